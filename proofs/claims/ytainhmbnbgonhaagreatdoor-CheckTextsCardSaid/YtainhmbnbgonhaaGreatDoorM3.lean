import Derived.Deep.LoopGhost
import Derived.MapKept
import Derived.WideKeyRuns
import Derived.Test.YtainhmbnbgonhaaGreatDoorM2
set_option linter.unusedSimpArgs false
set_option linter.unnecessarySimpa false
namespace GP
open Go
variable {P : Program} {X : d8} {c : Cx} {w : World} {H : Hp}
theorem Inv.newmap (k : Inv c w H) (nn : Nat) {o : Nat} (hf : c.bd o = false) {H' : Hp} (h0 : H'[o]? = some (.map [] 0)) (hH : ∀ o',o' ≠ o -> H'[o']? = H[o']?) :
  Inv (cM c o w.heap.size nn) (w.alloc (.map #[] 0)) H':=by
 have hle:=rQ (c:=c) (o:=o) (b:=w.heap.size) (n:=nn) hf
 have hβ : ∀ o',o' ≠ o -> (cM c o w.heap.size nn).β o' = c.β o':=fun o' h=>by show eF _ _ _ _ = _;unfold eF;rw [if_neg h]
 have hβ0 : (cM c o w.heap.size nn).β o = w.heap.size:=by show eF _ _ _ _ = _;unfold eF;rw [if_pos rfl]
 have hz : ∀ o',o' ≠ o -> (cM c o w.heap.size nn).sz o' = c.sz o':=fun o' h=>by show eF _ _ _ _ = _;unfold eF;rw [if_neg h]
 have hz0 : (cM c o w.heap.size nn).sz o = nn:=by show eF _ _ _ _ = _;unfold eF;rw [if_pos rfl]
 have hb : ∀ o',o' ≠ o -> (cM c o w.heap.size nn).bd o' = c.bd o':=fun o' h=>by show lZ _ _ _ = _;unfold lZ;rw [if_neg h]
 have hb0 : (cM c o w.heap.size nn).bd o = true:=by show lZ _ _ _ = _;unfold lZ;rw [if_pos rfl]
 have hMnew : ∀ i,c.M ⟨w.heap.size,i,none⟩ = none:=fun i=>by
  cases hm : c.M ⟨w.heap.size,i,none⟩ with
  | none=>rfl
  | some v=>have:=k.M_lt hm;simp at this
 have hlow:=k.low
 refine ⟨?_,?_,?_,?_,?_,?_,?_,?_,?_,?_,?_⟩
 ·intro a v h
  have h' : c.M a = some v:=h
  rw [World.cell?_alloc_lt _ _ _ (k.M_lt h')]
  exact k.keep a v h'
 ·rw [World.size_alloc];exact Nat.le_succ_of_le k.low
 ·intro o' x' cs' ho' hx'
  by_cases e' : o' = o
  ·subst e'
   rw [h0] at ho';injection ho' with ho';subst ho';cases hx'
  ·rw [hH o' e'] at ho'
   rw [hβ o' e',hz o' e']
   exact (k.row o' x' cs' ho' hx').mono hle (jM (k.own o' _ ho' (Ob.live_of_cells hx')).2.2.1)
 ·intro o' ho'
  by_cases e' : o' = o
  ·subst e'
   rcases ho' with h | h
   ·rw [List.getElem?_eq_none h] at h0;cases h0
   ·rw [h0] at h;injection h with h;cases h
  ·rw [hb o' e']
   refine k.free o' ?_
   rcases ho' with h | h
   ·refine .inl ?_
    have:=hH o' e'
    rw [List.getElem?_eq_none h] at this
    exact List.getElem?_eq_none_iff.1 this.symm
   ·exact .inr (by rw [<- hH o' e'];exact h)
 ·intro o' x ho' hx
  by_cases e' : o' = o
  ·subst e'
   rw [hβ0,World.size_alloc]
   exact ⟨hb0,k.low,Nat.lt_succ_self _,hMnew⟩
  ·rw [hH o' e'] at ho'
   obtain ⟨h1,h2,h3,h4⟩:=k.own o' x ho' hx
   rw [hβ o' e',hb o' e',World.size_alloc]
   exact ⟨h1,h2,Nat.lt_succ_of_lt h3,h4⟩
 ·intro o1 o2 x1 x2 g1 g2 l1 l2 he
  by_cases e1 : o1 = o <;> by_cases e2 : o2 = o
  ·rw [e1,e2]
  ·subst e1
   rw [hβ0,hβ o2 e2] at he
   rw [hH o2 e2] at g2
   have:=(k.own o2 x2 g2 l2).2.2.1
   omega
  ·subst e2
   rw [hβ0,hβ o1 e1] at he
   rw [hH o1 e1] at g1
   have:=(k.own o1 x1 g1 l1).2.2.1
   omega
  ·rw [hβ o1 e1,hβ o2 e2] at he
   rw [hH o1 e1] at g1
   rw [hH o2 e2] at g2
   exact k.apart o1 o2 x1 x2 g1 g2 l1 l2 he
 ·intro o' es clk h
  by_cases e' : o' = o
  ·subst e'
   rw [h0] at h;injection h with h;injection h with h1 h2
   subst h1;subst h2
   rw [hβ0]
   exact ⟨by simp,nC w _⟩
  ·rw [hH o' e'] at h
   obtain ⟨g1,g2⟩:=k.map o' es clk h
   rw [hβ o' e']
   exact ⟨g1,(jM (k.own o' _ h rfl).2.2.1).trans g2⟩
 ·intro o' m l h
  by_cases e' : o' = o
  ·subst e';rw [h0] at h;injection h with h;cases h
  ·rw [hH o' e'] at h;exact k.iter o' m l h
 ·intro τ m z hτ
  obtain ⟨h1,h2,h3,h4,h5⟩:=k.tok τ m z hτ
  refine ⟨h1,by rw [World.size_alloc];exact Nat.lt_succ_of_lt h2,h3,h4,fun j a b=>?_⟩
  obtain ⟨g1,g2,g3⟩:=h5 j a b
  refine ⟨?_,?_,g3⟩
  ·have:=World.cell?_alloc_lt w (.map #[] 0) ⟨(c.κ τ).1.block,(c.κ τ).1.off + j,none⟩ h2
   exact (congrArg Option.isSome this).trans g1
  ·have:=World.frozen?_alloc_old w (.map #[] 0) ⟨(c.κ τ).1.block,(c.κ τ).1.off + j,none⟩ (Nat.ne_of_lt h2)
   exact this.trans g2
 ·intro τ m z o' x hτ ho' hx
  by_cases e' : o' = o
  ·subst e'
   rw [hβ0]
   exact Nat.ne_of_gt (k.tok τ m z hτ).2.1
  ·rw [hH o' e'] at ho'
   rw [hβ o' e']
   exact k.tokrow τ m z o' x hτ ho' hx
 ·exact k.toks
theorem PI (k : Inv c w H) {T : Tk} (hT : c.T = T) : Yld c w (H ++ [.map [] 0]) T (.mp H.length) (.ok (.map (some w.heap.size)) (w.alloc (.map #[] 0))):=by
 have hf:=k.free H.length (.inl (Nat.le_refl _))
 refine ⟨_,cM c H.length w.heap.size 0,_,rfl,?_,k.newmap 0 hf (rT _ _) (fun o h=>jR _ _ o h),rQ hf,hT,Below.of_alloc w _ k.low⟩
 have : Rep (cM c H.length w.heap.size 0) (.mp H.length) (.map (some ((cM c H.length w.heap.size 0).β H.length))):=Rep.mp _ (by show lZ _ _ _ = _;unfold lZ;rw [if_pos rfl])
 have hβ0 : (cM c H.length w.heap.size 0).β H.length = w.heap.size:=by show eF _ _ _ _ = _;unfold eF;rw [if_pos rfl]
 rwa [hβ0] at this
def jU (w : World) (b : Nat) (o : Obj) : World:={ w with heap:=w.heap.setIfInBounds b o }
theorem Aj (k : Inv c w H) {o : Nat} {es : List (D × D × Nat)} {clk : Nat} (ho : H[o]? = some (.map es clk)) (es' : List (D × D × Nat)) (clk' : Nat) (hp : ∀ x ∈ es',pu x.1 = true /\ pu x.2.1 = true) :
  Inv c (jU w (c.β o) (.map (es'.map iP).toArray clk')) (H.set o (.map es' clk')) /\ Below c.bb w (jU w (c.β o) (.map (es'.map iP).toArray clk')):=by
 obtain ⟨k0,k1,k2,k3⟩:=k.own o _ ho rfl
 obtain ⟨m1,m2⟩:=k.map o es clk ho
 obtain ⟨s1,s2⟩:=MapKept.heap_set (o':=.map (es'.map iP).toArray clk') m2
 have hlt : o < H.length:=by
  rcases Nat.lt_or_ge o H.length with h' | h'
  ·exact h'
  ·rw [List.getElem?_eq_none h'] at ho;cases ho
 have hHo : (H.set o (.map es' clk'))[o]? = some (.map es' clk'):=by simp [hlt]
 have hHne : ∀ o',o' ≠ o -> (H.set o (.map es' clk'))[o']? = H[o']?:=fun o' h=>by rw [List.getElem?_set_ne (Ne.symm h)]
 have hsz : (jU w (c.β o) (.map (es'.map iP).toArray clk')).heap.size = w.heap.size:=by simp [jU]
 have hcell : ∀ a : Addr,a.block ≠ c.β o -> (jU w (c.β o) (.map (es'.map iP).toArray clk')).cell? a = w.cell? a:=fun a h=>by
  have:=s2 a.block h
  simp only [World.cell?,jU,this]
 have hfroz : ∀ a : Addr,a.block ≠ c.β o -> (jU w (c.β o) (.map (es'.map iP).toArray clk')).frozen? a = w.frozen? a:=fun a h=>by
  have:=s2 a.block h
  simp only [World.frozen?,jU,this]
 have key : ∀ (o' : Nat) (y : Ob),(H.set o (.map es' clk'))[o']? = some y -> y.live = true -> ∃ x' : Ob,H[o']? = some x' /\ x'.live = true:=fun o' y h l=>by
  by_cases e' : o' = o
  ·subst e';exact ⟨_,ho,rfl⟩
  ·rw [hHne o' e'] at h;exact ⟨y,h,l⟩
 refine ⟨⟨?_,by rw [hsz];exact k.low,?_,?_,?_,?_,?_,?_,?_,?_,k.toks⟩,?_⟩
 ·intro a v ha
  have hc:=k.keep a v ha
  have hne : a.block ≠ c.β o:=fun e=>by
   simp only [World.cell?,e,m2] at hc;cases hc
  rw [hcell a hne];exact hc
 ·intro o' x cs h hx
  by_cases e' : o' = o
  ·subst e';rw [hHo] at h;injection h with h;subst h;cases hx
  ·rw [hHne o' e'] at h
   have hb:=fun e=>e' (k.apart o' o _ _ h ho (Ob.live_of_cells hx) rfl e)
   exact (k.row o' x cs h hx).mono (Cx.le.refl c) (s2 _ hb)
 ·intro o' h
  refine k.free o' ?_
  rcases h with h | h
  ·exact .inl (by simpa using h)
  ·by_cases e' : o' = o
   ·subst e';rw [hHo] at h;cases h
   ·rw [hHne o' e'] at h;exact .inr h
 ·intro o' x h hx
  rw [hsz]
  by_cases e' : o' = o
  ·subst e';exact ⟨k0,k1,k2,k3⟩
  ·rw [hHne o' e'] at h;exact k.own o' x h hx
 ·intro o1 o2 x1 x2 h1' h2' l1 l2 he
  obtain ⟨y1,a1,b1⟩:=key o1 x1 h1' l1
  obtain ⟨y2,a2,b2⟩:=key o2 x2 h2' l2
  exact k.apart o1 o2 y1 y2 a1 a2 b1 b2 he
 ·intro o' es2 clk2 h
  by_cases e' : o' = o
  ·subst e'
   rw [hHo] at h;injection h with h;injection h with e1 e2
   subst e1;subst e2
   exact ⟨hp,s1⟩
  ·rw [hHne o' e'] at h
   obtain ⟨g1,g2⟩:=k.map o' es2 clk2 h
   have hb:=fun e=>e' (k.apart o' o _ _ h ho rfl rfl e)
   exact ⟨g1,(s2 _ hb).trans g2⟩
 ·intro o' m l h
  by_cases e' : o' = o
  ·subst e';rw [hHo] at h;cases h
  ·rw [hHne o' e'] at h;exact k.iter o' m l h
 ·intro τ m z hτ
  obtain ⟨h1,h2,h3,h4,h5⟩:=k.tok τ m z hτ
  have hb : (c.κ τ).1.block ≠ c.β o:=fun e=>k.tokrow τ m z o _ hτ ho rfl e.symm
  refine ⟨h1,by rw [hsz];exact h2,h3,h4,fun j a b=>?_⟩
  obtain ⟨z1,z2,z3⟩:=h5 j a b
  exact ⟨(congrArg Option.isSome (hcell ⟨(c.κ τ).1.block,(c.κ τ).1.off + j,none⟩ hb)).trans z1,(hfroz ⟨(c.κ τ).1.block,(c.κ τ).1.off + j,none⟩ hb).trans z2,z3⟩
 ·intro τ m z o' x hτ h hx
  by_cases e' : o' = o
  ·subst e';exact k.tokrow τ m z o' _ hτ ho rfl
  ·rw [hHne o' e'] at h;exact k.tokrow τ m z o' x hτ h hx
 ·exact ⟨rfl,rfl,rfl,by rw [hsz];exact Nat.le_refl _,fun i hi=>s2 i (fun e=>by have hi' : i < c.B:=hi;omega),fun _=>Nat.le_refl _⟩
end GP
namespace GP
open Go
variable {P : Program} {c : Cx} {w : World} {H : Hp}
theorem H7 {t : TypeId} {ks : List Ck} (ht : cks P t = some ks) {xs ys : List D} {vx vy : List Value} (kx : Cells c xs vx) (ky : Cells c ys vy) (hk : fV xs ks = true) {b : Bool}
  (h : bA xs ys = some b) : (Op.equal t (.agg vx.toArray) (.agg vy.toArray)).run P w = .ok b w:=by
 show (Op.equalIn 10000 t (.agg vx.toArray) (.agg vy.toArray)).run P w = .ok b w
 unfold cks at ht
 split at ht
 ·rename_i fs hu
  split at ht
  ·rename_i hg
   simp at hg
   have hf : P.fieldsOf t = fs:=by simp [Program.fieldsOf,hu]
   rw [show (10000 : Nat) = 9999 + 1 from rfl,run_equalIn_struct w 9999 t _ _ (by rw [hf];exact hu) hg.1,hf]
   exact nZ 9998 vx vy fs.toList ks 0 xs ys b ht (by simpa using kx) (by simpa using ky) hk h
  ·cases ht
 ·rename_i n e hu
  split at ht
  ·rename_i hg
   simp at hg
   cases hc : uO P e with
   | none=>rw [hc] at ht;cases ht
   | some k =>
    rw [hc] at ht;injection ht with ht;subst ht
    obtain ⟨i,hi⟩ : ∃ i,P.info? e = some i:=by
     have:=hg.2
     unfold tsz at this
     cases hi : P.info? e with
     | none=>rw [hi] at this;cases this
     | some i=>exact ⟨i,rfl⟩
    have hcell : P.cellsOf e = 1:=by
     have:=hg.2
     unfold tsz at this
     rw [hi] at this;injection this with this
     simp [Program.cellsOf,hi,this]
    rw [show (10000 : Nat) = 9999 + 1 from rfl,run_equalIn_array (P:=P) w 9999 vx.toArray vy.toArray hu hi,hcell,List.range_eq_range']
    exact pC 9998 hc hg.2 vx vy n 0 xs ys b (by simpa using kx) (by simpa using ky) hk h
  ·cases ht
 ·cases ht
theorem GH (c : Cx) {xs : List D} (h : xs.all pu1 = true) : Cells c xs (xs.map iT):=by
 simp only [List.all_eq_true] at h
 refine ⟨by simp,fun d hd=>(A5 c (h d hd)).2,fun i hi hi'=>?_⟩
 simp only [List.getElem_map]
 exact (A5 c (h _ (List.getElem_mem hi))).1
theorem Fm {t : TypeId} {k : Ck} (h : uO P t = some k) : ∃ d,P.underlying t = some d /\ ((k = .int /\ ∃ q,d = .int q) ∨ (k = .str /\ d = .string) ∨ (k = .bool /\ d = .bool)):=by
 unfold uO at h
 split at h <;> first | cases h | (injection h with h;subst h)
 ·rename_i hu;exact ⟨_,hu,.inl ⟨rfl,_,rfl⟩⟩
 ·rename_i hu;exact ⟨_,hu,.inr (.inl ⟨rfl,rfl⟩)⟩
 ·rename_i hu;exact ⟨_,hu,.inr (.inr ⟨rfl,rfl⟩)⟩
theorem HG {t : TypeId} {k : Ck} (h : uO P t = some k) (em : Bool) (n : Nat) (v : Value) : (Instr.checkKey em (n + 1) t v).run P w = .ok () w:=by
 obtain ⟨d,hu,hd⟩:=Fm h
 rcases hd with ⟨_,q,rfl⟩ | ⟨_,rfl⟩ | ⟨_,rfl⟩ <;> simp [Instr.checkKey,run_underlying hu]
theorem Ay {α : Type} {body : α -> PUnit -> Sem (ForInStep PUnit)} : ∀ (l : List α),(∀ x ∈ l,(body x ⟨⟩).run P w = .ok (.yield ⟨⟩) w) -> (forIn l PUnit.unit body).run P w = .ok ⟨⟩ w
 | [],_=>by simp
 | x :: l,h=>by
  simp only [List.forIn_cons,Sem.run_bind,h x (by simp),Result.andThen_ok]
  exact Ay l fun y hy=>h y (by simp [hy])
theorem GS : ∀ (fs : List Field) (ks : List Ck) (i : Nat), Gk P i fs = some ks -> ∀ f ∈ fs, f.name ≠ "_" /\ (∃ k, uO P f.type = some k) /\ f.offset < i + ks.length
 | [],_,_,_,_,hf=>by cases hf
 | g :: fs,ks,i,h,f,hf=>by
  simp only [Gk] at h
  split at h
  ·rename_i hn
   simp at hn
   split at h
   ·rename_i k ks' e1 e2
    injection h with h;subst h
    rcases List.mem_cons.1 hf with rfl | hf
    ·exact ⟨hn.1,⟨k,e1⟩,by rw [hn.2];simp⟩
    ·obtain ⟨h1,h2,h3⟩:=GS fs ks' (i + 1) e2 f hf
     exact ⟨h1,h2,by simp;omega⟩
   ·cases h
  ·cases h
theorem En : ∀ {xs : List D} {ks : List Ck},fV xs ks = true -> xs.length = ks.length
 | [],[],_=>rfl
 | [],_ :: _,h=>by simp [fV] at h
 | _ :: _,[],h=>by simp [fV] at h
 | _ :: xs,_ :: ks,h=>by
  simp only [fV,Bool.and_eq_true] at h
  simp [En h.2]
theorem pV {kt : TypeId} {ks : Bool × List Ck} (hk : As P kt = some ks) {k : D} (hok : kok ks k = true) (em : Bool) (n : Nat) : (Instr.checkKey em (n + 2) kt (vOf k)).run P w = .ok () w:=by
 unfold As at hk
 split at hk
 ·rename_i q hq
  exact HG hq em (n + 1) _
 ·split at hk
  ·rename_i l hl
   injection hk with hk;subst hk
   unfold kok at hok
   simp only [Bool.and_eq_true] at hok
   obtain ⟨hp,hok⟩:=hok
   cases k with
   | agg xs =>
    simp only at hok
    have hlen:=En hok
    have hv : vOf (.agg xs) = .agg (xs.map iT).toArray:=rfl
    rw [hv]
    unfold cks at hl
    split at hl
    ·rename_i fs hu
     split at hl
     ·rw [show n + 2 = (n + 1) + 1 from rfl,Instr.checkKey]
      simp only [Sem.run_bind,run_underlying hu,Result.andThen_ok]
      rw [<- Array.forIn_toList,Ay _ fun f hf=>?_]
      ·simp
      ·obtain ⟨h1,⟨q,h2⟩,h3⟩:=GS _ _ _ hl f hf
       have lx : f.offset < (xs.map iT).length:=by simp [hlen];omega
       have px : (part f.type (xs.map iT).toArray f.offset).run P w = .ok (xs.map iT)[f.offset] w:=by simp [part,fP (xA h2)];simp at lx;simp [lx]
       simp only [h1,ne_eq,not_false_eq_true,if_true,Sem.run_bind,px,Result.andThen_ok,HG h2,Sem.run_pure]
     ·cases hl
    ·rename_i m e hu
     split at hl
     ·rename_i hg
      simp at hg
      cases hc : uO P e with
      | none=>rw [hc] at hl;cases hl
      | some q =>
       rw [hc] at hl;injection hl with hl;subst hl
       obtain ⟨i,hi,hs⟩ : ∃ i,P.info? e = some i /\ P.cellsOf e = 1:=by
        have:=hg.2
        unfold tsz at this
        cases hi : P.info? e with
        | none=>rw [hi] at this;cases this
        | some i=>rw [hi] at this;injection this with this;exact ⟨i,rfl,by simp [Program.cellsOf,hi,this]⟩
       rw [show n + 2 = (n + 1) + 1 from rfl,Instr.checkKey]
       simp only [Sem.run_bind,run_underlying hu,Result.andThen_ok]
       simp only [Std.Legacy.Range.forIn_eq_forIn_range',Std.Legacy.Range.size,Nat.sub_zero,Nat.add_one_sub_one,Nat.div_one]
       rw [Ay _ fun j hj=>?_]
       ·simp
       ·simp only [List.mem_range'_1] at hj
        have lx : j < xs.length:=by simp at hlen;omega
        have px : (part e (xs.map iT).toArray (j * 1)).run P w = .ok (iT xs[j]) w:=by simp [part,fP (xA hc),lx]
        simp only [Sem.run_bind,run_sizeOf w hi,hs,Result.andThen_ok,px,HG hc,Sem.run_pure]
     ·cases hl
    ·cases hl
   | _=>simp at hok
  ·cases hk
def zS (r : Option (Nat × D × Nat)) : Option (Nat × Value):=r.map fun p=>(p.1,vOf p.2.1)
theorem Cs {q : Ck} {kd : TypeDesc} (hd : (q = .int /\ ∃ j,kd = .int j) ∨ (q = .str /\ kd = .string) ∨ (q = .bool /\ kd = .bool)) {k : D} : ∀ (es : List (D × D × Nat)) (i : Nat) (r : Option (Nat × D × Nat)),fnd (false,[q]) k es i = some r →
  Instr.findNow kd (vOf k) (es.map iP) i = some (zS r)
 | [],i,r,h=>by simp [fnd] at h;subst h;rfl
 | (k',v,b) :: es,i,r,h=>by
  simp only [fnd] at h
  have key : ∀ x,keq (false,[q]) k k' = some x -> Instr.sameNow kd (vOf k) (vOf k') = some x:=by
   intro x hx
   unfold keq at hx
   simp only at hx
   split at hx
   ·rename_i hc
    simp only [fV,Bool.and_eq_true,beq_iff_eq,and_true] at hc
    rcases hd with ⟨rfl,j,rfl⟩ | ⟨rfl,rfl⟩ | ⟨rfl,rfl⟩ <;> cases k <;> simp [ckD] at hc <;> cases k' <;> simp [iF] at hx
    ·obtain ⟨h1,h2⟩:=hx
     subst h1;simp [Instr.sameNow,vOf,iT,← h2]
    ·subst hx
     simp only [Instr.sameNow,vOf,iT]
     congr 1
     rename_i a b
     show ((⟨a.toArray⟩ : ByteArray) == ⟨b.toArray⟩) = (a == b)
     rw [Bool.eq_iff_iff,MapKept.bytes_beq]
     simp
    ·subst hx;simp [Instr.sameNow,vOf,iT]
   ·cases hx
  simp only [List.map_cons,Instr.findNow,iP]
  split at h
  ·rename_i hx
   injection h with h;subst h
   rw [key _ hx];rfl
  ·rename_i hx
   rw [key _ hx]
   exact Cs hd es (i + 1) r h
  ·cases h
theorem Cj {kt : TypeId} {ks : List Ck} (ht : cks P kt = some ks) {xs : List D} (hx : xs.all pu1 = true) : ∀ (es : List (D × D × Nat)) (i : Nat) (r : Option (Nat × D × Nat)),(∀ x ∈ es,pu x.1 = true /\ pu x.2.1 = true) -> fnd (true,ks) (.agg xs) es i = some r →
  (Instr.findAsking kt (vOf (.agg xs)) (es.map iP) i).run P w = .ok (zS r) w
 | [],i,r,hp,h=>by simp [fnd] at h;subst h;simp [Instr.findAsking,zS]
 | (k',v,b) :: es,i,r,hp,h=>by
  simp only [fnd] at h
  have hk':=(hp (k',v,b) (by simp)).1
  simp only at hk'
  have key : ∀ x,keq (true,ks) (.agg xs) k' = some x -> (Op.equal kt (vOf (.agg xs)) (vOf k')).run P w = .ok x w:=by
   intro x hx'
   unfold keq at hx'
   cases k' with
   | agg ys =>
    simp only at hx'
    split at hx'
    ·rename_i hc
     have c0 : Cx:=⟨fun _=>none,fun _=>0,fun _=>(⟨0,0,none⟩,0),fun _=>false,[],(false,0),fun _=>0⟩
     exact H7 ht (GH c0 hx) (GH c0 hk') hc hx'
    ·cases hx'
   | _=>simp at hx'
  simp only [List.map_cons,Instr.findAsking,iP,Sem.run_bind]
  split at h
  ·rename_i hx'
   injection h with h;subst h
   rw [key _ hx'];simp [zS]
  ·rename_i hx'
   rw [key _ hx']
   simp only [Result.andThen_ok,Bool.false_eq_true,if_false]
   exact Cj ht hx es (i + 1) r (fun x hx=>hp x (by simp [hx])) h
  ·cases h
theorem lT {kt : TypeId} {ks : Bool × List Ck} (hk : As P kt = some ks) {k : D} (hok : kok ks k = true) {es : List (D × D × Nat)} {r : Option (Nat × D × Nat)} (hp : ∀ x ∈ es,pu x.1 = true /\ pu x.2.1 = true) (h : fnd ks k es 0 = some r) :
  (Instr.findKey kt (vOf k) (es.map iP)).run P w = .ok (zS r) w:=by
 unfold As at hk
 split at hk
 ·rename_i q hq
  injection hk with hk;subst hk
  obtain ⟨d,hu,hd⟩:=Fm hq
  exact MapKept.run_findKey hu (Cs hd es 0 r h)
 ·split at hk
  ·rename_i l hl
   injection hk with hk;subst hk
   unfold kok at hok
   simp only [Bool.and_eq_true] at hok
   obtain ⟨hpk,hok⟩:=hok
   cases k with
   | agg xs =>
    have hw : (match P.underlying kt with | some (.array _ _) | some (.struct _)=>true | _=>false) = true:=by
     unfold cks at hl
     split at hl
     ·rename_i hu;rw [hu]
     ·rename_i hu;rw [hu]
     ·cases hl
    rw [run_findKey_eq w hw]
    exact Cj hl hpk es 0 r hp h
   | _=>simp at hok
  ·cases hk
end GP
namespace GP
open Go
variable {P : Program} {X : d8} {imp : Hn} {dr : Bool} {j : Pl} {c : Cx} {s : S} {a : Act} {w : World} {K : D -> S -> Prop}
theorem AQ {ks : Bool × List Ck} {k : D} : ∀ {es : List (D × D × Nat)} {i0 i b : Nat} {v : D},fnd ks k es i0 = some (some (i,v,b)) -> i0 <= i /\ ∃ k',es[i - i0]? = some (k',v,b) /\ keq ks k k' = some true
 | [],_,_,_,_,h=>by simp [fnd] at h
 | (k',v',b') :: es,i0,i,b,v,h=>by
  simp only [fnd] at h
  split at h
  ·rename_i hk
   injection h with h;injection h with h;injection h with h1 h2;injection h2 with h2 h3
   subst h1;subst h2;subst h3
   exact ⟨Nat.le_refl _,k',by simp,hk⟩
  ·obtain ⟨h1,k2,h2,h3⟩:=AQ h
   refine ⟨by omega,k2,?_,h3⟩
   rw [show i - i0 = (i - (i0 + 1)) + 1 by omega]
   simpa using h2
  ·cases h
theorem Fj {x y : D} (h : iF x y = some true) (n : Nat) : Instr.sameBits n (iT y) (iT x) = true:=by
 cases x <;> cases y <;> simp [iF] at h
 ·subst h;cases n <;> simp [iT,Instr.sameBits]
 ·obtain ⟨h1,h2⟩:=h
  subst h1;subst h2;cases n <;> simp [iT,Instr.sameBits]
 ·subst h
  have : ∀ b : ByteArray,(b == b) = true:=fun b=>(MapKept.bytes_beq b b).2 rfl
  cases n <;> simp [iT,Instr.sameBits,this]
theorem vA (n : Nat) : ∀ {xs ys : List D},bA xs ys = some true -> xs.length = ys.length /\ ((ys.map iT).zip (xs.map iT)).all (fun (x,y)=>Instr.sameBits n x y) = true
 | [],[],_=>⟨rfl,rfl⟩
 | [],_ :: _,h=>by simp [bA] at h
 | _ :: _,[],h=>by simp [bA] at h
 | x :: xs,y :: ys,h=>by
  simp only [bA] at h
  split at h
  ·rename_i p q hp hq
   injection h with h
   simp only [Bool.and_eq_true] at h
   obtain ⟨h1,h2⟩:=h
   subst h1;subst h2
   obtain ⟨i1,i2⟩:=vA n hq
   refine ⟨by simp [i1],?_⟩
   simp only [List.map_cons,List.zip_cons_cons,List.all_cons,Fj hp,i2,Bool.and_self]
  ·cases h
theorem F4 {ks : Bool × List Ck} {k k' : D} (h : keq ks k k' = some true) : Instr.sameBits 10000 (vOf k') (vOf k) = true:=by
 obtain ⟨ag,ks⟩:=ks
 cases ag with
 | true =>
  cases k with
  | agg xs =>
   cases k' with
   | agg ys =>
    have h : (if fV xs ks = true then bA xs ys else none) = some true:=h
    split at h
    ·obtain ⟨h1,h2⟩:=vA 9999 h
     show (((ys.map iT).toArray.size == (xs.map iT).toArray.size) && ((ys.map iT).toArray.toList.zip (xs.map iT).toArray.toList).all fun (x,y)=>Instr.sameBits 9999 x y) = true
     simp only [List.size_toArray,List.length_map,h1,beq_self_eq_true,Bool.true_and]
     exact h2
    ·cases h
   | _=>simp [keq] at h
  | _=>simp [keq] at h
 | false =>
  have h : (if fV [k] ks = true then iF k k' else none) = some true:=h
  split at h
  ·cases k <;> cases k' <;> simp [iF] at h
   ·subst h;simp [vOf,iT,Instr.sameBits]
   ·obtain ⟨h1,h2⟩:=h
    subst h1;subst h2;simp [vOf,iT,Instr.sameBits]
   ·subst h
    have : ∀ b : ByteArray,(b == b) = true:=fun b=>(MapKept.bytes_beq b b).2 rfl
    simp [vOf,iT,Instr.sameBits,this]
  ·cases h
theorem tX {ks : Bool × List Ck} {k : D} (h : kok ks k = true) : pu k = true:=by
 unfold kok at h
 simp only [Bool.and_eq_true] at h
 exact h.1
theorem Bw {es : List (D × D × Nat)} {i b : Nat} {k k' v v' : D} (h : es[i]? = some (k',v',b)) : (es.map iP).toArray.modify i (fun e=>{ e with key:=vOf k,val:=vOf v }) = ((es.set i (k,v,b)).map iP).toArray:=by
 apply Array.ext_getElem?
 intro j
 rw [Array.getElem?_modify]
 simp only [List.getElem?_toArray,List.getElem?_map]
 by_cases e : i = j
 ·subst e
  have : i < es.length:=by
   rcases Nat.lt_or_ge i es.length with h' | h'
   ·exact h'
   ·rw [List.getElem?_eq_none h'] at h;cases h
  rw [if_pos rfl,h,List.getElem?_set_self this]
  rfl
 ·rw [if_neg e,List.getElem?_set_ne e]
theorem DD (es : List (D × D × Nat)) (k v : D) (b : Nat) : (es.map iP).toArray.push { key:=vOf k,val:=vOf v,born:=b } = ((es ++ [(k,v,b)]).map iP).toArray:=by
 simp [iP]
theorem Gm {es : List (D × D × Nat)} (hp : ∀ x ∈ es,pu x.1 = true /\ pu x.2.1 = true) {i b : Nat} {k v : D} (hk : pu k = true) (hv : pu v = true) : ∀ x ∈ es.set i (k,v,b),pu x.1 = true /\ pu x.2.1 = true:=fun x hx=>by
 rcases List.mem_or_eq_of_mem_set hx with h | rfl
 ·exact hp x h
 ·exact ⟨hk,hv⟩
theorem IY {es : List (D × D × Nat)} (hp : ∀ x ∈ es,pu x.1 = true /\ pu x.2.1 = true) {b : Nat} {k v : D} (hk : pu k = true) (hv : pu v = true) : ∀ x ∈ es ++ [(k,v,b)],pu x.1 = true /\ pu x.2.1 = true:=fun x hx=>by
 rcases List.mem_append.1 hx with h | h
 ·exact hp x h
 ·rw [List.mem_singleton] at h;subst h;exact ⟨hk,hv⟩
theorem DV {o : Nat} {v : Value} (h : Rep c (.mp o) v) : v = .map (some (c.β o)):=by cases h;rfl
theorem Ln {o : Oper} {t : TypeId} {r : Option Operand} (ho : o.op = .makeMap t r) {oo : O} (h : cOp P imp dr j o.op = some oo) (hs : Sim c s a w) (hW : WO X oo s K) : cK P o a c w s K:=by
 rw [ho] at h
 have he : execOp a.eval o = (do pure (.value (← Instr.makeMap t (r.map a.eval)))):=by unfold execOp;simp only [ho]
 cases r with
 | some r=>simp [cOp] at h
 | none =>
  simp only [cOp] at h
  split at h
  ·cases h
  ·split at h
   ·injection h with h;subst h
    have hm : (Instr.makeMap t none).run P w = .ok (.map (some w.heap.size)) (w.alloc (.map #[] 0)):=by simp [Instr.makeMap]
    change K (.mp s.H.length) ⟨s.t,s.H ++ [.map [] 0],s.T⟩ at hW
    refine dW he (d:=.mp s.H.length) (s':=⟨s.t,s.H ++ [.map [] 0],s.T⟩) hW rfl ?_
    simp only [Option.map_none,hm]
    exact PI hs.inv hs.T
   ·cases h
theorem KC {o : Oper} {t : TypeId} {x y : Operand} {ok : Bool} (ho : o.op = .lookup t x y ok) {oo : O} (h : cOp P imp dr j o.op = some oo) (hs : Sim c s a w) (hW : WO X oo s K) : cK P o a c w s K:=by
 rw [ho] at h
 have he : execOp a.eval o = (do pure (.value (← Instr.lookup t (a.eval x) (a.eval y) ok))):=by unfold execOp;simp only [ho]
 simp only [cOp] at h
 split at h
 ·rename_i kt et r q hm hr hq
  split at h
  ·rename_i ks z hks hz
   injection h with h;subst h
   obtain ⟨d,hd,hW⟩:=cY hW
   simp only [qv] at hd
   have hpz : pu z = true:=by
    cases hq' : pu z with
    | true=>rfl
    | false=>rw [hq'] at hd;simp at hd
   rw [if_pos hpz] at hd
   unfold sV at hd
   split at hd
   ·rename_i hok
    have hu:=vB hm
    have rk:=xC (tX hok) (aW hq hs.fr)
    have rx:=aW hr hs.fr
    obtain ⟨_,zv,hzv,rz⟩:=CU hz c w
    have tup : ∀ (e : D) (v : Value) (b : Bool),Rep c e v -> Rep c (.tup [e,.bool b]) (.tuple #[v,.bool b]):=fun e v b hr=>by
     refine Rep.tup [e,.bool b] [v,.bool b] rfl fun i hi hi'=>?_
     match i,hi with
     | 0,_=>exact hr
     | 1,_=>exact .bool _
    have chk : ∀ em,(Instr.checkKey em 10000 kt (a.eval y)).run P w = .ok () w:=fun em=>by
     rw [rk];exact pV (P:=P) (w:=w) hks hok em 9998
    have go : ∀ es,kS s.H (s.ev r) = some es -> (∀ x ∈ es,pu x.1 = true /\ pu x.2.1 = true) /\ ((a.eval x = .map none /\ es = []) ∨ ∃ b clk,a.eval x = .map (some b) /\ w.heap[b]? = some (.map (es.map iP).toArray clk)):=by
     intro es hes
     unfold kS at hes
     split at hes
     ·rename_i hev
      injection hes with hes;subst hes
      rw [hev] at rx
      refine ⟨by simp,.inl ⟨?_,rfl⟩⟩
      generalize a.eval x = v at rx
      cases rx;rfl
     ·rename_i o' hev
      rw [hev] at rx
      split at hes
      ·rename_i es' clk ho'
       injection hes with hes;subst hes
       obtain ⟨g1,g2⟩:=hs.inv.map o' _ _ ho'
       exact ⟨g1,.inr ⟨c.β o',clk,DV rx,g2⟩⟩
      ·cases hes
     ·cases hes
    split at hd
    ·rename_i es hes
     obtain ⟨hp,hx⟩:=go es hes
     have hd2 : ∃ r0,fnd ks (s.ev q) es 0 = some r0 /\ (match r0 with | some (_,v,_)=>some (if ok then D.tup [v,.bool true] else v) | none=>some (if ok then .tup [z,.bool false] else z)) = some d:=by
      split at hd
      ·rename_i i v b hf;exact ⟨_,hf,hd⟩
      ·rename_i hf;exact ⟨_,hf,hd⟩
      ·cases hd
     obtain ⟨r0,hf,hd2⟩:=hd2
     have hfs:=lT (P:=P) (w:=w) hks hok hp hf
     rw [<- rk] at hfs
     cases r0 with
     | some p =>
      obtain ⟨i,v,b⟩:=p
      obtain ⟨_,k',g1,_⟩:=AQ hf
      have hv:=(hp _ (List.mem_of_getElem? g1)).2
      simp only at hd2 hv
      injection hd2 with hd2
      refine aR hs he hW ⟨if ok then .tuple #[vOf v,.bool true] else vOf v,?_,?_⟩
      ·unfold Instr.lookup
       rcases hx with ⟨hx,rfl⟩ | ⟨b,clk,hx,hb⟩
       ·simp at g1
       ·simp [hx,run_underlying hu,MapKept.run_getObj_map hb,chk,hfs,zS]
      ·cases ok with
       | true=>subst hd2;exact tup _ _ _ (Dy c hv)
       | false=>subst hd2;exact Dy c hv
     | none =>
      simp only at hd2
      injection hd2 with hd2
      refine aR hs he hW ⟨if ok then .tuple #[zv,.bool false] else zv,?_,?_⟩
      ·unfold Instr.lookup
       rcases hx with ⟨hx,rfl⟩ | ⟨b,clk,hx,hb⟩
       ·simp only [List.map_nil] at hfs
        simp [hx,run_underlying hu,chk,hfs,zS,hzv]
       ·simp [hx,run_underlying hu,MapKept.run_getObj_map hb,chk,hfs,zS,hzv]
      ·cases ok with
       | true=>subst hd2;exact tup _ _ _ rz
       | false=>subst hd2;exact rz
    ·cases hd
   ·cases hd
  ·cases h
 ·cases h
theorem IZ {es : List (D × D × Nat)} {i b : Nat} {k' v : D} (h : es[i]? = some (k',v,b)) (d : Value) : ((((es.map iP).toArray[i]?).map (·.key)).getD d) = vOf k':=by
 simp [h,iP]
theorem Ol {o : Oper} {t : TypeId} {x y z : Operand} (ho : o.op = .mapUpdate t x y z) {oo : O} (h : cOp P imp dr j o.op = some oo) (hs : Sim c s a w) (hW : WO X oo s K) : cK P o a c w s K:=by
 rw [ho] at h
 have he : execOp a.eval o = (do Instr.mapUpdate t (a.eval x) (a.eval y) (a.eval z);pure .skip):=by unfold execOp;simp only [ho]
 simp only [cOp] at h
 split at h
 ·rename_i kt et r q p hm hr hq hp
  split at h
  ·rename_i ks hks
   injection h with h;subst h
   obtain ⟨hok,hpv,hW⟩:=hW
   have hu:=vB hm
   have rk:=xC (tX hok) (aW hq hs.fr)
   have rv:=xC hpv (aW hp hs.fr)
   have rx:=aW hr hs.fr
   have chk : ∀ em,(Instr.checkKey em 10000 kt (a.eval y)).run P w = .ok () w:=fun em=>by
    rw [rk];exact pV (P:=P) (w:=w) hks hok em 9998
   split at hW
   ·rename_i o' hev
    rw [hev] at rx
    have rx:=DV rx
    split at hW
    ·rename_i es clk hH
     obtain ⟨hpu,hb⟩:=hs.inv.map o' _ _ hH
     split at hW
     ·rename_i i v0 b hf
      have hfs:=lT (P:=P) (w:=w) hks hok hpu hf
      rw [<- rk] at hfs
      obtain ⟨_,k',g1,g2⟩:=AQ hf
      simp only [Nat.sub_zero] at g1
      have hsb:=F4 g2
      obtain ⟨e2,e3⟩:=Aj hs.inv hH (es.set i (s.ev q,s.ev p,b)) clk (Gm hpu (tX hok) hpv)
      refine .inr (.inl ⟨_,?_,⟨_,_,c,hW,rfl,Rep.top _,e2,Cx.le.refl c,hs.T,e3⟩⟩)
      rw [he]
      have hset:=Bw (k:=s.ev q) (v:=s.ev p) g1
      have hkey:=IZ g1 (a.eval y)
      unfold Instr.mapUpdate
      simp only [Sem.run_bind,run_underlying hu,Result.andThen_ok,rx,MapKept.run_getObj_map hb,chk,hfs,zS,Option.map_some,hkey]
      unfold Instr.keyThatStays
      rw [rk,rv,hsb]
      simp only [if_true,Sem.run_pure,Sem.run_bind,Result.andThen_ok,hset,MapKept.run_setObj_map _ hb]
      rfl
     ·rename_i hf
      have hfs:=lT (P:=P) (w:=w) hks hok hpu hf
      rw [<- rk] at hfs
      obtain ⟨e2,e3⟩:=Aj hs.inv hH (es ++ [(s.ev q,s.ev p,clk)]) (clk + 1) (IY hpu (tX hok) hpv)
      refine .inr (.inl ⟨_,?_,⟨_,_,c,hW,rfl,Rep.top _,e2,Cx.le.refl c,hs.T,e3⟩⟩)
      rw [he]
      have hpush:=DD es (s.ev q) (s.ev p) clk
      unfold Instr.mapUpdate
      simp only [Sem.run_bind,run_underlying hu,Result.andThen_ok,rx,MapKept.run_getObj_map hb,chk,hfs,zS,Option.map_none]
      rw [rk,rv,hpush]
      simp only [Sem.run_pure,Result.andThen_ok,MapKept.run_setObj_map _ hb]
      rfl
     ·exact hW.elim
    ·exact hW.elim
   ·exact hW.elim
  ·cases h
 ·cases h
theorem FU {e : D} {v : Value} (n : Int) (h : Rep c e v) : Rep c (.tup [e,.int .i64 n]) (.tuple #[v,.int .i64 n]):=by
 refine Rep.tup [e,.int .i64 n] [v,.int .i64 n] rfl fun i hi hi'=>?_
 match i,hi with
 | 0,_=>exact h
 | 1,_=>exact .int _ _
theorem Nv {es : List (D × D × Nat)} {i b : Nat} {k k' v : D} (h : es[i]? = some (k',v,b)) : (es.map iP).toArray.modify i (fun e=>{ e with key:=vOf k }) = ((es.set i (k,v,b)).map iP).toArray:=by
 rw [<- Bw (v:=v) h]
 apply Array.ext_getElem?
 intro j
 rw [Array.getElem?_modify,Array.getElem?_modify]
 by_cases e : i = j
 ·subst e
  simp only [if_true,List.getElem?_toArray,List.getElem?_map,h]
  rfl
 ·rw [if_neg e,if_neg e]
theorem Lq {es : List (D × D × Nat)} {i b : Nat} {k' v : D} (h : es[i]? = some (k',v,b)) : ((((es.map iP).toArray[i]?).map (fun x=>(x.born : Int))).getD 0) = (b : Int):=by
 simp [h,iP]
theorem P2 {o : Oper} {t : TypeId} {x y : Operand} (ho : o.op = .mapEntry t x y) {oo : O} (h : cOp P imp dr j o.op = some oo) (hs : Sim c s a w) (hW : WO X oo s K) : cK P o a c w s K:=by
 rw [ho] at h
 have he : execOp a.eval o = (do pure (.value (← Instr.mapEntry t (a.eval x) (a.eval y)))):=by unfold execOp;simp only [ho]
 simp only [cOp] at h
 split at h
 ·rename_i kt et r q hm hr hq
  split at h
  ·rename_i ks z hks hz
   injection h with h;subst h
   obtain ⟨hok,hpv,hW⟩:=hW
   have hu:=vB hm
   have rk:=xC (tX hok) (aW hq hs.fr)
   have rx:=aW hr hs.fr
   obtain ⟨_,zv,hzv,rz⟩:=CU hz c w
   have rzv:=xC hpv rz
   have chk : ∀ em,(Instr.checkKey em 10000 kt (a.eval y)).run P w = .ok () w:=fun em=>by
    rw [rk];exact pV (P:=P) (w:=w) hks hok em 9998
   split at hW
   ·rename_i o' hev
    rw [hev] at rx
    have rx:=DV rx
    split at hW
    ·rename_i es clk hH
     obtain ⟨hpu,hb⟩:=hs.inv.map o' _ _ hH
     split at hW
     ·rename_i i v0 b hf
      have hfs:=lT (P:=P) (w:=w) hks hok hpu hf
      rw [<- rk] at hfs
      obtain ⟨_,k',g1,g2⟩:=AQ hf
      simp only [Nat.sub_zero] at g1
      have hsb:=F4 g2
      have hv0:=(hpu _ (List.mem_of_getElem? g1)).2
      obtain ⟨e2,e3⟩:=Aj hs.inv hH (es.set i (s.ev q,v0,b)) clk (Gm hpu (tX hok) hv0)
      have hset:=Nv (k:=s.ev q) g1
      have hkey:=IZ g1 (a.eval y)
      have hborn:=Lq g1
      refine uX he (v:=.tuple #[vOf v0,.int .i64 (b : Int)]) (w':=jU w (c.β o') (.map ((es.set i (s.ev q,v0,b)).map iP).toArray clk)) ?_ ⟨_,_,c,hW,rfl,FU _ (Dy c hv0),e2,Cx.le.refl c,hs.T,e3⟩
      unfold Instr.mapEntry
      simp only [Sem.run_bind,run_underlying hu,Result.andThen_ok,rx,MapKept.run_getObj_map hb,chk,hfs,zS,Option.map_some,hkey]
      unfold Instr.keyThatStays
      rw [rk,hsb]
      simp only [if_true,Sem.run_pure,Sem.run_bind,Result.andThen_ok,hset,MapKept.run_setObj_map _ hb,hborn]
      rfl
     ·rename_i hf
      have hfs:=lT (P:=P) (w:=w) hks hok hpu hf
      rw [<- rk] at hfs
      obtain ⟨e2,e3⟩:=Aj hs.inv hH (es ++ [(s.ev q,z,clk)]) (clk + 1) (IY hpu (tX hok) hpv)
      have hpush:=DD es (s.ev q) z clk
      refine uX he (v:=.tuple #[vOf z,.int .i64 (clk : Int)]) (w':=jU w (c.β o') (.map ((es ++ [(s.ev q,z,clk)]).map iP).toArray (clk + 1))) ?_ ⟨_,_,c,hW,rfl,FU _ (Dy c hpv),e2,Cx.le.refl c,hs.T,e3⟩
      unfold Instr.mapEntry
      simp only [Sem.run_bind,run_underlying hu,Result.andThen_ok,rx,MapKept.run_getObj_map hb,chk,hfs,zS,Option.map_none,hzv]
      rw [rk,rzv,hpush]
      simp only [Sem.run_pure,Result.andThen_ok,MapKept.run_setObj_map _ hb]
      rfl
     ·exact hW.elim
    ·exact hW.elim
   ·exact hW.elim
  ·cases h
 ·cases h
theorem OG {es : List (D × D × Nat)} {i : Nat} {e : D × D × Nat} {v : D} (h : es[i]? = some e) : (es.map iP).toArray.modify i (fun e=>{ e with val:=vOf v }) = ((es.set i (e.1,v,e.2.2)).map iP).toArray:=by
 obtain ⟨k',v',b⟩:=e
 rw [<- Bw (k:=k') (v:=v) h]
 apply Array.ext_getElem?
 intro j
 rw [Array.getElem?_modify,Array.getElem?_modify]
 by_cases e : i = j
 ·subst e
  simp only [if_true,List.getElem?_toArray,List.getElem?_map,h]
  rfl
 ·rw [if_neg e,if_neg e]
theorem Qf {o : Oper} {t : TypeId} {x y z : Operand} (ho : o.op = .entryStore t x y z) {oo : O} (h : cOp P imp dr j o.op = some oo) (hs : Sim c s a w) (hW : WO X oo s K) : cK P o a c w s K:=by
 rw [ho] at h
 have he : execOp a.eval o = (do Instr.entryStore t (a.eval x) (a.eval y) (a.eval z);pure .skip):=by unfold execOp;simp only [ho]
 simp only [cOp] at h
 split at h
 ·rename_i r q p hr hq hp
  injection h with h;subst h
  obtain ⟨hpv,hW⟩:=hW
  have rv:=xC hpv (aW hp hs.fr)
  have rx:=aW hr hs.fr
  have rq:=aW hq hs.fr
  split at hW
  ·rename_i o' kd n hev hq'
   rw [hev] at rx
   rw [hq'] at rq
   have rx:=DV rx
   have rq : a.eval y = .int kd n:=by generalize a.eval y = u at rq;cases rq;rfl
   split at hW
   ·rename_i es clk hH
    obtain ⟨hpu,hb⟩:=hs.inv.map o' _ _ hH
    split at hW
    ·rename_i i hi
     split at hW
     ·rename_i e hei
      have hie:=hpu _ (List.mem_of_getElem? hei)
      obtain ⟨e2,e3⟩:=Aj hs.inv hH (es.set i (e.1,s.ev p,e.2.2)) clk (Gm hpu hie.1 hpv)
      refine .inr (.inl ⟨_,?_,⟨_,_,c,hW,rfl,Rep.top _,e2,Cx.le.refl c,hs.T,e3⟩⟩)
      rw [he]
      have hset:=OG (v:=s.ev p) hei
      have hfi : (es.map iP).toArray.findIdx? (fun e=>(e.born : Int) == n) = some i:=by
       rw [List.findIdx?_toArray,List.findIdx?_map]
       exact hi
      unfold Instr.entryStore
      simp only [rx,rq,Sem.run_bind,MapKept.run_getObj_map hb,Result.andThen_ok,asInt,asIntOf,Sem.run_pure,hfi]
      rw [rv,hset]
      simp only [MapKept.run_setObj_map _ hb,Result.andThen_ok]
      rfl
     ·exact hW.elim
    ·exact hW.elim
   ·exact hW.elim
  ·exact hW.elim
 ·cases h
end GP
namespace GP
open Go
variable {P : Program} {X : d8} {imp : Hn} {dr : Bool} {j : Pl} {c : Cx} {s : S} {a : Act} {w : World} {K : D -> S -> Prop}
theorem LJ [HasG P] (hX : ∀ f args H T Q,X f args H T Q -> Snd P f args H T Q) {o : Oper} {oo : O} (h : cOp P imp dr j o.op = some oo) (hG : HasG.G P c w) (hs : Sim c s a w) (hW : WO X oo s K) : cK P o a c w s K:=by
 cases ho : o.op with
 | move x =>
  have h':=h
  rw [ho] at h'
  simp only [cOp] at h'
  split at h'
  ·rename_i r hr
   injection h' with h';subst h'
   change K (s.ev r) s at hW
   refine .inl ⟨a.eval x,w,?_,.quiet hs hW (aW hr hs.fr)⟩
   unfold execOp;simp only [ho];rfl
  ·cases h'
 | assign x =>
  have h':=h
  rw [ho] at h'
  simp only [cOp] at h'
  split at h'
  ·rename_i r hr
   injection h' with h';subst h'
   change K (s.ev r) s at hW
   refine .inl ⟨a.eval x,w,?_,.quiet hs hW (aW hr hs.fr)⟩
   unfold execOp;simp only [ho];rfl
  ·cases h'
 | pick x y z =>
  have h':=h
  rw [ho] at h'
  simp only [cOp] at h'
  split at h'
  ·rename_i r q p hr hq hp
   injection h' with h';subst h'
   obtain ⟨d,hd,hW⟩:=cY hW
   simp only [qv] at hd
   split at hd
   ·rename_i t hev
    injection hd with hd;subst hd
    have h1:=aW hr hs.fr
    rw [hev] at h1
    have h2:=aW hq hs.fr
    have h3:=aW hp hs.fr
    have hb : a.eval x = .bool t:=by
     generalize a.eval x = v at h1
     cases h1;rfl
    refine .inl ⟨if t then a.eval y else a.eval z,w,?_,.quiet hs hW (by cases t;exact h3;exact h2)⟩
    unfold execOp;simp only [ho,hb];simp [asBool]
   ·cases hd
  ·cases h'
 | alloc t=>exact M7 ho h hs hW
 | box t x=>exact QU ho h hs hW
 | build t ps=>exact Mz ho h hs hW
 | buildSlice t n ps=>exact QN ho h hs hW
 | load t x=>exact Nn ho h hs hW
 | store t x v=>exact L3 ho h hs hW
 | nilCheck x =>
  have h':=h
  rw [ho] at h'
  simp only [cOp] at h'
  split at h'
  ·rename_i r hr
   injection h' with h';subst h'
   obtain ⟨d,hd,hW⟩:=cY hW
   have h1:=aW hr hs.fr
   have key : ∀ v,a.eval x = v -> Rep c (s.ev r) v -> (execOp a.eval o).run P w = .ok (.value v) w /\ d = s.ev r:=by
    intro v hv hrep
    have hd' : Ga (s.ev r) = some d:=hd
    generalize s.ev r = e at *
    cases hrep <;> simp [Ga] at hd'
    all_goals
     refine ⟨?_,hd'.symm⟩
     unfold execOp
     simp only [ho,hv]
     rfl
   obtain ⟨k1,k2⟩:=key _ rfl h1
   exact .inl ⟨_,w,k1,.quiet hs hW (by rw [k2];exact h1)⟩
  ·cases h'
 | binOp op t x y t'=>exact RD ho h hs hW
 | unOp op t x =>
  have h':=h
  rw [ho] at h'
  simp only [cOp] at h'
  split at h'
  ·rename_i r hr
   injection h' with h';subst h'
   obtain ⟨d,hd,hW⟩:=cY hW
   have he : execOp a.eval o = (do pure (.value (← Op.unary op (a.eval x)))):=by unfold execOp;simp only [ho]
   exact aR hs he hW (Ku (aW hr hs.fr) hd)
  ·cases h'
 | convert src dst x=>exact PW ho h hs hW
 | makeFunc fn first cap =>
  have h':=h
  rw [ho] at h'
  cases fn with
  | func f =>
   simp only [cOp] at h'
   split at h'
   ·rename_i p q hp hq
    injection h' with h';subst h'
    change K (.fn f (p.map s.ev) (q.map s.ev)) s at hW
    have h1:=nM hp hs.fr
    have h2:=nM hq hs.fr
    refine .inl ⟨.func (.func f) (first.map a.eval) (cap.map a.eval),w,?_,.quiet hs hW ?_⟩
    ·unfold execOp;simp only [ho];rfl
    ·have:=Rep.fn (c:=c) f (p.map s.ev) (q.map s.ev) (first.toList.map a.eval) (cap.toList.map a.eval) h1.len h2.len h1.rep h2.rep
     have e1 : (first.toList.map a.eval).toArray = first.map a.eval:=by apply Array.toList_inj.1;simp
     have e2 : (cap.toList.map a.eval).toArray = cap.map a.eval:=by apply Array.toList_inj.1;simp
     rwa [e1,e2] at this
   ·cases h'
  | _=>simp [cOp] at h'
 | slice t x lo hi mx=>exact NT ho h hs hW
 | makeSlice t x y=>exact Nl ho h hs hW
 | fieldAddr t x k=>exact Mw ho h hs hW
 | field t x k=>exact LC ho h hs hW
 | indexAddr t x i=>exact Mu ho h hs hW
 | index t x i=>exact Mj ho h hs hW
 | extract x k =>
  have h':=h
  rw [ho] at h'
  simp only [cOp] at h'
  split at h'
  ·rename_i r hr
   injection h' with h';subst h'
   obtain ⟨d,hd,hW⟩:=cY hW
   have he : execOp a.eval o = (do pure (.value (← Instr.extract (a.eval x) k))):=by unfold execOp;simp only [ho]
   exact aR hs he hW (Ji (aW hr hs.fr) hd)
  ·cases h'
 | makeMap t r=>exact Ln ho h hs hW
 | lookup t x y ok=>exact KC ho h hs hW
 | mapUpdate t x y z=>exact Ol ho h hs hW
 | mapEntry t x y=>exact P2 ho h hs hW
 | entryStore t x y z=>exact Qf ho h hs hW
 | call cl =>
  obtain ⟨callee,args,ats⟩:=cl
  cases callee with
  | builtin b=>exact HE ho h hs hW
  | invoke r m=>rw [ho] at h;simp [cOp] at h
  | value f =>
   rw [ho] at h
   simp only [cOp] at h
   split at h
   ·rename_i r rs hr hrs
    injection h with h
    obtain ⟨dst,op,ty,pos,after,guard⟩:=o
    simp only at ho
    subst ho
    have pc : ∀ oo',oo' = O.pcall r rs -> WO X oo' s K -> cK P ⟨dst,.call { callee:=.value f,args,argTypes:=ats },ty,pos,after,guard⟩ a c w s K:=by
     intro oo' e hW
     subst e
     change cT X (rs.map s.ev) K s (s.ev r) at hW
     unfold cT at hW
     split at hW
     ·rename_i g first cap hev
      obtain ⟨d,hp,hk⟩:=hW
      exact BE hX hG hs hr hrs hev (Q:=fun d' H T=>d' = d /\ H = s.H /\ T = s.T) (hp s.H s.T _ (fun _ _ h _=>h) ⟨rfl,rfl,rfl⟩)
       (fun d' H T hh=>by obtain ⟨rfl,rfl,rfl⟩:=hh;exact hk)
     ·exact hW.elim
    have cc : ∀ oo',oo' = O.call r rs -> WO X oo' s K -> cK P ⟨dst,.call { callee:=.value f,args,argTypes:=ats },ty,pos,after,guard⟩ a c w s K:=by
     intro oo' e hW
     subst e
     change wM X (rs.map s.ev) K s (s.ev r) at hW
     unfold wM at hW
     split at hW
     ·rename_i g' first cap hev
      exact BE hX hG hs hr hrs hev hW (fun d H T h=>h)
     ·exact hW.elim
    cases f with
    | func g =>
     simp only at h
     split at h
     ·exact cc oo h.symm hW
     ·exact pc oo h.symm hW
    | _ =>
     simp only at h
     split at h
     ·exact cc oo h.symm hW
     ·exact pc oo h.symm hW
   ·cases h
 | _=>rw [ho] at h;simp [cOp] at h
def Pj (n : Nat) : Option Nat -> Bool
 | some d=>decide (d < n)
 | none=>true
def cI (P : Program) (imp : Hn) (dr : Bool) (j : Pl) (ops : Array Oper) (n : Nat) (o : Oper) : Option I :=
 match cOp P imp dr j o.op with
 | none=>none
 | some oo =>
  if Pj n o.dst then
   match o.guard with
   | none=>some ⟨o.dst,none,oo⟩
   | some (g,want)=>match (ops[g]?).bind (·.dst) with
    | some d=>some ⟨o.dst,some (d,want),oo⟩
    | none=>none
  else none
theorem Res.next {v : Value} {w' : World} {K : S -> Prop} {d : Option Nat} (hs : Sim c s a w) (hd : ∀ i,d = some i -> i < a.tmps.size) (h : Res c w s (fun v s'=>K (s'.put d v)) v w') :
  ∃ s' c',K s' /\ Sim c' s' (a.put d v) w' /\ c.le c' /\ Below c.bb w w':=by
 obtain ⟨e,s',c',hk,ht,hr,hi,hle,hT,hb⟩:=h
 refine ⟨s'.put d e,c',hk,?_,hle,hb⟩
 have hfr : FR c' s'.t a:=by rw [ht];exact hs.fr.mono hle
 cases d with
 | none=>exact ⟨hT,hi,hfr⟩
 | some i=>exact ⟨hT,hi,hfr.put hr (hd i rfl)⟩
def Nx (n : Nat) (c0 : Cx) (w0 : World) (K : S -> Prop) (a' : Act) (w' : World) : Prop:=∃ s' c',K s' /\ Sim c' s' a' w' /\ c0.le c' /\ Below c0.bb w0 w' /\ a'.tmps.size = n /\ a'.defers = []
theorem C3 (a : Act) (d : Option Nat) (v : Value) : (a.put d v).tmps.size = a.tmps.size /\ (a.put d v).defers = a.defers:=by
 cases d <;> simp [Act.put]
theorem z7 [HasG P] (hX : ∀ f args H T Q,X f args H T Q -> Snd P f args H T Q) {ops : Array Oper} {n i : Nat} {o : Oper} {ii : I} (ho : ops[i]? = some o) (h : cI P imp dr j ops n o = some ii) {c0 : Cx} {w0 : World}
  (hG : HasG.G P c0 w0) (hs : Sim c s a w) (hle : c0.le c) (hb : Below c0.bb w0 w) (hn : a.tmps.size = n) (hd : a.defers = []) {K : S -> Prop} (hW : WI X ii s K) {Q : Exit -> Act -> World -> Prop} {K' : Act -> World -> Prop} (hK : ∀ a' w',Nx n c0 w0 K a' w' -> K' a' w') :
  wpOp P ops Q i K' a w:=by
 unfold cI at h
 split at h
 ·cases h
 ·rename_i oo hoo
  split at h
  ·rename_i hdst
   have hdst' : ∀ k,o.dst = some k -> k < a.tmps.size:=by
    intro k hk
    rw [hk] at hdst
    rw [hn];simpa [Pj] using hdst
   have run : WO X oo s (fun v s'=>K (s'.put o.dst v)) -> o.wp P a w K' Q:=by
    intro hW
    have goes:=LJ hX hoo (HasG.mono hle hb hG) hs hW
    have fin : ∀ v w',Res c w s (fun v s'=>K (s'.put o.dst v)) v w' -> K' (a.put o.dst v) w':=by
     intro v w' hr
     obtain ⟨s',c',k1,k2,k3,k4⟩:=hr.next hs hdst'
     obtain ⟨p1,p2⟩:=C3 a o.dst v
     exact hK _ _ ⟨s',c',k1,k2,hle.trans k3,hb.trans (by rw [<- hle.B];exact k4),by rw [p1,hn],by rw [p2,hd]⟩
    rcases goes with ⟨v,w',e,hr⟩ | ⟨w',e,hr⟩ | ⟨f,args,e,hr⟩
    ·unfold Oper.wp;rw [e];exact fin v w' hr
    ·unfold Oper.wp;rw [e];exact fin _ w' hr
    ·unfold Oper.wp;rw [e]
     refine Calls.mono hr ?_
     rintro e' w' ⟨v,rfl,hr⟩
     exact fin v w' hr
   unfold wpOp
   simp only [ho]
   split at h
   ·rename_i hg
    injection h with h;subst h
    have hwant : Region.wanted o (yielded ops a.tmps) = true:=by simp [Region.wanted,hg]
    rw [if_pos hwant]
    exact .inl (run hW)
   ·rename_i g want hg
    split at h
    ·rename_i d hdg
     injection h with h;subst h
     change WIk X o.dst oo s K (gd s (some (d,want))) at hW
     unfold gd at hW
     simp only at hW
     have hrg:=hs.fr d
     split at hW
     ·rename_i b hb'
      rw [hb'] at hrg
      have hy : yielded ops a.tmps g = some b:=by
       unfold yielded
       simp only [hdg]
       generalize hv : a.tmps.getD d undef = v at hrg
       cases hrg
       simp only [Array.getD_eq_getD_getElem?] at hv
       cases ht : a.tmps[d]? with
       | none=>rw [ht] at hv;simp [undef] at hv
       | some x=>rw [ht] at hv;simp at hv;subst hv;simp [ht]
      by_cases hbw : b = want
      ·subst hbw
       have hwant : Region.wanted o (yielded ops a.tmps) = true:=by simp [Region.wanted,hg,hy]
       rw [if_pos hwant]
       simp only [beq_self_eq_true] at hW
       exact .inl (run hW)
      ·have hwant : ¬ Region.wanted o (yielded ops a.tmps) = true:=by simp [Region.wanted,hg,hy,hbw]
       rw [if_neg hwant]
       have : (b == want) = false:=by simpa using hbw
       rw [this] at hW
       obtain ⟨p1,p2⟩:=C3 a o.dst undef
       refine hK _ _ ⟨s.put o.dst (.tup []),c,hW,?_,hle,hb,by rw [p1,hn],by rw [p2,hd]⟩
       cases hdd : o.dst with
       | none=>exact hs
       | some k=>exact ⟨hs.T,hs.inv,hs.fr.put (Rep.tup [] [] rfl (fun i h=>absurd h (by simp))) (hdst' k hdd)⟩
     ·rename_i hb'
      rw [hb'] at hrg
      have hy : yielded ops a.tmps g = none:=by
       unfold yielded
       simp only [hdg]
       generalize hv : a.tmps.getD d undef = v at hrg
       cases hrg with
       | tup cs vs hl hr =>
        have : vs = []:=by simpa using hl
        subst this
        simp only [Array.getD_eq_getD_getElem?] at hv
        cases ht : a.tmps[d]? with
        | none=>simp [ht]
        | some x=>rw [ht] at hv;simp at hv;subst hv;simp [ht]
      have hwant : ¬ Region.wanted o (yielded ops a.tmps) = true:=by simp [Region.wanted,hg,hy]
      rw [if_neg hwant]
      obtain ⟨p1,p2⟩:=C3 a o.dst undef
      refine hK _ _ ⟨s.put o.dst (.tup []),c,hW,?_,hle,hb,by rw [p1,hn],by rw [p2,hd]⟩
      cases hdd : o.dst with
      | none=>exact hs
      | some k=>exact ⟨hs.T,hs.inv,hs.fr.put (Rep.tup [] [] rfl (fun i h=>absurd h (by simp))) (hdst' k hdd)⟩
     ·exact hW.elim
    ·cases h
  ·cases h
end GP
namespace GP
open Go
def O.rds : O -> List Rd
 | .mv x=>[x]
 | .mvs x=>[x]
 | .pick c a b=>[c] ++ [a] ++ [b]
 | .alloc _=>[]
 | .allocAt _ _=>[]
 | .box x=>[x]
 | .boxAt _ x=>[x]
 | .build _ ps=>(ps.map fun p=>p.2.2)
 | .bsl _ xs=>xs
 | .bslq _ xs=>xs
 | .load _ _ x=>[x]
 | .store _ x y=>[x] ++ [y]
 | .nilc x=>[x]
 | .bin _ x y=>[x] ++ [y]
 | .eqa _ _ x y=>[x] ++ [y]
 | .eq1 _ _ x y=>[x] ++ [y]
 | .un _ x=>[x]
 | .conv _ x=>[x]
 | .s2b x=>[x]
 | .s2bq x=>[x]
 | .b2s x=>[x]
 | .b2m x=>[x]
 | .mkfn _ xs ys=>xs ++ ys
 | .sls _ x lo hi=>[x] ++ lo.toList ++ hi.toList
 | .subs x lo hi=>[x] ++ lo.toList ++ hi.toList
 | .faddr _ x=>[x]
 | .field _ _ _ x=>[x]
 | .iaddr _ x y=>[x] ++ [y]
 | .iarr _ _ x y=>[x] ++ [y]
 | .idxs x y=>[x] ++ [y]
 | .idxa _ _ _ x y=>[x] ++ [y]
 | .ext _ x=>[x]
 | .call f xs=>[f] ++ xs
 | .pcall f xs=>[f] ++ xs
 | .len x=>[x]
 | .capz x=>[x]
 | .lens x=>[x]
 | .app _ _ _ x y=>[x] ++ [y]
 | .rawAt _ _=>[]
 | .fillAt _ _ x y=>[x] ++ [y]
 | .sls3 _ x lo hi mb=>[x] ++ lo.toList ++ hi.toList ++ mb.toList
 | .appm _ _ _ _ x y=>[x] ++ [y]
 | .bslm _ _ xs=>xs
 | .copy _ x y=>[x] ++ [y]
 | .clr _ x=>[x]
 | .mkm _ _ _ _ x y=>[x] ++ [y]
 | .appz _ _ _ _ x y=>[x] ++ [y]
 | .mn x y=>[x] ++ [y]
 | .mx x y=>[x] ++ [y]
 | .mkmap =>[]
 | .mlen x=>[x]
 | .mget _ _ _ x y=>[x] ++ [y]
 | .mput _ x y z=>[x] ++ [y] ++ [z]
 | .ment _ _ x y=>[x] ++ [y]
 | .mst x y z=>[x] ++ [y] ++ [z]
theorem cB {K K' : D -> S -> Prop} {s s' : S} (h : ∀ u,K u s -> K' u s') {o : Option D} (k : K1 K s o) : K1 K' s' o:=by
 cases o with
 | none=>exact k
 | some d=>exact h d k
theorem o6 {s s' : S} {xs : List Rd} (h : ∀ r ∈ xs,s'.ev r = s.ev r) : xs.map s'.ev = xs.map s.ev:=List.map_congr_left h
theorem o4 {s s' : S} {d : Nat} {o : Option Rd} (h : ∀ r ∈ o.toList,s'.ev r = s.ev r) : cX s' d o = cX s d o:=by
 cases o with
 | none=>rfl
 | some r=>simp only [cX,h r (by simp)]
theorem J3 {K K' : D -> S -> Prop} {s s' : S} (hH : s'.H = s.H) (hT : s'.T = s.T) (h : ∀ u H T,K u ⟨s.t,H,T⟩ -> K' u ⟨s'.t,H,T⟩) {i : Nat} {z : List D} {o : Option Ob} (k : atK K s i z o) : atK K' s' i z o:=by
 unfold atK at *
 split <;> simp_all
theorem MC {K K' : D -> S -> Prop} {s s' : S} (hH : s'.H = s.H) (hT : s'.T = s.T) (h : ∀ u H T,K u ⟨s.t,H,T⟩ -> K' u ⟨s'.t,H,T⟩) {i : Nat} {z : List D} {o : Option Ob} (k : zP K s i z o) : zP K' s' i z o:=by
 unfold zP at *
 split <;> simp_all
theorem JO {K K' : D -> S -> Prop} {s s' : S} (hH : s'.H = s.H) (hT : s'.T = s.T) (h : ∀ u H T,K u ⟨s.t,H,T⟩ -> K' u ⟨s'.t,H,T⟩) {i n : Nat} {a v : D} {o : Option Ob} (k : tB K s i n a v o) : tB K' s' i n a v o:=by
 unfold tB at *
 split <;> simp_all
theorem JZ {K K' : D -> S -> Prop} {s s' : S} (hH : s'.H = s.H) (hT : s'.T = s.T) (h : ∀ u H T,K u ⟨s.t,H,T⟩ -> K' u ⟨s'.t,H,T⟩) {ag : Bool} {sz bytes : Nat} {x : D} {ys : Option (List D)} (k : z9 ag sz bytes K s x ys) : z9 ag sz bytes K' s' x ys:=by
 obtain ⟨t,H,T⟩:=s
 obtain ⟨t',H',T'⟩:=s'
 simp only at hH hT h
 subst hH;subst hT
 cases ys with
 | none=>exact k
 | some ys =>
  refine ⟨k.1,?_⟩
  have k2:=k.2
  cases x with
  | nils =>
   simp only at k2 ⊢
   split
   ·rename_i h0;rw [if_pos h0] at k2;exact h _ _ _ k2
   ·rename_i h0;rw [if_neg h0] at k2;exact ⟨k2.1,k2.2.1,h _ _ _ k2.2.2⟩
  | e0 =>
   simp only at k2 ⊢
   split
   ·rename_i h0;rw [if_pos h0] at k2;exact h _ _ _ k2
   ·rename_i h0;rw [if_neg h0] at k2;exact ⟨k2.1,k2.2.1,h _ _ _ k2.2.2⟩
  | ms g z o off n cap =>
   simp only at k2 ⊢
   split
   ·rename_i cs hc
    rw [hc] at k2
    simp only at k2
    refine ⟨k2.1,?_⟩
    have k3:=k2.2
    split
    ·rename_i h0;rw [if_pos h0] at k3;exact ⟨k3.1,h _ _ _ k3.2⟩
    ·rename_i h0;rw [if_neg h0] at k3;exact ⟨k3.1,k3.2.1,k3.2.2.1,k3.2.2.2.1,h _ _ _ k3.2.2.2.2⟩
   ·rename_i hn
    split at k2
    ·rename_i cs hc;exact (hn cs hc).elim
    ·exact k2
  | _=>exact k2
theorem Jw {K K' : D -> S -> Prop} {s s' : S} (hH : s'.H = s.H) (hT : s'.T = s.T) (h : ∀ u H T,K u ⟨s.t,H,T⟩ -> K' u ⟨s'.t,H,T⟩) {sz : Nat} {x : D} {ys : Option (List D)} (k : Bc sz K s x ys) : Bc sz K' s' x ys:=by
 obtain ⟨t,H,T⟩:=s
 obtain ⟨t',H',T'⟩:=s'
 simp only at hH hT h
 subst hH;subst hT
 cases ys with
 | none=>exact k
 | some ys =>
  refine ⟨k.1,?_⟩
  have k2:=k.2
  cases x with
  | nils=>exact h _ _ _ k2
  | e0=>exact h _ _ _ k2
  | sl t xs =>
   cases xs with
   | nil=>exact h _ _ _ k2
   | cons=>exact k2
  | ms g z o off n cap =>
   simp only at k2 ⊢
   split
   ·rename_i cs hc
    rw [hc] at k2
    exact ⟨k2.1,k2.2.1,h _ _ _ k2.2.2⟩
   ·rename_i hn
    split at k2
    ·rename_i cs hc;exact (hn cs hc).elim
    ·exact k2
  | _=>exact k2
theorem MJ {K K' : D -> S -> Prop} {s s' : S} (hH : s'.H = s.H) (hT : s'.T = s.T) (h : ∀ u H T,K u ⟨s.t,H,T⟩ -> K' u ⟨s'.t,H,T⟩) {z : List D} {x : D} (k : CG z K s x) : CG z K' s' x:=by
 obtain ⟨t,H,T⟩:=s
 obtain ⟨t',H',T'⟩:=s'
 simp only at hH hT h
 subst hH;subst hT
 cases x with
 | nils=>exact h _ _ _ k
 | e0=>exact h _ _ _ k
 | sl t xs =>
  cases xs with
  | nil=>exact h _ _ _ k
  | cons=>exact k
 | ms g sz o off n cap =>
  simp only [CG] at k ⊢
  split
  ·rename_i cs hc
   rw [hc] at k
   exact ⟨k.1,k.2.1,h _ _ _ k.2.2⟩
  ·rename_i hn
   split at k
   ·rename_i cs hc;exact (hn cs hc).elim
   ·exact k
 | _=>exact k
theorem K5 {K K' : D -> S -> Prop} {s s' : S} (hH : s'.H = s.H) (hT : s'.T = s.T) (h : ∀ u H T,K u ⟨s.t,H,T⟩ -> K' u ⟨s'.t,H,T⟩) {ag : Bool} {sz bytes : Nat} {z : List D} {x y : D} (k : yK ag sz bytes z K s x y) : yK ag sz bytes z K' s' x y:=by
 unfold yK at *
 rw [hH,hT]
 refine ⟨k.1,?_⟩
 have k:=k.2
 split
 ·simp only at k
  exact ⟨k.1,k.2.1,k.2.2.1,k.2.2.2.1,h _ _ _ k.2.2.2.2⟩
 ·rename_i hn
  split at k
  ·exact (hn _ _ rfl).elim
  ·exact k
theorem Kw {K K' : D -> S -> Prop} {s s' : S} (hH : s'.H = s.H) (hT : s'.T = s.T) (h : ∀ u H T,K u ⟨s.t,H,T⟩ -> K' u ⟨s'.t,H,T⟩) {ag : Bool} {sz bytes : Nat} {z : List D} {x y : D} (k : FQ ag sz bytes z K s x y) : FQ ag sz bytes z K' s' x y:=by
 unfold FQ at *
 rw [hH,hT]
 split
 ·simp only at k
  exact ⟨k.1,k.2.1,k.2.2.1,k.2.2.2.1,k.2.2.2.2.1,h _ _ _ k.2.2.2.2.2⟩
 ·rename_i hn
  split at k
  ·exact (hn _ _ _ _ rfl rfl).elim
  ·exact k
theorem KJ {K K' : D -> S -> Prop} {s s' : S} (hH : s'.H = s.H) (hT : s'.T = s.T) (h : ∀ u H T,K u ⟨s.t,H,T⟩ -> K' u ⟨s'.t,H,T⟩) {ks : Bool × List Ck} {m kk v : D} (k : GX ks K s m kk v) : GX ks K' s' m kk v:=by
 obtain ⟨t,H,T⟩:=s
 obtain ⟨t',H',T'⟩:=s'
 simp only at hH hT h
 subst hH;subst hT
 refine ⟨k.1,k.2.1,?_⟩
 have k2:=k.2.2
 cases m with
 | mp o =>
  simp only at k2 ⊢
  cases ho : H'[o]? with
  | none=>rw [ho] at k2;exact k2
  | some x =>
   rw [ho] at k2
   cases x with
   | map es clk =>
    simp only at k2 ⊢
    cases hf : fnd ks kk es 0 with
    | none=>rw [hf] at k2;exact k2
    | some r =>
     rw [hf] at k2
     cases r with
     | none=>exact h _ _ _ k2
     | some p=>exact h _ _ _ k2
   | _=>exact k2
 | _=>exact k2
theorem KM {K K' : D -> S -> Prop} {s s' : S} (hH : s'.H = s.H) (hT : s'.T = s.T) (h : ∀ u H T,K u ⟨s.t,H,T⟩ -> K' u ⟨s'.t,H,T⟩) {ks : Bool × List Ck} {zv m kk : D} (k : D6 ks zv K s m kk) : D6 ks zv K' s' m kk:=by
 obtain ⟨t,H,T⟩:=s
 obtain ⟨t',H',T'⟩:=s'
 simp only at hH hT h
 subst hH;subst hT
 refine ⟨k.1,k.2.1,?_⟩
 have k2:=k.2.2
 cases m with
 | mp o =>
  simp only at k2 ⊢
  cases ho : H'[o]? with
  | none=>rw [ho] at k2;exact k2
  | some x =>
   rw [ho] at k2
   cases x with
   | map es clk =>
    simp only at k2 ⊢
    cases hf : fnd ks kk es 0 with
    | none=>rw [hf] at k2;exact k2
    | some r =>
     rw [hf] at k2
     cases r with
     | none=>exact h _ _ _ k2
     | some p=>exact h _ _ _ k2
   | _=>exact k2
 | _=>exact k2
theorem Mn {K K' : D -> S -> Prop} {s s' : S} (hH : s'.H = s.H) (hT : s'.T = s.T) (h : ∀ u H T,K u ⟨s.t,H,T⟩ -> K' u ⟨s'.t,H,T⟩) {m b v : D} (k : Ja K s m b v) : Ja K' s' m b v:=by
 obtain ⟨t,H,T⟩:=s
 obtain ⟨t',H',T'⟩:=s'
 simp only at hH hT h
 subst hH;subst hT
 refine ⟨k.1,?_⟩
 have k2:=k.2
 cases m with
 | mp o =>
  cases b with
  | int kd n =>
   simp only at k2 ⊢
   cases ho : H'[o]? with
   | none=>rw [ho] at k2;exact k2
   | some x =>
    rw [ho] at k2
    cases x with
    | map es clk =>
     simp only at k2 ⊢
     cases hf : es.findIdx? (fun e=>(e.2.2 : Int) == n) with
     | none=>rw [hf] at k2;exact k2
     | some i =>
      rw [hf] at k2
      simp only at k2 ⊢
      cases hi : es[i]? with
      | none=>rw [hi] at k2;exact k2
      | some e=>rw [hi] at k2;exact h _ _ _ k2
    | _=>exact k2
  | _=>exact k2
 | _=>exact k2
theorem Gn {K K' : D -> S -> Prop} {s s' : S} (hH : s'.H = s.H) (hT : s'.T = s.T) (h : ∀ u H T,K u ⟨s.t,H,T⟩ -> K' u ⟨s'.t,H,T⟩) {n : Nat} {x y : D} (k : eA n K s x y) : eA n K' s' x y:=by
 unfold eA at *
 rw [hH,hT]
 split
 ·rename_i o off
  simp only at k
  split
  ·rename_i cs hc
   rw [hc] at k
   exact ⟨k.1,k.2.1,k.2.2.1,h _ _ _ k.2.2.2⟩
  ·rename_i hn
   split at k
   ·rename_i cs hc;exact (hn cs hc).elim
   ·exact k
 ·rename_i hn
  split at k
  ·rename_i o off;exact (hn o off rfl).elim
  ·exact k
theorem N6 {K K' : D -> S -> Prop} {s s' : S} (hH : s'.H = s.H) (hT : s'.T = s.T) (h : ∀ u H T,K u ⟨s.t,H,T⟩ -> K' u ⟨s'.t,H,T⟩) {x : D} (k : zX K s x) : zX K' s' x:=by
 cases x <;> simp only [zX] at * <;> first | exact k | (rw [hH,hT];exact h _ _ _ k)
theorem LD {K K' : D -> S -> Prop} {s s' : S} (hH : s'.H = s.H) (hT : s'.T = s.T) (h : ∀ u H T,K u ⟨s.t,H,T⟩ -> K' u ⟨s'.t,H,T⟩) {sz bytes : Nat} {x : D} {ys : Option (List D)} (k : mB sz bytes K s x ys) : mB sz bytes K' s' x ys:=by
 obtain ⟨t,H,T⟩:=s
 obtain ⟨t',H',T'⟩:=s'
 simp only at hH hT h
 subst hH;subst hT
 cases ys with
 | none=>exact k
 | some ys =>
  refine ⟨k.1,?_⟩
  have k2:=k.2
  cases x with
  | nils =>
   simp only at k2 ⊢
   split
   ·rename_i h0;rw [if_pos h0] at k2;exact h _ _ _ k2
   ·rename_i h0;rw [if_neg h0] at k2;exact ⟨k2.1,k2.2.1,h _ _ _ k2.2.2⟩
  | e0 =>
   simp only at k2 ⊢
   split
   ·rename_i h0;rw [if_pos h0] at k2;exact h _ _ _ k2
   ·rename_i h0;rw [if_neg h0] at k2;exact ⟨k2.1,k2.2.1,h _ _ _ k2.2.2⟩
  | sl t xs =>
   cases t with
   | none=>exact k2
   | some t=>exact ⟨k2.1,k2.2.1,k2.2.2.1,k2.2.2.2.1,h _ _ _ k2.2.2.2.2⟩
  | _=>exact k2
theorem C6 {X X' : d8} (hX : ∀ f args H T Q,X f args H T Q -> X' f args H T Q) {K K' : D -> S -> Prop} {s s' : S} (hH : s'.H = s.H) (h : ∀ u,K u s -> K' u s') {args : List D} {x : D} (k : cT X args K s x) : cT X' args K' s' x:=by
 cases x <;> simp only [cT] at * <;> first | exact k | skip
 obtain ⟨r,h1,h2⟩:=k
 exact ⟨r,fun H' T' Q a b=>hX _ _ _ _ _ (h1 H' T' Q (by rw [<- hH];exact a) b),h _ h2⟩
theorem KD {X X' : d8} (hX : ∀ f args H T Q Q',(∀ r H T,Q r H T -> Q' r H T) -> X f args H T Q -> X' f args H T Q') {K K' : D -> S -> Prop} {s s' : S} (hH : s'.H = s.H) (hT : s'.T = s.T) (h : ∀ u H T,K u ⟨s.t,H,T⟩ -> K' u ⟨s'.t,H,T⟩)
  {args : List D} {x : D} (k : wM X args K s x) : wM X' args K' s' x:=by
 cases x <;> simp only [wM] at * <;> first | exact k | skip
 rw [hH,hT]
 exact hX _ _ _ _ _ _ (fun r H T hh=>h r H T hh) k
theorem uT {X X' : d8} (hX : ∀ f args H T Q Q',(∀ r H T,Q r H T -> Q' r H T) -> X f args H T Q -> X' f args H T Q') {o : O} {s s' : S} (hH : s'.H = s.H) (hT : s'.T = s.T) (hev : ∀ r ∈ o.rds,s'.ev r = s.ev r)
  {K K' : D -> S -> Prop} (h : ∀ u H T,K u ⟨s.t,H,T⟩ -> K' u ⟨s'.t,H,T⟩) (k : WO X o s K) : WO X' o s' K':=by
 have hX1 : ∀ f args H T Q,X f args H T Q -> X' f args H T Q:=fun f args H T Q=>hX f args H T Q Q (fun _ _ _ h=>h)
 have h0 : ∀ u,K u s -> K' u s':=fun u hu=>by
  have:=h u s.H s.T hu
  rwa [<- hH,← hT] at this
 cases o with
 | mv x =>
  have e0:=hev x (by simp [O.rds])
  have eq : qv s' (.mv x) = qv s (.mv x):=by simp only [qv,e0]
  show K1 K' s' (qv s' (.mv x))
  rw [eq]
  exact cB h0 k
 | mvs x =>
  have e0:=hev x (by simp [O.rds])
  have eq : qv s' (.mvs x) = qv s (.mvs x):=by simp only [qv,e0]
  show K1 K' s' (qv s' (.mvs x))
  rw [eq]
  exact cB h0 k
 | pick c a b =>
  have e0:=hev c (by simp [O.rds])
  have e1:=hev a (by simp [O.rds])
  have e2:=hev b (by simp [O.rds])
  have eq : qv s' (.pick c a b) = qv s (.pick c a b):=by simp only [qv,e0,e1,e2]
  show K1 K' s' (qv s' (.pick c a b))
  rw [eq]
  exact cB h0 k
 | alloc z =>
  show K' _ ⟨s'.t,_,_⟩
  rw [hH,hT];exact h _ _ _ k
 | allocAt j z =>
  show atK K' s' _ _ _
  rw [hH];exact J3 hH hT h k
 | box x =>
  have e0:=hev x (by simp [O.rds])
  show _ /\ K' _ ⟨s'.t,_,_⟩
  rw [hH,hT,e0];exact ⟨k.1,h _ _ _ k.2⟩
 | boxAt j x =>
  have e0:=hev x (by simp [O.rds])
  show _ /\ atK K' s' _ _ _
  rw [hH,e0];exact ⟨k.1,J3 hH hT h k.2⟩
 | build z ps =>
  have e0 : (ps.map fun p=>(p.1,p.2.1,s'.ev p.2.2)) = (ps.map fun p=>(p.1,p.2.1,s.ev p.2.2)):=List.map_congr_left fun p hp=>by rw [hev p.2.2 (by simp only [O.rds,List.mem_map];exact ⟨p,hp,rfl⟩)]
  have eq : qv s' (.build z ps) = qv s (.build z ps):=by simp only [qv,e0]
  show K1 K' s' (qv s' (.build z ps))
  rw [eq]
  exact cB h0 k
 | bsl sz xs =>
  have e0:=o6 (s:=s) (s':=s') (xs:=xs) (fun r hr=>hev r (by simp [O.rds,hr]))
  show _ /\ K' _ ⟨s'.t,_,_⟩
  rw [hH,hT,e0];exact ⟨k.1,h _ _ _ k.2⟩
 | bslq sz xs =>
  have e0:=o6 (s:=s) (s':=s') (xs:=xs) (fun r hr=>hev r (by simp [O.rds,hr]))
  have eq : qv s' (.bslq sz xs) = qv s (.bslq sz xs):=by simp only [qv,e0]
  show K1 K' s' (qv s' (.bslq sz xs))
  rw [eq]
  exact cB h0 k
 | load ag n x =>
  have e0:=hev x (by simp [O.rds])
  have eq : qv s' (.load ag n x) = qv s (.load ag n x):=by simp only [qv,e0,hH]
  show K1 K' s' (qv s' (.load ag n x))
  rw [eq]
  exact cB h0 k
 | store n x y =>
  have e0:=hev x (by simp [O.rds])
  have e1:=hev y (by simp [O.rds])
  show eA _ K' s' _ _
  rw [e0,e1];exact Gn hH hT h k
 | nilc x =>
  have e0:=hev x (by simp [O.rds])
  have eq : qv s' (.nilc x) = qv s (.nilc x):=by simp only [qv,e0]
  show K1 K' s' (qv s' (.nilc x))
  rw [eq]
  exact cB h0 k
 | bin op x y =>
  have e0:=hev x (by simp [O.rds])
  have e1:=hev y (by simp [O.rds])
  have eq : qv s' (.bin op x y) = qv s (.bin op x y):=by simp only [qv,e0,e1]
  show K1 K' s' (qv s' (.bin op x y))
  rw [eq]
  exact cB h0 k
 | eqa ks neg x y =>
  have e0:=hev x (by simp [O.rds])
  have e1:=hev y (by simp [O.rds])
  have eq : qv s' (.eqa ks neg x y) = qv s (.eqa ks neg x y):=by simp only [qv,e0,e1]
  show K1 K' s' (qv s' (.eqa ks neg x y))
  rw [eq]
  exact cB h0 k
 | eq1 q neg x y =>
  have e0:=hev x (by simp [O.rds])
  have e1:=hev y (by simp [O.rds])
  have eq : qv s' (.eq1 q neg x y) = qv s (.eq1 q neg x y):=by simp only [qv,e0,e1]
  show K1 K' s' (qv s' (.eq1 q neg x y))
  rw [eq]
  exact cB h0 k
 | un op x =>
  have e0:=hev x (by simp [O.rds])
  have eq : qv s' (.un op x) = qv s (.un op x):=by simp only [qv,e0]
  show K1 K' s' (qv s' (.un op x))
  rw [eq]
  exact cB h0 k
 | conv kd x =>
  have e0:=hev x (by simp [O.rds])
  have eq : qv s' (.conv kd x) = qv s (.conv kd x):=by simp only [qv,e0]
  show K1 K' s' (qv s' (.conv kd x))
  rw [eq]
  exact cB h0 k
 | s2b x =>
  have e0:=hev x (by simp [O.rds])
  show zX K' s' _
  rw [e0];exact N6 hH hT h k
 | s2bq x =>
  have e0:=hev x (by simp [O.rds])
  have eq : qv s' (.s2bq x) = qv s (.s2bq x):=by simp only [qv,e0]
  show K1 K' s' (qv s' (.s2bq x))
  rw [eq]
  exact cB h0 k
 | b2s x =>
  have e0:=hev x (by simp [O.rds])
  have eq : qv s' (.b2s x) = qv s (.b2s x):=by simp only [qv,e0]
  show K1 K' s' (qv s' (.b2s x))
  rw [eq]
  exact cB h0 k
 | b2m x =>
  have e0:=hev x (by simp [O.rds])
  show K1 K' s' (MD s'.H _)
  rw [e0,hH];exact cB h0 k
 | mkfn f xs ys =>
  have e0:=o6 (s:=s) (s':=s') (xs:=xs) (fun r hr=>hev r (by simp [O.rds,hr]))
  have e1:=o6 (s:=s) (s':=s') (xs:=ys) (fun r hr=>hev r (by simp [O.rds,hr]))
  have eq : qv s' (.mkfn f xs ys) = qv s (.mkfn f xs ys):=by simp only [qv,e0,e1]
  show K1 K' s' (qv s' (.mkfn f xs ys))
  rw [eq]
  exact cB h0 k
 | sls sz x lo hi =>
  have e0:=hev x (by simp [O.rds])
  have e1 : ∀ d,cX s' d lo = cX s d lo:=fun d=>o4 (fun r hr=>hev r (by simp only [O.rds,List.mem_append];simp [hr]))
  have e2 : ∀ d,cX s' d hi = cX s d hi:=fun d=>o4 (fun r hr=>hev r (by simp only [O.rds,List.mem_append];simp [hr]))
  have eq : qv s' (.sls sz x lo hi) = qv s (.sls sz x lo hi):=by simp only [qv,e0,e1,e2]
  show K1 K' s' (qv s' (.sls sz x lo hi))
  rw [eq]
  exact cB h0 k
 | subs x lo hi =>
  have e0:=hev x (by simp [O.rds])
  have e1 : ∀ d,cX s' d lo = cX s d lo:=fun d=>o4 (fun r hr=>hev r (by simp only [O.rds,List.mem_append];simp [hr]))
  have e2 : ∀ d,cX s' d hi = cX s d hi:=fun d=>o4 (fun r hr=>hev r (by simp only [O.rds,List.mem_append];simp [hr]))
  have eq : qv s' (.subs x lo hi) = qv s (.subs x lo hi):=by simp only [qv,e0,e1,e2]
  show K1 K' s' (qv s' (.subs x lo hi))
  rw [eq]
  exact cB h0 k
 | faddr off x =>
  have e0:=hev x (by simp [O.rds])
  have eq : qv s' (.faddr off x) = qv s (.faddr off x):=by simp only [qv,e0]
  show K1 K' s' (qv s' (.faddr off x))
  rw [eq]
  exact cB h0 k
 | field ag off n x =>
  have e0:=hev x (by simp [O.rds])
  have eq : qv s' (.field ag off n x) = qv s (.field ag off n x):=by simp only [qv,e0]
  show K1 K' s' (qv s' (.field ag off n x))
  rw [eq]
  exact cB h0 k
 | iaddr sz x y =>
  have e0:=hev x (by simp [O.rds])
  have e1:=hev y (by simp [O.rds])
  have eq : qv s' (.iaddr sz x y) = qv s (.iaddr sz x y):=by simp only [qv,e0,e1]
  show K1 K' s' (qv s' (.iaddr sz x y))
  rw [eq]
  exact cB h0 k
 | iarr sz len x y =>
  have e0:=hev x (by simp [O.rds])
  have e1:=hev y (by simp [O.rds])
  have eq : qv s' (.iarr sz len x y) = qv s (.iarr sz len x y):=by simp only [qv,e0,e1]
  show K1 K' s' (qv s' (.iarr sz len x y))
  rw [eq]
  exact cB h0 k
 | idxs x y =>
  have e0:=hev x (by simp [O.rds])
  have e1:=hev y (by simp [O.rds])
  have eq : qv s' (.idxs x y) = qv s (.idxs x y):=by simp only [qv,e0,e1]
  show K1 K' s' (qv s' (.idxs x y))
  rw [eq]
  exact cB h0 k
 | idxa ag sz len x y =>
  have e0:=hev x (by simp [O.rds])
  have e1:=hev y (by simp [O.rds])
  have eq : qv s' (.idxa ag sz len x y) = qv s (.idxa ag sz len x y):=by simp only [qv,e0,e1]
  show K1 K' s' (qv s' (.idxa ag sz len x y))
  rw [eq]
  exact cB h0 k
 | ext i x =>
  have e0:=hev x (by simp [O.rds])
  have eq : qv s' (.ext i x) = qv s (.ext i x):=by simp only [qv,e0]
  show K1 K' s' (qv s' (.ext i x))
  rw [eq]
  exact cB h0 k
 | call f xs =>
  have e0:=hev f (by simp [O.rds])
  have e1:=o6 (s:=s) (s':=s') (xs:=xs) (fun r hr=>hev r (by simp [O.rds,hr]))
  show wM X' _ K' s' _
  rw [e0,e1];exact KD hX hH hT h k
 | pcall f xs =>
  have e0:=hev f (by simp [O.rds])
  have e1:=o6 (s:=s) (s':=s') (xs:=xs) (fun r hr=>hev r (by simp [O.rds,hr]))
  show cT X' _ K' s' _
  rw [e0,e1];exact C6 hX1 hH h0 k
 | len x =>
  have e0:=hev x (by simp [O.rds])
  have eq : qv s' (.len x) = qv s (.len x):=by simp only [qv,e0]
  show K1 K' s' (qv s' (.len x))
  rw [eq]
  exact cB h0 k
 | capz x =>
  have e0:=hev x (by simp [O.rds])
  have eq : qv s' (.capz x) = qv s (.capz x):=by simp only [qv,e0]
  show K1 K' s' (qv s' (.capz x))
  rw [eq]
  exact cB h0 k
 | lens x =>
  have e0:=hev x (by simp [O.rds])
  have eq : qv s' (.lens x) = qv s (.lens x):=by simp only [qv,e0]
  show K1 K' s' (qv s' (.lens x))
  rw [eq]
  exact cB h0 k
 | app st sz bytes x y =>
  have e0:=hev x (by simp [O.rds])
  have e1:=hev y (by simp [O.rds])
  show mB _ _ K' s' _ _
  rw [e0,e1];exact LD hH hT h k
 | rawAt j z =>
  show _ /\ zP K' s' _ _ _
  rw [hH];exact ⟨k.1,MC hH hT h k.2⟩
 | fillAt j n x y =>
  have e0:=hev x (by simp [O.rds])
  have e1:=hev y (by simp [O.rds])
  show _ /\ tB K' s' _ _ _ _ _
  rw [hH,e0,e1];exact ⟨k.1,JO hH hT h k.2⟩
 | sls3 sz x lo hi mb =>
  have e0:=hev x (by simp [O.rds])
  have e1 : ∀ d,cX s' d lo = cX s d lo:=fun d=>o4 (fun r hr=>hev r (by simp only [O.rds,List.mem_append];simp [hr]))
  have e2 : ∀ d,cX s' d hi = cX s d hi:=fun d=>o4 (fun r hr=>hev r (by simp only [O.rds,List.mem_append];simp [hr]))
  have e3 : ∀ d,cX s' d mb = cX s d mb:=fun d=>o4 (fun r hr=>hev r (by simp only [O.rds,List.mem_append];simp [hr]))
  have eq : qv s' (.sls3 sz x lo hi mb) = qv s (.sls3 sz x lo hi mb):=by simp only [qv,e0,e1,e2,e3]
  show K1 K' s' (qv s' (.sls3 sz x lo hi mb))
  rw [eq]
  exact cB h0 k
 | appm ag st sz bytes x y =>
  have e0:=hev x (by simp [O.rds])
  have e1:=hev y (by simp [O.rds])
  show z9 _ _ _ K' s' _ _
  rw [e0,e1,hH];exact JZ hH hT h k
 | bslm ag sz xs =>
  have e0:=o6 (s:=s) (s':=s') (xs:=xs) (fun r hr=>hev r (by simp [O.rds,hr]))
  show _ /\ K' _ ⟨s'.t,_,_⟩
  rw [hH,hT,e0];exact ⟨k.1,h _ _ _ k.2⟩
 | copy sz x y =>
  have e0:=hev x (by simp [O.rds])
  have e1:=hev y (by simp [O.rds])
  show Bc _ K' s' _ _
  rw [e0,e1,hH];exact Jw hH hT h k
 | clr z x =>
  have e0:=hev x (by simp [O.rds])
  show CG _ K' s' _
  rw [e0];exact MJ hH hT h k
 | mkm ag sz bytes z x y =>
  have e0:=hev x (by simp [O.rds])
  have e1:=hev y (by simp [O.rds])
  show FQ _ _ _ _ K' s' _ _
  rw [e0,e1];exact Kw hH hT h k
 | appz ag sz bytes z x y =>
  have e0:=hev x (by simp [O.rds])
  have e1:=hev y (by simp [O.rds])
  show yK _ _ _ _ K' s' _ _
  rw [e0,e1];exact K5 hH hT h k
 | mn x y =>
  have e0:=hev x (by simp [O.rds])
  have e1:=hev y (by simp [O.rds])
  have eq : qv s' (.mn x y) = qv s (.mn x y):=by simp only [qv,e0,e1]
  show K1 K' s' (qv s' (.mn x y))
  rw [eq]
  exact cB h0 k
 | mx x y =>
  have e0:=hev x (by simp [O.rds])
  have e1:=hev y (by simp [O.rds])
  have eq : qv s' (.mx x y) = qv s (.mx x y):=by simp only [qv,e0,e1]
  show K1 K' s' (qv s' (.mx x y))
  rw [eq]
  exact cB h0 k
 | mkmap  =>
  show K' _ ⟨s'.t,_,_⟩
  rw [hH,hT];exact h _ _ _ k
 | mlen x =>
  have e0:=hev x (by simp [O.rds])
  have eq : qv s' (.mlen x) = qv s (.mlen x):=by simp only [qv,e0,hH]
  show K1 K' s' (qv s' (.mlen x))
  rw [eq]
  exact cB h0 k
 | mget ks zv ok x y =>
  have e0:=hev x (by simp [O.rds])
  have e1:=hev y (by simp [O.rds])
  have eq : qv s' (.mget ks zv ok x y) = qv s (.mget ks zv ok x y):=by simp only [qv,e0,e1,hH]
  show K1 K' s' (qv s' (.mget ks zv ok x y))
  rw [eq]
  exact cB h0 k
 | mput ks x y z =>
  have e0:=hev x (by simp [O.rds])
  have e1:=hev y (by simp [O.rds])
  have e2:=hev z (by simp [O.rds])
  show GX _ K' s' _ _ _
  rw [e0,e1,e2];exact KJ hH hT h k
 | ment ks zv x y =>
  have e0:=hev x (by simp [O.rds])
  have e1:=hev y (by simp [O.rds])
  show D6 _ _ K' s' _ _
  rw [e0,e1];exact KM hH hT h k
 | mst x y z =>
  have e0:=hev x (by simp [O.rds])
  have e1:=hev y (by simp [O.rds])
  have e2:=hev z (by simp [O.rds])
  show Ja K' s' _ _ _
  rw [e0,e1,e2];exact Mn hH hT h k
theorem J5 {X X' : d8} (hX : ∀ f args H T Q Q',(∀ r H T,Q r H T -> Q' r H T) -> X f args H T Q -> X' f args H T Q') {o : O} {s : S} {K K' : D -> S -> Prop} (h : ∀ u H T,K u ⟨s.t,H,T⟩ -> K' u ⟨s.t,H,T⟩) (k : WO X o s K) : WO X' o s K' :=
 uT hX rfl rfl (fun _ _=>rfl) h k
theorem rD {X X' : d8} (hX : ∀ f args H T Q Q',(∀ r H T,Q r H T -> Q' r H T) -> X f args H T Q -> X' f args H T Q') {i : I} {s : S} {K K' : S -> Prop} (h : ∀ s',K s' -> K' s') (k : WI X i s K) : WI X' i s K':=by
 unfold WI WIk at *
 split <;> simp_all
 exact J5 hX (fun u H T hk=>h _ hk) k
theorem Hw {X X' : d8} (hX : ∀ f args H T Q Q',(∀ r H T,Q r H T -> Q' r H T) -> X f args H T Q -> X' f args H T Q') : ∀ {is : List I} {s : S} {R R' : S -> Prop},(∀ s',R s' -> R' s') -> Wr X is R s -> Wr X' is R' s
 | [],_,_,_,h,k=>h _ k
 | _ :: _,_,_,_,h,k=>rD hX (fun _ k=>Hw hX h k) k
theorem HO {X X' : d8} (hX : ∀ f args H T Q Q',(∀ r H T,Q r H T -> Q' r H T) -> X f args H T Q -> X' f args H T Q') {i : I} {s : S} (k : qH X i s) : qH X' i s:=by
 unfold qH at *
 split <;> simp_all
 exact J5 hX (fun u H T hk=>hk) k
theorem tI {X X' : d8} (hX : ∀ f args H T Q Q',(∀ r H T,Q r H T -> Q' r H T) -> X f args H T Q -> X' f args H T Q') : ∀ {is : List I} {s : S},eI X is s -> eI X' is s
 | [],_,_=>trivial
 | _ :: _,_,k=>⟨HO hX k.1,tI hX k.2⟩
theorem Ix {X X' : d8} (hX : ∀ f args H T Q Q',(∀ r H T,Q r H T -> Q' r H T) -> X f args H T Q -> X' f args H T Q') : ∀ {is : List (I × List I)} {s : S} {R R' : S -> Prop},(∀ s',R s' -> R' s') -> Wd X is R s -> Wd X' is R' s
 | [],_,_,_,h,k=>h _ k
 | (_,_) :: _,_,_,_,h,k=>rD hX (fun _ k=>⟨tI hX k.1,Ix hX h k.2⟩) k
theorem fE {X X' : d8} (hX : ∀ f args H T Q Q',(∀ r H T,Q r H T -> Q' r H T) -> X f args H T Q -> X' f args H T Q') : ∀ {c : C} {s : S} {Q Q' : Ex -> S -> Prop},(∀ e s',Q e s' -> Q' e s') -> W X c Q s -> W X' c Q' s
 | .skip,_,_,_,h,k=>h _ _ k
 | .reg _,_,_,_,h,k=>Hw hX (fun s' hk=>h _ s' hk) k
 | .draw _ _,_,_,_,h,k=>Ix hX (fun s' hk=>h _ s' hk) k
 | .seq a b,s,Q,Q',h,k=>by
  simp only [W] at k ⊢
  refine fE hX (fun e s' hk=>?_) k
  cases e with
  | normal=>exact fE hX h hk
  | exit i=>exact h _ _ hk
  | ret=>exact h _ _ hk
 | .cond c a b,s,Q,Q',h,k=>by
  simp only [W] at k ⊢
  split
  ·rename_i t hev
   rw [hev] at k
   simp only at k
   cases t
   ·exact fE hX h k
   ·exact fE hX h k
  ·rename_i hn
   split at k
   ·rename_i t hev;exact (hn t hev).elim
   ·exact k
 | .block i c,s,Q,Q',h,k=>by
  simp only [W] at k ⊢
  refine fE hX (fun e s' hk=>?_) k
  cases e with
  | normal=>exact h _ _ hk
  | exit j =>
   simp only [Ho] at hk ⊢
   split
   ·rename_i e;rw [if_pos e] at hk;exact h _ _ hk
   ·rename_i e;rw [if_neg e] at hk;exact h _ _ hk
  | ret=>exact h _ _ hk
 | .loop c,s,Q,Q',h,k=>by
  simp only [W] at k ⊢
  obtain ⟨Iv,μ,h0,h1⟩:=k
  refine ⟨Iv,μ,h0,fun s' hs'=>fE hX (fun e s'' hk=>?_) (h1 s' hs')⟩
  cases e with
  | normal=>exact hk
  | exit j=>exact h _ _ hk
  | ret=>exact h _ _ hk
 | .exit _,_,_,_,h,k=>h _ _ k
 | .ret,_,_,_,h,k=>h _ _ k
 | .stop,_,_,_,_,k=>(show False by simpa only [W] using k).elim
end GP
namespace GP
open Go
variable {P : Program} {X : d8} {imp : Hn}
def uL (X : d8) : Prop:=∀ f args H T Q Q',(∀ r H T,Q r H T -> Q' r H T) -> X f args H T Q -> X f args H T Q'
theorem Snd.mono [HasG P] : uL (Snd P):=by
 intro f args H T Q Q' h k c w vs hg hi hT hr
 have hp : ∀ e w',bJ c w Q e w' -> bJ c w Q' e w':=by
  rintro e w' ⟨v,h1,r,H',T',c',h2,h3⟩
  exact ⟨v,h1,r,H',T',c',h _ _ _ h2,h3⟩
 rcases k c w vs hg hi hT hr with ⟨h1,h2⟩ | ⟨v,w',h1,h2⟩
 ·exact .inl ⟨h1,h2.mono hp⟩
 ·exact .inr ⟨v,w',h1,hp _ _ h2⟩
def gV : O -> Bool
 | .alloc _ | .allocAt _ _ | .box _ | .boxAt _ _ | .bsl _ _ | .store _ _ _ | .s2b _ | .b2m _ | .call _ _ | .app _ _ _ _ _ | .rawAt _ _ | .fillAt _ _ _ _ | .appm _ _ _ _ _ _ | .bslm _ _ _ | .copy _ _ _ | .clr _ _ | .mkm _ _ _ _ _ _ | .appz _ _ _ _ _ _ | .mkmap | .mput _ _ _ _ | .ment _ _ _ _ | .mst _ _ _=>false
 | _=>true
def nU : O -> Bool
 | .load _ _ _ | .pcall _ _ | .mlen _ | .mget _ _ _ _ _=>true
 | _=>false
def Y (X : d8) (i : I) (v : D) (s : S) : Prop :=
 (gd s i.g = some true /\ ∀ K : D -> S -> Prop,K v s -> WO X i.o s K) ∨ (gd s i.g = some false /\ v = .tup [])
theorem Y.wi {i : I} {v : D} {s : S} (h : Y X i v s) {K : S -> Prop} (hk : K (s.put i.d v)) : WI X i s K:=by
 unfold WI WIk
 rcases h with ⟨h1,h2⟩ | ⟨h1,rfl⟩
 ·rw [h1];exact h2 _ hk
 ·rw [h1];exact hk
theorem GC {o : O} (hq : gV o = true) (hp : ∀ f xs,o ≠ .pcall f xs) (s : S) (K : D -> S -> Prop) : WO X o s K = K1 K s (qv s o):=by
 cases o <;> first | rfl | (simp [gV] at hq;done) | exact absurd rfl (hp _ _)
theorem F1 {o : O} (hq : gV o = true) {s : S} {K : D -> S -> Prop} (h : WO X o s K) : ∃ v,(∀ K' : D -> S -> Prop,K' v s -> WO X o s K') /\ K v s:=by
 cases o with
 | pcall f xs =>
  change cT X (xs.map s.ev) K s (s.ev f) at h
  have key : ∀ d,cT X (xs.map s.ev) K s d -> ∃ v,(∀ K' : D -> S -> Prop,K' v s -> cT X (xs.map s.ev) K' s d) /\ K v s:=by
   intro d hd
   cases d <;> simp only [cT] at hd ⊢ <;> first | exact hd.elim | skip
   obtain ⟨r,h1,h2⟩:=hd
   exact ⟨r,fun K' hk=>⟨r,h1,hk⟩,h2⟩
  exact key _ h
 | _ =>
  rw [GC hq (fun _ _ h=>by cases h)] at h
  obtain ⟨v,h1,h2⟩:=cY h
  refine ⟨v,fun K' hk=>?_,h2⟩
  rw [GC hq (fun _ _ h=>by cases h),h1];exact hk
theorem Y.of_quiet {i : I} (hq : gV i.o = true) {s : S} {K : S -> Prop} (h : WI X i s K) : ∃ v,Y X i v s /\ K (s.put i.d v):=by
 unfold WI WIk at h
 split at h
 ·rename_i hg
  obtain ⟨v,h1,h2⟩:=F1 hq h
  exact ⟨v,.inl ⟨hg,h1⟩,h2⟩
 ·rename_i hg;exact ⟨.tup [],.inr ⟨hg,rfl⟩,h⟩
 ·exact h.elim
def I.looks (i : I) : List Nat:=(i.o.rds.filterMap fun | .t k=>some k | .k _=>none) ++ (match i.g with | some (g,_)=>[g] | none=>[])
theorem Rx {s : S} {d : Option Nat} {v : D} {r : Rd} (h : ∀ k,d = some k -> r ≠ .t k) : (s.put d v).ev r = s.ev r:=by
 cases d with
 | none=>rfl
 | some k =>
  cases r with
  | k d=>rfl
  | t i =>
   have : i ≠ k:=fun e=>h k rfl (by rw [e])
   show upd s.t k v i = s.t i
   simp [upd,this]
theorem pF {s : S} {d : Option Nat} {v : D} {i : I} (h : ∀ k,d = some k -> k ∉ i.looks) : gd (s.put d v) i.g = gd s i.g:=by
 cases d with
 | none=>rfl
 | some k =>
  unfold gd
  cases hg : i.g with
  | none=>rfl
  | some p =>
   obtain ⟨g,w⟩:=p
   have : g ≠ k:=fun e=>h k rfl (by simp [I.looks,hg,e])
   have e : upd s.t k v g = s.t g:=by simp [upd,this]
   show (match upd s.t k v g with | .bool b=>some (b == w) | .tup []=>some false | _=>none) = _
   rw [e]
   rfl
theorem oE {s : S} {d : Option Nat} {v : D} {i : I} (h : ∀ k,d = some k -> k ∉ i.looks) : ∀ r ∈ i.o.rds,(s.put d v).ev r = s.ev r:=by
 intro r hr
 refine Rx fun k hk e=>h k hk ?_
 subst e
 exact List.mem_append_left _ (List.mem_filterMap.2 ⟨.t k,hr,rfl⟩)
theorem pB (s : S) (d : Option Nat) (v : D) : (s.put d v).H = s.H /\ (s.put d v).T = s.T:=by cases d <;> exact ⟨rfl,rfl⟩
theorem F3 {s : S} {d e : Option Nat} {u v : D} (h : ∀ k,d = some k -> e ≠ some k) : (s.put d u).put e v = (s.put e v).put d u:=by
 cases d with
 | none=>rfl
 | some k =>
  cases e with
  | none=>rfl
  | some m =>
   have : k ≠ m:=fun e'=>h k rfl (by rw [e'])
   show S.mk (upd (upd s.t k u) m v) _ _ = S.mk (upd (upd s.t m v) k u) _ _
   congr 1
   funext x
   simp only [upd]
   split
   ·rename_i e1;rw [if_neg (by omega)]
   ·rfl
theorem RR {i : I} {d : Option Nat} {v : D} {s : S} (hX : uL X) (h1 : ∀ k,d = some k -> k ∉ i.looks) (h2 : ∀ k,d = some k -> i.d ≠ some k) {K : S -> Prop} (h : WI X i (s.put d v) K) : WI X i s (fun s'=>K (s'.put d v)):=by
 unfold WI WIk at *
 rw [pF h1] at h
 split
 ·rename_i hg
  rw [hg] at h
  refine uT hX (s:=s.put d v) (pB s d v).1.symm (pB s d v).2.symm (fun r hr=>(oE h1 r hr).symm) ?_ h
  intro u H T hk
  have e : (⟨(s.put d v).t,H,T⟩ : S).put i.d u = ((⟨s.t,H,T⟩ : S).put i.d u).put d v:=by
   rw [<- F3 h2]
   congr 1
   cases d <;> rfl
  show K (((⟨s.t,H,T⟩ : S).put i.d u).put d v)
  rw [<- e];exact hk
 ·rename_i hg
  rw [hg] at h
  show K ((s.put i.d (.tup [])).put d v)
  rw [<- F3 h2];exact h
 ·rename_i hg
  rw [hg] at h;exact h
theorem Q2 {o : O} {s s' : S} (hH : nU o = true -> s'.H = s.H) (hev : ∀ r ∈ o.rds,s'.ev r = s.ev r) : qv s' o = qv s o:=by
 have key : ∀ z : S,z.H = s.H -> (∀ r ∈ o.rds,z.ev r = s.ev r) -> qv z o = qv s o:=by
  intro z hz hzev
  have h1 : ∀ (v : D) (K : D -> S -> Prop),qv s o = some v -> True:=fun _ _ _=>trivial
  have fwd : ∀ v,qv s o = some v -> qv z o = some v:=by
   intro v hv
   by_cases hq : gV o = true /\ ∀ f xs,o ≠ .pcall f xs
   ·have:=uT (X:=fun _ _ _ _ _=>False) (X':=fun _ _ _ _ _=>False) (fun _ _ _ _ _ _ _ h=>h) (o:=o) (s:=⟨s.t,s.H,z.T⟩) (s':=z) hz rfl hzev (K:=fun u _=>u = v) (K':=fun u _=>u = v) (fun _ _ _ h=>h)
     (by rw [GC hq.1 hq.2];show K1 _ _ (qv s o);rw [hv];rfl)
    rw [GC hq.1 hq.2] at this
    obtain ⟨d,h1,h2⟩:=cY this
    rw [h1,h2]
   ·cases o <;> first | (simp [qv] at hv;done) | (exact absurd ⟨rfl,fun _ _ h=>by cases h⟩ hq)
  have bwd : ∀ v,qv z o = some v -> qv s o = some v:=by
   intro v hv
   by_cases hq : gV o = true /\ ∀ f xs,o ≠ .pcall f xs
   ·have:=uT (X:=fun _ _ _ _ _=>False) (X':=fun _ _ _ _ _=>False) (fun _ _ _ _ _ _ _ h=>h) (o:=o) (s:=⟨z.t,z.H,s.T⟩) (s':=s) hz.symm rfl (fun r hr=>(hzev r hr).symm) (K:=fun u _=>u = v) (K':=fun u _=>u = v) (fun _ _ _ h=>h)
     (by rw [GC hq.1 hq.2];show K1 _ _ (qv z o);rw [hv];rfl)
    rw [GC hq.1 hq.2] at this
    obtain ⟨d,h1,h2⟩:=cY this
    rw [h1,h2]
   ·cases o <;> first | (simp [qv] at hv;done) | (exact absurd ⟨rfl,fun _ _ h=>by cases h⟩ hq)
  cases h : qv s o with
  | none =>
   cases h' : qv z o with
   | none=>rfl
   | some v=>rw [bwd v h'] at h;cases h
  | some v=>exact fwd v h
 by_cases hd : nU o = true
 ·exact key s' (hH hd) hev
 ·have e1 : qv s' o = qv ⟨s'.t,s.H,s'.T⟩ o:=by
   cases o <;> first | rfl | (simp [nU] at hd;done)
  rw [e1]
  exact key ⟨s'.t,s.H,s'.T⟩ rfl hev
theorem Y.atq {i : I} (hq : gV i.o = true) {v : D} {s s' : S} (h : Y X i v s) (hH : nU i.o = true -> s'.H = s.H) (hg : gd s' i.g = gd s i.g) (hev : ∀ r ∈ i.o.rds,s'.ev r = s.ev r) : Y X i v s':=by
 rcases h with ⟨h1,h2⟩ | ⟨h1,h2⟩
 ·refine .inl ⟨by rw [hg];exact h1,fun K' hk=>?_⟩
  by_cases hp : ∀ f xs,i.o ≠ .pcall f xs
  ·have:=h2 (fun u _=>u = v) rfl
   rw [GC hq hp] at this ⊢
   rw [Q2 hH hev]
   obtain ⟨d,e1,e2⟩:=cY this
   rw [e1,e2];exact hk
  ·cases ho : i.o with
   | pcall f xs =>
    rw [ho] at h2 hH hev
    have:=h2 (fun u _=>u = v) rfl
    change cT X (xs.map s.ev) (fun u _=>u = v) s (s.ev f) at this
    show cT X (xs.map s'.ev) K' s' (s'.ev f)
    rw [hev f (by simp [O.rds]),o6 (s:=s) (s':=s') (xs:=xs) (fun r hr=>hev r (by simp [O.rds,hr]))]
    refine C6 (s:=s) (fun _ _ _ _ _ h=>h) (hH rfl) (K:=fun u _=>u = v) (fun u hu=>?_) this
    subst hu;exact hk
   | _=>exact absurd (fun f xs h=>by rw [ho] at h;cases h) hp
 ·exact .inr ⟨by rw [hg];exact h1,h2⟩
theorem Cg {H : Hp} {k : Nat} {b u : Ob} (hb : b.blank = true) (hk : H[k]? = some b) {d : D} {es : List (D × D × Nat)} (h : kS H d = some es) : kS (H.set k u) d = some es:=by
 unfold kS at h ⊢
 split at h
 ·exact h
 ·rename_i o
  split at h
  ·rename_i es' clk ho
   have e : k ≠ o:=fun e=>by
    subst e;rw [hk] at ho;injection ho with ho;subst ho;cases hb
   rw [List.getElem?_set_ne e,ho];exact h
  ·cases h
 ·cases h
theorem Y.fill {i : I} (hq : gV i.o = true) {v : D} {s : S} (h : Y X i v s) {k : Nat} {b u : Ob} (hb : b.blank = true) (hk : s.H[k]? = some b) : Y X i v ⟨s.t,s.H.set k u,s.T⟩:=by
 have hle : Hle s.H (s.H.set k u):=by
  intro o x hx h1
  by_cases e : k = o
  ·subst e;rw [hk] at hx;injection hx with hx;subst hx;rw [hb] at h1;cases h1
  ·rw [List.getElem?_set_ne e];exact hx
 have hrd : ∀ off,eO s.H (.ptr k off) = none:=fun off=>by
  simp only [eO,hk]
  cases b <;> simp [Ob.blank] at hb <;> rfl
 rcases h with ⟨h1,h2⟩ | ⟨h1,h2⟩
 ·refine .inl ⟨h1,fun K' hk'=>?_⟩
  by_cases hp : ∀ f xs,i.o ≠ .pcall f xs
  ·have:=h2 (fun u _=>u = v) rfl
   rw [GC hq hp] at this ⊢
   obtain ⟨d,e1,e2⟩:=cY this
   subst e2
   have : qv ⟨s.t,s.H.set k u,s.T⟩ i.o = some d:=by
    by_cases hd : nU i.o = true
    ·cases ho : i.o with
     | load ag n x =>
      rw [ho] at e1
      simp only [qv] at e1 ⊢
      have hev : (⟨s.t,s.H.set k u,s.T⟩ : S).ev x = s.ev x:=by cases x <;> rfl
      rw [hev]
      rw [<- e1]
      congr 1
      cases hx : s.ev x with
      | ptr o off =>
       rw [hx] at e1
       simp only [eO]
       by_cases e : k = o
       ·subst e;rw [hrd] at e1;simp [ld] at e1
       ·rw [List.getElem?_set_ne e]
      | _=>rfl
     | mlen x =>
      rw [ho] at e1
      simp only [qv] at e1 ⊢
      have hev : (⟨s.t,s.H.set k u,s.T⟩ : S).ev x = s.ev x:=by cases x <;> rfl
      rw [hev]
      cases hes : kS s.H (s.ev x) with
      | none=>rw [hes] at e1;cases e1
      | some es=>rw [Cg hb hk hes,← hes];exact e1
     | mget ks zv ok x y =>
      rw [ho] at e1
      simp only [qv] at e1 ⊢
      have hev : ∀ r,(⟨s.t,s.H.set k u,s.T⟩ : S).ev r = s.ev r:=fun r=>by cases r <;> rfl
      rw [hev,hev]
      cases hes : kS s.H (s.ev x) with
      | none =>
       have : sV s.H ks zv ok (s.ev x) (s.ev y) = none:=by
        unfold sV;split
        ·rw [hes]
        ·rfl
       rw [this] at e1;split at e1 <;> cases e1
      | some es =>
       have : sV (s.H.set k u) ks zv ok (s.ev x) (s.ev y) = sV s.H ks zv ok (s.ev x) (s.ev y):=by
        unfold sV;rw [Cg hb hk hes,hes]
       rw [this];exact e1
     | pcall f xs=>exact absurd ho (hp f xs)
     | _=>rw [ho] at hd;simp [nU] at hd
    ·rw [Q2 (s:=s) (fun h=>absurd h hd) (fun r _=>by cases r <;> rfl)];exact e1
   rw [this];exact hk'
  ·cases ho : i.o with
   | pcall f xs =>
    rw [ho] at h2
    have:=h2 (fun u _=>u = v) rfl
    change cT X (xs.map s.ev) (fun u _=>u = v) s (s.ev f) at this
    have hevx : ∀ r,(⟨s.t,s.H.set k u,s.T⟩ : S).ev r = s.ev r:=fun r=>by cases r <;> rfl
    show cT X (xs.map (⟨s.t,s.H.set k u,s.T⟩ : S).ev) K' _ ((⟨s.t,s.H.set k u,s.T⟩ : S).ev f)
    rw [hevx f,o6 (s:=s) (fun r _=>hevx r)]
    have key : ∀ d,cT X (xs.map s.ev) (fun u _=>u = v) s d -> cT X (xs.map s.ev) K' ⟨s.t,s.H.set k u,s.T⟩ d:=by
     intro d hd
     cases d <;> simp only [cT] at hd ⊢ <;> first | exact hd.elim | skip
     obtain ⟨r,p1,p2⟩:=hd
     subst p2
     exact ⟨r,fun H' T' Q a b=>p1 H' T' Q (fun o x a1 a2=>a o x (hle o x a1 a2) a2) b,hk'⟩
    exact key _ this
   | _=>exact absurd (fun f xs h=>by rw [ho] at h;cases h) hp
 ·exact .inr ⟨h1,h2⟩
def ready (ops : Array Oper) (listed : Array Bool) : List Nat:=Region.ready .any ops listed
def yB (X : d8) (sl : Nat -> I) (st : List Nat) (listed : Array Bool) (s : S) : Prop:=∀ i ∈ st,listed.getD i false = true -> qH X (sl i) s
def CK (X : d8) (ops : Array Oper) (sl : Nat -> I) (st : Nat -> List Nat) (R : S -> Prop) : Nat -> Array Bool -> S -> Prop
 | 0,listed,s=>ready ops listed = [] /\ R s
 | fuel + 1,listed,s=>(ready ops listed = [] -> R s) /\ ∀ j ∈ ready ops listed,WI X (sl j) s (fun s'=>yB X sl (st j) listed s' /\ CK X ops sl st R fuel (listed.setIfInBounds j true) s')
end GP
