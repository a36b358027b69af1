import Derived.Test.YtainhmbnbgonhaaGreatDoorProg
import Derived.Test.YtainhmbnbgonhaaGreatDoorM5
import Derived.Test.YtainhmbnbgonhaaGreatDoorM7
set_option linter.unusedSimpArgs false
set_option linter.unnecessarySimpa false
namespace GP
open Go
mutual
def D.ren (σ θ : Nat -> Nat) : D -> D
 | .sl t xs=>.sl (t.map θ) (D.renL σ θ xs)
 | .el cs=>.el (D.renL σ θ cs)
 | .agg cs=>.agg (D.renL σ θ cs)
 | .tup cs=>.tup (D.renL σ θ cs)
 | .fn f a b=>.fn f (D.renL σ θ a) (D.renL σ θ b)
 | .ifc t d=>.ifc t (D.ren σ θ d)
 | .ptr o off=>.ptr (σ o) off
 | .mp o=>.mp (σ o)
 | .ms ag z o off n cap=>.ms ag z (σ o) off n cap
 | d=>d
def D.renL (σ θ : Nat -> Nat) : List D -> List D
 | []=>[]
 | d :: ds=>D.ren σ θ d :: D.renL σ θ ds
end
section
variable {σ θ : Nat -> Nat}
theorem renL_len : ∀ (l : List D),(D.renL σ θ l).length = l.length
 | []=>by simp [D.renL]
 | d :: l=>by simp [D.renL,renL_len l]
theorem renL_get : ∀ (l : List D) (i : Nat) (h : i < l.length) (h' : i < (D.renL σ θ l).length),(D.renL σ θ l)[i] = (l[i]).ren σ θ
 | d :: l,0,h,h'=>by simp [D.renL]
 | d :: l,i + 1,h,h'=>by
  simp only [D.renL,List.getElem_cons_succ]
  exact renL_get l i _ _
theorem renL_map (l : List D) : D.renL σ θ l = l.map (D.ren σ θ):=by
 induction l with
 | nil=>simp [D.renL]
 | cons d l ih=>simp [D.renL,ih]
theorem ren_one (d : D) : (d.ren σ θ).one = d.one:=by cases d <;> simp [D.ren,D.one]
theorem ren_cells (d : D) : (d.ren σ θ).cells = D.renL σ θ d.cells:=by cases d <;> simp [D.ren,D.cells,D.renL]
theorem Rep.unren {c c' : Cx} {n m : Nat} {e : D} {v : Value} (h : Rep c e v) (hM : ∀ a v,c.M a = some v -> c'.M a = some v) (hbd : ∀ o,o < n -> c.bd (σ o) = true -> c'.bd o = true) (hβ : ∀ o,o < n -> c'.β o = c.β (σ o)) (hsz : ∀ o,o < n -> c'.sz o = c.sz (σ o))
  (hm : m <= c'.T.length) (hT : ∀ τ,τ < m -> c'.T[τ]? = c.T[θ τ]? /\ c'.κ τ = c.κ (θ τ)) : ∀ d : D,d.ren σ θ = e -> d.cl n m = true -> Rep c' d v:=by
 induction h with
 | bool b=>intro d he hd;cases d <;> simp [D.ren] at he;subst he;exact .bool _
 | int k n=>intro d he hd;cases d <;> simp [D.ren] at he;obtain ⟨rfl,rfl⟩:=he;exact .int _ _
 | str l h=>intro d he hd;cases d <;> simp [D.ren] at he;subst he;exact .str _ h
 | nilp=>intro d he hd;cases d <;> simp [D.ren] at he;exact .nilp
 | ptr o off h =>
  intro d he hd
  cases d <;> simp [D.ren] at he
  obtain ⟨rfl,rfl⟩:=he
  simp only [D.cl,decide_eq_true_eq] at hd
  rw [<- hβ _ hd];exact .ptr _ _ (hbd _ hd h)
 | ms ag z o off len cap rc h h1 h2 h3 =>
  intro d he hd
  cases d <;> simp [D.ren] at he
  obtain ⟨rfl,rfl,rfl,rfl,rfl,rfl⟩:=he
  simp only [D.cl,decide_eq_true_eq] at hd
  rw [<- hβ _ hd];exact .ms _ _ _ _ _ _ rc (hbd _ hd h) h1 h2 (by rw [hsz _ hd];exact h3)
 | e0 a=>intro d he hd;cases d <;> simp [D.ren] at he;exact .e0 a
 | el cs a vs ha h1 hM' _ ih =>
  intro d he hd
  cases d <;> simp [D.ren] at he
  rename_i ds
  subst he
  simp only [D.cl] at hd
  have hl:=renL_len (σ:=σ) (θ:=θ) ds
  refine .el ds a vs ha (fun x hx=>?_) (fun i hi=>hM _ _ (hM' i (by omega))) (fun i hi=>?_)
  ·have:=h1 (x.ren σ θ) (by rw [renL_map];exact List.mem_map_of_mem hx)
   rwa [ren_one] at this
  ·exact ih i (by omega) _ (renL_get ds i hi (by omega)).symm (clL_mem hd _ (List.getElem_mem hi))
 | nils=>intro d he hd;cases d <;> simp [D.ren] at he;exact .nils
 | sl t xs a cap sz vs hlen hb hsz' h1 ha hs hM' _ htl ht ih =>
  intro d he hd
  cases d <;> simp [D.ren] at he
  rename_i t' ds
  obtain ⟨rfl,rfl⟩:=he
  simp only [D.cl,Bool.and_eq_true] at hd
  obtain ⟨hτ,hd⟩:=hd
  have hl:=renL_len (σ:=σ) (θ:=θ) ds
  have hmem : ∀ x ∈ ds,x.ren σ θ ∈ D.renL σ θ ds:=fun x hx=>by rw [renL_map];exact List.mem_map_of_mem hx
  have hne : ds ≠ [] -> D.renL σ θ ds ≠ []:=fun h e=>h (by rw [<- List.length_eq_zero_iff] at e ⊢;omega)
  rw [hl]
  refine .sl t' ds a cap sz vs (by omega) (by omega) (fun x hx=>?_) (fun x hx y hy=>?_) (fun h=>ha (hne h)) (fun h=>hs (hne h)) (fun i hi j hj b hb=>hM _ _ (hM' i (by omega) j hj b hb)) (fun i hi j hj=>?_) ?_ ?_
  ·have:=hsz' _ (hmem x hx)
   rwa [ren_cells,renL_len] at this
  ·have:=h1 _ (hmem x hx) (y.ren σ θ) (by rw [ren_cells,renL_map];exact List.mem_map_of_mem hy)
   rwa [ren_one] at this
  ·have e1 : (D.renL σ θ ds)[i]'(by omega) = (ds[i]).ren σ θ:=renL_get ds i hi (by omega)
   have e2 : ((D.renL σ θ ds)[i]'(by omega)).cells = D.renL σ θ (ds[i].cells):=by rw [e1,ren_cells]
   have hj' : j < (((D.renL σ θ ds)[i]'(by omega)).cells).length:=by rw [e2,renL_len];exact hj
   refine ih i (by omega) j hj' _ ?_ (cl_cells (clL_mem hd _ (List.getElem_mem hi)) _ (List.getElem_mem hj))
   rw [<- renL_get (ds[i].cells) j hj (by rw [renL_len];exact hj)]
   congr 1
   exact e2.symm
  ·rintro τ rfl
   simp only [decide_eq_true_eq] at hτ
   omega
  ·rintro τ rfl n' z' hn
   simp only [decide_eq_true_eq] at hτ
   obtain ⟨e1,e2⟩:=hT τ hτ
   rw [e1] at hn
   rw [e2]
   have:=ht (θ τ) rfl n' z' hn
   rwa [hl] at this
 | fn f p q vp vq hp hq _ _ ih1 ih2 =>
  intro d he hd
  cases d <;> simp [D.ren] at he
  rename_i f' p' q'
  obtain ⟨rfl,rfl,rfl⟩:=he
  simp only [D.cl,Bool.and_eq_true] at hd
  have hl1:=renL_len (σ:=σ) (θ:=θ) p'
  have hl2:=renL_len (σ:=σ) (θ:=θ) q'
  exact .fn f' p' q' vp vq (by omega) (by omega) (fun i h h'=>ih1 i (by omega) h' _ (renL_get p' i h (by omega)).symm (clL_mem hd.1 _ (List.getElem_mem h))) (fun i h h'=>ih2 i (by omega) h' _ (renL_get q' i h (by omega)).symm (clL_mem hd.2 _ (List.getElem_mem h)))
 | nilf=>intro d he hd;cases d <;> simp [D.ren] at he;exact .nilf
 | mp o h =>
  intro d he hd
  cases d <;> simp [D.ren] at he
  subst he
  simp only [D.cl,decide_eq_true_eq] at hd
  rw [<- hβ _ hd];exact .mp _ (hbd _ hd h)
 | nilm=>intro d he hd;cases d <;> simp [D.ren] at he;exact .nilm
 | nili=>intro d he hd;cases d <;> simp [D.ren] at he;exact .nili
 | ifc t x v _ ih =>
  intro d he hd
  cases d <;> simp [D.ren] at he
  obtain ⟨rfl,rfl⟩:=he
  exact .ifc _ _ v (ih _ rfl (by simpa only [D.cl] using hd))
 | agg cs vs hl h1 _ ih =>
  intro d he hd
  cases d <;> simp [D.ren] at he
  rename_i ds
  subst he
  simp only [D.cl] at hd
  have hl':=renL_len (σ:=σ) (θ:=θ) ds
  refine .agg ds vs (by omega) (fun x hx=>?_) (fun i h h'=>ih i (by omega) h' _ (renL_get ds i h (by omega)).symm (clL_mem hd _ (List.getElem_mem h)))
  have:=h1 (x.ren σ θ) (by rw [renL_map];exact List.mem_map_of_mem hx)
  rwa [ren_one] at this
 | tup cs vs hl _ ih =>
  intro d he hd
  cases d <;> simp [D.ren] at he
  rename_i ds
  subst he
  simp only [D.cl] at hd
  have hl':=renL_len (σ:=σ) (θ:=θ) ds
  exact .tup ds vs (by omega) (fun i h h'=>ih i (by omega) h' _ (renL_get ds i h (by omega)).symm (clL_mem hd _ (List.getElem_mem h)))
 | top v=>intro d he hd;cases d <;> simp [D.ren] at he;exact .top v
end
mutual
theorem ren_cl {n m : Nat} {σ θ : Nat -> Nat} (hσ : ∀ o,o < n -> σ o = o) (hθ : ∀ τ,τ < m -> θ τ = τ) : ∀ (d : D),d.cl n m = true -> d.ren σ θ = d
 | .sl t xs,h=>by
  simp only [D.cl,Bool.and_eq_true] at h
  simp only [D.ren,renL_cl hσ hθ xs h.2]
  cases t with
  | none=>rfl
  | some τ =>
   have:=h.1
   simp only [decide_eq_true_eq] at this
   simp [hθ τ this]
 | .el cs,h=>by simp only [D.cl] at h;simp only [D.ren,renL_cl hσ hθ cs h]
 | .agg cs,h=>by simp only [D.cl] at h;simp only [D.ren,renL_cl hσ hθ cs h]
 | .tup cs,h=>by simp only [D.cl] at h;simp only [D.ren,renL_cl hσ hθ cs h]
 | .fn f a b,h=>by
  simp only [D.cl,Bool.and_eq_true] at h
  simp only [D.ren,renL_cl hσ hθ a h.1,renL_cl hσ hθ b h.2]
 | .ifc t d,h=>by simp only [D.cl] at h;simp only [D.ren,ren_cl hσ hθ d h]
 | .ptr o _,h=>by simp only [D.cl,decide_eq_true_eq] at h;simp only [D.ren,hσ o h]
 | .mp o,h=>by simp only [D.cl,decide_eq_true_eq] at h;simp only [D.ren,hσ o h]
 | .ms _ _ o _ _ _,h=>by simp only [D.cl,decide_eq_true_eq] at h;simp only [D.ren,hσ o h]
 | .e0,_ | .bool _,_ | .int _ _,_ | .str _,_ | .nilp,_ | .nils,_ | .nilf,_ | .nilm,_ | .nili,_ | .top,_=>by simp [D.ren]
theorem renL_cl {n m : Nat} {σ θ : Nat -> Nat} (hσ : ∀ o,o < n -> σ o = o) (hθ : ∀ τ,τ < m -> θ τ = τ) : ∀ (l : List D),D.clL n m l = true -> D.renL σ θ l = l
 | [],_=>by simp [D.renL]
 | d :: l,h=>by
  simp only [D.clL,Bool.and_eq_true] at h
  simp only [D.renL,ren_cl hσ hθ d h.1,renL_cl hσ hθ l h.2]
end
theorem renL_cl0 {σ θ : Nat -> Nat} (l : List D) (h : D.clL 0 0 l = true) : D.renL σ θ l = l:=renL_cl (fun _ h=>absurd h (by omega)) (fun _ h=>absurd h (by omega)) l h
def RenOb (σ θ : Nat -> Nat) (x y : Ob) : Prop :=
 (∃ cs cs',x = .row cs /\ y = .row cs' /\ cs'.length = cs.length /\ (∀ d ∈ cs,d.one = true) /\ ∀ i (h : i < cs.length) (h' : i < cs'.length),Crs cs'[i] ((cs[i]).ren σ θ)) ∨ (x = .dead) ∨ (x = .hole /\ y = .hole)
structure RenTo (H : Hp) (T : Tk) (r2 : D) (H2 : Hp) (T2 : Tk) (r0 : D) (H1 : Hp) (T1 : Tk) (σ θ : Nat -> Nat) : Prop where
 σ0 : ∀ o,o < H.length -> σ o = o
 θ0 : ∀ τ,τ < T.length -> θ τ = τ
 res : Crs r2 (r0.ren σ θ)
 ob : ∀ (o : Nat) x,H1[o]? = some x -> ∃ y,H2[σ o]? = some y /\ ((y = x /\ H[o]? = some x) ∨ RenOb σ θ x y)
 σi : ∀ o o',o < H1.length -> o' < H1.length -> σ o = σ o' -> o = o'
 θi : ∀ τ τ',τ < T1.length -> τ' < T1.length -> θ τ = θ τ' -> τ = τ'
 tok : ∀ τ,τ < T1.length -> T2[θ τ]? = T1[τ]?
 hl : H.length <= H1.length
 tl : T.length <= T1.length
def LeavesG (H : Hp) (T : Tk) (r0 : D) (H1 : Hp) (T1 : Tk) : Post:=fun r H' T'=>∃ r2 H2,Frz r H' r2 H2 /\ ∃ σ θ,RenTo H T r2 H2 T' r0 H1 T1 σ θ
theorem lt_of_get {α : Type} {l : List α} {i : Nat} {x : α} (h : l[i]? = some x) : i < l.length:=by
 rcases Nat.lt_or_ge i l.length with h' | h'
 ·exact h'
 ·rw [List.getElem?_eq_none h'] at h;cases h
section
variable {P : Program}
theorem CallPost.forgetG {c : Cx} {w : World} {H H1 : Hp} {T T1 : Tk} {Q : Post} (hi : Inv c w H) (hT : c.T = T) {r0 : D} (hcl : r0.cl H1.length T1.length = true) (hC : Closed H H1 T1.length) (hQ : Q r0 H1 T1) {e : Ending} {w' : World}
  (h : CallPost c w (LeavesG H T r0 H1 T1) e w') : CallPost c w Q e w':=by
 have h:=CallPost.frz (Q:=fun r2 H2 T'=>∃ σ θ,RenTo H T r2 H2 T' r0 H1 T1 σ θ) h
 obtain ⟨v,rfl,r,H',T',c',⟨σ,θ,hr⟩,hrep,hinv,hle,hT',hbel⟩:=h
 obtain ⟨hσ0,hθ0,hres,hob,hσi,hθi,htok,hhl,htl⟩:=hr
 let c2 : Cx:={ c' with β:=fun o=>c'.β (σ o),κ:=fun τ=>c'.κ (θ τ),bd:=fun o=>c'.bd (σ o) && decide (o < H1.length),T:=T1,sz:=fun o=>c'.sz (σ o) }
 have move : ∀ {d : D} {v : Value},Rep c' (d.ren σ θ) v -> d.cl H1.length T1.length = true -> Rep c2 d v:=fun {d v} hr hd =>
  hr.unren (n:=H1.length) (m:=T1.length) (c':=c2) (fun _ _ h=>h) (fun o ho h=>by show (c'.bd (σ o) && decide (o < H1.length)) = true;simp [h,ho]) (fun _ _=>rfl) (fun _ _=>rfl) (Nat.le_refl _)
   (fun τ hτ=>⟨by show T1[τ]? = c'.T[θ τ]?;rw [hT'];exact (htok τ hτ).symm,rfl⟩) d rfl hd
 have hold : ∀ o,c.bd o = true -> o < H.length:=fun o ho=>by
  rcases Nat.lt_or_ge o H.length with h' | h'
  ·exact h'
  ·rw [hi.free o (.inl h')] at ho;cases ho
 have live : ∀ {o : Nat} {x y},((y = x /\ H[o]? = some x) ∨ RenOb σ θ x y) -> x.live = true -> x.live = y.live /\ y.live = true:=fun {o x y} h hx=>by
  rcases h with ⟨rfl,_⟩ | ⟨cs,cs',rfl,rfl,_⟩ | rfl | ⟨rfl,rfl⟩
  ·exact ⟨rfl,hx⟩
  ·exact ⟨rfl,rfl⟩
  ·cases hx
  ·cases hx
 have tk : ∀ {τ : Nat} {x},T1[τ]? = some x -> c'.T[θ τ]? = some x:=fun {τ x} h=>by
  rw [hT',htok τ (lt_of_get h)];exact h
 refine ⟨v,rfl,r0,H1,T1,c2,hQ,move (hres _ _ hrep) hcl,?_,?_,rfl,hbel⟩
 ·refine ⟨hinv.keep,hinv.low,fun o x cs h hx=>?_,?_,fun o x h hx=>?_,fun o o' x x' h h' hx hx' he=>?_,fun o es h=>?_,fun o m l h=>?_,
   fun τ n z h=>hinv.tok (θ τ) n z (tk h),fun τ n z o x h h1 hx=>?_,fun τ n z τ' n' z' h h' he=>hθi τ τ' (lt_of_get h) (lt_of_get h') (hinv.toks _ n z _ n' z' (tk h) (tk h') he)⟩
  ·obtain ⟨y,g1,g2⟩:=hob o x h
   have hclosed : D.clL H1.length T1.length cs = true:=by
    rcases hC.2 o x cs h hx with h0 | h0
    ·obtain ⟨vs0,rest0,e0,fr0,q1,q2,q4,q3⟩:=(hi.row o x cs h0 hx).hold
     refine clL_of fun d hd=>?_
     obtain ⟨i,hi',rfl⟩:=List.getElem_of_mem hd
     have:=(q2.rep i hi' (by rw [q2.len];exact hi')).cl (n:=H1.length) fun o ho=>Nat.lt_of_lt_of_le (hold o ho) hhl
     rw [hT] at this
     exact D.cl_mono (Nat.le_refl _) htl _ this
    ·exact h0
   rcases g2 with ⟨rfl,g0⟩ | ⟨cs0,cs',rfl,rfl,g3,g4,g5⟩ | rfl | ⟨rfl,rfl⟩
   ·obtain ⟨vs,rest,e,fr,k1,k2,k4,k3⟩:=(hinv.row (σ o) y cs g1 hx).hold
    refine ⟨vs,rest,e,fr,k1,⟨k2.len,k2.one,fun i a b=>?_⟩,k4,k3⟩
    have hcl0 : (cs[i]).cl H.length T.length = true:=by
     obtain ⟨vs0,rest0,e0,fr0,q1,q2,q4,q3⟩:=(hi.row o y cs g0 hx).hold
     have:=(q2.rep i a (by rw [q2.len];exact a)).cl (n:=H.length) fun o ho=>hold o ho
     rwa [hT] at this
    refine move ?_ (clL_mem hclosed _ (List.getElem_mem a))
    rw [ren_cl (fun o ho=>hσ0 o ho) (fun τ hτ=>hθ0 τ hτ) _ hcl0]
    exact k2.rep i a b
   ·simp only [Ob.cells?,Option.some.injEq] at hx
    subst hx
    obtain ⟨vs,rest,e,fr,k1,k2,k4,k3⟩:=hinv.row (σ o) _ cs' g1 rfl
    refine ⟨vs,rest,e,fr,k1,⟨by rw [k2.len,g3],g4,fun i a b=>?_⟩,k4,k3⟩
    have a' : i < cs'.length:=by omega
    exact move (g5 i a a' _ _ (k2.rep i a' b)) (clL_mem hclosed _ (List.getElem_mem a))
   ·cases hx
   ·cases hx
  ·intro o h
   show (c'.bd (σ o) && decide (o < H1.length)) = false
   rcases h with h | h
   ·have : ¬ o < H1.length:=by omega
    simp [this]
   ·obtain ⟨y,g1,g2⟩:=hob o _ h
    rcases g2 with ⟨rfl,_⟩ | ⟨cs,cs',g3,_⟩ | g3 | ⟨_,rfl⟩
    ·rw [hinv.free (σ o) (.inr g1)];rfl
    ·cases g3
    ·cases g3
    ·rw [hinv.free (σ o) (.inr g1)];rfl
  ·obtain ⟨y,g1,g2⟩:=hob o x h
   obtain ⟨q1,q2,q3,q4⟩:=hinv.own (σ o) y g1 (live g2 hx).2
   exact ⟨by show (c'.bd (σ o) && decide (o < H1.length)) = true;simp [q1,lt_of_get h],q2,q3,q4⟩
  ·obtain ⟨y,g1,g2⟩:=hob o x h
   obtain ⟨y',g1',g2'⟩:=hob o' x' h'
   exact hσi o o' (lt_of_get h) (lt_of_get h') (hinv.apart (σ o) (σ o') y y' g1 g1' (live g2 hx).2 (live g2' hx').2 he)
  ·obtain ⟨y,g1,g2⟩:=hob o _ h
   rcases g2 with ⟨rfl,_⟩ | ⟨cs,cs',g3,_⟩ | g3 | ⟨g3,_⟩
   ·exact hinv.map (σ o) es g1
   all_goals cases g3
  ·obtain ⟨y,g1,g2⟩:=hob o _ h
   rcases g2 with ⟨rfl,_⟩ | ⟨cs,cs',g3,_⟩ | g3 | ⟨g3,_⟩
   ·exact hinv.iter (σ o) m l g1
   all_goals cases g3
  ·obtain ⟨y,g1,g2⟩:=hob o x h1
   exact hinv.tokrow (θ τ) n z (σ o) y (tk h) g1 (live g2 hx).2
 ·refine ⟨hle.M,fun o ho=>?_,fun o ho=>?_,by rw [hT];exact htl,fun τ h=>?_,fun τ n z h=>?_,hle.B,fun o ho=>?_⟩
  ·show (c'.bd (σ o) && decide (o < H1.length)) = true
   have:=hold o ho
   rw [hσ0 o this]
   simp [hle.bd o ho,show o < H1.length by omega]
  ·show c'.β (σ o) = c.β o
   rw [hσ0 o (hold o ho)];exact hle.β o ho
  ·rw [hT] at h
   have hlt:=lt_of_get h
   have:=hle.dead τ (by rw [hT];exact h)
   show T1[τ]? = some none
   rw [<- htok τ (by omega),hθ0 τ hlt,← hT'];exact this
  ·rw [hT] at h
   have hlt:=lt_of_get h
   have e1 : T1[τ]? = c'.T[τ]?:=by rw [<- htok τ (by omega),hθ0 τ hlt,hT']
   rcases hle.tok τ n z (by rw [hT];exact h) with k | ⟨n',k1,k2,k3⟩
   ·exact .inl (by show T1[τ]? = some none;rw [e1];exact k)
   ·exact .inr ⟨n',by show T1[τ]? = _;rw [e1];exact k1,k2,fun e=>by show c'.κ (θ τ) = c.κ τ;rw [hθ0 τ hlt];exact k3 e⟩
  ·show c'.sz (σ o) = c.sz o
   rw [hσ0 o (hold o ho)];exact hle.sz o ho
end
variable {P : Program} [HasG P]
abbrev FsG:=List (FuncId × (Hp -> Tk -> List D -> Option (D × Hp × Tk)))
def lookG : FsG -> Hp -> Tk -> FuncId -> List D -> Option (D × Hp × Tk)
 | [],_,_,_,_=>none
 | (g,φ) :: l,H,T,f,a=>if f = g then φ H T a else lookG l H T f a
def inG : FsG -> FuncId -> Bool
 | [],_=>false
 | (g,_) :: l,f=>decide (f = g) || inG l f
@[go_sem] theorem lookG_nil (H : Hp) (T : Tk) (f : FuncId) (a : List D) : lookG [] H T f a = none:=id rfl
@[go_sem] theorem lookG_cons (g : FuncId) (φ : Hp -> Tk -> List D -> Option (D × Hp × Tk)) (l : FsG) (H : Hp) (T : Tk) (f : FuncId) (a : List D) : lookG ((g,φ) :: l) H T f a = if f = g then φ H T a else lookG l H T f a:=id rfl
@[go_sem] theorem inG_nil (f : FuncId) : inG [] f = false:=id rfl
@[go_sem] theorem inG_cons (g : FuncId) (φ : Hp -> Tk -> List D -> Option (D × Hp × Tk)) (l : FsG) (f : FuncId) : inG ((g,φ) :: l) f = (decide (f = g) || inG l f):=id rfl
theorem lookG_in : ∀ {l : FsG} {H : Hp} {T : Tk} {f : FuncId} {a : List D},inG l f = false -> lookG l H T f a = none
 | [],_,_,_,_,_=>rfl
 | (g,φ) :: l,H,T,f,a,h=>by
  simp only [inG,Bool.or_eq_false_iff,decide_eq_false_iff_not] at h
  simp only [lookG]
  rw [if_neg h.1];exact lookG_in h.2
def OkAtG (P : Program) [HasG P] (f : FuncId) (φ : Hp -> Tk -> List D -> Option (D × Hp × Tk)) : Prop:=∀ H T args r H' T',φ H T args = some (r,H',T') -> ∀ args',D.eraseL args' = args -> ∀ (Q : Post),Q r H' T' -> Snd P f args' H T Q
def OkG (P : Program) [HasG P] (m : FsG) : Prop:=∀ H T f args r H' T',lookG m H T f args = some (r,H',T') -> ∀ args',D.eraseL args' = args -> ∀ (Q : Post),Q r H' T' -> Snd P f args' H T Q
theorem OkG.nil : OkG P []:=fun _ _ _ _ _ _ _ h=>by simp [lookG] at h
theorem OkG.cons {f : FuncId} {φ : Hp -> Tk -> List D -> Option (D × Hp × Tk)} {m : FsG} (h : OkAtG P f φ) (k : OkG P m) : OkG P ((f,φ) :: m):=by
 intro H T g args r H' T' hr
 simp only [lookG] at hr
 split at hr
 ·rename_i e;subst e;exact h H T args r H' T' hr
 ·exact k H T g args r H' T' hr
def inU : List FuncId -> FuncId -> Bool
 | [],_=>false
 | g :: l,f=>decide (f = g) || inU l f
@[go_sem] theorem inU_nil (f : FuncId) : inU [] f = false:=id rfl
@[go_sem] theorem inU_cons (g : FuncId) (l : List FuncId) (f : FuncId) : inU (g :: l) f = (decide (f = g) || inU l f):=id rfl
def XG (P : Program) [HasG P] (u : List FuncId) (l : Fs) (m : FsH) (e : FsE) (g : FsG) : Pred:=fun f a H T Q =>
 if inU u f = true then Snd P f a H T Q else match look l f (D.eraseL a) with
 | some r=>Q r H T
 | none=>match lookH m H f (D.eraseL a) with
  | some r=>Q r H T
  | none=>match lookE e H f (D.eraseL a) with
   | some (r,H')=>Q r H' T
   | none=>match lookG g H T f (D.eraseL a) with
    | some (r,H',T')=>Q r H' T'
    | none=>False
theorem XG.X {u : List FuncId} {l : Fs} {m : FsH} {e : FsE} {g : FsG} (k : Ok P l) (k' : OkH P m) (k'' : OkE P e) (k3 : OkG P g) : ∀ f args H T Q Q',(∀ r H T,Q r H T -> Q' r H T) -> XG P u l m e g f args H T Q -> Snd P f args H T Q':=by
 intro f args H T Q Q' hQ h
 unfold XG at h
 split at h
 ·exact Snd.mono _ _ _ _ _ _ hQ h
 ·split at h
  ·rename_i r hr
   exact k f _ r hr args rfl H T Q' (hQ _ _ _ h)
  ·split at h
   ·rename_i r hr
    exact k' H f _ r hr args rfl T Q' (hQ _ _ _ h)
   ·split at h
    ·rename_i r H' hr
     exact k'' H f _ r H' hr args rfl T Q' (hQ _ _ _ h)
    ·split at h
     ·rename_i r H' T' hr
      exact k3 H T f _ r H' T' hr args rfl Q' (hQ _ _ _ h)
     ·exact h.elim
theorem XG_mono (u : List FuncId) (l : Fs) (m : FsH) (e : FsE) (g : FsG) : Mono (XG P u l m e g):=by
 intro f args H T Q Q' hQ h
 unfold XG at h ⊢
 split at h
 ·rename_i c;rw [if_pos c];exact Snd.mono _ _ _ _ _ _ hQ h
 ·rename_i c
  rw [if_neg c]
  split at h
  ·exact hQ _ _ _ h
  ·split at h
   ·exact hQ _ _ _ h
   ·split at h
    ·exact hQ _ _ _ h
    ·split at h
     ·exact hQ _ _ _ h
     ·exact h.elim
def orG (Q : Post) : Option (D × Hp × Tk) -> Prop
 | some (r,H',T')=>Q r H' T'
 | none=>False
def orY (Q : Post) (H : Hp) (T : Tk) : Option D -> Option D -> Option (D × Hp) -> Option (D × Hp × Tk) -> Prop
 | some r,_,_,_=>Q r H T
 | none,some r,_,_=>Q r H T
 | none,none,some (r,H'),_=>Q r H' T
 | none,none,none,x=>orG Q x
@[go_sem] theorem XG_eq (u : List FuncId) (l : Fs) (m : FsH) (e : FsE) (g : FsG) (f : FuncId) (args : List D) (H : Hp) (T : Tk) (Q : Post) : XG P u l m e g f args H T Q = if inU u f = true then Snd P f args H T Q else orY Q H T (look l f (D.eraseL args)) (lookH m H f (D.eraseL args)) (lookE e H f (D.eraseL args)) (lookG g H T f (D.eraseL args)):=by
 unfold XG
 congr 1
 cases look l f (D.eraseL args) with
 | some r=>rfl
 | none =>
  cases lookH m H f (D.eraseL args) with
  | some r=>rfl
  | none =>
   cases lookE e H f (D.eraseL args) with
   | some x=>rfl
   | none =>
    cases lookG g H T f (D.eraseL args) with
    | some x=>rfl
    | none=>rfl
@[go_sem] theorem orY_s (Q : Post) (H : Hp) (T : Tk) (r : D) (x : Option D) (y : Option (D × Hp)) (z : Option (D × Hp × Tk)) : orY Q H T (some r) x y z = Q r H T:=id rfl
@[go_sem] theorem orY_n (Q : Post) (H : Hp) (T : Tk) (r : D) (y : Option (D × Hp)) (z : Option (D × Hp × Tk)) : orY Q H T none (some r) y z = Q r H T:=id rfl
@[go_sem] theorem orY_e (Q : Post) (H : Hp) (T : Tk) (r : D) (H' : Hp) (z : Option (D × Hp × Tk)) : orY Q H T none none (some (r,H')) z = Q r H' T:=id rfl
@[go_sem] theorem orY_g (Q : Post) (H : Hp) (T : Tk) (z : Option (D × Hp × Tk)) : orY Q H T none none none z = orG Q z:=id rfl
@[go_sem] theorem orG_s (Q : Post) (r : D) (H' : Hp) (T' : Tk) : orG Q (some (r,H',T')) = Q r H' T':=id rfl
theorem pcallG {u : List FuncId} {l : Fs} {m : FsH} {e : FsE} {g : FsG} (hm : MonoH m) (args : List D) (K : D -> S -> Prop) (s : S) (f : FuncId) (first cap : List D) :
  pcallK (XG P u l m e g) args K s (.fn f first cap) = if (inU u f || inE e f || inG g f) = true then pcallN (XG P u l m e g) args K s (.fn f first cap) else orK K s (look l f (D.eraseL (first ++ args ++ cap))) (lookH m s.H f (D.eraseL (first ++ args ++ cap))):=by
 cases hu : inU u f with
 | true=>rfl
 | false =>
  cases hg : inG g f with
  | true=>simp only [Bool.false_or,Bool.or_true,if_true];rfl
  | false =>
   have hx : ∀ a H T Q,XG P u l m e g f a H T Q = XE l m e f a H T Q:=by
    intro a H T Q;unfold XG XE;rw [hu,lookG_in hg];rfl
   cases he : inE e f with
   | true=>rfl
   | false =>
    rw [if_neg (by simp)]
    have:=pcallE (l:=l) (e:=e) hm args K s f first cap
    rw [he,if_neg (by simp)] at this
    rw [<- this]
    simp only [pcallK,eq_iff_iff]
    unfold Pure
    simp only [hx]
theorem pcallN_of {u : List FuncId} {l : Fs} {m : FsH} {e : FsE} {g : FsG} {args : List D} {K : D -> S -> Prop} {s : S} {f : FuncId} {first cap : List D} (hu : inU u f = true) {φ : List D -> Option D} (h : OkAt P f φ) {r : D} (hr : φ (D.eraseL (first ++ args ++ cap)) = some r) (k : K r s) :
  pcallN (XG P u l m e g) args K s (.fn f first cap):=by
 refine ⟨r,fun H' T' Q _ hQ=>?_,k⟩
 unfold XG;rw [if_pos hu]
 exact h _ r hr _ rfl H' T' Q hQ
theorem okG_of {X : Pred} (hX : ∀ f args H T Q Q',(∀ r H T,Q r H T -> Q' r H T) -> X f args H T Q -> Snd P f args H T Q') {f : FuncId} {n : Nat} {rs : List (Sum Nat (Nat × Bool × Nat))} {cc : C} (hf : Fn P f n rs cc) {φ : Hp -> Tk -> List D -> Option (D × Hp × Tk)}
  (h : ∀ H T args r H1 T1,φ H T args = some (r,H1,T1) -> args.length <= n /\ r.cl H1.length T1.length = true /\ Closed H H1 T1.length /\ W X cc (endQ rs (LeavesG H T r H1 T1)) ⟨argT args,H,T⟩) : OkAtG P f φ:=by
 intro H T args r H1 T1 hr args' he Q hQ
 obtain ⟨h1,h2,h4,h3⟩:=h H T args r H1 T1 hr
 have hS : Snd P f args H T (LeavesG H T r H1 T1):=call_of hf h1 (W_mono hX (fun _ _ h=>h) h3)
 intro c w vs kg k1 k2 k3
 have k3' : Reps c args vs:=by rw [<- he];exact k3.erase
 rcases hS c w vs kg k1 k2 k3' with ⟨g1,g2⟩ | ⟨v,w',g1,g2⟩
 ·exact .inl ⟨g1,g2.mono fun e w' k=>CallPost.forgetG k1 k2 h2 h4 hQ k⟩
 ·exact .inr ⟨v,w',g1,CallPost.forgetG k1 k2 h2 h4 hQ g2⟩
theorem leavesG_own {H B : Hp} {T T' : Tk} {xs : List D} {z τ : Nat} (hE : Ext H B) (hT : ExtT T T') (hx : D.clL 0 0 xs = true) (hge : T.length <= τ) (hτ : T'[τ]? = some (some (xs.length,z))) :
  LeavesG H T (.sl (some T.length) xs) H (T ++ [some (xs.length,z)]) (.sl (some τ) xs) B T':=by
 obtain ⟨L,rfl⟩:=hE
 obtain ⟨U,rfl⟩:=hT
 refine ⟨_,_,.refl _ _,id,fun i=>if i = T.length then τ else i,fun _ _=>rfl,fun i hi=>?_,?_,fun o x h=>⟨x,?_,.inl ⟨rfl,h⟩⟩,fun _ _ _ _ h=>h,fun i j hi hj he=>?_,fun i hi=>?_,Nat.le_refl _,by simp⟩
 ·show (if i = T.length then τ else i) = i
  rw [if_neg (by omega)]
 ·have : (D.sl (some T.length) xs).ren id (fun i=>if i = T.length then τ else i) = .sl (some τ) xs:=by
   simp only [D.ren,Option.map_some,if_true,renL_cl0 xs hx]
  rw [this];exact Crs.refl _
 ·rw [show id o = o from rfl,List.getElem?_append_left (lt_of_get h)];exact h
 ·simp only [List.length_append,List.length_cons,List.length_nil] at hi hj
  have he : (if i = T.length then τ else i) = (if j = T.length then τ else j):=he
  split at he <;> split at he <;> omega
 ·simp only [List.length_append,List.length_cons,List.length_nil] at hi
  show (T ++ U)[if i = T.length then τ else i]? = _
  split
  ·rename_i e;subst e;rw [hτ];simp
  ·rw [List.getElem?_append_left (by omega),List.getElem?_append_left (by omega)]
theorem Closed.refl' (H : Hp) (n : Nat) : Closed H H n:=⟨Nat.le_refl _,fun _ _ _ h _=>.inl h⟩
end GP
namespace GP
open Go Go.Proofs
set_option maxRecDepth 100000
def inB (l : List (List UInt8)) (s : List UInt8) : Bool:=l.any fun x=>x == s
theorem strL_erase (l : List (List UInt8)) : D.eraseL (l.map .str) = l.map .str:=eraseL_id fun x hx=>by
 obtain ⟨y,_,rfl⟩:=List.mem_map.1 hx;rfl
def φin : List D -> Option D
 | [.sl none l,.str s]=>if l.all isStrB = true /\ l.length <= 1000 then some (.bool (inB (l.map strB) s)) else none
 | _=>none
theorem strB_get {l : List D} (h : l.all isStrB = true) {i : Nat} (hi : i < l.length) : l[i]? = some (.str (strB l[i])):=by
 have:=List.all_eq_true.1 h _ (List.getElem_mem hi)
 rw [List.getElem?_eq_getElem hi]
 cases hx : l[i] <;> rw [hx] at this <;> simp [isStrB] at this <;> rfl
theorem inB_no {l : List (List UInt8)} {s : List UInt8} (h : ∀ (i : Nat) u,l[i]? = some u -> (u == s) = false) : inB l s = false:=by
 refine List.any_eq_false.2 fun x hx=>?_
 obtain ⟨i,hi,rfl⟩:=List.getElem_of_mem hx
 have:=h i _ (List.getElem?_eq_getElem hi)
 simp [this]
set_option maxHeartbeats 1000000 in
theorem ok62 : OkAt Tryz.prog 62 φin:=by
 refine ok_of (l:=[]) .nil fn62 fun args r h=>?_
 unfold φin at h
 split at h
 ·rename_i l s
  split at h
  ·rename_i hc
   obtain ⟨hs,hl⟩:=hc
   injection h with h;subst h
   refine ⟨by simp,by simp [D.cl],fun H T=>?_⟩
   simp +contextual (maxSteps:=10000000) only [c62,go_sem]
   refine W_for (fun j s'=>s'.t 0 = .sl none l /\ s'.t 1 = .str s /\ s'.t 5 = .int .i64 j /\ s'.H = H /\ s'.T = T /\ j <= l.length /\ ∀ i u,i < j -> (l.map strB)[i]? = some u -> (u == s) = false) l.length ⟨0,by simp [upd,argT]⟩ (fun i s h=>h.2.2.2.2.2.1) ?_ (XL_mono _)
   rintro j ⟨t,B,T'⟩ ⟨r0,r1,r5,rfl,rfl,hj,hN⟩
   simp only at r0 r1 r5
   by_cases ha : j < l.length
   ·have d1 : decide ((j : Int) < l.length) = true:=by simpa using ha
    have ex:=strB_get hs ha
    obtain ⟨u,hu⟩ : ∃ u,strB l[j] = u:=⟨_,rfl⟩
    rw [hu] at ex
    have em : (l.map strB)[j]? = some u:=by rw [List.getElem?_map,ex];rfl
    rcases tf (u == s) with g | g
    ·have : inB (l.map strB) s = true:=List.any_eq_true.2 ⟨u,List.mem_of_getElem? em,g⟩
     simp +contextual (maxSteps:=10000000) only [r0,r1,r5,d1,ex,g,this,go_sem]
    ·simp +contextual (maxSteps:=10000000) only [r0,r1,r5,d1,ex,g,wrap_succ j (by omega),go_sem]
     refine ⟨by omega,fun i v hi hv=>?_⟩
     rcases Nat.lt_or_ge i j with h' | h'
     ·exact hN i v h' hv
     ·have : i = j:=by omega
      subst this
      rw [em] at hv;injection hv with hv;subst hv;exact g
   ·have d1 : decide ((j : Int) < l.length) = false:=by simpa using ha
    have : inB (l.map strB) s = false:=inB_no fun i u hu=>hN i u (by have:=lt_of_get hu;simp at this;omega) hu
    simp +contextual (maxSteps:=10000000) only [r0,r1,r5,d1,this,go_sem]
  ·cases h
 ·cases h
theorem map_strB (l : List (List UInt8)) : (l.map D.str).map strB = l:=by
 rw [List.map_map];exact List.map_id'' (fun _=>rfl) l
theorem in_at {l : List (List UInt8)} (h : l.length <= 1000) (s : List UInt8) : φin [.sl none (l.map .str),.str s] = some (.bool (inB l s)):=by
 simp only [φin]
 rw [if_pos ⟨List.all_eq_true.2 fun x hx=>by obtain ⟨y,_,rfl⟩:=List.mem_map.1 hx;rfl,by simpa using h⟩,map_strB]
def φtk1 (k : Int) : List D -> Option D
 | [.str s]=>some (mkT k s 0)
 | _=>none
theorem ok59 : OkAt Tryz.prog 59 (φtk1 1):=by
 refine ok_of (l:=[]) .nil fn59 fun args r h=>?_
 unfold φtk1 at h
 split at h
 ·injection h with h;subst h
  refine ⟨by simp,by simp [mkT,D.cl,D.clL],fun H T=>?_⟩
  simp +contextual (maxSteps:=10000000) only [c59,mkT,go_sem]
 ·cases h
theorem ok60 : OkAt Tryz.prog 60 (φtk1 5):=by
 refine ok_of (l:=[]) .nil fn60 fun args r h=>?_
 unfold φtk1 at h
 split at h
 ·injection h with h;subst h
  refine ⟨by simp,by simp [mkT,D.cl,D.clL],fun H T=>?_⟩
  simp +contextual (maxSteps:=10000000) only [c60,mkT,go_sem]
 ·cases h
def φwho : List D -> Option D
 | [.str s]=>some (.bool (inB whoW s))
 | _=>none
theorem ok55 : OkAt Tryz.prog 55 φwho:=by
 refine ok_of (l:=[(62,φin)]) (.cons ok62 .nil) fn55 fun args r h=>?_
 unfold φwho at h
 split at h
 ·rename_i s
  injection h with h;subst h
  refine ⟨by simp,by simp [D.cl],fun H T=>?_⟩
  have p:=in_at (l:=whoW) (by decide) s
  simp only [whoW,List.map_cons,List.map_nil] at p ⊢
  simp +contextual (maxSteps:=10000000) only [c55,p,go_sem]
 ·cases h
def nameB (s : List UInt8) : Bool:=formI 1 s 0 && !inB keptW s
def φnm : List D -> Option D
 | [.str s]=>if s.length <= 2 ^ 60 then some (.bool (nameB s)) else none
 | _=>none
theorem ok56 : OkAt Tryz.prog 56 φnm:=by
 refine ok_of (l:=[(62,φin),(57,φform),(16,φkeptL)]) (.cons ok62 (.cons ok57 (.cons ok16 .nil))) fn56 fun args r h=>?_
 unfold φnm at h
 split at h
 ·rename_i s
  split at h
  ·rename_i hs
   injection h with h;subst h
   refine ⟨by simp,by simp [D.cl],fun H T=>?_⟩
   have p1:=in_at (l:=keptW) (by decide) s
   have p2 : φform [.agg [.int .i64 1,.str s,.int .i64 0]] = some (.bool (formI 1 s 0)):=by simp only [φform];rw [if_pos hs]
   have p3 : φkeptL [] = some (.sl none (keptW.map .str)):=rfl
   have e1:=strL_erase keptW
   unfold nameB
   obtain ⟨ks,hk⟩ : ∃ ks,keptW.map D.str = ks:=⟨_,rfl⟩
   rw [hk] at p1 p3 e1
   rcases tf (formI 1 s 0) with g | g
   ·rw [g] at p2
    simp +contextual (maxSteps:=10000000) only [c56,p1,p2,p3,e1,g,go_sem]
   ·rw [g] at p2
    simp +contextual (maxSteps:=10000000) only [c56,p1,p2,p3,e1,g,go_sem]
  ·cases h
 ·cases h
def pairsW : List (List (List UInt8)):=[[wOr],[wAnd],cmpW,[[43],[45]],[[42]]]
def plainW : List (List UInt8):=[[118,97,108,117,101],[110,111,119],[97,116,116,114],[104,97,115],[114,111,108,101],[115,105,122,101]]
def stI (op : List UInt8) : Int :=
 if inB [wOr] op then 0 else if inB [wAnd] op then 1 else if inB cmpW op then 3 else if inB [[43],[45]] op then 4 else if inB [[42]] op then 5 else if op == wNot then 2 else if op == wNeg then 6 else if inB plainW op then 7 else -1
def pairsD : List D:=pairsW.map fun w=>.sl none (w.map .str)
def φpairs : List D -> Option D
 | []=>some (.sl none pairsD)
 | _=>none
theorem ok106 : OkAt Tryz.prog 106 φpairs:=by
 refine ok_of (l:=[]) .nil fn106 fun args r h=>?_
 unfold φpairs at h
 split at h
 ·injection h with h;subst h
  refine ⟨by simp,by decide,fun H T=>?_⟩
  simp +contextual (maxSteps:=10000000) only [c106,go_sem]
  first | rfl | simp only [pairsD,pairsW,wOr,wAnd,cmpW,List.map_cons,List.map_nil,D.erase,D.eraseL]
 ·cases h
def φst : List D -> Option D
 | [.str op]=>some (.int .i64 (stI op))
 | _=>none
def stN (j : Nat) : Int:=[(0 : Int),1,3,4,5].getD j 0
theorem pairsD_erase : D.eraseL pairsD = pairsD:=by
 simp only [pairsD,pairsW,List.map_cons,List.map_nil,D.eraseL,D.erase,strL_erase]
theorem stI_at {op : List UInt8} {j : Nat} {w : List (List UInt8)} (h : pairsW[j]? = some w) (hN : ∀ i v,i < j -> pairsW[i]? = some v -> inB v op = false) (g : inB w op = true) : stI op = stN j:=by
 match j,h with
 | 0,h=>injection h with h;subst h;simp only [stI,g,if_true];rfl
 | 1,h =>
  injection h with h;subst h
  have n0:=hN 0 _ (by omega) rfl
  simp only [stI,g,n0,if_true,Bool.false_eq_true,if_false];rfl
 | 2,h =>
  injection h with h;subst h
  have n0:=hN 0 _ (by omega) rfl
  have n1:=hN 1 _ (by omega) rfl
  simp only [stI,g,n0,n1,if_true,Bool.false_eq_true,if_false];rfl
 | 3,h =>
  injection h with h;subst h
  have n0:=hN 0 _ (by omega) rfl
  have n1:=hN 1 _ (by omega) rfl
  have n2:=hN 2 _ (by omega) rfl
  simp only [stI,g,n0,n1,n2,if_true,Bool.false_eq_true,if_false];rfl
 | 4,h =>
  injection h with h;subst h
  have n0:=hN 0 _ (by omega) rfl
  have n1:=hN 1 _ (by omega) rfl
  have n2:=hN 2 _ (by omega) rfl
  have n3:=hN 3 _ (by omega) rfl
  simp only [stI,g,n0,n1,n2,n3,if_true,Bool.false_eq_true,if_false];rfl
 | j + 5,h=>exact absurd h (by simp [pairsW])
set_option maxHeartbeats 2000000 in
theorem ok52 : OkAt Tryz.prog 52 φst:=by
 refine ok_of (l:=[(106,φpairs),(62,φin)]) (.cons ok106 (.cons ok62 .nil)) fn52 fun args r h=>?_
 unfold φst at h
 split at h
 ·rename_i op
  injection h with h;subst h
  refine ⟨by simp,by simp [D.cl],fun H T=>?_⟩
  obtain ⟨sv,hsv⟩ : ∃ z,stI op = z:=⟨_,rfl⟩
  rw [hsv]
  have p1 : φpairs [] = some (.sl none pairsD):=rfl
  have pe:=pairsD_erase
  have plen : pairsD.length = 5:=rfl
  have pin : ∀ (j : Nat) w,pairsW[j]? = some w -> φin [.sl none (w.map .str),.str op] = some (.bool (inB w op)):=fun j w h=>in_at (by
   have : ∀ w ∈ pairsW,w.length <= 1000:=by decide
   exact this w (List.mem_of_getElem? h)) op
  have pget : ∀ (j : Nat) w,pairsW[j]? = some w -> pairsD[j]? = some (.sl none (w.map .str)):=fun j w h=>by simp only [pairsD,List.getElem?_map,h,Option.map_some]
  obtain ⟨PD,hPD⟩ : ∃ z,pairsD = z:=⟨_,rfl⟩
  rw [hPD] at p1 pe plen
  simp only [hPD] at pget
  clear hPD
  simp +contextual (maxSteps:=10000000) only [c52,p1,pe,plen,go_sem]
  refine W_for (fun j s'=>s'.t 0 = .str op /\ s'.t 3 = .sl none PD /\ s'.t 4 = .int .i64 j /\ s'.H = H /\ s'.T = T /\ j <= 5 /\ ∀ i v,i < j -> pairsW[i]? = some v -> inB v op = false) 5 ⟨0,by simp [upd,argT]⟩ (fun i s h=>h.2.2.2.2.2.1) ?_ (XL_mono _)
  rintro j ⟨t,B,T'⟩ ⟨r0,r3,r4,rfl,rfl,hj,hN⟩
  simp only at r0 r3 r4
  by_cases ha : j < 5
  ·have d1 : decide ((j : Int) < 5) = true:=by simp only [decide_eq_true_eq];omega
   obtain ⟨w,hw⟩ : ∃ w,pairsW[j]? = some w:=⟨pairsW[j]'(by simpa [pairsW] using ha),List.getElem?_eq_getElem _⟩
   have ex:=pget j w hw
   have px:=pin j w hw
   have ew:=strL_erase w
   have at':=fun g=>stI_at hw hN g
   have hix : ixa false 1 5 (.agg [.int .i64 0,.int .i64 1,.int .i64 3,.int .i64 4,.int .i64 5]) (.int .i64 (j : Nat)) = some (.int .i64 (stN j)):=by
    match j,ha with
    | 0,_=>rfl
    | 1,_=>rfl
    | 2,_=>rfl
    | 3,_=>rfl
    | 4,_=>rfl
   obtain ⟨WD,hWD⟩ : ∃ z,w.map D.str = z:=⟨_,rfl⟩
   rw [hWD] at ex px ew
   rcases tf (inB w op) with g | g
   ·rw [g] at px
    have e1:=hsv.symm.trans (at' g)
    simp +contextual (maxSteps:=10000000) only [r0,r3,r4,d1,plen,ex,px,ew,hix,e1,go_sem]
   ·rw [g] at px
    simp +contextual (maxSteps:=10000000) only [r0,r3,r4,d1,plen,ex,px,ew,wrap_succ j (by omega),go_sem]
    refine ⟨by omega,fun i v hi hv=>?_⟩
    rcases Nat.lt_or_ge i j with h' | h'
    ·exact hN i v h' hv
    ·have : i = j:=by omega
     subst this
     rw [hw] at hv;injection hv with hv;subst hv;exact g
  ·have d1 : decide ((j : Int) < 5) = false:=by simp only [decide_eq_false_iff_not];omega
   have n0:=hN 0 _ (by omega) rfl
   have n1:=hN 1 _ (by omega) rfl
   have n2:=hN 2 _ (by omega) rfl
   have n3:=hN 3 _ (by omega) rfl
   have n4:=hN 4 _ (by omega) rfl
   have px:=in_at (l:=plainW) (by decide) op
   have e1 : stI op = if op == wNot then 2 else if op == wNeg then 6 else if inB plainW op then 7 else -1:=by
    simp only [stI,n0,n1,n2,n3,n4,Bool.false_eq_true,if_false]
   replace e1:=hsv.symm.trans e1
   simp only [plainW,wNot,wNeg,List.map_cons,List.map_nil] at px e1
   obtain ⟨pb,hpb⟩ : ∃ z,inB [[118,97,108,117,101],[110,111,119],[97,116,116,114],[104,97,115],[114,111,108,101],[115,105,122,101]] op = z:=⟨_,rfl⟩
   simp only [hpb] at px e1
   subst e1
   simp +contextual (maxSteps:=10000000) only [r0,r3,r4,d1,plen,px,go_sem]
   (all_goals ((repeat' (first | apply And.intro | intro _)) <;> (first | rfl | omega | (simp_all;done) | grind)))
 ·cases h
end GP
namespace GP
open Go
variable {X : Pred} {Q : Ex -> S -> Prop}
def C.hd : Nat -> C -> C
 | 0,_=>.skip
 | n + 1,.seq a b=>.seq a (b.hd n)
 | _ + 1,c=>c
def C.tl : Nat -> C -> C
 | 0,c=>c
 | n + 1,.seq _ b=>b.tl n
 | _ + 1,_=>.skip
theorem seqK_skip : seqK (W X .skip Q) Q = Q:=by
 funext e s
 cases e <;> simp [seqK,W]
theorem W_part : ∀ (n : Nat) (c : C) (Q : Ex -> S -> Prop) (s : S),W X c Q s = W X (c.hd n) (seqK (W X (c.tl n) Q) Q) s
 | 0,c,Q,s=>by simp only [C.hd,C.tl,W,seqK]
 | n + 1,.seq a b,Q,s=>by
  simp only [C.hd,C.tl,W]
  congr 1
  funext e s'
  cases e with
  | normal=>simp only [seqK];exact W_part n b Q s'
  | exit i=>rfl
  | ret=>rfl
 | n + 1,.skip,Q,s=>by simp only [C.hd,C.tl,seqK_skip]
 | n + 1,.reg is,Q,s=>by simp only [C.hd,C.tl,seqK_skip]
 | n + 1,.draw na is,Q,s=>by simp only [C.hd,C.tl,seqK_skip]
 | n + 1,.cond c a b,Q,s=>by simp only [C.hd,C.tl,seqK_skip]
 | n + 1,.block i c,Q,s=>by simp only [C.hd,C.tl,seqK_skip]
 | n + 1,.loop c,Q,s=>by simp only [C.hd,C.tl,seqK_skip]
 | n + 1,.exit i,Q,s=>by simp only [C.hd,C.tl,seqK_skip]
 | n + 1,.ret,Q,s=>by simp only [C.hd,C.tl,seqK_skip]
 | n + 1,.stop,Q,s=>by simp only [C.hd,C.tl,seqK_skip]
@[go_sem] theorem hd_0 (c : C) : C.hd 0 c = .skip:=id rfl
@[go_sem] theorem hd_s (n : Nat) (a b : C) : C.hd (n + 1) (.seq a b) = .seq a (b.hd n):=id rfl
@[go_sem] theorem tl_0 (c : C) : C.tl 0 c = c:=id rfl
@[go_sem] theorem tl_s (n : Nat) (a b : C) : C.tl (n + 1) (.seq a b) = b.tl n:=id rfl
end GP
namespace GP
open Go Go.Proofs
set_option maxRecDepth 100000
def litB (v : D) (b : Bool) : Bool:=if vk v == 2 then decide (0 <= vi v) || (b && decide (-9223372036854775808 < vi v)) else (vk v == 1) || (vk v == 4) || ((vk v == 3) && formI 3 (vs v) 0)
def φlitR : List D -> Option D
 | [v,.bool b]=>if v.isV = true then some (.bool (litB v b)) else none
 | _=>none
set_option maxHeartbeats 1000000 in
theorem ok108 : OkAt Tryz.prog 108 φlitR:=by
 refine ok_of (l:=[(57,φform)]) (.cons ok57 .nil) fn108 fun args r h=>?_
 unfold φlitR at h
 split at h
 ·rename_i v b
  split at h
  ·rename_i hv
   injection h with h;subst h
   refine ⟨by simp,by simp [D.cl],fun H T=>?_⟩
   obtain ⟨k,i,s,nl,l,rfl,z,y,hV⟩:=isV_elim hv
   have eL:=erase_of_isV hV
   have p2 : φform [.agg [.int .i64 3,.str s,.int .i64 0]] = some (.bool (formI 3 s 0)):=by simp only [φform];rw [if_pos (by omega)]
   simp only [litB,vk_mk,vi_mk,vs_mk]
   obtain ⟨fb,hfb⟩ : ∃ z,formI 3 s 0 = z:=⟨_,rfl⟩
   rw [hfb] at p2 ⊢
   rcases tf (k == 2) with g2 | g2
   ·rw [if_pos g2]
    rcases tf (decide (0 <= i)) with g3 | g3
    ·simp +contextual (maxSteps:=10000000) only [c108,mkV,eL,g2,g3,go_sem]
    ·cases b
     ·simp +contextual (maxSteps:=10000000) only [c108,mkV,eL,g2,g3,go_sem]
     ·simp +contextual (maxSteps:=10000000) only [c108,mkV,eL,g2,g3,go_sem]
   ·rw [if_neg (by rw [g2];decide)]
    rcases tf (k == 1) with g1 | g1
    ·simp +contextual (maxSteps:=10000000) only [c108,mkV,eL,g2,g1,go_sem]
    ·rcases tf (k == 4) with g4 | g4
     ·simp +contextual (maxSteps:=10000000) only [c108,mkV,eL,g2,g1,g4,go_sem]
     ·rcases tf (k == 3) with g3 | g3
      ·simp +contextual (maxSteps:=10000000) only [c108,mkV,eL,g2,g1,g4,g3,p2,go_sem]
      ·simp +contextual (maxSteps:=10000000) only [c108,mkV,eL,g2,g1,g4,g3,go_sem]
  ·cases h
 ·cases h
def valB (v : D) : Bool:=if !formedB v then false else if vk v != 5 then litB v false else (vl v).all (fun x=>litB x true) && decide (0 < (vl v).length)
def φvalR : List D -> Option D
 | [v]=>if v.isV = true then some (.bool (valB v)) else none
 | _=>none
set_option maxHeartbeats 1000000 in
theorem ok53 : OkAt Tryz.prog 53 φvalR:=by
 refine ok_of (l:=[(107,φformed),(108,φlitR)]) (.cons ok107 (.cons ok108 .nil)) fn53 fun args r h=>?_
 unfold φvalR at h
 split at h
 ·rename_i v
  split at h
  ·rename_i hv
   injection h with h;subst h
   refine ⟨by simp,by simp [D.cl],fun H T=>?_⟩
   have p1 : φformed [v] = some (.bool (formedB v)):=by simp only [φformed];rw [if_pos hv]
   have p2 : φlitR [v,.bool false] = some (.bool (litB v false)):=by simp only [φlitR];rw [if_pos hv]
   unfold valB
   obtain ⟨fb,hfb⟩ : ∃ z,formedB v = z:=⟨_,rfl⟩
   obtain ⟨lb,hlb⟩ : ∃ z,litB v false = z:=⟨_,rfl⟩
   rw [hfb] at p1 ⊢
   rw [hlb] at p2 ⊢
   obtain ⟨k,i,s,nl,l,rfl,z,y,hV⟩:=isV_elim hv
   have eL:=erase_of_isV hV
   simp only [vk_mk,vl_mk]
   simp only [mkV] at p1 p2
   cases fb with
   | false=>simp +contextual (maxSteps:=10000000) only [c53,mkV,eL,p1,go_sem]
   | true =>
   rcases tf (k != 5) with g5 | g5
   ·simp +contextual (maxSteps:=10000000) only [c53,mkV,eL,p1,p2,g5,go_sem]
   ·simp +contextual (maxSteps:=10000000) only [c53,mkV,eL,p1,g5,go_sem]
    refine W_for (fun j s'=>s'.t 1 = .ptr H.length 0 /\ s'.t 3 = .int .i64 j /\ s'.H = H ++ [.row [.int .i64 k,.int .i64 i,.str s,sliceD nl l]] /\ s'.T = T /\ j <= l.length /\ (l.take j).all (fun x=>litB x true) = true) l.length ⟨0,by simp [upd,argT]⟩ (fun i s h=>h.2.2.2.2.1) ?_ (XL_mono _)
    rintro j ⟨t',B,T'⟩ ⟨r1,r3,rfl,rfl,hj,hc⟩
    simp only at r1 r3
    by_cases ha : j < l.length
    ·have d1 : decide ((j : Int) < l.length) = true:=by simpa using ha
     have ex : l[j]? = some l[j]:=by simp [ha]
     have nx:=fun hp=>all_nx' (p:=fun x=>litB x true) ex hc hp
     have no:=fun hp=>all_no' (p:=fun x=>litB x true) ex hp
     have hxV:=hV _ (List.getElem_mem ha)
     obtain ⟨x,hx⟩ : ∃ x,l[j] = x:=⟨_,rfl⟩
     rw [hx] at ex nx no hxV
     have px : φlitR [x,.bool true] = some (.bool (litB x true)):=by simp only [φlitR];rw [if_pos hxV]
     obtain ⟨xb,hxb⟩ : ∃ z,litB x true = z:=⟨_,rfl⟩
     simp only [hxb] at px nx no
     clear hxb hx
     obtain ⟨k',i',s',nl',l',rfl,_,_,hV'⟩:=isV_elim hxV
     have eL':=erase_of_isV hV'
     simp only [mkV] at ex px
     cases xb with
     | true =>
      have nx:=nx rfl
      simp +contextual (maxSteps:=10000000) only [r1,r3,d1,ex,px,eL',wrap_succ j (by omega),go_sem]
      exact ⟨by omega,nx⟩
     | false =>
      have no:=no rfl
      simp +contextual (maxSteps:=10000000) only [r1,r3,d1,ex,px,eL',no,go_sem]
    ·have d1 : decide ((j : Int) < l.length) = false:=by simpa using ha
     have : j = l.length:=by omega
     subst this
     rw [List.take_length] at hc
     have dd : decide ((0 : Int) < l.length) = decide (0 < l.length):=by rw [decide_eq_decide];omega
     simp +contextual (maxSteps:=10000000) only [r1,r3,d1,hc,dd,go_sem]
  ·cases h
 ·cases h
def arN (op : List UInt8) : Int:=if (stI op == 0) || (stI op == 1) || (decide (3 <= stI op) && decide (stI op <= 5)) then 2 else if (stI op == 2) || (stI op == 6) || (op == sSize) then 1 else 0
def fmTop (e : D) : Bool :=
 if eop e == sVal then valB (eV e) && (ewho e == []) && (ename e == []) else
 if !sameB (eV e) zeroV then false else
 if (eop e == sAttr) || (eop e == sHas) then inB whoW (ewho e) && nameB (ename e) else
 if eop e == sRole then (ewho e == []) && formI 3 (ename e) 0 else (ewho e == []) && (ename e == [])
def fmR : Nat -> D -> Bool
 | 0,_=>false
 | n + 1,e=>if decide (stI (eop e) < 0) || (((eps e).length : Int) != arN (eop e)) then false else if !(eps e).all (fmR n) then false else fmTop e
open Classical in
noncomputable def φfmR (n : Nat) : List D -> Option D
 | [e]=>if isE n e then some (.bool (fmR n e)) else none
 | _=>none
theorem stI_cases (op : List UInt8) : stI op = 0 ∨ stI op = 1 ∨ stI op = 3 ∨ stI op = 4 ∨ stI op = 5 ∨ stI op = 2 ∨ stI op = 6 ∨ stI op = 7 ∨ stI op = -1:=by
 unfold stI;(repeat' split) <;> simp
theorem arN_of {op : List UInt8} : (stI op = 0 -> arN op = 2) /\ (stI op = 1 -> arN op = 2) /\ (stI op = 3 -> arN op = 2) /\ (stI op = 4 -> arN op = 2) /\ (stI op = 5 -> arN op = 2) /\ (stI op = 2 -> arN op = 1) /\ (stI op = 6 -> arN op = 1) /\ (stI op = 7 -> arN op = if op == sSize then 1 else 0):=by
 refine ⟨?_,?_,?_,?_,?_,?_,?_,?_⟩ <;> intro h <;> simp only [arN,h] <;> first | rfl | (cases op == sSize <;> rfl)
theorem same_at {a b : D} (ha : a.isV = true) (hb : b.isV = true) : φSame [a,b] = some (.bool (sameB a b)):=by simp only [φSame];rw [if_pos ⟨ha,hb⟩]
theorem zeroV_isV : zeroV.isV = true:=by decide
set_option maxHeartbeats 16000000 in
theorem ok21 : ∀ n,OkAt Tryz.prog 21 (φfmR n)
 | 0=>fun args r h=>by
  unfold φfmR at h
  split at h
  ·split at h
   ·rename_i h';exact h'.elim
   ·cases h
  ·cases h
 | n + 1=>by
  refine ok_of (l:=[(52,φst),(21,φfmR n),(53,φvalR),(54,φSame),(55,φwho),(56,φnm),(57,φform)]) (.cons ok52 (.cons (ok21 n) (.cons ok53 (.cons ok54 (.cons ok55 (.cons ok56 (.cons ok57 .nil))))))) fn21 fun args r h=>?_
  unfold φfmR at h
  split at h
  ·rename_i e
   split at h
   ·rename_i he
    injection h with h;subst h
    refine ⟨by simp,by simp [D.cl],fun H T=>?_⟩
    obtain ⟨op,k,i,t,nl,l,who,name,m,ps,rfl,h1,h2,h3,h4,h5,h6,eL,eP⟩:=isE_elim he
    have h6 : ∀ x ∈ ps,isE n x:=h6
    simp only [fmR,fmTop,eps_mk,eop_mk,ewho_mk,ename_mk,eV_mk]
    have pS : φst [.str op] = some (.int .i64 (stI op)):=rfl
    have pv : φvalR [mkV k i t nl l] = some (.bool (valB (mkV k i t nl l))):=by simp only [φvalR];rw [if_pos h4.1]
    have pz : φSame [mkV k i t nl l,zeroV] = some (.bool (sameB (mkV k i t nl l) zeroV)):=same_at h4.1 zeroV_isV
    have pw : φwho [.str who] = some (.bool (inB whoW who)):=rfl
    have pn : φnm [.str name] = some (.bool (nameB name)):=by simp only [φnm];rw [if_pos (by omega)]
    have pf : φform [.agg [.int .i64 3,.str name,.int .i64 0]] = some (.bool (formI 3 name 0)):=by simp only [φform];rw [if_pos (by omega)]
    obtain ⟨vb,hvb⟩ : ∃ z,valB (mkV k i t nl l) = z:=⟨_,rfl⟩
    obtain ⟨zb,hzb⟩ : ∃ z,sameB (mkV k i t nl l) zeroV = z:=⟨_,rfl⟩
    obtain ⟨wb,hwb⟩ : ∃ z,inB whoW who = z:=⟨_,rfl⟩
    obtain ⟨nb,hnb⟩ : ∃ z,nameB name = z:=⟨_,rfl⟩
    obtain ⟨fb,hfb⟩ : ∃ z,formI 3 name 0 = z:=⟨_,rfl⟩
    simp only [hvb,hzb,hwb,hnb,hfb] at pv pz pw pn pf ⊢
    clear hvb hzb hwb hnb hfb
    simp only [mkV,zeroV] at pv pz
    obtain ⟨ar,har⟩ : ∃ z,arN op = z:=⟨_,rfl⟩
    have hA:=arN_of (op:=op)
    rw [har] at hA ⊢
    obtain ⟨sv,hsv⟩ : ∃ z,stI op = z:=⟨_,rfl⟩
    have noS : sv ≠ 7 -> (op == sSize) = false:=fun h=>by
     cases hx : op == sSize with
     | false=>rfl
     | true => have : op = sSize := by simpa using hx
               subst this;exact absurd (hsv.symm.trans (by decide)) h
    have cs:=stI_cases op
    simp only [hsv] at pS hA cs ⊢
    rw [W_part 5]
    obtain ⟨tl,htl⟩ : ∃ z,C.tl 5 c21 = z:=⟨_,rfl⟩
    rw [htl]
    obtain ⟨Q,hQ⟩ : ∃ Q,endQ [.inl 2] (Leaves (.bool (if (decide (sv < 0) || ((ps.length : Int) != ar)) = true then false else if (!ps.all (fmR n)) = true then false else if (op == sVal) = true then vb && (who == []) && (name == []) else if (!zb) = true then false else if ((op == sAttr) || (op == sHas)) = true then wb && nb else if (op == sRole) = true then (who == []) && fb else (who == []) && (name == []))) H T) = Q:=⟨_,rfl⟩
    rw [hQ]
    have rest : ∀ t',t' 1 = .ptr H.length 0 -> t' 3 = .int .i64 sv -> t' 4 = .int .i64 ar →
      W (XL [(52,φst),(21,φfmR n),(53,φvalR),(54,φSame),(55,φwho),(56,φnm),(57,φform)]) tl Q ⟨t',H ++ [.row [.str op,.int .i64 k,.int .i64 i,.str t,sliceD nl l,.str who,.str name,sliceD m ps]],T⟩:=by
     rw [<- hQ]
     intro t' r1 r3 r4
     subst htl
     rcases tf (decide (sv < 0)) with gn | gn
     ·rw [gn]
      simp +contextual (maxSteps:=10000000) only [c21,r1,r3,r4,gn,go_sem]
     rcases tf ((ps.length : Int) != ar) with gl | gl
     ·rw [gn,gl]
      simp +contextual (maxSteps:=10000000) only [c21,r1,r3,r4,gn,gl,go_sem]
     rw [gn,gl]
     simp +contextual (maxSteps:=10000000) only [c21,r1,r3,r4,gn,gl,go_sem]
     refine W_for (fun j s'=>s'.t 1 = .ptr H.length 0 /\ s'.t 5 = .int .i64 j /\ s'.H = H ++ [.row [.str op,.int .i64 k,.int .i64 i,.str t,sliceD nl l,.str who,.str name,sliceD m ps]] /\ s'.T = T /\ j <= ps.length /\ (ps.take j).all (fmR n) = true) ps.length ⟨0,by simp [upd,r1]⟩ (fun i s h=>h.2.2.2.2.1) ?_ (XL_mono _)
     clear r1 r3 r4 gn gl
     rintro j ⟨t',B,T'⟩ ⟨r1,r5,rfl,rfl,hj,hc⟩
     simp only at r1 r5
     by_cases ha : j < ps.length
     ·have d1 : decide ((j : Int) < ps.length) = true:=by simpa using ha
      have hx:=h6 _ (List.getElem_mem ha)
      have ex : ps[j]? = some ps[j]:=by simp [ha]
      have nx:=fun hp=>all_nx' (p:=fmR n) ex hc hp
      have no:=fun hp=>all_no' (p:=fmR n) ex hp
      generalize ps[j] = x at *
      have ee:=isE_erase hx
      obtain ⟨q1,q2,q3,q4⟩:=isE_cells hx
      have px : φfmR n [x] = some (.bool (fmR n x)):=by simp only [φfmR];rw [if_pos hx]
      obtain ⟨b,hq⟩ : ∃ z,fmR n x = z:=⟨_,rfl⟩
      simp only [hq] at px nx no
      clear hq
      cases b with
      | true =>
       have nx:=nx rfl
       simp +contextual (maxSteps:=10000000) only [r1,r5,d1,ex,ee,q1,q2,q3,q4,px,wrap_succ j (by omega),go_sem]
       exact ⟨by omega,nx⟩
      | false =>
       have no:=no rfl
       simp +contextual (maxSteps:=10000000) only [r1,r5,d1,ex,ee,q1,q2,q3,q4,px,no,go_sem]
     ·have d1 : decide ((j : Int) < ps.length) = false:=by simpa using ha
      have : j = ps.length:=by omega
      subst this
      rw [List.take_length] at hc
      simp only [sVal,sAttr,sHas,sRole]
      rcases tf (op == [118,97,108,117,101]) with g1 | g1
      ·cases vb
       ·simp +contextual (maxSteps:=10000000) only [r1,r5,d1,hc,g1,pv,eL,go_sem]
       ·simp +contextual (maxSteps:=10000000) only [r1,r5,d1,hc,g1,pv,eL,go_sem]
        (all_goals ((repeat' (first | apply And.intro | intro _)) <;> (first | rfl | omega | (simp_all;done) | grind)))
      cases zb
      ·simp +contextual (maxSteps:=10000000) only [r1,r5,d1,hc,g1,pz,eL,go_sem]
      rcases tf (op == [97,116,116,114]) with g2 | g2
      ·cases wb
       ·simp +contextual (maxSteps:=10000000) only [r1,r5,d1,hc,g1,g2,pz,eL,pw,pn,go_sem]
       ·simp +contextual (maxSteps:=10000000) only [r1,r5,d1,hc,g1,g2,pz,eL,pw,pn,go_sem]
      rcases tf (op == [104,97,115]) with g3 | g3
      ·cases wb
       ·simp +contextual (maxSteps:=10000000) only [r1,r5,d1,hc,g1,g2,g3,pz,eL,pw,pn,go_sem]
       ·simp +contextual (maxSteps:=10000000) only [r1,r5,d1,hc,g1,g2,g3,pz,eL,pw,pn,go_sem]
      rcases tf (op == [114,111,108,101]) with g4 | g4
      ·simp +contextual (maxSteps:=10000000) only [r1,r5,d1,hc,g1,g2,g3,g4,pz,eL,pf,go_sem]
       (all_goals ((repeat' (first | apply And.intro | intro _)) <;> (first | rfl | omega | (simp_all;done) | grind)))
      ·simp +contextual (maxSteps:=10000000) only [r1,r5,d1,hc,g1,g2,g3,g4,pz,eL,go_sem]
       (all_goals ((repeat' (first | apply And.intro | intro _)) <;> (first | rfl | omega | (simp_all;done) | grind)))
    have cc : ∀ s : List UInt8,(op == sSize) = (op == [115,105,122,101]):=fun _=>rfl
    rw [cc []] at noS hA
    rcases cs with g | g | g | g | g | g | g | g | g
    all_goals subst g
    ·have e1:=hA.1 rfl
     subst e1
     have e2:=noS (by decide)
     simp +contextual (maxSteps:=10000000) only [c21,mkE,eL,eP,pS,e2,go_sem]
     refine rest _ ?_ ?_ ?_ <;> rfl
    ·have e1:=hA.2.1 rfl
     subst e1
     have e2:=noS (by decide)
     simp +contextual (maxSteps:=10000000) only [c21,mkE,eL,eP,pS,e2,go_sem]
     refine rest _ ?_ ?_ ?_ <;> rfl
    ·have e1:=hA.2.2.1 rfl
     subst e1
     have e2:=noS (by decide)
     simp +contextual (maxSteps:=10000000) only [c21,mkE,eL,eP,pS,e2,go_sem]
     refine rest _ ?_ ?_ ?_ <;> rfl
    ·have e1:=hA.2.2.2.1 rfl
     subst e1
     have e2:=noS (by decide)
     simp +contextual (maxSteps:=10000000) only [c21,mkE,eL,eP,pS,e2,go_sem]
     refine rest _ ?_ ?_ ?_ <;> rfl
    ·have e1:=hA.2.2.2.2.1 rfl
     subst e1
     have e2:=noS (by decide)
     simp +contextual (maxSteps:=10000000) only [c21,mkE,eL,eP,pS,e2,go_sem]
     refine rest _ ?_ ?_ ?_ <;> rfl
    ·have e1:=hA.2.2.2.2.2.1 rfl
     subst e1
     simp +contextual (maxSteps:=10000000) only [c21,mkE,eL,eP,pS,go_sem]
     refine rest _ ?_ ?_ ?_ <;> rfl
    ·have e1:=hA.2.2.2.2.2.2.1 rfl
     subst e1
     simp +contextual (maxSteps:=10000000) only [c21,mkE,eL,eP,pS,go_sem]
     refine rest _ ?_ ?_ ?_ <;> rfl
    ·have e1:=hA.2.2.2.2.2.2.2 rfl
     rcases tf (op == [115,105,122,101]) with e2 | e2
     ·rw [e2,if_pos rfl] at e1
      subst e1
      simp +contextual (maxSteps:=10000000) only [c21,mkE,eL,eP,pS,e2,go_sem]
      refine rest _ ?_ ?_ ?_ <;> rfl
     ·rw [e2,if_neg (by decide)] at e1
      subst e1
      simp +contextual (maxSteps:=10000000) only [c21,mkE,eL,eP,pS,e2,go_sem]
      refine rest _ ?_ ?_ ?_ <;> rfl
    ·have e2:=noS (by decide)
     have pp : ∀ t',t' 1 = .ptr H.length 0 -> t' 3 = .int .i64 (-1) -> W (XL [(52,φst),(21,φfmR n),(53,φvalR),(54,φSame),(55,φwho),(56,φnm),(57,φform)]) tl Q ⟨t',H ++ [.row [.str op,.int .i64 k,.int .i64 i,.str t,sliceD nl l,.str who,.str name,sliceD m ps]],T⟩:=by
      intro t' r1 r3
      rw [<- hQ]
      subst htl
      simp +contextual (maxSteps:=10000000) only [c21,r1,r3,go_sem]
     simp +contextual (maxSteps:=10000000) only [c21,mkE,eL,eP,pS,e2,go_sem]
     refine pp _ ?_ ?_ <;> rfl
   ·cases h
  ·cases h
end GP
namespace GP
open Go Go.Proofs
open Rd O
set_option maxRecDepth 100000
def c24 : C :=
 (.seq (.reg [I1 2 (.box (t 0)),I1 4 (.mv KN)])
 (.seq (.reg [If 10 0 2,Il 11 10,Ip 12 52 [(t 11)],Im 5 12])
 (.seq (.seq (.reg [If 13 0 2,Il 14 13])
 (.block 0
 (.seq (.reg [I1 16 (.bin .eql (t 14) (Ks ([118,97,108,117,101]))),Im 15 16])
 (.cond (t 15)
 (.seq (.reg [If 17 1 2,Ia 18 4 17,Ic 19 58 [(t 18)],Im 4 19])
 .ret)
 (.seq (.reg [I1 21 (.bin .eql (t 14) (Ks ([110,111,119]))),Im 20 21])
 (.cond (t 20)
 (.seq (.reg [Ip 22 59 [(Ks ([110,111,119]))],I1 23 (.bsl 3 [(t 22)]),Im 4 23])
 .ret)
 (.seq (.reg [I1 25 (.bin .eql (t 14) (Ks ([97,116,116,114]))),Im 24 25])
 (.cond (t 24)
 (.seq (.draw 0 [(If 26 5 2,[]),(Il 27 26,[]),(Ip 28 59 [(t 27)],[]),(Ip 29 60 [(Ks ([46]))],[]),(If 30 6 2,[]),(Il 31 30,[]),(Ip 32 59 [(t 31)],[]),(I1 33 (.bsl 3 [(t 28),(t 29),(t 32)]),[]),(Im 4 33,[])])
 .ret)
 (.seq (.reg [I1 35 (.bin .eql (t 14) (Ks ([104,97,115]))),Im 34 35])
 (.cond (t 34)
 (.seq (.draw 0 [(Ip 36 59 [(Ks ([104,97,115]))],[]),(Ip 37 60 [(Ks ([40]))],[]),(If 38 5 2,[]),(Il 39 38,[]),(Ip 40 59 [(t 39)],[]),(Ip 41 60 [(Ks ([46]))],[]),(If 42 6 2,[]),(Il 43 42,[]),(Ip 44 59 [(t 43)],[]),(Ip 45 60 [(Ks ([41]))],[]),(I1 46 (.bsl 3 [(t 36),(t 37),(t 40),(t 41),(t 44),(t 45)]),[]),(Im 4 46,[])])
 .ret)
 (.seq (.reg [I1 48 (.bin .eql (t 14) (Ks ([114,111,108,101]))),Im 47 48])
 (.cond (t 47)
 (.seq (.draw 0 [(Ip 49 59 [(Ks ([114,111,108,101]))],[]),(Ip 50 60 [(Ks ([40]))],[]),(If 51 6 2,[]),(Il 52 51,[]),(I1 53 (.build [(.int .i64 0),(.str []),(.int .i64 0)] [(0,1,(Ki 3)),(1,1,(t 52))]),[]),(Ip 54 60 [(Ks ([41]))],[]),(I1 55 (.bsl 3 [(t 49),(t 50),(t 53),(t 54)]),[]),(Im 4 55,[])])
 .ret)
 (.seq (.reg [I1 57 (.bin .eql (t 14) (Ks ([115,105,122,101]))),Im 56 57])
 (.cond (t 56)
 (.seq (.reg [Ip 58 59 [(Ks ([115,105,122,101]))],Ip 59 60 [(Ks ([40]))],I1 60 (.bsl 3 [(t 58),(t 59)]),Im 6 60])
 (.seq (.reg [Im 61 6,If 62 7 2,Il 63 62,I1 64 (.iaddr 8 (t 63) (Ki 0)),Ia 65 8 64,Im 66 1,Ic 67 24 [(t 65),(t 66)],I1 68 (.app false 3 32 (t 61) (t 67)),Im 6 68])
 (.seq (.reg [Im 69 6,Ip 70 60 [(Ks ([41]))],I1 71 (.bsl 3 [(t 70)]),I1 72 (.app false 3 32 (t 69) (t 71)),Im 4 72])
 .ret)))
 (.seq (.reg [I1 74 (.bin .eql (t 14) (Ks ([110,111,116]))),Im 73 74])
 (.cond (t 73)
 (.seq (.draw 0 [(Ip 75 59 [(Ks ([110,111,116]))],[]),(If 77 7 2,[]),(Il 78 77,[]),(I1 79 (.iaddr 8 (t 78) (Ki 0)),[]),(Ia 80 8 79,[]),(Im 81 1,[]),(Ip 82 61 [(t 80),(Ki 2),(t 81)],[]),(I1 76 (.bsl 3 [(t 75)]),[]),(I1 83 (.app false 3 32 (t 76) (t 82)),[]),(Im 4 83,[])])
 .ret)
 (.seq (.reg [I1 85 (.bin .eql (t 14) (Ks ([110,101,103]))),Im 84 85])
 (.cond (t 84)
 (.seq (.draw 0 [(Ip 86 60 [(Ks ([45]))],[]),(If 88 7 2,[]),(Il 89 88,[]),(I1 90 (.iaddr 8 (t 89) (Ki 0)),[]),(Ia 91 8 90,[]),(Im 92 1,[]),(Ip 93 61 [(t 91),(Ki 6),(t 92)],[]),(I1 87 (.bsl 3 [(t 86)]),[]),(I1 94 (.app false 3 32 (t 87) (t 93)),[]),(Im 4 94,[])])
 .ret)
 .skip))))))))))))))))))
 (.seq (.reg [Im 95 5,Im 7 95])
 (.seq (.seq (.reg [Im 96 5,I1 97 (.bin .eql (t 96) (Ki 3))])
 (.cond (t 97)
 (.reg [I1 7 (.mv (Ki 4))])
 .skip))
 (.seq (.reg [If 98 7 2,Il 99 98,I1 100 (.iaddr 8 (t 99) (Ki 0)),Ia 101 8 100,Im 102 7,Im 103 1,Ic 104 61 [(t 101),(t 102),(t 103)],Im 8 104])
 (.seq (.reg [If 105 0 2,Il 106 105,Ip 107 60 [(t 106)],I1 9 (.alloc [(.int .i64 0),(.str []),(.int .i64 0)]),Is 3 9 107])
 (.seq (.seq (.reg [I1 108 (.bsl 1 [(Ks ([111,114])),(Ks ([97,110,100])),(Ks ([105,110]))]),If 109 0 2,Il 110 109,Ip 111 62 [(t 108),(t 110)]])
 (.cond (t 111)
 (.reg [If 112 0 2,Il 113 112,Ip 114 59 [(t 113)],Is 3 9 114])
 .skip))
 (.seq (.reg [Im 115 8,Ia 116 3 9,I1 117 (.bsl 3 [(t 116)]),I1 118 (.app false 3 32 (t 115) (t 117)),Im 8 118])
 (.seq (.reg [Im 119 8,If 120 7 2,Il 121 120,I1 122 (.iaddr 8 (t 121) (Ki 1)),Ia 123 8 122,Im 124 5,I1 125 (.bin .add (t 124) (Ki 1)),Im 126 1,Ic 127 61 [(t 123),(t 125),(t 126)],I1 128 (.app false 3 32 (t 119) (t 127)),Im 4 128])
 .ret))))))))))
theorem fn24 : Fn Tryz.prog 24 129 [.inl 4] c24:=⟨⟨_,_,Tryz.func24,rfl,by kernel_rfl,Tryz.ntmps24,by kernel_rfl,Hq2,by kernel_rfl⟩⟩
def c58 : C :=
 (.seq (.reg [I1 1 (.box (t 0)),I1 2 (.mv KN)])
 (.seq (.seq (.reg [If 5 0 1,Il 6 5])
 (.block 0
 (.seq (.reg [I1 8 (.bin .eql (t 6) (Ki 1)),Im 7 8])
 (.cond (t 7)
 (.seq (.seq (.reg [If 9 1 1,Il 10 9,I1 11 (.bin .eql (t 10) (Ki 1))])
 (.cond (t 11)
 (.seq (.reg [Ip 12 59 [(Ks ([116,114,117,101]))],I1 13 (.bsl 3 [(t 12)]),Im 2 13])
 .ret)
 .skip))
 (.seq (.reg [Ip 14 59 [(Ks ([102,97,108,115,101]))],I1 15 (.bsl 3 [(t 14)]),Im 2 15])
 .ret))
 (.seq (.reg [I1 17 (.bin .eql (t 6) (Ki 2)),Im 16 17])
 (.cond (t 16)
 (.seq (.seq (.reg [If 18 1 1,Il 19 18,I1 20 (.bin .lss (t 19) (Ki 0))])
 (.cond (t 20)
 (.seq (.draw 0 [(Ip 21 60 [(Ks ([45]))],[]),(If 22 1 1,[]),(Il 23 22,[]),(I1 24 (.un .neg (t 23)),[]),(I1 25 (.build [(.int .i64 0),(.str []),(.int .i64 0)] [(0,1,(Ki 2)),(2,1,(t 24))]),[]),(I1 26 (.bsl 3 [(t 21),(t 25)]),[]),(Im 2 26,[])])
 .ret)
 .skip))
 (.seq (.reg [If 27 1 1,Il 28 27,I1 29 (.build [(.int .i64 0),(.str []),(.int .i64 0)] [(0,1,(Ki 2)),(2,1,(t 28))]),I1 30 (.bsl 3 [(t 29)]),Im 2 30])
 .ret))
 (.seq (.reg [I1 32 (.bin .eql (t 6) (Ki 3)),Im 31 32])
 (.cond (t 31)
 (.seq (.reg [If 33 2 1,Il 34 33,I1 35 (.build [(.int .i64 0),(.str []),(.int .i64 0)] [(0,1,(Ki 3)),(1,1,(t 34))]),I1 36 (.bsl 3 [(t 35)]),Im 2 36])
 .ret)
 (.seq (.reg [I1 38 (.bin .eql (t 6) (Ki 4)),Im 37 38])
 (.cond (t 37)
 (.seq (.reg [If 39 1 1,Il 40 39,I1 41 (.build [(.int .i64 0),(.str []),(.int .i64 0)] [(0,1,(Ki 4)),(2,1,(t 40))]),I1 42 (.bsl 3 [(t 41)]),Im 2 42])
 .ret)
 .skip))))))))))
 (.seq (.reg [Ip 43 60 [(Ks ([91]))],I1 44 (.bsl 3 [(t 43)]),Im 3 44])
 (.seq (.seq (.reg [I1 4 (.mv (Ki 0))])
 (.block 1
 (.loop
 (.seq (.seq (.reg [Im 45 4,If 46 3 1,Il 47 46,Iz 48 47,I1 49 (.bin .lss (t 45) (t 48))])
 (.cond (t 49)
 .skip
 (.exit 1)))
 (.seq (.block 2
 (.seq (.seq (.reg [Im 52 4,I1 53 (.bin .gtr (t 52) (Ki 0))])
 (.cond (t 53)
 (.reg [Im 54 3,Ip 55 60 [(Ks ([44]))],I1 56 (.bsl 3 [(t 55)]),I1 57 (.app false 3 32 (t 54) (t 56)),Im 3 57])
 .skip))
 (.reg [Im 58 3,If 59 3 1,Il 60 59,Im 61 4,I1 62 (.iaddr 4 (t 60) (t 61)),Ia 63 4 62,Ic 64 58 [(t 63)],I1 65 (.app false 3 32 (t 58) (t 64)),Im 3 65])))
 (.reg [Im 50 4,I1 51 (.bin .add (t 50) (Ki 1)),Im 4 51]))))))
 (.seq (.reg [Im 66 3,Ip 67 60 [(Ks ([93]))],I1 68 (.bsl 3 [(t 67)]),I1 69 (.app false 3 32 (t 66) (t 68)),Im 2 69])
 .ret)))))
theorem fn58 : Fn Tryz.prog 58 70 [.inl 2] c58:=⟨⟨_,_,Tryz.func58,rfl,by kernel_rfl,Tryz.ntmps58,by kernel_rfl,Hq2,by kernel_rfl⟩⟩
def c61 : C :=
 (.seq (.reg [I1 3 (.box (t 0)),I1 6 (.mv KN)])
 (.seq (.reg [Ia 10 8 3,Im 11 2,Ic 12 24 [(t 10),(t 11)],Im 7 12])
 (.seq (.reg [If 13 0 3,Il 14 13,Ip 15 52 [(t 14)],Im 8 15])
 (.seq (.seq (.reg [Im 16 8,Im 17 1,I1 18 (.bin .geq (t 16) (t 17)),Im 19 18,Jm 20 19 true 2,I2 21 19 (.un .not (t 20)),Jm 22 19 true 21,Jm 23 22 false 8,I3 24 22 (.bin .eql (t 23) (Ki 7)),I2 25 19 (.pick (t 22) KT (t 24)),I1 26 (.pick (t 19) (t 25) KF)])
 (.cond (t 26)
 (.seq (.reg [Im 27 7,Im 6 27])
 .ret)
 .skip))
 (.seq (.reg [Ip 28 60 [(Ks ([40]))],I1 29 (.bsl 3 [(t 28)]),Im 9 29])
 (.seq (.reg [Im 30 9,Im 31 7,I1 32 (.app false 3 32 (t 30) (t 31)),Im 9 32])
 (.seq (.reg [Im 33 9,Ip 34 60 [(Ks ([41]))],I1 35 (.bsl 3 [(t 34)]),I1 36 (.app false 3 32 (t 33) (t 35)),Im 6 36])
 .ret)))))))
theorem fn61 : Fn Tryz.prog 61 37 [.inl 6] c61:=⟨⟨_,_,Tryz.func61,rfl,by kernel_rfl,Tryz.ntmps61,by kernel_rfl,Hq2,by kernel_rfl⟩⟩
end GP
namespace GP
open Go Go.Proofs
set_option maxRecDepth 100000
section
variable {P : Program} [HasG P]
def φOwn (z : Nat) (f : List D -> Option (List D)) : Hp -> Tk -> List D -> Option (D × Hp × Tk):=fun H T a=>match f a with
 | some xs=>some (.sl (some T.length) xs,H,T ++ [some (xs.length,z)])
 | none=>none
theorem okOwn_of {X : Pred} (hX : ∀ f args H T Q Q',(∀ r H T,Q r H T -> Q' r H T) -> X f args H T Q -> Snd P f args H T Q') {f : FuncId} {n : Nat} {rs : List (Sum Nat (Nat × Bool × Nat))} {cc : C} (hf : Fn P f n rs cc) {z : Nat} {φ : List D -> Option (List D)}
  (h : ∀ args xs,φ args = some xs -> args.length <= n /\ D.clL 0 0 xs = true /\ ∀ H T,W X cc (endQ rs (LeavesG H T (.sl (some T.length) xs) H (T ++ [some (xs.length,z)]))) ⟨argT args,H,T⟩) : OkAtG P f (φOwn z φ):=by
 refine okG_of hX hf fun H T args r H1 T1 hr=>?_
 unfold φOwn at hr
 split at hr
 ·rename_i xs hx
  injection hr with hr;injection hr with h1 hr;injection hr with h2 h3
  subst h1;subst h2;subst h3
  obtain ⟨k1,k2,k3⟩:=h args xs hx
  refine ⟨k1,?_,Closed.refl' _ _,k3 H T⟩
  simp only [D.cl,Bool.and_eq_true,decide_eq_true_eq]
  exact ⟨by simp,D.clL_mono (Nat.zero_le _) (Nat.zero_le _) xs k2⟩
 ·cases hr
end
def tC : D:=mkT 5 [44] 0
def litT1 (v : D) : List D :=
 if vk v == 1 then (if vi v == 1 then [mkT 1 wTrue 0] else [mkT 1 wFalse 0]) else
 if vk v == 2 then (if decide (vi v < 0) then [mkT 5 [45] 0,mkT 2 [] (IntKind.i64.wrap (0 - vi v))] else [mkT 2 [] (vi v)]) else
 if vk v == 3 then [mkT 3 (vs v) 0] else [mkT 4 [] (vi v)]
def leaf1 (v : D) : Bool:=(vk v == 1) || (vk v == 2) || (vk v == 3) || (vk v == 4)
def cmL (f : D -> List D) (l : List D) : List D:=((l.map fun x=>tC :: f x).flatten).drop 1
theorem cmL_step {f : D -> List D} {l : List D} {j : Nat} {x : D} (h : l[j]? = some x) : cmL f (l.take (j + 1)) = cmL f (l.take j) ++ (if 0 < j then [tC] else []) ++ f x:=by
 have hj:=lt_of_get h
 simp only [cmL]
 rw [List.take_add_one,h]
 simp only [Option.toList_some,List.map_append,List.map_cons,List.map_nil,List.flatten_append,List.flatten_cons,List.flatten_nil,List.append_nil]
 cases j with
 | zero=>simp
 | succ j =>
  rw [if_pos (by omega),List.drop_append_of_le_length,List.append_assoc]
  ·rfl
  ·cases l with
   | nil=>simp at hj
   | cons a l=>simp
theorem cmL_le {f : D -> List D} {b : Nat} (l : List D) (h : ∀ x ∈ l,(f x).length <= b) : (cmL f l).length <= (b + 1) * l.length:=by
 have key : ∀ l : List D,(∀ x ∈ l,(f x).length <= b) -> ((l.map fun x=>tC :: f x).flatten).length <= (b + 1) * l.length:=by
  intro l
  induction l with
  | nil=>intro _;simp
  | cons x l ih =>
   intro h
   have h1:=h x (by simp)
   have h2:=ih fun y hy=>h y (by simp [hy])
   simp only [List.map_cons,List.flatten_cons,List.length_append,List.length_cons] at h2 ⊢
   rw [Nat.mul_add];omega
 have:=key l h
 simp only [cmL,List.length_drop];omega
theorem litT1_le (v : D) : (litT1 v).length <= 2:=by unfold litT1;(repeat' split) <;> simp
def litT (v : D) : List D:=if leaf1 v then litT1 v else mkT 5 [91] 0 :: (cmL litT1 (vl v) ++ [mkT 5 [93] 0])
theorem litT1_tok (v : D) : ∀ x ∈ litT1 v,∃ k s n,x = mkT k s n:=by
 intro x hx
 unfold litT1 at hx
 (repeat' split at hx) <;> simp only [List.mem_cons,List.not_mem_nil,or_false] at hx <;> first | exact ⟨_,_,_,hx⟩ | (rcases hx with hx | hx <;> exact ⟨_,_,_,hx⟩)
theorem cmL_mem {f : D -> List D} {l : List D} {x : D} (h : x ∈ cmL f l) : x = tC ∨ ∃ y ∈ l,x ∈ f y:=by
 have h:=List.mem_of_mem_drop h
 simp only [List.mem_flatten,List.mem_map] at h
 obtain ⟨_,⟨y,hy,rfl⟩,hx⟩:=h
 rcases List.mem_cons.1 hx with rfl | hx
 ·exact .inl rfl
 ·exact .inr ⟨y,hy,hx⟩
theorem litT_tok (v : D) : ∀ x ∈ litT v,∃ k s n,x = mkT k s n:=by
 intro x hx
 unfold litT at hx
 split at hx
 ·exact litT1_tok v x hx
 ·simp only [List.mem_cons,List.mem_append,List.not_mem_nil,or_false] at hx
  rcases hx with rfl | hx | rfl
  ·exact ⟨_,_,_,rfl⟩
  ·rcases cmL_mem hx with rfl | ⟨y,_,hy⟩
   ·exact ⟨_,_,_,rfl⟩
   ·exact litT1_tok y x hy
  ·exact ⟨_,_,_,rfl⟩
def isTks (l : List D) : Prop:=∀ x ∈ l,∃ k s n,x = mkT k s n
theorem isTks.fit {l : List D} (h : isTks l) : l.all (fit 3) = true:=List.all_eq_true.2 fun x hx=>by
 obtain ⟨k,s,n,rfl⟩:=h x hx;rfl
theorem isTks.cl {l : List D} (h : isTks l) (i j : Nat) : D.clL i j l = true:=clL_of fun x hx=>by
 obtain ⟨k,s,n,rfl⟩:=h x hx;simp [mkT,D.cl,D.clL]
theorem isTks.erase {l : List D} (h : isTks l) : D.eraseL l = l:=eraseL_id fun x hx=>by
 obtain ⟨k,s,n,rfl⟩:=h x hx;simp [mkT,D.erase,D.eraseL]
theorem isTks.app {l m : List D} (h : isTks l) (k : isTks m) : isTks (l ++ m):=fun x hx=>by
 rcases List.mem_append.1 hx with h' | h'
 ·exact h x h'
 ·exact k x h'
theorem isTks.cons {l : List D} (k : Int) (s : List UInt8) (n : Int) (h : isTks l) : isTks (mkT k s n :: l):=fun x hx=>by
 rcases List.mem_cons.1 hx with rfl | h'
 ·exact ⟨_,_,_,rfl⟩
 ·exact h x h'
theorem isTks.nil : isTks []:=fun _ h=>by cases h
def φlit1 : List D -> Option (List D)
 | [v]=>if v.isV = true /\ leaf1 v = true then some (litT1 v) else none
 | _=>none
set_option maxHeartbeats 2000000 in
theorem ok58a : OkAtG Tryz.prog 58 (φOwn 3 φlit1):=by
 refine okOwn_of (X:=XG Tryz.prog [] [(59,φtk1 1),(60,φtk1 5)] [] [] []) (XG.X (.cons ok59 (.cons ok60 .nil)) .nil .nil .nil) fn58 fun args xs h=>?_
 have hM : MonoH []:=.nil
 unfold φlit1 at h
 split at h
 ·rename_i v
  split at h
  ·rename_i hc
   obtain ⟨hv,hl⟩:=hc
   injection h with h;subst h
   refine ⟨by simp,isTks.cl (litT1_tok v) _ _,fun H T=>?_⟩
   obtain ⟨k,i,s,nl,l,rfl,z,y,hV⟩:=isV_elim hv
   have eL:=erase_of_isV hV
   simp only [leaf1,litT1,vk_mk,vi_mk,vs_mk] at hl ⊢
   have fin : ∀ (ys : List D) (B : Hp),isTks ys -> Ext H B -> LeavesG H T (.sl (some T.length) ys) H (T ++ [some (ys.length,3)]) (.sl (some T.length) ys) B (T ++ [some (ys.length,3)]):=fun ys B hy hB =>
    leavesG_own hB (ExtT.of _ _) (hy.cl _ _) (Nat.le_refl _) (by simp)
   rcases tf (k == 1) with g1 | g1
   ·rw [if_pos g1]
    rcases tf (i == 1) with g | g
    ·rw [if_pos g]
     simp +contextual (maxSteps:=10000000) only [c58,mkV,eL,g1,g,φtk1,pcallG hM,mkT,wTrue,go_sem]
     exact fin [_] _ (isTks.cons _ _ _ .nil) (Ext.of _ _)
    ·rw [if_neg (by rw [g];decide)]
     simp +contextual (maxSteps:=10000000) only [c58,mkV,eL,g1,g,φtk1,pcallG hM,mkT,wFalse,go_sem]
     exact fin [_] _ (isTks.cons _ _ _ .nil) (Ext.of _ _)
   rw [if_neg (by rw [g1];decide)]
   rcases tf (k == 2) with g2 | g2
   ·rw [if_pos g2]
    rcases tf (decide (i < 0)) with g | g
    ·rw [if_pos g]
     simp +contextual (maxSteps:=10000000) only [c58,mkV,eL,g1,g2,g,φtk1,pcallG hM,mkT,go_sem]
     exact fin [_,_] _ (isTks.cons _ _ _ (isTks.cons _ _ _ .nil)) (Ext.of _ _)
    ·rw [if_neg (by rw [g];decide)]
     simp +contextual (maxSteps:=10000000) only [c58,mkV,eL,g1,g2,g,φtk1,pcallG hM,mkT,go_sem]
     exact fin [_] _ (isTks.cons _ _ _ .nil) (Ext.of _ _)
   rw [if_neg (by rw [g2];decide)]
   rcases tf (k == 3) with g3 | g3
   ·rw [if_pos g3]
    simp +contextual (maxSteps:=10000000) only [c58,mkV,eL,g1,g2,g3,φtk1,pcallG hM,mkT,go_sem]
    exact fin [_] _ (isTks.cons _ _ _ .nil) (Ext.of _ _)
   rw [if_neg (by rw [g3];decide)]
   have g4 : (k == 4) = true:=by rw [g1,g2,g3] at hl;simpa using hl
   simp +contextual (maxSteps:=10000000) only [c58,mkV,eL,g1,g2,g3,g4,φtk1,pcallG hM,mkT,go_sem]
   exact fin [_] _ (isTks.cons _ _ _ .nil) (Ext.of _ _)
  ·cases h
 ·cases h
def φlitk : List D -> Option (List D)
 | [v]=>if v.isV = true /\ (leaf1 v = true ∨ (vl v).all leaf1 = true /\ (vl v).length <= 2 ^ 20) then some (litT v) else none
 | _=>none
set_option maxHeartbeats 4000000 in
theorem ok58 : OkAtG Tryz.prog 58 (φOwn 3 φlitk):=by
 classical
 intro H0 T0 args0 r0 H1 T1 h0
 by_cases hlf : ∃ v,args0 = [v] /\ leaf1 v = true
 ·obtain ⟨v,rfl,hl⟩:=hlf
  refine ok58a H0 T0 [v] r0 H1 T1 ?_
  unfold φOwn at h0 ⊢
  have : φlit1 [v] = φlitk [v]:=by
   simp only [φlit1,φlitk,hl,and_true,true_or]
   rw [show litT v = litT1 v by unfold litT;rw [if_pos hl]]
  rw [this];exact h0
 revert H0 T0 args0 r0 H1 T1
 classical
 have main : OkAtG Tryz.prog 58 (φOwn 3 fun a=>if ∃ v,a = [v] /\ leaf1 v = true then none else φlitk a):=by
  refine okOwn_of (X:=XG Tryz.prog [] [(59,φtk1 1),(60,φtk1 5)] [] [] [(58,φOwn 3 φlit1)]) (XG.X (.cons ok59 (.cons ok60 .nil)) .nil .nil (.cons ok58a .nil)) fn58 fun args xs h=>?_
  have hM : MonoH []:=.nil
  split at h
  ·cases h
  rename_i hnl
  unfold φlitk at h
  split at h
  ·rename_i v
   split at h
   ·rename_i hc
    obtain ⟨hv,hl⟩:=hc
    injection h with h;subst h
    refine ⟨by simp,isTks.cl (litT_tok v) _ _,fun H T=>?_⟩
    have hleaf : leaf1 v = false:=by
     cases hx : leaf1 v with
     | false=>rfl
     | true=>exact absurd ⟨v,rfl,hx⟩ hnl
    rw [hleaf] at hl
    simp only [Bool.false_eq_true,false_or] at hl
    obtain ⟨hl,hlen⟩:=hl
    have hLT : litT v = mkT 5 [91] 0 :: (cmL litT1 (vl v) ++ [mkT 5 [93] 0]):=by unfold litT;rw [hleaf];rfl
    rw [hLT]
    obtain ⟨k,i,s,nl,l,rfl,z,y,hV⟩:=isV_elim hv
    have eL:=erase_of_isV hV
    simp only [leaf1,vk_mk,Bool.or_eq_false_iff] at hleaf
    simp only [vl_mk] at hl hlen ⊢
    obtain ⟨⟨⟨g1,g2⟩,g3⟩,g4⟩:=hleaf
    simp +contextual (maxSteps:=10000000) only [c58,mkV,eL,g1,g2,g3,g4,φtk1,pcallG hM,mkT,go_sem]
    refine W_for (fun j s'=>s'.t 1 = .ptr H.length 0 /\ s'.t 3 = .sl (some T.length) (mkT 5 [91] 0 :: cmL litT1 (l.take j)) /\ s'.t 4 = .int .i64 j /\ s'.H = H ++ [.row [.int .i64 k,.int .i64 i,.str s,sliceD nl l]] /\ (∃ L,s'.T = T ++ some ((cmL litT1 (l.take j)).length + 1,3) :: L) /\ j <= l.length) l.length
     ⟨0,by simp [upd,argT],by simp [upd,argT,cmL,mkT],by simp [upd],rfl,⟨[],by simp [cmL]⟩,by omega⟩ (fun i s h=>h.2.2.2.2.2) ?_ (XG_mono _ _ _ _ _)
    rintro j ⟨t',B,T'⟩ ⟨r1,r3,r4,rfl,⟨L,rfl⟩,hj⟩
    simp only at r1 r3 r4
    have hcl:=cmL_le (f:=litT1) (b:=2) (l.take j) fun x _=>litT1_le x
    rw [List.length_take] at hcl
    have htk : isTks (mkT 5 [91] 0 :: cmL litT1 (l.take j)):=isTks.cons _ _ _ fun x hx=>by
     rcases cmL_mem hx with rfl | ⟨y,_,hy⟩
     ·exact ⟨_,_,_,rfl⟩
     ·exact litT1_tok y x hy
    obtain ⟨O,hO⟩ : ∃ O,cmL litT1 (l.take j) = O:=⟨_,rfl⟩
    rw [hO] at r3 hcl htk
    have hfO : O.all (fit 3) = true:=isTks.fit fun x hx=>htk x (by simp [hx])
    by_cases ha : j < l.length
    ·have d1 : decide ((j : Int) < l.length) = true:=by simpa using ha
     have ex : l[j]? = some l[j]:=by simp [ha]
     have hst:=cmL_step (f:=litT1) ex
     have hxV:=hV _ (List.getElem_mem ha)
     have hxl:=List.all_eq_true.1 hl _ (List.getElem_mem ha)
     obtain ⟨x,hx⟩ : ∃ x,l[j] = x:=⟨_,rfl⟩
     rw [hx] at ex hst hxV hxl
     have px : ∀ H T,φOwn 3 φlit1 H T [x] = some (.sl (some T.length) (litT1 x),H,T ++ [some ((litT1 x).length,3)]):=fun H T=>by
      simp only [φOwn,φlit1];rw [if_pos ⟨hxV,hxl⟩]
     have hfx:=isTks.fit (litT1_tok x)
     have hx2:=litT1_le x
     have htx:=litT1_tok x
     obtain ⟨Y,hY⟩ : ∃ Y,litT1 x = Y:=⟨_,rfl⟩
     rw [hY] at px hst hfx hx2 htx
     clear hx
     obtain ⟨k',i',s',nl',l',rfl,_,_,hV'⟩:=isV_elim hxV
     have eL':=erase_of_isV hV'
     simp only [mkV] at ex px
     rw [hst]
     rcases tf (decide ((0 : Int) < j)) with g | g
     ·have gj : 0 < j:=by simpa using g
      rw [hO,if_pos gj]
      simp +contextual (maxSteps:=10000000) only [r1,r3,r4,d1,ex,px,eL',g,φtk1,pcallG hM,mkT,wrap_succ j (by omega),appK_tok0,appK_tok,hfx,go_sem]
      exact ⟨by omega,by omega,hfO,rfl,by omega,by omega,by rw [List.all_append,hfO];rfl,rfl,⟨L ++ [some (1,3)] ++ [some (Y.length,3)],by simp;omega⟩,by omega⟩
     ·have gj : ¬ 0 < j:=by simpa using g
      rw [hO,if_neg gj]
      simp +contextual (maxSteps:=10000000) only [r1,r3,r4,d1,ex,px,eL',g,φtk1,pcallG hM,mkT,wrap_succ j (by omega),appK_tok0,appK_tok,hfx,go_sem]
      exact ⟨by omega,by omega,hfO,⟨L ++ [some (Y.length,3)],by simp;omega⟩,by omega⟩
    ·have d1 : decide ((j : Int) < l.length) = false:=by simpa using ha
     have : j = l.length:=by omega
     subst this
     rw [List.take_length] at hO
     rw [hO]
     simp +contextual (maxSteps:=10000000) only [r1,r3,r4,d1,φtk1,pcallG hM,mkT,appK_tok0,appK_tok,go_sem]
     refine ⟨by rw [List.take_length,hO],by omega,by omega,hfO,?_⟩
     have:=leavesG_own (H:=H) (T:=T) (z:=3) (τ:=T.length) (xs:=mkT 5 [91] 0 :: (O ++ [mkT 5 [93] 0])) (T':=T ++ (some (O.length + 1 + 1,3) :: (L ++ [some (1,3)]))) (Ext.of H [.row [.int .i64 k,.int .i64 i,.str s,sliceD nl l]]) (ExtT.of _ _) (isTks.cl (isTks.cons _ _ _ (isTks.app (fun x hx=>htk x (by simp [hx])) (isTks.cons _ _ _ .nil))) _ _) (Nat.le_refl _) (by simp)
     simpa [mkT] using this
   ·cases h
  ·cases h
 intro H0 T0 args0 r0 H1 T1 h0 hlf
 refine main H0 T0 args0 r0 H1 T1 ?_
 unfold φOwn at h0 ⊢
 simp only [hlf,if_false];exact h0
end GP
