import Derived.BigFrame
import Derived.Deep.LoopGhost
import Derived.Test.YtainhmbnbgonhaaGreatDoorM1
set_option linter.unusedSimpArgs false
namespace GP
open Go
variable {P : Program} {c : Cx} {w : World} {H : Hp}
def fzM (c : Cx) (o : Nat) (vs : List Value) : Addr -> Option Value:=fun a=>if a.block = c.β o /\ a.spot = none then vs[a.off]? else c.M a
def Cx.fz (c : Cx) (o : Nat) (vs : List Value) : Cx:={ c with M:=fzM c o vs }
theorem fzM_other {c : Cx} {o : Nat} {vs : List Value} {a : Addr} (h : a.block ≠ c.β o) : fzM c o vs a = c.M a:=by
 unfold fzM;rw [if_neg (fun k=>h k.1)]
theorem fzM_at (c : Cx) (o : Nat) (vs : List Value) (i : Nat) : fzM c o vs ⟨c.β o,i,none⟩ = vs[i]?:=by
 unfold fzM;rw [if_pos ⟨rfl,rfl⟩]
theorem fz_le {o : Nat} {vs : List Value} (h : ∀ i,c.M ⟨c.β o,i,none⟩ = none) : c.le (c.fz o vs):=by
 refine ⟨fun a v ha=>?_,fun _ h=>h,fun _ _=>rfl,Nat.le_refl _,fun _ h=>h,fun _ n _ h=>.inr ⟨n,h,Nat.le_refl _,fun _=>rfl⟩,rfl,fun _ _=>rfl⟩
 show fzM c o vs a = some v
 unfold fzM
 split
 ·rename_i hc
  obtain ⟨b,i,s⟩:=a
  obtain ⟨h1,h2⟩:=hc
  simp only at h1 h2;subst h1;subst h2
  rw [h i] at ha;cases ha
 ·exact ha
theorem set_get_ne {H : Hp} {o o' : Nat} {x y : Ob} (h : (H.set o x)[o']? = some y) (hx : y ≠ x) : o' ≠ o /\ H[o']? = some y:=by
 by_cases e : o = o'
 ·subst e
  rw [List.getElem?_set] at h
  split at h
  ·split at h
   ·injection h with h;exact absurd h.symm hx
   ·cases h
  ·rename_i hne;exact absurd rfl hne
 ·rw [List.getElem?_set_ne e] at h
  exact ⟨fun k=>e k.symm,h⟩
theorem Inv.row_at (k : Inv c w H) {o : Nat} {cs : List D} (h : H[o]? = some (.row cs)) : ∃ vs,Cells c cs vs /\ ∀ (i : Nat) u,vs[i]? = some u -> w.cell? ⟨c.β o,i,none⟩ = some u:=by
 obtain ⟨a,vs,h1,h2,h3,h4⟩:=read_at k (Rep.ptr o 0 (k.own o _ h rfl).1) (cs:=cs) (by simp [rdAt,h])
 injection h1 with h1;injection h1 with h1;subst h1
 refine ⟨vs,h3,fun i u hu=>?_⟩
 have:=h4 i u hu
 rw [Addr.add_eq _ rfl] at this
 simpa using this
theorem Inv.fz (k : Inv c w H) {o : Nat} {cs : List D} (h : H[o]? = some (.row cs)) {vs : List Value} (hv : ∀ (i : Nat) u,vs[i]? = some u -> w.cell? ⟨c.β o,i,none⟩ = some u) : Inv (c.fz o vs) w (H.set o .dead):=by
 obtain ⟨hb,hB,hw,hM⟩:=k.own o _ h rfl
 have hle:=fz_le (vs:=vs) hM
 have get : ∀ {o' : Nat} {x : Ob},(H.set o .dead)[o']? = some x -> x.live = true -> o' ≠ o /\ H[o']? = some x:=fun hg hx=>set_get_ne hg (fun e=>by subst e;simp [Ob.live] at hx)
 have hne : ∀ {o' : Nat} {x : Ob},H[o']? = some x -> x.live = true -> o' ≠ o -> c.β o' ≠ c.β o:=fun hg hx hn e=>hn (k.apart _ _ _ _ hg h hx rfl e)
 refine ⟨fun a v ha=>?_,k.low,fun o' x cs' hg hx=>?_,fun o' hf=>?_,fun o' x hg hx=>?_,fun o' o'' x x' hg hg' hx hx'=>?_,fun o' es hg=>?_,fun o' m l hg=>?_,fun τ n z ht=>?_,fun τ n z o' x ht hg hx=>?_,k.toks⟩
 ·change fzM c o vs a = some v at ha
  unfold fzM at ha
  split at ha
  ·rename_i hc
   obtain ⟨b,i,s⟩:=a
   obtain ⟨h1,h2⟩:=hc
   simp only at h1 h2 ha;subst h1;subst h2
   exact hv i v ha
  ·exact k.keep a v ha
 ·have hlv : x.live = true:=by cases x <;> simp [Ob.cells?] at hx <;> rfl
  obtain ⟨h1,h2⟩:=get hg hlv
  obtain ⟨us,rest,e,fr,g1,g2,g3,g4⟩:=(k.row o' x cs' h2 hx).hold
  exact ⟨us,rest,e,fr,g1,g2.mono hle,g3,g4⟩
 ·rcases hf with hf | hf
  ·exact k.free o' (.inl (by simpa using hf))
  ·obtain ⟨_,h2⟩:=set_get_ne hf (by simp)
   exact k.free o' (.inr h2)
 ·obtain ⟨h1,h2⟩:=get hg hx
  obtain ⟨g1,g2,g3,g4⟩:=k.own o' x h2 hx
  refine ⟨g1,g2,g3,fun i=>?_⟩
  show fzM c o vs _ = none
  rw [fzM_other (hne h2 hx h1)];exact g4 i
 ·obtain ⟨_,h2⟩:=get hg hx
  obtain ⟨_,h3⟩:=get hg' hx'
  exact k.apart _ _ _ _ h2 h3 hx hx'
 ·exact k.map o' es (set_get_ne hg (by simp)).2
 ·exact k.iter o' m l (set_get_ne hg (by simp)).2
 ·obtain ⟨g1,g2,g3,g4,g5⟩:=k.tok τ n z ht
  refine ⟨g1,g2,g3,g4,fun j h1 h2=>?_⟩
  obtain ⟨q1,q2,q3⟩:=g5 j h1 h2
  refine ⟨q1,q2,?_⟩
  show fzM c o vs ⟨(c.κ τ).1.block,(c.κ τ).1.off + j,none⟩ = none
  rw [fzM_other (a:=⟨(c.κ τ).1.block,(c.κ τ).1.off + j,none⟩) (fun e=>k.tokrow τ n z o _ ht h rfl e.symm)];exact q3
 ·obtain ⟨_,h2⟩:=get hg hx
  exact k.tokrow τ n z o' x ht h2 hx
theorem rep_fz {ag : Bool} {z o off n cap : Nat} {v : Value} (hr : Rep c (.ms ag z o off n cap) v) {cs : List D} {vs : List Value} (hc : Cells c cs vs) (hM : ∀ i,c.M ⟨c.β o,i,none⟩ = none) (h1 : off + n * z <= cs.length) (h2 : ag = true ∨ z = 1) (h3 : n < 2 ^ 62) :
  Rep (c.fz o vs) (.sl none (chunk ag z n (cs.drop off))) v:=by
 cases hr with
 | ms _ _ _ _ _ _ rc hb g1 g2 g3 =>
  have hle:=fz_le (vs:=vs) hM
  have hcd : Cells (c.fz o vs) (cs.drop off) (vs.drop off):=by
   have:=hc.mono hle
   exact ⟨by simp [this.len],fun d hd=>this.one d (List.mem_of_mem_drop hd),fun i h h'=>by simpa using this.rep (off + i) (by simp at h;omega) (by simp at h';omega)⟩
  have ke:=chunk_elems h2 n _ _ hcd (by simp;omega)
  have hl:=chunk_len ag z n (cs.drop off)
  have hvl : vs.length = cs.length:=hc.len
  have:=rep_sl_of ke (a:=⟨c.β o,off,none⟩) (cap:=rc) rfl (by omega) (by omega) (fun j hj=>?_) none (fun τ h=>by cases h) (fun τ h=>by cases h)
  ·rw [hl] at this;exact this
  ·rw [hl] at hj
   show fzM c o vs ⟨c.β o,off + j,none⟩ = _
   rw [fzM_at,chunkV_flat,List.getElem?_take_of_lt (by omega),List.getElem?_drop]
mutual
def D.fz (o : Nat) (cs : List D) : D -> D
 | .ms ag z o' off n cap=>if o' = o /\ off + n * z <= cs.length /\ (ag = true ∨ z = 1) /\ n < 2 ^ 62 then .sl none (chunk ag z n (cs.drop off)) else .ms ag z o' off n cap
 | .sl t xs=>.sl t (D.fzL o cs xs)
 | .el ds=>.el (D.fzL o cs ds)
 | .agg ds=>.agg (D.fzL o cs ds)
 | .tup ds=>.tup (D.fzL o cs ds)
 | .fn f a b=>.fn f (D.fzL o cs a) (D.fzL o cs b)
 | .ifc t d=>.ifc t (D.fz o cs d)
 | d=>d
def D.fzL (o : Nat) (cs : List D) : List D -> List D
 | []=>[]
 | d :: ds=>D.fz o cs d :: D.fzL o cs ds
end
section
variable {o : Nat} {cs : List D}
theorem fzL_len : ∀ (l : List D),(D.fzL o cs l).length = l.length
 | []=>by simp [D.fzL]
 | d :: l=>by simp [D.fzL,fzL_len l]
theorem fzL_get : ∀ (l : List D) (i : Nat) (h : i < l.length) (h' : i < (D.fzL o cs l).length),(D.fzL o cs l)[i] = (l[i]).fz o cs
 | d :: l,0,h,h'=>by simp [D.fzL]
 | d :: l,i + 1,h,h'=>by
  simp only [D.fzL,List.getElem_cons_succ]
  exact fzL_get l i _ _
theorem fzL_map (l : List D) : D.fzL o cs l = l.map (D.fz o cs):=by
 induction l with
 | nil=>simp [D.fzL]
 | cons d l ih=>simp [D.fzL,ih]
theorem fz_one (d : D) : (d.fz o cs).one = d.one:=by
 cases d with
 | ms ag z o' off n cap =>
  simp only [D.fz]
  by_cases h : o' = o /\ off + n * z <= cs.length /\ (ag = true ∨ z = 1) /\ n < 2 ^ 62
  ·rw [if_pos h];rfl
  ·rw [if_neg h]
 | _=>simp only [D.fz,D.one]
theorem fz_cells (d : D) : (d.fz o cs).cells = D.fzL o cs d.cells:=by
 cases d with
 | ms ag z o' off n cap =>
  simp only [D.fz]
  by_cases h : o' = o /\ off + n * z <= cs.length /\ (ag = true ∨ z = 1) /\ n < 2 ^ 62
  ·rw [if_pos h];simp only [D.cells,D.fzL,D.fz];rw [if_pos h]
  ·rw [if_neg h];simp only [D.cells,D.fzL,D.fz];rw [if_neg h]
 | _=>simp only [D.fz,D.cells,D.fzL]
theorem Rep.fz {vs : List Value} (hc : Cells c cs vs) (hM : ∀ i,c.M ⟨c.β o,i,none⟩ = none) {d : D} {v : Value} (h : Rep c d v) : Rep (c.fz o vs) (d.fz o cs) v:=by
 have hle:=fz_le (vs:=vs) hM
 induction h with
 | bool b=>simpa [D.fz] using Rep.bool b
 | int k n=>simpa [D.fz] using Rep.int k n
 | str l h=>simpa [D.fz] using Rep.str l h
 | nilp=>simpa [D.fz] using Rep.nilp
 | ptr o off h=>simpa [D.fz] using (Rep.ptr o off h).mono hle
 | el ds a us ha h1 hM' _ ih =>
  simp only [D.fz]
  refine Rep.el _ a us ha ?_ (fun i hi=>hle.M _ _ (hM' i (by simpa [fzL_len] using hi))) (fun i hi=>?_)
  ·intro d hd
   rw [fzL_map] at hd
   obtain ⟨x,hx,rfl⟩:=List.mem_map.1 hd
   rw [fz_one];exact h1 x hx
  ·have hi' : i < ds.length:=by simpa [fzL_len] using hi
   rw [fzL_get ds i hi']
   exact ih i hi'
 | nils=>simpa [D.fz] using Rep.nils
 | ms ag z o' off len cap rc h h1 h2 h3 =>
  have hm:=Rep.ms (c:=c) ag z o' off len cap rc h h1 h2 h3
  simp only [D.fz]
  split
  ·rename_i hq
   obtain ⟨rfl,q1,q2,q3⟩:=hq
   exact rep_fz hm hc hM q1 q2 q3
  ·exact hm.mono hle
 | e0 a=>simpa [D.fz] using Rep.e0 a
 | sl t xs a cap sz us hlen hb hsz h1 ha hs hM' _ htl ht ih =>
  simp only [D.fz]
  have hl:=fzL_len (o:=o) (cs:=cs) xs
  rw [<- hl]
  refine Rep.sl t (D.fzL o cs xs) a cap sz us (by omega) (by omega) ?_ ?_ ?_ ?_ ?_ ?_ htl (fun τ h n z h'=>by rw [hl];exact ht τ h n z h')
  ·intro x hx
   rw [fzL_map] at hx
   obtain ⟨y,hy,rfl⟩:=List.mem_map.1 hx
   rw [fz_cells,fzL_len];exact hsz y hy
  ·intro x hx y hy
   rw [fzL_map] at hx
   obtain ⟨z,hz,rfl⟩:=List.mem_map.1 hx
   rw [fz_cells,fzL_map] at hy
   obtain ⟨u,hu,rfl⟩:=List.mem_map.1 hy
   rw [fz_one];exact h1 z hz u hu
  ·intro hne
   exact ha (by intro e;subst e;exact hne (by simp [D.fzL]))
  ·intro hne
   exact hs (by intro e;subst e;exact hne (by simp [D.fzL]))
  ·intro i hi j hj b hb
   exact hle.M _ _ (hM' i (by omega) j hj b hb)
  ·intro i hi j hj
   have hi' : i < xs.length:=by omega
   have e1 : (D.fzL o cs xs)[i].cells = D.fzL o cs (xs[i].cells):=by rw [fzL_get xs i hi',fz_cells]
   have hj' : j < (xs[i].cells).length:=by rw [e1,fzL_len] at hj;exact hj
   have e2 : ((D.fzL o cs xs)[i].cells)[j] = ((xs[i].cells)[j]).fz o cs:=by
    have:=fzL_get (o:=o) (cs:=cs) (xs[i].cells) j hj' (by rw [fzL_len];exact hj')
    rw [<- this];congr 1
   rw [e2]
   exact ih i hi' j hj'
 | fn f p q vp vq hp hq _ _ ih1 ih2 =>
  simp only [D.fz]
  refine Rep.fn f _ _ vp vq (by rw [fzL_len];exact hp) (by rw [fzL_len];exact hq) (fun i h h'=>?_) (fun i h h'=>?_)
  ·have hi : i < p.length:=by rw [fzL_len] at h;exact h
   rw [fzL_get p i hi];exact ih1 i hi h'
  ·have hi : i < q.length:=by rw [fzL_len] at h;exact h
   rw [fzL_get q i hi];exact ih2 i hi h'
 | nilf=>simpa [D.fz] using Rep.nilf
 | mp o h=>simpa [D.fz] using (Rep.mp o h).mono hle
 | nilm=>simpa [D.fz] using Rep.nilm
 | nili=>simpa [D.fz] using Rep.nili
 | ifc t d v _ ih=>simp only [D.fz];exact Rep.ifc t _ v ih
 | agg ds us hl h1 _ ih =>
  simp only [D.fz]
  refine Rep.agg _ us (by rw [fzL_len];exact hl) ?_ (fun i h h'=>?_)
  ·intro d hd
   rw [fzL_map] at hd
   obtain ⟨x,hx,rfl⟩:=List.mem_map.1 hd
   rw [fz_one];exact h1 x hx
  ·have hi : i < ds.length:=by rw [fzL_len] at h;exact h
   rw [fzL_get ds i hi];exact ih i hi h'
 | tup ds us hl _ ih =>
  simp only [D.fz]
  refine Rep.tup _ us (by rw [fzL_len];exact hl) (fun i h h'=>?_)
  have hi : i < ds.length:=by rw [fzL_len] at h;exact h
  rw [fzL_get ds i hi];exact ih i hi h'
 | top v=>simpa [D.fz] using Rep.top v
end
theorem b2m_sound {src dst e : TypeId} (hs : P.underlying src = some (.slice e)) (he : P.underlying e = some (.int .u8)) (hd : P.underlying dst = some .string) (hi : Inv c w H) {x r : D} {v : Value} (hx : Rep c x v)
  (h : b2mD H x = some r) : ∃ u,(Go.convert src dst v).run P w = .ok u w /\ Rep c r u:=by
 unfold b2mD at h
 split at h
 ·rename_i ag z o off n cap
  split at h
  ·rename_i cs ho
   split at h
   ·rename_i hc
    obtain ⟨h1,h2,h3,h4⟩:=hc
    injection h with h;subst h
    obtain ⟨vs,hv,hcell⟩:=hi.row_at ho
    have hM:=(hi.own o _ ho rfl).2.2.2
    obtain ⟨u,e1,e2⟩:=b2s_sound (P:=P) hs he hd (hi.fz ho hcell) (rep_fz hx hv hM (by rw [h1];omega) (.inr h1) h4) (r:=.str ((chunk ag z n (cs.drop off)).map unbyte)) (by simp only [b2sD];rw [if_pos h3])
    refine ⟨u,e1,?_⟩
    cases e2 with
    | str _ hl=>exact Rep.str _ hl
   ·cases h
  ·cases h
 ·exact b2s_sound hs he hd hi hx h
end GP
namespace GP
open Go
variable {P : Program} {c : Cx} {w : World} {H : Hp}
theorem fresh_slr (k : Inv c w H) {sz : Nat} {xs : List D} {vss : List (List Value)} (hk : Elems c sz xs vss) (e : TypeId) (fr : Nat × Nat) (hb : xs.length < 2 ^ 62) (rest : List Value) {cap : Nat} (hcap : xs.length <= cap) {T : Tk} (hT : c.T = T) :
  Yld c w H T (.sl none xs) (.ok (.slice (some ⟨w.heap.size,0,none⟩) xs.length cap) (w.alloc (.cells (vss.flatten ++ rest).toArray e fr))):=by
 have hle:=fresh_le k (vss.flatten ++ rest) vss.flatten.length
 refine ⟨_,{ c with M:=freshM c.M w.heap.size (vss.flatten ++ rest) vss.flatten.length },_,rfl,?_,k.fresh _ e fr _,hle,hT,Below.of_alloc w _ k.low⟩
 refine rep_sl_of (hk.mono hle) rfl hcap hb (fun j hj=>?_) none (fun τ h=>by cases h) (fun τ h=>by cases h)
 have : j < vss.flatten.length:=by rw [flat_len vss hk.sz',hk.len];exact hj
 show freshM _ _ _ _ _ = _
 simp only [Nat.zero_add]
 rw [freshM_at this,List.getElem?_append_left this]
theorem freeze_new (w : World) (arr : Array Value) (e : TypeId) : (w.alloc (.cells arr e)).freeze ⟨w.heap.size,arr.size,none⟩ 1 = w.alloc (.cells arr e (arr.size,arr.size + 1)):=by
 unfold World.freeze
 rw [if_neg (by decide)]
 show ({ w.alloc (.cells arr e) with heap:=_ } : World) = { w with heap:=_ }
 have : ∀ f : Obj -> Obj,(w.heap.push (.cells arr e)).modify w.heap.size f = w.heap.push (f (.cells arr e)):=by
  intro f
  apply Array.ext_getElem?
  intro i
  rw [Array.getElem?_modify]
  by_cases h : w.heap.size = i
  ·subst h;simp
  ·rw [if_neg h]
   simp only [Array.getElem?_push]
   rw [if_neg (Ne.symm h),if_neg (Ne.symm h)]
 show World.mk ((w.heap.push (.cells arr e)).modify w.heap.size _) _ _ _ _ = World.mk _ _ _ _ _
 rw [this]
 rfl
theorem run_s2b {src dst e : TypeId} (hs : P.underlying src = some .string) (hd : P.underlying dst = some (.slice e)) (he : P.underlying e = some (.int .u8)) (l : List UInt8) :
  ∃ cap,l.length <= cap /\ (Go.convert src dst (.string ⟨l.toArray⟩)).run P w =
   .ok (.slice (some ⟨w.heap.size,0,none⟩) l.length cap) (w.drew.alloc (.cells ((l.map fun b : UInt8=>Value.int .u8 b.toNat) ++ List.replicate (cap - l.length) (Value.int .u8 0)).toArray e
    (((l.map fun b : UInt8=>Value.int .u8 b.toNat) ++ List.replicate (cap - l.length) (Value.int .u8 0)).toArray.size,((l.map fun b : UInt8=>Value.int .u8 b.toNat) ++ List.replicate (cap - l.length) (Value.int .u8 0)).toArray.size + 1))):=by
 refine ⟨grownCap w l.length 0 e,by simp [grownCap,Question.cut],?_⟩
 have e1 : (Array.map (fun b : UInt8=>Value.int .u8 b.toNat) l.toArray ++ Array.replicate (grownCap w l.length 0 e - l.length) (Value.int .u8 0)) =
   ((l.map fun b : UInt8=>Value.int .u8 b.toNat) ++ List.replicate (grownCap w l.length 0 e - l.length) (Value.int .u8 0)).toArray:=by
  apply Array.toList_inj.1;simp
 have hc : (choose (.appendCap l.length 0 e)).run P w = .ok (grownCap w l.length 0 e) w.drew:=by simp [Question.forced,grownCap]
 simp only [Go.convert,Sem.run_bind,run_underlying hs,run_underlying hd,run_underlying he,Result.andThen_ok,Conv.stringToBytes,size_mk,hc,newRow,run_newObj,Sem.run_pure,World.alloc_eq,e1,markStringish,run_shape]
 have hsh : (w.drew.alloc (.cells ((l.map fun b : UInt8=>Value.int .u8 b.toNat) ++ List.replicate (grownCap w l.length 0 e - l.length) (Value.int .u8 0)).toArray e)).shape? w.drew.heap.size =
   some (e,((l.map fun b : UInt8=>Value.int .u8 b.toNat) ++ List.replicate (grownCap w l.length 0 e - l.length) (Value.int .u8 0)).toArray.size):=by
  unfold World.shape?
  rw [alloc_new]
 rw [hsh]
 simp only [run_freeze,Result.andThen_ok]
 rw [freeze_new]
 rfl
theorem byte_elems (l : List UInt8) : Elems c 1 (byteD l) (l.map fun b=>[Value.int .u8 b.toNat]):=by
 refine ⟨by simp [byteD],fun i h h'=>⟨by simp [byteD,D.cells],by simp [byteD,D.cells,D.one],fun j hj hj'=>?_⟩,fun x hx=>?_⟩
 ·simp [byteD,D.cells] at hj ⊢
  subst hj
  exact Rep.int _ _
 ·simp only [byteD,List.mem_map] at hx
  obtain ⟨b,_,rfl⟩:=hx
  rfl
theorem byte_flat (l : List UInt8) : (l.map fun b=>[Value.int .u8 b.toNat]).flatten = l.map fun b=>Value.int .u8 b.toNat:=by
 induction l with
 | nil=>rfl
 | cons b l ih=>simpa using ih
theorem s2bq_sound (k : Inv c w H) {src dst e : TypeId} (hs : P.underlying src = some .string) (hd : P.underlying dst = some (.slice e)) (he : P.underlying e = some (.int .u8)) {l : List UInt8} {v : Value} (hx : Rep c (.str l) v) {T : Tk} (hT : c.T = T) :
  Yld c w H T (.sl none (byteD l)) ((Go.convert src dst v).run P w):=by
 cases hx with
 | str _ hl =>
  obtain ⟨cap,h1,h2⟩:=run_s2b (P:=P) (w:=w) hs hd he l
  rw [h2]
  have:=fresh_slr k.drew (byte_elems l) e (((l.map fun b : UInt8=>Value.int .u8 b.toNat) ++ List.replicate (cap - l.length) (Value.int .u8 0)).toArray.size,((l.map fun b : UInt8=>Value.int .u8 b.toNat) ++ List.replicate (cap - l.length) (Value.int .u8 0)).toArray.size + 1)
   (by simpa [byteD] using hl) (List.replicate (cap - l.length) (.int .u8 0)) (cap:=cap) (by simpa [byteD] using h1) hT
  rw [byte_flat] at this
  simpa [byteD] using this.drew
theorem s2b_sound (k : Inv c w H) {src dst e : TypeId} (hs : P.underlying src = some .string) (hd : P.underlying dst = some (.slice e)) (he : P.underlying e = some (.int .u8)) {l : List UInt8} {v : Value} (hx : Rep c (.str l) v) {T : Tk} (hT : c.T = T) :
  Yld c w H (T ++ [some (l.length,1)]) (.sl (some T.length) (byteD l)) ((Go.convert src dst v).run P w):=by
 cases hx with
 | str _ hl =>
  obtain ⟨cap,h1,h2⟩:=run_s2b (P:=P) (w:=w) hs hd he l
  rw [h2]
  have:=fresh_tok k.drew (byte_elems l) e (by simpa [byteD] using hl) (List.replicate (cap - l.length) (.int .u8 0))
   (((l.map fun b : UInt8=>Value.int .u8 b.toNat) ++ List.replicate (cap - l.length) (Value.int .u8 0)).toArray.size,((l.map fun b : UInt8=>Value.int .u8 b.toNat) ++ List.replicate (cap - l.length) (Value.int .u8 0)).toArray.size + 1)
   (fun i hi=>by rw [byte_flat] at hi;simp at hi ⊢;omega) (cap:=cap) (by simpa [byteD] using h1) (by rw [byte_flat];simp;omega) (τ:=T.length) (T':=T ++ [some (l.length,1)]) (by simp [byteD]) (fun h=>by rw [hT] at h;omega)
   (fun j hj=>by
    rw [hT]
    rcases Nat.lt_or_ge j T.length with h' | h'
    ·rw [List.getElem?_append_left h']
    ·rw [List.getElem?_eq_none (by simp;omega),List.getElem?_eq_none h']) (by rw [hT];simp)
  rw [byte_flat] at this
  simpa [byteD] using this.drew
def optRd : Option Operand -> Option (Option Rd)
 | none=>some none
 | some x=>match cRd x with
  | some r=>some (some r)
  | none=>none
theorem optRd_ok {oo : Option Operand} {o : Option Rd} (h : optRd oo = some o) : o = none /\ oo = none ∨ ∃ r x,o = some r /\ oo = some x /\ cRd x = some r:=by
 cases oo with
 | none=>simp [optRd] at h;exact .inl ⟨h.symm,rfl⟩
 | some x =>
  simp only [optRd] at h
  split at h
  ·rename_i r hr;injection h with h;exact .inr ⟨r,x,h.symm,rfl,hr⟩
  ·cases h
def cParts (place : Nat -> Option (Nat × Nat)) : List (Nat × Operand) -> Option (List (Nat × Nat × Rd))
 | []=>some []
 | (i,x) :: ps=>match place i,cRd x,cParts place ps with
  | some (off,sz),some r,some rs=>some ((off,sz,r) :: rs)
  | _,_,_=>none
def fieldPlaces (P : Program) (fs : Array Field) : Nat -> Option (Nat × Nat):=fun i=>match fs[i]? with
 | some f=>match tsz P f.type with
  | some n=>some (f.offset,n)
  | none=>none
 | none=>none
def isInt8 (P : Program) (t : TypeId) : Bool:=match P.underlying t with | some (.int .u8)=>true | _=>false
def isStr (P : Program) (t : TypeId) : Bool:=match P.underlying t with | some .string=>true | _=>false
def intOf (P : Program) (t : TypeId) : Option IntKind:=match P.underlying t with | some (.int k)=>some k | _=>none
theorem isInt8_ok {t : TypeId} (h : isInt8 P t = true) : P.underlying t = some (.int .u8):=by unfold isInt8 at h;split at h <;> simp_all
theorem isStr_ok {t : TypeId} (h : isStr P t = true) : P.underlying t = some .string:=by unfold isStr at h;split at h <;> simp_all
theorem intOf_ok {t : TypeId} {k : IntKind} (h : intOf P t = some k) : P.underlying t = some (.int k):=by unfold intOf at h;split at h <;> simp_all
def cConv (P : Program) (mu dr : Bool) (src dst : TypeId) (r : Rd) : Option O :=
 match intOf P dst with
 | some k=>if (P.underlying src).isSome then some (.conv k r) else none
 | none =>
  if isStr P dst then
   if isStr P src then some (.mvs r) else
   match sliceOf P src with
   | some e=>if isInt8 P e then some (if mu then .b2m r else .b2s r) else none
   | none=>none
  else if isStr P src then
   match sliceOf P dst with
   | some e=>if isInt8 P e then some (if dr then .s2bq r else .s2b r) else none
   | none=>none
  else none
def idxs? (l : List (Nat × Operand)) (n : Nat) : Bool:=l.map (·.1) == List.range n
structure Hn where
 imp : FuncId -> Bool
 mu : Bool
 own : FuncId -> Bool
 lit : Bool
structure Pl where
 pos : Nat
 fill : Option Nat
 re : Bool
def cBuiltin (P : Program) (mu : Bool) (b : Builtin) (ats : List TypeId) (rs : List Rd) : Option O :=
 match b,ats,rs with
 | .len,[t],[x]=>if isStr P t then some (.lens x) else if (sliceOf P t).isSome then some (.len x) else none
 | .min,_,[x,y]=>some (.mn x y)
 | .max,_,[x,y]=>some (.mx x y)
 | .append,[st,xt],[x,y] =>
  match sliceOf P st with
  | some e=>match tsz P e,tbytes P e,tz P e with
   | some sz,some by_,some z=>if appT P xt && (z.length == sz) && (!isStr P xt || sz == 1) then some (if mu then .appm (tag P e == some true) (isStr P xt) sz by_ x y else .app (isStr P xt) sz by_ x y) else none
   | _,_,_=>none
  | none=>none
 | .copy,[dt,_],[x,y]=>match sliceOf P dt with
  | some e=>match tsz P e with
   | some sz=>some (.copy sz x y)
   | none=>none
  | none=>none
 | .clear,[t],[x]=>match sliceOf P t with
  | some e=>match tz P e with
   | some z=>some (.clr z x)
   | none=>none
  | none=>none
 | _,_,_=>none
def cOp (P : Program) (imp : Hn) (dr : Bool) (j : Pl) : Op -> Option O
 | .move x | .assign x=>match cRd x with | some r=>some (.mv r) | none=>none
 | .pick c a b=>match cRd c,cRd a,cRd b with
  | some c,some a,some b=>some (.pick c a b)
  | _,_,_=>none
 | .alloc t=>match tz P t with
  | some z=>some (if dr then (match j.fill with | some _=>.rawAt j.pos z | none=>.allocAt j.pos z) else .alloc z)
  | none=>none
 | .box _ x=>match cRd x with
  | some r=>some (if dr then .boxAt j.pos r else .box r)
  | none=>none
 | .build t ps=>match tz P t with
  | some z=>match structOf P t,arrayOf P t with
   | some fs,_=>match cParts (fieldPlaces P fs) ps.toList with
    | some l=>if (List.range fs.size).all (fun i=>(fieldPlaces P fs i).isSome) then some (.build z l) else none
    | none=>none
   | none,some (_,e)=>match tsz P e with
    | some sz=>match cParts (fun i=>some (i * sz,sz)) ps.toList with
     | some l=>some (.build z l)
     | none=>none
    | none=>none
   | none,none=>none
  | none=>none
 | .buildSlice t n ps=>match sliceOf P t with
  | some e=>match tsz P e,cRds (ps.toList.map (·.2)) with
   | some sz,some rs=>if idxs? ps.toList n && (tz P e).isSome && decide (n * sz <= 2 ^ 24) && decide (n <= 2 ^ 24) then some (if (dr && !j.re) then .bslq sz rs else if imp.mu then .bslm (tag P e == some true) sz rs else .bsl sz rs) else none
   | _,_=>none
  | none=>none
 | .load t x=>match tag P t,tsz P t,cRd x with
  | some ag,some n,some r=>some (.load ag n r)
  | _,_,_=>none
 | .store t x v=>match tsz P t,cRd x,cRd v with
  | some n,some r,some q=>some (match j.fill with | some m=>.fillAt m n r q | none=>.store n r q)
  | _,_,_=>none
 | .nilCheck x=>match cRd x with | some r=>some (.nilc r) | none=>none
 | .binOp op t x y _=>match cRd x,cRd y with
  | some r,some q =>
   if op == .eql || op == .neq then
    match cks P t with
    | some ks=>some (.eqa ks (op == .neq) r q)
    | none=>match tqOf P t with
     | some k=>if isConstOp y || k != .ifc then some (.eq1 k (op == .neq) r q) else none
     | none=>some (.bin op r q)
   else some (.bin op r q)
  | _,_=>none
 | .unOp op _ x=>match cRd x with | some r=>some (.un op r) | none=>none
 | .convert src dst x=>match cRd x with | some r=>cConv P imp.mu dr src dst r | none=>none
 | .makeFunc (.func f) first cap=>match cRds first.toList,cRds cap.toList with
  | some a,some b=>some (.mkfn f a b)
  | _,_=>none
 | .slice t x lo hi none=>match cRd x,optRd lo,optRd hi with
  | some r,some l,some h=>if isStr P t then some (.subs r l h) else match sliceOf P t with
   | some e=>match tsz P e with
    | some sz=>some (.sls sz r l h)
    | none=>none
   | none=>none
  | _,_,_=>none
 | .slice t x lo hi (some m)=>match cRd x,optRd lo,optRd hi,cRd m with
  | some r,some l,some (some h),some q=>match sliceOf P t with
   | some e=>match tsz P e with
    | some sz=>some (.sls3 sz r l (some h) (some q))
    | none=>none
   | none=>none
  | _,_,_,_=>none
 | .makeSlice t n m=>match cRd n,cRd m with
  | some r,some q=>match sliceOf P t with
   | some e=>match tsz P e,tbytes P e,tz P e with
    | some sz,some by_,some z=>if dr then none else some (.mkm (tag P e == some true) sz by_ z r q)
    | _,_,_=>none
   | none=>none
  | _,_=>none
 | .fieldAddr t x k=>match structOf P t,cRd x with
  | some fs,some r=>match fs[k]? with
   | some f=>match tsz P f.type with
    | some (n + 1)=>some (.faddr f.offset r)
    | _=>none
   | none=>none
  | _,_=>none
 | .field t x k=>match structOf P t,cRd x with
  | some fs,some r=>match fs[k]? with
   | some f=>match tag P f.type,tsz P f.type with
    | some ag,some n=>some (.field ag f.offset n r)
    | _,_=>none
   | none=>none
  | _,_=>none
 | .indexAddr t x i=>match cRd x,cRd i with
  | some r,some q=>match sliceOf P t,arrayOf P t with
   | some e,_=>match tsz P e with
    | some sz=>some (.iaddr sz r q)
    | none=>none
   | none,some (len,e)=>match tsz P e with
    | some sz=>some (.iarr sz len r q)
    | none=>none
   | none,none=>none
  | _,_=>none
 | .index t x i=>match cRd x,cRd i with
  | some r,some q=>if isStr P t then some (.idxs r q) else match arrayOf P t with
   | some (len,e)=>match tsz P e,tag P e with
    | some sz,some ag=>some (.idxa ag sz len r q)
    | _,_=>none
   | none=>none
  | _,_=>none
 | .extract x k=>match cRd x with | some r=>some (.ext k r) | none=>none
 | .call { callee:=.builtin b,args,argTypes }=>match cRds args.toList with
  | some rs=>cBuiltin P imp.mu b argTypes.toList rs
  | none=>none
 | .call { callee:=.value f,args,.. }=>match cRd f,cRds args.toList with
  | some r,some rs=>some (match f with
   | .func g=>if imp.imp g || (!dr && imp.own g) then .call r rs else .pcall r rs
   | _=>if imp.mu && imp.imp 1000000 then .call r rs else .pcall r rs)
  | _,_=>none
 | _=>none
def Res (c : Cx) (w : World) (s : S) (K : D -> S -> Prop) (v : Value) (w' : World) : Prop :=
 ∃ d s' c',K d s' /\ s'.t = s.t /\ Rep c' d v /\ Inv c' w' s'.H /\ c.le c' /\ c'.T = s'.T /\ Below c.bb w w'
def CallPost (c : Cx) (w : World) (Q : Post) (e : Ending) (w' : World) : Prop :=
 ∃ v,e = .returned v /\ ∃ r H' T' c',Q r H' T' /\ Rep c' r v /\ Inv c' w' H' /\ c.le c' /\ c'.T = T' /\ Below c.bb w w'
class HasG (P : Program) where
 G : Cx -> World -> Prop
 mono : ∀ {c c' : Cx} {w w' : World},c.le c' -> Below c.bb w w' -> G c w -> G c' w'
def Snd (P : Program) [HasG P] : Pred:=fun f args H T Q=>∀ (c : Cx) (w : World) (vs : List Value),HasG.G P c w -> Inv c w H -> c.T = T -> Reps c args vs →
 ((callFunc f vs.toArray).run P w = .ok (.enter f vs.toArray) w /\ Calls P f vs.toArray w (CallPost c w Q)) ∨
 ∃ v w',(callFunc f vs.toArray).run P w = .ok (.value v) w' /\ CallPost c w Q (.returned v) w'
theorem Res.of_yld {c : Cx} {w : World} {s s' : S} {K : D -> S -> Prop} {d : D} {v : Value} {w' : World} (h : Yld c w s'.H s'.T d (.ok v w')) (hk : K d s') (ht : s'.t = s.t) : Res c w s K v w':=by
 obtain ⟨v',c',w'',e,h1,h2,h3,h4,h5⟩:=h
 injection e with e1 e2
 subst e1;subst e2
 exact ⟨d,s',c',hk,ht,h1,h2,h3,h4,h5⟩
theorem Yld.ok {c : Cx} {w : World} {H' : Hp} {T' : Tk} {d : D} {r : Result Value} (h : Yld c w H' T' d r) : ∃ v w',r = .ok v w':=let ⟨v,_,w',e,_⟩:=h;⟨v,w',e⟩
theorem Res.quiet {c : Cx} {w : World} {s : S} {a : Act} (hs : Sim c s a w) {K : D -> S -> Prop} {d : D} {v : Value} (hk : K d s) (hr : Rep c d v) : Res c w s K v w :=
 ⟨d,s,c,hk,rfl,hr,hs.inv,Cx.le.refl c,hs.T,Below.refl _ _⟩
end GP
namespace GP
open Go
variable {P : Program} {X : Pred} {imp : Hn} {dr : Bool} {j : Pl} {c : Cx} {s : S} {a : Act} {w : World} {K : D -> S -> Prop}
def OpGoes (P : Program) (o : Oper) (a : Act) (c : Cx) (w : World) (s : S) (K : D -> S -> Prop) : Prop :=
 (∃ v w',(execOp a.eval o).run P w = .ok (.value v) w' /\ Res c w s K v w') ∨
 (∃ w',(execOp a.eval o).run P w = .ok .skip w' /\ Res c w s K undef w') ∨
 (∃ f args,(execOp a.eval o).run P w = .ok (.enter f args) w /\ Calls P f args w (fun e w'=>∃ v,e = .returned v /\ Res c w s K v w'))
theorem goes_val {o : Oper} {m : Sem Value} (he : execOp a.eval o = do pure (.value (← m))) {v : Value} {w' : World} (hm : m.run P w = .ok v w') (hr : Res c w s K v w') : OpGoes P o a c w s K :=
 .inl ⟨v,w',by rw [he];simp [hm],hr⟩
theorem goes_quiet {o : Oper} {m : Sem Value} (hs : Sim c s a w) (he : execOp a.eval o = do pure (.value (← m))) {d : D} (hk : K d s) (h : ∃ u,m.run P w = .ok u w /\ Rep c d u) : OpGoes P o a c w s K:=by
 obtain ⟨u,h1,h2⟩:=h
 exact goes_val he h1 (.quiet hs hk h2)
theorem goes_yld {o : Oper} {m : Sem Value} (he : execOp a.eval o = do pure (.value (← m))) {d : D} {s' : S} (hk : K d s') (ht : s'.t = s.t) (h : Yld c w s'.H s'.T d (m.run P w)) : OpGoes P o a c w s K:=by
 obtain ⟨v,w',e⟩:=h.ok
 rw [e] at h
 exact goes_val he e (.of_yld h hk ht)
theorem K1_ok {o : Option D} (h : K1 K s o) : ∃ d,o = some d /\ K d s:=by
 cases o with
 | none=>exact h.elim
 | some d=>exact ⟨d,rfl,h⟩
theorem call_sound [HasG P] (hX : ∀ f args H T Q,X f args H T Q -> Snd P f args H T Q) {dst : Option Tmp} {f : Operand} {args : Array Operand} {ats : Array TypeId} {ty : TypeId} {pos : String} {after : Array Edge} {guard : Option (Nat × Bool)}
  (hG : HasG.G P c w) (hs : Sim c s a w) {r : Rd} {rs : List Rd} (hf : cRd f = some r) (hargs : cRds args.toList = some rs) {g : FuncId} {first cap : List D} (hr : s.ev r = .fn g first cap) {Q : Post}
  (hQ : X g (first ++ rs.map s.ev ++ cap) s.H s.T Q) (hK : ∀ d H T,Q d H T -> K d ⟨s.t,H,T⟩) :
  OpGoes P ⟨dst,.call { callee:=.value f,args,argTypes:=ats },ty,pos,after,guard⟩ a c w s K:=by
 have hrf:=cRd_rep hf hs.fr
 rw [hr] at hrf
 have hra:=cRds_rep hargs hs.fr
 generalize hv : a.eval f = vf at hrf
 cases hrf with
 | fn _ _ _ vp vq hp hq hpr hqr =>
  have hreps : Reps c (first ++ rs.map s.ev ++ cap) (vp ++ args.toList.map a.eval ++ vq):=(Reps.append ⟨hp,hpr⟩ hra).append ⟨hq,hqr⟩
  have hres : ∀ m,(execOp a.eval ⟨dst,.call { callee:=.value f,args,argTypes:=ats },ty,pos,after,guard⟩).run P w = m ↔ (callFunc g (vp ++ args.toList.map a.eval ++ vq).toArray).run P w = m:=by
   intro m
   have : (vp.toArray ++ args.map a.eval ++ vq.toArray) = (vp ++ args.toList.map a.eval ++ vq).toArray:=by
    apply Array.toList_inj.1;simp
   simp only [execOp,resolve,hv,Deferred.ofValue,pure_bind,invoke,this]
  have hpost : ∀ v w',CallPost c w Q (.returned v) w' -> Res c w s K v w':=by
   rintro v w' ⟨v',e,r',H',T',c',h1,h2,h3,h4,h5,h6⟩
   injection e with e;subst e
   exact ⟨r',⟨s.t,H',T'⟩,c',hK _ _ _ h1,rfl,h2,h3,h4,h5,h6⟩
  rcases hX _ _ _ _ _ hQ c w _ hG hs.inv hs.T hreps with ⟨h1,h2⟩ | ⟨v,w',h1,h2⟩
  ·refine .inr (.inr ⟨g,_,(hres _).2 h1,h2.mono ?_⟩)
   rintro e w' hp
   obtain ⟨v,rfl,_⟩:=id hp
   exact ⟨v,rfl,hpost v w' hp⟩
  ·exact .inl ⟨v,w',(hres _).2 h1,hpost v w' h2⟩
theorem parts_rep {place : Nat -> Option (Nat × Nat)} (hf : FR c s.t a) : ∀ {ps : List (Nat × Operand)} {l : List (Nat × Nat × Rd)},cParts place ps = some l -> (l.all fun p=>(s.ev p.2.2).okc) = true →
  PartsRep c place (l.map fun p=>(p.1,p.2.1,s.ev p.2.2)) (ps.map fun p=>(p.1,a.eval p.2))
 | [],l,h,_=>by simp [cParts] at h;subst h;exact .nil
 | (i,x) :: ps,l,h,hk=>by
  simp only [cParts] at h
  split at h
  ·rename_i off sz r rs h1 h2 h3
   injection h with h;subst h
   simp only [List.all_cons,Bool.and_eq_true] at hk
   exact .cons h1 (cRd_rep h2 hf) hk.1 (parts_rep hf h3 hk.2)
  ·cases h
theorem build_struct {t : TypeId} {fs : Array Field} {z r : List D} (ht : structOf P t = some fs) (hz : tz P t = some z) {ps : List (Nat × Value)} {l : List (Nat × Nat × D)} (hp : PartsRep c (fieldPlaces P fs) l ps)
  (hall : (List.range fs.size).all (fun i=>(fieldPlaces P fs i).isSome) = true) (ha : (l.all fun p=>p.2.2.cells.length == p.2.1) = true) (hr : fillD z (l.map fun p=>(p.1,p.2.2.cells)) = some r) :
  ∃ u,(Instr.build t ps.toArray).run P w = .ok u w /\ Rep c (.agg r) u:=by
 obtain ⟨zv,z1,z2⟩:=run_zero (P:=P) hz c
 obtain ⟨cs',h1,h2⟩:=fill_sound hp z2 ha hr
 have hm : ∀ l : List Field,(∀ f ∈ l,∃ n,tsz P f.type = some n) -> (l.mapM (fun f=>do pure (f.offset,← Go.sizeOf f.type) : Field -> Sem (Nat × Nat))).run P w = .ok (l.map fun f=>(f.offset,(tsz P f.type).getD 0)) w:=by
  intro l
  induction l with
  | nil=>intro _;simp
  | cons f l ih =>
   intro h
   obtain ⟨n,hn⟩:=h f (by simp)
   have ih':=ih (fun g hg=>h g (by simp [hg]))
   simp only [List.mapM_cons,Sem.run_bind,run_size hn,Result.andThen_ok,Sem.run_pure,ih',List.map_cons,hn,Option.getD_some]
 have hfs : ∀ f ∈ fs.toList,∃ n,tsz P f.type = some n:=by
  intro f hf
  obtain ⟨i,hi,rfl⟩:=List.getElem_of_mem hf
  have hi' : i < fs.size:=by simpa using hi
  have:=List.all_eq_true.1 hall i (by simpa using hi')
  simp only [fieldPlaces,Array.getElem?_eq_getElem hi'] at this
  have e : fs.toList[i] = fs[i]:=by simp
  rw [e]
  cases hn : tsz P (fs[i]).type with
  | none=>rw [hn] at this;cases this
  | some n=>exact ⟨n,rfl⟩
 have hplace : (fun i=>(fs.toList.map fun f=>(f.offset,(tsz P f.type).getD 0)).toArray[i]?) = fieldPlaces P fs:=by
  funext i
  simp only [fieldPlaces]
  rcases Nat.lt_or_ge i fs.size with hi | hi
  ·obtain ⟨n,hn⟩:=hfs fs[i] (by simp)
   simp [Array.getElem?_eq_getElem hi,hn]
  ·simp [Array.getElem?_eq_none hi]
 refine ⟨.agg cs',?_,Rep.agg _ _ h2.len h2.one h2.rep⟩
 have hm':=hm fs.toList hfs
 have : (fs.mapM (fun f=>do pure (f.offset,← Go.sizeOf f.type) : Field -> Sem (Nat × Nat))).run P w = .ok (fs.toList.map fun f=>(f.offset,(tsz P f.type).getD 0)).toArray w:=by
  rw [Array.mapM_eq_mapM_toList]
  rw [Sem.run_map]
  simp only [hm',Result.andThen_ok]
 simp only [Instr.build,Sem.run_bind,z1,Result.andThen_ok,run_underlying (structOf_eq ht),this]
 rw [hplace,h1]
 simp
theorem build_array {t e : TypeId} {len sz : Nat} {z r : List D} (ht : arrayOf P t = some (len,e)) (hsz : tsz P e = some sz) (hz : tz P t = some z) {ps : List (Nat × Value)} {l : List (Nat × Nat × D)} (hp : PartsRep c (fun i=>some (i * sz,sz)) l ps)
  (ha : (l.all fun p=>p.2.2.cells.length == p.2.1) = true) (hr : fillD z (l.map fun p=>(p.1,p.2.2.cells)) = some r) :
  ∃ u,(Instr.build t ps.toArray).run P w = .ok u w /\ Rep c (.agg r) u:=by
 obtain ⟨zv,z1,z2⟩:=run_zero (P:=P) hz c
 obtain ⟨cs',h1,h2⟩:=fill_sound hp z2 ha hr
 refine ⟨.agg cs',?_,Rep.agg _ _ h2.len h2.one h2.rep⟩
 simp only [Instr.build,Sem.run_bind,z1,Result.andThen_ok,run_underlying (arrayOf_eq ht),run_size hsz]
 rw [h1]
 simp
end GP
namespace GP
open Go
variable {P : Program} {X : Pred} {imp : Hn} {dr : Bool} {j : Pl} {c : Cx} {s : S} {a : Act} {w : World} {K : D -> S -> Prop}
theorem atK_ok {i : Nat} {z : List D} {o : Option Ob} (h : atK K s i z o) : o = some .hole /\ K (.ptr i 0) ⟨s.t,s.H.set i (.row z),s.T⟩:=by
 unfold atK at h
 split at h
 ·exact ⟨rfl,h⟩
 ·exact h.elim
theorem rawK_ok {i : Nat} {z : List D} {o : Option Ob} (h : rawK K s i z o) : o = some .hole /\ K (.ptr i 0) ⟨s.t,s.H.set i (.raw z),s.T⟩:=by
 unfold rawK at h
 split at h
 ·exact ⟨rfl,h⟩
 ·exact h.elim
theorem fillK_ok {i n : Nat} {a v : D} {o : Option Ob} (h : fillK K s i n a v o) : ∃ z,o = some (.raw z) /\ a = .ptr i 0 /\ z.length = n /\ v.okc = true /\ v.cells.length = n /\ K .top ⟨s.t,s.H.set i (.row v.cells),s.T⟩:=by
 unfold fillK at h
 split at h
 ·exact ⟨_,rfl,h⟩
 ·exact h.elim
theorem goes_push (hs : Sim c s a w) {o : Oper} {e : TypeId} {m : Sem Value} (he : execOp a.eval o = do pure (.value (← m))) {cs : List D} {vs : List Value} (hc : Cells c cs vs)
  (hm : m.run P w = .ok (.pointer (some ⟨w.heap.size,0,none⟩)) (w.alloc (.cells vs.toArray e))) (hk : K (.ptr s.H.length 0) ⟨s.t,s.H ++ [.row cs],s.T⟩) : OpGoes P o a c w s K:=by
 have:=new_row hs.inv (e:=e) hc (o:=s.H.length) (hs.inv.free _ (.inl (Nat.le_refl _))) (H':=s.H ++ [.row cs]) (push_at _ _) rfl (fun o h=>push_other _ _ o h) hs.T
 rw [<- hm] at this
 exact goes_yld he hk rfl this
theorem goes_set (hs : Sim c s a w) {o : Oper} {e : TypeId} {m : Sem Value} (he : execOp a.eval o = do pure (.value (← m))) {cs : List D} {vs : List Value} (hc : Cells c cs vs)
  (hm : m.run P w = .ok (.pointer (some ⟨w.heap.size,0,none⟩)) (w.alloc (.cells vs.toArray e))) {i : Nat} (hi : s.H[i]? = some .hole) {x0 : Ob} (hx0 : x0.cells? = some cs) (hk : K (.ptr i 0) ⟨s.t,s.H.set i x0,s.T⟩) : OpGoes P o a c w s K:=by
 have hlt : i < s.H.length:=by
  rcases Nat.lt_or_ge i s.H.length with h' | h'
  ·exact h'
  ·rw [List.getElem?_eq_none h'] at hi;cases hi
 have:=new_row hs.inv (e:=e) hc (o:=i) (hs.inv.free _ (.inr hi)) (H':=s.H.set i x0) (by simp [hlt]) hx0 (fun o h=>by rw [List.getElem?_set_ne (Ne.symm h)]) hs.T
 rw [<- hm] at this
 exact goes_yld he hk rfl this
theorem op_alloc {o : Oper} {t : TypeId} (ho : o.op = .alloc t) {oo : O} (h : cOp P imp dr j o.op = some oo) (hs : Sim c s a w) (hW : WO X oo s K) : OpGoes P o a c w s K:=by
 rw [ho] at h
 simp only [cOp] at h
 split at h
 ·rename_i z hz
  injection h with h;subst h
  obtain ⟨zv,z1,z2⟩:=run_zero (P:=P) hz c
  have he : execOp a.eval o = (do pure (.value (← Instr.alloc t true (.tuple #[])))):=by unfold execOp;simp only [ho]
  have hm : (Instr.alloc t true (.tuple #[])).run P w = .ok (.pointer (some ⟨w.heap.size,0,none⟩)) (w.alloc (.cells zv.cells.toList.toArray t)):=by
   simp [Instr.alloc,z1,newVar,newRow]
  cases dr
  ·exact goes_push hs he z2 hm hW
  ·simp only [if_true] at hW
   split at hW
   ·obtain ⟨h1,h2⟩:=rawK_ok hW.2
    exact goes_set hs he z2 hm h1 rfl h2
   ·obtain ⟨h1,h2⟩:=atK_ok hW
    exact goes_set hs he z2 hm h1 rfl h2
 ·cases h
theorem op_box {o : Oper} {t : TypeId} {x : Operand} (ho : o.op = .box t x) {oo : O} (h : cOp P imp dr j o.op = some oo) (hs : Sim c s a w) (hW : WO X oo s K) : OpGoes P o a c w s K:=by
 rw [ho] at h
 simp only [cOp] at h
 split at h
 ·rename_i r hr
  injection h with h;subst h
  have hrep:=cRd_rep hr hs.fr
  have he : execOp a.eval o = (do pure (.value (← Instr.box t (a.eval x)))):=by unfold execOp;simp only [ho]
  have hm : (Instr.box t (a.eval x)).run P w = .ok (.pointer (some ⟨w.heap.size,0,none⟩)) (w.alloc (.cells (a.eval x).cells.toList.toArray t)):=by
   simp [Instr.box,newVar,newRow]
  cases dr
  ·obtain ⟨hk,hW⟩:=hW
   exact goes_push hs he (hrep.cells hk) hm hW
  ·obtain ⟨hk,hW⟩:=hW
   obtain ⟨h1,h2⟩:=atK_ok hW
   exact goes_set hs he (hrep.cells hk) hm h1 rfl h2
 ·cases h
theorem op_bsl {o : Oper} {t : TypeId} {n : Nat} {ps : Array (Nat × Operand)} (ho : o.op = .buildSlice t n ps) {oo : O} (h : cOp P imp dr j o.op = some oo) (hs : Sim c s a w) (hW : WO X oo s K) : OpGoes P o a c w s K:=by
 rw [ho] at h
 simp only [cOp] at h
 split at h
 ·rename_i e ht
  split at h
  ·rename_i sz rs hsz hrs
   split at h
   ·rename_i hc
    simp only [Bool.and_eq_true,decide_eq_true_eq] at hc
    obtain ⟨⟨⟨hidx,hz⟩,hsmall⟩,hn⟩:=hc
    injection h with h
    have hreps:=cRds_rep hrs hs.fr
    have hlen : ps.toList.length = n:=by
     simp only [idxs?,beq_iff_eq] at hidx
     have:=congrArg List.length hidx
     simpa using this
    have hrl : rs.length = n:=by have:=hreps.len;simp at this;rw [<- this];simpa using hlen
    have hparts : (ps.map fun (i,x)=>(i,a.eval x)) = (((ps.toList.map (·.2)).map a.eval).zipIdx 0 |>.map fun p=>(p.2,p.1)).toArray:=by
     apply Array.toList_inj.1
     simp only [Array.toList_map]
     simp only [idxs?,beq_iff_eq] at hidx
     apply List.ext_getElem
     ·simp
     ·intro i h1 h2
      have hi : i < ps.toList.length:=by simpa using h1
      have : (ps.toList.map (·.1))[i]'(by simpa using hi) = i:=by simp only [hidx];simp
      simp only [List.getElem_map] at this
      have this : ps[i].1 = i:=by simpa using this
      simp [this]
    have he : execOp a.eval o = (do pure (.value (← Instr.buildSlice t n (((ps.toList.map (·.2)).map a.eval).zipIdx 0 |>.map fun p=>(p.2,p.1)).toArray))):=by
     unfold execOp;simp only [ho,hparts]
    have key : ∀ (hf : (rs.map s.ev).all (fit sz) = true),(Instr.buildSlice t n (((ps.toList.map (·.2)).map a.eval).zipIdx 0 |>.map fun p=>(p.2,p.1)).toArray).run P w =
      .ok (.slice (some ⟨w.heap.size,0,none⟩) n n) (w.alloc (.cells (((ps.toList.map (·.2)).map a.eval).map fun v=>v.cells.toList).flatten.toArray e)) /\ Elems c sz (rs.map s.ev) (((ps.toList.map (·.2)).map a.eval).map fun v=>v.cells.toList):=by
     intro hf
     have hel:=hreps.elems hf
     have hvl : ((ps.toList.map (·.2)).map a.eval).length = n:=by simpa using hlen
     have:=run_bsl (P:=P) (w:=w) ht hsz hz ((ps.toList.map (·.2)).map a.eval) (fun v hv=>by
      have:=hel.sz' v.cells.toList (List.mem_map.2 ⟨v,hv,rfl⟩)
      simpa using this) (by rw [hvl];exact hsmall) c
     rw [hvl] at this
     exact ⟨this,hel⟩
    have hl62 : (rs.map s.ev).length < 2 ^ 62:=by simp only [List.length_map,hrl];omega
    have hxl : (rs.map s.ev).length = n:=by simp [hrl]
    cases hdr : (dr && !j.re)
    ·rw [hdr] at h
     simp only [Bool.false_eq_true,if_false] at h
     split at h
     ·subst h
      obtain ⟨hf,hW⟩:=hW
      obtain ⟨k1,k2⟩:=key hf
      have:=new_ms hs.inv [] e k2.cells (hs.inv.free s.H.length (.inl (Nat.le_refl _))) (H':=s.H ++ [.row (flatD (rs.map s.ev))]) (push_at _ _) (fun o' h=>push_other _ _ o' h) hs.T (ag:=tag P e == some true) (sz:=sz) (n:=n) (cap:=n) (rc:=n)
       (Nat.le_refl _) (Nat.le_refl _) (by rw [flat_len _ k2.sz',k2.len,hxl];simp)
      rw [List.append_nil,← k1] at this
      rw [hrl] at hW
      exact goes_yld he hW rfl this
     subst h
     obtain ⟨hf,hW⟩:=hW
     obtain ⟨k1,k2⟩:=key hf
     have:=fresh_tok hs.inv k2 e hl62 [] (0,0) (fun i _=>by simp) (cap:=n) (by rw [hxl];exact Nat.le_refl _) (by rw [flat_len _ k2.sz',k2.len,hxl];simp) (τ:=s.T.length) (T':=s.T ++ [some (rs.length,sz)])
      (by simp) (fun h=>by rw [hs.T] at h;omega) (fun j hj=>by
       rw [hs.T]
       rcases Nat.lt_or_ge j s.T.length with h' | h'
       ·rw [List.getElem?_append_left h']
       ·rw [List.getElem?_eq_none (by simp;omega),List.getElem?_eq_none h']) (by rw [hs.T];simp)
     rw [List.append_nil,hxl,← k1] at this
     exact goes_yld he hW rfl this
    ·rw [hdr] at h
     simp only [if_true] at h;subst h
     obtain ⟨d,hd,hW⟩:=K1_ok hW
     simp only [qv] at hd
     split at hd
     ·rename_i hf
      injection hd with hd;subst hd
      obtain ⟨k1,k2⟩:=key hf
      have:=fresh_slq hs.inv k2 e hl62 hs.T
      rw [hxl,← k1] at this
      exact goes_yld he hW rfl this
     ·cases hd
   ·cases h
  ·cases h
 ·cases h
theorem op_store {o : Oper} {t : TypeId} {x v : Operand} (ho : o.op = .store t x v) {oo : O} (h : cOp P imp dr j o.op = some oo) (hs : Sim c s a w) (hW : WO X oo s K) : OpGoes P o a c w s K:=by
 rw [ho] at h
 simp only [cOp] at h
 split at h
 ·rename_i n r q hn hr hq
  injection h with h
  split at h
  ·subst h
   obtain ⟨_,hW⟩:=hW
   change fillK K s _ n (s.ev r) (s.ev q) _ at hW
   obtain ⟨z,hz,ha,hzl,h1,h2,hk⟩:=fillK_ok hW
   obtain ⟨w',e1,e2,e3⟩:=store_any (P:=P) hs.inv hn (cRd_rep hr hs.fr) (cRd_rep hq hs.fr) ha hz rfl h1 h2 (by omega)
   rw [List.take_zero,List.nil_append,List.drop_eq_nil_of_le (by omega),List.append_nil] at e2
   refine .inr (.inl ⟨w',?_,⟨_,_,c,hk,rfl,Rep.top _,e2,Cx.le.refl c,hs.T,e3⟩⟩)
   unfold execOp
   simp [ho,e1]
  ·subst h
   change storeK n K s (s.ev r) (s.ev q) at hW
   unfold storeK at hW
   split at hW
   ·rename_i o' off hev
    split at hW
    ·rename_i cs hH
     obtain ⟨h1,h2,h3,hk⟩:=hW
     obtain ⟨w',e1,e2,e3⟩:=store_sound (P:=P) hs.inv hn (cRd_rep hr hs.fr) (cRd_rep hq hs.fr) hev hH h1 h2 h3
     refine .inr (.inl ⟨w',?_,⟨_,_,c,hk,rfl,Rep.top _,e2,Cx.le.refl c,hs.T,e3⟩⟩)
     unfold execOp
     simp [ho,e1]
    ·exact hW.elim
   ·exact hW.elim
 ·cases h
theorem op_build {o : Oper} {t : TypeId} {ps : Array (Nat × Operand)} (ho : o.op = .build t ps) {oo : O} (h : cOp P imp dr j o.op = some oo) (hs : Sim c s a w) (hW : WO X oo s K) : OpGoes P o a c w s K:=by
 rw [ho] at h
 have he : execOp a.eval o = (do pure (.value (← Instr.build t (ps.toList.map fun p=>(p.1,a.eval p.2)).toArray))):=by
  unfold execOp;simp only [ho]
  congr 2
  apply Array.toList_inj.1
  simp
 simp only [cOp] at h
 split at h
 ·rename_i z hz
  split at h
  ·rename_i fs _ ht
   split at h
   ·rename_i l hl
    split at h
    ·rename_i hall
     injection h with h;subst h
     obtain ⟨d,hd,hW⟩:=K1_ok hW
     simp only [qv,buildD] at hd
     split at hd
     ·rename_i hfit
      have hok : (l.all fun p=>(s.ev p.2.2).okc) = true:=List.all_eq_true.2 fun p hp=>by
       have:=List.all_eq_true.1 hfit _ (List.mem_map.2 ⟨p,hp,rfl⟩)
       simp only [fit,Bool.and_eq_true] at this
       exact this.1
      have hsz : ((l.map fun p=>(p.1,p.2.1,s.ev p.2.2)).all fun p=>p.2.2.cells.length == p.2.1) = true:=List.all_eq_true.2 fun p hp=>by
       have:=List.all_eq_true.1 hfit p hp
       simp only [fit,Bool.and_eq_true] at this
       exact this.2
      cases hfd : fillD z ((l.map fun p=>(p.1,p.2.1,s.ev p.2.2)).map fun p=>(p.1,p.2.2.cells)) with
      | none=>rw [hfd] at hd;cases hd
      | some r =>
       rw [hfd] at hd;injection hd with hd;subst hd
       exact goes_quiet hs he hW (build_struct (P:=P) (w:=w) ht hz (parts_rep hs.fr hl hok) hall hsz hfd)
     ·cases hd
    ·cases h
   ·cases h
  ·rename_i len e _ ht
   split at h
   ·rename_i sz hsz0
    split at h
    ·rename_i l hl
     injection h with h;subst h
     obtain ⟨d,hd,hW⟩:=K1_ok hW
     simp only [qv,buildD] at hd
     split at hd
     ·rename_i hfit
      have hok : (l.all fun p=>(s.ev p.2.2).okc) = true:=List.all_eq_true.2 fun p hp=>by
       have:=List.all_eq_true.1 hfit _ (List.mem_map.2 ⟨p,hp,rfl⟩)
       simp only [fit,Bool.and_eq_true] at this
       exact this.1
      have hsz : ((l.map fun p=>(p.1,p.2.1,s.ev p.2.2)).all fun p=>p.2.2.cells.length == p.2.1) = true:=List.all_eq_true.2 fun p hp=>by
       have:=List.all_eq_true.1 hfit p hp
       simp only [fit,Bool.and_eq_true] at this
       exact this.2
      cases hfd : fillD z ((l.map fun p=>(p.1,p.2.1,s.ev p.2.2)).map fun p=>(p.1,p.2.2.cells)) with
      | none=>rw [hfd] at hd;cases hd
      | some r =>
       rw [hfd] at hd;injection hd with hd;subst hd
       exact goes_quiet hs he hW (build_array (P:=P) (w:=w) ht hsz0 hz (parts_rep hs.fr hl hok) hsz hfd)
     ·cases hd
    ·cases h
   ·cases h
  ·cases h
 ·cases h
theorem op_bin {o : Oper} {op : BinOp} {t t' : TypeId} {x y : Operand} (ho : o.op = .binOp op t x y t') {oo : O} (h : cOp P imp dr j o.op = some oo) (hs : Sim c s a w) (hW : WO X oo s K) : OpGoes P o a c w s K:=by
 rw [ho] at h
 have he : execOp a.eval o = (do pure (.value (← (do eqGuard op t x y (a.eval x) (a.eval y);Go.binOp op t (a.eval x) (a.eval y) : Sem Value)))):=by unfold execOp;simp only [ho]
 simp only [cOp] at h
 split at h
 ·rename_i r q hr hq
  have hxr:=cRd_rep hr hs.fr
  have hyr:=cRd_rep hq hs.fr
  have plain : ∀ oo',some (O.bin op r q) = some oo' -> WO X oo' s K -> OpGoes P o a c w s K:=by
   intro oo' h' hW'
   injection h' with h';subst h'
   obtain ⟨d,hd,hW'⟩:=K1_ok hW'
   exact goes_quiet hs he hW' (bin_sound hxr hyr hd)
  split at h
  ·rename_i hop
   have hneg : op = (if (op == BinOp.neq) = true then BinOp.neq else .eql):=by
    simp only [Bool.or_eq_true,beq_iff_eq] at hop
    rcases hop with h | h <;> subst h <;> rfl
   split at h
   ·rename_i ks hks
    injection h with h;subst h
    obtain ⟨d,hd,hW⟩:=K1_ok hW
    simp only [qv] at hd
    unfold eqaD at hd
    split at hd
    ·rename_i xs ys e1 e2
     split at hd
     ·rename_i hk
      cases hb : eqCells xs ys with
      | none=>rw [hb] at hd;cases hd
      | some b =>
       rw [hb] at hd;injection hd with hd;subst hd
       refine goes_quiet hs he hW ⟨_,?_,Rep.bool _⟩
       have:=eqa_sound (P:=P) (w:=w) hks hxr hyr e1 e2 hk hb (op == .neq) x y
       rw [<- hneg] at this
       exact this
     ·cases hd
    ·cases hd
   ·split at h
    ·rename_i k hk
     split at h
     ·rename_i hc
      injection h with h;subst h
      obtain ⟨d,hd,hW⟩:=K1_ok hW
      simp only [qv] at hd
      cases hb : eq1D k (s.ev r) (s.ev q) with
      | none=>rw [hb] at hd;cases hd
      | some b =>
       rw [hb] at hd;injection hd with hd;subst hd
       refine goes_quiet hs he hW ⟨_,?_,Rep.bool _⟩
       have:=eq1_sound (P:=P) (w:=w) hk hxr hyr hb (op == .neq) x y (fun e=>by subst e;simpa using hc)
       rw [<- hneg] at this
       exact this
     ·cases h
    ·exact plain oo h hW
  ·exact plain oo h hW
 ·cases h
theorem op_conv {o : Oper} {src dst : TypeId} {x : Operand} (ho : o.op = .convert src dst x) {oo : O} (h : cOp P imp dr j o.op = some oo) (hs : Sim c s a w) (hW : WO X oo s K) : OpGoes P o a c w s K:=by
 rw [ho] at h
 have he : execOp a.eval o = (do pure (.value (← Go.convert src dst (a.eval x)))):=by unfold execOp;simp only [ho]
 simp only [cOp] at h
 split at h
 ·rename_i r hr
  have hxr:=cRd_rep hr hs.fr
  unfold cConv at h
  split at h
  ·rename_i k hk
   split at h
   ·rename_i hsrc
    injection h with h;subst h
    obtain ⟨d,hd,hW⟩:=K1_ok hW
    simp only [qv] at hd
    split at hd
    ·rename_i k' n hev
     injection hd with hd;subst hd
     rw [hev] at hxr
     generalize a.eval x = v at *
     cases hxr
     exact goes_quiet hs he hW ⟨_,conv_sound hsrc (intOf_ok hk),Rep.int _ _⟩
    ·cases hd
   ·cases h
  ·split at h
   ·rename_i hds
    split at h
    ·rename_i hss
     injection h with h;subst h
     obtain ⟨d,hd,hW⟩:=K1_ok hW
     simp only [qv] at hd
     split at hd
     ·rename_i l hev
      injection hd with hd;subst hd
      rw [hev] at hxr
      generalize a.eval x = v at *
      refine goes_quiet hs he hW ⟨v,?_,hxr⟩
      cases hxr
      simp [Go.convert,run_underlying (isStr_ok hss),run_underlying (isStr_ok hds)]
     ·cases hd
    ·split at h
     ·rename_i e hsl
      split at h
      ·rename_i h8
       injection h with h
       split at h
       ·subst h
        obtain ⟨d,hd,hW⟩:=K1_ok hW
        exact goes_quiet hs he hW (b2m_sound (sliceOf_eq hsl) (isInt8_ok h8) (isStr_ok hds) hs.inv hxr hd)
       ·subst h
        obtain ⟨d,hd,hW⟩:=K1_ok hW
        exact goes_quiet hs he hW (b2s_sound (sliceOf_eq hsl) (isInt8_ok h8) (isStr_ok hds) hs.inv hxr hd)
      ·cases h
     ·cases h
   ·split at h
    ·rename_i hss
     split at h
     ·rename_i e hsl
      split at h
      ·rename_i h8
       cases dr
       ·simp only [Bool.false_eq_true,if_false] at h
        injection h with h;subst h
        change s2bK K s (s.ev r) at hW
        unfold s2bK at hW
        split at hW
        ·rename_i l hev
         rw [hev] at hxr
         exact goes_yld he hW rfl (s2b_sound (P:=P) hs.inv (isStr_ok hss) (sliceOf_eq hsl) (isInt8_ok h8) hxr hs.T)
        ·exact hW.elim
       ·simp only [if_true] at h
        injection h with h;subst h
        obtain ⟨d,hd,hW⟩:=K1_ok hW
        simp only [qv] at hd
        split at hd
        ·rename_i l hev
         injection hd with hd;subst hd
         rw [hev] at hxr
         exact goes_yld he hW rfl (s2bq_sound (P:=P) hs.inv (isStr_ok hss) (sliceOf_eq hsl) (isInt8_ok h8) hxr hs.T)
        ·cases hd
      ·cases h
     ·cases h
    ·cases h
 ·cases h
theorem op_slice {o : Oper} {t : TypeId} {x : Operand} {lo hi mx : Option Operand} (ho : o.op = .slice t x lo hi mx) {oo : O} (h : cOp P imp dr j o.op = some oo) (hs : Sim c s a w) (hW : WO X oo s K) : OpGoes P o a c w s K:=by
 rw [ho] at h
 cases mx with
 | some m =>
  have he : execOp a.eval o = (do pure (.value (← Instr.sliceAt t (a.eval x) (lo.map a.eval) (hi.map a.eval) ((some m).map a.eval)))):=by unfold execOp;simp only [ho]
  simp only [cOp] at h
  split at h
  ·rename_i r l p q hr hl hp hq
   split at h
   ·rename_i e hsl
    split at h
    ·rename_i sz hsz
     injection h with h;subst h
     obtain ⟨d,hd,hW⟩:=K1_ok hW
     simp only [qv] at hd
     split at hd
     ·rename_i n hn
      have hhi : ∃ r x,some p = some r /\ hi = some x /\ cRd x = some r:=by
       rcases optRd_ok hp with ⟨e,_⟩ | ⟨r',x',e1,e2,e3⟩
       ·cases e
       ·exact ⟨r',x',e1,e2,e3⟩
      exact goes_quiet hs he hW (sls3_sound hsl hsz hs.fr (optRd_ok hl) hhi ⟨q,m,rfl,rfl,hq⟩ (cRd_rep hr hs.fr) hn hd)
     ·cases hd
    ·cases h
   ·cases h
  ·cases h
 | none =>
  have he : execOp a.eval o = (do pure (.value (← Instr.sliceAt t (a.eval x) (lo.map a.eval) (hi.map a.eval) none))):=by unfold execOp;simp only [ho];rfl
  simp only [cOp] at h
  split at h
  ·rename_i r l q hr hl hq
   have hxr:=cRd_rep hr hs.fr
   split at h
   ·rename_i hst
    injection h with h;subst h
    obtain ⟨d,hd,hW⟩:=K1_ok hW
    simp only [qv] at hd
    split at hd
    ·rename_i n hn
     exact goes_quiet hs he hW (subs_sound (isStr_ok hst) hs.fr (optRd_ok hl) (optRd_ok hq) hxr hn hd)
    ·cases hd
   ·split at h
    ·rename_i e hsl
     split at h
     ·rename_i sz hsz
      injection h with h;subst h
      obtain ⟨d,hd,hW⟩:=K1_ok hW
      simp only [qv] at hd
      split at hd
      ·rename_i n hn
       exact goes_quiet hs he hW (sls_sound hsl hsz hs.fr (optRd_ok hl) (optRd_ok hq) hxr hn hd)
      ·cases hd
     ·cases h
    ·cases h
  ·cases h
theorem op_make {o : Oper} {t : TypeId} {x y : Operand} (ho : o.op = .makeSlice t x y) {oo : O} (h : cOp P imp dr j o.op = some oo) (hs : Sim c s a w) (hW : WO X oo s K) : OpGoes P o a c w s K:=by
 rw [ho] at h
 have he : execOp a.eval o = (do pure (.value (← Instr.makeSlice t (a.eval x) (a.eval y)))):=by unfold execOp;simp only [ho]
 simp only [cOp] at h
 split at h
 ·rename_i r q hr hq
  split at h
  ·rename_i e hsl
   split at h
   ·rename_i sz by_ z hsz hby hz
    split at h
    ·cases h
    ·injection h with h;subst h
     obtain ⟨d,s',hk,ht,hy⟩:=mkm_sound (P:=P) hs.inv hsl hsz hby hz (cRd_rep hr hs.fr) (cRd_rep hq hs.fr) rfl hs.T hW
     exact goes_yld he hk ht hy
   ·cases h
  ·cases h
 ·cases h
theorem op_index {o : Oper} {t : TypeId} {x i : Operand} (ho : o.op = .index t x i) {oo : O} (h : cOp P imp dr j o.op = some oo) (hs : Sim c s a w) (hW : WO X oo s K) : OpGoes P o a c w s K:=by
 rw [ho] at h
 have he : execOp a.eval o = (do pure (.value (← Instr.index t (a.eval x) (a.eval i)))):=by unfold execOp;simp only [ho]
 simp only [cOp] at h
 split at h
 ·rename_i r q hr hq
  have hxr:=cRd_rep hr hs.fr
  have hir:=cRd_rep hq hs.fr
  split at h
  ·rename_i hst
   injection h with h;subst h
   obtain ⟨d,hd,hW⟩:=K1_ok hW
   exact goes_quiet hs he hW (idxs_sound (isStr_ok hst) hxr hir hd)
  ·split at h
   ·rename_i len e ha
    split at h
    ·rename_i sz ag hsz hag
     injection h with h;subst h
     obtain ⟨d,hd,hW⟩:=K1_ok hW
     exact goes_quiet hs he hW (idxa_sound ha hsz hag hxr hir hd)
    ·cases h
   ·cases h
 ·cases h
theorem op_iaddr {o : Oper} {t : TypeId} {x i : Operand} (ho : o.op = .indexAddr t x i) {oo : O} (h : cOp P imp dr j o.op = some oo) (hs : Sim c s a w) (hW : WO X oo s K) : OpGoes P o a c w s K:=by
 rw [ho] at h
 have he : execOp a.eval o = (do pure (.value (← Instr.indexAt t (a.eval x) (a.eval i)))):=by unfold execOp;simp only [ho]
 simp only [cOp] at h
 split at h
 ·rename_i r q hr hq
  have hxr:=cRd_rep hr hs.fr
  have hir:=cRd_rep hq hs.fr
  split at h
  ·rename_i e _ hsl
   split at h
   ·rename_i sz hsz
    injection h with h;subst h
    obtain ⟨d,hd,hW⟩:=K1_ok hW
    exact goes_quiet hs he hW (iaddr_sound hsl hsz hxr hir hd)
   ·cases h
  ·rename_i len e _ ha
   split at h
   ·rename_i sz hsz
    injection h with h;subst h
    obtain ⟨d,hd,hW⟩:=K1_ok hW
    exact goes_quiet hs he hW (iarr_sound ha hsz hxr hir hd)
   ·cases h
  ·cases h
 ·cases h
theorem op_faddr {o : Oper} {t : TypeId} {x : Operand} {k : Nat} (ho : o.op = .fieldAddr t x k) {oo : O} (h : cOp P imp dr j o.op = some oo) (hs : Sim c s a w) (hW : WO X oo s K) : OpGoes P o a c w s K:=by
 rw [ho] at h
 have he : execOp a.eval o = (do pure (.value (← Instr.fieldAt t (a.eval x) k))):=by unfold execOp;simp only [ho]
 simp only [cOp] at h
 split at h
 ·rename_i fs r ht hr
  have hxr:=cRd_rep hr hs.fr
  split at h
  ·rename_i f hf
   split at h
   ·rename_i n hn
    injection h with h;subst h
    obtain ⟨d,hd,hW⟩:=K1_ok hW
    exact goes_quiet hs he hW (faddr_sound ht hf hn (by omega) hxr hd)
   ·cases h
  ·cases h
 ·cases h
theorem op_field {o : Oper} {t : TypeId} {x : Operand} {k : Nat} (ho : o.op = .field t x k) {oo : O} (h : cOp P imp dr j o.op = some oo) (hs : Sim c s a w) (hW : WO X oo s K) : OpGoes P o a c w s K:=by
 rw [ho] at h
 have he : execOp a.eval o = (do pure (.value (← Instr.field t (a.eval x) k))):=by unfold execOp;simp only [ho]
 simp only [cOp] at h
 split at h
 ·rename_i fs r ht hr
  have hxr:=cRd_rep hr hs.fr
  split at h
  ·rename_i f hf
   split at h
   ·rename_i ag n hag hn
    injection h with h;subst h
    obtain ⟨d,hd,hW⟩:=K1_ok hW
    exact goes_quiet hs he hW (field_sound ht hf hag hn hxr hd)
   ·cases h
  ·cases h
 ·cases h
theorem op_load {o : Oper} {t : TypeId} {x : Operand} (ho : o.op = .load t x) {oo : O} (h : cOp P imp dr j o.op = some oo) (hs : Sim c s a w) (hW : WO X oo s K) : OpGoes P o a c w s K:=by
 rw [ho] at h
 have he : execOp a.eval o = (do pure (.value (← Instr.loadAt t (a.eval x)))):=by unfold execOp;simp only [ho]
 simp only [cOp] at h
 split at h
 ·rename_i ag n r hag hn hr
  injection h with h;subst h
  obtain ⟨d,hd,hW⟩:=K1_ok hW
  exact goes_quiet hs he hW (load_sound hs.inv (cRd_rep hr hs.fr) hag hn hd)
 ·cases h
theorem execOp_b (ρ : Operand -> Value) (dst : Option Tmp) (b : Builtin) (xs : Array Operand) (ats : Array TypeId) (ty : TypeId) (pos : String) (after : Array Edge) (guard : Option (Nat × Bool)) :
  execOp ρ { dst,op:=.call { callee:=.builtin b,args:=xs,argTypes:=ats },type:=ty,pos,after,guard } = Go.builtin b ats ty (xs.map fun | .const _=>true | _=>false) (xs.map ρ):=rfl
theorem b_len (ats : Array TypeId) (ty : TypeId) (cs : Array Bool) (args : Array Value) : Go.builtin .len ats ty cs args = (do pure (.value (← Builtin.len_ ats ty args))):=rfl
theorem b_min (ats : Array TypeId) (ty : TypeId) (cs : Array Bool) (args : Array Value) : Go.builtin .min ats ty cs args = (do pure (.value (← Builtin.min_ ats ty args))):=rfl
theorem b_max (ats : Array TypeId) (ty : TypeId) (cs : Array Bool) (args : Array Value) : Go.builtin .max ats ty cs args = (do pure (.value (← Builtin.max_ ats ty args))):=rfl
theorem b_append (ats : Array TypeId) (ty : TypeId) (cs : Array Bool) (args : Array Value) : Go.builtin .append ats ty cs args = (do pure (.value (← Builtin.append_ ats ty args))):=rfl
theorem b_copy (ats : Array TypeId) (ty : TypeId) (cs : Array Bool) (args : Array Value) : Go.builtin .copy ats ty cs args = (do pure (.value (← Builtin.copy_ ats ty args))):=rfl
theorem b_clear (ats : Array TypeId) (ty : TypeId) (cs : Array Bool) (args : Array Value) : Go.builtin .clear ats ty cs args = (do pure (.value (← Builtin.clear_ ats ty args))):=rfl
theorem two_args {args : Array Operand} {x y : Rd} (hreps : Reps c ([x,y].map s.ev) (args.toList.map a.eval)) : ∃ v u,args.map a.eval = #[v,u] /\ Rep c (s.ev x) v /\ Rep c (s.ev y) u:=by
 have hl:=hreps.len
 simp at hl
 obtain ⟨v,u,hv⟩ : ∃ v u,args.toList = [v,u]:=by
  have hl' : args.toList.length = 2:=by simpa using hl
  match h : args.toList,hl' with
  | [v,u],_=>exact ⟨v,u,rfl⟩
 have h0:=hreps.rep 0 (by simp) (by simp [hv])
 have h1:=hreps.rep 1 (by simp) (by simp [hv])
 exact ⟨a.eval v,a.eval u,by apply Array.toList_inj.1;simp [hv],by simpa [hv] using h0,by simpa [hv] using h1⟩
theorem op_builtin {o : Oper} {b : Builtin} {args : Array Operand} {ats : Array TypeId} (ho : o.op = .call { callee:=.builtin b,args,argTypes:=ats }) {oo : O} (h : cOp P imp dr j o.op = some oo) (hs : Sim c s a w) (hW : WO X oo s K) : OpGoes P o a c w s K:=by
 rw [ho] at h
 obtain ⟨dst,op,ty,pos,after,guard⟩:=o
 simp only at ho
 subst ho
 have he:=execOp_b a.eval dst b args ats ty pos after guard
 simp only [cOp] at h
 split at h
 ·rename_i rs hrs
  have hreps:=cRds_rep hrs hs.fr
  unfold cBuiltin at h
  split at h
  ·-- len
   rename_i t x hats
   have hargs : ∃ v,args.map a.eval = #[v] /\ Rep c (s.ev x) v:=by
    have hl:=hreps.len
    simp at hl
    obtain ⟨v,hv⟩ : ∃ v,args.toList = [v]:=List.length_eq_one_iff.1 (by simpa using hl)
    have:=hreps.rep 0 (by simp) (by simp [hv])
    refine ⟨a.eval v,by apply Array.toList_inj.1;simp [hv],by simpa [hv] using this⟩
   obtain ⟨v,hv,hrep⟩:=hargs
   have hat : ats = #[t]:=by apply Array.toList_inj.1;simpa using hats
   subst hat
   rw [hv,b_len] at he
   split at h
   ·rename_i hst
    injection h with h;subst h
    obtain ⟨d,hd,hW⟩:=K1_ok hW
    simp only [qv] at hd
    cases hn : strLen (s.ev x) with
    | none=>rw [hn] at hd;cases hd
    | some n =>
     rw [hn] at hd;injection hd with hd;subst hd
     exact goes_quiet hs he hW ⟨_,lens_sound (isStr_ok hst) hrep hn ty,Rep.int _ _⟩
   ·split at h
    ·rename_i hsl
     obtain ⟨e,hsl⟩:=Option.isSome_iff_exists.1 hsl
     injection h with h;subst h
     obtain ⟨d,hd,hW⟩:=K1_ok hW
     simp only [qv] at hd
     cases hn : lenD (s.ev x) with
     | none=>rw [hn] at hd;cases hd
     | some n =>
      rw [hn] at hd;injection hd with hd;subst hd
      exact goes_quiet hs he hW ⟨_,len_sound hsl hrep hn ty,Rep.int _ _⟩
    ·cases h
  ·rename_i x y
   obtain ⟨v,u,hv,hrep,hrep'⟩:=two_args hreps
   rw [hv,b_min] at he
   injection h with h;subst h
   obtain ⟨d,hd,hW⟩:=K1_ok hW
   exact goes_quiet hs he hW (mn_sound hrep hrep' hd)
  ·rename_i x y
   obtain ⟨v,u,hv,hrep,hrep'⟩:=two_args hreps
   rw [hv,b_max] at he
   injection h with h;subst h
   obtain ⟨d,hd,hW⟩:=K1_ok hW
   exact goes_quiet hs he hW (mx_sound hrep hrep' hd)
  ·rename_i st xt x y hats
   obtain ⟨v,u,hv,hrep,hrep'⟩:=two_args hreps
   rw [hv,b_append] at he
   have hat : ats = #[st,xt]:=by apply Array.toList_inj.1;simpa using hats
   subst hat
   split at h
   ·rename_i e hsl
    split at h
    ·rename_i sz by_ z hsz hby hz
     split at h
     ·rename_i hc
      simp only [Bool.and_eq_true,beq_iff_eq,Bool.or_eq_true,Bool.not_eq_true'] at hc
      obtain ⟨⟨h1,h2⟩,h3⟩:=hc
      injection h with h
      have hstr : ∀ l,s.ev y = .str l -> isStr P xt = true -> sz = 1:=by
       intro l hl hst
       rcases h3 with h3 | h3
       ·rw [hst] at h3;cases h3
       ·exact h3
      split at h
      ·subst h
       obtain ⟨d,s',hk,ht,hy⟩:=appm_sound (P:=P) hs.inv hsl h1 hsz hby hz h2 ty hrep hrep' hstr rfl hs.T _ hW
       exact goes_yld he hk ht hy
      subst h
      obtain ⟨d,s',hk,ht,hy⟩:=app_sound (P:=P) hs.inv hsl h1 hsz hby hz h2 ty hrep hrep' hstr rfl hs.T hW
      exact goes_yld he hk ht hy
     ·cases h
    ·cases h
   ·cases h
  ·rename_i dt st x y hats
   obtain ⟨v,u,hv,hrep,hrep'⟩:=two_args hreps
   rw [hv,b_copy] at he
   have hat : ats = #[dt,st]:=by apply Array.toList_inj.1;simpa using hats
   subst hat
   split at h
   ·rename_i e hsl
    split at h
    ·rename_i sz hsz
     injection h with h;subst h
     obtain ⟨d,s',hk,ht,hy⟩:=copy_sound (P:=P) (st:=st) hs.inv hsl hsz ty hrep hrep' rfl hs.T hW
     exact goes_yld he hk ht hy
    ·cases h
   ·cases h
  ·rename_i t x hats
   have hargs : ∃ v,args.map a.eval = #[v] /\ Rep c (s.ev x) v:=by
    have hl:=hreps.len
    simp at hl
    obtain ⟨v,hv⟩ : ∃ v,args.toList = [v]:=List.length_eq_one_iff.1 (by simpa using hl)
    have:=hreps.rep 0 (by simp) (by simp [hv])
    refine ⟨a.eval v,by apply Array.toList_inj.1;simp [hv],by simpa [hv] using this⟩
   obtain ⟨v,hv,hrep⟩:=hargs
   have hat : ats = #[t]:=by apply Array.toList_inj.1;simpa using hats
   subst hat
   rw [hv,b_clear] at he
   split at h
   ·rename_i e hsl
    split at h
    ·rename_i z hz
     injection h with h;subst h
     obtain ⟨d,s',hk,ht,hy⟩:=clr_sound (P:=P) hs.inv hsl hz ty hrep rfl hs.T hW
     exact goes_yld he hk ht hy
    ·cases h
   ·cases h
  ·cases h
 ·cases h
end GP
namespace GP
open Go
variable {P : Program} {X : Pred} {imp : Hn} {dr : Bool} {j : Pl} {c : Cx} {s : S} {a : Act} {w : World} {K : D -> S -> Prop}
theorem op_sound [HasG P] (hX : ∀ f args H T Q,X f args H T Q -> Snd P f args H T Q) {o : Oper} {oo : O} (h : cOp P imp dr j o.op = some oo) (hG : HasG.G P c w) (hs : Sim c s a w) (hW : WO X oo s K) : OpGoes P o a c w s K:=by
 cases ho : o.op with
 | move x =>
  have h':=h
  rw [ho] at h'
  simp only [cOp] at h'
  split at h'
  ·rename_i r hr
   injection h' with h';subst h'
   change K (s.ev r) s at hW
   refine .inl ⟨a.eval x,w,?_,.quiet hs hW (cRd_rep hr hs.fr)⟩
   unfold execOp;simp only [ho];rfl
  ·cases h'
 | assign x =>
  have h':=h
  rw [ho] at h'
  simp only [cOp] at h'
  split at h'
  ·rename_i r hr
   injection h' with h';subst h'
   change K (s.ev r) s at hW
   refine .inl ⟨a.eval x,w,?_,.quiet hs hW (cRd_rep hr hs.fr)⟩
   unfold execOp;simp only [ho];rfl
  ·cases h'
 | pick x y z =>
  have h':=h
  rw [ho] at h'
  simp only [cOp] at h'
  split at h'
  ·rename_i r q p hr hq hp
   injection h' with h';subst h'
   obtain ⟨d,hd,hW⟩:=K1_ok hW
   simp only [qv] at hd
   split at hd
   ·rename_i t hev
    injection hd with hd;subst hd
    have h1:=cRd_rep hr hs.fr
    rw [hev] at h1
    have h2:=cRd_rep hq hs.fr
    have h3:=cRd_rep hp hs.fr
    have hb : a.eval x = .bool t:=by
     generalize a.eval x = v at h1
     cases h1;rfl
    refine .inl ⟨if t then a.eval y else a.eval z,w,?_,.quiet hs hW (by cases t;exact h3;exact h2)⟩
    unfold execOp;simp only [ho,hb];simp [asBool]
   ·cases hd
  ·cases h'
 | alloc t=>exact op_alloc ho h hs hW
 | box t x=>exact op_box ho h hs hW
 | build t ps=>exact op_build ho h hs hW
 | buildSlice t n ps=>exact op_bsl ho h hs hW
 | load t x=>exact op_load ho h hs hW
 | store t x v=>exact op_store ho h hs hW
 | nilCheck x =>
  have h':=h
  rw [ho] at h'
  simp only [cOp] at h'
  split at h'
  ·rename_i r hr
   injection h' with h';subst h'
   obtain ⟨d,hd,hW⟩:=K1_ok hW
   have h1:=cRd_rep hr hs.fr
   have key : ∀ v,a.eval x = v -> Rep c (s.ev r) v -> (execOp a.eval o).run P w = .ok (.value v) w /\ d = s.ev r:=by
    intro v hv hrep
    have hd' : nilcD (s.ev r) = some d:=hd
    generalize s.ev r = e at *
    cases hrep <;> simp [nilcD] at hd'
    all_goals
     refine ⟨?_,hd'.symm⟩
     unfold execOp
     simp only [ho,hv]
     rfl
   obtain ⟨k1,k2⟩:=key _ rfl h1
   exact .inl ⟨_,w,k1,.quiet hs hW (by rw [k2];exact h1)⟩
  ·cases h'
 | binOp op t x y t'=>exact op_bin ho h hs hW
 | unOp op t x =>
  have h':=h
  rw [ho] at h'
  simp only [cOp] at h'
  split at h'
  ·rename_i r hr
   injection h' with h';subst h'
   obtain ⟨d,hd,hW⟩:=K1_ok hW
   have he : execOp a.eval o = (do pure (.value (← Op.unary op (a.eval x)))):=by unfold execOp;simp only [ho]
   exact goes_quiet hs he hW (un_sound (cRd_rep hr hs.fr) hd)
  ·cases h'
 | convert src dst x=>exact op_conv ho h hs hW
 | makeFunc fn first cap =>
  have h':=h
  rw [ho] at h'
  cases fn with
  | func f =>
   simp only [cOp] at h'
   split at h'
   ·rename_i p q hp hq
    injection h' with h';subst h'
    change K (.fn f (p.map s.ev) (q.map s.ev)) s at hW
    have h1:=cRds_rep hp hs.fr
    have h2:=cRds_rep hq hs.fr
    refine .inl ⟨.func (.func f) (first.map a.eval) (cap.map a.eval),w,?_,.quiet hs hW ?_⟩
    ·unfold execOp;simp only [ho];rfl
    ·have:=Rep.fn (c:=c) f (p.map s.ev) (q.map s.ev) (first.toList.map a.eval) (cap.toList.map a.eval) h1.len h2.len h1.rep h2.rep
     have e1 : (first.toList.map a.eval).toArray = first.map a.eval:=by apply Array.toList_inj.1;simp
     have e2 : (cap.toList.map a.eval).toArray = cap.map a.eval:=by apply Array.toList_inj.1;simp
     rwa [e1,e2] at this
   ·cases h'
  | _=>simp [cOp] at h'
 | slice t x lo hi mx=>exact op_slice ho h hs hW
 | makeSlice t x y=>exact op_make ho h hs hW
 | fieldAddr t x k=>exact op_faddr ho h hs hW
 | field t x k=>exact op_field ho h hs hW
 | indexAddr t x i=>exact op_iaddr ho h hs hW
 | index t x i=>exact op_index ho h hs hW
 | extract x k =>
  have h':=h
  rw [ho] at h'
  simp only [cOp] at h'
  split at h'
  ·rename_i r hr
   injection h' with h';subst h'
   obtain ⟨d,hd,hW⟩:=K1_ok hW
   have he : execOp a.eval o = (do pure (.value (← Instr.extract (a.eval x) k))):=by unfold execOp;simp only [ho]
   exact goes_quiet hs he hW (ext_sound (cRd_rep hr hs.fr) hd)
  ·cases h'
 | call cl =>
  obtain ⟨callee,args,ats⟩:=cl
  cases callee with
  | builtin b=>exact op_builtin ho h hs hW
  | invoke r m=>rw [ho] at h;simp [cOp] at h
  | value f =>
   rw [ho] at h
   simp only [cOp] at h
   split at h
   ·rename_i r rs hr hrs
    injection h with h
    obtain ⟨dst,op,ty,pos,after,guard⟩:=o
    simp only at ho
    subst ho
    have pc : ∀ oo',oo' = O.pcall r rs -> WO X oo' s K -> OpGoes P ⟨dst,.call { callee:=.value f,args,argTypes:=ats },ty,pos,after,guard⟩ a c w s K:=by
     intro oo' e hW
     subst e
     change pcallK X (rs.map s.ev) K s (s.ev r) at hW
     unfold pcallK at hW
     split at hW
     ·rename_i g first cap hev
      obtain ⟨d,hp,hk⟩:=hW
      exact call_sound hX hG hs hr hrs hev (Q:=fun d' H T=>d' = d /\ H = s.H /\ T = s.T) (hp s.H s.T _ (fun _ _ h _=>h) ⟨rfl,rfl,rfl⟩)
       (fun d' H T hh=>by obtain ⟨rfl,rfl,rfl⟩:=hh;exact hk)
     ·exact hW.elim
    have cc : ∀ oo',oo' = O.call r rs -> WO X oo' s K -> OpGoes P ⟨dst,.call { callee:=.value f,args,argTypes:=ats },ty,pos,after,guard⟩ a c w s K:=by
     intro oo' e hW
     subst e
     change callK X (rs.map s.ev) K s (s.ev r) at hW
     unfold callK at hW
     split at hW
     ·rename_i g' first cap hev
      exact call_sound hX hG hs hr hrs hev hW (fun d H T h=>h)
     ·exact hW.elim
    cases f with
    | func g =>
     simp only at h
     split at h
     ·exact cc oo h.symm hW
     ·exact pc oo h.symm hW
    | _ =>
     simp only at h
     split at h
     ·exact cc oo h.symm hW
     ·exact pc oo h.symm hW
   ·cases h
 | _=>rw [ho] at h;simp [cOp] at h
def dstOk (n : Nat) : Option Nat -> Bool
 | some d=>decide (d < n)
 | none=>true
def cI (P : Program) (imp : Hn) (dr : Bool) (j : Pl) (ops : Array Oper) (n : Nat) (o : Oper) : Option I :=
 match cOp P imp dr j o.op with
 | none=>none
 | some oo =>
  if dstOk n o.dst then
   match o.guard with
   | none=>some ⟨o.dst,none,oo⟩
   | some (g,want)=>match (ops[g]?).bind (·.dst) with
    | some d=>some ⟨o.dst,some (d,want),oo⟩
    | none=>none
  else none
theorem Res.next {v : Value} {w' : World} {K : S -> Prop} {d : Option Nat} (hs : Sim c s a w) (hd : ∀ i,d = some i -> i < a.tmps.size) (h : Res c w s (fun v s'=>K (s'.put d v)) v w') :
  ∃ s' c',K s' /\ Sim c' s' (a.put d v) w' /\ c.le c' /\ Below c.bb w w':=by
 obtain ⟨e,s',c',hk,ht,hr,hi,hle,hT,hb⟩:=h
 refine ⟨s'.put d e,c',hk,?_,hle,hb⟩
 have hfr : FR c' s'.t a:=by rw [ht];exact hs.fr.mono hle
 cases d with
 | none=>exact ⟨hT,hi,hfr⟩
 | some i=>exact ⟨hT,hi,hfr.put hr (hd i rfl)⟩
def Nx (n : Nat) (c0 : Cx) (w0 : World) (K : S -> Prop) (a' : Act) (w' : World) : Prop:=∃ s' c',K s' /\ Sim c' s' a' w' /\ c0.le c' /\ Below c0.bb w0 w' /\ a'.tmps.size = n /\ a'.defers = []
theorem put_size (a : Act) (d : Option Nat) (v : Value) : (a.put d v).tmps.size = a.tmps.size /\ (a.put d v).defers = a.defers:=by
 cases d <;> simp [Act.put]
theorem instr_sound [HasG P] (hX : ∀ f args H T Q,X f args H T Q -> Snd P f args H T Q) {ops : Array Oper} {n i : Nat} {o : Oper} {ii : I} (ho : ops[i]? = some o) (h : cI P imp dr j ops n o = some ii) {c0 : Cx} {w0 : World}
  (hG : HasG.G P c0 w0) (hs : Sim c s a w) (hle : c0.le c) (hb : Below c0.bb w0 w) (hn : a.tmps.size = n) (hd : a.defers = []) {K : S -> Prop} (hW : WI X ii s K) {Q : Exit -> Act -> World -> Prop} {K' : Act -> World -> Prop} (hK : ∀ a' w',Nx n c0 w0 K a' w' -> K' a' w') :
  wpOp P ops Q i K' a w:=by
 unfold cI at h
 split at h
 ·cases h
 ·rename_i oo hoo
  split at h
  ·rename_i hdst
   have hdst' : ∀ k,o.dst = some k -> k < a.tmps.size:=by
    intro k hk
    rw [hk] at hdst
    rw [hn];simpa [dstOk] using hdst
   have run : WO X oo s (fun v s'=>K (s'.put o.dst v)) -> o.wp P a w K' Q:=by
    intro hW
    have goes:=op_sound hX hoo (HasG.mono hle hb hG) hs hW
    have fin : ∀ v w',Res c w s (fun v s'=>K (s'.put o.dst v)) v w' -> K' (a.put o.dst v) w':=by
     intro v w' hr
     obtain ⟨s',c',k1,k2,k3,k4⟩:=hr.next hs hdst'
     obtain ⟨p1,p2⟩:=put_size a o.dst v
     exact hK _ _ ⟨s',c',k1,k2,hle.trans k3,hb.trans (by rw [<- hle.B];exact k4),by rw [p1,hn],by rw [p2,hd]⟩
    rcases goes with ⟨v,w',e,hr⟩ | ⟨w',e,hr⟩ | ⟨f,args,e,hr⟩
    ·unfold Oper.wp;rw [e];exact fin v w' hr
    ·unfold Oper.wp;rw [e];exact fin _ w' hr
    ·unfold Oper.wp;rw [e]
     refine Calls.mono hr ?_
     rintro e' w' ⟨v,rfl,hr⟩
     exact fin v w' hr
   unfold wpOp
   simp only [ho]
   split at h
   ·rename_i hg
    injection h with h;subst h
    have hwant : Region.wanted o (yielded ops a.tmps) = true:=by simp [Region.wanted,hg]
    rw [if_pos hwant]
    exact .inl (run hW)
   ·rename_i g want hg
    split at h
    ·rename_i d hdg
     injection h with h;subst h
     change WIk X o.dst oo s K (gd s (some (d,want))) at hW
     unfold gd at hW
     simp only at hW
     have hrg:=hs.fr d
     split at hW
     ·rename_i b hb'
      rw [hb'] at hrg
      have hy : yielded ops a.tmps g = some b:=by
       unfold yielded
       simp only [hdg]
       generalize hv : a.tmps.getD d undef = v at hrg
       cases hrg
       simp only [Array.getD_eq_getD_getElem?] at hv
       cases ht : a.tmps[d]? with
       | none=>rw [ht] at hv;simp [undef] at hv
       | some x=>rw [ht] at hv;simp at hv;subst hv;simp [ht]
      by_cases hbw : b = want
      ·subst hbw
       have hwant : Region.wanted o (yielded ops a.tmps) = true:=by simp [Region.wanted,hg,hy]
       rw [if_pos hwant]
       simp only [beq_self_eq_true] at hW
       exact .inl (run hW)
      ·have hwant : ¬ Region.wanted o (yielded ops a.tmps) = true:=by simp [Region.wanted,hg,hy,hbw]
       rw [if_neg hwant]
       have : (b == want) = false:=by simpa using hbw
       rw [this] at hW
       obtain ⟨p1,p2⟩:=put_size a o.dst undef
       refine hK _ _ ⟨s.put o.dst (.tup []),c,hW,?_,hle,hb,by rw [p1,hn],by rw [p2,hd]⟩
       cases hdd : o.dst with
       | none=>exact hs
       | some k=>exact ⟨hs.T,hs.inv,hs.fr.put (Rep.tup [] [] rfl (fun i h=>absurd h (by simp))) (hdst' k hdd)⟩
     ·rename_i hb'
      rw [hb'] at hrg
      have hy : yielded ops a.tmps g = none:=by
       unfold yielded
       simp only [hdg]
       generalize hv : a.tmps.getD d undef = v at hrg
       cases hrg with
       | tup cs vs hl hr =>
        have : vs = []:=by simpa using hl
        subst this
        simp only [Array.getD_eq_getD_getElem?] at hv
        cases ht : a.tmps[d]? with
        | none=>simp [ht]
        | some x=>rw [ht] at hv;simp at hv;subst hv;simp [ht]
      have hwant : ¬ Region.wanted o (yielded ops a.tmps) = true:=by simp [Region.wanted,hg,hy]
      rw [if_neg hwant]
      obtain ⟨p1,p2⟩:=put_size a o.dst undef
      refine hK _ _ ⟨s.put o.dst (.tup []),c,hW,?_,hle,hb,by rw [p1,hn],by rw [p2,hd]⟩
      cases hdd : o.dst with
      | none=>exact hs
      | some k=>exact ⟨hs.T,hs.inv,hs.fr.put (Rep.tup [] [] rfl (fun i h=>absurd h (by simp))) (hdst' k hdd)⟩
     ·exact hW.elim
    ·cases h
  ·cases h
end GP
namespace GP
open Go
def O.rds : O -> List Rd
 | .mv x=>[x]
 | .mvs x=>[x]
 | .pick c a b=>[c] ++ [a] ++ [b]
 | .alloc _=>[]
 | .allocAt _ _=>[]
 | .box x=>[x]
 | .boxAt _ x=>[x]
 | .build _ ps=>(ps.map fun p=>p.2.2)
 | .bsl _ xs=>xs
 | .bslq _ xs=>xs
 | .load _ _ x=>[x]
 | .store _ x y=>[x] ++ [y]
 | .nilc x=>[x]
 | .bin _ x y=>[x] ++ [y]
 | .eqa _ _ x y=>[x] ++ [y]
 | .eq1 _ _ x y=>[x] ++ [y]
 | .un _ x=>[x]
 | .conv _ x=>[x]
 | .s2b x=>[x]
 | .s2bq x=>[x]
 | .b2s x=>[x]
 | .b2m x=>[x]
 | .mkfn _ xs ys=>xs ++ ys
 | .sls _ x lo hi=>[x] ++ lo.toList ++ hi.toList
 | .subs x lo hi=>[x] ++ lo.toList ++ hi.toList
 | .faddr _ x=>[x]
 | .field _ _ _ x=>[x]
 | .iaddr _ x y=>[x] ++ [y]
 | .iarr _ _ x y=>[x] ++ [y]
 | .idxs x y=>[x] ++ [y]
 | .idxa _ _ _ x y=>[x] ++ [y]
 | .ext _ x=>[x]
 | .call f xs=>[f] ++ xs
 | .pcall f xs=>[f] ++ xs
 | .len x=>[x]
 | .lens x=>[x]
 | .app _ _ _ x y=>[x] ++ [y]
 | .rawAt _ _=>[]
 | .fillAt _ _ x y=>[x] ++ [y]
 | .sls3 _ x lo hi mb=>[x] ++ lo.toList ++ hi.toList ++ mb.toList
 | .appm _ _ _ _ x y=>[x] ++ [y]
 | .bslm _ _ xs=>xs
 | .copy _ x y=>[x] ++ [y]
 | .clr _ x=>[x]
 | .mkm _ _ _ _ x y=>[x] ++ [y]
 | .mn x y=>[x] ++ [y]
 | .mx x y=>[x] ++ [y]
theorem K1_imp {K K' : D -> S -> Prop} {s s' : S} (h : ∀ u,K u s -> K' u s') {o : Option D} (k : K1 K s o) : K1 K' s' o:=by
 cases o with
 | none=>exact k
 | some d=>exact h d k
theorem map_ev {s s' : S} {xs : List Rd} (h : ∀ r ∈ xs,s'.ev r = s.ev r) : xs.map s'.ev = xs.map s.ev:=List.map_congr_left h
theorem optN_ev {s s' : S} {d : Nat} {o : Option Rd} (h : ∀ r ∈ o.toList,s'.ev r = s.ev r) : optN s' d o = optN s d o:=by
 cases o with
 | none=>rfl
 | some r=>simp only [optN,h r (by simp)]
theorem atK_imp {K K' : D -> S -> Prop} {s s' : S} (hH : s'.H = s.H) (hT : s'.T = s.T) (h : ∀ u H T,K u ⟨s.t,H,T⟩ -> K' u ⟨s'.t,H,T⟩) {i : Nat} {z : List D} {o : Option Ob} (k : atK K s i z o) : atK K' s' i z o:=by
 unfold atK at *
 split <;> simp_all
theorem rawK_imp {K K' : D -> S -> Prop} {s s' : S} (hH : s'.H = s.H) (hT : s'.T = s.T) (h : ∀ u H T,K u ⟨s.t,H,T⟩ -> K' u ⟨s'.t,H,T⟩) {i : Nat} {z : List D} {o : Option Ob} (k : rawK K s i z o) : rawK K' s' i z o:=by
 unfold rawK at *
 split <;> simp_all
theorem fillK_imp {K K' : D -> S -> Prop} {s s' : S} (hH : s'.H = s.H) (hT : s'.T = s.T) (h : ∀ u H T,K u ⟨s.t,H,T⟩ -> K' u ⟨s'.t,H,T⟩) {i n : Nat} {a v : D} {o : Option Ob} (k : fillK K s i n a v o) : fillK K' s' i n a v o:=by
 unfold fillK at *
 split <;> simp_all
theorem appmK_imp {K K' : D -> S -> Prop} {s s' : S} (hH : s'.H = s.H) (hT : s'.T = s.T) (h : ∀ u H T,K u ⟨s.t,H,T⟩ -> K' u ⟨s'.t,H,T⟩) {ag : Bool} {sz bytes : Nat} {x : D} {ys : Option (List D)} (k : appmK ag sz bytes K s x ys) : appmK ag sz bytes K' s' x ys:=by
 obtain ⟨t,H,T⟩:=s
 obtain ⟨t',H',T'⟩:=s'
 simp only at hH hT h
 subst hH;subst hT
 cases ys with
 | none=>exact k
 | some ys =>
  refine ⟨k.1,?_⟩
  have k2:=k.2
  cases x with
  | nils =>
   simp only at k2 ⊢
   split
   ·rename_i h0;rw [if_pos h0] at k2;exact h _ _ _ k2
   ·rename_i h0;rw [if_neg h0] at k2;exact ⟨k2.1,k2.2.1,h _ _ _ k2.2.2⟩
  | e0 =>
   simp only at k2 ⊢
   split
   ·rename_i h0;rw [if_pos h0] at k2;exact h _ _ _ k2
   ·rename_i h0;rw [if_neg h0] at k2;exact ⟨k2.1,k2.2.1,h _ _ _ k2.2.2⟩
  | ms g z o off n cap =>
   simp only at k2 ⊢
   split
   ·rename_i cs hc
    rw [hc] at k2
    simp only at k2
    refine ⟨k2.1,?_⟩
    have k3:=k2.2
    split
    ·rename_i h0;rw [if_pos h0] at k3;exact ⟨k3.1,h _ _ _ k3.2⟩
    ·rename_i h0;rw [if_neg h0] at k3;exact ⟨k3.1,k3.2.1,k3.2.2.1,k3.2.2.2.1,h _ _ _ k3.2.2.2.2⟩
   ·rename_i hn
    split at k2
    ·rename_i cs hc;exact (hn cs hc).elim
    ·exact k2
  | _=>exact k2
theorem copyK_imp {K K' : D -> S -> Prop} {s s' : S} (hH : s'.H = s.H) (hT : s'.T = s.T) (h : ∀ u H T,K u ⟨s.t,H,T⟩ -> K' u ⟨s'.t,H,T⟩) {sz : Nat} {x : D} {ys : Option (List D)} (k : copyK sz K s x ys) : copyK sz K' s' x ys:=by
 obtain ⟨t,H,T⟩:=s
 obtain ⟨t',H',T'⟩:=s'
 simp only at hH hT h
 subst hH;subst hT
 cases ys with
 | none=>exact k
 | some ys =>
  refine ⟨k.1,?_⟩
  have k2:=k.2
  cases x with
  | nils=>exact h _ _ _ k2
  | e0=>exact h _ _ _ k2
  | sl t xs =>
   cases xs with
   | nil=>exact h _ _ _ k2
   | cons=>exact k2
  | ms g z o off n cap =>
   simp only at k2 ⊢
   split
   ·rename_i cs hc
    rw [hc] at k2
    exact ⟨k2.1,k2.2.1,h _ _ _ k2.2.2⟩
   ·rename_i hn
    split at k2
    ·rename_i cs hc;exact (hn cs hc).elim
    ·exact k2
  | _=>exact k2
theorem clrK_imp {K K' : D -> S -> Prop} {s s' : S} (hH : s'.H = s.H) (hT : s'.T = s.T) (h : ∀ u H T,K u ⟨s.t,H,T⟩ -> K' u ⟨s'.t,H,T⟩) {z : List D} {x : D} (k : clrK z K s x) : clrK z K' s' x:=by
 obtain ⟨t,H,T⟩:=s
 obtain ⟨t',H',T'⟩:=s'
 simp only at hH hT h
 subst hH;subst hT
 cases x with
 | nils=>exact h _ _ _ k
 | e0=>exact h _ _ _ k
 | sl t xs =>
  cases xs with
  | nil=>exact h _ _ _ k
  | cons=>exact k
 | ms g sz o off n cap =>
  simp only [clrK] at k ⊢
  split
  ·rename_i cs hc
   rw [hc] at k
   exact ⟨k.1,k.2.1,h _ _ _ k.2.2⟩
  ·rename_i hn
   split at k
   ·rename_i cs hc;exact (hn cs hc).elim
   ·exact k
 | _=>exact k
theorem mkmK_imp {K K' : D -> S -> Prop} {s s' : S} (hH : s'.H = s.H) (hT : s'.T = s.T) (h : ∀ u H T,K u ⟨s.t,H,T⟩ -> K' u ⟨s'.t,H,T⟩) {ag : Bool} {sz bytes : Nat} {z : List D} {x y : D} (k : mkmK ag sz bytes z K s x y) : mkmK ag sz bytes z K' s' x y:=by
 unfold mkmK at *
 rw [hH,hT]
 split
 ·simp only at k
  exact ⟨k.1,k.2.1,k.2.2.1,k.2.2.2.1,k.2.2.2.2.1,h _ _ _ k.2.2.2.2.2⟩
 ·rename_i hn
  split at k
  ·exact (hn _ _ _ _ rfl rfl).elim
  ·exact k
theorem storeK_imp {K K' : D -> S -> Prop} {s s' : S} (hH : s'.H = s.H) (hT : s'.T = s.T) (h : ∀ u H T,K u ⟨s.t,H,T⟩ -> K' u ⟨s'.t,H,T⟩) {n : Nat} {x y : D} (k : storeK n K s x y) : storeK n K' s' x y:=by
 unfold storeK at *
 rw [hH,hT]
 split
 ·rename_i o off
  simp only at k
  split
  ·rename_i cs hc
   rw [hc] at k
   exact ⟨k.1,k.2.1,k.2.2.1,h _ _ _ k.2.2.2⟩
  ·rename_i hn
   split at k
   ·rename_i cs hc;exact (hn cs hc).elim
   ·exact k
 ·rename_i hn
  split at k
  ·rename_i o off;exact (hn o off rfl).elim
  ·exact k
theorem s2bK_imp {K K' : D -> S -> Prop} {s s' : S} (hH : s'.H = s.H) (hT : s'.T = s.T) (h : ∀ u H T,K u ⟨s.t,H,T⟩ -> K' u ⟨s'.t,H,T⟩) {x : D} (k : s2bK K s x) : s2bK K' s' x:=by
 cases x <;> simp only [s2bK] at * <;> first | exact k | (rw [hH,hT];exact h _ _ _ k)
theorem appK_imp {K K' : D -> S -> Prop} {s s' : S} (hH : s'.H = s.H) (hT : s'.T = s.T) (h : ∀ u H T,K u ⟨s.t,H,T⟩ -> K' u ⟨s'.t,H,T⟩) {sz bytes : Nat} {x : D} {ys : Option (List D)} (k : appK sz bytes K s x ys) : appK sz bytes K' s' x ys:=by
 obtain ⟨t,H,T⟩:=s
 obtain ⟨t',H',T'⟩:=s'
 simp only at hH hT h
 subst hH;subst hT
 cases ys with
 | none=>exact k
 | some ys =>
  refine ⟨k.1,?_⟩
  have k2:=k.2
  cases x with
  | nils =>
   simp only at k2 ⊢
   split
   ·rename_i h0;rw [if_pos h0] at k2;exact h _ _ _ k2
   ·rename_i h0;rw [if_neg h0] at k2;exact ⟨k2.1,k2.2.1,h _ _ _ k2.2.2⟩
  | e0 =>
   simp only at k2 ⊢
   split
   ·rename_i h0;rw [if_pos h0] at k2;exact h _ _ _ k2
   ·rename_i h0;rw [if_neg h0] at k2;exact ⟨k2.1,k2.2.1,h _ _ _ k2.2.2⟩
  | sl t xs =>
   cases t with
   | none=>exact k2
   | some t=>exact ⟨k2.1,k2.2.1,k2.2.2.1,k2.2.2.2.1,h _ _ _ k2.2.2.2.2⟩
  | _=>exact k2
theorem pcallK_imp {X X' : Pred} (hX : ∀ f args H T Q,X f args H T Q -> X' f args H T Q) {K K' : D -> S -> Prop} {s s' : S} (hH : s'.H = s.H) (h : ∀ u,K u s -> K' u s') {args : List D} {x : D} (k : pcallK X args K s x) : pcallK X' args K' s' x:=by
 cases x <;> simp only [pcallK] at * <;> first | exact k | skip
 obtain ⟨r,h1,h2⟩:=k
 exact ⟨r,fun H' T' Q a b=>hX _ _ _ _ _ (h1 H' T' Q (by rw [<- hH];exact a) b),h _ h2⟩
theorem callK_imp {X X' : Pred} (hX : ∀ f args H T Q Q',(∀ r H T,Q r H T -> Q' r H T) -> X f args H T Q -> X' f args H T Q') {K K' : D -> S -> Prop} {s s' : S} (hH : s'.H = s.H) (hT : s'.T = s.T) (h : ∀ u H T,K u ⟨s.t,H,T⟩ -> K' u ⟨s'.t,H,T⟩)
  {args : List D} {x : D} (k : callK X args K s x) : callK X' args K' s' x:=by
 cases x <;> simp only [callK] at * <;> first | exact k | skip
 rw [hH,hT]
 exact hX _ _ _ _ _ _ (fun r H T hh=>h r H T hh) k
theorem WO_imp {X X' : Pred} (hX : ∀ f args H T Q Q',(∀ r H T,Q r H T -> Q' r H T) -> X f args H T Q -> X' f args H T Q') {o : O} {s s' : S} (hH : s'.H = s.H) (hT : s'.T = s.T) (hev : ∀ r ∈ o.rds,s'.ev r = s.ev r)
  {K K' : D -> S -> Prop} (h : ∀ u H T,K u ⟨s.t,H,T⟩ -> K' u ⟨s'.t,H,T⟩) (k : WO X o s K) : WO X' o s' K':=by
 have hX1 : ∀ f args H T Q,X f args H T Q -> X' f args H T Q:=fun f args H T Q=>hX f args H T Q Q (fun _ _ _ h=>h)
 have h0 : ∀ u,K u s -> K' u s':=fun u hu=>by
  have:=h u s.H s.T hu
  rwa [<- hH,← hT] at this
 cases o with
 | mv x =>
  have e0:=hev x (by simp [O.rds])
  have eq : qv s' (.mv x) = qv s (.mv x):=by simp only [qv,e0]
  show K1 K' s' (qv s' (.mv x))
  rw [eq]
  exact K1_imp h0 k
 | mvs x =>
  have e0:=hev x (by simp [O.rds])
  have eq : qv s' (.mvs x) = qv s (.mvs x):=by simp only [qv,e0]
  show K1 K' s' (qv s' (.mvs x))
  rw [eq]
  exact K1_imp h0 k
 | pick c a b =>
  have e0:=hev c (by simp [O.rds])
  have e1:=hev a (by simp [O.rds])
  have e2:=hev b (by simp [O.rds])
  have eq : qv s' (.pick c a b) = qv s (.pick c a b):=by simp only [qv,e0,e1,e2]
  show K1 K' s' (qv s' (.pick c a b))
  rw [eq]
  exact K1_imp h0 k
 | alloc z =>
  show K' _ ⟨s'.t,_,_⟩
  rw [hH,hT];exact h _ _ _ k
 | allocAt j z =>
  show atK K' s' _ _ _
  rw [hH];exact atK_imp hH hT h k
 | box x =>
  have e0:=hev x (by simp [O.rds])
  show _ /\ K' _ ⟨s'.t,_,_⟩
  rw [hH,hT,e0];exact ⟨k.1,h _ _ _ k.2⟩
 | boxAt j x =>
  have e0:=hev x (by simp [O.rds])
  show _ /\ atK K' s' _ _ _
  rw [hH,e0];exact ⟨k.1,atK_imp hH hT h k.2⟩
 | build z ps =>
  have e0 : (ps.map fun p=>(p.1,p.2.1,s'.ev p.2.2)) = (ps.map fun p=>(p.1,p.2.1,s.ev p.2.2)):=List.map_congr_left fun p hp=>by rw [hev p.2.2 (by simp only [O.rds,List.mem_map];exact ⟨p,hp,rfl⟩)]
  have eq : qv s' (.build z ps) = qv s (.build z ps):=by simp only [qv,e0]
  show K1 K' s' (qv s' (.build z ps))
  rw [eq]
  exact K1_imp h0 k
 | bsl sz xs =>
  have e0:=map_ev (s:=s) (s':=s') (xs:=xs) (fun r hr=>hev r (by simp [O.rds,hr]))
  show _ /\ K' _ ⟨s'.t,_,_⟩
  rw [hH,hT,e0];exact ⟨k.1,h _ _ _ k.2⟩
 | bslq sz xs =>
  have e0:=map_ev (s:=s) (s':=s') (xs:=xs) (fun r hr=>hev r (by simp [O.rds,hr]))
  have eq : qv s' (.bslq sz xs) = qv s (.bslq sz xs):=by simp only [qv,e0]
  show K1 K' s' (qv s' (.bslq sz xs))
  rw [eq]
  exact K1_imp h0 k
 | load ag n x =>
  have e0:=hev x (by simp [O.rds])
  have eq : qv s' (.load ag n x) = qv s (.load ag n x):=by simp only [qv,e0,hH]
  show K1 K' s' (qv s' (.load ag n x))
  rw [eq]
  exact K1_imp h0 k
 | store n x y =>
  have e0:=hev x (by simp [O.rds])
  have e1:=hev y (by simp [O.rds])
  show storeK _ K' s' _ _
  rw [e0,e1];exact storeK_imp hH hT h k
 | nilc x =>
  have e0:=hev x (by simp [O.rds])
  have eq : qv s' (.nilc x) = qv s (.nilc x):=by simp only [qv,e0]
  show K1 K' s' (qv s' (.nilc x))
  rw [eq]
  exact K1_imp h0 k
 | bin op x y =>
  have e0:=hev x (by simp [O.rds])
  have e1:=hev y (by simp [O.rds])
  have eq : qv s' (.bin op x y) = qv s (.bin op x y):=by simp only [qv,e0,e1]
  show K1 K' s' (qv s' (.bin op x y))
  rw [eq]
  exact K1_imp h0 k
 | eqa ks neg x y =>
  have e0:=hev x (by simp [O.rds])
  have e1:=hev y (by simp [O.rds])
  have eq : qv s' (.eqa ks neg x y) = qv s (.eqa ks neg x y):=by simp only [qv,e0,e1]
  show K1 K' s' (qv s' (.eqa ks neg x y))
  rw [eq]
  exact K1_imp h0 k
 | eq1 q neg x y =>
  have e0:=hev x (by simp [O.rds])
  have e1:=hev y (by simp [O.rds])
  have eq : qv s' (.eq1 q neg x y) = qv s (.eq1 q neg x y):=by simp only [qv,e0,e1]
  show K1 K' s' (qv s' (.eq1 q neg x y))
  rw [eq]
  exact K1_imp h0 k
 | un op x =>
  have e0:=hev x (by simp [O.rds])
  have eq : qv s' (.un op x) = qv s (.un op x):=by simp only [qv,e0]
  show K1 K' s' (qv s' (.un op x))
  rw [eq]
  exact K1_imp h0 k
 | conv kd x =>
  have e0:=hev x (by simp [O.rds])
  have eq : qv s' (.conv kd x) = qv s (.conv kd x):=by simp only [qv,e0]
  show K1 K' s' (qv s' (.conv kd x))
  rw [eq]
  exact K1_imp h0 k
 | s2b x =>
  have e0:=hev x (by simp [O.rds])
  show s2bK K' s' _
  rw [e0];exact s2bK_imp hH hT h k
 | s2bq x =>
  have e0:=hev x (by simp [O.rds])
  have eq : qv s' (.s2bq x) = qv s (.s2bq x):=by simp only [qv,e0]
  show K1 K' s' (qv s' (.s2bq x))
  rw [eq]
  exact K1_imp h0 k
 | b2s x =>
  have e0:=hev x (by simp [O.rds])
  have eq : qv s' (.b2s x) = qv s (.b2s x):=by simp only [qv,e0]
  show K1 K' s' (qv s' (.b2s x))
  rw [eq]
  exact K1_imp h0 k
 | b2m x =>
  have e0:=hev x (by simp [O.rds])
  show K1 K' s' (b2mD s'.H _)
  rw [e0,hH];exact K1_imp h0 k
 | mkfn f xs ys =>
  have e0:=map_ev (s:=s) (s':=s') (xs:=xs) (fun r hr=>hev r (by simp [O.rds,hr]))
  have e1:=map_ev (s:=s) (s':=s') (xs:=ys) (fun r hr=>hev r (by simp [O.rds,hr]))
  have eq : qv s' (.mkfn f xs ys) = qv s (.mkfn f xs ys):=by simp only [qv,e0,e1]
  show K1 K' s' (qv s' (.mkfn f xs ys))
  rw [eq]
  exact K1_imp h0 k
 | sls sz x lo hi =>
  have e0:=hev x (by simp [O.rds])
  have e1 : ∀ d,optN s' d lo = optN s d lo:=fun d=>optN_ev (fun r hr=>hev r (by simp only [O.rds,List.mem_append];simp [hr]))
  have e2 : ∀ d,optN s' d hi = optN s d hi:=fun d=>optN_ev (fun r hr=>hev r (by simp only [O.rds,List.mem_append];simp [hr]))
  have eq : qv s' (.sls sz x lo hi) = qv s (.sls sz x lo hi):=by simp only [qv,e0,e1,e2]
  show K1 K' s' (qv s' (.sls sz x lo hi))
  rw [eq]
  exact K1_imp h0 k
 | subs x lo hi =>
  have e0:=hev x (by simp [O.rds])
  have e1 : ∀ d,optN s' d lo = optN s d lo:=fun d=>optN_ev (fun r hr=>hev r (by simp only [O.rds,List.mem_append];simp [hr]))
  have e2 : ∀ d,optN s' d hi = optN s d hi:=fun d=>optN_ev (fun r hr=>hev r (by simp only [O.rds,List.mem_append];simp [hr]))
  have eq : qv s' (.subs x lo hi) = qv s (.subs x lo hi):=by simp only [qv,e0,e1,e2]
  show K1 K' s' (qv s' (.subs x lo hi))
  rw [eq]
  exact K1_imp h0 k
 | faddr off x =>
  have e0:=hev x (by simp [O.rds])
  have eq : qv s' (.faddr off x) = qv s (.faddr off x):=by simp only [qv,e0]
  show K1 K' s' (qv s' (.faddr off x))
  rw [eq]
  exact K1_imp h0 k
 | field ag off n x =>
  have e0:=hev x (by simp [O.rds])
  have eq : qv s' (.field ag off n x) = qv s (.field ag off n x):=by simp only [qv,e0]
  show K1 K' s' (qv s' (.field ag off n x))
  rw [eq]
  exact K1_imp h0 k
 | iaddr sz x y =>
  have e0:=hev x (by simp [O.rds])
  have e1:=hev y (by simp [O.rds])
  have eq : qv s' (.iaddr sz x y) = qv s (.iaddr sz x y):=by simp only [qv,e0,e1]
  show K1 K' s' (qv s' (.iaddr sz x y))
  rw [eq]
  exact K1_imp h0 k
 | iarr sz len x y =>
  have e0:=hev x (by simp [O.rds])
  have e1:=hev y (by simp [O.rds])
  have eq : qv s' (.iarr sz len x y) = qv s (.iarr sz len x y):=by simp only [qv,e0,e1]
  show K1 K' s' (qv s' (.iarr sz len x y))
  rw [eq]
  exact K1_imp h0 k
 | idxs x y =>
  have e0:=hev x (by simp [O.rds])
  have e1:=hev y (by simp [O.rds])
  have eq : qv s' (.idxs x y) = qv s (.idxs x y):=by simp only [qv,e0,e1]
  show K1 K' s' (qv s' (.idxs x y))
  rw [eq]
  exact K1_imp h0 k
 | idxa ag sz len x y =>
  have e0:=hev x (by simp [O.rds])
  have e1:=hev y (by simp [O.rds])
  have eq : qv s' (.idxa ag sz len x y) = qv s (.idxa ag sz len x y):=by simp only [qv,e0,e1]
  show K1 K' s' (qv s' (.idxa ag sz len x y))
  rw [eq]
  exact K1_imp h0 k
 | ext i x =>
  have e0:=hev x (by simp [O.rds])
  have eq : qv s' (.ext i x) = qv s (.ext i x):=by simp only [qv,e0]
  show K1 K' s' (qv s' (.ext i x))
  rw [eq]
  exact K1_imp h0 k
 | call f xs =>
  have e0:=hev f (by simp [O.rds])
  have e1:=map_ev (s:=s) (s':=s') (xs:=xs) (fun r hr=>hev r (by simp [O.rds,hr]))
  show callK X' _ K' s' _
  rw [e0,e1];exact callK_imp hX hH hT h k
 | pcall f xs =>
  have e0:=hev f (by simp [O.rds])
  have e1:=map_ev (s:=s) (s':=s') (xs:=xs) (fun r hr=>hev r (by simp [O.rds,hr]))
  show pcallK X' _ K' s' _
  rw [e0,e1];exact pcallK_imp hX1 hH h0 k
 | len x =>
  have e0:=hev x (by simp [O.rds])
  have eq : qv s' (.len x) = qv s (.len x):=by simp only [qv,e0]
  show K1 K' s' (qv s' (.len x))
  rw [eq]
  exact K1_imp h0 k
 | lens x =>
  have e0:=hev x (by simp [O.rds])
  have eq : qv s' (.lens x) = qv s (.lens x):=by simp only [qv,e0]
  show K1 K' s' (qv s' (.lens x))
  rw [eq]
  exact K1_imp h0 k
 | app st sz bytes x y =>
  have e0:=hev x (by simp [O.rds])
  have e1:=hev y (by simp [O.rds])
  show appK _ _ K' s' _ _
  rw [e0,e1];exact appK_imp hH hT h k
 | rawAt j z =>
  show _ /\ rawK K' s' _ _ _
  rw [hH];exact ⟨k.1,rawK_imp hH hT h k.2⟩
 | fillAt j n x y =>
  have e0:=hev x (by simp [O.rds])
  have e1:=hev y (by simp [O.rds])
  show _ /\ fillK K' s' _ _ _ _ _
  rw [hH,e0,e1];exact ⟨k.1,fillK_imp hH hT h k.2⟩
 | sls3 sz x lo hi mb =>
  have e0:=hev x (by simp [O.rds])
  have e1 : ∀ d,optN s' d lo = optN s d lo:=fun d=>optN_ev (fun r hr=>hev r (by simp only [O.rds,List.mem_append];simp [hr]))
  have e2 : ∀ d,optN s' d hi = optN s d hi:=fun d=>optN_ev (fun r hr=>hev r (by simp only [O.rds,List.mem_append];simp [hr]))
  have e3 : ∀ d,optN s' d mb = optN s d mb:=fun d=>optN_ev (fun r hr=>hev r (by simp only [O.rds,List.mem_append];simp [hr]))
  have eq : qv s' (.sls3 sz x lo hi mb) = qv s (.sls3 sz x lo hi mb):=by simp only [qv,e0,e1,e2,e3]
  show K1 K' s' (qv s' (.sls3 sz x lo hi mb))
  rw [eq]
  exact K1_imp h0 k
 | appm ag st sz bytes x y =>
  have e0:=hev x (by simp [O.rds])
  have e1:=hev y (by simp [O.rds])
  show appmK _ _ _ K' s' _ _
  rw [e0,e1,hH];exact appmK_imp hH hT h k
 | bslm ag sz xs =>
  have e0:=map_ev (s:=s) (s':=s') (xs:=xs) (fun r hr=>hev r (by simp [O.rds,hr]))
  show _ /\ K' _ ⟨s'.t,_,_⟩
  rw [hH,hT,e0];exact ⟨k.1,h _ _ _ k.2⟩
 | copy sz x y =>
  have e0:=hev x (by simp [O.rds])
  have e1:=hev y (by simp [O.rds])
  show copyK _ K' s' _ _
  rw [e0,e1,hH];exact copyK_imp hH hT h k
 | clr z x =>
  have e0:=hev x (by simp [O.rds])
  show clrK _ K' s' _
  rw [e0];exact clrK_imp hH hT h k
 | mkm ag sz bytes z x y =>
  have e0:=hev x (by simp [O.rds])
  have e1:=hev y (by simp [O.rds])
  show mkmK _ _ _ _ K' s' _ _
  rw [e0,e1];exact mkmK_imp hH hT h k
 | mn x y =>
  have e0:=hev x (by simp [O.rds])
  have e1:=hev y (by simp [O.rds])
  have eq : qv s' (.mn x y) = qv s (.mn x y):=by simp only [qv,e0,e1]
  show K1 K' s' (qv s' (.mn x y))
  rw [eq]
  exact K1_imp h0 k
 | mx x y =>
  have e0:=hev x (by simp [O.rds])
  have e1:=hev y (by simp [O.rds])
  have eq : qv s' (.mx x y) = qv s (.mx x y):=by simp only [qv,e0,e1]
  show K1 K' s' (qv s' (.mx x y))
  rw [eq]
  exact K1_imp h0 k
theorem WO_mono {X X' : Pred} (hX : ∀ f args H T Q Q',(∀ r H T,Q r H T -> Q' r H T) -> X f args H T Q -> X' f args H T Q') {o : O} {s : S} {K K' : D -> S -> Prop} (h : ∀ u H T,K u ⟨s.t,H,T⟩ -> K' u ⟨s.t,H,T⟩) (k : WO X o s K) : WO X' o s K' :=
 WO_imp hX rfl rfl (fun _ _=>rfl) h k
theorem WI_mono {X X' : Pred} (hX : ∀ f args H T Q Q',(∀ r H T,Q r H T -> Q' r H T) -> X f args H T Q -> X' f args H T Q') {i : I} {s : S} {K K' : S -> Prop} (h : ∀ s',K s' -> K' s') (k : WI X i s K) : WI X' i s K':=by
 unfold WI WIk at *
 split <;> simp_all
 exact WO_mono hX (fun u H T hk=>h _ hk) k
theorem Wr_mono {X X' : Pred} (hX : ∀ f args H T Q Q',(∀ r H T,Q r H T -> Q' r H T) -> X f args H T Q -> X' f args H T Q') : ∀ {is : List I} {s : S} {R R' : S -> Prop},(∀ s',R s' -> R' s') -> Wr X is R s -> Wr X' is R' s
 | [],_,_,_,h,k=>h _ k
 | _ :: _,_,_,_,h,k=>WI_mono hX (fun _ k=>Wr_mono hX h k) k
theorem still_mono {X X' : Pred} (hX : ∀ f args H T Q Q',(∀ r H T,Q r H T -> Q' r H T) -> X f args H T Q -> X' f args H T Q') {i : I} {s : S} (k : still X i s) : still X' i s:=by
 unfold still at *
 split <;> simp_all
 exact WO_mono hX (fun u H T hk=>hk) k
theorem stillAll_mono {X X' : Pred} (hX : ∀ f args H T Q Q',(∀ r H T,Q r H T -> Q' r H T) -> X f args H T Q -> X' f args H T Q') : ∀ {is : List I} {s : S},stillAll X is s -> stillAll X' is s
 | [],_,_=>trivial
 | _ :: _,_,k=>⟨still_mono hX k.1,stillAll_mono hX k.2⟩
theorem Wd_mono {X X' : Pred} (hX : ∀ f args H T Q Q',(∀ r H T,Q r H T -> Q' r H T) -> X f args H T Q -> X' f args H T Q') : ∀ {is : List (I × List I)} {s : S} {R R' : S -> Prop},(∀ s',R s' -> R' s') -> Wd X is R s -> Wd X' is R' s
 | [],_,_,_,h,k=>h _ k
 | (_,_) :: _,_,_,_,h,k=>WI_mono hX (fun _ k=>⟨stillAll_mono hX k.1,Wd_mono hX h k.2⟩) k
theorem W_mono {X X' : Pred} (hX : ∀ f args H T Q Q',(∀ r H T,Q r H T -> Q' r H T) -> X f args H T Q -> X' f args H T Q') : ∀ {c : C} {s : S} {Q Q' : Ex -> S -> Prop},(∀ e s',Q e s' -> Q' e s') -> W X c Q s -> W X' c Q' s
 | .skip,_,_,_,h,k=>h _ _ k
 | .reg _,_,_,_,h,k=>Wr_mono hX (fun s' hk=>h _ s' hk) k
 | .draw _ _,_,_,_,h,k=>Wd_mono hX (fun s' hk=>h _ s' hk) k
 | .seq a b,s,Q,Q',h,k=>by
  simp only [W] at k ⊢
  refine W_mono hX (fun e s' hk=>?_) k
  cases e with
  | normal=>exact W_mono hX h hk
  | exit i=>exact h _ _ hk
  | ret=>exact h _ _ hk
 | .cond c a b,s,Q,Q',h,k=>by
  simp only [W] at k ⊢
  split
  ·rename_i t hev
   rw [hev] at k
   simp only at k
   cases t
   ·exact W_mono hX h k
   ·exact W_mono hX h k
  ·rename_i hn
   split at k
   ·rename_i t hev;exact (hn t hev).elim
   ·exact k
 | .block i c,s,Q,Q',h,k=>by
  simp only [W] at k ⊢
  refine W_mono hX (fun e s' hk=>?_) k
  cases e with
  | normal=>exact h _ _ hk
  | exit j =>
   simp only [blkK] at hk ⊢
   split
   ·rename_i e;rw [if_pos e] at hk;exact h _ _ hk
   ·rename_i e;rw [if_neg e] at hk;exact h _ _ hk
  | ret=>exact h _ _ hk
 | .loop c,s,Q,Q',h,k=>by
  simp only [W] at k ⊢
  obtain ⟨Iv,μ,h0,h1⟩:=k
  refine ⟨Iv,μ,h0,fun s' hs'=>W_mono hX (fun e s'' hk=>?_) (h1 s' hs')⟩
  cases e with
  | normal=>exact hk
  | exit j=>exact h _ _ hk
  | ret=>exact h _ _ hk
 | .exit _,_,_,_,h,k=>h _ _ k
 | .ret,_,_,_,h,k=>h _ _ k
end GP
