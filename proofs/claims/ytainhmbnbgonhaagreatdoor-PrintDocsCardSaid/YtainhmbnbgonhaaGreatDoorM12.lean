import Derived.Ground.NamesProg
import Derived.Shelf.Lay
import Derived.Shelf.Strings.OnBuilder
import Derived.Test.YtainhmbnbgonhaaGreatDoorProg
import Derived.Test.YtainhmbnbgonhaaGreatDoorM5
import Derived.Test.YtainhmbnbgonhaaGreatDoorM6
import Derived.Test.YtainhmbnbgonhaaGreatDoorM7
import Derived.Test.YtainhmbnbgonhaaGreatDoorM8
import Derived.Test.YtainhmbnbgonhaaGreatDoorM10
import Derived.Test.YtainhmbnbgonhaaGreatDoorM11
set_option linter.unusedSimpArgs false
set_option linter.unnecessarySimpa false
namespace Go.Proofs
open Go.Shelf
shelf_lay Lays.n156 Nm 156 at Tryz as Tryz.laysJoin
theorem Tryz.extraJoin : Builder.Extra Tryz.prog Tryz.laysJoin_ren where
 sizeBuilder:=by kernel_rfl
 liesBuilder:=by kernel_rfl
 t5:=Tryz.underlying5
 a5:=Tryz.isAgg5
 z5:=Tryz.sizeOf5
 v5:=Tryz.zeroValue5
 infoByte:=by kernel_rfl
 cellsByte:=by kernel_rfl
 sizeByte:=by kernel_rfl
 neB5:=by decide
theorem Tryz.join_none (a : Option Addr) (c : Nat) (sep : ByteArray) (w : World) :
  Calls Tryz.prog 88 #[.slice a 0 c,.string sep] w fun e w'=>e = .returned (.string ⟨#[]⟩) /\ w' = w:=Any.strings_Join_none Tryz.laysJoin Tryz.extraJoin a c sep w
theorem Tryz.join (bk o c : Nat) (xs : List ByteArray) (sep : ByteArray) (w : World)
  (hcells : ∀ (j : Nat) x,xs[j]? = some x -> w.cell? ⟨bk,o + j,none⟩ = some (.string x))
  (hbk : bk < w.heap.size) (hN : xs.length <= 140737488355328) (hcap : xs.length <= c)
  (hlen : (Lib.join (xs.map (·.data.toList)) sep.data.toList).length <= 140737488355328) :
  Calls Tryz.prog 88 #[.slice (some ⟨bk,o,none⟩) xs.length c,.string sep] w fun e w'=>e = .returned (.string ⟨(Lib.join (xs.map (·.data.toList)) sep.data.toList).toArray⟩) /\ RowKit.Below w.heap.size w w':=Any.strings_Join Tryz.laysJoin Tryz.extraJoin bk o c xs sep w hcells hbk hN hcap hlen
end Go.Proofs
namespace GP
open Go Go.Proofs
set_option maxRecDepth 100000
open Classical in
noncomputable def φjoin : List D -> Option D
 | [l,.str sep]=>if isLs isTx l /\ (Lib.join ((elems l).map strOf) sep).length <= 2 ^ 47 then some (.str (Lib.join ((elems l).map strOf) sep)) else none
 | _=>none
theorem ok_libM {f : FuncId} {φ : List D -> Option D}
  (h : ∀ args r,φ args = some r -> ∀ (c : Cx) (w : World) (vs : List Value),(∀ a v,c.M a = some v -> w.cell? a = some v) -> Reps c args vs -> (callFunc f vs.toArray).run Tryz.prog w = .ok (.enter f vs.toArray) w ∧
   Calls Tryz.prog f vs.toArray w fun e w'=>∃ v,e = .returned v /\ Rep c r v /\ Below (false,w.heap.size) w w') : OkAt Tryz.prog f φ:=by
 intro args r hr args' he H T Q hQ c w vs hg k1 k2 k3
 have k3' : Reps c args vs:=by rw [<- he];exact k3.erase
 obtain ⟨g1,g2⟩:=h args r hr c w vs k1.keep k3'
 refine .inl ⟨g1,g2.mono ?_⟩
 rintro e w' ⟨v,rfl,h1,h2⟩
 exact ⟨v,rfl,r,H,T,c,hQ,h1,k1.grownB h2,Cx.le.refl c,k2,by have:=h2.mono k1.low;rwa [show ((false,c.B) : Bool × Nat) = c.bb by rw [<- hg.1]] at this⟩
theorem ok88 : OkAt Tryz.prog 88 φjoin:=by
 refine ok_libM fun args r h c w vs hk hr=>?_
 unfold φjoin at h
 split at h
 ·rename_i l sep
  split at h
  ·rename_i hv
   obtain ⟨⟨n,xs,rfl,hl,hx⟩,hj⟩:=hv
   injection h with h;subst h
   rw [elems_sliceD] at hj ⊢
   have e88 : ∀ args w,(callFunc 88 args).run Tryz.prog w = .ok (.enter 88 args) w:=enters_of Tryz.func88 (by kernel_rfl) rfl
   refine ⟨e88 _ _,?_⟩
   match vs,hr.len with
   | [v0,v1],_ =>
    have h0:=hr.rep 0 (by simp) (by simp)
    have h1:=hr.rep 1 (by simp) (by simp)
    simp only [List.getElem_cons_zero,List.getElem_cons_succ] at h0 h1
    cases h1 with
    | str _ hsl =>
    have none' : ∀ (a : Option Addr) (cp : Nat),xs = [] -> v0 = .slice a 0 cp -> Calls Tryz.prog 88 [v0,.string ⟨sep.toArray⟩].toArray w fun e w'=>∃ v,e = .returned v /\ Rep c (.str (Lib.join (xs.map strOf) sep)) v /\ Below (false,w.heap.size) w w':=fun a cp hxs hv0=>by
     subst hxs;subst hv0
     refine (Tryz.join_none a cp ⟨sep.toArray⟩ w).mono ?_
     rintro e w' ⟨rfl,rfl⟩
     exact ⟨_,rfl,.str [] (by simp),Below.refl _ _⟩
    rcases sliceD_cases n xs with ⟨e1,hnil⟩ | e1
    ·rw [e1] at h0
     cases h0
     exact none' none 0 hnil rfl
    ·rw [e1] at h0
     cases h0 with
     | sl t _ a cap sz us hlen hb hsz h1 ha hs hM hrep htl ht =>
      by_cases hne : xs = []
      ·subst hne;exact none' a cap rfl rfl
      ·obtain ⟨b,rfl⟩:=ha hne
       have hsp:=hs hne b rfl
       obtain ⟨bk,off,sp⟩:=b
       simp only at hsp;subst hsp
       have sz1 : sz = 1:=by
        cases xs with
        | nil=>exact (hne rfl).elim
        | cons x xs =>
         obtain ⟨s,rfl,_⟩:=hx x (by simp)
         exact (hsz (.str s) (by simp)).symm
       subst sz1
       have cell : ∀ (j : Nat) (s : List UInt8),xs[j]? = some (.str s) -> w.cell? ⟨bk,off + j,none⟩ = some (.string ⟨s.toArray⟩):=fun j s hj=>by
        have hjl : j < xs.length:=by
         rcases Nat.lt_or_ge j xs.length with h | h
         ·exact h
         ·rw [List.getElem?_eq_none h] at hj;cases hj
        have hxj : xs[j] = .str s:=by simpa [hjl] using hj
        have m:=hk _ _ (hM j hjl 0 (by omega) _ rfl)
        have r:=hrep j hjl 0 (by rw [hxj];simp [D.cells])
        simp only [hxj,D.cells,List.getElem_cons_zero] at r
        simp only [Nat.mul_one,Nat.add_zero] at m
        obtain ⟨u,hu⟩ : ∃ u,us j 0 = u:=⟨_,rfl⟩
        rw [hu] at m r
        cases r
        exact m
       have eqj : ((xs.map strOf).map (fun s : List UInt8=>(⟨s.toArray⟩ : ByteArray))).map (fun b : ByteArray=>b.data.toList) = xs.map strOf:=by
        rw [List.map_map];exact (List.map_congr_left fun s _=>by simp).trans (List.map_id _)
       have hcl:=Tryz.join bk off cap ((xs.map strOf).map fun s=>(⟨s.toArray⟩ : ByteArray)) ⟨sep.toArray⟩ w ?_ ?_ (by simp;omega) (by simpa using hlen) (by rw [eqj];simpa using hj)
       ·rw [eqj] at hcl
        simp only [List.length_map] at hcl
        refine hcl.mono ?_
        rintro e w' ⟨rfl,hbl⟩
        refine ⟨_,rfl,?_,Below.of_kit hbl⟩
        exact .str _ (by omega)
       ·intro j x hjx
        rw [List.map_map] at hjx
        simp only [List.getElem?_map,Option.map_eq_some_iff,Function.comp] at hjx
        obtain ⟨d,hd,rfl⟩:=hjx
        obtain ⟨s,rfl,_⟩:=hx d (List.mem_of_getElem? hd)
        exact cell j s hd
       ·cases xs with
        | nil=>exact (hne rfl).elim
        | cons x xs =>
         obtain ⟨s,rfl,_⟩:=hx x (by simp)
         have:=cell 0 s rfl
         rcases Nat.lt_or_ge bk w.heap.size with h | h
         ·exact h
         ·simp [World.cell?,Array.getElem?_eq_none h] at this
  ·cases h
 ·cases h
end GP
namespace GP
open Go Go.Proofs
set_option maxRecDepth 100000
def shwB : D -> Bool
 | .agg [.int .i64 k,.str s,.int .i64 n]=>((k == 1) || (k == 5)) && formI k s n && decide (s.length <= 2 ^ 47)
 | _=>false
theorem shwB_elim {x : D} (h : shwB x = true) : ∃ k s n,x = .agg [.int .i64 k,.str s,.int .i64 n] /\ (k = 1 ∨ k = 5) /\ formI k s n = true /\ s.length <= 2 ^ 47:=by
 unfold shwB at h
 split at h
 ·simp only [Bool.and_eq_true,Bool.or_eq_true,decide_eq_true_eq,beq_iff_eq] at h
  exact ⟨_,_,_,rfl,h.1.1,h.1.2,h.2⟩
 ·cases h
def φshw : List D -> Option D
 | [x]=>if shwB x = true then some (.str (ts x)) else none
 | _=>none
set_option maxHeartbeats 1000000 in
theorem ok101w : OkAt Tryz.prog 101 φshw:=by
 refine ok_of (l:=[(166,φform)]) (.cons ok166 .nil) fn101 fun args r h=>?_
 unfold φshw at h
 split at h
 ·rename_i x
  split at h
  ·rename_i hx
   injection h with h;subst h
   refine ⟨by simp,by simp [D.cl],fun H T=>?_⟩
   obtain ⟨k,s,n,rfl,hk,hf,hs⟩:=shwB_elim hx
   have p : φform [.agg [.int .i64 k,.str s,.int .i64 n]] = some (.bool true):=by
    simp only [φform];rw [if_pos (by omega),hf]
   have e : ts (.agg [.int .i64 k,.str s,.int .i64 n]) = s:=rfl
   rw [e]
   rcases hk with rfl | rfl
   ·simp +contextual (maxSteps:=10000000) only [c101,p,go_sem]
   ·simp +contextual (maxSteps:=10000000) only [c101,p,go_sem]
  ·cases h
 ·cases h
def jnT (toks : List D) : List UInt8:=Lib.join (toks.map ts) [32]
def jnOk (toks : List D) : Bool:=toks.all shwB && !toks.isEmpty && decide (toks.length <= 2 ^ 20) && decide ((jnT toks).length <= 2 ^ 40)
def φjn : List D -> Option D
 | [.sl none toks]=>if jnOk toks = true then some (.str (jnT toks)) else none
 | _=>none
set_option maxHeartbeats 1000000 in
theorem ok46w : OkAt Tryz.prog 46 φjn:=by
 have hX:=XL_mono [(101,φshw),(88,φjoin)]
 refine ok_of (l:=[(101,φshw),(88,φjoin)]) (.cons ok101w (.cons ok88 .nil)) fn46 fun args r h=>?_
 unfold φjn at h
 split at h
 ·rename_i toks
  split at h
  ·rename_i hc
   simp only [jnOk,Bool.and_eq_true,decide_eq_true_eq,Bool.not_eq_true',List.isEmpty_eq_false_iff] at hc
   obtain ⟨⟨⟨h1,h0⟩,h2⟩,h3⟩:=hc
   injection h with h;subst h
   refine ⟨by simp,by simp [D.cl],fun H T=>?_⟩
   have strs : ∀ l : List D,(l.map fun x=>D.str (ts x)).map strOf = l.map ts:=fun l=>by rw [List.map_map];rfl
   have lens : ∀ x ∈ toks,(ts x).length <= 2 ^ 47:=fun x hx=>by
    obtain ⟨k,s,n,rfl,_,_,hs⟩:=shwB_elim (List.all_eq_true.1 h1 x hx)
    exact hs
   have p88 : φjoin [.sl none (toks.map fun x=>D.str (ts x)),.str [32]] = some (.str (jnT toks)):=by
    have hL : isLs isTx (.sl none (toks.map fun x=>D.str (ts x))):=⟨false,_,rfl,by rw [List.length_map];omega,fun y hy=>by
     obtain ⟨x,hx,rfl⟩:=List.mem_map.1 hy
     exact ⟨_,rfl,lens x hx⟩⟩
    have e : elems (.sl none (toks.map fun x=>D.str (ts x))) = toks.map fun x=>D.str (ts x):=rfl
    simp only [φjoin]
    rw [if_pos ⟨hL,by rw [e,strs];exact Nat.le_trans h3 (by decide)⟩,e,strs];rfl
   have hE : D.eraseL (toks.map fun x=>D.str (ts x)) = toks.map fun x=>D.str (ts x):=eraseL_id fun y hy=>by
    obtain ⟨x,_,rfl⟩:=List.mem_map.1 hy;rfl
   obtain ⟨J,hJ⟩ : ∃ z,jnT toks = z:=⟨_,rfl⟩
   rw [hJ] at p88 ⊢
   simp +contextual (maxSteps:=10000000) only [c46,go_sem]
   refine W_each toks (fun i s=>s.t 6 = .sl none toks /\ s.t 7 = .int .i64 (toks.length : Int) /\ s.t 8 = .int .i64 (i : Int) /\ (∃ L,s.H = H ++ L) /\ accT 1 T ((toks.take i).map fun x=>D.str (ts x)) (s.t 3) s.T) hX ⟨by simp [upd,argT],by simp [upd],by simp [upd],⟨[],by simp⟩,by simpa [upd] using accT.nil 1 T (ExtT.refl _)⟩ ?_ ?_
   ·rintro i x ⟨t,B,U⟩ hx hm hi ⟨t6,t7,t8,⟨L,rfl⟩,hA⟩
    simp only at t6 t7 t8 hA
    have d1 : decide ((i : Int) < toks.length) = true:=by simpa using hi
    have hxs:=List.all_eq_true.1 h1 x hm
    have p : φshw [x] = some (.str (ts x)):=by simp only [φshw];rw [if_pos hxs]
    have nx : (toks.take (i + 1)).map (fun x=>D.str (ts x)) = (toks.take i).map (fun x=>D.str (ts x)) ++ [.str (ts x)]:=by
     rw [List.take_add_one,hx];simp
    have hf : ((toks.take i).map fun x=>D.str (ts x)).all (fit 1) = true:=List.all_eq_true.2 fun y hy=>by
     obtain ⟨z,_,rfl⟩:=List.mem_map.1 hy;rfl
    rw [nx]
    have hlen : ((toks.take i).map fun x=>D.str (ts x)).length <= 2 ^ 20:=by rw [List.length_map,List.length_take];omega
    generalize (toks.take i).map (fun x=>D.str (ts x)) = A at hA hf hlen ⊢
    clear nx
    obtain ⟨k,s,n,rfl,_,_,hs⟩:=shwB_elim hxs
    have e : ts (.agg [.int .i64 k,.str s,.int .i64 n]) = s:=rfl
    rw [e] at p ⊢
    simp +contextual (maxSteps:=10000000) only [t6,t7,t8,d1,hx,p,go_sem]
    refine app_accT (bytes:=16) _ (hA.app _) rfl hf (by simp;omega) (by simp;omega) fun d2 T2 hA2=>?_
    simp +contextual (maxSteps:=10000000) only [t6,t7,t8,wrap_succ i (by omega),go_sem]
    exact ⟨⟨_,rfl⟩,hA2⟩
   ·rintro ⟨t,B,U⟩ ⟨t6,t7,t8,⟨L,rfl⟩,hA⟩
    simp only at t6 t7 t8 hA
    have d1 : decide ((toks.length : Int) < toks.length) = false:=by simp
    rw [List.take_length] at hA
    have he:=hA.erase hE (by simp [h0])
    obtain ⟨⟨M,rfl⟩,_⟩:=hA
    simp +contextual (maxSteps:=10000000) only [t6,t7,t8,d1,he,p88,go_sem]
  ·cases h
 ·cases h
theorem leavesG_id {H H1 L : Hp} {T T1 U : Tk} {r : D} (hl : H.length <= H1.length) (tl : T.length <= T1.length) (hr : ∀ (o : Nat) x,H1[o]? = some x -> H[o]? = some x ∨ ∃ cs,x = .row cs /\ ∀ d ∈ cs,d.one = true) : LeavesG H T r H1 T1 r (H1 ++ L) (T1 ++ U):=by
 refine ⟨_,_,.refl _ _,id,id,fun _ _=>rfl,fun _ _=>rfl,by rw [ren_id];exact Crs.refl _,fun o x h=>⟨x,?_,?_⟩,fun _ _ _ _ h=>h,fun _ _ _ _ h=>h,fun τ h=>?_,hl,tl⟩
 ·show (H1 ++ L)[o]? = some x
  rw [List.getElem?_append_left (lt_of_get h)];exact h
 ·rcases hr o x h with h' | ⟨cs,rfl,hc⟩
  ·exact .inl ⟨rfl,h'⟩
  ·exact .inr (.inl ⟨cs,cs,rfl,rfl,rfl,hc,fun i h _=>by rw [ren_id];exact Crs.refl _⟩)
 ·show (T1 ++ U)[τ]? = T1[τ]?
  rw [List.getElem?_append_left h]
theorem saddE {a b : List UInt8} (h : a.length + b.length < 2 ^ 62) : bin2 .add (.str a) (.str b) = some (.str (a ++ b)):=by
 show strOp .add a b = _
 unfold strOp
 rw [if_pos h]
def lineT (pre : List UInt8) (toks : List D) : List UInt8:=pre ++ jnT toks ++ [10]
def φline (H : Hp) (T : Tk) : List D -> Option (D × Hp × Tk)
 | [.ptr o 0,.str pre,.sl none toks]=>if jnOk toks = true /\ pre.length <= 1000 then (match H[o]? with
  | some (.row [.nils,.int .i64 n])=>some (.tup [],H.set o (.row [.sl (some T.length) [.str (lineT pre toks)],.int .i64 (IntKind.i64.wrap (n + (toks.length : Int)))]),T ++ [some (1,1)])
  | some (.row [.sl (some τ) xs,.int .i64 n])=>if T[τ]? = some (some (xs.length,1)) /\ xs.length <= 2 ^ 20 /\ xs.all (fit 1) = true /\ D.clL 0 0 xs = true then
    some (.tup [],H.set o (.row [.sl (some τ) (xs ++ [.str (lineT pre toks)]),.int .i64 (IntKind.i64.wrap (n + (toks.length : Int)))]),T.set τ (some (xs.length + 1,1))) else none
  | _=>none) else none
 | _=>none
set_option maxHeartbeats 2000000 in
theorem ok82 : OkAtG Tryz.prog 82 φline:=by
 refine okG_of (X:=XG Tryz.prog [] [(46,φjn)] [] [] []) (XG.X (.cons ok46w .nil) .nil .nil .nil) fn82 fun H T args r H1 T1 h=>?_
 have hM : MonoH []:=.nil
 unfold φline at h
 split at h
 ·rename_i o pre toks
  split at h
  ·rename_i hc
   obtain ⟨hj,hp⟩:=hc
   have p : φjn [.sl none toks] = some (.str (jnT toks)):=by simp only [φjn];rw [if_pos hj]
   have hjl : (jnT toks).length <= 2 ^ 40:=by
    simp only [jnOk,Bool.and_eq_true,decide_eq_true_eq] at hj;exact hj.2
   have htl : toks.length <= 2 ^ 20:=by
    simp only [jnOk,Bool.and_eq_true,decide_eq_true_eq] at hj;exact hj.1.2
   have hE : D.eraseL toks = toks:=eraseL_id fun x hx=>by
    simp only [jnOk,Bool.and_eq_true] at hj
    obtain ⟨k,s,n,rfl,_⟩:=shwB_elim (List.all_eq_true.1 hj.1.1.1 x hx)
    rfl
   unfold lineT at h
   obtain ⟨J,hJ⟩ : ∃ z,jnT toks = z:=⟨_,rfl⟩
   rw [hJ] at p hjl h
   split at h
   ·rename_i n ho
    injection h with h;injection h with h1 h;injection h with h2 h3
    subst h1;subst h2;subst h3
    have hol:=lt_of_get ho
    have hos : ∀ x,(H.set o x)[o]? = some x:=fun x=>by simp [hol]
    have hss : ∀ x y,(H.set o x).set o y = H.set o y:=fun x y=>by simp
    refine ⟨by simp,by simp [D.cl,D.clL],⟨by simp,fun o' x cs hx hcs=>?_⟩,?_⟩
    ·rcases Nat.lt_or_ge o' o with h' | h'
     ·rw [List.getElem?_set_ne (by omega)] at hx;exact .inl hx
     ·rcases Nat.eq_or_lt_of_le h' with e | h''
      ·subst e
       rw [hos] at hx;injection hx with hx;subst hx
       injection hcs with hcs;subst hcs
       exact .inr (by simp [D.clL,D.cl])
      ·rw [List.getElem?_set_ne (by omega)] at hx;exact .inl hx
    ·have fin:=leavesG_id (H:=H) (H1:=H.set o (.row [.sl (some T.length) [.str (pre ++ J ++ [10])],.int .i64 (IntKind.i64.wrap (n + (toks.length : Int)))])) (L:=[]) (T:=T) (T1:=T ++ [some (1,1)]) (U:=[]) (r:=.tup []) (by simp) (by simp) (fun o' x hx=>by
      rcases Nat.lt_or_ge o' o with h' | h'
      ·rw [List.getElem?_set_ne (by omega)] at hx;exact .inl hx
      ·rcases Nat.eq_or_lt_of_le h' with e | h''
       ·subst e
        rw [hos] at hx;injection hx with hx;subst hx
        exact .inr ⟨_,rfl,by simp [D.one]⟩
       ·rw [List.getElem?_set_ne (by omega)] at hx;exact .inl hx)
     simp only [List.append_nil] at fin
     have b1 : bin2 .add (.str pre) (.str J) = some (.str (pre ++ J)):=saddE (by omega)
     have b2 : bin2 .add (.str (pre ++ J)) (.str [10]) = some (.str (pre ++ J ++ [10])):=saddE (by simp;omega)
     simp only [List.append_assoc] at b1 b2 fin
     have r0:=fun off=>rdAt_E ho off
     have s0:=fun (K : D -> S -> Prop) t T n off v=>storeK_E (K:=K) ho t T n off v
     have rc0:=fun X off=>rd_cu0 (p:=o) hol X off
     have sc0:=fun (K : D -> S -> Prop) X t T n off v=>st_cu0 (p:=o) (K:=K) hol X t T n off v
     simp +contextual (maxSteps:=10000000) only [c82,r0,s0,rc0,sc0,p,hE,b1,b2,pcallG hM,go_sem]
     exact ⟨by decide,fin⟩
   ·rename_i τ xs n ho
    split at h
    ·rename_i hq
     obtain ⟨hT,hxl,hfx,hcx⟩:=hq
     injection h with h;injection h with h1 h;injection h with h2 h3
     subst h1;subst h2;subst h3
     have hol:=lt_of_get ho
     have hτl:=lt_of_get hT
     have hos : ∀ x,(H.set o x)[o]? = some x:=fun x=>by simp [hol]
     refine ⟨by simp,by simp [D.cl,D.clL],⟨by simp,fun o' x cs hx hcs=>?_⟩,?_⟩
     ·rcases Nat.lt_or_ge o' o with h' | h'
      ·rw [List.getElem?_set_ne (by omega)] at hx;exact .inl hx
      ·rcases Nat.eq_or_lt_of_le h' with e | h''
       ·subst e
        rw [hos] at hx;injection hx with hx;subst hx
        injection hcs with hcs;subst hcs
        have hcl : ∀ i j,D.clL i j (xs ++ [.str (pre ++ J ++ [10])]) = true:=fun i j=>by
         have:=D.clL_mono (Nat.zero_le i) (Nat.zero_le j) xs hcx
         refine clL_of fun d hd=>?_
         rcases List.mem_append.1 hd with h | h
         ·exact clL_mem this d h
         ·rw [List.mem_singleton] at h;subst h;rfl
        refine .inr ?_
        simp only [D.clL,D.cl,hcl,Bool.and_true,decide_eq_true_eq,List.length_set]
        exact hτl
       ·rw [List.getElem?_set_ne (by omega)] at hx;exact .inl hx
     ·have fin:=leavesG_id (H:=H) (H1:=H.set o (.row [.sl (some τ) (xs ++ [.str (pre ++ J ++ [10])]),.int .i64 (IntKind.i64.wrap (n + (toks.length : Int)))])) (L:=[]) (T:=T) (T1:=T.set τ (some (xs.length + 1,1))) (U:=[]) (r:=.tup []) (by simp) (by simp) (fun o' x hx=>by
       rcases Nat.lt_or_ge o' o with h' | h'
       ·rw [List.getElem?_set_ne (by omega)] at hx;exact .inl hx
       ·rcases Nat.eq_or_lt_of_le h' with e | h''
        ·subst e
         rw [hos] at hx;injection hx with hx;subst hx
         exact .inr ⟨_,rfl,by simp [D.one]⟩
        ·rw [List.getElem?_set_ne (by omega)] at hx;exact .inl hx)
      simp only [List.append_nil] at fin
      have b1 : bin2 .add (.str pre) (.str J) = some (.str (pre ++ J)):=saddE (by omega)
      have b2 : bin2 .add (.str (pre ++ J)) (.str [10]) = some (.str (pre ++ J ++ [10])):=saddE (by simp;omega)
      simp only [List.append_assoc] at b1 b2 fin
      have r0:=fun off=>rdAt_E ho off
      have s0:=fun (K : D -> S -> Prop) t T n off v=>storeK_E (K:=K) ho t T n off v
      have rc0:=fun X off=>rd_cu0 (p:=o) hol X off
      have sc0:=fun (K : D -> S -> Prop) X t T n off v=>st_cu0 (p:=o) (K:=K) hol X t T n off v
      simp +contextual (maxSteps:=10000000) only [c82,r0,s0,rc0,sc0,p,hE,b1,b2,pcallG hM,go_sem]
      simp only [appK]
      refine ⟨rfl,hT,by simp;omega,by simp;omega,hfx,?_⟩
      simp +contextual (maxSteps:=10000000) only [r0,s0,rc0,sc0,p,hE,pcallG hM,go_sem]
      exact fin
    ·cases h
   ·cases h
  ·cases h
 ·cases h
end GP
namespace GP
open Go Go.Proofs
set_option maxRecDepth 100000
def φfd0 : List D -> Option D
 | [.agg [.nils,.str s,.nils]]=>if s.length <= 2 ^ 47 then some (.bool (formI 1 s 0)) else none
 | _=>none
set_option maxHeartbeats 1000000 in
theorem ok81w : OkAt Tryz.prog 81 φfd0:=by
 have hX:=XL_mono [(134,φfk 1)]
 refine ok_of (l:=[(134,φfk 1)]) (.cons ok134 .nil) fn81 fun args r h=>?_
 unfold φfd0 at h
 split at h
 ·rename_i s
  split at h
  ·rename_i hs
   injection h with h;subst h
   refine ⟨by simp,by simp [D.cl],fun H T=>?_⟩
   have p:=fk_at (k:=1) hs
   obtain ⟨tl,htl⟩ : ∃ z,C.tl 2 c81 = z:=⟨_,rfl⟩
   obtain ⟨b,hb⟩ : ∃ z,formI 1 s 0 = z:=⟨_,rfl⟩
   rw [hb] at p ⊢
   simp +contextual (maxSteps:=10000000) only [c81,go_sem]
   refine W_each [] (fun j s'=>s'.t 1 = .ptr H.length 0 /\ s'.t 11 = .int .i64 0 /\ s'.t 12 = .int .i64 0 /\ s'.H = H ++ [.row [.nils,.str s,.nils]] /\ s'.T = T) hX ⟨by simp [upd,argT],by simp [upd],by simp [upd],rfl,rfl⟩ (fun i x s hx=>by simp at hx) ?_
   rintro ⟨t,B,U⟩ ⟨t1,t11,t12,rfl,rfl⟩
   simp only at t1 t11 t12
   simp +contextual (maxSteps:=10000000) only [t1,t11,t12,go_sem]
   refine W_each [] (fun j s'=>s'.t 1 = .ptr H.length 0 /\ s'.t 39 = .int .i64 0 /\ s'.t 40 = .int .i64 0 /\ s'.H = H ++ [.row [.nils,.str s,.nils]] /\ s'.T = U) hX ⟨by simp [upd,t1],by simp [upd],by simp [upd],rfl,rfl⟩ (fun i x s hx=>by simp at hx) ?_
   rintro ⟨t,B,U⟩ ⟨t1,t39,t40,rfl,rfl⟩
   simp only at t1 t39 t40
   simp +contextual (maxSteps:=10000000) only [t1,t39,t40,p,go_sem]
  ·cases h
 ·cases h
def line0 (s : List UInt8) : List UInt8:=[117,115,101,32] ++ s ++ [32,59,10]
def φdoc0 : List D -> Option D
 | [.agg [.nils,.str s,.nils]]=>if s.length <= 64 /\ formI 1 s 0 = true then some (.tup [.str (line0 s),.int .i64 0]) else none
 | _=>none
theorem jn0 {s : List UInt8} (hf : formI 1 s 0 = true) (hs : s.length <= 64) : jnOk [mkT 1 [117,115,101] 0,mkT 1 s 0,mkT 5 [59] 0] = true /\ lineT [] [mkT 1 [117,115,101] 0,mkT 1 s 0,mkT 5 [59] 0] = line0 s:=by
 have e : jnT [mkT 1 [117,115,101] 0,mkT 1 s 0,mkT 5 [59] 0] = [117,115,101,32] ++ s ++ [32,59]:=by
  simp [jnT,ts_mk,Lib.join]
 constructor
 ·unfold jnOk
  rw [e]
  have h3 : formI 5 [59] 0 = true:=by decide
  have h1 : formI 1 [117,115,101] 0 = true:=by decide
  have hd : decide (s.length <= 2 ^ 47) = true:=by simp;omega
  simp only [List.all_cons,List.all_nil,mkT,shwB,h1,h3,hf,hd]
  simp
  omega
 ·unfold lineT line0
  rw [e];simp
set_option maxHeartbeats 4000000 in
theorem ok37w : OkAt Tryz.prog 37 φdoc0:=by
 have hM : MonoH []:=.nil
 have hXX:=XG.X (P:=Tryz.prog) (u:=[]) (.cons ok81w (.cons tok84 (.cons ok88 .nil))) .nil .nil (.cons ok82 .nil)
 have hX:=XG_mono (P:=Tryz.prog) [] [(81,φfd0),(84,φsP),(88,φjoin)] [] [] [(82,φline)]
 refine okX_of (X:=XG Tryz.prog [] [(81,φfd0),(84,φsP),(88,φjoin)] [] [] [(82,φline)]) hXX fn37 fun args r h=>?_
 unfold φdoc0 at h
 split at h
 ·rename_i s
  split at h
  ·rename_i hc
   obtain ⟨hs,hf⟩:=hc
   injection h with h;subst h
   refine ⟨by simp,by simp [D.cl,D.clL],fun H T=>?_⟩
   have p81 : φfd0 [.agg [.nils,.str s,.nils]] = some (.bool true):=by
    simp only [φfd0];rw [if_pos (by omega),hf]
   have p84:=sg3 (a:=[117,115,101]) (b:=s) (c:=[59]) (by decide) (by omega) (by decide)
   rw [sT_word (s:=[117,115,101]) (by decide),sT_word hf,sT_sign (s:=[59]) (by decide)] at p84
   obtain ⟨j1,j2⟩:=jn0 hf hs
   have hw : IntKind.i64.wrap ((0 : Int) + ((3 : Nat) : Int)) = 3:=by decide
   have pl : ∀ T',φline (H ++ [.row [.nils,.str s,.nils],.row [.nils,.int .i64 0]]) T' [.ptr (H.length + 1) 0,.str [],.sl none [mkT 1 [117,115,101] 0,mkT 1 s 0,mkT 5 [59] 0]] = some (.tup [],H ++ [.row [.nils,.str s,.nils],.row [.sl (some T'.length) [.str (line0 s)],.int .i64 3]],T' ++ [some (1,1)]):=fun T'=>by
    have ho : (H ++ [Ob.row [.nils,.str s,.nils],.row [.nils,.int .i64 0]])[H.length + 1]? = some (.row [.nils,.int .i64 0]):=by
     rw [List.getElem?_append_right (by omega)];simp
    simp only [φline]
    rw [if_pos ⟨j1,by simp⟩,ho]
    simp only [List.length_cons,List.length_nil,j2]
    rw [show IntKind.i64.wrap ((0 : Int) + ((0 + 1 + 1 + 1 : Nat) : Int)) = 3 by decide,List.set_append_right _ _ (by omega)]
    simp
   have ll : (line0 s).length = s.length + 7:=by simp [line0]
   have p88 : φjoin [.sl none [.str (line0 s)],.str []] = some (.str (line0 s)):=by
    have hL : isLs isTx (.sl none [.str (line0 s)]):=⟨false,_,rfl,by simp,fun y hy=>by
     rw [List.mem_singleton] at hy;subst hy;exact ⟨_,rfl,by omega⟩⟩
    have e : elems (.sl none [.str (line0 s)]) = [.str (line0 s)]:=rfl
    have ej : Lib.join [line0 s] [] = line0 s:=by simp [Lib.join]
    simp only [φjoin]
    rw [if_pos ⟨hL,by rw [e];show (Lib.join [line0 s] []).length <= _;rw [ej];omega⟩,e]
    show some (D.str (Lib.join [line0 s] [])) = _
    rw [ej]
   obtain ⟨Z,hZ⟩ : ∃ z,line0 s = z:=⟨_,rfl⟩
   rw [hZ] at pl p88 ll ⊢
   simp only [mkT] at p84 pl
   simp +contextual (maxSteps:=10000000) only [c37,p81,pcallG hM,go_sem]
   refine W_each [] (fun j s'=>s'.t 1 = .ptr H.length 0 /\ s'.t 4 = .ptr (H.length + 1) 0 /\ s'.t 17 = .int .i64 0 /\ s'.t 18 = .int .i64 0 /\ s'.H = H ++ [.row [.nils,.str s,.nils],.row [.nils,.int .i64 0]] /\ s'.T = T) hX ⟨by simp [upd,argT],by simp [upd],by simp [upd],by simp [upd],by simp,rfl⟩ (fun i x s hx=>by simp at hx) ?_
   rintro ⟨t,B,U⟩ ⟨t1,t4,t17,t18,rfl,rfl⟩
   simp only at t1 t4 t17 t18
   simp +contextual (maxSteps:=10000000) only [t1,t4,t17,t18,p84,pl,pcallG hM,go_sem]
   refine W_each [] (fun j s'=>s'.t 4 = .ptr (H.length + 1) 0 /\ s'.t 33 = .int .i64 0 /\ s'.t 34 = .int .i64 0 /\ ∃ τ M,s'.H = H ++ [.row [.nils,.str s,.nils],.row [.sl (some τ) [.str Z],.int .i64 3]] /\ s'.T = U ++ M) hX ⟨by simp [upd,t4],by simp [upd],by simp [upd],_,_,rfl,rfl⟩ (fun i x s hx=>by simp at hx) ?_
   rintro ⟨t,B,U'⟩ ⟨t4,t33,t34,τ,M,rfl,rfl⟩
   simp only at t4 t33 t34
   have d0 : decide ((4096 : Int) < (Z.length : Nat)) = false:=by simp;omega
   simp +contextual (maxSteps:=10000000) only [t4,t33,t34,p88,d0,pcallG hM,go_sem]
   exact leavesE_mk rfl ⟨_,rfl⟩ ⟨_,rfl⟩
  ·cases h
 ·cases h
def φawake : List D -> Option D
 | []=>some (.bool true)
 | _=>none
theorem ok33 : OkAt Tryz.prog 33 φawake:=by
 refine ok_of (l:=[(37,φdoc0)]) (.cons ok37w .nil) fn33 fun args r h=>?_
 unfold φawake at h
 split at h
 ·injection h with h;subst h
  refine ⟨by simp,by simp [D.cl],fun H T=>?_⟩
  have p : φdoc0 [.agg [.nils,.str [102,105,114,115,116],.nils]] = some (.tup [.str [117,115,101,32,102,105,114,115,116,32,59,10],.int .i64 0]):=by
   simp only [φdoc0];rw [if_pos ⟨by decide,by decide⟩];rfl
  simp +contextual (maxSteps:=10000000) only [c33,p,go_sem]
 ·cases h
end GP
namespace GP
open Go Go.Proofs
set_option maxRecDepth 100000
theorem dg_nat {d : Nat} (h : d < 10) : (UInt8.ofNat (48 + d)).toNat = 48 + d:=by simp;omega
theorem isDig_dg {d : Nat} (h : d < 10) : isDig (UInt8.ofNat (48 + d)) = true:=by rw [isDig_iff,dg_nat h];omega
theorem dd_small {u : Nat} (h : u < 10) : Lib.decDigits u = [UInt8.ofNat (48 + u)]:=by rw [Lib.decDigits,dif_pos h]
theorem dd_big {u : Nat} (h : ¬ u < 10) : Lib.decDigits u = Lib.decDigits (u / 10) ++ [UInt8.ofNat (48 + u % 10)]:=by
 conv=>lhs;rw [Lib.decDigits]
 rw [dif_neg h]
theorem dd_spec : ∀ (m u : Nat),u <= m -> (∀ b ∈ Lib.decDigits u,isDig b = true) /\ decV (Lib.decDigits u) = u /\ 1 <= (Lib.decDigits u).length /\ ∀ j,u < 10 ^ (j + 1) -> (Lib.decDigits u).length <= j + 1
 | m,u,h=>by
  by_cases hu : u < 10
  ·rw [dd_small hu]
   refine ⟨fun b hb=>by rw [List.mem_singleton] at hb;subst hb;exact isDig_dg hu,?_,by simp,by simp⟩
   simp only [decV,decA,List.foldl_cons,List.foldl_nil,dg_nat hu];omega
  ·have hm : 0 < m:=by omega
   obtain ⟨i1,i2,i3,i4⟩:=dd_spec (m - 1) (u / 10) (by omega)
   rw [dd_big hu]
   have hd : u % 10 < 10:=Nat.mod_lt _ (by decide)
   refine ⟨?_,?_,by simp,?_⟩
   ·intro b hb
    rcases List.mem_append.1 hb with hb | hb
    ·exact i1 b hb
    ·rw [List.mem_singleton] at hb;subst hb;exact isDig_dg hd
   ·simp only [decV,decA] at i2 ⊢
    rw [List.foldl_append,i2]
    simp only [List.foldl_cons,List.foldl_nil,dg_nat hd];omega
   ·intro j hj
    cases j with
    | zero=>simp at hj;omega
    | succ j =>
     have:=i4 j (by rw [Nat.pow_succ] at hj;omega)
     simp;omega
termination_by m=>m
decreasing_by omega
theorem dd_len {u : Nat} (h : u < 2 ^ 63) : (Lib.decDigits u).length <= 19:=(dd_spec u u (Nat.le_refl _)).2.2.2 18 (by omega)
def φdigs : List D -> Option D
 | [.int .i64 n]=>if 0 <= n /\ n < 2 ^ 63 then some (.str (Lib.decDigits n.toNat)) else none
 | _=>none
set_option maxHeartbeats 4000000 in
theorem ok143 : OkAt Tryz.prog 143 φdigs:=by
 refine ok_of (l:=[]) .nil fn143 fun args r h=>?_
 unfold φdigs at h
 split at h
 ·rename_i n
  split at h
  ·rename_i hv
   obtain ⟨h0,h1⟩:=hv
   injection h with h;subst h
   obtain ⟨n,rfl⟩ : ∃ k : Nat,n = (k : Int):=⟨n.toNat,by omega⟩
   have h1 : n < 2 ^ 63:=by omega
   refine ⟨by simp,by simp [D.cl],fun H T=>?_⟩
   rw [show ((n : Int)).toNat = n from by omega]
   have hL:=dd_len h1
   simp +contextual (maxSteps:=10000000) only [c143,go_sem]
   refine W_for (fun i s'=>s'.H = H /\ ExtT T s'.T /\ ∃ (m : Nat) (acc : List UInt8),s'.t 0 = .int .i64 (m : Nat) /\ s'.t 3 = .str acc /\ m + i <= n /\ Lib.decDigits m ++ acc = Lib.decDigits n) n ⟨0,rfl,ExtT.refl T,n,[],rfl,rfl,by omega,by simp⟩ (fun i s h=>by obtain ⟨_,_,m,acc,h⟩:=h;omega) ?_ (XL_mono _)
   rintro i ⟨t,B,T'⟩ ⟨rfl,hX,m,acc,r0,r3,hm,hS⟩
   simp only at hX r0 r3
   have hacc : acc.length <= 19:=by have:=congrArg List.length hS;simp at this;omega
   by_cases hlt : m < 10
   ·have d1 : decide ((9 : Int) < (m : Nat)) = false:=by simp only [decide_eq_false_iff_not];omega
    have w1 : IntKind.i64.wrap (48 + (m : Int)) = ((48 + m : Nat) : Int):=by rw [wrap_in (by omega) (by omega)];omega
    have w2 : IntKind.u8.wrap ((48 + m : Nat) : Int) = (((UInt8.ofNat (48 + m)).toNat : Nat) : Int):=by rw [wrapU8,dg_nat hlt];omega
    have sa:=sadd (a:=[UInt8.ofNat (48 + m)]) (b:=acc) (by simp;omega)
    rw [dd_small hlt] at hS
    rw [<- hS]
    simp +contextual (maxSteps:=10000000) only [r0,r3,d1,w1,w2,b2one,sa,leaves_E (Ext.refl B) hX,leaves_Et (Ext.refl B) hX,go_sem]
   ·have d1 : decide ((9 : Int) < (m : Nat)) = true:=by simp only [decide_eq_true_eq];omega
    have hd : m % 10 < 10:=Nat.mod_lt _ (by decide)
    have t1 : ((m : Int)).tmod 10 = ((m % 10 : Nat) : Int):=rfl
    have t2 : IntKind.i64.wrap (((m : Int)).tdiv 10) = ((m / 10 : Nat) : Int):=by
     have : ((m : Int)).tdiv 10 = ((m / 10 : Nat) : Int):=rfl
     rw [this,wrap_in (by omega) (by omega)]
    have w1 : IntKind.i64.wrap (48 + ((m % 10 : Nat) : Int)) = ((48 + m % 10 : Nat) : Int):=by rw [wrap_in (by omega) (by omega)];omega
    have w2 : IntKind.u8.wrap ((48 + m % 10 : Nat) : Int) = (((UInt8.ofNat (48 + m % 10)).toNat : Nat) : Int):=by rw [wrapU8,dg_nat hd];omega
    have sa:=sadd (a:=[UInt8.ofNat (48 + m % 10)]) (b:=acc) (by simp;omega)
    simp +contextual (maxSteps:=10000000) only [r0,r3,d1,t1,t2,w1,w2,b2one,sa,hX.ta,go_sem]
    refine ⟨m / 10,UInt8.ofNat (48 + m % 10) :: acc,rfl,rfl,by omega,?_⟩
    rw [<- hS,dd_big hlt];simp
  ·cases h
 ·cases h
def esc1 (c : UInt8) : List UInt8:=if (c == 34) || (c == 92) then [92,c] else [c]
def escL (s : List UInt8) : List UInt8:=s.flatMap esc1
theorem escL_len : ∀ (s : List UInt8),(escL s).length <= 2 * s.length
 | []=>by simp [escL]
 | c :: r=>by
  have:=escL_len r
  have h1 : (esc1 c).length <= 2:=by unfold esc1;split <;> simp
  simp only [escL,List.flatMap_cons,List.length_append,List.length_cons] at this ⊢;omega
theorem escL_take {s : List UInt8} {i : Nat} {c : UInt8} (h : s[i]? = some c) : escL (s.take (i + 1)) = escL (s.take i) ++ esc1 c:=by
 rw [List.take_add_one,h];simp [escL]
def showP (k : Int) (s : List UInt8) (n : Int) : List UInt8 :=
 if k == 2 then Lib.decDigits n.toNat else if k == 4 then 64 :: Lib.decDigits n.toNat else if k == 3 then 34 :: escL s ++ [34] else s
def φshow : List D -> Option D
 | [.agg [.int .i64 k,.str s,.int .i64 n]]=>if s.length <= 2 ^ 40 /\ (k = 2 ∨ k = 4 -> 0 <= n /\ n < 2 ^ 63) then some (.str (showP k s n)) else none
 | _=>none
set_option maxHeartbeats 8000000 in
theorem ok90 : OkAt Tryz.prog 90 φshow:=by
 refine ok_of (l:=[(143,φdigs)]) (.cons ok143 .nil) fn90 fun args r h=>?_
 unfold φshow at h
 split at h
 ·rename_i k s n
  split at h
  ·rename_i hv
   obtain ⟨hl,hn⟩:=hv
   injection h with h;subst h
   refine ⟨by simp,by simp [D.cl],fun H T=>?_⟩
   unfold showP
   rcases tf (k == 2) with k2 | k2
   ·rw [if_pos k2]
    have hn:=hn (.inl (by simpa using k2))
    have p : φdigs [.int .i64 n] = some (.str (Lib.decDigits n.toNat)):=by simp only [φdigs];rw [if_pos hn]
    simp +contextual (maxSteps:=10000000) only [c90,k2,p,go_sem]
   rw [if_neg (by rw [k2];decide)]
   rcases tf (k == 4) with k4 | k4
   ·rw [if_pos k4]
    have hn:=hn (.inr (by simpa using k4))
    have p : φdigs [.int .i64 n] = some (.str (Lib.decDigits n.toNat)):=by simp only [φdigs];rw [if_pos hn]
    have hd:=dd_len (u:=n.toNat) (by omega)
    have sa:=sadd (a:=[64]) (b:=Lib.decDigits n.toNat) (by simp;omega)
    simp +contextual (maxSteps:=10000000) only [c90,k2,k4,p,sa,go_sem]
   rw [if_neg (by rw [k4];decide)]
   rcases tf (k == 3) with k3 | k3
   ·rw [if_pos k3]
    simp +contextual (maxSteps:=10000000) only [c90,k2,k4,k3,go_sem]
    refine W_for (fun i s'=>s'.t 1 = .ptr H.length 0 /\ s'.t 3 = .str (34 :: escL (s.take i)) /\ s'.t 4 = .int .i64 (i : Nat) /\ s'.H = H ++ [.row [.int .i64 k,.str s,.int .i64 n]] /\ s'.T = T /\ i <= s.length) s.length ⟨0,by simp [upd,argT,escL]⟩ (fun i s h=>h.2.2.2.2.2) ?_ (XL_mono _)
    rintro i ⟨t,B,T'⟩ ⟨r1,r3,r4,rfl,rfl,hi⟩
    simp only at r1 r3 r4
    have hE:=escL_len (s.take i)
    have ht : (s.take i).length <= s.length:=by simp;omega
    by_cases hlt : i < s.length
    ·have d1 : decide (((i : Nat) : Int) < s.length) = true:=by simp only [decide_eq_true_eq];omega
     have ex : s[i]? = some s[i]:=by simp [hlt]
     obtain ⟨b,hb⟩ : ∃ b,s[i] = b:=⟨_,rfl⟩
     rw [hb] at ex
     have ix:=fun q=>ixs_at ex q
     have e1 : ((b.toNat : Int) == 34) = (b == 34):=u8_eq b 34 (by decide)
     have e2 : ((b.toNat : Int) == 92) = (b == 92):=u8_eq b 92 (by decide)
     have tk:=escL_take ex
     have wS:=wrap_su i (by omega)
     have hs : sub (some (i : Int)) (some ((i + 1 : Nat) : Int)) (.str s) = some (.str [b]):=by
      rw [sub_s,if_pos ⟨by omega,by omega,by omega⟩,show (((i + 1 : Nat) : Int)).toNat = i + 1 from by omega,show ((i : Int)).toNat = i from by omega,sub_drop,drop_at ex];rfl
     have sa1:=sadd (a:=34 :: escL (s.take i)) (b:=[92]) (by simp;omega)
     have sa2 : bin2 .add (.str (34 :: (escL (s.take i) ++ [92]))) (.str [b]) = some (.str (34 :: (escL (s.take i) ++ [92,b]))):=by
      rw [sadd (by simp;omega)];simp
     have sa3:=sadd (a:=34 :: escL (s.take i)) (b:=[b]) (by simp;omega)
     rw [tk]
     rcases tf (b == 34) with g1 | g1
     ·have e : esc1 b = [92,b]:=by unfold esc1;rw [g1];rfl
      rw [e]
      simp +contextual (maxSteps:=10000000) only [r1,r3,r4,d1,ix,e1,g1,wS,hs,sa1,sa2,go_sem]
      omega
     rcases tf (b == 92) with g2 | g2
     ·have e : esc1 b = [92,b]:=by unfold esc1;rw [g1,g2];rfl
      rw [e]
      simp +contextual (maxSteps:=10000000) only [r1,r3,r4,d1,ix,e1,e2,g1,g2,wS,hs,sa1,sa2,go_sem]
      omega
     ·have e : esc1 b = [b]:=by unfold esc1;rw [g1,g2];rfl
      rw [e]
      simp +contextual (maxSteps:=10000000) only [r1,r3,r4,d1,ix,e1,e2,g1,g2,wS,hs,sa3,go_sem]
      omega
    ·have d1 : decide (((i : Nat) : Int) < s.length) = false:=by simp only [decide_eq_false_iff_not];omega
     have ei : i = s.length:=by omega
     rw [ei,List.take_length] at r3 hE
     have sa:=sadd (a:=34 :: escL s) (b:=[34]) (by simp;omega)
     simp +contextual (maxSteps:=10000000) only [r1,r3,r4,d1,sa,go_sem]
   rw [if_neg (by rw [k3];decide)]
   simp +contextual (maxSteps:=10000000) only [c90,k2,k4,k3,go_sem]
  ·cases h
 ·cases h
theorem form_pos {k : Int} {s : List UInt8} {n : Int} (h : formI k s n = true) : k = 2 ∨ k = 4 -> 0 <= n:=by
 rintro (rfl | rfl)
 ·unfold formI at h;rw [if_neg (by decide),if_pos (by decide)] at h
  simp only [Bool.and_eq_true,decide_eq_true_eq] at h;exact h.2
 ·unfold formI at h;rw [if_neg (by decide),if_neg (by decide),if_neg (by decide),if_pos (by decide)] at h
  simp only [Bool.and_eq_true,decide_eq_true_eq] at h;exact h.1.2
theorem below_grow (w : World) (k : Nat) (os : Array Obj) : Below (false,w.heap.size) w (Go.Sort.grow (w.drewN k) os) :=
 ⟨rfl,rfl,rfl,by simp [Go.Sort.grow,World.drewN],fun j hj=>by simp [Go.Sort.grow,World.drewN,Array.getElem?_append_left hj],fun e=>by cases e⟩
open Classical in
noncomputable def φfmt : List D -> Option D
 | [.int .i64 n,.int .i64 b]=>if b = 10 /\ 0 <= n /\ n < 2 ^ 63 then some (.str (Lib.decDigits n.toNat)) else none
 | _=>none
theorem reps2 {c : Cx} {a b : Int} {vs : List Value} (h : Reps c [.int .i64 a,.int .i64 b] vs) : vs = [.int .i64 a,.int .i64 b]:=by
 match vs,h.len with
 | [x,y],_ =>
  have h1:=h.rep 0 (by simp) (by simp)
  have h2:=h.rep 1 (by simp) (by simp)
  simp only [List.getElem_cons_zero,List.getElem_cons_succ] at h1 h2
  cases h1;cases h2;rfl
theorem ok167 : OkAt Tryz.prog 167 φfmt:=by
 refine ok_lib fun args r h c w vs hg hr=>?_
 unfold φfmt at h
 split at h
 ·rename_i n b
  split at h
  ·rename_i hv
   obtain ⟨rfl,h0,h1⟩:=hv
   injection h with h;subst h
   have e:=reps2 hr
   subst e
   have e167 : ∀ args w,(callFunc 167 args).run Tryz.prog w = .ok (.enter 167 args) w:=enters_of Tryz.func167 (by kernel_rfl) rfl
   refine ⟨e167 _ _,?_⟩
   have htab : Lib.TabIs Tryz.prog w "internal/strconv.uint64pow10" .u64 Lib.pow10Tab := by first | exact hg.2.2.1 | exact hg.2.2
   refine (Tryz.format n (by omega) (by omega) w htab).mono ?_
   rintro e w' ⟨rfl,k,os,rfl⟩
   refine ⟨_,rfl,?_,below_grow w k os⟩
   have : Lib.itoa n = Lib.decDigits n.toNat:=by unfold Lib.itoa;rw [if_neg (by omega)]
   rw [this]
   exact .str _ (by have:=dd_len (u:=n.toNat) (by omega);omega)
  ·cases h
 ·cases h
theorem app_acc' {K : D -> S -> Prop} {t : Nat -> D} {H : Hp} {T T' : Tk} {out : List UInt8} {d : D} (c : UInt8) {v : Int} (hv : v = (c.toNat : Int)) (h : accB T out d T') (ho : out.length <= 2 ^ 40)
  (k : ∀ d2 T2,accB T (out ++ [c]) d2 T2 -> K d2 ⟨t,H,T2⟩) : appK 1 1 K ⟨t,H,T' ++ [some (1,1)]⟩ d (some [.int .u8 v]):=by
 subst hv
 exact app_acc c h ho rfl fun d2 T2 h2 _=>k d2 T2 h2
def φquo : List D -> Option D
 | [.str s]=>if s.length <= 2 ^ 38 then some (.str (34 :: escL s ++ [34])) else none
 | _=>none
set_option maxHeartbeats 8000000 in
theorem ok168 : OkAt Tryz.prog 168 φquo:=by
 refine ok_of (l:=[]) .nil fn168 fun args r h=>?_
 unfold φquo at h
 split at h
 ·rename_i s
  split at h
  ·rename_i hl
   injection h with h;subst h
   refine ⟨by simp,by simp [D.cl],fun H T=>?_⟩
   simp +contextual (maxSteps:=10000000) only [c168,go_sem]
   refine W_for (fun i s'=>s'.t 0 = .str s /\ s'.t 7 = .int .i64 s.length /\ s'.t 8 = .int .i64 (i : Nat) /\ s'.H = H /\ i <= s.length /\ accB T (34 :: escL (s.take i)) (s'.t 3) s'.T) s.length ⟨0,rfl,rfl,rfl,rfl,by omega,.inr ⟨by simp,[some (1,1)],0,rfl,rfl,rfl⟩⟩ (fun i s h=>h.2.2.2.2.1) ?_ (XL_mono _)
   rintro i ⟨t,B,T'⟩ ⟨r0,r7,r8,rfl,hi,hA⟩
   simp only at r0 r7 r8 hA
   have hX:=accB_ext hA
   have hE:=escL_len (s.take i)
   have ht : (s.take i).length <= s.length:=by simp;omega
   by_cases hlt : i < s.length
   ·have d1 : decide (((i : Nat) : Int) < s.length) = true:=by simp only [decide_eq_true_eq];omega
    have ex : s[i]? = some s[i]:=by simp [hlt]
    obtain ⟨b,hb⟩ : ∃ b,s[i] = b:=⟨_,rfl⟩
    rw [hb] at ex
    have ix:=fun q=>ixs_at ex q
    have e1 : ((b.toNat : Int) == 34) = (b == 34):=u8_eq b 34 (by decide)
    have e2 : ((b.toNat : Int) == 92) = (b == 92):=u8_eq b 92 (by decide)
    have tk:=escL_take ex
    have wS:=wrap_su i (by omega)
    rcases tf (b == 34) with g1 | g1
    ·have e : esc1 b = [92,b]:=by unfold esc1;rw [g1];rfl
     rw [e] at tk
     simp +contextual (maxSteps:=10000000) only [r0,r7,r8,d1,ix,e1,g1,go_sem]
     refine app_acc' (92 : UInt8) rfl hA (by simp;omega) fun d2 T2 hA2=>?_
     simp +contextual (maxSteps:=10000000) only [r0,r8,ix,go_sem]
     refine app_acc' b rfl hA2 (by simp;omega) fun d3 T3 hA3=>?_
     simp +contextual (maxSteps:=10000000) only [r0,r7,r8,wS,go_sem]
     refine ⟨by omega,?_⟩
     rw [tk];simpa using hA3
    rcases tf (b == 92) with g2 | g2
    ·have e : esc1 b = [92,b]:=by unfold esc1;rw [g1,g2];rfl
     rw [e] at tk
     simp +contextual (maxSteps:=10000000) only [r0,r7,r8,d1,ix,e1,e2,g1,g2,go_sem]
     refine app_acc' (92 : UInt8) rfl hA (by simp;omega) fun d2 T2 hA2=>?_
     simp +contextual (maxSteps:=10000000) only [r0,r8,ix,go_sem]
     refine app_acc' b rfl hA2 (by simp;omega) fun d3 T3 hA3=>?_
     simp +contextual (maxSteps:=10000000) only [r0,r7,r8,wS,go_sem]
     refine ⟨by omega,?_⟩
     rw [tk];simpa using hA3
    ·have e : esc1 b = [b]:=by unfold esc1;rw [g1,g2];rfl
     rw [e] at tk
     simp +contextual (maxSteps:=10000000) only [r0,r7,r8,d1,ix,e1,e2,g1,g2,go_sem]
     refine app_acc' b rfl hA (by simp;omega) fun d3 T3 hA3=>?_
     simp +contextual (maxSteps:=10000000) only [r0,r7,r8,wS,go_sem]
     refine ⟨by omega,?_⟩
     rw [tk];simpa using hA3
   ·have d1 : decide (((i : Nat) : Int) < s.length) = false:=by simp only [decide_eq_false_iff_not];omega
    have ei : i = s.length:=by omega
    rw [ei,List.take_length] at hA hE
    simp +contextual (maxSteps:=10000000) only [r0,r7,r8,d1,go_sem]
    refine app_acc' (34 : UInt8) rfl hA (by simp;omega) fun d2 T2 hA2=>?_
    have hb2:=accB_b2s hA2
    have hX2:=accB_ext hA2
    simp +contextual (maxSteps:=10000000) only [hb2,leaves_E (Ext.refl B) hX2,go_sem]
  ·cases h
 ·cases h
def φlshow : List D -> Option D
 | [.agg [.int .i64 k,.str s,.int .i64 n]]=>if s.length <= 2 ^ 38 /\ n < 2 ^ 63 then some (.str (if formI k s n then showP k s n else [])) else none
 | _=>none
set_option maxHeartbeats 8000000 in
theorem ok101 : OkAt Tryz.prog 101 φlshow:=by
 refine ok_of (l:=[(166,φform),(167,φfmt),(168,φquo)]) (.cons ok166 (.cons ok167 (.cons ok168 .nil))) fn101 fun args r h=>?_
 unfold φlshow at h
 split at h
 ·rename_i k s n
  split at h
  ·rename_i hv
   obtain ⟨hl,hn⟩:=hv
   injection h with h;subst h
   refine ⟨by simp,by simp [D.cl],fun H T=>?_⟩
   have pf : φform [.agg [.int .i64 k,.str s,.int .i64 n]] = some (.bool (formI k s n)):=by simp only [φform];rw [if_pos (by omega)]
   have pq : φquo [.str s] = some (.str (34 :: escL s ++ [34])):=by simp only [φquo];rw [if_pos hl]
   rcases tf (formI k s n) with g | g
   ·have hpos:=form_pos g
    rw [g] at pf ⊢
    rw [if_pos rfl]
    have pm : k = 2 ∨ k = 4 -> φfmt [.int .i64 n,.int .i64 10] = some (.str (Lib.decDigits n.toNat)):=fun h=>by
     simp only [φfmt];rw [if_pos ⟨trivial,hpos h,hn⟩]
    have hd:=dd_len (u:=n.toNat) (by omega)
    have sa:=sadd (a:=[64]) (b:=Lib.decDigits n.toNat) (by simp;omega)
    unfold showP
    rcases tf (k == 2) with k2 | k2
    ·rw [if_pos k2]
     have pm:=pm (.inl (by simpa using k2))
     simp +contextual (maxSteps:=10000000) only [c101,pf,k2,pm,go_sem]
    rw [if_neg (by rw [k2];decide)]
    rcases tf (k == 4) with k4 | k4
    ·rw [if_pos k4]
     have pm:=pm (.inr (by simpa using k4))
     simp +contextual (maxSteps:=10000000) only [c101,pf,k2,k4,pm,sa,go_sem]
    rw [if_neg (by rw [k4];decide)]
    rcases tf (k == 3) with k3 | k3
    ·rw [if_pos k3]
     simp +contextual (maxSteps:=10000000) only [c101,pf,k2,k4,k3,pq,go_sem]
    ·rw [if_neg (by rw [k3];decide)]
     simp +contextual (maxSteps:=10000000) only [c101,pf,k2,k4,k3,go_sem]
   ·rw [g] at pf ⊢
    rw [if_neg (by decide)]
    simp +contextual (maxSteps:=10000000) only [c101,pf,go_sem]
  ·cases h
 ·cases h
def showT (x : D) : List UInt8:=showP (tk x) (ts x) (tn x)
end GP
namespace GP
open Go Go.Proofs
set_option maxRecDepth 100000
def shwG : D -> Bool
 | .agg [.int .i64 k,.str s,.int .i64 n]=>formI k s n && decide (s.length <= 2 ^ 38) && decide (n < 2 ^ 63)
 | _=>false
theorem shwG_elim {x : D} (h : shwG x = true) : ∃ k s n,x = .agg [.int .i64 k,.str s,.int .i64 n] /\ formI k s n = true /\ s.length <= 2 ^ 38 /\ n < 2 ^ 63:=by
 unfold shwG at h
 split at h
 ·simp only [Bool.and_eq_true,decide_eq_true_eq] at h
  exact ⟨_,_,_,rfl,h.1.1,h.1.2,h.2⟩
 ·cases h
theorem shwG_len {x : D} (h : shwG x = true) : (showT x).length <= 2 ^ 47:=by
 obtain ⟨k,s,n,rfl,hf,hs,hn⟩:=shwG_elim h
 show (showP k s n).length <= _
 have hE:=escL_len s
 have hp:=form_pos hf
 unfold showP
 split
 ·rename_i h2
  have:=dd_len (u:=n.toNat) (by have:=hp (.inl (by simpa using h2));omega)
  omega
 split
 ·rename_i h2
  have:=dd_len (u:=n.toNat) (by have:=hp (.inr (by simpa using h2));omega)
  simp;omega
 split
 ·simp;omega
 ·omega
theorem shwG_at {x : D} (h : shwG x = true) : φlshow [x] = some (.str (showT x)):=by
 obtain ⟨k,s,n,rfl,hf,hs,hn⟩:=shwG_elim h
 simp only [φlshow]
 rw [if_pos ⟨hs,hn⟩,if_pos hf];rfl
def jnG (toks : List D) : List UInt8:=Lib.join (toks.map showT) [32]
def jkG (toks : List D) : Bool:=toks.all shwG && !toks.isEmpty && decide (toks.length <= 2 ^ 30) && decide ((jnG toks).length <= 2 ^ 40)
def φjnG : List D -> Option D
 | [.sl none toks]=>if jkG toks = true then some (.str (jnG toks)) else none
 | _=>none
set_option maxHeartbeats 1000000 in
theorem ok46G : OkAt Tryz.prog 46 φjnG:=by
 have hX:=XL_mono [(101,φlshow),(88,φjoin)]
 refine ok_of (l:=[(101,φlshow),(88,φjoin)]) (.cons ok101 (.cons ok88 .nil)) fn46 fun args r h=>?_
 unfold φjnG at h
 split at h
 ·rename_i toks
  split at h
  ·rename_i hc
   simp only [jkG,Bool.and_eq_true,decide_eq_true_eq,Bool.not_eq_true',List.isEmpty_eq_false_iff] at hc
   obtain ⟨⟨⟨h1,h0⟩,h2⟩,h3⟩:=hc
   injection h with h;subst h
   refine ⟨by simp,by simp [D.cl],fun H T=>?_⟩
   have strs : ∀ l : List D,(l.map fun x=>D.str (showT x)).map strOf = l.map showT:=fun l=>by rw [List.map_map];rfl
   have lens : ∀ x ∈ toks,(showT x).length <= 2 ^ 47:=fun x hx=>by
    exact shwG_len (List.all_eq_true.1 h1 x hx)
   have p88 : φjoin [.sl none (toks.map fun x=>D.str (showT x)),.str [32]] = some (.str (jnG toks)):=by
    have hL : isLs isTx (.sl none (toks.map fun x=>D.str (showT x))):=⟨false,_,rfl,by rw [List.length_map];omega,fun y hy=>by
     obtain ⟨x,hx,rfl⟩:=List.mem_map.1 hy
     exact ⟨_,rfl,lens x hx⟩⟩
    have e : elems (.sl none (toks.map fun x=>D.str (showT x))) = toks.map fun x=>D.str (showT x):=rfl
    simp only [φjoin]
    rw [if_pos ⟨hL,by rw [e,strs];exact Nat.le_trans h3 (by decide)⟩,e,strs];rfl
   have hE : D.eraseL (toks.map fun x=>D.str (showT x)) = toks.map fun x=>D.str (showT x):=eraseL_id fun y hy=>by
    obtain ⟨x,_,rfl⟩:=List.mem_map.1 hy;rfl
   obtain ⟨J,hJ⟩ : ∃ z,jnG toks = z:=⟨_,rfl⟩
   rw [hJ] at p88 ⊢
   simp +contextual (maxSteps:=10000000) only [c46,go_sem]
   refine W_each toks (fun i s=>s.t 6 = .sl none toks /\ s.t 7 = .int .i64 (toks.length : Int) /\ s.t 8 = .int .i64 (i : Int) /\ (∃ L,s.H = H ++ L) /\ accT 1 T ((toks.take i).map fun x=>D.str (showT x)) (s.t 3) s.T) hX ⟨by simp [upd,argT],by simp [upd],by simp [upd],⟨[],by simp⟩,by simpa [upd] using accT.nil 1 T (ExtT.refl _)⟩ ?_ ?_
   ·rintro i x ⟨t,B,U⟩ hx hm hi ⟨t6,t7,t8,⟨L,rfl⟩,hA⟩
    simp only at t6 t7 t8 hA
    have d1 : decide ((i : Int) < toks.length) = true:=by simpa using hi
    have hxs:=List.all_eq_true.1 h1 x hm
    have p:=shwG_at hxs
    have nx : (toks.take (i + 1)).map (fun x=>D.str (showT x)) = (toks.take i).map (fun x=>D.str (showT x)) ++ [.str (showT x)]:=by
     rw [List.take_add_one,hx];simp
    have hf : ((toks.take i).map fun x=>D.str (showT x)).all (fit 1) = true:=List.all_eq_true.2 fun y hy=>by
     obtain ⟨z,_,rfl⟩:=List.mem_map.1 hy;rfl
    rw [nx]
    have hlen : ((toks.take i).map fun x=>D.str (showT x)).length <= 2 ^ 30:=by rw [List.length_map,List.length_take];omega
    generalize (toks.take i).map (fun x=>D.str (showT x)) = A at hA hf hlen ⊢
    clear nx
    obtain ⟨k,s,n,rfl,hf0,hs,hn⟩:=shwG_elim hxs
    generalize showT (.agg [.int .i64 k,.str s,.int .i64 n]) = S at p ⊢
    simp +contextual (maxSteps:=10000000) only [t6,t7,t8,d1,hx,p,go_sem]
    refine app_accT (bytes:=16) _ (hA.app _) rfl hf (by simp;omega) (by simp;omega) fun d2 T2 hA2=>?_
    simp +contextual (maxSteps:=10000000) only [t6,t7,t8,wrap_succ i (by omega),go_sem]
    exact ⟨⟨_,rfl⟩,hA2⟩
   ·rintro ⟨t,B,U⟩ ⟨t6,t7,t8,⟨L,rfl⟩,hA⟩
    simp only at t6 t7 t8 hA
    have d1 : decide ((toks.length : Int) < toks.length) = false:=by simp
    rw [List.take_length] at hA
    have he:=hA.erase hE (by simp [h0])
    obtain ⟨⟨M,rfl⟩,_⟩:=hA
    simp +contextual (maxSteps:=10000000) only [t6,t7,t8,d1,he,p88,go_sem]
  ·cases h
 ·cases h
def lineG (pre : List UInt8) (toks : List D) : List UInt8:=pre ++ jnG toks ++ [10]
def φlineG (H : Hp) (T : Tk) : List D -> Option (D × Hp × Tk)
 | [.ptr o 0,.str pre,.sl none toks]=>if jkG toks = true /\ pre.length <= 1000 then (match H[o]? with
  | some (.row [.nils,.int .i64 n])=>some (.tup [],H.set o (.row [.sl (some T.length) [.str (lineG pre toks)],.int .i64 (IntKind.i64.wrap (n + (toks.length : Int)))]),T ++ [some (1,1)])
  | some (.row [.sl (some τ) xs,.int .i64 n])=>if T[τ]? = some (some (xs.length,1)) /\ xs.length <= 2 ^ 20 /\ xs.all (fit 1) = true /\ D.clL 0 0 xs = true then
    some (.tup [],H.set o (.row [.sl (some τ) (xs ++ [.str (lineG pre toks)]),.int .i64 (IntKind.i64.wrap (n + (toks.length : Int)))]),T.set τ (some (xs.length + 1,1))) else none
  | _=>none) else none
 | _=>none
set_option maxHeartbeats 2000000 in
theorem ok82G : OkAtG Tryz.prog 82 φlineG:=by
 refine okG_of (X:=XG Tryz.prog [] [(46,φjnG)] [] [] []) (XG.X (.cons ok46G .nil) .nil .nil .nil) fn82 fun H T args r H1 T1 h=>?_
 have hM : MonoH []:=.nil
 unfold φlineG at h
 split at h
 ·rename_i o pre toks
  split at h
  ·rename_i hc
   obtain ⟨hj,hp⟩:=hc
   have p : φjnG [.sl none toks] = some (.str (jnG toks)):=by simp only [φjnG];rw [if_pos hj]
   have hjl : (jnG toks).length <= 2 ^ 40:=by
    simp only [jkG,Bool.and_eq_true,decide_eq_true_eq] at hj;exact hj.2
   have htl : toks.length <= 2 ^ 30:=by
    simp only [jkG,Bool.and_eq_true,decide_eq_true_eq] at hj;exact hj.1.2
   have hE : D.eraseL toks = toks:=eraseL_id fun x hx=>by
    simp only [jkG,Bool.and_eq_true] at hj
    obtain ⟨k,s,n,rfl,_⟩:=shwG_elim (List.all_eq_true.1 hj.1.1.1 x hx)
    rfl
   unfold lineG at h
   obtain ⟨J,hJ⟩ : ∃ z,jnG toks = z:=⟨_,rfl⟩
   rw [hJ] at p hjl h
   split at h
   ·rename_i n ho
    injection h with h;injection h with h1 h;injection h with h2 h3
    subst h1;subst h2;subst h3
    have hol:=lt_of_get ho
    have hos : ∀ x,(H.set o x)[o]? = some x:=fun x=>by simp [hol]
    have hss : ∀ x y,(H.set o x).set o y = H.set o y:=fun x y=>by simp
    refine ⟨by simp,by simp [D.cl,D.clL],⟨by simp,fun o' x cs hx hcs=>?_⟩,?_⟩
    ·rcases Nat.lt_or_ge o' o with h' | h'
     ·rw [List.getElem?_set_ne (by omega)] at hx;exact .inl hx
     ·rcases Nat.eq_or_lt_of_le h' with e | h''
      ·subst e
       rw [hos] at hx;injection hx with hx;subst hx
       injection hcs with hcs;subst hcs
       exact .inr (by simp [D.clL,D.cl])
      ·rw [List.getElem?_set_ne (by omega)] at hx;exact .inl hx
    ·have fin:=leavesG_id (H:=H) (H1:=H.set o (.row [.sl (some T.length) [.str (pre ++ J ++ [10])],.int .i64 (IntKind.i64.wrap (n + (toks.length : Int)))])) (L:=[]) (T:=T) (T1:=T ++ [some (1,1)]) (U:=[]) (r:=.tup []) (by simp) (by simp) (fun o' x hx=>by
      rcases Nat.lt_or_ge o' o with h' | h'
      ·rw [List.getElem?_set_ne (by omega)] at hx;exact .inl hx
      ·rcases Nat.eq_or_lt_of_le h' with e | h''
       ·subst e
        rw [hos] at hx;injection hx with hx;subst hx
        exact .inr ⟨_,rfl,by simp [D.one]⟩
       ·rw [List.getElem?_set_ne (by omega)] at hx;exact .inl hx)
     simp only [List.append_nil] at fin
     have b1 : bin2 .add (.str pre) (.str J) = some (.str (pre ++ J)):=saddE (by omega)
     have b2 : bin2 .add (.str (pre ++ J)) (.str [10]) = some (.str (pre ++ J ++ [10])):=saddE (by simp;omega)
     simp only [List.append_assoc] at b1 b2 fin
     have r0:=fun off=>rdAt_E ho off
     have s0:=fun (K : D -> S -> Prop) t T n off v=>storeK_E (K:=K) ho t T n off v
     have rc0:=fun X off=>rd_cu0 (p:=o) hol X off
     have sc0:=fun (K : D -> S -> Prop) X t T n off v=>st_cu0 (p:=o) (K:=K) hol X t T n off v
     simp +contextual (maxSteps:=10000000) only [c82,r0,s0,rc0,sc0,p,hE,b1,b2,pcallG hM,go_sem]
     exact ⟨by decide,fin⟩
   ·rename_i τ xs n ho
    split at h
    ·rename_i hq
     obtain ⟨hT,hxl,hfx,hcx⟩:=hq
     injection h with h;injection h with h1 h;injection h with h2 h3
     subst h1;subst h2;subst h3
     have hol:=lt_of_get ho
     have hτl:=lt_of_get hT
     have hos : ∀ x,(H.set o x)[o]? = some x:=fun x=>by simp [hol]
     refine ⟨by simp,by simp [D.cl,D.clL],⟨by simp,fun o' x cs hx hcs=>?_⟩,?_⟩
     ·rcases Nat.lt_or_ge o' o with h' | h'
      ·rw [List.getElem?_set_ne (by omega)] at hx;exact .inl hx
      ·rcases Nat.eq_or_lt_of_le h' with e | h''
       ·subst e
        rw [hos] at hx;injection hx with hx;subst hx
        injection hcs with hcs;subst hcs
        have hcl : ∀ i j,D.clL i j (xs ++ [.str (pre ++ J ++ [10])]) = true:=fun i j=>by
         have:=D.clL_mono (Nat.zero_le i) (Nat.zero_le j) xs hcx
         refine clL_of fun d hd=>?_
         rcases List.mem_append.1 hd with h | h
         ·exact clL_mem this d h
         ·rw [List.mem_singleton] at h;subst h;rfl
        refine .inr ?_
        simp only [D.clL,D.cl,hcl,Bool.and_true,decide_eq_true_eq,List.length_set]
        exact hτl
       ·rw [List.getElem?_set_ne (by omega)] at hx;exact .inl hx
     ·have fin:=leavesG_id (H:=H) (H1:=H.set o (.row [.sl (some τ) (xs ++ [.str (pre ++ J ++ [10])]),.int .i64 (IntKind.i64.wrap (n + (toks.length : Int)))])) (L:=[]) (T:=T) (T1:=T.set τ (some (xs.length + 1,1))) (U:=[]) (r:=.tup []) (by simp) (by simp) (fun o' x hx=>by
       rcases Nat.lt_or_ge o' o with h' | h'
       ·rw [List.getElem?_set_ne (by omega)] at hx;exact .inl hx
       ·rcases Nat.eq_or_lt_of_le h' with e | h''
        ·subst e
         rw [hos] at hx;injection hx with hx;subst hx
         exact .inr ⟨_,rfl,by simp [D.one]⟩
        ·rw [List.getElem?_set_ne (by omega)] at hx;exact .inl hx)
      simp only [List.append_nil] at fin
      have b1 : bin2 .add (.str pre) (.str J) = some (.str (pre ++ J)):=saddE (by omega)
      have b2 : bin2 .add (.str (pre ++ J)) (.str [10]) = some (.str (pre ++ J ++ [10])):=saddE (by simp;omega)
      simp only [List.append_assoc] at b1 b2 fin
      have r0:=fun off=>rdAt_E ho off
      have s0:=fun (K : D -> S -> Prop) t T n off v=>storeK_E (K:=K) ho t T n off v
      have rc0:=fun X off=>rd_cu0 (p:=o) hol X off
      have sc0:=fun (K : D -> S -> Prop) X t T n off v=>st_cu0 (p:=o) (K:=K) hol X t T n off v
      simp +contextual (maxSteps:=10000000) only [c82,r0,s0,rc0,sc0,p,hE,b1,b2,pcallG hM,go_sem]
      simp only [appK]
      refine ⟨rfl,hT,by simp;omega,by simp;omega,hfx,?_⟩
      simp +contextual (maxSteps:=10000000) only [r0,s0,rc0,sc0,p,hE,pcallG hM,go_sem]
      exact fin
    ·cases h
   ·cases h
  ·cases h
 ·cases h
end GP
namespace GP
open Go
set_option maxRecDepth 100000
variable {P : Program} [HasG P]
open Rd O
def isSx (xs : List D) : Prop:=∀ x ∈ xs,∃ s,x = .str s
theorem isSx.len {xs : List D} (h : isSx xs) : ∀ x ∈ xs,x.cells.length = 1:=fun x hx=>by
 obtain ⟨s,rfl⟩:=h x hx;rfl
theorem isSx.fit {xs : List D} (h : isSx xs) : xs.all (fit 1) = true:=List.all_eq_true.2 fun x hx=>by
 obtain ⟨s,rfl⟩:=h x hx;rfl
theorem isSx.flat {xs : List D} (h : isSx xs) : (flatD xs).length = xs.length * 1:=flatD_len h.len
theorem isSx.sub {xs ys : List D} (h : isSx xs) (k : ∀ y ∈ ys,y ∈ xs) : isSx ys:=fun y hy=>h y (k y hy)
theorem chunk_flatS : ∀ (xs : List D) (rest : List D),isSx xs -> chunk false 1 xs.length (flatD xs ++ rest) = xs
 | [],_,_=>rfl
 | x :: xs,rest,h=>by
  obtain ⟨s,rfl⟩:=h x (by simp)
  simp only [List.length_cons,chunk,flatD_cons,D.cells,List.append_assoc,List.cons_append,List.nil_append,List.headD_cons,List.drop_succ_cons,List.drop_zero,Bool.false_eq_true,if_false]
  rw [chunk_flatS xs rest (h.sub fun y hy=>by simp [hy])]
def conS (N : FuncId) : C :=
 (.seq (.reg [⟨(some 2),none,.mv (k .nils)⟩])
 (.seq (.reg [⟨(some 3),none,.mv (k (.int .i64 0))⟩])
 (.seq (.seq (.reg [⟨(some 9),none,.mv (t 0)⟩,⟨(some 10),none,.len (t 9)⟩,⟨(some 11),none,.mv (k (.int .i64 0))⟩])
 (.block 0
 (.loop
 (.seq (.reg [⟨(some 12),none,.bin .lss (t 11) (t 10)⟩])
 (.seq (.cond (t 12)
 .skip
 (.exit 0))
 (.seq (.block 1
 (.seq (.reg [⟨(some 13),none,.iaddr 1 (t 9) (t 11)⟩,⟨(some 14),none,.load false 1 (t 13)⟩,⟨(some 5),none,.mv (t 14)⟩])
 (.seq (.reg [⟨(some 15),none,.mv (t 3)⟩,⟨(some 16),none,.mv (t 5)⟩,⟨(some 17),none,.len (t 16)⟩,⟨(some 18),none,.bin .add (t 15) (t 17)⟩,⟨(some 3),none,.mv (t 18)⟩])
 (.seq (.reg [⟨(some 19),none,.mv (t 3)⟩,⟨(some 20),none,.bin .lss (t 19) (k (.int .i64 0))⟩])
 (.cond (t 20)
 .stop
 .skip)))))
 (.reg [⟨(some 22),none,.bin .add (t 11) (k (.int .i64 1))⟩,⟨(some 11),none,.mv (t 22)⟩])))))))
 (.seq (.reg [⟨(some 23),none,.mv (t 3)⟩,⟨(some 24),none,.call (k (.fn N [] [])) [(k .nils),(t 23)]⟩,⟨(some 6),none,.mv (t 24)⟩])
 (.seq (.seq (.reg [⟨(some 25),none,.mv (t 0)⟩,⟨(some 26),none,.len (t 25)⟩,⟨(some 27),none,.mv (k (.int .i64 0))⟩])
 (.block 2
 (.loop
 (.seq (.reg [⟨(some 28),none,.bin .lss (t 27) (t 26)⟩])
 (.seq (.cond (t 28)
 .skip
 (.exit 2))
 (.seq (.block 3
 (.seq (.reg [⟨(some 29),none,.iaddr 1 (t 25) (t 27)⟩,⟨(some 30),none,.load false 1 (t 29)⟩,⟨(some 8),none,.mv (t 30)⟩])
 (.reg [⟨(some 31),none,.mv (t 6)⟩,⟨(some 32),none,.mv (t 8)⟩,⟨(some 33),none,.appm false false 1 16 (t 31) (t 32)⟩,⟨(some 6),none,.mv (t 33)⟩])))
 (.reg [⟨(some 34),none,.bin .add (t 27) (k (.int .i64 1))⟩,⟨(some 27),none,.mv (t 34)⟩])))))))
 (.seq (.reg [⟨(some 35),none,.mv (t 6)⟩,⟨(some 2),none,.mv (t 35)⟩])
 .ret))))))
structure isCatS (ls : List D) : Prop where
 l : ls.length <= 2 ^ 40
 s : ∀ y ∈ ls,∃ m xs,y = sliceD m xs
 a : isSx (catD ls)
 e : D.eraseL (catD ls) = catD ls
 c : D.clL 0 0 (catD ls) = true
 b : (catD ls).length * 16 <= 2 ^ 47
 n : (catD ls).length < 2 ^ 61
open Classical in
noncomputable def φcatS : List D -> Option D
 | [l]=>if isSl l = true /\ isCatS (elems l) then some (sliceD true (catD (elems l))) else none
 | _=>none
theorem isCatS.mem {ls : List D} (h : isCatS ls) {y : D} (hy : y ∈ ls) : isSx (elems y) /\ y.erase = y:=by
 have hsub : ∀ x ∈ elems y,x ∈ catD ls:=fun x hx=>List.mem_flatten.2 ⟨elems y,List.mem_map.2 ⟨y,hy,rfl⟩,hx⟩
 refine ⟨h.a.sub hsub,?_⟩
 obtain ⟨m,xs,rfl⟩:=h.s y hy
 rw [elems_sliceD] at hsub
 have he : ∀ x ∈ xs,x.erase = x:=fun x hx=>by
  have hx:=hsub x hx
  obtain ⟨i,hi,e⟩:=List.mem_iff_getElem.1 hx
  have:=h.e
  rw [eraseL_map] at this
  have h2:=congrArg (fun l=>l[i]?) this
  simp only [List.getElem?_map,List.getElem?_eq_getElem hi,Option.map_some,e] at h2
  injection h2
 rw [erase_sliceD,eraseL_id he]
set_option maxHeartbeats 4000000 in
theorem okCatS {N M : FuncId} (hM : OkAtG P M (φgrow false 1 16 [.str []])) (hf : Fn P N 36 [.inl 2] (conS M)) : OkAt P N φcatS:=by
 have hXX:=XG.X (P:=P) (u:=[]) .nil .nil .nil (.cons hM .nil)
 have hX:=XG_mono (P:=P) [] [] [] [] [(M,φgrow false 1 16 [.str []])]
 refine okX_of (X:=XG P [] [] [] [] [(M,φgrow false 1 16 [.str []])]) hXX hf fun args r h=>?_
 unfold φcatS at h
 split at h
 ·rename_i l
  split at h
  ·rename_i hc
   obtain ⟨hs,hC⟩:=hc
   injection h with h;subst h
   obtain ⟨m,hm⟩:=isSl_m hs
   obtain ⟨ls,hls⟩ : ∃ ls,elems l = ls:=⟨_,rfl⟩
   rw [hls] at hm hC ⊢
   subst hm
   refine ⟨by simp,(mk_cat _).2 hC.c,fun H T=>?_⟩
   have hpos : ∀ i,(catD (ls.take i)).length <= (catD ls).length:=fun i=>by
    have : catD ls = catD (ls.take i) ++ catD (ls.drop i):=by rw [<- catD_app,List.take_append_drop]
    rw [this,List.length_append];omega
   have hb:=hC.b
   have hn:=hC.n
   have hl:=hC.l
   simp +contextual (maxSteps:=10000000) only [conS,go_sem]
   refine W_each ls (fun i s=>s.t 0 = sliceD m ls /\ s.t 3 = .int .i64 ((catD (ls.take i)).length : Int) /\ s.t 9 = sliceD m ls /\ s.t 10 = .int .i64 (ls.length : Int) /\ s.t 11 = .int .i64 (i : Int) /\ s.H = H /\ s.T = T) hX ⟨by simp [upd,argT],by simp [upd,catD],by simp [upd,argT],by simp [upd],by simp [upd],rfl,rfl⟩ ?_ ?_
   ·rintro i y ⟨t',B,U⟩ hy hmem hi ⟨r0,r3,r9,r10,r11,rfl,rfl⟩
    simp only at r0 r3 r9 r10 r11
    have d1 : decide ((i : Int) < ls.length) = true:=by simpa using hi
    obtain ⟨m',xs,rfl⟩:=hC.s y hmem
    have nx:=catD_take hy
    have h1:=hpos (i + 1)
    rw [nx,elems_sliceD,List.length_append] at h1
    rw [elems_sliceD] at nx
    have wa : IntKind.i64.wrap (((catD (ls.take i)).length : Int) + (xs.length : Int)) = (((catD (ls.take i)).length + xs.length : Nat) : Int):=by
     rw [wrap_inY (by omega) (by omega)];rfl
    have d2 : decide ((((catD (ls.take i)).length + xs.length : Nat) : Int) < 0) = false:=by simp only [decide_eq_false_iff_not];omega
    simp +contextual (maxSteps:=10000000) only [r0,r3,r9,r10,r11,d1,hy,wa,d2,wrap_natY i (by omega),go_sem]
    rw [nx,List.length_append]
   ·rintro ⟨t',B,U⟩ ⟨r0,r3,r9,r10,r11,rfl,rfl⟩
    simp only at r0 r3 r9 r10 r11
    have d1 : decide ((ls.length : Int) < ls.length) = false:=by simp
    rw [List.take_length] at r3
    obtain ⟨tot,htot⟩ : ∃ n,(catD ls).length = n:=⟨_,rfl⟩
    have hpos2:=hpos
    rw [htot] at r3 hb hn hpos2
    by_cases h0 : tot = 0
    ·subst h0
     have e0 : catD ls = []:=List.eq_nil_of_length_eq_zero htot
     have ei : ∀ y ∈ ls,elems y = []:=fun y hy=>by
      unfold catD at e0
      rw [List.flatten_eq_nil_iff] at e0
      exact e0 _ (List.mem_map.2 ⟨y,hy,rfl⟩)
     have pg : φgrow false 1 16 [.str []] B U [.nils,.int .i64 0] = some (.nils,B,U):=by
      simp only [φgrow];rw [if_pos ⟨by omega,by omega,by omega⟩];rfl
     rw [show ((0 : Nat) : Int) = 0 from rfl] at r3
     simp +contextual (maxSteps:=10000000) only [r0,r3,r9,r10,r11,d1,eq_self,pg,go_sem]
     refine W_each ls (fun i s=>s.t 6 = .nils /\ s.t 25 = sliceD m ls /\ s.t 26 = .int .i64 (ls.length : Int) /\ s.t 27 = .int .i64 (i : Int) /\ s.H = B /\ s.T = U) hX ⟨by simp [upd],by simp [upd,r0],by simp [upd],by simp [upd],rfl,rfl⟩ ?_ ?_
     ·rintro i y ⟨t2,B2,U2⟩ hy hmem hi ⟨q6,q25,q26,q27,rfl,rfl⟩
      simp only at q6 q25 q26 q27
      have d2 : decide ((i : Int) < ls.length) = true:=by simpa using hi
      obtain ⟨m',xs,rfl⟩:=hC.s y hmem
      have hxs:=ei _ hmem
      rw [elems_sliceD] at hxs
      subst hxs
      have hsrc : appSrcM B2 false 1 (sliceD m' []) = some []:=by
       rcases sliceD_cases m' [] with ⟨h,_⟩ | h <;> rw [h] <;> rfl
      simp +contextual (maxSteps:=10000000) only [q6,q25,q26,q27,d2,hy,hsrc,appmK,List.all_nil,wrap_natY i (by omega),go_sem]
     ·rintro ⟨t2,B2,U2⟩ ⟨q6,q25,q26,q27,rfl,rfl⟩
      simp only at q6 q25 q26 q27
      have d2 : decide ((ls.length : Int) < ls.length) = false:=by simp
      simp +contextual (maxSteps:=10000000) only [q6,q25,q26,q27,d2,go_sem]
      rw [e0]
      exact leavesE_mk rfl ⟨[],by simp⟩ ⟨[],by simp⟩
    ·have pg : φgrow false 1 16 [.str []] B U [.nils,.int .i64 (tot : Int)] = some (.ms false 1 B.length 0 0 tot,B ++ [.row (List.replicate tot [D.str []]).flatten],U):=by
      simp only [φgrow]
      rw [if_pos ⟨by omega,by exact_mod_cast hb,by omega⟩,if_neg (by omega)]
      simp
     simp +contextual (maxSteps:=10000000) only [r0,r3,r9,r10,r11,d1,eq_self,pg,go_sem]
     refine W_each ls (fun i s=>s.t 6 = .ms false 1 B.length 0 (catD (ls.take i)).length tot /\ s.t 25 = sliceD m ls /\ s.t 26 = .int .i64 (ls.length : Int) /\ s.t 27 = .int .i64 (i : Int) /\ s.H = B ++ [.row (flatD (catD (ls.take i)) ++ (List.replicate (tot - (catD (ls.take i)).length) [D.str []]).flatten)] /\ s.T = U) hX ⟨by simp [upd,catD],by simp [upd,r0],by simp [upd],by simp [upd],by simp [catD,flatD],rfl⟩ ?_ ?_
     ·rintro i y ⟨t2,B2,U2⟩ hy hmem hi ⟨q6,q25,q26,q27,rfl,rfl⟩
      simp only at q6 q25 q26 q27
      have d2 : decide ((i : Int) < ls.length) = true:=by simpa using hi
      obtain ⟨m',xs,rfl⟩:=hC.s y hmem
      have hag:=(hC.mem hmem).1
      rw [elems_sliceD] at hag
      have nx:=catD_take hy
      have h1:=hpos2 (i + 1)
      rw [nx,elems_sliceD,List.length_append] at h1
      rw [elems_sliceD] at nx
      rw [nx,List.length_append]
      have hagA : isSx (catD (ls.take i)):=hC.a.sub fun x hx=>by
       unfold catD at hx ⊢
       obtain ⟨l',hl',hx'⟩:=List.mem_flatten.1 hx
       obtain ⟨y',hy',rfl⟩:=List.mem_map.1 hl'
       exact List.mem_flatten.2 ⟨_,List.mem_map.2 ⟨y',List.mem_of_mem_take hy',rfl⟩,hx'⟩
      obtain ⟨A,hA⟩ : ∃ A,catD (ls.take i) = A:=⟨_,rfl⟩
      rw [hA] at q6 h1 hagA ⊢
      have hsrc : appSrcM (B ++ [.row (flatD A ++ (List.replicate (tot - A.length) [D.str []]).flatten)]) false 1 (sliceD m' xs) = some xs:=by
       rcases sliceD_cases m' xs with ⟨h,rfl⟩ | h <;> rw [h] <;> rfl
      have hrow : (B ++ [Ob.row (flatD A ++ (List.replicate (tot - A.length) [D.str []]).flatten)])[B.length]? = some (.row (flatD A ++ (List.replicate (tot - A.length) [D.str []]).flatten)):=by simp
      have hset : ∀ x,(B ++ [Ob.row (flatD A ++ (List.replicate (tot - A.length) [D.str []]).flatten)]).set B.length x = B ++ [x]:=fun x=>by simp
      have hfl:=hagA.flat
      have hlen : (flatD A ++ (List.replicate (tot - A.length) [D.str []]).flatten).length = tot * 1:=by
       rw [List.length_append,hfl]
       simp only [List.length_flatten,List.map_replicate,List.sum_replicate_nat,List.length_cons,List.length_nil]
       omega
      have hnew : (flatD A ++ (List.replicate (tot - A.length) [D.str []]).flatten).take (0 + A.length * 1) ++ flatD xs ++ (flatD A ++ (List.replicate (tot - A.length) [D.str []]).flatten).drop (0 + (A.length + xs.length) * 1) = flatD (A ++ xs) ++ (List.replicate (tot - (A.length + xs.length)) [D.str []]).flatten:=by
       rw [Nat.zero_add,Nat.zero_add,List.take_left' hfl,flatD_append]
       congr 1
       rw [show (A.length + xs.length) * 1 = (flatD A).length + xs.length * 1 by rw [hfl,Nat.add_mul],← List.drop_drop,List.drop_left,show tot - A.length = xs.length + (tot - (A.length + xs.length)) by omega,show xs.length * 1 = xs.length * [D.str []].length from rfl,rep_drop]
      simp +contextual (maxSteps:=10000000) only [q6,q25,q26,q27,d2,hy,hsrc,wrap_natY i (by omega),go_sem]
      unfold appmK
      refine ⟨hag.fit,?_⟩
      simp only [hrow]
      refine ⟨trivial,?_⟩
      rw [if_pos (by omega)]
      refine ⟨by rw [hlen];omega,?_⟩
      rw [hset,hnew]
      simp +contextual (maxSteps:=10000000) only [q6,q25,q26,q27,wrap_natY i (by omega),go_sem]
     ·rintro ⟨t2,B2,U2⟩ ⟨q6,q25,q26,q27,rfl,rfl⟩
      simp only at q6 q25 q26 q27
      have d2 : decide ((ls.length : Int) < ls.length) = false:=by simp
      rw [List.take_length,htot] at q6
      rw [List.take_length,htot,Nat.sub_self]
      simp +contextual (maxSteps:=10000000) only [q6,q25,q26,q27,d2,go_sem]
      refine leavesE_fz B.length (flatD (catD ls) ++ []) (by simp) (Nat.le_refl _) ?_ (Ext.of _ _) (ExtT.refl _)
      have hfz : D.fz B.length (flatD (catD ls) ++ []) (.ms false 1 B.length 0 tot tot) = .sl none (catD ls):=by
       simp only [D.fz]
       rw [if_pos ⟨trivial,by simp [hC.a.flat,htot],.inr trivial,by omega⟩,List.drop_zero,← htot,chunk_flatS _ _ hC.a]
      rw [hfz]
      have : sliceD true (catD ls) = .sl none (catD ls):=by
       rcases sliceD_cases true (catD ls) with ⟨_,h⟩ | h
       ·rw [h] at htot;exact absurd htot.symm h0
       ·exact h
      rw [this]
      exact Crs.refl _
  ·cases h
 ·cases h
end GP
namespace GP
open Go Go.Proofs
open Rd O
set_option maxRecDepth 100000
def c182c : C :=
 (.seq (.reg [I1 2 (.mv KN)])
 (.seq (.reg [I1 3 (.mv (Ki 0))])
 (.seq (.seq (.reg [Im 9 0,Iz 10 9,I1 11 (.mv (Ki 0))])
 (.block 0
 (.loop
 (.seq (.reg [I1 12 (.bin .lss (t 11) (t 10))])
 (.seq (.cond (t 12)
 .skip
 (.exit 0))
 (.seq (.block 1
 (.seq (.reg [I1 13 (.iaddr 1 (t 9) (t 11)),Il 14 13,Im 5 14])
 (.seq (.reg [Im 15 3,Im 16 5,Iz 17 16,I1 18 (.bin .add (t 15) (t 17)),Im 3 18])
 (.seq (.reg [Im 19 3,I1 20 (.bin .lss (t 19) (Ki 0))])
 (.cond (t 20)
 .stop
 .skip)))))
 (.reg [I1 22 (.bin .add (t 11) (Ki 1)),Im 11 22])))))))
 (.seq (.reg [Im 23 3,Ic 24 207 [KN,(t 23)],Im 6 24])
 (.seq (.seq (.reg [Im 25 0,Iz 26 25,I1 27 (.mv (Ki 0))])
 (.block 2
 (.loop
 (.seq (.reg [I1 28 (.bin .lss (t 27) (t 26))])
 (.seq (.cond (t 28)
 .skip
 (.exit 2))
 (.seq (.block 3
 (.seq (.reg [I1 29 (.iaddr 1 (t 25) (t 27)),Il 30 29,Im 8 30])
 (.reg [Im 31 6,Im 32 8,I1 33 (.appm false false 1 16 (t 31) (t 32)),Im 6 33])))
 (.reg [I1 34 (.bin .add (t 27) (Ki 1)),Im 27 34])))))))
 (.seq (.reg [Im 35 6,Im 2 35])
 .ret))))))
theorem fn182c : Fn Tryz.prog 182 36 [.inl 2] c182c:=⟨⟨_,_,Tryz.func182,rfl,by kernel_rfl,Tryz.ntmps182,by kernel_rfl,Hq6,by kernel_rfl⟩⟩
def c207 : C :=
 (.seq (.reg [I1 4 (.mv KN)])
 (.seq (.seq (.reg [Im 5 1,I1 6 (.bin .lss (t 5) (Ki 0))])
 (.cond (t 6)
 .stop
 .skip))
 (.seq (.seq (.reg [Im 8 1,Im 9 0,I1 10 (.capz (t 9)),Im 11 0,Iz 12 11,I1 13 (.bin .sub (t 10) (t 12)),I1 14 (.bin .sub (t 8) (t 13)),Im 1 14])
 (.seq (.reg [Im 15 1,I1 16 (.bin .gtr (t 15) (Ki 0))])
 (.cond (t 16)
 (.reg [Im 17 0,Im 18 0,I1 19 (.capz (t 18)),I1 20 (.sls 1 (t 17) none (some (t 19))),Im 21 1,I1 22 (.appz false 1 16 [(.str [])] (t 20) (t 21)),Im 23 0,Iz 24 23,I1 25 (.sls 1 (t 22) none (some (t 24))),Im 0 25])
 .skip)))
 (.seq (.reg [Im 26 0,Im 4 26])
 .ret))))
theorem fn207 : Fn Tryz.prog 207 27 [.inl 4] c207:=⟨⟨_,_,Tryz.func207,rfl,by kernel_rfl,Tryz.ntmps207,by kernel_rfl,Hq6,by kernel_rfl⟩⟩
def c83b : C :=
 (.seq (.reg [I1 1 (.box (t 0)),I1 2 (.mv KN)])
 (.seq (.draw 0 [(If 4 0 1,[]),(Il 5 4,[]),(If 6 1 1,[]),(Il 7 6,[]),(Ip 8 137 [],[]),(If 9 2 1,[]),(Il 10 9,[]),(I1 11 (.iaddr 1 (t 8) (t 10)),[]),(Il 12 11,[]),(I1 13 (.bslq 1 [(Ks ([102,97,99,116])),(t 5),(Ks ([46])),(t 7),(t 12)]),[]),(Ic 14 84 [(t 13)],[]),(Im 3 14,[])])
 (.seq (.seq (.reg [If 15 3 1,Il 16 15])
 (.cond (t 16)
 (.reg [Im 17 3,Ip 18 87 [(Ks ([98,97,103]))],I1 19 (.bsl 3 [(t 18)]),I1 20 (.app false 3 32 (t 17) (t 19)),Im 3 20])
 .skip))
 (.seq (.reg [Im 21 3,Ip 22 87 [(Ks ([59]))],I1 23 (.bsl 3 [(t 22)]),I1 24 (.app false 3 32 (t 21) (t 23)),Im 2 24])
 .ret))))
theorem fn83b : Fn Tryz.prog 83 25 [.inl 2] c83b:=⟨⟨_,_,Tryz.func83,rfl,by kernel_rfl,Tryz.ntmps83,by kernel_rfl,Hq7,by kernel_rfl⟩⟩
end GP
namespace GP
open Go Go.Proofs
set_option maxRecDepth 100000
theorem ord_sameb (v : D) : (ordW ord0 v zeroV == 0) = sameB v zeroV:=by
 cases hb : sameB v zeroV with
 | true=>rw [sameB_ord hb];rfl
 | false =>
  rw [beq_eq_false_iff_ne]
  intro h
  rw [ord_same h] at hb;cases hb
theorem nth_eq {e : D} (he : isE nodeB e) : sameE nodeB e zeroE = ((((((eop e == []) && (ewho e == [])) && (ename e == [])) && (((eps e).length : Int) == 0))) && (ordW ord0 (eV e) zeroV == 0)):=by
 obtain ⟨m,hm⟩:=isE_pos he
 rw [hm,ord_sameb]
 have z1 : eop zeroE = []:=rfl
 have z2 : ewho zeroE = []:=rfl
 have z3 : ename zeroE = []:=rfl
 have z4 : eV zeroE = zeroV:=rfl
 have z5 : eps zeroE = []:=rfl
 show (if ((eop e != []) || (ewho e != []) || (ename e != []) || !sameB (eV e) zeroV) = true then false else allZ (sameE m) (eps e) []) = _
 have za : allZ (sameE m) (eps e) [] = (((eps e).length : Int) == 0):=by
  unfold allZ
  cases eps e with
  | nil=>rfl
  | cons a l =>
   have : (((a :: l).length : Int) == 0) = false:=by rw [beq_eq_false_iff_ne];simp;omega
   rw [this];rfl
 rw [za]
 unfold bne
 cases eop e == [] <;> cases ewho e == [] <;> cases ename e == [] <;> cases sameB (eV e) zeroV <;> cases ((eps e).length : Int) == 0 <;> rfl
open Classical in
noncomputable def φnth : List D -> Option D
 | [e]=>if isE nodeB e then some (.bool (sameE nodeB e zeroE)) else none
 | _=>none
set_option maxHeartbeats 4000000 in
theorem ok181 : OkAt Tryz.prog 181 φnth:=by
 refine ok_of (l:=[(64,φOrdZ)]) (.cons ok64z .nil) fn181 fun args r h=>?_
 unfold φnth at h
 split at h
 ·rename_i e
  split at h
  ·rename_i hc
   injection h with h;subst h
   refine ⟨by simp,by simp [D.cl],fun H T=>?_⟩
   rw [nth_eq hc]
   obtain ⟨op,k,i,t,nl,l,who,name,m,ps,rfl,h1,h2,h3,h4,h5,h6,eL,eP⟩:=isE_elim hc
   have p64 : φOrdZ [mkV k i t nl l,zeroV] = some (.int .i64 (ordW ord0 (mkV k i t nl l) zeroV)):=by simp only [φOrdZ];rw [if_pos ⟨h4.1,zeroV_isV,rfl⟩]
   have e1 : eop (mkE op k i t nl l who name m ps) = op:=rfl
   have e2 : ewho (mkE op k i t nl l who name m ps) = who:=rfl
   have e3 : ename (mkE op k i t nl l who name m ps) = name:=rfl
   have e4 : eV (mkE op k i t nl l who name m ps) = mkV k i t nl l:=rfl
   rw [e1,e2,e3,e4,eps_mk]
   obtain ⟨b3,hb3⟩ : ∃ z,ordW ord0 (mkV k i t nl l) zeroV = z:=⟨_,rfl⟩
   rw [hb3] at p64 ⊢
   simp only [mkV,zeroV] at p64
   rcases tf (op == []) with g1 | g1
   ·rcases tf (who == []) with g2 | g2
    ·rcases tf (name == []) with g3 | g3
     ·rcases tf (((ps.length : Nat) : Int) == 0) with g4 | g4
      ·rcases tf (b3 == 0) with g5 | g5
       ·rw [g1,g2,g3,g4,g5];simp +contextual (maxSteps:=10000000) only [c181,mkE,eL,eP,p64,g1,g2,g3,g4,g5,go_sem]
       ·rw [g1,g2,g3,g4,g5];simp +contextual (maxSteps:=10000000) only [c181,mkE,eL,eP,p64,g1,g2,g3,g4,g5,go_sem]
      ·rw [g1,g2,g3,g4];simp +contextual (maxSteps:=10000000) only [c181,mkE,eL,eP,p64,g1,g2,g3,g4,go_sem]
     ·rw [g1,g2,g3];simp +contextual (maxSteps:=10000000) only [c181,mkE,eL,eP,p64,g1,g2,g3,go_sem]
    ·rw [g1,g2];simp +contextual (maxSteps:=10000000) only [c181,mkE,eL,eP,p64,g1,g2,go_sem]
   ·rw [g1];simp +contextual (maxSteps:=10000000) only [c181,mkE,eL,eP,p64,g1,go_sem]
  ·cases h
 ·cases h
set_option maxHeartbeats 4000000 in
theorem ok135 : OkAt Tryz.prog 135 φopt:=by
 refine ok_of (l:=[(181,φnth),(35,φfmP nodeB),(26,φdpt nodeB)]) (.cons ok181 (.cons (ok35 nodeB) (.cons (ok26 nodeB nodeB_le) .nil))) fn135 fun args r h=>?_
 unfold φopt at h
 split at h
 ·rename_i b e
  split at h
  ·rename_i hc
   injection h with h;subst h
   refine ⟨by simp,by simp [D.cl],fun H T=>?_⟩
   have ee:=isE_erase hc
   obtain ⟨q1,q2,q3,q4⟩:=isE_cells hc
   have p1 : φnth [e] = some (.bool (sameE nodeB e zeroE)):=by simp only [φnth];rw [if_pos hc]
   have p2 : φfmP nodeB [e] = some (.bool (fmR nodeB e)):=by simp only [φfmP];rw [if_pos hc,fm_eq]
   have p3 : φdpt nodeB [e] = some (.int .i64 ((dpt nodeB e : Nat) : Int)):=by simp only [φdpt];rw [if_pos hc]
   have dd : decide (((dpt nodeB e : Nat) : Int) <= 12) = decide (dpt nodeB e <= 12):=by
    rw [decide_eq_decide];omega
   unfold optB
   obtain ⟨S,hS⟩ : ∃ z,sameE nodeB e zeroE = z:=⟨_,rfl⟩
   obtain ⟨F,hF⟩ : ∃ z,fmR nodeB e = z:=⟨_,rfl⟩
   obtain ⟨G,hG⟩ : ∃ z,decide (dpt nodeB e <= 12) = z:=⟨_,rfl⟩
   rw [hS] at p1 ⊢
   rw [hF] at p2 ⊢
   rw [hG] at dd ⊢
   cases b with
   | false =>
    rw [if_neg (by decide)]
    simp +contextual (maxSteps:=10000000) only [c135,ee,q1,q2,q3,q4,p1,go_sem]
   | true =>
    rw [if_pos rfl]
    cases F with
    | false=>simp +contextual (maxSteps:=10000000) only [c135,ee,q1,q2,q3,q4,p2,go_sem]
    | true=>simp +contextual (maxSteps:=10000000) only [c135,ee,q1,q2,q3,q4,p2,p3,dd,go_sem]
  ·cases h
 ·cases h
theorem zStr : ∀ d ∈ [D.str []],d.one = true /\ d.cl 0 0 = true:=by
 intro d hd
 simp only [List.mem_cons,List.not_mem_nil,or_false] at hd
 subst hd;exact ⟨rfl,rfl⟩
theorem ok207 : OkAtG Tryz.prog 207 (φgrow false 1 16 [.str []]):=okGrow (by rfl) zStr fn207
theorem ok182 : OkAt Tryz.prog 182 φcatS:=okCatS ok207 fn182c
theorem catS_at {m m' : Bool} {du ad : List (List UInt8)} (h1 : du.length <= 2 ^ 20) (h2 : ad.length <= 2 ^ 20) : φcatS [.sl none [sliceD m (du.map D.str),sliceD m' (ad.map D.str)]] = some (sliceD true ((du ++ ad).map D.str)):=by
 have e : elems (.sl none [sliceD m (du.map D.str),sliceD m' (ad.map D.str)]) = [sliceD m (du.map D.str),sliceD m' (ad.map D.str)]:=rfl
 have ec : catD [sliceD m (du.map D.str),sliceD m' (ad.map D.str)] = (du ++ ad).map D.str:=by
  simp only [catD,List.map_cons,List.map_nil,elems_sliceD,List.flatten_cons,List.flatten_nil,List.append_nil,List.map_append]
 have hm : ∀ x ∈ (du ++ ad).map D.str,∃ s,x = D.str s:=fun x hx=>by
  obtain ⟨s,_,rfl⟩:=List.mem_map.1 hx;exact ⟨s,rfl⟩
 simp only [φcatS]
 rw [if_pos,e,ec]
 refine ⟨rfl,⟨by rw [e];simp,?_,by rw [e,ec];exact hm,?_,?_,?_,?_⟩⟩
 ·rw [e]
  intro y hy
  simp only [List.mem_cons,List.not_mem_nil,or_false] at hy
  rcases hy with rfl | rfl <;> exact ⟨_,_,rfl⟩
 ·rw [e,ec]
  exact eraseL_id fun x hx=>by obtain ⟨s,rfl⟩:=hm x hx;rfl
 ·rw [e,ec]
  exact clL_of fun x hx=>by obtain ⟨s,rfl⟩:=hm x hx;rfl
 ·rw [e,ec,List.length_map,List.length_append];omega
 ·rw [e,ec,List.length_map,List.length_append];omega
open Classical in
noncomputable def φruP : List D -> Option D
 | [r]=>if isR nodeB r /\ (rDu r).length <= 2 ^ 20 /\ (rAd r).length <= 2 ^ 20 then some (.bool (okR r)) else none
 | _=>none
set_option maxHeartbeats 8000000 in
theorem ok136 : OkAt Tryz.prog 136 φruP:=by
 have hX:=XL_mono [(182,φcatS),(128,φfk 3),(127,φnmP),(135,φopt)]
 refine ok_of (l:=[(182,φcatS),(128,φfk 3),(127,φnmP),(135,φopt)]) (.cons ok182 (.cons ok128 (.cons ok127 (.cons ok135 .nil)))) fn136 fun args r h=>?_
 unfold φruP at h
 split at h
 ·rename_i rr
  split at h
  ·rename_i hr
   injection h with h;subst h
   refine ⟨by simp,by simp [D.cl],fun H T=>?_⟩
   obtain ⟨hs,hd,ha⟩:=hr
   have er:=isR_erase hs
   obtain ⟨pm,hi,nm,e,m,m',du,ad,rfl,he,k1,k2,k3⟩:=hs
   rw [rDu_mk] at hd
   rw [rAd_mk] at ha
   simp only [okR,rNm_mk,rHi_mk,rE_mk _ _ _ _ _ _ _ _ he,rDu_mk,rAd_mk]
   have hE:=ag_isE he
   have ee:=isE_erase he
   have pc:=catS_at (m:=m) (m':=m') hd ha
   have pn : φnmP [.str nm] = some (.bool (nameB nm)):=by simp only [φnmP];rw [if_pos k1]
   have po:=opt_at (b:=hi) he
   have hall : (du.all txtB && ad.all txtB) = ((du ++ ad).map D.str).all (fun d=>txtB (strB d)):=by
    rw [List.all_map,List.all_append];rfl
   rw [hall]
   have hln : ((du ++ ad).map D.str).length <= 2 ^ 21:=by rw [List.length_map,List.length_append];omega
   have htx : ∀ x ∈ (du ++ ad).map D.str,∃ s,x = D.str s /\ s.length <= 2 ^ 47:=fun x hx=>by
    obtain ⟨s,hs,rfl⟩:=List.mem_map.1 hx
    rcases List.mem_append.1 hs with h | h
    ·exact ⟨s,rfl,k2.2 s h⟩
    ·exact ⟨s,rfl,k3.2 s h⟩
   obtain ⟨Z,hZ⟩ : ∃ z,(du ++ ad).map D.str = z:=⟨_,rfl⟩
   rw [hZ] at pc hln htx ⊢
   obtain ⟨N,hN⟩ : ∃ z,nameB nm = z:=⟨_,rfl⟩
   obtain ⟨O,hO⟩ : ∃ z,optB hi e = z:=⟨_,rfl⟩
   rw [hN] at pn ⊢
   rw [hO] at po ⊢
   obtain ⟨DU,hDU⟩ : ∃ z,sliceD m (du.map D.str) = z:=⟨_,rfl⟩
   obtain ⟨AD,hAD⟩ : ∃ z,sliceD m' (ad.map D.str) = z:=⟨_,rfl⟩
   have eu:=sl_str_erase m du
   have ea:=sl_str_erase m' ad
   simp only [mkR,hDU,hAD] at er pc eu ea
   have oD : DU.okc = true /\ DU.cells.length = 1:=by
    rw [<- hDU];rcases sliceD_cases m (du.map D.str) with ⟨h,_⟩ | h <;> rw [h] <;> exact ⟨rfl,rfl⟩
   have oA : AD.okc = true /\ AD.cells.length = 1:=by
    rw [<- hAD];rcases sliceD_cases m' (ad.map D.str) with ⟨h,_⟩ | h <;> rw [h] <;> exact ⟨rfl,rfl⟩
   have o1 : (DU.okc && DU.cells.length == 1 && (AD.okc && AD.cells.length == 1)) = true:=by
    rw [oD.1,oD.2,oA.1,oA.2];rfl
   simp +contextual (maxSteps:=10000000) only [c136,mkR,hDU,hAD,er,eu,ea,pc,o1,go_sem]
   refine W_all Z (fun d=>txtB (strB d)) 12 (fun s=>s.t 1 = .ptr H.length 0 /\ s.t 10 = sliceD true Z /\ s.t 11 = .int .i64 (Z.length : Int) /\ Ext (H ++ [.row [.bool pm,.str nm,.bool hi,cE e 0,cE e 1,cE e 2,cE e 3,cE e 4,cE e 5,cE e 6,cE e 7,DU,AD]]) s.H /\ ExtT T s.T) hX ⟨by simp [upd],by simp [upd],by simp [upd],Ext.refl _,by first | exact ExtT.refl _ | exact (ExtT.refl _).app _⟩ (by simp [upd]) ?_ ?_
   ·rintro i x ⟨t,B,T'⟩ b hx hm hi' ⟨r1,r10,r11,hB,hT⟩ r12 hb hno
    simp only at r1 r10 r11 r12 hB hT
    have d1 : decide ((i : Int) < Z.length) = true:=by simpa using hi'
    obtain ⟨s,rfl,hsl⟩:=htx x hm
    have p:=fk_at (k:=3) hsl
    have hb : formI 3 s 0 = b:=hb
    rw [hb] at p
    cases b with
    | false =>
     have hno:=hno rfl
     have hf : (N && (O && false)) = false:=by cases N <;> cases O <;> rfl
     simp +contextual (maxSteps:=10000000) only [r1,r10,r11,r12,d1,hx,p,hno,hf,leaves_E hB.pre hT,go_sem]
    | true =>
     simp +contextual (maxSteps:=10000000) only [r1,r10,r11,r12,d1,hx,p,wrap_succ i (by omega),go_sem]
     exact ⟨hB,hT⟩
   ·rintro ⟨t,B,T'⟩ ⟨r1,r10,r11,hB,hT⟩ r12 hal
    simp only at r1 r10 r11 r12 hB hT
    have d1 : decide ((Z.length : Int) < Z.length) = false:=by simp
    have hg:=hB.get (o:=H.length) (by simp;rfl)
    rw [hal]
    cases N with
    | false=>simp +contextual (maxSteps:=10000000) only [r1,r10,r11,r12,d1,rdAt_E hg,pn,leaves_E hB.pre hT,go_sem]
    | true=>simp +contextual (maxSteps:=10000000) only [r1,r10,r11,r12,d1,rdAt_E hg,pn,hE,ee,po,leaves_E hB.pre hT,Bool.and_true,Bool.true_and,go_sem]
  ·cases h
 ·cases h
end GP
namespace GP
open Go Go.Proofs
set_option maxRecDepth 100000
open Classical in
noncomputable def φfdP : List D -> Option D
 | [d]=>if isDoc nodeB d /\ ∀ p ∈ dPs d,∀ r ∈ pRs p,(rDu r).length <= 2 ^ 20 /\ (rAd r).length <= 2 ^ 20 then some (.bool (okD d)) else none
 | _=>none
noncomputable abbrev xs81 : Fs:=[(126,φwho),(127,φnmP),(134,φfk 1),(135,φopt),(136,φruP)]
theorem nmP_at {s : List UInt8} (h : s.length <= 2 ^ 47) : φnmP [.str s] = some (.bool (nameB s)):=by
 simp only [φnmP];rw [if_pos h]
theorem okD_eq (d : D) : okD d = ((dFs d).all okF && ((dPs d).all okP && formI 1 (dUs d) 0)):=by
 unfold okD
 cases formI 1 (dUs d) 0 <;> cases (dFs d).all okF <;> cases (dPs d).all okP <;> rfl
set_option maxHeartbeats 16000000 in
theorem ok81 : OkAt Tryz.prog 81 φfdP:=by
 refine ok_of (l:=xs81) (.cons ok126 (.cons ok127 (.cons ok134 (.cons ok135 (.cons ok136 .nil))))) fn81 fun args r h=>?_
 have hX:=XL_mono xs81
 unfold φfdP at h
 split at h
 ·rename_i d
  split at h
  ·rename_i hd
   injection h with h;subst h
   refine ⟨by simp,by simp [D.cl],fun H T=>?_⟩
   rw [okD_eq]
   obtain ⟨hd,hdu⟩:=hd
   have ed:=isDoc_erase hd
   obtain ⟨m,fs,us,m',ps,rfl,h1,h2,h3,h4,h5⟩:=hd
   simp only [dPs_mk] at hdu
   simp only [mkDoc] at ed
   simp only [dFs_mk,dUs_mk,dPs_mk]
   have pu:=fk_at (k:=1) h2
   obtain ⟨ub,hub⟩ : ∃ z,formI 1 us 0 = z:=⟨_,rfl⟩
   rw [hub] at pu ⊢
   simp +contextual (maxSteps:=10000000) only [c81,mkDoc,ed,go_sem]
   refine W_all fs okF 12 (fun s=>s.t 1 = .ptr H.length 0 /\ s.t 10 = sliceD m fs /\ s.t 11 = .int .i64 (fs.length : Int) /\ Ext (H ++ [.row [sliceD m fs,.str us,sliceD m' ps]]) s.H /\ s.T = T) hX ⟨by simp [upd],by simp [upd],by simp [upd],Ext.refl _,rfl⟩ (by simp [upd]) ?_ ?_
   ·rintro i x ⟨t,B,T'⟩ b hx hm hi ⟨r1,r10,r11,hB,rfl⟩ r3 hb hno
    simp only at r1 r3 hB r10 r11
    have d1 : decide ((i : Int) < fs.length) = true:=by simpa using hi
    obtain ⟨w,n,k,bg,rfl,k1,k2,k3,k4⟩:=h4 x hm
    have pw:=who_at w
    have pn:=nmP_at k2
    have hb : (inB whoW w && (nameB n && (!(decide (k < 1)) && !(decide (4 < k))))) = b:=hb
    have hno2 : b = false -> (fs.all okF && (ps.all okP && ub)) = false:=fun h=>by rw [hno h];rfl
    obtain ⟨wb,hwb⟩ : ∃ z,inB whoW w = z:=⟨_,rfl⟩
    obtain ⟨nb,hnb⟩ : ∃ z,nameB n = z:=⟨_,rfl⟩
    rw [hwb] at pw hb
    rw [hnb] at pn hb
    subst hb
    cases wb with
    | false =>
     have hno2:=hno2 rfl
     simp +contextual (maxSteps:=10000000) only [r1,r3,r10,r11,d1,hx,mkF,pw,hno2,leaves_Ea hB.pre (ExtT.refl _),go_sem]
    | true =>
    cases nb with
    | false =>
     have hno2:=hno2 rfl
     simp +contextual (maxSteps:=10000000) only [r1,r3,r10,r11,d1,hx,mkF,pw,pn,hno2,leaves_Ea hB.pre (ExtT.refl _),go_sem]
    | true =>
    rcases tf (decide (k < 1)) with g1 | g1
    ·have hno2:=hno2 (by rw [g1];rfl)
     simp +contextual (maxSteps:=10000000) only [r1,r3,r10,r11,d1,hx,mkF,pw,pn,g1,hno2,leaves_Ea hB.pre (ExtT.refl _),go_sem]
    rcases tf (decide (4 < k)) with g2 | g2
    ·have hno2:=hno2 (by rw [g1,g2];rfl)
     simp +contextual (maxSteps:=10000000) only [r1,r3,r10,r11,d1,hx,mkF,pw,pn,g1,g2,hno2,leaves_Ea hB.pre (ExtT.refl _),go_sem]
    ·simp +contextual (maxSteps:=10000000) only [r1,r3,r10,r11,d1,hx,mkF,pw,pn,g1,g2,wrap_succ i (by omega),go_sem]
     exact hB.app _
   ·rintro ⟨t,B,T'⟩ ⟨r1,r10,r11,hB,rfl⟩ r3 hall
    simp only at r1 r3 hB r10 r11
    have d1 : decide ((fs.length : Int) < fs.length) = false:=by simp
    have hg:=hB.get (o:=H.length) (by simp;rfl)
    rw [hall]
    simp only [Bool.true_and]
    simp +contextual (maxSteps:=10000000) only [r1,r3,r10,r11,rdAt_E hg,d1,go_sem]
    clear r3 r10 r11
    refine W_all ps okP 40 (fun s=>s.t 1 = .ptr H.length 0 /\ s.t 38 = sliceD m' ps /\ s.t 39 = .int .i64 (ps.length : Int) /\ Ext (H ++ [.row [sliceD m fs,.str us,sliceD m' ps]]) s.H /\ s.T = T') hX ⟨by simp [upd,r1],by simp [upd],by simp [upd],hB,rfl⟩ (by simp [upd]) ?_ ?_
    ·clear r1 hB hg d1
     rintro i x ⟨t,B,T'⟩ b hx hm hi ⟨r1,r10,r11,hB,rfl⟩ r3 hb hno
     simp only at r1 r3 hB r10 r11
     have d1 : decide ((i : Int) < ps.length) = true:=by simpa using hi
     have hduP:=hdu x hm
     obtain ⟨nm,bn,us',hf,e,mm,rs,rfl,he,k1,k2,k3,k4,k5⟩:=h5 x hm
     rw [pRs_mk] at hduP
     have hE:=ag_isE he
     have ee:=isE_erase he
     have p1:=nmP_at k1
     have p2:=nmP_at k2
     have p3:=fk_at (k:=1) k3
     have p4:=opt_at (b:=hf) he
     simp only [okP,pNm_mk,pBy_mk,pUs_mk,pHf_mk,pRs_mk,pE_mk _ _ _ _ _ _ _ he] at hb
     obtain ⟨b1,hb1⟩ : ∃ z,nameB nm = z:=⟨_,rfl⟩
     obtain ⟨b2,hb2⟩ : ∃ z,nameB bn = z:=⟨_,rfl⟩
     obtain ⟨b3,hb3⟩ : ∃ z,formI 1 us' 0 = z:=⟨_,rfl⟩
     obtain ⟨b4,hb4⟩ : ∃ z,optB hf e = z:=⟨_,rfl⟩
     rw [hb1] at p1 hb
     rw [hb2] at p2 hb
     rw [hb3] at p3 hb
     rw [hb4] at p4 hb
     have hnoU : b = false -> (ps.all okP && ub) = false:=fun h=>by rw [hno h];rfl
     cases b1 with
     | false =>
      have hno:=hnoU hb.symm
      simp +contextual (maxSteps:=10000000) only [r1,r3,r10,r11,d1,hx,mkP,p1,hno,leaves_Ea hB.pre (ExtT.refl _),go_sem]
     | true =>
     cases b2 with
     | false =>
      have hno:=hnoU hb.symm
      simp +contextual (maxSteps:=10000000) only [r1,r3,r10,r11,d1,hx,mkP,p1,p2,hno,leaves_Ea hB.pre (ExtT.refl _),go_sem]
     | true =>
     cases b3 with
     | false =>
      have hno:=hnoU hb.symm
      simp +contextual (maxSteps:=10000000) only [r1,r3,r10,r11,d1,hx,mkP,p1,p2,p3,hno,leaves_Ea hB.pre (ExtT.refl _),go_sem]
     | true =>
     cases b4 with
     | false =>
      have hno:=hnoU hb.symm
      simp +contextual (maxSteps:=10000000) only [r1,r3,r10,r11,d1,hx,mkP,p1,p2,p3,hE,ee,p4,hno,leaves_Ea hB.pre (ExtT.refl _),go_sem]
     | true =>
     simp only [Bool.true_and] at hb
     simp +contextual (maxSteps:=10000000) only [r1,r3,r10,r11,d1,hx,mkP,p1,p2,p3,hE,ee,p4,go_sem]
     refine W_all rs okR 71 (fun s=>s.t 1 = .ptr H.length 0 /\ s.t 38 = sliceD m' ps /\ s.t 39 = .int .i64 (ps.length : Int) /\ s.t 40 = .int .i64 (i : Int) /\ s.t 69 = sliceD mm rs /\ s.t 70 = .int .i64 (rs.length : Int) /\ Ext (B ++ [.row (mkP nm bn us' hf e mm rs).cells]) s.H /\ s.T = T') hX ⟨by simp [upd,r1],by simp [upd,r10],by simp [upd,r11],by simp [upd,r3],by simp [upd],by simp [upd],Ext.refl _,rfl⟩ (by simp [upd]) ?_ ?_
     ·clear p1 p2 p3 p4
      rintro i' x' ⟨t',B',T''⟩ b' hx' hm' hi' ⟨s1,s10,s11,s3,s69,s70,hB',rfl⟩ s5 hb' hno'
      simp only at s1 s3 s5 s10 s11 s69 s70 hB'
      have d2 : decide ((i' : Int) < rs.length) = true:=by simpa using hi'
      have hR:=k5 x' hm'
      have eR:=isR_erase hR
      obtain ⟨q1,q2,q3,q4⟩:=isR_cells hR
      have p5 : φruP [x'] = some (.bool (okR x')):=by simp only [φruP];rw [if_pos ⟨hR,hduP x' hm'⟩]
      have hno2 : b' = false -> (ps.all okP && ub) = false:=fun h=>hnoU (by rw [<- hb,hno' h])
      have hB2 : Ext H B':=(hB.pre.trans hB'.pre)
      rw [hb'] at p5
      cases b' with
      | false =>
       have hno2:=hno2 rfl
       simp +contextual (maxSteps:=10000000) only [s1,s3,s10,s11,s69,s70,s5,d2,hx',eR,q1,q2,q3,q4,p5,hno2,leaves_Ea hB2 (ExtT.refl _),go_sem]
      | true =>
       simp +contextual (maxSteps:=10000000) only [s1,s3,s10,s11,s69,s70,s5,d2,hx',eR,q1,q2,q3,q4,p5,wrap_succ i' (by omega),go_sem]
       exact hB'.app _
     ·rintro ⟨t',B',T''⟩ ⟨s1,s10,s11,s3,s69,s70,hB',rfl⟩ s5 hall
      simp only at s1 s3 s5 s10 s11 s69 s70 hB'
      have d2 : decide ((rs.length : Int) < rs.length) = false:=by simp
      rw [hall] at hb
      simp +contextual (maxSteps:=10000000) only [s1,s3,s10,s11,s69,s70,s5,d2,wrap_succ i (by omega),hb.symm,go_sem]
      exact (hB.app _).trans hB'
    ·rintro ⟨t,B,T'⟩ ⟨r1,r10,r11,hB,rfl⟩ r3 hall
     simp only at r1 r3 hB r10 r11
     have d1 : decide ((ps.length : Int) < ps.length) = false:=by simp
     have hg:=hB.get (o:=H.length) (by simp;rfl)
     rw [hall]
     simp only [Bool.true_and]
     simp +contextual (maxSteps:=10000000) only [r1,r3,r10,r11,rdAt_E hg,d1,pu,leaves_E hB.pre (ExtT.refl _),go_sem]
  ·cases h
 ·cases h
end GP
