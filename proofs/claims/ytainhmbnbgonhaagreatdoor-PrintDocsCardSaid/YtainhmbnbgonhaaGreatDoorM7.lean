import Derived.Ground.SlsfProg
import Derived.Shelf.Lay
import Derived.Test.YtainhmbnbgonhaaGreatDoorM4
import Derived.Test.YtainhmbnbgonhaaGreatDoorM5
import Derived.Test.YtainhmbnbgonhaaGreatDoorM6
set_option linter.unusedSimpArgs false
set_option linter.unnecessarySimpa false
namespace GP
open Go Go.Proofs
set_option maxRecDepth 100000
theorem wrap_pred (n : Nat) (h : n < 2 ^ 61) (h0 : 0 < n) : IntKind.i64.wrap ((n : Int) - 1) = ((n - 1 : Nat) : Int):=by
 rw [wrap_of _ (by omega) (by omega)];omega
theorem all_range_succ {p : Nat -> Bool} (i : Nat) : (List.range (i + 1)).all p = ((List.range i).all p && p i):=by
 rw [List.range_succ];simp
theorem range_false_of {p : Nat -> Bool} {i m : Nat} (hp : p i = false) (him : i < m) : (List.range m).all p = false:=by
 cases hq : (List.range m).all p with
 | false=>rfl
 | true=>rw [List.all_eq_true.1 hq i (by simpa using him)] at hp;cases hp
def one1 (d : D) : Bool:=plainB (vk d) (vi d) (vs d) (vl d).length
def vk0 : List D -> Int
 | x :: _=>vk x
 | []=>0
def okEl (cmp : D -> D -> Int) (xs : List D) (i : Nat) : Bool:=match xs[i]? with
 | none=>true
 | some x=>one1 x && (vk x != 0) && (vk x == vk0 xs) && (i == 0 || (match xs[i - 1]? with | some y=>decide (cmp y x < 0) | none=>false))
def adjB (cmp : D -> D -> Int) (xs : List D) : Bool:=(List.range xs.length).all (okEl cmp xs)
def singleD (a b : D) : Int:=singleI (vk a) (vi a) (vs a) (vk b) (vi b) (vs b)
def formedB (d : D) : Bool:=if vk d != 5 then one1 d else if (vi d != 0) || (vs d != []) || decide ((16 : Int) < (vl d).length) then false else adjB singleD (vl d)
def φformed : List D -> Option D
 | [d]=>if d.isV = true then some (.bool (formedB d)) else none
 | _=>none
theorem vk0_get {xs : List D} {k i : Int} {s : List UInt8} {n : Bool} {l : List D} (h : xs[0]? = some (mkV k i s n l)) : vk0 xs = k:=by
 cases xs with
 | nil=>simp at h
 | cons x xs=>simp at h;subst h;rfl
theorem erase_of_isV {l : List D} (h : ∀ x ∈ l,x.isV = true) : D.eraseL l = l:=isVs_erase (isVs_iff.2 h)
theorem get_isV {xs : List D} (h : ∀ x ∈ xs,x.isV = true) {i : Nat} (hi : i < xs.length) : ∃ k i' s n l,xs[i]? = some (mkV k i' s n l) /\ s.length <= 2 ^ 47 /\ l.length <= 2 ^ 47 /\ (∀ x ∈ l,x.isV = true) /\ D.eraseL l = l:=by
 obtain ⟨k,i',s,n,l,he,h1,h2,h3⟩:=isV_elim (h _ (List.getElem_mem hi))
 exact ⟨k,i',s,n,l,by rw [<- he];simp [hi],h1,h2,h3,erase_of_isV h3⟩
theorem ok107 [HasG Tryz.prog] : OkAt Tryz.prog 107 φformed:=by
 refine ok_of (l:=[(171,φone),(172,φsingle)]) (.cons ok171 (.cons ok172 .nil)) fn107 fun args r h=>?_
 unfold φformed at h
 split at h
 ·split at h
  ·rename_i d hd
   injection h with h;subst h
   refine ⟨by simp,by simp [D.cl],fun H T=>?_⟩
   obtain ⟨k,i,s,n,xs,rfl,hs,hx,hV⟩:=isV_elim hd
   have eL:=erase_of_isV hV
   have F : formedB (mkV k i s n xs) = if k != 5 then plainB k i s xs.length else if (i != 0) || (s != []) || decide ((16 : Int) < xs.length) then false else adjB singleD xs:=by simp only [formedB,one1,vk_mk,vi_mk,vs_mk,vl_mk]
   rw [F]
   simp +contextual (maxSteps:=10000000) only [c107,mkV,φone,eL,go_sem]
   intro q1 q2 q3 q4
   refine W_for (fun j s'=>s'.t 1 = .ptr H.length 0 /\ s'.t 3 = .int .i64 j /\ s'.H = H ++ [.row [.int .i64 k,.int .i64 i,.str s,sliceD n xs]] /\ s'.T = T /\ j <= xs.length /\ (List.range j).all (okEl singleD xs) = true) xs.length ⟨0,by simp [upd,argT]⟩ (fun i s h=>h.2.2.2.2.1) ?_ (XL_mono _)
   rintro j ⟨t,H',T'⟩ ⟨h1,h3,rfl,rfl,hj,hc⟩
   simp only at h1 h3
   by_cases ha : j < xs.length
   ·have d1 : decide ((j : Int) < xs.length) = true:=by simpa using ha
    obtain ⟨k1,i1,s1,n1,l1,e1,hs1,hx1,hV1,eL1⟩:=get_isV hV ha
    obtain ⟨k0,i0,s0,n0,l0,e0,_⟩:=get_isV hV (show 0 < xs.length by omega)
    have fk:=vk0_get e0
    by_cases hj0 : 0 < j
    ·obtain ⟨k2,i2,s2,n2,l2,e2,hs2,hx2,hV2,eL2⟩:=get_isV hV (show j - 1 < xs.length by omega)
     have d2 : decide ((0 : Int) < j) = true:=by simpa using hj0
     have G : okEl singleD xs j = (plainB k1 i1 s1 l1.length && (k1 != 0) && (k1 == k0) && decide (singleI k2 i2 s2 k1 i1 s1 < 0)):=by
      have : (j == 0) = false:=by simp;omega
      simp only [okEl,e1,e2,fk,one1,singleD,vk_mk,vi_mk,vs_mk,vl_mk,this,Bool.false_or]
     have bad : okEl singleD xs j = false -> adjB singleD xs = false:=fun h=>range_false_of h ha
     simp +contextual (maxSteps:=10000000) only [h1,h3,d1,d2,e0,e1,e2,mkV,φone,φsingle,eL1,eL2,wrap_pred j (by omega) hj0,wrap_succ j (by omega),hs1,hs2,Option.isSome_some,go_sem]
     refine ⟨fun q=>?_,fun p1=>⟨fun q=>?_,fun p2=>⟨fun q=>?_,fun p3=>⟨fun q=>?_,fun p4=>⟨by omega,?_⟩⟩⟩⟩⟩
     ·rw [bad (by rw [G];grind)]
     ·rw [bad (by rw [G];grind)]
     ·rw [bad (by rw [G];grind)]
     ·rw [bad (by rw [G];grind)]
     ·rw [List.all_append,hc]
      simp only [List.all_cons,List.all_nil,G]
      grind
    ·have d2 : decide ((0 : Int) < j) = false:=by simpa using hj0
     have G : okEl singleD xs j = (plainB k1 i1 s1 l1.length && (k1 != 0) && (k1 == k0)):=by
      have : (j == 0) = true:=by simp;omega
      simp only [okEl,e1,fk,one1,singleD,vk_mk,vi_mk,vs_mk,vl_mk,this,Bool.true_or,Bool.and_true]
     have bad : okEl singleD xs j = false -> adjB singleD xs = false:=fun h=>range_false_of h ha
     simp +contextual (maxSteps:=10000000) only [h1,h3,d1,d2,e0,e1,mkV,φone,φsingle,eL1,wrap_succ j (by omega),hs1,Option.isSome_some,go_sem]
     refine ⟨fun q=>?_,fun p1=>⟨fun q=>?_,fun p2=>⟨fun q=>?_,fun p3=>⟨by omega,?_⟩⟩⟩⟩
     ·rw [bad (by rw [G];grind)]
     ·rw [bad (by rw [G];grind)]
     ·rw [bad (by rw [G];grind)]
     ·rw [List.all_append,hc]
      simp only [List.all_cons,List.all_nil,G]
      grind
   ·have d1 : decide ((j : Int) < xs.length) = false:=by simpa using ha
    have hA : adjB singleD xs = true:=by
     have : j = xs.length:=by omega
     subst this;exact hc
    simp +contextual (maxSteps:=10000000) only [h1,h3,d1,mkV,hA,go_sem]
  ·cases h
 ·cases h
theorem putRow_app (n off : Nat) (v : D) (M : Hp) : ∀ (L : Hp) (i : Nat),putRow n off v (L ++ M) (L.length + i) = (putRow n off v M i).map (L ++ ·)
 | [],i=>by simp
 | x :: L,i=>by
  have e : (x :: L).length + i = (L.length + i) + 1:=by simp;omega
  rw [e,List.cons_append,putRow_s,putRow_app n off v M L i]
  cases putRow n off v M i <;> simp
@[go_sem] theorem putRow_app' (n off : Nat) (v : D) (L M : Hp) (i : Nat) : putRow n off v (L ++ M) (L.length + i) = (putRow n off v M i).map (L ++ ·):=putRow_app n off v M L i
@[go_sem] theorem putRow_app0 (n off : Nat) (v : D) (L M : Hp) : putRow n off v (L ++ M) L.length = (putRow n off v M 0).map (L ++ ·):=putRow_app n off v M L 0
def or3 (a b c : Int) : Int:=if a != 0 then a else if b != 0 then b else c
def φOr : List D -> Option D
 | [.sl none [.int .i64 a,.int .i64 b,.int .i64 c]]=>some (.int .i64 (or3 a b c))
 | _=>none
theorem ok112 [HasG Tryz.prog] : OkAt Tryz.prog 112 φOr:=by
 refine ok_of (l:=[]) .nil fn112 fun args r h=>?_
 unfold φOr at h
 split at h
 ·injection h with h;subst h
  rename_i a b c
  refine ⟨by simp,by simp [D.cl],fun H T=>?_⟩
  simp +contextual (maxSteps:=10000000) only [c112,go_sem]
  refine W_for (fun i s=>s.t 3 = .int .i64 0 /\ s.t 6 = .sl none [.int .i64 a,.int .i64 b,.int .i64 c] /\ s.t 7 = .int .i64 3 /\ s.t 8 = .int .i64 i /\ s.H = H /\ s.T = T /\ i <= 3 /\ (1 <= i -> a = 0) /\ (2 <= i -> b = 0) /\ (3 <= i -> c = 0)) 3 ⟨0,by simp [upd,argT]⟩ (fun i s h=>h.2.2.2.2.2.2.1) ?_ (XL_mono _)
  rintro i ⟨t,H',T'⟩ ⟨h3,h6,h7,h8,rfl,rfl,hi,z1,z2,z3⟩
  simp only at h3 h6 h7 h8
  have w1 : IntKind.i64.wrap 1 = 1:=by decide
  have w2 : IntKind.i64.wrap 2 = 2:=by decide
  have w3 : IntKind.i64.wrap 3 = 3:=by decide
  match i,hi with
  | 0,_ =>
   simp +contextual (maxSteps:=10000000) only [h3,h6,h7,h8,or3,w1,Int.reduceAdd,go_sem]
   grind
  | 1,_ =>
   have:=z1 (by omega);subst this
   simp +contextual (maxSteps:=10000000) only [h3,h6,h7,h8,or3,w2,Int.reduceAdd,go_sem]
   grind
  | 2,_ =>
   have:=z1 (by omega);subst this
   have:=z2 (by omega);subst this
   simp +contextual (maxSteps:=10000000) only [h3,h6,h7,h8,or3,w3,Int.reduceAdd,go_sem]
   grind
  | 3,_ =>
   have:=z1 (by omega);subst this
   have:=z2 (by omega);subst this
   have:=z3 (by omega);subst this
   simp +contextual (maxSteps:=10000000) only [h3,h6,h7,h8,or3,go_sem]
 ·cases h
def cmpL (f : D -> D -> Int) : List D -> List D -> Int
 | [],[]=>0
 | [],_ :: _=>-1
 | _ :: _,[]=>1
 | x :: xs,y :: ys=>if f x y != 0 then f x y else cmpL f xs ys
def φCF (dom : D -> Bool) (f : D -> D -> Int) : List D -> Option D
 | [l1,l2,.fn 64 [] []]=>if isSl l1 = true /\ isSl l2 = true /\ D.isVs (elems l1) = true /\ D.isVs (elems l2) = true /\ (elems l1).all dom = true /\ (elems l2).all dom = true /\ (elems l1).length <= 2 ^ 47 /\ (elems l2).length <= 2 ^ 47 then some (.int .i64 (cmpL f (elems l1) (elems l2))) else none
 | _=>none
theorem ok116 [HasG Tryz.prog] {φ : List D -> Option D} (h13 : OkAt Tryz.prog 64 φ) {dom : D -> Bool} {f : D -> D -> Int} (hφ : ∀ x y,x.isV = true -> y.isV = true -> dom x = true -> dom y = true -> φ [x,y] = some (.int .i64 (f x y))) : OkAt Tryz.prog 116 (φCF dom f):=by
 refine ok_of (l:=[(64,φ)]) (.cons h13 .nil) fn116 fun args r h=>?_
 unfold φCF at h
 split at h
 ·split at h
  ·rename_i l1 l2 hl
   injection h with h;subst h
   refine ⟨by simp,by simp [D.cl],fun H T=>?_⟩
   obtain ⟨g1,g2,g3,g4,g5,g6,g7,g8⟩:=hl
   obtain ⟨b1,hb1⟩:=isSl_elim g1
   obtain ⟨b2,hb2⟩:=isSl_elim g2
   generalize elems l1 = xs at *
   generalize elems l2 = ys at *
   subst hb1;subst hb2
   have hV1:=isVs_iff.1 g3
   have hV2:=isVs_iff.1 g4
   simp +contextual (maxSteps:=10000000) only [c116,go_sem]
   refine W_for (fun i s=>s.t 0 = sliceD b1 xs /\ s.t 1 = sliceD b2 ys /\ s.t 2 = .fn 64 [] [] /\ s.t 11 = sliceD b1 xs /\ s.t 12 = .int .i64 xs.length /\ s.t 13 = .int .i64 i /\ (∃ L,s.H = H ++ L) /\ s.T = T /\ i <= xs.length /\ i <= ys.length /\ cmpL f (xs.drop i) (ys.drop i) = cmpL f xs ys) xs.length ⟨0,by simp [upd,argT]⟩ (fun i s h=>h.2.2.2.2.2.2.2.2.1) ?_ (XL_mono _)
   rintro i ⟨t,H',T'⟩ ⟨h0,h1,h2,h11,h12,h13,⟨L,rfl⟩,rfl,hi,hj,hc⟩
   simp only at h0 h1 h2 h11 h12 h13
   by_cases ha : i < xs.length
   ·have d1 : decide ((i : Int) < xs.length) = true:=by simpa using ha
    obtain ⟨k1,i1,s1,n1,q1,e1,_,_,v1,r1⟩:=get_isV hV1 ha
    by_cases hb : i < ys.length
    ·have d2 : decide ((ys.length : Int) <= i) = false:=by simp;omega
     obtain ⟨k2,i2,s2,n2,q2,e2,_,_,v2,r2⟩:=get_isV hV2 hb
     have x1 : xs[i] = mkV k1 i1 s1 n1 q1:=by rw [List.getElem?_eq_getElem ha] at e1;exact Option.some.inj e1
     have x2 : ys[i] = mkV k2 i2 s2 n2 q2:=by rw [List.getElem?_eq_getElem hb] at e2;exact Option.some.inj e2
     have p:=hφ _ _ (hV1 _ (List.getElem_mem ha)) (hV2 _ (List.getElem_mem hb)) (List.all_eq_true.1 g5 _ (List.getElem_mem ha)) (List.all_eq_true.1 g6 _ (List.getElem_mem hb))
     rw [List.drop_eq_getElem_cons ha,List.drop_eq_getElem_cons hb,cmpL] at hc
     rw [x1,x2] at p hc
     generalize f (mkV k1 i1 s1 n1 q1) (mkV k2 i2 s2 n2 q2) = F at p hc
     simp only [mkV] at p
     simp +contextual (maxSteps:=10000000) only [h0,h1,h2,h11,h12,h13,d1,d2,e1,e2,mkV,p,r1,r2,wrap_succ i (by omega),go_sem]
     refine ⟨fun q=>?_,fun q=>⟨⟨_,rfl⟩,by omega,by omega,?_⟩⟩
     ·rw [if_pos q] at hc;rw [hc]
     ·rw [if_neg (by rw [q];decide)] at hc;exact hc
    ·have d2 : decide ((ys.length : Int) <= i) = true:=by simp;omega
     rw [List.drop_eq_getElem_cons ha,List.drop_eq_nil_of_le (by omega : ys.length <= i),cmpL] at hc
     simp +contextual (maxSteps:=10000000) only [h0,h1,h2,h11,h12,h13,d1,d2,e1,mkV,← hc,go_sem]
   ·have d1 : decide ((i : Int) < xs.length) = false:=by simpa using ha
    rw [List.drop_eq_nil_of_le (by omega : xs.length <= i)] at hc
    by_cases hb : i < ys.length
    ·have d2 : decide ((xs.length : Int) < ys.length) = true:=by simp;omega
     rw [List.drop_eq_getElem_cons hb,cmpL] at hc
     simp +contextual (maxSteps:=10000000) only [h0,h1,h2,h11,h12,h13,d1,d2,← hc,go_sem]
    ·have d2 : decide ((xs.length : Int) < ys.length) = false:=by simp;omega
     rw [List.drop_eq_nil_of_le (by omega : ys.length <= i),cmpL] at hc
     simp +contextual (maxSteps:=10000000) only [h0,h1,h2,h11,h12,h13,d1,d2,← hc,go_sem]
  ·cases h
 ·cases h
def ordW (f : D -> D -> Int) (a b : D) : Int :=
 if or3 (cmpI (vk a) (vk b)) (cmpI (vi a) (vi b)) (cmpS (vs a) (vs b)) != 0 then or3 (cmpI (vk a) (vk b)) (cmpI (vi a) (vi b)) (cmpS (vs a) (vs b)) else cmpL f (vl a) (vl b)
def φOrd (dom : D -> Bool) (f : D -> D -> Int) : List D -> Option D
 | [a,b]=>if a.isV = true /\ b.isV = true /\ (vl a).all dom = true /\ (vl b).all dom = true then some (.int .i64 (ordW f a b)) else none
 | _=>none
theorem ok64 [HasG Tryz.prog] {dom : D -> Bool} {f : D -> D -> Int} (h38 : OkAt Tryz.prog 116 (φCF dom f)) : OkAt Tryz.prog 64 (φOrd dom f):=by
 refine ok_of (l:=[(113,φnumbers),(114,φnumbers),(115,φcmp),(112,φOr),(116,φCF dom f)]) (.cons ok113 (.cons ok114 (.cons ok115 (.cons ok112 (.cons h38 .nil))))) fn64 fun args r h=>?_
 unfold φOrd at h
 split at h
 ·split at h
  ·rename_i a b hab
   injection h with h;subst h
   refine ⟨by simp,by simp [D.cl],fun H T=>?_⟩
   obtain ⟨ha,hb,hda,hdb⟩:=hab
   obtain ⟨k1,i1,s1,n1,l1,rfl,z1,y1,hV1⟩:=isV_elim ha
   obtain ⟨k2,i2,s2,n2,l2,rfl,z2,y2,hV2⟩:=isV_elim hb
   simp only [vl_mk] at hda hdb
   have r1:=erase_of_isV hV1
   have r2:=erase_of_isV hV2
   have p : φCF dom f [sliceD n1 l1,sliceD n2 l2,.fn 64 [] []] = some (.int .i64 (cmpL f l1 l2)):=by
    simp only [φCF,isSl_sliceD,elems_sliceD,isVs_iff.2 hV1,isVs_iff.2 hV2,hda,hdb,y1,y2,and_self,if_true]
   have q : ordW f (mkV k1 i1 s1 n1 l1) (mkV k2 i2 s2 n2 l2) = if or3 (cmpI k1 k2) (cmpI i1 i2) (cmpS s1 s2) != 0 then or3 (cmpI k1 k2) (cmpI i1 i2) (cmpS s1 s2) else cmpL f l1 l2:=by
    simp only [ordW,vk_mk,vi_mk,vs_mk,vl_mk]
   rw [q]
   simp +contextual (maxSteps:=10000000) only [c64,mkV,φnumbers,φcmp,φOr,r1,r2,p,fit_eq,go_sem]
  ·cases h
 ·cases h
theorem ok64none [HasG Tryz.prog] : OkAt Tryz.prog 64 (fun _=>none):=fun _ _ h=>by cases h
def dom0 (_ : D) : Bool:=false
def f0 (_ _ : D) : Int:=0
def ord0:=ordW f0
theorem ok64a [HasG Tryz.prog] : OkAt Tryz.prog 64 (φOrd dom0 f0):=ok64 (ok116 ok64none (fun _ _ _ _ h=>by cases h))
def leaf (d : D) : Bool:=(vl d).isEmpty
theorem ord_leaf {x y : D} (hx : x.isV = true) (hy : y.isV = true) (h1 : leaf x = true) (h2 : leaf y = true) : φOrd dom0 f0 [x,y] = some (.int .i64 (ord0 x y)):=by
 simp only [leaf,List.isEmpty_iff] at h1 h2
 simp [φOrd,hx,hy,h1,h2,ord0]
def formedV (d : D) : Bool:=if vk d != 5 then one1 d else if adjB ord0 (vl d) then (vi d == 0) && (vs d == []) && decide (((vl d).length : Int) <= 16) else false
def φFormed : List D -> Option D
 | [d]=>if d.isV = true then some (.bool (formedV d)) else none
 | _=>none
theorem plain_leaf {k i : Int} {s : List UInt8} {n : Nat} (h : plainB k i s n = true) : n = 0:=by
 unfold plainB at h
 by_cases hn : (0 : Int) < n
 ·simp [hn] at h
  exact h.1
 ·omega
theorem ok129 [HasG Tryz.prog] : OkAt Tryz.prog 129 φFormed:=by
 refine ok_of (l:=[(179,φplain),(64,φOrd dom0 f0)]) (.cons ok179 (.cons ok64a .nil)) fn129 fun args r h=>?_
 unfold φFormed at h
 split at h
 ·split at h
  ·rename_i d hd
   injection h with h;subst h
   refine ⟨by simp,by simp [D.cl],fun H T=>?_⟩
   obtain ⟨k,i,s,n,xs,rfl,hs,hx,hV⟩:=isV_elim hd
   have eL:=erase_of_isV hV
   have F : formedV (mkV k i s n xs) = if k != 5 then plainB k i s xs.length else if adjB ord0 xs then (i == 0) && (s == []) && decide ((xs.length : Int) <= 16) else false:=by simp only [formedV,one1,vk_mk,vi_mk,vs_mk,vl_mk]
   rw [F]
   simp +contextual (maxSteps:=10000000) only [c129,mkV,φplain,eL,go_sem]
   intro q1
   refine W_for (fun j s'=>s'.t 1 = .ptr H.length 0 /\ s'.t 11 = sliceD n xs /\ s'.t 12 = .int .i64 xs.length /\ s'.t 13 = .int .i64 j /\ (∃ L,s'.H = H ++ .row [.int .i64 k,.int .i64 i,.str s,sliceD n xs] :: L) /\ s'.T = T /\ j <= xs.length /\ (List.range j).all (okEl ord0 xs) = true) xs.length ⟨0,by simp [upd,argT]⟩ (fun i s h=>h.2.2.2.2.2.2.1) ?_ (XL_mono _)
   rintro j ⟨t,H',T'⟩ ⟨h1,h11,h12,h13,⟨L,rfl⟩,rfl,hj,hc⟩
   simp only at h1 h11 h12 h13
   by_cases ha : j < xs.length
   ·have d1 : decide ((j : Int) < xs.length) = true:=by simpa using ha
    obtain ⟨k1,i1,s1,n1,l1,e1,hs1,hx1,hV1,eL1⟩:=get_isV hV ha
    obtain ⟨k0,i0,s0,n0,l0,e0,_⟩:=get_isV hV (show 0 < xs.length by omega)
    have fk:=vk0_get e0
    have bad : okEl ord0 xs j = false -> adjB ord0 xs = false:=fun h=>range_false_of h ha
    by_cases hj0 : 0 < j
    ·obtain ⟨k2,i2,s2,n2,l2,e2,hs2,hx2,hV2,eL2⟩:=get_isV hV (show j - 1 < xs.length by omega)
     have d2 : decide ((0 : Int) < j) = true:=by simpa using hj0
     have pv : okEl ord0 xs (j - 1) = true:=List.all_eq_true.1 hc (j - 1) (by simp;omega)
     have lf2 : l2 = []:=by
      simp only [okEl,e2,one1,vk_mk,vi_mk,vs_mk,vl_mk,Bool.and_eq_true] at pv
      exact List.length_eq_zero_iff.1 (plain_leaf pv.1.1.1)
     subst lf2
     generalize ho : ord0 (mkV k2 i2 s2 n2 []) (mkV k1 i1 s1 n1 l1) = o
     have G : okEl ord0 xs j = (plainB k1 i1 s1 l1.length && (k1 != 0) && (k1 == k0) && decide (o < 0)):=by
      have : (j == 0) = false:=by simp;omega
      simp only [okEl,e1,e2,fk,one1,ho,vk_mk,vi_mk,vs_mk,vl_mk,this,Bool.false_or]
     by_cases hp : plainB k1 i1 s1 l1.length = true
     ·have lf1 : l1 = []:=List.length_eq_zero_iff.1 (plain_leaf hp)
      subst lf1
      have p:=ord_leaf (x:=mkV k2 i2 s2 n2 []) (y:=mkV k1 i1 s1 n1 []) (isV_mk hs2 (by simp) (by simp)) (isV_mk hs1 (by simp) (by simp)) (by simp [leaf,vl_mk]) (by simp [leaf,vl_mk])
      rw [ho] at p
      simp only [mkV] at p
      simp only [List.length_nil] at hp G
      simp +contextual (maxSteps:=10000000) only [h1,h11,h12,h13,d1,d2,e0,e1,e2,mkV,φplain,p,hp,wrap_pred j (by omega) hj0,wrap_succ j (by omega),go_sem]
      refine ⟨fun q=>?_,fun p2=>⟨fun q=>?_,fun p3=>⟨fun q=>?_,fun p4=>⟨⟨_,rfl⟩,by omega,?_⟩⟩⟩⟩
      ·rw [bad (by rw [G];grind)];rfl
      ·rw [bad (by rw [G];grind)];rfl
      ·rw [bad (by rw [G];grind)];rfl
      ·rw [List.all_append,hc]
       simp only [List.all_cons,List.all_nil,G]
       grind
     ·have hp' : plainB k1 i1 s1 l1.length = false:=by simpa using hp
      have hb:=bad (by rw [G,hp'];rfl)
      simp +contextual (maxSteps:=10000000) only [h1,h11,h12,h13,d1,d2,e0,e1,e2,mkV,φplain,hp',eL1,hb,go_sem]
    ·have d2 : decide ((0 : Int) < j) = false:=by simpa using hj0
     have G : okEl ord0 xs j = (plainB k1 i1 s1 l1.length && (k1 != 0) && (k1 == k0)):=by
      have : (j == 0) = true:=by simp;omega
      simp only [okEl,e1,fk,one1,vk_mk,vi_mk,vs_mk,vl_mk,this,Bool.true_or,Bool.and_true]
     simp +contextual (maxSteps:=10000000) only [h1,h11,h12,h13,d1,d2,e0,e1,mkV,φplain,eL1,wrap_succ j (by omega),go_sem]
     refine ⟨fun q=>?_,fun p1=>⟨fun q=>?_,fun p2=>⟨fun q=>?_,fun p3=>⟨⟨_,rfl⟩,by omega,?_⟩⟩⟩⟩
     ·rw [bad (by rw [G];grind)];rfl
     ·rw [bad (by rw [G];grind)];rfl
     ·rw [bad (by rw [G];grind)];rfl
     ·rw [List.all_append,hc]
      simp only [List.all_cons,List.all_nil,G]
      grind
   ·have d1 : decide ((j : Int) < xs.length) = false:=by simpa using ha
    have hA : adjB ord0 xs = true:=by
     have : j = xs.length:=by omega
     subst this;exact hc
    simp +contextual (maxSteps:=10000000) only [h1,h11,h12,h13,d1,mkV,hA,go_sem]
  ·cases h
 ·cases h
end GP
namespace GP
open Go Go.Proofs
set_option maxRecDepth 100000
theorem plain_facts {k i : Int} {s : List UInt8} {n : Nat} (h : plainB k i s n = true) : n = 0 /\ (k = 3 -> i = 0) /\ (k ≠ 3 -> s = []) /\ 0 <= k /\ k <= 4:=by
 refine ⟨plain_leaf h,?_,?_,?_,?_⟩ <;> unfold plainB at h <;> grind
theorem cmpI_self (a : Int) : cmpI a a = 0:=by simp [cmpI]
theorem cmpI_ne {a b : Int} (h : a ≠ b) : cmpI a b ≠ 0:=by unfold cmpI;split <;> (try split) <;> omega
theorem or3_eq {a b : D} (ha : one1 a = true) (hb : one1 b = true) : or3 (cmpI (vk a) (vk b)) (cmpI (vi a) (vi b)) (cmpS (vs a) (vs b)) = singleD a b:=by
 obtain ⟨_,a1,a2,_⟩:=plain_facts ha
 obtain ⟨_,b1,b2,_⟩:=plain_facts hb
 simp only [or3,singleD,singleI]
 by_cases hk : vk a = vk b
 ·by_cases h3 : vk a = 3
  ·have e1:=a1 h3
   have e2:=b1 (by omega)
   simp [hk,cmpI_self,e1,e2,show vk b = 3 by omega]
  ·have e1:=a2 h3
   have e2:=b2 (by omega)
   have h3' : ¬ vk b = 3:=by omega
   simp only [hk,cmpI_self,e1,e2,cmpS]
   simp [h3']
   intro h;rw [h]
 ·have:=cmpI_ne hk
  simp [hk,this]
theorem ord_single {a b : D} (ha : one1 a = true) (hb : one1 b = true) (f : D -> D -> Int) : ordW f a b = singleD a b:=by
 have la : vl a = []:=List.length_eq_zero_iff.1 (plain_facts ha).1
 have lb : vl b = []:=List.length_eq_zero_iff.1 (plain_facts hb).1
 unfold ordW
 rw [or3_eq ha hb,la,lb]
 simp only [cmpL]
 split
 ·rfl
 ·rename_i h;simpa using Eq.symm (show singleD a b = 0 by simpa using h)
theorem okEl_same {xs : List D} {i : Nat} (hp : 0 < i -> okEl ord0 xs (i - 1) = true) : okEl ord0 xs i = okEl singleD xs i:=by
 unfold okEl
 cases hx : xs[i]? with
 | none=>rfl
 | some x =>
  simp only
  by_cases h0 : i = 0
  ·simp [h0]
  ·have hq:=hp (by omega)
   unfold okEl at hq
   cases hy : xs[i - 1]? with
   | none=>rfl
   | some y =>
    rw [hy] at hq
    simp only [Bool.and_eq_true] at hq
    by_cases h1 : one1 x = true
    ·have : ord0 y x = singleD y x:=ord_single hq.1.1.1 h1 f0
     simp only [this]
    ·simp [h1]
theorem adj_same (xs : List D) : ∀ n,(List.range n).all (okEl ord0 xs) = (List.range n).all (okEl singleD xs)
 | 0=>rfl
 | n + 1=>by
  rw [all_range_succ,all_range_succ,← adj_same xs n]
  cases hq : (List.range n).all (okEl ord0 xs) with
  | false=>rfl
  | true =>
   simp only [Bool.true_and]
   exact okEl_same fun h0=>List.all_eq_true.1 hq (n - 1) (by simp;omega)
theorem formed_same (d : D) : formedV d = formedB d:=by
 unfold formedV formedB
 have : adjB ord0 (vl d) = adjB singleD (vl d):=adj_same _ _
 rw [this]
 grind
theorem el_one {xs : List D} (h : adjB singleD xs = true) : ∀ x ∈ xs,one1 x = true:=by
 intro x hx
 obtain ⟨i,hi,rfl⟩:=List.getElem_of_mem hx
 have:=List.all_eq_true.1 h i (by simpa using hi)
 unfold okEl at this
 simp only [List.getElem?_eq_getElem hi,Bool.and_eq_true] at this
 exact this.1.1.1
end GP
namespace GP
open Go Go.Proofs
set_option maxRecDepth 100000
def sameEl (x y : D) : Bool:=(vk x == vk y) && (vi x == vi y) && (vs x == vs y) && !decide ((0 : Int) < (vl x).length) && !decide ((0 : Int) < (vl y).length)
def okSame (xs ys : List D) (i : Nat) : Bool:=match xs[i]?,ys[i]? with
 | some x,some y=>sameEl x y
 | _,_=>true
def sameB (a b : D) : Bool:=if (vk a != vk b) || (vi a != vi b) || (vs a != vs b) || !((vl a).length == (vl b).length) then false else (List.range (vl a).length).all (okSame (vl a) (vl b))
def φSame : List D -> Option D
 | [a,b]=>if a.isV = true /\ b.isV = true then some (.bool (sameB a b)) else none
 | _=>none
theorem bne_len (a b : Nat) : ((a : Int) != (b : Int)) = !(a == b):=by
 rw [Bool.eq_iff_iff];simp;omega
set_option maxHeartbeats 2000000 in
theorem ok54 [HasG Tryz.prog] : OkAt Tryz.prog 54 φSame:=by
 refine ok_of (l:=[]) .nil fn54 fun args r h=>?_
 unfold φSame at h
 split at h
 ·split at h
  ·rename_i a b hab
   injection h with h;subst h
   refine ⟨by simp,by simp [D.cl],fun H T=>?_⟩
   obtain ⟨ha,hb⟩:=hab
   obtain ⟨k1,i1,s1,n1,xs,rfl,z1,y1,hV1⟩:=isV_elim ha
   obtain ⟨k2,i2,s2,n2,ys,rfl,z2,y2,hV2⟩:=isV_elim hb
   have hS : sameB (mkV k1 i1 s1 n1 xs) (mkV k2 i2 s2 n2 ys) = if (k1 != k2) || (i1 != i2) || (s1 != s2) || !(xs.length == ys.length) then false else (List.range xs.length).all (okSame xs ys):=by simp only [sameB,vk_mk,vi_mk,vs_mk,vl_mk]
   rw [hS]
   have bl:=bne_len xs.length ys.length
   simp +contextual (maxSteps:=10000000) only [c54,mkV,bl,go_sem]
   intro q1 q2 q3 q4
   have hl : xs.length = ys.length:=by simpa using q4
   refine W_for (fun j s'=>s'.t 2 = .ptr H.length 0 /\ s'.t 3 = .ptr (H.length + 1) 0 /\ s'.t 5 = .int .i64 j /\ Ext (H ++ [.row [.int .i64 k1,.int .i64 i1,.str s1,sliceD n1 xs],.row [.int .i64 k2,.int .i64 i2,.str s2,sliceD n2 ys]]) s'.H /\ s'.T = T /\ j <= xs.length /\ (List.range j).all (okSame xs ys) = true) xs.length ⟨0,by simp [upd,argT,ext_self]⟩ (fun i s h=>h.2.2.2.2.2.1) ?_ (XL_mono _)
   rintro j ⟨t,B,T'⟩ ⟨h2,h3,h5,hE,rfl,hj,hc⟩
   simp only at h2 h3 h5 hE
   have b1:=hE.get (o:=H.length) (by simp;rfl)
   have b2:=hE.get (o:=H.length + 1) (by simp;rfl)
   by_cases ha : j < xs.length
   ·have d1 : decide ((j : Int) < xs.length) = true:=by simpa using ha
    obtain ⟨k3,i3,s3,n3,l3,e3,hs3,hx3,hV3,eL3⟩:=get_isV hV1 ha
    obtain ⟨k4,i4,s4,n4,l4,e4,hs4,hx4,hV4,eL4⟩:=get_isV hV2 (show j < ys.length by omega)
    have G : okSame xs ys j = ((k3 == k4) && (i3 == i4) && (s3 == s4) && !decide ((0 : Int) < l3.length) && !decide ((0 : Int) < l4.length)):=by
     simp only [okSame,e3,e4,sameEl,vk_mk,vi_mk,vs_mk,vl_mk]
    have bad : okSame xs ys j = false -> (List.range xs.length).all (okSame xs ys) = false:=fun h=>range_false_of h ha
    simp +contextual (maxSteps:=10000000) only [h2,h3,h5,d1,e3,e4,mkV,wrap_succ j (by omega),rdAt_E b1,rdAt_E b2,rdAt_Ea b1,rdAt_Ea b2,hE.ta,leaves_Ea hE.pre (ExtT.refl _),go_sem]
    simp only [List.all_append,hc,List.all_cons,List.all_nil,Bool.true_and,Bool.and_true,D.bool.injEq]
    rw [G] at bad ⊢
    clear G
    repeat' (first | apply And.intro | intro _)
    all_goals first | omega | grind
   ·have d1 : decide ((j : Int) < xs.length) = false:=by simpa using ha
    have hA : (List.range xs.length).all (okSame xs ys) = true:=by
     have : j = xs.length:=by omega
     subst this;exact hc
    simp +contextual (maxSteps:=10000000) only [h2,h3,h5,d1,mkV,hA,rdAt_E b1,rdAt_E b2,leaves_E hE.pre (ExtT.refl _),go_sem]
  ·cases h
 ·cases h
end GP
namespace GP
open Go Go.Proofs
set_option maxRecDepth 100000
structure Tr (p q r : Int) : Prop where
 le : p <= 0 -> q <= 0 -> r <= 0
 l1 : p < 0 -> q <= 0 -> r < 0
 l2 : p <= 0 -> q < 0 -> r < 0
 e1 : p = 0 -> r = q
 e2 : q = 0 -> r = p
end GP
namespace GP
open Go
variable {P : Program} [HasG P]
def XU (P : Program) [HasG P] (u : List FuncId) (l : Fs) (m : FsH) (e : FsE) : Pred:=fun f a H T Q=>if u.contains f = true then Snd P f a H T Q else XE l m e f a H T Q
theorem XU.X {u : List FuncId} {l : Fs} {m : FsH} {e : FsE} (k : Ok P l) (k' : OkH P m) (k'' : OkE P e) : ∀ f args H T Q Q',(∀ r H T,Q r H T -> Q' r H T) -> XU P u l m e f args H T Q -> Snd P f args H T Q':=by
 intro f args H T Q Q' hQ h
 unfold XU at h
 split at h
 ·exact Snd.mono _ _ _ _ _ _ hQ h
 ·exact XE.X k k' k'' f args H T Q Q' hQ h
def callQ (K : D -> S -> Prop) (t : Nat -> D) : Post:=fun r H T=>K r ⟨t,H,T⟩
theorem callK_fn (X : Pred) (args : List D) (K : D -> S -> Prop) (s : S) (f : FuncId) (first cap : List D) : callK X args K s (.fn f first cap) = X f (first ++ args ++ cap) s.H s.T (callQ K s.t):=id rfl
theorem callQ_eq (K : D -> S -> Prop) (t : Nat -> D) (r : D) (H : Hp) (T : Tk) : callQ K t r H T = K r ⟨t,H,T⟩:=id rfl
def orL (Q : Post) (H : Hp) (T : Tk) : Option D -> Prop
 | some r=>Q r H T
 | none=>False
theorem XL_eq (l : Fs) (f : FuncId) (args : List D) (H : Hp) (T : Tk) (Q : Post) : XL l f args H T Q = orL Q H T (look l f (D.eraseL args)):=by
 unfold XL orL
 cases look l f (D.eraseL args) <;> rfl
theorem orL_s (Q : Post) (H : Hp) (T : Tk) (r : D) : orL Q H T (some r) = Q r H T:=id rfl
attribute [go_sem] callK_fn callQ_eq XL_eq orL_s XE_eq orX_s orX_n orX_e orE_s lookE_nil lookE_cons inE_nil inE_cons lookH_nil lookH_cons orK_s orK_n
theorem Ext.set {H B : Hp} (h : Ext H B) {o : Nat} (ho : H.length <= o) (x : Ob) : Ext H (B.set o x):=by
 obtain ⟨L,rfl⟩:=h
 exact ⟨L.set (o - H.length) x,by rw [List.set_append_right _ _ ho]⟩
theorem leavesE_fz {r r0 : D} {H B : Hp} {T U : Tk} (o : Nat) (cs : List D) (ho : B[o]? = some (.row cs)) (hl : H.length <= o) (hr : Crs (r.fz o cs) r0) (h : Ext H B) (k : ExtT T U) : LeavesE r0 H T r B U:=by
 obtain ⟨L,e⟩:=h.set hl .dead;obtain ⟨M,rfl⟩:=k
 exact ⟨_,_,.step o cs ho (.refl _ _),hr,⟨H,L,e,SameH.refl H⟩,M,rfl⟩
@[go_sem] theorem fld_f (off n : Nat) (cs : List D) : fld false off n (.agg cs) = cs[off]?:=id rfl
@[go_sem] theorem fld_t (off n : Nat) (cs : List D) : fld true off n (.agg cs) = if off + n <= cs.length then some (.agg ((cs.take (off + n)).drop off)) else none:=id rfl
end GP
namespace Go.Proofs
open Go.Shelf Go.RowKit Go.Lib Go.Sort
shelf_lay_g SlLaysF0.n6 Slsf 6 at Tryz 248 as Tryz.sortVal
end Go.Proofs
namespace GP
open Go Go.Proofs
set_option maxRecDepth 100000
end GP
namespace GP
open Go Go.Proofs
set_option maxRecDepth 100000
def can (d : D) : D:=mkV (vk d) (vi d) (vs d) false []
theorem can_vk (d : D) : vk (can d) = vk d:=by simp [can,vk_mk]
theorem can_vi (d : D) : vi (can d) = vi d:=by simp [can,vi_mk]
theorem can_vs (d : D) : vs (can d) = vs d:=by simp [can,vs_mk]
theorem can_vl (d : D) : vl (can d) = []:=by simp [can,vl_mk]
theorem one1_can {d : D} (h : one1 d = true) : one1 (can d) = true:=by
 have hl : (vl d).length = 0:=plain_leaf h
 unfold one1 at h ⊢
 rw [can_vk,can_vi,can_vs,can_vl]
 rw [hl] at h;exact h
def insU : List D -> D -> List D
 | [],x=>[x]
 | z :: r,x=>if singleD z x < 0 then z :: insU r x else if singleD z x == 0 then z :: r else x :: z :: r
def bagR (xs : List D) : List D:=(xs.map can).foldl insU []
def badB (xs : List D) (v : D) : Bool:=(vk v == 0) || (vk v == 5) || (vk v != vk0 xs)
def bagV (xs : List D) : D × Int :=
 if xs.all formedV = false then (zeroV,1) else if xs.any (badB xs) then (zeroV,6) else
 if decide ((16 : Int) < (bagR xs).length) then (zeroV,13) else (mkV 5 0 [] false (bagR xs),0)
end GP
namespace GP
open Go Go.Proofs
set_option maxRecDepth 100000
def formI (k : Int) (s : List UInt8) (n : Int) : Bool :=
 if k == 1 then wordB s && (n == 0) else
 if k == 2 then (s == []) && decide (0 <= n) else
 if k == 3 then s.all (fun b=>pText b.toNat) && decide ((s.length : Int) <= 64) && (n == 0) else
 if k == 4 then (s == []) && decide (0 <= n) && decide (n <= 1099511627776) else
 if k == 5 then isSign s && (n == 0) else false
def φform : List D -> Option D
 | [.agg [.int .i64 k,.str s,.int .i64 n]]=>if s.length <= 2 ^ 60 then some (.bool (formI k s n)) else none
 | _=>none
theorem run_len (p : Int -> Bool) : ∀ (s : List UInt8),(((runN p s 0 : Nat) : Int) == (s.length : Int)) = s.all (fun b=>p b.toNat)
 | []=>rfl
 | c :: r=>by
  have ih:=run_len p r
  unfold runN at ih ⊢
  simp only [List.drop_zero] at ih ⊢
  rcases tf (p (c.toNat : Int)) with g | g
  ·rw [runL_cons c r g,List.all_cons,g,Bool.true_and,← ih]
   rw [Bool.eq_iff_iff,beq_iff_eq,beq_iff_eq]
   simp only [List.length_cons];omega
  ·have : runL p (c :: r) = 0:=by unfold runL;simp [g]
   rw [this,List.all_cons,g,Bool.false_and,beq_eq_false_iff_ne]
   simp only [List.length_cons];omega
theorem ok102L : OkAt Tryz.prog 102 φidxS:=okIdxS fn102
theorem ok47L : OkAt Tryz.prog 47 φcontS:=okContS fn47 ok102L
theorem cont_sign (s : List UInt8) : φcontS [.sl none (signsB.map .str),.str s] = some (.bool (isSign s)):=by
 have hL : isLs isTx (.sl none (signsB.map D.str)):=⟨false,signsB.map D.str,rfl,by decide,fun x hx=>by
  obtain ⟨y,hy,rfl⟩:=List.mem_map.1 hx
  have key : ∀ y ∈ signsB,y.length <= 2 ^ 47:=by decide
  exact ⟨y,rfl,key y hy⟩⟩
 simp only [φcontS]
 rw [if_pos hL]
 congr 2
 have e : elems (D.sl none (signsB.map D.str)) = signsB.map D.str:=rfl
 rw [e,List.any_map,isSign_12,signsB_12,List.any_append,Bool.or_comm,List.contains_eq_any_beq,List.contains_eq_any_beq]
 rfl
set_option maxHeartbeats 16000000 in
theorem ok166 : OkAt Tryz.prog 166 φform:=by
 refine ok_of (l:=[(144,φrun),(151,φsigns),(47,φcontS)]) (.cons ok144 (.cons ok151 (.cons ok47L .nil))) fn166 fun args r h=>?_
 unfold φform at h
 split at h
 ·rename_i k s n
  split at h
  ·rename_i hl
   injection h with h;subst h
   refine ⟨by simp,by simp [D.cl],fun H T=>?_⟩
   have p1 : φrun [.str s,.int .i64 0,.fn 199 [] []] = some (.int .i64 (runN pWord s 0 : Nat)):=by
    simp only [φrun];rw [show sorts 199 = some pWord from rfl];simp only;rw [if_pos ⟨by omega,by omega,by omega⟩];rfl
   have p2 : φrun [.str s,.int .i64 0,.fn 200 [] []] = some (.int .i64 (runN pText s 0 : Nat)):=by
    simp only [φrun];rw [show sorts 200 = some pText from rfl];simp only;rw [if_pos ⟨by omega,by omega,by omega⟩];rfl
   have r1:=run_len pWord s
   have r2:=run_len pText s
   have p3 : φsigns [] = some (.sl none (signsB.map .str)):=rfl
   have p4:=cont_sign s
   have eS : D.eraseL (signsB.map D.str) = signsB.map D.str:=rfl
   obtain ⟨SB,hSB⟩ : ∃ z,signsB.map D.str = z:=⟨_,rfl⟩
   rw [hSB] at p3 p4 eS
   unfold formI
   rcases tf (k == 1) with k1 | k1
   ·rw [if_pos k1]
    rcases tf (n == 0) with n0 | n0
    ·rw [n0,Bool.and_true]
     cases s with
     | nil =>
      have d1 : decide ((1 : Int) <= (([] : List UInt8).length : Nat)) = false:=rfl
      simp +contextual (maxSteps:=10000000) only [c166,k1,n0,d1,wordB,go_sem]
     | cons c r =>
      have d1 : decide ((1 : Int) <= ((c :: r).length : Nat)) = true:=by simp;omega
      have ix : ∀ q,ixs (.str (c :: r)) (.int q 0) = some (.int .u8 c.toNat):=fun q=>ixs_at (i:=0) rfl q
      have hwc:=wordB_cons c r
      have hal : pLet (c.toNat : Int) = true -> (pLet (c.toNat : Int) && r.all (fun b=>pWord b.toNat)) = (c :: r).all (fun b=>pWord b.toNat):=fun gl=>by
       rw [List.all_cons,pWord_let (c.toNat : Int),gl];simp
      obtain ⟨S,hS⟩ : ∃ S,c :: r = S:=⟨_,rfl⟩
      rw [hS] at p1 p2 p4 r1 r2 d1 ix hwc hal hl ⊢
      rcases tf (decide ((S.length : Int) <= 64)) with d2 | d2
      ·rcases tf (decide ((97 : Int) <= c.toNat)) with d3 | d3
       ·rcases tf (decide ((c.toNat : Int) <= 122)) with d4 | d4
        ·have gl : pLet (c.toNat : Int) = true:=by unfold pLet;rw [d3,d4];rfl
         have hw : wordB S = S.all (fun b=>pWord b.toNat):=by
          rw [hwc,hal gl,d2,Bool.and_true]
         rw [hw]
         simp +contextual (maxSteps:=10000000) only [c166,k1,n0,d1,d2,ix,d3,d4,p1,r1,go_sem]
        ·have hw : wordB S = false:=by rw [hwc];unfold pLet;rw [d3,d4];rfl
         rw [hw]
         simp +contextual (maxSteps:=10000000) only [c166,k1,n0,d1,d2,ix,d3,d4,go_sem]
       ·have hw : wordB S = false:=by rw [hwc];unfold pLet;rw [d3];rfl
        rw [hw]
        simp +contextual (maxSteps:=10000000) only [c166,k1,n0,d1,d2,ix,d3,go_sem]
      ·have hw : wordB S = false:=by rw [hwc,d2,Bool.and_false]
       rw [hw]
       simp +contextual (maxSteps:=10000000) only [c166,k1,n0,d1,d2,go_sem]
    ·rw [n0,Bool.and_false]
     simp +contextual (maxSteps:=10000000) only [c166,k1,n0,go_sem]
   rw [if_neg (by rw [k1];decide)]
   rcases tf (k == 2) with k2 | k2
   ·rw [if_pos k2]
    rcases tf (s == []) with s0 | s0 <;> rw [s0] <;> simp +contextual (maxSteps:=10000000) only [c166,k1,k2,s0,go_sem]
   rw [if_neg (by rw [k2];decide)]
   rcases tf (k == 3) with k3 | k3
   ·rw [if_pos k3]
    have k4 : (k == 4) = false:=by
     have : k = 3:=by simpa using k3
     subst this;rfl
    rcases tf (n == 0) with n0 | n0
    ·rw [n0,Bool.and_true]
     rcases tf (decide ((s.length : Int) <= 64)) with d2 | d2
     ·rw [d2,Bool.and_true]
      simp +contextual (maxSteps:=10000000) only [c166,k1,k2,k3,k4,n0,d2,p2,r2,go_sem]
     ·rw [d2,Bool.and_false]
      simp +contextual (maxSteps:=10000000) only [c166,k1,k2,k3,k4,n0,d2,go_sem]
    ·rw [n0,Bool.and_false]
     simp +contextual (maxSteps:=10000000) only [c166,k1,k2,k3,k4,n0,go_sem]
   rw [if_neg (by rw [k3];decide)]
   rcases tf (k == 4) with k4 | k4
   ·rw [if_pos k4]
    rcases tf (s == []) with s0 | s0
    ·rcases tf (decide (0 <= n)) with n0 | n0 <;> rw [s0,n0] <;> simp +contextual (maxSteps:=10000000) only [c166,k1,k2,k4,s0,n0,go_sem]
    ·rw [s0];simp +contextual (maxSteps:=10000000) only [c166,k1,k2,k4,s0,go_sem]
   rw [if_neg (by rw [k4];decide)]
   rcases tf (k == 5) with k5 | k5
   ·rw [if_pos k5]
    rcases tf (n == 0) with n0 | n0
    ·rw [n0,Bool.and_true];simp +contextual (maxSteps:=10000000) only [c166,k1,k2,k3,k4,k5,n0,p3,eS,p4,go_sem]
    ·rw [n0,Bool.and_false];simp +contextual (maxSteps:=10000000) only [c166,k1,k2,k3,k4,k5,n0,go_sem]
   ·rw [if_neg (by rw [k5];decide)]
    simp +contextual (maxSteps:=10000000) only [c166,k1,k2,k3,k4,k5,go_sem]
  ·cases h
 ·cases h
theorem all_no' {α : Type} {p : α -> Bool} {l : List α} {j : Nat} {x : α} (hx : l[j]? = some x) (hp : p x = false) : l.all p = false :=
 List.all_eq_false.2 ⟨x,List.mem_of_getElem? hx,by simp [hp]⟩
theorem all_nx' {α : Type} {p : α -> Bool} {l : List α} {j : Nat} {x : α} (hx : l[j]? = some x) (h : (l.take j).all p = true) (hp : p x = true) : (l.take (j + 1)).all p = true:=by
 rw [List.take_add_one,hx];simp [h,hp]
set_option maxHeartbeats 16000000 in
theorem ok57 : OkAt Tryz.prog 57 φform:=by
 refine ok_of (l:=[(109,φword),(110,φsign)]) (.cons ok109 (.cons ok110 .nil)) fn57 fun args r h=>?_
 unfold φform at h
 split at h
 ·rename_i k s n
  split at h
  ·rename_i hl
   injection h with h;subst h
   refine ⟨by simp,by simp [D.cl],fun H T=>?_⟩
   have p1 : φword [.str s] = some (.bool (wordB s)):=by simp only [φword];rw [if_pos hl]
   have p2 : φsign [.str s] = some (.bool (isSign s)):=rfl
   unfold formI
   rcases tf (k == 1) with k1 | k1
   ·rw [if_pos k1]
    rcases tf (wordB s) with w | w <;> rw [w] <;> rw [w] at p1 <;> simp +contextual (maxSteps:=10000000) only [c57,k1,p1,go_sem]
   rw [if_neg (by rw [k1];decide)]
   rcases tf (k == 2) with k2 | k2
   ·rw [if_pos k2]
    rcases tf (s == []) with s0 | s0 <;> rw [s0] <;> simp +contextual (maxSteps:=10000000) only [c57,k1,k2,s0,go_sem]
   rw [if_neg (by rw [k2];decide)]
   rcases tf (k == 3) with k3 | k3
   ·rw [if_pos k3]
    simp +contextual (maxSteps:=10000000) only [c57,k1,k2,k3,go_sem]
    refine W_for (fun i s'=>s'.t 1 = .ptr H.length 0 /\ s'.t 3 = .int .i64 (i : Nat) /\ s'.H = H ++ [.row [.int .i64 k,.str s,.int .i64 n]] /\ s'.T = T /\ i <= s.length /\ (s.take i).all (fun b=>pText b.toNat) = true) s.length ⟨0,by simp [upd,argT]⟩ (fun i s h=>h.2.2.2.2.1) ?_ (XL_mono _)
    rintro i ⟨t,B,T'⟩ ⟨r1,r3,rfl,rfl,hi,hc⟩
    simp only at r1 r3
    by_cases hlt : i < s.length
    ·have d1 : decide (((i : Nat) : Int) < s.length) = true:=by simp only [decide_eq_true_eq];omega
     have ex : s[i]? = some s[i]:=by simp [hlt]
     obtain ⟨b,hb⟩ : ∃ b,s[i] = b:=⟨_,rfl⟩
     rw [hb] at ex
     have ix:=fun q=>ixs_at ex q
     have no:=fun hp=>all_no' (p:=fun b : UInt8=>pText b.toNat) ex hp
     have nx:=fun hp=>all_nx' (p:=fun b : UInt8=>pText b.toNat) ex hc hp
     have pT : pText (b.toNat : Int) = (decide ((32 : Int) <= b.toNat) && decide ((b.toNat : Int) <= 126)):=rfl
     by_cases q1 : (b.toNat : Int) < 32
     ·have g3 : decide ((b.toNat : Int) < 32) = true:=by simpa using q1
      have no:=no (by rw [pT];simp only [Bool.and_eq_false_iff,decide_eq_false_iff_not];omega)
      rw [no]
      simp +contextual (maxSteps:=10000000) only [r1,r3,d1,ix,g3,go_sem]
     have g3 : decide ((b.toNat : Int) < 32) = false:=by simpa using q1
     by_cases q2 : (126 : Int) < b.toNat
     ·have g5 : decide ((126 : Int) < b.toNat) = true:=by simpa using q2
      have no:=no (by rw [pT];simp only [Bool.and_eq_false_iff,decide_eq_false_iff_not];omega)
      rw [no]
      simp +contextual (maxSteps:=10000000) only [r1,r3,d1,ix,g3,g5,go_sem]
     have g5 : decide ((126 : Int) < b.toNat) = false:=by simpa using q2
     have nx:=nx (by rw [pT];simp only [Bool.and_eq_true,decide_eq_true_eq];omega)
     simp +contextual (maxSteps:=10000000) only [r1,r3,d1,ix,g3,g5,wrap_su i (by omega),go_sem]
     exact ⟨by omega,nx⟩
    ·have d1 : decide (((i : Nat) : Int) < s.length) = false:=by simp only [decide_eq_false_iff_not];omega
     have ei : i = s.length:=by omega
     rw [ei,List.take_length] at hc
     rw [hc,Bool.true_and]
     rcases tf (decide ((s.length : Int) <= 64)) with d2 | d2 <;> rw [d2] <;> simp +contextual (maxSteps:=10000000) only [r1,r3,d1,d2,go_sem]
   rw [if_neg (by rw [k3];decide)]
   rcases tf (k == 4) with k4 | k4
   ·rw [if_pos k4]
    rcases tf (s == []) with s0 | s0
    ·rcases tf (decide (0 <= n)) with n0 | n0 <;> rw [s0,n0] <;> simp +contextual (maxSteps:=10000000) only [c57,k1,k2,k3,k4,s0,n0,go_sem]
    ·rw [s0];simp +contextual (maxSteps:=10000000) only [c57,k1,k2,k3,k4,s0,go_sem]
   rw [if_neg (by rw [k4];decide)]
   rcases tf (k == 5) with k5 | k5
   ·rw [if_pos k5]
    rcases tf (isSign s) with w | w <;> rw [w] <;> rw [w] at p2 <;> simp +contextual (maxSteps:=10000000) only [c57,k1,k2,k3,k4,k5,p2,go_sem]
   ·rw [if_neg (by rw [k5];decide)]
    simp +contextual (maxSteps:=10000000) only [c57,k1,k2,k3,k4,k5,go_sem]
  ·cases h
 ·cases h
end GP
namespace GP
open Go Go.Proofs
set_option maxRecDepth 100000
def tk : D -> Int
 | .agg [.int .i64 k,.str _,.int .i64 _]=>k
 | _=>0
def ts : D -> List UInt8
 | .agg [.int .i64 _,.str s,.int .i64 _]=>s
 | _=>[]
def tn : D -> Int
 | .agg [.int .i64 _,.str _,.int .i64 n]=>n
 | _=>0
theorem tk_mk (k : Int) (s : List UInt8) (n : Int) : tk (mkT k s n) = k:=rfl
theorem ts_mk (k : Int) (s : List UInt8) (n : Int) : ts (mkT k s n) = s:=rfl
def formT (t : D) : Bool:=formI (tk t) (ts t) (tn t)
def zT : D:=mkT 0 [] 0
def nowP (toks : List D) (a : Nat) (e : Int) : D:=if e != 0 then zT else match toks[a]? with
 | some t=>if formT t then t else zT
 | none=>zT
section
variable {H : Hp} {p : Nat}
theorem cu_get0 (hp : p < H.length) (X : List D) : (H.set p (.row X))[p]? = some (.row X):=List.getElem?_set_self hp
theorem rd_cu0 (hp : p < H.length) (X : List D) (off : Nat) : rdAt (H.set p (.row X)) (.ptr p off) = some (X.drop off):=rdAt_E (cu_get0 hp X) off
theorem st_cu0 {K : D -> S -> Prop} (hp : p < H.length) (X : List D) (t : Nat -> D) (T : Tk) (n off : Nat) (v : D) : storeK n K ⟨t,H.set p (.row X),T⟩ (.ptr p off) v = (v.okc = true /\ v.cells.length = n /\ off + n <= X.length /\ K .top ⟨t,H.set p (.row (X.take off ++ v.cells ++ X.drop (off + n))),T⟩):=by
 rw [storeK_E (cu_get0 hp X),List.set_set]
variable {n : Bool} {xs : List D}
def cuR (H : Hp) (p : Nat) (l : D) (L : Hp) : Option (D × Nat × Int) -> Option (D × Hp)
 | some (r,a,e)=>some (r,H.set p (.row [l,.int .i64 ((a : Nat) : Int),.int .i64 e]) ++ L)
 | none=>none
@[go_sem] theorem cuR_s (H : Hp) (p : Nat) (l : D) (L : Hp) (r : D) (a : Nat) (e : Int) : cuR H p l L (some (r,a,e)) = some (r,H.set p (.row [l,.int .i64 ((a : Nat) : Int),.int .i64 e]) ++ L):=id rfl
end
@[go_sem] theorem rd_own (H : Hp) (p : Nat) (x : Ob) (L : Hp) (n off : Nat) : rdAt (H.set p x ++ L) (.ptr (H.length + n) off) = rdAt L (.ptr n off):=by
 have:=rdAt_ptr_app (H.set p x) L n off
 rwa [List.length_set] at this
@[go_sem] theorem rd_own0 (H : Hp) (p : Nat) (x : Ob) (L : Hp) (off : Nat) : rdAt (H.set p x ++ L) (.ptr H.length off) = rdAt L (.ptr 0 off):=rd_own H p x L 0 off
@[go_sem] theorem st_own {K : D -> S -> Prop} (t : Nat -> D) (T : Tk) (H : Hp) (p : Nat) (x : Ob) (L : Hp) (n i off : Nat) (v : D) : storeK n K ⟨t,H.set p x ++ L,T⟩ (.ptr (H.length + i) off) v = putK K t (H.set p x) T (putRow n off v L i):=by
 have:=storeK_ptr (K:=K) t T (H.set p x) L n i off v
 rwa [List.length_set] at this
@[go_sem] theorem st_own0 {K : D -> S -> Prop} (t : Nat -> D) (T : Tk) (H : Hp) (p : Nat) (x : Ob) (L : Hp) (n off : Nat) (v : D) : storeK n K ⟨t,H.set p x ++ L,T⟩ (.ptr H.length off) v = putK K t (H.set p x) T (putRow n off v L 0):=st_own t T H p x L n 0 off v
@[go_sem] theorem nilcD_ptr (o f : Nat) : nilcD (.ptr o f) = some (.ptr o f):=id rfl
attribute [go_sem] List.length_set
end GP
namespace GP
open Go Go.Proofs
set_option maxRecDepth 100000
abbrev St:=Nat × Int
def nowS (toks : List D) (st : St) : D:=nowP toks st.1 st.2
def isP (toks : List D) (st : St) (s : List UInt8) : Bool:=((tk (nowS toks st) == 1) || (tk (nowS toks st) == 5)) && (ts (nowS toks st) == s)
def failP (at_ : Nat) (err : Int) (st : St) : St:=if st.2 == 0 then (at_,err) else st
def mustP (toks : List D) (s : List UInt8) (st : St) : St:=if isP toks st s then (st.1 + 1,st.2) else failP st.1 2 st
theorem nowP_lt {toks : List D} {a : Nat} {e : Int} (h : tk (nowP toks a e) ≠ 0) : a < toks.length /\ e = 0:=by
 unfold nowP at h
 split at h
 ·exact absurd rfl h
 ·rename_i he
  refine ⟨?_,by simpa using he⟩
  split at h
  ·rename_i t ht
   rcases Nat.lt_or_ge a toks.length with h' | h'
   ·exact h'
   ·rw [List.getElem?_eq_none h'] at ht;cases ht
  ·exact absurd rfl h
theorem isP_lt {toks : List D} {st : St} {s : List UInt8} (h : isP toks st s = true) : st.1 < toks.length /\ st.2 = 0:=by
 unfold isP at h
 simp only [Bool.and_eq_true,Bool.or_eq_true,beq_iff_eq] at h
 refine nowP_lt (toks:=toks) (a:=st.1) (e:=st.2) ?_
 unfold nowS at h
 omega
end GP
namespace GP
open Go Go.Proofs
set_option maxRecDepth 100000
def kindP (toks : List D) (k : Int) (st : St) : D × St:=if tk (nowS toks st) != k then (zT,failP st.1 2 st) else (nowS toks st,(st.1 + 1,st.2))
def keptW : List (List UInt8):=[[102,97,99,116],[116,114,117,116,104],[110,117,109,98,101,114],[116,101,120,116],[116,105,109,101],[98,97,103],[117,115,101],[112,111,108,105,99,121],[98,121],[102,111,114],[112,101,114,109,105,116],[100,101,110,121],[105,102],[100,117,116,121],[97,100,118,105,99,101],[116,114,117,101],[102,97,108,115,101],[110,111,119],[111,114],[97,110,100],[110,111,116],[105,110],[104,97,115],[114,111,108,101],[115,105,122,101],[115,117,98,106,101,99,116],[114,101,115,111,117,114,99,101],[97,99,116,105,111,110],[101,110,118]]
def keptB (s : List UInt8) : Bool:=keptW.any (fun x=>s == x)
def φkeptL : List D -> Option D
 | []=>some (.sl none (keptW.map .str))
 | _=>none
theorem ok48 : OkAt Tryz.prog 48 φkeptL:=by
 refine ok_of (l:=[]) .nil fn48 fun args r h=>?_
 unfold φkeptL at h
 split at h
 ·injection h with h;subst h
  refine ⟨by simp,by decide,fun H T=>?_⟩
  simp +contextual (maxSteps:=10000000) only [c48,go_sem]
  first | rfl | simp only [keptW,List.map_cons,List.map_nil,D.erase,D.eraseL]
 ·cases h
theorem ok16 : OkAt Tryz.prog 16 φkeptL:=by
 refine ok_of (l:=[]) .nil fn16 fun args r h=>?_
 unfold φkeptL at h
 split at h
 ·injection h with h;subst h
  refine ⟨by simp,by decide,fun H T=>?_⟩
  simp +contextual (maxSteps:=10000000) only [c16,go_sem]
  first | rfl | simp only [keptW,List.map_cons,List.map_nil,D.erase,D.eraseL]
 ·cases h
theorem cont_kept (s : List UInt8) : φcontS [.sl none (keptW.map .str),.str s] = some (.bool (keptB s)):=by
 have hL : isLs isTx (.sl none (keptW.map D.str)):=⟨false,keptW.map D.str,rfl,by decide,fun x hx=>by
  obtain ⟨y,hy,rfl⟩:=List.mem_map.1 hx
  have key : ∀ y ∈ keptW,y.length <= 2 ^ 47:=by decide
  exact ⟨y,rfl,key y hy⟩⟩
 simp only [φcontS]
 rw [if_pos hL]
 congr 2
def φkept : List D -> Option D
 | [.str s]=>some (.bool (keptB s))
 | _=>none
theorem ok17 : OkAt Tryz.prog 17 φkept:=by
 refine ok_of (l:=[(48,φkeptL),(47,φcontS)]) (.cons ok48 (.cons ok47L .nil)) fn17 fun args r h=>?_
 unfold φkept at h
 split at h
 ·rename_i s
  injection h with h;subst h
  have p1 : φkeptL [] = some (.sl none (keptW.map .str)):=rfl
  have p2:=cont_kept s
  have e1 : D.eraseL [.sl none (keptW.map D.str),.str s] = [.sl none (keptW.map D.str),.str s]:=by simp only [D.eraseL,D.erase,eraseL_id (l:=keptW.map D.str) (fun x hx=>by obtain ⟨y,_,rfl⟩:=List.mem_map.1 hx;rfl)]
  obtain ⟨ks,hk⟩ : ∃ ks,keptW.map D.str = ks:=⟨_,rfl⟩
  rw [hk] at p1 p2 e1
  refine ⟨by simp,by simp [D.cl],fun H T=>?_⟩
  simp +contextual (maxSteps:=10000000) only [c17,p1,p2,e1,go_sem]
 ·cases h
def nameP (toks : List D) (st : St) : List UInt8 × St:=if (tk (nowS toks st) != 1) || keptB (ts (nowS toks st)) then ([],failP st.1 2 st) else (ts (nowS toks st),(st.1 + 1,st.2))
def isStrB : D -> Bool
 | .str _=>true
 | _=>false
def strB : D -> List UInt8
 | .str s=>s
 | _=>[]
def firstP (toks : List D) (st : St) : List (List UInt8) -> Option (List UInt8)
 | []=>none
 | w :: r=>if isP toks st w then some w else firstP toks st r
def oneP (toks : List D) (ws : List (List UInt8)) (st : St) : List UInt8 × St:=match firstP toks st ws with
 | some w=>(w,(st.1 + 1,st.2))
 | none=>([],failP st.1 2 st)
theorem firstP_none {toks : List D} {st : St} : ∀ {ws : List (List UInt8)},(∀ w ∈ ws,isP toks st w = false) -> firstP toks st ws = none
 | [],_=>rfl
 | w :: r,h=>by
  simp only [firstP];rw [if_neg (by rw [h w (by simp)];decide)]
  exact firstP_none fun x hx=>h x (by simp [hx])
def whoW : List (List UInt8):=[[115,117,98,106,101,99,116],[114,101,115,111,117,114,99,101],[97,99,116,105,111,110],[101,110,118]]
def attrP (toks : List D) (st : St) : List UInt8 × List UInt8 × St :=
 ((oneP toks whoW st).1,(nameP toks (mustP toks [46] (oneP toks whoW st).2)).1,(nameP toks (mustP toks [46] (oneP toks whoW st).2)).2)
end GP
namespace GP
open Go Go.Proofs
set_option maxRecDepth 100000
def textV (s : List UInt8) : D:=.agg [.int .i64 3,.int .i64 0,.str (s.take (min s.length 64)),.nils]
def timeV (n : Int) : D:=.agg [.int .i64 4,.int .i64 n,.str [],.nils]
def truthV (b : Bool) : D:=.agg [.int .i64 1,.int .i64 (if b then 1 else 0),.str [],.nils]
def wTrue : List UInt8:=[116,114,117,101]
def wFalse : List UInt8:=[102,97,108,115,101]
def literalP (toks : List D) (st : St) : D × Bool × St :=
 if tk (nowS toks st) == 2 then (num (tn (nowS toks st)),true,(st.1 + 1,st.2)) else
 if tk (nowS toks st) == 3 then (textV (ts (nowS toks st)),true,(st.1 + 1,st.2)) else
 if tk (nowS toks st) == 4 then (timeV (tn (nowS toks st)),true,(st.1 + 1,st.2)) else
 if isP toks st wTrue || isP toks st wFalse then (truthV (ts (nowS toks st) == wTrue),true,(st.1 + 1,st.2)) else (zeroV,false,st)
def itemP (toks : List D) (st : St) : D × St :=
 if isP toks st [45] then (num (IntKind.i64.wrap (0 - tn (kindP toks 2 (st.1 + 1,st.2)).1)),(kindP toks 2 (st.1 + 1,st.2)).2) else
 if (literalP toks st).2.1 then ((literalP toks st).1,(literalP toks st).2.2) else ((literalP toks st).1,failP (literalP toks st).2.2.1 2 (literalP toks st).2.2)
def bagL (toks : List D) : Nat -> List D -> St -> Option (List D × St)
 | 0,_,_=>none
 | f + 1,out,st=>if isP toks st [44] then bagL toks f (out ++ [(itemP toks (st.1 + 1,st.2)).1]) (itemP toks (st.1 + 1,st.2)).2 else some (out,st)
def zeroE : D:=.agg [.str [],.int .i64 0,.int .i64 0,.str [],.nils,.str [],.str [],.nils]
def valE (v : D) : D:=.agg (.str [118,97,108,117,101] :: v.cells ++ [.str [],.str [],.nils])
def bagP (toks : List D) (f from_ : Nat) (st : St) : Option (D × St):=match bagL toks f [(itemP toks st).1] (itemP toks st).2 with
 | none=>none
 | some (out,st1)=>if (mustP toks [93] st1).2 != 0 then some (zeroE,mustP toks [93] st1) else
  some (valE (bagV out).1,if (bagV out).2 != 0 then failP from_ 2 (mustP toks [93] st1) else mustP toks [93] st1)
end GP
namespace GP
open Go Go.Proofs
set_option maxRecDepth 100000
def twoD (op : List UInt8) (x y : D) : D:=.agg [.str op,.int .i64 0,.int .i64 0,.str [],.nils,.str [],.str [],.sl none [x,y]]
abbrev Part:=List D -> St -> Option (D × St)
def rowL (toks : List D) (P : Part) (bs : List (List UInt8)) : Nat -> D -> St -> Option (D × St)
 | 0,_,_=>none
 | f + 1,x,st=>if st.2 != 0 then some (x,st) else match firstP toks st bs with
  | none=>some (x,st)
  | some w=>match P toks (st.1 + 1,st.2) with
   | none=>none
   | some (y,st2)=>rowL toks P bs f (twoD w x y) st2
def rowP (toks : List D) (P : Part) (bs : List (List UInt8)) (f : Nat) (st : St) : Option (D × St):=match P toks st with
 | none=>none
 | some (x,st1)=>rowL toks P bs f x st1
end GP
namespace GP
open Go Go.Proofs
set_option maxRecDepth 100000
inductive Lv where
 | expr | and | not | cmp | sum | prod | unary | plain | inner
def wOr : List UInt8:=[111,114]
def wAnd : List UInt8:=[97,110,100]
def wNot : List UInt8:=[110,111,116]
def wNeg : List UInt8:=[110,101,103]
def wNow : List UInt8:=[110,111,119]
def wSize : List UInt8:=[115,105,122,101]
def wRole : List UInt8:=[114,111,108,101]
def wHas : List UInt8:=[104,97,115]
def wAttr : List UInt8:=[97,116,116,114]
def cmpW : List (List UInt8):=[[61,61],[33,61],[60],[60,61],[62],[62,61],[105,110]]
def oneD (op : List UInt8) (x : D) : D:=.agg [.str op,.int .i64 0,.int .i64 0,.str [],.nils,.str [],.str [],.sl none [x]]
def leafD (op who name : List UInt8) : D:=.agg [.str op,.int .i64 0,.int .i64 0,.str [],.nils,.str who,.str name,.nils]
def oneS (op : List UInt8) : Option (D × St) -> Option (D × St)
 | none=>none
 | some (x,st)=>some (oneD op x,st)
def cmpS2 (toks : List D) (P : Part) : Option (D × St) -> Option (D × St)
 | none=>none
 | some (x,st1)=>match firstP toks st1 cmpW with
  | none=>some (x,st1)
  | some w=>match P toks (st1.1 + 1,st1.2) with
   | none=>none
   | some (y,st2)=>some (twoD w x y,st2)
def innS (toks : List D) : Option (D × St) -> Option (D × St)
 | none=>none
 | some (x,st1)=>some (x,mustP toks [41] st1)
def plainP (I : Part) (f : Nat) (toks : List D) (st : St) : Option (D × St) :=
 if (literalP toks st).2.1 then some (valE (literalP toks st).1,(literalP toks st).2.2) else
 if isP toks st wNow then some (leafD wNow [] [],(st.1 + 1,st.2)) else
 if isP toks st [40] then I toks st else
 if isP toks st [91] then bagP toks f st.1 (st.1 + 1,st.2) else
 if isP toks st wSize then oneS wSize (I toks (st.1 + 1,st.2)) else
 if isP toks st wRole then some (leafD wRole [] (ts (kindP toks 3 (mustP toks [40] (st.1 + 1,st.2))).1),mustP toks [41] (kindP toks 3 (mustP toks [40] (st.1 + 1,st.2))).2) else
 if isP toks st wHas then some (leafD wHas (attrP toks (mustP toks [40] (st.1 + 1,st.2))).1 (attrP toks (mustP toks [40] (st.1 + 1,st.2))).2.1,mustP toks [41] (attrP toks (mustP toks [40] (st.1 + 1,st.2))).2.2) else
 some (leafD wAttr (attrP toks st).1 (attrP toks st).2.1,(attrP toks st).2.2)
def pLv : Nat -> Lv -> Part
 | 0,_=>fun _ _=>none
 | f + 1,.expr=>fun toks st=>rowP toks (pLv f .and) [wOr] f st
 | f + 1,.and=>fun toks st=>rowP toks (pLv f .not) [wAnd] f st
 | f + 1,.not=>fun toks st=>if isP toks st wNot then oneS wNot (pLv f .not toks (st.1 + 1,st.2)) else pLv f .cmp toks st
 | f + 1,.cmp=>fun toks st=>cmpS2 toks (pLv f .sum) (pLv f .sum toks st)
 | f + 1,.sum=>fun toks st=>rowP toks (pLv f .prod) [[43],[45]] f st
 | f + 1,.prod=>fun toks st=>rowP toks (pLv f .unary) [[42]] f st
 | f + 1,.unary=>fun toks st=>if isP toks st [45] then oneS wNeg (pLv f .unary toks (st.1 + 1,st.2)) else pLv f .plain toks st
 | f + 1,.plain=>fun toks st=>plainP (pLv f .inner) f toks st
 | f + 1,.inner=>fun toks st=>innS toks (pLv f .expr toks (mustP toks [40] st))
end GP
namespace GP
open Go Go.Proofs
set_option maxRecDepth 100000
def rem (toks : List D) (st : St) : Nat:=if st.2 == 0 then toks.length - st.1 else 0
theorem rem_may {toks : List D} {st : St} {w : List UInt8} (h : isP toks st w = true) : rem toks (st.1 + 1,st.2) < rem toks st:=by
 obtain ⟨h1,h2⟩:=isP_lt h
 unfold rem
 rw [h2]
 simp only [beq_self_eq_true,if_true]
 omega
theorem rem_now {toks : List D} {st : St} (h : tk (nowS toks st) ≠ 0) : rem toks (st.1 + 1,st.2) < rem toks st:=by
 obtain ⟨h1,h2⟩:=nowP_lt (toks:=toks) (a:=st.1) (e:=st.2) h
 unfold rem
 rw [h2]
 simp only [beq_self_eq_true,if_true]
 omega
theorem rem_fail (toks : List D) (n : Nat) (st : St) : rem toks (failP n 2 st) <= rem toks st:=by
 unfold failP
 split
 ·unfold rem;simp
 ·exact Nat.le_refl _
theorem rem_must (toks : List D) (w : List UInt8) (st : St) : rem toks (mustP toks w st) <= rem toks st:=by
 unfold mustP
 split
 ·rename_i h;exact Nat.le_of_lt (rem_may h)
 ·exact rem_fail _ _ _
theorem rem_must_lt {toks : List D} {w : List UInt8} {st : St} (h : isP toks st w = true) : rem toks (mustP toks w st) < rem toks st:=by
 unfold mustP;rw [if_pos h];exact rem_may h
theorem rem_kind (toks : List D) {k : Int} (hk : k ≠ 0) (st : St) : rem toks (kindP toks k st).2 <= rem toks st:=by
 unfold kindP
 split
 ·exact rem_fail _ _ _
 ·rename_i h
  have : tk (nowS toks st) = k:=by simpa using h
  exact Nat.le_of_lt (rem_now (by omega))
theorem rem_name (toks : List D) (st : St) : rem toks (nameP toks st).2 <= rem toks st:=by
 unfold nameP
 split
 ·exact rem_fail _ _ _
 ·rename_i h
  simp only [Bool.or_eq_true,not_or,bne_iff_ne,ne_eq,Decidable.not_not] at h
  exact Nat.le_of_lt (rem_now (by omega))
theorem firstP_is {toks : List D} {st : St} : ∀ {ws : List (List UInt8)} {w : List UInt8},firstP toks st ws = some w -> isP toks st w = true
 | [],w,h=>by cases h
 | x :: r,w,h=>by
  simp only [firstP] at h
  split at h
  ·injection h with h;subst h;assumption
  ·exact firstP_is h
theorem rem_one (toks : List D) (ws : List (List UInt8)) (st : St) : rem toks (oneP toks ws st).2 <= rem toks st:=by
 unfold oneP
 split
 ·rename_i w h;exact Nat.le_of_lt (rem_may (firstP_is h))
 ·exact rem_fail _ _ _
theorem rem_attr (toks : List D) (st : St) : rem toks (attrP toks st).2.2 <= rem toks st:=by
 unfold attrP
 exact Nat.le_trans (rem_name _ _) (Nat.le_trans (rem_must _ _ _) (rem_one _ _ _))
theorem rem_lit (toks : List D) (st : St) : rem toks (literalP toks st).2.2 <= rem toks st:=by
 unfold literalP
 split
 ·rename_i h;have : tk (nowS toks st) = 2:=by simpa using h
  exact Nat.le_of_lt (rem_now (by omega))
 split
 ·rename_i h;have : tk (nowS toks st) = 3:=by simpa using h
  exact Nat.le_of_lt (rem_now (by omega))
 split
 ·rename_i h;have : tk (nowS toks st) = 4:=by simpa using h
  exact Nat.le_of_lt (rem_now (by omega))
 split
 ·rename_i h
  simp only [Bool.or_eq_true] at h
  rcases h with h | h <;> exact Nat.le_of_lt (rem_may h)
 ·exact Nat.le_refl _
theorem rem_item (toks : List D) (st : St) : rem toks (itemP toks st).2 <= rem toks st:=by
 unfold itemP
 split
 ·rename_i h;exact Nat.le_trans (rem_kind _ (by decide) _) (Nat.le_of_lt (rem_may h))
 split
 ·exact rem_lit _ _
 ·exact Nat.le_trans (rem_fail _ _ _) (rem_lit _ _)
theorem bagL_tot (toks : List D) : ∀ (f : Nat) (out : List D) (st : St),rem toks st < f -> ∃ o st2,bagL toks f out st = some (o,st2) /\ rem toks st2 <= rem toks st
 | 0,_,_,h=>by omega
 | f + 1,out,st,h=>by
  simp only [bagL]
  split
  ·rename_i g
   have h1:=rem_may g
   have h2:=rem_item toks (st.1 + 1,st.2)
   obtain ⟨o,st2,e,k⟩:=bagL_tot toks f (out ++ [(itemP toks (st.1 + 1,st.2)).1]) (itemP toks (st.1 + 1,st.2)).2 (by omega)
   exact ⟨o,st2,e,by omega⟩
  ·exact ⟨out,st,rfl,Nat.le_refl _⟩
theorem bagP_tot (toks : List D) {f fr : Nat} {st : St} (h : rem toks st < f) : ∃ x st2,bagP toks f fr st = some (x,st2) /\ rem toks st2 <= rem toks st:=by
 have h1:=rem_item toks st
 obtain ⟨o,st1,e,k⟩:=bagL_tot toks f [(itemP toks st).1] (itemP toks st).2 (by omega)
 unfold bagP
 rw [e]
 have h2:=rem_must toks [93] st1
 simp only
 split
 ·exact ⟨_,_,rfl,by omega⟩
 ·refine ⟨_,_,rfl,?_⟩
  split
  ·exact Nat.le_trans (rem_fail _ _ _) (by omega)
  ·omega
def tot (toks : List D) (P : Part) (r : Nat) : Prop:=∀ st,rem toks st <= r -> ∃ x st2,P toks st = some (x,st2) /\ rem toks st2 <= rem toks st
theorem rowL_tot {toks : List D} {P : Part} {r : Nat} (hP : tot toks P r) (bs : List (List UInt8)) : ∀ (f : Nat) (x : D) (st : St),rem toks st <= r -> rem toks st < f -> ∃ y st2,rowL toks P bs f x st = some (y,st2) /\ rem toks st2 <= rem toks st
 | 0,_,_,_,h=>by omega
 | f + 1,x,st,hr,h=>by
  simp only [rowL]
  split
  ·exact ⟨x,st,rfl,Nat.le_refl _⟩
  ·split
   ·exact ⟨x,st,rfl,Nat.le_refl _⟩
   ·rename_i w hw
    have h1:=rem_may (firstP_is hw)
    obtain ⟨y,st2,e,k⟩:=hP (st.1 + 1,st.2) (by omega)
    rw [e]
    obtain ⟨z,st3,e3,k3⟩:=rowL_tot hP bs f (twoD w x y) st2 (by omega) (by omega)
    exact ⟨z,st3,e3,by omega⟩
theorem rowP_tot {toks : List D} {P : Part} {r : Nat} (hP : tot toks P r) (bs : List (List UInt8)) {f : Nat} (hf : r < f) : tot toks (fun toks st=>rowP toks P bs f st) r:=fun st hr=>by
 obtain ⟨x,st1,e,k⟩:=hP st hr
 obtain ⟨y,st2,e2,k2⟩:=rowL_tot hP bs f x st1 (by omega) (by omega)
 refine ⟨y,st2,?_,by omega⟩
 simp only [rowP,e];exact e2
def rank : Lv -> Nat
 | .plain=>1 | .unary=>2 | .prod=>3 | .sum=>4 | .cmp=>5 | .not=>6 | .and=>7 | .expr=>8 | .inner=>10
theorem oneS_tot {op : List UInt8} {toks : List D} {z : Option (D × St)} {n : Nat} (h : ∃ x st2,z = some (x,st2) /\ rem toks st2 <= n) : ∃ x st2,oneS op z = some (x,st2) /\ rem toks st2 <= n:=by
 obtain ⟨x,st2,rfl,k⟩:=h
 exact ⟨_,_,rfl,k⟩
theorem lv_tot (toks : List D) : ∀ (r f : Nat) (lv : Lv),16 * r + rank lv < f -> tot toks (pLv f lv) r:=by
 intro r
 induction r using Nat.strongRecOn with
 | ind r ih =>
 have inn1 : ∀ f st,16 * r + 2 <= f + 1 -> rem toks st <= r -> isP toks st [40] = true -> ∃ x st2,pLv f .inner toks st = some (x,st2) /\ rem toks st2 <= rem toks st:=by
  intro f st hf hr hp
  have h1:=rem_must_lt hp
  cases f with
  | zero=>omega
  | succ f =>
   obtain ⟨x,st2,e,k⟩:=ih (r - 1) (by omega) f .expr (by simp only [rank];omega) (mustP toks [40] st) (by omega)
   refine ⟨x,mustP toks [41] st2,?_,?_⟩
   ·simp only [pLv,e,innS]
   ·have:=rem_must toks [41] st2;omega
 have inn2 : ∀ f st,16 * r + 2 <= f + 1 -> rem toks st < r -> ∃ x st2,pLv f .inner toks st = some (x,st2) /\ rem toks st2 <= rem toks st:=by
  intro f st hf hr
  exact ih (r - 1) (by omega) f .inner (by simp only [rank];omega) st (by omega)
 have hplain : ∀ f,16 * r + 1 < f -> tot toks (pLv f .plain) r:=by
  intro f hf st hr
  cases f with
  | zero=>omega
  | succ f =>
   simp only [pLv,plainP]
   split
   ·exact ⟨_,_,rfl,rem_lit _ _⟩
   split
   ·rename_i h;exact ⟨_,_,rfl,Nat.le_of_lt (rem_may h)⟩
   split
   ·rename_i h;exact inn1 f st (by omega) hr h
   split
   ·rename_i h
    have h1:=rem_may h
    obtain ⟨x,st2,e,k⟩:=bagP_tot toks (f:=f) (fr:=st.1) (st:=(st.1 + 1,st.2)) (by omega)
    exact ⟨x,st2,e,by omega⟩
   split
   ·rename_i h
    have h1:=rem_may h
    refine oneS_tot ?_
    obtain ⟨x,st2,e,k⟩:=inn2 f (st.1 + 1,st.2) (by omega) (by omega)
    exact ⟨x,st2,e,by omega⟩
   split
   ·rename_i h
    refine ⟨_,_,rfl,?_⟩
    have h1:=rem_may h
    have h2:=rem_must toks [40] (st.1 + 1,st.2)
    have h3:=rem_kind toks (k:=3) (by decide) (mustP toks [40] (st.1 + 1,st.2))
    have h4:=rem_must toks [41] (kindP toks 3 (mustP toks [40] (st.1 + 1,st.2))).2
    omega
   split
   ·rename_i h
    refine ⟨_,_,rfl,?_⟩
    have h1:=rem_may h
    have h2:=rem_must toks [40] (st.1 + 1,st.2)
    have h3:=rem_attr toks (mustP toks [40] (st.1 + 1,st.2))
    have h4:=rem_must toks [41] (attrP toks (mustP toks [40] (st.1 + 1,st.2))).2.2
    omega
   ·exact ⟨_,_,rfl,rem_attr _ _⟩
 have hunary : ∀ f,16 * r + 2 < f -> tot toks (pLv f .unary) r:=by
  intro f hf st hr
  cases f with
  | zero=>omega
  | succ f =>
   simp only [pLv]
   split
   ·rename_i h
    have h1:=rem_may h
    refine oneS_tot ?_
    obtain ⟨x,st2,e,k⟩:=ih (r - 1) (by omega) f .unary (by simp only [rank];omega) (st.1 + 1,st.2) (by omega)
    exact ⟨x,st2,e,by omega⟩
   ·exact hplain f (by omega) st hr
 have hprod : ∀ f,16 * r + 3 < f -> tot toks (pLv f .prod) r:=by
  intro f hf
  cases f with
  | zero=>omega
  | succ f=>exact rowP_tot (hunary f (by omega)) [[42]] (by omega)
 have hsum : ∀ f,16 * r + 4 < f -> tot toks (pLv f .sum) r:=by
  intro f hf
  cases f with
  | zero=>omega
  | succ f=>exact rowP_tot (hprod f (by omega)) [[43],[45]] (by omega)
 have hcmp : ∀ f,16 * r + 5 < f -> tot toks (pLv f .cmp) r:=by
  intro f hf st hr
  cases f with
  | zero=>omega
  | succ f =>
   obtain ⟨x,st1,e,k⟩:=hsum f (by omega) st hr
   simp only [pLv,e,cmpS2]
   split
   ·exact ⟨x,st1,rfl,k⟩
   ·rename_i w hw
    have h1:=rem_may (firstP_is hw)
    obtain ⟨y,st2,e2,k2⟩:=hsum f (by omega) (st1.1 + 1,st1.2) (by omega)
    rw [e2]
    exact ⟨_,st2,rfl,by omega⟩
 have hnot : ∀ f,16 * r + 6 < f -> tot toks (pLv f .not) r:=by
  intro f hf st hr
  cases f with
  | zero=>omega
  | succ f =>
   simp only [pLv]
   split
   ·rename_i h
    have h1:=rem_may h
    refine oneS_tot ?_
    obtain ⟨x,st2,e,k⟩:=ih (r - 1) (by omega) f .not (by simp only [rank];omega) (st.1 + 1,st.2) (by omega)
    exact ⟨x,st2,e,by omega⟩
   ·exact hcmp f (by omega) st hr
 have hand : ∀ f,16 * r + 7 < f -> tot toks (pLv f .and) r:=by
  intro f hf
  cases f with
  | zero=>omega
  | succ f=>exact rowP_tot (hnot f (by omega)) [wAnd] (by omega)
 have hexpr : ∀ f,16 * r + 8 < f -> tot toks (pLv f .expr) r:=by
  intro f hf
  cases f with
  | zero=>omega
  | succ f=>exact rowP_tot (hand f (by omega)) [wOr] (by omega)
 have hinner : ∀ f,16 * r + 10 < f -> tot toks (pLv f .inner) r:=by
  intro f hf st hr
  cases f with
  | zero=>omega
  | succ f =>
   have h1:=rem_must toks [40] st
   obtain ⟨x,st2,e,k⟩:=hexpr f (by omega) (mustP toks [40] st) (by omega)
   refine ⟨x,mustP toks [41] st2,by simp only [pLv,e,innS],?_⟩
   have:=rem_must toks [41] st2;omega
 intro f lv hf
 cases lv <;> simp only [rank] at hf
 ·exact hexpr f hf
 ·exact hand f hf
 ·exact hnot f hf
 ·exact hcmp f hf
 ·exact hsum f hf
 ·exact hprod f hf
 ·exact hunary f hf
 ·exact hplain f hf
 ·exact hinner f hf
theorem expr_tot (toks : List D) (h : toks.length <= 600) : ∃ x st,pLv 10000 .expr toks (0,0) = some (x,st):=by
 obtain ⟨x,st,e,_⟩:=lv_tot toks 600 10000 .expr (by simp only [rank];omega) (0,0) (by simp only [rem];simp;omega)
 exact ⟨x,st,e⟩
end GP
namespace GP
open Go Go.Proofs
set_option maxRecDepth 100000
def isVr (x : D) : Prop:=x.isV = true /\ -(2 ^ 63) <= vi x /\ vi x < 2 ^ 63
def mkE (op : List UInt8) (k i : Int) (s : List UInt8) (nl : Bool) (l : List D) (who name : List UInt8) (m : Bool) (ps : List D) : D :=
 .agg [.str op,.int .i64 k,.int .i64 i,.str s,sliceD nl l,.str who,.str name,sliceD m ps]
def isE : Nat -> D -> Prop
 | 0,_=>False
 | n + 1,d=>∃ op k i s nl l who name m ps,d = mkE op k i s nl l who name m ps /\ op.length <= 2 ^ 47 /\ who.length <= 2 ^ 47 /\ name.length <= 2 ^ 47 /\ isVr (mkV k i s nl l) /\ ps.length <= 2 ^ 47 /\ ∀ x ∈ ps,isE n x
theorem mkV_erase {k i : Int} {s : List UInt8} {nl : Bool} {l : List D} (h : (mkV k i s nl l).isV = true) : D.eraseL l = l /\ s.length <= 2 ^ 47 /\ l.length <= 2 ^ 47 /\ ∀ x ∈ l,x.isV = true:=by
 obtain ⟨k',i',s',n',l',e,h1,h2,h3⟩:=isV_elim h
 have e1:=congrArg vs e
 have e2:=congrArg vl e
 simp only [vs_mk,vl_mk] at e1 e2
 subst e1;subst e2
 exact ⟨erase_of_isV h3,h1,h2,h3⟩
theorem isE_mono : ∀ {n : Nat} {d : D},isE n d -> isE (n + 1) d
 | 0,_,h=>h.elim
 | _ + 1,_,⟨op,k,i,s,nl,l,who,name,m,ps,e,h1,h2,h3,h4,h5,h6⟩=>⟨op,k,i,s,nl,l,who,name,m,ps,e,h1,h2,h3,h4,h5,fun x hx=>isE_mono (h6 x hx)⟩
theorem isE_erase : ∀ {n : Nat} {d : D},isE n d -> d.erase = d
 | 0,_,h=>h.elim
 | n + 1,d,⟨op,k,i,s,nl,l,who,name,m,ps,e,h1,h2,h3,h4,h5,h6⟩=>by
  subst e
  have hp : D.eraseL ps = ps:=by
   rw [eraseL_map]
   exact (List.map_congr_left fun x hx=>isE_erase (h6 x hx)).trans (List.map_id'' (fun _=>rfl) ps)
  simp [mkE,D.erase,D.eraseL,erase_sliceD,(mkV_erase h4.1).1,hp]
theorem isE_cells {n : Nat} {d : D} (h : isE n d) : d.cells.length = 8 /\ d.cells.take 8 = d.cells /\ D.agg d.cells = d /\ d.okc = true:=by
 cases n with
 | zero=>exact h.elim
 | succ n =>
  obtain ⟨op,k,i,s,nl,l,who,name,m,ps,rfl,_⟩:=h
  exact ⟨rfl,rfl,rfl,rfl⟩
def eop : D -> List UInt8
 | .agg (.str s :: _)=>s
 | _=>[]
def eV : D -> D
 | .agg (_ :: a :: b :: c :: d :: _)=>.agg [a,b,c,d]
 | _=>.top
def ewho : D -> List UInt8
 | .agg (_ :: _ :: _ :: _ :: _ :: .str s :: _)=>s
 | _=>[]
def ename : D -> List UInt8
 | .agg (_ :: _ :: _ :: _ :: _ :: _ :: .str s :: _)=>s
 | _=>[]
def eps : D -> List D
 | .agg (_ :: _ :: _ :: _ :: _ :: _ :: _ :: l :: _)=>elems l
 | _=>[]
section
variable (op : List UInt8) (k i : Int) (s : List UInt8) (nl : Bool) (l : List D) (who name : List UInt8) (m : Bool) (ps : List D)
theorem eop_mk : eop (mkE op k i s nl l who name m ps) = op:=rfl
theorem eV_mk : eV (mkE op k i s nl l who name m ps) = mkV k i s nl l:=rfl
theorem ewho_mk : ewho (mkE op k i s nl l who name m ps) = who:=rfl
theorem ename_mk : ename (mkE op k i s nl l who name m ps) = name:=rfl
theorem eps_mk : eps (mkE op k i s nl l who name m ps) = ps:=by simp only [eps,mkE,elems_sliceD]
end
def mkF (who name : List UInt8) (kind : Int) (bag : Bool) : D:=.agg [.str who,.str name,.int .i64 kind,.bool bag]
def isF (d : D) : Prop:=∃ who name kind bag,d = mkF who name kind bag /\ who.length <= 2 ^ 47 /\ name.length <= 2 ^ 47 /\ -(2 ^ 63) <= kind /\ kind < 2 ^ 63
def fwho : D -> List UInt8
 | .agg (.str s :: _)=>s
 | _=>[]
def fname : D -> List UInt8
 | .agg (_ :: .str s :: _)=>s
 | _=>[]
def fkind : D -> Int
 | .agg (_ :: _ :: .int _ k :: _)=>k
 | _=>0
def fbag : D -> Bool
 | .agg [_,_,_,.bool b]=>b
 | _=>false
theorem isF_erase {d : D} (h : isF d) : d.erase = d:=by
 obtain ⟨_,_,_,_,rfl,_⟩:=h;simp [mkF,D.erase,D.eraseL]
def sVal : List UInt8:=[118,97,108,117,101]
def sNow : List UInt8:=[110,111,119]
def sAttr : List UInt8:=[97,116,116,114]
def sHas : List UInt8:=[104,97,115]
def sRole : List UInt8:=[114,111,108,101]
def sNot : List UInt8:=[110,111,116]
def sNeg : List UInt8:=[110,101,103]
def sSize : List UInt8:=[115,105,122,101]
def sIn : List UInt8:=[105,110]
theorem isE_elim {n : Nat} {d : D} (h : isE n d) : ∃ op k i s nl l who name m ps,d = mkE op k i s nl l who name m ps /\ op.length <= 2 ^ 47 /\ who.length <= 2 ^ 47 /\ name.length <= 2 ^ 47 /\ isVr (mkV k i s nl l) /\ ps.length <= 2 ^ 47 /\ (∀ x ∈ ps,isE (n - 1) x) /\ D.eraseL l = l /\ D.eraseL ps = ps:=by
 cases n with
 | zero=>exact h.elim
 | succ n =>
  obtain ⟨op,k,i,s,nl,l,who,name,m,ps,rfl,h1,h2,h3,h4,h5,h6⟩:=h
  exact ⟨op,k,i,s,nl,l,who,name,m,ps,rfl,h1,h2,h3,h4,h5,h6,(mkV_erase h4.1).1,eraseL_id fun x hx=>isE_erase (h6 x hx)⟩
end GP
namespace GP
open Go Go.Proofs
set_option maxRecDepth 100000
def szL (f : D -> Int -> Int) : List D -> Int -> Int -> Int
 | [],_,n=>n
 | x :: l,m,n=>if decide (n <= m) then szL f l m (IntKind.i64.wrap (n + f x (IntKind.i64.wrap (m - n)))) else n
def sizeE : Nat -> D -> Int -> Int
 | 0,_,_=>0
 | n + 1,e,m=>szL (sizeE n) (eps e) m 1
theorem szL_step {f : D -> Int -> Int} {l : List D} {j : Nat} {x : D} (hx : l[j]? = some x) {m n : Int} (h : decide (n <= m) = true) : szL f (l.drop j) m n = szL f (l.drop (j + 1)) m (IntKind.i64.wrap (n + f x (IntKind.i64.wrap (m - n)))):=by
 have hj : j < l.length:=by
  rcases Nat.lt_or_ge j l.length with h' | h'
  ·exact h'
  ·rw [List.getElem?_eq_none h'] at hx;cases hx
 have : l[j] = x:=by simpa [hj] using hx
 rw [List.drop_eq_getElem_cons hj,szL,h,this];rfl
theorem szL_stop {f : D -> Int -> Int} (l : List D) {m n : Int} (h : decide (n <= m) = false) : szL f l m n = n:=by
 cases l with
 | nil=>rfl
 | cons x l=>rw [szL,h];rfl
open Classical in
noncomputable def φsizeE (n : Nat) : List D -> Option D
 | [e,.int .i64 m]=>if isE n e then some (.int .i64 (sizeE n e m)) else none
 | _=>none
set_option maxHeartbeats 2000000 in
theorem ok39 [HasG Tryz.prog] : ∀ n,OkAt Tryz.prog 39 (φsizeE n)
 | 0=>fun args r h=>by
  unfold φsizeE at h
  split at h
  ·split at h
   ·rename_i h';exact h'.elim
   ·cases h
  ·cases h
 | n + 1=>by
  refine ok_of (l:=[(39,φsizeE n)]) (.cons (ok39 n) .nil) fn39 fun args r h=>?_
  unfold φsizeE at h
  split at h
  ·rename_i e mm
   split at h
   ·rename_i he
    injection h with h;subst h
    refine ⟨by simp,by simp [D.cl],fun H T=>?_⟩
    obtain ⟨op,k,i,t,nl,l,who,name,m,ps,rfl,h1,h2,h3,h4,h5,h6,eL,eP⟩:=isE_elim he
    have h6 : ∀ x ∈ ps,isE n x:=h6
    simp only [sizeE,eps_mk]
    simp +contextual (maxSteps:=10000000) only [c39,mkE,eL,eP,go_sem]
    refine W_for (fun j s'=>s'.t 1 = .int .i64 mm /\ s'.t 2 = .ptr H.length 0 /\ (∃ a,s'.t 5 = .int .i64 a /\ szL (sizeE n) (ps.drop j) mm a = szL (sizeE n) ps mm 1) /\ s'.t 6 = .int .i64 j /\ s'.H = H ++ [.row [.str op,.int .i64 k,.int .i64 i,.str t,sliceD nl l,.str who,.str name,sliceD m ps]] /\ s'.T = T /\ j <= ps.length) ps.length ⟨0,by simp [upd,argT]⟩ (fun i s h=>h.2.2.2.2.2.2) ?_ (XL_mono _)
    rintro j ⟨t',B,T'⟩ ⟨r1,r2,⟨a,r5,hc⟩,r6,rfl,rfl,hj⟩
    simp only at r1 r2 r5 r6
    by_cases ha : j < ps.length
    ·have d1 : decide ((j : Int) < ps.length) = true:=by simpa using ha
     have hx:=h6 _ (List.getElem_mem ha)
     have ex : ps[j]? = some ps[j]:=by simp [ha]
     generalize ps[j] = x at *
     have ee:=isE_erase hx
     obtain ⟨q1,q2,q3,q4⟩:=isE_cells hx
     have px : ∀ r,φsizeE n [x,.int .i64 r] = some (.int .i64 (sizeE n x r)):=fun r=>by simp only [φsizeE];rw [if_pos hx]
     cases d2 : decide (a <= mm) with
     | true =>
      rw [szL_step ex d2] at hc
      simp +contextual (maxSteps:=10000000) only [r1,r2,r5,r6,d1,d2,ex,ee,q1,q2,q3,q4,px,wrap_succ j (by omega),go_sem]
      exact ⟨⟨_,rfl,hc⟩,by omega⟩
     | false =>
      rw [szL_stop _ d2] at hc
      have d2':=d2
      rw [hc] at d2'
      simp +contextual (maxSteps:=10000000) only [r1,r2,r5,r6,d1,d2',hc,go_sem]
    ·have d1 : decide ((j : Int) < ps.length) = false:=by simpa using ha
     have : j = ps.length:=by omega
     subst this
     rw [List.drop_length] at hc
     have hc' : a = szL (sizeE n) ps mm 1:=hc
     simp +contextual (maxSteps:=10000000) only [r1,r2,r5,r6,d1,hc',go_sem]
   ·cases h
  ·cases h
def big (l : List UInt8) : Bool:=decide ((200 : Int) < l.length)
def shortE : Nat -> D -> Bool
 | 0,_=>false
 | n + 1,e=>!(big (eop e)) && !(big (ewho e)) && !(big (ename e)) && fewB [eV e] 1 && (eps e).all (shortE n)
open Classical in
noncomputable def φshort (n : Nat) : List D -> Option D
 | [e]=>if isE n e then some (.bool (shortE n e)) else none
 | _=>none
theorem few_one {v : D} (h : isVr v) : φFew [.sl none [v],.int .i64 1] = some (.bool (fewB [v] 1)):=by
 simp only [φFew]
 rw [if_pos ⟨rfl,by simp [elems,D.isVs,h.1],by simp [elems]⟩]
 rfl
set_option maxHeartbeats 2000000 in
theorem ok63 [HasG Tryz.prog] : ∀ n,OkAt Tryz.prog 63 (φshort n)
 | 0=>fun args r h=>by
  unfold φshort at h
  split at h
  ·split at h
   ·rename_i h';exact h'.elim
   ·cases h
  ·cases h
 | n + 1=>by
  refine ok_of (l:=[(111,φFew),(63,φshort n)]) (.cons ok111 (.cons (ok63 n) .nil)) fn63 fun args r h=>?_
  unfold φshort at h
  split at h
  ·rename_i e
   split at h
   ·rename_i he
    injection h with h;subst h
    refine ⟨by simp,by simp [D.cl],fun H T=>?_⟩
    obtain ⟨op,k,i,t,nl,l,who,name,m,ps,rfl,h1,h2,h3,h4,h5,h6,eL,eP⟩:=isE_elim he
    have h6 : ∀ x ∈ ps,isE n x:=h6
    simp only [shortE,eps_mk,eop_mk,ewho_mk,ename_mk,eV_mk]
    simp only [big]
    have pf:=few_one h4
    obtain ⟨fb,hq⟩ : ∃ z,fewB [mkV k i t nl l] 1 = z:=⟨_,rfl⟩
    simp only [hq] at pf ⊢
    clear hq
    simp only [mkV] at pf
    have pf' : ∀ tk,φFew (D.eraseL [.sl tk [.agg [.int .i64 k,.int .i64 i,.str t,sliceD nl l]],.int .i64 1]) = some (.bool fb):=fun tk=>by simp only [D.eraseL,D.erase,erase_sliceD,eL,pf]
    cases g1 : decide ((200 : Int) < op.length) with
    | true=>simp +contextual (maxSteps:=10000000) only [c63,mkE,eL,eP,g1,go_sem]
    | false =>
    cases g2 : decide ((200 : Int) < who.length) with
    | true=>simp +contextual (maxSteps:=10000000) only [c63,mkE,eL,eP,g1,g2,go_sem]
    | false =>
    cases g3 : decide ((200 : Int) < name.length) with
    | true=>simp +contextual (maxSteps:=10000000) only [c63,mkE,eL,eP,g1,g2,g3,go_sem]
    | false =>
    cases fb with
    | false=>simp +contextual (maxSteps:=10000000) only [c63,mkE,eL,eP,g1,g2,g3,pf,go_sem]
    | true =>
    simp +contextual (maxSteps:=10000000) only [c63,mkE,eL,eP,g1,g2,g3,pf,go_sem]
    refine W_for (fun j s'=>s'.t 1 = .ptr H.length 0 /\ s'.t 3 = .int .i64 j /\ s'.H = H ++ [.row [.str op,.int .i64 k,.int .i64 i,.str t,sliceD nl l,.str who,.str name,sliceD m ps]] /\ ExtT T s'.T /\ j <= ps.length /\ (ps.take j).all (shortE n) = true) ps.length ⟨0,by simp [upd,argT,extT_self,extT_of]⟩ (fun i s h=>h.2.2.2.2.1) ?_ (XL_mono _)
    rintro j ⟨t',B,T'⟩ ⟨r1,r3,rfl,hT,hj,hc⟩
    simp only at r1 r3 hT
    by_cases ha : j < ps.length
    ·have d1 : decide ((j : Int) < ps.length) = true:=by simpa using ha
     have hx:=h6 _ (List.getElem_mem ha)
     have ex : ps[j]? = some ps[j]:=by simp [ha]
     have nx:=fun hp=>all_nx' (p:=shortE n) ex hc hp
     have no:=fun hp=>all_no' (p:=shortE n) ex hp
     generalize ps[j] = x at *
     have ee:=isE_erase hx
     obtain ⟨q1,q2,q3,q4⟩:=isE_cells hx
     have px : φshort n [x] = some (.bool (shortE n x)):=by simp only [φshort];rw [if_pos hx]
     obtain ⟨b,hq⟩ : ∃ z,shortE n x = z:=⟨_,rfl⟩
     simp only [hq] at px nx no
     clear hq
     cases b with
     | true =>
      have nx:=nx rfl
      simp +contextual (maxSteps:=10000000) only [r1,r3,hT.t,leaves_E (Ext.of H _) hT,d1,ex,ee,q1,q2,q3,q4,px,wrap_succ j (by omega),go_sem]
      exact ⟨by omega,nx⟩
     | false =>
      have no:=no rfl
      simp +contextual (maxSteps:=10000000) only [r1,r3,hT.t,leaves_E (Ext.of H _) hT,d1,ex,ee,q1,q2,q3,q4,px,no,go_sem]
    ·have d1 : decide ((j : Int) < ps.length) = false:=by simpa using ha
     have : j = ps.length:=by omega
     subst this
     rw [List.take_length] at hc
     simp +contextual (maxSteps:=10000000) only [r1,r3,hT.t,leaves_E (Ext.of H _) hT,d1,hc,go_sem]
   ·cases h
  ·cases h
def fewEx (n : Nat) (e : D) : Bool:=decide (sizeE n e 60 <= 60) && shortE n e
open Classical in
noncomputable def φfewE (n : Nat) : List D -> Option D
 | [e]=>if isE n e then some (.bool (fewEx n e)) else none
 | _=>none
theorem ok25 [HasG Tryz.prog] (n : Nat) : OkAt Tryz.prog 25 (φfewE n):=by
 refine ok_of (l:=[(39,φsizeE n),(63,φshort n)]) (.cons (ok39 n) (.cons (ok63 n) .nil)) fn25 fun args r h=>?_
 unfold φfewE at h
 split at h
 ·rename_i e
  split at h
  ·rename_i he
   injection h with h;subst h
   refine ⟨by simp,by simp [D.cl],fun H T=>?_⟩
   have ee:=isE_erase he
   obtain ⟨q1,q2,q3,q4⟩:=isE_cells he
   have p1 : φsizeE n [e,.int .i64 60] = some (.int .i64 (sizeE n e 60)):=by simp only [φsizeE];rw [if_pos he]
   have p2 : φshort n [e] = some (.bool (shortE n e)):=by simp only [φshort];rw [if_pos he]
   simp only [fewEx]
   simp +contextual (maxSteps:=10000000) only [c25,ee,q1,q2,q3,q4,p1,p2,go_sem]
   (all_goals ((repeat' (first | apply And.intro | intro _)) <;> (first | rfl | omega | (simp_all;done) | grind)))
  ·cases h
 ·cases h
end GP
namespace GP
open Go Go.Proofs
set_option maxRecDepth 100000
def mxd (f : D -> Nat) (l : List D) : Nat:=l.foldl (fun a x=>max a (f x)) 0
theorem mxd_step {f : D -> Nat} {l : List D} {j : Nat} {x : D} (h : l[j]? = some x) : mxd f (l.take (j + 1)) = max (mxd f (l.take j)) (f x):=by
 rw [List.take_add_one,h];simp [mxd,List.foldl_append]
theorem mxd_le {f : D -> Nat} {b : Nat} : ∀ {l : List D},(∀ x ∈ l,f x <= b) -> mxd f l <= b:=by
 have key : ∀ (l : List D) (a : Nat),a <= b -> (∀ x ∈ l,f x <= b) -> l.foldl (fun a x=>max a (f x)) a <= b:=by
  intro l
  induction l with
  | nil=>intro a h _;exact h
  | cons x l ih =>
   intro a h hx
   exact ih (max a (f x)) (by have:=hx x (by simp);omega) fun y hy=>hx y (by simp [hy])
 intro l h
 exact key l 0 (by omega) h
def dpt : Nat -> D -> Nat
 | 0,_=>0
 | n + 1,e=>mxd (dpt n) (eps e) + 1
theorem dpt_le : ∀ (n : Nat) (e : D),dpt n e <= n
 | 0,_=>Nat.le_refl _
 | n + 1,e=>by
  simp only [dpt]
  have:=mxd_le (f:=dpt n) (b:=n) (l:=eps e) fun x _=>dpt_le n x
  omega
open Classical in
noncomputable def φdpt (n : Nat) : List D -> Option D
 | [e]=>if isE n e then some (.int .i64 ((dpt n e : Nat) : Int)) else none
 | _=>none
set_option maxHeartbeats 2000000 in
theorem ok26 : ∀ n,n <= 2 ^ 40 -> OkAt Tryz.prog 26 (φdpt n)
 | 0,_=>fun args r h=>by
  unfold φdpt at h
  split at h
  ·split at h
   ·rename_i h';exact h'.elim
   ·cases h
  ·cases h
 | n + 1,hn=>by
  refine ok_of (l:=[(26,φdpt n)]) (.cons (ok26 n (by omega)) .nil) fn26 fun args r h=>?_
  unfold φdpt at h
  split at h
  ·rename_i e
   split at h
   ·rename_i he
    injection h with h;subst h
    refine ⟨by simp,by simp [D.cl],fun H T=>?_⟩
    obtain ⟨op,k,i,t,nl,l,who,name,m,ps,rfl,h1,h2,h3,h4,h5,h6,eL,eP⟩:=isE_elim he
    have h6 : ∀ x ∈ ps,isE n x:=h6
    simp only [dpt,eps_mk]
    simp +contextual (maxSteps:=10000000) only [c26,mkE,eL,eP,go_sem]
    refine W_for (fun j s'=>s'.t 3 = .int .i64 ((mxd (dpt n) (ps.take j) : Nat) : Int) /\ s'.t 7 = sliceD m ps /\ s'.t 8 = .int .i64 ps.length /\ s'.t 9 = .int .i64 j /\ Ext H s'.H /\ s'.T = T /\ j <= ps.length) ps.length ⟨0,by simp [upd,argT,ext_of,mxd]⟩ (fun i s h=>h.2.2.2.2.2.2) ?_ (XL_mono _)
    rintro j ⟨t',B,T'⟩ ⟨r3,r7,r8,r9,hE,rfl,hj⟩
    simp only at r3 r7 r8 r9 hE
    have hb:=mxd_le (f:=dpt n) (b:=n) (l:=ps.take j) fun x _=>dpt_le n x
    by_cases ha : j < ps.length
    ·have d1 : decide ((j : Int) < ps.length) = true:=by simpa using ha
     have hx:=h6 _ (List.getElem_mem ha)
     have ex : ps[j]? = some ps[j]:=by simp [ha]
     have hs:=mxd_step (f:=dpt n) ex
     generalize ps[j] = x at *
     have ee:=isE_erase hx
     obtain ⟨q1,q2,q3,q4⟩:=isE_cells hx
     have px : φdpt n [x] = some (.int .i64 ((dpt n x : Nat) : Int)):=by simp only [φdpt];rw [if_pos hx]
     rw [hs]
     simp +contextual (maxSteps:=10000000) only [r3,r7,r8,r9,d1,ex,ee,q1,q2,q3,q4,px,wrap_succ j (by omega),hE.ta,go_sem]
     refine ⟨?_,by omega⟩
     split <;> (congr 1;omega)
    ·have d1 : decide ((j : Int) < ps.length) = false:=by simpa using ha
     have : j = ps.length:=by omega
     subst this
     rw [List.take_length] at r3 hb
     have w : IntKind.i64.wrap (((mxd (dpt n) ps : Nat) : Int) + 1) = ((mxd (dpt n) ps + 1 : Nat) : Int):=by
      rw [show ((mxd (dpt n) ps : Nat) : Int) + 1 = ((mxd (dpt n) ps + 1 : Nat) : Int) by omega];exact wrap_of _ (by omega) (by omega)
     simp +contextual (maxSteps:=10000000) only [r3,r7,r8,r9,d1,w,leaves_E hE (ExtT.refl _),go_sem]
   ·cases h
  ·cases h
set_option maxHeartbeats 2000000 in
theorem ok22 : ∀ n,n <= 2 ^ 40 -> OkAt Tryz.prog 22 (φdpt n)
 | 0,_=>fun args r h=>by
  unfold φdpt at h
  split at h
  ·split at h
   ·rename_i h';exact h'.elim
   ·cases h
  ·cases h
 | n + 1,hn=>by
  refine ok_of (l:=[(22,φdpt n)]) (.cons (ok22 n (by omega)) .nil) fn22 fun args r h=>?_
  unfold φdpt at h
  split at h
  ·rename_i e
   split at h
   ·rename_i he
    injection h with h;subst h
    refine ⟨by simp,by simp [D.cl],fun H T=>?_⟩
    obtain ⟨op,k,i,t,nl,l,who,name,m,ps,rfl,h1,h2,h3,h4,h5,h6,eL,eP⟩:=isE_elim he
    have h6 : ∀ x ∈ ps,isE n x:=h6
    simp only [dpt,eps_mk]
    simp +contextual (maxSteps:=10000000) only [c22,mkE,eL,eP,go_sem]
    refine W_for (fun j s'=>s'.t 1 = .ptr H.length 0 /\ s'.t 3 = .int .i64 ((mxd (dpt n) (ps.take j) + 1 : Nat) : Int) /\ s'.t 4 = .int .i64 j /\ s'.H = H ++ [.row [.str op,.int .i64 k,.int .i64 i,.str t,sliceD nl l,.str who,.str name,sliceD m ps]] /\ s'.T = T /\ j <= ps.length) ps.length ⟨0,by simp [upd,argT,mxd]⟩ (fun i s h=>h.2.2.2.2.2) ?_ (XL_mono _)
    rintro j ⟨t',B,T'⟩ ⟨r1,r3,r4,rfl,rfl,hj⟩
    simp only at r1 r3 r4
    have hb:=mxd_le (f:=dpt n) (b:=n) (l:=ps.take j) fun x _=>dpt_le n x
    by_cases ha : j < ps.length
    ·have d1 : decide ((j : Int) < ps.length) = true:=by simpa using ha
     have hx:=h6 _ (List.getElem_mem ha)
     have ex : ps[j]? = some ps[j]:=by simp [ha]
     have hs:=mxd_step (f:=dpt n) ex
     generalize ps[j] = x at *
     have hd:=dpt_le n x
     have ee:=isE_erase hx
     obtain ⟨q1,q2,q3,q4⟩:=isE_cells hx
     have px : φdpt n [x] = some (.int .i64 ((dpt n x : Nat) : Int)):=by simp only [φdpt];rw [if_pos hx]
     have w : IntKind.i64.wrap (1 + ((dpt n x : Nat) : Int)) = ((dpt n x + 1 : Nat) : Int):=by
      rw [show 1 + ((dpt n x : Nat) : Int) = ((dpt n x + 1 : Nat) : Int) by omega];exact wrap_of _ (by omega) (by omega)
     rw [hs]
     simp +contextual (maxSteps:=10000000) only [r1,r3,r4,d1,ex,ee,q1,q2,q3,q4,px,wrap_succ j (by omega),w,go_sem]
     refine ⟨?_,by omega⟩
     split <;> (congr 1;omega)
    ·have d1 : decide ((j : Int) < ps.length) = false:=by simpa using ha
     have : j = ps.length:=by omega
     subst this
     rw [List.take_length] at r3 hb
     simp +contextual (maxSteps:=10000000) only [r1,r3,r4,d1,go_sem]
   ·cases h
  ·cases h
end GP
