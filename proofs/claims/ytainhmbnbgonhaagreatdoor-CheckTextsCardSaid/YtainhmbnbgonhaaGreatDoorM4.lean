import Derived.ChangeArms
import Derived.ChangeReads
import Derived.ChangeSame
import Derived.OpenShut
import Derived.ProofKit
import Derived.ReadAgain
import Derived.RowKit
import Derived.SizedLaws
import Derived.WideShapes
import Derived.Test.YtainhmbnbgonhaaGreatDoorM3
set_option linter.unusedSimpArgs false
set_option linter.unnecessarySimpa false
namespace GP
open Go
variable {P : Program} {X : d8} {ops : Array Oper} {sl : Nat -> I} {st : Nat -> List Nat} {R : S -> Prop}
def zW : I -> Option Nat
 | ⟨_,none,.allocAt j _⟩ | ⟨_,none,.boxAt j _⟩ | ⟨_,none,.rawAt j _⟩ | ⟨_,none,.fillAt j _ _ _⟩=>some j
 | _=>none
def NJ : O -> Bool
 | .bsl _ _ | .s2b _ | .app _ _ _ _ _=>true
 | _=>false
def Dq (x y : I) : Bool :=
 (match x.d with | some d=>!y.looks.contains d && y.d != some d | none=>true) && (match y.d with | some d=>!x.looks.contains d | none=>true)
theorem zF {x y : I} (h : Dq x y = true) : (∀ d,x.d = some d -> d ∉ y.looks) /\ (∀ d,x.d = some d -> y.d ≠ some d) /\ (∀ d,y.d = some d -> d ∉ x.looks):=by
 unfold Dq at h
 rw [Bool.and_eq_true] at h
 refine ⟨fun d hd=>?_,fun d hd=>?_,fun d hd=>?_⟩
 ·rw [hd] at h;simp at h;exact h.1.1
 ·rw [hd] at h;simp at h;exact h.1.2
 ·rw [hd] at h;simp at h;exact h.2
def Qy (x y : I) : Bool:=match x.d with | some d=>!y.looks.contains d && y.d != some d | none=>true
def okQ (S : Array Bool) (sl : Nat -> I) (st : Nat -> List Nat) (i j : Nat) : Bool :=
 Dq (sl i) (sl j) &&
 (gV (sl j).o || (zW (sl j)).isSome ||
  (NJ (sl j).o || !nU (sl i).o || ((st j).contains i && (match (sl i).d with | some d=>!(sl i).looks.contains d | none=>false)))) &&
 (st j).all (fun k=>k == i || Qy (sl i) (sl k) || !S.getD k false)
def okA (sl : Nat -> I) (st : Nat -> List Nat) (i j : Nat) : Bool :=
 Dq (sl i) (sl j) && (zW (sl j)).isSome && (zW (sl j) != zW (sl i)) && (st j).isEmpty
def ahead (ops : Array Oper) (i : Nat) : Nat -> Array Bool -> Array Bool
 | 0,S=>S
 | f + 1,S=>match (ready ops S).filter (· != i) with
  | []=>S
  | l=>ahead ops i f (l.foldl (fun S j=>S.setIfInBounds j true) S)
def DT (ops : Array Oper) (i : Nat) (listed S : Array Bool) : Bool :=
 (ready ops S).all (· == i) && (List.range listed.size).all (fun k=>!listed.getD k false || S.getD k false) && !S.getD i true && (S.size == listed.size)
def chk (ops : Array Oper) (sl : Nat -> I) (st : Nat -> List Nat) : List Nat -> Array Bool -> Bool
 | [],listed=>(ready ops listed).isEmpty
 | i :: rest,listed =>
  (ready ops listed).contains i && chk ops sl st rest (listed.setIfInBounds i true) &&
  (if gV (sl i).o then
   let S:=ahead ops i ops.size listed
   DT ops i listed S && (st i).isEmpty && (List.range listed.size).all fun j=>!S.getD j false || listed.getD j false || okQ S sl st i j
  else match zW (sl i) with
   | some _ =>
    let S:=ahead ops i ops.size listed
    DT ops i listed S && (st i).isEmpty && (List.range listed.size).all fun j=>!S.getD j false || listed.getD j false || okA sl st i j
   | none=>ready ops listed == [i])
def uH (listed S : Array Bool) : Prop:=listed.size = S.size /\ ∀ k,listed.getD k false = true -> S.getD k false = true
theorem tA {i : Nat} {listed S : Array Bool} (h : DT ops i listed S = true) : uH listed S /\ S.getD i true = false /\ ∀ k ∈ ready ops S,k = i:=by
 unfold DT at h
 simp only [Bool.and_eq_true,beq_iff_eq,Bool.not_eq_true',List.all_eq_true] at h
 obtain ⟨⟨⟨h1,h2⟩,h3⟩,h4⟩:=h
 refine ⟨⟨h4.symm,fun k hk=>?_⟩,h3,fun k hk=>by simpa using h1 k hk⟩
 have hlt : k < listed.size:=by
  rcases Nat.lt_or_ge k listed.size with h' | h'
  ·exact h'
  ·simp [Array.getElem?_eq_none h'] at hk
 have:=h2 k (by simpa using hlt)
 simpa [hk] using this
theorem vI {i : Nat} {listed S : Array Bool} (hw : uH listed S) (hc : ∀ k ∈ ready ops S,k = i) {j : Nat} (hj : j ∈ ready ops listed) (hne : j ≠ i) : S.getD j false = true:=by
 unfold ready at hj hc
 rw [mem_ready] at hj
 obtain ⟨h0,o,ho,hall⟩:=hj
 cases hS : S.getD j false with
 | true=>rfl
 | false =>
  exfalso
  refine hne (hc j (mem_ready.2 ⟨?_,o,ho,fun e he hb=>hw.2 _ (hall e he hb)⟩))
  have hlt : j < listed.size:=by
   rcases Nat.lt_or_ge j listed.size with h' | h'
   ·exact h'
   ·simp [Array.getElem?_eq_none h'] at h0
  have hlt' : j < S.size:=by rw [<- hw.1];exact hlt
  simpa [Array.getElem?_eq_getElem hlt'] using hS
theorem Ak {listed S : Array Bool} (hw : uH listed S) {j : Nat} (hj : S.getD j false = true) : uH (listed.setIfInBounds j true) S:=by
 refine ⟨by simp [hw.1],fun k hk=>?_⟩
 by_cases e : j = k
 ·subst e;exact hj
 ·rw [getD_set_ne false e] at hk;exact hw.2 k hk
theorem BW {listed : Array Bool} {j : Nat} (hj : j ∈ ready ops listed) : j < ops.size /\ listed.getD j true = false:=by
 unfold ready at hj
 rw [mem_ready] at hj
 obtain ⟨h0,o,ho,_⟩:=hj
 refine ⟨?_,h0⟩
 rcases Nat.lt_or_ge j ops.size with h' | h'
 ·exact h'
 ·simp [Array.getElem?_eq_none h'] at ho
theorem dO {listed : Array Bool} {j : Nat} (h : listed.getD j true = false) : listed.getD j false = false:=by
 rcases Nat.lt_or_ge j listed.size with h' | h'
 ·simpa [Array.getElem?_eq_getElem h'] using h
 ·simp [Array.getElem?_eq_none h'] at h
theorem H6 {S : Array Bool} {j : Nat} {listed : Array Bool} {i : Nat} {v : D} (hX : uL X) (hun : listed.getD i true = false) (hw : uH listed S) (h : (st j).all (fun k=>k == i || Qy (sl i) (sl k) || !S.getD k false) = true) {s : GP.S}
  (hs : yB X sl (st j) (listed.setIfInBounds i true) (s.put (sl i).d v)) : yB X sl (st j) listed s:=by
 intro k hk hl
 have hki : k ≠ i:=fun e=>by subst e;rw [dO hun] at hl;cases hl
 have h1:=hs k hk (by rw [getD_set_ne false (Ne.symm hki)];exact hl)
 have h2:=List.all_eq_true.1 h k hk
 rw [hw.2 k hl,Bool.not_true,Bool.or_false] at h2
 simp only [Bool.or_eq_true,beq_iff_eq] at h2
 have h3:=h2.resolve_left hki
 have hoff : (∀ d,(sl i).d = some d -> d ∉ (sl k).looks) /\ (∀ d,(sl i).d = some d -> (sl k).d ≠ some d):=by
  unfold Qy at h3
  refine ⟨fun d hd=>?_,fun d hd=>?_⟩ <;> rw [hd] at h3 <;> simp at h3
  ·exact h3.1
  ·exact h3.2
 unfold qH at h1 ⊢
 rw [pF hoff.1] at h1
 split
 ·rename_i d hg hd
  rw [hg,hd] at h1
  simp only at h1
  have e : (s.put (sl i).d v).t d = s.t d:=by
   cases hdi : (sl i).d with
   | none=>rfl
   | some di =>
    have : d ≠ di:=fun e=>hoff.2 di hdi (by rw [hd,e])
    show upd s.t di v d = s.t d
    simp [upd,this]
  rw [e] at h1
  refine uT hX (s:=s.put (sl i).d v) (pB _ _ _).1.symm (pB _ _ _).2.symm (fun r hr=>(oE hoff.1 r hr).symm) (fun u H T hu=>hu) h1
 ·trivial
theorem RM {o : O} (ht : NJ o = true) {s : S} {K : D -> S -> Prop} (h : WO X o s K) : WO X o s (fun u s'=>K u s' /\ s'.H = s.H):=by
 cases o <;> simp [NJ] at ht
 ·exact ⟨h.1,h.2,rfl⟩
 ·rename_i x
  change zX K s (s.ev x) at h
  show zX (fun u s'=>K u s' /\ s'.H = s.H) s (s.ev x)
  cases hx : s.ev x <;> rw [hx] at h <;> simp only [zX] at h ⊢ <;> first | exact h | exact ⟨h,rfl⟩ | exact ⟨h,trivial⟩
 ·rename_i str sz bytes x y
  change mB sz bytes K s (s.ev x) (dG str (s.ev y)) at h
  show mB sz bytes (fun u s'=>K u s' /\ s'.H = s.H) s (s.ev x) (dG str (s.ev y))
  cases hy : dG str (s.ev y) with
  | none=>rw [hy] at h;exact h
  | some ys =>
   rw [hy] at h
   refine ⟨h.1,?_⟩
   have h2:=h.2
   cases hx : s.ev x with
   | nils =>
    rw [hx] at h2
    simp only at h2 ⊢
    split
    ·rename_i e;rw [if_pos e] at h2;first | exact ⟨h2,rfl⟩ | exact ⟨h2,trivial⟩
    ·rename_i e;rw [if_neg e] at h2;first | exact ⟨h2.1,h2.2.1,h2.2.2,rfl⟩ | exact ⟨h2.1,h2.2.1,h2.2.2,trivial⟩
   | e0 =>
    rw [hx] at h2
    simp only at h2 ⊢
    split
    ·rename_i e;rw [if_pos e] at h2;first | exact ⟨h2,rfl⟩ | exact ⟨h2,trivial⟩
    ·rename_i e;rw [if_neg e] at h2;first | exact ⟨h2.1,h2.2.1,h2.2.2,rfl⟩ | exact ⟨h2.1,h2.2.1,h2.2.2,trivial⟩
   | sl t xs =>
    rw [hx] at h2
    cases t with
    | none=>exact h2
    | some t=>first | exact ⟨h2.1,h2.2.1,h2.2.2.1,h2.2.2.2.1,h2.2.2.2.2,rfl⟩ | exact ⟨h2.1,h2.2.1,h2.2.2.1,h2.2.2.2.1,h2.2.2.2.2,trivial⟩
   | _=>rw [hx] at h2;exact h2
def OJ : O -> Bool
 | .rawAt _ _ | .fillAt _ _ _ _=>true
 | _=>false
theorem J9 {o : O} {j : Nat} {i : I} (hi : i.o = o) (ha : zW i = some j) {s : S} {K : D -> S -> Prop} (h : WO X o s K) :
  ∃ (b u : Ob) (r : D),b.blank = true /\ (OJ o = true -> j <= s.H.length) /\ (OJ o = false -> b = .hole) /\ (u.blank = true -> OJ o = true) /\ u ≠ .hole /\ s.H[s.H.length - j]? = some b /\ K r ⟨s.t,s.H.set (s.H.length - j) u,s.T⟩ ∧
   ∀ s' : S,s'.H.length = s.H.length -> s'.H[s.H.length - j]? = some b -> (∀ r ∈ o.rds,s'.ev r = s.ev r) -> ∀ K' : D -> S -> Prop,K' r ⟨s'.t,s'.H.set (s.H.length - j) u,s'.T⟩ -> WO X o s' K':=by
 obtain ⟨d,g,oo⟩:=i
 simp only at hi
 subst hi
 cases g with
 | some p=>cases oo <;> simp [zW] at ha
 | none =>
  cases oo <;> simp [zW] at ha
  ·rename_i j' z
   subst ha
   change atK K s (s.H.length - j') z s.H[s.H.length - j']? at h
   obtain ⟨h1,h2⟩:=Dc h
   refine ⟨.hole,.row z,_,rfl,fun h=>(by cases h),fun _=>rfl,fun h=>(by cases h),(by simp),h1,h2,fun s' hl hh _ K' hk=>?_⟩
   show atK K' s' (s'.H.length - j') z s'.H[s'.H.length - j']?
   rw [hl,hh];exact hk
  ·rename_i j' z
   subst ha
   obtain ⟨h0,h⟩:=h
   obtain ⟨h1,h2⟩:=IL h
   refine ⟨.hole,.raw z,_,rfl,fun _=>h0,fun h=>(by cases h),fun _=>rfl,(by simp),h1,h2,fun s' hl hh _ K' hk=>?_⟩
   show _ /\ zP K' s' (s'.H.length - j') z s'.H[s'.H.length - j']?
   rw [hl,hh];exact ⟨h0,hk⟩
  ·rename_i j' n x y
   subst ha
   obtain ⟨h0,h⟩:=h
   obtain ⟨z,h1,q1,q2,q3,q4,h2⟩:=BZ h
   refine ⟨.raw z,.row (s.ev y).cells,_,rfl,fun _=>h0,fun h=>(by cases h),fun h=>(by cases h),(by simp),h1,h2,fun s' hl hh hev K' hk=>?_⟩
   have e1:=hev x (by simp [O.rds])
   have e2:=hev y (by simp [O.rds])
   show _ /\ tB K' s' (s'.H.length - j') n (s'.ev x) (s'.ev y) s'.H[s'.H.length - j']?
   rw [hl,hh,e1,e2];exact ⟨h0,q1,q2,q3,q4,hk⟩
  ·rename_i j' x
   subst ha
   obtain ⟨hk0,h⟩:=h
   obtain ⟨h1,h2⟩:=Dc h
   refine ⟨.hole,.row (s.ev x).cells,_,rfl,fun h=>(by cases h),fun _=>rfl,fun h=>(by cases h),(by simp),h1,h2,fun s' hl hh hev K' hk=>?_⟩
   have e:=hev x (by simp [O.rds])
   show _ /\ atK K' s' (s'.H.length - j') (s'.ev x).cells s'.H[s'.H.length - j']?
   rw [hl,hh,e];exact ⟨hk0,hk⟩
theorem Ch {i : I} {j : Nat} (ha : zW i = some j) (s : S) : gd s i.g = some true:=by
 obtain ⟨d,g,oo⟩:=i
 cases g with
 | some p=>cases oo <;> simp [zW] at ha
 | none=>rfl
theorem Iu {i : I} {s : S} {K K' : S -> Prop} (hX : uL X) (h : WI X i s K) (hk : ∀ u H T,K ((⟨s.t,H,T⟩ : S).put i.d u) -> K' ((⟨s.t,H,T⟩ : S).put i.d u)) : WI X i s K':=by
 unfold WI WIk at *
 split
 ·rename_i hg;rw [hg] at h;exact uT hX rfl rfl (fun _ _=>rfl) (fun u H T h=>hk u H T h) h
 ·rename_i hg;rw [hg] at h;exact hk (.tup []) s.H s.T h
 ·rename_i hg;rw [hg] at h;exact h
theorem Gi (hX : uL X) {i : Nat} {v : D} (hq : gV (sl i).o = true) {S : Array Bool} (hclosed : ∀ k ∈ ready ops S,k = i) (hSi : S.getD i true = false) : ∀ (fuel : Nat) (listed : Array Bool) (s : GP.S),
  uH listed S -> (∀ j,S.getD j false = true -> listed.getD j false = false -> okQ S sl st i j = true) -> i ∈ ready ops listed -> Y X (sl i) v s -> (st i) = [] →
  CK X ops sl st R fuel (listed.setIfInBounds i true) (s.put (sl i).d v) -> CK X ops sl st R (fuel + 1) listed s:=by
 intro fuel
 induction fuel with
 | zero =>
  intro listed s hw hok hr hy hst H
  refine ⟨fun h=>(by rw [h] at hr;cases hr),fun j hj=>?_⟩
  by_cases hji : j = i
  ·subst hji
   refine hy.wi ⟨?_,H⟩
   rw [hst];intro k hk;cases hk
  ·have:=ready_mono (md:=.any) hj hji
   have h0:=H.1
   unfold ready at h0
   rw [h0] at this
   cases this
 | succ fuel ih =>
  intro listed s hw hok hr hy hst H
  refine ⟨fun h=>(by rw [h] at hr;cases hr),fun j hj=>?_⟩
  by_cases hji : j = i
  ·subst hji
   refine hy.wi ⟨?_,H⟩
   rw [hst];intro k hk;cases hk
  ·have hSj:=vI hw hclosed hj hji
   have hjun:=(BW hj).2
   have hokj:=hok j hSj (dO hjun)
   unfold okQ at hokj
   simp only [Bool.and_eq_true] at hokj
   obtain ⟨⟨hap,hcase⟩,hst'⟩:=hokj
   obtain ⟨a1,a2,a3⟩:=zF hap
   have hj' : j ∈ ready ops (listed.setIfInBounds i true):=ready_mono (md:=.any) hj hji
   have h1:=RR hX a1 a2 (H.2 j hj')
   have hiun:=(BW hr).2
   have next : ∀ s' : GP.S,Y X (sl i) v s' -> yB X sl (st j) (listed.setIfInBounds i true) (s'.put (sl i).d v) /\ CK X ops sl st R fuel ((listed.setIfInBounds i true).setIfInBounds j true) (s'.put (sl i).d v) →
     yB X sl (st j) listed s' /\ CK X ops sl st R (fuel + 1) (listed.setIfInBounds j true) s':=by
    intro s' hy' hh
    refine ⟨H6 hX hiun hw hst' hh.1,ih _ s' (Ak hw hSj) ?_ (ready_mono (md:=.any) hr (Ne.symm hji)) hy' hst ?_⟩
    ·intro k hk hl
     refine hok k hk ?_
     by_cases e : j = k
     ·subst e;exact dO hjun
     ·rwa [getD_set_ne false e] at hl
    ·rw [Array.setIfInBounds_comm _ _ hji];exact hh.2
   have same : ∀ (u : D) (H' : Hp) (T' : Tk),(nU (sl i).o = true -> H' = s.H) -> Y X (sl i) v ((⟨s.t,H',T'⟩ : GP.S).put (sl j).d u):=by
    intro u H' T' hH
    refine hy.atq hq (fun h=>by rw [(pB _ _ _).1];exact hH h) ?_ ?_
    ·rw [pF a3];rfl
    ·intro r hr'
     rw [oE a3 r hr']
     cases r <;> rfl
   simp only [Bool.or_eq_true] at hcase
   rcases hcase with (hqj | hat) | Qm
   ·obtain ⟨u,hu1,hu2⟩:=Y.of_quiet hqj h1
    exact hu1.wi (next _ (same u s.H s.T (fun _=>rfl)) hu2)
   ·obtain ⟨m,hat⟩:=Option.isSome_iff_exists.1 hat
    unfold WI WIk at h1 ⊢
    rw [Ch hat] at h1 ⊢
    obtain ⟨b,z,r0,gb,_,_,_,_,g1,g2,g3⟩:=J9 rfl hat h1
    refine g3 s rfl g1 (fun _ _=>rfl) _ ?_
    refine next _ ?_ g2
    have:=(hy.fill hq (u:=z) gb g1)
    refine Y.atq hq this (fun _=>by rw [(pB _ _ _).1]) ?_ ?_
    ·rw [pF a3]
    ·intro r hr';rw [oE a3 r hr']
   ·rcases Qm with (ht | hnd) | hstj
    ·unfold WI WIk at h1 ⊢
     split at h1
     ·have h2:=RM ht h1
      refine uT hX rfl rfl (fun _ _=>rfl) (fun u H' T' hh=>?_) h2
      exact next _ (same u H' T' (fun _=>hh.2)) hh.1
     ·exact next _ (same _ s.H s.T (fun _=>rfl)) h1
     ·exact h1.elim
    ·refine Iu hX h1 (fun u H' T' hh=>next _ (same u H' T' (fun h=>by rw [h] at hnd;cases hnd)) hh)
    ·rw [Bool.and_eq_true] at hstj
     obtain ⟨hmem,hself⟩:=hstj
     refine Iu hX h1 (fun u H' T' hh=>next _ ?_ hh)
     have hi' : i ∈ st j:=by simpa using hmem
     have hbs : (listed.setIfInBounds i true).getD i false = true:=by
      have hlt : i < listed.size:=by
       rcases Nat.lt_or_ge i listed.size with h' | h'
       ·exact h'
       ·simp [Array.getElem?_eq_none h'] at hiun
      simp [hlt]
     have hstill:=hh.1 i hi' hbs
     cases hdi : (sl i).d with
     | none=>rw [hdi] at hself;cases hself
     | some di =>
      rw [hdi] at hself
      have hself : di ∉ (sl i).looks:=by simpa using hself
      have hself' : ∀ k,some di = some k -> k ∉ (sl i).looks:=fun k hk=>by injection hk with hk;subst hk;exact hself
      unfold qH at hstill
      rw [hdi,pF hself'] at hstill
      have hg0 : gd ((⟨s.t,H',T'⟩ : GP.S).put (sl j).d u) (sl i).g = gd s (sl i).g:=by rw [pF a3];rfl
      rw [hg0] at hstill
      rcases hy with ⟨y1,y2⟩ | ⟨y1,y2⟩
      ·rw [y1] at hstill
       simp only at hstill
       have hv : (((⟨s.t,H',T'⟩ : GP.S).put (sl j).d u).put (some di) v).t di = v:=by show upd _ _ _ _ = _;simp [upd]
       rw [hv] at hstill
       obtain ⟨v',w1,w2⟩:=F1 hq hstill
       subst w2
       have hY : Y X (sl i) v' (((⟨s.t,H',T'⟩ : GP.S).put (sl j).d u).put (some di) v'):=.inl ⟨by rw [pF hself',hg0];exact y1,w1⟩
       refine hY.atq hq (fun _=>by rw [(pB _ (some di) v').1]) (by rw [pF hself']) (fun r hr'=>?_)
       rw [oE hself' r hr']
      ·exact .inr ⟨by rw [hg0];exact y1,y2⟩
theorem MQ (hX : uL X) {i m : Nat} (ha : zW (sl i) = some m) {S : Array Bool} (hclosed : ∀ k ∈ ready ops S,k = i) : ∀ (fuel : Nat) (listed : Array Bool) (s : GP.S),
  uH listed S -> (∀ j,S.getD j false = true -> listed.getD j false = false -> okA sl st i j = true) -> i ∈ ready ops listed -> (st i) = [] →
  WI X (sl i) s (fun s'=>CK X ops sl st R fuel (listed.setIfInBounds i true) s') -> CK X ops sl st R (fuel + 1) listed s:=by
 intro fuel
 induction fuel with
 | zero =>
  intro listed s hw hok hr hst H
  refine ⟨fun h=>(by rw [h] at hr;cases hr),fun j hj=>?_⟩
  by_cases hji : j = i
  ·subst hji
   refine rD hX (fun s' h=>⟨?_,h⟩) H
   rw [hst];intro k hk;cases hk
  ·exfalso
   have:=ready_mono (md:=.any) hj hji
   unfold WI WIk at H
   rw [Ch ha] at H
   obtain ⟨b,z,r0,gb,_,_,_,_,g1,g2,g3⟩:=J9 rfl ha H
   have h0:=g2.1
   unfold ready at h0
   rw [h0] at this
   cases this
 | succ fuel ih =>
  intro listed s hw hok hr hst H
  refine ⟨fun h=>(by rw [h] at hr;cases hr),fun j hj=>?_⟩
  by_cases hji : j = i
  ·subst hji
   refine rD hX (fun s' h=>⟨?_,h⟩) H
   rw [hst];intro k hk;cases hk
  ·have hSj:=vI hw hclosed hj hji
   have hjun:=(BW hj).2
   have hokj:=hok j hSj (dO hjun)
   unfold okA at hokj
   simp only [Bool.and_eq_true,bne_iff_ne,ne_eq] at hokj
   obtain ⟨⟨⟨hap,hat⟩,hne⟩,hstj⟩:=hokj
   obtain ⟨a1,a2,a3⟩:=zF hap
   obtain ⟨m',hat⟩:=Option.isSome_iff_exists.1 hat
   have hmm : m' ≠ m:=fun e=>hne (by rw [hat,ha,e])
   have hj' : j ∈ ready ops (listed.setIfInBounds i true):=ready_mono (md:=.any) hj hji
   unfold WI WIk at H
   rw [Ch ha] at H
   obtain ⟨b,z,r0,gb,gl,gh,gn,gnh,g1,g2,g3⟩:=J9 rfl ha H
   have h1:=g2.2 j hj'
   unfold WI WIk at h1
   rw [Ch hat] at h1
   obtain ⟨b',z',r',kb,kl,kh,kn,knh,k1,k2,k3⟩:=J9 rfl hat h1
   have hlen : ((⟨s.t,s.H.set (s.H.length - m) z,s.T⟩ : GP.S).put (sl i).d r0).H.length = s.H.length:=by rw [(pB _ _ _).1];simp
   rw [hlen] at k1 k2 k3 kl
   rw [(pB _ _ _).1] at k1
   have hpl : s.H.length - m' ≠ s.H.length - m:=by
    intro e
    rw [e] at k1
    have hlt : s.H.length - m < s.H.length:=by
     rcases Nat.lt_or_ge (s.H.length - m) s.H.length with h' | h'
     ·exact h'
     ·rw [List.getElem?_eq_none h'] at g1;cases g1
    rw [List.getElem?_set_self hlt] at k1
    injection k1 with k1
    subst k1
    have p1:=gl (gn kb)
    cases hp : OJ (sl j).o with
    | true=>have:=kl hp;omega
    | false =>
     exact gnh (kh hp)
   rw [List.getElem?_set_ne (Ne.symm hpl)] at k1
   unfold WI WIk
   rw [Ch hat]
   have hev : ∀ r ∈ (sl j).o.rds,s.ev r = ((⟨s.t,s.H.set (s.H.length - m) z,s.T⟩ : GP.S).put (sl i).d r0).ev r:=by
    intro r hr'
    rw [oE a1 r hr']
    cases r <;> rfl
   refine k3 s rfl k1 hev _ ⟨?_,?_⟩
   ·have : st j = []:=by simpa using hstj
    rw [this];intro k hk;cases hk
   ·refine ih _ _ (Ak hw hSj) ?_ (ready_mono (md:=.any) hr (Ne.symm hji)) hst ?_
    ·intro k hk hl
     refine hok k hk ?_
     by_cases e : j = k
     ·subst e;exact dO hjun
     ·rwa [getD_set_ne false e] at hl
    ·unfold WI WIk
     rw [Ch ha]
     have hl2 : ((⟨s.t,s.H.set (s.H.length - m') z',s.T⟩ : GP.S).put (sl j).d r').H.length = s.H.length:=by rw [(pB _ _ _).1];simp
     have hh2 : ((⟨s.t,s.H.set (s.H.length - m') z',s.T⟩ : GP.S).put (sl j).d r').H[s.H.length - m]? = some b:=by
      rw [(pB _ _ _).1]
      show (s.H.set _ _)[_]? = _
      rw [List.getElem?_set_ne hpl];exact g1
     refine g3 _ hl2 hh2 (fun r hr'=>?_) _ ?_
     ·rw [oE a3 r hr'];cases r <;> rfl
     ·have hfin:=k2.2
      rw [Array.setIfInBounds_comm _ _ hji]
      have e : ((⟨((⟨s.t,s.H.set (s.H.length - m') z',s.T⟩ : GP.S).put (sl j).d r').t,((⟨s.t,s.H.set (s.H.length - m') z',s.T⟩ : GP.S).put (sl j).d r').H.set (s.H.length - m) z,
        ((⟨s.t,s.H.set (s.H.length - m') z',s.T⟩ : GP.S).put (sl j).d r').T⟩ : GP.S).put (sl i).d r0) =
       ((⟨((⟨s.t,s.H.set (s.H.length - m) z,s.T⟩ : GP.S).put (sl i).d r0).t,((⟨s.t,s.H.set (s.H.length - m) z,s.T⟩ : GP.S).put (sl i).d r0).H.set (s.H.length - m') z',
        ((⟨s.t,s.H.set (s.H.length - m) z,s.T⟩ : GP.S).put (sl i).d r0).T⟩ : GP.S).put (sl j).d r'):=by
       have c1 : (s.H.set (s.H.length - m') z').set (s.H.length - m) z = (s.H.set (s.H.length - m) z).set (s.H.length - m') z':=List.set_comm _ _ hpl
       cases hdi : (sl i).d with
       | none =>
        cases hdj : (sl j).d with
        | none=>show GP.S.mk s.t ((s.H.set (s.H.length - m') z').set (s.H.length - m) z) s.T = GP.S.mk s.t ((s.H.set (s.H.length - m) z).set (s.H.length - m') z') s.T;rw [c1]
        | some dj=>show GP.S.mk (upd s.t dj r') ((s.H.set (s.H.length - m') z').set (s.H.length - m) z) s.T = GP.S.mk (upd s.t dj r') ((s.H.set (s.H.length - m) z).set (s.H.length - m') z') s.T;rw [c1]
       | some di =>
        cases hdj : (sl j).d with
        | none=>show GP.S.mk (upd s.t di r0) ((s.H.set (s.H.length - m') z').set (s.H.length - m) z) s.T = GP.S.mk (upd s.t di r0) ((s.H.set (s.H.length - m) z).set (s.H.length - m') z') s.T;rw [c1]
        | some dj =>
         have hdd : di ≠ dj:=fun e=>a2 di hdi (by rw [hdj,e])
         show GP.S.mk (upd (upd s.t dj r') di r0) ((s.H.set (s.H.length - m') z').set (s.H.length - m) z) s.T = GP.S.mk (upd (upd s.t di r0) dj r') ((s.H.set (s.H.length - m) z).set (s.H.length - m') z') s.T
         rw [c1]
         congr 1
         funext x
         simp only [upd]
         split
         ·rename_i e1;rw [if_neg (by omega)]
         ·rfl
      rw [e]
      exact hfin
theorem Hd {ks : List Nat} {listed : Array Bool} {s : GP.S} (h : eI X (ks.map sl) s) : yB X sl ks listed s:=by
 induction ks with
 | nil=>intro k hk;cases hk
 | cons a ks ih =>
  intro k hk hl
  simp only [List.map_cons,eI] at h
  rcases List.mem_cons.1 hk with e | hk
  ·subst e;exact h.1
  ·exact ih h.2 k hk hl
theorem Cp (hX : uL X) : ∀ (ord : List Nat) (listed : Array Bool) (s : GP.S),chk ops sl st ord listed = true -> Wd X (ord.map fun i=>(sl i,(st i).map sl)) R s -> CK X ops sl st R ord.length listed s
 | [],listed,s,hc,h=>⟨by simpa [chk] using hc,h⟩
 | i :: ord,listed,s,hc,h=>by
  simp only [chk,Bool.and_eq_true] at hc
  obtain ⟨⟨hr,hrec⟩,hcase⟩:=hc
  have hr : i ∈ ready ops listed:=by simpa using hr
  have hrest : ∀ s',Wd X (ord.map fun i=>(sl i,(st i).map sl)) R s' -> CK X ops sl st R ord.length (listed.setIfInBounds i true) s':=fun s' h'=>Cp hX ord _ s' hrec h'
  simp only [List.map_cons,Wd] at h
  simp only [List.length_cons]
  split at hcase
  ·rename_i hq
   simp only [Bool.and_eq_true] at hcase
   obtain ⟨⟨hcl,hst⟩,hall⟩:=hcase
   obtain ⟨c1,c2,c3⟩:=tA hcl
   obtain ⟨v,y1,y2⟩:=Y.of_quiet hq h
   refine Gi hX hq c3 c2 _ _ _ c1 ?_ hr y1 (by simpa using hst) (hrest _ y2.2)
   intro j hj hl
   have hlt : j < listed.size:=by
    rcases Nat.lt_or_ge j listed.size with h' | h'
    ·exact h'
    ·rw [c1.1] at h'
     simp [Array.getElem?_eq_none h'] at hj
   have:=List.all_eq_true.1 hall j (by simpa using hlt)
   simpa [hj,hl] using this
  ·rename_i hq
   split at hcase
   ·rename_i m ha
    simp only [Bool.and_eq_true] at hcase
    obtain ⟨⟨hcl,hst⟩,hall⟩:=hcase
    obtain ⟨c1,c2,c3⟩:=tA hcl
    refine MQ hX ha c3 _ _ _ c1 ?_ hr (by simpa using hst) (rD hX (fun s' h'=>hrest s' h'.2) h)
    intro j hj hl
    have hlt : j < listed.size:=by
     rcases Nat.lt_or_ge j listed.size with h' | h'
     ·exact h'
     ·rw [c1.1] at h'
      simp [Array.getElem?_eq_none h'] at hj
    have:=List.all_eq_true.1 hall j (by simpa using hlt)
    simpa [hj,hl] using this
   ·have he : ready ops listed = [i]:=by simpa using hcase
    refine ⟨fun h'=>(by rw [h'] at hr;cases hr),fun j hj=>?_⟩
    rw [he] at hj
    have : j = i:=by simpa using hj
    subst this
    exact rD hX (fun s' h'=>⟨Hd h'.1,hrest s' h'.2⟩) h
end GP
namespace GP
open Go
variable {P : Program} {imp : Hn}
def Oa : Op -> Bool
 | .alloc _ | .box _ _=>true
 | _=>false
def BG (ops : Array Oper) (i : Nat) : Nat:=((List.range i).filter fun k=>match ops[k]? with | some o=>Oa o.op | none=>false).length
def Qm : O -> Bool
 | .store _ _ _ | .call _ _ | .appm _ _ _ _ _ _ | .bslm _ _ _ | .copy _ _ _ | .clr _ _ | .mkm _ _ _ _ _ _ | .appz _ _ _ _ _ _ | .mkmap | .mput _ _ _ _ | .ment _ _ _ _ | .mst _ _ _=>true
 | _=>false
def Ni (ops : Array Oper) (xs : List I) (i : Nat) : Option Nat :=
 match ops[i]? with
 | some o =>
  match o.op with
  | .alloc _=>match o.dst,o.guard with
   | some d,none=>match (List.range ops.size).filter (fun k=>(xs.getD k default).looks.contains d) with
    | [k]=>match xs.getD k default with
     | ⟨_,none,.store _ (.t d') v⟩=>if d' == d && (match v with | .t e=>e != d | .k _=>true) then some i else none
     | _=>none
    | _=>none
   | _,_=>none
  | .store _ (.tmp d) _=>(List.range ops.size).find? (fun k=>match ops[k]? with
   | some a=>(match a.op with | .alloc _=>true | _=>false) && a.dst == some d
   | none=>false)
  | _=>none
 | none=>none
def R9 (imp : Hn) (ops : Array Oper) (fl : Nat -> Option Nat) (na i : Nat) : Pl:=⟨na - BG ops i,(fl i).map fun k=>na - BG ops k,imp.lit⟩
def LP (P : Program) (imp : Hn) (ops : Array Oper) (fl : Nat -> Option Nat) (n na : Nat) : List Nat -> Option (List I)
 | []=>some []
 | i :: is=>match ops[i]? with
  | some o=>match cI P imp true (R9 imp ops fl na i) ops n o,LP P imp ops fl n na is with
   | some x,some xs=>some (x :: xs)
   | _,_=>none
  | none=>none
theorem Eh {ops : Array Oper} {fl : Nat -> Option Nat} {n na : Nat} : ∀ {is : List Nat} {xs : List I},LP P imp ops fl n na is = some xs -> ∀ (k i : Nat),is[k]? = some i -> ∃ o x,ops[i]? = some o /\ xs[k]? = some x /\ cI P imp true (R9 imp ops fl na i) ops n o = some x
 | [],xs,h,k,i,hk=>by simp at hk
 | j :: is,xs,h,k,i,hk=>by
  simp only [LP] at h
  split at h
  ·rename_i o ho
   split at h
   ·rename_i x xs' h1 h2
    injection h with h;subst h
    cases k with
    | zero=>simp at hk;subst hk;exact ⟨o,x,ho,rfl,h1⟩
    | succ k=>exact Eh h2 k i (by simpa using hk)
   ·cases h
  ·cases h
def DQ (ops : Array Oper) (sl : Nat -> I) : Nat -> Array Bool -> List Nat
 | 0,_=>[]
 | f + 1,listed =>
  let r:=ready ops listed
  match r.find? (fun i=>gV (sl i).o) with
  | some i=>i :: DQ ops sl f (listed.setIfInBounds i true)
  | none=>match r.find? (fun i=>(zW (sl i)).isSome) with
   | some i=>i :: DQ ops sl f (listed.setIfInBounds i true)
   | none=>match r with
    | i :: _=>i :: DQ ops sl f (listed.setIfInBounds i true)
    | []=>[]
def A1C (ops : Array Oper) (bef : Array Nat) (sl : Nat -> I) (i : Nat) : List Nat :=
 if Qm (sl i).o then (List.range ops.size).filter fun k=>k != i && gV (sl k).o && nU (sl k).o && !(bef.getD i 0).testBit k && !(bef.getD k 0).testBit i else []
def BA (P : Program) (imp : Hn) (n : Nat) (ops : Array Oper) (fl : Nat -> Option Nat) : Option (Nat × List (I × List I)) :=
 let na:=BG ops ops.size
 match LP P imp ops fl n na (List.range ops.size) with
 | none=>none
 | some xs =>
  let sl:=fun i=>xs.getD i default
  let bef:=Region.before ops
  let st:=A1C ops bef sl
  let ord:=DQ ops sl ops.size (Array.replicate ops.size false)
  if chk ops sl st ord (Array.replicate ops.size false) && (ord.length == ops.size) && P.follows .mixedOrders then some (na,ord.map fun i=>(sl i,(st i).map sl)) else none
def TP (ops : Array Oper) (xs : List I) : List (Option Nat) :=
 let fs:=(List.range ops.size).map (Ni ops xs)
 (List.range ops.size).map fun i=>match fs.getD i none with
  | some k=>match fs.getD k none with
   | some _=>some k
   | none=>none
  | none=>none
def Ms (P : Program) (imp : Hn) (n : Nat) (ops : Array Oper) : Option (Nat × List (I × List I)) :=
 match LP P imp ops (fun _=>none) n (BG ops ops.size) (List.range ops.size) with
 | none=>none
 | some xs =>
  let fl:=TP ops xs
  if fl.any Option.isSome then match BA P imp n ops (fun i=>fl.getD i none) with
   | some r=>some r
   | none=>BA P imp n ops (fun _=>none)
  else BA P imp n ops (fun _=>none)
theorem Cl [HasG P] {ops : Array Oper} {fl : Nat -> Option Nat} {n na : Nat} {sl : Nat -> I} {st : Nat -> List Nat} (hsl : ∀ i o,ops[i]? = some o -> cI P imp true (R9 imp ops fl na i) ops n o = some (sl i)) {R : S -> Prop} {c0 : Cx} {w0 : World} {Q : Exit -> Act -> World -> Prop}
  (hG : HasG.G P c0 w0) (hR : ∀ a' w',Nx n c0 w0 R a' w' -> Q .normal a' w') : ∀ (fuel : Nat) (listed : Array Bool) (c : Cx) (s : S) (a : Act) (w : World),CK (Snd P) ops sl st R fuel listed s -> Sim c s a w -> c0.le c -> Below c0.bb w0 w -> a.tmps.size = n -> a.defers = [] →
  wpAny P .any ops Q fuel listed a w
 | 0,listed,c,s,a,w,h,hs,hle,hb,hn,hd=>⟨h.1,hR _ _ ⟨s,c,h.2,hs,hle,hb,hn,hd⟩⟩
 | fuel + 1,listed,c,s,a,w,h,hs,hle,hb,hn,hd=>by
  refine ⟨fun h0=>hR _ _ ⟨s,c,h.1 h0,hs,hle,hb,hn,hd⟩,fun i hi=>?_⟩
  have hW:=h.2 i hi
  obtain ⟨_,o,ho,_⟩:=mem_ready.1 hi
  refine z7 (X:=Snd P) (fun _ _ _ _ _ h=>h) ho (hsl i o ho) hG hs hle hb hn hd hW ?_
  rintro a' w' ⟨s',c',k1,k2,k3,k4,k5,k6⟩
  exact Cl hsl hG hR fuel _ c' s' a' w' k1.2 k2 k3 k4 k5 k6
theorem Inv.holes {c : Cx} {w : World} {H : Hp} (k : Inv c w H) (na : Nat) : Inv c w (H ++ List.replicate na .hole):=by
 have key : ∀ (o : Nat) x,(H ++ List.replicate na Ob.hole)[o]? = some x -> H[o]? = some x ∨ x = .hole:=by
  intro o x h
  rcases Nat.lt_or_ge o H.length with h' | h'
  ·rw [List.getElem?_append_left h'] at h;exact .inl h
  ·rw [List.getElem?_append_right h'] at h
   exact .inr (List.eq_of_mem_replicate (List.mem_of_getElem? h))
 refine ⟨k.keep,k.low,?_,?_,?_,?_,?_,?_,k.tok,?_,k.toks⟩
 ·intro o x cs h hx
  rcases key o _ h with h | h
  ·exact k.row o x cs h hx
  ·subst h;cases hx
 ·intro o h
  refine k.free o ?_
  rcases h with h | h
  ·exact .inl (by simp at h;omega)
  ·rcases Nat.lt_or_ge o H.length with h' | h'
   ·rw [List.getElem?_append_left h'] at h;exact .inr h
   ·exact .inl h'
 ·intro o x h hx
  rcases key o _ h with h | h
  ·exact k.own o x h hx
  ·subst h;cases hx
 ·intro o o' x x' h h' hx hx' he
  rcases key o _ h with h | h
  ·rcases key o' _ h' with h' | h'
   ·exact k.apart o o' x x' h h' hx hx' he
   ·subst h';cases hx'
  ·subst h;cases hx
 ·intro o es clk h
  rcases key o _ h with h | h
  ·exact k.map o es clk h
  ·cases h
 ·intro o m l h
  rcases key o _ h with h | h
  ·exact k.iter o m l h
  ·cases h
 ·intro τ n z o x hτ h hx
  rcases key o _ h with h | h
  ·exact k.tokrow τ n z o x hτ h hx
  ·subst h;cases hx
theorem pG [HasG P] {id n : Nat} {ops : Array Oper} {fl : Nat -> Option Nat} {na : Nat} {js : List (I × List I)} (h : BA P imp n ops fl = some (na,js)) {R : S -> Prop} {c0 c : Cx} {w0 w : World} {s : S} {a : Act} {Q : Exit -> Act -> World -> Prop}
  (hG : HasG.G P c0 w0) (hR : ∀ a' w',Nx n c0 w0 R a' w' -> Q .normal a' w') (hW : Wd (Snd P) js R ⟨s.t,s.H ++ List.replicate na .hole,s.T⟩) (hs : Sim c s a w) (hle : c0.le c) (hb : Below c0.bb w0 w) (hn : a.tmps.size = n) (hd : a.defers = []) :
  (Code.region id ops true).wp P Q a w:=by
 unfold BA at h
 simp only at h
 split at h
 ·cases h
 ·rename_i xs hxs
  split at h
  ·rename_i hc
   simp only [Bool.and_eq_true,beq_iff_eq] at hc
   obtain ⟨⟨h1,h2⟩,h3⟩:=hc
   injection h with h;injection h with e1 e2
   subst e1;subst e2
   refine wp_region_any h3 ?_
   have:=Cp (X:=Snd P) (R:=R) Snd.mono _ _ _ h1 hW
   rw [h2] at this
   refine Cl (P:=P) (imp:=imp) (fl:=fl) (na:=BG ops ops.size) ?_ hG hR _ _ c _ a _ this ⟨hs.T,Inv.congr (w:=w) (w':={ w with drawn:=w.drawn + 1 }) rfl (hs.inv.holes _),hs.fr⟩ hle (hb.trans (Below.refl _ _).drew) hn hd
   intro i o ho
   have hlt : i < ops.size:=by
    rcases Nat.lt_or_ge i ops.size with h' | h'
    ·exact h'
    ·simp [Array.getElem?_eq_none h'] at ho
   obtain ⟨o',x,g1,g2,g3⟩:=Eh hxs i i (by simp [hlt])
   rw [ho] at g1;injection g1 with g1;subst g1
   rw [g3]
   simp [List.getD,g2]
  ·cases h
theorem Ht [HasG P] {id n : Nat} {ops : Array Oper} {na : Nat} {js : List (I × List I)} (h : Ms P imp n ops = some (na,js)) {R : S -> Prop} {c0 c : Cx} {w0 w : World} {s : S} {a : Act} {Q : Exit -> Act -> World -> Prop}
  (hG : HasG.G P c0 w0) (hR : ∀ a' w',Nx n c0 w0 R a' w' -> Q .normal a' w') (hW : Wd (Snd P) js R ⟨s.t,s.H ++ List.replicate na .hole,s.T⟩) (hs : Sim c s a w) (hle : c0.le c) (hb : Below c0.bb w0 w) (hn : a.tmps.size = n) (hd : a.defers = []) :
  (Code.region id ops true).wp P Q a w:=by
 unfold Ms at h
 split at h
 ·cases h
 ·rename_i xs hxs
  simp only at h
  split at h
  ·split at h
   ·rename_i r hr
    injection h with h;subst h
    exact pG hr hG hR hW hs hle hb hn hd
   ·exact pG h hG hR hW hs hle hb hn hd
  ·exact pG h hG hR hW hs hle hb hn hd
def cIs (P : Program) (imp : Hn) (ops : Array Oper) (n : Nat) : List Nat -> Option (List I)
 | []=>some []
 | i :: is=>match ops[i]? with
  | some o=>match cI P imp false ⟨0,none,false⟩ ops n o,cIs P imp ops n is with
   | some x,some xs=>some (x :: xs)
   | _,_=>none
  | none=>none
def jA (P : Program) (imp : Hn) (n : Nat) : Code -> Option C
 | .skip=>some .skip
 | .region _ ops dr=>if dr then match Ms P imp n ops with
   | some (na,js)=>some (.draw na js)
   | none=>some .stop
  else match cIs P imp ops n (List.range ops.size) with
   | some is=>some (.reg is)
   | none=>some .stop
 | .seq a b=>match jA P imp n a,jA P imp n b with
  | some x,some y=>some (.seq x y)
  | _,_=>none
 | .cond c a b=>match cRd c,jA P imp n a,jA P imp n b with
  | some r,some x,some y=>some (.cond r x y)
  | _,_,_=>some .stop
 | .block i c=>match jA P imp n c with
  | some x=>some (.block i x)
  | none=>none
 | .loop c=>match jA P imp n c with
  | some x=>some (.loop x)
  | none=>none
 | .exit i=>some (.exit i)
 | .ret=>some .ret
 | _=>some .stop
theorem Cq [HasG P] {ops : Array Oper} {n : Nat} {R : S -> Prop} {c0 : Cx} {w0 : World} {Q : Exit -> Act -> World -> Prop} (hG : HasG.G P c0 w0) (hR : ∀ a' w',Nx n c0 w0 R a' w' -> Q .normal a' w') : ∀ (l : List Nat) (is : List I),cIs P imp ops n l = some is →
  ∀ (c : Cx) (s : S) (a : Act) (w : World),Wr (Snd P) is R s -> Sim c s a w -> c0.le c -> Below c0.bb w0 w -> a.tmps.size = n -> a.defers = [] -> wpOps P ops Q l a w
 | [],is,h,c,s,a,w,hW,hs,hle,hb,hn,hd=>by
  simp [cIs] at h;subst h
  exact hR _ _ ⟨s,c,hW,hs,hle,hb,hn,hd⟩
 | i :: l,is,h,c,s,a,w,hW,hs,hle,hb,hn,hd=>by
  simp only [cIs] at h
  split at h
  ·rename_i o ho
   split at h
   ·rename_i x xs h1 h2
    injection h with h;subst h
    rw [wpOps_cons]
    refine z7 (X:=Snd P) (fun _ _ _ _ _ h=>h) ho h1 hG hs hle hb hn hd hW ?_
    rintro a' w' ⟨s',c',k1,k2,k3,k4,k5,k6⟩
    exact Cq hG hR l xs h2 c' s' a' w' k1 k2 k3 k4 k5 k6
   ·cases h
  ·cases h
def exQ (Q : Ex -> S -> Prop) : Exit -> S -> Prop
 | .normal,s=>Q .normal s
 | .exit i,s=>Q (.exit i) s
 | .ret,s=>Q .ret s
 | _,_=>False
def QC (n : Nat) (c0 : Cx) (w0 : World) (Q : Ex -> S -> Prop) (e : Exit) (a' : Act) (w' : World) : Prop:=Nx n c0 w0 (exQ Q e) a' w'
theorem Nh [HasG P] {n : Nat} : ∀ (code : Code) (cc : C),jA P imp n code = some cc -> ∀ (c0 : Cx) (w0 : World) (_ : HasG.G P c0 w0) (c : Cx) (s : S) (a : Act) (w : World) (Q : Ex -> S -> Prop),W (Snd P) cc Q s -> Sim c s a w -> c0.le c -> Below c0.bb w0 w -> a.tmps.size = n -> a.defers = [] →
  code.wp P (QC n c0 w0 Q) a w:=by
 intro code
 induction code with
 | skip =>
  intro cc h c0 w0 hG c s a w Q hW hs hle hb hn hd
  simp [jA] at h;subst h
  exact wp_skip ⟨s,c,hW,hs,hle,hb,hn,hd⟩
 | region id ops dr =>
  intro cc h c0 w0 hG c s a w Q hW hs hle hb hn hd
  simp only [jA] at h
  cases dr with
  | true =>
   simp only [if_true] at h
   split at h
   ·rename_i na js hdr
    injection h with h;subst h
    exact Ht (P:=P) (imp:=imp) hdr (R:=Q .normal) hG (fun a' w' h=>h) (by simpa only [W] using hW) hs hle hb hn hd
   ·injection h with h;subst h
    exact (show False by simpa only [W] using hW).elim
  | false =>
   simp only [Bool.false_eq_true,if_false] at h
   split at h
   ·rename_i is his
    injection h with h;subst h
    exact wp_region (Cq (P:=P) (imp:=imp) (R:=Q .normal) hG (fun a' w' h=>h) _ is his c s a w (by simpa only [W] using hW) hs hle hb hn hd)
   ·injection h with h;subst h
    exact (show False by simpa only [W] using hW).elim
 | seq x y ihx ihy =>
  intro cc h c0 w0 hG c s a w Q hW hs hle hb hn hd
  simp only [jA] at h
  split at h
  ·rename_i cx cy hx hy
   injection h with h;subst h
   simp only [W] at hW
   refine wp_seq (wp_mono (ihx cx hx c0 w0 hG c s a w _ hW hs hle hb hn hd) ?_)
   rintro e a' w' ⟨s',c',k1,k2,k3,k4,k5,k6⟩
   cases e with
   | normal=>exact ihy cy hy c0 w0 hG c' s' a' w' Q k1 k2 k3 k4 k5 k6
   | exit i=>exact ⟨s',c',k1,k2,k3,k4,k5,k6⟩
   | ret=>exact ⟨s',c',k1,k2,k3,k4,k5,k6⟩
   | goto l=>exact k1.elim
   | panic ch=>exact k1.elim
   | outgrown=>exact k1.elim
  ·cases h
 | cond x y z ihy ihz =>
  intro cc h c0 w0 hG c s a w Q hW hs hle hb hn hd
  simp only [jA] at h
  split at h
  ·rename_i r cy cz hr hy hz
   injection h with h;subst h
   simp only [W] at hW
   split at hW
   ·rename_i t ht
    have hrep:=aW hr hs.fr
    rw [ht] at hrep
    have hv : a.eval x = .bool t:=by
     generalize a.eval x = v at hrep
     cases hrep;rfl
    refine wp_cond hv ?_
    cases t
    ·exact ihz cz hz c0 w0 hG c s a w Q hW hs hle hb hn hd
    ·exact ihy cy hy c0 w0 hG c s a w Q hW hs hle hb hn hd
   ·exact hW.elim
  ·injection h with h;subst h
   exact (show False by simpa only [W] using hW).elim
 | block i x ih =>
  intro cc h c0 w0 hG c s a w Q hW hs hle hb hn hd
  simp only [jA] at h
  split at h
  ·rename_i cx hx
   injection h with h;subst h
   simp only [W] at hW
   refine wp_block (wp_mono (ih cx hx c0 w0 hG c s a w _ hW hs hle hb hn hd) ?_)
   rintro e a' w' ⟨s',c',k1,k2,k3,k4,k5,k6⟩
   cases e with
   | normal=>exact ⟨s',c',k1,k2,k3,k4,k5,k6⟩
   | exit j =>
    simp only [exQ,Ho] at k1
    simp only [Exit.inBlock]
    split
    ·rename_i e;rw [if_pos e] at k1;exact ⟨s',c',k1,k2,k3,k4,k5,k6⟩
    ·rename_i e;rw [if_neg e] at k1;exact ⟨s',c',k1,k2,k3,k4,k5,k6⟩
   | ret=>exact ⟨s',c',k1,k2,k3,k4,k5,k6⟩
   | goto l=>exact k1.elim
   | panic ch=>exact k1.elim
   | outgrown=>exact k1.elim
  ·cases h
 | loop x ih =>
  intro cc h c0 w0 hG c s a w Q hW hs hle hb hn hd
  simp only [jA] at h
  split at h
  ·rename_i cx hx
   injection h with h;subst h
   simp only [W] at hW
   obtain ⟨Iv,μ,h0,hround⟩:=hW
   refine wp_loop_ghost (fun k a' w'=>Nx n c0 w0 (fun s'=>Iv s' /\ μ s' = k) a' w') (μ s) ⟨s,c,⟨h0,rfl⟩,hs,hle,hb,hn,hd⟩ ?_
   rintro k a1 w1 ⟨s1,c1,⟨g1,g2⟩,g3,g4,g5,g6,g7⟩
   refine wp_mono (ih cx hx c0 w0 hG c1 s1 a1 w1 _ (hround s1 g1) g3 g4 g5 g6 g7) ?_
   rintro e a' w' ⟨s',c',k1,k2,k3,k4,k5,k6⟩
   cases e with
   | normal=>exact ⟨μ s',by rw [<- g2];exact k1.2,s',c',⟨k1.1,rfl⟩,k2,k3,k4,k5,k6⟩
   | exit j=>exact ⟨s',c',k1,k2,k3,k4,k5,k6⟩
   | ret=>exact ⟨s',c',k1,k2,k3,k4,k5,k6⟩
   | goto l=>exact k1.elim
   | panic ch=>exact k1.elim
   | outgrown=>exact k1.elim
  ·cases h
 | exit i =>
  intro cc h c0 w0 hG c s a w Q hW hs hle hb hn hd
  simp [jA] at h;subst h
  exact wp_exit ⟨s,c,hW,hs,hle,hb,hn,hd⟩
 | ret =>
  intro cc h c0 w0 hG c s a w Q hW hs hle hb hn hd
  simp [jA] at h;subst h
  exact wp_ret ⟨s,c,hW,hs,hle,hb,hn,hd⟩
 | _ =>
  intro cc h c0 w0 hG c s a w Q hW
  simp [jA] at h;subst h
  exact (show False by simpa only [W] using hW).elim
def p9 : List (Sum Nat (Nat × Bool × Nat)) -> S -> Option (List D)
 | [],_=>some []
 | .inl t :: l,s=>match p9 l s with
  | some ds=>some (s.t t :: ds)
  | none=>none
 | .inr (x,ag,n) :: l,s=>match ld ag n (eO s.H (s.t x)),p9 l s with
  | some d,some ds=>some (d :: ds)
  | _,_=>none
def G9 (P : Program) : List ResultVar -> Option (List (Sum Nat (Nat × Bool × Nat)))
 | []=>some []
 | .tmp t :: l=>match G9 P l with
  | some rs=>some (.inl t :: rs)
  | none=>none
 | .cell x t :: l=>match tag P t,tsz P t,G9 P l with
  | some ag,some n,some rs=>some (.inr (x,ag,n) :: rs)
  | _,_,_=>none
def HM : List D -> D
 | [d]=>d
 | ds=>.tup ds
def HA (rs : List (Sum Nat (Nat × Bool × Nat))) (Q : dM) (s : S) : Prop :=
 match p9 rs s with
 | some ds=>Q (HM ds) s.H s.T
 | none=>False
def mW (rs : List (Sum Nat (Nat × Bool × Nat))) (Q : dM) : Ex -> S -> Prop
 | .normal,s | .ret,s=>HA rs Q s
 | _,_=>False
def bF (args : List D) : Nat -> D:=fun i=>(args[i]?).getD .top
structure Fn (P : Program) (f : FuncId) (n : Nat) (rs : List (Sum Nat (Nat × Bool × Nat))) (cc : C) : Prop where
 ok : ∃ fn code, P.funcs[f]? = some fn /\ fn.body = some code /\ (fn.name == "runtime.NumGoroutine") = false /\ fn.ntmps = n /\ G9 P fn.results.toList = some rs /\ ∃ imp, jA P imp n code = some cc
theorem xS {c : Cx} {s : S} {a : Act} {w : World} (hs : Sim c s a w) : ∀ {l : List ResultVar} {rs : List (Sum Nat (Nat × Bool × Nat))} {ds : List D},G9 P l = some rs -> p9 rs s = some ds →
  ∃ vs,(l.mapM (fun r=>match r with | .tmp t=>pure (a.tmps.getD t undef) | .cell x t=>do loadVar t (← asAddr (a.tmps.getD x undef)) : ResultVar -> Sem Value)).run P w = .ok vs w /\ Reps c ds vs
 | [],rs,ds,h1,h2=>by
  simp [G9] at h1;subst h1
  simp [p9] at h2;subst h2
  exact ⟨[],by simp,Reps.nil⟩
 | .tmp t :: l,rs,ds,h1,h2=>by
  simp only [G9] at h1
  split at h1
  ·rename_i rs' h3
   injection h1 with h1;subst h1
   simp only [p9] at h2
   split at h2
   ·rename_i ds' h4
    injection h2 with h2;subst h2
    obtain ⟨vs,e1,e2⟩:=xS hs h3 h4
    refine ⟨a.tmps.getD t undef :: vs,?_,?_⟩
    ·simp only [List.mapM_cons,Sem.run_bind,Sem.run_pure,Result.andThen_ok,e1]
    ·refine ⟨by simp [e2.len],fun i h h'=>?_⟩
     cases i with
     | zero=>exact hs.fr t
     | succ i=>exact e2.rep i (by simpa using h) (by simpa using h')
   ·cases h2
  ·cases h1
 | .cell x t :: l,rs,ds,h1,h2=>by
  simp only [G9] at h1
  split at h1
  ·rename_i ag n rs' h5 h6 h3
   injection h1 with h1;subst h1
   simp only [p9] at h2
   split at h2
   ·rename_i d ds' h7 h4
    injection h2 with h2;subst h2
    obtain ⟨vs,e1,e2⟩:=xS hs h3 h4
    obtain ⟨u,e3,e4⟩:=AW (P:=P) hs.inv (hs.fr x) h5 h6 h7
    have hp : ∃ p,a.tmps.getD x undef = .pointer (some p):=by
     cases hrd : eO s.H (s.t x) with
     | none=>rw [hrd] at h7;cases h7
     | some cs =>
      obtain ⟨p,_,hp,_⟩:=ED hs.inv (hs.fr x) hrd
      exact ⟨p,hp⟩
    obtain ⟨p,hp⟩:=hp
    have hq : (asAddr (a.tmps.getD x undef)).run P w = .ok p w:=by rw [hp];rfl
    rw [hp] at e3
    have e3' : (loadVar t p).run P w = .ok u w:=by simpa [Instr.loadAt,Instr.sureAddr] using e3
    refine ⟨u :: vs,?_,?_⟩
    ·simp only [List.mapM_cons,Sem.run_bind,hq,Sem.run_pure,Result.andThen_ok,e3',e1]
    ·refine ⟨by simp [e2.len],fun i h h'=>?_⟩
     cases i with
     | zero=>exact e4
     | succ i=>exact e2.rep i (by simpa using h) (by simpa using h')
   ·cases h2
  ·cases h1
theorem Co [HasG P] {f : FuncId} {n : Nat} {rs : List (Sum Nat (Nat × Bool × Nat))} {cc : C} (hf : Fn P f n rs cc) {args : List D} (hlen : args.length <= n) {H : Hp} {T : Tk} {Q : dM} (hW : W (Snd P) cc (mW rs Q) ⟨bF args,H,T⟩) :
  ∀ (c : Cx) (w : World) (vs : List Value),HasG.G P c w -> Inv c w H -> c.T = T -> Reps c args vs -> (callFunc f vs.toArray).run P w = .ok (.enter f vs.toArray) w /\ Calls P f vs.toArray w (bJ c w Q):=by
 obtain ⟨fn,code,h1,h2,h3,h4,h5,imp,h6⟩:=hf.ok
 intro c w vs hg hi hT hr
 refine ⟨?_,?_⟩
 ·have h3' : ¬ fn.name = "runtime.NumGoroutine" := by simpa using h3
  simp [callFunc,h1,h2,h3']
 ·refine calls_of_wp h1 h2 ?_
  have hvl : vs.length <= n:=by rw [hr.len];exact hlen
  have hsz : (vs.toArray ++ Array.replicate (fn.ntmps - vs.toArray.size) undef).size = n:=by simp [h4];omega
  have hs : Sim c ⟨bF args,H,T⟩ { tmps:=vs.toArray ++ Array.replicate (fn.ntmps - vs.toArray.size) undef,defers:=[] } w:=by
   refine ⟨hT,hi,fun i=>?_⟩
   simp only [bF]
   rcases Nat.lt_or_ge i args.length with h' | h'
   ·have h'' : i < vs.length:=by rw [hr.len];exact h'
    have:=hr.rep i h' h''
    simp only [List.getElem?_eq_getElem h',Option.getD_some]
    rw [Array.getD_eq_getD_getElem?,Array.getElem?_append_left (by simpa using h'')]
    simpa [h''] using this
   ·rw [List.getElem?_eq_none h']
    exact .top _
  refine wp_mono (Nh (P:=P) (imp:=imp) code cc (by rw [h4] at *;exact h6) c w hg c _ _ w _ hW hs (Cx.le.refl c) (Below.refl _ _) hsz rfl) ?_
  rintro e a' w' ⟨s',c',k1,k2,k3,k4,k5,k6⟩
  have fin : HA rs Q s' -> ∃ v,(results fn a'.tmps).run P w' = .ok v w' /\ bJ c w Q (.returned v) w':=by
   intro hret
   unfold HA at hret
   split at hret
   ·rename_i ds hds
    obtain ⟨us,e1,e2⟩:=xS (P:=P) k2 h5 hds
    have hm : (fn.results.mapM (fun r=>match r with | .tmp t=>pure (a'.tmps.getD t undef) | .cell x t=>do loadVar t (← asAddr (a'.tmps.getD x undef)) : ResultVar -> Sem Value)).run P w' = .ok us.toArray w':=by
     rw [Array.mapM_eq_mapM_toList,Sem.run_map,e1];rfl
    refine ⟨if h : us.toArray.size = 1 then us.toArray[0] else .tuple us.toArray,?_,_,rfl,_,s'.H,s'.T,c',hret,?_,k2.inv,k3,k2.T,k4⟩
    ·unfold results
     simp only [Sem.run_bind,Sem.run_pure]
     exact (congrArg (fun r=>Result.andThen r _) hm)
    ·have hl:=e2.len
     match ds,us,hl with
     | [d],[u],_ =>
      have:=e2.rep 0 (by simp) (by simp)
      simpa [HM] using this
     | [],[],_=>exact Rep.tup [] [] rfl e2.rep
     | d :: d' :: ds,u :: u' :: us,hl =>
      have hne : ¬ ((u :: u' :: us).toArray.size = 1):=by simp
      rw [dif_neg hne]
      exact Rep.tup _ _ hl e2.rep
   ·exact hret.elim
  cases e with
  | normal=>exact ⟨k6,fin k1⟩
  | ret=>exact ⟨k6,fin k1⟩
  | exit i=>exact k1.elim
  | goto l=>exact k1.elim
  | panic ch=>exact k1.elim
  | outgrown=>exact k1.elim
theorem oS [HasG P] {f : FuncId} {n : Nat} {rs : List (Sum Nat (Nat × Bool × Nat))} {cc : C} (hf : Fn P f n rs cc) {args : List D} (hlen : args.length <= n) {H : Hp} {T : Tk} {Q : dM} (hW : W (Snd P) cc (mW rs Q) ⟨bF args,H,T⟩) : Snd P f args H T Q :=
 fun c w vs hg h1 h2 h3=>.inl (Co hf hlen hW c w vs hg h1 h2 h3)
end GP
namespace GP
open Go
def Cx0 (w : World) : Cx:={ M:=w.cell?,β:=fun _=>0,κ:=fun _=>(⟨0,0,none⟩,0),bd:=fun _=>false,T:=[],bb:=(false,w.heap.size),sz:=fun _=>0 }
theorem A1q (w : World) : Inv (Cx0 w) w [] :=
 ⟨fun _ _ h=>h,Nat.le_refl _,fun o x cs h=>by simp at h,fun _ _=>rfl,fun o x h=>by simp at h,fun o o' x x' h=>by simp at h,fun o es clk h=>by simp at h,fun o m l h=>by simp at h,fun τ n z h=>by simp [Cx0] at h,fun τ n z o x h=>by simp [Cx0] at h,fun τ n z τ' n' z' h=>by simp [Cx0] at h⟩
section
variable {P : Program} {w : World}
def Rds (P : Program) (w : World) (t : TypeId) (φ : List D -> Prop) (fuel : Nat) : Prop :=
 ∀ (H : Type) (enc : TypeId × Value -> H) (cs : List Value) (d : DataW H) (ps : List MemPlace),DataW.trod enc P w 0 (fun _=>true) true fuel t cs = some (d,ps) -> (∀ n ∈ d.weights P t,n <= reachBytes) -> ∃ ds,Cells (Cx0 w) ds cs /\ φ ds
theorem Rds.imp {t : TypeId} {φ ψ : List D -> Prop} {fuel : Nat} (h : Rds P w t φ fuel) (k : ∀ ds,φ ds -> ψ ds) : Rds P w t ψ fuel:=fun H enc cs d ps h1 h2=>by
 obtain ⟨ds,h3,h4⟩:=h H enc cs d ps h1 h2
 exact ⟨ds,h3,k ds h4⟩
theorem Cells.one' {c : Cx} {d : D} {v : Value} (h : Rep c d v) (h1 : d.one = true) : Cells c [d] [v] :=
 ⟨rfl,by simpa using h1,fun i hi hi'=>by
  have : i = 0:=by simp at hi;omega
  subst this;simpa using h⟩
theorem HW {t : TypeId} (ht : P.underlying t = some .string) (fuel : Nat) : Rds P w t (fun ds=>∃ l,ds = [.str l] /\ l.length <= 2 ^ 47) fuel:=by
 intro H enc cs d ps h hz
 obtain ⟨s,rfl,hx,hs⟩:=DataW.trod_string ht h
 injection hx with h1 h2
 subst h1
 have hl : s.data.toList.length <= reachBytes:=hz _ (by simp [DataW.weights])
 have h47:=reachBytes_lt
 refine ⟨[.str s.data.toList],Cells.one' ?_ rfl,_,rfl,by omega⟩
 have:=Rep.str (c:=Cx0 w) s.data.toList (by omega)
 simpa using this
end
end GP
namespace GP
open Go
open Go.ChangeShapes Go.WideShapes Go.ChangeAt Go.RowKit
section
variable {P : Program} {w : World}
def Arg (P : Program) (w : World) (t : TypeId) (Φ : D -> Prop) : Prop :=
 ∀ (H : Type) (enc : TypeId × Value -> H) (v : Value) (d : DataW H) (ps : List MemPlace) (base : Nat),DataW.Trod enc P w 0 (fun _=>true) true t v d ps -> (∀ n ∈ d.weights P t,n <= reachBytes) -> Value.okWide P w .any base t v -> ∃ x,Rep (Cx0 w) x v /\ Φ x
def IB : TypeDesc -> Bool
 | .int _ | .bool | .string | .slice _ | .pointer _=>true
 | _=>false
theorem OY {t : TypeId} {u : TypeDesc} {φ : List D -> Prop} (ht : P.underlying t = some u) (hu : IB u = true) (h : ∀ fuel,Rds P w t φ fuel) : Arg P w t (fun x=>φ [x]):=by
 intro H enc v d ps base hd hz hok
 obtain ⟨fuel,hf⟩:=hd
 obtain ⟨ds,k1,k2⟩:=h fuel H enc _ d ps hf hz
 have hc : v.cells = #[v]:=by
  cases v with
  | agg cs=>cases u <;> simp [IB] at hu <;> simp [Value.okWide,ht,Cell.okWide,Cell.ok] at hok
  | _=>rfl
 rw [hc] at k1
 match ds,k1.len with
 | [x],_=>exact ⟨x,by simpa using k1.rep 0 (by simp) (by simp),k2⟩
inductive Args (P : Program) (w : World) : List TypeId -> (List D -> Prop) -> Prop where
 | nil : Args P w [] (fun l=>l = [])
 | cons {t : TypeId} {ts : List TypeId} {Φ : D -> Prop} {Ψ : List D -> Prop} : Arg P w t Φ -> Args P w ts Ψ -> Args P w (t :: ts) (fun l=>∃ x xs,l = x :: xs /\ Φ x /\ Ψ xs)
theorem Cu {H : Type} {enc : TypeId × Value -> H} : ∀ {ts : List TypeId} {Ψ : List D -> Prop} {vs : List Value} {ds : List (DataW H)} {ps : List MemPlace},Args P w ts Ψ -> DataW.TrodAll enc P w 0 (fun _=>true) true ts vs ds ps →
  (∀ n ∈ DataW.weightsEach P ts ds,n <= reachBytes) -> (∀ (j : Nat) t v,ts[j]? = some t -> vs[j]? = some v -> ∃ base,Value.okWide P w .any base t v) -> ∃ xs,Reps (Cx0 w) xs vs /\ Ψ xs
 | [],Ψ,vs,ds,ps,h,hd,_,_=>by
  obtain ⟨rfl,rfl,rfl⟩:=trodAll_nil hd
  cases h
  exact ⟨[],Reps.nil,rfl⟩
 | t :: ts,Ψ,vs,ds,ps,h,hd,hz,hok=>by
  obtain ⟨v,vs',d,ds',p,q,rfl,rfl,rfl,h1,h2⟩:=trodAll_cons hd
  cases h with
  | cons ha hr =>
   obtain ⟨base,hb⟩:=hok 0 t v rfl rfl
   obtain ⟨x,k1,k2⟩:=ha H enc v d p base h1 (fun n hn=>hz n (by simp [DataW.weightsEach,hn])) hb
   obtain ⟨xs,k3,k4⟩:=Cu hr h2 (fun n hn=>hz n (by simp [DataW.weightsEach,hn])) (fun j t v e1 e2=>hok (j + 1) t v (by simpa using e1) (by simpa using e2))
   have:=Reps.append (d1:=[x]) (v1:=[v]) ⟨rfl,fun i h h'=>by
    have : i = 0:=by simp at h;omega
    subst this;simpa using k1⟩ k3
   exact ⟨x :: xs,by simpa using this,x,xs,rfl,k2,k4⟩
theorem sW {H : Type} {enc : TypeId × Value -> H} {w' : World} {sp : Nat -> Bool} : ∀ {ts : List TypeId} {vs : List Value} {ds : List (DataW H)} {ps : List MemPlace},DataW.TrodAll enc P w 0 sp true ts vs ds ps -> (∀ p ∈ ps,w.sameAt w' p) -> DataW.TrodAll enc P w' 0 sp true ts vs ds ps
 | [],[],[],ps,h,_=>h
 | t :: ts,v :: vs,d :: ds,ps,⟨p,q,⟨n,h1⟩,h2,e⟩,hs=>⟨p,q,⟨n,DataW.trod_carry n _ _ _ h1 (fun x hx=>hs x (by rw [e];exact List.mem_append_left _ hx))⟩,sW h2 (fun x hx=>hs x (by rw [e];exact List.mem_append_right _ hx)),e⟩
end
theorem zI {H : Type} {enc : TypeId × Value -> H} {P : Program} {w : World} {sp : Nat -> Bool} : ∀ {ts : List TypeId} {vs : List Value} {ds : List (DataW H)} {ps : List MemPlace},DataW.TrodAll enc P w 0 sp true ts vs ds ps -> vs.length = ts.length
 | [],[],[],_,_=>rfl
 | _ :: _,_ :: _,_ :: _,_,⟨_,_,_,h,_⟩=>by simp [zI h]
theorem wF {H : Type} {enc : TypeId × Value -> H} {P : Program} {w : World} {sp : Nat -> Bool} : ∀ {ts : List TypeId} {vs : List Value} {ds : List (DataW H)} {ps : List MemPlace},DataW.TrodAll enc P w 0 sp true ts vs ds ps -> ds.length = ts.length
 | [],[],[],_,_=>rfl
 | _ :: _,_ :: _,_ :: _,_,⟨_,_,_,h,_⟩=>by simp [wF h]
theorem KZ {H : Type} {enc : TypeId × Value -> H} {P : Program} {f : Func} {s : ChangeSpec} {apart fresh handsOn again : Bool} {W W' : World} {args : Array Value} {v : Value} {ds gs : List (DataW H)} {before pa pv : List MemPlace}
  (hW : DataW.Whole enc P f.params.toList s.vars apart W args.toList ds gs before)
  (hres : ∀ (b : Nat) (sp : Nat -> Bool) (hd : Bool),DataW.TrodAll enc P W' b sp hd f.resultTypes.toList (v.resultList f.resultTypes.size) (s.fn H (ds ++ gs)).results [])
  (hargs : ∀ sp : Nat -> Bool,(∀ p ∈ before,sp p.block = true) -> DataW.TrodAll enc P W' 0 sp true f.params.toList args.toList (s.fn H (ds ++ gs)).args pa)
  (hvars : ∀ sp : Nat -> Bool,(∀ p ∈ before,sp p.block = true) -> DataW.TrodVars enc P W' sp s.vars (s.fn H (ds ++ gs)).vars pv)
  (hps : before = pa ++ pv) (hk : W.keptBut W' (· ∈ before)) (hfz : ∀ a : Addr,a.block < W.heap.size -> W'.frozen? a = W.frozen? a)
  (hok : ∀ (j : Nat) (t : TypeId) (r : Value),f.resultTypes[j]? = some t -> (v.resultList f.resultTypes.size)[j]? = some r -> Value.okWide P W' .any 0 t r) :
  s.post enc P f apart fresh handsOn again W args v W':=by
 have hlt:=hW.lt
 have hold : ∀ p ∈ before,(fun b=>decide (b < W.heap.size)) p.block = true:=fun p hp=>by simpa using hlt p hp
 refine ⟨ds,gs,before,[],pa,pv,hW,hres _ _ _,hargs _ hold,hvars _ hold,World.keptBut_mono (fun p hp=>⟨hp,?_⟩) hk,fun _=>?_⟩
 ·rw [hps,List.mem_append] at hp
  exact Or.inr hp
 ·obtain ⟨_,_,_,_,_,hz,hn⟩:=hW
  refine ⟨hok,_,_,([] ++ pa) ++ pv,⟨[] ++ pa,pv,trodAll_append (hargs _ (fun _ _=>rfl)) (hres _ _ _),hvars _ (fun _ _=>rfl),rfl,?_,?_⟩,?_⟩
  ·intro b off hp
   have hp' : MemPlace.cell b off ∈ before:=by rw [hps];simpa using hp
   rw [hfz ⟨b,off,none⟩ (hlt _ hp')]
   exact hz b off hp'
  ·intro ha
   have:=hn ha
   rw [hps] at this
   simpa using this
  ·intro p hp _
   rw [hps]
   simpa using hp
theorem GM {c : Cx} {v : Value} (h : Rep c (.bool true) v) : v = .bool true:=by cases h;rfl
theorem E8 {H : Type} {enc : TypeId × Value -> H} {P : Program} [HasG P] {f : FuncId} {fn : Func} {s : ChangeSpec} {apart : Bool} {W : World} {base : Nat} {args : Array Value} {ds gs : List (DataW H)} {before : List MemPlace} {Ψ : List D -> Prop} {tb : TypeId} {n : Nat} {rs : List (Sum Nat (Nat × Bool × Nat))} {cc : C}
  (laid : laidOutB P = true) (rows : mapsRowed P = true) (full : ((List.range P.types.size).all fun t=>match P.underlying t with | some (.slice e)=>decide (0 < P.cellsOf e) | _=>true) = true)
  (hts : ∀ t ∈ fn.params.toList,t < P.types.size) (hvars : s.vars = []) (hres : fn.resultTypes = #[tb]) (hb : P.underlying tb = some .bool)
  (hval : ∀ (j : Nat) t v,fn.params[j]? = some t -> args[j]? = some v -> Value.okWide P W .any base t v)
  (hW : DataW.Whole enc P fn.params.toList s.vars apart W args.toList ds gs before)
  (hsz : (DataW.weightsEach P (fn.params.toList ++ s.plain.varTypes P) (ds ++ gs)).all (· <= reachBytes) = true)
  (hspec : ∀ l : List (DataW H),l.length = fn.params.toList.length -> s.fn H l = { results:=[.lit (.bool true)],args:=l })
  (hA : Args P W fn.params.toList Ψ) (hf : Fn P f n rs cc) (hlen : fn.params.size <= n)
  (hG : HasG.G P (Cx0 W) W) (hS : ∀ xs,Ψ xs -> GP.W (Snd P) cc (mW rs (fun r _ _=>r = .bool true)) ⟨bF xs,[],[]⟩) :
  Calls P f args W fun e W'=>∃ v,e = .returned v /\ s.post enc P fn apart true false false W args v W':=by
 have hW':=hW
 obtain ⟨p,q,hA0,hV,hpq,hfz,hnd⟩:=hW
 rw [hvars] at hV
 obtain ⟨rfl,rfl⟩:=trodVars_none hV
 simp only [List.append_nil] at hpq
 subst hpq
 have hplain : s.plain.varTypes P = []:=by simp [ChangeSpec.plain,DataSpec.varTypes,hvars]
 rw [hplain] at hsz
 simp only [List.append_nil] at hsz
 obtain ⟨xs,k1,k2⟩:=Cu hA hA0 (fun n hn=>by simpa using List.all_eq_true.1 hsz n hn) (fun j t v e1 e2=>⟨base,hval j t v (by simpa using e1) (by simpa using e2)⟩)
 have hdl : ∀ {ts : List TypeId} {vs : List Value} {ds : List (DataW H)} {ps : List MemPlace},DataW.TrodAll enc P W 0 (fun _=>true) true ts vs ds ps -> ds.length = ts.length:=wF
 have hspec:=hspec (ds ++ []) (by rw [List.append_nil];exact hdl hA0)
 simp only [List.append_nil] at hspec
 have hl:=k1.len
 have hl2:=zI hA0
 have hc:=(Co hf (args:=xs) (by rw [<- hl,hl2];simpa using hlen) (hS xs k2) (Cx0 W) W args.toList hG (A1q W) rfl k1).2
 rw [show args.toList.toArray = args by simp] at hc
 refine hc.mono ?_
 rintro e W' ⟨v,rfl,r,H',T',c',hr,hrep,_,_,_,hbel⟩
 subst hr
 have:=GM hrep
 subst this
 have hbel : RowKit.Below W.heap.size W W':=hbel.kit
 have hlt : ∀ x ∈ before,x.block < W.heap.size:=hA0.lt
 have hread:=sW (w':=W') hA0 (fun x hx=>hbel.same (hlt x hx))
 have K:=kids_rows laid rows
 refine ⟨_,rfl,KZ (pa:=before) (pv:=[]) hW' (fun _ _ _=>?_) (fun sp hsp=>?_) (fun _ _=>?_) (by simp) (hbel.frame _) ?_ ?_⟩
 ·rw [List.append_nil,hspec,hres]
  exact trodAll_cons_mk (shut_bool hb _) trodAll_mk0
 ·rw [List.append_nil,hspec]
  exact DataW.TrodAll.respare K (slices_full_of P full) hts hread (fun x hx=>hsp x (by simpa using hx))
 ·rw [List.append_nil,hspec,hvars];rfl
 ·intro a ha
  exact hbel.frozen ha
 ·exact ok_one hres rfl (okWide_bool_mk hb _)
end GP
namespace GP
open Go
theorem bM : ∀ (l : List D),(D.eraseL l).length = l.length
 | []=>by simp [D.eraseL]
 | d :: l=>by simp [D.eraseL,bM l]
theorem eC : ∀ (l : List D) (i : Nat) (h : i < l.length) (h' : i < (D.eraseL l).length),(D.eraseL l)[i] = (l[i]).erase
 | d :: l,0,h,h'=>by simp [D.eraseL]
 | d :: l,i + 1,h,h'=>by
  simp only [D.eraseL,List.getElem_cons_succ]
  exact eC l i _ _
theorem gE (l : List D) : D.eraseL l = l.map D.erase:=by
 induction l with
 | nil=>simp [D.eraseL]
 | cons d l ih=>simp [D.eraseL,ih]
theorem sC (d : D) : d.erase.one = d.one:=by cases d <;> simp [D.erase,D.one]
theorem q9 (d : D) : d.erase.cells = D.eraseL d.cells:=by cases d <;> simp [D.erase,D.cells,D.eraseL]
theorem Rep.erase {c : Cx} {d : D} {v : Value} (h : Rep c d v) : Rep c d.erase v:=by
 induction h with
 | bool b=>simpa [D.erase] using Rep.bool b
 | int k n=>simpa [D.erase] using Rep.int k n
 | str l h=>simpa [D.erase] using Rep.str l h
 | nilp=>simpa [D.erase] using Rep.nilp
 | ptr o off h=>simpa [D.erase] using Rep.ptr o off h
 | el cs a vs ha h1 hM _ ih =>
  simp only [D.erase]
  refine Rep.el _ a vs ha ?_ (fun i hi=>hM i (by simpa [bM] using hi)) (fun i hi=>?_)
  ·intro d hd
   rw [gE] at hd
   obtain ⟨x,hx,rfl⟩:=List.mem_map.1 hd
   rw [sC];exact h1 x hx
  ·have hi' : i < cs.length:=by simpa [bM] using hi
   rw [eC cs i hi']
   exact ih i hi'
 | nils=>simpa [D.erase] using Rep.nils
 | ms ag z o off len cap rc h h1 h2 h3=>simpa [D.erase] using Rep.ms ag z o off len cap rc h h1 h2 h3
 | e0 a =>
  simp only [D.erase]
  exact Rep.sl none [] a 0 0 (fun _ _=>undef) (by simp) (by simp) (by simp) (by simp) (by simp) (by simp) (by simp) (by simp) (by simp) (by simp)
 | sl t xs a cap sz vs hlen hb hsz h1 ha hs hM _ htl ht ih =>
  simp only [D.erase]
  have hl:=bM xs
  rw [<- hl]
  refine Rep.sl none (D.eraseL xs) a cap sz vs (by omega) (by omega) ?_ ?_ ?_ ?_ ?_ ?_ (fun τ h=>by cases h) (fun τ h=>by cases h)
  ·intro x hx
   rw [gE] at hx
   obtain ⟨y,hy,rfl⟩:=List.mem_map.1 hx
   rw [q9,bM];exact hsz y hy
  ·intro x hx y hy
   rw [gE] at hx
   obtain ⟨z,hz,rfl⟩:=List.mem_map.1 hx
   rw [q9,gE] at hy
   obtain ⟨u,hu,rfl⟩:=List.mem_map.1 hy
   rw [sC];exact h1 z hz u hu
  ·intro hne
   exact ha (by intro e;subst e;exact hne (by simp [D.eraseL]))
  ·intro hne
   exact hs (by intro e;subst e;exact hne (by simp [D.eraseL]))
  ·intro i hi j hj b hb
   exact hM i (by omega) j hj b hb
  ·intro i hi j hj
   have hi' : i < xs.length:=by omega
   have e1 : (D.eraseL xs)[i].cells = D.eraseL (xs[i].cells):=by rw [eC xs i hi',q9]
   have hj' : j < (xs[i].cells).length:=by rw [e1,bM] at hj;exact hj
   have e2 : ((D.eraseL xs)[i].cells)[j] = ((xs[i].cells)[j]).erase:=by
    have:=eC (xs[i].cells) j hj' (by rw [bM];exact hj')
    rw [<- this];congr 1
   rw [e2]
   exact ih i hi' j hj'
 | fn f p q vp vq hp hq _ _ ih1 ih2 =>
  simp only [D.erase]
  refine Rep.fn f _ _ vp vq (by rw [bM];exact hp) (by rw [bM];exact hq) (fun i h h'=>?_) (fun i h h'=>?_)
  ·have hi : i < p.length:=by rw [bM] at h;exact h
   rw [eC p i hi];exact ih1 i hi h'
  ·have hi : i < q.length:=by rw [bM] at h;exact h
   rw [eC q i hi];exact ih2 i hi h'
 | nilf=>simpa [D.erase] using Rep.nilf
 | mp o h=>simpa [D.erase] using Rep.mp o h
 | nilm=>simpa [D.erase] using Rep.nilm
 | nili=>simpa [D.erase] using Rep.nili
 | ifc t d v _ ih=>simp only [D.erase];exact Rep.ifc t _ v ih
 | agg cs vs hl h1 _ ih =>
  simp only [D.erase]
  refine Rep.agg _ vs (by rw [bM];exact hl) ?_ (fun i h h'=>?_)
  ·intro d hd
   rw [gE] at hd
   obtain ⟨x,hx,rfl⟩:=List.mem_map.1 hd
   rw [sC];exact h1 x hx
  ·have hi : i < cs.length:=by rw [bM] at h;exact h
   rw [eC cs i hi];exact ih i hi h'
 | tup cs vs hl _ ih =>
  simp only [D.erase]
  refine Rep.tup _ vs (by rw [bM];exact hl) (fun i h h'=>?_)
  have hi : i < cs.length:=by rw [bM] at h;exact h
  rw [eC cs i hi];exact ih i hi h'
 | top v=>simpa [D.erase] using Rep.top v
theorem Reps.erase {c : Cx} {ds : List D} {vs : List Value} (h : Reps c ds vs) : Reps c (D.eraseL ds) vs :=
 ⟨by rw [bM];exact h.len,fun i hi hi'=>by
  have hi2 : i < ds.length:=by rw [bM] at hi;exact hi
  rw [eC ds i hi2];exact (h.rep i hi2 hi').erase⟩
mutual
def D.cl (n m : Nat) : D -> Bool
 | .sl t xs=>(match t with | none=>true | some τ=>decide (τ < m)) && D.clL n m xs
 | .el cs=>D.clL n m cs
 | .agg cs=>D.clL n m cs
 | .tup cs=>D.clL n m cs
 | .fn _ a b=>D.clL n m a && D.clL n m b
 | .ifc _ d=>D.cl n m d
 | .ptr o _=>decide (o < n)
 | .mp o=>decide (o < n)
 | .ms _ _ o _ _ _=>decide (o < n)
 | _=>true
def D.clL (n m : Nat) : List D -> Bool
 | []=>true
 | d :: ds=>D.cl n m d && D.clL n m ds
end
theorem kW {n m : Nat} : ∀ {l : List D},D.clL n m l = true -> ∀ d ∈ l,d.cl n m = true
 | d :: l,h,x,hx=>by
  simp only [D.clL,Bool.and_eq_true] at h
  rcases List.mem_cons.1 hx with rfl | hx
  ·exact h.1
  ·exact kW h.2 x hx
theorem jS {n m : Nat} : ∀ {l : List D},(∀ d ∈ l,d.cl n m = true) -> D.clL n m l = true
 | [],_=>by simp [D.clL]
 | d :: l,h=>by
  simp only [D.clL,Bool.and_eq_true]
  exact ⟨h d (by simp),jS fun x hx=>h x (by simp [hx])⟩
theorem Me {n m : Nat} {d : D} (h : d.cl n m = true) : ∀ x ∈ d.cells,x.cl n m = true:=by
 intro x hx
 cases d <;> simp only [D.cells,List.mem_singleton] at hx <;> first
  | (subst hx;exact h)
  | (simp only [D.cl] at h;exact kW h x hx)
theorem Rep.move {c c' : Cx} {n m : Nat} {d : D} {v : Value} (h : Rep c d v) (hM : ∀ a v,c.M a = some v -> c'.M a = some v) (hbd : ∀ o,o < n -> c.bd o = true -> c'.bd o = true) (hβ : ∀ o,o < n -> c'.β o = c.β o) (hsz : ∀ o,o < n -> c'.sz o = c.sz o)
  (hm : m <= c'.T.length) (hT : ∀ τ,τ < m -> c'.T[τ]? = c.T[τ]? /\ c'.κ τ = c.κ τ) (hd : d.cl n m = true) : Rep c' d v:=by
 induction h with
 | bool b=>exact .bool b
 | int k n=>exact .int k n
 | str l h=>exact .str l h
 | nilp=>exact .nilp
 | ptr o off h =>
  simp only [D.cl,decide_eq_true_eq] at hd
  rw [<- hβ o hd];exact .ptr o off (hbd o hd h)
 | ms ag z o off len cap rc h h1 h2 h3 =>
  simp only [D.cl,decide_eq_true_eq] at hd
  rw [<- hβ o hd];exact .ms ag z o off len cap rc (hbd o hd h) h1 h2 (by rw [hsz o hd];exact h3)
 | e0 a=>exact .e0 a
 | el cs a vs ha h1 hM' _ ih =>
  simp only [D.cl] at hd
  exact .el cs a vs ha h1 (fun i hi=>hM _ _ (hM' i hi)) (fun i hi=>ih i hi (kW hd _ (List.getElem_mem hi)))
 | nils=>exact .nils
 | sl t xs a cap sz vs hlen hb hsz h1 ha hs hM' _ htl ht ih =>
  simp only [D.cl,Bool.and_eq_true] at hd
  obtain ⟨hτ,hd⟩:=hd
  refine .sl t xs a cap sz vs hlen hb hsz h1 ha hs (fun i hi j hj b hb=>hM _ _ (hM' i hi j hj b hb)) (fun i hi j hj=>ih i hi j hj (Me (kW hd _ (List.getElem_mem hi)) _ (List.getElem_mem hj))) ?_ ?_
  ·rintro τ rfl
   simp only [decide_eq_true_eq] at hτ
   omega
  ·rintro τ rfl n' z' hn
   simp only [decide_eq_true_eq] at hτ
   obtain ⟨e1,e2⟩:=hT τ hτ
   rw [e1] at hn
   rw [e2]
   exact ht τ rfl n' z' hn
 | fn f p q vp vq hp hq _ _ ih1 ih2 =>
  simp only [D.cl,Bool.and_eq_true] at hd
  exact .fn f p q vp vq hp hq (fun i h h'=>ih1 i h h' (kW hd.1 _ (List.getElem_mem h))) (fun i h h'=>ih2 i h h' (kW hd.2 _ (List.getElem_mem h)))
 | nilf=>exact .nilf
 | mp o h =>
  simp only [D.cl,decide_eq_true_eq] at hd
  rw [<- hβ o hd];exact .mp o (hbd o hd h)
 | nilm=>exact .nilm
 | nili=>exact .nili
 | ifc t d v _ ih=>exact .ifc t d v (ih (by simpa only [D.cl] using hd))
 | agg cs vs hl h1 _ ih =>
  simp only [D.cl] at hd
  exact .agg cs vs hl h1 (fun i h h'=>ih i h h' (kW hd _ (List.getElem_mem h)))
 | tup cs vs hl _ ih =>
  simp only [D.cl] at hd
  exact .tup cs vs hl (fun i h h'=>ih i h h' (kW hd _ (List.getElem_mem h)))
 | top v=>exact .top v
theorem Rep.cl {c : Cx} {n : Nat} {d : D} {v : Value} (h : Rep c d v) (hn : ∀ o,c.bd o = true -> o < n) : d.cl n c.T.length = true:=by
 induction h with
 | ptr o off h=>simp [D.cl,hn o h]
 | mp o h=>simp [D.cl,hn o h]
 | ms ag z o off len cap rc h h1 h2 h3=>simp [D.cl,hn o h]
 | el cs a vs ha h1 hM' _ ih =>
  simp only [D.cl]
  refine jS fun d hd=>?_
  obtain ⟨i,hi,rfl⟩:=List.getElem_of_mem hd
  exact ih i hi
 | sl t xs a cap sz vs hlen hb hsz h1 ha hs hM' _ htl ht ih =>
  simp only [D.cl,Bool.and_eq_true]
  refine ⟨?_,jS fun d hd=>?_⟩
  ·cases t with
   | none=>rfl
   | some τ=>simpa using htl τ rfl
  ·obtain ⟨i,hi,rfl⟩:=List.getElem_of_mem hd
   have hcell : ∀ x ∈ xs[i].cells,x.cl n c.T.length = true:=fun x hx=>by
    obtain ⟨j,hj,rfl⟩:=List.getElem_of_mem hx
    exact ih i hi j hj
   cases hx : xs[i] with
   | agg cs=>rw [hx] at hcell;simp only [D.cl];exact jS hcell
   | _=>rw [hx] at hcell;exact hcell _ (by simp [D.cells])
 | fn f p q vp vq hp hq _ _ ih1 ih2 =>
  simp only [D.cl,Bool.and_eq_true]
  refine ⟨jS fun d hd=>?_,jS fun d hd=>?_⟩
  ·obtain ⟨i,hi,rfl⟩:=List.getElem_of_mem hd
   exact ih1 i hi (by omega)
  ·obtain ⟨i,hi,rfl⟩:=List.getElem_of_mem hd
   exact ih2 i hi (by omega)
 | ifc t d v _ ih=>simpa only [D.cl] using ih
 | agg cs vs hl h1 _ ih =>
  simp only [D.cl]
  refine jS fun d hd=>?_
  obtain ⟨i,hi,rfl⟩:=List.getElem_of_mem hd
  exact ih i hi (by omega)
 | tup cs vs hl _ ih =>
  simp only [D.cl]
  refine jS fun d hd=>?_
  obtain ⟨i,hi,rfl⟩:=List.getElem_of_mem hd
  exact ih i hi (by omega)
 | _=>simp [D.cl]
section
variable {P : Program}
theorem bJ.forget {c : Cx} {w : World} {H : Hp} {T : Tk} {Q : dM} (hi : Inv c w H) (hT : c.T = T) {r0 : D} (hcl : r0.cl H.length T.length = true) (hQ : Q r0 H T) {e : Ending} {w' : World}
  (h : bJ c w (fun r H' T'=>r.erase = r0 /\ (∃ L,H' = H ++ L) /\ ∃ U,T' = T ++ U) e w') : bJ c w Q e w':=by
 obtain ⟨v,rfl,r,H',T',c',⟨hr,⟨L,rfl⟩,⟨U,rfl⟩⟩,hrep,hinv,hle,hT',hbel⟩:=h
 have move : ∀ {d : D} {v : Value},Rep c' d v -> d.cl H.length T.length = true -> Rep { c' with bd:=fun o=>c'.bd o && decide (o < H.length),T:=T } d v:=fun {d v} hr hd =>
  hr.move (n:=H.length) (m:=T.length) (c':={ c' with bd:=fun o=>c'.bd o && decide (o < H.length),T:=T }) (fun _ _ h=>h) (fun o ho h=>by simp [h,ho]) (fun _ _=>rfl) (fun _ _=>rfl) (Nat.le_refl _) (fun τ hτ=>⟨by simp only;rw [hT',List.getElem?_append_left hτ],rfl⟩) hd
 refine ⟨v,rfl,r0,H,T,{ c' with bd:=fun o=>c'.bd o && decide (o < H.length),T:=T },hQ,?_,?_,?_,rfl,hbel⟩
 ·rw [<- hr] at hcl ⊢
  exact move hrep.erase hcl
 ·have hget : ∀ {o : Nat} {x : Ob},H[o]? = some x -> (H ++ L)[o]? = some x:=fun {o x} h=>by
   have : o < H.length:=by
    rcases Nat.lt_or_ge o H.length with h' | h'
    ·exact h'
    ·rw [List.getElem?_eq_none h'] at h;cases h
   rw [List.getElem?_append_left this];exact h
  have hlt : ∀ {o : Nat} {x : Ob},H[o]? = some x -> o < H.length:=fun {o x} h=>by
   rcases Nat.lt_or_ge o H.length with h' | h'
   ·exact h'
   ·rw [List.getElem?_eq_none h'] at h;cases h
  have htok : ∀ {τ : Nat} {x},T[τ]? = some x -> c'.T[τ]? = some x:=fun {τ x} h=>by
   have : τ < T.length:=by
    rcases Nat.lt_or_ge τ T.length with h' | h'
    ·exact h'
    ·rw [List.getElem?_eq_none h'] at h;cases h
   rw [hT',List.getElem?_append_left this];exact h
  refine ⟨hinv.keep,hinv.low,fun o x cs h hx=>?_,?_,fun o x h hx=>?_,fun o o' x x' h h' hx hx' he=>hinv.apart o o' x x' (hget h) (hget h') hx hx' he,fun o es clk h=>hinv.map o es clk (hget h),fun o m l h=>hinv.iter o m l (hget h),
   fun τ n z h=>hinv.tok τ n z (htok h),fun τ n z o x h h1 hx=>hinv.tokrow τ n z o x (htok h) (hget h1) hx,fun τ n z τ' n' z' h h'=>hinv.toks τ n z τ' n' z' (htok h) (htok h')⟩
  ·obtain ⟨vs,rest,e,fr,k1,k2,k4,k3⟩:=hinv.row o x cs (hget h) hx
   refine ⟨vs,rest,e,fr,k1,?_,k4,k3⟩
   have hi2:=hi.row o x cs h hx
   obtain ⟨vs0,rest0,e0,fr0,q1,q2,q4,q3⟩:=hi2
   refine ⟨k2.len,k2.one,fun i a b=>move (k2.rep i a b) ?_⟩
   rw [<- hT]
   refine (q2.rep i a (by rw [q2.len];exact a)).cl fun o ho=>?_
   rcases Nat.lt_or_ge o H.length with h' | h'
   ·exact h'
   ·rw [hi.free o (.inl h')] at ho;cases ho
  ·intro o h
   rcases h with h | h
   ·have : ¬ o < H.length:=by omega
    simp [this]
   ·have:=hinv.free o (.inr (hget h))
    simp [this]
  ·obtain ⟨g1,g2,g3,g4⟩:=hinv.own o x (hget h) hx
   exact ⟨by simp [g1,hlt h],g2,g3,g4⟩
 ·refine ⟨hle.M,fun o ho=>?_,fun o ho=>hle.β o ho,by simp [hT],fun τ h=>by simpa [<- hT] using h,fun τ n z h=>.inr ⟨n,by simpa [<- hT] using h,Nat.le_refl _,fun _=>?_⟩,hle.B,fun o ho=>?_⟩
  ·have : o < H.length:=by
    rcases Nat.lt_or_ge o H.length with h' | h'
    ·exact h'
    ·rw [hi.free o (.inl h')] at ho;cases ho
   simp [hle.bd o ho,this]
  ·rw [hT] at h
   have hlt : τ < T.length:=by
    rcases Nat.lt_or_ge τ T.length with h' | h'
    ·exact h'
    ·rw [List.getElem?_eq_none h'] at h;cases h
   have h2 : c'.T[τ]? = some (some (n,z)):=by rw [hT',List.getElem?_append_left hlt];exact h
   rcases hle.tok τ n z (by rw [hT];exact h) with k | ⟨n',k1,k2,k3⟩
   ·rw [k] at h2;cases h2
   ·rw [k1] at h2;injection h2 with h2;injection h2 with h2;injection h2 with h2 _
    exact k3 h2
  ·exact hle.sz o ho
end
end GP
namespace GP
open Go
abbrev Fs:=List (FuncId × (List D -> Option D))
def kF : Fs -> FuncId -> List D -> Option D
 | [],_,_=>none
 | (g,φ) :: l,f,a=>if f = g then φ a else kF l f a
def XL (l : Fs) : d8:=fun f args H T Q=>match kF l f (D.eraseL args) with
 | some r=>Q r H T
 | none=>False
def aO (P : Program) [HasG P] (f : FuncId) (φ : List D -> Option D) : Prop:=∀ args r,φ args = some r -> ∀ args',D.eraseL args' = args -> ∀ H T (Q : dM),Q r H T -> Snd P f args' H T Q
def Ok (P : Program) [HasG P] (l : Fs) : Prop:=∀ f args r,kF l f args = some r -> ∀ args',D.eraseL args' = args -> ∀ H T (Q : dM),Q r H T -> Snd P f args' H T Q
variable {P : Program} [HasG P]
theorem Ok.nil : Ok P []:=fun _ _ _ h=>by simp [kF] at h
theorem Ok.cons {f : FuncId} {φ : List D -> Option D} {l : Fs} (h : aO P f φ) (k : Ok P l) : Ok P ((f,φ) :: l):=by
 intro g args r hr
 simp only [kF] at hr
 split at hr
 ·rename_i e;subst e;exact h args r hr
 ·exact k g args r hr
theorem Ok.X {l : Fs} (k : Ok P l) : ∀ f args H T Q Q',(∀ r H T,Q r H T -> Q' r H T) -> XL l f args H T Q -> Snd P f args H T Q':=by
 intro f args H T Q Q' hQ h
 unfold XL at h
 split at h
 ·rename_i r hr
  exact k f _ r hr args rfl H T Q' (hQ _ _ _ h)
 ·exact h.elim
mutual
theorem D.cl_mono {n m n' m' : Nat} (hn : n <= n') (hm : m <= m') : ∀ (d : D),d.cl n m = true -> d.cl n' m' = true
 | .sl t xs,h=>by
  simp only [D.cl,Bool.and_eq_true] at h ⊢
  refine ⟨?_,D.clL_mono hn hm xs h.2⟩
  cases t with
  | none=>rfl
  | some τ=>have:=h.1;simp only [decide_eq_true_eq] at this ⊢;omega
 | .el cs,h=>by simp only [D.cl] at h ⊢;exact D.clL_mono hn hm cs h
 | .agg cs,h=>by simp only [D.cl] at h ⊢;exact D.clL_mono hn hm cs h
 | .tup cs,h=>by simp only [D.cl] at h ⊢;exact D.clL_mono hn hm cs h
 | .fn _ a b,h=>by
  simp only [D.cl,Bool.and_eq_true] at h ⊢
  exact ⟨D.clL_mono hn hm a h.1,D.clL_mono hn hm b h.2⟩
 | .ifc _ d,h=>by simp only [D.cl] at h ⊢;exact D.cl_mono hn hm d h
 | .ptr o _,h=>by simp only [D.cl,decide_eq_true_eq] at h ⊢;omega
 | .mp o,h=>by simp only [D.cl,decide_eq_true_eq] at h ⊢;omega
 | .ms _ _ o _ _ _,h=>by simp only [D.cl,decide_eq_true_eq] at h ⊢;omega
 | .e0,_ | .bool _,_ | .int _ _,_ | .str _,_ | .nilp,_ | .nils,_ | .nilf,_ | .nilm,_ | .nili,_ | .top,_=>by simp [D.cl]
theorem D.clL_mono {n m n' m' : Nat} (hn : n <= n') (hm : m <= m') : ∀ (l : List D),D.clL n m l = true -> D.clL n' m' l = true
 | [],_=>by simp [D.clL]
 | d :: l,h=>by
  simp only [D.clL,Bool.and_eq_true] at h ⊢
  exact ⟨D.cl_mono hn hm d h.1,D.clL_mono hn hm l h.2⟩
end
def i5 (r0 : D) (H : Hp) (T : Tk) : dM:=fun r H' T'=>r.erase = r0 /\ (∃ L,H' = H ++ L) /\ ∃ U,T' = T ++ U
theorem aG {l : Fs} (hl : Ok P l) {f : FuncId} {n : Nat} {rs : List (Sum Nat (Nat × Bool × Nat))} {cc : C} (hf : Fn P f n rs cc) {φ : List D -> Option D}
  (h : ∀ args r,φ args = some r -> args.length <= n /\ r.cl 0 0 = true /\ ∀ H T,W (XL l) cc (mW rs (i5 r H T)) ⟨bF args,H,T⟩) : aO P f φ:=by
 intro args r hr args' he H T Q hQ
 obtain ⟨h1,h2,h3⟩:=h args r hr
 have hS : Snd P f args H T (i5 r H T):=oS hf h1 (fE hl.X (fun _ _ h=>h) (h3 H T))
 intro c w vs kg k1 k2 k3
 have k3' : Reps c args vs:=by rw [<- he];exact k3.erase
 have hcl:=D.cl_mono (Nat.zero_le H.length) (Nat.zero_le T.length) r h2
 rcases hS c w vs kg k1 k2 k3' with ⟨g1,g2⟩ | ⟨v,w',g1,g2⟩
 ·exact .inl ⟨g1,g2.mono fun e w' k=>bJ.forget k1 k2 hcl hQ k⟩
 ·exact .inr ⟨v,w',g1,bJ.forget k1 k2 hcl hQ g2⟩
end GP
