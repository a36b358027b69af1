import Derived.Test.YtainhmbnbgonhaaGreatDoorM11
import Derived.Test.YtainhmbnbgonhaaGreatDoorM12
import Derived.Test.YtainhmbnbgonhaaGreatDoorM18
set_option linter.unusedSimpArgs false
set_option linter.unnecessarySimpa false
namespace GP
open Go Go.Proofs
set_option maxRecDepth 100000
structure Step2 (toks : List D) (st st2 : St) : Prop where
 ok : (st.2 = 0 ∨ st.2 = 2 ∨ st.2 = 11) /\ st.1 <= toks.length -> (st2.2 = 0 ∨ st2.2 = 2 ∨ st2.2 = 11) /\ st2.1 <= toks.length
 stuck : st.2 ≠ 0 -> st2 = st
 adv : st.2 = 0 -> st.1 <= st2.1
section
variable {toks : List D} {a b c : St}
theorem Step.two (h : Step toks a b) : Step2 toks a b:=⟨fun q=>by
  rcases q with ⟨q | q | q,q2⟩
  ·obtain ⟨k1,k2⟩:=h.ok ⟨.inl q,q2⟩
   exact ⟨k1.imp_right .inl,k2⟩
  ·obtain ⟨k1,k2⟩:=h.ok ⟨.inr q,q2⟩
   exact ⟨k1.imp_right .inl,k2⟩
  ·rw [h.stuck (by omega)];exact ⟨.inr (.inr q),q2⟩,h.stuck,h.adv⟩
theorem Step2.refl (toks : List D) (a : St) : Step2 toks a a:=⟨fun h=>h,fun _=>rfl,fun _=>Nat.le_refl _⟩
theorem Step2.trans (h : Step2 toks a b) (k : Step2 toks b c) : Step2 toks a c :=
 ⟨fun q=>k.ok (h.ok q),fun q=>by have:=h.stuck q;rw [this] at k;rw [k.stuck q],fun q=>by
  have h1:=h.adv q
  by_cases hb : b.2 = 0
  ·exact Nat.le_trans h1 (k.adv hb)
  ·rw [k.stuck hb];exact h1⟩
theorem Step2.e0 (h : Step2 toks a b) (hb : b.2 = 0) : a.2 = 0:=by
 by_cases ha : a.2 = 0
 ·exact ha
 ·rw [h.stuck ha] at hb;exact hb
def mu (toks : List D) (st : St) : Nat:=if st.2 = 0 then toks.length - st.1 + 1 else 0
theorem Step2.mu (h : Step2 toks a b) : mu toks b <= mu toks a:=by
 unfold GP.mu
 by_cases hb : b.2 = 0
 ·have ha:=h.e0 hb
  rw [if_pos hb,if_pos ha]
  have:=h.adv ha;omega
 ·rw [if_neg hb];omega
theorem E9 {st : St} {w : List UInt8} (h : isP toks st w = true) : mu toks (st.1 + 1,st.2) < mu toks st:=by
 obtain ⟨h1,h2⟩:=yI h
 unfold mu
 rw [if_pos h2,if_pos h2];simp only;omega
theorem gM (toks : List D) (w : List UInt8) (st : St) : Step2 toks st (kQ toks w st).2:=by
 unfold kQ
 split
 ·rename_i h;exact (cO h).two
 ·exact .refl _ _
theorem uF (toks : List D) (st : St) : Step2 toks st (gA toks st).2:=(iK toks (by decide) st).two
theorem HX (toks : List D) (st : St) : Step2 toks st (pN toks st).2:=by
 unfold pN
 simp only
 exact ((((sF toks st).two).trans (uW toks p7 _).two).trans (gM toks DC _)).trans (aY toks [59] _).two
theorem Eg {st : St} {r : D × St} (h : lH toks st = some r) : Step2 toks st r.2:=by
 unfold lH at h
 split at h
 ·cases h
 ·rename_i x st1 hz
  have hs:=(nY 10000 .expr toks st (x,st1) hz).two
  injection h with h;subst h
  simp only
  split
  ·rename_i g
   simp only [Bool.and_eq_true,beq_iff_eq] at g
   have g0:=hs.e0 g.1
   have e : bO st.1 11 st1 = (st.1,11):=by unfold bO;rw [g.1];rfl
   rw [e]
   exact ⟨fun q=>⟨.inr (.inr rfl),q.2⟩,fun q=>absurd g0 q,fun _=>Nat.le_refl _⟩
  ·exact hs
theorem Jq (h : toks.length <= 600) (st : St) : ∃ r,lH toks st = some r:=by
 obtain ⟨x,st1,hp,_⟩:=Rs toks 600 10000 .expr (by simp only [Gl];omega) st (by unfold rem;split <;> omega)
 unfold lH
 rw [hp];exact ⟨_,rfl⟩
theorem nE {b : Bool} {st : St} {r : D × St} (h : Bn toks b st = some r) : Step2 toks st r.2:=by
 unfold Bn at h
 split at h
 ·exact Eg h
 ·injection h with h;subst h;exact .refl _ _
theorem JJ (h : toks.length <= 600) (b : Bool) (st : St) : ∃ r,Bn toks b st = some r:=by
 unfold Bn
 split
 ·exact Jq h st
 ·exact ⟨_,rfl⟩
theorem tN : ∀ (f : Nat) (du ad : List (List UInt8)) (st : St) (r : List (List UInt8) × List (List UInt8) × St),jD toks f du ad st = some r -> Step2 toks st r.2.2
 | 0,_,_,_,_,h=>by simp [jD] at h
 | f + 1,du,ad,st,r,h=>by
  simp only [jD] at h
  split at h
  ·injection h with h;subst h;exact .refl _ _
  ·split at h
   ·rename_i g
    exact ((cO g).two.trans (iK toks (by decide) _).two).trans (tN f _ _ _ r h)
   ·split at h
    ·rename_i g
     exact ((cO g).two.trans (iK toks (by decide) _).two).trans (tN f _ _ _ r h)
    ·injection h with h;subst h;exact (aY toks [59] st).two
theorem BO : ∀ (f : Nat) (du ad : List (List UInt8)) (st : St),mu toks st < f -> ∃ r,jD toks f du ad st = some r
 | 0,_,_,_,h=>by omega
 | f + 1,du,ad,st,h=>by
  simp only [jD]
  split
  ·exact ⟨_,rfl⟩
  ·split
   ·rename_i g
    have h1:=E9 g
    have h2:=(iK toks (k:=3) (by decide) (st.1 + 1,st.2)).two.mu
    exact BO f _ _ _ (by omega)
   ·split
    ·rename_i g
     have h1:=E9 g
     have h2:=(iK toks (k:=3) (by decide) (st.1 + 1,st.2)).two.mu
     exact BO f _ _ _ (by omega)
    ·exact ⟨_,rfl⟩
theorem QO {F : Nat} {st : St} {r : D × St} (h : j5 F toks st = some r) : Step2 toks st r.2:=by
 unfold j5 at h
 simp only at h
 split at h
 ·cases h
 ·rename_i x st1 hz
  split at h
  ·cases h
  ·rename_i du ad st2 hq
   injection h with h;subst h
   exact ((((uW toks [fD,tG] st).two.trans (jN toks _).two).trans (gM toks wIf _)).trans (nE hz)).trans (tN F _ _ _ _ hq)
theorem MV {F : Nat} (hl : toks.length <= 600) (hF : 601 < F) (st : St) : ∃ r,j5 F toks st = some r:=by
 unfold j5
 simp only
 obtain ⟨⟨x,st1⟩,h1⟩:=JJ hl (kQ toks wIf (cS toks (dT toks [fD,tG] st).2).2).1 (kQ toks wIf (cS toks (dT toks [fD,tG] st).2).2).2
 rw [h1]
 simp only
 obtain ⟨⟨du,ad,st2⟩,h2⟩:=BO (toks:=toks) F [] [] st1 (by unfold mu;split <;> omega)
 rw [h2]
 exact ⟨_,rfl⟩
theorem O8 {F : Nat} {st : St} (h0 : st.2 = 0) {r : D × St} (h : j5 F toks st = some r) : mu toks r.2 < mu toks st:=by
 have h':=h
 unfold j5 at h
 simp only at h
 split at h
 ·cases h
 ·rename_i x st1 hz
  split at h
  ·cases h
  ·rename_i du ad st2 hq
   injection h with h;subst h
   have k:=(((jN toks (dT toks [fD,tG] st).2).two.trans (gM toks wIf _)).trans (nE hz)).trans (tN F _ _ _ _ hq)
   have k:=k.mu
   have k1 : mu toks (dT toks [fD,tG] st).2 < mu toks st:=by
    unfold dT
    split
    ·rename_i w hw;exact E9 (dV hw)
    ·have : bO st.1 2 st = (st.1,2):=by unfold bO;rw [h0];rfl
     rw [this]
     unfold mu
     rw [if_pos h0];simp
   exact Nat.lt_of_le_of_lt k k1
theorem A6 {F : Nat} : ∀ (f : Nat) (rs : List D) (st : St) (r : List D × St),eK (j5 F) toks f rs st = some r -> Step2 toks st r.2
 | 0,_,_,_,h=>by simp [eK] at h
 | f + 1,rs,st,r,h=>by
  simp only [eK] at h
  split at h
  ·injection h with h;subst h;exact .refl _ _
  ·split at h
   ·rename_i g;injection h with h;subst h;exact (cO g).two
   ·split at h
    ·cases h
    ·rename_i x st1 hx
     exact (QO hx).trans (A6 f _ _ r h)
theorem CZ {F : Nat} (hl : toks.length <= 600) (hF : 601 < F) : ∀ (f : Nat) (rs : List D) (st : St),mu toks st < f -> ∃ r,eK (j5 F) toks f rs st = some r
 | 0,_,_,h=>by omega
 | f + 1,rs,st,h=>by
  simp only [eK]
  split
  ·exact ⟨_,rfl⟩
  ·rename_i g0
   have g0 : st.2 = 0:=by simpa using g0
   split
   ·exact ⟨_,rfl⟩
   ·obtain ⟨⟨x,st1⟩,hx⟩:=MV (F:=F) hl hF st
    rw [hx]
    have:=O8 g0 hx
    exact CZ hl hF f _ _ (by simp only at this;omega)
theorem LT (toks : List D) (st : St) : mu toks st <= toks.length + 1:=by unfold mu;split <;> omega
theorem NM {F G : Nat} {st : St} {r : D × St} (h : fG F G toks st = some r) : Step2 toks st r.2:=by
 unfold fG at h
 simp only at h
 split at h
 ·cases h
 ·rename_i x st1 hz
  split at h
  ·cases h
  ·rename_i rs st2 hq
   injection h with h;subst h
   refine ((((((((jN toks st).two.trans (aY toks wBy _).two).trans (jN toks _).two).trans (aY toks nS _).two).trans (uF toks _)).trans (aY toks [123] _).two).trans (gM toks Ej _)).trans (nE hz)).trans (Step2.trans ?_ (A6 G _ _ _ hq))
   split
   ·exact (aY toks [59] _).two
   ·exact .refl _ _
theorem PB {F G : Nat} (hl : toks.length <= 600) (hF : 601 < F) (hG : 601 < G) (st : St) : ∃ r,fG F G toks st = some r:=by
 unfold fG
 simp only
 obtain ⟨⟨x,st1⟩,h1⟩:=JJ hl (kQ toks Ej (aD toks [123] (gA toks (aD toks nS (cS toks (aD toks wBy (cS toks st).2)).2)).2)).1 (kQ toks Ej (aD toks [123] (gA toks (aD toks nS (cS toks (aD toks wBy (cS toks st).2)).2)).2)).2
 rw [h1]
 simp only
 obtain ⟨⟨rs,st2⟩,h2⟩:=CZ (F:=F) hl hF G [] (if (kQ toks Ej (aD toks [123] (gA toks (aD toks nS (cS toks (aD toks wBy (cS toks st).2)).2)).2)).1 = true then aD toks [59] st1 else st1) (by have:=LT toks (if (kQ toks Ej (aD toks [123] (gA toks (aD toks nS (cS toks (aD toks wBy (cS toks st).2)).2)).2)).1 = true then aD toks [59] st1 else st1);omega)
 rw [h2]
 exact ⟨_,rfl⟩
theorem E6 {P : gP} {w : List UInt8} (hP : ∀ st r,P toks st = some r -> Step2 toks st r.2) : ∀ (f : Nat) (xs : List D) (st : St) (r : List D × St),gH P w toks f xs st = some r -> Step2 toks st r.2
 | 0,_,_,_,h=>by simp [gH] at h
 | f + 1,xs,st,r,h=>by
  simp only [gH] at h
  split at h
  ·rename_i g
   split at h
   ·cases h
   ·rename_i x st1 hx
    exact ((cO g).two.trans (hP _ _ hx)).trans (E6 hP f _ _ r h)
  ·injection h with h;subst h;exact .refl _ _
theorem Ao {P : gP} {w : List UInt8} (hP : ∀ st r,P toks st = some r -> Step2 toks st r.2) (hT : ∀ st,∃ r,P toks st = some r) : ∀ (f : Nat) (xs : List D) (st : St),mu toks st < f -> ∃ r,gH P w toks f xs st = some r
 | 0,_,_,h=>by omega
 | f + 1,xs,st,h=>by
  simp only [gH]
  split
  ·rename_i g
   obtain ⟨⟨x,st1⟩,hx⟩:=hT (st.1 + 1,st.2)
   have h1:=E9 g
   have h2:=(hP _ _ hx).mu
   rw [hx]
   exact Ao hP hT f _ _ (by simp only at h2;omega)
  ·exact ⟨_,rfl⟩
end
section
variable {toks : List D}
theorem Io {st : St} (h : (gA toks st).2.2 = 0) : cG 1 (gA toks st).1 0 = true:=by
 obtain ⟨k1,k2,k3,k4⟩:=AH (k:=1) (by decide) h
 unfold gA
 rw [k4]
 unfold pH at k3
 rw [k1] at k3
 have : (eD (ts (bI toks st)) && (tn (bI toks st) == 0)) = true:=k3
 simp only [Bool.and_eq_true,beq_iff_eq] at this
 rw [this.2] at k3;exact k3
theorem IJ {st : St} (h : (cL toks 3 st).2.2 = 0) : uQ (ts (cL toks 3 st).1) = true:=by
 obtain ⟨k1,k2,k3,k4⟩:=AH (k:=3) (by decide) h
 rw [k4]
 unfold pH at k3
 rw [k1] at k3
 have : ((ts (bI toks st)).all (fun b=>dY b.toNat) && decide (((ts (bI toks st)).length : Int) <= 64) && (tn (bI toks st) == 0)) = true:=k3
 simp only [Bool.and_eq_true,beq_iff_eq] at this
 unfold uQ
 rw [this.2] at k3;exact k3
theorem P3 {st : St} (h : (pN toks st).2.2 = 0) : okF (pN toks st).1 = true:=by
 have s1:=(uW toks p7 (bU toks st).2.2).two
 have s2:=s1.trans ((gM toks DC _).trans (aY toks [59] _).two)
 have h' : (aD toks [59] (kQ toks DC (dT toks p7 (bU toks st).2.2).2).2).2 = 0:=h
 have hA:=s2.e0 h'
 have hK:=((gM toks DC (dT toks p7 (bU toks st).2.2).2).trans (aY toks [59] _).two).e0 h'
 obtain ⟨a1,a2,_⟩:=DN hA
 obtain ⟨_,k2,_⟩:=N9 hK
 have key : ∀ w ∈ p7,1 <= iQ w /\ iQ w <= 4:=by decide
 obtain ⟨k3,k4⟩:=key _ k2
 show (inB j7 (bU toks st).1 && (gL (bU toks st).2.1 && (!(decide (iQ (dT toks p7 (bU toks st).2.2).1 < 1)) && !(decide (4 < iQ (dT toks p7 (bU toks st).2.2).1))))) = true
 rw [a1,a2]
 simp only [Bool.true_and,Bool.and_eq_true,Bool.not_eq_true',decide_eq_false_iff_not]
 omega
theorem Jc (w : List UInt8) : -(2 ^ 63) <= iQ w /\ iQ w < 2 ^ 63:=by
 unfold iQ;(repeat' split) <;> decide
theorem Mc (ht : toks.all bR = true) (st : St) : isF (pN toks st).1:=by
 obtain ⟨h1,h2⟩:=lU ht st
 obtain ⟨h3,h4⟩:=Jc (dT toks p7 (bU toks st).2.2).1
 exact ⟨_,_,_,_,rfl,h1,h2,h3,h4⟩
theorem Mx (ht : toks.all bR = true) {st : St} {r : D × St} (h : lH toks st = some r) : isE aK r.1 /\ (r.2.2 = 0 -> okE r.1):=by
 unfold lH at h
 split at h
 ·cases h
 ·rename_i x st1 hz
  injection h with h;subst h
  have hx : isE aK x:=iE 10000 .expr toks st _ ht hz
  refine ⟨hx,fun h0=>?_⟩
  simp only at h0
  split at h0
  ·rename_i g
   simp only [Bool.and_eq_true,beq_iff_eq] at g
   have e : bO st.1 11 st1 = (st.1,11):=by unfold bO;rw [g.1];rfl
   rw [e] at h0
   cases h0
  ·rename_i g
   have hR:=uN ht 10000 .expr st x st1 hz h0
   have hR : Rdd toks 0 x st.1 st1.1:=hR
   refine ⟨hx,hR.g,vT 10000 .expr toks st (x,st1) ht hz,?_⟩
   rw [h0] at g
   simpa using g
theorem OP : iV aK iO iO = true:=by
 have:=Gv
 simp only [oT] at this
 rw [if_pos ⟨Ea,Ea⟩] at this
 simpa using this
theorem Hs (ht : toks.all bR = true) {b : Bool} {st : St} {r : D × St} (h : Bn toks b st = some r) : isE aK r.1 /\ (r.2.2 = 0 -> CH b r.1 = true /\ rgC r.1):=by
 unfold Bn at h
 cases b with
 | true =>
  rw [if_pos rfl] at h
  obtain ⟨h1,h2⟩:=Mx ht h
  refine ⟨h1,fun h0=>?_⟩
  have:=h2 h0
  refine ⟨?_,this.r⟩
  unfold CH
  rw [if_pos rfl,this.g.fm this.s]
  simp [this.d]
 | false =>
  rw [if_neg (by decide)] at h
  injection h with h;subst h
  refine ⟨Ea,fun _=>⟨?_,D8 (fun x hx=>by cases hx) fun x hx=>by cases hx⟩⟩
  unfold CH
  rw [if_neg (by decide)];exact OP
theorem ER (ht : toks.all bR = true) : ∀ (f : Nat) (du ad : List (List UInt8)) (st : St) (r : List (List UInt8) × List (List UInt8) × St),jD toks f du ad st = some r -> (∀ s ∈ du ++ ad,s.length <= 2 ^ 47) →
  (∀ s ∈ r.1 ++ r.2.1,s.length <= 2 ^ 47) /\ (r.2.2.2 = 0 -> (∀ s ∈ du ++ ad,uQ s = true) -> ∀ s ∈ r.1 ++ r.2.1,uQ s = true)
 | 0,_,_,_,_,h,_=>by simp [jD] at h
 | f + 1,du,ad,st,r,h,hl=>by
  simp only [jD] at h
  split at h
  ·injection h with h;subst h;exact ⟨hl,fun _ h=>h⟩
  ·split at h
   ·obtain ⟨i1,i2⟩:=ER ht f _ _ _ r h (fun s hs=>by
     simp only [List.mem_append,List.mem_singleton] at hs
     rcases hs with (hs | hs) | hs
     ·exact hl s (by simp [hs])
     ·rw [hs];exact (qJ ht 3 _).1
     ·exact hl s (by simp [hs]))
    have s1:=tN f _ _ _ r h
    refine ⟨i1,fun h0 hq=>i2 h0 fun s hs=>?_⟩
    simp only [List.mem_append,List.mem_singleton] at hs
    rcases hs with (hs | hs) | hs
    ·exact hq s (by simp [hs])
    ·rw [hs];exact IJ (s1.e0 h0)
    ·exact hq s (by simp [hs])
   ·split at h
    ·obtain ⟨i1,i2⟩:=ER ht f _ _ _ r h (fun s hs=>by
      simp only [List.mem_append,List.mem_singleton] at hs
      rcases hs with hs | hs | hs
      ·exact hl s (by simp [hs])
      ·exact hl s (by simp [hs])
      ·rw [hs];exact (qJ ht 3 _).1)
     have s1:=tN f _ _ _ r h
     refine ⟨i1,fun h0 hq=>i2 h0 fun s hs=>?_⟩
     simp only [List.mem_append,List.mem_singleton] at hs
     rcases hs with hs | hs | hs
     ·exact hq s (by simp [hs])
     ·exact hq s (by simp [hs])
     ·rw [hs];exact IJ (s1.e0 h0)
    ·injection h with h;subst h;exact ⟨hl,fun _ h=>h⟩
theorem O3 (ht : toks.all bR = true) {F : Nat} (hF : F <= 2 ^ 40) {st : St} {r : D × St} (h : j5 F toks st = some r) : isR aK r.1 /\ (r.2.2 = 0 -> okR r.1 = true /\ rgC (rE r.1)):=by
 unfold j5 at h
 simp only at h
 split at h
 ·cases h
 ·rename_i x st1 hz
  split at h
  ·cases h
  ·rename_i du ad st2 hq
   have hlen:=rV toks F [] [] st1 _ hq
   injection h with h;subst h
   obtain ⟨x1,x2⟩:=Hs ht hz
   obtain ⟨q1,q2⟩:=ER ht F [] [] st1 _ hq (by simp)
   have q3:=tN F _ _ _ _ hq
   simp only [List.length_nil,Nat.zero_add] at hlen
   rw [Nr x1]
   refine ⟨⟨_,_,_,x,_,_,_,_,rfl,x1,vO ht _,⟨by omega,fun s hs=>q1 s (by simp [hs])⟩,by omega,fun s hs=>q1 s (by simp [hs])⟩,fun h0=>?_⟩
   have e1 : st1.2 = 0:=q3.e0 h0
   have sI:=gM toks wIf (cS toks (dT toks [fD,tG] st).2).2
   have e2:=(sI.trans (nE hz)).e0 e1
   obtain ⟨_,_,n3,_⟩:=AI e2
   obtain ⟨o1,o2⟩:=x2 e1
   have q4:=q2 h0 (by simp)
   refine ⟨?_,by rw [Fu _ _ _ _ _ _ _ _ x1];exact o2⟩
   unfold okR
   rw [Ax,Ds,L0,NN,Fu _ _ _ _ _ _ _ _ x1,n3,o1,List.all_eq_true.2 fun s hs=>q4 s (by simp [hs]),List.all_eq_true.2 fun s hs=>q4 s (by simp [hs])]
   rfl
theorem G4 (ht : toks.all bR = true) {F : Nat} (hF : F <= 2 ^ 40) : ∀ (f : Nat) (rs : List D) (st : St) (r : List D × St),eK (j5 F) toks f rs st = some r -> (∀ x ∈ rs,isR aK x) →
  (∀ x ∈ r.1,isR aK x) /\ (r.2.2 = 0 -> (∀ x ∈ rs,okR x = true /\ rgC (rE x)) -> ∀ x ∈ r.1,okR x = true /\ rgC (rE x))
 | 0,_,_,_,h,_=>by simp [eK] at h
 | f + 1,rs,st,r,h,hl=>by
  simp only [eK] at h
  split at h
  ·injection h with h;subst h;exact ⟨hl,fun _ h=>h⟩
  ·split at h
   ·injection h with h;subst h;exact ⟨hl,fun _ h=>h⟩
   ·split at h
    ·cases h
    ·rename_i x st1 hx
     obtain ⟨x1,x2⟩:=O3 ht hF hx
     obtain ⟨i1,i2⟩:=G4 ht hF f _ _ r h (fun y hy=>by
      simp only [List.mem_append,List.mem_singleton] at hy
      rcases hy with hy | rfl
      ·exact hl y hy
      ·exact x1)
     refine ⟨i1,fun h0 hq=>i2 h0 fun y hy=>?_⟩
     simp only [List.mem_append,List.mem_singleton] at hy
     rcases hy with hy | rfl
     ·exact hq y hy
     ·exact x2 ((A6 f _ _ _ h).e0 h0)
theorem QK (ht : toks.all bR = true) {F G : Nat} (hF : F <= 2 ^ 40) (hG : G <= 2 ^ 40) {st : St} {r : D × St} (h : fG F G toks st = some r) : C7 aK r.1 /\ (r.2.2 = 0 -> okP r.1 = true /\ rgC (pE r.1) /\ ∀ x ∈ pRs r.1,rgC (rE x)):=by
 unfold fG at h
 simp only at h
 split at h
 ·cases h
 ·rename_i x st1 hz
  split at h
  ·cases h
  ·rename_i rs st2 hq
   have hlen:=uC toks G [] _ _ hq
   injection h with h;subst h
   obtain ⟨x1,x2⟩:=Hs ht hz
   obtain ⟨q1,q2⟩:=G4 ht hF G [] _ _ hq (by simp)
   have q3:=A6 G _ _ _ hq
   simp only [List.length_nil,Nat.zero_add] at hlen
   rw [J1 x1]
   refine ⟨⟨_,_,_,_,x,_,rs,rfl,x1,vO ht _,vO ht _,(qJ ht 1 _).1,by omega,q1⟩,fun h0=>?_⟩
   have e1:=q3.e0 h0
   have e1 : st1.2 = 0:=by
    split at e1
    ·exact (aY toks [59] st1).e0 e1
    ·exact e1
   have e2:=(nE hz).e0 e1
   have e3:=(gM toks Ej _).e0 e2
   have e4:=(aY toks [123] _).e0 e3
   have e5:=(uF toks _).e0 e4
   have e6:=(aY toks nS _).e0 e5
   have e7:=(jN toks _).e0 e6
   have e8:=(aY toks wBy _).e0 e7
   obtain ⟨o1,o2⟩:=x2 e1
   have q4:=q2 h0 (by simp)
   rw [lK,GL _ _ _ _ _ _ _ x1]
   refine ⟨?_,o2,fun y hy=>(q4 y hy).2⟩
   unfold okP
   rw [BJ,N4,Dw,DK,lK,GL _ _ _ _ _ _ _ x1,(AI e8).2.2.1,(AI e6).2.2.1,Io e4,o1,List.all_eq_true.2 fun y hy=>(q4 y hy).1]
   rfl
theorem EO {P : gP} {w : List UInt8} {A B : D -> Prop} (hS : ∀ st r,P toks st = some r -> Step2 toks st r.2) (hP : ∀ st r,P toks st = some r -> A r.1 /\ (r.2.2 = 0 -> B r.1)) : ∀ (f : Nat) (xs : List D) (st : St) (r : List D × St),gH P w toks f xs st = some r -> (∀ x ∈ xs,A x) →
  (∀ x ∈ r.1,A x) /\ (r.2.2 = 0 -> (∀ x ∈ xs,B x) -> ∀ x ∈ r.1,B x) /\ r.1.length <= xs.length + f
 | 0,_,_,_,h,_=>by simp [gH] at h
 | f + 1,xs,st,r,h,hl=>by
  simp only [gH] at h
  split at h
  ·split at h
   ·cases h
   ·rename_i x st1 hx
    obtain ⟨x1,x2⟩:=hP _ _ hx
    obtain ⟨i1,i2,i3⟩:=EO hS hP f _ _ r h (fun y hy=>by
     simp only [List.mem_append,List.mem_singleton] at hy
     rcases hy with hy | rfl
     ·exact hl y hy
     ·exact x1)
    refine ⟨i1,fun h0 hq=>i2 h0 fun y hy=>?_,by simp at i3;omega⟩
    simp only [List.mem_append,List.mem_singleton] at hy
    rcases hy with hy | rfl
    ·exact hq y hy
    ·exact x2 ((E6 hS f _ _ _ h).e0 h0)
  ·injection h with h;subst h;exact ⟨hl,fun _ h=>h,by simp⟩
theorem HP (st : St) (r : D × St) (h : oI toks st = some r) : Step2 toks st r.2:=by
 unfold oI at h;injection h with h;subst h;exact HX toks st
theorem yL (ht : toks.all bR = true) (hl : toks.length <= 600) : ∃ x at' e,qB toks = some (x,at',e) /\ kI aK x /\ at' <= toks.length /\ ((e = 0 /\ at' = 0 /\ okD x = true /\ rgD x) ∨ ((e = 2 ∨ e = 11) /\ x = bS)):=by
 unfold qB
 rw [if_neg (by omega)]
 unfold OS
 obtain ⟨⟨fs,st1⟩,h1⟩:=Ao (P:=oI) (w:=JI) (toks:=toks) HP (fun st=>⟨_,rfl⟩) 1000 [] (0,0) (by have:=LT toks (0,0);omega)
 obtain ⟨⟨ps,st4⟩,h4⟩:=Ao (P:=fG 1000 1000) (w:=zY) (toks:=toks) (fun st r h=>NM h) (fun st=>PB hl (by omega) (by omega) st) 1000 [] (aD toks [59] (gA toks (aD toks nS st1)).2) (by have:=LT toks (aD toks [59] (gA toks (aD toks nS st1)).2);omega)
 rw [h1]
 simp only
 rw [h4]
 simp only
 have S1:=E6 HP 1000 [] (0,0) _ h1
 have S4:=E6 (fun st r h=>NM h) 1000 [] _ _ h4
 have S2:=(aY toks nS st1).two
 have S3:=(uF toks (aD toks nS st1)).trans (aY toks [59] _).two
 obtain ⟨f1,f2,f3⟩:=EO (A:=isF) (B:=fun x=>okF x = true) HP (fun st r h=>by
  unfold oI at h;injection h with h;subst h
  exact ⟨Mc ht st,P3⟩) 1000 [] (0,0) _ h1 (by simp)
 obtain ⟨p1,p2,p3⟩:=EO (A:=C7 aK) (B:=fun x=>okP x = true /\ rgC (pE x) /\ ∀ r ∈ pRs x,rgC (rE r)) (fun st r h=>NM h) (fun st r h=>QK ht (by omega) (by omega) h) 1000 [] _ _ h4 (by simp)
 have all:=((S1.trans S2).trans S3).trans S4
 obtain ⟨a1,a2⟩:=all.ok ⟨.inl rfl,Nat.zero_le _⟩
 have hE : (lG toks st4).1 <= toks.length /\ ((lG toks st4).2 = 0 ∨ (lG toks st4).2 = 2 ∨ (lG toks st4).2 = 11) /\ ((lG toks st4).2 = 0 -> st4.2 = 0):=by
  unfold lG
  split
  ·exact ⟨a2,.inr (.inl rfl),fun h=>by cases h⟩
  ·exact ⟨a2,a1,fun h=>h⟩
 obtain ⟨e1,e2,e3⟩:=hE
 by_cases g : (lG toks st4).2 = 0
 ·have g' : ((lG toks st4).2 != 0) = false:=by simpa using g
  rw [g']
  have z4:=e3 g
  have z3:=S4.e0 z4
  have z2:=S3.e0 z3
  have z1:=S2.e0 z2
  have zw:=(aY toks [59] _).e0 z3
  simp only [List.length_nil,Nat.zero_add] at f3 p3
  have hD : kI aK (dA true fs (gA toks (aD toks nS st1)).1 true ps):=⟨_,_,_,_,_,rfl,by omega,(qJ ht 1 _).1,by omega,f1,p1⟩
  refine ⟨_,_,_,rfl,hD,Nat.zero_le _,.inl ⟨rfl,rfl,?_,?_⟩⟩
  ·show okD (dA true fs (gA toks (aD toks nS st1)).1 true ps) = true
   unfold okD
   rw [mQ,DJ,mZ,Io zw,List.all_eq_true.2 (f2 z1 (by simp)),List.all_eq_true.2 fun x hx=>(p2 z4 (by simp) x hx).1]
   rfl
  ·show rgD (dA true fs (gA toks (aD toks nS st1)).1 true ps)
   unfold rgD
   rw [mZ]
   exact fun x hx=>(p2 z4 (by simp) x hx).2
 ·have g' : ((lG toks st4).2 != 0) = true:=by simpa using g
  rw [g']
  exact ⟨_,_,_,rfl,⟨true,[],[],true,[],rfl,by simp,by simp,by simp,by simp,by simp⟩,e1,.inr ⟨by omega,rfl⟩⟩
end
end GP
namespace GP
open Go Go.Proofs
set_option maxRecDepth 100000
theorem jW : kI aK bS:=⟨true,[],[],true,[],rfl,by simp,by simp,by simp,by simp,by simp⟩
theorem Bq : ∀ (n : Nat) (l out : List UInt8) (k : Nat),l.length <= n -> (oN l out k).1.length <= out.length + l.length
 | _,[],out,k,_=>by rw [vD];simp
 | 0,_ :: _,_,_,h=>by simp at h
 | n + 1,c :: r,out,k,h=>by
  rw [sA]
  split
  ·simp
  split
  ·cases r with
   | nil=>simp
   | cons d r =>
    simp only
    split
    ·simp
    split
    ·simp
    ·have:=Bq n r (out ++ [d]) (k + 2) (by simp at h ⊢;omega)
     simp only [List.length_cons,List.length_append,List.length_nil] at this ⊢;omega
  split
  ·simp
  split
  ·simp
  ·have:=Bq n r (out ++ [c]) (k + 1) (by simp at h;omega)
   simp only [List.length_cons,List.length_append,List.length_nil] at this ⊢;omega
theorem J0 (l : List UInt8) (a : Nat) {m : Int} (hm : 0 <= m) (h2 : m < 2 ^ 63) : 0 <= (p8 l a m).1 /\ (p8 l a m).1 < 2 ^ 63:=by
 unfold p8
 split
 ·exact ⟨by simp,by simp⟩
 ·rename_i h
  rw [Bool.or_eq_true,not_or,decide_eq_true_eq] at h
  exact ⟨by simp only;omega,by simp only;omega⟩
theorem LB {x : List UInt8} (h : x ∈ cN) : x.length <= 2:=by
 have key : ∀ x ∈ cN,x.length <= 2:=by decide
 exact key x h
theorem Ql {l : List UInt8} (hl : l.length <= 2 ^ 40) (a : Nat) : bR (oH l a).1 = true:=by
 have hz : bR (mkT 0 [] 0) = true:=sB (by simp) (by decide) (by decide)
 unfold oH
 split
 ·unfold E3
  split
  ·split
   ·exact hz
   ·refine sB ?_ (by decide) (by decide)
    have : (aP l a (a + eX b9 l a)).length <= l.length:=by unfold aP;simp;omega
    omega
  split
  ·have:=J0 l a (m:=9223372036854775807) (by decide) (by decide)
   exact sB (by simp) (by decide) (by omega)
  split
  ·split
   ·exact hz
   ·have:=J0 l (a + 1) (m:=1099511627776) (by decide) (by decide)
    exact sB (by simp) (by decide) (by omega)
  split
  ·have:=Bq _ (l.drop (a + 1)) [] 1 (Nat.le_refl _)
   refine sB ?_ (by decide) (by decide)
   unfold CC
   simp only [List.length_drop,List.length_nil] at this
   omega
  ·unfold wE
   split
   ·rename_i x hx
    have:=LB (List.mem_of_find?_eq_some hx)
    exact sB (by omega) (by decide) (by decide)
   ·exact hz
 ·exact hz
structure LexS (l : List UInt8) (r : List D × Nat × Int) : Prop where
 t : r.1.all bR = true
 n : r.1.length <= 600
 m : r.1.length <= l.length
 a : r.2.1 <= l.length
 e : r.2.2 = 0 ∨ r.2.2 = 2 ∨ r.2.2 = 3 ∨ r.2.2 = 13
theorem MR {l : List UInt8} (hl : l.length <= 2 ^ 40) : ∀ (f a : Nat) (out : List D),l.length < a + f -> 1 <= f -> out.length <= a -> out.length <= l.length -> out.length <= 600 -> out.all bR = true -> LexS l (zQ f l a out)
 | 0,_,_,_,h,_,_,_,_=>by omega
 | f + 1,a,out,h1,_,h3,h4,h5,h6=>by
  rw [rZ]
  split
  ·exact ⟨h6,h5,h4,by simp,.inl rfl⟩
  rename_i q1
  rw [decide_eq_true_eq] at q1
  split
  ·exact ⟨rfl,by simp,by simp,by simp only;omega,.inr (.inl rfl)⟩
  rename_i q2
  rw [beq_iff_eq] at q2
  split
  ·exact ⟨rfl,by simp,by simp,by simp only;omega,.inr (.inr (.inr rfl))⟩
  rename_i q3
  rw [beq_iff_eq] at q3
  have hb : a + (oH l a).2 <= f9 l (a + (oH l a).2):=by unfold f9;omega
  refine MR hl f _ _ (by omega) (by omega) ?_ ?_ ?_ ?_
  ·rw [List.length_append,List.length_singleton];omega
  ·rw [List.length_append,List.length_singleton];omega
  ·rw [List.length_append,List.length_singleton];omega
  ·rw [List.all_append,h6];simp [Ql hl a]
theorem NH (l : List UInt8) : LexS l (o5 l):=by
 unfold o5
 split
 ·exact ⟨rfl,by simp,by simp,by simp,.inr (.inr (.inl rfl))⟩
 ·rename_i h
  rw [decide_eq_true_eq] at h
  exact MR (by omega) _ _ _ (by unfold f9;omega) (by omega) (by simp) (by simp) (by simp) rfl
theorem He {toks : List D} {P : gP} {w : List UInt8} {A : D -> Prop} (hP : ∀ st r,P toks st = some r -> A r.1) : ∀ (f : Nat) (xs : List D) (st : St) (r : List D × St),gH P w toks f xs st = some r -> (∀ x ∈ xs,A x) -> (∀ x ∈ r.1,A x) /\ r.1.length <= xs.length + f
 | 0,_,_,_,h,_=>by simp [gH] at h
 | f + 1,xs,st,r,h,hl=>by
  simp only [gH] at h
  split at h
  ·split at h
   ·cases h
   ·rename_i x st1 hx
    have x1:=hP _ _ hx
    obtain ⟨i1,i3⟩:=He hP f _ _ r h (fun y hy=>by
     simp only [List.mem_append,List.mem_singleton] at hy
     rcases hy with hy | rfl
     ·exact hl y hy
     ·exact x1)
    exact ⟨i1,by simp at i3;omega⟩
  ·injection h with h;subst h;exact ⟨hl,by simp⟩
theorem PH {toks : List D} (ht : toks.all bR = true) {F G : Nat} {st : St} {r : D × St} (h : fG F G toks st = some r) : (pRs r.1).length <= G:=by
 unfold fG at h
 simp only at h
 split at h
 ·cases h
 ·rename_i x st1 hz
  split at h
  ·cases h
  ·rename_i rs st2 hq
   have hlen:=uC toks G [] _ _ hq
   injection h with h;subst h
   obtain ⟨x1,x2⟩:=Hs ht hz
   rw [J1 x1,lK]
   simpa using hlen
theorem K7 {toks : List D} (ht : toks.all bR = true) {x : D} {at' : Nat} {e : Int} (h : qB toks = some (x,at',e)) : (dFs x).length <= 1000 /\ (dPs x).length <= 1000 /\ ∀ p ∈ dPs x,(pRs p).length <= 1000:=by
 have z : (dFs bS).length <= 1000 /\ (dPs bS).length <= 1000 /\ ∀ p ∈ dPs bS,(pRs p).length <= 1000:=⟨by decide,by decide,fun p hp=>by cases hp⟩
 unfold qB at h
 split at h
 ·injection h with h;injection h with h _;subst h;exact z
 ·unfold OS at h
  split at h
  ·cases h
  ·rename_i fs st1 h1
   split at h
   ·cases h
   ·rename_i ps st4 h4
    obtain ⟨_,f2⟩:=He (A:=fun _=>True) (fun _ _ _=>trivial) _ _ _ _ h1 (by simp)
    obtain ⟨p1,p2⟩:=He (A:=fun p=>(pRs p).length <= 1000) (fun st r h=>PH ht h) _ _ _ _ h4 (by simp)
    injection h with h
    split at h
    ·injection h with h _;subst h;exact z
    ·injection h with h _;subst h
     have e1 : dFs (.agg [aA true fs,.str (gA toks (aD toks nS st1)).1,aA true ps]) = fs:=mQ ..
     have e2 : dPs (.agg [aA true fs,.str (gA toks (aD toks nS st1)).1,aA true ps]) = ps:=mZ ..
     rw [e1,e2]
     exact ⟨by simpa using f2,by simpa using p2,p1⟩
theorem GJ {toks : List D} (ht : toks.all bR = true) {x : D} {at' : Nat} {e : Int} (h : qB toks = some (x,at',e)) (hd : kI aK x) : ckD2 x:=by
 obtain ⟨h1,h2,h3⟩:=K7 ht h
 exact ⟨hd,by omega,by omega,fun p hp=>by have:=h3 p hp;omega⟩
theorem JL {d : D} (h : okD d = true) : uR (dFs d):=fun f hf=>by
 obtain ⟨_,o2,_⟩:=WF h
 have:=o2 f hf
 unfold okF at this
 simp only [Bool.and_eq_true,Bool.not_eq_true',decide_eq_false_iff_not] at this
 omega
theorem Ah {m : Bool} {l : List D} (h : ∀ x ∈ l,x.cl 0 0 = true) : (aA m l).cl 0 0 = true:=by
 have e : D.clL 0 0 l = true:=jS h
 rcases aU m l with ⟨e1,rfl⟩ | e1 <;> rw [e1]
 ·rfl
 ·simp [D.cl,e]
theorem LR : ∀ {n : Nat} {d : D},isE n d -> d.cl 0 0 = true
 | 0,_,h=>h.elim
 | n + 1,d,h=>by
  obtain ⟨op,k,i,s,nl,l,who,name,m,ps,rfl,h1,h2,h3,h4,h5,h6⟩:=h
  have c : (mkV k i s nl l).cl 0 0 = true:=Lf h4.1
  have cp:=Ah (m:=m) fun x hx=>LR (h6 x hx)
  simp only [mkV,D.cl,D.clL] at c
  simp only [mkE,D.cl,D.clL,cp]
  simpa using c
theorem Iq {n : Nat} {e : D} (h : isE n e) : (cE e 0).cl 0 0 = true /\ (cE e 1).cl 0 0 = true /\ (cE e 2).cl 0 0 = true /\ (cE e 3).cl 0 0 = true /\ (cE e 4).cl 0 0 = true /\ (cE e 5).cl 0 0 = true /\ (cE e 6).cl 0 0 = true /\ (cE e 7).cl 0 0 = true:=by
 have c:=LR h
 rw [<- mS h] at c
 simp only [D.cl,D.clL,Bool.and_eq_true,and_true] at c
 exact ⟨c.1,c.2.1,c.2.2.1,c.2.2.2.1,c.2.2.2.2.1,c.2.2.2.2.2.1,c.2.2.2.2.2.2.1,c.2.2.2.2.2.2.2⟩
theorem Mf (m : Bool) (l : List (List UInt8)) : (aA m (l.map D.str)).cl 0 0 = true:=Ah fun x hx=>by
 obtain ⟨y,_,rfl⟩:=List.mem_map.1 hx;rfl
theorem Rr {n : Nat} {r : D} (h : isR n r) : r.cl 0 0 = true:=by
 obtain ⟨pm,hi,nm,e,m,m',du,ad,rfl,he,_⟩:=h
 obtain ⟨a0,a1,a2,a3,a4,a5,a6,a7⟩:=Iq he
 simp only [mkR,D.cl,D.clL,a0,a1,a2,a3,a4,a5,a6,a7,Mf,Bool.and_self]
theorem PR {n : Nat} {p : D} (h : C7 n p) : p.cl 0 0 = true:=by
 obtain ⟨nm,bn,us,hf,e,m,rs,rfl,he,_,_,_,_,k⟩:=h
 obtain ⟨a0,a1,a2,a3,a4,a5,a6,a7⟩:=Iq he
 have c:=Ah (m:=m) fun x hx=>Rr (k x hx)
 simp only [mkP,D.cl,D.clL,a0,a1,a2,a3,a4,a5,a6,a7,c,Bool.and_self]
theorem Ma {n : Nat} {d : D} (h : kI n d) : d.cl 0 0 = true:=by
 obtain ⟨m,fs,us,m',ps,rfl,_,_,_,k4,k5⟩:=h
 have c1:=Ah (m:=m) (l:=fs) fun x hx=>by
  obtain ⟨w,n,k,b,rfl,_⟩:=k4 x hx;rfl
 have c2:=Ah (m:=m') fun x hx=>PR (k5 x hx)
 simp only [dA,D.cl,D.clL,c1,c2,Bool.and_self]
noncomputable def oY (l : List UInt8) : D × Nat × Int :=
 if (o5 l).2.2 != 0 then (bS,(o5 l).2.1,(o5 l).2.2) else
 match qB (o5 l).1 with
 | none=>(bS,0,99)
 | some r=>if r.2.2 != 0 then (bS,r.2.1,r.2.2) else if ckI r.1 != 0 then (bS,r.2.1,ckI r.1) else (r.1,0,0)
noncomputable def AZ : List D -> Option D
 | [.str l]=>if l.length <= 2 ^ 60 then some (.tup [(oY l).1,.int .i64 ((oY l).2.1 : Nat),.int .i64 (oY l).2.2]) else none
 | _=>none
structure LoadS (l : List UInt8) (r : D × Nat × Int) : Prop where
 d : kI aK r.1
 k : ckD2 r.1
 bad : r.2.2 ≠ 0 -> r.1 = bS /\ r.2.1 <= l.length
 good : r.2.2 = 0 -> okD r.1 = true /\ rgD r.1 /\ ckI r.1 = 0
theorem DZ : ckD2 bS:=⟨jW,by decide,by decide,fun p hp=>by cases hp⟩
theorem IW (l : List UInt8) : LoadS l (oY l):=by
 obtain ⟨s1,s2,s3,s4,s5⟩:=NH l
 unfold oY
 split
 ·rename_i h
  have h : (o5 l).2.2 ≠ 0:=by simpa using h
  exact ⟨jW,DZ,fun _=>⟨rfl,s4⟩,fun k=>absurd k h⟩
 obtain ⟨x,a,e,hp,hd,ha,hx⟩:=yL s1 s2
 have hck:=GJ s1 hp hd
 rw [hp]
 simp only
 split
 ·rename_i h
  have h : e ≠ 0:=by simpa using h
  exact ⟨jW,DZ,fun _=>⟨rfl,by simp only;omega⟩,fun k=>absurd k h⟩
 rename_i h
 have h : e = 0:=by simpa using h
 rcases hx with ⟨_,h0,ho,hr⟩ | ⟨h2 | h2,_⟩
 ·split
  ·rename_i k
   have k : ckI x ≠ 0:=by simpa using k
   exact ⟨jW,DZ,fun _=>⟨rfl,by simp only;omega⟩,fun q=>absurd q k⟩
  ·rename_i k
   have k : ckI x = 0:=by simpa using k
   exact ⟨hd,hck,fun q=>absurd rfl q,fun _=>⟨ho,hr,k⟩⟩
 ·omega
 ·omega
theorem LF {r : D × Nat × Int} (h : kI aK r.1) : (D.tup [r.1,.int .i64 (r.2.1 : Nat),.int .i64 r.2.2]).cl 0 0 = true:=by
 simp only [D.cl,D.clL,Ma h,Bool.and_self]
set_option maxHeartbeats 8000000 in
theorem Zz : aO Tryz.prog 41 AZ:=by
 refine aG (l:=[(40,tL),(31,rA),(93,Lu)]) (.cons ZV (.cons A1z (.cons A0V .nil))) Zo fun args r h=>?_
 unfold AZ at h
 split at h
 ·rename_i l
  split at h
  ·rename_i hl
   injection h with h;subst h
   refine ⟨by simp,LF (IW l).d,fun H T=>?_⟩
   have p1 : tL [.str l] = some (sJ (o5 l)):=by simp only [tL];rw [if_pos (by omega)]
   obtain ⟨s1,s2,s3,s4,s5⟩:=NH l
   unfold oY
   obtain ⟨⟨toks,at0,e0⟩,hL⟩ : ∃ z,o5 l = z:=⟨_,rfl⟩
   rw [hL] at p1 s1 s2 s3 s4 s5 ⊢
   simp only [sJ] at p1
   simp only at s1 s2 s3 s4 s5 ⊢
   rcases tf (e0 != 0) with g0 | g0
   ·simp only [g0,if_true]
    simp +contextual only [c41,p1,g0,bS,go_sem]
   simp only [g0,Bool.false_eq_true,if_false]
   obtain ⟨x,a,e,hp,hd,ha,hx⟩:=yL s1 s2
   have hck:=GJ s1 hp hd
   have te:=z6 s1
   have p2 : rA [aA true toks] = some (.tup [x,.int .i64 (a : Nat),.int .i64 e]):=by
    simp only [rA]
    rw [qX,aQ,s1,hp]
    simp only [Bool.true_and]
    rw [if_pos (by simp only [decide_eq_true_eq];omega)]
    rfl
   have et : (aA true toks).erase = aA true toks:=by rw [bE,te]
   rw [hp]
   simp only
   obtain ⟨q1,q2,q3,q4⟩:=yX hd
   have ed:=dX hd
   have p3 : Lu [x] = some (.int .i64 (ckI x)):=by simp only [Lu];rw [if_pos hck]
   rcases tf (e != 0) with g1 | g1
   ·have g2 : (e == 0) = false:=by simpa [bne] using g1
    simp only [g1,if_true]
    simp +contextual only [c41,p1,g0,et,p2,g1,g2,q1,q2,q3,q4,bS,go_sem]
   have g2 : (e == 0) = true:=by simpa [bne] using g1
   simp only [g1,Bool.false_eq_true,if_false]
   obtain ⟨ck,hk⟩ : ∃ z,ckI x = z:=⟨_,rfl⟩
   rw [hk] at p3 ⊢
   rcases tf (ck != 0) with g3 | g3
   ·simp only [g3,if_true]
    simp +contextual only [c41,p1,g0,et,p2,g1,g2,p3,g3,ed,q1,q2,q3,q4,bS,go_sem]
   ·simp only [g3,Bool.false_eq_true,if_false]
    simp +contextual only [c41,p1,g0,et,p2,g1,g2,p3,g3,ed,q1,q2,q3,q4,bS,go_sem]
  ·cases h
 ·cases h
open Classical in
noncomputable def Fw : List D -> Option D
 | [a,b]=>if a = bS /\ b = bS then some (.bool true) else none
 | _=>none
set_option maxHeartbeats 4000000 in
theorem WV : aO Tryz.prog 32 Fw:=by
 have hX:=aI ([] : Fs)
 refine aG (l:=[]) .nil A1B fun args r h=>?_
 unfold Fw at h
 split at h
 ·split at h
  ·rename_i hc
   injection h with h;subst h
   obtain ⟨rfl,rfl⟩:=hc
   refine ⟨by simp,by simp [D.cl],fun H T=>?_⟩
   simp +contextual only [c32,bS,go_sem]
   refine wK 1 ?_ hX
   simp +contextual only [wO,go_sem]
   refine wK 1 ?_ hX
   simp +contextual only [wO,go_sem]
  ·cases h
 ·cases h
theorem smZ : Fw [bS,bS] = some (.bool true):=by
 simp only [Fw];rw [if_pos (by simp)]
def Dm : D:=mkE [110,111,119] 0 0 [] true [] [] [] true []
theorem On : isE 1 Dm:=⟨_,_,_,_,_,_,_,_,_,_,rfl,by simp,by simp,by simp,⟨by simp [mkV,aA,D.isV],by simp [mkV,vi],by simp [mkV,vi]⟩,by simp,by simp⟩
theorem Oc : p6 1 [.nils,Dm] = some (.tup [.int .i64 4,.int .i64 0]):=by
 simp only [p6]
 rw [if_pos ⟨KH _,On⟩]
 rfl
theorem Zs : aO Tryz.prog 43 zZ:=by
 refine aG (l:=[(97,p6 1),(98,jT)]) (.cons (RH 1) (.cons Xf .nil)) A02 fun args r h=>?_
 unfold zZ at h
 split at h
 ·injection h with h;subst h
  refine ⟨by simp,by simp [D.cl],fun H T=>?_⟩
  have p:=Oc
  simp only [Dm,mkE,aA,List.isEmpty_nil,Bool.true_and,if_true] at p
  simp +contextual only [c43,p,jT,iL,go_sem]
 ·cases h
set_option maxHeartbeats 8000000 in
theorem RZ (l : List UInt8) (hl : l.length <= 2 ^ 47) (H : Hp) (T : Tk) : W (Snd Tryz.prog) c14 (mW [.inl 2] (fun r _ _=>r = .bool true)) ⟨bF [.str l],H,T⟩:=by
 refine fE (X:=XL [(43,zZ),(41,AZ),(44,tL),(32,Fw),(29,Eu),(42,C5)]) (Ok.X (.cons Zs (.cons Zz (.cons Zf (.cons WV (.cons Zm (.cons A0g .nil))))))) (fun _ _ h=>h) ?_
 have p0 : zZ [] = some (.bool true):=rfl
 rcases tf (decide ((600 : Int) < l.length)) with g | g
 ·simp +contextual only [c14,p0,g,go_sem]
 have hl6 : l.length <= 600:=by
  have : (l.length : Int) <= 600:=by simpa using g
  omega
 have p1 : AZ [.str l] = some (.tup [(oY l).1,.int .i64 ((oY l).2.1 : Nat),.int .i64 (oY l).2.2]):=by
  simp only [AZ];rw [if_pos (by omega)]
 have p2 : tL [.str l] = some (sJ (o5 l)):=by simp only [tL];rw [if_pos (by omega)]
 obtain ⟨d1,d2,d3,d4⟩:=IW l
 have hlex : (o5 l).2.2 ≠ 0 -> oY l = (bS,(o5 l).2.1,(o5 l).2.2):=fun h=>by
  unfold oY;rw [if_pos (by simpa using h)]
 obtain ⟨⟨toks,at0,e0⟩,hL⟩ : ∃ z,o5 l = z:=⟨_,rfl⟩
 rw [hL] at p2 hlex
 simp only [sJ] at p2
 simp only at hlex
 rcases tf (e0 != 0) with g0 | g0
 ·have hlex:=hlex (by simpa using g0)
  rw [hlex] at p1
  simp only at p1
  simp +contextual only [c14,p0,g,p1,p2,g0,bS,BEq.rfl,go_sem]
 obtain ⟨⟨x,a,e⟩,hX⟩ : ∃ z,oY l = z:=⟨_,rfl⟩
 rw [hX] at p1 d1 d2 d3 d4
 simp only at p1 d1 d2 d3 d4
 obtain ⟨q1,q2,q3,q4⟩:=yX d1
 have ed:=dX d1
 rcases tf (e != 0) with g1 | g1
 ·obtain ⟨rfl,ha⟩:=d3 (by simpa using g1)
  have ps:=smZ
  have k1 : decide ((0 : Int) <= (a : Int)) = true:=by simp
  have k2 : decide ((a : Int) <= (l.length : Int)) = true:=by simpa using ha
  simp only [bS] at p1 ps
  simp +contextual only [c14,p0,g,p1,p2,g0,g1,k1,k2,ps,go_sem]
 ·obtain ⟨o1,o2,o3⟩:=d4 (by simpa using g1)
  have p3 : Eu [x] = some (.bool true):=by simp only [Eu];rw [if_pos d1,o1]
  have p4 : C5 [x] = some (.int .i64 0):=by simp only [C5];rw [if_pos ⟨d2,JL o1⟩,o3]
  simp +contextual only [c14,p0,g,p1,p2,g0,g1,ed,q1,q2,q3,q4,p3,p4,go_sem]
end GP
