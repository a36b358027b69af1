import Derived.Test.YtainhmbnbgonhaaGreatDoorM16
set_option linter.unusedSimpArgs false
namespace GP
open Go Go.Proofs
set_option maxRecDepth 100000
structure Step2 (toks : List D) (st st2 : St) : Prop where
 ok : (st.2 = 0 ∨ st.2 = 2 ∨ st.2 = 11) /\ st.1 <= toks.length -> (st2.2 = 0 ∨ st2.2 = 2 ∨ st2.2 = 11) /\ st2.1 <= toks.length
 stuck : st.2 ≠ 0 -> st2 = st
 adv : st.2 = 0 -> st.1 <= st2.1
section
variable {toks : List D} {a b c : St}
theorem Step.two (h : Step toks a b) : Step2 toks a b:=⟨fun q=>by
  rcases q with ⟨q | q | q,q2⟩
  ·obtain ⟨k1,k2⟩:=h.ok ⟨.inl q,q2⟩
   exact ⟨k1.imp_right .inl,k2⟩
  ·obtain ⟨k1,k2⟩:=h.ok ⟨.inr q,q2⟩
   exact ⟨k1.imp_right .inl,k2⟩
  ·rw [h.stuck (by omega)];exact ⟨.inr (.inr q),q2⟩,h.stuck,h.adv⟩
theorem Step2.refl (toks : List D) (a : St) : Step2 toks a a:=⟨fun h=>h,fun _=>rfl,fun _=>Nat.le_refl _⟩
theorem Step2.trans (h : Step2 toks a b) (k : Step2 toks b c) : Step2 toks a c :=
 ⟨fun q=>k.ok (h.ok q),fun q=>by have:=h.stuck q;rw [this] at k;rw [k.stuck q],fun q=>by
  have h1:=h.adv q
  by_cases hb : b.2 = 0
  ·exact Nat.le_trans h1 (k.adv hb)
  ·rw [k.stuck hb];exact h1⟩
theorem Step2.e0 (h : Step2 toks a b) (hb : b.2 = 0) : a.2 = 0:=by
 by_cases ha : a.2 = 0
 ·exact ha
 ·rw [h.stuck ha] at hb;exact hb
def mu (toks : List D) (st : St) : Nat:=if st.2 = 0 then toks.length - st.1 + 1 else 0
theorem Step2.mu (h : Step2 toks a b) : mu toks b <= mu toks a:=by
 unfold GP.mu
 by_cases hb : b.2 = 0
 ·have ha:=h.e0 hb
  rw [if_pos hb,if_pos ha]
  have:=h.adv ha;omega
 ·rw [if_neg hb];omega
theorem mu_may {st : St} {w : List UInt8} (h : isP toks st w = true) : mu toks (st.1 + 1,st.2) < mu toks st:=by
 obtain ⟨h1,h2⟩:=isP_lt h
 unfold mu
 rw [if_pos h2,if_pos h2];simp only;omega
theorem step2_mayP (toks : List D) (w : List UInt8) (st : St) : Step2 toks st (mayP toks w st).2:=by
 unfold mayP
 split
 ·rename_i h;exact (step_may h).two
 ·exact .refl _ _
theorem step2_word (toks : List D) (st : St) : Step2 toks st (wordP toks st).2:=(step_kind toks (by decide) st).two
theorem step2_fact (toks : List D) (st : St) : Step2 toks st (factP toks st).2:=by
 unfold factP
 simp only
 exact ((((step_attr toks st).two).trans (step_one toks kindW _).two).trans (step2_mayP toks wBagW _)).trans (step_must toks [59] _).two
theorem step2_whole {st : St} {r : D × St} (h : wholeP toks st = some r) : Step2 toks st r.2:=by
 unfold wholeP at h
 split at h
 ·cases h
 ·rename_i x st1 hz
  have hs:=(lv_S 10000 .expr toks st (x,st1) hz).two
  injection h with h;subst h
  simp only
  split
  ·rename_i g
   simp only [Bool.and_eq_true,beq_iff_eq] at g
   have g0:=hs.e0 g.1
   have e : failP st.1 11 st1 = (st.1,11):=by unfold failP;rw [g.1];rfl
   rw [e]
   exact ⟨fun q=>⟨.inr (.inr rfl),q.2⟩,fun q=>absurd g0 q,fun _=>Nat.le_refl _⟩
  ·exact hs
theorem whole_tot (h : toks.length <= 600) (st : St) : ∃ r,wholeP toks st = some r:=by
 obtain ⟨x,st1,hp,_⟩:=lv_tot toks 600 10000 .expr (by simp only [rank];omega) st (by unfold rem;split <;> omega)
 unfold wholeP
 rw [hp];exact ⟨_,rfl⟩
theorem step2_opt {b : Bool} {st : St} {r : D × St} (h : optP toks b st = some r) : Step2 toks st r.2:=by
 unfold optP at h
 split at h
 ·exact step2_whole h
 ·injection h with h;subst h;exact .refl _ _
theorem opt_tot (h : toks.length <= 600) (b : Bool) (st : St) : ∃ r,optP toks b st = some r:=by
 unfold optP
 split
 ·exact whole_tot h st
 ·exact ⟨_,rfl⟩
theorem said_S : ∀ (f : Nat) (du ad : List (List UInt8)) (st : St) (r : List (List UInt8) × List (List UInt8) × St),saidL toks f du ad st = some r -> Step2 toks st r.2.2
 | 0,_,_,_,_,h=>by simp [saidL] at h
 | f + 1,du,ad,st,r,h=>by
  simp only [saidL] at h
  split at h
  ·injection h with h;subst h;exact .refl _ _
  ·split at h
   ·rename_i g
    exact ((step_may g).two.trans (step_kind toks (by decide) _).two).trans (said_S f _ _ _ r h)
   ·split at h
    ·rename_i g
     exact ((step_may g).two.trans (step_kind toks (by decide) _).two).trans (said_S f _ _ _ r h)
    ·injection h with h;subst h;exact (step_must toks [59] st).two
theorem said_tot : ∀ (f : Nat) (du ad : List (List UInt8)) (st : St),mu toks st < f -> ∃ r,saidL toks f du ad st = some r
 | 0,_,_,_,h=>by omega
 | f + 1,du,ad,st,h=>by
  simp only [saidL]
  split
  ·exact ⟨_,rfl⟩
  ·split
   ·rename_i g
    have h1:=mu_may g
    have h2:=(step_kind toks (k:=3) (by decide) (st.1 + 1,st.2)).two.mu
    exact said_tot f _ _ _ (by omega)
   ·split
    ·rename_i g
     have h1:=mu_may g
     have h2:=(step_kind toks (k:=3) (by decide) (st.1 + 1,st.2)).two.mu
     exact said_tot f _ _ _ (by omega)
    ·exact ⟨_,rfl⟩
theorem rule_S {F : Nat} {st : St} {r : D × St} (h : ruleP F toks st = some r) : Step2 toks st r.2:=by
 unfold ruleP at h
 simp only at h
 split at h
 ·cases h
 ·rename_i x st1 hz
  split at h
  ·cases h
  ·rename_i du ad st2 hq
   injection h with h;subst h
   exact ((((step_one toks [wPermit,wDeny] st).two.trans (step_name toks _).two).trans (step2_mayP toks wIf _)).trans (step2_opt hz)).trans (said_S F _ _ _ _ hq)
theorem rule_tot {F : Nat} (hl : toks.length <= 600) (hF : 601 < F) (st : St) : ∃ r,ruleP F toks st = some r:=by
 unfold ruleP
 simp only
 obtain ⟨⟨x,st1⟩,h1⟩:=opt_tot hl (mayP toks wIf (nameP toks (oneP toks [wPermit,wDeny] st).2).2).1 (mayP toks wIf (nameP toks (oneP toks [wPermit,wDeny] st).2).2).2
 rw [h1]
 simp only
 obtain ⟨⟨du,ad,st2⟩,h2⟩:=said_tot (toks:=toks) F [] [] st1 (by unfold mu;split <;> omega)
 rw [h2]
 exact ⟨_,rfl⟩
theorem rule_mu {F : Nat} {st : St} (h0 : st.2 = 0) {r : D × St} (h : ruleP F toks st = some r) : mu toks r.2 < mu toks st:=by
 have h':=h
 unfold ruleP at h
 simp only at h
 split at h
 ·cases h
 ·rename_i x st1 hz
  split at h
  ·cases h
  ·rename_i du ad st2 hq
   injection h with h;subst h
   have k:=(((step_name toks (oneP toks [wPermit,wDeny] st).2).two.trans (step2_mayP toks wIf _)).trans (step2_opt hz)).trans (said_S F _ _ _ _ hq)
   have k:=k.mu
   have k1 : mu toks (oneP toks [wPermit,wDeny] st).2 < mu toks st:=by
    unfold oneP
    split
    ·rename_i w hw;exact mu_may (firstP_is hw)
    ·have : failP st.1 2 st = (st.1,2):=by unfold failP;rw [h0];rfl
     rw [this]
     unfold mu
     rw [if_pos h0];simp
   exact Nat.lt_of_le_of_lt k k1
theorem rules_S {F : Nat} : ∀ (f : Nat) (rs : List D) (st : St) (r : List D × St),rulesL (ruleP F) toks f rs st = some r -> Step2 toks st r.2
 | 0,_,_,_,h=>by simp [rulesL] at h
 | f + 1,rs,st,r,h=>by
  simp only [rulesL] at h
  split at h
  ·injection h with h;subst h;exact .refl _ _
  ·split at h
   ·rename_i g;injection h with h;subst h;exact (step_may g).two
   ·split at h
    ·cases h
    ·rename_i x st1 hx
     exact (rule_S hx).trans (rules_S f _ _ r h)
theorem rules_tot {F : Nat} (hl : toks.length <= 600) (hF : 601 < F) : ∀ (f : Nat) (rs : List D) (st : St),mu toks st < f -> ∃ r,rulesL (ruleP F) toks f rs st = some r
 | 0,_,_,h=>by omega
 | f + 1,rs,st,h=>by
  simp only [rulesL]
  split
  ·exact ⟨_,rfl⟩
  ·rename_i g0
   have g0 : st.2 = 0:=by simpa using g0
   split
   ·exact ⟨_,rfl⟩
   ·obtain ⟨⟨x,st1⟩,hx⟩:=rule_tot (F:=F) hl hF st
    rw [hx]
    have:=rule_mu g0 hx
    exact rules_tot hl hF f _ _ (by simp only at this;omega)
theorem mu_le (toks : List D) (st : St) : mu toks st <= toks.length + 1:=by unfold mu;split <;> omega
theorem pol_S {F G : Nat} {st : St} {r : D × St} (h : policyP F G toks st = some r) : Step2 toks st r.2:=by
 unfold policyP at h
 simp only at h
 split at h
 ·cases h
 ·rename_i x st1 hz
  split at h
  ·cases h
  ·rename_i rs st2 hq
   injection h with h;subst h
   refine ((((((((step_name toks st).two.trans (step_must toks wBy _).two).trans (step_name toks _).two).trans (step_must toks wUse _).two).trans (step2_word toks _)).trans (step_must toks [123] _).two).trans (step2_mayP toks wFor _)).trans (step2_opt hz)).trans (Step2.trans ?_ (rules_S G _ _ _ hq))
   split
   ·exact (step_must toks [59] _).two
   ·exact .refl _ _
theorem pol_tot {F G : Nat} (hl : toks.length <= 600) (hF : 601 < F) (hG : 601 < G) (st : St) : ∃ r,policyP F G toks st = some r:=by
 unfold policyP
 simp only
 obtain ⟨⟨x,st1⟩,h1⟩:=opt_tot hl (mayP toks wFor (mustP toks [123] (wordP toks (mustP toks wUse (nameP toks (mustP toks wBy (nameP toks st).2)).2)).2)).1 (mayP toks wFor (mustP toks [123] (wordP toks (mustP toks wUse (nameP toks (mustP toks wBy (nameP toks st).2)).2)).2)).2
 rw [h1]
 simp only
 obtain ⟨⟨rs,st2⟩,h2⟩:=rules_tot (F:=F) hl hF G [] (if (mayP toks wFor (mustP toks [123] (wordP toks (mustP toks wUse (nameP toks (mustP toks wBy (nameP toks st).2)).2)).2)).1 = true then mustP toks [59] st1 else st1) (by have:=mu_le toks (if (mayP toks wFor (mustP toks [123] (wordP toks (mustP toks wUse (nameP toks (mustP toks wBy (nameP toks st).2)).2)).2)).1 = true then mustP toks [59] st1 else st1);omega)
 rw [h2]
 exact ⟨_,rfl⟩
theorem many_S {P : Part} {w : List UInt8} (hP : ∀ st r,P toks st = some r -> Step2 toks st r.2) : ∀ (f : Nat) (xs : List D) (st : St) (r : List D × St),manyL P w toks f xs st = some r -> Step2 toks st r.2
 | 0,_,_,_,h=>by simp [manyL] at h
 | f + 1,xs,st,r,h=>by
  simp only [manyL] at h
  split at h
  ·rename_i g
   split at h
   ·cases h
   ·rename_i x st1 hx
    exact ((step_may g).two.trans (hP _ _ hx)).trans (many_S hP f _ _ r h)
  ·injection h with h;subst h;exact .refl _ _
theorem many_tot {P : Part} {w : List UInt8} (hP : ∀ st r,P toks st = some r -> Step2 toks st r.2) (hT : ∀ st,∃ r,P toks st = some r) : ∀ (f : Nat) (xs : List D) (st : St),mu toks st < f -> ∃ r,manyL P w toks f xs st = some r
 | 0,_,_,h=>by omega
 | f + 1,xs,st,h=>by
  simp only [manyL]
  split
  ·rename_i g
   obtain ⟨⟨x,st1⟩,hx⟩:=hT (st.1 + 1,st.2)
   have h1:=mu_may g
   have h2:=(hP _ _ hx).mu
   rw [hx]
   exact many_tot hP hT f _ _ (by simp only at h2;omega)
  ·exact ⟨_,rfl⟩
end
section
variable {toks : List D}
theorem word_ok {st : St} (h : (wordP toks st).2.2 = 0) : formI 1 (wordP toks st).1 0 = true:=by
 obtain ⟨k1,k2,k3,k4⟩:=kind_ok (k:=1) (by decide) h
 unfold wordP
 rw [k4]
 unfold formT at k3
 rw [k1] at k3
 have : (wordB (ts (nowS toks st)) && (tn (nowS toks st) == 0)) = true:=k3
 simp only [Bool.and_eq_true,beq_iff_eq] at this
 rw [this.2] at k3;exact k3
theorem text_ok {st : St} (h : (kindP toks 3 st).2.2 = 0) : txtB (ts (kindP toks 3 st).1) = true:=by
 obtain ⟨k1,k2,k3,k4⟩:=kind_ok (k:=3) (by decide) h
 rw [k4]
 unfold formT at k3
 rw [k1] at k3
 have : ((ts (nowS toks st)).all (fun b=>pText b.toNat) && decide (((ts (nowS toks st)).length : Int) <= 64) && (tn (nowS toks st) == 0)) = true:=k3
 simp only [Bool.and_eq_true,beq_iff_eq] at this
 unfold txtB
 rw [this.2] at k3;exact k3
theorem fact_ok {st : St} (h : (factP toks st).2.2 = 0) : okF (factP toks st).1 = true:=by
 have s1:=(step_one toks kindW (attrP toks st).2.2).two
 have s2:=s1.trans ((step2_mayP toks wBagW _).trans (step_must toks [59] _).two)
 have h' : (mustP toks [59] (mayP toks wBagW (oneP toks kindW (attrP toks st).2.2).2).2).2 = 0:=h
 have hA:=s2.e0 h'
 have hK:=((step2_mayP toks wBagW (oneP toks kindW (attrP toks st).2.2).2).trans (step_must toks [59] _).two).e0 h'
 obtain ⟨a1,a2,_⟩:=attr_ok hA
 obtain ⟨_,k2,_⟩:=one_ok hK
 have key : ∀ w ∈ kindW,1 <= kindI w /\ kindI w <= 4:=by decide
 obtain ⟨k3,k4⟩:=key _ k2
 show (inB whoW (attrP toks st).1 && (nameB (attrP toks st).2.1 && (!(decide (kindI (oneP toks kindW (attrP toks st).2.2).1 < 1)) && !(decide (4 < kindI (oneP toks kindW (attrP toks st).2.2).1))))) = true
 rw [a1,a2]
 simp only [Bool.true_and,Bool.and_eq_true,Bool.not_eq_true',decide_eq_false_iff_not]
 omega
theorem kindI_rng (w : List UInt8) : -(2 ^ 63) <= kindI w /\ kindI w < 2 ^ 63:=by
 unfold kindI;(repeat' split) <;> decide
theorem fact_isF (ht : toks.all tokB = true) (st : St) : isF (factP toks st).1:=by
 obtain ⟨h1,h2⟩:=attr_rng ht st
 obtain ⟨h3,h4⟩:=kindI_rng (oneP toks kindW (attrP toks st).2.2).1
 exact ⟨_,_,_,_,rfl,h1,h2,h3,h4⟩
theorem whole_ok (ht : toks.all tokB = true) {st : St} {r : D × St} (h : wholeP toks st = some r) : isE nodeB r.1 /\ (r.2.2 = 0 -> okE r.1):=by
 unfold wholeP at h
 split at h
 ·cases h
 ·rename_i x st1 hz
  injection h with h;subst h
  have hx : isE nodeB x:=lv_isE 10000 .expr toks st _ ht hz
  refine ⟨hx,fun h0=>?_⟩
  simp only at h0
  split at h0
  ·rename_i g
   simp only [Bool.and_eq_true,beq_iff_eq] at g
   have e : failP st.1 11 st1 = (st.1,11):=by unfold failP;rw [g.1];rfl
   rw [e] at h0
   cases h0
  ·rename_i g
   have hR:=lv_R ht 10000 .expr st x st1 hz h0
   have hR : Rdd toks 0 x st.1 st1.1:=hR
   refine ⟨hx,hR.g,lv_G 10000 .expr toks st (x,st1) ht hz,?_⟩
   rw [h0] at g
   simpa using g
theorem same_zz : sameE nodeB zeroE zeroE = true:=by
 have:=same_zeroE
 simp only [φsmE] at this
 rw [if_pos ⟨zeroE_8,zeroE_8⟩] at this
 simpa using this
theorem opt_ok (ht : toks.all tokB = true) {b : Bool} {st : St} {r : D × St} (h : optP toks b st = some r) : isE nodeB r.1 /\ (r.2.2 = 0 -> optB b r.1 = true /\ rgC r.1):=by
 unfold optP at h
 cases b with
 | true =>
  rw [if_pos rfl] at h
  obtain ⟨h1,h2⟩:=whole_ok ht h
  refine ⟨h1,fun h0=>?_⟩
  have:=h2 h0
  refine ⟨?_,this.r⟩
  unfold optB
  rw [if_pos rfl,this.g.fm this.s]
  simp [this.d]
 | false =>
  rw [if_neg (by decide)] at h
  injection h with h;subst h
  refine ⟨zeroE_8,fun _=>⟨?_,rg_of (fun x hx=>by cases hx) fun x hx=>by cases hx⟩⟩
  unfold optB
  rw [if_neg (by decide)];exact same_zz
theorem said_ok (ht : toks.all tokB = true) : ∀ (f : Nat) (du ad : List (List UInt8)) (st : St) (r : List (List UInt8) × List (List UInt8) × St),saidL toks f du ad st = some r -> (∀ s ∈ du ++ ad,s.length <= 2 ^ 47) →
  (∀ s ∈ r.1 ++ r.2.1,s.length <= 2 ^ 47) /\ (r.2.2.2 = 0 -> (∀ s ∈ du ++ ad,txtB s = true) -> ∀ s ∈ r.1 ++ r.2.1,txtB s = true)
 | 0,_,_,_,_,h,_=>by simp [saidL] at h
 | f + 1,du,ad,st,r,h,hl=>by
  simp only [saidL] at h
  split at h
  ·injection h with h;subst h;exact ⟨hl,fun _ h=>h⟩
  ·split at h
   ·obtain ⟨i1,i2⟩:=said_ok ht f _ _ _ r h (fun s hs=>by
     simp only [List.mem_append,List.mem_singleton] at hs
     rcases hs with (hs | hs) | hs
     ·exact hl s (by simp [hs])
     ·rw [hs];exact (kind_rng ht 3 _).1
     ·exact hl s (by simp [hs]))
    have s1:=said_S f _ _ _ r h
    refine ⟨i1,fun h0 hq=>i2 h0 fun s hs=>?_⟩
    simp only [List.mem_append,List.mem_singleton] at hs
    rcases hs with (hs | hs) | hs
    ·exact hq s (by simp [hs])
    ·rw [hs];exact text_ok (s1.e0 h0)
    ·exact hq s (by simp [hs])
   ·split at h
    ·obtain ⟨i1,i2⟩:=said_ok ht f _ _ _ r h (fun s hs=>by
      simp only [List.mem_append,List.mem_singleton] at hs
      rcases hs with hs | hs | hs
      ·exact hl s (by simp [hs])
      ·exact hl s (by simp [hs])
      ·rw [hs];exact (kind_rng ht 3 _).1)
     have s1:=said_S f _ _ _ r h
     refine ⟨i1,fun h0 hq=>i2 h0 fun s hs=>?_⟩
     simp only [List.mem_append,List.mem_singleton] at hs
     rcases hs with hs | hs | hs
     ·exact hq s (by simp [hs])
     ·exact hq s (by simp [hs])
     ·rw [hs];exact text_ok (s1.e0 h0)
    ·injection h with h;subst h;exact ⟨hl,fun _ h=>h⟩
theorem rule_ok (ht : toks.all tokB = true) {F : Nat} (hF : F <= 2 ^ 40) {st : St} {r : D × St} (h : ruleP F toks st = some r) : isR nodeB r.1 /\ (r.2.2 = 0 -> okR r.1 = true /\ rgC (rE r.1)):=by
 unfold ruleP at h
 simp only at h
 split at h
 ·cases h
 ·rename_i x st1 hz
  split at h
  ·cases h
  ·rename_i du ad st2 hq
   have hlen:=saidL_len toks F [] [] st1 _ hq
   injection h with h;subst h
   obtain ⟨x1,x2⟩:=opt_ok ht hz
   obtain ⟨q1,q2⟩:=said_ok ht F [] [] st1 _ hq (by simp)
   have q3:=said_S F _ _ _ _ hq
   simp only [List.length_nil,Nat.zero_add] at hlen
   rw [agg_mkR x1]
   refine ⟨⟨_,_,_,x,_,_,_,_,rfl,x1,name_rng ht _,⟨by omega,fun s hs=>q1 s (by simp [hs])⟩,by omega,fun s hs=>q1 s (by simp [hs])⟩,fun h0=>?_⟩
   have e1 : st1.2 = 0:=q3.e0 h0
   have sI:=step2_mayP toks wIf (nameP toks (oneP toks [wPermit,wDeny] st).2).2
   have e2:=(sI.trans (step2_opt hz)).e0 e1
   obtain ⟨_,_,n3,_⟩:=name_ok e2
   obtain ⟨o1,o2⟩:=x2 e1
   have q4:=q2 h0 (by simp)
   refine ⟨?_,by rw [rE_mk _ _ _ _ _ _ _ _ x1];exact o2⟩
   unfold okR
   rw [rNm_mk,rHi_mk,rDu_mk,rAd_mk,rE_mk _ _ _ _ _ _ _ _ x1,n3,o1,List.all_eq_true.2 fun s hs=>q4 s (by simp [hs]),List.all_eq_true.2 fun s hs=>q4 s (by simp [hs])]
   rfl
theorem rules_ok (ht : toks.all tokB = true) {F : Nat} (hF : F <= 2 ^ 40) : ∀ (f : Nat) (rs : List D) (st : St) (r : List D × St),rulesL (ruleP F) toks f rs st = some r -> (∀ x ∈ rs,isR nodeB x) →
  (∀ x ∈ r.1,isR nodeB x) /\ (r.2.2 = 0 -> (∀ x ∈ rs,okR x = true /\ rgC (rE x)) -> ∀ x ∈ r.1,okR x = true /\ rgC (rE x))
 | 0,_,_,_,h,_=>by simp [rulesL] at h
 | f + 1,rs,st,r,h,hl=>by
  simp only [rulesL] at h
  split at h
  ·injection h with h;subst h;exact ⟨hl,fun _ h=>h⟩
  ·split at h
   ·injection h with h;subst h;exact ⟨hl,fun _ h=>h⟩
   ·split at h
    ·cases h
    ·rename_i x st1 hx
     obtain ⟨x1,x2⟩:=rule_ok ht hF hx
     obtain ⟨i1,i2⟩:=rules_ok ht hF f _ _ r h (fun y hy=>by
      simp only [List.mem_append,List.mem_singleton] at hy
      rcases hy with hy | rfl
      ·exact hl y hy
      ·exact x1)
     refine ⟨i1,fun h0 hq=>i2 h0 fun y hy=>?_⟩
     simp only [List.mem_append,List.mem_singleton] at hy
     rcases hy with hy | rfl
     ·exact hq y hy
     ·exact x2 ((rules_S f _ _ _ h).e0 h0)
theorem pol_ok (ht : toks.all tokB = true) {F G : Nat} (hF : F <= 2 ^ 40) (hG : G <= 2 ^ 40) {st : St} {r : D × St} (h : policyP F G toks st = some r) : isPo nodeB r.1 /\ (r.2.2 = 0 -> okP r.1 = true /\ rgC (pE r.1) /\ ∀ x ∈ pRs r.1,rgC (rE x)):=by
 unfold policyP at h
 simp only at h
 split at h
 ·cases h
 ·rename_i x st1 hz
  split at h
  ·cases h
  ·rename_i rs st2 hq
   have hlen:=rulesL_len toks G [] _ _ hq
   injection h with h;subst h
   obtain ⟨x1,x2⟩:=opt_ok ht hz
   obtain ⟨q1,q2⟩:=rules_ok ht hF G [] _ _ hq (by simp)
   have q3:=rules_S G _ _ _ hq
   simp only [List.length_nil,Nat.zero_add] at hlen
   rw [agg_mkP x1]
   refine ⟨⟨_,_,_,_,x,_,rs,rfl,x1,name_rng ht _,name_rng ht _,(kind_rng ht 1 _).1,by omega,q1⟩,fun h0=>?_⟩
   have e1:=q3.e0 h0
   have e1 : st1.2 = 0:=by
    split at e1
    ·exact (step_must toks [59] st1).e0 e1
    ·exact e1
   have e2:=(step2_opt hz).e0 e1
   have e3:=(step2_mayP toks wFor _).e0 e2
   have e4:=(step_must toks [123] _).e0 e3
   have e5:=(step2_word toks _).e0 e4
   have e6:=(step_must toks wUse _).e0 e5
   have e7:=(step_name toks _).e0 e6
   have e8:=(step_must toks wBy _).e0 e7
   obtain ⟨o1,o2⟩:=x2 e1
   have q4:=q2 h0 (by simp)
   rw [pRs_mk,pE_mk _ _ _ _ _ _ _ x1]
   refine ⟨?_,o2,fun y hy=>(q4 y hy).2⟩
   unfold okP
   rw [pNm_mk,pBy_mk,pUs_mk,pHf_mk,pRs_mk,pE_mk _ _ _ _ _ _ _ x1,(name_ok e8).2.2.1,(name_ok e6).2.2.1,word_ok e4,o1,List.all_eq_true.2 fun y hy=>(q4 y hy).1]
   rfl
theorem many_ok {P : Part} {w : List UInt8} {A B : D -> Prop} (hS : ∀ st r,P toks st = some r -> Step2 toks st r.2) (hP : ∀ st r,P toks st = some r -> A r.1 /\ (r.2.2 = 0 -> B r.1)) : ∀ (f : Nat) (xs : List D) (st : St) (r : List D × St),manyL P w toks f xs st = some r -> (∀ x ∈ xs,A x) →
  (∀ x ∈ r.1,A x) /\ (r.2.2 = 0 -> (∀ x ∈ xs,B x) -> ∀ x ∈ r.1,B x) /\ r.1.length <= xs.length + f
 | 0,_,_,_,h,_=>by simp [manyL] at h
 | f + 1,xs,st,r,h,hl=>by
  simp only [manyL] at h
  split at h
  ·split at h
   ·cases h
   ·rename_i x st1 hx
    obtain ⟨x1,x2⟩:=hP _ _ hx
    obtain ⟨i1,i2,i3⟩:=many_ok hS hP f _ _ r h (fun y hy=>by
     simp only [List.mem_append,List.mem_singleton] at hy
     rcases hy with hy | rfl
     ·exact hl y hy
     ·exact x1)
    refine ⟨i1,fun h0 hq=>i2 h0 fun y hy=>?_,by simp at i3;omega⟩
    simp only [List.mem_append,List.mem_singleton] at hy
    rcases hy with hy | rfl
    ·exact hq y hy
    ·exact x2 ((many_S hS f _ _ _ h).e0 h0)
  ·injection h with h;subst h;exact ⟨hl,fun _ h=>h,by simp⟩
theorem fact_S (st : St) (r : D × St) (h : factPt toks st = some r) : Step2 toks st r.2:=by
 unfold factPt at h;injection h with h;subst h;exact step2_fact toks st
theorem parseD_spec (ht : toks.all tokB = true) (hl : toks.length <= 600) : ∃ x at' e,parseD toks = some (x,at',e) /\ isDoc nodeB x /\ at' <= toks.length /\ ((e = 0 /\ at' = 0 /\ okD x = true /\ rgD x) ∨ ((e = 2 ∨ e = 11) /\ x = zeroDoc)):=by
 unfold parseD
 rw [if_neg (by omega)]
 unfold docP
 obtain ⟨⟨fs,st1⟩,h1⟩:=many_tot (P:=factPt) (w:=wFact) (toks:=toks) fact_S (fun st=>⟨_,rfl⟩) 1000 [] (0,0) (by have:=mu_le toks (0,0);omega)
 obtain ⟨⟨ps,st4⟩,h4⟩:=many_tot (P:=policyP 1000 1000) (w:=wPolicy) (toks:=toks) (fun st r h=>pol_S h) (fun st=>pol_tot hl (by omega) (by omega) st) 1000 [] (mustP toks [59] (wordP toks (mustP toks wUse st1)).2) (by have:=mu_le toks (mustP toks [59] (wordP toks (mustP toks wUse st1)).2);omega)
 rw [h1]
 simp only
 rw [h4]
 simp only
 have S1:=many_S fact_S 1000 [] (0,0) _ h1
 have S4:=many_S (fun st r h=>pol_S h) 1000 [] _ _ h4
 have S2:=(step_must toks wUse st1).two
 have S3:=(step2_word toks (mustP toks wUse st1)).trans (step_must toks [59] _).two
 obtain ⟨f1,f2,f3⟩:=many_ok (A:=isF) (B:=fun x=>okF x = true) fact_S (fun st r h=>by
  unfold factPt at h;injection h with h;subst h
  exact ⟨fact_isF ht st,fact_ok⟩) 1000 [] (0,0) _ h1 (by simp)
 obtain ⟨p1,p2,p3⟩:=many_ok (A:=isPo nodeB) (B:=fun x=>okP x = true /\ rgC (pE x) /\ ∀ r ∈ pRs x,rgC (rE r)) (fun st r h=>pol_S h) (fun st r h=>pol_ok ht (by omega) (by omega) h) 1000 [] _ _ h4 (by simp)
 have all:=((S1.trans S2).trans S3).trans S4
 obtain ⟨a1,a2⟩:=all.ok ⟨.inl rfl,Nat.zero_le _⟩
 have hE : (endP toks st4).1 <= toks.length /\ ((endP toks st4).2 = 0 ∨ (endP toks st4).2 = 2 ∨ (endP toks st4).2 = 11) /\ ((endP toks st4).2 = 0 -> st4.2 = 0):=by
  unfold endP
  split
  ·exact ⟨a2,.inr (.inl rfl),fun h=>by cases h⟩
  ·exact ⟨a2,a1,fun h=>h⟩
 obtain ⟨e1,e2,e3⟩:=hE
 by_cases g : (endP toks st4).2 = 0
 ·have g' : ((endP toks st4).2 != 0) = false:=by simpa using g
  rw [g']
  have z4:=e3 g
  have z3:=S4.e0 z4
  have z2:=S3.e0 z3
  have z1:=S2.e0 z2
  have zw:=(step_must toks [59] _).e0 z3
  simp only [List.length_nil,Nat.zero_add] at f3 p3
  have hD : isDoc nodeB (mkDoc true fs (wordP toks (mustP toks wUse st1)).1 true ps):=⟨_,_,_,_,_,rfl,by omega,(kind_rng ht 1 _).1,by omega,f1,p1⟩
  refine ⟨_,_,_,rfl,hD,Nat.zero_le _,.inl ⟨rfl,rfl,?_,?_⟩⟩
  ·show okD (mkDoc true fs (wordP toks (mustP toks wUse st1)).1 true ps) = true
   unfold okD
   rw [dFs_mk,dUs_mk,dPs_mk,word_ok zw,List.all_eq_true.2 (f2 z1 (by simp)),List.all_eq_true.2 fun x hx=>(p2 z4 (by simp) x hx).1]
   rfl
  ·show rgD (mkDoc true fs (wordP toks (mustP toks wUse st1)).1 true ps)
   unfold rgD
   rw [dPs_mk]
   exact fun x hx=>(p2 z4 (by simp) x hx).2
 ·have g' : ((endP toks st4).2 != 0) = true:=by simpa using g
  rw [g']
  exact ⟨_,_,_,rfl,⟨true,[],[],true,[],rfl,by simp,by simp,by simp,by simp,by simp⟩,e1,.inr ⟨by omega,rfl⟩⟩
end
end GP
namespace GP
open Go Go.Proofs
set_option maxRecDepth 100000
theorem slc_take {sz k : Nat} {xs : List D} (hk : k <= xs.length) (hc : xs.all (fun d=>d.cells.length == sz) = true) : slc sz (some ((0 : Nat) : Int)) (some ((k : Nat) : Int)) (.sl none xs) = some (.sl none (xs.take k)):=by
 rw [slc_sl,if_pos ⟨by omega,by omega,by omega,hc⟩]
 simp [subList]
theorem slc_drop {sz k : Nat} {xs : List D} (hk : k <= xs.length) (hc : xs.all (fun d=>d.cells.length == sz) = true) : slc sz (some ((k : Nat) : Int)) (some ((xs.length : Nat) : Int)) (.sl none xs) = some (.sl none (xs.drop k)):=by
 rw [slc_sl,if_pos ⟨by omega,by omega,by omega,hc⟩]
 simp [subList]
theorem drop_tok {xs : List D} (ht : xs.all tokB = true) (K : Nat) : (xs.drop K).all tokB = true:=by
 rw [List.all_eq_true] at ht ⊢
 exact fun x hx=>ht x (List.mem_of_mem_drop hx)
theorem tok_fit {xs : List D} (ht : xs.all tokB = true) : xs.all (fit 3) = true:=by
 rw [List.all_eq_true] at ht ⊢
 intro x hx
 obtain ⟨k,s,n,e,_⟩:=tokB_elim (ht x hx)
 rw [e];rfl
theorem zeroDoc_isDoc : isDoc nodeB zeroDoc:=⟨true,[],[],true,[],rfl,by simp,by simp,by simp,by simp,by simp⟩
theorem same_zeroDoc : φsameD [zeroDoc,zeroDoc] = some (.bool true):=by
 simp only [φsameD]
 rw [if_pos ⟨zeroDoc_isDoc,zeroDoc_isDoc⟩];rfl
set_option maxHeartbeats 16000000 in
theorem main8 {n : Nat} {d tk : D} (hd : isDoc n d) (hrg : rgD d) (htb : tokB tk = true) (a : Nat) (ha : a < 65536) (H : Hp) (T : Tk) : W (Snd Tryz.prog) c8 (endQ [.inl 6] (fun r _ _=>r = .bool true)) ⟨argT [d,tk,.int .u16 (a : Int)],H,T⟩:=by
 have hX:=XL_mono (xs7 n)
 refine W_mono (X:=XL (xs7 n)) (Ok.X (.cons ok18 (.cons (ok28 n) (.cons ok29 (.cons ok30 (.cons ok31 (.cons ok32 .nil))))))) (fun _ _ h=>h) ?_
 have p0:=awake18
 have ed:=isDoc_erase hd
 obtain ⟨q1,q2,q3,q4⟩:=isDoc_cells hd
 have p1 : φfewD n [d] = some (.bool (fewD n d)):=by simp only [φfewD];rw [if_pos hd]
 obtain ⟨fw,hfw⟩ : ∃ z,fewD n d = z:=⟨_,rfl⟩
 rw [hfw] at p1
 obtain ⟨tkk,tks,tkn,rfl,_⟩:=tokB_elim htb
 cases fw with
 | false=>simp +contextual (maxSteps:=10000000) only [c8,mkT,p0,ed,q1,q2,q3,q4,p1,go_sem]
 | true =>
 have hN:=(fewD_p hd hfw).1
 have p2 : φokD [d] = some (.bool (okD d)):=by simp only [φokD];rw [if_pos hN]
 obtain ⟨fm,hfm⟩ : ∃ z,okD d = z:=⟨_,rfl⟩
 rw [hfm] at p2
 cases fm with
 | false=>simp +contextual (maxSteps:=10000000) only [c8,mkT,p0,ed,q1,q2,q3,q4,p1,p2,go_sem]
 | true =>
 rcases tf (decide ((100 : Int) < tks.length)) with g | g
 ·simp +contextual (maxSteps:=10000000) only [c8,mkT,p0,ed,q1,q2,q3,q4,p1,p2,g,go_sem]
 obtain ⟨hrd,hgd⟩:=doc_facts hd hfw hfm hrg
 have htk:=docT_tokB (full:=false) hrd
 have hl37:=docT_len (hgd false)
 have p3 : φdocT [d,.bool false] = some (.sl none (docT false d)):=by simp only [φdocT];rw [if_pos (hgd false)]
 have hpos : 0 < (docT false d).length:=by unfold docT;simp;omega
 obtain ⟨TX,hTX⟩ : ∃ z,docT false d = z:=⟨_,rfl⟩
 rw [hTX] at p3 htk hl37 hpos
 have hte:=toksB_erase htk
 have hc:=tok_cells htk
 have hk : a % TX.length < TX.length:=Nat.mod_lt _ hpos
 obtain ⟨k,hka⟩ : ∃ k,a % TX.length = k:=⟨_,rfl⟩
 rw [hka] at hk
 have hw : IntKind.i64.wrap (a : Int) = (a : Int):=wrap_of _ (by omega) (by omega)
 have hrem : (if ((TX.length : Nat) : Int) = 0 then none else some (D.int .i64 (Int.tmod (a : Int) (TX.length : Int)))) = some (.int .i64 (k : Int)):=by
  rw [if_neg (by omega),← hka]
  rfl
 have s1:=slc_take (sz:=3) (k:=k) (by omega) hc
 have s2:=slc_drop (sz:=3) (k:=k + 1) (by omega) hc
 have hw1:=wrap_succ k (by omega)
 have t1:=take_tok htk k
 have t2:=drop_tok htk (k + 1)
 have l1 : (TX.take k).length = k:=by rw [List.length_take];omega
 have l2 : (TX.drop (k + 1)).length = TX.length - (k + 1):=List.length_drop
 have z0 : ((0 : Nat) : Int) = 0:=rfl
 rw [z0] at s1
 obtain ⟨A,hA⟩ : ∃ z,TX.take k = z:=⟨_,rfl⟩
 obtain ⟨B,hB⟩ : ∃ z,TX.drop (k + 1) = z:=⟨_,rfl⟩
 rw [hA] at s1 t1 l1
 rw [hB] at s2 t2 l2
 obtain ⟨tl,htl⟩ : ∃ z,C.tl 8 c8 = z:=⟨_,rfl⟩
 have fin : ∀ (M : List D) (t : Nat -> D) (H' : Hp) (T' : Tk) (d2 : D),M.all tokB = true -> M.length <= 2 ^ 39 -> accT 3 T M d2 T' -> t 9 = d2 →
   W (XL (xs7 n)) tl (endQ [.inl 6] (fun r _ _=>r = .bool true)) ⟨t,H',T'⟩:=by
  intro M t H' T' d2 hM hMl hac t9
  subst htl
  have eM:=toksB_erase hM
  have hlen : lenD d2 = some M.length:=by
   rcases hac.2 with ⟨rfl,rfl⟩ | ⟨i,_,rfl,_⟩ <;> rfl
  have hsl : ∃ m,d2.erase = sliceD m M:=by
   rcases hac.2 with ⟨rfl,rfl⟩ | ⟨i,_,rfl,_⟩
   ·exact ⟨true,rfl⟩
   ·exact ⟨false,by simp [D.erase,eM,sliceD]⟩
  obtain ⟨m,hm⟩:=hsl
  have pat : ∀ r,parseD M = some r -> φparseD [sliceD m M] = some (.tup [r.1,.int .i64 (r.2.1 : Nat),.int .i64 r.2.2]):=fun r hr=>by
   have hc : (isSl (sliceD m M) && (elems (sliceD m M)).all tokB && decide ((elems (sliceD m M)).length <= 2 ^ 40)) = true:=by
    simp only [isSl_sliceD,elems_sliceD,hM,Bool.true_and,decide_eq_true_eq];omega
   simp only [φparseD]
   rw [if_pos hc,elems_sliceD,hr];rfl
  obtain ⟨MD,hMD⟩ : ∃ z,sliceD m M = z:=⟨_,rfl⟩
  rw [hMD] at hm pat
  by_cases h600 : 600 < M.length
  ·have dd : decide ((600 : Int) < (M.length : Nat)) = true:=by simp only [decide_eq_true_eq];omega
   have p4:=pat (zeroDoc,0,13) (by unfold parseD;rw [if_pos h600])
   simp only [zeroDoc] at p4
   rw [z0] at p4
   simp +contextual (maxSteps:=10000000) only [c8,t9,hm,hlen,p4,dd,go_sem]
  ·have dd : decide ((600 : Int) < (M.length : Nat)) = false:=by simp only [decide_eq_false_iff_not];omega
   obtain ⟨x,pl,e,x1,x2,x3,x4⟩:=parseD_spec hM (by omega)
   have p4:=pat _ x1
   simp only at p4
   have ex:=isDoc_erase x2
   obtain ⟨r1,r2,r3,r4⟩:=isDoc_cells x2
   have p5 : φokD [x] = some (.bool (okD x)):=by simp only [φokD];rw [if_pos x2]
   rcases x4 with ⟨rfl,rfl,x5,_⟩ | ⟨x5,rfl⟩
   ·rw [x5] at p5
    rw [z0] at p4
    have z1 : ((0 : Int) != 0) = false:=rfl
    simp +contextual (maxSteps:=10000000) only [c8,t9,hm,hlen,p4,p5,dd,z1,ex,r1,r2,r3,r4,go_sem]
   ·have p6:=same_zeroDoc
    simp only [zeroDoc] at p4 p6
    have d1 : decide ((0 : Int) <= ((pl : Nat) : Int)) = true:=by simp only [decide_eq_true_eq];omega
    have d2 : decide (((pl : Nat) : Int) <= (M.length : Nat)) = true:=by simp only [decide_eq_true_eq];omega
    rcases x5 with rfl | rfl
    ·have z1 : ((2 : Int) != 0) = true:=rfl
     simp +contextual (maxSteps:=10000000) only [c8,t9,hm,hlen,p4,dd,z1,d1,d2,p6,go_sem]
    ·have z1 : ((11 : Int) != 0) = true:=rfl
     simp +contextual (maxSteps:=10000000) only [c8,t9,hm,hlen,p4,dd,z1,d1,d2,p6,go_sem]
 rw [W_part 8,htl]
 have hA0 : accT 3 T [] .nils T:=accT.nil 3 T (ExtT.refl T)
 have fA:=tok_fit t1
 have fB:=tok_fit t2
 have eA:=toksB_erase t1
 have eB:=toksB_erase t2
 have e1 : isTks [mkT tkk tks tkn]:=isTks.cons _ _ _ .nil
 rcases tf (tkk != 0) with gk | gk
 ·simp +contextual (maxSteps:=10000000) only [c8,mkT,p0,ed,q1,q2,q3,q4,p1,p2,g,p3,hw,hrem,hte,s1,gk,go_sem]
  refine app_accT (bytes:=32) A hA0 fA rfl (by simp;omega) (by simp;omega) fun d2 T2 hA2=>?_
  simp +contextual (maxSteps:=10000000) only [gk,go_sem]
  refine app_accT (bytes:=32) _ (hA2.app _) rfl (by simpa using fA) (by simp;omega) (by simp;omega) fun d3 T3 hA3=>?_
  simp +contextual (maxSteps:=10000000) only [hw1,s2,go_sem]
  refine app_accT (bytes:=32) B hA3 fB (by simp only [List.nil_append,List.all_append,fA];exact e1.fit) (by simp;omega) (by simp;omega) fun d4 T4 hA4=>?_
  simp +contextual (maxSteps:=10000000) only [go_sem]
  refine fin _ _ _ _ d4 (by simp only [List.nil_append,List.all_append,t1,t2,List.all_cons,List.all_nil,Bool.and_true,Bool.true_and];exact htb) (by simp;omega) hA4 ?_
  simp [upd]
 ·simp +contextual (maxSteps:=10000000) only [c8,mkT,p0,ed,q1,q2,q3,q4,p1,p2,g,p3,hw,hrem,hte,s1,gk,go_sem]
  refine app_accT (bytes:=32) A hA0 fA rfl (by simp;omega) (by simp;omega) fun d2 T2 hA2=>?_
  simp +contextual (maxSteps:=10000000) only [gk,hw1,s2,go_sem]
  refine app_accT (bytes:=32) B hA2 fB (by simpa using fA) (by simp;omega) (by simp;omega) fun d4 T4 hA4=>?_
  simp +contextual (maxSteps:=10000000) only [go_sem]
  refine fin _ _ _ _ d4 (by simp only [List.nil_append,List.all_append,t1,t2,Bool.and_true]) (by simp;omega) hA4 ?_
  simp [upd]
end GP
namespace GP
open Go Go.Proofs Go.Proofs.YtainhmbnbgonhaaGreatDoor
open Go.ChangeShapes Go.WideShapes Go.ChangeAt Go.RowKit
set_option maxRecDepth 100000
theorem argTok (W : World) : Arg Tryz.prog W 43 (fun d=>tokB d = true):=by
 intro H enc v d ps base h1 h2 h3
 obtain ⟨x,k1,ds,rfl,k2⟩:=arg_struct Tryz.underlying43 (φ:=fun ds=>isTB (D.agg ds)) (fun f=>rdT W f) H enc v d ps base h1 h2 h3
 exact ⟨_,k1,k2⟩
theorem u16min : IntKind.u16.min = 0:=by decide
theorem u16max : IntKind.u16.max = 65535:=by decide
theorem argU16 (W : World) : Arg Tryz.prog W 55 (fun d=>∃ a : Nat,d = .int .u16 (a : Int) /\ a < 65536):=by
 intro H enc v d ps base h1 h2 h3
 obtain ⟨x,k1,n,e,i1,i2⟩:=arg_one Tryz.underlying55 rfl (φ:=fun ds=>∃ n,ds = [.int .u16 n] /\ IntKind.u16.min <= n /\ n <= IntKind.u16.max) (fun f=>rds_int Tryz.underlying55 f) H enc v d ps base h1 h2 h3
 injection e with e
 rw [u16min] at i1;rw [u16max] at i2
 obtain ⟨a,rfl⟩ : ∃ a : Nat,n = (a : Int):=⟨n.toNat,by omega⟩
 exact ⟨_,k1,a,e,by omega⟩
end GP
