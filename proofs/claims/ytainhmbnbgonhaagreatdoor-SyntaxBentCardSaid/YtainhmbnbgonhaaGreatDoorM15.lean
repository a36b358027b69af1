import Derived.Test.YtainhmbnbgonhaaGreatDoorM4
import Derived.Test.YtainhmbnbgonhaaGreatDoorM12
import Derived.Test.YtainhmbnbgonhaaGreatDoorM14
set_option linter.unusedSimpArgs false
namespace GP
open Go Go.Proofs
set_option maxRecDepth 100000
def wPermit : List UInt8:=[112,101,114,109,105,116]
def wDeny : List UInt8:=[100,101,110,121]
def wIf : List UInt8:=[105,102]
def optP (toks : List D) (b : Bool) (st : St) : Option (D × St):=if b then wholeP toks st else some (zeroE,st)
def ruleP (F : Nat) (toks : List D) (st : St) : Option (D × St) :=
 let K:=oneP toks [wPermit,wDeny] st
 let N:=nameP toks K.2
 let I:=mayP toks wIf N.2
 match optP toks I.1 I.2 with
 | none=>none
 | some (x,st1)=>match saidL toks F [] [] st1 with
  | none=>none
  | some (du,ad,st2)=>some (.agg ([.bool (K.1 == wPermit),.str N.1,.bool I.1] ++ x.cells ++ [sliceD true (du.map .str),sliceD true (ad.map .str)]),st2)
def gRule (F : Nat) : GE:=fun rest toks a e=>match rest with
 | []=>ruleP F toks (a,e)
 | _=>none
theorem strs_cl (l : List (List UInt8)) : (sliceD true (l.map D.str)).cl 0 0 = true:=by
 rcases sliceD_cases true (l.map D.str) with ⟨_,e⟩ | e
 ·rw [e];rfl
 ·rw [e]
  simp only [D.cl,Bool.and_eq_true]
  have : ∀ l : List (List UInt8),D.clL 0 0 (l.map D.str) = true:=by
   intro l
   induction l with
   | nil=>rfl
   | cons x l ih=>simp [D.clL,D.cl,ih]
  simp [this]
set_option maxHeartbeats 8000000 in
theorem ok123 (F : Nat) (hF : F <= 10000) : OkAtE Tryz.prog 123 (φC (gRule F)):=by
 have hM : MonoH []:=.nil
 refine okC_of (l:=[]) (m:=[]) (ee:=[(119,φC gOne),(121,φC gName),(69,φC gMay),(122,φC gWhole),(120,φC gKind),(71,φC gMust)]) .nil .nil (.cons ok119 (.cons ok121 (.cons ok69 (.cons ok122 (.cons ok120 (.cons ok71 .nil)))))) fn123 fun H p n xs a e rest r a' e' hp htk hlen h=>?_
 unfold gRule at h
 split at h
 ·have qa:=φQ_at (n:=n) hp htk hlen;have qa0:=φQ_at0 (n:=n) hp htk hlen;have ca:=φC_at (n:=n) hp htk hlen;have ca0:=φC_at0 (n:=n) hp htk hlen;have rc:=rd_cu hp;have rc0:=rd_cu0 hp;have sc:=fun K : D -> S -> Prop=>st_cu (K:=K) hp;have sc0:=fun K : D -> S -> Prop=>st_cu0 (K:=K) hp
  unfold ruleP at h
  obtain ⟨w1,⟨a1,e1⟩,hy1⟩ : ∃ w1 st1,oneP xs [wPermit,wDeny] (a,e) = (w1,st1):=⟨_,_,rfl⟩
  obtain ⟨w2,⟨a2,e2⟩,hy2⟩ : ∃ w2 st2,nameP xs (a1,e1) = (w2,st2):=⟨_,_,rfl⟩
  obtain ⟨b,⟨a3,e3⟩,hy3⟩ : ∃ b st3,mayP xs wIf (a2,e2) = (b,st3):=⟨_,_,rfl⟩
  simp only [hy1,hy2,hy3] at h
  split at h
  ·cases h
  rename_i x st4 hz
  obtain ⟨a4,e4⟩:=st4
  split at h
  ·cases h
  rename_i du ad st5 hs
  obtain ⟨a5,e5⟩:=st5
  injection h with h
  injection h with g1 g2;injection g2 with g2 g3
  subst g2;subst g3
  have h1 : gOne [.sl none [.str [112,101,114,109,105,116],.str [100,101,110,121]]] xs a e = some (.str w1,a1,e1):=by
   have : gOne [.sl none [.str [112,101,114,109,105,116],.str [100,101,110,121]]] xs a e = some (.str (oneP xs [wPermit,wDeny] (a,e)).1,(oneP xs [wPermit,wDeny] (a,e)).2):=rfl
   rw [this,hy1]
  have h2 : gName [] xs a1 e1 = some (.str w2,a2,e2):=by simp only [gName,hy2]
  have h3 : gMay [.str [105,102]] xs a2 e2 = some (.bool b,a3,e3):=by
   rw [gMay_at];rw [show mayP xs [105,102] (a2,e2) = (b,(a3,e3)) from hy3]
  have hx8 : ex8 x:=by
   unfold optP at hz
   split at hz
   ·unfold wholeP at hz
    split at hz
    ·cases hz
    ·rename_i x' st1 hp'
     injection hz with hz;injection hz with hz _;subst hz
     exact lv_ex8 10000 .expr xs (a3,e3) _ htk hp'
   ·injection hz with hz;injection hz with hz _;subst hz
    exact ⟨⟨_,_,_,_,_,_,_,_,rfl⟩,rfl,rfl⟩
  obtain ⟨⟨b0,b1,b2,b3,b4,b5,b6,b7,rfl⟩,ee,hcl⟩:=hx8
  have hr : r = .agg [.bool (w1 == wPermit),.str w2,.bool b,b0,b1,b2,b3,b4,b5,b6,b7,sliceD true (du.map .str),sliceD true (ad.map .str)]:=g1.symm
  subst hr
  refine ⟨by simp,?_,fun T=>?_⟩
  ·simp only [D.cl,D.clL,strs_cl,Bool.and_true,Bool.true_and] at hcl ⊢
   simpa using hcl
  rw [W_part 4]
  have tail:=fun (t : Nat -> D) (T0 : Tk) hT0 t0 t2 t3=>rule_tail (X:=XE [] [] [(119,φC gOne),(121,φC gName),(69,φC gMay),(122,φC gWhole),(120,φC gKind),(71,φC gMust)]) rfl (n:=n) hp htk hlen T (pm:=w1 == wPermit) (hi:=b) (nm:=w2) (x0:=b0) (x1:=b1) (x2:=b2) (x3:=b3) (x4:=b4) (x5:=b5) (x6:=b6) (x7:=b7) ee (y0:=.bool false) (Y:=[.str [],.bool false,.str [],.int .i64 0,.int .i64 0,.str [],.nils,.str [],.str [],.nils,.nils,.nils]) rfl hF hs (t:=t) (T0:=T0) hT0 t0 t2 t3
  obtain ⟨tl,htl⟩ : ∃ z,C.tl 4 c123 = z:=⟨_,rfl⟩
  rw [htl] at tail ⊢
  obtain ⟨Q,hQ⟩ : ∃ Q,endQ [.inr (2,true,13)] (LeavesE (.agg [.bool (w1 == wPermit),.str w2,.bool b,b0,b1,b2,b3,b4,b5,b6,b7,sliceD true (du.map .str),sliceD true (ad.map .str)]) (H.set p (.row [sliceD n xs,.int .i64 ((a5 : Nat) : Int),.int .i64 e5])) T) = Q:=⟨_,rfl⟩
  rw [hQ] at tail ⊢
  obtain ⟨pm,hpm⟩ : ∃ z,(w1 == wPermit) = z:=⟨_,rfl⟩
  rw [hpm] at tail
  have hpm' : (w1 == [112,101,114,109,105,116]) = pm:=hpm
  cases b with
  | true =>
   have h4 : gWhole [] xs a3 e3 = some (.agg [b0,b1,b2,b3,b4,b5,b6,b7],a4,e4):=hz
   simp +contextual (maxSteps:=10000000) only [qa,qa0,ca,ca0,rc,rc0,sc,sc0,c123,h1,h2,h3,h4,hpm',ee,go_sem]
   refine tail _ _ ?_ ?_ ?_ ?_
   ·exact ⟨_,rfl⟩
   ·simp [upd,argT]
   ·simp [upd,argT]
   ·simp [upd,argT]
  | false =>
   have hz' : some ((zeroE,(a3,e3)) : D × St) = some (.agg [b0,b1,b2,b3,b4,b5,b6,b7],(a4,e4)):=hz
   injection hz' with hz'
   injection hz' with z1 z2;injection z2 with z2 z3
   subst z2;subst z3
   simp only [zeroE] at z1
   injection z1 with z1
   simp only [List.cons.injEq,and_true] at z1
   obtain ⟨rfl,rfl,rfl,rfl,rfl,rfl,rfl,rfl⟩:=z1
   simp +contextual (maxSteps:=10000000) only [qa,qa0,ca,ca0,rc,rc0,sc,sc0,c123,h1,h2,h3,hpm',go_sem]
   refine tail _ _ ?_ ?_ ?_ ?_
   ·exact ⟨_,rfl⟩
   ·simp [upd,argT]
   ·simp [upd,argT]
   ·simp [upd,argT]
 ·cases h
end GP
namespace GP
open Go Go.Proofs
set_option maxRecDepth 100000
def ruleS (r : D) : Prop:=∃ (pm : Bool) (nm : List UInt8) (hi : Bool) (b0 b1 b2 b3 b4 b5 b6 b7 : D) (du ad : List (List UInt8)),r = .agg [.bool pm,.str nm,.bool hi,b0,b1,b2,b3,b4,b5,b6,b7,sliceD true (du.map D.str),sliceD true (ad.map D.str)] /\ ex8 (.agg [b0,b1,b2,b3,b4,b5,b6,b7])
theorem opt_ex8 {toks : List D} (ht : toks.all tokB = true) {b : Bool} {st : St} {r : D × St} (h : optP toks b st = some r) : ex8 r.1:=by
 unfold optP at h
 split at h
 ·unfold wholeP at h
  split at h
  ·cases h
  ·rename_i x' st1 hp'
   injection h with h;subst h
   exact lv_ex8 10000 .expr toks st (x',st1) ht hp'
 ·injection h with h;subst h
  exact ⟨⟨_,_,_,_,_,_,_,_,rfl⟩,rfl,rfl⟩
theorem rule_shape {F : Nat} {toks : List D} (ht : toks.all tokB = true) {st : St} {r : D × St} (h : ruleP F toks st = some r) : ruleS r.1:=by
 unfold ruleP at h
 simp only at h
 split at h
 ·cases h
 ·rename_i x st1 hz
  have hx:=opt_ex8 ht hz
  split at h
  ·cases h
  ·rename_i du ad st2 _
   injection h with h;subst h
   obtain ⟨⟨b0,b1,b2,b3,b4,b5,b6,b7,rfl⟩,ee,hc⟩:=hx
   exact ⟨_,_,_,b0,b1,b2,b3,b4,b5,b6,b7,du,ad,rfl,⟨⟨_,_,_,_,_,_,_,_,rfl⟩,ee,hc⟩⟩
theorem sl_strs_erase (l : List (List UInt8)) : (sliceD true (l.map D.str)).erase = sliceD true (l.map D.str):=by
 rw [erase_sliceD,strs_erase]
theorem ruleS_p {r : D} (h : ruleS r) : fit 13 r = true /\ r.erase = r /\ r.cl 0 0 = true /\ r.okc = true /\ r.cells.length = 13:=by
 obtain ⟨pm,nm,hi,b0,b1,b2,b3,b4,b5,b6,b7,du,ad,rfl,_,ee,hc⟩:=h
 refine ⟨rfl,?_,?_,rfl,rfl⟩
 ·simp only [D.erase,D.eraseL,D.agg.injEq,List.cons.injEq,and_true] at ee
  obtain ⟨q0,q1,q2,q3,q4,q5,q6,q7⟩:=ee
  simp only [D.erase,D.eraseL,sl_strs_erase,q0,q1,q2,q3,q4,q5,q6,q7]
 ·simp only [D.cl,D.clL,strs_cl,Bool.and_true,Bool.true_and] at hc ⊢
  simpa using hc
def rulesL (P : Part) (toks : List D) : Nat -> List D -> St -> Option (List D × St)
 | 0,_,_=>none
 | f + 1,rs,st=>if st.2 != 0 then some (rs,st) else if isP toks st [125] then some (rs,(st.1 + 1,st.2)) else match P toks st with
  | none=>none
  | some (r,st1)=>rulesL P toks f (rs ++ [r]) st1
theorem rulesL_len {P : Part} (toks : List D) : ∀ (f : Nat) (rs : List D) (st : St) (r : List D × St),rulesL P toks f rs st = some r -> r.1.length <= rs.length + f
 | 0,_,_,_,h=>by simp [rulesL] at h
 | f + 1,rs,st,r,h=>by
  simp only [rulesL] at h
  split at h
  ·injection h with h;subst h;simp
  ·split at h
   ·injection h with h;subst h;simp
   ·split at h
    ·cases h
    ·have:=rulesL_len toks f _ _ r h;simp at this;omega
theorem rules_fit {l : List D} (h : ∀ x ∈ l,ruleS x) : l.all (fit 13) = true:=List.all_eq_true.2 fun x hx=>(ruleS_p (h x hx)).1
theorem rules_erase {l : List D} (h : ∀ x ∈ l,ruleS x) : D.eraseL l = l:=eraseL_id fun x hx=>(ruleS_p (h x hx)).2.1
set_option maxHeartbeats 8000000 in
theorem pol_tail {F : Nat} {X : Pred} (hX : X = XE [] [] [(121,φC gName),(71,φC gMust),(72,φC gWord),(69,φC gMay),(122,φC gWhole),(123,φC (gRule F))]) {H : Hp} {p : Nat} {n : Bool} {xs : List D} (hp : p < H.length) (htk : xs.all tokB = true) (hlen : xs.length <= 600) (T : Tk)
  {hi : Bool} {nm by' us : List UInt8} {x0 x1 x2 x3 x4 x5 x6 x7 y0 : D} {Y : List D} (ee : (D.agg [x0,x1,x2,x3,x4,x5,x6,x7]).erase = .agg [x0,x1,x2,x3,x4,x5,x6,x7]) (hY : (Ob.row (y0 :: Y)) = .row [.str [],.str [],.str [],.bool false,.str [],.int .i64 0,.int .i64 0,.str [],.nils,.str [],.str [],.nils,.nils])
  {G : Nat} (hG : G <= 10000) {a : Nat} {e : Int} {rs : List D} {a' : Nat} {e' : Int} (hs : rulesL (ruleP F) xs G [] (a,e) = some (rs,(a',e'))) {t : Nat -> D} {T0 : Tk} (hT0 : ExtT T T0) (t0 : t 0 = .ptr p 0) (t2 : t 2 = .ptr H.length 0) (t3 : t 3 = .ptr (H.length + 1) 0) :
  W X (C.tl 8 c73) (endQ [.inr (2,true,13)] (LeavesE (.agg [.str nm,.str by',.str us,.bool hi,x0,x1,x2,x3,x4,x5,x6,x7,sliceD true rs]) (H.set p (.row [sliceD n xs,.int .i64 ((a' : Nat) : Int),.int .i64 e'])) T))
   ⟨t,H.set p (.row [sliceD n xs,.int .i64 ((a : Nat) : Int),.int .i64 e]) ++ [.row (y0 :: Y),.row [.str nm,.str by',.str us,.bool hi,x0,x1,x2,x3,x4,x5,x6,x7,.nils]],T0⟩:=by
 subst hX
 rw [hY]
 have hM : MonoH []:=.nil
 have qa:=φQ_at (n:=n) hp htk hlen;have qa0:=φQ_at0 (n:=n) hp htk hlen;have ca:=φC_at (n:=n) hp htk hlen;have ca0:=φC_at0 (n:=n) hp htk hlen;have rc:=rd_cu hp;have rc0:=rd_cu0 hp;have sc:=fun K : D -> S -> Prop=>st_cu (K:=K) hp;have sc0:=fun K : D -> S -> Prop=>st_cu0 (K:=K) hp
 simp +contextual (maxSteps:=10000000) only [c73,go_sem]
 refine W_for (fun i s'=>∃ (b : Nat) (eb : Int) (u : List D) (d1 : D) (i1 : Option Nat),s'.t 0 = .ptr p 0 /\ s'.t 2 = .ptr H.length 0 /\ s'.t 3 = .ptr (H.length + 1) 0 ∧
   s'.H = H.set p (.row [sliceD n xs,.int .i64 ((b : Nat) : Int),.int .i64 eb]) ++ [.row [.str [],.str [],.str [],.bool false,.str [],.int .i64 0,.int .i64 0,.str [],.nils,.str [],.str [],.nils,.nils],.row [.str nm,.str by',.str us,.bool hi,x0,x1,x2,x3,x4,x5,x6,x7,d1]] ∧
   ExtT T s'.T /\ accZ 13 T i1 u d1 s'.T /\ rulesL (ruleP F) xs (G - i) u (b,eb) = some (rs,(a',e')) /\ i <= G /\ u.length <= i /\ ∀ x ∈ u,ruleS x) G
  ⟨0,a,e,[],.nils,none,t0,t2,t3,rfl,hT0,⟨rfl,rfl⟩,hs,by omega,by simp,by simp⟩
  (fun i s h=>by obtain ⟨_,_,_,_,_,h⟩:=h;exact h.2.2.2.2.2.2.2.1) ?_ (XE_mono _ _ _)
 rintro i ⟨t',B,T'⟩ ⟨b,eb,u,d1,i1,r0,r2,r3,rfl,hE,hA1,hz,hi',hul,hrs⟩
 simp only at r0 r2 r3 hE hA1
 obtain ⟨k,hk⟩ : ∃ k,G - i = k:=⟨_,rfl⟩
 rw [hk] at hz
 have fin : ∀ {l : List D} {d : D},d.erase = sliceD true l -> (D.agg [.str nm,.str by',.str us,.bool hi,x0,x1,x2,x3,x4,x5,x6,x7,d]).erase = .agg [.str nm,.str by',.str us,.bool hi,x0,x1,x2,x3,x4,x5,x6,x7,sliceD true l]:=fun e1=>by
  simp only [D.erase,D.eraseL,D.agg.injEq,List.cons.injEq,and_true] at ee
  obtain ⟨q0,q1,q2,q3,q4,q5,q6,q7⟩:=ee
  simp only [D.erase,D.eraseL]
  rw [e1,q0,q1,q2,q3,q4,q5,q6,q7]
 cases k with
 | zero=>simp [rulesL] at hz
 | succ k =>
 simp only [rulesL] at hz
 have e1:=accZ_erase hA1 (rules_erase hrs)
 have l1:=accZ_len hA1
 rcases tf (eb == 0) with g | g
 ·have g' : (eb != 0) = false:=by simpa using g
  rw [if_neg (by rw [g'];decide)] at hz
  have ek : G - (i + 1) = k:=by omega
  rcases tf (isP xs (b,eb) [125]) with gd | gd
  ·rw [if_pos gd] at hz
   injection hz with hz
   injection hz with z1 hz;injection hz with z3 z4
   subst z1;subst z3;subst z4
   simp +contextual (maxSteps:=10000000) only [qa,qa0,ca,ca0,rc,rc0,sc,sc0,r0,r2,r3,gMay,g,gd,go_sem]
   exact leavesE_mk (fin e1) ⟨_,rfl⟩ hE
  ·rw [if_neg (by rw [gd];decide)] at hz
   split at hz
   ·cases hz
   rename_i r st1 hr
   obtain ⟨b1,eb1⟩:=st1
   have hS:=rule_shape htk hr
   obtain ⟨f1,f2,f3,f4,f5⟩:=ruleS_p hS
   have hr1 : gRule F [] xs b eb = some (r,b1,eb1):=hr
   simp +contextual (maxSteps:=10000000) only [qa,qa0,ca,ca0,rc,rc0,sc,sc0,r0,r2,r3,gMay,g,gd,hr1,l1,f2,f4,f5,go_sem]
   refine app_accZ (bytes:=208) r hA1 hE f1 (rules_fit hrs) (by omega) (by omega) fun d3 T2 j3 hB hE2 hk2 hj=>?_
   obtain ⟨hB0,hB1,rfl,hB3⟩:=hB
   simp +contextual (maxSteps:=10000000) only [qa,qa0,ca,ca0,rc,rc0,sc,sc0,r0,r2,r3,ek,go_sem]
   exact ⟨b1,eb1,u ++ [r],_,some j3,rfl,hE2,⟨hB0,hB1,rfl,hB3⟩,hz,by omega,by simp;omega,(fun x hx=>by
    rcases List.mem_append.1 hx with hx | hx
    ·exact hrs x hx
    ·rw [List.mem_singleton] at hx;subst hx;exact hS)⟩
 ·have g' : (eb != 0) = true:=by simpa using g
  rw [if_pos g'] at hz
  injection hz with hz
  injection hz with z1 hz;injection hz with z3 z4
  subst z1;subst z3;subst z4
  simp +contextual (maxSteps:=10000000) only [qa,qa0,ca,ca0,rc,rc0,sc,sc0,r0,r2,r3,g,go_sem]
  exact leavesE_mk (fin e1) ⟨_,rfl⟩ hE
end GP
namespace GP
open Go Go.Proofs
set_option maxRecDepth 100000
def wBy : List UInt8:=[98,121]
def wUse : List UInt8:=[117,115,101]
def wFor : List UInt8:=[102,111,114]
def policyP (F G : Nat) (toks : List D) (st : St) : Option (D × St) :=
 let N:=nameP toks st
 let Y:=nameP toks (mustP toks wBy N.2)
 let W:=wordP toks (mustP toks wUse Y.2)
 let I:=mayP toks wFor (mustP toks [123] W.2)
 match optP toks I.1 I.2 with
 | none=>none
 | some (x,st1)=>match rulesL (ruleP F) toks G [] (if I.1 then mustP toks [59] st1 else st1) with
  | none=>none
  | some (rs,st2)=>some (.agg ([.str N.1,.str Y.1,.str W.1,.bool I.1] ++ x.cells ++ [sliceD true rs]),st2)
def gPolicy (F G : Nat) : GE:=fun rest toks a e=>match rest with
 | []=>policyP F G toks (a,e)
 | _=>none
theorem rulesL_S {F : Nat} {toks : List D} (ht : toks.all tokB = true) : ∀ (f : Nat) (rs : List D) (st : St) (r : List D × St),(∀ x ∈ rs,ruleS x) -> rulesL (ruleP F) toks f rs st = some r -> ∀ x ∈ r.1,ruleS x
 | 0,_,_,_,_,h=>by simp [rulesL] at h
 | f + 1,rs,st,r,hr,h=>by
  simp only [rulesL] at h
  split at h
  ·injection h with h;subst h;exact hr
  ·split at h
   ·injection h with h;subst h;exact hr
   ·split at h
    ·cases h
    ·rename_i x st1 hx
     exact rulesL_S ht f _ _ r (fun y hy=>by
      rcases List.mem_append.1 hy with hy | hy
      ·exact hr y hy
      ·rw [List.mem_singleton] at hy;subst hy;exact rule_shape ht hx) h
theorem sl_cl {l : List D} (h : ∀ x ∈ l,x.cl 0 0 = true) : (sliceD true l).cl 0 0 = true:=by
 have hl : ∀ l : List D,(∀ x ∈ l,x.cl 0 0 = true) -> D.clL 0 0 l = true:=by
  intro l
  induction l with
  | nil=>intro _;rfl
  | cons x l ih=>intro h;simp only [D.clL,h x (by simp),ih fun y hy=>h y (by simp [hy]),Bool.and_self]
 rcases sliceD_cases true l with ⟨_,e⟩ | e
 ·rw [e];rfl
 ·rw [e];simp only [D.cl,hl l h];rfl
set_option maxHeartbeats 8000000 in
theorem ok73 (F G : Nat) (hF : F <= 10000) (hG : G <= 10000) : OkAtE Tryz.prog 73 (φC (gPolicy F G)):=by
 have hM : MonoH []:=.nil
 refine okC_of (l:=[]) (m:=[]) (ee:=[(121,φC gName),(71,φC gMust),(72,φC gWord),(69,φC gMay),(122,φC gWhole),(123,φC (gRule F))]) .nil .nil (.cons ok121 (.cons ok71 (.cons ok72 (.cons ok69 (.cons ok122 (.cons (ok123 F hF) .nil)))))) fn73 fun H p n xs a e rest r a' e' hp htk hlen h=>?_
 unfold gPolicy at h
 split at h
 ·have qa:=φQ_at (n:=n) hp htk hlen;have qa0:=φQ_at0 (n:=n) hp htk hlen;have ca:=φC_at (n:=n) hp htk hlen;have ca0:=φC_at0 (n:=n) hp htk hlen;have rc:=rd_cu hp;have rc0:=rd_cu0 hp;have sc:=fun K : D -> S -> Prop=>st_cu (K:=K) hp;have sc0:=fun K : D -> S -> Prop=>st_cu0 (K:=K) hp
  unfold policyP at h
  obtain ⟨w1,⟨a1,e1⟩,hy1⟩ : ∃ w1 st1,nameP xs (a,e) = (w1,st1):=⟨_,_,rfl⟩
  obtain ⟨⟨a2,e2⟩,hy2⟩ : ∃ st2,mustP xs wBy (a1,e1) = st2:=⟨_,rfl⟩
  obtain ⟨w3,⟨a3,e3⟩,hy3⟩ : ∃ w3 st3,nameP xs (a2,e2) = (w3,st3):=⟨_,_,rfl⟩
  obtain ⟨⟨a4,e4⟩,hy4⟩ : ∃ st4,mustP xs wUse (a3,e3) = st4:=⟨_,rfl⟩
  obtain ⟨w5,⟨a5,e5⟩,hy5⟩ : ∃ w5 st5,wordP xs (a4,e4) = (w5,st5):=⟨_,_,rfl⟩
  obtain ⟨⟨a6,e6⟩,hy6⟩ : ∃ st6,mustP xs [123] (a5,e5) = st6:=⟨_,rfl⟩
  obtain ⟨b,⟨a7,e7⟩,hy7⟩ : ∃ b st7,mayP xs wFor (a6,e6) = (b,st7):=⟨_,_,rfl⟩
  simp only [hy1,hy2,hy3,hy4,hy5,hy6,hy7] at h
  split at h
  ·cases h
  rename_i x st8 hz
  obtain ⟨a8,e8⟩:=st8
  split at h
  ·cases h
  rename_i rs st9 hs
  obtain ⟨a9,e9⟩:=st9
  injection h with h
  injection h with g1 g2;injection g2 with g2 g3
  subst g2;subst g3
  have h1 : gName [] xs a e = some (.str w1,a1,e1):=by simp only [gName,hy1]
  have h2 : gMust [.str [98,121]] xs a1 e1 = some (.tup [],a2,e2):=by simp only [gMust];rw [show mustP xs [98,121] (a1,e1) = (a2,e2) from hy2]
  have h3 : gName [] xs a2 e2 = some (.str w3,a3,e3):=by simp only [gName,hy3]
  have h4 : gMust [.str [117,115,101]] xs a3 e3 = some (.tup [],a4,e4):=by simp only [gMust];rw [show mustP xs [117,115,101] (a3,e3) = (a4,e4) from hy4]
  have h5 : gWord [] xs a4 e4 = some (.str w5,a5,e5):=by simp only [gWord,hy5]
  have h6 : gMust [.str [123]] xs a5 e5 = some (.tup [],a6,e6):=by simp only [gMust,hy6]
  have h7 : gMay [.str [102,111,114]] xs a6 e6 = some (.bool b,a7,e7):=by
   rw [gMay_at];rw [show mayP xs [102,111,114] (a6,e6) = (b,(a7,e7)) from hy7]
  have hx8 : ex8 x:=opt_ex8 htk hz
  have hrs:=rulesL_S htk G [] _ (rs,(a9,e9)) (by simp) hs
  obtain ⟨⟨b0,b1,b2,b3,b4,b5,b6,b7,rfl⟩,ee,hcl⟩:=hx8
  have hr : r = .agg [.str w1,.str w3,.str w5,.bool b,b0,b1,b2,b3,b4,b5,b6,b7,sliceD true rs]:=g1.symm
  subst hr
  refine ⟨by simp,?_,fun T=>?_⟩
  ·have q:=sl_cl fun x hx=>(ruleS_p (hrs x hx)).2.2.1
   simp only [D.cl,D.clL,q,Bool.and_true,Bool.true_and] at hcl ⊢
   simpa using hcl
  rw [W_part 8]
  obtain ⟨⟨aa,eb⟩,hst⟩ : ∃ st,(if b = true then mustP xs [59] (a8,e8) else (a8,e8)) = st:=⟨_,rfl⟩
  rw [hst] at hs
  have tail:=fun (t : Nat -> D) (T0 : Tk) hT0 t0 t2 t3=>pol_tail (F:=F) (X:=XE [] [] [(121,φC gName),(71,φC gMust),(72,φC gWord),(69,φC gMay),(122,φC gWhole),(123,φC (gRule F))]) rfl (n:=n) hp htk hlen T (hi:=b) (nm:=w1) (by':=w3) (us:=w5) (x0:=b0) (x1:=b1) (x2:=b2) (x3:=b3) (x4:=b4) (x5:=b5) (x6:=b6) (x7:=b7) ee (y0:=.str []) (Y:=[.str [],.str [],.bool false,.str [],.int .i64 0,.int .i64 0,.str [],.nils,.str [],.str [],.nils,.nils]) rfl hG hs (t:=t) (T0:=T0) hT0 t0 t2 t3
  obtain ⟨tl,htl⟩ : ∃ z,C.tl 8 c73 = z:=⟨_,rfl⟩
  rw [htl] at tail ⊢
  obtain ⟨Q,hQ⟩ : ∃ Q,endQ [.inr (2,true,13)] (LeavesE (.agg [.str w1,.str w3,.str w5,.bool b,b0,b1,b2,b3,b4,b5,b6,b7,sliceD true rs]) (H.set p (.row [sliceD n xs,.int .i64 ((a9 : Nat) : Int),.int .i64 e9])) T) = Q:=⟨_,rfl⟩
  rw [hQ] at tail ⊢
  cases b with
  | true =>
   have h8 : gWhole [] xs a7 e7 = some (.agg [b0,b1,b2,b3,b4,b5,b6,b7],a8,e8):=hz
   have h9 : gMust [.str [59]] xs a8 e8 = some (.tup [],aa,eb):=by simp only [gMust];rw [show mustP xs [59] (a8,e8) = (aa,eb) from hst]
   simp +contextual (maxSteps:=10000000) only [qa,qa0,ca,ca0,rc,rc0,sc,sc0,c73,h1,h2,h3,h4,h5,h6,h7,h8,h9,ee,go_sem]
   refine tail _ _ ?_ ?_ ?_ ?_
   ·exact ⟨_,(List.append_nil _).symm⟩
   ·simp [upd,argT]
   ·simp [upd,argT]
   ·simp [upd,argT]
  | false =>
   have hz' : some ((zeroE,(a7,e7)) : D × St) = some (.agg [b0,b1,b2,b3,b4,b5,b6,b7],(a8,e8)):=hz
   have hst' : (a8,e8) = (aa,eb):=hst
   injection hst' with s1 s2
   subst s1;subst s2
   injection hz' with hz'
   injection hz' with z1 z2;injection z2 with z2 z3
   subst z2;subst z3
   simp only [zeroE] at z1
   injection z1 with z1
   simp only [List.cons.injEq,and_true] at z1
   obtain ⟨rfl,rfl,rfl,rfl,rfl,rfl,rfl,rfl⟩:=z1
   simp +contextual (maxSteps:=10000000) only [qa,qa0,ca,ca0,rc,rc0,sc,sc0,c73,h1,h2,h3,h4,h5,h6,h7,go_sem]
   refine tail _ _ ?_ ?_ ?_ ?_
   ·exact ⟨_,(List.append_nil _).symm⟩
   ·simp [upd,argT]
   ·simp [upd,argT]
   ·simp [upd,argT]
 ·cases h
end GP
namespace GP
open Go Go.Proofs
set_option maxRecDepth 100000
def wFact : List UInt8:=[102,97,99,116]
def wPolicy : List UInt8:=[112,111,108,105,99,121]
def manyL (P : Part) (w : List UInt8) (toks : List D) : Nat -> List D -> St -> Option (List D × St)
 | 0,_,_=>none
 | f + 1,xs,st=>if isP toks st w then match P toks (st.1 + 1,st.2) with
  | none=>none
  | some (x,st1)=>manyL P w toks f (xs ++ [x]) st1
  else some (xs,st)
def factPt : Part:=fun toks st=>some (factP toks st)
def factS (x : D) : Prop:=∃ (w n : List UInt8) (k : Int) (b : Bool),x = .agg [.str w,.str n,.int .i64 k,.bool b]
theorem fact_shape (toks : List D) (st : St) : factS (factP toks st).1:=⟨_,_,_,_,rfl⟩
theorem factS_p {r : D} (h : factS r) : fit 4 r = true /\ r.erase = r /\ r.cl 0 0 = true /\ r.okc = true /\ r.cells.length = 4:=by
 obtain ⟨w,n,k,b,rfl⟩:=h
 exact ⟨rfl,rfl,rfl,rfl,rfl⟩
def polS (r : D) : Prop:=∃ (nm by' us : List UInt8) (hi : Bool) (b0 b1 b2 b3 b4 b5 b6 b7 : D) (rs : List D),r = .agg [.str nm,.str by',.str us,.bool hi,b0,b1,b2,b3,b4,b5,b6,b7,sliceD true rs] /\ ex8 (.agg [b0,b1,b2,b3,b4,b5,b6,b7]) /\ ∀ x ∈ rs,ruleS x
theorem pol_shape {F G : Nat} {toks : List D} (ht : toks.all tokB = true) {st : St} {r : D × St} (h : policyP F G toks st = some r) : polS r.1:=by
 unfold policyP at h
 simp only at h
 split at h
 ·cases h
 ·rename_i x st1 hz
  have hx:=opt_ex8 ht hz
  split at h
  ·cases h
  ·rename_i rs st2 hs
   have hrs:=rulesL_S ht G [] _ (rs,st2) (by simp) hs
   injection h with h;subst h
   obtain ⟨⟨b0,b1,b2,b3,b4,b5,b6,b7,rfl⟩,ee,hc⟩:=hx
   exact ⟨_,_,_,_,b0,b1,b2,b3,b4,b5,b6,b7,rs,rfl,⟨⟨_,_,_,_,_,_,_,_,rfl⟩,ee,hc⟩,hrs⟩
theorem polS_p {r : D} (h : polS r) : fit 13 r = true /\ r.erase = r /\ r.cl 0 0 = true /\ r.okc = true /\ r.cells.length = 13:=by
 obtain ⟨nm,by',us,hi,b0,b1,b2,b3,b4,b5,b6,b7,rs,rfl,⟨_,ee,hc⟩,hrs⟩:=h
 have q:=sl_cl fun x hx=>(ruleS_p (hrs x hx)).2.2.1
 refine ⟨rfl,?_,?_,rfl,rfl⟩
 ·simp only [D.erase,D.eraseL,D.agg.injEq,List.cons.injEq,and_true] at ee
  obtain ⟨q0,q1,q2,q3,q4,q5,q6,q7⟩:=ee
  simp only [D.erase,D.eraseL,erase_sliceD,rules_erase hrs,q0,q1,q2,q3,q4,q5,q6,q7]
 ·simp only [D.cl,D.clL,q,Bool.and_true,Bool.true_and] at hc ⊢
  simpa using hc
theorem manyL_S {P : Part} {p : D -> Prop} {w : List UInt8} {toks : List D} (hP : ∀ st r,P toks st = some r -> p r.1) : ∀ (f : Nat) (xs : List D) (st : St) (r : List D × St),(∀ x ∈ xs,p x) -> manyL P w toks f xs st = some r -> ∀ x ∈ r.1,p x
 | 0,_,_,_,_,h=>by simp [manyL] at h
 | f + 1,xs,st,r,hx,h=>by
  simp only [manyL] at h
  split at h
  ·split at h
   ·cases h
   ·rename_i x st1 hy
    exact manyL_S hP f _ _ r (fun y hy'=>by
     rcases List.mem_append.1 hy' with hy' | hy'
     ·exact hx y hy'
     ·rw [List.mem_singleton] at hy';subst hy';exact hP _ _ hy) h
  ·injection h with h;subst h;exact hx
def zeroDoc : D:=.agg [.nils,.str [],.nils]
def docP (F G : Nat) (toks : List D) (st : St) : Option (D × Nat × Int):=match manyL factPt wFact toks G [] st with
 | none=>none
 | some (fs,st1)=>match manyL (policyP F G) wPolicy toks G [] (mustP toks [59] (wordP toks (mustP toks wUse st1)).2) with
  | none=>none
  | some (ps,st4)=>some (if (endP toks st4).2 != 0 then (zeroDoc,(endP toks st4).1,(endP toks st4).2) else (.agg [sliceD true fs,.str (wordP toks (mustP toks wUse st1)).1,sliceD true ps],0,0))
end GP
namespace GP
open Go Go.Proofs
set_option maxRecDepth 100000
def parseD (toks : List D) : Option (D × Nat × Int):=if 600 < toks.length then some (zeroDoc,0,13) else docP 1000 1000 toks (0,0)
def φparseD : List D -> Option D
 | [l]=>if isSl l && (elems l).all tokB && decide ((elems l).length <= 2 ^ 40) then (parseD (elems l)).map fun r=>.tup [r.1,.int .i64 (r.2.1 : Nat),.int .i64 r.2.2] else none
 | _=>none
set_option maxHeartbeats 8000000 in
theorem ok31 : OkAt Tryz.prog 31 φparseD:=by
 refine okF_of (l:=[]) (m:=[]) (e:=[(69,φC gMay),(70,φC gFact),(71,φC gMust),(72,φC gWord),(73,φC (gPolicy 1000 1000)),(50,φC gEnd)]) .nil .nil (.cons ok69 (.cons ok70 (.cons ok71 (.cons ok72 (.cons (ok73 1000 1000 (by omega) (by omega)) (.cons ok50 .nil)))))) fn31 fun args r h=>?_
 have hM : MonoH []:=.nil
 unfold φparseD at h
 split at h
 ·rename_i l
  split at h
  ·rename_i hc
   simp only [Bool.and_eq_true,decide_eq_true_eq] at hc
   obtain ⟨⟨hs,htk⟩,hlen⟩:=hc
   obtain ⟨n,hn⟩:=isSl_elim hs
   obtain ⟨xs,hx⟩ : ∃ xs,elems l = xs:=⟨_,rfl⟩
   rw [hx] at htk hlen hn h
   subst hn
   unfold parseD at h
   split at h
   ·rename_i g
    have d : decide ((600 : Int) < xs.length) = true:=by simp only [decide_eq_true_eq];omega
    injection h with h
    simp only at h
    subst h
    refine ⟨by simp,rfl,fun H T=>?_⟩
    simp +contextual (maxSteps:=10000000) only [c31,d,zeroDoc,go_sem]
    exact lvM
   ·rename_i g
    have hl : xs.length <= 600:=by omega
    have d : decide ((600 : Int) < xs.length) = false:=by simp only [decide_eq_false_iff_not];omega
    have htq:=toksB_erase htk
    unfold docP at h
    split at h
    ·cases h
    rename_i fs st1 hfs
    obtain ⟨a1,e1⟩:=st1
    obtain ⟨⟨a2,e2⟩,hy2⟩ : ∃ st,mustP xs wUse (a1,e1) = st:=⟨_,rfl⟩
    obtain ⟨w,⟨a3,e3⟩,hy3⟩ : ∃ w st,wordP xs (a2,e2) = (w,st):=⟨_,_,rfl⟩
    obtain ⟨⟨a4,e4⟩,hy4⟩ : ∃ st,mustP xs [59] (a3,e3) = st:=⟨_,rfl⟩
    simp only [hy2,hy3,hy4] at h
    split at h
    ·cases h
    rename_i ps st5 hps
    obtain ⟨a5,e5⟩:=st5
    obtain ⟨⟨a6,e6⟩,hy6⟩ : ∃ st,endP xs (a5,e5) = st:=⟨_,rfl⟩
    simp only [hy6,Option.map_some,Option.some.injEq] at h
    have hfS:=manyL_S (p:=factS) (fun st r (h : factPt xs st = some r)=>by
     unfold factPt at h;injection h with h;rw [<- h];exact fact_shape _ _) 1000 [] _ (fs,(a1,e1)) (by simp) hfs
    have hpS:=manyL_S (p:=polS) (fun st r h=>pol_shape htk h) 1000 [] _ (ps,(a5,e5)) (by simp) hps
    have hfc:=sl_cl fun x hx=>(factS_p (hfS x hx)).2.2.1
    have hpc:=sl_cl fun x hx=>(polS_p (hpS x hx)).2.2.1
    refine ⟨by simp,?_,fun H T=>?_⟩
    ·rw [<- h]
     split <;> simp [D.cl,D.clL,zeroDoc,hfc,hpc]
    simp +contextual (maxSteps:=10000000) only [c31,d,go_sem]
    refine W_for (fun i s'=>∃ (b : Nat) (eb : Int) (u : List D) (d1 : D) (i1 : Option Nat),s'.t 2 = .ptr H.length 0 /\ s'.t 5 = .ptr (H.length + 1) 0 /\ s'.t 6 = .ptr (H.length + 2) 0 ∧
      s'.H = H ++ [.row [.nils,.str [],.nils],.row [sliceD n xs,.int .i64 ((b : Nat) : Int),.int .i64 eb],.row [d1,.str [],.nils]] ∧
      ExtT T s'.T /\ accZ 4 T i1 u d1 s'.T /\ manyL factPt wFact xs (1000 - i) u (b,eb) = some (fs,(a1,e1)) /\ i <= 1000 /\ u.length <= i /\ ∀ x ∈ u,factS x) 1000
     ⟨0,0,0,[],.nils,none,by simp [upd,argT],by simp [upd,argT],by simp [upd,argT],rfl,ExtT.refl _,⟨rfl,rfl⟩,hfs,by omega,by simp,by simp⟩
     (fun i s h=>by obtain ⟨_,_,_,_,_,h⟩:=h;exact h.2.2.2.2.2.2.2.1) ?_ (XE_mono _ _ _)
    rintro i ⟨t',B,T'⟩ ⟨b,eb,u,d1,i1,r2,r5,r6,rfl,hE,hA1,hz,hi',hul,hus⟩
    simp only at r2 r5 r6 hE hA1
    have cc:=fun (g : GE) (rest : List D) (b : Nat) (eb : Int) (d : List D) (r : D) (a' : Nat) (e' : Int) (h : g rest xs b eb = some (r,a',e'))=>φC_own (n:=n) (A:=H ++ [.row [.nils,.str [],.nils]]) (B:=[.row d]) htk hl g rest b eb h
    simp only [List.length_append,List.length_cons,List.length_nil,List.append_assoc,List.cons_append,List.nil_append,Nat.zero_add] at cc
    obtain ⟨k,hk⟩ : ∃ k,1000 - i = k:=⟨_,rfl⟩
    rw [hk] at hz
    cases k with
    | zero=>simp [manyL] at hz
    | succ k =>
    simp only [manyL] at hz
    have ek : 1000 - (i + 1) = k:=by omega
    rcases tf (isP xs (b,eb) wFact) with gd | gd
    ·rw [if_pos gd] at hz
     obtain ⟨x,⟨b1,eb1⟩,hx1⟩ : ∃ x st,factP xs (b + 1,eb) = (x,st):=⟨_,_,rfl⟩
     have hxS : factS x:=by have:=fact_shape xs (b + 1,eb);rw [hx1] at this;exact this
     obtain ⟨f1,f2,f3,f4,f5⟩:=factS_p hxS
     simp only [factPt,hx1] at hz
     have m1 : gMay [.str [102,97,99,116]] xs b eb = some (.bool true,b + 1,eb):=by rw [gMay_at];unfold mayP;rw [show isP xs (b,eb) [102,97,99,116] = true from gd];rfl
     have m2 : gFact [] xs (b + 1) eb = some (x,b1,eb1):=by simp only [gFact,hx1]
     have c1:=cc _ _ _ _ [d1,.str [],.nils] _ _ _ m1
     have c2:=cc _ _ _ _ [d1,.str [],.nils] _ _ _ m2
     simp +contextual (maxSteps:=10000000) only [r2,r5,r6,c1,c2,f2,f4,f5,go_sem]
     refine app_accZ (bytes:=48) x hA1 hE f1 (List.all_eq_true.2 fun y hy=>(factS_p (hus y hy)).1) (by omega) (by omega) fun d3 T2 j3 hB hE2 hk2 hj=>?_
     obtain ⟨hB0,hB1,rfl,hB3⟩:=hB
     simp +contextual (maxSteps:=10000000) only [r2,r5,r6,ek,go_sem]
     exact ⟨b1,eb1,u ++ [x],_,some j3,rfl,hE2,⟨hB0,hB1,rfl,hB3⟩,hz,by omega,by simp;omega,(fun y hy=>by
      rcases List.mem_append.1 hy with hy | hy
      ·exact hus y hy
      ·rw [List.mem_singleton] at hy;subst hy;exact hxS)⟩
    ·rw [if_neg (by rw [gd];decide)] at hz
     injection hz with hz
     injection hz with z1 hz;injection hz with z2 z3
     subst z1;subst z2;subst z3
     have m1 : gMay [.str [102,97,99,116]] xs b eb = some (.bool false,b,eb):=by rw [gMay_at];unfold mayP;rw [show isP xs (b,eb) [102,97,99,116] = false from gd];rfl
     have m2 : gMust [.str [117,115,101]] xs b eb = some (.tup [],a2,e2):=by simp only [gMust];rw [show mustP xs [117,115,101] (b,eb) = (a2,e2) from hy2]
     have m3 : gWord [] xs a2 e2 = some (.str w,a3,e3):=by simp only [gWord,hy3]
     have m4 : gMust [.str [59]] xs a3 e3 = some (.tup [],a4,e4):=by simp only [gMust,hy4]
     have c1:=cc _ _ _ _ [d1,.str [],.nils] _ _ _ m1
     have c2:=cc _ _ _ _ [d1,.str [],.nils] _ _ _ m2
     have c3:=cc _ _ _ _ [d1,.str [],.nils] _ _ _ m3
     have c4:=cc _ _ _ _ [d1,.str w,.nils] _ _ _ m4
     simp +contextual (maxSteps:=10000000) only [r2,r5,r6,c1,c2,c3,c4,go_sem]
     refine W_for (fun i s'=>∃ (b : Nat) (eb : Int) (v : List D) (d2 : D) (i2 : Option Nat) ,s'.t 2 = .ptr H.length 0 /\ s'.t 5 = .ptr (H.length + 1) 0 /\ s'.t 6 = .ptr (H.length + 2) 0 ∧
       s'.H = H ++ [.row [.nils,.str [],.nils],.row [sliceD n xs,.int .i64 ((b : Nat) : Int),.int .i64 eb],.row [d1,.str w,d2]] ∧
       ExtT T s'.T /\ accZ 4 T i1 u d1 s'.T /\ accZ 13 T i2 v d2 s'.T /\ (∀ j,i1 = some j -> i2 ≠ some j) /\ manyL (policyP 1000 1000) wPolicy xs (1000 - i) v (b,eb) = some (ps,(a5,e5)) /\ i <= 1000 /\ v.length <= i /\ ∀ x ∈ v,polS x) 1000
      ⟨0,a4,e4,[],.nils,none,by simp [upd,r2],by simp [upd,r5],by simp [upd,r6],rfl,hE,hA1,⟨rfl,rfl⟩,(fun j _ q=>by cases q),hps,by omega,by simp,by simp⟩
      (fun i s h=>by obtain ⟨_,_,_,_,_,h⟩:=h;exact h.2.2.2.2.2.2.2.2.2.1) ?_ (XE_mono _ _ _)
     rintro i' ⟨t2,B2,T2⟩ ⟨b',eb',v,d2,i2,q2,q5,q6,rfl,hE2,hB1,hB2,hD,hz2,hi2,hvl,hvs⟩
     simp only at q2 q5 q6 hE2 hB1 hB2
     obtain ⟨k2,hk2⟩ : ∃ k,1000 - i' = k:=⟨_,rfl⟩
     rw [hk2] at hz2
     cases k2 with
     | zero=>simp [manyL] at hz2
     | succ k2 =>
     simp only [manyL] at hz2
     have ek2 : 1000 - (i' + 1) = k2:=by omega
     rcases tf (isP xs (b',eb') wPolicy) with gp | gp
     ·rw [if_pos gp] at hz2
      split at hz2
      ·cases hz2
      rename_i x st1 hx1
      obtain ⟨b1,eb1⟩:=st1
      have hxS : polS x:=pol_shape htk hx1
      obtain ⟨f1,f2,f3,f4,f5⟩:=polS_p hxS
      have m1 : gMay [.str [112,111,108,105,99,121]] xs b' eb' = some (.bool true,b' + 1,eb'):=by rw [gMay_at];unfold mayP;rw [show isP xs (b',eb') [112,111,108,105,99,121] = true from gp];rfl
      have m2 : gPolicy 1000 1000 [] xs (b' + 1) eb' = some (x,b1,eb1):=hx1
      have c1:=cc _ _ _ _ [d1,.str w,d2] _ _ _ m1
      have c2:=cc _ _ _ _ [d1,.str w,d2] _ _ _ m2
      simp +contextual (maxSteps:=10000000) only [q2,q5,q6,c1,c2,f2,f4,f5,go_sem]
      refine app_accZ (bytes:=208) x hB2 hE2 f1 (List.all_eq_true.2 fun y hy=>(polS_p (hvs y hy)).1) (by omega) (by omega) fun d3 T3 j3 hB hE3 hkk hj=>?_
      obtain ⟨hB0,hB1',rfl,hB3⟩:=hB
      simp +contextual (maxSteps:=10000000) only [q2,q5,q6,ek2,go_sem]
      exact ⟨b1,eb1,v ++ [x],_,some j3,rfl,hE3,accZ_keep hB1 (fun j hj2=>by
       subst hj2
       exact hkk j (fun q=>hD j rfl q.symm) (accZ_lt hB1)),⟨hB0,hB1',rfl,hB3⟩,(fun j q q2=>by
       injection q2 with q2;subst q2;subst q
       rcases hj with hj | hj
       ·have:=accZ_lt hB1;omega
       ·exact hD _ rfl hj.symm),hz2,by omega,by simp;omega,(fun y hy=>by
       rcases List.mem_append.1 hy with hy | hy
       ·exact hvs y hy
       ·rw [List.mem_singleton] at hy;subst hy;exact hxS)⟩
     ·rw [if_neg (by rw [gp];decide)] at hz2
      injection hz2 with hz2
      injection hz2 with z1 hz2;injection hz2 with z2 z3
      subst z1;subst z2;subst z3
      have m1 : gMay [.str [112,111,108,105,99,121]] xs b' eb' = some (.bool false,b',eb'):=by rw [gMay_at];unfold mayP;rw [show isP xs (b',eb') [112,111,108,105,99,121] = false from gp];rfl
      have m2 : gEnd [] xs b' eb' = some (if e6 == 0 then .tup [.int .i64 0,.int .i64 0] else .tup [.int .i64 (a6 : Nat),.int .i64 e6],a6,e6):=by simp only [gEnd,hy6]
      have fe : D.eraseL u = u:=eraseL_id fun x hx=>(factS_p (hfS x hx)).2.1
      have pe : D.eraseL v = v:=eraseL_id fun x hx=>(polS_p (hpS x hx)).2.1
      have e1:=accZ_erase hB1 fe
      have e2:=accZ_erase hB2 pe
      have c1:=cc _ _ _ _ [d1,.str w,d2] _ _ _ m1
      rcases tf (e6 == 0) with g6 | g6
      ·rw [g6] at m2
       have g6' : (e6 != 0) = false:=by simpa using g6
       rw [g6'] at h
       simp only [Bool.false_eq_true,if_false] at h
       rw [if_pos rfl] at m2
       have c2:=cc _ _ _ _ [d1,.str w,d2] _ _ _ m2
       have z0 : ((0 : Int) != 0) = false:=rfl
       subst h
       simp +contextual (maxSteps:=10000000) only [q2,q5,q6,c1,c2,z0,go_sem]
       refine leavesE_mk ?_ ⟨_,rfl⟩ hE2
       simp only [D.erase,D.eraseL,e1,e2]
      ·rw [g6] at m2
       have g6' : (e6 != 0) = true:=by simpa using g6
       rw [g6'] at h
       simp only [if_true] at h
       rw [if_neg (by decide)] at m2
       have c2:=cc _ _ _ _ [d1,.str w,d2] _ _ _ m2
       subst h
       simp +contextual (maxSteps:=10000000) only [q2,q5,q6,c1,c2,g6',zeroDoc,go_sem]
       exact leavesE_mk rfl ⟨_,rfl⟩ hE2
  ·cases h
 ·cases h
end GP
namespace GP
open Go Go.Proofs
set_option maxRecDepth 100000
def isTxs (l : D) : Prop:=∃ (m : Bool) (xs : List (List UInt8)),l = sliceD m (xs.map D.str) /\ xs.length <= 2 ^ 47 /\ ∀ s ∈ xs,s.length <= 2 ^ 47
def txs (l : D) : List (List UInt8):=(elems l).map strB
theorem txs_mk (m : Bool) (xs : List (List UInt8)) : txs (sliceD m (xs.map D.str)) = xs:=by
 unfold txs
 rw [elems_sliceD,List.map_map]
 have : (strB ∘ D.str) = id:=rfl
 rw [this,List.map_id]
def txtB (s : List UInt8) : Bool:=formI 3 s 0
open Classical in
noncomputable def φtexts : List D -> Option D
 | [l]=>if isTxs l then some (.bool ((txs l).all txtB)) else none
 | _=>none
set_option maxHeartbeats 1000000 in
theorem ok67 : OkAt Tryz.prog 67 φtexts:=by
 refine ok_of (l:=[(57,φform)]) (.cons ok57 .nil) fn67 fun args r h=>?_
 unfold φtexts at h
 split at h
 ·rename_i l
  split at h
  ·rename_i hc
   injection h with h;subst h
   obtain ⟨m,xs,rfl,hl,hs⟩:=hc
   rw [txs_mk]
   refine ⟨by simp,by simp [D.cl],fun H T=>?_⟩
   simp +contextual (maxSteps:=10000000) only [c67,go_sem]
   refine W_for (fun j s'=>s'.t 0 = sliceD m (xs.map D.str) /\ s'.t 3 = .int .i64 j /\ s'.H = H /\ s'.T = T /\ j <= xs.length /\ (xs.take j).all txtB = true) xs.length ⟨0,by simp [upd,argT]⟩ (fun i s h=>h.2.2.2.2.1) ?_ (XL_mono _)
   rintro j ⟨t1,B,T'⟩ ⟨r0,r3,rfl,rfl,hj,hc⟩
   simp only at r0 r3
   by_cases ha : j < xs.length
   ·have d1 : decide ((j : Int) < ((xs.map D.str).length : Nat)) = true:=by simpa using ha
    have ex : xs[j]? = some xs[j]:=by simp [ha]
    have ey : (xs.map D.str)[j]? = some (.str xs[j]):=by rw [List.getElem?_map,ex];rfl
    have nx:=fun hp=>all_nx' (p:=txtB) ex hc hp
    have no:=fun hp=>all_no' (p:=txtB) ex hp
    have hsx:=hs _ (List.getElem_mem ha)
    obtain ⟨x,hx⟩ : ∃ x,xs[j] = x:=⟨_,rfl⟩
    rw [hx] at ex ey nx no hsx
    have px : φform [.agg [.int .i64 3,.str x,.int .i64 0]] = some (.bool (txtB x)):=by simp only [φform];rw [if_pos (by omega)];rfl
    obtain ⟨xb,hxb⟩ : ∃ z,txtB x = z:=⟨_,rfl⟩
    simp only [hxb] at px nx no
    rw [List.length_map] at d1
    cases xb with
    | true =>
     have nx:=nx rfl
     simp +contextual (maxSteps:=10000000) only [r0,r3,d1,ey,px,List.length_map,wrap_succ j (by omega),go_sem]
     exact ⟨by omega,nx⟩
    | false =>
     have no:=no rfl
     simp +contextual (maxSteps:=10000000) only [r0,r3,d1,ey,px,List.length_map,no,go_sem]
   ·have d1 : decide ((j : Int) < xs.length) = false:=by simpa using ha
    have : j = xs.length:=by omega
    subst this
    rw [List.take_length] at hc
    simp +contextual (maxSteps:=10000000) only [r0,r3,d1,List.length_map,hc,go_sem]
  ·cases h
 ·cases h
noncomputable def optB (b : Bool) (e : D) : Bool:=if b then fmR nodeB e && decide (dpt nodeB e <= 12) else sameE nodeB e zeroE
open Classical in
noncomputable def φopt : List D -> Option D
 | [.bool b,e]=>if isE nodeB e then some (.bool (optB b e)) else none
 | _=>none
theorem zero_isE : isE nodeB zeroE:=isE_le (lvB_1 10000) (isE_of (m:=0) (op:=[]) (k:=0) (i:=0) (s:=[]) (nl:=true) (l:=[]) (who:=[]) (name:=[]) (q:=true) (ps:=[]) (by simp) (by simp) (by simp) zero_isVr (by simp) (fun z hz=>by cases hz))
theorem ok66 : OkAt Tryz.prog 66 φopt:=by
 refine ok_of (l:=[(20,φsmE nodeB),(21,φfmR nodeB),(22,φdpt nodeB)]) (.cons (ok20 nodeB) (.cons (ok21 nodeB) (.cons (ok22 nodeB nodeB_le) .nil))) fn66 fun args r h=>?_
 unfold φopt at h
 split at h
 ·rename_i b e
  split at h
  ·rename_i he
   injection h with h;subst h
   refine ⟨by simp,by simp [D.cl],fun H T=>?_⟩
   have ee:=isE_erase he
   obtain ⟨q1,q2,q3,q4⟩:=isE_cells he
   have p1 : φsmE nodeB [e,zeroE] = some (.bool (sameE nodeB e zeroE)):=by simp only [φsmE];rw [if_pos ⟨he,zero_isE⟩]
   have p2 : φfmR nodeB [e] = some (.bool (fmR nodeB e)):=by simp only [φfmR];rw [if_pos he]
   have p3 : φdpt nodeB [e] = some (.int .i64 ((dpt nodeB e : Nat) : Int)):=by simp only [φdpt];rw [if_pos he]
   have p4 : decide (((dpt nodeB e : Nat) : Int) <= 12) = decide (dpt nodeB e <= 12):=by rw [decide_eq_decide];omega
   unfold optB
   obtain ⟨s,hs⟩ : ∃ z,sameE nodeB e zeroE = z:=⟨_,rfl⟩
   obtain ⟨f,hf⟩ : ∃ z,fmR nodeB e = z:=⟨_,rfl⟩
   obtain ⟨dp,hdp⟩ : ∃ z,dpt nodeB e = z:=⟨_,rfl⟩
   rw [hs] at p1 ⊢;rw [hf] at p2 ⊢;rw [hdp] at p3 p4 ⊢
   simp only [zeroE] at p1
   cases b with
   | false=>simp +contextual (maxSteps:=10000000) only [c66,ee,q1,q2,q3,q4,p1,go_sem]
   | true =>
    cases f with
    | false=>simp +contextual (maxSteps:=10000000) only [c66,ee,q1,q2,q3,q4,p2,go_sem]
    | true=>simp +contextual (maxSteps:=10000000) only [c66,ee,q1,q2,q3,q4,p2,p3,p4,go_sem]
  ·cases h
 ·cases h
end GP
namespace GP
open Go Go.Proofs
set_option maxRecDepth 100000
def eqAt (xs ys : List (List UInt8)) (i : Nat) : Bool:=match xs[i]?,ys[i]? with
 | some x,some y=>x == y
 | _,_=>true
def sameT (xs ys : List (List UInt8)) : Bool:=if xs.length == ys.length then (List.range xs.length).all (eqAt xs ys) else false
open Classical in
noncomputable def φsameT : List D -> Option D
 | [l,k]=>if isTxs l /\ isTxs k then some (.bool (sameT (txs l) (txs k))) else none
 | _=>none
set_option maxHeartbeats 1000000 in
theorem ok74 : OkAt Tryz.prog 74 φsameT:=by
 refine ok_of (l:=[]) .nil fn74 fun args r h=>?_
 unfold φsameT at h
 split at h
 ·rename_i l k
  split at h
  ·rename_i hc
   injection h with h;subst h
   obtain ⟨⟨m,xs,rfl,hl,_⟩,m',ys,rfl,hl',_⟩:=hc
   rw [txs_mk,txs_mk]
   refine ⟨by simp,by simp [D.cl],fun H T=>?_⟩
   have bl:=bne_len xs.length ys.length
   unfold sameT
   rcases tf (xs.length == ys.length) with g4 | g4
   ·rw [g4] at bl ⊢
    rw [if_pos rfl]
    have hle : xs.length = ys.length:=by simpa using g4
    simp +contextual (maxSteps:=10000000) only [c74,List.length_map,bl,go_sem]
    refine W_for (fun j s'=>s'.t 0 = sliceD m (xs.map D.str) /\ s'.t 1 = sliceD m' (ys.map D.str) /\ s'.t 5 = .int .i64 j /\ s'.H = H /\ s'.T = T /\ j <= xs.length /\ (List.range j).all (eqAt xs ys) = true) xs.length ⟨0,by simp [upd,argT]⟩ (fun i s h=>h.2.2.2.2.2.1) ?_ (XL_mono _)
    rintro j ⟨t1,B,T'⟩ ⟨r0,r1,r5,rfl,rfl,hj,hc'⟩
    simp only at r0 r1 r5
    by_cases ha : j < xs.length
    ·have d1 : decide ((j : Int) < xs.length) = true:=by simpa using ha
     have hb : j < ys.length:=by omega
     have ex : (xs.map D.str)[j]? = some (.str xs[j]):=by rw [List.getElem?_map,List.getElem?_eq_getElem ha];rfl
     have ey : (ys.map D.str)[j]? = some (.str ys[j]):=by rw [List.getElem?_map,List.getElem?_eq_getElem hb];rfl
     have G : eqAt xs ys j = (xs[j] == ys[j]):=by unfold eqAt;rw [List.getElem?_eq_getElem ha,List.getElem?_eq_getElem hb]
     have bad : eqAt xs ys j = false -> (List.range xs.length).all (eqAt xs ys) = false:=fun h=>range_false_of h ha
     rw [G] at bad
     have nx : (xs[j] == ys[j]) = true -> (List.range (j + 1)).all (eqAt xs ys) = true:=fun h=>by
      rw [List.range_succ,List.all_append,hc']
      simp [G,h]
     obtain ⟨x,hX⟩ : ∃ x,xs[j] = x:=⟨_,rfl⟩
     obtain ⟨y,hY⟩ : ∃ y,ys[j] = y:=⟨_,rfl⟩
     rw [hX] at ex bad nx
     rw [hY] at ey bad nx
     rcases tf (x != y) with e | e
     ·have e' : (x == y) = false:=by simpa using e
      have bad:=bad e'
      simp +contextual (maxSteps:=10000000) only [r0,r1,r5,d1,List.length_map,ex,ey,e,bad,go_sem]
     ·have e' : (x == y) = true:=by simpa using e
      have nx:=nx e'
      simp +contextual (maxSteps:=10000000) only [r0,r1,r5,d1,List.length_map,ex,ey,e,wrap_succ j (by omega),go_sem]
      exact ⟨by omega,by rw [List.range_succ] at nx;exact nx⟩
    ·have d1 : decide ((j : Int) < xs.length) = false:=by simpa using ha
     have : j = xs.length:=by omega
     subst this
     simp +contextual (maxSteps:=10000000) only [r0,r1,r5,d1,List.length_map,hc',go_sem]
   ·rw [g4] at bl ⊢
    rw [if_neg (by decide)]
    simp +contextual (maxSteps:=10000000) only [c74,List.length_map,bl,go_sem]
  ·cases h
 ·cases h
end GP
namespace GP
open Go Go.Proofs
set_option maxRecDepth 100000
theorem rgE_le {n m : Nat} (h : n <= m) : ∀ {e : D},rgE n e -> rgE m e:=by
 induction h with
 | refl=>exact fun {_} h=>h
 | step _ ih =>
  rename_i m _
  have up : ∀ (n : Nat) (e : D),rgE n e -> rgE (n + 1) e:=by
   intro n
   induction n with
   | zero=>intro e h;exact h.elim
   | succ n ih=>intro e h;exact ⟨h.1,fun x hx=>ih x (h.2 x hx)⟩
  exact fun {e} h=>up m e (ih h)
theorem rg_of {e : D} (h : ∀ x ∈ vl (eV e),-(2 ^ 63) <= vi x /\ vi x < 2 ^ 63) (hp : ∀ x ∈ eps e,rgC x) : rgC e:=by
 have key : ∀ l : List D,(∀ x ∈ l,rgC x) -> ∃ n,∀ x ∈ l,rgE n x:=by
  intro l
  induction l with
  | nil=>intro _;exact ⟨0,fun x hx=>by cases hx⟩
  | cons a l ih =>
   intro h
   obtain ⟨n,hn⟩:=h a (by simp)
   obtain ⟨m,hm⟩:=ih fun x hx=>h x (by simp [hx])
   exact ⟨max n m,fun x hx=>by
    rcases List.mem_cons.1 hx with rfl | hx
    ·exact rgE_le (Nat.le_max_left _ _) hn
    ·exact rgE_le (Nat.le_max_right _ _) (hm x hx)⟩
 obtain ⟨n,hn⟩:=key _ hp
 exact ⟨n + 1,h,hn⟩
theorem rg_two {op : List UInt8} {a b : D} (ha : rgC a) (hb : rgC b) : rgC (twoD op a b):=rg_of (fun x hx=>by cases hx) fun x hx=>by
 have hx : x ∈ [a,b]:=hx
 simp only [List.mem_cons,List.not_mem_nil,or_false] at hx
 rcases hx with rfl | rfl
 ·exact ha
 ·exact hb
theorem rg_one {op : List UInt8} {a : D} (ha : rgC a) : rgC (oneD op a):=rg_of (fun x hx=>by cases hx) fun x hx=>by
 have hx : x ∈ [a]:=hx
 rw [List.mem_singleton] at hx;subst hx;exact ha
theorem rg_leaf (op who name : List UInt8) : rgC (leafD op who name):=rg_of (fun x hx=>by cases hx) fun x hx=>by cases hx
theorem rg_val {v : D} (hv : isVr v) (h : ∀ x ∈ vl v,-(2 ^ 63) <= vi x /\ vi x < 2 ^ 63) : rgC (valE v):=by
 obtain ⟨_,e2,_,_,e5⟩:=valE_parts hv
 exact rg_of (by rw [e2];exact h) (by rw [e5];intro x hx;cases hx)
theorem lit_vl (toks : List D) (st : St) : vl (literalP toks st).1 = []:=by
 unfold literalP;(repeat' split) <;> rfl
theorem bagV_rng {xs : List D} (h : ∀ x ∈ xs,isVr x) : ∀ x ∈ vl (bagV xs).1,-(2 ^ 63) <= vi x /\ vi x < 2 ^ 63:=by
 unfold bagV
 split
 ·intro x hx;cases hx
 split
 ·intro x hx;cases hx
 split
 ·intro x hx;cases hx
 ·rename_i g1 g2 g3
  simp only [Bool.not_eq_false] at g1
  have hg : good1 xs:=fun x hx=>by
   have hf:=List.all_eq_true.1 g1 x hx
   rw [formed_same] at hf
   have hb : badB xs x = false:=by
    cases hb : badB xs x with
    | false=>rfl
    | true=>exact absurd (List.any_eq_true.2 ⟨x,hx,hb⟩) g2
   unfold formedB at hf
   rw [if_pos (by unfold badB at hb;simp only [Bool.or_eq_false_iff,beq_eq_false_iff_ne,ne_eq] at hb;simp [hb.1.2])] at hf
   exact hf
  intro x hx
  simp only [vl_mk] at hx
  obtain ⟨y,hy,rfl⟩:=((bagR_spec hg).2 x).1 hx
  rw [can_vi];exact (h y hy).2
def partG (P : Part) : Prop:=∀ toks st r,toks.all tokB = true -> P toks st = some r -> rgC r.1
theorem rowL_G {P : Part} (hP : partG P) {toks : List D} (ht : toks.all tokB = true) {bs : List (List UInt8)} : ∀ (f : Nat) (x : D) (st : St) (r : D × St),rgC x -> rowL toks P bs f x st = some r -> rgC r.1
 | 0,_,_,_,_,h=>by simp [rowL] at h
 | f + 1,x,st,r,hx,h=>by
  simp only [rowL] at h
  split at h
  ·injection h with h;subst h;exact hx
  ·split at h
   ·injection h with h;subst h;exact hx
   ·split at h
    ·cases h
    ·rename_i y st2 hy
     exact rowL_G hP ht f _ st2 r (rg_two hx (hP toks _ _ ht hy)) h
theorem rowP_G {P : Part} (hP : partG P) {toks : List D} (ht : toks.all tokB = true) {bs : List (List UInt8)} {f : Nat} {st : St} {r : D × St} (h : rowP toks P bs f st = some r) : rgC r.1:=by
 unfold rowP at h
 split at h
 ·cases h
 ·rename_i x st1 hx
  exact rowL_G hP ht f x st1 r (hP toks _ _ ht hx) h
theorem oneS_G {op : List UInt8} {z : Option (D × St)} {r : D × St} (hz : ∀ r,z = some r -> rgC r.1) (h : oneS op z = some r) : rgC r.1:=by
 cases z with
 | none=>cases h
 | some z =>
  obtain ⟨x,st⟩:=z
  simp only [oneS,Option.some.injEq] at h;subst h
  exact rg_one (hz _ rfl)
theorem bagP_G {toks : List D} (ht : toks.all tokB = true) {f fr : Nat} {st : St} {r : D × St} (h : bagP toks f fr st = some r) : rgC r.1:=by
 unfold bagP at h
 split at h
 ·cases h
 ·rename_i out st1 hb
  have hv:=bagL_isVr ht f _ _ _ (fun v hv=>by rw [List.mem_singleton] at hv;subst hv;exact item_isVr ht st) hb
  split at h
  ·injection h with h;subst h
   exact rg_of (fun x hx=>by cases hx) fun x hx=>by cases hx
  ·injection h with h;subst h
   exact rg_val (bagV_isVr hv) (bagV_rng hv)
theorem lv_G : ∀ (f : Nat) (lv : Lv),partG (pLv f lv)
 | 0,_,_,_,_,_,h=>by cases h
 | f + 1,lv,toks,st,r,ht,h=>by
  cases lv with
  | expr=>exact rowP_G (lv_G f .and) ht h
  | and=>exact rowP_G (lv_G f .not) ht h
  | sum=>exact rowP_G (lv_G f .prod) ht h
  | prod=>exact rowP_G (lv_G f .unary) ht h
  | not =>
   simp only [pLv] at h
   split at h
   ·exact oneS_G (fun r hr=>lv_G f .not toks _ r ht hr) h
   ·exact lv_G f .cmp toks st r ht h
  | unary =>
   simp only [pLv] at h
   split at h
   ·exact oneS_G (fun r hr=>lv_G f .unary toks _ r ht hr) h
   ·exact lv_G f .plain toks st r ht h
  | cmp =>
   simp only [pLv] at h
   obtain ⟨z,hz⟩ : ∃ z,pLv f .sum toks st = z:=⟨_,rfl⟩
   rw [hz] at h
   cases z with
   | none=>cases h
   | some z =>
    obtain ⟨x,st1⟩:=z
    have hx:=lv_G f .sum toks _ _ ht hz
    simp only [cmpS2] at h
    split at h
    ·injection h with h;subst h;exact hx
    ·split at h
     ·cases h
     ·rename_i y st2 hy
      injection h with h;subst h
      have k:=lv_G f .sum toks _ (y,st2) ht hy
      exact rg_two hx k
  | inner =>
   simp only [pLv] at h
   obtain ⟨z,hz⟩ : ∃ z,pLv f .expr toks (mustP toks [40] st) = z:=⟨_,rfl⟩
   rw [hz] at h
   cases z with
   | none=>cases h
   | some z =>
    obtain ⟨x,st1⟩:=z
    simp only [innS,Option.some.injEq] at h;subst h
    exact lv_G f .expr toks _ (x,st1) ht hz
  | plain =>
   simp only [pLv,plainP] at h
   split at h
   ·injection h with h;subst h;exact rg_val (lit_isVr ht st) (by rw [lit_vl];intro x hx;cases hx)
   split at h
   ·injection h with h;subst h;exact rg_leaf _ _ _
   split at h
   ·exact lv_G f .inner toks st r ht h
   split at h
   ·exact bagP_G ht h
   split at h
   ·exact oneS_G (fun r hr=>lv_G f .inner toks _ r ht hr) h
   split at h
   ·injection h with h;subst h;exact rg_leaf _ _ _
   split at h
   ·injection h with h;subst h;exact rg_leaf _ _ _
   ·injection h with h;subst h;exact rg_leaf _ _ _
theorem parsed {toks : List D} (ht : toks.all tokB = true) (h : toks.length <= 600) (h0 : (parseE toks).2.2 = 0) : ∃ x,(parseE toks).1 = x /\ (parseE toks).2.1 = 0 /\ isE nodeB x /\ GoodE x /\ rgC x /\ dpt nodeB x <= 12 /\ cntP (tkC true x) = cntP toks /\ (tkC false x).length <= toks.length:=by
 obtain ⟨x,hp,h1,h2,h3⟩:=parseE_ok h h0
 have hR : Rdd toks 0 x 0 toks.length:=lv_R ht 10000 .expr (0,0) x (toks.length,0) hp rfl
 refine ⟨x,h1,h2,lv_isE 10000 .expr toks (0,0) _ ht hp,hR.g,lv_G 10000 .expr toks (0,0) _ ht hp,h3,?_,?_⟩
 ·rw [hR.c]
  unfold cnt2 sbT
  rw [List.take_length,List.drop_zero]
 ·have:=hR.m
  rw [parW_own hR.g.parts.1] at this
  omega
theorem same_zeroE : φsmE nodeB [zeroE,zeroE] = some (.bool true):=by
 have hE : isE nodeB zeroE:=isE_le (lvB_1 10000) (isE_of (m:=0) (op:=[]) (k:=0) (i:=0) (s:=[]) (nl:=true) (l:=[]) (who:=[]) (name:=[]) (q:=true) (ps:=[]) (by simp) (by simp) (by simp) zero_isVr (by simp) (fun z hz=>by cases hz))
 simp only [φsmE]
 rw [if_pos ⟨hE,hE⟩]
 obtain ⟨n,hn⟩:=isE_pos hE
 rw [hn];rfl
theorem awake18 : φtrueE [] = some (.bool true):=rfl
end GP
namespace GP
open Go Go.Proofs
set_option maxRecDepth 100000
theorem tok_cells {xs : List D} (ht : xs.all tokB = true) : xs.all (fun d=>d.cells.length == 3) = true:=by
 rw [List.all_eq_true] at ht ⊢
 intro x hx
 obtain ⟨k,s,n,e,_⟩:=tokB_elim (ht x hx)
 rw [e];rfl
theorem take_tok {xs : List D} (ht : xs.all tokB = true) (K : Nat) : (xs.take K).all tokB = true:=by
 rw [List.all_eq_true] at ht ⊢
 exact fun x hx=>ht x (List.mem_of_mem_take hx)
end GP
namespace GP
open Go Go.Proofs
set_option maxRecDepth 100000
theorem bagL_mono {toks : List D} : ∀ (f g : Nat) (out : List D) (st : St) (r : List D × St),f <= g -> bagL toks f out st = some r -> bagL toks g out st = some r
 | 0,_,_,_,_,_,h=>by simp [bagL] at h
 | f + 1,0,_,_,_,hl,_=>by omega
 | f + 1,g + 1,out,st,r,hl,h=>by
  simp only [bagL] at h ⊢
  split at h
  ·rename_i q;rw [if_pos q];exact bagL_mono f g _ _ r (by omega) h
  ·rename_i q;rw [if_neg q];exact h
theorem bagP_mono {toks : List D} {f g fr : Nat} {st : St} {r : D × St} (hl : f <= g) (h : bagP toks f fr st = some r) : bagP toks g fr st = some r:=by
 unfold bagP at h ⊢
 split at h
 ·cases h
 ·rename_i out st1 hb
  rw [bagL_mono f g _ _ _ hl hb];exact h
def partM (P Q : Part) : Prop:=∀ toks st r,P toks st = some r -> Q toks st = some r
theorem rowL_mono {P Q : Part} (hP : partM P Q) {toks : List D} {bs : List (List UInt8)} : ∀ (f g : Nat) (x : D) (st : St) (r : D × St),f <= g -> rowL toks P bs f x st = some r -> rowL toks Q bs g x st = some r
 | 0,_,_,_,_,_,h=>by simp [rowL] at h
 | f + 1,0,_,_,_,hl,_=>by omega
 | f + 1,g + 1,x,st,r,hl,h=>by
  simp only [rowL] at h ⊢
  split at h
  ·rename_i q;rw [if_pos q];exact h
  ·rename_i q;rw [if_neg q]
   split at h
   ·exact h
   ·split at h
    ·cases h
    ·rename_i y st2 hy
     rw [hP _ _ _ hy]
     exact rowL_mono hP f g _ st2 r (by omega) h
theorem rowP_mono {P Q : Part} (hP : partM P Q) {toks : List D} {bs : List (List UInt8)} {f g : Nat} (hl : f <= g) {st : St} {r : D × St} (h : rowP toks P bs f st = some r) : rowP toks Q bs g st = some r:=by
 unfold rowP at h ⊢
 split at h
 ·cases h
 ·rename_i x st1 hx
  rw [hP _ _ _ hx]
  exact rowL_mono hP f g x st1 r hl h
theorem oneS_mono {op : List UInt8} {z z' : Option (D × St)} {r : D × St} (hz : ∀ r,z = some r -> z' = some r) (h : oneS op z = some r) : oneS op z' = some r:=by
 cases z with
 | none=>cases h
 | some z=>rw [hz _ rfl];exact h
theorem lv_mono : ∀ (f g : Nat) (lv : Lv),f <= g -> partM (pLv f lv) (pLv g lv)
 | 0,_,_,_,_,_,_,h=>by cases h
 | f + 1,0,_,hl,_,_,_,_=>by omega
 | f + 1,g + 1,lv,hl,toks,st,r,h=>by
  have hl : f <= g:=by omega
  have M:=fun lv=>lv_mono f g lv hl
  cases lv with
  | expr=>exact rowP_mono (M .and) hl h
  | and=>exact rowP_mono (M .not) hl h
  | sum=>exact rowP_mono (M .prod) hl h
  | prod=>exact rowP_mono (M .unary) hl h
  | not =>
   simp only [pLv] at h ⊢
   split at h
   ·rename_i q;rw [if_pos q];exact oneS_mono (fun r hr=>M .not _ _ r hr) h
   ·rename_i q;rw [if_neg q];exact M .cmp _ _ r h
  | unary =>
   simp only [pLv] at h ⊢
   split at h
   ·rename_i q;rw [if_pos q];exact oneS_mono (fun r hr=>M .unary _ _ r hr) h
   ·rename_i q;rw [if_neg q];exact M .plain _ _ r h
  | cmp =>
   simp only [pLv] at h ⊢
   obtain ⟨z,hz⟩ : ∃ z,pLv f .sum toks st = z:=⟨_,rfl⟩
   rw [hz] at h
   cases z with
   | none=>cases h
   | some z =>
    obtain ⟨x,st1⟩:=z
    rw [M .sum _ _ _ hz]
    simp only [cmpS2] at h ⊢
    split at h
    ·exact h
    ·split at h
     ·cases h
     ·rename_i y st2 hy
      rw [M .sum _ _ _ hy];exact h
  | inner =>
   simp only [pLv] at h ⊢
   obtain ⟨z,hz⟩ : ∃ z,pLv f .expr toks (mustP toks [40] st) = z:=⟨_,rfl⟩
   rw [hz] at h
   cases z with
   | none=>cases h
   | some z=>rw [M .expr _ _ _ hz];exact h
  | plain =>
   simp only [pLv,plainP] at h ⊢
   split at h
   ·rename_i q;rw [if_pos q];exact h
   ·rename_i q;rw [if_neg q]
    split at h
    ·rename_i q;rw [if_pos q];exact h
    ·rename_i q;rw [if_neg q]
     split at h
     ·rename_i q;rw [if_pos q];exact M .inner _ _ r h
     ·rename_i q;rw [if_neg q]
      split at h
      ·rename_i q;rw [if_pos q];exact bagP_mono hl h
      ·rename_i q;rw [if_neg q]
       split at h
       ·rename_i q;rw [if_pos q];exact oneS_mono (fun r hr=>M .inner _ _ r hr) h
       ·rename_i q;rw [if_neg q];exact h
def Pr (lv : Lv) (toks : List D) (st : St) (r : D × St) : Prop:=∃ f,pLv f lv toks st = some r
def Rw (lv : Lv) (bs : List (List UInt8)) (toks : List D) (x : D) (st : St) (r : D × St) : Prop:=∃ f,rowL toks (pLv f lv) bs f x st = some r
section
variable {toks : List D} {st st1 st2 : St} {x y : D} {r : D × St} {lv : Lv} {bs : List (List UInt8)} {w : List UInt8}
theorem Rw.stop (h : firstP toks st bs = none) : Rw lv bs toks x st (x,st):=⟨1,by
 simp only [rowL];rw [h];simp⟩
theorem Rw.step (h0 : st.2 = 0) (h : firstP toks st bs = some w) (hy : Pr lv toks (st.1 + 1,0) (y,st2)) (hr : Rw lv bs toks (twoD w x y) st2 r) : Rw lv bs toks x st r:=by
 obtain ⟨f,hf⟩:=hy
 obtain ⟨g,hg⟩:=hr
 refine ⟨max f g + 1,?_⟩
 simp only [rowL]
 rw [if_neg (by rw [h0];decide),h]
 simp only
 rw [h0,lv_mono f (max f g + 1) lv (by omega) _ _ _ hf]
 simp only
 exact rowL_mono (lv_mono g (max f g + 1) lv (by omega)) g (max f g) _ _ _ (by omega) hg
theorem row_of {lv' : Lv} (e : ∀ f,pLv (f + 1) lv' = fun toks st=>rowP toks (pLv f lv) bs f st) (hx : Pr lv toks st (x,st1)) (hr : Rw lv bs toks x st1 r) : Pr lv' toks st r:=by
 obtain ⟨f,hf⟩:=hx
 obtain ⟨g,hg⟩:=hr
 refine ⟨max f g + 1,?_⟩
 rw [e]
 simp only [rowP]
 rw [lv_mono f (max f g) lv (by omega) _ _ _ hf]
 simp only
 exact rowL_mono (lv_mono g (max f g) lv (by omega)) g (max f g) _ _ _ (by omega) hg
theorem Pr.expr (hx : Pr .and toks st (x,st1)) (hr : Rw .and [wOr] toks x st1 r) : Pr .expr toks st r:=row_of (fun _=>rfl) hx hr
theorem Pr.and (hx : Pr .not toks st (x,st1)) (hr : Rw .not [wAnd] toks x st1 r) : Pr .and toks st r:=row_of (fun _=>rfl) hx hr
theorem Pr.sum (hx : Pr .prod toks st (x,st1)) (hr : Rw .prod [[43],[45]] toks x st1 r) : Pr .sum toks st r:=row_of (fun _=>rfl) hx hr
theorem Pr.prod (hx : Pr .unary toks st (x,st1)) (hr : Rw .unary [[42]] toks x st1 r) : Pr .prod toks st r:=row_of (fun _=>rfl) hx hr
theorem Pr.not1 (h0 : st.2 = 0) (g : isP toks st wNot = true) (h : Pr .not toks (st.1 + 1,0) (x,st1)) : Pr .not toks st (oneD wNot x,st1):=by
 obtain ⟨f,hf⟩:=h
 refine ⟨f + 1,?_⟩
 simp only [pLv]
 rw [if_pos g,h0,hf];rfl
theorem Pr.not0 (g : isP toks st wNot = false) (h : Pr .cmp toks st r) : Pr .not toks st r:=by
 obtain ⟨f,hf⟩:=h
 refine ⟨f + 1,?_⟩
 simp only [pLv]
 rw [if_neg (by rw [g];decide)];exact hf
theorem Pr.neg1 (h0 : st.2 = 0) (g : isP toks st [45] = true) (h : Pr .unary toks (st.1 + 1,0) (x,st1)) : Pr .unary toks st (oneD wNeg x,st1):=by
 obtain ⟨f,hf⟩:=h
 refine ⟨f + 1,?_⟩
 simp only [pLv]
 rw [if_pos g,h0,hf];rfl
theorem Pr.neg0 (g : isP toks st [45] = false) (h : Pr .plain toks st r) : Pr .unary toks st r:=by
 obtain ⟨f,hf⟩:=h
 refine ⟨f + 1,?_⟩
 simp only [pLv]
 rw [if_neg (by rw [g];decide)];exact hf
theorem Pr.cmp0 (h : Pr .sum toks st (x,st1)) (g : firstP toks st1 cmpW = none) : Pr .cmp toks st (x,st1):=by
 obtain ⟨f,hf⟩:=h
 refine ⟨f + 1,?_⟩
 simp only [pLv]
 rw [hf];simp only [cmpS2];rw [g]
theorem Pr.cmp1 (h : Pr .sum toks st (x,st1)) (h0 : st1.2 = 0) (g : firstP toks st1 cmpW = some w) (k : Pr .sum toks (st1.1 + 1,0) (y,st2)) : Pr .cmp toks st (twoD w x y,st2):=by
 obtain ⟨f,hf⟩:=h
 obtain ⟨g',hg⟩:=k
 refine ⟨max f g' + 1,?_⟩
 simp only [pLv]
 rw [lv_mono f (max f g') .sum (by omega) _ _ _ hf]
 simp only [cmpS2];rw [g]
 simp only
 rw [h0,lv_mono g' (max f g') .sum (by omega) _ _ _ hg]
theorem Pr.inner (h : Pr .expr toks (mustP toks [40] st) (x,st1)) : Pr .inner toks st (x,mustP toks [41] st1):=by
 obtain ⟨f,hf⟩:=h
 refine ⟨f + 1,?_⟩
 simp only [pLv]
 rw [hf];rfl
end
theorem Pr.fuel {toks : List D} {r : D × St} (h : toks.length <= 600) (hr : Pr .expr toks (0,0) r) : pLv 10000 .expr toks (0,0) = some r:=by
 obtain ⟨x,st,hp⟩:=expr_tot toks h
 obtain ⟨f,hf⟩:=hr
 have h1:=lv_mono f (max f 10000) .expr (by omega) _ _ _ hf
 have h2:=lv_mono 10000 (max f 10000) .expr (by omega) _ _ _ hp
 rw [h1] at h2
 rw [hp,← Option.some.inj h2]
end GP
namespace GP
open Go Go.Proofs
set_option maxRecDepth 100000
def Seg (toks : List D) (a : Nat) (l : List D) : Prop:=∀ i t,l[i]? = some t -> toks[a + i]? = some t
section
variable {toks : List D} {a : Nat} {l m : List D} {t : D}
theorem Seg.fst (h : Seg toks a (l ++ m)) : Seg toks a l:=fun i t ht=>h i t (by rw [List.getElem?_append_left (lt_of_get ht)];exact ht)
theorem Seg.snd (h : Seg toks a (l ++ m)) : Seg toks (a + l.length) m:=fun i t ht=>by
 have:=h (l.length + i) t (by rw [List.getElem?_append_right (by omega),show l.length + i - l.length = i by omega];exact ht)
 rw [Nat.add_assoc];exact this
theorem Seg.hd (h : Seg toks a (t :: l)) : toks[a]? = some t:=h 0 t rfl
theorem Seg.tl (h : Seg toks a (t :: l)) : Seg toks (a + 1) l:=fun i u hu=>by
 have:=h (i + 1) u hu
 rw [show a + 1 + i = a + (i + 1) by omega];exact this
theorem now_of (h : toks[a]? = some t) (hf : formT t = true) : nowS toks (a,0) = t:=by
 unfold nowS nowP
 rw [if_neg (show ¬ ((0 : Int) != 0) = true by decide),h]
 simp only
 rw [if_pos hf]
theorem form_sign {w : List UInt8} (h : isSign w = true) : formT (mkT 5 w 0) = true:=by
 show formI 5 w 0 = true
 unfold formI;rw [h];rfl
theorem is_sgn {w : List UInt8} (h : toks[a]? = some (mkT 5 w 0)) (hw : isSign w = true) (u : List UInt8) : isP toks (a,0) u = (w == u):=by
 unfold isP;rw [now_of h (form_sign hw)];rfl
theorem must_of {w : List UInt8} (h : isP toks (a,0) w = true) : mustP toks w (a,0) = (a + 1,0):=by unfold mustP;rw [if_pos h]
end
structure Cn (y v : D) : Prop where
 c : can y = can v
 l : vl y = []
theorem Cn.one {y v : D} (h : Cn y v) (hv : one1 v = true) : one1 y = true:=by
 have h1:=one1_can hv
 rw [<- h.c] at h1
 unfold one1 at h1 ⊢
 rw [can_vk,can_vi,can_vs,can_vl] at h1
 rw [h.l];exact h1
theorem Cn.k {y v : D} (h : Cn y v) : vk y = vk v:=by have:=congrArg vk h.c;rwa [can_vk,can_vk] at this
theorem Cn.i {y v : D} (h : Cn y v) : vi y = vi v:=by have:=congrArg vi h.c;rwa [can_vi,can_vi] at this
theorem Cn.s {y v : D} (h : Cn y v) : vs y = vs v:=by have:=congrArg vs h.c;rwa [can_vs,can_vs] at this
structure Elt (v : D) : Prop where
 o : one1 v = true
 b : litB v true = true
 r : vi v < 2 ^ 63
end GP
namespace GP
open Go Go.Proofs
set_option maxRecDepth 100000
section
variable {toks : List D} {st : St} {a : Nat} {w : List UInt8}
def Nxt (toks : List D) (st : St) (w : List UInt8) : Prop:=∀ u,isP toks st u = (w == u)
theorem Nxt.tk (h : Nxt toks st w) : GP.tk (nowS toks st) = 1 ∨ GP.tk (nowS toks st) = 5:=by
 have:=h w
 unfold isP at this
 simp only [beq_self_eq_true,Bool.and_eq_true,Bool.or_eq_true,beq_iff_eq] at this
 exact this.1
theorem Nxt.ne {u : List UInt8} (h : Nxt toks st w) (hu : (w == u) = false) : isP toks st u = false:=by rw [h,hu]
theorem Nxt.lit (h : Nxt toks st w) (h1 : (w == wTrue) = false) (h2 : (w == wFalse) = false) : (literalP toks st).2.1 = false:=by
 have hk:=h.tk
 have k2 : (GP.tk (nowS toks st) == 2) = false:=by rw [beq_eq_false_iff_ne];omega
 have k3 : (GP.tk (nowS toks st) == 3) = false:=by rw [beq_eq_false_iff_ne];omega
 have k4 : (GP.tk (nowS toks st) == 4) = false:=by rw [beq_eq_false_iff_ne];omega
 unfold literalP
 rw [k2,k3,k4,h.ne h1,h.ne h2];rfl
theorem Nxt.first (h : Nxt toks st w) : ∀ {ws : List (List UInt8)},w ∈ ws -> firstP toks st ws = some w
 | [],hw=>by cases hw
 | u :: r,hw=>by
  simp only [firstP,h u]
  cases g : w == u with
  | true=>simp only [if_true];rw [eq_of_beq' g]
  | false =>
   simp only [Bool.false_eq_true,if_false]
   refine h.first ?_
   rcases List.mem_cons.1 hw with rfl | hw
   ·rw [beq_self_eq_true] at g;cases g
   ·exact hw
theorem Nxt.plain (h : Nxt toks st w) (h1 : (w == wTrue) = false) (h2 : (w == wFalse) = false) (f : Nat) : pLv (f + 1) .plain toks st =
  if w == wNow then some (leafD wNow [] [],(st.1 + 1,st.2)) else
  if w == [40] then pLv f .inner toks st else
  if w == [91] then bagP toks f st.1 (st.1 + 1,st.2) else
  if w == wSize then oneS wSize (pLv f .inner toks (st.1 + 1,st.2)) else
  if w == wRole then some (leafD wRole [] (ts (kindP toks 3 (mustP toks [40] (st.1 + 1,st.2))).1),mustP toks [41] (kindP toks 3 (mustP toks [40] (st.1 + 1,st.2))).2) else
  if w == wHas then some (leafD wHas (attrP toks (mustP toks [40] (st.1 + 1,st.2))).1 (attrP toks (mustP toks [40] (st.1 + 1,st.2))).2.1,mustP toks [41] (attrP toks (mustP toks [40] (st.1 + 1,st.2))).2.2) else
  some (leafD wAttr (attrP toks st).1 (attrP toks st).2.1,(attrP toks st).2.2):=by
 simp only [pLv,plainP]
 rw [h.lit h1 h2,h wNow,h [40],h [91],h wSize,h wRole,h wHas]
 rfl
theorem nx_P (h : toks[a]? = some tP) : Nxt toks (a,0) [40]:=is_sgn h (by decide)
theorem nx_Q (h : toks[a]? = some tQ) : Nxt toks (a,0) [41]:=is_sgn h (by decide)
theorem Nxt.must (h : Nxt toks (a,0) w) : mustP toks w (a,0) = (a + 1,0):=must_of (by rw [h];simp)
end
end GP
namespace GP
open Go Go.Proofs
set_option maxRecDepth 100000
def lvN : Nat -> Lv
 | 0=>.expr
 | 1=>.and
 | 2=>.not
 | 3=>.cmp
 | 4=>.sum
 | 5=>.prod
 | 6=>.unary
 | _=>.plain
def bsN : Nat -> List (List UInt8)
 | 0=>[wOr]
 | 1=>[wAnd]
 | 4=>[[43],[45]]
 | 5=>[[42]]
 | _=>[]
def rowN (s : Nat) : Prop:=s = 0 ∨ s = 1 ∨ s = 4 ∨ s = 5
def noOp (L : Nat) (toks : List D) (st : St) : Prop:=∀ w ∈ ops2,(L : Int) <= stI w -> isP toks st w = false
theorem noOp.up {L M : Nat} {toks : List D} {st : St} (h : noOp L toks st) (hl : L <= M) : noOp M toks st:=fun w hw hs=>h w hw (by omega)
theorem noOp.first {L : Nat} {toks : List D} {st : St} (h : noOp L toks st) {ws : List (List UInt8)} (hw : ∀ w ∈ ws,w ∈ ops2 /\ (L : Int) <= stI w) : firstP toks st ws = none :=
 firstP_none fun w hm=>h w (hw w hm).1 (hw w hm).2
theorem Nxt.noOp {toks : List D} {st : St} {w : List UInt8} (h : Nxt toks st w) {L : Nat} (hw : w ∉ ops2 ∨ stI w < L) : noOp L toks st:=fun u hu hs=>by
 rw [h u]
 cases g : w == u with
 | false=>rfl
 | true =>
  have:=eq_of_beq' g
  subst this
  rcases hw with hw | hw
  ·exact absurd hu hw
  ·omega
structure It (toks : List D) (a b : Nat) (es : Nat) (x : D) : Prop where
 t1 : ∀ L,L <= es -> noOp L toks (b,0) -> Pr (lvN L) toks (a,0) (x,(b,0))
 t2 : ∀ s,s <= es -> rowN s -> noOp (s + 1) toks (b,0) -> ∀ r,Rw (lvN (s + 1)) (bsN s) toks x (b,0) r -> Pr (lvN s) toks (a,0) r
 hn : 2 < es -> isP toks (a,0) wNot = false
 hm : 6 < es -> isP toks (a,0) [45] = false
theorem row_rule {toks : List D} {st st1 : St} {x : D} {r : D × St} {s : Nat} (hs : rowN s) (h : Pr (lvN (s + 1)) toks st (x,st1)) (hr : Rw (lvN (s + 1)) (bsN s) toks x st1 r) : Pr (lvN s) toks st r:=by
 rcases hs with rfl | rfl | rfl | rfl
 ·exact Pr.expr h hr
 ·exact Pr.and h hr
 ·exact Pr.sum h hr
 ·exact Pr.prod h hr
theorem It.mk' {toks : List D} {a b K : Nat} {x : D} (hK : K <= 7) (h1 : noOp K toks (b,0) -> Pr (lvN K) toks (a,0) (x,(b,0)))
  (h2 : rowN K -> noOp (K + 1) toks (b,0) -> ∀ r,Rw (lvN (K + 1)) (bsN K) toks x (b,0) r -> Pr (lvN K) toks (a,0) r)
  (hn : 2 < K -> isP toks (a,0) wNot = false) (hm : 6 < K -> isP toks (a,0) [45] = false) : It toks a b K x:=by
 have key : ∀ d L,L + d = K -> noOp L toks (b,0) -> Pr (lvN L) toks (a,0) (x,(b,0)):=by
  intro d
  induction d with
  | zero=>intro L e h;rw [Nat.add_zero] at e;subst e;exact h1 h
  | succ d ih =>
   intro L e h
   have n1:=ih (L + 1) (by omega) (h.up (by omega))
   have hL : L = 0 ∨ L = 1 ∨ L = 2 ∨ L = 3 ∨ L = 4 ∨ L = 5 ∨ L = 6:=by omega
   rcases hL with rfl | rfl | rfl | rfl | rfl | rfl | rfl
   ·exact Pr.expr n1 (Rw.stop (h.first (by decide)))
   ·exact Pr.and n1 (Rw.stop (h.first (by decide)))
   ·exact Pr.not0 (hn (by omega)) n1
   ·exact Pr.cmp0 n1 (h.first (by decide))
   ·exact Pr.sum n1 (Rw.stop (h.first (by decide)))
   ·exact Pr.prod n1 (Rw.stop (h.first (by decide)))
   ·exact Pr.neg0 (hm (by omega)) n1
 refine ⟨fun L hL h=>key (K - L) L (by omega) h,fun s hs hrow hno r hr=>?_,hn,hm⟩
 by_cases hsK : s = K
 ·subst hsK;exact h2 hrow hno r hr
 ·exact row_rule hrow (key (K - (s + 1)) (s + 1) (by omega) hno) hr
theorem Pr.plain_in {toks : List D} {a : Nat} {r : D × St} (h : Nxt toks (a,0) [40]) (hr : Pr .inner toks (a,0) r) : Pr .plain toks (a,0) r:=by
 obtain ⟨f,hf⟩:=hr
 refine ⟨f + 1,?_⟩
 rw [h.plain (by decide) (by decide)]
 exact hf
theorem It.par {toks : List D} {a b K : Nat} {x : D} (h : It toks (a + 1) b K x) (hp : toks[a]? = some tP) (hq : toks[b]? = some tQ) : It toks a (b + 1) 7 x:=by
 have P:=nx_P hp
 have Q:=nx_Q hq
 refine It.mk' (Nat.le_refl _) (fun _=>?_) (fun h=>?_) (fun _=>P.ne (by decide)) (fun _=>P.ne (by decide))
 ·refine Pr.plain_in P ?_
  have:=h.t1 0 (Nat.zero_le _) (Q.noOp (.inl (by decide)))
  have:=Pr.inner (toks:=toks) (st:=(a,0)) (x:=x) (st1:=(b,0)) (by rw [P.must];exact this)
  rw [Q.must] at this
  exact this
 ·rcases h with h | h | h | h <;> cases h
theorem It.part {toks : List D} {a K least : Nat} {s li : Int} {full : Bool} {l : List D} {R : D -> Prop} (hs : s = (K : Int)) (hli : li = (least : Int)) (hl : least <= 7) (h : ∀ a,Seg toks a l -> ∃ x,It toks a (a + l.length) K x /\ R x) (hS : Seg toks a (parW full s li l)) :
  ∃ K' x,least <= K' /\ It toks a (a + (parW full s li l).length) K' x /\ R x:=by
 unfold parW at hS ⊢
 split at hS
 ·rename_i g
  rw [if_pos g]
  simp only [Bool.and_eq_true,decide_eq_true_eq] at g
  obtain ⟨x,h1,h2⟩:=h a hS
  exact ⟨K,x,by omega,h1,h2⟩
 ·rename_i g
  rw [if_neg g]
  obtain ⟨x,h1,h2⟩:=h (a + 1) hS.tl.fst
  have:=h1.par hS.hd hS.tl.snd.hd
  refine ⟨7,x,hl,?_,h2⟩
  rw [show a + (tP :: (l ++ [tQ])).length = a + 1 + l.length + 1 by simp;omega]
  exact this
theorem It.row {toks : List D} {a m b s Ka Kb : Nat} {w : List UInt8} {x y : D} (hrow : rowN s) (hw : w ∈ bsN s) (hs : stI w = (s : Int)) (hN : Nxt toks (m,0) w) (ha : It toks a m Ka x) (hKa : s <= Ka) (hb : It toks (m + 1) b Kb y) (hKb : s + 1 <= Kb) : It toks a b s (twoD w x y):=by
 have h2 : noOp (s + 1) toks (b,0) -> ∀ r,Rw (lvN (s + 1)) (bsN s) toks (twoD w x y) (b,0) r -> Pr (lvN s) toks (a,0) r:=fun hno r hr=>by
  refine ha.t2 s hKa hrow (hN.noOp (.inr (by rw [hs];omega))) r ?_
  exact Rw.step rfl (hN.first hw) (hb.t1 (s + 1) hKb hno) hr
 have hs7 : s <= 7:=by rcases hrow with rfl | rfl | rfl | rfl <;> omega
 refine It.mk' hs7 (fun hno=>h2 (hno.up (by omega)) _ (Rw.stop (hno.first ?_))) (fun _=>h2) (fun h=>ha.hn (by omega)) (fun h=>?_)
 ·rcases hrow with rfl | rfl | rfl | rfl <;> decide
 ·rcases hrow with rfl | rfl | rfl | rfl <;> omega
theorem It.cmp {toks : List D} {a m b Ka Kb : Nat} {w : List UInt8} {x y : D} (hw : w ∈ cmpW) (hs : stI w = 3) (hN : Nxt toks (m,0) w) (ha : It toks a m Ka x) (hKa : 4 <= Ka) (hb : It toks (m + 1) b Kb y) (hKb : 4 <= Kb) : It toks a b 3 (twoD w x y):=by
 refine It.mk' (by omega) (fun hno=>?_) (fun h=>?_) (fun _=>ha.hn (by omega)) (fun h=>by omega)
 ·exact Pr.cmp1 (ha.t1 4 hKa (hN.noOp (.inr (by rw [hs];decide)))) rfl (hN.first hw) (hb.t1 4 hKb (hno.up (by omega)))
 ·rcases h with h | h | h | h <;> cases h
theorem It.not {toks : List D} {a b K : Nat} {x : D} (hN : Nxt toks (a,0) wNot) (h : It toks (a + 1) b K x) (hK : 2 <= K) : It toks a b 2 (oneD wNot x):=by
 refine It.mk' (by omega) (fun hno=>?_) (fun h=>?_) (fun h=>by omega) (fun h=>by omega)
 ·exact Pr.not1 rfl (by rw [hN];simp) (h.t1 2 hK hno)
 ·rcases h with h | h | h | h <;> cases h
theorem It.neg {toks : List D} {a b K : Nat} {x : D} (hN : Nxt toks (a,0) [45]) (h : It toks (a + 1) b K x) (hK : 6 <= K) : It toks a b 6 (oneD wNeg x):=by
 refine It.mk' (by omega) (fun hno=>?_) (fun h=>?_) (fun _=>hN.ne (by decide)) (fun h=>by omega)
 ·exact Pr.neg1 rfl (by rw [hN];simp) (h.t1 6 hK hno)
 ·rcases h with h | h | h | h <;> cases h
theorem It.leaf {toks : List D} {a b : Nat} {x : D} (h : Pr .plain toks (a,0) (x,(b,0))) (h1 : isP toks (a,0) wNot = false) (h2 : isP toks (a,0) [45] = false) : It toks a b 7 x :=
 It.mk' (Nat.le_refl _) (fun _=>h) (fun h=>by rcases h with h | h | h | h <;> cases h) (fun _=>h1) (fun _=>h2)
def sm : Nat -> D -> D -> Prop
 | 0,_,_=>False
 | n + 1,x,e=>eop x = eop e /\ ewho x = ewho e /\ ename x = ename e /\ sameB (eV x) (eV e) = true /\ (∀ y ∈ vl (eV x),vl y = []) /\ (eps x).length = (eps e).length /\ ∀ (i : Nat) (y z : D),(eps x)[i]? = some y -> (eps e)[i]? = some z -> sm n y z
theorem sm_S : ∀ (n : Nat) (x e : D),sm n x e -> sm (n + 1) x e
 | 0,_,_,h=>h.elim
 | n + 1,x,e,⟨h1,h2,h3,h4,h5,h6,h7⟩=>⟨h1,h2,h3,h4,h5,h6,fun i y z hy hz=>sm_S n y z (h7 i y z hy hz)⟩
theorem sm_le {n m : Nat} (h : n <= m) {x e : D} (k : sm n x e) : sm m x e:=by
 induction h with
 | refl=>exact k
 | step _ ih=>exact sm_S _ _ _ ih
def Sm (x e : D) : Prop:=∃ n,sm n x e
theorem sameB_zero {v : D} (h : sameB v zeroV = true) : sameB zeroV v = true:=by
 unfold sameB at h ⊢
 split at h
 ·cases h
 ·rename_i g
  simp only [Bool.or_eq_true,not_or,bne_iff_ne,ne_eq,Decidable.not_not,Bool.not_eq_true',Bool.not_eq_false,beq_iff_eq] at g
  obtain ⟨⟨⟨g1,g2⟩,g3⟩,g4⟩:=g
  rw [if_neg (by simp [g1,g2,g3,g4])]
  rfl
theorem fm_rest {e : D} (h : fmTop e = true) (g1 : (eop e == sVal) = false) : sameB zeroV (eV e) = true /\ ((eop e == sAttr) = false -> (eop e == sHas) = false -> (eop e == sRole) = false -> ewho e = [] /\ ename e = []) ∧
  ((eop e == sAttr) = true ∨ (eop e == sHas) = true -> inB whoW (ewho e) = true /\ nameB (ename e) = true) /\ ((eop e == sAttr) = false -> (eop e == sHas) = false -> (eop e == sRole) = true -> ewho e = [] /\ formI 3 (ename e) 0 = true):=by
 unfold fmTop at h
 rw [if_neg (by rw [g1];decide)] at h
 split at h
 ·cases h
 ·rename_i g
  have g : sameB (eV e) zeroV = true:=by simpa using g
  refine ⟨sameB_zero g,fun a1 a2 a3=>?_,fun a=>?_,fun a1 a2 a3=>?_⟩
  ·rw [a1,a2,a3] at h
   simp only [Bool.or_self,Bool.false_eq_true,if_false,Bool.and_eq_true,beq_iff_eq] at h
   exact h
  ·rw [if_pos (by rw [Bool.or_eq_true];exact a)] at h
   simpa using h
  ·rw [a1,a2,a3] at h
   simp only [Bool.or_self,Bool.false_eq_true,if_false,if_true,Bool.and_eq_true,beq_iff_eq] at h
   exact h
theorem Sm.two {e x y : D} (hg : GoodE e) (h2 : isOp2 (eop e)) (hx : Sm x (sub0 e)) (hy : Sm y (sub1 e)) : Sm (twoD (eop e) x y) e:=by
 obtain ⟨n,hn⟩:=hx
 obtain ⟨m,hm⟩:=hy
 obtain ⟨_,_,_,_,he⟩:=hg.two h2
 obtain ⟨g1,g2,g3,g4,g5,g6,g7,g8⟩:=op2_not h2
 obtain ⟨q1,q2,_,_⟩:=fm_rest hg.parts.2.2.2 g1
 obtain ⟨q3,q4⟩:=q2 g3 g4 g5
 refine ⟨max n m + 1,rfl,q3.symm,q4.symm,q1,(fun y hy=>by cases hy),by rw [he];rfl,fun i u v hu hv=>?_⟩
 rw [he] at hv
 have hu : ([x,y] : List D)[i]? = some u:=hu
 match i with
 | 0=>simp at hu hv;subst hu;subst hv;exact sm_le (by omega) hn
 | 1=>simp at hu hv;subst hu;subst hv;exact sm_le (by omega) hm
 | i + 2=>simp at hu
theorem Sm.one {e x : D} (hg : GoodE e) (h1 : (eop e == sSize) = true ∨ (eop e == sNot) = true ∨ (eop e == sNeg) = true) (hx : Sm x (sub0 e)) : Sm (oneD (eop e) x) e:=by
 obtain ⟨n,hn⟩:=hx
 obtain ⟨_,z,he,hz⟩:=hg.one h1
 have hne : (eop e == sVal) = false /\ (eop e == sAttr) = false /\ (eop e == sHas) = false /\ (eop e == sRole) = false:=by
  rcases h1 with h1 | h1 | h1 <;> (rw [eq_of_beq' h1];decide)
 obtain ⟨g1,g3,g4,g5⟩:=hne
 obtain ⟨q1,q2,_,_⟩:=fm_rest hg.parts.2.2.2 g1
 obtain ⟨q3,q4⟩:=q2 g3 g4 g5
 refine ⟨n + 1,rfl,q3.symm,q4.symm,q1,(fun y hy=>by cases hy),by rw [he];rfl,fun i u v hu hv=>?_⟩
 rw [he] at hv
 have hu : ([x] : List D)[i]? = some u:=hu
 match i with
 | 0=>simp at hu hv;subst hu;subst hv;rw [<- hz];exact hn
 | i + 1=>simp at hu
theorem eps_nil {e : D} (hg : GoodE e) (h0 : arN (eop e) = 0) : eps e = []:=by
 have:=hg.parts.2.1
 rw [h0] at this
 exact List.eq_nil_of_length_eq_zero (by omega)
theorem Sm.leaf {e : D} {who name : List UInt8} (hg : GoodE e) (hv : (eop e == sVal) = false) (h0 : arN (eop e) = 0) (hw : ewho e = who) (hn : ename e = name) : Sm (leafD (eop e) who name) e:=by
 obtain ⟨q1,_⟩:=fm_rest hg.parts.2.2.2 hv
 have he:=eps_nil hg h0
 exact ⟨1,rfl,hw.symm,hn.symm,q1,(fun y hy=>by cases hy),by rw [he];rfl,fun i u v _ hv'=>by rw [he] at hv';cases hv'⟩
theorem Sm.val {e y : D} (hg : GoodE e) (hv : (eop e == sVal) = true) (hy : ∃ k i s n l,y = mkV k i s n l /\ ∀ x ∈ l,vl x = []) (hs : sameB y (eV e) = true) : Sm (valE y) e:=by
 obtain ⟨k,i,s,n,l,rfl,hl⟩:=hy
 obtain ⟨_,q2,q3⟩:=fmTop_val hg.parts.2.2.2 hv
 have he:=eps_nil hg (by rw [eq_of_beq' hv];decide)
 refine ⟨1,(eq_of_beq' hv).symm,q2.symm,q3.symm,hs,?_,by rw [he];rfl,fun i u v _ hv'=>by rw [he] at hv';cases hv'⟩
 intro x hx
 have hx : x ∈ vl (mkV k i s n l):=hx
 rw [vl_mk] at hx
 exact hl x hx
end GP
namespace GP
open Go Go.Proofs
set_option maxRecDepth 100000
def nd : Nat -> D -> Nat
 | 0,_=>0
 | n + 1,e=>((eps e).map (nd n)).sum + 1
theorem sum_mem {f : D -> Nat} : ∀ {l : List D} {x : D},x ∈ l -> f x <= (l.map f).sum
 | a :: l,x,h=>by
  rw [List.map_cons,List.sum_cons]
  rcases List.mem_cons.1 h with rfl | h
  ·omega
  ·have:=sum_mem (f:=f) h;omega
theorem isE_nd : ∀ (n : Nat) (e : D),isE n e -> isE (nd n e) e
 | 0,_,h=>h.elim
 | n + 1,e,⟨op,k,i,s,nl,l,who,name,m,ps,he,h1,h2,h3,h4,h5,h6⟩=>by
  subst he
  have e1 : eps (mkE op k i s nl l who name m ps) = ps:=eps_mk ..
  simp only [nd,e1]
  exact ⟨op,k,i,s,nl,l,who,name,m,ps,rfl,h1,h2,h3,h4,h5,fun x hx=>isE_le (sum_mem hx) (isE_nd n x (h6 x hx))⟩
theorem szL_nd {f : D -> Int -> Int} {g : D -> Nat} {m : Int} (h0 : 0 <= m) (h60 : m <= 60) : ∀ (l : List D) (n : Int),1 <= n -> n <= m + 1 -> (∀ x ∈ l,∀ k : Int,0 <= k -> k <= 60 -> 1 <= f x k /\ f x k <= k + 1 /\ (f x k <= k -> f x k = (g x : Nat))) →
  n <= szL f l m n /\ szL f l m n <= m + 1 /\ (szL f l m n <= m -> szL f l m n = n + ((l.map g).sum : Nat))
 | [],n,h1,h2,_=>by simp only [szL,List.map_nil,List.sum_nil];omega
 | x :: l,n,h1,h2,hf=>by
  simp only [szL,List.map_cons,List.sum_cons]
  by_cases hn : n <= m
  ·rw [if_pos (by simpa using hn)]
   have w1 : IntKind.i64.wrap (m - n) = m - n:=wrap_of _ (by omega) (by omega)
   obtain ⟨f1,f2,f3⟩:=hf x (by simp) (m - n) (by omega) (by omega)
   have w2 : IntKind.i64.wrap (n + f x (m - n)) = n + f x (m - n):=wrap_of _ (by omega) (by omega)
   rw [w1,w2]
   obtain ⟨i1,i2,i3⟩:=szL_nd h0 h60 l (n + f x (m - n)) (by omega) (by omega) (fun y hy=>hf y (by simp [hy]))
   refine ⟨by omega,i2,fun q=>?_⟩
   have q1:=i3 q
   have q2:=f3 (by omega)
   omega
  ·rw [if_neg (by simpa using hn)];omega
theorem sizeE_nd : ∀ (n : Nat) (e : D),isE n e -> ∀ m : Int,0 <= m -> m <= 60 -> 1 <= sizeE n e m /\ sizeE n e m <= m + 1 /\ (sizeE n e m <= m -> sizeE n e m = (nd n e : Nat))
 | 0,_,h=>h.elim
 | n + 1,e,h=>fun m h0 h60=>by
  obtain ⟨i1,i2,i3⟩:=szL_nd (f:=sizeE n) (g:=nd n) h0 h60 (eps e) 1 (by omega) (by omega) (fun x hx k k0 k1=>sizeE_nd n x (isE_eps h x hx) k k0 k1)
  simp only [sizeE,nd]
  refine ⟨i1,i2,fun q=>?_⟩
  rw [i3 q];omega
theorem litT_le' {v : D} (h : valB v = true) : (litT v).length <= 2 ^ 22 - 2:=by
 unfold litT
 split
 ·have:=litT1_le v;omega
 ·rename_i g
  rcases valB_dom h with q | ⟨_,q⟩
  ·exact absurd q g
  ·have:=cmL_le (f:=litT1) (b:=2) (vl v) fun x _=>litT1_le x
   simp only [List.length_cons,List.length_append,List.length_nil]
   omega
theorem parW_len (full : Bool) (s s' : Int) (l : List D) : (parW full s s' l).length <= l.length + 2:=by unfold parW;split <;> simp
theorem tk_size_le {full : Bool} : ∀ (n : Nat) (e : D),isE n e -> GoodE e -> (tkC full e).length + 2 <= 2 ^ 22 * nd n e
 | 0,_,h,_=>h.elim
 | n + 1,e,h,hg=>by
  have hS : nd (n + 1) e = ((eps e).map (nd n)).sum + 1:=rfl
  have one : ∀ x,eps e = [x] -> nd (n + 1) e = nd n x + 1:=fun x hx=>by rw [hS,hx];simp
  have leafy : 2 ^ 22 <= 2 ^ 22 * nd (n + 1) e:=by rw [hS,Nat.mul_add];omega
  rcases hg.op with g | g | g | g | g | g | g | g | g
  ·have:=litT_le' (fmTop_val hg.parts.2.2.2 g).1
   rw [tk_val hg g];omega
  ·rw [tk_now hg g];simp only [List.length_cons,List.length_nil];omega
  ·rw [tk_attr hg g];simp only [List.length_cons,List.length_nil];omega
  ·rw [tk_has hg g];simp only [List.length_cons,List.length_nil];omega
  ·rw [tk_role hg g];simp only [List.length_cons,List.length_nil];omega
  ·obtain ⟨h1,x,hx,hs⟩:=hg.one (.inl g)
   have ih:=tk_size_le (full:=full) n (sub0 e) (isE_eps h _ (by rw [hx,hs];simp)) h1
   rw [tk_size hg g,one x hx,← hs,Nat.mul_add]
   simp only [List.length_cons,List.length_append,List.length_nil];omega
  ·obtain ⟨h1,x,hx,hs⟩:=hg.one (.inr (.inl g))
   have ih:=tk_size_le (full:=full) n (sub0 e) (isE_eps h _ (by rw [hx,hs];simp)) h1
   have p:=parW_len full (stI (eop (sub0 e))) 2 (tkC full (sub0 e))
   rw [tk_not hg g,one x hx,← hs,Nat.mul_add]
   simp only [List.length_cons];omega
  ·obtain ⟨h1,x,hx,hs⟩:=hg.one (.inr (.inr g))
   have ih:=tk_size_le (full:=full) n (sub0 e) (isE_eps h _ (by rw [hx,hs];simp)) h1
   have p:=parW_len full (stI (eop (sub0 e))) 6 (tkC full (sub0 e))
   rw [tk_neg hg g,one x hx,← hs,Nat.mul_add]
   simp only [List.length_cons];omega
  ·obtain ⟨k0,k1,m0,m1,he⟩:=hg.two g
   have i0:=tk_size_le (full:=full) n (sub0 e) (isE_eps h _ m0) k0
   have i1:=tk_size_le (full:=full) n (sub1 e) (isE_eps h _ m1) k1
   have p0:=parW_len full (stI (eop (sub0 e))) (lstS (eop e)) (tkC full (sub0 e))
   have p1:=parW_len full (stI (eop (sub1 e))) (stI (eop e) + 1) (tkC full (sub1 e))
   have e2 : nd (n + 1) e = nd n (sub0 e) + nd n (sub1 e) + 1:=by rw [hS,he];simp
   rw [tk_two hg g,e2,Nat.mul_add,Nat.mul_add]
   simp only [List.length_cons,List.length_append];omega
theorem few_facts {n : Nat} {e : D} (h : isE n e) (hf : fewEx n e = true) : nd n e <= 60 /\ isE nodeB e:=by
 unfold fewEx at hf
 simp only [Bool.and_eq_true,decide_eq_true_eq] at hf
 obtain ⟨_,_,h3⟩:=sizeE_nd n e h 60 (by omega) (by omega)
 have h60 : nd n e <= 60:=by have:=h3 hf.1;omega
 refine ⟨h60,isE_le ?_ (isE_nd n e h)⟩
 have : ∀ f,f <= lvB f:=fun f=>by
  induction f with
  | zero=>exact Nat.zero_le _
  | succ f ih=>simp only [lvB];omega
 have:=this 10000
 unfold nodeB;omega
end GP
namespace GP
open Go
theorem W_each {X : Pred} {c : C} {Q : Ex -> S -> Prop} {s : S} (xs : List D) (J : Nat -> S -> Prop) (hX : Mono X) (h0 : J 0 s) (step : ∀ i x s,xs[i]? = some x -> x ∈ xs -> i < xs.length -> J i s -> W X c (seqK (J (i + 1)) Q) s) (fin : ∀ s,J xs.length s -> W X c (seqK (fun _=>False) Q) s) : W X (.loop c) Q s:=by
 refine W_for (fun i s=>i <= xs.length /\ J i s) xs.length ⟨0,Nat.zero_le _,h0⟩ (fun i s h=>h.1) (fun i s h=>?_) hX
 rcases Nat.lt_or_ge i xs.length with hi | hi
 ·refine W_mono hX ?_ (step i xs[i] s (by simp [hi]) (List.getElem_mem hi) hi h.2)
  intro e s' k
  cases e with
  | normal=>exact ⟨hi,k⟩
  | exit j=>exact k
  | ret=>exact k
 ·have : i = xs.length:=by omega
  subst this
  refine W_mono hX ?_ (fin s h.2)
  intro e s' k
  cases e with
  | normal=>exact k.elim
  | exit j=>exact k
  | ret=>exact k
theorem W_all {X : Pred} {c : C} {Q : Ex -> S -> Prop} {s : S} (xs : List D) (p : D -> Bool) (ti : Nat) (R : S -> Prop) (hX : Mono X) (h0 : R s) (h1 : s.t ti = .int .i64 ((0 : Nat) : Int))
  (step : ∀ i x s (b : Bool),xs[i]? = some x -> x ∈ xs -> i < xs.length -> R s -> s.t ti = .int .i64 (i : Int) -> p x = b -> (b = false -> xs.all p = false) -> W X c (seqK (fun s'=>b = true /\ R s' /\ s'.t ti = .int .i64 ((i + 1 : Nat) : Int)) Q) s)
  (fin : ∀ s,R s -> s.t ti = .int .i64 (xs.length : Int) -> xs.all p = true -> W X c (seqK (fun _=>False) Q) s) : W X (.loop c) Q s:=by
 refine W_each xs (fun i s=>R s /\ s.t ti = .int .i64 (i : Int) /\ (xs.take i).all p = true) hX ⟨h0,h1,by simp⟩ (fun i x s hx hm hi hJ=>?_) (fun s hJ=>?_)
 ·obtain ⟨j1,j2,j3⟩:=hJ
  refine W_mono hX ?_ (step i x s (p x) hx hm hi j1 j2 rfl fun hb=>?_)
  ·intro e s' k
   cases e with
   | normal =>
    obtain ⟨k1,k2,k3⟩:=k
    refine ⟨k2,k3,?_⟩
    have e : xs.take (i + 1) = xs.take i ++ [x]:=by
     rw [List.take_add_one,hx];rfl
    rw [e,List.all_append,j3]
    simp [k1]
   | exit j=>exact k
   | ret=>exact k
  ·rw [<- Bool.not_eq_true,List.all_eq_true]
   intro h
   rw [h x hm] at hb;cases hb
 ·obtain ⟨j1,j2,j3⟩:=hJ
  exact fin s j1 j2 (by rwa [List.take_length] at j3)
theorem W_allN {X : Pred} {c : C} {Q : Ex -> S -> Prop} {s : S} (n : Nat) (p : Nat -> Bool) (ti : Nat) (R : S -> Prop) (hX : Mono X) (h0 : R s) (h1 : s.t ti = .int .i64 ((0 : Nat) : Int))
  (step : ∀ i s (b : Bool),i < n -> R s -> s.t ti = .int .i64 (i : Int) -> p i = b -> (b = false -> (List.range n).all p = false) -> W X c (seqK (fun s'=>b = true /\ R s' /\ s'.t ti = .int .i64 ((i + 1 : Nat) : Int)) Q) s)
  (fin : ∀ s,R s -> s.t ti = .int .i64 (n : Int) -> (List.range n).all p = true -> W X c (seqK (fun _=>False) Q) s) : W X (.loop c) Q s:=by
 refine W_for (fun i s=>i <= n /\ R s /\ s.t ti = .int .i64 (i : Int) /\ (List.range i).all p = true) n ⟨0,Nat.zero_le _,h0,h1,by simp⟩ (fun i s h=>h.1) (fun i s h=>?_) hX
 obtain ⟨_,j1,j2,j3⟩:=h
 rcases Nat.lt_or_ge i n with hi | hi
 ·refine W_mono hX ?_ (step i s (p i) hi j1 j2 rfl fun hb=>?_)
  ·intro e s' k
   cases e with
   | normal =>
    obtain ⟨k1,k2,k3⟩:=k
    refine ⟨hi,k2,k3,?_⟩
    rw [List.range_succ,List.all_append,j3]
    simp [k1]
   | exit j=>exact k
   | ret=>exact k
  ·rw [<- Bool.not_eq_true,List.all_eq_true]
   intro h
   rw [h i (by simpa using hi)] at hb;cases hb
 ·have : i = n:=by omega
  subst this
  refine W_mono hX ?_ (fin s j1 j2 j3)
  intro e s' k
  cases e with
  | normal=>exact k.elim
  | exit j=>exact k
  | ret=>exact k
def accT (sz : Nat) (T : Tk) (xs : List D) (d : D) (T' : Tk) : Prop:=ExtT T T' /\ ((xs = [] /\ d = .nils) ∨ ∃ i,T.length <= i /\ d = .sl (some i) xs /\ T'[i]? = some (some (xs.length,sz)))
theorem accT.nil (sz : Nat) (T : Tk) {T' : Tk} (h : ExtT T T') : accT sz T [] .nils T':=⟨h,.inl ⟨rfl,rfl⟩⟩
theorem accT.app {sz : Nat} {T T' : Tk} {xs : List D} {d : D} (h : accT sz T xs d T') (L : Tk) : accT sz T xs d (T' ++ L):=by
 obtain ⟨h1,h2⟩:=h
 refine ⟨h1.app L,?_⟩
 rcases h2 with h2 | ⟨i,h2,h3,h4⟩
 ·exact .inl h2
 ·refine .inr ⟨i,h2,h3,?_⟩
  have : i < T'.length:=by
   rcases Nat.lt_or_ge i T'.length with h | h
   ·exact h
   ·rw [List.getElem?_eq_none h] at h4;cases h4
  rw [List.getElem?_append_left this];exact h4
theorem accT.mk (sz : Nat) (T : Tk) {T' : Tk} (h : ExtT T T') (xs : List D) (L : Tk) : accT sz T xs (.sl (some T'.length) xs) (T' ++ some (xs.length,sz) :: L):=by
 obtain ⟨M,rfl⟩:=h
 refine ⟨⟨M ++ some (xs.length,sz) :: L,by simp⟩,.inr ⟨_,by simp,rfl,by simp⟩⟩
theorem accT.erase {sz : Nat} {T T' : Tk} {xs : List D} {d : D} (h : accT sz T xs d T') (he : D.eraseL xs = xs) (h0 : xs ≠ []) : d.erase = .sl none xs:=by
 rcases h.2 with ⟨rfl,rfl⟩ | ⟨i,_,rfl,_⟩
 ·exact (h0 rfl).elim
 ·simp [D.erase,he]
theorem app_accT {sz bytes : Nat} {K : D -> S -> Prop} {t : Nat -> D} {H : Hp} {T T' : Tk} {xs : List D} {d : D} (ys : List D) (h : accT sz T xs d T') (hy : ys.all (fit sz) = true) (hxs : xs.all (fit sz) = true) (hb : (xs.length + ys.length) * bytes <= 2 ^ 47) (hb2 : xs.length + ys.length < 2 ^ 62)
  (k : ∀ d2 T2,accT sz T (xs ++ ys) d2 T2 -> K d2 ⟨t,H,T2⟩) : appK sz bytes K ⟨t,H,T'⟩ d (some ys):=by
 obtain ⟨h1,h2⟩:=h
 rcases h2 with ⟨rfl,rfl⟩ | ⟨i,hi,rfl,hT⟩
 ·simp only [appK]
  refine ⟨hy,?_⟩
  simp only [List.nil_append,List.length_nil,Nat.zero_add] at k hb hb2
  split
  ·rename_i e;subst e;exact k _ _ (.nil sz T h1)
  ·exact ⟨hb,hb2,k _ _ (.mk sz T h1 ys [])⟩
 ·simp only [appK]
  refine ⟨hy,hT,hb,hb2,hxs,k _ _ ⟨?_,.inr ⟨i,hi,rfl,?_⟩⟩⟩
  ·obtain ⟨L,rfl⟩:=h1
   exact ⟨L.set (i - T.length) (some (xs.length + ys.length,sz)),by rw [List.set_append_right _ _ hi]⟩
  ·have : i < T'.length:=by
    rcases Nat.lt_or_ge i T'.length with h | h
    ·exact h
    ·rw [List.getElem?_eq_none h] at hT;cases hT
   rw [List.getElem?_set_self this];simp
end GP
