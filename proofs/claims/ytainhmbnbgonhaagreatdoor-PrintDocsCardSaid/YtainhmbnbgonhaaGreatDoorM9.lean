import Derived.JoinedOf
import Derived.LaidHandle
import Derived.LaidSub
import Derived.Lay
import Derived.MakeChecks
import Derived.SevenTiedAt
import Derived.Stop.LaidErr
import Derived.Test.YtainhmbnbgonhaaGreatDoorCards
import Derived.Test.YtainhmbnbgonhaaGreatDoorTie
import Derived.Test.YtainhmbnbgonhaaGreatDoorM6
import Derived.Test.YtainhmbnbgonhaaGreatDoorM8
set_option linter.unusedSimpArgs false
set_option linter.unnecessarySimpa false
namespace GP
open Go Go.Proofs
set_option maxRecDepth 100000
section
variable {P : Program} [HasG P]
theorem OkAtG.pure {z : Nat} {f : FuncId} {φ : List D -> Option (List D)} (h : OkAtG P f (φOwn z φ)) (hx : ∀ a xs,φ a = some xs -> D.clL 0 0 xs = true /\ D.eraseL xs = xs) : OkAt P f (fun a=>(φ a).map (.sl none)):=by
 intro args r hr args' he H T Q hQ
 change (φ args).map (.sl none) = some r at hr
 cases ha : φ args with
 | none=>rw [ha] at hr;cases hr
 | some xs =>
  rw [ha] at hr;simp only [Option.map_some,Option.some.injEq] at hr
  subst hr
  obtain ⟨h1,h2⟩:=hx args xs ha
  have hS:=h H T args (.sl (some T.length) xs) H (T ++ [some (xs.length,z)]) (by simp only [φOwn,ha]) args' he (fun r H' T'=>r.erase = .sl none xs /\ (∃ L,H' = H ++ L) /\ ∃ U,T' = T ++ U) ⟨by simp only [D.erase,h2],⟨[],by simp⟩,⟨_,rfl⟩⟩
  intro c w vs kg k1 k2 k3
  have hcl : (D.sl none xs).cl H.length T.length = true:=by
   simp only [D.cl,Bool.true_and]
   exact D.clL_mono (Nat.zero_le _) (Nat.zero_le _) xs h1
  rcases hS c w vs kg k1 k2 k3 with ⟨g1,g2⟩ | ⟨v,w',g1,g2⟩
  ·exact .inl ⟨g1,g2.mono fun e w' k=>CallPost.forget k1 k2 hcl hQ k⟩
  ·exact .inr ⟨v,w',g1,CallPost.forget k1 k2 hcl hQ g2⟩
end
def tP : D:=mkT 5 [40] 0
def tQ : D:=mkT 5 [41] 0
def parW (full : Bool) (s least : Int) (l : List D) : List D:=if decide (least <= s) && (!full || (s == 7)) then l else tP :: (l ++ [tQ])
def opW : List (List UInt8):=[wOr,wAnd,sIn]
def opTok (op : List UInt8) : D:=if inB opW op then mkT 1 op 0 else mkT 5 op 0
def lstS (op : List UInt8) : Int:=if stI op == 3 then 4 else stI op
def sub0 (e : D) : D:=(eps e).getD 0 .top
def sub1 (e : D) : D:=(eps e).getD 1 .top
def tokD : Nat -> Bool -> D -> List D
 | 0,_,_=>[]
 | n + 1,full,e =>
  if eop e == sVal then litT (eV e) else
  if eop e == sNow then [mkT 1 sNow 0] else
  if eop e == sAttr then [mkT 1 (ewho e) 0,mkT 5 [46] 0,mkT 1 (ename e) 0] else
  if eop e == sHas then [mkT 1 sHas 0,tP,mkT 1 (ewho e) 0,mkT 5 [46] 0,mkT 1 (ename e) 0,tQ] else
  if eop e == sRole then [mkT 1 sRole 0,tP,mkT 3 (ename e) 0,tQ] else
  if eop e == sSize then [mkT 1 sSize 0,tP] ++ (tokD n full (sub0 e) ++ [tQ]) else
  if eop e == sNot then mkT 1 sNot 0 :: parW full (stI (eop (sub0 e))) 2 (tokD n full (sub0 e)) else
  if eop e == sNeg then mkT 5 [45] 0 :: parW full (stI (eop (sub0 e))) 6 (tokD n full (sub0 e)) else
  parW full (stI (eop (sub0 e))) (lstS (eop e)) (tokD n full (sub0 e)) ++ (opTok (eop e) :: parW full (stI (eop (sub1 e))) (stI (eop e) + 1) (tokD n full (sub1 e)))
theorem parW_tok {full : Bool} {s least : Int} {l : List D} (h : isTks l) : isTks (parW full s least l):=by
 unfold parW
 split
 ·exact h
 ·exact isTks.cons _ _ _ (h.app (isTks.cons _ _ _ .nil))
theorem parW_le (full : Bool) (s least : Int) (l : List D) : l.length <= (parW full s least l).length:=by
 unfold parW;split <;> simp <;> omega
theorem opTok_tok (op : List UInt8) {l : List D} (h : isTks l) : isTks (opTok op :: l):=by
 unfold opTok;split <;> exact isTks.cons _ _ _ h
theorem tokD_tok : ∀ (n : Nat) (full : Bool) (e : D),isTks (tokD n full e)
 | 0,_,_=>.nil
 | n + 1,full,e=>by
  unfold tokD
  split
  ·exact litT_tok _
  split
  ·exact isTks.cons _ _ _ .nil
  split
  ·exact isTks.cons _ _ _ (isTks.cons _ _ _ (isTks.cons _ _ _ .nil))
  split
  ·exact isTks.cons _ _ _ (isTks.cons _ _ _ (isTks.cons _ _ _ (isTks.cons _ _ _ (isTks.cons _ _ _ (isTks.cons _ _ _ .nil)))))
  split
  ·exact isTks.cons _ _ _ (isTks.cons _ _ _ (isTks.cons _ _ _ (isTks.cons _ _ _ .nil)))
  split
  ·exact isTks.cons _ _ _ (isTks.cons _ _ _ ((tokD_tok n full _).app (isTks.cons _ _ _ .nil)))
  split
  ·exact isTks.cons _ _ _ (parW_tok (tokD_tok n full _))
  split
  ·exact isTks.cons _ _ _ (parW_tok (tokD_tok n full _))
  ·exact (parW_tok (tokD_tok n full _)).app (opTok_tok _ (parW_tok (tokD_tok n full _)))
open Classical in
noncomputable def φtokF (n : Nat) : List D -> Option (List D)
 | [e,.bool full]=>if isE n e /\ fmR n e = true /\ (tokD n full e).length <= 2 ^ 30 then some (tokD n full e) else none
 | _=>none
open Classical in
noncomputable def φparF (n : Nat) : List D -> Option (List D)
 | [e,.int .i64 least,.bool full]=>if isE n e /\ fmR n e = true /\ (parW full (stI (eop e)) least (tokD n full e)).length <= 2 ^ 30 then some (parW full (stI (eop e)) least (tokD n full e)) else none
 | _=>none
theorem φparF_cl (n : Nat) (a : List D) (xs : List D) (h : φparF n a = some xs) : D.clL 0 0 xs = true /\ D.eraseL xs = xs:=by
 unfold φparF at h
 split at h
 ·split at h
  ·injection h with h;subst h
   have:=parW_tok (full:=‹Bool›) (s:=stI (eop ‹D›)) (least:=‹Int›) (tokD_tok n ‹Bool› ‹D›)
   exact ⟨this.cl _ _,this.erase⟩
  ·cases h
 ·cases h
set_option maxHeartbeats 2000000 in
theorem ok61 {n : Nat} (h24 : OkAtG Tryz.prog 24 (φOwn 3 (φtokF n))) : OkAtG Tryz.prog 61 (φOwn 3 (φparF n)):=by
 refine okOwn_of (X:=XG Tryz.prog [] [(52,φst),(60,φtk1 5)] [] [] [(24,φOwn 3 (φtokF n))]) (XG.X (.cons ok52 (.cons ok60 .nil)) .nil .nil (.cons h24 .nil)) fn61 fun args xs h=>?_
 have hM : MonoH []:=.nil
 unfold φparF at h
 split at h
 ·rename_i e least full
  split at h
  ·rename_i hc
   obtain ⟨he,hf,hlen⟩:=hc
   injection h with h;subst h
   have hle:=parW_le full (stI (eop e)) least (tokD n full e)
   have htk:=tokD_tok n full e
   have hO30 : (tokD n full e).length <= 2 ^ 30:=by omega
   refine ⟨by simp,(parW_tok htk).cl _ _,fun H T=>?_⟩
   have px : ∀ H T,φOwn 3 (φtokF n) H T [e,.bool full] = some (.sl (some T.length) (tokD n full e),H,T ++ [some ((tokD n full e).length,3)]):=fun H T=>by
    simp only [φOwn,φtokF];rw [if_pos ⟨he,hf,by omega⟩]
   have ps : φst [.str (eop e)] = some (.int .i64 (stI (eop e))):=rfl
   have ee:=isE_erase he
   obtain ⟨q1,q2,q3,q4⟩:=isE_cells he
   obtain ⟨op,k,i,t,nl,l,who,name,m,ps',rfl,h1,h2,h3,h4,h5,h6,eL,eP⟩:=isE_elim he
   simp only [eop_mk] at ps hlen ⊢
   unfold parW at hlen ⊢
   obtain ⟨sv,hsv⟩ : ∃ z,stI op = z:=⟨_,rfl⟩
   simp only [hsv] at ps hlen ⊢
   clear hsv
   have hfit:=htk.fit
   obtain ⟨O,hO⟩ : ∃ z,tokD n full (mkE op k i t nl l who name m ps') = z:=⟨_,rfl⟩
   simp only [hO] at px hlen hle htk hfit hO30 ⊢
   clear hO
   simp only [mkE] at px
   have one : ∀ B : Hp,Ext H B -> LeavesG H T (.sl (some T.length) O) H (T ++ [some (O.length,3)]) (.sl (some T.length) O) B (T ++ [some (O.length,3)]):=fun B hB =>
    leavesG_own hB (ExtT.of _ _) (htk.cl _ _) (Nat.le_refl _) (by simp)
   have two : ∀ B : Hp,Ext H B -> O.length <= 2 ^ 30 -> LeavesG H T (.sl (some T.length) (tP :: (O ++ [tQ]))) H (T ++ [some (O.length + 2,3)]) (.sl (some (T.length + 1)) (tP :: (O ++ [tQ]))) B (T ++ [some (O.length,3),some (O.length + 2,3),some (1,3)]):=fun B hB _=>by
    have:=leavesG_own (H:=H) (T:=T) (z:=3) (τ:=T.length + 1) (xs:=tP :: (O ++ [tQ])) (T':=T ++ [some (O.length,3),some (O.length + 2,3),some (1,3)]) hB (ExtT.of _ _) (isTks.cl (isTks.cons _ _ _ (htk.app (isTks.cons _ _ _ .nil))) _ _) (by omega) (by simp)
    simpa using this
   have gd : ∀ b : Bool,(decide (least <= sv) && (!full || (sv == 7))) = b -> W (XG Tryz.prog [] [(52,φst),(60,φtk1 5)] [] [] [(24,φOwn 3 (φtokF n))]) c61 (endQ [.inl 6] (LeavesG H T (.sl (some T.length) (if b then O else tP :: (O ++ [tQ]))) H (T ++ [some ((if b then O else tP :: (O ++ [tQ])).length,3)]))) ⟨argT [mkE op k i t nl l who name m ps',.int .i64 least,.bool full],H,T⟩:=by
    intro b hb
    rcases tf (decide (least <= sv)) with g1 | g1
    ·cases full with
     | false =>
      rw [g1] at hb
      simp only [Bool.not_false,Bool.true_or,Bool.and_true] at hb
      subst hb
      simp +contextual (maxSteps:=10000000) only [c61,mkE,eL,eP,px,ps,g1,pcallG hM,go_sem]
      exact one _ (Ext.of _ _)
     | true =>
      rcases tf (sv == 7) with g2 | g2
      ·rw [g1,g2] at hb
       simp only [Bool.not_true,Bool.false_or,Bool.and_true] at hb
       subst hb
       simp +contextual (maxSteps:=10000000) only [c61,mkE,eL,eP,px,ps,g1,g2,pcallG hM,go_sem]
       exact one _ (Ext.of _ _)
      ·rw [g1,g2] at hb
       simp only [Bool.not_true,Bool.or_false,Bool.and_false] at hb
       subst hb
       simp +contextual (maxSteps:=10000000) only [c61,mkE,eL,eP,px,ps,g1,g2,φtk1,pcallG hM,mkT,appK_tok,hfit,List.set_cons_zero,List.set_cons_succ,go_sem]
       exact ⟨by omega,by omega,by rw [Nat.add_comm],by omega,by omega,two _ (Ext.of _ _) hO30⟩
    ·rw [g1] at hb
     simp only [Bool.false_and] at hb
     subst hb
     simp +contextual (maxSteps:=10000000) only [c61,mkE,eL,eP,px,ps,g1,φtk1,pcallG hM,mkT,appK_tok,hfit,List.set_cons_zero,List.set_cons_succ,go_sem]
     exact ⟨by omega,by omega,by rw [Nat.add_comm],by omega,by omega,two _ (Ext.of _ _) hO30⟩
   exact gd _ rfl
  ·cases h
 ·cases h
theorem fmR_s {n : Nat} {e : D} (h : fmR (n + 1) e = true) : 0 <= stI (eop e) /\ ((eps e).length : Int) = arN (eop e) /\ (∀ x ∈ eps e,fmR n x = true) /\ fmTop e = true:=by
 simp only [fmR] at h
 split at h
 ·cases h
 ·rename_i h1
  split at h
  ·cases h
  ·rename_i h2
   simp only [Bool.or_eq_true,decide_eq_true_eq,bne_iff_ne,ne_eq,not_or,Decidable.not_not] at h1
   simp only [Bool.not_eq_true',Bool.not_eq_false] at h2
   exact ⟨by omega,h1.2,fun x hx=>List.all_eq_true.1 h2 x hx,h⟩
theorem stI_2 {op : List UInt8} (h : stI op = 2) : op = wNot:=by
 unfold stI at h;(repeat' split at h) <;> simp_all
theorem stI_6 {op : List UInt8} (h : stI op = 6) : op = wNeg:=by
 unfold stI at h;(repeat' split at h) <;> simp_all
theorem stI_7 {op : List UInt8} (h : stI op = 7) : inB plainW op = true:=by
 unfold stI at h;(repeat' split at h) <;> simp_all
theorem litB_leaf {v : D} {b : Bool} (h : litB v b = true) : leaf1 v = true:=by
 unfold litB at h
 unfold leaf1
 rcases tf (vk v == 2) with g | g
 ·rw [g];simp
 ·rw [if_neg (by rw [g];decide)] at h
  rcases tf (vk v == 1) with g1 | g1
  ·rw [g1];simp
  ·rcases tf (vk v == 4) with g4 | g4
   ·rw [g4];simp
   ·rw [g1,g4] at h
    simp only [Bool.false_or,Bool.and_eq_true] at h
    rw [h.1];simp
theorem valB_dom {v : D} (h : valB v = true) : leaf1 v = true ∨ (vl v).all leaf1 = true /\ (vl v).length <= 2 ^ 20:=by
 unfold valB at h
 split at h
 ·cases h
 ·rename_i hf
  split at h
  ·exact .inl (litB_leaf h)
  ·rename_i hk
   simp only [Bool.and_eq_true] at h
   refine .inr ⟨List.all_eq_true.2 fun x hx=>litB_leaf (List.all_eq_true.1 h.1 x hx),?_⟩
   simp only [Bool.not_eq_true',Bool.not_eq_false] at hf
   unfold formedB at hf
   rw [if_neg hk] at hf
   split at hf
   ·cases hf
   ·rename_i hq
    simp only [Bool.or_eq_true,decide_eq_true_eq,not_or] at hq
    omega
theorem sub_get {n : Nat} {e : D} (he : isE (n + 1) e) {i : Nat} (hi : i < (eps e).length) : isE n ((eps e).getD i .top) /\ (eps e)[i]? = some ((eps e).getD i .top) /\ (eps e).getD i .top ∈ eps e:=by
 obtain ⟨op,k,i',t,nl,l,who,name,m,ps,rfl,h1,h2,h3,h4,h5,h6,_,_⟩:=isE_elim he
 have h6 : ∀ x ∈ ps,isE n x:=h6
 rw [eps_mk] at hi ⊢
 have e1 : ps.getD i .top = ps[i]:=by simp [hi]
 rw [e1]
 exact ⟨h6 _ (List.getElem_mem hi),by simp [hi],List.getElem_mem hi⟩
section
variable {n : Nat} {full : Bool} {e : D}
theorem tokD_val (g1 : (eop e == sVal) = true) : tokD (n + 1) full e = litT (eV e):=by simp only [tokD];rw [if_pos g1]
theorem tokD_now (g1 : (eop e == sVal) = false) (g2 : (eop e == sNow) = true) : tokD (n + 1) full e = [mkT 1 sNow 0]:=by
 simp only [tokD];rw [if_neg (by rw [g1];decide),if_pos g2]
theorem tokD_attr (g1 : (eop e == sVal) = false) (g2 : (eop e == sNow) = false) (g3 : (eop e == sAttr) = true) : tokD (n + 1) full e = [mkT 1 (ewho e) 0,mkT 5 [46] 0,mkT 1 (ename e) 0]:=by
 simp only [tokD];rw [if_neg (by rw [g1];decide),if_neg (by rw [g2];decide),if_pos g3]
theorem tokD_has (g1 : (eop e == sVal) = false) (g2 : (eop e == sNow) = false) (g3 : (eop e == sAttr) = false) (g4 : (eop e == sHas) = true) : tokD (n + 1) full e = [mkT 1 sHas 0,tP,mkT 1 (ewho e) 0,mkT 5 [46] 0,mkT 1 (ename e) 0,tQ]:=by
 simp only [tokD];rw [if_neg (by rw [g1];decide),if_neg (by rw [g2];decide),if_neg (by rw [g3];decide),if_pos g4]
theorem tokD_role (g1 : (eop e == sVal) = false) (g2 : (eop e == sNow) = false) (g3 : (eop e == sAttr) = false) (g4 : (eop e == sHas) = false) (g5 : (eop e == sRole) = true) : tokD (n + 1) full e = [mkT 1 sRole 0,tP,mkT 3 (ename e) 0,tQ]:=by
 simp only [tokD];rw [if_neg (by rw [g1];decide),if_neg (by rw [g2];decide),if_neg (by rw [g3];decide),if_neg (by rw [g4];decide),if_pos g5]
theorem tokD_size (g1 : (eop e == sVal) = false) (g2 : (eop e == sNow) = false) (g3 : (eop e == sAttr) = false) (g4 : (eop e == sHas) = false) (g5 : (eop e == sRole) = false) (g6 : (eop e == sSize) = true) : tokD (n + 1) full e = mkT 1 sSize 0 :: tP :: (tokD n full (sub0 e) ++ [tQ]):=by
 simp only [tokD];rw [if_neg (by rw [g1];decide),if_neg (by rw [g2];decide),if_neg (by rw [g3];decide),if_neg (by rw [g4];decide),if_neg (by rw [g5];decide),if_pos g6];rfl
theorem tokD_not (g1 : (eop e == sVal) = false) (g2 : (eop e == sNow) = false) (g3 : (eop e == sAttr) = false) (g4 : (eop e == sHas) = false) (g5 : (eop e == sRole) = false) (g6 : (eop e == sSize) = false) (g7 : (eop e == sNot) = true) :
  tokD (n + 1) full e = mkT 1 sNot 0 :: parW full (stI (eop (sub0 e))) 2 (tokD n full (sub0 e)):=by
 simp only [tokD];rw [if_neg (by rw [g1];decide),if_neg (by rw [g2];decide),if_neg (by rw [g3];decide),if_neg (by rw [g4];decide),if_neg (by rw [g5];decide),if_neg (by rw [g6];decide),if_pos g7]
theorem tokD_neg (g1 : (eop e == sVal) = false) (g2 : (eop e == sNow) = false) (g3 : (eop e == sAttr) = false) (g4 : (eop e == sHas) = false) (g5 : (eop e == sRole) = false) (g6 : (eop e == sSize) = false) (g7 : (eop e == sNot) = false) (g8 : (eop e == sNeg) = true) :
  tokD (n + 1) full e = mkT 5 [45] 0 :: parW full (stI (eop (sub0 e))) 6 (tokD n full (sub0 e)):=by
 simp only [tokD];rw [if_neg (by rw [g1];decide),if_neg (by rw [g2];decide),if_neg (by rw [g3];decide),if_neg (by rw [g4];decide),if_neg (by rw [g5];decide),if_neg (by rw [g6];decide),if_neg (by rw [g7];decide),if_pos g8]
theorem tokD_two (g1 : (eop e == sVal) = false) (g2 : (eop e == sNow) = false) (g3 : (eop e == sAttr) = false) (g4 : (eop e == sHas) = false) (g5 : (eop e == sRole) = false) (g6 : (eop e == sSize) = false) (g7 : (eop e == sNot) = false) (g8 : (eop e == sNeg) = false) :
  tokD (n + 1) full e = parW full (stI (eop (sub0 e))) (lstS (eop e)) (tokD n full (sub0 e)) ++ (opTok (eop e) :: parW full (stI (eop (sub1 e))) (stI (eop e) + 1) (tokD n full (sub1 e))):=by
 simp only [tokD];rw [if_neg (by rw [g1];decide),if_neg (by rw [g2];decide),if_neg (by rw [g3];decide),if_neg (by rw [g4];decide),if_neg (by rw [g5];decide),if_neg (by rw [g6];decide),if_neg (by rw [g7];decide),if_neg (by rw [g8];decide)]
end
theorem fmTop_val {e : D} (h : fmTop e = true) (g : (eop e == sVal) = true) : valB (eV e) = true /\ ewho e = [] /\ ename e = []:=by
 unfold fmTop at h
 rw [if_pos g] at h
 simp only [Bool.and_eq_true,beq_iff_eq] at h
 exact ⟨h.1.1,h.1.2,h.2⟩
theorem eq_of_beq' {a b : List UInt8} (h : (a == b) = true) : a = b:=by simpa using h
theorem two_op {op : List UInt8} (h0 : 0 <= stI op) (g1 : (op == sVal) = false) (g2 : (op == sNow) = false) (g3 : (op == sAttr) = false) (g4 : (op == sHas) = false) (g5 : (op == sRole) = false) (g6 : (op == sSize) = false) (g7 : (op == sNot) = false) (g8 : (op == sNeg) = false) :
  (stI op = 0 ∨ stI op = 1 ∨ stI op = 3 ∨ stI op = 4 ∨ stI op = 5) /\ arN op = 2:=by
 have hA:=arN_of (op:=op)
 rcases stI_cases op with h | h | h | h | h | h | h | h | h
 ·exact ⟨.inl h,hA.1 h⟩
 ·exact ⟨.inr (.inl h),hA.2.1 h⟩
 ·exact ⟨.inr (.inr (.inl h)),hA.2.2.1 h⟩
 ·exact ⟨.inr (.inr (.inr (.inl h))),hA.2.2.2.1 h⟩
 ·exact ⟨.inr (.inr (.inr (.inr h))),hA.2.2.2.2.1 h⟩
 ·rw [stI_2 h] at g7;cases g7
 ·rw [stI_6 h] at g8;cases g8
 ·have:=stI_7 h
  simp only [inB,plainW,List.any_cons,List.any_nil,Bool.or_false,Bool.or_eq_true] at this
  have sw : ∀ a b : List UInt8,(a == b) = true -> (b == a) = true:=fun a b h=>by simp only [beq_iff_eq] at h ⊢;exact h.symm
  rcases this with t | t | t | t | t | t
  ·rw [show (op == sVal) = true from sw _ _ t] at g1;cases g1
  ·rw [show (op == sNow) = true from sw _ _ t] at g2;cases g2
  ·rw [show (op == sAttr) = true from sw _ _ t] at g3;cases g3
  ·rw [show (op == sHas) = true from sw _ _ t] at g4;cases g4
  ·rw [show (op == sRole) = true from sw _ _ t] at g5;cases g5
  ·rw [show (op == sSize) = true from sw _ _ t] at g6;cases g6
 ·omega
set_option maxHeartbeats 16000000 in
theorem ok24s {n : Nat} (h24 : OkAtG Tryz.prog 24 (φOwn 3 (φtokF n))) (h61 : OkAtG Tryz.prog 61 (φOwn 3 (φparF n))) : OkAtG Tryz.prog 24 (φOwn 3 (φtokF (n + 1))):=by
 refine okOwn_of (X:=XG Tryz.prog [61] [(52,φst),(59,φtk1 1),(60,φtk1 5),(62,φin)] [] [] [(24,φOwn 3 (φtokF n)),(58,φOwn 3 φlitk)]) (XG.X (.cons ok52 (.cons ok59 (.cons ok60 (.cons ok62 .nil)))) .nil .nil (.cons h24 (.cons ok58 .nil))) fn24 fun args xs h=>?_
 have hM : MonoH []:=.nil
 have h61p:=OkAtG.pure h61 (φparF_cl n)
 unfold φtokF at h
 split at h
 ·rename_i e full
  split at h
  ·rename_i hc
   obtain ⟨he,hf,hlen⟩:=hc
   injection h with h;subst h
   refine ⟨by simp,(tokD_tok (n + 1) full e).cl _ _,fun H T=>?_⟩
   obtain ⟨f1,f2,f3,f4⟩:=fmR_s hf
   have ps : φst [.str (eop e)] = some (.int .i64 (stI (eop e))):=rfl
   have own : ∀ (ys : List D) (B : Hp) (U : Tk),isTks ys -> Ext H B -> LeavesG H T (.sl (some T.length) ys) H (T ++ [some (ys.length,3)]) (.sl (some T.length) ys) B (T ++ some (ys.length,3) :: U):=fun ys B U hy hB =>
    leavesG_own hB (ExtT.of _ _) (hy.cl _ _) (Nat.le_refl _) (by simp)
   have kid : ∀ (i : Nat),i < (eps e).length -> ∃ x,(eps e).getD i .top = x /\ (eps e)[i]? = some x /\ x.erase = x /\ x.cells.length = 8 /\ x.cells.take 8 = x.cells /\ D.agg x.cells = x /\ isTks (tokD n full x) ∧
     ((tokD n full x).length <= 2 ^ 30 -> ∀ H T,φOwn 3 (φtokF n) H T [x,.bool full] = some (.sl (some T.length) (tokD n full x),H,T ++ [some ((tokD n full x).length,3)])) ∧
     (∀ least,(parW full (stI (eop x)) least (tokD n full x)).length <= 2 ^ 30 -> φparF n [x,.int .i64 least,.bool full] = some (parW full (stI (eop x)) least (tokD n full x))):=fun i hi=>by
    obtain ⟨x1,x2,x3⟩:=sub_get he hi
    obtain ⟨q1,q2,q3,_⟩:=isE_cells x1
    refine ⟨_,rfl,x2,isE_erase x1,q1,q2,q3,tokD_tok _ _ _,fun hl H T=>?_,fun least hl=>?_⟩
    ·simp only [φOwn,φtokF];rw [if_pos ⟨x1,f3 _ x3,hl⟩]
    ·simp only [φparF];rw [if_pos ⟨x1,f3 _ x3,hl⟩]
   have plit : valB (eV e) = true -> (eV e).isV = true -> ∀ H T,φOwn 3 φlitk H T [eV e] = some (.sl (some T.length) (litT (eV e)),H,T ++ [some ((litT (eV e)).length,3)]):=fun h hv H T=>by
    simp only [φOwn,φlitk];rw [if_pos ⟨hv,valB_dom h⟩]
   rcases tf (eop e == sVal) with g1 | g1
   ·rw [tokD_val g1] at hlen ⊢
    have pl:=plit (fmTop_val f4 g1).1
    obtain ⟨op,k,i,t,nl,l,who,name,m,ps',rfl,h1,h2,h3,h4,h5,h6,eL,eP⟩:=isE_elim he
    simp only [eop_mk] at ps
    have k1 : (op == [118,97,108,117,101]) = true:=g1
    have pl:=pl h4.1
    have hk:=litT_tok (eV (mkE op k i t nl l who name m ps'))
    obtain ⟨O,hO⟩ : ∃ z,litT (eV (mkE op k i t nl l who name m ps')) = z:=⟨_,rfl⟩
    simp only [hO] at pl hk hlen ⊢
    simp only [eV_mk,mkV] at pl
    simp +contextual (maxSteps:=10000000) only [c24,mkE,eL,eP,ps,k1,pl,pcallG hM,go_sem]
    exact own O _ [] hk (Ext.of _ _)
   rcases tf (eop e == sNow) with g2 | g2
   ·rw [tokD_now g1 g2]
    obtain ⟨op,k,i,t,nl,l,who,name,m,ps',rfl,h1,h2,h3,h4,h5,h6,eL,eP⟩:=isE_elim he
    simp only [eop_mk] at ps
    have k1 : (op == [118,97,108,117,101]) = false:=g1
    have k2 : (op == [110,111,119]) = true:=g2
    simp +contextual (maxSteps:=10000000) only [c24,mkE,eL,eP,ps,k1,k2,pcallG hM,φtk1,mkT,sNow,go_sem]
    exact own [_] _ [] (isTks.cons _ _ _ .nil) (Ext.of _ _)
   rcases tf (eop e == sAttr) with g3 | g3
   ·rw [tokD_attr g1 g2 g3]
    obtain ⟨op,k,i,t,nl,l,who,name,m,ps',rfl,h1,h2,h3,h4,h5,h6,eL,eP⟩:=isE_elim he
    simp only [eop_mk] at ps
    have k1 : (op == [118,97,108,117,101]) = false:=g1
    have k2 : (op == [110,111,119]) = false:=g2
    have k3 : (op == [97,116,116,114]) = true:=g3
    simp +contextual (maxSteps:=10000000) only [c24,mkE,eL,eP,ps,k1,k2,k3,pcallG hM,φtk1,mkT,sNow,ewho_mk,ename_mk,go_sem]
    exact own [_,_,_] _ [] (isTks.cons _ _ _ (isTks.cons _ _ _ (isTks.cons _ _ _ .nil))) (Ext.of _ _)
   rcases tf (eop e == sHas) with g4 | g4
   ·rw [tokD_has g1 g2 g3 g4]
    obtain ⟨op,k,i,t,nl,l,who,name,m,ps',rfl,h1,h2,h3,h4,h5,h6,eL,eP⟩:=isE_elim he
    simp only [eop_mk] at ps
    have k1 : (op == [118,97,108,117,101]) = false:=g1
    have k2 : (op == [110,111,119]) = false:=g2
    have k3 : (op == [97,116,116,114]) = false:=g3
    have k4 : (op == [104,97,115]) = true:=g4
    simp +contextual (maxSteps:=10000000) only [c24,mkE,eL,eP,ps,k1,k2,k3,k4,pcallG hM,φtk1,mkT,sHas,tP,tQ,ewho_mk,ename_mk,go_sem]
    exact own [_,_,_,_,_,_] _ [] (isTks.cons _ _ _ (isTks.cons _ _ _ (isTks.cons _ _ _ (isTks.cons _ _ _ (isTks.cons _ _ _ (isTks.cons _ _ _ .nil)))))) (Ext.of _ _)
   rcases tf (eop e == sRole) with g5 | g5
   ·rw [tokD_role g1 g2 g3 g4 g5]
    obtain ⟨op,k,i,t,nl,l,who,name,m,ps',rfl,h1,h2,h3,h4,h5,h6,eL,eP⟩:=isE_elim he
    simp only [eop_mk] at ps
    have k1 : (op == [118,97,108,117,101]) = false:=g1
    have k2 : (op == [110,111,119]) = false:=g2
    have k3 : (op == [97,116,116,114]) = false:=g3
    have k4 : (op == [104,97,115]) = false:=g4
    have k5 : (op == [114,111,108,101]) = true:=g5
    simp +contextual (maxSteps:=10000000) only [c24,mkE,eL,eP,ps,k1,k2,k3,k4,k5,pcallG hM,φtk1,mkT,sRole,tP,tQ,ewho_mk,ename_mk,go_sem]
    exact own [_,_,_,_] _ [] (isTks.cons _ _ _ (isTks.cons _ _ _ (isTks.cons _ _ _ (isTks.cons _ _ _ .nil)))) (Ext.of _ _)
   rcases tf (eop e == sSize) with g6 | g6
   ·rw [tokD_size g1 g2 g3 g4 g5 g6] at hlen ⊢
    have ar : arN (eop e) = 1:=by rw [eq_of_beq' g6];decide
    obtain ⟨x,x1,x2,ee,q1,q2,q3,hk,pt,_⟩:=kid 0 (by omega)
    simp only [sub0,x1] at hlen ⊢
    simp only [List.length_append,List.length_cons,List.length_nil] at hlen
    have pt:=pt (by omega)
    have hfit:=hk.fit
    obtain ⟨O,hO⟩ : ∃ z,tokD n full x = z:=⟨_,rfl⟩
    simp only [hO] at pt hlen hk hfit ⊢
    obtain ⟨op,k,i,t,nl,l,who,name,m,ps',rfl,h1,h2,h3,h4,h5,h6,eL,eP⟩:=isE_elim he
    simp only [eop_mk] at ps
    simp only [eps_mk] at x2
    have k1 : (op == [118,97,108,117,101]) = false:=g1
    have k2 : (op == [110,111,119]) = false:=g2
    have k3 : (op == [97,116,116,114]) = false:=g3
    have k4 : (op == [104,97,115]) = false:=g4
    have k5 : (op == [114,111,108,101]) = false:=g5
    have k6 : (op == [115,105,122,101]) = true:=g6
    simp +contextual (maxSteps:=10000000) only [c24,mkE,eL,eP,ps,k1,k2,k3,k4,k5,k6,pcallG hM,φtk1,mkT,sSize,tP,tQ,x2,ee,q1,q2,q3,pt,appK_tok0,appK_tok,hfit,List.set_cons_zero,List.set_cons_succ,go_sem]
    refine ⟨by omega,by omega,by rw [Nat.add_comm],by omega,by omega,?_⟩
    have:=own (mkT 1 sSize 0 :: tP :: (O ++ [tQ])) _ [some (O.length,3),some (1,3)] (isTks.cons _ _ _ (isTks.cons _ _ _ (hk.app (isTks.cons _ _ _ .nil)))) (Ext.of H [.row [.str op,.int .i64 k,.int .i64 i,.str t,sliceD nl l,.str who,.str name,sliceD m ps']])
    simpa [mkT,tP,tQ,sSize] using this
   rcases tf (eop e == sNot) with g7 | g7
   ·rw [tokD_not g1 g2 g3 g4 g5 g6 g7] at hlen ⊢
    have ar : arN (eop e) = 1:=by rw [eq_of_beq' g7];decide
    obtain ⟨x,x1,x2,ee,q1,q2,q3,hk,_,pt⟩:=kid 0 (by omega)
    simp only [sub0,x1] at hlen ⊢
    simp only [List.length_cons] at hlen
    have pt:=pt 2 (by omega)
    have hk:=parW_tok (full:=full) (s:=stI (eop x)) (least:=2) hk
    obtain ⟨O,hO⟩ : ∃ z,parW full (stI (eop x)) 2 (tokD n full x) = z:=⟨_,rfl⟩
    simp only [hO] at pt hlen hk ⊢
    have hfit:=hk.fit
    have pp : (fun a=>(φparF n a).map (D.sl none)) [x,.int .i64 2,.bool full] = some (.sl none O):=by simp only [pt,Option.map_some]
    obtain ⟨op,k,i,t,nl,l,who,name,m,ps',rfl,h1,h2,h3,h4,h5,h6,eL,eP⟩:=isE_elim he
    simp only [eop_mk] at ps
    simp only [eps_mk] at x2
    have k1 : (op == [118,97,108,117,101]) = false:=g1
    have k2 : (op == [110,111,119]) = false:=g2
    have k3 : (op == [97,116,116,114]) = false:=g3
    have k4 : (op == [104,97,115]) = false:=g4
    have k5 : (op == [114,111,108,101]) = false:=g5
    have k6 : (op == [115,105,122,101]) = false:=g6
    have k7 : (op == [110,111,116]) = true:=g7
    simp +contextual (maxSteps:=10000000) only [c24,mkE,eL,eP,ps,k1,k2,k3,k4,k5,k6,k7,pcallG hM,φtk1,mkT,x2,ee,q1,q2,q3,go_sem]
    refine pcallN_of rfl h61p (r:=.sl none O) (by simp only [List.nil_append,List.append_nil,D.eraseL,D.erase,ee];exact pp) ?_
    simp +contextual (maxSteps:=10000000) only [mkT,sNot,pcallG hM,appK_tok0,appK_tok,hfit,List.set_cons_zero,List.set_cons_succ,go_sem]
    refine ⟨by omega,by omega,?_⟩
    have:=own (mkT 1 sNot 0 :: O) _ [] (isTks.cons _ _ _ hk) (Ext.of H [.row [.str op,.int .i64 k,.int .i64 i,.str t,sliceD nl l,.str who,.str name,sliceD m ps']])
    simpa [mkT,sNot,Nat.add_comm] using this
   rcases tf (eop e == sNeg) with g8 | g8
   ·rw [tokD_neg g1 g2 g3 g4 g5 g6 g7 g8] at hlen ⊢
    have ar : arN (eop e) = 1:=by rw [eq_of_beq' g8];decide
    obtain ⟨x,x1,x2,ee,q1,q2,q3,hk,_,pt⟩:=kid 0 (by omega)
    simp only [sub0,x1] at hlen ⊢
    simp only [List.length_cons] at hlen
    have pt:=pt 6 (by omega)
    have hk:=parW_tok (full:=full) (s:=stI (eop x)) (least:=6) hk
    obtain ⟨O,hO⟩ : ∃ z,parW full (stI (eop x)) 6 (tokD n full x) = z:=⟨_,rfl⟩
    simp only [hO] at pt hlen hk ⊢
    have hfit:=hk.fit
    have pp : (fun a=>(φparF n a).map (D.sl none)) [x,.int .i64 6,.bool full] = some (.sl none O):=by simp only [pt,Option.map_some]
    obtain ⟨op,k,i,t,nl,l,who,name,m,ps',rfl,h1,h2,h3,h4,h5,h6,eL,eP⟩:=isE_elim he
    simp only [eop_mk] at ps
    simp only [eps_mk] at x2
    have k1 : (op == [118,97,108,117,101]) = false:=g1
    have k2 : (op == [110,111,119]) = false:=g2
    have k3 : (op == [97,116,116,114]) = false:=g3
    have k4 : (op == [104,97,115]) = false:=g4
    have k5 : (op == [114,111,108,101]) = false:=g5
    have k6 : (op == [115,105,122,101]) = false:=g6
    have k7 : (op == [110,111,116]) = false:=g7
    have k8 : (op == [110,101,103]) = true:=g8
    simp +contextual (maxSteps:=10000000) only [c24,mkE,eL,eP,ps,k1,k2,k3,k4,k5,k6,k7,k8,pcallG hM,φtk1,mkT,x2,ee,q1,q2,q3,go_sem]
    refine pcallN_of rfl h61p (r:=.sl none O) (by simp only [List.nil_append,List.append_nil,D.eraseL,D.erase,ee];exact pp) ?_
    simp +contextual (maxSteps:=10000000) only [mkT,sNot,pcallG hM,appK_tok0,appK_tok,hfit,List.set_cons_zero,List.set_cons_succ,go_sem]
    refine ⟨by omega,by omega,?_⟩
    have:=own (mkT 5 [45] 0 :: O) _ [] (isTks.cons _ _ _ hk) (Ext.of H [.row [.str op,.int .i64 k,.int .i64 i,.str t,sliceD nl l,.str who,.str name,sliceD m ps']])
    simpa [mkT,sNot,Nat.add_comm] using this
   ·rw [tokD_two g1 g2 g3 g4 g5 g6 g7 g8] at hlen ⊢
    obtain ⟨t1,ar⟩:=two_op f1 g1 g2 g3 g4 g5 g6 g7 g8
    obtain ⟨x,x1,x2,ee,q1,q2,q3,hk,_,pt⟩:=kid 0 (by omega)
    obtain ⟨y,y1,y2,ef,s1,s2,s3,hj,_,pu⟩:=kid 1 (by omega)
    simp only [sub0,sub1,x1,y1] at hlen ⊢
    simp only [List.length_append,List.length_cons] at hlen
    have pt:=pt (lstS (eop e)) (by omega)
    have pu:=pu (stI (eop e) + 1) (by omega)
    have hk:=parW_tok (full:=full) (s:=stI (eop x)) (least:=lstS (eop e)) hk
    have hj:=parW_tok (full:=full) (s:=stI (eop y)) (least:=stI (eop e) + 1) hj
    obtain ⟨O,hO⟩ : ∃ z,parW full (stI (eop x)) (lstS (eop e)) (tokD n full x) = z:=⟨_,rfl⟩
    obtain ⟨U,hU⟩ : ∃ z,parW full (stI (eop y)) (stI (eop e) + 1) (tokD n full y) = z:=⟨_,rfl⟩
    simp only [hO,hU] at pt pu hlen hk hj ⊢
    have hf1:=hk.fit
    have hf2:=hj.fit
    have pO : ∀ H T,φOwn 3 (φparF n) H T [x,.int .i64 (lstS (eop e)),.bool full] = some (.sl (some T.length) O,H,T ++ [some (O.length,3)]):=fun H T=>by simp only [φOwn,pt]
    have pU : ∀ H T,φOwn 3 (φparF n) H T [y,.int .i64 (stI (eop e) + 1),.bool full] = some (.sl (some T.length) U,H,T ++ [some (U.length,3)]):=fun H T=>by simp only [φOwn,pu]
    have pin:=in_at (l:=opW) (by decide) (eop e)
    have hOT : isTks [opTok (eop e)]:=opTok_tok _ .nil
    have e3 : (stI (eop e) == 3) = true -> lstS (eop e) = 4:=fun h=>by unfold lstS;rw [if_pos h]
    have e4 : (stI (eop e) == 3) = false -> lstS (eop e) = stI (eop e):=fun h=>by unfold lstS;rw [if_neg (by rw [h];decide)]
    have wr : IntKind.i64.wrap (stI (eop e) + 1) = stI (eop e) + 1:=wrap_of _ (by omega) (by omega)
    obtain ⟨op,k,i,t,nl,l,who,name,m,ps',rfl,h1,h2,h3,h4,h5,h6,eL,eP⟩:=isE_elim he
    simp only [eop_mk] at ps pO pU pin hOT e3 e4 wr f1 ⊢
    simp only [eps_mk] at x2 y2
    have k1 : (op == [118,97,108,117,101]) = false:=g1
    have k2 : (op == [110,111,119]) = false:=g2
    have k3 : (op == [97,116,116,114]) = false:=g3
    have k4 : (op == [104,97,115]) = false:=g4
    have k5 : (op == [114,111,108,101]) = false:=g5
    have k6 : (op == [115,105,122,101]) = false:=g6
    have k7 : (op == [110,111,116]) = false:=g7
    have k8 : (op == [110,101,103]) = false:=g8
    obtain ⟨sv,hsv⟩ : ∃ z,stI op = z:=⟨_,rfl⟩
    obtain ⟨lv,hlv⟩ : ∃ z,lstS op = z:=⟨_,rfl⟩
    obtain ⟨ib,hib⟩ : ∃ z,inB opW op = z:=⟨_,rfl⟩
    have hot : opTok op = mkT (if ib then 1 else 5) op 0:=by unfold opTok;rw [hib];cases ib <;> rfl
    simp only [hsv,hlv,hib] at ps pO pU pin wr e3 e4
    simp only [opW,wOr,wAnd,sIn,List.map_cons,List.map_nil] at pin
    rw [hot]
    rw [W_part 6]
    obtain ⟨tl,htl⟩ : ∃ z,C.tl 6 c24 = z:=⟨_,rfl⟩
    rw [htl]
    obtain ⟨Q,hQ⟩ : ∃ Q,endQ [.inl 4] (LeavesG H T (D.sl (some (List.length T)) (O ++ mkT (if ib then 1 else 5) op 0 :: U)) H (T ++ [some ((O ++ mkT (if ib then 1 else 5) op 0 :: U).length,3)])) = Q:=⟨_,rfl⟩
    rw [hQ]
    have rest : ∀ t',t' 1 = .bool full -> t' 2 = .ptr H.length 0 -> t' 5 = .int .i64 sv -> t' 8 = .sl (some T.length) O -> W (XG Tryz.prog [61] [(52,φst),(59,φtk1 1),(60,φtk1 5),(62,φin)] [] [] [(24,φOwn 3 (φtokF n)),(58,φOwn 3 φlitk)]) tl Q
      ⟨t',H ++ [.row [.str op,.int .i64 k,.int .i64 i,.str t,sliceD nl l,.str who,.str name,sliceD m ps']],T ++ [some (O.length,3)]⟩:=by
     intro t' r1 r2 r5 r8
     rw [<- hQ]
     subst htl
     cases ib with
     | true =>
      simp +contextual (maxSteps:=10000000) only [c24,r1,r2,r5,r8,pin,pcallG hM,φtk1,mkT,y2,ef,s1,s2,s3,wr,appK_tok0,appK_tok,hf1,List.set_cons_zero,List.set_cons_succ,go_sem]
      refine ⟨by omega,by omega,?_⟩
      refine h61 _ _ _ _ _ _ (pU _ _) _ (by simp only [D.eraseL,D.erase,ef]) _ ?_
      simp +contextual (maxSteps:=10000000) only [appK_tok0,appK_tok,hf1,hf2,List.set_cons_zero,List.set_cons_succ,go_sem]
      refine ⟨by omega,by omega,by rw [List.all_append,hf1];rfl,?_⟩
      have:=own (O ++ mkT 1 op 0 :: U) _ [some (3,1),some (1,3),some (U.length,3)] (hk.app (isTks.cons _ _ _ hj)) (Ext.of H [.row [.str op,.int .i64 k,.int .i64 i,.str t,sliceD nl l,.str who,.str name,sliceD m ps'],.row [.int .i64 1,.str op,.int .i64 0]])
      simpa [mkT,Nat.add_assoc,Nat.add_comm,Nat.add_left_comm] using this
     | false =>
      simp +contextual (maxSteps:=10000000) only [c24,r1,r2,r5,r8,pin,pcallG hM,φtk1,mkT,y2,ef,s1,s2,s3,wr,appK_tok0,appK_tok,hf1,List.set_cons_zero,List.set_cons_succ,go_sem]
      refine ⟨by omega,by omega,?_⟩
      refine h61 _ _ _ _ _ _ (pU _ _) _ (by simp only [D.eraseL,D.erase,ef]) _ ?_
      simp +contextual (maxSteps:=10000000) only [appK_tok0,appK_tok,hf1,hf2,List.set_cons_zero,List.set_cons_succ,go_sem]
      refine ⟨by omega,by omega,by rw [List.all_append,hf1];rfl,?_⟩
      have:=own (O ++ mkT 5 op 0 :: U) _ [some (3,1),some (1,3),some (U.length,3)] (hk.app (isTks.cons _ _ _ hj)) (Ext.of H [.row [.str op,.int .i64 k,.int .i64 i,.str t,sliceD nl l,.str who,.str name,sliceD m ps'],.row [.int .i64 5,.str op,.int .i64 0]])
      simpa [mkT,Nat.add_assoc,Nat.add_comm,Nat.add_left_comm] using this
    rcases tf (sv == 3) with g | g
    ·rw [e3 g] at pO
     simp +contextual (maxSteps:=10000000) only [c24,mkE,eL,eP,ps,k1,k2,k3,k4,k5,k6,k7,k8,g,pcallG hM,x2,ee,q1,q2,q3,go_sem]
     refine h61 _ _ _ _ _ _ (pO _ _) _ (by simp only [D.eraseL,D.erase,ee]) _ ?_
     simp +contextual (maxSteps:=10000000) only [go_sem]
     refine rest _ ?_ ?_ ?_ ?_ <;> rfl
    ·rw [e4 g] at pO
     simp +contextual (maxSteps:=10000000) only [c24,mkE,eL,eP,ps,k1,k2,k3,k4,k5,k6,k7,k8,g,pcallG hM,x2,ee,q1,q2,q3,go_sem]
     refine h61 _ _ _ _ _ _ (pO _ _) _ (by simp only [D.eraseL,D.erase,ee]) _ ?_
     simp +contextual (maxSteps:=10000000) only [go_sem]
     refine rest _ ?_ ?_ ?_ ?_ <;> rfl
  ·cases h
 ·cases h
theorem ok24 : ∀ n,OkAtG Tryz.prog 24 (φOwn 3 (φtokF n))
 | 0=>fun H T args r H' T' h=>by
  unfold φOwn φtokF at h
  split at h
  ·rename_i hx
   split at hx
   ·split at hx
    ·rename_i hc;exact hc.1.elim
    ·cases hx
   ·cases hx
  ·cases h
 | n + 1=>ok24s (ok24 n) (ok61 (ok24 n))
end GP
namespace GP
open Go Go.Proofs
set_option maxRecDepth 100000
theorem isE_le {n m : Nat} (h : n <= m) {d : D} (hd : isE n d) : isE m d:=by
 induction h with
 | refl=>exact hd
 | step _ ih=>exact isE_mono ih
theorem isE_of {m : Nat} {op : List UInt8} {k i : Int} {s : List UInt8} {nl : Bool} {l : List D} {who name : List UInt8} {q : Bool} {ps : List D} (h1 : op.length <= 2 ^ 47) (h2 : who.length <= 2 ^ 47) (h3 : name.length <= 2 ^ 47) (h4 : isVr (mkV k i s nl l)) (h5 : ps.length <= 2 ^ 47) (h6 : ∀ x ∈ ps,isE m x) :
  isE (m + 1) (mkE op k i s nl l who name q ps):=⟨op,k,i,s,nl,l,who,name,q,ps,rfl,h1,h2,h3,h4,h5,h6⟩
theorem zero_isVr : isVr (mkV 0 0 [] true []):=⟨by decide,by decide,by decide⟩
theorem two_isE {m : Nat} {op : List UInt8} {x y : D} (ho : op.length <= 2 ^ 47) (hx : isE m x) (hy : isE m y) : isE (m + 1) (twoD op x y) :=
 isE_of (m:=m) (op:=op) (k:=0) (i:=0) (s:=[]) (nl:=true) (l:=[]) (who:=[]) (name:=[]) (q:=false) (ps:=[x,y]) ho (by simp) (by simp) zero_isVr (by simp) (fun z hz=>by
  simp only [List.mem_cons,List.not_mem_nil,or_false] at hz
  rcases hz with rfl | rfl
  ·exact hx
  ·exact hy)
theorem one_isE {m : Nat} {op : List UInt8} {x : D} (ho : op.length <= 2 ^ 47) (hx : isE m x) : isE (m + 1) (oneD op x) :=
 isE_of (m:=m) (op:=op) (k:=0) (i:=0) (s:=[]) (nl:=true) (l:=[]) (who:=[]) (name:=[]) (q:=false) (ps:=[x]) ho (by simp) (by simp) zero_isVr (by simp) (fun z hz=>by
  simp only [List.mem_cons,List.not_mem_nil,or_false] at hz
  rw [hz];exact hx)
def lvB : Nat -> Nat
 | 0=>2
 | f + 1=>lvB f + f + 3
theorem lvB_le : ∀ f,lvB f <= (f + 2) * (f + 2)
 | 0=>by decide
 | f + 1=>by
  have:=lvB_le f
  have e : (f + 1 + 2) * (f + 1 + 2) = (f + 2) * (f + 2) + 2 * (f + 2) + 1:=by
   simp only [Nat.add_mul,Nat.mul_add];omega
  simp only [lvB];omega
theorem lvB_1 (f : Nat) : 1 <= lvB f:=by cases f <;> simp [lvB]
def nodeB : Nat:=lvB 10000
theorem nodeB_le : nodeB <= 2 ^ 40:=by
 have:=lvB_le 10000
 unfold nodeB;omega
end GP
namespace GP
open Go Go.Proofs
set_option maxRecDepth 100000
theorem isE_eps {n : Nat} {e : D} (h : isE (n + 1) e) : ∀ x ∈ eps e,isE n x:=by
 obtain ⟨op,k,i,t,nl,l,who,name,m,ps,rfl,_,_,_,_,_,h6,_⟩:=isE_elim h
 rw [eps_mk];exact h6
theorem keptB_in (s : List UInt8) : keptB s = inB keptW s:=by
 unfold keptB inB
 congr 1;funext x;rw [Bool.eq_iff_iff];simp only [beq_iff_eq];exact ⟨fun h=>h.symm,fun h=>h.symm⟩
end GP
namespace GP
open Go Go.Proofs
set_option maxRecDepth 100000
def okZ (f : D -> D -> Bool) (xs ys : List D) (i : Nat) : Bool:=match xs[i]?,ys[i]? with
 | some x,some y=>f x y
 | _,_=>true
def allZ (f : D -> D -> Bool) (xs ys : List D) : Bool:=if xs.length == ys.length then (List.range xs.length).all (okZ f xs ys) else false
def sameE : Nat -> D -> D -> Bool
 | 0,_,_=>false
 | n + 1,a,b=>if (eop a != eop b) || (ewho a != ewho b) || (ename a != ename b) || !sameB (eV a) (eV b) then false else allZ (sameE n) (eps a) (eps b)
open Classical in
noncomputable def φsv (n : Nat) : List D -> Option D
 | [x,y]=>if isE n x /\ isE n y then some (.bool (sameB (eV x) (eV y))) else none
 | _=>none
theorem ok51 (n : Nat) : OkAt Tryz.prog 51 (φsv n):=by
 refine ok_of (l:=[(54,φSame)]) (.cons ok54 .nil) fn51 fun args r h=>?_
 unfold φsv at h
 split at h
 ·rename_i x y
  split at h
  ·rename_i hc
   injection h with h;subst h
   refine ⟨by simp,by simp [D.cl],fun H T=>?_⟩
   obtain ⟨op,k,i,t,nl,l,who,name,m,ps,rfl,h1,h2,h3,h4,h5,h6,eL,eP⟩:=isE_elim hc.1
   obtain ⟨op',k',i',t',nl',l',who',name',m',ps',rfl,h1',h2',h3',h4',h5',h6',eL',eP'⟩:=isE_elim hc.2
   have p:=same_at h4.1 h4'.1
   simp only [eV_mk]
   obtain ⟨sb,hsb⟩ : ∃ z,sameB (mkV k i t nl l) (mkV k' i' t' nl' l') = z:=⟨_,rfl⟩
   simp only [hsb] at p ⊢
   simp only [mkV] at p
   simp +contextual (maxSteps:=10000000) only [c51,mkE,eL,eL',eP,eP',p,go_sem]
  ·cases h
 ·cases h
open Classical in
noncomputable def φsmE (n : Nat) : List D -> Option D
 | [x,y]=>if isE n x /\ isE n y then some (.bool (sameE n x y)) else none
 | _=>none
set_option maxHeartbeats 4000000 in
theorem ok20 : ∀ n,OkAt Tryz.prog 20 (φsmE n)
 | 0=>fun args r h=>by
  unfold φsmE at h
  split at h
  ·split at h
   ·rename_i h';exact h'.1.elim
   ·cases h
  ·cases h
 | n + 1=>by
  refine ok_of (l:=[(51,φsv (n + 1)),(20,φsmE n)]) (.cons (ok51 (n + 1)) (.cons (ok20 n) .nil)) fn20 fun args r h=>?_
  unfold φsmE at h
  split at h
  ·rename_i x y
   split at h
   ·rename_i hc
    injection h with h;subst h
    refine ⟨by simp,by simp [D.cl],fun H T=>?_⟩
    have psv : φsv (n + 1) [x,y] = some (.bool (sameB (eV x) (eV y))):=by simp only [φsv];rw [if_pos hc]
    obtain ⟨op,k,i,t,nl,l,who,name,m,ps,rfl,h1,h2,h3,h4,h5,h6,eL,eP⟩:=isE_elim hc.1
    obtain ⟨op',k',i',t',nl',l',who',name',m',ps',rfl,h1',h2',h3',h4',h5',h6',eL',eP'⟩:=isE_elim hc.2
    have h6 : ∀ x ∈ ps,isE n x:=h6
    have h6' : ∀ x ∈ ps',isE n x:=h6'
    have hS : sameE (n + 1) (mkE op k i t nl l who name m ps) (mkE op' k' i' t' nl' l' who' name' m' ps') = if (op != op') || (who != who') || (name != name') || !sameB (mkV k i t nl l) (mkV k' i' t' nl' l') then false else allZ (sameE n) ps ps':=by
     simp only [sameE,eop_mk,ewho_mk,ename_mk,eV_mk,eps_mk]
    rw [hS]
    clear hS
    simp only [eV_mk] at psv
    obtain ⟨sb,hsb⟩ : ∃ z,sameB (mkV k i t nl l) (mkV k' i' t' nl' l') = z:=⟨_,rfl⟩
    simp only [hsb] at psv ⊢
    simp only [mkE] at psv
    have bl:=bne_len ps.length ps'.length
    rcases tf (op != op') with g1 | g1
    ·rw [g1];simp +contextual (maxSteps:=10000000) only [c20,mkE,eL,eL',eP,eP',g1,go_sem]
    rcases tf (who != who') with g2 | g2
    ·rw [g1,g2];simp +contextual (maxSteps:=10000000) only [c20,mkE,eL,eL',eP,eP',g1,g2,go_sem]
    rcases tf (name != name') with g3 | g3
    ·rw [g1,g2,g3];simp +contextual (maxSteps:=10000000) only [c20,mkE,eL,eL',eP,eP',g1,g2,g3,go_sem]
    rw [g1,g2,g3]
    cases sb with
    | false=>simp +contextual (maxSteps:=10000000) only [c20,mkE,eL,eL',eP,eP',g1,g2,g3,psv,go_sem]
    | true =>
    rcases tf (ps.length == ps'.length) with g4 | g4
    ·rw [g4] at bl
     have hZ : allZ (sameE n) ps ps' = (List.range ps.length).all (okZ (sameE n) ps ps'):=by unfold allZ;rw [if_pos g4]
     rw [hZ]
     have hl : ps.length = ps'.length:=by simpa using g4
     simp +contextual (maxSteps:=10000000) only [c20,mkE,eL,eL',eP,eP',g1,g2,g3,psv,bl,go_sem]
     refine W_for (fun j s'=>s'.t 2 = .ptr H.length 0 /\ s'.t 3 = .ptr (H.length + 1) 0 /\ s'.t 5 = .int .i64 j /\ s'.H = H ++ [.row [.str op,.int .i64 k,.int .i64 i,.str t,sliceD nl l,.str who,.str name,sliceD m ps],.row [.str op',.int .i64 k',.int .i64 i',.str t',sliceD nl' l',.str who',.str name',sliceD m' ps']] /\ s'.T = T /\ j <= ps.length /\ (List.range j).all (okZ (sameE n) ps ps') = true) ps.length ⟨0,by simp [upd,argT]⟩ (fun i s h=>h.2.2.2.2.2.1) ?_ (XL_mono _)
     rintro j ⟨t1,B,T'⟩ ⟨r2,r3,r5,rfl,rfl,hj,hc'⟩
     simp only at r2 r3 r5
     by_cases ha : j < ps.length
     ·have d1 : decide ((j : Int) < ps.length) = true:=by simpa using ha
      have hb : j < ps'.length:=by omega
      have hx:=h6 _ (List.getElem_mem ha)
      have hy:=h6' _ (List.getElem_mem hb)
      have ex : ps[j]? = some ps[j]:=by simp [ha]
      have ey : ps'[j]? = some ps'[j]:=by simp [hb]
      have G : okZ (sameE n) ps ps' j = sameE n ps[j] ps'[j]:=by simp only [okZ,ex,ey]
      have bad : okZ (sameE n) ps ps' j = false -> (List.range ps.length).all (okZ (sameE n) ps ps') = false:=fun h=>range_false_of h ha
      rw [G] at bad
      obtain ⟨x,hX⟩ : ∃ x,ps[j] = x:=⟨_,rfl⟩
      obtain ⟨y,hY⟩ : ∃ y,ps'[j] = y:=⟨_,rfl⟩
      rw [hX] at hx ex G bad
      rw [hY] at hy ey G bad
      have ee:=isE_erase hx
      have ef:=isE_erase hy
      obtain ⟨q1,q2,q3,q4⟩:=isE_cells hx
      obtain ⟨s1,s2,s3,s4⟩:=isE_cells hy
      have px : φsmE n [x,y] = some (.bool (sameE n x y)):=by simp only [φsmE];rw [if_pos ⟨hx,hy⟩]
      obtain ⟨b,hq⟩ : ∃ z,sameE n x y = z:=⟨_,rfl⟩
      simp only [hq] at px G bad
      cases b with
      | true =>
       simp +contextual (maxSteps:=10000000) only [r2,r3,r5,d1,ex,ey,ee,ef,q1,q2,q3,q4,s1,s2,s3,s4,px,wrap_succ j (by omega),go_sem]
       refine ⟨by omega,?_⟩
       rw [List.all_append,hc']
       simp [G]
      | false =>
       have bad:=bad rfl
       simp +contextual (maxSteps:=10000000) only [r2,r3,r5,d1,ex,ey,ee,ef,q1,q2,q3,q4,s1,s2,s3,s4,px,bad,go_sem]
     ·have d1 : decide ((j : Int) < ps.length) = false:=by simpa using ha
      have : j = ps.length:=by omega
      subst this
      simp +contextual (maxSteps:=10000000) only [r2,r3,r5,d1,hc',go_sem]
    ·rw [g4] at bl
     have hZ : allZ (sameE n) ps ps' = false:=by unfold allZ;rw [if_neg (by rw [g4];decide)]
     rw [hZ]
     simp +contextual (maxSteps:=10000000) only [c20,mkE,eL,eL',eP,eP',g1,g2,g3,psv,bl,go_sem]
   ·cases h
  ·cases h
def pkB (x : D) : Bool:=((tk x == 1) && (ts x != wTrue) && (ts x != wFalse)) || ((tk x == 5) && ((ts x == [46]) || (ts x == [43]) || (ts x == [42]) || (ts x == [60]) || (ts x == [91])))
def cntP (l : List D) : Nat:=(l.filter pkB).length
end GP
namespace GP
open Go Go.Proofs
set_option maxRecDepth 100000
def isTr (x : D) : Prop:=∃ n,isE n x
theorem sub_size {op : List UInt8} {k i : Int} {s : List UInt8} {nl : Bool} {l : List D} {who name : List UInt8} {m : Bool} {ps : List D} {y : D} (h : y ∈ ps) : sizeOf y < sizeOf (mkE op k i s nl l who name m ps):=by
 have h1:=List.sizeOf_lt_of_mem h
 have h2 : sliceD m ps = .sl none ps:=by
  rcases sliceD_cases m ps with ⟨_,e⟩ | e
  ·subst e;cases h
  ·exact e
 simp only [mkE,h2,D.agg.sizeOf_spec,List.cons.sizeOf_spec,D.sl.sizeOf_spec]
 omega
theorem isE_can : ∀ (n : Nat) (x : D),isE n x -> isE (sizeOf x) x
 | 0,_,h=>h.elim
 | n + 1,x,⟨op,k,i,s,nl,l,who,name,m,ps,e,h1,h2,h3,h4,h5,h6⟩=>by
  obtain ⟨z,hz⟩ : ∃ z,sizeOf x = z + 1:=⟨sizeOf x - 1,by subst e;simp only [mkE,D.agg.sizeOf_spec];omega⟩
  rw [hz]
  refine ⟨op,k,i,s,nl,l,who,name,m,ps,e,h1,h2,h3,h4,h5,fun y hy=>?_⟩
  have:=sub_size (op:=op) (k:=k) (i:=i) (s:=s) (nl:=nl) (l:=l) (who:=who) (name:=name) (m:=m) hy
  rw [<- e,hz] at this
  exact isE_le (by omega) (isE_can n y (h6 y hy))
theorem isTr.can {x : D} (h : isTr x) : isE (sizeOf x) x:=by obtain ⟨n,hn⟩:=h;exact isE_can n x hn
theorem all_congr' {f g : D -> Bool} {l : List D} (h : ∀ x ∈ l,f x = g x) : l.all f = l.all g:=by
 induction l with
 | nil=>rfl
 | cons x l ih=>simp only [List.all_cons,h x (by simp),ih fun y hy=>h y (by simp [hy])]
theorem fmR_S : ∀ (n : Nat) (e : D),isE n e -> fmR (n + 1) e = fmR n e
 | 0,_,h=>h.elim
 | n + 1,e,h=>by
  have:=all_congr' fun x hx=>fmR_S n x (isE_eps h x hx)
  show (if _ then false else if !((eps e).all (fmR (n + 1))) then false else fmTop e) = (if _ then false else if !((eps e).all (fmR n)) then false else fmTop e)
  simp only [this]
theorem fmR_fuel {n m : Nat} {e : D} (h : isE n e) (hm : n <= m) : fmR m e = fmR n e:=by
 induction hm with
 | refl=>rfl
 | step hm ih=>rw [fmR_S _ e (isE_le hm h),ih]
noncomputable def fmC (x : D) : Bool:=fmR (sizeOf x) x
theorem fmC_eq {n : Nat} {e : D} (h : isE n e) : fmR n e = fmC e:=by
 unfold fmC
 rw [<- fmR_fuel h (Nat.le_max_left n (sizeOf e)),fmR_fuel (isE_can n e h) (Nat.le_max_right n (sizeOf e))]
structure GoodE (e : D) : Prop where
 t : isTr e
 f : fmC e = true
theorem GoodE.fm {n : Nat} {e : D} (h : GoodE e) (hn : isE n e) : fmR n e = true:=by rw [fmC_eq hn];exact h.f
theorem goodE_of {n : Nat} {e : D} (hn : isE n e) (h : fmR n e = true) : GoodE e:=⟨⟨n,hn⟩,by rw [<- fmC_eq hn];exact h⟩
theorem isE_pos {n : Nat} {e : D} (h : isE n e) : ∃ m,n = m + 1:=by cases n with
 | zero=>exact h.elim
 | succ n=>exact ⟨n,rfl⟩
theorem GoodE.parts {e : D} (h : GoodE e) : 0 <= stI (eop e) /\ ((eps e).length : Int) = arN (eop e) /\ (∀ x ∈ eps e,GoodE x) /\ fmTop e = true:=by
 obtain ⟨⟨n,hn⟩,hf⟩:=h
 obtain ⟨n,rfl⟩:=isE_pos hn
 rw [<- fmC_eq hn] at hf
 obtain ⟨h1,h2,h3,h4⟩:=fmR_s hf
 exact ⟨h1,h2,fun x hx=>goodE_of (isE_eps hn x hx) (h3 x hx),h4⟩
theorem goodE_mk {e : D} (ht : isTr e) (h1 : 0 <= stI (eop e)) (h2 : ((eps e).length : Int) = arN (eop e)) (h3 : ∀ x ∈ eps e,GoodE x) (h4 : fmTop e = true) : GoodE e:=by
 obtain ⟨n,hn⟩:=ht
 obtain ⟨n,rfl⟩:=isE_pos hn
 refine goodE_of hn ?_
 have d1 : decide (stI (eop e) < 0) = false:=by simp only [decide_eq_false_iff_not];omega
 have d2 : (((eps e).length : Int) != arN (eop e)) = false:=by simp [h2]
 have d3 : (eps e).all (fmR n) = true:=List.all_eq_true.2 fun x hx=>(h3 x hx).fm (isE_eps hn x hx)
 simp only [fmR,d1,d2,d3,Bool.or_self,Bool.false_eq_true,if_false,Bool.not_true]
 exact h4
theorem sub0_mem {e : D} (h : 0 < (eps e).length) : sub0 e ∈ eps e:=by
 unfold sub0
 rw [List.getD_eq_getElem?_getD,List.getElem?_eq_getElem h]
 exact List.getElem_mem h
theorem sub1_mem {e : D} (h : 1 < (eps e).length) : sub1 e ∈ eps e:=by
 unfold sub1
 rw [List.getD_eq_getElem?_getD,List.getElem?_eq_getElem h]
 exact List.getElem_mem h
theorem ar1 {op : List UInt8} (h : (op == sSize) = true ∨ (op == sNot) = true ∨ (op == sNeg) = true) : arN op = 1:=by
 rcases h with h | h | h <;> (rw [eq_of_beq' h];decide)
theorem tokD_S : ∀ (n : Nat) (full : Bool) (e : D),isE n e -> GoodE e -> tokD (n + 1) full e = tokD n full e
 | 0,_,_,h,_=>h.elim
 | n + 1,full,e,h,hg=>by
  obtain ⟨f1,f2,f3,f4⟩:=hg.parts
  have k0 : 0 < (eps e).length -> tokD (n + 1) full (sub0 e) = tokD n full (sub0 e):=fun hl=>tokD_S n full _ (isE_eps h _ (sub0_mem hl)) (f3 _ (sub0_mem hl))
  have k1 : 1 < (eps e).length -> tokD (n + 1) full (sub1 e) = tokD n full (sub1 e):=fun hl=>tokD_S n full _ (isE_eps h _ (sub1_mem hl)) (f3 _ (sub1_mem hl))
  rcases tf (eop e == sVal) with g1 | g1
  ·rw [tokD_val g1,tokD_val g1]
  rcases tf (eop e == sNow) with g2 | g2
  ·rw [tokD_now g1 g2,tokD_now g1 g2]
  rcases tf (eop e == sAttr) with g3 | g3
  ·rw [tokD_attr g1 g2 g3,tokD_attr g1 g2 g3]
  rcases tf (eop e == sHas) with g4 | g4
  ·rw [tokD_has g1 g2 g3 g4,tokD_has g1 g2 g3 g4]
  rcases tf (eop e == sRole) with g5 | g5
  ·rw [tokD_role g1 g2 g3 g4 g5,tokD_role g1 g2 g3 g4 g5]
  rcases tf (eop e == sSize) with g6 | g6
  ·have:=ar1 (.inl g6)
   rw [tokD_size g1 g2 g3 g4 g5 g6,tokD_size g1 g2 g3 g4 g5 g6,k0 (by omega)]
  rcases tf (eop e == sNot) with g7 | g7
  ·have:=ar1 (.inr (.inl g7))
   rw [tokD_not g1 g2 g3 g4 g5 g6 g7,tokD_not g1 g2 g3 g4 g5 g6 g7,k0 (by omega)]
  rcases tf (eop e == sNeg) with g8 | g8
  ·have:=ar1 (.inr (.inr g8))
   rw [tokD_neg g1 g2 g3 g4 g5 g6 g7 g8,tokD_neg g1 g2 g3 g4 g5 g6 g7 g8,k0 (by omega)]
  ·have:=(two_op f1 g1 g2 g3 g4 g5 g6 g7 g8).2
   rw [tokD_two g1 g2 g3 g4 g5 g6 g7 g8,tokD_two g1 g2 g3 g4 g5 g6 g7 g8,k0 (by omega),k1 (by omega)]
theorem tokD_fuel {n m : Nat} {full : Bool} {e : D} (h : isE n e) (hg : GoodE e) (hm : n <= m) : tokD m full e = tokD n full e:=by
 induction hm with
 | refl=>rfl
 | step hm ih=>rw [tokD_S _ full e (isE_le hm h) hg,ih]
noncomputable def tkC (full : Bool) (x : D) : List D:=tokD (sizeOf x) full x
theorem tkC_eq {n : Nat} {full : Bool} {e : D} (h : isE n e) (hg : GoodE e) : tokD n full e = tkC full e:=by
 unfold tkC
 rw [<- tokD_fuel h hg (Nat.le_max_left n (sizeOf e)),tokD_fuel (isE_can n e h) hg (Nat.le_max_right n (sizeOf e))]
section
variable {full : Bool} {e : D}
theorem tkC_S (h : GoodE e) : ∃ n,isE (n + 1) e /\ tkC full e = tokD (n + 1) full e:=by
 obtain ⟨n,hn⟩:=isE_pos h.t.can
 refine ⟨n,hn ▸ h.t.can,?_⟩
 unfold tkC;rw [hn]
theorem tk_val (h : GoodE e) (g1 : (eop e == sVal) = true) : tkC full e = litT (eV e):=by
 obtain ⟨n,_,h2⟩:=tkC_S (full:=full) h
 rw [h2,tokD_val g1]
theorem tk_now (h : GoodE e) (g2 : (eop e == sNow) = true) : tkC full e = [mkT 1 sNow 0]:=by
 obtain ⟨n,_,h2⟩:=tkC_S (full:=full) h
 rw [h2,tokD_now (by rw [eq_of_beq' g2];decide) g2]
theorem tk_attr (h : GoodE e) (g3 : (eop e == sAttr) = true) : tkC full e = [mkT 1 (ewho e) 0,mkT 5 [46] 0,mkT 1 (ename e) 0]:=by
 obtain ⟨n,_,h2⟩:=tkC_S (full:=full) h
 rw [h2,tokD_attr (by rw [eq_of_beq' g3];decide) (by rw [eq_of_beq' g3];decide) g3]
theorem tk_has (h : GoodE e) (g4 : (eop e == sHas) = true) : tkC full e = [mkT 1 sHas 0,tP,mkT 1 (ewho e) 0,mkT 5 [46] 0,mkT 1 (ename e) 0,tQ]:=by
 obtain ⟨n,_,h2⟩:=tkC_S (full:=full) h
 rw [h2,tokD_has (by rw [eq_of_beq' g4];decide) (by rw [eq_of_beq' g4];decide) (by rw [eq_of_beq' g4];decide) g4]
theorem tk_role (h : GoodE e) (g5 : (eop e == sRole) = true) : tkC full e = [mkT 1 sRole 0,tP,mkT 3 (ename e) 0,tQ]:=by
 obtain ⟨n,_,h2⟩:=tkC_S (full:=full) h
 rw [h2,tokD_role (by rw [eq_of_beq' g5];decide) (by rw [eq_of_beq' g5];decide) (by rw [eq_of_beq' g5];decide) (by rw [eq_of_beq' g5];decide) g5]
theorem GoodE.one (h : GoodE e) (g : (eop e == sSize) = true ∨ (eop e == sNot) = true ∨ (eop e == sNeg) = true) : GoodE (sub0 e) /\ ∃ x,eps e = [x] /\ sub0 e = x:=by
 obtain ⟨f1,f2,f3,f4⟩:=h.parts
 rw [ar1 g] at f2
 refine ⟨f3 _ (sub0_mem (by omega)),?_⟩
 match hx : eps e,f2 with
 | [x],_=>exact ⟨x,rfl,by unfold sub0;rw [hx];rfl⟩
 | [],h=>simp at h
 | _ :: _ :: _,h=>simp at h;omega
theorem tk_sub {n : Nat} (h : isE (n + 1) e) {x : D} (hx : x ∈ eps e) (hg : GoodE x) : tokD n full x = tkC full x:=tkC_eq (isE_eps h x hx) hg
theorem tk_size (h : GoodE e) (g6 : (eop e == sSize) = true) : tkC full e = mkT 1 sSize 0 :: tP :: (tkC full (sub0 e) ++ [tQ]):=by
 obtain ⟨n,h1,h2⟩:=tkC_S (full:=full) h
 obtain ⟨hg,x,hx,hs⟩:=h.one (.inl g6)
 rw [h2,tokD_size (by rw [eq_of_beq' g6];decide) (by rw [eq_of_beq' g6];decide) (by rw [eq_of_beq' g6];decide) (by rw [eq_of_beq' g6];decide) (by rw [eq_of_beq' g6];decide) g6,tk_sub h1 (by rw [hx,hs];simp) hg]
theorem tk_not (h : GoodE e) (g7 : (eop e == sNot) = true) : tkC full e = mkT 1 sNot 0 :: parW full (stI (eop (sub0 e))) 2 (tkC full (sub0 e)):=by
 obtain ⟨n,h1,h2⟩:=tkC_S (full:=full) h
 obtain ⟨hg,x,hx,hs⟩:=h.one (.inr (.inl g7))
 rw [h2,tokD_not (by rw [eq_of_beq' g7];decide) (by rw [eq_of_beq' g7];decide) (by rw [eq_of_beq' g7];decide) (by rw [eq_of_beq' g7];decide) (by rw [eq_of_beq' g7];decide) (by rw [eq_of_beq' g7];decide) g7,tk_sub h1 (by rw [hx,hs];simp) hg]
theorem tk_neg (h : GoodE e) (g8 : (eop e == sNeg) = true) : tkC full e = mkT 5 [45] 0 :: parW full (stI (eop (sub0 e))) 6 (tkC full (sub0 e)):=by
 obtain ⟨n,h1,h2⟩:=tkC_S (full:=full) h
 obtain ⟨hg,x,hx,hs⟩:=h.one (.inr (.inr g8))
 rw [h2,tokD_neg (by rw [eq_of_beq' g8];decide) (by rw [eq_of_beq' g8];decide) (by rw [eq_of_beq' g8];decide) (by rw [eq_of_beq' g8];decide) (by rw [eq_of_beq' g8];decide) (by rw [eq_of_beq' g8];decide) (by rw [eq_of_beq' g8];decide) g8,tk_sub h1 (by rw [hx,hs];simp) hg]
def isOp2 (op : List UInt8) : Prop:=stI op = 0 ∨ stI op = 1 ∨ stI op = 3 ∨ stI op = 4 ∨ stI op = 5
theorem op2_not {op : List UInt8} (h : isOp2 op) : (op == sVal) = false /\ (op == sNow) = false /\ (op == sAttr) = false /\ (op == sHas) = false /\ (op == sRole) = false /\ (op == sSize) = false /\ (op == sNot) = false /\ (op == sNeg) = false:=by
 have key : ∀ w : List UInt8,(stI w = 2 ∨ stI w = 6 ∨ stI w = 7) -> (op == w) = false:=fun w hw=>by
  cases hx : op == w with
  | false=>rfl
  | true=>rw [eq_of_beq' hx] at h;unfold isOp2 at h;omega
 exact ⟨key _ (by decide),key _ (by decide),key _ (by decide),key _ (by decide),key _ (by decide),key _ (by decide),key _ (by decide),key _ (by decide)⟩
theorem op2_ar {op : List UInt8} (h : isOp2 op) : arN op = 2:=by
 have hA:=arN_of (op:=op)
 rcases h with h | h | h | h | h
 ·exact hA.1 h
 ·exact hA.2.1 h
 ·exact hA.2.2.1 h
 ·exact hA.2.2.2.1 h
 ·exact hA.2.2.2.2.1 h
theorem GoodE.two (h : GoodE e) (g : isOp2 (eop e)) : GoodE (sub0 e) /\ GoodE (sub1 e) /\ sub0 e ∈ eps e /\ sub1 e ∈ eps e /\ eps e = [sub0 e,sub1 e]:=by
 obtain ⟨f1,f2,f3,f4⟩:=h.parts
 rw [op2_ar g] at f2
 refine ⟨f3 _ (sub0_mem (by omega)),f3 _ (sub1_mem (by omega)),sub0_mem (by omega),sub1_mem (by omega),?_⟩
 unfold sub0 sub1
 match eps e,f2 with
 | [x,y],_=>rfl
 | [],h=>simp at h
 | [_],h=>simp at h
 | _ :: _ :: _ :: _,h=>simp at h;omega
theorem tk_two (h : GoodE e) (g : isOp2 (eop e)) : tkC full e = parW full (stI (eop (sub0 e))) (lstS (eop e)) (tkC full (sub0 e)) ++ (opTok (eop e) :: parW full (stI (eop (sub1 e))) (stI (eop e) + 1) (tkC full (sub1 e))):=by
 obtain ⟨n,h1,h2⟩:=tkC_S (full:=full) h
 obtain ⟨k0,k1,m0,m1,_⟩:=h.two g
 obtain ⟨g1,g2,g3,g4,g5,g6,g7,g8⟩:=op2_not g
 rw [h2,tokD_two g1 g2 g3 g4 g5 g6 g7 g8,tk_sub h1 m0 k0,tk_sub h1 m1 k1]
end
theorem GoodE.op {e : D} (h : GoodE e) : (eop e == sVal) = true ∨ (eop e == sNow) = true ∨ (eop e == sAttr) = true ∨ (eop e == sHas) = true ∨ (eop e == sRole) = true ∨ (eop e == sSize) = true ∨ (eop e == sNot) = true ∨ (eop e == sNeg) = true ∨ isOp2 (eop e):=by
 obtain ⟨f1,_⟩:=h.parts
 cases g1 : eop e == sVal with | true=>simp | false =>
 cases g2 : eop e == sNow with | true=>simp | false =>
 cases g3 : eop e == sAttr with | true=>simp | false =>
 cases g4 : eop e == sHas with | true=>simp | false =>
 cases g5 : eop e == sRole with | true=>simp | false =>
 cases g6 : eop e == sSize with | true=>simp | false =>
 cases g7 : eop e == sNot with | true=>simp | false =>
 cases g8 : eop e == sNeg with | true=>simp | false =>
 have:=(two_op f1 g1 g2 g3 g4 g5 g6 g7 g8).1
 simp only [Bool.false_eq_true,false_or]
 exact this
end GP
namespace GP
open Go Go.Proofs Go.Proofs.YtainhmbnbgonhaaGreatDoor
open Go.ChangeShapes Go.WideShapes Go.ChangeAt Go.RowKit
set_option maxRecDepth 100000
def laidD : List (String × DataW Unit):=Rows.printExprsRow.laid
theorem own6 : ownKnob Tryz.prog.godebug = none:=by kernel_rfl
theorem laid6 : laidOutB Tryz.prog = true:=by kernel_rfl
theorem rowed6 : mapsRowed Tryz.prog = true:=by kernel_rfl
theorem full6 : ((List.range Tryz.prog.types.size).all fun t=>match Tryz.prog.underlying t with | some (.slice e)=>decide (0 < Tryz.prog.cellsOf e) | _=>true) = true:=by kernel_rfl
theorem laid_filter (n : String) {W : World} {l : List (String × DataW Unit)} (h : laidMetH Tryz.prog laidD W) (e : laidD.filter (fun x=>x.1 == n) = l) : laidMet Tryz.prog l W:=by
 rw [MakeChecks.laidMetH_plain _ _ _ (by kernel_rfl)] at h
 rw [<- e]
 exact h.filter _
theorem pow_of_laid {W : World} (h : laidMetH Tryz.prog laidD W) : Lib.TabIs Tryz.prog W "internal/strconv.uint64pow10" .u64 Lib.pow10Tab :=
 Lib.tabIs_of_head (g:=1) (t:=225) (e:=202) (n:=20) (rest:=[]) gPow (by kernel_rfl) Tryz.underlying225 Tryz.underlying202 (by kernel_rfl) (by kernel_rfl)
  (laid_filter "internal/strconv.uint64pow10" h (by kernel_rfl))
theorem vars_of_laid {W : World} (h : laidMetH Tryz.prog laidD W) : HasG.G Tryz.prog (Cx0 W) W:=by
 refine ⟨rfl,?_,pow_of_laid h⟩
 show 2 <= W.heap.size
 have h1:=pow_of_laid h
 unfold Lib.TabIs World.var? at h1
 rw [gPow] at h1
 simp only [Option.bind_some] at h1
 rcases Nat.lt_or_ge 1 W.heap.size with h' | h'
 ·omega
 ·simp [Array.getElem?_eq_none h'] at h1
theorem hMay : Tryz.prog.mayEnter = true:=by kernel_rfl
theorem hLift : (false == Tryz.prog.liftsFinal) = true:=by kernel_rfl
theorem hHeard : Tryz.prog.stopsHeard = true:=by kernel_rfl
theorem hKeys : (false == Tryz.prog.plainKeys) = true:=by kernel_rfl
theorem hLooks : true = Tryz.prog.looks []:=by kernel_rfl
theorem hMain : Tryz.prog.mainIs = some (true, "80a834c457ab35883543603980dd7f217c45191a846bf96d7f461e86fb45756a".toList) := by kernel_rfl
theorem andT {a b : Bool} (ha : a = true) (hb : b = true) : (a && b) = true:=by rw [ha,hb];rfl
end GP
namespace GP
open Go Go.Proofs Go.Proofs.YtainhmbnbgonhaaGreatDoor
open Go.ChangeShapes Go.WideShapes Go.ChangeAt Go.RowKit
set_option maxRecDepth 100000
theorem cells3 : Tryz.prog.cellsOf 3 = 1:=by kernel_rfl
theorem cells2 : Tryz.prog.cellsOf 2 = 1:=by kernel_rfl
theorem cells9 : Tryz.prog.cellsOf 9 = 1:=by kernel_rfl
theorem i64min : IntKind.i64.min = -(2 ^ 63):=by decide
theorem i64max : IntKind.i64.max = 2 ^ 63 - 1:=by decide
def isLd (p : D -> Prop) (ds : List D) : Prop:=∃ l,ds = [l] /\ isLs p l
theorem isLd_of {mk : List D -> D} {φ : List D -> Prop} {p : D -> Prop} {sz : Nat} (h : ∀ x,φ x -> p (mk x)) {ds : List D} (hd : ds = [.nils] ∨ ∃ xs : List (List D),ds = [.sl none (xs.map mk)] /\ xs.length <= 2 ^ 47 /\ ∀ x ∈ xs,φ x /\ x.length = sz) : isLd p ds:=by
 rcases hd with rfl | ⟨xs,rfl,h1,h2⟩
 ·exact ⟨_,rfl,isLs_nils _⟩
 ·refine ⟨_,rfl,false,xs.map mk,rfl,by simpa using h1,fun x hx=>?_⟩
  obtain ⟨y,hy,rfl⟩:=List.mem_map.1 hx
  exact h _ (h2 y hy).1
end GP
namespace GP
open Go Go.Proofs
set_option maxRecDepth 100000
structure Step (toks : List D) (st st2 : St) : Prop where
 ok : (st.2 = 0 ∨ st.2 = 2) /\ st.1 <= toks.length -> (st2.2 = 0 ∨ st2.2 = 2) /\ st2.1 <= toks.length
 stuck : st.2 ≠ 0 -> st2 = st
 adv : st.2 = 0 -> st.1 <= st2.1
theorem Step.refl (toks : List D) (st : St) : Step toks st st:=⟨fun h=>h,fun _=>rfl,fun _=>Nat.le_refl _⟩
theorem Step.trans {toks : List D} {a b c : St} (h : Step toks a b) (k : Step toks b c) : Step toks a c :=
 ⟨fun q=>k.ok (h.ok q),fun q=>by have:=h.stuck q;rw [this] at k;rw [k.stuck q],fun q=>by
  have h1:=h.adv q
  by_cases hb : b.2 = 0
  ·exact Nat.le_trans h1 (k.adv hb)
  ·rw [k.stuck hb];exact h1⟩
theorem Step.e0 {toks : List D} {a b : St} (h : Step toks a b) (hb : b.2 = 0) : a.2 = 0:=by
 by_cases ha : a.2 = 0
 ·exact ha
 ·rw [h.stuck ha] at hb;exact hb
end GP
namespace GP
open Go Go.Proofs
set_option maxRecDepth 100000
def sbT (toks : List D) (a b : Nat) : List D:=(toks.take b).drop a
def cnt2 (toks : List D) (a b : Nat) : Nat:=cntP (sbT toks a b)
theorem cntP_app (l m : List D) : cntP (l ++ m) = cntP l + cntP m:=by simp [cntP,List.filter_append]
theorem sbT_add {toks : List D} {a b c : Nat} (h1 : a <= b) (h2 : b <= c) : sbT toks a c = sbT toks a b ++ sbT toks b c:=by
 unfold sbT
 have e : toks.take c = toks.take b ++ (toks.take c).drop b:=by
  have:=(List.take_append_drop b (toks.take c)).symm
  rwa [List.take_take,Nat.min_eq_left h2] at this
 rcases Nat.lt_or_ge (toks.take b).length a with hl | hl
 ·have hb : toks.length < b:=by
   rcases Nat.lt_or_ge toks.length b with h | h
   ·exact h
   ·rw [List.length_take,Nat.min_eq_left h] at hl;omega
  rw [List.drop_eq_nil_of_le (Nat.le_of_lt hl),List.take_of_length_le (by omega : toks.length <= c)]
  rw [List.length_take] at hl
  rw [List.drop_eq_nil_of_le (by omega),List.drop_eq_nil_of_le (by omega)];rfl
 ·conv=>lhs;rw [e]
  rw [List.drop_append_of_le_length hl]
theorem cnt2_add {toks : List D} {a b c : Nat} (h1 : a <= b) (h2 : b <= c) : cnt2 toks a c = cnt2 toks a b + cnt2 toks b c:=by
 unfold cnt2;rw [sbT_add h1 h2,cntP_app]
theorem cnt2_one {toks : List D} {a : Nat} {t : D} (h : toks[a]? = some t) : cnt2 toks a (a + 1) = if pkB t then 1 else 0:=by
 unfold cnt2 sbT
 have hl:=lt_of_get h
 rw [List.take_add_one,h,List.drop_append_of_le_length (by rw [List.length_take];omega),List.drop_eq_nil_of_le (by rw [List.length_take];omega)]
 unfold cntP
 simp only [Option.toList_some,List.nil_append,List.filter_cons,List.filter_nil]
 split <;> rfl
theorem now_at {toks : List D} {st : St} (h : tk (nowS toks st) ≠ 0) : st.2 = 0 /\ toks[st.1]? = some (nowS toks st) /\ formT (nowS toks st) = true:=by
 unfold nowS nowP at h ⊢
 split at h
 ·exact absurd rfl h
 ·rename_i he
  rw [if_neg he]
  split at h
  ·rename_i t ht
   split at h
   ·rename_i hf
    rw [if_pos hf]
    exact ⟨by simpa using he,ht,hf⟩
   ·exact absurd rfl h
  ·exact absurd rfl h
theorem is_at {toks : List D} {st : St} {w : List UInt8} (h : isP toks st w = true) : st.2 = 0 /\ toks[st.1]? = some (nowS toks st) /\ ts (nowS toks st) = w /\ ((tk (nowS toks st) = 1 /\ wordB w = true) ∨ (tk (nowS toks st) = 5 /\ isSign w = true)):=by
 unfold isP at h
 simp only [Bool.and_eq_true,Bool.or_eq_true,beq_iff_eq] at h
 obtain ⟨h1,h2⟩:=h
 obtain ⟨a1,a2,a3⟩:=now_at (toks:=toks) (st:=st) (by omega)
 refine ⟨a1,a2,h2,?_⟩
 unfold formT formI at a3
 rw [h2] at a3
 rcases h1 with h1 | h1
 ·rw [h1] at a3
  simp only [beq_self_eq_true,if_true,Bool.and_eq_true] at a3
  exact .inl ⟨h1,a3.1⟩
 ·rw [h1] at a3
  have : isSign w = true:=by
   revert a3
   simp only [show ((5 : Int) == 1) = false from rfl,show ((5 : Int) == 2) = false from rfl,show ((5 : Int) == 3) = false from rfl,show ((5 : Int) == 4) = false from rfl,Bool.false_eq_true,if_false,beq_self_eq_true,if_true,Bool.and_eq_true]
   exact fun h=>h.1
  exact .inr ⟨h1,this⟩
theorem pk_word {t : D} (h : tk t = 1) : pkB t = ((ts t != wTrue) && (ts t != wFalse)):=by
 unfold pkB;rw [h];simp
theorem pk_sign {t : D} (h : tk t = 5) : pkB t = ((ts t == [46]) || (ts t == [43]) || (ts t == [42]) || (ts t == [60]) || (ts t == [91])):=by
 unfold pkB;rw [h];simp
def pkW (w : List UInt8) : Nat:=if isSign w then (if ((w == [46]) || (w == [43]) || (w == [42]) || (w == [60]) || (w == [91])) then 1 else 0) else (if (w != wTrue) && (w != wFalse) then 1 else 0)
theorem word_sign {w : List UInt8} (h : wordB w = true) : isSign w = false:=by
 cases hs : isSign w with
 | false=>rfl
 | true =>
  have : w ∈ signsR:=by
   unfold isSign at hs
   obtain ⟨x,hx,he⟩:=List.any_eq_true.1 hs
   have : x = w:=by simpa using he
   rw [<- this];exact hx
  have key : ∀ w ∈ signsR,wordB w = false:=by decide
  rw [key w this] at h;cases h
theorem cnt_is {toks : List D} {st : St} {w : List UInt8} (h : isP toks st w = true) : cnt2 toks st.1 (st.1 + 1) = pkW w:=by
 obtain ⟨_,h2,h3,h4⟩:=is_at h
 rw [cnt2_one h2]
 unfold pkW
 rcases h4 with ⟨h4,h5⟩ | ⟨h4,h5⟩
 ·rw [pk_word h4,h3,word_sign h5];rfl
 ·rw [pk_sign h4,h3,h5];rfl
end GP
namespace GP
open Go Go.Proofs
set_option maxRecDepth 100000
theorem same_zero : sameB zeroV zeroV = true:=by decide
theorem fmTop_z {e : D} (hV : eV e = zeroV) (hw : ewho e = []) (hn : ename e = []) (g1 : (eop e == sVal) = false) (g3 : (eop e == sAttr) = false) (g4 : (eop e == sHas) = false) : (eop e == sRole) = false -> fmTop e = true:=by
 intro g5
 unfold fmTop
 rw [if_neg (by rw [g1];decide),hV,same_zero,if_neg (by decide),g3,g4,if_neg (by decide),if_neg (by rw [g5];decide),hw,hn]
 rfl
theorem good_two {op : List UInt8} {a b : D} (ho : op.length <= 2 ^ 47) (h : isOp2 op) (ha : GoodE a) (hb : GoodE b) : GoodE (twoD op a b):=by
 obtain ⟨g1,g2,g3,g4,g5,g6,g7,g8⟩:=op2_not h
 refine goodE_mk ?_ ?_ ?_ ?_ (fmTop_z rfl rfl rfl g1 g3 g4 g5)
 ·exact ⟨_,two_isE ho (isE_le (Nat.le_max_left _ _) ha.t.can) (isE_le (Nat.le_max_right _ _) hb.t.can)⟩
 ·show 0 <= stI op
  unfold isOp2 at h;omega
 ·show (([a,b] : List D).length : Int) = arN op
  rw [op2_ar h];rfl
 ·intro x hx
  have hx : x ∈ [a,b]:=hx
  simp only [List.mem_cons,List.not_mem_nil,or_false] at hx
  rcases hx with rfl | rfl
  ·exact ha
  ·exact hb
theorem tk_twoD {full : Bool} {op : List UInt8} {a b : D} (ho : op.length <= 2 ^ 47) (h : isOp2 op) (ha : GoodE a) (hb : GoodE b) : tkC full (twoD op a b) = parW full (stI (eop a)) (lstS op) (tkC full a) ++ (opTok op :: parW full (stI (eop b)) (stI op + 1) (tkC full b)) :=
 tk_two (good_two ho h ha hb) h
theorem good_one {op : List UInt8} {a : D} (h : op = sSize ∨ op = sNot ∨ op = sNeg) (ha : GoodE a) : GoodE (oneD op a):=by
 have hl : op.length <= 2 ^ 47:=by rcases h with rfl | rfl | rfl <;> decide
 refine goodE_mk ⟨_,one_isE hl ha.t.can⟩ ?_ ?_ ?_ (fmTop_z rfl rfl rfl ?_ ?_ ?_ ?_)
 ·show 0 <= stI op
  rcases h with rfl | rfl | rfl <;> decide
 ·show (1 : Int) = arN op
  rcases h with rfl | rfl | rfl <;> decide
 ·intro x hx
  have hx : x ∈ [a]:=hx
  rw [List.mem_singleton] at hx;subst hx;exact ha
 ·show (op == sVal) = false
  rcases h with rfl | rfl | rfl <;> decide
 ·show (op == sAttr) = false
  rcases h with rfl | rfl | rfl <;> decide
 ·show (op == sHas) = false
  rcases h with rfl | rfl | rfl <;> decide
 ·show (op == sRole) = false
  rcases h with rfl | rfl | rfl <;> decide
structure Rdd (toks : List D) (s : Int) (x : D) (a b : Nat) : Prop where
 g : GoodE x
 c : cntP (tkC true x) = cnt2 toks a b
 m : (parW false (stI (eop x)) s (tkC false x)).length <= b - a
 l : a < b
theorem parW_f (s s' : Int) (l : List D) : parW false s s' l = if s' <= s then l else tP :: (l ++ [tQ]):=by
 unfold parW
 simp only [Bool.not_false,Bool.true_or,Bool.and_true,decide_eq_true_eq]
theorem parW_mono {s s1 s2 : Int} (h : s1 <= s2) (l : List D) : (parW false s s1 l).length <= (parW false s s2 l).length:=by
 rw [parW_f,parW_f]
 split <;> split <;> simp <;> omega
theorem parW_own {s s' : Int} (h : s' <= s) (l : List D) : parW false s s' l = l:=by rw [parW_f,if_pos h]
theorem cnt_par (full : Bool) (s s' : Int) (l : List D) : cntP (parW full s s' l) = cntP l:=by
 unfold parW
 split
 ·rfl
 ·have e : tP :: (l ++ [tQ]) = [tP] ++ l ++ [tQ]:=by simp
  rw [e,cntP_app,cntP_app]
  show 0 + cntP l + 0 = cntP l
  omega
theorem cntP_cons (t : D) (l : List D) : cntP (t :: l) = (if pkB t then 1 else 0) + cntP l:=by
 unfold cntP
 rw [List.filter_cons]
 split
 ·simp;omega
 ·simp
theorem Rdd.up {toks : List D} {s s2 : Int} {x : D} {a b : Nat} (h : Rdd toks s2 x a b) (hs : s <= s2) : Rdd toks s x a b :=
 ⟨h.g,h.c,Nat.le_trans (parW_mono hs _) h.m,h.l⟩
def ops2 : List (List UInt8):=[wOr,wAnd,[61,61],[33,61],[60],[60,61],[62],[62,61],[105,110],[43],[45],[42]]
theorem ops2_is {op : List UInt8} (h : op ∈ ops2) : isOp2 op /\ op.length <= 2 ^ 47 /\ (if pkB (opTok op) then 1 else 0) = pkW op:=by
 have key : ∀ op ∈ ops2,(stI op = 0 ∨ stI op = 1 ∨ stI op = 3 ∨ stI op = 4 ∨ stI op = 5) /\ op.length <= 2 ^ 47 /\ (if pkB (opTok op) then 1 else 0) = pkW op:=by decide
 exact key op h
theorem Rdd.two {toks : List D} {op : List UInt8} (h : op ∈ ops2) {x y : D} {a b c : Nat} {st : St} (hst : st.1 = b) (hp : isP toks st op = true) (hx : Rdd toks (lstS op) x a b) (hy : Rdd toks (stI op + 1) y (b + 1) c) : Rdd toks (stI op) (twoD op x y) a c:=by
 obtain ⟨h2,hl,hk⟩:=ops2_is h
 have e1:=fun full=>tk_twoD (full:=full) hl h2 hx.g hy.g
 have hlx:=hx.l
 have hly:=hy.l
 refine ⟨good_two hl h2 hx.g hy.g,?_,?_,by omega⟩
 ·rw [e1,cntP_app,cntP_cons,cnt_par,cnt_par,hx.c,hy.c,hk]
  have:=cnt_is hp
  rw [hst] at this
  have q1:=cnt2_add (toks:=toks) (a:=a) (b:=b) (c:=c) (by omega) (by omega)
  have q2:=cnt2_add (toks:=toks) (a:=b) (b:=b + 1) (c:=c) (by omega) (by omega)
  omega
 ·rw [parW_own (show stI op <= stI (eop (twoD op x y)) from Int.le_refl _),e1]
  simp only [List.length_append,List.length_cons]
  have m1:=hx.m
  have m2:=hy.m
  omega
theorem Rdd.not {toks : List D} {x : D} {st : St} {b : Nat} (hp : isP toks st wNot = true) (hx : Rdd toks 2 x (st.1 + 1) b) : Rdd toks 2 (oneD wNot x) st.1 b:=by
 have hg:=good_one (op:=sNot) (.inr (.inl rfl)) hx.g
 have e1:=fun full=>tk_not (full:=full) hg rfl
 have hl:=hx.l
 refine ⟨hg,?_,?_,by omega⟩
 ·show cntP (tkC true (oneD sNot x)) = _
  rw [e1,cntP_cons,cnt_par,show sub0 (oneD sNot x) = x from rfl,hx.c]
  have q1:=cnt2_add (toks:=toks) (a:=st.1) (b:=st.1 + 1) (c:=b) (by omega) (by omega)
  rw [q1,cnt_is hp]
  rfl
 ·show (parW false (stI sNot) 2 (tkC false (oneD sNot x))).length <= _
  rw [parW_own (by decide),e1,show sub0 (oneD sNot x) = x from rfl]
  have m1:=hx.m
  simp only [List.length_cons];omega
theorem Rdd.neg {toks : List D} {x : D} {st : St} {b : Nat} (hp : isP toks st [45] = true) (hx : Rdd toks 6 x (st.1 + 1) b) : Rdd toks 6 (oneD wNeg x) st.1 b:=by
 have hg:=good_one (op:=sNeg) (.inr (.inr rfl)) hx.g
 have e1:=fun full=>tk_neg (full:=full) hg rfl
 have hl:=hx.l
 refine ⟨hg,?_,?_,by omega⟩
 ·show cntP (tkC true (oneD sNeg x)) = _
  rw [e1,cntP_cons,cnt_par,show sub0 (oneD sNeg x) = x from rfl,hx.c]
  have q1:=cnt2_add (toks:=toks) (a:=st.1) (b:=st.1 + 1) (c:=b) (by omega) (by omega)
  rw [q1,cnt_is hp]
  rfl
 ·show (parW false (stI sNeg) 6 (tkC false (oneD sNeg x))).length <= _
  rw [parW_own (by decide),e1,show sub0 (oneD sNeg x) = x from rfl]
  have m1:=hx.m
  simp only [List.length_cons];omega
end GP
namespace GP
open Go Go.Proofs
set_option maxRecDepth 100000
structure Itm (v : D) : Prop where
 b : litB v true = true
 o : one1 v = true
 l : leaf1 v = true
 r : isVr v
 c : cntP (litT1 v) = 0
end GP
namespace GP
open Go Go.Proofs
set_option maxRecDepth 100000
theorem good_ind {P : D -> Prop} (h : ∀ e,GoodE e -> (∀ x ∈ eps e,P x) -> P e) : ∀ e,GoodE e -> P e:=by
 have key : ∀ (n : Nat) (e : D),isE n e -> GoodE e -> P e:=by
  intro n
  induction n with
  | zero=>intro e he;exact he.elim
  | succ n ih=>intro e he hg;exact h e hg fun x hx=>ih x (isE_eps he x hx) (hg.parts.2.2.1 x hx)
 intro e hg
 obtain ⟨n,hn⟩:=hg.t
 exact key n e hn hg
def rgE : Nat -> D -> Prop
 | 0,_=>False
 | n + 1,e=>(∀ x ∈ vl (eV e),-(2 ^ 63) <= vi x /\ vi x < 2 ^ 63) /\ ∀ x ∈ eps e,rgE n x
def rgC (e : D) : Prop:=∃ n,rgE n e
theorem rgC.v {e : D} (h : rgC e) : ∀ x ∈ vl (eV e),-(2 ^ 63) <= vi x /\ vi x < 2 ^ 63:=by
 obtain ⟨n,hn⟩:=h
 cases n with
 | zero=>exact hn.elim
 | succ n=>exact hn.1
theorem rgC.p {e : D} (h : rgC e) : ∀ x ∈ eps e,rgC x:=by
 obtain ⟨n,hn⟩:=h
 cases n with
 | zero=>exact hn.elim
 | succ n=>exact fun x hx=>⟨n,hn.2 x hx⟩
end GP
namespace GP
open Go Go.Proofs Go.Proofs.YtainhmbnbgonhaaGreatDoor
open Go.ChangeShapes Go.WideShapes Go.ChangeAt Go.RowKit
set_option maxRecDepth 100000
theorem cells29 : Tryz.prog.cellsOf 29 = 4:=by kernel_rfl
theorem cells27 : Tryz.prog.cellsOf 27 = 1:=by kernel_rfl
theorem cells30 : Tryz.prog.cellsOf 30 = 1:=by kernel_rfl
theorem cells32 : Tryz.prog.cellsOf 32 = 8:=by kernel_rfl
theorem bytes29 : 1 <= Tryz.prog.bytesOf 29:=of_decide_eq_true (by kernel_rfl)
theorem bytes32 : 1 <= Tryz.prog.bytesOf 32:=of_decide_eq_true (by kernel_rfl)
def isVq (d : D) : Prop:=isVr d /\ ∀ x ∈ vl d,-(2 ^ 63) <= vi x /\ vi x < 2 ^ 63
theorem isLs_isVq {l : D} (h : isLs isVr l) (k i : Int) (s : List UInt8) (hs : s.length <= 2 ^ 47) (h1 : -(2 ^ 63) <= i) (h2 : i < 2 ^ 63) : isVq (D.agg [.int .i64 k,.int .i64 i,.str s,l]):=by
 obtain ⟨n,xs,rfl,hl,hx⟩:=h
 have hV : (D.agg [.int .i64 k,.int .i64 i,.str s,sliceD n xs]).isV = true:=isV_mk (k:=k) (i:=i) (n:=n) hs hl fun x hq=>(hx x hq).1
 refine ⟨⟨hV,h1,h2⟩,fun x hq=>?_⟩
 have hq : x ∈ vl (mkV k i s n xs):=hq
 rw [vl_mk] at hq
 exact (hx x hq).2
theorem rdV (W : World) : ∀ fuel,Rds Tryz.prog W 29 (fun ds=>isVq (D.agg ds)) fuel /\ Rds Tryz.prog W 27 (isLd isVr) fuel
 | 0=>⟨fun _ _ _ _ _ h _=>by simp [DataW.trod] at h,fun _ _ _ _ _ h _=>by simp [DataW.trod] at h⟩
 | fuel + 1=>by
  obtain ⟨h24,h22⟩:=rdV W fuel
  refine ⟨?_,?_⟩
  ·refine (rds_struct (P:=Tryz.prog) (w:=W) (φs:=[fun ds=>∃ n,ds = [.int .i64 n] /\ IntKind.i64.min <= n /\ n <= IntKind.i64.max,fun ds=>∃ n,ds = [.int .i64 n] /\ IntKind.i64.min <= n /\ n <= IntKind.i64.max,fun ds=>∃ l,ds = [.str l] /\ l.length <= 2 ^ 47,isLd isVr]) Tryz.underlying29 rfl ?_ ?_ ?_).imp ?_
   ·simp only [FldsOf,cells3,cells2,cells9,and_self,and_true,Nat.zero_add,Nat.reduceAdd]
   ·simp only [List.map_cons,List.map_nil,cells3,cells2,cells9,cells27,cells29];rfl
   ·intro i f φ e1 e2
    match i with
    | 0=>simp at e1 e2;subst e1;subst e2;exact rds_int Tryz.underlying3 fuel
    | 1=>simp at e1 e2;subst e1;subst e2;exact rds_int Tryz.underlying2 fuel
    | 2=>simp at e1 e2;subst e1;subst e2;exact rds_string Tryz.underlying9 fuel
    | 3=>simp at e1 e2;subst e1;subst e2;exact h22
    | i + 4=>simp at e1
   ·rintro ds ⟨x1,y1,rfl,⟨k,rfl,_⟩,x2,y2,rfl,⟨i,rfl,i1,i2⟩,x3,y3,rfl,⟨s,rfl,hs⟩,x4,y4,rfl,⟨l,rfl,hl⟩,rfl⟩
    rw [i64min] at i1;rw [i64max] at i2
    exact isLs_isVq hl k i s hs (by omega) (by omega)
  ·exact (rds_slice (P:=Tryz.prog) (w:=W) (mk:=D.agg) (fun _=>rfl) (sz:=4) (by decide) Tryz.underlying27 cells29 bytes29 h24).imp fun ds hd=>isLd_of (fun x (hx : isVq (D.agg x))=>hx.1) hd
theorem isVr_cells {x : List D} (h : isVr (D.agg x)) : ∃ k i s n l,x = [.int .i64 k,.int .i64 i,.str s,sliceD n l] /\ isVr (mkV k i s n l):=by
 obtain ⟨k,i,s,n,l,e,_⟩:=isV_elim h.1
 have : x = [.int .i64 k,.int .i64 i,.str s,sliceD n l]:=by unfold mkV at e;injection e
 subst this
 exact ⟨k,i,s,n,l,rfl,h⟩
def isEq' (n : Nat) (x : D) : Prop:=isE n x /\ rgE n x
theorem isEq'_mono {n : Nat} {x : D} (h : isEq' n x) : isEq' (n + 1) x:=by
 refine ⟨isE_mono h.1,?_⟩
 have key : ∀ (n : Nat) (e : D),rgE n e -> rgE (n + 1) e:=by
  intro n
  induction n with
  | zero=>intro e h;exact h.elim
  | succ n ih=>intro e h;exact ⟨h.1,fun x hx=>ih x (h.2 x hx)⟩
 exact key n x h.2
theorem rdE (W : World) : ∀ fuel,Rds Tryz.prog W 32 (fun ds=>isEq' fuel (D.agg ds)) fuel /\ Rds Tryz.prog W 30 (isLd (isEq' fuel)) fuel
 | 0=>⟨fun _ _ _ _ _ h _=>by simp [DataW.trod] at h,fun _ _ _ _ _ h _=>by simp [DataW.trod] at h⟩
 | fuel + 1=>by
  obtain ⟨hs,hl⟩:=rdE W fuel
  refine ⟨?_,?_⟩
  ·refine (rds_struct (P:=Tryz.prog) (w:=W) (φs:=[fun ds=>∃ l,ds = [.str l] /\ l.length <= 2 ^ 47,fun ds=>isVq (D.agg ds),fun ds=>∃ l,ds = [.str l] /\ l.length <= 2 ^ 47,fun ds=>∃ l,ds = [.str l] /\ l.length <= 2 ^ 47,isLd (isEq' fuel)]) Tryz.underlying32 rfl ?_ ?_ ?_).imp ?_
   ·simp only [FldsOf,cells9,cells29,and_self,and_true,Nat.zero_add,Nat.reduceAdd]
   ·simp only [List.map_cons,List.map_nil,cells9,cells29,cells30,cells32];rfl
   ·intro i f φ e1 e2
    match i with
    | 0=>simp at e1 e2;subst e1;subst e2;exact rds_string Tryz.underlying9 fuel
    | 1=>simp at e1 e2;subst e1;subst e2;exact (rdV W fuel).1
    | 2=>simp at e1 e2;subst e1;subst e2;exact rds_string Tryz.underlying9 fuel
    | 3=>simp at e1 e2;subst e1;subst e2;exact rds_string Tryz.underlying9 fuel
    | 4=>simp at e1 e2;subst e1;subst e2;exact hl
    | i + 5=>simp at e1
   ·rintro ds ⟨x1,y1,rfl,⟨op,rfl,h1⟩,x2,y2,rfl,h2,x3,y3,rfl,⟨who,rfl,h3⟩,x4,y4,rfl,⟨name,rfl,h4⟩,x5,y5,rfl,⟨l,rfl,m,ps,rfl,h5,h6⟩,rfl⟩
    obtain ⟨k,i,s,n,l,rfl,hv⟩:=isVr_cells h2.1
    refine ⟨⟨op,k,i,s,n,l,who,name,m,ps,rfl,h1,h3,h4,hv,h5,fun x hx=>(h6 x hx).1⟩,?_⟩
    show rgE (fuel + 1) (mkE op k i s n l who name m ps)
    refine ⟨?_,?_⟩
    ·rw [eV_mk];exact h2.2
    ·rw [eps_mk];exact fun x hx=>(h6 x hx).2
  ·exact (rds_slice (P:=Tryz.prog) (w:=W) (mk:=D.agg) (fun _=>rfl) (sz:=8) (by decide) Tryz.underlying30 cells32 bytes32 hs).imp fun ds hd=>isLd_of (fun x (hx : isEq' fuel (D.agg x))=>isEq'_mono hx) hd
end GP
namespace GP
open Go Go.Proofs
set_option maxRecDepth 100000
def wTruthW : List UInt8:=[116,114,117,116,104]
def wNumberW : List UInt8:=[110,117,109,98,101,114]
def wTextW : List UInt8:=[116,101,120,116]
def wTimeW : List UInt8:=[116,105,109,101]
def wBagW : List UInt8:=[98,97,103]
end GP
namespace GP
open Go Go.Proofs
set_option maxRecDepth 100000
def wDuty : List UInt8:=[100,117,116,121]
def wAdvice : List UInt8:=[97,100,118,105,99,101]
end GP
namespace GP
open Go Go.Proofs
set_option maxRecDepth 100000
theorem strs_erase (l : List (List UInt8)) : D.eraseL (l.map D.str) = l.map D.str:=eraseL_id fun x hx=>by
 obtain ⟨s,_,rfl⟩:=List.mem_map.1 hx;rfl
end GP
namespace GP
open Go Go.Proofs
set_option maxRecDepth 100000
def wPermit : List UInt8:=[112,101,114,109,105,116]
def wDeny : List UInt8:=[100,101,110,121]
def wIf : List UInt8:=[105,102]
end GP
namespace GP
open Go Go.Proofs
set_option maxRecDepth 100000
def wBy : List UInt8:=[98,121]
def wUse : List UInt8:=[117,115,101]
def wFor : List UInt8:=[102,111,114]
end GP
namespace GP
open Go Go.Proofs
set_option maxRecDepth 100000
def wFact : List UInt8:=[102,97,99,116]
def wPolicy : List UInt8:=[112,111,108,105,99,121]
end GP
namespace GP
open Go Go.Proofs
set_option maxRecDepth 100000
def isTxs (l : D) : Prop:=∃ (m : Bool) (xs : List (List UInt8)),l = sliceD m (xs.map D.str) /\ xs.length <= 2 ^ 47 /\ ∀ s ∈ xs,s.length <= 2 ^ 47
def txs (l : D) : List (List UInt8):=(elems l).map strB
theorem txs_mk (m : Bool) (xs : List (List UInt8)) : txs (sliceD m (xs.map D.str)) = xs:=by
 unfold txs
 rw [elems_sliceD,List.map_map]
 have : (strB ∘ D.str) = id:=rfl
 rw [this,List.map_id]
def txtB (s : List UInt8) : Bool:=formI 3 s 0
open Classical in
noncomputable def φtexts : List D -> Option D
 | [l]=>if isTxs l then some (.bool ((txs l).all txtB)) else none
 | _=>none
set_option maxHeartbeats 1000000 in
theorem ok67 : OkAt Tryz.prog 67 φtexts:=by
 refine ok_of (l:=[(57,φform)]) (.cons ok57 .nil) fn67 fun args r h=>?_
 unfold φtexts at h
 split at h
 ·rename_i l
  split at h
  ·rename_i hc
   injection h with h;subst h
   obtain ⟨m,xs,rfl,hl,hs⟩:=hc
   rw [txs_mk]
   refine ⟨by simp,by simp [D.cl],fun H T=>?_⟩
   simp +contextual (maxSteps:=10000000) only [c67,go_sem]
   refine W_for (fun j s'=>s'.t 0 = sliceD m (xs.map D.str) /\ s'.t 3 = .int .i64 j /\ s'.H = H /\ s'.T = T /\ j <= xs.length /\ (xs.take j).all txtB = true) xs.length ⟨0,by simp [upd,argT]⟩ (fun i s h=>h.2.2.2.2.1) ?_ (XL_mono _)
   rintro j ⟨t1,B,T'⟩ ⟨r0,r3,rfl,rfl,hj,hc⟩
   simp only at r0 r3
   by_cases ha : j < xs.length
   ·have d1 : decide ((j : Int) < ((xs.map D.str).length : Nat)) = true:=by simpa using ha
    have ex : xs[j]? = some xs[j]:=by simp [ha]
    have ey : (xs.map D.str)[j]? = some (.str xs[j]):=by rw [List.getElem?_map,ex];rfl
    have nx:=fun hp=>all_nx' (p:=txtB) ex hc hp
    have no:=fun hp=>all_no' (p:=txtB) ex hp
    have hsx:=hs _ (List.getElem_mem ha)
    obtain ⟨x,hx⟩ : ∃ x,xs[j] = x:=⟨_,rfl⟩
    rw [hx] at ex ey nx no hsx
    have px : φform [.agg [.int .i64 3,.str x,.int .i64 0]] = some (.bool (txtB x)):=by simp only [φform];rw [if_pos (by omega)];rfl
    obtain ⟨xb,hxb⟩ : ∃ z,txtB x = z:=⟨_,rfl⟩
    simp only [hxb] at px nx no
    rw [List.length_map] at d1
    cases xb with
    | true =>
     have nx:=nx rfl
     simp +contextual (maxSteps:=10000000) only [r0,r3,d1,ey,px,List.length_map,wrap_succ j (by omega),go_sem]
     exact ⟨by omega,nx⟩
    | false =>
     have no:=no rfl
     simp +contextual (maxSteps:=10000000) only [r0,r3,d1,ey,px,List.length_map,no,go_sem]
   ·have d1 : decide ((j : Int) < xs.length) = false:=by simpa using ha
    have : j = xs.length:=by omega
    subst this
    rw [List.take_length] at hc
    simp +contextual (maxSteps:=10000000) only [r0,r3,d1,List.length_map,hc,go_sem]
  ·cases h
 ·cases h
noncomputable def optB (b : Bool) (e : D) : Bool:=if b then fmR nodeB e && decide (dpt nodeB e <= 12) else sameE nodeB e zeroE
open Classical in
noncomputable def φopt : List D -> Option D
 | [.bool b,e]=>if isE nodeB e then some (.bool (optB b e)) else none
 | _=>none
theorem zero_isE : isE nodeB zeroE:=isE_le (lvB_1 10000) (isE_of (m:=0) (op:=[]) (k:=0) (i:=0) (s:=[]) (nl:=true) (l:=[]) (who:=[]) (name:=[]) (q:=true) (ps:=[]) (by simp) (by simp) (by simp) zero_isVr (by simp) (fun z hz=>by cases hz))
theorem ok66 : OkAt Tryz.prog 66 φopt:=by
 refine ok_of (l:=[(20,φsmE nodeB),(21,φfmR nodeB),(22,φdpt nodeB)]) (.cons (ok20 nodeB) (.cons (ok21 nodeB) (.cons (ok22 nodeB nodeB_le) .nil))) fn66 fun args r h=>?_
 unfold φopt at h
 split at h
 ·rename_i b e
  split at h
  ·rename_i he
   injection h with h;subst h
   refine ⟨by simp,by simp [D.cl],fun H T=>?_⟩
   have ee:=isE_erase he
   obtain ⟨q1,q2,q3,q4⟩:=isE_cells he
   have p1 : φsmE nodeB [e,zeroE] = some (.bool (sameE nodeB e zeroE)):=by simp only [φsmE];rw [if_pos ⟨he,zero_isE⟩]
   have p2 : φfmR nodeB [e] = some (.bool (fmR nodeB e)):=by simp only [φfmR];rw [if_pos he]
   have p3 : φdpt nodeB [e] = some (.int .i64 ((dpt nodeB e : Nat) : Int)):=by simp only [φdpt];rw [if_pos he]
   have p4 : decide (((dpt nodeB e : Nat) : Int) <= 12) = decide (dpt nodeB e <= 12):=by rw [decide_eq_decide];omega
   unfold optB
   obtain ⟨s,hs⟩ : ∃ z,sameE nodeB e zeroE = z:=⟨_,rfl⟩
   obtain ⟨f,hf⟩ : ∃ z,fmR nodeB e = z:=⟨_,rfl⟩
   obtain ⟨dp,hdp⟩ : ∃ z,dpt nodeB e = z:=⟨_,rfl⟩
   rw [hs] at p1 ⊢;rw [hf] at p2 ⊢;rw [hdp] at p3 p4 ⊢
   simp only [zeroE] at p1
   cases b with
   | false=>simp +contextual (maxSteps:=10000000) only [c66,ee,q1,q2,q3,q4,p1,go_sem]
   | true =>
    cases f with
    | false=>simp +contextual (maxSteps:=10000000) only [c66,ee,q1,q2,q3,q4,p2,go_sem]
    | true=>simp +contextual (maxSteps:=10000000) only [c66,ee,q1,q2,q3,q4,p2,p3,p4,go_sem]
  ·cases h
 ·cases h
end GP
namespace GP
open Go Go.Proofs
set_option maxRecDepth 100000
theorem bagL_mono {toks : List D} : ∀ (f g : Nat) (out : List D) (st : St) (r : List D × St),f <= g -> bagL toks f out st = some r -> bagL toks g out st = some r
 | 0,_,_,_,_,_,h=>by simp [bagL] at h
 | f + 1,0,_,_,_,hl,_=>by omega
 | f + 1,g + 1,out,st,r,hl,h=>by
  simp only [bagL] at h ⊢
  split at h
  ·rename_i q;rw [if_pos q];exact bagL_mono f g _ _ r (by omega) h
  ·rename_i q;rw [if_neg q];exact h
theorem bagP_mono {toks : List D} {f g fr : Nat} {st : St} {r : D × St} (hl : f <= g) (h : bagP toks f fr st = some r) : bagP toks g fr st = some r:=by
 unfold bagP at h ⊢
 split at h
 ·cases h
 ·rename_i out st1 hb
  rw [bagL_mono f g _ _ _ hl hb];exact h
def partM (P Q : Part) : Prop:=∀ toks st r,P toks st = some r -> Q toks st = some r
theorem rowL_mono {P Q : Part} (hP : partM P Q) {toks : List D} {bs : List (List UInt8)} : ∀ (f g : Nat) (x : D) (st : St) (r : D × St),f <= g -> rowL toks P bs f x st = some r -> rowL toks Q bs g x st = some r
 | 0,_,_,_,_,_,h=>by simp [rowL] at h
 | f + 1,0,_,_,_,hl,_=>by omega
 | f + 1,g + 1,x,st,r,hl,h=>by
  simp only [rowL] at h ⊢
  split at h
  ·rename_i q;rw [if_pos q];exact h
  ·rename_i q;rw [if_neg q]
   split at h
   ·exact h
   ·split at h
    ·cases h
    ·rename_i y st2 hy
     rw [hP _ _ _ hy]
     exact rowL_mono hP f g _ st2 r (by omega) h
theorem rowP_mono {P Q : Part} (hP : partM P Q) {toks : List D} {bs : List (List UInt8)} {f g : Nat} (hl : f <= g) {st : St} {r : D × St} (h : rowP toks P bs f st = some r) : rowP toks Q bs g st = some r:=by
 unfold rowP at h ⊢
 split at h
 ·cases h
 ·rename_i x st1 hx
  rw [hP _ _ _ hx]
  exact rowL_mono hP f g x st1 r hl h
theorem oneS_mono {op : List UInt8} {z z' : Option (D × St)} {r : D × St} (hz : ∀ r,z = some r -> z' = some r) (h : oneS op z = some r) : oneS op z' = some r:=by
 cases z with
 | none=>cases h
 | some z=>rw [hz _ rfl];exact h
theorem lv_mono : ∀ (f g : Nat) (lv : Lv),f <= g -> partM (pLv f lv) (pLv g lv)
 | 0,_,_,_,_,_,_,h=>by cases h
 | f + 1,0,_,hl,_,_,_,_=>by omega
 | f + 1,g + 1,lv,hl,toks,st,r,h=>by
  have hl : f <= g:=by omega
  have M:=fun lv=>lv_mono f g lv hl
  cases lv with
  | expr=>exact rowP_mono (M .and) hl h
  | and=>exact rowP_mono (M .not) hl h
  | sum=>exact rowP_mono (M .prod) hl h
  | prod=>exact rowP_mono (M .unary) hl h
  | not =>
   simp only [pLv] at h ⊢
   split at h
   ·rename_i q;rw [if_pos q];exact oneS_mono (fun r hr=>M .not _ _ r hr) h
   ·rename_i q;rw [if_neg q];exact M .cmp _ _ r h
  | unary =>
   simp only [pLv] at h ⊢
   split at h
   ·rename_i q;rw [if_pos q];exact oneS_mono (fun r hr=>M .unary _ _ r hr) h
   ·rename_i q;rw [if_neg q];exact M .plain _ _ r h
  | cmp =>
   simp only [pLv] at h ⊢
   obtain ⟨z,hz⟩ : ∃ z,pLv f .sum toks st = z:=⟨_,rfl⟩
   rw [hz] at h
   cases z with
   | none=>cases h
   | some z =>
    obtain ⟨x,st1⟩:=z
    rw [M .sum _ _ _ hz]
    simp only [cmpS2] at h ⊢
    split at h
    ·exact h
    ·split at h
     ·cases h
     ·rename_i y st2 hy
      rw [M .sum _ _ _ hy];exact h
  | inner =>
   simp only [pLv] at h ⊢
   obtain ⟨z,hz⟩ : ∃ z,pLv f .expr toks (mustP toks [40] st) = z:=⟨_,rfl⟩
   rw [hz] at h
   cases z with
   | none=>cases h
   | some z=>rw [M .expr _ _ _ hz];exact h
  | plain =>
   simp only [pLv,plainP] at h ⊢
   split at h
   ·rename_i q;rw [if_pos q];exact h
   ·rename_i q;rw [if_neg q]
    split at h
    ·rename_i q;rw [if_pos q];exact h
    ·rename_i q;rw [if_neg q]
     split at h
     ·rename_i q;rw [if_pos q];exact M .inner _ _ r h
     ·rename_i q;rw [if_neg q]
      split at h
      ·rename_i q;rw [if_pos q];exact bagP_mono hl h
      ·rename_i q;rw [if_neg q]
       split at h
       ·rename_i q;rw [if_pos q];exact oneS_mono (fun r hr=>M .inner _ _ r hr) h
       ·rename_i q;rw [if_neg q];exact h
def Pr (lv : Lv) (toks : List D) (st : St) (r : D × St) : Prop:=∃ f,pLv f lv toks st = some r
def Rw (lv : Lv) (bs : List (List UInt8)) (toks : List D) (x : D) (st : St) (r : D × St) : Prop:=∃ f,rowL toks (pLv f lv) bs f x st = some r
section
variable {toks : List D} {st st1 st2 : St} {x y : D} {r : D × St} {lv : Lv} {bs : List (List UInt8)} {w : List UInt8}
theorem Rw.stop (h : firstP toks st bs = none) : Rw lv bs toks x st (x,st):=⟨1,by
 simp only [rowL];rw [h];simp⟩
theorem Rw.step (h0 : st.2 = 0) (h : firstP toks st bs = some w) (hy : Pr lv toks (st.1 + 1,0) (y,st2)) (hr : Rw lv bs toks (twoD w x y) st2 r) : Rw lv bs toks x st r:=by
 obtain ⟨f,hf⟩:=hy
 obtain ⟨g,hg⟩:=hr
 refine ⟨max f g + 1,?_⟩
 simp only [rowL]
 rw [if_neg (by rw [h0];decide),h]
 simp only
 rw [h0,lv_mono f (max f g + 1) lv (by omega) _ _ _ hf]
 simp only
 exact rowL_mono (lv_mono g (max f g + 1) lv (by omega)) g (max f g) _ _ _ (by omega) hg
theorem row_of {lv' : Lv} (e : ∀ f,pLv (f + 1) lv' = fun toks st=>rowP toks (pLv f lv) bs f st) (hx : Pr lv toks st (x,st1)) (hr : Rw lv bs toks x st1 r) : Pr lv' toks st r:=by
 obtain ⟨f,hf⟩:=hx
 obtain ⟨g,hg⟩:=hr
 refine ⟨max f g + 1,?_⟩
 rw [e]
 simp only [rowP]
 rw [lv_mono f (max f g) lv (by omega) _ _ _ hf]
 simp only
 exact rowL_mono (lv_mono g (max f g) lv (by omega)) g (max f g) _ _ _ (by omega) hg
theorem Pr.expr (hx : Pr .and toks st (x,st1)) (hr : Rw .and [wOr] toks x st1 r) : Pr .expr toks st r:=row_of (fun _=>rfl) hx hr
theorem Pr.and (hx : Pr .not toks st (x,st1)) (hr : Rw .not [wAnd] toks x st1 r) : Pr .and toks st r:=row_of (fun _=>rfl) hx hr
theorem Pr.sum (hx : Pr .prod toks st (x,st1)) (hr : Rw .prod [[43],[45]] toks x st1 r) : Pr .sum toks st r:=row_of (fun _=>rfl) hx hr
theorem Pr.prod (hx : Pr .unary toks st (x,st1)) (hr : Rw .unary [[42]] toks x st1 r) : Pr .prod toks st r:=row_of (fun _=>rfl) hx hr
theorem Pr.not1 (h0 : st.2 = 0) (g : isP toks st wNot = true) (h : Pr .not toks (st.1 + 1,0) (x,st1)) : Pr .not toks st (oneD wNot x,st1):=by
 obtain ⟨f,hf⟩:=h
 refine ⟨f + 1,?_⟩
 simp only [pLv]
 rw [if_pos g,h0,hf];rfl
theorem Pr.not0 (g : isP toks st wNot = false) (h : Pr .cmp toks st r) : Pr .not toks st r:=by
 obtain ⟨f,hf⟩:=h
 refine ⟨f + 1,?_⟩
 simp only [pLv]
 rw [if_neg (by rw [g];decide)];exact hf
theorem Pr.neg1 (h0 : st.2 = 0) (g : isP toks st [45] = true) (h : Pr .unary toks (st.1 + 1,0) (x,st1)) : Pr .unary toks st (oneD wNeg x,st1):=by
 obtain ⟨f,hf⟩:=h
 refine ⟨f + 1,?_⟩
 simp only [pLv]
 rw [if_pos g,h0,hf];rfl
theorem Pr.neg0 (g : isP toks st [45] = false) (h : Pr .plain toks st r) : Pr .unary toks st r:=by
 obtain ⟨f,hf⟩:=h
 refine ⟨f + 1,?_⟩
 simp only [pLv]
 rw [if_neg (by rw [g];decide)];exact hf
theorem Pr.cmp0 (h : Pr .sum toks st (x,st1)) (g : firstP toks st1 cmpW = none) : Pr .cmp toks st (x,st1):=by
 obtain ⟨f,hf⟩:=h
 refine ⟨f + 1,?_⟩
 simp only [pLv]
 rw [hf];simp only [cmpS2];rw [g]
theorem Pr.cmp1 (h : Pr .sum toks st (x,st1)) (h0 : st1.2 = 0) (g : firstP toks st1 cmpW = some w) (k : Pr .sum toks (st1.1 + 1,0) (y,st2)) : Pr .cmp toks st (twoD w x y,st2):=by
 obtain ⟨f,hf⟩:=h
 obtain ⟨g',hg⟩:=k
 refine ⟨max f g' + 1,?_⟩
 simp only [pLv]
 rw [lv_mono f (max f g') .sum (by omega) _ _ _ hf]
 simp only [cmpS2];rw [g]
 simp only
 rw [h0,lv_mono g' (max f g') .sum (by omega) _ _ _ hg]
theorem Pr.inner (h : Pr .expr toks (mustP toks [40] st) (x,st1)) : Pr .inner toks st (x,mustP toks [41] st1):=by
 obtain ⟨f,hf⟩:=h
 refine ⟨f + 1,?_⟩
 simp only [pLv]
 rw [hf];rfl
end
theorem Pr.fuel {toks : List D} {r : D × St} (h : toks.length <= 600) (hr : Pr .expr toks (0,0) r) : pLv 10000 .expr toks (0,0) = some r:=by
 obtain ⟨x,st,hp⟩:=expr_tot toks h
 obtain ⟨f,hf⟩:=hr
 have h1:=lv_mono f (max f 10000) .expr (by omega) _ _ _ hf
 have h2:=lv_mono 10000 (max f 10000) .expr (by omega) _ _ _ hp
 rw [h1] at h2
 rw [hp,← Option.some.inj h2]
end GP
namespace GP
open Go Go.Proofs
set_option maxRecDepth 100000
def Seg (toks : List D) (a : Nat) (l : List D) : Prop:=∀ i t,l[i]? = some t -> toks[a + i]? = some t
section
variable {toks : List D} {a : Nat} {l m : List D} {t : D}
theorem Seg.fst (h : Seg toks a (l ++ m)) : Seg toks a l:=fun i t ht=>h i t (by rw [List.getElem?_append_left (lt_of_get ht)];exact ht)
theorem Seg.snd (h : Seg toks a (l ++ m)) : Seg toks (a + l.length) m:=fun i t ht=>by
 have:=h (l.length + i) t (by rw [List.getElem?_append_right (by omega),show l.length + i - l.length = i by omega];exact ht)
 rw [Nat.add_assoc];exact this
theorem Seg.hd (h : Seg toks a (t :: l)) : toks[a]? = some t:=h 0 t rfl
theorem Seg.tl (h : Seg toks a (t :: l)) : Seg toks (a + 1) l:=fun i u hu=>by
 have:=h (i + 1) u hu
 rw [show a + 1 + i = a + (i + 1) by omega];exact this
theorem now_of (h : toks[a]? = some t) (hf : formT t = true) : nowS toks (a,0) = t:=by
 unfold nowS nowP
 rw [if_neg (show ¬ ((0 : Int) != 0) = true by decide),h]
 simp only
 rw [if_pos hf]
theorem form_sign {w : List UInt8} (h : isSign w = true) : formT (mkT 5 w 0) = true:=by
 show formI 5 w 0 = true
 unfold formI;rw [h];rfl
theorem is_sgn {w : List UInt8} (h : toks[a]? = some (mkT 5 w 0)) (hw : isSign w = true) (u : List UInt8) : isP toks (a,0) u = (w == u):=by
 unfold isP;rw [now_of h (form_sign hw)];rfl
theorem must_of {w : List UInt8} (h : isP toks (a,0) w = true) : mustP toks w (a,0) = (a + 1,0):=by unfold mustP;rw [if_pos h]
end
structure Cn (y v : D) : Prop where
 c : can y = can v
 l : vl y = []
theorem Cn.one {y v : D} (h : Cn y v) (hv : one1 v = true) : one1 y = true:=by
 have h1:=one1_can hv
 rw [<- h.c] at h1
 unfold one1 at h1 ⊢
 rw [can_vk,can_vi,can_vs,can_vl] at h1
 rw [h.l];exact h1
theorem Cn.k {y v : D} (h : Cn y v) : vk y = vk v:=by have:=congrArg vk h.c;rwa [can_vk,can_vk] at this
theorem Cn.i {y v : D} (h : Cn y v) : vi y = vi v:=by have:=congrArg vi h.c;rwa [can_vi,can_vi] at this
theorem Cn.s {y v : D} (h : Cn y v) : vs y = vs v:=by have:=congrArg vs h.c;rwa [can_vs,can_vs] at this
structure Elt (v : D) : Prop where
 o : one1 v = true
 b : litB v true = true
 r : vi v < 2 ^ 63
end GP
namespace GP
open Go Go.Proofs
set_option maxRecDepth 100000
section
variable {toks : List D} {st : St} {a : Nat} {w : List UInt8}
def Nxt (toks : List D) (st : St) (w : List UInt8) : Prop:=∀ u,isP toks st u = (w == u)
theorem Nxt.tk (h : Nxt toks st w) : GP.tk (nowS toks st) = 1 ∨ GP.tk (nowS toks st) = 5:=by
 have:=h w
 unfold isP at this
 simp only [beq_self_eq_true,Bool.and_eq_true,Bool.or_eq_true,beq_iff_eq] at this
 exact this.1
theorem Nxt.ne {u : List UInt8} (h : Nxt toks st w) (hu : (w == u) = false) : isP toks st u = false:=by rw [h,hu]
theorem Nxt.lit (h : Nxt toks st w) (h1 : (w == wTrue) = false) (h2 : (w == wFalse) = false) : (literalP toks st).2.1 = false:=by
 have hk:=h.tk
 have k2 : (GP.tk (nowS toks st) == 2) = false:=by rw [beq_eq_false_iff_ne];omega
 have k3 : (GP.tk (nowS toks st) == 3) = false:=by rw [beq_eq_false_iff_ne];omega
 have k4 : (GP.tk (nowS toks st) == 4) = false:=by rw [beq_eq_false_iff_ne];omega
 unfold literalP
 rw [k2,k3,k4,h.ne h1,h.ne h2];rfl
theorem Nxt.first (h : Nxt toks st w) : ∀ {ws : List (List UInt8)},w ∈ ws -> firstP toks st ws = some w
 | [],hw=>by cases hw
 | u :: r,hw=>by
  simp only [firstP,h u]
  cases g : w == u with
  | true=>simp only [if_true];rw [eq_of_beq' g]
  | false =>
   simp only [Bool.false_eq_true,if_false]
   refine h.first ?_
   rcases List.mem_cons.1 hw with rfl | hw
   ·rw [beq_self_eq_true] at g;cases g
   ·exact hw
theorem Nxt.plain (h : Nxt toks st w) (h1 : (w == wTrue) = false) (h2 : (w == wFalse) = false) (f : Nat) : pLv (f + 1) .plain toks st =
  if w == wNow then some (leafD wNow [] [],(st.1 + 1,st.2)) else
  if w == [40] then pLv f .inner toks st else
  if w == [91] then bagP toks f st.1 (st.1 + 1,st.2) else
  if w == wSize then oneS wSize (pLv f .inner toks (st.1 + 1,st.2)) else
  if w == wRole then some (leafD wRole [] (ts (kindP toks 3 (mustP toks [40] (st.1 + 1,st.2))).1),mustP toks [41] (kindP toks 3 (mustP toks [40] (st.1 + 1,st.2))).2) else
  if w == wHas then some (leafD wHas (attrP toks (mustP toks [40] (st.1 + 1,st.2))).1 (attrP toks (mustP toks [40] (st.1 + 1,st.2))).2.1,mustP toks [41] (attrP toks (mustP toks [40] (st.1 + 1,st.2))).2.2) else
  some (leafD wAttr (attrP toks st).1 (attrP toks st).2.1,(attrP toks st).2.2):=by
 simp only [pLv,plainP]
 rw [h.lit h1 h2,h wNow,h [40],h [91],h wSize,h wRole,h wHas]
 rfl
theorem nx_P (h : toks[a]? = some tP) : Nxt toks (a,0) [40]:=is_sgn h (by decide)
theorem nx_Q (h : toks[a]? = some tQ) : Nxt toks (a,0) [41]:=is_sgn h (by decide)
theorem Nxt.must (h : Nxt toks (a,0) w) : mustP toks w (a,0) = (a + 1,0):=must_of (by rw [h];simp)
end
theorem inB_mem2 {l : List (List UInt8)} {s : List UInt8} (h : inB l s = true) : s ∈ l:=by
 unfold inB at h
 obtain ⟨x,hx,e⟩:=List.any_eq_true.1 h
 have : x = s:=by simpa using e
 rw [<- this];exact hx
end GP
