import Derived.Test.YtainhmbnbgonhaaGreatDoorM12
import Derived.Test.YtainhmbnbgonhaaGreatDoorM13
set_option linter.unusedSimpArgs false
namespace GP
open Go Go.Proofs Go.Proofs.YtainhmbnbgonhaaGreatDoor
open Go.ChangeShapes Go.WideShapes Go.ChangeAt Go.RowKit
set_option maxRecDepth 100000
theorem cells3 : Tryz.prog.cellsOf 3 = 1:=by kernel_rfl
theorem cells2 : Tryz.prog.cellsOf 2 = 1:=by kernel_rfl
theorem cells9 : Tryz.prog.cellsOf 9 = 1:=by kernel_rfl
theorem i64min : IntKind.i64.min = -(2 ^ 63):=by decide
theorem i64max : IntKind.i64.max = 2 ^ 63 - 1:=by decide
def isLd (p : D -> Prop) (ds : List D) : Prop:=∃ l,ds = [l] /\ isLs p l
theorem isLd_of {mk : List D -> D} {φ : List D -> Prop} {p : D -> Prop} {sz : Nat} (h : ∀ x,φ x -> p (mk x)) {ds : List D} (hd : ds = [.nils] ∨ ∃ xs : List (List D),ds = [.sl none (xs.map mk)] /\ xs.length <= 2 ^ 47 /\ ∀ x ∈ xs,φ x /\ x.length = sz) : isLd p ds:=by
 rcases hd with rfl | ⟨xs,rfl,h1,h2⟩
 ·exact ⟨_,rfl,isLs_nils _⟩
 ·refine ⟨_,rfl,false,xs.map mk,rfl,by simpa using h1,fun x hx=>?_⟩
  obtain ⟨y,hy,rfl⟩:=List.mem_map.1 hx
  exact h _ (h2 y hy).1
end GP
namespace GP
open Go Go.Proofs
set_option maxRecDepth 100000
structure Step (toks : List D) (st st2 : St) : Prop where
 ok : (st.2 = 0 ∨ st.2 = 2) /\ st.1 <= toks.length -> (st2.2 = 0 ∨ st2.2 = 2) /\ st2.1 <= toks.length
 stuck : st.2 ≠ 0 -> st2 = st
 adv : st.2 = 0 -> st.1 <= st2.1
theorem Step.refl (toks : List D) (st : St) : Step toks st st:=⟨fun h=>h,fun _=>rfl,fun _=>Nat.le_refl _⟩
theorem Step.trans {toks : List D} {a b c : St} (h : Step toks a b) (k : Step toks b c) : Step toks a c :=
 ⟨fun q=>k.ok (h.ok q),fun q=>by have:=h.stuck q;rw [this] at k;rw [k.stuck q],fun q=>by
  have h1:=h.adv q
  by_cases hb : b.2 = 0
  ·exact Nat.le_trans h1 (k.adv hb)
  ·rw [k.stuck hb];exact h1⟩
theorem Step.e0 {toks : List D} {a b : St} (h : Step toks a b) (hb : b.2 = 0) : a.2 = 0:=by
 by_cases ha : a.2 = 0
 ·exact ha
 ·rw [h.stuck ha] at hb;exact hb
end GP
namespace GP
open Go Go.Proofs
set_option maxRecDepth 100000
def sbT (toks : List D) (a b : Nat) : List D:=(toks.take b).drop a
def cnt2 (toks : List D) (a b : Nat) : Nat:=cntP (sbT toks a b)
theorem cntP_app (l m : List D) : cntP (l ++ m) = cntP l + cntP m:=by simp [cntP,List.filter_append]
theorem sbT_add {toks : List D} {a b c : Nat} (h1 : a <= b) (h2 : b <= c) : sbT toks a c = sbT toks a b ++ sbT toks b c:=by
 unfold sbT
 have e : toks.take c = toks.take b ++ (toks.take c).drop b:=by
  have:=(List.take_append_drop b (toks.take c)).symm
  rwa [List.take_take,Nat.min_eq_left h2] at this
 rcases Nat.lt_or_ge (toks.take b).length a with hl | hl
 ·have hb : toks.length < b:=by
   rcases Nat.lt_or_ge toks.length b with h | h
   ·exact h
   ·rw [List.length_take,Nat.min_eq_left h] at hl;omega
  rw [List.drop_eq_nil_of_le (Nat.le_of_lt hl),List.take_of_length_le (by omega : toks.length <= c)]
  rw [List.length_take] at hl
  rw [List.drop_eq_nil_of_le (by omega),List.drop_eq_nil_of_le (by omega)];rfl
 ·conv=>lhs;rw [e]
  rw [List.drop_append_of_le_length hl]
theorem cnt2_add {toks : List D} {a b c : Nat} (h1 : a <= b) (h2 : b <= c) : cnt2 toks a c = cnt2 toks a b + cnt2 toks b c:=by
 unfold cnt2;rw [sbT_add h1 h2,cntP_app]
theorem cnt2_one {toks : List D} {a : Nat} {t : D} (h : toks[a]? = some t) : cnt2 toks a (a + 1) = if pkB t then 1 else 0:=by
 unfold cnt2 sbT
 have hl:=lt_of_get h
 rw [List.take_add_one,h,List.drop_append_of_le_length (by rw [List.length_take];omega),List.drop_eq_nil_of_le (by rw [List.length_take];omega)]
 unfold cntP
 simp only [Option.toList_some,List.nil_append,List.filter_cons,List.filter_nil]
 split <;> rfl
theorem now_at {toks : List D} {st : St} (h : tk (nowS toks st) ≠ 0) : st.2 = 0 /\ toks[st.1]? = some (nowS toks st) /\ formT (nowS toks st) = true:=by
 unfold nowS nowP at h ⊢
 split at h
 ·exact absurd rfl h
 ·rename_i he
  rw [if_neg he]
  split at h
  ·rename_i t ht
   split at h
   ·rename_i hf
    rw [if_pos hf]
    exact ⟨by simpa using he,ht,hf⟩
   ·exact absurd rfl h
  ·exact absurd rfl h
theorem is_at {toks : List D} {st : St} {w : List UInt8} (h : isP toks st w = true) : st.2 = 0 /\ toks[st.1]? = some (nowS toks st) /\ ts (nowS toks st) = w /\ ((tk (nowS toks st) = 1 /\ wordB w = true) ∨ (tk (nowS toks st) = 5 /\ isSign w = true)):=by
 unfold isP at h
 simp only [Bool.and_eq_true,Bool.or_eq_true,beq_iff_eq] at h
 obtain ⟨h1,h2⟩:=h
 obtain ⟨a1,a2,a3⟩:=now_at (toks:=toks) (st:=st) (by omega)
 refine ⟨a1,a2,h2,?_⟩
 unfold formT formI at a3
 rw [h2] at a3
 rcases h1 with h1 | h1
 ·rw [h1] at a3
  simp only [beq_self_eq_true,if_true,Bool.and_eq_true] at a3
  exact .inl ⟨h1,a3.1⟩
 ·rw [h1] at a3
  have : isSign w = true:=by
   revert a3
   simp only [show ((5 : Int) == 1) = false from rfl,show ((5 : Int) == 2) = false from rfl,show ((5 : Int) == 3) = false from rfl,show ((5 : Int) == 4) = false from rfl,Bool.false_eq_true,if_false,beq_self_eq_true,if_true,Bool.and_eq_true]
   exact fun h=>h.1
  exact .inr ⟨h1,this⟩
theorem pk_word {t : D} (h : tk t = 1) : pkB t = ((ts t != wTrue) && (ts t != wFalse)):=by
 unfold pkB;rw [h];simp
theorem pk_sign {t : D} (h : tk t = 5) : pkB t = ((ts t == [46]) || (ts t == [43]) || (ts t == [42]) || (ts t == [60]) || (ts t == [91])):=by
 unfold pkB;rw [h];simp
def pkW (w : List UInt8) : Nat:=if isSign w then (if ((w == [46]) || (w == [43]) || (w == [42]) || (w == [60]) || (w == [91])) then 1 else 0) else (if (w != wTrue) && (w != wFalse) then 1 else 0)
theorem word_sign {w : List UInt8} (h : wordB w = true) : isSign w = false:=by
 cases hs : isSign w with
 | false=>rfl
 | true =>
  have : w ∈ signsR:=by
   unfold isSign at hs
   obtain ⟨x,hx,he⟩:=List.any_eq_true.1 hs
   have : x = w:=by simpa using he
   rw [<- this];exact hx
  have key : ∀ w ∈ signsR,wordB w = false:=by decide
  rw [key w this] at h;cases h
theorem cnt_is {toks : List D} {st : St} {w : List UInt8} (h : isP toks st w = true) : cnt2 toks st.1 (st.1 + 1) = pkW w:=by
 obtain ⟨_,h2,h3,h4⟩:=is_at h
 rw [cnt2_one h2]
 unfold pkW
 rcases h4 with ⟨h4,h5⟩ | ⟨h4,h5⟩
 ·rw [pk_word h4,h3,word_sign h5];rfl
 ·rw [pk_sign h4,h3,h5];rfl
end GP
namespace GP
open Go Go.Proofs
set_option maxRecDepth 100000
theorem same_zero : sameB zeroV zeroV = true:=by decide
theorem fmTop_z {e : D} (hV : eV e = zeroV) (hw : ewho e = []) (hn : ename e = []) (g1 : (eop e == sVal) = false) (g3 : (eop e == sAttr) = false) (g4 : (eop e == sHas) = false) : (eop e == sRole) = false -> fmTop e = true:=by
 intro g5
 unfold fmTop
 rw [if_neg (by rw [g1];decide),hV,same_zero,if_neg (by decide),g3,g4,if_neg (by decide),if_neg (by rw [g5];decide),hw,hn]
 rfl
theorem good_two {op : List UInt8} {a b : D} (ho : op.length <= 2 ^ 47) (h : isOp2 op) (ha : GoodE a) (hb : GoodE b) : GoodE (twoD op a b):=by
 obtain ⟨g1,g2,g3,g4,g5,g6,g7,g8⟩:=op2_not h
 refine goodE_mk ?_ ?_ ?_ ?_ (fmTop_z rfl rfl rfl g1 g3 g4 g5)
 ·exact ⟨_,two_isE ho (isE_le (Nat.le_max_left _ _) ha.t.can) (isE_le (Nat.le_max_right _ _) hb.t.can)⟩
 ·show 0 <= stI op
  unfold isOp2 at h;omega
 ·show (([a,b] : List D).length : Int) = arN op
  rw [op2_ar h];rfl
 ·intro x hx
  have hx : x ∈ [a,b]:=hx
  simp only [List.mem_cons,List.not_mem_nil,or_false] at hx
  rcases hx with rfl | rfl
  ·exact ha
  ·exact hb
theorem tk_twoD {full : Bool} {op : List UInt8} {a b : D} (ho : op.length <= 2 ^ 47) (h : isOp2 op) (ha : GoodE a) (hb : GoodE b) : tkC full (twoD op a b) = parW full (stI (eop a)) (lstS op) (tkC full a) ++ (opTok op :: parW full (stI (eop b)) (stI op + 1) (tkC full b)) :=
 tk_two (good_two ho h ha hb) h
theorem good_one {op : List UInt8} {a : D} (h : op = sSize ∨ op = sNot ∨ op = sNeg) (ha : GoodE a) : GoodE (oneD op a):=by
 have hl : op.length <= 2 ^ 47:=by rcases h with rfl | rfl | rfl <;> decide
 refine goodE_mk ⟨_,one_isE hl ha.t.can⟩ ?_ ?_ ?_ (fmTop_z rfl rfl rfl ?_ ?_ ?_ ?_)
 ·show 0 <= stI op
  rcases h with rfl | rfl | rfl <;> decide
 ·show (1 : Int) = arN op
  rcases h with rfl | rfl | rfl <;> decide
 ·intro x hx
  have hx : x ∈ [a]:=hx
  rw [List.mem_singleton] at hx;subst hx;exact ha
 ·show (op == sVal) = false
  rcases h with rfl | rfl | rfl <;> decide
 ·show (op == sAttr) = false
  rcases h with rfl | rfl | rfl <;> decide
 ·show (op == sHas) = false
  rcases h with rfl | rfl | rfl <;> decide
 ·show (op == sRole) = false
  rcases h with rfl | rfl | rfl <;> decide
theorem valE_parts {v : D} (h : isVr v) : eop (valE v) = sVal /\ eV (valE v) = v /\ ewho (valE v) = [] /\ ename (valE v) = [] /\ eps (valE v) = []:=by
 obtain ⟨k,i,s,n,l,rfl,_⟩:=isV_elim h.1
 exact ⟨rfl,rfl,rfl,rfl,rfl⟩
theorem good_val {v : D} (hv : isVr v) (h : valB v = true) : GoodE (valE v):=by
 obtain ⟨e1,e2,e3,e4,e5⟩:=valE_parts hv
 refine goodE_mk ⟨_,val_isE hv⟩ (by rw [e1];decide) (by rw [e1,e5];decide) (fun x hx=>by rw [e5] at hx;cases hx) ?_
 unfold fmTop
 rw [e1,e2,e3,e4,if_pos (by decide),h];rfl
theorem tk_valE {full : Bool} {v : D} (hv : isVr v) (h : valB v = true) : tkC full (valE v) = litT v:=by
 obtain ⟨e1,e2,_⟩:=valE_parts hv
 rw [tk_val (good_val hv h) (by rw [e1];decide),e2]
structure Rdd (toks : List D) (s : Int) (x : D) (a b : Nat) : Prop where
 g : GoodE x
 c : cntP (tkC true x) = cnt2 toks a b
 m : (parW false (stI (eop x)) s (tkC false x)).length <= b - a
 l : a < b
theorem parW_f (s s' : Int) (l : List D) : parW false s s' l = if s' <= s then l else tP :: (l ++ [tQ]):=by
 unfold parW
 simp only [Bool.not_false,Bool.true_or,Bool.and_true,decide_eq_true_eq]
theorem parW_mono {s s1 s2 : Int} (h : s1 <= s2) (l : List D) : (parW false s s1 l).length <= (parW false s s2 l).length:=by
 rw [parW_f,parW_f]
 split <;> split <;> simp <;> omega
theorem parW_own {s s' : Int} (h : s' <= s) (l : List D) : parW false s s' l = l:=by rw [parW_f,if_pos h]
theorem cnt_par (full : Bool) (s s' : Int) (l : List D) : cntP (parW full s s' l) = cntP l:=by
 unfold parW
 split
 ·rfl
 ·have e : tP :: (l ++ [tQ]) = [tP] ++ l ++ [tQ]:=by simp
  rw [e,cntP_app,cntP_app]
  show 0 + cntP l + 0 = cntP l
  omega
theorem cntP_cons (t : D) (l : List D) : cntP (t :: l) = (if pkB t then 1 else 0) + cntP l:=by
 unfold cntP
 rw [List.filter_cons]
 split
 ·simp;omega
 ·simp
theorem Rdd.up {toks : List D} {s s2 : Int} {x : D} {a b : Nat} (h : Rdd toks s2 x a b) (hs : s <= s2) : Rdd toks s x a b :=
 ⟨h.g,h.c,Nat.le_trans (parW_mono hs _) h.m,h.l⟩
def ops2 : List (List UInt8):=[wOr,wAnd,[61,61],[33,61],[60],[60,61],[62],[62,61],[105,110],[43],[45],[42]]
theorem ops2_is {op : List UInt8} (h : op ∈ ops2) : isOp2 op /\ op.length <= 2 ^ 47 /\ (if pkB (opTok op) then 1 else 0) = pkW op:=by
 have key : ∀ op ∈ ops2,(stI op = 0 ∨ stI op = 1 ∨ stI op = 3 ∨ stI op = 4 ∨ stI op = 5) /\ op.length <= 2 ^ 47 /\ (if pkB (opTok op) then 1 else 0) = pkW op:=by decide
 exact key op h
theorem Rdd.two {toks : List D} {op : List UInt8} (h : op ∈ ops2) {x y : D} {a b c : Nat} {st : St} (hst : st.1 = b) (hp : isP toks st op = true) (hx : Rdd toks (lstS op) x a b) (hy : Rdd toks (stI op + 1) y (b + 1) c) : Rdd toks (stI op) (twoD op x y) a c:=by
 obtain ⟨h2,hl,hk⟩:=ops2_is h
 have e1:=fun full=>tk_twoD (full:=full) hl h2 hx.g hy.g
 have hlx:=hx.l
 have hly:=hy.l
 refine ⟨good_two hl h2 hx.g hy.g,?_,?_,by omega⟩
 ·rw [e1,cntP_app,cntP_cons,cnt_par,cnt_par,hx.c,hy.c,hk]
  have:=cnt_is hp
  rw [hst] at this
  have q1:=cnt2_add (toks:=toks) (a:=a) (b:=b) (c:=c) (by omega) (by omega)
  have q2:=cnt2_add (toks:=toks) (a:=b) (b:=b + 1) (c:=c) (by omega) (by omega)
  omega
 ·rw [parW_own (show stI op <= stI (eop (twoD op x y)) from Int.le_refl _),e1]
  simp only [List.length_append,List.length_cons]
  have m1:=hx.m
  have m2:=hy.m
  omega
theorem Rdd.not {toks : List D} {x : D} {st : St} {b : Nat} (hp : isP toks st wNot = true) (hx : Rdd toks 2 x (st.1 + 1) b) : Rdd toks 2 (oneD wNot x) st.1 b:=by
 have hg:=good_one (op:=sNot) (.inr (.inl rfl)) hx.g
 have e1:=fun full=>tk_not (full:=full) hg rfl
 have hl:=hx.l
 refine ⟨hg,?_,?_,by omega⟩
 ·show cntP (tkC true (oneD sNot x)) = _
  rw [e1,cntP_cons,cnt_par,show sub0 (oneD sNot x) = x from rfl,hx.c]
  have q1:=cnt2_add (toks:=toks) (a:=st.1) (b:=st.1 + 1) (c:=b) (by omega) (by omega)
  rw [q1,cnt_is hp]
  rfl
 ·show (parW false (stI sNot) 2 (tkC false (oneD sNot x))).length <= _
  rw [parW_own (by decide),e1,show sub0 (oneD sNot x) = x from rfl]
  have m1:=hx.m
  simp only [List.length_cons];omega
theorem Rdd.neg {toks : List D} {x : D} {st : St} {b : Nat} (hp : isP toks st [45] = true) (hx : Rdd toks 6 x (st.1 + 1) b) : Rdd toks 6 (oneD wNeg x) st.1 b:=by
 have hg:=good_one (op:=sNeg) (.inr (.inr rfl)) hx.g
 have e1:=fun full=>tk_neg (full:=full) hg rfl
 have hl:=hx.l
 refine ⟨hg,?_,?_,by omega⟩
 ·show cntP (tkC true (oneD sNeg x)) = _
  rw [e1,cntP_cons,cnt_par,show sub0 (oneD sNeg x) = x from rfl,hx.c]
  have q1:=cnt2_add (toks:=toks) (a:=st.1) (b:=st.1 + 1) (c:=b) (by omega) (by omega)
  rw [q1,cnt_is hp]
  rfl
 ·show (parW false (stI sNeg) 6 (tkC false (oneD sNeg x))).length <= _
  rw [parW_own (by decide),e1,show sub0 (oneD sNeg x) = x from rfl]
  have m1:=hx.m
  simp only [List.length_cons];omega
theorem Rdd.val {toks : List D} {v : D} {a b : Nat} {s : Int} (hs : s <= 7) (hv : isVr v) (h : valB v = true) (hc : cntP (litT v) = cnt2 toks a b) (hm : (litT v).length <= b - a) (hl : a < b) : Rdd toks s (valE v) a b:=by
 have e1:=fun full=>tk_valE (full:=full) hv h
 obtain ⟨e0,_⟩:=valE_parts hv
 refine ⟨good_val hv h,by rw [e1,hc],?_,hl⟩
 rw [e0,parW_own (by rw [show stI sVal = 7 by decide];exact hs),e1];exact hm
theorem litB_2 {v : D} {b : Bool} (h : vk v = 2) : litB v b = (decide (0 <= vi v) || (b && decide (-9223372036854775808 < vi v))):=by
 unfold litB;rw [if_pos (by rw [h];decide)]
theorem litB_o {v : D} {b : Bool} (h : vk v ≠ 2) : litB v b = ((vk v == 1) || (vk v == 4) || ((vk v == 3) && formI 3 (vs v) 0)):=by
 unfold litB;rw [if_neg (by simpa using h)]
theorem valB_o {v : D} (h : vk v ≠ 5) (h1 : one1 v = true) : valB v = litB v false:=by
 have hk : (vk v != 5) = true:=by simpa using h
 unfold valB formedB
 simp only [hk,if_true,h1,Bool.not_true,Bool.false_eq_true,if_false]
theorem lit_text {s : List UInt8} (h : formI 3 s 0 = true) : textV s = .agg [.int .i64 3,.int .i64 0,.str s,.nils] /\ valB (textV s) = true /\ litT (textV s) = [mkT 3 s 0] /\ litB (textV s) true = true /\ one1 (textV s) = true:=by
 have hl : s.length <= 64:=by
  unfold formI at h
  simp only [show ((3 : Int) == 1) = false from rfl,show ((3 : Int) == 2) = false from rfl,Bool.false_eq_true,if_false,beq_self_eq_true,if_true,Bool.and_eq_true,decide_eq_true_eq] at h
  omega
 have e : textV s = .agg [.int .i64 3,.int .i64 0,.str s,.nils]:=by
  unfold textV
  rw [Nat.min_eq_left hl,List.take_length]
 rw [e]
 have a : ∀ b,litB (.agg [.int .i64 3,.int .i64 0,.str s,.nils]) b = true:=fun b=>by
  rw [litB_o (fun e=>by cases e),show vs (.agg [.int .i64 3,.int .i64 0,.str s,.nils]) = s from rfl,h];rfl
 have b : one1 (.agg [.int .i64 3,.int .i64 0,.str s,.nils]) = true:=by
  show ((0 : Int) == 0 && decide ((s.length : Int) <= 64)) = true
  rw [show decide ((s.length : Int) <= 64) = true by simp only [decide_eq_true_eq];omega];rfl
 refine ⟨rfl,?_,rfl,a true,b⟩
 rw [valB_o (fun e=>by cases e) b,a]
end GP
namespace GP
open Go Go.Proofs
set_option maxRecDepth 100000
structure Itm (v : D) : Prop where
 b : litB v true = true
 o : one1 v = true
 l : leaf1 v = true
 r : isVr v
 c : cntP (litT1 v) = 0
theorem leaf1_litT {v : D} (h : leaf1 v = true) : litT v = litT1 v:=by unfold litT;rw [if_pos h]
theorem vk0_eq {xs : List D} {k : Int} (h : ∀ x ∈ xs,vk x = k) (hne : xs ≠ []) : vk0 xs = k:=by
 cases xs with
 | nil=>exact absurd rfl hne
 | cons x l=>exact h x (by simp)
end GP
namespace GP
open Go Go.Proofs
set_option maxRecDepth 100000
theorem good_ind {P : D -> Prop} (h : ∀ e,GoodE e -> (∀ x ∈ eps e,P x) -> P e) : ∀ e,GoodE e -> P e:=by
 have key : ∀ (n : Nat) (e : D),isE n e -> GoodE e -> P e:=by
  intro n
  induction n with
  | zero=>intro e he;exact he.elim
  | succ n ih=>intro e he hg;exact h e hg fun x hx=>ih x (isE_eps he x hx) (hg.parts.2.2.1 x hx)
 intro e hg
 obtain ⟨n,hn⟩:=hg.t
 exact key n e hn hg
theorem tokB_mk {k : Int} {s : List UInt8} {n : Int} (h : s.length <= 2 ^ 47) (hk : -(2 ^ 63) <= k /\ k < 2 ^ 63) (hn : -(2 ^ 63) <= n /\ n < 2 ^ 63) : tokB (mkT k s n) = true:=by
 simp only [tokB,mkT,Bool.and_eq_true,decide_eq_true_eq]
 exact ⟨⟨h,hk⟩,hn⟩
theorem wT {s : List UInt8} (h : s.length <= 2 ^ 47) : tokB (mkT 1 s 0) = true:=tokB_mk h (by decide) (by decide)
theorem sT {s : List UInt8} (h : s.length <= 2 ^ 47) : tokB (mkT 5 s 0) = true:=tokB_mk h (by decide) (by decide)
theorem tokB_litT1 {v : D} (h : v.isV = true) (hr : -(2 ^ 63) <= vi v /\ vi v < 2 ^ 63) : (litT1 v).all tokB = true:=by
 obtain ⟨k,i,s,n,l,rfl,hs,_⟩:=isV_elim h
 simp only [vi_mk] at hr
 unfold litT1
 simp only [vk_mk,vi_mk,vs_mk]
 refine List.all_eq_true.2 fun x hx=>?_
 (repeat' split at hx) <;> simp only [List.mem_cons,List.not_mem_nil,or_false] at hx
 ·rw [hx];exact wT (by decide)
 ·rw [hx];exact wT (by decide)
 ·rcases hx with hx | hx
  ·rw [hx];exact sT (by decide)
  ·rw [hx];exact tokB_mk (by simp) (by decide) (wrap_rng _)
 ·rw [hx];exact tokB_mk (by simp) (by decide) hr
 ·rw [hx];exact tokB_mk hs (by decide) (by decide)
 ·rw [hx];exact tokB_mk (by simp) (by decide) hr
theorem tokB_litT {v : D} (h : isVr v) (hb : valB v = true) (hl : ∀ x ∈ vl v,-(2 ^ 63) <= vi x /\ vi x < 2 ^ 63) : (litT v).all tokB = true:=by
 unfold litT
 split
 ·exact tokB_litT1 h.1 h.2
 ·obtain ⟨k,i,s,n,l,rfl,hs,_,hV⟩:=isV_elim h.1
  simp only [vl_mk] at hl ⊢
  refine List.all_eq_true.2 fun x hx=>?_
  simp only [List.mem_cons,List.mem_append,List.not_mem_nil,or_false] at hx
  rcases hx with rfl | hx | rfl
  ·exact sT (by decide)
  ·rcases cmL_mem hx with rfl | ⟨y,hy,hxy⟩
   ·exact sT (by decide)
   ·exact List.all_eq_true.1 (tokB_litT1 (hV y hy) (hl y hy)) x hxy
  ·exact sT (by decide)
def rgE : Nat -> D -> Prop
 | 0,_=>False
 | n + 1,e=>(∀ x ∈ vl (eV e),-(2 ^ 63) <= vi x /\ vi x < 2 ^ 63) /\ ∀ x ∈ eps e,rgE n x
def rgC (e : D) : Prop:=∃ n,rgE n e
theorem rgC.v {e : D} (h : rgC e) : ∀ x ∈ vl (eV e),-(2 ^ 63) <= vi x /\ vi x < 2 ^ 63:=by
 obtain ⟨n,hn⟩:=h
 cases n with
 | zero=>exact hn.elim
 | succ n=>exact hn.1
theorem rgC.p {e : D} (h : rgC e) : ∀ x ∈ eps e,rgC x:=by
 obtain ⟨n,hn⟩:=h
 cases n with
 | zero=>exact hn.elim
 | succ n=>exact fun x hx=>⟨n,hn.2 x hx⟩
theorem isE_len {n : Nat} {e : D} (h : isE n e) : (eop e).length <= 2 ^ 47 /\ (ewho e).length <= 2 ^ 47 /\ (ename e).length <= 2 ^ 47 /\ isVr (eV e):=by
 obtain ⟨op,k,i,t,nl,l,who,name,m,ps,rfl,h1,h2,h3,h4,_⟩:=isE_elim h
 exact ⟨h1,h2,h3,h4⟩
theorem parW_tokB {full : Bool} {s s' : Int} {l : List D} (h : l.all tokB = true) : (parW full s s' l).all tokB = true:=by
 unfold parW
 split
 ·exact h
 ·simp only [List.all_cons,List.all_append,h,List.all_nil,Bool.and_true,Bool.true_and,Bool.and_eq_true]
  exact ⟨sT (by decide),sT (by decide)⟩
theorem tkC_tokB {full : Bool} : ∀ e,GoodE e -> rgC e -> (tkC full e).all tokB = true:=by
 refine good_ind (P:=fun e=>rgC e -> (tkC full e).all tokB = true) fun e hg ih hr=>?_
 obtain ⟨l1,l2,l3,l4⟩:=isE_len hg.t.can
 rcases hg.op with g | g | g | g | g | g | g | g | g
 ·rw [tk_val hg g]
  exact tokB_litT l4 (fmTop_val hg.parts.2.2.2 g).1 hr.v
 ·rw [tk_now hg g];simp only [List.all_cons,List.all_nil,Bool.and_true];exact wT (by decide)
 ·rw [tk_attr hg g];simp only [List.all_cons,List.all_nil,Bool.and_true,Bool.and_eq_true];exact ⟨wT l2,sT (by decide),wT l3⟩
 ·rw [tk_has hg g];simp only [List.all_cons,List.all_nil,Bool.and_true,Bool.and_eq_true]
  exact ⟨wT (by decide),sT (by decide),wT l2,sT (by decide),wT l3,sT (by decide)⟩
 ·rw [tk_role hg g];simp only [List.all_cons,List.all_nil,Bool.and_true,Bool.and_eq_true]
  exact ⟨wT (by decide),sT (by decide),tokB_mk l3 (by decide) (by decide),sT (by decide)⟩
 ·obtain ⟨h1,x,hx,hs⟩:=hg.one (.inl g)
  have hm : sub0 e ∈ eps e:=by rw [hx,hs];simp
  rw [tk_size hg g]
  simp only [List.all_cons,List.all_append,ih _ hm (hr.p _ hm),List.all_nil,Bool.and_true,Bool.true_and,Bool.and_eq_true]
  exact ⟨wT (by decide),sT (by decide),sT (by decide)⟩
 ·obtain ⟨h1,x,hx,hs⟩:=hg.one (.inr (.inl g))
  have hm : sub0 e ∈ eps e:=by rw [hx,hs];simp
  rw [tk_not hg g,List.all_cons,parW_tokB (ih _ hm (hr.p _ hm)),Bool.and_true]
  exact wT (by decide)
 ·obtain ⟨h1,x,hx,hs⟩:=hg.one (.inr (.inr g))
  have hm : sub0 e ∈ eps e:=by rw [hx,hs];simp
  rw [tk_neg hg g,List.all_cons,parW_tokB (ih _ hm (hr.p _ hm)),Bool.and_true]
  exact sT (by decide)
 ·obtain ⟨h0,h1,m0,m1,_⟩:=hg.two g
  rw [tk_two hg g,List.all_append,List.all_cons,parW_tokB (ih _ m0 (hr.p _ m0)),parW_tokB (ih _ m1 (hr.p _ m1)),Bool.and_true,Bool.true_and]
  unfold opTok
  split
  ·exact wT l1
  ·exact sT l1
end GP
namespace GP
open Go Go.Proofs Go.Proofs.YtainhmbnbgonhaaGreatDoor
open Go.ChangeShapes Go.WideShapes Go.ChangeAt Go.RowKit
set_option maxRecDepth 100000
theorem cells29 : Tryz.prog.cellsOf 29 = 4:=by kernel_rfl
theorem cells27 : Tryz.prog.cellsOf 27 = 1:=by kernel_rfl
theorem cells30 : Tryz.prog.cellsOf 30 = 1:=by kernel_rfl
theorem cells32 : Tryz.prog.cellsOf 32 = 8:=by kernel_rfl
theorem bytes29 : 1 <= Tryz.prog.bytesOf 29:=of_decide_eq_true (by kernel_rfl)
theorem bytes32 : 1 <= Tryz.prog.bytesOf 32:=of_decide_eq_true (by kernel_rfl)
def isVq (d : D) : Prop:=isVr d /\ ∀ x ∈ vl d,-(2 ^ 63) <= vi x /\ vi x < 2 ^ 63
theorem isLs_isVq {l : D} (h : isLs isVr l) (k i : Int) (s : List UInt8) (hs : s.length <= 2 ^ 47) (h1 : -(2 ^ 63) <= i) (h2 : i < 2 ^ 63) : isVq (D.agg [.int .i64 k,.int .i64 i,.str s,l]):=by
 obtain ⟨n,xs,rfl,hl,hx⟩:=h
 have hV : (D.agg [.int .i64 k,.int .i64 i,.str s,sliceD n xs]).isV = true:=isV_mk (k:=k) (i:=i) (n:=n) hs hl fun x hq=>(hx x hq).1
 refine ⟨⟨hV,h1,h2⟩,fun x hq=>?_⟩
 have hq : x ∈ vl (mkV k i s n xs):=hq
 rw [vl_mk] at hq
 exact (hx x hq).2
theorem rdV (W : World) : ∀ fuel,Rds Tryz.prog W 29 (fun ds=>isVq (D.agg ds)) fuel /\ Rds Tryz.prog W 27 (isLd isVr) fuel
 | 0=>⟨fun _ _ _ _ _ h _=>by simp [DataW.trod] at h,fun _ _ _ _ _ h _=>by simp [DataW.trod] at h⟩
 | fuel + 1=>by
  obtain ⟨h24,h22⟩:=rdV W fuel
  refine ⟨?_,?_⟩
  ·refine (rds_struct (P:=Tryz.prog) (w:=W) (φs:=[fun ds=>∃ n,ds = [.int .i64 n] /\ IntKind.i64.min <= n /\ n <= IntKind.i64.max,fun ds=>∃ n,ds = [.int .i64 n] /\ IntKind.i64.min <= n /\ n <= IntKind.i64.max,fun ds=>∃ l,ds = [.str l] /\ l.length <= 2 ^ 47,isLd isVr]) Tryz.underlying29 rfl ?_ ?_ ?_).imp ?_
   ·simp only [FldsOf,cells3,cells2,cells9,and_self,and_true,Nat.zero_add,Nat.reduceAdd]
   ·simp only [List.map_cons,List.map_nil,cells3,cells2,cells9,cells27,cells29];rfl
   ·intro i f φ e1 e2
    match i with
    | 0=>simp at e1 e2;subst e1;subst e2;exact rds_int Tryz.underlying3 fuel
    | 1=>simp at e1 e2;subst e1;subst e2;exact rds_int Tryz.underlying2 fuel
    | 2=>simp at e1 e2;subst e1;subst e2;exact rds_string Tryz.underlying9 fuel
    | 3=>simp at e1 e2;subst e1;subst e2;exact h22
    | i + 4=>simp at e1
   ·rintro ds ⟨x1,y1,rfl,⟨k,rfl,_⟩,x2,y2,rfl,⟨i,rfl,i1,i2⟩,x3,y3,rfl,⟨s,rfl,hs⟩,x4,y4,rfl,⟨l,rfl,hl⟩,rfl⟩
    rw [i64min] at i1;rw [i64max] at i2
    exact isLs_isVq hl k i s hs (by omega) (by omega)
  ·exact (rds_slice (P:=Tryz.prog) (w:=W) (mk:=D.agg) (fun _=>rfl) (sz:=4) (by decide) Tryz.underlying27 cells29 bytes29 h24).imp fun ds hd=>isLd_of (fun x (hx : isVq (D.agg x))=>hx.1) hd
theorem isVr_cells {x : List D} (h : isVr (D.agg x)) : ∃ k i s n l,x = [.int .i64 k,.int .i64 i,.str s,sliceD n l] /\ isVr (mkV k i s n l):=by
 obtain ⟨k,i,s,n,l,e,_⟩:=isV_elim h.1
 have : x = [.int .i64 k,.int .i64 i,.str s,sliceD n l]:=by unfold mkV at e;injection e
 subst this
 exact ⟨k,i,s,n,l,rfl,h⟩
def isEq' (n : Nat) (x : D) : Prop:=isE n x /\ rgE n x
theorem isEq'_mono {n : Nat} {x : D} (h : isEq' n x) : isEq' (n + 1) x:=by
 refine ⟨isE_mono h.1,?_⟩
 have key : ∀ (n : Nat) (e : D),rgE n e -> rgE (n + 1) e:=by
  intro n
  induction n with
  | zero=>intro e h;exact h.elim
  | succ n ih=>intro e h;exact ⟨h.1,fun x hx=>ih x (h.2 x hx)⟩
 exact key n x h.2
theorem rdE (W : World) : ∀ fuel,Rds Tryz.prog W 32 (fun ds=>isEq' fuel (D.agg ds)) fuel /\ Rds Tryz.prog W 30 (isLd (isEq' fuel)) fuel
 | 0=>⟨fun _ _ _ _ _ h _=>by simp [DataW.trod] at h,fun _ _ _ _ _ h _=>by simp [DataW.trod] at h⟩
 | fuel + 1=>by
  obtain ⟨hs,hl⟩:=rdE W fuel
  refine ⟨?_,?_⟩
  ·refine (rds_struct (P:=Tryz.prog) (w:=W) (φs:=[fun ds=>∃ l,ds = [.str l] /\ l.length <= 2 ^ 47,fun ds=>isVq (D.agg ds),fun ds=>∃ l,ds = [.str l] /\ l.length <= 2 ^ 47,fun ds=>∃ l,ds = [.str l] /\ l.length <= 2 ^ 47,isLd (isEq' fuel)]) Tryz.underlying32 rfl ?_ ?_ ?_).imp ?_
   ·simp only [FldsOf,cells9,cells29,and_self,and_true,Nat.zero_add,Nat.reduceAdd]
   ·simp only [List.map_cons,List.map_nil,cells9,cells29,cells30,cells32];rfl
   ·intro i f φ e1 e2
    match i with
    | 0=>simp at e1 e2;subst e1;subst e2;exact rds_string Tryz.underlying9 fuel
    | 1=>simp at e1 e2;subst e1;subst e2;exact (rdV W fuel).1
    | 2=>simp at e1 e2;subst e1;subst e2;exact rds_string Tryz.underlying9 fuel
    | 3=>simp at e1 e2;subst e1;subst e2;exact rds_string Tryz.underlying9 fuel
    | 4=>simp at e1 e2;subst e1;subst e2;exact hl
    | i + 5=>simp at e1
   ·rintro ds ⟨x1,y1,rfl,⟨op,rfl,h1⟩,x2,y2,rfl,h2,x3,y3,rfl,⟨who,rfl,h3⟩,x4,y4,rfl,⟨name,rfl,h4⟩,x5,y5,rfl,⟨l,rfl,m,ps,rfl,h5,h6⟩,rfl⟩
    obtain ⟨k,i,s,n,l,rfl,hv⟩:=isVr_cells h2.1
    refine ⟨⟨op,k,i,s,n,l,who,name,m,ps,rfl,h1,h3,h4,hv,h5,fun x hx=>(h6 x hx).1⟩,?_⟩
    show rgE (fuel + 1) (mkE op k i s n l who name m ps)
    refine ⟨?_,?_⟩
    ·rw [eV_mk];exact h2.2
    ·rw [eps_mk];exact fun x hx=>(h6 x hx).2
  ·exact (rds_slice (P:=Tryz.prog) (w:=W) (mk:=D.agg) (fun _=>rfl) (sz:=8) (by decide) Tryz.underlying30 cells32 bytes32 hs).imp fun ds hd=>isLd_of (fun x (hx : isEq' fuel (D.agg x))=>isEq'_mono hx) hd
theorem argB (W : World) : Arg Tryz.prog W 4 (fun d=>∃ b,d = .bool b):=by
 intro H enc v d ps base h1 h2 h3
 obtain ⟨x,k1,b,e⟩:=arg_one Tryz.underlying4 rfl (φ:=fun ds=>∃ b,ds = [.bool b]) (fun f=>rds_bool Tryz.underlying4 f) H enc v d ps base h1 h2 h3
 injection e with e
 exact ⟨_,k1,b,e⟩
end GP
namespace GP
open Go Go.Proofs
set_option maxRecDepth 100000
def wordP (toks : List D) (st : St) : List UInt8 × St:=(ts (kindP toks 1 st).1,(kindP toks 1 st).2)
def gWord : GE:=fun rest toks a e=>match rest with
 | []=>some (.str (wordP toks (a,e)).1,(wordP toks (a,e)).2)
 | _=>none
theorem ok72 : OkAtE Tryz.prog 72 (φC gWord):=by
 have hM : MonoH []:=.nil
 refine okC_of (l:=[]) (m:=[]) (ee:=[(120,φC gKind)]) .nil .nil (.cons ok120 .nil) fn72 fun H p n xs a e rest r a' e' hp htk hlen h=>?_
 unfold gWord at h
 split at h
 ·injection h with h
  have qa:=φQ_at (n:=n) hp htk hlen;have qa0:=φQ_at0 (n:=n) hp htk hlen;have ca:=φC_at (n:=n) hp htk hlen;have ca0:=φC_at0 (n:=n) hp htk hlen;have rc:=rd_cu hp;have rc0:=rd_cu0 hp;have sc:=fun K : D -> S -> Prop=>st_cu (K:=K) hp;have sc0:=fun K : D -> S -> Prop=>st_cu0 (K:=K) hp
  obtain ⟨k0,s0,n0,e0,_⟩:=kindP_cl htk 1 (a,e)
  obtain ⟨v,⟨a1,e1⟩,hy⟩ : ∃ v st,kindP xs 1 (a,e) = (v,st):=⟨_,_,rfl⟩
  rw [hy] at e0
  simp only at e0
  subst e0
  have h1 : gKind [.int .i64 1] xs a e = some (mkT k0 s0 n0,a1,e1):=by simp only [gKind,hy];rfl
  have f : wordP xs (a,e) = (s0,a1,e1):=by simp only [wordP,hy,ts_mk]
  rw [f] at h
  injection h with g1 g2;injection g2 with g2 g3
  subst g1;subst g2;subst g3
  simp only [mkT] at h1
  refine ⟨by simp,by simp [D.cl],fun T=>?_⟩
  simp +contextual (maxSteps:=10000000) only [qa,qa0,ca,ca0,rc,rc0,sc,sc0,c72,h1,go_sem]
  all_goals ((repeat' (first | apply And.intro | intro _)) <;> (first | omega | exact lvM))
 ·cases h
def wholeP (toks : List D) (st : St) : Option (D × St):=match pLv 10000 .expr toks st with
 | none=>none
 | some (x,st1)=>some (x,if (st1.2 == 0) && decide (12 < dpt nodeB x) then failP st.1 11 st1 else st1)
def gWhole : GE:=fun rest toks a e=>match rest with
 | []=>wholeP toks (a,e)
 | _=>none
set_option maxHeartbeats 2000000 in
theorem ok122 : OkAtE Tryz.prog 122 (φC gWhole):=by
 have hM : MonoH []:=.nil
 refine okC_of (l:=[(26,φdpt nodeB)]) (m:=[]) (ee:=[(49,φC (gOf (pLv 10000 .expr))),(105,φC gFail)]) (.cons (ok26 nodeB nodeB_le) .nil) .nil (.cons (okLv 10000 (by omega)).1 (.cons ok105 .nil)) fn122 fun H p n xs a e rest r a' e' hp htk hlen h=>?_
 unfold gWhole at h
 split at h
 ·have qa:=φQ_at (n:=n) hp htk hlen;have qa0:=φQ_at0 (n:=n) hp htk hlen;have ca:=φC_at (n:=n) hp htk hlen;have ca0:=φC_at0 (n:=n) hp htk hlen;have rc:=rd_cu hp;have rc0:=rd_cu0 hp;have sc:=fun K : D -> S -> Prop=>st_cu (K:=K) hp;have sc0:=fun K : D -> S -> Prop=>st_cu0 (K:=K) hp
  unfold wholeP at h
  split at h
  ·cases h
  ·rename_i x st1 hz
   obtain ⟨a1,e1⟩:=st1
   have hx8:=lv_ex8 10000 .expr xs (a,e) _ htk hz
   have hxE : isE nodeB x:=lv_isE 10000 .expr xs (a,e) _ htk hz
   have h1 : gOf (pLv 10000 .expr) [] xs a e = some (x,a1,e1):=hz
   have pd : φdpt nodeB [x] = some (.int .i64 ((dpt nodeB x : Nat) : Int)):=by simp only [φdpt];rw [if_pos hxE]
   have hf : gFail [.int .i64 (a : Nat),.int .i64 11] xs a1 e1 = some (.tup [],failP a 11 (a1,e1)):=gFail_of a 11 xs a1 e1
   simp only at hx8
   have ee:=hx8.2.1
   have hcl:=hx8.2.2
   obtain ⟨b0,b1,b2,b3,b4,b5,b6,b7,rfl⟩:=hx8.1
   injection h with h
   injection h with g1 g2
   subst g1
   refine ⟨by simp,hcl,fun T=>?_⟩
   obtain ⟨dp,hdp⟩ : ∃ z,dpt nodeB (.agg [b0,b1,b2,b3,b4,b5,b6,b7]) = z:=⟨_,rfl⟩
   rw [hdp] at pd g2
   rcases tf (e1 == 0) with g | g
   ·rcases tf (decide ((12 : Int) < (dp : Nat))) with d | d
    ·have d' : decide (12 < dp) = true:=by simp only [decide_eq_true_eq] at d ⊢;omega
     simp only [g,d',Bool.and_self,if_true] at g2
     rw [g2] at hf
     simp +contextual (maxSteps:=10000000) only [qa,qa0,ca,ca0,rc,rc0,sc,sc0,c122,h1,pd,hf,g,d,ee,pcallE hM,go_sem]
     refine leavesE_mk ?_ ⟨_,rfl⟩ ⟨[],by simp⟩
     simp only [D.erase,D.eraseL] at ee ⊢
     rw [ee]
    ·have d' : decide (12 < dp) = false:=by simp only [decide_eq_false_iff_not] at d ⊢;omega
     simp only [g,d',Bool.and_false,Bool.false_eq_true,if_false] at g2
     injection g2 with g2 g3;subst g2;subst g3
     simp +contextual (maxSteps:=10000000) only [qa,qa0,ca,ca0,rc,rc0,sc,sc0,c122,h1,pd,g,d,ee,pcallE hM,go_sem]
     refine leavesE_mk ?_ ⟨_,rfl⟩ ⟨[],by simp⟩
     simp only [D.erase,D.eraseL] at ee ⊢
     rw [ee]
   ·simp only [g,Bool.false_and,Bool.false_eq_true,if_false] at g2
    injection g2 with g2 g3;subst g2;subst g3
    simp +contextual (maxSteps:=10000000) only [qa,qa0,ca,ca0,rc,rc0,sc,sc0,c122,h1,g,ee,go_sem]
    refine leavesE_mk ?_ ⟨_,rfl⟩ ⟨[],by simp⟩
    simp only [D.erase,D.eraseL] at ee ⊢
    rw [ee]
 ·cases h
end GP
namespace GP
open Go Go.Proofs
set_option maxRecDepth 100000
def wTruthW : List UInt8:=[116,114,117,116,104]
def wNumberW : List UInt8:=[110,117,109,98,101,114]
def wTextW : List UInt8:=[116,101,120,116]
def wTimeW : List UInt8:=[116,105,109,101]
def wBagW : List UInt8:=[98,97,103]
def kindW : List (List UInt8):=[wTruthW,wNumberW,wTextW,wTimeW]
def kindI (k : List UInt8) : Int:=if k == wTruthW then 1 else if k == wNumberW then 2 else if k == wTextW then 3 else if k == wTimeW then 4 else 0
def mayP (toks : List D) (s : List UInt8) (st : St) : Bool × St:=if isP toks st s then (true,(st.1 + 1,st.2)) else (false,st)
theorem gMay_at (toks : List D) (s : List UInt8) (a : Nat) (e : Int) : gMay [.str s] toks a e = some (.bool (mayP toks s (a,e)).1,(mayP toks s (a,e)).2):=by
 simp only [gMay,mayP];split <;> rfl
def factP (toks : List D) (st : St) : D × St :=
 let A:=attrP toks st
 let K:=oneP toks kindW A.2.2
 let B:=mayP toks wBagW K.2
 (.agg [.str A.1,.str A.2.1,.int .i64 (kindI K.1),.bool B.1],mustP toks [59] B.2)
def gFact : GE:=fun rest toks a e=>match rest with
 | []=>some (factP toks (a,e))
 | _=>none
set_option maxHeartbeats 2000000 in
theorem ok70 : OkAtE Tryz.prog 70 (φC gFact):=by
 have hM : MonoH []:=.nil
 refine okC_of (l:=[]) (m:=[]) (ee:=[(118,φC gAttr),(119,φC gOne),(69,φC gMay),(71,φC gMust)]) .nil .nil (.cons ok118 (.cons ok119 (.cons ok69 (.cons ok71 .nil)))) fn70 fun H p n xs a e rest r a' e' hp htk hlen h=>?_
 unfold gFact at h
 split at h
 ·injection h with h
  have qa:=φQ_at (n:=n) hp htk hlen;have qa0:=φQ_at0 (n:=n) hp htk hlen;have ca:=φC_at (n:=n) hp htk hlen;have ca0:=φC_at0 (n:=n) hp htk hlen;have rc:=rd_cu hp;have rc0:=rd_cu0 hp;have sc:=fun K : D -> S -> Prop=>st_cu (K:=K) hp;have sc0:=fun K : D -> S -> Prop=>st_cu0 (K:=K) hp
  obtain ⟨w1,w2,⟨a1,e1⟩,hy1⟩ : ∃ w1 w2 st1,attrP xs (a,e) = (w1,w2,st1):=⟨_,_,_,rfl⟩
  obtain ⟨k,⟨a2,e2⟩,hy2⟩ : ∃ k st2,oneP xs kindW (a1,e1) = (k,st2):=⟨_,_,rfl⟩
  obtain ⟨b,⟨a3,e3⟩,hy3⟩ : ∃ b st3,mayP xs wBagW (a2,e2) = (b,st3):=⟨_,_,rfl⟩
  obtain ⟨⟨a4,e4⟩,hy4⟩ : ∃ st4,mustP xs [59] (a3,e3) = st4:=⟨_,rfl⟩
  have f : factP xs (a,e) = (.agg [.str w1,.str w2,.int .i64 (kindI k),.bool b],a4,e4):=by
   simp only [factP,hy1,hy2,hy3,hy4]
  rw [f] at h
  injection h with g1 g2;injection g2 with g2 g3
  subst g1;subst g2;subst g3
  have h1 : gAttr [] xs a e = some (.tup [.str w1,.str w2],a1,e1):=by simp only [gAttr,hy1]
  have h2 : gOne [.sl none [.str [116,114,117,116,104],.str [110,117,109,98,101,114],.str [116,101,120,116],.str [116,105,109,101]]] xs a1 e1 = some (.str k,a2,e2):=by
   have : gOne [.sl none [.str [116,114,117,116,104],.str [110,117,109,98,101,114],.str [116,101,120,116],.str [116,105,109,101]]] xs a1 e1 = some (.str (oneP xs kindW (a1,e1)).1,(oneP xs kindW (a1,e1)).2):=rfl
   rw [this,hy2]
  have h3 : gMay [.str [98,97,103]] xs a2 e2 = some (.bool b,a3,e3):=by
   rw [gMay_at];rw [show mayP xs [98,97,103] (a2,e2) = (b,(a3,e3)) from hy3]
  have h4 : gMust [.str [59]] xs a3 e3 = some (.tup [],a4,e4):=by simp only [gMust,hy4]
  refine ⟨by simp,by simp [D.cl,D.clL],fun T=>?_⟩
  rcases tf (k == [116,114,117,116,104]) with k1 | k1
  ·have kk : kindI k = 1:=by simp only [kindI,wTruthW,wNumberW,wTextW,wTimeW,k1,Bool.false_eq_true,if_false,if_true]
   rw [kk]
   simp +contextual (maxSteps:=10000000) only [qa,qa0,ca,ca0,rc,rc0,sc,sc0,c70,h1,h2,h3,h4,k1,go_sem]
   all_goals ((repeat' (first | apply And.intro | intro _)) <;> (first | omega | exact lvM))
  rcases tf (k == [110,117,109,98,101,114]) with k2 | k2
  ·have kk : kindI k = 2:=by simp only [kindI,wTruthW,wNumberW,wTextW,wTimeW,k1,k2,Bool.false_eq_true,if_false,if_true]
   rw [kk]
   simp +contextual (maxSteps:=10000000) only [qa,qa0,ca,ca0,rc,rc0,sc,sc0,c70,h1,h2,h3,h4,k1,k2,go_sem]
   all_goals ((repeat' (first | apply And.intro | intro _)) <;> (first | omega | exact lvM))
  rcases tf (k == [116,101,120,116]) with k3 | k3
  ·have kk : kindI k = 3:=by simp only [kindI,wTruthW,wNumberW,wTextW,wTimeW,k1,k2,k3,Bool.false_eq_true,if_false,if_true]
   rw [kk]
   simp +contextual (maxSteps:=10000000) only [qa,qa0,ca,ca0,rc,rc0,sc,sc0,c70,h1,h2,h3,h4,k1,k2,k3,go_sem]
   all_goals ((repeat' (first | apply And.intro | intro _)) <;> (first | omega | exact lvM))
  rcases tf (k == [116,105,109,101]) with k4 | k4
  ·have kk : kindI k = 4:=by simp only [kindI,wTruthW,wNumberW,wTextW,wTimeW,k1,k2,k3,k4,Bool.false_eq_true,if_false,if_true]
   rw [kk]
   simp +contextual (maxSteps:=10000000) only [qa,qa0,ca,ca0,rc,rc0,sc,sc0,c70,h1,h2,h3,h4,k1,k2,k3,k4,go_sem]
   all_goals ((repeat' (first | apply And.intro | intro _)) <;> (first | omega | exact lvM))
  ·have kk : kindI k = 0:=by simp only [kindI,wTruthW,wNumberW,wTextW,wTimeW,k1,k2,k3,k4,Bool.false_eq_true,if_false,if_true]
   rw [kk]
   simp +contextual (maxSteps:=10000000) only [qa,qa0,ca,ca0,rc,rc0,sc,sc0,c70,h1,h2,h3,h4,k1,k2,k3,k4,go_sem]
   all_goals ((repeat' (first | apply And.intro | intro _)) <;> (first | omega | exact lvM))
 ·cases h
end GP
namespace GP
open Go Go.Proofs
set_option maxRecDepth 100000
def accZ (sz : Nat) (T : Tk) (i : Option Nat) (xs : List D) (d : D) (T' : Tk) : Prop:=match i with
 | none=>xs = [] /\ d = .nils
 | some i=>xs ≠ [] /\ T.length <= i /\ d = .sl (some i) xs /\ T'[i]? = some (some (xs.length,sz))
theorem app_accZ {sz bytes : Nat} {K : D -> S -> Prop} {t : Nat -> D} {H : Hp} {T T' : Tk} {i : Option Nat} {xs : List D} {d : D} (x : D) (h : accZ sz T i xs d T') (hE : ExtT T T') (hx : fit sz x = true) (hxs : xs.all (fit sz) = true) (hb : (xs.length + 1) * bytes <= 2 ^ 47) (hb2 : xs.length + 1 < 2 ^ 62)
  (k : ∀ d2 T2 i2,accZ sz T (some i2) (xs ++ [x]) d2 T2 -> ExtT T T2 -> (∀ j,some j ≠ i -> j < T'.length -> T2[j]? = T'[j]?) -> (T'.length <= i2 ∨ some i2 = i) -> K d2 ⟨t,H,T2⟩) : appK sz bytes K ⟨t,H,T'⟩ d (some [x]):=by
 obtain ⟨L,rfl⟩:=hE
 cases i with
 | none =>
  obtain ⟨rfl,rfl⟩:=h
  rw [appK_nils1]
  refine ⟨by simp [hx],by simpa using hb,by simp,k _ _ (T ++ L).length ⟨by simp,by simp,rfl,by simp⟩ ⟨L ++ [some (1,sz)],by simp⟩ (fun j _ hj=>?_) (.inl (Nat.le_refl _))⟩
  rw [List.getElem?_append_left hj]
 | some i =>
  obtain ⟨h0,h1,rfl,h3⟩:=h
  have hi : i < (T ++ L).length:=lt_of_get h3
  simp only [appK]
  refine ⟨by simp [hx],h3,by simpa using hb,by simpa using hb2,hxs,k _ _ i ⟨by simp,h1,rfl,?_⟩ ?_ (fun j hj hjl=>?_) (.inr rfl)⟩
  ·rw [List.getElem?_set_self hi];simp
  ·refine ⟨L.set (i - T.length) (some (xs.length + [x].length,sz)),?_⟩
   rw [List.set_append_right _ _ h1]
  ·have hne : i ≠ j:=fun e=>hj (by rw [e])
   rw [List.getElem?_set_ne hne]
theorem accZ_keep {sz : Nat} {T T' T2 : Tk} {i : Option Nat} {xs : List D} {d : D} (h : accZ sz T i xs d T') (hk : ∀ j,i = some j -> T2[j]? = T'[j]?) : accZ sz T i xs d T2:=by
 cases i with
 | none=>exact h
 | some i=>exact ⟨h.1,h.2.1,h.2.2.1,by rw [hk i rfl];exact h.2.2.2⟩
theorem accZ_lt {sz : Nat} {T T' : Tk} {i : Nat} {xs : List D} {d : D} (h : accZ sz T (some i) xs d T') : i < T'.length:=lt_of_get h.2.2.2
theorem accZ_erase {sz : Nat} {T T' : Tk} {i : Option Nat} {xs : List D} {d : D} (h : accZ sz T i xs d T') (he : D.eraseL xs = xs) : d.erase = sliceD true xs:=by
 cases i with
 | none=>obtain ⟨rfl,rfl⟩:=h;rfl
 | some i =>
  obtain ⟨h0,_,rfl,_⟩:=h
  have : xs.isEmpty = false:=by cases xs with
   | nil=>exact (h0 rfl).elim
   | cons=>rfl
  simp [sliceD,this,D.erase,he]
theorem accZ_len {sz : Nat} {T T' : Tk} {i : Option Nat} {xs : List D} {d : D} (h : accZ sz T i xs d T') : lenD d = some xs.length:=by
 cases i with
 | none=>obtain ⟨rfl,rfl⟩:=h;rfl
 | some i=>obtain ⟨_,_,rfl,_⟩:=h;rfl
def wDuty : List UInt8:=[100,117,116,121]
def wAdvice : List UInt8:=[97,100,118,105,99,101]
def saidL (toks : List D) : Nat -> List (List UInt8) -> List (List UInt8) -> St -> Option (List (List UInt8) × List (List UInt8) × St)
 | 0,_,_,_=>none
 | f + 1,du,ad,st=>if st.2 != 0 then some (du,ad,st) else
  if isP toks st wDuty then saidL toks f (du ++ [ts (kindP toks 3 (st.1 + 1,st.2)).1]) ad (kindP toks 3 (st.1 + 1,st.2)).2 else
  if isP toks st wAdvice then saidL toks f du (ad ++ [ts (kindP toks 3 (st.1 + 1,st.2)).1]) (kindP toks 3 (st.1 + 1,st.2)).2 else
  some (du,ad,mustP toks [59] st)
end GP
namespace GP
open Go Go.Proofs
set_option maxRecDepth 100000
theorem saidL_len (toks : List D) : ∀ (f : Nat) (du ad : List (List UInt8)) (st : St) (r : List (List UInt8) × List (List UInt8) × St),saidL toks f du ad st = some r -> r.1.length + r.2.1.length <= du.length + ad.length + f
 | 0,_,_,_,_,h=>by simp [saidL] at h
 | f + 1,du,ad,st,r,h=>by
  simp only [saidL] at h
  split at h
  ·injection h with h;subst h;simp only;omega
  ·split at h
   ·have:=saidL_len toks f _ _ _ r h;simp at this;omega
   ·split at h
    ·have:=saidL_len toks f _ _ _ r h;simp at this;omega
    ·injection h with h;subst h;simp only;omega
theorem strs_fit (l : List (List UInt8)) : (l.map D.str).all (fit 1) = true:=by
 rw [List.all_eq_true];intro x hx
 obtain ⟨s,_,rfl⟩:=List.mem_map.1 hx
 rfl
theorem strs_erase (l : List (List UInt8)) : D.eraseL (l.map D.str) = l.map D.str:=eraseL_id fun x hx=>by
 obtain ⟨s,_,rfl⟩:=List.mem_map.1 hx;rfl
set_option maxHeartbeats 8000000 in
theorem rule_tail {X : Pred} (hX : X = XE [] [] [(119,φC gOne),(121,φC gName),(69,φC gMay),(122,φC gWhole),(120,φC gKind),(71,φC gMust)]) {H : Hp} {p : Nat} {n : Bool} {xs : List D} (hp : p < H.length) (htk : xs.all tokB = true) (hlen : xs.length <= 600) (T : Tk)
  {pm hi : Bool} {nm : List UInt8} {x0 x1 x2 x3 x4 x5 x6 x7 y0 : D} {Y : List D} (ee : (D.agg [x0,x1,x2,x3,x4,x5,x6,x7]).erase = .agg [x0,x1,x2,x3,x4,x5,x6,x7]) (hY : (Ob.row (y0 :: Y)) = .row [.bool false,.str [],.bool false,.str [],.int .i64 0,.int .i64 0,.str [],.nils,.str [],.str [],.nils,.nils,.nils])
  {F : Nat} (hF : F <= 10000) {a : Nat} {e : Int} {du ad : List (List UInt8)} {a' : Nat} {e' : Int} (hs : saidL xs F [] [] (a,e) = some (du,ad,(a',e'))) {t : Nat -> D} {T0 : Tk} (hT0 : ExtT T T0) (t0 : t 0 = .ptr p 0) (t2 : t 2 = .ptr H.length 0) (t3 : t 3 = .ptr (H.length + 1) 0) :
  W X (C.tl 4 c123) (endQ [.inr (2,true,13)] (LeavesE (.agg [.bool pm,.str nm,.bool hi,x0,x1,x2,x3,x4,x5,x6,x7,sliceD true (du.map .str),sliceD true (ad.map .str)]) (H.set p (.row [sliceD n xs,.int .i64 ((a' : Nat) : Int),.int .i64 e'])) T))
   ⟨t,H.set p (.row [sliceD n xs,.int .i64 ((a : Nat) : Int),.int .i64 e]) ++ [.row (y0 :: Y),.row [.bool pm,.str nm,.bool hi,x0,x1,x2,x3,x4,x5,x6,x7,.nils,.nils]],T0⟩:=by
 subst hX
 rw [hY]
 have hM : MonoH []:=.nil
 have qa:=φQ_at (n:=n) hp htk hlen;have qa0:=φQ_at0 (n:=n) hp htk hlen;have ca:=φC_at (n:=n) hp htk hlen;have ca0:=φC_at0 (n:=n) hp htk hlen;have rc:=rd_cu hp;have rc0:=rd_cu0 hp;have sc:=fun K : D -> S -> Prop=>st_cu (K:=K) hp;have sc0:=fun K : D -> S -> Prop=>st_cu0 (K:=K) hp
 have hlast:=saidL_len xs F [] [] (a,e) _ hs
 simp only [List.length_nil,Nat.zero_add] at hlast
 simp +contextual (maxSteps:=10000000) only [c123,go_sem]
 refine W_for (fun i s'=>∃ (b : Nat) (eb : Int) (u d : List (List UInt8)) (d1 d2 : D) (i1 i2 : Option Nat),s'.t 0 = .ptr p 0 /\ s'.t 2 = .ptr H.length 0 /\ s'.t 3 = .ptr (H.length + 1) 0 ∧
   s'.H = H.set p (.row [sliceD n xs,.int .i64 ((b : Nat) : Int),.int .i64 eb]) ++ [.row [.bool false,.str [],.bool false,.str [],.int .i64 0,.int .i64 0,.str [],.nils,.str [],.str [],.nils,.nils,.nils],.row [.bool pm,.str nm,.bool hi,x0,x1,x2,x3,x4,x5,x6,x7,d1,d2]] ∧
   ExtT T s'.T /\ accZ 1 T i1 (u.map .str) d1 s'.T /\ accZ 1 T i2 (d.map .str) d2 s'.T /\ (∀ j,i1 = some j -> i2 ≠ some j) /\ saidL xs (F - i) u d (b,eb) = some (du,ad,(a',e')) /\ i <= F /\ u.length + d.length <= i) F
  ⟨0,a,e,[],[],.nils,.nils,none,none,t0,t2,t3,rfl,hT0,⟨rfl,rfl⟩,⟨rfl,rfl⟩,(fun j h=>by cases h),hs,by omega,by simp⟩
  (fun i s h=>by obtain ⟨_,_,_,_,_,_,_,_,h⟩:=h;exact h.2.2.2.2.2.2.2.2.2.1) ?_ (XE_mono _ _ _)
 rintro i ⟨t',B,T'⟩ ⟨b,eb,u,d,d1,d2,i1,i2,r0,r2,r3,rfl,hE,hA1,hA2,hD,hz,hi',hul⟩
 simp only at r0 r2 r3 hE hA1 hA2
 obtain ⟨k,hk⟩ : ∃ k,F - i = k:=⟨_,rfl⟩
 rw [hk] at hz
 cases k with
 | zero=>simp [saidL] at hz
 | succ k =>
 simp only [saidL] at hz
 rcases tf (eb == 0) with g | g
 ·have g' : (eb != 0) = false:=by simpa using g
  rw [if_neg (by rw [g'];decide)] at hz
  have ek : F - (i + 1) = k:=by omega
  obtain ⟨v1,⟨b1,eb1⟩,hv1⟩ : ∃ v1 st,kindP xs 3 (b + 1,eb) = (v1,st):=⟨_,_,rfl⟩
  obtain ⟨k0,s0,n0,e0,_⟩:=kindP_cl htk 3 (b + 1,eb)
  rw [hv1] at e0 hz
  simp only at e0
  subst e0
  rw [ts_mk] at hz
  simp only at hz
  have hk1 : gKind [.int .i64 3] xs (b + 1) eb = some (mkT k0 s0 n0,b1,eb1):=by simp only [gKind,hv1];rfl
  simp only [mkT] at hk1
  have l1:=accZ_len hA1
  have l2:=accZ_len hA2
  rw [List.length_map] at l1 l2
  rcases tf (isP xs (b,eb) [100,117,116,121]) with gd | gd
  ·rw [if_pos (show isP xs (b,eb) wDuty = true from gd)] at hz
   simp +contextual (maxSteps:=10000000) only [qa,qa0,ca,ca0,rc,rc0,sc,sc0,r0,r2,r3,gMay,g,gd,hk1,l1,l2,go_sem]
   refine app_accZ (bytes:=16) (.str s0) hA1 hE rfl (strs_fit u) (by rw [List.length_map];omega) (by rw [List.length_map];omega) fun d3 T2 j3 hB hE2 hk2 hj=>?_
   obtain ⟨hB0,hB1,rfl,hB3⟩:=hB
   simp +contextual (maxSteps:=10000000) only [qa,qa0,ca,ca0,rc,rc0,sc,sc0,r0,r2,r3,ek,go_sem]
   exact ⟨b1,eb1,u ++ [s0],d,_,d2,some j3,i2,rfl,hE2,by rw [List.map_append];exact ⟨hB0,hB1,rfl,hB3⟩,accZ_keep hA2 (fun j hj2=>by
     subst hj2
     exact hk2 j (fun q=>hD j q.symm rfl) (accZ_lt hA2)),(fun j q q2=>by
     injection q with q;subst q;subst q2
     rcases hj with hj | hj
     ·have:=accZ_lt hA2;omega
     ·exact hD _ hj.symm rfl),hz,by omega,by simp;omega⟩
  ·rw [if_neg (by rw [show isP xs (b,eb) wDuty = false from gd];decide)] at hz
   rcases tf (isP xs (b,eb) [97,100,118,105,99,101]) with gv | gv
   ·rw [if_pos (show isP xs (b,eb) wAdvice = true from gv)] at hz
    simp +contextual (maxSteps:=10000000) only [qa,qa0,ca,ca0,rc,rc0,sc,sc0,r0,r2,r3,gMay,g,gd,gv,hk1,l1,l2,go_sem]
    refine app_accZ (bytes:=16) (.str s0) hA2 hE rfl (strs_fit d) (by rw [List.length_map];omega) (by rw [List.length_map];omega) fun d3 T2 j3 hB hE2 hk2 hj=>?_
    obtain ⟨hB0,hB1,rfl,hB3⟩:=hB
    simp +contextual (maxSteps:=10000000) only [qa,qa0,ca,ca0,rc,rc0,sc,sc0,r0,r2,r3,ek,go_sem]
    exact ⟨b1,eb1,u,d ++ [s0],d1,_,i1,some j3,rfl,hE2,accZ_keep hA1 (fun j hj2=>by
      subst hj2
      exact hk2 j (fun q=>hD j rfl q.symm) (accZ_lt hA1)),by rw [List.map_append];exact ⟨hB0,hB1,rfl,hB3⟩,(fun j q q2=>by
      injection q2 with q2;subst q2;subst q
      rcases hj with hj | hj
      ·have:=accZ_lt hA1;omega
      ·exact hD _ rfl hj.symm),hz,by omega,by simp;omega⟩
   ·rw [if_neg (by rw [show isP xs (b,eb) wAdvice = false from gv];decide)] at hz
    injection hz with hz
    injection hz with z1 hz;injection hz with z2 z3
    subst z1;subst z2
    have hmu : gMust [.str [59]] xs b eb = some (.tup [],a',e'):=by simp only [gMust,z3]
    have e1:=accZ_erase hA1 (strs_erase u)
    have e2:=accZ_erase hA2 (strs_erase d)
    simp +contextual (maxSteps:=10000000) only [qa,qa0,ca,ca0,rc,rc0,sc,sc0,r0,r2,r3,gMay,g,gd,gv,hmu,go_sem]
    refine leavesE_mk ?_ ⟨_,rfl⟩ hE
    simp only [D.erase,D.eraseL] at ee ⊢
    simp only [D.agg.injEq,List.cons.injEq,and_true] at ee
    obtain ⟨q0,q1,q2,q3,q4,q5,q6,q7⟩:=ee
    rw [e1,e2,q0,q1,q2,q3,q4,q5,q6,q7]
 ·have g' : (eb != 0) = true:=by simpa using g
  rw [if_pos g'] at hz
  injection hz with hz
  injection hz with z1 hz;injection hz with z2 hz;injection hz with z3 z4
  subst z1;subst z2;subst z3;subst z4
  have e1:=accZ_erase hA1 (strs_erase u)
  have e2:=accZ_erase hA2 (strs_erase d)
  simp +contextual (maxSteps:=10000000) only [qa,qa0,ca,ca0,rc,rc0,sc,sc0,r0,r2,r3,g,go_sem]
  refine leavesE_mk ?_ ⟨_,rfl⟩ hE
  simp only [D.erase,D.eraseL] at ee ⊢
  simp only [D.agg.injEq,List.cons.injEq,and_true] at ee
  obtain ⟨q0,q1,q2,q3,q4,q5,q6,q7⟩:=ee
  rw [e1,e2,q0,q1,q2,q3,q4,q5,q6,q7]
end GP
namespace GP
open Go Go.Proofs
set_option maxRecDepth 100000
def wPermit : List UInt8:=[112,101,114,109,105,116]
def wDeny : List UInt8:=[100,101,110,121]
def wIf : List UInt8:=[105,102]
def optP (toks : List D) (b : Bool) (st : St) : Option (D × St):=if b then wholeP toks st else some (zeroE,st)
def ruleP (F : Nat) (toks : List D) (st : St) : Option (D × St) :=
 let K:=oneP toks [wPermit,wDeny] st
 let N:=nameP toks K.2
 let I:=mayP toks wIf N.2
 match optP toks I.1 I.2 with
 | none=>none
 | some (x,st1)=>match saidL toks F [] [] st1 with
  | none=>none
  | some (du,ad,st2)=>some (.agg ([.bool (K.1 == wPermit),.str N.1,.bool I.1] ++ x.cells ++ [sliceD true (du.map .str),sliceD true (ad.map .str)]),st2)
def gRule (F : Nat) : GE:=fun rest toks a e=>match rest with
 | []=>ruleP F toks (a,e)
 | _=>none
theorem strs_cl (l : List (List UInt8)) : (sliceD true (l.map D.str)).cl 0 0 = true:=by
 rcases sliceD_cases true (l.map D.str) with ⟨_,e⟩ | e
 ·rw [e];rfl
 ·rw [e]
  simp only [D.cl,Bool.and_eq_true]
  have : ∀ l : List (List UInt8),D.clL 0 0 (l.map D.str) = true:=by
   intro l
   induction l with
   | nil=>rfl
   | cons x l ih=>simp [D.clL,D.cl,ih]
  simp [this]
set_option maxHeartbeats 8000000 in
theorem ok123 (F : Nat) (hF : F <= 10000) : OkAtE Tryz.prog 123 (φC (gRule F)):=by
 have hM : MonoH []:=.nil
 refine okC_of (l:=[]) (m:=[]) (ee:=[(119,φC gOne),(121,φC gName),(69,φC gMay),(122,φC gWhole),(120,φC gKind),(71,φC gMust)]) .nil .nil (.cons ok119 (.cons ok121 (.cons ok69 (.cons ok122 (.cons ok120 (.cons ok71 .nil)))))) fn123 fun H p n xs a e rest r a' e' hp htk hlen h=>?_
 unfold gRule at h
 split at h
 ·have qa:=φQ_at (n:=n) hp htk hlen;have qa0:=φQ_at0 (n:=n) hp htk hlen;have ca:=φC_at (n:=n) hp htk hlen;have ca0:=φC_at0 (n:=n) hp htk hlen;have rc:=rd_cu hp;have rc0:=rd_cu0 hp;have sc:=fun K : D -> S -> Prop=>st_cu (K:=K) hp;have sc0:=fun K : D -> S -> Prop=>st_cu0 (K:=K) hp
  unfold ruleP at h
  obtain ⟨w1,⟨a1,e1⟩,hy1⟩ : ∃ w1 st1,oneP xs [wPermit,wDeny] (a,e) = (w1,st1):=⟨_,_,rfl⟩
  obtain ⟨w2,⟨a2,e2⟩,hy2⟩ : ∃ w2 st2,nameP xs (a1,e1) = (w2,st2):=⟨_,_,rfl⟩
  obtain ⟨b,⟨a3,e3⟩,hy3⟩ : ∃ b st3,mayP xs wIf (a2,e2) = (b,st3):=⟨_,_,rfl⟩
  simp only [hy1,hy2,hy3] at h
  split at h
  ·cases h
  rename_i x st4 hz
  obtain ⟨a4,e4⟩:=st4
  split at h
  ·cases h
  rename_i du ad st5 hs
  obtain ⟨a5,e5⟩:=st5
  injection h with h
  injection h with g1 g2;injection g2 with g2 g3
  subst g2;subst g3
  have h1 : gOne [.sl none [.str [112,101,114,109,105,116],.str [100,101,110,121]]] xs a e = some (.str w1,a1,e1):=by
   have : gOne [.sl none [.str [112,101,114,109,105,116],.str [100,101,110,121]]] xs a e = some (.str (oneP xs [wPermit,wDeny] (a,e)).1,(oneP xs [wPermit,wDeny] (a,e)).2):=rfl
   rw [this,hy1]
  have h2 : gName [] xs a1 e1 = some (.str w2,a2,e2):=by simp only [gName,hy2]
  have h3 : gMay [.str [105,102]] xs a2 e2 = some (.bool b,a3,e3):=by
   rw [gMay_at];rw [show mayP xs [105,102] (a2,e2) = (b,(a3,e3)) from hy3]
  have hx8 : ex8 x:=by
   unfold optP at hz
   split at hz
   ·unfold wholeP at hz
    split at hz
    ·cases hz
    ·rename_i x' st1 hp'
     injection hz with hz;injection hz with hz _;subst hz
     exact lv_ex8 10000 .expr xs (a3,e3) _ htk hp'
   ·injection hz with hz;injection hz with hz _;subst hz
    exact ⟨⟨_,_,_,_,_,_,_,_,rfl⟩,rfl,rfl⟩
  obtain ⟨⟨b0,b1,b2,b3,b4,b5,b6,b7,rfl⟩,ee,hcl⟩:=hx8
  have hr : r = .agg [.bool (w1 == wPermit),.str w2,.bool b,b0,b1,b2,b3,b4,b5,b6,b7,sliceD true (du.map .str),sliceD true (ad.map .str)]:=g1.symm
  subst hr
  refine ⟨by simp,?_,fun T=>?_⟩
  ·simp only [D.cl,D.clL,strs_cl,Bool.and_true,Bool.true_and] at hcl ⊢
   simpa using hcl
  rw [W_part 4]
  have tail:=fun (t : Nat -> D) (T0 : Tk) hT0 t0 t2 t3=>rule_tail (X:=XE [] [] [(119,φC gOne),(121,φC gName),(69,φC gMay),(122,φC gWhole),(120,φC gKind),(71,φC gMust)]) rfl (n:=n) hp htk hlen T (pm:=w1 == wPermit) (hi:=b) (nm:=w2) (x0:=b0) (x1:=b1) (x2:=b2) (x3:=b3) (x4:=b4) (x5:=b5) (x6:=b6) (x7:=b7) ee (y0:=.bool false) (Y:=[.str [],.bool false,.str [],.int .i64 0,.int .i64 0,.str [],.nils,.str [],.str [],.nils,.nils,.nils]) rfl hF hs (t:=t) (T0:=T0) hT0 t0 t2 t3
  obtain ⟨tl,htl⟩ : ∃ z,C.tl 4 c123 = z:=⟨_,rfl⟩
  rw [htl] at tail ⊢
  obtain ⟨Q,hQ⟩ : ∃ Q,endQ [.inr (2,true,13)] (LeavesE (.agg [.bool (w1 == wPermit),.str w2,.bool b,b0,b1,b2,b3,b4,b5,b6,b7,sliceD true (du.map .str),sliceD true (ad.map .str)]) (H.set p (.row [sliceD n xs,.int .i64 ((a5 : Nat) : Int),.int .i64 e5])) T) = Q:=⟨_,rfl⟩
  rw [hQ] at tail ⊢
  obtain ⟨pm,hpm⟩ : ∃ z,(w1 == wPermit) = z:=⟨_,rfl⟩
  rw [hpm] at tail
  have hpm' : (w1 == [112,101,114,109,105,116]) = pm:=hpm
  cases b with
  | true =>
   have h4 : gWhole [] xs a3 e3 = some (.agg [b0,b1,b2,b3,b4,b5,b6,b7],a4,e4):=hz
   simp +contextual (maxSteps:=10000000) only [qa,qa0,ca,ca0,rc,rc0,sc,sc0,c123,h1,h2,h3,h4,hpm',ee,go_sem]
   refine tail _ _ ?_ ?_ ?_ ?_
   ·exact ⟨_,rfl⟩
   ·simp [upd,argT]
   ·simp [upd,argT]
   ·simp [upd,argT]
  | false =>
   have hz' : some ((zeroE,(a3,e3)) : D × St) = some (.agg [b0,b1,b2,b3,b4,b5,b6,b7],(a4,e4)):=hz
   injection hz' with hz'
   injection hz' with z1 z2;injection z2 with z2 z3
   subst z2;subst z3
   simp only [zeroE] at z1
   injection z1 with z1
   simp only [List.cons.injEq,and_true] at z1
   obtain ⟨rfl,rfl,rfl,rfl,rfl,rfl,rfl,rfl⟩:=z1
   simp +contextual (maxSteps:=10000000) only [qa,qa0,ca,ca0,rc,rc0,sc,sc0,c123,h1,h2,h3,hpm',go_sem]
   refine tail _ _ ?_ ?_ ?_ ?_
   ·exact ⟨_,rfl⟩
   ·simp [upd,argT]
   ·simp [upd,argT]
   ·simp [upd,argT]
 ·cases h
end GP
namespace GP
open Go Go.Proofs
set_option maxRecDepth 100000
def ruleS (r : D) : Prop:=∃ (pm : Bool) (nm : List UInt8) (hi : Bool) (b0 b1 b2 b3 b4 b5 b6 b7 : D) (du ad : List (List UInt8)),r = .agg [.bool pm,.str nm,.bool hi,b0,b1,b2,b3,b4,b5,b6,b7,sliceD true (du.map D.str),sliceD true (ad.map D.str)] /\ ex8 (.agg [b0,b1,b2,b3,b4,b5,b6,b7])
theorem opt_ex8 {toks : List D} (ht : toks.all tokB = true) {b : Bool} {st : St} {r : D × St} (h : optP toks b st = some r) : ex8 r.1:=by
 unfold optP at h
 split at h
 ·unfold wholeP at h
  split at h
  ·cases h
  ·rename_i x' st1 hp'
   injection h with h;subst h
   exact lv_ex8 10000 .expr toks st (x',st1) ht hp'
 ·injection h with h;subst h
  exact ⟨⟨_,_,_,_,_,_,_,_,rfl⟩,rfl,rfl⟩
theorem rule_shape {F : Nat} {toks : List D} (ht : toks.all tokB = true) {st : St} {r : D × St} (h : ruleP F toks st = some r) : ruleS r.1:=by
 unfold ruleP at h
 simp only at h
 split at h
 ·cases h
 ·rename_i x st1 hz
  have hx:=opt_ex8 ht hz
  split at h
  ·cases h
  ·rename_i du ad st2 _
   injection h with h;subst h
   obtain ⟨⟨b0,b1,b2,b3,b4,b5,b6,b7,rfl⟩,ee,hc⟩:=hx
   exact ⟨_,_,_,b0,b1,b2,b3,b4,b5,b6,b7,du,ad,rfl,⟨⟨_,_,_,_,_,_,_,_,rfl⟩,ee,hc⟩⟩
theorem sl_strs_erase (l : List (List UInt8)) : (sliceD true (l.map D.str)).erase = sliceD true (l.map D.str):=by
 rw [erase_sliceD,strs_erase]
theorem ruleS_p {r : D} (h : ruleS r) : fit 13 r = true /\ r.erase = r /\ r.cl 0 0 = true /\ r.okc = true /\ r.cells.length = 13:=by
 obtain ⟨pm,nm,hi,b0,b1,b2,b3,b4,b5,b6,b7,du,ad,rfl,_,ee,hc⟩:=h
 refine ⟨rfl,?_,?_,rfl,rfl⟩
 ·simp only [D.erase,D.eraseL,D.agg.injEq,List.cons.injEq,and_true] at ee
  obtain ⟨q0,q1,q2,q3,q4,q5,q6,q7⟩:=ee
  simp only [D.erase,D.eraseL,sl_strs_erase,q0,q1,q2,q3,q4,q5,q6,q7]
 ·simp only [D.cl,D.clL,strs_cl,Bool.and_true,Bool.true_and] at hc ⊢
  simpa using hc
def rulesL (P : Part) (toks : List D) : Nat -> List D -> St -> Option (List D × St)
 | 0,_,_=>none
 | f + 1,rs,st=>if st.2 != 0 then some (rs,st) else if isP toks st [125] then some (rs,(st.1 + 1,st.2)) else match P toks st with
  | none=>none
  | some (r,st1)=>rulesL P toks f (rs ++ [r]) st1
theorem rules_fit {l : List D} (h : ∀ x ∈ l,ruleS x) : l.all (fit 13) = true:=List.all_eq_true.2 fun x hx=>(ruleS_p (h x hx)).1
theorem rules_erase {l : List D} (h : ∀ x ∈ l,ruleS x) : D.eraseL l = l:=eraseL_id fun x hx=>(ruleS_p (h x hx)).2.1
set_option maxHeartbeats 8000000 in
theorem pol_tail {F : Nat} {X : Pred} (hX : X = XE [] [] [(121,φC gName),(71,φC gMust),(72,φC gWord),(69,φC gMay),(122,φC gWhole),(123,φC (gRule F))]) {H : Hp} {p : Nat} {n : Bool} {xs : List D} (hp : p < H.length) (htk : xs.all tokB = true) (hlen : xs.length <= 600) (T : Tk)
  {hi : Bool} {nm by' us : List UInt8} {x0 x1 x2 x3 x4 x5 x6 x7 y0 : D} {Y : List D} (ee : (D.agg [x0,x1,x2,x3,x4,x5,x6,x7]).erase = .agg [x0,x1,x2,x3,x4,x5,x6,x7]) (hY : (Ob.row (y0 :: Y)) = .row [.str [],.str [],.str [],.bool false,.str [],.int .i64 0,.int .i64 0,.str [],.nils,.str [],.str [],.nils,.nils])
  {G : Nat} (hG : G <= 10000) {a : Nat} {e : Int} {rs : List D} {a' : Nat} {e' : Int} (hs : rulesL (ruleP F) xs G [] (a,e) = some (rs,(a',e'))) {t : Nat -> D} {T0 : Tk} (hT0 : ExtT T T0) (t0 : t 0 = .ptr p 0) (t2 : t 2 = .ptr H.length 0) (t3 : t 3 = .ptr (H.length + 1) 0) :
  W X (C.tl 8 c73) (endQ [.inr (2,true,13)] (LeavesE (.agg [.str nm,.str by',.str us,.bool hi,x0,x1,x2,x3,x4,x5,x6,x7,sliceD true rs]) (H.set p (.row [sliceD n xs,.int .i64 ((a' : Nat) : Int),.int .i64 e'])) T))
   ⟨t,H.set p (.row [sliceD n xs,.int .i64 ((a : Nat) : Int),.int .i64 e]) ++ [.row (y0 :: Y),.row [.str nm,.str by',.str us,.bool hi,x0,x1,x2,x3,x4,x5,x6,x7,.nils]],T0⟩:=by
 subst hX
 rw [hY]
 have hM : MonoH []:=.nil
 have qa:=φQ_at (n:=n) hp htk hlen;have qa0:=φQ_at0 (n:=n) hp htk hlen;have ca:=φC_at (n:=n) hp htk hlen;have ca0:=φC_at0 (n:=n) hp htk hlen;have rc:=rd_cu hp;have rc0:=rd_cu0 hp;have sc:=fun K : D -> S -> Prop=>st_cu (K:=K) hp;have sc0:=fun K : D -> S -> Prop=>st_cu0 (K:=K) hp
 simp +contextual (maxSteps:=10000000) only [c73,go_sem]
 refine W_for (fun i s'=>∃ (b : Nat) (eb : Int) (u : List D) (d1 : D) (i1 : Option Nat),s'.t 0 = .ptr p 0 /\ s'.t 2 = .ptr H.length 0 /\ s'.t 3 = .ptr (H.length + 1) 0 ∧
   s'.H = H.set p (.row [sliceD n xs,.int .i64 ((b : Nat) : Int),.int .i64 eb]) ++ [.row [.str [],.str [],.str [],.bool false,.str [],.int .i64 0,.int .i64 0,.str [],.nils,.str [],.str [],.nils,.nils],.row [.str nm,.str by',.str us,.bool hi,x0,x1,x2,x3,x4,x5,x6,x7,d1]] ∧
   ExtT T s'.T /\ accZ 13 T i1 u d1 s'.T /\ rulesL (ruleP F) xs (G - i) u (b,eb) = some (rs,(a',e')) /\ i <= G /\ u.length <= i /\ ∀ x ∈ u,ruleS x) G
  ⟨0,a,e,[],.nils,none,t0,t2,t3,rfl,hT0,⟨rfl,rfl⟩,hs,by omega,by simp,by simp⟩
  (fun i s h=>by obtain ⟨_,_,_,_,_,h⟩:=h;exact h.2.2.2.2.2.2.2.1) ?_ (XE_mono _ _ _)
 rintro i ⟨t',B,T'⟩ ⟨b,eb,u,d1,i1,r0,r2,r3,rfl,hE,hA1,hz,hi',hul,hrs⟩
 simp only at r0 r2 r3 hE hA1
 obtain ⟨k,hk⟩ : ∃ k,G - i = k:=⟨_,rfl⟩
 rw [hk] at hz
 have fin : ∀ {l : List D} {d : D},d.erase = sliceD true l -> (D.agg [.str nm,.str by',.str us,.bool hi,x0,x1,x2,x3,x4,x5,x6,x7,d]).erase = .agg [.str nm,.str by',.str us,.bool hi,x0,x1,x2,x3,x4,x5,x6,x7,sliceD true l]:=fun e1=>by
  simp only [D.erase,D.eraseL,D.agg.injEq,List.cons.injEq,and_true] at ee
  obtain ⟨q0,q1,q2,q3,q4,q5,q6,q7⟩:=ee
  simp only [D.erase,D.eraseL]
  rw [e1,q0,q1,q2,q3,q4,q5,q6,q7]
 cases k with
 | zero=>simp [rulesL] at hz
 | succ k =>
 simp only [rulesL] at hz
 have e1:=accZ_erase hA1 (rules_erase hrs)
 have l1:=accZ_len hA1
 rcases tf (eb == 0) with g | g
 ·have g' : (eb != 0) = false:=by simpa using g
  rw [if_neg (by rw [g'];decide)] at hz
  have ek : G - (i + 1) = k:=by omega
  rcases tf (isP xs (b,eb) [125]) with gd | gd
  ·rw [if_pos gd] at hz
   injection hz with hz
   injection hz with z1 hz;injection hz with z3 z4
   subst z1;subst z3;subst z4
   simp +contextual (maxSteps:=10000000) only [qa,qa0,ca,ca0,rc,rc0,sc,sc0,r0,r2,r3,gMay,g,gd,go_sem]
   exact leavesE_mk (fin e1) ⟨_,rfl⟩ hE
  ·rw [if_neg (by rw [gd];decide)] at hz
   split at hz
   ·cases hz
   rename_i r st1 hr
   obtain ⟨b1,eb1⟩:=st1
   have hS:=rule_shape htk hr
   obtain ⟨f1,f2,f3,f4,f5⟩:=ruleS_p hS
   have hr1 : gRule F [] xs b eb = some (r,b1,eb1):=hr
   simp +contextual (maxSteps:=10000000) only [qa,qa0,ca,ca0,rc,rc0,sc,sc0,r0,r2,r3,gMay,g,gd,hr1,l1,f2,f4,f5,go_sem]
   refine app_accZ (bytes:=208) r hA1 hE f1 (rules_fit hrs) (by omega) (by omega) fun d3 T2 j3 hB hE2 hk2 hj=>?_
   obtain ⟨hB0,hB1,rfl,hB3⟩:=hB
   simp +contextual (maxSteps:=10000000) only [qa,qa0,ca,ca0,rc,rc0,sc,sc0,r0,r2,r3,ek,go_sem]
   exact ⟨b1,eb1,u ++ [r],_,some j3,rfl,hE2,⟨hB0,hB1,rfl,hB3⟩,hz,by omega,by simp;omega,(fun x hx=>by
    rcases List.mem_append.1 hx with hx | hx
    ·exact hrs x hx
    ·rw [List.mem_singleton] at hx;subst hx;exact hS)⟩
 ·have g' : (eb != 0) = true:=by simpa using g
  rw [if_pos g'] at hz
  injection hz with hz
  injection hz with z1 hz;injection hz with z3 z4
  subst z1;subst z3;subst z4
  simp +contextual (maxSteps:=10000000) only [qa,qa0,ca,ca0,rc,rc0,sc,sc0,r0,r2,r3,g,go_sem]
  exact leavesE_mk (fin e1) ⟨_,rfl⟩ hE
end GP
namespace GP
open Go Go.Proofs
set_option maxRecDepth 100000
def wBy : List UInt8:=[98,121]
def wUse : List UInt8:=[117,115,101]
def wFor : List UInt8:=[102,111,114]
def policyP (F G : Nat) (toks : List D) (st : St) : Option (D × St) :=
 let N:=nameP toks st
 let Y:=nameP toks (mustP toks wBy N.2)
 let W:=wordP toks (mustP toks wUse Y.2)
 let I:=mayP toks wFor (mustP toks [123] W.2)
 match optP toks I.1 I.2 with
 | none=>none
 | some (x,st1)=>match rulesL (ruleP F) toks G [] (if I.1 then mustP toks [59] st1 else st1) with
  | none=>none
  | some (rs,st2)=>some (.agg ([.str N.1,.str Y.1,.str W.1,.bool I.1] ++ x.cells ++ [sliceD true rs]),st2)
def gPolicy (F G : Nat) : GE:=fun rest toks a e=>match rest with
 | []=>policyP F G toks (a,e)
 | _=>none
theorem rulesL_S {F : Nat} {toks : List D} (ht : toks.all tokB = true) : ∀ (f : Nat) (rs : List D) (st : St) (r : List D × St),(∀ x ∈ rs,ruleS x) -> rulesL (ruleP F) toks f rs st = some r -> ∀ x ∈ r.1,ruleS x
 | 0,_,_,_,_,h=>by simp [rulesL] at h
 | f + 1,rs,st,r,hr,h=>by
  simp only [rulesL] at h
  split at h
  ·injection h with h;subst h;exact hr
  ·split at h
   ·injection h with h;subst h;exact hr
   ·split at h
    ·cases h
    ·rename_i x st1 hx
     exact rulesL_S ht f _ _ r (fun y hy=>by
      rcases List.mem_append.1 hy with hy | hy
      ·exact hr y hy
      ·rw [List.mem_singleton] at hy;subst hy;exact rule_shape ht hx) h
theorem sl_cl {l : List D} (h : ∀ x ∈ l,x.cl 0 0 = true) : (sliceD true l).cl 0 0 = true:=by
 have hl : ∀ l : List D,(∀ x ∈ l,x.cl 0 0 = true) -> D.clL 0 0 l = true:=by
  intro l
  induction l with
  | nil=>intro _;rfl
  | cons x l ih=>intro h;simp only [D.clL,h x (by simp),ih fun y hy=>h y (by simp [hy]),Bool.and_self]
 rcases sliceD_cases true l with ⟨_,e⟩ | e
 ·rw [e];rfl
 ·rw [e];simp only [D.cl,hl l h];rfl
set_option maxHeartbeats 8000000 in
theorem ok73 (F G : Nat) (hF : F <= 10000) (hG : G <= 10000) : OkAtE Tryz.prog 73 (φC (gPolicy F G)):=by
 have hM : MonoH []:=.nil
 refine okC_of (l:=[]) (m:=[]) (ee:=[(121,φC gName),(71,φC gMust),(72,φC gWord),(69,φC gMay),(122,φC gWhole),(123,φC (gRule F))]) .nil .nil (.cons ok121 (.cons ok71 (.cons ok72 (.cons ok69 (.cons ok122 (.cons (ok123 F hF) .nil)))))) fn73 fun H p n xs a e rest r a' e' hp htk hlen h=>?_
 unfold gPolicy at h
 split at h
 ·have qa:=φQ_at (n:=n) hp htk hlen;have qa0:=φQ_at0 (n:=n) hp htk hlen;have ca:=φC_at (n:=n) hp htk hlen;have ca0:=φC_at0 (n:=n) hp htk hlen;have rc:=rd_cu hp;have rc0:=rd_cu0 hp;have sc:=fun K : D -> S -> Prop=>st_cu (K:=K) hp;have sc0:=fun K : D -> S -> Prop=>st_cu0 (K:=K) hp
  unfold policyP at h
  obtain ⟨w1,⟨a1,e1⟩,hy1⟩ : ∃ w1 st1,nameP xs (a,e) = (w1,st1):=⟨_,_,rfl⟩
  obtain ⟨⟨a2,e2⟩,hy2⟩ : ∃ st2,mustP xs wBy (a1,e1) = st2:=⟨_,rfl⟩
  obtain ⟨w3,⟨a3,e3⟩,hy3⟩ : ∃ w3 st3,nameP xs (a2,e2) = (w3,st3):=⟨_,_,rfl⟩
  obtain ⟨⟨a4,e4⟩,hy4⟩ : ∃ st4,mustP xs wUse (a3,e3) = st4:=⟨_,rfl⟩
  obtain ⟨w5,⟨a5,e5⟩,hy5⟩ : ∃ w5 st5,wordP xs (a4,e4) = (w5,st5):=⟨_,_,rfl⟩
  obtain ⟨⟨a6,e6⟩,hy6⟩ : ∃ st6,mustP xs [123] (a5,e5) = st6:=⟨_,rfl⟩
  obtain ⟨b,⟨a7,e7⟩,hy7⟩ : ∃ b st7,mayP xs wFor (a6,e6) = (b,st7):=⟨_,_,rfl⟩
  simp only [hy1,hy2,hy3,hy4,hy5,hy6,hy7] at h
  split at h
  ·cases h
  rename_i x st8 hz
  obtain ⟨a8,e8⟩:=st8
  split at h
  ·cases h
  rename_i rs st9 hs
  obtain ⟨a9,e9⟩:=st9
  injection h with h
  injection h with g1 g2;injection g2 with g2 g3
  subst g2;subst g3
  have h1 : gName [] xs a e = some (.str w1,a1,e1):=by simp only [gName,hy1]
  have h2 : gMust [.str [98,121]] xs a1 e1 = some (.tup [],a2,e2):=by simp only [gMust];rw [show mustP xs [98,121] (a1,e1) = (a2,e2) from hy2]
  have h3 : gName [] xs a2 e2 = some (.str w3,a3,e3):=by simp only [gName,hy3]
  have h4 : gMust [.str [117,115,101]] xs a3 e3 = some (.tup [],a4,e4):=by simp only [gMust];rw [show mustP xs [117,115,101] (a3,e3) = (a4,e4) from hy4]
  have h5 : gWord [] xs a4 e4 = some (.str w5,a5,e5):=by simp only [gWord,hy5]
  have h6 : gMust [.str [123]] xs a5 e5 = some (.tup [],a6,e6):=by simp only [gMust,hy6]
  have h7 : gMay [.str [102,111,114]] xs a6 e6 = some (.bool b,a7,e7):=by
   rw [gMay_at];rw [show mayP xs [102,111,114] (a6,e6) = (b,(a7,e7)) from hy7]
  have hx8 : ex8 x:=opt_ex8 htk hz
  have hrs:=rulesL_S htk G [] _ (rs,(a9,e9)) (by simp) hs
  obtain ⟨⟨b0,b1,b2,b3,b4,b5,b6,b7,rfl⟩,ee,hcl⟩:=hx8
  have hr : r = .agg [.str w1,.str w3,.str w5,.bool b,b0,b1,b2,b3,b4,b5,b6,b7,sliceD true rs]:=g1.symm
  subst hr
  refine ⟨by simp,?_,fun T=>?_⟩
  ·have q:=sl_cl fun x hx=>(ruleS_p (hrs x hx)).2.2.1
   simp only [D.cl,D.clL,q,Bool.and_true,Bool.true_and] at hcl ⊢
   simpa using hcl
  rw [W_part 8]
  obtain ⟨⟨aa,eb⟩,hst⟩ : ∃ st,(if b = true then mustP xs [59] (a8,e8) else (a8,e8)) = st:=⟨_,rfl⟩
  rw [hst] at hs
  have tail:=fun (t : Nat -> D) (T0 : Tk) hT0 t0 t2 t3=>pol_tail (F:=F) (X:=XE [] [] [(121,φC gName),(71,φC gMust),(72,φC gWord),(69,φC gMay),(122,φC gWhole),(123,φC (gRule F))]) rfl (n:=n) hp htk hlen T (hi:=b) (nm:=w1) (by':=w3) (us:=w5) (x0:=b0) (x1:=b1) (x2:=b2) (x3:=b3) (x4:=b4) (x5:=b5) (x6:=b6) (x7:=b7) ee (y0:=.str []) (Y:=[.str [],.str [],.bool false,.str [],.int .i64 0,.int .i64 0,.str [],.nils,.str [],.str [],.nils,.nils]) rfl hG hs (t:=t) (T0:=T0) hT0 t0 t2 t3
  obtain ⟨tl,htl⟩ : ∃ z,C.tl 8 c73 = z:=⟨_,rfl⟩
  rw [htl] at tail ⊢
  obtain ⟨Q,hQ⟩ : ∃ Q,endQ [.inr (2,true,13)] (LeavesE (.agg [.str w1,.str w3,.str w5,.bool b,b0,b1,b2,b3,b4,b5,b6,b7,sliceD true rs]) (H.set p (.row [sliceD n xs,.int .i64 ((a9 : Nat) : Int),.int .i64 e9])) T) = Q:=⟨_,rfl⟩
  rw [hQ] at tail ⊢
  cases b with
  | true =>
   have h8 : gWhole [] xs a7 e7 = some (.agg [b0,b1,b2,b3,b4,b5,b6,b7],a8,e8):=hz
   have h9 : gMust [.str [59]] xs a8 e8 = some (.tup [],aa,eb):=by simp only [gMust];rw [show mustP xs [59] (a8,e8) = (aa,eb) from hst]
   simp +contextual (maxSteps:=10000000) only [qa,qa0,ca,ca0,rc,rc0,sc,sc0,c73,h1,h2,h3,h4,h5,h6,h7,h8,h9,ee,go_sem]
   refine tail _ _ ?_ ?_ ?_ ?_
   ·exact ⟨_,(List.append_nil _).symm⟩
   ·simp [upd,argT]
   ·simp [upd,argT]
   ·simp [upd,argT]
  | false =>
   have hz' : some ((zeroE,(a7,e7)) : D × St) = some (.agg [b0,b1,b2,b3,b4,b5,b6,b7],(a8,e8)):=hz
   have hst' : (a8,e8) = (aa,eb):=hst
   injection hst' with s1 s2
   subst s1;subst s2
   injection hz' with hz'
   injection hz' with z1 z2;injection z2 with z2 z3
   subst z2;subst z3
   simp only [zeroE] at z1
   injection z1 with z1
   simp only [List.cons.injEq,and_true] at z1
   obtain ⟨rfl,rfl,rfl,rfl,rfl,rfl,rfl,rfl⟩:=z1
   simp +contextual (maxSteps:=10000000) only [qa,qa0,ca,ca0,rc,rc0,sc,sc0,c73,h1,h2,h3,h4,h5,h6,h7,go_sem]
   refine tail _ _ ?_ ?_ ?_ ?_
   ·exact ⟨_,(List.append_nil _).symm⟩
   ·simp [upd,argT]
   ·simp [upd,argT]
   ·simp [upd,argT]
 ·cases h
end GP
namespace GP
open Go Go.Proofs
set_option maxRecDepth 100000
def wFact : List UInt8:=[102,97,99,116]
def wPolicy : List UInt8:=[112,111,108,105,99,121]
def manyL (P : Part) (w : List UInt8) (toks : List D) : Nat -> List D -> St -> Option (List D × St)
 | 0,_,_=>none
 | f + 1,xs,st=>if isP toks st w then match P toks (st.1 + 1,st.2) with
  | none=>none
  | some (x,st1)=>manyL P w toks f (xs ++ [x]) st1
  else some (xs,st)
def factPt : Part:=fun toks st=>some (factP toks st)
def factS (x : D) : Prop:=∃ (w n : List UInt8) (k : Int) (b : Bool),x = .agg [.str w,.str n,.int .i64 k,.bool b]
theorem fact_shape (toks : List D) (st : St) : factS (factP toks st).1:=⟨_,_,_,_,rfl⟩
theorem factS_p {r : D} (h : factS r) : fit 4 r = true /\ r.erase = r /\ r.cl 0 0 = true /\ r.okc = true /\ r.cells.length = 4:=by
 obtain ⟨w,n,k,b,rfl⟩:=h
 exact ⟨rfl,rfl,rfl,rfl,rfl⟩
def polS (r : D) : Prop:=∃ (nm by' us : List UInt8) (hi : Bool) (b0 b1 b2 b3 b4 b5 b6 b7 : D) (rs : List D),r = .agg [.str nm,.str by',.str us,.bool hi,b0,b1,b2,b3,b4,b5,b6,b7,sliceD true rs] /\ ex8 (.agg [b0,b1,b2,b3,b4,b5,b6,b7]) /\ ∀ x ∈ rs,ruleS x
theorem pol_shape {F G : Nat} {toks : List D} (ht : toks.all tokB = true) {st : St} {r : D × St} (h : policyP F G toks st = some r) : polS r.1:=by
 unfold policyP at h
 simp only at h
 split at h
 ·cases h
 ·rename_i x st1 hz
  have hx:=opt_ex8 ht hz
  split at h
  ·cases h
  ·rename_i rs st2 hs
   have hrs:=rulesL_S ht G [] _ (rs,st2) (by simp) hs
   injection h with h;subst h
   obtain ⟨⟨b0,b1,b2,b3,b4,b5,b6,b7,rfl⟩,ee,hc⟩:=hx
   exact ⟨_,_,_,_,b0,b1,b2,b3,b4,b5,b6,b7,rs,rfl,⟨⟨_,_,_,_,_,_,_,_,rfl⟩,ee,hc⟩,hrs⟩
theorem polS_p {r : D} (h : polS r) : fit 13 r = true /\ r.erase = r /\ r.cl 0 0 = true /\ r.okc = true /\ r.cells.length = 13:=by
 obtain ⟨nm,by',us,hi,b0,b1,b2,b3,b4,b5,b6,b7,rs,rfl,⟨_,ee,hc⟩,hrs⟩:=h
 have q:=sl_cl fun x hx=>(ruleS_p (hrs x hx)).2.2.1
 refine ⟨rfl,?_,?_,rfl,rfl⟩
 ·simp only [D.erase,D.eraseL,D.agg.injEq,List.cons.injEq,and_true] at ee
  obtain ⟨q0,q1,q2,q3,q4,q5,q6,q7⟩:=ee
  simp only [D.erase,D.eraseL,erase_sliceD,rules_erase hrs,q0,q1,q2,q3,q4,q5,q6,q7]
 ·simp only [D.cl,D.clL,q,Bool.and_true,Bool.true_and] at hc ⊢
  simpa using hc
theorem manyL_S {P : Part} {p : D -> Prop} {w : List UInt8} {toks : List D} (hP : ∀ st r,P toks st = some r -> p r.1) : ∀ (f : Nat) (xs : List D) (st : St) (r : List D × St),(∀ x ∈ xs,p x) -> manyL P w toks f xs st = some r -> ∀ x ∈ r.1,p x
 | 0,_,_,_,_,h=>by simp [manyL] at h
 | f + 1,xs,st,r,hx,h=>by
  simp only [manyL] at h
  split at h
  ·split at h
   ·cases h
   ·rename_i x st1 hy
    exact manyL_S hP f _ _ r (fun y hy'=>by
     rcases List.mem_append.1 hy' with hy' | hy'
     ·exact hx y hy'
     ·rw [List.mem_singleton] at hy';subst hy';exact hP _ _ hy) h
  ·injection h with h;subst h;exact hx
def zeroDoc : D:=.agg [.nils,.str [],.nils]
def docP (F G : Nat) (toks : List D) (st : St) : Option (D × Nat × Int):=match manyL factPt wFact toks G [] st with
 | none=>none
 | some (fs,st1)=>match manyL (policyP F G) wPolicy toks G [] (mustP toks [59] (wordP toks (mustP toks wUse st1)).2) with
  | none=>none
  | some (ps,st4)=>some (if (endP toks st4).2 != 0 then (zeroDoc,(endP toks st4).1,(endP toks st4).2) else (.agg [sliceD true fs,.str (wordP toks (mustP toks wUse st1)).1,sliceD true ps],0,0))
end GP
namespace GP
open Go Go.Proofs
set_option maxRecDepth 100000
def parseD (toks : List D) : Option (D × Nat × Int):=if 600 < toks.length then some (zeroDoc,0,13) else docP 1000 1000 toks (0,0)
def φparseD : List D -> Option D
 | [l]=>if isSl l && (elems l).all tokB && decide ((elems l).length <= 2 ^ 40) then (parseD (elems l)).map fun r=>.tup [r.1,.int .i64 (r.2.1 : Nat),.int .i64 r.2.2] else none
 | _=>none
set_option maxHeartbeats 8000000 in
theorem ok31 : OkAt Tryz.prog 31 φparseD:=by
 refine okF_of (l:=[]) (m:=[]) (e:=[(69,φC gMay),(70,φC gFact),(71,φC gMust),(72,φC gWord),(73,φC (gPolicy 1000 1000)),(50,φC gEnd)]) .nil .nil (.cons ok69 (.cons ok70 (.cons ok71 (.cons ok72 (.cons (ok73 1000 1000 (by omega) (by omega)) (.cons ok50 .nil)))))) fn31 fun args r h=>?_
 have hM : MonoH []:=.nil
 unfold φparseD at h
 split at h
 ·rename_i l
  split at h
  ·rename_i hc
   simp only [Bool.and_eq_true,decide_eq_true_eq] at hc
   obtain ⟨⟨hs,htk⟩,hlen⟩:=hc
   obtain ⟨n,hn⟩:=isSl_elim hs
   obtain ⟨xs,hx⟩ : ∃ xs,elems l = xs:=⟨_,rfl⟩
   rw [hx] at htk hlen hn h
   subst hn
   unfold parseD at h
   split at h
   ·rename_i g
    have d : decide ((600 : Int) < xs.length) = true:=by simp only [decide_eq_true_eq];omega
    injection h with h
    simp only at h
    subst h
    refine ⟨by simp,rfl,fun H T=>?_⟩
    simp +contextual (maxSteps:=10000000) only [c31,d,zeroDoc,go_sem]
    exact lvM
   ·rename_i g
    have hl : xs.length <= 600:=by omega
    have d : decide ((600 : Int) < xs.length) = false:=by simp only [decide_eq_false_iff_not];omega
    have htq:=toksB_erase htk
    unfold docP at h
    split at h
    ·cases h
    rename_i fs st1 hfs
    obtain ⟨a1,e1⟩:=st1
    obtain ⟨⟨a2,e2⟩,hy2⟩ : ∃ st,mustP xs wUse (a1,e1) = st:=⟨_,rfl⟩
    obtain ⟨w,⟨a3,e3⟩,hy3⟩ : ∃ w st,wordP xs (a2,e2) = (w,st):=⟨_,_,rfl⟩
    obtain ⟨⟨a4,e4⟩,hy4⟩ : ∃ st,mustP xs [59] (a3,e3) = st:=⟨_,rfl⟩
    simp only [hy2,hy3,hy4] at h
    split at h
    ·cases h
    rename_i ps st5 hps
    obtain ⟨a5,e5⟩:=st5
    obtain ⟨⟨a6,e6⟩,hy6⟩ : ∃ st,endP xs (a5,e5) = st:=⟨_,rfl⟩
    simp only [hy6,Option.map_some,Option.some.injEq] at h
    have hfS:=manyL_S (p:=factS) (fun st r (h : factPt xs st = some r)=>by
     unfold factPt at h;injection h with h;rw [<- h];exact fact_shape _ _) 1000 [] _ (fs,(a1,e1)) (by simp) hfs
    have hpS:=manyL_S (p:=polS) (fun st r h=>pol_shape htk h) 1000 [] _ (ps,(a5,e5)) (by simp) hps
    have hfc:=sl_cl fun x hx=>(factS_p (hfS x hx)).2.2.1
    have hpc:=sl_cl fun x hx=>(polS_p (hpS x hx)).2.2.1
    refine ⟨by simp,?_,fun H T=>?_⟩
    ·rw [<- h]
     split <;> simp [D.cl,D.clL,zeroDoc,hfc,hpc]
    simp +contextual (maxSteps:=10000000) only [c31,d,go_sem]
    refine W_for (fun i s'=>∃ (b : Nat) (eb : Int) (u : List D) (d1 : D) (i1 : Option Nat),s'.t 2 = .ptr H.length 0 /\ s'.t 5 = .ptr (H.length + 1) 0 /\ s'.t 6 = .ptr (H.length + 2) 0 ∧
      s'.H = H ++ [.row [.nils,.str [],.nils],.row [sliceD n xs,.int .i64 ((b : Nat) : Int),.int .i64 eb],.row [d1,.str [],.nils]] ∧
      ExtT T s'.T /\ accZ 4 T i1 u d1 s'.T /\ manyL factPt wFact xs (1000 - i) u (b,eb) = some (fs,(a1,e1)) /\ i <= 1000 /\ u.length <= i /\ ∀ x ∈ u,factS x) 1000
     ⟨0,0,0,[],.nils,none,by simp [upd,argT],by simp [upd,argT],by simp [upd,argT],rfl,ExtT.refl _,⟨rfl,rfl⟩,hfs,by omega,by simp,by simp⟩
     (fun i s h=>by obtain ⟨_,_,_,_,_,h⟩:=h;exact h.2.2.2.2.2.2.2.1) ?_ (XE_mono _ _ _)
    rintro i ⟨t',B,T'⟩ ⟨b,eb,u,d1,i1,r2,r5,r6,rfl,hE,hA1,hz,hi',hul,hus⟩
    simp only at r2 r5 r6 hE hA1
    have cc:=fun (g : GE) (rest : List D) (b : Nat) (eb : Int) (d : List D) (r : D) (a' : Nat) (e' : Int) (h : g rest xs b eb = some (r,a',e'))=>φC_own (n:=n) (A:=H ++ [.row [.nils,.str [],.nils]]) (B:=[.row d]) htk hl g rest b eb h
    simp only [List.length_append,List.length_cons,List.length_nil,List.append_assoc,List.cons_append,List.nil_append,Nat.zero_add] at cc
    obtain ⟨k,hk⟩ : ∃ k,1000 - i = k:=⟨_,rfl⟩
    rw [hk] at hz
    cases k with
    | zero=>simp [manyL] at hz
    | succ k =>
    simp only [manyL] at hz
    have ek : 1000 - (i + 1) = k:=by omega
    rcases tf (isP xs (b,eb) wFact) with gd | gd
    ·rw [if_pos gd] at hz
     obtain ⟨x,⟨b1,eb1⟩,hx1⟩ : ∃ x st,factP xs (b + 1,eb) = (x,st):=⟨_,_,rfl⟩
     have hxS : factS x:=by have:=fact_shape xs (b + 1,eb);rw [hx1] at this;exact this
     obtain ⟨f1,f2,f3,f4,f5⟩:=factS_p hxS
     simp only [factPt,hx1] at hz
     have m1 : gMay [.str [102,97,99,116]] xs b eb = some (.bool true,b + 1,eb):=by rw [gMay_at];unfold mayP;rw [show isP xs (b,eb) [102,97,99,116] = true from gd];rfl
     have m2 : gFact [] xs (b + 1) eb = some (x,b1,eb1):=by simp only [gFact,hx1]
     have c1:=cc _ _ _ _ [d1,.str [],.nils] _ _ _ m1
     have c2:=cc _ _ _ _ [d1,.str [],.nils] _ _ _ m2
     simp +contextual (maxSteps:=10000000) only [r2,r5,r6,c1,c2,f2,f4,f5,go_sem]
     refine app_accZ (bytes:=48) x hA1 hE f1 (List.all_eq_true.2 fun y hy=>(factS_p (hus y hy)).1) (by omega) (by omega) fun d3 T2 j3 hB hE2 hk2 hj=>?_
     obtain ⟨hB0,hB1,rfl,hB3⟩:=hB
     simp +contextual (maxSteps:=10000000) only [r2,r5,r6,ek,go_sem]
     exact ⟨b1,eb1,u ++ [x],_,some j3,rfl,hE2,⟨hB0,hB1,rfl,hB3⟩,hz,by omega,by simp;omega,(fun y hy=>by
      rcases List.mem_append.1 hy with hy | hy
      ·exact hus y hy
      ·rw [List.mem_singleton] at hy;subst hy;exact hxS)⟩
    ·rw [if_neg (by rw [gd];decide)] at hz
     injection hz with hz
     injection hz with z1 hz;injection hz with z2 z3
     subst z1;subst z2;subst z3
     have m1 : gMay [.str [102,97,99,116]] xs b eb = some (.bool false,b,eb):=by rw [gMay_at];unfold mayP;rw [show isP xs (b,eb) [102,97,99,116] = false from gd];rfl
     have m2 : gMust [.str [117,115,101]] xs b eb = some (.tup [],a2,e2):=by simp only [gMust];rw [show mustP xs [117,115,101] (b,eb) = (a2,e2) from hy2]
     have m3 : gWord [] xs a2 e2 = some (.str w,a3,e3):=by simp only [gWord,hy3]
     have m4 : gMust [.str [59]] xs a3 e3 = some (.tup [],a4,e4):=by simp only [gMust,hy4]
     have c1:=cc _ _ _ _ [d1,.str [],.nils] _ _ _ m1
     have c2:=cc _ _ _ _ [d1,.str [],.nils] _ _ _ m2
     have c3:=cc _ _ _ _ [d1,.str [],.nils] _ _ _ m3
     have c4:=cc _ _ _ _ [d1,.str w,.nils] _ _ _ m4
     simp +contextual (maxSteps:=10000000) only [r2,r5,r6,c1,c2,c3,c4,go_sem]
     refine W_for (fun i s'=>∃ (b : Nat) (eb : Int) (v : List D) (d2 : D) (i2 : Option Nat) ,s'.t 2 = .ptr H.length 0 /\ s'.t 5 = .ptr (H.length + 1) 0 /\ s'.t 6 = .ptr (H.length + 2) 0 ∧
       s'.H = H ++ [.row [.nils,.str [],.nils],.row [sliceD n xs,.int .i64 ((b : Nat) : Int),.int .i64 eb],.row [d1,.str w,d2]] ∧
       ExtT T s'.T /\ accZ 4 T i1 u d1 s'.T /\ accZ 13 T i2 v d2 s'.T /\ (∀ j,i1 = some j -> i2 ≠ some j) /\ manyL (policyP 1000 1000) wPolicy xs (1000 - i) v (b,eb) = some (ps,(a5,e5)) /\ i <= 1000 /\ v.length <= i /\ ∀ x ∈ v,polS x) 1000
      ⟨0,a4,e4,[],.nils,none,by simp [upd,r2],by simp [upd,r5],by simp [upd,r6],rfl,hE,hA1,⟨rfl,rfl⟩,(fun j _ q=>by cases q),hps,by omega,by simp,by simp⟩
      (fun i s h=>by obtain ⟨_,_,_,_,_,h⟩:=h;exact h.2.2.2.2.2.2.2.2.2.1) ?_ (XE_mono _ _ _)
     rintro i' ⟨t2,B2,T2⟩ ⟨b',eb',v,d2,i2,q2,q5,q6,rfl,hE2,hB1,hB2,hD,hz2,hi2,hvl,hvs⟩
     simp only at q2 q5 q6 hE2 hB1 hB2
     obtain ⟨k2,hk2⟩ : ∃ k,1000 - i' = k:=⟨_,rfl⟩
     rw [hk2] at hz2
     cases k2 with
     | zero=>simp [manyL] at hz2
     | succ k2 =>
     simp only [manyL] at hz2
     have ek2 : 1000 - (i' + 1) = k2:=by omega
     rcases tf (isP xs (b',eb') wPolicy) with gp | gp
     ·rw [if_pos gp] at hz2
      split at hz2
      ·cases hz2
      rename_i x st1 hx1
      obtain ⟨b1,eb1⟩:=st1
      have hxS : polS x:=pol_shape htk hx1
      obtain ⟨f1,f2,f3,f4,f5⟩:=polS_p hxS
      have m1 : gMay [.str [112,111,108,105,99,121]] xs b' eb' = some (.bool true,b' + 1,eb'):=by rw [gMay_at];unfold mayP;rw [show isP xs (b',eb') [112,111,108,105,99,121] = true from gp];rfl
      have m2 : gPolicy 1000 1000 [] xs (b' + 1) eb' = some (x,b1,eb1):=hx1
      have c1:=cc _ _ _ _ [d1,.str w,d2] _ _ _ m1
      have c2:=cc _ _ _ _ [d1,.str w,d2] _ _ _ m2
      simp +contextual (maxSteps:=10000000) only [q2,q5,q6,c1,c2,f2,f4,f5,go_sem]
      refine app_accZ (bytes:=208) x hB2 hE2 f1 (List.all_eq_true.2 fun y hy=>(polS_p (hvs y hy)).1) (by omega) (by omega) fun d3 T3 j3 hB hE3 hkk hj=>?_
      obtain ⟨hB0,hB1',rfl,hB3⟩:=hB
      simp +contextual (maxSteps:=10000000) only [q2,q5,q6,ek2,go_sem]
      exact ⟨b1,eb1,v ++ [x],_,some j3,rfl,hE3,accZ_keep hB1 (fun j hj2=>by
       subst hj2
       exact hkk j (fun q=>hD j rfl q.symm) (accZ_lt hB1)),⟨hB0,hB1',rfl,hB3⟩,(fun j q q2=>by
       injection q2 with q2;subst q2;subst q
       rcases hj with hj | hj
       ·have:=accZ_lt hB1;omega
       ·exact hD _ rfl hj.symm),hz2,by omega,by simp;omega,(fun y hy=>by
       rcases List.mem_append.1 hy with hy | hy
       ·exact hvs y hy
       ·rw [List.mem_singleton] at hy;subst hy;exact hxS)⟩
     ·rw [if_neg (by rw [gp];decide)] at hz2
      injection hz2 with hz2
      injection hz2 with z1 hz2;injection hz2 with z2 z3
      subst z1;subst z2;subst z3
      have m1 : gMay [.str [112,111,108,105,99,121]] xs b' eb' = some (.bool false,b',eb'):=by rw [gMay_at];unfold mayP;rw [show isP xs (b',eb') [112,111,108,105,99,121] = false from gp];rfl
      have m2 : gEnd [] xs b' eb' = some (if e6 == 0 then .tup [.int .i64 0,.int .i64 0] else .tup [.int .i64 (a6 : Nat),.int .i64 e6],a6,e6):=by simp only [gEnd,hy6]
      have fe : D.eraseL u = u:=eraseL_id fun x hx=>(factS_p (hfS x hx)).2.1
      have pe : D.eraseL v = v:=eraseL_id fun x hx=>(polS_p (hpS x hx)).2.1
      have e1:=accZ_erase hB1 fe
      have e2:=accZ_erase hB2 pe
      have c1:=cc _ _ _ _ [d1,.str w,d2] _ _ _ m1
      rcases tf (e6 == 0) with g6 | g6
      ·rw [g6] at m2
       have g6' : (e6 != 0) = false:=by simpa using g6
       rw [g6'] at h
       simp only [Bool.false_eq_true,if_false] at h
       rw [if_pos rfl] at m2
       have c2:=cc _ _ _ _ [d1,.str w,d2] _ _ _ m2
       have z0 : ((0 : Int) != 0) = false:=rfl
       subst h
       simp +contextual (maxSteps:=10000000) only [q2,q5,q6,c1,c2,z0,go_sem]
       refine leavesE_mk ?_ ⟨_,rfl⟩ hE2
       simp only [D.erase,D.eraseL,e1,e2]
      ·rw [g6] at m2
       have g6' : (e6 != 0) = true:=by simpa using g6
       rw [g6'] at h
       simp only [if_true] at h
       rw [if_neg (by decide)] at m2
       have c2:=cc _ _ _ _ [d1,.str w,d2] _ _ _ m2
       subst h
       simp +contextual (maxSteps:=10000000) only [q2,q5,q6,c1,c2,g6',zeroDoc,go_sem]
       exact leavesE_mk rfl ⟨_,rfl⟩ hE2
  ·cases h
 ·cases h
end GP
namespace GP
open Go Go.Proofs
set_option maxRecDepth 100000
def isTxs (l : D) : Prop:=∃ (m : Bool) (xs : List (List UInt8)),l = sliceD m (xs.map D.str) /\ xs.length <= 2 ^ 47 /\ ∀ s ∈ xs,s.length <= 2 ^ 47
def txs (l : D) : List (List UInt8):=(elems l).map strB
theorem txs_mk (m : Bool) (xs : List (List UInt8)) : txs (sliceD m (xs.map D.str)) = xs:=by
 unfold txs
 rw [elems_sliceD,List.map_map]
 have : (strB ∘ D.str) = id:=rfl
 rw [this,List.map_id]
def txtB (s : List UInt8) : Bool:=formI 3 s 0
open Classical in
noncomputable def φtexts : List D -> Option D
 | [l]=>if isTxs l then some (.bool ((txs l).all txtB)) else none
 | _=>none
set_option maxHeartbeats 1000000 in
theorem ok67 : OkAt Tryz.prog 67 φtexts:=by
 refine ok_of (l:=[(57,φform)]) (.cons ok57 .nil) fn67 fun args r h=>?_
 unfold φtexts at h
 split at h
 ·rename_i l
  split at h
  ·rename_i hc
   injection h with h;subst h
   obtain ⟨m,xs,rfl,hl,hs⟩:=hc
   rw [txs_mk]
   refine ⟨by simp,by simp [D.cl],fun H T=>?_⟩
   simp +contextual (maxSteps:=10000000) only [c67,go_sem]
   refine W_for (fun j s'=>s'.t 0 = sliceD m (xs.map D.str) /\ s'.t 3 = .int .i64 j /\ s'.H = H /\ s'.T = T /\ j <= xs.length /\ (xs.take j).all txtB = true) xs.length ⟨0,by simp [upd,argT]⟩ (fun i s h=>h.2.2.2.2.1) ?_ (XL_mono _)
   rintro j ⟨t1,B,T'⟩ ⟨r0,r3,rfl,rfl,hj,hc⟩
   simp only at r0 r3
   by_cases ha : j < xs.length
   ·have d1 : decide ((j : Int) < ((xs.map D.str).length : Nat)) = true:=by simpa using ha
    have ex : xs[j]? = some xs[j]:=by simp [ha]
    have ey : (xs.map D.str)[j]? = some (.str xs[j]):=by rw [List.getElem?_map,ex];rfl
    have nx:=fun hp=>all_nx' (p:=txtB) ex hc hp
    have no:=fun hp=>all_no' (p:=txtB) ex hp
    have hsx:=hs _ (List.getElem_mem ha)
    obtain ⟨x,hx⟩ : ∃ x,xs[j] = x:=⟨_,rfl⟩
    rw [hx] at ex ey nx no hsx
    have px : φform [.agg [.int .i64 3,.str x,.int .i64 0]] = some (.bool (txtB x)):=by simp only [φform];rw [if_pos (by omega)];rfl
    obtain ⟨xb,hxb⟩ : ∃ z,txtB x = z:=⟨_,rfl⟩
    simp only [hxb] at px nx no
    rw [List.length_map] at d1
    cases xb with
    | true =>
     have nx:=nx rfl
     simp +contextual (maxSteps:=10000000) only [r0,r3,d1,ey,px,List.length_map,wrap_succ j (by omega),go_sem]
     exact ⟨by omega,nx⟩
    | false =>
     have no:=no rfl
     simp +contextual (maxSteps:=10000000) only [r0,r3,d1,ey,px,List.length_map,no,go_sem]
   ·have d1 : decide ((j : Int) < xs.length) = false:=by simpa using ha
    have : j = xs.length:=by omega
    subst this
    rw [List.take_length] at hc
    simp +contextual (maxSteps:=10000000) only [r0,r3,d1,List.length_map,hc,go_sem]
  ·cases h
 ·cases h
noncomputable def optB (b : Bool) (e : D) : Bool:=if b then fmR nodeB e && decide (dpt nodeB e <= 12) else sameE nodeB e zeroE
open Classical in
noncomputable def φopt : List D -> Option D
 | [.bool b,e]=>if isE nodeB e then some (.bool (optB b e)) else none
 | _=>none
theorem zero_isE : isE nodeB zeroE:=isE_le (lvB_1 10000) (isE_of (m:=0) (op:=[]) (k:=0) (i:=0) (s:=[]) (nl:=true) (l:=[]) (who:=[]) (name:=[]) (q:=true) (ps:=[]) (by simp) (by simp) (by simp) zero_isVr (by simp) (fun z hz=>by cases hz))
theorem ok66 : OkAt Tryz.prog 66 φopt:=by
 refine ok_of (l:=[(20,φsmE nodeB),(21,φfmR nodeB),(22,φdpt nodeB)]) (.cons (ok20 nodeB) (.cons (ok21 nodeB) (.cons (ok22 nodeB nodeB_le) .nil))) fn66 fun args r h=>?_
 unfold φopt at h
 split at h
 ·rename_i b e
  split at h
  ·rename_i he
   injection h with h;subst h
   refine ⟨by simp,by simp [D.cl],fun H T=>?_⟩
   have ee:=isE_erase he
   obtain ⟨q1,q2,q3,q4⟩:=isE_cells he
   have p1 : φsmE nodeB [e,zeroE] = some (.bool (sameE nodeB e zeroE)):=by simp only [φsmE];rw [if_pos ⟨he,zero_isE⟩]
   have p2 : φfmR nodeB [e] = some (.bool (fmR nodeB e)):=by simp only [φfmR];rw [if_pos he]
   have p3 : φdpt nodeB [e] = some (.int .i64 ((dpt nodeB e : Nat) : Int)):=by simp only [φdpt];rw [if_pos he]
   have p4 : decide (((dpt nodeB e : Nat) : Int) <= 12) = decide (dpt nodeB e <= 12):=by rw [decide_eq_decide];omega
   unfold optB
   obtain ⟨s,hs⟩ : ∃ z,sameE nodeB e zeroE = z:=⟨_,rfl⟩
   obtain ⟨f,hf⟩ : ∃ z,fmR nodeB e = z:=⟨_,rfl⟩
   obtain ⟨dp,hdp⟩ : ∃ z,dpt nodeB e = z:=⟨_,rfl⟩
   rw [hs] at p1 ⊢;rw [hf] at p2 ⊢;rw [hdp] at p3 p4 ⊢
   simp only [zeroE] at p1
   cases b with
   | false=>simp +contextual (maxSteps:=10000000) only [c66,ee,q1,q2,q3,q4,p1,go_sem]
   | true =>
    cases f with
    | false=>simp +contextual (maxSteps:=10000000) only [c66,ee,q1,q2,q3,q4,p2,go_sem]
    | true=>simp +contextual (maxSteps:=10000000) only [c66,ee,q1,q2,q3,q4,p2,p3,p4,go_sem]
  ·cases h
 ·cases h
end GP
namespace GP
open Go Go.Proofs
set_option maxRecDepth 100000
def eqAt (xs ys : List (List UInt8)) (i : Nat) : Bool:=match xs[i]?,ys[i]? with
 | some x,some y=>x == y
 | _,_=>true
def sameT (xs ys : List (List UInt8)) : Bool:=if xs.length == ys.length then (List.range xs.length).all (eqAt xs ys) else false
open Classical in
noncomputable def φsameT : List D -> Option D
 | [l,k]=>if isTxs l /\ isTxs k then some (.bool (sameT (txs l) (txs k))) else none
 | _=>none
set_option maxHeartbeats 1000000 in
theorem ok74 : OkAt Tryz.prog 74 φsameT:=by
 refine ok_of (l:=[]) .nil fn74 fun args r h=>?_
 unfold φsameT at h
 split at h
 ·rename_i l k
  split at h
  ·rename_i hc
   injection h with h;subst h
   obtain ⟨⟨m,xs,rfl,hl,_⟩,m',ys,rfl,hl',_⟩:=hc
   rw [txs_mk,txs_mk]
   refine ⟨by simp,by simp [D.cl],fun H T=>?_⟩
   have bl:=bne_len xs.length ys.length
   unfold sameT
   rcases tf (xs.length == ys.length) with g4 | g4
   ·rw [g4] at bl ⊢
    rw [if_pos rfl]
    have hle : xs.length = ys.length:=by simpa using g4
    simp +contextual (maxSteps:=10000000) only [c74,List.length_map,bl,go_sem]
    refine W_for (fun j s'=>s'.t 0 = sliceD m (xs.map D.str) /\ s'.t 1 = sliceD m' (ys.map D.str) /\ s'.t 5 = .int .i64 j /\ s'.H = H /\ s'.T = T /\ j <= xs.length /\ (List.range j).all (eqAt xs ys) = true) xs.length ⟨0,by simp [upd,argT]⟩ (fun i s h=>h.2.2.2.2.2.1) ?_ (XL_mono _)
    rintro j ⟨t1,B,T'⟩ ⟨r0,r1,r5,rfl,rfl,hj,hc'⟩
    simp only at r0 r1 r5
    by_cases ha : j < xs.length
    ·have d1 : decide ((j : Int) < xs.length) = true:=by simpa using ha
     have hb : j < ys.length:=by omega
     have ex : (xs.map D.str)[j]? = some (.str xs[j]):=by rw [List.getElem?_map,List.getElem?_eq_getElem ha];rfl
     have ey : (ys.map D.str)[j]? = some (.str ys[j]):=by rw [List.getElem?_map,List.getElem?_eq_getElem hb];rfl
     have G : eqAt xs ys j = (xs[j] == ys[j]):=by unfold eqAt;rw [List.getElem?_eq_getElem ha,List.getElem?_eq_getElem hb]
     have bad : eqAt xs ys j = false -> (List.range xs.length).all (eqAt xs ys) = false:=fun h=>range_false_of h ha
     rw [G] at bad
     have nx : (xs[j] == ys[j]) = true -> (List.range (j + 1)).all (eqAt xs ys) = true:=fun h=>by
      rw [List.range_succ,List.all_append,hc']
      simp [G,h]
     obtain ⟨x,hX⟩ : ∃ x,xs[j] = x:=⟨_,rfl⟩
     obtain ⟨y,hY⟩ : ∃ y,ys[j] = y:=⟨_,rfl⟩
     rw [hX] at ex bad nx
     rw [hY] at ey bad nx
     rcases tf (x != y) with e | e
     ·have e' : (x == y) = false:=by simpa using e
      have bad:=bad e'
      simp +contextual (maxSteps:=10000000) only [r0,r1,r5,d1,List.length_map,ex,ey,e,bad,go_sem]
     ·have e' : (x == y) = true:=by simpa using e
      have nx:=nx e'
      simp +contextual (maxSteps:=10000000) only [r0,r1,r5,d1,List.length_map,ex,ey,e,wrap_succ j (by omega),go_sem]
      exact ⟨by omega,by rw [List.range_succ] at nx;exact nx⟩
    ·have d1 : decide ((j : Int) < xs.length) = false:=by simpa using ha
     have : j = xs.length:=by omega
     subst this
     simp +contextual (maxSteps:=10000000) only [r0,r1,r5,d1,List.length_map,hc',go_sem]
   ·rw [g4] at bl ⊢
    rw [if_neg (by decide)]
    simp +contextual (maxSteps:=10000000) only [c74,List.length_map,bl,go_sem]
  ·cases h
 ·cases h
end GP
namespace GP
open Go Go.Proofs
set_option maxRecDepth 100000
theorem awake18 : φtrueE [] = some (.bool true):=rfl
end GP
