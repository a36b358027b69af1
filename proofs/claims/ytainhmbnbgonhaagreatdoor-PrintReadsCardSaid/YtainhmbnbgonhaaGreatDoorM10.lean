import Derived.Test.YtainhmbnbgonhaaGreatDoorM9
set_option linter.unusedSimpArgs false
set_option linter.unnecessarySimpa false
namespace GP
open Go Go.Proofs
set_option maxRecDepth 100000
def sbT (toks : List D) (a b : Nat) : List D:=(toks.take b).drop a
def cnt2 (toks : List D) (a b : Nat) : Nat:=cntP (sbT toks a b)
theorem cntP_app (l m : List D) : cntP (l ++ m) = cntP l + cntP m:=by simp [cntP,List.filter_append]
theorem sbT_add {toks : List D} {a b c : Nat} (h1 : a <= b) (h2 : b <= c) : sbT toks a c = sbT toks a b ++ sbT toks b c:=by
 unfold sbT
 have e : toks.take c = toks.take b ++ (toks.take c).drop b:=by
  have:=(List.take_append_drop b (toks.take c)).symm
  rwa [List.take_take,Nat.min_eq_left h2] at this
 rcases Nat.lt_or_ge (toks.take b).length a with hl | hl
 ·have hb : toks.length < b:=by
   rcases Nat.lt_or_ge toks.length b with h | h
   ·exact h
   ·rw [List.length_take,Nat.min_eq_left h] at hl;omega
  rw [List.drop_eq_nil_of_le (Nat.le_of_lt hl),List.take_of_length_le (by omega : toks.length <= c)]
  rw [List.length_take] at hl
  rw [List.drop_eq_nil_of_le (by omega),List.drop_eq_nil_of_le (by omega)];rfl
 ·conv=>lhs;rw [e]
  rw [List.drop_append_of_le_length hl]
theorem cnt2_add {toks : List D} {a b c : Nat} (h1 : a <= b) (h2 : b <= c) : cnt2 toks a c = cnt2 toks a b + cnt2 toks b c:=by
 unfold cnt2;rw [sbT_add h1 h2,cntP_app]
theorem cnt2_self (toks : List D) (a : Nat) : cnt2 toks a a = 0:=by
 unfold cnt2 sbT
 rw [List.drop_eq_nil_of_le (by rw [List.length_take];omega)];rfl
theorem cnt2_one {toks : List D} {a : Nat} {t : D} (h : toks[a]? = some t) : cnt2 toks a (a + 1) = if pkB t then 1 else 0:=by
 unfold cnt2 sbT
 have hl:=lt_of_get h
 rw [List.take_add_one,h,List.drop_append_of_le_length (by rw [List.length_take];omega),List.drop_eq_nil_of_le (by rw [List.length_take];omega)]
 unfold cntP
 simp only [Option.toList_some,List.nil_append,List.filter_cons,List.filter_nil]
 split <;> rfl
theorem now_at {toks : List D} {st : St} (h : tk (nowS toks st) ≠ 0) : st.2 = 0 /\ toks[st.1]? = some (nowS toks st) /\ formT (nowS toks st) = true:=by
 unfold nowS nowP at h ⊢
 split at h
 ·exact absurd rfl h
 ·rename_i he
  rw [if_neg he]
  split at h
  ·rename_i t ht
   split at h
   ·rename_i hf
    rw [if_pos hf]
    exact ⟨by simpa using he,ht,hf⟩
   ·exact absurd rfl h
  ·exact absurd rfl h
theorem is_at {toks : List D} {st : St} {w : List UInt8} (h : isP toks st w = true) : st.2 = 0 /\ toks[st.1]? = some (nowS toks st) /\ ts (nowS toks st) = w /\ ((tk (nowS toks st) = 1 /\ wordB w = true) ∨ (tk (nowS toks st) = 5 /\ isSign w = true)):=by
 unfold isP at h
 simp only [Bool.and_eq_true,Bool.or_eq_true,beq_iff_eq] at h
 obtain ⟨h1,h2⟩:=h
 obtain ⟨a1,a2,a3⟩:=now_at (toks:=toks) (st:=st) (by omega)
 refine ⟨a1,a2,h2,?_⟩
 unfold formT formI at a3
 rw [h2] at a3
 rcases h1 with h1 | h1
 ·rw [h1] at a3
  simp only [beq_self_eq_true,if_true,Bool.and_eq_true] at a3
  exact .inl ⟨h1,a3.1⟩
 ·rw [h1] at a3
  have : isSign w = true:=by
   revert a3
   simp only [show ((5 : Int) == 1) = false from rfl,show ((5 : Int) == 2) = false from rfl,show ((5 : Int) == 3) = false from rfl,show ((5 : Int) == 4) = false from rfl,Bool.false_eq_true,if_false,beq_self_eq_true,if_true,Bool.and_eq_true]
   exact fun h=>h.1
  exact .inr ⟨h1,this⟩
theorem pk_word {t : D} (h : tk t = 1) : pkB t = ((ts t != wTrue) && (ts t != wFalse)):=by
 unfold pkB;rw [h];simp
theorem pk_sign {t : D} (h : tk t = 5) : pkB t = ((ts t == [46]) || (ts t == [43]) || (ts t == [42]) || (ts t == [60]) || (ts t == [91])):=by
 unfold pkB;rw [h];simp
theorem pk_else {t : D} (h1 : tk t ≠ 1) (h5 : tk t ≠ 5) : pkB t = false:=by
 unfold pkB
 rw [show (tk t == 1) = false by simpa using h1,show (tk t == 5) = false by simpa using h5];rfl
def pkW (w : List UInt8) : Nat:=if isSign w then (if ((w == [46]) || (w == [43]) || (w == [42]) || (w == [60]) || (w == [91])) then 1 else 0) else (if (w != wTrue) && (w != wFalse) then 1 else 0)
theorem word_sign {w : List UInt8} (h : wordB w = true) : isSign w = false:=by
 cases hs : isSign w with
 | false=>rfl
 | true =>
  have : w ∈ signsR:=by
   unfold isSign at hs
   obtain ⟨x,hx,he⟩:=List.any_eq_true.1 hs
   have : x = w:=by simpa using he
   rw [<- this];exact hx
  have key : ∀ w ∈ signsR,wordB w = false:=by decide
  rw [key w this] at h;cases h
theorem cnt_is {toks : List D} {st : St} {w : List UInt8} (h : isP toks st w = true) : cnt2 toks st.1 (st.1 + 1) = pkW w:=by
 obtain ⟨_,h2,h3,h4⟩:=is_at h
 rw [cnt2_one h2]
 unfold pkW
 rcases h4 with ⟨h4,h5⟩ | ⟨h4,h5⟩
 ·rw [pk_word h4,h3,word_sign h5];rfl
 ·rw [pk_sign h4,h3,h5];rfl
theorem must_ok {toks : List D} {w : List UInt8} {st : St} (h : (mustP toks w st).2 = 0) : isP toks st w = true /\ mustP toks w st = (st.1 + 1,0):=by
 unfold mustP at h ⊢
 split at h
 ·rename_i g;rw [if_pos g];exact ⟨g,by simp only at h;rw [h]⟩
 ·exfalso
  unfold failP at h
  split at h
  ·cases h
  ·rename_i g;exact g (by simpa using h)
theorem kind_ok {toks : List D} {k : Int} (hk : k ≠ 0) {st : St} (h : (kindP toks k st).2.2 = 0) : tk (nowS toks st) = k /\ toks[st.1]? = some (nowS toks st) /\ formT (nowS toks st) = true /\ kindP toks k st = (nowS toks st,(st.1 + 1,0)):=by
 unfold kindP at h ⊢
 split at h
 ·exfalso
  unfold failP at h
  split at h
  ·cases h
  ·rename_i g;exact g (by simpa using h)
 ·rename_i g
  rw [if_neg g]
  have e : tk (nowS toks st) = k:=by simpa using g
  obtain ⟨a1,a2,a3⟩:=now_at (toks:=toks) (st:=st) (by omega)
  exact ⟨e,a2,a3,by rw [a1]⟩
theorem name_ok {toks : List D} {st : St} (h : (nameP toks st).2.2 = 0) : tk (nowS toks st) = 1 /\ toks[st.1]? = some (nowS toks st) /\ nameB (nameP toks st).1 = true /\ (nameP toks st).2 = (st.1 + 1,0) /\ (nameP toks st).1 = ts (nowS toks st):=by
 unfold nameP at h ⊢
 split at h
 ·exfalso
  unfold failP at h
  split at h
  ·cases h
  ·rename_i g;exact g (by simpa using h)
 ·rename_i g
  rw [if_neg g]
  simp only [Bool.or_eq_true,not_or,bne_iff_ne,ne_eq,Decidable.not_not,Bool.not_eq_true] at g
  obtain ⟨a1,a2,a3⟩:=now_at (toks:=toks) (st:=st) (by omega)
  refine ⟨g.1,a2,?_,by rw [a1],rfl⟩
  unfold nameB
  rw [<- keptB_in,g.2]
  have:=a3
  unfold formT formI at this
  rw [g.1] at this
  simp only [beq_self_eq_true,if_true,Bool.and_eq_true] at this
  unfold formI
  simp only [beq_self_eq_true,if_true,this.1]
  rfl
theorem one_ok {toks : List D} {ws : List (List UInt8)} {st : St} (h : (oneP toks ws st).2.2 = 0) : isP toks st (oneP toks ws st).1 = true /\ (oneP toks ws st).1 ∈ ws /\ (oneP toks ws st).2 = (st.1 + 1,0):=by
 unfold oneP at h ⊢
 split at h
 ·rename_i w hw
  exact ⟨firstP_is hw,firstP_mem hw,by simp only at h;rw [h]⟩
 ·exfalso
  unfold failP at h
  split at h
  ·cases h
  ·rename_i g;exact g (by simpa using h)
theorem inB_mem {l : List (List UInt8)} {s : List UInt8} (h : s ∈ l) : inB l s = true:=List.any_eq_true.2 ⟨s,h,by simp⟩
theorem nameB_pk {s : List UInt8} (h : nameB s = true) : (s != wTrue) = true /\ (s != wFalse) = true:=by
 unfold nameB at h
 simp only [Bool.and_eq_true,Bool.not_eq_true'] at h
 constructor
 ·cases hx : s != wTrue with
  | true=>rfl
  | false => have : s = wTrue := by simpa using hx
             rw [this] at h;have:=h.2;revert this;decide
 ·cases hx : s != wFalse with
  | true=>rfl
  | false => have : s = wFalse := by simpa using hx
             rw [this] at h;have:=h.2;revert this;decide
theorem attr_ok {toks : List D} {st : St} (h : (attrP toks st).2.2.2 = 0) : inB whoW (attrP toks st).1 = true /\ nameB (attrP toks st).2.1 = true /\ (attrP toks st).2.2 = (st.1 + 3,0) /\ cnt2 toks st.1 (st.1 + 3) = 3:=by
 have hs:=step_name toks (mustP toks [46] (oneP toks whoW st).2)
 have h3 : (nameP toks (mustP toks [46] (oneP toks whoW st).2)).2.2 = 0:=h
 have h2:=hs.e0 h3
 have h1:=(step_must toks [46] (oneP toks whoW st).2).e0 h2
 obtain ⟨a1,a2,a3⟩:=one_ok h1
 obtain ⟨b1,b2⟩:=must_ok h2
 obtain ⟨c1,c2,c3,c4,c5⟩:=name_ok h3
 unfold attrP
 rw [a3] at b1 b2
 rw [a3,b2] at c1 c2 c3 c4 c5 ⊢
 simp only at b1 c1 c2 c3 c4 c5 ⊢
 refine ⟨inB_mem a2,c3,by rw [c4],?_⟩
 rw [cnt2_add (b:=st.1 + 1) (by omega) (by omega),cnt2_add (a:=st.1 + 1) (b:=st.1 + 1 + 1) (by omega) (by omega),cnt_is a1]
 have e2:=cnt_is b1
 simp only at e2
 rw [e2]
 have e3:=cnt2_one c2
 rw [show st.1 + 3 = st.1 + 1 + 1 + 1 by omega,e3,pk_word c1,← c5]
 obtain ⟨n1,n2⟩:=nameB_pk c3
 rw [n1,n2]
 have key : ∀ w ∈ whoW,pkW w = 1:=by decide
 rw [key _ a2]
 rfl
end GP
namespace GP
open Go Go.Proofs
set_option maxRecDepth 100000
theorem same_zero : sameB zeroV zeroV = true:=by decide
theorem fmTop_z {e : D} (hV : eV e = zeroV) (hw : ewho e = []) (hn : ename e = []) (g1 : (eop e == sVal) = false) (g3 : (eop e == sAttr) = false) (g4 : (eop e == sHas) = false) : (eop e == sRole) = false -> fmTop e = true:=by
 intro g5
 unfold fmTop
 rw [if_neg (by rw [g1];decide),hV,same_zero,if_neg (by decide),g3,g4,if_neg (by decide),if_neg (by rw [g5];decide),hw,hn]
 rfl
theorem good_two {op : List UInt8} {a b : D} (ho : op.length <= 2 ^ 47) (h : isOp2 op) (ha : GoodE a) (hb : GoodE b) : GoodE (twoD op a b):=by
 obtain ⟨g1,g2,g3,g4,g5,g6,g7,g8⟩:=op2_not h
 refine goodE_mk ?_ ?_ ?_ ?_ (fmTop_z rfl rfl rfl g1 g3 g4 g5)
 ·exact ⟨_,two_isE ho (isE_le (Nat.le_max_left _ _) ha.t.can) (isE_le (Nat.le_max_right _ _) hb.t.can)⟩
 ·show 0 <= stI op
  unfold isOp2 at h;omega
 ·show (([a,b] : List D).length : Int) = arN op
  rw [op2_ar h];rfl
 ·intro x hx
  have hx : x ∈ [a,b]:=hx
  simp only [List.mem_cons,List.not_mem_nil,or_false] at hx
  rcases hx with rfl | rfl
  ·exact ha
  ·exact hb
theorem tk_twoD {full : Bool} {op : List UInt8} {a b : D} (ho : op.length <= 2 ^ 47) (h : isOp2 op) (ha : GoodE a) (hb : GoodE b) : tkC full (twoD op a b) = parW full (stI (eop a)) (lstS op) (tkC full a) ++ (opTok op :: parW full (stI (eop b)) (stI op + 1) (tkC full b)) :=
 tk_two (good_two ho h ha hb) h
theorem good_one {op : List UInt8} {a : D} (h : op = sSize ∨ op = sNot ∨ op = sNeg) (ha : GoodE a) : GoodE (oneD op a):=by
 have hl : op.length <= 2 ^ 47:=by rcases h with rfl | rfl | rfl <;> decide
 refine goodE_mk ⟨_,one_isE hl ha.t.can⟩ ?_ ?_ ?_ (fmTop_z rfl rfl rfl ?_ ?_ ?_ ?_)
 ·show 0 <= stI op
  rcases h with rfl | rfl | rfl <;> decide
 ·show (1 : Int) = arN op
  rcases h with rfl | rfl | rfl <;> decide
 ·intro x hx
  have hx : x ∈ [a]:=hx
  rw [List.mem_singleton] at hx;subst hx;exact ha
 ·show (op == sVal) = false
  rcases h with rfl | rfl | rfl <;> decide
 ·show (op == sAttr) = false
  rcases h with rfl | rfl | rfl <;> decide
 ·show (op == sHas) = false
  rcases h with rfl | rfl | rfl <;> decide
 ·show (op == sRole) = false
  rcases h with rfl | rfl | rfl <;> decide
theorem good_leaf {op who name : List UInt8} (h : (op = sNow /\ who = [] /\ name = []) ∨ ((op = sAttr ∨ op = sHas) /\ inB whoW who = true /\ nameB name = true) ∨ (op = sRole /\ who = [] /\ formI 3 name 0 = true)) (h1 : who.length <= 2 ^ 47) (h2 : name.length <= 2 ^ 47) : GoodE (leafD op who name):=by
 have hop : op = sNow ∨ op = sAttr ∨ op = sHas ∨ op = sRole:=by
  rcases h with ⟨rfl,_⟩ | ⟨rfl | rfl,_⟩ | ⟨rfl,_⟩ <;> simp
 have hl : op.length <= 2 ^ 47:=by rcases hop with rfl | rfl | rfl | rfl <;> decide
 refine goodE_mk ⟨_,leaf_isE hl h1 h2⟩ ?_ ?_ (fun x hx=>by cases hx) ?_
 ·show 0 <= stI op
  rcases hop with rfl | rfl | rfl | rfl <;> decide
 ·show (0 : Int) = arN op
  rcases hop with rfl | rfl | rfl | rfl <;> decide
 ·show (if op == sVal then valB zeroV && (who == []) && (name == []) else if !sameB zeroV zeroV then false else if (op == sAttr) || (op == sHas) then inB whoW who && nameB name else if op == sRole then (who == []) && formI 3 name 0 else (who == []) && (name == [])) = true
  rcases h with ⟨rfl,rfl,rfl⟩ | ⟨rfl | rfl,h1,h2⟩ | ⟨rfl,rfl,h2⟩
  ·decide
  ·rw [if_neg (by decide),if_neg (by decide),if_pos (by decide),h1,h2];rfl
  ·rw [if_neg (by decide),if_neg (by decide),if_pos (by decide),h1,h2];rfl
  ·rw [if_neg (by decide),if_neg (by decide),if_neg (by decide),if_pos (by decide),h2];rfl
theorem valE_parts {v : D} (h : isVr v) : eop (valE v) = sVal /\ eV (valE v) = v /\ ewho (valE v) = [] /\ ename (valE v) = [] /\ eps (valE v) = []:=by
 obtain ⟨k,i,s,n,l,rfl,_⟩:=isV_elim h.1
 exact ⟨rfl,rfl,rfl,rfl,rfl⟩
theorem good_val {v : D} (hv : isVr v) (h : valB v = true) : GoodE (valE v):=by
 obtain ⟨e1,e2,e3,e4,e5⟩:=valE_parts hv
 refine goodE_mk ⟨_,val_isE hv⟩ (by rw [e1];decide) (by rw [e1,e5];decide) (fun x hx=>by rw [e5] at hx;cases hx) ?_
 unfold fmTop
 rw [e1,e2,e3,e4,if_pos (by decide),h];rfl
theorem tk_valE {full : Bool} {v : D} (hv : isVr v) (h : valB v = true) : tkC full (valE v) = litT v:=by
 obtain ⟨e1,e2,_⟩:=valE_parts hv
 rw [tk_val (good_val hv h) (by rw [e1];decide),e2]
structure Rdd (toks : List D) (s : Int) (x : D) (a b : Nat) : Prop where
 g : GoodE x
 c : cntP (tkC true x) = cnt2 toks a b
 m : (parW false (stI (eop x)) s (tkC false x)).length <= b - a
 l : a < b
theorem parW_f (s s' : Int) (l : List D) : parW false s s' l = if s' <= s then l else tP :: (l ++ [tQ]):=by
 unfold parW
 simp only [Bool.not_false,Bool.true_or,Bool.and_true,decide_eq_true_eq]
theorem parW_mono {s s1 s2 : Int} (h : s1 <= s2) (l : List D) : (parW false s s1 l).length <= (parW false s s2 l).length:=by
 rw [parW_f,parW_f]
 split <;> split <;> simp <;> omega
theorem parW_7 (s s1 : Int) (l : List D) : (parW false s s1 l).length <= l.length + 2:=by
 rw [parW_f];split <;> simp
theorem parW_own {s s' : Int} (h : s' <= s) (l : List D) : parW false s s' l = l:=by rw [parW_f,if_pos h]
theorem cnt_par (full : Bool) (s s' : Int) (l : List D) : cntP (parW full s s' l) = cntP l:=by
 unfold parW
 split
 ·rfl
 ·have e : tP :: (l ++ [tQ]) = [tP] ++ l ++ [tQ]:=by simp
  rw [e,cntP_app,cntP_app]
  show 0 + cntP l + 0 = cntP l
  omega
theorem cntP_cons (t : D) (l : List D) : cntP (t :: l) = (if pkB t then 1 else 0) + cntP l:=by
 unfold cntP
 rw [List.filter_cons]
 split
 ·simp;omega
 ·simp
theorem Rdd.up {toks : List D} {s s2 : Int} {x : D} {a b : Nat} (h : Rdd toks s2 x a b) (hs : s <= s2) : Rdd toks s x a b :=
 ⟨h.g,h.c,Nat.le_trans (parW_mono hs _) h.m,h.l⟩
def ops2 : List (List UInt8):=[wOr,wAnd,[61,61],[33,61],[60],[60,61],[62],[62,61],[105,110],[43],[45],[42]]
theorem ops2_is {op : List UInt8} (h : op ∈ ops2) : isOp2 op /\ op.length <= 2 ^ 47 /\ (if pkB (opTok op) then 1 else 0) = pkW op:=by
 have key : ∀ op ∈ ops2,(stI op = 0 ∨ stI op = 1 ∨ stI op = 3 ∨ stI op = 4 ∨ stI op = 5) /\ op.length <= 2 ^ 47 /\ (if pkB (opTok op) then 1 else 0) = pkW op:=by decide
 exact key op h
theorem Rdd.two {toks : List D} {op : List UInt8} (h : op ∈ ops2) {x y : D} {a b c : Nat} {st : St} (hst : st.1 = b) (hp : isP toks st op = true) (hx : Rdd toks (lstS op) x a b) (hy : Rdd toks (stI op + 1) y (b + 1) c) : Rdd toks (stI op) (twoD op x y) a c:=by
 obtain ⟨h2,hl,hk⟩:=ops2_is h
 have e1:=fun full=>tk_twoD (full:=full) hl h2 hx.g hy.g
 have hlx:=hx.l
 have hly:=hy.l
 refine ⟨good_two hl h2 hx.g hy.g,?_,?_,by omega⟩
 ·rw [e1,cntP_app,cntP_cons,cnt_par,cnt_par,hx.c,hy.c,hk]
  have:=cnt_is hp
  rw [hst] at this
  have q1:=cnt2_add (toks:=toks) (a:=a) (b:=b) (c:=c) (by omega) (by omega)
  have q2:=cnt2_add (toks:=toks) (a:=b) (b:=b + 1) (c:=c) (by omega) (by omega)
  omega
 ·rw [parW_own (show stI op <= stI (eop (twoD op x y)) from Int.le_refl _),e1]
  simp only [List.length_append,List.length_cons]
  have m1:=hx.m
  have m2:=hy.m
  omega
theorem Rdd.not {toks : List D} {x : D} {st : St} {b : Nat} (hp : isP toks st wNot = true) (hx : Rdd toks 2 x (st.1 + 1) b) : Rdd toks 2 (oneD wNot x) st.1 b:=by
 have hg:=good_one (op:=sNot) (.inr (.inl rfl)) hx.g
 have e1:=fun full=>tk_not (full:=full) hg rfl
 have hl:=hx.l
 refine ⟨hg,?_,?_,by omega⟩
 ·show cntP (tkC true (oneD sNot x)) = _
  rw [e1,cntP_cons,cnt_par,show sub0 (oneD sNot x) = x from rfl,hx.c]
  have q1:=cnt2_add (toks:=toks) (a:=st.1) (b:=st.1 + 1) (c:=b) (by omega) (by omega)
  rw [q1,cnt_is hp]
  rfl
 ·show (parW false (stI sNot) 2 (tkC false (oneD sNot x))).length <= _
  rw [parW_own (by decide),e1,show sub0 (oneD sNot x) = x from rfl]
  have m1:=hx.m
  simp only [List.length_cons];omega
theorem Rdd.neg {toks : List D} {x : D} {st : St} {b : Nat} (hp : isP toks st [45] = true) (hx : Rdd toks 6 x (st.1 + 1) b) : Rdd toks 6 (oneD wNeg x) st.1 b:=by
 have hg:=good_one (op:=sNeg) (.inr (.inr rfl)) hx.g
 have e1:=fun full=>tk_neg (full:=full) hg rfl
 have hl:=hx.l
 refine ⟨hg,?_,?_,by omega⟩
 ·show cntP (tkC true (oneD sNeg x)) = _
  rw [e1,cntP_cons,cnt_par,show sub0 (oneD sNeg x) = x from rfl,hx.c]
  have q1:=cnt2_add (toks:=toks) (a:=st.1) (b:=st.1 + 1) (c:=b) (by omega) (by omega)
  rw [q1,cnt_is hp]
  rfl
 ·show (parW false (stI sNeg) 6 (tkC false (oneD sNeg x))).length <= _
  rw [parW_own (by decide),e1,show sub0 (oneD sNeg x) = x from rfl]
  have m1:=hx.m
  simp only [List.length_cons];omega
theorem Rdd.val {toks : List D} {v : D} {a b : Nat} {s : Int} (hs : s <= 7) (hv : isVr v) (h : valB v = true) (hc : cntP (litT v) = cnt2 toks a b) (hm : (litT v).length <= b - a) (hl : a < b) : Rdd toks s (valE v) a b:=by
 have e1:=fun full=>tk_valE (full:=full) hv h
 obtain ⟨e0,_⟩:=valE_parts hv
 refine ⟨good_val hv h,by rw [e1,hc],?_,hl⟩
 rw [e0,parW_own (by rw [show stI sVal = 7 by decide];exact hs),e1];exact hm
theorem litB_2 {v : D} {b : Bool} (h : vk v = 2) : litB v b = (decide (0 <= vi v) || (b && decide (-9223372036854775808 < vi v))):=by
 unfold litB;rw [if_pos (by rw [h];decide)]
theorem litB_o {v : D} {b : Bool} (h : vk v ≠ 2) : litB v b = ((vk v == 1) || (vk v == 4) || ((vk v == 3) && formI 3 (vs v) 0)):=by
 unfold litB;rw [if_neg (by simpa using h)]
theorem valB_o {v : D} (h : vk v ≠ 5) (h1 : one1 v = true) : valB v = litB v false:=by
 have hk : (vk v != 5) = true:=by simpa using h
 unfold valB formedB
 simp only [hk,if_true,h1,Bool.not_true,Bool.false_eq_true,if_false]
theorem lit_num {n : Int} (h : 0 <= n) : valB (num n) = true /\ litT (num n) = [mkT 2 [] n] /\ litB (num n) true = true /\ one1 (num n) = true:=by
 have d : decide (n < 0) = false:=by simp only [decide_eq_false_iff_not];omega
 have d2 : decide (0 <= n) = true:=by simpa using h
 have a : ∀ b,litB (num n) b = true:=fun b=>by rw [litB_2 rfl,show vi (num n) = n from rfl,d2];rfl
 have b : one1 (num n) = true:=rfl
 refine ⟨by rw [valB_o (fun e=>by cases e) b,a],?_,a true,b⟩
 ·show (if decide (n < 0) then [mkT 5 [45] 0,mkT 2 [] (IntKind.i64.wrap (0 - n))] else [mkT 2 [] n]) = _
  rw [d];rfl
theorem lit_neg {n : Int} (h : 0 <= n) (h' : n < 2 ^ 63) : litB (num (IntKind.i64.wrap (0 - n))) true = true /\ one1 (num (IntKind.i64.wrap (0 - n))) = true /\ litT1 (num (IntKind.i64.wrap (0 - n))) = if n = 0 then [mkT 2 [] 0] else [mkT 5 [45] 0,mkT 2 [] n]:=by
 have w : IntKind.i64.wrap (0 - n) = -n:=by rw [show 0 - n = -n by omega];exact wrap_of _ (by omega) (by omega)
 rw [w]
 refine ⟨?_,rfl,?_⟩
 ·rw [litB_2 rfl,show vi (num (-n)) = -n from rfl,show decide (-9223372036854775808 < -n) = true by simp only [decide_eq_true_eq];omega];simp
 ·show (if decide (-n < 0) then [mkT 5 [45] 0,mkT 2 [] (IntKind.i64.wrap (0 - -n))] else [mkT 2 [] (-n)]) = _
  by_cases h0 : n = 0
  ·subst h0;rfl
  ·rw [if_pos (by simp only [decide_eq_true_eq];omega),if_neg h0,show (0 - -n) = n by omega,wrap_of _ (by omega) (by omega)]
theorem lit_text {s : List UInt8} (h : formI 3 s 0 = true) : textV s = .agg [.int .i64 3,.int .i64 0,.str s,.nils] /\ valB (textV s) = true /\ litT (textV s) = [mkT 3 s 0] /\ litB (textV s) true = true /\ one1 (textV s) = true:=by
 have hl : s.length <= 64:=by
  unfold formI at h
  simp only [show ((3 : Int) == 1) = false from rfl,show ((3 : Int) == 2) = false from rfl,Bool.false_eq_true,if_false,beq_self_eq_true,if_true,Bool.and_eq_true,decide_eq_true_eq] at h
  omega
 have e : textV s = .agg [.int .i64 3,.int .i64 0,.str s,.nils]:=by
  unfold textV
  rw [Nat.min_eq_left hl,List.take_length]
 rw [e]
 have a : ∀ b,litB (.agg [.int .i64 3,.int .i64 0,.str s,.nils]) b = true:=fun b=>by
  rw [litB_o (fun e=>by cases e),show vs (.agg [.int .i64 3,.int .i64 0,.str s,.nils]) = s from rfl,h];rfl
 have b : one1 (.agg [.int .i64 3,.int .i64 0,.str s,.nils]) = true:=by
  show ((0 : Int) == 0 && decide ((s.length : Int) <= 64)) = true
  rw [show decide ((s.length : Int) <= 64) = true by simp only [decide_eq_true_eq];omega];rfl
 refine ⟨rfl,?_,rfl,a true,b⟩
 rw [valB_o (fun e=>by cases e) b,a]
theorem lit_time {n : Int} (h : formI 4 [] n = true) : valB (timeV n) = true /\ litT (timeV n) = [mkT 4 [] n] /\ litB (timeV n) true = true /\ one1 (timeV n) = true:=by
 have b : one1 (timeV n) = true:=by
  show (decide (0 <= n) && decide (n <= 1099511627776)) = true
  unfold formI at h
  simp only [show ((4 : Int) == 1) = false from rfl,show ((4 : Int) == 2) = false from rfl,show ((4 : Int) == 3) = false from rfl,Bool.false_eq_true,if_false,beq_self_eq_true,if_true,Bool.true_and] at h
  exact h
 refine ⟨?_,rfl,rfl,b⟩
 rw [valB_o (fun e=>by cases e) b];rfl
theorem lit_truth (b : Bool) : valB (truthV b) = true /\ litT (truthV b) = [mkT 1 (if b then wTrue else wFalse) 0] /\ litB (truthV b) true = true /\ one1 (truthV b) = true:=by
 cases b <;> exact ⟨by decide,rfl,by decide,by decide⟩
theorem lit_ok {toks : List D} {st : St} (h : (literalP toks st).2.1 = true) : valB (literalP toks st).1 = true /\ litB (literalP toks st).1 true = true /\ one1 (literalP toks st).1 = true /\ leaf1 (literalP toks st).1 = true ∧
  litT (literalP toks st).1 = [nowS toks st] /\ cnt2 toks st.1 (st.1 + 1) = 0 /\ (literalP toks st).2.2 = (st.1 + 1,0) /\ pkB (nowS toks st) = false:=by
 have lf : ∀ v : D,valB v = true -> vk v ≠ 5 -> leaf1 v = true:=fun v hv hk=>(valB_dom hv).elim id fun q=>by
  unfold valB at hv
  split at hv
  ·cases hv
  ·rw [if_pos (by simpa using hk)] at hv;exact litB_leaf hv
 have key : ∀ k : Int,k = 2 ∨ k = 3 ∨ k = 4 -> tk (nowS toks st) = k -> st.2 = 0 /\ (∃ s n,nowS toks st = mkT k s n /\ formI k s n = true) /\ cnt2 toks st.1 (st.1 + 1) = 0 /\ pkB (nowS toks st) = false:=fun k hk e=>by
  obtain ⟨a1,a2,a3⟩:=now_at (toks:=toks) (st:=st) (by omega)
  have hp : pkB (nowS toks st) = false:=pk_else (by omega) (by omega)
  refine ⟨a1,?_,by rw [cnt2_one a2,hp];rfl,hp⟩
  unfold formT at a3
  rw [e] at a3
  refine ⟨ts (nowS toks st),tn (nowS toks st),?_,a3⟩
  rw [<- e]
  have hsh : ∀ t : D,tk t ≠ 0 -> t = mkT (tk t) (ts t) (tn t):=fun t ht=>by
   unfold tk at ht
   split at ht
   ·rfl
   ·exact absurd rfl ht
  exact hsh _ (by omega)
 unfold literalP at h ⊢
 split
 ·rename_i g
  obtain ⟨a1,⟨s,n,e,f⟩,c,hp⟩:=key 2 (by simp) (by simpa using g)
  unfold formI at f
  simp only [show ((2 : Int) == 1) = false from rfl,Bool.false_eq_true,if_false,beq_self_eq_true,if_true,Bool.and_eq_true,decide_eq_true_eq,beq_iff_eq] at f
  obtain ⟨rfl,hn⟩:=f
  rw [e,tn_mk,a1]
  obtain ⟨q1,q2,q3,q4⟩:=lit_num hn
  exact ⟨q1,q3,q4,rfl,q2,c,rfl,by rw [<- e];exact hp⟩
 split
 ·rename_i g
  obtain ⟨a1,⟨s,n,e,f⟩,c,hp⟩:=key 3 (by simp) (by simpa using g)
  have hn : n = 0:=by
   unfold formI at f
   simp only [show ((3 : Int) == 1) = false from rfl,show ((3 : Int) == 2) = false from rfl,Bool.false_eq_true,if_false,beq_self_eq_true,if_true,Bool.and_eq_true,beq_iff_eq] at f
   exact f.2
  subst hn
  rw [e,ts_mk,a1]
  obtain ⟨q0,q1,q2,q3,q4⟩:=lit_text f
  exact ⟨q1,q3,q4,by rw [q0];rfl,q2,c,rfl,by rw [<- e];exact hp⟩
 split
 ·rename_i g
  obtain ⟨a1,⟨s,n,e,f⟩,c,hp⟩:=key 4 (by simp) (by simpa using g)
  have hn : s = []:=by
   unfold formI at f
   simp only [show ((4 : Int) == 1) = false from rfl,show ((4 : Int) == 2) = false from rfl,show ((4 : Int) == 3) = false from rfl,Bool.false_eq_true,if_false,beq_self_eq_true,if_true,Bool.and_eq_true,beq_iff_eq] at f
   exact f.1.1
  subst hn
  rw [e,tn_mk,a1]
  obtain ⟨q1,q2,q3,q4⟩:=lit_time f
  exact ⟨q1,q3,q4,rfl,q2,c,rfl,by rw [<- e];exact hp⟩
 split
 ·rename_i g
  have hw : ∀ w,w = wTrue ∨ w = wFalse -> isP toks st w = true -> st.2 = 0 /\ nowS toks st = mkT 1 w 0 /\ cnt2 toks st.1 (st.1 + 1) = 0 /\ pkB (nowS toks st) = false:=fun w hw hp=>by
   obtain ⟨a1,a2,a3,a4⟩:=is_at hp
   have a5 : tk (nowS toks st) = 1:=by
    rcases a4 with ⟨a4,_⟩ | ⟨_,a5⟩
    ·exact a4
    ·exfalso
     rcases hw with rfl | rfl
     ·exact absurd a5 (by decide)
     ·exact absurd a5 (by decide)
   obtain ⟨_,_,b3⟩:=now_at (toks:=toks) (st:=st) (by omega)
   have hz : tn (nowS toks st) = 0:=by
    unfold formT formI at b3
    rw [a5] at b3
    simp only [beq_self_eq_true,if_true,Bool.and_eq_true,beq_iff_eq] at b3
    exact b3.2
   have hsh : ∀ t : D,tk t ≠ 0 -> t = mkT (tk t) (ts t) (tn t):=fun t ht=>by
    unfold tk at ht
    split at ht
    ·rfl
    ·exact absurd rfl ht
   refine ⟨a1,?_,?_,?_⟩
   ·rw [hsh (nowS toks st) (by omega),a5,a3,hz]
   ·rw [cnt_is hp];rcases hw with rfl | rfl <;> decide
   ·rw [pk_word a5,a3];rcases hw with rfl | rfl <;> decide
  rw [Bool.or_eq_true] at g
  rcases g with g | g
  ·obtain ⟨a1,e,c,hp⟩:=hw wTrue (.inl rfl) g
   rw [e,ts_mk,a1]
   obtain ⟨q1,q2,q3,q4⟩:=lit_truth true
   rw [show (wTrue == wTrue) = true by decide]
   exact ⟨q1,q3,q4,rfl,q2,c,rfl,by rw [<- e];exact hp⟩
  ·obtain ⟨a1,e,c,hp⟩:=hw wFalse (.inr rfl) g
   rw [e,ts_mk,a1]
   obtain ⟨q1,q2,q3,q4⟩:=lit_truth false
   rw [show (wFalse == wTrue) = false by decide]
   exact ⟨q1,q3,q4,rfl,q2,c,rfl,by rw [<- e];exact hp⟩
 ·rename_i g1 g2 g3 g4
  rw [if_neg g1,if_neg g2,if_neg g3,if_neg g4] at h;cases h
end GP
namespace GP
open Go Go.Proofs
set_option maxRecDepth 100000
def wL (l : List D) : Nat:=(l.map fun x=>(litT1 x).length + 1).sum
theorem wL_app (l m : List D) : wL (l ++ m) = wL l + wL m:=by simp [wL]
theorem wL_cons (x : D) (l : List D) : wL (x :: l) = (litT1 x).length + 1 + wL l:=by simp [wL]
theorem cmL_len (l : List D) : (cmL litT1 l).length = wL l - 1:=by
 have key : ∀ l : List D,((l.map fun x=>tC :: litT1 x).flatten).length = wL l:=by
  intro l
  induction l with
  | nil=>rfl
  | cons x l ih=>simp only [List.map_cons,List.flatten_cons,List.length_append,List.length_cons,ih,wL_cons]
 simp only [cmL,List.length_drop,key]
theorem litT1_can (x : D) : litT1 (can x) = litT1 x:=by unfold litT1;simp only [can_vk,can_vi,can_vs]
theorem litB_can (x : D) (b : Bool) : litB (can x) b = litB x b:=by unfold litB;simp only [can_vk,can_vi,can_vs]
theorem wL_insU : ∀ (zs : List D) (x : D),wL (insU zs x) <= wL zs + ((litT1 x).length + 1)
 | [],x=>by simp [insU,wL]
 | z :: r,x=>by
  unfold insU
  split
  ·have:=wL_insU r x
   simp only [wL_cons];omega
  ·split
   ·simp only [wL_cons];omega
   ·simp only [wL_cons];omega
theorem wL_bagR (xs : List D) : wL (bagR xs) <= wL xs:=by
 have key : ∀ (l zs : List D),wL ((l.map can).foldl insU zs) <= wL zs + wL l:=by
  intro l
  induction l with
  | nil=>intro zs;simp [wL]
  | cons x l ih =>
   intro zs
   simp only [List.map_cons,List.foldl_cons]
   have h1:=ih (insU zs (can x))
   have h2:=wL_insU zs (can x)
   rw [litT1_can] at h2
   rw [wL_cons];omega
 have:=key xs []
 unfold bagR
 simpa [wL] using this
structure Itm (v : D) : Prop where
 b : litB v true = true
 o : one1 v = true
 l : leaf1 v = true
 r : isVr v
 c : cntP (litT1 v) = 0
theorem leaf1_litT {v : D} (h : leaf1 v = true) : litT v = litT1 v:=by unfold litT;rw [if_pos h]
theorem item_ok {toks : List D} (ht : toks.all tokB = true) {st : St} (h : (itemP toks st).2.2 = 0) : Itm (itemP toks st).1 /\ (litT1 (itemP toks st).1).length <= (itemP toks st).2.1 - st.1 /\ cnt2 toks st.1 (itemP toks st).2.1 = 0 /\ st.1 < (itemP toks st).2.1:=by
 have hr:=item_isVr ht st
 unfold itemP at h hr ⊢
 split
 ·rename_i g
  rw [if_pos g] at h hr
  simp only at h hr ⊢
  obtain ⟨k1,k2,k3,k4⟩:=kind_ok (by decide) h
  simp only at k2 k4
  rw [k4] at hr ⊢
  simp only at hr ⊢
  have hrg:=(now_rng ht (st.1 + 1,st.2)).2
  have hn : 0 <= tn (nowS toks (st.1 + 1,st.2)):=by
   unfold formT formI at k3
   rw [k1] at k3
   simp only [show ((2 : Int) == 1) = false from rfl,Bool.false_eq_true,if_false,beq_self_eq_true,if_true,Bool.and_eq_true,decide_eq_true_eq] at k3
   exact k3.2
  obtain ⟨q1,q2,q3⟩:=lit_neg hn hrg.2
  refine ⟨⟨q1,q2,rfl,hr,?_⟩,?_,?_,by omega⟩
  ·rw [q3];split <;> rfl
  ·rw [q3];split <;> simp <;> omega
  ·rw [cnt2_add (b:=st.1 + 1) (by omega) (by omega),cnt_is g,cnt2_one k2,pk_else (by omega) (by omega)]
   rfl
 ·rename_i g
  rw [if_neg g] at h hr
  split
  ·rename_i g2
   obtain ⟨q1,q2,q3,q4,q5,q6,q7,q8⟩:=lit_ok g2
   rw [leaf1_litT q4] at q5
   refine ⟨⟨q2,q3,q4,?_,?_⟩,?_,?_,?_⟩
   ·exact lit_isVr ht st
   ·show cntP (litT1 (literalP toks st).1) = 0
    rw [q5]
    unfold cntP
    rw [List.filter_cons,q8];rfl
   ·show (litT1 (literalP toks st).1).length <= (literalP toks st).2.2.1 - st.1
    rw [q5,q7];simp
   ·show cnt2 toks st.1 (literalP toks st).2.2.1 = 0
    rw [q7];exact q6
   ·show st.1 < (literalP toks st).2.2.1
    rw [q7];simp
  ·rename_i g2
   rw [if_neg g2] at h
   exfalso
   simp only at h
   unfold failP at h
   split at h
   ·cases h
   ·rename_i g3;exact g3 (by simpa using h)
theorem bagL_ok {toks : List D} (ht : toks.all tokB = true) : ∀ (f : Nat) (out : List D) (st : St) (r : List D × St),bagL toks f out st = some r -> r.2.2 = 0 -> (∀ v ∈ out,Itm v) -> (∀ v ∈ r.1,Itm v) /\ wL r.1 <= wL out + (r.2.1 - st.1) /\ cnt2 toks st.1 r.2.1 = 0 /\ st.1 <= r.2.1 /\ out.length <= r.1.length
 | 0,_,_,_,h,_,_=>by simp [bagL] at h
 | f + 1,out,st,r,h,h0,ho=>by
  simp only [bagL] at h
  split at h
  ·rename_i g
   have s2:=step_bagL toks f _ _ _ h
   have e2:=s2.e0 h0
   obtain ⟨i1,i2,i3,i4⟩:=item_ok ht e2
   obtain ⟨k1,k2,k3,k4,k5⟩:=bagL_ok ht f _ _ r h h0 (fun v hv=>by
    rcases List.mem_append.1 hv with hv | hv
    ·exact ho v hv
    ·rw [List.mem_singleton] at hv;subst hv;exact i1)
   simp only at i2 i3 i4
   refine ⟨k1,?_,?_,by omega,by simp at k5;omega⟩
   ·rw [wL_app,wL_cons] at k2
    simp only [wL,List.map_nil,List.sum_nil,Nat.add_zero] at k2 ⊢
    omega
   ·have q1:=cnt2_add (toks:=toks) (a:=st.1) (b:=st.1 + 1) (c:=r.2.1) (by omega) (by omega)
    have q2:=cnt2_add (toks:=toks) (a:=st.1 + 1) (b:=(itemP toks (st.1 + 1,st.2)).2.1) (c:=r.2.1) (by omega) (by omega)
    have q3:=cnt_is g
    have q4 : pkW [44] = 0:=by decide
    omega
  ·injection h with h;subst h
   exact ⟨ho,by simp,cnt2_self _ _,Nat.le_refl _,Nat.le_refl _⟩
theorem vk0_eq {xs : List D} {k : Int} (h : ∀ x ∈ xs,vk x = k) (hne : xs ≠ []) : vk0 xs = k:=by
 cases xs with
 | nil=>exact absurd rfl hne
 | cons x l=>exact h x (by simp)
theorem bag_formed {xs : List D} (h0 : (bagV xs).2 = 0) (hx : ∀ x ∈ xs,Itm x) (hne : xs ≠ []) : (bagV xs).1 = mkV 5 0 [] false (bagR xs) /\ valB (mkV 5 0 [] false (bagR xs)) = true /\ bagR xs ≠ []:=by
 unfold bagV at h0 ⊢
 split at h0
 ·cases h0
 ·rename_i g1
  split at h0
  ·cases h0
  ·rename_i g2
   split at h0
   ·cases h0
   ·rename_i g3
    rw [if_neg g1,if_neg g2,if_neg g3]
    have hg : good1 xs:=fun x hx'=>(hx x hx').o
    obtain ⟨hr,hm⟩:=bagR_spec hg
    have hkind : ∀ x ∈ xs,vk x ≠ 0 /\ vk x = vk0 xs:=fun x hx'=>by
     have hb : badB xs x = false:=by
      cases hb : badB xs x with
      | false=>rfl
      | true=>exact absurd (List.any_eq_true.2 ⟨x,hx',hb⟩) g2
     unfold badB at hb
     simp only [Bool.or_eq_false_iff,beq_eq_false_iff_ne,bne_eq_false_iff_eq] at hb
     exact ⟨hb.1.1,hb.2⟩
    have hne2 : bagR xs ≠ []:=by
     cases xs with
     | nil=>exact absurd rfl hne
     | cons x l =>
      intro e
      have:=(hm (can x)).2 ⟨x,by simp,rfl⟩
      rw [e] at this;cases this
    have hk2 : ∀ y ∈ bagR xs,vk y = vk0 xs:=fun y hy=>by
     obtain ⟨x,hx',rfl⟩:=(hm y).1 hy
     rw [can_vk];exact (hkind x hx').2
    have hk0:=vk0_eq hk2 hne2
    have hadj : adjB singleD (bagR xs) = true:=by
     unfold adjB
     refine List.all_eq_true.2 fun i hi=>?_
     have hi : i < (bagR xs).length:=by simpa using hi
     have hy:=List.getElem_mem hi
     obtain ⟨x,hx',he⟩:=(hm _).1 hy
     unfold okEl
     rw [List.getElem?_eq_getElem hi]
     simp only
     have o1 : one1 (bagR xs)[i] = true:=by rw [he];exact one1_can (hx x hx').o
     have k1 : (vk (bagR xs)[i] != 0) = true:=by
      have:=(hkind x hx').1
      rw [he,can_vk];simpa using this
     have k2 : (vk (bagR xs)[i] == vk0 (bagR xs)) = true:=by rw [hk0,hk2 _ hy];simp
     rw [o1,k1,k2]
     simp only [Bool.true_and]
     by_cases hz : i = 0
     ·subst hz;rfl
     ·have hp : i - 1 < (bagR xs).length:=by omega
      rw [List.getElem?_eq_getElem hp]
      have:=List.pairwise_iff_getElem.1 hr (i - 1) i hp hi (by omega)
      simp only [Bool.or_eq_true,decide_eq_true_eq]
      exact .inr this
    refine ⟨rfl,?_,hne2⟩
    have hl16 : decide ((16 : Int) < (bagR xs).length) = false:=by simpa using g3
    unfold valB formedB
    simp only [vk_mk,vi_mk,vs_mk,vl_mk]
    rw [show ((5 : Int) != 5) = false from rfl]
    simp only [Bool.false_eq_true,if_false]
    rw [show ((0 : Int) != 0 || ([] : List UInt8) != [] || decide ((16 : Int) < (bagR xs).length)) = false by rw [hl16];rfl]
    simp only [Bool.false_eq_true,if_false,hadj,Bool.not_true,Bool.and_eq_true,decide_eq_true_eq]
    refine ⟨List.all_eq_true.2 fun y hy=>?_,by cases hb : bagR xs with
     | nil=>exact absurd hb hne2
     | cons a l=>simp⟩
    obtain ⟨x,hx',rfl⟩:=(hm y).1 hy
    rw [litB_can];exact (hx x hx').b
theorem cnt_cm {l : List D} (h : ∀ x ∈ l,cntP (litT1 x) = 0) : cntP (cmL litT1 l) = 0:=by
 have key : ∀ l : List D,(∀ x ∈ l,cntP (litT1 x) = 0) -> cntP ((l.map fun x=>tC :: litT1 x).flatten) = 0:=by
  intro l
  induction l with
  | nil=>intro _;rfl
  | cons x l ih =>
   intro h
   simp only [List.map_cons,List.flatten_cons,cntP_app,cntP_cons]
   rw [h x (by simp),ih fun y hy=>h y (by simp [hy])]
   rfl
 have:=key l h
 unfold cmL
 unfold cntP at this ⊢
 have e : ∀ m : List D,(m.filter pkB).length = 0 -> ((m.drop 1).filter pkB).length = 0:=fun m hm=>by
  cases m with
  | nil=>rfl
  | cons a m=>rw [List.filter_cons] at hm;split at hm <;> simp_all
 exact e _ this
theorem bag_ok {toks : List D} (ht : toks.all tokB = true) {f fr : Nat} {st : St} {r : D × St} (h : bagP toks f fr st = some r) (h0 : r.2.2 = 0) :
  ∃ v,r.1 = valE v /\ isVr v /\ valB v = true /\ cnt2 toks st.1 r.2.1 = 0 /\ cntP (litT v) = 1 /\ (litT v).length <= 1 + (r.2.1 - st.1) /\ st.1 < r.2.1:=by
 unfold bagP at h
 split at h
 ·cases h
 ·rename_i out st1 hb
  split at h
  ·rename_i hz
   injection h with h;subst h
   simp only at h0
   rw [h0] at hz;exact absurd hz (by decide)
  ·rename_i hz
   have hz : (mustP toks [93] st1).2 = 0:=by simpa using hz
   injection h with h;subst h
   simp only at h0 ⊢
   split at h0
   ·exfalso
    unfold failP at h0
    rw [hz] at h0
    cases h0
   ·rename_i hv
    rw [if_neg hv]
    have hv : (bagV out).2 = 0:=by simpa using hv
    obtain ⟨m1,m2⟩:=must_ok hz
    have e1:=(step_must toks [93] st1).e0 hz
    have e0:=(step_bagL toks f _ _ _ hb).e0 e1
    obtain ⟨i1,i2,i3,i4⟩:=item_ok ht e0
    obtain ⟨k1,k2,k3,k4,k5⟩:=bagL_ok ht f _ _ _ hb e1 (fun v hv=>by rw [List.mem_singleton] at hv;subst hv;exact i1)
    have hne : out ≠ []:=by intro e;subst e;simp at k5
    obtain ⟨b1,b2,b3⟩:=bag_formed hv k1 hne
    have hw:=wL_bagR out
    have hm:=(bagR_spec (xs:=out) fun x hx=>(k1 x hx).o).2
    refine ⟨_,by rw [b1],by rw [<- b1];exact bagV_isVr fun x hx=>(k1 x hx).r,b2,?_,?_,?_,by rw [m2];simp only at k4 ⊢;omega⟩
    ·rw [m2]
     simp only at k3 k4 ⊢
     have q1:=cnt2_add (toks:=toks) (a:=st.1) (b:=(itemP toks st).2.1) (c:=st1.1 + 1) (by omega) (by omega)
     have q2:=cnt2_add (toks:=toks) (a:=(itemP toks st).2.1) (b:=st1.1) (c:=st1.1 + 1) (by omega) (by omega)
     have q3:=cnt_is m1
     have q4 : pkW [93] = 0:=by decide
     omega
    ·have hz : ∀ x ∈ bagR out,cntP (litT1 x) = 0:=fun y hy=>by
      obtain ⟨x,hx,rfl⟩:=(hm y).1 hy
      rw [litT1_can];exact (k1 x hx).c
     unfold litT leaf1
     simp only [vk_mk,vl_mk]
     rw [if_neg (by decide),cntP_cons,cntP_app,cnt_cm hz]
     rfl
    ·rw [m2]
     simp only at k2 k4 ⊢
     unfold litT leaf1
     simp only [vk_mk,vl_mk]
     rw [if_neg (by decide)]
     simp only [List.length_cons,List.length_append,List.length_nil,cmL_len]
     rw [wL_cons] at k2
     simp only [wL,List.map_nil,List.sum_nil,Nat.add_zero] at k2 hw ⊢
     omega
end GP
namespace GP
open Go Go.Proofs
set_option maxRecDepth 100000
def lvS : Lv -> Int
 | .expr=>0 | .and=>1 | .not=>2 | .cmp=>3 | .sum=>4 | .prod=>5 | .unary=>6 | .plain=>7 | .inner=>7
def RdL (toks : List D) (lv : Lv) (x : D) (a b : Nat) : Prop:=match lv with
 | .inner=>GoodE x /\ cntP (tkC true x) = cnt2 toks a b /\ (tkC false x).length + 2 <= b - a /\ a < b
 | lv=>Rdd toks (lvS lv) x a b
theorem rowL_R {toks : List D} {P : Part} {s : Int} {bs : List (List UInt8)} (hb : ∀ w ∈ bs,w ∈ ops2 /\ stI w = s /\ lstS w = s) (hS : partS P) (hP : ∀ st x st2,P toks st = some (x,st2) -> st2.2 = 0 -> Rdd toks (s + 1) x st.1 st2.1) :
  ∀ (f : Nat) (x : D) (st : St) (y : D) (st2 : St) (a : Nat),rowL toks P bs f x st = some (y,st2) -> st2.2 = 0 -> Rdd toks s x a st.1 -> Rdd toks s y a st2.1
 | 0,_,_,_,_,_,h,_,_=>by simp [rowL] at h
 | f + 1,x,st,y,st2,a,h,h0,hx=>by
  simp only [rowL] at h
  split at h
  ·injection h with h;injection h with h1 h2;subst h1;subst h2;exact hx
  ·split at h
   ·injection h with h;injection h with h1 h2;subst h1;subst h2;exact hx
   ·rename_i w hw
    split at h
    ·cases h
    ·rename_i z st3 hz
     have e3:=(rowL_S hS f _ _ _ h).e0 h0
     obtain ⟨w1,w2,w3⟩:=hb w (firstP_mem hw)
     have hz':=hP _ _ _ hz e3
     have:=Rdd.two w1 rfl (firstP_is hw) (by rw [w3];exact hx) (by rw [w2];exact hz')
     rw [w2] at this
     exact rowL_R hb hS hP f _ st3 y st2 a h h0 this
theorem rowP_R {toks : List D} {P : Part} {s : Int} {bs : List (List UInt8)} (hb : ∀ w ∈ bs,w ∈ ops2 /\ stI w = s /\ lstS w = s) (hS : partS P) (hP : ∀ st x st2,P toks st = some (x,st2) -> st2.2 = 0 -> Rdd toks (s + 1) x st.1 st2.1)
  {f : Nat} {st : St} {y : D} {st2 : St} (h : rowP toks P bs f st = some (y,st2)) (h0 : st2.2 = 0) : Rdd toks s y st.1 st2.1:=by
 unfold rowP at h
 split at h
 ·cases h
 ·rename_i x st1 hx
  have e1:=(rowL_S hS f _ _ _ h).e0 h0
  exact rowL_R hb hS hP f x st1 y st2 st.1 h h0 ((hP _ _ _ hx e1).up (by omega))
theorem lv_R {toks : List D} (ht : toks.all tokB = true) : ∀ (f : Nat) (lv : Lv) (st : St) (x : D) (st2 : St),pLv f lv toks st = some (x,st2) -> st2.2 = 0 -> RdL toks lv x st.1 st2.1
 | 0,_,_,_,_,h,_=>by cases h
 | f + 1,lv,st,x,st2,h,h0=>by
  cases lv with
  | expr=>exact rowP_R (s:=0) (by decide) (lv_S f .and) (fun st x st2 h h0=>lv_R ht f .and st x st2 h h0) h h0
  | and=>exact rowP_R (s:=1) (by decide) (lv_S f .not) (fun st x st2 h h0=>lv_R ht f .not st x st2 h h0) h h0
  | sum=>exact rowP_R (s:=4) (by decide) (lv_S f .prod) (fun st x st2 h h0=>lv_R ht f .prod st x st2 h h0) h h0
  | prod=>exact rowP_R (s:=5) (by decide) (lv_S f .unary) (fun st x st2 h h0=>lv_R ht f .unary st x st2 h h0) h h0
  | not =>
   simp only [pLv] at h
   split at h
   ·rename_i g
    obtain ⟨z,hz⟩ : ∃ z,pLv f .not toks (st.1 + 1,st.2) = z:=⟨_,rfl⟩
    rw [hz] at h
    cases z with
    | none=>cases h
    | some z =>
     obtain ⟨y,st1⟩:=z
     simp only [oneS,Option.some.injEq,Prod.mk.injEq] at h
     obtain ⟨h1,h2⟩:=h
     subst h1;subst h2
     exact Rdd.not g (lv_R ht f .not _ y st1 hz h0)
   ·exact (show Rdd toks 3 x st.1 st2.1 from lv_R ht f .cmp st x st2 h h0).up (by decide)
  | unary =>
   simp only [pLv] at h
   split at h
   ·rename_i g
    obtain ⟨z,hz⟩ : ∃ z,pLv f .unary toks (st.1 + 1,st.2) = z:=⟨_,rfl⟩
    rw [hz] at h
    cases z with
    | none=>cases h
    | some z =>
     obtain ⟨y,st1⟩:=z
     simp only [oneS,Option.some.injEq,Prod.mk.injEq] at h
     obtain ⟨h1,h2⟩:=h
     subst h1;subst h2
     exact Rdd.neg g (lv_R ht f .unary _ y st1 hz h0)
   ·exact (show Rdd toks 7 x st.1 st2.1 from lv_R ht f .plain st x st2 h h0).up (by decide)
  | cmp =>
   simp only [pLv] at h
   obtain ⟨z,hz⟩ : ∃ z,pLv f .sum toks st = z:=⟨_,rfl⟩
   rw [hz] at h
   cases z with
   | none=>cases h
   | some z =>
    obtain ⟨y,st1⟩:=z
    simp only [cmpS2] at h
    split at h
    ·injection h with h;injection h with h1 h2;subst h1;subst h2
     exact (show Rdd toks 4 y st.1 st1.1 from lv_R ht f .sum st y st1 hz h0).up (by decide)
    ·rename_i w hw
     split at h
     ·cases h
     ·rename_i u st3 hu
      injection h with h;injection h with h1 h2;subst h1;subst h2
      have e1:=(is_at (firstP_is hw)).1
      have key : ∀ w ∈ cmpW,w ∈ ops2 /\ stI w = 3 /\ lstS w = 4:=by decide
      obtain ⟨w1,w2,w3⟩:=key w (firstP_mem hw)
      have:=Rdd.two w1 rfl (firstP_is hw) (by rw [w3];exact lv_R ht f .sum st y st1 hz e1) (by rw [w2];exact lv_R ht f .sum _ u st3 hu h0)
      rw [w2] at this
      exact this
  | inner =>
   simp only [pLv] at h
   obtain ⟨z,hz⟩ : ∃ z,pLv f .expr toks (mustP toks [40] st) = z:=⟨_,rfl⟩
   rw [hz] at h
   cases z with
   | none=>cases h
   | some z =>
    obtain ⟨y,st1⟩:=z
    simp only [innS,Option.some.injEq,Prod.mk.injEq] at h
    obtain ⟨h1,h2⟩:=h
    subst h1;subst h2
    obtain ⟨m1,m2⟩:=must_ok h0
    have e1:=(step_must toks [41] st1).e0 h0
    have hR : Rdd toks 0 y (mustP toks [40] st).1 st1.1:=lv_R ht f .expr _ y st1 hz e1
    have e0:=(lv_S f .expr toks _ (y,st1) hz).e0 e1
    obtain ⟨n1,n2⟩:=must_ok e0
    rw [n2] at hR
    rw [m2]
    simp only at hR ⊢
    have hl:=hR.l
    refine ⟨hR.g,?_,?_,by omega⟩
    ·rw [hR.c]
     have q1:=cnt2_add (toks:=toks) (a:=st.1) (b:=st.1 + 1) (c:=st1.1 + 1) (by omega) (by omega)
     have q2:=cnt2_add (toks:=toks) (a:=st.1 + 1) (b:=st1.1) (c:=st1.1 + 1) (by omega) (by omega)
     have q3:=cnt_is m1
     have q4:=cnt_is n1
     have q5 : pkW [40] = 0 /\ pkW [41] = 0:=by decide
     omega
    ·have:=hR.m
     rw [parW_own (by have:=hR.g.parts.1;exact this)] at this
     omega
  | plain =>
   show Rdd toks 7 x st.1 st2.1
   simp only [pLv,plainP] at h
   split at h
   ·rename_i g
    injection h with h;injection h with h1 h2;subst h1;subst h2
    obtain ⟨q1,q2,q3,q4,q5,q6,q7,q8⟩:=lit_ok g
    rw [q7]
    refine Rdd.val (by decide) (lit_isVr ht st) q1 ?_ ?_ (by simp)
    ·rw [q5];simp only;rw [q6];unfold cntP;rw [List.filter_cons,q8];rfl
    ·rw [q5];simp
   split at h
   ·rename_i g
    injection h with h;injection h with h1 h2;subst h1;subst h2
    have hg : GoodE (leafD wNow [] []):=good_leaf (.inl ⟨rfl,rfl,rfl⟩) (by simp) (by simp)
    refine ⟨hg,?_,?_,by simp⟩
    ·rw [tk_now hg rfl];simp only;rw [cnt_is g];rfl
    ·rw [parW_own (show (7 : Int) <= stI (eop (leafD wNow [] [])) from (by decide : (7 : Int) <= stI wNow)),tk_now hg rfl];simp
   split at h
   ·have hI : GoodE x /\ cntP (tkC true x) = cnt2 toks st.1 st2.1 /\ (tkC false x).length + 2 <= st2.1 - st.1 /\ st.1 < st2.1:=lv_R ht f .inner st x st2 h h0
    exact ⟨hI.1,hI.2.1,Nat.le_trans (parW_7 _ _ _) hI.2.2.1,hI.2.2.2⟩
   split at h
   ·rename_i g
    obtain ⟨v,e,hv,h1,h2,h3,h4,h5⟩:=bag_ok ht h h0
    simp only at e h2 h4 h5
    subst e
    refine Rdd.val (by decide) hv h1 ?_ (by omega) (by omega)
    rw [h3,cnt2_add (b:=st.1 + 1) (by omega) (by omega),cnt_is g,h2]
    rfl
   split at h
   ·rename_i g
    obtain ⟨z,hz⟩ : ∃ z,pLv f .inner toks (st.1 + 1,st.2) = z:=⟨_,rfl⟩
    rw [hz] at h
    cases z with
    | none=>cases h
    | some z =>
     obtain ⟨y,st1⟩:=z
     simp only [oneS,Option.some.injEq,Prod.mk.injEq] at h
     obtain ⟨h1,h2⟩:=h
     subst h1;subst h2
     have hI : GoodE y /\ cntP (tkC true y) = cnt2 toks (st.1 + 1) st1.1 /\ (tkC false y).length + 2 <= st1.1 - (st.1 + 1) /\ st.1 + 1 < st1.1:=lv_R ht f .inner _ y st1 hz h0
     obtain ⟨i1,i2,i3,i4⟩:=hI
     have hg:=good_one (op:=sSize) (.inl rfl) i1
     have e1:=fun full=>tk_size (full:=full) hg rfl
     refine ⟨hg,?_,?_,by omega⟩
     ·show cntP (tkC true (oneD sSize y)) = _
      rw [e1,cntP_cons,cntP_cons,cntP_app,show sub0 (oneD sSize y) = y from rfl,i2]
      have q1:=cnt2_add (toks:=toks) (a:=st.1) (b:=st.1 + 1) (c:=st1.1) (by omega) (by omega)
      have q2:=cnt_is g
      have q3 : pkW wSize = 1:=by decide
      show 1 + (0 + (cnt2 toks (st.1 + 1) st1.1 + 0)) = _
      omega
     ·show (parW false (stI sSize) 7 (tkC false (oneD sSize y))).length <= _
      rw [parW_own (by decide),e1,show sub0 (oneD sSize y) = y from rfl]
      simp only [List.length_cons,List.length_append,List.length_nil]
      omega
   split at h
   ·rename_i g
    injection h with h;injection h with h1 h2;subst h1;subst h2
    obtain ⟨m1,m2⟩:=must_ok h0
    have e2:=(step_must toks [41] _).e0 h0
    obtain ⟨k1,k2,k3,k4⟩:=kind_ok (by decide) e2
    have e1:=(step_kind toks (k:=3) (by decide) _).e0 e2
    obtain ⟨n1,n2⟩:=must_ok e1
    rw [n2] at k1 k2 k3 k4
    rw [n2,k4] at m1 m2
    simp only at m1 m2 n1 k2
    rw [n2,k4,m2]
    simp only
    obtain ⟨t,htt⟩ : ∃ t,nowS toks (st.1 + 1 + 1,0) = t:=⟨_,rfl⟩
    have hrg:=(now_rng ht (st.1 + 1 + 1,0)).1
    rw [htt] at k1 k2 k3 hrg ⊢
    have hf : formI 3 (ts t) 0 = true /\ tn t = 0:=by
     unfold formT at k3
     rw [k1] at k3
     have hz : tn t = 0:=by
      unfold formI at k3
      simp only [show ((3 : Int) == 1) = false from rfl,show ((3 : Int) == 2) = false from rfl,Bool.false_eq_true,if_false,beq_self_eq_true,if_true,Bool.and_eq_true,beq_iff_eq] at k3
      exact k3.2
     rw [hz] at k3;exact ⟨k3,hz⟩
    have hg : GoodE (leafD wRole [] (ts t)):=good_leaf (.inr (.inr ⟨rfl,rfl,hf.1⟩)) (by simp) hrg
    have e1:=fun full=>tk_role (full:=full) hg rfl
    refine ⟨hg,?_,?_,by omega⟩
    ·rw [e1]
     have q1:=cnt2_add (toks:=toks) (a:=st.1) (b:=st.1 + 1) (c:=st.1 + 1 + 1 + 1 + 1) (by omega) (by omega)
     have q2:=cnt2_add (toks:=toks) (a:=st.1 + 1) (b:=st.1 + 1 + 1) (c:=st.1 + 1 + 1 + 1 + 1) (by omega) (by omega)
     have q3:=cnt2_add (toks:=toks) (a:=st.1 + 1 + 1) (b:=st.1 + 1 + 1 + 1) (c:=st.1 + 1 + 1 + 1 + 1) (by omega) (by omega)
     have c1:=cnt_is g
     have c2:=cnt_is n1
     have c3:=cnt2_one k2
     have c4:=cnt_is m1
     simp only at c2 c4
     rw [pk_else (by omega) (by omega)] at c3
     simp only [Bool.false_eq_true,if_false] at c3
     have q5 : pkW wRole = 1 /\ pkW [40] = 0 /\ pkW [41] = 0:=by decide
     show 1 = _
     omega
    ·rw [parW_own (show (7 : Int) <= stI (eop (leafD wRole [] (ts t))) from (by decide : (7 : Int) <= stI wRole)),e1]
     simp only [List.length_cons,List.length_nil];omega
   split at h
   ·rename_i g
    injection h with h;injection h with h1 h2;subst h1;subst h2
    obtain ⟨m1,m2⟩:=must_ok h0
    have e2:=(step_must toks [41] _).e0 h0
    have hrg:=attr_rng ht (mustP toks [40] (st.1 + 1,st.2))
    obtain ⟨a1,a2,a3,a4⟩:=attr_ok e2
    have e1:=(step_attr toks _).e0 e2
    obtain ⟨n1,n2⟩:=must_ok e1
    rw [a3] at m1 m2
    rw [n2] at a4 m1 m2
    simp only at m1 m2 n1 a4
    have e9 : (mustP toks [41] (attrP toks (mustP toks [40] (st.1 + 1,st.2))).2.2) = (st.1 + 1 + 1 + 3 + 1,0):=by rw [a3,n2];exact m2
    rw [e9]
    simp only
    obtain ⟨u1,hu1⟩ : ∃ u,(attrP toks (mustP toks [40] (st.1 + 1,st.2))).1 = u:=⟨_,rfl⟩
    obtain ⟨u2,hu2⟩ : ∃ u,(attrP toks (mustP toks [40] (st.1 + 1,st.2))).2.1 = u:=⟨_,rfl⟩
    rw [hu1] at a1 hrg ⊢
    rw [hu2] at a2 hrg ⊢
    have hg : GoodE (leafD wHas u1 u2):=good_leaf (.inr (.inl ⟨.inr rfl,a1,a2⟩)) hrg.1 hrg.2
    have e1:=fun full=>tk_has (full:=full) hg rfl
    obtain ⟨p1,p2⟩:=nameB_pk a2
    refine ⟨hg,?_,?_,by omega⟩
    ·rw [e1,show ewho (leafD wHas u1 u2) = u1 from rfl,show ename (leafD wHas u1 u2) = u2 from rfl]
     have q1:=cnt2_add (toks:=toks) (a:=st.1) (b:=st.1 + 1) (c:=st.1 + 1 + 1 + 3 + 1) (by omega) (by omega)
     have q2:=cnt2_add (toks:=toks) (a:=st.1 + 1) (b:=st.1 + 1 + 1) (c:=st.1 + 1 + 1 + 3 + 1) (by omega) (by omega)
     have q3:=cnt2_add (toks:=toks) (a:=st.1 + 1 + 1) (b:=st.1 + 1 + 1 + 3) (c:=st.1 + 1 + 1 + 3 + 1) (by omega) (by omega)
     have c1:=cnt_is g
     have c2:=cnt_is n1
     have c4:=cnt_is m1
     simp only at c2 c4
     have q5 : pkW wHas = 1 /\ pkW [40] = 0 /\ pkW [41] = 0:=by decide
     have w1 : pkB (mkT 1 u1 0) = true:=by
      have key : ∀ w,w ∈ whoW -> pkB (mkT 1 w 0) = true:=by decide
      obtain ⟨w,hw,he⟩:=List.any_eq_true.1 a1
      have : w = u1:=by simpa using he
      rw [<- this];exact key w hw
     have w2 : pkB (mkT 1 u2 0) = true:=by rw [pk_word rfl,ts_mk,p1,p2];rfl
     simp only [cntP_cons,w1,w2,if_true]
     show 1 + (0 + (1 + (1 + (1 + (0 + 0))))) = _
     omega
    ·rw [parW_own (show (7 : Int) <= stI (eop (leafD wHas u1 u2)) from (by decide : (7 : Int) <= stI wHas)),e1]
     simp only [List.length_cons,List.length_nil];omega
   ·injection h with h;injection h with h1 h2;subst h1;subst h2
    have hrg:=attr_rng ht st
    obtain ⟨a1,a2,a3,a4⟩:=attr_ok h0
    rw [a3]
    simp only
    obtain ⟨u1,hu1⟩ : ∃ u,(attrP toks st).1 = u:=⟨_,rfl⟩
    obtain ⟨u2,hu2⟩ : ∃ u,(attrP toks st).2.1 = u:=⟨_,rfl⟩
    rw [hu1] at a1 hrg ⊢
    rw [hu2] at a2 hrg ⊢
    have hg : GoodE (leafD wAttr u1 u2):=good_leaf (.inr (.inl ⟨.inl rfl,a1,a2⟩)) hrg.1 hrg.2
    have e1:=fun full=>tk_attr (full:=full) hg rfl
    obtain ⟨p1,p2⟩:=nameB_pk a2
    refine ⟨hg,?_,?_,by omega⟩
    ·rw [e1,show ewho (leafD wAttr u1 u2) = u1 from rfl,show ename (leafD wAttr u1 u2) = u2 from rfl,a4]
     have w1 : pkB (mkT 1 u1 0) = true:=by
      have key : ∀ w,w ∈ whoW -> pkB (mkT 1 w 0) = true:=by decide
      obtain ⟨w,hw,he⟩:=List.any_eq_true.1 a1
      have : w = u1:=by simpa using he
      rw [<- this];exact key w hw
     have w2 : pkB (mkT 1 u2 0) = true:=by rw [pk_word rfl,ts_mk,p1,p2];rfl
     simp only [cntP_cons,w1,w2,if_true]
     rfl
    ·rw [parW_own (show (7 : Int) <= stI (eop (leafD wAttr u1 u2)) from (by decide : (7 : Int) <= stI wAttr)),e1]
     simp only [List.length_cons,List.length_nil];omega
end GP
namespace GP
open Go Go.Proofs
set_option maxRecDepth 100000
theorem good_ind {P : D -> Prop} (h : ∀ e,GoodE e -> (∀ x ∈ eps e,P x) -> P e) : ∀ e,GoodE e -> P e:=by
 have key : ∀ (n : Nat) (e : D),isE n e -> GoodE e -> P e:=by
  intro n
  induction n with
  | zero=>intro e he;exact he.elim
  | succ n ih=>intro e he hg;exact h e hg fun x hx=>ih x (isE_eps he x hx) (hg.parts.2.2.1 x hx)
 intro e hg
 obtain ⟨n,hn⟩:=hg.t
 exact key n e hn hg
theorem tokB_mk {k : Int} {s : List UInt8} {n : Int} (h : s.length <= 2 ^ 47) (hk : -(2 ^ 63) <= k /\ k < 2 ^ 63) (hn : -(2 ^ 63) <= n /\ n < 2 ^ 63) : tokB (mkT k s n) = true:=by
 simp only [tokB,mkT,Bool.and_eq_true,decide_eq_true_eq]
 exact ⟨⟨h,hk⟩,hn⟩
theorem wT {s : List UInt8} (h : s.length <= 2 ^ 47) : tokB (mkT 1 s 0) = true:=tokB_mk h (by decide) (by decide)
theorem sT {s : List UInt8} (h : s.length <= 2 ^ 47) : tokB (mkT 5 s 0) = true:=tokB_mk h (by decide) (by decide)
theorem tokB_litT1 {v : D} (h : v.isV = true) (hr : -(2 ^ 63) <= vi v /\ vi v < 2 ^ 63) : (litT1 v).all tokB = true:=by
 obtain ⟨k,i,s,n,l,rfl,hs,_⟩:=isV_elim h
 simp only [vi_mk] at hr
 unfold litT1
 simp only [vk_mk,vi_mk,vs_mk]
 refine List.all_eq_true.2 fun x hx=>?_
 (repeat' split at hx) <;> simp only [List.mem_cons,List.not_mem_nil,or_false] at hx
 ·rw [hx];exact wT (by decide)
 ·rw [hx];exact wT (by decide)
 ·rcases hx with hx | hx
  ·rw [hx];exact sT (by decide)
  ·rw [hx];exact tokB_mk (by simp) (by decide) (wrap_rng _)
 ·rw [hx];exact tokB_mk (by simp) (by decide) hr
 ·rw [hx];exact tokB_mk hs (by decide) (by decide)
 ·rw [hx];exact tokB_mk (by simp) (by decide) hr
theorem tokB_litT {v : D} (h : isVr v) (hb : valB v = true) (hl : ∀ x ∈ vl v,-(2 ^ 63) <= vi x /\ vi x < 2 ^ 63) : (litT v).all tokB = true:=by
 unfold litT
 split
 ·exact tokB_litT1 h.1 h.2
 ·obtain ⟨k,i,s,n,l,rfl,hs,_,hV⟩:=isV_elim h.1
  simp only [vl_mk] at hl ⊢
  refine List.all_eq_true.2 fun x hx=>?_
  simp only [List.mem_cons,List.mem_append,List.not_mem_nil,or_false] at hx
  rcases hx with rfl | hx | rfl
  ·exact sT (by decide)
  ·rcases cmL_mem hx with rfl | ⟨y,hy,hxy⟩
   ·exact sT (by decide)
   ·exact List.all_eq_true.1 (tokB_litT1 (hV y hy) (hl y hy)) x hxy
  ·exact sT (by decide)
def rgE : Nat -> D -> Prop
 | 0,_=>False
 | n + 1,e=>(∀ x ∈ vl (eV e),-(2 ^ 63) <= vi x /\ vi x < 2 ^ 63) /\ ∀ x ∈ eps e,rgE n x
def rgC (e : D) : Prop:=∃ n,rgE n e
theorem rgC.v {e : D} (h : rgC e) : ∀ x ∈ vl (eV e),-(2 ^ 63) <= vi x /\ vi x < 2 ^ 63:=by
 obtain ⟨n,hn⟩:=h
 cases n with
 | zero=>exact hn.elim
 | succ n=>exact hn.1
theorem rgC.p {e : D} (h : rgC e) : ∀ x ∈ eps e,rgC x:=by
 obtain ⟨n,hn⟩:=h
 cases n with
 | zero=>exact hn.elim
 | succ n=>exact fun x hx=>⟨n,hn.2 x hx⟩
theorem isE_len {n : Nat} {e : D} (h : isE n e) : (eop e).length <= 2 ^ 47 /\ (ewho e).length <= 2 ^ 47 /\ (ename e).length <= 2 ^ 47 /\ isVr (eV e):=by
 obtain ⟨op,k,i,t,nl,l,who,name,m,ps,rfl,h1,h2,h3,h4,_⟩:=isE_elim h
 exact ⟨h1,h2,h3,h4⟩
theorem parW_tokB {full : Bool} {s s' : Int} {l : List D} (h : l.all tokB = true) : (parW full s s' l).all tokB = true:=by
 unfold parW
 split
 ·exact h
 ·simp only [List.all_cons,List.all_append,h,List.all_nil,Bool.and_true,Bool.true_and,Bool.and_eq_true]
  exact ⟨sT (by decide),sT (by decide)⟩
theorem tkC_tokB {full : Bool} : ∀ e,GoodE e -> rgC e -> (tkC full e).all tokB = true:=by
 refine good_ind (P:=fun e=>rgC e -> (tkC full e).all tokB = true) fun e hg ih hr=>?_
 obtain ⟨l1,l2,l3,l4⟩:=isE_len hg.t.can
 rcases hg.op with g | g | g | g | g | g | g | g | g
 ·rw [tk_val hg g]
  exact tokB_litT l4 (fmTop_val hg.parts.2.2.2 g).1 hr.v
 ·rw [tk_now hg g];simp only [List.all_cons,List.all_nil,Bool.and_true];exact wT (by decide)
 ·rw [tk_attr hg g];simp only [List.all_cons,List.all_nil,Bool.and_true,Bool.and_eq_true];exact ⟨wT l2,sT (by decide),wT l3⟩
 ·rw [tk_has hg g];simp only [List.all_cons,List.all_nil,Bool.and_true,Bool.and_eq_true]
  exact ⟨wT (by decide),sT (by decide),wT l2,sT (by decide),wT l3,sT (by decide)⟩
 ·rw [tk_role hg g];simp only [List.all_cons,List.all_nil,Bool.and_true,Bool.and_eq_true]
  exact ⟨wT (by decide),sT (by decide),tokB_mk l3 (by decide) (by decide),sT (by decide)⟩
 ·obtain ⟨h1,x,hx,hs⟩:=hg.one (.inl g)
  have hm : sub0 e ∈ eps e:=by rw [hx,hs];simp
  rw [tk_size hg g]
  simp only [List.all_cons,List.all_append,ih _ hm (hr.p _ hm),List.all_nil,Bool.and_true,Bool.true_and,Bool.and_eq_true]
  exact ⟨wT (by decide),sT (by decide),sT (by decide)⟩
 ·obtain ⟨h1,x,hx,hs⟩:=hg.one (.inr (.inl g))
  have hm : sub0 e ∈ eps e:=by rw [hx,hs];simp
  rw [tk_not hg g,List.all_cons,parW_tokB (ih _ hm (hr.p _ hm)),Bool.and_true]
  exact wT (by decide)
 ·obtain ⟨h1,x,hx,hs⟩:=hg.one (.inr (.inr g))
  have hm : sub0 e ∈ eps e:=by rw [hx,hs];simp
  rw [tk_neg hg g,List.all_cons,parW_tokB (ih _ hm (hr.p _ hm)),Bool.and_true]
  exact sT (by decide)
 ·obtain ⟨h0,h1,m0,m1,_⟩:=hg.two g
  rw [tk_two hg g,List.all_append,List.all_cons,parW_tokB (ih _ m0 (hr.p _ m0)),parW_tokB (ih _ m1 (hr.p _ m1)),Bool.and_true,Bool.true_and]
  unfold opTok
  split
  ·exact wT l1
  ·exact sT l1
end GP
namespace GP
open Go Go.Proofs
set_option maxRecDepth 100000
theorem rgE_le {n m : Nat} (h : n <= m) : ∀ {e : D},rgE n e -> rgE m e:=by
 induction h with
 | refl=>exact fun {_} h=>h
 | step _ ih =>
  rename_i m _
  have up : ∀ (n : Nat) (e : D),rgE n e -> rgE (n + 1) e:=by
   intro n
   induction n with
   | zero=>intro e h;exact h.elim
   | succ n ih=>intro e h;exact ⟨h.1,fun x hx=>ih x (h.2 x hx)⟩
  exact fun {e} h=>up m e (ih h)
theorem rg_of {e : D} (h : ∀ x ∈ vl (eV e),-(2 ^ 63) <= vi x /\ vi x < 2 ^ 63) (hp : ∀ x ∈ eps e,rgC x) : rgC e:=by
 have key : ∀ l : List D,(∀ x ∈ l,rgC x) -> ∃ n,∀ x ∈ l,rgE n x:=by
  intro l
  induction l with
  | nil=>intro _;exact ⟨0,fun x hx=>by cases hx⟩
  | cons a l ih =>
   intro h
   obtain ⟨n,hn⟩:=h a (by simp)
   obtain ⟨m,hm⟩:=ih fun x hx=>h x (by simp [hx])
   exact ⟨max n m,fun x hx=>by
    rcases List.mem_cons.1 hx with rfl | hx
    ·exact rgE_le (Nat.le_max_left _ _) hn
    ·exact rgE_le (Nat.le_max_right _ _) (hm x hx)⟩
 obtain ⟨n,hn⟩:=key _ hp
 exact ⟨n + 1,h,hn⟩
theorem rg_two {op : List UInt8} {a b : D} (ha : rgC a) (hb : rgC b) : rgC (twoD op a b):=rg_of (fun x hx=>by cases hx) fun x hx=>by
 have hx : x ∈ [a,b]:=hx
 simp only [List.mem_cons,List.not_mem_nil,or_false] at hx
 rcases hx with rfl | rfl
 ·exact ha
 ·exact hb
theorem rg_one {op : List UInt8} {a : D} (ha : rgC a) : rgC (oneD op a):=rg_of (fun x hx=>by cases hx) fun x hx=>by
 have hx : x ∈ [a]:=hx
 rw [List.mem_singleton] at hx;subst hx;exact ha
theorem rg_leaf (op who name : List UInt8) : rgC (leafD op who name):=rg_of (fun x hx=>by cases hx) fun x hx=>by cases hx
theorem rg_val {v : D} (hv : isVr v) (h : ∀ x ∈ vl v,-(2 ^ 63) <= vi x /\ vi x < 2 ^ 63) : rgC (valE v):=by
 obtain ⟨_,e2,_,_,e5⟩:=valE_parts hv
 exact rg_of (by rw [e2];exact h) (by rw [e5];intro x hx;cases hx)
theorem lit_vl (toks : List D) (st : St) : vl (literalP toks st).1 = []:=by
 unfold literalP;(repeat' split) <;> rfl
theorem bagV_rng {xs : List D} (h : ∀ x ∈ xs,isVr x) : ∀ x ∈ vl (bagV xs).1,-(2 ^ 63) <= vi x /\ vi x < 2 ^ 63:=by
 unfold bagV
 split
 ·intro x hx;cases hx
 split
 ·intro x hx;cases hx
 split
 ·intro x hx;cases hx
 ·rename_i g1 g2 g3
  simp only [Bool.not_eq_false] at g1
  have hg : good1 xs:=fun x hx=>by
   have hf:=List.all_eq_true.1 g1 x hx
   rw [formed_same] at hf
   have hb : badB xs x = false:=by
    cases hb : badB xs x with
    | false=>rfl
    | true=>exact absurd (List.any_eq_true.2 ⟨x,hx,hb⟩) g2
   unfold formedB at hf
   rw [if_pos (by unfold badB at hb;simp only [Bool.or_eq_false_iff,beq_eq_false_iff_ne,ne_eq] at hb;simp [hb.1.2])] at hf
   exact hf
  intro x hx
  simp only [vl_mk] at hx
  obtain ⟨y,hy,rfl⟩:=((bagR_spec hg).2 x).1 hx
  rw [can_vi];exact (h y hy).2
def partG (P : Part) : Prop:=∀ toks st r,toks.all tokB = true -> P toks st = some r -> rgC r.1
theorem rowL_G {P : Part} (hP : partG P) {toks : List D} (ht : toks.all tokB = true) {bs : List (List UInt8)} : ∀ (f : Nat) (x : D) (st : St) (r : D × St),rgC x -> rowL toks P bs f x st = some r -> rgC r.1
 | 0,_,_,_,_,h=>by simp [rowL] at h
 | f + 1,x,st,r,hx,h=>by
  simp only [rowL] at h
  split at h
  ·injection h with h;subst h;exact hx
  ·split at h
   ·injection h with h;subst h;exact hx
   ·split at h
    ·cases h
    ·rename_i y st2 hy
     exact rowL_G hP ht f _ st2 r (rg_two hx (hP toks _ _ ht hy)) h
theorem rowP_G {P : Part} (hP : partG P) {toks : List D} (ht : toks.all tokB = true) {bs : List (List UInt8)} {f : Nat} {st : St} {r : D × St} (h : rowP toks P bs f st = some r) : rgC r.1:=by
 unfold rowP at h
 split at h
 ·cases h
 ·rename_i x st1 hx
  exact rowL_G hP ht f x st1 r (hP toks _ _ ht hx) h
theorem oneS_G {op : List UInt8} {z : Option (D × St)} {r : D × St} (hz : ∀ r,z = some r -> rgC r.1) (h : oneS op z = some r) : rgC r.1:=by
 cases z with
 | none=>cases h
 | some z =>
  obtain ⟨x,st⟩:=z
  simp only [oneS,Option.some.injEq] at h;subst h
  exact rg_one (hz _ rfl)
theorem bagP_G {toks : List D} (ht : toks.all tokB = true) {f fr : Nat} {st : St} {r : D × St} (h : bagP toks f fr st = some r) : rgC r.1:=by
 unfold bagP at h
 split at h
 ·cases h
 ·rename_i out st1 hb
  have hv:=bagL_isVr ht f _ _ _ (fun v hv=>by rw [List.mem_singleton] at hv;subst hv;exact item_isVr ht st) hb
  split at h
  ·injection h with h;subst h
   exact rg_of (fun x hx=>by cases hx) fun x hx=>by cases hx
  ·injection h with h;subst h
   exact rg_val (bagV_isVr hv) (bagV_rng hv)
theorem lv_G : ∀ (f : Nat) (lv : Lv),partG (pLv f lv)
 | 0,_,_,_,_,_,h=>by cases h
 | f + 1,lv,toks,st,r,ht,h=>by
  cases lv with
  | expr=>exact rowP_G (lv_G f .and) ht h
  | and=>exact rowP_G (lv_G f .not) ht h
  | sum=>exact rowP_G (lv_G f .prod) ht h
  | prod=>exact rowP_G (lv_G f .unary) ht h
  | not =>
   simp only [pLv] at h
   split at h
   ·exact oneS_G (fun r hr=>lv_G f .not toks _ r ht hr) h
   ·exact lv_G f .cmp toks st r ht h
  | unary =>
   simp only [pLv] at h
   split at h
   ·exact oneS_G (fun r hr=>lv_G f .unary toks _ r ht hr) h
   ·exact lv_G f .plain toks st r ht h
  | cmp =>
   simp only [pLv] at h
   obtain ⟨z,hz⟩ : ∃ z,pLv f .sum toks st = z:=⟨_,rfl⟩
   rw [hz] at h
   cases z with
   | none=>cases h
   | some z =>
    obtain ⟨x,st1⟩:=z
    have hx:=lv_G f .sum toks _ _ ht hz
    simp only [cmpS2] at h
    split at h
    ·injection h with h;subst h;exact hx
    ·split at h
     ·cases h
     ·rename_i y st2 hy
      injection h with h;subst h
      have k:=lv_G f .sum toks _ (y,st2) ht hy
      exact rg_two hx k
  | inner =>
   simp only [pLv] at h
   obtain ⟨z,hz⟩ : ∃ z,pLv f .expr toks (mustP toks [40] st) = z:=⟨_,rfl⟩
   rw [hz] at h
   cases z with
   | none=>cases h
   | some z =>
    obtain ⟨x,st1⟩:=z
    simp only [innS,Option.some.injEq] at h;subst h
    exact lv_G f .expr toks _ (x,st1) ht hz
  | plain =>
   simp only [pLv,plainP] at h
   split at h
   ·injection h with h;subst h;exact rg_val (lit_isVr ht st) (by rw [lit_vl];intro x hx;cases hx)
   split at h
   ·injection h with h;subst h;exact rg_leaf _ _ _
   split at h
   ·exact lv_G f .inner toks st r ht h
   split at h
   ·exact bagP_G ht h
   split at h
   ·exact oneS_G (fun r hr=>lv_G f .inner toks _ r ht hr) h
   split at h
   ·injection h with h;subst h;exact rg_leaf _ _ _
   split at h
   ·injection h with h;subst h;exact rg_leaf _ _ _
   ·injection h with h;subst h;exact rg_leaf _ _ _
theorem parsed {toks : List D} (ht : toks.all tokB = true) (h : toks.length <= 600) (h0 : (parseE toks).2.2 = 0) : ∃ x,(parseE toks).1 = x /\ (parseE toks).2.1 = 0 /\ isE nodeB x /\ GoodE x /\ rgC x /\ dpt nodeB x <= 12 /\ cntP (tkC true x) = cntP toks /\ (tkC false x).length <= toks.length:=by
 obtain ⟨x,hp,h1,h2,h3⟩:=parseE_ok h h0
 have hR : Rdd toks 0 x 0 toks.length:=lv_R ht 10000 .expr (0,0) x (toks.length,0) hp rfl
 refine ⟨x,h1,h2,lv_isE 10000 .expr toks (0,0) _ ht hp,hR.g,lv_G 10000 .expr toks (0,0) _ ht hp,h3,?_,?_⟩
 ·rw [hR.c]
  unfold cnt2 sbT
  rw [List.take_length,List.drop_zero]
 ·have:=hR.m
  rw [parW_own hR.g.parts.1] at this
  omega
end GP
namespace GP
open Go Go.Proofs
set_option maxRecDepth 100000
theorem φparse_of {m : Bool} {xs : List D} (ht : xs.all tokB = true) (hl : xs.length <= 2 ^ 40) : φparse [sliceD m xs] = some (.tup [(parseE xs).1,.int .i64 ((parseE xs).2.1 : Nat),.int .i64 (parseE xs).2.2]):=by
 have hsl : (isSl (sliceD m xs) && (elems (sliceD m xs)).all tokB && decide ((elems (sliceD m xs)).length <= 2 ^ 40)) = true:=by
  simp only [isSl_sliceD,elems_sliceD,ht,Bool.true_and,decide_eq_true_eq];exact hl
 simp only [φparse];rw [if_pos hsl,elems_sliceD]
end GP
namespace GP
open Go Go.Proofs
set_option maxRecDepth 100000
theorem bagL_mono {toks : List D} : ∀ (f g : Nat) (out : List D) (st : St) (r : List D × St),f <= g -> bagL toks f out st = some r -> bagL toks g out st = some r
 | 0,_,_,_,_,_,h=>by simp [bagL] at h
 | f + 1,0,_,_,_,hl,_=>by omega
 | f + 1,g + 1,out,st,r,hl,h=>by
  simp only [bagL] at h ⊢
  split at h
  ·rename_i q;rw [if_pos q];exact bagL_mono f g _ _ r (by omega) h
  ·rename_i q;rw [if_neg q];exact h
theorem bagP_mono {toks : List D} {f g fr : Nat} {st : St} {r : D × St} (hl : f <= g) (h : bagP toks f fr st = some r) : bagP toks g fr st = some r:=by
 unfold bagP at h ⊢
 split at h
 ·cases h
 ·rename_i out st1 hb
  rw [bagL_mono f g _ _ _ hl hb];exact h
def partM (P Q : Part) : Prop:=∀ toks st r,P toks st = some r -> Q toks st = some r
theorem rowL_mono {P Q : Part} (hP : partM P Q) {toks : List D} {bs : List (List UInt8)} : ∀ (f g : Nat) (x : D) (st : St) (r : D × St),f <= g -> rowL toks P bs f x st = some r -> rowL toks Q bs g x st = some r
 | 0,_,_,_,_,_,h=>by simp [rowL] at h
 | f + 1,0,_,_,_,hl,_=>by omega
 | f + 1,g + 1,x,st,r,hl,h=>by
  simp only [rowL] at h ⊢
  split at h
  ·rename_i q;rw [if_pos q];exact h
  ·rename_i q;rw [if_neg q]
   split at h
   ·exact h
   ·split at h
    ·cases h
    ·rename_i y st2 hy
     rw [hP _ _ _ hy]
     exact rowL_mono hP f g _ st2 r (by omega) h
theorem rowP_mono {P Q : Part} (hP : partM P Q) {toks : List D} {bs : List (List UInt8)} {f g : Nat} (hl : f <= g) {st : St} {r : D × St} (h : rowP toks P bs f st = some r) : rowP toks Q bs g st = some r:=by
 unfold rowP at h ⊢
 split at h
 ·cases h
 ·rename_i x st1 hx
  rw [hP _ _ _ hx]
  exact rowL_mono hP f g x st1 r hl h
theorem oneS_mono {op : List UInt8} {z z' : Option (D × St)} {r : D × St} (hz : ∀ r,z = some r -> z' = some r) (h : oneS op z = some r) : oneS op z' = some r:=by
 cases z with
 | none=>cases h
 | some z=>rw [hz _ rfl];exact h
theorem lv_mono : ∀ (f g : Nat) (lv : Lv),f <= g -> partM (pLv f lv) (pLv g lv)
 | 0,_,_,_,_,_,_,h=>by cases h
 | f + 1,0,_,hl,_,_,_,_=>by omega
 | f + 1,g + 1,lv,hl,toks,st,r,h=>by
  have hl : f <= g:=by omega
  have M:=fun lv=>lv_mono f g lv hl
  cases lv with
  | expr=>exact rowP_mono (M .and) hl h
  | and=>exact rowP_mono (M .not) hl h
  | sum=>exact rowP_mono (M .prod) hl h
  | prod=>exact rowP_mono (M .unary) hl h
  | not =>
   simp only [pLv] at h ⊢
   split at h
   ·rename_i q;rw [if_pos q];exact oneS_mono (fun r hr=>M .not _ _ r hr) h
   ·rename_i q;rw [if_neg q];exact M .cmp _ _ r h
  | unary =>
   simp only [pLv] at h ⊢
   split at h
   ·rename_i q;rw [if_pos q];exact oneS_mono (fun r hr=>M .unary _ _ r hr) h
   ·rename_i q;rw [if_neg q];exact M .plain _ _ r h
  | cmp =>
   simp only [pLv] at h ⊢
   obtain ⟨z,hz⟩ : ∃ z,pLv f .sum toks st = z:=⟨_,rfl⟩
   rw [hz] at h
   cases z with
   | none=>cases h
   | some z =>
    obtain ⟨x,st1⟩:=z
    rw [M .sum _ _ _ hz]
    simp only [cmpS2] at h ⊢
    split at h
    ·exact h
    ·split at h
     ·cases h
     ·rename_i y st2 hy
      rw [M .sum _ _ _ hy];exact h
  | inner =>
   simp only [pLv] at h ⊢
   obtain ⟨z,hz⟩ : ∃ z,pLv f .expr toks (mustP toks [40] st) = z:=⟨_,rfl⟩
   rw [hz] at h
   cases z with
   | none=>cases h
   | some z=>rw [M .expr _ _ _ hz];exact h
  | plain =>
   simp only [pLv,plainP] at h ⊢
   split at h
   ·rename_i q;rw [if_pos q];exact h
   ·rename_i q;rw [if_neg q]
    split at h
    ·rename_i q;rw [if_pos q];exact h
    ·rename_i q;rw [if_neg q]
     split at h
     ·rename_i q;rw [if_pos q];exact M .inner _ _ r h
     ·rename_i q;rw [if_neg q]
      split at h
      ·rename_i q;rw [if_pos q];exact bagP_mono hl h
      ·rename_i q;rw [if_neg q]
       split at h
       ·rename_i q;rw [if_pos q];exact oneS_mono (fun r hr=>M .inner _ _ r hr) h
       ·rename_i q;rw [if_neg q];exact h
def Pr (lv : Lv) (toks : List D) (st : St) (r : D × St) : Prop:=∃ f,pLv f lv toks st = some r
def Rw (lv : Lv) (bs : List (List UInt8)) (toks : List D) (x : D) (st : St) (r : D × St) : Prop:=∃ f,rowL toks (pLv f lv) bs f x st = some r
section
variable {toks : List D} {st st1 st2 : St} {x y : D} {r : D × St} {lv : Lv} {bs : List (List UInt8)} {w : List UInt8}
theorem Rw.stop (h : firstP toks st bs = none) : Rw lv bs toks x st (x,st):=⟨1,by
 simp only [rowL];rw [h];simp⟩
theorem Rw.step (h0 : st.2 = 0) (h : firstP toks st bs = some w) (hy : Pr lv toks (st.1 + 1,0) (y,st2)) (hr : Rw lv bs toks (twoD w x y) st2 r) : Rw lv bs toks x st r:=by
 obtain ⟨f,hf⟩:=hy
 obtain ⟨g,hg⟩:=hr
 refine ⟨max f g + 1,?_⟩
 simp only [rowL]
 rw [if_neg (by rw [h0];decide),h]
 simp only
 rw [h0,lv_mono f (max f g + 1) lv (by omega) _ _ _ hf]
 simp only
 exact rowL_mono (lv_mono g (max f g + 1) lv (by omega)) g (max f g) _ _ _ (by omega) hg
theorem row_of {lv' : Lv} (e : ∀ f,pLv (f + 1) lv' = fun toks st=>rowP toks (pLv f lv) bs f st) (hx : Pr lv toks st (x,st1)) (hr : Rw lv bs toks x st1 r) : Pr lv' toks st r:=by
 obtain ⟨f,hf⟩:=hx
 obtain ⟨g,hg⟩:=hr
 refine ⟨max f g + 1,?_⟩
 rw [e]
 simp only [rowP]
 rw [lv_mono f (max f g) lv (by omega) _ _ _ hf]
 simp only
 exact rowL_mono (lv_mono g (max f g) lv (by omega)) g (max f g) _ _ _ (by omega) hg
theorem Pr.expr (hx : Pr .and toks st (x,st1)) (hr : Rw .and [wOr] toks x st1 r) : Pr .expr toks st r:=row_of (fun _=>rfl) hx hr
theorem Pr.and (hx : Pr .not toks st (x,st1)) (hr : Rw .not [wAnd] toks x st1 r) : Pr .and toks st r:=row_of (fun _=>rfl) hx hr
theorem Pr.sum (hx : Pr .prod toks st (x,st1)) (hr : Rw .prod [[43],[45]] toks x st1 r) : Pr .sum toks st r:=row_of (fun _=>rfl) hx hr
theorem Pr.prod (hx : Pr .unary toks st (x,st1)) (hr : Rw .unary [[42]] toks x st1 r) : Pr .prod toks st r:=row_of (fun _=>rfl) hx hr
theorem Pr.not1 (h0 : st.2 = 0) (g : isP toks st wNot = true) (h : Pr .not toks (st.1 + 1,0) (x,st1)) : Pr .not toks st (oneD wNot x,st1):=by
 obtain ⟨f,hf⟩:=h
 refine ⟨f + 1,?_⟩
 simp only [pLv]
 rw [if_pos g,h0,hf];rfl
theorem Pr.not0 (g : isP toks st wNot = false) (h : Pr .cmp toks st r) : Pr .not toks st r:=by
 obtain ⟨f,hf⟩:=h
 refine ⟨f + 1,?_⟩
 simp only [pLv]
 rw [if_neg (by rw [g];decide)];exact hf
theorem Pr.neg1 (h0 : st.2 = 0) (g : isP toks st [45] = true) (h : Pr .unary toks (st.1 + 1,0) (x,st1)) : Pr .unary toks st (oneD wNeg x,st1):=by
 obtain ⟨f,hf⟩:=h
 refine ⟨f + 1,?_⟩
 simp only [pLv]
 rw [if_pos g,h0,hf];rfl
theorem Pr.neg0 (g : isP toks st [45] = false) (h : Pr .plain toks st r) : Pr .unary toks st r:=by
 obtain ⟨f,hf⟩:=h
 refine ⟨f + 1,?_⟩
 simp only [pLv]
 rw [if_neg (by rw [g];decide)];exact hf
theorem Pr.cmp0 (h : Pr .sum toks st (x,st1)) (g : firstP toks st1 cmpW = none) : Pr .cmp toks st (x,st1):=by
 obtain ⟨f,hf⟩:=h
 refine ⟨f + 1,?_⟩
 simp only [pLv]
 rw [hf];simp only [cmpS2];rw [g]
theorem Pr.cmp1 (h : Pr .sum toks st (x,st1)) (h0 : st1.2 = 0) (g : firstP toks st1 cmpW = some w) (k : Pr .sum toks (st1.1 + 1,0) (y,st2)) : Pr .cmp toks st (twoD w x y,st2):=by
 obtain ⟨f,hf⟩:=h
 obtain ⟨g',hg⟩:=k
 refine ⟨max f g' + 1,?_⟩
 simp only [pLv]
 rw [lv_mono f (max f g') .sum (by omega) _ _ _ hf]
 simp only [cmpS2];rw [g]
 simp only
 rw [h0,lv_mono g' (max f g') .sum (by omega) _ _ _ hg]
theorem Pr.inner (h : Pr .expr toks (mustP toks [40] st) (x,st1)) : Pr .inner toks st (x,mustP toks [41] st1):=by
 obtain ⟨f,hf⟩:=h
 refine ⟨f + 1,?_⟩
 simp only [pLv]
 rw [hf];rfl
end
theorem Pr.fuel {toks : List D} {r : D × St} (h : toks.length <= 600) (hr : Pr .expr toks (0,0) r) : pLv 10000 .expr toks (0,0) = some r:=by
 obtain ⟨x,st,hp⟩:=expr_tot toks h
 obtain ⟨f,hf⟩:=hr
 have h1:=lv_mono f (max f 10000) .expr (by omega) _ _ _ hf
 have h2:=lv_mono 10000 (max f 10000) .expr (by omega) _ _ _ hp
 rw [h1] at h2
 rw [hp,← Option.some.inj h2]
end GP
namespace GP
open Go Go.Proofs
set_option maxRecDepth 100000
def Seg (toks : List D) (a : Nat) (l : List D) : Prop:=∀ i t,l[i]? = some t -> toks[a + i]? = some t
section
variable {toks : List D} {a : Nat} {l m : List D} {t : D}
theorem Seg.fst (h : Seg toks a (l ++ m)) : Seg toks a l:=fun i t ht=>h i t (by rw [List.getElem?_append_left (lt_of_get ht)];exact ht)
theorem Seg.snd (h : Seg toks a (l ++ m)) : Seg toks (a + l.length) m:=fun i t ht=>by
 have:=h (l.length + i) t (by rw [List.getElem?_append_right (by omega),show l.length + i - l.length = i by omega];exact ht)
 rw [Nat.add_assoc];exact this
theorem Seg.hd (h : Seg toks a (t :: l)) : toks[a]? = some t:=h 0 t rfl
theorem Seg.tl (h : Seg toks a (t :: l)) : Seg toks (a + 1) l:=fun i u hu=>by
 have:=h (i + 1) u hu
 rw [show a + 1 + i = a + (i + 1) by omega];exact this
theorem now_of (h : toks[a]? = some t) (hf : formT t = true) : nowS toks (a,0) = t:=by
 unfold nowS nowP
 rw [if_neg (show ¬ ((0 : Int) != 0) = true by decide),h]
 simp only
 rw [if_pos hf]
theorem form_word {w : List UInt8} (h : wordB w = true) : formT (mkT 1 w 0) = true:=by
 show formI 1 w 0 = true
 unfold formI;rw [h];rfl
theorem form_sign {w : List UInt8} (h : isSign w = true) : formT (mkT 5 w 0) = true:=by
 show formI 5 w 0 = true
 unfold formI;rw [h];rfl
theorem is_word {w : List UInt8} (h : toks[a]? = some (mkT 1 w 0)) (hw : wordB w = true) (u : List UInt8) : isP toks (a,0) u = (w == u):=by
 unfold isP;rw [now_of h (form_word hw)];rfl
theorem is_sgn {w : List UInt8} (h : toks[a]? = some (mkT 5 w 0)) (hw : isSign w = true) (u : List UInt8) : isP toks (a,0) u = (w == u):=by
 unfold isP;rw [now_of h (form_sign hw)];rfl
theorem isnt_k {k : Int} {s : List UInt8} {n : Int} (h : toks[a]? = some (mkT k s n)) (h1 : (k == 1) = false) (h5 : (k == 5) = false) (u : List UInt8) : isP toks (a,0) u = false:=by
 unfold isP nowS nowP
 rw [if_neg (show ¬ ((0 : Int) != 0) = true by decide),h]
 simp only
 split
 ·rw [tk_mk,h1,h5];rfl
 ·rfl
theorem isnt_end (h : toks.length <= a) (u : List UInt8) : isP toks (a,0) u = false:=by
 cases hb : isP toks (a,0) u with
 | false=>rfl
 | true=>have:=(isP_lt hb).1;simp only at this;omega
theorem must_of {w : List UInt8} (h : isP toks (a,0) w = true) : mustP toks w (a,0) = (a + 1,0):=by unfold mustP;rw [if_pos h]
theorem kind_of {k : Int} {s : List UInt8} {n : Int} (h : toks[a]? = some (mkT k s n)) (hf : formT (mkT k s n) = true) : kindP toks k (a,0) = (mkT k s n,(a + 1,0)):=by
 unfold kindP
 rw [now_of h hf,tk_mk]
 simp
end
structure Cn (y v : D) : Prop where
 c : can y = can v
 l : vl y = []
theorem Cn.one {y v : D} (h : Cn y v) (hv : one1 v = true) : one1 y = true:=by
 have h1:=one1_can hv
 rw [<- h.c] at h1
 unfold one1 at h1 ⊢
 rw [can_vk,can_vi,can_vs,can_vl] at h1
 rw [h.l];exact h1
theorem Cn.k {y v : D} (h : Cn y v) : vk y = vk v:=by have:=congrArg vk h.c;rwa [can_vk,can_vk] at this
theorem Cn.i {y v : D} (h : Cn y v) : vi y = vi v:=by have:=congrArg vi h.c;rwa [can_vi,can_vi] at this
theorem Cn.s {y v : D} (h : Cn y v) : vs y = vs v:=by have:=congrArg vs h.c;rwa [can_vs,can_vs] at this
theorem cn_of {y v : D} (hk : vk y = vk v) (hi : vi y = vi v) (hs : vs y = vs v) (hl : vl y = []) : Cn y v:=⟨by unfold can;rw [hk,hi,hs],hl⟩
theorem one1_no {v : D} (h : one1 v = true) (hk : vk v ≠ 3) : vs v = []:=by
 unfold one1 plainB at h
 split at h
 ·cases h
 ·split at h
  ·cases h
  ·rename_i g
   have g : ((vk v != 3) && (vs v != [])) = false:=by simpa using g
   have : (vk v != 3) = true:=by simpa using hk
   rw [this] at g
   simpa using g
theorem one1_3 {v : D} (h : one1 v = true) (hk : vk v = 3) : vi v = 0:=by
 unfold one1 plainB at h
 rw [hk] at h
 split at h
 ·cases h
 ·split at h
  ·cases h
  ·simp at h;exact h.1
theorem one1_1 {v : D} (h : one1 v = true) (hk : vk v = 1) : vi v = 0 ∨ vi v = 1:=by
 unfold one1 plainB at h
 rw [hk] at h
 split at h
 ·cases h
 ·split at h
  ·cases h
  ·simp at h;exact h
theorem one1_4 {v : D} (h : one1 v = true) (hk : vk v = 4) : 0 <= vi v /\ vi v <= 1099511627776:=by
 unfold one1 plainB at h
 rw [hk] at h
 split at h
 ·cases h
 ·split at h
  ·cases h
  ·simp at h;exact h
theorem lit_fwd {toks : List D} {a : Nat} {v : D} (h1 : one1 v = true) (hb : litB v false = true) (h : Seg toks a (litT1 v)) :
  ∃ y,literalP toks (a,0) = (y,true,(a + 1,0)) /\ Cn y v /\ (litT1 v).length = 1 /\ isP toks (a,0) [45] = false /\ isP toks (a,0) wNot = false:=by
 by_cases k2 : vk v = 2
 ·have hn : 0 <= vi v:=by
   rw [litB_2 k2] at hb;simpa using hb
  have e : litT1 v = [mkT 2 [] (vi v)]:=by
   unfold litT1
   rw [k2,if_neg (by decide),if_pos (by decide),if_neg (by simp only [decide_eq_true_eq];omega)]
  rw [e] at h
  have hf : formT (mkT 2 [] (vi v)) = true:=by
   show formI 2 [] (vi v) = true
   unfold formI
   simp [hn]
  have hn':=now_of h.hd hf
  refine ⟨num (vi v),?_,cn_of (by rw [k2];rfl) rfl (by rw [one1_no h1 (by omega)];rfl) rfl,by rw [e];rfl,isnt_k h.hd rfl rfl _,isnt_k h.hd rfl rfl _⟩
  unfold literalP
  rw [hn',tk_mk,tn_mk]
  rfl
 ·rw [litB_o k2] at hb
  by_cases k1 : vk v = 1
  ·have hs:=one1_no h1 (by omega)
   have key : ∀ w b,(w = wTrue /\ b = true ∨ w = wFalse /\ b = false) -> litT1 v = [mkT 1 w 0] -> Seg toks a [mkT 1 w 0] -> vi v = (if b then 1 else 0) -> ∃ y,literalP toks (a,0) = (y,true,(a + 1,0)) /\ Cn y v /\ (litT1 v).length = 1 /\ isP toks (a,0) [45] = false /\ isP toks (a,0) wNot = false:=by
    intro w b hw e h hi
    have hW : wordB w = true:=by rcases hw with ⟨rfl,_⟩ | ⟨rfl,_⟩ <;> decide
    have hp:=is_word h.hd hW
    have hn':=now_of h.hd (form_word hW)
    refine ⟨truthV b,?_,cn_of (by rw [k1];rfl) (by rw [hi];rfl) (by rw [hs];rfl) rfl,by rw [e];rfl,?_,?_⟩
    ·unfold literalP
     rw [hp,hp,hn',tk_mk,ts_mk]
     rcases hw with ⟨rfl,rfl⟩ | ⟨rfl,rfl⟩
     ·rw [show (wTrue == wTrue) = true by decide];rfl
     ·rw [show (wFalse == wTrue) = false by decide,show (wFalse == wFalse) = true by decide];rfl
    ·rw [hp];rcases hw with ⟨rfl,_⟩ | ⟨rfl,_⟩ <;> decide
    ·rw [hp];rcases hw with ⟨rfl,_⟩ | ⟨rfl,_⟩ <;> decide
   by_cases hi : vi v = 1
   ·have e : litT1 v = [mkT 1 wTrue 0]:=by unfold litT1;rw [k1,hi];rfl
    rw [e] at h
    exact key wTrue true (.inl ⟨rfl,rfl⟩) e h (by rw [hi];rfl)
   ·have h0 : vi v = 0:=(one1_1 h1 k1).resolve_right hi
    have e : litT1 v = [mkT 1 wFalse 0]:=by unfold litT1;rw [k1,h0];rfl
    rw [e] at h
    exact key wFalse false (.inr ⟨rfl,rfl⟩) e h (by rw [h0];rfl)
  ·by_cases k4 : vk v = 4
   ·have e : litT1 v = [mkT 4 [] (vi v)]:=by unfold litT1;rw [k4];rfl
    obtain ⟨r1,r2⟩:=one1_4 h1 k4
    rw [e] at h
    have hf : formT (mkT 4 [] (vi v)) = true:=by
     show formI 4 [] (vi v) = true
     unfold formI
     simp [r1,r2]
    have hn':=now_of h.hd hf
    refine ⟨timeV (vi v),?_,cn_of (by rw [k4];rfl) rfl (by rw [one1_no h1 (by omega)];rfl) rfl,by rw [e];rfl,isnt_k h.hd rfl rfl _,isnt_k h.hd rfl rfl _⟩
    unfold literalP
    rw [hn',tk_mk,tn_mk]
    rfl
   ·have hh : vk v = 3 /\ formI 3 (vs v) 0 = true:=by
     simp only [Bool.or_eq_true,Bool.and_eq_true,beq_iff_eq] at hb
     rcases hb with (hb | hb) | hb
     ·exact absurd hb k1
     ·exact absurd hb k4
     ·exact hb
    obtain ⟨k3,hF⟩:=hh
    have e : litT1 v = [mkT 3 (vs v) 0]:=by unfold litT1;rw [k3];rfl
    rw [e] at h
    have hn':=now_of h.hd (show formT (mkT 3 (vs v) 0) = true from hF)
    refine ⟨textV (vs v),?_,?_,by rw [e];rfl,isnt_k h.hd rfl rfl _,isnt_k h.hd rfl rfl _⟩
    ·unfold literalP
     rw [hn',tk_mk,ts_mk]
     rfl
    ·rw [(lit_text hF).1]
     exact cn_of (by rw [k3];rfl) (by rw [one1_3 h1 k3];rfl) rfl rfl
theorem item_fwd {toks : List D} {a : Nat} {v : D} (h1 : one1 v = true) (hb : litB v true = true) (hr : vi v < 2 ^ 63) (h : Seg toks a (litT1 v)) :
  ∃ y,itemP toks (a,0) = (y,(a + (litT1 v).length,0)) /\ Cn y v:=by
 by_cases hn : vk v = 2 /\ vi v < 0
 ·obtain ⟨k2,hn⟩:=hn
  have hlo : -9223372036854775808 < vi v:=by
   rw [litB_2 k2] at hb
   simp only [Bool.true_and,Bool.or_eq_true,decide_eq_true_eq] at hb
   omega
  have w : IntKind.i64.wrap (0 - vi v) = -vi v:=by rw [show 0 - vi v = -vi v by omega];exact wrap_of _ (by omega) (by omega)
  have w2 : IntKind.i64.wrap (0 - -vi v) = vi v:=by rw [show 0 - -vi v = vi v by omega];exact wrap_of _ (by omega) (by omega)
  have e : litT1 v = [mkT 5 [45] 0,mkT 2 [] (-vi v)]:=by
   unfold litT1
   rw [k2,if_neg (by decide),if_pos (by decide),if_pos (by simp only [decide_eq_true_eq];omega),w]
  rw [e] at h
  have hp:=is_sgn h.hd (by decide) [45]
  have hf : formT (mkT 2 [] (-vi v)) = true:=by
   show formI 2 [] (-vi v) = true
   unfold formI
   simp;omega
  have hk:=kind_of h.tl.hd hf
  refine ⟨num (vi v),?_,cn_of (by rw [k2];rfl) rfl (by rw [one1_no h1 (by omega)];rfl) rfl⟩
  unfold itemP
  rw [hp,if_pos (by decide),e]
  simp only
  rw [hk,tn_mk,w2]
  rfl
 ·have hb' : litB v false = true:=by
   by_cases k2 : vk v = 2
   ·rw [litB_2 k2];simp;omega
   ·rw [litB_o k2] at hb ⊢;exact hb
  obtain ⟨y,e,hc,hl,hm,_⟩:=lit_fwd h1 hb' h
  refine ⟨y,?_,hc⟩
  unfold itemP
  rw [hm,e,hl]
  rfl
def cmT (l : List D) : List D:=(l.map fun x=>tC :: litT1 x).flatten
theorem cmT_cons (x : D) (l : List D) : cmT (x :: l) = tC :: (litT1 x ++ cmT l):=by simp [cmT]
theorem cmL_cons (x : D) (l : List D) : cmL litT1 (x :: l) = litT1 x ++ cmT l:=by simp [cmL,cmT]
structure Elt (v : D) : Prop where
 o : one1 v = true
 b : litB v true = true
 r : vi v < 2 ^ 63
theorem bagL_fwd {toks : List D} : ∀ (l : List D) (a : Nat) (out : List D),(∀ x ∈ l,Elt x) -> Seg toks a (cmT l) -> isP toks (a + (cmT l).length,0) [44] = false →
  ∃ f ys,bagL toks f out (a,0) = some (out ++ ys,(a + (cmT l).length,0)) /\ ys.map can = l.map can /\ ∀ y ∈ ys,vl y = [] /\ one1 y = true
 | [],a,out,_,_,he=>by
  refine ⟨1,[],?_,rfl,fun y hy=>by cases hy⟩
  have he : isP toks (a,0) [44] = false:=he
  simp only [bagL];rw [he];simp [cmT]
 | x :: l,a,out,hE,h,he=>by
  have hx:=hE x (by simp)
  rw [cmT_cons] at h he ⊢
  have hp:=is_sgn (w:=[44]) h.hd (by decide) [44]
  obtain ⟨y,e,hc⟩:=item_fwd hx.o hx.b hx.r h.tl.fst
  have hl : a + (tC :: (litT1 x ++ cmT l)).length = a + 1 + (litT1 x).length + (cmT l).length:=by simp;omega
  rw [hl] at he ⊢
  obtain ⟨f,ys,e2,e3,e4⟩:=bagL_fwd l (a + 1 + (litT1 x).length) (out ++ [y]) (fun z hz=>hE z (by simp [hz])) h.tl.snd he
  refine ⟨f + 1,y :: ys,?_,by simp only [List.map_cons,e3,hc.c],fun z hz=>?_⟩
  ·simp only [bagL]
   rw [hp,if_pos (by decide),e]
   simp only
   rw [e2];simp
  ·rcases List.mem_cons.1 hz with rfl | hz
   ·exact ⟨hc.l,hc.one hx.o⟩
   ·exact e4 z hz
theorem adj_facts {l : List D} (h : adjB singleD l = true) : rising l /\ ∀ x ∈ l,one1 x = true /\ vk x ≠ 0 /\ vk x = vk0 l:=by
 have key : ∀ i x,l[i]? = some x -> one1 x = true /\ vk x ≠ 0 /\ vk x = vk0 l /\ (i = 0 ∨ ∃ y,l[i - 1]? = some y /\ singleD y x < 0):=fun i x hx=>by
  have:=List.all_eq_true.1 h i (by simpa using lt_of_get hx)
  unfold okEl at this
  rw [hx] at this
  simp only [Bool.and_eq_true,Bool.or_eq_true,bne_iff_ne,ne_eq,beq_iff_eq] at this
  obtain ⟨⟨⟨h1,h2⟩,h3⟩,h4⟩:=this
  refine ⟨h1,h2,h3,h4.imp id fun q=>?_⟩
  split at q
  ·rename_i y hy;exact ⟨y,hy,by simpa using q⟩
  ·cases q
 refine ⟨?_,fun x hx=>?_⟩
 ·unfold rising
  rw [List.pairwise_iff_getElem]
  intro i j hi hj hij
  have hstep : ∀ d i,(hd : i + d + 1 < l.length) -> singleD (l[i]'(by omega)) (l[i + d + 1]'hd) < 0:=by
   intro d
   induction d with
   | zero =>
    intro i hd
    obtain ⟨_,_,_,q⟩:=key (i + 1) l[i + 1] (List.getElem?_eq_getElem hd)
    rcases q with q | ⟨y,hy,q⟩
    ·omega
    ·rw [show i + 1 - 1 = i by omega,List.getElem?_eq_getElem (by omega)] at hy
     injection hy with hy
     rw [hy];exact q
   | succ d ih =>
    intro i hd
    have q1:=ih i (by omega)
    obtain ⟨_,_,_,q⟩:=key (i + (d + 1) + 1) l[i + (d + 1) + 1] (List.getElem?_eq_getElem hd)
    rcases q with q | ⟨y,hy,q⟩
    ·omega
    ·rw [show i + (d + 1) + 1 - 1 = i + d + 1 by omega,List.getElem?_eq_getElem (by omega)] at hy
     injection hy with hy
     rw [<- hy] at q
     exact (single_tr _ _ _).l1 q1 (by omega)
  have:=hstep (j - i - 1) i (by omega)
  simp only [show i + (j - i - 1) + 1 = j by omega] at this
  exact this
 ·obtain ⟨i,hi,rfl⟩:=List.mem_iff_getElem.1 hx
  obtain ⟨h1,h2,h3,_⟩:=key i _ (List.getElem?_eq_getElem hi)
  exact ⟨h1,h2,h3⟩
theorem bagV_of {xs l : List D} (h : adjB singleD l = true) (h5 : ∀ x ∈ l,vk x ≠ 5) (hl : l.length <= 16) (hc : xs.map can = l.map can) (hx : ∀ y ∈ xs,vl y = [] /\ one1 y = true) : bagV xs = (mkV 5 0 [] false (l.map can),0):=by
 obtain ⟨hr,hk⟩:=adj_facts h
 have hg : good1 xs:=fun y hy=>(hx y hy).2
 have mem : ∀ y ∈ xs,∃ x ∈ l,can y = can x:=fun y hy=>by
  have : can y ∈ xs.map can:=List.mem_map.2 ⟨y,hy,rfl⟩
  rw [hc,List.mem_map] at this
  obtain ⟨x,hx,e⟩:=this
  exact ⟨x,hx,e.symm⟩
 have kk : ∀ y ∈ xs,vk y ≠ 0 /\ vk y ≠ 5 /\ vk y = vk0 l:=fun y hy=>by
  obtain ⟨x,hx,e⟩:=mem y hy
  have e : vk y = vk x:=by have:=congrArg vk e;rwa [can_vk,can_vk] at this
  rw [e];exact ⟨(hk x hx).2.1,h5 x hx,(hk x hx).2.2⟩
 have e1 : xs.all formedV = true:=List.all_eq_true.2 fun y hy=>by
  rw [formed_same];unfold formedB
  rw [if_pos (by simpa using (kk y hy).2.1)];exact hg y hy
 have e2 : xs.any (badB xs) = false:=by
  rw [List.any_eq_false]
  intro y hy hb
  have hv0 : vk0 xs = vk0 l:=vk0_eq (fun y hy=>(kk y hy).2.2) (by rintro rfl;cases hy)
  obtain ⟨k1,k2,k3⟩:=kk y hy
  unfold badB at hb
  simp [k1,k2,k3,hv0] at hb
  rw [k3] at k1 k2
  rcases hb with hb | hb
  ·exact k1 hb
  ·exact k2 hb
 have e3 : bagR xs = l.map can:=by
  obtain ⟨b1,b2⟩:=bagR_spec hg
  refine rising_uniq _ _ b1 ?_ fun z=>?_
  ·unfold rising at hr ⊢
   rw [List.pairwise_map]
   exact hr.imp fun {a b} h=>by rw [single_can];exact h
  ·rw [b2 z,← hc,List.mem_map]
   constructor
   ·rintro ⟨x,hx,rfl⟩;exact ⟨x,hx,rfl⟩
   ·rintro ⟨x,hx,rfl⟩;exact ⟨x,hx,rfl⟩
 unfold bagV
 rw [e1,if_neg (by decide),e2,if_neg (by decide),e3,if_neg (by simp only [decide_eq_true_eq,List.length_map];omega)]
end GP
namespace GP
open Go Go.Proofs
set_option maxRecDepth 100000
section
variable {toks : List D} {st : St} {a : Nat} {w : List UInt8}
def Nxt (toks : List D) (st : St) (w : List UInt8) : Prop:=∀ u,isP toks st u = (w == u)
theorem Nxt.tk (h : Nxt toks st w) : GP.tk (nowS toks st) = 1 ∨ GP.tk (nowS toks st) = 5:=by
 have:=h w
 unfold isP at this
 simp only [beq_self_eq_true,Bool.and_eq_true,Bool.or_eq_true,beq_iff_eq] at this
 exact this.1
theorem Nxt.ne {u : List UInt8} (h : Nxt toks st w) (hu : (w == u) = false) : isP toks st u = false:=by rw [h,hu]
theorem Nxt.lit (h : Nxt toks st w) (h1 : (w == wTrue) = false) (h2 : (w == wFalse) = false) : (literalP toks st).2.1 = false:=by
 have hk:=h.tk
 have k2 : (GP.tk (nowS toks st) == 2) = false:=by rw [beq_eq_false_iff_ne];omega
 have k3 : (GP.tk (nowS toks st) == 3) = false:=by rw [beq_eq_false_iff_ne];omega
 have k4 : (GP.tk (nowS toks st) == 4) = false:=by rw [beq_eq_false_iff_ne];omega
 unfold literalP
 rw [k2,k3,k4,h.ne h1,h.ne h2];rfl
theorem Nxt.first (h : Nxt toks st w) : ∀ {ws : List (List UInt8)},w ∈ ws -> firstP toks st ws = some w
 | [],hw=>by cases hw
 | u :: r,hw=>by
  simp only [firstP,h u]
  cases g : w == u with
  | true=>simp only [if_true];rw [eq_of_beq' g]
  | false =>
   simp only [Bool.false_eq_true,if_false]
   refine h.first ?_
   rcases List.mem_cons.1 hw with rfl | hw
   ·rw [beq_self_eq_true] at g;cases g
   ·exact hw
theorem Nxt.plain (h : Nxt toks st w) (h1 : (w == wTrue) = false) (h2 : (w == wFalse) = false) (f : Nat) : pLv (f + 1) .plain toks st =
  if w == wNow then some (leafD wNow [] [],(st.1 + 1,st.2)) else
  if w == [40] then pLv f .inner toks st else
  if w == [91] then bagP toks f st.1 (st.1 + 1,st.2) else
  if w == wSize then oneS wSize (pLv f .inner toks (st.1 + 1,st.2)) else
  if w == wRole then some (leafD wRole [] (ts (kindP toks 3 (mustP toks [40] (st.1 + 1,st.2))).1),mustP toks [41] (kindP toks 3 (mustP toks [40] (st.1 + 1,st.2))).2) else
  if w == wHas then some (leafD wHas (attrP toks (mustP toks [40] (st.1 + 1,st.2))).1 (attrP toks (mustP toks [40] (st.1 + 1,st.2))).2.1,mustP toks [41] (attrP toks (mustP toks [40] (st.1 + 1,st.2))).2.2) else
  some (leafD wAttr (attrP toks st).1 (attrP toks st).2.1,(attrP toks st).2.2):=by
 simp only [pLv,plainP]
 rw [h.lit h1 h2,h wNow,h [40],h [91],h wSize,h wRole,h wHas]
 rfl
theorem nx_word (h : toks[a]? = some (mkT 1 w 0)) (hw : wordB w = true) : Nxt toks (a,0) w:=is_word h hw
theorem nx_sign (h : toks[a]? = some (mkT 5 w 0)) (hw : isSign w = true) : Nxt toks (a,0) w:=is_sgn h hw
theorem nx_P (h : toks[a]? = some tP) : Nxt toks (a,0) [40]:=is_sgn h (by decide)
theorem nx_Q (h : toks[a]? = some tQ) : Nxt toks (a,0) [41]:=is_sgn h (by decide)
theorem Nxt.must (h : Nxt toks (a,0) w) : mustP toks w (a,0) = (a + 1,0):=must_of (by rw [h];simp)
end
theorem inB_mem2 {l : List (List UInt8)} {s : List UInt8} (h : inB l s = true) : s ∈ l:=by
 unfold inB at h
 obtain ⟨x,hx,e⟩:=List.any_eq_true.1 h
 have : x = s:=by simpa using e
 rw [<- this];exact hx
theorem name_fwd {toks : List D} {a : Nat} {n : List UInt8} (h : toks[a]? = some (mkT 1 n 0)) (hn : nameB n = true) : nameP toks (a,0) = (n,(a + 1,0)):=by
 unfold nameB at hn
 simp only [Bool.and_eq_true,Bool.not_eq_true'] at hn
 have hq:=now_of h (show formT (mkT 1 n 0) = true from hn.1)
 unfold nameP
 rw [hq,tk_mk,ts_mk,keptB_in,hn.2]
 rfl
theorem attr_fwd {toks : List D} {a : Nat} {who n : List UInt8} (h : Seg toks a [mkT 1 who 0,mkT 5 [46] 0,mkT 1 n 0]) (hw : inB whoW who = true) (hn : nameB n = true) : attrP toks (a,0) = (who,n,(a + 3,0)):=by
 have hm:=inB_mem2 hw
 have hW : wordB who = true:=by
  have : ∀ w ∈ whoW,wordB w = true:=by decide
  exact this who hm
 have e1 : oneP toks whoW (a,0) = (who,(a + 1,0)):=by
  unfold oneP;rw [(nx_word h.hd hW).first hm]
 have e2:=(nx_sign h.tl.hd (w:=[46]) (by decide)).must
 have e3:=name_fwd h.tl.tl.hd hn
 unfold attrP
 rw [e1]
 simp only
 rw [e2,e3]
theorem sameB_of {y v : D} (hk : vk y = vk v) (hi : vi y = vi v) (hs : vs y = vs v) (hl : vl y = []) (hl' : vl v = []) : sameB y v = true:=by
 unfold sameB
 rw [hk,hi,hs,hl,hl'];simp
theorem one1_vl {v : D} (h : one1 v = true) : vl v = []:=by
 have : (vl v).length = 0:=plain_leaf h
 exact List.eq_nil_of_length_eq_zero this
theorem val_fwd {toks : List D} {a : Nat} {v : D} (hr : ∀ x ∈ vl v,vi x < 2 ^ 63) (h : valB v = true) (hs : Seg toks a (litT v)) :
  ∃ y,Pr .plain toks (a,0) (valE y,(a + (litT v).length,0)) /\ sameB y v = true /\ (∃ k i s n l,y = mkV k i s n l /\ ∀ x ∈ l,vl x = []) /\ isP toks (a,0) wNot = false /\ isP toks (a,0) [45] = false:=by
 have hF : formedB v = true:=by
  unfold valB at h
  cases hf : formedB v with
  | true=>rfl
  | false=>rw [hf] at h;cases h
 cases hL : leaf1 v with
 | true =>
  have h5 : vk v ≠ 5:=fun e=>by unfold leaf1 at hL;rw [e] at hL;cases hL
  have h5' : (vk v != 5) = true:=by simpa using h5
  have h1 : one1 v = true:=by unfold formedB at hF;rwa [if_pos h5'] at hF
  have hb : litB v false = true:=by rw [valB_o h5 h1] at h;exact h
  rw [leaf1_litT hL] at hs ⊢
  obtain ⟨y,e,hc,hl,hm,hn⟩:=lit_fwd h1 hb hs
  refine ⟨y,⟨1,?_⟩,sameB_of hc.k hc.i hc.s hc.l (one1_vl h1),?_,hn,hm⟩
  ·simp only [pLv,plainP]
   rw [e,hl];rfl
  ·have key : y = num (tn (nowS toks (a,0))) ∨ y = textV (ts (nowS toks (a,0))) ∨ y = timeV (tn (nowS toks (a,0))) ∨ y = truthV (ts (nowS toks (a,0)) == wTrue) ∨ y = zeroV:=by
    have e':=congrArg Prod.fst e
    simp only at e'
    rw [<- e']
    unfold literalP
    (repeat' split) <;> simp
   rcases key with rfl | rfl | rfl | rfl | rfl <;> exact ⟨_,_,_,true,[],rfl,fun x hx=>by cases hx⟩
 | false =>
  have hv5 : vk v = 5:=by
   unfold valB at h
   rw [hF] at h
   simp only [Bool.not_true,Bool.false_eq_true,if_false] at h
   split at h
   ·rename_i g
    have:=litB_leaf h
    rw [this] at hL;cases hL
   ·rename_i g;simpa using g
  have hk : (vk v != 5) = false:=by simp [hv5]
  unfold valB at h
  rw [hF,hk] at h
  simp only [Bool.not_true,Bool.false_eq_true,if_false,Bool.and_eq_true,decide_eq_true_eq] at h
  obtain ⟨hall,hpos⟩:=h
  unfold formedB at hF
  rw [hk] at hF
  simp only [Bool.false_eq_true,if_false] at hF
  split at hF
  ·cases hF
  rename_i g
  simp only [Bool.or_eq_true,not_or,bne_iff_ne,ne_eq,Decidable.not_not,decide_eq_true_eq,Int.not_lt] at g
  obtain ⟨⟨gi,gs⟩,gl⟩:=g
  have hlit : litT v = mkT 5 [91] 0 :: (cmL litT1 (vl v) ++ [mkT 5 [93] 0]):=by unfold litT;rw [hL];rfl
  obtain ⟨hrise,hone⟩:=adj_facts hF
  have hall' : ∀ x ∈ vl v,litB x true = true:=fun x hx=>List.all_eq_true.1 hall x hx
  have h5 : ∀ x ∈ vl v,vk x ≠ 5:=fun x hx e=>by
   have:=hall' x hx
   unfold litB at this
   rw [e] at this;cases this
  obtain ⟨L,hLe⟩ : ∃ L,vl v = L:=⟨_,rfl⟩
  rw [hLe] at hlit hr hall' hone h5 hF gl hpos hrise
  cases L with
  | nil=>simp at hpos
  | cons x l =>
   rw [cmL_cons] at hlit
   rw [hlit] at hs ⊢
   have N:=nx_sign hs.hd (w:=[91]) (by decide)
   have hE : ∀ z ∈ x :: l,Elt z:=fun z hz=>⟨(hone z hz).1,hall' z hz,hr z hz⟩
   have s1:=hs.tl
   rw [List.append_assoc] at s1
   have hx:=hE x (by simp)
   obtain ⟨y0,e0,c0⟩:=item_fwd hx.o hx.b hx.r s1.fst
   have s2:=s1.snd
   have s3:=s2.snd
   have Q:=nx_sign s3.hd (w:=[93]) (by decide)
   obtain ⟨f,ys,e1,e2,e3⟩:=bagL_fwd l (a + 1 + (litT1 x).length) [y0] (fun z hz=>hE z (by simp [hz])) s2.fst (Q.ne (by decide))
   have eb:=bagV_of (xs:=[y0] ++ ys) hF h5 (by omega) (by simp only [List.singleton_append,List.map_cons,e2,c0.c]) (fun z hz=>by
    rcases List.mem_append.1 hz with hz | hz
    ·rw [List.mem_singleton] at hz;subst hz;exact ⟨c0.l,c0.one hx.o⟩
    ·exact e3 z hz)
   refine ⟨mkV 5 0 [] false ((x :: l).map can),⟨f + 1,?_⟩,?_,⟨_,_,_,_,_,rfl,fun z hz=>?_⟩,N.ne (by decide),N.ne (by decide)⟩
   ·rw [N.plain (by decide) (by decide)]
    show bagP toks f a (a + 1,0) = _
    unfold bagP
    rw [e0]
    simp only
    rw [e1]
    simp only
    rw [Q.must,eb]
    simp only [List.length_cons,List.length_append,List.length_nil]
    show some (_,(_,_)) = _
    congr 3
    omega
   ·unfold sameB
    simp only [vk_mk,vi_mk,vs_mk,vl_mk,hv5,gi,gs,hLe,List.length_map]
    rw [if_neg (by simp)]
    refine List.all_eq_true.2 fun i hi=>?_
    have hi : i < (x :: l).length:=by simpa using hi
    unfold okSame
    rw [List.getElem?_map,List.getElem?_eq_getElem hi]
    simp only [Option.map_some]
    have o:=(hone _ (List.getElem_mem hi)).1
    unfold sameEl
    rw [can_vk,can_vi,can_vs,can_vl,one1_vl o]
    simp
   ·obtain ⟨y,_,rfl⟩:=List.mem_map.1 hz
    exact can_vl y
end GP
