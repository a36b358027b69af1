import Derived.Test.YtainhmbnbgonhaaGreatDoorM9
import Derived.Test.YtainhmbnbgonhaaGreatDoorM16
set_option linter.unusedSimpArgs false
set_option linter.unnecessarySimpa false
namespace GP
open Go Go.Proofs
set_option maxRecDepth 100000
theorem JP : kR eE eE = true:=by decide
theorem JD {e : D} (hV : eV e = eE) (hw : lP e = []) (hn : fB e = []) (g1 : (eop e == fU) = false) (g3 : (eop e == eJ) = false) (g4 : (eop e == i8) = false) : (eop e == dK) = false -> tH e = true:=by
 intro g5
 unfold tH
 rw [if_neg (by rw [g1];decide),hV,JP,if_neg (by decide),g3,g4,if_neg (by decide),if_neg (by rw [g5];decide),hw,hn]
 rfl
theorem FX {op : List UInt8} {a b : D} (ho : op.length <= 2 ^ 47) (h : sY op) (ha : GoodE a) (hb : GoodE b) : GoodE (mA op a b):=by
 obtain ⟨g1,g2,g3,g4,g5,g6,g7,g8⟩:=Dz h
 refine v5 ?_ ?_ ?_ ?_ (JD rfl rfl rfl g1 g3 g4 g5)
 ·exact ⟨_,EI ho (dH (Nat.le_max_left _ _) ha.t.can) (dH (Nat.le_max_right _ _) hb.t.can)⟩
 ·show 0 <= stI op
  unfold sY at h;omega
 ·show (([a,b] : List D).length : Int) = arN op
  rw [MF h];rfl
 ·intro x hx
  have hx : x ∈ [a,b]:=hx
  simp only [List.mem_cons,List.not_mem_nil,or_false] at hx
  rcases hx with rfl | rfl
  ·exact ha
  ·exact hb
theorem PT {full : Bool} {op : List UInt8} {a b : D} (ho : op.length <= 2 ^ 47) (h : sY op) (ha : GoodE a) (hb : GoodE b) : tkC full (mA op a b) = iW full (stI (eop a)) (FO op) (tkC full a) ++ (D5 op :: iW full (stI (eop b)) (stI op + 1) (tkC full b)) :=
 Qn (FX ho h ha hb) h
theorem Bv {op : List UInt8} {a : D} (h : op = dN ∨ op = lF ∨ op = oJ) (ha : GoodE a) : GoodE (jQ op a):=by
 have hl : op.length <= 2 ^ 47:=by rcases h with rfl | rfl | rfl <;> decide
 refine v5 ⟨_,I9 hl ha.t.can⟩ ?_ ?_ ?_ (JD rfl rfl rfl ?_ ?_ ?_ ?_)
 ·show 0 <= stI op
  rcases h with rfl | rfl | rfl <;> decide
 ·show (1 : Int) = arN op
  rcases h with rfl | rfl | rfl <;> decide
 ·intro x hx
  have hx : x ∈ [a]:=hx
  rw [List.mem_singleton] at hx;subst hx;exact ha
 ·show (op == fU) = false
  rcases h with rfl | rfl | rfl <;> decide
 ·show (op == eJ) = false
  rcases h with rfl | rfl | rfl <;> decide
 ·show (op == i8) = false
  rcases h with rfl | rfl | rfl <;> decide
 ·show (op == dK) = false
  rcases h with rfl | rfl | rfl <;> decide
theorem sD {op who name : List UInt8} (h : (op = iZ /\ who = [] /\ name = []) ∨ ((op = eJ ∨ op = i8) /\ inB j7 who = true /\ gL name = true) ∨ (op = dK /\ who = [] /\ cG 3 name 0 = true)) (h1 : who.length <= 2 ^ 47) (h2 : name.length <= 2 ^ 47) : GoodE (dQ op who name):=by
 have hop : op = iZ ∨ op = eJ ∨ op = i8 ∨ op = dK:=by
  rcases h with ⟨rfl,_⟩ | ⟨rfl | rfl,_⟩ | ⟨rfl,_⟩ <;> simp
 have hl : op.length <= 2 ^ 47:=by rcases hop with rfl | rfl | rfl | rfl <;> decide
 refine v5 ⟨_,pM hl h1 h2⟩ ?_ ?_ (fun x hx=>by cases hx) ?_
 ·show 0 <= stI op
  rcases hop with rfl | rfl | rfl | rfl <;> decide
 ·show (0 : Int) = arN op
  rcases hop with rfl | rfl | rfl | rfl <;> decide
 ·show (if op == fU then m6 eE && (who == []) && (name == []) else if !kR eE eE then false else if (op == eJ) || (op == i8) then inB j7 who && gL name else if op == dK then (who == []) && cG 3 name 0 else (who == []) && (name == [])) = true
  rcases h with ⟨rfl,rfl,rfl⟩ | ⟨rfl | rfl,h1,h2⟩ | ⟨rfl,rfl,h2⟩
  ·decide
  ·rw [if_neg (by decide),if_neg (by decide),if_pos (by decide),h1,h2];rfl
  ·rw [if_neg (by decide),if_neg (by decide),if_pos (by decide),h1,h2];rfl
  ·rw [if_neg (by decide),if_neg (by decide),if_neg (by decide),if_pos (by decide),h2];rfl
theorem oK {v : D} (h : mT v) : eop (kZ v) = fU /\ eV (kZ v) = v /\ lP (kZ v) = [] /\ fB (kZ v) = [] /\ eps (kZ v) = []:=by
 obtain ⟨k,i,s,n,l,rfl,_⟩:=bZ h.1
 exact ⟨rfl,rfl,rfl,rfl,rfl⟩
theorem FA {v : D} (hv : mT v) (h : m6 v = true) : GoodE (kZ v):=by
 obtain ⟨e1,e2,e3,e4,e5⟩:=oK hv
 refine v5 ⟨_,DI hv⟩ (by rw [e1];decide) (by rw [e1,e5];decide) (fun x hx=>by rw [e5] at hx;cases hx) ?_
 unfold tH
 rw [e1,e2,e3,e4,if_pos (by decide),h];rfl
theorem Nb {full : Bool} {v : D} (hv : mT v) (h : m6 v = true) : tkC full (kZ v) = qI v:=by
 obtain ⟨e1,e2,_⟩:=oK hv
 rw [S0 (FA hv h) (by rw [e1];decide),e2]
structure Rdd (toks : List D) (s : Int) (x : D) (a b : Nat) : Prop where
 g : GoodE x
 c : iC (tkC true x) = lD toks a b
 m : (iW false (stI (eop x)) s (tkC false x)).length <= b - a
 l : a < b
theorem EL (s s' : Int) (l : List D) : iW false s s' l = if s' <= s then l else tP :: (l ++ [tQ]):=by
 unfold iW
 simp only [Bool.not_false,Bool.true_or,Bool.and_true,decide_eq_true_eq]
theorem Jt {s s1 s2 : Int} (h : s1 <= s2) (l : List D) : (iW false s s1 l).length <= (iW false s s2 l).length:=by
 rw [EL,EL]
 split <;> split <;> simp <;> omega
theorem RB (s s1 : Int) (l : List D) : (iW false s s1 l).length <= l.length + 2:=by
 rw [EL];split <;> simp
theorem iA {s s' : Int} (h : s' <= s) (l : List D) : iW false s s' l = l:=by rw [EL,if_pos h]
theorem AB (full : Bool) (s s' : Int) (l : List D) : iC (iW full s s' l) = iC l:=by
 unfold iW
 split
 ·rfl
 ·have e : tP :: (l ++ [tQ]) = [tP] ++ l ++ [tQ]:=by simp
  rw [e,lJ,lJ]
  show 0 + iC l + 0 = iC l
  omega
theorem gT (t : D) (l : List D) : iC (t :: l) = (if pkB t then 1 else 0) + iC l:=by
 unfold iC
 rw [List.filter_cons]
 split
 ·simp;omega
 ·simp
theorem Rdd.up {toks : List D} {s s2 : Int} {x : D} {a b : Nat} (h : Rdd toks s2 x a b) (hs : s <= s2) : Rdd toks s x a b :=
 ⟨h.g,h.c,Nat.le_trans (Jt hs _) h.m,h.l⟩
def Kc : List (List UInt8):=[wOr,Gg,[61,61],[33,61],[60],[60,61],[62],[62,61],[105,110],[43],[45],[42]]
theorem O5 {op : List UInt8} (h : op ∈ Kc) : sY op /\ op.length <= 2 ^ 47 /\ (if pkB (D5 op) then 1 else 0) = pkW op:=by
 have key : ∀ op ∈ Kc,(stI op = 0 ∨ stI op = 1 ∨ stI op = 3 ∨ stI op = 4 ∨ stI op = 5) /\ op.length <= 2 ^ 47 /\ (if pkB (D5 op) then 1 else 0) = pkW op:=by decide
 exact key op h
theorem Rdd.two {toks : List D} {op : List UInt8} (h : op ∈ Kc) {x y : D} {a b c : Nat} {st : St} (hst : st.1 = b) (hp : isP toks st op = true) (hx : Rdd toks (FO op) x a b) (hy : Rdd toks (stI op + 1) y (b + 1) c) : Rdd toks (stI op) (mA op x y) a c:=by
 obtain ⟨h2,hl,hk⟩:=O5 h
 have e1:=fun full=>PT (full:=full) hl h2 hx.g hy.g
 have hlx:=hx.l
 have hly:=hy.l
 refine ⟨FX hl h2 hx.g hy.g,?_,?_,by omega⟩
 ·rw [e1,lJ,gT,AB,AB,hx.c,hy.c,hk]
  have:=eR hp
  rw [hst] at this
  have q1:=cF (toks:=toks) (a:=a) (b:=b) (c:=c) (by omega) (by omega)
  have q2:=cF (toks:=toks) (a:=b) (b:=b + 1) (c:=c) (by omega) (by omega)
  omega
 ·rw [iA (show stI op <= stI (eop (mA op x y)) from Int.le_refl _),e1]
  simp only [List.length_append,List.length_cons]
  have m1:=hx.m
  have m2:=hy.m
  omega
theorem Rdd.not {toks : List D} {x : D} {st : St} {b : Nat} (hp : isP toks st sQ = true) (hx : Rdd toks 2 x (st.1 + 1) b) : Rdd toks 2 (jQ sQ x) st.1 b:=by
 have hg:=Bv (op:=lF) (.inr (.inl rfl)) hx.g
 have e1:=fun full=>S5 (full:=full) hg rfl
 have hl:=hx.l
 refine ⟨hg,?_,?_,by omega⟩
 ·show iC (tkC true (jQ lF x)) = _
  rw [e1,gT,AB,show eZ (jQ lF x) = x from rfl,hx.c]
  have q1:=cF (toks:=toks) (a:=st.1) (b:=st.1 + 1) (c:=b) (by omega) (by omega)
  rw [q1,eR hp]
  rfl
 ·show (iW false (stI lF) 2 (tkC false (jQ lF x))).length <= _
  rw [iA (by decide),e1,show eZ (jQ lF x) = x from rfl]
  have m1:=hx.m
  simp only [List.length_cons];omega
theorem Rdd.neg {toks : List D} {x : D} {st : St} {b : Nat} (hp : isP toks st [45] = true) (hx : Rdd toks 6 x (st.1 + 1) b) : Rdd toks 6 (jQ CL x) st.1 b:=by
 have hg:=Bv (op:=oJ) (.inr (.inr rfl)) hx.g
 have e1:=fun full=>RT (full:=full) hg rfl
 have hl:=hx.l
 refine ⟨hg,?_,?_,by omega⟩
 ·show iC (tkC true (jQ oJ x)) = _
  rw [e1,gT,AB,show eZ (jQ oJ x) = x from rfl,hx.c]
  have q1:=cF (toks:=toks) (a:=st.1) (b:=st.1 + 1) (c:=b) (by omega) (by omega)
  rw [q1,eR hp]
  rfl
 ·show (iW false (stI oJ) 6 (tkC false (jQ oJ x))).length <= _
  rw [iA (by decide),e1,show eZ (jQ oJ x) = x from rfl]
  have m1:=hx.m
  simp only [List.length_cons];omega
theorem Rdd.val {toks : List D} {v : D} {a b : Nat} {s : Int} (hs : s <= 7) (hv : mT v) (h : m6 v = true) (hc : iC (qI v) = lD toks a b) (hm : (qI v).length <= b - a) (hl : a < b) : Rdd toks s (kZ v) a b:=by
 have e1:=fun full=>Nb (full:=full) hv h
 obtain ⟨e0,_⟩:=oK hv
 refine ⟨FA hv h,by rw [e1,hc],?_,hl⟩
 rw [e0,iA (by rw [show stI fU = 7 by decide];exact hs),e1];exact hm
theorem ML {v : D} {b : Bool} (h : vk v = 2) : iH v b = (decide (0 <= vi v) || (b && decide (-9223372036854775808 < vi v))):=by
 unfold iH;rw [if_pos (by rw [h];decide)]
theorem Rq {v : D} {b : Bool} (h : vk v ≠ 2) : iH v b = ((vk v == 1) || (vk v == 4) || ((vk v == 3) && cG 3 (vs v) 0)):=by
 unfold iH;rw [if_neg (by simpa using h)]
theorem HK {v : D} (h : vk v ≠ 5) (h1 : dI v = true) : m6 v = iH v false:=by
 have hk : (vk v != 5) = true:=by simpa using h
 unfold m6 cJ
 simp only [hk,if_true,h1,Bool.not_true,Bool.false_eq_true,if_false]
theorem Od {n : Int} (h : 0 <= n) : m6 (num n) = true /\ qI (num n) = [mkT 2 [] n] /\ iH (num n) true = true /\ dI (num n) = true:=by
 have d : decide (n < 0) = false:=by simp only [decide_eq_false_iff_not];omega
 have d2 : decide (0 <= n) = true:=by simpa using h
 have a : ∀ b,iH (num n) b = true:=fun b=>by rw [ML rfl,show vi (num n) = n from rfl,d2];rfl
 have b : dI (num n) = true:=rfl
 refine ⟨by rw [HK (fun e=>by cases e) b,a],?_,a true,b⟩
 ·show (if decide (n < 0) then [mkT 5 [45] 0,mkT 2 [] (IntKind.i64.wrap (0 - n))] else [mkT 2 [] n]) = _
  rw [d];rfl
theorem NZ {n : Int} (h : 0 <= n) (h' : n < 2 ^ 63) : iH (num (IntKind.i64.wrap (0 - n))) true = true /\ dI (num (IntKind.i64.wrap (0 - n))) = true /\ iB (num (IntKind.i64.wrap (0 - n))) = if n = 0 then [mkT 2 [] 0] else [mkT 5 [45] 0,mkT 2 [] n]:=by
 have w : IntKind.i64.wrap (0 - n) = -n:=by rw [show 0 - n = -n by omega];exact eH _ (by omega) (by omega)
 rw [w]
 refine ⟨?_,rfl,?_⟩
 ·rw [ML rfl,show vi (num (-n)) = -n from rfl,show decide (-9223372036854775808 < -n) = true by simp only [decide_eq_true_eq];omega];simp
 ·show (if decide (-n < 0) then [mkT 5 [45] 0,mkT 2 [] (IntKind.i64.wrap (0 - -n))] else [mkT 2 [] (-n)]) = _
  by_cases h0 : n = 0
  ·subst h0;rfl
  ·rw [if_pos (by simp only [decide_eq_true_eq];omega),if_neg h0,show (0 - -n) = n by omega,eH _ (by omega) (by omega)]
theorem MP {s : List UInt8} (h : cG 3 s 0 = true) : jB s = .agg [.int .i64 3,.int .i64 0,.str s,.nils] /\ m6 (jB s) = true /\ qI (jB s) = [mkT 3 s 0] /\ iH (jB s) true = true /\ dI (jB s) = true:=by
 have hl : s.length <= 64:=by
  unfold cG at h
  simp only [show ((3 : Int) == 1) = false from rfl,show ((3 : Int) == 2) = false from rfl,Bool.false_eq_true,if_false,beq_self_eq_true,if_true,Bool.and_eq_true,decide_eq_true_eq] at h
  omega
 have e : jB s = .agg [.int .i64 3,.int .i64 0,.str s,.nils]:=by
  unfold jB
  rw [Nat.min_eq_left hl,List.take_length]
 rw [e]
 have a : ∀ b,iH (.agg [.int .i64 3,.int .i64 0,.str s,.nils]) b = true:=fun b=>by
  rw [Rq (fun e=>by cases e),show vs (.agg [.int .i64 3,.int .i64 0,.str s,.nils]) = s from rfl,h];rfl
 have b : dI (.agg [.int .i64 3,.int .i64 0,.str s,.nils]) = true:=by
  show ((0 : Int) == 0 && decide ((s.length : Int) <= 64)) = true
  rw [show decide ((s.length : Int) <= 64) = true by simp only [decide_eq_true_eq];omega];rfl
 refine ⟨rfl,?_,rfl,a true,b⟩
 rw [HK (fun e=>by cases e) b,a]
theorem MO {n : Int} (h : cG 4 [] n = true) : m6 (vQ n) = true /\ qI (vQ n) = [mkT 4 [] n] /\ iH (vQ n) true = true /\ dI (vQ n) = true:=by
 have b : dI (vQ n) = true:=by
  show (decide (0 <= n) && decide (n <= 1099511627776)) = true
  unfold cG at h
  simp only [show ((4 : Int) == 1) = false from rfl,show ((4 : Int) == 2) = false from rfl,show ((4 : Int) == 3) = false from rfl,Bool.false_eq_true,if_false,beq_self_eq_true,if_true,Bool.true_and] at h
  exact h
 refine ⟨?_,rfl,rfl,b⟩
 rw [HK (fun e=>by cases e) b];rfl
theorem Cw (b : Bool) : m6 (mP b) = true /\ qI (mP b) = [mkT 1 (if b then gB else hU) 0] /\ iH (mP b) true = true /\ dI (mP b) = true:=by
 cases b <;> exact ⟨by decide,rfl,by decide,by decide⟩
theorem Ls {toks : List D} {st : St} (h : (aF toks st).2.1 = true) : m6 (aF toks st).1 = true /\ iH (aF toks st).1 true = true /\ dI (aF toks st).1 = true /\ qV (aF toks st).1 = true ∧
  qI (aF toks st).1 = [bI toks st] /\ lD toks st.1 (st.1 + 1) = 0 /\ (aF toks st).2.2 = (st.1 + 1,0) /\ pkB (bI toks st) = false:=by
 have lf : ∀ v : D,m6 v = true -> vk v ≠ 5 -> qV v = true:=fun v hv hk=>(NL hv).elim id fun q=>by
  unfold m6 at hv
  split at hv
  ·cases hv
  ·rw [if_pos (by simpa using hk)] at hv;exact xB hv
 have key : ∀ k : Int,k = 2 ∨ k = 3 ∨ k = 4 -> tk (bI toks st) = k -> st.2 = 0 /\ (∃ s n,bI toks st = mkT k s n /\ cG k s n = true) /\ lD toks st.1 (st.1 + 1) = 0 /\ pkB (bI toks st) = false:=fun k hk e=>by
  obtain ⟨a1,a2,a3⟩:=Ap (toks:=toks) (st:=st) (by omega)
  have hp : pkB (bI toks st) = false:=EG (by omega) (by omega)
  refine ⟨a1,?_,by rw [pX a2,hp];rfl,hp⟩
  unfold pH at a3
  rw [e] at a3
  refine ⟨ts (bI toks st),tn (bI toks st),?_,a3⟩
  rw [<- e]
  have hsh : ∀ t : D,tk t ≠ 0 -> t = mkT (tk t) (ts t) (tn t):=fun t ht=>by
   unfold tk at ht
   split at ht
   ·rfl
   ·exact absurd rfl ht
  exact hsh _ (by omega)
 unfold aF at h ⊢
 split
 ·rename_i g
  obtain ⟨a1,⟨s,n,e,f⟩,c,hp⟩:=key 2 (by simp) (by simpa using g)
  unfold cG at f
  simp only [show ((2 : Int) == 1) = false from rfl,Bool.false_eq_true,if_false,beq_self_eq_true,if_true,Bool.and_eq_true,decide_eq_true_eq,beq_iff_eq] at f
  obtain ⟨rfl,hn⟩:=f
  rw [e,zJ,a1]
  obtain ⟨q1,q2,q3,q4⟩:=Od hn
  exact ⟨q1,q3,q4,rfl,q2,c,rfl,by rw [<- e];exact hp⟩
 split
 ·rename_i g
  obtain ⟨a1,⟨s,n,e,f⟩,c,hp⟩:=key 3 (by simp) (by simpa using g)
  have hn : n = 0:=by
   unfold cG at f
   simp only [show ((3 : Int) == 1) = false from rfl,show ((3 : Int) == 2) = false from rfl,Bool.false_eq_true,if_false,beq_self_eq_true,if_true,Bool.and_eq_true,beq_iff_eq] at f
   exact f.2
  subst hn
  rw [e,kU,a1]
  obtain ⟨q0,q1,q2,q3,q4⟩:=MP f
  exact ⟨q1,q3,q4,by rw [q0];rfl,q2,c,rfl,by rw [<- e];exact hp⟩
 split
 ·rename_i g
  obtain ⟨a1,⟨s,n,e,f⟩,c,hp⟩:=key 4 (by simp) (by simpa using g)
  have hn : s = []:=by
   unfold cG at f
   simp only [show ((4 : Int) == 1) = false from rfl,show ((4 : Int) == 2) = false from rfl,show ((4 : Int) == 3) = false from rfl,Bool.false_eq_true,if_false,beq_self_eq_true,if_true,Bool.and_eq_true,beq_iff_eq] at f
   exact f.1.1
  subst hn
  rw [e,zJ,a1]
  obtain ⟨q1,q2,q3,q4⟩:=MO f
  exact ⟨q1,q3,q4,rfl,q2,c,rfl,by rw [<- e];exact hp⟩
 split
 ·rename_i g
  have hw : ∀ w,w = gB ∨ w = hU -> isP toks st w = true -> st.2 = 0 /\ bI toks st = mkT 1 w 0 /\ lD toks st.1 (st.1 + 1) = 0 /\ pkB (bI toks st) = false:=fun w hw hp=>by
   obtain ⟨a1,a2,a3,a4⟩:=Ll hp
   have a5 : tk (bI toks st) = 1:=by
    rcases a4 with ⟨a4,_⟩ | ⟨_,a5⟩
    ·exact a4
    ·exfalso
     rcases hw with rfl | rfl
     ·exact absurd a5 (by decide)
     ·exact absurd a5 (by decide)
   obtain ⟨_,_,b3⟩:=Ap (toks:=toks) (st:=st) (by omega)
   have hz : tn (bI toks st) = 0:=by
    unfold pH cG at b3
    rw [a5] at b3
    simp only [beq_self_eq_true,if_true,Bool.and_eq_true,beq_iff_eq] at b3
    exact b3.2
   have hsh : ∀ t : D,tk t ≠ 0 -> t = mkT (tk t) (ts t) (tn t):=fun t ht=>by
    unfold tk at ht
    split at ht
    ·rfl
    ·exact absurd rfl ht
   refine ⟨a1,?_,?_,?_⟩
   ·rw [hsh (bI toks st) (by omega),a5,a3,hz]
   ·rw [eR hp];rcases hw with rfl | rfl <;> decide
   ·rw [uZ a5,a3];rcases hw with rfl | rfl <;> decide
  rw [Bool.or_eq_true] at g
  rcases g with g | g
  ·obtain ⟨a1,e,c,hp⟩:=hw gB (.inl rfl) g
   rw [e,kU,a1]
   obtain ⟨q1,q2,q3,q4⟩:=Cw true
   rw [show (gB == gB) = true by decide]
   exact ⟨q1,q3,q4,rfl,q2,c,rfl,by rw [<- e];exact hp⟩
  ·obtain ⟨a1,e,c,hp⟩:=hw hU (.inr rfl) g
   rw [e,kU,a1]
   obtain ⟨q1,q2,q3,q4⟩:=Cw false
   rw [show (hU == gB) = false by decide]
   exact ⟨q1,q3,q4,rfl,q2,c,rfl,by rw [<- e];exact hp⟩
 ·rename_i g1 g2 g3 g4
  rw [if_neg g1,if_neg g2,if_neg g3,if_neg g4] at h;cases h
end GP
namespace GP
open Go Go.Proofs
set_option maxRecDepth 100000
def wL (l : List D) : Nat:=(l.map fun x=>(iB x).length + 1).sum
theorem Ru (l m : List D) : wL (l ++ m) = wL l + wL m:=by simp [wL]
theorem oD (x : D) (l : List D) : wL (x :: l) = (iB x).length + 1 + wL l:=by simp [wL]
theorem Nz (l : List D) : (cmL iB l).length = wL l - 1:=by
 have key : ∀ l : List D,((l.map fun x=>tC :: iB x).flatten).length = wL l:=by
  intro l
  induction l with
  | nil=>rfl
  | cons x l ih=>simp only [List.map_cons,List.flatten_cons,List.length_append,List.length_cons,ih,oD]
 simp only [cmL,List.length_drop,key]
theorem D0 (x : D) : iB (can x) = iB x:=by unfold iB;simp only [mO,uD,pI]
theorem MB (x : D) (b : Bool) : iH (can x) b = iH x b:=by unfold iH;simp only [mO,uD,pI]
theorem ID : ∀ (zs : List D) (x : D),wL (sO zs x) <= wL zs + ((iB x).length + 1)
 | [],x=>by simp [sO,wL]
 | z :: r,x=>by
  unfold sO
  split
  ·have:=ID r x
   simp only [oD];omega
  ·split
   ·simp only [oD];omega
   ·simp only [oD];omega
theorem P7 (xs : List D) : wL (dS xs) <= wL xs:=by
 have key : ∀ (l zs : List D),wL ((l.map can).foldl sO zs) <= wL zs + wL l:=by
  intro l
  induction l with
  | nil=>intro zs;simp [wL]
  | cons x l ih =>
   intro zs
   simp only [List.map_cons,List.foldl_cons]
   have h1:=ih (sO zs (can x))
   have h2:=ID zs (can x)
   rw [D0] at h2
   rw [oD];omega
 have:=key xs []
 unfold dS
 simpa [wL] using this
structure Itm (v : D) : Prop where
 b : iH v true = true
 o : dI v = true
 l : qV v = true
 r : mT v
 c : iC (iB v) = 0
theorem HC {v : D} (h : qV v = true) : qI v = iB v:=by unfold qI;rw [if_pos h]
theorem IX {toks : List D} (ht : toks.all bR = true) {st : St} (h : (dD toks st).2.2 = 0) : Itm (dD toks st).1 /\ (iB (dD toks st).1).length <= (dD toks st).2.1 - st.1 /\ lD toks st.1 (dD toks st).2.1 = 0 /\ st.1 < (dD toks st).2.1:=by
 have hr:=rP ht st
 unfold dD at h hr ⊢
 split
 ·rename_i g
  rw [if_pos g] at h hr
  simp only at h hr ⊢
  obtain ⟨k1,k2,k3,k4⟩:=AH (by decide) h
  simp only at k2 k4
  rw [k4] at hr ⊢
  simp only at hr ⊢
  have hrg:=(v6 ht (st.1 + 1,st.2)).2
  have hn : 0 <= tn (bI toks (st.1 + 1,st.2)):=by
   unfold pH cG at k3
   rw [k1] at k3
   simp only [show ((2 : Int) == 1) = false from rfl,Bool.false_eq_true,if_false,beq_self_eq_true,if_true,Bool.and_eq_true,decide_eq_true_eq] at k3
   exact k3.2
  obtain ⟨q1,q2,q3⟩:=NZ hn hrg.2
  refine ⟨⟨q1,q2,rfl,hr,?_⟩,?_,?_,by omega⟩
  ·rw [q3];split <;> rfl
  ·rw [q3];split <;> simp <;> omega
  ·rw [cF (b:=st.1 + 1) (by omega) (by omega),eR g,pX k2,EG (by omega) (by omega)]
   rfl
 ·rename_i g
  rw [if_neg g] at h hr
  split
  ·rename_i g2
   obtain ⟨q1,q2,q3,q4,q5,q6,q7,q8⟩:=Ls g2
   rw [HC q4] at q5
   refine ⟨⟨q2,q3,q4,?_,?_⟩,?_,?_,?_⟩
   ·exact nG ht st
   ·show iC (iB (aF toks st).1) = 0
    rw [q5]
    unfold iC
    rw [List.filter_cons,q8];rfl
   ·show (iB (aF toks st).1).length <= (aF toks st).2.2.1 - st.1
    rw [q5,q7];simp
   ·show lD toks st.1 (aF toks st).2.2.1 = 0
    rw [q7];exact q6
   ·show st.1 < (aF toks st).2.2.1
    rw [q7];simp
  ·rename_i g2
   rw [if_neg g2] at h
   exfalso
   simp only at h
   unfold bO at h
   split at h
   ·cases h
   ·rename_i g3;exact g3 (by simpa using h)
theorem Hx {toks : List D} (ht : toks.all bR = true) : ∀ (f : Nat) (out : List D) (st : St) (r : List D × St),lO toks f out st = some r -> r.2.2 = 0 -> (∀ v ∈ out,Itm v) -> (∀ v ∈ r.1,Itm v) /\ wL r.1 <= wL out + (r.2.1 - st.1) /\ lD toks st.1 r.2.1 = 0 /\ st.1 <= r.2.1 /\ out.length <= r.1.length
 | 0,_,_,_,h,_,_=>by simp [lO] at h
 | f + 1,out,st,r,h,h0,ho=>by
  simp only [lO] at h
  split at h
  ·rename_i g
   have s2:=rX toks f _ _ _ h
   have e2:=s2.e0 h0
   obtain ⟨i1,i2,i3,i4⟩:=IX ht e2
   obtain ⟨k1,k2,k3,k4,k5⟩:=Hx ht f _ _ r h h0 (fun v hv=>by
    rcases List.mem_append.1 hv with hv | hv
    ·exact ho v hv
    ·rw [List.mem_singleton] at hv;subst hv;exact i1)
   simp only at i2 i3 i4
   refine ⟨k1,?_,?_,by omega,by simp at k5;omega⟩
   ·rw [Ru,oD] at k2
    simp only [wL,List.map_nil,List.sum_nil,Nat.add_zero] at k2 ⊢
    omega
   ·have q1:=cF (toks:=toks) (a:=st.1) (b:=st.1 + 1) (c:=r.2.1) (by omega) (by omega)
    have q2:=cF (toks:=toks) (a:=st.1 + 1) (b:=(dD toks (st.1 + 1,st.2)).2.1) (c:=r.2.1) (by omega) (by omega)
    have q3:=eR g
    have q4 : pkW [44] = 0:=by decide
    omega
  ·injection h with h;subst h
   exact ⟨ho,by simp,Jx _ _,Nat.le_refl _,Nat.le_refl _⟩
theorem QJ {xs : List D} {k : Int} (h : ∀ x ∈ xs,vk x = k) (hne : xs ≠ []) : vk0 xs = k:=by
 cases xs with
 | nil=>exact absurd rfl hne
 | cons x l=>exact h x (by simp)
theorem Gx {xs : List D} (h0 : (gD xs).2 = 0) (hx : ∀ x ∈ xs,Itm x) (hne : xs ≠ []) : (gD xs).1 = mkV 5 0 [] false (dS xs) /\ m6 (mkV 5 0 [] false (dS xs)) = true /\ dS xs ≠ []:=by
 unfold gD at h0 ⊢
 split at h0
 ·cases h0
 ·rename_i g1
  split at h0
  ·cases h0
  ·rename_i g2
   split at h0
   ·cases h0
   ·rename_i g3
    rw [if_neg g1,if_neg g2,if_neg g3]
    have hg : iX xs:=fun x hx'=>(hx x hx').o
    obtain ⟨hr,hm⟩:=jI hg
    have hkind : ∀ x ∈ xs,vk x ≠ 0 /\ vk x = vk0 xs:=fun x hx'=>by
     have hb : mR xs x = false:=by
      cases hb : mR xs x with
      | false=>rfl
      | true=>exact absurd (List.any_eq_true.2 ⟨x,hx',hb⟩) g2
     unfold mR at hb
     simp only [Bool.or_eq_false_iff,beq_eq_false_iff_ne,bne_eq_false_iff_eq] at hb
     exact ⟨hb.1.1,hb.2⟩
    have hne2 : dS xs ≠ []:=by
     cases xs with
     | nil=>exact absurd rfl hne
     | cons x l =>
      intro e
      have:=(hm (can x)).2 ⟨x,by simp,rfl⟩
      rw [e] at this;cases this
    have hk2 : ∀ y ∈ dS xs,vk y = vk0 xs:=fun y hy=>by
     obtain ⟨x,hx',rfl⟩:=(hm y).1 hy
     rw [mO];exact (hkind x hx').2
    have hk0:=QJ hk2 hne2
    have hadj : uV aN (dS xs) = true:=by
     unfold uV
     refine List.all_eq_true.2 fun i hi=>?_
     have hi : i < (dS xs).length:=by simpa using hi
     have hy:=List.getElem_mem hi
     obtain ⟨x,hx',he⟩:=(hm _).1 hy
     unfold kE
     rw [List.getElem?_eq_getElem hi]
     simp only
     have o1 : dI (dS xs)[i] = true:=by rw [he];exact Al (hx x hx').o
     have k1 : (vk (dS xs)[i] != 0) = true:=by
      have:=(hkind x hx').1
      rw [he,mO];simpa using this
     have k2 : (vk (dS xs)[i] == vk0 (dS xs)) = true:=by rw [hk0,hk2 _ hy];simp
     rw [o1,k1,k2]
     simp only [Bool.true_and]
     by_cases hz : i = 0
     ·subst hz;rfl
     ·have hp : i - 1 < (dS xs).length:=by omega
      rw [List.getElem?_eq_getElem hp]
      have:=List.pairwise_iff_getElem.1 hr (i - 1) i hp hi (by omega)
      simp only [Bool.or_eq_true,decide_eq_true_eq]
      exact .inr this
    refine ⟨rfl,?_,hne2⟩
    have hl16 : decide ((16 : Int) < (dS xs).length) = false:=by simpa using g3
    unfold m6 cJ
    simp only [gX,j9,kL,fO]
    rw [show ((5 : Int) != 5) = false from rfl]
    simp only [Bool.false_eq_true,if_false]
    rw [show ((0 : Int) != 0 || ([] : List UInt8) != [] || decide ((16 : Int) < (dS xs).length)) = false by rw [hl16];rfl]
    simp only [Bool.false_eq_true,if_false,hadj,Bool.not_true,Bool.and_eq_true,decide_eq_true_eq]
    refine ⟨List.all_eq_true.2 fun y hy=>?_,by cases hb : dS xs with
     | nil=>exact absurd hb hne2
     | cons a l=>simp⟩
    obtain ⟨x,hx',rfl⟩:=(hm y).1 hy
    rw [MB];exact (hx x hx').b
theorem QW {l : List D} (h : ∀ x ∈ l,iC (iB x) = 0) : iC (cmL iB l) = 0:=by
 have key : ∀ l : List D,(∀ x ∈ l,iC (iB x) = 0) -> iC ((l.map fun x=>tC :: iB x).flatten) = 0:=by
  intro l
  induction l with
  | nil=>intro _;rfl
  | cons x l ih =>
   intro h
   simp only [List.map_cons,List.flatten_cons,lJ,gT]
   rw [h x (by simp),ih fun y hy=>h y (by simp [hy])]
   rfl
 have:=key l h
 unfold cmL
 unfold iC at this ⊢
 have e : ∀ m : List D,(m.filter pkB).length = 0 -> ((m.drop 1).filter pkB).length = 0:=fun m hm=>by
  cases m with
  | nil=>rfl
  | cons a m=>rw [List.filter_cons] at hm;split at hm <;> simp_all
 exact e _ this
theorem Qb {toks : List D} (ht : toks.all bR = true) {f fr : Nat} {st : St} {r : D × St} (h : sP toks f fr st = some r) (h0 : r.2.2 = 0) :
  ∃ v,r.1 = kZ v /\ mT v /\ m6 v = true /\ lD toks st.1 r.2.1 = 0 /\ iC (qI v) = 1 /\ (qI v).length <= 1 + (r.2.1 - st.1) /\ st.1 < r.2.1:=by
 unfold sP at h
 split at h
 ·cases h
 ·rename_i out st1 hb
  split at h
  ·rename_i hz
   injection h with h;subst h
   simp only at h0
   rw [h0] at hz;exact absurd hz (by decide)
  ·rename_i hz
   have hz : (aD toks [93] st1).2 = 0:=by simpa using hz
   injection h with h;subst h
   simp only at h0 ⊢
   split at h0
   ·exfalso
    unfold bO at h0
    rw [hz] at h0
    cases h0
   ·rename_i hv
    rw [if_neg hv]
    have hv : (gD out).2 = 0:=by simpa using hv
    obtain ⟨m1,m2⟩:=mL hz
    have e1:=(aY toks [93] st1).e0 hz
    have e0:=(rX toks f _ _ _ hb).e0 e1
    obtain ⟨i1,i2,i3,i4⟩:=IX ht e0
    obtain ⟨k1,k2,k3,k4,k5⟩:=Hx ht f _ _ _ hb e1 (fun v hv=>by rw [List.mem_singleton] at hv;subst hv;exact i1)
    have hne : out ≠ []:=by intro e;subst e;simp at k5
    obtain ⟨b1,b2,b3⟩:=Gx hv k1 hne
    have hw:=P7 out
    have hm:=(jI (xs:=out) fun x hx=>(k1 x hx).o).2
    refine ⟨_,by rw [b1],by rw [<- b1];exact xP fun x hx=>(k1 x hx).r,b2,?_,?_,?_,by rw [m2];simp only at k4 ⊢;omega⟩
    ·rw [m2]
     simp only at k3 k4 ⊢
     have q1:=cF (toks:=toks) (a:=st.1) (b:=(dD toks st).2.1) (c:=st1.1 + 1) (by omega) (by omega)
     have q2:=cF (toks:=toks) (a:=(dD toks st).2.1) (b:=st1.1) (c:=st1.1 + 1) (by omega) (by omega)
     have q3:=eR m1
     have q4 : pkW [93] = 0:=by decide
     omega
    ·have hz : ∀ x ∈ dS out,iC (iB x) = 0:=fun y hy=>by
      obtain ⟨x,hx,rfl⟩:=(hm y).1 hy
      rw [D0];exact (k1 x hx).c
     unfold qI qV
     simp only [gX,fO]
     rw [if_neg (by decide),gT,lJ,QW hz]
     rfl
    ·rw [m2]
     simp only at k2 k4 ⊢
     unfold qI qV
     simp only [gX,fO]
     rw [if_neg (by decide)]
     simp only [List.length_cons,List.length_append,List.length_nil,Nz]
     rw [oD] at k2
     simp only [wL,List.map_nil,List.sum_nil,Nat.add_zero] at k2 hw ⊢
     omega
def lvS : Lv -> Int
 | .expr=>0 | .and=>1 | .not=>2 | .cmp=>3 | .sum=>4 | .prod=>5 | .unary=>6 | .plain=>7 | .inner=>7
def RdL (toks : List D) (lv : Lv) (x : D) (a b : Nat) : Prop:=match lv with
 | .inner=>GoodE x /\ iC (tkC true x) = lD toks a b /\ (tkC false x).length + 2 <= b - a /\ a < b
 | lv=>Rdd toks (lvS lv) x a b
theorem NK {toks : List D} {P : gP} {s : Int} {bs : List (List UInt8)} (hb : ∀ w ∈ bs,w ∈ Kc /\ stI w = s /\ FO w = s) (hS : GK P) (hP : ∀ st x st2,P toks st = some (x,st2) -> st2.2 = 0 -> Rdd toks (s + 1) x st.1 st2.1) :
  ∀ (f : Nat) (x : D) (st : St) (y : D) (st2 : St) (a : Nat),kX toks P bs f x st = some (y,st2) -> st2.2 = 0 -> Rdd toks s x a st.1 -> Rdd toks s y a st2.1
 | 0,_,_,_,_,_,h,_,_=>by simp [kX] at h
 | f + 1,x,st,y,st2,a,h,h0,hx=>by
  simp only [kX] at h
  split at h
  ·injection h with h;injection h with h1 h2;subst h1;subst h2;exact hx
  ·split at h
   ·injection h with h;injection h with h1 h2;subst h1;subst h2;exact hx
   ·rename_i w hw
    split at h
    ·cases h
    ·rename_i z st3 hz
     have e3:=(DP hS f _ _ _ h).e0 h0
     obtain ⟨w1,w2,w3⟩:=hb w (iJ hw)
     have hz':=hP _ _ _ hz e3
     have:=Rdd.two w1 rfl (dV hw) (by rw [w3];exact hx) (by rw [w2];exact hz')
     rw [w2] at this
     exact NK hb hS hP f _ st3 y st2 a h h0 this
theorem Da {toks : List D} {P : gP} {s : Int} {bs : List (List UInt8)} (hb : ∀ w ∈ bs,w ∈ Kc /\ stI w = s /\ FO w = s) (hS : GK P) (hP : ∀ st x st2,P toks st = some (x,st2) -> st2.2 = 0 -> Rdd toks (s + 1) x st.1 st2.1)
  {f : Nat} {st : St} {y : D} {st2 : St} (h : pA toks P bs f st = some (y,st2)) (h0 : st2.2 = 0) : Rdd toks s y st.1 st2.1:=by
 unfold pA at h
 split at h
 ·cases h
 ·rename_i x st1 hx
  have e1:=(DP hS f _ _ _ h).e0 h0
  exact NK hb hS hP f x st1 y st2 st.1 h h0 ((hP _ _ _ hx e1).up (by omega))
theorem uN {toks : List D} (ht : toks.all bR = true) : ∀ (f : Nat) (lv : Lv) (st : St) (x : D) (st2 : St),pLv f lv toks st = some (x,st2) -> st2.2 = 0 -> RdL toks lv x st.1 st2.1
 | 0,_,_,_,_,h,_=>by cases h
 | f + 1,lv,st,x,st2,h,h0=>by
  cases lv with
  | expr=>exact Da (s:=0) (by decide) (nY f .and) (fun st x st2 h h0=>uN ht f .and st x st2 h h0) h h0
  | and=>exact Da (s:=1) (by decide) (nY f .not) (fun st x st2 h h0=>uN ht f .not st x st2 h h0) h h0
  | sum=>exact Da (s:=4) (by decide) (nY f .prod) (fun st x st2 h h0=>uN ht f .prod st x st2 h h0) h h0
  | prod=>exact Da (s:=5) (by decide) (nY f .unary) (fun st x st2 h h0=>uN ht f .unary st x st2 h h0) h h0
  | not =>
   simp only [pLv] at h
   split at h
   ·rename_i g
    obtain ⟨z,hz⟩ : ∃ z,pLv f .not toks (st.1 + 1,st.2) = z:=⟨_,rfl⟩
    rw [hz] at h
    cases z with
    | none=>cases h
    | some z =>
     obtain ⟨y,st1⟩:=z
     simp only [nK,Option.some.injEq,Prod.mk.injEq] at h
     obtain ⟨h1,h2⟩:=h
     subst h1;subst h2
     exact Rdd.not g (uN ht f .not _ y st1 hz h0)
   ·exact (show Rdd toks 3 x st.1 st2.1 from uN ht f .cmp st x st2 h h0).up (by decide)
  | unary =>
   simp only [pLv] at h
   split at h
   ·rename_i g
    obtain ⟨z,hz⟩ : ∃ z,pLv f .unary toks (st.1 + 1,st.2) = z:=⟨_,rfl⟩
    rw [hz] at h
    cases z with
    | none=>cases h
    | some z =>
     obtain ⟨y,st1⟩:=z
     simp only [nK,Option.some.injEq,Prod.mk.injEq] at h
     obtain ⟨h1,h2⟩:=h
     subst h1;subst h2
     exact Rdd.neg g (uN ht f .unary _ y st1 hz h0)
   ·exact (show Rdd toks 7 x st.1 st2.1 from uN ht f .plain st x st2 h h0).up (by decide)
  | cmp =>
   simp only [pLv] at h
   obtain ⟨z,hz⟩ : ∃ z,pLv f .sum toks st = z:=⟨_,rfl⟩
   rw [hz] at h
   cases z with
   | none=>cases h
   | some z =>
    obtain ⟨y,st1⟩:=z
    simp only [z8] at h
    split at h
    ·injection h with h;injection h with h1 h2;subst h1;subst h2
     exact (show Rdd toks 4 y st.1 st1.1 from uN ht f .sum st y st1 hz h0).up (by decide)
    ·rename_i w hw
     split at h
     ·cases h
     ·rename_i u st3 hu
      injection h with h;injection h with h1 h2;subst h1;subst h2
      have e1:=(Ll (dV hw)).1
      have key : ∀ w ∈ Ec,w ∈ Kc /\ stI w = 3 /\ FO w = 4:=by decide
      obtain ⟨w1,w2,w3⟩:=key w (iJ hw)
      have:=Rdd.two w1 rfl (dV hw) (by rw [w3];exact uN ht f .sum st y st1 hz e1) (by rw [w2];exact uN ht f .sum _ u st3 hu h0)
      rw [w2] at this
      exact this
  | inner =>
   simp only [pLv] at h
   obtain ⟨z,hz⟩ : ∃ z,pLv f .expr toks (aD toks [40] st) = z:=⟨_,rfl⟩
   rw [hz] at h
   cases z with
   | none=>cases h
   | some z =>
    obtain ⟨y,st1⟩:=z
    simp only [EE,Option.some.injEq,Prod.mk.injEq] at h
    obtain ⟨h1,h2⟩:=h
    subst h1;subst h2
    obtain ⟨m1,m2⟩:=mL h0
    have e1:=(aY toks [41] st1).e0 h0
    have hR : Rdd toks 0 y (aD toks [40] st).1 st1.1:=uN ht f .expr _ y st1 hz e1
    have e0:=(nY f .expr toks _ (y,st1) hz).e0 e1
    obtain ⟨n1,n2⟩:=mL e0
    rw [n2] at hR
    rw [m2]
    simp only at hR ⊢
    have hl:=hR.l
    refine ⟨hR.g,?_,?_,by omega⟩
    ·rw [hR.c]
     have q1:=cF (toks:=toks) (a:=st.1) (b:=st.1 + 1) (c:=st1.1 + 1) (by omega) (by omega)
     have q2:=cF (toks:=toks) (a:=st.1 + 1) (b:=st1.1) (c:=st1.1 + 1) (by omega) (by omega)
     have q3:=eR m1
     have q4:=eR n1
     have q5 : pkW [40] = 0 /\ pkW [41] = 0:=by decide
     omega
    ·have:=hR.m
     rw [iA (by have:=hR.g.parts.1;exact this)] at this
     omega
  | plain =>
   show Rdd toks 7 x st.1 st2.1
   simp only [pLv,oM] at h
   split at h
   ·rename_i g
    injection h with h;injection h with h1 h2;subst h1;subst h2
    obtain ⟨q1,q2,q3,q4,q5,q6,q7,q8⟩:=Ls g
    rw [q7]
    refine Rdd.val (by decide) (nG ht st) q1 ?_ ?_ (by simp)
    ·rw [q5];simp only;rw [q6];unfold iC;rw [List.filter_cons,q8];rfl
    ·rw [q5];simp
   split at h
   ·rename_i g
    injection h with h;injection h with h1 h2;subst h1;subst h2
    have hg : GoodE (dQ zO [] []):=sD (.inl ⟨rfl,rfl,rfl⟩) (by simp) (by simp)
    refine ⟨hg,?_,?_,by simp⟩
    ·rw [Lo hg rfl];simp only;rw [eR g];rfl
    ·rw [iA (show (7 : Int) <= stI (eop (dQ zO [] [])) from (by decide : (7 : Int) <= stI zO)),Lo hg rfl];simp
   split at h
   ·have hI : GoodE x /\ iC (tkC true x) = lD toks st.1 st2.1 /\ (tkC false x).length + 2 <= st2.1 - st.1 /\ st.1 < st2.1:=uN ht f .inner st x st2 h h0
    exact ⟨hI.1,hI.2.1,Nat.le_trans (RB _ _ _) hI.2.2.1,hI.2.2.2⟩
   split at h
   ·rename_i g
    obtain ⟨v,e,hv,h1,h2,h3,h4,h5⟩:=Qb ht h h0
    simp only at e h2 h4 h5
    subst e
    refine Rdd.val (by decide) hv h1 ?_ (by omega) (by omega)
    rw [h3,cF (b:=st.1 + 1) (by omega) (by omega),eR g,h2]
    rfl
   split at h
   ·rename_i g
    obtain ⟨z,hz⟩ : ∃ z,pLv f .inner toks (st.1 + 1,st.2) = z:=⟨_,rfl⟩
    rw [hz] at h
    cases z with
    | none=>cases h
    | some z =>
     obtain ⟨y,st1⟩:=z
     simp only [nK,Option.some.injEq,Prod.mk.injEq] at h
     obtain ⟨h1,h2⟩:=h
     subst h1;subst h2
     have hI : GoodE y /\ iC (tkC true y) = lD toks (st.1 + 1) st1.1 /\ (tkC false y).length + 2 <= st1.1 - (st.1 + 1) /\ st.1 + 1 < st1.1:=uN ht f .inner _ y st1 hz h0
     obtain ⟨i1,i2,i3,i4⟩:=hI
     have hg:=Bv (op:=dN) (.inl rfl) i1
     have e1:=fun full=>Nk (full:=full) hg rfl
     refine ⟨hg,?_,?_,by omega⟩
     ·show iC (tkC true (jQ dN y)) = _
      rw [e1,gT,gT,lJ,show eZ (jQ dN y) = y from rfl,i2]
      have q1:=cF (toks:=toks) (a:=st.1) (b:=st.1 + 1) (c:=st1.1) (by omega) (by omega)
      have q2:=eR g
      have q3 : pkW sU = 1:=by decide
      show 1 + (0 + (lD toks (st.1 + 1) st1.1 + 0)) = _
      omega
     ·show (iW false (stI dN) 7 (tkC false (jQ dN y))).length <= _
      rw [iA (by decide),e1,show eZ (jQ dN y) = y from rfl]
      simp only [List.length_cons,List.length_append,List.length_nil]
      omega
   split at h
   ·rename_i g
    injection h with h;injection h with h1 h2;subst h1;subst h2
    obtain ⟨m1,m2⟩:=mL h0
    have e2:=(aY toks [41] _).e0 h0
    obtain ⟨k1,k2,k3,k4⟩:=AH (by decide) e2
    have e1:=(iK toks (k:=3) (by decide) _).e0 e2
    obtain ⟨n1,n2⟩:=mL e1
    rw [n2] at k1 k2 k3 k4
    rw [n2,k4] at m1 m2
    simp only at m1 m2 n1 k2
    rw [n2,k4,m2]
    simp only
    obtain ⟨t,htt⟩ : ∃ t,bI toks (st.1 + 1 + 1,0) = t:=⟨_,rfl⟩
    have hrg:=(v6 ht (st.1 + 1 + 1,0)).1
    rw [htt] at k1 k2 k3 hrg ⊢
    have hf : cG 3 (ts t) 0 = true /\ tn t = 0:=by
     unfold pH at k3
     rw [k1] at k3
     have hz : tn t = 0:=by
      unfold cG at k3
      simp only [show ((3 : Int) == 1) = false from rfl,show ((3 : Int) == 2) = false from rfl,Bool.false_eq_true,if_false,beq_self_eq_true,if_true,Bool.and_eq_true,beq_iff_eq] at k3
      exact k3.2
     rw [hz] at k3;exact ⟨k3,hz⟩
    have hg : GoodE (dQ nN [] (ts t)):=sD (.inr (.inr ⟨rfl,rfl,hf.1⟩)) (by simp) hrg
    have e1:=fun full=>O1 (full:=full) hg rfl
    refine ⟨hg,?_,?_,by omega⟩
    ·rw [e1]
     have q1:=cF (toks:=toks) (a:=st.1) (b:=st.1 + 1) (c:=st.1 + 1 + 1 + 1 + 1) (by omega) (by omega)
     have q2:=cF (toks:=toks) (a:=st.1 + 1) (b:=st.1 + 1 + 1) (c:=st.1 + 1 + 1 + 1 + 1) (by omega) (by omega)
     have q3:=cF (toks:=toks) (a:=st.1 + 1 + 1) (b:=st.1 + 1 + 1 + 1) (c:=st.1 + 1 + 1 + 1 + 1) (by omega) (by omega)
     have c1:=eR g
     have c2:=eR n1
     have c3:=pX k2
     have c4:=eR m1
     simp only at c2 c4
     rw [EG (by omega) (by omega)] at c3
     simp only [Bool.false_eq_true,if_false] at c3
     have q5 : pkW nN = 1 /\ pkW [40] = 0 /\ pkW [41] = 0:=by decide
     show 1 = _
     omega
    ·rw [iA (show (7 : Int) <= stI (eop (dQ nN [] (ts t))) from (by decide : (7 : Int) <= stI nN)),e1]
     simp only [List.length_cons,List.length_nil];omega
   split at h
   ·rename_i g
    injection h with h;injection h with h1 h2;subst h1;subst h2
    obtain ⟨m1,m2⟩:=mL h0
    have e2:=(aY toks [41] _).e0 h0
    have hrg:=lU ht (aD toks [40] (st.1 + 1,st.2))
    obtain ⟨a1,a2,a3,a4⟩:=DN e2
    have e1:=(sF toks _).e0 e2
    obtain ⟨n1,n2⟩:=mL e1
    rw [a3] at m1 m2
    rw [n2] at a4 m1 m2
    simp only at m1 m2 n1 a4
    have e9 : (aD toks [41] (bU toks (aD toks [40] (st.1 + 1,st.2))).2.2) = (st.1 + 1 + 1 + 3 + 1,0):=by rw [a3,n2];exact m2
    rw [e9]
    simp only
    obtain ⟨u1,hu1⟩ : ∃ u,(bU toks (aD toks [40] (st.1 + 1,st.2))).1 = u:=⟨_,rfl⟩
    obtain ⟨u2,hu2⟩ : ∃ u,(bU toks (aD toks [40] (st.1 + 1,st.2))).2.1 = u:=⟨_,rfl⟩
    rw [hu1] at a1 hrg ⊢
    rw [hu2] at a2 hrg ⊢
    have hg : GoodE (dQ uG u1 u2):=sD (.inr (.inl ⟨.inr rfl,a1,a2⟩)) hrg.1 hrg.2
    have e1:=fun full=>RA (full:=full) hg rfl
    obtain ⟨p1,p2⟩:=B5 a2
    refine ⟨hg,?_,?_,by omega⟩
    ·rw [e1,show lP (dQ uG u1 u2) = u1 from rfl,show fB (dQ uG u1 u2) = u2 from rfl]
     have q1:=cF (toks:=toks) (a:=st.1) (b:=st.1 + 1) (c:=st.1 + 1 + 1 + 3 + 1) (by omega) (by omega)
     have q2:=cF (toks:=toks) (a:=st.1 + 1) (b:=st.1 + 1 + 1) (c:=st.1 + 1 + 1 + 3 + 1) (by omega) (by omega)
     have q3:=cF (toks:=toks) (a:=st.1 + 1 + 1) (b:=st.1 + 1 + 1 + 3) (c:=st.1 + 1 + 1 + 3 + 1) (by omega) (by omega)
     have c1:=eR g
     have c2:=eR n1
     have c4:=eR m1
     simp only at c2 c4
     have q5 : pkW uG = 1 /\ pkW [40] = 0 /\ pkW [41] = 0:=by decide
     have w1 : pkB (mkT 1 u1 0) = true:=by
      have key : ∀ w,w ∈ j7 -> pkB (mkT 1 w 0) = true:=by decide
      obtain ⟨w,hw,he⟩:=List.any_eq_true.1 a1
      have : w = u1:=by simpa using he
      rw [<- this];exact key w hw
     have w2 : pkB (mkT 1 u2 0) = true:=by rw [uZ rfl,kU,p1,p2];rfl
     simp only [gT,w1,w2,if_true]
     show 1 + (0 + (1 + (1 + (1 + (0 + 0))))) = _
     omega
    ·rw [iA (show (7 : Int) <= stI (eop (dQ uG u1 u2)) from (by decide : (7 : Int) <= stI uG)),e1]
     simp only [List.length_cons,List.length_nil];omega
   ·injection h with h;injection h with h1 h2;subst h1;subst h2
    have hrg:=lU ht st
    obtain ⟨a1,a2,a3,a4⟩:=DN h0
    rw [a3]
    simp only
    obtain ⟨u1,hu1⟩ : ∃ u,(bU toks st).1 = u:=⟨_,rfl⟩
    obtain ⟨u2,hu2⟩ : ∃ u,(bU toks st).2.1 = u:=⟨_,rfl⟩
    rw [hu1] at a1 hrg ⊢
    rw [hu2] at a2 hrg ⊢
    have hg : GoodE (dQ yO u1 u2):=sD (.inr (.inl ⟨.inl rfl,a1,a2⟩)) hrg.1 hrg.2
    have e1:=fun full=>Oq (full:=full) hg rfl
    obtain ⟨p1,p2⟩:=B5 a2
    refine ⟨hg,?_,?_,by omega⟩
    ·rw [e1,show lP (dQ yO u1 u2) = u1 from rfl,show fB (dQ yO u1 u2) = u2 from rfl,a4]
     have w1 : pkB (mkT 1 u1 0) = true:=by
      have key : ∀ w,w ∈ j7 -> pkB (mkT 1 w 0) = true:=by decide
      obtain ⟨w,hw,he⟩:=List.any_eq_true.1 a1
      have : w = u1:=by simpa using he
      rw [<- this];exact key w hw
     have w2 : pkB (mkT 1 u2 0) = true:=by rw [uZ rfl,kU,p1,p2];rfl
     simp only [gT,w1,w2,if_true]
     rfl
    ·rw [iA (show (7 : Int) <= stI (eop (dQ yO u1 u2)) from (by decide : (7 : Int) <= stI yO)),e1]
     simp only [List.length_cons,List.length_nil];omega
theorem sB {k : Int} {s : List UInt8} {n : Int} (h : s.length <= 2 ^ 47) (hk : -(2 ^ 63) <= k /\ k < 2 ^ 63) (hn : -(2 ^ 63) <= n /\ n < 2 ^ 63) : bR (mkT k s n) = true:=by
 simp only [bR,mkT,Bool.and_eq_true,decide_eq_true_eq]
 exact ⟨⟨h,hk⟩,hn⟩
def rgE : Nat -> D -> Prop
 | 0,_=>False
 | n + 1,e=>(∀ x ∈ vl (eV e),-(2 ^ 63) <= vi x /\ vi x < 2 ^ 63) /\ ∀ x ∈ eps e,rgE n x
def rgC (e : D) : Prop:=∃ n,rgE n e
theorem rgC.v {e : D} (h : rgC e) : ∀ x ∈ vl (eV e),-(2 ^ 63) <= vi x /\ vi x < 2 ^ 63:=by
 obtain ⟨n,hn⟩:=h
 cases n with
 | zero=>exact hn.elim
 | succ n=>exact hn.1
theorem Mg {n m : Nat} (h : n <= m) : ∀ {e : D},rgE n e -> rgE m e:=by
 induction h with
 | refl=>exact fun {_} h=>h
 | step _ ih =>
  rename_i m _
  have up : ∀ (n : Nat) (e : D),rgE n e -> rgE (n + 1) e:=by
   intro n
   induction n with
   | zero=>intro e h;exact h.elim
   | succ n ih=>intro e h;exact ⟨h.1,fun x hx=>ih x (h.2 x hx)⟩
  exact fun {e} h=>up m e (ih h)
theorem D8 {e : D} (h : ∀ x ∈ vl (eV e),-(2 ^ 63) <= vi x /\ vi x < 2 ^ 63) (hp : ∀ x ∈ eps e,rgC x) : rgC e:=by
 have key : ∀ l : List D,(∀ x ∈ l,rgC x) -> ∃ n,∀ x ∈ l,rgE n x:=by
  intro l
  induction l with
  | nil=>intro _;exact ⟨0,fun x hx=>by cases hx⟩
  | cons a l ih =>
   intro h
   obtain ⟨n,hn⟩:=h a (by simp)
   obtain ⟨m,hm⟩:=ih fun x hx=>h x (by simp [hx])
   exact ⟨max n m,fun x hx=>by
    rcases List.mem_cons.1 hx with rfl | hx
    ·exact Mg (Nat.le_max_left _ _) hn
    ·exact Mg (Nat.le_max_right _ _) (hm x hx)⟩
 obtain ⟨n,hn⟩:=key _ hp
 exact ⟨n + 1,h,hn⟩
theorem La {op : List UInt8} {a b : D} (ha : rgC a) (hb : rgC b) : rgC (mA op a b):=D8 (fun x hx=>by cases hx) fun x hx=>by
 have hx : x ∈ [a,b]:=hx
 simp only [List.mem_cons,List.not_mem_nil,or_false] at hx
 rcases hx with rfl | rfl
 ·exact ha
 ·exact hb
theorem QX {op : List UInt8} {a : D} (ha : rgC a) : rgC (jQ op a):=D8 (fun x hx=>by cases hx) fun x hx=>by
 have hx : x ∈ [a]:=hx
 rw [List.mem_singleton] at hx;subst hx;exact ha
theorem AP (op who name : List UInt8) : rgC (dQ op who name):=D8 (fun x hx=>by cases hx) fun x hx=>by cases hx
theorem Lw {v : D} (hv : mT v) (h : ∀ x ∈ vl v,-(2 ^ 63) <= vi x /\ vi x < 2 ^ 63) : rgC (kZ v):=by
 obtain ⟨_,e2,_,_,e5⟩:=oK hv
 exact D8 (by rw [e2];exact h) (by rw [e5];intro x hx;cases hx)
theorem Qv (toks : List D) (st : St) : vl (aF toks st).1 = []:=by
 unfold aF;(repeat' split) <;> rfl
theorem LM {xs : List D} (h : ∀ x ∈ xs,mT x) : ∀ x ∈ vl (gD xs).1,-(2 ^ 63) <= vi x /\ vi x < 2 ^ 63:=by
 unfold gD
 split
 ·intro x hx;cases hx
 split
 ·intro x hx;cases hx
 split
 ·intro x hx;cases hx
 ·rename_i g1 g2 g3
  simp only [Bool.not_eq_false] at g1
  have hg : iX xs:=fun x hx=>by
   have hf:=List.all_eq_true.1 g1 x hx
   rw [pY] at hf
   have hb : mR xs x = false:=by
    cases hb : mR xs x with
    | false=>rfl
    | true=>exact absurd (List.any_eq_true.2 ⟨x,hx,hb⟩) g2
   unfold cJ at hf
   rw [if_pos (by unfold mR at hb;simp only [Bool.or_eq_false_iff,beq_eq_false_iff_ne,ne_eq] at hb;simp [hb.1.2])] at hf
   exact hf
  intro x hx
  simp only [fO] at hx
  obtain ⟨y,hy,rfl⟩:=((jI hg).2 x).1 hx
  rw [uD];exact (h y hy).2
def MS (P : gP) : Prop:=∀ toks st r,toks.all bR = true -> P toks st = some r -> rgC r.1
theorem Mp {P : gP} (hP : MS P) {toks : List D} (ht : toks.all bR = true) {bs : List (List UInt8)} : ∀ (f : Nat) (x : D) (st : St) (r : D × St),rgC x -> kX toks P bs f x st = some r -> rgC r.1
 | 0,_,_,_,_,h=>by simp [kX] at h
 | f + 1,x,st,r,hx,h=>by
  simp only [kX] at h
  split at h
  ·injection h with h;subst h;exact hx
  ·split at h
   ·injection h with h;subst h;exact hx
   ·split at h
    ·cases h
    ·rename_i y st2 hy
     exact Mp hP ht f _ st2 r (La hx (hP toks _ _ ht hy)) h
theorem Dd {P : gP} (hP : MS P) {toks : List D} (ht : toks.all bR = true) {bs : List (List UInt8)} {f : Nat} {st : St} {r : D × St} (h : pA toks P bs f st = some r) : rgC r.1:=by
 unfold pA at h
 split at h
 ·cases h
 ·rename_i x st1 hx
  exact Mp hP ht f x st1 r (hP toks _ _ ht hx) h
theorem HI {op : List UInt8} {z : Option (D × St)} {r : D × St} (hz : ∀ r,z = some r -> rgC r.1) (h : nK op z = some r) : rgC r.1:=by
 cases z with
 | none=>cases h
 | some z =>
  obtain ⟨x,st⟩:=z
  simp only [nK,Option.some.injEq] at h;subst h
  exact QX (hz _ rfl)
theorem Qp {toks : List D} (ht : toks.all bR = true) {f fr : Nat} {st : St} {r : D × St} (h : sP toks f fr st = some r) : rgC r.1:=by
 unfold sP at h
 split at h
 ·cases h
 ·rename_i out st1 hb
  have hv:=xE ht f _ _ _ (fun v hv=>by rw [List.mem_singleton] at hv;subst hv;exact rP ht st) hb
  split at h
  ·injection h with h;subst h
   exact D8 (fun x hx=>by cases hx) fun x hx=>by cases hx
  ·injection h with h;subst h
   exact Lw (xP hv) (LM hv)
theorem vT : ∀ (f : Nat) (lv : Lv),MS (pLv f lv)
 | 0,_,_,_,_,_,h=>by cases h
 | f + 1,lv,toks,st,r,ht,h=>by
  cases lv with
  | expr=>exact Dd (vT f .and) ht h
  | and=>exact Dd (vT f .not) ht h
  | sum=>exact Dd (vT f .prod) ht h
  | prod=>exact Dd (vT f .unary) ht h
  | not =>
   simp only [pLv] at h
   split at h
   ·exact HI (fun r hr=>vT f .not toks _ r ht hr) h
   ·exact vT f .cmp toks st r ht h
  | unary =>
   simp only [pLv] at h
   split at h
   ·exact HI (fun r hr=>vT f .unary toks _ r ht hr) h
   ·exact vT f .plain toks st r ht h
  | cmp =>
   simp only [pLv] at h
   obtain ⟨z,hz⟩ : ∃ z,pLv f .sum toks st = z:=⟨_,rfl⟩
   rw [hz] at h
   cases z with
   | none=>cases h
   | some z =>
    obtain ⟨x,st1⟩:=z
    have hx:=vT f .sum toks _ _ ht hz
    simp only [z8] at h
    split at h
    ·injection h with h;subst h;exact hx
    ·split at h
     ·cases h
     ·rename_i y st2 hy
      injection h with h;subst h
      have k:=vT f .sum toks _ (y,st2) ht hy
      exact La hx k
  | inner =>
   simp only [pLv] at h
   obtain ⟨z,hz⟩ : ∃ z,pLv f .expr toks (aD toks [40] st) = z:=⟨_,rfl⟩
   rw [hz] at h
   cases z with
   | none=>cases h
   | some z =>
    obtain ⟨x,st1⟩:=z
    simp only [EE,Option.some.injEq] at h;subst h
    exact vT f .expr toks _ (x,st1) ht hz
  | plain =>
   simp only [pLv,oM] at h
   split at h
   ·injection h with h;subst h;exact Lw (nG ht st) (by rw [Qv];intro x hx;cases hx)
   split at h
   ·injection h with h;subst h;exact AP _ _ _
   split at h
   ·exact vT f .inner toks st r ht h
   split at h
   ·exact Qp ht h
   split at h
   ·exact HI (fun r hr=>vT f .inner toks _ r ht hr) h
   split at h
   ·injection h with h;subst h;exact AP _ _ _
   split at h
   ·injection h with h;subst h;exact AP _ _ _
   ·injection h with h;subst h;exact AP _ _ _
theorem Gv : oT aK [iO,iO] = some (.bool true):=by
 have hE : isE aK iO:=dH (LK 10000) (uM (m:=0) (op:=[]) (k:=0) (i:=0) (s:=[]) (nl:=true) (l:=[]) (who:=[]) (name:=[]) (q:=true) (ps:=[]) (by simp) (by simp) (by simp) fR (by simp) (fun z hz=>by cases hz))
 simp only [oT]
 rw [if_pos ⟨hE,hE⟩]
 obtain ⟨n,hn⟩:=sE hE
 rw [hn];rfl
theorem A2y {toks : List D} : ∀ (f g : Nat) (out : List D) (st : St) (r : List D × St),f <= g -> lO toks f out st = some r -> lO toks g out st = some r
 | 0,_,_,_,_,_,h=>by simp [lO] at h
 | f + 1,0,_,_,_,hl,_=>by omega
 | f + 1,g + 1,out,st,r,hl,h=>by
  simp only [lO] at h ⊢
  split at h
  ·rename_i q;rw [if_pos q];exact A2y f g _ _ r (by omega) h
  ·rename_i q;rw [if_neg q];exact h
theorem A2G {toks : List D} {f g fr : Nat} {st : St} {r : D × St} (hl : f <= g) (h : sP toks f fr st = some r) : sP toks g fr st = some r:=by
 unfold sP at h ⊢
 split at h
 ·cases h
 ·rename_i out st1 hb
  rw [A2y f g _ _ _ hl hb];exact h
def A2L (P Q : gP) : Prop:=∀ toks st r,P toks st = some r -> Q toks st = some r
theorem A2r {P Q : gP} (hP : A2L P Q) {toks : List D} {bs : List (List UInt8)} : ∀ (f g : Nat) (x : D) (st : St) (r : D × St),f <= g -> kX toks P bs f x st = some r -> kX toks Q bs g x st = some r
 | 0,_,_,_,_,_,h=>by simp [kX] at h
 | f + 1,0,_,_,_,hl,_=>by omega
 | f + 1,g + 1,x,st,r,hl,h=>by
  simp only [kX] at h ⊢
  split at h
  ·rename_i q;rw [if_pos q];exact h
  ·rename_i q;rw [if_neg q]
   split at h
   ·exact h
   ·split at h
    ·cases h
    ·rename_i y st2 hy
     rw [hP _ _ _ hy]
     exact A2r hP f g _ st2 r (by omega) h
theorem A2q {P Q : gP} (hP : A2L P Q) {toks : List D} {bs : List (List UInt8)} {f g : Nat} (hl : f <= g) {st : St} {r : D × St} (h : pA toks P bs f st = some r) : pA toks Q bs g st = some r:=by
 unfold pA at h ⊢
 split at h
 ·cases h
 ·rename_i x st1 hx
  rw [hP _ _ _ hx]
  exact A2r hP f g x st1 r hl h
theorem A2u {op : List UInt8} {z z' : Option (D × St)} {r : D × St} (hz : ∀ r,z = some r -> z' = some r) (h : nK op z = some r) : nK op z' = some r:=by
 cases z with
 | none=>cases h
 | some z=>rw [hz _ rfl];exact h
theorem A2t : ∀ (f g : Nat) (lv : Lv),f <= g -> A2L (pLv f lv) (pLv g lv)
 | 0,_,_,_,_,_,_,h=>by cases h
 | f + 1,0,_,hl,_,_,_,_=>by omega
 | f + 1,g + 1,lv,hl,toks,st,r,h=>by
  have hl : f <= g:=by omega
  have M:=fun lv=>A2t f g lv hl
  cases lv with
  | expr=>exact A2q (M .and) hl h
  | and=>exact A2q (M .not) hl h
  | sum=>exact A2q (M .prod) hl h
  | prod=>exact A2q (M .unary) hl h
  | not =>
   simp only [pLv] at h ⊢
   split at h
   ·rename_i q;rw [if_pos q];exact A2u (fun r hr=>M .not _ _ r hr) h
   ·rename_i q;rw [if_neg q];exact M .cmp _ _ r h
  | unary =>
   simp only [pLv] at h ⊢
   split at h
   ·rename_i q;rw [if_pos q];exact A2u (fun r hr=>M .unary _ _ r hr) h
   ·rename_i q;rw [if_neg q];exact M .plain _ _ r h
  | cmp =>
   simp only [pLv] at h ⊢
   obtain ⟨z,hz⟩ : ∃ z,pLv f .sum toks st = z:=⟨_,rfl⟩
   rw [hz] at h
   cases z with
   | none=>cases h
   | some z =>
    obtain ⟨x,st1⟩:=z
    rw [M .sum _ _ _ hz]
    simp only [z8] at h ⊢
    split at h
    ·exact h
    ·split at h
     ·cases h
     ·rename_i y st2 hy
      rw [M .sum _ _ _ hy];exact h
  | inner =>
   simp only [pLv] at h ⊢
   obtain ⟨z,hz⟩ : ∃ z,pLv f .expr toks (aD toks [40] st) = z:=⟨_,rfl⟩
   rw [hz] at h
   cases z with
   | none=>cases h
   | some z=>rw [M .expr _ _ _ hz];exact h
  | plain =>
   simp only [pLv,oM] at h ⊢
   split at h
   ·rename_i q;rw [if_pos q];exact h
   ·rename_i q;rw [if_neg q]
    split at h
    ·rename_i q;rw [if_pos q];exact h
    ·rename_i q;rw [if_neg q]
     split at h
     ·rename_i q;rw [if_pos q];exact M .inner _ _ r h
     ·rename_i q;rw [if_neg q]
      split at h
      ·rename_i q;rw [if_pos q];exact A2G hl h
      ·rename_i q;rw [if_neg q]
       split at h
       ·rename_i q;rw [if_pos q];exact A2u (fun r hr=>M .inner _ _ r hr) h
       ·rename_i q;rw [if_neg q];exact h
def Pr (lv : Lv) (toks : List D) (st : St) (r : D × St) : Prop:=∃ f,pLv f lv toks st = some r
def Rw (lv : Lv) (bs : List (List UInt8)) (toks : List D) (x : D) (st : St) (r : D × St) : Prop:=∃ f,kX toks (pLv f lv) bs f x st = some r
section
variable {toks : List D} {st st1 st2 : St} {x y : D} {r : D × St} {lv : Lv} {bs : List (List UInt8)} {w : List UInt8}
theorem Rw.stop (h : fX toks st bs = none) : Rw lv bs toks x st (x,st):=⟨1,by
 simp only [kX];rw [h];simp⟩
theorem Rw.step (h0 : st.2 = 0) (h : fX toks st bs = some w) (hy : Pr lv toks (st.1 + 1,0) (y,st2)) (hr : Rw lv bs toks (mA w x y) st2 r) : Rw lv bs toks x st r:=by
 obtain ⟨f,hf⟩:=hy
 obtain ⟨g,hg⟩:=hr
 refine ⟨max f g + 1,?_⟩
 simp only [kX]
 rw [if_neg (by rw [h0];decide),h]
 simp only
 rw [h0,A2t f (max f g + 1) lv (by omega) _ _ _ hf]
 simp only
 exact A2r (A2t g (max f g + 1) lv (by omega)) g (max f g) _ _ _ (by omega) hg
theorem A2A {lv' : Lv} (e : ∀ f,pLv (f + 1) lv' = fun toks st=>pA toks (pLv f lv) bs f st) (hx : Pr lv toks st (x,st1)) (hr : Rw lv bs toks x st1 r) : Pr lv' toks st r:=by
 obtain ⟨f,hf⟩:=hx
 obtain ⟨g,hg⟩:=hr
 refine ⟨max f g + 1,?_⟩
 rw [e]
 simp only [pA]
 rw [A2t f (max f g) lv (by omega) _ _ _ hf]
 simp only
 exact A2r (A2t g (max f g) lv (by omega)) g (max f g) _ _ _ (by omega) hg
theorem Pr.expr (hx : Pr .and toks st (x,st1)) (hr : Rw .and [wOr] toks x st1 r) : Pr .expr toks st r:=A2A (fun _=>rfl) hx hr
theorem Pr.and (hx : Pr .not toks st (x,st1)) (hr : Rw .not [Gg] toks x st1 r) : Pr .and toks st r:=A2A (fun _=>rfl) hx hr
theorem Pr.sum (hx : Pr .prod toks st (x,st1)) (hr : Rw .prod [[43],[45]] toks x st1 r) : Pr .sum toks st r:=A2A (fun _=>rfl) hx hr
theorem Pr.prod (hx : Pr .unary toks st (x,st1)) (hr : Rw .unary [[42]] toks x st1 r) : Pr .prod toks st r:=A2A (fun _=>rfl) hx hr
theorem Pr.not1 (h0 : st.2 = 0) (g : isP toks st sQ = true) (h : Pr .not toks (st.1 + 1,0) (x,st1)) : Pr .not toks st (jQ sQ x,st1):=by
 obtain ⟨f,hf⟩:=h
 refine ⟨f + 1,?_⟩
 simp only [pLv]
 rw [if_pos g,h0,hf];rfl
theorem Pr.not0 (g : isP toks st sQ = false) (h : Pr .cmp toks st r) : Pr .not toks st r:=by
 obtain ⟨f,hf⟩:=h
 refine ⟨f + 1,?_⟩
 simp only [pLv]
 rw [if_neg (by rw [g];decide)];exact hf
theorem Pr.neg1 (h0 : st.2 = 0) (g : isP toks st [45] = true) (h : Pr .unary toks (st.1 + 1,0) (x,st1)) : Pr .unary toks st (jQ CL x,st1):=by
 obtain ⟨f,hf⟩:=h
 refine ⟨f + 1,?_⟩
 simp only [pLv]
 rw [if_pos g,h0,hf];rfl
theorem Pr.neg0 (g : isP toks st [45] = false) (h : Pr .plain toks st r) : Pr .unary toks st r:=by
 obtain ⟨f,hf⟩:=h
 refine ⟨f + 1,?_⟩
 simp only [pLv]
 rw [if_neg (by rw [g];decide)];exact hf
theorem Pr.cmp0 (h : Pr .sum toks st (x,st1)) (g : fX toks st1 Ec = none) : Pr .cmp toks st (x,st1):=by
 obtain ⟨f,hf⟩:=h
 refine ⟨f + 1,?_⟩
 simp only [pLv]
 rw [hf];simp only [z8];rw [g]
theorem Pr.cmp1 (h : Pr .sum toks st (x,st1)) (h0 : st1.2 = 0) (g : fX toks st1 Ec = some w) (k : Pr .sum toks (st1.1 + 1,0) (y,st2)) : Pr .cmp toks st (mA w x y,st2):=by
 obtain ⟨f,hf⟩:=h
 obtain ⟨g',hg⟩:=k
 refine ⟨max f g' + 1,?_⟩
 simp only [pLv]
 rw [A2t f (max f g') .sum (by omega) _ _ _ hf]
 simp only [z8];rw [g]
 simp only
 rw [h0,A2t g' (max f g') .sum (by omega) _ _ _ hg]
theorem Pr.inner (h : Pr .expr toks (aD toks [40] st) (x,st1)) : Pr .inner toks st (x,aD toks [41] st1):=by
 obtain ⟨f,hf⟩:=h
 refine ⟨f + 1,?_⟩
 simp only [pLv]
 rw [hf];rfl
end
def Seg (toks : List D) (a : Nat) (l : List D) : Prop:=∀ i t,l[i]? = some t -> toks[a + i]? = some t
section
variable {toks : List D} {a : Nat} {l m : List D} {t : D}
theorem Seg.fst (h : Seg toks a (l ++ m)) : Seg toks a l:=fun i t ht=>h i t (by rw [List.getElem?_append_left (rB ht)];exact ht)
theorem Seg.snd (h : Seg toks a (l ++ m)) : Seg toks (a + l.length) m:=fun i t ht=>by
 have:=h (l.length + i) t (by rw [List.getElem?_append_right (by omega),show l.length + i - l.length = i by omega];exact ht)
 rw [Nat.add_assoc];exact this
theorem Seg.hd (h : Seg toks a (t :: l)) : toks[a]? = some t:=h 0 t rfl
theorem Seg.tl (h : Seg toks a (t :: l)) : Seg toks (a + 1) l:=fun i u hu=>by
 have:=h (i + 1) u hu
 rw [show a + 1 + i = a + (i + 1) by omega];exact this
theorem A2Q (h : toks[a]? = some t) (hf : pH t = true) : bI toks (a,0) = t:=by
 unfold bI wW
 rw [if_neg (show ¬ ((0 : Int) != 0) = true by decide),h]
 simp only
 rw [if_pos hf]
theorem A2O {w : List UInt8} (h : cD w = true) : pH (mkT 5 w 0) = true:=by
 show cG 5 w 0 = true
 unfold cG;rw [h];rfl
theorem A2P {w : List UInt8} (h : toks[a]? = some (mkT 5 w 0)) (hw : cD w = true) (u : List UInt8) : isP toks (a,0) u = (w == u):=by
 unfold isP;rw [A2Q h (A2O hw)];rfl
theorem A2T {w : List UInt8} (h : isP toks (a,0) w = true) : aD toks w (a,0) = (a + 1,0):=by unfold aD;rw [if_pos h]
end
structure Cn (y v : D) : Prop where
 c : can y = can v
 l : vl y = []
theorem Cn.one {y v : D} (h : Cn y v) (hv : dI v = true) : dI y = true:=by
 have h1:=Al hv
 rw [<- h.c] at h1
 unfold dI at h1 ⊢
 rw [mO,uD,pI,LG] at h1
 rw [h.l];exact h1
theorem Cn.k {y v : D} (h : Cn y v) : vk y = vk v:=by have:=congrArg vk h.c;rwa [mO,mO] at this
theorem Cn.s {y v : D} (h : Cn y v) : vs y = vs v:=by have:=congrArg vs h.c;rwa [pI,pI] at this
structure Elt (v : D) : Prop where
 o : dI v = true
 b : iH v true = true
 r : vi v < 2 ^ 63
section
variable {toks : List D} {st : St} {a : Nat} {w : List UInt8}
def Nxt (toks : List D) (st : St) (w : List UInt8) : Prop:=∀ u,isP toks st u = (w == u)
theorem Nxt.tk (h : Nxt toks st w) : GP.tk (bI toks st) = 1 ∨ GP.tk (bI toks st) = 5:=by
 have:=h w
 unfold isP at this
 simp only [beq_self_eq_true,Bool.and_eq_true,Bool.or_eq_true,beq_iff_eq] at this
 exact this.1
theorem Nxt.ne {u : List UInt8} (h : Nxt toks st w) (hu : (w == u) = false) : isP toks st u = false:=by rw [h,hu]
theorem Nxt.lit (h : Nxt toks st w) (h1 : (w == gB) = false) (h2 : (w == hU) = false) : (aF toks st).2.1 = false:=by
 have hk:=h.tk
 have k2 : (GP.tk (bI toks st) == 2) = false:=by rw [beq_eq_false_iff_ne];omega
 have k3 : (GP.tk (bI toks st) == 3) = false:=by rw [beq_eq_false_iff_ne];omega
 have k4 : (GP.tk (bI toks st) == 4) = false:=by rw [beq_eq_false_iff_ne];omega
 unfold aF
 rw [k2,k3,k4,h.ne h1,h.ne h2];rfl
theorem Nxt.first (h : Nxt toks st w) : ∀ {ws : List (List UInt8)},w ∈ ws -> fX toks st ws = some w
 | [],hw=>by cases hw
 | u :: r,hw=>by
  simp only [fX,h u]
  cases g : w == u with
  | true=>simp only [if_true];rw [aM g]
  | false =>
   simp only [Bool.false_eq_true,if_false]
   refine h.first ?_
   rcases List.mem_cons.1 hw with rfl | hw
   ·rw [beq_self_eq_true] at g;cases g
   ·exact hw
theorem Nxt.plain (h : Nxt toks st w) (h1 : (w == gB) = false) (h2 : (w == hU) = false) (f : Nat) : pLv (f + 1) .plain toks st =
  if w == zO then some (dQ zO [] [],(st.1 + 1,st.2)) else
  if w == [40] then pLv f .inner toks st else
  if w == [91] then sP toks f st.1 (st.1 + 1,st.2) else
  if w == sU then nK sU (pLv f .inner toks (st.1 + 1,st.2)) else
  if w == nN then some (dQ nN [] (ts (cL toks 3 (aD toks [40] (st.1 + 1,st.2))).1),aD toks [41] (cL toks 3 (aD toks [40] (st.1 + 1,st.2))).2) else
  if w == uG then some (dQ uG (bU toks (aD toks [40] (st.1 + 1,st.2))).1 (bU toks (aD toks [40] (st.1 + 1,st.2))).2.1,aD toks [41] (bU toks (aD toks [40] (st.1 + 1,st.2))).2.2) else
  some (dQ yO (bU toks st).1 (bU toks st).2.1,(bU toks st).2.2):=by
 simp only [pLv,oM]
 rw [h.lit h1 h2,h zO,h [40],h [91],h sU,h nN,h uG]
 rfl
theorem A2R (h : toks[a]? = some tP) : Nxt toks (a,0) [40]:=A2P h (by decide)
theorem A2S (h : toks[a]? = some tQ) : Nxt toks (a,0) [41]:=A2P h (by decide)
theorem Nxt.must (h : Nxt toks (a,0) w) : aD toks w (a,0) = (a + 1,0):=A2T (by rw [h];simp)
end
def lvN : Nat -> Lv
 | 0=>.expr
 | 1=>.and
 | 2=>.not
 | 3=>.cmp
 | 4=>.sum
 | 5=>.prod
 | 6=>.unary
 | _=>.plain
def bsN : Nat -> List (List UInt8)
 | 0=>[wOr]
 | 1=>[Gg]
 | 4=>[[43],[45]]
 | 5=>[[42]]
 | _=>[]
def A2N (s : Nat) : Prop:=s = 0 ∨ s = 1 ∨ s = 4 ∨ s = 5
def noOp (L : Nat) (toks : List D) (st : St) : Prop:=∀ w ∈ Kc,(L : Int) <= stI w -> isP toks st w = false
theorem noOp.up {L M : Nat} {toks : List D} {st : St} (h : noOp L toks st) (hl : L <= M) : noOp M toks st:=fun w hw hs=>h w hw (by omega)
theorem noOp.first {L : Nat} {toks : List D} {st : St} (h : noOp L toks st) {ws : List (List UInt8)} (hw : ∀ w ∈ ws,w ∈ Kc /\ (L : Int) <= stI w) : fX toks st ws = none :=
 mJ fun w hm=>h w (hw w hm).1 (hw w hm).2
theorem Nxt.noOp {toks : List D} {st : St} {w : List UInt8} (h : Nxt toks st w) {L : Nat} (hw : w ∉ Kc ∨ stI w < L) : noOp L toks st:=fun u hu hs=>by
 rw [h u]
 cases g : w == u with
 | false=>rfl
 | true =>
  have:=aM g
  subst this
  rcases hw with hw | hw
  ·exact absurd hu hw
  ·omega
structure It (toks : List D) (a b : Nat) (es : Nat) (x : D) : Prop where
 t1 : ∀ L,L <= es -> noOp L toks (b,0) -> Pr (lvN L) toks (a,0) (x,(b,0))
 t2 : ∀ s,s <= es -> A2N s -> noOp (s + 1) toks (b,0) -> ∀ r,Rw (lvN (s + 1)) (bsN s) toks x (b,0) r -> Pr (lvN s) toks (a,0) r
 hn : 2 < es -> isP toks (a,0) sQ = false
 hm : 6 < es -> isP toks (a,0) [45] = false
theorem A2M {toks : List D} {st st1 : St} {x : D} {r : D × St} {s : Nat} (hs : A2N s) (h : Pr (lvN (s + 1)) toks st (x,st1)) (hr : Rw (lvN (s + 1)) (bsN s) toks x st1 r) : Pr (lvN s) toks st r:=by
 rcases hs with rfl | rfl | rfl | rfl
 ·exact Pr.expr h hr
 ·exact Pr.and h hr
 ·exact Pr.sum h hr
 ·exact Pr.prod h hr
theorem It.mk' {toks : List D} {a b K : Nat} {x : D} (hK : K <= 7) (h1 : noOp K toks (b,0) -> Pr (lvN K) toks (a,0) (x,(b,0)))
  (h2 : A2N K -> noOp (K + 1) toks (b,0) -> ∀ r,Rw (lvN (K + 1)) (bsN K) toks x (b,0) r -> Pr (lvN K) toks (a,0) r)
  (hn : 2 < K -> isP toks (a,0) sQ = false) (hm : 6 < K -> isP toks (a,0) [45] = false) : It toks a b K x:=by
 have key : ∀ d L,L + d = K -> noOp L toks (b,0) -> Pr (lvN L) toks (a,0) (x,(b,0)):=by
  intro d
  induction d with
  | zero=>intro L e h;rw [Nat.add_zero] at e;subst e;exact h1 h
  | succ d ih =>
   intro L e h
   have n1:=ih (L + 1) (by omega) (h.up (by omega))
   have hL : L = 0 ∨ L = 1 ∨ L = 2 ∨ L = 3 ∨ L = 4 ∨ L = 5 ∨ L = 6:=by omega
   rcases hL with rfl | rfl | rfl | rfl | rfl | rfl | rfl
   ·exact Pr.expr n1 (Rw.stop (h.first (by decide)))
   ·exact Pr.and n1 (Rw.stop (h.first (by decide)))
   ·exact Pr.not0 (hn (by omega)) n1
   ·exact Pr.cmp0 n1 (h.first (by decide))
   ·exact Pr.sum n1 (Rw.stop (h.first (by decide)))
   ·exact Pr.prod n1 (Rw.stop (h.first (by decide)))
   ·exact Pr.neg0 (hm (by omega)) n1
 refine ⟨fun L hL h=>key (K - L) L (by omega) h,fun s hs hrow hno r hr=>?_,hn,hm⟩
 by_cases hsK : s = K
 ·subst hsK;exact h2 hrow hno r hr
 ·exact A2M hrow (key (K - (s + 1)) (s + 1) (by omega) hno) hr
theorem Pr.plain_in {toks : List D} {a : Nat} {r : D × St} (h : Nxt toks (a,0) [40]) (hr : Pr .inner toks (a,0) r) : Pr .plain toks (a,0) r:=by
 obtain ⟨f,hf⟩:=hr
 refine ⟨f + 1,?_⟩
 rw [h.plain (by decide) (by decide)]
 exact hf
theorem It.par {toks : List D} {a b K : Nat} {x : D} (h : It toks (a + 1) b K x) (hp : toks[a]? = some tP) (hq : toks[b]? = some tQ) : It toks a (b + 1) 7 x:=by
 have P:=A2R hp
 have Q:=A2S hq
 refine It.mk' (Nat.le_refl _) (fun _=>?_) (fun h=>?_) (fun _=>P.ne (by decide)) (fun _=>P.ne (by decide))
 ·refine Pr.plain_in P ?_
  have:=h.t1 0 (Nat.zero_le _) (Q.noOp (.inl (by decide)))
  have:=Pr.inner (toks:=toks) (st:=(a,0)) (x:=x) (st1:=(b,0)) (by rw [P.must];exact this)
  rw [Q.must] at this
  exact this
 ·rcases h with h | h | h | h <;> cases h
theorem It.part {toks : List D} {a K least : Nat} {s li : Int} {full : Bool} {l : List D} {R : D -> Prop} (hs : s = (K : Int)) (hli : li = (least : Int)) (hl : least <= 7) (h : ∀ a,Seg toks a l -> ∃ x,It toks a (a + l.length) K x /\ R x) (hS : Seg toks a (iW full s li l)) :
  ∃ K' x,least <= K' /\ It toks a (a + (iW full s li l).length) K' x /\ R x:=by
 unfold iW at hS ⊢
 split at hS
 ·rename_i g
  rw [if_pos g]
  simp only [Bool.and_eq_true,decide_eq_true_eq] at g
  obtain ⟨x,h1,h2⟩:=h a hS
  exact ⟨K,x,by omega,h1,h2⟩
 ·rename_i g
  rw [if_neg g]
  obtain ⟨x,h1,h2⟩:=h (a + 1) hS.tl.fst
  have:=h1.par hS.hd hS.tl.snd.hd
  refine ⟨7,x,hl,?_,h2⟩
  rw [show a + (tP :: (l ++ [tQ])).length = a + 1 + l.length + 1 by simp;omega]
  exact this
theorem It.row {toks : List D} {a m b s Ka Kb : Nat} {w : List UInt8} {x y : D} (hrow : A2N s) (hw : w ∈ bsN s) (hs : stI w = (s : Int)) (hN : Nxt toks (m,0) w) (ha : It toks a m Ka x) (hKa : s <= Ka) (hb : It toks (m + 1) b Kb y) (hKb : s + 1 <= Kb) : It toks a b s (mA w x y):=by
 have h2 : noOp (s + 1) toks (b,0) -> ∀ r,Rw (lvN (s + 1)) (bsN s) toks (mA w x y) (b,0) r -> Pr (lvN s) toks (a,0) r:=fun hno r hr=>by
  refine ha.t2 s hKa hrow (hN.noOp (.inr (by rw [hs];omega))) r ?_
  exact Rw.step rfl (hN.first hw) (hb.t1 (s + 1) hKb hno) hr
 have hs7 : s <= 7:=by rcases hrow with rfl | rfl | rfl | rfl <;> omega
 refine It.mk' hs7 (fun hno=>h2 (hno.up (by omega)) _ (Rw.stop (hno.first ?_))) (fun _=>h2) (fun h=>ha.hn (by omega)) (fun h=>?_)
 ·rcases hrow with rfl | rfl | rfl | rfl <;> decide
 ·rcases hrow with rfl | rfl | rfl | rfl <;> omega
theorem It.cmp {toks : List D} {a m b Ka Kb : Nat} {w : List UInt8} {x y : D} (hw : w ∈ Ec) (hs : stI w = 3) (hN : Nxt toks (m,0) w) (ha : It toks a m Ka x) (hKa : 4 <= Ka) (hb : It toks (m + 1) b Kb y) (hKb : 4 <= Kb) : It toks a b 3 (mA w x y):=by
 refine It.mk' (by omega) (fun hno=>?_) (fun h=>?_) (fun _=>ha.hn (by omega)) (fun h=>by omega)
 ·exact Pr.cmp1 (ha.t1 4 hKa (hN.noOp (.inr (by rw [hs];decide)))) rfl (hN.first hw) (hb.t1 4 hKb (hno.up (by omega)))
 ·rcases h with h | h | h | h <;> cases h
theorem It.not {toks : List D} {a b K : Nat} {x : D} (hN : Nxt toks (a,0) sQ) (h : It toks (a + 1) b K x) (hK : 2 <= K) : It toks a b 2 (jQ sQ x):=by
 refine It.mk' (by omega) (fun hno=>?_) (fun h=>?_) (fun h=>by omega) (fun h=>by omega)
 ·exact Pr.not1 rfl (by rw [hN];simp) (h.t1 2 hK hno)
 ·rcases h with h | h | h | h <;> cases h
theorem It.neg {toks : List D} {a b K : Nat} {x : D} (hN : Nxt toks (a,0) [45]) (h : It toks (a + 1) b K x) (hK : 6 <= K) : It toks a b 6 (jQ CL x):=by
 refine It.mk' (by omega) (fun hno=>?_) (fun h=>?_) (fun _=>hN.ne (by decide)) (fun h=>by omega)
 ·exact Pr.neg1 rfl (by rw [hN];simp) (h.t1 6 hK hno)
 ·rcases h with h | h | h | h <;> cases h
theorem It.leaf {toks : List D} {a b : Nat} {x : D} (h : Pr .plain toks (a,0) (x,(b,0))) (h1 : isP toks (a,0) sQ = false) (h2 : isP toks (a,0) [45] = false) : It toks a b 7 x :=
 It.mk' (Nat.le_refl _) (fun _=>h) (fun h=>by rcases h with h | h | h | h <;> cases h) (fun _=>h1) (fun _=>h2)
def sm : Nat -> D -> D -> Prop
 | 0,_,_=>False
 | n + 1,x,e=>eop x = eop e /\ lP x = lP e /\ fB x = fB e /\ kR (eV x) (eV e) = true /\ (∀ y ∈ vl (eV x),vl y = []) /\ (eps x).length = (eps e).length /\ ∀ (i : Nat) (y z : D),(eps x)[i]? = some y -> (eps e)[i]? = some z -> sm n y z
theorem A2J : ∀ (n : Nat) (x e : D),sm n x e -> sm (n + 1) x e
 | 0,_,_,h=>h.elim
 | n + 1,x,e,⟨h1,h2,h3,h4,h5,h6,h7⟩=>⟨h1,h2,h3,h4,h5,h6,fun i y z hy hz=>A2J n y z (h7 i y z hy hz)⟩
theorem A2H {n m : Nat} (h : n <= m) {x e : D} (k : sm n x e) : sm m x e:=by
 induction h with
 | refl=>exact k
 | step _ ih=>exact A2J _ _ _ ih
def Sm (x e : D) : Prop:=∃ n,sm n x e
theorem A2C {v : D} (h : kR v eE = true) : kR eE v = true:=by
 unfold kR at h ⊢
 split at h
 ·cases h
 ·rename_i g
  simp only [Bool.or_eq_true,not_or,bne_iff_ne,ne_eq,Decidable.not_not,Bool.not_eq_true',Bool.not_eq_false,beq_iff_eq] at g
  obtain ⟨⟨⟨g1,g2⟩,g3⟩,g4⟩:=g
  rw [if_neg (by simp [g1,g2,g3,g4])]
  rfl
theorem A2B {e : D} (h : tH e = true) (g1 : (eop e == fU) = false) : kR eE (eV e) = true /\ ((eop e == eJ) = false -> (eop e == i8) = false -> (eop e == dK) = false -> lP e = [] /\ fB e = []) ∧
  ((eop e == eJ) = true ∨ (eop e == i8) = true -> inB j7 (lP e) = true /\ gL (fB e) = true) /\ ((eop e == eJ) = false -> (eop e == i8) = false -> (eop e == dK) = true -> lP e = [] /\ cG 3 (fB e) 0 = true):=by
 unfold tH at h
 rw [if_neg (by rw [g1];decide)] at h
 split at h
 ·cases h
 ·rename_i g
  have g : kR (eV e) eE = true:=by simpa using g
  refine ⟨A2C g,fun a1 a2 a3=>?_,fun a=>?_,fun a1 a2 a3=>?_⟩
  ·rw [a1,a2,a3] at h
   simp only [Bool.or_self,Bool.false_eq_true,if_false,Bool.and_eq_true,beq_iff_eq] at h
   exact h
  ·rw [if_pos (by rw [Bool.or_eq_true];exact a)] at h
   simpa using h
  ·rw [a1,a2,a3] at h
   simp only [Bool.or_self,Bool.false_eq_true,if_false,if_true,Bool.and_eq_true,beq_iff_eq] at h
   exact h
theorem Sm.two {e x y : D} (hg : GoodE e) (h2 : sY (eop e)) (hx : Sm x (eZ e)) (hy : Sm y (uA e)) : Sm (mA (eop e) x y) e:=by
 obtain ⟨n,hn⟩:=hx
 obtain ⟨m,hm⟩:=hy
 obtain ⟨_,_,_,_,he⟩:=hg.two h2
 obtain ⟨g1,g2,g3,g4,g5,g6,g7,g8⟩:=Dz h2
 obtain ⟨q1,q2,_,_⟩:=A2B hg.parts.2.2.2 g1
 obtain ⟨q3,q4⟩:=q2 g3 g4 g5
 refine ⟨max n m + 1,rfl,q3.symm,q4.symm,q1,(fun y hy=>by cases hy),by rw [he];rfl,fun i u v hu hv=>?_⟩
 rw [he] at hv
 have hu : ([x,y] : List D)[i]? = some u:=hu
 match i with
 | 0=>simp at hu hv;subst hu;subst hv;exact A2H (by omega) hn
 | 1=>simp at hu hv;subst hu;subst hv;exact A2H (by omega) hm
 | i + 2=>simp at hu
theorem Sm.one {e x : D} (hg : GoodE e) (h1 : (eop e == dN) = true ∨ (eop e == lF) = true ∨ (eop e == oJ) = true) (hx : Sm x (eZ e)) : Sm (jQ (eop e) x) e:=by
 obtain ⟨n,hn⟩:=hx
 obtain ⟨_,z,he,hz⟩:=hg.one h1
 have hne : (eop e == fU) = false /\ (eop e == eJ) = false /\ (eop e == i8) = false /\ (eop e == dK) = false:=by
  rcases h1 with h1 | h1 | h1 <;> (rw [aM h1];decide)
 obtain ⟨g1,g3,g4,g5⟩:=hne
 obtain ⟨q1,q2,_,_⟩:=A2B hg.parts.2.2.2 g1
 obtain ⟨q3,q4⟩:=q2 g3 g4 g5
 refine ⟨n + 1,rfl,q3.symm,q4.symm,q1,(fun y hy=>by cases hy),by rw [he];rfl,fun i u v hu hv=>?_⟩
 rw [he] at hv
 have hu : ([x] : List D)[i]? = some u:=hu
 match i with
 | 0=>simp at hu hv;subst hu;subst hv;rw [<- hz];exact hn
 | i + 1=>simp at hu
theorem A2D {e : D} (hg : GoodE e) (h0 : arN (eop e) = 0) : eps e = []:=by
 have:=hg.parts.2.1
 rw [h0] at this
 exact List.eq_nil_of_length_eq_zero (by omega)
theorem Sm.leaf {e : D} {who name : List UInt8} (hg : GoodE e) (hv : (eop e == fU) = false) (h0 : arN (eop e) = 0) (hw : lP e = who) (hn : fB e = name) : Sm (dQ (eop e) who name) e:=by
 obtain ⟨q1,_⟩:=A2B hg.parts.2.2.2 hv
 have he:=A2D hg h0
 exact ⟨1,rfl,hw.symm,hn.symm,q1,(fun y hy=>by cases hy),by rw [he];rfl,fun i u v _ hv'=>by rw [he] at hv';cases hv'⟩
theorem Sm.val {e y : D} (hg : GoodE e) (hv : (eop e == fU) = true) (hy : ∃ k i s n l,y = mkV k i s n l /\ ∀ x ∈ l,vl x = []) (hs : kR y (eV e) = true) : Sm (kZ y) e:=by
 obtain ⟨k,i,s,n,l,rfl,hl⟩:=hy
 obtain ⟨_,q2,q3⟩:=A2E hg.parts.2.2.2 hv
 have he:=A2D hg (by rw [aM hv];decide)
 refine ⟨1,(aM hv).symm,q2.symm,q3.symm,hs,?_,by rw [he];rfl,fun i u v _ hv'=>by rw [he] at hv';cases hv'⟩
 intro x hx
 have hx : x ∈ vl (mkV k i s n l):=hx
 rw [fO] at hx
 exact hl x hx
def cE (e : D) (i : Nat) : D:=e.cells.getD i .top
theorem mS {n : Nat} {e : D} (h : isE n e) : D.agg [cE e 0,cE e 1,cE e 2,cE e 3,cE e 4,cE e 5,cE e 6,cE e 7] = e:=by
 cases n with
 | zero=>exact h.elim
 | succ n=>obtain ⟨op,k,i,s,nl,l,who,name,m,ps,rfl,_⟩:=h;rfl
def mkR (pm hi : Bool) (nm : List UInt8) (e : D) (m m' : Bool) (du ad : List (List UInt8)) : D:=.agg [.bool pm,.str nm,.bool hi,cE e 0,cE e 1,cE e 2,cE e 3,cE e 4,cE e 5,cE e 6,cE e 7,aA m (du.map D.str),aA m' (ad.map D.str)]
def A4 (l : List (List UInt8)) : Prop:=l.length <= 2 ^ 47 /\ ∀ s ∈ l,s.length <= 2 ^ 47
def isR (n : Nat) (r : D) : Prop:=∃ pm hi nm e m m' du ad,r = mkR pm hi nm e m m' du ad /\ isE n e /\ nm.length <= 2 ^ 47 /\ A4 du /\ A4 ad
def rNm : D -> List UInt8
 | .agg (_ :: .str s :: _)=>s
 | _=>[]
def rHi : D -> Bool
 | .agg (_ :: _ :: .bool b :: _)=>b
 | _=>false
def rE : D -> D
 | .agg (_ :: _ :: _ :: a0 :: a1 :: a2 :: a3 :: a4 :: a5 :: a6 :: a7 :: _)=>.agg [a0,a1,a2,a3,a4,a5,a6,a7]
 | _=>.top
def rDu : D -> List (List UInt8)
 | .agg (_ :: _ :: _ :: _ :: _ :: _ :: _ :: _ :: _ :: _ :: _ :: l :: _)=>txs l
 | _=>[]
def rAd : D -> List (List UInt8)
 | .agg (_ :: _ :: _ :: _ :: _ :: _ :: _ :: _ :: _ :: _ :: _ :: _ :: l :: _)=>txs l
 | _=>[]
section
variable (pm hi : Bool) (nm : List UInt8) (e : D) (m m' : Bool) (du ad : List (List UInt8))
theorem Ax : rNm (mkR pm hi nm e m m' du ad) = nm:=id rfl
theorem Ds : rHi (mkR pm hi nm e m m' du ad) = hi:=id rfl
theorem Fu {n : Nat} (h : isE n e) : rE (mkR pm hi nm e m m' du ad) = e:=mS h
theorem L0 : rDu (mkR pm hi nm e m m' du ad) = du:=by simp only [rDu,mkR,EK]
theorem NN : rAd (mkR pm hi nm e m m' du ad) = ad:=by simp only [rAd,mkR,EK]
end
theorem Ih {n : Nat} {e : D} (h : isE n e) : (cE e 0).erase = cE e 0 /\ (cE e 1).erase = cE e 1 /\ (cE e 2).erase = cE e 2 /\ (cE e 3).erase = cE e 3 /\ (cE e 4).erase = cE e 4 /\ (cE e 5).erase = cE e 5 /\ (cE e 6).erase = cE e 6 /\ (cE e 7).erase = cE e 7:=by
 have:=bW h
 rw [<- mS h] at this
 simpa only [D.erase,D.eraseL,D.agg.injEq,List.cons.injEq,and_true] using this
theorem oR (m : Bool) (l : List (List UInt8)) : (aA m (l.map D.str)).erase = aA m (l.map D.str):=by rw [bE,jJ]
theorem sG {n : Nat} {r : D} (h : isR n r) : r.erase = r:=by
 obtain ⟨pm,hi,nm,e,m,m',du,ad,rfl,he,_⟩:=h
 obtain ⟨q0,q1,q2,q3,q4,q5,q6,q7⟩:=Ih he
 simp only [mkR,D.erase,D.eraseL,oR,q0,q1,q2,q3,q4,q5,q6,q7]
theorem KB {n : Nat} {r : D} (h : isR n r) : r.cells.length = 13 /\ r.cells.take 13 = r.cells /\ D.agg r.cells = r /\ r.okc = true:=by
 obtain ⟨pm,hi,nm,e,m,m',du,ad,rfl,_⟩:=h
 exact ⟨rfl,rfl,rfl,rfl⟩
def mkP (nm bn us : List UInt8) (hf : Bool) (e : D) (m : Bool) (rs : List D) : D:=.agg [.str nm,.str bn,.str us,.bool hf,cE e 0,cE e 1,cE e 2,cE e 3,cE e 4,cE e 5,cE e 6,cE e 7,aA m rs]
def C7 (n : Nat) (p : D) : Prop:=∃ nm bn us hf e m rs,p = mkP nm bn us hf e m rs /\ isE n e /\ nm.length <= 2 ^ 47 /\ bn.length <= 2 ^ 47 /\ us.length <= 2 ^ 47 /\ rs.length <= 2 ^ 47 /\ ∀ x ∈ rs,isR n x
def pNm : D -> List UInt8
 | .agg (.str s :: _)=>s
 | _=>[]
def pBy : D -> List UInt8
 | .agg (_ :: .str s :: _)=>s
 | _=>[]
def pUs : D -> List UInt8
 | .agg (_ :: _ :: .str s :: _)=>s
 | _=>[]
def pHf : D -> Bool
 | .agg (_ :: _ :: _ :: .bool b :: _)=>b
 | _=>false
def pE : D -> D
 | .agg (_ :: _ :: _ :: _ :: a0 :: a1 :: a2 :: a3 :: a4 :: a5 :: a6 :: a7 :: _)=>.agg [a0,a1,a2,a3,a4,a5,a6,a7]
 | _=>.top
def pRs : D -> List D
 | .agg (_ :: _ :: _ :: _ :: _ :: _ :: _ :: _ :: _ :: _ :: _ :: _ :: l :: _)=>elems l
 | _=>[]
section
variable (nm bn us : List UInt8) (hf : Bool) (e : D) (m : Bool) (rs : List D)
theorem BJ : pNm (mkP nm bn us hf e m rs) = nm:=id rfl
theorem N4 : pBy (mkP nm bn us hf e m rs) = bn:=id rfl
theorem Dw : pUs (mkP nm bn us hf e m rs) = us:=id rfl
theorem DK : pHf (mkP nm bn us hf e m rs) = hf:=id rfl
theorem GL {n : Nat} (h : isE n e) : pE (mkP nm bn us hf e m rs) = e:=mS h
theorem lK : pRs (mkP nm bn us hf e m rs) = rs:=by simp only [pRs,mkP,aQ]
end
theorem lW {n : Nat} {p : D} (h : C7 n p) : p.erase = p:=by
 obtain ⟨nm,bn,us,hf,e,m,rs,rfl,he,_,_,_,_,hr⟩:=h
 obtain ⟨q0,q1,q2,q3,q4,q5,q6,q7⟩:=Ih he
 simp only [mkP,D.erase,D.eraseL,bE,bB fun x hx=>sG (hr x hx),q0,q1,q2,q3,q4,q5,q6,q7]
theorem HQ {n : Nat} {r : D} (h : C7 n r) : r.cells.length = 13 /\ r.cells.take 13 = r.cells /\ D.agg r.cells = r /\ r.okc = true:=by
 obtain ⟨nm,bn,us,hf,e,m,rs,rfl,_⟩:=h
 exact ⟨rfl,rfl,rfl,rfl⟩
def dA (m : Bool) (fs : List D) (us : List UInt8) (m' : Bool) (ps : List D) : D:=.agg [aA m fs,.str us,aA m' ps]
def kI (n : Nat) (d : D) : Prop:=∃ m fs us m' ps,d = dA m fs us m' ps /\ fs.length <= 2 ^ 47 /\ us.length <= 2 ^ 47 /\ ps.length <= 2 ^ 47 /\ (∀ x ∈ fs,isF x) /\ ∀ x ∈ ps,C7 n x
def dFs : D -> List D
 | .agg (l :: _)=>elems l
 | _=>[]
def dUs : D -> List UInt8
 | .agg (_ :: .str s :: _)=>s
 | _=>[]
def dPs : D -> List D
 | .agg (_ :: _ :: l :: _)=>elems l
 | _=>[]
section
variable (m : Bool) (fs : List D) (us : List UInt8) (m' : Bool) (ps : List D)
theorem mQ : dFs (dA m fs us m' ps) = fs:=by simp only [dFs,dA,aQ]
theorem DJ : dUs (dA m fs us m' ps) = us:=id rfl
theorem mZ : dPs (dA m fs us m' ps) = ps:=by simp only [dPs,dA,aQ]
end
theorem dX {n : Nat} {d : D} (h : kI n d) : d.erase = d:=by
 obtain ⟨m,fs,us,m',ps,rfl,_,_,_,hf,hp⟩:=h
 simp only [dA,D.erase,D.eraseL,bE,bB fun x hx=>fQ (hf x hx),bB fun x hx=>lW (hp x hx)]
theorem yX {n : Nat} {r : D} (h : kI n r) : r.cells.length = 3 /\ r.cells.take 3 = r.cells /\ D.agg r.cells = r /\ r.okc = true:=by
 obtain ⟨m,fs,us,m',ps,rfl,_⟩:=h
 exact ⟨rfl,rfl,rfl,rfl⟩
theorem Jr {r : D} (h : isF r) : r.cells.length = 4 /\ r.cells.take 4 = r.cells /\ D.agg r.cells = r /\ r.okc = true:=by
 obtain ⟨_,_,_,_,rfl,_⟩:=h
 exact ⟨rfl,rfl,rfl,rfl⟩
def okF (f : D) : Bool:=inB j7 (FN f) && (gL (yR f) && (!(decide (oW f < 1)) && !(decide (4 < oW f))))
noncomputable def okR (r : D) : Bool:=gL (rNm r) && (CH (rHi r) (rE r) && ((rDu r).all uQ && (rAd r).all uQ))
noncomputable def okP (p : D) : Bool:=gL (pNm p) && (gL (pBy p) && (cG 1 (pUs p) 0 && (CH (pHf p) (pE p) && (pRs p).all okR)))
noncomputable def okD (d : D) : Bool:=cG 1 (dUs d) 0 && ((dFs d).all okF && (dPs d).all okP)
open Classical in
noncomputable def Eu : List D -> Option D
 | [d]=>if kI aK d then some (.bool (okD d)) else none
 | _=>none
noncomputable abbrev XY : Fs:=[(57,dL),(59,yQ 1),(55,yY),(56,CI),(66,GN),(67,v3)]
theorem KO {m : Bool} {l : List (List UInt8)} (h : A4 l) : Pp (aA m (l.map D.str)):=⟨m,l,rfl,h.1,h.2⟩
theorem FS {m : Bool} {l : List (List UInt8)} (h : A4 l) : v3 [aA m (l.map D.str)] = some (.bool (l.all uQ)):=by
 simp only [v3];rw [if_pos (KO h),EK]
theorem Kq {b : Bool} {e : D} (h : isE aK e) : GN [.bool b,e] = some (.bool (CH b e)):=by
 simp only [GN];rw [if_pos h]
theorem II {k : Int} {s : List UInt8} (h : s.length <= 2 ^ 47) : dL [.agg [.int .i64 k,.str s,.int .i64 0]] = some (.bool (cG k s 0)):=by
 simp only [dL];rw [if_pos (by omega)]
theorem IK {s : List UInt8} (h : s.length <= 2 ^ 47) : CI [.str s] = some (.bool (gL s)):=by
 simp only [CI];rw [if_pos (by omega)]
theorem R6 (s : List UInt8) : yY [.str s] = some (.bool (inB j7 s)):=rfl
set_option maxHeartbeats 8000000 in
theorem Zm : aO Tryz.prog 29 Eu:=by
 refine aG (l:=XY) (.cons Lm (.cons A0L (.cons WU (.cons Wg (.cons A07 (.cons ZD .nil)))))) A0R fun args r h=>?_
 have hX:=aI XY
 unfold Eu at h
 split at h
 ·rename_i d
  split at h
  ·rename_i hd
   injection h with h;subst h
   refine ⟨by simp,by simp [D.cl],fun H T=>?_⟩
   have ed:=dX hd
   obtain ⟨m,fs,us,m',ps,rfl,h1,h2,h3,h4,h5⟩:=hd
   simp only [dA] at ed
   simp only [okD,mQ,DJ,mZ]
   have pu:=II (k:=1) h2
   obtain ⟨ub,hub⟩ : ∃ z,cG 1 us 0 = z:=⟨_,rfl⟩
   rw [hub] at pu ⊢
   cases ub with
   | false=>simp +contextual only [c29,dA,ed,yQ,mkT,pu,go_sem]
   | true =>
   simp only [Bool.true_and]
   simp +contextual only [c29,dA,ed,yQ,mkT,pu,go_sem]
   refine I0 fs okF 3 (fun s=>s.t 1 = .ptr H.length 0 /\ Ext (H ++ [.row [aA m fs,.str us,aA m' ps]]) s.H /\ s.T = T) hX ⟨by simp [upd],Ext.refl _,rfl⟩ (by simp [upd]) ?_ ?_
   ·rintro i x ⟨t,B,T'⟩ b hx hm hi ⟨r1,hB,rfl⟩ r3 hb hno
    simp only at r1 r3 hB
    have d1 : decide ((i : Int) < fs.length) = true:=by simpa using hi
    obtain ⟨w,n,k,bg,rfl,k1,k2,k3,k4⟩:=h4 x hm
    have hg:=hB.get (o:=H.length) (by simp;rfl)
    have pw:=R6 w
    have pn:=IK k2
    have hb : (inB j7 w && (gL n && (!(decide (k < 1)) && !(decide (4 < k))))) = b:=hb
    have hno2 : b = false -> (fs.all okF && ps.all okP) = false:=fun h=>by rw [hno h];rfl
    obtain ⟨wb,hwb⟩ : ∃ z,inB j7 w = z:=⟨_,rfl⟩
    obtain ⟨nb,hnb⟩ : ∃ z,gL n = z:=⟨_,rfl⟩
    rw [hwb] at pw hb
    rw [hnb] at pn hb
    subst hb
    cases wb with
    | false =>
     have hno2:=hno2 rfl
     simp +contextual only [r1,r3,bN hg,cW hg,d1,hx,mkF,pw,hno2,bL hB.pre (bQ.refl _),go_sem]
    | true =>
    cases nb with
    | false =>
     have hno2:=hno2 rfl
     simp +contextual only [r1,r3,bN hg,cW hg,d1,hx,mkF,pw,pn,hno2,bL hB.pre (bQ.refl _),go_sem]
    | true =>
    rcases tf (decide (k < 1)) with g1 | g1
    ·have hno2:=hno2 (by rw [g1];rfl)
     simp +contextual only [r1,r3,bN hg,cW hg,d1,hx,mkF,pw,pn,g1,hno2,bL hB.pre (bQ.refl _),go_sem]
    rcases tf (decide (4 < k)) with g2 | g2
    ·have hno2:=hno2 (by rw [g1,g2];rfl)
     simp +contextual only [r1,r3,bN hg,cW hg,d1,hx,mkF,pw,pn,g1,g2,hno2,bL hB.pre (bQ.refl _),go_sem]
    ·simp +contextual only [r1,r3,bN hg,cW hg,d1,hx,mkF,pw,pn,g1,g2,aH i (by omega),go_sem]
     exact hB.app _
   ·rintro ⟨t,B,T'⟩ ⟨r1,hB,rfl⟩ r3 hall
    simp only at r1 r3 hB
    have d1 : decide ((fs.length : Int) < fs.length) = false:=by simp
    have hg:=hB.get (o:=H.length) (by simp;rfl)
    rw [hall]
    simp only [Bool.true_and]
    simp +contextual only [r1,r3,bN hg,d1,go_sem]
    clear r3
    refine I0 ps okP 5 (fun s=>s.t 1 = .ptr H.length 0 /\ Ext (H ++ [.row [aA m fs,.str us,aA m' ps]]) s.H /\ s.T = T') hX ⟨by simp [upd,r1],hB,rfl⟩ (by simp [upd]) ?_ ?_
    ·clear r1 hB hg d1
     rintro i x ⟨t,B,T'⟩ b hx hm hi ⟨r1,hB,rfl⟩ r3 hb hno
     simp only at r1 r3 hB
     have d1 : decide ((i : Int) < ps.length) = true:=by simpa using hi
     obtain ⟨nm,bn,us',hf,e,mm,rs,rfl,he,k1,k2,k3,k4,k5⟩:=h5 x hm
     have hE:=mS he
     have ee:=bW he
     have hg:=hB.get (o:=H.length) (by simp;rfl)
     have p1:=IK k1
     have p2:=IK k2
     have p3:=II (k:=1) k3
     have p4:=Kq (b:=hf) he
     simp only [okP,BJ,N4,Dw,DK,lK,GL _ _ _ _ _ _ _ he] at hb
     obtain ⟨b1,hb1⟩ : ∃ z,gL nm = z:=⟨_,rfl⟩
     obtain ⟨b2,hb2⟩ : ∃ z,gL bn = z:=⟨_,rfl⟩
     obtain ⟨b3,hb3⟩ : ∃ z,cG 1 us' 0 = z:=⟨_,rfl⟩
     obtain ⟨b4,hb4⟩ : ∃ z,CH hf e = z:=⟨_,rfl⟩
     rw [hb1] at p1 hb
     rw [hb2] at p2 hb
     rw [hb3] at p3 hb
     rw [hb4] at p4 hb
     cases b1 with
     | false =>
      have hno:=hno hb.symm
      simp +contextual only [r1,r3,bN hg,cW hg,d1,hx,mkP,p1,hno,bL hB.pre (bQ.refl _),go_sem]
     | true =>
     cases b2 with
     | false =>
      have hno:=hno hb.symm
      simp +contextual only [r1,r3,bN hg,cW hg,d1,hx,mkP,p1,p2,hno,bL hB.pre (bQ.refl _),go_sem]
     | true =>
     cases b3 with
     | false =>
      have hno:=hno hb.symm
      simp +contextual only [r1,r3,bN hg,cW hg,d1,hx,mkP,p1,p2,yQ,mkT,p3,hno,bL hB.pre (bQ.refl _),go_sem]
     | true =>
     cases b4 with
     | false =>
      have hno:=hno hb.symm
      simp +contextual only [r1,r3,bN hg,cW hg,d1,hx,mkP,p1,p2,yQ,mkT,p3,hE,ee,p4,hno,bL hB.pre (bQ.refl _),go_sem]
     | true =>
     simp only [Bool.true_and] at hb
     simp +contextual only [r1,r3,bN hg,cW hg,d1,hx,mkP,p1,p2,yQ,mkT,p3,hE,ee,p4,go_sem]
     refine I0 rs okR 7 (fun s=>s.t 1 = .ptr H.length 0 /\ s.t 5 = .int .i64 (i : Int) /\ s.t 6 = .ptr B.length 0 /\ Ext (B ++ [.row (mkP nm bn us' hf e mm rs).cells]) s.H /\ s.T = T') hX ⟨by simp [upd,r1],by simp [upd,r3],by simp [upd],Ext.refl _,rfl⟩ (by simp [upd]) ?_ ?_
     ·clear p1 p2 p3 p4
      rintro i' x' ⟨t',B',T''⟩ b' hx' hm' hi' ⟨s1,s3,s4,hB',rfl⟩ s5 hb' hno'
      simp only at s1 s3 s4 s5 hB'
      have d2 : decide ((i' : Int) < rs.length) = true:=by simpa using hi'
      obtain ⟨pm,hi'',nm',e',ma,mb,du,ad,rfl,he',l1,l2,l3⟩:=k5 x' hm'
      have hE':=mS he'
      have ee':=bW he'
      have p1:=IK l1
      have p2:=Kq (b:=hi'') he'
      have p3:=FS (m:=ma) l2
      have p4:=FS (m:=mb) l3
      simp only [okR,Ax,Ds,Fu _ _ _ _ _ _ _ _ he',L0,NN] at hb'
      have hg':=hB'.get (o:=B.length) (by simp;rfl)
      simp only [mkP,D.cells] at hg'
      have hno2 : b' = false -> ps.all okP = false:=fun h=>hno (by rw [<- hb,hno' h])
      have hB2 : Ext H B':=(hB.pre.trans hB'.pre)
      have eu:=oR ma du
      have ea:=oR mb ad
      obtain ⟨b1,hb1⟩ : ∃ z,gL nm' = z:=⟨_,rfl⟩
      obtain ⟨b2,hb2⟩ : ∃ z,CH hi'' e' = z:=⟨_,rfl⟩
      obtain ⟨b3,hb3⟩ : ∃ z,du.all uQ = z:=⟨_,rfl⟩
      obtain ⟨b4,hb4⟩ : ∃ z,ad.all uQ = z:=⟨_,rfl⟩
      rw [hb1] at p1 hb'
      rw [hb2] at p2 hb'
      rw [hb3] at p3 hb'
      rw [hb4] at p4 hb'
      subst hb'
      obtain ⟨DU,hDU⟩ : ∃ z,aA ma (du.map D.str) = z:=⟨_,rfl⟩
      obtain ⟨AD,hAD⟩ : ∃ z,aA mb (ad.map D.str) = z:=⟨_,rfl⟩
      simp only [mkR,hDU,hAD] at hx' p3 p4 eu ea
      cases b1 with
      | false =>
       have hno2:=hno2 rfl
       simp +contextual only [s1,s3,s4,s5,bN hg',cW hg',d2,hx',p1,hno2,bL hB2 (bQ.refl _),go_sem]
      | true =>
      cases b2 with
      | false =>
       have hno2:=hno2 rfl
       simp +contextual only [s1,s3,s4,s5,bN hg',cW hg',d2,hx',p1,hE',ee',p2,hno2,bL hB2 (bQ.refl _),go_sem]
      | true =>
      cases b3 with
      | false =>
       have hno2:=hno2 rfl
       simp +contextual only [s1,s3,s4,s5,bN hg',cW hg',d2,hx',p1,hE',ee',p2,eu,p3,hno2,bL hB2 (bQ.refl _),go_sem]
      | true =>
      cases b4 with
      | false =>
       have hno2:=hno2 rfl
       simp +contextual only [s1,s3,s4,s5,bN hg',cW hg',d2,hx',p1,hE',ee',p2,eu,ea,p3,p4,hno2,bL hB2 (bQ.refl _),go_sem]
      | true =>
       simp +contextual only [s1,s3,s4,s5,bN hg',cW hg',d2,hx',p1,hE',ee',p2,eu,ea,p3,p4,aH i' (by omega),go_sem]
       exact hB'.app _
     ·rintro ⟨t',B',T''⟩ ⟨s1,s3,s4,hB',rfl⟩ s5 hall
      simp only at s1 s3 s4 s5 hB'
      have d2 : decide ((rs.length : Int) < rs.length) = false:=by simp
      have hg':=hB'.get (o:=B.length) (by simp;rfl)
      simp only [mkP,D.cells] at hg'
      rw [hall] at hb
      simp +contextual only [s1,s3,s4,s5,bN hg',d2,aH i (by omega),hb.symm,go_sem]
      exact (hB.app _).trans hB'
    ·rintro ⟨t,B,T'⟩ ⟨r1,hB,rfl⟩ r3 hall
     simp only at r1 r3 hB
     have d1 : decide ((ps.length : Int) < ps.length) = false:=by simp
     have hg:=hB.get (o:=H.length) (by simp;rfl)
     rw [hall]
     simp +contextual only [r1,r3,bN hg,d1,b8 hB.pre (bQ.refl _),go_sem]
  ·cases h
 ·cases h
def nmF (f : D) : Nm:=(FN f,yR f)
noncomputable def nmP (p : D) : Nm:=(pNm p,[])
noncomputable def nmR (r : D) : Nm:=(rNm r,[])
open Classical in
noncomputable def DA : List D -> Option D
 | [f]=>if isF f then some (c9 (nmF f)) else none
 | _=>none
open Classical in
noncomputable def CP : List D -> Option D
 | [p]=>if C7 aK p then some (c9 (nmP p)) else none
 | _=>none
open Classical in
noncomputable def CT : List D -> Option D
 | [r]=>if isR aK r then some (c9 (nmR r)) else none
 | _=>none
set_option maxHeartbeats 1000000 in
theorem VV : aO Tryz.prog 188 DA:=by
 refine aG (l:=[]) .nil XQ fun args r h=>?_
 unfold DA at h
 split at h
 ·rename_i f
  split at h
  ·rename_i hc
   injection h with h;subst h
   refine ⟨by simp,by simp [c9,D.cl,D.clL],fun H T=>?_⟩
   have ef:=fQ hc
   obtain ⟨w,n,k,b,rfl,_⟩:=hc
   have e1 : c9 (nmF (mkF w n k b)) = .agg [.str w,.str n]:=rfl
   rw [e1]
   simp only [mkF] at ef
   simp +contextual only [XJ,mkF,ef,go_sem]
  ·cases h
 ·cases h
set_option maxHeartbeats 1000000 in
theorem XX : aO Tryz.prog 190 CP:=by
 refine aG (l:=[]) .nil Sy fun args r h=>?_
 unfold CP at h
 split at h
 ·rename_i p
  split at h
  ·rename_i hc
   injection h with h;subst h
   refine ⟨by simp,by simp [c9,D.cl,D.clL],fun H T=>?_⟩
   have ef:=lW hc
   obtain ⟨nm,bn,us',hf,e,mm,rs,rfl,_⟩:=hc
   have e1 : c9 (nmP (mkP nm bn us' hf e mm rs)) = .agg [.str nm,.str []]:=by simp [c9,nmP,BJ]
   rw [e1]
   simp only [mkP] at ef
   simp +contextual only [Wj,mkP,ef,go_sem]
  ·cases h
 ·cases h
set_option maxHeartbeats 1000000 in
theorem W5 : aO Tryz.prog 192 CT:=by
 refine aG (l:=[]) .nil Uh fun args r h=>?_
 unfold CT at h
 split at h
 ·rename_i p
  split at h
  ·rename_i hc
   injection h with h;subst h
   refine ⟨by simp,by simp [c9,D.cl,D.clL],fun H T=>?_⟩
   have ef:=sG hc
   obtain ⟨pm,hi,nm,e,m,m',du,ad,rfl,_⟩:=hc
   have e1 : c9 (nmR (mkR pm hi nm e m m' du ad)) = .agg [.str nm,.str []]:=by simp [c9,nmR,Ax]
   rw [e1]
   obtain ⟨DU,hDU⟩ : ∃ z,aA m (du.map D.str) = z:=⟨_,rfl⟩
   obtain ⟨AD,hAD⟩ : ∃ z,aA m' (ad.map D.str) = z:=⟨_,rfl⟩
   simp only [mkR,hDU,hAD] at ef
   simp +contextual only [X1,mkR,hDU,hAD,ef,go_sem]
  ·cases h
 ·cases h
theorem U5 : aO Tryz.prog 187 (CM 4 188 DA nmF):=R7 (by rfl) VV Rj
theorem VX : aO Tryz.prog 189 (CM 13 190 CP nmP):=R7 (by rfl) XX QT
theorem VE : aO Tryz.prog 191 (CM 13 192 CT nmR):=R7 (by rfl) W5 QM
theorem elF {f : D} (h : isF f) : isElN 4 DA nmF f:=by
 obtain ⟨q1,q2,q3,q4⟩:=Jr h
 refine ⟨by simp only [DA];rw [if_pos h],?_,fQ h,q1,q2,q3,q4⟩
 obtain ⟨w,n,k,b,rfl,h1,h2,_⟩:=h
 show w.length < 2 ^ 62 /\ n.length < 2 ^ 62
 omega
theorem elP {p : D} (h : C7 aK p) : isElN 13 CP nmP p:=by
 obtain ⟨q1,q2,q3,q4⟩:=HQ h
 refine ⟨by simp only [CP];rw [if_pos h],?_,lW h,q1,q2,q3,q4⟩
 obtain ⟨nm,bn,us',hf,e,mm,rs,rfl,_,h1,_⟩:=h
 show (pNm (mkP nm bn us' hf e mm rs)).length < 2 ^ 62 /\ ([] : List UInt8).length < 2 ^ 62
 rw [BJ];simp;omega
theorem elR {r : D} (h : isR aK r) : isElN 13 CT nmR r:=by
 obtain ⟨q1,q2,q3,q4⟩:=KB h
 refine ⟨by simp only [CT];rw [if_pos h],?_,sG h,q1,q2,q3,q4⟩
 obtain ⟨pm,hi,nm,e,m,m',du,ad,rfl,_,h1,_⟩:=h
 show (rNm (mkR pm hi nm e m m' du ad)).length < 2 ^ 62 /\ ([] : List UInt8).length < 2 ^ 62
 rw [Ax];simp;omega
theorem MY {sz : Nat} {g : FuncId} {φn : List D -> Option D} {nm : D -> Nm} {m : Bool} {xs : List D} (h : ∀ x ∈ xs,isElN sz φn nm x) (hl : xs.length <= 2 ^ 40) : CM sz g φn nm [aA m xs,.fn g [] []] = some (.bool (twB (xs.map nm))):=by
 simp only [CM]
 rw [if_pos ⟨rfl,m,xs,rfl,h,hl⟩,aQ]
structure ckD2 (d : D) : Prop where
 s : kI aK d
 f : (dFs d).length <= 2 ^ 20
 p : (dPs d).length <= 2 ^ 20
 r : ∀ p ∈ dPs d,(pRs p).length <= 2 ^ 20
noncomputable def yC (d : D) : Bool:=twB ((dFs d).map nmF) || (twB ((dPs d).map nmP) || (dPs d).any fun p=>twB ((pRs p).map nmR))
open Classical in
noncomputable def vY : List D -> Option D
 | [d]=>if ckD2 d then some (.int .i64 (if yC d then 9 else 0)) else none
 | _=>none
noncomputable abbrev Pt : Fs:=[(187,CM 4 188 DA nmF),(189,CM 13 190 CP nmP),(191,CM 13 192 CT nmR)]
set_option maxHeartbeats 8000000 in
theorem T9 : aO Tryz.prog 153 vY:=by
 have hX:=aI Pt
 refine aG (l:=Pt) (.cons U5 (.cons VX (.cons VE .nil))) WM fun args r h=>?_
 unfold vY at h
 split at h
 ·rename_i d
  split at h
  ·rename_i hd
   injection h with h;subst h
   refine ⟨by simp,by simp [D.cl],fun H T=>?_⟩
   obtain ⟨hs,h1,h2,h3⟩:=hd
   have ed:=dX hs
   obtain ⟨m,fs,us,m',ps,rfl,k1,k2,k3,k4,k5⟩:=hs
   simp only [mQ,mZ] at h1 h2 h3
   simp only [yC,mQ,mZ]
   simp only [dA] at ed
   have p1:=MY (g:=188) (m:=m) (fun x hx=>elF (k4 x hx)) (by omega)
   have p2:=MY (g:=190) (m:=m') (fun x hx=>elP (k5 x hx)) (by omega)
   have ef : (aA m fs).erase = aA m fs:=by rw [bE,bB fun x hx=>fQ (k4 x hx)]
   have ep : (aA m' ps).erase = aA m' ps:=by rw [bE,bB fun x hx=>lW (k5 x hx)]
   obtain ⟨b1,hb1⟩ : ∃ z,twB (fs.map nmF) = z:=⟨_,rfl⟩
   obtain ⟨b2,hb2⟩ : ∃ z,twB (ps.map nmP) = z:=⟨_,rfl⟩
   rw [hb1] at p1 ⊢
   rw [hb2] at p2 ⊢
   cases b1 with
   | true=>simp +contextual only [Oo,dA,ed,ef,p1,go_sem]
   | false =>
   cases b2 with
   | true=>simp +contextual only [Oo,dA,ed,ef,ep,p1,p2,go_sem]
   | false =>
   simp +contextual only [Oo,dA,ed,ef,ep,p1,p2,go_sem]
   have hall : (ps.any fun p=>twB ((pRs p).map nmR)) = !(ps.all fun p=>!(twB ((pRs p).map nmR))):=by
    rw [List.not_all_eq_any_not];simp
   rw [hall]
   refine I0 ps (fun p=>!(twB ((pRs p).map nmR))) 16 (fun s=>s.t 1 = .ptr H.length 0 /\ s.t 14 = aA m' ps /\ s.t 15 = .int .i64 (ps.length : Int) /\ Ext H s.H /\ s.T = T) hX ⟨by simp [upd],by simp [upd],by simp [upd],⟨_,rfl⟩,rfl⟩ (by simp [upd]) ?_ ?_
   ·rintro i x ⟨t,B,U⟩ b hx hm hi ⟨t1,t14,t15,hE,rfl⟩ t16 hb hno
    simp only at t1 t14 t15 t16 hE
    have d1 : decide ((i : Int) < ps.length) = true:=by simpa using hi
    have hxP:=k5 x hm
    have exP:=lW hxP
    have hr:=h3 x hm
    obtain ⟨nm,bn,us',hf,e,mm,rs,rfl,he,l1,l2,l3,l4,l5⟩:=hxP
    rw [lK] at hr hb
    have p3:=MY (g:=192) (m:=mm) (fun y hy=>elR (l5 y hy)) (by omega)
    have er : (aA mm rs).erase = aA mm rs:=by rw [bE,bB fun y hy=>sG (l5 y hy)]
    obtain ⟨b3,hb3⟩ : ∃ z,twB (rs.map nmR) = z:=⟨_,rfl⟩
    rw [hb3] at p3 hb
    subst hb
    cases b3 with
    | true =>
     have hno:=hno rfl
     simp +contextual only [t1,t14,t15,t16,d1,hx,mkP,er,p3,hno,Bool.not_false,bL hE (bQ.refl _),go_sem]
    | false =>
     simp +contextual only [t1,t14,t15,t16,d1,hx,mkP,er,p3,aH i (by omega),Bool.not_false,go_sem]
     exact hE.app _
   ·rintro ⟨t,B,U⟩ ⟨t1,t14,t15,hE,rfl⟩ t16 hal
    simp only at t1 t14 t15 t16 hE
    have d1 : decide ((ps.length : Int) < ps.length) = false:=by simp
    rw [hal]
    simp +contextual only [t1,t14,t15,t16,d1,b8 hE (bQ.refl _),go_sem]
  ·cases h
 ·cases h
end GP
