import Derived.Test.YtainhmbnbgonhaaGreatDoorProg
import Derived.Test.YtainhmbnbgonhaaGreatDoorM5
import Derived.Test.YtainhmbnbgonhaaGreatDoorM8
import Derived.Test.YtainhmbnbgonhaaGreatDoorM9
set_option linter.unusedSimpArgs false
set_option linter.unnecessarySimpa false
namespace GP
open Go Go.Proofs
set_option maxRecDepth 100000
def lvN : Nat -> Lv
 | 0=>.expr
 | 1=>.and
 | 2=>.not
 | 3=>.cmp
 | 4=>.sum
 | 5=>.prod
 | 6=>.unary
 | _=>.plain
def bsN : Nat -> List (List UInt8)
 | 0=>[wOr]
 | 1=>[wAnd]
 | 4=>[[43],[45]]
 | 5=>[[42]]
 | _=>[]
def rowN (s : Nat) : Prop:=s = 0 ∨ s = 1 ∨ s = 4 ∨ s = 5
def noOp (L : Nat) (toks : List D) (st : St) : Prop:=∀ w ∈ ops2,(L : Int) <= stI w -> isP toks st w = false
theorem noOp.up {L M : Nat} {toks : List D} {st : St} (h : noOp L toks st) (hl : L <= M) : noOp M toks st:=fun w hw hs=>h w hw (by omega)
theorem noOp.first {L : Nat} {toks : List D} {st : St} (h : noOp L toks st) {ws : List (List UInt8)} (hw : ∀ w ∈ ws,w ∈ ops2 /\ (L : Int) <= stI w) : firstP toks st ws = none :=
 firstP_none fun w hm=>h w (hw w hm).1 (hw w hm).2
theorem Nxt.noOp {toks : List D} {st : St} {w : List UInt8} (h : Nxt toks st w) {L : Nat} (hw : w ∉ ops2 ∨ stI w < L) : noOp L toks st:=fun u hu hs=>by
 rw [h u]
 cases g : w == u with
 | false=>rfl
 | true =>
  have:=eq_of_beq' g
  subst this
  rcases hw with hw | hw
  ·exact absurd hu hw
  ·omega
structure It (toks : List D) (a b : Nat) (es : Nat) (x : D) : Prop where
 t1 : ∀ L,L <= es -> noOp L toks (b,0) -> Pr (lvN L) toks (a,0) (x,(b,0))
 t2 : ∀ s,s <= es -> rowN s -> noOp (s + 1) toks (b,0) -> ∀ r,Rw (lvN (s + 1)) (bsN s) toks x (b,0) r -> Pr (lvN s) toks (a,0) r
 hn : 2 < es -> isP toks (a,0) wNot = false
 hm : 6 < es -> isP toks (a,0) [45] = false
theorem row_rule {toks : List D} {st st1 : St} {x : D} {r : D × St} {s : Nat} (hs : rowN s) (h : Pr (lvN (s + 1)) toks st (x,st1)) (hr : Rw (lvN (s + 1)) (bsN s) toks x st1 r) : Pr (lvN s) toks st r:=by
 rcases hs with rfl | rfl | rfl | rfl
 ·exact Pr.expr h hr
 ·exact Pr.and h hr
 ·exact Pr.sum h hr
 ·exact Pr.prod h hr
theorem It.mk' {toks : List D} {a b K : Nat} {x : D} (hK : K <= 7) (h1 : noOp K toks (b,0) -> Pr (lvN K) toks (a,0) (x,(b,0)))
  (h2 : rowN K -> noOp (K + 1) toks (b,0) -> ∀ r,Rw (lvN (K + 1)) (bsN K) toks x (b,0) r -> Pr (lvN K) toks (a,0) r)
  (hn : 2 < K -> isP toks (a,0) wNot = false) (hm : 6 < K -> isP toks (a,0) [45] = false) : It toks a b K x:=by
 have key : ∀ d L,L + d = K -> noOp L toks (b,0) -> Pr (lvN L) toks (a,0) (x,(b,0)):=by
  intro d
  induction d with
  | zero=>intro L e h;rw [Nat.add_zero] at e;subst e;exact h1 h
  | succ d ih =>
   intro L e h
   have n1:=ih (L + 1) (by omega) (h.up (by omega))
   have hL : L = 0 ∨ L = 1 ∨ L = 2 ∨ L = 3 ∨ L = 4 ∨ L = 5 ∨ L = 6:=by omega
   rcases hL with rfl | rfl | rfl | rfl | rfl | rfl | rfl
   ·exact Pr.expr n1 (Rw.stop (h.first (by decide)))
   ·exact Pr.and n1 (Rw.stop (h.first (by decide)))
   ·exact Pr.not0 (hn (by omega)) n1
   ·exact Pr.cmp0 n1 (h.first (by decide))
   ·exact Pr.sum n1 (Rw.stop (h.first (by decide)))
   ·exact Pr.prod n1 (Rw.stop (h.first (by decide)))
   ·exact Pr.neg0 (hm (by omega)) n1
 refine ⟨fun L hL h=>key (K - L) L (by omega) h,fun s hs hrow hno r hr=>?_,hn,hm⟩
 by_cases hsK : s = K
 ·subst hsK;exact h2 hrow hno r hr
 ·exact row_rule hrow (key (K - (s + 1)) (s + 1) (by omega) hno) hr
theorem Pr.plain_in {toks : List D} {a : Nat} {r : D × St} (h : Nxt toks (a,0) [40]) (hr : Pr .inner toks (a,0) r) : Pr .plain toks (a,0) r:=by
 obtain ⟨f,hf⟩:=hr
 refine ⟨f + 1,?_⟩
 rw [h.plain (by decide) (by decide)]
 exact hf
theorem It.par {toks : List D} {a b K : Nat} {x : D} (h : It toks (a + 1) b K x) (hp : toks[a]? = some tP) (hq : toks[b]? = some tQ) : It toks a (b + 1) 7 x:=by
 have P:=nx_P hp
 have Q:=nx_Q hq
 refine It.mk' (Nat.le_refl _) (fun _=>?_) (fun h=>?_) (fun _=>P.ne (by decide)) (fun _=>P.ne (by decide))
 ·refine Pr.plain_in P ?_
  have:=h.t1 0 (Nat.zero_le _) (Q.noOp (.inl (by decide)))
  have:=Pr.inner (toks:=toks) (st:=(a,0)) (x:=x) (st1:=(b,0)) (by rw [P.must];exact this)
  rw [Q.must] at this
  exact this
 ·rcases h with h | h | h | h <;> cases h
theorem It.part {toks : List D} {a K least : Nat} {s li : Int} {full : Bool} {l : List D} {R : D -> Prop} (hs : s = (K : Int)) (hli : li = (least : Int)) (hl : least <= 7) (h : ∀ a,Seg toks a l -> ∃ x,It toks a (a + l.length) K x /\ R x) (hS : Seg toks a (parW full s li l)) :
  ∃ K' x,least <= K' /\ It toks a (a + (parW full s li l).length) K' x /\ R x:=by
 unfold parW at hS ⊢
 split at hS
 ·rename_i g
  rw [if_pos g]
  simp only [Bool.and_eq_true,decide_eq_true_eq] at g
  obtain ⟨x,h1,h2⟩:=h a hS
  exact ⟨K,x,by omega,h1,h2⟩
 ·rename_i g
  rw [if_neg g]
  obtain ⟨x,h1,h2⟩:=h (a + 1) hS.tl.fst
  have:=h1.par hS.hd hS.tl.snd.hd
  refine ⟨7,x,hl,?_,h2⟩
  rw [show a + (tP :: (l ++ [tQ])).length = a + 1 + l.length + 1 by simp;omega]
  exact this
theorem It.row {toks : List D} {a m b s Ka Kb : Nat} {w : List UInt8} {x y : D} (hrow : rowN s) (hw : w ∈ bsN s) (hs : stI w = (s : Int)) (hN : Nxt toks (m,0) w) (ha : It toks a m Ka x) (hKa : s <= Ka) (hb : It toks (m + 1) b Kb y) (hKb : s + 1 <= Kb) : It toks a b s (twoD w x y):=by
 have h2 : noOp (s + 1) toks (b,0) -> ∀ r,Rw (lvN (s + 1)) (bsN s) toks (twoD w x y) (b,0) r -> Pr (lvN s) toks (a,0) r:=fun hno r hr=>by
  refine ha.t2 s hKa hrow (hN.noOp (.inr (by rw [hs];omega))) r ?_
  exact Rw.step rfl (hN.first hw) (hb.t1 (s + 1) hKb hno) hr
 have hs7 : s <= 7:=by rcases hrow with rfl | rfl | rfl | rfl <;> omega
 refine It.mk' hs7 (fun hno=>h2 (hno.up (by omega)) _ (Rw.stop (hno.first ?_))) (fun _=>h2) (fun h=>ha.hn (by omega)) (fun h=>?_)
 ·rcases hrow with rfl | rfl | rfl | rfl <;> decide
 ·rcases hrow with rfl | rfl | rfl | rfl <;> omega
theorem It.cmp {toks : List D} {a m b Ka Kb : Nat} {w : List UInt8} {x y : D} (hw : w ∈ cmpW) (hs : stI w = 3) (hN : Nxt toks (m,0) w) (ha : It toks a m Ka x) (hKa : 4 <= Ka) (hb : It toks (m + 1) b Kb y) (hKb : 4 <= Kb) : It toks a b 3 (twoD w x y):=by
 refine It.mk' (by omega) (fun hno=>?_) (fun h=>?_) (fun _=>ha.hn (by omega)) (fun h=>by omega)
 ·exact Pr.cmp1 (ha.t1 4 hKa (hN.noOp (.inr (by rw [hs];decide)))) rfl (hN.first hw) (hb.t1 4 hKb (hno.up (by omega)))
 ·rcases h with h | h | h | h <;> cases h
theorem It.not {toks : List D} {a b K : Nat} {x : D} (hN : Nxt toks (a,0) wNot) (h : It toks (a + 1) b K x) (hK : 2 <= K) : It toks a b 2 (oneD wNot x):=by
 refine It.mk' (by omega) (fun hno=>?_) (fun h=>?_) (fun h=>by omega) (fun h=>by omega)
 ·exact Pr.not1 rfl (by rw [hN];simp) (h.t1 2 hK hno)
 ·rcases h with h | h | h | h <;> cases h
theorem It.neg {toks : List D} {a b K : Nat} {x : D} (hN : Nxt toks (a,0) [45]) (h : It toks (a + 1) b K x) (hK : 6 <= K) : It toks a b 6 (oneD wNeg x):=by
 refine It.mk' (by omega) (fun hno=>?_) (fun h=>?_) (fun _=>hN.ne (by decide)) (fun h=>by omega)
 ·exact Pr.neg1 rfl (by rw [hN];simp) (h.t1 6 hK hno)
 ·rcases h with h | h | h | h <;> cases h
theorem It.leaf {toks : List D} {a b : Nat} {x : D} (h : Pr .plain toks (a,0) (x,(b,0))) (h1 : isP toks (a,0) wNot = false) (h2 : isP toks (a,0) [45] = false) : It toks a b 7 x :=
 It.mk' (Nat.le_refl _) (fun _=>h) (fun h=>by rcases h with h | h | h | h <;> cases h) (fun _=>h1) (fun _=>h2)
def sm : Nat -> D -> D -> Prop
 | 0,_,_=>False
 | n + 1,x,e=>eop x = eop e /\ ewho x = ewho e /\ ename x = ename e /\ sameB (eV x) (eV e) = true /\ (∀ y ∈ vl (eV x),vl y = []) /\ (eps x).length = (eps e).length /\ ∀ (i : Nat) (y z : D),(eps x)[i]? = some y -> (eps e)[i]? = some z -> sm n y z
theorem sm_S : ∀ (n : Nat) (x e : D),sm n x e -> sm (n + 1) x e
 | 0,_,_,h=>h.elim
 | n + 1,x,e,⟨h1,h2,h3,h4,h5,h6,h7⟩=>⟨h1,h2,h3,h4,h5,h6,fun i y z hy hz=>sm_S n y z (h7 i y z hy hz)⟩
theorem sm_le {n m : Nat} (h : n <= m) {x e : D} (k : sm n x e) : sm m x e:=by
 induction h with
 | refl=>exact k
 | step _ ih=>exact sm_S _ _ _ ih
def Sm (x e : D) : Prop:=∃ n,sm n x e
theorem sameB_zero {v : D} (h : sameB v zeroV = true) : sameB zeroV v = true:=by
 unfold sameB at h ⊢
 split at h
 ·cases h
 ·rename_i g
  simp only [Bool.or_eq_true,not_or,bne_iff_ne,ne_eq,Decidable.not_not,Bool.not_eq_true',Bool.not_eq_false,beq_iff_eq] at g
  obtain ⟨⟨⟨g1,g2⟩,g3⟩,g4⟩:=g
  rw [if_neg (by simp [g1,g2,g3,g4])]
  rfl
theorem fm_rest {e : D} (h : fmTop e = true) (g1 : (eop e == sVal) = false) : sameB zeroV (eV e) = true /\ ((eop e == sAttr) = false -> (eop e == sHas) = false -> (eop e == sRole) = false -> ewho e = [] /\ ename e = []) ∧
  ((eop e == sAttr) = true ∨ (eop e == sHas) = true -> inB whoW (ewho e) = true /\ nameB (ename e) = true) /\ ((eop e == sAttr) = false -> (eop e == sHas) = false -> (eop e == sRole) = true -> ewho e = [] /\ formI 3 (ename e) 0 = true):=by
 unfold fmTop at h
 rw [if_neg (by rw [g1];decide)] at h
 split at h
 ·cases h
 ·rename_i g
  have g : sameB (eV e) zeroV = true:=by simpa using g
  refine ⟨sameB_zero g,fun a1 a2 a3=>?_,fun a=>?_,fun a1 a2 a3=>?_⟩
  ·rw [a1,a2,a3] at h
   simp only [Bool.or_self,Bool.false_eq_true,if_false,Bool.and_eq_true,beq_iff_eq] at h
   exact h
  ·rw [if_pos (by rw [Bool.or_eq_true];exact a)] at h
   simpa using h
  ·rw [a1,a2,a3] at h
   simp only [Bool.or_self,Bool.false_eq_true,if_false,if_true,Bool.and_eq_true,beq_iff_eq] at h
   exact h
theorem Sm.two {e x y : D} (hg : GoodE e) (h2 : isOp2 (eop e)) (hx : Sm x (sub0 e)) (hy : Sm y (sub1 e)) : Sm (twoD (eop e) x y) e:=by
 obtain ⟨n,hn⟩:=hx
 obtain ⟨m,hm⟩:=hy
 obtain ⟨_,_,_,_,he⟩:=hg.two h2
 obtain ⟨g1,g2,g3,g4,g5,g6,g7,g8⟩:=op2_not h2
 obtain ⟨q1,q2,_,_⟩:=fm_rest hg.parts.2.2.2 g1
 obtain ⟨q3,q4⟩:=q2 g3 g4 g5
 refine ⟨max n m + 1,rfl,q3.symm,q4.symm,q1,(fun y hy=>by cases hy),by rw [he];rfl,fun i u v hu hv=>?_⟩
 rw [he] at hv
 have hu : ([x,y] : List D)[i]? = some u:=hu
 match i with
 | 0=>simp at hu hv;subst hu;subst hv;exact sm_le (by omega) hn
 | 1=>simp at hu hv;subst hu;subst hv;exact sm_le (by omega) hm
 | i + 2=>simp at hu
theorem Sm.one {e x : D} (hg : GoodE e) (h1 : (eop e == sSize) = true ∨ (eop e == sNot) = true ∨ (eop e == sNeg) = true) (hx : Sm x (sub0 e)) : Sm (oneD (eop e) x) e:=by
 obtain ⟨n,hn⟩:=hx
 obtain ⟨_,z,he,hz⟩:=hg.one h1
 have hne : (eop e == sVal) = false /\ (eop e == sAttr) = false /\ (eop e == sHas) = false /\ (eop e == sRole) = false:=by
  rcases h1 with h1 | h1 | h1 <;> (rw [eq_of_beq' h1];decide)
 obtain ⟨g1,g3,g4,g5⟩:=hne
 obtain ⟨q1,q2,_,_⟩:=fm_rest hg.parts.2.2.2 g1
 obtain ⟨q3,q4⟩:=q2 g3 g4 g5
 refine ⟨n + 1,rfl,q3.symm,q4.symm,q1,(fun y hy=>by cases hy),by rw [he];rfl,fun i u v hu hv=>?_⟩
 rw [he] at hv
 have hu : ([x] : List D)[i]? = some u:=hu
 match i with
 | 0=>simp at hu hv;subst hu;subst hv;rw [<- hz];exact hn
 | i + 1=>simp at hu
theorem eps_nil {e : D} (hg : GoodE e) (h0 : arN (eop e) = 0) : eps e = []:=by
 have:=hg.parts.2.1
 rw [h0] at this
 exact List.eq_nil_of_length_eq_zero (by omega)
theorem Sm.leaf {e : D} {who name : List UInt8} (hg : GoodE e) (hv : (eop e == sVal) = false) (h0 : arN (eop e) = 0) (hw : ewho e = who) (hn : ename e = name) : Sm (leafD (eop e) who name) e:=by
 obtain ⟨q1,_⟩:=fm_rest hg.parts.2.2.2 hv
 have he:=eps_nil hg h0
 exact ⟨1,rfl,hw.symm,hn.symm,q1,(fun y hy=>by cases hy),by rw [he];rfl,fun i u v _ hv'=>by rw [he] at hv';cases hv'⟩
theorem ops2_of {op : List UInt8} (h : isOp2 op) : op ∈ ops2:=by
 unfold isOp2 stI at h
 cases e1 : inB [wOr] op with
 | true=>have:=inB_mem2 e1;simp only [List.mem_singleton] at this;subst this;decide
 | false =>
 cases e2 : inB [wAnd] op with
 | true=>have:=inB_mem2 e2;simp only [List.mem_singleton] at this;subst this;decide
 | false =>
 cases e3 : inB cmpW op with
 | true =>
  have:=inB_mem2 e3
  have key : ∀ w ∈ cmpW,w ∈ ops2:=by decide
  exact key op this
 | false =>
 cases e4 : inB [[43],[45]] op with
 | true =>
  have:=inB_mem2 e4
  have key : ∀ w ∈ ([[43],[45]] : List (List UInt8)),w ∈ ops2:=by decide
  exact key op this
 | false =>
 cases e5 : inB [[42]] op with
 | true=>have:=inB_mem2 e5;simp only [List.mem_singleton] at this;subst this;decide
 | false =>
 rw [e1,e2,e3,e4,e5] at h
 simp only [Bool.false_eq_true,if_false] at h
 (repeat' split at h) <;> omega
end GP
namespace GP
open Go Go.Proofs
set_option maxRecDepth 100000
theorem cmpS_self' : ∀ (s : List UInt8),cmpS s s = 0
 | []=>rfl
 | c :: s=>by simp only [cmpS,Nat.lt_irrefl,if_false];exact cmpS_self' s
theorem sameEl_p {x y : D} (h : sameEl x y = true) : vk x = vk y /\ vi x = vi y /\ vs x = vs y /\ vl x = [] /\ vl y = []:=by
 unfold sameEl at h
 simp only [Bool.and_eq_true,beq_iff_eq,Bool.not_eq_true',decide_eq_false_iff_not] at h
 obtain ⟨⟨⟨⟨h1,h2⟩,h3⟩,h4⟩,h5⟩:=h
 exact ⟨h1,h2,h3,List.eq_nil_of_length_eq_zero (by omega),List.eq_nil_of_length_eq_zero (by omega)⟩
theorem ord0_of {x y : D} (h1 : vk x = vk y) (h2 : vi x = vi y) (h3 : vs x = vs y) (f : D -> D -> Int) (h4 : cmpL f (vl x) (vl y) = 0) : ordW f x y = 0:=by
 unfold ordW
 rw [h1,h2,h3,cmpI_self,cmpI_self,cmpS_self',h4];rfl
theorem cmpL_zero2 {f : D -> D -> Int} : ∀ (xs ys : List D),xs.length = ys.length -> (∀ (i : Nat) (x y : D),xs[i]? = some x -> ys[i]? = some y -> f x y = 0) -> cmpL f xs ys = 0
 | [],[],_,_=>rfl
 | [],_ :: _,h,_=>by simp at h
 | _ :: _,[],h,_=>by simp at h
 | x :: xs,y :: ys,hl,h=>by
  simp only [cmpL]
  rw [h 0 x y rfl rfl,cmpL_zero2 xs ys (by simpa using hl) fun i u v hu hv=>h (i + 1) u v hu hv];rfl
theorem sameB_p {x y : D} (h : sameB x y = true) : vk x = vk y /\ vi x = vi y /\ vs x = vs y /\ (vl x).length = (vl y).length /\ ∀ (i : Nat) (u v : D),(vl x)[i]? = some u -> (vl y)[i]? = some v -> sameEl u v = true:=by
 unfold sameB at h
 split at h
 ·cases h
 ·rename_i g
  simp only [Bool.or_eq_true,not_or,bne_iff_ne,ne_eq,Decidable.not_not,Bool.not_eq_true',Bool.not_eq_false,beq_iff_eq] at g
  obtain ⟨⟨⟨g1,g2⟩,g3⟩,g4⟩:=g
  refine ⟨g1,g2,g3,g4,fun i u v hu hv=>?_⟩
  have:=List.all_eq_true.1 h i (by simpa using lt_of_get hu)
  unfold okSame at this
  rw [hu,hv] at this
  exact this
theorem sameB_ord {x y : D} (h : sameB x y = true) : ordW ord0 x y = 0:=by
 obtain ⟨h1,h2,h3,h4,h5⟩:=sameB_p h
 refine ord0_of h1 h2 h3 _ (cmpL_zero2 _ _ h4 fun i u v hu hv=>?_)
 obtain ⟨e1,e2,e3,e4,e5⟩:=sameEl_p (h5 i u v hu hv)
 refine ord0_of e1 e2 e3 _ ?_
 rw [e4,e5];rfl
def nd : Nat -> D -> Nat
 | 0,_=>0
 | n + 1,e=>((eps e).map (nd n)).sum + 1
theorem sum_mem {f : D -> Nat} : ∀ {l : List D} {x : D},x ∈ l -> f x <= (l.map f).sum
 | a :: l,x,h=>by
  rw [List.map_cons,List.sum_cons]
  rcases List.mem_cons.1 h with rfl | h
  ·omega
  ·have:=sum_mem (f:=f) h;omega
theorem isE_nd : ∀ (n : Nat) (e : D),isE n e -> isE (nd n e) e
 | 0,_,h=>h.elim
 | n + 1,e,⟨op,k,i,s,nl,l,who,name,m,ps,he,h1,h2,h3,h4,h5,h6⟩=>by
  subst he
  have e1 : eps (mkE op k i s nl l who name m ps) = ps:=eps_mk ..
  simp only [nd,e1]
  exact ⟨op,k,i,s,nl,l,who,name,m,ps,rfl,h1,h2,h3,h4,h5,fun x hx=>isE_le (sum_mem hx) (isE_nd n x (h6 x hx))⟩
theorem szL_nd {f : D -> Int -> Int} {g : D -> Nat} {m : Int} (h0 : 0 <= m) (h60 : m <= 60) : ∀ (l : List D) (n : Int),1 <= n -> n <= m + 1 -> (∀ x ∈ l,∀ k : Int,0 <= k -> k <= 60 -> 1 <= f x k /\ f x k <= k + 1 /\ (f x k <= k -> f x k = (g x : Nat))) →
  n <= szL f l m n /\ szL f l m n <= m + 1 /\ (szL f l m n <= m -> szL f l m n = n + ((l.map g).sum : Nat))
 | [],n,h1,h2,_=>by simp only [szL,List.map_nil,List.sum_nil];omega
 | x :: l,n,h1,h2,hf=>by
  simp only [szL,List.map_cons,List.sum_cons]
  by_cases hn : n <= m
  ·rw [if_pos (by simpa using hn)]
   have w1 : IntKind.i64.wrap (m - n) = m - n:=wrap_of _ (by omega) (by omega)
   obtain ⟨f1,f2,f3⟩:=hf x (by simp) (m - n) (by omega) (by omega)
   have w2 : IntKind.i64.wrap (n + f x (m - n)) = n + f x (m - n):=wrap_of _ (by omega) (by omega)
   rw [w1,w2]
   obtain ⟨i1,i2,i3⟩:=szL_nd h0 h60 l (n + f x (m - n)) (by omega) (by omega) (fun y hy=>hf y (by simp [hy]))
   refine ⟨by omega,i2,fun q=>?_⟩
   have q1:=i3 q
   have q2:=f3 (by omega)
   omega
  ·rw [if_neg (by simpa using hn)];omega
theorem sizeE_nd : ∀ (n : Nat) (e : D),isE n e -> ∀ m : Int,0 <= m -> m <= 60 -> 1 <= sizeE n e m /\ sizeE n e m <= m + 1 /\ (sizeE n e m <= m -> sizeE n e m = (nd n e : Nat))
 | 0,_,h=>h.elim
 | n + 1,e,h=>fun m h0 h60=>by
  obtain ⟨i1,i2,i3⟩:=szL_nd (f:=sizeE n) (g:=nd n) h0 h60 (eps e) 1 (by omega) (by omega) (fun x hx k k0 k1=>sizeE_nd n x (isE_eps h x hx) k k0 k1)
  simp only [sizeE,nd]
  refine ⟨i1,i2,fun q=>?_⟩
  rw [i3 q];omega
theorem litT_le' {v : D} (h : valB v = true) : (litT v).length <= 2 ^ 22 - 2:=by
 unfold litT
 split
 ·have:=litT1_le v;omega
 ·rename_i g
  rcases valB_dom h with q | ⟨_,q⟩
  ·exact absurd q g
  ·have:=cmL_le (f:=litT1) (b:=2) (vl v) fun x _=>litT1_le x
   simp only [List.length_cons,List.length_append,List.length_nil]
   omega
theorem parW_len (full : Bool) (s s' : Int) (l : List D) : (parW full s s' l).length <= l.length + 2:=by unfold parW;split <;> simp
theorem tk_size_le {full : Bool} : ∀ (n : Nat) (e : D),isE n e -> GoodE e -> (tkC full e).length + 2 <= 2 ^ 22 * nd n e
 | 0,_,h,_=>h.elim
 | n + 1,e,h,hg=>by
  have hS : nd (n + 1) e = ((eps e).map (nd n)).sum + 1:=rfl
  have one : ∀ x,eps e = [x] -> nd (n + 1) e = nd n x + 1:=fun x hx=>by rw [hS,hx];simp
  have leafy : 2 ^ 22 <= 2 ^ 22 * nd (n + 1) e:=by rw [hS,Nat.mul_add];omega
  rcases hg.op with g | g | g | g | g | g | g | g | g
  ·have:=litT_le' (fmTop_val hg.parts.2.2.2 g).1
   rw [tk_val hg g];omega
  ·rw [tk_now hg g];simp only [List.length_cons,List.length_nil];omega
  ·rw [tk_attr hg g];simp only [List.length_cons,List.length_nil];omega
  ·rw [tk_has hg g];simp only [List.length_cons,List.length_nil];omega
  ·rw [tk_role hg g];simp only [List.length_cons,List.length_nil];omega
  ·obtain ⟨h1,x,hx,hs⟩:=hg.one (.inl g)
   have ih:=tk_size_le (full:=full) n (sub0 e) (isE_eps h _ (by rw [hx,hs];simp)) h1
   rw [tk_size hg g,one x hx,← hs,Nat.mul_add]
   simp only [List.length_cons,List.length_append,List.length_nil];omega
  ·obtain ⟨h1,x,hx,hs⟩:=hg.one (.inr (.inl g))
   have ih:=tk_size_le (full:=full) n (sub0 e) (isE_eps h _ (by rw [hx,hs];simp)) h1
   have p:=parW_len full (stI (eop (sub0 e))) 2 (tkC full (sub0 e))
   rw [tk_not hg g,one x hx,← hs,Nat.mul_add]
   simp only [List.length_cons];omega
  ·obtain ⟨h1,x,hx,hs⟩:=hg.one (.inr (.inr g))
   have ih:=tk_size_le (full:=full) n (sub0 e) (isE_eps h _ (by rw [hx,hs];simp)) h1
   have p:=parW_len full (stI (eop (sub0 e))) 6 (tkC full (sub0 e))
   rw [tk_neg hg g,one x hx,← hs,Nat.mul_add]
   simp only [List.length_cons];omega
  ·obtain ⟨k0,k1,m0,m1,he⟩:=hg.two g
   have i0:=tk_size_le (full:=full) n (sub0 e) (isE_eps h _ m0) k0
   have i1:=tk_size_le (full:=full) n (sub1 e) (isE_eps h _ m1) k1
   have p0:=parW_len full (stI (eop (sub0 e))) (lstS (eop e)) (tkC full (sub0 e))
   have p1:=parW_len full (stI (eop (sub1 e))) (stI (eop e) + 1) (tkC full (sub1 e))
   have e2 : nd (n + 1) e = nd n (sub0 e) + nd n (sub1 e) + 1:=by rw [hS,he];simp
   rw [tk_two hg g,e2,Nat.mul_add,Nat.mul_add]
   simp only [List.length_cons,List.length_append];omega
theorem few_facts {n : Nat} {e : D} (h : isE n e) (hf : fewEx n e = true) : nd n e <= 60 /\ isE nodeB e:=by
 unfold fewEx at hf
 simp only [Bool.and_eq_true,decide_eq_true_eq] at hf
 obtain ⟨_,_,h3⟩:=sizeE_nd n e h 60 (by omega) (by omega)
 have h60 : nd n e <= 60:=by have:=h3 hf.1;omega
 refine ⟨h60,isE_le ?_ (isE_nd n e h)⟩
 have : ∀ f,f <= lvB f:=fun f=>by
  induction f with
  | zero=>exact Nat.zero_le _
  | succ f ih=>simp only [lvB];omega
 have:=this 10000
 unfold nodeB;omega
end GP
namespace GP
open Go
theorem W_each {X : Pred} {c : C} {Q : Ex -> S -> Prop} {s : S} (xs : List D) (J : Nat -> S -> Prop) (hX : Mono X) (h0 : J 0 s) (step : ∀ i x s,xs[i]? = some x -> x ∈ xs -> i < xs.length -> J i s -> W X c (seqK (J (i + 1)) Q) s) (fin : ∀ s,J xs.length s -> W X c (seqK (fun _=>False) Q) s) : W X (.loop c) Q s:=by
 refine W_for (fun i s=>i <= xs.length /\ J i s) xs.length ⟨0,Nat.zero_le _,h0⟩ (fun i s h=>h.1) (fun i s h=>?_) hX
 rcases Nat.lt_or_ge i xs.length with hi | hi
 ·refine W_mono hX ?_ (step i xs[i] s (by simp [hi]) (List.getElem_mem hi) hi h.2)
  intro e s' k
  cases e with
  | normal=>exact ⟨hi,k⟩
  | exit j=>exact k
  | ret=>exact k
 ·have : i = xs.length:=by omega
  subst this
  refine W_mono hX ?_ (fin s h.2)
  intro e s' k
  cases e with
  | normal=>exact k.elim
  | exit j=>exact k
  | ret=>exact k
theorem W_all {X : Pred} {c : C} {Q : Ex -> S -> Prop} {s : S} (xs : List D) (p : D -> Bool) (ti : Nat) (R : S -> Prop) (hX : Mono X) (h0 : R s) (h1 : s.t ti = .int .i64 ((0 : Nat) : Int))
  (step : ∀ i x s (b : Bool),xs[i]? = some x -> x ∈ xs -> i < xs.length -> R s -> s.t ti = .int .i64 (i : Int) -> p x = b -> (b = false -> xs.all p = false) -> W X c (seqK (fun s'=>b = true /\ R s' /\ s'.t ti = .int .i64 ((i + 1 : Nat) : Int)) Q) s)
  (fin : ∀ s,R s -> s.t ti = .int .i64 (xs.length : Int) -> xs.all p = true -> W X c (seqK (fun _=>False) Q) s) : W X (.loop c) Q s:=by
 refine W_each xs (fun i s=>R s /\ s.t ti = .int .i64 (i : Int) /\ (xs.take i).all p = true) hX ⟨h0,h1,by simp⟩ (fun i x s hx hm hi hJ=>?_) (fun s hJ=>?_)
 ·obtain ⟨j1,j2,j3⟩:=hJ
  refine W_mono hX ?_ (step i x s (p x) hx hm hi j1 j2 rfl fun hb=>?_)
  ·intro e s' k
   cases e with
   | normal =>
    obtain ⟨k1,k2,k3⟩:=k
    refine ⟨k2,k3,?_⟩
    have e : xs.take (i + 1) = xs.take i ++ [x]:=by
     rw [List.take_add_one,hx];rfl
    rw [e,List.all_append,j3]
    simp [k1]
   | exit j=>exact k
   | ret=>exact k
  ·rw [<- Bool.not_eq_true,List.all_eq_true]
   intro h
   rw [h x hm] at hb;cases hb
 ·obtain ⟨j1,j2,j3⟩:=hJ
  exact fin s j1 j2 (by rwa [List.take_length] at j3)
def accT (sz : Nat) (T : Tk) (xs : List D) (d : D) (T' : Tk) : Prop:=ExtT T T' /\ ((xs = [] /\ d = .nils) ∨ ∃ i,T.length <= i /\ d = .sl (some i) xs /\ T'[i]? = some (some (xs.length,sz)))
theorem accT.nil (sz : Nat) (T : Tk) {T' : Tk} (h : ExtT T T') : accT sz T [] .nils T':=⟨h,.inl ⟨rfl,rfl⟩⟩
theorem accT.app {sz : Nat} {T T' : Tk} {xs : List D} {d : D} (h : accT sz T xs d T') (L : Tk) : accT sz T xs d (T' ++ L):=by
 obtain ⟨h1,h2⟩:=h
 refine ⟨h1.app L,?_⟩
 rcases h2 with h2 | ⟨i,h2,h3,h4⟩
 ·exact .inl h2
 ·refine .inr ⟨i,h2,h3,?_⟩
  have : i < T'.length:=by
   rcases Nat.lt_or_ge i T'.length with h | h
   ·exact h
   ·rw [List.getElem?_eq_none h] at h4;cases h4
  rw [List.getElem?_append_left this];exact h4
theorem accT.mk (sz : Nat) (T : Tk) {T' : Tk} (h : ExtT T T') (xs : List D) (L : Tk) : accT sz T xs (.sl (some T'.length) xs) (T' ++ some (xs.length,sz) :: L):=by
 obtain ⟨M,rfl⟩:=h
 refine ⟨⟨M ++ some (xs.length,sz) :: L,by simp⟩,.inr ⟨_,by simp,rfl,by simp⟩⟩
theorem accT.erase {sz : Nat} {T T' : Tk} {xs : List D} {d : D} (h : accT sz T xs d T') (he : D.eraseL xs = xs) (h0 : xs ≠ []) : d.erase = .sl none xs:=by
 rcases h.2 with ⟨rfl,rfl⟩ | ⟨i,_,rfl,_⟩
 ·exact (h0 rfl).elim
 ·simp [D.erase,he]
theorem app_accT {sz bytes : Nat} {K : D -> S -> Prop} {t : Nat -> D} {H : Hp} {T T' : Tk} {xs : List D} {d : D} (ys : List D) (h : accT sz T xs d T') (hy : ys.all (fit sz) = true) (hxs : xs.all (fit sz) = true) (hb : (xs.length + ys.length) * bytes <= 2 ^ 47) (hb2 : xs.length + ys.length < 2 ^ 62)
  (k : ∀ d2 T2,accT sz T (xs ++ ys) d2 T2 -> K d2 ⟨t,H,T2⟩) : appK sz bytes K ⟨t,H,T'⟩ d (some ys):=by
 obtain ⟨h1,h2⟩:=h
 rcases h2 with ⟨rfl,rfl⟩ | ⟨i,hi,rfl,hT⟩
 ·simp only [appK]
  refine ⟨hy,?_⟩
  simp only [List.nil_append,List.length_nil,Nat.zero_add] at k hb hb2
  split
  ·rename_i e;subst e;exact k _ _ (.nil sz T h1)
  ·exact ⟨hb,hb2,k _ _ (.mk sz T h1 ys [])⟩
 ·simp only [appK]
  refine ⟨hy,hT,hb,hb2,hxs,k _ _ ⟨?_,.inr ⟨i,hi,rfl,?_⟩⟩⟩
  ·obtain ⟨L,rfl⟩:=h1
   exact ⟨L.set (i - T.length) (some (xs.length + ys.length,sz)),by rw [List.set_append_right _ _ hi]⟩
  ·have : i < T'.length:=by
    rcases Nat.lt_or_ge i T'.length with h | h
    ·exact h
    ·rw [List.getElem?_eq_none h] at hT;cases hT
   rw [List.getElem?_set_self this];simp
end GP
namespace GP
open Go Go.Proofs
set_option maxRecDepth 100000
def cE (e : D) (i : Nat) : D:=e.cells.getD i .top
theorem ag_isE {n : Nat} {e : D} (h : isE n e) : D.agg [cE e 0,cE e 1,cE e 2,cE e 3,cE e 4,cE e 5,cE e 6,cE e 7] = e:=by
 cases n with
 | zero=>exact h.elim
 | succ n=>obtain ⟨op,k,i,s,nl,l,who,name,m,ps,rfl,_⟩:=h;rfl
def mkR (pm hi : Bool) (nm : List UInt8) (e : D) (m m' : Bool) (du ad : List (List UInt8)) : D:=.agg [.bool pm,.str nm,.bool hi,cE e 0,cE e 1,cE e 2,cE e 3,cE e 4,cE e 5,cE e 6,cE e 7,sliceD m (du.map D.str),sliceD m' (ad.map D.str)]
def short47 (l : List (List UInt8)) : Prop:=l.length <= 2 ^ 47 /\ ∀ s ∈ l,s.length <= 2 ^ 47
def isR (n : Nat) (r : D) : Prop:=∃ pm hi nm e m m' du ad,r = mkR pm hi nm e m m' du ad /\ isE n e /\ nm.length <= 2 ^ 47 /\ short47 du /\ short47 ad
def rPm : D -> Bool
 | .agg (.bool b :: _)=>b
 | _=>false
def rNm : D -> List UInt8
 | .agg (_ :: .str s :: _)=>s
 | _=>[]
def rHi : D -> Bool
 | .agg (_ :: _ :: .bool b :: _)=>b
 | _=>false
def rE : D -> D
 | .agg (_ :: _ :: _ :: a0 :: a1 :: a2 :: a3 :: a4 :: a5 :: a6 :: a7 :: _)=>.agg [a0,a1,a2,a3,a4,a5,a6,a7]
 | _=>.top
def rDu : D -> List (List UInt8)
 | .agg (_ :: _ :: _ :: _ :: _ :: _ :: _ :: _ :: _ :: _ :: _ :: l :: _)=>txs l
 | _=>[]
def rAd : D -> List (List UInt8)
 | .agg (_ :: _ :: _ :: _ :: _ :: _ :: _ :: _ :: _ :: _ :: _ :: _ :: l :: _)=>txs l
 | _=>[]
section
variable (pm hi : Bool) (nm : List UInt8) (e : D) (m m' : Bool) (du ad : List (List UInt8))
theorem rPm_mk : rPm (mkR pm hi nm e m m' du ad) = pm:=id rfl
theorem rNm_mk : rNm (mkR pm hi nm e m m' du ad) = nm:=id rfl
theorem rHi_mk : rHi (mkR pm hi nm e m m' du ad) = hi:=id rfl
theorem rE_mk {n : Nat} (h : isE n e) : rE (mkR pm hi nm e m m' du ad) = e:=ag_isE h
theorem rDu_mk : rDu (mkR pm hi nm e m m' du ad) = du:=by simp only [rDu,mkR,txs_mk]
theorem rAd_mk : rAd (mkR pm hi nm e m m' du ad) = ad:=by simp only [rAd,mkR,txs_mk]
end
theorem eraseE8 {n : Nat} {e : D} (h : isE n e) : (cE e 0).erase = cE e 0 /\ (cE e 1).erase = cE e 1 /\ (cE e 2).erase = cE e 2 /\ (cE e 3).erase = cE e 3 /\ (cE e 4).erase = cE e 4 /\ (cE e 5).erase = cE e 5 /\ (cE e 6).erase = cE e 6 /\ (cE e 7).erase = cE e 7:=by
 have:=isE_erase h
 rw [<- ag_isE h] at this
 simpa only [D.erase,D.eraseL,D.agg.injEq,List.cons.injEq,and_true] using this
theorem sl_str_erase (m : Bool) (l : List (List UInt8)) : (sliceD m (l.map D.str)).erase = sliceD m (l.map D.str):=by rw [erase_sliceD,strs_erase]
theorem isR_erase {n : Nat} {r : D} (h : isR n r) : r.erase = r:=by
 obtain ⟨pm,hi,nm,e,m,m',du,ad,rfl,he,_⟩:=h
 obtain ⟨q0,q1,q2,q3,q4,q5,q6,q7⟩:=eraseE8 he
 simp only [mkR,D.erase,D.eraseL,sl_str_erase,q0,q1,q2,q3,q4,q5,q6,q7]
theorem isR_cells {n : Nat} {r : D} (h : isR n r) : r.cells.length = 13 /\ r.cells.take 13 = r.cells /\ D.agg r.cells = r /\ r.okc = true:=by
 obtain ⟨pm,hi,nm,e,m,m',du,ad,rfl,_⟩:=h
 exact ⟨rfl,rfl,rfl,rfl⟩
def mkP (nm bn us : List UInt8) (hf : Bool) (e : D) (m : Bool) (rs : List D) : D:=.agg [.str nm,.str bn,.str us,.bool hf,cE e 0,cE e 1,cE e 2,cE e 3,cE e 4,cE e 5,cE e 6,cE e 7,sliceD m rs]
def isPo (n : Nat) (p : D) : Prop:=∃ nm bn us hf e m rs,p = mkP nm bn us hf e m rs /\ isE n e /\ nm.length <= 2 ^ 47 /\ bn.length <= 2 ^ 47 /\ us.length <= 2 ^ 47 /\ rs.length <= 2 ^ 47 /\ ∀ x ∈ rs,isR n x
def pNm : D -> List UInt8
 | .agg (.str s :: _)=>s
 | _=>[]
def pBy : D -> List UInt8
 | .agg (_ :: .str s :: _)=>s
 | _=>[]
def pUs : D -> List UInt8
 | .agg (_ :: _ :: .str s :: _)=>s
 | _=>[]
def pHf : D -> Bool
 | .agg (_ :: _ :: _ :: .bool b :: _)=>b
 | _=>false
def pE : D -> D
 | .agg (_ :: _ :: _ :: _ :: a0 :: a1 :: a2 :: a3 :: a4 :: a5 :: a6 :: a7 :: _)=>.agg [a0,a1,a2,a3,a4,a5,a6,a7]
 | _=>.top
def pRs : D -> List D
 | .agg (_ :: _ :: _ :: _ :: _ :: _ :: _ :: _ :: _ :: _ :: _ :: _ :: l :: _)=>elems l
 | _=>[]
section
variable (nm bn us : List UInt8) (hf : Bool) (e : D) (m : Bool) (rs : List D)
theorem pNm_mk : pNm (mkP nm bn us hf e m rs) = nm:=id rfl
theorem pBy_mk : pBy (mkP nm bn us hf e m rs) = bn:=id rfl
theorem pUs_mk : pUs (mkP nm bn us hf e m rs) = us:=id rfl
theorem pHf_mk : pHf (mkP nm bn us hf e m rs) = hf:=id rfl
theorem pE_mk {n : Nat} (h : isE n e) : pE (mkP nm bn us hf e m rs) = e:=ag_isE h
theorem pRs_mk : pRs (mkP nm bn us hf e m rs) = rs:=by simp only [pRs,mkP,elems_sliceD]
end
theorem isPo_erase {n : Nat} {p : D} (h : isPo n p) : p.erase = p:=by
 obtain ⟨nm,bn,us,hf,e,m,rs,rfl,he,_,_,_,_,hr⟩:=h
 obtain ⟨q0,q1,q2,q3,q4,q5,q6,q7⟩:=eraseE8 he
 simp only [mkP,D.erase,D.eraseL,erase_sliceD,eraseL_id fun x hx=>isR_erase (hr x hx),q0,q1,q2,q3,q4,q5,q6,q7]
theorem isPo_cells {n : Nat} {r : D} (h : isPo n r) : r.cells.length = 13 /\ r.cells.take 13 = r.cells /\ D.agg r.cells = r /\ r.okc = true:=by
 obtain ⟨nm,bn,us,hf,e,m,rs,rfl,_⟩:=h
 exact ⟨rfl,rfl,rfl,rfl⟩
def mkDoc (m : Bool) (fs : List D) (us : List UInt8) (m' : Bool) (ps : List D) : D:=.agg [sliceD m fs,.str us,sliceD m' ps]
def isDoc (n : Nat) (d : D) : Prop:=∃ m fs us m' ps,d = mkDoc m fs us m' ps /\ fs.length <= 2 ^ 47 /\ us.length <= 2 ^ 47 /\ ps.length <= 2 ^ 47 /\ (∀ x ∈ fs,isF x) /\ ∀ x ∈ ps,isPo n x
def dFs : D -> List D
 | .agg (l :: _)=>elems l
 | _=>[]
def dUs : D -> List UInt8
 | .agg (_ :: .str s :: _)=>s
 | _=>[]
def dPs : D -> List D
 | .agg (_ :: _ :: l :: _)=>elems l
 | _=>[]
section
variable (m : Bool) (fs : List D) (us : List UInt8) (m' : Bool) (ps : List D)
theorem dFs_mk : dFs (mkDoc m fs us m' ps) = fs:=by simp only [dFs,mkDoc,elems_sliceD]
theorem dUs_mk : dUs (mkDoc m fs us m' ps) = us:=id rfl
theorem dPs_mk : dPs (mkDoc m fs us m' ps) = ps:=by simp only [dPs,mkDoc,elems_sliceD]
end
theorem isDoc_erase {n : Nat} {d : D} (h : isDoc n d) : d.erase = d:=by
 obtain ⟨m,fs,us,m',ps,rfl,_,_,_,hf,hp⟩:=h
 simp only [mkDoc,D.erase,D.eraseL,erase_sliceD,eraseL_id fun x hx=>isF_erase (hf x hx),eraseL_id fun x hx=>isPo_erase (hp x hx)]
theorem isDoc_cells {n : Nat} {r : D} (h : isDoc n r) : r.cells.length = 3 /\ r.cells.take 3 = r.cells /\ D.agg r.cells = r /\ r.okc = true:=by
 obtain ⟨m,fs,us,m',ps,rfl,_⟩:=h
 exact ⟨rfl,rfl,rfl,rfl⟩
theorem isF_cells {r : D} (h : isF r) : r.cells.length = 4 /\ r.cells.take 4 = r.cells /\ D.agg r.cells = r /\ r.okc = true:=by
 obtain ⟨_,_,_,_,rfl,_⟩:=h
 exact ⟨rfl,rfl,rfl,rfl⟩
def gt (n : Int) (k : Nat) : Bool:=decide (n < (k : Int))
def fewR (n : Nat) (r : D) : Bool:=fewEx n (rE r) && !gt 4 (rDu r).length && !gt 4 (rAd r).length
def fewP (n : Nat) (p : D) : Bool:=!gt 8 (pRs p).length && fewEx n (pE p) && (pRs p).all (fewR n)
def fewD (n : Nat) (d : D) : Bool:=!gt 12 (dFs d).length && !gt 6 (dPs d).length && !gt 200 (dUs d).length && (dPs d).all (fewP n)
open Classical in
noncomputable def φfewD (n : Nat) : List D -> Option D
 | [d]=>if isDoc n d then some (.bool (fewD n d)) else none
 | _=>none
set_option maxHeartbeats 4000000 in
theorem ok28 (n : Nat) : OkAt Tryz.prog 28 (φfewD n):=by
 refine ok_of (l:=[(25,φfewE n)]) (.cons (ok25 n) .nil) fn28 fun args r h=>?_
 have hX:=XL_mono [(25,φfewE n)]
 unfold φfewD at h
 split at h
 ·rename_i d
  split at h
  ·rename_i hd
   injection h with h;subst h
   refine ⟨by simp,by simp [D.cl],fun H T=>?_⟩
   have ed:=isDoc_erase hd
   obtain ⟨m,fs,us,m',ps,rfl,h1,h2,h3,h4,h5⟩:=hd
   simp only [mkDoc] at ed
   simp only [fewD,dFs_mk,dUs_mk,dPs_mk,gt]
   rcases tf (decide ((12 : Int) < fs.length)) with g1 | g1
   ·rw [g1];simp +contextual (maxSteps:=10000000) only [c28,mkDoc,ed,g1,go_sem]
   rcases tf (decide ((6 : Int) < ps.length)) with g2 | g2
   ·rw [g1,g2];simp +contextual (maxSteps:=10000000) only [c28,mkDoc,ed,g1,g2,go_sem]
   rcases tf (decide ((200 : Int) < us.length)) with g3 | g3
   ·rw [g1,g2,g3];simp +contextual (maxSteps:=10000000) only [c28,mkDoc,ed,g1,g2,g3,go_sem]
   rw [g1,g2,g3]
   simp only [Bool.not_false,Bool.true_and]
   simp +contextual (maxSteps:=10000000) only [c28,mkDoc,ed,g1,g2,g3,go_sem]
   refine W_all ps (fewP n) 3 (fun s=>s.t 1 = .ptr H.length 0 /\ Ext (H ++ [.row [sliceD m fs,.str us,sliceD m' ps]]) s.H /\ s.T = T) hX ⟨by simp [upd],Ext.refl _,rfl⟩ (by simp [upd]) ?_ ?_
   ·rintro i x ⟨t,B,T'⟩ b hx hm hi ⟨r1,hB,rfl⟩ r3 hb hno
    simp only at r1 r3 hB
    have d1 : decide ((i : Int) < ps.length) = true:=by simpa using hi
    obtain ⟨q1,q2,q3,q4⟩:=isPo_cells (h5 x hm)
    have ex:=isPo_erase (h5 x hm)
    obtain ⟨nm,bn,us',hf,e,mm,rs,rfl,he,k1,k2,k3,k4,k5⟩:=h5 x hm
    have hE:=ag_isE he
    have ee:=isE_erase he
    have pe : φfewE n [e] = some (.bool (fewEx n e)):=by simp only [φfewE];rw [if_pos he]
    simp only [fewP,pRs_mk,pE_mk _ _ _ _ _ _ _ he,gt] at hb
    have hg:=hB.get (o:=H.length) (by simp;rfl)
    rcases tf (decide ((8 : Int) < rs.length)) with g4 | g4
    ·rw [g4] at hb
     simp only [Bool.not_true,Bool.false_and] at hb;subst hb
     have hno:=hno rfl
     simp +contextual (maxSteps:=10000000) only [r1,r3,rdAt_E hg,rdAt_Ea hg,d1,hx,mkP,g4,hno,leaves_Ea hB (ExtT.refl _),leaves_Ea hB.pre (ExtT.refl _),go_sem]
    rw [g4] at hb
    simp only [Bool.not_false,Bool.true_and] at hb
    rcases tf (fewEx n e) with g5 | g5
    ·rw [g5] at hb pe
     simp only [Bool.true_and] at hb
     simp +contextual (maxSteps:=10000000) only [r1,r3,rdAt_E hg,rdAt_Ea hg,d1,hx,mkP,g4,hE,ee,pe,go_sem]
     refine W_all rs (fewR n) 5 (fun s=>s.t 1 = .ptr H.length 0 /\ s.t 3 = .int .i64 (i : Int) /\ s.t 4 = .ptr B.length 0 /\ Ext (B ++ [.row (mkP nm bn us' hf e mm rs).cells]) s.H /\ s.T = T') hX ⟨by simp [upd,r1],by simp [upd,r3],by simp [upd],Ext.refl _,rfl⟩ (by simp [upd]) ?_ ?_
     ·rintro i' x' ⟨t',B',T''⟩ b' hx' hm' hi' ⟨s1,s3,s4,hB',rfl⟩ s5 hb' hno'
      simp only at s1 s3 s4 s5 hB'
      have d2 : decide ((i' : Int) < rs.length) = true:=by simpa using hi'
      obtain ⟨pm,hi'',nm',e',ma,mb,du,ad,rfl,he',l1,l2,l3⟩:=k5 x' hm'
      have hE':=ag_isE he'
      have ee':=isE_erase he'
      have pe' : φfewE n [e'] = some (.bool (fewEx n e')):=by simp only [φfewE];rw [if_pos he']
      simp only [fewR,rE_mk _ _ _ _ _ _ _ _ he',rDu_mk,rAd_mk,gt] at hb'
      have hg':=hB'.get (o:=B.length) (by simp;rfl)
      simp only [mkP,D.cells] at hg'
      have hno2 : b' = false -> ps.all (fewP n) = false:=fun h=>hno (by rw [<- hb,hno' h])
      have hB2 : Ext H B':=(hB.pre.trans hB'.pre)
      subst hb'
      rcases tf (fewEx n e') with g6 | g6
      ·rw [g6] at pe' hno2
       rcases tf (decide ((4 : Int) < du.length)) with g7 | g7
       ·have hno2:=hno2 (by rw [g7];rfl)
        simp +contextual (maxSteps:=10000000) only [s1,s3,s4,s5,rdAt_E hg',rdAt_Ea hg',d2,hx',mkR,hE',ee',pe',List.length_map,g7,hno2,leaves_Ea hB2 (ExtT.refl _),go_sem]
       rcases tf (decide ((4 : Int) < ad.length)) with g8 | g8
       ·have hno2:=hno2 (by rw [g7,g8];rfl)
        simp +contextual (maxSteps:=10000000) only [s1,s3,s4,s5,rdAt_E hg',rdAt_Ea hg',d2,hx',mkR,hE',ee',pe',List.length_map,g7,g8,hno2,leaves_Ea hB2 (ExtT.refl _),go_sem]
       ·simp +contextual (maxSteps:=10000000) only [s1,s3,s4,s5,rdAt_E hg',rdAt_Ea hg',d2,hx',mkR,hE',ee',pe',List.length_map,g6,g7,g8,wrap_succ i' (by omega),go_sem]
        exact hB'.app _
      ·rw [g6] at pe' hno2
       have hno2:=hno2 rfl
       simp +contextual (maxSteps:=10000000) only [s1,s3,s4,s5,rdAt_E hg',rdAt_Ea hg',d2,hx',mkR,hE',ee',pe',hno2,leaves_Ea hB2 (ExtT.refl _),go_sem]
     ·rintro ⟨t',B',T''⟩ ⟨s1,s3,s4,hB',rfl⟩ s5 hall
      simp only at s1 s3 s4 s5 hB'
      have d2 : decide ((rs.length : Int) < rs.length) = false:=by simp
      have hg':=hB'.get (o:=B.length) (by simp;rfl)
      simp only [mkP,D.cells] at hg'
      rw [hall] at hb
      simp +contextual (maxSteps:=10000000) only [s1,s3,s4,s5,rdAt_E hg',d2,wrap_succ i (by omega),hb.symm,go_sem]
      exact (hB.app _).trans hB'
    ·rw [g5] at hb pe
     simp only [Bool.false_and] at hb;subst hb
     have hno:=hno rfl
     simp +contextual (maxSteps:=10000000) only [r1,r3,rdAt_E hg,rdAt_Ea hg,d1,hx,mkP,g4,hE,ee,pe,hno,leaves_Ea hB.pre (ExtT.refl _),go_sem]
   ·rintro ⟨t,B,T'⟩ ⟨r1,hB,rfl⟩ r3 hall
    simp only at r1 r3 hB
    have d1 : decide ((ps.length : Int) < ps.length) = false:=by simp
    have hg:=hB.get (o:=H.length) (by simp;rfl)
    rw [hall]
    simp +contextual (maxSteps:=10000000) only [r1,r3,rdAt_E hg,d1,leaves_E hB.pre (ExtT.refl _),go_sem]
  ·cases h
 ·cases h
end GP
namespace GP
open Go Go.Proofs
set_option maxRecDepth 100000
def okF (f : D) : Bool:=inB whoW (fwho f) && (nameB (fname f) && (!(decide (fkind f < 1)) && !(decide (4 < fkind f))))
noncomputable def okR (r : D) : Bool:=nameB (rNm r) && (optB (rHi r) (rE r) && ((rDu r).all txtB && (rAd r).all txtB))
noncomputable def okP (p : D) : Bool:=nameB (pNm p) && (nameB (pBy p) && (formI 1 (pUs p) 0 && (optB (pHf p) (pE p) && (pRs p).all okR)))
noncomputable def okD (d : D) : Bool:=formI 1 (dUs d) 0 && ((dFs d).all okF && (dPs d).all okP)
open Classical in
noncomputable def φokD : List D -> Option D
 | [d]=>if isDoc nodeB d then some (.bool (okD d)) else none
 | _=>none
noncomputable abbrev xs29 : Fs:=[(57,φform),(59,φtk1 1),(55,φwho),(56,φnm),(66,φopt),(67,φtexts)]
theorem txs_isTxs {m : Bool} {l : List (List UInt8)} (h : short47 l) : isTxs (sliceD m (l.map D.str)):=⟨m,l,rfl,h.1,h.2⟩
theorem texts_at {m : Bool} {l : List (List UInt8)} (h : short47 l) : φtexts [sliceD m (l.map D.str)] = some (.bool (l.all txtB)):=by
 simp only [φtexts];rw [if_pos (txs_isTxs h),txs_mk]
theorem opt_at {b : Bool} {e : D} (h : isE nodeB e) : φopt [.bool b,e] = some (.bool (optB b e)):=by
 simp only [φopt];rw [if_pos h]
theorem form_at {k : Int} {s : List UInt8} (h : s.length <= 2 ^ 47) : φform [.agg [.int .i64 k,.str s,.int .i64 0]] = some (.bool (formI k s 0)):=by
 simp only [φform];rw [if_pos (by omega)]
theorem nm_at {s : List UInt8} (h : s.length <= 2 ^ 47) : φnm [.str s] = some (.bool (nameB s)):=by
 simp only [φnm];rw [if_pos (by omega)]
theorem who_at (s : List UInt8) : φwho [.str s] = some (.bool (inB whoW s)):=rfl
set_option maxHeartbeats 8000000 in
theorem ok29 : OkAt Tryz.prog 29 φokD:=by
 refine ok_of (l:=xs29) (.cons ok57 (.cons ok59 (.cons ok55 (.cons ok56 (.cons ok66 (.cons ok67 .nil)))))) fn29 fun args r h=>?_
 have hX:=XL_mono xs29
 unfold φokD at h
 split at h
 ·rename_i d
  split at h
  ·rename_i hd
   injection h with h;subst h
   refine ⟨by simp,by simp [D.cl],fun H T=>?_⟩
   have ed:=isDoc_erase hd
   obtain ⟨m,fs,us,m',ps,rfl,h1,h2,h3,h4,h5⟩:=hd
   simp only [mkDoc] at ed
   simp only [okD,dFs_mk,dUs_mk,dPs_mk]
   have pu:=form_at (k:=1) h2
   obtain ⟨ub,hub⟩ : ∃ z,formI 1 us 0 = z:=⟨_,rfl⟩
   rw [hub] at pu ⊢
   cases ub with
   | false=>simp +contextual (maxSteps:=10000000) only [c29,mkDoc,ed,φtk1,mkT,pu,go_sem]
   | true =>
   simp only [Bool.true_and]
   simp +contextual (maxSteps:=10000000) only [c29,mkDoc,ed,φtk1,mkT,pu,go_sem]
   refine W_all fs okF 3 (fun s=>s.t 1 = .ptr H.length 0 /\ Ext (H ++ [.row [sliceD m fs,.str us,sliceD m' ps]]) s.H /\ s.T = T) hX ⟨by simp [upd],Ext.refl _,rfl⟩ (by simp [upd]) ?_ ?_
   ·rintro i x ⟨t,B,T'⟩ b hx hm hi ⟨r1,hB,rfl⟩ r3 hb hno
    simp only at r1 r3 hB
    have d1 : decide ((i : Int) < fs.length) = true:=by simpa using hi
    obtain ⟨w,n,k,bg,rfl,k1,k2,k3,k4⟩:=h4 x hm
    have hg:=hB.get (o:=H.length) (by simp;rfl)
    have pw:=who_at w
    have pn:=nm_at k2
    have hb : (inB whoW w && (nameB n && (!(decide (k < 1)) && !(decide (4 < k))))) = b:=hb
    have hno2 : b = false -> (fs.all okF && ps.all okP) = false:=fun h=>by rw [hno h];rfl
    obtain ⟨wb,hwb⟩ : ∃ z,inB whoW w = z:=⟨_,rfl⟩
    obtain ⟨nb,hnb⟩ : ∃ z,nameB n = z:=⟨_,rfl⟩
    rw [hwb] at pw hb
    rw [hnb] at pn hb
    subst hb
    cases wb with
    | false =>
     have hno2:=hno2 rfl
     simp +contextual (maxSteps:=10000000) only [r1,r3,rdAt_E hg,rdAt_Ea hg,d1,hx,mkF,pw,hno2,leaves_Ea hB.pre (ExtT.refl _),go_sem]
    | true =>
    cases nb with
    | false =>
     have hno2:=hno2 rfl
     simp +contextual (maxSteps:=10000000) only [r1,r3,rdAt_E hg,rdAt_Ea hg,d1,hx,mkF,pw,pn,hno2,leaves_Ea hB.pre (ExtT.refl _),go_sem]
    | true =>
    rcases tf (decide (k < 1)) with g1 | g1
    ·have hno2:=hno2 (by rw [g1];rfl)
     simp +contextual (maxSteps:=10000000) only [r1,r3,rdAt_E hg,rdAt_Ea hg,d1,hx,mkF,pw,pn,g1,hno2,leaves_Ea hB.pre (ExtT.refl _),go_sem]
    rcases tf (decide (4 < k)) with g2 | g2
    ·have hno2:=hno2 (by rw [g1,g2];rfl)
     simp +contextual (maxSteps:=10000000) only [r1,r3,rdAt_E hg,rdAt_Ea hg,d1,hx,mkF,pw,pn,g1,g2,hno2,leaves_Ea hB.pre (ExtT.refl _),go_sem]
    ·simp +contextual (maxSteps:=10000000) only [r1,r3,rdAt_E hg,rdAt_Ea hg,d1,hx,mkF,pw,pn,g1,g2,wrap_succ i (by omega),go_sem]
     exact hB.app _
   ·rintro ⟨t,B,T'⟩ ⟨r1,hB,rfl⟩ r3 hall
    simp only at r1 r3 hB
    have d1 : decide ((fs.length : Int) < fs.length) = false:=by simp
    have hg:=hB.get (o:=H.length) (by simp;rfl)
    rw [hall]
    simp only [Bool.true_and]
    simp +contextual (maxSteps:=10000000) only [r1,r3,rdAt_E hg,d1,go_sem]
    clear r3
    refine W_all ps okP 5 (fun s=>s.t 1 = .ptr H.length 0 /\ Ext (H ++ [.row [sliceD m fs,.str us,sliceD m' ps]]) s.H /\ s.T = T') hX ⟨by simp [upd,r1],hB,rfl⟩ (by simp [upd]) ?_ ?_
    ·clear r1 hB hg d1
     rintro i x ⟨t,B,T'⟩ b hx hm hi ⟨r1,hB,rfl⟩ r3 hb hno
     simp only at r1 r3 hB
     have d1 : decide ((i : Int) < ps.length) = true:=by simpa using hi
     obtain ⟨nm,bn,us',hf,e,mm,rs,rfl,he,k1,k2,k3,k4,k5⟩:=h5 x hm
     have hE:=ag_isE he
     have ee:=isE_erase he
     have hg:=hB.get (o:=H.length) (by simp;rfl)
     have p1:=nm_at k1
     have p2:=nm_at k2
     have p3:=form_at (k:=1) k3
     have p4:=opt_at (b:=hf) he
     simp only [okP,pNm_mk,pBy_mk,pUs_mk,pHf_mk,pRs_mk,pE_mk _ _ _ _ _ _ _ he] at hb
     obtain ⟨b1,hb1⟩ : ∃ z,nameB nm = z:=⟨_,rfl⟩
     obtain ⟨b2,hb2⟩ : ∃ z,nameB bn = z:=⟨_,rfl⟩
     obtain ⟨b3,hb3⟩ : ∃ z,formI 1 us' 0 = z:=⟨_,rfl⟩
     obtain ⟨b4,hb4⟩ : ∃ z,optB hf e = z:=⟨_,rfl⟩
     rw [hb1] at p1 hb
     rw [hb2] at p2 hb
     rw [hb3] at p3 hb
     rw [hb4] at p4 hb
     cases b1 with
     | false =>
      have hno:=hno hb.symm
      simp +contextual (maxSteps:=10000000) only [r1,r3,rdAt_E hg,rdAt_Ea hg,d1,hx,mkP,p1,hno,leaves_Ea hB.pre (ExtT.refl _),go_sem]
     | true =>
     cases b2 with
     | false =>
      have hno:=hno hb.symm
      simp +contextual (maxSteps:=10000000) only [r1,r3,rdAt_E hg,rdAt_Ea hg,d1,hx,mkP,p1,p2,hno,leaves_Ea hB.pre (ExtT.refl _),go_sem]
     | true =>
     cases b3 with
     | false =>
      have hno:=hno hb.symm
      simp +contextual (maxSteps:=10000000) only [r1,r3,rdAt_E hg,rdAt_Ea hg,d1,hx,mkP,p1,p2,φtk1,mkT,p3,hno,leaves_Ea hB.pre (ExtT.refl _),go_sem]
     | true =>
     cases b4 with
     | false =>
      have hno:=hno hb.symm
      simp +contextual (maxSteps:=10000000) only [r1,r3,rdAt_E hg,rdAt_Ea hg,d1,hx,mkP,p1,p2,φtk1,mkT,p3,hE,ee,p4,hno,leaves_Ea hB.pre (ExtT.refl _),go_sem]
     | true =>
     simp only [Bool.true_and] at hb
     simp +contextual (maxSteps:=10000000) only [r1,r3,rdAt_E hg,rdAt_Ea hg,d1,hx,mkP,p1,p2,φtk1,mkT,p3,hE,ee,p4,go_sem]
     refine W_all rs okR 7 (fun s=>s.t 1 = .ptr H.length 0 /\ s.t 5 = .int .i64 (i : Int) /\ s.t 6 = .ptr B.length 0 /\ Ext (B ++ [.row (mkP nm bn us' hf e mm rs).cells]) s.H /\ s.T = T') hX ⟨by simp [upd,r1],by simp [upd,r3],by simp [upd],Ext.refl _,rfl⟩ (by simp [upd]) ?_ ?_
     ·clear p1 p2 p3 p4
      rintro i' x' ⟨t',B',T''⟩ b' hx' hm' hi' ⟨s1,s3,s4,hB',rfl⟩ s5 hb' hno'
      simp only at s1 s3 s4 s5 hB'
      have d2 : decide ((i' : Int) < rs.length) = true:=by simpa using hi'
      obtain ⟨pm,hi'',nm',e',ma,mb,du,ad,rfl,he',l1,l2,l3⟩:=k5 x' hm'
      have hE':=ag_isE he'
      have ee':=isE_erase he'
      have p1:=nm_at l1
      have p2:=opt_at (b:=hi'') he'
      have p3:=texts_at (m:=ma) l2
      have p4:=texts_at (m:=mb) l3
      simp only [okR,rNm_mk,rHi_mk,rE_mk _ _ _ _ _ _ _ _ he',rDu_mk,rAd_mk] at hb'
      have hg':=hB'.get (o:=B.length) (by simp;rfl)
      simp only [mkP,D.cells] at hg'
      have hno2 : b' = false -> ps.all okP = false:=fun h=>hno (by rw [<- hb,hno' h])
      have hB2 : Ext H B':=(hB.pre.trans hB'.pre)
      have eu:=sl_str_erase ma du
      have ea:=sl_str_erase mb ad
      obtain ⟨b1,hb1⟩ : ∃ z,nameB nm' = z:=⟨_,rfl⟩
      obtain ⟨b2,hb2⟩ : ∃ z,optB hi'' e' = z:=⟨_,rfl⟩
      obtain ⟨b3,hb3⟩ : ∃ z,du.all txtB = z:=⟨_,rfl⟩
      obtain ⟨b4,hb4⟩ : ∃ z,ad.all txtB = z:=⟨_,rfl⟩
      rw [hb1] at p1 hb'
      rw [hb2] at p2 hb'
      rw [hb3] at p3 hb'
      rw [hb4] at p4 hb'
      subst hb'
      obtain ⟨DU,hDU⟩ : ∃ z,sliceD ma (du.map D.str) = z:=⟨_,rfl⟩
      obtain ⟨AD,hAD⟩ : ∃ z,sliceD mb (ad.map D.str) = z:=⟨_,rfl⟩
      simp only [mkR,hDU,hAD] at hx' p3 p4 eu ea
      cases b1 with
      | false =>
       have hno2:=hno2 rfl
       simp +contextual (maxSteps:=10000000) only [s1,s3,s4,s5,rdAt_E hg',rdAt_Ea hg',d2,hx',p1,hno2,leaves_Ea hB2 (ExtT.refl _),go_sem]
      | true =>
      cases b2 with
      | false =>
       have hno2:=hno2 rfl
       simp +contextual (maxSteps:=10000000) only [s1,s3,s4,s5,rdAt_E hg',rdAt_Ea hg',d2,hx',p1,hE',ee',p2,hno2,leaves_Ea hB2 (ExtT.refl _),go_sem]
      | true =>
      cases b3 with
      | false =>
       have hno2:=hno2 rfl
       simp +contextual (maxSteps:=10000000) only [s1,s3,s4,s5,rdAt_E hg',rdAt_Ea hg',d2,hx',p1,hE',ee',p2,eu,p3,hno2,leaves_Ea hB2 (ExtT.refl _),go_sem]
      | true =>
      cases b4 with
      | false =>
       have hno2:=hno2 rfl
       simp +contextual (maxSteps:=10000000) only [s1,s3,s4,s5,rdAt_E hg',rdAt_Ea hg',d2,hx',p1,hE',ee',p2,eu,ea,p3,p4,hno2,leaves_Ea hB2 (ExtT.refl _),go_sem]
      | true =>
       simp +contextual (maxSteps:=10000000) only [s1,s3,s4,s5,rdAt_E hg',rdAt_Ea hg',d2,hx',p1,hE',ee',p2,eu,ea,p3,p4,wrap_succ i' (by omega),go_sem]
       exact hB'.app _
     ·rintro ⟨t',B',T''⟩ ⟨s1,s3,s4,hB',rfl⟩ s5 hall
      simp only at s1 s3 s4 s5 hB'
      have d2 : decide ((rs.length : Int) < rs.length) = false:=by simp
      have hg':=hB'.get (o:=B.length) (by simp;rfl)
      simp only [mkP,D.cells] at hg'
      rw [hall] at hb
      simp +contextual (maxSteps:=10000000) only [s1,s3,s4,s5,rdAt_E hg',d2,wrap_succ i (by omega),hb.symm,go_sem]
      exact (hB.app _).trans hB'
    ·rintro ⟨t,B,T'⟩ ⟨r1,hB,rfl⟩ r3 hall
     simp only at r1 r3 hB
     have d1 : decide ((ps.length : Int) < ps.length) = false:=by simp
     have hg:=hB.get (o:=H.length) (by simp;rfl)
     rw [hall]
     simp +contextual (maxSteps:=10000000) only [r1,r3,rdAt_E hg,d1,leaves_E hB.pre (ExtT.refl _),go_sem]
  ·cases h
 ·cases h
end GP
namespace GP
open Go Go.Proofs
open Rd O
set_option maxRecDepth 100000
def c68b : C :=
 (.seq (.reg [I1 2 (.box (t 0)),I1 4 (.mv KN)])
 (.seq (.reg [I1 5 (.mv (Ks ([100,101,110,121])))])
 (.seq (.seq (.reg [If 9 0 2,Il 10 9])
 (.cond (t 10)
 (.reg [I1 5 (.mv (Ks ([112,101,114,109,105,116])))])
 .skip))
 (.seq (.draw 0 [(Im 11 5,[]),(Ip 12 59 [(t 11)],[]),(If 13 1 2,[]),(Il 14 13,[]),(Ip 15 59 [(t 14)],[]),(I1 16 (.bsl 3 [(t 12),(t 15)]),[]),(Im 6 16,[])])
 (.seq (.seq (.reg [If 17 2 2,Il 18 17])
 (.cond (t 18)
 (.seq (.reg [Im 19 6,Ip 20 59 [(Ks ([105,102]))],I1 21 (.bsl 3 [(t 20)]),I1 22 (.app false 3 32 (t 19) (t 21)),Im 6 22])
 (.reg [Im 23 6,If 24 3 2,Ia 25 8 24,Im 26 1,Ip 27 24 [(t 25),(t 26)],I1 28 (.app false 3 32 (t 23) (t 27)),Im 6 28]))
 .skip))
 (.seq (.seq (.reg [I1 7 (.mv (Ki 0))])
 (.block 0
 (.loop
 (.seq (.seq (.reg [Im 29 7,If 30 11 2,Il 31 30,Iz 32 31,I1 33 (.bin .lss (t 29) (t 32))])
 (.cond (t 33)
 .skip
 (.exit 0)))
 (.seq (.block 1
 (.draw 0 [(Im 36 6,[]),(Ip 37 59 [(Ks ([100,117,116,121]))],[]),(If 38 11 2,[]),(Il 39 38,[]),(Im 40 7,[]),(I1 41 (.iaddr 1 (t 39) (t 40)),[]),(Il 42 41,[]),(I1 43 (.build [(.int .i64 0),(.str []),(.int .i64 0)] [(0,1,(Ki 3)),(1,1,(t 42))]),[]),(I1 44 (.bsl 3 [(t 37),(t 43)]),[]),(I1 45 (.app false 3 32 (t 36) (t 44)),[]),(Im 6 45,[])]))
 (.reg [Im 34 7,I1 35 (.bin .add (t 34) (Ki 1)),Im 7 35]))))))
 (.seq (.seq (.reg [I1 8 (.mv (Ki 0))])
 (.block 2
 (.loop
 (.seq (.seq (.reg [Im 46 8,If 47 12 2,Il 48 47,Iz 49 48,I1 50 (.bin .lss (t 46) (t 49))])
 (.cond (t 50)
 .skip
 (.exit 2)))
 (.seq (.block 3
 (.draw 0 [(Im 53 6,[]),(Ip 54 59 [(Ks ([97,100,118,105,99,101]))],[]),(If 55 12 2,[]),(Il 56 55,[]),(Im 57 8,[]),(I1 58 (.iaddr 1 (t 56) (t 57)),[]),(Il 59 58,[]),(I1 60 (.build [(.int .i64 0),(.str []),(.int .i64 0)] [(0,1,(Ki 3)),(1,1,(t 59))]),[]),(I1 61 (.bsl 3 [(t 54),(t 60)]),[]),(I1 62 (.app false 3 32 (t 53) (t 61)),[]),(Im 6 62,[])]))
 (.reg [Im 51 8,I1 52 (.bin .add (t 51) (Ki 1)),Im 8 52]))))))
 (.seq (.reg [Im 63 6,Ip 64 60 [(Ks ([59]))],I1 65 (.bsl 3 [(t 64)]),I1 66 (.app false 3 32 (t 63) (t 65)),Im 4 66])
 .ret))))))))
theorem fn68b : Fn Tryz.prog 68 67 [.inl 4] c68b:=⟨⟨_,_,Tryz.func68,rfl,by kernel_rfl,Tryz.ntmps68,by kernel_rfl,Hq3,by kernel_rfl⟩⟩
end GP
namespace GP
open Go Go.Proofs
set_option maxRecDepth 100000
def saidT (w : List UInt8) (l : List (List UInt8)) : List D:=(l.map fun s=>[mkT 1 w 0,mkT 3 s 0]).flatten
theorem saidT_succ {w : List UInt8} {l : List (List UInt8)} {i : Nat} {s : List UInt8} (h : l[i]? = some s) : saidT w (l.take (i + 1)) = saidT w (l.take i) ++ [mkT 1 w 0,mkT 3 s 0]:=by
 unfold saidT
 rw [List.take_add_one,h]
 simp
theorem saidT_len (w : List UInt8) (l : List (List UInt8)) : (saidT w l).length = 2 * l.length:=by
 unfold saidT
 induction l with
 | nil=>rfl
 | cons s l ih=>simp at ih ⊢;omega
theorem saidT_tok (w : List UInt8) (l : List (List UInt8)) : isTks (saidT w l):=by
 unfold saidT
 induction l with
 | nil=>exact .nil
 | cons s l ih=>exact isTks.cons _ _ _ (isTks.cons _ _ _ ih)
noncomputable def ifT (full : Bool) (r : D) : List D:=if rHi r then mkT 1 wIf 0 :: tkC full (rE r) else []
noncomputable def ruleT (full : Bool) (r : D) : List D:=[mkT 1 (if rPm r then wPermit else wDeny) 0,mkT 1 (rNm r) 0] ++ ifT full r ++ saidT wDuty (rDu r) ++ saidT wAdvice (rAd r) ++ [mkT 5 [59] 0]
structure goodR (full : Bool) (r : D) : Prop where
 s : isR nodeB r
 e : rHi r = true -> GoodE (rE r) /\ (tkC full (rE r)).length <= 2 ^ 28
 d : (rDu r).length <= 4
 a : (rAd r).length <= 4
open Classical in
noncomputable def φruleT : List D -> Option D
 | [r,.bool full]=>if goodR full r then some (.sl none (ruleT full r)) else none
 | _=>none
theorem tkC_tks (full : Bool) (e : D) : isTks (tkC full e):=tokD_tok _ full e
theorem tok24 : OkAt Tryz.prog 24 (fun a=>(φtokF nodeB a).map (.sl none)):=OkAtG.pure (ok24 nodeB) fun a xs h=>by
  unfold φtokF at h
  split at h
  ·split at h
   ·injection h with h;subst h
    have:=tokD_tok nodeB ‹Bool› ‹D›
    exact ⟨this.cl _ _,this.erase⟩
   ·cases h
  ·cases h
theorem tok24_at {e : D} {full : Bool} (h : isE nodeB e) (hg : GoodE e) (hl : (tkC full e).length <= 2 ^ 28) : (fun a=>(φtokF nodeB a).map (D.sl none)) [e,.bool full] = some (.sl none (tkC full e)):=by
 simp only [φtokF]
 rw [if_pos ⟨h,hg.fm h,by rw [tkC_eq h hg];omega⟩,tkC_eq h hg];rfl
noncomputable abbrev xs68 : Fs:=[(59,φtk1 1),(60,φtk1 5),(24,fun a=>(φtokF nodeB a).map (.sl none))]
theorem ifT_tok (full : Bool) (r : D) : isTks (ifT full r):=by
 unfold ifT;split
 ·exact isTks.cons _ _ _ (tkC_tks _ _)
 ·exact .nil
theorem ruleT_tok (full : Bool) (r : D) : isTks (ruleT full r):=by
 unfold ruleT
 exact ((((isTks.cons _ _ _ (isTks.cons _ _ _ .nil)).app (ifT_tok _ _)).app (saidT_tok _ _)).app (saidT_tok _ _)).app (isTks.cons _ _ _ .nil)
set_option maxHeartbeats 8000000 in
theorem ok68 : OkAt Tryz.prog 68 φruleT:=by
 refine ok_of (l:=xs68) (.cons ok59 (.cons ok60 (.cons tok24 .nil))) fn68b fun args r h=>?_
 have hX:=XL_mono xs68
 unfold φruleT at h
 split at h
 ·rename_i rr full
  split at h
  ·rename_i hr
   injection h with h;subst h
   have hk:=ruleT_tok full rr
   refine ⟨by simp,hk.cl _ _,fun H T=>?_⟩
   obtain ⟨hs,hg,hd,ha⟩:=hr
   have er:=isR_erase hs
   obtain ⟨pm,hi,nm,e,m,m',du,ad,rfl,he,k1,k2,k3⟩:=hs
   rw [rHi_mk,rE_mk _ _ _ _ _ _ _ _ he] at hg
   rw [rDu_mk] at hd
   rw [rAd_mk] at ha
   have hE:=ag_isE he
   have ee:=isE_erase he
   have eR : ruleT full (mkR pm hi nm e m m' du ad) = [mkT 1 (if pm then wPermit else wDeny) 0,mkT 1 nm 0] ++ (if hi then mkT 1 wIf 0 :: tkC full e else []) ++ saidT wDuty du ++ saidT wAdvice ad ++ [mkT 5 [59] 0]:=by
    simp only [ruleT,ifT,rPm_mk,rNm_mk,rHi_mk,rDu_mk,rAd_mk,rE_mk _ _ _ _ _ _ _ _ he]
   rw [eR] at hk ⊢
   obtain ⟨Z,hZ⟩ : ∃ z,[mkT 1 (if pm then wPermit else wDeny) 0,mkT 1 nm 0] ++ (if hi then mkT 1 wIf 0 :: tkC full e else []) ++ saidT wDuty du ++ saidT wAdvice ad ++ [mkT 5 [59] 0] = z:=⟨_,rfl⟩
   rw [hZ] at hk ⊢
   obtain ⟨tl,htl⟩ : ∃ z,C.tl 5 c68b = z:=⟨_,rfl⟩
   have tail : ∀ (pre : List D) (t : Nat -> D) (T' : Tk),isTks pre -> pre.length <= 2 ^ 29 -> t 2 = .ptr H.length 0 -> accT 3 T pre (t 6) T' →
     pre = [mkT 1 (if pm then wPermit else wDeny) 0,mkT 1 nm 0] ++ (if hi then mkT 1 wIf 0 :: tkC full e else []) →
     W (XL xs68) tl (endQ [.inl 4] (Leaves (.sl none Z) H T)) ⟨t,H ++ [.row (mkR pm hi nm e m m' du ad).cells],T'⟩:=by
    intro pre t T' hp hpl t2 hA hpre
    subst htl
    rw [<- hpre] at hZ
    clear hpre
    simp +contextual (maxSteps:=10000000) only [c68b,go_sem]
    refine W_each (du.map D.str) (fun i s=>s.t 2 = .ptr H.length 0 /\ s.H = H ++ [.row (mkR pm hi nm e m m' du ad).cells] /\ s.t 7 = .int .i64 (i : Int) /\ accT 3 T (pre ++ saidT wDuty (du.take i)) (s.t 6) s.T) hX ⟨by simp [upd,t2],rfl,by simp [upd],by simpa [upd,saidT] using hA⟩ ?_ ?_
    ·clear hA t2
     rintro i x ⟨t,B,T'⟩ hx hm hi ⟨t2,rfl,t7,hA⟩
     simp only at t2 t7 hA
     rw [List.length_map] at hi
     have d1 : decide ((i : Int) < du.length) = true:=by simpa using hi
     obtain ⟨s,hs,rfl⟩:=List.mem_map.1 hm
     have hx':=hx
     rw [List.getElem?_map,Option.map_eq_some_iff] at hx'
     obtain ⟨s',hs',e'⟩:=hx'
     injection e' with e';subst e'
     have nx:=saidT_succ (w:=wDuty) hs'
     have hl:=saidT_len wDuty (du.take i)
     have hl2 : (du.take i).length <= 4:=by rw [List.length_take];omega
     simp +contextual (maxSteps:=10000000) only [t2,t7,d1,hx,List.length_map,mkR,D.cells,φtk1,mkT,go_sem]
     refine app_accT (bytes:=32) _ (hA.app _) rfl ((hp.app (saidT_tok _ _)).fit) (by simp;omega) (by simp;omega) fun d2 T2 hA2=>?_
     simp +contextual (maxSteps:=10000000) only [t2,t7,wrap_succ i (by omega),go_sem]
     rw [nx,← List.append_assoc]
     exact hA2
    ·clear hA t2
     rintro ⟨t,B,T'⟩ ⟨t2,rfl,t7,hA⟩
     simp only at t2 t7 hA
     rw [List.length_map] at t7 hA
     have d1 : decide ((du.length : Int) < du.length) = false:=by simp
     rw [List.take_length] at hA
     simp +contextual (maxSteps:=10000000) only [t2,t7,d1,List.length_map,mkR,D.cells,go_sem]
     refine W_each (ad.map D.str) (fun i s=>s.t 2 = .ptr H.length 0 /\ s.H = H ++ [.row (mkR pm hi nm e m m' du ad).cells] /\ s.t 8 = .int .i64 (i : Int) /\ accT 3 T (pre ++ saidT wDuty du ++ saidT wAdvice (ad.take i)) (s.t 6) s.T) hX ⟨by simp [upd,t2],rfl,by simp [upd],by simpa [upd,saidT] using hA⟩ ?_ ?_
     ·clear hA t2 t7 d1
      rintro i x ⟨t,B,T'⟩ hx hm hi ⟨t2,rfl,t8,hA⟩
      simp only at t2 t8 hA
      rw [List.length_map] at hi
      have d1 : decide ((i : Int) < ad.length) = true:=by simpa using hi
      have hx':=hx
      rw [List.getElem?_map,Option.map_eq_some_iff] at hx'
      obtain ⟨s',hs',e'⟩:=hx'
      subst e'
      have nx:=saidT_succ (w:=wAdvice) hs'
      have hl:=saidT_len wDuty du
      have hl2:=saidT_len wAdvice (ad.take i)
      have hl3 : (ad.take i).length <= 4:=by rw [List.length_take];omega
      simp +contextual (maxSteps:=10000000) only [t2,t8,d1,hx,List.length_map,mkR,D.cells,φtk1,mkT,go_sem]
      refine app_accT (bytes:=32) _ (hA.app _) rfl (((hp.app (saidT_tok _ _)).app (saidT_tok _ _)).fit) (by simp;omega) (by simp;omega) fun d2 T2 hA2=>?_
      simp +contextual (maxSteps:=10000000) only [t2,t8,wrap_succ i (by omega),go_sem]
      rw [nx]
      simp only [List.append_assoc] at hA2 ⊢
      exact hA2
     ·clear hA t2
      rintro ⟨t,B,T'⟩ ⟨t2,rfl,t8,hA⟩
      simp only at t2 t8 hA
      rw [List.length_map] at t8 hA
      have d1 : decide ((ad.length : Int) < ad.length) = false:=by simp
      rw [List.take_length] at hA
      have hl:=saidT_len wDuty du
      have hl2:=saidT_len wAdvice ad
      simp +contextual (maxSteps:=10000000) only [t2,t8,d1,List.length_map,mkR,D.cells,φtk1,mkT,go_sem]
      refine app_accT (bytes:=32) _ (hA.app _) rfl (((hp.app (saidT_tok _ _)).app (saidT_tok _ _)).fit) (by simp;omega) (by simp;omega) fun d2 T2 hA2=>?_
      simp +contextual (maxSteps:=10000000) only [go_sem]
      have hq : isTks (pre ++ saidT wDuty du ++ saidT wAdvice ad ++ [mkT 5 [59] 0]):=((hp.app (saidT_tok _ _)).app (saidT_tok _ _)).app (isTks.cons _ _ _ .nil)
      have he:=hA2.erase hq.erase (by simp)
      rw [<- hZ]
      exact ⟨he,⟨_,rfl⟩,hA2.1⟩
   rw [W_part 5,htl]
   have w2 : ∀ w : List UInt8,isTks [mkT 1 w 0,mkT 1 nm 0]:=fun w=>isTks.cons _ _ _ (isTks.cons _ _ _ .nil)
   cases hi with
   | false =>
    simp only [Bool.false_eq_true,if_false,List.append_nil] at tail
    cases pm with
    | true =>
     simp +contextual (maxSteps:=10000000) only [c68b,mkR,D.cells,er,φtk1,mkT,go_sem]
     refine tail [mkT 1 wPermit 0,mkT 1 nm 0] _ _ (w2 _) (by simp) ?_ ?_ rfl
     ·simp [upd]
     ·simp [upd];exact accT.mk 3 T (ExtT.refl _) [mkT 1 wPermit 0,mkT 1 nm 0] []
    | false =>
     simp +contextual (maxSteps:=10000000) only [c68b,mkR,D.cells,er,φtk1,mkT,go_sem]
     refine tail [mkT 1 wDeny 0,mkT 1 nm 0] _ _ (w2 _) (by simp) ?_ ?_ rfl
     ·simp [upd]
     ·simp [upd];exact accT.mk 3 T (ExtT.refl _) [mkT 1 wDeny 0,mkT 1 nm 0] []
   | true =>
    obtain ⟨hg,hl⟩:=hg rfl
    have p24:=tok24_at he hg hl
    simp only at p24
    have hkt:=tkC_tks full e
    obtain ⟨X,hXe⟩ : ∃ z,tkC full e = z:=⟨_,rfl⟩
    rw [hXe] at p24 hkt hl tail
    have hfit:=hkt.fit
    simp only [if_true] at tail
    cases pm with
    | true =>
     simp +contextual (maxSteps:=10000000) only [c68b,mkR,D.cells,er,φtk1,mkT,go_sem]
     refine app_accT (bytes:=32) _ (accT.mk 3 T (ExtT.refl _) [mkT 1 wPermit 0,mkT 1 nm 0] _) rfl (w2 _).fit (by simp) (by simp) fun d2 T2 hA2=>?_
     simp +contextual (maxSteps:=10000000) only [hE,ee,p24,go_sem]
     refine app_accT (bytes:=32) _ hA2 hfit ((w2 _).app (isTks.cons _ _ _ .nil)).fit (by simp;omega) (by simp;omega) fun d2 T2 hA2=>?_
     simp +contextual (maxSteps:=10000000) only [go_sem]
     refine tail ([mkT 1 wPermit 0,mkT 1 nm 0] ++ mkT 1 wIf 0 :: X) _ _ ((w2 _).app (isTks.cons _ _ _ hkt)) (by simp;omega) ?_ ?_ rfl
     ·simp [upd]
     ·simp [upd]
      simp only [List.append_assoc,List.cons_append,List.nil_append] at hA2
      exact hA2
    | false =>
     simp +contextual (maxSteps:=10000000) only [c68b,mkR,D.cells,er,φtk1,mkT,go_sem]
     refine app_accT (bytes:=32) _ (accT.mk 3 T (ExtT.refl _) [mkT 1 wDeny 0,mkT 1 nm 0] _) rfl (w2 _).fit (by simp) (by simp) fun d2 T2 hA2=>?_
     simp +contextual (maxSteps:=10000000) only [hE,ee,p24,go_sem]
     refine app_accT (bytes:=32) _ hA2 hfit ((w2 _).app (isTks.cons _ _ _ .nil)).fit (by simp;omega) (by simp;omega) fun d2 T2 hA2=>?_
     simp +contextual (maxSteps:=10000000) only [go_sem]
     refine tail ([mkT 1 wDeny 0,mkT 1 nm 0] ++ mkT 1 wIf 0 :: X) _ _ ((w2 _).app (isTks.cons _ _ _ hkt)) (by simp;omega) ?_ ?_ rfl
     ·simp [upd]
     ·simp [upd]
      simp only [List.append_assoc,List.cons_append,List.nil_append] at hA2
      exact hA2
  ·cases h
 ·cases h
end GP
namespace GP
open Go Go.Proofs
set_option maxRecDepth 100000
def catT (f : D -> List D) (l : List D) : List D:=(l.map f).flatten
section
variable {f : D -> List D} {l : List D}
theorem catT_cons {x : D} : catT f (x :: l) = f x ++ catT f l:=rfl
theorem catT_app {m : List D} : catT f (l ++ m) = catT f l ++ catT f m:=by simp [catT]
theorem catT_succ {i : Nat} {x : D} (h : l[i]? = some x) : catT f (l.take (i + 1)) = catT f (l.take i) ++ f x:=by
 rw [List.take_add_one,h,catT_app];simp [catT]
theorem catT_len {B : Nat} (h : ∀ x ∈ l,(f x).length <= B) : (catT f l).length <= B * l.length:=by
 induction l with
 | nil=>simp [catT]
 | cons x l ih =>
  have h1:=h x (by simp)
  have h2:=ih fun y hy=>h y (by simp [hy])
  rw [catT_cons,List.length_append,List.length_cons,Nat.mul_add];omega
theorem catT_tok (h : ∀ x ∈ l,isTks (f x)) : isTks (catT f l):=by
 induction l with
 | nil=>exact .nil
 | cons x l ih=>exact (h x (by simp)).app (ih fun y hy=>h y (by simp [hy]))
theorem catT_take_len {B n i : Nat} (hB : ∀ x ∈ l,(f x).length <= B) (hn : l.length <= n) : (catT f (l.take i)).length <= B * n:=by
 have h1:=catT_len (f:=f) (B:=B) (l:=l.take i) fun x hx=>hB x (List.mem_of_mem_take hx)
 have h2 : (l.take i).length <= n:=by rw [List.length_take];omega
 exact Nat.le_trans h1 (Nat.mul_le_mul_left _ h2)
end
def kindN (k : Int) : List UInt8:=if k == 1 then wTruthW else if k == 2 then wNumberW else if k == 3 then wTextW else wTimeW
def bagT (b : Bool) : List D:=if b then [mkT 1 wBagW 0] else []
def factT (f : D) : List D:=[mkT 1 wFact 0,mkT 1 (fwho f) 0,mkT 5 [46] 0,mkT 1 (fname f) 0,mkT 1 (kindN (fkind f)) 0] ++ bagT (fbag f) ++ [mkT 5 [59] 0]
noncomputable def forT (full : Bool) (p : D) : List D:=if pHf p then mkT 1 wFor 0 :: (tkC full (pE p) ++ [mkT 5 [59] 0]) else []
noncomputable def polT (full : Bool) (p : D) : List D:=[mkT 1 wPolicy 0,mkT 1 (pNm p) 0,mkT 1 wBy 0,mkT 1 (pBy p) 0,mkT 1 wUse 0,mkT 1 (pUs p) 0,mkT 5 [123] 0] ++ forT full p ++ catT (ruleT full) (pRs p) ++ [mkT 5 [125] 0]
noncomputable def docT (full : Bool) (d : D) : List D:=catT factT (dFs d) ++ [mkT 1 wUse 0,mkT 1 (dUs d) 0,mkT 5 [59] 0] ++ catT (polT full) (dPs d)
structure goodP (full : Bool) (p : D) : Prop where
 s : isPo nodeB p
 e : pHf p = true -> GoodE (pE p) /\ (tkC full (pE p)).length <= 2 ^ 28
 l : (pRs p).length <= 8
 r : ∀ r ∈ pRs p,goodR full r
structure goodD (full : Bool) (d : D) : Prop where
 s : isDoc nodeB d
 f : (dFs d).length <= 12
 k : ∀ f ∈ dFs d,1 <= fkind f /\ fkind f <= 4
 l : (dPs d).length <= 6
 p : ∀ p ∈ dPs d,goodP full p
theorem bagT_tok (b : Bool) : isTks (bagT b):=by
 unfold bagT;split
 ·exact isTks.cons _ _ _ .nil
 ·exact .nil
theorem factT_tok (f : D) : isTks (factT f):=by
 unfold factT
 exact ((isTks.cons _ _ _ (isTks.cons _ _ _ (isTks.cons _ _ _ (isTks.cons _ _ _ (isTks.cons _ _ _ .nil))))).app (bagT_tok _)).app (isTks.cons _ _ _ .nil)
theorem forT_tok (full : Bool) (r : D) : isTks (forT full r):=by
 unfold forT;split
 ·exact isTks.cons _ _ _ ((tkC_tks _ _).app (isTks.cons _ _ _ .nil))
 ·exact .nil
theorem polT_tok (full : Bool) (p : D) : isTks (polT full p):=by
 unfold polT
 exact (((isTks.cons _ _ _ (isTks.cons _ _ _ (isTks.cons _ _ _ (isTks.cons _ _ _ (isTks.cons _ _ _ (isTks.cons _ _ _ (isTks.cons _ _ _ .nil))))))).app (forT_tok _ _)).app (catT_tok fun x _=>ruleT_tok _ _)).app (isTks.cons _ _ _ .nil)
theorem docT_tok (full : Bool) (d : D) : isTks (docT full d):=by
 unfold docT
 exact ((catT_tok fun x _=>factT_tok x).app (isTks.cons _ _ _ (isTks.cons _ _ _ (isTks.cons _ _ _ .nil)))).app (catT_tok fun x _=>polT_tok _ _)
theorem factT_len (f : D) : (factT f).length <= 7:=by
 unfold factT bagT;split <;> simp
theorem ruleT_len {full : Bool} {r : D} (h : goodR full r) : (ruleT full r).length <= 2 ^ 29:=by
 have h1:=saidT_len wDuty (rDu r)
 have h2:=saidT_len wAdvice (rAd r)
 have h3 : (ifT full r).length <= 2 ^ 28 + 1:=by
  unfold ifT;split
  ·have:=(h.e ‹_›).2;simp only [List.length_cons];omega
  ·simp
 have:=h.d;have:=h.a
 simp only [ruleT,List.length_append,List.length_cons,List.length_nil];omega
theorem forT_len {full : Bool} {p : D} (h : goodP full p) : (forT full p).length <= 2 ^ 28 + 2:=by
 unfold forT;split
 ·have:=(h.e ‹_›).2;simp only [List.length_cons,List.length_append,List.length_nil];omega
 ·simp
theorem polT_len {full : Bool} {p : D} (h : goodP full p) : (polT full p).length <= 2 ^ 33:=by
 have h1:=forT_len h
 have h2:=catT_len (f:=ruleT full) (B:=2 ^ 29) (l:=pRs p) fun x hx=>ruleT_len (h.r x hx)
 have:=Nat.mul_le_mul_left (2 ^ 29) h.l
 simp only [polT,List.length_append,List.length_cons,List.length_nil];omega
open Classical in
noncomputable def φdocT : List D -> Option D
 | [d,.bool full]=>if goodD full d then some (.sl none (docT full d)) else none
 | _=>none
noncomputable abbrev xs30 : Fs:=[(59,φtk1 1),(60,φtk1 5),(24,fun a=>(φtokF nodeB a).map (.sl none)),(68,φruleT)]
theorem ruleT_at {full : Bool} {r : D} (h : goodR full r) : φruleT [r,.bool full] = some (.sl none (ruleT full r)):=by simp only [φruleT];rw [if_pos h]
set_option maxHeartbeats 16000000 in
theorem ok30 : OkAt Tryz.prog 30 φdocT:=by
 refine ok_of (l:=xs30) (.cons ok59 (.cons ok60 (.cons tok24 (.cons ok68 .nil)))) fn30 fun args r h=>?_
 have hX:=XL_mono xs30
 unfold φdocT at h
 split at h
 ·rename_i dd full
  split at h
  ·rename_i hr
   injection h with h;subst h
   have hk:=docT_tok full dd
   refine ⟨by simp,hk.cl _ _,fun H T=>?_⟩
   obtain ⟨hs,hf,hfk,hl,hp⟩:=hr
   have ed:=isDoc_erase hs
   obtain ⟨m,fs,us,m',ps,rfl,h1,h2,h3,h4,h5⟩:=hs
   simp only [docT,dFs_mk,dUs_mk,dPs_mk] at hk hf hfk hl hp ⊢
   simp only [mkDoc] at ed
   obtain ⟨Z,hZ⟩ : ∃ z,catT factT fs ++ [mkT 1 wUse 0,mkT 1 us 0,mkT 5 [59] 0] ++ catT (polT full) ps = z:=⟨_,rfl⟩
   rw [hZ] at hk ⊢
   simp +contextual (maxSteps:=10000000) only [c30,mkDoc,ed,go_sem]
   refine W_each fs (fun i s=>s.t 1 = .bool full /\ s.t 2 = .ptr H.length 0 /\ Ext (H ++ [.row [sliceD m fs,.str us,sliceD m' ps]]) s.H /\ s.t 6 = .int .i64 (i : Int) /\ accT 3 T (catT factT (fs.take i)) (s.t 5) s.T) hX ⟨by simp [upd,argT],by simp [upd],Ext.refl _,by simp [upd],by simpa [upd,catT] using accT.nil 3 T (ExtT.refl _)⟩ ?_ ?_
   ·rintro i x ⟨t,B,T'⟩ hx hm hi ⟨t1,t2,hB,t6,hA⟩
    simp only at t1 t2 hB t6 hA
    have d1 : decide ((i : Int) < fs.length) = true:=by simpa using hi
    obtain ⟨w,n,k,bg,rfl,k1,k2,k3,k4⟩:=h4 x hm
    obtain ⟨g1,g2⟩:=hfk _ hm
    have g1 : 1 <= k:=g1
    have g2 : k <= 4:=g2
    have hg:=hB.get (o:=H.length) (by simp;rfl)
    have nx:=catT_succ (f:=factT) hx
    have hcl:=catT_take_len (f:=factT) (i:=i) (fun x _=>factT_len x) hf
    have hct : isTks (catT factT (fs.take i)):=catT_tok fun x _=>factT_tok x
    have hix : ixa false 1 5 (.agg [.str [],.str [116,114,117,116,104],.str [110,117,109,98,101,114],.str [116,101,120,116],.str [116,105,109,101]]) (.int .i64 k) = some (.str (kindN k)):=by
     have : k = 1 ∨ k = 2 ∨ k = 3 ∨ k = 4:=by omega
     rcases this with rfl | rfl | rfl | rfl <;> rfl
    have eF : factT (mkF w n k bg) = [mkT 1 wFact 0,mkT 1 w 0,mkT 5 [46] 0,mkT 1 n 0,mkT 1 (kindN k) 0] ++ bagT bg ++ [mkT 5 [59] 0]:=rfl
    have t5 : isTks [mkT 1 wFact 0,mkT 1 w 0,mkT 5 [46] 0,mkT 1 n 0,mkT 1 (kindN k) 0]:=isTks.cons _ _ _ (isTks.cons _ _ _ (isTks.cons _ _ _ (isTks.cons _ _ _ (isTks.cons _ _ _ .nil))))
    obtain ⟨kn,hkn⟩ : ∃ z,kindN k = z:=⟨_,rfl⟩
    rw [hkn] at hix eF t5
    rw [eF] at nx
    obtain ⟨acc,hac⟩ : ∃ z,catT factT (fs.take i) = z:=⟨_,rfl⟩
    rw [hac] at nx hcl hct hA
    cases bg with
    | true =>
     simp +contextual (maxSteps:=10000000) only [t1,t2,t6,rdAt_E hg,rdAt_Ea hg,d1,hx,mkF,φtk1,mkT,hix,go_sem]
     refine app_accT (bytes:=32) _ hA t5.fit hct.fit (by simp;omega) (by simp;omega) fun d2 T2 hA2=>?_
     simp +contextual (maxSteps:=10000000) only [t1,t2,t6,φtk1,mkT,go_sem]
     refine app_accT (bytes:=32) [mkT 1 wBagW 0] (hA2.app _) rfl (hct.app t5).fit (by simp;omega) (by simp;omega) fun d3 T3 hA3=>?_
     simp +contextual (maxSteps:=10000000) only [t1,t2,t6,φtk1,mkT,go_sem]
     refine app_accT (bytes:=32) [mkT 5 [59] 0] (hA3.app _) rfl ((hct.app t5).app (isTks.cons 1 wBagW 0 isTks.nil)).fit (by simp;omega) (by simp;omega) fun d4 T4 hA4=>?_
     simp +contextual (maxSteps:=10000000) only [t1,t2,t6,wrap_succ i (by omega),go_sem]
     refine ⟨hB.app _,?_⟩
     rw [nx]
     simpa [bagT,mkT,wFact] using hA4
    | false =>
     simp +contextual (maxSteps:=10000000) only [t1,t2,t6,rdAt_E hg,rdAt_Ea hg,d1,hx,mkF,φtk1,mkT,hix,go_sem]
     refine app_accT (bytes:=32) _ hA t5.fit hct.fit (by simp;omega) (by simp;omega) fun d2 T2 hA2=>?_
     simp +contextual (maxSteps:=10000000) only [t1,t2,t6,φtk1,mkT,go_sem]
     refine app_accT (bytes:=32) [mkT 5 [59] 0] (hA2.app _) rfl (hct.app t5).fit (by simp;omega) (by simp;omega) fun d4 T4 hA4=>?_
     simp +contextual (maxSteps:=10000000) only [t1,t2,t6,wrap_succ i (by omega),go_sem]
     refine ⟨hB.app _,?_⟩
     rw [nx]
     simpa [bagT,mkT,wFact] using hA4
   ·rintro ⟨t,B,T'⟩ ⟨t1,t2,hB,t6,hA⟩
    simp only at t1 t2 hB t6 hA
    have d1 : decide ((fs.length : Int) < fs.length) = false:=by simp
    rw [List.take_length] at hA
    have hg:=hB.get (o:=H.length) (by simp;rfl)
    have hcl:=catT_len (f:=factT) (l:=fs) (fun x _=>factT_len x)
    have hct : isTks (catT factT fs):=catT_tok fun x _=>factT_tok x
    have tu : isTks [mkT 1 wUse 0,mkT 1 us 0,mkT 5 [59] 0]:=isTks.cons _ _ _ (isTks.cons _ _ _ (isTks.cons _ _ _ .nil))
    simp +contextual (maxSteps:=10000000) only [t1,t2,t6,rdAt_E hg,d1,φtk1,mkT,go_sem]
    refine app_accT (bytes:=32) _ hA tu.fit hct.fit (by simp;omega) (by simp;omega) fun d2 T2 hA2=>?_
    obtain ⟨pre,hpre⟩ : ∃ z,catT factT fs ++ [mkT 1 wUse 0,mkT 1 us 0,mkT 5 [59] 0] = z:=⟨_,rfl⟩
    have hpl : pre.length <= 100:=by rw [<- hpre];simp only [List.length_append,List.length_cons,List.length_nil];omega
    have hpt : isTks pre:=by rw [<- hpre];exact hct.app tu
    have hA2 : accT 3 T pre d2 T2:=by rw [<- hpre];exact hA2
    rw [hpre] at hZ
    clear hA hg hct hcl tu
    simp +contextual (maxSteps:=10000000) only [t1,t2,go_sem]
    refine W_each ps (fun i s=>s.t 1 = .bool full /\ s.t 2 = .ptr H.length 0 /\ Ext (H ++ [.row [sliceD m fs,.str us,sliceD m' ps]]) s.H /\ s.t 8 = .int .i64 (i : Int) /\ accT 3 T (pre ++ catT (polT full) (ps.take i)) (s.t 5) s.T) hX ⟨by simp [upd,t1],by simp [upd,t2],hB,by simp [upd],by simpa [upd,catT] using hA2⟩ ?_ ?_
    ·clear hA2 hB t1 t2 t6
     rintro i x ⟨t,B,T'⟩ hx hm hi ⟨t1,t2,hB,t8,hA⟩
     simp only at t1 t2 hB t8 hA
     have d1 : decide ((i : Int) < ps.length) = true:=by simpa using hi
     have hpx:=hp x hm
     obtain ⟨_,hpe,hprl,hpr⟩:=hpx
     obtain ⟨nm,bn,us',hf',e,mm,rs,rfl,he,k1,k2,k3,k4,k5⟩:=h5 x hm
     have hE:=ag_isE he
     have ee:=isE_erase he
     have hg:=hB.get (o:=H.length) (by simp;rfl)
     have nx:=catT_succ (f:=polT full) hx
     have hcl:=catT_take_len (f:=polT full) (i:=i) (B:=2 ^ 33) (fun x hx=>polT_len (hp x hx)) hl
     have hct : isTks (pre ++ catT (polT full) (ps.take i)):=hpt.app (catT_tok fun x _=>polT_tok _ x)
     rw [pHf_mk,pE_mk _ _ _ _ _ _ _ he] at hpe
     rw [pRs_mk] at hprl hpr
     have eP : polT full (mkP nm bn us' hf' e mm rs) = [mkT 1 wPolicy 0,mkT 1 nm 0,mkT 1 wBy 0,mkT 1 bn 0,mkT 1 wUse 0,mkT 1 us' 0,mkT 5 [123] 0] ++ (if hf' then mkT 1 wFor 0 :: (tkC full e ++ [mkT 5 [59] 0]) else []) ++ catT (ruleT full) rs ++ [mkT 5 [125] 0]:=by
      simp only [polT,forT,pNm_mk,pBy_mk,pUs_mk,pHf_mk,pRs_mk,pE_mk _ _ _ _ _ _ _ he]
     rw [eP] at nx
     have t7 : isTks [mkT 1 wPolicy 0,mkT 1 nm 0,mkT 1 wBy 0,mkT 1 bn 0,mkT 1 wUse 0,mkT 1 us' 0,mkT 5 [123] 0]:=isTks.cons _ _ _ (isTks.cons _ _ _ (isTks.cons _ _ _ (isTks.cons _ _ _ (isTks.cons _ _ _ (isTks.cons _ _ _ (isTks.cons _ _ _ .nil))))))
     obtain ⟨acc,hac⟩ : ∃ z,pre ++ catT (polT full) (ps.take i) = z:=⟨_,rfl⟩
     have hal : acc.length <= 2 ^ 37:=by rw [<- hac,List.length_append];omega
     rw [hac] at hct hA
     cases hf' with
     | false =>
      simp +contextual (maxSteps:=10000000) only [t1,t2,t8,rdAt_E hg,rdAt_Ea hg,d1,hx,mkP,φtk1,mkT,go_sem]
      refine app_accT (bytes:=32) _ hA t7.fit hct.fit (by simp;omega) (by simp;omega) fun d2 T2 hA2=>?_
      clear hA
      obtain ⟨hd,hhd⟩ : ∃ hd,hd = [mkT 1 wPolicy 0,mkT 1 nm 0,mkT 1 wBy 0,mkT 1 bn 0,mkT 1 wUse 0,mkT 1 us' 0,mkT 5 [123] 0]:=⟨_,rfl⟩
      have hdt : isTks hd:=by rw [hhd];exact t7
      have hdl : hd.length <= 2 ^ 30:=by rw [hhd];simp
      have hA : accT 3 T (acc ++ hd) d2 T2:=by rw [hhd];exact hA2
      clear hA2
      simp only [Bool.false_eq_true,if_false,List.append_nil] at nx
      simp +contextual (maxSteps:=10000000) only [t1,t2,t8,φtk1,mkT,go_sem]
      refine W_each rs (fun j s=>s.t 1 = .bool full /\ s.t 2 = .ptr H.length 0 /\ s.t 8 = .int .i64 (i : Int) /\ s.t 9 = .ptr B.length 0 /\ Ext (B ++ [.row (mkP nm bn us' false e mm rs).cells]) s.H /\ s.t 10 = .int .i64 (j : Int) /\ accT 3 T (acc ++ hd ++ catT (ruleT full) (rs.take j)) (s.t 5) s.T) hX ⟨by simp [upd,t1],by simp [upd,t2],by simp [upd,t8],by simp [upd],Ext.refl _,by simp [upd],by simpa [upd,catT] using hA⟩ ?_ ?_
      ·clear hA t1 t2 t8
       rintro j x ⟨t,B',T'⟩ hx hm hj ⟨t1,t2,t8,t9,hB',t10,hA⟩
       simp only at t1 t2 t8 t9 hB' t10 hA
       have d2 : decide ((j : Int) < rs.length) = true:=by simpa using hj
       have pr:=ruleT_at (hpr x hm)
       have er:=isR_erase (k5 x hm)
       obtain ⟨q1,q2,q3,q4⟩:=isR_cells (k5 x hm)
       have hg':=hB'.get (o:=B.length) (by simp;rfl)
       simp only [mkP,D.cells] at hg'
       have nx2:=catT_succ (f:=ruleT full) hx
       have hrt:=ruleT_tok full x
       have hrl:=ruleT_len (hpr x hm)
       have hcl2:=catT_take_len (f:=ruleT full) (i:=j) (B:=2 ^ 29) (fun x hx=>ruleT_len (hpr x hx)) hprl
       have hct2 : isTks (acc ++ hd ++ catT (ruleT full) (rs.take j)):=(hct.app hdt).app (catT_tok fun x _=>ruleT_tok _ x)
       have hl2 : (acc ++ hd ++ catT (ruleT full) (rs.take j)).length <= 2 ^ 38:=by simp only [List.length_append];omega
       rw [nx2,← List.append_assoc]
       obtain ⟨acc2,hac2⟩ : ∃ z,acc ++ hd ++ catT (ruleT full) (rs.take j) = z:=⟨_,rfl⟩
       rw [hac2] at hA hct2 hl2 ⊢
       obtain ⟨RT,hRT⟩ : ∃ z,ruleT full x = z:=⟨_,rfl⟩
       rw [hRT] at pr hrt hrl ⊢
       simp +contextual (maxSteps:=10000000) only [t1,t2,t8,t9,t10,rdAt_E hg',d2,hx,q1,q2,q3,q4,er,pr,go_sem]
       refine app_accT (bytes:=32) _ hA hrt.fit hct2.fit (by omega) (by omega) fun d3 T3 hA3=>?_
       simp +contextual (maxSteps:=10000000) only [t1,t2,t8,t9,t10,wrap_succ j (by omega),go_sem]
       exact ⟨hB',hA3⟩
      ·clear hA t1 t2 t8
       rintro ⟨t,B',T'⟩ ⟨t1,t2,t8,t9,hB',t10,hA⟩
       simp only at t1 t2 t8 t9 hB' t10 hA
       have d2 : decide ((rs.length : Int) < rs.length) = false:=by simp
       rw [List.take_length] at hA
       have hg':=hB'.get (o:=B.length) (by simp;rfl)
       simp only [mkP,D.cells] at hg'
       have hcl2:=catT_len (f:=ruleT full) (l:=rs) (fun x hx=>ruleT_len (hpr x hx))
       have hcl3:=Nat.mul_le_mul_left (2 ^ 29) hprl
       have hct2 : isTks (acc ++ hd ++ catT (ruleT full) rs):=(hct.app hdt).app (catT_tok fun x _=>ruleT_tok _ x)
       simp +contextual (maxSteps:=10000000) only [t1,t2,t8,t9,t10,rdAt_E hg',d2,φtk1,mkT,go_sem]
       refine app_accT (bytes:=32) _ (hA.app _) rfl hct2.fit (by simp;omega) (by simp;omega) fun d3 T3 hA3=>?_
       simp +contextual (maxSteps:=10000000) only [t1,t2,t8,wrap_succ i (by omega),go_sem]
       refine ⟨(hB.app _).trans hB',?_⟩
       rw [nx,← List.append_assoc,hac,← hhd]
       simpa [mkT,wPolicy,wBy,wUse] using hA3
     | true =>
      obtain ⟨hge,hle⟩:=hpe rfl
      have p24:=tok24_at he hge hle
      simp only at p24
      have hkt:=tkC_tks full e
      obtain ⟨X,hXe⟩ : ∃ z,tkC full e = z:=⟨_,rfl⟩
      rw [hXe] at p24 hkt hle
      simp only [if_true,hXe] at nx
      simp +contextual (maxSteps:=10000000) only [t1,t2,t8,rdAt_E hg,rdAt_Ea hg,d1,hx,mkP,φtk1,mkT,go_sem]
      refine app_accT (bytes:=32) _ hA t7.fit hct.fit (by simp;omega) (by simp;omega) fun d2 T2 hA2=>?_
      simp +contextual (maxSteps:=10000000) only [t1,t2,t8,φtk1,mkT,go_sem]
      refine app_accT (bytes:=32) [mkT 1 wFor 0] (hA2.app _) rfl (hct.app t7).fit (by simp;omega) (by simp;omega) fun d3 T3 hA3=>?_
      simp +contextual (maxSteps:=10000000) only [t1,t2,t8,hE,ee,p24,φtk1,mkT,go_sem]
      refine app_accT (bytes:=32) _ hA3 hkt.fit ((hct.app t7).app (isTks.cons 1 wFor 0 isTks.nil)).fit (by simp;omega) (by simp;omega) fun d4 T4 hA4=>?_
      simp +contextual (maxSteps:=10000000) only [t1,t2,t8,φtk1,mkT,go_sem]
      refine app_accT (bytes:=32) [mkT 5 [59] 0] (hA4.app _) rfl (((hct.app t7).app (isTks.cons 1 wFor 0 isTks.nil)).app hkt).fit (by simp;omega) (by simp;omega) fun d5 T5 hA5=>?_
      clear hA hA2 hA3 hA4
      obtain ⟨hd,hhd⟩ : ∃ hd,hd = [mkT 1 wPolicy 0,mkT 1 nm 0,mkT 1 wBy 0,mkT 1 bn 0,mkT 1 wUse 0,mkT 1 us' 0,mkT 5 [123] 0] ++ mkT 1 wFor 0 :: (X ++ [mkT 5 [59] 0]):=⟨_,rfl⟩
      have hdt : isTks hd:=by rw [hhd];exact t7.app (isTks.cons _ _ _ (hkt.app (isTks.cons _ _ _ .nil)))
      have hdl : hd.length <= 2 ^ 30:=by rw [hhd];simp;omega
      have hA : accT 3 T (acc ++ hd) d5 T5:=by rw [hhd];simpa [mkT,wPolicy,wBy,wUse] using hA5
      clear hA5
      rw [<- hhd] at nx
      simp +contextual (maxSteps:=10000000) only [t1,t2,t8,φtk1,mkT,go_sem]
      refine W_each rs (fun j s=>s.t 1 = .bool full /\ s.t 2 = .ptr H.length 0 /\ s.t 8 = .int .i64 (i : Int) /\ s.t 9 = .ptr B.length 0 /\ Ext (B ++ [.row (mkP nm bn us' true e mm rs).cells]) s.H /\ s.t 10 = .int .i64 (j : Int) /\ accT 3 T (acc ++ hd ++ catT (ruleT full) (rs.take j)) (s.t 5) s.T) hX ⟨by simp [upd,t1],by simp [upd,t2],by simp [upd,t8],by simp [upd],Ext.refl _,by simp [upd],by simpa [upd,catT] using hA⟩ ?_ ?_
      ·clear hA t1 t2 t8
       rintro j x ⟨t,B',T'⟩ hx hm hj ⟨t1,t2,t8,t9,hB',t10,hA⟩
       simp only at t1 t2 t8 t9 hB' t10 hA
       have d2 : decide ((j : Int) < rs.length) = true:=by simpa using hj
       have pr:=ruleT_at (hpr x hm)
       have er:=isR_erase (k5 x hm)
       obtain ⟨q1,q2,q3,q4⟩:=isR_cells (k5 x hm)
       have hg':=hB'.get (o:=B.length) (by simp;rfl)
       simp only [mkP,D.cells] at hg'
       have nx2:=catT_succ (f:=ruleT full) hx
       have hrt:=ruleT_tok full x
       have hrl:=ruleT_len (hpr x hm)
       have hcl2:=catT_take_len (f:=ruleT full) (i:=j) (B:=2 ^ 29) (fun x hx=>ruleT_len (hpr x hx)) hprl
       have hct2 : isTks (acc ++ hd ++ catT (ruleT full) (rs.take j)):=(hct.app hdt).app (catT_tok fun x _=>ruleT_tok _ x)
       have hl2 : (acc ++ hd ++ catT (ruleT full) (rs.take j)).length <= 2 ^ 38:=by simp only [List.length_append];omega
       rw [nx2,← List.append_assoc]
       obtain ⟨acc2,hac2⟩ : ∃ z,acc ++ hd ++ catT (ruleT full) (rs.take j) = z:=⟨_,rfl⟩
       rw [hac2] at hA hct2 hl2 ⊢
       obtain ⟨RT,hRT⟩ : ∃ z,ruleT full x = z:=⟨_,rfl⟩
       rw [hRT] at pr hrt hrl ⊢
       simp +contextual (maxSteps:=10000000) only [t1,t2,t8,t9,t10,rdAt_E hg',d2,hx,q1,q2,q3,q4,er,pr,go_sem]
       refine app_accT (bytes:=32) _ hA hrt.fit hct2.fit (by omega) (by omega) fun d3 T3 hA3=>?_
       simp +contextual (maxSteps:=10000000) only [t1,t2,t8,t9,t10,wrap_succ j (by omega),go_sem]
       exact ⟨hB',hA3⟩
      ·clear hA t1 t2 t8
       rintro ⟨t,B',T'⟩ ⟨t1,t2,t8,t9,hB',t10,hA⟩
       simp only at t1 t2 t8 t9 hB' t10 hA
       have d2 : decide ((rs.length : Int) < rs.length) = false:=by simp
       rw [List.take_length] at hA
       have hg':=hB'.get (o:=B.length) (by simp;rfl)
       simp only [mkP,D.cells] at hg'
       have hcl2:=catT_len (f:=ruleT full) (l:=rs) (fun x hx=>ruleT_len (hpr x hx))
       have hcl3:=Nat.mul_le_mul_left (2 ^ 29) hprl
       have hct2 : isTks (acc ++ hd ++ catT (ruleT full) rs):=(hct.app hdt).app (catT_tok fun x _=>ruleT_tok _ x)
       simp +contextual (maxSteps:=10000000) only [t1,t2,t8,t9,t10,rdAt_E hg',d2,φtk1,mkT,go_sem]
       refine app_accT (bytes:=32) _ (hA.app _) rfl hct2.fit (by simp;omega) (by simp;omega) fun d3 T3 hA3=>?_
       simp +contextual (maxSteps:=10000000) only [t1,t2,t8,wrap_succ i (by omega),go_sem]
       refine ⟨(hB.app _).trans hB',?_⟩
       rw [nx,← List.append_assoc,hac]
       simpa [mkT,wPolicy,wBy,wUse] using hA3
    ·rintro ⟨t,B,T'⟩ ⟨t1,t2,hB,t8,hA⟩
     simp only at t1 t2 hB t8 hA
     have d1 : decide ((ps.length : Int) < ps.length) = false:=by simp
     rw [List.take_length] at hA
     have hg:=hB.get (o:=H.length) (by simp;rfl)
     simp +contextual (maxSteps:=10000000) only [t1,t2,t8,rdAt_E hg,d1,go_sem]
     rw [leaves_E hB.pre hA.1]
     rw [hZ] at hA
     refine hA.erase hk.erase ?_
     rw [<- hZ,← hpre];simp
  ·cases h
 ·cases h
end GP
namespace GP
open Go Go.Proofs
set_option maxRecDepth 100000
section
variable {toks : List D} {a : Nat}
end
theorem okF_p {f : D} (h : okF f = true) : inB whoW (fwho f) = true /\ nameB (fname f) = true /\ 1 <= fkind f /\ fkind f <= 4:=by
 unfold okF at h
 simp only [Bool.and_eq_true,Bool.not_eq_true',decide_eq_false_iff_not] at h
 exact ⟨h.1,h.2.1,by omega,by omega⟩
structure okE (e : D) : Prop where
 s : isE nodeB e
 g : GoodE e
 r : rgC e
 d : dpt nodeB e <= 12
structure rdR (r : D) : Prop where
 s : isR nodeB r
 o : okR r = true
 g : rgC (rE r)
theorem okEx_of {b : Bool} {e : D} (h : isE nodeB e) (ho : optB b e = true) (hr : rgC e) (hb : b = true) : okE e:=by
 subst hb
 unfold optB at ho
 simp only [if_true,Bool.and_eq_true,decide_eq_true_eq] at ho
 exact ⟨h,goodE_of h ho.1,hr,ho.2⟩
theorem okR_p {r : D} (h : okR r = true) : nameB (rNm r) = true /\ optB (rHi r) (rE r) = true /\ (rDu r).all txtB = true /\ (rAd r).all txtB = true:=by
 unfold okR at h
 simp only [Bool.and_eq_true] at h
 exact ⟨h.1,h.2.1,h.2.2.1,h.2.2.2⟩
end GP
namespace GP
open Go Go.Proofs
set_option maxRecDepth 100000
structure rdP (F G : Nat) (p : D) : Prop where
 s : isPo nodeB p
 o : okP p = true
 g : rgC (pE p)
 r : ∀ r ∈ pRs p,rgC (rE r) /\ (rDu r).length + (rAd r).length < F
 l : (pRs p).length < G
theorem okP_p {p : D} (h : okP p = true) : nameB (pNm p) = true /\ nameB (pBy p) = true /\ formI 1 (pUs p) 0 = true /\ optB (pHf p) (pE p) = true /\ ∀ r ∈ pRs p,okR r = true:=by
 unfold okP at h
 simp only [Bool.and_eq_true,List.all_eq_true] at h
 exact ⟨h.1,h.2.1,h.2.2.1,h.2.2.2.1,h.2.2.2.2⟩
theorem isPo_parts {p : D} (h : isPo nodeB p) : isE nodeB (pE p) /\ (pNm p).length <= 2 ^ 47 /\ (pBy p).length <= 2 ^ 47 /\ (pUs p).length <= 2 ^ 47 /\ (pRs p).length <= 2 ^ 47 /\ ∀ x ∈ pRs p,isR nodeB x:=by
 obtain ⟨nm,bn,us,hf,e,m,rs,rfl,he,k1,k2,k3,k4,k5⟩:=h
 rw [pRs_mk,pE_mk _ _ _ _ _ _ _ he]
 exact ⟨he,k1,k2,k3,k4,k5⟩
structure rdD (d : D) : Prop where
 s : isDoc nodeB d
 o : okD d = true
 f : (dFs d).length < 1000
 l : (dPs d).length < 1000
 g : ∀ p ∈ dPs d,rgC (pE p) /\ (pRs p).length < 1000 /\ ∀ r ∈ pRs p,rgC (rE r) /\ (rDu r).length + (rAd r).length < 1000
theorem okD_p {d : D} (h : okD d = true) : formI 1 (dUs d) 0 = true /\ (∀ x ∈ dFs d,okF x = true) /\ ∀ x ∈ dPs d,okP x = true:=by
 unfold okD at h
 simp only [Bool.and_eq_true,List.all_eq_true] at h
 exact ⟨h.1,h.2.1,h.2.2⟩
end GP
namespace GP
open Go Go.Proofs
set_option maxRecDepth 100000
def rgD (d : D) : Prop:=∀ p ∈ dPs d,rgC (pE p) /\ ∀ r ∈ pRs p,rgC (rE r)
theorem gt_f {n : Int} {k : Nat} (h : (!gt n k) = true) : (k : Int) <= n:=by
 unfold gt at h
 simp only [Bool.not_eq_true',decide_eq_false_iff_not] at h
 omega
theorem fewR_p {n : Nat} {r : D} (hr : isR n r) (h : fewR n r = true) : isR nodeB r /\ (rDu r).length <= 4 /\ (rAd r).length <= 4 /\ ∀ full,GoodE (rE r) -> (tkC full (rE r)).length <= 2 ^ 28:=by
 unfold fewR at h
 simp only [Bool.and_eq_true] at h
 obtain ⟨⟨h1,h2⟩,h3⟩:=h
 have h2:=gt_f h2
 have h3:=gt_f h3
 obtain ⟨pm,hi,nm,e,m,m',du,ad,rfl,he,k⟩:=hr
 rw [rE_mk _ _ _ _ _ _ _ _ he] at h1
 obtain ⟨h60,hN⟩:=few_facts he h1
 refine ⟨⟨pm,hi,nm,e,m,m',du,ad,rfl,hN,k⟩,by omega,by omega,fun full hg=>?_⟩
 rw [rE_mk _ _ _ _ _ _ _ _ he] at hg ⊢
 have:=tk_size_le (full:=full) n e he hg
 have : 2 ^ 22 * nd n e <= 2 ^ 22 * 60:=Nat.mul_le_mul_left _ h60
 omega
theorem fewP_p {n : Nat} {p : D} (hp : isPo n p) (h : fewP n p = true) : isPo nodeB p /\ (pRs p).length <= 8 /\ (∀ full,GoodE (pE p) -> (tkC full (pE p)).length <= 2 ^ 28) /\ ∀ r ∈ pRs p,isR n r /\ fewR n r = true:=by
 unfold fewP at h
 simp only [Bool.and_eq_true,List.all_eq_true] at h
 obtain ⟨⟨h1,h2⟩,h3⟩:=h
 have h1:=gt_f h1
 obtain ⟨nm,bn,us,hf,e,m,rs,rfl,he,k1,k2,k3,k4,k5⟩:=hp
 rw [pE_mk _ _ _ _ _ _ _ he] at h2
 rw [pRs_mk] at h3 h1
 obtain ⟨h60,hN⟩:=few_facts he h2
 refine ⟨⟨nm,bn,us,hf,e,m,rs,rfl,hN,k1,k2,k3,k4,fun x hx=>(fewR_p (k5 x hx) (h3 x hx)).1⟩,by rw [pRs_mk];omega,fun full hg=>?_,fun r hr=>?_⟩
 ·rw [pE_mk _ _ _ _ _ _ _ he] at hg ⊢
  have:=tk_size_le (full:=full) n e he hg
  have : 2 ^ 22 * nd n e <= 2 ^ 22 * 60:=Nat.mul_le_mul_left _ h60
  omega
 ·rw [pRs_mk] at hr;exact ⟨k5 r hr,h3 r hr⟩
theorem fewD_p {n : Nat} {d : D} (hd : isDoc n d) (h : fewD n d = true) : isDoc nodeB d /\ (dFs d).length <= 12 /\ (dPs d).length <= 6 /\ ∀ p ∈ dPs d,isPo n p /\ fewP n p = true:=by
 unfold fewD at h
 simp only [Bool.and_eq_true,List.all_eq_true] at h
 obtain ⟨⟨⟨h1,h2⟩,h3⟩,h4⟩:=h
 have h1:=gt_f h1
 have h2:=gt_f h2
 obtain ⟨m,fs,us,m',ps,rfl,k1,k2,k3,k4,k5⟩:=hd
 rw [dPs_mk] at h4
 exact ⟨⟨m,fs,us,m',ps,rfl,k1,k2,k3,k4,fun x hx=>(fewP_p (k5 x hx) (h4 x hx)).1⟩,by omega,by omega,by rw [dPs_mk];exact fun p hp=>⟨k5 p hp,h4 p hp⟩⟩
theorem doc_facts {n : Nat} {d : D} (hd : isDoc n d) (hf : fewD n d = true) (ho : okD d = true) (hr : rgD d) : rdD d /\ ∀ full,goodD full d:=by
 obtain ⟨f1,f2,f3,f4⟩:=fewD_p hd hf
 obtain ⟨o1,o2,o3⟩:=okD_p ho
 refine ⟨⟨f1,ho,by omega,by omega,fun p hp=>?_⟩,fun full=>⟨f1,f2,fun f hf=>?_,f3,fun p hp=>?_⟩⟩
 ·obtain ⟨g1,g2⟩:=f4 p hp
  obtain ⟨_,p2,_,p4⟩:=fewP_p g1 g2
  refine ⟨(hr p hp).1,by omega,fun r hx=>⟨(hr p hp).2 r hx,?_⟩⟩
  obtain ⟨i1,i2⟩:=p4 r hx
  obtain ⟨_,r2,r3,_⟩:=fewR_p i1 i2
  omega
 ·obtain ⟨_,_,k1,k2⟩:=okF_p (o2 f hf);exact ⟨k1,k2⟩
 ·obtain ⟨g1,g2⟩:=f4 p hp
  obtain ⟨p1,p2,p3,p4⟩:=fewP_p g1 g2
  obtain ⟨q1,q2,q3,q4,q5⟩:=okP_p (o3 p hp)
  obtain ⟨e1,_,_,_,_,e6⟩:=isPo_parts p1
  refine ⟨p1,fun hb=>?_,p2,fun r hx=>?_⟩
  ·have:=okEx_of e1 q4 (hr p hp).1 hb
   exact ⟨this.g,p3 full this.g⟩
  ·obtain ⟨i1,i2⟩:=p4 r hx
   obtain ⟨r1,r2,r3,r4⟩:=fewR_p i1 i2
   refine ⟨r1,fun hb=>?_,r2,r3⟩
   have hE : isE nodeB (rE r):=by
    obtain ⟨pm,hi,nm,e,m,m',du,ad,hq,he,_⟩:=r1
    rw [hq,rE_mk _ _ _ _ _ _ _ _ he];exact he
   have:=okEx_of hE (okR_p (q5 r hx)).2.1 ((hr p hp).2 r hx) hb
   exact ⟨this.g,r4 full this.g⟩
theorem docT_len {full : Bool} {d : D} (h : goodD full d) : (docT full d).length <= 2 ^ 37:=by
 have h1:=catT_len (f:=factT) (l:=dFs d) (B:=7) fun x _=>factT_len x
 have h2:=catT_len (f:=polT full) (l:=dPs d) (B:=2 ^ 33) fun x hx=>polT_len (h.p x hx)
 have h3:=h.f
 have h4:=Nat.mul_le_mul_left (2 ^ 33) h.l
 unfold docT
 simp only [List.length_append,List.length_cons,List.length_nil];omega
end GP
namespace GP
open Go Go.Proofs Go.Proofs.YtainhmbnbgonhaaGreatDoor
open Go.ChangeShapes Go.WideShapes Go.ChangeAt Go.RowKit
set_option maxRecDepth 100000
theorem cells45 : Tryz.prog.cellsOf 45 = 1:=by kernel_rfl
theorem cells46 : Tryz.prog.cellsOf 46 = 1:=by kernel_rfl
theorem cells48 : Tryz.prog.cellsOf 48 = 3:=by kernel_rfl
theorem cells22 : Tryz.prog.cellsOf 22 = 1:=by kernel_rfl
theorem cells4 : Tryz.prog.cellsOf 4 = 1:=by kernel_rfl
theorem cellsF : Tryz.prog.cellsOf 94 = 4:=by kernel_rfl
theorem cellsP : Tryz.prog.cellsOf 90 = 13:=by kernel_rfl
theorem cellsR : Tryz.prog.cellsOf 92 = 13:=by kernel_rfl
theorem cellsRs : Tryz.prog.cellsOf 88 = 1:=by kernel_rfl
theorem bytesF : 1 <= Tryz.prog.bytesOf 94:=of_decide_eq_true (by kernel_rfl)
theorem bytesP : 1 <= Tryz.prog.bytesOf 90:=of_decide_eq_true (by kernel_rfl)
theorem bytesR : 1 <= Tryz.prog.bytesOf 92:=of_decide_eq_true (by kernel_rfl)
theorem bytes9 : 1 <= Tryz.prog.bytesOf 9:=of_decide_eq_true (by kernel_rfl)
def isStr1 (ds : List D) : Prop:=∃ l,ds = [.str l] /\ l.length <= 2 ^ 47
def isBool1 (ds : List D) : Prop:=∃ b,ds = [.bool b]
def isTexts (ds : List D) : Prop:=∃ (m : Bool) (l : List (List UInt8)),ds = [sliceD m (l.map D.str)] /\ short47 l
def mk1 : List D -> D
 | [.str s]=>.str s
 | ds=>.agg ds
theorem mk1_cells (ds : List D) : (mk1 ds).cells = ds:=by
 unfold mk1;split <;> rfl
theorem rdTexts (W : World) : ∀ fuel,Rds Tryz.prog W 22 isTexts fuel
 | 0=>fun _ _ _ _ _ h _=>by simp [DataW.trod] at h
 | fuel + 1=>by
  refine (rds_slice (P:=Tryz.prog) (w:=W) (mk:=mk1) mk1_cells (sz:=1) (by decide) Tryz.underlying22 cells9 bytes9 (rds_string Tryz.underlying9 fuel)).imp ?_
  rintro ds (rfl | ⟨xs,rfl,h1,h2⟩)
  ·exact ⟨true,[],rfl,by simp [short47]⟩
  ·refine ⟨false,xs.map fun x=>strB (x.headD .top),?_,by simpa using h1,?_⟩
   ·rw [List.map_map]
    congr 2
    refine List.map_congr_left fun x hx=>?_
    obtain ⟨⟨l,rfl,_⟩,_⟩:=h2 x hx
    rfl
   ·intro s hs
    obtain ⟨x,hx,rfl⟩:=List.mem_map.1 hs
    obtain ⟨⟨l,rfl,hl⟩,_⟩:=h2 x hx
    exact hl
theorem isE_list {n : Nat} {ds : List D} (h : isEq' n (D.agg ds)) : ds = [cE (.agg ds) 0,cE (.agg ds) 1,cE (.agg ds) 2,cE (.agg ds) 3,cE (.agg ds) 4,cE (.agg ds) 5,cE (.agg ds) 6,cE (.agg ds) 7]:=by
 have:=ag_isE h.1
 injection this with this
 exact this.symm
def isRq (n : Nat) (r : D) : Prop:=isR n r /\ rgC (rE r)
theorem rdRl (W : World) : ∀ fuel,Rds Tryz.prog W 92 (fun ds=>isRq fuel (D.agg ds)) fuel
 | 0=>fun _ _ _ _ _ h _=>by simp [DataW.trod] at h
 | fuel + 1=>by
  refine (rds_struct (P:=Tryz.prog) (w:=W) (φs:=[isBool1,isStr1,isBool1,fun ds=>isEq' fuel (D.agg ds),isTexts,isTexts]) Tryz.underlying92 rfl ?_ ?_ ?_).imp ?_
  ·simp only [FldsOf,cells9,cells4,cells32,cells22,and_self,and_true,Nat.zero_add,Nat.reduceAdd]
  ·simp only [List.map_cons,List.map_nil,cells9,cells4,cells32,cells22,cellsR];rfl
  ·intro i f φ e1 e2
   match i with
   | 0=>simp at e1 e2;subst e1;subst e2;exact rds_bool Tryz.underlying4 fuel
   | 1=>simp at e1 e2;subst e1;subst e2;exact rds_string Tryz.underlying9 fuel
   | 2=>simp at e1 e2;subst e1;subst e2;exact rds_bool Tryz.underlying4 fuel
   | 3=>simp at e1 e2;subst e1;subst e2;exact (rdE W fuel).1
   | 4=>simp at e1 e2;subst e1;subst e2;exact rdTexts W fuel
   | 5=>simp at e1 e2;subst e1;subst e2;exact rdTexts W fuel
   | i + 6=>simp at e1
  ·rintro ds ⟨x1,y1,rfl,⟨pm,rfl⟩,x2,y2,rfl,⟨nm,rfl,h2⟩,x3,y3,rfl,⟨hi,rfl⟩,x4,y4,rfl,h4,x5,y5,rfl,⟨m,du,rfl,h5⟩,x6,y6,rfl,⟨m',ad,rfl,h6⟩,rfl⟩
   have e8:=isE_list h4
   have hq : D.agg ([.bool pm] ++ ([.str nm] ++ ([.bool hi] ++ (x4 ++ ([sliceD m (du.map D.str)] ++ ([sliceD m' (ad.map D.str)] ++ [])))))) = mkR pm hi nm (.agg x4) m m' du ad:=by
    unfold mkR
    conv=>lhs;rw [e8]
    rfl
   have hE : isE (fuel + 1) (.agg x4):=isE_mono h4.1
   refine ⟨?_,?_⟩
   ·show isR (fuel + 1) _
    exact ⟨pm,hi,nm,.agg x4,m,m',du,ad,by first | exact hq | (simpa using hq),hE,h2,h5,h6⟩
   ·have : rE (D.agg ([.bool pm] ++ ([.str nm] ++ ([.bool hi] ++ (x4 ++ ([sliceD m (du.map D.str)] ++ ([sliceD m' (ad.map D.str)] ++ []))))))) = .agg x4:=by rw [hq,rE_mk _ _ _ _ _ _ _ _ hE]
    have h4r : rgC (D.agg x4):=⟨fuel,h4.2⟩
    first | (rw [this];exact h4r) | (simp only [List.append_eq,List.cons_append,List.nil_append] at this ⊢;rw [this];exact h4r)
theorem rg_up {n : Nat} {r : D} (h : isRq n r) : isRq (n + 1) r:=by
 obtain ⟨⟨pm,hi,nm,e,m,m',du,ad,rfl,he,k⟩,hr⟩:=h
 exact ⟨⟨pm,hi,nm,e,m,m',du,ad,rfl,isE_mono he,k⟩,hr⟩
theorem rdRls (W : World) : ∀ fuel,Rds Tryz.prog W 88 (isLd (isRq fuel)) fuel
 | 0=>fun _ _ _ _ _ h _=>by simp [DataW.trod] at h
 | fuel + 1=>(rds_slice (P:=Tryz.prog) (w:=W) (mk:=D.agg) (fun _=>rfl) (sz:=13) (by decide) Tryz.underlying88 cellsR bytesR (rdRl W fuel)).imp fun ds hd=>isLd_of (fun x (hx : isRq fuel (D.agg x))=>rg_up hx) hd
def isPq (n : Nat) (p : D) : Prop:=isPo n p /\ rgC (pE p) /\ ∀ r ∈ pRs p,rgC (rE r)
theorem rdPl (W : World) : ∀ fuel,Rds Tryz.prog W 90 (fun ds=>isPq fuel (D.agg ds)) fuel
 | 0=>fun _ _ _ _ _ h _=>by simp [DataW.trod] at h
 | fuel + 1=>by
  refine (rds_struct (P:=Tryz.prog) (w:=W) (φs:=[isStr1,isStr1,isStr1,isBool1,fun ds=>isEq' fuel (D.agg ds),isLd (isRq fuel)]) Tryz.underlying90 rfl ?_ ?_ ?_).imp ?_
  ·simp only [FldsOf,cells9,cells4,cells32,cellsRs,and_self,and_true,Nat.zero_add,Nat.reduceAdd]
  ·simp only [List.map_cons,List.map_nil,cells9,cells4,cells32,cellsRs,cellsP];rfl
  ·intro i f φ e1 e2
   match i with
   | 0=>simp at e1 e2;subst e1;subst e2;exact rds_string Tryz.underlying9 fuel
   | 1=>simp at e1 e2;subst e1;subst e2;exact rds_string Tryz.underlying9 fuel
   | 2=>simp at e1 e2;subst e1;subst e2;exact rds_string Tryz.underlying9 fuel
   | 3=>simp at e1 e2;subst e1;subst e2;exact rds_bool Tryz.underlying4 fuel
   | 4=>simp at e1 e2;subst e1;subst e2;exact (rdE W fuel).1
   | 5=>simp at e1 e2;subst e1;subst e2;exact rdRls W fuel
   | i + 6=>simp at e1
  ·rintro ds ⟨x1,y1,rfl,⟨nm,rfl,h1⟩,x2,y2,rfl,⟨bn,rfl,h2⟩,x3,y3,rfl,⟨us,rfl,h3⟩,x4,y4,rfl,⟨hf,rfl⟩,x5,y5,rfl,h5,x6,y6,rfl,⟨l,rfl,m,rs,rfl,h6,h7⟩,rfl⟩
   have e8:=isE_list h5
   have hq : D.agg ([.str nm] ++ ([.str bn] ++ ([.str us] ++ ([.bool hf] ++ (x5 ++ ([sliceD m rs] ++ [])))))) = mkP nm bn us hf (.agg x5) m rs:=by
    unfold mkP
    conv=>lhs;rw [e8]
    rfl
   have hE : isE (fuel + 1) (.agg x5):=isE_mono h5.1
   show isPq (fuel + 1) (D.agg ([.str nm] ++ ([.str bn] ++ ([.str us] ++ ([.bool hf] ++ (x5 ++ ([sliceD m rs] ++ [])))))))
   rw [hq]
   refine ⟨⟨nm,bn,us,hf,.agg x5,m,rs,rfl,hE,h1,h2,h3,h6,fun x hx=>(rg_up (h7 x hx)).1⟩,?_,?_⟩
   ·rw [pE_mk _ _ _ _ _ _ _ hE];exact ⟨fuel,h5.2⟩
   ·rw [pRs_mk];exact fun r hr=>(h7 r hr).2
theorem isPo_up {n : Nat} {p : D} (h : isPq n p) : isPq (n + 1) p:=by
 obtain ⟨⟨nm,bn,us,hf,e,m,rs,rfl,he,k1,k2,k3,k4,k5⟩,hr⟩:=h
 refine ⟨⟨nm,bn,us,hf,e,m,rs,rfl,isE_mono he,k1,k2,k3,k4,fun x hx=>?_⟩,hr⟩
 obtain ⟨pm,hi,nm,e,m,m',du,ad,rfl,he,k⟩:=k5 x hx
 exact ⟨pm,hi,nm,e,m,m',du,ad,rfl,isE_mono he,k⟩
theorem rdPls (W : World) : ∀ fuel,Rds Tryz.prog W 46 (isLd (isPq fuel)) fuel
 | 0=>fun _ _ _ _ _ h _=>by simp [DataW.trod] at h
 | fuel + 1=>(rds_slice (P:=Tryz.prog) (w:=W) (mk:=D.agg) (fun _=>rfl) (sz:=13) (by decide) Tryz.underlying46 cellsP bytesP (rdPl W fuel)).imp fun ds hd=>isLd_of (fun x (hx : isPq fuel (D.agg x))=>isPo_up hx) hd
theorem rdFl (W : World) : ∀ fuel,Rds Tryz.prog W 94 (fun ds=>isF (D.agg ds)) fuel
 | 0=>fun _ _ _ _ _ h _=>by simp [DataW.trod] at h
 | fuel + 1=>by
  refine (rds_struct (P:=Tryz.prog) (w:=W) (φs:=[isStr1,isStr1,fun ds=>∃ n,ds = [.int .i64 n] /\ IntKind.i64.min <= n /\ n <= IntKind.i64.max,isBool1]) Tryz.underlying94 rfl ?_ ?_ ?_).imp ?_
  ·simp only [FldsOf,cells9,cells4,cells3,and_self,and_true,Nat.zero_add,Nat.reduceAdd]
  ·simp only [List.map_cons,List.map_nil,cells9,cells4,cells3,cellsF];rfl
  ·intro i f φ e1 e2
   match i with
   | 0=>simp at e1 e2;subst e1;subst e2;exact rds_string Tryz.underlying9 fuel
   | 1=>simp at e1 e2;subst e1;subst e2;exact rds_string Tryz.underlying9 fuel
   | 2=>simp at e1 e2;subst e1;subst e2;exact rds_int Tryz.underlying3 fuel
   | 3=>simp at e1 e2;subst e1;subst e2;exact rds_bool Tryz.underlying4 fuel
   | i + 4=>simp at e1
  ·rintro ds ⟨x1,y1,rfl,⟨w,rfl,h1⟩,x2,y2,rfl,⟨n,rfl,h2⟩,x3,y3,rfl,⟨k,rfl,k1,k2⟩,x4,y4,rfl,⟨b,rfl⟩,rfl⟩
   rw [i64min] at k1;rw [i64max] at k2
   exact ⟨w,n,k,b,rfl,h1,h2,k1,by omega⟩
theorem rdFls (W : World) : ∀ fuel,Rds Tryz.prog W 45 (isLd isF) fuel
 | 0=>fun _ _ _ _ _ h _=>by simp [DataW.trod] at h
 | fuel + 1=>(rds_slice (P:=Tryz.prog) (w:=W) (mk:=D.agg) (fun _=>rfl) (sz:=4) (by decide) Tryz.underlying45 cellsF bytesF (rdFl W fuel)).imp fun ds hd=>isLd_of (fun x (hx : isF (D.agg x))=>hx) hd
theorem rdDc (W : World) : ∀ fuel,Rds Tryz.prog W 48 (fun ds=>∃ n,isDoc n (D.agg ds) /\ rgD (D.agg ds)) fuel
 | 0=>fun _ _ _ _ _ h _=>by simp [DataW.trod] at h
 | fuel + 1=>by
  refine (rds_struct (P:=Tryz.prog) (w:=W) (φs:=[isLd isF,isStr1,isLd (isPq fuel)]) Tryz.underlying48 rfl ?_ ?_ ?_).imp ?_
  ·simp only [FldsOf,cells9,cells45,cells46,and_self,and_true,Nat.zero_add,Nat.reduceAdd]
  ·simp only [List.map_cons,List.map_nil,cells9,cells45,cells46,cells48];rfl
  ·intro i f φ e1 e2
   match i with
   | 0=>simp at e1 e2;subst e1;subst e2;exact rdFls W fuel
   | 1=>simp at e1 e2;subst e1;subst e2;exact rds_string Tryz.underlying9 fuel
   | 2=>simp at e1 e2;subst e1;subst e2;exact rdPls W fuel
   | i + 3=>simp at e1
  ·rintro ds ⟨x1,y1,rfl,⟨l,rfl,m,fs,rfl,h1,h2⟩,x2,y2,rfl,⟨us,rfl,h3⟩,x3,y3,rfl,⟨l',rfl,m',ps,rfl,h4,h5⟩,rfl⟩
   refine ⟨fuel,⟨m,fs,us,m',ps,rfl,h1,h3,h4,h2,fun x hx=>(h5 x hx).1⟩,?_⟩
   show rgD (mkDoc m fs us m' ps)
   unfold rgD
   rw [dPs_mk]
   exact fun p hp=>(h5 p hp).2
theorem argDoc (W : World) : Arg Tryz.prog W 48 (fun d=>∃ n,isDoc n d /\ rgD d):=by
 intro H enc v d ps base h1 h2 h3
 obtain ⟨x,k1,ds,rfl,k2⟩:=arg_struct Tryz.underlying48 (φ:=fun ds=>∃ n,isDoc n (D.agg ds) /\ rgD (D.agg ds)) (fun f=>rdDc W f) H enc v d ps base h1 h2 h3
 exact ⟨_,k1,k2⟩
end GP
