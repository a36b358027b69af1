import Derived.Test.YtainhmbnbgonhaaGreatDoorProg
import Derived.Test.YtainhmbnbgonhaaGreatDoorM5
import Derived.Test.YtainhmbnbgonhaaGreatDoorM6
import Derived.Test.YtainhmbnbgonhaaGreatDoorM10
import Derived.Test.YtainhmbnbgonhaaGreatDoorM11
set_option linter.unusedSimpArgs false
set_option linter.unnecessarySimpa false
namespace GP
open Go Go.Proofs
set_option maxRecDepth 100000
theorem bagL_mono {toks : List D} : ∀ (f g : Nat) (out : List D) (st : St) (r : List D × St),f <= g -> bagL toks f out st = some r -> bagL toks g out st = some r
 | 0,_,_,_,_,_,h=>by simp [bagL] at h
 | f + 1,0,_,_,_,hl,_=>by omega
 | f + 1,g + 1,out,st,r,hl,h=>by
  simp only [bagL] at h ⊢
  split at h
  ·rename_i q;rw [if_pos q];exact bagL_mono f g _ _ r (by omega) h
  ·rename_i q;rw [if_neg q];exact h
theorem bagP_mono {toks : List D} {f g fr : Nat} {st : St} {r : D × St} (hl : f <= g) (h : bagP toks f fr st = some r) : bagP toks g fr st = some r:=by
 unfold bagP at h ⊢
 split at h
 ·cases h
 ·rename_i out st1 hb
  rw [bagL_mono f g _ _ _ hl hb];exact h
def partM (P Q : Part) : Prop:=∀ toks st r,P toks st = some r -> Q toks st = some r
theorem rowL_mono {P Q : Part} (hP : partM P Q) {toks : List D} {bs : List (List UInt8)} : ∀ (f g : Nat) (x : D) (st : St) (r : D × St),f <= g -> rowL toks P bs f x st = some r -> rowL toks Q bs g x st = some r
 | 0,_,_,_,_,_,h=>by simp [rowL] at h
 | f + 1,0,_,_,_,hl,_=>by omega
 | f + 1,g + 1,x,st,r,hl,h=>by
  simp only [rowL] at h ⊢
  split at h
  ·rename_i q;rw [if_pos q];exact h
  ·rename_i q;rw [if_neg q]
   split at h
   ·exact h
   ·split at h
    ·cases h
    ·rename_i y st2 hy
     rw [hP _ _ _ hy]
     exact rowL_mono hP f g _ st2 r (by omega) h
theorem rowP_mono {P Q : Part} (hP : partM P Q) {toks : List D} {bs : List (List UInt8)} {f g : Nat} (hl : f <= g) {st : St} {r : D × St} (h : rowP toks P bs f st = some r) : rowP toks Q bs g st = some r:=by
 unfold rowP at h ⊢
 split at h
 ·cases h
 ·rename_i x st1 hx
  rw [hP _ _ _ hx]
  exact rowL_mono hP f g x st1 r hl h
theorem oneS_mono {op : List UInt8} {z z' : Option (D × St)} {r : D × St} (hz : ∀ r,z = some r -> z' = some r) (h : oneS op z = some r) : oneS op z' = some r:=by
 cases z with
 | none=>cases h
 | some z=>rw [hz _ rfl];exact h
theorem lv_mono : ∀ (f g : Nat) (lv : Lv),f <= g -> partM (pLv f lv) (pLv g lv)
 | 0,_,_,_,_,_,_,h=>by cases h
 | f + 1,0,_,hl,_,_,_,_=>by omega
 | f + 1,g + 1,lv,hl,toks,st,r,h=>by
  have hl : f <= g:=by omega
  have M:=fun lv=>lv_mono f g lv hl
  cases lv with
  | expr=>exact rowP_mono (M .and) hl h
  | and=>exact rowP_mono (M .not) hl h
  | sum=>exact rowP_mono (M .prod) hl h
  | prod=>exact rowP_mono (M .unary) hl h
  | not =>
   simp only [pLv] at h ⊢
   split at h
   ·rename_i q;rw [if_pos q];exact oneS_mono (fun r hr=>M .not _ _ r hr) h
   ·rename_i q;rw [if_neg q];exact M .cmp _ _ r h
  | unary =>
   simp only [pLv] at h ⊢
   split at h
   ·rename_i q;rw [if_pos q];exact oneS_mono (fun r hr=>M .unary _ _ r hr) h
   ·rename_i q;rw [if_neg q];exact M .plain _ _ r h
  | cmp =>
   simp only [pLv] at h ⊢
   obtain ⟨z,hz⟩ : ∃ z,pLv f .sum toks st = z:=⟨_,rfl⟩
   rw [hz] at h
   cases z with
   | none=>cases h
   | some z =>
    obtain ⟨x,st1⟩:=z
    rw [M .sum _ _ _ hz]
    simp only [cmpS2] at h ⊢
    split at h
    ·exact h
    ·split at h
     ·cases h
     ·rename_i y st2 hy
      rw [M .sum _ _ _ hy];exact h
  | inner =>
   simp only [pLv] at h ⊢
   obtain ⟨z,hz⟩ : ∃ z,pLv f .expr toks (mustP toks [40] st) = z:=⟨_,rfl⟩
   rw [hz] at h
   cases z with
   | none=>cases h
   | some z=>rw [M .expr _ _ _ hz];exact h
  | plain =>
   simp only [pLv,plainP] at h ⊢
   split at h
   ·rename_i q;rw [if_pos q];exact h
   ·rename_i q;rw [if_neg q]
    split at h
    ·rename_i q;rw [if_pos q];exact h
    ·rename_i q;rw [if_neg q]
     split at h
     ·rename_i q;rw [if_pos q];exact M .inner _ _ r h
     ·rename_i q;rw [if_neg q]
      split at h
      ·rename_i q;rw [if_pos q];exact bagP_mono hl h
      ·rename_i q;rw [if_neg q]
       split at h
       ·rename_i q;rw [if_pos q];exact oneS_mono (fun r hr=>M .inner _ _ r hr) h
       ·rename_i q;rw [if_neg q];exact h
def Pr (lv : Lv) (toks : List D) (st : St) (r : D × St) : Prop:=∃ f,pLv f lv toks st = some r
def Rw (lv : Lv) (bs : List (List UInt8)) (toks : List D) (x : D) (st : St) (r : D × St) : Prop:=∃ f,rowL toks (pLv f lv) bs f x st = some r
section
variable {toks : List D} {st st1 st2 : St} {x y : D} {r : D × St} {lv : Lv} {bs : List (List UInt8)} {w : List UInt8}
theorem Rw.stop (h : firstP toks st bs = none) : Rw lv bs toks x st (x,st):=⟨1,by
 simp only [rowL];rw [h];simp⟩
theorem Rw.step (h0 : st.2 = 0) (h : firstP toks st bs = some w) (hy : Pr lv toks (st.1 + 1,0) (y,st2)) (hr : Rw lv bs toks (twoD w x y) st2 r) : Rw lv bs toks x st r:=by
 obtain ⟨f,hf⟩:=hy
 obtain ⟨g,hg⟩:=hr
 refine ⟨max f g + 1,?_⟩
 simp only [rowL]
 rw [if_neg (by rw [h0];decide),h]
 simp only
 rw [h0,lv_mono f (max f g + 1) lv (by omega) _ _ _ hf]
 simp only
 exact rowL_mono (lv_mono g (max f g + 1) lv (by omega)) g (max f g) _ _ _ (by omega) hg
theorem row_of {lv' : Lv} (e : ∀ f,pLv (f + 1) lv' = fun toks st=>rowP toks (pLv f lv) bs f st) (hx : Pr lv toks st (x,st1)) (hr : Rw lv bs toks x st1 r) : Pr lv' toks st r:=by
 obtain ⟨f,hf⟩:=hx
 obtain ⟨g,hg⟩:=hr
 refine ⟨max f g + 1,?_⟩
 rw [e]
 simp only [rowP]
 rw [lv_mono f (max f g) lv (by omega) _ _ _ hf]
 simp only
 exact rowL_mono (lv_mono g (max f g) lv (by omega)) g (max f g) _ _ _ (by omega) hg
theorem Pr.expr (hx : Pr .and toks st (x,st1)) (hr : Rw .and [wOr] toks x st1 r) : Pr .expr toks st r:=row_of (fun _=>rfl) hx hr
theorem Pr.and (hx : Pr .not toks st (x,st1)) (hr : Rw .not [wAnd] toks x st1 r) : Pr .and toks st r:=row_of (fun _=>rfl) hx hr
theorem Pr.sum (hx : Pr .prod toks st (x,st1)) (hr : Rw .prod [[43],[45]] toks x st1 r) : Pr .sum toks st r:=row_of (fun _=>rfl) hx hr
theorem Pr.prod (hx : Pr .unary toks st (x,st1)) (hr : Rw .unary [[42]] toks x st1 r) : Pr .prod toks st r:=row_of (fun _=>rfl) hx hr
theorem Pr.not1 (h0 : st.2 = 0) (g : isP toks st wNot = true) (h : Pr .not toks (st.1 + 1,0) (x,st1)) : Pr .not toks st (oneD wNot x,st1):=by
 obtain ⟨f,hf⟩:=h
 refine ⟨f + 1,?_⟩
 simp only [pLv]
 rw [if_pos g,h0,hf];rfl
theorem Pr.not0 (g : isP toks st wNot = false) (h : Pr .cmp toks st r) : Pr .not toks st r:=by
 obtain ⟨f,hf⟩:=h
 refine ⟨f + 1,?_⟩
 simp only [pLv]
 rw [if_neg (by rw [g];decide)];exact hf
theorem Pr.neg1 (h0 : st.2 = 0) (g : isP toks st [45] = true) (h : Pr .unary toks (st.1 + 1,0) (x,st1)) : Pr .unary toks st (oneD wNeg x,st1):=by
 obtain ⟨f,hf⟩:=h
 refine ⟨f + 1,?_⟩
 simp only [pLv]
 rw [if_pos g,h0,hf];rfl
theorem Pr.neg0 (g : isP toks st [45] = false) (h : Pr .plain toks st r) : Pr .unary toks st r:=by
 obtain ⟨f,hf⟩:=h
 refine ⟨f + 1,?_⟩
 simp only [pLv]
 rw [if_neg (by rw [g];decide)];exact hf
theorem Pr.cmp0 (h : Pr .sum toks st (x,st1)) (g : firstP toks st1 cmpW = none) : Pr .cmp toks st (x,st1):=by
 obtain ⟨f,hf⟩:=h
 refine ⟨f + 1,?_⟩
 simp only [pLv]
 rw [hf];simp only [cmpS2];rw [g]
theorem Pr.cmp1 (h : Pr .sum toks st (x,st1)) (h0 : st1.2 = 0) (g : firstP toks st1 cmpW = some w) (k : Pr .sum toks (st1.1 + 1,0) (y,st2)) : Pr .cmp toks st (twoD w x y,st2):=by
 obtain ⟨f,hf⟩:=h
 obtain ⟨g',hg⟩:=k
 refine ⟨max f g' + 1,?_⟩
 simp only [pLv]
 rw [lv_mono f (max f g') .sum (by omega) _ _ _ hf]
 simp only [cmpS2];rw [g]
 simp only
 rw [h0,lv_mono g' (max f g') .sum (by omega) _ _ _ hg]
theorem Pr.inner (h : Pr .expr toks (mustP toks [40] st) (x,st1)) : Pr .inner toks st (x,mustP toks [41] st1):=by
 obtain ⟨f,hf⟩:=h
 refine ⟨f + 1,?_⟩
 simp only [pLv]
 rw [hf];rfl
end
theorem Pr.fuel {toks : List D} {r : D × St} (h : toks.length <= 600) (hr : Pr .expr toks (0,0) r) : pLv 10000 .expr toks (0,0) = some r:=by
 obtain ⟨x,st,hp⟩:=expr_tot toks h
 obtain ⟨f,hf⟩:=hr
 have h1:=lv_mono f (max f 10000) .expr (by omega) _ _ _ hf
 have h2:=lv_mono 10000 (max f 10000) .expr (by omega) _ _ _ hp
 rw [h1] at h2
 rw [hp,← Option.some.inj h2]
end GP
namespace GP
open Go Go.Proofs
set_option maxRecDepth 100000
def Seg (toks : List D) (a : Nat) (l : List D) : Prop:=∀ i t,l[i]? = some t -> toks[a + i]? = some t
section
variable {toks : List D} {a : Nat} {l m : List D} {t : D}
theorem Seg.fst (h : Seg toks a (l ++ m)) : Seg toks a l:=fun i t ht=>h i t (by rw [List.getElem?_append_left (lt_of_get ht)];exact ht)
theorem Seg.snd (h : Seg toks a (l ++ m)) : Seg toks (a + l.length) m:=fun i t ht=>by
 have:=h (l.length + i) t (by rw [List.getElem?_append_right (by omega),show l.length + i - l.length = i by omega];exact ht)
 rw [Nat.add_assoc];exact this
theorem Seg.hd (h : Seg toks a (t :: l)) : toks[a]? = some t:=h 0 t rfl
theorem Seg.tl (h : Seg toks a (t :: l)) : Seg toks (a + 1) l:=fun i u hu=>by
 have:=h (i + 1) u hu
 rw [show a + 1 + i = a + (i + 1) by omega];exact this
theorem now_of (h : toks[a]? = some t) (hf : formT t = true) : nowS toks (a,0) = t:=by
 unfold nowS nowP
 rw [if_neg (show ¬ ((0 : Int) != 0) = true by decide),h]
 simp only
 rw [if_pos hf]
theorem form_sign {w : List UInt8} (h : isSign w = true) : formT (mkT 5 w 0) = true:=by
 show formI 5 w 0 = true
 unfold formI;rw [h];rfl
theorem is_sgn {w : List UInt8} (h : toks[a]? = some (mkT 5 w 0)) (hw : isSign w = true) (u : List UInt8) : isP toks (a,0) u = (w == u):=by
 unfold isP;rw [now_of h (form_sign hw)];rfl
theorem must_of {w : List UInt8} (h : isP toks (a,0) w = true) : mustP toks w (a,0) = (a + 1,0):=by unfold mustP;rw [if_pos h]
end
structure Cn (y v : D) : Prop where
 c : can y = can v
 l : vl y = []
theorem Cn.one {y v : D} (h : Cn y v) (hv : one1 v = true) : one1 y = true:=by
 have h1:=one1_can hv
 rw [<- h.c] at h1
 unfold one1 at h1 ⊢
 rw [can_vk,can_vi,can_vs,can_vl] at h1
 rw [h.l];exact h1
theorem Cn.k {y v : D} (h : Cn y v) : vk y = vk v:=by have:=congrArg vk h.c;rwa [can_vk,can_vk] at this
theorem Cn.i {y v : D} (h : Cn y v) : vi y = vi v:=by have:=congrArg vi h.c;rwa [can_vi,can_vi] at this
theorem Cn.s {y v : D} (h : Cn y v) : vs y = vs v:=by have:=congrArg vs h.c;rwa [can_vs,can_vs] at this
structure Elt (v : D) : Prop where
 o : one1 v = true
 b : litB v true = true
 r : vi v < 2 ^ 63
end GP
namespace GP
open Go Go.Proofs
set_option maxRecDepth 100000
section
variable {toks : List D} {st : St} {a : Nat} {w : List UInt8}
def Nxt (toks : List D) (st : St) (w : List UInt8) : Prop:=∀ u,isP toks st u = (w == u)
theorem Nxt.tk (h : Nxt toks st w) : GP.tk (nowS toks st) = 1 ∨ GP.tk (nowS toks st) = 5:=by
 have:=h w
 unfold isP at this
 simp only [beq_self_eq_true,Bool.and_eq_true,Bool.or_eq_true,beq_iff_eq] at this
 exact this.1
theorem Nxt.ne {u : List UInt8} (h : Nxt toks st w) (hu : (w == u) = false) : isP toks st u = false:=by rw [h,hu]
theorem Nxt.lit (h : Nxt toks st w) (h1 : (w == wTrue) = false) (h2 : (w == wFalse) = false) : (literalP toks st).2.1 = false:=by
 have hk:=h.tk
 have k2 : (GP.tk (nowS toks st) == 2) = false:=by rw [beq_eq_false_iff_ne];omega
 have k3 : (GP.tk (nowS toks st) == 3) = false:=by rw [beq_eq_false_iff_ne];omega
 have k4 : (GP.tk (nowS toks st) == 4) = false:=by rw [beq_eq_false_iff_ne];omega
 unfold literalP
 rw [k2,k3,k4,h.ne h1,h.ne h2];rfl
theorem Nxt.first (h : Nxt toks st w) : ∀ {ws : List (List UInt8)},w ∈ ws -> firstP toks st ws = some w
 | [],hw=>by cases hw
 | u :: r,hw=>by
  simp only [firstP,h u]
  cases g : w == u with
  | true=>simp only [if_true];rw [eq_of_beq' g]
  | false =>
   simp only [Bool.false_eq_true,if_false]
   refine h.first ?_
   rcases List.mem_cons.1 hw with rfl | hw
   ·rw [beq_self_eq_true] at g;cases g
   ·exact hw
theorem Nxt.plain (h : Nxt toks st w) (h1 : (w == wTrue) = false) (h2 : (w == wFalse) = false) (f : Nat) : pLv (f + 1) .plain toks st =
  if w == wNow then some (leafD wNow [] [],(st.1 + 1,st.2)) else
  if w == [40] then pLv f .inner toks st else
  if w == [91] then bagP toks f st.1 (st.1 + 1,st.2) else
  if w == wSize then oneS wSize (pLv f .inner toks (st.1 + 1,st.2)) else
  if w == wRole then some (leafD wRole [] (ts (kindP toks 3 (mustP toks [40] (st.1 + 1,st.2))).1),mustP toks [41] (kindP toks 3 (mustP toks [40] (st.1 + 1,st.2))).2) else
  if w == wHas then some (leafD wHas (attrP toks (mustP toks [40] (st.1 + 1,st.2))).1 (attrP toks (mustP toks [40] (st.1 + 1,st.2))).2.1,mustP toks [41] (attrP toks (mustP toks [40] (st.1 + 1,st.2))).2.2) else
  some (leafD wAttr (attrP toks st).1 (attrP toks st).2.1,(attrP toks st).2.2):=by
 simp only [pLv,plainP]
 rw [h.lit h1 h2,h wNow,h [40],h [91],h wSize,h wRole,h wHas]
 rfl
theorem nx_P (h : toks[a]? = some tP) : Nxt toks (a,0) [40]:=is_sgn h (by decide)
theorem nx_Q (h : toks[a]? = some tQ) : Nxt toks (a,0) [41]:=is_sgn h (by decide)
theorem Nxt.must (h : Nxt toks (a,0) w) : mustP toks w (a,0) = (a + 1,0):=must_of (by rw [h];simp)
end
theorem inB_mem2 {l : List (List UInt8)} {s : List UInt8} (h : inB l s = true) : s ∈ l:=by
 unfold inB at h
 obtain ⟨x,hx,e⟩:=List.any_eq_true.1 h
 have : x = s:=by simpa using e
 rw [<- this];exact hx
end GP
namespace GP
open Go Go.Proofs
set_option maxRecDepth 100000
def lvN : Nat -> Lv
 | 0=>.expr
 | 1=>.and
 | 2=>.not
 | 3=>.cmp
 | 4=>.sum
 | 5=>.prod
 | 6=>.unary
 | _=>.plain
def bsN : Nat -> List (List UInt8)
 | 0=>[wOr]
 | 1=>[wAnd]
 | 4=>[[43],[45]]
 | 5=>[[42]]
 | _=>[]
def rowN (s : Nat) : Prop:=s = 0 ∨ s = 1 ∨ s = 4 ∨ s = 5
def noOp (L : Nat) (toks : List D) (st : St) : Prop:=∀ w ∈ ops2,(L : Int) <= stI w -> isP toks st w = false
theorem noOp.up {L M : Nat} {toks : List D} {st : St} (h : noOp L toks st) (hl : L <= M) : noOp M toks st:=fun w hw hs=>h w hw (by omega)
theorem noOp.first {L : Nat} {toks : List D} {st : St} (h : noOp L toks st) {ws : List (List UInt8)} (hw : ∀ w ∈ ws,w ∈ ops2 /\ (L : Int) <= stI w) : firstP toks st ws = none :=
 firstP_none fun w hm=>h w (hw w hm).1 (hw w hm).2
theorem Nxt.noOp {toks : List D} {st : St} {w : List UInt8} (h : Nxt toks st w) {L : Nat} (hw : w ∉ ops2 ∨ stI w < L) : noOp L toks st:=fun u hu hs=>by
 rw [h u]
 cases g : w == u with
 | false=>rfl
 | true =>
  have:=eq_of_beq' g
  subst this
  rcases hw with hw | hw
  ·exact absurd hu hw
  ·omega
structure It (toks : List D) (a b : Nat) (es : Nat) (x : D) : Prop where
 t1 : ∀ L,L <= es -> noOp L toks (b,0) -> Pr (lvN L) toks (a,0) (x,(b,0))
 t2 : ∀ s,s <= es -> rowN s -> noOp (s + 1) toks (b,0) -> ∀ r,Rw (lvN (s + 1)) (bsN s) toks x (b,0) r -> Pr (lvN s) toks (a,0) r
 hn : 2 < es -> isP toks (a,0) wNot = false
 hm : 6 < es -> isP toks (a,0) [45] = false
theorem row_rule {toks : List D} {st st1 : St} {x : D} {r : D × St} {s : Nat} (hs : rowN s) (h : Pr (lvN (s + 1)) toks st (x,st1)) (hr : Rw (lvN (s + 1)) (bsN s) toks x st1 r) : Pr (lvN s) toks st r:=by
 rcases hs with rfl | rfl | rfl | rfl
 ·exact Pr.expr h hr
 ·exact Pr.and h hr
 ·exact Pr.sum h hr
 ·exact Pr.prod h hr
theorem It.mk' {toks : List D} {a b K : Nat} {x : D} (hK : K <= 7) (h1 : noOp K toks (b,0) -> Pr (lvN K) toks (a,0) (x,(b,0)))
  (h2 : rowN K -> noOp (K + 1) toks (b,0) -> ∀ r,Rw (lvN (K + 1)) (bsN K) toks x (b,0) r -> Pr (lvN K) toks (a,0) r)
  (hn : 2 < K -> isP toks (a,0) wNot = false) (hm : 6 < K -> isP toks (a,0) [45] = false) : It toks a b K x:=by
 have key : ∀ d L,L + d = K -> noOp L toks (b,0) -> Pr (lvN L) toks (a,0) (x,(b,0)):=by
  intro d
  induction d with
  | zero=>intro L e h;rw [Nat.add_zero] at e;subst e;exact h1 h
  | succ d ih =>
   intro L e h
   have n1:=ih (L + 1) (by omega) (h.up (by omega))
   have hL : L = 0 ∨ L = 1 ∨ L = 2 ∨ L = 3 ∨ L = 4 ∨ L = 5 ∨ L = 6:=by omega
   rcases hL with rfl | rfl | rfl | rfl | rfl | rfl | rfl
   ·exact Pr.expr n1 (Rw.stop (h.first (by decide)))
   ·exact Pr.and n1 (Rw.stop (h.first (by decide)))
   ·exact Pr.not0 (hn (by omega)) n1
   ·exact Pr.cmp0 n1 (h.first (by decide))
   ·exact Pr.sum n1 (Rw.stop (h.first (by decide)))
   ·exact Pr.prod n1 (Rw.stop (h.first (by decide)))
   ·exact Pr.neg0 (hm (by omega)) n1
 refine ⟨fun L hL h=>key (K - L) L (by omega) h,fun s hs hrow hno r hr=>?_,hn,hm⟩
 by_cases hsK : s = K
 ·subst hsK;exact h2 hrow hno r hr
 ·exact row_rule hrow (key (K - (s + 1)) (s + 1) (by omega) hno) hr
theorem Pr.plain_in {toks : List D} {a : Nat} {r : D × St} (h : Nxt toks (a,0) [40]) (hr : Pr .inner toks (a,0) r) : Pr .plain toks (a,0) r:=by
 obtain ⟨f,hf⟩:=hr
 refine ⟨f + 1,?_⟩
 rw [h.plain (by decide) (by decide)]
 exact hf
theorem It.par {toks : List D} {a b K : Nat} {x : D} (h : It toks (a + 1) b K x) (hp : toks[a]? = some tP) (hq : toks[b]? = some tQ) : It toks a (b + 1) 7 x:=by
 have P:=nx_P hp
 have Q:=nx_Q hq
 refine It.mk' (Nat.le_refl _) (fun _=>?_) (fun h=>?_) (fun _=>P.ne (by decide)) (fun _=>P.ne (by decide))
 ·refine Pr.plain_in P ?_
  have:=h.t1 0 (Nat.zero_le _) (Q.noOp (.inl (by decide)))
  have:=Pr.inner (toks:=toks) (st:=(a,0)) (x:=x) (st1:=(b,0)) (by rw [P.must];exact this)
  rw [Q.must] at this
  exact this
 ·rcases h with h | h | h | h <;> cases h
theorem It.part {toks : List D} {a K least : Nat} {s li : Int} {full : Bool} {l : List D} {R : D -> Prop} (hs : s = (K : Int)) (hli : li = (least : Int)) (hl : least <= 7) (h : ∀ a,Seg toks a l -> ∃ x,It toks a (a + l.length) K x /\ R x) (hS : Seg toks a (parW full s li l)) :
  ∃ K' x,least <= K' /\ It toks a (a + (parW full s li l).length) K' x /\ R x:=by
 unfold parW at hS ⊢
 split at hS
 ·rename_i g
  rw [if_pos g]
  simp only [Bool.and_eq_true,decide_eq_true_eq] at g
  obtain ⟨x,h1,h2⟩:=h a hS
  exact ⟨K,x,by omega,h1,h2⟩
 ·rename_i g
  rw [if_neg g]
  obtain ⟨x,h1,h2⟩:=h (a + 1) hS.tl.fst
  have:=h1.par hS.hd hS.tl.snd.hd
  refine ⟨7,x,hl,?_,h2⟩
  rw [show a + (tP :: (l ++ [tQ])).length = a + 1 + l.length + 1 by simp;omega]
  exact this
theorem It.row {toks : List D} {a m b s Ka Kb : Nat} {w : List UInt8} {x y : D} (hrow : rowN s) (hw : w ∈ bsN s) (hs : stI w = (s : Int)) (hN : Nxt toks (m,0) w) (ha : It toks a m Ka x) (hKa : s <= Ka) (hb : It toks (m + 1) b Kb y) (hKb : s + 1 <= Kb) : It toks a b s (twoD w x y):=by
 have h2 : noOp (s + 1) toks (b,0) -> ∀ r,Rw (lvN (s + 1)) (bsN s) toks (twoD w x y) (b,0) r -> Pr (lvN s) toks (a,0) r:=fun hno r hr=>by
  refine ha.t2 s hKa hrow (hN.noOp (.inr (by rw [hs];omega))) r ?_
  exact Rw.step rfl (hN.first hw) (hb.t1 (s + 1) hKb hno) hr
 have hs7 : s <= 7:=by rcases hrow with rfl | rfl | rfl | rfl <;> omega
 refine It.mk' hs7 (fun hno=>h2 (hno.up (by omega)) _ (Rw.stop (hno.first ?_))) (fun _=>h2) (fun h=>ha.hn (by omega)) (fun h=>?_)
 ·rcases hrow with rfl | rfl | rfl | rfl <;> decide
 ·rcases hrow with rfl | rfl | rfl | rfl <;> omega
theorem It.cmp {toks : List D} {a m b Ka Kb : Nat} {w : List UInt8} {x y : D} (hw : w ∈ cmpW) (hs : stI w = 3) (hN : Nxt toks (m,0) w) (ha : It toks a m Ka x) (hKa : 4 <= Ka) (hb : It toks (m + 1) b Kb y) (hKb : 4 <= Kb) : It toks a b 3 (twoD w x y):=by
 refine It.mk' (by omega) (fun hno=>?_) (fun h=>?_) (fun _=>ha.hn (by omega)) (fun h=>by omega)
 ·exact Pr.cmp1 (ha.t1 4 hKa (hN.noOp (.inr (by rw [hs];decide)))) rfl (hN.first hw) (hb.t1 4 hKb (hno.up (by omega)))
 ·rcases h with h | h | h | h <;> cases h
theorem It.not {toks : List D} {a b K : Nat} {x : D} (hN : Nxt toks (a,0) wNot) (h : It toks (a + 1) b K x) (hK : 2 <= K) : It toks a b 2 (oneD wNot x):=by
 refine It.mk' (by omega) (fun hno=>?_) (fun h=>?_) (fun h=>by omega) (fun h=>by omega)
 ·exact Pr.not1 rfl (by rw [hN];simp) (h.t1 2 hK hno)
 ·rcases h with h | h | h | h <;> cases h
theorem It.neg {toks : List D} {a b K : Nat} {x : D} (hN : Nxt toks (a,0) [45]) (h : It toks (a + 1) b K x) (hK : 6 <= K) : It toks a b 6 (oneD wNeg x):=by
 refine It.mk' (by omega) (fun hno=>?_) (fun h=>?_) (fun _=>hN.ne (by decide)) (fun h=>by omega)
 ·exact Pr.neg1 rfl (by rw [hN];simp) (h.t1 6 hK hno)
 ·rcases h with h | h | h | h <;> cases h
theorem It.leaf {toks : List D} {a b : Nat} {x : D} (h : Pr .plain toks (a,0) (x,(b,0))) (h1 : isP toks (a,0) wNot = false) (h2 : isP toks (a,0) [45] = false) : It toks a b 7 x :=
 It.mk' (Nat.le_refl _) (fun _=>h) (fun h=>by rcases h with h | h | h | h <;> cases h) (fun _=>h1) (fun _=>h2)
def sm : Nat -> D -> D -> Prop
 | 0,_,_=>False
 | n + 1,x,e=>eop x = eop e /\ ewho x = ewho e /\ ename x = ename e /\ sameB (eV x) (eV e) = true /\ (∀ y ∈ vl (eV x),vl y = []) /\ (eps x).length = (eps e).length /\ ∀ (i : Nat) (y z : D),(eps x)[i]? = some y -> (eps e)[i]? = some z -> sm n y z
theorem sm_S : ∀ (n : Nat) (x e : D),sm n x e -> sm (n + 1) x e
 | 0,_,_,h=>h.elim
 | n + 1,x,e,⟨h1,h2,h3,h4,h5,h6,h7⟩=>⟨h1,h2,h3,h4,h5,h6,fun i y z hy hz=>sm_S n y z (h7 i y z hy hz)⟩
theorem sm_le {n m : Nat} (h : n <= m) {x e : D} (k : sm n x e) : sm m x e:=by
 induction h with
 | refl=>exact k
 | step _ ih=>exact sm_S _ _ _ ih
def Sm (x e : D) : Prop:=∃ n,sm n x e
theorem sameB_zero {v : D} (h : sameB v zeroV = true) : sameB zeroV v = true:=by
 unfold sameB at h ⊢
 split at h
 ·cases h
 ·rename_i g
  simp only [Bool.or_eq_true,not_or,bne_iff_ne,ne_eq,Decidable.not_not,Bool.not_eq_true',Bool.not_eq_false,beq_iff_eq] at g
  obtain ⟨⟨⟨g1,g2⟩,g3⟩,g4⟩:=g
  rw [if_neg (by simp [g1,g2,g3,g4])]
  rfl
theorem fm_rest {e : D} (h : fmTop e = true) (g1 : (eop e == sVal) = false) : sameB zeroV (eV e) = true /\ ((eop e == sAttr) = false -> (eop e == sHas) = false -> (eop e == sRole) = false -> ewho e = [] /\ ename e = []) ∧
  ((eop e == sAttr) = true ∨ (eop e == sHas) = true -> inB whoW (ewho e) = true /\ nameB (ename e) = true) /\ ((eop e == sAttr) = false -> (eop e == sHas) = false -> (eop e == sRole) = true -> ewho e = [] /\ formI 3 (ename e) 0 = true):=by
 unfold fmTop at h
 rw [if_neg (by rw [g1];decide)] at h
 split at h
 ·cases h
 ·rename_i g
  have g : sameB (eV e) zeroV = true:=by simpa using g
  refine ⟨sameB_zero g,fun a1 a2 a3=>?_,fun a=>?_,fun a1 a2 a3=>?_⟩
  ·rw [a1,a2,a3] at h
   simp only [Bool.or_self,Bool.false_eq_true,if_false,Bool.and_eq_true,beq_iff_eq] at h
   exact h
  ·rw [if_pos (by rw [Bool.or_eq_true];exact a)] at h
   simpa using h
  ·rw [a1,a2,a3] at h
   simp only [Bool.or_self,Bool.false_eq_true,if_false,if_true,Bool.and_eq_true,beq_iff_eq] at h
   exact h
theorem Sm.two {e x y : D} (hg : GoodE e) (h2 : isOp2 (eop e)) (hx : Sm x (sub0 e)) (hy : Sm y (sub1 e)) : Sm (twoD (eop e) x y) e:=by
 obtain ⟨n,hn⟩:=hx
 obtain ⟨m,hm⟩:=hy
 obtain ⟨_,_,_,_,he⟩:=hg.two h2
 obtain ⟨g1,g2,g3,g4,g5,g6,g7,g8⟩:=op2_not h2
 obtain ⟨q1,q2,_,_⟩:=fm_rest hg.parts.2.2.2 g1
 obtain ⟨q3,q4⟩:=q2 g3 g4 g5
 refine ⟨max n m + 1,rfl,q3.symm,q4.symm,q1,(fun y hy=>by cases hy),by rw [he];rfl,fun i u v hu hv=>?_⟩
 rw [he] at hv
 have hu : ([x,y] : List D)[i]? = some u:=hu
 match i with
 | 0=>simp at hu hv;subst hu;subst hv;exact sm_le (by omega) hn
 | 1=>simp at hu hv;subst hu;subst hv;exact sm_le (by omega) hm
 | i + 2=>simp at hu
theorem Sm.one {e x : D} (hg : GoodE e) (h1 : (eop e == sSize) = true ∨ (eop e == sNot) = true ∨ (eop e == sNeg) = true) (hx : Sm x (sub0 e)) : Sm (oneD (eop e) x) e:=by
 obtain ⟨n,hn⟩:=hx
 obtain ⟨_,z,he,hz⟩:=hg.one h1
 have hne : (eop e == sVal) = false /\ (eop e == sAttr) = false /\ (eop e == sHas) = false /\ (eop e == sRole) = false:=by
  rcases h1 with h1 | h1 | h1 <;> (rw [eq_of_beq' h1];decide)
 obtain ⟨g1,g3,g4,g5⟩:=hne
 obtain ⟨q1,q2,_,_⟩:=fm_rest hg.parts.2.2.2 g1
 obtain ⟨q3,q4⟩:=q2 g3 g4 g5
 refine ⟨n + 1,rfl,q3.symm,q4.symm,q1,(fun y hy=>by cases hy),by rw [he];rfl,fun i u v hu hv=>?_⟩
 rw [he] at hv
 have hu : ([x] : List D)[i]? = some u:=hu
 match i with
 | 0=>simp at hu hv;subst hu;subst hv;rw [<- hz];exact hn
 | i + 1=>simp at hu
theorem eps_nil {e : D} (hg : GoodE e) (h0 : arN (eop e) = 0) : eps e = []:=by
 have:=hg.parts.2.1
 rw [h0] at this
 exact List.eq_nil_of_length_eq_zero (by omega)
theorem Sm.leaf {e : D} {who name : List UInt8} (hg : GoodE e) (hv : (eop e == sVal) = false) (h0 : arN (eop e) = 0) (hw : ewho e = who) (hn : ename e = name) : Sm (leafD (eop e) who name) e:=by
 obtain ⟨q1,_⟩:=fm_rest hg.parts.2.2.2 hv
 have he:=eps_nil hg h0
 exact ⟨1,rfl,hw.symm,hn.symm,q1,(fun y hy=>by cases hy),by rw [he];rfl,fun i u v _ hv'=>by rw [he] at hv';cases hv'⟩
theorem Sm.val {e y : D} (hg : GoodE e) (hv : (eop e == sVal) = true) (hy : ∃ k i s n l,y = mkV k i s n l /\ ∀ x ∈ l,vl x = []) (hs : sameB y (eV e) = true) : Sm (valE y) e:=by
 obtain ⟨k,i,s,n,l,rfl,hl⟩:=hy
 obtain ⟨_,q2,q3⟩:=fmTop_val hg.parts.2.2.2 hv
 have he:=eps_nil hg (by rw [eq_of_beq' hv];decide)
 refine ⟨1,(eq_of_beq' hv).symm,q2.symm,q3.symm,hs,?_,by rw [he];rfl,fun i u v _ hv'=>by rw [he] at hv';cases hv'⟩
 intro x hx
 have hx : x ∈ vl (mkV k i s n l):=hx
 rw [vl_mk] at hx
 exact hl x hx
theorem ops2_of {op : List UInt8} (h : isOp2 op) : op ∈ ops2:=by
 unfold isOp2 stI at h
 cases e1 : inB [wOr] op with
 | true=>have:=inB_mem2 e1;simp only [List.mem_singleton] at this;subst this;decide
 | false =>
 cases e2 : inB [wAnd] op with
 | true=>have:=inB_mem2 e2;simp only [List.mem_singleton] at this;subst this;decide
 | false =>
 cases e3 : inB cmpW op with
 | true =>
  have:=inB_mem2 e3
  have key : ∀ w ∈ cmpW,w ∈ ops2:=by decide
  exact key op this
 | false =>
 cases e4 : inB [[43],[45]] op with
 | true =>
  have:=inB_mem2 e4
  have key : ∀ w ∈ ([[43],[45]] : List (List UInt8)),w ∈ ops2:=by decide
  exact key op this
 | false =>
 cases e5 : inB [[42]] op with
 | true=>have:=inB_mem2 e5;simp only [List.mem_singleton] at this;subst this;decide
 | false =>
 rw [e1,e2,e3,e4,e5] at h
 simp only [Bool.false_eq_true,if_false] at h
 (repeat' split at h) <;> omega
end GP
namespace GP
open Go Go.Proofs
set_option maxRecDepth 100000
theorem cmpS_self' : ∀ (s : List UInt8),cmpS s s = 0
 | []=>rfl
 | c :: s=>by simp only [cmpS,Nat.lt_irrefl,if_false];exact cmpS_self' s
theorem sameEl_p {x y : D} (h : sameEl x y = true) : vk x = vk y /\ vi x = vi y /\ vs x = vs y /\ vl x = [] /\ vl y = []:=by
 unfold sameEl at h
 simp only [Bool.and_eq_true,beq_iff_eq,Bool.not_eq_true',decide_eq_false_iff_not] at h
 obtain ⟨⟨⟨⟨h1,h2⟩,h3⟩,h4⟩,h5⟩:=h
 exact ⟨h1,h2,h3,List.eq_nil_of_length_eq_zero (by omega),List.eq_nil_of_length_eq_zero (by omega)⟩
theorem ord0_of {x y : D} (h1 : vk x = vk y) (h2 : vi x = vi y) (h3 : vs x = vs y) (f : D -> D -> Int) (h4 : cmpL f (vl x) (vl y) = 0) : ordW f x y = 0:=by
 unfold ordW
 rw [h1,h2,h3,cmpI_self,cmpI_self,cmpS_self',h4];rfl
theorem cmpL_zero2 {f : D -> D -> Int} : ∀ (xs ys : List D),xs.length = ys.length -> (∀ (i : Nat) (x y : D),xs[i]? = some x -> ys[i]? = some y -> f x y = 0) -> cmpL f xs ys = 0
 | [],[],_,_=>rfl
 | [],_ :: _,h,_=>by simp at h
 | _ :: _,[],h,_=>by simp at h
 | x :: xs,y :: ys,hl,h=>by
  simp only [cmpL]
  rw [h 0 x y rfl rfl,cmpL_zero2 xs ys (by simpa using hl) fun i u v hu hv=>h (i + 1) u v hu hv];rfl
theorem sameB_p {x y : D} (h : sameB x y = true) : vk x = vk y /\ vi x = vi y /\ vs x = vs y /\ (vl x).length = (vl y).length /\ ∀ (i : Nat) (u v : D),(vl x)[i]? = some u -> (vl y)[i]? = some v -> sameEl u v = true:=by
 unfold sameB at h
 split at h
 ·cases h
 ·rename_i g
  simp only [Bool.or_eq_true,not_or,bne_iff_ne,ne_eq,Decidable.not_not,Bool.not_eq_true',Bool.not_eq_false,beq_iff_eq] at g
  obtain ⟨⟨⟨g1,g2⟩,g3⟩,g4⟩:=g
  refine ⟨g1,g2,g3,g4,fun i u v hu hv=>?_⟩
  have:=List.all_eq_true.1 h i (by simpa using lt_of_get hu)
  unfold okSame at this
  rw [hu,hv] at this
  exact this
theorem sameB_ord {x y : D} (h : sameB x y = true) : ordW ord0 x y = 0:=by
 obtain ⟨h1,h2,h3,h4,h5⟩:=sameB_p h
 refine ord0_of h1 h2 h3 _ (cmpL_zero2 _ _ h4 fun i u v hu hv=>?_)
 obtain ⟨e1,e2,e3,e4,e5⟩:=sameEl_p (h5 i u v hu hv)
 refine ord0_of e1 e2 e3 _ ?_
 rw [e4,e5];rfl
def nd : Nat -> D -> Nat
 | 0,_=>0
 | n + 1,e=>((eps e).map (nd n)).sum + 1
theorem sum_mem {f : D -> Nat} : ∀ {l : List D} {x : D},x ∈ l -> f x <= (l.map f).sum
 | a :: l,x,h=>by
  rw [List.map_cons,List.sum_cons]
  rcases List.mem_cons.1 h with rfl | h
  ·omega
  ·have:=sum_mem (f:=f) h;omega
theorem isE_nd : ∀ (n : Nat) (e : D),isE n e -> isE (nd n e) e
 | 0,_,h=>h.elim
 | n + 1,e,⟨op,k,i,s,nl,l,who,name,m,ps,he,h1,h2,h3,h4,h5,h6⟩=>by
  subst he
  have e1 : eps (mkE op k i s nl l who name m ps) = ps:=eps_mk ..
  simp only [nd,e1]
  exact ⟨op,k,i,s,nl,l,who,name,m,ps,rfl,h1,h2,h3,h4,h5,fun x hx=>isE_le (sum_mem hx) (isE_nd n x (h6 x hx))⟩
theorem szL_nd {f : D -> Int -> Int} {g : D -> Nat} {m : Int} (h0 : 0 <= m) (h60 : m <= 60) : ∀ (l : List D) (n : Int),1 <= n -> n <= m + 1 -> (∀ x ∈ l,∀ k : Int,0 <= k -> k <= 60 -> 1 <= f x k /\ f x k <= k + 1 /\ (f x k <= k -> f x k = (g x : Nat))) →
  n <= szL f l m n /\ szL f l m n <= m + 1 /\ (szL f l m n <= m -> szL f l m n = n + ((l.map g).sum : Nat))
 | [],n,h1,h2,_=>by simp only [szL,List.map_nil,List.sum_nil];omega
 | x :: l,n,h1,h2,hf=>by
  simp only [szL,List.map_cons,List.sum_cons]
  by_cases hn : n <= m
  ·rw [if_pos (by simpa using hn)]
   have w1 : IntKind.i64.wrap (m - n) = m - n:=wrap_of _ (by omega) (by omega)
   obtain ⟨f1,f2,f3⟩:=hf x (by simp) (m - n) (by omega) (by omega)
   have w2 : IntKind.i64.wrap (n + f x (m - n)) = n + f x (m - n):=wrap_of _ (by omega) (by omega)
   rw [w1,w2]
   obtain ⟨i1,i2,i3⟩:=szL_nd h0 h60 l (n + f x (m - n)) (by omega) (by omega) (fun y hy=>hf y (by simp [hy]))
   refine ⟨by omega,i2,fun q=>?_⟩
   have q1:=i3 q
   have q2:=f3 (by omega)
   omega
  ·rw [if_neg (by simpa using hn)];omega
theorem sizeE_nd : ∀ (n : Nat) (e : D),isE n e -> ∀ m : Int,0 <= m -> m <= 60 -> 1 <= sizeE n e m /\ sizeE n e m <= m + 1 /\ (sizeE n e m <= m -> sizeE n e m = (nd n e : Nat))
 | 0,_,h=>h.elim
 | n + 1,e,h=>fun m h0 h60=>by
  obtain ⟨i1,i2,i3⟩:=szL_nd (f:=sizeE n) (g:=nd n) h0 h60 (eps e) 1 (by omega) (by omega) (fun x hx k k0 k1=>sizeE_nd n x (isE_eps h x hx) k k0 k1)
  simp only [sizeE,nd]
  refine ⟨i1,i2,fun q=>?_⟩
  rw [i3 q];omega
theorem litT_le' {v : D} (h : valB v = true) : (litT v).length <= 2 ^ 22 - 2:=by
 unfold litT
 split
 ·have:=litT1_le v;omega
 ·rename_i g
  rcases valB_dom h with q | ⟨_,q⟩
  ·exact absurd q g
  ·have:=cmL_le (f:=litT1) (b:=2) (vl v) fun x _=>litT1_le x
   simp only [List.length_cons,List.length_append,List.length_nil]
   omega
theorem parW_len (full : Bool) (s s' : Int) (l : List D) : (parW full s s' l).length <= l.length + 2:=by unfold parW;split <;> simp
theorem tk_size_le {full : Bool} : ∀ (n : Nat) (e : D),isE n e -> GoodE e -> (tkC full e).length + 2 <= 2 ^ 22 * nd n e
 | 0,_,h,_=>h.elim
 | n + 1,e,h,hg=>by
  have hS : nd (n + 1) e = ((eps e).map (nd n)).sum + 1:=rfl
  have one : ∀ x,eps e = [x] -> nd (n + 1) e = nd n x + 1:=fun x hx=>by rw [hS,hx];simp
  have leafy : 2 ^ 22 <= 2 ^ 22 * nd (n + 1) e:=by rw [hS,Nat.mul_add];omega
  rcases hg.op with g | g | g | g | g | g | g | g | g
  ·have:=litT_le' (fmTop_val hg.parts.2.2.2 g).1
   rw [tk_val hg g];omega
  ·rw [tk_now hg g];simp only [List.length_cons,List.length_nil];omega
  ·rw [tk_attr hg g];simp only [List.length_cons,List.length_nil];omega
  ·rw [tk_has hg g];simp only [List.length_cons,List.length_nil];omega
  ·rw [tk_role hg g];simp only [List.length_cons,List.length_nil];omega
  ·obtain ⟨h1,x,hx,hs⟩:=hg.one (.inl g)
   have ih:=tk_size_le (full:=full) n (sub0 e) (isE_eps h _ (by rw [hx,hs];simp)) h1
   rw [tk_size hg g,one x hx,← hs,Nat.mul_add]
   simp only [List.length_cons,List.length_append,List.length_nil];omega
  ·obtain ⟨h1,x,hx,hs⟩:=hg.one (.inr (.inl g))
   have ih:=tk_size_le (full:=full) n (sub0 e) (isE_eps h _ (by rw [hx,hs];simp)) h1
   have p:=parW_len full (stI (eop (sub0 e))) 2 (tkC full (sub0 e))
   rw [tk_not hg g,one x hx,← hs,Nat.mul_add]
   simp only [List.length_cons];omega
  ·obtain ⟨h1,x,hx,hs⟩:=hg.one (.inr (.inr g))
   have ih:=tk_size_le (full:=full) n (sub0 e) (isE_eps h _ (by rw [hx,hs];simp)) h1
   have p:=parW_len full (stI (eop (sub0 e))) 6 (tkC full (sub0 e))
   rw [tk_neg hg g,one x hx,← hs,Nat.mul_add]
   simp only [List.length_cons];omega
  ·obtain ⟨k0,k1,m0,m1,he⟩:=hg.two g
   have i0:=tk_size_le (full:=full) n (sub0 e) (isE_eps h _ m0) k0
   have i1:=tk_size_le (full:=full) n (sub1 e) (isE_eps h _ m1) k1
   have p0:=parW_len full (stI (eop (sub0 e))) (lstS (eop e)) (tkC full (sub0 e))
   have p1:=parW_len full (stI (eop (sub1 e))) (stI (eop e) + 1) (tkC full (sub1 e))
   have e2 : nd (n + 1) e = nd n (sub0 e) + nd n (sub1 e) + 1:=by rw [hS,he];simp
   rw [tk_two hg g,e2,Nat.mul_add,Nat.mul_add]
   simp only [List.length_cons,List.length_append];omega
theorem few_facts {n : Nat} {e : D} (h : isE n e) (hf : fewEx n e = true) : nd n e <= 60 /\ isE nodeB e:=by
 unfold fewEx at hf
 simp only [Bool.and_eq_true,decide_eq_true_eq] at hf
 obtain ⟨_,_,h3⟩:=sizeE_nd n e h 60 (by omega) (by omega)
 have h60 : nd n e <= 60:=by have:=h3 hf.1;omega
 refine ⟨h60,isE_le ?_ (isE_nd n e h)⟩
 have : ∀ f,f <= lvB f:=fun f=>by
  induction f with
  | zero=>exact Nat.zero_le _
  | succ f ih=>simp only [lvB];omega
 have:=this 10000
 unfold nodeB;omega
end GP
namespace GP
open Go Go.Proofs
set_option maxRecDepth 100000
def domk : Nat -> D -> Bool
 | 0,_=>false
 | k + 1,x=>(vl x).all (domk k)
def ordk : Nat -> D -> D -> Int
 | 0=>f0
 | k + 1=>ordW (ordk k)
theorem ok64k : ∀ k,OkAt Tryz.prog 64 (φOrd (domk k) (ordk k))
 | 0=>ok64 (ok116 ok64none (fun _ _ _ _ h=>by simp [domk] at h))
 | k + 1 => ok64 (ok116 (ok64k k) (fun x y hx hy h1 h2 => by
     simp only [φOrd]
     rw [if_pos ⟨hx,hy,h1,h2⟩];rfl))
theorem domk_of : ∀ (n : Nat) (v : D),sizeOf v <= n -> v.isV = true -> domk (n + 1) v = true
 | n,v,hs,hv=>by
  obtain ⟨k,i,s,nl,xs,rfl,_,_,hV⟩:=isV_elim hv
  show (vl (mkV k i s nl xs)).all (domk n) = true
  rw [vl_mk]
  refine List.all_eq_true.2 fun x hx=>?_
  have h1:=List.sizeOf_lt_of_mem hx
  have e : sliceD nl xs = .sl none xs:=by
   cases xs with
   | nil=>cases hx
   | cons a l=>cases nl <;> rfl
  have h2 : sizeOf xs < sizeOf (mkV k i s nl xs):=by
   unfold mkV;rw [e];simp;omega
  cases n with
  | zero=>omega
  | succ n=>exact domk_of n x (by omega) (hV x hx)
theorem cmpL_nil (f g : D -> D -> Int) (xs : List D) : cmpL f xs [] = cmpL g xs []:=by cases xs <;> rfl
def φOrdZ : List D -> Option D
 | [a,b]=>if a.isV = true /\ b.isV = true /\ (vl b).isEmpty = true then some (.int .i64 (ordW ord0 a b)) else none
 | _=>none
theorem ok64z : OkAt Tryz.prog 64 φOrdZ:=by
 intro args r h
 unfold φOrdZ at h
 split at h
 ·rename_i a b
  split at h
  ·rename_i hc
   obtain ⟨ha,hb,he⟩:=hc
   have he : vl b = []:=by simpa using he
   have hd : (vl a).all (domk (sizeOf a)) = true:=domk_of (sizeOf a) a (Nat.le_refl _) ha
   refine ok64k (sizeOf a) [a,b] r ?_
   simp only [φOrd]
   rw [if_pos ⟨ha,hb,hd,by rw [he];rfl⟩,← h]
   unfold ordW
   rw [he,cmpL_nil (ordk (sizeOf a)) ord0]
  ·cases h
 ·cases h
end GP
namespace GP
open Go
theorem W_each {X : Pred} {c : C} {Q : Ex -> S -> Prop} {s : S} (xs : List D) (J : Nat -> S -> Prop) (hX : Mono X) (h0 : J 0 s) (step : ∀ i x s,xs[i]? = some x -> x ∈ xs -> i < xs.length -> J i s -> W X c (seqK (J (i + 1)) Q) s) (fin : ∀ s,J xs.length s -> W X c (seqK (fun _=>False) Q) s) : W X (.loop c) Q s:=by
 refine W_for (fun i s=>i <= xs.length /\ J i s) xs.length ⟨0,Nat.zero_le _,h0⟩ (fun i s h=>h.1) (fun i s h=>?_) hX
 rcases Nat.lt_or_ge i xs.length with hi | hi
 ·refine W_mono hX ?_ (step i xs[i] s (by simp [hi]) (List.getElem_mem hi) hi h.2)
  intro e s' k
  cases e with
  | normal=>exact ⟨hi,k⟩
  | exit j=>exact k
  | ret=>exact k
 ·have : i = xs.length:=by omega
  subst this
  refine W_mono hX ?_ (fin s h.2)
  intro e s' k
  cases e with
  | normal=>exact k.elim
  | exit j=>exact k
  | ret=>exact k
def accT (sz : Nat) (T : Tk) (xs : List D) (d : D) (T' : Tk) : Prop:=ExtT T T' /\ ((xs = [] /\ d = .nils) ∨ ∃ i,T.length <= i /\ d = .sl (some i) xs /\ T'[i]? = some (some (xs.length,sz)))
theorem accT.nil (sz : Nat) (T : Tk) {T' : Tk} (h : ExtT T T') : accT sz T [] .nils T':=⟨h,.inl ⟨rfl,rfl⟩⟩
theorem accT.app {sz : Nat} {T T' : Tk} {xs : List D} {d : D} (h : accT sz T xs d T') (L : Tk) : accT sz T xs d (T' ++ L):=by
 obtain ⟨h1,h2⟩:=h
 refine ⟨h1.app L,?_⟩
 rcases h2 with h2 | ⟨i,h2,h3,h4⟩
 ·exact .inl h2
 ·refine .inr ⟨i,h2,h3,?_⟩
  have : i < T'.length:=by
   rcases Nat.lt_or_ge i T'.length with h | h
   ·exact h
   ·rw [List.getElem?_eq_none h] at h4;cases h4
  rw [List.getElem?_append_left this];exact h4
theorem accT.mk (sz : Nat) (T : Tk) {T' : Tk} (h : ExtT T T') (xs : List D) (L : Tk) : accT sz T xs (.sl (some T'.length) xs) (T' ++ some (xs.length,sz) :: L):=by
 obtain ⟨M,rfl⟩:=h
 refine ⟨⟨M ++ some (xs.length,sz) :: L,by simp⟩,.inr ⟨_,by simp,rfl,by simp⟩⟩
theorem accT.erase {sz : Nat} {T T' : Tk} {xs : List D} {d : D} (h : accT sz T xs d T') (he : D.eraseL xs = xs) (h0 : xs ≠ []) : d.erase = .sl none xs:=by
 rcases h.2 with ⟨rfl,rfl⟩ | ⟨i,_,rfl,_⟩
 ·exact (h0 rfl).elim
 ·simp [D.erase,he]
theorem app_accT {sz bytes : Nat} {K : D -> S -> Prop} {t : Nat -> D} {H : Hp} {T T' : Tk} {xs : List D} {d : D} (ys : List D) (h : accT sz T xs d T') (hy : ys.all (fit sz) = true) (hxs : xs.all (fit sz) = true) (hb : (xs.length + ys.length) * bytes <= 2 ^ 47) (hb2 : xs.length + ys.length < 2 ^ 62)
  (k : ∀ d2 T2,accT sz T (xs ++ ys) d2 T2 -> K d2 ⟨t,H,T2⟩) : appK sz bytes K ⟨t,H,T'⟩ d (some ys):=by
 obtain ⟨h1,h2⟩:=h
 rcases h2 with ⟨rfl,rfl⟩ | ⟨i,hi,rfl,hT⟩
 ·simp only [appK]
  refine ⟨hy,?_⟩
  simp only [List.nil_append,List.length_nil,Nat.zero_add] at k hb hb2
  split
  ·rename_i e;subst e;exact k _ _ (.nil sz T h1)
  ·exact ⟨hb,hb2,k _ _ (.mk sz T h1 ys [])⟩
 ·simp only [appK]
  refine ⟨hy,hT,hb,hb2,hxs,k _ _ ⟨?_,.inr ⟨i,hi,rfl,?_⟩⟩⟩
  ·obtain ⟨L,rfl⟩:=h1
   exact ⟨L.set (i - T.length) (some (xs.length + ys.length,sz)),by rw [List.set_append_right _ _ hi]⟩
  ·have : i < T'.length:=by
    rcases Nat.lt_or_ge i T'.length with h | h
    ·exact h
    ·rw [List.getElem?_eq_none h] at hT;cases hT
   rw [List.getElem?_set_self this];simp
end GP
namespace GP
open Go Go.Proofs
open Rd O
set_option maxRecDepth 100000
def c85 : C :=
 (.seq (.reg [I1 2 (.mv KN)])
 (.seq (.reg [I1 3 (.mv (Ki 0))])
 (.seq (.seq (.reg [Im 9 0,Iz 10 9,I1 11 (.mv (Ki 0))])
 (.block 0
 (.loop
 (.seq (.reg [I1 12 (.bin .lss (t 11) (t 10))])
 (.seq (.cond (t 12)
 .skip
 (.exit 0))
 (.seq (.block 1
 (.seq (.reg [I1 13 (.iaddr 1 (t 9) (t 11)),Il 14 13,Im 5 14])
 (.seq (.reg [Im 15 3,Im 16 5,Iz 17 16,I1 18 (.bin .add (t 15) (t 17)),Im 3 18])
 (.seq (.reg [Im 19 3,I1 20 (.bin .lss (t 19) (Ki 0))])
 (.cond (t 20)
 .stop
 .skip)))))
 (.reg [I1 22 (.bin .add (t 11) (Ki 1)),Im 11 22])))))))
 (.seq (.reg [Im 23 3,Ic 24 138 [KN,(t 23)],Im 6 24])
 (.seq (.seq (.reg [Im 25 0,Iz 26 25,I1 27 (.mv (Ki 0))])
 (.block 2
 (.loop
 (.seq (.reg [I1 28 (.bin .lss (t 27) (t 26))])
 (.seq (.cond (t 28)
 .skip
 (.exit 2))
 (.seq (.block 3
 (.seq (.reg [I1 29 (.iaddr 1 (t 25) (t 27)),Il 30 29,Im 8 30])
 (.reg [Im 31 6,Im 32 8,I1 33 (.appm true false 3 32 (t 31) (t 32)),Im 6 33])))
 (.reg [I1 34 (.bin .add (t 27) (Ki 1)),Im 27 34])))))))
 (.seq (.reg [Im 35 6,Im 2 35])
 .ret))))))
theorem fn85 : Fn Tryz.prog 85 36 [.inl 2] c85:=⟨⟨_,_,Tryz.func85,rfl,by kernel_rfl,Tryz.ntmps85,by kernel_rfl,Hq2,by kernel_rfl⟩⟩
def c138 : C :=
 (.seq (.reg [I1 4 (.mv KN)])
 (.seq (.seq (.reg [Im 5 1,I1 6 (.bin .lss (t 5) (Ki 0))])
 (.cond (t 6)
 .stop
 .skip))
 (.seq (.seq (.reg [Im 8 1,Im 9 0,I1 10 (.capz (t 9)),Im 11 0,Iz 12 11,I1 13 (.bin .sub (t 10) (t 12)),I1 14 (.bin .sub (t 8) (t 13)),Im 1 14])
 (.seq (.reg [Im 15 1,I1 16 (.bin .gtr (t 15) (Ki 0))])
 (.cond (t 16)
 (.reg [Im 17 0,Im 18 0,I1 19 (.capz (t 18)),I1 20 (.sls 3 (t 17) none (some (t 19))),Im 21 1,I1 22 (.appz true 3 32 [(.int .i64 0),(.str []),(.int .i64 0)] (t 20) (t 21)),Im 23 0,Iz 24 23,I1 25 (.sls 3 (t 22) none (some (t 24))),Im 0 25])
 .skip)))
 (.seq (.reg [Im 26 0,Im 4 26])
 .ret))))
theorem fn138 : Fn Tryz.prog 138 27 [.inl 4] c138:=⟨⟨_,_,Tryz.func138,rfl,by kernel_rfl,Tryz.ntmps138,by kernel_rfl,Hq2,by kernel_rfl⟩⟩
def c178b : C :=
 (.seq (.reg [I1 1 (.box (t 0)),I1 2 (.mv KN)])
 (.seq (.seq (.reg [If 6 0 1,Il 7 6,I1 8 (.bin .neq (t 7) (Ki 5))])
 (.cond (t 8)
 (.seq (.reg [Ia 9 4 1,Ip 10 206 [(t 9)],Im 2 10])
 .ret)
 .skip))
 (.seq (.reg [I1 11 (.bsl 1 [(Ks ([91]))]),Ic 12 84 [(t 11)],Im 3 12])
 (.seq (.seq (.reg [If 13 3 1,Il 14 13,Iz 15 14,I1 16 (.mv (Ki 0))])
 (.block 0
 (.loop
 (.seq (.reg [I1 17 (.bin .lss (t 16) (t 15))])
 (.seq (.cond (t 17)
 .skip
 (.exit 0))
 (.seq (.block 1
 (.seq (.reg [Im 18 16,I1 19 (.iaddr 4 (t 14) (t 16)),Ia 20 4 19,I1 5 (.alloc [(.int .i64 0),(.int .i64 0),(.str []),.nils]),Im 4 18,Is 4 5 20])
 (.seq (.seq (.reg [Im 21 4,I1 22 (.bin .gtr (t 21) (Ki 0))])
 (.cond (t 22)
 (.reg [Im 23 3,Ip 24 87 [(Ks ([44]))],I1 25 (.bsl 3 [(t 24)]),I1 26 (.app false 3 32 (t 23) (t 25)),Im 3 26])
 .skip))
 (.reg [Im 27 3,Ia 28 4 5,Ip 29 206 [(t 28)],I1 30 (.app false 3 32 (t 27) (t 29)),Im 3 30]))))
 (.reg [I1 31 (.bin .add (t 16) (Ki 1)),Im 16 31])))))))
 (.seq (.reg [Im 32 3,Ip 33 87 [(Ks ([93]))],I1 34 (.bsl 3 [(t 33)]),I1 35 (.app false 3 32 (t 32) (t 34)),Im 2 35])
 .ret)))))
theorem fn178b : Fn Tryz.prog 178 36 [.inl 2] c178b:=⟨⟨_,_,Tryz.func178,rfl,by kernel_rfl,Tryz.ntmps178,by kernel_rfl,Hq3,by kernel_rfl⟩⟩
end GP
namespace GP
open Go Go.Proofs
set_option maxRecDepth 100000
theorem form_at' {k : Int} {s : List UInt8} (h : s.length <= 2 ^ 47) : φform [.agg [.int .i64 k,.str s,.int .i64 0]] = some (.bool (formI k s 0)):=by
 simp only [φform];rw [if_pos (by omega)]
def φfk (k : Int) : List D -> Option D
 | [.str s]=>if s.length <= 2 ^ 47 then some (.bool (formI k s 0)) else none
 | _=>none
theorem fk_at {k : Int} {s : List UInt8} (h : s.length <= 2 ^ 47) : φfk k [.str s] = some (.bool (formI k s 0)):=by
 simp only [φfk];rw [if_pos h]
theorem ok134 : OkAt Tryz.prog 134 (φfk 1):=by
 refine ok_of (l:=[(166,φform)]) (.cons ok166 .nil) fn134 fun args r h=>?_
 unfold φfk at h
 split at h
 ·split at h
  ·rename_i s hs
   injection h with h;subst h
   refine ⟨by simp,by simp [D.cl],fun H T=>?_⟩
   have p:=form_at' (k:=1) hs
   simp +contextual (maxSteps:=10000000) only [c134,p,go_sem]
  ·cases h
 ·cases h
theorem ok128 : OkAt Tryz.prog 128 (φfk 3):=by
 refine ok_of (l:=[(166,φform)]) (.cons ok166 .nil) fn128 fun args r h=>?_
 unfold φfk at h
 split at h
 ·split at h
  ·rename_i s hs
   injection h with h;subst h
   refine ⟨by simp,by simp [D.cl],fun H T=>?_⟩
   have p:=form_at' (k:=3) hs
   simp +contextual (maxSteps:=10000000) only [c128,p,go_sem]
  ·cases h
 ·cases h
def φnmP : List D -> Option D
 | [.str s]=>if s.length <= 2 ^ 47 then some (.bool (nameB s)) else none
 | _=>none
theorem ok127 : OkAt Tryz.prog 127 φnmP:=by
 refine ok_of (l:=[(134,φfk 1),(17,φkept)]) (.cons ok134 (.cons ok17 .nil)) fn127 fun args r h=>?_
 unfold φnmP at h
 split at h
 ·split at h
  ·rename_i s hs
   injection h with h;subst h
   refine ⟨by simp,by simp [D.cl],fun H T=>?_⟩
   have p:=fk_at (k:=1) hs
   have q : φkept [.str s] = some (.bool (inB keptW s)):=by rw [<- keptB_in];rfl
   unfold nameB
   obtain ⟨b,hb⟩ : ∃ z,formI 1 s 0 = z:=⟨_,rfl⟩
   rw [hb] at p ⊢
   cases b with
   | true=>simp +contextual (maxSteps:=10000000) only [c127,p,q,go_sem]
   | false=>simp +contextual (maxSteps:=10000000) only [c127,p,go_sem]
  ·cases h
 ·cases h
theorem cont_who (s : List UInt8) : φcontS [.sl none (whoW.map .str),.str s] = some (.bool (inB whoW s)):=by
 have hL : isLs isTx (.sl none (whoW.map D.str)):=⟨false,whoW.map D.str,rfl,by decide,fun x hx=>by
  obtain ⟨y,hy,rfl⟩:=List.mem_map.1 hx
  have key : ∀ y ∈ whoW,y.length <= 2 ^ 47:=by decide
  exact ⟨y,rfl,key y hy⟩⟩
 simp only [φcontS]
 rw [if_pos hL]
 congr 2
 have e : elems (D.sl none (whoW.map D.str)) = whoW.map D.str:=rfl
 rw [e,List.any_map]
 unfold inB
 refine congrArg (List.any whoW) (funext fun x=>?_)
 show (s == x) = (x == s)
 rw [Bool.eq_iff_iff];simp only [beq_iff_eq];exact ⟨fun h=>h.symm,fun h=>h.symm⟩
theorem ok126 : OkAt Tryz.prog 126 φwho:=by
 refine ok_of (l:=[(47,φcontS)]) (.cons ok47L .nil) fn126 fun args r h=>?_
 unfold φwho at h
 split at h
 ·rename_i s
  injection h with h;subst h
  refine ⟨by simp,by simp [D.cl],fun H T=>?_⟩
  have p:=cont_who s
  simp only [whoW,List.map_cons,List.map_nil] at p ⊢
  simp +contextual (maxSteps:=10000000) only [c126,p,go_sem]
 ·cases h
def litP (v : D) (l : Int) : Bool:=if vk v == 2 then decide (l <= vi v) else if vk v == 3 then formI 3 (vs v) 0 else (vk v == 1) || (vk v == 4)
def φlitP : List D -> Option D
 | [v,.int .i64 l]=>if v.isV = true then some (.bool (litP v l)) else none
 | _=>none
theorem ok130 : OkAt Tryz.prog 130 φlitP:=by
 refine ok_of (l:=[(128,φfk 3)]) (.cons ok128 .nil) fn130 fun args r h=>?_
 unfold φlitP at h
 split at h
 ·rename_i v l
  split at h
  ·rename_i hv
   injection h with h;subst h
   refine ⟨by simp,by simp [D.cl],fun H T=>?_⟩
   obtain ⟨k,i,s,n,xs,rfl,hs,hx,hV⟩:=isV_elim hv
   have eL:=erase_of_isV hV
   have p:=fk_at (k:=3) hs
   simp only [litP,vk_mk,vi_mk,vs_mk]
   rcases tf (k == 2) with g2 | g2
   ·rw [g2];simp +contextual (maxSteps:=10000000) only [c130,mkV,eL,g2,go_sem]
   rcases tf (k == 3) with g3 | g3
   ·rw [g2,g3];simp +contextual (maxSteps:=10000000) only [c130,mkV,eL,g2,g3,p,go_sem]
   rcases tf (k == 1) with g1 | g1
   ·rw [g2,g3,g1];simp +contextual (maxSteps:=10000000) only [c130,mkV,eL,g2,g3,g1,go_sem]
   ·rw [g2,g3,g1];simp +contextual (maxSteps:=10000000) only [c130,mkV,eL,g2,g3,g1,go_sem]
  ·cases h
 ·cases h
def φlitN : List D -> Option D
 | [v]=>if v.isV = true then some (.bool (!(litP v (-9223372036854775807)))) else none
 | _=>none
theorem ok132 : OkAt Tryz.prog 132 φlitN:=by
 refine ok_of (l:=[(130,φlitP)]) (.cons ok130 .nil) fn132 fun args r h=>?_
 unfold φlitN at h
 split at h
 ·rename_i v
  split at h
  ·rename_i hv
   injection h with h;subst h
   refine ⟨by simp,by simp [D.cl],fun H T=>?_⟩
   have p : φlitP [v,.int .i64 (-9223372036854775807)] = some (.bool (litP v (-9223372036854775807))):=by simp only [φlitP];rw [if_pos hv]
   have ee:=isV_erase hv
   obtain ⟨k,i,s,n,xs,rfl,hs,hx,hV⟩:=isV_elim hv
   obtain ⟨b,hb⟩ : ∃ z,litP (mkV k i s n xs) (-9223372036854775807) = z:=⟨_,rfl⟩
   rw [hb] at p ⊢
   simp only [mkV] at p ee
   simp +contextual (maxSteps:=10000000) only [c132,mkV,ee,p,go_sem]
  ·cases h
 ·cases h
def isVp (x : D) : Prop:=x.isV = true
theorem el_V (x : D) (h : isVp x) : El true 4 x:=by
 have ee:=isV_erase h
 obtain ⟨k,i,s,n,xs,rfl,_⟩:=isV_elim h
 exact El.agg ee rfl rfl
theorem ok180 : OkAtH Tryz.prog 180 (φidx 132 (fun _=>φlitN) isVp):=okIdx (ag:=true) (sz:=4) fn180 (OkAt.lift ok132) (Mo.const _) el_V
theorem ok131 : OkAtH Tryz.prog 131 (φcf 132 (fun _=>φlitN) isVp):=okCf fn131 (fun x h=>isV_erase h) ok180 (Mo.const _)
theorem OkAtH.flat {P : Program} [HasG P] {f : FuncId} {ψ : Hp -> List D -> Option D} (h : OkAtH P f ψ) {φ : List D -> Option D} (he : ∀ H a r,φ a = some r -> ψ H a = some r) : OkAt P f φ :=
 fun args r hr args' hx H T Q hQ=>h H args r (he H args r hr) args' hx T Q hQ
def φanyN : List D -> Option D
 | [l,.fn 132 [] []]=>if D.isVs (elems l) = true /\ isSl l = true /\ (elems l).length <= 2 ^ 47 then some (.bool ((elems l).any fun x=>!(litP x (-9223372036854775807)))) else none
 | _=>none
theorem ok131f : OkAt Tryz.prog 131 φanyN:=ok131.flat fun H a r h=>by
 unfold φanyN at h
 split at h
 ·rename_i l
  split at h
  ·rename_i hc
   injection h with h;subst h
   obtain ⟨n,hn⟩:=isSl_elim hc.2.1
   obtain ⟨xs,hx⟩ : ∃ xs,elems l = xs:=⟨_,rfl⟩
   rw [hx] at hc hn ⊢
   subst hn
   have hV:=isVs_iff.1 hc.1
   have hp : ∀ x ∈ xs,φlitN (x :: []) = some (.bool (!(litP x (-9223372036854775807)))):=fun x h=>by simp only [φlitN];rw [if_pos (hV x h)]
   simp only [φcf]
   rw [if_pos ⟨rfl,⟨n,xs,rfl,hc.2.2,hV⟩,rfl,by rw [elems_sliceD];exact fun x h=>⟨_,hp x h⟩⟩,elems_sliceD]
   congr 2
   exact any_congr' fun x h=>by rw [hp x h];rfl
  ·cases h
 ·cases h
def wrP (v : D) : Bool:=if !formedV v then false else if vk v != 5 then litP v 0 else decide ((0 : Int) < ((vl v).length : Nat)) && !((vl v).any fun x=>!(litP x (-9223372036854775807)))
def φwrP : List D -> Option D
 | [v]=>if v.isV = true then some (.bool (wrP v)) else none
 | _=>none
theorem ok78 : OkAt Tryz.prog 78 φwrP:=by
 refine ok_of (l:=[(129,φFormed),(130,φlitP),(131,φanyN)]) (.cons ok129 (.cons ok130 (.cons ok131f .nil))) fn78 fun args r h=>?_
 unfold φwrP at h
 split at h
 ·rename_i v
  split at h
  ·rename_i hv
   injection h with h;subst h
   refine ⟨by simp,by simp [D.cl],fun H T=>?_⟩
   have ee:=isV_erase hv
   have p1 : φFormed [v] = some (.bool (formedV v)):=by simp only [φFormed];rw [if_pos hv]
   have p2 : φlitP [v,.int .i64 0] = some (.bool (litP v 0)):=by simp only [φlitP];rw [if_pos hv]
   obtain ⟨k,i,s,n,xs,rfl,hs,hx,hV⟩:=isV_elim hv
   have eL:=erase_of_isV hV
   have p3 : φanyN [sliceD n xs,.fn 132 [] []] = some (.bool (xs.any fun x=>!(litP x (-9223372036854775807)))):=by
    simp only [φanyN];rw [if_pos ⟨by rw [elems_sliceD];exact isVs_iff.2 hV,isSl_sliceD _ _,by rw [elems_sliceD];exact hx⟩,elems_sliceD]
   unfold wrP
   obtain ⟨b1,hb1⟩ : ∃ z,formedV (mkV k i s n xs) = z:=⟨_,rfl⟩
   obtain ⟨b2,hb2⟩ : ∃ z,litP (mkV k i s n xs) 0 = z:=⟨_,rfl⟩
   obtain ⟨b3,hb3⟩ : ∃ z,(xs.any fun x=>!(litP x (-9223372036854775807))) = z:=⟨_,rfl⟩
   rw [hb1] at p1 ⊢
   rw [hb2] at p2 ⊢
   rw [hb3] at p3
   simp only [vk_mk,vl_mk,hb3]
   simp only [mkV] at p1 p2 ee
   cases b1 with
   | false=>simp +contextual (maxSteps:=10000000) only [c78,mkV,ee,p1,go_sem]
   | true =>
   rcases tf (k != 5) with g5 | g5
   ·rw [g5];simp +contextual (maxSteps:=10000000) only [c78,mkV,ee,p1,p2,g5,go_sem]
   rw [g5]
   rcases tf (decide ((0 : Int) < (xs.length : Nat))) with g0 | g0
   ·rw [g0];simp +contextual (maxSteps:=10000000) only [c78,mkV,ee,eL,p1,g5,g0,p3,go_sem]
   ·rw [g0];simp +contextual (maxSteps:=10000000) only [c78,mkV,ee,p1,g5,g0,go_sem]
  ·cases h
 ·cases h
theorem litP_0 (v : D) : litP v 0 = litB v false:=by
 unfold litP litB
 cases vk v == 2 <;> cases h3 : vk v == 3 <;> cases h1 : vk v == 1 <;> cases h4 : vk v == 4 <;> simp_all
theorem litP_1 (v : D) : litP v (-9223372036854775807) = litB v true:=by
 unfold litP litB
 cases vk v == 2 with
 | true =>
  simp only [if_true,Bool.true_and]
  rw [Bool.eq_iff_iff];simp only [decide_eq_true_eq,Bool.or_eq_true];omega
 | false=>cases h3 : vk v == 3 <;> cases h1 : vk v == 1 <;> cases h4 : vk v == 4 <;> simp_all
theorem wr_val (v : D) : wrP v = valB v:=by
 unfold wrP valB
 rw [formed_same,litP_0]
 have e : (!((vl v).any fun x=>!(litP x (-9223372036854775807)))) = (vl v).all (fun x=>litB x true):=by
  rw [List.not_any_eq_all_not]
  refine all_congr' fun x _=>?_
  rw [Bool.not_not,litP_1]
 have e2 : decide ((0 : Int) < ((vl v).length : Nat)) = decide (0 < (vl v).length):=by rw [decide_eq_decide];omega
 rw [e,e2,Bool.and_comm]
def namedB (e : D) : Bool:=if (eop e == sAttr) || (eop e == sHas) then inB whoW (ewho e) && nameB (ename e) else if eop e == sRole then (ewho e == []) && formI 3 (ename e) 0 else (ewho e == []) && (ename e == [])
open Classical in
noncomputable def φnamed (n : Nat) : List D -> Option D
 | [e]=>if isE n e then some (.bool (namedB e)) else none
 | _=>none
set_option maxHeartbeats 2000000 in
theorem ok77 (n : Nat) : OkAt Tryz.prog 77 (φnamed n):=by
 refine ok_of (l:=[(126,φwho),(127,φnmP),(128,φfk 3)]) (.cons ok126 (.cons ok127 (.cons ok128 .nil))) fn77 fun args r h=>?_
 unfold φnamed at h
 split at h
 ·rename_i e
  split at h
  ·rename_i he
   injection h with h;subst h
   refine ⟨by simp,by simp [D.cl],fun H T=>?_⟩
   obtain ⟨m',rfl⟩:=isE_pos he
   have ee:=isE_erase he
   obtain ⟨op,k,i,t,nl,l,who,name,m,ps,rfl,h1,h2,h3,h4,h5,h6,eL,eP⟩:=isE_elim he
   have p1 : φwho [.str who] = some (.bool (inB whoW who)):=rfl
   have p2 : φnmP [.str name] = some (.bool (nameB name)):=by simp only [φnmP];rw [if_pos h3]
   have p3:=fk_at (k:=3) h3
   have eN : namedB (mkE op k i t nl l who name m ps) = (if (op == sAttr) || (op == sHas) then inB whoW who && nameB name else if op == sRole then (who == []) && formI 3 name 0 else (who == []) && (name == [])):=rfl
   rw [eN]
   obtain ⟨b1,hb1⟩ : ∃ z,inB whoW who = z:=⟨_,rfl⟩
   obtain ⟨b2,hb2⟩ : ∃ z,nameB name = z:=⟨_,rfl⟩
   obtain ⟨b3,hb3⟩ : ∃ z,formI 3 name 0 = z:=⟨_,rfl⟩
   rw [hb1] at p1 ⊢
   rw [hb2] at p2 ⊢
   rw [hb3] at p3 ⊢
   simp only [mkE] at ee
   rcases tf (op == sAttr) with a1 | a1
   ·have a1' : (op == [97,116,116,114]) = true:=a1
    rw [a1]
    cases b1 with
    | true=>simp +contextual (maxSteps:=10000000) only [c77,mkE,ee,a1',p1,p2,go_sem]
    | false=>simp +contextual (maxSteps:=10000000) only [c77,mkE,ee,a1',p1,go_sem]
   have a1' : (op == [97,116,116,114]) = false:=a1
   rcases tf (op == sHas) with a2 | a2
   ·have a2' : (op == [104,97,115]) = true:=a2
    rw [a1,a2]
    cases b1 with
    | true=>simp +contextual (maxSteps:=10000000) only [c77,mkE,ee,a1',a2',p1,p2,go_sem]
    | false=>simp +contextual (maxSteps:=10000000) only [c77,mkE,ee,a1',a2',p1,go_sem]
   have a2' : (op == [104,97,115]) = false:=a2
   rcases tf (op == sRole) with a3 | a3
   ·have a3' : (op == [114,111,108,101]) = true:=a3
    rw [a1,a2,a3]
    rcases tf (who == []) with w | w
    ·rw [w];simp +contextual (maxSteps:=10000000) only [c77,mkE,ee,a1',a2',a3',w,p3,go_sem]
    ·rw [w];simp +contextual (maxSteps:=10000000) only [c77,mkE,ee,a1',a2',a3',w,go_sem]
   have a3' : (op == [114,111,108,101]) = false:=a3
   rw [a1,a2,a3]
   rcases tf (who == []) with w | w
   ·rw [w]
    rcases tf (name == []) with v | v
    ·rw [v];simp +contextual (maxSteps:=10000000) only [c77,mkE,ee,a1',a2',a3',w,v,go_sem]
    ·rw [v];simp +contextual (maxSteps:=10000000) only [c77,mkE,ee,a1',a2',a3',w,v,go_sem]
   ·rw [w];simp +contextual (maxSteps:=10000000) only [c77,mkE,ee,a1',a2',a3',w,go_sem]
  ·cases h
 ·cases h
end GP
namespace GP
open Go Go.Proofs
set_option maxRecDepth 100000
def lsOf (op : List UInt8) : List Int:=if op == wOr then [0,1] else if op == wAnd then [1,2] else if op == sNot then [2] else if inB cmpW op then [4,4] else if inB [[43],[45]] op then [4,5] else if op == [42] then [5,6] else if op == sNeg then [6] else if op == sSize then [0] else []
def lsD (op : List UInt8) : D:=sliceD true ((lsOf op).map (D.int .i64))
def ops20 : List (List UInt8):=[[111,114],[97,110,100],[110,111,116],[61,61],[33,61],[60],[60,61],[62],[62,61],[105,110],[43],[45],[42],[110,101,103],[115,105,122,101],[118,97,108,117,101],[110,111,119],[97,116,116,114],[104,97,115],[114,111,108,101]]
theorem op_not {op : List UInt8} (h : op ∉ ops20) : stI op = -1 /\ lsOf op = []:=by
 have hw : ∀ w ∈ ops20,(op == w) = false /\ (w == op) = false:=fun w hw=>by
  constructor
  ·rw [beq_eq_false_iff_ne];exact fun e=>h (e ▸ hw)
  ·rw [beq_eq_false_iff_ne];exact fun e=>h (e ▸ hw)
 have in0 : ∀ l : List (List UInt8),(∀ w ∈ l,w ∈ ops20) -> inB l op = false:=fun l hl=>by
  unfold inB
  rw [List.any_eq_false]
  intro x hx
  rw [(hw x (hl x hx)).2];decide
 constructor
 ·unfold stI
  rw [in0 [wOr] (by decide),in0 [wAnd] (by decide),in0 cmpW (by decide),in0 [[43],[45]] (by decide),in0 [[42]] (by decide),(hw wNot (by decide)).1,(hw wNeg (by decide)).1,in0 plainW (by decide)]
  rfl
 ·unfold lsOf
  rw [in0 cmpW (by decide),in0 [[43],[45]] (by decide),(hw wOr (by decide)).1,(hw wAnd (by decide)).1,(hw sNot (by decide)).1,(hw [42] (by decide)).1,(hw sNeg (by decide)).1,(hw sSize (by decide)).1]
  rfl
theorem op_mem {op : List UInt8} (h : 0 <= stI op) : op ∈ ops20:=by
 by_cases hm : op ∈ ops20
 ·exact hm
 ·rw [(op_not hm).1] at h;omega
theorem ls_len {op : List UInt8} (h : 0 <= stI op) : ((lsOf op).length : Int) = arN op:=by
 have key : ∀ w ∈ ops20,((lsOf w).length : Int) = arN w:=by decide
 exact key op (op_mem h)
theorem ls_two {op : List UInt8} (h : isOp2 op) : lsOf op = [lstS op,stI op + 1]:=by
 have key : ∀ w ∈ ops2,lsOf w = [lstS w,stI w + 1]:=by decide
 exact key op (ops2_of h)
def φbinds : List D -> Option D
 | [.str op]=>some (.tup [.int .i64 (stI op),lsD op])
 | _=>none
theorem lsD_cl (op : List UInt8) : (lsD op).cl 0 0 = true /\ (lsD op).erase = lsD op:=by
 have : lsOf op = [0,1] ∨ lsOf op = [1,2] ∨ lsOf op = [2] ∨ lsOf op = [4,4] ∨ lsOf op = [4,5] ∨ lsOf op = [5,6] ∨ lsOf op = [6] ∨ lsOf op = [0] ∨ lsOf op = []:=by
  unfold lsOf;(repeat' split) <;> simp
 unfold lsD
 rcases this with h | h | h | h | h | h | h | h | h <;> rw [h] <;> exact ⟨rfl,rfl⟩
set_option maxHeartbeats 8000000 in
theorem ok76 : OkAt Tryz.prog 76 φbinds:=by
 refine ok_of (l:=[]) .nil fn76 fun args r h=>?_
 unfold φbinds at h
 split at h
 ·rename_i op
  injection h with h;subst h
  refine ⟨by simp,by simp only [D.cl,D.clL,(lsD_cl op).1];rfl,fun H T=>?_⟩
  rcases tf (op == [111,114]) with e0 | e0
  ·have:=eq_of_beq' e0
   subst this
   rw [show stI [111,114] = 0 by decide,show lsD [111,114] = .sl none [.int .i64 0,.int .i64 1] by rfl]
   simp +contextual (maxSteps:=10000000) only [c76,e0,go_sem]
  rcases tf (op == [97,110,100]) with e1 | e1
  ·have:=eq_of_beq' e1
   subst this
   rw [show stI [97,110,100] = 1 by decide,show lsD [97,110,100] = .sl none [.int .i64 1,.int .i64 2] by rfl]
   simp +contextual (maxSteps:=10000000) only [c76,e0,e1,go_sem]
  rcases tf (op == [110,111,116]) with e2 | e2
  ·have:=eq_of_beq' e2
   subst this
   rw [show stI [110,111,116] = 2 by decide,show lsD [110,111,116] = .sl none [.int .i64 2] by rfl]
   simp +contextual (maxSteps:=10000000) only [c76,e0,e1,e2,go_sem]
  rcases tf (op == [61,61]) with e3 | e3
  ·have:=eq_of_beq' e3
   subst this
   rw [show stI [61,61] = 3 by decide,show lsD [61,61] = .sl none [.int .i64 4,.int .i64 4] by rfl]
   simp +contextual (maxSteps:=10000000) only [c76,e0,e1,e2,e3,go_sem]
  rcases tf (op == [33,61]) with e4 | e4
  ·have:=eq_of_beq' e4
   subst this
   rw [show stI [33,61] = 3 by decide,show lsD [33,61] = .sl none [.int .i64 4,.int .i64 4] by rfl]
   simp +contextual (maxSteps:=10000000) only [c76,e0,e1,e2,e3,e4,go_sem]
  rcases tf (op == [60]) with e5 | e5
  ·have:=eq_of_beq' e5
   subst this
   rw [show stI [60] = 3 by decide,show lsD [60] = .sl none [.int .i64 4,.int .i64 4] by rfl]
   simp +contextual (maxSteps:=10000000) only [c76,e0,e1,e2,e3,e4,e5,go_sem]
  rcases tf (op == [60,61]) with e6 | e6
  ·have:=eq_of_beq' e6
   subst this
   rw [show stI [60,61] = 3 by decide,show lsD [60,61] = .sl none [.int .i64 4,.int .i64 4] by rfl]
   simp +contextual (maxSteps:=10000000) only [c76,e0,e1,e2,e3,e4,e5,e6,go_sem]
  rcases tf (op == [62]) with e7 | e7
  ·have:=eq_of_beq' e7
   subst this
   rw [show stI [62] = 3 by decide,show lsD [62] = .sl none [.int .i64 4,.int .i64 4] by rfl]
   simp +contextual (maxSteps:=10000000) only [c76,e0,e1,e2,e3,e4,e5,e6,e7,go_sem]
  rcases tf (op == [62,61]) with e8 | e8
  ·have:=eq_of_beq' e8
   subst this
   rw [show stI [62,61] = 3 by decide,show lsD [62,61] = .sl none [.int .i64 4,.int .i64 4] by rfl]
   simp +contextual (maxSteps:=10000000) only [c76,e0,e1,e2,e3,e4,e5,e6,e7,e8,go_sem]
  rcases tf (op == [105,110]) with e9 | e9
  ·have:=eq_of_beq' e9
   subst this
   rw [show stI [105,110] = 3 by decide,show lsD [105,110] = .sl none [.int .i64 4,.int .i64 4] by rfl]
   simp +contextual (maxSteps:=10000000) only [c76,e0,e1,e2,e3,e4,e5,e6,e7,e8,e9,go_sem]
  rcases tf (op == [43]) with e10 | e10
  ·have:=eq_of_beq' e10
   subst this
   rw [show stI [43] = 4 by decide,show lsD [43] = .sl none [.int .i64 4,.int .i64 5] by rfl]
   simp +contextual (maxSteps:=10000000) only [c76,e0,e1,e2,e3,e4,e5,e6,e7,e8,e9,e10,go_sem]
  rcases tf (op == [45]) with e11 | e11
  ·have:=eq_of_beq' e11
   subst this
   rw [show stI [45] = 4 by decide,show lsD [45] = .sl none [.int .i64 4,.int .i64 5] by rfl]
   simp +contextual (maxSteps:=10000000) only [c76,e0,e1,e2,e3,e4,e5,e6,e7,e8,e9,e10,e11,go_sem]
  rcases tf (op == [42]) with e12 | e12
  ·have:=eq_of_beq' e12
   subst this
   rw [show stI [42] = 5 by decide,show lsD [42] = .sl none [.int .i64 5,.int .i64 6] by rfl]
   simp +contextual (maxSteps:=10000000) only [c76,e0,e1,e2,e3,e4,e5,e6,e7,e8,e9,e10,e11,e12,go_sem]
  rcases tf (op == [110,101,103]) with e13 | e13
  ·have:=eq_of_beq' e13
   subst this
   rw [show stI [110,101,103] = 6 by decide,show lsD [110,101,103] = .sl none [.int .i64 6] by rfl]
   simp +contextual (maxSteps:=10000000) only [c76,e0,e1,e2,e3,e4,e5,e6,e7,e8,e9,e10,e11,e12,e13,go_sem]
  rcases tf (op == [115,105,122,101]) with e14 | e14
  ·have:=eq_of_beq' e14
   subst this
   rw [show stI [115,105,122,101] = 7 by decide,show lsD [115,105,122,101] = .sl none [.int .i64 0] by rfl]
   simp +contextual (maxSteps:=10000000) only [c76,e0,e1,e2,e3,e4,e5,e6,e7,e8,e9,e10,e11,e12,e13,e14,go_sem]
  rcases tf (op == [118,97,108,117,101]) with e15 | e15
  ·have:=eq_of_beq' e15
   subst this
   rw [show stI [118,97,108,117,101] = 7 by decide,show lsD [118,97,108,117,101] = .nils by rfl]
   simp +contextual (maxSteps:=10000000) only [c76,e0,e1,e2,e3,e4,e5,e6,e7,e8,e9,e10,e11,e12,e13,e14,e15,go_sem]
  rcases tf (op == [110,111,119]) with e16 | e16
  ·have:=eq_of_beq' e16
   subst this
   rw [show stI [110,111,119] = 7 by decide,show lsD [110,111,119] = .nils by rfl]
   simp +contextual (maxSteps:=10000000) only [c76,e0,e1,e2,e3,e4,e5,e6,e7,e8,e9,e10,e11,e12,e13,e14,e15,e16,go_sem]
  rcases tf (op == [97,116,116,114]) with e17 | e17
  ·have:=eq_of_beq' e17
   subst this
   rw [show stI [97,116,116,114] = 7 by decide,show lsD [97,116,116,114] = .nils by rfl]
   simp +contextual (maxSteps:=10000000) only [c76,e0,e1,e2,e3,e4,e5,e6,e7,e8,e9,e10,e11,e12,e13,e14,e15,e16,e17,go_sem]
  rcases tf (op == [104,97,115]) with e18 | e18
  ·have:=eq_of_beq' e18
   subst this
   rw [show stI [104,97,115] = 7 by decide,show lsD [104,97,115] = .nils by rfl]
   simp +contextual (maxSteps:=10000000) only [c76,e0,e1,e2,e3,e4,e5,e6,e7,e8,e9,e10,e11,e12,e13,e14,e15,e16,e17,e18,go_sem]
  rcases tf (op == [114,111,108,101]) with e19 | e19
  ·have:=eq_of_beq' e19
   subst this
   rw [show stI [114,111,108,101] = 7 by decide,show lsD [114,111,108,101] = .nils by rfl]
   simp +contextual (maxSteps:=10000000) only [c76,e0,e1,e2,e3,e4,e5,e6,e7,e8,e9,e10,e11,e12,e13,e14,e15,e16,e17,e18,e19,go_sem]
  ·have hm : op ∉ ops20:=fun h=>by
    simp only [ops20,List.mem_cons,List.not_mem_nil,or_false] at h
    simp only [beq_eq_false_iff_ne,ne_eq] at e0 e1 e2 e3 e4 e5 e6 e7 e8 e9 e10 e11 e12 e13 e14 e15 e16 e17 e18 e19
    simp_all
   have hs:=(op_not hm).1
   have hl : lsD op = .nils:=by unfold lsD;rw [(op_not hm).2];rfl
   rw [hs,hl]
   simp +contextual (maxSteps:=10000000) only [c76,e0,e1,e2,e3,e4,e5,e6,e7,e8,e9,e10,e11,e12,e13,e14,e15,e16,e17,e18,e19,go_sem]
 ·cases h
noncomputable def fmP : Nat -> D -> Bool
 | 0,_=>false
 | n + 1,e=>if decide (stI (eop e) < 0) || ((((lsOf (eop e)).length : Nat) : Int) != ((eps e).length : Nat)) || !namedB e then false else if eop e == sVal then wrP (eV e) else (ordW ord0 (eV e) zeroV == 0) && !((eps e).any fun x=>!(fmP n x))
theorem fmP_S (n : Nat) (e : D) {op : List UInt8} {v : D} {l : List D} (h1 : eop e = op) (h2 : eV e = v) (h3 : eps e = l) : fmP (n + 1) e = (if decide (stI op < 0) || ((((lsOf op).length : Nat) : Int) != (l.length : Nat)) || !namedB e then false else if op == sVal then wrP v else (ordW ord0 v zeroV == 0) && !(l.any fun x=>!(fmP n x))):=by
 subst h1;subst h2;subst h3;rfl
open Classical in
noncomputable def φfmP (n : Nat) : List D -> Option D
 | [e]=>if isE n e then some (.bool (fmP n e)) else none
 | _=>none
open Classical in
noncomputable def φfmN (n : Nat) : List D -> Option D
 | [e]=>if isE n e then some (.bool (!(fmP n e))) else none
 | _=>none
theorem isE_El {n : Nat} {x : D} (h : isE n x) : El true 8 x:=by
 obtain ⟨q1,q2,q3,q4⟩:=isE_cells h
 exact El.agg (isE_erase h) q1 q3
theorem ok80 {n : Nat} (h35 : OkAt Tryz.prog 35 (φfmP n)) : OkAt Tryz.prog 80 (φfmN n):=by
 refine ok_of (l:=[(35,φfmP n)]) (.cons h35 .nil) fn80 fun args r h=>?_
 unfold φfmN at h
 split at h
 ·rename_i e
  split at h
  ·rename_i he
   injection h with h;subst h
   refine ⟨by simp,by simp [D.cl],fun H T=>?_⟩
   have p : φfmP n [e] = some (.bool (fmP n e)):=by simp only [φfmP];rw [if_pos he]
   have ee:=isE_erase he
   obtain ⟨q1,q2,q3,q4⟩:=isE_cells he
   obtain ⟨b,hb⟩ : ∃ z,fmP n e = z:=⟨_,rfl⟩
   rw [hb] at p ⊢
   simp +contextual (maxSteps:=10000000) only [c80,ee,q1,q2,q3,q4,p,go_sem]
  ·cases h
 ·cases h
open Classical in
noncomputable def φanyF (n : Nat) : List D -> Option D
 | [l,.fn 80 [] []]=>if isLs (isE n) l then some (.bool ((elems l).any fun x=>!(fmP n x))) else none
 | _=>none
theorem ok79 {n : Nat} (h35 : OkAt Tryz.prog 35 (φfmP n)) : OkAt Tryz.prog 79 (φanyF n):=by
 have h133 : OkAtH Tryz.prog 133 (φidx 80 (fun _=>φfmN n) (isE n)):=okIdx (ag:=true) (sz:=8) fn133 (OkAt.lift (ok80 h35)) (Mo.const _) fun x h=>isE_El h
 have h79 : OkAtH Tryz.prog 79 (φcf 80 (fun _=>φfmN n) (isE n)):=okCf fn79 (fun x h=>isE_erase h) h133 (Mo.const _)
 refine h79.flat fun H a r h=>?_
 unfold φanyF at h
 split at h
 ·rename_i l
  split at h
  ·rename_i hc
   injection h with h;subst h
   have hp : ∀ x ∈ elems l,φfmN n (x :: []) = some (.bool (!(fmP n x))):=fun x h=>by
    obtain ⟨m,xs,rfl,h1,h2⟩:=hc
    rw [elems_sliceD] at h
    simp only [φfmN];rw [if_pos (h2 x h)]
   simp only [φcf]
   rw [if_pos ⟨rfl,hc,rfl,fun x h=>⟨_,hp x h⟩⟩]
   congr 2
   exact any_congr' fun x h=>by rw [hp x h];rfl
  ·cases h
 ·cases h
set_option maxHeartbeats 8000000 in
theorem ok35 : ∀ n,OkAt Tryz.prog 35 (φfmP n)
 | 0=>fun args r h=>by
  unfold φfmP at h
  split at h
  ·split at h
   ·rename_i h';exact h'.elim
   ·cases h
  ·cases h
 | n + 1=>by
  refine ok_of (l:=[(76,φbinds),(77,φnamed (n + 1)),(78,φwrP),(64,φOrdZ),(79,φanyF n)]) (.cons ok76 (.cons (ok77 (n + 1)) (.cons ok78 (.cons ok64z (.cons (ok79 (ok35 n)) .nil))))) fn35 fun args r h=>?_
  unfold φfmP at h
  split at h
  ·rename_i e
   split at h
   ·rename_i hc
    injection h with h;subst h
    refine ⟨by simp,by simp [D.cl],fun H T=>?_⟩
    have he:=hc
    have ks:=isE_eps he
    have ee:=isE_erase he
    have p77 : φnamed (n + 1) [e] = some (.bool (namedB e)):=by simp only [φnamed];rw [if_pos he]
    obtain ⟨op,k,i,t,nl,l,who,name,m,ps,rfl,h1,h2,h3,h4,h5,h6,eL,eP⟩:=isE_elim he
    simp only [eps_mk] at ks
    have p76 : φbinds [.str op] = some (.tup [.int .i64 (stI op),lsD op]):=rfl
    have p78 : φwrP [mkV k i t nl l] = some (.bool (wrP (mkV k i t nl l))):=by simp only [φwrP];rw [if_pos h4.1]
    have p64 : φOrdZ [mkV k i t nl l,zeroV] = some (.int .i64 (ordW ord0 (mkV k i t nl l) zeroV)):=by simp only [φOrdZ];rw [if_pos ⟨h4.1,zeroV_isV,rfl⟩]
    have p79 : φanyF n [sliceD m ps,.fn 80 [] []] = some (.bool (ps.any fun x=>!(fmP n x))):=by
     simp only [φanyF]
     rw [if_pos ⟨m,ps,rfl,h5,fun x hx=>ks x hx⟩,elems_sliceD]
    have hlen : lenD (lsD op) = some (lsOf op).length:=by unfold lsD;rw [lenD_sliceD,List.length_map]
    have hle:=(lsD_cl op).2
    have eF:=fmP_S n (mkE op k i t nl l who name m ps) (op:=op) (v:=mkV k i t nl l) (l:=ps) rfl rfl (by rw [eps_mk])
    rw [eF]
    obtain ⟨b1,hb1⟩ : ∃ z,namedB (mkE op k i t nl l who name m ps) = z:=⟨_,rfl⟩
    obtain ⟨b2,hb2⟩ : ∃ z,wrP (mkV k i t nl l) = z:=⟨_,rfl⟩
    obtain ⟨b3,hb3⟩ : ∃ z,ordW ord0 (mkV k i t nl l) zeroV = z:=⟨_,rfl⟩
    obtain ⟨b4,hb4⟩ : ∃ z,(ps.any fun x=>!(fmP n x)) = z:=⟨_,rfl⟩
    obtain ⟨st,hst⟩ : ∃ z,stI op = z:=⟨_,rfl⟩
    obtain ⟨LD,hLD⟩ : ∃ z,lsD op = z:=⟨_,rfl⟩
    obtain ⟨ll,hll⟩ : ∃ z,(lsOf op).length = z:=⟨_,rfl⟩
    rw [hb1] at p77 ⊢
    rw [hb2] at p78 ⊢
    rw [hb3] at p64 ⊢
    rw [hb4] at p79 ⊢
    rw [hst,hLD] at p76
    rw [hst,hll]
    rw [hLD,hll] at hlen
    rw [hLD] at hle
    simp only [mkV,zeroV] at p78 p64
    simp only [mkE] at p77 ee
    rcases tf (decide (st < 0)) with g1 | g1
    ·rw [g1];simp +contextual (maxSteps:=10000000) only [c35,mkE,ee,eL,eP,p76,g1,go_sem]
    rcases tf ((ll : Int) != (ps.length : Nat)) with g2 | g2
    ·rw [g1,g2];simp +contextual (maxSteps:=10000000) only [c35,mkE,ee,eL,eP,p76,g1,hlen,hle,g2,go_sem]
    cases b1 with
    | false=>rw [g1,g2];simp +contextual (maxSteps:=10000000) only [c35,mkE,ee,eL,eP,p76,g1,hlen,hle,g2,p77,go_sem]
    | true =>
    rw [g1,g2]
    rcases tf (op == sVal) with g3 | g3
    ·have g3' : (op == [118,97,108,117,101]) = true:=g3
     rw [g3];simp +contextual (maxSteps:=10000000) only [c35,mkE,ee,eL,eP,p76,g1,hlen,hle,g2,p77,g3',p78,go_sem]
    have g3' : (op == [118,97,108,117,101]) = false:=g3
    rw [g3]
    rcases tf (b3 == 0) with g4 | g4
    ·rw [g4];simp +contextual (maxSteps:=10000000) only [c35,mkE,ee,eL,eP,p76,g1,hlen,hle,g2,p77,g3',p64,g4,p79,go_sem]
    ·rw [g4];simp +contextual (maxSteps:=10000000) only [c35,mkE,ee,eL,eP,p76,g1,hlen,hle,g2,p77,g3',p64,g4,go_sem]
   ·cases h
  ·cases h
theorem cmpI_0 {a b : Int} (h : cmpI a b = 0) : a = b:=by
 unfold cmpI at h;(repeat' split at h) <;> omega
theorem cmpS_0 : ∀ {a b : List UInt8},cmpS a b = 0 -> a = b
 | [],[],_=>rfl
 | [],_ :: _,h=>by simp [cmpS] at h
 | _ :: _,[],h=>by simp [cmpS] at h
 | a :: us,b :: ws,h=>by
  simp only [cmpS] at h
  split at h
  ·cases h
  ·split at h
   ·cases h
   ·rename_i h1 h2
    have : a = b:=by
     have h1 : ¬ a.toNat < b.toNat:=h1
     have h2 : ¬ b.toNat < a.toNat:=h2
     exact UInt8.toNat_inj.1 (by omega)
    rw [this,cmpS_0 h]
theorem ord_same {v : D} (h : ordW ord0 v zeroV = 0) : sameB v zeroV = true:=by
 unfold ordW at h
 have z1 : vk zeroV = 0:=rfl
 have z2 : vi zeroV = 0:=rfl
 have z3 : vs zeroV = []:=rfl
 have z4 : vl zeroV = []:=rfl
 rw [z1,z2,z3,z4] at h
 have h3 : or3 (cmpI (vk v) 0) (cmpI (vi v) 0) (cmpS (vs v) []) = 0 /\ cmpL ord0 (vl v) [] = 0:=by
  split at h
  ·rename_i g
   rw [h] at g;simp at g
  ·rename_i g
   exact ⟨by simpa using g,h⟩
 obtain ⟨h3,h4⟩:=h3
 have h5 : cmpI (vk v) 0 = 0 /\ cmpI (vi v) 0 = 0 /\ cmpS (vs v) [] = 0:=by
  unfold or3 at h3
  (repeat' split at h3) <;> simp_all
 have e1:=cmpI_0 h5.1
 have e2:=cmpI_0 h5.2.1
 have e3:=cmpS_0 h5.2.2
 have e4 : vl v = []:=by
  cases hl : vl v with
  | nil=>rfl
  | cons a l=>rw [hl] at h4;simp [cmpL] at h4
 unfold sameB
 rw [e1,e2,e3,e4,z1,z2,z3,z4];rfl
theorem fm_eq : ∀ (n : Nat) (e : D),fmP n e = fmR n e
 | 0,_=>rfl
 | n + 1,e=>by
  have hp : (!((eps e).any fun x=>!(fmP n x))) = (eps e).all (fmR n):=by
   rw [List.not_any_eq_all_not]
   exact all_congr' fun x _=>by rw [Bool.not_not,fm_eq n x]
  have ho : (ordW ord0 (eV e) zeroV == 0) = sameB (eV e) zeroV:=by
   cases hb : sameB (eV e) zeroV with
   | true=>rw [sameB_ord hb];rfl
   | false =>
    rw [beq_eq_false_iff_ne]
    intro h
    rw [ord_same h] at hb;cases hb
  simp only [fmP,fmR]
  rw [hp,ho,wr_val]
  rcases tf (decide (stI (eop e) < 0)) with g1 | g1
  ·rw [g1];rfl
  have g0 : 0 <= stI (eop e):=by simp only [decide_eq_false_iff_not] at g1;omega
  rw [g1,ls_len g0]
  have hc : (arN (eop e) != ((eps e).length : Int)) = (((eps e).length : Int) != arN (eop e)):=by
   rw [Bool.eq_iff_iff];simp only [bne_iff_ne,ne_eq];exact ⟨fun h k=>h k.symm,fun h k=>h k.symm⟩
  rw [hc]
  rcases tf (((eps e).length : Int) != arN (eop e)) with g2 | g2
  ·rw [g2];rfl
  rw [g2]
  simp only [Bool.or_self,Bool.false_or,Bool.false_eq_true,if_false]
  unfold fmTop namedB
  rcases tf (eop e == sVal) with g3 | g3
  ·have e3:=eq_of_beq' g3
   have hl : eps e = []:=by
    have : ((eps e).length : Int) = arN (eop e):=by simpa using g2
    rw [e3,show arN sVal = 0 by decide] at this
    exact List.eq_nil_of_length_eq_zero (by omega)
   rw [hl,e3,show (sVal == sAttr) = false by decide,show (sVal == sHas) = false by decide,show (sVal == sRole) = false by decide,show (sVal == sVal) = true by decide]
   simp only [List.all_nil,Bool.or_self,Bool.false_eq_true,if_false,if_true,Bool.not_true]
   cases ewho e == [] <;> cases ename e == [] <;> cases valB (eV e) <;> rfl
  ·rw [g3]
   simp only [Bool.false_eq_true,if_false]
   generalize (eps e).all (fmR n) = A
   generalize sameB (eV e) zeroV = B
   generalize (if ((eop e == sAttr) || (eop e == sHas)) = true then inB whoW (ewho e) && nameB (ename e) else if (eop e == sRole) = true then (ewho e == []) && formI 3 (ename e) 0 else (ewho e == []) && (ename e == [])) = N
   cases A <;> cases B <;> cases N <;> rfl
end GP
namespace GP
open Go
set_option maxRecDepth 100000
variable {P : Program} [HasG P]
mutual
theorem ren_id : ∀ d : D,d.ren id id = d
 | .sl t xs=>by simp only [D.ren,renL_id xs,Option.map_id_fun,id_eq]
 | .el cs=>by simp only [D.ren,renL_id cs]
 | .agg cs=>by simp only [D.ren,renL_id cs]
 | .tup cs=>by simp only [D.ren,renL_id cs]
 | .fn f a b=>by simp only [D.ren,renL_id a,renL_id b]
 | .ifc t d=>by simp only [D.ren,ren_id d]
 | .ptr o off=>rfl
 | .mp o=>rfl
 | .ms ..=>rfl
 | .bool _ | .int _ _ | .str _ | .nilp | .nils | .e0 | .nilf | .nilm | .nili | .top=>rfl
theorem renL_id : ∀ l : List D,D.renL id id l = l
 | []=>rfl
 | d :: l=>by simp only [D.renL,ren_id d,renL_id l]
end
theorem leavesG_same {H L : Hp} {T : Tk} {r : D} (hL : ∀ x ∈ L,∃ cs,x = .row cs /\ ∀ d ∈ cs,d.one = true) : LeavesG H T r (H ++ L) T r (H ++ L) T:=by
 refine ⟨_,_,.refl _ _,id,id,fun _ _=>rfl,fun _ _=>rfl,by rw [ren_id];exact Crs.refl _,fun o x h=>⟨x,h,?_⟩,fun _ _ _ _ h=>h,fun _ _ _ _ h=>h,fun _ _=>rfl,by simp,Nat.le_refl _⟩
 rcases Nat.lt_or_ge o H.length with ho | ho
 ·rw [List.getElem?_append_left ho] at h;exact .inl ⟨rfl,h⟩
 ·rw [List.getElem?_append_right ho] at h
  obtain ⟨cs,rfl,hc⟩:=hL x (List.mem_of_getElem? h)
  exact .inr (.inl ⟨cs,cs,rfl,rfl,rfl,hc,fun i h _=>by rw [ren_id];exact Crs.refl _⟩)
theorem okX_of {X : Pred} (hX : ∀ f args H T Q Q',(∀ r H T,Q r H T -> Q' r H T) -> X f args H T Q -> Snd P f args H T Q') {f : FuncId} {n : Nat} {rs : List (Sum Nat (Nat × Bool × Nat))} {cc : C} (hf : Fn P f n rs cc) {φ : List D -> Option D}
  (h : ∀ args r,φ args = some r -> args.length <= n /\ r.cl 0 0 = true /\ ∀ H T,W X cc (endQ rs (LeavesE r H T)) ⟨argT args,H,T⟩) : OkAt P f φ:=by
 intro args r hr args' he H T Q hQ
 obtain ⟨h1,h2,h3⟩:=h args r hr
 have hS : Snd P f args H T (LeavesE r H T):=call_of hf h1 (W_mono hX (fun _ _ h=>h) (h3 H T))
 intro c w vs kg k1 k2 k3
 have k3' : Reps c args vs:=by rw [<- he];exact k3.erase
 have hcl:=D.cl_mono (Nat.zero_le H.length) (Nat.zero_le T.length) r h2
 have hC : Closed H H T.length:=⟨Nat.le_refl _,fun _ _ _ h _=>.inl h⟩
 rcases hS c w vs kg k1 k2 k3' with ⟨g1,g2⟩ | ⟨v,w',g1,g2⟩
 ·exact .inl ⟨g1,g2.mono fun e w' k=>CallPost.forgetE k1 k2 hcl hC hQ k⟩
 ·exact .inr ⟨v,w',g1,CallPost.forgetE k1 k2 hcl hC hQ g2⟩
open Rd O
def growC (ag : Bool) (sz bytes : Nat) (z : List D) : C :=
 (.seq (.reg [⟨(some 4),none,.mv (k .nils)⟩])
 (.seq (.seq (.reg [⟨(some 5),none,.mv (t 1)⟩,⟨(some 6),none,.bin .lss (t 5) (k (.int .i64 0))⟩])
 (.cond (t 6)
 .stop
 .skip))
 (.seq (.seq (.reg [⟨(some 8),none,.mv (t 1)⟩,⟨(some 9),none,.mv (t 0)⟩,⟨(some 10),none,.capz (t 9)⟩,⟨(some 11),none,.mv (t 0)⟩,⟨(some 12),none,.len (t 11)⟩,⟨(some 13),none,.bin .sub (t 10) (t 12)⟩,⟨(some 14),none,.bin .sub (t 8) (t 13)⟩,⟨(some 1),none,.mv (t 14)⟩])
 (.seq (.reg [⟨(some 15),none,.mv (t 1)⟩,⟨(some 16),none,.bin .gtr (t 15) (k (.int .i64 0))⟩])
 (.cond (t 16)
 (.reg [⟨(some 17),none,.mv (t 0)⟩,⟨(some 18),none,.mv (t 0)⟩,⟨(some 19),none,.capz (t 18)⟩,⟨(some 20),none,.sls sz (t 17) none (some (t 19))⟩,⟨(some 21),none,.mv (t 1)⟩,⟨(some 22),none,.appz ag sz bytes z (t 20) (t 21)⟩,⟨(some 23),none,.mv (t 0)⟩,⟨(some 24),none,.len (t 23)⟩,⟨(some 25),none,.sls sz (t 22) none (some (t 24))⟩,⟨(some 0),none,.mv (t 25)⟩])
 .skip)))
 (.seq (.reg [⟨(some 26),none,.mv (t 0)⟩,⟨(some 4),none,.mv (t 26)⟩])
 .ret))))
def φgrow (ag : Bool) (sz bytes : Nat) (z : List D) (H : Hp) (T : Tk) : List D -> Option (D × Hp × Tk)
 | [.nils,.int .i64 n]=>if 0 <= n /\ n * bytes <= 2 ^ 47 /\ n < 2 ^ 61 then (if n = 0 then some (.nils,H,T) else some (.ms ag sz H.length 0 0 n.toNat,H ++ [.row (List.replicate n.toNat z).flatten],T)) else none
 | _=>none
theorem okGrow {N : FuncId} {ag : Bool} {sz bytes : Nat} {z : List D} (hz : z.length = sz) (hz1 : ∀ d ∈ z,d.one = true /\ d.cl 0 0 = true) (hf : Fn P N 27 [.inl 4] (growC ag sz bytes z)) : OkAtG P N (φgrow ag sz bytes z):=by
 refine okG_of (X:=Snd P) (fun _ _ _ _ _ _ h k=>Snd.mono _ _ _ _ _ _ h k) hf fun H T args r H1 T1 h=>?_
 unfold φgrow at h
 split at h
 ·rename_i n
  split at h
  ·rename_i hn
   obtain ⟨n0,n1,n2⟩:=hn
   obtain ⟨m,rfl⟩ : ∃ m : Nat,n = (m : Int):=⟨n.toNat,by omega⟩
   have d0 : decide ((m : Int) < 0) = false:=by simp only [decide_eq_false_iff_not];omega
   have w0 : IntKind.i64.wrap (0 - 0) = 0:=by decide
   have w1 : IntKind.i64.wrap ((m : Int) - 0) = (m : Int):=by rw [Int.sub_zero];exact wrap_inY (by omega) (by omega)
   have wz : IntKind.i64.wrap 0 = 0:=by decide
   have wm : IntKind.i64.wrap (m : Int) = (m : Int):=wrap_inY (by omega) (by omega)
   split at h
   ·rename_i e0
    injection h with h;injection h with h1 h2;injection h2 with h2 h3
    subst h1;subst h2;subst h3
    have : m = 0:=by omega
    subst this
    refine ⟨by simp,by simp [D.cl],Closed.refl' _ _,?_⟩
    have d1 : decide ((0 : Int) < ((0 : Nat) : Int)) = false:=by decide
    simp +contextual (maxSteps:=10000000) only [growC,d0,d1,w0,w1,wz,wm,go_sem]
    have:=leavesG_same (H:=H) (L:=[]) (T:=T) (r:=.nils) (fun x h=>by cases h)
    simpa using this
   ·rename_i e0
    injection h with h;injection h with h1 h2;injection h2 with h2 h3
    subst h1;subst h2;subst h3
    have hp : 0 < m:=by omega
    have d1 : decide ((0 : Int) < (m : Int)) = true:=by simp only [decide_eq_true_eq];omega
    rw [Int.toNat_natCast]
    refine ⟨by simp,by simp [D.cl],⟨by simp,fun o x cs ho hx=>?_⟩,?_⟩
    ·rcases Nat.lt_or_ge o H.length with hlt | hge
     ·rw [List.getElem?_append_left hlt] at ho;exact .inl ho
     ·rw [List.getElem?_append_right hge] at ho
      have:=List.mem_of_getElem? ho
      simp only [List.mem_singleton] at this
      subst this
      injection hx with hx;subst hx
      refine .inr (clL_of fun d hd=>?_)
      simp only [List.mem_flatten,List.mem_replicate] at hd
      obtain ⟨l,⟨_,rfl⟩,hd⟩:=hd
      exact D.cl_mono (Nat.zero_le _) (Nat.zero_le _) d (hz1 d hd).2
    ·have s0 : slc sz (some 0) (some 0) (.ms ag sz H.length 0 m m) = some (.ms ag sz H.length 0 0 m):=by
      simp only [slc]
      rw [if_pos ⟨by omega,by omega,by omega,by omega,trivial⟩]
      simp
     have s1 : slc sz (some 0) (some 0) .nils = some .nils:=rfl
     have z0 : ((0 : Nat) : Int) = 0:=rfl
     simp +contextual (maxSteps:=10000000) only [growC,d0,d1,w0,w1,wz,wm,appzK,s1,z0,go_sem]
     refine ⟨.inl trivial,by omega,by omega,by omega,hz,?_⟩
     simp +contextual (maxSteps:=10000000) only [s0,Int.toNat_natCast,z0,go_sem]
     have:=leavesG_same (H:=H) (L:=[.row (List.replicate m z).flatten]) (T:=T) (r:=.ms ag sz H.length 0 0 m) (fun x h=>by
      rw [List.mem_singleton] at h;subst h
      refine ⟨_,rfl,fun d hd=>?_⟩
      simp only [List.mem_flatten,List.mem_replicate] at hd
      obtain ⟨l,⟨_,rfl⟩,hd⟩:=hd
      exact (hz1 d hd).1)
     exact this
  ·cases h
 ·cases h
def conC (sz bytes : Nat) (N : FuncId) : C :=
 (.seq (.reg [⟨(some 2),none,.mv (k .nils)⟩])
 (.seq (.reg [⟨(some 3),none,.mv (k (.int .i64 0))⟩])
 (.seq (.seq (.reg [⟨(some 9),none,.mv (t 0)⟩,⟨(some 10),none,.len (t 9)⟩,⟨(some 11),none,.mv (k (.int .i64 0))⟩])
 (.block 0
 (.loop
 (.seq (.reg [⟨(some 12),none,.bin .lss (t 11) (t 10)⟩])
 (.seq (.cond (t 12)
 .skip
 (.exit 0))
 (.seq (.block 1
 (.seq (.reg [⟨(some 13),none,.iaddr 1 (t 9) (t 11)⟩,⟨(some 14),none,.load false 1 (t 13)⟩,⟨(some 5),none,.mv (t 14)⟩])
 (.seq (.reg [⟨(some 15),none,.mv (t 3)⟩,⟨(some 16),none,.mv (t 5)⟩,⟨(some 17),none,.len (t 16)⟩,⟨(some 18),none,.bin .add (t 15) (t 17)⟩,⟨(some 3),none,.mv (t 18)⟩])
 (.seq (.reg [⟨(some 19),none,.mv (t 3)⟩,⟨(some 20),none,.bin .lss (t 19) (k (.int .i64 0))⟩])
 (.cond (t 20)
 .stop
 .skip)))))
 (.reg [⟨(some 22),none,.bin .add (t 11) (k (.int .i64 1))⟩,⟨(some 11),none,.mv (t 22)⟩])))))))
 (.seq (.reg [⟨(some 23),none,.mv (t 3)⟩,⟨(some 24),none,.call (k (.fn N [] [])) [(k .nils),(t 23)]⟩,⟨(some 6),none,.mv (t 24)⟩])
 (.seq (.seq (.reg [⟨(some 25),none,.mv (t 0)⟩,⟨(some 26),none,.len (t 25)⟩,⟨(some 27),none,.mv (k (.int .i64 0))⟩])
 (.block 2
 (.loop
 (.seq (.reg [⟨(some 28),none,.bin .lss (t 27) (t 26)⟩])
 (.seq (.cond (t 28)
 .skip
 (.exit 2))
 (.seq (.block 3
 (.seq (.reg [⟨(some 29),none,.iaddr 1 (t 25) (t 27)⟩,⟨(some 30),none,.load false 1 (t 29)⟩,⟨(some 8),none,.mv (t 30)⟩])
 (.reg [⟨(some 31),none,.mv (t 6)⟩,⟨(some 32),none,.mv (t 8)⟩,⟨(some 33),none,.appm true false sz bytes (t 31) (t 32)⟩,⟨(some 6),none,.mv (t 33)⟩])))
 (.reg [⟨(some 34),none,.bin .add (t 27) (k (.int .i64 1))⟩,⟨(some 27),none,.mv (t 34)⟩])))))))
 (.seq (.reg [⟨(some 35),none,.mv (t 6)⟩,⟨(some 2),none,.mv (t 35)⟩])
 .ret))))))
theorem isSl_m {d : D} (h : isSl d = true) : ∃ m,d = sliceD m (elems d):=by
 unfold isSl at h
 split at h
 ·exact ⟨true,rfl⟩
 ·exact ⟨false,rfl⟩
 ·cases h
def catD (ls : List D) : List D:=(ls.map elems).flatten
theorem catD_app (xs ys : List D) : catD (xs ++ ys) = catD xs ++ catD ys:=by simp [catD]
theorem catD_take {ls : List D} {i : Nat} {x : D} (h : ls[i]? = some x) : catD (ls.take (i + 1)) = catD (ls.take i) ++ elems x:=by
 rw [List.take_add_one,h,catD_app];simp [catD]
structure isCat (sz bytes : Nat) (ls : List D) : Prop where
 l : ls.length <= 2 ^ 40
 s : ∀ y ∈ ls,∃ m xs,y = sliceD m xs
 a : isAg sz (catD ls)
 e : D.eraseL (catD ls) = catD ls
 c : D.clL 0 0 (catD ls) = true
 b : (catD ls).length * bytes <= 2 ^ 47
 n : (catD ls).length < 2 ^ 61
open Classical in
noncomputable def φcat (sz bytes : Nat) : List D -> Option D
 | [l]=>if isSl l = true /\ isCat sz bytes (elems l) then some (sliceD true (catD (elems l))) else none
 | _=>none
theorem isCat.mem {sz bytes : Nat} {ls : List D} (h : isCat sz bytes ls) {y : D} (hy : y ∈ ls) : isAg sz (elems y) /\ y.erase = y:=by
 have hsub : ∀ x ∈ elems y,x ∈ catD ls:=fun x hx=>List.mem_flatten.2 ⟨elems y,List.mem_map.2 ⟨y,hy,rfl⟩,hx⟩
 refine ⟨h.a.sub hsub,?_⟩
 obtain ⟨m,xs,rfl⟩:=h.s y hy
 rw [elems_sliceD] at hsub
 have he : ∀ x ∈ xs,x.erase = x:=fun x hx=>by
  have hx:=hsub x hx
  obtain ⟨i,hi,e⟩:=List.mem_iff_getElem.1 hx
  have:=h.e
  rw [eraseL_map] at this
  have h2:=congrArg (fun l=>l[i]?) this
  simp only [List.getElem?_map,List.getElem?_eq_getElem hi,Option.map_some,e] at h2
  injection h2
 rw [erase_sliceD,eraseL_id he]
theorem rep_drop {z : List D} {a b : Nat} : (List.replicate (a + b) z).flatten.drop (a * z.length) = (List.replicate b z).flatten:=by
 rw [<- List.replicate_append_replicate,List.flatten_append,List.drop_left']
 simp
theorem mk_cat (xs : List D) : (sliceD true xs).cl 0 0 = true ↔ D.clL 0 0 xs = true:=by
 rcases sliceD_cases true xs with ⟨h,rfl⟩ | h <;> rw [h] <;> simp [D.cl,D.clL]
set_option maxHeartbeats 4000000 in
theorem okCat {N M : FuncId} {sz bytes : Nat} {z : List D} (hz : z.length = sz) (hM : OkAtG P M (φgrow true sz bytes z)) (hf : Fn P N 36 [.inl 2] (conC sz bytes M)) : OkAt P N (φcat sz bytes):=by
 have hXX:=XG.X (P:=P) (u:=[]) .nil .nil .nil (.cons hM .nil)
 have hX:=XG_mono (P:=P) [] [] [] [] [(M,φgrow true sz bytes z)]
 refine okX_of (X:=XG P [] [] [] [] [(M,φgrow true sz bytes z)]) hXX hf fun args r h=>?_
 unfold φcat at h
 split at h
 ·rename_i l
  split at h
  ·rename_i hc
   obtain ⟨hs,hC⟩:=hc
   injection h with h;subst h
   obtain ⟨m,hm⟩:=isSl_m hs
   obtain ⟨ls,hls⟩ : ∃ ls,elems l = ls:=⟨_,rfl⟩
   rw [hls] at hm hC ⊢
   subst hm
   refine ⟨by simp,(mk_cat _).2 hC.c,fun H T=>?_⟩
   have hpos : ∀ i,(catD (ls.take i)).length <= (catD ls).length:=fun i=>by
    have : catD ls = catD (ls.take i) ++ catD (ls.drop i):=by rw [<- catD_app,List.take_append_drop]
    rw [this,List.length_append];omega
   have hb:=hC.b
   have hn:=hC.n
   have hl:=hC.l
   simp +contextual (maxSteps:=10000000) only [conC,go_sem]
   refine W_each ls (fun i s=>s.t 0 = sliceD m ls /\ s.t 3 = .int .i64 ((catD (ls.take i)).length : Int) /\ s.t 9 = sliceD m ls /\ s.t 10 = .int .i64 (ls.length : Int) /\ s.t 11 = .int .i64 (i : Int) /\ s.H = H /\ s.T = T) hX ⟨by simp [upd,argT],by simp [upd,catD],by simp [upd,argT],by simp [upd],by simp [upd],rfl,rfl⟩ ?_ ?_
   ·rintro i y ⟨t',B,U⟩ hy hmem hi ⟨r0,r3,r9,r10,r11,rfl,rfl⟩
    simp only at r0 r3 r9 r10 r11
    have d1 : decide ((i : Int) < ls.length) = true:=by simpa using hi
    obtain ⟨m',xs,rfl⟩:=hC.s y hmem
    have nx:=catD_take hy
    have h1:=hpos (i + 1)
    rw [nx,elems_sliceD,List.length_append] at h1
    rw [elems_sliceD] at nx
    have wa : IntKind.i64.wrap (((catD (ls.take i)).length : Int) + (xs.length : Int)) = (((catD (ls.take i)).length + xs.length : Nat) : Int):=by
     rw [wrap_inY (by omega) (by omega)];rfl
    have d2 : decide ((((catD (ls.take i)).length + xs.length : Nat) : Int) < 0) = false:=by simp only [decide_eq_false_iff_not];omega
    simp +contextual (maxSteps:=10000000) only [r0,r3,r9,r10,r11,d1,hy,wa,d2,wrap_natY i (by omega),go_sem]
    rw [nx,List.length_append]
   ·rintro ⟨t',B,U⟩ ⟨r0,r3,r9,r10,r11,rfl,rfl⟩
    simp only at r0 r3 r9 r10 r11
    have d1 : decide ((ls.length : Int) < ls.length) = false:=by simp
    rw [List.take_length] at r3
    obtain ⟨tot,htot⟩ : ∃ n,(catD ls).length = n:=⟨_,rfl⟩
    have hpos2:=hpos
    rw [htot] at r3 hb hn hpos2
    by_cases h0 : tot = 0
    ·subst h0
     have e0 : catD ls = []:=List.eq_nil_of_length_eq_zero htot
     have ei : ∀ y ∈ ls,elems y = []:=fun y hy=>by
      unfold catD at e0
      rw [List.flatten_eq_nil_iff] at e0
      exact e0 _ (List.mem_map.2 ⟨y,hy,rfl⟩)
     have pg : φgrow true sz bytes z B U [.nils,.int .i64 0] = some (.nils,B,U):=by
      simp only [φgrow];rw [if_pos ⟨by omega,by omega,by omega⟩];rfl
     rw [show ((0 : Nat) : Int) = 0 from rfl] at r3
     simp +contextual (maxSteps:=10000000) only [r0,r3,r9,r10,r11,d1,eq_self,pg,go_sem]
     refine W_each ls (fun i s=>s.t 6 = .nils /\ s.t 25 = sliceD m ls /\ s.t 26 = .int .i64 (ls.length : Int) /\ s.t 27 = .int .i64 (i : Int) /\ s.H = B /\ s.T = U) hX ⟨by simp [upd],by simp [upd,r0],by simp [upd],by simp [upd],rfl,rfl⟩ ?_ ?_
     ·rintro i y ⟨t2,B2,U2⟩ hy hmem hi ⟨q6,q25,q26,q27,rfl,rfl⟩
      simp only at q6 q25 q26 q27
      have d2 : decide ((i : Int) < ls.length) = true:=by simpa using hi
      obtain ⟨m',xs,rfl⟩:=hC.s y hmem
      have hxs:=ei _ hmem
      rw [elems_sliceD] at hxs
      subst hxs
      have hsrc : appSrcM B2 false sz (sliceD m' []) = some []:=by
       rcases sliceD_cases m' [] with ⟨h,_⟩ | h <;> rw [h] <;> rfl
      simp +contextual (maxSteps:=10000000) only [q6,q25,q26,q27,d2,hy,hsrc,appmK,List.all_nil,wrap_natY i (by omega),go_sem]
     ·rintro ⟨t2,B2,U2⟩ ⟨q6,q25,q26,q27,rfl,rfl⟩
      simp only at q6 q25 q26 q27
      have d2 : decide ((ls.length : Int) < ls.length) = false:=by simp
      simp +contextual (maxSteps:=10000000) only [q6,q25,q26,q27,d2,go_sem]
      rw [e0]
      exact leavesE_mk rfl ⟨[],by simp⟩ ⟨[],by simp⟩
    ·have pg : φgrow true sz bytes z B U [.nils,.int .i64 (tot : Int)] = some (.ms true sz B.length 0 0 tot,B ++ [.row (List.replicate tot z).flatten],U):=by
      simp only [φgrow]
      rw [if_pos ⟨by omega,by exact_mod_cast hb,by omega⟩,if_neg (by omega)]
      simp
     simp +contextual (maxSteps:=10000000) only [r0,r3,r9,r10,r11,d1,eq_self,pg,go_sem]
     refine W_each ls (fun i s=>s.t 6 = .ms true sz B.length 0 (catD (ls.take i)).length tot /\ s.t 25 = sliceD m ls /\ s.t 26 = .int .i64 (ls.length : Int) /\ s.t 27 = .int .i64 (i : Int) /\ s.H = B ++ [.row (flatD (catD (ls.take i)) ++ (List.replicate (tot - (catD (ls.take i)).length) z).flatten)] /\ s.T = U) hX ⟨by simp [upd,catD],by simp [upd,r0],by simp [upd],by simp [upd],by simp [catD,flatD],rfl⟩ ?_ ?_
     ·rintro i y ⟨t2,B2,U2⟩ hy hmem hi ⟨q6,q25,q26,q27,rfl,rfl⟩
      simp only at q6 q25 q26 q27
      have d2 : decide ((i : Int) < ls.length) = true:=by simpa using hi
      obtain ⟨m',xs,rfl⟩:=hC.s y hmem
      have hag:=(hC.mem hmem).1
      rw [elems_sliceD] at hag
      have nx:=catD_take hy
      have h1:=hpos2 (i + 1)
      rw [nx,elems_sliceD,List.length_append] at h1
      rw [elems_sliceD] at nx
      rw [nx,List.length_append]
      have hagA : isAg sz (catD (ls.take i)):=hC.a.sub fun x hx=>by
       unfold catD at hx ⊢
       obtain ⟨l',hl',hx'⟩:=List.mem_flatten.1 hx
       obtain ⟨y',hy',rfl⟩:=List.mem_map.1 hl'
       exact List.mem_flatten.2 ⟨_,List.mem_map.2 ⟨y',List.mem_of_mem_take hy',rfl⟩,hx'⟩
      obtain ⟨A,hA⟩ : ∃ A,catD (ls.take i) = A:=⟨_,rfl⟩
      rw [hA] at q6 h1 hagA ⊢
      have hsrc : appSrcM (B ++ [.row (flatD A ++ (List.replicate (tot - A.length) z).flatten)]) false sz (sliceD m' xs) = some xs:=by
       rcases sliceD_cases m' xs with ⟨h,rfl⟩ | h <;> rw [h] <;> rfl
      have hrow : (B ++ [Ob.row (flatD A ++ (List.replicate (tot - A.length) z).flatten)])[B.length]? = some (.row (flatD A ++ (List.replicate (tot - A.length) z).flatten)):=by simp
      have hset : ∀ x,(B ++ [Ob.row (flatD A ++ (List.replicate (tot - A.length) z).flatten)]).set B.length x = B ++ [x]:=fun x=>by simp
      have hfl:=hagA.flat
      have hlen : (flatD A ++ (List.replicate (tot - A.length) z).flatten).length = tot * sz:=by
       rw [List.length_append,hfl]
       simp only [List.length_flatten,List.map_replicate,List.sum_replicate_nat,hz]
       rw [<- Nat.add_mul];congr 1;omega
      have hnew : (flatD A ++ (List.replicate (tot - A.length) z).flatten).take (0 + A.length * sz) ++ flatD xs ++ (flatD A ++ (List.replicate (tot - A.length) z).flatten).drop (0 + (A.length + xs.length) * sz) = flatD (A ++ xs) ++ (List.replicate (tot - (A.length + xs.length)) z).flatten:=by
       rw [Nat.zero_add,Nat.zero_add,List.take_left' hfl,flatD_append]
       congr 1
       rw [show (A.length + xs.length) * sz = (flatD A).length + xs.length * sz by rw [hfl,Nat.add_mul],← List.drop_drop,List.drop_left,show tot - A.length = xs.length + (tot - (A.length + xs.length)) by omega,← hz,rep_drop]
      simp +contextual (maxSteps:=10000000) only [q6,q25,q26,q27,d2,hy,hsrc,wrap_natY i (by omega),go_sem]
      unfold appmK
      refine ⟨hag.fit,?_⟩
      simp only [hrow]
      refine ⟨trivial,?_⟩
      rw [if_pos (by omega)]
      refine ⟨by rw [hlen];omega,?_⟩
      rw [hset,hnew]
      simp +contextual (maxSteps:=10000000) only [q6,q25,q26,q27,wrap_natY i (by omega),go_sem]
     ·rintro ⟨t2,B2,U2⟩ ⟨q6,q25,q26,q27,rfl,rfl⟩
      simp only at q6 q25 q26 q27
      have d2 : decide ((ls.length : Int) < ls.length) = false:=by simp
      rw [List.take_length,htot] at q6
      rw [List.take_length,htot,Nat.sub_self]
      simp +contextual (maxSteps:=10000000) only [q6,q25,q26,q27,d2,go_sem]
      refine leavesE_fz B.length (flatD (catD ls) ++ []) (by simp) (Nat.le_refl _) ?_ (Ext.of _ _) (ExtT.refl _)
      have hfz : D.fz B.length (flatD (catD ls) ++ []) (.ms true sz B.length 0 tot tot) = .sl none (catD ls):=by
       simp only [D.fz]
       rw [if_pos ⟨trivial,by simp [hC.a.flat,htot],.inl trivial,by omega⟩,List.drop_zero,← htot,chunk_flat _ _ hC.a]
      rw [hfz]
      have : sliceD true (catD ls) = .sl none (catD ls):=by
       rcases sliceD_cases true (catD ls) with ⟨_,h⟩ | h
       ·rw [h] at htot;exact absurd htot.symm h0
       ·exact h
      rw [this]
      exact Crs.refl _
  ·cases h
 ·cases h
end GP
