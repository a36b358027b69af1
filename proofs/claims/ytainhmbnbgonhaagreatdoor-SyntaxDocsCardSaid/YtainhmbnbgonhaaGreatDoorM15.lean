import Derived.Test.YtainhmbnbgonhaaGreatDoorM4
import Derived.Test.YtainhmbnbgonhaaGreatDoorM14
set_option linter.unusedSimpArgs false
namespace GP
open Go Go.Proofs
set_option maxRecDepth 100000
theorem bagL_mono {toks : List D} : ∀ (f g : Nat) (out : List D) (st : St) (r : List D × St),f <= g -> bagL toks f out st = some r -> bagL toks g out st = some r
 | 0,_,_,_,_,_,h=>by simp [bagL] at h
 | f + 1,0,_,_,_,hl,_=>by omega
 | f + 1,g + 1,out,st,r,hl,h=>by
  simp only [bagL] at h ⊢
  split at h
  ·rename_i q;rw [if_pos q];exact bagL_mono f g _ _ r (by omega) h
  ·rename_i q;rw [if_neg q];exact h
theorem bagP_mono {toks : List D} {f g fr : Nat} {st : St} {r : D × St} (hl : f <= g) (h : bagP toks f fr st = some r) : bagP toks g fr st = some r:=by
 unfold bagP at h ⊢
 split at h
 ·cases h
 ·rename_i out st1 hb
  rw [bagL_mono f g _ _ _ hl hb];exact h
def partM (P Q : Part) : Prop:=∀ toks st r,P toks st = some r -> Q toks st = some r
theorem rowL_mono {P Q : Part} (hP : partM P Q) {toks : List D} {bs : List (List UInt8)} : ∀ (f g : Nat) (x : D) (st : St) (r : D × St),f <= g -> rowL toks P bs f x st = some r -> rowL toks Q bs g x st = some r
 | 0,_,_,_,_,_,h=>by simp [rowL] at h
 | f + 1,0,_,_,_,hl,_=>by omega
 | f + 1,g + 1,x,st,r,hl,h=>by
  simp only [rowL] at h ⊢
  split at h
  ·rename_i q;rw [if_pos q];exact h
  ·rename_i q;rw [if_neg q]
   split at h
   ·exact h
   ·split at h
    ·cases h
    ·rename_i y st2 hy
     rw [hP _ _ _ hy]
     exact rowL_mono hP f g _ st2 r (by omega) h
theorem rowP_mono {P Q : Part} (hP : partM P Q) {toks : List D} {bs : List (List UInt8)} {f g : Nat} (hl : f <= g) {st : St} {r : D × St} (h : rowP toks P bs f st = some r) : rowP toks Q bs g st = some r:=by
 unfold rowP at h ⊢
 split at h
 ·cases h
 ·rename_i x st1 hx
  rw [hP _ _ _ hx]
  exact rowL_mono hP f g x st1 r hl h
theorem oneS_mono {op : List UInt8} {z z' : Option (D × St)} {r : D × St} (hz : ∀ r,z = some r -> z' = some r) (h : oneS op z = some r) : oneS op z' = some r:=by
 cases z with
 | none=>cases h
 | some z=>rw [hz _ rfl];exact h
theorem lv_mono : ∀ (f g : Nat) (lv : Lv),f <= g -> partM (pLv f lv) (pLv g lv)
 | 0,_,_,_,_,_,_,h=>by cases h
 | f + 1,0,_,hl,_,_,_,_=>by omega
 | f + 1,g + 1,lv,hl,toks,st,r,h=>by
  have hl : f <= g:=by omega
  have M:=fun lv=>lv_mono f g lv hl
  cases lv with
  | expr=>exact rowP_mono (M .and) hl h
  | and=>exact rowP_mono (M .not) hl h
  | sum=>exact rowP_mono (M .prod) hl h
  | prod=>exact rowP_mono (M .unary) hl h
  | not =>
   simp only [pLv] at h ⊢
   split at h
   ·rename_i q;rw [if_pos q];exact oneS_mono (fun r hr=>M .not _ _ r hr) h
   ·rename_i q;rw [if_neg q];exact M .cmp _ _ r h
  | unary =>
   simp only [pLv] at h ⊢
   split at h
   ·rename_i q;rw [if_pos q];exact oneS_mono (fun r hr=>M .unary _ _ r hr) h
   ·rename_i q;rw [if_neg q];exact M .plain _ _ r h
  | cmp =>
   simp only [pLv] at h ⊢
   obtain ⟨z,hz⟩ : ∃ z,pLv f .sum toks st = z:=⟨_,rfl⟩
   rw [hz] at h
   cases z with
   | none=>cases h
   | some z =>
    obtain ⟨x,st1⟩:=z
    rw [M .sum _ _ _ hz]
    simp only [cmpS2] at h ⊢
    split at h
    ·exact h
    ·split at h
     ·cases h
     ·rename_i y st2 hy
      rw [M .sum _ _ _ hy];exact h
  | inner =>
   simp only [pLv] at h ⊢
   obtain ⟨z,hz⟩ : ∃ z,pLv f .expr toks (mustP toks [40] st) = z:=⟨_,rfl⟩
   rw [hz] at h
   cases z with
   | none=>cases h
   | some z=>rw [M .expr _ _ _ hz];exact h
  | plain =>
   simp only [pLv,plainP] at h ⊢
   split at h
   ·rename_i q;rw [if_pos q];exact h
   ·rename_i q;rw [if_neg q]
    split at h
    ·rename_i q;rw [if_pos q];exact h
    ·rename_i q;rw [if_neg q]
     split at h
     ·rename_i q;rw [if_pos q];exact M .inner _ _ r h
     ·rename_i q;rw [if_neg q]
      split at h
      ·rename_i q;rw [if_pos q];exact bagP_mono hl h
      ·rename_i q;rw [if_neg q]
       split at h
       ·rename_i q;rw [if_pos q];exact oneS_mono (fun r hr=>M .inner _ _ r hr) h
       ·rename_i q;rw [if_neg q];exact h
def Pr (lv : Lv) (toks : List D) (st : St) (r : D × St) : Prop:=∃ f,pLv f lv toks st = some r
def Rw (lv : Lv) (bs : List (List UInt8)) (toks : List D) (x : D) (st : St) (r : D × St) : Prop:=∃ f,rowL toks (pLv f lv) bs f x st = some r
section
variable {toks : List D} {st st1 st2 : St} {x y : D} {r : D × St} {lv : Lv} {bs : List (List UInt8)} {w : List UInt8}
theorem Rw.stop (h : firstP toks st bs = none) : Rw lv bs toks x st (x,st):=⟨1,by
 simp only [rowL];rw [h];simp⟩
theorem Rw.step (h0 : st.2 = 0) (h : firstP toks st bs = some w) (hy : Pr lv toks (st.1 + 1,0) (y,st2)) (hr : Rw lv bs toks (twoD w x y) st2 r) : Rw lv bs toks x st r:=by
 obtain ⟨f,hf⟩:=hy
 obtain ⟨g,hg⟩:=hr
 refine ⟨max f g + 1,?_⟩
 simp only [rowL]
 rw [if_neg (by rw [h0];decide),h]
 simp only
 rw [h0,lv_mono f (max f g + 1) lv (by omega) _ _ _ hf]
 simp only
 exact rowL_mono (lv_mono g (max f g + 1) lv (by omega)) g (max f g) _ _ _ (by omega) hg
theorem row_of {lv' : Lv} (e : ∀ f,pLv (f + 1) lv' = fun toks st=>rowP toks (pLv f lv) bs f st) (hx : Pr lv toks st (x,st1)) (hr : Rw lv bs toks x st1 r) : Pr lv' toks st r:=by
 obtain ⟨f,hf⟩:=hx
 obtain ⟨g,hg⟩:=hr
 refine ⟨max f g + 1,?_⟩
 rw [e]
 simp only [rowP]
 rw [lv_mono f (max f g) lv (by omega) _ _ _ hf]
 simp only
 exact rowL_mono (lv_mono g (max f g) lv (by omega)) g (max f g) _ _ _ (by omega) hg
theorem Pr.expr (hx : Pr .and toks st (x,st1)) (hr : Rw .and [wOr] toks x st1 r) : Pr .expr toks st r:=row_of (fun _=>rfl) hx hr
theorem Pr.and (hx : Pr .not toks st (x,st1)) (hr : Rw .not [wAnd] toks x st1 r) : Pr .and toks st r:=row_of (fun _=>rfl) hx hr
theorem Pr.sum (hx : Pr .prod toks st (x,st1)) (hr : Rw .prod [[43],[45]] toks x st1 r) : Pr .sum toks st r:=row_of (fun _=>rfl) hx hr
theorem Pr.prod (hx : Pr .unary toks st (x,st1)) (hr : Rw .unary [[42]] toks x st1 r) : Pr .prod toks st r:=row_of (fun _=>rfl) hx hr
theorem Pr.not1 (h0 : st.2 = 0) (g : isP toks st wNot = true) (h : Pr .not toks (st.1 + 1,0) (x,st1)) : Pr .not toks st (oneD wNot x,st1):=by
 obtain ⟨f,hf⟩:=h
 refine ⟨f + 1,?_⟩
 simp only [pLv]
 rw [if_pos g,h0,hf];rfl
theorem Pr.not0 (g : isP toks st wNot = false) (h : Pr .cmp toks st r) : Pr .not toks st r:=by
 obtain ⟨f,hf⟩:=h
 refine ⟨f + 1,?_⟩
 simp only [pLv]
 rw [if_neg (by rw [g];decide)];exact hf
theorem Pr.neg1 (h0 : st.2 = 0) (g : isP toks st [45] = true) (h : Pr .unary toks (st.1 + 1,0) (x,st1)) : Pr .unary toks st (oneD wNeg x,st1):=by
 obtain ⟨f,hf⟩:=h
 refine ⟨f + 1,?_⟩
 simp only [pLv]
 rw [if_pos g,h0,hf];rfl
theorem Pr.neg0 (g : isP toks st [45] = false) (h : Pr .plain toks st r) : Pr .unary toks st r:=by
 obtain ⟨f,hf⟩:=h
 refine ⟨f + 1,?_⟩
 simp only [pLv]
 rw [if_neg (by rw [g];decide)];exact hf
theorem Pr.cmp0 (h : Pr .sum toks st (x,st1)) (g : firstP toks st1 cmpW = none) : Pr .cmp toks st (x,st1):=by
 obtain ⟨f,hf⟩:=h
 refine ⟨f + 1,?_⟩
 simp only [pLv]
 rw [hf];simp only [cmpS2];rw [g]
theorem Pr.cmp1 (h : Pr .sum toks st (x,st1)) (h0 : st1.2 = 0) (g : firstP toks st1 cmpW = some w) (k : Pr .sum toks (st1.1 + 1,0) (y,st2)) : Pr .cmp toks st (twoD w x y,st2):=by
 obtain ⟨f,hf⟩:=h
 obtain ⟨g',hg⟩:=k
 refine ⟨max f g' + 1,?_⟩
 simp only [pLv]
 rw [lv_mono f (max f g') .sum (by omega) _ _ _ hf]
 simp only [cmpS2];rw [g]
 simp only
 rw [h0,lv_mono g' (max f g') .sum (by omega) _ _ _ hg]
theorem Pr.inner (h : Pr .expr toks (mustP toks [40] st) (x,st1)) : Pr .inner toks st (x,mustP toks [41] st1):=by
 obtain ⟨f,hf⟩:=h
 refine ⟨f + 1,?_⟩
 simp only [pLv]
 rw [hf];rfl
end
theorem Pr.fuel {toks : List D} {r : D × St} (h : toks.length <= 600) (hr : Pr .expr toks (0,0) r) : pLv 10000 .expr toks (0,0) = some r:=by
 obtain ⟨x,st,hp⟩:=expr_tot toks h
 obtain ⟨f,hf⟩:=hr
 have h1:=lv_mono f (max f 10000) .expr (by omega) _ _ _ hf
 have h2:=lv_mono 10000 (max f 10000) .expr (by omega) _ _ _ hp
 rw [h1] at h2
 rw [hp,← Option.some.inj h2]
end GP
namespace GP
open Go Go.Proofs
set_option maxRecDepth 100000
def Seg (toks : List D) (a : Nat) (l : List D) : Prop:=∀ i t,l[i]? = some t -> toks[a + i]? = some t
section
variable {toks : List D} {a : Nat} {l m : List D} {t : D}
theorem Seg.fst (h : Seg toks a (l ++ m)) : Seg toks a l:=fun i t ht=>h i t (by rw [List.getElem?_append_left (lt_of_get ht)];exact ht)
theorem Seg.snd (h : Seg toks a (l ++ m)) : Seg toks (a + l.length) m:=fun i t ht=>by
 have:=h (l.length + i) t (by rw [List.getElem?_append_right (by omega),show l.length + i - l.length = i by omega];exact ht)
 rw [Nat.add_assoc];exact this
theorem Seg.hd (h : Seg toks a (t :: l)) : toks[a]? = some t:=h 0 t rfl
theorem Seg.tl (h : Seg toks a (t :: l)) : Seg toks (a + 1) l:=fun i u hu=>by
 have:=h (i + 1) u hu
 rw [show a + 1 + i = a + (i + 1) by omega];exact this
theorem now_of (h : toks[a]? = some t) (hf : formT t = true) : nowS toks (a,0) = t:=by
 unfold nowS nowP
 rw [if_neg (show ¬ ((0 : Int) != 0) = true by decide),h]
 simp only
 rw [if_pos hf]
theorem form_word {w : List UInt8} (h : wordB w = true) : formT (mkT 1 w 0) = true:=by
 show formI 1 w 0 = true
 unfold formI;rw [h];rfl
theorem form_sign {w : List UInt8} (h : isSign w = true) : formT (mkT 5 w 0) = true:=by
 show formI 5 w 0 = true
 unfold formI;rw [h];rfl
theorem is_word {w : List UInt8} (h : toks[a]? = some (mkT 1 w 0)) (hw : wordB w = true) (u : List UInt8) : isP toks (a,0) u = (w == u):=by
 unfold isP;rw [now_of h (form_word hw)];rfl
theorem is_sgn {w : List UInt8} (h : toks[a]? = some (mkT 5 w 0)) (hw : isSign w = true) (u : List UInt8) : isP toks (a,0) u = (w == u):=by
 unfold isP;rw [now_of h (form_sign hw)];rfl
theorem isnt_k {k : Int} {s : List UInt8} {n : Int} (h : toks[a]? = some (mkT k s n)) (h1 : (k == 1) = false) (h5 : (k == 5) = false) (u : List UInt8) : isP toks (a,0) u = false:=by
 unfold isP nowS nowP
 rw [if_neg (show ¬ ((0 : Int) != 0) = true by decide),h]
 simp only
 split
 ·rw [tk_mk,h1,h5];rfl
 ·rfl
theorem isnt_end (h : toks.length <= a) (u : List UInt8) : isP toks (a,0) u = false:=by
 cases hb : isP toks (a,0) u with
 | false=>rfl
 | true=>have:=(isP_lt hb).1;simp only at this;omega
theorem must_of {w : List UInt8} (h : isP toks (a,0) w = true) : mustP toks w (a,0) = (a + 1,0):=by unfold mustP;rw [if_pos h]
theorem kind_of {k : Int} {s : List UInt8} {n : Int} (h : toks[a]? = some (mkT k s n)) (hf : formT (mkT k s n) = true) : kindP toks k (a,0) = (mkT k s n,(a + 1,0)):=by
 unfold kindP
 rw [now_of h hf,tk_mk]
 simp
end
structure Cn (y v : D) : Prop where
 c : can y = can v
 l : vl y = []
theorem Cn.one {y v : D} (h : Cn y v) (hv : one1 v = true) : one1 y = true:=by
 have h1:=one1_can hv
 rw [<- h.c] at h1
 unfold one1 at h1 ⊢
 rw [can_vk,can_vi,can_vs,can_vl] at h1
 rw [h.l];exact h1
theorem Cn.k {y v : D} (h : Cn y v) : vk y = vk v:=by have:=congrArg vk h.c;rwa [can_vk,can_vk] at this
theorem Cn.i {y v : D} (h : Cn y v) : vi y = vi v:=by have:=congrArg vi h.c;rwa [can_vi,can_vi] at this
theorem Cn.s {y v : D} (h : Cn y v) : vs y = vs v:=by have:=congrArg vs h.c;rwa [can_vs,can_vs] at this
theorem cn_of {y v : D} (hk : vk y = vk v) (hi : vi y = vi v) (hs : vs y = vs v) (hl : vl y = []) : Cn y v:=⟨by unfold can;rw [hk,hi,hs],hl⟩
theorem one1_no {v : D} (h : one1 v = true) (hk : vk v ≠ 3) : vs v = []:=by
 unfold one1 plainB at h
 split at h
 ·cases h
 ·split at h
  ·cases h
  ·rename_i g
   have g : ((vk v != 3) && (vs v != [])) = false:=by simpa using g
   have : (vk v != 3) = true:=by simpa using hk
   rw [this] at g
   simpa using g
theorem one1_3 {v : D} (h : one1 v = true) (hk : vk v = 3) : vi v = 0:=by
 unfold one1 plainB at h
 rw [hk] at h
 split at h
 ·cases h
 ·split at h
  ·cases h
  ·simp at h;exact h.1
theorem one1_1 {v : D} (h : one1 v = true) (hk : vk v = 1) : vi v = 0 ∨ vi v = 1:=by
 unfold one1 plainB at h
 rw [hk] at h
 split at h
 ·cases h
 ·split at h
  ·cases h
  ·simp at h;exact h
theorem one1_4 {v : D} (h : one1 v = true) (hk : vk v = 4) : 0 <= vi v /\ vi v <= 1099511627776:=by
 unfold one1 plainB at h
 rw [hk] at h
 split at h
 ·cases h
 ·split at h
  ·cases h
  ·simp at h;exact h
theorem lit_fwd {toks : List D} {a : Nat} {v : D} (h1 : one1 v = true) (hb : litB v false = true) (h : Seg toks a (litT1 v)) :
  ∃ y,literalP toks (a,0) = (y,true,(a + 1,0)) /\ Cn y v /\ (litT1 v).length = 1 /\ isP toks (a,0) [45] = false /\ isP toks (a,0) wNot = false:=by
 by_cases k2 : vk v = 2
 ·have hn : 0 <= vi v:=by
   rw [litB_2 k2] at hb;simpa using hb
  have e : litT1 v = [mkT 2 [] (vi v)]:=by
   unfold litT1
   rw [k2,if_neg (by decide),if_pos (by decide),if_neg (by simp only [decide_eq_true_eq];omega)]
  rw [e] at h
  have hf : formT (mkT 2 [] (vi v)) = true:=by
   show formI 2 [] (vi v) = true
   unfold formI
   simp [hn]
  have hn':=now_of h.hd hf
  refine ⟨num (vi v),?_,cn_of (by rw [k2];rfl) rfl (by rw [one1_no h1 (by omega)];rfl) rfl,by rw [e];rfl,isnt_k h.hd rfl rfl _,isnt_k h.hd rfl rfl _⟩
  unfold literalP
  rw [hn',tk_mk,tn_mk]
  rfl
 ·rw [litB_o k2] at hb
  by_cases k1 : vk v = 1
  ·have hs:=one1_no h1 (by omega)
   have key : ∀ w b,(w = wTrue /\ b = true ∨ w = wFalse /\ b = false) -> litT1 v = [mkT 1 w 0] -> Seg toks a [mkT 1 w 0] -> vi v = (if b then 1 else 0) -> ∃ y,literalP toks (a,0) = (y,true,(a + 1,0)) /\ Cn y v /\ (litT1 v).length = 1 /\ isP toks (a,0) [45] = false /\ isP toks (a,0) wNot = false:=by
    intro w b hw e h hi
    have hW : wordB w = true:=by rcases hw with ⟨rfl,_⟩ | ⟨rfl,_⟩ <;> decide
    have hp:=is_word h.hd hW
    have hn':=now_of h.hd (form_word hW)
    refine ⟨truthV b,?_,cn_of (by rw [k1];rfl) (by rw [hi];rfl) (by rw [hs];rfl) rfl,by rw [e];rfl,?_,?_⟩
    ·unfold literalP
     rw [hp,hp,hn',tk_mk,ts_mk]
     rcases hw with ⟨rfl,rfl⟩ | ⟨rfl,rfl⟩
     ·rw [show (wTrue == wTrue) = true by decide];rfl
     ·rw [show (wFalse == wTrue) = false by decide,show (wFalse == wFalse) = true by decide];rfl
    ·rw [hp];rcases hw with ⟨rfl,_⟩ | ⟨rfl,_⟩ <;> decide
    ·rw [hp];rcases hw with ⟨rfl,_⟩ | ⟨rfl,_⟩ <;> decide
   by_cases hi : vi v = 1
   ·have e : litT1 v = [mkT 1 wTrue 0]:=by unfold litT1;rw [k1,hi];rfl
    rw [e] at h
    exact key wTrue true (.inl ⟨rfl,rfl⟩) e h (by rw [hi];rfl)
   ·have h0 : vi v = 0:=(one1_1 h1 k1).resolve_right hi
    have e : litT1 v = [mkT 1 wFalse 0]:=by unfold litT1;rw [k1,h0];rfl
    rw [e] at h
    exact key wFalse false (.inr ⟨rfl,rfl⟩) e h (by rw [h0];rfl)
  ·by_cases k4 : vk v = 4
   ·have e : litT1 v = [mkT 4 [] (vi v)]:=by unfold litT1;rw [k4];rfl
    obtain ⟨r1,r2⟩:=one1_4 h1 k4
    rw [e] at h
    have hf : formT (mkT 4 [] (vi v)) = true:=by
     show formI 4 [] (vi v) = true
     unfold formI
     simp [r1,r2]
    have hn':=now_of h.hd hf
    refine ⟨timeV (vi v),?_,cn_of (by rw [k4];rfl) rfl (by rw [one1_no h1 (by omega)];rfl) rfl,by rw [e];rfl,isnt_k h.hd rfl rfl _,isnt_k h.hd rfl rfl _⟩
    unfold literalP
    rw [hn',tk_mk,tn_mk]
    rfl
   ·have hh : vk v = 3 /\ formI 3 (vs v) 0 = true:=by
     simp only [Bool.or_eq_true,Bool.and_eq_true,beq_iff_eq] at hb
     rcases hb with (hb | hb) | hb
     ·exact absurd hb k1
     ·exact absurd hb k4
     ·exact hb
    obtain ⟨k3,hF⟩:=hh
    have e : litT1 v = [mkT 3 (vs v) 0]:=by unfold litT1;rw [k3];rfl
    rw [e] at h
    have hn':=now_of h.hd (show formT (mkT 3 (vs v) 0) = true from hF)
    refine ⟨textV (vs v),?_,?_,by rw [e];rfl,isnt_k h.hd rfl rfl _,isnt_k h.hd rfl rfl _⟩
    ·unfold literalP
     rw [hn',tk_mk,ts_mk]
     rfl
    ·rw [(lit_text hF).1]
     exact cn_of (by rw [k3];rfl) (by rw [one1_3 h1 k3];rfl) rfl rfl
theorem item_fwd {toks : List D} {a : Nat} {v : D} (h1 : one1 v = true) (hb : litB v true = true) (hr : vi v < 2 ^ 63) (h : Seg toks a (litT1 v)) :
  ∃ y,itemP toks (a,0) = (y,(a + (litT1 v).length,0)) /\ Cn y v:=by
 by_cases hn : vk v = 2 /\ vi v < 0
 ·obtain ⟨k2,hn⟩:=hn
  have hlo : -9223372036854775808 < vi v:=by
   rw [litB_2 k2] at hb
   simp only [Bool.true_and,Bool.or_eq_true,decide_eq_true_eq] at hb
   omega
  have w : IntKind.i64.wrap (0 - vi v) = -vi v:=by rw [show 0 - vi v = -vi v by omega];exact wrap_of _ (by omega) (by omega)
  have w2 : IntKind.i64.wrap (0 - -vi v) = vi v:=by rw [show 0 - -vi v = vi v by omega];exact wrap_of _ (by omega) (by omega)
  have e : litT1 v = [mkT 5 [45] 0,mkT 2 [] (-vi v)]:=by
   unfold litT1
   rw [k2,if_neg (by decide),if_pos (by decide),if_pos (by simp only [decide_eq_true_eq];omega),w]
  rw [e] at h
  have hp:=is_sgn h.hd (by decide) [45]
  have hf : formT (mkT 2 [] (-vi v)) = true:=by
   show formI 2 [] (-vi v) = true
   unfold formI
   simp;omega
  have hk:=kind_of h.tl.hd hf
  refine ⟨num (vi v),?_,cn_of (by rw [k2];rfl) rfl (by rw [one1_no h1 (by omega)];rfl) rfl⟩
  unfold itemP
  rw [hp,if_pos (by decide),e]
  simp only
  rw [hk,tn_mk,w2]
  rfl
 ·have hb' : litB v false = true:=by
   by_cases k2 : vk v = 2
   ·rw [litB_2 k2];simp;omega
   ·rw [litB_o k2] at hb ⊢;exact hb
  obtain ⟨y,e,hc,hl,hm,_⟩:=lit_fwd h1 hb' h
  refine ⟨y,?_,hc⟩
  unfold itemP
  rw [hm,e,hl]
  rfl
def cmT (l : List D) : List D:=(l.map fun x=>tC :: litT1 x).flatten
theorem cmT_cons (x : D) (l : List D) : cmT (x :: l) = tC :: (litT1 x ++ cmT l):=by simp [cmT]
theorem cmL_cons (x : D) (l : List D) : cmL litT1 (x :: l) = litT1 x ++ cmT l:=by simp [cmL,cmT]
structure Elt (v : D) : Prop where
 o : one1 v = true
 b : litB v true = true
 r : vi v < 2 ^ 63
theorem bagL_fwd {toks : List D} : ∀ (l : List D) (a : Nat) (out : List D),(∀ x ∈ l,Elt x) -> Seg toks a (cmT l) -> isP toks (a + (cmT l).length,0) [44] = false →
  ∃ f ys,bagL toks f out (a,0) = some (out ++ ys,(a + (cmT l).length,0)) /\ ys.map can = l.map can /\ ∀ y ∈ ys,vl y = [] /\ one1 y = true
 | [],a,out,_,_,he=>by
  refine ⟨1,[],?_,rfl,fun y hy=>by cases hy⟩
  have he : isP toks (a,0) [44] = false:=he
  simp only [bagL];rw [he];simp [cmT]
 | x :: l,a,out,hE,h,he=>by
  have hx:=hE x (by simp)
  rw [cmT_cons] at h he ⊢
  have hp:=is_sgn (w:=[44]) h.hd (by decide) [44]
  obtain ⟨y,e,hc⟩:=item_fwd hx.o hx.b hx.r h.tl.fst
  have hl : a + (tC :: (litT1 x ++ cmT l)).length = a + 1 + (litT1 x).length + (cmT l).length:=by simp;omega
  rw [hl] at he ⊢
  obtain ⟨f,ys,e2,e3,e4⟩:=bagL_fwd l (a + 1 + (litT1 x).length) (out ++ [y]) (fun z hz=>hE z (by simp [hz])) h.tl.snd he
  refine ⟨f + 1,y :: ys,?_,by simp only [List.map_cons,e3,hc.c],fun z hz=>?_⟩
  ·simp only [bagL]
   rw [hp,if_pos (by decide),e]
   simp only
   rw [e2];simp
  ·rcases List.mem_cons.1 hz with rfl | hz
   ·exact ⟨hc.l,hc.one hx.o⟩
   ·exact e4 z hz
theorem adj_facts {l : List D} (h : adjB singleD l = true) : rising l /\ ∀ x ∈ l,one1 x = true /\ vk x ≠ 0 /\ vk x = vk0 l:=by
 have key : ∀ i x,l[i]? = some x -> one1 x = true /\ vk x ≠ 0 /\ vk x = vk0 l /\ (i = 0 ∨ ∃ y,l[i - 1]? = some y /\ singleD y x < 0):=fun i x hx=>by
  have:=List.all_eq_true.1 h i (by simpa using lt_of_get hx)
  unfold okEl at this
  rw [hx] at this
  simp only [Bool.and_eq_true,Bool.or_eq_true,bne_iff_ne,ne_eq,beq_iff_eq] at this
  obtain ⟨⟨⟨h1,h2⟩,h3⟩,h4⟩:=this
  refine ⟨h1,h2,h3,h4.imp id fun q=>?_⟩
  split at q
  ·rename_i y hy;exact ⟨y,hy,by simpa using q⟩
  ·cases q
 refine ⟨?_,fun x hx=>?_⟩
 ·unfold rising
  rw [List.pairwise_iff_getElem]
  intro i j hi hj hij
  have hstep : ∀ d i,(hd : i + d + 1 < l.length) -> singleD (l[i]'(by omega)) (l[i + d + 1]'hd) < 0:=by
   intro d
   induction d with
   | zero =>
    intro i hd
    obtain ⟨_,_,_,q⟩:=key (i + 1) l[i + 1] (List.getElem?_eq_getElem hd)
    rcases q with q | ⟨y,hy,q⟩
    ·omega
    ·rw [show i + 1 - 1 = i by omega,List.getElem?_eq_getElem (by omega)] at hy
     injection hy with hy
     rw [hy];exact q
   | succ d ih =>
    intro i hd
    have q1:=ih i (by omega)
    obtain ⟨_,_,_,q⟩:=key (i + (d + 1) + 1) l[i + (d + 1) + 1] (List.getElem?_eq_getElem hd)
    rcases q with q | ⟨y,hy,q⟩
    ·omega
    ·rw [show i + (d + 1) + 1 - 1 = i + d + 1 by omega,List.getElem?_eq_getElem (by omega)] at hy
     injection hy with hy
     rw [<- hy] at q
     exact (single_tr _ _ _).l1 q1 (by omega)
  have:=hstep (j - i - 1) i (by omega)
  simp only [show i + (j - i - 1) + 1 = j by omega] at this
  exact this
 ·obtain ⟨i,hi,rfl⟩:=List.mem_iff_getElem.1 hx
  obtain ⟨h1,h2,h3,_⟩:=key i _ (List.getElem?_eq_getElem hi)
  exact ⟨h1,h2,h3⟩
theorem bagV_of {xs l : List D} (h : adjB singleD l = true) (h5 : ∀ x ∈ l,vk x ≠ 5) (hl : l.length <= 16) (hc : xs.map can = l.map can) (hx : ∀ y ∈ xs,vl y = [] /\ one1 y = true) : bagV xs = (mkV 5 0 [] false (l.map can),0):=by
 obtain ⟨hr,hk⟩:=adj_facts h
 have hg : good1 xs:=fun y hy=>(hx y hy).2
 have mem : ∀ y ∈ xs,∃ x ∈ l,can y = can x:=fun y hy=>by
  have : can y ∈ xs.map can:=List.mem_map.2 ⟨y,hy,rfl⟩
  rw [hc,List.mem_map] at this
  obtain ⟨x,hx,e⟩:=this
  exact ⟨x,hx,e.symm⟩
 have kk : ∀ y ∈ xs,vk y ≠ 0 /\ vk y ≠ 5 /\ vk y = vk0 l:=fun y hy=>by
  obtain ⟨x,hx,e⟩:=mem y hy
  have e : vk y = vk x:=by have:=congrArg vk e;rwa [can_vk,can_vk] at this
  rw [e];exact ⟨(hk x hx).2.1,h5 x hx,(hk x hx).2.2⟩
 have e1 : xs.all formedV = true:=List.all_eq_true.2 fun y hy=>by
  rw [formed_same];unfold formedB
  rw [if_pos (by simpa using (kk y hy).2.1)];exact hg y hy
 have e2 : xs.any (badB xs) = false:=by
  rw [List.any_eq_false]
  intro y hy hb
  have hv0 : vk0 xs = vk0 l:=vk0_eq (fun y hy=>(kk y hy).2.2) (by rintro rfl;cases hy)
  obtain ⟨k1,k2,k3⟩:=kk y hy
  unfold badB at hb
  simp [k1,k2,k3,hv0] at hb
  rw [k3] at k1 k2
  rcases hb with hb | hb
  ·exact k1 hb
  ·exact k2 hb
 have e3 : bagR xs = l.map can:=by
  obtain ⟨b1,b2⟩:=bagR_spec hg
  refine rising_uniq _ _ b1 ?_ fun z=>?_
  ·unfold rising at hr ⊢
   rw [List.pairwise_map]
   exact hr.imp fun {a b} h=>by rw [single_can];exact h
  ·rw [b2 z,← hc,List.mem_map]
   constructor
   ·rintro ⟨x,hx,rfl⟩;exact ⟨x,hx,rfl⟩
   ·rintro ⟨x,hx,rfl⟩;exact ⟨x,hx,rfl⟩
 unfold bagV
 rw [e1,if_neg (by decide),e2,if_neg (by decide),e3,if_neg (by simp only [decide_eq_true_eq,List.length_map];omega)]
end GP
namespace GP
open Go Go.Proofs
set_option maxRecDepth 100000
section
variable {toks : List D} {st : St} {a : Nat} {w : List UInt8}
def Nxt (toks : List D) (st : St) (w : List UInt8) : Prop:=∀ u,isP toks st u = (w == u)
theorem Nxt.tk (h : Nxt toks st w) : GP.tk (nowS toks st) = 1 ∨ GP.tk (nowS toks st) = 5:=by
 have:=h w
 unfold isP at this
 simp only [beq_self_eq_true,Bool.and_eq_true,Bool.or_eq_true,beq_iff_eq] at this
 exact this.1
theorem Nxt.ne {u : List UInt8} (h : Nxt toks st w) (hu : (w == u) = false) : isP toks st u = false:=by rw [h,hu]
theorem Nxt.lit (h : Nxt toks st w) (h1 : (w == wTrue) = false) (h2 : (w == wFalse) = false) : (literalP toks st).2.1 = false:=by
 have hk:=h.tk
 have k2 : (GP.tk (nowS toks st) == 2) = false:=by rw [beq_eq_false_iff_ne];omega
 have k3 : (GP.tk (nowS toks st) == 3) = false:=by rw [beq_eq_false_iff_ne];omega
 have k4 : (GP.tk (nowS toks st) == 4) = false:=by rw [beq_eq_false_iff_ne];omega
 unfold literalP
 rw [k2,k3,k4,h.ne h1,h.ne h2];rfl
theorem Nxt.first (h : Nxt toks st w) : ∀ {ws : List (List UInt8)},w ∈ ws -> firstP toks st ws = some w
 | [],hw=>by cases hw
 | u :: r,hw=>by
  simp only [firstP,h u]
  cases g : w == u with
  | true=>simp only [if_true];rw [eq_of_beq' g]
  | false =>
   simp only [Bool.false_eq_true,if_false]
   refine h.first ?_
   rcases List.mem_cons.1 hw with rfl | hw
   ·rw [beq_self_eq_true] at g;cases g
   ·exact hw
theorem Nxt.plain (h : Nxt toks st w) (h1 : (w == wTrue) = false) (h2 : (w == wFalse) = false) (f : Nat) : pLv (f + 1) .plain toks st =
  if w == wNow then some (leafD wNow [] [],(st.1 + 1,st.2)) else
  if w == [40] then pLv f .inner toks st else
  if w == [91] then bagP toks f st.1 (st.1 + 1,st.2) else
  if w == wSize then oneS wSize (pLv f .inner toks (st.1 + 1,st.2)) else
  if w == wRole then some (leafD wRole [] (ts (kindP toks 3 (mustP toks [40] (st.1 + 1,st.2))).1),mustP toks [41] (kindP toks 3 (mustP toks [40] (st.1 + 1,st.2))).2) else
  if w == wHas then some (leafD wHas (attrP toks (mustP toks [40] (st.1 + 1,st.2))).1 (attrP toks (mustP toks [40] (st.1 + 1,st.2))).2.1,mustP toks [41] (attrP toks (mustP toks [40] (st.1 + 1,st.2))).2.2) else
  some (leafD wAttr (attrP toks st).1 (attrP toks st).2.1,(attrP toks st).2.2):=by
 simp only [pLv,plainP]
 rw [h.lit h1 h2,h wNow,h [40],h [91],h wSize,h wRole,h wHas]
 rfl
theorem nx_word (h : toks[a]? = some (mkT 1 w 0)) (hw : wordB w = true) : Nxt toks (a,0) w:=is_word h hw
theorem nx_sign (h : toks[a]? = some (mkT 5 w 0)) (hw : isSign w = true) : Nxt toks (a,0) w:=is_sgn h hw
theorem nx_P (h : toks[a]? = some tP) : Nxt toks (a,0) [40]:=is_sgn h (by decide)
theorem nx_Q (h : toks[a]? = some tQ) : Nxt toks (a,0) [41]:=is_sgn h (by decide)
theorem Nxt.must (h : Nxt toks (a,0) w) : mustP toks w (a,0) = (a + 1,0):=must_of (by rw [h];simp)
end
theorem inB_mem2 {l : List (List UInt8)} {s : List UInt8} (h : inB l s = true) : s ∈ l:=by
 unfold inB at h
 obtain ⟨x,hx,e⟩:=List.any_eq_true.1 h
 have : x = s:=by simpa using e
 rw [<- this];exact hx
theorem name_fwd {toks : List D} {a : Nat} {n : List UInt8} (h : toks[a]? = some (mkT 1 n 0)) (hn : nameB n = true) : nameP toks (a,0) = (n,(a + 1,0)):=by
 unfold nameB at hn
 simp only [Bool.and_eq_true,Bool.not_eq_true'] at hn
 have hq:=now_of h (show formT (mkT 1 n 0) = true from hn.1)
 unfold nameP
 rw [hq,tk_mk,ts_mk,keptB_in,hn.2]
 rfl
theorem attr_fwd {toks : List D} {a : Nat} {who n : List UInt8} (h : Seg toks a [mkT 1 who 0,mkT 5 [46] 0,mkT 1 n 0]) (hw : inB whoW who = true) (hn : nameB n = true) : attrP toks (a,0) = (who,n,(a + 3,0)):=by
 have hm:=inB_mem2 hw
 have hW : wordB who = true:=by
  have : ∀ w ∈ whoW,wordB w = true:=by decide
  exact this who hm
 have e1 : oneP toks whoW (a,0) = (who,(a + 1,0)):=by
  unfold oneP;rw [(nx_word h.hd hW).first hm]
 have e2:=(nx_sign h.tl.hd (w:=[46]) (by decide)).must
 have e3:=name_fwd h.tl.tl.hd hn
 unfold attrP
 rw [e1]
 simp only
 rw [e2,e3]
theorem sameB_of {y v : D} (hk : vk y = vk v) (hi : vi y = vi v) (hs : vs y = vs v) (hl : vl y = []) (hl' : vl v = []) : sameB y v = true:=by
 unfold sameB
 rw [hk,hi,hs,hl,hl'];simp
theorem one1_vl {v : D} (h : one1 v = true) : vl v = []:=by
 have : (vl v).length = 0:=plain_leaf h
 exact List.eq_nil_of_length_eq_zero this
theorem val_fwd {toks : List D} {a : Nat} {v : D} (hr : ∀ x ∈ vl v,vi x < 2 ^ 63) (h : valB v = true) (hs : Seg toks a (litT v)) :
  ∃ y,Pr .plain toks (a,0) (valE y,(a + (litT v).length,0)) /\ sameB y v = true /\ (∃ k i s n l,y = mkV k i s n l /\ ∀ x ∈ l,vl x = []) /\ isP toks (a,0) wNot = false /\ isP toks (a,0) [45] = false:=by
 have hF : formedB v = true:=by
  unfold valB at h
  cases hf : formedB v with
  | true=>rfl
  | false=>rw [hf] at h;cases h
 cases hL : leaf1 v with
 | true =>
  have h5 : vk v ≠ 5:=fun e=>by unfold leaf1 at hL;rw [e] at hL;cases hL
  have h5' : (vk v != 5) = true:=by simpa using h5
  have h1 : one1 v = true:=by unfold formedB at hF;rwa [if_pos h5'] at hF
  have hb : litB v false = true:=by rw [valB_o h5 h1] at h;exact h
  rw [leaf1_litT hL] at hs ⊢
  obtain ⟨y,e,hc,hl,hm,hn⟩:=lit_fwd h1 hb hs
  refine ⟨y,⟨1,?_⟩,sameB_of hc.k hc.i hc.s hc.l (one1_vl h1),?_,hn,hm⟩
  ·simp only [pLv,plainP]
   rw [e,hl];rfl
  ·have key : y = num (tn (nowS toks (a,0))) ∨ y = textV (ts (nowS toks (a,0))) ∨ y = timeV (tn (nowS toks (a,0))) ∨ y = truthV (ts (nowS toks (a,0)) == wTrue) ∨ y = zeroV:=by
    have e':=congrArg Prod.fst e
    simp only at e'
    rw [<- e']
    unfold literalP
    (repeat' split) <;> simp
   rcases key with rfl | rfl | rfl | rfl | rfl <;> exact ⟨_,_,_,true,[],rfl,fun x hx=>by cases hx⟩
 | false =>
  have hv5 : vk v = 5:=by
   unfold valB at h
   rw [hF] at h
   simp only [Bool.not_true,Bool.false_eq_true,if_false] at h
   split at h
   ·rename_i g
    have:=litB_leaf h
    rw [this] at hL;cases hL
   ·rename_i g;simpa using g
  have hk : (vk v != 5) = false:=by simp [hv5]
  unfold valB at h
  rw [hF,hk] at h
  simp only [Bool.not_true,Bool.false_eq_true,if_false,Bool.and_eq_true,decide_eq_true_eq] at h
  obtain ⟨hall,hpos⟩:=h
  unfold formedB at hF
  rw [hk] at hF
  simp only [Bool.false_eq_true,if_false] at hF
  split at hF
  ·cases hF
  rename_i g
  simp only [Bool.or_eq_true,not_or,bne_iff_ne,ne_eq,Decidable.not_not,decide_eq_true_eq,Int.not_lt] at g
  obtain ⟨⟨gi,gs⟩,gl⟩:=g
  have hlit : litT v = mkT 5 [91] 0 :: (cmL litT1 (vl v) ++ [mkT 5 [93] 0]):=by unfold litT;rw [hL];rfl
  obtain ⟨hrise,hone⟩:=adj_facts hF
  have hall' : ∀ x ∈ vl v,litB x true = true:=fun x hx=>List.all_eq_true.1 hall x hx
  have h5 : ∀ x ∈ vl v,vk x ≠ 5:=fun x hx e=>by
   have:=hall' x hx
   unfold litB at this
   rw [e] at this;cases this
  obtain ⟨L,hLe⟩ : ∃ L,vl v = L:=⟨_,rfl⟩
  rw [hLe] at hlit hr hall' hone h5 hF gl hpos hrise
  cases L with
  | nil=>simp at hpos
  | cons x l =>
   rw [cmL_cons] at hlit
   rw [hlit] at hs ⊢
   have N:=nx_sign hs.hd (w:=[91]) (by decide)
   have hE : ∀ z ∈ x :: l,Elt z:=fun z hz=>⟨(hone z hz).1,hall' z hz,hr z hz⟩
   have s1:=hs.tl
   rw [List.append_assoc] at s1
   have hx:=hE x (by simp)
   obtain ⟨y0,e0,c0⟩:=item_fwd hx.o hx.b hx.r s1.fst
   have s2:=s1.snd
   have s3:=s2.snd
   have Q:=nx_sign s3.hd (w:=[93]) (by decide)
   obtain ⟨f,ys,e1,e2,e3⟩:=bagL_fwd l (a + 1 + (litT1 x).length) [y0] (fun z hz=>hE z (by simp [hz])) s2.fst (Q.ne (by decide))
   have eb:=bagV_of (xs:=[y0] ++ ys) hF h5 (by omega) (by simp only [List.singleton_append,List.map_cons,e2,c0.c]) (fun z hz=>by
    rcases List.mem_append.1 hz with hz | hz
    ·rw [List.mem_singleton] at hz;subst hz;exact ⟨c0.l,c0.one hx.o⟩
    ·exact e3 z hz)
   refine ⟨mkV 5 0 [] false ((x :: l).map can),⟨f + 1,?_⟩,?_,⟨_,_,_,_,_,rfl,fun z hz=>?_⟩,N.ne (by decide),N.ne (by decide)⟩
   ·rw [N.plain (by decide) (by decide)]
    show bagP toks f a (a + 1,0) = _
    unfold bagP
    rw [e0]
    simp only
    rw [e1]
    simp only
    rw [Q.must,eb]
    simp only [List.length_cons,List.length_append,List.length_nil]
    show some (_,(_,_)) = _
    congr 3
    omega
   ·unfold sameB
    simp only [vk_mk,vi_mk,vs_mk,vl_mk,hv5,gi,gs,hLe,List.length_map]
    rw [if_neg (by simp)]
    refine List.all_eq_true.2 fun i hi=>?_
    have hi : i < (x :: l).length:=by simpa using hi
    unfold okSame
    rw [List.getElem?_map,List.getElem?_eq_getElem hi]
    simp only [Option.map_some]
    have o:=(hone _ (List.getElem_mem hi)).1
    unfold sameEl
    rw [can_vk,can_vi,can_vs,can_vl,one1_vl o]
    simp
   ·obtain ⟨y,_,rfl⟩:=List.mem_map.1 hz
    exact can_vl y
end GP
namespace GP
open Go Go.Proofs
set_option maxRecDepth 100000
def lvN : Nat -> Lv
 | 0=>.expr
 | 1=>.and
 | 2=>.not
 | 3=>.cmp
 | 4=>.sum
 | 5=>.prod
 | 6=>.unary
 | _=>.plain
def bsN : Nat -> List (List UInt8)
 | 0=>[wOr]
 | 1=>[wAnd]
 | 4=>[[43],[45]]
 | 5=>[[42]]
 | _=>[]
def rowN (s : Nat) : Prop:=s = 0 ∨ s = 1 ∨ s = 4 ∨ s = 5
def noOp (L : Nat) (toks : List D) (st : St) : Prop:=∀ w ∈ ops2,(L : Int) <= stI w -> isP toks st w = false
theorem noOp.up {L M : Nat} {toks : List D} {st : St} (h : noOp L toks st) (hl : L <= M) : noOp M toks st:=fun w hw hs=>h w hw (by omega)
theorem noOp.first {L : Nat} {toks : List D} {st : St} (h : noOp L toks st) {ws : List (List UInt8)} (hw : ∀ w ∈ ws,w ∈ ops2 /\ (L : Int) <= stI w) : firstP toks st ws = none :=
 firstP_none fun w hm=>h w (hw w hm).1 (hw w hm).2
theorem Nxt.noOp {toks : List D} {st : St} {w : List UInt8} (h : Nxt toks st w) {L : Nat} (hw : w ∉ ops2 ∨ stI w < L) : noOp L toks st:=fun u hu hs=>by
 rw [h u]
 cases g : w == u with
 | false=>rfl
 | true =>
  have:=eq_of_beq' g
  subst this
  rcases hw with hw | hw
  ·exact absurd hu hw
  ·omega
structure It (toks : List D) (a b : Nat) (es : Nat) (x : D) : Prop where
 t1 : ∀ L,L <= es -> noOp L toks (b,0) -> Pr (lvN L) toks (a,0) (x,(b,0))
 t2 : ∀ s,s <= es -> rowN s -> noOp (s + 1) toks (b,0) -> ∀ r,Rw (lvN (s + 1)) (bsN s) toks x (b,0) r -> Pr (lvN s) toks (a,0) r
 hn : 2 < es -> isP toks (a,0) wNot = false
 hm : 6 < es -> isP toks (a,0) [45] = false
theorem row_rule {toks : List D} {st st1 : St} {x : D} {r : D × St} {s : Nat} (hs : rowN s) (h : Pr (lvN (s + 1)) toks st (x,st1)) (hr : Rw (lvN (s + 1)) (bsN s) toks x st1 r) : Pr (lvN s) toks st r:=by
 rcases hs with rfl | rfl | rfl | rfl
 ·exact Pr.expr h hr
 ·exact Pr.and h hr
 ·exact Pr.sum h hr
 ·exact Pr.prod h hr
theorem It.mk' {toks : List D} {a b K : Nat} {x : D} (hK : K <= 7) (h1 : noOp K toks (b,0) -> Pr (lvN K) toks (a,0) (x,(b,0)))
  (h2 : rowN K -> noOp (K + 1) toks (b,0) -> ∀ r,Rw (lvN (K + 1)) (bsN K) toks x (b,0) r -> Pr (lvN K) toks (a,0) r)
  (hn : 2 < K -> isP toks (a,0) wNot = false) (hm : 6 < K -> isP toks (a,0) [45] = false) : It toks a b K x:=by
 have key : ∀ d L,L + d = K -> noOp L toks (b,0) -> Pr (lvN L) toks (a,0) (x,(b,0)):=by
  intro d
  induction d with
  | zero=>intro L e h;rw [Nat.add_zero] at e;subst e;exact h1 h
  | succ d ih =>
   intro L e h
   have n1:=ih (L + 1) (by omega) (h.up (by omega))
   have hL : L = 0 ∨ L = 1 ∨ L = 2 ∨ L = 3 ∨ L = 4 ∨ L = 5 ∨ L = 6:=by omega
   rcases hL with rfl | rfl | rfl | rfl | rfl | rfl | rfl
   ·exact Pr.expr n1 (Rw.stop (h.first (by decide)))
   ·exact Pr.and n1 (Rw.stop (h.first (by decide)))
   ·exact Pr.not0 (hn (by omega)) n1
   ·exact Pr.cmp0 n1 (h.first (by decide))
   ·exact Pr.sum n1 (Rw.stop (h.first (by decide)))
   ·exact Pr.prod n1 (Rw.stop (h.first (by decide)))
   ·exact Pr.neg0 (hm (by omega)) n1
 refine ⟨fun L hL h=>key (K - L) L (by omega) h,fun s hs hrow hno r hr=>?_,hn,hm⟩
 by_cases hsK : s = K
 ·subst hsK;exact h2 hrow hno r hr
 ·exact row_rule hrow (key (K - (s + 1)) (s + 1) (by omega) hno) hr
theorem Pr.plain_in {toks : List D} {a : Nat} {r : D × St} (h : Nxt toks (a,0) [40]) (hr : Pr .inner toks (a,0) r) : Pr .plain toks (a,0) r:=by
 obtain ⟨f,hf⟩:=hr
 refine ⟨f + 1,?_⟩
 rw [h.plain (by decide) (by decide)]
 exact hf
theorem It.par {toks : List D} {a b K : Nat} {x : D} (h : It toks (a + 1) b K x) (hp : toks[a]? = some tP) (hq : toks[b]? = some tQ) : It toks a (b + 1) 7 x:=by
 have P:=nx_P hp
 have Q:=nx_Q hq
 refine It.mk' (Nat.le_refl _) (fun _=>?_) (fun h=>?_) (fun _=>P.ne (by decide)) (fun _=>P.ne (by decide))
 ·refine Pr.plain_in P ?_
  have:=h.t1 0 (Nat.zero_le _) (Q.noOp (.inl (by decide)))
  have:=Pr.inner (toks:=toks) (st:=(a,0)) (x:=x) (st1:=(b,0)) (by rw [P.must];exact this)
  rw [Q.must] at this
  exact this
 ·rcases h with h | h | h | h <;> cases h
theorem It.part {toks : List D} {a K least : Nat} {s li : Int} {full : Bool} {l : List D} {R : D -> Prop} (hs : s = (K : Int)) (hli : li = (least : Int)) (hl : least <= 7) (h : ∀ a,Seg toks a l -> ∃ x,It toks a (a + l.length) K x /\ R x) (hS : Seg toks a (parW full s li l)) :
  ∃ K' x,least <= K' /\ It toks a (a + (parW full s li l).length) K' x /\ R x:=by
 unfold parW at hS ⊢
 split at hS
 ·rename_i g
  rw [if_pos g]
  simp only [Bool.and_eq_true,decide_eq_true_eq] at g
  obtain ⟨x,h1,h2⟩:=h a hS
  exact ⟨K,x,by omega,h1,h2⟩
 ·rename_i g
  rw [if_neg g]
  obtain ⟨x,h1,h2⟩:=h (a + 1) hS.tl.fst
  have:=h1.par hS.hd hS.tl.snd.hd
  refine ⟨7,x,hl,?_,h2⟩
  rw [show a + (tP :: (l ++ [tQ])).length = a + 1 + l.length + 1 by simp;omega]
  exact this
theorem It.row {toks : List D} {a m b s Ka Kb : Nat} {w : List UInt8} {x y : D} (hrow : rowN s) (hw : w ∈ bsN s) (hs : stI w = (s : Int)) (hN : Nxt toks (m,0) w) (ha : It toks a m Ka x) (hKa : s <= Ka) (hb : It toks (m + 1) b Kb y) (hKb : s + 1 <= Kb) : It toks a b s (twoD w x y):=by
 have h2 : noOp (s + 1) toks (b,0) -> ∀ r,Rw (lvN (s + 1)) (bsN s) toks (twoD w x y) (b,0) r -> Pr (lvN s) toks (a,0) r:=fun hno r hr=>by
  refine ha.t2 s hKa hrow (hN.noOp (.inr (by rw [hs];omega))) r ?_
  exact Rw.step rfl (hN.first hw) (hb.t1 (s + 1) hKb hno) hr
 have hs7 : s <= 7:=by rcases hrow with rfl | rfl | rfl | rfl <;> omega
 refine It.mk' hs7 (fun hno=>h2 (hno.up (by omega)) _ (Rw.stop (hno.first ?_))) (fun _=>h2) (fun h=>ha.hn (by omega)) (fun h=>?_)
 ·rcases hrow with rfl | rfl | rfl | rfl <;> decide
 ·rcases hrow with rfl | rfl | rfl | rfl <;> omega
theorem It.cmp {toks : List D} {a m b Ka Kb : Nat} {w : List UInt8} {x y : D} (hw : w ∈ cmpW) (hs : stI w = 3) (hN : Nxt toks (m,0) w) (ha : It toks a m Ka x) (hKa : 4 <= Ka) (hb : It toks (m + 1) b Kb y) (hKb : 4 <= Kb) : It toks a b 3 (twoD w x y):=by
 refine It.mk' (by omega) (fun hno=>?_) (fun h=>?_) (fun _=>ha.hn (by omega)) (fun h=>by omega)
 ·exact Pr.cmp1 (ha.t1 4 hKa (hN.noOp (.inr (by rw [hs];decide)))) rfl (hN.first hw) (hb.t1 4 hKb (hno.up (by omega)))
 ·rcases h with h | h | h | h <;> cases h
theorem It.not {toks : List D} {a b K : Nat} {x : D} (hN : Nxt toks (a,0) wNot) (h : It toks (a + 1) b K x) (hK : 2 <= K) : It toks a b 2 (oneD wNot x):=by
 refine It.mk' (by omega) (fun hno=>?_) (fun h=>?_) (fun h=>by omega) (fun h=>by omega)
 ·exact Pr.not1 rfl (by rw [hN];simp) (h.t1 2 hK hno)
 ·rcases h with h | h | h | h <;> cases h
theorem It.neg {toks : List D} {a b K : Nat} {x : D} (hN : Nxt toks (a,0) [45]) (h : It toks (a + 1) b K x) (hK : 6 <= K) : It toks a b 6 (oneD wNeg x):=by
 refine It.mk' (by omega) (fun hno=>?_) (fun h=>?_) (fun _=>hN.ne (by decide)) (fun h=>by omega)
 ·exact Pr.neg1 rfl (by rw [hN];simp) (h.t1 6 hK hno)
 ·rcases h with h | h | h | h <;> cases h
theorem It.leaf {toks : List D} {a b : Nat} {x : D} (h : Pr .plain toks (a,0) (x,(b,0))) (h1 : isP toks (a,0) wNot = false) (h2 : isP toks (a,0) [45] = false) : It toks a b 7 x :=
 It.mk' (Nat.le_refl _) (fun _=>h) (fun h=>by rcases h with h | h | h | h <;> cases h) (fun _=>h1) (fun _=>h2)
def sm : Nat -> D -> D -> Prop
 | 0,_,_=>False
 | n + 1,x,e=>eop x = eop e /\ ewho x = ewho e /\ ename x = ename e /\ sameB (eV x) (eV e) = true /\ (∀ y ∈ vl (eV x),vl y = []) /\ (eps x).length = (eps e).length /\ ∀ (i : Nat) (y z : D),(eps x)[i]? = some y -> (eps e)[i]? = some z -> sm n y z
theorem sm_S : ∀ (n : Nat) (x e : D),sm n x e -> sm (n + 1) x e
 | 0,_,_,h=>h.elim
 | n + 1,x,e,⟨h1,h2,h3,h4,h5,h6,h7⟩=>⟨h1,h2,h3,h4,h5,h6,fun i y z hy hz=>sm_S n y z (h7 i y z hy hz)⟩
theorem sm_le {n m : Nat} (h : n <= m) {x e : D} (k : sm n x e) : sm m x e:=by
 induction h with
 | refl=>exact k
 | step _ ih=>exact sm_S _ _ _ ih
def Sm (x e : D) : Prop:=∃ n,sm n x e
theorem sameB_zero {v : D} (h : sameB v zeroV = true) : sameB zeroV v = true:=by
 unfold sameB at h ⊢
 split at h
 ·cases h
 ·rename_i g
  simp only [Bool.or_eq_true,not_or,bne_iff_ne,ne_eq,Decidable.not_not,Bool.not_eq_true',Bool.not_eq_false,beq_iff_eq] at g
  obtain ⟨⟨⟨g1,g2⟩,g3⟩,g4⟩:=g
  rw [if_neg (by simp [g1,g2,g3,g4])]
  rfl
theorem fm_rest {e : D} (h : fmTop e = true) (g1 : (eop e == sVal) = false) : sameB zeroV (eV e) = true /\ ((eop e == sAttr) = false -> (eop e == sHas) = false -> (eop e == sRole) = false -> ewho e = [] /\ ename e = []) ∧
  ((eop e == sAttr) = true ∨ (eop e == sHas) = true -> inB whoW (ewho e) = true /\ nameB (ename e) = true) /\ ((eop e == sAttr) = false -> (eop e == sHas) = false -> (eop e == sRole) = true -> ewho e = [] /\ formI 3 (ename e) 0 = true):=by
 unfold fmTop at h
 rw [if_neg (by rw [g1];decide)] at h
 split at h
 ·cases h
 ·rename_i g
  have g : sameB (eV e) zeroV = true:=by simpa using g
  refine ⟨sameB_zero g,fun a1 a2 a3=>?_,fun a=>?_,fun a1 a2 a3=>?_⟩
  ·rw [a1,a2,a3] at h
   simp only [Bool.or_self,Bool.false_eq_true,if_false,Bool.and_eq_true,beq_iff_eq] at h
   exact h
  ·rw [if_pos (by rw [Bool.or_eq_true];exact a)] at h
   simpa using h
  ·rw [a1,a2,a3] at h
   simp only [Bool.or_self,Bool.false_eq_true,if_false,if_true,Bool.and_eq_true,beq_iff_eq] at h
   exact h
theorem Sm.two {e x y : D} (hg : GoodE e) (h2 : isOp2 (eop e)) (hx : Sm x (sub0 e)) (hy : Sm y (sub1 e)) : Sm (twoD (eop e) x y) e:=by
 obtain ⟨n,hn⟩:=hx
 obtain ⟨m,hm⟩:=hy
 obtain ⟨_,_,_,_,he⟩:=hg.two h2
 obtain ⟨g1,g2,g3,g4,g5,g6,g7,g8⟩:=op2_not h2
 obtain ⟨q1,q2,_,_⟩:=fm_rest hg.parts.2.2.2 g1
 obtain ⟨q3,q4⟩:=q2 g3 g4 g5
 refine ⟨max n m + 1,rfl,q3.symm,q4.symm,q1,(fun y hy=>by cases hy),by rw [he];rfl,fun i u v hu hv=>?_⟩
 rw [he] at hv
 have hu : ([x,y] : List D)[i]? = some u:=hu
 match i with
 | 0=>simp at hu hv;subst hu;subst hv;exact sm_le (by omega) hn
 | 1=>simp at hu hv;subst hu;subst hv;exact sm_le (by omega) hm
 | i + 2=>simp at hu
theorem Sm.one {e x : D} (hg : GoodE e) (h1 : (eop e == sSize) = true ∨ (eop e == sNot) = true ∨ (eop e == sNeg) = true) (hx : Sm x (sub0 e)) : Sm (oneD (eop e) x) e:=by
 obtain ⟨n,hn⟩:=hx
 obtain ⟨_,z,he,hz⟩:=hg.one h1
 have hne : (eop e == sVal) = false /\ (eop e == sAttr) = false /\ (eop e == sHas) = false /\ (eop e == sRole) = false:=by
  rcases h1 with h1 | h1 | h1 <;> (rw [eq_of_beq' h1];decide)
 obtain ⟨g1,g3,g4,g5⟩:=hne
 obtain ⟨q1,q2,_,_⟩:=fm_rest hg.parts.2.2.2 g1
 obtain ⟨q3,q4⟩:=q2 g3 g4 g5
 refine ⟨n + 1,rfl,q3.symm,q4.symm,q1,(fun y hy=>by cases hy),by rw [he];rfl,fun i u v hu hv=>?_⟩
 rw [he] at hv
 have hu : ([x] : List D)[i]? = some u:=hu
 match i with
 | 0=>simp at hu hv;subst hu;subst hv;rw [<- hz];exact hn
 | i + 1=>simp at hu
theorem eps_nil {e : D} (hg : GoodE e) (h0 : arN (eop e) = 0) : eps e = []:=by
 have:=hg.parts.2.1
 rw [h0] at this
 exact List.eq_nil_of_length_eq_zero (by omega)
theorem Sm.leaf {e : D} {who name : List UInt8} (hg : GoodE e) (hv : (eop e == sVal) = false) (h0 : arN (eop e) = 0) (hw : ewho e = who) (hn : ename e = name) : Sm (leafD (eop e) who name) e:=by
 obtain ⟨q1,_⟩:=fm_rest hg.parts.2.2.2 hv
 have he:=eps_nil hg h0
 exact ⟨1,rfl,hw.symm,hn.symm,q1,(fun y hy=>by cases hy),by rw [he];rfl,fun i u v _ hv'=>by rw [he] at hv';cases hv'⟩
theorem Sm.val {e y : D} (hg : GoodE e) (hv : (eop e == sVal) = true) (hy : ∃ k i s n l,y = mkV k i s n l /\ ∀ x ∈ l,vl x = []) (hs : sameB y (eV e) = true) : Sm (valE y) e:=by
 obtain ⟨k,i,s,n,l,rfl,hl⟩:=hy
 obtain ⟨_,q2,q3⟩:=fmTop_val hg.parts.2.2.2 hv
 have he:=eps_nil hg (by rw [eq_of_beq' hv];decide)
 refine ⟨1,(eq_of_beq' hv).symm,q2.symm,q3.symm,hs,?_,by rw [he];rfl,fun i u v _ hv'=>by rw [he] at hv';cases hv'⟩
 intro x hx
 have hx : x ∈ vl (mkV k i s n l):=hx
 rw [vl_mk] at hx
 exact hl x hx
theorem ops2_of {op : List UInt8} (h : isOp2 op) : op ∈ ops2:=by
 unfold isOp2 stI at h
 cases e1 : inB [wOr] op with
 | true=>have:=inB_mem2 e1;simp only [List.mem_singleton] at this;subst this;decide
 | false =>
 cases e2 : inB [wAnd] op with
 | true=>have:=inB_mem2 e2;simp only [List.mem_singleton] at this;subst this;decide
 | false =>
 cases e3 : inB cmpW op with
 | true =>
  have:=inB_mem2 e3
  have key : ∀ w ∈ cmpW,w ∈ ops2:=by decide
  exact key op this
 | false =>
 cases e4 : inB [[43],[45]] op with
 | true =>
  have:=inB_mem2 e4
  have key : ∀ w ∈ ([[43],[45]] : List (List UInt8)),w ∈ ops2:=by decide
  exact key op this
 | false =>
 cases e5 : inB [[42]] op with
 | true=>have:=inB_mem2 e5;simp only [List.mem_singleton] at this;subst this;decide
 | false =>
 rw [e1,e2,e3,e4,e5] at h
 simp only [Bool.false_eq_true,if_false] at h
 (repeat' split at h) <;> omega
end GP
namespace GP
open Go Go.Proofs
set_option maxRecDepth 100000
theorem opTok_nx {toks : List D} {m : Nat} {op : List UInt8} (h : op ∈ ops2) (hS : toks[m]? = some (opTok op)) : Nxt toks (m,0) op:=by
 have key : ∀ op ∈ ops2,(inB opW op = true /\ wordB op = true) ∨ (inB opW op = false /\ isSign op = true):=by decide
 unfold opTok at hS
 rcases key op h with ⟨h1,h2⟩ | ⟨h1,h2⟩
 ·rw [if_pos h1] at hS;exact nx_word hS h2
 ·rw [if_neg (by rw [h1];decide)] at hS;exact nx_sign hS h2
theorem op_sets {op : List UInt8} (h : op ∈ ops2) : (stI op = 0 -> op ∈ bsN 0) /\ (stI op = 1 -> op ∈ bsN 1) /\ (stI op = 3 -> op ∈ cmpW) /\ (stI op = 4 -> op ∈ bsN 4) /\ (stI op = 5 -> op ∈ bsN 5):=by
 have key : ∀ op ∈ ops2,(stI op = 0 -> op ∈ bsN 0) /\ (stI op = 1 -> op ∈ bsN 1) /\ (stI op = 3 -> op ∈ cmpW) /\ (stI op = 4 -> op ∈ bsN 4) /\ (stI op = 5 -> op ∈ bsN 5):=by decide
 exact key op h
theorem stI_nat {op : List UInt8} (h : 0 <= stI op) : stI op = ((stI op).toNat : Int):=by omega
set_option maxHeartbeats 2000000 in
theorem trip {full : Bool} : ∀ e,GoodE e -> rgC e -> ∀ (toks : List D) (a : Nat),Seg toks a (tkC full e) -> ∃ x,It toks a (a + (tkC full e).length) (stI (eop e)).toNat x /\ Sm x e:=by
 refine good_ind (P:=fun e=>rgC e -> ∀ (toks : List D) (a : Nat),Seg toks a (tkC full e) -> ∃ x,It toks a (a + (tkC full e).length) (stI (eop e)).toNat x /\ Sm x e) fun e hg ih hr toks a hS=>?_
 rcases hg.op with g | g | g | g | g | g | g | g | g
 ·rw [tk_val hg g] at hS ⊢
  obtain ⟨y,h1,h2,h3,h4,h5⟩:=val_fwd (fun x hx=>(hr.v x hx).2) (fmTop_val hg.parts.2.2.2 g).1 hS
  refine ⟨valE y,?_,Sm.val hg g h3 h2⟩
  rw [show (stI (eop e)).toNat = 7 by rw [eq_of_beq' g];decide]
  exact It.leaf h1 h4 h5
 ·rw [tk_now hg g] at hS ⊢
  have e0:=eq_of_beq' g
  have hf:=fm_rest hg.parts.2.2.2 (by rw [e0];decide)
  have hw:=hf.2.1 (by rw [e0];decide) (by rw [e0];decide) (by rw [e0];decide)
  have N:=nx_word hS.hd (by decide)
  refine ⟨leafD (eop e) [] [],?_,Sm.leaf hg (by rw [e0];decide) (by rw [e0];decide) hw.1 hw.2⟩
  rw [e0,show (stI sNow).toNat = 7 by decide]
  refine It.leaf ⟨1,?_⟩ (N.ne (by decide)) (N.ne (by decide))
  rw [N.plain (by decide) (by decide)];rfl
 ·rw [tk_attr hg g] at hS ⊢
  have e0:=eq_of_beq' g
  have hf:=fm_rest hg.parts.2.2.2 (by rw [e0];decide)
  have hw:=hf.2.2.1 (.inl g)
  have hm:=inB_mem2 hw.1
  have hW : ∀ w ∈ whoW,wordB w = true /\ (w == wTrue) = false /\ (w == wFalse) = false /\ (w == wNow) = false /\ (w == [40]) = false /\ (w == [91]) = false /\ (w == wSize) = false /\ (w == wRole) = false /\ (w == wHas) = false /\ (w == wNot) = false /\ (w == [45]) = false:=by decide
  obtain ⟨w0,w1,w2,w3,w4,w5,w6,w7,w8,w9,w10⟩:=hW _ hm
  have N:=nx_word hS.hd w0
  refine ⟨leafD (eop e) (ewho e) (ename e),?_,Sm.leaf hg (by rw [e0];decide) (by rw [e0];decide) rfl rfl⟩
  rw [e0,show (stI sAttr).toNat = 7 by decide]
  refine It.leaf ⟨1,?_⟩ (N.ne w9) (N.ne w10)
  rw [N.plain w1 w2,w3,w4,w5,w6,w7,w8,attr_fwd hS hw.1 hw.2];rfl
 ·rw [tk_has hg g] at hS ⊢
  have e0:=eq_of_beq' g
  have hf:=fm_rest hg.parts.2.2.2 (by rw [e0];decide)
  have hw:=hf.2.2.1 (.inr g)
  have N:=nx_word hS.hd (by decide)
  have P:=nx_P hS.tl.hd
  have s2 : Seg toks (a + 1 + 1) ([mkT 1 (ewho e) 0,mkT 5 [46] 0,mkT 1 (ename e) 0] ++ [tQ]):=hS.tl.tl
  have Q:=nx_Q s2.snd.hd
  have A:=attr_fwd s2.fst hw.1 hw.2
  refine ⟨leafD (eop e) (ewho e) (ename e),?_,Sm.leaf hg (by rw [e0];decide) (by rw [e0];decide) rfl rfl⟩
  rw [e0,show (stI sHas).toNat = 7 by decide]
  refine It.leaf ⟨1,?_⟩ (N.ne (by decide)) (N.ne (by decide))
  rw [N.plain (by decide) (by decide)]
  show some (leafD wHas (attrP toks (mustP toks [40] (a + 1,0))).1 (attrP toks (mustP toks [40] (a + 1,0))).2.1,mustP toks [41] (attrP toks (mustP toks [40] (a + 1,0))).2.2) = _
  rw [P.must,A]
  simp only
  have Q' : mustP toks [41] (a + 1 + 1 + 3,0) = (a + 1 + 1 + 3 + 1,0):=Q.must
  rw [Q'];rfl
 ·rw [tk_role hg g] at hS ⊢
  have e0:=eq_of_beq' g
  have hf:=fm_rest hg.parts.2.2.2 (by rw [e0];decide)
  have hw:=hf.2.2.2 (by rw [e0];decide) (by rw [e0];decide) g
  have N:=nx_word hS.hd (by decide)
  have P:=nx_P hS.tl.hd
  have A:=kind_of hS.tl.tl.hd (show formT (mkT 3 (ename e) 0) = true from hw.2)
  have Q:=nx_Q hS.tl.tl.tl.hd
  refine ⟨leafD (eop e) [] (ename e),?_,Sm.leaf hg (by rw [e0];decide) (by rw [e0];decide) hw.1 rfl⟩
  rw [e0,show (stI sRole).toNat = 7 by decide]
  refine It.leaf ⟨1,?_⟩ (N.ne (by decide)) (N.ne (by decide))
  rw [N.plain (by decide) (by decide)]
  show some (leafD wRole [] (ts (kindP toks 3 (mustP toks [40] (a + 1,0))).1),mustP toks [41] (kindP toks 3 (mustP toks [40] (a + 1,0))).2) = _
  rw [P.must,A]
  simp only
  rw [Q.must];rfl
 ·obtain ⟨h1,x0,hx,hs⟩:=hg.one (.inl g)
  have hm : sub0 e ∈ eps e:=by rw [hx,hs];simp
  rw [tk_size hg g] at hS ⊢
  have e0:=eq_of_beq' g
  have N:=nx_word hS.hd (by decide)
  have P:=nx_P hS.tl.hd
  obtain ⟨x,i1,i2⟩:=ih _ hm (hr.p _ hm) toks (a + 1 + 1) hS.tl.tl.fst
  have Q:=nx_Q hS.tl.tl.snd.hd
  refine ⟨oneD (eop e) x,?_,Sm.one hg (.inl g) i2⟩
  rw [e0,show (stI sSize).toNat = 7 by decide]
  have k:=i1.t1 0 (Nat.zero_le _) (Q.noOp (.inl (by decide)))
  have k2:=Pr.inner (toks:=toks) (st:=(a + 1,0)) (x:=x) (by rw [P.must];exact k)
  rw [Q.must] at k2
  obtain ⟨f,hf⟩:=k2
  refine It.leaf ⟨f + 1,?_⟩ (N.ne (by decide)) (N.ne (by decide))
  rw [N.plain (by decide) (by decide)]
  show oneS wSize (pLv f .inner toks (a + 1,0)) = _
  rw [hf]
  simp only [oneS,List.length_cons,List.length_append,List.length_nil]
  rw [show a + ((tkC full (sub0 e)).length + (0 + 1) + 1 + 1) = a + 1 + 1 + (tkC full (sub0 e)).length + 1 by omega]
  rfl
 ·obtain ⟨h1,x0,hx,hs⟩:=hg.one (.inr (.inl g))
  have hm : sub0 e ∈ eps e:=by rw [hx,hs];simp
  rw [tk_not hg g] at hS ⊢
  have e0:=eq_of_beq' g
  have N:=nx_word hS.hd (by decide)
  obtain ⟨K,x,hK,i1,i2⟩:=It.part (R:=fun x=>Sm x (sub0 e)) (stI_nat h1.parts.1) (least:=2) rfl (by omega) (fun a ha=>ih _ hm (hr.p _ hm) toks a ha) hS.tl
  refine ⟨oneD (eop e) x,?_,Sm.one hg (.inr (.inl g)) i2⟩
  rw [e0,show (stI sNot).toNat = 2 by decide,List.length_cons,show ∀ n,a + (n + 1) = a + 1 + n by intro n;omega]
  exact It.not N i1 hK
 ·obtain ⟨h1,x0,hx,hs⟩:=hg.one (.inr (.inr g))
  have hm : sub0 e ∈ eps e:=by rw [hx,hs];simp
  rw [tk_neg hg g] at hS ⊢
  have e0:=eq_of_beq' g
  have N:=nx_sign hS.hd (by decide)
  obtain ⟨K,x,hK,i1,i2⟩:=It.part (R:=fun x=>Sm x (sub0 e)) (stI_nat h1.parts.1) (least:=6) rfl (by omega) (fun a ha=>ih _ hm (hr.p _ hm) toks a ha) hS.tl
  refine ⟨oneD (eop e) x,?_,Sm.one hg (.inr (.inr g)) i2⟩
  rw [e0,show (stI sNeg).toNat = 6 by decide,List.length_cons,show ∀ n,a + (n + 1) = a + 1 + n by intro n;omega]
  exact It.neg N i1 hK
 ·obtain ⟨k0,k1,m0,m1,_⟩:=hg.two g
  have ho:=ops2_of g
  obtain ⟨q0,q1,q3,q4,q5⟩:=op_sets ho
  rw [tk_two hg g] at hS ⊢
  have N:=opTok_nx ho hS.snd.hd
  have hl : ∃ l : Nat,lstS (eop e) = (l : Int) /\ l <= 7 /\ (stI (eop e)).toNat <= l /\ (stI (eop e) = 3 -> l = 4):=by
   unfold lstS
   rcases g with h | h | h | h | h <;> rw [h]
   ·exact ⟨0,rfl,by omega,by decide,by decide⟩
   ·exact ⟨1,rfl,by omega,by decide,by decide⟩
   ·exact ⟨4,rfl,by omega,by decide,by decide⟩
   ·exact ⟨4,rfl,by omega,by decide,by decide⟩
   ·exact ⟨5,rfl,by omega,by decide,by decide⟩
  obtain ⟨l,hl1,hl2,hl3,hl4⟩:=hl
  obtain ⟨Ka,x,hKa,a1,a2⟩:=It.part (R:=fun x=>Sm x (sub0 e)) (stI_nat k0.parts.1) hl1 hl2 (fun a ha=>ih _ m0 (hr.p _ m0) toks a ha) hS.fst
  have h5 : (stI (eop e)).toNat + 1 <= 7:=by unfold isOp2 at g;omega
  obtain ⟨Kb,y,hKb,b1,b2⟩:=It.part (R:=fun x=>Sm x (sub1 e)) (stI_nat k1.parts.1) (li:=stI (eop e) + 1) (least:=(stI (eop e)).toNat + 1) (by have:=stI_nat hg.parts.1;omega) h5 (fun a ha=>ih _ m1 (hr.p _ m1) toks a ha) hS.snd.tl
  refine ⟨twoD (eop e) x y,?_,Sm.two hg g a2 b2⟩
  rw [List.length_append,List.length_cons,← Nat.add_assoc,show ∀ m n,m + (n + 1) = m + 1 + n by intro m n;omega]
  have hrow : ∀ s : Nat,rowN s -> stI (eop e) = (s : Int) -> eop e ∈ bsN s -> It toks a (a + (parW full (stI (eop (sub0 e))) (lstS (eop e)) (tkC full (sub0 e))).length + 1 + (parW full (stI (eop (sub1 e))) (stI (eop e) + 1) (tkC full (sub1 e))).length) (stI (eop e)).toNat (twoD (eop e) x y):=fun s hs he hb=>by
   have e1 : (stI (eop e)).toNat = s:=by omega
   rw [e1] at hKb hl3 ⊢
   exact It.row hs hb he N a1 (by omega) b1 hKb
  rcases g with h | h | h | h | h
  ·exact hrow 0 (by simp [rowN]) h (q0 h)
  ·exact hrow 1 (by simp [rowN]) h (q1 h)
  ·have e1 : (stI (eop e)).toNat = 3:=by omega
   have e4:=hl4 h
   rw [e1] at hKb ⊢
   exact It.cmp (q3 h) h N a1 (by omega) b1 hKb
  ·exact hrow 4 (by simp [rowN]) h (q4 h)
  ·exact hrow 5 (by simp [rowN]) h (q5 h)
end GP
namespace GP
open Go Go.Proofs
set_option maxRecDepth 100000
theorem allZ_of {f : D -> D -> Bool} {xs ys : List D} (hl : xs.length = ys.length) (h : ∀ (i : Nat) (x y : D),xs[i]? = some x -> ys[i]? = some y -> f x y = true) : allZ f xs ys = true:=by
 unfold allZ
 rw [if_pos (by simpa using hl)]
 refine List.all_eq_true.2 fun i _=>?_
 unfold okZ
 split
 ·rename_i x y hx hy;exact h i x y hx hy
 ·rfl
theorem sm_sameE : ∀ (n k : Nat) (x e : D),sm k x e -> isE n x -> isE n e -> sameE n x e = true
 | 0,_,_,_,_,h,_=>h.elim
 | _ + 1,0,_,_,h,_,_=>h.elim
 | n + 1,k + 1,x,e,⟨h1,h2,h3,h4,_,h6,h7⟩,hx,he=>by
  simp only [sameE]
  rw [h1,h2,h3,h4]
  simp only [bne_self_eq_false,Bool.or_self,Bool.not_true,Bool.false_eq_true,if_false]
  exact allZ_of h6 fun i y z hy hz=>sm_sameE n k y z (h7 i y z hy hz) (isE_eps hx y (List.mem_of_getElem? hy)) (isE_eps he z (List.mem_of_getElem? hz))
theorem mxd_congr2 {f : D -> Nat} {xs ys : List D} (hl : xs.length = ys.length) (h : ∀ (i : Nat) (x y : D),xs[i]? = some x -> ys[i]? = some y -> f x = f y) : mxd f xs = mxd f ys:=by
 have e : ∀ l : List D,mxd f l = (l.map f).foldl max 0:=fun l=>by rw [List.foldl_map];rfl
 rw [e,e]
 congr 1
 refine List.ext_getElem? fun i=>?_
 rw [List.getElem?_map,List.getElem?_map]
 rcases Nat.lt_or_ge i xs.length with hi | hi
 ·have hj : i < ys.length:=by omega
  rw [List.getElem?_eq_getElem hi,List.getElem?_eq_getElem hj]
  simp only [Option.map_some]
  rw [h i _ _ (List.getElem?_eq_getElem hi) (List.getElem?_eq_getElem hj)]
 ·rw [List.getElem?_eq_none hi,List.getElem?_eq_none (by omega)]
theorem sm_dpt : ∀ (n k : Nat) (x e : D),sm k x e -> isE n x -> isE n e -> dpt n x = dpt n e
 | 0,_,_,_,_,h,_=>h.elim
 | _ + 1,0,_,_,h,_,_=>h.elim
 | n + 1,k + 1,x,e,⟨_,_,_,_,_,h6,h7⟩,hx,he=>by
  simp only [dpt]
  rw [mxd_congr2 h6 fun i y z hy hz=>sm_dpt n k y z (h7 i y z hy hz) (isE_eps hx y (List.mem_of_getElem? hy)) (isE_eps he z (List.mem_of_getElem? hz))]
def nd : Nat -> D -> Nat
 | 0,_=>0
 | n + 1,e=>((eps e).map (nd n)).sum + 1
theorem sum_mem {f : D -> Nat} : ∀ {l : List D} {x : D},x ∈ l -> f x <= (l.map f).sum
 | a :: l,x,h=>by
  rw [List.map_cons,List.sum_cons]
  rcases List.mem_cons.1 h with rfl | h
  ·omega
  ·have:=sum_mem (f:=f) h;omega
theorem isE_nd : ∀ (n : Nat) (e : D),isE n e -> isE (nd n e) e
 | 0,_,h=>h.elim
 | n + 1,e,⟨op,k,i,s,nl,l,who,name,m,ps,he,h1,h2,h3,h4,h5,h6⟩=>by
  subst he
  have e1 : eps (mkE op k i s nl l who name m ps) = ps:=eps_mk ..
  simp only [nd,e1]
  exact ⟨op,k,i,s,nl,l,who,name,m,ps,rfl,h1,h2,h3,h4,h5,fun x hx=>isE_le (sum_mem hx) (isE_nd n x (h6 x hx))⟩
theorem szL_nd {f : D -> Int -> Int} {g : D -> Nat} {m : Int} (h0 : 0 <= m) (h60 : m <= 60) : ∀ (l : List D) (n : Int),1 <= n -> n <= m + 1 -> (∀ x ∈ l,∀ k : Int,0 <= k -> k <= 60 -> 1 <= f x k /\ f x k <= k + 1 /\ (f x k <= k -> f x k = (g x : Nat))) →
  n <= szL f l m n /\ szL f l m n <= m + 1 /\ (szL f l m n <= m -> szL f l m n = n + ((l.map g).sum : Nat))
 | [],n,h1,h2,_=>by simp only [szL,List.map_nil,List.sum_nil];omega
 | x :: l,n,h1,h2,hf=>by
  simp only [szL,List.map_cons,List.sum_cons]
  by_cases hn : n <= m
  ·rw [if_pos (by simpa using hn)]
   have w1 : IntKind.i64.wrap (m - n) = m - n:=wrap_of _ (by omega) (by omega)
   obtain ⟨f1,f2,f3⟩:=hf x (by simp) (m - n) (by omega) (by omega)
   have w2 : IntKind.i64.wrap (n + f x (m - n)) = n + f x (m - n):=wrap_of _ (by omega) (by omega)
   rw [w1,w2]
   obtain ⟨i1,i2,i3⟩:=szL_nd h0 h60 l (n + f x (m - n)) (by omega) (by omega) (fun y hy=>hf y (by simp [hy]))
   refine ⟨by omega,i2,fun q=>?_⟩
   have q1:=i3 q
   have q2:=f3 (by omega)
   omega
  ·rw [if_neg (by simpa using hn)];omega
theorem sizeE_nd : ∀ (n : Nat) (e : D),isE n e -> ∀ m : Int,0 <= m -> m <= 60 -> 1 <= sizeE n e m /\ sizeE n e m <= m + 1 /\ (sizeE n e m <= m -> sizeE n e m = (nd n e : Nat))
 | 0,_,h=>h.elim
 | n + 1,e,h=>fun m h0 h60=>by
  obtain ⟨i1,i2,i3⟩:=szL_nd (f:=sizeE n) (g:=nd n) h0 h60 (eps e) 1 (by omega) (by omega) (fun x hx k k0 k1=>sizeE_nd n x (isE_eps h x hx) k k0 k1)
  simp only [sizeE,nd]
  refine ⟨i1,i2,fun q=>?_⟩
  rw [i3 q];omega
theorem litT_le' {v : D} (h : valB v = true) : (litT v).length <= 2 ^ 22 - 2:=by
 unfold litT
 split
 ·have:=litT1_le v;omega
 ·rename_i g
  rcases valB_dom h with q | ⟨_,q⟩
  ·exact absurd q g
  ·have:=cmL_le (f:=litT1) (b:=2) (vl v) fun x _=>litT1_le x
   simp only [List.length_cons,List.length_append,List.length_nil]
   omega
theorem parW_len (full : Bool) (s s' : Int) (l : List D) : (parW full s s' l).length <= l.length + 2:=by unfold parW;split <;> simp
theorem tk_size_le {full : Bool} : ∀ (n : Nat) (e : D),isE n e -> GoodE e -> (tkC full e).length + 2 <= 2 ^ 22 * nd n e
 | 0,_,h,_=>h.elim
 | n + 1,e,h,hg=>by
  have hS : nd (n + 1) e = ((eps e).map (nd n)).sum + 1:=rfl
  have one : ∀ x,eps e = [x] -> nd (n + 1) e = nd n x + 1:=fun x hx=>by rw [hS,hx];simp
  have leafy : 2 ^ 22 <= 2 ^ 22 * nd (n + 1) e:=by rw [hS,Nat.mul_add];omega
  rcases hg.op with g | g | g | g | g | g | g | g | g
  ·have:=litT_le' (fmTop_val hg.parts.2.2.2 g).1
   rw [tk_val hg g];omega
  ·rw [tk_now hg g];simp only [List.length_cons,List.length_nil];omega
  ·rw [tk_attr hg g];simp only [List.length_cons,List.length_nil];omega
  ·rw [tk_has hg g];simp only [List.length_cons,List.length_nil];omega
  ·rw [tk_role hg g];simp only [List.length_cons,List.length_nil];omega
  ·obtain ⟨h1,x,hx,hs⟩:=hg.one (.inl g)
   have ih:=tk_size_le (full:=full) n (sub0 e) (isE_eps h _ (by rw [hx,hs];simp)) h1
   rw [tk_size hg g,one x hx,← hs,Nat.mul_add]
   simp only [List.length_cons,List.length_append,List.length_nil];omega
  ·obtain ⟨h1,x,hx,hs⟩:=hg.one (.inr (.inl g))
   have ih:=tk_size_le (full:=full) n (sub0 e) (isE_eps h _ (by rw [hx,hs];simp)) h1
   have p:=parW_len full (stI (eop (sub0 e))) 2 (tkC full (sub0 e))
   rw [tk_not hg g,one x hx,← hs,Nat.mul_add]
   simp only [List.length_cons];omega
  ·obtain ⟨h1,x,hx,hs⟩:=hg.one (.inr (.inr g))
   have ih:=tk_size_le (full:=full) n (sub0 e) (isE_eps h _ (by rw [hx,hs];simp)) h1
   have p:=parW_len full (stI (eop (sub0 e))) 6 (tkC full (sub0 e))
   rw [tk_neg hg g,one x hx,← hs,Nat.mul_add]
   simp only [List.length_cons];omega
  ·obtain ⟨k0,k1,m0,m1,he⟩:=hg.two g
   have i0:=tk_size_le (full:=full) n (sub0 e) (isE_eps h _ m0) k0
   have i1:=tk_size_le (full:=full) n (sub1 e) (isE_eps h _ m1) k1
   have p0:=parW_len full (stI (eop (sub0 e))) (lstS (eop e)) (tkC full (sub0 e))
   have p1:=parW_len full (stI (eop (sub1 e))) (stI (eop e) + 1) (tkC full (sub1 e))
   have e2 : nd (n + 1) e = nd n (sub0 e) + nd n (sub1 e) + 1:=by rw [hS,he];simp
   rw [tk_two hg g,e2,Nat.mul_add,Nat.mul_add]
   simp only [List.length_cons,List.length_append];omega
theorem few_facts {n : Nat} {e : D} (h : isE n e) (hf : fewEx n e = true) : nd n e <= 60 /\ isE nodeB e:=by
 unfold fewEx at hf
 simp only [Bool.and_eq_true,decide_eq_true_eq] at hf
 obtain ⟨_,_,h3⟩:=sizeE_nd n e h 60 (by omega) (by omega)
 have h60 : nd n e <= 60:=by have:=h3 hf.1;omega
 refine ⟨h60,isE_le ?_ (isE_nd n e h)⟩
 have : ∀ f,f <= lvB f:=fun f=>by
  induction f with
  | zero=>exact Nat.zero_le _
  | succ f ih=>simp only [lvB];omega
 have:=this 10000
 unfold nodeB;omega
end GP
namespace GP
open Go
theorem W_each {X : Pred} {c : C} {Q : Ex -> S -> Prop} {s : S} (xs : List D) (J : Nat -> S -> Prop) (hX : Mono X) (h0 : J 0 s) (step : ∀ i x s,xs[i]? = some x -> x ∈ xs -> i < xs.length -> J i s -> W X c (seqK (J (i + 1)) Q) s) (fin : ∀ s,J xs.length s -> W X c (seqK (fun _=>False) Q) s) : W X (.loop c) Q s:=by
 refine W_for (fun i s=>i <= xs.length /\ J i s) xs.length ⟨0,Nat.zero_le _,h0⟩ (fun i s h=>h.1) (fun i s h=>?_) hX
 rcases Nat.lt_or_ge i xs.length with hi | hi
 ·refine W_mono hX ?_ (step i xs[i] s (by simp [hi]) (List.getElem_mem hi) hi h.2)
  intro e s' k
  cases e with
  | normal=>exact ⟨hi,k⟩
  | exit j=>exact k
  | ret=>exact k
 ·have : i = xs.length:=by omega
  subst this
  refine W_mono hX ?_ (fin s h.2)
  intro e s' k
  cases e with
  | normal=>exact k.elim
  | exit j=>exact k
  | ret=>exact k
theorem W_all {X : Pred} {c : C} {Q : Ex -> S -> Prop} {s : S} (xs : List D) (p : D -> Bool) (ti : Nat) (R : S -> Prop) (hX : Mono X) (h0 : R s) (h1 : s.t ti = .int .i64 ((0 : Nat) : Int))
  (step : ∀ i x s (b : Bool),xs[i]? = some x -> x ∈ xs -> i < xs.length -> R s -> s.t ti = .int .i64 (i : Int) -> p x = b -> (b = false -> xs.all p = false) -> W X c (seqK (fun s'=>b = true /\ R s' /\ s'.t ti = .int .i64 ((i + 1 : Nat) : Int)) Q) s)
  (fin : ∀ s,R s -> s.t ti = .int .i64 (xs.length : Int) -> xs.all p = true -> W X c (seqK (fun _=>False) Q) s) : W X (.loop c) Q s:=by
 refine W_each xs (fun i s=>R s /\ s.t ti = .int .i64 (i : Int) /\ (xs.take i).all p = true) hX ⟨h0,h1,by simp⟩ (fun i x s hx hm hi hJ=>?_) (fun s hJ=>?_)
 ·obtain ⟨j1,j2,j3⟩:=hJ
  refine W_mono hX ?_ (step i x s (p x) hx hm hi j1 j2 rfl fun hb=>?_)
  ·intro e s' k
   cases e with
   | normal =>
    obtain ⟨k1,k2,k3⟩:=k
    refine ⟨k2,k3,?_⟩
    have e : xs.take (i + 1) = xs.take i ++ [x]:=by
     rw [List.take_add_one,hx];rfl
    rw [e,List.all_append,j3]
    simp [k1]
   | exit j=>exact k
   | ret=>exact k
  ·rw [<- Bool.not_eq_true,List.all_eq_true]
   intro h
   rw [h x hm] at hb;cases hb
 ·obtain ⟨j1,j2,j3⟩:=hJ
  exact fin s j1 j2 (by rwa [List.take_length] at j3)
theorem W_allN {X : Pred} {c : C} {Q : Ex -> S -> Prop} {s : S} (n : Nat) (p : Nat -> Bool) (ti : Nat) (R : S -> Prop) (hX : Mono X) (h0 : R s) (h1 : s.t ti = .int .i64 ((0 : Nat) : Int))
  (step : ∀ i s (b : Bool),i < n -> R s -> s.t ti = .int .i64 (i : Int) -> p i = b -> (b = false -> (List.range n).all p = false) -> W X c (seqK (fun s'=>b = true /\ R s' /\ s'.t ti = .int .i64 ((i + 1 : Nat) : Int)) Q) s)
  (fin : ∀ s,R s -> s.t ti = .int .i64 (n : Int) -> (List.range n).all p = true -> W X c (seqK (fun _=>False) Q) s) : W X (.loop c) Q s:=by
 refine W_for (fun i s=>i <= n /\ R s /\ s.t ti = .int .i64 (i : Int) /\ (List.range i).all p = true) n ⟨0,Nat.zero_le _,h0,h1,by simp⟩ (fun i s h=>h.1) (fun i s h=>?_) hX
 obtain ⟨_,j1,j2,j3⟩:=h
 rcases Nat.lt_or_ge i n with hi | hi
 ·refine W_mono hX ?_ (step i s (p i) hi j1 j2 rfl fun hb=>?_)
  ·intro e s' k
   cases e with
   | normal =>
    obtain ⟨k1,k2,k3⟩:=k
    refine ⟨hi,k2,k3,?_⟩
    rw [List.range_succ,List.all_append,j3]
    simp [k1]
   | exit j=>exact k
   | ret=>exact k
  ·rw [<- Bool.not_eq_true,List.all_eq_true]
   intro h
   rw [h i (by simpa using hi)] at hb;cases hb
 ·have : i = n:=by omega
  subst this
  refine W_mono hX ?_ (fin s j1 j2 j3)
  intro e s' k
  cases e with
  | normal=>exact k.elim
  | exit j=>exact k
  | ret=>exact k
def accT (sz : Nat) (T : Tk) (xs : List D) (d : D) (T' : Tk) : Prop:=ExtT T T' /\ ((xs = [] /\ d = .nils) ∨ ∃ i,T.length <= i /\ d = .sl (some i) xs /\ T'[i]? = some (some (xs.length,sz)))
theorem accT.nil (sz : Nat) (T : Tk) {T' : Tk} (h : ExtT T T') : accT sz T [] .nils T':=⟨h,.inl ⟨rfl,rfl⟩⟩
theorem accT.app {sz : Nat} {T T' : Tk} {xs : List D} {d : D} (h : accT sz T xs d T') (L : Tk) : accT sz T xs d (T' ++ L):=by
 obtain ⟨h1,h2⟩:=h
 refine ⟨h1.app L,?_⟩
 rcases h2 with h2 | ⟨i,h2,h3,h4⟩
 ·exact .inl h2
 ·refine .inr ⟨i,h2,h3,?_⟩
  have : i < T'.length:=by
   rcases Nat.lt_or_ge i T'.length with h | h
   ·exact h
   ·rw [List.getElem?_eq_none h] at h4;cases h4
  rw [List.getElem?_append_left this];exact h4
theorem accT.mk (sz : Nat) (T : Tk) {T' : Tk} (h : ExtT T T') (xs : List D) (L : Tk) : accT sz T xs (.sl (some T'.length) xs) (T' ++ some (xs.length,sz) :: L):=by
 obtain ⟨M,rfl⟩:=h
 refine ⟨⟨M ++ some (xs.length,sz) :: L,by simp⟩,.inr ⟨_,by simp,rfl,by simp⟩⟩
theorem accT.erase {sz : Nat} {T T' : Tk} {xs : List D} {d : D} (h : accT sz T xs d T') (he : D.eraseL xs = xs) (h0 : xs ≠ []) : d.erase = .sl none xs:=by
 rcases h.2 with ⟨rfl,rfl⟩ | ⟨i,_,rfl,_⟩
 ·exact (h0 rfl).elim
 ·simp [D.erase,he]
theorem app_accT {sz bytes : Nat} {K : D -> S -> Prop} {t : Nat -> D} {H : Hp} {T T' : Tk} {xs : List D} {d : D} (ys : List D) (h : accT sz T xs d T') (hy : ys.all (fit sz) = true) (hxs : xs.all (fit sz) = true) (hb : (xs.length + ys.length) * bytes <= 2 ^ 47) (hb2 : xs.length + ys.length < 2 ^ 62)
  (k : ∀ d2 T2,accT sz T (xs ++ ys) d2 T2 -> K d2 ⟨t,H,T2⟩) : appK sz bytes K ⟨t,H,T'⟩ d (some ys):=by
 obtain ⟨h1,h2⟩:=h
 rcases h2 with ⟨rfl,rfl⟩ | ⟨i,hi,rfl,hT⟩
 ·simp only [appK]
  refine ⟨hy,?_⟩
  simp only [List.nil_append,List.length_nil,Nat.zero_add] at k hb hb2
  split
  ·rename_i e;subst e;exact k _ _ (.nil sz T h1)
  ·exact ⟨hb,hb2,k _ _ (.mk sz T h1 ys [])⟩
 ·simp only [appK]
  refine ⟨hy,hT,hb,hb2,hxs,k _ _ ⟨?_,.inr ⟨i,hi,rfl,?_⟩⟩⟩
  ·obtain ⟨L,rfl⟩:=h1
   exact ⟨L.set (i - T.length) (some (xs.length + ys.length,sz)),by rw [List.set_append_right _ _ hi]⟩
  ·have : i < T'.length:=by
    rcases Nat.lt_or_ge i T'.length with h | h
    ·exact h
    ·rw [List.getElem?_eq_none h] at hT;cases hT
   rw [List.getElem?_set_self this];simp
end GP
namespace GP
open Go Go.Proofs
set_option maxRecDepth 100000
def cE (e : D) (i : Nat) : D:=e.cells.getD i .top
theorem ag_isE {n : Nat} {e : D} (h : isE n e) : D.agg [cE e 0,cE e 1,cE e 2,cE e 3,cE e 4,cE e 5,cE e 6,cE e 7] = e:=by
 cases n with
 | zero=>exact h.elim
 | succ n=>obtain ⟨op,k,i,s,nl,l,who,name,m,ps,rfl,_⟩:=h;rfl
def mkR (pm hi : Bool) (nm : List UInt8) (e : D) (m m' : Bool) (du ad : List (List UInt8)) : D:=.agg [.bool pm,.str nm,.bool hi,cE e 0,cE e 1,cE e 2,cE e 3,cE e 4,cE e 5,cE e 6,cE e 7,sliceD m (du.map D.str),sliceD m' (ad.map D.str)]
def short47 (l : List (List UInt8)) : Prop:=l.length <= 2 ^ 47 /\ ∀ s ∈ l,s.length <= 2 ^ 47
def isR (n : Nat) (r : D) : Prop:=∃ pm hi nm e m m' du ad,r = mkR pm hi nm e m m' du ad /\ isE n e /\ nm.length <= 2 ^ 47 /\ short47 du /\ short47 ad
def rPm : D -> Bool
 | .agg (.bool b :: _)=>b
 | _=>false
def rNm : D -> List UInt8
 | .agg (_ :: .str s :: _)=>s
 | _=>[]
def rHi : D -> Bool
 | .agg (_ :: _ :: .bool b :: _)=>b
 | _=>false
def rE : D -> D
 | .agg (_ :: _ :: _ :: a0 :: a1 :: a2 :: a3 :: a4 :: a5 :: a6 :: a7 :: _)=>.agg [a0,a1,a2,a3,a4,a5,a6,a7]
 | _=>.top
def rDu : D -> List (List UInt8)
 | .agg (_ :: _ :: _ :: _ :: _ :: _ :: _ :: _ :: _ :: _ :: _ :: l :: _)=>txs l
 | _=>[]
def rAd : D -> List (List UInt8)
 | .agg (_ :: _ :: _ :: _ :: _ :: _ :: _ :: _ :: _ :: _ :: _ :: _ :: l :: _)=>txs l
 | _=>[]
section
variable (pm hi : Bool) (nm : List UInt8) (e : D) (m m' : Bool) (du ad : List (List UInt8))
theorem rPm_mk : rPm (mkR pm hi nm e m m' du ad) = pm:=id rfl
theorem rNm_mk : rNm (mkR pm hi nm e m m' du ad) = nm:=id rfl
theorem rHi_mk : rHi (mkR pm hi nm e m m' du ad) = hi:=id rfl
theorem rE_mk {n : Nat} (h : isE n e) : rE (mkR pm hi nm e m m' du ad) = e:=ag_isE h
theorem rDu_mk : rDu (mkR pm hi nm e m m' du ad) = du:=by simp only [rDu,mkR,txs_mk]
theorem rAd_mk : rAd (mkR pm hi nm e m m' du ad) = ad:=by simp only [rAd,mkR,txs_mk]
end
theorem eraseE8 {n : Nat} {e : D} (h : isE n e) : (cE e 0).erase = cE e 0 /\ (cE e 1).erase = cE e 1 /\ (cE e 2).erase = cE e 2 /\ (cE e 3).erase = cE e 3 /\ (cE e 4).erase = cE e 4 /\ (cE e 5).erase = cE e 5 /\ (cE e 6).erase = cE e 6 /\ (cE e 7).erase = cE e 7:=by
 have:=isE_erase h
 rw [<- ag_isE h] at this
 simpa only [D.erase,D.eraseL,D.agg.injEq,List.cons.injEq,and_true] using this
theorem sl_str_erase (m : Bool) (l : List (List UInt8)) : (sliceD m (l.map D.str)).erase = sliceD m (l.map D.str):=by rw [erase_sliceD,strs_erase]
theorem isR_erase {n : Nat} {r : D} (h : isR n r) : r.erase = r:=by
 obtain ⟨pm,hi,nm,e,m,m',du,ad,rfl,he,_⟩:=h
 obtain ⟨q0,q1,q2,q3,q4,q5,q6,q7⟩:=eraseE8 he
 simp only [mkR,D.erase,D.eraseL,sl_str_erase,q0,q1,q2,q3,q4,q5,q6,q7]
theorem isR_cells {n : Nat} {r : D} (h : isR n r) : r.cells.length = 13 /\ r.cells.take 13 = r.cells /\ D.agg r.cells = r /\ r.okc = true:=by
 obtain ⟨pm,hi,nm,e,m,m',du,ad,rfl,_⟩:=h
 exact ⟨rfl,rfl,rfl,rfl⟩
def mkP (nm bn us : List UInt8) (hf : Bool) (e : D) (m : Bool) (rs : List D) : D:=.agg [.str nm,.str bn,.str us,.bool hf,cE e 0,cE e 1,cE e 2,cE e 3,cE e 4,cE e 5,cE e 6,cE e 7,sliceD m rs]
def isPo (n : Nat) (p : D) : Prop:=∃ nm bn us hf e m rs,p = mkP nm bn us hf e m rs /\ isE n e /\ nm.length <= 2 ^ 47 /\ bn.length <= 2 ^ 47 /\ us.length <= 2 ^ 47 /\ rs.length <= 2 ^ 47 /\ ∀ x ∈ rs,isR n x
def pNm : D -> List UInt8
 | .agg (.str s :: _)=>s
 | _=>[]
def pBy : D -> List UInt8
 | .agg (_ :: .str s :: _)=>s
 | _=>[]
def pUs : D -> List UInt8
 | .agg (_ :: _ :: .str s :: _)=>s
 | _=>[]
def pHf : D -> Bool
 | .agg (_ :: _ :: _ :: .bool b :: _)=>b
 | _=>false
def pE : D -> D
 | .agg (_ :: _ :: _ :: _ :: a0 :: a1 :: a2 :: a3 :: a4 :: a5 :: a6 :: a7 :: _)=>.agg [a0,a1,a2,a3,a4,a5,a6,a7]
 | _=>.top
def pRs : D -> List D
 | .agg (_ :: _ :: _ :: _ :: _ :: _ :: _ :: _ :: _ :: _ :: _ :: _ :: l :: _)=>elems l
 | _=>[]
section
variable (nm bn us : List UInt8) (hf : Bool) (e : D) (m : Bool) (rs : List D)
theorem pNm_mk : pNm (mkP nm bn us hf e m rs) = nm:=id rfl
theorem pBy_mk : pBy (mkP nm bn us hf e m rs) = bn:=id rfl
theorem pUs_mk : pUs (mkP nm bn us hf e m rs) = us:=id rfl
theorem pHf_mk : pHf (mkP nm bn us hf e m rs) = hf:=id rfl
theorem pE_mk {n : Nat} (h : isE n e) : pE (mkP nm bn us hf e m rs) = e:=ag_isE h
theorem pRs_mk : pRs (mkP nm bn us hf e m rs) = rs:=by simp only [pRs,mkP,elems_sliceD]
end
theorem isPo_erase {n : Nat} {p : D} (h : isPo n p) : p.erase = p:=by
 obtain ⟨nm,bn,us,hf,e,m,rs,rfl,he,_,_,_,_,hr⟩:=h
 obtain ⟨q0,q1,q2,q3,q4,q5,q6,q7⟩:=eraseE8 he
 simp only [mkP,D.erase,D.eraseL,erase_sliceD,eraseL_id fun x hx=>isR_erase (hr x hx),q0,q1,q2,q3,q4,q5,q6,q7]
theorem isPo_cells {n : Nat} {r : D} (h : isPo n r) : r.cells.length = 13 /\ r.cells.take 13 = r.cells /\ D.agg r.cells = r /\ r.okc = true:=by
 obtain ⟨nm,bn,us,hf,e,m,rs,rfl,_⟩:=h
 exact ⟨rfl,rfl,rfl,rfl⟩
def mkDoc (m : Bool) (fs : List D) (us : List UInt8) (m' : Bool) (ps : List D) : D:=.agg [sliceD m fs,.str us,sliceD m' ps]
def isDoc (n : Nat) (d : D) : Prop:=∃ m fs us m' ps,d = mkDoc m fs us m' ps /\ fs.length <= 2 ^ 47 /\ us.length <= 2 ^ 47 /\ ps.length <= 2 ^ 47 /\ (∀ x ∈ fs,isF x) /\ ∀ x ∈ ps,isPo n x
def dFs : D -> List D
 | .agg (l :: _)=>elems l
 | _=>[]
def dUs : D -> List UInt8
 | .agg (_ :: .str s :: _)=>s
 | _=>[]
def dPs : D -> List D
 | .agg (_ :: _ :: l :: _)=>elems l
 | _=>[]
section
variable (m : Bool) (fs : List D) (us : List UInt8) (m' : Bool) (ps : List D)
theorem dFs_mk : dFs (mkDoc m fs us m' ps) = fs:=by simp only [dFs,mkDoc,elems_sliceD]
theorem dUs_mk : dUs (mkDoc m fs us m' ps) = us:=id rfl
theorem dPs_mk : dPs (mkDoc m fs us m' ps) = ps:=by simp only [dPs,mkDoc,elems_sliceD]
end
theorem isDoc_erase {n : Nat} {d : D} (h : isDoc n d) : d.erase = d:=by
 obtain ⟨m,fs,us,m',ps,rfl,_,_,_,hf,hp⟩:=h
 simp only [mkDoc,D.erase,D.eraseL,erase_sliceD,eraseL_id fun x hx=>isF_erase (hf x hx),eraseL_id fun x hx=>isPo_erase (hp x hx)]
theorem isDoc_cells {n : Nat} {r : D} (h : isDoc n r) : r.cells.length = 3 /\ r.cells.take 3 = r.cells /\ D.agg r.cells = r /\ r.okc = true:=by
 obtain ⟨m,fs,us,m',ps,rfl,_⟩:=h
 exact ⟨rfl,rfl,rfl,rfl⟩
def gt (n : Int) (k : Nat) : Bool:=decide (n < (k : Int))
def fewR (n : Nat) (r : D) : Bool:=fewEx n (rE r) && !gt 4 (rDu r).length && !gt 4 (rAd r).length
def fewP (n : Nat) (p : D) : Bool:=!gt 8 (pRs p).length && fewEx n (pE p) && (pRs p).all (fewR n)
def fewD (n : Nat) (d : D) : Bool:=!gt 12 (dFs d).length && !gt 6 (dPs d).length && !gt 200 (dUs d).length && (dPs d).all (fewP n)
open Classical in
noncomputable def φfewD (n : Nat) : List D -> Option D
 | [d]=>if isDoc n d then some (.bool (fewD n d)) else none
 | _=>none
set_option maxHeartbeats 4000000 in
theorem ok28 (n : Nat) : OkAt Tryz.prog 28 (φfewD n):=by
 refine ok_of (l:=[(25,φfewE n)]) (.cons (ok25 n) .nil) fn28 fun args r h=>?_
 have hX:=XL_mono [(25,φfewE n)]
 unfold φfewD at h
 split at h
 ·rename_i d
  split at h
  ·rename_i hd
   injection h with h;subst h
   refine ⟨by simp,by simp [D.cl],fun H T=>?_⟩
   have ed:=isDoc_erase hd
   obtain ⟨m,fs,us,m',ps,rfl,h1,h2,h3,h4,h5⟩:=hd
   simp only [mkDoc] at ed
   simp only [fewD,dFs_mk,dUs_mk,dPs_mk,gt]
   rcases tf (decide ((12 : Int) < fs.length)) with g1 | g1
   ·rw [g1];simp +contextual (maxSteps:=10000000) only [c28,mkDoc,ed,g1,go_sem]
   rcases tf (decide ((6 : Int) < ps.length)) with g2 | g2
   ·rw [g1,g2];simp +contextual (maxSteps:=10000000) only [c28,mkDoc,ed,g1,g2,go_sem]
   rcases tf (decide ((200 : Int) < us.length)) with g3 | g3
   ·rw [g1,g2,g3];simp +contextual (maxSteps:=10000000) only [c28,mkDoc,ed,g1,g2,g3,go_sem]
   rw [g1,g2,g3]
   simp only [Bool.not_false,Bool.true_and]
   simp +contextual (maxSteps:=10000000) only [c28,mkDoc,ed,g1,g2,g3,go_sem]
   refine W_all ps (fewP n) 3 (fun s=>s.t 1 = .ptr H.length 0 /\ Ext (H ++ [.row [sliceD m fs,.str us,sliceD m' ps]]) s.H /\ s.T = T) hX ⟨by simp [upd],Ext.refl _,rfl⟩ (by simp [upd]) ?_ ?_
   ·rintro i x ⟨t,B,T'⟩ b hx hm hi ⟨r1,hB,rfl⟩ r3 hb hno
    simp only at r1 r3 hB
    have d1 : decide ((i : Int) < ps.length) = true:=by simpa using hi
    obtain ⟨q1,q2,q3,q4⟩:=isPo_cells (h5 x hm)
    have ex:=isPo_erase (h5 x hm)
    obtain ⟨nm,bn,us',hf,e,mm,rs,rfl,he,k1,k2,k3,k4,k5⟩:=h5 x hm
    have hE:=ag_isE he
    have ee:=isE_erase he
    have pe : φfewE n [e] = some (.bool (fewEx n e)):=by simp only [φfewE];rw [if_pos he]
    simp only [fewP,pRs_mk,pE_mk _ _ _ _ _ _ _ he,gt] at hb
    have hg:=hB.get (o:=H.length) (by simp;rfl)
    rcases tf (decide ((8 : Int) < rs.length)) with g4 | g4
    ·rw [g4] at hb
     simp only [Bool.not_true,Bool.false_and] at hb;subst hb
     have hno:=hno rfl
     simp +contextual (maxSteps:=10000000) only [r1,r3,rdAt_E hg,rdAt_Ea hg,d1,hx,mkP,g4,hno,leaves_Ea hB (ExtT.refl _),leaves_Ea hB.pre (ExtT.refl _),go_sem]
    rw [g4] at hb
    simp only [Bool.not_false,Bool.true_and] at hb
    rcases tf (fewEx n e) with g5 | g5
    ·rw [g5] at hb pe
     simp only [Bool.true_and] at hb
     simp +contextual (maxSteps:=10000000) only [r1,r3,rdAt_E hg,rdAt_Ea hg,d1,hx,mkP,g4,hE,ee,pe,go_sem]
     refine W_all rs (fewR n) 5 (fun s=>s.t 1 = .ptr H.length 0 /\ s.t 3 = .int .i64 (i : Int) /\ s.t 4 = .ptr B.length 0 /\ Ext (B ++ [.row (mkP nm bn us' hf e mm rs).cells]) s.H /\ s.T = T') hX ⟨by simp [upd,r1],by simp [upd,r3],by simp [upd],Ext.refl _,rfl⟩ (by simp [upd]) ?_ ?_
     ·rintro i' x' ⟨t',B',T''⟩ b' hx' hm' hi' ⟨s1,s3,s4,hB',rfl⟩ s5 hb' hno'
      simp only at s1 s3 s4 s5 hB'
      have d2 : decide ((i' : Int) < rs.length) = true:=by simpa using hi'
      obtain ⟨pm,hi'',nm',e',ma,mb,du,ad,rfl,he',l1,l2,l3⟩:=k5 x' hm'
      have hE':=ag_isE he'
      have ee':=isE_erase he'
      have pe' : φfewE n [e'] = some (.bool (fewEx n e')):=by simp only [φfewE];rw [if_pos he']
      simp only [fewR,rE_mk _ _ _ _ _ _ _ _ he',rDu_mk,rAd_mk,gt] at hb'
      have hg':=hB'.get (o:=B.length) (by simp;rfl)
      simp only [mkP,D.cells] at hg'
      have hno2 : b' = false -> ps.all (fewP n) = false:=fun h=>hno (by rw [<- hb,hno' h])
      have hB2 : Ext H B':=(hB.pre.trans hB'.pre)
      subst hb'
      rcases tf (fewEx n e') with g6 | g6
      ·rw [g6] at pe' hno2
       rcases tf (decide ((4 : Int) < du.length)) with g7 | g7
       ·have hno2:=hno2 (by rw [g7];rfl)
        simp +contextual (maxSteps:=10000000) only [s1,s3,s4,s5,rdAt_E hg',rdAt_Ea hg',d2,hx',mkR,hE',ee',pe',List.length_map,g7,hno2,leaves_Ea hB2 (ExtT.refl _),go_sem]
       rcases tf (decide ((4 : Int) < ad.length)) with g8 | g8
       ·have hno2:=hno2 (by rw [g7,g8];rfl)
        simp +contextual (maxSteps:=10000000) only [s1,s3,s4,s5,rdAt_E hg',rdAt_Ea hg',d2,hx',mkR,hE',ee',pe',List.length_map,g7,g8,hno2,leaves_Ea hB2 (ExtT.refl _),go_sem]
       ·simp +contextual (maxSteps:=10000000) only [s1,s3,s4,s5,rdAt_E hg',rdAt_Ea hg',d2,hx',mkR,hE',ee',pe',List.length_map,g6,g7,g8,wrap_succ i' (by omega),go_sem]
        exact hB'.app _
      ·rw [g6] at pe' hno2
       have hno2:=hno2 rfl
       simp +contextual (maxSteps:=10000000) only [s1,s3,s4,s5,rdAt_E hg',rdAt_Ea hg',d2,hx',mkR,hE',ee',pe',hno2,leaves_Ea hB2 (ExtT.refl _),go_sem]
     ·rintro ⟨t',B',T''⟩ ⟨s1,s3,s4,hB',rfl⟩ s5 hall
      simp only at s1 s3 s4 s5 hB'
      have d2 : decide ((rs.length : Int) < rs.length) = false:=by simp
      have hg':=hB'.get (o:=B.length) (by simp;rfl)
      simp only [mkP,D.cells] at hg'
      rw [hall] at hb
      simp +contextual (maxSteps:=10000000) only [s1,s3,s4,s5,rdAt_E hg',d2,wrap_succ i (by omega),hb.symm,go_sem]
      exact (hB.app _).trans hB'
    ·rw [g5] at hb pe
     simp only [Bool.false_and] at hb;subst hb
     have hno:=hno rfl
     simp +contextual (maxSteps:=10000000) only [r1,r3,rdAt_E hg,rdAt_Ea hg,d1,hx,mkP,g4,hE,ee,pe,hno,leaves_Ea hB.pre (ExtT.refl _),go_sem]
   ·rintro ⟨t,B,T'⟩ ⟨r1,hB,rfl⟩ r3 hall
    simp only at r1 r3 hB
    have d1 : decide ((ps.length : Int) < ps.length) = false:=by simp
    have hg:=hB.get (o:=H.length) (by simp;rfl)
    rw [hall]
    simp +contextual (maxSteps:=10000000) only [r1,r3,rdAt_E hg,d1,leaves_E hB.pre (ExtT.refl _),go_sem]
  ·cases h
 ·cases h
end GP
namespace GP
open Go Go.Proofs
set_option maxRecDepth 100000
def okF (f : D) : Bool:=inB whoW (fwho f) && (nameB (fname f) && (!(decide (fkind f < 1)) && !(decide (4 < fkind f))))
noncomputable def okR (r : D) : Bool:=nameB (rNm r) && (optB (rHi r) (rE r) && ((rDu r).all txtB && (rAd r).all txtB))
noncomputable def okP (p : D) : Bool:=nameB (pNm p) && (nameB (pBy p) && (formI 1 (pUs p) 0 && (optB (pHf p) (pE p) && (pRs p).all okR)))
noncomputable def okD (d : D) : Bool:=formI 1 (dUs d) 0 && ((dFs d).all okF && (dPs d).all okP)
open Classical in
noncomputable def φokD : List D -> Option D
 | [d]=>if isDoc nodeB d then some (.bool (okD d)) else none
 | _=>none
noncomputable abbrev xs29 : Fs:=[(57,φform),(59,φtk1 1),(55,φwho),(56,φnm),(66,φopt),(67,φtexts)]
theorem txs_isTxs {m : Bool} {l : List (List UInt8)} (h : short47 l) : isTxs (sliceD m (l.map D.str)):=⟨m,l,rfl,h.1,h.2⟩
theorem texts_at {m : Bool} {l : List (List UInt8)} (h : short47 l) : φtexts [sliceD m (l.map D.str)] = some (.bool (l.all txtB)):=by
 simp only [φtexts];rw [if_pos (txs_isTxs h),txs_mk]
theorem opt_at {b : Bool} {e : D} (h : isE nodeB e) : φopt [.bool b,e] = some (.bool (optB b e)):=by
 simp only [φopt];rw [if_pos h]
theorem form_at {k : Int} {s : List UInt8} (h : s.length <= 2 ^ 47) : φform [.agg [.int .i64 k,.str s,.int .i64 0]] = some (.bool (formI k s 0)):=by
 simp only [φform];rw [if_pos (by omega)]
theorem nm_at {s : List UInt8} (h : s.length <= 2 ^ 47) : φnm [.str s] = some (.bool (nameB s)):=by
 simp only [φnm];rw [if_pos (by omega)]
theorem who_at (s : List UInt8) : φwho [.str s] = some (.bool (inB whoW s)):=rfl
set_option maxHeartbeats 8000000 in
theorem ok29 : OkAt Tryz.prog 29 φokD:=by
 refine ok_of (l:=xs29) (.cons ok57 (.cons ok59 (.cons ok55 (.cons ok56 (.cons ok66 (.cons ok67 .nil)))))) fn29 fun args r h=>?_
 have hX:=XL_mono xs29
 unfold φokD at h
 split at h
 ·rename_i d
  split at h
  ·rename_i hd
   injection h with h;subst h
   refine ⟨by simp,by simp [D.cl],fun H T=>?_⟩
   have ed:=isDoc_erase hd
   obtain ⟨m,fs,us,m',ps,rfl,h1,h2,h3,h4,h5⟩:=hd
   simp only [mkDoc] at ed
   simp only [okD,dFs_mk,dUs_mk,dPs_mk]
   have pu:=form_at (k:=1) h2
   obtain ⟨ub,hub⟩ : ∃ z,formI 1 us 0 = z:=⟨_,rfl⟩
   rw [hub] at pu ⊢
   cases ub with
   | false=>simp +contextual (maxSteps:=10000000) only [c29,mkDoc,ed,φtk1,mkT,pu,go_sem]
   | true =>
   simp only [Bool.true_and]
   simp +contextual (maxSteps:=10000000) only [c29,mkDoc,ed,φtk1,mkT,pu,go_sem]
   refine W_all fs okF 3 (fun s=>s.t 1 = .ptr H.length 0 /\ Ext (H ++ [.row [sliceD m fs,.str us,sliceD m' ps]]) s.H /\ s.T = T) hX ⟨by simp [upd],Ext.refl _,rfl⟩ (by simp [upd]) ?_ ?_
   ·rintro i x ⟨t,B,T'⟩ b hx hm hi ⟨r1,hB,rfl⟩ r3 hb hno
    simp only at r1 r3 hB
    have d1 : decide ((i : Int) < fs.length) = true:=by simpa using hi
    obtain ⟨w,n,k,bg,rfl,k1,k2,k3,k4⟩:=h4 x hm
    have hg:=hB.get (o:=H.length) (by simp;rfl)
    have pw:=who_at w
    have pn:=nm_at k2
    have hb : (inB whoW w && (nameB n && (!(decide (k < 1)) && !(decide (4 < k))))) = b:=hb
    have hno2 : b = false -> (fs.all okF && ps.all okP) = false:=fun h=>by rw [hno h];rfl
    obtain ⟨wb,hwb⟩ : ∃ z,inB whoW w = z:=⟨_,rfl⟩
    obtain ⟨nb,hnb⟩ : ∃ z,nameB n = z:=⟨_,rfl⟩
    rw [hwb] at pw hb
    rw [hnb] at pn hb
    subst hb
    cases wb with
    | false =>
     have hno2:=hno2 rfl
     simp +contextual (maxSteps:=10000000) only [r1,r3,rdAt_E hg,rdAt_Ea hg,d1,hx,mkF,pw,hno2,leaves_Ea hB.pre (ExtT.refl _),go_sem]
    | true =>
    cases nb with
    | false =>
     have hno2:=hno2 rfl
     simp +contextual (maxSteps:=10000000) only [r1,r3,rdAt_E hg,rdAt_Ea hg,d1,hx,mkF,pw,pn,hno2,leaves_Ea hB.pre (ExtT.refl _),go_sem]
    | true =>
    rcases tf (decide (k < 1)) with g1 | g1
    ·have hno2:=hno2 (by rw [g1];rfl)
     simp +contextual (maxSteps:=10000000) only [r1,r3,rdAt_E hg,rdAt_Ea hg,d1,hx,mkF,pw,pn,g1,hno2,leaves_Ea hB.pre (ExtT.refl _),go_sem]
    rcases tf (decide (4 < k)) with g2 | g2
    ·have hno2:=hno2 (by rw [g1,g2];rfl)
     simp +contextual (maxSteps:=10000000) only [r1,r3,rdAt_E hg,rdAt_Ea hg,d1,hx,mkF,pw,pn,g1,g2,hno2,leaves_Ea hB.pre (ExtT.refl _),go_sem]
    ·simp +contextual (maxSteps:=10000000) only [r1,r3,rdAt_E hg,rdAt_Ea hg,d1,hx,mkF,pw,pn,g1,g2,wrap_succ i (by omega),go_sem]
     exact hB.app _
   ·rintro ⟨t,B,T'⟩ ⟨r1,hB,rfl⟩ r3 hall
    simp only at r1 r3 hB
    have d1 : decide ((fs.length : Int) < fs.length) = false:=by simp
    have hg:=hB.get (o:=H.length) (by simp;rfl)
    rw [hall]
    simp only [Bool.true_and]
    simp +contextual (maxSteps:=10000000) only [r1,r3,rdAt_E hg,d1,go_sem]
    clear r3
    refine W_all ps okP 5 (fun s=>s.t 1 = .ptr H.length 0 /\ Ext (H ++ [.row [sliceD m fs,.str us,sliceD m' ps]]) s.H /\ s.T = T') hX ⟨by simp [upd,r1],hB,rfl⟩ (by simp [upd]) ?_ ?_
    ·clear r1 hB hg d1
     rintro i x ⟨t,B,T'⟩ b hx hm hi ⟨r1,hB,rfl⟩ r3 hb hno
     simp only at r1 r3 hB
     have d1 : decide ((i : Int) < ps.length) = true:=by simpa using hi
     obtain ⟨nm,bn,us',hf,e,mm,rs,rfl,he,k1,k2,k3,k4,k5⟩:=h5 x hm
     have hE:=ag_isE he
     have ee:=isE_erase he
     have hg:=hB.get (o:=H.length) (by simp;rfl)
     have p1:=nm_at k1
     have p2:=nm_at k2
     have p3:=form_at (k:=1) k3
     have p4:=opt_at (b:=hf) he
     simp only [okP,pNm_mk,pBy_mk,pUs_mk,pHf_mk,pRs_mk,pE_mk _ _ _ _ _ _ _ he] at hb
     obtain ⟨b1,hb1⟩ : ∃ z,nameB nm = z:=⟨_,rfl⟩
     obtain ⟨b2,hb2⟩ : ∃ z,nameB bn = z:=⟨_,rfl⟩
     obtain ⟨b3,hb3⟩ : ∃ z,formI 1 us' 0 = z:=⟨_,rfl⟩
     obtain ⟨b4,hb4⟩ : ∃ z,optB hf e = z:=⟨_,rfl⟩
     rw [hb1] at p1 hb
     rw [hb2] at p2 hb
     rw [hb3] at p3 hb
     rw [hb4] at p4 hb
     cases b1 with
     | false =>
      have hno:=hno hb.symm
      simp +contextual (maxSteps:=10000000) only [r1,r3,rdAt_E hg,rdAt_Ea hg,d1,hx,mkP,p1,hno,leaves_Ea hB.pre (ExtT.refl _),go_sem]
     | true =>
     cases b2 with
     | false =>
      have hno:=hno hb.symm
      simp +contextual (maxSteps:=10000000) only [r1,r3,rdAt_E hg,rdAt_Ea hg,d1,hx,mkP,p1,p2,hno,leaves_Ea hB.pre (ExtT.refl _),go_sem]
     | true =>
     cases b3 with
     | false =>
      have hno:=hno hb.symm
      simp +contextual (maxSteps:=10000000) only [r1,r3,rdAt_E hg,rdAt_Ea hg,d1,hx,mkP,p1,p2,φtk1,mkT,p3,hno,leaves_Ea hB.pre (ExtT.refl _),go_sem]
     | true =>
     cases b4 with
     | false =>
      have hno:=hno hb.symm
      simp +contextual (maxSteps:=10000000) only [r1,r3,rdAt_E hg,rdAt_Ea hg,d1,hx,mkP,p1,p2,φtk1,mkT,p3,hE,ee,p4,hno,leaves_Ea hB.pre (ExtT.refl _),go_sem]
     | true =>
     simp only [Bool.true_and] at hb
     simp +contextual (maxSteps:=10000000) only [r1,r3,rdAt_E hg,rdAt_Ea hg,d1,hx,mkP,p1,p2,φtk1,mkT,p3,hE,ee,p4,go_sem]
     refine W_all rs okR 7 (fun s=>s.t 1 = .ptr H.length 0 /\ s.t 5 = .int .i64 (i : Int) /\ s.t 6 = .ptr B.length 0 /\ Ext (B ++ [.row (mkP nm bn us' hf e mm rs).cells]) s.H /\ s.T = T') hX ⟨by simp [upd,r1],by simp [upd,r3],by simp [upd],Ext.refl _,rfl⟩ (by simp [upd]) ?_ ?_
     ·clear p1 p2 p3 p4
      rintro i' x' ⟨t',B',T''⟩ b' hx' hm' hi' ⟨s1,s3,s4,hB',rfl⟩ s5 hb' hno'
      simp only at s1 s3 s4 s5 hB'
      have d2 : decide ((i' : Int) < rs.length) = true:=by simpa using hi'
      obtain ⟨pm,hi'',nm',e',ma,mb,du,ad,rfl,he',l1,l2,l3⟩:=k5 x' hm'
      have hE':=ag_isE he'
      have ee':=isE_erase he'
      have p1:=nm_at l1
      have p2:=opt_at (b:=hi'') he'
      have p3:=texts_at (m:=ma) l2
      have p4:=texts_at (m:=mb) l3
      simp only [okR,rNm_mk,rHi_mk,rE_mk _ _ _ _ _ _ _ _ he',rDu_mk,rAd_mk] at hb'
      have hg':=hB'.get (o:=B.length) (by simp;rfl)
      simp only [mkP,D.cells] at hg'
      have hno2 : b' = false -> ps.all okP = false:=fun h=>hno (by rw [<- hb,hno' h])
      have hB2 : Ext H B':=(hB.pre.trans hB'.pre)
      have eu:=sl_str_erase ma du
      have ea:=sl_str_erase mb ad
      obtain ⟨b1,hb1⟩ : ∃ z,nameB nm' = z:=⟨_,rfl⟩
      obtain ⟨b2,hb2⟩ : ∃ z,optB hi'' e' = z:=⟨_,rfl⟩
      obtain ⟨b3,hb3⟩ : ∃ z,du.all txtB = z:=⟨_,rfl⟩
      obtain ⟨b4,hb4⟩ : ∃ z,ad.all txtB = z:=⟨_,rfl⟩
      rw [hb1] at p1 hb'
      rw [hb2] at p2 hb'
      rw [hb3] at p3 hb'
      rw [hb4] at p4 hb'
      subst hb'
      obtain ⟨DU,hDU⟩ : ∃ z,sliceD ma (du.map D.str) = z:=⟨_,rfl⟩
      obtain ⟨AD,hAD⟩ : ∃ z,sliceD mb (ad.map D.str) = z:=⟨_,rfl⟩
      simp only [mkR,hDU,hAD] at hx' p3 p4 eu ea
      cases b1 with
      | false =>
       have hno2:=hno2 rfl
       simp +contextual (maxSteps:=10000000) only [s1,s3,s4,s5,rdAt_E hg',rdAt_Ea hg',d2,hx',p1,hno2,leaves_Ea hB2 (ExtT.refl _),go_sem]
      | true =>
      cases b2 with
      | false =>
       have hno2:=hno2 rfl
       simp +contextual (maxSteps:=10000000) only [s1,s3,s4,s5,rdAt_E hg',rdAt_Ea hg',d2,hx',p1,hE',ee',p2,hno2,leaves_Ea hB2 (ExtT.refl _),go_sem]
      | true =>
      cases b3 with
      | false =>
       have hno2:=hno2 rfl
       simp +contextual (maxSteps:=10000000) only [s1,s3,s4,s5,rdAt_E hg',rdAt_Ea hg',d2,hx',p1,hE',ee',p2,eu,p3,hno2,leaves_Ea hB2 (ExtT.refl _),go_sem]
      | true =>
      cases b4 with
      | false =>
       have hno2:=hno2 rfl
       simp +contextual (maxSteps:=10000000) only [s1,s3,s4,s5,rdAt_E hg',rdAt_Ea hg',d2,hx',p1,hE',ee',p2,eu,ea,p3,p4,hno2,leaves_Ea hB2 (ExtT.refl _),go_sem]
      | true =>
       simp +contextual (maxSteps:=10000000) only [s1,s3,s4,s5,rdAt_E hg',rdAt_Ea hg',d2,hx',p1,hE',ee',p2,eu,ea,p3,p4,wrap_succ i' (by omega),go_sem]
       exact hB'.app _
     ·rintro ⟨t',B',T''⟩ ⟨s1,s3,s4,hB',rfl⟩ s5 hall
      simp only at s1 s3 s4 s5 hB'
      have d2 : decide ((rs.length : Int) < rs.length) = false:=by simp
      have hg':=hB'.get (o:=B.length) (by simp;rfl)
      simp only [mkP,D.cells] at hg'
      rw [hall] at hb
      simp +contextual (maxSteps:=10000000) only [s1,s3,s4,s5,rdAt_E hg',d2,wrap_succ i (by omega),hb.symm,go_sem]
      exact (hB.app _).trans hB'
    ·rintro ⟨t,B,T'⟩ ⟨r1,hB,rfl⟩ r3 hall
     simp only at r1 r3 hB
     have d1 : decide ((ps.length : Int) < ps.length) = false:=by simp
     have hg:=hB.get (o:=H.length) (by simp;rfl)
     rw [hall]
     simp +contextual (maxSteps:=10000000) only [r1,r3,rdAt_E hg,d1,leaves_E hB.pre (ExtT.refl _),go_sem]
  ·cases h
 ·cases h
end GP
