import Derived.Test.YtainhmbnbgonhaaGreatDoorM5
import Derived.Test.YtainhmbnbgonhaaGreatDoorM6
set_option linter.unusedSimpArgs false
set_option linter.unnecessarySimpa false
namespace GP
open Go Go.Proofs
set_option maxRecDepth 100000
theorem isV_agg {xs : List D} (h : ∀ x ∈ xs,x.isV = true) : isAg 4 xs:=fun x hx=>by
 obtain ⟨k,i,s,n,l,rfl,_⟩:=isV_elim (h x hx)
 exact ⟨_,rfl,rfl⟩
theorem clone_snd [HasG Tryz.prog] {xs : List D} {H : Hp} {T : Tk} {Q : Post} (hx : ∀ x ∈ xs,x.isV = true) (hne : xs ≠ []) (hl : xs.length <= 2 ^ 40) (k : Q (.ms true 4 (H.length + 1) 0 xs.length xs.length) (H ++ [.dead,.row (flatD xs)]) T) : Snd Tryz.prog 247 [.sl none xs] H T Q:=by
 refine call_of fn247 (by simp) (W_mono (X:=XL []) (Ok.X .nil) (fun _ _ h=>h) ?_)
 have hf:=(isV_agg hx).fit
 cases xs with
 | nil=>exact absurd rfl hne
 | cons x r =>
  have e1 : Option.map (fun b=>D.bool b) (eq1D Tq.slc (D.sl none (x :: r)) D.nils) = some (.bool false):=rfl
  simp +contextual (maxSteps:=10000000) only [c247,e1,go_sem]
  have ho : (H ++ [Ob.row (flatD [])])[H.length]? = some (.row []):=by simp [flatD]
  have hl' : ¬ (x :: r).length = 0:=by simp
  simp only [appmK,ho]
  refine ⟨hf,trivial,?_⟩
  rw [if_neg (by simp)]
  refine ⟨by simp,by simp,by simp at hl ⊢;omega,by simp at hl ⊢;omega,?_⟩
  simp +contextual (maxSteps:=10000000) only [go_sem]
  have e : List.set (H ++ [Ob.row (flatD [])]) H.length Ob.dead ++ [Ob.row (flatD (x :: r))] = H ++ [.dead,.row (flatD (x :: r))]:=by simp [List.set_append]
  rw [e]
  exact k
theorem set_same {H : Hp} {o : Nat} {x : Ob} (h : H[o]? = some x) : H.set o x = H:=by
 apply List.ext_getElem?
 intro i
 rw [List.getElem?_set]
 split
 ·rename_i e;subst e
  have : o < H.length:=by
   rcases Nat.lt_or_ge o H.length with h' | h'
   ·exact h'
   ·rw [List.getElem?_eq_none h'] at h;cases h
  rw [if_pos this,h]
 ·rfl
def cmpA (p : D) : List D -> List D
 | []=>[]
 | y :: r=>if ord0 y p == 0 then cmpA y r else y :: cmpA y r
def cmpC : List D -> List D
 | []=>[]
 | x :: r=>x :: cmpA x r
theorem cmpA_snoc (y : D) : ∀ (l : List D) (p : D),cmpA p (l ++ [y]) = if ord0 y ((p :: l).getLast (by simp)) == 0 then cmpA p l else cmpA p l ++ [y]
 | [],p=>by simp [cmpA]
 | x :: l,p=>by
  simp only [List.cons_append,cmpA,cmpA_snoc y l x,List.getLast_cons_cons]
  split <;> split <;> simp_all
theorem cmpC_take {ys : List D} {j : Nat} (h0 : 0 < j) (hj : j < ys.length) {y p : D} (hy : ys[j]? = some y) (hp : ys[j - 1]? = some p) :
  cmpC (ys.take (j + 1)) = if ord0 y p == 0 then cmpC (ys.take j) else cmpC (ys.take j) ++ [y]:=by
 cases ys with
 | nil=>simp at hj
 | cons x r =>
  obtain ⟨m,rfl⟩ : ∃ m,j = m + 1:=⟨j - 1,by omega⟩
  simp only [List.length_cons] at hj
  have hm : m < r.length:=by omega
  have ey : r[m] = y:=by simpa [hm] using hy
  have e1 : r.take (m + 1) = r.take m ++ [y]:=by rw [List.take_add_one,List.getElem?_eq_getElem hm,ey];rfl
  have e2 : (x :: r.take m).getLast (by simp) = p:=by
   have : (x :: r).take (m + 1) = x :: r.take m:=rfl
   rw [List.getLast_eq_getElem]
   have hp' : (x :: r)[m]? = some p:=by simpa using hp
   have : (x :: r.take m)[m]? = some p:=by
    rw [<- hp',← List.take_succ_cons,List.getElem?_take_of_lt (by omega)]
   have hl : (x :: r.take m).length - 1 = m:=by simp;omega
   rw [List.getElem?_eq_getElem (by simp;omega)] at this
   simp only [hl]
   injection this
  simp only [List.take_succ_cons,cmpC]
  rw [e1,cmpA_snoc,e2]
  split <;> simp
theorem cmpC_step {ys : List D} {j : Nat} (h0 : 0 < j) (hj : j < ys.length) {y p : D} (hy : ys[j]? = some y) (hp : ys[j - 1]? = some p) {S : List D} {i : Nat} (hS : S.length = ys.length) (h1 : S.take i = cmpC (ys.take j)) (h2 : S.drop i = ys.drop i) (hi : (cmpC (ys.take j)).length = i) (hij : i < j)
  (hne : (ord0 y p == 0) = false) : (S.set i y).length = ys.length /\ (S.set i y).take (i + 1) = cmpC (ys.take (j + 1)) /\ (S.set i y).drop (i + 1) = ys.drop (i + 1) /\ (cmpC (ys.take (j + 1))).length = i + 1:=by
 have e:=cmpC_take h0 hj hy hp
 rw [hne] at e
 simp only [Bool.false_eq_true,if_false] at e
 refine ⟨by simp [hS],?_,?_,by rw [e];simp [hi]⟩
 ·rw [e,← h1,List.take_add_one,List.take_set_of_le (Nat.le_refl _),List.getElem?_set_self (by omega)];rfl
 ·rw [List.drop_set_of_lt (by omega),← List.drop_drop,h2,List.drop_drop]
theorem compact_snd [HasG Tryz.prog] {ys rest : List D} {H : Hp} {o cap : Nat} {T : Tk} {Q : Post} (ho : H[o]? = some (.row (flatD ys ++ rest))) (hy : ∀ y ∈ ys,y.isV = true /\ leaf y = true) (hl : ys.length <= 2 ^ 40) (hcap : ys.length <= cap)
  (k : ∀ rest',Q (.ms true 4 o 0 (cmpC ys).length cap) (H.set o (.row (flatD (cmpC ys) ++ rest'))) T) : Snd Tryz.prog 249 [.ms true 4 o 0 ys.length cap,.fn 250 [] []] H T Q:=by
 refine call_of fn249 (by simp) (W_mono (X:=XL [(250,φeqv)]) (Ok.X (.cons ok250 .nil)) (fun _ _ h=>h) ?_)
 have hv : ∀ y ∈ ys,y.isV = true:=fun y h=>(hy y h).1
 have hag:=isV_agg hv
 rcases tf (decide ((ys.length : Int) < 2)) with g | g
 ·have hC : cmpC ys = ys:=by
   simp only [decide_eq_true_eq] at g
   match ys,g with
   | [],_=>rfl
   | [x],_=>rfl
   | x :: y :: r,g=>simp at g;omega
  have k0:=k rest
  rw [hC,set_same ho] at k0
  simp +contextual (maxSteps:=10000000) only [c249,g,go_sem]
  exact k0
 ·simp only [decide_eq_false_iff_not] at g
  have hd : decide ((ys.length : Int) < 2) = false:=by simp only [decide_eq_false_iff_not];omega
  simp +contextual (maxSteps:=10000000) only [c249,hd,go_sem]
  refine W_for (fun i s'=>s'.t 0 = .ms true 4 o 0 ys.length cap /\ s'.t 1 = .fn 250 [] [] /\ s'.t 5 = .int .i64 ((i + 1 : Nat) : Int) /\ s'.H = H /\ s'.T = T /\ i + 1 <= ys.length /\ cmpC (ys.take (i + 1)) = ys.take (i + 1)) ys.length
   ⟨0,by simp [upd,argT],by simp [upd,argT],by simp [upd,argT],rfl,rfl,by omega,?_⟩ (fun i s h=>by have:=h.2.2.2.2.2.1;omega) ?_ (XL_mono _)
  ·cases ys with
   | nil=>rfl
   | cons x r=>rfl
  rintro i ⟨t,B,T'⟩ ⟨r0,r1,r5,rfl,rfl,hi,hC⟩
  simp only at r0 r1 r5 ho k
  by_cases hlt : i + 1 < ys.length
  ·have d1 : decide (((i + 1 : Nat) : Int) < ys.length) = true:=by simp only [decide_eq_true_eq];omega
   have ex : ys[i + 1]? = some ys[i + 1]:=by simp [hlt]
   have ep : ys[i]? = some ys[i]:=by rw [List.getElem?_eq_getElem (by omega)]
   obtain ⟨x,hx⟩ : ∃ x,ys[i + 1] = x:=⟨_,rfl⟩
   obtain ⟨p,hp⟩ : ∃ p,ys[i] = p:=⟨_,rfl⟩
   rw [hx] at ex;rw [hp] at ep
   have l1:=rd_ms (off:=(i + 1) * 4) ho hag ex (by omega)
   have l2:=rd_ms (off:=i * 4) ho hag ep (by omega)
   have i1:=ia_msN (ag:=true) (sz:=4) (o:=o) (off:=0) (cap:=cap) (k:=.i64) hlt
   have i2:=ia_msN (ag:=true) (sz:=4) (o:=o) (off:=0) (cap:=cap) (k:=.i64) (show i < ys.length by omega)
   have hxv:=hy x (List.mem_of_getElem? ex)
   have hpv:=hy p (List.mem_of_getElem? ep)
   have hc : φeqv [x,p] = some (.bool (ord0 x p == 0)):=by simp only [φeqv];rw [if_pos ⟨hxv.1,hpv.1,hxv.2,hpv.2⟩]
   have w1 : IntKind.i64.wrap (((i + 1 : Nat) : Int) - 1) = (i : Nat):=by rw [show ((i + 1 : Nat) : Int) - 1 = (i : Nat) by omega];exact wrap_of _ (by omega) (by omega)
   have w2 : IntKind.i64.wrap (((i + 1 : Nat) : Int) + 1) = ((i + 1 + 1 : Nat) : Int):=by rw [show ((i + 1 : Nat) : Int) + 1 = ((i + 1 + 1 : Nat) : Int) by omega];exact wrap_of _ (by omega) (by omega)
   have er : D.eraseL [x,p] = [x,p]:=by
    obtain ⟨k1,j1,s1,n1,m1,rfl,_,_,hV1⟩:=isV_elim hxv.1
    obtain ⟨k2,j2,s2,n2,m2,rfl,_,_,hV2⟩:=isV_elim hpv.1
    exact erase_of_isV (by simp [hxv.1,hpv.1])
   have hstep:=cmpC_take (ys:=ys) (j:=i + 1) (by omega) hlt ex (by simpa using ep)
   rcases tf (ord0 x p == 0) with g0 | g0
   ·rw [g0] at hc hstep
    simp only [if_true] at hstep
    have s1:=slc_msN (ag:=true) (sz:=4) (o:=o) (off:=0) (n:=ys.length) (cap:=cap) (l:=i + 1) (h:=ys.length) (by omega) (Nat.le_refl _) (by omega)
    rw [Nat.zero_add] at s1
    simp +contextual (maxSteps:=10000000) only [r0,r1,r5,d1,w1,l1,l2,i1,i2,hc,er,s1,go_sem]
    refine W_for (fun m s'=>∃ S q,s'.t 0 = .ms true 4 o 0 ys.length cap /\ s'.t 1 = .fn 250 [] [] /\ s'.t 5 = .int .i64 ((q : Nat) : Int) /\ s'.t 6 = .ms true 4 o ((i + 1) * 4) (ys.length - (i + 1)) (cap - (i + 1)) /\ s'.t 7 = .int .i64 ((m + 1 : Nat) : Int) /\ s'.H = B.set o (.row (flatD S ++ rest)) /\ s'.T = T' ∧
      S.length = ys.length /\ S.take q = cmpC (ys.take (i + 1 + m + 1)) /\ S.drop q = ys.drop q /\ (cmpC (ys.take (i + 1 + m + 1))).length = q /\ q < i + 1 + m + 1 /\ i + 1 + m + 1 <= ys.length /\ (∀ y ∈ S,y.isV = true /\ leaf y = true)) ys.length
     ⟨0,ys,i + 1,by simp [upd,r0],by simp [upd,r1],by simp [upd,r5],by simp [upd],by simp [upd],by rw [set_same ho],rfl,rfl,?_,rfl,?_,by omega,by omega,hy⟩ (fun m s h=>by obtain ⟨_,_,h⟩:=h;have:=h.2.2.2.2.2.2.2.2.2.2.2.2.1;omega) ?_ (XL_mono _)
    ·rw [hstep,hC]
    ·rw [hstep,hC];simp;omega
    rintro m ⟨t2,B2,T2⟩ ⟨S,q,r0,r1,r5,r6,r7,rfl,rfl,hS,h1,h2,hq,hqj,hj,hSv⟩
    simp only at r0 r1 r5 r6 r7
    have hagS:=isV_agg (fun y h=>(hSv y h).1)
    have hoB : o < B.length:=by
     rcases Nat.lt_or_ge o B.length with h' | h'
     ·exact h'
     ·rw [List.getElem?_eq_none h'] at ho;cases ho
    have hB2 : (B.set o (Ob.row (flatD S ++ rest)))[o]? = some (.row (flatD S ++ rest)):=by rw [List.getElem?_set_self hoB]
    have hge : ∀ z,q <= z -> S[z]? = ys[z]?:=fun z hz=>by
     have:=congrArg (fun l=>l[z - q]?) h2
     simp only [List.getElem?_drop] at this
     rwa [show q + (z - q) = z by omega] at this
    by_cases hlt2 : i + 1 + m + 1 < ys.length
    ·have d2 : decide (((m + 1 : Nat) : Int) < ((ys.length - (i + 1) : Nat) : Int)) = true:=by simp only [decide_eq_true_eq];omega
     obtain ⟨x,hx2⟩ : ∃ x,ys[i + 1 + m + 1] = x:=⟨_,rfl⟩
     obtain ⟨p,hp2⟩ : ∃ p,ys[i + 1 + m] = p:=⟨_,rfl⟩
     have ex2 : ys[i + 1 + m + 1]? = some x:=by rw [List.getElem?_eq_getElem hlt2,hx2]
     have ep2 : ys[i + 1 + m]? = some p:=by rw [List.getElem?_eq_getElem (by omega),hp2]
     have exS : S[i + 1 + m + 1]? = some x:=by rw [hge _ (by omega)];exact ex2
     have epS : S[i + 1 + m]? = some p:=by rw [hge _ (by omega)];exact ep2
     have l1:=rd_ms (off:=(i + 1) * 4 + (m + 1) * 4) hB2 hagS exS (by omega)
     have l2:=rd_ms (off:=(i + 1) * 4 + m * 4) hB2 hagS epS (by omega)
     have i1:=ia_msN (ag:=true) (sz:=4) (o:=o) (off:=(i + 1) * 4) (cap:=cap - (i + 1)) (k:=.i64) (n:=ys.length - (i + 1)) (i:=m + 1) (by omega)
     have i2:=ia_msN (ag:=true) (sz:=4) (o:=o) (off:=(i + 1) * 4) (cap:=cap - (i + 1)) (k:=.i64) (n:=ys.length - (i + 1)) (i:=m) (by omega)
     have i3:=ia_msN (ag:=true) (sz:=4) (o:=o) (off:=0) (cap:=cap) (k:=.i64) (n:=ys.length) (i:=q) (by omega)
     rw [Nat.zero_add] at i3
     have hxv:=hy x (List.mem_of_getElem? ex2)
     have hpv:=hy p (List.mem_of_getElem? ep2)
     have hc : φeqv [x,p] = some (.bool (ord0 x p == 0)):=by simp only [φeqv];rw [if_pos ⟨hxv.1,hpv.1,hxv.2,hpv.2⟩]
     have w1 : IntKind.i64.wrap (((m + 1 : Nat) : Int) - 1) = (m : Nat):=by rw [show ((m + 1 : Nat) : Int) - 1 = (m : Nat) by omega];exact wrap_of _ (by omega) (by omega)
     have w2 : IntKind.i64.wrap (((m + 1 : Nat) : Int) + 1) = ((m + 1 + 1 : Nat) : Int):=by rw [show ((m + 1 : Nat) : Int) + 1 = ((m + 1 + 1 : Nat) : Int) by omega];exact wrap_of _ (by omega) (by omega)
     have w3 : IntKind.i64.wrap (((q : Nat) : Int) + 1) = ((q + 1 : Nat) : Int):=by rw [show ((q : Nat) : Int) + 1 = ((q + 1 : Nat) : Int) by omega];exact wrap_of _ (by omega) (by omega)
     have er : D.eraseL [x,p] = [x,p]:=erase_of_isV (by simp [hxv.1,hpv.1])
     have hst:=cmpC_take (ys:=ys) (j:=i + 1 + m + 1) (by omega) hlt2 ex2 (by simpa using ep2)
     rcases tf (ord0 x p == 0) with g1 | g1
     ·rw [g1] at hc hst
      simp only [if_true] at hst
      simp +contextual (maxSteps:=10000000) only [r0,r1,r5,r6,r7,d2,w1,w2,l1,l2,i1,i2,i3,hc,er,go_sem]
      have ej : i + 1 + (m + 1) + 1 = i + 1 + m + 1 + 1:=by omega
      rw [ej]
      exact ⟨S,q,rfl,rfl,hS,by rw [hst];exact h1,h2,by rw [hst];exact hq,by omega,by omega,hSv⟩
     ·rw [g1] at hc hst
      have hx4 : ∃ l,x = .agg l /\ l.length = 4:=isV_agg (xs:=[x]) (by simp [hxv.1]) x (by simp)
      simp +contextual (maxSteps:=10000000) only [r0,r1,r5,r6,r7,d2,w1,w2,l1,l2,i1,i2,i3,hc,er,go_sem]
      refine st_ms hB2 hagS hx4 (by omega) rfl ?_
      simp +contextual (maxSteps:=10000000) only [r0,r1,r5,r6,r7,w2,w3,go_sem]
      have ej : i + 1 + (m + 1) + 1 = i + 1 + m + 1 + 1:=by omega
      rw [ej]
      obtain ⟨c1,c2,c3,c4⟩:=cmpC_step (by omega) hlt2 ex2 (by simpa using ep2) hS h1 h2 hq hqj g1
      refine ⟨S.set q x,q + 1,rfl,by rw [List.set_set],c1,c2,c3,c4,by omega,by omega,fun y h=>?_⟩
      rcases List.mem_or_eq_of_mem_set h with h' | rfl
      ·exact hSv y h'
      ·exact hxv
    ·have d2 : decide (((m + 1 : Nat) : Int) < ((ys.length - (i + 1) : Nat) : Int)) = false:=by simp only [decide_eq_false_iff_not];omega
     have ej : i + 1 + m + 1 = ys.length:=by omega
     rw [ej,List.take_length] at h1 hq
     have s2:=slc_msN (ag:=true) (sz:=4) (o:=o) (off:=0) (n:=ys.length) (cap:=cap) (l:=q) (h:=ys.length) (by omega) (Nat.le_refl _) (by omega)
     rw [Nat.zero_add] at s2
     have s3:=slc_ms0 (ag:=true) (sz:=4) (o:=o) (off:=0) (n:=ys.length) (cap:=cap) (h:=q) (by omega) (by omega)
     simp +contextual (maxSteps:=10000000) only [r0,r1,r5,r6,r7,d2,s2,go_sem]
     refine clr_ms hB2 hagS rfl (by omega) rfl (fun rest'=>?_)
     simp +contextual (maxSteps:=10000000) only [r0,r1,r5,s3,go_sem]
     rw [h1,List.set_set]
     have k0:=k rest'
     rw [hq] at k0
     exact k0
   ·rw [g0] at hc hstep
    simp only [Bool.false_eq_true,if_false] at hstep
    simp +contextual (maxSteps:=10000000) only [r0,r1,r5,d1,w1,l1,l2,i1,i2,hc,er,w2,go_sem]
    refine ⟨by omega,?_⟩
    rw [hstep,hC,List.take_add_one (i:=i + 1),ex];rfl
  ·have d1 : decide (((i + 1 : Nat) : Int) < ys.length) = false:=by simp only [decide_eq_false_iff_not];omega
   have e : i + 1 = ys.length:=by omega
   have k0:=k rest
   rw [e,List.take_length] at hC
   rw [hC,set_same ho] at k0
   simp +contextual (maxSteps:=10000000) only [r0,r1,r5,d1,go_sem]
   exact k0
end GP
namespace GP
open Go Go.Proofs
set_option maxRecDepth 100000
def can (d : D) : D:=mkV (vk d) (vi d) (vs d) false []
theorem can_vk (d : D) : vk (can d) = vk d:=by simp [can,vk_mk]
theorem can_vi (d : D) : vi (can d) = vi d:=by simp [can,vi_mk]
theorem can_vs (d : D) : vs (can d) = vs d:=by simp [can,vs_mk]
theorem can_vl (d : D) : vl (can d) = []:=by simp [can,vl_mk]
theorem can_can (d : D) : can (can d) = can d:=by simp only [can,vk_mk,vi_mk,vs_mk]
theorem one1_can {d : D} (h : one1 d = true) : one1 (can d) = true:=by
 have hl : (vl d).length = 0:=plain_leaf h
 unfold one1 at h ⊢
 rw [can_vk,can_vi,can_vs,can_vl]
 rw [hl] at h;exact h
theorem single_can (a b : D) : singleD (can a) (can b) = singleD a b:=by
 rw [single_lex,single_lex];simp only [can_vk,can_vi,can_vs]
theorem can_eq {a b : D} (ha : one1 a = true) (hb : one1 b = true) : singleD a b = 0 ↔ can a = can b:=by
 rw [single_zero ha hb]
 constructor
 ·rintro ⟨h1,h2,h3⟩
  simp only [can,h1,h2,h3]
 ·intro h
  have h1:=congrArg vk h;have h2:=congrArg vi h;have h3:=congrArg vs h
  simp only [can_vk,can_vi,can_vs] at h1 h2 h3
  exact ⟨h1,h2,h3⟩
theorem single_self (a : D) : singleD a a = 0:=by
 have:=single_anti a a;omega
def rising (l : List D) : Prop:=l.Pairwise fun a b=>singleD a b < 0
def good1 (l : List D) : Prop:=∀ x ∈ l,one1 x = true
theorem rising_uniq : ∀ (A B : List D),rising A -> rising B -> (∀ x,x ∈ A ↔ x ∈ B) -> A = B
 | [],B,_,_,h=>by
  cases B with
  | nil=>rfl
  | cons b B=>exact absurd ((h b).2 (by simp)) (by simp)
 | a :: A,[],_,_,h=>absurd ((h a).1 (by simp)) (by simp)
 | a :: A,b :: B,hA,hB,h=>by
  unfold rising at hA hB
  rw [List.pairwise_cons] at hA hB
  have e : a = b:=by
   rcases List.mem_cons.1 ((h a).1 (by simp)) with e | h1
   ·exact e
   rcases List.mem_cons.1 ((h b).2 (by simp)) with e | h2
   ·exact e.symm
   have k1:=hB.1 a h1
   have k2:=hA.1 b h2
   have:=single_anti a b
   omega
  subst e
  have nA : a ∉ A:=fun hm=>by have:=hA.1 a hm;rw [single_self] at this;omega
  have nB : a ∉ B:=fun hm=>by have:=hB.1 a hm;rw [single_self] at this;omega
  rw [rising_uniq A B hA.2 hB.2 fun x=>?_]
  have:=h x
  constructor
  ·intro hx
   rcases List.mem_cons.1 (this.1 (by simp [hx])) with rfl | h1
   ·exact absurd hx nA
   ·exact h1
  ·intro hx
   rcases List.mem_cons.1 (this.2 (by simp [hx])) with rfl | h1
   ·exact absurd hx nB
   ·exact h1
def insU : List D -> D -> List D
 | [],x=>[x]
 | z :: r,x=>if singleD z x < 0 then z :: insU r x else if singleD z x == 0 then z :: r else x :: z :: r
def bagR (xs : List D) : List D:=(xs.map can).foldl insU []
theorem insU_mem {x : D} (hx : one1 x = true) (cx : can x = x) : ∀ (zs : List D),good1 zs -> (∀ z ∈ zs,can z = z) -> ∀ y,y ∈ insU zs x ↔ y ∈ zs ∨ y = x
 | [],_,_,y=>by simp [insU]
 | z :: r,hz,cz,y=>by
  have ih:=insU_mem hx cx r (fun w hw=>hz w (by simp [hw])) (fun w hw=>cz w (by simp [hw])) y
  unfold insU
  split
  ·simp only [List.mem_cons,ih]
   constructor
   ·rintro (h | h | h) <;> simp [h]
   ·rintro ((h | h) | h) <;> simp [h]
  ·split
   ·rename_i h0
    have e : z = x:=by
     have:=(can_eq (hz z (by simp)) hx).1 (by simpa using h0)
     rw [cz z (by simp),cx] at this;exact this
    subst e
    constructor
    ·intro h;exact .inl h
    ·rintro (h | rfl)
     ·exact h
     ·simp
   ·simp only [List.mem_cons]
    constructor
    ·rintro (h | h) <;> simp [h]
    ·rintro (h | h) <;> simp [h]
theorem insU_rising {x : D} (hx : one1 x = true) (cx : can x = x) : ∀ (zs : List D),good1 zs -> (∀ z ∈ zs,can z = z) -> rising zs -> rising (insU zs x)
 | [],_,_,_=>by simp [insU,rising]
 | z :: r,hz,cz,h=>by
  have hr : good1 r:=fun w hw=>hz w (by simp [hw])
  have cr : ∀ w ∈ r,can w = w:=fun w hw=>cz w (by simp [hw])
  unfold rising at h
  rw [List.pairwise_cons] at h
  unfold insU
  split
  ·rename_i h0
   refine List.pairwise_cons.2 ⟨fun y hy=>?_,insU_rising hx cx r hr cr h.2⟩
   rcases (insU_mem hx cx r hr cr y).1 hy with hy | rfl
   ·exact h.1 y hy
   ·exact h0
  ·split
   ·exact List.pairwise_cons.2 h
   ·rename_i h0 h1
    have hlt : singleD x z < 0:=by
     have:=single_anti z x
     have h1' : ¬ singleD z x = 0:=by simpa using h1
     omega
    refine List.pairwise_cons.2 ⟨fun y hy=>?_,List.pairwise_cons.2 h⟩
    rcases List.mem_cons.1 hy with rfl | hy
    ·exact hlt
    ·exact (single_tr x z y).l1 hlt (by have:=h.1 y hy;omega)
theorem bag_fold : ∀ (xs zs : List D),good1 xs -> (∀ x ∈ xs,can x = x) -> good1 zs -> (∀ z ∈ zs,can z = z) -> rising zs -> rising (xs.foldl insU zs) /\ (∀ y,y ∈ xs.foldl insU zs ↔ y ∈ zs ∨ y ∈ xs)
 | [],zs,_,_,_,_,hr=>⟨hr,by simp⟩
 | x :: xs,zs,hx,cx,hz,cz,hr=>by
  have m:=insU_mem (hx x (by simp)) (cx x (by simp)) zs hz cz
  have ih:=bag_fold xs (insU zs x) (fun w hw=>hx w (by simp [hw])) (fun w hw=>cx w (by simp [hw])) (fun w hw=>by
   rcases (m w).1 hw with h | rfl
   ·exact hz w h
   ·exact hx w (by simp)) (fun w hw=>by
   rcases (m w).1 hw with h | rfl
   ·exact cz w h
   ·exact cx w (by simp)) (insU_rising (hx x (by simp)) (cx x (by simp)) zs hz cz hr)
  refine ⟨ih.1,fun y=>?_⟩
  rw [List.foldl_cons,ih.2 y,m y,List.mem_cons,or_assoc]
theorem bagR_spec {xs : List D} (h : good1 xs) : rising (bagR xs) /\ ∀ y,y ∈ bagR xs ↔ ∃ x ∈ xs,y = can x:=by
 obtain ⟨h1,h2⟩:=bag_fold (xs.map can) [] (fun x hx=>by obtain ⟨y,hy,rfl⟩:=List.mem_map.1 hx;exact one1_can (h y hy)) (fun x hx=>by obtain ⟨y,_,rfl⟩:=List.mem_map.1 hx;exact can_can y) (by simp [good1]) (by simp) (by simp [rising])
 refine ⟨h1,fun y=>?_⟩
 rw [bagR,h2 y]
 simp [eq_comm]
theorem cmpA_spec (hs : ∀ a b : D,one1 a = true -> one1 b = true -> ord0 a b = singleD a b) : ∀ (l : List D) (p : D),one1 p = true -> good1 l -> (p :: l).Pairwise (fun a b=>¬ singleD b a < 0) →
  (∀ z ∈ cmpA p l,singleD p z < 0) /\ rising (cmpA p l) /\ (∀ z ∈ cmpA p l,z ∈ l) /\ ∀ x ∈ l,singleD p x = 0 ∨ ∃ z ∈ cmpA p l,singleD z x = 0
 | [],p,_,_,_=>by simp [cmpA,rising]
 | y :: l,p,hp,hl,h=>by
  have hy:=hl y (by simp)
  rw [List.pairwise_cons] at h
  obtain ⟨i1,i2,i3,i4⟩:=cmpA_spec hs l y hy (fun w hw=>hl w (by simp [hw])) h.2
  have hyp:=h.1 y (by simp)
  have an:=single_anti y p
  simp only [cmpA,hs y p hy hp]
  split
  ·rename_i h0
   have h0 : singleD y p = 0:=by simpa using h0
   refine ⟨fun z hz=>(single_tr p y z).l2 (by omega) (i1 z hz),i2,fun z hz=>by simp [i3 z hz],fun x hx=>?_⟩
   rcases List.mem_cons.1 hx with rfl | hx
   ·exact .inl (by omega)
   ·rcases i4 x hx with h1 | h1
    ·exact .inl (by rw [(single_tr p y x).e1 (by omega)];exact h1)
    ·exact .inr h1
  ·rename_i h0
   have h0 : ¬ singleD y p = 0:=by simpa using h0
   have hpy : singleD p y < 0:=by omega
   refine ⟨fun z hz=>?_,List.pairwise_cons.2 ⟨i1,i2⟩,fun z hz=>?_,fun x hx=>?_⟩
   ·rcases List.mem_cons.1 hz with rfl | hz
    ·exact hpy
    ·exact (single_tr p y z).l1 hpy (by have:=i1 z hz;omega)
   ·rcases List.mem_cons.1 hz with rfl | hz
    ·simp
    ·simp [i3 z hz]
   ·rcases List.mem_cons.1 hx with rfl | hx
    ·exact .inr ⟨x,by simp,single_self x⟩
    ·rcases i4 x hx with h1 | ⟨z,h1,h2⟩
     ·exact .inr ⟨y,by simp,h1⟩
     ·exact .inr ⟨z,by simp [h1],h2⟩
theorem cmpC_spec (hs : ∀ a b : D,one1 a = true -> one1 b = true -> ord0 a b = singleD a b) {l : List D} (hl : good1 l) (h : l.Pairwise (fun a b=>¬ singleD b a < 0)) : rising (cmpC l) /\ (∀ z ∈ cmpC l,z ∈ l) /\ ∀ x ∈ l,∃ z ∈ cmpC l,singleD z x = 0:=by
 cases l with
 | nil=>simp [cmpC,rising]
 | cons p l =>
  obtain ⟨i1,i2,i3,i4⟩:=cmpA_spec hs l p (hl p (by simp)) (fun w hw=>hl w (by simp [hw])) h
  refine ⟨List.pairwise_cons.2 ⟨i1,i2⟩,fun z hz=>?_,fun x hx=>?_⟩
  ·rcases List.mem_cons.1 hz with rfl | hz
   ·simp
   ·simp [i3 z hz]
  ·rcases List.mem_cons.1 hx with rfl | hx
   ·exact ⟨x,by simp [cmpC],single_self x⟩
   ·rcases i4 x hx with h1 | ⟨z,h1,h2⟩
    ·exact ⟨p,by simp [cmpC],h1⟩
    ·exact ⟨z,by simp [cmpC,h1],h2⟩
theorem ord0_single {a b : D} (ha : one1 a = true) (hb : one1 b = true) : ord0 a b = singleD a b:=ord_single ha hb f0
theorem cmpC_bag {xs ys : List D} (hx : good1 xs) (hp : ys.Perm xs) (h : ys.Pairwise (fun a b=>¬ ord0 b a < 0)) : (cmpC ys).map can = bagR xs:=by
 have hy : good1 ys:=fun y h=>hx y (hp.mem_iff.1 h)
 have h' : ys.Pairwise (fun a b=>¬ singleD b a < 0):=h.imp_of_mem fun {a b} ha hb hab=>by rw [<- ord0_single (hy b hb) (hy a ha)];exact hab
 obtain ⟨c1,c2,c3⟩:=cmpC_spec (fun a b ha hb=>ord0_single ha hb) hy h'
 obtain ⟨b1,b2⟩:=bagR_spec hx
 refine rising_uniq _ _ ?_ b1 fun y=>?_
 ·unfold rising at c1 ⊢
  rw [List.pairwise_map]
  exact c1.imp fun {a b} h=>by rw [single_can];exact h
 ·rw [b2 y,List.mem_map]
  constructor
  ·rintro ⟨z,hz,rfl⟩
   exact ⟨z,hp.mem_iff.1 (c2 z hz),rfl⟩
  ·rintro ⟨x,hx',rfl⟩
   obtain ⟨z,hz,h0⟩:=c3 x (hp.mem_iff.2 hx')
   exact ⟨z,hz,(can_eq (hy z (c2 z hz)) (hx x hx')).1 h0⟩
def badB (xs : List D) (v : D) : Bool:=(vk v == 0) || (vk v == 5) || (vk v != vk0 xs)
def bagV (xs : List D) : D × Int :=
 if xs.all formedV = false then (zeroV,1) else if xs.any (badB xs) then (zeroV,6) else
 if decide ((16 : Int) < (bagR xs).length) then (zeroV,13) else (mkV 5 0 [] false (bagR xs),0)
end GP
namespace GP
open Go Go.Proofs
set_option maxRecDepth 100000
@[reducible] def anyG (P : Program) : HasG P:=⟨fun _ _=>True,fun _ _ h=>h⟩
theorem leaf_cl {x : D} (h : x.isV = true) (hl : leaf x = true) : x.cl 0 0 = true:=by
 obtain ⟨k,i,s,n,l,rfl,_⟩:=isV_elim h
 simp only [leaf,vl_mk,List.isEmpty_iff] at hl
 subst hl
 rcases sliceD_cases n [] with ⟨e,_⟩ | e <;> simp [mkV,e,D.cl,D.clL]
theorem sortV_snd [hI : HasG Tryz.prog] {xs rest : List D} {H : Hp} {o cap : Nat} {T : Tk} {Q : Post} (ho : H[o]? = some (.row (flatD xs ++ rest))) (hv : ∀ x ∈ xs,x.isV = true) (h1 : good1 xs) (hn : 0 < xs.length) (hl : xs.length <= 2 ^ 40)
  (hQ : ∀ ys,ys.Perm xs -> ys.Pairwise (fun a b=>¬ ord0 b a < 0) -> Q (.tup []) (H.set o (.row (flatD ys ++ rest))) T) : Snd Tryz.prog 248 [.ms true 4 o 0 xs.length cap,.fn 64 [] []] H T Q:=by
 have hag:=isV_agg hv
 have hlf : ∀ x ∈ xs,leaf x = true:=fun x hx=>by
  have:=plain_leaf (h1 x hx)
  simp [leaf,List.length_eq_zero_iff.1 this]
 have hch : chunk true 4 xs.length ((flatD xs ++ rest).drop 0) = xs:=by rw [List.drop_zero];exact chunk_flat xs rest hag
 have e248 : ∀ args w,(callFunc 248 args).run Tryz.prog w = .ok (.enter 248 args) w:=enters_of Tryz.func248 (by kernel_rfl) rfl
 have e64 : ∀ args w,(callFunc 64 args).run Tryz.prog w = .ok (.enter 64 args) w:=enters_of Tryz.func64 (by kernel_rfl) rfl
 have an : ∀ x ∈ xs,∀ y ∈ xs,ord0 x y = singleD x y:=fun x hx y hy=>ord0_single (h1 x hx) (h1 y hy)
 refine sort_snd (inst:=hI) (P:=Tryz.prog) (f:=248) (g:=64) (ρ:=Tryz.sortVal_ren) Tryz.sortVal 4 Tryz.isAgg29 Tryz.sizeOf29 rfl e248 e64 (anyG _) (fun _ _=>trivial) (off:=0) (cap:=cap) ho hn (by omega) (by simp [hag.flat]) ord0 ?_ ?_ ?_ ?_ ?_ ?_
 ·rw [hch];exact fun x hx=>leaf_cl (hv x hx) (hlf x hx)
 ·rw [hch]
  intro x hx y hy
  have p:=ord_leaf (hv x hx) (hv y hy) (hlf x hx) (hlf y hy)
  exact @ok64a (anyG _) _ _ p [x,y] (erase_of_isV (by simp [hv x hx,hv y hy])) [] [] _ rfl
 ·rw [hch];intro x hx;rw [an x hx x hx,single_self];omega
 ·rw [hch];intro x hx y hy z hz a b
  rw [an x hx y hy] at a;rw [an y hy z hz] at b;rw [an x hx z hz]
  exact (single_tr x y z).l1 a (by omega)
 ·rw [hch];intro x hx y hy z hz a b
  rw [an x hx y hy] at a;rw [an y hy z hz] at b;rw [an x hx z hz]
  have t1:=single_tr z y x
  have a1:=single_anti x y;have a2:=single_anti y z;have a3:=single_anti x z
  have:=t1.le (by omega) (by omega)
  omega
 ·rw [hch]
  intro ys hp hs
  have hl2 : (flatD ys).length = xs.length * 4:=by rw [(hag.sub fun y hy=>hp.mem_iff.1 hy).flat,hp.length_eq]
  have:=hQ ys hp hs
  rw [Nat.zero_add,List.take_zero,List.nil_append,List.drop_left' hag.flat]
  exact this
def isNil : D -> Bool
 | .nils=>true
 | _=>false
def φBag : List D -> Option D
 | [l]=>if isSl l = true /\ D.isVs (elems l) = true /\ (elems l).length <= 2 ^ 40 /\ (isNil l || !(elems l).isEmpty) = true then some (.tup [(bagV (elems l)).1,.int .i64 (bagV (elems l)).2]) else none
 | _=>none
theorem bag_crs {zs ws : List D} (h : zs.map can = ws) (hv : ∀ z ∈ zs,z.isV = true /\ leaf z = true) : Crs (.sl none zs) (.sl none ws):=by
 subst h
 intro c v hr
 cases hr with
 | sl _ _ a cap sz us hlen hb hsz h1 ha hs hM hr htl ht =>
  have hcell : ∀ (i : Nat) (hi : i < zs.length),∃ k j s l,zs[i] = .agg [.int .i64 k,.int .i64 j,.str s,l] /\ (l = .nils ∨ l = .sl none []) /\ can zs[i] = .agg [.int .i64 k,.int .i64 j,.str s,.sl none []]:=by
   intro i hi
   obtain ⟨hz,hl⟩:=hv _ (List.getElem_mem hi)
   obtain ⟨k,j,s,n,l,e,_⟩:=isV_elim hz
   rw [e] at hl
   simp only [leaf,vl_mk,List.isEmpty_iff] at hl
   subst hl
   refine ⟨k,j,s,sliceD n [],by rw [e];rfl,?_,by rw [e];simp [can,vk_mk,vi_mk,vs_mk];rfl⟩
   cases n
   ·exact .inr rfl
   ·exact .inl rfl
  have:=Rep.sl (c:=c) none (zs.map can) a cap sz us (by simpa using hlen) (by simpa using hb) ?_ ?_ ?_ ?_ ?_ ?_ (fun τ h=>by cases h) (fun τ h=>by cases h)
  ·simpa using this
  ·intro x hx
   obtain ⟨z,hz,rfl⟩:=List.mem_map.1 hx
   obtain ⟨i,hi,rfl⟩:=List.getElem_of_mem hz
   obtain ⟨k,j,s,l,e1,_,e2⟩:=hcell i hi
   have:=hsz _ (List.getElem_mem hi)
   rw [e1] at this;rw [e2];simpa [D.cells] using this
  ·intro x hx y hy
   obtain ⟨z,hz,rfl⟩:=List.mem_map.1 hx
   obtain ⟨i,hi,rfl⟩:=List.getElem_of_mem hz
   obtain ⟨k,j,s,l,e1,_,e2⟩:=hcell i hi
   rw [e2] at hy
   simp only [D.cells,List.mem_cons,List.not_mem_nil,or_false] at hy
   rcases hy with rfl | rfl | rfl | rfl <;> rfl
  ·intro hne;exact ha (by intro e;subst e;exact hne rfl)
  ·intro hne;exact hs (by intro e;subst e;exact hne rfl)
  ·intro i hi;exact hM i (by simpa using hi)
  ·intro i hi j hj
   have hi' : i < zs.length:=by simpa using hi
   obtain ⟨k,q,s,l,e1,e3,e2⟩:=hcell i hi'
   have hc : (zs.map can)[i] = .agg [.int .i64 k,.int .i64 q,.str s,.sl none []]:=by rw [List.getElem_map];exact e2
   have hj' : j < (zs[i].cells).length:=by rw [e1];rw [hc] at hj;exact hj
   have h0:=hr i hi' j hj'
   have hjn : j < 4:=by rw [hc] at hj;exact hj
   have ez : ∀ (l' : List D) (h : zs[i].cells = l') (hj2 : j < l'.length),zs[i].cells[j] = l'[j]:=fun l' h hj2=>by subst h;rfl
   have ec : ∀ (l' : List D) (h : ((zs.map can)[i]).cells = l') (hj2 : j < l'.length),((zs.map can)[i]).cells[j] = l'[j]:=fun l' h hj2=>by subst h;rfl
   rw [ez [.int .i64 k,.int .i64 q,.str s,l] (by rw [e1];rfl) hjn] at h0
   rw [ec [.int .i64 k,.int .i64 q,.str s,.sl none []] (by rw [hc];rfl) hjn]
   match j,hjn,h0 with
   | 0,_,h0=>exact h0
   | 1,_,h0=>exact h0
   | 2,_,h0=>exact h0
   | 3,_,h0 =>
    simp only [List.getElem_cons_succ,List.getElem_cons_zero] at h0 ⊢
    obtain ⟨u,hu⟩ : ∃ u,us i 3 = u:=⟨_,rfl⟩
    rw [hu] at h0 ⊢
    rcases e3 with rfl | rfl
    ·cases h0
     exact Rep.sl none [] none 0 0 (fun _ _=>undef) (by simp) (by simp) (by simp) (by simp) (by simp) (by simp) (by simp) (by simp) (by simp) (by simp)
    ·exact h0
theorem crs_tup2 {a b : D} (h : Crs a b) (e : Int) : Crs (.tup [a,.int .i64 e]) (.tup [b,.int .i64 e]):=by
 intro c v hr
 cases hr with
 | tup _ us hl hr =>
  match us,hl with
  | [x,y],_ =>
   refine .tup _ _ rfl fun i hi hi'=>?_
   match i,hi with
   | 0,_=>exact h _ _ (hr 0 (by simp) (by simp))
   | 1,_=>exact hr 1 (by simp) (by simp)
theorem crs_bag {a b : D} (h : Crs a b) (ho : b.one = true) (k i : Int) (s : List UInt8) : Crs (.agg [.int .i64 k,.int .i64 i,.str s,a]) (.agg [.int .i64 k,.int .i64 i,.str s,b]):=by
 intro c v hr
 cases hr with
 | agg _ us hl h1 hr =>
  match us,hl with
  | [x,y,z,u],_ =>
   refine .agg _ _ rfl (fun d hd=>?_) fun j hi hi'=>?_
   ·simp only [List.mem_cons,List.not_mem_nil,or_false] at hd
    rcases hd with rfl | rfl | rfl | rfl <;> first | rfl | exact ho
   ·match j,hi with
    | 0,_=>exact hr 0 (by simp) (by simp)
    | 1,_=>exact hr 1 (by simp) (by simp)
    | 2,_=>exact hr 2 (by simp) (by simp)
    | 3,_=>exact h _ _ (hr 3 (by simp) (by simp))
theorem crs_nils : Crs .nils (.sl none []):=by
 intro c v hr
 cases hr
 exact Rep.sl none [] none 0 0 (fun _ _=>undef) (by simp) (by simp) (by simp) (by simp) (by simp) (by simp) (by simp) (by simp) (by simp) (by simp)
theorem clone_nil [HasG Tryz.prog] {H : Hp} {T : Tk} {Q : Post} (k : Q .nils H T) : Snd Tryz.prog 247 [.nils] H T Q:=by
 refine call_of fn247 (by simp) (W_mono (X:=XL []) (Ok.X .nil) (fun _ _ h=>h) ?_)
 have e1 : Option.map (fun b=>D.bool b) (eq1D Tq.slc .nils D.nils) = some (.bool true):=rfl
 simp +contextual (maxSteps:=10000000) only [c247,e1,go_sem]
 exact k
theorem compact_nil [HasG Tryz.prog] {H : Hp} {T : Tk} {Q : Post} (k : Q .nils H T) : Snd Tryz.prog 249 [.nils,.fn 250 [] []] H T Q:=by
 refine call_of fn249 (by simp) (W_mono (X:=XL []) (Ok.X .nil) (fun _ _ h=>h) ?_)
 have d : decide ((0 : Int) < 2) = true:=by decide
 simp +contextual (maxSteps:=10000000) only [c249,d,go_sem]
 exact k
theorem sort_nil [HasG Tryz.prog] {H : Hp} {T : Tk} {Q : Post} (k : Q (.tup []) H T) : Snd Tryz.prog 248 [.nils,.fn 64 [] []] H T Q:=ok248 _ _ (show φsort0 [.nils,.fn 64 [] []] = some (.tup []) from rfl) _ (by simp [D.eraseL,D.erase]) H T Q k
theorem bagR_cl (xs : List D) (h : good1 xs) : (mkV 5 0 [] false (bagR xs)).cl 0 0 = true:=by
 have : D.clL 0 0 (bagR xs) = true:=clL_of fun d hd=>by
  obtain ⟨x,_,rfl⟩:=((bagR_spec h).2 d).1 hd
  rfl
 show D.clL 0 0 [.int .i64 5,.int .i64 0,.str [],sliceD false (bagR xs)] = true
 rcases sliceD_cases false (bagR xs) with ⟨e,_⟩ | e <;> simp [e,D.clL,D.cl,this]
theorem rdAt_set {B : Hp} {o : Nat} {x : Ob} (h : B[o]? = some x) (X : List D) (L : Hp) : rdAt (B.set o (.row X) ++ L) (.ptr o 0) = some X:=by
 have hlB : o < B.length:=by
  rcases Nat.lt_or_ge o B.length with h' | h'
  ·exact h'
  ·rw [List.getElem?_eq_none h'] at h;cases h
 simp only [rdAt]
 rw [List.getElem?_append_left (by simpa using hlB),List.getElem?_set_self hlB]
 rfl
theorem rdAt_set0 {B : Hp} {o : Nat} {x : Ob} (h : B[o]? = some x) (X : List D) : rdAt (B.set o (.row X)) (.ptr o 0) = some X:=by
 have:=rdAt_set h X []
 rwa [List.append_nil] at this
set_option maxHeartbeats 8000000 in
theorem ok246 [HasG Tryz.prog] : OkAt Tryz.prog 246 φBag:=by
 have hM : MonoH []:=.nil
 have u0 : ([247,248,249] : List FuncId).contains 129 = false:=rfl
 have u1 : ([247,248,249] : List FuncId).contains 247 = true:=rfl
 have u2 : ([247,248,249] : List FuncId).contains 248 = true:=rfl
 have u3 : ([247,248,249] : List FuncId).contains 249 = true:=rfl
 refine okFX_of (X:=XU Tryz.prog [247,248,249] [(129,φFormed)] [] []) (XU.X (.cons ok129 .nil) .nil .nil) fn246 fun args r h=>?_
 unfold φBag at h
 split at h
 ·rename_i l
  split at h
  ·rename_i hc
   obtain ⟨h1,h2,h3,h4⟩:=hc
   injection h with h;subst h
   have hv:=isVs_iff.1 h2
   have eL:=erase_of_isV hv
   obtain ⟨n,hl⟩:=isSl_elim h1
   obtain ⟨xs,hxs⟩ : ∃ xs,elems l = xs:=⟨_,rfl⟩
   rw [hxs] at h3 h4 hv eL hl ⊢
   subst hl
   clear h1 h2 hxs
   have hcl : ((bagV xs).1).cl 0 0 = true:=by
    unfold bagV
    split
    ·rfl
    split
    ·rfl
    split
    ·rfl
    ·rename_i g1 g2 _
     simp only [Bool.not_eq_false] at g1
     refine bagR_cl xs fun x hx=>?_
     have f:=List.all_eq_true.1 g1 x hx
     have k : ¬ vk x = 5:=fun k=>g2 (List.any_eq_true.2 ⟨x,hx,by simp [badB,k]⟩)
     unfold formedV at f
     rwa [if_pos (by simpa using k)] at f
   refine ⟨by simp,by simp [D.cl,D.clL,hcl],fun H T=>?_⟩
   simp +contextual (maxSteps:=10000000) only [c246,go_sem]
   refine W_for (fun i s'=>s'.t 0 = sliceD n xs /\ s'.t 2 = .ptr H.length 0 /\ s'.t 9 = sliceD n xs /\ s'.t 10 = .int .i64 xs.length /\ s'.t 11 = .int .i64 (i : Nat) /\ Ext (H ++ [.row [.int .i64 0,.int .i64 0,.str [],.nils]]) s'.H /\ s'.T = T /\ i <= xs.length /\ ∀ (j : Nat) x,j < i -> xs[j]? = some x -> formedV x = true) xs.length
    ⟨0,by simp [upd,argT],by simp [upd],by simp [upd],by simp [upd],by simp [upd],Ext.refl _,rfl,by omega,fun j x h=>by omega⟩ (fun i s h=>h.2.2.2.2.2.2.2.1) ?_ (XU_mono _ _ _ _)
   rintro i ⟨t,B,T'⟩ ⟨r0,r2,r9,r10,r11,hE,rfl,hi,hF⟩
   simp only at r0 r2 r9 r10 r11 hE
   have b1:=hE.get (o:=H.length) (x:=.row [.int .i64 0,.int .i64 0,.str [],.nils]) (by simp)
   have rS : ∀ (X : List D) (L : Hp),rdAt (B.set H.length (.row X) ++ L) (.ptr H.length 0) = some X:=rdAt_set b1
   by_cases hlt : i < xs.length
   ·have d1 : decide (((i : Nat) : Int) < xs.length) = true:=by simp only [decide_eq_true_eq];omega
    obtain ⟨k1,i1,s1,n1,l1,e1,hs1,hx1,hV1,eL1⟩:=get_isV hv hlt
    have iv : (mkV k1 i1 s1 n1 l1).isV = true:=hv _ (List.mem_of_getElem? e1)
    have pf : φFormed [mkV k1 i1 s1 n1 l1] = some (.bool (formedV (mkV k1 i1 s1 n1 l1))):=by simp only [φFormed];rw [if_pos iv]
    rcases tf (formedV (mkV k1 i1 s1 n1 l1)) with g | g
    ·rw [g] at pf
     have hF' : ∀ (j : Nat) x,j < i + 1 -> xs[j]? = some x -> formedV x = true:=fun j x hj hx=>by
      rcases Nat.lt_or_ge j i with h' | h'
      ·exact hF j x h' hx
      ·have : j = i:=by omega
       subst this;rw [e1] at hx;injection hx with hx;rw [<- hx];exact g
     simp only [mkV] at pf
     simp +contextual (maxSteps:=10000000) only [r0,r2,r9,r10,r11,d1,e1,mkV,pf,u0,u1,u2,u3,XU_eq,pcallU hM,eL1,wrap_succ i (by omega),go_sem]
     exact ⟨hE.app _,by omega,hF'⟩
    ·rw [g] at pf
     simp only [mkV] at pf
     have hb : bagV xs = (zeroV,1):=by
      unfold bagV
      rw [if_pos (Bool.eq_false_iff.2 fun h=>by rw [List.all_eq_true.1 h _ (List.mem_of_getElem? e1)] at g;cases g)]
     simp +contextual (maxSteps:=10000000) only [r0,r2,r9,r10,r11,d1,e1,mkV,pf,u0,u1,u2,u3,XU_eq,pcallU hM,eL1,storeK_Ea b1,rS,go_sem]
     rw [hb]
     exact leavesE_end (.refl _) ((hE.pre.set (Nat.le_refl _) _).app _) (ExtT.refl _)
   ·have d1 : decide (((i : Nat) : Int) < xs.length) = false:=by simp only [decide_eq_false_iff_not];omega
    have hAll : xs.all formedV = true:=List.all_eq_true.2 fun x hx=>by
     obtain ⟨j,hj,rfl⟩:=List.getElem_of_mem hx
     exact hF j _ (by omega) (by rw [List.getElem?_eq_getElem hj])
    clear hF
    have r0':=r0
    have r2':=r2
    simp +contextual (maxSteps:=10000000) only [r0,r2,r9,r10,r11,d1,u1,u2,u3,XU_eq,go_sem]
    clear r0 r2 r9 r10 r11 d1 hlt hi b1 rS
    refine W_for (fun i s'=>s'.t 0 = sliceD n xs /\ s'.t 2 = .ptr H.length 0 /\ s'.t 20 = sliceD n xs /\ s'.t 21 = .int .i64 xs.length /\ s'.t 22 = .int .i64 (i : Nat) /\ Ext (H ++ [.row [.int .i64 0,.int .i64 0,.str [],.nils]]) s'.H /\ s'.T = T' /\ i <= xs.length /\ ∀ (j : Nat) x,j < i -> xs[j]? = some x -> badB xs x = false) xs.length
     ⟨0,by simp [upd,r0'],by simp [upd,r2'],by simp [upd],by simp [upd],by simp [upd],hE,rfl,by omega,fun j x h=>by omega⟩ (fun i s h=>h.2.2.2.2.2.2.2.1) ?_ (XU_mono _ _ _ _)
    clear r0' r2' hE
    rintro i ⟨t,B,T2⟩ ⟨r0,r2,r9,r10,r11,hE,rfl,hi,hF⟩
    simp only at r0 r2 r9 r10 r11 hE
    have b1:=hE.get (o:=H.length) (x:=.row [.int .i64 0,.int .i64 0,.str [],.nils]) (by simp)
    have rS : ∀ (X : List D) (L : Hp),rdAt (B.set H.length (.row X) ++ L) (.ptr H.length 0) = some X:=rdAt_set b1
    by_cases hlt : i < xs.length
    ·have d1 : decide (((i : Nat) : Int) < xs.length) = true:=by simp only [decide_eq_true_eq];omega
     obtain ⟨k1,i1,s1,n1,l1,e1,hs1,hx1,hV1,eL1⟩:=get_isV hv hlt
     obtain ⟨k0,i0,s0,n0,l0,e0,_⟩:=get_isV hv (show 0 < xs.length by omega)
     have fk:=vk0_get e0
     have hbd : badB xs (mkV k1 i1 s1 n1 l1) = ((k1 == 0) || (k1 == 5) || (k1 != k0)):=by simp only [badB,vk_mk,fk]
     have hbad : badB xs (mkV k1 i1 s1 n1 l1) = true -> bagV xs = (zeroV,6):=fun h=>by
      unfold bagV
      rw [if_neg (by rw [hAll];decide),if_pos]
      exact List.any_eq_true.2 ⟨_,List.mem_of_getElem? e1,h⟩
     have hgood : badB xs (mkV k1 i1 s1 n1 l1) = false -> ∀ (j : Nat) x,j < i + 1 -> xs[j]? = some x -> badB xs x = false:=fun g j x hj hx=>by
      rcases Nat.lt_or_ge j i with h' | h'
      ·exact hF j x h' hx
      ·have : j = i:=by omega
       subst this;rw [e1] at hx;injection hx with hx;rw [<- hx];exact g
     rw [hbd] at hbad hgood
     simp +contextual (maxSteps:=10000000) only [r0,r2,r9,r10,r11,d1,e1,e0,mkV,u0,u1,u2,u3,XU_eq,eL1,wrap_succ i (by omega),storeK_Ea b1,rS,go_sem]
     have fin : bagV xs = (zeroV,6) -> LeavesE (D.tup [(bagV xs).fst,D.int IntKind.i64 (bagV xs).snd]) H T2 (D.tup [D.agg [D.int IntKind.i64 0,D.int IntKind.i64 0,D.str [],D.nils],D.int IntKind.i64 6])
       (List.set B (List.length H) (Ob.row [D.int IntKind.i64 0,D.int IntKind.i64 0,D.str [],D.nils]) ++ [Ob.row [D.int IntKind.i64 k1,D.int IntKind.i64 i1,D.str s1,sliceD n1 l1]]) T2:=fun h=>by
      rw [h]
      exact leavesE_end (.refl _) ((hE.pre.set (Nat.le_refl _) _).app _) (ExtT.refl _)
     exact ⟨fun q=>fin (hbad (by rw [q];rfl)),fun q1=>⟨fun q=>fin (hbad (by rw [q];simp)),fun q2=>⟨fun q=>fin (hbad (by rw [q];simp)),fun q3=>⟨hE.app _,by omega,hgood (by rw [q1,q2,q3];rfl)⟩⟩⟩⟩
    ·have d1 : decide (((i : Nat) : Int) < xs.length) = false:=by simp only [decide_eq_false_iff_not];omega
     have hAny : xs.any (badB xs) = false:=List.any_eq_false.2 fun x hx=>by
      obtain ⟨j,hj,rfl⟩:=List.getElem_of_mem hx
      rw [hF j _ (by omega) (by rw [List.getElem?_eq_getElem hj])];decide
     have h1 : good1 xs:=fun x hx=>by
      have f:=List.all_eq_true.1 hAll x hx
      have g : ¬ (badB xs x = true):=List.any_eq_false.1 hAny x hx
      have k : ¬ vk x = 5:=fun k=>g (by simp [badB,k])
      unfold formedV at f
      rwa [if_pos (by simpa using k)] at f
     simp +contextual (maxSteps:=10000000) only [r0,r2,r9,r10,r11,d1,u1,u2,u3,XU_eq,go_sem]
     rcases sliceD_cases n xs with ⟨e,hx⟩ | e
     ·subst hx
      rw [e]
      refine clone_nil ?_
      simp +contextual (maxSteps:=10000000) only [u1,u2,u3,XU_eq,go_sem]
      refine sort_nil ?_
      simp +contextual (maxSteps:=10000000) only [u1,u2,u3,XU_eq,go_sem]
      refine compact_nil ?_
      have d2 : decide ((16 : Int) < 0) = false:=by decide
      simp +contextual (maxSteps:=10000000) only [u1,u2,u3,XU_eq,r2,d2,storeK_E b1,rdAt_set0 b1,go_sem]
      have hb0 : bagV [] = (mkV 5 0 [] false [],0):=rfl
      rw [hb0]
      exact leavesE_end (crs_tup2 (crs_bag crs_nils rfl 5 0 []) 0) (hE.pre.set (Nat.le_refl _) _) (ExtT.refl _)
     ·rw [e] at h4 ⊢
      have hne : xs ≠ []:=by
       rintro rfl
       simp [isNil] at h4
      refine clone_snd hv hne h3 ?_
      simp +contextual (maxSteps:=10000000) only [u1,u2,u3,XU_eq,go_sem]
      have hHB : H.length + 1 <= B.length:=by
       obtain ⟨L,hL⟩:=hE
       rw [hL];simp
      refine sortV_snd (rest:=[]) (by simp) hv h1 (List.length_pos_iff.2 hne) h3 (fun ys hp hs=>?_)
      simp +contextual (maxSteps:=10000000) only [u1,u2,u3,XU_eq,go_sem]
      have hyv : ∀ y ∈ ys,y.isV = true /\ leaf y = true:=fun y hy=>by
       have hm:=hp.mem_iff.1 hy
       have:=plain_leaf (h1 y hm)
       exact ⟨hv y hm,by simp [leaf,List.length_eq_zero_iff.1 this]⟩
      have hcan:=cmpC_bag h1 hp hs
      have hml : (cmpC ys).length = (bagR xs).length:=by rw [<- hcan];simp
      rw [<- hp.length_eq]
      refine compact_snd (ys:=ys) (rest:=[]) (by rw [List.getElem?_set_self (by simp)];simp) hyv (by rw [hp.length_eq];exact h3) (Nat.le_refl _) (fun rest'=>?_)
      obtain ⟨B2,hB2⟩ : ∃ B2,List.set (List.set (B ++ [Ob.dead,Ob.row (flatD xs)]) (B.length + 1) (Ob.row (flatD ys))) (B.length + 1) (Ob.row (flatD (cmpC ys) ++ rest')) = B2:=⟨_,rfl⟩
      have hE2 : Ext (H ++ [.row [.int .i64 0,.int .i64 0,.str [],.nils]]) B2:=by
       rw [<- hB2]
       exact ((hE.app _).set (by simp;omega) _).set (by simp;omega) _
      have hO : B2[B.length + 1]? = some (.row (flatD (cmpC ys) ++ rest')):=by
       rw [<- hB2,List.getElem?_set_self (by simp)]
      rw [hB2]
      have b2:=hE2.get (o:=H.length) (x:=.row [.int .i64 0,.int .i64 0,.str [],.nils]) (by simp)
      have hA1 : bagV xs = if decide ((16 : Int) < (bagR xs).length) then (zeroV,13) else (mkV 5 0 [] false (bagR xs),0):=by
       unfold bagV
       rw [if_neg (by rw [hAll];decide),if_neg (by rw [hAny];decide)]
      rw [<- hml] at hA1
      rcases tf (decide ((16 : Int) < (cmpC ys).length)) with g | g
      ·rw [g,if_pos rfl] at hA1
       simp +contextual (maxSteps:=10000000) only [u1,u2,u3,XU_eq,r2,g,storeK_E b2,rdAt_set0 b2,go_sem]
       rw [hA1]
       exact leavesE_end (.refl _) (hE2.pre.set (Nat.le_refl _) _) (ExtT.refl _)
      ·rw [g,if_neg (by decide)] at hA1
       simp +contextual (maxSteps:=10000000) only [u1,u2,u3,XU_eq,r2,g,storeK_E b2,rdAt_set0 b2,go_sem]
       rw [hA1]
       refine leavesE_fz (B.length + 1) (flatD (cmpC ys) ++ rest') (by rw [List.getElem?_set_ne (by omega)];exact hO) (by omega) ?_ (hE2.pre.set (Nat.le_refl _) _) (ExtT.refl _)
       have hcv : ∀ z ∈ cmpC ys,z.isV = true /\ leaf z = true:=fun z hz=>hyv z ((cmpC_spec (fun a b ha hb=>ord0_single ha hb) (fun y hy=>h1 y (hp.mem_iff.1 hy)) (hs.imp_of_mem fun {a b} ha hb hab=>by rw [<- ord0_single (h1 b (hp.mem_iff.1 hb)) (h1 a (hp.mem_iff.1 ha))];exact hab)).2.1 z hz)
       have hag:=isV_agg (fun z hz=>(hcv z hz).1)
       have hl16 : ¬ ((16 : Int) < (cmpC ys).length):=by simpa using g
       have efz : D.fz (B.length + 1) (flatD (cmpC ys) ++ rest') (.tup [.agg [.int .i64 5,.int .i64 0,.str [],.ms true 4 (B.length + 1) 0 (cmpC ys).length ys.length],.int .i64 0]) = .tup [.agg [.int .i64 5,.int .i64 0,.str [],.sl none (cmpC ys)],.int .i64 0]:=by
        simp only [D.fz,D.fzL]
        rw [if_pos ⟨trivial,by simp [hag.flat],.inl trivial,by omega⟩,List.drop_zero,chunk_flat _ _ hag]
       rw [efz]
       have hne2 : bagR xs ≠ []:=by
        intro e0
        rw [e0] at hml
        cases ys with
        | nil=>exact hne (List.Perm.nil_eq hp).symm
        | cons y ys=>simp [cmpC] at hml
       have es : sliceD false (bagR xs) = .sl none (bagR xs):=by
        rcases sliceD_cases false (bagR xs) with ⟨_,e1⟩ | e1
        ·exact absurd e1 hne2
        ·exact e1
       have em : mkV 5 0 [] false (bagR xs) = .agg [.int .i64 5,.int .i64 0,.str [],.sl none (bagR xs)]:=by simp only [mkV,es]
       rw [em]
       exact crs_tup2 (crs_bag (bag_crs hcan hcv) rfl 5 0 []) 0
  ·cases h
 ·cases h
end GP
namespace GP
open Go Go.Proofs
set_option maxRecDepth 100000
def formI (k : Int) (s : List UInt8) (n : Int) : Bool :=
 if k == 1 then wordB s && (n == 0) else
 if k == 2 then (s == []) && decide (0 <= n) else
 if k == 3 then s.all (fun b=>pText b.toNat) && decide ((s.length : Int) <= 64) && (n == 0) else
 if k == 4 then (s == []) && decide (0 <= n) && decide (n <= 1099511627776) else
 if k == 5 then isSign s && (n == 0) else false
def φform : List D -> Option D
 | [.agg [.int .i64 k,.str s,.int .i64 n]]=>if s.length <= 2 ^ 60 then some (.bool (formI k s n)) else none
 | _=>none
theorem run_len (p : Int -> Bool) : ∀ (s : List UInt8),(((runN p s 0 : Nat) : Int) == (s.length : Int)) = s.all (fun b=>p b.toNat)
 | []=>rfl
 | c :: r=>by
  have ih:=run_len p r
  unfold runN at ih ⊢
  simp only [List.drop_zero] at ih ⊢
  rcases tf (p (c.toNat : Int)) with g | g
  ·rw [runL_cons c r g,List.all_cons,g,Bool.true_and,← ih]
   rw [Bool.eq_iff_iff,beq_iff_eq,beq_iff_eq]
   simp only [List.length_cons];omega
  ·have : runL p (c :: r) = 0:=by unfold runL;simp [g]
   rw [this,List.all_cons,g,Bool.false_and,beq_eq_false_iff_ne]
   simp only [List.length_cons];omega
theorem ok102L : OkAt Tryz.prog 102 φidxS:=okIdxS fn102
theorem ok47L : OkAt Tryz.prog 47 φcontS:=okContS fn47 ok102L
theorem cont_sign (s : List UInt8) : φcontS [.sl none (signsB.map .str),.str s] = some (.bool (isSign s)):=by
 have hL : isLs isTx (.sl none (signsB.map D.str)):=⟨false,signsB.map D.str,rfl,by decide,fun x hx=>by
  obtain ⟨y,hy,rfl⟩:=List.mem_map.1 hx
  have key : ∀ y ∈ signsB,y.length <= 2 ^ 47:=by decide
  exact ⟨y,rfl,key y hy⟩⟩
 simp only [φcontS]
 rw [if_pos hL]
 congr 2
 have e : elems (D.sl none (signsB.map D.str)) = signsB.map D.str:=rfl
 rw [e,List.any_map,isSign_12,signsB_12,List.any_append,Bool.or_comm,List.contains_eq_any_beq,List.contains_eq_any_beq]
 rfl
set_option maxHeartbeats 16000000 in
theorem ok166 : OkAt Tryz.prog 166 φform:=by
 refine ok_of (l:=[(144,φrun),(151,φsigns),(47,φcontS)]) (.cons ok144 (.cons ok151 (.cons ok47L .nil))) fn166 fun args r h=>?_
 unfold φform at h
 split at h
 ·rename_i k s n
  split at h
  ·rename_i hl
   injection h with h;subst h
   refine ⟨by simp,by simp [D.cl],fun H T=>?_⟩
   have p1 : φrun [.str s,.int .i64 0,.fn 199 [] []] = some (.int .i64 (runN pWord s 0 : Nat)):=by
    simp only [φrun];rw [show sorts 199 = some pWord from rfl];simp only;rw [if_pos ⟨by omega,by omega,by omega⟩];rfl
   have p2 : φrun [.str s,.int .i64 0,.fn 200 [] []] = some (.int .i64 (runN pText s 0 : Nat)):=by
    simp only [φrun];rw [show sorts 200 = some pText from rfl];simp only;rw [if_pos ⟨by omega,by omega,by omega⟩];rfl
   have r1:=run_len pWord s
   have r2:=run_len pText s
   have p3 : φsigns [] = some (.sl none (signsB.map .str)):=rfl
   have p4:=cont_sign s
   have eS : D.eraseL (signsB.map D.str) = signsB.map D.str:=rfl
   obtain ⟨SB,hSB⟩ : ∃ z,signsB.map D.str = z:=⟨_,rfl⟩
   rw [hSB] at p3 p4 eS
   unfold formI
   rcases tf (k == 1) with k1 | k1
   ·rw [if_pos k1]
    rcases tf (n == 0) with n0 | n0
    ·rw [n0,Bool.and_true]
     cases s with
     | nil =>
      have d1 : decide ((1 : Int) <= (([] : List UInt8).length : Nat)) = false:=rfl
      simp +contextual (maxSteps:=10000000) only [c166,k1,n0,d1,wordB,go_sem]
     | cons c r =>
      have d1 : decide ((1 : Int) <= ((c :: r).length : Nat)) = true:=by simp;omega
      have ix : ∀ q,ixs (.str (c :: r)) (.int q 0) = some (.int .u8 c.toNat):=fun q=>ixs_at (i:=0) rfl q
      have hwc:=wordB_cons c r
      have hal : pLet (c.toNat : Int) = true -> (pLet (c.toNat : Int) && r.all (fun b=>pWord b.toNat)) = (c :: r).all (fun b=>pWord b.toNat):=fun gl=>by
       rw [List.all_cons,pWord_let (c.toNat : Int),gl];simp
      obtain ⟨S,hS⟩ : ∃ S,c :: r = S:=⟨_,rfl⟩
      rw [hS] at p1 p2 p4 r1 r2 d1 ix hwc hal hl ⊢
      rcases tf (decide ((S.length : Int) <= 64)) with d2 | d2
      ·rcases tf (decide ((97 : Int) <= c.toNat)) with d3 | d3
       ·rcases tf (decide ((c.toNat : Int) <= 122)) with d4 | d4
        ·have gl : pLet (c.toNat : Int) = true:=by unfold pLet;rw [d3,d4];rfl
         have hw : wordB S = S.all (fun b=>pWord b.toNat):=by
          rw [hwc,hal gl,d2,Bool.and_true]
         rw [hw]
         simp +contextual (maxSteps:=10000000) only [c166,k1,n0,d1,d2,ix,d3,d4,p1,r1,go_sem]
        ·have hw : wordB S = false:=by rw [hwc];unfold pLet;rw [d3,d4];rfl
         rw [hw]
         simp +contextual (maxSteps:=10000000) only [c166,k1,n0,d1,d2,ix,d3,d4,go_sem]
       ·have hw : wordB S = false:=by rw [hwc];unfold pLet;rw [d3];rfl
        rw [hw]
        simp +contextual (maxSteps:=10000000) only [c166,k1,n0,d1,d2,ix,d3,go_sem]
      ·have hw : wordB S = false:=by rw [hwc,d2,Bool.and_false]
       rw [hw]
       simp +contextual (maxSteps:=10000000) only [c166,k1,n0,d1,d2,go_sem]
    ·rw [n0,Bool.and_false]
     simp +contextual (maxSteps:=10000000) only [c166,k1,n0,go_sem]
   rw [if_neg (by rw [k1];decide)]
   rcases tf (k == 2) with k2 | k2
   ·rw [if_pos k2]
    rcases tf (s == []) with s0 | s0 <;> rw [s0] <;> simp +contextual (maxSteps:=10000000) only [c166,k1,k2,s0,go_sem]
   rw [if_neg (by rw [k2];decide)]
   rcases tf (k == 3) with k3 | k3
   ·rw [if_pos k3]
    have k4 : (k == 4) = false:=by
     have : k = 3:=by simpa using k3
     subst this;rfl
    rcases tf (n == 0) with n0 | n0
    ·rw [n0,Bool.and_true]
     rcases tf (decide ((s.length : Int) <= 64)) with d2 | d2
     ·rw [d2,Bool.and_true]
      simp +contextual (maxSteps:=10000000) only [c166,k1,k2,k3,k4,n0,d2,p2,r2,go_sem]
     ·rw [d2,Bool.and_false]
      simp +contextual (maxSteps:=10000000) only [c166,k1,k2,k3,k4,n0,d2,go_sem]
    ·rw [n0,Bool.and_false]
     simp +contextual (maxSteps:=10000000) only [c166,k1,k2,k3,k4,n0,go_sem]
   rw [if_neg (by rw [k3];decide)]
   rcases tf (k == 4) with k4 | k4
   ·rw [if_pos k4]
    rcases tf (s == []) with s0 | s0
    ·rcases tf (decide (0 <= n)) with n0 | n0 <;> rw [s0,n0] <;> simp +contextual (maxSteps:=10000000) only [c166,k1,k2,k4,s0,n0,go_sem]
    ·rw [s0];simp +contextual (maxSteps:=10000000) only [c166,k1,k2,k4,s0,go_sem]
   rw [if_neg (by rw [k4];decide)]
   rcases tf (k == 5) with k5 | k5
   ·rw [if_pos k5]
    rcases tf (n == 0) with n0 | n0
    ·rw [n0,Bool.and_true];simp +contextual (maxSteps:=10000000) only [c166,k1,k2,k3,k4,k5,n0,p3,eS,p4,go_sem]
    ·rw [n0,Bool.and_false];simp +contextual (maxSteps:=10000000) only [c166,k1,k2,k3,k4,k5,n0,go_sem]
   ·rw [if_neg (by rw [k5];decide)]
    simp +contextual (maxSteps:=10000000) only [c166,k1,k2,k3,k4,k5,go_sem]
  ·cases h
 ·cases h
end GP
namespace GP
open Go Go.Proofs
set_option maxRecDepth 100000
def tk : D -> Int
 | .agg [.int .i64 k,.str _,.int .i64 _]=>k
 | _=>0
def ts : D -> List UInt8
 | .agg [.int .i64 _,.str s,.int .i64 _]=>s
 | _=>[]
def tn : D -> Int
 | .agg [.int .i64 _,.str _,.int .i64 n]=>n
 | _=>0
theorem tk_mk (k : Int) (s : List UInt8) (n : Int) : tk (mkT k s n) = k:=rfl
theorem ts_mk (k : Int) (s : List UInt8) (n : Int) : ts (mkT k s n) = s:=rfl
theorem tn_mk (k : Int) (s : List UInt8) (n : Int) : tn (mkT k s n) = n:=rfl
def tokB : D -> Bool
 | .agg [.int .i64 k,.str s,.int .i64 n]=>decide (s.length <= 2 ^ 47) && (decide (-(2 ^ 63) <= k) && decide (k < 2 ^ 63)) && (decide (-(2 ^ 63) <= n) && decide (n < 2 ^ 63))
 | _=>false
theorem tokB_elim {x : D} (h : tokB x = true) : ∃ k s n,x = mkT k s n /\ s.length <= 2 ^ 47:=by
 unfold tokB at h
 split at h
 ·simp only [Bool.and_eq_true,decide_eq_true_eq] at h
  exact ⟨_,_,_,rfl,h.1.1⟩
 ·cases h
theorem tokB_range {k : Int} {s : List UInt8} {n : Int} (h : tokB (mkT k s n) = true) : (-(2 ^ 63) <= k /\ k < 2 ^ 63) /\ -(2 ^ 63) <= n /\ n < 2 ^ 63:=by
 simp only [tokB,mkT,Bool.and_eq_true,decide_eq_true_eq] at h
 exact ⟨h.1.2,h.2⟩
def formT (t : D) : Bool:=formI (tk t) (ts t) (tn t)
def okL (l : D) : Bool:=isSl l && (elems l).all tokB && decide ((elems l).length <= 600)
def zT : D:=mkT 0 [] 0
def nowP (toks : List D) (a : Nat) (e : Int) : D:=if e != 0 then zT else match toks[a]? with
 | some t=>if formT t then t else zT
 | none=>zT
theorem nowP_tok {toks : List D} (h : toks.all tokB = true) (a : Nat) (e : Int) : ∃ k s n,nowP toks a e = mkT k s n /\ s.length <= 2 ^ 47:=by
 unfold nowP
 split
 ·exact ⟨0,[],0,rfl,by simp⟩
 ·split
  ·rename_i t ht
   split
   ·exact tokB_elim (List.all_eq_true.1 h t (List.mem_of_getElem? ht))
   ·exact ⟨0,[],0,rfl,by simp⟩
  ·exact ⟨0,[],0,rfl,by simp⟩
def cuQ (H : Hp) (p : Nat) (f : List D -> Nat -> Int -> Option D) : Option D:=match H[p]? with
 | some (.row [l,.int .i64 a,.int .i64 e])=>if okL l = true /\ 0 <= a then f (elems l) a.toNat e else none
 | _=>none
def cuE (H : Hp) (p : Nat) (f : List D -> Nat -> Int -> Option (D × Nat × Int)) : Option (D × Hp):=match H[p]? with
 | some (.row [l,.int .i64 a,.int .i64 e])=>if okL l = true /\ 0 <= a then (match f (elems l) a.toNat e with
  | some (r,a',e')=>some (r,H.set p (.row [l,.int .i64 (a' : Int),.int .i64 e']))
  | none=>none) else none
 | _=>none
abbrev GQ:=List D -> List D -> Nat -> Int -> Option D
abbrev GE:=List D -> List D -> Nat -> Int -> Option (D × Nat × Int)
def φQ (g : GQ) (H : Hp) : List D -> Option D
 | .ptr p 0 :: rest=>cuQ H p (g rest)
 | _=>none
def φC (g : GE) (H : Hp) : List D -> Option (D × Hp)
 | .ptr p 0 :: rest=>cuE H p (g rest)
 | _=>none
section
variable {H : Hp} {p : Nat}
theorem cu_get (hp : p < H.length) (X : List D) (L : Hp) : (H.set p (.row X) ++ L)[p]? = some (.row X):=by
 rw [List.getElem?_append_left (by simpa using hp),List.getElem?_set_self hp]
theorem cu_get0 (hp : p < H.length) (X : List D) : (H.set p (.row X))[p]? = some (.row X):=List.getElem?_set_self hp
theorem rd_cu (hp : p < H.length) (X : List D) (L : Hp) (off : Nat) : rdAt (H.set p (.row X) ++ L) (.ptr p off) = some (X.drop off):=rdAt_E (cu_get hp X L) off
theorem rd_cu0 (hp : p < H.length) (X : List D) (off : Nat) : rdAt (H.set p (.row X)) (.ptr p off) = some (X.drop off):=rdAt_E (cu_get0 hp X) off
theorem st_cu {K : D -> S -> Prop} (hp : p < H.length) (X : List D) (L : Hp) (t : Nat -> D) (T : Tk) (n off : Nat) (v : D) : storeK n K ⟨t,H.set p (.row X) ++ L,T⟩ (.ptr p off) v = (v.okc = true /\ v.cells.length = n /\ off + n <= X.length /\ K .top ⟨t,H.set p (.row (X.take off ++ v.cells ++ X.drop (off + n))) ++ L,T⟩):=by
 rw [storeK_E (cu_get hp X L),List.set_append_left _ _ (by simpa using hp),List.set_set]
theorem st_cu0 {K : D -> S -> Prop} (hp : p < H.length) (X : List D) (t : Nat -> D) (T : Tk) (n off : Nat) (v : D) : storeK n K ⟨t,H.set p (.row X),T⟩ (.ptr p off) v = (v.okc = true /\ v.cells.length = n /\ off + n <= X.length /\ K .top ⟨t,H.set p (.row (X.take off ++ v.cells ++ X.drop (off + n))),T⟩):=by
 rw [storeK_E (cu_get0 hp X),List.set_set]
variable {n : Bool} {xs : List D}
theorem okL_slice (htk : xs.all tokB = true) (hl : xs.length <= 600) : okL (sliceD n xs) = true:=by
 simp [okL,isSl_sliceD,elems_sliceD,htk,hl]
theorem φQ_at (hp : p < H.length) (htk : xs.all tokB = true) (hl : xs.length <= 600) (g : GQ) (rest : List D) (a : Nat) (e : Int) (L : Hp) : φQ g (H.set p (.row [sliceD n xs,.int .i64 ((a : Nat) : Int),.int .i64 e]) ++ L) (.ptr p 0 :: rest) = g rest xs a e:=by
 simp only [φQ,cuQ]
 rw [cu_get hp]
 simp only
 rw [if_pos ⟨okL_slice htk hl,by omega⟩,Int.toNat_natCast,elems_sliceD]
theorem φQ_at0 (hp : p < H.length) (htk : xs.all tokB = true) (hl : xs.length <= 600) (g : GQ) (rest : List D) (a : Nat) (e : Int) : φQ g (H.set p (.row [sliceD n xs,.int .i64 ((a : Nat) : Int),.int .i64 e])) (.ptr p 0 :: rest) = g rest xs a e:=by
 have:=φQ_at (n:=n) hp htk hl g rest a e []
 rwa [List.append_nil] at this
def cuR (H : Hp) (p : Nat) (l : D) (L : Hp) : Option (D × Nat × Int) -> Option (D × Hp)
 | some (r,a,e)=>some (r,H.set p (.row [l,.int .i64 ((a : Nat) : Int),.int .i64 e]) ++ L)
 | none=>none
@[go_sem] theorem cuR_s (H : Hp) (p : Nat) (l : D) (L : Hp) (r : D) (a : Nat) (e : Int) : cuR H p l L (some (r,a,e)) = some (r,H.set p (.row [l,.int .i64 ((a : Nat) : Int),.int .i64 e]) ++ L):=id rfl
theorem φC_at (hp : p < H.length) (htk : xs.all tokB = true) (hl : xs.length <= 600) (g : GE) (rest : List D) (a : Nat) (e : Int) (L : Hp) : φC g (H.set p (.row [sliceD n xs,.int .i64 ((a : Nat) : Int),.int .i64 e]) ++ L) (.ptr p 0 :: rest) = cuR H p (sliceD n xs) L (g rest xs a e):=by
 simp only [φC,cuE]
 rw [cu_get hp]
 simp only
 rw [if_pos ⟨okL_slice htk hl,by omega⟩,Int.toNat_natCast,elems_sliceD]
 cases g rest xs a e with
 | none=>rfl
 | some r =>
  simp only [cuR]
  rw [List.set_append_left _ _ (by simpa using hp),List.set_set]
theorem φC_at0 (hp : p < H.length) (htk : xs.all tokB = true) (hl : xs.length <= 600) (g : GE) (rest : List D) (a : Nat) (e : Int) : φC g (H.set p (.row [sliceD n xs,.int .i64 ((a : Nat) : Int),.int .i64 e])) (.ptr p 0 :: rest) = cuR H p (sliceD n xs) [] (g rest xs a e):=by
 have:=φC_at (n:=n) hp htk hl g rest a e []
 rwa [List.append_nil] at this
end
@[go_sem] theorem rd_own (H : Hp) (p : Nat) (x : Ob) (L : Hp) (n off : Nat) : rdAt (H.set p x ++ L) (.ptr (H.length + n) off) = rdAt L (.ptr n off):=by
 have:=rdAt_ptr_app (H.set p x) L n off
 rwa [List.length_set] at this
@[go_sem] theorem rd_own0 (H : Hp) (p : Nat) (x : Ob) (L : Hp) (off : Nat) : rdAt (H.set p x ++ L) (.ptr H.length off) = rdAt L (.ptr 0 off):=rd_own H p x L 0 off
@[go_sem] theorem st_own {K : D -> S -> Prop} (t : Nat -> D) (T : Tk) (H : Hp) (p : Nat) (x : Ob) (L : Hp) (n i off : Nat) (v : D) : storeK n K ⟨t,H.set p x ++ L,T⟩ (.ptr (H.length + i) off) v = putK K t (H.set p x) T (putRow n off v L i):=by
 have:=storeK_ptr (K:=K) t T (H.set p x) L n i off v
 rwa [List.length_set] at this
@[go_sem] theorem st_own0 {K : D -> S -> Prop} (t : Nat -> D) (T : Tk) (H : Hp) (p : Nat) (x : Ob) (L : Hp) (n off : Nat) (v : D) : storeK n K ⟨t,H.set p x ++ L,T⟩ (.ptr H.length off) v = putK K t (H.set p x) T (putRow n off v L 0):=st_own t T H p x L n 0 off v
@[go_sem] theorem nilcD_ptr (o f : Nat) : nilcD (.ptr o f) = some (.ptr o f):=id rfl
attribute [go_sem] List.length_set
theorem okL_elim {l : D} (h : okL l = true) : ∃ n xs,l = sliceD n xs /\ xs.all tokB = true /\ xs.length <= 600:=by
 simp only [okL,Bool.and_eq_true,decide_eq_true_eq] at h
 obtain ⟨n,hn⟩:=isSl_elim h.1.1
 exact ⟨n,elems l,hn,h.1.2,h.2⟩
theorem cuQ_elim {H : Hp} {p : Nat} {f : List D -> Nat -> Int -> Option D} {r : D} (h : cuQ H p f = some r) : ∃ n xs a e,H[p]? = some (.row [sliceD n xs,.int .i64 ((a : Nat) : Int),.int .i64 e]) /\ p < H.length /\ xs.all tokB = true /\ xs.length <= 600 /\ f xs a e = some r:=by
 unfold cuQ at h
 split at h
 ·rename_i l a e hH
  split at h
  ·rename_i hc
   obtain ⟨h1,h2⟩:=hc
   obtain ⟨k,rfl⟩ : ∃ n : Nat,a = (n : Int):=⟨a.toNat,by omega⟩
   obtain ⟨n,xs,rfl,htk,hl⟩:=okL_elim h1
   rw [Int.toNat_natCast,elems_sliceD] at h
   refine ⟨n,xs,k,e,hH,?_,htk,hl,h⟩
   rcases Nat.lt_or_ge p H.length with h' | h'
   ·exact h'
   ·rw [List.getElem?_eq_none h'] at hH;cases hH
  ·cases h
 ·cases h
theorem cuE_elim {H : Hp} {p : Nat} {f : List D -> Nat -> Int -> Option (D × Nat × Int)} {x : D × Hp} (h : cuE H p f = some x) : ∃ n xs a e r a' e',H[p]? = some (.row [sliceD n xs,.int .i64 ((a : Nat) : Int),.int .i64 e]) /\ p < H.length /\ xs.all tokB = true /\ xs.length <= 600 /\ f xs a e = some (r,a',e') ∧
  x = (r,H.set p (.row [sliceD n xs,.int .i64 ((a' : Nat) : Int),.int .i64 e'])):=by
 unfold cuE at h
 split at h
 ·rename_i l a e hH
  split at h
  ·rename_i hc
   obtain ⟨h1,h2⟩:=hc
   obtain ⟨k,rfl⟩ : ∃ n : Nat,a = (n : Int):=⟨a.toNat,by omega⟩
   obtain ⟨n,xs,rfl,htk,hl⟩:=okL_elim h1
   rw [Int.toNat_natCast,elems_sliceD] at h
   split at h
   ·rename_i r a' e' hf
    injection h with h
    refine ⟨n,xs,k,e,r,a',e',hH,?_,htk,hl,hf,h.symm⟩
    rcases Nat.lt_or_ge p H.length with h' | h'
    ·exact h'
    ·rw [List.getElem?_eq_none h'] at hH;cases hH
   ·cases h
  ·cases h
 ·cases h
theorem cuQ_mono {p : Nat} {f : List D -> Nat -> Int -> Option D} {H H' : Hp} {r : D} (hl : Hle H H') (h : cuQ H p f = some r) : cuQ H' p f = some r:=by
 obtain ⟨n,xs,a,e,h1,h2,h3,h4,h5⟩:=cuQ_elim h
 have h1':=hl p _ h1 rfl
 unfold cuQ
 rw [h1']
 simp only
 rw [if_pos ⟨okL_slice h3 h4,by omega⟩,Int.toNat_natCast,elems_sliceD]
 exact h5
theorem φQ_mono (g : GQ) (H H' : Hp) (a : List D) (r : D) (hl : Hle H H') (h : φQ g H a = some r) : φQ g H' a = some r:=by
 unfold φQ at h ⊢
 split at h
 ·exact cuQ_mono hl h
 ·cases h
theorem toksB_erase {xs : List D} (h : xs.all tokB = true) : D.eraseL xs = xs:=eraseL_id fun x hx=>by
 obtain ⟨k,s,n,rfl,_⟩:=tokB_elim (List.all_eq_true.1 h x hx)
 simp [mkT,D.erase,D.eraseL]
theorem toksB_cl {n : Bool} {xs : List D} (h : xs.all tokB = true) (i j : Nat) : (sliceD n xs).cl i j = true:=by
 have : D.clL i j xs = true:=clL_of fun d hd=>by
  obtain ⟨k,s,n,rfl,_⟩:=tokB_elim (List.all_eq_true.1 h d hd)
  simp [mkT,D.cl,D.clL]
 rcases sliceD_cases n xs with ⟨e,_⟩ | e <;> simp [e,D.cl,this]
theorem okQ_of {l : Fs} {m : FsH} {ee : FsE} (hl : Ok Tryz.prog l) (hm : OkH Tryz.prog m) (hE : OkE Tryz.prog ee) {f : FuncId} {k : Nat} {rs : List (Sum Nat (Nat × Bool × Nat))} {cc : C} (hf : Fn Tryz.prog f k rs cc) {g : GQ}
  (h : ∀ (H : Hp) (p : Nat) (n : Bool) (xs : List D) (a : Nat) (e : Int) (rest : List D) (r : D),p < H.length -> xs.all tokB = true -> xs.length <= 600 -> g rest xs a e = some r -> rest.length + 1 <= k /\ r.cl 0 0 = true ∧
   ∀ T,W (XE l m ee) cc (endQ rs (LeavesE r (H.set p (.row [sliceD n xs,.int .i64 ((a : Nat) : Int),.int .i64 e])) T)) ⟨argT (.ptr p 0 :: rest),H.set p (.row [sliceD n xs,.int .i64 ((a : Nat) : Int),.int .i64 e]),T⟩) : OkAtH Tryz.prog f (φQ g):=by
 refine okFH_of hl hm hE hf fun H args r hr=>?_
 unfold φQ at hr
 split at hr
 ·rename_i p rest
  obtain ⟨n,xs,a,e,h1,h2,h3,h4,h5⟩:=cuQ_elim hr
  obtain ⟨k1,k2,k3⟩:=h H p n xs a e rest r h2 h3 h4 h5
  refine ⟨by simpa using k1,D.cl_mono (Nat.zero_le _) (Nat.le_refl _) r k2,fun T=>?_⟩
  have:=k3 T
  rw [set_same h1] at this
  exact this
 ·cases hr
theorem okC_of {l : Fs} {m : FsH} {ee : FsE} (hl : Ok Tryz.prog l) (hm : OkH Tryz.prog m) (hE : OkE Tryz.prog ee) {f : FuncId} {k : Nat} {rs : List (Sum Nat (Nat × Bool × Nat))} {cc : C} (hf : Fn Tryz.prog f k rs cc) {g : GE}
  (h : ∀ (H : Hp) (p : Nat) (n : Bool) (xs : List D) (a : Nat) (e : Int) (rest : List D) (r : D) (a' : Nat) (e' : Int),p < H.length -> xs.all tokB = true -> xs.length <= 600 -> g rest xs a e = some (r,a',e') -> rest.length + 1 <= k /\ r.cl 0 0 = true ∧
   ∀ T,W (XE l m ee) cc (endQ rs (LeavesE r (H.set p (.row [sliceD n xs,.int .i64 ((a' : Nat) : Int),.int .i64 e'])) T)) ⟨argT (.ptr p 0 :: rest),H.set p (.row [sliceD n xs,.int .i64 ((a : Nat) : Int),.int .i64 e]),T⟩) : OkAtE Tryz.prog f (φC g):=by
 refine okE_of hl hm hE hf fun H args r H1 hr=>?_
 unfold φC at hr
 split at hr
 ·rename_i p rest
  obtain ⟨n,xs,a,e,r',a',e',h1,h2,h3,h4,h5,h6⟩:=cuE_elim hr
  injection h6 with h6 h7
  subst h6;subst h7
  obtain ⟨k1,k2,k3⟩:=h H p n xs a e rest r a' e' h2 h3 h4 h5
  refine ⟨by simpa using k1,D.cl_mono (Nat.zero_le _) (Nat.le_refl _) r k2,⟨by simp,fun o x cs hx hc=>?_⟩,fun T=>?_⟩
  ·by_cases ho : o = p
   ·subst ho
    rw [List.getElem?_set_self h2] at hx
    injection hx with hx;subst hx
    injection hc with hc;subst hc
    refine .inr ?_
    simp only [D.clL,toksB_cl h3,D.cl,Bool.and_self]
   ·rw [List.getElem?_set_ne (fun e=>ho e.symm)] at hx
    exact .inl hx
  ·have:=k3 T
   rw [set_same h1] at this
   exact this
 ·cases hr
def gNow : GQ:=fun rest toks a e=>match rest with
 | []=>some (nowP toks a e)
 | _=>none
set_option maxHeartbeats 4000000 in
theorem ok177 : OkAtH Tryz.prog 177 (φQ gNow):=by
 refine okQ_of (l:=[(166,φform)]) (m:=[]) (ee:=[]) (.cons ok166 .nil) .nil .nil fn177 fun H p n xs a e rest r hp htk hlen h=>?_
 have hM : MonoH []:=.nil
 unfold gNow at h
 split at h
 ·injection h with h;subst h
  obtain ⟨k0,s0,n0,e0,_⟩:=nowP_tok htk a e
  refine ⟨by simp,by rw [e0];rfl,fun T=>?_⟩
  have rc:=fun X L off=>rd_cu (p:=p) hp X L off
  by_cases he : (e != 0) = true
  ·have g : nowP xs a e = zT:=by unfold nowP;rw [if_pos he]
   rw [g]
   simp +contextual (maxSteps:=10000000) only [c177,rc,he,go_sem]
   exact lvM
  ·have he0 : (e != 0) = false:=by simpa using he
   rcases Nat.lt_or_ge a xs.length with hlt | hge
   ·have d1 : decide ((xs.length : Int) <= (a : Nat)) = false:=by simp only [decide_eq_false_iff_not];omega
    obtain ⟨k,s,m,e1,hs⟩:=tokB_elim (List.all_eq_true.1 htk _ (List.getElem_mem hlt))
    have ex : xs[a]? = some (mkT k s m):=by rw [List.getElem?_eq_getElem hlt,e1]
    have pf : φform [mkT k s m] = some (.bool (formI k s m)):=by simp only [φform,mkT];rw [if_pos (by omega)]
    simp only [mkT] at pf ex
    have g : nowP xs a e = if formI k s m then mkT k s m else zT:=by
     unfold nowP
     rw [if_neg (by rw [he0];decide),ex]
     rfl
    rw [g]
    rcases tf (formI k s m) with gf | gf
    ·rw [gf,if_pos rfl]
     rw [gf] at pf
     simp +contextual (maxSteps:=10000000) only [c177,rc,he0,d1,ex,pf,pcallE hM,go_sem]
     exact lvM
    ·rw [gf,if_neg (by decide)]
     rw [gf] at pf
     simp +contextual (maxSteps:=10000000) only [c177,rc,he0,d1,ex,pf,pcallE hM,go_sem]
     exact lvM
   ·have d1 : decide ((xs.length : Int) <= (a : Nat)) = true:=by simp only [decide_eq_true_eq];omega
    have g : nowP xs a e = zT:=by
     unfold nowP
     rw [if_neg (by rw [he0];decide),List.getElem?_eq_none (by omega)]
    rw [g]
    simp +contextual (maxSteps:=10000000) only [c177,rc,he0,d1,go_sem]
    exact lvM
 ·cases h
end GP
namespace GP
open Go Go.Proofs
set_option maxRecDepth 100000
abbrev St:=Nat × Int
def nowS (toks : List D) (st : St) : D:=nowP toks st.1 st.2
def isP (toks : List D) (st : St) (s : List UInt8) : Bool:=((tk (nowS toks st) == 1) || (tk (nowS toks st) == 5)) && (ts (nowS toks st) == s)
def failP (at_ : Nat) (err : Int) (st : St) : St:=if st.2 == 0 then (at_,err) else st
def mustP (toks : List D) (s : List UInt8) (st : St) : St:=if isP toks st s then (st.1 + 1,st.2) else failP st.1 2 st
def gIs : GQ:=fun rest toks a e=>match rest with
 | [.str s]=>some (.bool (isP toks (a,e) s))
 | _=>none
def gMay : GE:=fun rest toks a e=>match rest with
 | [.str s]=>some (if isP toks (a,e) s then (.bool true,a + 1,e) else (.bool false,a,e))
 | _=>none
def gFail : GE:=fun rest _ a e=>match rest with
 | [.int .i64 n,.int .i64 err]=>if 0 <= n then some (.tup [],failP n.toNat err (a,e)) else none
 | _=>none
def gMust : GE:=fun rest toks a e=>match rest with
 | [.str s]=>some (.tup [],mustP toks s (a,e))
 | _=>none
theorem nowP_lt {toks : List D} {a : Nat} {e : Int} (h : tk (nowP toks a e) ≠ 0) : a < toks.length /\ e = 0:=by
 unfold nowP at h
 split at h
 ·exact absurd rfl h
 ·rename_i he
  refine ⟨?_,by simpa using he⟩
  split at h
  ·rename_i t ht
   rcases Nat.lt_or_ge a toks.length with h' | h'
   ·exact h'
   ·rw [List.getElem?_eq_none h'] at ht;cases ht
  ·exact absurd rfl h
theorem isP_lt {toks : List D} {st : St} {s : List UInt8} (h : isP toks st s = true) : st.1 < toks.length /\ st.2 = 0:=by
 unfold isP at h
 simp only [Bool.and_eq_true,Bool.or_eq_true,beq_iff_eq] at h
 refine nowP_lt (toks:=toks) (a:=st.1) (e:=st.2) ?_
 unfold nowS at h
 omega
theorem wrap_a {a : Nat} (h : a < 601) : IntKind.i64.wrap ((a : Nat) + 1 : Int) = ((a + 1 : Nat) : Int):=by
 rw [show ((a : Nat) + 1 : Int) = ((a + 1 : Nat) : Int) by omega];exact wrap_of _ (by omega) (by omega)
theorem ok117 : OkAtH Tryz.prog 117 (φQ gIs):=by
 have hM : MonoH [(177,φQ gNow)]:=.cons (φQ_mono gNow) .nil
 refine okQ_of (l:=[]) (m:=[(177,φQ gNow)]) (ee:=[]) .nil (.cons ok177 .nil) .nil fn117 fun H p n xs a e rest r hp htk hlen h=>?_
 unfold gIs at h
 split at h
 ·rename_i s
  injection h with h;subst h
  refine ⟨by simp,by simp [D.cl],fun T=>?_⟩
  have qa0:=fun g rest a e=>φQ_at0 (n:=n) hp htk hlen g rest a e
  obtain ⟨k0,s0,m0,e0,_⟩:=nowP_tok htk a e
  have g : isP xs (a,e) s = (((k0 == 1) || (k0 == 5)) && (s0 == s)):=by simp only [isP,nowS,e0,tk_mk,ts_mk]
  rw [g]
  have e0':=e0
  simp only [mkT] at e0'
  simp +contextual (maxSteps:=10000000) only [c117,qa0,gNow,e0',pcallE hM,go_sem]
  all_goals ((repeat' (first | apply And.intro | intro _)) <;> (first | omega | exact lvM))
 ·cases h
theorem ok69 : OkAtE Tryz.prog 69 (φC gMay):=by
 have hM : MonoH [(117,φQ gIs)]:=.cons (φQ_mono gIs) .nil
 refine okC_of (l:=[]) (m:=[(117,φQ gIs)]) (ee:=[]) .nil (.cons ok117 .nil) .nil fn69 fun H p n xs a e rest r a' e' hp htk hlen h=>?_
 unfold gMay at h
 split at h
 ·rename_i s
  have qa0:=fun g rest a e=>φQ_at0 (n:=n) hp htk hlen g rest a e
  have rc0:=fun X off=>rd_cu0 (p:=p) hp X off
  have sc0:=fun (K : D -> S -> Prop) X t T n off v=>st_cu0 (p:=p) (K:=K) hp X t T n off v
  rcases tf (isP xs (a,e) s) with g | g
  ·rw [g] at h
   injection h with h;injection h with h1 h2;injection h2 with h2 h3
   subst h1;subst h2;subst h3
   have hlt:=(isP_lt g).1
   have w:=wrap_a (a:=a) (by simp only at hlt;omega)
   refine ⟨by simp,by simp [D.cl],fun T=>?_⟩
   simp +contextual (maxSteps:=10000000) only [c69,qa0,gIs,g,pcallE hM,rc0,sc0,w,go_sem]
   all_goals ((repeat' (first | apply And.intro | intro _)) <;> (first | omega | exact lvM))
  ·rw [g] at h
   injection h with h;injection h with h1 h2;injection h2 with h2 h3
   subst h1;subst h2;subst h3
   refine ⟨by simp,by simp [D.cl],fun T=>?_⟩
   simp +contextual (maxSteps:=10000000) only [c69,qa0,gIs,g,pcallE hM,go_sem]
   all_goals ((repeat' (first | apply And.intro | intro _)) <;> (first | omega | exact lvM))
 ·cases h
theorem ok105 : OkAtE Tryz.prog 105 (φC gFail):=by
 refine okC_of (l:=[]) (m:=[]) (ee:=[]) .nil .nil .nil fn105 fun H p n xs a e rest r a' e' hp htk hlen h=>?_
 unfold gFail at h
 split at h
 ·rename_i m err
  split at h
  ·rename_i hm
   obtain ⟨k,rfl⟩ : ∃ k : Nat,m = (k : Int):=⟨m.toNat,by omega⟩
   rw [Int.toNat_natCast] at h
   injection h with h;injection h with h1 h2
   subst h1
   have rc0:=fun X off=>rd_cu0 (p:=p) hp X off
   have sc0:=fun (K : D -> S -> Prop) X t T n off v=>st_cu0 (p:=p) (K:=K) hp X t T n off v
   refine ⟨by simp,by simp [D.cl,D.clL],fun T=>?_⟩
   rcases tf (e == 0) with g | g
   ·have f : failP k err (a,e) = (k,err):=by unfold failP;rw [g];rfl
    rw [f] at h2;injection h2 with h2 h3;subst h2;subst h3
    simp +contextual (maxSteps:=10000000) only [c105,rc0,sc0,g,go_sem]
    all_goals ((repeat' (first | apply And.intro | intro _)) <;> (first | omega | exact lvM))
   ·have f : failP k err (a,e) = (a,e):=by unfold failP;rw [g];rfl
    rw [f] at h2;injection h2 with h2 h3;subst h2;subst h3
    simp +contextual (maxSteps:=10000000) only [c105,rc0,sc0,g,go_sem]
    all_goals ((repeat' (first | apply And.intro | intro _)) <;> (first | omega | exact lvM))
  ·cases h
 ·cases h
theorem ok71 : OkAtE Tryz.prog 71 (φC gMust):=by
 have hM : MonoH []:=.nil
 refine okC_of (l:=[]) (m:=[]) (ee:=[(69,φC gMay),(105,φC gFail)]) .nil .nil (.cons ok69 (.cons ok105 .nil)) fn71 fun H p n xs a e rest r a' e' hp htk hlen h=>?_
 unfold gMust at h
 split at h
 ·rename_i s
  injection h with h;injection h with h1 h2
  subst h1
  have ca0:=fun g rest a e=>φC_at0 (n:=n) hp htk hlen g rest a e
  have rc0:=fun X off=>rd_cu0 (p:=p) hp X off
  refine ⟨by simp,by simp [D.cl,D.clL],fun T=>?_⟩
  rcases tf (isP xs (a,e) s) with g | g
  ·have f : mustP xs s (a,e) = (a + 1,e):=by unfold mustP;rw [g];rfl
   rw [f] at h2;injection h2 with h2 h3;subst h2;subst h3
   simp +contextual (maxSteps:=10000000) only [c71,ca0,gMay,g,go_sem]
   all_goals ((repeat' (first | apply And.intro | intro _)) <;> (first | omega | exact lvM))
  ·have f : mustP xs s (a,e) = failP a 2 (a,e):=by unfold mustP;rw [g];rfl
   rw [f] at h2
   obtain ⟨a1,e1⟩ : ∃ y : St,failP a 2 (a,e) = y:=⟨_,rfl⟩
   have hf : gFail [.int .i64 (a : Nat),.int .i64 2] xs a e = some (.tup [],failP a 2 (a,e)):=by simp only [gFail];rw [if_pos (by omega),Int.toNat_natCast]
   obtain ⟨y1,y2,hy⟩ : ∃ y1 y2,failP a 2 (a,e) = (y1,y2):=⟨_,_,rfl⟩
   rw [hy] at hf h2
   injection h2 with h2 h3;subst h2;subst h3
   simp +contextual (maxSteps:=10000000) only [c71,ca0,gMay,g,rc0,hf,go_sem]
   all_goals ((repeat' (first | apply And.intro | intro _)) <;> (first | omega | exact lvM))
 ·cases h
end GP
namespace GP
open Go Go.Proofs
set_option maxRecDepth 100000
def kindP (toks : List D) (k : Int) (st : St) : D × St:=if tk (nowS toks st) != k then (zT,failP st.1 2 st) else (nowS toks st,(st.1 + 1,st.2))
def gKind : GE:=fun rest toks a e=>match rest with
 | [.int .i64 k]=>if k == 0 then none else some (kindP toks k (a,e))
 | _=>none
theorem gFail_at (a : Nat) (err : Int) (toks : List D) (e : Int) : gFail [.int .i64 (a : Nat),.int .i64 err] toks a e = some (.tup [],failP a err (a,e)):=by
 simp only [gFail];rw [if_pos (by omega),Int.toNat_natCast]
theorem gFail_of (m : Nat) (err : Int) (toks : List D) (a : Nat) (e : Int) : gFail [.int .i64 (m : Nat),.int .i64 err] toks a e = some (.tup [],failP m err (a,e)):=by
 simp only [gFail];rw [if_pos (by omega),Int.toNat_natCast]
theorem kindP_cl {toks : List D} (h : toks.all tokB = true) (k : Int) (st : St) : ∃ k0 s0 n0,(kindP toks k st).1 = mkT k0 s0 n0 /\ s0.length <= 2 ^ 47:=by
 unfold kindP
 split
 ·exact ⟨0,[],0,rfl,by simp⟩
 ·exact nowP_tok h _ _
theorem ok120 : OkAtE Tryz.prog 120 (φC gKind):=by
 have hM : MonoH [(177,φQ gNow)]:=.cons (φQ_mono gNow) .nil
 refine okC_of (l:=[]) (m:=[(177,φQ gNow)]) (ee:=[(105,φC gFail)]) .nil (.cons ok177 .nil) (.cons ok105 .nil) fn120 fun H p n xs a e rest r a' e' hp htk hlen h=>?_
 unfold gKind at h
 split at h
 ·rename_i k
  split at h
  ·cases h
  ·rename_i hk0
   have hk0 : k ≠ 0:=by simpa using hk0
   injection h with h
   obtain ⟨k0,s0,m0,e0,_⟩:=nowP_tok htk a e
   have qa:=φQ_at (n:=n) hp htk hlen;have qa0:=φQ_at0 (n:=n) hp htk hlen;have ca:=φC_at (n:=n) hp htk hlen;have ca0:=φC_at0 (n:=n) hp htk hlen;have rc:=rd_cu hp;have rc0:=rd_cu0 hp;have sc:=fun K : D -> S -> Prop=>st_cu (K:=K) hp;have sc0:=fun K : D -> S -> Prop=>st_cu0 (K:=K) hp
   have e0':=e0
   simp only [mkT] at e0'
   rcases tf (k0 != k) with g | g
   ·have f : kindP xs k (a,e) = (zT,failP a 2 (a,e)):=by simp only [kindP,nowS,e0,tk_mk];rw [if_pos g]
    rw [f] at h
    obtain ⟨y1,y2,hy⟩ : ∃ y1 y2,failP a 2 (a,e) = (y1,y2):=⟨_,_,rfl⟩
    have hf:=gFail_at a 2 xs e
    rw [hy] at hf h
    injection h with h1 h2;injection h2 with h2 h3
    subst h1;subst h2;subst h3
    refine ⟨by simp,rfl,fun T=>?_⟩
    simp +contextual (maxSteps:=10000000) only [qa,qa0,ca,ca0,rc,rc0,sc,sc0,c120,gNow,e0',pcallE hM,g,hf,go_sem]
    all_goals ((repeat' (first | apply And.intro | intro _)) <;> (first | omega | exact lvM))
   ·have f : kindP xs k (a,e) = (mkT k0 s0 m0,(a + 1,e)):=by simp only [kindP,nowS,e0,tk_mk];rw [if_neg (by rw [g];decide)]
    rw [f] at h
    have hlt := nowP_lt (toks := xs) (a := a) (e := e) (by rw [e0, tk_mk]; have : k0 = k := by simpa using g
                                                           omega)
    have w:=wrap_a (a:=a) (by omega)
    injection h with h1 h2;injection h2 with h2 h3
    subst h1;subst h2;subst h3
    refine ⟨by simp,rfl,fun T=>?_⟩
    simp only [mkT]
    simp +contextual (maxSteps:=10000000) only [qa,qa0,ca,ca0,rc,rc0,sc,sc0,c120,gNow,e0',pcallE hM,g,w,go_sem]
    all_goals ((repeat' (first | apply And.intro | intro _)) <;> (first | omega | exact lvM))
 ·cases h
def keptW : List (List UInt8):=[[102,97,99,116],[116,114,117,116,104],[110,117,109,98,101,114],[116,101,120,116],[116,105,109,101],[98,97,103],[117,115,101],[112,111,108,105,99,121],[98,121],[102,111,114],[112,101,114,109,105,116],[100,101,110,121],[105,102],[100,117,116,121],[97,100,118,105,99,101],[116,114,117,101],[102,97,108,115,101],[110,111,119],[111,114],[97,110,100],[110,111,116],[105,110],[104,97,115],[114,111,108,101],[115,105,122,101],[115,117,98,106,101,99,116],[114,101,115,111,117,114,99,101],[97,99,116,105,111,110],[101,110,118]]
def keptB (s : List UInt8) : Bool:=keptW.any (fun x=>s == x)
def φkeptL : List D -> Option D
 | []=>some (.sl none (keptW.map .str))
 | _=>none
theorem ok48 : OkAt Tryz.prog 48 φkeptL:=by
 refine ok_of (l:=[]) .nil fn48 fun args r h=>?_
 unfold φkeptL at h
 split at h
 ·injection h with h;subst h
  refine ⟨by simp,by decide,fun H T=>?_⟩
  simp +contextual (maxSteps:=10000000) only [c48,go_sem]
  first | rfl | simp only [keptW,List.map_cons,List.map_nil,D.erase,D.eraseL]
 ·cases h
theorem cont_kept (s : List UInt8) : φcontS [.sl none (keptW.map .str),.str s] = some (.bool (keptB s)):=by
 have hL : isLs isTx (.sl none (keptW.map D.str)):=⟨false,keptW.map D.str,rfl,by decide,fun x hx=>by
  obtain ⟨y,hy,rfl⟩:=List.mem_map.1 hx
  have key : ∀ y ∈ keptW,y.length <= 2 ^ 47:=by decide
  exact ⟨y,rfl,key y hy⟩⟩
 simp only [φcontS]
 rw [if_pos hL]
 congr 2
def φkept : List D -> Option D
 | [.str s]=>some (.bool (keptB s))
 | _=>none
theorem ok17 : OkAt Tryz.prog 17 φkept:=by
 refine ok_of (l:=[(48,φkeptL),(47,φcontS)]) (.cons ok48 (.cons ok47L .nil)) fn17 fun args r h=>?_
 unfold φkept at h
 split at h
 ·rename_i s
  injection h with h;subst h
  have p1 : φkeptL [] = some (.sl none (keptW.map .str)):=rfl
  have p2:=cont_kept s
  have e1 : D.eraseL [.sl none (keptW.map D.str),.str s] = [.sl none (keptW.map D.str),.str s]:=by simp only [D.eraseL,D.erase,eraseL_id (l:=keptW.map D.str) (fun x hx=>by obtain ⟨y,_,rfl⟩:=List.mem_map.1 hx;rfl)]
  obtain ⟨ks,hk⟩ : ∃ ks,keptW.map D.str = ks:=⟨_,rfl⟩
  rw [hk] at p1 p2 e1
  refine ⟨by simp,by simp [D.cl],fun H T=>?_⟩
  simp +contextual (maxSteps:=10000000) only [c17,p1,p2,e1,go_sem]
 ·cases h
def nameP (toks : List D) (st : St) : List UInt8 × St:=if (tk (nowS toks st) != 1) || keptB (ts (nowS toks st)) then ([],failP st.1 2 st) else (ts (nowS toks st),(st.1 + 1,st.2))
def gName : GE:=fun rest toks a e=>match rest with
 | []=>some (.str (nameP toks (a,e)).1,(nameP toks (a,e)).2)
 | _=>none
theorem ok121 : OkAtE Tryz.prog 121 (φC gName):=by
 have hM : MonoH [(177,φQ gNow)]:=.cons (φQ_mono gNow) .nil
 refine okC_of (l:=[(17,φkept)]) (m:=[(177,φQ gNow)]) (ee:=[(105,φC gFail),(120,φC gKind)]) (.cons ok17 .nil) (.cons ok177 .nil) (.cons ok105 (.cons ok120 .nil)) fn121 fun H p n xs a e rest r a' e' hp htk hlen h=>?_
 unfold gName at h
 split at h
 ·injection h with h
  obtain ⟨k0,s0,m0,e0,_⟩:=nowP_tok htk a e
  have qa:=φQ_at (n:=n) hp htk hlen;have qa0:=φQ_at0 (n:=n) hp htk hlen;have ca:=φC_at (n:=n) hp htk hlen;have ca0:=φC_at0 (n:=n) hp htk hlen;have rc:=rd_cu hp;have rc0:=rd_cu0 hp;have sc:=fun K : D -> S -> Prop=>st_cu (K:=K) hp;have sc0:=fun K : D -> S -> Prop=>st_cu0 (K:=K) hp
  have e0':=e0
  simp only [mkT] at e0'
  have pk : φkept [.str s0] = some (.bool (keptB s0)):=rfl
  rcases tf ((k0 != 1) || keptB s0) with g | g
  ·have f : nameP xs (a,e) = ([],failP a 2 (a,e)):=by simp only [nameP,nowS,e0,tk_mk,ts_mk];rw [if_pos g]
   rw [f] at h
   obtain ⟨y1,y2,hy⟩ : ∃ y1 y2,failP a 2 (a,e) = (y1,y2):=⟨_,_,rfl⟩
   have hf:=gFail_at a 2 xs e
   rw [hy] at hf h
   injection h with h1 h2;injection h2 with h2 h3
   subst h1;subst h2;subst h3
   refine ⟨by simp,by simp [D.cl],fun T=>?_⟩
   rcases tf (k0 != 1) with g1 | g1
   ·simp +contextual (maxSteps:=10000000) only [qa,qa0,ca,ca0,rc,rc0,sc,sc0,c121,gNow,e0',pcallE hM,g1,hf,go_sem]
    all_goals ((repeat' (first | apply And.intro | intro _)) <;> (first | omega | exact lvM))
   ·have g2 : keptB s0 = true:=by rw [g1] at g;simpa using g
    rw [g2] at pk
    simp +contextual (maxSteps:=10000000) only [qa,qa0,ca,ca0,rc,rc0,sc,sc0,c121,gNow,e0',pcallE hM,g1,pk,hf,go_sem]
    all_goals ((repeat' (first | apply And.intro | intro _)) <;> (first | omega | exact lvM))
  ·have f : nameP xs (a,e) = (s0,(a + 1,e)):=by simp only [nameP,nowS,e0,tk_mk,ts_mk];rw [if_neg (by rw [g];decide)]
   rw [f] at h
   injection h with h1 h2;injection h2 with h2 h3
   subst h1;subst h2;subst h3
   simp only [Bool.or_eq_false_iff] at g
   obtain ⟨g1,g2⟩:=g
   rw [g2] at pk
   have hk : gKind [.int .i64 1] xs a e = some (mkT k0 s0 m0,a + 1,e):=by
    simp only [gKind,kindP,nowS,e0,tk_mk]
    rw [if_neg (by decide),if_neg (by rw [g1];decide)]
   simp only [mkT] at hk
   refine ⟨by simp,by simp [D.cl],fun T=>?_⟩
   simp +contextual (maxSteps:=10000000) only [qa,qa0,ca,ca0,rc,rc0,sc,sc0,c121,gNow,e0',pcallE hM,g1,pk,hk,go_sem]
   all_goals ((repeat' (first | apply And.intro | intro _)) <;> (first | omega | exact lvM))
 ·cases h
def isStrB : D -> Bool
 | .str _=>true
 | _=>false
def strB : D -> List UInt8
 | .str s=>s
 | _=>[]
def firstP (toks : List D) (st : St) : List (List UInt8) -> Option (List UInt8)
 | []=>none
 | w :: r=>if isP toks st w then some w else firstP toks st r
def oneP (toks : List D) (ws : List (List UInt8)) (st : St) : List UInt8 × St:=match firstP toks st ws with
 | some w=>(w,(st.1 + 1,st.2))
 | none=>([],failP st.1 2 st)
def gOne : GE:=fun rest toks a e=>match rest with
 | [.sl none ds]=>if ds.all isStrB = true /\ ds.length <= 100 then some (.str (oneP toks (ds.map strB) (a,e)).1,(oneP toks (ds.map strB) (a,e)).2) else none
 | _=>none
theorem firstP_none {toks : List D} {st : St} : ∀ {ws : List (List UInt8)},(∀ w ∈ ws,isP toks st w = false) -> firstP toks st ws = none
 | [],_=>rfl
 | w :: r,h=>by
  simp only [firstP];rw [if_neg (by rw [h w (by simp)];decide)]
  exact firstP_none fun x hx=>h x (by simp [hx])
theorem firstP_at {toks : List D} {st : St} : ∀ {ws : List (List UInt8)} {i : Nat} {w : List UInt8},ws[i]? = some w -> (∀ j u,j < i -> ws[j]? = some u -> isP toks st u = false) -> isP toks st w = true -> firstP toks st ws = some w
 | [],i,w,h,_,_=>by simp at h
 | x :: r,0,w,h,_,h2=>by
  simp only [List.getElem?_cons_zero,Option.some.injEq] at h;subst h
  simp only [firstP];rw [if_pos h2]
 | x :: r,i + 1,w,h,h1,h2=>by
  simp only [firstP];rw [if_neg (by rw [h1 0 x (by omega) rfl];decide)]
  exact firstP_at (by simpa using h) (fun j u hj hu=>h1 (j + 1) u (by omega) (by simpa using hu)) h2
theorem ok119 : OkAtE Tryz.prog 119 (φC gOne):=by
 have hM : MonoH []:=.nil
 refine okC_of (l:=[]) (m:=[]) (ee:=[(69,φC gMay),(105,φC gFail)]) .nil .nil (.cons ok69 (.cons ok105 .nil)) fn119 fun H p n xs a e rest r a' e' hp htk hlen h=>?_
 unfold gOne at h
 split at h
 ·rename_i ds
  split at h
  ·rename_i hd
   obtain ⟨hd,hdl⟩:=hd
   injection h with h
   have qa:=φQ_at (n:=n) hp htk hlen;have qa0:=φQ_at0 (n:=n) hp htk hlen;have ca:=φC_at (n:=n) hp htk hlen;have ca0:=φC_at0 (n:=n) hp htk hlen;have rc:=rd_cu hp;have rc0:=rd_cu0 hp;have sc:=fun K : D -> S -> Prop=>st_cu (K:=K) hp;have sc0:=fun K : D -> S -> Prop=>st_cu0 (K:=K) hp
   have hstr : ∀ (i : Nat) (hi : i < ds.length),ds[i]? = some (.str (strB ds[i])):=fun i hi=>by
    have:=List.all_eq_true.1 hd _ (List.getElem_mem hi)
    rw [List.getElem?_eq_getElem hi]
    cases hx : ds[i] <;> rw [hx] at this <;> simp [isStrB] at this <;> rfl
   refine ⟨by simp,?_,fun T=>?_⟩
   ·injection h with h1 h2;subst h1;rfl
   simp +contextual (maxSteps:=10000000) only [qa,qa0,ca,ca0,rc,rc0,sc,sc0,c119,go_sem]
   refine W_for (fun i s'=>s'.t 0 = .ptr p 0 /\ s'.t 7 = .sl none ds /\ s'.t 8 = .int .i64 ds.length /\ s'.t 9 = .int .i64 (i : Nat) /\ s'.H = H.set p (.row [sliceD n xs,.int .i64 ((a : Nat) : Int),.int .i64 e]) /\ s'.T = T /\ i <= ds.length /\ ∀ j u,j < i -> (ds.map strB)[j]? = some u -> isP xs (a,e) u = false) ds.length
    ⟨0,by simp [upd,argT],by simp [upd],by simp [upd],by simp [upd],rfl,rfl,by omega,fun j u h=>by omega⟩ (fun i s h=>h.2.2.2.2.2.2.1) ?_ (XE_mono _ _ _)
   rintro i ⟨t,B,T'⟩ ⟨r0,r7,r8,r9,rfl,rfl,hi,hN⟩
   simp only at r0 r7 r8 r9
   by_cases hlt : i < ds.length
   ·have d1 : decide (((i : Nat) : Int) < ds.length) = true:=by simp only [decide_eq_true_eq];omega
    have ex:=hstr i hlt
    obtain ⟨w,hw⟩ : ∃ w,strB ds[i] = w:=⟨_,rfl⟩
    rw [hw] at ex
    have hmap : (ds.map strB)[i]? = some w:=by rw [List.getElem?_map,ex];rfl
    have ws : IntKind.i64.wrap (((i : Nat) : Int) + 1) = ((i + 1 : Nat) : Int):=by rw [show ((i : Nat) : Int) + 1 = ((i + 1 : Nat) : Int) by omega];exact wrap_of _ (by omega) (by omega)
    rcases tf (isP xs (a,e) w) with g | g
    ·have f : oneP xs (ds.map strB) (a,e) = (w,(a + 1,e)):=by unfold oneP;rw [firstP_at hmap hN g]
     rw [f] at h
     injection h with h1 h2;injection h2 with h2 h3
     subst h1;subst h2;subst h3
     simp +contextual (maxSteps:=10000000) only [qa,qa0,ca,ca0,rc,rc0,sc,sc0,r0,r7,r8,r9,d1,ex,gMay,g,go_sem]
     all_goals ((repeat' (first | apply And.intro | intro _)) <;> (first | omega | exact lvM))
    ·simp +contextual (maxSteps:=10000000) only [qa,qa0,ca,ca0,rc,rc0,sc,sc0,r0,r7,r8,r9,d1,ex,gMay,g,ws,go_sem]
     refine ⟨by omega,fun j u hj hu=>?_⟩
     rcases Nat.lt_or_ge j i with h' | h'
     ·exact hN j u h' hu
     ·have : j = i:=by omega
      subst this
      rw [hmap] at hu;injection hu with hu;subst hu;exact g
   ·have d1 : decide (((i : Nat) : Int) < ds.length) = false:=by simp only [decide_eq_false_iff_not];omega
    have f : oneP xs (ds.map strB) (a,e) = ([],failP a 2 (a,e)):=by
     unfold oneP
     rw [firstP_none fun w hw=>by
      obtain ⟨j,hj,rfl⟩:=List.getElem_of_mem hw
      exact hN j _ (by simp at hj;omega) (by rw [List.getElem?_eq_getElem hj])]
    rw [f] at h
    obtain ⟨y1,y2,hy⟩ : ∃ y1 y2,failP a 2 (a,e) = (y1,y2):=⟨_,_,rfl⟩
    have hf:=gFail_at a 2 xs e
    rw [hy] at hf h
    injection h with h1 h2;injection h2 with h2 h3
    subst h1;subst h2;subst h3
    simp +contextual (maxSteps:=10000000) only [qa,qa0,ca,ca0,rc,rc0,sc,sc0,r0,r7,r8,r9,d1,hf,go_sem]
    all_goals ((repeat' (first | apply And.intro | intro _)) <;> (first | omega | exact lvM))
  ·cases h
 ·cases h
def whoW : List (List UInt8):=[[115,117,98,106,101,99,116],[114,101,115,111,117,114,99,101],[97,99,116,105,111,110],[101,110,118]]
def attrP (toks : List D) (st : St) : List UInt8 × List UInt8 × St :=
 ((oneP toks whoW st).1,(nameP toks (mustP toks [46] (oneP toks whoW st).2)).1,(nameP toks (mustP toks [46] (oneP toks whoW st).2)).2)
def gAttr : GE:=fun rest toks a e=>match rest with
 | []=>some (.tup [.str (attrP toks (a,e)).1,.str (attrP toks (a,e)).2.1],(attrP toks (a,e)).2.2)
 | _=>none
theorem ok118 : OkAtE Tryz.prog 118 (φC gAttr):=by
 have hM : MonoH []:=.nil
 refine okC_of (l:=[]) (m:=[]) (ee:=[(119,φC gOne),(71,φC gMust),(121,φC gName)]) .nil .nil (.cons ok119 (.cons ok71 (.cons ok121 .nil))) fn118 fun H p n xs a e rest r a' e' hp htk hlen h=>?_
 unfold gAttr at h
 split at h
 ·injection h with h
  have qa:=φQ_at (n:=n) hp htk hlen;have qa0:=φQ_at0 (n:=n) hp htk hlen;have ca:=φC_at (n:=n) hp htk hlen;have ca0:=φC_at0 (n:=n) hp htk hlen;have rc:=rd_cu hp;have rc0:=rd_cu0 hp;have sc:=fun K : D -> S -> Prop=>st_cu (K:=K) hp;have sc0:=fun K : D -> S -> Prop=>st_cu0 (K:=K) hp
  have h1 : gOne [.sl none [.str [115,117,98,106,101,99,116],.str [114,101,115,111,117,114,99,101],.str [97,99,116,105,111,110],.str [101,110,118]]] xs a e = some (.str (oneP xs whoW (a,e)).1,(oneP xs whoW (a,e)).2):=rfl
  obtain ⟨w1,⟨a1,e1⟩,hy1⟩ : ∃ w1 st1,oneP xs whoW (a,e) = (w1,st1):=⟨_,_,rfl⟩
  obtain ⟨⟨a2,e2⟩,hy2⟩ : ∃ st2,mustP xs [46] (a1,e1) = st2:=⟨_,rfl⟩
  obtain ⟨w3,⟨a3,e3⟩,hy3⟩ : ∃ w3 st3,nameP xs (a2,e2) = (w3,st3):=⟨_,_,rfl⟩
  have f : attrP xs (a,e) = (w1,w3,a3,e3):=by simp only [attrP,hy1,hy2,hy3]
  rw [hy1] at h1
  simp only at h1
  rw [f] at h
  injection h with g1 g2;injection g2 with g2 g3
  subst g1;subst g2;subst g3
  have h2 : gMust [.str [46]] xs a1 e1 = some (.tup [],a2,e2):=by simp only [gMust,hy2]
  have h3 : gName [] xs a2 e2 = some (.str w3,a3,e3):=by simp only [gName,hy3]
  refine ⟨by simp,by simp [D.cl,D.clL],fun T=>?_⟩
  simp +contextual (maxSteps:=10000000) only [qa,qa0,ca,ca0,rc,rc0,sc,sc0,c118,h1,h2,h3,go_sem]
  all_goals ((repeat' (first | apply And.intro | intro _)) <;> (first | omega | exact lvM))
 ·cases h
def endP (toks : List D) (st : St) : St:=if (st.2 == 0) && decide (st.1 < toks.length) then (st.1,2) else st
def gEnd : GE:=fun rest toks a e=>match rest with
 | []=>some (if (endP toks (a,e)).2 == 0 then .tup [.int .i64 0,.int .i64 0] else .tup [.int .i64 ((endP toks (a,e)).1 : Nat),.int .i64 (endP toks (a,e)).2],endP toks (a,e))
 | _=>none
theorem ok50 : OkAtE Tryz.prog 50 (φC gEnd):=by
 have hM : MonoH []:=.nil
 refine okC_of (l:=[]) (m:=[]) (ee:=[(105,φC gFail)]) .nil .nil (.cons ok105 .nil) fn50 fun H p n xs a e rest r a' e' hp htk hlen h=>?_
 unfold gEnd at h
 split at h
 ·injection h with h
  have qa:=φQ_at (n:=n) hp htk hlen;have qa0:=φQ_at0 (n:=n) hp htk hlen;have ca:=φC_at (n:=n) hp htk hlen;have ca0:=φC_at0 (n:=n) hp htk hlen;have rc:=rd_cu hp;have rc0:=rd_cu0 hp;have sc:=fun K : D -> S -> Prop=>st_cu (K:=K) hp;have sc0:=fun K : D -> S -> Prop=>st_cu0 (K:=K) hp
  refine ⟨by simp,?_,fun T=>?_⟩
  ·injection h with h1 h2;subst h1;split <;> rfl
  have hf : gFail [.int .i64 (a : Nat),.int .i64 2] xs a e = some (.tup [],failP a 2 (a,e)):=gFail_at a 2 xs e
  rcases tf (e == 0) with g | g
  ·rcases tf (decide ((a : Int) < xs.length)) with g1 | g1
   ·have g1' : decide (a < xs.length) = true:=by simpa using g1
    have f : endP xs (a,e) = (a,2):=by unfold endP;rw [g,g1'];rfl
    have f2 : failP a 2 (a,e) = (a,2):=by unfold failP;rw [g];rfl
    rw [f2] at hf
    rw [f] at h
    injection h with h1 h2;injection h2 with h2 h3
    subst h1;subst h2;subst h3
    simp +contextual (maxSteps:=10000000) only [qa,qa0,ca,ca0,rc,rc0,sc,sc0,c50,g,g1,hf,go_sem]
    all_goals ((repeat' (first | apply And.intro | intro _)) <;> (first | omega | exact lvM))
   ·have g1' : decide (a < xs.length) = false:=by simpa using g1
    have f : endP xs (a,e) = (a,e):=by unfold endP;rw [g,g1'];rfl
    rw [f] at h
    have e0 : e = 0:=by simpa using g
    subst e0
    injection h with h1 h2;injection h2 with h2 h3
    subst h1;subst h2;subst h3
    simp +contextual (maxSteps:=10000000) only [qa,qa0,ca,ca0,rc,rc0,sc,sc0,c50,g,g1,go_sem]
    all_goals ((repeat' (first | apply And.intro | intro _)) <;> (first | omega | exact lvM))
  ·have f : endP xs (a,e) = (a,e):=by unfold endP;rw [g];rfl
   rw [f] at h
   simp only [g] at h
   injection h with h1 h2;injection h2 with h2 h3
   subst h1;subst h2;subst h3
   simp +contextual (maxSteps:=10000000) only [qa,qa0,ca,ca0,rc,rc0,sc,sc0,c50,g,go_sem]
   all_goals ((repeat' (first | apply And.intro | intro _)) <;> (first | omega | exact lvM))
 ·cases h
end GP
