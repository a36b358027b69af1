import Derived.Test.YtainhmbnbgonhaaGreatDoorM10
import Derived.Test.YtainhmbnbgonhaaGreatDoorM12
set_option linter.unusedSimpArgs false
set_option linter.unnecessarySimpa false
namespace GP
open Go Go.Proofs
set_option maxRecDepth 100000
def kindsW : D:=.sl none [.str [],.str wTruthW,.str wNumberW,.str wTextW,.str wTimeW]
def φkndW : List D -> Option D
 | []=>some kindsW
 | _=>none
theorem ok137 : OkAt Tryz.prog 137 φkndW:=by
 refine ok_of (l:=[]) .nil fn137 fun args r h=>?_
 unfold φkndW at h
 split at h
 ·injection h with h;subst h
  refine ⟨by simp,by simp [kindsW,D.cl,D.clL],fun H T=>?_⟩
  unfold kindsW wTruthW wNumberW wTextW wTimeW
  simp +contextual (maxSteps:=10000000) only [c137,go_sem]
 ·cases h
theorem own84 {l : List D} {xs : List D} (h : φsL [.sl none l] = some xs) (h0 : xs ≠ []) (H : Hp) (T : Tk) : φOwn 3 φsL H T [.sl none l] = some (.sl (some T.length) xs,H,T ++ [some (xs.length,3)]):=by
 simp only [φOwn,h]
theorem sg_all {l : List (List UInt8)} (h : ∀ s ∈ l,s.length <= 2 ^ 47) (h0 : l ≠ []) (hl : l.length <= 2 ^ 20) : φsL [.sl none (l.map D.str)] = some (l.map signT):=by
 simp only [φsL]
 rw [if_pos ⟨List.all_eq_true.2 fun x hx=>by
  obtain ⟨s,hs,rfl⟩:=List.mem_map.1 hx
  simpa [isStrD] using h s hs,by simpa using h0,by rw [List.length_map];exact hl⟩,List.map_map]
 rfl
open Classical in
noncomputable def φfactP : List D -> Option D
 | [f]=>if isF f /\ okF f = true then some (.sl none (factT f)) else none
 | _=>none
theorem kind_ix {k : Int} (h1 : 1 <= k) (h4 : k <= 4) : ∃ j : Nat,k = (j : Int) /\ ([D.str [],.str wTruthW,.str wNumberW,.str wTextW,.str wTimeW])[j]? = some (.str (kindN k)) /\ j < 5:=by
 have : k = 1 ∨ k = 2 ∨ k = 3 ∨ k = 4:=by omega
 rcases this with rfl | rfl | rfl | rfl
 ·exact ⟨1,rfl,rfl,by omega⟩
 ·exact ⟨2,rfl,rfl,by omega⟩
 ·exact ⟨3,rfl,rfl,by omega⟩
 ·exact ⟨4,rfl,rfl,by omega⟩
theorem kind_w {k : Int} (h1 : 1 <= k) (h4 : k <= 4) : formI 1 (kindN k) 0 = true:=by
 have : k = 1 ∨ k = 2 ∨ k = 3 ∨ k = 4:=by omega
 rcases this with rfl | rfl | rfl | rfl <;> decide
set_option maxHeartbeats 8000000 in
theorem ok83 : OkAt Tryz.prog 83 φfactP:=by
 have hM : MonoH []:=.nil
 have hXX:=XG.X (P:=Tryz.prog) (u:=[]) (.cons ok87 (.cons ok137 .nil)) .nil .nil (.cons ok84 .nil)
 refine okX_of (X:=XG Tryz.prog [] [(87,φsgn),(137,φkndW)] [] [] [(84,φOwn 3 φsL)]) hXX fn83b fun args r h=>?_
 unfold φfactP at h
 split at h
 ·rename_i f
  split at h
  ·rename_i hc
   injection h with h;subst h
   have hk:=factT_tok f
   refine ⟨by simp,hk.cl _ _,fun H T=>?_⟩
   obtain ⟨hf,ho⟩:=hc
   have ef:=isF_erase hf
   obtain ⟨w,n,k,bg,rfl,k1,k2,k3,k4⟩:=hf
   have ho : (inB whoW w && (nameB n && (!(decide (k < 1)) && !(decide (4 < k))))) = true:=ho
   simp only [Bool.and_eq_true,Bool.not_eq_true',decide_eq_false_iff_not] at ho
   obtain ⟨ow,on,o1,o2⟩:=ho
   have o1 : 1 <= k:=by omega
   have o2 : k <= 4:=by omega
   have s1:=sT_word (s:=wFact) (by decide)
   have s2:=sT_who ow
   have s3:=sT_sign (s:=[46]) (by decide)
   have s4:=sT_name on
   have s5:=sT_word (kind_w o1 o2)
   have eF : factT (mkF w n k bg) = [mkT 1 wFact 0,mkT 1 w 0,mkT 5 [46] 0,mkT 1 n 0,mkT 1 (kindN k) 0] ++ bagT bg ++ [mkT 5 [59] 0]:=rfl
   rw [eF]
   have hkl : (kindN k).length <= 2 ^ 47:=by
    have : k = 1 ∨ k = 2 ∨ k = 3 ∨ k = 4:=by omega
    rcases this with rfl | rfl | rfl | rfl <;> decide
   obtain ⟨j,hj,hjx,hj5⟩:=kind_ix o1 o2
   obtain ⟨kn,hkn⟩ : ∃ z,kindN k = z:=⟨_,rfl⟩
   rw [hkn] at s5 hkl hjx ⊢
   have pl:=sg_all (l:=[wFact,w,[46],n,kn]) (fun s hs=>by
    simp only [List.mem_cons,List.not_mem_nil,or_false] at hs
    rcases hs with rfl | rfl | rfl | rfl | rfl
    ·decide
    ·exact k1
    ·decide
    ·exact k2
    ·exact hkl) (by simp) (by simp)
   simp only [List.map_cons,List.map_nil,s1,s2,s3,s4,s5] at pl
   have p84:=fun H T=>own84 pl (by simp) H T
   simp only [List.length_cons,List.length_nil,Nat.zero_add,Nat.reduceAdd] at p84
   have pb : φsgn [.str [98,97,103]] = some (mkT 1 wBagW 0):=by rw [sign_at (by decide),sT_word (by decide)];rfl
   have pq : φsgn [.str [59]] = some (mkT 5 [59] 0):=by rw [sign_at (by decide),sT_sign (by decide)]
   have pk : φkndW [] = some kindsW:=rfl
   have hag : isTks [mkT 1 wFact 0,mkT 1 w 0,mkT 5 [46] 0,mkT 1 n 0,mkT 1 kn 0]:=isTks.cons _ _ _ (isTks.cons _ _ _ (isTks.cons _ _ _ (isTks.cons _ _ _ (isTks.cons _ _ _ .nil))))
   have hac:=accT.mk 3 T (T':=T) (ExtT.refl T) [mkT 1 wFact 0,mkT 1 w 0,mkT 5 [46] 0,mkT 1 n 0,mkT 1 kn 0] [some (1,3)]
   simp only [List.length_cons,List.length_nil,Nat.zero_add,Nat.reduceAdd] at hac
   simp only [mkT,wFact] at p84
   simp only [mkT,wBagW] at pb pq
   simp only [kindsW] at pk
   subst hj
   simp only [mkF] at ef
   cases bg with
   | true =>
    simp +contextual (maxSteps:=10000000) only [c83b,mkF,mkT,ef,pk,hjx,p84,pb,pq,pcallG hM,go_sem]
    refine app_accT (bytes:=32) [mkT 1 wBagW 0] hac rfl hag.fit (by simp) (by simp) fun d2 T2 hA2=>?_
    simp +contextual (maxSteps:=10000000) only [pq,mkT,pcallG hM,go_sem]
    refine app_accT (bytes:=32) [mkT 5 [59] 0] (by first | exact hA2 | exact hA2.app _) rfl (hag.app (isTks.cons 1 wBagW 0 .nil)).fit (by simp) (by simp) fun d3 T3 hA3=>?_
    simp +contextual (maxSteps:=10000000) only [go_sem]
    have hq:=(hag.app (isTks.cons 1 wBagW 0 .nil)).app (isTks.cons 5 [59] 0 .nil)
    exact leavesE_mk (hA3.erase hq.erase (by simp)) ⟨_,rfl⟩ hA3.1
   | false =>
    simp +contextual (maxSteps:=10000000) only [c83b,mkF,mkT,ef,pk,hjx,p84,pb,pq,pcallG hM,go_sem]
    refine app_accT (bytes:=32) [mkT 5 [59] 0] hac rfl hag.fit (by simp) (by simp) fun d3 T3 hA3=>?_
    simp +contextual (maxSteps:=10000000) only [go_sem]
    have hq:=hag.app (isTks.cons 5 [59] 0 .nil)
    exact leavesE_mk (hA3.erase hq.erase (by simp)) ⟨_,rfl⟩ hA3.1
  ·cases h
 ·cases h
open Classical in
noncomputable def φsaidP : List D -> Option D
 | [.str w,l]=>if formI 1 w 0 = true /\ w.length <= 2 ^ 47 /\ isTxs l /\ (txs l).length <= 2 ^ 20 then some (sliceD true (saidT w (txs l))) else none
 | _=>none
set_option maxHeartbeats 4000000 in
theorem ok139 : OkAt Tryz.prog 139 φsaidP:=by
 have hX:=XL_mono [(87,φsgn)]
 refine ok_of (l:=[(87,φsgn)]) (.cons ok87 .nil) fn139 fun args r h=>?_
 unfold φsaidP at h
 split at h
 ·rename_i w l
  split at h
  ·rename_i hc
   injection h with h;subst h
   obtain ⟨hw,hwl,⟨m,xs,rfl,hx1,hx2⟩,hlen⟩:=hc
   rw [txs_mk] at hlen ⊢
   have hk:=saidT_tok w xs
   refine ⟨by simp,(mk_cat _).2 (hk.cl _ _),fun H T=>?_⟩
   have pw : φsgn [.str w] = some (mkT 1 w 0):=by rw [sign_at hwl,sT_word hw]
   simp +contextual (maxSteps:=10000000) only [c139,go_sem]
   refine W_each (xs.map D.str) (fun i s=>s.t 0 = .str w /\ s.t 8 = sliceD m (xs.map D.str) /\ s.t 9 = .int .i64 (xs.length : Int) /\ s.t 10 = .int .i64 (i : Int) /\ s.H = H /\ (i = 0 -> s.t 5 = .nils) /\ accT 3 T (saidT w (xs.take i)) (s.t 5) s.T) hX ⟨by simp [upd,argT],by simp [upd,argT],by simp [upd],by simp [upd],rfl,by simp [upd],by simpa [upd,saidT] using accT.nil 3 T (ExtT.refl _)⟩ ?_ ?_
   ·rintro i x ⟨t,B,U⟩ hx hm hi ⟨t0,t8,t9,t10,rfl,_,hA⟩
    simp only at t0 t8 t9 t10 hA
    rw [List.length_map] at hi
    have d1 : decide ((i : Int) < xs.length) = true:=by simpa using hi
    obtain ⟨s,hs,rfl⟩:=List.mem_map.1 hm
    have hx':=hx
    rw [List.getElem?_map,Option.map_eq_some_iff] at hx'
    obtain ⟨s',hs',e'⟩:=hx'
    injection e' with e';subst e'
    have nx:=saidT_succ (w:=w) hs'
    have hl:=saidT_len w (xs.take i)
    have hl2 : (xs.take i).length <= 2 ^ 20:=by rw [List.length_take];omega
    simp +contextual (maxSteps:=10000000) only [t0,t8,t9,t10,d1,hx,pw,mkT,go_sem]
    refine app_accT (bytes:=32) _ (hA.app _) rfl (saidT_tok _ _).fit (by simp;omega) (by simp;omega) fun d2 T2 hA2=>?_
    simp +contextual (maxSteps:=10000000) only [t0,t8,t9,t10,wrap_succ i (by omega),go_sem]
    rw [nx]
    simpa [mkT] using hA2
   ·rintro ⟨t,B,U⟩ ⟨t0,t8,t9,t10,rfl,hn,hA⟩
    simp only at t0 t8 t9 t10 hn hA
    rw [List.length_map] at t10 hn hA
    have d1 : decide ((xs.length : Int) < xs.length) = false:=by simp
    rw [List.take_length] at hA
    simp +contextual (maxSteps:=10000000) only [t0,t8,t9,t10,d1,go_sem]
    refine ⟨?_,⟨[],(List.append_nil _).symm⟩,hA.1⟩
    have hl:=saidT_len w xs
    by_cases h0 : xs.length = 0
    ·have : saidT w xs = []:=List.eq_nil_of_length_eq_zero (by omega)
     rw [hn h0,this];rfl
    ·have hne : saidT w xs ≠ []:=fun e=>by rw [e] at hl;simp at hl;omega
     rw [hA.erase hk.erase hne]
     cases hq : saidT w xs with
     | nil=>exact (hne hq).elim
     | cons a l=>rfl
  ·cases h
 ·cases h
theorem catn {ls : List D} {Z : List D} (hs : ∀ y ∈ ls,∃ m xs,y = sliceD m xs) (e : catD ls = Z) (hk : isTks Z) (hn : Z.length <= 2 ^ 40) (hl : ls.length <= 2 ^ 40) (h0 : Z ≠ []) : φcat 3 32 [.sl none ls] = some (.sl none Z):=by
 rw [cat_at hs (by rw [e];exact hk) (by rw [e];exact hn) hl,e]
 cases Z with
 | nil=>exact (h0 rfl).elim
 | cons a l=>rfl
open Classical in
noncomputable def φruleP : List D -> Option D
 | [r]=>if goodR false r /\ okR r = true then some (.sl none (ruleT false r)) else none
 | _=>none
set_option maxHeartbeats 8000000 in
theorem ok86 : OkAt Tryz.prog 86 φruleP:=by
 have hX:=XL_mono [(84,φsP),(85,φcat 3 32),(75,φxpr nodeB),(139,φsaidP)]
 refine ok_of (l:=[(84,φsP),(85,φcat 3 32),(75,φxpr nodeB),(139,φsaidP)]) (.cons tok84 (.cons ok85 (.cons (ok75 nodeB) (.cons ok139 .nil)))) fn86 fun args r h=>?_
 unfold φruleP at h
 split at h
 ·rename_i rr
  split at h
  ·rename_i hc
   injection h with h;subst h
   have hk:=ruleT_tok false rr
   refine ⟨by simp,hk.cl _ _,fun H T=>?_⟩
   obtain ⟨⟨hs,hg,hd,ha⟩,ho⟩:=hc
   have er:=isR_erase hs
   obtain ⟨pm,hi,nm,e,m,m',du,ad,rfl,he,k1,k2,k3⟩:=hs
   simp only [okR,rNm_mk,rHi_mk,rE_mk _ _ _ _ _ _ _ _ he,rDu_mk,rAd_mk] at ho
   rw [rHi_mk,rE_mk _ _ _ _ _ _ _ _ he] at hg
   rw [rDu_mk] at hd
   rw [rAd_mk] at ha
   have hE:=ag_isE he
   have ee:=isE_erase he
   have eR : ruleT false (mkR pm hi nm e m m' du ad) = [mkT 1 (if pm then wPermit else wDeny) 0,mkT 1 nm 0] ++ (if hi then mkT 1 wIf 0 :: tkC false e else []) ++ saidT wDuty du ++ saidT wAdvice ad ++ [mkT 5 [59] 0]:=by
    simp only [ruleT,ifT,rPm_mk,rNm_mk,rHi_mk,rDu_mk,rAd_mk,rE_mk _ _ _ _ _ _ _ _ he]
   rw [eR] at hk ⊢
   simp only [Bool.and_eq_true] at ho
   have sw : ∀ b : Bool,signT (if b then wPermit else wDeny) = mkT 1 (if b then wPermit else wDeny) 0:=fun b=>by cases b <;> exact sT_word (by decide)
   have hw : ∀ b : Bool,(if b then wPermit else wDeny).length <= 2 ^ 47:=fun b=>by cases b <;> decide
   have sn:=sT_name ho.1
   have p1 : ∀ b : Bool,φsP [.sl none [.str (if b then wPermit else wDeny),.str nm]] = some (.sl none [mkT 1 (if b then wPermit else wDeny) 0,mkT 1 nm 0]):=fun b=>by
    have:=sg_all (l:=[if b then wPermit else wDeny,nm]) (fun s hs=>by
     simp only [List.mem_cons,List.not_mem_nil,or_false] at hs
     rcases hs with rfl | rfl
     ·exact hw b
     ·exact k1) (by simp) (by simp)
    simp only [List.map_cons,List.map_nil,sw,sn] at this
    simp only [φsP,this];rfl
   have p2:=p_sg (a:=[105,102]) 1 (by decide) (sT_word (by decide))
   have p3:=p_sg (a:=[59]) 5 (by decide) (sT_sign (by decide))
   have q1 : φsaidP [.str wDuty,sliceD m (du.map D.str)] = some (sliceD true (saidT wDuty du)):=by
    simp only [φsaidP];rw [if_pos ⟨by decide,by decide,txs_isTxs k2,by rw [txs_mk];omega⟩,txs_mk]
   have q2 : φsaidP [.str wAdvice,sliceD m' (ad.map D.str)] = some (sliceD true (saidT wAdvice ad)):=by
    simp only [φsaidP];rw [if_pos ⟨by decide,by decide,txs_isTxs k3,by rw [txs_mk];omega⟩,txs_mk]
   obtain ⟨DU,hDU⟩ : ∃ z,sliceD m (du.map D.str) = z:=⟨_,rfl⟩
   obtain ⟨AD,hAD⟩ : ∃ z,sliceD m' (ad.map D.str) = z:=⟨_,rfl⟩
   have eu:=sl_str_erase m du
   have ea:=sl_str_erase m' ad
   have hl1:=saidT_len wDuty du
   have hl2:=saidT_len wAdvice ad
   have t1:=saidT_tok wDuty du
   have t2:=saidT_tok wAdvice ad
   rw [hDU] at q1 eu
   rw [hAD] at q2 ea
   simp only [mkR,hDU,hAD] at er
   obtain ⟨tl,htl⟩ : ∃ z,C.tl 5 c86 = z:=⟨_,rfl⟩
   have tail : ∀ (pre : List D) (t : Nat -> D) (H' : Hp) (T' : Tk),isTks pre -> pre.length <= 2 ^ 29 -> pre ≠ [] -> Ext (H ++ [.row [.bool pm,.str nm,.bool hi,cE e 0,cE e 1,cE e 2,cE e 3,cE e 4,cE e 5,cE e 6,cE e 7,DU,AD]]) H' -> ExtT T T' -> t 1 = .ptr H.length 0 -> t 4 = .sl none pre →
     W (XL [(84,φsP),(85,φcat 3 32),(75,φxpr nodeB),(139,φsaidP)]) tl (endQ [.inl 2] (Leaves (.sl none (pre ++ saidT wDuty du ++ saidT wAdvice ad ++ [mkT 5 [59] 0])) H T)) ⟨t,H',T'⟩:=by
    intro pre t H' T' hp hpl hp0 hB hT r1 r4
    subst htl
    have hZ : isTks (pre ++ saidT wDuty du ++ saidT wAdvice ad ++ [mkT 5 [59] 0]):=((hp.app t1).app t2).app (isTks.cons _ _ _ .nil)
    have hg:=hB.get (o:=H.length) (by simp;rfl)
    have pc:=catn (ls:=[.sl none pre,sliceD true (saidT wDuty du),sliceD true (saidT wAdvice ad),.sl none [mkT 5 [59] 0]]) (Z:=pre ++ saidT wDuty du ++ saidT wAdvice ad ++ [mkT 5 [59] 0]) (fun y hy=>by
     simp only [List.mem_cons,List.not_mem_nil,or_false] at hy
     rcases hy with rfl | rfl | rfl | rfl
     ·exact sl_none _
     ·exact ⟨_,_,rfl⟩
     ·exact ⟨_,_,rfl⟩
     ·exact sl_none _) (by
      simp only [catD,List.map_cons,List.map_nil,elems_sliceD,List.flatten_cons,List.flatten_nil,List.append_nil,List.append_assoc];rfl) hZ (by simp only [List.length_append,List.length_cons,List.length_nil];omega) (by simp) (by simp)
    obtain ⟨ZZ,hZZ⟩ : ∃ z,pre ++ saidT wDuty du ++ saidT wAdvice ad ++ [mkT 5 [59] 0] = z:=⟨_,rfl⟩
    rw [hZZ] at pc hZ ⊢
    have e1:=erase_sliceD true (saidT wDuty du)
    have e2:=erase_sliceD true (saidT wAdvice ad)
    rw [t1.erase] at e1
    rw [t2.erase] at e2
    have ep:=hp.erase
    simp only [wDuty,wAdvice] at q1 q2
    obtain ⟨S1,hS1⟩ : ∃ z,sliceD true (saidT wDuty du) = z:=⟨_,rfl⟩
    obtain ⟨S2,hS2⟩ : ∃ z,sliceD true (saidT wAdvice ad) = z:=⟨_,rfl⟩
    simp only [wDuty] at hS1
    simp only [wAdvice] at hS2
    simp only [wDuty,wAdvice,hS1,hS2] at pc e1 e2 q1 q2
    have oS1 : S1.okc = true /\ S1.cells.length = 1:=by
     rw [<- hS1];rcases sliceD_cases true (saidT [100,117,116,121] du) with ⟨h,_⟩ | h <;> rw [h] <;> exact ⟨rfl,rfl⟩
    have oS2 : S2.okc = true /\ S2.cells.length = 1:=by
     rw [<- hS2];rcases sliceD_cases true (saidT [97,100,118,105,99,101] ad) with ⟨h,_⟩ | h <;> rw [h] <;> exact ⟨rfl,rfl⟩
    have oS : (S1.okc && S1.cells.length == 1 && (S2.okc && S2.cells.length == 1)) = true:=by
     rw [oS1.1,oS1.2,oS2.1,oS2.2];rfl
    simp only [mkT] at pc p3
    simp +contextual (maxSteps:=10000000) only [c86,r1,r4,rdAt_E hg,eu,ea,q1,q2,p3,pc,oS,e1,e2,ep,hZ.erase,leaves_E hB.pre hT,go_sem]
   rw [W_part 5,htl]
   have w2 : isTks [mkT 1 (if pm then wPermit else wDeny) 0,mkT 1 nm 0]:=isTks.cons _ _ _ (isTks.cons _ _ _ .nil)
   cases hi with
   | false =>
    have tl0:=fun t H' T'=>tail [mkT 1 (if pm then wPermit else wDeny) 0,mkT 1 nm 0] t H' T' w2 (by simp) (by simp)
    have e0 : ∀ a : List D,a ++ (if false = true then mkT 1 wIf 0 :: tkC false e else []) = a:=fun a=>by simp
    rw [e0]
    obtain ⟨QQ,hQQ⟩ : ∃ z,endQ [.inl 2] (Leaves (.sl none ([mkT 1 (if pm then wPermit else wDeny) 0,mkT 1 nm 0] ++ saidT wDuty du ++ saidT wAdvice ad ++ [mkT 5 [59] 0])) H T) = z:=⟨_,rfl⟩
    rw [hQQ] at tl0 ⊢
    clear hQQ hk eR
    cases pm with
    | true =>
     have p1:=p1 true
     simp only [if_true,mkT] at p1 tl0
     simp only [wPermit] at p1
     simp +contextual (maxSteps:=10000000) only [c86,mkR,hDU,hAD,er,p1,go_sem]
     refine tl0 _ _ _ ?_ ?_ ?_ ?_
     ·exact Ext.refl _
     ·first | exact ExtT.refl _ | exact ⟨_,rfl⟩
     ·simp [upd]
     ·simp [upd,wPermit,wDeny]
    | false =>
     have p1:=p1 false
     simp only [Bool.false_eq_true,if_false,mkT] at p1 tl0
     simp only [wDeny] at p1
     simp +contextual (maxSteps:=10000000) only [c86,mkR,hDU,hAD,er,p1,go_sem]
     refine tl0 _ _ _ ?_ ?_ ?_ ?_
     ·exact Ext.refl _
     ·first | exact ExtT.refl _ | exact ⟨_,rfl⟩
     ·simp [upd]
     ·simp [upd,wPermit,wDeny]
   | true =>
    obtain ⟨hG,hL⟩:=hg rfl
    have p4 : φxpr nodeB [e] = some (.sl none (tkC false e)):=by
     simp only [φxpr];rw [if_pos ⟨he,hG,by omega⟩]
    have ht:=tkC_tks false e
    have w3 : isTks ([mkT 1 (if pm then wPermit else wDeny) 0,mkT 1 nm 0] ++ (mkT 1 wIf 0 :: tkC false e)):=w2.app (isTks.cons _ _ _ ht)
    have tl0:=fun t H' T'=>tail ([mkT 1 (if pm then wPermit else wDeny) 0,mkT 1 nm 0] ++ (mkT 1 wIf 0 :: tkC false e)) t H' T' w3 (by simp;omega) (by simp)
    have e0 : ∀ a : List D,a ++ (if true = true then mkT 1 wIf 0 :: tkC false e else []) = a ++ (mkT 1 wIf 0 :: tkC false e):=fun a=>by simp
    rw [e0]
    have pc:=catn (ls:=[.sl none [mkT 1 (if pm then wPermit else wDeny) 0,mkT 1 nm 0],.sl none [mkT 1 wIf 0],.sl none (tkC false e)]) (Z:=[mkT 1 (if pm then wPermit else wDeny) 0,mkT 1 nm 0] ++ (mkT 1 wIf 0 :: tkC false e)) (fun y hy=>by
     simp only [List.mem_cons,List.not_mem_nil,or_false] at hy
     rcases hy with rfl | rfl | rfl <;> exact sl_none _) (by simp [catD,elems]) w3 (by simp;omega) (by simp) (by simp)
    have hte:=ht.erase
    obtain ⟨X,hX⟩ : ∃ z,tkC false e = z:=⟨_,rfl⟩
    rw [hX] at p4 pc tl0 hte w3 ⊢
    have h3e:=w3.erase
    obtain ⟨Z3,hZ3⟩ : ∃ z,[mkT 1 (if pm then wPermit else wDeny) 0,mkT 1 nm 0] ++ (mkT 1 wIf 0 :: X) = z:=⟨_,rfl⟩
    rw [hZ3] at pc tl0 h3e ⊢
    obtain ⟨QQ,hQQ⟩ : ∃ z,endQ [.inl 2] (Leaves (.sl none (Z3 ++ saidT wDuty du ++ saidT wAdvice ad ++ [mkT 5 [59] 0])) H T) = z:=⟨_,rfl⟩
    rw [hQQ] at tl0 ⊢
    clear hQQ hk eR hZ3 w3 w2
    cases pm with
    | true =>
     have p1:=p1 true
     simp only [if_true,mkT] at p1 pc
     simp only [wPermit] at p1 pc
     simp only [wIf] at pc
     simp +contextual (maxSteps:=10000000) only [c86,mkR,hDU,hAD,er,p1,p2,hE,ee,p4,hte,pc,h3e,go_sem]
     refine tl0 _ _ _ ?_ ?_ ?_ ?_
     ·exact Ext.refl _
     ·first | exact ExtT.refl _ | exact ⟨_,rfl⟩
     ·simp [upd]
     ·simp [upd,wPermit,wDeny]
    | false =>
     have p1:=p1 false
     simp only [Bool.false_eq_true,if_false,mkT] at p1 pc
     simp only [wDeny] at p1 pc
     simp only [wIf] at pc
     simp +contextual (maxSteps:=10000000) only [c86,mkR,hDU,hAD,er,p1,p2,hE,ee,p4,hte,pc,h3e,go_sem]
     refine tl0 _ _ _ ?_ ?_ ?_ ?_
     ·exact Ext.refl _
     ·first | exact ExtT.refl _ | exact ⟨_,rfl⟩
     ·simp [upd]
     ·simp [upd,wPermit,wDeny]
  ·cases h
 ·cases h
end GP
namespace GP
open Go Go.Proofs
set_option maxRecDepth 100000
abbrev Ln:=List UInt8 × List D
def ln2 : List UInt8:=[32,32]
noncomputable def headT (p : D) : List D:=[mkT 1 wPolicy 0,mkT 1 (pNm p) 0,mkT 1 wBy 0,mkT 1 (pBy p) 0,mkT 1 wUse 0,mkT 1 (pUs p) 0,mkT 5 [123] 0]
noncomputable def forL (p : D) : List Ln:=if pHf p then [(ln2,mkT 1 wFor 0 :: (tkC false (pE p) ++ [mkT 5 [59] 0]))] else []
noncomputable def rulL (r : D) : Ln:=(ln2,ruleT false r)
def facL (f : D) : Ln:=([],factT f)
noncomputable def polL (p : D) : List Ln:=([],headT p) :: (forL p ++ ((pRs p).map rulL ++ [([],[mkT 5 [125] 0])]))
def useL (s : List UInt8) : Ln:=([],[mkT 1 wUse 0,mkT 1 s 0,mkT 5 [59] 0])
noncomputable def docL (d : D) : List Ln:=(dFs d).map facL ++ (useL (dUs d) :: ((dPs d).map polL).flatten)
def lnD (l : Ln) : D:=.str (lineG l.1 l.2)
def cntL (ls : List Ln) : Nat:=(ls.map (fun l=>l.2.length)).sum
theorem cntL_app (a b : List Ln) : cntL (a ++ b) = cntL a + cntL b:=by simp [cntL]
structure okDL (DL : List Ln) : Prop where
 k : ∀ l ∈ DL,jkG l.2 = true /\ l.1.length <= 1000
 n : DL.length <= 2 ^ 10
 c : cntL DL <= 2 ^ 40
structure Pg (H : Hp) (T : Tk) (dc : List D) (ls : List Ln) (B : Hp) (U : Tk) : Prop where
 a : Ext (H ++ [.row dc]) B
 b : ∃ d,B[H.length + 1]? = some (.row [d,.int .i64 ((cntL ls : Nat) : Int)]) /\ accT 1 T (ls.map lnD) d U
theorem Pg.app {H : Hp} {T : Tk} {dc : List D} {ls : List Ln} {B : Hp} {U : Tk} (h : Pg H T dc ls B U) (L : Hp) (L' : Tk) : Pg H T dc ls (B ++ L) (U ++ L'):=by
 obtain ⟨d,h1,h2⟩:=h.b
 exact ⟨h.a.app _,d,by rw [List.getElem?_append_left (lt_of_get h1)];exact h1,h2.app _⟩
theorem Pg.appB {H : Hp} {T : Tk} {dc : List D} {ls : List Ln} {B : Hp} {U : Tk} (h : Pg H T dc ls B U) (L : Hp) : Pg H T dc ls (B ++ L) U:=by
 have:=h.app L [];rwa [List.append_nil] at this
theorem Pg.appU {H : Hp} {T : Tk} {dc : List D} {ls : List Ln} {B : Hp} {U : Tk} (h : Pg H T dc ls B U) (L' : Tk) : Pg H T dc ls B (U ++ L'):=by
 have:=h.app [] L';rwa [List.append_nil] at this
theorem Pg.lt {H : Hp} {T : Tk} {dc : List D} {ls : List Ln} {B : Hp} {U : Tk} (h : Pg H T dc ls B U) : H.length + 1 < B.length:=by
 obtain ⟨d,h1,_⟩:=h.b
 exact lt_of_get h1
theorem Pg.doc {H : Hp} {T : Tk} {dc : List D} {ls : List Ln} {B : Hp} {U : Tk} (h : Pg H T dc ls B U) : B[H.length]? = some (.row dc):=h.a.get (by simp)
theorem Pg.hp {H : Hp} {T : Tk} {dc : List D} {ls : List Ln} {B : Hp} {U : Tk} (h : Pg H T dc ls B U) : Ext H B:=h.a.pre
theorem lnD_fit (ls : List Ln) : (ls.map lnD).all (fit 1) = true:=List.all_eq_true.2 fun x hx=>by
 obtain ⟨l,_,rfl⟩:=List.mem_map.1 hx;rfl
theorem lnD_cl (ls : List Ln) (i j : Nat) : D.clL i j (ls.map lnD) = true:=clL_of fun x hx=>by
 obtain ⟨l,_,rfl⟩:=List.mem_map.1 hx;rfl
theorem lnD_erase (ls : List Ln) : D.eraseL (ls.map lnD) = ls.map lnD:=eraseL_id fun x hx=>by
 obtain ⟨l,_,rfl⟩:=List.mem_map.1 hx;rfl
theorem orG_line {Q : Post} {H : Hp} {T : Tk} {dc : List D} {DL ls : List Ln} {B : Hp} {U : Tk} {pre : List UInt8} {toks : List D} (hD : okDL DL) (hp : Pg H T dc ls B U) (hr : ∃ rest,DL = ls ++ (pre,toks) :: rest)
  (k : ∀ B2 U2,Pg H T dc (ls ++ [(pre,toks)]) B2 U2 -> B2.length = B.length -> (∀ i,i ≠ H.length + 1 -> B2[i]? = B[i]?) -> Q (.tup []) B2 U2) : orG Q (φlineG B U [.ptr (H.length + 1) 0,.str pre,.sl none toks]):=by
 obtain ⟨rest,hr⟩:=hr
 have hk:=hD.k (pre,toks) (by rw [hr];simp)
 have hn:=hD.n
 have hc:=hD.c
 rw [hr] at hn hc
 simp only [List.length_append,List.length_cons] at hn
 rw [cntL_app] at hc
 have hc2 : cntL ((pre,toks) :: rest) = toks.length + cntL rest:=by simp [cntL]
 have hw : IntKind.i64.wrap (((cntL ls : Nat) : Int) + (toks.length : Int)) = ((cntL (ls ++ [(pre,toks)]) : Nat) : Int):=by
  have : cntL (ls ++ [(pre,toks)]) = cntL ls + toks.length:=by rw [cntL_app];simp [cntL]
  rw [this,wrap_of _ (by omega) (by omega)];rfl
 obtain ⟨L,hL⟩:=hp.a
 have hlt:=hp.lt
 have hset : ∀ x,Ext (H ++ [.row dc]) (B.set (H.length + 1) x):=fun x=>by
  rw [hL,List.set_append_right _ _ (by simp)]
  exact ⟨_,rfl⟩
 obtain ⟨d,hb,hE,hd⟩:=hp.b
 have e1 : (ls ++ [(pre,toks)]).map lnD = ls.map lnD ++ [.str (lineG pre toks)]:=by simp [lnD]
 rcases hd with ⟨h0,rfl⟩ | ⟨τ,hτ,rfl,hT⟩
 ·simp only [φlineG]
  rw [if_pos ⟨hk.1,hk.2⟩,hb]
  simp only [orG]
  refine k _ _ ⟨hset _,?_⟩ (by simp) (fun i hi=>by rw [List.getElem?_set_ne (by omega)])
  refine ⟨.sl (some U.length) [.str (lineG pre toks)],?_,?_⟩
  ·rw [List.getElem?_set_self hlt,hw]
  ·rw [e1,h0]
   exact accT.mk 1 T hE [.str (lineG pre toks)] []
 ·simp only [φlineG]
  rw [if_pos ⟨hk.1,hk.2⟩,hb]
  simp only
  rw [if_pos ⟨hT,by rw [List.length_map];omega,lnD_fit ls,lnD_cl ls _ _⟩]
  simp only [orG]
  have hτl:=lt_of_get hT
  refine k _ _ ⟨hset _,?_⟩ (by simp) (fun i hi=>by rw [List.getElem?_set_ne (by omega)])
  refine ⟨.sl (some τ) (ls.map lnD ++ [.str (lineG pre toks)]),?_,?_,.inr ⟨τ,hτ,by rw [e1],?_⟩⟩
  ·rw [List.getElem?_set_self hlt,hw]
  ·obtain ⟨M,rfl⟩:=hE
   exact ⟨M.set (τ - T.length) (some ((ls.map lnD).length + 1,1)),by rw [List.set_append_right _ _ hτ]⟩
  ·rw [List.getElem?_set_self hτl,e1];simp
theorem get_split {α : Type} {l : List α} {i : Nat} {x : α} (h : l[i]? = some x) : l = l.take i ++ x :: l.drop (i + 1):=by
 have hi : i < l.length:=by
  rcases Nat.lt_or_ge i l.length with h' | h'
  ·exact h'
  ·rw [List.getElem?_eq_none h'] at h;cases h
 have e : l[i] = x:=by rw [List.getElem?_eq_getElem hi] at h;injection h
 rw [<- e,← List.drop_eq_getElem_cons hi,List.take_append_drop]
theorem take_next {α : Type} {l : List α} {i : Nat} {x : α} (h : l[i]? = some x) : l.take (i + 1) = l.take i ++ [x]:=by
 rw [List.take_add_one,h];rfl
end GP
namespace GP
open Go Go.Proofs
set_option maxRecDepth 100000
def isSg (x : D) (w : List UInt8) : Bool:=(tk x == 5) && (ts x == w)
def frB (x : D) : Bool:=isSg x [59] || isSg x [123] || isSg x [125]
def cnd (b : Bool) (l : List UInt8) : List UInt8:=match b with
 | true=>l
 | false=>[]
@[simp] theorem cnd_t (l : List UInt8) : cnd true l = l:=rfl
@[simp] theorem cnd_f (l : List UInt8) : cnd false l = []:=rfl
def rF (s : List UInt8 × Bool × Bool) (x : D) : List UInt8 × Bool × Bool :=
 (s.1 ++ cnd (s.2.2 && (s.2.1 && !isSg x [125])) [32,32] ++ cnd (!s.2.2) [32] ++ showT x ++ cnd (frB x) [10],(s.2.1 && !isSg x [125]) || isSg x [123],frB x)
def rS (l : List D) : List UInt8 × Bool × Bool:=l.foldl rF ([],false,true)
theorem rS_next {l : List D} {i : Nat} {x : D} (h : l[i]? = some x) : rS (l.take (i + 1)) = rF (rS (l.take i)) x:=by
 unfold rS
 rw [List.take_add_one,h,List.foldl_append];rfl
def φisSg : List D -> Option D
 | [.agg [.int .i64 k,.str s,.int .i64 n],.str w]=>some (.bool ((k == 5) && (s == w)))
 | _=>none
theorem ok89 : OkAt Tryz.prog 89 φisSg:=by
 refine ok_of (l:=[]) .nil fn89 fun args r h=>?_
 unfold φisSg at h
 split at h
 ·rename_i k s n w
  injection h with h;subst h
  refine ⟨by simp,by simp [D.cl],fun H T=>?_⟩
  rcases tf (k == 5) with g | g
  ·rw [g];simp +contextual (maxSteps:=10000000) only [c89,g,go_sem]
  ·rw [g];simp +contextual (maxSteps:=10000000) only [c89,g,go_sem]
 ·cases h
def rTok : D -> Bool
 | .agg [.int .i64 k,.str s,.int .i64 n]=>decide (s.length <= 64) && (!(k == 2 || k == 4) || (decide (0 <= n) && decide (n < 2 ^ 63)))
 | _=>false
theorem rTok_elim {x : D} (h : rTok x = true) : ∃ k s n,x = .agg [.int .i64 k,.str s,.int .i64 n] /\ s.length <= 64 /\ (k = 2 ∨ k = 4 -> 0 <= n /\ n < 2 ^ 63):=by
 unfold rTok at h
 split at h
 ·rename_i k s n
  simp only [Bool.and_eq_true,Bool.or_eq_true,decide_eq_true_eq,Bool.not_eq_true',Bool.or_eq_false_iff,beq_eq_false_iff_ne] at h
  refine ⟨k,s,n,rfl,h.1,fun hk=>?_⟩
  rcases h.2 with h2 | h2
  ·rcases hk with rfl | rfl
   ·exact absurd rfl h2.1
   ·exact absurd rfl h2.2
  ·exact h2
 ·cases h
theorem showT_len {x : D} (h : rTok x = true) : (showT x).length <= 130:=by
 obtain ⟨k,s,n,rfl,hs,hn⟩:=rTok_elim h
 show (showP k s n).length <= _
 have hE:=escL_len s
 unfold showP
 split
 ·rename_i h2
  have:=dd_len (u:=n.toNat) (by have:=hn (.inl (by simpa using h2));omega)
  omega
 split
 ·rename_i h2
  have:=dd_len (u:=n.toNat) (by have:=hn (.inr (by simpa using h2));omega)
  simp;omega
 split
 ·simp;omega
 ·omega
open Classical in
noncomputable def φtextR : List D -> Option D
 | [d]=>if goodD false d /\ (docT false d).all rTok = true then some (.tup [.str (rS (docT false d)).1,.int .i64 ((docT false d).length : Int)]) else none
 | _=>none
theorem docT_le {d : D} (h : goodD false d) : (docT false d).length <= 2 ^ 37:=docT_len h
noncomputable abbrev xs38 : Fs:=[(30,φdocT),(89,φisSg),(90,φshow)]
set_option maxHeartbeats 16000000 in
theorem ok38 : OkAt Tryz.prog 38 φtextR:=by
 have hX:=XL_mono xs38
 refine ok_of (l:=xs38) (.cons ok30 (.cons ok89 (.cons ok90 .nil))) fn38 fun args r h=>?_
 unfold φtextR at h
 split at h
 ·rename_i d
  split at h
  ·rename_i hc
   obtain ⟨hG,hR⟩:=hc
   injection h with h;subst h
   refine ⟨by simp,by simp [D.cl,D.clL],fun H T=>?_⟩
   have p30 : φdocT [d,.bool false] = some (.sl none (docT false d)):=by simp only [φdocT];rw [if_pos hG]
   have hle:=docT_le hG
   have ht:=(docT_tok false d).erase
   have ed:=isDoc_erase hG.s
   obtain ⟨q1,q2,q3,q4⟩:=isDoc_cells hG.s
   obtain ⟨X,hXX⟩ : ∃ z,docT false d = z:=⟨_,rfl⟩
   rw [hXX] at p30 hle hR ht ⊢
   simp +contextual (maxSteps:=10000000) only [c38,ed,q1,q2,q3,q4,p30,ht,go_sem]
   refine W_each X (fun i s=>s.t 4 = .sl none X /\ s.t 5 = .str (rS (X.take i)).1 /\ (rS (X.take i)).1.length <= 200 * i /\ s.t 6 = .bool (rS (X.take i)).2.1 /\ s.t 7 = .bool (rS (X.take i)).2.2 /\ s.t 8 = .int .i64 (i : Int) /\ Ext H s.H /\ s.T = T) hX ⟨by simp [upd],by simp [upd,rS],by simp [rS],by simp [upd,rS],by simp [upd,rS],by simp [upd],⟨_,rfl⟩,rfl⟩ ?_ ?_
   ·rintro i x ⟨t,B,U⟩ hx hm hi ⟨t4,t5,hl,t6,t7,t8,hB,rfl⟩
    simp only at t4 t5 t6 t7 t8 hB
    have d1 : decide ((i : Int) < X.length) = true:=by simpa using hi
    have nx:=rS_next hx
    have hxr:=List.all_eq_true.1 hR x hm
    have hsl:=showT_len hxr
    rw [nx]
    have pS : φshow [x] = some (.str (showT x)):=by
     obtain ⟨k,s,n,rfl,hs,hn⟩:=rTok_elim hxr
     simp only [φshow];rw [if_pos ⟨by omega,hn⟩];rfl
    have pG : ∀ w,φisSg [x,.str w] = some (.bool (isSg x w)):=fun w=>by
     obtain ⟨k,s,n,rfl,hs,hn⟩:=rTok_elim hxr
     rfl
    have p1:=pG [125]
    have p2:=pG [59]
    have p3:=pG [123]
    clear nx
    obtain ⟨st,hst⟩ : ∃ z,rS (X.take i) = z:=⟨_,rfl⟩
    rw [hst] at hl t5 t6 t7 ⊢
    clear hst
    obtain ⟨acc,w,f⟩:=st
    simp only at hl t5 t6 t7
    simp only [rF,frB]
    have w1:=wrap_succ i (by omega)
    obtain ⟨S,hS⟩ : ∃ z,showT x = z:=⟨_,rfl⟩
    rw [hS] at pS hsl ⊢
    have a1 : bin2 .add (.str acc) (.str [32,32]) = some (.str (acc ++ [32,32])):=sadd (by simp;omega)
    have a2 : bin2 .add (.str acc) (.str [32]) = some (.str (acc ++ [32])):=sadd (by simp;omega)
    have a3 : bin2 .add (.str acc) (.str S) = some (.str (acc ++ S)):=sadd (by omega)
    have a4 : bin2 .add (.str (acc ++ [32,32])) (.str S) = some (.str (acc ++ [32,32] ++ S)):=sadd (by simp;omega)
    have a5 : bin2 .add (.str (acc ++ [32])) (.str S) = some (.str (acc ++ [32] ++ S)):=sadd (by simp;omega)
    have a6 : bin2 .add (.str (acc ++ S)) (.str [10]) = some (.str (acc ++ S ++ [10])):=sadd (by simp;omega)
    have a7 : bin2 .add (.str (acc ++ [32,32] ++ S)) (.str [10]) = some (.str (acc ++ [32,32] ++ S ++ [10])):=sadd (by simp;omega)
    have a8 : bin2 .add (.str (acc ++ [32] ++ S)) (.str [10]) = some (.str (acc ++ [32] ++ S ++ [10])):=sadd (by simp;omega)
    have hxa : ∃ k s n,x = .agg [.int .i64 k,.str s,.int .i64 n]:=by
     obtain ⟨k,s,n,e,_⟩:=rTok_elim hxr
     exact ⟨k,s,n,e⟩
    have ex : x.erase = x:=by obtain ⟨k,s,n,rfl⟩:=hxa;simp [D.erase,D.eraseL]
    have fin : ∀ b1 b2 b3 : Bool,isSg x [125] = b1 -> isSg x [59] = b2 -> isSg x [123] = b3 -> True:=fun _ _ _ _ _ _=>trivial
    obtain ⟨b1,hb1⟩ : ∃ z,isSg x [125] = z:=⟨_,rfl⟩
    obtain ⟨b2,hb2⟩ : ∃ z,isSg x [59] = z:=⟨_,rfl⟩
    obtain ⟨b3,hb3⟩ : ∃ z,isSg x [123] = z:=⟨_,rfl⟩
    rw [hb1] at p1 ⊢
    rw [hb2] at p2 ⊢
    rw [hb3] at p3 ⊢
    clear pG fin hb1 hb2 hb3 hS hxr hR
    obtain ⟨k,s,n,rfl⟩:=hxa
    simp only [List.append_assoc,List.cons_append,List.nil_append] at a1 a2 a3 a4 a5 a6 a7 a8
    have hBa:=fun L=>hB.app L
    cases f <;> cases w <;> cases b1 <;> cases b2 <;> cases b3 <;> (
     simp +contextual (maxSteps:=10000000) only [t4,t5,t6,t7,t8,d1,hx,ex,p1,p2,p3,pS,w1,a1,a2,a3,a4,a5,a6,a7,a8,cnd_t,cnd_f,List.append_assoc,List.cons_append,List.nil_append,List.append_nil,Bool.not_true,Bool.not_false,Bool.and_true,Bool.and_false,Bool.true_and,Bool.false_and,Bool.or_true,Bool.or_false,Bool.true_or,Bool.false_or,go_sem]
     refine ⟨?_,?_⟩ <;> first | exact hB | exact hBa _ | (simp only [List.length_append,List.length_cons,List.length_nil];omega) | omega)
   ·rintro ⟨t,B,U⟩ ⟨t4,t5,hl,t6,t7,t8,hB,rfl⟩
    simp only at t4 t5 t6 t7 t8 hB
    have d1 : decide ((X.length : Int) < X.length) = false:=by simp
    rw [List.take_length] at t5 t6 t7
    simp +contextual (maxSteps:=10000000) only [t4,t5,t8,d1,leaves_E hB (ExtT.refl _),go_sem]
  ·cases h
 ·cases h
end GP
namespace GP
open Go Go.Proofs
set_option maxRecDepth 100000
theorem form_len {k : Int} {s : List UInt8} {n : Int} (h : formI k s n = true) : s.length <= 64:=by
 unfold formI at h
 split at h
 ·simp only [Bool.and_eq_true] at h
  unfold wordB at h
  split at h
  ·cases h.1
  ·rename_i c r
   simp only [Bool.and_eq_true,decide_eq_true_eq] at h
   have:=h.1.2
   simp only [List.length_cons] at this ⊢;omega
 split at h
 ·simp only [Bool.and_eq_true,beq_iff_eq] at h
  rw [h.1];simp
 split at h
 ·simp only [Bool.and_eq_true,decide_eq_true_eq] at h
  have:=h.1.2;omega
 split at h
 ·simp only [Bool.and_eq_true,beq_iff_eq] at h
  rw [h.1.1];simp
 split at h
 ·simp only [Bool.and_eq_true] at h
  have h:=h.1
  unfold isSign at h
  obtain ⟨w,hw,e⟩:=List.any_eq_true.1 h
  have key : ∀ w ∈ signsR,w.length <= 64:=by decide
  have e : w = s:=by simpa using e
  rw [<- e];exact key w hw
 ·cases h
theorem sh_mk {k : Int} {s : List UInt8} {n : Int} (h : formI k s n = true) (hn : n < 2 ^ 63) : shwG (mkT k s n) = true:=by
 have:=form_len h
 simp only [mkT,shwG,h,Bool.true_and,Bool.and_eq_true,decide_eq_true_eq]
 omega
theorem sh_rTok {x : D} (h : shwG x = true) : rTok x = true:=by
 obtain ⟨k,s,n,rfl,hf,hs,hn⟩:=shwG_elim h
 have hl:=form_len hf
 have hp:=form_pos hf
 simp only [rTok,Bool.and_eq_true,Bool.or_eq_true,decide_eq_true_eq,Bool.not_eq_true',Bool.or_eq_false_iff,beq_eq_false_iff_ne]
 refine ⟨hl,?_⟩
 by_cases h2 : k = 2
 ·exact .inr ⟨hp (.inl h2),hn⟩
 by_cases h4 : k = 4
 ·exact .inr ⟨hp (.inr h4),hn⟩
 ·exact .inl ⟨h2,h4⟩
theorem isSg_k {k : Int} {s : List UInt8} {n : Int} {w : List UInt8} (h : k ≠ 5) : isSg (mkT k s n) w = false:=by
 unfold isSg
 rw [tk_mk]
 have : (k == 5) = false:=by simpa using h
 rw [this];rfl
theorem isSg_s {k : Int} {s : List UInt8} {n : Int} {w : List UInt8} (h : s ≠ w) : isSg (mkT k s n) w = false:=by
 unfold isSg
 rw [ts_mk]
 have : (s == w) = false:=by simpa using h
 rw [this];simp
theorem fr_k {k : Int} {s : List UInt8} {n : Int} (h : k ≠ 5) : frB (mkT k s n) = false:=by
 unfold frB;rw [isSg_k h,isSg_k h,isSg_k h];rfl
theorem fr_s {k : Int} {s : List UInt8} {n : Int} (h1 : s ≠ [59]) (h2 : s ≠ [123]) (h3 : s ≠ [125]) : frB (mkT k s n) = false:=by
 unfold frB;rw [isSg_s h1,isSg_s h2,isSg_s h3];rfl
def inT (x : D) : Prop:=shwG x = true /\ frB x = false
theorem in_word {s : List UInt8} (h : formI 1 s 0 = true) : inT (mkT 1 s 0):=⟨sh_mk h (by decide),fr_k (by decide)⟩
theorem in_text {s : List UInt8} (h : formI 3 s 0 = true) : inT (mkT 3 s 0):=⟨sh_mk h (by decide),fr_k (by decide)⟩
theorem in_sign {s : List UInt8} (h : formI 5 s 0 = true) (h1 : s ≠ [59]) (h2 : s ≠ [123]) (h3 : s ≠ [125]) : inT (mkT 5 s 0):=⟨sh_mk h (by decide),fr_s h1 h2 h3⟩
theorem in_name {s : List UInt8} (h : nameB s = true) : inT (mkT 1 s 0):=in_word (by
 unfold nameB at h;simp only [Bool.and_eq_true] at h;exact h.1)
theorem who_w1 {s : List UInt8} (h : inB whoW s = true) : formI 1 s 0 = true:=by
 unfold inB at h
 obtain ⟨w,hw,e⟩:=List.any_eq_true.1 h
 have e : w = s:=by simpa using e
 subst e
 have key : ∀ w ∈ whoW,formI 1 w 0 = true:=by decide
 exact key w hw
theorem in_lit1 {v : D} {b : Bool} (h : litB v b = true) (h1 : one1 v = true) (hr : -(2 ^ 63) <= vi v /\ vi v < 2 ^ 63) : ∀ x ∈ litT1 v,inT x:=by
 intro x hx
 unfold litT1 at hx
 unfold litB at h
 unfold one1 plainB at h1
 split at hx
 ·split at hx <;> (simp only [List.mem_cons,List.not_mem_nil,or_false] at hx;subst hx;exact in_word (by decide))
 rename_i n1
 split at hx
 ·rename_i n2
  rw [if_pos n2] at h
  simp only [Bool.or_eq_true,Bool.and_eq_true,decide_eq_true_eq] at h
  split at hx
  ·rename_i g
   have g : vi v < 0:=by simpa using g
   have hlo : -9223372036854775808 < vi v:=by rcases h with h | h <;> omega
   have hw : IntKind.i64.wrap (0 - vi v) = 0 - vi v:=wrap_of _ (by omega) (by omega)
   rw [hw] at hx
   simp only [List.mem_cons,List.not_mem_nil,or_false] at hx
   rcases hx with rfl | rfl
   ·exact in_sign (by decide) (by decide) (by decide) (by decide)
   ·have : formI 2 [] (0 - vi v) = true:=by
     have hd : decide (0 <= 0 - vi v) = true:=by simp only [decide_eq_true_eq];omega
     unfold formI;rw [if_neg (by decide),if_pos (by decide),hd];rfl
    exact ⟨sh_mk this (by omega),fr_k (by decide)⟩
  ·rename_i g
   have g : 0 <= vi v:=by simpa using g
   simp only [List.mem_cons,List.not_mem_nil,or_false] at hx
   subst hx
   have : formI 2 [] (vi v) = true:=by
    have hd : decide (0 <= vi v) = true:=by simpa using g
    unfold formI;rw [if_neg (by decide),if_pos (by decide),hd];rfl
   exact ⟨sh_mk this (by omega),fr_k (by decide)⟩
 rename_i n2
 rw [if_neg n2] at h
 split at hx
 ·rename_i n3
  have e3 : vk v = 3:=by simpa using n3
  simp only [List.mem_cons,List.not_mem_nil,or_false] at hx
  subst hx
  rw [e3] at h
  exact in_text (by simpa using h)
 ·rename_i n3
  simp only [List.mem_cons,List.not_mem_nil,or_false] at hx
  subst hx
  have m1 : (vk v == 1) = false:=by simpa using n1
  have m3 : (vk v == 3) = false:=by simpa using n3
  rw [m1,m3] at h
  have e4 : vk v = 4:=by simpa using h
  rw [e4] at h1
  split at h1
  ·cases h1
  split at h1
  ·cases h1
  have h1 : (decide (0 <= vi v) && decide (vi v <= 1099511627776)) = true:=h1
  have : formI 4 [] (vi v) = true:=by
   unfold formI
   rw [if_neg (by decide),if_neg (by decide),if_neg (by decide),if_pos (by decide)]
   simp only [Bool.and_eq_true] at h1
   rw [h1.1,h1.2];rfl
  exact ⟨sh_mk this (by omega),fr_k (by decide)⟩
theorem in_val {v : D} (h : valB v = true) (hr : -(2 ^ 63) <= vi v /\ vi v < 2 ^ 63) (hl : ∀ x ∈ vl v,-(2 ^ 63) <= vi x /\ vi x < 2 ^ 63) : ∀ x ∈ litT v,inT x:=by
 intro x hx
 unfold valB at h
 split at h
 ·cases h
 rename_i hf
 simp only [Bool.not_eq_true',Bool.not_eq_false] at hf
 unfold formedB at hf
 unfold litT at hx
 split at h
 ·rename_i hk
  rw [if_pos hk] at hf
  rw [if_pos (litB_leaf h)] at hx
  exact in_lit1 h hf hr x hx
 ·rename_i hk
  rw [if_neg hk] at hf
  have h5 : vk v = 5:=by simpa using hk
  have hlf : leaf1 v = false:=by unfold leaf1;rw [h5];rfl
  rw [if_neg (by rw [hlf];decide)] at hx
  split at hf
  ·cases hf
  simp only [Bool.and_eq_true] at h
  have h1:=List.all_eq_true.1 h.1
  simp only [List.mem_cons,List.mem_append,List.not_mem_nil,or_false] at hx
  rcases hx with rfl | hx | rfl
  ·exact in_sign (by decide) (by decide) (by decide) (by decide)
  ·rcases cmL_mem hx with rfl | ⟨y,hy,hxy⟩
   ·exact in_sign (by decide) (by decide) (by decide) (by decide)
   ·exact in_lit1 (h1 y hy) (el_one hf y hy) (hl y hy) x hxy
  ·exact in_sign (by decide) (by decide) (by decide) (by decide)
theorem in_par {s least : Int} {l : List D} (h : ∀ x ∈ l,inT x) : ∀ x ∈ parW false s least l,inT x:=by
 intro x hx
 unfold parW at hx
 split at hx
 ·exact h x hx
 ·simp only [List.mem_cons,List.mem_append,List.not_mem_nil,or_false] at hx
  rcases hx with rfl | hx | rfl
  ·exact in_sign (by decide) (by decide) (by decide) (by decide)
  ·exact h x hx
  ·exact in_sign (by decide) (by decide) (by decide) (by decide)
theorem in_op {op : List UInt8} (h : isOp2 op) : inT (opTok op):=by
 have key : ∀ w ∈ ops2,shwG (opTok w) = true /\ frB (opTok w) = false:=by decide
 exact key op (ops2_of h)
theorem isE_vr {n : Nat} {e : D} (h : isE n e) : isVr (eV e):=by
 obtain ⟨op,k,i,s,nl,l,who,name,m,ps,rfl,h1,h2,h3,h4,_⟩:=isE_elim h
 exact h4
theorem in_tk : ∀ e,GoodE e -> rgC e -> ∀ x ∈ tkC false e,inT x:=by
 refine good_ind (P:=fun e=>rgC e -> ∀ x ∈ tkC false e,inT x) fun e hg ih hr x hx=>?_
 have pL : inT tP:=in_sign (by decide) (by decide) (by decide) (by decide)
 have pR : inT tQ:=in_sign (by decide) (by decide) (by decide) (by decide)
 have hT:=hg.parts.2.2.2
 rcases hg.op with g | g | g | g | g | g | g | g | g
 ·rw [tk_val hg g] at hx
  exact in_val (fmTop_val hT g).1 (isE_vr hg.t.can).2 hr.v x hx
 ·rw [tk_now hg g] at hx
  simp only [List.mem_cons,List.not_mem_nil,or_false] at hx;subst hx
  exact in_word (by decide)
 ·rw [tk_attr hg g] at hx
  have g1 : (eop e == sVal) = false:=by rw [eq_of_beq' g];decide
  obtain ⟨_,_,f3,_⟩:=fm_rest hT g1
  obtain ⟨w1,w2⟩:=f3 (.inl g)
  simp only [List.mem_cons,List.not_mem_nil,or_false] at hx
  rcases hx with rfl | rfl | rfl
  ·exact in_word (who_w1 w1)
  ·exact in_sign (by decide) (by decide) (by decide) (by decide)
  ·exact in_name w2
 ·rw [tk_has hg g] at hx
  have g1 : (eop e == sVal) = false:=by rw [eq_of_beq' g];decide
  obtain ⟨_,_,f3,_⟩:=fm_rest hT g1
  obtain ⟨w1,w2⟩:=f3 (.inr g)
  simp only [List.mem_cons,List.not_mem_nil,or_false] at hx
  rcases hx with rfl | rfl | rfl | rfl | rfl | rfl
  ·exact in_word (by decide)
  ·exact pL
  ·exact in_word (who_w1 w1)
  ·exact in_sign (by decide) (by decide) (by decide) (by decide)
  ·exact in_name w2
  ·exact pR
 ·rw [tk_role hg g] at hx
  have g1 : (eop e == sVal) = false:=by rw [eq_of_beq' g];decide
  have g2 : (eop e == sAttr) = false:=by rw [eq_of_beq' g];decide
  have g3 : (eop e == sHas) = false:=by rw [eq_of_beq' g];decide
  obtain ⟨_,_,_,f4⟩:=fm_rest hT g1
  obtain ⟨_,w2⟩:=f4 g2 g3 g
  simp only [List.mem_cons,List.not_mem_nil,or_false] at hx
  rcases hx with rfl | rfl | rfl | rfl
  ·exact in_word (by decide)
  ·exact pL
  ·exact in_text w2
  ·exact pR
 ·obtain ⟨h1,y,hy,hs⟩:=hg.one (.inl g)
  have hm : sub0 e ∈ eps e:=by rw [hy,hs];simp
  rw [tk_size hg g] at hx
  simp only [List.mem_cons,List.mem_append,List.not_mem_nil,or_false] at hx
  rcases hx with rfl | rfl | hx | rfl
  ·exact in_word (by decide)
  ·exact pL
  ·exact ih _ hm (hr.p _ hm) x hx
  ·exact pR
 ·obtain ⟨h1,y,hy,hs⟩:=hg.one (.inr (.inl g))
  have hm : sub0 e ∈ eps e:=by rw [hy,hs];simp
  rw [tk_not hg g] at hx
  rcases List.mem_cons.1 hx with rfl | hx
  ·exact in_word (by decide)
  ·exact in_par (ih _ hm (hr.p _ hm)) x hx
 ·obtain ⟨h1,y,hy,hs⟩:=hg.one (.inr (.inr g))
  have hm : sub0 e ∈ eps e:=by rw [hy,hs];simp
  rw [tk_neg hg g] at hx
  rcases List.mem_cons.1 hx with rfl | hx
  ·exact in_sign (by decide) (by decide) (by decide) (by decide)
  ·exact in_par (ih _ hm (hr.p _ hm)) x hx
 ·obtain ⟨h0,h1,m0,m1,_⟩:=hg.two g
  rw [tk_two hg g] at hx
  rcases List.mem_append.1 hx with hx | hx
  ·exact in_par (ih _ m0 (hr.p _ m0)) x hx
  ·rcases List.mem_cons.1 hx with rfl | hx
   ·exact in_op g
   ·exact in_par (ih _ m1 (hr.p _ m1)) x hx
theorem fr_sg {x : D} (h : frB x = false) : isSg x [59] = false /\ isSg x [123] = false /\ isSg x [125] = false:=by
 unfold frB at h
 simp only [Bool.or_eq_false_iff] at h
 exact ⟨h.1.1,h.1.2,h.2⟩
def spT (l : List D) : List UInt8:=(l.map fun y=>32 :: showT y).flatten
theorem fold_mid : ∀ (ys : List D) (a : List UInt8) (w : Bool),(∀ y ∈ ys,frB y = false) -> ys.foldl rF (a,w,false) = (a ++ spT ys,w,false)
 | [],a,w,_=>by simp [spT]
 | y :: ys,a,w,h=>by
  have hy:=h y (by simp)
  obtain ⟨_,h2,h3⟩:=fr_sg hy
  have e : rF (a,w,false) y = (a ++ 32 :: showT y,w,false):=by
   simp only [rF,hy,h2,h3];simp
  rw [List.foldl_cons,e,fold_mid ys _ _ fun z hz=>h z (by simp [hz])]
  simp [spT]
theorem jn_sp (x : D) (ys : List D) : jnG (x :: ys) = showT x ++ spT ys:=by
 unfold jnG Lib.join spT
 induction ys generalizing x with
 | nil=>simp
 | cons y ys ih =>
  simp only [List.map_cons,List.intercalate_cons_cons] at ih ⊢
  rw [ih y];simp
theorem fold_line {x z : D} {ys : List D} {a : List UInt8} {w : Bool} (hx : frB x = false) (hy : ∀ y ∈ ys,frB y = false) (hz : frB z = true) : (x :: (ys ++ [z])).foldl rF (a,w,true) = (a ++ lineG (if w then ln2 else []) (x :: (ys ++ [z])),(w && !isSg z [125]) || isSg z [123],true):=by
 obtain ⟨_,h2,h3⟩:=fr_sg hx
 have e : rF (a,w,true) x = (a ++ (if w then ln2 else []) ++ showT x,w,false):=by
  simp only [rF,hx,h2,h3,ln2];cases w <;> simp
 rw [List.foldl_cons,e,List.foldl_append,fold_mid ys _ _ hy,List.foldl_cons,List.foldl_nil]
 unfold lineG
 rw [jn_sp]
 simp only [rF,hz]
 simp [spT]
theorem fold_end {a : List UInt8} {w : Bool} : [mkT 5 [125] 0].foldl rF (a,w,true) = (a ++ lineG [] [mkT 5 [125] 0],false,true):=by
 have h1 : isSg (mkT 5 [125] 0) [125] = true:=by decide
 have h2 : isSg (mkT 5 [125] 0) [123] = false:=by decide
 have h3 : frB (mkT 5 [125] 0) = true:=by decide
 have h4 : showT (mkT 5 [125] 0) = [125]:=by decide
 rw [List.foldl_cons,List.foldl_nil]
 unfold lineG
 rw [jn_sp]
 simp only [rF,h1,h2,h3,h4]
 cases w <;> simp [spT]
end GP
namespace GP
open Go Go.Proofs
set_option maxRecDepth 100000
noncomputable def docS (d : D) : List UInt8:=((docL d).map fun l=>lineG l.1 l.2).flatten
noncomputable def docR (d : D) : D:=if 4096 < (docS d).length ∨ 600 < cntL (docL d) then .tup [.str [],.int .i64 3] else .tup [.str (docS d),.int .i64 0]
def smD (d : D) : Prop:=isDoc nodeB d /\ ∀ p ∈ dPs d,∀ r ∈ pRs p,(rDu r).length <= 2 ^ 20 /\ (rAd r).length <= 2 ^ 20
open Classical in
noncomputable def φdocP : List D -> Option D
 | [d]=>if smD d /\ (okD d = true -> goodD false d /\ okDL (docL d) /\ (docS d).length <= 2 ^ 47) then some (if okD d = true then docR d else .tup [.str [],.int .i64 2]) else none
 | _=>none
noncomputable abbrev xs37 : Fs:=[(81,φfdP),(83,φfactP),(84,φsP),(75,φxpr nodeB),(85,φcat 3 32),(86,φruleP),(87,φsgn),(88,φjoin)]
theorem join_nil (l : List (List UInt8)) : Lib.join l [] = l.flatten:=by
 unfold Lib.join
 induction l with
 | nil=>rfl
 | cons a l ih =>
  cases l with
  | nil=>simp
  | cons b l =>
   rw [List.intercalate_cons_cons,ih];simp
set_option maxHeartbeats 32000000 in
theorem ok37 : OkAt Tryz.prog 37 φdocP:=by
 have hM : MonoH []:=.nil
 have hXX:=XG.X (P:=Tryz.prog) (u:=[]) (.cons ok81 (.cons ok83 (.cons tok84 (.cons (ok75 nodeB) (.cons ok85 (.cons ok86 (.cons ok87 (.cons ok88 .nil)))))))) .nil .nil (.cons ok82G .nil)
 have hX:=XG_mono (P:=Tryz.prog) [] xs37 [] [] [(82,φlineG)]
 refine okX_of (X:=XG Tryz.prog [] xs37 [] [] [(82,φlineG)]) hXX fn37 fun args r h=>?_
 unfold φdocP at h
 split at h
 ·rename_i d
  split at h
  ·rename_i hc
   injection h with h;subst h
   obtain ⟨hsm,hok⟩:=hc
   have p81 : φfdP [d] = some (.bool (okD d)):=by simp only [φfdP];rw [if_pos ⟨hsm.1,hsm.2⟩]
   refine ⟨by simp,by unfold docR;split <;> (try split) <;> simp [D.cl,D.clL],fun H T=>?_⟩
   have ed:=isDoc_erase hsm.1
   obtain ⟨q1,q2,q3,q4⟩:=isDoc_cells hsm.1
   cases hb : okD d with
   | false =>
    rw [hb] at p81
    simp +contextual (maxSteps:=10000000) only [c37,ed,q1,q2,q3,q4,p81,pcallG hM,go_sem]
    exact leavesE_mk rfl ⟨_,rfl⟩ ⟨[],by simp⟩
   | true =>
   obtain ⟨hG,hD,hS⟩:=hok hb
   rw [if_pos rfl]
   rw [hb] at p81
   obtain ⟨hs,hfl,hfk,hpl,hpg⟩:=hG
   rw [okD_eq] at hb
   simp only [Bool.and_eq_true] at hb
   obtain ⟨hbf,hbp,hbu⟩:=hb
   obtain ⟨m,fs,us,m',ps,rfl,h1,h2,h3,h4,h5⟩:=hs
   simp only [dFs_mk,dUs_mk,dPs_mk] at hfl hfk hpl hpg hbf hbp hbu
   have hbf:=List.all_eq_true.1 hbf
   have hbp:=List.all_eq_true.1 hbp
   have hDLe : docL (mkDoc m fs us m' ps) = fs.map facL ++ (useL us :: (ps.map polL).flatten):=by
    simp only [docL,dFs_mk,dUs_mk,dPs_mk]
   unfold docR docS
   unfold docS at hS
   obtain ⟨DL,hDL⟩ : ∃ z,docL (mkDoc m fs us m' ps) = z:=⟨_,rfl⟩
   rw [hDL] at hD hDLe hS ⊢
   clear hDL hok
   simp only [mkDoc] at ed p81
   have pu : φsP [.sl none [.str [117,115,101],.str us,.str [59]]] = some (.sl none [mkT 1 [117,115,101] 0,mkT 1 us 0,mkT 5 [59] 0]):=by
    have:=sg3 (a:=[117,115,101]) (b:=us) (c:=[59]) (by decide) (by omega) (by decide)
    rw [sT_word (s:=[117,115,101]) (by decide),sT_word hbu,sT_sign (s:=[59]) (by decide)] at this
    exact this
   have pb : φsgn [.str [125]] = some (mkT 5 [125] 0):=by rw [sign_at (by decide),sT_sign (by decide)]
   have pf:=p_sg (a:=[102,111,114]) 1 (by decide) (sT_word (by decide))
   have pq:=p_sg (a:=[59]) 5 (by decide) (sT_sign (by decide))
   obtain ⟨dc,hdc⟩ : ∃ z,[sliceD m fs,.str us,sliceD m' ps] = z:=⟨_,rfl⟩
   simp +contextual (maxSteps:=10000000) only [c37,mkDoc,ed,p81,pcallG hM,go_sem]
   refine W_each fs (fun i s=>s.t 1 = .ptr H.length 0 /\ s.t 4 = .ptr (H.length + 1) 0 /\ s.t 16 = sliceD m fs /\ s.t 17 = .int .i64 (fs.length : Int) /\ s.t 18 = .int .i64 (i : Int) /\ Pg H T dc ((fs.take i).map facL) s.H s.T) hX ⟨by simp [upd,argT],by simp [upd],by simp [upd],by simp [upd],by simp [upd],?_⟩ ?_ ?_
   ·refine ⟨⟨[.row [.nils,.int .i64 0]],?_⟩,.nils,?_,by simpa using accT.nil 1 T (ExtT.refl T)⟩
    ·rw [<- hdc];simp only [List.append_assoc];rfl
    ·rw [List.getElem?_append_right (by omega)];simp [cntL]
   ·rintro i x ⟨t,B,U⟩ hx hm hi ⟨t1,t4,t16,t17,t18,hp⟩
    simp only at t1 t4 t16 t17 t18 hp
    have d1 : decide ((i : Int) < fs.length) = true:=by simpa using hi
    have hxF:=h4 x hm
    have p83 : φfactP [x] = some (.sl none (factT x)):=by simp only [φfactP];rw [if_pos ⟨hxF,hbf x hm⟩]
    have ex:=isF_erase hxF
    obtain ⟨r1,r2,r3,r4⟩:=isF_cells hxF
    have hte:=(factT_tok x).erase
    have hr : ∃ rest,DL = (fs.take i).map facL ++ ([],factT x) :: rest:=⟨(fs.drop (i + 1)).map facL ++ (useL us :: (ps.map polL).flatten),by
     rw [hDLe]
     conv=>lhs;rw [get_split hx]
     simp only [List.map_append,List.map_cons,List.append_assoc,List.cons_append];rfl⟩
    have nx : (fs.take (i + 1)).map facL = (fs.take i).map facL ++ [([],factT x)]:=by
     rw [take_next hx];simp [facL]
    rw [nx]
    obtain ⟨F,hF⟩ : ∃ z,factT x = z:=⟨_,rfl⟩
    rw [hF] at p83 hte hr ⊢
    clear nx hF
    simp +contextual (maxSteps:=10000000) only [t1,t4,t16,t17,t18,d1,hx,ex,r1,r2,r3,r4,p83,hte,pcallG hM,go_sem]
    refine orG_line hD (by first | exact hp | exact hp.appB _ | exact hp.appU _ | exact hp.app _ _) hr fun B2 U2 hp2 hl2 hs2=>?_
    simp +contextual (maxSteps:=10000000) only [t1,t4,t16,t17,t18,wrap_succ i (by omega),go_sem]
    exact hp2
   ·rintro ⟨t,B,U⟩ ⟨t1,t4,t16,t17,t18,hp⟩
    simp only at t1 t4 t16 t17 t18 hp
    have d1 : decide ((fs.length : Int) < fs.length) = false:=by simp
    rw [List.take_length] at hp
    have hg:=hp.doc
    rw [<- hdc] at hg
    simp only [mkT] at pu
    simp +contextual (maxSteps:=10000000) only [t1,t4,t16,t17,t18,d1,rdAt_E hg,rdAt_Ea hg,pu,pcallG hM,go_sem]
    refine orG_line (pre:=[]) (toks:=[mkT 1 wUse 0,mkT 1 us 0,mkT 5 [59] 0]) hD (by first | exact hp | exact hp.appB _ | exact hp.appU _ | exact hp.app _ _) ⟨(ps.map polL).flatten,by rw [hDLe];rfl⟩ fun B2 U2 hp2 hl2 hs2=>?_
    have hg2:=hp2.doc
    rw [<- hdc] at hg2
    have hDLe2 : DL = (fs.map facL ++ [([],[mkT 1 wUse 0,mkT 1 us 0,mkT 5 [59] 0])]) ++ (ps.map polL).flatten:=by rw [hDLe];simp [useL]
    obtain ⟨A,hA⟩ : ∃ z,fs.map facL ++ [(([] : List UInt8),[mkT 1 wUse 0,mkT 1 us 0,mkT 5 [59] 0])] = z:=⟨_,rfl⟩
    rw [hA] at hp2 hDLe2
    have hA':=hA
    clear hA hp hg hs2 hDLe d1 pu
    simp +contextual (maxSteps:=10000000) only [t1,t4,rdAt_E hg2,rdAt_Ea hg2,go_sem]
    refine W_each ps (fun i s=>s.t 1 = .ptr H.length 0 /\ s.t 4 = .ptr (H.length + 1) 0 /\ s.t 32 = sliceD m' ps /\ s.t 33 = .int .i64 (ps.length : Int) /\ s.t 34 = .int .i64 (i : Int) /\ Pg H T dc (A ++ ((ps.take i).map polL).flatten) s.H s.T) hX ⟨by simp [upd,t1],by simp [upd,t4],by simp [upd],by simp [upd],by simp [upd],by simpa using hp2⟩ ?_ ?_
    ·clear hp2 hg2 t1 t4 t16 t17 t18
     rintro i x ⟨t,B,U⟩ hx hm hi ⟨t1,t4,t32,t33,t34,hp⟩
     simp only at t1 t4 t32 t33 t34 hp
     have d1 : decide ((i : Int) < ps.length) = true:=by simpa using hi
     have hgp:=hpg x hm
     have hop:=hbp x hm
     have hxP:=h5 x hm
     have exP:=isPo_erase hxP
     have nx : A ++ ((ps.take (i + 1)).map polL).flatten = (A ++ ((ps.take i).map polL).flatten) ++ polL x:=by
      rw [take_next hx];simp
     have hr0 : ∃ rest,DL = (A ++ ((ps.take i).map polL).flatten) ++ (polL x ++ rest):=⟨((ps.drop (i + 1)).map polL).flatten,by
      rw [hDLe2]
      conv=>lhs;rw [get_split hx]
      simp only [List.map_append,List.map_cons,List.flatten_append,List.flatten_cons,List.append_assoc]⟩
     rw [nx]
     obtain ⟨P0,hP0⟩ : ∃ z,A ++ ((ps.take i).map polL).flatten = z:=⟨_,rfl⟩
     rw [hP0] at hp hr0 ⊢
     clear nx hP0
     obtain ⟨_,hge,hgl,hgr⟩:=hgp
     obtain ⟨nm,bn,us',hf,e,mm,rs,rfl,he,k1,k2,k3,k4,k5⟩:=hxP
     simp only [okP,pNm_mk,pBy_mk,pUs_mk,pHf_mk,pRs_mk,pE_mk _ _ _ _ _ _ _ he,Bool.and_eq_true] at hop
     obtain ⟨o1,o2,o3,o4,o5⟩:=hop
     have o5:=List.all_eq_true.1 o5
     simp only [pHf_mk,pRs_mk,pE_mk _ _ _ _ _ _ _ he] at hge hgl hgr
     have ePL : polL (mkP nm bn us' hf e mm rs) = ([],[mkT 1 wPolicy 0,mkT 1 nm 0,mkT 1 wBy 0,mkT 1 bn 0,mkT 1 wUse 0,mkT 1 us' 0,mkT 5 [123] 0]) :: ((if hf then [(ln2,mkT 1 wFor 0 :: (tkC false e ++ [mkT 5 [59] 0]))] else []) ++ (rs.map rulL ++ [([],[mkT 5 [125] 0])])):=by
      simp only [polL,headT,forL,pNm_mk,pBy_mk,pUs_mk,pHf_mk,pRs_mk,pE_mk _ _ _ _ _ _ _ he]
     rw [ePL] at hr0 ⊢
     have hE:=ag_isE he
     have ee:=isE_erase he
     have ph : φsP [.sl none [.str wPolicy,.str nm,.str wBy,.str bn,.str wUse,.str us',.str [123]]] = some (.sl none [mkT 1 wPolicy 0,mkT 1 nm 0,mkT 1 wBy 0,mkT 1 bn 0,mkT 1 wUse 0,mkT 1 us' 0,mkT 5 [123] 0]):=by
      have:=sg_all (l:=[wPolicy,nm,wBy,bn,wUse,us',[123]]) (fun s hs=>by
       simp only [List.mem_cons,List.not_mem_nil,or_false] at hs
       rcases hs with rfl | rfl | rfl | rfl | rfl | rfl | rfl
       ·decide
       ·exact k1
       ·decide
       ·exact k2
       ·decide
       ·exact k3
       ·decide) (by simp) (by simp)
      simp only [List.map_cons,List.map_nil,sT_word (s:=wPolicy) (by decide),sT_name o1,sT_word (s:=wBy) (by decide),sT_name o2,sT_word (s:=wUse) (by decide),sT_word o3,sT_sign (s:=[123]) (by decide)] at this
      simp only [φsP,this];rfl
     have eh : isTks [mkT 1 wPolicy 0,mkT 1 nm 0,mkT 1 wBy 0,mkT 1 bn 0,mkT 1 wUse 0,mkT 1 us' 0,mkT 5 [123] 0]:=isTks.cons _ _ _ (isTks.cons _ _ _ (isTks.cons _ _ _ (isTks.cons _ _ _ (isTks.cons _ _ _ (isTks.cons _ _ _ (isTks.cons _ _ _ .nil))))))
     have ehe:=eh.erase
     obtain ⟨HD,hHD⟩ : ∃ z,[mkT 1 wPolicy 0,mkT 1 nm 0,mkT 1 wBy 0,mkT 1 bn 0,mkT 1 wUse 0,mkT 1 us' 0,mkT 5 [123] 0] = z:=⟨_,rfl⟩
     rw [hHD] at ph hr0 ehe ⊢
     simp only [wPolicy,wBy,wUse] at ph
     clear hHD eh ePL
     obtain ⟨rest,hr0⟩:=hr0
     obtain ⟨FL,hFL⟩ : ∃ z,P0 ++ (([],HD) :: ((if hf then [(ln2,mkT 1 wFor 0 :: (tkC false e ++ [mkT 5 [59] 0]))] else []) ++ (rs.map rulL ++ [([],[mkT 5 [125] 0])]))) = z:=⟨_,rfl⟩
     have hr1 : DL = FL ++ rest:=by rw [hr0,← hFL];simp
     rw [hFL]
     have hlt:=hp.lt
     simp only [mkP] at exP
     simp +contextual (maxSteps:=10000000) only [t1,t4,t32,t33,t34,d1,hx,mkP,exP,ph,ehe,pcallG hM,go_sem]
     refine orG_line (pre:=[]) (toks:=HD) hD (by first | exact hp | exact hp.appB _ | exact hp.appU _ | exact hp.app _ _) ⟨((if hf then [(ln2,mkT 1 wFor 0 :: (tkC false e ++ [mkT 5 [59] 0]))] else []) ++ (rs.map rulL ++ [([],[mkT 5 [125] 0])])) ++ rest,by rw [hr0];simp only [List.cons_append]⟩ fun B2 U2 hp2 hl2 hs2=>?_
     have hg8:=hs2 B.length (by omega)
     rw [List.getElem?_append_right (Nat.le_refl _),Nat.sub_self] at hg8
     simp only [List.getElem?_cons_zero] at hg8
     cases hf with
     | false =>
      obtain ⟨Q0,hQ0⟩ : ∃ z,P0 ++ [(([] : List UInt8),HD)] = z:=⟨_,rfl⟩
      have hFLQ : FL = Q0 ++ (rs.map rulL ++ [([],[mkT 5 [125] 0])]):=by rw [<- hFL,← hQ0];simp
      rw [hQ0] at hp2
      have hp3:=hp2
      simp +contextual (maxSteps:=10000000) only [t1,t4,t32,t33,t34,rdAt_E hg8,rdAt_Ea hg8,go_sem]
      refine W_each rs (fun j s=>s.t 1 = .ptr H.length 0 /\ s.t 4 = .ptr (H.length + 1) 0 /\ s.t 32 = sliceD m' ps /\ s.t 33 = .int .i64 (ps.length : Int) /\ s.t 34 = .int .i64 (i : Int) /\ s.t 60 = sliceD mm rs /\ s.t 61 = .int .i64 (rs.length : Int) /\ s.t 62 = .int .i64 (j : Int) /\ Pg H T dc (Q0 ++ (rs.take j).map rulL) s.H s.T) hX ⟨by simp [upd,t1],by simp [upd,t4],by simp [upd,t32],by simp [upd,t33],by simp [upd,t34],by simp [upd],by simp [upd],by simp [upd],by simpa using hp3⟩ ?_ ?_
      ·rintro j y ⟨t',B',U'⟩ hy hym hj ⟨u1,u4,u32,u33,u34,u60,u61,u62,hq⟩
       simp only at u1 u4 u32 u33 u34 u60 u61 u62 hq
       have d2 : decide ((j : Int) < rs.length) = true:=by simpa using hj
       have p86 : φruleP [y] = some (.sl none (ruleT false y)):=by simp only [φruleP];rw [if_pos ⟨hgr y hym,o5 y hym⟩]
       have ey:=isR_erase (hgr y hym).s
       obtain ⟨v1,v2,v3,v4⟩:=isR_cells (hgr y hym).s
       have hte':=(ruleT_tok false y).erase
       have hr3 : ∃ rest',DL = (Q0 ++ (rs.take j).map rulL) ++ (ln2,ruleT false y) :: rest':=⟨(rs.drop (j + 1)).map rulL ++ [([],[mkT 5 [125] 0])] ++ rest,by
        rw [hr1,hFLQ]
        conv=>lhs;rw [get_split hy]
        simp [rulL]⟩
       have nx' : Q0 ++ (rs.take (j + 1)).map rulL = (Q0 ++ (rs.take j).map rulL) ++ [(ln2,ruleT false y)]:=by
        rw [take_next hy];simp [rulL]
       rw [nx']
       obtain ⟨R,hR⟩ : ∃ z,ruleT false y = z:=⟨_,rfl⟩
       rw [hR] at p86 hte' hr3 ⊢
       clear nx' hR
       simp +contextual (maxSteps:=10000000) only [u1,u4,u32,u33,u34,u60,u61,u62,d2,hy,ey,v1,v2,v3,v4,p86,hte',pcallG hM,go_sem]
       refine orG_line (pre:=ln2) (toks:=R) hD (by first | exact hq | exact hq.appB _ | exact hq.appU _ | exact hq.app _ _) hr3 fun B5 U5 hp5 hl5 hs5=>?_
       simp +contextual (maxSteps:=10000000) only [u1,u4,u32,u33,u34,u60,u61,u62,wrap_succ j (by omega),go_sem]
       first | exact hp5 | (simp only [List.append_assoc] at hp5;exact hp5)
      ·rintro ⟨t',B',U'⟩ ⟨u1,u4,u32,u33,u34,u60,u61,u62,hq⟩
       simp only at u1 u4 u32 u33 u34 u60 u61 u62 hq
       have d2 : decide ((rs.length : Int) < rs.length) = false:=by simp
       rw [List.take_length] at hq
       simp only [mkT] at pb
       simp +contextual (maxSteps:=10000000) only [u1,u4,u32,u33,u34,u60,u61,u62,d2,pb,pcallG hM,go_sem]
       refine orG_line (pre:=[]) (toks:=[mkT 5 [125] 0]) hD (by first | exact hq | exact hq.appB _ | exact hq.appU _ | exact hq.app _ _) ⟨rest,by rw [hr1,hFLQ];simp⟩ fun B5 U5 hp5 hl5 hs5=>?_
       simp +contextual (maxSteps:=10000000) only [u1,u4,u32,u33,u34,wrap_succ i (by omega),go_sem]
       rw [hFLQ]
       first | exact hp5 | (simp only [List.append_assoc] at hp5 ⊢;exact hp5)
     | true =>
      obtain ⟨hG1,hL1⟩:=hge rfl
      have p75 : φxpr nodeB [e] = some (.sl none (tkC false e)):=by
       simp only [φxpr];rw [if_pos ⟨he,hG1,by omega⟩]
      have htk:=tkC_tks false e
      have hz : isTks (mkT 1 wFor 0 :: (tkC false e ++ [mkT 5 [59] 0])):=isTks.cons _ _ _ (htk.app (isTks.cons _ _ _ .nil))
      have pc:=catn (ls:=[.sl none [mkT 1 wFor 0],.sl none (tkC false e),.sl none [mkT 5 [59] 0]]) (Z:=mkT 1 wFor 0 :: (tkC false e ++ [mkT 5 [59] 0])) (fun y hy=>by
       simp only [List.mem_cons,List.not_mem_nil,or_false] at hy
       rcases hy with rfl | rfl | rfl <;> exact sl_none _) (by simp [catD,elems]) hz (by simp;omega) (by simp) (by simp)
      have hze:=hz.erase
      have hte:=htk.erase
      obtain ⟨Q0,hQ0⟩ : ∃ z,(P0 ++ [(([] : List UInt8),HD)]) ++ [(ln2,mkT 1 wFor 0 :: (tkC false e ++ [mkT 5 [59] 0]))] = z:=⟨_,rfl⟩
      have hFLQ : FL = Q0 ++ (rs.map rulL ++ [([],[mkT 5 [125] 0])]):=by rw [<- hFL,← hQ0];simp
      have hr2 : ∃ rest',DL = (P0 ++ [(([] : List UInt8),HD)]) ++ (ln2,mkT 1 wFor 0 :: (tkC false e ++ [mkT 5 [59] 0])) :: rest':=⟨rs.map rulL ++ [([],[mkT 5 [125] 0])] ++ rest,by rw [hr1,hFLQ,← hQ0];simp⟩
      obtain ⟨FT,hFT⟩ : ∃ z,mkT 1 wFor 0 :: (tkC false e ++ [mkT 5 [59] 0]) = z:=⟨_,rfl⟩
      rw [hFT] at pc hze hr2 hQ0
      obtain ⟨XT,hXT⟩ : ∃ z,tkC false e = z:=⟨_,rfl⟩
      rw [hXT] at pc p75 hte
      simp only [mkT,wFor] at pc
      simp +contextual (maxSteps:=10000000) only [t1,t4,t32,t33,t34,rdAt_E hg8,rdAt_Ea hg8,pf,pq,pc,p75,hE,ee,hte,hze,pcallG hM,go_sem]
      refine orG_line (pre:=ln2) (toks:=FT) hD (by first | exact hp2 | exact hp2.appB _ | exact hp2.appU _ | exact hp2.app _ _) hr2 fun B3 U3 hp3 hl3 hs3=>?_
      have hg9:=hs3 B.length (by omega)
      rw [hg8] at hg9
      rw [hQ0] at hp3
      simp +contextual (maxSteps:=10000000) only [t1,t4,t32,t33,t34,rdAt_E hg9,rdAt_Ea hg9,go_sem]
      refine W_each rs (fun j s=>s.t 1 = .ptr H.length 0 /\ s.t 4 = .ptr (H.length + 1) 0 /\ s.t 32 = sliceD m' ps /\ s.t 33 = .int .i64 (ps.length : Int) /\ s.t 34 = .int .i64 (i : Int) /\ s.t 60 = sliceD mm rs /\ s.t 61 = .int .i64 (rs.length : Int) /\ s.t 62 = .int .i64 (j : Int) /\ Pg H T dc (Q0 ++ (rs.take j).map rulL) s.H s.T) hX ⟨by simp [upd,t1],by simp [upd,t4],by simp [upd,t32],by simp [upd,t33],by simp [upd,t34],by simp [upd],by simp [upd],by simp [upd],by simpa using hp3⟩ ?_ ?_
      ·rintro j y ⟨t',B',U'⟩ hy hym hj ⟨u1,u4,u32,u33,u34,u60,u61,u62,hq⟩
       simp only at u1 u4 u32 u33 u34 u60 u61 u62 hq
       have d2 : decide ((j : Int) < rs.length) = true:=by simpa using hj
       have p86 : φruleP [y] = some (.sl none (ruleT false y)):=by simp only [φruleP];rw [if_pos ⟨hgr y hym,o5 y hym⟩]
       have ey:=isR_erase (hgr y hym).s
       obtain ⟨v1,v2,v3,v4⟩:=isR_cells (hgr y hym).s
       have hte':=(ruleT_tok false y).erase
       have hr3 : ∃ rest',DL = (Q0 ++ (rs.take j).map rulL) ++ (ln2,ruleT false y) :: rest':=⟨(rs.drop (j + 1)).map rulL ++ [([],[mkT 5 [125] 0])] ++ rest,by
        rw [hr1,hFLQ]
        conv=>lhs;rw [get_split hy]
        simp [rulL]⟩
       have nx' : Q0 ++ (rs.take (j + 1)).map rulL = (Q0 ++ (rs.take j).map rulL) ++ [(ln2,ruleT false y)]:=by
        rw [take_next hy];simp [rulL]
       rw [nx']
       obtain ⟨R,hR⟩ : ∃ z,ruleT false y = z:=⟨_,rfl⟩
       rw [hR] at p86 hte' hr3 ⊢
       clear nx' hR
       simp +contextual (maxSteps:=10000000) only [u1,u4,u32,u33,u34,u60,u61,u62,d2,hy,ey,v1,v2,v3,v4,p86,hte',pcallG hM,go_sem]
       refine orG_line (pre:=ln2) (toks:=R) hD (by first | exact hq | exact hq.appB _ | exact hq.appU _ | exact hq.app _ _) hr3 fun B5 U5 hp5 hl5 hs5=>?_
       simp +contextual (maxSteps:=10000000) only [u1,u4,u32,u33,u34,u60,u61,u62,wrap_succ j (by omega),go_sem]
       first | exact hp5 | (simp only [List.append_assoc] at hp5;exact hp5)
      ·rintro ⟨t',B',U'⟩ ⟨u1,u4,u32,u33,u34,u60,u61,u62,hq⟩
       simp only at u1 u4 u32 u33 u34 u60 u61 u62 hq
       have d2 : decide ((rs.length : Int) < rs.length) = false:=by simp
       rw [List.take_length] at hq
       simp only [mkT] at pb
       simp +contextual (maxSteps:=10000000) only [u1,u4,u32,u33,u34,u60,u61,u62,d2,pb,pcallG hM,go_sem]
       refine orG_line (pre:=[]) (toks:=[mkT 5 [125] 0]) hD (by first | exact hq | exact hq.appB _ | exact hq.appU _ | exact hq.app _ _) ⟨rest,by rw [hr1,hFLQ];simp⟩ fun B5 U5 hp5 hl5 hs5=>?_
       simp +contextual (maxSteps:=10000000) only [u1,u4,u32,u33,u34,wrap_succ i (by omega),go_sem]
       rw [hFLQ]
       first | exact hp5 | (simp only [List.append_assoc] at hp5 ⊢;exact hp5)
    ·clear hp2 hg2 t1 t4 t16 t17 t18
     rintro ⟨t,B,U⟩ ⟨t1,t4,t32,t33,t34,hp⟩
     simp only at t1 t4 t32 t33 t34 hp
     have d1 : decide ((ps.length : Int) < ps.length) = false:=by simp
     rw [List.take_length,← hDLe2] at hp
     have hne : DL.map lnD ≠ []:=by
      intro e
      have e : DL = []:=by simpa using e
      rw [e] at hDLe2
      have:=congrArg List.length hDLe2
      rw [<- hA'] at this
      simp at this
     obtain ⟨d,hb,hac⟩:=hp.b
     have hde:=hac.erase (lnD_erase DL) hne
     have es : (DL.map lnD).map strOf = DL.map fun l=>lineG l.1 l.2:=by rw [List.map_map];rfl
     have p88 : φjoin [.sl none (DL.map lnD),.str []] = some (.str (DL.map fun l=>lineG l.1 l.2).flatten):=by
      have hL : isLs isTx (.sl none (DL.map lnD)):=⟨false,_,rfl,by rw [List.length_map];have:=hD.n;omega,fun y hy=>by
       obtain ⟨l,hl,rfl⟩:=List.mem_map.1 hy
       obtain ⟨h1,h2⟩:=hD.k l hl
       simp only [jkG,Bool.and_eq_true,decide_eq_true_eq] at h1
       exact ⟨_,rfl,by simp only [lineG,List.length_append,List.length_cons,List.length_nil];omega⟩⟩
      have e : elems (.sl none (DL.map lnD)) = DL.map lnD:=rfl
      simp only [φjoin]
      rw [if_pos ⟨hL,by rw [e,es,join_nil];exact hS⟩,e,es,join_nil]
     obtain ⟨S,hSS⟩ : ∃ z,(DL.map fun l=>lineG l.1 l.2).flatten = z:=⟨_,rfl⟩
     obtain ⟨N,hNN⟩ : ∃ z,cntL DL = z:=⟨_,rfl⟩
     rw [hSS] at p88 hS ⊢
     rw [hNN] at hb ⊢
     rcases tf (decide ((4096 : Int) < (S.length : Nat))) with g1 | g1
     ·have k1 : 4096 < S.length:=by simp only [decide_eq_true_eq] at g1;omega
      rw [if_pos (.inl k1)]
      simp +contextual (maxSteps:=10000000) only [t1,t4,t32,t33,t34,d1,rdAt_E hb,hde,p88,g1,pcallG hM,go_sem]
      first | exact leavesE_mk rfl hp.hp hac.1 | exact leavesE_mk rfl (hp.hp.app _) (hac.1.app _)
     ·have k1 : ¬ 4096 < S.length:=by simp only [decide_eq_false_iff_not] at g1;omega
      rcases tf (decide ((600 : Int) < (N : Nat))) with g2 | g2
      ·have k2 : 600 < N:=by simp only [decide_eq_true_eq] at g2;omega
       rw [if_pos (.inr k2)]
       simp +contextual (maxSteps:=10000000) only [t1,t4,t32,t33,t34,d1,rdAt_E hb,hde,p88,g1,g2,pcallG hM,go_sem]
       first | exact leavesE_mk rfl hp.hp hac.1 | exact leavesE_mk rfl (hp.hp.app _) (hac.1.app _)
      ·have k2 : ¬ 600 < N:=by simp only [decide_eq_false_iff_not] at g2;omega
       rw [if_neg (by omega)]
       simp +contextual (maxSteps:=10000000) only [t1,t4,t32,t33,t34,d1,rdAt_E hb,hde,p88,g1,g2,pcallG hM,go_sem]
       first | exact leavesE_mk rfl hp.hp hac.1 | exact leavesE_mk rfl (hp.hp.app _) (hac.1.app _)
  ·cases h
 ·cases h
end GP
namespace GP
open Go Go.Proofs
set_option maxRecDepth 100000
theorem sh_130 {x : D} (h : shwG x = true) : (showT x).length <= 130:=showT_len (sh_rTok h)
theorem sp_len : ∀ (l : List D),(∀ x ∈ l,shwG x = true) -> (spT l).length <= 131 * l.length
 | [],_=>by simp [spT]
 | y :: l,h=>by
  have h1:=sh_130 (h y (by simp))
  have h2:=sp_len l fun z hz=>h z (by simp [hz])
  simp only [spT,List.map_cons,List.flatten_cons,List.length_append,List.length_cons] at h2 ⊢
  omega
theorem jn_len {x : D} {l : List D} (h : ∀ y ∈ x :: l,shwG y = true) : (jnG (x :: l)).length <= 131 * (l.length + 1):=by
 have h1:=sh_130 (h x (by simp))
 have h2:=sp_len l fun z hz=>h z (by simp [hz])
 rw [jn_sp,List.length_append];omega
structure okLn (w : Bool) (l : Ln) (w' : Bool) : Prop where
 f : ∀ a,l.2.foldl rF (a,w,true) = (a ++ lineG l.1 l.2,w',true)
 s : ∀ x ∈ l.2,shwG x = true
 n : l.2 ≠ []
 b : l.2.length <= 2 ^ 30
 p : l.1.length <= 2
theorem okLn.jk {w w' : Bool} {l : Ln} (h : okLn w l w') : jkG l.2 = true:=by
 obtain ⟨p,toks⟩:=l
 obtain ⟨_,h1,h2,h3,_⟩:=h
 simp only at h1 h2 h3 ⊢
 cases toks with
 | nil=>exact (h2 rfl).elim
 | cons x l =>
  have hl:=jn_len h1
  have ha : (x :: l).all shwG = true:=List.all_eq_true.2 h1
  simp only [List.length_cons] at h3
  unfold jkG
  rw [ha]
  simp only [List.isEmpty_cons,Bool.not_false,Bool.true_and,Bool.and_eq_true,decide_eq_true_eq,List.length_cons]
  omega
theorem okLn.len {w w' : Bool} {l : Ln} (h : okLn w l w') : (lineG l.1 l.2).length <= 2 ^ 38:=by
 obtain ⟨p,toks⟩:=l
 obtain ⟨_,h1,h2,h3,h4⟩:=h
 simp only at h1 h2 h3 h4 ⊢
 cases toks with
 | nil=>exact (h2 rfl).elim
 | cons x l =>
  have hl:=jn_len h1
  simp only [List.length_cons] at h3
  simp only [lineG,List.length_append,List.length_cons,List.length_nil];omega
def okLs : Bool -> List Ln -> Bool -> Prop
 | w,[],w'=>w = w'
 | w,l :: ls,w'=>∃ u,okLn w l u /\ okLs u ls w'
theorem okLs.app : ∀ {a b : List Ln} {w u w' : Bool},okLs w a u -> okLs u b w' -> okLs w (a ++ b) w'
 | [],_,_,_,_,h,k=>by cases h;exact k
 | l :: a,b,_,_,_,⟨v,h1,h2⟩,k=>⟨v,h1,okLs.app h2 k⟩
theorem okLs.one {l : Ln} {w w' : Bool} (h : okLn w l w') : okLs w [l] w':=⟨_,h,rfl⟩
theorem okLs.map {α : Type} {f : α -> Ln} {w : Bool} : ∀ {l : List α},(∀ x ∈ l,okLn w (f x) w) -> okLs w (l.map f) w
 | [],_=>rfl
 | x :: l,h=>⟨w,h x (by simp),okLs.map fun y hy=>h y (by simp [hy])⟩
theorem okLs.flat {α : Type} {f : α -> List Ln} {w : Bool} : ∀ {l : List α},(∀ x ∈ l,okLs w (f x) w) -> okLs w (l.map f).flatten w
 | [],_=>rfl
 | x :: l,h=>by
  rw [List.map_cons,List.flatten_cons]
  exact (h x (by simp)).app (okLs.flat fun y hy=>h y (by simp [hy]))
theorem okLs.fold : ∀ {ls : List Ln} {w w' : Bool} (a : List UInt8),okLs w ls w' -> ((ls.map fun l=>l.2).flatten).foldl rF (a,w,true) = (a ++ (ls.map fun l=>lineG l.1 l.2).flatten,w',true)
 | [],_,_,a,h=>by cases h;simp
 | l :: ls,w,w',a,⟨u,h1,h2⟩=>by
  rw [List.map_cons,List.flatten_cons,List.foldl_append,h1.f,okLs.fold _ h2];simp
theorem okLs.mem : ∀ {ls : List Ln} {w w' : Bool},okLs w ls w' -> ∀ l ∈ ls,∃ u u',okLn u l u'
 | l :: ls,w,w',⟨u,h1,h2⟩,m,hm=>by
  rcases List.mem_cons.1 hm with rfl | hm
  ·exact ⟨_,_,h1⟩
  ·exact okLs.mem h2 m hm
theorem okLs.cnt {ls : List Ln} {w w' : Bool} (h : okLs w ls w') : cntL ls <= 2 ^ 30 * ls.length /\ ((ls.map fun l=>lineG l.1 l.2).flatten).length <= 2 ^ 38 * ls.length:=by
 have hm:=h.mem
 clear h
 induction ls with
 | nil=>simp [cntL]
 | cons l ls ih =>
  obtain ⟨i1,i2⟩:=ih fun m hm'=>hm m (by simp [hm'])
  obtain ⟨u,u',hl⟩:=hm l (by simp)
  have h1:=hl.b
  have h2:=hl.len
  simp only [cntL,List.map_cons,List.sum_cons,List.flatten_cons,List.length_append,List.length_cons] at i1 i2 ⊢
  omega
theorem semi_fr : frB (mkT 5 [59] 0) = true:=by decide
theorem okLn_semi {w : Bool} {p : List UInt8} {x : D} {ys : List D} (hp : p = if w then ln2 else []) (hx : inT x) (hy : ∀ y ∈ ys,inT y) (hb : ys.length <= 2 ^ 29) : okLn w (p,x :: (ys ++ [mkT 5 [59] 0])) w:=by
 refine ⟨fun a=>?_,fun y h=>?_,by simp,by simp;omega,by rw [hp];cases w <;> simp [ln2]⟩
 ·have:=fold_line (x:=x) (ys:=ys) (z:=mkT 5 [59] 0) (a:=a) (w:=w) hx.2 (fun y h=>(hy y h).2) semi_fr
  rw [this,hp,show isSg (mkT 5 [59] 0) [125] = false by decide,show isSg (mkT 5 [59] 0) [123] = false by decide]
  cases w <;> rfl
 ·simp only [List.mem_cons,List.mem_append,List.not_mem_nil,or_false] at h
  rcases h with rfl | h | rfl
  ·exact hx.1
  ·exact (hy y h).1
  ·decide
theorem okLn_fact {f : D} (h : okF f = true) : okLn false (facL f) false:=by
 unfold okF at h
 simp only [Bool.and_eq_true,Bool.not_eq_true',decide_eq_false_iff_not] at h
 obtain ⟨h1,h2,h3,h4⟩:=h
 have e : factT f = mkT 1 wFact 0 :: (([mkT 1 (fwho f) 0,mkT 5 [46] 0,mkT 1 (fname f) 0,mkT 1 (kindN (fkind f)) 0] ++ bagT (fbag f)) ++ [mkT 5 [59] 0]):=by
  simp [factT]
 unfold facL
 rw [e]
 refine okLn_semi rfl (in_word (by decide)) (fun y hy=>?_) (by unfold bagT;split <;> simp)
 simp only [List.mem_append,List.mem_cons,List.not_mem_nil,or_false] at hy
 rcases hy with (rfl | rfl | rfl | rfl) | hy
 ·exact in_word (who_w1 h1)
 ·exact in_sign (by decide) (by decide) (by decide) (by decide)
 ·exact in_name h2
 ·exact in_word (kind_w (by omega) (by omega))
 ·unfold bagT at hy
  split at hy
  ·simp only [List.mem_cons,List.not_mem_nil,or_false] at hy;subst hy;exact in_word (by decide)
  ·cases hy
theorem okLn_use {s : List UInt8} (h : formI 1 s 0 = true) : okLn false (useL s) false:=by
 have e : useL s = ([],mkT 1 wUse 0 :: ([mkT 1 s 0] ++ [mkT 5 [59] 0])):=rfl
 rw [e]
 refine okLn_semi rfl (in_word (by decide)) (fun y hy=>?_) (by simp)
 simp only [List.mem_cons,List.not_mem_nil,or_false] at hy;subst hy
 exact in_word h
theorem in_said {w : List UInt8} {l : List (List UInt8)} (hw : formI 1 w 0 = true) (hl : l.all txtB = true) : ∀ x ∈ saidT w l,inT x:=by
 intro x hx
 unfold saidT at hx
 simp only [List.mem_flatten,List.mem_map] at hx
 obtain ⟨_,⟨s,hs,rfl⟩,hx⟩:=hx
 simp only [List.mem_cons,List.not_mem_nil,or_false] at hx
 rcases hx with rfl | rfl
 ·exact in_word hw
 ·exact in_text (List.all_eq_true.1 hl s hs)
theorem okLn_rule {r : D} (h : goodR false r) (ho : okR r = true) (hr : rgC (rE r)) : okLn true (rulL r) true:=by
 unfold okR at ho
 simp only [Bool.and_eq_true] at ho
 obtain ⟨h1,h2,h3,h4⟩:=ho
 have e : ruleT false r = mkT 1 (if rPm r then wPermit else wDeny) 0 :: ((mkT 1 (rNm r) 0 :: (ifT false r ++ saidT wDuty (rDu r) ++ saidT wAdvice (rAd r))) ++ [mkT 5 [59] 0]):=by
  simp [ruleT]
 have hl:=ruleT_len h
 rw [e] at hl
 unfold rulL
 rw [e]
 refine okLn_semi rfl ?_ (fun y hy=>?_) (by simp only [List.length_cons,List.length_append] at hl ⊢;omega)
 ·cases rPm r <;> exact in_word (by decide)
 simp only [List.mem_append,List.mem_cons] at hy
 rcases hy with rfl | (hy | hy) | hy
 ·exact in_name h1
 ·unfold ifT at hy
  split at hy
  ·rename_i hh
   rcases List.mem_cons.1 hy with rfl | hy
   ·exact in_word (by decide)
   ·exact in_tk _ (h.e hh).1 hr y hy
  ·cases hy
 ·exact in_said (by decide) h3 y hy
 ·exact in_said (by decide) h4 y hy
theorem okLn_head {p : D} (h1 : nameB (pNm p) = true) (h2 : nameB (pBy p) = true) (h3 : formI 1 (pUs p) 0 = true) : okLn false ([],headT p) true:=by
 have e : headT p = mkT 1 wPolicy 0 :: ([mkT 1 (pNm p) 0,mkT 1 wBy 0,mkT 1 (pBy p) 0,mkT 1 wUse 0,mkT 1 (pUs p) 0] ++ [mkT 5 [123] 0]):=rfl
 have hy : ∀ y ∈ [mkT 1 (pNm p) 0,mkT 1 wBy 0,mkT 1 (pBy p) 0,mkT 1 wUse 0,mkT 1 (pUs p) 0],inT y:=fun y hy=>by
  simp only [List.mem_cons,List.not_mem_nil,or_false] at hy
  rcases hy with rfl | rfl | rfl | rfl | rfl
  ·exact in_name h1
  ·exact in_word (by decide)
  ·exact in_name h2
  ·exact in_word (by decide)
  ·exact in_word h3
 have hx : inT (mkT 1 wPolicy 0):=in_word (by decide)
 rw [e]
 refine ⟨fun a=>?_,fun y h=>?_,by simp,by simp,by simp⟩
 ·have:=fold_line (x:=mkT 1 wPolicy 0) (ys:=[mkT 1 (pNm p) 0,mkT 1 wBy 0,mkT 1 (pBy p) 0,mkT 1 wUse 0,mkT 1 (pUs p) 0]) (z:=mkT 5 [123] 0) (a:=a) (w:=false) hx.2 (fun y h=>(hy y h).2) (by decide)
  rw [this];rfl
 ·rcases List.mem_cons.1 h with rfl | h
  ·exact hx.1
  rcases List.mem_append.1 h with h | h
  ·exact (hy y h).1
  ·rw [List.mem_singleton] at h;subst h;decide
theorem okLs_pol {p : D} (h : goodP false p) (ho : okP p = true) (hr : rgC (pE p) /\ ∀ r ∈ pRs p,rgC (rE r)) : okLs false (polL p) false:=by
 unfold okP at ho
 simp only [Bool.and_eq_true] at ho
 obtain ⟨h1,h2,h3,h4,h5⟩:=ho
 refine ⟨true,okLn_head h1 h2 h3,?_⟩
 refine okLs.app (u:=true) ?_ (okLs.app (u:=true) ?_ (okLs.one ?_))
 ·unfold forL
  split
  ·rename_i hh
   have he:=h.e hh
   refine okLs.one (okLn_semi rfl (in_word (by decide)) (fun y hy=>in_tk _ he.1 hr.1 y hy) (by have:=he.2;omega))
  ·rfl
 ·exact okLs.map fun r hm=>okLn_rule (h.r r hm) (List.all_eq_true.1 h5 r hm) (hr.2 r hm)
 ·exact ⟨fun a=>fold_end,fun y hy=>by
   rw [List.mem_singleton] at hy;subst hy;decide,by simp,by simp,by simp⟩
theorem polL_toks (p : D) : ((polL p).map fun l=>l.2).flatten = polT false p:=by
 have e : ((pRs p).map rulL).map (fun l=>l.2) = (pRs p).map (ruleT false):=by
  rw [List.map_map];rfl
 simp only [polL,List.map_cons,List.map_append,e,List.flatten_cons,List.flatten_append,List.map_nil,List.flatten_nil,List.append_nil]
 unfold polT forT forL headT catT
 split <;> simp
theorem docL_toks (d : D) : ((docL d).map fun l=>l.2).flatten = docT false d:=by
 have e : ((dFs d).map facL).map (fun l=>l.2) = (dFs d).map factT:=by
  rw [List.map_map];rfl
 have e2 : ∀ ps : List D,(((ps.map polL).flatten).map fun l=>l.2).flatten = catT (polT false) ps:=fun ps=>by
  induction ps with
  | nil=>rfl
  | cons p ps ih =>
   rw [List.map_cons,List.flatten_cons,List.map_append,List.flatten_append,ih,polL_toks,catT_cons]
 simp only [docL,List.map_append,List.map_cons,e,List.flatten_append,List.flatten_cons,e2]
 simp [docT,catT,useL]
theorem cntL_flat (ls : List Ln) : cntL ls = ((ls.map fun l=>l.2).flatten).length:=by
 unfold cntL
 rw [List.length_flatten,List.map_map];rfl
theorem polL_len {p : D} (h : goodP false p) : (polL p).length <= 11:=by
 have:=h.l
 have hf : (forL p).length <= 1:=by unfold forL;split <;> simp
 simp only [polL,List.length_cons,List.length_append,List.length_map,List.length_nil];omega
theorem flatL_len {α β : Type} {f : α -> List β} {B : Nat} : ∀ {l : List α},(∀ x ∈ l,(f x).length <= B) -> ((l.map f).flatten).length <= B * l.length
 | [],_=>by simp
 | x :: l,h=>by
  have h1:=h x (by simp)
  have h2:=flatL_len (f:=f) (B:=B) (l:=l) fun y hy=>h y (by simp [hy])
  rw [List.map_cons,List.flatten_cons,List.length_append,List.length_cons,Nat.mul_add];omega
theorem doc_lines {d : D} (hG : goodD false d) (hb : okD d = true) (hr : ∀ p ∈ dPs d,rgC (pE p) /\ ∀ r ∈ pRs p,rgC (rE r)) :
  okDL (docL d) /\ (rS (docT false d)).1 = docS d /\ (docT false d).all rTok = true /\ (docS d).length <= 2 ^ 47 /\ cntL (docL d) = (docT false d).length:=by
 have hb':=hb
 unfold okD at hb'
 simp only [Bool.and_eq_true] at hb'
 obtain ⟨b1,b2,b3⟩:=hb'
 have b2:=List.all_eq_true.1 b2
 have b3:=List.all_eq_true.1 b3
 have hL : okLs false (docL d) false:=by
  unfold docL
  refine okLs.app (u:=false) (okLs.map fun f hf=>okLn_fact (b2 f hf)) ⟨false,okLn_use b1,okLs.flat fun p hp=>okLs_pol (hG.p p hp) (b3 p hp) (hr p hp)⟩
 have hlen : (docL d).length <= 79:=by
  have h1:=hG.f
  have h2:=hG.l
  have h3:=flatL_len (f:=polL) (B:=11) (l:=dPs d) fun p hp=>polL_len (hG.p p hp)
  have h4:=Nat.mul_le_mul_left 11 h2
  simp only [docL,List.length_append,List.length_map,List.length_cons];omega
 obtain ⟨c1,c2⟩:=hL.cnt
 have hm:=hL.mem
 have c3 : 2 ^ 30 * (docL d).length <= 2 ^ 30 * 79:=Nat.mul_le_mul_left _ hlen
 have c4 : 2 ^ 38 * (docL d).length <= 2 ^ 38 * 79:=Nat.mul_le_mul_left _ hlen
 refine ⟨⟨fun l hl=>?_,by omega,by omega⟩,?_,?_,?_,by rw [cntL_flat,docL_toks]⟩
 ·obtain ⟨u,u',h⟩:=hm l hl
  exact ⟨h.jk,by have:=h.p;omega⟩
 ·unfold rS
  rw [<- docL_toks,hL.fold];rfl
 ·rw [<- docL_toks,List.all_eq_true]
  intro x hx
  simp only [List.mem_flatten,List.mem_map] at hx
  obtain ⟨_,⟨l,hl,rfl⟩,hx⟩:=hx
  obtain ⟨u,u',h⟩:=hm l hl
  exact sh_rTok (h.s x hx)
 ·show ((docL d).map fun l=>lineG l.1 l.2).flatten.length <= _
  omega
end GP
namespace GP
open Go Go.Proofs
set_option maxRecDepth 100000
theorem few_sm {n : Nat} {d : D} (hd : isDoc n d) (h : fewD n d = true) : ∀ p ∈ dPs d,∀ r ∈ pRs p,(rDu r).length <= 2 ^ 20 /\ (rAd r).length <= 2 ^ 20:=by
 intro p hp r hr
 unfold fewD at h
 simp only [Bool.and_eq_true] at h
 have h:=List.all_eq_true.1 h.2 p hp
 unfold fewP at h
 simp only [Bool.and_eq_true] at h
 have h:=List.all_eq_true.1 h.2 r hr
 unfold fewR gt at h
 simp only [Bool.and_eq_true,Bool.not_eq_true',decide_eq_false_iff_not] at h
 omega
set_option maxHeartbeats 8000000 in
theorem main10 {n : Nat} {d : D} (hd : isDoc n d) (hrg : rgD d) (H : Hp) (T : Tk) : W (Snd Tryz.prog) c10 (endQ [.inl 2] (fun r _ _=>r = .bool true)) ⟨argT [d],H,T⟩:=by
 refine W_mono (X:=XL [(33,φawake),(28,φfewD n),(37,φdocP),(29,φokD),(38,φtextR)]) (Ok.X (.cons ok33 (.cons (ok28 n) (.cons ok37 (.cons ok29 (.cons ok38 .nil)))))) (fun _ _ h=>h) ?_
 have p0 : φawake [] = some (.bool true):=rfl
 have ed:=isDoc_erase hd
 obtain ⟨q1,q2,q3,q4⟩:=isDoc_cells hd
 have p1 : φfewD n [d] = some (.bool (fewD n d)):=by simp only [φfewD];rw [if_pos hd]
 cases hfw : fewD n d with
 | false =>
  rw [hfw] at p1
  simp +contextual (maxSteps:=10000000) only [c10,p0,ed,q1,q2,q3,q4,p1,go_sem]
 | true =>
 rw [hfw] at p1
 have hN:=(fewD_p hd hfw).1
 have hsm : smD d:=⟨hN,few_sm hd hfw⟩
 have p2 : φokD [d] = some (.bool (okD d)):=by simp only [φokD];rw [if_pos hN]
 cases hfm : okD d with
 | false =>
  rw [hfm] at p2
  have p3 : φdocP [d] = some (.tup [.str [],.int .i64 2]):=by
   simp only [φdocP]
   rw [if_pos ⟨hsm,fun h=>by rw [hfm] at h;cases h⟩,hfm];rfl
  simp +contextual (maxSteps:=10000000) only [c10,p0,ed,q1,q2,q3,q4,p1,p2,p3,go_sem]
 | true =>
 rw [hfm] at p2
 obtain ⟨hrd,hgd⟩:=doc_facts hd hfw hfm hrg
 have hG:=hgd false
 obtain ⟨l1,l2,l3,l4,l5⟩:=doc_lines hG hfm hrg
 have p3 : φdocP [d] = some (docR d):=by
  simp only [φdocP]
  rw [if_pos ⟨hsm,fun _=>⟨hG,l1,l4⟩⟩,hfm];rfl
 have p4 : φtextR [d] = some (.tup [.str (docS d),.int .i64 ((cntL (docL d) : Nat) : Int)]):=by
  simp only [φtextR]
  rw [if_pos ⟨hG,l3⟩,l2,l5]
 unfold docR at p3
 obtain ⟨S,hS⟩ : ∃ z,docS d = z:=⟨_,rfl⟩
 obtain ⟨N,hNN⟩ : ∃ z,cntL (docL d) = z:=⟨_,rfl⟩
 rw [hS,hNN] at p3 p4
 rcases tf (decide ((600 : Int) < (N : Nat))) with g1 | g1
 ·have k1 : 600 < N:=by simp only [decide_eq_true_eq] at g1;omega
  rw [if_pos (.inr k1)] at p3
  simp +contextual (maxSteps:=10000000) only [c10,p0,ed,q1,q2,q3,q4,p1,p2,p3,p4,g1,go_sem]
 ·have k1 : ¬ 600 < N:=by simp only [decide_eq_false_iff_not] at g1;omega
  rcases tf (decide ((4096 : Int) < (S.length : Nat))) with g2 | g2
  ·have k2 : 4096 < S.length:=by simp only [decide_eq_true_eq] at g2;omega
   rw [if_pos (.inl k2)] at p3
   simp +contextual (maxSteps:=10000000) only [c10,p0,ed,q1,q2,q3,q4,p1,p2,p3,p4,g1,g2,go_sem]
  ·have k2 : ¬ 4096 < S.length:=by simp only [decide_eq_false_iff_not] at g2;omega
   rw [if_neg (by omega)] at p3
   have es : (S == S) = true:=by simp
   simp +contextual (maxSteps:=10000000) only [c10,p0,ed,q1,q2,q3,q4,p1,p2,p3,p4,g1,g2,es,go_sem]
end GP
