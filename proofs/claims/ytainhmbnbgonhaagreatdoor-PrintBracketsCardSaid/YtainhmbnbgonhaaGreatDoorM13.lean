import Derived.Ground.NamesProg
import Derived.Shelf.Lay
import Derived.Shelf.Strings.OnBuilder
import Derived.Test.YtainhmbnbgonhaaGreatDoorProg
import Derived.Test.YtainhmbnbgonhaaGreatDoorM5
import Derived.Test.YtainhmbnbgonhaaGreatDoorM10
import Derived.Test.YtainhmbnbgonhaaGreatDoorM11
import Derived.Test.YtainhmbnbgonhaaGreatDoorM12
set_option linter.unusedSimpArgs false
set_option linter.unnecessarySimpa false
namespace GP
open Go Go.Proofs
set_option maxRecDepth 100000
theorem zTok : ∀ d ∈ [D.int .i64 0,.str [],.int .i64 0],d.one = true /\ d.cl 0 0 = true:=by
 intro d hd
 simp only [List.mem_cons,List.not_mem_nil,or_false] at hd
 rcases hd with rfl | rfl | rfl <;> exact ⟨rfl,rfl⟩
theorem ok138 : OkAtG Tryz.prog 138 (φgrow true 3 32 [.int .i64 0,.str [],.int .i64 0]):=okGrow (by rfl) zTok fn138
theorem ok85 : OkAt Tryz.prog 85 (φcat 3 32):=okCat (by rfl) ok138 fn85
theorem isTks.ag {l : List D} (h : isTks l) : isAg 3 l:=fun x hx=>by
 obtain ⟨k,s,n,rfl⟩:=h x hx
 exact ⟨_,rfl,rfl⟩
theorem cat_at {ls : List D} (hs : ∀ y ∈ ls,∃ m xs,y = sliceD m xs) (hk : isTks (catD ls)) (hn : (catD ls).length <= 2 ^ 40) (hl : ls.length <= 2 ^ 40) : φcat 3 32 [.sl none ls] = some (sliceD true (catD ls)):=by
 simp only [φcat]
 rw [if_pos ⟨rfl,⟨hl,hs,hk.ag,hk.erase,hk.cl _ _,by have : elems (.sl none ls) = ls:=rfl;rw [this];omega,by have : elems (.sl none ls) = ls:=rfl;rw [this];omega⟩⟩]
 rfl
def signT (s : List UInt8) : D:=if formI 1 s 0 then mkT 1 s 0 else mkT 5 s 0
def isStrD : D -> Bool
 | .str s=>decide (s.length <= 2 ^ 47)
 | _=>false
theorem isStrD_elim {d : D} (h : isStrD d = true) : ∃ s,s.length <= 2 ^ 47 /\ d = .str s:=by
 unfold isStrD at h
 split at h
 ·exact ⟨_,by simpa using h,rfl⟩
 ·cases h
def sgD : D -> D
 | .str s=>signT s
 | _=>.top
theorem sT_word {s : List UInt8} (h : formI 1 s 0 = true) : signT s = mkT 1 s 0:=by unfold signT;rw [if_pos h]
theorem sT_sign {s : List UInt8} (h : formI 1 s 0 = false) : signT s = mkT 5 s 0:=by unfold signT;rw [h];rfl
theorem signT_tok (s : List UInt8) : ∃ k n,signT s = mkT k s n:=by unfold signT;split <;> exact ⟨_,_,rfl⟩
def φsgn : List D -> Option D
 | [.str s]=>if s.length <= 2 ^ 47 then some (signT s) else none
 | _=>none
theorem sign_at {s : List UInt8} (h : s.length <= 2 ^ 47) : φsgn [.str s] = some (signT s):=by
 simp only [φsgn];rw [if_pos h]
theorem ok87 : OkAt Tryz.prog 87 φsgn:=by
 refine ok_of (l:=[(134,φfk 1)]) (.cons ok134 .nil) fn87 fun args r h=>?_
 unfold φsgn at h
 split at h
 ·rename_i s
  split at h
  ·rename_i hs
   injection h with h;subst h
   refine ⟨by simp,?_,fun H T=>?_⟩
   ·unfold signT;split <;> simp [mkT,D.cl,D.clL]
   have p:=fk_at (k:=1) hs
   unfold signT
   obtain ⟨b,hb⟩ : ∃ z,formI 1 s 0 = z:=⟨_,rfl⟩
   rw [hb] at p ⊢
   cases b with
   | true=>simp +contextual (maxSteps:=10000000) only [c87,p,mkT,go_sem]
   | false=>simp +contextual (maxSteps:=10000000) only [c87,p,mkT,go_sem]
  ·cases h
 ·cases h
def φsL : List D -> Option (List D)
 | [.sl none l]=>if l.all isStrD = true /\ l ≠ [] /\ l.length <= 2 ^ 20 then some (l.map sgD) else none
 | _=>none
theorem sgD_tks {l : List D} (h : l.all isStrD = true) : isTks (l.map sgD):=fun x hx=>by
 obtain ⟨y,hy,rfl⟩:=List.mem_map.1 hx
 obtain ⟨s,_,rfl⟩:=isStrD_elim (List.all_eq_true.1 h y hy)
 obtain ⟨k,n,e⟩:=signT_tok s
 exact ⟨k,s,n,e⟩
set_option maxHeartbeats 1000000 in
theorem ok84 : OkAtG Tryz.prog 84 (φOwn 3 φsL):=by
 have hM : MonoH []:=.nil
 have hX:=XG_mono (P:=Tryz.prog) [] [(87,φsgn)] [] [] []
 refine okOwn_of (X:=XG Tryz.prog [] [(87,φsgn)] [] [] []) (XG.X (.cons ok87 .nil) .nil .nil .nil) fn84 fun args xs h=>?_
 unfold φsL at h
 split at h
 ·rename_i l
  split at h
  ·rename_i hc
   obtain ⟨h1,h2,h3⟩:=hc
   injection h with h;subst h
   have hk:=sgD_tks h1
   refine ⟨by simp,hk.cl _ _,fun H T=>?_⟩
   simp +contextual (maxSteps:=10000000) only [c84,go_sem]
   refine W_each l (fun i s=>s.t 6 = .sl none l /\ s.t 7 = .int .i64 (l.length : Int) /\ s.t 8 = .int .i64 (i : Int) /\ s.H = H /\ accT 3 T ((l.take i).map sgD) (s.t 3) s.T) hX ⟨by simp [upd,argT],by simp [upd],by simp [upd],rfl,by simpa [upd] using accT.nil 3 T (ExtT.refl _)⟩ ?_ ?_
   ·rintro i x ⟨t,B,U⟩ hx hm hi ⟨t6,t7,t8,rfl,hA⟩
    simp only at t6 t7 t8 hA
    have d1 : decide ((i : Int) < l.length) = true:=by simpa using hi
    obtain ⟨s,hs,rfl⟩:=isStrD_elim (List.all_eq_true.1 h1 x hm)
    have p:=sign_at hs
    have nx : (l.take (i + 1)).map sgD = (l.take i).map sgD ++ [signT s]:=by
     rw [List.take_add_one,hx];simp [sgD]
    have hf : ((l.take i).map sgD).all (fit 3) = true:=isTks.fit fun y hy=>hk y (by
     obtain ⟨z,hz,rfl⟩:=List.mem_map.1 hy
     exact List.mem_map.2 ⟨z,List.mem_of_mem_take hz,rfl⟩)
    obtain ⟨k,n,hw⟩:=signT_tok s
    rw [hw] at p nx
    rw [nx]
    have hlen : ((l.take i).map sgD).length <= 2 ^ 20:=by rw [List.length_map,List.length_take];omega
    generalize (l.take i).map sgD = A at hA hf hlen ⊢
    clear nx hw
    simp +contextual (maxSteps:=10000000) only [t6,t7,t8,d1,hx,p,pcallG hM,mkT,go_sem]
    refine app_accT (bytes:=32) _ (hA.app _) rfl hf (by simp;omega) (by simp;omega) fun d2 T2 hA2=>?_
    simp +contextual (maxSteps:=10000000) only [t6,t7,t8,wrap_succ i (by omega),go_sem]
    exact hA2
   ·rintro ⟨t,B,U⟩ ⟨t6,t7,t8,rfl,hA⟩
    simp only at t6 t7 t8 hA
    have d1 : decide ((l.length : Int) < l.length) = false:=by simp
    rw [List.take_length] at hA
    obtain ⟨hE,hA⟩:=hA
    rcases hA with ⟨h0,_⟩ | ⟨τ,hτ,e,hT⟩
    ·exact (h2 (by simpa using h0)).elim
    ·simp +contextual (maxSteps:=10000000) only [t6,t7,t8,d1,e,go_sem]
     exact leavesG_own (Ext.refl _) hE (hk.cl _ _) hτ hT
  ·cases h
 ·cases h
def φsP (a : List D) : Option D:=(φsL a).map (.sl none)
theorem tok84 : OkAt Tryz.prog 84 φsP:=OkAtG.pure ok84 fun a xs h=>by
 unfold φsL at h
 split at h
 ·split at h
  ·rename_i hc
   injection h with h;subst h
   exact ⟨(sgD_tks hc.1).cl _ _,(sgD_tks hc.1).erase⟩
  ·cases h
 ·cases h
theorem sg1 {a : List UInt8} (h : a.length <= 2 ^ 47) : φsP [.sl none [.str a]] = some (.sl none [signT a]):=by
 have : decide (a.length <= 2 ^ 47) = true:=by simpa using h
 simp only [φsP,φsL,List.all_cons,List.all_nil,isStrD,this,sgD,List.map_cons,List.map_nil,Bool.and_self,List.length_cons,List.length_nil]
 rw [if_pos ⟨trivial,by simp,by omega⟩];rfl
theorem sg3 {a b c : List UInt8} (ha : a.length <= 2 ^ 47) (hb : b.length <= 2 ^ 47) (hc : c.length <= 2 ^ 47) : φsP [.sl none [.str a,.str b,.str c]] = some (.sl none [signT a,signT b,signT c]):=by
 have e1 : decide (a.length <= 2 ^ 47) = true:=by simpa using ha
 have e2 : decide (b.length <= 2 ^ 47) = true:=by simpa using hb
 have e3 : decide (c.length <= 2 ^ 47) = true:=by simpa using hc
 simp only [φsP,φsL,List.all_cons,List.all_nil,isStrD,e1,e2,e3,sgD,List.map_cons,List.map_nil,Bool.and_self,List.length_cons,List.length_nil]
 rw [if_pos ⟨trivial,by simp,by omega⟩];rfl
open Classical in
noncomputable def φaround : List D -> Option D
 | [l]=>if isSl l = true /\ isTks (elems l) /\ (elems l).length <= 2 ^ 39 then some (.sl none (tP :: (elems l ++ [tQ]))) else none
 | _=>none
theorem sl_none (xs : List D) : ∃ m ys,D.sl none xs = sliceD m ys:=⟨false,xs,rfl⟩
theorem p_sg {a : List UInt8} (k : Int) (h : a.length <= 2 ^ 47) (hk : signT a = mkT k a 0) : φsP [.sl none [.str a]] = some (.sl none [.agg [.int .i64 k,.str a,.int .i64 0]]):=by
 rw [sg1 h,hk];rfl
set_option maxHeartbeats 1000000 in
theorem ok124 : OkAt Tryz.prog 124 φaround:=by
 refine ok_of (l:=[(84,φsP),(85,φcat 3 32)]) (.cons tok84 (.cons ok85 .nil)) fn124 fun args r h=>?_
 unfold φaround at h
 split at h
 ·rename_i l
  split at h
  ·rename_i hc
   obtain ⟨hs,hk,hn⟩:=hc
   injection h with h;subst h
   have hk2 : isTks (tP :: (elems l ++ [tQ])):=isTks.cons _ _ _ (hk.app (isTks.cons _ _ _ .nil))
   refine ⟨by simp,hk2.cl _ _,fun H T=>?_⟩
   obtain ⟨m,hm⟩:=isSl_m hs
   obtain ⟨xs,hx⟩ : ∃ xs,elems l = xs:=⟨_,rfl⟩
   rw [hx] at hk hn hm hk2 ⊢
   subst hm
   have p1:=p_sg (a:=[40]) 5 (by decide) (sT_sign (by decide))
   have p2:=p_sg (a:=[41]) 5 (by decide) (sT_sign (by decide))
   have eX:=erase_sliceD m xs
   rw [hk.erase] at eX
   have eC : catD [.sl none [tP],sliceD m xs,.sl none [tQ]] = tP :: (xs ++ [tQ]):=by
    simp only [catD,List.map_cons,List.map_nil,elems_sliceD,List.flatten_cons,List.flatten_nil,List.append_nil]
    rfl
   have p3:=cat_at (ls:=[.sl none [tP],sliceD m xs,.sl none [tQ]]) (fun y hy=>by
    simp only [List.mem_cons,List.not_mem_nil,or_false] at hy
    rcases hy with rfl | rfl | rfl
    ·exact sl_none _
    ·exact ⟨_,_,rfl⟩
    ·exact sl_none _) (by rw [eC];exact hk2) (by rw [eC];simp;omega) (by simp)
   rw [eC,show sliceD true (tP :: (xs ++ [tQ])) = .sl none (tP :: (xs ++ [tQ])) from rfl] at p3
   obtain ⟨Z,hZ⟩ : ∃ Z,tP :: (xs ++ [tQ]) = Z:=⟨_,rfl⟩
   rw [hZ] at p3 hk2 ⊢
   simp only [tP,tQ,mkT] at p3
   simp +contextual (maxSteps:=10000000) only [c124,p1,p2,p3,eX,hk.erase,hk2.erase,go_sem]
  ·cases h
 ·cases h
def leafP (v : D) : Bool:=leaf1 v && (!(vk v == 1) || (vi v == 0) || (vi v == 1))
def φlit1P : List D -> Option D
 | [v]=>if v.isV = true /\ leafP v = true then some (.sl none (litT1 v)) else none
 | _=>none
set_option maxHeartbeats 1000000 in
theorem ok206 : OkAt Tryz.prog 206 φlit1P:=by
 refine ok_of (l:=[(84,φsP),(87,φsgn)]) (.cons tok84 (.cons ok87 .nil)) fn206 fun args r h=>?_
 unfold φlit1P at h
 split at h
 ·rename_i v
  split at h
  ·rename_i hc
   obtain ⟨hv,hl⟩:=hc
   injection h with h;subst h
   refine ⟨by simp,isTks.cl (litT1_tok v) _ _,fun H T=>?_⟩
   obtain ⟨k,i,s,nl,l,rfl,z,y,hV⟩:=isV_elim hv
   have eL:=erase_of_isV hV
   have p1:=p_sg (a:=[116,114,117,101]) 1 (by decide) (sT_word (by decide))
   have p0:=p_sg (a:=[102,97,108,115,101]) 1 (by decide) (sT_word (by decide))
   have pm : φsgn [.str [45]] = some (.agg [.int .i64 5,.str [45],.int .i64 0]):=by rw [sign_at (by decide),sT_sign (by decide)];rfl
   simp only [leafP,leaf1,litT1,vk_mk,vi_mk,vs_mk,Bool.and_eq_true] at hl ⊢
   obtain ⟨hl,hb⟩:=hl
   rcases tf (k == 1) with g1 | g1
   ·rw [if_pos g1]
    rw [g1] at hb
    rcases tf (i == 1) with g | g
    ·rw [if_pos g]
     have:=eq_of_beq g;subst this
     simp +contextual (maxSteps:=10000000) only [c206,mkV,eL,g1,p1,mkT,wTrue,go_sem]
    ·rw [if_neg (by rw [g];decide)]
     have : i = 0:=by rw [g] at hb;simpa using hb
     subst this
     simp +contextual (maxSteps:=10000000) only [c206,mkV,eL,g1,p0,mkT,wFalse,go_sem]
   rw [if_neg (by rw [g1];decide)]
   rcases tf (k == 2) with g2 | g2
   ·have e2:=eq_of_beq g2;subst e2
    rw [if_pos (by decide)]
    rcases tf (decide (i < 0)) with g | g
    ·rw [if_pos g]
     simp +contextual (maxSteps:=10000000) only [c206,mkV,eL,g,pm,mkT,go_sem]
    ·rw [if_neg (by rw [g];decide)]
     simp +contextual (maxSteps:=10000000) only [c206,mkV,eL,g,mkT,go_sem]
   rw [if_neg (by rw [g2];decide)]
   rcases tf (k == 3) with g3 | g3
   ·rw [if_pos g3]
    simp +contextual (maxSteps:=10000000) only [c206,mkV,eL,g1,g3,mkT,go_sem]
   rw [if_neg (by rw [g3];decide)]
   have g4 : (k == 4) = true:=by rw [g1,g2,g3] at hl;simpa using hl
   simp +contextual (maxSteps:=10000000) only [c206,mkV,eL,g1,g3,g4,mkT,go_sem]
  ·cases h
 ·cases h
def φlitkP : List D -> Option D
 | [v]=>if v.isV = true /\ (leafP v = true ∨ (vk v == 5) = true /\ (vl v).all leafP = true /\ (vl v).length <= 2 ^ 20) then some (.sl none (litT v)) else none
 | _=>none
set_option maxHeartbeats 4000000 in
theorem ok178 : OkAt Tryz.prog 178 φlitkP:=by
 have hM : MonoH []:=.nil
 have hXX:=XG.X (P:=Tryz.prog) (u:=[]) (.cons ok87 (.cons ok206 .nil)) .nil .nil (.cons ok84 .nil)
 have hX:=XG_mono (P:=Tryz.prog) [] [(87,φsgn),(206,φlit1P)] [] [] [(84,φOwn 3 φsL)]
 refine okX_of (X:=XG Tryz.prog [] [(87,φsgn),(206,φlit1P)] [] [] [(84,φOwn 3 φsL)]) hXX fn178b fun args r h=>?_
 unfold φlitkP at h
 split at h
 ·rename_i v
  split at h
  ·rename_i hc
   obtain ⟨hv,hl⟩:=hc
   injection h with h;subst h
   refine ⟨by simp,isTks.cl (litT_tok v) _ _,fun H T=>?_⟩
   have ev:=isV_erase hv
   rcases tf (vk v == 5) with g5 | g5
   ·-- a bag
    have e5:=eq_of_beq g5
    have hlf : leaf1 v = false:=by unfold leaf1;rw [e5];rfl
    have hl : (vl v).all leafP = true /\ (vl v).length <= 2 ^ 20:=by
     rcases hl with h | h
     ·unfold leafP at h;rw [hlf] at h;cases h
     ·exact h.2
    obtain ⟨hl,hlen⟩:=hl
    have hLT : litT v = mkT 5 [91] 0 :: (cmL litT1 (vl v) ++ [mkT 5 [93] 0]):=by unfold litT;rw [hlf];rfl
    rw [hLT]
    have pO : ∀ H T,φOwn 3 φsL H T [.sl none [.str [91]]] = some (.sl (some T.length) [mkT 5 [91] 0],H,T ++ [some (1,3)]):=fun H T=>by
     have : φsL [.sl none [.str [91]]] = some [mkT 5 [91] 0]:=by
      have:=sT_sign (s:=[91]) (by decide)
      simp only [φsL,List.all_cons,List.all_nil,isStrD,sgD,List.map_cons,List.map_nil,this]
      rw [if_pos ⟨by decide,by simp,by simp⟩]
     simp only [φOwn,this];rfl
    have pc : φsgn [.str [44]] = some tC:=by rw [sign_at (by decide),sT_sign (by decide)];rfl
    have pq : φsgn [.str [93]] = some (mkT 5 [93] 0):=by rw [sign_at (by decide),sT_sign (by decide)]
    obtain ⟨k,i,s,nl,l,rfl,z,y,hV⟩:=isV_elim hv
    have eL:=erase_of_isV hV
    simp only [vk_mk] at g5 e5
    subst e5
    simp only [vl_mk] at hl hlen ⊢
    simp only [tC,mkT] at pO pc pq
    simp +contextual (maxSteps:=10000000) only [c178b,mkV,eL,pO,pc,pq,pcallG hM,mkT,go_sem]
    refine W_each l (fun j s=>s.t 14 = sliceD nl l /\ s.t 15 = .int .i64 (l.length : Int) /\ s.t 16 = .int .i64 (j : Int) /\ (∃ L,s.H = H ++ L) /\ accT 3 T (mkT 5 [91] 0 :: cmL litT1 (l.take j)) (s.t 3) s.T) hX ⟨by simp [upd],by simp [upd],by simp [upd],⟨_,rfl⟩,?_⟩ ?_ ?_
    ·have:=accT.mk 3 T (T':=T ++ [some (1,1)]) ⟨_,rfl⟩ [mkT 5 [91] 0] []
     simpa [upd,cmL,mkT] using this
    ·rintro j x ⟨t,B,U⟩ hx hm hj ⟨t14,t15,t16,⟨L,rfl⟩,hA⟩
     simp only at t14 t15 t16 hA
     have d1 : decide ((j : Int) < l.length) = true:=by simpa using hj
     have hcl:=cmL_le (f:=litT1) (b:=2) (l.take j) fun x _=>litT1_le x
     rw [List.length_take] at hcl
     have htk : isTks (mkT 5 [91] 0 :: cmL litT1 (l.take j)):=isTks.cons _ _ _ fun x hx=>by
      rcases cmL_mem hx with rfl | ⟨y,_,hy⟩
      ·exact ⟨_,_,_,rfl⟩
      ·exact litT1_tok y x hy
     have hst:=cmL_step (f:=litT1) hx
     have hxV:=hV _ hm
     have hxl:=List.all_eq_true.1 hl _ hm
     have px : φlit1P [x] = some (.sl none (litT1 x)):=by simp only [φlit1P];rw [if_pos ⟨hxV,hxl⟩]
     have hfx : isTks (litT1 x):=litT1_tok x
     have hx2:=litT1_le x
     rw [hst]
     obtain ⟨A,hAe⟩ : ∃ A,cmL litT1 (l.take j) = A:=⟨_,rfl⟩
     rw [hAe] at hA htk hcl ⊢
     clear hst hAe
     obtain ⟨Y,hY⟩ : ∃ Y,litT1 x = Y:=⟨_,rfl⟩
     rw [hY] at px hfx hx2 ⊢
     have ex:=isV_erase hxV
     obtain ⟨k',i',s',nl',l',rfl,_,_,hV'⟩:=isV_elim hxV
     have eL':=erase_of_isV hV'
     simp only [mkV] at hx px ex
     have hB : (H ++ L).length = H.length + L.length:=by simp
     rcases tf (decide ((0 : Int) < j)) with g | g
     ·have gj : 0 < j:=by simpa using g
      rw [if_pos gj]
      simp +contextual (maxSteps:=10000000) only [t14,t15,t16,d1,hx,px,eL',ex,g,pc,pcallG hM,go_sem]
      refine app_accT (bytes:=32) _ (hA.app _) rfl htk.fit (by simp;omega) (by simp;omega) fun d2 T2 hA2=>?_
      simp +contextual (maxSteps:=10000000) only [px,eL',ex,pcallG hM,go_sem]
      refine app_accT (bytes:=32) _ hA2 hfx.fit (htk.app (isTks.cons 5 [44] 0 .nil)).fit (by simp;omega) (by simp;omega) fun d3 T3 hA3=>?_
      simp +contextual (maxSteps:=10000000) only [t14,t15,t16,wrap_succ j (by omega),go_sem]
      refine ⟨⟨_,rfl⟩,?_⟩
      simpa [tC,mkT] using hA3
     ·have gj : ¬ 0 < j:=by simpa using g
      rw [if_neg gj]
      simp +contextual (maxSteps:=10000000) only [t14,t15,t16,d1,hx,px,eL',ex,g,pc,pcallG hM,go_sem]
      refine app_accT (bytes:=32) _ hA hfx.fit htk.fit (by simp;omega) (by simp;omega) fun d3 T3 hA3=>?_
      simp +contextual (maxSteps:=10000000) only [t14,t15,t16,wrap_succ j (by omega),go_sem]
      refine ⟨⟨_,rfl⟩,?_⟩
      simpa [tC,mkT] using hA3
    ·rintro ⟨t,B,U⟩ ⟨t14,t15,t16,⟨L,rfl⟩,hA⟩
     simp only at t14 t15 t16 hA
     have d1 : decide ((l.length : Int) < l.length) = false:=by simp
     rw [List.take_length] at hA
     have hcl:=cmL_le (f:=litT1) (b:=2) l fun x _=>litT1_le x
     have htk : isTks (mkT 5 [91] 0 :: cmL litT1 l):=isTks.cons _ _ _ fun x hx=>by
      rcases cmL_mem hx with rfl | ⟨y,_,hy⟩
      ·exact ⟨_,_,_,rfl⟩
      ·exact litT1_tok y x hy
     obtain ⟨A,hAe⟩ : ∃ A,cmL litT1 l = A:=⟨_,rfl⟩
     rw [hAe] at hA htk hcl ⊢
     simp +contextual (maxSteps:=10000000) only [t14,t15,t16,d1,pq,pcallG hM,go_sem]
     refine app_accT (bytes:=32) _ (hA.app _) rfl htk.fit (by simp;omega) (by simp;omega) fun d2 T2 hA2=>?_
     simp +contextual (maxSteps:=10000000) only [go_sem]
     have hq : isTks (mkT 5 [91] 0 :: A ++ [mkT 5 [93] 0]):=htk.app (isTks.cons _ _ _ .nil)
     have he:=hA2.erase hq.erase (by simp)
     exact leavesE_mk he ⟨_,rfl⟩ hA2.1
   ·have hl : leafP v = true:=by
     rcases hl with h | h
     ·exact h
     ·rw [g5] at h;exact absurd h.1 (by simp)
    have hlf : leaf1 v = true:=by unfold leafP at hl;rw [Bool.and_eq_true] at hl;exact hl.1
    have px : φlit1P [v] = some (.sl none (litT v)):=by
     simp only [φlit1P];rw [if_pos ⟨hv,hl⟩]
     unfold litT;rw [if_pos hlf]
    obtain ⟨Y,hY⟩ : ∃ Y,litT v = Y:=⟨_,rfl⟩
    have hk:=litT_tok v
    rw [hY] at px hk ⊢
    obtain ⟨k,i,s,nl,l,rfl,z,y,hV⟩:=isV_elim hv
    have eL:=erase_of_isV hV
    simp only [vk_mk] at g5
    have g5' : (k != 5) = true:=by simpa using g5
    simp only [mkV] at px ev
    simp +contextual (maxSteps:=10000000) only [c178b,mkV,eL,ev,g5,g5',px,pcallG hM,go_sem]
    exact leavesE_mk (by simp only [D.erase];rw [isTks.erase hk]) ⟨_,rfl⟩ ⟨[],by simp⟩
  ·cases h
 ·cases h
end GP
namespace GP
open Go Go.Proofs
set_option maxRecDepth 100000
theorem leafP_of {v : D} (h1 : one1 v = true) (h2 : leaf1 v = true) : leafP v = true:=by
 unfold leafP
 rw [h2,Bool.true_and]
 rcases tf (vk v == 1) with g | g
 ·have e : vk v = 1:=by simpa using g
  unfold one1 plainB at h1
  rw [e] at h1
  rw [g]
  split at h1
  ·cases h1
  split at h1
  ·cases h1
  have h1 : (vi v == 0 || vi v == 1) = true:=h1
  simpa using h1
 ·rw [g];rfl
theorem valB_domP {v : D} (h : valB v = true) : leafP v = true ∨ (vk v == 5) = true /\ (vl v).all leafP = true /\ (vl v).length <= 2 ^ 20:=by
 unfold valB at h
 split at h
 ·cases h
 ·rename_i hf
  simp only [Bool.not_eq_true',Bool.not_eq_false] at hf
  unfold formedB at hf
  split at h
  ·rename_i hk
   rw [if_pos hk] at hf
   exact .inl (leafP_of hf (litB_leaf h))
  ·rename_i hk
   rw [if_neg hk] at hf
   split at hf
   ·cases hf
   ·rename_i hq
    simp only [Bool.and_eq_true] at h
    simp only [Bool.or_eq_true,decide_eq_true_eq,not_or] at hq
    exact .inr ⟨by simpa using hk,List.all_eq_true.2 fun x hx=>leafP_of (el_one hf x hx) (litB_leaf (List.all_eq_true.1 h.1 x hx)),by omega⟩
theorem cat2 {xs ys : List D} (hx : isTks xs) (hy : isTks ys) (h : xs.length + ys.length <= 2 ^ 40) (h0 : xs ≠ []) : φcat 3 32 [.sl none [.sl none xs,.sl none ys]] = some (.sl none (xs ++ ys)):=by
 have eC : catD [.sl none xs,.sl none ys] = xs ++ ys:=by
  simp only [catD,List.map_cons,List.map_nil,List.flatten_cons,List.flatten_nil,List.append_nil];rfl
 have:=cat_at (ls:=[.sl none xs,.sl none ys]) (fun y hy=>by
  simp only [List.mem_cons,List.not_mem_nil,or_false] at hy
  rcases hy with rfl | rfl <;> exact sl_none _) (by rw [eC];exact hx.app hy) (by rw [eC];simpa using h) (by simp)
 rw [this,eC]
 cases xs with
 | nil=>exact (h0 rfl).elim
 | cons a l=>rfl
theorem cat3 {xs ys zs : List D} (hx : isTks xs) (hy : isTks ys) (hz : isTks zs) (h : xs.length + (ys.length + zs.length) <= 2 ^ 40) (h0 : ys ≠ []) : φcat 3 32 [.sl none [.sl none xs,.sl none ys,.sl none zs]] = some (.sl none (xs ++ (ys ++ zs))):=by
 have eC : catD [.sl none xs,.sl none ys,.sl none zs] = xs ++ (ys ++ zs):=by
  simp only [catD,List.map_cons,List.map_nil,List.flatten_cons,List.flatten_nil,List.append_nil];rfl
 have:=cat_at (ls:=[.sl none xs,.sl none ys,.sl none zs]) (fun y hy=>by
  simp only [List.mem_cons,List.not_mem_nil,or_false] at hy
  rcases hy with rfl | rfl | rfl <;> exact sl_none _) (by rw [eC];exact hx.app (hy.app hz)) (by rw [eC];simpa using h) (by simp)
 rw [this,eC]
 have : xs ++ (ys ++ zs) ≠ []:=by simp [h0]
 unfold sliceD
 cases hq : xs ++ (ys ++ zs) with
 | nil=>exact (this hq).elim
 | cons a l=>rfl
theorem around_at {xs : List D} (hx : isTks xs) (h : xs.length <= 2 ^ 39) : φaround [.sl none xs] = some (.sl none (tP :: (xs ++ [tQ]))):=by
 simp only [φaround]
 rw [if_pos ⟨rfl,hx,h⟩];rfl
theorem sT_who {s : List UInt8} (h : inB whoW s = true) : signT s = mkT 1 s 0:=by
 refine sT_word ?_
 unfold inB at h
 obtain ⟨w,hw,e⟩:=List.any_eq_true.1 h
 have e : w = s:=by simpa using e
 subst e
 have key : ∀ w ∈ whoW,formI 1 w 0 = true:=by decide
 exact key w hw
theorem sT_name {s : List UInt8} (h : nameB s = true) : signT s = mkT 1 s 0:=by
 refine sT_word ?_
 unfold nameB at h
 simp only [Bool.and_eq_true] at h
 exact h.1
open Classical in
noncomputable def φleafF (n : Nat) : List D -> Option D
 | [e]=>if isE n e /\ GoodE e /\ eps e = [] then some (.sl none (tkC false e)) else none
 | _=>none
set_option maxHeartbeats 4000000 in
theorem ok125 (n : Nat) : OkAt Tryz.prog 125 (φleafF n):=by
 refine ok_of (l:=[(178,φlitkP),(84,φsP),(124,φaround),(85,φcat 3 32)]) (.cons ok178 (.cons tok84 (.cons ok124 (.cons ok85 .nil)))) fn125 fun args r h=>?_
 unfold φleafF at h
 split at h
 ·rename_i e
  split at h
  ·rename_i hc
   obtain ⟨he,hg,h0⟩:=hc
   injection h with h;subst h
   have hk : isTks (tkC false e):=tokD_tok _ false e
   refine ⟨by simp,hk.cl _ _,fun H T=>?_⟩
   obtain ⟨n',rfl⟩:=isE_pos he
   have ee:=isE_erase he
   have hT:=hg.parts.2.2.2
   have tv:=tk_val (full:=false) hg
   have tn:=tk_now (full:=false) hg
   have ta:=tk_attr (full:=false) hg
   have th:=tk_has (full:=false) hg
   have tr:=tk_role (full:=false) hg
   have hop:=hg.op
   have ho1:=hg.one
   have ho2:=hg.two
   have hfv:=fmTop_val hT
   have hfr:=fm_rest hT
   rw [h0] at ho1 ho2
   obtain ⟨Z,hZ⟩ : ∃ z,tkC false e = z:=⟨_,rfl⟩
   rw [hZ] at hk tv tn ta th tr ⊢
   clear hZ hT hg
   obtain ⟨op,k,i,t,nl,l,who,name,m,ps,rfl,h1,h2,h3,h4,h5,h6,eL,eP⟩:=isE_elim he
   simp only [eop_mk,ewho_mk,ename_mk,eV_mk] at tv tn ta th tr hop ho1 ho2 hfv hfr
   have hke:=hk.erase
   rcases hop with g | g | g | g | g | g | g | g | g
   ·have a1 : (op == [118,97,108,117,101]) = true:=g
    have p : φlitkP [mkV k i t nl l] = some (.sl none Z):=by
     simp only [φlitkP]
     rw [if_pos ⟨h4.1,valB_domP (hfv g).1⟩,tv g]
    simp only [mkV] at p
    simp +contextual (maxSteps:=10000000) only [c125,mkE,ee,eL,eP,a1,p,hke,go_sem]
   ·have e:=eq_of_beq' g
    have a1 : (op == [118,97,108,117,101]) = false:=by rw [e];decide
    have a2 : (op == [110,111,119]) = true:=g
    have p:=p_sg (a:=[110,111,119]) 1 (by decide) (sT_word (by decide))
    rw [tn g] at hke ⊢
    simp +contextual (maxSteps:=10000000) only [c125,mkE,ee,eL,eP,a1,a2,p,hke,mkT,sNow,go_sem]
   ·have e:=eq_of_beq' g
    have a1 : (op == [118,97,108,117,101]) = false:=by rw [e];decide
    have a2 : (op == [110,111,119]) = false:=by rw [e];decide
    have a3 : (op == [114,111,108,101]) = false:=by rw [e];decide
    have a4 : (op == [104,97,115]) = false:=by rw [e];decide
    obtain ⟨w1,w2⟩:=(hfr (by rw [e];decide)).2.2.1 (.inl g)
    have p:=sg3 (a:=who) (b:=[46]) (c:=name) h2 (by decide) h3
    rw [sT_who w1,sT_name w2,sT_sign (s:=[46]) (by decide),← ta g] at p
    simp +contextual (maxSteps:=10000000) only [c125,mkE,ee,eL,eP,a1,a2,a3,a4,p,hke,go_sem]
   ·have e:=eq_of_beq' g
    have a1 : (op == [118,97,108,117,101]) = false:=by rw [e];decide
    have a2 : (op == [110,111,119]) = false:=by rw [e];decide
    have a3 : (op == [114,111,108,101]) = false:=by rw [e];decide
    have a4 : (op == [104,97,115]) = true:=g
    obtain ⟨w1,w2⟩:=(hfr (by rw [e];decide)).2.2.1 (.inr g)
    have p:=sg3 (a:=who) (b:=[46]) (c:=name) h2 (by decide) h3
    rw [sT_who w1,sT_name w2,sT_sign (s:=[46]) (by decide)] at p
    have p1:=p_sg (a:=[104,97,115]) 1 (by decide) (sT_word (by decide))
    have k3 : isTks [mkT 1 who 0,mkT 5 [46] 0,mkT 1 name 0]:=isTks.cons _ _ _ (isTks.cons _ _ _ (isTks.cons _ _ _ .nil))
    have p2:=around_at k3 (by simp)
    have p3:=cat2 (xs:=[mkT 1 [104,97,115] 0]) (isTks.cons _ _ _ .nil) (isTks.cons 5 [40] 0 (k3.app (isTks.cons 5 [41] 0 .nil))) (by simp) (by simp)
    have e3 : [mkT 1 [104,97,115] 0] ++ mkT 5 [40] 0 :: ([mkT 1 who 0,mkT 5 [46] 0,mkT 1 name 0] ++ [mkT 5 [41] 0]) = Z:=(th g).symm
    rw [e3] at p3
    simp only [tP,tQ,mkT,List.cons_append,List.nil_append] at p p2 p3
    simp +contextual (maxSteps:=10000000) only [c125,mkE,ee,eL,eP,a1,a2,a3,a4,p,p1,p2,p3,hke,go_sem]
   ·have e:=eq_of_beq' g
    have a1 : (op == [118,97,108,117,101]) = false:=by rw [e];decide
    have a2 : (op == [110,111,119]) = false:=by rw [e];decide
    have a3 : (op == [114,111,108,101]) = true:=g
    have p1:=p_sg (a:=[114,111,108,101]) 1 (by decide) (sT_word (by decide))
    have k3 : isTks [mkT 3 name 0]:=isTks.cons _ _ _ .nil
    have p2:=around_at k3 (by simp)
    have p3:=cat2 (xs:=[mkT 1 [114,111,108,101] 0]) (isTks.cons _ _ _ .nil) (isTks.cons 5 [40] 0 (k3.app (isTks.cons 5 [41] 0 .nil))) (by simp) (by simp)
    have e3 : [mkT 1 [114,111,108,101] 0] ++ mkT 5 [40] 0 :: ([mkT 3 name 0] ++ [mkT 5 [41] 0]) = Z:=(tr g).symm
    rw [e3] at p3
    simp only [tP,tQ,mkT,List.cons_append,List.nil_append] at p2 p3
    simp +contextual (maxSteps:=10000000) only [c125,mkE,ee,eL,eP,a1,a2,a3,p1,p2,p3,hke,go_sem]
   ·obtain ⟨_,x,h,_⟩:=ho1 (.inl g);cases h
   ·obtain ⟨_,x,h,_⟩:=ho1 (.inr (.inl g));cases h
   ·obtain ⟨_,x,h,_⟩:=ho1 (.inr (.inr g));cases h
   ·obtain ⟨_,_,_,_,h⟩:=ho2 g;cases h
  ·cases h
 ·cases h
end GP
namespace GP
open Go Go.Proofs
set_option maxRecDepth 100000
noncomputable def prtT (op : List UInt8) (ps : List D) (j : Nat) : List D:=parW false (stI (eop (ps.getD j .top))) ((lsOf op).getD j 0) (tkC false (ps.getD j .top))
noncomputable def prtD (op : List UInt8) (ps : List D) (j : Nat) : D:=.sl none (prtT op ps j)
theorem prtT_tok (op : List UInt8) (ps : List D) (j : Nat) : isTks (prtT op ps j):=parW_tok (tokD_tok _ false _)
theorem tkC_tok (full : Bool) (e : D) : isTks (tkC full e):=tokD_tok _ full e
theorem sub_le {e x : D} (hg : GoodE e) (hx : x ∈ eps e) : (tkC false x).length <= (tkC false e).length:=by
 have h0 : ∀ w,eop e = w -> arN w = 0 -> eps e = []:=fun w h1 h2=>eps_nil hg (by rw [h1];exact h2)
 rcases hg.op with g | g | g | g | g | g | g | g | g
 ·rw [h0 _ (eq_of_beq' g) (by decide)] at hx;cases hx
 ·rw [h0 _ (eq_of_beq' g) (by decide)] at hx;cases hx
 ·rw [h0 _ (eq_of_beq' g) (by decide)] at hx;cases hx
 ·rw [h0 _ (eq_of_beq' g) (by decide)] at hx;cases hx
 ·rw [h0 _ (eq_of_beq' g) (by decide)] at hx;cases hx
 ·obtain ⟨_,y,hy,hs⟩:=hg.one (.inl g)
  rw [hy] at hx
  have : x = sub0 e:=by rw [hs];simpa using hx
  rw [tk_size hg g,this];simp;omega
 ·obtain ⟨_,y,hy,hs⟩:=hg.one (.inr (.inl g))
  rw [hy] at hx
  have : x = sub0 e:=by rw [hs];simpa using hx
  have hl:=parW_le false (stI (eop (sub0 e))) 2 (tkC false (sub0 e))
  rw [tk_not hg g,this];simp;omega
 ·obtain ⟨_,y,hy,hs⟩:=hg.one (.inr (.inr g))
  rw [hy] at hx
  have : x = sub0 e:=by rw [hs];simpa using hx
  have hl:=parW_le false (stI (eop (sub0 e))) 6 (tkC false (sub0 e))
  rw [tk_neg hg g,this];simp;omega
 ·obtain ⟨_,_,_,_,hy⟩:=hg.two g
  rw [hy] at hx
  have l0:=parW_le false (stI (eop (sub0 e))) (lstS (eop e)) (tkC false (sub0 e))
  have l1:=parW_le false (stI (eop (sub1 e))) (stI (eop e) + 1) (tkC false (sub1 e))
  have : x = sub0 e ∨ x = sub1 e:=by simpa using hx
  rw [tk_two hg g]
  rcases this with h | h <;> rw [h] <;> simp <;> omega
theorem sT_op {op : List UInt8} (h : isOp2 op) : signT op = opTok op:=by
 have key : ∀ w ∈ ops2,formI 1 w 0 = inB opW w:=by decide
 unfold signT opTok
 rw [key op (ops2_of h)]
open Classical in
noncomputable def φxpr (n : Nat) : List D -> Option D
 | [e]=>if isE n e /\ GoodE e /\ (tkC false e).length <= 2 ^ 30 then some (.sl none (tkC false e)) else none
 | _=>none
noncomputable abbrev xs75 (n : Nat) : Fs:=[(75,φxpr n),(76,φbinds),(84,φsP),(85,φcat 3 32),(124,φaround),(125,φleafF (n + 1))]
set_option maxHeartbeats 16000000 in
theorem ok75 : ∀ n,OkAt Tryz.prog 75 (φxpr n)
 | 0=>fun args r h=>by
  unfold φxpr at h
  split at h
  ·split at h
   ·rename_i h';exact h'.1.elim
   ·cases h
  ·cases h
 | n + 1=>by
  have hX:=XL_mono (xs75 n)
  refine ok_of (l:=xs75 n) (.cons (ok75 n) (.cons ok76 (.cons tok84 (.cons ok85 (.cons ok124 (.cons (ok125 (n + 1)) .nil)))))) fn75 fun args r h=>?_
  unfold φxpr at h
  split at h
  ·rename_i e
   split at h
   ·rename_i hc
    obtain ⟨he,hg,hlen⟩:=hc
    injection h with h;subst h
    have hk:=tkC_tok false e
    refine ⟨by simp,hk.cl _ _,fun H T=>?_⟩
    have ee:=isE_erase he
    obtain ⟨f1,f2,f3,f4⟩:=hg.parts
    have ks:=isE_eps he
    have hlsl:=ls_len f1
    rw [<- f2] at hlsl
    have hlsl : (lsOf (eop e)).length = (eps e).length:=by exact_mod_cast hlsl
    have hpl : (eps e).length <= 2:=by
     have : arN (eop e) <= 2:=by unfold arN;(repeat' split) <;> omega
     omega
    have hsl:=fun x (hx : x ∈ eps e)=>sub_le hg hx
    have p125 : eps e = [] -> φleafF (n + 1) [e] = some (.sl none (tkC false e)):=fun h=>by
     simp only [φleafF];rw [if_pos ⟨he,hg,h⟩]
    have hop:=hg.op
    have t0 : ∀ w,eop e = w -> arN w = 0 -> eps e = []:=fun w h1 h2=>eps_nil hg (by rw [h1];exact h2)
    have ho1:=hg.one
    have ho2:=hg.two
    have tsz:=tk_size (full:=false) hg
    have tnt:=tk_not (full:=false) hg
    have tng:=tk_neg (full:=false) hg
    have ttw:=tk_two (full:=false) hg
    have hP0 : prtT (eop e) (eps e) 0 = parW false (stI (eop (sub0 e))) ((lsOf (eop e)).getD 0 0) (tkC false (sub0 e)):=rfl
    have hP1 : prtT (eop e) (eps e) 1 = parW false (stI (eop (sub1 e))) ((lsOf (eop e)).getD 1 0) (tkC false (sub1 e)):=rfl
    have hk0:=prtT_tok (eop e) (eps e) 0
    have hk1:=prtT_tok (eop e) (eps e) 1
    obtain ⟨s0,hs0⟩ : ∃ z,sub0 e = z:=⟨_,rfl⟩
    obtain ⟨s1,hs1⟩ : ∃ z,sub1 e = z:=⟨_,rfl⟩
    rw [hs0] at hP0 tsz tnt tng ttw ho1 ho2
    rw [hs1] at hP1 ttw ho2
    obtain ⟨Z,hZ⟩ : ∃ z,tkC false e = z:=⟨_,rfl⟩
    rw [hZ] at hk hlen hsl p125 tsz tnt tng ttw ⊢
    have hke:=hk.erase
    clear hZ hs0 hs1 hg
    obtain ⟨op,k,i,t,nl,l,who,name,m,ps,rfl,h1,h2,h3,h4,h5,h6,eL,eP⟩:=isE_elim he
    simp only [eop_mk,eps_mk] at f1 f2 f3 ks hlsl hpl hsl p125 hop t0 ho1 ho2 tsz tnt tng ttw hP0 hP1 hk0 hk1
    have p76 : φbinds [.str op] = some (.tup [.int .i64 (stI op),sliceD true ((lsOf op).map (D.int .i64))]):=rfl
    obtain ⟨LS,hLS⟩ : ∃ z,(lsOf op).map (D.int .i64) = z:=⟨_,rfl⟩
    rw [hLS] at p76
    obtain ⟨st,hst⟩ : ∃ z,stI op = z:=⟨_,rfl⟩
    rw [hst] at p76
    have e0:=hk0.erase
    have e1:=hk1.erase
    simp +contextual (maxSteps:=10000000) only [c75,mkE,p76,ee,eL,eP,go_sem]
    refine W_each ps (fun j s=>s.t 1 = .ptr H.length 0 /\ s.t 4 = sliceD true LS /\ s.t 18 = sliceD m ps /\ s.t 19 = .int .i64 (ps.length : Int) /\ s.t 20 = .int .i64 (j : Int) /\ (∃ L,s.H = H ++ .row (mkE op k i t nl l who name m ps).cells :: L) /\ accT 1 T ((List.range j).map (prtD op ps)) (s.t 5) s.T) hX ⟨by simp [upd,argT],by simp [upd],by simp [upd],by simp [upd],by simp [upd],⟨[],by simp [mkE,D.cells]⟩,by simpa [upd] using accT.nil 1 T (ExtT.refl _)⟩ ?_ ?_
    ·rintro j x ⟨t',B,U⟩ hx hm hj ⟨t1,t4,t18,t19,t20,⟨L,rfl⟩,hA⟩
     simp only at t1 t4 t18 t19 t20 hA
     have d1 : decide ((j : Int) < ps.length) = true:=by simpa using hj
     obtain ⟨lv,hlv⟩ : ∃ lv,(lsOf op)[j]? = some lv:=⟨_,List.getElem?_eq_getElem (by omega)⟩
     have xL : LS[j]? = some (.int .i64 lv):=by rw [<- hLS,List.getElem?_map,hlv];rfl
     have hxE:=ks x hm
     have hxG:=f3 x hm
     have hxl:=hsl x hm
     have px : φxpr n [x] = some (.sl none (tkC false x)):=by
      simp only [φxpr];rw [if_pos ⟨hxE,hxG,by omega⟩]
     have nx : (List.range (j + 1)).map (prtD op ps) = (List.range j).map (prtD op ps) ++ [prtD op ps j]:=by
      rw [List.range_succ,List.map_append];rfl
     have eqp : prtD op ps j = .sl none (parW false (stI (eop x)) lv (tkC false x)):=by
      unfold prtD prtT
      rw [List.getD_eq_getElem?_getD,List.getD_eq_getElem?_getD,hx,hlv];rfl
     have hfA : ((List.range j).map (prtD op ps)).all (fit 1) = true:=List.all_eq_true.2 fun y hy=>by
      obtain ⟨z,_,rfl⟩:=List.mem_map.1 hy;rfl
     have hAl : ((List.range j).map (prtD op ps)).length <= 2:=by simp;omega
     rw [nx,eqp]
     have hkx:=tkC_tok false x
     have hxl2 : (tkC false x).length <= 2 ^ 39:=by omega
     have pa:=around_at hkx hxl2
     have p76x : φbinds [.str (eop x)] = some (.tup [.int .i64 (stI (eop x)),lsD (eop x)]):=rfl
     generalize (List.range j).map (prtD op ps) = A at hA hfA hAl ⊢
     clear nx eqp
     obtain ⟨X,hXe⟩ : ∃ z,tkC false x = z:=⟨_,rfl⟩
     rw [hXe] at px hkx pa ⊢
     have ekx:=hkx.erase
     obtain ⟨sx,hsx⟩ : ∃ z,stI (eop x) = z:=⟨_,rfl⟩
     obtain ⟨lx,hlx⟩ : ∃ z,lsD (eop x) = z:=⟨_,rfl⟩
     rw [hsx,hlx] at p76x
     rw [hsx]
     clear hXe hsx hlx hxG
     obtain ⟨n',rfl⟩:=isE_pos hxE
     have exx:=isE_erase hxE
     obtain ⟨op',k',i',u',nl',l',who',name',m',ps',rfl,_,_,_,_,_,_,eL',eP'⟩:=isE_elim hxE
     simp only [eop_mk] at p76x
     simp only [mkE] at hx px exx
     simp only [tP,tQ,mkT] at pa
     rcases tf (decide (sx < lv)) with g | g
     ·have eW : parW false sx lv X = tP :: (X ++ [tQ]):=by
       unfold parW;rw [if_neg]
       simp only [decide_eq_true_eq] at g
       simp;omega
      rw [eW]
      simp +contextual (maxSteps:=10000000) only [t1,t4,t18,t19,t20,d1,hx,px,exx,eL',eP',p76x,xL,g,pa,ekx,go_sem]
      refine app_accT (bytes:=24) _ (hA.app _) rfl hfA (by simp;omega) (by simp;omega) fun d2 T2 hA2=>?_
      simp +contextual (maxSteps:=10000000) only [t1,t4,t18,t19,t20,wrap_succ j (by omega),go_sem]
      exact ⟨⟨_,rfl⟩,hA2⟩
     ·have eW : parW false sx lv X = X:=by
       unfold parW;rw [if_pos]
       simp only [decide_eq_false_iff_not] at g
       simp;omega
      rw [eW]
      simp +contextual (maxSteps:=10000000) only [t1,t4,t18,t19,t20,d1,hx,px,exx,eL',eP',p76x,xL,g,ekx,go_sem]
      refine app_accT (bytes:=24) _ (hA.app _) rfl hfA (by simp;omega) (by simp;omega) fun d2 T2 hA2=>?_
      simp +contextual (maxSteps:=10000000) only [t1,t4,t18,t19,t20,wrap_succ j (by omega),go_sem]
      exact ⟨⟨_,rfl⟩,hA2⟩
    ·rintro ⟨t',B,U⟩ ⟨t1,t4,t18,t19,t20,⟨L,rfl⟩,hA⟩
     simp only at t1 t4 t18 t19 t20 hA
     have d1 : decide ((ps.length : Int) < ps.length) = false:=by simp
     obtain ⟨⟨M,rfl⟩,hA⟩:=hA
     have hrow : (H ++ Ob.row [.str op,.int .i64 k,.int .i64 i,.str t,sliceD nl l,.str who,.str name,sliceD m ps] :: L)[H.length]? = some (.row [.str op,.int .i64 k,.int .i64 i,.str t,sliceD nl l,.str who,.str name,sliceD m ps]):=by simp
     have fin0 : ps = [] -> (t' 5 = .nils ∨ ∃ τ,t' 5 = .sl (some τ) []):=fun hps=>by
      rw [hps] at hA
      rcases hA with ⟨_,h⟩ | ⟨τ,_,h,_⟩
      ·exact .inl h
      ·exact .inr ⟨τ,h⟩
     have fin1 : ∀ xs : List D,(List.range ps.length).map (prtD op ps) = xs -> xs ≠ [] -> ∃ τ,t' 5 = .sl (some τ) xs:=fun xs h h0=>by
      rw [h] at hA
      rcases hA with ⟨h,_⟩ | ⟨τ,_,h,_⟩
      ·exact (h0 h).elim
      ·exact ⟨τ,h⟩
     by_cases hps : ps = []
     ·have p125:=p125 hps
      simp only [mkE] at p125
      rcases fin0 hps with h5 | ⟨τ,h5⟩
      ·simp +contextual (maxSteps:=10000000) only [d1,t1,t18,t19,t20,h5,hrow,p125,hke,mkE,D.cells,ee,eL,eP,go_sem]
      ·simp +contextual (maxSteps:=10000000) only [d1,t1,t18,t19,t20,h5,hrow,p125,hke,mkE,D.cells,ee,eL,eP,go_sem]
     have hne : ∀ w,op = w -> arN w ≠ 0:=fun w h h'=>hps (t0 w h h')
     rcases hop with g | g | g | g | g | g | g | g | g
     ·exact (hne _ (eq_of_beq' g) (by decide)).elim
     ·exact (hne _ (eq_of_beq' g) (by decide)).elim
     ·exact (hne _ (eq_of_beq' g) (by decide)).elim
     ·exact (hne _ (eq_of_beq' g) (by decide)).elim
     ·exact (hne _ (eq_of_beq' g) (by decide)).elim
     ·obtain ⟨hg0,y,hy,hs⟩:=ho1 (.inl g)
      have e:=eq_of_beq' g
      have a1 : (op == [115,105,122,101]) = true:=g
      have hP : prtT op ps 0 = tkC false s0:=by
       rw [hP0,show (lsOf op).getD 0 0 = 0 by rw [e];decide]
       unfold parW;rw [if_pos]
       have:=hg0.parts.1
       simpa using this
      have hl : (List.range ps.length).map (prtD op ps) = [.sl none (prtT op ps 0)]:=by rw [hy];rfl
      obtain ⟨τ,h5⟩:=fin1 _ hl (by simp)
      have hZ:=tsz g
      rw [<- hP] at hZ
      obtain ⟨P,hPe⟩ : ∃ z,prtT op ps 0 = z:=⟨_,rfl⟩
      rw [hPe] at hZ h5 hk0 e0
      have hZl : P.length + 3 = Z.length:=by rw [hZ];simp
      have p84:=p_sg (a:=[115,105,122,101]) 1 (by decide) (sT_word (by decide))
      have p124:=around_at hk0 (by omega)
      have p85:=cat2 (xs:=[mkT 1 [115,105,122,101] 0]) (isTks.cons _ _ _ .nil) (isTks.cons 5 [40] 0 (hk0.app (isTks.cons 5 [41] 0 .nil))) (by simp;omega) (by simp)
      have e3 : [mkT 1 [115,105,122,101] 0] ++ mkT 5 [40] 0 :: (P ++ [mkT 5 [41] 0]) = Z:=hZ.symm
      rw [e3] at p85
      have e0':=(hk0.app (isTks.cons 5 [41] 0 .nil)).erase
      simp only [tP,tQ,mkT] at p124 p85 e0'
      simp +contextual (maxSteps:=10000000) only [d1,t1,t18,t19,t20,h5,hrow,a1,p84,p124,p85,e0,e0',hke,mkE,D.cells,ee,eL,eP,go_sem]
     ·obtain ⟨hg0,y,hy,hs⟩:=ho1 (.inr (.inl g))
      have e:=eq_of_beq' g
      have a1 : (op == [115,105,122,101]) = false:=by rw [e];decide
      have a2 : (op == [110,101,103]) = false:=by rw [e];decide
      have a3 : (op == [110,111,116]) = true:=g
      have hl : (List.range ps.length).map (prtD op ps) = [.sl none (prtT op ps 0)]:=by rw [hy];rfl
      obtain ⟨τ,h5⟩:=fin1 _ hl (by simp)
      have hZ:=tnt g
      rw [show (2 : Int) = (lsOf op).getD 0 0 by rw [e];decide,← hP0] at hZ
      obtain ⟨P,hPe⟩ : ∃ z,prtT op ps 0 = z:=⟨_,rfl⟩
      rw [hPe] at hZ h5 hk0 e0
      have hZl : P.length + 1 = Z.length:=by rw [hZ];simp
      have p84:=p_sg (a:=[110,111,116]) 1 (by decide) (sT_word (by decide))
      have p85:=cat2 (xs:=[mkT 1 [110,111,116] 0]) (isTks.cons _ _ _ .nil) hk0 (by simp;omega) (by simp)
      have e3 : [mkT 1 [110,111,116] 0] ++ P = Z:=hZ.symm
      rw [e3] at p85
      simp only [mkT] at p85
      simp +contextual (maxSteps:=10000000) only [d1,t1,t18,t19,t20,h5,hrow,a1,a2,a3,p84,p85,e0,hke,mkE,D.cells,ee,eL,eP,go_sem]
     ·obtain ⟨hg0,y,hy,hs⟩:=ho1 (.inr (.inr g))
      have e:=eq_of_beq' g
      have a1 : (op == [115,105,122,101]) = false:=by rw [e];decide
      have a2 : (op == [110,101,103]) = true:=g
      have hl : (List.range ps.length).map (prtD op ps) = [.sl none (prtT op ps 0)]:=by rw [hy];rfl
      obtain ⟨τ,h5⟩:=fin1 _ hl (by simp)
      have hZ:=tng g
      rw [show (6 : Int) = (lsOf op).getD 0 0 by rw [e];decide,← hP0] at hZ
      obtain ⟨P,hPe⟩ : ∃ z,prtT op ps 0 = z:=⟨_,rfl⟩
      rw [hPe] at hZ h5 hk0 e0
      have hZl : P.length + 1 = Z.length:=by rw [hZ];simp
      have p84:=p_sg (a:=[45]) 5 (by decide) (sT_sign (by decide))
      have p85:=cat2 (xs:=[mkT 5 [45] 0]) (isTks.cons _ _ _ .nil) hk0 (by simp;omega) (by simp)
      have e3 : [mkT 5 [45] 0] ++ P = Z:=hZ.symm
      rw [e3] at p85
      simp only [mkT] at p85
      simp +contextual (maxSteps:=10000000) only [d1,t1,t18,t19,t20,h5,hrow,a1,a2,p84,p85,e0,hke,mkE,D.cells,ee,eL,eP,go_sem]
     ·obtain ⟨_,_,_,_,hy⟩:=ho2 g
      obtain ⟨_,_,_,_,_,g6,g7,g8⟩:=op2_not g
      have a1 : (op == [115,105,122,101]) = false:=g6
      have a2 : (op == [110,101,103]) = false:=g8
      have a3 : (op == [110,111,116]) = false:=g7
      have hl : (List.range ps.length).map (prtD op ps) = [.sl none (prtT op ps 0),.sl none (prtT op ps 1)]:=by rw [hy];rfl
      obtain ⟨τ,h5⟩:=fin1 _ hl (by simp)
      have hZ:=ttw g
      have q0 : (lsOf op).getD 0 0 = lstS op:=by rw [ls_two g];rfl
      have q1 : (lsOf op).getD 1 0 = stI op + 1:=by rw [ls_two g];rfl
      rw [<- q0,← q1,← hP0,← hP1,← sT_op g] at hZ
      obtain ⟨P,hPe⟩ : ∃ z,prtT op ps 0 = z:=⟨_,rfl⟩
      obtain ⟨P',hPe'⟩ : ∃ z,prtT op ps 1 = z:=⟨_,rfl⟩
      rw [hPe] at hZ h5 hk0 e0
      rw [hPe'] at hZ h5 hk1 e1
      have hZl : P.length + (P'.length + 1) = Z.length:=by rw [hZ];simp
      have p84:=sg1 h1
      obtain ⟨kk,nn,hT⟩:=signT_tok op
      rw [hT] at p84 hZ
      have p85:=cat3 (ys:=[mkT kk op nn]) hk0 (isTks.cons _ _ _ .nil) hk1 (by simp;omega) (by simp)
      have e3 : P ++ ([mkT kk op nn] ++ P') = Z:=hZ.symm
      rw [e3] at p85
      simp only [mkT] at p84 p85
      simp +contextual (maxSteps:=10000000) only [d1,t1,t18,t19,t20,h5,hrow,a1,a2,a3,p84,p85,e0,e1,hke,mkE,D.cells,ee,eL,eP,go_sem]
   ·cases h
  ·cases h
end GP
namespace Go.Proofs
open Go.Shelf
shelf_lay Lays.n156 Nm 156 at Tryz as Tryz.laysJoin
theorem Tryz.extraJoin : Builder.Extra Tryz.prog Tryz.laysJoin_ren where
 sizeBuilder:=by kernel_rfl
 liesBuilder:=by kernel_rfl
 t5:=Tryz.underlying5
 a5:=Tryz.isAgg5
 z5:=Tryz.sizeOf5
 v5:=Tryz.zeroValue5
 infoByte:=by kernel_rfl
 cellsByte:=by kernel_rfl
 sizeByte:=by kernel_rfl
 neB5:=by decide
theorem Tryz.join_none (a : Option Addr) (c : Nat) (sep : ByteArray) (w : World) :
  Calls Tryz.prog 88 #[.slice a 0 c,.string sep] w fun e w'=>e = .returned (.string ⟨#[]⟩) /\ w' = w:=Any.strings_Join_none Tryz.laysJoin Tryz.extraJoin a c sep w
theorem Tryz.join (bk o c : Nat) (xs : List ByteArray) (sep : ByteArray) (w : World)
  (hcells : ∀ (j : Nat) x,xs[j]? = some x -> w.cell? ⟨bk,o + j,none⟩ = some (.string x))
  (hbk : bk < w.heap.size) (hN : xs.length <= 140737488355328) (hcap : xs.length <= c)
  (hlen : (Lib.join (xs.map (·.data.toList)) sep.data.toList).length <= 140737488355328) :
  Calls Tryz.prog 88 #[.slice (some ⟨bk,o,none⟩) xs.length c,.string sep] w fun e w'=>e = .returned (.string ⟨(Lib.join (xs.map (·.data.toList)) sep.data.toList).toArray⟩) /\ RowKit.Below w.heap.size w w':=Any.strings_Join Tryz.laysJoin Tryz.extraJoin bk o c xs sep w hcells hbk hN hcap hlen
end Go.Proofs
namespace GP
open Go Go.Proofs
set_option maxRecDepth 100000
open Classical in
noncomputable def φjoin : List D -> Option D
 | [l,.str sep]=>if isLs isTx l /\ (Lib.join ((elems l).map strOf) sep).length <= 2 ^ 47 then some (.str (Lib.join ((elems l).map strOf) sep)) else none
 | _=>none
theorem ok_libM {f : FuncId} {φ : List D -> Option D}
  (h : ∀ args r,φ args = some r -> ∀ (c : Cx) (w : World) (vs : List Value),(∀ a v,c.M a = some v -> w.cell? a = some v) -> Reps c args vs -> (callFunc f vs.toArray).run Tryz.prog w = .ok (.enter f vs.toArray) w ∧
   Calls Tryz.prog f vs.toArray w fun e w'=>∃ v,e = .returned v /\ Rep c r v /\ Below (false,w.heap.size) w w') : OkAt Tryz.prog f φ:=by
 intro args r hr args' he H T Q hQ c w vs hg k1 k2 k3
 have k3' : Reps c args vs:=by rw [<- he];exact k3.erase
 obtain ⟨g1,g2⟩:=h args r hr c w vs k1.keep k3'
 refine .inl ⟨g1,g2.mono ?_⟩
 rintro e w' ⟨v,rfl,h1,h2⟩
 exact ⟨v,rfl,r,H,T,c,hQ,h1,k1.grownB h2,Cx.le.refl c,k2,by have:=h2.mono k1.low;rwa [show ((false,c.B) : Bool × Nat) = c.bb by rw [<- hg.1]] at this⟩
theorem ok88 : OkAt Tryz.prog 88 φjoin:=by
 refine ok_libM fun args r h c w vs hk hr=>?_
 unfold φjoin at h
 split at h
 ·rename_i l sep
  split at h
  ·rename_i hv
   obtain ⟨⟨n,xs,rfl,hl,hx⟩,hj⟩:=hv
   injection h with h;subst h
   rw [elems_sliceD] at hj ⊢
   have e88 : ∀ args w,(callFunc 88 args).run Tryz.prog w = .ok (.enter 88 args) w:=enters_of Tryz.func88 (by kernel_rfl) rfl
   refine ⟨e88 _ _,?_⟩
   match vs,hr.len with
   | [v0,v1],_ =>
    have h0:=hr.rep 0 (by simp) (by simp)
    have h1:=hr.rep 1 (by simp) (by simp)
    simp only [List.getElem_cons_zero,List.getElem_cons_succ] at h0 h1
    cases h1 with
    | str _ hsl =>
    have none' : ∀ (a : Option Addr) (cp : Nat),xs = [] -> v0 = .slice a 0 cp -> Calls Tryz.prog 88 [v0,.string ⟨sep.toArray⟩].toArray w fun e w'=>∃ v,e = .returned v /\ Rep c (.str (Lib.join (xs.map strOf) sep)) v /\ Below (false,w.heap.size) w w':=fun a cp hxs hv0=>by
     subst hxs;subst hv0
     refine (Tryz.join_none a cp ⟨sep.toArray⟩ w).mono ?_
     rintro e w' ⟨rfl,rfl⟩
     exact ⟨_,rfl,.str [] (by simp),Below.refl _ _⟩
    rcases sliceD_cases n xs with ⟨e1,hnil⟩ | e1
    ·rw [e1] at h0
     cases h0
     exact none' none 0 hnil rfl
    ·rw [e1] at h0
     cases h0 with
     | sl t _ a cap sz us hlen hb hsz h1 ha hs hM hrep htl ht =>
      by_cases hne : xs = []
      ·subst hne;exact none' a cap rfl rfl
      ·obtain ⟨b,rfl⟩:=ha hne
       have hsp:=hs hne b rfl
       obtain ⟨bk,off,sp⟩:=b
       simp only at hsp;subst hsp
       have sz1 : sz = 1:=by
        cases xs with
        | nil=>exact (hne rfl).elim
        | cons x xs =>
         obtain ⟨s,rfl,_⟩:=hx x (by simp)
         exact (hsz (.str s) (by simp)).symm
       subst sz1
       have cell : ∀ (j : Nat) (s : List UInt8),xs[j]? = some (.str s) -> w.cell? ⟨bk,off + j,none⟩ = some (.string ⟨s.toArray⟩):=fun j s hj=>by
        have hjl : j < xs.length:=by
         rcases Nat.lt_or_ge j xs.length with h | h
         ·exact h
         ·rw [List.getElem?_eq_none h] at hj;cases hj
        have hxj : xs[j] = .str s:=by simpa [hjl] using hj
        have m:=hk _ _ (hM j hjl 0 (by omega) _ rfl)
        have r:=hrep j hjl 0 (by rw [hxj];simp [D.cells])
        simp only [hxj,D.cells,List.getElem_cons_zero] at r
        simp only [Nat.mul_one,Nat.add_zero] at m
        obtain ⟨u,hu⟩ : ∃ u,us j 0 = u:=⟨_,rfl⟩
        rw [hu] at m r
        cases r
        exact m
       have eqj : ((xs.map strOf).map (fun s : List UInt8=>(⟨s.toArray⟩ : ByteArray))).map (fun b : ByteArray=>b.data.toList) = xs.map strOf:=by
        rw [List.map_map];exact (List.map_congr_left fun s _=>by simp).trans (List.map_id _)
       have hcl:=Tryz.join bk off cap ((xs.map strOf).map fun s=>(⟨s.toArray⟩ : ByteArray)) ⟨sep.toArray⟩ w ?_ ?_ (by simp;omega) (by simpa using hlen) (by rw [eqj];simpa using hj)
       ·rw [eqj] at hcl
        simp only [List.length_map] at hcl
        refine hcl.mono ?_
        rintro e w' ⟨rfl,hbl⟩
        refine ⟨_,rfl,?_,Below.of_kit hbl⟩
        exact .str _ (by omega)
       ·intro j x hjx
        rw [List.map_map] at hjx
        simp only [List.getElem?_map,Option.map_eq_some_iff,Function.comp] at hjx
        obtain ⟨d,hd,rfl⟩:=hjx
        obtain ⟨s,rfl,_⟩:=hx d (List.mem_of_getElem? hd)
        exact cell j s hd
       ·cases xs with
        | nil=>exact (hne rfl).elim
        | cons x xs =>
         obtain ⟨s,rfl,_⟩:=hx x (by simp)
         have:=cell 0 s rfl
         rcases Nat.lt_or_ge bk w.heap.size with h | h
         ·exact h
         ·simp [World.cell?,Array.getElem?_eq_none h] at this
  ·cases h
 ·cases h
end GP
namespace GP
open Go Go.Proofs
set_option maxRecDepth 100000
def shwB : D -> Bool
 | .agg [.int .i64 k,.str s,.int .i64 n]=>((k == 1) || (k == 5)) && formI k s n && decide (s.length <= 2 ^ 47)
 | _=>false
theorem shwB_elim {x : D} (h : shwB x = true) : ∃ k s n,x = .agg [.int .i64 k,.str s,.int .i64 n] /\ (k = 1 ∨ k = 5) /\ formI k s n = true /\ s.length <= 2 ^ 47:=by
 unfold shwB at h
 split at h
 ·simp only [Bool.and_eq_true,Bool.or_eq_true,decide_eq_true_eq,beq_iff_eq] at h
  exact ⟨_,_,_,rfl,h.1.1,h.1.2,h.2⟩
 ·cases h
def φshw : List D -> Option D
 | [x]=>if shwB x = true then some (.str (ts x)) else none
 | _=>none
set_option maxHeartbeats 1000000 in
theorem ok101w : OkAt Tryz.prog 101 φshw:=by
 refine ok_of (l:=[(166,φform)]) (.cons ok166 .nil) fn101 fun args r h=>?_
 unfold φshw at h
 split at h
 ·rename_i x
  split at h
  ·rename_i hx
   injection h with h;subst h
   refine ⟨by simp,by simp [D.cl],fun H T=>?_⟩
   obtain ⟨k,s,n,rfl,hk,hf,hs⟩:=shwB_elim hx
   have p : φform [.agg [.int .i64 k,.str s,.int .i64 n]] = some (.bool true):=by
    simp only [φform];rw [if_pos (by omega),hf]
   have e : ts (.agg [.int .i64 k,.str s,.int .i64 n]) = s:=rfl
   rw [e]
   rcases hk with rfl | rfl
   ·simp +contextual (maxSteps:=10000000) only [c101,p,go_sem]
   ·simp +contextual (maxSteps:=10000000) only [c101,p,go_sem]
  ·cases h
 ·cases h
def jnT (toks : List D) : List UInt8:=Lib.join (toks.map ts) [32]
def jnOk (toks : List D) : Bool:=toks.all shwB && !toks.isEmpty && decide (toks.length <= 2 ^ 20) && decide ((jnT toks).length <= 2 ^ 40)
def φjn : List D -> Option D
 | [.sl none toks]=>if jnOk toks = true then some (.str (jnT toks)) else none
 | _=>none
set_option maxHeartbeats 1000000 in
theorem ok46w : OkAt Tryz.prog 46 φjn:=by
 have hX:=XL_mono [(101,φshw),(88,φjoin)]
 refine ok_of (l:=[(101,φshw),(88,φjoin)]) (.cons ok101w (.cons ok88 .nil)) fn46 fun args r h=>?_
 unfold φjn at h
 split at h
 ·rename_i toks
  split at h
  ·rename_i hc
   simp only [jnOk,Bool.and_eq_true,decide_eq_true_eq,Bool.not_eq_true',List.isEmpty_eq_false_iff] at hc
   obtain ⟨⟨⟨h1,h0⟩,h2⟩,h3⟩:=hc
   injection h with h;subst h
   refine ⟨by simp,by simp [D.cl],fun H T=>?_⟩
   have strs : ∀ l : List D,(l.map fun x=>D.str (ts x)).map strOf = l.map ts:=fun l=>by rw [List.map_map];rfl
   have lens : ∀ x ∈ toks,(ts x).length <= 2 ^ 47:=fun x hx=>by
    obtain ⟨k,s,n,rfl,_,_,hs⟩:=shwB_elim (List.all_eq_true.1 h1 x hx)
    exact hs
   have p88 : φjoin [.sl none (toks.map fun x=>D.str (ts x)),.str [32]] = some (.str (jnT toks)):=by
    have hL : isLs isTx (.sl none (toks.map fun x=>D.str (ts x))):=⟨false,_,rfl,by rw [List.length_map];omega,fun y hy=>by
     obtain ⟨x,hx,rfl⟩:=List.mem_map.1 hy
     exact ⟨_,rfl,lens x hx⟩⟩
    have e : elems (.sl none (toks.map fun x=>D.str (ts x))) = toks.map fun x=>D.str (ts x):=rfl
    simp only [φjoin]
    rw [if_pos ⟨hL,by rw [e,strs];exact Nat.le_trans h3 (by decide)⟩,e,strs];rfl
   have hE : D.eraseL (toks.map fun x=>D.str (ts x)) = toks.map fun x=>D.str (ts x):=eraseL_id fun y hy=>by
    obtain ⟨x,_,rfl⟩:=List.mem_map.1 hy;rfl
   obtain ⟨J,hJ⟩ : ∃ z,jnT toks = z:=⟨_,rfl⟩
   rw [hJ] at p88 ⊢
   simp +contextual (maxSteps:=10000000) only [c46,go_sem]
   refine W_each toks (fun i s=>s.t 6 = .sl none toks /\ s.t 7 = .int .i64 (toks.length : Int) /\ s.t 8 = .int .i64 (i : Int) /\ (∃ L,s.H = H ++ L) /\ accT 1 T ((toks.take i).map fun x=>D.str (ts x)) (s.t 3) s.T) hX ⟨by simp [upd,argT],by simp [upd],by simp [upd],⟨[],by simp⟩,by simpa [upd] using accT.nil 1 T (ExtT.refl _)⟩ ?_ ?_
   ·rintro i x ⟨t,B,U⟩ hx hm hi ⟨t6,t7,t8,⟨L,rfl⟩,hA⟩
    simp only at t6 t7 t8 hA
    have d1 : decide ((i : Int) < toks.length) = true:=by simpa using hi
    have hxs:=List.all_eq_true.1 h1 x hm
    have p : φshw [x] = some (.str (ts x)):=by simp only [φshw];rw [if_pos hxs]
    have nx : (toks.take (i + 1)).map (fun x=>D.str (ts x)) = (toks.take i).map (fun x=>D.str (ts x)) ++ [.str (ts x)]:=by
     rw [List.take_add_one,hx];simp
    have hf : ((toks.take i).map fun x=>D.str (ts x)).all (fit 1) = true:=List.all_eq_true.2 fun y hy=>by
     obtain ⟨z,_,rfl⟩:=List.mem_map.1 hy;rfl
    rw [nx]
    have hlen : ((toks.take i).map fun x=>D.str (ts x)).length <= 2 ^ 20:=by rw [List.length_map,List.length_take];omega
    generalize (toks.take i).map (fun x=>D.str (ts x)) = A at hA hf hlen ⊢
    clear nx
    obtain ⟨k,s,n,rfl,_,_,hs⟩:=shwB_elim hxs
    have e : ts (.agg [.int .i64 k,.str s,.int .i64 n]) = s:=rfl
    rw [e] at p ⊢
    simp +contextual (maxSteps:=10000000) only [t6,t7,t8,d1,hx,p,go_sem]
    refine app_accT (bytes:=16) _ (hA.app _) rfl hf (by simp;omega) (by simp;omega) fun d2 T2 hA2=>?_
    simp +contextual (maxSteps:=10000000) only [t6,t7,t8,wrap_succ i (by omega),go_sem]
    exact ⟨⟨_,rfl⟩,hA2⟩
   ·rintro ⟨t,B,U⟩ ⟨t6,t7,t8,⟨L,rfl⟩,hA⟩
    simp only at t6 t7 t8 hA
    have d1 : decide ((toks.length : Int) < toks.length) = false:=by simp
    rw [List.take_length] at hA
    have he:=hA.erase hE (by simp [h0])
    obtain ⟨⟨M,rfl⟩,_⟩:=hA
    simp +contextual (maxSteps:=10000000) only [t6,t7,t8,d1,he,p88,go_sem]
  ·cases h
 ·cases h
theorem leavesG_id {H H1 L : Hp} {T T1 U : Tk} {r : D} (hl : H.length <= H1.length) (tl : T.length <= T1.length) (hr : ∀ (o : Nat) x,H1[o]? = some x -> H[o]? = some x ∨ ∃ cs,x = .row cs /\ ∀ d ∈ cs,d.one = true) : LeavesG H T r H1 T1 r (H1 ++ L) (T1 ++ U):=by
 refine ⟨_,_,.refl _ _,id,id,fun _ _=>rfl,fun _ _=>rfl,by rw [ren_id];exact Crs.refl _,fun o x h=>⟨x,?_,?_⟩,fun _ _ _ _ h=>h,fun _ _ _ _ h=>h,fun τ h=>?_,hl,tl⟩
 ·show (H1 ++ L)[o]? = some x
  rw [List.getElem?_append_left (lt_of_get h)];exact h
 ·rcases hr o x h with h' | ⟨cs,rfl,hc⟩
  ·exact .inl ⟨rfl,h'⟩
  ·exact .inr (.inl ⟨cs,cs,rfl,rfl,rfl,hc,fun i h _=>by rw [ren_id];exact Crs.refl _⟩)
 ·show (T1 ++ U)[τ]? = T1[τ]?
  rw [List.getElem?_append_left h]
theorem saddE {a b : List UInt8} (h : a.length + b.length < 2 ^ 62) : bin2 .add (.str a) (.str b) = some (.str (a ++ b)):=by
 show strOp .add a b = _
 unfold strOp
 rw [if_pos h]
def lineT (pre : List UInt8) (toks : List D) : List UInt8:=pre ++ jnT toks ++ [10]
def φline (H : Hp) (T : Tk) : List D -> Option (D × Hp × Tk)
 | [.ptr o 0,.str pre,.sl none toks]=>if jnOk toks = true /\ pre.length <= 1000 then (match H[o]? with
  | some (.row [.nils,.int .i64 n])=>some (.tup [],H.set o (.row [.sl (some T.length) [.str (lineT pre toks)],.int .i64 (IntKind.i64.wrap (n + (toks.length : Int)))]),T ++ [some (1,1)])
  | some (.row [.sl (some τ) xs,.int .i64 n])=>if T[τ]? = some (some (xs.length,1)) /\ xs.length <= 2 ^ 20 /\ xs.all (fit 1) = true /\ D.clL 0 0 xs = true then
    some (.tup [],H.set o (.row [.sl (some τ) (xs ++ [.str (lineT pre toks)]),.int .i64 (IntKind.i64.wrap (n + (toks.length : Int)))]),T.set τ (some (xs.length + 1,1))) else none
  | _=>none) else none
 | _=>none
set_option maxHeartbeats 2000000 in
theorem ok82 : OkAtG Tryz.prog 82 φline:=by
 refine okG_of (X:=XG Tryz.prog [] [(46,φjn)] [] [] []) (XG.X (.cons ok46w .nil) .nil .nil .nil) fn82 fun H T args r H1 T1 h=>?_
 have hM : MonoH []:=.nil
 unfold φline at h
 split at h
 ·rename_i o pre toks
  split at h
  ·rename_i hc
   obtain ⟨hj,hp⟩:=hc
   have p : φjn [.sl none toks] = some (.str (jnT toks)):=by simp only [φjn];rw [if_pos hj]
   have hjl : (jnT toks).length <= 2 ^ 40:=by
    simp only [jnOk,Bool.and_eq_true,decide_eq_true_eq] at hj;exact hj.2
   have htl : toks.length <= 2 ^ 20:=by
    simp only [jnOk,Bool.and_eq_true,decide_eq_true_eq] at hj;exact hj.1.2
   have hE : D.eraseL toks = toks:=eraseL_id fun x hx=>by
    simp only [jnOk,Bool.and_eq_true] at hj
    obtain ⟨k,s,n,rfl,_⟩:=shwB_elim (List.all_eq_true.1 hj.1.1.1 x hx)
    rfl
   unfold lineT at h
   obtain ⟨J,hJ⟩ : ∃ z,jnT toks = z:=⟨_,rfl⟩
   rw [hJ] at p hjl h
   split at h
   ·rename_i n ho
    injection h with h;injection h with h1 h;injection h with h2 h3
    subst h1;subst h2;subst h3
    have hol:=lt_of_get ho
    have hos : ∀ x,(H.set o x)[o]? = some x:=fun x=>by simp [hol]
    have hss : ∀ x y,(H.set o x).set o y = H.set o y:=fun x y=>by simp
    refine ⟨by simp,by simp [D.cl,D.clL],⟨by simp,fun o' x cs hx hcs=>?_⟩,?_⟩
    ·rcases Nat.lt_or_ge o' o with h' | h'
     ·rw [List.getElem?_set_ne (by omega)] at hx;exact .inl hx
     ·rcases Nat.eq_or_lt_of_le h' with e | h''
      ·subst e
       rw [hos] at hx;injection hx with hx;subst hx
       injection hcs with hcs;subst hcs
       exact .inr (by simp [D.clL,D.cl])
      ·rw [List.getElem?_set_ne (by omega)] at hx;exact .inl hx
    ·have fin:=leavesG_id (H:=H) (H1:=H.set o (.row [.sl (some T.length) [.str (pre ++ J ++ [10])],.int .i64 (IntKind.i64.wrap (n + (toks.length : Int)))])) (L:=[]) (T:=T) (T1:=T ++ [some (1,1)]) (U:=[]) (r:=.tup []) (by simp) (by simp) (fun o' x hx=>by
      rcases Nat.lt_or_ge o' o with h' | h'
      ·rw [List.getElem?_set_ne (by omega)] at hx;exact .inl hx
      ·rcases Nat.eq_or_lt_of_le h' with e | h''
       ·subst e
        rw [hos] at hx;injection hx with hx;subst hx
        exact .inr ⟨_,rfl,by simp [D.one]⟩
       ·rw [List.getElem?_set_ne (by omega)] at hx;exact .inl hx)
     simp only [List.append_nil] at fin
     have b1 : bin2 .add (.str pre) (.str J) = some (.str (pre ++ J)):=saddE (by omega)
     have b2 : bin2 .add (.str (pre ++ J)) (.str [10]) = some (.str (pre ++ J ++ [10])):=saddE (by simp;omega)
     simp only [List.append_assoc] at b1 b2 fin
     have r0:=fun off=>rdAt_E ho off
     have s0:=fun (K : D -> S -> Prop) t T n off v=>storeK_E (K:=K) ho t T n off v
     have rc0:=fun X off=>rd_cu0 (p:=o) hol X off
     have sc0:=fun (K : D -> S -> Prop) X t T n off v=>st_cu0 (p:=o) (K:=K) hol X t T n off v
     simp +contextual (maxSteps:=10000000) only [c82,r0,s0,rc0,sc0,p,hE,b1,b2,pcallG hM,go_sem]
     exact ⟨by decide,fin⟩
   ·rename_i τ xs n ho
    split at h
    ·rename_i hq
     obtain ⟨hT,hxl,hfx,hcx⟩:=hq
     injection h with h;injection h with h1 h;injection h with h2 h3
     subst h1;subst h2;subst h3
     have hol:=lt_of_get ho
     have hτl:=lt_of_get hT
     have hos : ∀ x,(H.set o x)[o]? = some x:=fun x=>by simp [hol]
     refine ⟨by simp,by simp [D.cl,D.clL],⟨by simp,fun o' x cs hx hcs=>?_⟩,?_⟩
     ·rcases Nat.lt_or_ge o' o with h' | h'
      ·rw [List.getElem?_set_ne (by omega)] at hx;exact .inl hx
      ·rcases Nat.eq_or_lt_of_le h' with e | h''
       ·subst e
        rw [hos] at hx;injection hx with hx;subst hx
        injection hcs with hcs;subst hcs
        have hcl : ∀ i j,D.clL i j (xs ++ [.str (pre ++ J ++ [10])]) = true:=fun i j=>by
         have:=D.clL_mono (Nat.zero_le i) (Nat.zero_le j) xs hcx
         refine clL_of fun d hd=>?_
         rcases List.mem_append.1 hd with h | h
         ·exact clL_mem this d h
         ·rw [List.mem_singleton] at h;subst h;rfl
        refine .inr ?_
        simp only [D.clL,D.cl,hcl,Bool.and_true,decide_eq_true_eq,List.length_set]
        exact hτl
       ·rw [List.getElem?_set_ne (by omega)] at hx;exact .inl hx
     ·have fin:=leavesG_id (H:=H) (H1:=H.set o (.row [.sl (some τ) (xs ++ [.str (pre ++ J ++ [10])]),.int .i64 (IntKind.i64.wrap (n + (toks.length : Int)))])) (L:=[]) (T:=T) (T1:=T.set τ (some (xs.length + 1,1))) (U:=[]) (r:=.tup []) (by simp) (by simp) (fun o' x hx=>by
       rcases Nat.lt_or_ge o' o with h' | h'
       ·rw [List.getElem?_set_ne (by omega)] at hx;exact .inl hx
       ·rcases Nat.eq_or_lt_of_le h' with e | h''
        ·subst e
         rw [hos] at hx;injection hx with hx;subst hx
         exact .inr ⟨_,rfl,by simp [D.one]⟩
        ·rw [List.getElem?_set_ne (by omega)] at hx;exact .inl hx)
      simp only [List.append_nil] at fin
      have b1 : bin2 .add (.str pre) (.str J) = some (.str (pre ++ J)):=saddE (by omega)
      have b2 : bin2 .add (.str (pre ++ J)) (.str [10]) = some (.str (pre ++ J ++ [10])):=saddE (by simp;omega)
      simp only [List.append_assoc] at b1 b2 fin
      have r0:=fun off=>rdAt_E ho off
      have s0:=fun (K : D -> S -> Prop) t T n off v=>storeK_E (K:=K) ho t T n off v
      have rc0:=fun X off=>rd_cu0 (p:=o) hol X off
      have sc0:=fun (K : D -> S -> Prop) X t T n off v=>st_cu0 (p:=o) (K:=K) hol X t T n off v
      simp +contextual (maxSteps:=10000000) only [c82,r0,s0,rc0,sc0,p,hE,b1,b2,pcallG hM,go_sem]
      simp only [appK]
      refine ⟨rfl,hT,by simp;omega,by simp;omega,hfx,?_⟩
      simp +contextual (maxSteps:=10000000) only [r0,s0,rc0,sc0,p,hE,pcallG hM,go_sem]
      exact fin
    ·cases h
   ·cases h
  ·cases h
 ·cases h
end GP
namespace GP
open Go Go.Proofs
set_option maxRecDepth 100000
def φfd0 : List D -> Option D
 | [.agg [.nils,.str s,.nils]]=>if s.length <= 2 ^ 47 then some (.bool (formI 1 s 0)) else none
 | _=>none
set_option maxHeartbeats 1000000 in
theorem ok81w : OkAt Tryz.prog 81 φfd0:=by
 have hX:=XL_mono [(134,φfk 1)]
 refine ok_of (l:=[(134,φfk 1)]) (.cons ok134 .nil) fn81 fun args r h=>?_
 unfold φfd0 at h
 split at h
 ·rename_i s
  split at h
  ·rename_i hs
   injection h with h;subst h
   refine ⟨by simp,by simp [D.cl],fun H T=>?_⟩
   have p:=fk_at (k:=1) hs
   obtain ⟨tl,htl⟩ : ∃ z,C.tl 2 c81 = z:=⟨_,rfl⟩
   obtain ⟨b,hb⟩ : ∃ z,formI 1 s 0 = z:=⟨_,rfl⟩
   rw [hb] at p ⊢
   simp +contextual (maxSteps:=10000000) only [c81,go_sem]
   refine W_each [] (fun j s'=>s'.t 1 = .ptr H.length 0 /\ s'.t 11 = .int .i64 0 /\ s'.t 12 = .int .i64 0 /\ s'.H = H ++ [.row [.nils,.str s,.nils]] /\ s'.T = T) hX ⟨by simp [upd,argT],by simp [upd],by simp [upd],rfl,rfl⟩ (fun i x s hx=>by simp at hx) ?_
   rintro ⟨t,B,U⟩ ⟨t1,t11,t12,rfl,rfl⟩
   simp only at t1 t11 t12
   simp +contextual (maxSteps:=10000000) only [t1,t11,t12,go_sem]
   refine W_each [] (fun j s'=>s'.t 1 = .ptr H.length 0 /\ s'.t 39 = .int .i64 0 /\ s'.t 40 = .int .i64 0 /\ s'.H = H ++ [.row [.nils,.str s,.nils]] /\ s'.T = U) hX ⟨by simp [upd,t1],by simp [upd],by simp [upd],rfl,rfl⟩ (fun i x s hx=>by simp at hx) ?_
   rintro ⟨t,B,U⟩ ⟨t1,t39,t40,rfl,rfl⟩
   simp only at t1 t39 t40
   simp +contextual (maxSteps:=10000000) only [t1,t39,t40,p,go_sem]
  ·cases h
 ·cases h
def line0 (s : List UInt8) : List UInt8:=[117,115,101,32] ++ s ++ [32,59,10]
def φdoc0 : List D -> Option D
 | [.agg [.nils,.str s,.nils]]=>if s.length <= 64 /\ formI 1 s 0 = true then some (.tup [.str (line0 s),.int .i64 0]) else none
 | _=>none
theorem jn0 {s : List UInt8} (hf : formI 1 s 0 = true) (hs : s.length <= 64) : jnOk [mkT 1 [117,115,101] 0,mkT 1 s 0,mkT 5 [59] 0] = true /\ lineT [] [mkT 1 [117,115,101] 0,mkT 1 s 0,mkT 5 [59] 0] = line0 s:=by
 have e : jnT [mkT 1 [117,115,101] 0,mkT 1 s 0,mkT 5 [59] 0] = [117,115,101,32] ++ s ++ [32,59]:=by
  simp [jnT,ts_mk,Lib.join]
 constructor
 ·unfold jnOk
  rw [e]
  have h3 : formI 5 [59] 0 = true:=by decide
  have h1 : formI 1 [117,115,101] 0 = true:=by decide
  have hd : decide (s.length <= 2 ^ 47) = true:=by simp;omega
  simp only [List.all_cons,List.all_nil,mkT,shwB,h1,h3,hf,hd]
  simp
  omega
 ·unfold lineT line0
  rw [e];simp
set_option maxHeartbeats 4000000 in
theorem ok37w : OkAt Tryz.prog 37 φdoc0:=by
 have hM : MonoH []:=.nil
 have hXX:=XG.X (P:=Tryz.prog) (u:=[]) (.cons ok81w (.cons tok84 (.cons ok88 .nil))) .nil .nil (.cons ok82 .nil)
 have hX:=XG_mono (P:=Tryz.prog) [] [(81,φfd0),(84,φsP),(88,φjoin)] [] [] [(82,φline)]
 refine okX_of (X:=XG Tryz.prog [] [(81,φfd0),(84,φsP),(88,φjoin)] [] [] [(82,φline)]) hXX fn37 fun args r h=>?_
 unfold φdoc0 at h
 split at h
 ·rename_i s
  split at h
  ·rename_i hc
   obtain ⟨hs,hf⟩:=hc
   injection h with h;subst h
   refine ⟨by simp,by simp [D.cl,D.clL],fun H T=>?_⟩
   have p81 : φfd0 [.agg [.nils,.str s,.nils]] = some (.bool true):=by
    simp only [φfd0];rw [if_pos (by omega),hf]
   have p84:=sg3 (a:=[117,115,101]) (b:=s) (c:=[59]) (by decide) (by omega) (by decide)
   rw [sT_word (s:=[117,115,101]) (by decide),sT_word hf,sT_sign (s:=[59]) (by decide)] at p84
   obtain ⟨j1,j2⟩:=jn0 hf hs
   have hw : IntKind.i64.wrap ((0 : Int) + ((3 : Nat) : Int)) = 3:=by decide
   have pl : ∀ T',φline (H ++ [.row [.nils,.str s,.nils],.row [.nils,.int .i64 0]]) T' [.ptr (H.length + 1) 0,.str [],.sl none [mkT 1 [117,115,101] 0,mkT 1 s 0,mkT 5 [59] 0]] = some (.tup [],H ++ [.row [.nils,.str s,.nils],.row [.sl (some T'.length) [.str (line0 s)],.int .i64 3]],T' ++ [some (1,1)]):=fun T'=>by
    have ho : (H ++ [Ob.row [.nils,.str s,.nils],.row [.nils,.int .i64 0]])[H.length + 1]? = some (.row [.nils,.int .i64 0]):=by
     rw [List.getElem?_append_right (by omega)];simp
    simp only [φline]
    rw [if_pos ⟨j1,by simp⟩,ho]
    simp only [List.length_cons,List.length_nil,j2]
    rw [show IntKind.i64.wrap ((0 : Int) + ((0 + 1 + 1 + 1 : Nat) : Int)) = 3 by decide,List.set_append_right _ _ (by omega)]
    simp
   have ll : (line0 s).length = s.length + 7:=by simp [line0]
   have p88 : φjoin [.sl none [.str (line0 s)],.str []] = some (.str (line0 s)):=by
    have hL : isLs isTx (.sl none [.str (line0 s)]):=⟨false,_,rfl,by simp,fun y hy=>by
     rw [List.mem_singleton] at hy;subst hy;exact ⟨_,rfl,by omega⟩⟩
    have e : elems (.sl none [.str (line0 s)]) = [.str (line0 s)]:=rfl
    have ej : Lib.join [line0 s] [] = line0 s:=by simp [Lib.join]
    simp only [φjoin]
    rw [if_pos ⟨hL,by rw [e];show (Lib.join [line0 s] []).length <= _;rw [ej];omega⟩,e]
    show some (D.str (Lib.join [line0 s] [])) = _
    rw [ej]
   obtain ⟨Z,hZ⟩ : ∃ z,line0 s = z:=⟨_,rfl⟩
   rw [hZ] at pl p88 ll ⊢
   simp only [mkT] at p84 pl
   simp +contextual (maxSteps:=10000000) only [c37,p81,pcallG hM,go_sem]
   refine W_each [] (fun j s'=>s'.t 1 = .ptr H.length 0 /\ s'.t 4 = .ptr (H.length + 1) 0 /\ s'.t 17 = .int .i64 0 /\ s'.t 18 = .int .i64 0 /\ s'.H = H ++ [.row [.nils,.str s,.nils],.row [.nils,.int .i64 0]] /\ s'.T = T) hX ⟨by simp [upd,argT],by simp [upd],by simp [upd],by simp [upd],by simp,rfl⟩ (fun i x s hx=>by simp at hx) ?_
   rintro ⟨t,B,U⟩ ⟨t1,t4,t17,t18,rfl,rfl⟩
   simp only at t1 t4 t17 t18
   simp +contextual (maxSteps:=10000000) only [t1,t4,t17,t18,p84,pl,pcallG hM,go_sem]
   refine W_each [] (fun j s'=>s'.t 4 = .ptr (H.length + 1) 0 /\ s'.t 33 = .int .i64 0 /\ s'.t 34 = .int .i64 0 /\ ∃ τ M,s'.H = H ++ [.row [.nils,.str s,.nils],.row [.sl (some τ) [.str Z],.int .i64 3]] /\ s'.T = U ++ M) hX ⟨by simp [upd,t4],by simp [upd],by simp [upd],_,_,rfl,rfl⟩ (fun i x s hx=>by simp at hx) ?_
   rintro ⟨t,B,U'⟩ ⟨t4,t33,t34,τ,M,rfl,rfl⟩
   simp only at t4 t33 t34
   have d0 : decide ((4096 : Int) < (Z.length : Nat)) = false:=by simp;omega
   simp +contextual (maxSteps:=10000000) only [t4,t33,t34,p88,d0,pcallG hM,go_sem]
   exact leavesE_mk rfl ⟨_,rfl⟩ ⟨_,rfl⟩
  ·cases h
 ·cases h
def φawake : List D -> Option D
 | []=>some (.bool true)
 | _=>none
theorem ok33 : OkAt Tryz.prog 33 φawake:=by
 refine ok_of (l:=[(37,φdoc0)]) (.cons ok37w .nil) fn33 fun args r h=>?_
 unfold φawake at h
 split at h
 ·injection h with h;subst h
  refine ⟨by simp,by simp [D.cl],fun H T=>?_⟩
  have p : φdoc0 [.agg [.nils,.str [102,105,114,115,116],.nils]] = some (.tup [.str [117,115,101,32,102,105,114,115,116,32,59,10],.int .i64 0]):=by
   simp only [φdoc0];rw [if_pos ⟨by decide,by decide⟩];rfl
  simp +contextual (maxSteps:=10000000) only [c33,p,go_sem]
 ·cases h
end GP
namespace GP
open Go Go.Proofs
set_option maxRecDepth 100000
noncomputable def xprD (n : Nat) (e : D) : D:=if fmR n e then .sl none (tkC false e) else .nils
open Classical in
noncomputable def φXpr (n : Nat) : List D -> Option D
 | [e]=>if isE n e /\ (fmR n e = true -> (tkC false e).length <= 2 ^ 30) then some (xprD n e) else none
 | _=>none
set_option maxHeartbeats 1000000 in
theorem ok34 (n : Nat) : OkAt Tryz.prog 34 (φXpr n):=by
 refine ok_of (l:=[(35,φfmP n),(75,φxpr n)]) (.cons (ok35 n) (.cons (ok75 n) .nil)) fn34 fun args r h=>?_
 unfold φXpr at h
 split at h
 ·rename_i e
  split at h
  ·rename_i hc
   obtain ⟨he,hl⟩:=hc
   injection h with h;subst h
   have p1 : φfmP n [e] = some (.bool (fmR n e)):=by simp only [φfmP];rw [if_pos he,fm_eq]
   have ee:=isE_erase he
   have hk:=tkC_tok false e
   have p2 : fmR n e = true -> φxpr n [e] = some (.sl none (tkC false e)):=fun h=>by
    simp only [φxpr];rw [if_pos ⟨he,goodE_of he h,hl h⟩]
   unfold xprD
   obtain ⟨b,hb⟩ : ∃ z,fmR n e = z:=⟨_,rfl⟩
   rw [hb] at p1 p2 ⊢
   obtain ⟨X,hX⟩ : ∃ z,tkC false e = z:=⟨_,rfl⟩
   rw [hX] at p2 hk ⊢
   have hke:=hk.erase
   obtain ⟨q1,q2,q3,q4⟩:=isE_cells he
   cases b with
   | false =>
    refine ⟨by simp,by simp [D.cl],fun H T=>?_⟩
    simp +contextual (maxSteps:=10000000) only [c34,ee,q1,q2,q3,q4,p1,go_sem]
   | true =>
    have p2:=p2 rfl
    refine ⟨by simp,hk.cl _ _,fun H T=>?_⟩
    simp +contextual (maxSteps:=10000000) only [c34,ee,q1,q2,q3,q4,p1,p2,hke,go_sem]
  ·cases h
 ·cases h
end GP
namespace GP
open Go Go.Proofs
set_option maxRecDepth 100000
theorem lit1_same {x y : D} (h1 : vk x = vk y) (h2 : vi x = vi y) (h3 : vs x = vs y) : litT1 x = litT1 y:=by
 unfold litT1;rw [h1,h2,h3]
theorem lit_same {x y : D} (h : sameB x y = true) : litT x = litT y:=by
 obtain ⟨h1,h2,h3,h4,h5⟩:=sameB_p h
 have e1:=lit1_same h1 h2 h3
 have e2 : leaf1 x = leaf1 y:=by unfold leaf1;rw [h1]
 have e3 : (vl x).map (fun z=>tC :: litT1 z) = (vl y).map (fun z=>tC :: litT1 z):=by
  refine List.ext_getElem? fun i=>?_
  rw [List.getElem?_map,List.getElem?_map]
  rcases Nat.lt_or_ge i (vl x).length with hi | hi
  ·have hj : i < (vl y).length:=by omega
   rw [List.getElem?_eq_getElem hi,List.getElem?_eq_getElem hj]
   have:=sameEl_p (h5 i _ _ (List.getElem?_eq_getElem hi) (List.getElem?_eq_getElem hj))
   simp only [Option.map_some]
   rw [lit1_same this.1 this.2.1 this.2.2.1]
  ·rw [List.getElem?_eq_none hi,List.getElem?_eq_none (by omega)]
 unfold litT cmL
 rw [e1,e2,e3]
theorem sameE_p {n : Nat} {x y : D} (h : sameE (n + 1) x y = true) : eop x = eop y /\ ewho x = ewho y /\ ename x = ename y /\ sameB (eV x) (eV y) = true /\ (eps x).length = (eps y).length /\ ∀ (i : Nat) (u v : D),(eps x)[i]? = some u -> (eps y)[i]? = some v -> sameE n u v = true:=by
 simp only [sameE] at h
 split at h
 ·cases h
 ·rename_i g
  simp only [Bool.or_eq_true,not_or,bne_iff_ne,ne_eq,Decidable.not_not,Bool.not_eq_true',Bool.not_eq_false] at g
  obtain ⟨⟨⟨g1,g2⟩,g3⟩,g4⟩:=g
  unfold allZ at h
  split at h
  ·rename_i hl
   have hl : (eps x).length = (eps y).length:=by simpa using hl
   refine ⟨g1,g2,g3,g4,hl,fun i u v hu hv=>?_⟩
   have:=List.all_eq_true.1 h i (by simpa using lt_of_get hu)
   unfold okZ at this
   rw [hu,hv] at this
   exact this
  ·cases h
theorem tok_same : ∀ (n : Nat) (full : Bool) (x y : D),sameE n x y = true -> tokD n full x = tokD n full y /\ eop x = eop y
 | 0,_,_,_,h=>by cases h
 | n + 1,full,x,y,h=>by
  obtain ⟨h1,h2,h3,h4,h5,h6⟩:=sameE_p h
  have hs : ∀ j,tokD n full ((eps x).getD j .top) = tokD n full ((eps y).getD j .top) /\ eop ((eps x).getD j .top) = eop ((eps y).getD j .top):=fun j=>by
   rw [List.getD_eq_getElem?_getD,List.getD_eq_getElem?_getD]
   rcases Nat.lt_or_ge j (eps x).length with hi | hi
   ·have hj : j < (eps y).length:=by omega
    rw [List.getElem?_eq_getElem hi,List.getElem?_eq_getElem hj]
    exact tok_same n full _ _ (h6 j _ _ (List.getElem?_eq_getElem hi) (List.getElem?_eq_getElem hj))
   ·rw [List.getElem?_eq_none hi,List.getElem?_eq_none (by omega)]
    exact ⟨rfl,rfl⟩
  have s0 : tokD n full (sub0 x) = tokD n full (sub0 y):=(hs 0).1
  have s1 : tokD n full (sub1 x) = tokD n full (sub1 y):=(hs 1).1
  have o0 : eop (sub0 x) = eop (sub0 y):=(hs 0).2
  have o1 : eop (sub1 x) = eop (sub1 y):=(hs 1).2
  refine ⟨?_,h1⟩
  simp only [tokD]
  rw [h1,h2,h3,lit_same h4,s0,s1,o0,o1]
theorem tkC_same {full : Bool} {x y : D} (hx : isE nodeB x) (hy : isE nodeB y) (gx : GoodE x) (gy : GoodE y) (h : sameE nodeB x y = true) : tkC full x = tkC full y:=by
 rw [<- tkC_eq hx gx,← tkC_eq hy gy]
 exact (tok_same nodeB full x y h).1
def brI (x : D) : Int:=if (tk x == 5) && (ts x == [40]) then 1 else if (tk x == 5) && (ts x == [41]) then -1 else 0
def brS : List D -> Int
 | []=>0
 | x :: l=>brI x + brS l
theorem brS_app : ∀ (a b : List D),brS (a ++ b) = brS a + brS b
 | [],b=>by simp [brS]
 | x :: a,b=>by simp only [List.cons_append,brS,brS_app a b];omega
structure Bal (l : List D) : Prop where
 z : brS l = 0
 p : ∀ i,0 <= brS (l.take i)
theorem Bal.nil : Bal []:=⟨rfl,fun i=>by simp [brS]⟩
theorem Bal.app {a b : List D} (ha : Bal a) (hb : Bal b) : Bal (a ++ b):=by
 refine ⟨by rw [brS_app,ha.z,hb.z];rfl,fun i=>?_⟩
 rw [List.take_append,brS_app]
 have:=ha.p i
 have:=hb.p (i - a.length)
 omega
theorem Bal.cons {x : D} {l : List D} (hx : brI x = 0) (hl : Bal l) : Bal (x :: l):=by
 refine ⟨by simp only [brS,hx,hl.z];rfl,fun i=>?_⟩
 cases i with
 | zero=>simp [brS]
 | succ i=>rw [List.take_succ_cons];simp only [brS,hx];have:=hl.p i;omega
theorem Bal.wrap {l : List D} (hl : Bal l) : Bal (tP :: (l ++ [tQ])):=by
 have p1 : brI tP = 1:=by decide
 have q1 : brI tQ = -1:=by decide
 refine ⟨by simp only [brS,brS_app,p1,q1,hl.z];rfl,fun i=>?_⟩
 cases i with
 | zero=>simp [brS]
 | succ i =>
  rw [List.take_succ_cons,List.take_append]
  simp only [brS,brS_app,p1]
  have h1:=hl.p i
  have h2 : -1 <= brS ([tQ].take (i - l.length)):=by
   cases i - l.length with
   | zero=>simp [brS]
   | succ k=>simp [brS,q1]
  omega
theorem br_k {k : Int} {s : List UInt8} {n : Int} (h : k ≠ 5) : brI (mkT k s n) = 0:=by
 unfold brI
 rw [tk_mk]
 have : (k == 5) = false:=by simpa using h
 rw [this];rfl
theorem br_s {k : Int} {s : List UInt8} {n : Int} (h1 : s ≠ [40]) (h2 : s ≠ [41]) : brI (mkT k s n) = 0:=by
 unfold brI
 rw [ts_mk]
 have e1 : (s == [40]) = false:=by simpa using h1
 have e2 : (s == [41]) = false:=by simpa using h2
 rw [e1,e2];simp
theorem Bal.of {l : List D} (h : ∀ x ∈ l,brI x = 0) : Bal l:=by
 induction l with
 | nil=>exact .nil
 | cons x l ih=>exact .cons (h x (by simp)) (ih fun y hy=>h y (by simp [hy]))
theorem br_lit1 (v : D) : ∀ x ∈ litT1 v,brI x = 0:=by
 intro x hx
 unfold litT1 at hx
 (repeat' split at hx) <;> simp only [List.mem_cons,List.not_mem_nil,or_false] at hx
 ·subst hx;exact br_k (by decide)
 ·subst hx;exact br_k (by decide)
 ·rcases hx with rfl | rfl
  ·exact br_s (by decide) (by decide)
  ·exact br_k (by decide)
 ·subst hx;exact br_k (by decide)
 ·subst hx;exact br_k (by decide)
 ·subst hx;exact br_k (by decide)
theorem bal_lit (v : D) : Bal (litT v):=by
 refine .of fun x hx=>?_
 unfold litT at hx
 split at hx
 ·exact br_lit1 v x hx
 ·simp only [List.mem_cons,List.mem_append,List.not_mem_nil,or_false] at hx
  rcases hx with rfl | hx | rfl
  ·exact br_s (by decide) (by decide)
  ·rcases cmL_mem hx with rfl | ⟨y,_,hy⟩
   ·exact br_s (by decide) (by decide)
   ·exact br_lit1 y x hy
  ·exact br_s (by decide) (by decide)
theorem bal_par {full : Bool} {s least : Int} {l : List D} (h : Bal l) : Bal (parW full s least l):=by
 unfold parW
 split
 ·exact h
 ·exact h.wrap
theorem br_op {op : List UInt8} (h : isOp2 op) : brI (opTok op) = 0:=by
 have key : ∀ w ∈ ops2,w ≠ [40] /\ w ≠ [41]:=by decide
 obtain ⟨h1,h2⟩:=key op (ops2_of h)
 unfold opTok
 split <;> exact br_s h1 h2
theorem bal_tk {full : Bool} : ∀ (n : Nat) (e : D),isE n e -> GoodE e -> Bal (tkC full e)
 | 0,_,h,_=>h.elim
 | n + 1,e,he,hg=>by
  have ks:=isE_eps he
  have f3:=hg.parts.2.2.1
  have bp : ∀ x ∈ eps e,Bal (tkC full x):=fun x hx=>bal_tk n x (ks x hx) (f3 x hx)
  rcases hg.op with g | g | g | g | g | g | g | g | g
  ·rw [tk_val hg g];exact bal_lit _
  ·rw [tk_now hg g];exact .cons (br_k (by decide)) .nil
  ·rw [tk_attr hg g];exact .cons (br_k (by decide)) (.cons (br_s (by decide) (by decide)) (.cons (br_k (by decide)) .nil))
  ·rw [tk_has hg g];exact .cons (br_k (by decide)) (Bal.wrap (l:=[_,_,_]) (.cons (br_k (by decide)) (.cons (br_s (by decide) (by decide)) (.cons (br_k (by decide)) .nil))))
  ·rw [tk_role hg g];exact .cons (br_k (by decide)) (Bal.wrap (l:=[_]) (.cons (br_k (by decide)) .nil))
  ·obtain ⟨_,y,hy,hs⟩:=hg.one (.inl g)
   rw [tk_size hg g]
   exact .cons (br_k (by decide)) (Bal.wrap (bp _ (by rw [hy,hs];simp)))
  ·obtain ⟨_,y,hy,hs⟩:=hg.one (.inr (.inl g))
   rw [tk_not hg g]
   exact .cons (br_k (by decide)) (bal_par (bp _ (by rw [hy,hs];simp)))
  ·obtain ⟨_,y,hy,hs⟩:=hg.one (.inr (.inr g))
   rw [tk_neg hg g]
   exact .cons (br_s (by decide) (by decide)) (bal_par (bp _ (by rw [hy,hs];simp)))
  ·obtain ⟨_,_,m0,m1,_⟩:=hg.two g
   rw [tk_two hg g]
   exact (bal_par (bp _ m0)).app (.cons (br_op g) (bal_par (bp _ m1)))
end GP
namespace GP
open Go Go.Proofs
set_option maxRecDepth 100000
theorem brI_le (x : D) : -1 <= brI x /\ brI x <= 1:=by unfold brI;(repeat' split) <;> omega
theorem brS_take {X : List D} {j : Nat} {x : D} (h : X[j]? = some x) : brS (X.take (j + 1)) = brS (X.take j) + brI x:=by
 rw [List.take_add_one,h,brS_app];simp [brS]
theorem Bal.drop {X : List D} (h : Bal X) (o : Nat) : brS (X.drop o) <= 0:=by
 have h1:=h.p o
 have h2:=h.z
 rw [<- List.take_append_drop o X,brS_app] at h2
 omega
theorem cut_law {e : D} {cut : List D} (he : isE nodeB e) (hg : GoodE e) (hc : cut.all tokB = true) (hl : cut.length + 2 = (tkC false e).length) (h6 : cut.length <= 600) (h0 : (parseE cut).2.2 = 0) : ∃ y,(parseE cut).1 = y /\ (parseE cut).2.1 = 0 /\ isE nodeB y /\ sameE nodeB y e = false:=by
 obtain ⟨y,e1,e2,e3,e4,e5,e6,e7,e8⟩:=parsed hc h6 h0
 refine ⟨y,e1,e2,e3,?_⟩
 cases hs : sameE nodeB y e with
 | false=>rfl
 | true =>
  have:=tkC_same (full:=false) e3 he e4 hg hs
  rw [this] at e8;omega
end GP
namespace GP
open Go Go.Proofs
set_option maxRecDepth 100000
def txs (l : D) : List (List UInt8):=(elems l).map strB
def txtB (s : List UInt8) : Bool:=formI 3 s 0
noncomputable def optB (b : Bool) (e : D) : Bool:=if b then fmR nodeB e && decide (dpt nodeB e <= 12) else sameE nodeB e zeroE
end GP
namespace GP
open Go Go.Proofs
set_option maxRecDepth 100000
def cE (e : D) (i : Nat) : D:=e.cells.getD i .top
def mkR (pm hi : Bool) (nm : List UInt8) (e : D) (m m' : Bool) (du ad : List (List UInt8)) : D:=.agg [.bool pm,.str nm,.bool hi,cE e 0,cE e 1,cE e 2,cE e 3,cE e 4,cE e 5,cE e 6,cE e 7,sliceD m (du.map D.str),sliceD m' (ad.map D.str)]
def short47 (l : List (List UInt8)) : Prop:=l.length <= 2 ^ 47 /\ ∀ s ∈ l,s.length <= 2 ^ 47
def isR (n : Nat) (r : D) : Prop:=∃ pm hi nm e m m' du ad,r = mkR pm hi nm e m m' du ad /\ isE n e /\ nm.length <= 2 ^ 47 /\ short47 du /\ short47 ad
def rNm : D -> List UInt8
 | .agg (_ :: .str s :: _)=>s
 | _=>[]
def rHi : D -> Bool
 | .agg (_ :: _ :: .bool b :: _)=>b
 | _=>false
def rE : D -> D
 | .agg (_ :: _ :: _ :: a0 :: a1 :: a2 :: a3 :: a4 :: a5 :: a6 :: a7 :: _)=>.agg [a0,a1,a2,a3,a4,a5,a6,a7]
 | _=>.top
def rDu : D -> List (List UInt8)
 | .agg (_ :: _ :: _ :: _ :: _ :: _ :: _ :: _ :: _ :: _ :: _ :: l :: _)=>txs l
 | _=>[]
def rAd : D -> List (List UInt8)
 | .agg (_ :: _ :: _ :: _ :: _ :: _ :: _ :: _ :: _ :: _ :: _ :: _ :: l :: _)=>txs l
 | _=>[]
section
variable (pm hi : Bool) (nm : List UInt8) (e : D) (m m' : Bool) (du ad : List (List UInt8))
end
def mkP (nm bn us : List UInt8) (hf : Bool) (e : D) (m : Bool) (rs : List D) : D:=.agg [.str nm,.str bn,.str us,.bool hf,cE e 0,cE e 1,cE e 2,cE e 3,cE e 4,cE e 5,cE e 6,cE e 7,sliceD m rs]
def isPo (n : Nat) (p : D) : Prop:=∃ nm bn us hf e m rs,p = mkP nm bn us hf e m rs /\ isE n e /\ nm.length <= 2 ^ 47 /\ bn.length <= 2 ^ 47 /\ us.length <= 2 ^ 47 /\ rs.length <= 2 ^ 47 /\ ∀ x ∈ rs,isR n x
def pNm : D -> List UInt8
 | .agg (.str s :: _)=>s
 | _=>[]
def pBy : D -> List UInt8
 | .agg (_ :: .str s :: _)=>s
 | _=>[]
def pUs : D -> List UInt8
 | .agg (_ :: _ :: .str s :: _)=>s
 | _=>[]
def pHf : D -> Bool
 | .agg (_ :: _ :: _ :: .bool b :: _)=>b
 | _=>false
def pE : D -> D
 | .agg (_ :: _ :: _ :: _ :: a0 :: a1 :: a2 :: a3 :: a4 :: a5 :: a6 :: a7 :: _)=>.agg [a0,a1,a2,a3,a4,a5,a6,a7]
 | _=>.top
def pRs : D -> List D
 | .agg (_ :: _ :: _ :: _ :: _ :: _ :: _ :: _ :: _ :: _ :: _ :: _ :: l :: _)=>elems l
 | _=>[]
section
variable (nm bn us : List UInt8) (hf : Bool) (e : D) (m : Bool) (rs : List D)
end
def mkDoc (m : Bool) (fs : List D) (us : List UInt8) (m' : Bool) (ps : List D) : D:=.agg [sliceD m fs,.str us,sliceD m' ps]
def isDoc (n : Nat) (d : D) : Prop:=∃ m fs us m' ps,d = mkDoc m fs us m' ps /\ fs.length <= 2 ^ 47 /\ us.length <= 2 ^ 47 /\ ps.length <= 2 ^ 47 /\ (∀ x ∈ fs,isF x) /\ ∀ x ∈ ps,isPo n x
def dFs : D -> List D
 | .agg (l :: _)=>elems l
 | _=>[]
def dUs : D -> List UInt8
 | .agg (_ :: .str s :: _)=>s
 | _=>[]
def dPs : D -> List D
 | .agg (_ :: _ :: l :: _)=>elems l
 | _=>[]
section
variable (m : Bool) (fs : List D) (us : List UInt8) (m' : Bool) (ps : List D)
end
end GP
namespace GP
open Go Go.Proofs
set_option maxRecDepth 100000
def okF (f : D) : Bool:=inB whoW (fwho f) && (nameB (fname f) && (!(decide (fkind f < 1)) && !(decide (4 < fkind f))))
noncomputable def okR (r : D) : Bool:=nameB (rNm r) && (optB (rHi r) (rE r) && ((rDu r).all txtB && (rAd r).all txtB))
noncomputable def okP (p : D) : Bool:=nameB (pNm p) && (nameB (pBy p) && (formI 1 (pUs p) 0 && (optB (pHf p) (pE p) && (pRs p).all okR)))
noncomputable def okD (d : D) : Bool:=formI 1 (dUs d) 0 && ((dFs d).all okF && (dPs d).all okP)
end GP
namespace GP
open Go Go.Proofs
set_option maxRecDepth 100000
structure goodR (full : Bool) (r : D) : Prop where
 s : isR nodeB r
 e : rHi r = true -> GoodE (rE r) /\ (tkC full (rE r)).length <= 2 ^ 28
 d : (rDu r).length <= 4
 a : (rAd r).length <= 4
end GP
namespace GP
open Go Go.Proofs
set_option maxRecDepth 100000
section
variable {f : D -> List D} {l : List D}
end
structure goodP (full : Bool) (p : D) : Prop where
 s : isPo nodeB p
 e : pHf p = true -> GoodE (pE p) /\ (tkC full (pE p)).length <= 2 ^ 28
 l : (pRs p).length <= 8
 r : ∀ r ∈ pRs p,goodR full r
structure goodD (full : Bool) (d : D) : Prop where
 s : isDoc nodeB d
 f : (dFs d).length <= 12
 k : ∀ f ∈ dFs d,1 <= fkind f /\ fkind f <= 4
 l : (dPs d).length <= 6
 p : ∀ p ∈ dPs d,goodP full p
end GP
namespace GP
open Go Go.Proofs
set_option maxRecDepth 100000
section
variable {toks : List D} {a : Nat}
end
structure okE (e : D) : Prop where
 s : isE nodeB e
 g : GoodE e
 r : rgC e
 d : dpt nodeB e <= 12
structure rdR (r : D) : Prop where
 s : isR nodeB r
 o : okR r = true
 g : rgC (rE r)
end GP
namespace GP
open Go Go.Proofs
set_option maxRecDepth 100000
structure rdP (F G : Nat) (p : D) : Prop where
 s : isPo nodeB p
 o : okP p = true
 g : rgC (pE p)
 r : ∀ r ∈ pRs p,rgC (rE r) /\ (rDu r).length + (rAd r).length < F
 l : (pRs p).length < G
structure rdD (d : D) : Prop where
 s : isDoc nodeB d
 o : okD d = true
 f : (dFs d).length < 1000
 l : (dPs d).length < 1000
 g : ∀ p ∈ dPs d,rgC (pE p) /\ (pRs p).length < 1000 /\ ∀ r ∈ pRs p,rgC (rE r) /\ (rDu r).length + (rAd r).length < 1000
end GP
namespace GP
open Go Go.Proofs
set_option maxRecDepth 100000
structure Step2 (toks : List D) (st st2 : St) : Prop where
 ok : (st.2 = 0 ∨ st.2 = 2 ∨ st.2 = 11) /\ st.1 <= toks.length -> (st2.2 = 0 ∨ st2.2 = 2 ∨ st2.2 = 11) /\ st2.1 <= toks.length
 stuck : st.2 ≠ 0 -> st2 = st
 adv : st.2 = 0 -> st.1 <= st2.1
section
variable {toks : List D} {a b c : St}
theorem Step.two (h : Step toks a b) : Step2 toks a b:=⟨fun q=>by
  rcases q with ⟨q | q | q,q2⟩
  ·obtain ⟨k1,k2⟩:=h.ok ⟨.inl q,q2⟩
   exact ⟨k1.imp_right .inl,k2⟩
  ·obtain ⟨k1,k2⟩:=h.ok ⟨.inr q,q2⟩
   exact ⟨k1.imp_right .inl,k2⟩
  ·rw [h.stuck (by omega)];exact ⟨.inr (.inr q),q2⟩,h.stuck,h.adv⟩
theorem Step2.refl (toks : List D) (a : St) : Step2 toks a a:=⟨fun h=>h,fun _=>rfl,fun _=>Nat.le_refl _⟩
theorem Step2.trans (h : Step2 toks a b) (k : Step2 toks b c) : Step2 toks a c :=
 ⟨fun q=>k.ok (h.ok q),fun q=>by have:=h.stuck q;rw [this] at k;rw [k.stuck q],fun q=>by
  have h1:=h.adv q
  by_cases hb : b.2 = 0
  ·exact Nat.le_trans h1 (k.adv hb)
  ·rw [k.stuck hb];exact h1⟩
theorem Step2.e0 (h : Step2 toks a b) (hb : b.2 = 0) : a.2 = 0:=by
 by_cases ha : a.2 = 0
 ·exact ha
 ·rw [h.stuck ha] at hb;exact hb
def mu (toks : List D) (st : St) : Nat:=if st.2 = 0 then toks.length - st.1 + 1 else 0
theorem Step2.mu (h : Step2 toks a b) : mu toks b <= mu toks a:=by
 unfold GP.mu
 by_cases hb : b.2 = 0
 ·have ha:=h.e0 hb
  rw [if_pos hb,if_pos ha]
  have:=h.adv ha;omega
 ·rw [if_neg hb];omega
end
section
variable {toks : List D}
end
end GP
namespace GP
open Go Go.Proofs
set_option maxRecDepth 100000
theorem slc_take {sz k : Nat} {xs : List D} (hk : k <= xs.length) (hc : xs.all (fun d=>d.cells.length == sz) = true) : slc sz (some ((0 : Nat) : Int)) (some ((k : Nat) : Int)) (.sl none xs) = some (.sl none (xs.take k)):=by
 rw [slc_sl,if_pos ⟨by omega,by omega,by omega,hc⟩]
 simp [subList]
theorem slc_drop {sz k : Nat} {xs : List D} (hk : k <= xs.length) (hc : xs.all (fun d=>d.cells.length == sz) = true) : slc sz (some ((k : Nat) : Int)) (some ((xs.length : Nat) : Int)) (.sl none xs) = some (.sl none (xs.drop k)):=by
 rw [slc_sl,if_pos ⟨by omega,by omega,by omega,hc⟩]
 simp [subList]
theorem drop_tok {xs : List D} (ht : xs.all tokB = true) (K : Nat) : (xs.drop K).all tokB = true:=by
 rw [List.all_eq_true] at ht ⊢
 exact fun x hx=>ht x (List.mem_of_mem_drop hx)
theorem tok_fit {xs : List D} (ht : xs.all tokB = true) : xs.all (fit 3) = true:=by
 rw [List.all_eq_true] at ht ⊢
 intro x hx
 obtain ⟨k,s,n,e,_⟩:=tokB_elim (ht x hx)
 rw [e];rfl
end GP
namespace GP
open Go Go.Proofs
set_option maxRecDepth 100000
theorem slc_mid {sz a b : Nat} {xs : List D} (h1 : a <= b) (h2 : b <= xs.length) (h3 : 0 < a) (hc : xs.all (fun d=>d.cells.length == sz) = true) : slc sz (some ((a : Nat) : Int)) (some ((b : Nat) : Int)) (.sl none xs) = some (.sl none ((xs.take b).drop a)):=by
 rw [slc_sl,if_pos ⟨by omega,by omega,by omega,hc⟩]
 simp [subList]
def pB (x : D) : Bool:=(tk x == 5) && (ts x == [40])
def opL (X : List D) : Nat -> List D
 | 0=>[]
 | i + 1=>opL X i ++ if pB (X.getD i .top) then [.int .i64 (i : Int)] else []
theorem opL_succ {X : List D} {i : Nat} {x : D} (h : X[i]? = some x) : opL X (i + 1) = opL X i ++ if pB x then [.int .i64 (i : Int)] else []:=by
 have e : X.getD i .top = x:=by rw [List.getD_eq_getElem?_getD,h];rfl
 simp only [opL,e]
theorem opL_mem {X : List D} : ∀ {i : Nat} {d : D},d ∈ opL X i -> ∃ j,j < i /\ d = .int .i64 (j : Int) /\ pB (X.getD j .top) = true
 | 0,_,h=>by simp [opL] at h
 | i + 1,d,h=>by
  simp only [opL,List.mem_append] at h
  rcases h with h | h
  ·obtain ⟨j,h1,h2⟩:=opL_mem h
   exact ⟨j,by omega,h2⟩
  ·split at h
   ·simp only [List.mem_singleton] at h
    exact ⟨i,by omega,h,by assumption⟩
   ·cases h
theorem opL_len {X : List D} : ∀ (i : Nat),(opL X i).length <= i
 | 0=>by simp [opL]
 | i + 1=>by
  have:=opL_len (X:=X) i
  simp only [opL,List.length_append]
  split <;> simp <;> omega
theorem opL_fit {X : List D} (i : Nat) : (opL X i).all (fit 1) = true:=by
 rw [List.all_eq_true]
 intro d hd
 obtain ⟨j,_,rfl,_⟩:=opL_mem hd
 rfl
theorem brS_bd : ∀ (l : List D),-(l.length : Int) <= brS l /\ brS l <= l.length
 | []=>by simp [brS]
 | x :: l=>by
  have:=brS_bd l
  have:=brI_le x
  simp only [brS,List.length_cons]
  omega
noncomputable abbrev xs12 (n : Nat) : Fs:=[(33,φawake),(39,φsizeE n),(25,φfewE n),(21,φfmR n),(22,φdpt nodeB),(34,φXpr n),(19,φparse),(20,φsmE nodeB)]
set_option maxHeartbeats 16000000 in
theorem tail12 {n : Nat} {e : D} (hN : isE nodeB e) (hg : GoodE e) (htk : (tkC false e).all tokB = true) (hl : (tkC false e).length <= 2 ^ 30) {o i : Nat} (hoi : o < i) (hi : i < (tkC false e).length) (H : Hp) (T' : Tk) (t : Nat -> D) (t2 : t 2 = .ptr H.length 0) (t5 : t 5 = .sl none (tkC false e)) (t8 : t 8 = .int .i64 (o : Int)) (t9 : t 9 = .int .i64 (i : Int)) :
  W (XL (xs12 n)) (C.tl 9 c12) (endQ [.inl 4] (fun r _ _=>r = .bool true)) ⟨t,H ++ [.row e.cells],T'⟩:=by
 have hX:=XL_mono (xs12 n)
 have hc:=tok_cells htk
 have s1:=slc_take (sz:=3) (k:=o) (by omega) hc
 have s2:=slc_mid (sz:=3) (a:=o + 1) (b:=i) (by omega) (by omega) (by omega) hc
 have s3:=slc_drop (sz:=3) (k:=i + 1) (by omega) hc
 have f1:=take_tok htk o
 have f2:=drop_tok (take_tok htk i) (o + 1)
 have f3:=drop_tok htk (i + 1)
 have l1 : ((tkC false e).take o).length = o:=by rw [List.length_take];omega
 have l2 : (((tkC false e).take i).drop (o + 1)).length = i - (o + 1):=by rw [List.length_drop,List.length_take];omega
 have l3 : ((tkC false e).drop (i + 1)).length = (tkC false e).length - (i + 1):=List.length_drop
 have hlaw:=fun (cut : List D) (h1 : cut.all tokB = true) (h2 : cut.length + 2 = (tkC false e).length) (h3 : cut.length <= 600) h0=>cut_law hN hg h1 h2 h3 h0
 have d0 : ((i : Int) == (o : Int)) = false:=by
  have : (i : Int) ≠ o:=by omega
  simpa using this
 have ee:=isE_erase hN
 obtain ⟨q1,q2,q3,q4⟩:=isE_cells hN
 obtain ⟨X,hXX⟩ : ∃ z,tkC false e = z:=⟨_,rfl⟩
 rw [hXX] at s1 s2 s3 f1 f2 f3 l1 l2 l3 t5 hlaw hi hl
 have z0 : ((0 : Nat) : Int) = 0:=rfl
 rw [z0] at s1
 obtain ⟨A,hA⟩ : ∃ z,X.take o = z:=⟨_,rfl⟩
 obtain ⟨B,hB⟩ : ∃ z,(X.take i).drop (o + 1) = z:=⟨_,rfl⟩
 obtain ⟨D3,hD3⟩ : ∃ z,X.drop (i + 1) = z:=⟨_,rfl⟩
 rw [hA] at s1 f1 l1
 rw [hB] at s2 f2 l2
 rw [hD3] at s3 f3 l3
 have w1:=wrap_succ o (by omega)
 have w2:=wrap_succ i (by omega)
 have g1:=tok_fit f1
 have g2:=tok_fit f2
 have g3:=tok_fit f3
 have hA0 : accT 3 T' [] .nils T':=accT.nil 3 T' (ExtT.refl T')
 simp +contextual (maxSteps:=10000000) only [c12,t2,t5,t8,t9,d0,s1,go_sem]
 refine app_accT (bytes:=32) A hA0 g1 rfl (by simp;omega) (by simp;omega) fun d2 T2 hA2=>?_
 simp +contextual (maxSteps:=10000000) only [t2,t5,t8,t9,w1,s2,go_sem]
 refine app_accT (bytes:=32) B hA2 g2 (by simpa using g1) (by simp;omega) (by simp;omega) fun d3 T3 hA3=>?_
 simp +contextual (maxSteps:=10000000) only [t2,t5,t8,t9,w2,s3,go_sem]
 refine app_accT (bytes:=32) D3 hA3 g3 (by simp only [List.nil_append,List.all_append,g1,g2];rfl) (by simp;omega) (by simp;omega) fun d4 T4 hA4=>?_
 have hM : ([] ++ A ++ B ++ D3).all tokB = true:=by simp only [List.nil_append,List.all_append,f1,f2,f3];rfl
 have hMl : ([] ++ A ++ B ++ D3).length + 2 = X.length:=by simp only [List.nil_append,List.length_append];omega
 obtain ⟨M,hMM⟩ : ∃ z,[] ++ A ++ B ++ D3 = z:=⟨_,rfl⟩
 rw [hMM] at hA4 hM hMl
 have eM:=toksB_erase hM
 have hsl : ∃ m,d4.erase = sliceD m M:=by
  rcases hA4.2 with ⟨rfl,rfl⟩ | ⟨i,_,rfl,_⟩
  ·exact ⟨true,rfl⟩
  ·exact ⟨false,by simp [D.erase,eM,sliceD]⟩
 obtain ⟨m,hm⟩:=hsl
 have pp : φparse [sliceD m M] = some (.tup [(parseE M).1,.int .i64 ((parseE M).2.1 : Nat),.int .i64 (parseE M).2.2]):=φparse_of hM (by omega)
 obtain ⟨MD,hMD⟩ : ∃ z,sliceD m M = z:=⟨_,rfl⟩
 rw [hMD] at hm pp
 by_cases h600 : 600 < M.length
 ·have ep : parseE M = (zeroE,0,13):=by unfold parseE;rw [if_pos h600]
  rw [ep] at pp
  simp only [zeroE] at pp
  rw [z0] at pp
  have z1 : ((13 : Int) != 0) = true:=rfl
  simp +contextual (maxSteps:=10000000) only [hm,pp,z1,t2,go_sem]
 ·by_cases h0 : (parseE M).2.2 = 0
  ·obtain ⟨y,e1,e2,e3,e4⟩:=hlaw M hM hMl (by omega) h0
   rw [e1,e2,h0,z0] at pp
   have z1 : ((0 : Int) != 0) = false:=rfl
   have p4 : φsmE nodeB [y,e] = some (.bool false):=by simp only [φsmE];rw [if_pos ⟨e3,hN⟩,e4]
   have ey:=isE_erase e3
   obtain ⟨r1,r2,r3,r4⟩:=isE_cells e3
   simp +contextual (maxSteps:=10000000) only [hm,pp,z1,t2,ee,q1,q2,q3,q4,ey,r1,r2,r3,r4,p4,go_sem]
  ·obtain ⟨e1,e2,e3⟩:=parseE_err M (by omega) h0
   rw [e1] at pp
   obtain ⟨b,hb⟩ : ∃ a,(parseE M).2.1 = a:=⟨_,rfl⟩
   rw [hb] at pp e2
   rcases e2 with e2 | ⟨e2,ea⟩
   ·rw [e2] at pp
    simp only [zeroE] at pp
    have z1 : ((2 : Int) != 0) = true:=rfl
    simp +contextual (maxSteps:=10000000) only [hm,pp,z1,t2,go_sem]
   ·rw [e2,ea,z0] at pp
    simp only [zeroE] at pp
    have z1 : ((11 : Int) != 0) = true:=rfl
    simp +contextual (maxSteps:=10000000) only [hm,pp,z1,t2,go_sem]
end GP
