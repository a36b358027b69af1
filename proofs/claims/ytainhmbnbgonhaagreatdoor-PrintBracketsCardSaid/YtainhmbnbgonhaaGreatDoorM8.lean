import Derived.Test.YtainhmbnbgonhaaGreatDoorM5
import Derived.Test.YtainhmbnbgonhaaGreatDoorM7
set_option linter.unusedSimpArgs false
set_option linter.unnecessarySimpa false
namespace GP
open Go Go.Proofs
set_option maxRecDepth 100000
@[reducible] def anyG (P : Program) : HasG P:=⟨fun _ _=>True,fun _ _ h=>h⟩
theorem leaf_cl {x : D} (h : x.isV = true) (hl : leaf x = true) : x.cl 0 0 = true:=by
 obtain ⟨k,i,s,n,l,rfl,_⟩:=isV_elim h
 simp only [leaf,vl_mk,List.isEmpty_iff] at hl
 subst hl
 rcases sliceD_cases n [] with ⟨e,_⟩ | e <;> simp [mkV,e,D.cl,D.clL]
theorem sortV_snd [hI : HasG Tryz.prog] {xs rest : List D} {H : Hp} {o cap : Nat} {T : Tk} {Q : Post} (ho : H[o]? = some (.row (flatD xs ++ rest))) (hv : ∀ x ∈ xs,x.isV = true) (h1 : good1 xs) (hn : 0 < xs.length) (hl : xs.length <= 2 ^ 40)
  (hQ : ∀ ys,ys.Perm xs -> ys.Pairwise (fun a b=>¬ ord0 b a < 0) -> Q (.tup []) (H.set o (.row (flatD ys ++ rest))) T) : Snd Tryz.prog 248 [.ms true 4 o 0 xs.length cap,.fn 64 [] []] H T Q:=by
 have hag:=isV_agg hv
 have hlf : ∀ x ∈ xs,leaf x = true:=fun x hx=>by
  have:=plain_leaf (h1 x hx)
  simp [leaf,List.length_eq_zero_iff.1 this]
 have hch : chunk true 4 xs.length ((flatD xs ++ rest).drop 0) = xs:=by rw [List.drop_zero];exact chunk_flat xs rest hag
 have e248 : ∀ args w,(callFunc 248 args).run Tryz.prog w = .ok (.enter 248 args) w:=enters_of Tryz.func248 (by kernel_rfl) rfl
 have e64 : ∀ args w,(callFunc 64 args).run Tryz.prog w = .ok (.enter 64 args) w:=enters_of Tryz.func64 (by kernel_rfl) rfl
 have an : ∀ x ∈ xs,∀ y ∈ xs,ord0 x y = singleD x y:=fun x hx y hy=>ord0_single (h1 x hx) (h1 y hy)
 refine sort_snd (inst:=hI) (P:=Tryz.prog) (f:=248) (g:=64) (ρ:=Tryz.sortVal_ren) Tryz.sortVal 4 Tryz.isAgg29 Tryz.sizeOf29 rfl e248 e64 (anyG _) (fun _ _=>trivial) (off:=0) (cap:=cap) ho hn (by omega) (by simp [hag.flat]) ord0 ?_ ?_ ?_ ?_ ?_ ?_
 ·rw [hch];exact fun x hx=>leaf_cl (hv x hx) (hlf x hx)
 ·rw [hch]
  intro x hx y hy
  have p:=ord_leaf (hv x hx) (hv y hy) (hlf x hx) (hlf y hy)
  exact @ok64a (anyG _) _ _ p [x,y] (erase_of_isV (by simp [hv x hx,hv y hy])) [] [] _ rfl
 ·rw [hch];intro x hx;rw [an x hx x hx,single_self];omega
 ·rw [hch];intro x hx y hy z hz a b
  rw [an x hx y hy] at a;rw [an y hy z hz] at b;rw [an x hx z hz]
  exact (single_tr x y z).l1 a (by omega)
 ·rw [hch];intro x hx y hy z hz a b
  rw [an x hx y hy] at a;rw [an y hy z hz] at b;rw [an x hx z hz]
  have t1:=single_tr z y x
  have a1:=single_anti x y;have a2:=single_anti y z;have a3:=single_anti x z
  have:=t1.le (by omega) (by omega)
  omega
 ·rw [hch]
  intro ys hp hs
  have hl2 : (flatD ys).length = xs.length * 4:=by rw [(hag.sub fun y hy=>hp.mem_iff.1 hy).flat,hp.length_eq]
  have:=hQ ys hp hs
  rw [Nat.zero_add,List.take_zero,List.nil_append,List.drop_left' hag.flat]
  exact this
def isNil : D -> Bool
 | .nils=>true
 | _=>false
def φBag : List D -> Option D
 | [l]=>if isSl l = true /\ D.isVs (elems l) = true /\ (elems l).length <= 2 ^ 40 /\ (isNil l || !(elems l).isEmpty) = true then some (.tup [(bagV (elems l)).1,.int .i64 (bagV (elems l)).2]) else none
 | _=>none
theorem bag_crs {zs ws : List D} (h : zs.map can = ws) (hv : ∀ z ∈ zs,z.isV = true /\ leaf z = true) : Crs (.sl none zs) (.sl none ws):=by
 subst h
 intro c v hr
 cases hr with
 | sl _ _ a cap sz us hlen hb hsz h1 ha hs hM hr htl ht =>
  have hcell : ∀ (i : Nat) (hi : i < zs.length),∃ k j s l,zs[i] = .agg [.int .i64 k,.int .i64 j,.str s,l] /\ (l = .nils ∨ l = .sl none []) /\ can zs[i] = .agg [.int .i64 k,.int .i64 j,.str s,.sl none []]:=by
   intro i hi
   obtain ⟨hz,hl⟩:=hv _ (List.getElem_mem hi)
   obtain ⟨k,j,s,n,l,e,_⟩:=isV_elim hz
   rw [e] at hl
   simp only [leaf,vl_mk,List.isEmpty_iff] at hl
   subst hl
   refine ⟨k,j,s,sliceD n [],by rw [e];rfl,?_,by rw [e];simp [can,vk_mk,vi_mk,vs_mk];rfl⟩
   cases n
   ·exact .inr rfl
   ·exact .inl rfl
  have:=Rep.sl (c:=c) none (zs.map can) a cap sz us (by simpa using hlen) (by simpa using hb) ?_ ?_ ?_ ?_ ?_ ?_ (fun τ h=>by cases h) (fun τ h=>by cases h)
  ·simpa using this
  ·intro x hx
   obtain ⟨z,hz,rfl⟩:=List.mem_map.1 hx
   obtain ⟨i,hi,rfl⟩:=List.getElem_of_mem hz
   obtain ⟨k,j,s,l,e1,_,e2⟩:=hcell i hi
   have:=hsz _ (List.getElem_mem hi)
   rw [e1] at this;rw [e2];simpa [D.cells] using this
  ·intro x hx y hy
   obtain ⟨z,hz,rfl⟩:=List.mem_map.1 hx
   obtain ⟨i,hi,rfl⟩:=List.getElem_of_mem hz
   obtain ⟨k,j,s,l,e1,_,e2⟩:=hcell i hi
   rw [e2] at hy
   simp only [D.cells,List.mem_cons,List.not_mem_nil,or_false] at hy
   rcases hy with rfl | rfl | rfl | rfl <;> rfl
  ·intro hne;exact ha (by intro e;subst e;exact hne rfl)
  ·intro hne;exact hs (by intro e;subst e;exact hne rfl)
  ·intro i hi;exact hM i (by simpa using hi)
  ·intro i hi j hj
   have hi' : i < zs.length:=by simpa using hi
   obtain ⟨k,q,s,l,e1,e3,e2⟩:=hcell i hi'
   have hc : (zs.map can)[i] = .agg [.int .i64 k,.int .i64 q,.str s,.sl none []]:=by rw [List.getElem_map];exact e2
   have hj' : j < (zs[i].cells).length:=by rw [e1];rw [hc] at hj;exact hj
   have h0:=hr i hi' j hj'
   have hjn : j < 4:=by rw [hc] at hj;exact hj
   have ez : ∀ (l' : List D) (h : zs[i].cells = l') (hj2 : j < l'.length),zs[i].cells[j] = l'[j]:=fun l' h hj2=>by subst h;rfl
   have ec : ∀ (l' : List D) (h : ((zs.map can)[i]).cells = l') (hj2 : j < l'.length),((zs.map can)[i]).cells[j] = l'[j]:=fun l' h hj2=>by subst h;rfl
   rw [ez [.int .i64 k,.int .i64 q,.str s,l] (by rw [e1];rfl) hjn] at h0
   rw [ec [.int .i64 k,.int .i64 q,.str s,.sl none []] (by rw [hc];rfl) hjn]
   match j,hjn,h0 with
   | 0,_,h0=>exact h0
   | 1,_,h0=>exact h0
   | 2,_,h0=>exact h0
   | 3,_,h0 =>
    simp only [List.getElem_cons_succ,List.getElem_cons_zero] at h0 ⊢
    obtain ⟨u,hu⟩ : ∃ u,us i 3 = u:=⟨_,rfl⟩
    rw [hu] at h0 ⊢
    rcases e3 with rfl | rfl
    ·cases h0
     exact Rep.sl none [] none 0 0 (fun _ _=>undef) (by simp) (by simp) (by simp) (by simp) (by simp) (by simp) (by simp) (by simp) (by simp) (by simp)
    ·exact h0
theorem crs_tup2 {a b : D} (h : Crs a b) (e : Int) : Crs (.tup [a,.int .i64 e]) (.tup [b,.int .i64 e]):=by
 intro c v hr
 cases hr with
 | tup _ us hl hr =>
  match us,hl with
  | [x,y],_ =>
   refine .tup _ _ rfl fun i hi hi'=>?_
   match i,hi with
   | 0,_=>exact h _ _ (hr 0 (by simp) (by simp))
   | 1,_=>exact hr 1 (by simp) (by simp)
theorem crs_bag {a b : D} (h : Crs a b) (ho : b.one = true) (k i : Int) (s : List UInt8) : Crs (.agg [.int .i64 k,.int .i64 i,.str s,a]) (.agg [.int .i64 k,.int .i64 i,.str s,b]):=by
 intro c v hr
 cases hr with
 | agg _ us hl h1 hr =>
  match us,hl with
  | [x,y,z,u],_ =>
   refine .agg _ _ rfl (fun d hd=>?_) fun j hi hi'=>?_
   ·simp only [List.mem_cons,List.not_mem_nil,or_false] at hd
    rcases hd with rfl | rfl | rfl | rfl <;> first | rfl | exact ho
   ·match j,hi with
    | 0,_=>exact hr 0 (by simp) (by simp)
    | 1,_=>exact hr 1 (by simp) (by simp)
    | 2,_=>exact hr 2 (by simp) (by simp)
    | 3,_=>exact h _ _ (hr 3 (by simp) (by simp))
theorem crs_nils : Crs .nils (.sl none []):=by
 intro c v hr
 cases hr
 exact Rep.sl none [] none 0 0 (fun _ _=>undef) (by simp) (by simp) (by simp) (by simp) (by simp) (by simp) (by simp) (by simp) (by simp) (by simp)
theorem clone_nil [HasG Tryz.prog] {H : Hp} {T : Tk} {Q : Post} (k : Q .nils H T) : Snd Tryz.prog 247 [.nils] H T Q:=by
 refine call_of fn247 (by simp) (W_mono (X:=XL []) (Ok.X .nil) (fun _ _ h=>h) ?_)
 have e1 : Option.map (fun b=>D.bool b) (eq1D Tq.slc .nils D.nils) = some (.bool true):=rfl
 simp +contextual (maxSteps:=10000000) only [c247,e1,go_sem]
 exact k
theorem compact_nil [HasG Tryz.prog] {H : Hp} {T : Tk} {Q : Post} (k : Q .nils H T) : Snd Tryz.prog 249 [.nils,.fn 250 [] []] H T Q:=by
 refine call_of fn249 (by simp) (W_mono (X:=XL []) (Ok.X .nil) (fun _ _ h=>h) ?_)
 have d : decide ((0 : Int) < 2) = true:=by decide
 simp +contextual (maxSteps:=10000000) only [c249,d,go_sem]
 exact k
theorem sort_nil [HasG Tryz.prog] {H : Hp} {T : Tk} {Q : Post} (k : Q (.tup []) H T) : Snd Tryz.prog 248 [.nils,.fn 64 [] []] H T Q:=ok248 _ _ (show φsort0 [.nils,.fn 64 [] []] = some (.tup []) from rfl) _ (by simp [D.eraseL,D.erase]) H T Q k
theorem bagR_cl (xs : List D) (h : good1 xs) : (mkV 5 0 [] false (bagR xs)).cl 0 0 = true:=by
 have : D.clL 0 0 (bagR xs) = true:=clL_of fun d hd=>by
  obtain ⟨x,_,rfl⟩:=((bagR_spec h).2 d).1 hd
  rfl
 show D.clL 0 0 [.int .i64 5,.int .i64 0,.str [],sliceD false (bagR xs)] = true
 rcases sliceD_cases false (bagR xs) with ⟨e,_⟩ | e <;> simp [e,D.clL,D.cl,this]
theorem rdAt_set {B : Hp} {o : Nat} {x : Ob} (h : B[o]? = some x) (X : List D) (L : Hp) : rdAt (B.set o (.row X) ++ L) (.ptr o 0) = some X:=by
 have hlB : o < B.length:=by
  rcases Nat.lt_or_ge o B.length with h' | h'
  ·exact h'
  ·rw [List.getElem?_eq_none h'] at h;cases h
 simp only [rdAt]
 rw [List.getElem?_append_left (by simpa using hlB),List.getElem?_set_self hlB]
 rfl
theorem rdAt_set0 {B : Hp} {o : Nat} {x : Ob} (h : B[o]? = some x) (X : List D) : rdAt (B.set o (.row X)) (.ptr o 0) = some X:=by
 have:=rdAt_set h X []
 rwa [List.append_nil] at this
set_option maxHeartbeats 8000000 in
theorem ok246 [HasG Tryz.prog] : OkAt Tryz.prog 246 φBag:=by
 have hM : MonoH []:=.nil
 have u0 : ([247,248,249] : List FuncId).contains 129 = false:=rfl
 have u1 : ([247,248,249] : List FuncId).contains 247 = true:=rfl
 have u2 : ([247,248,249] : List FuncId).contains 248 = true:=rfl
 have u3 : ([247,248,249] : List FuncId).contains 249 = true:=rfl
 refine okFX_of (X:=XU Tryz.prog [247,248,249] [(129,φFormed)] [] []) (XU.X (.cons ok129 .nil) .nil .nil) fn246 fun args r h=>?_
 unfold φBag at h
 split at h
 ·rename_i l
  split at h
  ·rename_i hc
   obtain ⟨h1,h2,h3,h4⟩:=hc
   injection h with h;subst h
   have hv:=isVs_iff.1 h2
   have eL:=erase_of_isV hv
   obtain ⟨n,hl⟩:=isSl_elim h1
   obtain ⟨xs,hxs⟩ : ∃ xs,elems l = xs:=⟨_,rfl⟩
   rw [hxs] at h3 h4 hv eL hl ⊢
   subst hl
   clear h1 h2 hxs
   have hcl : ((bagV xs).1).cl 0 0 = true:=by
    unfold bagV
    split
    ·rfl
    split
    ·rfl
    split
    ·rfl
    ·rename_i g1 g2 _
     simp only [Bool.not_eq_false] at g1
     refine bagR_cl xs fun x hx=>?_
     have f:=List.all_eq_true.1 g1 x hx
     have k : ¬ vk x = 5:=fun k=>g2 (List.any_eq_true.2 ⟨x,hx,by simp [badB,k]⟩)
     unfold formedV at f
     rwa [if_pos (by simpa using k)] at f
   refine ⟨by simp,by simp [D.cl,D.clL,hcl],fun H T=>?_⟩
   simp +contextual (maxSteps:=10000000) only [c246,go_sem]
   refine W_for (fun i s'=>s'.t 0 = sliceD n xs /\ s'.t 2 = .ptr H.length 0 /\ s'.t 9 = sliceD n xs /\ s'.t 10 = .int .i64 xs.length /\ s'.t 11 = .int .i64 (i : Nat) /\ Ext (H ++ [.row [.int .i64 0,.int .i64 0,.str [],.nils]]) s'.H /\ s'.T = T /\ i <= xs.length /\ ∀ (j : Nat) x,j < i -> xs[j]? = some x -> formedV x = true) xs.length
    ⟨0,by simp [upd,argT],by simp [upd],by simp [upd],by simp [upd],by simp [upd],Ext.refl _,rfl,by omega,fun j x h=>by omega⟩ (fun i s h=>h.2.2.2.2.2.2.2.1) ?_ (XU_mono _ _ _ _)
   rintro i ⟨t,B,T'⟩ ⟨r0,r2,r9,r10,r11,hE,rfl,hi,hF⟩
   simp only at r0 r2 r9 r10 r11 hE
   have b1:=hE.get (o:=H.length) (x:=.row [.int .i64 0,.int .i64 0,.str [],.nils]) (by simp)
   have rS : ∀ (X : List D) (L : Hp),rdAt (B.set H.length (.row X) ++ L) (.ptr H.length 0) = some X:=rdAt_set b1
   by_cases hlt : i < xs.length
   ·have d1 : decide (((i : Nat) : Int) < xs.length) = true:=by simp only [decide_eq_true_eq];omega
    obtain ⟨k1,i1,s1,n1,l1,e1,hs1,hx1,hV1,eL1⟩:=get_isV hv hlt
    have iv : (mkV k1 i1 s1 n1 l1).isV = true:=hv _ (List.mem_of_getElem? e1)
    have pf : φFormed [mkV k1 i1 s1 n1 l1] = some (.bool (formedV (mkV k1 i1 s1 n1 l1))):=by simp only [φFormed];rw [if_pos iv]
    rcases tf (formedV (mkV k1 i1 s1 n1 l1)) with g | g
    ·rw [g] at pf
     have hF' : ∀ (j : Nat) x,j < i + 1 -> xs[j]? = some x -> formedV x = true:=fun j x hj hx=>by
      rcases Nat.lt_or_ge j i with h' | h'
      ·exact hF j x h' hx
      ·have : j = i:=by omega
       subst this;rw [e1] at hx;injection hx with hx;rw [<- hx];exact g
     simp only [mkV] at pf
     simp +contextual (maxSteps:=10000000) only [r0,r2,r9,r10,r11,d1,e1,mkV,pf,u0,u1,u2,u3,XU_eq,pcallU hM,eL1,wrap_succ i (by omega),go_sem]
     exact ⟨hE.app _,by omega,hF'⟩
    ·rw [g] at pf
     simp only [mkV] at pf
     have hb : bagV xs = (zeroV,1):=by
      unfold bagV
      rw [if_pos (Bool.eq_false_iff.2 fun h=>by rw [List.all_eq_true.1 h _ (List.mem_of_getElem? e1)] at g;cases g)]
     simp +contextual (maxSteps:=10000000) only [r0,r2,r9,r10,r11,d1,e1,mkV,pf,u0,u1,u2,u3,XU_eq,pcallU hM,eL1,storeK_Ea b1,rS,go_sem]
     rw [hb]
     exact leavesE_end (.refl _) ((hE.pre.set (Nat.le_refl _) _).app _) (ExtT.refl _)
   ·have d1 : decide (((i : Nat) : Int) < xs.length) = false:=by simp only [decide_eq_false_iff_not];omega
    have hAll : xs.all formedV = true:=List.all_eq_true.2 fun x hx=>by
     obtain ⟨j,hj,rfl⟩:=List.getElem_of_mem hx
     exact hF j _ (by omega) (by rw [List.getElem?_eq_getElem hj])
    clear hF
    have r0':=r0
    have r2':=r2
    simp +contextual (maxSteps:=10000000) only [r0,r2,r9,r10,r11,d1,u1,u2,u3,XU_eq,go_sem]
    clear r0 r2 r9 r10 r11 d1 hlt hi b1 rS
    refine W_for (fun i s'=>s'.t 0 = sliceD n xs /\ s'.t 2 = .ptr H.length 0 /\ s'.t 20 = sliceD n xs /\ s'.t 21 = .int .i64 xs.length /\ s'.t 22 = .int .i64 (i : Nat) /\ Ext (H ++ [.row [.int .i64 0,.int .i64 0,.str [],.nils]]) s'.H /\ s'.T = T' /\ i <= xs.length /\ ∀ (j : Nat) x,j < i -> xs[j]? = some x -> badB xs x = false) xs.length
     ⟨0,by simp [upd,r0'],by simp [upd,r2'],by simp [upd],by simp [upd],by simp [upd],hE,rfl,by omega,fun j x h=>by omega⟩ (fun i s h=>h.2.2.2.2.2.2.2.1) ?_ (XU_mono _ _ _ _)
    clear r0' r2' hE
    rintro i ⟨t,B,T2⟩ ⟨r0,r2,r9,r10,r11,hE,rfl,hi,hF⟩
    simp only at r0 r2 r9 r10 r11 hE
    have b1:=hE.get (o:=H.length) (x:=.row [.int .i64 0,.int .i64 0,.str [],.nils]) (by simp)
    have rS : ∀ (X : List D) (L : Hp),rdAt (B.set H.length (.row X) ++ L) (.ptr H.length 0) = some X:=rdAt_set b1
    by_cases hlt : i < xs.length
    ·have d1 : decide (((i : Nat) : Int) < xs.length) = true:=by simp only [decide_eq_true_eq];omega
     obtain ⟨k1,i1,s1,n1,l1,e1,hs1,hx1,hV1,eL1⟩:=get_isV hv hlt
     obtain ⟨k0,i0,s0,n0,l0,e0,_⟩:=get_isV hv (show 0 < xs.length by omega)
     have fk:=vk0_get e0
     have hbd : badB xs (mkV k1 i1 s1 n1 l1) = ((k1 == 0) || (k1 == 5) || (k1 != k0)):=by simp only [badB,vk_mk,fk]
     have hbad : badB xs (mkV k1 i1 s1 n1 l1) = true -> bagV xs = (zeroV,6):=fun h=>by
      unfold bagV
      rw [if_neg (by rw [hAll];decide),if_pos]
      exact List.any_eq_true.2 ⟨_,List.mem_of_getElem? e1,h⟩
     have hgood : badB xs (mkV k1 i1 s1 n1 l1) = false -> ∀ (j : Nat) x,j < i + 1 -> xs[j]? = some x -> badB xs x = false:=fun g j x hj hx=>by
      rcases Nat.lt_or_ge j i with h' | h'
      ·exact hF j x h' hx
      ·have : j = i:=by omega
       subst this;rw [e1] at hx;injection hx with hx;rw [<- hx];exact g
     rw [hbd] at hbad hgood
     simp +contextual (maxSteps:=10000000) only [r0,r2,r9,r10,r11,d1,e1,e0,mkV,u0,u1,u2,u3,XU_eq,eL1,wrap_succ i (by omega),storeK_Ea b1,rS,go_sem]
     have fin : bagV xs = (zeroV,6) -> LeavesE (D.tup [(bagV xs).fst,D.int IntKind.i64 (bagV xs).snd]) H T2 (D.tup [D.agg [D.int IntKind.i64 0,D.int IntKind.i64 0,D.str [],D.nils],D.int IntKind.i64 6])
       (List.set B (List.length H) (Ob.row [D.int IntKind.i64 0,D.int IntKind.i64 0,D.str [],D.nils]) ++ [Ob.row [D.int IntKind.i64 k1,D.int IntKind.i64 i1,D.str s1,sliceD n1 l1]]) T2:=fun h=>by
      rw [h]
      exact leavesE_end (.refl _) ((hE.pre.set (Nat.le_refl _) _).app _) (ExtT.refl _)
     exact ⟨fun q=>fin (hbad (by rw [q];rfl)),fun q1=>⟨fun q=>fin (hbad (by rw [q];simp)),fun q2=>⟨fun q=>fin (hbad (by rw [q];simp)),fun q3=>⟨hE.app _,by omega,hgood (by rw [q1,q2,q3];rfl)⟩⟩⟩⟩
    ·have d1 : decide (((i : Nat) : Int) < xs.length) = false:=by simp only [decide_eq_false_iff_not];omega
     have hAny : xs.any (badB xs) = false:=List.any_eq_false.2 fun x hx=>by
      obtain ⟨j,hj,rfl⟩:=List.getElem_of_mem hx
      rw [hF j _ (by omega) (by rw [List.getElem?_eq_getElem hj])];decide
     have h1 : good1 xs:=fun x hx=>by
      have f:=List.all_eq_true.1 hAll x hx
      have g : ¬ (badB xs x = true):=List.any_eq_false.1 hAny x hx
      have k : ¬ vk x = 5:=fun k=>g (by simp [badB,k])
      unfold formedV at f
      rwa [if_pos (by simpa using k)] at f
     simp +contextual (maxSteps:=10000000) only [r0,r2,r9,r10,r11,d1,u1,u2,u3,XU_eq,go_sem]
     rcases sliceD_cases n xs with ⟨e,hx⟩ | e
     ·subst hx
      rw [e]
      refine clone_nil ?_
      simp +contextual (maxSteps:=10000000) only [u1,u2,u3,XU_eq,go_sem]
      refine sort_nil ?_
      simp +contextual (maxSteps:=10000000) only [u1,u2,u3,XU_eq,go_sem]
      refine compact_nil ?_
      have d2 : decide ((16 : Int) < 0) = false:=by decide
      simp +contextual (maxSteps:=10000000) only [u1,u2,u3,XU_eq,r2,d2,storeK_E b1,rdAt_set0 b1,go_sem]
      have hb0 : bagV [] = (mkV 5 0 [] false [],0):=rfl
      rw [hb0]
      exact leavesE_end (crs_tup2 (crs_bag crs_nils rfl 5 0 []) 0) (hE.pre.set (Nat.le_refl _) _) (ExtT.refl _)
     ·rw [e] at h4 ⊢
      have hne : xs ≠ []:=by
       rintro rfl
       simp [isNil] at h4
      refine clone_snd hv hne h3 ?_
      simp +contextual (maxSteps:=10000000) only [u1,u2,u3,XU_eq,go_sem]
      have hHB : H.length + 1 <= B.length:=by
       obtain ⟨L,hL⟩:=hE
       rw [hL];simp
      refine sortV_snd (rest:=[]) (by simp) hv h1 (List.length_pos_iff.2 hne) h3 (fun ys hp hs=>?_)
      simp +contextual (maxSteps:=10000000) only [u1,u2,u3,XU_eq,go_sem]
      have hyv : ∀ y ∈ ys,y.isV = true /\ leaf y = true:=fun y hy=>by
       have hm:=hp.mem_iff.1 hy
       have:=plain_leaf (h1 y hm)
       exact ⟨hv y hm,by simp [leaf,List.length_eq_zero_iff.1 this]⟩
      have hcan:=cmpC_bag h1 hp hs
      have hml : (cmpC ys).length = (bagR xs).length:=by rw [<- hcan];simp
      rw [<- hp.length_eq]
      refine compact_snd (ys:=ys) (rest:=[]) (by rw [List.getElem?_set_self (by simp)];simp) hyv (by rw [hp.length_eq];exact h3) (Nat.le_refl _) (fun rest'=>?_)
      obtain ⟨B2,hB2⟩ : ∃ B2,List.set (List.set (B ++ [Ob.dead,Ob.row (flatD xs)]) (B.length + 1) (Ob.row (flatD ys))) (B.length + 1) (Ob.row (flatD (cmpC ys) ++ rest')) = B2:=⟨_,rfl⟩
      have hE2 : Ext (H ++ [.row [.int .i64 0,.int .i64 0,.str [],.nils]]) B2:=by
       rw [<- hB2]
       exact ((hE.app _).set (by simp;omega) _).set (by simp;omega) _
      have hO : B2[B.length + 1]? = some (.row (flatD (cmpC ys) ++ rest')):=by
       rw [<- hB2,List.getElem?_set_self (by simp)]
      rw [hB2]
      have b2:=hE2.get (o:=H.length) (x:=.row [.int .i64 0,.int .i64 0,.str [],.nils]) (by simp)
      have hA1 : bagV xs = if decide ((16 : Int) < (bagR xs).length) then (zeroV,13) else (mkV 5 0 [] false (bagR xs),0):=by
       unfold bagV
       rw [if_neg (by rw [hAll];decide),if_neg (by rw [hAny];decide)]
      rw [<- hml] at hA1
      rcases tf (decide ((16 : Int) < (cmpC ys).length)) with g | g
      ·rw [g,if_pos rfl] at hA1
       simp +contextual (maxSteps:=10000000) only [u1,u2,u3,XU_eq,r2,g,storeK_E b2,rdAt_set0 b2,go_sem]
       rw [hA1]
       exact leavesE_end (.refl _) (hE2.pre.set (Nat.le_refl _) _) (ExtT.refl _)
      ·rw [g,if_neg (by decide)] at hA1
       simp +contextual (maxSteps:=10000000) only [u1,u2,u3,XU_eq,r2,g,storeK_E b2,rdAt_set0 b2,go_sem]
       rw [hA1]
       refine leavesE_fz (B.length + 1) (flatD (cmpC ys) ++ rest') (by rw [List.getElem?_set_ne (by omega)];exact hO) (by omega) ?_ (hE2.pre.set (Nat.le_refl _) _) (ExtT.refl _)
       have hcv : ∀ z ∈ cmpC ys,z.isV = true /\ leaf z = true:=fun z hz=>hyv z ((cmpC_spec (fun a b ha hb=>ord0_single ha hb) (fun y hy=>h1 y (hp.mem_iff.1 hy)) (hs.imp_of_mem fun {a b} ha hb hab=>by rw [<- ord0_single (h1 b (hp.mem_iff.1 hb)) (h1 a (hp.mem_iff.1 ha))];exact hab)).2.1 z hz)
       have hag:=isV_agg (fun z hz=>(hcv z hz).1)
       have hl16 : ¬ ((16 : Int) < (cmpC ys).length):=by simpa using g
       have efz : D.fz (B.length + 1) (flatD (cmpC ys) ++ rest') (.tup [.agg [.int .i64 5,.int .i64 0,.str [],.ms true 4 (B.length + 1) 0 (cmpC ys).length ys.length],.int .i64 0]) = .tup [.agg [.int .i64 5,.int .i64 0,.str [],.sl none (cmpC ys)],.int .i64 0]:=by
        simp only [D.fz,D.fzL]
        rw [if_pos ⟨trivial,by simp [hag.flat],.inl trivial,by omega⟩,List.drop_zero,chunk_flat _ _ hag]
       rw [efz]
       have hne2 : bagR xs ≠ []:=by
        intro e0
        rw [e0] at hml
        cases ys with
        | nil=>exact hne (List.Perm.nil_eq hp).symm
        | cons y ys=>simp [cmpC] at hml
       have es : sliceD false (bagR xs) = .sl none (bagR xs):=by
        rcases sliceD_cases false (bagR xs) with ⟨_,e1⟩ | e1
        ·exact absurd e1 hne2
        ·exact e1
       have em : mkV 5 0 [] false (bagR xs) = .agg [.int .i64 5,.int .i64 0,.str [],.sl none (bagR xs)]:=by simp only [mkV,es]
       rw [em]
       exact crs_tup2 (crs_bag (bag_crs hcan hcv) rfl 5 0 []) 0
  ·cases h
 ·cases h
end GP
namespace GP
open Go Go.Proofs
set_option maxRecDepth 100000
def formI (k : Int) (s : List UInt8) (n : Int) : Bool :=
 if k == 1 then wordB s && (n == 0) else
 if k == 2 then (s == []) && decide (0 <= n) else
 if k == 3 then s.all (fun b=>pText b.toNat) && decide ((s.length : Int) <= 64) && (n == 0) else
 if k == 4 then (s == []) && decide (0 <= n) && decide (n <= 1099511627776) else
 if k == 5 then isSign s && (n == 0) else false
def φform : List D -> Option D
 | [.agg [.int .i64 k,.str s,.int .i64 n]]=>if s.length <= 2 ^ 60 then some (.bool (formI k s n)) else none
 | _=>none
theorem run_len (p : Int -> Bool) : ∀ (s : List UInt8),(((runN p s 0 : Nat) : Int) == (s.length : Int)) = s.all (fun b=>p b.toNat)
 | []=>rfl
 | c :: r=>by
  have ih:=run_len p r
  unfold runN at ih ⊢
  simp only [List.drop_zero] at ih ⊢
  rcases tf (p (c.toNat : Int)) with g | g
  ·rw [runL_cons c r g,List.all_cons,g,Bool.true_and,← ih]
   rw [Bool.eq_iff_iff,beq_iff_eq,beq_iff_eq]
   simp only [List.length_cons];omega
  ·have : runL p (c :: r) = 0:=by unfold runL;simp [g]
   rw [this,List.all_cons,g,Bool.false_and,beq_eq_false_iff_ne]
   simp only [List.length_cons];omega
theorem ok102L : OkAt Tryz.prog 102 φidxS:=okIdxS fn102
theorem ok47L : OkAt Tryz.prog 47 φcontS:=okContS fn47 ok102L
theorem cont_sign (s : List UInt8) : φcontS [.sl none (signsB.map .str),.str s] = some (.bool (isSign s)):=by
 have hL : isLs isTx (.sl none (signsB.map D.str)):=⟨false,signsB.map D.str,rfl,by decide,fun x hx=>by
  obtain ⟨y,hy,rfl⟩:=List.mem_map.1 hx
  have key : ∀ y ∈ signsB,y.length <= 2 ^ 47:=by decide
  exact ⟨y,rfl,key y hy⟩⟩
 simp only [φcontS]
 rw [if_pos hL]
 congr 2
 have e : elems (D.sl none (signsB.map D.str)) = signsB.map D.str:=rfl
 rw [e,List.any_map,isSign_12,signsB_12,List.any_append,Bool.or_comm,List.contains_eq_any_beq,List.contains_eq_any_beq]
 rfl
set_option maxHeartbeats 16000000 in
theorem ok166 : OkAt Tryz.prog 166 φform:=by
 refine ok_of (l:=[(144,φrun),(151,φsigns),(47,φcontS)]) (.cons ok144 (.cons ok151 (.cons ok47L .nil))) fn166 fun args r h=>?_
 unfold φform at h
 split at h
 ·rename_i k s n
  split at h
  ·rename_i hl
   injection h with h;subst h
   refine ⟨by simp,by simp [D.cl],fun H T=>?_⟩
   have p1 : φrun [.str s,.int .i64 0,.fn 199 [] []] = some (.int .i64 (runN pWord s 0 : Nat)):=by
    simp only [φrun];rw [show sorts 199 = some pWord from rfl];simp only;rw [if_pos ⟨by omega,by omega,by omega⟩];rfl
   have p2 : φrun [.str s,.int .i64 0,.fn 200 [] []] = some (.int .i64 (runN pText s 0 : Nat)):=by
    simp only [φrun];rw [show sorts 200 = some pText from rfl];simp only;rw [if_pos ⟨by omega,by omega,by omega⟩];rfl
   have r1:=run_len pWord s
   have r2:=run_len pText s
   have p3 : φsigns [] = some (.sl none (signsB.map .str)):=rfl
   have p4:=cont_sign s
   have eS : D.eraseL (signsB.map D.str) = signsB.map D.str:=rfl
   obtain ⟨SB,hSB⟩ : ∃ z,signsB.map D.str = z:=⟨_,rfl⟩
   rw [hSB] at p3 p4 eS
   unfold formI
   rcases tf (k == 1) with k1 | k1
   ·rw [if_pos k1]
    rcases tf (n == 0) with n0 | n0
    ·rw [n0,Bool.and_true]
     cases s with
     | nil =>
      have d1 : decide ((1 : Int) <= (([] : List UInt8).length : Nat)) = false:=rfl
      simp +contextual (maxSteps:=10000000) only [c166,k1,n0,d1,wordB,go_sem]
     | cons c r =>
      have d1 : decide ((1 : Int) <= ((c :: r).length : Nat)) = true:=by simp;omega
      have ix : ∀ q,ixs (.str (c :: r)) (.int q 0) = some (.int .u8 c.toNat):=fun q=>ixs_at (i:=0) rfl q
      have hwc:=wordB_cons c r
      have hal : pLet (c.toNat : Int) = true -> (pLet (c.toNat : Int) && r.all (fun b=>pWord b.toNat)) = (c :: r).all (fun b=>pWord b.toNat):=fun gl=>by
       rw [List.all_cons,pWord_let (c.toNat : Int),gl];simp
      obtain ⟨S,hS⟩ : ∃ S,c :: r = S:=⟨_,rfl⟩
      rw [hS] at p1 p2 p4 r1 r2 d1 ix hwc hal hl ⊢
      rcases tf (decide ((S.length : Int) <= 64)) with d2 | d2
      ·rcases tf (decide ((97 : Int) <= c.toNat)) with d3 | d3
       ·rcases tf (decide ((c.toNat : Int) <= 122)) with d4 | d4
        ·have gl : pLet (c.toNat : Int) = true:=by unfold pLet;rw [d3,d4];rfl
         have hw : wordB S = S.all (fun b=>pWord b.toNat):=by
          rw [hwc,hal gl,d2,Bool.and_true]
         rw [hw]
         simp +contextual (maxSteps:=10000000) only [c166,k1,n0,d1,d2,ix,d3,d4,p1,r1,go_sem]
        ·have hw : wordB S = false:=by rw [hwc];unfold pLet;rw [d3,d4];rfl
         rw [hw]
         simp +contextual (maxSteps:=10000000) only [c166,k1,n0,d1,d2,ix,d3,d4,go_sem]
       ·have hw : wordB S = false:=by rw [hwc];unfold pLet;rw [d3];rfl
        rw [hw]
        simp +contextual (maxSteps:=10000000) only [c166,k1,n0,d1,d2,ix,d3,go_sem]
      ·have hw : wordB S = false:=by rw [hwc,d2,Bool.and_false]
       rw [hw]
       simp +contextual (maxSteps:=10000000) only [c166,k1,n0,d1,d2,go_sem]
    ·rw [n0,Bool.and_false]
     simp +contextual (maxSteps:=10000000) only [c166,k1,n0,go_sem]
   rw [if_neg (by rw [k1];decide)]
   rcases tf (k == 2) with k2 | k2
   ·rw [if_pos k2]
    rcases tf (s == []) with s0 | s0 <;> rw [s0] <;> simp +contextual (maxSteps:=10000000) only [c166,k1,k2,s0,go_sem]
   rw [if_neg (by rw [k2];decide)]
   rcases tf (k == 3) with k3 | k3
   ·rw [if_pos k3]
    have k4 : (k == 4) = false:=by
     have : k = 3:=by simpa using k3
     subst this;rfl
    rcases tf (n == 0) with n0 | n0
    ·rw [n0,Bool.and_true]
     rcases tf (decide ((s.length : Int) <= 64)) with d2 | d2
     ·rw [d2,Bool.and_true]
      simp +contextual (maxSteps:=10000000) only [c166,k1,k2,k3,k4,n0,d2,p2,r2,go_sem]
     ·rw [d2,Bool.and_false]
      simp +contextual (maxSteps:=10000000) only [c166,k1,k2,k3,k4,n0,d2,go_sem]
    ·rw [n0,Bool.and_false]
     simp +contextual (maxSteps:=10000000) only [c166,k1,k2,k3,k4,n0,go_sem]
   rw [if_neg (by rw [k3];decide)]
   rcases tf (k == 4) with k4 | k4
   ·rw [if_pos k4]
    rcases tf (s == []) with s0 | s0
    ·rcases tf (decide (0 <= n)) with n0 | n0 <;> rw [s0,n0] <;> simp +contextual (maxSteps:=10000000) only [c166,k1,k2,k4,s0,n0,go_sem]
    ·rw [s0];simp +contextual (maxSteps:=10000000) only [c166,k1,k2,k4,s0,go_sem]
   rw [if_neg (by rw [k4];decide)]
   rcases tf (k == 5) with k5 | k5
   ·rw [if_pos k5]
    rcases tf (n == 0) with n0 | n0
    ·rw [n0,Bool.and_true];simp +contextual (maxSteps:=10000000) only [c166,k1,k2,k3,k4,k5,n0,p3,eS,p4,go_sem]
    ·rw [n0,Bool.and_false];simp +contextual (maxSteps:=10000000) only [c166,k1,k2,k3,k4,k5,n0,go_sem]
   ·rw [if_neg (by rw [k5];decide)]
    simp +contextual (maxSteps:=10000000) only [c166,k1,k2,k3,k4,k5,go_sem]
  ·cases h
 ·cases h
theorem all_no' {α : Type} {p : α -> Bool} {l : List α} {j : Nat} {x : α} (hx : l[j]? = some x) (hp : p x = false) : l.all p = false :=
 List.all_eq_false.2 ⟨x,List.mem_of_getElem? hx,by simp [hp]⟩
theorem all_nx' {α : Type} {p : α -> Bool} {l : List α} {j : Nat} {x : α} (hx : l[j]? = some x) (h : (l.take j).all p = true) (hp : p x = true) : (l.take (j + 1)).all p = true:=by
 rw [List.take_add_one,hx];simp [h,hp]
set_option maxHeartbeats 16000000 in
theorem ok57 : OkAt Tryz.prog 57 φform:=by
 refine ok_of (l:=[(109,φword),(110,φsign)]) (.cons ok109 (.cons ok110 .nil)) fn57 fun args r h=>?_
 unfold φform at h
 split at h
 ·rename_i k s n
  split at h
  ·rename_i hl
   injection h with h;subst h
   refine ⟨by simp,by simp [D.cl],fun H T=>?_⟩
   have p1 : φword [.str s] = some (.bool (wordB s)):=by simp only [φword];rw [if_pos hl]
   have p2 : φsign [.str s] = some (.bool (isSign s)):=rfl
   unfold formI
   rcases tf (k == 1) with k1 | k1
   ·rw [if_pos k1]
    rcases tf (wordB s) with w | w <;> rw [w] <;> rw [w] at p1 <;> simp +contextual (maxSteps:=10000000) only [c57,k1,p1,go_sem]
   rw [if_neg (by rw [k1];decide)]
   rcases tf (k == 2) with k2 | k2
   ·rw [if_pos k2]
    rcases tf (s == []) with s0 | s0 <;> rw [s0] <;> simp +contextual (maxSteps:=10000000) only [c57,k1,k2,s0,go_sem]
   rw [if_neg (by rw [k2];decide)]
   rcases tf (k == 3) with k3 | k3
   ·rw [if_pos k3]
    simp +contextual (maxSteps:=10000000) only [c57,k1,k2,k3,go_sem]
    refine W_for (fun i s'=>s'.t 1 = .ptr H.length 0 /\ s'.t 3 = .int .i64 (i : Nat) /\ s'.H = H ++ [.row [.int .i64 k,.str s,.int .i64 n]] /\ s'.T = T /\ i <= s.length /\ (s.take i).all (fun b=>pText b.toNat) = true) s.length ⟨0,by simp [upd,argT]⟩ (fun i s h=>h.2.2.2.2.1) ?_ (XL_mono _)
    rintro i ⟨t,B,T'⟩ ⟨r1,r3,rfl,rfl,hi,hc⟩
    simp only at r1 r3
    by_cases hlt : i < s.length
    ·have d1 : decide (((i : Nat) : Int) < s.length) = true:=by simp only [decide_eq_true_eq];omega
     have ex : s[i]? = some s[i]:=by simp [hlt]
     obtain ⟨b,hb⟩ : ∃ b,s[i] = b:=⟨_,rfl⟩
     rw [hb] at ex
     have ix:=fun q=>ixs_at ex q
     have no:=fun hp=>all_no' (p:=fun b : UInt8=>pText b.toNat) ex hp
     have nx:=fun hp=>all_nx' (p:=fun b : UInt8=>pText b.toNat) ex hc hp
     have pT : pText (b.toNat : Int) = (decide ((32 : Int) <= b.toNat) && decide ((b.toNat : Int) <= 126)):=rfl
     by_cases q1 : (b.toNat : Int) < 32
     ·have g3 : decide ((b.toNat : Int) < 32) = true:=by simpa using q1
      have no:=no (by rw [pT];simp only [Bool.and_eq_false_iff,decide_eq_false_iff_not];omega)
      rw [no]
      simp +contextual (maxSteps:=10000000) only [r1,r3,d1,ix,g3,go_sem]
     have g3 : decide ((b.toNat : Int) < 32) = false:=by simpa using q1
     by_cases q2 : (126 : Int) < b.toNat
     ·have g5 : decide ((126 : Int) < b.toNat) = true:=by simpa using q2
      have no:=no (by rw [pT];simp only [Bool.and_eq_false_iff,decide_eq_false_iff_not];omega)
      rw [no]
      simp +contextual (maxSteps:=10000000) only [r1,r3,d1,ix,g3,g5,go_sem]
     have g5 : decide ((126 : Int) < b.toNat) = false:=by simpa using q2
     have nx:=nx (by rw [pT];simp only [Bool.and_eq_true,decide_eq_true_eq];omega)
     simp +contextual (maxSteps:=10000000) only [r1,r3,d1,ix,g3,g5,wrap_su i (by omega),go_sem]
     exact ⟨by omega,nx⟩
    ·have d1 : decide (((i : Nat) : Int) < s.length) = false:=by simp only [decide_eq_false_iff_not];omega
     have ei : i = s.length:=by omega
     rw [ei,List.take_length] at hc
     rw [hc,Bool.true_and]
     rcases tf (decide ((s.length : Int) <= 64)) with d2 | d2 <;> rw [d2] <;> simp +contextual (maxSteps:=10000000) only [r1,r3,d1,d2,go_sem]
   rw [if_neg (by rw [k3];decide)]
   rcases tf (k == 4) with k4 | k4
   ·rw [if_pos k4]
    rcases tf (s == []) with s0 | s0
    ·rcases tf (decide (0 <= n)) with n0 | n0 <;> rw [s0,n0] <;> simp +contextual (maxSteps:=10000000) only [c57,k1,k2,k3,k4,s0,n0,go_sem]
    ·rw [s0];simp +contextual (maxSteps:=10000000) only [c57,k1,k2,k3,k4,s0,go_sem]
   rw [if_neg (by rw [k4];decide)]
   rcases tf (k == 5) with k5 | k5
   ·rw [if_pos k5]
    rcases tf (isSign s) with w | w <;> rw [w] <;> rw [w] at p2 <;> simp +contextual (maxSteps:=10000000) only [c57,k1,k2,k3,k4,k5,p2,go_sem]
   ·rw [if_neg (by rw [k5];decide)]
    simp +contextual (maxSteps:=10000000) only [c57,k1,k2,k3,k4,k5,go_sem]
  ·cases h
 ·cases h
end GP
namespace GP
open Go Go.Proofs
set_option maxRecDepth 100000
def tk : D -> Int
 | .agg [.int .i64 k,.str _,.int .i64 _]=>k
 | _=>0
def ts : D -> List UInt8
 | .agg [.int .i64 _,.str s,.int .i64 _]=>s
 | _=>[]
def tn : D -> Int
 | .agg [.int .i64 _,.str _,.int .i64 n]=>n
 | _=>0
theorem tk_mk (k : Int) (s : List UInt8) (n : Int) : tk (mkT k s n) = k:=rfl
theorem ts_mk (k : Int) (s : List UInt8) (n : Int) : ts (mkT k s n) = s:=rfl
theorem tn_mk (k : Int) (s : List UInt8) (n : Int) : tn (mkT k s n) = n:=rfl
def tokB : D -> Bool
 | .agg [.int .i64 k,.str s,.int .i64 n]=>decide (s.length <= 2 ^ 47) && (decide (-(2 ^ 63) <= k) && decide (k < 2 ^ 63)) && (decide (-(2 ^ 63) <= n) && decide (n < 2 ^ 63))
 | _=>false
theorem tokB_elim {x : D} (h : tokB x = true) : ∃ k s n,x = mkT k s n /\ s.length <= 2 ^ 47:=by
 unfold tokB at h
 split at h
 ·simp only [Bool.and_eq_true,decide_eq_true_eq] at h
  exact ⟨_,_,_,rfl,h.1.1⟩
 ·cases h
theorem tokB_range {k : Int} {s : List UInt8} {n : Int} (h : tokB (mkT k s n) = true) : (-(2 ^ 63) <= k /\ k < 2 ^ 63) /\ -(2 ^ 63) <= n /\ n < 2 ^ 63:=by
 simp only [tokB,mkT,Bool.and_eq_true,decide_eq_true_eq] at h
 exact ⟨h.1.2,h.2⟩
def formT (t : D) : Bool:=formI (tk t) (ts t) (tn t)
def okL (l : D) : Bool:=isSl l && (elems l).all tokB && decide ((elems l).length <= 600)
def zT : D:=mkT 0 [] 0
def nowP (toks : List D) (a : Nat) (e : Int) : D:=if e != 0 then zT else match toks[a]? with
 | some t=>if formT t then t else zT
 | none=>zT
theorem nowP_tok {toks : List D} (h : toks.all tokB = true) (a : Nat) (e : Int) : ∃ k s n,nowP toks a e = mkT k s n /\ s.length <= 2 ^ 47:=by
 unfold nowP
 split
 ·exact ⟨0,[],0,rfl,by simp⟩
 ·split
  ·rename_i t ht
   split
   ·exact tokB_elim (List.all_eq_true.1 h t (List.mem_of_getElem? ht))
   ·exact ⟨0,[],0,rfl,by simp⟩
  ·exact ⟨0,[],0,rfl,by simp⟩
def cuQ (H : Hp) (p : Nat) (f : List D -> Nat -> Int -> Option D) : Option D:=match H[p]? with
 | some (.row [l,.int .i64 a,.int .i64 e])=>if okL l = true /\ 0 <= a then f (elems l) a.toNat e else none
 | _=>none
def cuE (H : Hp) (p : Nat) (f : List D -> Nat -> Int -> Option (D × Nat × Int)) : Option (D × Hp):=match H[p]? with
 | some (.row [l,.int .i64 a,.int .i64 e])=>if okL l = true /\ 0 <= a then (match f (elems l) a.toNat e with
  | some (r,a',e')=>some (r,H.set p (.row [l,.int .i64 (a' : Int),.int .i64 e']))
  | none=>none) else none
 | _=>none
abbrev GQ:=List D -> List D -> Nat -> Int -> Option D
abbrev GE:=List D -> List D -> Nat -> Int -> Option (D × Nat × Int)
def φQ (g : GQ) (H : Hp) : List D -> Option D
 | .ptr p 0 :: rest=>cuQ H p (g rest)
 | _=>none
def φC (g : GE) (H : Hp) : List D -> Option (D × Hp)
 | .ptr p 0 :: rest=>cuE H p (g rest)
 | _=>none
section
variable {H : Hp} {p : Nat}
theorem cu_get (hp : p < H.length) (X : List D) (L : Hp) : (H.set p (.row X) ++ L)[p]? = some (.row X):=by
 rw [List.getElem?_append_left (by simpa using hp),List.getElem?_set_self hp]
theorem cu_get0 (hp : p < H.length) (X : List D) : (H.set p (.row X))[p]? = some (.row X):=List.getElem?_set_self hp
theorem rd_cu (hp : p < H.length) (X : List D) (L : Hp) (off : Nat) : rdAt (H.set p (.row X) ++ L) (.ptr p off) = some (X.drop off):=rdAt_E (cu_get hp X L) off
theorem rd_cu0 (hp : p < H.length) (X : List D) (off : Nat) : rdAt (H.set p (.row X)) (.ptr p off) = some (X.drop off):=rdAt_E (cu_get0 hp X) off
theorem st_cu {K : D -> S -> Prop} (hp : p < H.length) (X : List D) (L : Hp) (t : Nat -> D) (T : Tk) (n off : Nat) (v : D) : storeK n K ⟨t,H.set p (.row X) ++ L,T⟩ (.ptr p off) v = (v.okc = true /\ v.cells.length = n /\ off + n <= X.length /\ K .top ⟨t,H.set p (.row (X.take off ++ v.cells ++ X.drop (off + n))) ++ L,T⟩):=by
 rw [storeK_E (cu_get hp X L),List.set_append_left _ _ (by simpa using hp),List.set_set]
theorem st_cu0 {K : D -> S -> Prop} (hp : p < H.length) (X : List D) (t : Nat -> D) (T : Tk) (n off : Nat) (v : D) : storeK n K ⟨t,H.set p (.row X),T⟩ (.ptr p off) v = (v.okc = true /\ v.cells.length = n /\ off + n <= X.length /\ K .top ⟨t,H.set p (.row (X.take off ++ v.cells ++ X.drop (off + n))),T⟩):=by
 rw [storeK_E (cu_get0 hp X),List.set_set]
variable {n : Bool} {xs : List D}
theorem okL_slice (htk : xs.all tokB = true) (hl : xs.length <= 600) : okL (sliceD n xs) = true:=by
 simp [okL,isSl_sliceD,elems_sliceD,htk,hl]
theorem φQ_at (hp : p < H.length) (htk : xs.all tokB = true) (hl : xs.length <= 600) (g : GQ) (rest : List D) (a : Nat) (e : Int) (L : Hp) : φQ g (H.set p (.row [sliceD n xs,.int .i64 ((a : Nat) : Int),.int .i64 e]) ++ L) (.ptr p 0 :: rest) = g rest xs a e:=by
 simp only [φQ,cuQ]
 rw [cu_get hp]
 simp only
 rw [if_pos ⟨okL_slice htk hl,by omega⟩,Int.toNat_natCast,elems_sliceD]
theorem φQ_at0 (hp : p < H.length) (htk : xs.all tokB = true) (hl : xs.length <= 600) (g : GQ) (rest : List D) (a : Nat) (e : Int) : φQ g (H.set p (.row [sliceD n xs,.int .i64 ((a : Nat) : Int),.int .i64 e])) (.ptr p 0 :: rest) = g rest xs a e:=by
 have:=φQ_at (n:=n) hp htk hl g rest a e []
 rwa [List.append_nil] at this
def cuR (H : Hp) (p : Nat) (l : D) (L : Hp) : Option (D × Nat × Int) -> Option (D × Hp)
 | some (r,a,e)=>some (r,H.set p (.row [l,.int .i64 ((a : Nat) : Int),.int .i64 e]) ++ L)
 | none=>none
@[go_sem] theorem cuR_s (H : Hp) (p : Nat) (l : D) (L : Hp) (r : D) (a : Nat) (e : Int) : cuR H p l L (some (r,a,e)) = some (r,H.set p (.row [l,.int .i64 ((a : Nat) : Int),.int .i64 e]) ++ L):=id rfl
theorem φC_at (hp : p < H.length) (htk : xs.all tokB = true) (hl : xs.length <= 600) (g : GE) (rest : List D) (a : Nat) (e : Int) (L : Hp) : φC g (H.set p (.row [sliceD n xs,.int .i64 ((a : Nat) : Int),.int .i64 e]) ++ L) (.ptr p 0 :: rest) = cuR H p (sliceD n xs) L (g rest xs a e):=by
 simp only [φC,cuE]
 rw [cu_get hp]
 simp only
 rw [if_pos ⟨okL_slice htk hl,by omega⟩,Int.toNat_natCast,elems_sliceD]
 cases g rest xs a e with
 | none=>rfl
 | some r =>
  simp only [cuR]
  rw [List.set_append_left _ _ (by simpa using hp),List.set_set]
theorem φC_at0 (hp : p < H.length) (htk : xs.all tokB = true) (hl : xs.length <= 600) (g : GE) (rest : List D) (a : Nat) (e : Int) : φC g (H.set p (.row [sliceD n xs,.int .i64 ((a : Nat) : Int),.int .i64 e])) (.ptr p 0 :: rest) = cuR H p (sliceD n xs) [] (g rest xs a e):=by
 have:=φC_at (n:=n) hp htk hl g rest a e []
 rwa [List.append_nil] at this
end
@[go_sem] theorem rd_own (H : Hp) (p : Nat) (x : Ob) (L : Hp) (n off : Nat) : rdAt (H.set p x ++ L) (.ptr (H.length + n) off) = rdAt L (.ptr n off):=by
 have:=rdAt_ptr_app (H.set p x) L n off
 rwa [List.length_set] at this
@[go_sem] theorem rd_own0 (H : Hp) (p : Nat) (x : Ob) (L : Hp) (off : Nat) : rdAt (H.set p x ++ L) (.ptr H.length off) = rdAt L (.ptr 0 off):=rd_own H p x L 0 off
@[go_sem] theorem st_own {K : D -> S -> Prop} (t : Nat -> D) (T : Tk) (H : Hp) (p : Nat) (x : Ob) (L : Hp) (n i off : Nat) (v : D) : storeK n K ⟨t,H.set p x ++ L,T⟩ (.ptr (H.length + i) off) v = putK K t (H.set p x) T (putRow n off v L i):=by
 have:=storeK_ptr (K:=K) t T (H.set p x) L n i off v
 rwa [List.length_set] at this
@[go_sem] theorem st_own0 {K : D -> S -> Prop} (t : Nat -> D) (T : Tk) (H : Hp) (p : Nat) (x : Ob) (L : Hp) (n off : Nat) (v : D) : storeK n K ⟨t,H.set p x ++ L,T⟩ (.ptr H.length off) v = putK K t (H.set p x) T (putRow n off v L 0):=st_own t T H p x L n 0 off v
@[go_sem] theorem nilcD_ptr (o f : Nat) : nilcD (.ptr o f) = some (.ptr o f):=id rfl
attribute [go_sem] List.length_set
theorem okL_elim {l : D} (h : okL l = true) : ∃ n xs,l = sliceD n xs /\ xs.all tokB = true /\ xs.length <= 600:=by
 simp only [okL,Bool.and_eq_true,decide_eq_true_eq] at h
 obtain ⟨n,hn⟩:=isSl_elim h.1.1
 exact ⟨n,elems l,hn,h.1.2,h.2⟩
theorem cuQ_elim {H : Hp} {p : Nat} {f : List D -> Nat -> Int -> Option D} {r : D} (h : cuQ H p f = some r) : ∃ n xs a e,H[p]? = some (.row [sliceD n xs,.int .i64 ((a : Nat) : Int),.int .i64 e]) /\ p < H.length /\ xs.all tokB = true /\ xs.length <= 600 /\ f xs a e = some r:=by
 unfold cuQ at h
 split at h
 ·rename_i l a e hH
  split at h
  ·rename_i hc
   obtain ⟨h1,h2⟩:=hc
   obtain ⟨k,rfl⟩ : ∃ n : Nat,a = (n : Int):=⟨a.toNat,by omega⟩
   obtain ⟨n,xs,rfl,htk,hl⟩:=okL_elim h1
   rw [Int.toNat_natCast,elems_sliceD] at h
   refine ⟨n,xs,k,e,hH,?_,htk,hl,h⟩
   rcases Nat.lt_or_ge p H.length with h' | h'
   ·exact h'
   ·rw [List.getElem?_eq_none h'] at hH;cases hH
  ·cases h
 ·cases h
theorem cuE_elim {H : Hp} {p : Nat} {f : List D -> Nat -> Int -> Option (D × Nat × Int)} {x : D × Hp} (h : cuE H p f = some x) : ∃ n xs a e r a' e',H[p]? = some (.row [sliceD n xs,.int .i64 ((a : Nat) : Int),.int .i64 e]) /\ p < H.length /\ xs.all tokB = true /\ xs.length <= 600 /\ f xs a e = some (r,a',e') ∧
  x = (r,H.set p (.row [sliceD n xs,.int .i64 ((a' : Nat) : Int),.int .i64 e'])):=by
 unfold cuE at h
 split at h
 ·rename_i l a e hH
  split at h
  ·rename_i hc
   obtain ⟨h1,h2⟩:=hc
   obtain ⟨k,rfl⟩ : ∃ n : Nat,a = (n : Int):=⟨a.toNat,by omega⟩
   obtain ⟨n,xs,rfl,htk,hl⟩:=okL_elim h1
   rw [Int.toNat_natCast,elems_sliceD] at h
   split at h
   ·rename_i r a' e' hf
    injection h with h
    refine ⟨n,xs,k,e,r,a',e',hH,?_,htk,hl,hf,h.symm⟩
    rcases Nat.lt_or_ge p H.length with h' | h'
    ·exact h'
    ·rw [List.getElem?_eq_none h'] at hH;cases hH
   ·cases h
  ·cases h
 ·cases h
theorem cuQ_mono {p : Nat} {f : List D -> Nat -> Int -> Option D} {H H' : Hp} {r : D} (hl : Hle H H') (h : cuQ H p f = some r) : cuQ H' p f = some r:=by
 obtain ⟨n,xs,a,e,h1,h2,h3,h4,h5⟩:=cuQ_elim h
 have h1':=hl p _ h1 rfl
 unfold cuQ
 rw [h1']
 simp only
 rw [if_pos ⟨okL_slice h3 h4,by omega⟩,Int.toNat_natCast,elems_sliceD]
 exact h5
theorem φQ_mono (g : GQ) (H H' : Hp) (a : List D) (r : D) (hl : Hle H H') (h : φQ g H a = some r) : φQ g H' a = some r:=by
 unfold φQ at h ⊢
 split at h
 ·exact cuQ_mono hl h
 ·cases h
theorem toksB_erase {xs : List D} (h : xs.all tokB = true) : D.eraseL xs = xs:=eraseL_id fun x hx=>by
 obtain ⟨k,s,n,rfl,_⟩:=tokB_elim (List.all_eq_true.1 h x hx)
 simp [mkT,D.erase,D.eraseL]
theorem toksB_cl {n : Bool} {xs : List D} (h : xs.all tokB = true) (i j : Nat) : (sliceD n xs).cl i j = true:=by
 have : D.clL i j xs = true:=clL_of fun d hd=>by
  obtain ⟨k,s,n,rfl,_⟩:=tokB_elim (List.all_eq_true.1 h d hd)
  simp [mkT,D.cl,D.clL]
 rcases sliceD_cases n xs with ⟨e,_⟩ | e <;> simp [e,D.cl,this]
theorem okQ_of {l : Fs} {m : FsH} {ee : FsE} (hl : Ok Tryz.prog l) (hm : OkH Tryz.prog m) (hE : OkE Tryz.prog ee) {f : FuncId} {k : Nat} {rs : List (Sum Nat (Nat × Bool × Nat))} {cc : C} (hf : Fn Tryz.prog f k rs cc) {g : GQ}
  (h : ∀ (H : Hp) (p : Nat) (n : Bool) (xs : List D) (a : Nat) (e : Int) (rest : List D) (r : D),p < H.length -> xs.all tokB = true -> xs.length <= 600 -> g rest xs a e = some r -> rest.length + 1 <= k /\ r.cl 0 0 = true ∧
   ∀ T,W (XE l m ee) cc (endQ rs (LeavesE r (H.set p (.row [sliceD n xs,.int .i64 ((a : Nat) : Int),.int .i64 e])) T)) ⟨argT (.ptr p 0 :: rest),H.set p (.row [sliceD n xs,.int .i64 ((a : Nat) : Int),.int .i64 e]),T⟩) : OkAtH Tryz.prog f (φQ g):=by
 refine okFH_of hl hm hE hf fun H args r hr=>?_
 unfold φQ at hr
 split at hr
 ·rename_i p rest
  obtain ⟨n,xs,a,e,h1,h2,h3,h4,h5⟩:=cuQ_elim hr
  obtain ⟨k1,k2,k3⟩:=h H p n xs a e rest r h2 h3 h4 h5
  refine ⟨by simpa using k1,D.cl_mono (Nat.zero_le _) (Nat.le_refl _) r k2,fun T=>?_⟩
  have:=k3 T
  rw [set_same h1] at this
  exact this
 ·cases hr
theorem okC_of {l : Fs} {m : FsH} {ee : FsE} (hl : Ok Tryz.prog l) (hm : OkH Tryz.prog m) (hE : OkE Tryz.prog ee) {f : FuncId} {k : Nat} {rs : List (Sum Nat (Nat × Bool × Nat))} {cc : C} (hf : Fn Tryz.prog f k rs cc) {g : GE}
  (h : ∀ (H : Hp) (p : Nat) (n : Bool) (xs : List D) (a : Nat) (e : Int) (rest : List D) (r : D) (a' : Nat) (e' : Int),p < H.length -> xs.all tokB = true -> xs.length <= 600 -> g rest xs a e = some (r,a',e') -> rest.length + 1 <= k /\ r.cl 0 0 = true ∧
   ∀ T,W (XE l m ee) cc (endQ rs (LeavesE r (H.set p (.row [sliceD n xs,.int .i64 ((a' : Nat) : Int),.int .i64 e'])) T)) ⟨argT (.ptr p 0 :: rest),H.set p (.row [sliceD n xs,.int .i64 ((a : Nat) : Int),.int .i64 e]),T⟩) : OkAtE Tryz.prog f (φC g):=by
 refine okE_of hl hm hE hf fun H args r H1 hr=>?_
 unfold φC at hr
 split at hr
 ·rename_i p rest
  obtain ⟨n,xs,a,e,r',a',e',h1,h2,h3,h4,h5,h6⟩:=cuE_elim hr
  injection h6 with h6 h7
  subst h6;subst h7
  obtain ⟨k1,k2,k3⟩:=h H p n xs a e rest r a' e' h2 h3 h4 h5
  refine ⟨by simpa using k1,D.cl_mono (Nat.zero_le _) (Nat.le_refl _) r k2,⟨by simp,fun o x cs hx hc=>?_⟩,fun T=>?_⟩
  ·by_cases ho : o = p
   ·subst ho
    rw [List.getElem?_set_self h2] at hx
    injection hx with hx;subst hx
    injection hc with hc;subst hc
    refine .inr ?_
    simp only [D.clL,toksB_cl h3,D.cl,Bool.and_self]
   ·rw [List.getElem?_set_ne (fun e=>ho e.symm)] at hx
    exact .inl hx
  ·have:=k3 T
   rw [set_same h1] at this
   exact this
 ·cases hr
def gNow : GQ:=fun rest toks a e=>match rest with
 | []=>some (nowP toks a e)
 | _=>none
set_option maxHeartbeats 4000000 in
theorem ok177 : OkAtH Tryz.prog 177 (φQ gNow):=by
 refine okQ_of (l:=[(166,φform)]) (m:=[]) (ee:=[]) (.cons ok166 .nil) .nil .nil fn177 fun H p n xs a e rest r hp htk hlen h=>?_
 have hM : MonoH []:=.nil
 unfold gNow at h
 split at h
 ·injection h with h;subst h
  obtain ⟨k0,s0,n0,e0,_⟩:=nowP_tok htk a e
  refine ⟨by simp,by rw [e0];rfl,fun T=>?_⟩
  have rc:=fun X L off=>rd_cu (p:=p) hp X L off
  by_cases he : (e != 0) = true
  ·have g : nowP xs a e = zT:=by unfold nowP;rw [if_pos he]
   rw [g]
   simp +contextual (maxSteps:=10000000) only [c177,rc,he,go_sem]
   exact lvM
  ·have he0 : (e != 0) = false:=by simpa using he
   rcases Nat.lt_or_ge a xs.length with hlt | hge
   ·have d1 : decide ((xs.length : Int) <= (a : Nat)) = false:=by simp only [decide_eq_false_iff_not];omega
    obtain ⟨k,s,m,e1,hs⟩:=tokB_elim (List.all_eq_true.1 htk _ (List.getElem_mem hlt))
    have ex : xs[a]? = some (mkT k s m):=by rw [List.getElem?_eq_getElem hlt,e1]
    have pf : φform [mkT k s m] = some (.bool (formI k s m)):=by simp only [φform,mkT];rw [if_pos (by omega)]
    simp only [mkT] at pf ex
    have g : nowP xs a e = if formI k s m then mkT k s m else zT:=by
     unfold nowP
     rw [if_neg (by rw [he0];decide),ex]
     rfl
    rw [g]
    rcases tf (formI k s m) with gf | gf
    ·rw [gf,if_pos rfl]
     rw [gf] at pf
     simp +contextual (maxSteps:=10000000) only [c177,rc,he0,d1,ex,pf,pcallE hM,go_sem]
     exact lvM
    ·rw [gf,if_neg (by decide)]
     rw [gf] at pf
     simp +contextual (maxSteps:=10000000) only [c177,rc,he0,d1,ex,pf,pcallE hM,go_sem]
     exact lvM
   ·have d1 : decide ((xs.length : Int) <= (a : Nat)) = true:=by simp only [decide_eq_true_eq];omega
    have g : nowP xs a e = zT:=by
     unfold nowP
     rw [if_neg (by rw [he0];decide),List.getElem?_eq_none (by omega)]
    rw [g]
    simp +contextual (maxSteps:=10000000) only [c177,rc,he0,d1,go_sem]
    exact lvM
 ·cases h
end GP
namespace GP
open Go Go.Proofs
set_option maxRecDepth 100000
abbrev St:=Nat × Int
def nowS (toks : List D) (st : St) : D:=nowP toks st.1 st.2
def isP (toks : List D) (st : St) (s : List UInt8) : Bool:=((tk (nowS toks st) == 1) || (tk (nowS toks st) == 5)) && (ts (nowS toks st) == s)
def failP (at_ : Nat) (err : Int) (st : St) : St:=if st.2 == 0 then (at_,err) else st
def mustP (toks : List D) (s : List UInt8) (st : St) : St:=if isP toks st s then (st.1 + 1,st.2) else failP st.1 2 st
def gIs : GQ:=fun rest toks a e=>match rest with
 | [.str s]=>some (.bool (isP toks (a,e) s))
 | _=>none
def gMay : GE:=fun rest toks a e=>match rest with
 | [.str s]=>some (if isP toks (a,e) s then (.bool true,a + 1,e) else (.bool false,a,e))
 | _=>none
def gFail : GE:=fun rest _ a e=>match rest with
 | [.int .i64 n,.int .i64 err]=>if 0 <= n then some (.tup [],failP n.toNat err (a,e)) else none
 | _=>none
def gMust : GE:=fun rest toks a e=>match rest with
 | [.str s]=>some (.tup [],mustP toks s (a,e))
 | _=>none
theorem nowP_lt {toks : List D} {a : Nat} {e : Int} (h : tk (nowP toks a e) ≠ 0) : a < toks.length /\ e = 0:=by
 unfold nowP at h
 split at h
 ·exact absurd rfl h
 ·rename_i he
  refine ⟨?_,by simpa using he⟩
  split at h
  ·rename_i t ht
   rcases Nat.lt_or_ge a toks.length with h' | h'
   ·exact h'
   ·rw [List.getElem?_eq_none h'] at ht;cases ht
  ·exact absurd rfl h
theorem isP_lt {toks : List D} {st : St} {s : List UInt8} (h : isP toks st s = true) : st.1 < toks.length /\ st.2 = 0:=by
 unfold isP at h
 simp only [Bool.and_eq_true,Bool.or_eq_true,beq_iff_eq] at h
 refine nowP_lt (toks:=toks) (a:=st.1) (e:=st.2) ?_
 unfold nowS at h
 omega
theorem wrap_a {a : Nat} (h : a < 601) : IntKind.i64.wrap ((a : Nat) + 1 : Int) = ((a + 1 : Nat) : Int):=by
 rw [show ((a : Nat) + 1 : Int) = ((a + 1 : Nat) : Int) by omega];exact wrap_of _ (by omega) (by omega)
theorem ok117 : OkAtH Tryz.prog 117 (φQ gIs):=by
 have hM : MonoH [(177,φQ gNow)]:=.cons (φQ_mono gNow) .nil
 refine okQ_of (l:=[]) (m:=[(177,φQ gNow)]) (ee:=[]) .nil (.cons ok177 .nil) .nil fn117 fun H p n xs a e rest r hp htk hlen h=>?_
 unfold gIs at h
 split at h
 ·rename_i s
  injection h with h;subst h
  refine ⟨by simp,by simp [D.cl],fun T=>?_⟩
  have qa0:=fun g rest a e=>φQ_at0 (n:=n) hp htk hlen g rest a e
  obtain ⟨k0,s0,m0,e0,_⟩:=nowP_tok htk a e
  have g : isP xs (a,e) s = (((k0 == 1) || (k0 == 5)) && (s0 == s)):=by simp only [isP,nowS,e0,tk_mk,ts_mk]
  rw [g]
  have e0':=e0
  simp only [mkT] at e0'
  simp +contextual (maxSteps:=10000000) only [c117,qa0,gNow,e0',pcallE hM,go_sem]
  all_goals ((repeat' (first | apply And.intro | intro _)) <;> (first | omega | exact lvM))
 ·cases h
theorem ok69 : OkAtE Tryz.prog 69 (φC gMay):=by
 have hM : MonoH [(117,φQ gIs)]:=.cons (φQ_mono gIs) .nil
 refine okC_of (l:=[]) (m:=[(117,φQ gIs)]) (ee:=[]) .nil (.cons ok117 .nil) .nil fn69 fun H p n xs a e rest r a' e' hp htk hlen h=>?_
 unfold gMay at h
 split at h
 ·rename_i s
  have qa0:=fun g rest a e=>φQ_at0 (n:=n) hp htk hlen g rest a e
  have rc0:=fun X off=>rd_cu0 (p:=p) hp X off
  have sc0:=fun (K : D -> S -> Prop) X t T n off v=>st_cu0 (p:=p) (K:=K) hp X t T n off v
  rcases tf (isP xs (a,e) s) with g | g
  ·rw [g] at h
   injection h with h;injection h with h1 h2;injection h2 with h2 h3
   subst h1;subst h2;subst h3
   have hlt:=(isP_lt g).1
   have w:=wrap_a (a:=a) (by simp only at hlt;omega)
   refine ⟨by simp,by simp [D.cl],fun T=>?_⟩
   simp +contextual (maxSteps:=10000000) only [c69,qa0,gIs,g,pcallE hM,rc0,sc0,w,go_sem]
   all_goals ((repeat' (first | apply And.intro | intro _)) <;> (first | omega | exact lvM))
  ·rw [g] at h
   injection h with h;injection h with h1 h2;injection h2 with h2 h3
   subst h1;subst h2;subst h3
   refine ⟨by simp,by simp [D.cl],fun T=>?_⟩
   simp +contextual (maxSteps:=10000000) only [c69,qa0,gIs,g,pcallE hM,go_sem]
   all_goals ((repeat' (first | apply And.intro | intro _)) <;> (first | omega | exact lvM))
 ·cases h
theorem ok105 : OkAtE Tryz.prog 105 (φC gFail):=by
 refine okC_of (l:=[]) (m:=[]) (ee:=[]) .nil .nil .nil fn105 fun H p n xs a e rest r a' e' hp htk hlen h=>?_
 unfold gFail at h
 split at h
 ·rename_i m err
  split at h
  ·rename_i hm
   obtain ⟨k,rfl⟩ : ∃ k : Nat,m = (k : Int):=⟨m.toNat,by omega⟩
   rw [Int.toNat_natCast] at h
   injection h with h;injection h with h1 h2
   subst h1
   have rc0:=fun X off=>rd_cu0 (p:=p) hp X off
   have sc0:=fun (K : D -> S -> Prop) X t T n off v=>st_cu0 (p:=p) (K:=K) hp X t T n off v
   refine ⟨by simp,by simp [D.cl,D.clL],fun T=>?_⟩
   rcases tf (e == 0) with g | g
   ·have f : failP k err (a,e) = (k,err):=by unfold failP;rw [g];rfl
    rw [f] at h2;injection h2 with h2 h3;subst h2;subst h3
    simp +contextual (maxSteps:=10000000) only [c105,rc0,sc0,g,go_sem]
    all_goals ((repeat' (first | apply And.intro | intro _)) <;> (first | omega | exact lvM))
   ·have f : failP k err (a,e) = (a,e):=by unfold failP;rw [g];rfl
    rw [f] at h2;injection h2 with h2 h3;subst h2;subst h3
    simp +contextual (maxSteps:=10000000) only [c105,rc0,sc0,g,go_sem]
    all_goals ((repeat' (first | apply And.intro | intro _)) <;> (first | omega | exact lvM))
  ·cases h
 ·cases h
theorem ok71 : OkAtE Tryz.prog 71 (φC gMust):=by
 have hM : MonoH []:=.nil
 refine okC_of (l:=[]) (m:=[]) (ee:=[(69,φC gMay),(105,φC gFail)]) .nil .nil (.cons ok69 (.cons ok105 .nil)) fn71 fun H p n xs a e rest r a' e' hp htk hlen h=>?_
 unfold gMust at h
 split at h
 ·rename_i s
  injection h with h;injection h with h1 h2
  subst h1
  have ca0:=fun g rest a e=>φC_at0 (n:=n) hp htk hlen g rest a e
  have rc0:=fun X off=>rd_cu0 (p:=p) hp X off
  refine ⟨by simp,by simp [D.cl,D.clL],fun T=>?_⟩
  rcases tf (isP xs (a,e) s) with g | g
  ·have f : mustP xs s (a,e) = (a + 1,e):=by unfold mustP;rw [g];rfl
   rw [f] at h2;injection h2 with h2 h3;subst h2;subst h3
   simp +contextual (maxSteps:=10000000) only [c71,ca0,gMay,g,go_sem]
   all_goals ((repeat' (first | apply And.intro | intro _)) <;> (first | omega | exact lvM))
  ·have f : mustP xs s (a,e) = failP a 2 (a,e):=by unfold mustP;rw [g];rfl
   rw [f] at h2
   obtain ⟨a1,e1⟩ : ∃ y : St,failP a 2 (a,e) = y:=⟨_,rfl⟩
   have hf : gFail [.int .i64 (a : Nat),.int .i64 2] xs a e = some (.tup [],failP a 2 (a,e)):=by simp only [gFail];rw [if_pos (by omega),Int.toNat_natCast]
   obtain ⟨y1,y2,hy⟩ : ∃ y1 y2,failP a 2 (a,e) = (y1,y2):=⟨_,_,rfl⟩
   rw [hy] at hf h2
   injection h2 with h2 h3;subst h2;subst h3
   simp +contextual (maxSteps:=10000000) only [c71,ca0,gMay,g,rc0,hf,go_sem]
   all_goals ((repeat' (first | apply And.intro | intro _)) <;> (first | omega | exact lvM))
 ·cases h
end GP
namespace GP
open Go Go.Proofs
set_option maxRecDepth 100000
def kindP (toks : List D) (k : Int) (st : St) : D × St:=if tk (nowS toks st) != k then (zT,failP st.1 2 st) else (nowS toks st,(st.1 + 1,st.2))
def gKind : GE:=fun rest toks a e=>match rest with
 | [.int .i64 k]=>if k == 0 then none else some (kindP toks k (a,e))
 | _=>none
theorem gFail_at (a : Nat) (err : Int) (toks : List D) (e : Int) : gFail [.int .i64 (a : Nat),.int .i64 err] toks a e = some (.tup [],failP a err (a,e)):=by
 simp only [gFail];rw [if_pos (by omega),Int.toNat_natCast]
theorem gFail_of (m : Nat) (err : Int) (toks : List D) (a : Nat) (e : Int) : gFail [.int .i64 (m : Nat),.int .i64 err] toks a e = some (.tup [],failP m err (a,e)):=by
 simp only [gFail];rw [if_pos (by omega),Int.toNat_natCast]
theorem kindP_cl {toks : List D} (h : toks.all tokB = true) (k : Int) (st : St) : ∃ k0 s0 n0,(kindP toks k st).1 = mkT k0 s0 n0 /\ s0.length <= 2 ^ 47:=by
 unfold kindP
 split
 ·exact ⟨0,[],0,rfl,by simp⟩
 ·exact nowP_tok h _ _
theorem ok120 : OkAtE Tryz.prog 120 (φC gKind):=by
 have hM : MonoH [(177,φQ gNow)]:=.cons (φQ_mono gNow) .nil
 refine okC_of (l:=[]) (m:=[(177,φQ gNow)]) (ee:=[(105,φC gFail)]) .nil (.cons ok177 .nil) (.cons ok105 .nil) fn120 fun H p n xs a e rest r a' e' hp htk hlen h=>?_
 unfold gKind at h
 split at h
 ·rename_i k
  split at h
  ·cases h
  ·rename_i hk0
   have hk0 : k ≠ 0:=by simpa using hk0
   injection h with h
   obtain ⟨k0,s0,m0,e0,_⟩:=nowP_tok htk a e
   have qa:=φQ_at (n:=n) hp htk hlen;have qa0:=φQ_at0 (n:=n) hp htk hlen;have ca:=φC_at (n:=n) hp htk hlen;have ca0:=φC_at0 (n:=n) hp htk hlen;have rc:=rd_cu hp;have rc0:=rd_cu0 hp;have sc:=fun K : D -> S -> Prop=>st_cu (K:=K) hp;have sc0:=fun K : D -> S -> Prop=>st_cu0 (K:=K) hp
   have e0':=e0
   simp only [mkT] at e0'
   rcases tf (k0 != k) with g | g
   ·have f : kindP xs k (a,e) = (zT,failP a 2 (a,e)):=by simp only [kindP,nowS,e0,tk_mk];rw [if_pos g]
    rw [f] at h
    obtain ⟨y1,y2,hy⟩ : ∃ y1 y2,failP a 2 (a,e) = (y1,y2):=⟨_,_,rfl⟩
    have hf:=gFail_at a 2 xs e
    rw [hy] at hf h
    injection h with h1 h2;injection h2 with h2 h3
    subst h1;subst h2;subst h3
    refine ⟨by simp,rfl,fun T=>?_⟩
    simp +contextual (maxSteps:=10000000) only [qa,qa0,ca,ca0,rc,rc0,sc,sc0,c120,gNow,e0',pcallE hM,g,hf,go_sem]
    all_goals ((repeat' (first | apply And.intro | intro _)) <;> (first | omega | exact lvM))
   ·have f : kindP xs k (a,e) = (mkT k0 s0 m0,(a + 1,e)):=by simp only [kindP,nowS,e0,tk_mk];rw [if_neg (by rw [g];decide)]
    rw [f] at h
    have hlt := nowP_lt (toks := xs) (a := a) (e := e) (by rw [e0, tk_mk]; have : k0 = k := by simpa using g
                                                           omega)
    have w:=wrap_a (a:=a) (by omega)
    injection h with h1 h2;injection h2 with h2 h3
    subst h1;subst h2;subst h3
    refine ⟨by simp,rfl,fun T=>?_⟩
    simp only [mkT]
    simp +contextual (maxSteps:=10000000) only [qa,qa0,ca,ca0,rc,rc0,sc,sc0,c120,gNow,e0',pcallE hM,g,w,go_sem]
    all_goals ((repeat' (first | apply And.intro | intro _)) <;> (first | omega | exact lvM))
 ·cases h
def keptW : List (List UInt8):=[[102,97,99,116],[116,114,117,116,104],[110,117,109,98,101,114],[116,101,120,116],[116,105,109,101],[98,97,103],[117,115,101],[112,111,108,105,99,121],[98,121],[102,111,114],[112,101,114,109,105,116],[100,101,110,121],[105,102],[100,117,116,121],[97,100,118,105,99,101],[116,114,117,101],[102,97,108,115,101],[110,111,119],[111,114],[97,110,100],[110,111,116],[105,110],[104,97,115],[114,111,108,101],[115,105,122,101],[115,117,98,106,101,99,116],[114,101,115,111,117,114,99,101],[97,99,116,105,111,110],[101,110,118]]
def keptB (s : List UInt8) : Bool:=keptW.any (fun x=>s == x)
def φkeptL : List D -> Option D
 | []=>some (.sl none (keptW.map .str))
 | _=>none
theorem ok48 : OkAt Tryz.prog 48 φkeptL:=by
 refine ok_of (l:=[]) .nil fn48 fun args r h=>?_
 unfold φkeptL at h
 split at h
 ·injection h with h;subst h
  refine ⟨by simp,by decide,fun H T=>?_⟩
  simp +contextual (maxSteps:=10000000) only [c48,go_sem]
  first | rfl | simp only [keptW,List.map_cons,List.map_nil,D.erase,D.eraseL]
 ·cases h
theorem ok16 : OkAt Tryz.prog 16 φkeptL:=by
 refine ok_of (l:=[]) .nil fn16 fun args r h=>?_
 unfold φkeptL at h
 split at h
 ·injection h with h;subst h
  refine ⟨by simp,by decide,fun H T=>?_⟩
  simp +contextual (maxSteps:=10000000) only [c16,go_sem]
  first | rfl | simp only [keptW,List.map_cons,List.map_nil,D.erase,D.eraseL]
 ·cases h
theorem cont_kept (s : List UInt8) : φcontS [.sl none (keptW.map .str),.str s] = some (.bool (keptB s)):=by
 have hL : isLs isTx (.sl none (keptW.map D.str)):=⟨false,keptW.map D.str,rfl,by decide,fun x hx=>by
  obtain ⟨y,hy,rfl⟩:=List.mem_map.1 hx
  have key : ∀ y ∈ keptW,y.length <= 2 ^ 47:=by decide
  exact ⟨y,rfl,key y hy⟩⟩
 simp only [φcontS]
 rw [if_pos hL]
 congr 2
def φkept : List D -> Option D
 | [.str s]=>some (.bool (keptB s))
 | _=>none
theorem ok17 : OkAt Tryz.prog 17 φkept:=by
 refine ok_of (l:=[(48,φkeptL),(47,φcontS)]) (.cons ok48 (.cons ok47L .nil)) fn17 fun args r h=>?_
 unfold φkept at h
 split at h
 ·rename_i s
  injection h with h;subst h
  have p1 : φkeptL [] = some (.sl none (keptW.map .str)):=rfl
  have p2:=cont_kept s
  have e1 : D.eraseL [.sl none (keptW.map D.str),.str s] = [.sl none (keptW.map D.str),.str s]:=by simp only [D.eraseL,D.erase,eraseL_id (l:=keptW.map D.str) (fun x hx=>by obtain ⟨y,_,rfl⟩:=List.mem_map.1 hx;rfl)]
  obtain ⟨ks,hk⟩ : ∃ ks,keptW.map D.str = ks:=⟨_,rfl⟩
  rw [hk] at p1 p2 e1
  refine ⟨by simp,by simp [D.cl],fun H T=>?_⟩
  simp +contextual (maxSteps:=10000000) only [c17,p1,p2,e1,go_sem]
 ·cases h
def nameP (toks : List D) (st : St) : List UInt8 × St:=if (tk (nowS toks st) != 1) || keptB (ts (nowS toks st)) then ([],failP st.1 2 st) else (ts (nowS toks st),(st.1 + 1,st.2))
def gName : GE:=fun rest toks a e=>match rest with
 | []=>some (.str (nameP toks (a,e)).1,(nameP toks (a,e)).2)
 | _=>none
theorem ok121 : OkAtE Tryz.prog 121 (φC gName):=by
 have hM : MonoH [(177,φQ gNow)]:=.cons (φQ_mono gNow) .nil
 refine okC_of (l:=[(17,φkept)]) (m:=[(177,φQ gNow)]) (ee:=[(105,φC gFail),(120,φC gKind)]) (.cons ok17 .nil) (.cons ok177 .nil) (.cons ok105 (.cons ok120 .nil)) fn121 fun H p n xs a e rest r a' e' hp htk hlen h=>?_
 unfold gName at h
 split at h
 ·injection h with h
  obtain ⟨k0,s0,m0,e0,_⟩:=nowP_tok htk a e
  have qa:=φQ_at (n:=n) hp htk hlen;have qa0:=φQ_at0 (n:=n) hp htk hlen;have ca:=φC_at (n:=n) hp htk hlen;have ca0:=φC_at0 (n:=n) hp htk hlen;have rc:=rd_cu hp;have rc0:=rd_cu0 hp;have sc:=fun K : D -> S -> Prop=>st_cu (K:=K) hp;have sc0:=fun K : D -> S -> Prop=>st_cu0 (K:=K) hp
  have e0':=e0
  simp only [mkT] at e0'
  have pk : φkept [.str s0] = some (.bool (keptB s0)):=rfl
  rcases tf ((k0 != 1) || keptB s0) with g | g
  ·have f : nameP xs (a,e) = ([],failP a 2 (a,e)):=by simp only [nameP,nowS,e0,tk_mk,ts_mk];rw [if_pos g]
   rw [f] at h
   obtain ⟨y1,y2,hy⟩ : ∃ y1 y2,failP a 2 (a,e) = (y1,y2):=⟨_,_,rfl⟩
   have hf:=gFail_at a 2 xs e
   rw [hy] at hf h
   injection h with h1 h2;injection h2 with h2 h3
   subst h1;subst h2;subst h3
   refine ⟨by simp,by simp [D.cl],fun T=>?_⟩
   rcases tf (k0 != 1) with g1 | g1
   ·simp +contextual (maxSteps:=10000000) only [qa,qa0,ca,ca0,rc,rc0,sc,sc0,c121,gNow,e0',pcallE hM,g1,hf,go_sem]
    all_goals ((repeat' (first | apply And.intro | intro _)) <;> (first | omega | exact lvM))
   ·have g2 : keptB s0 = true:=by rw [g1] at g;simpa using g
    rw [g2] at pk
    simp +contextual (maxSteps:=10000000) only [qa,qa0,ca,ca0,rc,rc0,sc,sc0,c121,gNow,e0',pcallE hM,g1,pk,hf,go_sem]
    all_goals ((repeat' (first | apply And.intro | intro _)) <;> (first | omega | exact lvM))
  ·have f : nameP xs (a,e) = (s0,(a + 1,e)):=by simp only [nameP,nowS,e0,tk_mk,ts_mk];rw [if_neg (by rw [g];decide)]
   rw [f] at h
   injection h with h1 h2;injection h2 with h2 h3
   subst h1;subst h2;subst h3
   simp only [Bool.or_eq_false_iff] at g
   obtain ⟨g1,g2⟩:=g
   rw [g2] at pk
   have hk : gKind [.int .i64 1] xs a e = some (mkT k0 s0 m0,a + 1,e):=by
    simp only [gKind,kindP,nowS,e0,tk_mk]
    rw [if_neg (by decide),if_neg (by rw [g1];decide)]
   simp only [mkT] at hk
   refine ⟨by simp,by simp [D.cl],fun T=>?_⟩
   simp +contextual (maxSteps:=10000000) only [qa,qa0,ca,ca0,rc,rc0,sc,sc0,c121,gNow,e0',pcallE hM,g1,pk,hk,go_sem]
   all_goals ((repeat' (first | apply And.intro | intro _)) <;> (first | omega | exact lvM))
 ·cases h
def isStrB : D -> Bool
 | .str _=>true
 | _=>false
def strB : D -> List UInt8
 | .str s=>s
 | _=>[]
def firstP (toks : List D) (st : St) : List (List UInt8) -> Option (List UInt8)
 | []=>none
 | w :: r=>if isP toks st w then some w else firstP toks st r
def oneP (toks : List D) (ws : List (List UInt8)) (st : St) : List UInt8 × St:=match firstP toks st ws with
 | some w=>(w,(st.1 + 1,st.2))
 | none=>([],failP st.1 2 st)
def gOne : GE:=fun rest toks a e=>match rest with
 | [.sl none ds]=>if ds.all isStrB = true /\ ds.length <= 100 then some (.str (oneP toks (ds.map strB) (a,e)).1,(oneP toks (ds.map strB) (a,e)).2) else none
 | _=>none
theorem firstP_none {toks : List D} {st : St} : ∀ {ws : List (List UInt8)},(∀ w ∈ ws,isP toks st w = false) -> firstP toks st ws = none
 | [],_=>rfl
 | w :: r,h=>by
  simp only [firstP];rw [if_neg (by rw [h w (by simp)];decide)]
  exact firstP_none fun x hx=>h x (by simp [hx])
theorem firstP_at {toks : List D} {st : St} : ∀ {ws : List (List UInt8)} {i : Nat} {w : List UInt8},ws[i]? = some w -> (∀ j u,j < i -> ws[j]? = some u -> isP toks st u = false) -> isP toks st w = true -> firstP toks st ws = some w
 | [],i,w,h,_,_=>by simp at h
 | x :: r,0,w,h,_,h2=>by
  simp only [List.getElem?_cons_zero,Option.some.injEq] at h;subst h
  simp only [firstP];rw [if_pos h2]
 | x :: r,i + 1,w,h,h1,h2=>by
  simp only [firstP];rw [if_neg (by rw [h1 0 x (by omega) rfl];decide)]
  exact firstP_at (by simpa using h) (fun j u hj hu=>h1 (j + 1) u (by omega) (by simpa using hu)) h2
theorem ok119 : OkAtE Tryz.prog 119 (φC gOne):=by
 have hM : MonoH []:=.nil
 refine okC_of (l:=[]) (m:=[]) (ee:=[(69,φC gMay),(105,φC gFail)]) .nil .nil (.cons ok69 (.cons ok105 .nil)) fn119 fun H p n xs a e rest r a' e' hp htk hlen h=>?_
 unfold gOne at h
 split at h
 ·rename_i ds
  split at h
  ·rename_i hd
   obtain ⟨hd,hdl⟩:=hd
   injection h with h
   have qa:=φQ_at (n:=n) hp htk hlen;have qa0:=φQ_at0 (n:=n) hp htk hlen;have ca:=φC_at (n:=n) hp htk hlen;have ca0:=φC_at0 (n:=n) hp htk hlen;have rc:=rd_cu hp;have rc0:=rd_cu0 hp;have sc:=fun K : D -> S -> Prop=>st_cu (K:=K) hp;have sc0:=fun K : D -> S -> Prop=>st_cu0 (K:=K) hp
   have hstr : ∀ (i : Nat) (hi : i < ds.length),ds[i]? = some (.str (strB ds[i])):=fun i hi=>by
    have:=List.all_eq_true.1 hd _ (List.getElem_mem hi)
    rw [List.getElem?_eq_getElem hi]
    cases hx : ds[i] <;> rw [hx] at this <;> simp [isStrB] at this <;> rfl
   refine ⟨by simp,?_,fun T=>?_⟩
   ·injection h with h1 h2;subst h1;rfl
   simp +contextual (maxSteps:=10000000) only [qa,qa0,ca,ca0,rc,rc0,sc,sc0,c119,go_sem]
   refine W_for (fun i s'=>s'.t 0 = .ptr p 0 /\ s'.t 7 = .sl none ds /\ s'.t 8 = .int .i64 ds.length /\ s'.t 9 = .int .i64 (i : Nat) /\ s'.H = H.set p (.row [sliceD n xs,.int .i64 ((a : Nat) : Int),.int .i64 e]) /\ s'.T = T /\ i <= ds.length /\ ∀ j u,j < i -> (ds.map strB)[j]? = some u -> isP xs (a,e) u = false) ds.length
    ⟨0,by simp [upd,argT],by simp [upd],by simp [upd],by simp [upd],rfl,rfl,by omega,fun j u h=>by omega⟩ (fun i s h=>h.2.2.2.2.2.2.1) ?_ (XE_mono _ _ _)
   rintro i ⟨t,B,T'⟩ ⟨r0,r7,r8,r9,rfl,rfl,hi,hN⟩
   simp only at r0 r7 r8 r9
   by_cases hlt : i < ds.length
   ·have d1 : decide (((i : Nat) : Int) < ds.length) = true:=by simp only [decide_eq_true_eq];omega
    have ex:=hstr i hlt
    obtain ⟨w,hw⟩ : ∃ w,strB ds[i] = w:=⟨_,rfl⟩
    rw [hw] at ex
    have hmap : (ds.map strB)[i]? = some w:=by rw [List.getElem?_map,ex];rfl
    have ws : IntKind.i64.wrap (((i : Nat) : Int) + 1) = ((i + 1 : Nat) : Int):=by rw [show ((i : Nat) : Int) + 1 = ((i + 1 : Nat) : Int) by omega];exact wrap_of _ (by omega) (by omega)
    rcases tf (isP xs (a,e) w) with g | g
    ·have f : oneP xs (ds.map strB) (a,e) = (w,(a + 1,e)):=by unfold oneP;rw [firstP_at hmap hN g]
     rw [f] at h
     injection h with h1 h2;injection h2 with h2 h3
     subst h1;subst h2;subst h3
     simp +contextual (maxSteps:=10000000) only [qa,qa0,ca,ca0,rc,rc0,sc,sc0,r0,r7,r8,r9,d1,ex,gMay,g,go_sem]
     all_goals ((repeat' (first | apply And.intro | intro _)) <;> (first | omega | exact lvM))
    ·simp +contextual (maxSteps:=10000000) only [qa,qa0,ca,ca0,rc,rc0,sc,sc0,r0,r7,r8,r9,d1,ex,gMay,g,ws,go_sem]
     refine ⟨by omega,fun j u hj hu=>?_⟩
     rcases Nat.lt_or_ge j i with h' | h'
     ·exact hN j u h' hu
     ·have : j = i:=by omega
      subst this
      rw [hmap] at hu;injection hu with hu;subst hu;exact g
   ·have d1 : decide (((i : Nat) : Int) < ds.length) = false:=by simp only [decide_eq_false_iff_not];omega
    have f : oneP xs (ds.map strB) (a,e) = ([],failP a 2 (a,e)):=by
     unfold oneP
     rw [firstP_none fun w hw=>by
      obtain ⟨j,hj,rfl⟩:=List.getElem_of_mem hw
      exact hN j _ (by simp at hj;omega) (by rw [List.getElem?_eq_getElem hj])]
    rw [f] at h
    obtain ⟨y1,y2,hy⟩ : ∃ y1 y2,failP a 2 (a,e) = (y1,y2):=⟨_,_,rfl⟩
    have hf:=gFail_at a 2 xs e
    rw [hy] at hf h
    injection h with h1 h2;injection h2 with h2 h3
    subst h1;subst h2;subst h3
    simp +contextual (maxSteps:=10000000) only [qa,qa0,ca,ca0,rc,rc0,sc,sc0,r0,r7,r8,r9,d1,hf,go_sem]
    all_goals ((repeat' (first | apply And.intro | intro _)) <;> (first | omega | exact lvM))
  ·cases h
 ·cases h
def whoW : List (List UInt8):=[[115,117,98,106,101,99,116],[114,101,115,111,117,114,99,101],[97,99,116,105,111,110],[101,110,118]]
def attrP (toks : List D) (st : St) : List UInt8 × List UInt8 × St :=
 ((oneP toks whoW st).1,(nameP toks (mustP toks [46] (oneP toks whoW st).2)).1,(nameP toks (mustP toks [46] (oneP toks whoW st).2)).2)
def gAttr : GE:=fun rest toks a e=>match rest with
 | []=>some (.tup [.str (attrP toks (a,e)).1,.str (attrP toks (a,e)).2.1],(attrP toks (a,e)).2.2)
 | _=>none
theorem ok118 : OkAtE Tryz.prog 118 (φC gAttr):=by
 have hM : MonoH []:=.nil
 refine okC_of (l:=[]) (m:=[]) (ee:=[(119,φC gOne),(71,φC gMust),(121,φC gName)]) .nil .nil (.cons ok119 (.cons ok71 (.cons ok121 .nil))) fn118 fun H p n xs a e rest r a' e' hp htk hlen h=>?_
 unfold gAttr at h
 split at h
 ·injection h with h
  have qa:=φQ_at (n:=n) hp htk hlen;have qa0:=φQ_at0 (n:=n) hp htk hlen;have ca:=φC_at (n:=n) hp htk hlen;have ca0:=φC_at0 (n:=n) hp htk hlen;have rc:=rd_cu hp;have rc0:=rd_cu0 hp;have sc:=fun K : D -> S -> Prop=>st_cu (K:=K) hp;have sc0:=fun K : D -> S -> Prop=>st_cu0 (K:=K) hp
  have h1 : gOne [.sl none [.str [115,117,98,106,101,99,116],.str [114,101,115,111,117,114,99,101],.str [97,99,116,105,111,110],.str [101,110,118]]] xs a e = some (.str (oneP xs whoW (a,e)).1,(oneP xs whoW (a,e)).2):=rfl
  obtain ⟨w1,⟨a1,e1⟩,hy1⟩ : ∃ w1 st1,oneP xs whoW (a,e) = (w1,st1):=⟨_,_,rfl⟩
  obtain ⟨⟨a2,e2⟩,hy2⟩ : ∃ st2,mustP xs [46] (a1,e1) = st2:=⟨_,rfl⟩
  obtain ⟨w3,⟨a3,e3⟩,hy3⟩ : ∃ w3 st3,nameP xs (a2,e2) = (w3,st3):=⟨_,_,rfl⟩
  have f : attrP xs (a,e) = (w1,w3,a3,e3):=by simp only [attrP,hy1,hy2,hy3]
  rw [hy1] at h1
  simp only at h1
  rw [f] at h
  injection h with g1 g2;injection g2 with g2 g3
  subst g1;subst g2;subst g3
  have h2 : gMust [.str [46]] xs a1 e1 = some (.tup [],a2,e2):=by simp only [gMust,hy2]
  have h3 : gName [] xs a2 e2 = some (.str w3,a3,e3):=by simp only [gName,hy3]
  refine ⟨by simp,by simp [D.cl,D.clL],fun T=>?_⟩
  simp +contextual (maxSteps:=10000000) only [qa,qa0,ca,ca0,rc,rc0,sc,sc0,c118,h1,h2,h3,go_sem]
  all_goals ((repeat' (first | apply And.intro | intro _)) <;> (first | omega | exact lvM))
 ·cases h
def endP (toks : List D) (st : St) : St:=if (st.2 == 0) && decide (st.1 < toks.length) then (st.1,2) else st
def gEnd : GE:=fun rest toks a e=>match rest with
 | []=>some (if (endP toks (a,e)).2 == 0 then .tup [.int .i64 0,.int .i64 0] else .tup [.int .i64 ((endP toks (a,e)).1 : Nat),.int .i64 (endP toks (a,e)).2],endP toks (a,e))
 | _=>none
theorem ok50 : OkAtE Tryz.prog 50 (φC gEnd):=by
 have hM : MonoH []:=.nil
 refine okC_of (l:=[]) (m:=[]) (ee:=[(105,φC gFail)]) .nil .nil (.cons ok105 .nil) fn50 fun H p n xs a e rest r a' e' hp htk hlen h=>?_
 unfold gEnd at h
 split at h
 ·injection h with h
  have qa:=φQ_at (n:=n) hp htk hlen;have qa0:=φQ_at0 (n:=n) hp htk hlen;have ca:=φC_at (n:=n) hp htk hlen;have ca0:=φC_at0 (n:=n) hp htk hlen;have rc:=rd_cu hp;have rc0:=rd_cu0 hp;have sc:=fun K : D -> S -> Prop=>st_cu (K:=K) hp;have sc0:=fun K : D -> S -> Prop=>st_cu0 (K:=K) hp
  refine ⟨by simp,?_,fun T=>?_⟩
  ·injection h with h1 h2;subst h1;split <;> rfl
  have hf : gFail [.int .i64 (a : Nat),.int .i64 2] xs a e = some (.tup [],failP a 2 (a,e)):=gFail_at a 2 xs e
  rcases tf (e == 0) with g | g
  ·rcases tf (decide ((a : Int) < xs.length)) with g1 | g1
   ·have g1' : decide (a < xs.length) = true:=by simpa using g1
    have f : endP xs (a,e) = (a,2):=by unfold endP;rw [g,g1'];rfl
    have f2 : failP a 2 (a,e) = (a,2):=by unfold failP;rw [g];rfl
    rw [f2] at hf
    rw [f] at h
    injection h with h1 h2;injection h2 with h2 h3
    subst h1;subst h2;subst h3
    simp +contextual (maxSteps:=10000000) only [qa,qa0,ca,ca0,rc,rc0,sc,sc0,c50,g,g1,hf,go_sem]
    all_goals ((repeat' (first | apply And.intro | intro _)) <;> (first | omega | exact lvM))
   ·have g1' : decide (a < xs.length) = false:=by simpa using g1
    have f : endP xs (a,e) = (a,e):=by unfold endP;rw [g,g1'];rfl
    rw [f] at h
    have e0 : e = 0:=by simpa using g
    subst e0
    injection h with h1 h2;injection h2 with h2 h3
    subst h1;subst h2;subst h3
    simp +contextual (maxSteps:=10000000) only [qa,qa0,ca,ca0,rc,rc0,sc,sc0,c50,g,g1,go_sem]
    all_goals ((repeat' (first | apply And.intro | intro _)) <;> (first | omega | exact lvM))
  ·have f : endP xs (a,e) = (a,e):=by unfold endP;rw [g];rfl
   rw [f] at h
   simp only [g] at h
   injection h with h1 h2;injection h2 with h2 h3
   subst h1;subst h2;subst h3
   simp +contextual (maxSteps:=10000000) only [qa,qa0,ca,ca0,rc,rc0,sc,sc0,c50,g,go_sem]
   all_goals ((repeat' (first | apply And.intro | intro _)) <;> (first | omega | exact lvM))
 ·cases h
end GP
namespace GP
open Go Go.Proofs
set_option maxRecDepth 100000
def textV (s : List UInt8) : D:=.agg [.int .i64 3,.int .i64 0,.str (s.take (min s.length 64)),.nils]
def φText : List D -> Option D
 | [.str s]=>if s.length <= 2 ^ 60 then some (textV s) else none
 | _=>none
theorem ok243 [HasG Tryz.prog] : OkAt Tryz.prog 243 φText:=by
 refine ok_of (l:=[]) .nil fn243 fun args r h=>?_
 unfold φText at h
 split at h
 ·rename_i s
  split at h
  ·rename_i hs
   injection h with h;subst h
   refine ⟨by simp,by simp [textV,D.cl,D.clL],fun H T=>?_⟩
   have m : (if (64 : Int) < (s.length : Int) then (64 : Int) else (s.length : Int)) = ((min s.length 64 : Nat) : Int):=by split <;> omega
   have sb : sub (some 0) (some ((min s.length 64 : Nat) : Int)) (.str s) = some (.str (s.take (min s.length 64))):=by
    simp only [sub]
    rw [if_pos ⟨by omega,by omega,by omega⟩]
    simp [subList]
   obtain ⟨m64,hm⟩ : ∃ m,min s.length 64 = m:=⟨_,rfl⟩
   rw [hm] at m sb
   simp only [textV,hm]
   simp +contextual (maxSteps:=10000000) only [c243,m,sb,go_sem]
  ·cases h
 ·cases h
def timeV (n : Int) : D:=.agg [.int .i64 4,.int .i64 n,.str [],.nils]
def truthV (b : Bool) : D:=.agg [.int .i64 1,.int .i64 (if b then 1 else 0),.str [],.nils]
def wTrue : List UInt8:=[116,114,117,101]
def wFalse : List UInt8:=[102,97,108,115,101]
def literalP (toks : List D) (st : St) : D × Bool × St :=
 if tk (nowS toks st) == 2 then (num (tn (nowS toks st)),true,(st.1 + 1,st.2)) else
 if tk (nowS toks st) == 3 then (textV (ts (nowS toks st)),true,(st.1 + 1,st.2)) else
 if tk (nowS toks st) == 4 then (timeV (tn (nowS toks st)),true,(st.1 + 1,st.2)) else
 if isP toks st wTrue || isP toks st wFalse then (truthV (ts (nowS toks st) == wTrue),true,(st.1 + 1,st.2)) else (zeroV,false,st)
def gLit : GE:=fun rest toks a e=>match rest with
 | []=>some (.tup [(literalP toks (a,e)).1,.bool (literalP toks (a,e)).2.1],(literalP toks (a,e)).2.2)
 | _=>none
theorem ok239 : OkAtE Tryz.prog 239 (φC gLit):=by
 have hM : MonoH [(177,φQ gNow),(117,φQ gIs)]:=.cons (φQ_mono gNow) (.cons (φQ_mono gIs) .nil)
 refine okC_of (l:=[(242,φNumber),(243,φText),(244,φTruth)]) (m:=[(177,φQ gNow),(117,φQ gIs)]) (ee:=[]) (.cons ok242 (.cons ok243 (.cons ok244 .nil))) (.cons ok177 (.cons ok117 .nil)) .nil fn239 fun H p n xs a e rest r a' e' hp htk hlen h=>?_
 unfold gLit at h
 split at h
 ·injection h with h
  obtain ⟨k0,s0,m0,e0,hs0⟩:=nowP_tok htk a e
  have qa:=φQ_at (n:=n) hp htk hlen;have qa0:=φQ_at0 (n:=n) hp htk hlen;have ca:=φC_at (n:=n) hp htk hlen;have ca0:=φC_at0 (n:=n) hp htk hlen;have rc:=rd_cu hp;have rc0:=rd_cu0 hp;have sc:=fun K : D -> S -> Prop=>st_cu (K:=K) hp;have sc0:=fun K : D -> S -> Prop=>st_cu0 (K:=K) hp
  have e0':=e0
  simp only [mkT] at e0'
  have p1 : φNumber [.int .i64 m0] = some (num m0):=rfl
  have p2 : φText [.str s0] = some (textV s0):=by simp only [φText];rw [if_pos (by omega)]
  have p3 : φTruth [.bool (s0 == wTrue)] = some (truthV (s0 == wTrue)):=rfl
  have hst : nowS xs (a,e) = mkT k0 s0 m0:=e0
  have hw : tk (mkT k0 s0 m0) ≠ 0 -> IntKind.i64.wrap ((a : Nat) + 1 : Int) = ((a + 1 : Nat) : Int):=fun hk=>by
   have:=nowP_lt (toks:=xs) (a:=a) (e:=e) (by rw [e0];exact hk)
   exact wrap_a (by omega)
  rcases tf (k0 == 2) with g2 | g2
  ·have f : literalP xs (a,e) = (num m0,true,(a + 1,e)):=by simp only [literalP,hst,tk_mk,tn_mk];rw [if_pos g2]
   rw [f] at h
   injection h with h1 h2;injection h2 with h2 h3
   subst h1;subst h2;subst h3
   have w := hw (by rw [tk_mk]; have : k0 = 2 := by simpa using g2
                    omega)
   refine ⟨by simp,by simp [num,D.cl,D.clL],fun T=>?_⟩
   simp only [num] at p1 ⊢
   simp +contextual (maxSteps:=10000000) only [qa,qa0,ca,ca0,rc,rc0,sc,sc0,c239,gNow,e0',pcallE hM,g2,w,p1,go_sem]
   all_goals ((repeat' (first | apply And.intro | intro _)) <;> (first | omega | exact lvM))
  rcases tf (k0 == 3) with g3 | g3
  ·have f : literalP xs (a,e) = (textV s0,true,(a + 1,e)):=by simp only [literalP,hst,tk_mk,ts_mk];rw [if_neg (by rw [g2];decide),if_pos g3]
   rw [f] at h
   injection h with h1 h2;injection h2 with h2 h3
   subst h1;subst h2;subst h3
   have w := hw (by rw [tk_mk]; have : k0 = 3 := by simpa using g3
                    omega)
   refine ⟨by simp,by simp [textV,D.cl,D.clL],fun T=>?_⟩
   simp only [textV] at p2 ⊢
   simp +contextual (maxSteps:=10000000) only [qa,qa0,ca,ca0,rc,rc0,sc,sc0,c239,gNow,e0',pcallE hM,g2,g3,w,p2,go_sem]
   all_goals ((repeat' (first | apply And.intro | intro _)) <;> (first | omega | exact lvM))
  rcases tf (k0 == 4) with g4 | g4
  ·have f : literalP xs (a,e) = (timeV m0,true,(a + 1,e)):=by simp only [literalP,hst,tk_mk,tn_mk];rw [if_neg (by rw [g2];decide),if_neg (by rw [g3];decide),if_pos g4]
   rw [f] at h
   injection h with h1 h2;injection h2 with h2 h3
   subst h1;subst h2;subst h3
   have w := hw (by rw [tk_mk]; have : k0 = 4 := by simpa using g4
                    omega)
   refine ⟨by simp,by simp [timeV,D.cl,D.clL],fun T=>?_⟩
   simp only [timeV]
   simp +contextual (maxSteps:=10000000) only [qa,qa0,ca,ca0,rc,rc0,sc,sc0,c239,gNow,e0',pcallE hM,g2,g3,g4,w,go_sem]
   all_goals ((repeat' (first | apply And.intro | intro _)) <;> (first | omega | exact lvM))
  have i1 : gIs [.str [116,114,117,101]] xs a e = some (.bool (isP xs (a,e) wTrue)):=rfl
  have i2 : gIs [.str [102,97,108,115,101]] xs a e = some (.bool (isP xs (a,e) wFalse)):=rfl
  rcases tf (isP xs (a,e) wTrue || isP xs (a,e) wFalse) with g5 | g5
  ·have f : literalP xs (a,e) = (truthV (s0 == wTrue),true,(a + 1,e)):=by simp only [literalP,hst,tk_mk,ts_mk];rw [if_neg (by rw [g2];decide),if_neg (by rw [g3];decide),if_neg (by rw [g4];decide),if_pos g5]
   rw [f] at h
   injection h with h1 h2;injection h2 with h2 h3
   subst h1;subst h2;subst h3
   have hk : a < xs.length:=by
    simp only [Bool.or_eq_true] at g5
    rcases g5 with g5 | g5 <;> exact (isP_lt g5).1
   have w:=wrap_a (a:=a) (by omega)
   refine ⟨by simp,by simp [truthV,D.cl,D.clL],fun T=>?_⟩
   simp only [truthV,wTrue] at p3 ⊢
   rcases tf (isP xs (a,e) wTrue) with g6 | g6
   ·rw [g6] at i1
    simp +contextual (maxSteps:=10000000) only [qa,qa0,ca,ca0,rc,rc0,sc,sc0,c239,gNow,e0',pcallE hM,g2,g3,g4,i1,w,p3,go_sem]
    all_goals ((repeat' (first | apply And.intro | intro _)) <;> (first | omega | exact lvM))
   ·rw [g6,Bool.false_or] at g5
    rw [g6] at i1
    rw [g5] at i2
    simp +contextual (maxSteps:=10000000) only [qa,qa0,ca,ca0,rc,rc0,sc,sc0,c239,gNow,e0',pcallE hM,g2,g3,g4,i1,i2,w,p3,go_sem]
    all_goals ((repeat' (first | apply And.intro | intro _)) <;> (first | omega | exact lvM))
  ·have f : literalP xs (a,e) = (zeroV,false,(a,e)):=by simp only [literalP,hst,tk_mk];rw [if_neg (by rw [g2];decide),if_neg (by rw [g3];decide),if_neg (by rw [g4];decide),if_neg (by rw [g5];decide)]
   rw [f] at h
   injection h with h1 h2;injection h2 with h2 h3
   subst h1;subst h2;subst h3
   refine ⟨by simp,by simp [zeroV,D.cl,D.clL],fun T=>?_⟩
   simp only [Bool.or_eq_false_iff] at g5
   rw [g5.1] at i1
   rw [g5.2] at i2
   simp only [zeroV]
   simp +contextual (maxSteps:=10000000) only [qa,qa0,ca,ca0,rc,rc0,sc,sc0,c239,gNow,e0',pcallE hM,g2,g3,g4,i1,i2,go_sem]
   all_goals ((repeat' (first | apply And.intro | intro _)) <;> (first | omega | exact lvM))
 ·cases h
def itemP (toks : List D) (st : St) : D × St :=
 if isP toks st [45] then (num (IntKind.i64.wrap (0 - tn (kindP toks 2 (st.1 + 1,st.2)).1)),(kindP toks 2 (st.1 + 1,st.2)).2) else
 if (literalP toks st).2.1 then ((literalP toks st).1,(literalP toks st).2.2) else ((literalP toks st).1,failP (literalP toks st).2.2.1 2 (literalP toks st).2.2)
def gItem : GE:=fun rest toks a e=>match rest with
 | []=>some (itemP toks (a,e))
 | _=>none
def val4 (v : D) : Prop:=∃ k i s,v = .agg [.int .i64 k,.int .i64 i,.str s,.nils] /\ s.length <= 2 ^ 47
theorem lit_val {toks : List D} (h : toks.all tokB = true) (st : St) : val4 (literalP toks st).1:=by
 obtain ⟨k0,s0,m0,e0,hs0⟩:=nowP_tok h st.1 st.2
 have hst : nowS toks st = mkT k0 s0 m0:=e0
 unfold literalP
 rw [hst]
 split
 ·exact ⟨_,_,_,rfl,by simp⟩
 split
 ·exact ⟨_,_,_,rfl,by simp [ts_mk];omega⟩
 split
 ·exact ⟨_,_,_,rfl,by simp⟩
 split
 ·exact ⟨_,_,_,rfl,by simp⟩
 ·exact ⟨_,_,_,rfl,by simp⟩
theorem item_val {toks : List D} (h : toks.all tokB = true) (st : St) : val4 (itemP toks st).1:=by
 unfold itemP
 split
 ·exact ⟨_,_,_,rfl,by simp⟩
 split
 ·exact lit_val h st
 ·exact lit_val h st
theorem val4_isV {v : D} (h : val4 v) : v.isV = true /\ v.erase = v /\ v.cl 0 0 = true /\ fit 4 v = true:=by
 obtain ⟨k,i,s,rfl,hs⟩:=h
 exact ⟨by simp [D.isV,hs],by simp [D.erase,D.eraseL],by simp [D.cl,D.clL],rfl⟩
theorem ok245 : OkAtE Tryz.prog 245 (φC gItem):=by
 have hM : MonoH []:=.nil
 refine okC_of (l:=[(242,φNumber)]) (m:=[]) (ee:=[(69,φC gMay),(120,φC gKind),(239,φC gLit),(105,φC gFail)]) (.cons ok242 .nil) .nil (.cons ok69 (.cons ok120 (.cons ok239 (.cons ok105 .nil)))) fn245 fun H p n xs a e rest r a' e' hp htk hlen h=>?_
 unfold gItem at h
 split at h
 ·injection h with h
  have qa:=φQ_at (n:=n) hp htk hlen;have qa0:=φQ_at0 (n:=n) hp htk hlen;have ca:=φC_at (n:=n) hp htk hlen;have ca0:=φC_at0 (n:=n) hp htk hlen;have rc:=rd_cu hp;have rc0:=rd_cu0 hp;have sc:=fun K : D -> S -> Prop=>st_cu (K:=K) hp;have sc0:=fun K : D -> S -> Prop=>st_cu0 (K:=K) hp
  have hcl : r.cl 0 0 = true:=by
   have:=item_val htk (a,e)
   rw [h] at this;exact (val4_isV this).2.2.1
  refine ⟨by simp,hcl,fun T=>?_⟩
  rcases tf (isP xs (a,e) [45]) with g | g
  ·obtain ⟨k1,s1,m1,f1,hs1⟩:=kindP_cl htk 2 (a + 1,e)
   obtain ⟨⟨a1,e1⟩,f2⟩ : ∃ st,(kindP xs 2 (a + 1,e)).2 = st:=⟨_,rfl⟩
   have f3 : kindP xs 2 (a + 1,e) = (mkT k1 s1 m1,a1,e1):=by rw [<- f1,← f2]
   have hk : gKind [.int .i64 2] xs (a + 1) e = some (mkT k1 s1 m1,a1,e1):=by simp only [gKind];rw [if_neg (by decide),f3]
   have f : itemP xs (a,e) = (num (IntKind.i64.wrap (0 - m1)),a1,e1):=by unfold itemP;rw [if_pos g,f3];rfl
   rw [f] at h
   injection h with h1 h2;injection h2 with h2 h3
   subst h1;subst h2;subst h3
   have p1 : φNumber [.int .i64 (IntKind.i64.wrap (0 - m1))] = some (num (IntKind.i64.wrap (0 - m1))):=rfl
   simp only [num,mkT] at p1 hk ⊢
   simp +contextual (maxSteps:=10000000) only [qa,qa0,ca,ca0,rc,rc0,sc,sc0,c245,gMay,g,hk,p1,pcallE hM,go_sem]
   all_goals ((repeat' (first | apply And.intro | intro _)) <;> (first | omega | exact lvM))
  ·obtain ⟨k1,i1,s1,f1,hs1⟩:=lit_val htk (a,e)
   obtain ⟨⟨b1,a1,e1⟩,f2⟩ : ∃ z,(literalP xs (a,e)).2 = z:=⟨_,rfl⟩
   have f3 : literalP xs (a,e) = (.agg [.int .i64 k1,.int .i64 i1,.str s1,.nils],b1,a1,e1):=by rw [<- f1,← f2]
   have hk : gLit [] xs a e = some (.tup [.agg [.int .i64 k1,.int .i64 i1,.str s1,.nils],.bool b1],a1,e1):=by simp only [gLit,f3]
   cases b1 with
   | true =>
    have f : itemP xs (a,e) = (.agg [.int .i64 k1,.int .i64 i1,.str s1,.nils],a1,e1):=by unfold itemP;rw [if_neg (by rw [g];decide),f3];rfl
    rw [f] at h
    injection h with h1 h2;injection h2 with h2 h3
    subst h1;subst h2;subst h3
    simp +contextual (maxSteps:=10000000) only [qa,qa0,ca,ca0,rc,rc0,sc,sc0,c245,gMay,g,hk,go_sem]
    all_goals ((repeat' (first | apply And.intro | intro _)) <;> (first | omega | exact lvM))
   | false =>
    obtain ⟨y1,y2,hy⟩ : ∃ y1 y2,failP a1 2 (a1,e1) = (y1,y2):=⟨_,_,rfl⟩
    have hf:=gFail_at a1 2 xs e1
    have f : itemP xs (a,e) = (.agg [.int .i64 k1,.int .i64 i1,.str s1,.nils],y1,y2):=by unfold itemP;rw [if_neg (by rw [g];decide),f3];simp only [Bool.false_eq_true,if_false,hy]
    rw [hy] at hf
    rw [f] at h
    injection h with h1 h2;injection h2 with h2 h3
    subst h1;subst h2;subst h3
    simp +contextual (maxSteps:=10000000) only [qa,qa0,ca,ca0,rc,rc0,sc,sc0,c245,gMay,g,hk,hf,go_sem]
    all_goals ((repeat' (first | apply And.intro | intro _)) <;> (first | omega | exact lvM))
 ·cases h
def bagL (toks : List D) : Nat -> List D -> St -> Option (List D × St)
 | 0,_,_=>none
 | f + 1,out,st=>if isP toks st [44] then bagL toks f (out ++ [(itemP toks (st.1 + 1,st.2)).1]) (itemP toks (st.1 + 1,st.2)).2 else some (out,st)
def zeroE : D:=.agg [.str [],.int .i64 0,.int .i64 0,.str [],.nils,.str [],.str [],.nils]
def valE (v : D) : D:=.agg (.str [118,97,108,117,101] :: v.cells ++ [.str [],.str [],.nils])
def bagP (toks : List D) (f from_ : Nat) (st : St) : Option (D × St):=match bagL toks f [(itemP toks st).1] (itemP toks st).2 with
 | none=>none
 | some (out,st1)=>if (mustP toks [93] st1).2 != 0 then some (zeroE,mustP toks [93] st1) else
  some (valE (bagV out).1,if (bagV out).2 != 0 then failP from_ 2 (mustP toks [93] st1) else mustP toks [93] st1)
def gBag (f : Nat) : GE:=fun rest toks a e=>match rest with
 | [.int .i64 m]=>if 0 <= m then bagP toks f m.toNat (a,e) else none
 | _=>none
theorem bagL_val {toks : List D} (h : toks.all tokB = true) : ∀ (f : Nat) (out : List D) (st : St) (r : List D × St),(∀ v ∈ out,val4 v) -> bagL toks f out st = some r -> (∀ v ∈ r.1,val4 v) /\ out.length <= r.1.length
 | 0,_,_,_,_,h'=>by simp [bagL] at h'
 | f + 1,out,st,r,ho,h'=>by
  simp only [bagL] at h'
  split at h'
  ·obtain ⟨h1,h2⟩:=bagL_val h f _ _ r (fun v hv=>by
    rcases List.mem_append.1 hv with hv | hv
    ·exact ho v hv
    ·rw [List.mem_singleton] at hv;subst hv;exact item_val h _) h'
   exact ⟨h1,by simp at h2;omega⟩
  ·injection h' with h';subst h'
   exact ⟨ho,Nat.le_refl _⟩
theorem bagL_len {toks : List D} : ∀ (f : Nat) (out : List D) (st : St) (r : List D × St),bagL toks f out st = some r -> r.1.length <= out.length + f
 | 0,_,_,_,h'=>by simp [bagL] at h'
 | f + 1,out,st,r,h'=>by
  simp only [bagL] at h'
  split at h'
  ·have:=bagL_len f _ _ r h';simp at this;omega
  ·injection h' with h';subst h';simp
theorem bagV_shape (xs : List D) : ∃ k i s n ys,(bagV xs).1 = .agg [.int .i64 k,.int .i64 i,.str s,sliceD n ys] /\ (ys = [] ∨ ys = bagR xs):=by
 unfold bagV
 split
 ·exact ⟨0,0,[],true,[],rfl,.inl rfl⟩
 split
 ·exact ⟨0,0,[],true,[],rfl,.inl rfl⟩
 split
 ·exact ⟨0,0,[],true,[],rfl,.inl rfl⟩
 ·exact ⟨5,0,[],false,bagR xs,rfl,.inr rfl⟩
theorem bagV_cl {xs : List D} (h : ∀ x ∈ xs,val4 x) : (bagV xs).1.cl 0 0 = true /\ (bagV xs).1.erase = (bagV xs).1:=by
 have key : good1 xs -> (bagV xs).1.cl 0 0 = true /\ (bagV xs).1.erase = (bagV xs).1 ∨ True:=fun _=>.inr trivial
 unfold bagV
 split
 ·exact ⟨rfl,by simp [zeroV,D.erase,D.eraseL]⟩
 split
 ·exact ⟨rfl,by simp [zeroV,D.erase,D.eraseL]⟩
 split
 ·exact ⟨rfl,by simp [zeroV,D.erase,D.eraseL]⟩
 ·rename_i g1 g2 _
  simp only [Bool.not_eq_false] at g1
  have hg : good1 xs:=fun x hx=>by
   have f:=List.all_eq_true.1 g1 x hx
   have k : ¬ vk x = 5:=fun k=>g2 (List.any_eq_true.2 ⟨x,hx,by simp [badB,k]⟩)
   unfold formedV at f
   rwa [if_pos (by simpa using k)] at f
  refine ⟨bagR_cl xs hg,?_⟩
  have he : D.eraseL (bagR xs) = bagR xs:=eraseL_id fun d hd=>by
   obtain ⟨x,_,rfl⟩:=((bagR_spec hg).2 d).1 hd
   show (D.agg [_,_,_,D.sl none []]).erase = _
   simp [can,mkV,D.erase,D.eraseL]
   rfl
  show (D.agg [.int .i64 5,.int .i64 0,.str [],sliceD false (bagR xs)]).erase = .agg [.int .i64 5,.int .i64 0,.str [],sliceD false (bagR xs)]
  rcases sliceD_cases false (bagR xs) with ⟨e,_⟩ | e <;> simp [e,D.erase,D.eraseL,he]
end GP
