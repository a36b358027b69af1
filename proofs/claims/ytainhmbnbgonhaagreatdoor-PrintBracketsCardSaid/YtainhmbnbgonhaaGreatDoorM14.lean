import Derived.Test.YtainhmbnbgonhaaGreatDoorM13
set_option linter.unusedSimpArgs false
set_option linter.unnecessarySimpa false
namespace GP
open Go Go.Proofs
set_option maxRecDepth 100000
set_option maxHeartbeats 16000000 in
theorem mid12 {n : Nat} {e : D} (hN : isE nodeB e) (hg : GoodE e) (htk : (tkC false e).all tokB = true) (hl : (tkC false e).length <= 2 ^ 30) (a : Nat) (ha : a < 256) (H : Hp) (T T' : Tk) (t : Nat -> D) (t1 : t 1 = .int .u8 (a : Int)) (t2 : t 2 = .ptr H.length 0) (t5 : t 5 = .sl none (tkC false e)) (t6 : accT 1 T (opL (tkC false e) (tkC false e).length) (t 6) T') :
  W (XL (xs12 n)) (C.tl 5 c12) (endQ [.inl 4] (fun r _ _=>r = .bool true)) ⟨t,H ++ [.row e.cells],T'⟩:=by
 have hX:=XL_mono (xs12 n)
 have hB:=bal_tk (full:=false) nodeB e hN hg
 have hT:=fun {o i : Nat} h1 h2 T' t h3 h4 h5 h6=>tail12 (n:=n) hN hg htk hl (o:=o) (i:=i) h1 h2 H T' t h3 h4 h5 h6
 rw [W_part 4]
 obtain ⟨tl,htl⟩ : ∃ z,C.tl 4 (C.tl 5 c12) = z:=⟨_,rfl⟩
 have htl' : C.tl 9 c12 = tl:=htl
 rw [htl'] at hT
 rw [htl]
 have hol:=opL_len (X:=tkC false e) (tkC false e).length
 have hom:=fun {d}=>opL_mem (X:=tkC false e) (i:=(tkC false e).length) (d:=d)
 obtain ⟨X,hXX⟩ : ∃ z,tkC false e = z:=⟨_,rfl⟩
 rw [hXX] at htk hl t5 t6 hT hol hom hB
 obtain ⟨os,hos⟩ : ∃ z,opL X X.length = z:=⟨_,rfl⟩
 rw [hos] at t6 hol hom
 rcases t6.2 with ⟨rfl,e6⟩ | ⟨oi,hoi,e6,hTi⟩
 ·simp +contextual (maxSteps:=10000000) only [c12,e6,go_sem]
 ·by_cases h0 : os.length = 0
  ·have : os = []:=List.eq_nil_of_length_eq_zero h0
   subst this
   simp +contextual (maxSteps:=10000000) only [c12,e6,go_sem]
  ·have hk : a % os.length < os.length:=Nat.mod_lt _ (by omega)
   obtain ⟨k,hka⟩ : ∃ k,a % os.length = k:=⟨_,rfl⟩
   rw [hka] at hk
   have hw : IntKind.i64.wrap (a : Int) = (a : Int):=wrap_of _ (by omega) (by omega)
   have hrem : (if ((os.length : Nat) : Int) = 0 then none else some (D.int .i64 (Int.tmod (a : Int) (os.length : Int)))) = some (.int .i64 (k : Int)):=by
    rw [if_neg (by omega),← hka]
    rfl
   have hz : ((os.length : Int) == 0) = false:=by
    have : (os.length : Int) ≠ 0:=by omega
    simpa using this
   have hx : os[k]? = some os[k]:=by simp [hk]
   obtain ⟨o,ho,eo,po⟩:=hom (List.getElem_mem hk)
   rw [eo] at hx
   simp +contextual (maxSteps:=10000000) only [c12,e6,hz,t1,hw,hrem,hx,go_sem]
   refine W_for (fun j s=>s.t 2 = .ptr H.length 0 /\ s.t 5 = .sl none X /\ s.t 8 = .int .i64 (o : Int) /\ s.t 9 = .int .i64 (o : Int) /\ s.t 11 = .int .i64 ((o + j : Nat) : Int) /\ s.t 10 = .int .i64 (brS ((X.drop o).take j)) /\ (0 < j -> 1 <= brS ((X.drop o).take j)) /\ s.H = H ++ [.row e.cells] /\ s.T = T' /\ o + j <= X.length) (X.length - o) ⟨0,by simp [upd,t2,t5,brS];omega⟩ (fun i s h=>by have:=h.2.2.2.2.2.2.2.2.2;omega) ?_ hX
   rintro j ⟨t,B,T''⟩ ⟨u2,u5,u8,u9,u11,u10,hd,rfl,rfl,hj⟩
   simp only at u2 u5 u8 u9 u11 u10
   by_cases hi : o + j < X.length
   ·have d1 : decide (((o + j : Nat) : Int) < X.length) = true:=by simp only [decide_eq_true_eq];omega
    have hx : X[o + j]? = some X[o + j]:=by simp [hi]
    have hm : X[o + j] ∈ X:=List.getElem_mem hi
    obtain ⟨kk,ss,nn,ex,_⟩:=tokB_elim (List.all_eq_true.1 htk _ hm)
    rw [ex] at hx
    have hdr : (X.drop o)[j]? = some (mkT kk ss nn):=by rw [List.getElem?_drop];exact hx
    have nx:=brS_take hdr
    have bd:=brS_bd ((X.drop o).take j)
    have bl : ((X.drop o).take j).length <= j:=by rw [List.length_take];omega
    obtain ⟨d,hdd⟩ : ∃ z,brS ((X.drop o).take j) = z:=⟨_,rfl⟩
    have hd0 : j = 0 -> pB (mkT kk ss nn) = true /\ d = 0:=by
     rintro rfl
     rw [List.getD_eq_getElem?_getD,show X[o]? = some (mkT kk ss nn) from hx] at po
     refine ⟨po,?_⟩
     rw [<- hdd];simp [brS]
    rw [hdd] at nx bd u10 hd
    have ws:=wrap_succ (o + j) (by omega)
    have wa : IntKind.i64.wrap (d + 1) = d + 1:=wrap_of _ (by omega) (by omega)
    have wm : IntKind.i64.wrap (d - 1) = d - 1:=wrap_of _ (by omega) (by omega)
    have hx':=hx
    simp only [mkT] at hx'
    have e1 : o + (j + 1) = o + j + 1:=by omega
    rcases tf (kk == 5) with gk | gk
    ·rcases tf (ss == [40]) with gs | gs
     ·have gs2 : (ss == [41]) = false:=by
       have : ss = [40]:=by simpa using gs
       subst this;rfl
      have bi : brI (mkT kk ss nn) = 1:=by
       unfold brI;rw [tk_mk,ts_mk,gk,gs];rfl
      rw [bi] at nx
      have dz : ((d + 1 : Int) == 0) = false:=by
       have : d + 1 ≠ 0:=by
        rcases Nat.eq_zero_or_pos j with h | h
        ·have:=(hd0 h).2;omega
        ·have:=hd h;omega
       simpa using this
      simp +contextual (maxSteps:=10000000) only [u2,u5,u8,u9,u10,u11,d1,hx',gk,gs,gs2,wa,dz,ws,e1,go_sem]
      rw [nx]
      refine ⟨rfl,fun _=>?_,by omega⟩
      rcases Nat.eq_zero_or_pos j with h | h
      ·have:=(hd0 h).2;omega
      ·have:=hd h;omega
     ·have hjp : 0 < j:=by
       rcases Nat.eq_zero_or_pos j with h | h
       ·have:=(hd0 h).1
        unfold pB at this;rw [tk_mk,ts_mk,gs] at this;simp at this
       ·exact h
      have hd1:=hd hjp
      rcases tf (ss == [41]) with gs2 | gs2
      ·have bi : brI (mkT kk ss nn) = -1:=by
        unfold brI;rw [tk_mk,ts_mk,gk,gs,gs2];rfl
       rw [bi] at nx
       rcases tf ((d - 1 : Int) == 0) with dz | dz
       ·simp +contextual (maxSteps:=10000000) only [u2,u5,u8,u9,u10,u11,d1,hx',gk,gs,gs2,wm,dz,ws,go_sem]
        refine hT (o:=o) (i:=o + j) (by omega) hi _ _ ?_ ?_ ?_ ?_ <;> simp [upd,u2,u5,u8,u11]
       ·have hne : d - 1 ≠ 0:=by simpa using dz
        simp +contextual (maxSteps:=10000000) only [u2,u5,u8,u9,u10,u11,d1,hx',gk,gs,gs2,wm,dz,ws,e1,go_sem]
        rw [nx]
        exact ⟨by congr 1,fun _=>by omega,by omega⟩
      ·have bi : brI (mkT kk ss nn) = 0:=by
        unfold brI;rw [tk_mk,ts_mk,gk,gs,gs2];rfl
       rw [bi] at nx
       have dz : ((d : Int) == 0) = false:=by
        have : d ≠ 0:=by omega
        simpa using this
       simp +contextual (maxSteps:=10000000) only [u2,u5,u8,u9,u10,u11,d1,hx',gk,gs,gs2,dz,ws,e1,go_sem]
       rw [nx]
       exact ⟨by congr 1;omega,fun _=>by omega,by omega⟩
    ·have hjp : 0 < j:=by
      rcases Nat.eq_zero_or_pos j with h | h
      ·have:=(hd0 h).1
       unfold pB at this;rw [tk_mk,ts_mk,gk] at this;simp at this
      ·exact h
     have hd1:=hd hjp
     have bi : brI (mkT kk ss nn) = 0:=by
      unfold brI;rw [tk_mk,ts_mk,gk];rfl
     rw [bi] at nx
     have dz : ((d : Int) == 0) = false:=by
      have : d ≠ 0:=by omega
      simpa using this
     simp +contextual (maxSteps:=10000000) only [u2,u5,u8,u9,u10,u11,d1,hx',gk,dz,ws,e1,go_sem]
     rw [nx]
     exact ⟨by congr 1;omega,fun _=>by omega,by omega⟩
   ·exfalso
    have hj2 : j = (X.drop o).length:=by rw [List.length_drop];omega
    have h1:=hd (by omega)
    rw [hj2,List.take_length] at h1
    have:=hB.drop o
    omega
set_option maxHeartbeats 16000000 in
theorem main12 {n : Nat} {e : D} (he : isE n e) (hrg : rgE n e) (a : Nat) (ha : a < 256) (H : Hp) (T : Tk) : W (Snd Tryz.prog) c12 (endQ [.inl 4] (fun r _ _=>r = .bool true)) ⟨argT [e,.int .u8 (a : Int)],H,T⟩:=by
 have hX:=XL_mono (xs12 n)
 refine W_mono (X:=XL (xs12 n)) (Ok.X (.cons ok33 (.cons (ok39 n) (.cons (ok25 n) (.cons (ok21 n) (.cons (ok22 nodeB nodeB_le) (.cons (ok34 n) (.cons ok19 (.cons (ok20 nodeB) .nil))))))))) (fun _ _ h=>h) ?_
 have p0 : φawake [] = some (.bool true):=rfl
 have ee:=isE_erase he
 obtain ⟨q1,q2,q3,q4⟩:=isE_cells he
 have p1 : φsizeE n [e,.int .i64 40] = some (.int .i64 (sizeE n e 40)):=by simp only [φsizeE];rw [if_pos he]
 have p2 : φfewE n [e] = some (.bool (fewEx n e)):=by simp only [φfewE];rw [if_pos he]
 have p3 : φfmR n [e] = some (.bool (fmR n e)):=by simp only [φfmR];rw [if_pos he]
 rcases tf (decide ((40 : Int) < sizeE n e 40)) with g | g
 ·simp +contextual (maxSteps:=10000000) only [c12,p0,ee,q1,q2,q3,q4,p1,g,go_sem]
 cases fw : fewEx n e with
 | false =>
  rw [fw] at p2
  simp +contextual (maxSteps:=10000000) only [c12,p0,ee,q1,q2,q3,q4,p1,p2,g,go_sem]
 | true =>
 rw [fw] at p2
 cases fm : fmR n e with
 | false =>
  rw [fm] at p3
  simp +contextual (maxSteps:=10000000) only [c12,p0,ee,q1,q2,q3,q4,p1,p2,p3,g,go_sem]
 | true =>
 rw [fm] at p3
 obtain ⟨h60,hN⟩:=few_facts he fw
 have hg : GoodE e:=goodE_of he fm
 have hr : rgC e:=⟨n,hrg⟩
 have p5 : φdpt nodeB [e] = some (.int .i64 ((dpt nodeB e : Nat) : Int)):=by simp only [φdpt];rw [if_pos hN]
 rcases tf (decide ((12 : Int) < (dpt nodeB e : Nat))) with gd | gd
 ·simp +contextual (maxSteps:=10000000) only [c12,p0,ee,q1,q2,q3,q4,p1,p2,p3,p5,g,gd,go_sem]
 have hl : (tkC false e).length <= 2 ^ 30:=by
  have:=tk_size_le (full:=false) n e he hg
  have : 2 ^ 22 * nd n e <= 2 ^ 22 * 60:=Nat.mul_le_mul_left _ h60
  omega
 have htk:=tkC_tokB (full:=false) e hg hr
 have p4 : φXpr n [e] = some (.sl none (tkC false e)):=by
  simp only [φXpr];rw [if_pos ⟨he,fun _=>by omega⟩]
  unfold xprD;rw [if_pos fm]
 have hM:=fun T' t h1 h2 h3 h4=>mid12 (n:=n) hN hg htk hl a ha H T T' t h1 h2 h3 h4
 rw [W_part 5]
 obtain ⟨tl,htl⟩ : ∃ z,C.tl 5 c12 = z:=⟨_,rfl⟩
 rw [htl] at hM ⊢
 obtain ⟨X,hXX⟩ : ∃ z,tkC false e = z:=⟨_,rfl⟩
 rw [hXX] at hM p4 htk hl
 have hte:=toksB_erase htk
 simp +contextual (maxSteps:=10000000) only [c12,p0,ee,q1,q2,q3,q4,p1,p2,p3,p4,p5,g,gd,hte,go_sem]
 refine W_each X (fun i s=>s.t 1 = .int .u8 (a : Int) /\ s.t 2 = .ptr H.length 0 /\ s.t 5 = .sl none X /\ s.t 7 = .int .i64 (i : Int) /\ s.H = H ++ [.row e.cells] /\ accT 1 T (opL X i) (s.t 6) s.T) hX ⟨by simp [upd,argT],by simp [upd],by simp [upd],by simp [upd],rfl,by simp [upd,opL];exact accT.nil 1 T (ExtT.refl T)⟩ ?_ ?_
 ·rintro i x ⟨t,B,T'⟩ hx hm hi ⟨t1,t2,t5,t7,rfl,t6⟩
  simp only at t1 t2 t5 t7 t6
  have d1 : decide ((i : Int) < X.length) = true:=by simpa using hi
  have nx:=opL_succ hx
  obtain ⟨kk,ss,nn,rfl,_⟩:=tokB_elim (List.all_eq_true.1 htk _ hm)
  have hx':=hx
  simp only [mkT] at hx'
  have ws:=wrap_succ i (by omega)
  have hf:=opL_fit (X:=X) i
  have hln:=opL_len (X:=X) i
  rcases tf (kk == 5) with gk | gk
  ·rcases tf (ss == [40]) with gs | gs
   ·have hp : pB (mkT kk ss nn) = true:=by unfold pB;rw [tk_mk,ts_mk,gk,gs];rfl
    rw [if_pos hp] at nx
    simp +contextual (maxSteps:=10000000) only [t1,t2,t5,t7,d1,hx',gk,gs,go_sem]
    refine app_accT (bytes:=8) _ (t6.app _) rfl hf (by simp;omega) (by simp;omega) fun d2 T2 hA2=>?_
    simp +contextual (maxSteps:=10000000) only [t1,t2,t5,t7,ws,go_sem]
    rw [nx];exact hA2
   ·have hp : pB (mkT kk ss nn) = false:=by unfold pB;rw [tk_mk,ts_mk,gs];simp
    rw [hp,if_neg (by decide),List.append_nil] at nx
    simp +contextual (maxSteps:=10000000) only [t1,t2,t5,t7,d1,hx',gk,gs,ws,go_sem]
    rw [nx];exact t6
  ·have hp : pB (mkT kk ss nn) = false:=by unfold pB;rw [tk_mk,ts_mk,gk];simp
   rw [hp,if_neg (by decide),List.append_nil] at nx
   simp +contextual (maxSteps:=10000000) only [t1,t2,t5,t7,d1,hx',gk,ws,go_sem]
   rw [nx];exact t6
 ·rintro ⟨t,B,T'⟩ ⟨t1,t2,t5,t7,rfl,t6⟩
  simp only at t1 t2 t5 t7 t6
  have d1 : decide ((X.length : Int) < X.length) = false:=by simp
  simp +contextual (maxSteps:=10000000) only [t1,t2,t5,t7,d1,go_sem]
  exact hM T' _ (by simp [upd,t1]) (by simp [upd,t2]) (by simp [upd,t5]) (by simpa [upd] using t6)
end GP
