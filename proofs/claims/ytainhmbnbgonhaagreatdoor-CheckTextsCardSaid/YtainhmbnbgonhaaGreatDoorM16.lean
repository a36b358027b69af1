import Derived.Test.YtainhmbnbgonhaaGreatDoorM15
set_option linter.unusedSimpArgs false
set_option linter.unnecessarySimpa false
namespace GP
open Go Go.Proofs
set_option maxRecDepth 100000
theorem rV (toks : List D) : ∀ (f : Nat) (du ad : List (List UInt8)) (st : St) (r : List (List UInt8) × List (List UInt8) × St),jD toks f du ad st = some r -> r.1.length + r.2.1.length <= du.length + ad.length + f
 | 0,_,_,_,_,h=>by simp [jD] at h
 | f + 1,du,ad,st,r,h=>by
  simp only [jD] at h
  split at h
  ·injection h with h;subst h;simp only;omega
  ·split at h
   ·have:=rV toks f _ _ _ r h;simp at this;omega
   ·split at h
    ·have:=rV toks f _ _ _ r h;simp at this;omega
    ·injection h with h;subst h;simp only;omega
theorem Et (l : List (List UInt8)) : (l.map D.str).all (fit 1) = true:=by
 rw [List.all_eq_true];intro x hx
 obtain ⟨s,_,rfl⟩:=List.mem_map.1 hx
 rfl
theorem jJ (l : List (List UInt8)) : D.eraseL (l.map D.str) = l.map D.str:=bB fun x hx=>by
 obtain ⟨s,_,rfl⟩:=List.mem_map.1 hx;rfl
set_option maxHeartbeats 8000000 in
theorem K6 {X : d8} (hX : X = XE [] [] [(119,φC zV),(121,φC kB),(69,φC cR),(122,φC mU),(120,φC j0),(71,φC bV)]) {H : Hp} {p : Nat} {n : Bool} {xs : List D} (hp : p < H.length) (htk : xs.all bR = true) (hlen : xs.length <= 600) (T : Tk)
  {pm hi : Bool} {nm : List UInt8} {x0 x1 x2 x3 x4 x5 x6 x7 y0 : D} {Y : List D} (ee : (D.agg [x0,x1,x2,x3,x4,x5,x6,x7]).erase = .agg [x0,x1,x2,x3,x4,x5,x6,x7]) (hY : (Ob.row (y0 :: Y)) = .row [.bool false,.str [],.bool false,.str [],.int .i64 0,.int .i64 0,.str [],.nils,.str [],.str [],.nils,.nils,.nils])
  {F : Nat} (hF : F <= 10000) {a : Nat} {e : Int} {du ad : List (List UInt8)} {a' : Nat} {e' : Int} (hs : jD xs F [] [] (a,e) = some (du,ad,(a',e'))) {t : Nat -> D} {T0 : Tk} (hT0 : bQ T T0) (t0 : t 0 = .ptr p 0) (t2 : t 2 = .ptr H.length 0) (t3 : t 3 = .ptr (H.length + 1) 0) :
  W X (C.tl 4 Jd) (mW [.inr (2,true,13)] (dB (.agg [.bool pm,.str nm,.bool hi,x0,x1,x2,x3,x4,x5,x6,x7,aA true (du.map .str),aA true (ad.map .str)]) (H.set p (.row [aA n xs,.int .i64 ((a' : Nat) : Int),.int .i64 e'])) T))
   ⟨t,H.set p (.row [aA n xs,.int .i64 ((a : Nat) : Int),.int .i64 e]) ++ [.row (y0 :: Y),.row [.bool pm,.str nm,.bool hi,x0,x1,x2,x3,x4,x5,x6,x7,.nils,.nils]],T0⟩:=by
 subst hX
 rw [hY]
 have hM : cQ []:=.nil
 have qa:=dC (n:=n) hp htk hlen;have qa0:=bY (n:=n) hp htk hlen;have ca:=cV (n:=n) hp htk hlen;have ca0:=cC (n:=n) hp htk hlen;have rc:=fA hp;have rc0:=cU hp;have sc:=fun K : D -> S -> Prop=>fM (K:=K) hp;have sc0:=fun K : D -> S -> Prop=>d9 (K:=K) hp
 have hlast:=rV xs F [] [] (a,e) _ hs
 simp only [List.length_nil,Nat.zero_add] at hlast
 simp +contextual only [Jd,go_sem]
 refine bG (fun i s'=>∃ (b : Nat) (eb : Int) (u d : List (List UInt8)) (d1 d2 : D) (i1 i2 : Option Nat),s'.t 0 = .ptr p 0 /\ s'.t 2 = .ptr H.length 0 /\ s'.t 3 = .ptr (H.length + 1) 0 ∧
   s'.H = H.set p (.row [aA n xs,.int .i64 ((b : Nat) : Int),.int .i64 eb]) ++ [.row [.bool false,.str [],.bool false,.str [],.int .i64 0,.int .i64 0,.str [],.nils,.str [],.str [],.nils,.nils,.nils],.row [.bool pm,.str nm,.bool hi,x0,x1,x2,x3,x4,x5,x6,x7,d1,d2]] ∧
   bQ T s'.T /\ xK 1 T i1 (u.map .str) d1 s'.T /\ xK 1 T i2 (d.map .str) d2 s'.T /\ (∀ j,i1 = some j -> i2 ≠ some j) /\ jD xs (F - i) u d (b,eb) = some (du,ad,(a',e')) /\ i <= F /\ u.length + d.length <= i) F
  ⟨0,a,e,[],[],.nils,.nils,none,none,t0,t2,t3,rfl,hT0,⟨rfl,rfl⟩,⟨rfl,rfl⟩,(fun j h=>by cases h),hs,by omega,by simp⟩
  (fun i s h=>by obtain ⟨_,_,_,_,_,_,_,_,h⟩:=h;exact h.2.2.2.2.2.2.2.2.2.1) ?_ (jV _ _ _)
 rintro i ⟨t',B,T'⟩ ⟨b,eb,u,d,d1,d2,i1,i2,r0,r2,r3,rfl,hE,hA1,hA2,hD,hz,hi',hul⟩
 simp only at r0 r2 r3 hE hA1 hA2
 obtain ⟨k,hk⟩ : ∃ k,F - i = k:=⟨_,rfl⟩
 rw [hk] at hz
 cases k with
 | zero=>simp [jD] at hz
 | succ k =>
 simp only [jD] at hz
 rcases tf (eb == 0) with g | g
 ·have g' : (eb != 0) = false:=by simpa using g
  rw [if_neg (by rw [g'];decide)] at hz
  have ek : F - (i + 1) = k:=by omega
  obtain ⟨v1,⟨b1,eb1⟩,hv1⟩ : ∃ v1 st,cL xs 3 (b + 1,eb) = (v1,st):=⟨_,_,rfl⟩
  obtain ⟨k0,s0,n0,e0,_⟩:=wA htk 3 (b + 1,eb)
  rw [hv1] at e0 hz
  simp only at e0
  subst e0
  rw [kU] at hz
  simp only at hz
  have hk1 : j0 [.int .i64 3] xs (b + 1) eb = some (mkT k0 s0 n0,b1,eb1):=by simp only [j0,hv1];rfl
  simp only [mkT] at hk1
  have l1:=Bz hA1
  have l2:=Bz hA2
  rw [List.length_map] at l1 l2
  rcases tf (isP xs (b,eb) [100,117,116,121]) with gd | gd
  ·rw [if_pos (show isP xs (b,eb) MI = true from gd)] at hz
   simp +contextual only [qa,qa0,ca,ca0,rc,rc0,sc,sc0,r0,r2,r3,cR,g,gd,hk1,l1,l2,go_sem]
   refine qQ (bytes:=16) (.str s0) hA1 hE rfl (Et u) (by rw [List.length_map];omega) (by rw [List.length_map];omega) fun d3 T2 j3 hB hE2 hk2 hj=>?_
   obtain ⟨hB0,hB1,rfl,hB3⟩:=hB
   simp +contextual only [qa,qa0,ca,ca0,rc,rc0,sc,sc0,r0,r2,r3,ek,go_sem]
   exact ⟨b1,eb1,u ++ [s0],d,_,d2,some j3,i2,rfl,hE2,by rw [List.map_append];exact ⟨hB0,hB1,rfl,hB3⟩,xU hA2 (fun j hj2=>by
     subst hj2
     exact hk2 j (fun q=>hD j q.symm rfl) (rW hA2)),(fun j q q2=>by
     injection q with q;subst q;subst q2
     rcases hj with hj | hj
     ·have:=rW hA2;omega
     ·exact hD _ hj.symm rfl),hz,by omega,by simp;omega⟩
  ·rw [if_neg (by rw [show isP xs (b,eb) MI = false from gd];decide)] at hz
   rcases tf (isP xs (b,eb) [97,100,118,105,99,101]) with gv | gv
   ·rw [if_pos (show isP xs (b,eb) Dr = true from gv)] at hz
    simp +contextual only [qa,qa0,ca,ca0,rc,rc0,sc,sc0,r0,r2,r3,cR,g,gd,gv,hk1,l1,l2,go_sem]
    refine qQ (bytes:=16) (.str s0) hA2 hE rfl (Et d) (by rw [List.length_map];omega) (by rw [List.length_map];omega) fun d3 T2 j3 hB hE2 hk2 hj=>?_
    obtain ⟨hB0,hB1,rfl,hB3⟩:=hB
    simp +contextual only [qa,qa0,ca,ca0,rc,rc0,sc,sc0,r0,r2,r3,ek,go_sem]
    exact ⟨b1,eb1,u,d ++ [s0],d1,_,i1,some j3,rfl,hE2,xU hA1 (fun j hj2=>by
      subst hj2
      exact hk2 j (fun q=>hD j rfl q.symm) (rW hA1)),by rw [List.map_append];exact ⟨hB0,hB1,rfl,hB3⟩,(fun j q q2=>by
      injection q2 with q2;subst q2;subst q
      rcases hj with hj | hj
      ·have:=rW hA1;omega
      ·exact hD _ rfl hj.symm),hz,by omega,by simp;omega⟩
   ·rw [if_neg (by rw [show isP xs (b,eb) Dr = false from gv];decide)] at hz
    injection hz with hz
    injection hz with z1 hz;injection hz with z2 z3
    subst z1;subst z2
    have hmu : bV [.str [59]] xs b eb = some (.tup [],a',e'):=by simp only [bV,z3]
    have e1:=iG hA1 (jJ u)
    have e2:=iG hA2 (jJ d)
    simp +contextual only [qa,qa0,ca,ca0,rc,rc0,sc,sc0,r0,r2,r3,cR,g,gd,gv,hmu,go_sem]
    refine aL ?_ ⟨_,rfl⟩ hE
    simp only [D.erase,D.eraseL] at ee ⊢
    simp only [D.agg.injEq,List.cons.injEq,and_true] at ee
    obtain ⟨q0,q1,q2,q3,q4,q5,q6,q7⟩:=ee
    rw [e1,e2,q0,q1,q2,q3,q4,q5,q6,q7]
 ·have g' : (eb != 0) = true:=by simpa using g
  rw [if_pos g'] at hz
  injection hz with hz
  injection hz with z1 hz;injection hz with z2 hz;injection hz with z3 z4
  subst z1;subst z2;subst z3;subst z4
  have e1:=iG hA1 (jJ u)
  have e2:=iG hA2 (jJ d)
  simp +contextual only [qa,qa0,ca,ca0,rc,rc0,sc,sc0,r0,r2,r3,g,go_sem]
  refine aL ?_ ⟨_,rfl⟩ hE
  simp only [D.erase,D.eraseL] at ee ⊢
  simp only [D.agg.injEq,List.cons.injEq,and_true] at ee
  obtain ⟨q0,q1,q2,q3,q4,q5,q6,q7⟩:=ee
  rw [e1,e2,q0,q1,q2,q3,q4,q5,q6,q7]
end GP
namespace GP
open Go Go.Proofs
set_option maxRecDepth 100000
def fD : List UInt8:=[112,101,114,109,105,116]
def tG : List UInt8:=[100,101,110,121]
def wIf : List UInt8:=[105,102]
def Bn (toks : List D) (b : Bool) (st : St) : Option (D × St):=if b then lH toks st else some (iO,st)
def j5 (F : Nat) (toks : List D) (st : St) : Option (D × St) :=
 let K:=dT toks [fD,tG] st
 let N:=cS toks K.2
 let I:=kQ toks wIf N.2
 match Bn toks I.1 I.2 with
 | none=>none
 | some (x,st1)=>match jD toks F [] [] st1 with
  | none=>none
  | some (du,ad,st2)=>some (.agg ([.bool (K.1 == fD),.str N.1,.bool I.1] ++ x.cells ++ [aA true (du.map .str),aA true (ad.map .str)]),st2)
def Cc (F : Nat) : GE:=fun rest toks a e=>match rest with
 | []=>j5 F toks (a,e)
 | _=>none
theorem I6 (l : List (List UInt8)) : (aA true (l.map D.str)).cl 0 0 = true:=by
 rcases aU true (l.map D.str) with ⟨_,e⟩ | e
 ·rw [e];rfl
 ·rw [e]
  simp only [D.cl,Bool.and_eq_true]
  have : ∀ l : List (List UInt8),D.clL 0 0 (l.map D.str) = true:=by
   intro l
   induction l with
   | nil=>rfl
   | cons x l ih=>simp [D.clL,D.cl,ih]
  simp [this]
set_option maxHeartbeats 8000000 in
theorem Vv (F : Nat) (hF : F <= 10000) : bK Tryz.prog 123 (φC (Cc F)):=by
 have hM : cQ []:=.nil
 refine dF (l:=[]) (m:=[]) (ee:=[(119,φC zV),(121,φC kB),(69,φC cR),(122,φC mU),(120,φC j0),(71,φC bV)]) .nil .nil (.cons NS (.cons L9 (.cons xN (.cons Pv (.cons Fd (.cons G3 .nil)))))) WT fun H p n xs a e rest r a' e' hp htk hlen h=>?_
 unfold Cc at h
 split at h
 ·have qa:=dC (n:=n) hp htk hlen;have qa0:=bY (n:=n) hp htk hlen;have ca:=cV (n:=n) hp htk hlen;have ca0:=cC (n:=n) hp htk hlen;have rc:=fA hp;have rc0:=cU hp;have sc:=fun K : D -> S -> Prop=>fM (K:=K) hp;have sc0:=fun K : D -> S -> Prop=>d9 (K:=K) hp
  unfold j5 at h
  obtain ⟨w1,⟨a1,e1⟩,hy1⟩ : ∃ w1 st1,dT xs [fD,tG] (a,e) = (w1,st1):=⟨_,_,rfl⟩
  obtain ⟨w2,⟨a2,e2⟩,hy2⟩ : ∃ w2 st2,cS xs (a1,e1) = (w2,st2):=⟨_,_,rfl⟩
  obtain ⟨b,⟨a3,e3⟩,hy3⟩ : ∃ b st3,kQ xs wIf (a2,e2) = (b,st3):=⟨_,_,rfl⟩
  simp only [hy1,hy2,hy3] at h
  split at h
  ·cases h
  rename_i x st4 hz
  obtain ⟨a4,e4⟩:=st4
  split at h
  ·cases h
  rename_i du ad st5 hs
  obtain ⟨a5,e5⟩:=st5
  injection h with h
  injection h with g1 g2;injection g2 with g2 g3
  subst g2;subst g3
  have h1 : zV [.sl none [.str [112,101,114,109,105,116],.str [100,101,110,121]]] xs a e = some (.str w1,a1,e1):=by
   have : zV [.sl none [.str [112,101,114,109,105,116],.str [100,101,110,121]]] xs a e = some (.str (dT xs [fD,tG] (a,e)).1,(dT xs [fD,tG] (a,e)).2):=rfl
   rw [this,hy1]
  have h2 : kB [] xs a1 e1 = some (.str w2,a2,e2):=by simp only [kB,hy2]
  have h3 : cR [.str [105,102]] xs a2 e2 = some (.bool b,a3,e3):=by
   rw [oO];rw [show kQ xs [105,102] (a2,e2) = (b,(a3,e3)) from hy3]
  have hx8 : ex8 x:=by
   unfold Bn at hz
   split at hz
   ·unfold lH at hz
    split at hz
    ·cases hz
    ·rename_i x' st1 hp'
     injection hz with hz;injection hz with hz _;subst hz
     exact bX 10000 .expr xs (a3,e3) _ htk hp'
   ·injection hz with hz;injection hz with hz _;subst hz
    exact ⟨⟨_,_,_,_,_,_,_,_,rfl⟩,rfl,rfl⟩
  obtain ⟨⟨b0,b1,b2,b3,b4,b5,b6,b7,rfl⟩,ee,hcl⟩:=hx8
  have hr : r = .agg [.bool (w1 == fD),.str w2,.bool b,b0,b1,b2,b3,b4,b5,b6,b7,aA true (du.map .str),aA true (ad.map .str)]:=g1.symm
  subst hr
  refine ⟨by simp,?_,fun T=>?_⟩
  ·simp only [D.cl,D.clL,I6,Bool.and_true,Bool.true_and] at hcl ⊢
   simpa using hcl
  rw [Du 4]
  have tail:=fun (t : Nat -> D) (T0 : Tk) hT0 t0 t2 t3=>K6 (X:=XE [] [] [(119,φC zV),(121,φC kB),(69,φC cR),(122,φC mU),(120,φC j0),(71,φC bV)]) rfl (n:=n) hp htk hlen T (pm:=w1 == fD) (hi:=b) (nm:=w2) (x0:=b0) (x1:=b1) (x2:=b2) (x3:=b3) (x4:=b4) (x5:=b5) (x6:=b6) (x7:=b7) ee (y0:=.bool false) (Y:=[.str [],.bool false,.str [],.int .i64 0,.int .i64 0,.str [],.nils,.str [],.str [],.nils,.nils,.nils]) rfl hF hs (t:=t) (T0:=T0) hT0 t0 t2 t3
  obtain ⟨tl,htl⟩ : ∃ z,C.tl 4 Jd = z:=⟨_,rfl⟩
  rw [htl] at tail ⊢
  obtain ⟨Q,hQ⟩ : ∃ Q,mW [.inr (2,true,13)] (dB (.agg [.bool (w1 == fD),.str w2,.bool b,b0,b1,b2,b3,b4,b5,b6,b7,aA true (du.map .str),aA true (ad.map .str)]) (H.set p (.row [aA n xs,.int .i64 ((a5 : Nat) : Int),.int .i64 e5])) T) = Q:=⟨_,rfl⟩
  rw [hQ] at tail ⊢
  obtain ⟨pm,hpm⟩ : ∃ z,(w1 == fD) = z:=⟨_,rfl⟩
  rw [hpm] at tail
  have hpm' : (w1 == [112,101,114,109,105,116]) = pm:=hpm
  cases b with
  | true =>
   have h4 : mU [] xs a3 e3 = some (.agg [b0,b1,b2,b3,b4,b5,b6,b7],a4,e4):=hz
   simp +contextual only [qa,qa0,ca,ca0,rc,rc0,sc,sc0,Jd,h1,h2,h3,h4,hpm',ee,go_sem]
   refine tail _ _ ?_ ?_ ?_ ?_
   ·exact ⟨_,rfl⟩
   ·simp [upd,bF]
   ·simp [upd,bF]
   ·simp [upd,bF]
  | false =>
   have hz' : some ((iO,(a3,e3)) : D × St) = some (.agg [b0,b1,b2,b3,b4,b5,b6,b7],(a4,e4)):=hz
   injection hz' with hz'
   injection hz' with z1 z2;injection z2 with z2 z3
   subst z2;subst z3
   simp only [iO] at z1
   injection z1 with z1
   simp only [List.cons.injEq,and_true] at z1
   obtain ⟨rfl,rfl,rfl,rfl,rfl,rfl,rfl,rfl⟩:=z1
   simp +contextual only [qa,qa0,ca,ca0,rc,rc0,sc,sc0,Jd,h1,h2,h3,hpm',go_sem]
   refine tail _ _ ?_ ?_ ?_ ?_
   ·exact ⟨_,rfl⟩
   ·simp [upd,bF]
   ·simp [upd,bF]
   ·simp [upd,bF]
 ·cases h
def yP (r : D) : Prop:=∃ (pm : Bool) (nm : List UInt8) (hi : Bool) (b0 b1 b2 b3 b4 b5 b6 b7 : D) (du ad : List (List UInt8)),r = .agg [.bool pm,.str nm,.bool hi,b0,b1,b2,b3,b4,b5,b6,b7,aA true (du.map D.str),aA true (ad.map D.str)] /\ ex8 (.agg [b0,b1,b2,b3,b4,b5,b6,b7])
theorem Dp {toks : List D} (ht : toks.all bR = true) {b : Bool} {st : St} {r : D × St} (h : Bn toks b st = some r) : ex8 r.1:=by
 unfold Bn at h
 split at h
 ·unfold lH at h
  split at h
  ·cases h
  ·rename_i x' st1 hp'
   injection h with h;subst h
   exact bX 10000 .expr toks st (x',st1) ht hp'
 ·injection h with h;subst h
  exact ⟨⟨_,_,_,_,_,_,_,_,rfl⟩,rfl,rfl⟩
theorem Bs {F : Nat} {toks : List D} (ht : toks.all bR = true) {st : St} {r : D × St} (h : j5 F toks st = some r) : yP r.1:=by
 unfold j5 at h
 simp only at h
 split at h
 ·cases h
 ·rename_i x st1 hz
  have hx:=Dp ht hz
  split at h
  ·cases h
  ·rename_i du ad st2 _
   injection h with h;subst h
   obtain ⟨⟨b0,b1,b2,b3,b4,b5,b6,b7,rfl⟩,ee,hc⟩:=hx
   exact ⟨_,_,_,b0,b1,b2,b3,b4,b5,b6,b7,du,ad,rfl,⟨⟨_,_,_,_,_,_,_,_,rfl⟩,ee,hc⟩⟩
theorem CJ (l : List (List UInt8)) : (aA true (l.map D.str)).erase = aA true (l.map D.str):=by
 rw [bE,jJ]
theorem wJ {r : D} (h : yP r) : fit 13 r = true /\ r.erase = r /\ r.cl 0 0 = true /\ r.okc = true /\ r.cells.length = 13:=by
 obtain ⟨pm,nm,hi,b0,b1,b2,b3,b4,b5,b6,b7,du,ad,rfl,_,ee,hc⟩:=h
 refine ⟨rfl,?_,?_,rfl,rfl⟩
 ·simp only [D.erase,D.eraseL,D.agg.injEq,List.cons.injEq,and_true] at ee
  obtain ⟨q0,q1,q2,q3,q4,q5,q6,q7⟩:=ee
  simp only [D.erase,D.eraseL,CJ,q0,q1,q2,q3,q4,q5,q6,q7]
 ·simp only [D.cl,D.clL,I6,Bool.and_true,Bool.true_and] at hc ⊢
  simpa using hc
def eK (P : gP) (toks : List D) : Nat -> List D -> St -> Option (List D × St)
 | 0,_,_=>none
 | f + 1,rs,st=>if st.2 != 0 then some (rs,st) else if isP toks st [125] then some (rs,(st.1 + 1,st.2)) else match P toks st with
  | none=>none
  | some (r,st1)=>eK P toks f (rs ++ [r]) st1
theorem uC {P : gP} (toks : List D) : ∀ (f : Nat) (rs : List D) (st : St) (r : List D × St),eK P toks f rs st = some r -> r.1.length <= rs.length + f
 | 0,_,_,_,h=>by simp [eK] at h
 | f + 1,rs,st,r,h=>by
  simp only [eK] at h
  split at h
  ·injection h with h;subst h;simp
  ·split at h
   ·injection h with h;subst h;simp
   ·split at h
    ·cases h
    ·have:=uC toks f _ _ r h;simp at this;omega
theorem Jp {l : List D} (h : ∀ x ∈ l,yP x) : l.all (fit 13) = true:=List.all_eq_true.2 fun x hx=>(wJ (h x hx)).1
theorem yS {l : List D} (h : ∀ x ∈ l,yP x) : D.eraseL l = l:=bB fun x hx=>(wJ (h x hx)).2.1
set_option maxHeartbeats 8000000 in
theorem ND {F : Nat} {X : d8} (hX : X = XE [] [] [(121,φC kB),(71,φC bV),(72,φC tD),(69,φC cR),(122,φC mU),(123,φC (Cc F))]) {H : Hp} {p : Nat} {n : Bool} {xs : List D} (hp : p < H.length) (htk : xs.all bR = true) (hlen : xs.length <= 600) (T : Tk)
  {hi : Bool} {nm by' us : List UInt8} {x0 x1 x2 x3 x4 x5 x6 x7 y0 : D} {Y : List D} (ee : (D.agg [x0,x1,x2,x3,x4,x5,x6,x7]).erase = .agg [x0,x1,x2,x3,x4,x5,x6,x7]) (hY : (Ob.row (y0 :: Y)) = .row [.str [],.str [],.str [],.bool false,.str [],.int .i64 0,.int .i64 0,.str [],.nils,.str [],.str [],.nils,.nils])
  {G : Nat} (hG : G <= 10000) {a : Nat} {e : Int} {rs : List D} {a' : Nat} {e' : Int} (hs : eK (j5 F) xs G [] (a,e) = some (rs,(a',e'))) {t : Nat -> D} {T0 : Tk} (hT0 : bQ T T0) (t0 : t 0 = .ptr p 0) (t2 : t 2 = .ptr H.length 0) (t3 : t 3 = .ptr (H.length + 1) 0) :
  W X (C.tl 8 c73) (mW [.inr (2,true,13)] (dB (.agg [.str nm,.str by',.str us,.bool hi,x0,x1,x2,x3,x4,x5,x6,x7,aA true rs]) (H.set p (.row [aA n xs,.int .i64 ((a' : Nat) : Int),.int .i64 e'])) T))
   ⟨t,H.set p (.row [aA n xs,.int .i64 ((a : Nat) : Int),.int .i64 e]) ++ [.row (y0 :: Y),.row [.str nm,.str by',.str us,.bool hi,x0,x1,x2,x3,x4,x5,x6,x7,.nils]],T0⟩:=by
 subst hX
 rw [hY]
 have hM : cQ []:=.nil
 have qa:=dC (n:=n) hp htk hlen;have qa0:=bY (n:=n) hp htk hlen;have ca:=cV (n:=n) hp htk hlen;have ca0:=cC (n:=n) hp htk hlen;have rc:=fA hp;have rc0:=cU hp;have sc:=fun K : D -> S -> Prop=>fM (K:=K) hp;have sc0:=fun K : D -> S -> Prop=>d9 (K:=K) hp
 simp +contextual only [c73,go_sem]
 refine bG (fun i s'=>∃ (b : Nat) (eb : Int) (u : List D) (d1 : D) (i1 : Option Nat),s'.t 0 = .ptr p 0 /\ s'.t 2 = .ptr H.length 0 /\ s'.t 3 = .ptr (H.length + 1) 0 ∧
   s'.H = H.set p (.row [aA n xs,.int .i64 ((b : Nat) : Int),.int .i64 eb]) ++ [.row [.str [],.str [],.str [],.bool false,.str [],.int .i64 0,.int .i64 0,.str [],.nils,.str [],.str [],.nils,.nils],.row [.str nm,.str by',.str us,.bool hi,x0,x1,x2,x3,x4,x5,x6,x7,d1]] ∧
   bQ T s'.T /\ xK 13 T i1 u d1 s'.T /\ eK (j5 F) xs (G - i) u (b,eb) = some (rs,(a',e')) /\ i <= G /\ u.length <= i /\ ∀ x ∈ u,yP x) G
  ⟨0,a,e,[],.nils,none,t0,t2,t3,rfl,hT0,⟨rfl,rfl⟩,hs,by omega,by simp,by simp⟩
  (fun i s h=>by obtain ⟨_,_,_,_,_,h⟩:=h;exact h.2.2.2.2.2.2.2.1) ?_ (jV _ _ _)
 rintro i ⟨t',B,T'⟩ ⟨b,eb,u,d1,i1,r0,r2,r3,rfl,hE,hA1,hz,hi',hul,hrs⟩
 simp only at r0 r2 r3 hE hA1
 obtain ⟨k,hk⟩ : ∃ k,G - i = k:=⟨_,rfl⟩
 rw [hk] at hz
 have fin : ∀ {l : List D} {d : D},d.erase = aA true l -> (D.agg [.str nm,.str by',.str us,.bool hi,x0,x1,x2,x3,x4,x5,x6,x7,d]).erase = .agg [.str nm,.str by',.str us,.bool hi,x0,x1,x2,x3,x4,x5,x6,x7,aA true l]:=fun e1=>by
  simp only [D.erase,D.eraseL,D.agg.injEq,List.cons.injEq,and_true] at ee
  obtain ⟨q0,q1,q2,q3,q4,q5,q6,q7⟩:=ee
  simp only [D.erase,D.eraseL]
  rw [e1,q0,q1,q2,q3,q4,q5,q6,q7]
 cases k with
 | zero=>simp [eK] at hz
 | succ k =>
 simp only [eK] at hz
 have e1:=iG hA1 (yS hrs)
 have l1:=Bz hA1
 rcases tf (eb == 0) with g | g
 ·have g' : (eb != 0) = false:=by simpa using g
  rw [if_neg (by rw [g'];decide)] at hz
  have ek : G - (i + 1) = k:=by omega
  rcases tf (isP xs (b,eb) [125]) with gd | gd
  ·rw [if_pos gd] at hz
   injection hz with hz
   injection hz with z1 hz;injection hz with z3 z4
   subst z1;subst z3;subst z4
   simp +contextual only [qa,qa0,ca,ca0,rc,rc0,sc,sc0,r0,r2,r3,cR,g,gd,go_sem]
   exact aL (fin e1) ⟨_,rfl⟩ hE
  ·rw [if_neg (by rw [gd];decide)] at hz
   split at hz
   ·cases hz
   rename_i r st1 hr
   obtain ⟨b1,eb1⟩:=st1
   have hS:=Bs htk hr
   obtain ⟨f1,f2,f3,f4,f5⟩:=wJ hS
   have hr1 : Cc F [] xs b eb = some (r,b1,eb1):=hr
   simp +contextual only [qa,qa0,ca,ca0,rc,rc0,sc,sc0,r0,r2,r3,cR,g,gd,hr1,l1,f2,f4,f5,go_sem]
   refine qQ (bytes:=208) r hA1 hE f1 (Jp hrs) (by omega) (by omega) fun d3 T2 j3 hB hE2 hk2 hj=>?_
   obtain ⟨hB0,hB1,rfl,hB3⟩:=hB
   simp +contextual only [qa,qa0,ca,ca0,rc,rc0,sc,sc0,r0,r2,r3,ek,go_sem]
   exact ⟨b1,eb1,u ++ [r],_,some j3,rfl,hE2,⟨hB0,hB1,rfl,hB3⟩,hz,by omega,by simp;omega,(fun x hx=>by
    rcases List.mem_append.1 hx with hx | hx
    ·exact hrs x hx
    ·rw [List.mem_singleton] at hx;subst hx;exact hS)⟩
 ·have g' : (eb != 0) = true:=by simpa using g
  rw [if_pos g'] at hz
  injection hz with hz
  injection hz with z1 hz;injection hz with z3 z4
  subst z1;subst z3;subst z4
  simp +contextual only [qa,qa0,ca,ca0,rc,rc0,sc,sc0,r0,r2,r3,g,go_sem]
  exact aL (fin e1) ⟨_,rfl⟩ hE
def wBy : List UInt8:=[98,121]
def nS : List UInt8:=[117,115,101]
def Ej : List UInt8:=[102,111,114]
def fG (F G : Nat) (toks : List D) (st : St) : Option (D × St) :=
 let N:=cS toks st
 let Y:=cS toks (aD toks wBy N.2)
 let W:=gA toks (aD toks nS Y.2)
 let I:=kQ toks Ej (aD toks [123] W.2)
 match Bn toks I.1 I.2 with
 | none=>none
 | some (x,st1)=>match eK (j5 F) toks G [] (if I.1 then aD toks [59] st1 else st1) with
  | none=>none
  | some (rs,st2)=>some (.agg ([.str N.1,.str Y.1,.str W.1,.bool I.1] ++ x.cells ++ [aA true rs]),st2)
def AJ (F G : Nat) : GE:=fun rest toks a e=>match rest with
 | []=>fG F G toks (a,e)
 | _=>none
theorem An {F : Nat} {toks : List D} (ht : toks.all bR = true) : ∀ (f : Nat) (rs : List D) (st : St) (r : List D × St),(∀ x ∈ rs,yP x) -> eK (j5 F) toks f rs st = some r -> ∀ x ∈ r.1,yP x
 | 0,_,_,_,_,h=>by simp [eK] at h
 | f + 1,rs,st,r,hr,h=>by
  simp only [eK] at h
  split at h
  ·injection h with h;subst h;exact hr
  ·split at h
   ·injection h with h;subst h;exact hr
   ·split at h
    ·cases h
    ·rename_i x st1 hx
     exact An ht f _ _ r (fun y hy=>by
      rcases List.mem_append.1 hy with hy | hy
      ·exact hr y hy
      ·rw [List.mem_singleton] at hy;subst hy;exact Bs ht hx) h
theorem Iy {l : List D} (h : ∀ x ∈ l,x.cl 0 0 = true) : (aA true l).cl 0 0 = true:=by
 have hl : ∀ l : List D,(∀ x ∈ l,x.cl 0 0 = true) -> D.clL 0 0 l = true:=by
  intro l
  induction l with
  | nil=>intro _;rfl
  | cons x l ih=>intro h;simp only [D.clL,h x (by simp),ih fun y hy=>h y (by simp [hy]),Bool.and_self]
 rcases aU true l with ⟨_,e⟩ | e
 ·rw [e];rfl
 ·rw [e];simp only [D.cl,hl l h];rfl
set_option maxHeartbeats 8000000 in
theorem A1v (F G : Nat) (hF : F <= 10000) (hG : G <= 10000) : bK Tryz.prog 73 (φC (AJ F G)):=by
 have hM : cQ []:=.nil
 refine dF (l:=[]) (m:=[]) (ee:=[(121,φC kB),(71,φC bV),(72,φC tD),(69,φC cR),(122,φC mU),(123,φC (Cc F))]) .nil .nil (.cons L9 (.cons G3 (.cons Xa (.cons xN (.cons Pv (.cons (Vv F hF) .nil)))))) ZG fun H p n xs a e rest r a' e' hp htk hlen h=>?_
 unfold AJ at h
 split at h
 ·have qa:=dC (n:=n) hp htk hlen;have qa0:=bY (n:=n) hp htk hlen;have ca:=cV (n:=n) hp htk hlen;have ca0:=cC (n:=n) hp htk hlen;have rc:=fA hp;have rc0:=cU hp;have sc:=fun K : D -> S -> Prop=>fM (K:=K) hp;have sc0:=fun K : D -> S -> Prop=>d9 (K:=K) hp
  unfold fG at h
  obtain ⟨w1,⟨a1,e1⟩,hy1⟩ : ∃ w1 st1,cS xs (a,e) = (w1,st1):=⟨_,_,rfl⟩
  obtain ⟨⟨a2,e2⟩,hy2⟩ : ∃ st2,aD xs wBy (a1,e1) = st2:=⟨_,rfl⟩
  obtain ⟨w3,⟨a3,e3⟩,hy3⟩ : ∃ w3 st3,cS xs (a2,e2) = (w3,st3):=⟨_,_,rfl⟩
  obtain ⟨⟨a4,e4⟩,hy4⟩ : ∃ st4,aD xs nS (a3,e3) = st4:=⟨_,rfl⟩
  obtain ⟨w5,⟨a5,e5⟩,hy5⟩ : ∃ w5 st5,gA xs (a4,e4) = (w5,st5):=⟨_,_,rfl⟩
  obtain ⟨⟨a6,e6⟩,hy6⟩ : ∃ st6,aD xs [123] (a5,e5) = st6:=⟨_,rfl⟩
  obtain ⟨b,⟨a7,e7⟩,hy7⟩ : ∃ b st7,kQ xs Ej (a6,e6) = (b,st7):=⟨_,_,rfl⟩
  simp only [hy1,hy2,hy3,hy4,hy5,hy6,hy7] at h
  split at h
  ·cases h
  rename_i x st8 hz
  obtain ⟨a8,e8⟩:=st8
  split at h
  ·cases h
  rename_i rs st9 hs
  obtain ⟨a9,e9⟩:=st9
  injection h with h
  injection h with g1 g2;injection g2 with g2 g3
  subst g2;subst g3
  have h1 : kB [] xs a e = some (.str w1,a1,e1):=by simp only [kB,hy1]
  have h2 : bV [.str [98,121]] xs a1 e1 = some (.tup [],a2,e2):=by simp only [bV];rw [show aD xs [98,121] (a1,e1) = (a2,e2) from hy2]
  have h3 : kB [] xs a2 e2 = some (.str w3,a3,e3):=by simp only [kB,hy3]
  have h4 : bV [.str [117,115,101]] xs a3 e3 = some (.tup [],a4,e4):=by simp only [bV];rw [show aD xs [117,115,101] (a3,e3) = (a4,e4) from hy4]
  have h5 : tD [] xs a4 e4 = some (.str w5,a5,e5):=by simp only [tD,hy5]
  have h6 : bV [.str [123]] xs a5 e5 = some (.tup [],a6,e6):=by simp only [bV,hy6]
  have h7 : cR [.str [102,111,114]] xs a6 e6 = some (.bool b,a7,e7):=by
   rw [oO];rw [show kQ xs [102,111,114] (a6,e6) = (b,(a7,e7)) from hy7]
  have hx8 : ex8 x:=Dp htk hz
  have hrs:=An htk G [] _ (rs,(a9,e9)) (by simp) hs
  obtain ⟨⟨b0,b1,b2,b3,b4,b5,b6,b7,rfl⟩,ee,hcl⟩:=hx8
  have hr : r = .agg [.str w1,.str w3,.str w5,.bool b,b0,b1,b2,b3,b4,b5,b6,b7,aA true rs]:=g1.symm
  subst hr
  refine ⟨by simp,?_,fun T=>?_⟩
  ·have q:=Iy fun x hx=>(wJ (hrs x hx)).2.2.1
   simp only [D.cl,D.clL,q,Bool.and_true,Bool.true_and] at hcl ⊢
   simpa using hcl
  rw [Du 8]
  obtain ⟨⟨aa,eb⟩,hst⟩ : ∃ st,(if b = true then aD xs [59] (a8,e8) else (a8,e8)) = st:=⟨_,rfl⟩
  rw [hst] at hs
  have tail:=fun (t : Nat -> D) (T0 : Tk) hT0 t0 t2 t3=>ND (F:=F) (X:=XE [] [] [(121,φC kB),(71,φC bV),(72,φC tD),(69,φC cR),(122,φC mU),(123,φC (Cc F))]) rfl (n:=n) hp htk hlen T (hi:=b) (nm:=w1) (by':=w3) (us:=w5) (x0:=b0) (x1:=b1) (x2:=b2) (x3:=b3) (x4:=b4) (x5:=b5) (x6:=b6) (x7:=b7) ee (y0:=.str []) (Y:=[.str [],.str [],.bool false,.str [],.int .i64 0,.int .i64 0,.str [],.nils,.str [],.str [],.nils,.nils]) rfl hG hs (t:=t) (T0:=T0) hT0 t0 t2 t3
  obtain ⟨tl,htl⟩ : ∃ z,C.tl 8 c73 = z:=⟨_,rfl⟩
  rw [htl] at tail ⊢
  obtain ⟨Q,hQ⟩ : ∃ Q,mW [.inr (2,true,13)] (dB (.agg [.str w1,.str w3,.str w5,.bool b,b0,b1,b2,b3,b4,b5,b6,b7,aA true rs]) (H.set p (.row [aA n xs,.int .i64 ((a9 : Nat) : Int),.int .i64 e9])) T) = Q:=⟨_,rfl⟩
  rw [hQ] at tail ⊢
  cases b with
  | true =>
   have h8 : mU [] xs a7 e7 = some (.agg [b0,b1,b2,b3,b4,b5,b6,b7],a8,e8):=hz
   have h9 : bV [.str [59]] xs a8 e8 = some (.tup [],aa,eb):=by simp only [bV];rw [show aD xs [59] (a8,e8) = (aa,eb) from hst]
   simp +contextual only [qa,qa0,ca,ca0,rc,rc0,sc,sc0,c73,h1,h2,h3,h4,h5,h6,h7,h8,h9,ee,go_sem]
   refine tail _ _ ?_ ?_ ?_ ?_
   ·exact ⟨_,(List.append_nil _).symm⟩
   ·simp [upd,bF]
   ·simp [upd,bF]
   ·simp [upd,bF]
  | false =>
   have hz' : some ((iO,(a7,e7)) : D × St) = some (.agg [b0,b1,b2,b3,b4,b5,b6,b7],(a8,e8)):=hz
   have hst' : (a8,e8) = (aa,eb):=hst
   injection hst' with s1 s2
   subst s1;subst s2
   injection hz' with hz'
   injection hz' with z1 z2;injection z2 with z2 z3
   subst z2;subst z3
   simp only [iO] at z1
   injection z1 with z1
   simp only [List.cons.injEq,and_true] at z1
   obtain ⟨rfl,rfl,rfl,rfl,rfl,rfl,rfl,rfl⟩:=z1
   simp +contextual only [qa,qa0,ca,ca0,rc,rc0,sc,sc0,c73,h1,h2,h3,h4,h5,h6,h7,go_sem]
   refine tail _ _ ?_ ?_ ?_ ?_
   ·exact ⟨_,(List.append_nil _).symm⟩
   ·simp [upd,bF]
   ·simp [upd,bF]
   ·simp [upd,bF]
 ·cases h
def JI : List UInt8:=[102,97,99,116]
def zY : List UInt8:=[112,111,108,105,99,121]
def gH (P : gP) (w : List UInt8) (toks : List D) : Nat -> List D -> St -> Option (List D × St)
 | 0,_,_=>none
 | f + 1,xs,st=>if isP toks st w then match P toks (st.1 + 1,st.2) with
  | none=>none
  | some (x,st1)=>gH P w toks f (xs ++ [x]) st1
  else some (xs,st)
def oI : gP:=fun toks st=>some (pN toks st)
def FC (x : D) : Prop:=∃ (w n : List UInt8) (k : Int) (b : Bool),x = .agg [.str w,.str n,.int .i64 k,.bool b]
theorem Bo (toks : List D) (st : St) : FC (pN toks st).1:=⟨_,_,_,_,rfl⟩
theorem AF {r : D} (h : FC r) : fit 4 r = true /\ r.erase = r /\ r.cl 0 0 = true /\ r.okc = true /\ r.cells.length = 4:=by
 obtain ⟨w,n,k,b,rfl⟩:=h
 exact ⟨rfl,rfl,rfl,rfl,rfl⟩
def L6 (r : D) : Prop:=∃ (nm by' us : List UInt8) (hi : Bool) (b0 b1 b2 b3 b4 b5 b6 b7 : D) (rs : List D),r = .agg [.str nm,.str by',.str us,.bool hi,b0,b1,b2,b3,b4,b5,b6,b7,aA true rs] /\ ex8 (.agg [b0,b1,b2,b3,b4,b5,b6,b7]) /\ ∀ x ∈ rs,yP x
theorem DB {F G : Nat} {toks : List D} (ht : toks.all bR = true) {st : St} {r : D × St} (h : fG F G toks st = some r) : L6 r.1:=by
 unfold fG at h
 simp only at h
 split at h
 ·cases h
 ·rename_i x st1 hz
  have hx:=Dp ht hz
  split at h
  ·cases h
  ·rename_i rs st2 hs
   have hrs:=An ht G [] _ (rs,st2) (by simp) hs
   injection h with h;subst h
   obtain ⟨⟨b0,b1,b2,b3,b4,b5,b6,b7,rfl⟩,ee,hc⟩:=hx
   exact ⟨_,_,_,_,b0,b1,b2,b3,b4,b5,b6,b7,rs,rfl,⟨⟨_,_,_,_,_,_,_,_,rfl⟩,ee,hc⟩,hrs⟩
theorem DW {r : D} (h : L6 r) : fit 13 r = true /\ r.erase = r /\ r.cl 0 0 = true /\ r.okc = true /\ r.cells.length = 13:=by
 obtain ⟨nm,by',us,hi,b0,b1,b2,b3,b4,b5,b6,b7,rs,rfl,⟨_,ee,hc⟩,hrs⟩:=h
 have q:=Iy fun x hx=>(wJ (hrs x hx)).2.2.1
 refine ⟨rfl,?_,?_,rfl,rfl⟩
 ·simp only [D.erase,D.eraseL,D.agg.injEq,List.cons.injEq,and_true] at ee
  obtain ⟨q0,q1,q2,q3,q4,q5,q6,q7⟩:=ee
  simp only [D.erase,D.eraseL,bE,yS hrs,q0,q1,q2,q3,q4,q5,q6,q7]
 ·simp only [D.cl,D.clL,q,Bool.and_true,Bool.true_and] at hc ⊢
  simpa using hc
theorem EQ {P : gP} {p : D -> Prop} {w : List UInt8} {toks : List D} (hP : ∀ st r,P toks st = some r -> p r.1) : ∀ (f : Nat) (xs : List D) (st : St) (r : List D × St),(∀ x ∈ xs,p x) -> gH P w toks f xs st = some r -> ∀ x ∈ r.1,p x
 | 0,_,_,_,_,h=>by simp [gH] at h
 | f + 1,xs,st,r,hx,h=>by
  simp only [gH] at h
  split at h
  ·split at h
   ·cases h
   ·rename_i x st1 hy
    exact EQ hP f _ _ r (fun y hy'=>by
     rcases List.mem_append.1 hy' with hy' | hy'
     ·exact hx y hy'
     ·rw [List.mem_singleton] at hy';subst hy';exact hP _ _ hy) h
  ·injection h with h;subst h;exact hx
def bS : D:=.agg [.nils,.str [],.nils]
def OS (F G : Nat) (toks : List D) (st : St) : Option (D × Nat × Int):=match gH oI JI toks G [] st with
 | none=>none
 | some (fs,st1)=>match gH (fG F G) zY toks G [] (aD toks [59] (gA toks (aD toks nS st1)).2) with
  | none=>none
  | some (ps,st4)=>some (if (lG toks st4).2 != 0 then (bS,(lG toks st4).1,(lG toks st4).2) else (.agg [aA true fs,.str (gA toks (aD toks nS st1)).1,aA true ps],0,0))
def qB (toks : List D) : Option (D × Nat × Int):=if 600 < toks.length then some (bS,0,13) else OS 1000 1000 toks (0,0)
def rA : List D -> Option D
 | [l]=>if FF l && (elems l).all bR && decide ((elems l).length <= 2 ^ 40) then (qB (elems l)).map fun r=>.tup [r.1,.int .i64 (r.2.1 : Nat),.int .i64 r.2.2] else none
 | _=>none
set_option maxHeartbeats 8000000 in
theorem A1z : aO Tryz.prog 31 rA:=by
 refine Qo (l:=[]) (m:=[]) (e:=[(69,φC cR),(70,φC FY),(71,φC bV),(72,φC tD),(73,φC (AJ 1000 1000)),(50,φC M8)]) .nil .nil (.cons xN (.cons A0F (.cons G3 (.cons Xa (.cons (A1v 1000 1000 (by omega) (by omega)) (.cons A0t .nil)))))) ZB fun args r h=>?_
 have hM : cQ []:=.nil
 unfold rA at h
 split at h
 ·rename_i l
  split at h
  ·rename_i hc
   simp only [Bool.and_eq_true,decide_eq_true_eq] at hc
   obtain ⟨⟨hs,htk⟩,hlen⟩:=hc
   obtain ⟨n,hn⟩:=n7 hs
   obtain ⟨xs,hx⟩ : ∃ xs,elems l = xs:=⟨_,rfl⟩
   rw [hx] at htk hlen hn h
   subst hn
   unfold qB at h
   split at h
   ·rename_i g
    have d : decide ((600 : Int) < xs.length) = true:=by simp only [decide_eq_true_eq];omega
    injection h with h
    simp only at h
    subst h
    refine ⟨by simp,rfl,fun H T=>?_⟩
    simp +contextual only [c31,d,bS,go_sem]
    exact lvM
   ·rename_i g
    have hl : xs.length <= 600:=by omega
    have d : decide ((600 : Int) < xs.length) = false:=by simp only [decide_eq_false_iff_not];omega
    have htq:=z6 htk
    unfold OS at h
    split at h
    ·cases h
    rename_i fs st1 hfs
    obtain ⟨a1,e1⟩:=st1
    obtain ⟨⟨a2,e2⟩,hy2⟩ : ∃ st,aD xs nS (a1,e1) = st:=⟨_,rfl⟩
    obtain ⟨w,⟨a3,e3⟩,hy3⟩ : ∃ w st,gA xs (a2,e2) = (w,st):=⟨_,_,rfl⟩
    obtain ⟨⟨a4,e4⟩,hy4⟩ : ∃ st,aD xs [59] (a3,e3) = st:=⟨_,rfl⟩
    simp only [hy2,hy3,hy4] at h
    split at h
    ·cases h
    rename_i ps st5 hps
    obtain ⟨a5,e5⟩:=st5
    obtain ⟨⟨a6,e6⟩,hy6⟩ : ∃ st,lG xs (a5,e5) = st:=⟨_,rfl⟩
    simp only [hy6,Option.map_some,Option.some.injEq] at h
    have hfS:=EQ (p:=FC) (fun st r (h : oI xs st = some r)=>by
     unfold oI at h;injection h with h;rw [<- h];exact Bo _ _) 1000 [] _ (fs,(a1,e1)) (by simp) hfs
    have hpS:=EQ (p:=L6) (fun st r h=>DB htk h) 1000 [] _ (ps,(a5,e5)) (by simp) hps
    have hfc:=Iy fun x hx=>(AF (hfS x hx)).2.2.1
    have hpc:=Iy fun x hx=>(DW (hpS x hx)).2.2.1
    refine ⟨by simp,?_,fun H T=>?_⟩
    ·rw [<- h]
     split <;> simp [D.cl,D.clL,bS,hfc,hpc]
    simp +contextual only [c31,d,go_sem]
    refine bG (fun i s'=>∃ (b : Nat) (eb : Int) (u : List D) (d1 : D) (i1 : Option Nat),s'.t 2 = .ptr H.length 0 /\ s'.t 5 = .ptr (H.length + 1) 0 /\ s'.t 6 = .ptr (H.length + 2) 0 ∧
      s'.H = H ++ [.row [.nils,.str [],.nils],.row [aA n xs,.int .i64 ((b : Nat) : Int),.int .i64 eb],.row [d1,.str [],.nils]] ∧
      bQ T s'.T /\ xK 4 T i1 u d1 s'.T /\ gH oI JI xs (1000 - i) u (b,eb) = some (fs,(a1,e1)) /\ i <= 1000 /\ u.length <= i /\ ∀ x ∈ u,FC x) 1000
     ⟨0,0,0,[],.nils,none,by simp [upd,bF],by simp [upd,bF],by simp [upd,bF],rfl,bQ.refl _,⟨rfl,rfl⟩,hfs,by omega,by simp,by simp⟩
     (fun i s h=>by obtain ⟨_,_,_,_,_,h⟩:=h;exact h.2.2.2.2.2.2.2.1) ?_ (jV _ _ _)
    rintro i ⟨t',B,T'⟩ ⟨b,eb,u,d1,i1,r2,r5,r6,rfl,hE,hA1,hz,hi',hul,hus⟩
    simp only at r2 r5 r6 hE hA1
    have cc:=fun (g : GE) (rest : List D) (b : Nat) (eb : Int) (d : List D) (r : D) (a' : Nat) (e' : Int) (h : g rest xs b eb = some (r,a',e'))=>P4 (n:=n) (A:=H ++ [.row [.nils,.str [],.nils]]) (B:=[.row d]) htk hl g rest b eb h
    simp only [List.length_append,List.length_cons,List.length_nil,List.append_assoc,List.cons_append,List.nil_append,Nat.zero_add] at cc
    obtain ⟨k,hk⟩ : ∃ k,1000 - i = k:=⟨_,rfl⟩
    rw [hk] at hz
    cases k with
    | zero=>simp [gH] at hz
    | succ k =>
    simp only [gH] at hz
    have ek : 1000 - (i + 1) = k:=by omega
    rcases tf (isP xs (b,eb) JI) with gd | gd
    ·rw [if_pos gd] at hz
     obtain ⟨x,⟨b1,eb1⟩,hx1⟩ : ∃ x st,pN xs (b + 1,eb) = (x,st):=⟨_,_,rfl⟩
     have hxS : FC x:=by have:=Bo xs (b + 1,eb);rw [hx1] at this;exact this
     obtain ⟨f1,f2,f3,f4,f5⟩:=AF hxS
     simp only [oI,hx1] at hz
     have m1 : cR [.str [102,97,99,116]] xs b eb = some (.bool true,b + 1,eb):=by rw [oO];unfold kQ;rw [show isP xs (b,eb) [102,97,99,116] = true from gd];rfl
     have m2 : FY [] xs (b + 1) eb = some (x,b1,eb1):=by simp only [FY,hx1]
     have c1:=cc _ _ _ _ [d1,.str [],.nils] _ _ _ m1
     have c2:=cc _ _ _ _ [d1,.str [],.nils] _ _ _ m2
     simp +contextual only [r2,r5,r6,c1,c2,f2,f4,f5,go_sem]
     refine qQ (bytes:=48) x hA1 hE f1 (List.all_eq_true.2 fun y hy=>(AF (hus y hy)).1) (by omega) (by omega) fun d3 T2 j3 hB hE2 hk2 hj=>?_
     obtain ⟨hB0,hB1,rfl,hB3⟩:=hB
     simp +contextual only [r2,r5,r6,ek,go_sem]
     exact ⟨b1,eb1,u ++ [x],_,some j3,rfl,hE2,⟨hB0,hB1,rfl,hB3⟩,hz,by omega,by simp;omega,(fun y hy=>by
      rcases List.mem_append.1 hy with hy | hy
      ·exact hus y hy
      ·rw [List.mem_singleton] at hy;subst hy;exact hxS)⟩
    ·rw [if_neg (by rw [gd];decide)] at hz
     injection hz with hz
     injection hz with z1 hz;injection hz with z2 z3
     subst z1;subst z2;subst z3
     have m1 : cR [.str [102,97,99,116]] xs b eb = some (.bool false,b,eb):=by rw [oO];unfold kQ;rw [show isP xs (b,eb) [102,97,99,116] = false from gd];rfl
     have m2 : bV [.str [117,115,101]] xs b eb = some (.tup [],a2,e2):=by simp only [bV];rw [show aD xs [117,115,101] (b,eb) = (a2,e2) from hy2]
     have m3 : tD [] xs a2 e2 = some (.str w,a3,e3):=by simp only [tD,hy3]
     have m4 : bV [.str [59]] xs a3 e3 = some (.tup [],a4,e4):=by simp only [bV,hy4]
     have c1:=cc _ _ _ _ [d1,.str [],.nils] _ _ _ m1
     have c2:=cc _ _ _ _ [d1,.str [],.nils] _ _ _ m2
     have c3:=cc _ _ _ _ [d1,.str [],.nils] _ _ _ m3
     have c4:=cc _ _ _ _ [d1,.str w,.nils] _ _ _ m4
     simp +contextual only [r2,r5,r6,c1,c2,c3,c4,go_sem]
     refine bG (fun i s'=>∃ (b : Nat) (eb : Int) (v : List D) (d2 : D) (i2 : Option Nat) ,s'.t 2 = .ptr H.length 0 /\ s'.t 5 = .ptr (H.length + 1) 0 /\ s'.t 6 = .ptr (H.length + 2) 0 ∧
       s'.H = H ++ [.row [.nils,.str [],.nils],.row [aA n xs,.int .i64 ((b : Nat) : Int),.int .i64 eb],.row [d1,.str w,d2]] ∧
       bQ T s'.T /\ xK 4 T i1 u d1 s'.T /\ xK 13 T i2 v d2 s'.T /\ (∀ j,i1 = some j -> i2 ≠ some j) /\ gH (fG 1000 1000) zY xs (1000 - i) v (b,eb) = some (ps,(a5,e5)) /\ i <= 1000 /\ v.length <= i /\ ∀ x ∈ v,L6 x) 1000
      ⟨0,a4,e4,[],.nils,none,by simp [upd,r2],by simp [upd,r5],by simp [upd,r6],rfl,hE,hA1,⟨rfl,rfl⟩,(fun j _ q=>by cases q),hps,by omega,by simp,by simp⟩
      (fun i s h=>by obtain ⟨_,_,_,_,_,h⟩:=h;exact h.2.2.2.2.2.2.2.2.2.1) ?_ (jV _ _ _)
     rintro i' ⟨t2,B2,T2⟩ ⟨b',eb',v,d2,i2,q2,q5,q6,rfl,hE2,hB1,hB2,hD,hz2,hi2,hvl,hvs⟩
     simp only at q2 q5 q6 hE2 hB1 hB2
     obtain ⟨k2,hk2⟩ : ∃ k,1000 - i' = k:=⟨_,rfl⟩
     rw [hk2] at hz2
     cases k2 with
     | zero=>simp [gH] at hz2
     | succ k2 =>
     simp only [gH] at hz2
     have ek2 : 1000 - (i' + 1) = k2:=by omega
     rcases tf (isP xs (b',eb') zY) with gp | gp
     ·rw [if_pos gp] at hz2
      split at hz2
      ·cases hz2
      rename_i x st1 hx1
      obtain ⟨b1,eb1⟩:=st1
      have hxS : L6 x:=DB htk hx1
      obtain ⟨f1,f2,f3,f4,f5⟩:=DW hxS
      have m1 : cR [.str [112,111,108,105,99,121]] xs b' eb' = some (.bool true,b' + 1,eb'):=by rw [oO];unfold kQ;rw [show isP xs (b',eb') [112,111,108,105,99,121] = true from gp];rfl
      have m2 : AJ 1000 1000 [] xs (b' + 1) eb' = some (x,b1,eb1):=hx1
      have c1:=cc _ _ _ _ [d1,.str w,d2] _ _ _ m1
      have c2:=cc _ _ _ _ [d1,.str w,d2] _ _ _ m2
      simp +contextual only [q2,q5,q6,c1,c2,f2,f4,f5,go_sem]
      refine qQ (bytes:=208) x hB2 hE2 f1 (List.all_eq_true.2 fun y hy=>(DW (hvs y hy)).1) (by omega) (by omega) fun d3 T3 j3 hB hE3 hkk hj=>?_
      obtain ⟨hB0,hB1',rfl,hB3⟩:=hB
      simp +contextual only [q2,q5,q6,ek2,go_sem]
      exact ⟨b1,eb1,v ++ [x],_,some j3,rfl,hE3,xU hB1 (fun j hj2=>by
       subst hj2
       exact hkk j (fun q=>hD j rfl q.symm) (rW hB1)),⟨hB0,hB1',rfl,hB3⟩,(fun j q q2=>by
       injection q2 with q2;subst q2;subst q
       rcases hj with hj | hj
       ·have:=rW hB1;omega
       ·exact hD _ rfl hj.symm),hz2,by omega,by simp;omega,(fun y hy=>by
       rcases List.mem_append.1 hy with hy | hy
       ·exact hvs y hy
       ·rw [List.mem_singleton] at hy;subst hy;exact hxS)⟩
     ·rw [if_neg (by rw [gp];decide)] at hz2
      injection hz2 with hz2
      injection hz2 with z1 hz2;injection hz2 with z2 z3
      subst z1;subst z2;subst z3
      have m1 : cR [.str [112,111,108,105,99,121]] xs b' eb' = some (.bool false,b',eb'):=by rw [oO];unfold kQ;rw [show isP xs (b',eb') [112,111,108,105,99,121] = false from gp];rfl
      have m2 : M8 [] xs b' eb' = some (if e6 == 0 then .tup [.int .i64 0,.int .i64 0] else .tup [.int .i64 (a6 : Nat),.int .i64 e6],a6,e6):=by simp only [M8,hy6]
      have fe : D.eraseL u = u:=bB fun x hx=>(AF (hfS x hx)).2.1
      have pe : D.eraseL v = v:=bB fun x hx=>(DW (hpS x hx)).2.1
      have e1:=iG hB1 fe
      have e2:=iG hB2 pe
      have c1:=cc _ _ _ _ [d1,.str w,d2] _ _ _ m1
      rcases tf (e6 == 0) with g6 | g6
      ·rw [g6] at m2
       have g6' : (e6 != 0) = false:=by simpa using g6
       rw [g6'] at h
       simp only [Bool.false_eq_true,if_false] at h
       rw [if_pos rfl] at m2
       have c2:=cc _ _ _ _ [d1,.str w,d2] _ _ _ m2
       have z0 : ((0 : Int) != 0) = false:=rfl
       subst h
       simp +contextual only [q2,q5,q6,c1,c2,z0,go_sem]
       refine aL ?_ ⟨_,rfl⟩ hE2
       simp only [D.erase,D.eraseL,e1,e2]
      ·rw [g6] at m2
       have g6' : (e6 != 0) = true:=by simpa using g6
       rw [g6'] at h
       simp only [if_true] at h
       rw [if_neg (by decide)] at m2
       have c2:=cc _ _ _ _ [d1,.str w,d2] _ _ _ m2
       subst h
       simp +contextual only [q2,q5,q6,c1,c2,g6',bS,go_sem]
       exact aL rfl ⟨_,rfl⟩ hE2
  ·cases h
 ·cases h
theorem rY {n : Nat} {e : D} (h : isE (n + 1) e) : ∀ x ∈ eps e,isE n x:=by
 obtain ⟨op,k,i,t,nl,l,who,name,m,ps,rfl,_,_,_,_,_,h6,_⟩:=fN h
 rw [lR];exact h6
def zZ : List D -> Option D
 | []=>some (.bool true)
 | _=>none
theorem NE (s : List UInt8) : zB s = inB iY s:=by
 unfold zB inB
 congr 1;funext x;rw [Bool.eq_iff_iff];simp only [beq_iff_eq];exact ⟨fun h=>h.symm,fun h=>h.symm⟩
def okZ (f : D -> D -> Bool) (xs ys : List D) (i : Nat) : Bool:=match xs[i]?,ys[i]? with
 | some x,some y=>f x y
 | _,_=>true
def Kh (f : D -> D -> Bool) (xs ys : List D) : Bool:=if xs.length == ys.length then (List.range xs.length).all (okZ f xs ys) else false
def iV : Nat -> D -> D -> Bool
 | 0,_,_=>false
 | n + 1,a,b=>if (eop a != eop b) || (lP a != lP b) || (fB a != fB b) || !kR (eV a) (eV b) then false else Kh (iV n) (eps a) (eps b)
open Classical in
noncomputable def M1 (n : Nat) : List D -> Option D
 | [x,y]=>if isE n x /\ isE n y then some (.bool (kR (eV x) (eV y))) else none
 | _=>none
theorem Zv (n : Nat) : aO Tryz.prog 51 (M1 n):=by
 refine aG (l:=[(54,nX)]) (.cons T8 .nil) ZP fun args r h=>?_
 unfold M1 at h
 split at h
 ·rename_i x y
  split at h
  ·rename_i hc
   injection h with h;subst h
   refine ⟨by simp,by simp [D.cl],fun H T=>?_⟩
   obtain ⟨op,k,i,t,nl,l,who,name,m,ps,rfl,h1,h2,h3,h4,h5,h6,eL,eP⟩:=fN hc.1
   obtain ⟨op',k',i',t',nl',l',who',name',m',ps',rfl,h1',h2',h3',h4',h5',h6',eL',eP'⟩:=fN hc.2
   have p:=Iw h4.1 h4'.1
   simp only [A2z]
   obtain ⟨sb,hsb⟩ : ∃ z,kR (mkV k i t nl l) (mkV k' i' t' nl' l') = z:=⟨_,rfl⟩
   simp only [hsb] at p ⊢
   simp only [mkV] at p
   simp +contextual only [c51,mkE,eL,eL',eP,eP',p,go_sem]
  ·cases h
 ·cases h
open Classical in
noncomputable def oT (n : Nat) : List D -> Option D
 | [x,y]=>if isE n x /\ isE n y then some (.bool (iV n x y)) else none
 | _=>none
set_option maxHeartbeats 4000000 in
theorem Xb : ∀ n,aO Tryz.prog 20 (oT n)
 | 0=>fun args r h=>by
  unfold oT at h
  split at h
  ·split at h
   ·rename_i h';exact h'.1.elim
   ·cases h
  ·cases h
 | n + 1=>by
  refine aG (l:=[(51,M1 (n + 1)),(20,oT n)]) (.cons (Zv (n + 1)) (.cons (Xb n) .nil)) A1y fun args r h=>?_
  unfold oT at h
  split at h
  ·rename_i x y
   split at h
   ·rename_i hc
    injection h with h;subst h
    refine ⟨by simp,by simp [D.cl],fun H T=>?_⟩
    have psv : M1 (n + 1) [x,y] = some (.bool (kR (eV x) (eV y))):=by simp only [M1];rw [if_pos hc]
    obtain ⟨op,k,i,t,nl,l,who,name,m,ps,rfl,h1,h2,h3,h4,h5,h6,eL,eP⟩:=fN hc.1
    obtain ⟨op',k',i',t',nl',l',who',name',m',ps',rfl,h1',h2',h3',h4',h5',h6',eL',eP'⟩:=fN hc.2
    have h6 : ∀ x ∈ ps,isE n x:=h6
    have h6' : ∀ x ∈ ps',isE n x:=h6'
    have hS : iV (n + 1) (mkE op k i t nl l who name m ps) (mkE op' k' i' t' nl' l' who' name' m' ps') = if (op != op') || (who != who') || (name != name') || !kR (mkV k i t nl l) (mkV k' i' t' nl' l') then false else Kh (iV n) ps ps':=by
     simp only [iV,A2v,A2w,A2s,A2z,lR]
    rw [hS]
    clear hS
    simp only [A2z] at psv
    obtain ⟨sb,hsb⟩ : ∃ z,kR (mkV k i t nl l) (mkV k' i' t' nl' l') = z:=⟨_,rfl⟩
    simp only [hsb] at psv ⊢
    simp only [mkE] at psv
    have bl:=IP ps.length ps'.length
    rcases tf (op != op') with g1 | g1
    ·rw [g1];simp +contextual only [c20,mkE,eL,eL',eP,eP',g1,go_sem]
    rcases tf (who != who') with g2 | g2
    ·rw [g1,g2];simp +contextual only [c20,mkE,eL,eL',eP,eP',g1,g2,go_sem]
    rcases tf (name != name') with g3 | g3
    ·rw [g1,g2,g3];simp +contextual only [c20,mkE,eL,eL',eP,eP',g1,g2,g3,go_sem]
    rw [g1,g2,g3]
    cases sb with
    | false=>simp +contextual only [c20,mkE,eL,eL',eP,eP',g1,g2,g3,psv,go_sem]
    | true =>
    rcases tf (ps.length == ps'.length) with g4 | g4
    ·rw [g4] at bl
     have hZ : Kh (iV n) ps ps' = (List.range ps.length).all (okZ (iV n) ps ps'):=by unfold Kh;rw [if_pos g4]
     rw [hZ]
     have hl : ps.length = ps'.length:=by simpa using g4
     simp +contextual only [c20,mkE,eL,eL',eP,eP',g1,g2,g3,psv,bl,go_sem]
     refine bG (fun j s'=>s'.t 2 = .ptr H.length 0 /\ s'.t 3 = .ptr (H.length + 1) 0 /\ s'.t 5 = .int .i64 j /\ s'.H = H ++ [.row [.str op,.int .i64 k,.int .i64 i,.str t,aA nl l,.str who,.str name,aA m ps],.row [.str op',.int .i64 k',.int .i64 i',.str t',aA nl' l',.str who',.str name',aA m' ps']] /\ s'.T = T /\ j <= ps.length /\ (List.range j).all (okZ (iV n) ps ps') = true) ps.length ⟨0,by simp [upd,bF]⟩ (fun i s h=>h.2.2.2.2.2.1) ?_ (aI _)
     rintro j ⟨t1,B,T'⟩ ⟨r2,r3,r5,rfl,rfl,hj,hc'⟩
     simp only at r2 r3 r5
     by_cases ha : j < ps.length
     ·have d1 : decide ((j : Int) < ps.length) = true:=by simpa using ha
      have hb : j < ps'.length:=by omega
      have hx:=h6 _ (List.getElem_mem ha)
      have hy:=h6' _ (List.getElem_mem hb)
      have ex : ps[j]? = some ps[j]:=by simp [ha]
      have ey : ps'[j]? = some ps'[j]:=by simp [hb]
      have G : okZ (iV n) ps ps' j = iV n ps[j] ps'[j]:=by simp only [okZ,ex,ey]
      have bad : okZ (iV n) ps ps' j = false -> (List.range ps.length).all (okZ (iV n) ps ps') = false:=fun h=>gO h ha
      rw [G] at bad
      obtain ⟨x,hX⟩ : ∃ x,ps[j] = x:=⟨_,rfl⟩
      obtain ⟨y,hY⟩ : ∃ y,ps'[j] = y:=⟨_,rfl⟩
      rw [hX] at hx ex G bad
      rw [hY] at hy ey G bad
      have ee:=bW hx
      have ef:=bW hy
      obtain ⟨q1,q2,q3,q4⟩:=fT hx
      obtain ⟨s1,s2,s3,s4⟩:=fT hy
      have px : oT n [x,y] = some (.bool (iV n x y)):=by simp only [oT];rw [if_pos ⟨hx,hy⟩]
      obtain ⟨b,hq⟩ : ∃ z,iV n x y = z:=⟨_,rfl⟩
      simp only [hq] at px G bad
      cases b with
      | true =>
       simp +contextual only [r2,r3,r5,d1,ex,ey,ee,ef,q1,q2,q3,q4,s1,s2,s3,s4,px,aH j (by omega),go_sem]
       refine ⟨by omega,?_⟩
       rw [List.all_append,hc']
       simp [G]
      | false =>
       have bad:=bad rfl
       simp +contextual only [r2,r3,r5,d1,ex,ey,ee,ef,q1,q2,q3,q4,s1,s2,s3,s4,px,bad,go_sem]
     ·have d1 : decide ((j : Int) < ps.length) = false:=by simpa using ha
      have : j = ps.length:=by omega
      subst this
      simp +contextual only [r2,r3,r5,d1,hc',go_sem]
    ·rw [g4] at bl
     have hZ : Kh (iV n) ps ps' = false:=by unfold Kh;rw [if_neg (by rw [g4];decide)]
     rw [hZ]
     simp +contextual only [c20,mkE,eL,eL',eP,eP',g1,g2,g3,psv,bl,go_sem]
   ·cases h
  ·cases h
def pkB (x : D) : Bool:=((tk x == 1) && (ts x != gB) && (ts x != hU)) || ((tk x == 5) && ((ts x == [46]) || (ts x == [43]) || (ts x == [42]) || (ts x == [60]) || (ts x == [91])))
def iC (l : List D) : Nat:=(l.filter pkB).length
def Pp (l : D) : Prop:=∃ (m : Bool) (xs : List (List UInt8)),l = aA m (xs.map D.str) /\ xs.length <= 2 ^ 47 /\ ∀ s ∈ xs,s.length <= 2 ^ 47
def txs (l : D) : List (List UInt8):=(elems l).map gY
theorem EK (m : Bool) (xs : List (List UInt8)) : txs (aA m (xs.map D.str)) = xs:=by
 unfold txs
 rw [aQ,List.map_map]
 have : (gY ∘ D.str) = id:=rfl
 rw [this,List.map_id]
def uQ (s : List UInt8) : Bool:=cG 3 s 0
open Classical in
noncomputable def v3 : List D -> Option D
 | [l]=>if Pp l then some (.bool ((txs l).all uQ)) else none
 | _=>none
set_option maxHeartbeats 1000000 in
theorem ZD : aO Tryz.prog 67 v3:=by
 refine aG (l:=[(57,dL)]) (.cons Lm .nil) A1H fun args r h=>?_
 unfold v3 at h
 split at h
 ·rename_i l
  split at h
  ·rename_i hc
   injection h with h;subst h
   obtain ⟨m,xs,rfl,hl,hs⟩:=hc
   rw [EK]
   refine ⟨by simp,by simp [D.cl],fun H T=>?_⟩
   simp +contextual only [c67,go_sem]
   refine bG (fun j s'=>s'.t 0 = aA m (xs.map D.str) /\ s'.t 3 = .int .i64 j /\ s'.H = H /\ s'.T = T /\ j <= xs.length /\ (xs.take j).all uQ = true) xs.length ⟨0,by simp [upd,bF]⟩ (fun i s h=>h.2.2.2.2.1) ?_ (aI _)
   rintro j ⟨t1,B,T'⟩ ⟨r0,r3,rfl,rfl,hj,hc⟩
   simp only at r0 r3
   by_cases ha : j < xs.length
   ·have d1 : decide ((j : Int) < ((xs.map D.str).length : Nat)) = true:=by simpa using ha
    have ex : xs[j]? = some xs[j]:=by simp [ha]
    have ey : (xs.map D.str)[j]? = some (.str xs[j]):=by rw [List.getElem?_map,ex];rfl
    have nx:=fun hp=>A7 (p:=uQ) ex hc hp
    have no:=fun hp=>A0 (p:=uQ) ex hp
    have hsx:=hs _ (List.getElem_mem ha)
    obtain ⟨x,hx⟩ : ∃ x,xs[j] = x:=⟨_,rfl⟩
    rw [hx] at ex ey nx no hsx
    have px : dL [.agg [.int .i64 3,.str x,.int .i64 0]] = some (.bool (uQ x)):=by simp only [dL];rw [if_pos (by omega)];rfl
    obtain ⟨xb,hxb⟩ : ∃ z,uQ x = z:=⟨_,rfl⟩
    simp only [hxb] at px nx no
    rw [List.length_map] at d1
    cases xb with
    | true =>
     have nx:=nx rfl
     simp +contextual only [r0,r3,d1,ey,px,List.length_map,aH j (by omega),go_sem]
     exact ⟨by omega,nx⟩
    | false =>
     have no:=no rfl
     simp +contextual only [r0,r3,d1,ey,px,List.length_map,no,go_sem]
   ·have d1 : decide ((j : Int) < xs.length) = false:=by simpa using ha
    have : j = xs.length:=by omega
    subst this
    rw [List.take_length] at hc
    simp +contextual only [r0,r3,d1,List.length_map,hc,go_sem]
  ·cases h
 ·cases h
noncomputable def CH (b : Bool) (e : D) : Bool:=if b then fmR aK e && decide (dpt aK e <= 12) else iV aK e iO
open Classical in
noncomputable def GN : List D -> Option D
 | [.bool b,e]=>if isE aK e then some (.bool (CH b e)) else none
 | _=>none
theorem FP : isE aK iO:=dH (LK 10000) (uM (m:=0) (op:=[]) (k:=0) (i:=0) (s:=[]) (nl:=true) (l:=[]) (who:=[]) (name:=[]) (q:=true) (ps:=[]) (by simp) (by simp) (by simp) fR (by simp) (fun z hz=>by cases hz))
theorem A07 : aO Tryz.prog 66 GN:=by
 refine aG (l:=[(20,oT aK),(21,qU aK),(22,jC aK)]) (.cons (Xb aK) (.cons (Wv aK) (.cons (VI aK Gb) .nil))) A1x fun args r h=>?_
 unfold GN at h
 split at h
 ·rename_i b e
  split at h
  ·rename_i he
   injection h with h;subst h
   refine ⟨by simp,by simp [D.cl],fun H T=>?_⟩
   have ee:=bW he
   obtain ⟨q1,q2,q3,q4⟩:=fT he
   have p1 : oT aK [e,iO] = some (.bool (iV aK e iO)):=by simp only [oT];rw [if_pos ⟨he,FP⟩]
   have p2 : qU aK [e] = some (.bool (fmR aK e)):=by simp only [qU];rw [if_pos he]
   have p3 : jC aK [e] = some (.int .i64 ((dpt aK e : Nat) : Int)):=by simp only [jC];rw [if_pos he]
   have p4 : decide (((dpt aK e : Nat) : Int) <= 12) = decide (dpt aK e <= 12):=by rw [decide_eq_decide];omega
   unfold CH
   obtain ⟨s,hs⟩ : ∃ z,iV aK e iO = z:=⟨_,rfl⟩
   obtain ⟨f,hf⟩ : ∃ z,fmR aK e = z:=⟨_,rfl⟩
   obtain ⟨dp,hdp⟩ : ∃ z,dpt aK e = z:=⟨_,rfl⟩
   rw [hs] at p1 ⊢;rw [hf] at p2 ⊢;rw [hdp] at p3 p4 ⊢
   simp only [iO] at p1
   cases b with
   | false=>simp +contextual only [c66,ee,q1,q2,q3,q4,p1,go_sem]
   | true =>
    cases f with
    | false=>simp +contextual only [c66,ee,q1,q2,q3,q4,p2,go_sem]
    | true=>simp +contextual only [c66,ee,q1,q2,q3,q4,p2,p3,p4,go_sem]
  ·cases h
 ·cases h
def PC (x : D) : Prop:=∃ n,isE n x
theorem LX {op : List UInt8} {k i : Int} {s : List UInt8} {nl : Bool} {l : List D} {who name : List UInt8} {m : Bool} {ps : List D} {y : D} (h : y ∈ ps) : sizeOf y < sizeOf (mkE op k i s nl l who name m ps):=by
 have h1:=List.sizeOf_lt_of_mem h
 have h2 : aA m ps = .sl none ps:=by
  rcases aU m ps with ⟨_,e⟩ | e
  ·subst e;cases h
  ·exact e
 simp only [mkE,h2,D.agg.sizeOf_spec,List.cons.sizeOf_spec,D.sl.sizeOf_spec]
 omega
theorem AC : ∀ (n : Nat) (x : D),isE n x -> isE (sizeOf x) x
 | 0,_,h=>h.elim
 | n + 1,x,⟨op,k,i,s,nl,l,who,name,m,ps,e,h1,h2,h3,h4,h5,h6⟩=>by
  obtain ⟨z,hz⟩ : ∃ z,sizeOf x = z + 1:=⟨sizeOf x - 1,by subst e;simp only [mkE,D.agg.sizeOf_spec];omega⟩
  rw [hz]
  refine ⟨op,k,i,s,nl,l,who,name,m,ps,e,h1,h2,h3,h4,h5,fun y hy=>?_⟩
  have:=LX (op:=op) (k:=k) (i:=i) (s:=s) (nl:=nl) (l:=l) (who:=who) (name:=name) (m:=m) hy
  rw [<- e,hz] at this
  exact dH (by omega) (AC n y (h6 y hy))
theorem PC.can {x : D} (h : PC x) : isE (sizeOf x) x:=by obtain ⟨n,hn⟩:=h;exact AC n x hn
theorem HV {f g : D -> Bool} {l : List D} (h : ∀ x ∈ l,f x = g x) : l.all f = l.all g:=by
 induction l with
 | nil=>rfl
 | cons x l ih=>simp only [List.all_cons,h x (by simp),ih fun y hy=>h y (by simp [hy])]
theorem Pn : ∀ (n : Nat) (e : D),isE n e -> fmR (n + 1) e = fmR n e
 | 0,_,h=>h.elim
 | n + 1,e,h=>by
  have:=HV fun x hx=>Pn n x (rY h x hx)
  show (if _ then false else if !((eps e).all (fmR (n + 1))) then false else tH e) = (if _ then false else if !((eps e).all (fmR n)) then false else tH e)
  simp only [this]
theorem FW {n m : Nat} {e : D} (h : isE n e) (hm : n <= m) : fmR m e = fmR n e:=by
 induction hm with
 | refl=>rfl
 | step hm ih=>rw [Pn _ e (dH hm h),ih]
noncomputable def fmC (x : D) : Bool:=fmR (sizeOf x) x
theorem Hb {n : Nat} {e : D} (h : isE n e) : fmR n e = fmC e:=by
 unfold fmC
 rw [<- FW h (Nat.le_max_left n (sizeOf e)),FW (AC n e h) (Nat.le_max_right n (sizeOf e))]
structure GoodE (e : D) : Prop where
 t : PC e
 f : fmC e = true
theorem GoodE.fm {n : Nat} {e : D} (h : GoodE e) (hn : isE n e) : fmR n e = true:=by rw [Hb hn];exact h.f
theorem FK {n : Nat} {e : D} (hn : isE n e) (h : fmR n e = true) : GoodE e:=⟨⟨n,hn⟩,by rw [<- Hb hn];exact h⟩
theorem sE {n : Nat} {e : D} (h : isE n e) : ∃ m,n = m + 1:=by cases n with
 | zero=>exact h.elim
 | succ n=>exact ⟨n,rfl⟩
theorem GoodE.parts {e : D} (h : GoodE e) : 0 <= stI (eop e) /\ ((eps e).length : Int) = arN (eop e) /\ (∀ x ∈ eps e,GoodE x) /\ tH e = true:=by
 obtain ⟨⟨n,hn⟩,hf⟩:=h
 obtain ⟨n,rfl⟩:=sE hn
 rw [<- Hb hn] at hf
 obtain ⟨h1,h2,h3,h4⟩:=Sd hf
 exact ⟨h1,h2,fun x hx=>FK (rY hn x hx) (h3 x hx),h4⟩
theorem v5 {e : D} (ht : PC e) (h1 : 0 <= stI (eop e)) (h2 : ((eps e).length : Int) = arN (eop e)) (h3 : ∀ x ∈ eps e,GoodE x) (h4 : tH e = true) : GoodE e:=by
 obtain ⟨n,hn⟩:=ht
 obtain ⟨n,rfl⟩:=sE hn
 refine FK hn ?_
 have d1 : decide (stI (eop e) < 0) = false:=by simp only [decide_eq_false_iff_not];omega
 have d2 : (((eps e).length : Int) != arN (eop e)) = false:=by simp [h2]
 have d3 : (eps e).all (fmR n) = true:=List.all_eq_true.2 fun x hx=>(h3 x hx).fm (rY hn x hx)
 simp only [fmR,d1,d2,d3,Bool.or_self,Bool.false_eq_true,if_false,Bool.not_true]
 exact h4
theorem qT {e : D} (h : 0 < (eps e).length) : eZ e ∈ eps e:=by
 unfold eZ
 rw [List.getD_eq_getElem?_getD,List.getElem?_eq_getElem h]
 exact List.getElem_mem h
theorem vU {e : D} (h : 1 < (eps e).length) : uA e ∈ eps e:=by
 unfold uA
 rw [List.getD_eq_getElem?_getD,List.getElem?_eq_getElem h]
 exact List.getElem_mem h
theorem ar1 {op : List UInt8} (h : (op == dN) = true ∨ (op == lF) = true ∨ (op == oJ) = true) : arN op = 1:=by
 rcases h with h | h | h <;> (rw [aM h];decide)
theorem Gw : ∀ (n : Nat) (full : Bool) (e : D),isE n e -> GoodE e -> eY (n + 1) full e = eY n full e
 | 0,_,_,h,_=>h.elim
 | n + 1,full,e,h,hg=>by
  obtain ⟨f1,f2,f3,f4⟩:=hg.parts
  have k0 : 0 < (eps e).length -> eY (n + 1) full (eZ e) = eY n full (eZ e):=fun hl=>Gw n full _ (rY h _ (qT hl)) (f3 _ (qT hl))
  have k1 : 1 < (eps e).length -> eY (n + 1) full (uA e) = eY n full (uA e):=fun hl=>Gw n full _ (rY h _ (vU hl)) (f3 _ (vU hl))
  rcases tf (eop e == fU) with g1 | g1
  ·rw [Bu g1,Bu g1]
  rcases tf (eop e == iZ) with g2 | g2
  ·rw [C1 g1 g2,C1 g1 g2]
  rcases tf (eop e == eJ) with g3 | g3
  ·rw [xD g1 g2 g3,xD g1 g2 g3]
  rcases tf (eop e == i8) with g4 | g4
  ·rw [BQ g1 g2 g3 g4,BQ g1 g2 g3 g4]
  rcases tf (eop e == dK) with g5 | g5
  ·rw [y8 g1 g2 g3 g4 g5,y8 g1 g2 g3 g4 g5]
  rcases tf (eop e == dN) with g6 | g6
  ·have:=ar1 (.inl g6)
   rw [x8 g1 g2 g3 g4 g5 g6,x8 g1 g2 g3 g4 g5 g6,k0 (by omega)]
  rcases tf (eop e == lF) with g7 | g7
  ·have:=ar1 (.inr (.inl g7))
   rw [Bl g1 g2 g3 g4 g5 g6 g7,Bl g1 g2 g3 g4 g5 g6 g7,k0 (by omega)]
  rcases tf (eop e == oJ) with g8 | g8
  ·have:=ar1 (.inr (.inr g8))
   rw [BR g1 g2 g3 g4 g5 g6 g7 g8,BR g1 g2 g3 g4 g5 g6 g7 g8,k0 (by omega)]
  ·have:=(Qj f1 g1 g2 g3 g4 g5 g6 g7 g8).2
   rw [Af g1 g2 g3 g4 g5 g6 g7 g8,Af g1 g2 g3 g4 g5 g6 g7 g8,k0 (by omega),k1 (by omega)]
theorem D9 {n m : Nat} {full : Bool} {e : D} (h : isE n e) (hg : GoodE e) (hm : n <= m) : eY m full e = eY n full e:=by
 induction hm with
 | refl=>rfl
 | step hm ih=>rw [Gw _ full e (dH hm h) hg,ih]
noncomputable def tkC (full : Bool) (x : D) : List D:=eY (sizeOf x) full x
theorem RN {n : Nat} {full : Bool} {e : D} (h : isE n e) (hg : GoodE e) : eY n full e = tkC full e:=by
 unfold tkC
 rw [<- D9 h hg (Nat.le_max_left n (sizeOf e)),D9 (AC n e h) hg (Nat.le_max_right n (sizeOf e))]
section
variable {full : Bool} {e : D}
theorem vF (h : GoodE e) : ∃ n,isE (n + 1) e /\ tkC full e = eY (n + 1) full e:=by
 obtain ⟨n,hn⟩:=sE h.t.can
 refine ⟨n,hn ▸ h.t.can,?_⟩
 unfold tkC;rw [hn]
theorem S0 (h : GoodE e) (g1 : (eop e == fU) = true) : tkC full e = qI (eV e):=by
 obtain ⟨n,_,h2⟩:=vF (full:=full) h
 rw [h2,Bu g1]
theorem Lo (h : GoodE e) (g2 : (eop e == iZ) = true) : tkC full e = [mkT 1 iZ 0]:=by
 obtain ⟨n,_,h2⟩:=vF (full:=full) h
 rw [h2,C1 (by rw [aM g2];decide) g2]
theorem Oq (h : GoodE e) (g3 : (eop e == eJ) = true) : tkC full e = [mkT 1 (lP e) 0,mkT 5 [46] 0,mkT 1 (fB e) 0]:=by
 obtain ⟨n,_,h2⟩:=vF (full:=full) h
 rw [h2,xD (by rw [aM g3];decide) (by rw [aM g3];decide) g3]
theorem RA (h : GoodE e) (g4 : (eop e == i8) = true) : tkC full e = [mkT 1 i8 0,tP,mkT 1 (lP e) 0,mkT 5 [46] 0,mkT 1 (fB e) 0,tQ]:=by
 obtain ⟨n,_,h2⟩:=vF (full:=full) h
 rw [h2,BQ (by rw [aM g4];decide) (by rw [aM g4];decide) (by rw [aM g4];decide) g4]
theorem O1 (h : GoodE e) (g5 : (eop e == dK) = true) : tkC full e = [mkT 1 dK 0,tP,mkT 3 (fB e) 0,tQ]:=by
 obtain ⟨n,_,h2⟩:=vF (full:=full) h
 rw [h2,y8 (by rw [aM g5];decide) (by rw [aM g5];decide) (by rw [aM g5];decide) (by rw [aM g5];decide) g5]
theorem GoodE.one (h : GoodE e) (g : (eop e == dN) = true ∨ (eop e == lF) = true ∨ (eop e == oJ) = true) : GoodE (eZ e) /\ ∃ x,eps e = [x] /\ eZ e = x:=by
 obtain ⟨f1,f2,f3,f4⟩:=h.parts
 rw [ar1 g] at f2
 refine ⟨f3 _ (qT (by omega)),?_⟩
 match hx : eps e,f2 with
 | [x],_=>exact ⟨x,rfl,by unfold eZ;rw [hx];rfl⟩
 | [],h=>simp at h
 | _ :: _ :: _,h=>simp at h;omega
theorem AT {n : Nat} (h : isE (n + 1) e) {x : D} (hx : x ∈ eps e) (hg : GoodE x) : eY n full x = tkC full x:=RN (rY h x hx) hg
theorem Nk (h : GoodE e) (g6 : (eop e == dN) = true) : tkC full e = mkT 1 dN 0 :: tP :: (tkC full (eZ e) ++ [tQ]):=by
 obtain ⟨n,h1,h2⟩:=vF (full:=full) h
 obtain ⟨hg,x,hx,hs⟩:=h.one (.inl g6)
 rw [h2,x8 (by rw [aM g6];decide) (by rw [aM g6];decide) (by rw [aM g6];decide) (by rw [aM g6];decide) (by rw [aM g6];decide) g6,AT h1 (by rw [hx,hs];simp) hg]
theorem S5 (h : GoodE e) (g7 : (eop e == lF) = true) : tkC full e = mkT 1 lF 0 :: iW full (stI (eop (eZ e))) 2 (tkC full (eZ e)):=by
 obtain ⟨n,h1,h2⟩:=vF (full:=full) h
 obtain ⟨hg,x,hx,hs⟩:=h.one (.inr (.inl g7))
 rw [h2,Bl (by rw [aM g7];decide) (by rw [aM g7];decide) (by rw [aM g7];decide) (by rw [aM g7];decide) (by rw [aM g7];decide) (by rw [aM g7];decide) g7,AT h1 (by rw [hx,hs];simp) hg]
theorem RT (h : GoodE e) (g8 : (eop e == oJ) = true) : tkC full e = mkT 5 [45] 0 :: iW full (stI (eop (eZ e))) 6 (tkC full (eZ e)):=by
 obtain ⟨n,h1,h2⟩:=vF (full:=full) h
 obtain ⟨hg,x,hx,hs⟩:=h.one (.inr (.inr g8))
 rw [h2,BR (by rw [aM g8];decide) (by rw [aM g8];decide) (by rw [aM g8];decide) (by rw [aM g8];decide) (by rw [aM g8];decide) (by rw [aM g8];decide) (by rw [aM g8];decide) g8,AT h1 (by rw [hx,hs];simp) hg]
def sY (op : List UInt8) : Prop:=stI op = 0 ∨ stI op = 1 ∨ stI op = 3 ∨ stI op = 4 ∨ stI op = 5
theorem Dz {op : List UInt8} (h : sY op) : (op == fU) = false /\ (op == iZ) = false /\ (op == eJ) = false /\ (op == i8) = false /\ (op == dK) = false /\ (op == dN) = false /\ (op == lF) = false /\ (op == oJ) = false:=by
 have key : ∀ w : List UInt8,(stI w = 2 ∨ stI w = 6 ∨ stI w = 7) -> (op == w) = false:=fun w hw=>by
  cases hx : op == w with
  | false=>rfl
  | true=>rw [aM hx] at h;unfold sY at h;omega
 exact ⟨key _ (by decide),key _ (by decide),key _ (by decide),key _ (by decide),key _ (by decide),key _ (by decide),key _ (by decide),key _ (by decide)⟩
theorem MF {op : List UInt8} (h : sY op) : arN op = 2:=by
 have hA:=Gu (op:=op)
 rcases h with h | h | h | h | h
 ·exact hA.1 h
 ·exact hA.2.1 h
 ·exact hA.2.2.1 h
 ·exact hA.2.2.2.1 h
 ·exact hA.2.2.2.2.1 h
theorem GoodE.two (h : GoodE e) (g : sY (eop e)) : GoodE (eZ e) /\ GoodE (uA e) /\ eZ e ∈ eps e /\ uA e ∈ eps e /\ eps e = [eZ e,uA e]:=by
 obtain ⟨f1,f2,f3,f4⟩:=h.parts
 rw [MF g] at f2
 refine ⟨f3 _ (qT (by omega)),f3 _ (vU (by omega)),qT (by omega),vU (by omega),?_⟩
 unfold eZ uA
 match eps e,f2 with
 | [x,y],_=>rfl
 | [],h=>simp at h
 | [_],h=>simp at h
 | _ :: _ :: _ :: _,h=>simp at h;omega
theorem Qn (h : GoodE e) (g : sY (eop e)) : tkC full e = iW full (stI (eop (eZ e))) (FO (eop e)) (tkC full (eZ e)) ++ (D5 (eop e) :: iW full (stI (eop (uA e))) (stI (eop e) + 1) (tkC full (uA e))):=by
 obtain ⟨n,h1,h2⟩:=vF (full:=full) h
 obtain ⟨k0,k1,m0,m1,_⟩:=h.two g
 obtain ⟨g1,g2,g3,g4,g5,g6,g7,g8⟩:=Dz g
 rw [h2,Af g1 g2 g3 g4 g5 g6 g7 g8,AT h1 m0 k0,AT h1 m1 k1]
end
structure Step (toks : List D) (st st2 : St) : Prop where
 ok : (st.2 = 0 ∨ st.2 = 2) /\ st.1 <= toks.length -> (st2.2 = 0 ∨ st2.2 = 2) /\ st2.1 <= toks.length
 stuck : st.2 ≠ 0 -> st2 = st
 adv : st.2 = 0 -> st.1 <= st2.1
theorem Step.refl (toks : List D) (st : St) : Step toks st st:=⟨fun h=>h,fun _=>rfl,fun _=>Nat.le_refl _⟩
theorem Step.trans {toks : List D} {a b c : St} (h : Step toks a b) (k : Step toks b c) : Step toks a c :=
 ⟨fun q=>k.ok (h.ok q),fun q=>by have:=h.stuck q;rw [this] at k;rw [k.stuck q],fun q=>by
  have h1:=h.adv q
  by_cases hb : b.2 = 0
  ·exact Nat.le_trans h1 (k.adv hb)
  ·rw [k.stuck hb];exact h1⟩
theorem Step.e0 {toks : List D} {a b : St} (h : Step toks a b) (hb : b.2 = 0) : a.2 = 0:=by
 by_cases ha : a.2 = 0
 ·exact ha
 ·rw [h.stuck ha] at hb;exact hb
theorem cO {toks : List D} {st : St} {w : List UInt8} (h : isP toks st w = true) : Step toks st (st.1 + 1,st.2):=by
 obtain ⟨h1,h2⟩:=yI h
 exact ⟨fun q=>⟨q.1,by simp only;omega⟩,fun q=>absurd h2 q,fun _=>by simp only;omega⟩
theorem pQ {toks : List D} {st : St} (h : tk (bI toks st) ≠ 0) : Step toks st (st.1 + 1,st.2):=by
 obtain ⟨h1,h2⟩:=vP (toks:=toks) (a:=st.1) (e:=st.2) h
 exact ⟨fun q=>⟨q.1,by simp only;omega⟩,fun q=>absurd h2 q,fun _=>by simp only;omega⟩
theorem K8 (toks : List D) (n : Nat) (st : St) (hn : st.1 <= toks.length -> n <= toks.length) (ha : st.1 <= n) : Step toks st (bO n 2 st):=by
 unfold bO
 split
 ·rename_i h
  have h0 : st.2 = 0:=by simpa using h
  exact ⟨fun q=>⟨.inr rfl,hn q.2⟩,fun q=>absurd h0 q,fun _=>ha⟩
 ·exact .refl _ _
theorem lQ (toks : List D) (st : St) : Step toks st (bO st.1 2 st):=K8 toks _ st (fun h=>h) (Nat.le_refl _)
theorem aY (toks : List D) (w : List UInt8) (st : St) : Step toks st (aD toks w st):=by
 unfold aD
 split
 ·rename_i h;exact cO h
 ·exact lQ toks st
theorem iK (toks : List D) {k : Int} (hk : k ≠ 0) (st : St) : Step toks st (cL toks k st).2:=by
 unfold cL
 split
 ·exact lQ toks st
 ·rename_i h
  have : tk (bI toks st) = k:=by simpa using h
  exact pQ (by omega)
theorem jN (toks : List D) (st : St) : Step toks st (cS toks st).2:=by
 unfold cS
 split
 ·exact lQ toks st
 ·rename_i h
  simp only [Bool.or_eq_true,not_or,bne_iff_ne,ne_eq,Decidable.not_not] at h
  exact pQ (by omega)
theorem uW (toks : List D) (ws : List (List UInt8)) (st : St) : Step toks st (dT toks ws st).2:=by
 unfold dT
 split
 ·rename_i w h;exact cO (dV h)
 ·exact lQ toks st
theorem sF (toks : List D) (st : St) : Step toks st (bU toks st).2.2:=by
 unfold bU
 exact ((uW toks j7 st).trans (aY toks [46] _)).trans (jN toks _)
theorem Av (toks : List D) (st : St) : Step toks st (aF toks st).2.2:=by
 unfold aF
 split
 ·rename_i h;have : tk (bI toks st) = 2:=by simpa using h
  exact pQ (by omega)
 split
 ·rename_i h;have : tk (bI toks st) = 3:=by simpa using h
  exact pQ (by omega)
 split
 ·rename_i h;have : tk (bI toks st) = 4:=by simpa using h
  exact pQ (by omega)
 split
 ·rename_i h
  simp only [Bool.or_eq_true] at h
  rcases h with h | h <;> exact cO h
 ·exact .refl _ _
theorem Cr (toks : List D) (st : St) : Step toks st (dD toks st).2:=by
 unfold dD
 split
 ·rename_i h;exact (cO h).trans (iK _ (by decide) _)
 split
 ·exact Av _ _
 ·exact (Av _ _).trans (lQ _ _)
theorem rX (toks : List D) : ∀ (f : Nat) (out : List D) (st : St) (r : List D × St),lO toks f out st = some r -> Step toks st r.2
 | 0,_,_,_,h=>by simp [lO] at h
 | f + 1,out,st,r,h=>by
  simp only [lO] at h
  split at h
  ·rename_i g
   exact ((cO g).trans (Cr _ _)).trans (rX toks f _ _ _ h)
  ·injection h with h;subst h;exact .refl _ _
theorem JV {toks : List D} {f fr : Nat} {st : St} {r : D × St} (h : sP toks f fr st = some r) (hfr : fr <= st.1) :
  (((st.2 = 0 ∨ st.2 = 2) /\ st.1 <= toks.length -> (r.2.2 = 0 ∨ r.2.2 = 2) /\ r.2.1 <= toks.length) /\ (st.2 ≠ 0 -> r.2 = st) /\ (st.2 = 0 -> fr <= r.2.1)) /\ (r.2.2 = 0 -> Step toks st r.2):=by
 unfold sP at h
 split at h
 ·cases h
 ·rename_i out st1 hb
  have s1:=((Cr toks st).trans (rX toks f _ _ _ hb)).trans (aY toks [93] st1)
  split at h
  ·injection h with h;subst h
   exact ⟨⟨s1.ok,s1.stuck,fun q=>Nat.le_trans hfr (s1.adv q)⟩,fun _=>s1⟩
  ·rename_i hz
   have hz : (aD toks [93] st1).2 = 0:=by simpa using hz
   injection h with h;subst h
   simp only
   split
   ·have hst:=s1.e0 hz
    have e1 : bO fr 2 (aD toks [93] st1) = (fr,2):=by unfold bO;rw [hz];rfl
    rw [e1]
    exact ⟨⟨fun q=>⟨.inr rfl,by simp only;omega⟩,fun q=>absurd hst q,fun _=>Nat.le_refl _⟩,fun q=>absurd q (by simp)⟩
   ·exact ⟨⟨s1.ok,s1.stuck,fun q=>Nat.le_trans hfr (s1.adv q)⟩,fun _=>s1⟩
def GK (P : gP) : Prop:=∀ toks st r,P toks st = some r -> Step toks st r.2
theorem DP {P : gP} (hP : GK P) {toks : List D} {bs : List (List UInt8)} : ∀ (f : Nat) (x : D) (st : St) (r : D × St),kX toks P bs f x st = some r -> Step toks st r.2
 | 0,_,_,_,h=>by simp [kX] at h
 | f + 1,x,st,r,h=>by
  simp only [kX] at h
  split at h
  ·injection h with h;subst h;exact .refl _ _
  ·split at h
   ·injection h with h;subst h;exact .refl _ _
   ·rename_i w hw
    split at h
    ·cases h
    ·rename_i y st2 hy
     exact ((cO (dV hw)).trans (hP toks _ _ hy)).trans (DP hP f _ st2 r h)
theorem ET {P : gP} (hP : GK P) {toks : List D} {bs : List (List UInt8)} {f : Nat} {st : St} {r : D × St} (h : pA toks P bs f st = some r) : Step toks st r.2:=by
 unfold pA at h
 split at h
 ·cases h
 ·rename_i x st1 hx
  exact (hP toks _ _ hx).trans (DP hP f x st1 r h)
theorem Gy {toks : List D} {st : St} {op : List UInt8} {z : Option (D × St)} {r : D × St} (hz : ∀ r,z = some r -> Step toks st r.2) (h : nK op z = some r) : Step toks st r.2:=by
 cases z with
 | none=>cases h
 | some z =>
  obtain ⟨x,st1⟩:=z
  simp only [nK,Option.some.injEq] at h;subst h
  exact hz (x,st1) rfl
theorem nY : ∀ (f : Nat) (lv : Lv),GK (pLv f lv)
 | 0,_,_,_,_,h=>by cases h
 | f + 1,lv,toks,st,r,h=>by
  cases lv with
  | expr=>exact ET (nY f .and) h
  | and=>exact ET (nY f .not) h
  | sum=>exact ET (nY f .prod) h
  | prod=>exact ET (nY f .unary) h
  | not =>
   simp only [pLv] at h
   split at h
   ·rename_i g;exact Gy (fun r hr=>(cO g).trans (nY f .not toks _ r hr)) h
   ·exact nY f .cmp toks st r h
  | unary =>
   simp only [pLv] at h
   split at h
   ·rename_i g;exact Gy (fun r hr=>(cO g).trans (nY f .unary toks _ r hr)) h
   ·exact nY f .plain toks st r h
  | cmp =>
   simp only [pLv] at h
   obtain ⟨z,hz⟩ : ∃ z,pLv f .sum toks st = z:=⟨_,rfl⟩
   rw [hz] at h
   cases z with
   | none=>cases h
   | some z =>
    obtain ⟨x,st1⟩:=z
    have hx:=nY f .sum toks _ _ hz
    simp only [z8] at h
    split at h
    ·injection h with h;subst h;exact hx
    ·rename_i w hw
     split at h
     ·cases h
     ·rename_i y st2 hy
      injection h with h;subst h
      have k:=nY f .sum toks _ (y,st2) hy
      exact (hx.trans (cO (dV hw))).trans k
  | inner =>
   simp only [pLv] at h
   obtain ⟨z,hz⟩ : ∃ z,pLv f .expr toks (aD toks [40] st) = z:=⟨_,rfl⟩
   rw [hz] at h
   cases z with
   | none=>cases h
   | some z =>
    obtain ⟨x,st1⟩:=z
    simp only [EE,Option.some.injEq] at h;subst h
    exact ((aY toks [40] st).trans (nY f .expr toks _ (x,st1) hz)).trans (aY toks [41] st1)
  | plain =>
   simp only [pLv,oM] at h
   split at h
   ·injection h with h;subst h;exact Av _ _
   split at h
   ·rename_i g;injection h with h;subst h;exact cO g
   split at h
   ·exact nY f .inner toks st r h
   split at h
   ·rename_i g
    have g0:=(yI g).2
    obtain ⟨⟨b1,b2,b3⟩,_⟩:=JV h (show st.1 <= st.1 + 1 by omega)
    exact ⟨fun q=>b1 ((cO g).ok q),fun q=>absurd g0 q,fun _=>b3 g0⟩
   split at h
   ·rename_i g;exact Gy (fun r hr=>(cO g).trans (nY f .inner toks _ r hr)) h
   split at h
   ·rename_i g
    injection h with h;subst h
    exact (((cO g).trans (aY toks [40] _)).trans (iK toks (by decide) _)).trans (aY toks [41] _)
   split at h
   ·rename_i g
    injection h with h;subst h
    exact (((cO g).trans (aY toks [40] _)).trans (sF toks _)).trans (aY toks [41] _)
   ·injection h with h;subst h;exact sF _ _
def sbT (toks : List D) (a b : Nat) : List D:=(toks.take b).drop a
def lD (toks : List D) (a b : Nat) : Nat:=iC (sbT toks a b)
theorem lJ (l m : List D) : iC (l ++ m) = iC l + iC m:=by simp [iC,List.filter_append]
theorem Oy {toks : List D} {a b c : Nat} (h1 : a <= b) (h2 : b <= c) : sbT toks a c = sbT toks a b ++ sbT toks b c:=by
 unfold sbT
 have e : toks.take c = toks.take b ++ (toks.take c).drop b:=by
  have:=(List.take_append_drop b (toks.take c)).symm
  rwa [List.take_take,Nat.min_eq_left h2] at this
 rcases Nat.lt_or_ge (toks.take b).length a with hl | hl
 ·have hb : toks.length < b:=by
   rcases Nat.lt_or_ge toks.length b with h | h
   ·exact h
   ·rw [List.length_take,Nat.min_eq_left h] at hl;omega
  rw [List.drop_eq_nil_of_le (Nat.le_of_lt hl),List.take_of_length_le (by omega : toks.length <= c)]
  rw [List.length_take] at hl
  rw [List.drop_eq_nil_of_le (by omega),List.drop_eq_nil_of_le (by omega)];rfl
 ·conv=>lhs;rw [e]
  rw [List.drop_append_of_le_length hl]
theorem cF {toks : List D} {a b c : Nat} (h1 : a <= b) (h2 : b <= c) : lD toks a c = lD toks a b + lD toks b c:=by
 unfold lD;rw [Oy h1 h2,lJ]
theorem Jx (toks : List D) (a : Nat) : lD toks a a = 0:=by
 unfold lD sbT
 rw [List.drop_eq_nil_of_le (by rw [List.length_take];omega)];rfl
theorem pX {toks : List D} {a : Nat} {t : D} (h : toks[a]? = some t) : lD toks a (a + 1) = if pkB t then 1 else 0:=by
 unfold lD sbT
 have hl:=rB h
 rw [List.take_add_one,h,List.drop_append_of_le_length (by rw [List.length_take];omega),List.drop_eq_nil_of_le (by rw [List.length_take];omega)]
 unfold iC
 simp only [Option.toList_some,List.nil_append,List.filter_cons,List.filter_nil]
 split <;> rfl
theorem Ap {toks : List D} {st : St} (h : tk (bI toks st) ≠ 0) : st.2 = 0 /\ toks[st.1]? = some (bI toks st) /\ pH (bI toks st) = true:=by
 unfold bI wW at h ⊢
 split at h
 ·exact absurd rfl h
 ·rename_i he
  rw [if_neg he]
  split at h
  ·rename_i t ht
   split at h
   ·rename_i hf
    rw [if_pos hf]
    exact ⟨by simpa using he,ht,hf⟩
   ·exact absurd rfl h
  ·exact absurd rfl h
theorem Ll {toks : List D} {st : St} {w : List UInt8} (h : isP toks st w = true) : st.2 = 0 /\ toks[st.1]? = some (bI toks st) /\ ts (bI toks st) = w /\ ((tk (bI toks st) = 1 /\ eD w = true) ∨ (tk (bI toks st) = 5 /\ cD w = true)):=by
 unfold isP at h
 simp only [Bool.and_eq_true,Bool.or_eq_true,beq_iff_eq] at h
 obtain ⟨h1,h2⟩:=h
 obtain ⟨a1,a2,a3⟩:=Ap (toks:=toks) (st:=st) (by omega)
 refine ⟨a1,a2,h2,?_⟩
 unfold pH cG at a3
 rw [h2] at a3
 rcases h1 with h1 | h1
 ·rw [h1] at a3
  simp only [beq_self_eq_true,if_true,Bool.and_eq_true] at a3
  exact .inl ⟨h1,a3.1⟩
 ·rw [h1] at a3
  have : cD w = true:=by
   revert a3
   simp only [show ((5 : Int) == 1) = false from rfl,show ((5 : Int) == 2) = false from rfl,show ((5 : Int) == 3) = false from rfl,show ((5 : Int) == 4) = false from rfl,Bool.false_eq_true,if_false,beq_self_eq_true,if_true,Bool.and_eq_true]
   exact fun h=>h.1
  exact .inr ⟨h1,this⟩
theorem uZ {t : D} (h : tk t = 1) : pkB t = ((ts t != gB) && (ts t != hU)):=by
 unfold pkB;rw [h];simp
theorem O4 {t : D} (h : tk t = 5) : pkB t = ((ts t == [46]) || (ts t == [43]) || (ts t == [42]) || (ts t == [60]) || (ts t == [91])):=by
 unfold pkB;rw [h];simp
theorem EG {t : D} (h1 : tk t ≠ 1) (h5 : tk t ≠ 5) : pkB t = false:=by
 unfold pkB
 rw [show (tk t == 1) = false by simpa using h1,show (tk t == 5) = false by simpa using h5];rfl
def pkW (w : List UInt8) : Nat:=if cD w then (if ((w == [46]) || (w == [43]) || (w == [42]) || (w == [60]) || (w == [91])) then 1 else 0) else (if (w != gB) && (w != hU) then 1 else 0)
theorem Kn {w : List UInt8} (h : eD w = true) : cD w = false:=by
 cases hs : cD w with
 | false=>rfl
 | true =>
  have : w ∈ i6:=by
   unfold cD at hs
   obtain ⟨x,hx,he⟩:=List.any_eq_true.1 hs
   have : x = w:=by simpa using he
   rw [<- this];exact hx
  have key : ∀ w ∈ i6,eD w = false:=by decide
  rw [key w this] at h;cases h
theorem eR {toks : List D} {st : St} {w : List UInt8} (h : isP toks st w = true) : lD toks st.1 (st.1 + 1) = pkW w:=by
 obtain ⟨_,h2,h3,h4⟩:=Ll h
 rw [pX h2]
 unfold pkW
 rcases h4 with ⟨h4,h5⟩ | ⟨h4,h5⟩
 ·rw [uZ h4,h3,Kn h5];rfl
 ·rw [O4 h4,h3,h5];rfl
theorem mL {toks : List D} {w : List UInt8} {st : St} (h : (aD toks w st).2 = 0) : isP toks st w = true /\ aD toks w st = (st.1 + 1,0):=by
 unfold aD at h ⊢
 split at h
 ·rename_i g;rw [if_pos g];exact ⟨g,by simp only at h;rw [h]⟩
 ·exfalso
  unfold bO at h
  split at h
  ·cases h
  ·rename_i g;exact g (by simpa using h)
theorem AH {toks : List D} {k : Int} (hk : k ≠ 0) {st : St} (h : (cL toks k st).2.2 = 0) : tk (bI toks st) = k /\ toks[st.1]? = some (bI toks st) /\ pH (bI toks st) = true /\ cL toks k st = (bI toks st,(st.1 + 1,0)):=by
 unfold cL at h ⊢
 split at h
 ·exfalso
  unfold bO at h
  split at h
  ·cases h
  ·rename_i g;exact g (by simpa using h)
 ·rename_i g
  rw [if_neg g]
  have e : tk (bI toks st) = k:=by simpa using g
  obtain ⟨a1,a2,a3⟩:=Ap (toks:=toks) (st:=st) (by omega)
  exact ⟨e,a2,a3,by rw [a1]⟩
theorem AI {toks : List D} {st : St} (h : (cS toks st).2.2 = 0) : tk (bI toks st) = 1 /\ toks[st.1]? = some (bI toks st) /\ gL (cS toks st).1 = true /\ (cS toks st).2 = (st.1 + 1,0) /\ (cS toks st).1 = ts (bI toks st):=by
 unfold cS at h ⊢
 split at h
 ·exfalso
  unfold bO at h
  split at h
  ·cases h
  ·rename_i g;exact g (by simpa using h)
 ·rename_i g
  rw [if_neg g]
  simp only [Bool.or_eq_true,not_or,bne_iff_ne,ne_eq,Decidable.not_not,Bool.not_eq_true] at g
  obtain ⟨a1,a2,a3⟩:=Ap (toks:=toks) (st:=st) (by omega)
  refine ⟨g.1,a2,?_,by rw [a1],rfl⟩
  unfold gL
  rw [<- NE,g.2]
  have:=a3
  unfold pH cG at this
  rw [g.1] at this
  simp only [beq_self_eq_true,if_true,Bool.and_eq_true] at this
  unfold cG
  simp only [beq_self_eq_true,if_true,this.1]
  rfl
theorem N9 {toks : List D} {ws : List (List UInt8)} {st : St} (h : (dT toks ws st).2.2 = 0) : isP toks st (dT toks ws st).1 = true /\ (dT toks ws st).1 ∈ ws /\ (dT toks ws st).2 = (st.1 + 1,0):=by
 unfold dT at h ⊢
 split at h
 ·rename_i w hw
  exact ⟨dV hw,iJ hw,by simp only at h;rw [h]⟩
 ·exfalso
  unfold bO at h
  split at h
  ·cases h
  ·rename_i g;exact g (by simpa using h)
theorem Oz {l : List (List UInt8)} {s : List UInt8} (h : s ∈ l) : inB l s = true:=List.any_eq_true.2 ⟨s,h,by simp⟩
theorem B5 {s : List UInt8} (h : gL s = true) : (s != gB) = true /\ (s != hU) = true:=by
 unfold gL at h
 simp only [Bool.and_eq_true,Bool.not_eq_true'] at h
 constructor
 ·cases hx : s != gB with
  | true=>rfl
  | false =>
   have : s = gB:=by simpa using hx
   rw [this] at h;have:=h.2;revert this;decide
 ·cases hx : s != hU with
  | true=>rfl
  | false =>
   have : s = hU:=by simpa using hx
   rw [this] at h;have:=h.2;revert this;decide
theorem DN {toks : List D} {st : St} (h : (bU toks st).2.2.2 = 0) : inB j7 (bU toks st).1 = true /\ gL (bU toks st).2.1 = true /\ (bU toks st).2.2 = (st.1 + 3,0) /\ lD toks st.1 (st.1 + 3) = 3:=by
 have hs:=jN toks (aD toks [46] (dT toks j7 st).2)
 have h3 : (cS toks (aD toks [46] (dT toks j7 st).2)).2.2 = 0:=h
 have h2:=hs.e0 h3
 have h1:=(aY toks [46] (dT toks j7 st).2).e0 h2
 obtain ⟨a1,a2,a3⟩:=N9 h1
 obtain ⟨b1,b2⟩:=mL h2
 obtain ⟨c1,c2,c3,c4,c5⟩:=AI h3
 unfold bU
 rw [a3] at b1 b2
 rw [a3,b2] at c1 c2 c3 c4 c5 ⊢
 simp only at b1 c1 c2 c3 c4 c5 ⊢
 refine ⟨Oz a2,c3,by rw [c4],?_⟩
 rw [cF (b:=st.1 + 1) (by omega) (by omega),cF (a:=st.1 + 1) (b:=st.1 + 1 + 1) (by omega) (by omega),eR a1]
 have e2:=eR b1
 simp only at e2
 rw [e2]
 have e3:=pX c2
 rw [show st.1 + 3 = st.1 + 1 + 1 + 1 by omega,e3,uZ c1,← c5]
 obtain ⟨n1,n2⟩:=B5 c3
 rw [n1,n2]
 have key : ∀ w ∈ j7,pkW w = 1:=by decide
 rw [key _ a2]
 rfl
end GP
