import Derived.Conc.EntryLaws
import Derived.Ground.SlsfProg
import Derived.Lib.Bytealg
import Derived.Shelf.Lay
import Derived.Test.YtainhmbnbgonhaaGreatDoorM5
import Derived.Test.YtainhmbnbgonhaaGreatDoorM6
import Derived.Test.YtainhmbnbgonhaaGreatDoorM7
import Derived.Test.YtainhmbnbgonhaaGreatDoorM9
import Derived.Test.YtainhmbnbgonhaaGreatDoorM11
set_option linter.unusedSimpArgs false
set_option linter.unnecessarySimpa false
namespace GP
open Go Go.Proofs
set_option maxRecDepth 100000
theorem l7 (c : UInt8) (r : List UInt8) : kH (c :: r) =
  if eG c.toNat then 1 + aX b9 r else
  if aB c.toNat || c == 64 then (if c8 (c :: r) (1 + aX aB r) then 0 else 1 + aX aB r) else
  if c == 34 then (if decide ((c :: r).length < qL r 1) then 0 else qL r 1) else
  if decide (1 < (c :: r).length) && cD ((c :: r).take 2) then 2 else 1:=rfl
theorem nQ (c : UInt8) (r : List UInt8) : vE (c :: r) =
  if eG c.toNat then (if decide ((64 : Int) < (aX b9 (c :: r) : Nat)) then (mkT 0 [] 0,0) else (mkT 1 ((c :: r).take (aX b9 (c :: r))) 0,aX b9 (c :: r)))
  else if aB c.toNat then (mkT 2 [] (oQ (c :: r) 9223372036854775807).1,(oQ (c :: r) 9223372036854775807).2)
  else if c == 64 then (if ((oQ r 1099511627776).2 : Int) == 0 then (mkT 0 [] 0,0) else (mkT 4 [] (oQ r 1099511627776).1,(oQ r 1099511627776).2 + 1))
  else if c == 34 then (mkT 3 (oN r [] 1).1 0,(oN r [] 1).2)
  else KA (c :: r):=rfl
theorem tU (c : UInt8) (r : List UInt8) : eD (c :: r) = (eG c.toNat && r.all (fun b=>b9 b.toNat) && decide (((c :: r).length : Int) <= 64)):=rfl
theorem rN {c : UInt8} {r : List UInt8} (h : eG c.toNat = false) : eD (c :: r) = false:=by
 simp [eD,h]
theorem xJ {c : UInt8} {r : List UInt8} {m : Int} (h : aB c.toNat = false) : (kP (c :: r) m).2 = false:=by
 unfold kP
 have : (c :: r).all iN = false:=by simp [iN,h]
 rw [this];rfl
theorem Ha (c : UInt8) (r : List UInt8) (n : Nat) : (c :: r).take (1 + n) = c :: r.take n:=by rw [Nat.add_comm];rfl
theorem OC {n : Int} (h : eG n = true) : aB n = false:=by
 simp only [eG,aB,Bool.and_eq_true,Bool.and_eq_false_iff,decide_eq_true_eq,decide_eq_false_iff_not] at h ⊢;omega
theorem NB {c : UInt8} (h : eG c.toNat = true) : (c == 64) = false /\ (c == 34) = false:=by
 refine ⟨?_,?_⟩ <;> (rw [beq_eq_false_iff_ne];rintro rfl;exact absurd h (by decide))
theorem Nw {n : Int} (h : aB n = true) : eG n = false:=by
 simp only [eG,aB,Bool.and_eq_true,Bool.and_eq_false_iff,decide_eq_true_eq,decide_eq_false_iff_not] at h ⊢;omega
theorem Ko {c : UInt8} (h : aB c.toNat = true) : (c == 64) = false /\ (c == 34) = false:=by
 refine ⟨?_,?_⟩ <;> (rw [beq_eq_false_iff_ne];rintro rfl;exact absurd h (by decide))
theorem qS {c : UInt8} {r : List UInt8} (h1 : eD (c :: r) = false) (h2 : (kP (c :: r) 9223372036854775807).2 = false) (h3 : (c == 64) = false) (h4 : (c == 34) = false) : oG (c :: r) = (mkT 5 (c :: r) 0,cD (c :: r)):=by
 unfold oG
 have e0 : ((c :: r) == []) = false:=rfl
 have e1 : ((c :: r)[0]? == some 64) = (c == 64):=rfl
 have e2 : ((c :: r)[0]? == some 34) = (c == 34):=rfl
 rw [e0,h1,h2,e1,e2,h3,h4]
 simp only [Bool.false_eq_true,if_false]
def nL (s : List UInt8) : Prop :=
 if (((kH s : Nat) : Int) == 0) || !(oG (s.take (kH s))).2 then (vE s).2 = 0 else vE s = ((oG (s.take (kH s))).1,kH s)
theorem u4 {s : List UInt8} (h1 : kH s = 0) (h2 : (vE s).2 = 0) : nL s:=by
 unfold nL;rw [if_pos (by rw [h1];rfl)];exact h2
theorem kA {s : List UInt8} (h1 : (oG (s.take (kH s))).2 = false) (h2 : (vE s).2 = 0) : nL s:=by
 unfold nL;rw [if_pos (by rw [h1];simp)];exact h2
theorem l6 {s : List UInt8} {d : D} {n : Nat} (h0 : kH s = n) (hn : n ≠ 0) (h1 : oG (s.take n) = (d,true)) (h2 : vE s = (d,n)) : nL s:=by
 unfold nL;rw [h0,h1,if_neg ?_]
 ·exact h2
 ·simp;exact hn
theorem OB {l : List UInt8} (hd : ∀ b ∈ l,iN b = true) : l.all iN = true:=List.all_eq_true.2 hd
theorem IS {l : List UInt8} {m : Int} (hd : ∀ b ∈ l,iN b = true) (h2 : l.length <= 19) : kP l m = (IntKind.i64.wrap (dP l : Int),decide ((0 : Int) < l.length) && decide ((dP l : Int) <= m)):=by
 unfold kP;rw [if_pos];rw [OB hd];simpa using h2
theorem F6 {l : List UInt8} {m : Int} (h2 : 19 < l.length) : kP l m = (0,false):=by
 unfold kP;rw [if_neg];simp only [Bool.and_eq_true,decide_eq_true_eq,not_and];omega
theorem BL (p : Int -> Bool) (r : List UInt8) : (r.take (aX p r)).length = aX p r:=by
 have:=AN p r;simp;omega
theorem JK {c : UInt8} {r : List UInt8} (g : eG c.toNat = true) : nL (c :: r):=by
 have e0 : kH (c :: r) = 1 + aX b9 r:=by rw [l7,if_pos g]
 have hw : b9 (c.toNat : Int) = true:=by rw [fS,g];rfl
 have e1:=yA (p:=b9) c r hw
 have ht:=Ha c r (aX b9 r)
 have hr:=BL b9 r
 have hall : (r.take (aX b9 r)).all (fun b=>b9 b.toNat) = true:=List.all_eq_true.2 fun b hb=>vZ (p:=b9) r b hb
 have eT : vE (c :: r) = if decide ((64 : Int) < (aX b9 (c :: r) : Nat)) then (mkT 0 [] 0,0) else (mkT 1 ((c :: r).take (aX b9 (c :: r))) 0,aX b9 (c :: r)):=by
  rw [nQ,if_pos g]
 rw [e1,ht] at eT
 by_cases h64 : 1 + aX b9 r <= 64
 ·refine l6 e0 (by omega) (d:=mkT 1 (c :: r.take (aX b9 r)) 0) ?_ ?_
  ·rw [ht]
   unfold oG
   have w : eD (c :: r.take (aX b9 r)) = true:=by
    rw [tU,g,hall];simp only [Bool.true_and,decide_eq_true_eq,List.length_cons,hr];omega
   have z : ((c :: r.take (aX b9 r)) == []) = false:=rfl
   rw [z,w];rfl
  ·rw [eT,if_neg (by simp only [decide_eq_true_eq];omega)]
 ·refine kA ?_ ?_
  ·rw [e0,ht]
   have w : eD (c :: r.take (aX b9 r)) = false:=by
    rw [tU,g,hall];simp only [Bool.true_and,decide_eq_false_iff_not,List.length_cons,hr];omega
   rw [qS w (xJ (OC g)) (NB g).1 (NB g).2]
   exact qO (by simp only [List.length_cons,hr];omega)
  ·rw [eT,if_pos (by simp only [decide_eq_true_eq];omega)]
theorem JT {c : UInt8} {r : List UInt8} (g : aB c.toNat = true) : nL (c :: r):=by
 have gl:=Nw g
 have e0 : kH (c :: r) = if c8 (c :: r) (1 + aX aB r) then 0 else 1 + aX aB r:=by
  rw [l7,if_neg (by rw [gl];decide),if_pos (by rw [g];rfl)]
 have e1:=yA (p:=aB) c r g
 have ht:=Ha c r (aX aB r)
 have hr:=BL aB r
 have eT : vE (c :: r) = (mkT 2 [] (oQ (c :: r) 9223372036854775807).1,(oQ (c :: r) 9223372036854775807).2):=by
  rw [nQ,if_neg (by rw [gl];decide),if_pos g]
 have hd : ∀ b ∈ c :: r.take (aX aB r),iN b = true:=fun b hb=>by
  rcases List.mem_cons.1 hb with rfl | hb
  ·exact g
  ·exact vZ (p:=aB) r b hb
 have hlen : (c :: r.take (aX aB r)).length = 1 + aX aB r:=by simp only [List.length_cons,hr];omega
 unfold oQ at eT
 rw [e1,ht] at eT
 have hD:=EW hd
 have hV:=fun m h=>IS (m:=m) hd h
 rw [hlen] at hD hV
 rcases tf (c8 (c :: r) (1 + aX aB r)) with q | q
 ·refine u4 (by rw [e0,if_pos q]) ?_
  rw [eT,if_pos (by rw [q];simp)]
 rw [if_neg (by rw [q];decide)] at e0
 obtain ⟨n,hn⟩ : ∃ n,1 + aX aB r = n:=⟨_,rfl⟩
 obtain ⟨L,hL⟩ : ∃ L,c :: r.take (aX aB r) = L:=⟨_,rfl⟩
 have sg : eD L = false:=by rw [<- hL];exact rN gl
 have one : (kP L 9223372036854775807).2 = false -> oG L = (mkT 5 L 0,cD L):=fun h=>by
  rw [<- hL] at sg h ⊢;exact qS sg h (Ko g).1 (Ko g).2
 have zL : (L == []) = false:=by rw [<- hL];rfl
 rw [hL] at eT hd hlen hD hV ht
 rw [hn] at eT hlen hD hV e0 q ht
 by_cases h19 : n <= 19
 ·have hD:=hD h19
  have hV:=hV 9223372036854775807 h19
  by_cases hm : (dP L : Int) <= 9223372036854775807
  ·have wv : IntKind.i64.wrap (dP L : Int) = dP L:=iS (by omega) (by omega)
   refine l6 e0 (by omega) (d:=mkT 2 [] (dP L : Int)) ?_ ?_
   ·rw [ht]
    unfold oG
    rw [zL,sg,hV]
    have : (decide ((0 : Int) < (n : Nat)) && decide ((dP L : Int) <= 9223372036854775807)) = true:=by simp only [Bool.and_eq_true,decide_eq_true_eq];omega
    simp only [Bool.false_eq_true,if_false,this,if_true,wv]
   ·have c1 : decide (n < 1) = false:=decide_eq_false (by omega)
    have c2 : decide (19 < n) = false:=decide_eq_false (by omega)
    have c3 : decide ((9223372036854775807 : Int) < (dP L : Int)) = false:=decide_eq_false (by omega)
    rw [eT,q,c1,c2,c3,if_neg (by decide)]
  ·refine kA ?_ ?_
   ·rw [e0,ht,one (by rw [hV];simp only [Bool.and_eq_false_iff,decide_eq_false_iff_not];omega)]
    refine qO ?_
    rw [hlen]
    rcases Nat.lt_or_ge 2 n with h | h
    ·exact h
    ·exfalso
     have : 10 ^ n <= 10 ^ 2:=Nat.pow_le_pow_right (by decide) h
     omega
   ·rw [eT,if_pos (by simp only [Bool.or_eq_true,decide_eq_true_eq];omega)]
 ·refine kA ?_ ?_
  ·rw [e0,ht,one (by rw [F6 (by omega)])]
   exact qO (by omega)
  ·rw [eT,if_pos (by simp only [Bool.or_eq_true,decide_eq_true_eq];omega)]
theorem Mr {r : List UInt8} : nL (64 :: r):=by
 have gl : eG (((64 : UInt8).toNat : Int)) = false:=by decide
 have gd : aB (((64 : UInt8).toNat : Int)) = false:=by decide
 have e0 : kH (64 :: r) = if c8 (64 :: r) (1 + aX aB r) then 0 else 1 + aX aB r:=by
  rw [l7,if_neg (by rw [gl];decide),if_pos (by rw [gd];rfl)]
 have ht:=Ha 64 r (aX aB r)
 have hr:=BL aB r
 have eT : vE (64 :: r) = (if ((oQ r 1099511627776).2 : Int) == 0 then (mkT 0 [] 0,0) else (mkT 4 [] (oQ r 1099511627776).1,(oQ r 1099511627776).2 + 1)):=by
  rw [nQ,if_neg (by rw [gl];decide),if_neg (by rw [gd];decide),if_pos (by decide)]
 have eS : c8 (64 :: r) (1 + aX aB r) = c8 r (aX aB r):=by
  unfold c8;rw [Nat.add_comm,List.getElem?_cons_succ]
 rw [eS] at e0
 have hd : ∀ b ∈ r.take (aX aB r),iN b = true:=fun b hb=>vZ (p:=aB) r b hb
 have hD:=EW hd
 have hV:=fun m h=>IS (m:=m) hd h
 rw [hr] at hD hV
 have one : oG (64 :: r.take (aX aB r)) = (mkT 4 [] (kP (r.take (aX aB r)) 1099511627776).1,(kP (r.take (aX aB r)) 1099511627776).2):=by
  unfold oG
  have z : ((64 :: r.take (aX aB r)) == []) = false:=rfl
  have e1 : ((64 :: r.take (aX aB r))[0]? == some (64 : UInt8)) = true:=rfl
  rw [z,rN gl,xJ gd,e1]
  simp only [Bool.false_eq_true,if_false,if_true]
  rfl
 have eN : oQ r 1099511627776 = if (decide (aX aB r < 1) || decide (19 < aX aB r) || c8 r (aX aB r)) || decide ((1099511627776 : Int) < (dP (r.take (aX aB r)) : Int)) then (0,0) else ((dP (r.take (aX aB r)) : Int),aX aB r):=rfl
 obtain ⟨n,hn⟩ : ∃ n,aX aB r = n:=⟨_,rfl⟩
 rw [hn] at eN e0 hD hV ht one
 obtain ⟨L,hL⟩ : ∃ L,r.take n = L:=⟨_,rfl⟩
 rw [hn] at hd hr
 rw [hL] at eN hD hV ht one hd hr
 rcases tf (c8 r n) with q | q
 ·refine u4 (by rw [e0,if_pos q]) ?_
  rw [eT,eN,if_pos (by rw [q];simp)]
 rw [if_neg (by rw [q];decide)] at e0
 by_cases h0 : n = 0
 ·refine kA ?_ ?_
  ·rw [e0,ht,one,hV _ (by omega)]
   have : decide ((0 : Int) < (n : Nat)) = false:=decide_eq_false (by omega)
   rw [this];rfl
  ·have c1 : decide (n < 1) = true:=decide_eq_true (by omega)
   rw [eT,eN,c1,if_pos (by rfl)]
 by_cases h19 : n <= 19
 ·have hD:=hD h19
  have hV:=hV 1099511627776 h19
  by_cases hm : (dP L : Int) <= 1099511627776
  ·have wv : IntKind.i64.wrap (dP L : Int) = dP L:=iS (by omega) (by omega)
   refine l6 e0 (by omega) (d:=mkT 4 [] (dP L : Int)) ?_ ?_
   ·rw [ht,one,hV]
    have : (decide ((0 : Int) < (n : Nat)) && decide ((dP L : Int) <= 1099511627776)) = true:=by simp only [Bool.and_eq_true,decide_eq_true_eq];omega
    rw [this,wv]
   ·have c1 : ((decide (n < 1) || decide (19 < n) || c8 r n) || decide ((1099511627776 : Int) < (dP L : Int))) = false:=by
     have c1 : decide (n < 1) = false:=decide_eq_false (by omega)
     have c2 : decide (19 < n) = false:=decide_eq_false (by omega)
     have c3 : decide ((1099511627776 : Int) < (dP L : Int)) = false:=decide_eq_false (by omega)
     rw [q,c1,c2,c3];rfl
    rw [c1,if_neg (by decide)] at eN
    rw [eT,eN,if_neg (by simp;exact h0)]
    rw [Nat.add_comm]
  ·refine kA ?_ ?_
   ·rw [e0,ht,one,hV]
    have c3 : decide ((dP L : Int) <= 1099511627776) = false:=decide_eq_false (by omega)
    rw [c3,Bool.and_false]
   ·have c3 : decide ((1099511627776 : Int) < (dP L : Int)) = true:=decide_eq_true (by omega)
    rw [eT,eN,c3,if_pos (by simp)]
 ·refine kA ?_ ?_
  ·rw [e0,ht,one,F6 (by omega)]
  ·have c2 : decide (19 < n) = true:=decide_eq_true (by omega)
   rw [eT,eN,c2,if_pos (by simp)]
theorem HJ {r : List UInt8} : nL (34 :: r):=by
 have gl : eG (((34 : UInt8).toNat : Int)) = false:=by decide
 have gd : aB (((34 : UInt8).toNat : Int)) = false:=by decide
 have e0 : kH (34 :: r) = if decide ((34 :: r).length < qL r 1) then 0 else qL r 1:=by
  rw [l7,if_neg (by rw [gl];decide),if_neg (by rw [gd];decide),if_pos (by decide)]
 have eT : vE (34 :: r) = (mkT 3 (oN r [] 1).1 0,(oN r [] 1).2):=by
  rw [nQ,if_neg (by rw [gl];decide),if_neg (by rw [gd];decide),if_neg (by decide),if_pos (by decide)]
 rw [LY _ r [] 1 (Nat.le_refl _) (by simp)] at eT
 have hlen : (34 :: r).length = r.length + 1:=rfl
 have hge:=zK _ r 1 (Nat.le_refl _)
 by_cases hq : (34 :: r).length < qL r 1
 ·refine u4 (by rw [e0,if_pos (by simpa using hq)]) ?_
  rw [eT];unfold Dl;rw [if_pos (by omega)]
 rw [if_neg (by simpa using hq)] at e0
 have hb:=KE (r:=r) (by omega)
 have one : oG ((34 :: r).take (qL r 1)) = (mkT 3 (mC (r.take (qL r 1 - 1 - 1)) []).1 0,(mC (r.take (qL r 1 - 1 - 1)) []).2):=by
  have ht : (34 :: r).take (qL r 1) = 34 :: r.take (qL r 1 - 1):=by
   have : qL r 1 = (qL r 1 - 1) + 1:=by omega
   rw [this];rfl
  rw [ht] at hb ⊢
  unfold oG
  have z : ((34 :: r.take (qL r 1 - 1)) == []) = false:=rfl
  have e1 : ((34 :: r.take (qL r 1 - 1))[0]? == some (64 : UInt8)) = false:=rfl
  have e2 : ((34 :: r.take (qL r 1 - 1))[0]? == some (34 : UInt8)) = true:=rfl
  rw [z,rN gl,xJ gd,e1,e2,hb]
  simp only [Bool.false_eq_true,if_false,if_true]
 unfold Dl at eT
 rw [if_neg (by omega)] at eT
 obtain ⟨⟨o,b⟩,hB⟩ : ∃ z,mC (r.take (qL r 1 - 1 - 1)) [] = z:=⟨_,rfl⟩
 rw [hB] at eT one
 cases b with
 | true =>
  refine l6 e0 (by omega) (d:=mkT 3 o 0) one ?_
  rw [eT];rfl
 | false =>
  refine kA ?_ ?_
  ·rw [e0,one]
  ·rw [eT];rfl
theorem KX (c : UInt8) (r : List UInt8) : nL (c :: r):=by
 rcases tf (eG (c.toNat : Int)) with g1 | g1
 ·exact JK g1
 rcases tf (aB (c.toNat : Int)) with g2 | g2
 ·exact JT g2
 rcases tf (c == 64) with g3 | g3
 ·have : c = 64:=by simpa using g3
  subst this;exact Mr
 rcases tf (c == 34) with g4 | g4
 ·have : c = 34:=by simpa using g4
  subst this;exact HJ
 have e0 : kH (c :: r) = if decide (1 < (c :: r).length) && cD ((c :: r).take 2) then 2 else 1:=by
  rw [l7,if_neg (by rw [g1];decide),if_neg (by rw [g2,g3];decide),if_neg (by rw [g4];decide)]
 have eT : vE (c :: r) = KA (c :: r):=by
  rw [nQ,if_neg (by rw [g1];decide),if_neg (by rw [g2];decide),if_neg (by rw [g3];decide),if_neg (by rw [g4];decide)]
 rw [Of] at eT
 rcases tf (decide (1 < (c :: r).length) && cD ((c :: r).take 2)) with q | q
 ·rw [if_pos q] at e0 eT
  simp only [Bool.and_eq_true] at q
  have ht : (c :: r).take 2 = c :: r.take 1:=rfl
  refine l6 e0 (by decide) (d:=mkT 5 ((c :: r).take 2) 0) ?_ eT
  have q2:=q.2
  rw [ht] at q2 ⊢
  rw [qS (rN g1) (xJ g2) g3 g4,q2]
 ·rw [if_neg (by rw [q];decide)] at e0 eT
  have ht : (c :: r).take 1 = [c]:=rfl
  rcases tf (cD [c]) with q2 | q2
  ·rw [if_pos q2] at eT
   refine l6 e0 (by decide) (d:=mkT 5 [c] 0) ?_ eT
   rw [ht,qS (rN g1) (xJ g2) g3 g4,q2]
  ·rw [if_neg (by rw [q2];decide)] at eT
   refine kA ?_ ?_
   ·rw [e0,ht,qS (rN g1) (xJ g2) g3 g4,q2]
   ·rw [eT]
theorem Nj (c : UInt8) (r : List UInt8) : kH (c :: r) <= (c :: r).length:=by
 have h1:=AN b9 r
 have h2:=AN aB r
 have h3 : (c :: r).length = r.length + 1:=rfl
 rw [l7]
 split
 ·omega
 split
 ·split <;> omega
 split
 ·split
  ·omega
  ·rename_i h;simp only [decide_eq_true_eq] at h;omega
 split
 ·rename_i h;simp only [Bool.and_eq_true,decide_eq_true_eq] at h;omega
 ·omega
end GP
namespace GP
open Go Go.Proofs
set_option maxRecDepth 100000
theorem Au {l : List UInt8} {a : Nat} {b : UInt8} (h : l[a]? = some b) (hb : (b == 32 || b == 10) = true) : f9 l a = f9 l (a + 1):=by
 unfold f9;rw [fK h];simp only [m8];rw [if_pos hb];omega
theorem JR {l : List UInt8} {a : Nat} {b : UInt8} (h : l[a]? = some b) (hb : (b == 35) = true) : f9 l a = f9 l (a + eX cZ l a):=by
 have hb : b = 35:=by simpa using hb
 subst hb
 have hnote : cZ (((35 : UInt8).toNat : Int)) = true:=by decide
 have dr:=fK h
 have hrun : eX cZ l a = 1 + aX cZ (l.drop (a + 1)):=by
  unfold eX aX;rw [dr];simp only [List.takeWhile_cons,hnote,if_true,List.length_cons];omega
 unfold f9
 rw [dr]
 have : m8 false (35 :: l.drop (a + 1)) = 1 + m8 true (l.drop (a + 1)):=rfl
 rw [this,AV,List.drop_drop,hrun,show a + 1 + aX cZ (l.drop (a + 1)) = a + (1 + aX cZ (l.drop (a + 1))) from by omega]
 omega
theorem MK {l : List UInt8} {a : Nat} {b : UInt8} (h : l[a]? = some b) (h1 : (b == 32) = false) (h2 : (b == 10) = false) (h3 : (b == 35) = false) : f9 l a = a:=by
 unfold f9;rw [fK h];simp only [m8,h1,h2,h3,Bool.or_self,Bool.false_eq_true,if_false];rfl
theorem M4 {l : List UInt8} {a : Nat} (h : l.length <= a) : f9 l a = a:=by
 unfold f9;rw [List.drop_eq_nil_of_le h];rfl
set_option maxHeartbeats 16000000 in
theorem Zf : aO Tryz.prog 44 tL:=by
 refine aG (l:=[(99,GG),(100,Bf)]) (.cons A0A (.cons T4 .nil)) A0S fun args r h=>?_
 unfold tL at h
 split at h
 ·rename_i l
  split at h
  ·rename_i hl
   injection h with h;subst h
   refine ⟨by simp,JA (M5 l),fun H T=>?_⟩
   unfold o5
   rcases tf (decide (4096 < l.length)) with g | g
   ·rw [if_pos g]
    have g' : decide ((4096 : Int) < l.length) = true:=by simp only [decide_eq_true_eq] at g ⊢;omega
    simp +contextual only [c44,g',sJ,go_sem]
    rfl
   rw [if_neg (by rw [g];decide)]
   have g' : decide ((4096 : Int) < l.length) = false:=by simp only [decide_eq_false_iff_not] at g ⊢;omega
   simp +contextual only [c44,g',go_sem]
   refine bG (fun i s'=>s'.t 0 = .str l /\ Ext H s'.H /\ ∃ (a f : Nat) (out : List D),s'.t 6 = .int .i64 (a : Int) /\ i <= a /\ a <= l.length /\ l.length < f9 l a + f /\ out.length <= 600 /\ (∀ x ∈ out,lM x) /\ F5 3 T out (s'.t 5) s'.T /\ zQ f l (f9 l a) out = zQ (l.length + 1) l (f9 l 0) []) l.length ⟨0,rfl,Ext.refl H,0,l.length + 1,[],rfl,by omega,by omega,by omega,by simp,by simp,.inl ⟨rfl,rfl,rfl⟩,rfl⟩ (fun i s h=>by obtain ⟨_,_,a,f,out,h⟩:=h;omega) ?_ (aI _)
   rintro i ⟨t,B,T'⟩ ⟨r0,hE,a,f,out,r6,h1,h2,h3,h4,hT,hA,hS⟩
   simp only at r0 hE r6 hA
   have hX:=qD hA
   have hlen:=Fg hA
   have her:=tO hA (BC hT)
   by_cases hlt : a < l.length
   ·have d1 : decide ((a : Int) < l.length) = true:=by simp only [decide_eq_true_eq];omega
    have ex : l[a]? = some l[a]:=by simp [hlt]
    obtain ⟨b,hb⟩ : ∃ b,l[a] = b:=⟨_,rfl⟩
    rw [hb] at ex
    have ix:=fun q=>dU ex q
    have e1 : ((b.toNat : Int) == 32) = (b == 32):=eM b 32 (by decide)
    have e2 : ((b.toNat : Int) == 10) = (b == 10):=eM b 10 (by decide)
    have e3 : ((b.toNat : Int) == 35) = (b == 35):=eM b 35 (by decide)
    rcases tf (b == 32) with g1 | g1
    ·have hB:=Au ex (by rw [g1];rfl)
     rw [hB] at h3 hS
     simp +contextual only [r0,r6,d1,ix,e1,g1,bT a (by omega),hE.t,go_sem]
     exact ⟨a + 1,f,out,rfl,by omega,by omega,h3,h4,hT,hA,hS⟩
    rcases tf (b == 10) with g2 | g2
    ·have hB:=Au ex (by rw [g1,g2];rfl)
     rw [hB] at h3 hS
     simp +contextual only [r0,r6,d1,ix,e1,e2,g1,g2,bT a (by omega),hE.t,go_sem]
     exact ⟨a + 1,f,out,rfl,by omega,by omega,h3,h4,hT,hA,hS⟩
    rcases tf (b == 35) with g3 | g3
    ·have hB:=JR ex g3
     rw [hB] at h3 hS
     have hpos : 0 < eX cZ l a:=by
      have : b = 35:=by simpa using g3
      subst this
      unfold eX;rw [pK ex,if_pos (by decide)];omega
     simp +contextual only [r0,r6,d1,ix,e1,e2,e3,g1,g2,g3,go_sem]
     refine bG (fun j s'=>s'.t 0 = .str l /\ s'.t 5 = t 5 /\ s'.H = B /\ s'.T = T' /\ ∃ k : Nat,s'.t 6 = .int .i64 (k : Nat) /\ a + j <= k /\ k <= l.length /\ k + aX cZ (l.drop k) = a + eX cZ l a) l.length ⟨0,by simp [upd,r0],by simp [upd],rfl,rfl,a,by simp [upd,r6],by omega,by omega,rfl⟩ (fun i s h=>by obtain ⟨_,_,_,_,k,h⟩:=h;omega) ?_ (aI _)
     rintro j ⟨t2,B2,T2⟩ ⟨s0,s5,rfl,rfl,k,s6,k1,k2,k3⟩
     simp only at s0 s5 s6
     by_cases hk : k < l.length
     ·have f1 : decide ((k : Int) < l.length) = true:=by simp only [decide_eq_true_eq];omega
      have ex2 : l[k]? = some l[k]:=by simp [hk]
      obtain ⟨b2,hb2⟩ : ∃ b,l[k] = b:=⟨_,rfl⟩
      rw [hb2] at ex2
      have ix2:=fun q=>dU ex2 q
      have rs:=pK (p:=cZ) ex2
      have pn : cZ (b2.toNat : Int) = ((b2.toNat : Int) != 10):=rfl
      rcases tf ((b2.toNat : Int) != 10) with g4 | g4
      ·have nx : (k + 1) + aX cZ (l.drop (k + 1)) = a + eX cZ l a:=by rw [<- k3,rs,pn,g4,if_pos rfl];omega
       simp +contextual only [s0,s5,s6,f1,ix2,g4,bT k (by omega),go_sem]
       exact ⟨k + 1,rfl,by omega,by omega,nx⟩
      ·rw [rs,pn,g4,if_neg (by decide)] at k3
       have ek : a + eX cZ l a = k:=by omega
       rw [ek] at h3 hS
       simp +contextual only [s0,s5,s6,f1,ix2,g4,hE.t,go_sem]
       exact ⟨k,f,out,rfl,by omega,by omega,h3,h4,hT,hA,hS⟩
     ·have f1 : decide ((k : Int) < l.length) = false:=by simp only [decide_eq_false_iff_not];omega
      rw [AE (by omega)] at k3
      have ek : a + eX cZ l a = k:=by omega
      rw [ek] at h3 hS
      simp +contextual only [s0,s5,s6,f1,hE.t,go_sem]
      exact ⟨k,f,out,rfl,by omega,by omega,h3,h4,hT,hA,hS⟩
    have hB:=MK ex g1 g2 g3
    rw [hB] at h3 hS
    rw [<- hS]
    cases f with
    | zero=>exfalso;omega
    | succ f =>
    rw [rZ] at hS ⊢
    have d0 : decide (l.length <= a) = false:=by simp only [decide_eq_false_iff_not];omega
    rw [if_neg (by rw [d0];decide)] at hS ⊢
    have hag : nL (l.drop a):=by rw [fK ex];exact KX _ _
    have hle : kH (l.drop a) <= (l.drop a).length:=by rw [fK ex];exact Nj _ _
    have hdl : (l.drop a).length = l.length - a:=by simp
    unfold nL at hag
    rw [Lg hlt] at hS ⊢
    have ps : sub (some (a : Int)) (some (l.length : Int)) (.str l) = some (.str (l.drop a)):=by
     rw [zH,if_pos ⟨by omega,by omega,by omega⟩];simp [aP]
    have pl : GG [.str (l.drop a)] = some (.int .i64 (kH (l.drop a) : Nat)):=by
     simp only [GG];rw [if_pos ⟨by omega,by omega⟩]
    have po : Bf [.str ((l.drop a).take (kH (l.drop a)))] = some (Bx (oG ((l.drop a).take (kH (l.drop a))))):=by
     simp only [Bf];rw [if_pos (by simp;omega)]
    have hTo:=Mb ((l.drop a).take (kH (l.drop a)))
    have hTq:=H9 l a
    rw [Lg hlt] at hTq
    have ps2 : sub (some (a : Int)) (some ((a + kH (l.drop a) : Nat) : Int)) (.str l) = some (.str ((l.drop a).take (kH (l.drop a)))):=by
     rw [zH,if_pos ⟨by omega,by omega,by omega⟩,show (((a + kH (l.drop a) : Nat) : Int)).toNat = a + kH (l.drop a) from by omega,show ((a : Int)).toNat = a from by omega,qZ]
    obtain ⟨n,hn⟩ : ∃ n,kH (l.drop a) = n:=⟨_,rfl⟩
    rw [hn] at pl po hTo ps2 hag hle
    obtain ⟨X,hX'⟩ : ∃ X,(l.drop a).take n = X:=⟨_,rfl⟩
    rw [hX'] at po hTo ps2 hag
    obtain ⟨⟨tk,ob⟩,ho⟩ : ∃ z,oG X = z:=⟨_,rfl⟩
    rw [ho] at po hTo hag
    obtain ⟨k,s,m,rfl⟩:=hTo
    simp only [Bx,mkT] at po
    have wS : IntKind.i64.wrap ((a : Int) + (n : Int)) = ((a + n : Nat) : Int):=by rw [iS (by omega) (by omega)];omega
    rcases tf ((((n : Nat) : Int) == 0) || !ob) with q | q
    ·rw [if_pos q] at hag
     have hz : (((vE (l.drop a)).2 : Nat) : Int) = 0:=by rw [hag];rfl
     rw [hz,if_pos (by decide)]
     rcases tf (((n : Nat) : Int) == 0) with q1 | q1
     ·simp +contextual only [r0,r6,d1,ix,e1,e2,e3,g1,g2,g3,ps,pl,wS,ps2,po,q1,bL hE hX,sJ,go_sem]
      rfl
     ·rw [q1] at q
      have q2 : ob = false:=by simpa using q
      subst q2
      simp +contextual only [r0,r6,d1,ix,e1,e2,e3,g1,g2,g3,ps,pl,wS,ps2,po,q1,bL hE hX,sJ,go_sem]
      rfl
    ·rw [if_neg (by rw [q];decide)] at hag
     simp only [Bool.or_eq_false_iff] at q
     obtain ⟨q1,q2⟩:=q
     have q2 : ob = true:=by simpa using q2
     subst q2
     rw [hag] at hS ⊢
     simp only at hS ⊢
     rw [if_neg (by rw [q1];decide)] at hS ⊢
     have n0 : 0 < n:=by
      rcases Nat.eq_zero_or_pos n with h | h
      ·subst h;simp at q1
      ·exact h
     rcases tf ((out.length : Int) == 600) with q3 | q3
     ·rw [if_pos q3]
      simp +contextual only [r0,r6,d1,ix,e1,e2,e3,g1,g2,g3,ps,pl,wS,ps2,po,q1,hlen,q3,bL hE hX,sJ,go_sem]
      rfl
     rw [if_neg (by rw [q3];decide)] at hS ⊢
     have n6 : out.length ≠ 600:=by
      intro h;rw [h] at q3;simp at q3
     have hb1:=EP (l:=l) (a:=a + n) (by omega)
     simp +contextual only [r0,r6,d1,ix,e1,e2,e3,g1,g2,g3,ps,pl,wS,ps2,po,q1,hlen,q3,go_sem]
     refine Bb (mkT k s m) hA rfl (Fc hT) (by omega) (by omega) fun d2 T2 hA2=>?_
     simp +contextual only [r0,r6,wS,hE.ta,go_sem]
     refine ⟨a + n,f,out ++ [mkT k s m],rfl,by omega,by omega,by omega,by simp;omega,?_,hA2,?_⟩
     ·intro x hx
      rcases List.mem_append.1 hx with hx | hx
      ·exact hT x hx
      ·rw [List.mem_singleton] at hx;subst hx;exact ⟨_,_,_,rfl⟩
     ·rfl
   ·have d1 : decide ((a : Int) < l.length) = false:=by simp only [decide_eq_false_iff_not];omega
    have hB:=M4 (l:=l) (a:=a) (by omega)
    rw [hB] at h3 hS
    rw [<- hS]
    cases f with
    | zero=>exfalso;omega
    | succ f =>
    rw [rZ]
    have d0 : decide (l.length <= a) = true:=by simp only [decide_eq_true_eq];omega
    rw [if_pos d0]
    simp +contextual only [r0,r6,d1,b8 hE hX,her,sJ,go_sem]
  ·cases h
 ·cases h
def eE : D:=.agg [.int .i64 0,.int .i64 0,.str [],.nils]
def num (n : Int) : D:=.agg [.int .i64 2,.int .i64 n,.str [],.nils]
def AM : List D -> Option D
 | [.bool b]=>some (.agg [.int .i64 1,.int .i64 (if b then 1 else 0),.str [],.nils])
 | _=>none
def nD : List D -> Option D
 | [.int .i64 n]=>some (num n)
 | _=>none
theorem Vw [HasG Tryz.prog] : aO Tryz.prog 244 AM:=by
 refine aG (l:=[]) Ok.nil VW fun args r h=>?_
 unfold AM at h
 split at h
 ·injection h with h;subst h
  refine ⟨by simp,by simp [D.cl,D.clL],fun H T=>?_⟩
  rename_i b
  cases b <;> simp +contextual only [V6,go_sem]
 ·cases h
theorem Q5 [HasG Tryz.prog] : aO Tryz.prog 242 nD:=by
 refine aG (l:=[]) Ok.nil Xo fun args r h=>?_
 unfold nD at h
 split at h
 ·injection h with h;subst h
  refine ⟨by simp,by simp [D.cl,D.clL,num],fun H T=>?_⟩
  simp +contextual only [XA,num,go_sem]
 ·cases h
def fH (k i : Int) (s : List UInt8) (n : Nat) : Bool :=
 if decide ((0 : Int) < n) then false else if (k != 3) && (s != []) then false else
 if k == 0 then i == 0 else if k == 1 then i == 0 || i == 1 else if k == 2 then true else
 if k == 3 then i == 0 && decide ((s.length : Int) <= 64) else if k == 4 then decide (0 <= i) && decide (i <= 1099511627776) else false
def o8 : List D -> Option D
 | [.agg [.int .i64 k,.int .i64 i,.str s,l]]=>match dZ l with
  | some n=>some (.bool (fH k i s n))
  | none=>none
 | _=>none
theorem wH {l : D} {n : Nat} (h : dZ l = some n) : l.okc = true /\ l.cells = [l]:=by
 cases l <;> simp [dZ] at h <;> exact ⟨rfl,rfl⟩
theorem W8 [HasG Tryz.prog] : aO Tryz.prog 179 o8:=by
 refine aG (l:=[]) Ok.nil TO fun args r h=>?_
 unfold o8 at h
 split at h
 ·split at h
  ·rename_i k i s l n hn
   injection h with h;subst h
   refine ⟨by simp,by simp [D.cl,D.clL,num],fun H T=>?_⟩
   have hl:=wH hn
   simp +contextual only [W7,fH,hn,hl.1,hl.2,go_sem]
  ·cases h
 ·cases h
theorem eH (a : Int) (h : -(2 ^ 63) <= a) (h' : a < 2 ^ 63) : IntKind.i64.wrap a = a:=by
 have e : IntKind.i64.wrap a = if a % (2 ^ 64 : Int) ≥ (2 ^ 63 : Int) then a % (2 ^ 64 : Int) - (2 ^ 64 : Int) else a % (2 ^ 64 : Int):=by
  simp [IntKind.wrap,IntKind.bits,IntKind.signed]
 rw [e]
 split <;> omega
theorem N7 (n : Nat) (h : n < 2 ^ 62) : IntKind.i64.wrap (n : Int) = n:=eH _ (by omega) (by omega)
theorem aH (n : Nat) (h : n < 2 ^ 61) : IntKind.i64.wrap ((n : Int) + 1) = ((n + 1 : Nat) : Int):=by
 have:=N7 (n + 1) (by omega)
 rw [<- this];simp
@[go_sem] theorem Yq (s : List UInt8) (k : IntKind) (i : Nat) : ixs (.str s) (.int k (i : Int)) = (s[i]?).map fun b=>.int .u8 (b.toNat : Int):=by
 simp [ixs]
def gZ (a b : Int) : Int:=if a < b then -1 else if b < a then 1 else 0
def cA : List UInt8 -> List UInt8 -> Int
 | [],[]=>0
 | [],_ :: _=>-1
 | _ :: _,[]=>1
 | x :: a,y :: b=>if x.toNat < y.toNat then -1 else if y.toNat < x.toNat then 1 else cA a b
def eQ : List D -> Option D
 | [.int .i64 a,.int .i64 b]=>some (.int .i64 (gZ a b))
 | _=>none
theorem UV [HasG Tryz.prog] : aO Tryz.prog 203 eQ:=by
 refine aG (l:=[]) Ok.nil W4 fun args r h=>?_
 unfold eQ at h
 split at h
 ·injection h with h;subst h
  refine ⟨by simp,by simp [D.cl],fun H T=>?_⟩
  simp +contextual only [Wn,gZ,go_sem]
  simp
  omega
 ·cases h
def A8 : List D -> Option D
 | [.str a,.str b]=>if a.length <= 2 ^ 47 /\ b.length <= 2 ^ 47 then some (.int .i64 (cA a b)) else none
 | _=>none
theorem WS [HasG Tryz.prog] : aO Tryz.prog 204 A8:=by
 refine aG (l:=[]) Ok.nil W9 fun args r h=>?_
 unfold A8 at h
 split at h
 ·split at h
  ·rename_i a b hl
   injection h with h;subst h
   refine ⟨by simp,by simp [D.cl],fun H T=>?_⟩
   simp +contextual only [Ut,go_sem]
   refine bG (fun i s=>s.t 0 = .str a /\ s.t 1 = .str b /\ s.t 5 = .int .i64 i /\ s.H = H /\ s.T = T /\ i <= a.length /\ i <= b.length /\ cA (a.drop i) (b.drop i) = cA a b) a.length ⟨0,by simp [upd,bF]⟩ (fun i s h=>h.2.2.2.2.2.1) ?_ (aI _)
   rintro i ⟨t,H',T'⟩ ⟨h0,h1,h5,rfl,rfl,hi,hj,hc⟩
   simp only at h0 h1 h5
   by_cases ha : i < a.length
   ·by_cases hb : i < b.length
    ·have d1 : decide ((i : Int) < a.length) = true:=by simpa using ha
     have d2 : decide ((i : Int) < b.length) = true:=by simpa using hb
     have e1 : a[i]? = some a[i]:=by simp [ha]
     have e2 : b[i]? = some b[i]:=by simp [hb]
     rw [List.drop_eq_getElem_cons ha,List.drop_eq_getElem_cons hb,cA] at hc
     simp +contextual only [h0,h1,h5,d1,d2,e1,e2,aH i (by omega),go_sem]
     refine ⟨fun h=>?_,fun h=>⟨fun h'=>?_,fun h'=>⟨by omega,by omega,?_⟩⟩⟩ <;> simp only [decide_eq_true_eq,decide_eq_false_iff_not] at h <;> (try simp only [decide_eq_true_eq,decide_eq_false_iff_not] at h')
     ·rw [if_pos (by omega)] at hc;rw [hc]
     ·rw [if_neg (by omega),if_pos (by omega)] at hc;rw [hc]
     ·rw [if_neg (by omega),if_neg (by omega)] at hc;exact hc
    ·have d1 : decide ((i : Int) < a.length) = true:=by simpa using ha
     have d2 : decide ((i : Int) < b.length) = false:=by simpa using hb
     have d3 : decide ((a.length : Int) < b.length) = false:=by simp;omega
     have d4 : decide ((b.length : Int) < a.length) = true:=by simp;omega
     rw [List.drop_eq_getElem_cons ha,List.drop_eq_nil_of_le (by omega : b.length <= i),cA] at hc
     simp +contextual only [h0,h1,h5,d1,d2,d3,d4,← hc,go_sem]
   ·have d1 : decide ((i : Int) < a.length) = false:=by simpa using ha
    have d3 : decide ((b.length : Int) < a.length) = false:=by simp;omega
    rw [List.drop_eq_nil_of_le (by omega : a.length <= i)] at hc
    by_cases hb : i < b.length
    ·have d4 : decide ((a.length : Int) < b.length) = true:=by simp;omega
     rw [List.drop_eq_getElem_cons hb,cA] at hc
     simp +contextual only [h0,h1,h5,d1,d3,d4,← hc,go_sem]
    ·have d4 : decide ((a.length : Int) < b.length) = false:=by simp;omega
     rw [List.drop_eq_nil_of_le (by omega : b.length <= i),cA] at hc
     simp +contextual only [h0,h1,h5,d1,d3,d4,← hc,go_sem]
  ·cases h
 ·cases h
theorem Og : Tryz.f205.body.isNone = true:=by kernel_rfl
theorem P9 : (Tryz.f205.name == "runtime.NumGoroutine") = false := by kernel_rfl
theorem PE : Extern.findNext Tryz.f205 = none:=by kernel_rfl
theorem PA : Extern.find Tryz.f205 = some Extern.BytealgCompare.compare:=by rfl
theorem IG : ∀ (a b : List UInt8),Lib.compareBytes a b = cA a b
 | [],[]=>rfl
 | [],_ :: _=>rfl
 | _ :: _,[]=>rfl
 | x :: a,y :: b=>by
  simp only [Lib.compareBytes,cA,UInt8.lt_iff_toNat_lt,IG a b]
def oZ : List D -> Option D
 | [.str a,.str b]=>some (.int .i64 (cA a b))
 | _=>none
theorem TK [HasG Tryz.prog] : aO Tryz.prog 205 oZ:=by
 intro args r hr args' he H T Q hQ
 unfold oZ at hr
 split at hr
 ·rename_i a b
  injection hr with hr;subst hr
  intro c w vs _ hi hT hrep
  have h:=hrep.erase
  rw [he] at h
  match vs,h.len with
  | [v1,v2],_ =>
   have h1 : Rep c (.str a) v1:=h.rep 0 (by simp) (by simp)
   have h2 : Rep c (.str b) v2:=h.rep 1 (by simp) (by simp)
   cases h1;cases h2
   refine .inr ⟨.int .i64 (cA a b),w,?_,?_⟩
   ·rw [run_callFunc_extern Tryz.func205 P9 Og PE PA]
    have:=Lib.run_compareString (P:=Tryz.prog) ⟨a.toArray⟩ ⟨b.toArray⟩ w
    rw [IG] at this
    simp only at this
    rw [this];rfl
   ·exact ⟨_,rfl,_,H,T,c,hQ,.int _ _,hi,Cx.le.refl c,hT,Below.refl _ _⟩
 ·cases hr
theorem XW [HasG Tryz.prog] : aO Tryz.prog 176 oZ:=by
 refine aG (l:=[(205,oZ)]) (.cons TK .nil) Up fun args r h=>?_
 unfold oZ at h
 split at h
 ·injection h with h;subst h
  refine ⟨by simp,by simp [D.cl],fun H T=>?_⟩
  simp +contextual only [Ww,oZ,go_sem]
 ·cases h
theorem Xi [HasG Tryz.prog] : aO Tryz.prog 115 oZ:=by
 refine aG (l:=[(176,oZ)]) (.cons XW .nil) Uo fun args r h=>?_
 unfold oZ at h
 split at h
 ·injection h with h;subst h
  refine ⟨by simp,by simp [D.cl],fun H T=>?_⟩
  simp +contextual only [Ul,oZ,go_sem]
 ·cases h
def z5 : List D -> Option D
 | [.int .i64 _]=>some (.bool false)
 | _=>none
theorem UW [HasG Tryz.prog] : aO Tryz.prog 174 z5:=by
 refine aG (l:=[]) .nil Va fun args r h=>?_
 unfold z5 at h
 split at h
 ·injection h with h;subst h
  refine ⟨by simp,by simp [D.cl],fun H T=>?_⟩
  simp +contextual only [XZ,go_sem]
 ·cases h
theorem TA [HasG Tryz.prog] : aO Tryz.prog 175 z5:=by
 refine aG (l:=[]) .nil VG fun args r h=>?_
 unfold z5 at h
 split at h
 ·injection h with h;subst h
  refine ⟨by simp,by simp [D.cl],fun H T=>?_⟩
  simp +contextual only [Tb,go_sem]
 ·cases h
theorem VL [HasG Tryz.prog] : aO Tryz.prog 113 eQ:=by
 refine aG (l:=[(174,z5)]) (.cons UW .nil) Vf fun args r h=>?_
 unfold eQ at h
 split at h
 ·injection h with h;subst h
  refine ⟨by simp,by simp [D.cl],fun H T=>?_⟩
  simp +contextual only [X8,z5,gZ,go_sem]
  simp
  omega
 ·cases h
theorem Vr [HasG Tryz.prog] : aO Tryz.prog 114 eQ:=by
 refine aG (l:=[(175,z5)]) (.cons TA .nil) Sk fun args r h=>?_
 unfold eQ at h
 split at h
 ·injection h with h;subst h
  refine ⟨by simp,by simp [D.cl],fun H T=>?_⟩
  simp +contextual only [WJ,z5,gZ,go_sem]
  simp
  omega
 ·cases h
def CX : List D -> Option D
 | [.agg [.int .i64 k,.int .i64 i,.str s,l]]=>match dZ l with
  | some n=>some (.bool (fH k i s n))
  | none=>none
 | _=>none
theorem U7 [HasG Tryz.prog] : aO Tryz.prog 171 CX:=by
 refine aG (l:=[]) Ok.nil TN fun args r h=>?_
 unfold CX at h
 split at h
 ·split at h
  ·rename_i k i s l n hn
   injection h with h;subst h
   refine ⟨by simp,by simp [D.cl,D.clL,num],fun H T=>?_⟩
   have hl:=wH hn
   simp +contextual only [VT,hn,hl.1,hl.2,go_sem]
   repeat' (first | apply And.intro | intro _)
   all_goals grind [fH]
  ·cases h
 ·cases h
def rU (k i : Int) (s : List UInt8) (k' i' : Int) (s' : List UInt8) : Int :=
 if k != k' then gZ k k' else if k == 3 then cA s s' else gZ i i'
def pO : List D -> Option D
 | [.agg [.int .i64 k,.int .i64 i,.str s,l],.agg [.int .i64 k',.int .i64 i',.str s',l']]=>if s.length <= 2 ^ 47 /\ s'.length <= 2 ^ 47 /\ (dZ l).isSome /\ (dZ l').isSome then some (.int .i64 (rU k i s k' i' s')) else none
 | _=>none
theorem Wz [HasG Tryz.prog] : aO Tryz.prog 172 pO:=by
 refine aG (l:=[(203,eQ),(204,A8)]) (.cons UV (.cons WS .nil)) UG fun args r h=>?_
 unfold pO at h
 split at h
 ·split at h
  ·rename_i hl
   injection h with h;subst h
   refine ⟨by simp,by simp [D.cl,D.clL,num],fun H T=>?_⟩
   obtain ⟨h1,h2,h3,h4⟩:=hl
   obtain ⟨n,hn⟩:=Option.isSome_iff_exists.1 h3
   obtain ⟨n',hn'⟩:=Option.isSome_iff_exists.1 h4
   have hl:=wH hn
   have hl':=wH hn'
   simp +contextual only [WZ,eQ,A8,rU,hn,hl.1,hl.2,hn',hl'.1,hl'.2,h1,h2,go_sem]
  ·cases h
 ·cases h
@[go_sem high] theorem ZR (sz : Nat) (b : Bool) (xs : List D) (k : IntKind) (i : Nat) : ia sz (aA b xs) (.int k (i : Int)) = iaE sz xs[i]?:=by
 rw [D1];simp
@[go_sem high] theorem YF (sz : Nat) (t : Option Nat) (xs : List D) (k : IntKind) (i : Nat) : ia sz (.sl t xs) (.int k (i : Int)) = iaE sz xs[i]?:=by
 rw [Py];simp
theorem n7 {l : D} (h : FF l = true) : ∃ b,l = aA b (elems l):=by
 unfold FF at h
 split at h
 ·exact ⟨true,rfl⟩
 ·exact ⟨false,rfl⟩
 ·cases h
@[go_sem] theorem qX (b : Bool) (xs : List D) : FF (aA b xs) = true:=by
 rcases aU b xs with ⟨h,_⟩ | h <;> rw [h] <;> rfl
theorem CV (n : Nat) (h : n < 2 ^ 61) (h0 : 0 < n) : IntKind.i64.wrap ((n : Int) - 1) = ((n - 1 : Nat) : Int):=by
 rw [eH _ (by omega) (by omega)];omega
theorem qR {p : Nat -> Bool} (i : Nat) : (List.range (i + 1)).all p = ((List.range i).all p && p i):=by
 rw [List.range_succ];simp
theorem gO {p : Nat -> Bool} {i m : Nat} (hp : p i = false) (him : i < m) : (List.range m).all p = false:=by
 cases hq : (List.range m).all p with
 | false=>rfl
 | true=>rw [List.all_eq_true.1 hq i (by simpa using him)] at hp;cases hp
def dI (d : D) : Bool:=fH (vk d) (vi d) (vs d) (vl d).length
def vk0 : List D -> Int
 | x :: _=>vk x
 | []=>0
def kE (cmp : D -> D -> Int) (xs : List D) (i : Nat) : Bool:=match xs[i]? with
 | none=>true
 | some x=>dI x && (vk x != 0) && (vk x == vk0 xs) && (i == 0 || (match xs[i - 1]? with | some y=>decide (cmp y x < 0) | none=>false))
def uV (cmp : D -> D -> Int) (xs : List D) : Bool:=(List.range xs.length).all (kE cmp xs)
def aN (a b : D) : Int:=rU (vk a) (vi a) (vs a) (vk b) (vi b) (vs b)
def cJ (d : D) : Bool:=if vk d != 5 then dI d else if (vi d != 0) || (vs d != []) || decide ((16 : Int) < (vl d).length) then false else uV aN (vl d)
def jY : List D -> Option D
 | [d]=>if d.isV = true then some (.bool (cJ d)) else none
 | _=>none
theorem uY {xs : List D} {k i : Int} {s : List UInt8} {n : Bool} {l : List D} (h : xs[0]? = some (mkV k i s n l)) : vk0 xs = k:=by
 cases xs with
 | nil=>simp at h
 | cons x xs=>simp at h;subst h;rfl
theorem bD {l : List D} (h : ∀ x ∈ l,x.isV = true) : D.eraseL l = l:=uB (gJ.2 h)
theorem fF {xs : List D} (h : ∀ x ∈ xs,x.isV = true) {i : Nat} (hi : i < xs.length) : ∃ k i' s n l,xs[i]? = some (mkV k i' s n l) /\ s.length <= 2 ^ 47 /\ l.length <= 2 ^ 47 /\ (∀ x ∈ l,x.isV = true) /\ D.eraseL l = l:=by
 obtain ⟨k,i',s,n,l,he,h1,h2,h3⟩:=bZ (h _ (List.getElem_mem hi))
 exact ⟨k,i',s,n,l,by rw [<- he];simp [hi],h1,h2,h3,bD h3⟩
theorem Pf [HasG Tryz.prog] : aO Tryz.prog 107 jY:=by
 refine aG (l:=[(171,CX),(172,pO)]) (.cons U7 (.cons Wz .nil)) Sv fun args r h=>?_
 unfold jY at h
 split at h
 ·split at h
  ·rename_i d hd
   injection h with h;subst h
   refine ⟨by simp,by simp [D.cl],fun H T=>?_⟩
   obtain ⟨k,i,s,n,xs,rfl,hs,hx,hV⟩:=bZ hd
   have eL:=bD hV
   have F : cJ (mkV k i s n xs) = if k != 5 then fH k i s xs.length else if (i != 0) || (s != []) || decide ((16 : Int) < xs.length) then false else uV aN xs:=by simp only [cJ,dI,gX,j9,kL,fO]
   rw [F]
   simp +contextual only [WY,mkV,CX,eL,go_sem]
   intro q1 q2 q3 q4
   refine bG (fun j s'=>s'.t 1 = .ptr H.length 0 /\ s'.t 3 = .int .i64 j /\ s'.H = H ++ [.row [.int .i64 k,.int .i64 i,.str s,aA n xs]] /\ s'.T = T /\ j <= xs.length /\ (List.range j).all (kE aN xs) = true) xs.length ⟨0,by simp [upd,bF]⟩ (fun i s h=>h.2.2.2.2.1) ?_ (aI _)
   rintro j ⟨t,H',T'⟩ ⟨h1,h3,rfl,rfl,hj,hc⟩
   simp only at h1 h3
   by_cases ha : j < xs.length
   ·have d1 : decide ((j : Int) < xs.length) = true:=by simpa using ha
    obtain ⟨k1,i1,s1,n1,l1,e1,hs1,hx1,hV1,eL1⟩:=fF hV ha
    obtain ⟨k0,i0,s0,n0,l0,e0,_⟩:=fF hV (show 0 < xs.length by omega)
    have fk:=uY e0
    by_cases hj0 : 0 < j
    ·obtain ⟨k2,i2,s2,n2,l2,e2,hs2,hx2,hV2,eL2⟩:=fF hV (show j - 1 < xs.length by omega)
     have d2 : decide ((0 : Int) < j) = true:=by simpa using hj0
     have G : kE aN xs j = (fH k1 i1 s1 l1.length && (k1 != 0) && (k1 == k0) && decide (rU k2 i2 s2 k1 i1 s1 < 0)):=by
      have : (j == 0) = false:=by simp;omega
      simp only [kE,e1,e2,fk,dI,aN,gX,j9,kL,fO,this,Bool.false_or]
     have bad : kE aN xs j = false -> uV aN xs = false:=fun h=>gO h ha
     simp +contextual only [h1,h3,d1,d2,e0,e1,e2,mkV,CX,pO,eL1,eL2,CV j (by omega) hj0,aH j (by omega),hs1,hs2,Option.isSome_some,go_sem]
     refine ⟨fun q=>?_,fun p1=>⟨fun q=>?_,fun p2=>⟨fun q=>?_,fun p3=>⟨fun q=>?_,fun p4=>⟨by omega,?_⟩⟩⟩⟩⟩
     ·rw [bad (by rw [G];grind)]
     ·rw [bad (by rw [G];grind)]
     ·rw [bad (by rw [G];grind)]
     ·rw [bad (by rw [G];grind)]
     ·rw [List.all_append,hc]
      simp only [List.all_cons,List.all_nil,G]
      grind
    ·have d2 : decide ((0 : Int) < j) = false:=by simpa using hj0
     have G : kE aN xs j = (fH k1 i1 s1 l1.length && (k1 != 0) && (k1 == k0)):=by
      have : (j == 0) = true:=by simp;omega
      simp only [kE,e1,fk,dI,aN,gX,j9,kL,fO,this,Bool.true_or,Bool.and_true]
     have bad : kE aN xs j = false -> uV aN xs = false:=fun h=>gO h ha
     simp +contextual only [h1,h3,d1,d2,e0,e1,mkV,CX,pO,eL1,aH j (by omega),hs1,Option.isSome_some,go_sem]
     refine ⟨fun q=>?_,fun p1=>⟨fun q=>?_,fun p2=>⟨fun q=>?_,fun p3=>⟨by omega,?_⟩⟩⟩⟩
     ·rw [bad (by rw [G];grind)]
     ·rw [bad (by rw [G];grind)]
     ·rw [bad (by rw [G];grind)]
     ·rw [List.all_append,hc]
      simp only [List.all_cons,List.all_nil,G]
      grind
   ·have d1 : decide ((j : Int) < xs.length) = false:=by simpa using ha
    have hA : uV aN xs = true:=by
     have : j = xs.length:=by omega
     subst this;exact hc
    simp +contextual only [h1,h3,d1,mkV,hA,go_sem]
  ·cases h
 ·cases h
theorem tY (n off : Nat) (v : D) (M : Hp) : ∀ (L : Hp) (i : Nat),putRow n off v (L ++ M) (L.length + i) = (putRow n off v M i).map (L ++ ·)
 | [],i=>by simp
 | x :: L,i=>by
  have e : (x :: L).length + i = (L.length + i) + 1:=by simp;omega
  rw [e,List.cons_append,M6,tY n off v M L i]
  cases putRow n off v M i <;> simp
@[go_sem] theorem Pi (n off : Nat) (v : D) (L M : Hp) (i : Nat) : putRow n off v (L ++ M) (L.length + i) = (putRow n off v M i).map (L ++ ·):=tY n off v M L i
@[go_sem] theorem Pz (n off : Nat) (v : D) (L M : Hp) : putRow n off v (L ++ M) L.length = (putRow n off v M 0).map (L ++ ·):=tY n off v M L 0
def or3 (a b c : Int) : Int:=if a != 0 then a else if b != 0 then b else c
def PS : List D -> Option D
 | [.sl none [.int .i64 a,.int .i64 b,.int .i64 c]]=>some (.int .i64 (or3 a b c))
 | _=>none
theorem WK [HasG Tryz.prog] : aO Tryz.prog 112 PS:=by
 refine aG (l:=[]) .nil UR fun args r h=>?_
 unfold PS at h
 split at h
 ·injection h with h;subst h
  rename_i a b c
  refine ⟨by simp,by simp [D.cl],fun H T=>?_⟩
  simp +contextual only [Ur,go_sem]
  refine bG (fun i s=>s.t 3 = .int .i64 0 /\ s.t 6 = .sl none [.int .i64 a,.int .i64 b,.int .i64 c] /\ s.t 7 = .int .i64 3 /\ s.t 8 = .int .i64 i /\ s.H = H /\ s.T = T /\ i <= 3 /\ (1 <= i -> a = 0) /\ (2 <= i -> b = 0) /\ (3 <= i -> c = 0)) 3 ⟨0,by simp [upd,bF]⟩ (fun i s h=>h.2.2.2.2.2.2.1) ?_ (aI _)
  rintro i ⟨t,H',T'⟩ ⟨h3,h6,h7,h8,rfl,rfl,hi,z1,z2,z3⟩
  simp only at h3 h6 h7 h8
  have w1 : IntKind.i64.wrap 1 = 1:=by decide
  have w2 : IntKind.i64.wrap 2 = 2:=by decide
  have w3 : IntKind.i64.wrap 3 = 3:=by decide
  match i,hi with
  | 0,_ =>
   simp +contextual only [h3,h6,h7,h8,or3,w1,Int.reduceAdd,go_sem]
   grind
  | 1,_ =>
   have:=z1 (by omega);subst this
   simp +contextual only [h3,h6,h7,h8,or3,w2,Int.reduceAdd,go_sem]
   grind
  | 2,_ =>
   have:=z1 (by omega);subst this
   have:=z2 (by omega);subst this
   simp +contextual only [h3,h6,h7,h8,or3,w3,Int.reduceAdd,go_sem]
   grind
  | 3,_ =>
   have:=z1 (by omega);subst this
   have:=z2 (by omega);subst this
   have:=z3 (by omega);subst this
   simp +contextual only [h3,h6,h7,h8,or3,go_sem]
 ·cases h
def zU (f : D -> D -> Int) : List D -> List D -> Int
 | [],[]=>0
 | [],_ :: _=>-1
 | _ :: _,[]=>1
 | x :: xs,y :: ys=>if f x y != 0 then f x y else zU f xs ys
def Jv (dom : D -> Bool) (f : D -> D -> Int) : List D -> Option D
 | [l1,l2,.fn 64 [] []]=>if FF l1 = true /\ FF l2 = true /\ D.isVs (elems l1) = true /\ D.isVs (elems l2) = true /\ (elems l1).all dom = true /\ (elems l2).all dom = true /\ (elems l1).length <= 2 ^ 47 /\ (elems l2).length <= 2 ^ 47 then some (.int .i64 (zU f (elems l1) (elems l2))) else none
 | _=>none
theorem Wm [HasG Tryz.prog] {φ : List D -> Option D} (h13 : aO Tryz.prog 64 φ) {dom : D -> Bool} {f : D -> D -> Int} (hφ : ∀ x y,x.isV = true -> y.isV = true -> dom x = true -> dom y = true -> φ [x,y] = some (.int .i64 (f x y))) : aO Tryz.prog 116 (Jv dom f):=by
 refine aG (l:=[(64,φ)]) (.cons h13 .nil) T7 fun args r h=>?_
 unfold Jv at h
 split at h
 ·split at h
  ·rename_i l1 l2 hl
   injection h with h;subst h
   refine ⟨by simp,by simp [D.cl],fun H T=>?_⟩
   obtain ⟨g1,g2,g3,g4,g5,g6,g7,g8⟩:=hl
   obtain ⟨b1,hb1⟩:=n7 g1
   obtain ⟨b2,hb2⟩:=n7 g2
   generalize elems l1 = xs at *
   generalize elems l2 = ys at *
   subst hb1;subst hb2
   have hV1:=gJ.1 g3
   have hV2:=gJ.1 g4
   simp +contextual only [VM,go_sem]
   refine bG (fun i s=>s.t 0 = aA b1 xs /\ s.t 1 = aA b2 ys /\ s.t 2 = .fn 64 [] [] /\ s.t 11 = aA b1 xs /\ s.t 12 = .int .i64 xs.length /\ s.t 13 = .int .i64 i /\ (∃ L,s.H = H ++ L) /\ s.T = T /\ i <= xs.length /\ i <= ys.length /\ zU f (xs.drop i) (ys.drop i) = zU f xs ys) xs.length ⟨0,by simp [upd,bF]⟩ (fun i s h=>h.2.2.2.2.2.2.2.2.1) ?_ (aI _)
   rintro i ⟨t,H',T'⟩ ⟨h0,h1,h2,h11,h12,h13,⟨L,rfl⟩,rfl,hi,hj,hc⟩
   simp only at h0 h1 h2 h11 h12 h13
   by_cases ha : i < xs.length
   ·have d1 : decide ((i : Int) < xs.length) = true:=by simpa using ha
    obtain ⟨k1,i1,s1,n1,q1,e1,_,_,v1,r1⟩:=fF hV1 ha
    by_cases hb : i < ys.length
    ·have d2 : decide ((ys.length : Int) <= i) = false:=by simp;omega
     obtain ⟨k2,i2,s2,n2,q2,e2,_,_,v2,r2⟩:=fF hV2 hb
     have x1 : xs[i] = mkV k1 i1 s1 n1 q1:=by rw [List.getElem?_eq_getElem ha] at e1;exact Option.some.inj e1
     have x2 : ys[i] = mkV k2 i2 s2 n2 q2:=by rw [List.getElem?_eq_getElem hb] at e2;exact Option.some.inj e2
     have p:=hφ _ _ (hV1 _ (List.getElem_mem ha)) (hV2 _ (List.getElem_mem hb)) (List.all_eq_true.1 g5 _ (List.getElem_mem ha)) (List.all_eq_true.1 g6 _ (List.getElem_mem hb))
     rw [List.drop_eq_getElem_cons ha,List.drop_eq_getElem_cons hb,zU] at hc
     rw [x1,x2] at p hc
     generalize f (mkV k1 i1 s1 n1 q1) (mkV k2 i2 s2 n2 q2) = F at p hc
     simp only [mkV] at p
     simp +contextual only [h0,h1,h2,h11,h12,h13,d1,d2,e1,e2,mkV,p,r1,r2,aH i (by omega),go_sem]
     refine ⟨fun q=>?_,fun q=>⟨⟨_,rfl⟩,by omega,by omega,?_⟩⟩
     ·rw [if_pos q] at hc;rw [hc]
     ·rw [if_neg (by rw [q];decide)] at hc;exact hc
    ·have d2 : decide ((ys.length : Int) <= i) = true:=by simp;omega
     rw [List.drop_eq_getElem_cons ha,List.drop_eq_nil_of_le (by omega : ys.length <= i),zU] at hc
     simp +contextual only [h0,h1,h2,h11,h12,h13,d1,d2,e1,mkV,← hc,go_sem]
   ·have d1 : decide ((i : Int) < xs.length) = false:=by simpa using ha
    rw [List.drop_eq_nil_of_le (by omega : xs.length <= i)] at hc
    by_cases hb : i < ys.length
    ·have d2 : decide ((xs.length : Int) < ys.length) = true:=by simp;omega
     rw [List.drop_eq_getElem_cons hb,zU] at hc
     simp +contextual only [h0,h1,h2,h11,h12,h13,d1,d2,← hc,go_sem]
    ·have d2 : decide ((xs.length : Int) < ys.length) = false:=by simp;omega
     rw [List.drop_eq_nil_of_le (by omega : ys.length <= i),zU] at hc
     simp +contextual only [h0,h1,h2,h11,h12,h13,d1,d2,← hc,go_sem]
  ·cases h
 ·cases h
def JS (f : D -> D -> Int) (a b : D) : Int :=
 if or3 (gZ (vk a) (vk b)) (gZ (vi a) (vi b)) (cA (vs a) (vs b)) != 0 then or3 (gZ (vk a) (vk b)) (gZ (vi a) (vi b)) (cA (vs a) (vs b)) else zU f (vl a) (vl b)
def Bt (dom : D -> Bool) (f : D -> D -> Int) : List D -> Option D
 | [a,b]=>if a.isV = true /\ b.isV = true /\ (vl a).all dom = true /\ (vl b).all dom = true then some (.int .i64 (JS f a b)) else none
 | _=>none
theorem A0n [HasG Tryz.prog] {dom : D -> Bool} {f : D -> D -> Int} (h38 : aO Tryz.prog 116 (Jv dom f)) : aO Tryz.prog 64 (Bt dom f):=by
 refine aG (l:=[(113,eQ),(114,eQ),(115,oZ),(112,PS),(116,Jv dom f)]) (.cons VL (.cons Vr (.cons Xi (.cons WK (.cons h38 .nil))))) ZF fun args r h=>?_
 unfold Bt at h
 split at h
 ·split at h
  ·rename_i a b hab
   injection h with h;subst h
   refine ⟨by simp,by simp [D.cl],fun H T=>?_⟩
   obtain ⟨ha,hb,hda,hdb⟩:=hab
   obtain ⟨k1,i1,s1,n1,l1,rfl,z1,y1,hV1⟩:=bZ ha
   obtain ⟨k2,i2,s2,n2,l2,rfl,z2,y2,hV2⟩:=bZ hb
   simp only [fO] at hda hdb
   have r1:=bD hV1
   have r2:=bD hV2
   have p : Jv dom f [aA n1 l1,aA n2 l2,.fn 64 [] []] = some (.int .i64 (zU f l1 l2)):=by
    simp only [Jv,qX,aQ,gJ.2 hV1,gJ.2 hV2,hda,hdb,y1,y2,and_self,if_true]
   have q : JS f (mkV k1 i1 s1 n1 l1) (mkV k2 i2 s2 n2 l2) = if or3 (gZ k1 k2) (gZ i1 i2) (cA s1 s2) != 0 then or3 (gZ k1 k2) (gZ i1 i2) (cA s1 s2) else zU f l1 l2:=by
    simp only [JS,gX,j9,kL,fO]
   rw [q]
   simp +contextual only [c64,mkV,eQ,oZ,PS,r1,r2,p,RY,go_sem]
  ·cases h
 ·cases h
theorem Mh [HasG Tryz.prog] : aO Tryz.prog 64 (fun _=>none):=fun _ _ h=>by cases h
def ON (_ : D) : Bool:=false
def f0 (_ _ : D) : Int:=0
def gU:=JS f0
theorem Le [HasG Tryz.prog] : aO Tryz.prog 64 (Bt ON f0):=A0n (Wm Mh (fun _ _ _ _ h=>by cases h))
def leaf (d : D) : Bool:=(vl d).isEmpty
theorem C4 {x y : D} (hx : x.isV = true) (hy : y.isV = true) (h1 : leaf x = true) (h2 : leaf y = true) : Bt ON f0 [x,y] = some (.int .i64 (gU x y)):=by
 simp only [leaf,List.isEmpty_iff] at h1 h2
 simp [Bt,hx,hy,h1,h2,gU]
def fZ (d : D) : Bool:=if vk d != 5 then dI d else if uV gU (vl d) then (vi d == 0) && (vs d == []) && decide (((vl d).length : Int) <= 16) else false
def kD : List D -> Option D
 | [d]=>if d.isV = true then some (.bool (fZ d)) else none
 | _=>none
theorem jF {k i : Int} {s : List UInt8} {n : Nat} (h : fH k i s n = true) : n = 0:=by
 unfold fH at h
 by_cases hn : (0 : Int) < n
 ·simp [hn] at h
  exact h.1
 ·omega
theorem PX [HasG Tryz.prog] : aO Tryz.prog 129 kD:=by
 refine aG (l:=[(179,o8),(64,Bt ON f0)]) (.cons W8 (.cons Le .nil)) Xx fun args r h=>?_
 unfold kD at h
 split at h
 ·split at h
  ·rename_i d hd
   injection h with h;subst h
   refine ⟨by simp,by simp [D.cl],fun H T=>?_⟩
   obtain ⟨k,i,s,n,xs,rfl,hs,hx,hV⟩:=bZ hd
   have eL:=bD hV
   have F : fZ (mkV k i s n xs) = if k != 5 then fH k i s xs.length else if uV gU xs then (i == 0) && (s == []) && decide ((xs.length : Int) <= 16) else false:=by simp only [fZ,dI,gX,j9,kL,fO]
   rw [F]
   simp +contextual only [Ub,mkV,o8,eL,go_sem]
   intro q1
   refine bG (fun j s'=>s'.t 1 = .ptr H.length 0 /\ s'.t 11 = aA n xs /\ s'.t 12 = .int .i64 xs.length /\ s'.t 13 = .int .i64 j /\ (∃ L,s'.H = H ++ .row [.int .i64 k,.int .i64 i,.str s,aA n xs] :: L) /\ s'.T = T /\ j <= xs.length /\ (List.range j).all (kE gU xs) = true) xs.length ⟨0,by simp [upd,bF]⟩ (fun i s h=>h.2.2.2.2.2.2.1) ?_ (aI _)
   rintro j ⟨t,H',T'⟩ ⟨h1,h11,h12,h13,⟨L,rfl⟩,rfl,hj,hc⟩
   simp only at h1 h11 h12 h13
   by_cases ha : j < xs.length
   ·have d1 : decide ((j : Int) < xs.length) = true:=by simpa using ha
    obtain ⟨k1,i1,s1,n1,l1,e1,hs1,hx1,hV1,eL1⟩:=fF hV ha
    obtain ⟨k0,i0,s0,n0,l0,e0,_⟩:=fF hV (show 0 < xs.length by omega)
    have fk:=uY e0
    have bad : kE gU xs j = false -> uV gU xs = false:=fun h=>gO h ha
    by_cases hj0 : 0 < j
    ·obtain ⟨k2,i2,s2,n2,l2,e2,hs2,hx2,hV2,eL2⟩:=fF hV (show j - 1 < xs.length by omega)
     have d2 : decide ((0 : Int) < j) = true:=by simpa using hj0
     have pv : kE gU xs (j - 1) = true:=List.all_eq_true.1 hc (j - 1) (by simp;omega)
     have lf2 : l2 = []:=by
      simp only [kE,e2,dI,gX,j9,kL,fO,Bool.and_eq_true] at pv
      exact List.length_eq_zero_iff.1 (jF pv.1.1.1)
     subst lf2
     generalize ho : gU (mkV k2 i2 s2 n2 []) (mkV k1 i1 s1 n1 l1) = o
     have G : kE gU xs j = (fH k1 i1 s1 l1.length && (k1 != 0) && (k1 == k0) && decide (o < 0)):=by
      have : (j == 0) = false:=by simp;omega
      simp only [kE,e1,e2,fk,dI,ho,gX,j9,kL,fO,this,Bool.false_or]
     by_cases hp : fH k1 i1 s1 l1.length = true
     ·have lf1 : l1 = []:=List.length_eq_zero_iff.1 (jF hp)
      subst lf1
      have p:=C4 (x:=mkV k2 i2 s2 n2 []) (y:=mkV k1 i1 s1 n1 []) (Kt hs2 (by simp) (by simp)) (Kt hs1 (by simp) (by simp)) (by simp [leaf,fO]) (by simp [leaf,fO])
      rw [ho] at p
      simp only [mkV] at p
      simp only [List.length_nil] at hp G
      simp +contextual only [h1,h11,h12,h13,d1,d2,e0,e1,e2,mkV,o8,p,hp,CV j (by omega) hj0,aH j (by omega),go_sem]
      refine ⟨fun q=>?_,fun p2=>⟨fun q=>?_,fun p3=>⟨fun q=>?_,fun p4=>⟨⟨_,rfl⟩,by omega,?_⟩⟩⟩⟩
      ·rw [bad (by rw [G];grind)];rfl
      ·rw [bad (by rw [G];grind)];rfl
      ·rw [bad (by rw [G];grind)];rfl
      ·rw [List.all_append,hc]
       simp only [List.all_cons,List.all_nil,G]
       grind
     ·have hp' : fH k1 i1 s1 l1.length = false:=by simpa using hp
      have hb:=bad (by rw [G,hp'];rfl)
      simp +contextual only [h1,h11,h12,h13,d1,d2,e0,e1,e2,mkV,o8,hp',eL1,hb,go_sem]
    ·have d2 : decide ((0 : Int) < j) = false:=by simpa using hj0
     have G : kE gU xs j = (fH k1 i1 s1 l1.length && (k1 != 0) && (k1 == k0)):=by
      have : (j == 0) = true:=by simp;omega
      simp only [kE,e1,fk,dI,gX,j9,kL,fO,this,Bool.true_or,Bool.and_true]
     simp +contextual only [h1,h11,h12,h13,d1,d2,e0,e1,mkV,o8,eL1,aH j (by omega),go_sem]
     refine ⟨fun q=>?_,fun p1=>⟨fun q=>?_,fun p2=>⟨fun q=>?_,fun p3=>⟨⟨_,rfl⟩,by omega,?_⟩⟩⟩⟩
     ·rw [bad (by rw [G];grind)];rfl
     ·rw [bad (by rw [G];grind)];rfl
     ·rw [bad (by rw [G];grind)];rfl
     ·rw [List.all_append,hc]
      simp only [List.all_cons,List.all_nil,G]
      grind
   ·have d1 : decide ((j : Int) < xs.length) = false:=by simpa using ha
    have hA : uV gU xs = true:=by
     have : j = xs.length:=by omega
     subst this;exact hc
    simp +contextual only [h1,h11,h12,h13,d1,mkV,hA,go_sem]
  ·cases h
 ·cases h
theorem iM {k i : Int} {s : List UInt8} {n : Nat} (h : fH k i s n = true) : n = 0 /\ (k = 3 -> i = 0) /\ (k ≠ 3 -> s = []) /\ 0 <= k /\ k <= 4:=by
 refine ⟨jF h,?_,?_,?_,?_⟩ <;> unfold fH at h <;> grind
theorem xM (a : Int) : gZ a a = 0:=by simp [gZ]
theorem A3 {a b : Int} (h : a ≠ b) : gZ a b ≠ 0:=by unfold gZ;split <;> (try split) <;> omega
theorem Qw {a b : D} (ha : dI a = true) (hb : dI b = true) : or3 (gZ (vk a) (vk b)) (gZ (vi a) (vi b)) (cA (vs a) (vs b)) = aN a b:=by
 obtain ⟨_,a1,a2,_⟩:=iM ha
 obtain ⟨_,b1,b2,_⟩:=iM hb
 simp only [or3,aN,rU]
 by_cases hk : vk a = vk b
 ·by_cases h3 : vk a = 3
  ·have e1:=a1 h3
   have e2:=b1 (by omega)
   simp [hk,xM,e1,e2,show vk b = 3 by omega]
  ·have e1:=a2 h3
   have e2:=b2 (by omega)
   have h3' : ¬ vk b = 3:=by omega
   simp only [hk,xM,e1,e2,cA]
   simp [h3']
   intro h;rw [h]
 ·have:=A3 hk
  simp [hk,this]
theorem BB {a b : D} (ha : dI a = true) (hb : dI b = true) (f : D -> D -> Int) : JS f a b = aN a b:=by
 have la : vl a = []:=List.length_eq_zero_iff.1 (iM ha).1
 have lb : vl b = []:=List.length_eq_zero_iff.1 (iM hb).1
 unfold JS
 rw [Qw ha hb,la,lb]
 simp only [zU]
 split
 ·rfl
 ·rename_i h;simpa using Eq.symm (show aN a b = 0 by simpa using h)
theorem Kl {xs : List D} {i : Nat} (hp : 0 < i -> kE gU xs (i - 1) = true) : kE gU xs i = kE aN xs i:=by
 unfold kE
 cases hx : xs[i]? with
 | none=>rfl
 | some x =>
  simp only
  by_cases h0 : i = 0
  ·simp [h0]
  ·have hq:=hp (by omega)
   unfold kE at hq
   cases hy : xs[i - 1]? with
   | none=>rfl
   | some y =>
    rw [hy] at hq
    simp only [Bool.and_eq_true] at hq
    by_cases h1 : dI x = true
    ·have : gU y x = aN y x:=BB hq.1.1.1 h1 f0
     simp only [this]
    ·simp [h1]
theorem FB (xs : List D) : ∀ n,(List.range n).all (kE gU xs) = (List.range n).all (kE aN xs)
 | 0=>rfl
 | n + 1=>by
  rw [qR,qR,← FB xs n]
  cases hq : (List.range n).all (kE gU xs) with
  | false=>rfl
  | true =>
   simp only [Bool.true_and]
   exact Kl fun h0=>List.all_eq_true.1 hq (n - 1) (by simp;omega)
theorem pY (d : D) : fZ d = cJ d:=by
 unfold fZ cJ
 have : uV gU (vl d) = uV aN (vl d):=FB _ _
 rw [this]
 grind
def Lx (x y : D) : Bool:=(vk x == vk y) && (vi x == vi y) && (vs x == vs y) && !decide ((0 : Int) < (vl x).length) && !decide ((0 : Int) < (vl y).length)
def qM (xs ys : List D) (i : Nat) : Bool:=match xs[i]?,ys[i]? with
 | some x,some y=>Lx x y
 | _,_=>true
def kR (a b : D) : Bool:=if (vk a != vk b) || (vi a != vi b) || (vs a != vs b) || !((vl a).length == (vl b).length) then false else (List.range (vl a).length).all (qM (vl a) (vl b))
def nX : List D -> Option D
 | [a,b]=>if a.isV = true /\ b.isV = true then some (.bool (kR a b)) else none
 | _=>none
theorem IP (a b : Nat) : ((a : Int) != (b : Int)) = !(a == b):=by
 rw [Bool.eq_iff_iff];simp;omega
set_option maxHeartbeats 2000000 in
theorem T8 [HasG Tryz.prog] : aO Tryz.prog 54 nX:=by
 refine aG (l:=[]) .nil ZW fun args r h=>?_
 unfold nX at h
 split at h
 ·split at h
  ·rename_i a b hab
   injection h with h;subst h
   refine ⟨by simp,by simp [D.cl],fun H T=>?_⟩
   obtain ⟨ha,hb⟩:=hab
   obtain ⟨k1,i1,s1,n1,xs,rfl,z1,y1,hV1⟩:=bZ ha
   obtain ⟨k2,i2,s2,n2,ys,rfl,z2,y2,hV2⟩:=bZ hb
   have hS : kR (mkV k1 i1 s1 n1 xs) (mkV k2 i2 s2 n2 ys) = if (k1 != k2) || (i1 != i2) || (s1 != s2) || !(xs.length == ys.length) then false else (List.range xs.length).all (qM xs ys):=by simp only [kR,gX,j9,kL,fO]
   rw [hS]
   have bl:=IP xs.length ys.length
   simp +contextual only [c54,mkV,bl,go_sem]
   intro q1 q2 q3 q4
   have hl : xs.length = ys.length:=by simpa using q4
   refine bG (fun j s'=>s'.t 2 = .ptr H.length 0 /\ s'.t 3 = .ptr (H.length + 1) 0 /\ s'.t 5 = .int .i64 j /\ Ext (H ++ [.row [.int .i64 k1,.int .i64 i1,.str s1,aA n1 xs],.row [.int .i64 k2,.int .i64 i2,.str s2,aA n2 ys]]) s'.H /\ s'.T = T /\ j <= xs.length /\ (List.range j).all (qM xs ys) = true) xs.length ⟨0,by simp [upd,bF,FH]⟩ (fun i s h=>h.2.2.2.2.2.1) ?_ (aI _)
   rintro j ⟨t,B,T'⟩ ⟨h2,h3,h5,hE,rfl,hj,hc⟩
   simp only at h2 h3 h5 hE
   have b1:=hE.get (o:=H.length) (by simp;rfl)
   have b2:=hE.get (o:=H.length + 1) (by simp;rfl)
   by_cases ha : j < xs.length
   ·have d1 : decide ((j : Int) < xs.length) = true:=by simpa using ha
    obtain ⟨k3,i3,s3,n3,l3,e3,hs3,hx3,hV3,eL3⟩:=fF hV1 ha
    obtain ⟨k4,i4,s4,n4,l4,e4,hs4,hx4,hV4,eL4⟩:=fF hV2 (show j < ys.length by omega)
    have G : qM xs ys j = ((k3 == k4) && (i3 == i4) && (s3 == s4) && !decide ((0 : Int) < l3.length) && !decide ((0 : Int) < l4.length)):=by
     simp only [qM,e3,e4,Lx,gX,j9,kL,fO]
    have bad : qM xs ys j = false -> (List.range xs.length).all (qM xs ys) = false:=fun h=>gO h ha
    simp +contextual only [h2,h3,h5,d1,e3,e4,mkV,aH j (by omega),bN b1,bN b2,cW b1,cW b2,hE.ta,bL hE.pre (bQ.refl _),go_sem]
    simp only [List.all_append,hc,List.all_cons,List.all_nil,Bool.true_and,Bool.and_true,D.bool.injEq]
    rw [G] at bad ⊢
    clear G
    repeat' (first | apply And.intro | intro _)
    all_goals first | omega | grind
   ·have d1 : decide ((j : Int) < xs.length) = false:=by simpa using ha
    have hA : (List.range xs.length).all (qM xs ys) = true:=by
     have : j = xs.length:=by omega
     subst this;exact hc
    simp +contextual only [h2,h3,h5,d1,mkV,hA,bN b1,bN b2,b8 hE.pre (bQ.refl _),go_sem]
  ·cases h
 ·cases h
def lex (p q : Int) : Int:=if p != 0 then p else q
structure Tr (p q r : Int) : Prop where
 le : p <= 0 -> q <= 0 -> r <= 0
 l1 : p < 0 -> q <= 0 -> r < 0
 l2 : p <= 0 -> q < 0 -> r < 0
 e1 : p = 0 -> r = q
 e2 : q = 0 -> r = p
theorem Tr.lex {p q r p' q' r' : Int} (h : Tr p q r) (k : p = 0 -> q = 0 -> Tr p' q' r') : Tr (lex p p') (lex q q') (lex r r'):=by
 obtain ⟨a1,a2,a3,a4,a5⟩:=h
 unfold GP.lex
 by_cases hp : p = 0
 ·by_cases hq : q = 0
  ·have hr : r = 0:=by rw [a4 hp,hq]
   subst hp;subst hq;subst hr
   simpa using k rfl rfl
  ·have hr : r = q:=a4 hp
   have hp' : (p != 0) = false:=by simp [hp]
   have hq' : (q != 0) = true:=by simp [hq]
   have hr' : (r != 0) = true:=by rw [hr];exact hq'
   rw [hp',hq',hr']
   simp only [Bool.false_eq_true,if_false,if_true]
   subst hr
   refine ⟨?_,?_,?_,?_,?_⟩ <;> omega
 ·have hp' : (p != 0) = true:=by simp [hp]
  rw [hp']
  by_cases hq : q = 0
  ·have hr : r = p:=a5 hq
   have hq' : (q != 0) = false:=by simp [hq]
   have hr' : (r != 0) = true:=by rw [hr];exact hp'
   rw [hq',hr']
   simp only [Bool.false_eq_true,if_false,if_true]
   subst hr
   refine ⟨?_,?_,?_,?_,?_⟩ <;> omega
  ·have hq' : (q != 0) = true:=by simp [hq]
   rw [hq']
   simp only [if_true]
   by_cases hr : r = 0
   ·refine ⟨?_,?_,?_,?_,?_⟩ <;> (try omega) <;> intro h1 h2 <;> (first | (have:=a2 (by omega) (by omega);omega) | omega)
   ·have hr' : (r != 0) = true:=by simp [hr]
    rw [hr'];simp only [if_true]
    exact ⟨a1,a2,a3,a4,a5⟩
theorem Dk (a b c : Int) : Tr (gZ a b) (gZ b c) (gZ a c):=by
 unfold gZ
 refine ⟨?_,?_,?_,?_,?_⟩ <;> (repeat' split) <;> omega
theorem rR (a b : Int) : gZ b a = - gZ a b:=by unfold gZ;(repeat' split) <;> omega
theorem rM (a b : Int) : gZ a b = 0 ↔ a = b:=by unfold gZ;(repeat' split) <;> omega
theorem FJ {p q p' q' : Int} (h : p' = -p) (k : q' = -q) : lex p' q' = - lex p q:=by unfold lex;subst h;subst k;by_cases hp : p = 0 <;> simp [hp]
theorem G8 {p q : Int} : lex p q = 0 ↔ p = 0 /\ q = 0:=by unfold lex;by_cases hp : p = 0 <;> simp [hp]
theorem nO (x y : UInt8) (a b : List UInt8) : cA (x :: a) (y :: b) = lex (gZ x.toNat y.toNat) (cA a b):=by
 simp only [cA,lex,gZ]
 by_cases h1 : x.toNat < y.toNat
 ·have : (x.toNat : Int) < y.toNat:=by omega
  simp [h1,this]
 ·by_cases h2 : y.toNat < x.toNat
  ·have e1 : ¬ (x.toNat : Int) < y.toNat:=by omega
   have e2 : (y.toNat : Int) < x.toNat:=by omega
   simp [h1,h2,e1,e2]
  ·have e1 : ¬ (x.toNat : Int) < y.toNat:=by omega
   have e2 : ¬ (y.toNat : Int) < x.toNat:=by omega
   simp [h1,h2,e1,e2]
theorem IV : ∀ (a b c : List UInt8),Tr (cA a b) (cA b c) (cA a c)
 | [],[],[]=>⟨by simp [cA],by simp [cA],by simp [cA],by simp [cA],by simp [cA]⟩
 | [],[],_ :: _=>⟨by simp [cA],by simp [cA],by simp [cA],by simp [cA],by simp [cA]⟩
 | [],_ :: _,[]=>⟨by simp [cA],by simp [cA],by simp [cA],by simp [cA],by simp [cA]⟩
 | [],_ :: _,_ :: _=>⟨by simp [cA],by simp [cA],by simp [cA],by simp [cA],by simp [cA]⟩
 | _ :: _,[],[]=>⟨by simp [cA],by simp [cA],by simp [cA],by simp [cA],by simp [cA]⟩
 | _ :: _,[],_ :: _=>⟨by simp [cA],by simp [cA],by simp [cA],by simp [cA],by simp [cA]⟩
 | _ :: _,_ :: _,[]=>⟨by simp [cA],by simp [cA],by simp [cA],by simp [cA],by simp [cA]⟩
 | x :: a,y :: b,z :: c=>by
  rw [nO,nO,nO]
  exact (Dk _ _ _).lex fun _ _=>IV a b c
theorem Ca : ∀ (a b : List UInt8),cA b a = - cA a b
 | [],[]=>rfl
 | [],_ :: _=>rfl
 | _ :: _,[]=>rfl
 | x :: a,y :: b=>by rw [nO,nO];exact FJ (rR _ _) (Ca a b)
theorem Cm : ∀ (a b : List UInt8),cA a b = 0 ↔ a = b
 | [],[]=>by simp [cA]
 | [],_ :: _=>by simp [cA]
 | _ :: _,[]=>by simp [cA]
 | x :: a,y :: b=>by
  rw [nO,G8,rM,Cm a b]
  constructor
  ·rintro ⟨h1,h2⟩
   have : x = y:=UInt8.toNat_inj.1 (by omega)
   rw [this,h2]
  ·intro h;injection h with h1 h2;exact ⟨by rw [h1],h2⟩
theorem gN (a b : D) : aN a b = lex (gZ (vk a) (vk b)) (if vk a == 3 then cA (vs a) (vs b) else gZ (vi a) (vi b)):=by
 unfold aN rU lex
 by_cases h : vk a = vk b
 ·simp [h,xM]
 ·simp [h,A3 h]
theorem l8 (a b c : D) : Tr (aN a b) (aN b c) (aN a c):=by
 rw [gN,gN,gN]
 refine (Dk _ _ _).lex fun h1 h2=>?_
 rw [rM] at h1 h2
 rw [<- h1]
 split
 ·exact IV _ _ _
 ·exact Dk _ _ _
theorem gK (a b : D) : aN b a = - aN a b:=by
 rw [gN,gN]
 by_cases h : vk a = vk b
 ·rw [h]
  refine FJ (rR _ _) ?_
  split
  ·exact Ca _ _
  ·exact rR _ _
 ·have h1:=A3 h
  have h2:=A3 (Ne.symm h)
  unfold lex
  simp only [bne_iff_ne,ne_eq,h1,not_false_eq_true,if_true,h2]
  exact rR _ _
theorem Fh {a b : D} (ha : dI a = true) (hb : dI b = true) : aN a b = 0 ↔ vk a = vk b /\ vi a = vi b /\ vs a = vs b:=by
 obtain ⟨_,a1,a2,_⟩:=iM ha
 obtain ⟨_,b1,b2,_⟩:=iM hb
 rw [gN,G8,rM]
 by_cases h : vk a = vk b
 ·by_cases h3 : vk a = 3
  ·rw [a1 h3,b1 (by omega)]
   simp [h,show vk b = 3 by omega,Cm]
  ·rw [a2 h3,b2 (by omega)]
   have : ¬ vk b = 3:=by omega
   simp [h,this,rM]
 ·simp [h]
end GP
namespace Go.Proofs
open Go.Shelf Go.RowKit Go.Lib Go.Sort
shelf_lay_g SlLaysF0.n6 Slsf 6 at Tryz 248 as Tryz.sortVal
end Go.Proofs
namespace GP
open Go Go.Proofs
set_option maxRecDepth 100000
def Ab : List D -> Option D
 | [a,b]=>if a.isV = true /\ b.isV = true /\ leaf a = true /\ leaf b = true then some (.bool (gU a b == 0)) else none
 | _=>none
theorem Ue [HasG Tryz.prog] : aO Tryz.prog 250 Ab:=by
 refine aG (l:=[(64,Bt ON f0)]) (.cons Le .nil) Vh fun args r h=>?_
 unfold Ab at h
 split at h
 ·split at h
  ·rename_i a b hab
   injection h with h;subst h
   obtain ⟨ha,hb,hla,hlb⟩:=hab
   have p:=C4 ha hb hla hlb
   refine ⟨by simp,by simp [D.cl],fun H T=>?_⟩
   obtain ⟨k1,i1,s1,n1,l1,rfl,z1,y1,hV1⟩:=bZ ha
   obtain ⟨k2,i2,s2,n2,l2,rfl,z2,y2,hV2⟩:=bZ hb
   have r1:=bD hV1
   have r2:=bD hV2
   simp only [mkV] at p
   simp +contextual only [V1,mkV,p,r1,r2,go_sem]
  ·cases h
 ·cases h
def xH : List D -> Option D
 | [.nils,.int .i64 a,.int .i64 b,.fn 64 [] []]=>if a = 0 /\ b = 0 then some (.tup []) else none
 | [.sl none [],.int .i64 a,.int .i64 b,.fn 64 [] []]=>if a = 0 /\ b = 0 then some (.tup []) else none
 | [.ms true 4 _ _ 0 _,.int .i64 a,.int .i64 b,.fn 64 [] []]=>if a = 0 /\ b = 0 then some (.tup []) else none
 | _=>none
theorem WC [HasG Tryz.prog] : aO Tryz.prog 253 xH:=by
 refine aG (l:=[]) .nil W6 fun args r h=>?_
 unfold xH at h
 split at h <;> first | (cases h;done) | skip
 all_goals
  split at h
  ·rename_i hab
   obtain ⟨rfl,rfl⟩:=hab
   injection h with h;subst h
   refine ⟨by simp,by simp [D.cl,D.clL],fun H T=>?_⟩
   simp +contextual only [Ud,go_sem]
   refine bG (fun i s'=>s'.t 8 = .int .i64 1 /\ s'.t 2 = .int .i64 0 /\ s'.H = H /\ s'.T = T /\ i <= 0) 0 ⟨0,by simp [upd,bF,eH]⟩ (fun i s h=>h.2.2.2.2) ?_ (aI _)
   rintro i ⟨t,B,T'⟩ ⟨r8,r2,rfl,rfl,hi⟩
   simp only at r8 r2
   have d1 : decide ((1 : Int) < 0) = false:=by decide
   simp +contextual only [r8,r2,d1,go_sem]
  ·cases h
def xR : List D -> Option D
 | [.nils,.int .i64 a,.int .i64 b,.int .i64 _,.fn 64 [] []]=>if a = 0 /\ b = 0 then some (.tup []) else none
 | [.sl none [],.int .i64 a,.int .i64 b,.int .i64 _,.fn 64 [] []]=>if a = 0 /\ b = 0 then some (.tup []) else none
 | [.ms true 4 _ _ 0 _,.int .i64 a,.int .i64 b,.int .i64 _,.fn 64 [] []]=>if a = 0 /\ b = 0 then some (.tup []) else none
 | _=>none
theorem TJ [HasG Tryz.prog] : aO Tryz.prog 251 xR:=by
 refine aG (l:=[(253,xH)]) (.cons WC .nil) Tv fun args r h=>?_
 have p1 : xH [.nils,.int .i64 0,.int .i64 0,.fn 64 [] []] = some (.tup []):=rfl
 have p2 : xH [.sl none [],.int .i64 0,.int .i64 0,.fn 64 [] []] = some (.tup []):=rfl
 have p3 : ∀ o off cap,xH [.ms true 4 o off 0 cap,.int .i64 0,.int .i64 0,.fn 64 [] []] = some (.tup []):=fun _ _ _=>rfl
 have w0 : IntKind.i64.wrap (0 - 0) = 0:=by decide
 have d0 : decide ((0 : Int) <= 12) = true:=by decide
 unfold xR at h
 split at h <;> first | (cases h;done) | skip
 all_goals
  split at h
  ·rename_i z hab
   obtain ⟨rfl,rfl⟩:=hab
   injection h with h;subst h
   refine ⟨by simp,by simp [D.cl,D.clL],fun H T=>?_⟩
   simp +contextual only [Xc,go_sem]
   refine bG (fun i s'=>(s'.t 0 = .nils ∨ s'.t 0 = .sl none [] ∨ ∃ o off cap,s'.t 0 = .ms true 4 o off 0 cap) /\ s'.t 1 = .int .i64 0 /\ s'.t 2 = .int .i64 0 /\ s'.t 4 = .fn 64 [] [] /\ s'.H = H /\ s'.T = T /\ i <= 0) 0 ⟨0,by simp [upd,bF],by simp [upd,bF],by simp [upd,bF],by simp [upd,bF],rfl,rfl,Nat.le_refl _⟩ (fun i s h=>h.2.2.2.2.2.2) ?_ (aI _)
   rintro i ⟨t,B,T'⟩ ⟨r0,r1,r2,r4,rfl,rfl,hi⟩
   simp only at r0 r1 r2 r4
   rcases r0 with r0 | r0 | ⟨o,off,cap,r0⟩
   ·simp +contextual only [r0,r1,r2,r4,p1,w0,d0,go_sem]
   ·simp +contextual only [r0,r1,r2,r4,p2,w0,d0,go_sem]
   ·simp +contextual only [r0,r1,r2,r4,p3,w0,d0,go_sem]
  ·cases h
theorem Rl {P : Program} [HasG P] {f : FuncId} {φ : List D -> Option D} (h : ∀ args r,φ args = some r -> ∀ (c : Cx) (w : World) (vs : List Value),Reps c args vs -> (callFunc f vs.toArray).run P w = .ok (.enter f vs.toArray) w ∧
   Calls P f vs.toArray w fun e w'=>∃ v,e = .returned v /\ Rep c r v /\ w' = w) : aO P f φ:=by
 intro args r hr args' he H T Q hQ c w vs hg k1 k2 k3
 have k3' : Reps c args vs:=by rw [<- he];exact k3.erase
 obtain ⟨g1,g2⟩:=h args r hr c w vs k3'
 refine .inl ⟨g1,g2.mono ?_⟩
 rintro e w' ⟨v,rfl,h1,rfl⟩
 exact ⟨v,rfl,r,H,T,c,hQ,h1,k1,Cx.le.refl c,k2,Below.refl _ _⟩
def Dx : List D -> Option D
 | [.int .u64 n]=>if n = 0 then some (.int .i64 0) else none
 | _=>none
theorem Uk [HasG Tryz.prog] : aO Tryz.prog 252 Dx:=by
 refine Rl fun args r h c w vs hr=>?_
 unfold Dx at h
 split at h
 ·split at h
  ·rename_i hn
   subst hn
   injection h with h;subst h
   match vs,hr.len with
   | [v],_ =>
    have h1:=hr.rep 0 (by simp) (by simp)
    simp only [List.getElem_cons_zero] at h1
    cases h1
    have e252 : ∀ args w,(callFunc 252 args).run Tryz.prog w = .ok (.enter 252 args) w:=enters_of Tryz.func252 (by kernel_rfl) rfl
    refine ⟨e252 _ _,?_⟩
    have:=Go.Proofs.Any.bits_Len (SlLaysF0.n15.bits (P:=Tryz.prog) (ρ:=Tryz.sortVal_ren) { Tryz.sortVal with }) (0 : Int) w (by omega) (by omega)
    refine Calls.mono (show Calls Tryz.prog 252 _ _ _ from this) ?_
    rintro e w' ⟨rfl,rfl⟩
    exact ⟨_,rfl,.int _ _,rfl⟩
  ·cases h
 ·cases h
def EC : List D -> Option D
 | [.nils,.fn 64 [] []]=>some (.tup [])
 | [.sl none [],.fn 64 [] []]=>some (.tup [])
 | [.ms true 4 _ _ 0 _,.fn 64 [] []]=>some (.tup [])
 | _=>none
theorem TF [HasG Tryz.prog] : aO Tryz.prog 248 EC:=by
 refine aG (l:=[(251,xR),(252,Dx)]) (.cons TJ (.cons Uk .nil)) Un fun args r h=>?_
 have p1 : xR [.nils,.int .i64 0,.int .i64 0,.int .i64 0,.fn 64 [] []] = some (.tup []):=rfl
 have p2 : xR [.sl none [],.int .i64 0,.int .i64 0,.int .i64 0,.fn 64 [] []] = some (.tup []):=rfl
 have p4 : ∀ o off cap,xR [.ms true 4 o off 0 cap,.int .i64 0,.int .i64 0,.int .i64 0,.fn 64 [] []] = some (.tup []):=fun _ _ _=>rfl
 have p3 : Dx [.int .u64 0] = some (.int .i64 0):=rfl
 have w0 : IntKind.u64.wrap 0 = 0:=by decide
 unfold EC at h
 split at h <;> first | (cases h;done) | skip
 all_goals
  injection h with h;subst h
  refine ⟨by simp,by simp [D.cl,D.clL],fun H T=>?_⟩
  simp +contextual only [Xl,p1,p2,p3,p4,w0,go_sem]
theorem rF {xs : List D} (h : ∀ x ∈ xs,x.isV = true) : qG 4 xs:=fun x hx=>by
 obtain ⟨k,i,s,n,l,rfl,_⟩:=bZ (h x hx)
 exact ⟨_,rfl,rfl⟩
theorem Kd [HasG Tryz.prog] {xs : List D} {H : Hp} {T : Tk} {Q : dM} (hx : ∀ x ∈ xs,x.isV = true) (hne : xs ≠ []) (hl : xs.length <= 2 ^ 40) (k : Q (.ms true 4 (H.length + 1) 0 xs.length xs.length) (H ++ [.dead,.row (aT xs)]) T) : Snd Tryz.prog 247 [.sl none xs] H T Q:=by
 refine oS Pc (by simp) (fE (X:=XL []) (Ok.X .nil) (fun _ _ h=>h) ?_)
 have hf:=(rF hx).fit
 cases xs with
 | nil=>exact absurd rfl hne
 | cons x r =>
  have e1 : Option.map (fun b=>D.bool b) (E2 Tq.slc (D.sl none (x :: r)) D.nils) = some (.bool false):=rfl
  simp +contextual only [RV,e1,go_sem]
  have ho : (H ++ [Ob.row (aT [])])[H.length]? = some (.row []):=by simp [aT]
  have hl' : ¬ (x :: r).length = 0:=by simp
  simp only [z9,ho]
  refine ⟨hf,trivial,?_⟩
  rw [if_neg (by simp)]
  refine ⟨by simp,by simp,by simp at hl ⊢;omega,by simp at hl ⊢;omega,?_⟩
  simp +contextual only [go_sem]
  have e : List.set (H ++ [Ob.row (aT [])]) H.length Ob.dead ++ [Ob.row (aT (x :: r))] = H ++ [.dead,.row (aT (x :: r))]:=by simp [List.set_append]
  rw [e]
  exact k
theorem nP {H : Hp} {o : Nat} {x : Ob} (h : H[o]? = some x) : H.set o x = H:=by
 apply List.ext_getElem?
 intro i
 rw [List.getElem?_set]
 split
 ·rename_i e;subst e
  have : o < H.length:=by
   rcases Nat.lt_or_ge o H.length with h' | h'
   ·exact h'
   ·rw [List.getElem?_eq_none h'] at h;cases h
  rw [if_pos this,h]
 ·rfl
def v4 (p : D) : List D -> List D
 | []=>[]
 | y :: r=>if gU y p == 0 then v4 y r else y :: v4 y r
def i9 : List D -> List D
 | []=>[]
 | x :: r=>x :: v4 x r
theorem CR (y : D) : ∀ (l : List D) (p : D),v4 p (l ++ [y]) = if gU y ((p :: l).getLast (by simp)) == 0 then v4 p l else v4 p l ++ [y]
 | [],p=>by simp [v4]
 | x :: l,p=>by
  simp only [List.cons_append,v4,CR y l x,List.getLast_cons_cons]
  split <;> split <;> simp_all
theorem yJ {ys : List D} {j : Nat} (h0 : 0 < j) (hj : j < ys.length) {y p : D} (hy : ys[j]? = some y) (hp : ys[j - 1]? = some p) :
  i9 (ys.take (j + 1)) = if gU y p == 0 then i9 (ys.take j) else i9 (ys.take j) ++ [y]:=by
 cases ys with
 | nil=>simp at hj
 | cons x r =>
  obtain ⟨m,rfl⟩ : ∃ m,j = m + 1:=⟨j - 1,by omega⟩
  simp only [List.length_cons] at hj
  have hm : m < r.length:=by omega
  have ey : r[m] = y:=by simpa [hm] using hy
  have e1 : r.take (m + 1) = r.take m ++ [y]:=by rw [List.take_add_one,List.getElem?_eq_getElem hm,ey];rfl
  have e2 : (x :: r.take m).getLast (by simp) = p:=by
   have : (x :: r).take (m + 1) = x :: r.take m:=rfl
   rw [List.getLast_eq_getElem]
   have hp' : (x :: r)[m]? = some p:=by simpa using hp
   have : (x :: r.take m)[m]? = some p:=by
    rw [<- hp',← List.take_succ_cons,List.getElem?_take_of_lt (by omega)]
   have hl : (x :: r.take m).length - 1 = m:=by simp;omega
   rw [List.getElem?_eq_getElem (by simp;omega)] at this
   simp only [hl]
   injection this
  simp only [List.take_succ_cons,i9]
  rw [e1,CR,e2]
  split <;> simp
theorem K9 {ys : List D} {j : Nat} (h0 : 0 < j) (hj : j < ys.length) {y p : D} (hy : ys[j]? = some y) (hp : ys[j - 1]? = some p) {S : List D} {i : Nat} (hS : S.length = ys.length) (h1 : S.take i = i9 (ys.take j)) (h2 : S.drop i = ys.drop i) (hi : (i9 (ys.take j)).length = i) (hij : i < j)
  (hne : (gU y p == 0) = false) : (S.set i y).length = ys.length /\ (S.set i y).take (i + 1) = i9 (ys.take (j + 1)) /\ (S.set i y).drop (i + 1) = ys.drop (i + 1) /\ (i9 (ys.take (j + 1))).length = i + 1:=by
 have e:=yJ h0 hj hy hp
 rw [hne] at e
 simp only [Bool.false_eq_true,if_false] at e
 refine ⟨by simp [hS],?_,?_,by rw [e];simp [hi]⟩
 ·rw [e,← h1,List.take_add_one,List.take_set_of_le (Nat.le_refl _),List.getElem?_set_self (by omega)];rfl
 ·rw [List.drop_set_of_lt (by omega),← List.drop_drop,h2,List.drop_drop]
theorem Eo [HasG Tryz.prog] {ys rest : List D} {H : Hp} {o cap : Nat} {T : Tk} {Q : dM} (ho : H[o]? = some (.row (aT ys ++ rest))) (hy : ∀ y ∈ ys,y.isV = true /\ leaf y = true) (hl : ys.length <= 2 ^ 40) (hcap : ys.length <= cap)
  (k : ∀ rest',Q (.ms true 4 o 0 (i9 ys).length cap) (H.set o (.row (aT (i9 ys) ++ rest'))) T) : Snd Tryz.prog 249 [.ms true 4 o 0 ys.length cap,.fn 250 [] []] H T Q:=by
 refine oS Q3 (by simp) (fE (X:=XL [(250,Ab)]) (Ok.X (.cons Ue .nil)) (fun _ _ h=>h) ?_)
 have hv : ∀ y ∈ ys,y.isV = true:=fun y h=>(hy y h).1
 have hag:=rF hv
 rcases tf (decide ((ys.length : Int) < 2)) with g | g
 ·have hC : i9 ys = ys:=by
   simp only [decide_eq_true_eq] at g
   match ys,g with
   | [],_=>rfl
   | [x],_=>rfl
   | x :: y :: r,g=>simp at g;omega
  have k0:=k rest
  rw [hC,nP ho] at k0
  simp +contextual only [Nc,g,go_sem]
  exact k0
 ·simp only [decide_eq_false_iff_not] at g
  have hd : decide ((ys.length : Int) < 2) = false:=by simp only [decide_eq_false_iff_not];omega
  simp +contextual only [Nc,hd,go_sem]
  refine bG (fun i s'=>s'.t 0 = .ms true 4 o 0 ys.length cap /\ s'.t 1 = .fn 250 [] [] /\ s'.t 5 = .int .i64 ((i + 1 : Nat) : Int) /\ s'.H = H /\ s'.T = T /\ i + 1 <= ys.length /\ i9 (ys.take (i + 1)) = ys.take (i + 1)) ys.length
   ⟨0,by simp [upd,bF],by simp [upd,bF],by simp [upd,bF],rfl,rfl,by omega,?_⟩ (fun i s h=>by have:=h.2.2.2.2.2.1;omega) ?_ (aI _)
  ·cases ys with
   | nil=>rfl
   | cons x r=>rfl
  rintro i ⟨t,B,T'⟩ ⟨r0,r1,r5,rfl,rfl,hi,hC⟩
  simp only at r0 r1 r5 ho k
  by_cases hlt : i + 1 < ys.length
  ·have d1 : decide (((i + 1 : Nat) : Int) < ys.length) = true:=by simp only [decide_eq_true_eq];omega
   have ex : ys[i + 1]? = some ys[i + 1]:=by simp [hlt]
   have ep : ys[i]? = some ys[i]:=by rw [List.getElem?_eq_getElem (by omega)]
   obtain ⟨x,hx⟩ : ∃ x,ys[i + 1] = x:=⟨_,rfl⟩
   obtain ⟨p,hp⟩ : ∃ p,ys[i] = p:=⟨_,rfl⟩
   rw [hx] at ex;rw [hp] at ep
   have l1:=I8 (off:=(i + 1) * 4) ho hag ex (by omega)
   have l2:=I8 (off:=i * 4) ho hag ep (by omega)
   have i1:=C0 (ag:=true) (sz:=4) (o:=o) (off:=0) (cap:=cap) (k:=.i64) hlt
   have i2:=C0 (ag:=true) (sz:=4) (o:=o) (off:=0) (cap:=cap) (k:=.i64) (show i < ys.length by omega)
   have hxv:=hy x (List.mem_of_getElem? ex)
   have hpv:=hy p (List.mem_of_getElem? ep)
   have hc : Ab [x,p] = some (.bool (gU x p == 0)):=by simp only [Ab];rw [if_pos ⟨hxv.1,hpv.1,hxv.2,hpv.2⟩]
   have w1 : IntKind.i64.wrap (((i + 1 : Nat) : Int) - 1) = (i : Nat):=by rw [show ((i + 1 : Nat) : Int) - 1 = (i : Nat) by omega];exact eH _ (by omega) (by omega)
   have w2 : IntKind.i64.wrap (((i + 1 : Nat) : Int) + 1) = ((i + 1 + 1 : Nat) : Int):=by rw [show ((i + 1 : Nat) : Int) + 1 = ((i + 1 + 1 : Nat) : Int) by omega];exact eH _ (by omega) (by omega)
   have er : D.eraseL [x,p] = [x,p]:=by
    obtain ⟨k1,j1,s1,n1,m1,rfl,_,_,hV1⟩:=bZ hxv.1
    obtain ⟨k2,j2,s2,n2,m2,rfl,_,_,hV2⟩:=bZ hpv.1
    exact bD (by simp [hxv.1,hpv.1])
   have hstep:=yJ (ys:=ys) (j:=i + 1) (by omega) hlt ex (by simpa using ep)
   rcases tf (gU x p == 0) with g0 | g0
   ·rw [g0] at hc hstep
    simp only [if_true] at hstep
    have s1:=EM (ag:=true) (sz:=4) (o:=o) (off:=0) (n:=ys.length) (cap:=cap) (l:=i + 1) (h:=ys.length) (by omega) (Nat.le_refl _) (by omega)
    rw [Nat.zero_add] at s1
    simp +contextual only [r0,r1,r5,d1,w1,l1,l2,i1,i2,hc,er,s1,go_sem]
    refine bG (fun m s'=>∃ S q,s'.t 0 = .ms true 4 o 0 ys.length cap /\ s'.t 1 = .fn 250 [] [] /\ s'.t 5 = .int .i64 ((q : Nat) : Int) /\ s'.t 6 = .ms true 4 o ((i + 1) * 4) (ys.length - (i + 1)) (cap - (i + 1)) /\ s'.t 7 = .int .i64 ((m + 1 : Nat) : Int) /\ s'.H = B.set o (.row (aT S ++ rest)) /\ s'.T = T' ∧
      S.length = ys.length /\ S.take q = i9 (ys.take (i + 1 + m + 1)) /\ S.drop q = ys.drop q /\ (i9 (ys.take (i + 1 + m + 1))).length = q /\ q < i + 1 + m + 1 /\ i + 1 + m + 1 <= ys.length /\ (∀ y ∈ S,y.isV = true /\ leaf y = true)) ys.length
     ⟨0,ys,i + 1,by simp [upd,r0],by simp [upd,r1],by simp [upd,r5],by simp [upd],by simp [upd],by rw [nP ho],rfl,rfl,?_,rfl,?_,by omega,by omega,hy⟩ (fun m s h=>by obtain ⟨_,_,h⟩:=h;have:=h.2.2.2.2.2.2.2.2.2.2.2.2.1;omega) ?_ (aI _)
    ·rw [hstep,hC]
    ·rw [hstep,hC];simp;omega
    rintro m ⟨t2,B2,T2⟩ ⟨S,q,r0,r1,r5,r6,r7,rfl,rfl,hS,h1,h2,hq,hqj,hj,hSv⟩
    simp only at r0 r1 r5 r6 r7
    have hagS:=rF (fun y h=>(hSv y h).1)
    have hoB : o < B.length:=by
     rcases Nat.lt_or_ge o B.length with h' | h'
     ·exact h'
     ·rw [List.getElem?_eq_none h'] at ho;cases ho
    have hB2 : (B.set o (Ob.row (aT S ++ rest)))[o]? = some (.row (aT S ++ rest)):=by rw [List.getElem?_set_self hoB]
    have hge : ∀ z,q <= z -> S[z]? = ys[z]?:=fun z hz=>by
     have:=congrArg (fun l=>l[z - q]?) h2
     simp only [List.getElem?_drop] at this
     rwa [show q + (z - q) = z by omega] at this
    by_cases hlt2 : i + 1 + m + 1 < ys.length
    ·have d2 : decide (((m + 1 : Nat) : Int) < ((ys.length - (i + 1) : Nat) : Int)) = true:=by simp only [decide_eq_true_eq];omega
     obtain ⟨x,hx2⟩ : ∃ x,ys[i + 1 + m + 1] = x:=⟨_,rfl⟩
     obtain ⟨p,hp2⟩ : ∃ p,ys[i + 1 + m] = p:=⟨_,rfl⟩
     have ex2 : ys[i + 1 + m + 1]? = some x:=by rw [List.getElem?_eq_getElem hlt2,hx2]
     have ep2 : ys[i + 1 + m]? = some p:=by rw [List.getElem?_eq_getElem (by omega),hp2]
     have exS : S[i + 1 + m + 1]? = some x:=by rw [hge _ (by omega)];exact ex2
     have epS : S[i + 1 + m]? = some p:=by rw [hge _ (by omega)];exact ep2
     have l1:=I8 (off:=(i + 1) * 4 + (m + 1) * 4) hB2 hagS exS (by omega)
     have l2:=I8 (off:=(i + 1) * 4 + m * 4) hB2 hagS epS (by omega)
     have i1:=C0 (ag:=true) (sz:=4) (o:=o) (off:=(i + 1) * 4) (cap:=cap - (i + 1)) (k:=.i64) (n:=ys.length - (i + 1)) (i:=m + 1) (by omega)
     have i2:=C0 (ag:=true) (sz:=4) (o:=o) (off:=(i + 1) * 4) (cap:=cap - (i + 1)) (k:=.i64) (n:=ys.length - (i + 1)) (i:=m) (by omega)
     have i3:=C0 (ag:=true) (sz:=4) (o:=o) (off:=0) (cap:=cap) (k:=.i64) (n:=ys.length) (i:=q) (by omega)
     rw [Nat.zero_add] at i3
     have hxv:=hy x (List.mem_of_getElem? ex2)
     have hpv:=hy p (List.mem_of_getElem? ep2)
     have hc : Ab [x,p] = some (.bool (gU x p == 0)):=by simp only [Ab];rw [if_pos ⟨hxv.1,hpv.1,hxv.2,hpv.2⟩]
     have w1 : IntKind.i64.wrap (((m + 1 : Nat) : Int) - 1) = (m : Nat):=by rw [show ((m + 1 : Nat) : Int) - 1 = (m : Nat) by omega];exact eH _ (by omega) (by omega)
     have w2 : IntKind.i64.wrap (((m + 1 : Nat) : Int) + 1) = ((m + 1 + 1 : Nat) : Int):=by rw [show ((m + 1 : Nat) : Int) + 1 = ((m + 1 + 1 : Nat) : Int) by omega];exact eH _ (by omega) (by omega)
     have w3 : IntKind.i64.wrap (((q : Nat) : Int) + 1) = ((q + 1 : Nat) : Int):=by rw [show ((q : Nat) : Int) + 1 = ((q + 1 : Nat) : Int) by omega];exact eH _ (by omega) (by omega)
     have er : D.eraseL [x,p] = [x,p]:=bD (by simp [hxv.1,hpv.1])
     have hst:=yJ (ys:=ys) (j:=i + 1 + m + 1) (by omega) hlt2 ex2 (by simpa using ep2)
     rcases tf (gU x p == 0) with g1 | g1
     ·rw [g1] at hc hst
      simp only [if_true] at hst
      simp +contextual only [r0,r1,r5,r6,r7,d2,w1,w2,l1,l2,i1,i2,i3,hc,er,go_sem]
      have ej : i + 1 + (m + 1) + 1 = i + 1 + m + 1 + 1:=by omega
      rw [ej]
      exact ⟨S,q,rfl,rfl,hS,by rw [hst];exact h1,h2,by rw [hst];exact hq,by omega,by omega,hSv⟩
     ·rw [g1] at hc hst
      have hx4 : ∃ l,x = .agg l /\ l.length = 4:=rF (xs:=[x]) (by simp [hxv.1]) x (by simp)
      simp +contextual only [r0,r1,r5,r6,r7,d2,w1,w2,l1,l2,i1,i2,i3,hc,er,go_sem]
      refine Wb hB2 hagS hx4 (by omega) rfl ?_
      simp +contextual only [r0,r1,r5,r6,r7,w2,w3,go_sem]
      have ej : i + 1 + (m + 1) + 1 = i + 1 + m + 1 + 1:=by omega
      rw [ej]
      obtain ⟨c1,c2,c3,c4⟩:=K9 (by omega) hlt2 ex2 (by simpa using ep2) hS h1 h2 hq hqj g1
      refine ⟨S.set q x,q + 1,rfl,by rw [List.set_set],c1,c2,c3,c4,by omega,by omega,fun y h=>?_⟩
      rcases List.mem_or_eq_of_mem_set h with h' | rfl
      ·exact hSv y h'
      ·exact hxv
    ·have d2 : decide (((m + 1 : Nat) : Int) < ((ys.length - (i + 1) : Nat) : Int)) = false:=by simp only [decide_eq_false_iff_not];omega
     have ej : i + 1 + m + 1 = ys.length:=by omega
     rw [ej,List.take_length] at h1 hq
     have s2:=EM (ag:=true) (sz:=4) (o:=o) (off:=0) (n:=ys.length) (cap:=cap) (l:=q) (h:=ys.length) (by omega) (Nat.le_refl _) (by omega)
     rw [Nat.zero_add] at s2
     have s3:=OA (ag:=true) (sz:=4) (o:=o) (off:=0) (n:=ys.length) (cap:=cap) (h:=q) (by omega) (by omega)
     simp +contextual only [r0,r1,r5,r6,r7,d2,s2,go_sem]
     refine Rb hB2 hagS rfl (by omega) rfl (fun rest'=>?_)
     simp +contextual only [r0,r1,r5,s3,go_sem]
     rw [h1,List.set_set]
     have k0:=k rest'
     rw [hq] at k0
     exact k0
   ·rw [g0] at hc hstep
    simp only [Bool.false_eq_true,if_false] at hstep
    simp +contextual only [r0,r1,r5,d1,w1,l1,l2,i1,i2,hc,er,w2,go_sem]
    refine ⟨by omega,?_⟩
    rw [hstep,hC,List.take_add_one (i:=i + 1),ex];rfl
  ·have d1 : decide (((i + 1 : Nat) : Int) < ys.length) = false:=by simp only [decide_eq_false_iff_not];omega
   have e : i + 1 = ys.length:=by omega
   have k0:=k rest
   rw [e,List.take_length] at hC
   rw [hC,nP ho] at k0
   simp +contextual only [r0,r1,r5,d1,go_sem]
   exact k0
end GP
