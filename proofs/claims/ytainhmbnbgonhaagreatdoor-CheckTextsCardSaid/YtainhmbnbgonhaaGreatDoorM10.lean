import Derived.Test.YtainhmbnbgonhaaGreatDoorM9
set_option linter.unusedSimpArgs false
set_option linter.unnecessarySimpa false
namespace GP
open Go Go.Proofs
set_option maxRecDepth 100000
theorem nJ (l : List UInt8) : (cP l).length = l.length:=by simp [cP]
theorem KU (l : List UInt8) (c : UInt8) : cP (l ++ [c]) = cP l ++ [.int .u8 c.toNat]:=by simp [cP]
theorem De (l : List UInt8) : (cP l).all tM = true:=List.all_eq_true.2 fun x hx=>by
 obtain ⟨b,_,rfl⟩:=List.mem_map.1 hx
 have:=b.toNat_lt
 simp [tM];try omega
theorem LN (l : List UInt8) : (cP l).map o7 = l:=by
 induction l with
 | nil=>rfl
 | cons b l ih =>
  have : o7 (.int .u8 (b.toNat : Int)) = b:=by simp [o7]
  simp only [cP,List.map_cons] at ih ⊢
  rw [this,ih]
theorem Jg (l : List UInt8) : (cP l).all (fit 1) = true:=List.all_eq_true.2 fun x hx=>by
 obtain ⟨b,_,rfl⟩:=List.mem_map.1 hx;rfl
theorem CW (t : Option Nat) (l : List UInt8) : xX (.sl t (cP l)) = some (.str l):=by
 simp only [xX,De,if_true,LN]
def KG (T : Tk) (out : List UInt8) (d : D) (T' : Tk) : Prop:=(out = [] /\ d = .nils /\ T' = T) ∨ (out ≠ [] /\ ∃ L i,T' = T ++ L /\ d = .sl (some (T.length + i)) (cP out) /\ L[i]? = some (some (out.length,1)))
theorem MX {T : Tk} {out : List UInt8} {d : D} {T' : Tk} (h : KG T out d T') : xX d = some (.str out):=by
 rcases h with ⟨rfl,rfl,_⟩ | ⟨_,L,i,_,rfl,_⟩
 ·rfl
 ·exact CW _ _
theorem Ed {sz : Nat} {K : D -> S -> Prop} {t : Nat -> D} {H : Hp} {T T' : Tk} {out : List UInt8} {d : D} (c : UInt8) (h : KG T out d T') (ho : out.length <= 2 ^ 40) (hs : sz = 1)
  (k : ∀ d2 T2,KG T (out ++ [c]) d2 T2 -> (∃ n,dZ d2 = some n /\ n = out.length + 1) -> K d2 ⟨t,H,T2⟩) : mB sz 1 K ⟨t,H,T' ++ [some (1,1)]⟩ d (some [.int .u8 (c.toNat : Int)]):=by
 subst hs
 rcases h with ⟨rfl,rfl,rfl⟩ | ⟨h0,L,i,rfl,rfl,hL⟩
 ·rw [tS]
  refine ⟨rfl,by simp,by simp,k _ _ (.inr ⟨by simp,[some (1,1),some (1,1)],1,?_,?_,rfl⟩) ⟨_,rfl,rfl⟩⟩
  ·simp
  ·simp [cP]
 ·have hi : i < L.length:=by
   rcases Nat.lt_or_ge i L.length with h | h
   ·exact h
   ·rw [List.getElem?_eq_none h] at hL;cases hL
  rw [List.append_assoc,pU]
  refine ⟨rfl,?_,?_,?_,Jg out,k _ _ (.inr ⟨by simp,_,i,rfl,by rw [KU],?_⟩) ⟨_,rfl,by simp [nJ]⟩⟩
  ·rw [nJ,List.getElem?_append_left hi,hL]
  ·simp [nJ];omega
  ·simp [nJ];omega
  ·rw [List.getElem?_set_self (by simp;omega),nJ];simp
theorem vN {T : Tk} {out : List UInt8} {d : D} {T' : Tk} (h : KG T out d T') : bQ T T':=by
 rcases h with ⟨_,_,rfl⟩ | ⟨_,L,_,rfl,_⟩
 ·exact bQ.refl _
 ·exact bQ.of T L
theorem vD (out : List UInt8) (k : Nat) : oN [] out k = ([],0):=by unfold oN;rfl
theorem sA (c : UInt8) (r out : List UInt8) (k : Nat) : oN (c :: r) out k =
  if c == 34 then (out,k + 1) else
  if c == 92 then (match r with
   | []=>([],0)
   | d :: r=>if (d != 34) && (d != 92) then ([],0) else if decide (64 < out.length + 1) then ([],0) else oN r (out ++ [d]) (k + 2)) else
  if !(dY c.toNat) then ([],0) else if decide (64 < out.length + 1) then ([],0) else oN r (out ++ [c]) (k + 1):=by
 conv=>lhs;unfold oN
 cases r <;> rfl
set_option maxHeartbeats 8000000 in
theorem Xj : aO Tryz.prog 150 yF:=by
 refine aG (l:=[]) .nil XV fun args r h=>?_
 unfold yF at h
 split at h
 ·rename_i l a
  split at h
  ·rename_i hc
   obtain ⟨ha0,ha,hl⟩:=hc
   injection h with h;subst h
   obtain ⟨a,rfl⟩ : ∃ k : Nat,a = (k : Int):=⟨a.toNat,by omega⟩
   have ha : a + 1 <= l.length:=by omega
   refine ⟨by simp,O0 _,fun H T=>?_⟩
   rw [show ((a : Int)).toNat = a from by omega]
   simp +contextual only [UF,bT a (by omega),go_sem]
   refine bG (fun i s'=>s'.t 0 = .str l /\ s'.t 1 = .int .i64 a /\ s'.H = H /\ ∃ (k : Nat) (out : List UInt8),s'.t 7 = .int .i64 ((a + k : Nat) : Int) /\ i + 1 <= k /\ a + k <= l.length /\ out.length <= 64 /\ KG T out (s'.t 6) s'.T /\ oN (l.drop (a + k)) out k = CC l a) l.length ⟨0,rfl,rfl,rfl,1,[],rfl,by omega,by omega,by simp,.inl ⟨rfl,rfl,rfl⟩,rfl⟩ (fun i s h=>by obtain ⟨_,_,_,k,out,h⟩:=h;omega) ?_ (aI _)
   rintro i ⟨t,B,T'⟩ ⟨r0,r1,rfl,k,out,r7,h1,h2,h3,hA,hS⟩
   simp only at r0 r1 r7 hA
   have hX:=vN hA
   have hb2:=MX hA
   have wk : IntKind.i64.wrap (((a + k : Nat) : Int) + 1) = ((a + k + 1 : Nat) : Int):=bT (a + k) (by omega)
   have wk2 : IntKind.i64.wrap (((a + k + 1 : Nat) : Int) + 1) = ((a + k + 1 + 1 : Nat) : Int):=bT (a + k + 1) (by omega)
   by_cases hlt : a + k < l.length
   ·have d1 : decide (((a + k : Nat) : Int) < l.length) = true:=by simp only [decide_eq_true_eq];omega
    have ex : l[a + k]? = some l[a + k]:=by simp [hlt]
    obtain ⟨b,hb⟩ : ∃ b,l[a + k] = b:=⟨_,rfl⟩
    rw [hb] at ex
    have ix:=fun q=>dU ex q
    rw [fK ex,sA] at hS
    have e1 : ((b.toNat : Int) == 34) = (b == 34):=eM b 34 (by decide)
    have e2 : ((b.toNat : Int) == 92) = (b == 92):=eM b 92 (by decide)
    rcases tf (b == 34) with g1 | g1
    ·rw [if_pos g1] at hS
     rw [<- hS]
     have w3 : IntKind.i64.wrap (((a + k + 1 : Nat) : Int) - (a : Int)) = ((k + 1 : Nat) : Int):=by rw [iS (by omega) (by omega)];omega
     simp +contextual only [r0,r1,r7,d1,ix,e1,g1,hb2,wk,w3,b8 (Ext.refl B) hX,wQ,go_sem]
    rw [if_neg (by rw [g1];decide)] at hS
    rcases tf (b == 92) with g2 | g2
    ·rw [if_pos g2] at hS
     by_cases hl2 : a + k + 1 < l.length
     ·have d2 : (((a + k + 1 : Nat) : Int) == (l.length : Int)) = false:=by rw [beq_eq_false_iff_ne];omega
      have ex2 : l[a + k + 1]? = some l[a + k + 1]:=by simp [hl2]
      obtain ⟨b2,hb2'⟩ : ∃ b2,l[a + k + 1] = b2:=⟨_,rfl⟩
      rw [hb2'] at ex2
      have ix2:=fun q=>dU ex2 q
      rw [fK ex2] at hS
      have e3 : ((b2.toNat : Int) != 34) = (b2 != 34):=by simp only [bne];rw [show ((b2.toNat : Int) == 34) = (b2 == 34) from eM b2 34 (by decide)]
      have e4 : ((b2.toNat : Int) != 92) = (b2 != 92):=by simp only [bne];rw [show ((b2.toNat : Int) == 92) = (b2 == 92) from eM b2 92 (by decide)]
      simp only at hS
      rcases tf ((b2 != 34) && (b2 != 92)) with g3 | g3
      ·rw [if_pos g3] at hS
       rw [<- hS]
       simp only [Bool.and_eq_true] at g3
       simp +contextual only [r0,r1,r7,d1,ix,e1,e2,g1,g2,wk,d2,ix2,e3,e4,g3.1,g3.2,b8 (Ext.refl B) hX,wQ,go_sem]
      ·rw [if_neg (by rw [g3];decide)] at hS
       have fin : ∀ (d2 : D) (T2 : Tk),KG T (out ++ [b2]) d2 T2 -> (∃ n,dZ d2 = some n /\ n = out.length + 1) -> True:=fun _ _ _ _=>trivial
       rcases tf (b2 != 34) with g4 | g4
       ·have g5 : (b2 != 92) = false:=by rw [g4] at g3;simpa using g3
        simp +contextual only [r0,r1,r7,d1,ix,e1,e2,g1,g2,wk,d2,ix2,e3,e4,g4,g5,go_sem]
        refine Ed b2 hA (by omega) rfl fun d3 T2 hA2 ⟨n,hn,hn'⟩=>?_
        subst hn'
        have hX2:=vN hA2
        rcases tf (decide (64 < out.length + 1)) with g6 | g6
        ·rw [if_pos g6] at hS
         have g6' : decide ((64 : Int) < ((out.length + 1 : Nat) : Int)) = true:=by simp only [decide_eq_true_eq] at g6 ⊢;omega
         rw [<- hS]
         simp +contextual only [hn,g6',b8 (Ext.refl B) hX2,wQ,go_sem]
        ·rw [if_neg (by rw [g6];decide)] at hS
         have g6' : decide ((64 : Int) < ((out.length + 1 : Nat) : Int)) = false:=by simp only [decide_eq_false_iff_not] at g6 ⊢;omega
         simp only [decide_eq_false_iff_not] at g6
         simp +contextual only [hn,g6',r0,r1,wk2,go_sem]
         exact ⟨k + 2,out ++ [b2],rfl,by omega,by omega,by simp;omega,hA2,hS⟩
       ·simp +contextual only [r0,r1,r7,d1,ix,e1,e2,g1,g2,wk,d2,ix2,e3,e4,g4,go_sem]
        refine Ed b2 hA (by omega) rfl fun d3 T2 hA2 ⟨n,hn,hn'⟩=>?_
        subst hn'
        have hX2:=vN hA2
        rcases tf (decide (64 < out.length + 1)) with g6 | g6
        ·rw [if_pos g6] at hS
         have g6' : decide ((64 : Int) < ((out.length + 1 : Nat) : Int)) = true:=by simp only [decide_eq_true_eq] at g6 ⊢;omega
         rw [<- hS]
         simp +contextual only [hn,g6',b8 (Ext.refl B) hX2,wQ,go_sem]
        ·rw [if_neg (by rw [g6];decide)] at hS
         have g6' : decide ((64 : Int) < ((out.length + 1 : Nat) : Int)) = false:=by simp only [decide_eq_false_iff_not] at g6 ⊢;omega
         simp only [decide_eq_false_iff_not] at g6
         simp +contextual only [hn,g6',r0,r1,wk2,go_sem]
         exact ⟨k + 2,out ++ [b2],rfl,by omega,by omega,by simp;omega,hA2,hS⟩
     ·have d2 : (((a + k + 1 : Nat) : Int) == (l.length : Int)) = true:=by rw [beq_iff_eq];omega
      rw [List.drop_eq_nil_of_le (by omega)] at hS
      rw [<- hS]
      simp +contextual only [r0,r1,r7,d1,ix,e1,e2,g1,g2,wk,d2,b8 (Ext.refl B) hX,wQ,go_sem]
    ·rw [if_neg (by rw [g2];decide)] at hS
     have pT : dY (b.toNat : Int) = (decide ((32 : Int) <= b.toNat) && decide ((b.toNat : Int) <= 126)):=rfl
     by_cases q1 : (b.toNat : Int) < 32
     ·have g3 : decide ((b.toNat : Int) < 32) = true:=by simpa using q1
      have g4 : dY (b.toNat : Int) = false:=by rw [pT];simp only [Bool.and_eq_false_iff,decide_eq_false_iff_not];omega
      rw [g4] at hS
      rw [if_pos (by decide)] at hS
      rw [<- hS]
      simp +contextual only [r0,r1,r7,d1,ix,e1,e2,g1,g2,g3,b8 (Ext.refl B) hX,wQ,go_sem]
     have g3 : decide ((b.toNat : Int) < 32) = false:=by simpa using q1
     by_cases q2 : (126 : Int) < b.toNat
     ·have g5 : decide ((126 : Int) < b.toNat) = true:=by simpa using q2
      have g4 : dY (b.toNat : Int) = false:=by rw [pT];simp only [Bool.and_eq_false_iff,decide_eq_false_iff_not];omega
      rw [g4] at hS
      rw [if_pos (by decide)] at hS
      rw [<- hS]
      simp +contextual only [r0,r1,r7,d1,ix,e1,e2,g1,g2,g3,g5,b8 (Ext.refl B) hX,wQ,go_sem]
     have g5 : decide ((126 : Int) < b.toNat) = false:=by simpa using q2
     have g4 : dY (b.toNat : Int) = true:=by rw [pT];simp only [Bool.and_eq_true,decide_eq_true_eq];omega
     rw [g4] at hS
     rw [if_neg (by decide)] at hS
     simp +contextual only [r0,r1,r7,d1,ix,e1,e2,g1,g2,g3,g5,go_sem]
     refine Ed b hA (by omega) rfl fun d3 T2 hA2 ⟨n,hn,hn'⟩=>?_
     subst hn'
     have hX2:=vN hA2
     rcases tf (decide (64 < out.length + 1)) with g6 | g6
     ·rw [if_pos g6] at hS
      have g6' : decide ((64 : Int) < ((out.length + 1 : Nat) : Int)) = true:=by simp only [decide_eq_true_eq] at g6 ⊢;omega
      rw [<- hS]
      simp +contextual only [hn,g6',b8 (Ext.refl B) hX2,wQ,go_sem]
     ·rw [if_neg (by rw [g6];decide)] at hS
      have g6' : decide ((64 : Int) < ((out.length + 1 : Nat) : Int)) = false:=by simp only [decide_eq_false_iff_not] at g6 ⊢;omega
      simp only [decide_eq_false_iff_not] at g6
      simp +contextual only [hn,g6',r0,r1,r7,wk,go_sem]
      exact ⟨k + 1,out ++ [b],rfl,by omega,by omega,by simp;omega,hA2,hS⟩
   ·have d1 : decide (((a + k : Nat) : Int) < l.length) = false:=by simp only [decide_eq_false_iff_not];omega
    rw [List.drop_eq_nil_of_le (by omega),vD] at hS
    rw [<- hS]
    simp +contextual only [r0,r1,r7,d1,b8 (Ext.refl B) hX,wQ,go_sem]
  ·cases h
 ·cases h
end GP
