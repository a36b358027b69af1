import Derived.Conc.EntryLaws
import Derived.Ground.NamesProg
import Derived.Lib.Bytealg
import Derived.Shelf.Lay
import Derived.Shelf.Strconv.Itoa4
import Derived.Shelf.Strconv.ParseIntPublic10
import Derived.Test.YtainhmbnbgonhaaGreatDoorProg
import Derived.Test.YtainhmbnbgonhaaGreatDoorM4
import Derived.Test.YtainhmbnbgonhaaGreatDoorM5
import Derived.Test.YtainhmbnbgonhaaGreatDoorM6
import Derived.Test.YtainhmbnbgonhaaGreatDoorM7
set_option linter.unusedSimpArgs false
namespace Go.Proofs
open Go.Shelf
shelf_lay LaysC.n174 Nm 174 at Tryz as Tryz.laysPI
theorem Tryz.parse_ok (s : ByteArray) (hmax : s.size <= 9223372036854775806) (v : Int) (h : Lib.parseIntB 64 s.data.toList = .ok v) (w : World) :
  Calls Tryz.prog 185 #[.string s,.int .i64 10,.int .i64 64] w fun e w'=>e = .returned (.tuple #[.int .i64 v,.nilIface]) /\ (w' = w ∨ ∃ t,w' = Lib.bytesWorld w 5 t):=Any.strconv_ParseInt_10_at64_ok Tryz.laysPI s hmax v h w
theorem Tryz.parse_range (s : ByteArray) (hlim : s.size <= 281474976710656) (h : Lib.parseIntB 64 s.data.toList = .range) (ev : Value) (w : World) (hv : w.cell? ⟨3,0,none⟩ = some ev) (hev : ev = .nilIface ∨ ∃ te pe,ev = .iface te pe) :
  Calls Tryz.prog 185 #[.string s,.int .i64 10,.int .i64 64] w fun e w'=>∃ N,e = .returned (.tuple #[.int .i64 (Lib.intSat 64 s.data.toList),.iface 220 (.pointer (some ⟨N,0,none⟩))]) /\ w.heap.size <= N /\ w'.heap[N]? = some (.cells #[.string ⟨#[80,97,114,115,101,73,110,116]⟩,.string s,ev] 231 (0,0)) /\ RowKit.Below w.heap.size w w':=Any.strconv_ParseInt_10_at64_range Tryz.laysPI s hlim h ev w hv hev
shelf_lay LaysM.n173 Nm 173 at Tryz as Tryz.laysFI
end Go.Proofs
namespace GP
open Go Go.Proofs
set_option maxRecDepth 100000
def isDig (b : UInt8) : Bool:=pDigit (b.toNat : Int)
theorem isDig_iff {b : UInt8} : isDig b = true ↔ 48 <= b.toNat /\ b.toNat <= 57:=by
 unfold isDig pDigit;simp only [Bool.and_eq_true,decide_eq_true_eq];omega
def decA (acc : Nat) (l : List UInt8) : Nat:=l.foldl (fun n b=>n * 10 + (b.toNat - 48)) acc
def decV (l : List UInt8) : Nat:=decA 0 l
theorem pow_step (n : Nat) : 10 ^ (n + 1) = 10 ^ n * 10:=Nat.pow_succ 10 n
theorem uint_digits : ∀ (l : List UInt8) (acc : Nat),(∀ b ∈ l,isDig b = true) -> (acc + 1) * 10 ^ l.length <= 10 ^ 19 -> Lib.parseUintM (2 ^ 64 - 1) acc l = .ok (decA acc l) /\ decA acc l + 1 <= (acc + 1) * 10 ^ l.length
 | [],acc,_,_=>by simp [Lib.parseUintM,decA]
 | c :: r,acc,hd,hb=>by
  have hc:=isDig_iff.1 (hd c (by simp))
  simp only [List.length_cons,pow_step] at hb ⊢
  have hp : 1 <= 10 ^ r.length:=Nat.one_le_pow _ _ (by decide)
  have h2 : (acc * 10 + (c.toNat - 48) + 1) * 10 ^ r.length <= (acc + 1) * (10 ^ r.length * 10):=by
   have : acc * 10 + (c.toNat - 48) + 1 <= (acc + 1) * 10:=by omega
   calc (acc * 10 + (c.toNat - 48) + 1) * 10 ^ r.length <= ((acc + 1) * 10) * 10 ^ r.length:=Nat.mul_le_mul_right _ this
    _ = (acc + 1) * (10 ^ r.length * 10):=by rw [Nat.mul_assoc,Nat.mul_comm 10]
  have h1 : acc + 1 <= 10 ^ 18:=by
   have : (acc + 1) * 10 <= (acc + 1) * (10 ^ r.length * 10):=Nat.mul_le_mul_left _ (by omega)
   omega
  obtain ⟨i1,i2⟩:=uint_digits r (acc * 10 + (c.toNat - 48)) (fun b hb=>hd b (by simp [hb])) (Nat.le_trans h2 hb)
  refine ⟨?_,Nat.le_trans i2 h2⟩
  simp only [Lib.parseUintM]
  rw [if_pos hc,if_neg (by omega),if_neg (by omega)]
  exact i1
theorem int_digits {l : List UInt8} (hd : ∀ b ∈ l,isDig b = true) (h1 : 1 <= l.length) (h2 : l.length <= 19) :
  Lib.parseIntB 64 l = (if decV l < 2 ^ 63 then .ok (decV l : Int) else .range) /\ Lib.intSat 64 l = 2 ^ 63 - 1:=by
 cases l with
 | nil=>simp at h1
 | cons c r =>
  have hc:=isDig_iff.1 (hd c (by simp))
  have hu:=(uint_digits (c :: r) 0 hd (by simpa using Nat.pow_le_pow_right (n:=10) (by decide) h2)).1
  refine ⟨?_,by rw [Lib.intSat_other 64 c r (by omega)];decide⟩
  rw [Lib.parseIntB_plain 64 c r (by omega) (by omega)]
  unfold Lib.parseUintB
  rw [if_neg (by simp),hu]
  unfold decV
  by_cases h : decA 0 (c :: r) < 2 ^ 63
  ·rw [if_pos h];simp only [Lib.signlessC];rw [if_neg (by simpa using h)]
  ·rw [if_neg h];simp only [Lib.signlessC];rw [if_pos (by simp;omega)]
def pintD (l : List UInt8) : D:=if decide (decV l < 2 ^ 63) then .tup [.int .i64 (decV l : Int),.nili] else .tup [.int .i64 9223372036854775807,.ifc 220 .top]
noncomputable def φpint : List D -> Option D
 | [.str l,.int .i64 b,.int .i64 z]=>if b = 10 /\ z = 64 /\ (∀ b ∈ l,isDig b = true) /\ 1 <= l.length /\ l.length <= 19 then some (pintD l) else none
 | _=>none
theorem reps3 {c : Cx} {l : List UInt8} {a b : Int} {vs : List Value} (h : Reps c [.str l,.int .i64 a,.int .i64 b] vs) : vs = [.string ⟨l.toArray⟩,.int .i64 a,.int .i64 b]:=by
 match vs,h.len with
 | [x,y,z],_ =>
  have h1:=h.rep 0 (by simp) (by simp)
  have h2:=h.rep 1 (by simp) (by simp)
  have h3:=h.rep 2 (by simp) (by simp)
  simp only [List.getElem_cons_zero,List.getElem_cons_succ] at h1 h2 h3
  cases h1;cases h2;cases h3;rfl
theorem below_bytes (w : World) (t : TypeId) (s : ByteArray) : Below (false,w.heap.size) w (Lib.bytesWorld w t s):=Below.of_kit (Lib.bytesWorld_below w t s)
theorem ok185 : OkAt Tryz.prog 185 φpint:=by
 refine ok_lib fun args r h c w vs hg hr=>?_
 unfold φpint at h
 split at h
 ·rename_i l b z
  split at h
  ·rename_i hv
   obtain ⟨rfl,rfl,hd,h1,h2⟩:=hv
   injection h with h;subst h
   have e:=reps3 hr
   subst e
   obtain ⟨i1,i2⟩:=int_digits hd h1 h2
   have e50 : ∀ args w,(callFunc 185 args).run Tryz.prog w = .ok (.enter 185 args) w:=enters_of Tryz.func185 (by kernel_rfl) rfl
   refine ⟨e50 _ _,?_⟩
   have hsz : (⟨l.toArray⟩ : ByteArray).size = l.length:=by simp [ByteArray.size]
   have hdl : (⟨l.toArray⟩ : ByteArray).data.toList = l:=by simp
   by_cases hlt : decV l < 2 ^ 63
   ·rw [if_pos hlt] at i1
    refine (Tryz.parse_ok ⟨l.toArray⟩ (by rw [hsz];omega) (decV l) (by rw [hdl];exact i1) w).mono ?_
    rintro e w' ⟨rfl,hw⟩
    refine ⟨_,rfl,?_,?_⟩
    ·unfold pintD;rw [if_pos (by simpa using hlt)]
     refine Rep.tup [.int .i64 (decV l : Int),.nili] [.int .i64 (decV l : Int),.nilIface] rfl fun i h h'=>?_
     match i,h with
     | 0,_=>exact .int _ _
     | 1,_=>exact .nili
    ·rcases hw with rfl | ⟨t,rfl⟩
     ·exact Below.refl _ _
     ·exact below_bytes w 5 t
   ·rw [if_neg hlt] at i1
    obtain ⟨_,_,_,te,pe,hev⟩:=hg
    refine (Tryz.parse_range ⟨l.toArray⟩ (by rw [hsz];omega) (by rw [hdl];exact i1) (.iface te pe) w hev (.inr ⟨te,pe,rfl⟩)).mono ?_
    rintro e w' ⟨N,rfl,_,_,hb⟩
    refine ⟨_,rfl,?_,Below.of_kit hb⟩
    unfold pintD;rw [if_neg (by simpa using hlt),hdl,i2]
    refine Rep.tup [.int .i64 9223372036854775807,.ifc 220 .top] [.int .i64 (2 ^ 63 - 1),.iface 220 (.pointer (some ⟨N,0,none⟩))] rfl fun i h h'=>?_
    match i,h with
    | 0,_=>exact .int _ _
    | 1,_=>exact .ifc _ _ _ (.top _)
  ·cases h
 ·cases h
theorem eq1_ifc0 : eq1D .ifc .nili .nili = some true:=rfl
theorem eq1_ifc1 (t : TypeId) (d : D) : eq1D .ifc (.ifc t d) .nili = some false:=rfl
def badN (l : List UInt8) (a n : Nat) : Bool:=decide (n < 1) || decide (19 < n) || (match l[a + n]? with | some b=>pSmall b.toNat | none=>false)
def numP (l : List UInt8) (a : Nat) (most : Int) : Int × Nat :=
 if badN l a (runN pDigit l a) || decide (most < (decV (subList l a (a + runN pDigit l a)) : Int)) then (0,0) else ((decV (subList l a (a + runN pDigit l a)) : Int),runN pDigit l a)
def tupN (p : Int × Nat) : D:=.tup [.int .i64 p.1,.int .i64 (p.2 : Nat)]
theorem tupN_cl (p : Int × Nat) : (tupN p).cl 0 0 = true:=by simp [tupN,D.cl,D.clL]
def φnum : List D -> Option D
 | [.str l,.int .i64 a,.int .i64 most]=>if 0 <= a /\ a <= l.length /\ l.length <= 2 ^ 60 /\ most < 2 ^ 63 then some (tupN (numP l a.toNat most)) else none
 | _=>none
theorem run_all {p : Int -> Bool} : ∀ (l : List UInt8),∀ b ∈ l.take (runL p l),p b.toNat = true
 | [],b,h=>by simp at h
 | c :: r,b,h=>by
  unfold runL at h
  simp only [List.takeWhile_cons] at h
  split at h
  ·rename_i hc
   simp only [List.length_cons,List.take_succ_cons,List.mem_cons] at h
   rcases h with rfl | h
   ·exact hc
   ·exact run_all r b h
  ·simp at h
theorem sub_drop (l : List UInt8) (a n : Nat) : subList l a (a + n) = (l.drop a).take n:=by
 unfold subList;rw [List.drop_take];congr 1;omega
theorem sub_digits (l : List UInt8) (a : Nat) : ∀ b ∈ subList l a (a + runN pDigit l a),isDig b = true:=by
 rw [sub_drop];exact run_all (p:=pDigit) (l.drop a)
theorem sub_len {l : List UInt8} {a n : Nat} (h : a + n <= l.length) : (subList l a (a + n)).length = n:=by
 rw [sub_drop];simp;omega
set_option maxHeartbeats 4000000 in
theorem ok149 : OkAt Tryz.prog 149 φnum:=by
 refine ok_of (l:=[(144,φrun),(147,φb pSmall),(185,φpint)]) (.cons ok144 (.cons ok147 (.cons ok185 .nil))) fn149 fun args r h=>?_
 unfold φnum at h
 split at h
 ·rename_i l a most
  split at h
  ·rename_i hc
   obtain ⟨ha0,ha,hl,hm⟩:=hc
   injection h with h;subst h
   obtain ⟨a,rfl⟩ : ∃ k : Nat,a = (k : Int):=⟨a.toNat,by omega⟩
   have ha : a <= l.length:=by omega
   refine ⟨by simp,tupN_cl _,fun H T=>?_⟩
   rw [show ((a : Int)).toNat = a from by omega]
   have pr : φrun [.str l,.int .i64 (a : Int),.fn 148 [] []] = some (.int .i64 (runN pDigit l a : Nat)):=by
    simp only [φrun];rw [show sorts 148 = some pDigit from rfl];simp only;rw [if_pos ⟨by omega,by omega,by omega⟩];simp
   have hle:=runN_le pDigit l a ha
   have hdg:=sub_digits l a
   have hsl:=sub_len hle
   unfold numP badN
   obtain ⟨n,hn⟩ : ∃ n,runN pDigit l a = n:=⟨_,rfl⟩
   rw [hn] at pr hle hdg hsl ⊢
   have wS : IntKind.i64.wrap ((a : Int) + (n : Int)) = ((a + n : Nat) : Int):=by rw [wrap_in (by omega) (by omega)];omega
   by_cases n1 : n < 1
   ·have d1 : decide ((n : Int) < 1) = true:=by simp only [decide_eq_true_eq];omega
    rw [if_pos (by simp [n1])]
    simp +contextual (maxSteps:=10000000) only [c149,pr,d1,tupN,go_sem]
   have d1 : decide ((n : Int) < 1) = false:=by simp only [decide_eq_false_iff_not];omega
   by_cases n2 : 19 < n
   ·have d2 : decide ((19 : Int) < n) = true:=by simp only [decide_eq_true_eq];omega
    rw [if_pos (by simp [n2])]
    simp +contextual (maxSteps:=10000000) only [c149,pr,d1,d2,tupN,go_sem]
   have d2 : decide ((19 : Int) < n) = false:=by simp only [decide_eq_false_iff_not];omega
   have pi : φpint [.str (subList l a (a + n)),.int .i64 10,.int .i64 64] = some (pintD (subList l a (a + n))):=by
    simp only [φpint];rw [if_pos ⟨trivial,trivial,hdg,by omega,by omega⟩]
   have hs : sub (some (a : Int)) (some ((a + n : Nat) : Int)) (.str l) = some (.str (subList l a (a + n))):=by
    rw [sub_s,if_pos ⟨by omega,by omega,by omega⟩,show (((a + n : Nat) : Int)).toNat = a + n from by omega,show ((a : Int)).toNat = a from by omega]
   have last : ∀ (hb : (match l[a + n]? with | some b=>pSmall b.toNat | none=>false) = false),(if (decide (n < 1) || decide (19 < n) || (match l[a + n]? with | some b=>pSmall b.toNat | none=>false)) || decide (most < (decV (subList l a (a + n)) : Int)) then ((0,0) : Int × Nat) else ((decV (subList l a (a + n)) : Int),n)) = if decide (most < (decV (subList l a (a + n)) : Int)) then (0,0) else ((decV (subList l a (a + n)) : Int),n):=fun hb=>by
    rw [hb];simp [n1,n2]
   have big : ¬ decV (subList l a (a + n)) < 2 ^ 63 -> decide (most < (decV (subList l a (a + n)) : Int)) = true:=fun h=>by simp only [decide_eq_true_eq];omega
   obtain ⟨v,hv⟩ : ∃ v,decV (subList l a (a + n)) = v:=⟨_,rfl⟩
   unfold pintD at pi
   rw [hv] at pi last big ⊢
   clear hv
   by_cases n3 : a + n < l.length
   ·have d3 : decide (((a + n : Nat) : Int) < l.length) = true:=by simp only [decide_eq_true_eq];omega
    have ex : l[a + n]? = some l[a + n]:=by simp [n3]
    obtain ⟨b,hb⟩ : ∃ b,l[a + n] = b:=⟨_,rfl⟩
    rw [hb] at ex
    rw [ex] at last ⊢
    simp only at last ⊢
    have ix:=fun q=>ixs_at ex q
    have q : φb pSmall [.int .u8 (b.toNat : Int)] = some (.bool (pSmall b.toNat)):=rfl
    rcases tf (pSmall (b.toNat : Int)) with g | g
    ·rw [if_pos (by simp [g])]
     simp +contextual (maxSteps:=10000000) only [c149,pr,d1,d2,wS,d3,ix,q,g,tupN,go_sem]
    ·rw [last g]
     by_cases hlt : v < 2 ^ 63
     ·rw [if_pos (by simpa using hlt)] at pi
      rcases tf (decide (most < (v : Int))) with g2 | g2
      ·rw [g2];simp +contextual (maxSteps:=10000000) only [c149,pr,d1,d2,wS,d3,ix,q,g,hs,pi,eq1_ifc0,eq1_ifc1,g2,tupN,go_sem]
      ·rw [g2];simp +contextual (maxSteps:=10000000) only [c149,pr,d1,d2,wS,d3,ix,q,g,hs,pi,eq1_ifc0,eq1_ifc1,g2,tupN,go_sem]
     ·rw [if_neg (by simpa using hlt)] at pi
      rw [big hlt]
      simp +contextual (maxSteps:=10000000) only [c149,pr,d1,d2,wS,d3,ix,q,g,hs,pi,eq1_ifc0,eq1_ifc1,tupN,go_sem]
   ·have d3 : decide (((a + n : Nat) : Int) < l.length) = false:=by simp only [decide_eq_false_iff_not];omega
    have ex : l[a + n]? = none:=List.getElem?_eq_none (by omega)
    rw [ex] at last ⊢
    simp only at last ⊢
    rw [last trivial]
    by_cases hlt : v < 2 ^ 63
    ·rw [if_pos (by simpa using hlt)] at pi
     rcases tf (decide (most < (v : Int))) with g2 | g2
     ·rw [g2];simp +contextual (maxSteps:=10000000) only [c149,pr,d1,d2,wS,d3,hs,pi,eq1_ifc0,eq1_ifc1,g2,tupN,go_sem]
     ·rw [g2];simp +contextual (maxSteps:=10000000) only [c149,pr,d1,d2,wS,d3,hs,pi,eq1_ifc0,eq1_ifc1,g2,tupN,go_sem]
    ·rw [if_neg (by simpa using hlt)] at pi
     rw [big hlt]
     simp +contextual (maxSteps:=10000000) only [c149,pr,d1,d2,wS,d3,hs,pi,eq1_ifc0,eq1_ifc1,tupN,go_sem]
  ·cases h
 ·cases h
end GP
namespace GP
open Go Go.Proofs
set_option maxRecDepth 100000
def mkT (k : Int) (s : List UInt8) (n : Int) : D:=.agg [.int .i64 k,.str s,.int .i64 n]
theorem numP_le {l : List UInt8} {a : Nat} {m : Int} (h : a <= l.length) : a + (numP l a m).2 <= l.length:=by
 have:=runN_le pDigit l a h
 unfold numP;split
 ·simpa using h
 ·exact this
theorem txtL_le : ∀ (n : Nat) (l out : List UInt8) (k : Nat),l.length <= n -> (txtL l out k).2 <= k + l.length
 | _,[],out,k,_=>by rw [txtL_nil];simp
 | 0,_ :: _,_,_,h=>by simp at h
 | n + 1,c :: r,out,k,h=>by
  rw [txtL_cons]
  split
  ·simp
  split
  ·cases r with
   | nil=>simp
   | cons d r =>
    simp only
    split
    ·simp
    split
    ·simp
    ·have:=txtL_le n r (out ++ [d]) (k + 2) (by simp at h ⊢;omega)
     simp only [List.length_cons] at this ⊢;omega
  split
  ·simp
  split
  ·simp
  ·have:=txtL_le n r (out ++ [c]) (k + 1) (by simp at h;omega)
   simp only [List.length_cons] at this ⊢;omega
theorem txtP_le {l : List UInt8} {a : Nat} (h : a < l.length) : a + (txtP l a).2 <= l.length:=by
 have:=txtL_le _ (l.drop (a + 1)) [] 1 (Nat.le_refl _)
 unfold txtP;simp only [List.length_drop] at this;omega
def tokS (l : List UInt8) (a : Nat) : D × Nat:=match signsB.find? (hasP (l.drop a)) with
 | some x=>(mkT 5 x 0,x.length)
 | none=>(mkT 0 [] 0,0)
def tokC (c : UInt8) (l : List UInt8) (a : Nat) : D × Nat :=
 if decide ((97 : Int) <= c.toNat) && decide ((c.toNat : Int) <= 122) then (if decide ((64 : Int) < (runN pWord l a : Nat)) then (mkT 0 [] 0,0) else (mkT 1 (subList l a (a + runN pWord l a)) 0,runN pWord l a))
 else if pDigit c.toNat then (mkT 2 [] (numP l a 9223372036854775807).1,(numP l a 9223372036854775807).2)
 else if c == 64 then (if ((numP l (a + 1) 1099511627776).2 : Int) == 0 then (mkT 0 [] 0,0) else (mkT 4 [] (numP l (a + 1) 1099511627776).1,(numP l (a + 1) 1099511627776).2 + 1))
 else if c == 34 then (mkT 3 (txtP l a).1 0,(txtP l a).2)
 else tokS l a
def tokP (l : List UInt8) (a : Nat) : D × Nat:=match l[a]? with
 | some c=>tokC c l a
 | none=>(mkT 0 [] 0,0)
def isTok (d : D) : Prop:=∃ k s n,d = mkT k s n
theorem tokC_T (c : UInt8) (l : List UInt8) (a : Nat) : isTok (tokC c l a).1:=by
 unfold tokC tokS
 repeat' split
 all_goals exact ⟨_,_,_,rfl⟩
def tupT (p : D × Nat) : D:=.tup [p.1,.int .i64 (p.2 : Nat)]
theorem tupT_cl {p : D × Nat} (h : isTok p.1) : (tupT p).cl 0 0 = true:=by
 obtain ⟨k,s,n,e⟩:=h
 simp [tupT,e,mkT,D.cl,D.clL]
theorem hasP_len {l p : List UInt8} (h : hasP l p = true) : p.length <= l.length:=by
 unfold hasP at h
 have h : l.take p.length = p:=by simpa using h
 have:=congrArg List.length h
 simp at this;omega
theorem tokC_le {c : UInt8} {l : List UInt8} {a : Nat} (h : a < l.length) : a + (tokC c l a).2 <= l.length:=by
 have h1:=runN_le pWord l a (by omega)
 have h2:=numP_le (l:=l) (a:=a) (m:=9223372036854775807) (by omega)
 have h3:=numP_le (l:=l) (a:=a + 1) (m:=1099511627776) (by omega)
 have h4:=txtP_le h
 unfold tokC
 split
 ·split
  ·simp;omega
  ·exact h1
 split
 ·exact h2
 split
 ·split
  ·simp;omega
  ·simp only;omega
 split
 ·exact h4
 ·unfold tokS
  split
  ·rename_i x hx
   have:=hasP_len (List.find?_some hx)
   simp only [List.length_drop] at this ⊢;omega
  ·simp;omega
theorem tokP_at {l : List UInt8} {a : Nat} (h : a < l.length) : tokP l a = tokC l[a] l a:=by
 unfold tokP;rw [List.getElem?_eq_getElem h]
def φtok : List D -> Option D
 | [.str l,.int .i64 a]=>if 0 <= a /\ a < l.length /\ l.length <= 2 ^ 60 then some (tupT (tokP l a.toNat)) else none
 | _=>none
theorem sgn_get {j : Nat} (h : j < 18) : ∃ x,(signsB.map D.str)[j]? = some (.str x) /\ signsB[j]? = some x:=by
 have hl : j < signsB.length:=h
 exact ⟨signsB[j],by simp [hl],by simp [hl]⟩
theorem find_nx {α : Type} {p : α -> Bool} {xs : List α} {i : Nat} {x : α} (hx : xs[i]? = some x) (h : (xs.take i).find? p = none) (hp : p x = false) : (xs.take (i + 1)).find? p = none:=by
 rw [List.take_add_one,hx];simp [h,hp]
theorem find_yes {α : Type} {p : α -> Bool} {xs : List α} {i : Nat} {x : α} (hx : xs[i]? = some x) (h : (xs.take i).find? p = none) (hp : p x = true) : xs.find? p = some x:=by
 have hi : i < xs.length:=by
  rcases Nat.lt_or_ge i xs.length with h' | h'
  ·exact h'
  ·rw [List.getElem?_eq_none h'] at hx;cases hx
 have e : xs = xs.take i ++ x :: xs.drop (i + 1):=by
  have : x = xs[i]:=by simpa [hi] using hx.symm
  subst this
  simp
 rw [e,List.find?_append,h]
 simp [hp]
set_option maxHeartbeats 8000000 in
theorem ok92 : OkAt Tryz.prog 92 φtok:=by
 refine ok_of (l:=[(144,φrun),(148,φb pDigit),(149,φnum),(150,φtext),(151,φsigns),(152,φpre)]) (.cons ok144 (.cons ok148 (.cons ok149 (.cons ok150 (.cons ok151 (.cons ok152 .nil)))))) fn92 fun args r h=>?_
 unfold φtok at h
 split at h
 ·rename_i l a
  split at h
  ·rename_i hc
   obtain ⟨ha0,ha,hl⟩:=hc
   injection h with h;subst h
   obtain ⟨a,rfl⟩ : ∃ k : Nat,a = (k : Int):=⟨a.toNat,by omega⟩
   have ha : a < l.length:=by omega
   rw [show ((a : Int)).toNat = a from by omega,tokP_at ha]
   refine ⟨by simp,tupT_cl (tokC_T _ _ _),fun H T=>?_⟩
   have ex : l[a]? = some l[a]:=by simp [ha]
   obtain ⟨c,hb⟩ : ∃ b,l[a] = b:=⟨_,rfl⟩
   rw [hb] at ex ⊢
   have ix:=fun q=>ixs_at ex q
   have pr : φrun [.str l,.int .i64 (a : Int),.fn 146 [] []] = some (.int .i64 (runN pWord l a : Nat)):=by
    simp only [φrun];rw [show sorts 146 = some pWord from rfl];simp only;rw [if_pos ⟨by omega,by omega,by omega⟩];simp
   have hle:=runN_le pWord l a (by omega)
   have e1 : ((c.toNat : Int) == 64) = (c == 64):=u8_eq c 64 (by decide)
   have e2 : ((c.toNat : Int) == 34) = (c == 34):=u8_eq c 34 (by decide)
   unfold tokC
   have lets : ∀ {X : D × Nat},True:=trivial
   rcases tf (decide ((97 : Int) <= c.toNat) && decide ((c.toNat : Int) <= 122)) with g | g
   ·rw [if_pos g]
    simp only [Bool.and_eq_true] at g
    obtain ⟨g1,g2⟩:=g
    obtain ⟨n,hn⟩ : ∃ n,runN pWord l a = n:=⟨_,rfl⟩
    rw [hn] at pr hle ⊢
    rcases tf (decide ((64 : Int) < (n : Nat))) with g3 | g3
    ·rw [if_pos g3]
     simp +contextual (maxSteps:=10000000) only [c92,ix,g1,g2,pr,g3,tupT,mkT,go_sem]
    ·rw [if_neg (by rw [g3];decide)]
     have wS : IntKind.i64.wrap ((a : Int) + (n : Int)) = ((a + n : Nat) : Int):=by rw [wrap_in (by omega) (by omega)];omega
     have hs : sub (some (a : Int)) (some ((a + n : Nat) : Int)) (.str l) = some (.str (subList l a (a + n))):=by
      rw [sub_s,if_pos ⟨by omega,by omega,by omega⟩,show (((a + n : Nat) : Int)).toNat = a + n from by omega,show ((a : Int)).toNat = a from by omega]
     simp +contextual (maxSteps:=10000000) only [c92,ix,g1,g2,pr,g3,wS,hs,tupT,mkT,go_sem]
   rw [if_neg (by rw [g];decide)]
   have pd : φb pDigit [.int .u8 (c.toNat : Int)] = some (.bool (pDigit c.toNat)):=rfl
   have G : (decide ((97 : Int) <= c.toNat) = true /\ decide ((c.toNat : Int) <= 122) = false) ∨ decide ((97 : Int) <= c.toNat) = false:=by
    rcases tf (decide ((97 : Int) <= c.toNat)) with h | h
    ·rw [h] at g;exact .inl ⟨h,by simpa using g⟩
    ·exact .inr h
   rcases tf (pDigit (c.toNat : Int)) with g3 | g3
   ·rw [if_pos g3]
    have pn : φnum [.str l,.int .i64 (a : Int),.int .i64 9223372036854775807] = some (tupN (numP l a 9223372036854775807)):=by
     simp only [φnum];rw [if_pos ⟨by omega,by omega,by omega,by decide⟩];simp
    obtain ⟨⟨v,n⟩,hn⟩ : ∃ z,numP l a 9223372036854775807 = z:=⟨_,rfl⟩
    simp only [hn,tupN] at pn ⊢
    rcases G with ⟨g1,g2⟩ | g1
    ·simp +contextual (maxSteps:=10000000) only [c92,ix,g1,g2,pd,g3,pn,tupT,mkT,go_sem]
    ·simp +contextual (maxSteps:=10000000) only [c92,ix,g1,pd,g3,pn,tupT,mkT,go_sem]
   rw [if_neg (by rw [g3];decide)]
   rcases tf (c == 64) with g4 | g4
   ·rw [if_pos g4]
    have pn : φnum [.str l,.int .i64 ((a + 1 : Nat) : Int),.int .i64 1099511627776] = some (tupN (numP l (a + 1) 1099511627776)):=by
     simp only [φnum];rw [if_pos ⟨by omega,by omega,by omega,by decide⟩,show (((a + 1 : Nat) : Int)).toNat = a + 1 from by omega]
    have nle:=numP_le (l:=l) (a:=a + 1) (m:=1099511627776) (by omega)
    have wa:=wrap_su a (by omega)
    obtain ⟨⟨v,n⟩,hn⟩ : ∃ z,numP l (a + 1) 1099511627776 = z:=⟨_,rfl⟩
    simp only [hn,tupN] at pn nle ⊢
    have wn:=wrap_su n (by omega)
    rcases tf ((n : Int) == 0) with g5 | g5
    ·rw [if_pos g5]
     rcases G with ⟨g1,g2⟩ | g1
     ·simp +contextual (maxSteps:=10000000) only [c92,ix,g1,g2,pd,g3,e1,g4,wa,pn,g5,tupT,mkT,go_sem]
     ·simp +contextual (maxSteps:=10000000) only [c92,ix,g1,pd,g3,e1,g4,wa,pn,g5,tupT,mkT,go_sem]
    ·rw [if_neg (by rw [g5];decide)]
     rcases G with ⟨g1,g2⟩ | g1
     ·simp +contextual (maxSteps:=10000000) only [c92,ix,g1,g2,pd,g3,e1,g4,wa,pn,g5,wn,tupT,mkT,go_sem]
     ·simp +contextual (maxSteps:=10000000) only [c92,ix,g1,pd,g3,e1,g4,wa,pn,g5,wn,tupT,mkT,go_sem]
   rw [if_neg (by rw [g4];decide)]
   rcases tf (c == 34) with g5 | g5
   ·rw [if_pos g5]
    have pt : φtext [.str l,.int .i64 (a : Int)] = some (tupS (txtP l a)):=by
     simp only [φtext];rw [if_pos ⟨by omega,by omega,by omega⟩];simp
    obtain ⟨⟨v,n⟩,hn⟩ : ∃ z,txtP l a = z:=⟨_,rfl⟩
    simp only [hn,tupS] at pt ⊢
    rcases G with ⟨g1,g2⟩ | g1
    ·simp +contextual (maxSteps:=10000000) only [c92,ix,g1,g2,pd,g3,e1,g4,e2,g5,pt,tupT,mkT,go_sem]
    ·simp +contextual (maxSteps:=10000000) only [c92,ix,g1,pd,g3,e1,g4,e2,g5,pt,tupT,mkT,go_sem]
   rw [if_neg (by rw [g5];decide)]
   have ps : φsigns [] = some (.sl none (signsB.map .str)):=rfl
   have eS : D.eraseL (signsB.map D.str) = signsB.map D.str:=rfl
   have lS : (signsB.map D.str).length = 18:=rfl
   have hs : sub (some (a : Int)) (some (l.length : Int)) (.str l) = some (.str (l.drop a)):=by
    rw [sub_s,if_pos ⟨by omega,by omega,by omega⟩];simp [subList]
   have G' : W (XL [(144,φrun),(148,φb pDigit),(149,φnum),(150,φtext),(151,φsigns),(152,φpre)]) c92 (endQ [.inr (4,true,3),.inl 5] (Leaves (tupT (tokS l a)) H T)) ⟨argT [.str l,.int .i64 (a : Int)],H,T⟩:=by
    obtain ⟨SB,hSB⟩ : ∃ z,signsB.map D.str = z:=⟨_,rfl⟩
    rw [hSB] at ps eS lS
    rcases G with ⟨g1,g2⟩ | g1
    ·simp +contextual (maxSteps:=10000000) only [c92,ix,g1,g2,pd,g3,e1,g4,e2,g5,ps,eS,lS,go_sem]
     refine W_for (fun j s'=>s'.t 0 = .str l /\ s'.t 1 = .int .i64 a /\ s'.t 4 = .ptr H.length 0 /\ s'.t 81 = .sl none SB /\ s'.t 82 = .int .i64 18 /\ s'.t 83 = .int .i64 (j : Nat) /\ s'.H = H ++ [.row [.int .i64 0,.str [],.int .i64 0]] /\ s'.T = T /\ j <= 18 /\ (signsB.take j).find? (hasP (l.drop a)) = none) 18 ⟨0,by simp [upd,argT]⟩ (fun i s h=>h.2.2.2.2.2.2.2.2.1) ?_ (XL_mono _)
     rintro j ⟨t,B,T'⟩ ⟨r0,r1,r4,r81,r82,r83,rfl,rfl,hj,hc⟩
     simp only at r0 r1 r4 r81 r82 r83
     by_cases hlt : j < 18
     ·have d1 : decide (((j : Nat) : Int) < 18) = true:=by simp only [decide_eq_true_eq];omega
      obtain ⟨x,f1,f2⟩:=sgn_get hlt
      rw [hSB] at f1
      have pp : φpre [.str (l.drop a),.str x] = some (.bool (hasP (l.drop a) x)):=rfl
      have nx:=fun hp=>find_nx (p:=hasP (l.drop a)) f2 hc hp
      have at':=fun hp=>find_yes (p:=hasP (l.drop a)) f2 hc hp
      rcases tf (hasP (l.drop a) x) with q | q
      ·have hT : tokS l a = (mkT 5 x 0,x.length):=by unfold tokS;rw [at' q]
       rw [hT]
       simp +contextual (maxSteps:=10000000) only [r0,r1,r4,r81,r82,r83,d1,f1,hs,pp,q,tupT,mkT,go_sem]
      ·have nx:=nx q
       simp +contextual (maxSteps:=10000000) only [r0,r1,r4,r81,r82,r83,d1,f1,hs,pp,q,wrap_su j (by omega),go_sem]
       exact ⟨by omega,nx⟩
     ·have d1 : decide (((j : Nat) : Int) < 18) = false:=by simp only [decide_eq_false_iff_not];omega
      have hT : tokS l a = (mkT 0 [] 0,0):=by
       have : j = signsB.length:=by show j = 18;omega
       subst this;rw [List.take_length] at hc
       unfold tokS;rw [hc]
      rw [hT]
      simp +contextual (maxSteps:=10000000) only [r0,r1,r4,r81,r82,r83,d1,tupT,mkT,go_sem]
    ·simp +contextual (maxSteps:=10000000) only [c92,ix,g1,pd,g3,e1,g4,e2,g5,ps,eS,lS,go_sem]
     refine W_for (fun j s'=>s'.t 0 = .str l /\ s'.t 1 = .int .i64 a /\ s'.t 4 = .ptr H.length 0 /\ s'.t 81 = .sl none SB /\ s'.t 82 = .int .i64 18 /\ s'.t 83 = .int .i64 (j : Nat) /\ s'.H = H ++ [.row [.int .i64 0,.str [],.int .i64 0]] /\ s'.T = T /\ j <= 18 /\ (signsB.take j).find? (hasP (l.drop a)) = none) 18 ⟨0,by simp [upd,argT]⟩ (fun i s h=>h.2.2.2.2.2.2.2.2.1) ?_ (XL_mono _)
     rintro j ⟨t,B,T'⟩ ⟨r0,r1,r4,r81,r82,r83,rfl,rfl,hj,hc⟩
     simp only at r0 r1 r4 r81 r82 r83
     by_cases hlt : j < 18
     ·have d1 : decide (((j : Nat) : Int) < 18) = true:=by simp only [decide_eq_true_eq];omega
      obtain ⟨x,f1,f2⟩:=sgn_get hlt
      rw [hSB] at f1
      have pp : φpre [.str (l.drop a),.str x] = some (.bool (hasP (l.drop a) x)):=rfl
      have nx:=fun hp=>find_nx (p:=hasP (l.drop a)) f2 hc hp
      have at':=fun hp=>find_yes (p:=hasP (l.drop a)) f2 hc hp
      rcases tf (hasP (l.drop a) x) with q | q
      ·have hT : tokS l a = (mkT 5 x 0,x.length):=by unfold tokS;rw [at' q]
       rw [hT]
       simp +contextual (maxSteps:=10000000) only [r0,r1,r4,r81,r82,r83,d1,f1,hs,pp,q,tupT,mkT,go_sem]
      ·have nx:=nx q
       simp +contextual (maxSteps:=10000000) only [r0,r1,r4,r81,r82,r83,d1,f1,hs,pp,q,wrap_su j (by omega),go_sem]
       exact ⟨by omega,nx⟩
     ·have d1 : decide (((j : Nat) : Int) < 18) = false:=by simp only [decide_eq_false_iff_not];omega
      have hT : tokS l a = (mkT 0 [] 0,0):=by
       have : j = signsB.length:=by show j = 18;omega
       subst this;rw [List.take_length] at hc
       unfold tokS;rw [hc]
      rw [hT]
      simp +contextual (maxSteps:=10000000) only [r0,r1,r4,r81,r82,r83,d1,tupT,mkT,go_sem]
   exact G'
  ·cases h
 ·cases h
end GP
namespace GP
open Go Go.Proofs
set_option maxRecDepth 100000
def accW (sz : Nat) (T : Tk) (xs : List D) (d : D) (T' : Tk) : Prop:=(xs = [] /\ d = .nils /\ T' = T) ∨ (xs ≠ [] /\ ∃ L i,T' = T ++ L /\ d = .sl (some (T.length + i)) xs /\ L[i]? = some (some (xs.length,sz)))
theorem app_accW {sz bytes : Nat} {K : D -> S -> Prop} {t : Nat -> D} {H : Hp} {T T' : Tk} {xs : List D} {d : D} (x : D) (h : accW sz T xs d T') (hx : fit sz x = true) (hxs : xs.all (fit sz) = true) (hb : (xs.length + 1) * bytes <= 2 ^ 47) (hb2 : xs.length + 1 < 2 ^ 62)
  (k : ∀ d2 T2,accW sz T (xs ++ [x]) d2 T2 -> K d2 ⟨t,H,T2⟩) : appK sz bytes K ⟨t,H,T' ++ [some (1,sz)]⟩ d (some [x]):=by
 rcases h with ⟨rfl,rfl,rfl⟩ | ⟨h0,L,i,rfl,rfl,hL⟩
 ·rw [appK_nils1]
  refine ⟨by simp [hx],by simpa using hb,by simp,k _ _ (.inr ⟨by simp,[some (1,sz),some (1,sz)],1,?_,?_,rfl⟩)⟩
  ·simp
  ·simp
 ·have hi : i < L.length:=by
   rcases Nat.lt_or_ge i L.length with h | h
   ·exact h
   ·rw [List.getElem?_eq_none h] at hL;cases hL
  rw [List.append_assoc,appK_tok]
  refine ⟨by simp [hx],?_,by simpa using hb,by simpa using hb2,hxs,k _ _ (.inr ⟨by simp,_,i,rfl,rfl,?_⟩)⟩
  ·rw [List.getElem?_append_left hi,hL]
  ·rw [List.getElem?_set_self (by simp;omega)];simp
theorem accW_ext {sz : Nat} {T : Tk} {xs : List D} {d : D} {T' : Tk} (h : accW sz T xs d T') : ExtT T T':=by
 rcases h with ⟨_,_,rfl⟩ | ⟨_,L,_,rfl,_⟩
 ·exact ExtT.refl _
 ·exact ExtT.of T L
theorem accW_len {sz : Nat} {T : Tk} {xs : List D} {d : D} {T' : Tk} (h : accW sz T xs d T') : lenD d = some xs.length:=by
 rcases h with ⟨rfl,rfl,_⟩ | ⟨_,L,i,_,rfl,_⟩ <;> rfl
theorem accW_erase {sz : Nat} {T : Tk} {xs : List D} {d : D} {T' : Tk} (h : accW sz T xs d T') (he : D.eraseL xs = xs) : d.erase = sliceD true xs:=by
 rcases h with ⟨rfl,rfl,_⟩ | ⟨h0,L,i,_,rfl,_⟩
 ·rfl
 ·have : xs.isEmpty = false:=by cases xs with
   | nil=>exact (h0 rfl).elim
   | cons=>rfl
  simp [sliceD,this,D.erase,he]
theorem isTok_erase {d : D} (h : isTok d) : d.erase = d:=by obtain ⟨k,s,n,rfl⟩:=h;simp [mkT,D.erase,D.eraseL]
theorem toks_erase {xs : List D} (h : ∀ x ∈ xs,isTok x) : D.eraseL xs = xs:=eraseL_id fun x hx=>isTok_erase (h x hx)
theorem toks_fit {xs : List D} (h : ∀ x ∈ xs,isTok x) : xs.all (fit 3) = true:=List.all_eq_true.2 fun x hx=>by obtain ⟨k,s,n,rfl⟩:=h x hx;rfl
theorem toks_cl {xs : List D} (h : ∀ x ∈ xs,isTok x) : (sliceD true xs).cl 0 0 = true:=by
 have e : D.clL 0 0 xs = true:=by
  induction xs with
  | nil=>rfl
  | cons x xs ih =>
   obtain ⟨k,s,n,rfl⟩:=h x (by simp)
   simp only [D.clL,mkT,D.cl,Bool.and_self,Bool.true_and]
   exact ih fun y hy=>h y (by simp [hy])
 rcases sliceD_cases true xs with ⟨e1,rfl⟩ | e1 <;> rw [e1]
 ·rfl
 ·simp [D.cl,e]
def lexF : Nat -> List UInt8 -> Nat -> List D -> List D × Nat × Int
 | 0,_,_,_=>([],0,99)
 | f + 1,l,a,out=>if decide (l.length <= a) then (out,0,0) else if (((tokP l a).2 : Nat) : Int) == 0 then ([],a,2) else
  if ((out.length : Nat) : Int) == 600 then ([],a,13) else lexF f l (betw l (a + (tokP l a).2)) (out ++ [(tokP l a).1])
def lexP (l : List UInt8) : List D × Nat × Int:=if decide (4096 < l.length) then ([],0,3) else lexF (l.length + 1) l (betw l 0) []
def tupL (p : List D × Nat × Int) : D:=.tup [sliceD true p.1,.int .i64 (p.2.1 : Nat),.int .i64 p.2.2]
theorem tokP_T (l : List UInt8) (a : Nat) : isTok (tokP l a).1:=by
 unfold tokP;split
 ·exact tokC_T _ _ _
 ·exact ⟨_,_,_,rfl⟩
theorem lexF_T : ∀ (f : Nat) (l : List UInt8) (a : Nat) (out : List D),(∀ x ∈ out,isTok x) -> ∀ x ∈ (lexF f l a out).1,isTok x
 | 0,_,_,_,_=>by simp [lexF]
 | f + 1,l,a,out,h=>by
  unfold lexF
  split
  ·exact h
  split
  ·simp
  split
  ·simp
  ·exact lexF_T f l _ _ fun x hx=>by
    rcases List.mem_append.1 hx with hx | hx
    ·exact h x hx
    ·rw [List.mem_singleton] at hx;subst hx;exact tokP_T l a
theorem lexP_T (l : List UInt8) : ∀ x ∈ (lexP l).1,isTok x:=by
 unfold lexP;split
 ·simp
 ·exact lexF_T _ _ _ _ (by simp)
theorem tupL_cl {p : List D × Nat × Int} (h : ∀ x ∈ p.1,isTok x) : (tupL p).cl 0 0 = true:=by
 simp [tupL,D.cl,D.clL,toks_cl h]
def φlex : List D -> Option D
 | [.str l]=>if l.length <= 2 ^ 60 then some (tupL (lexP l)) else none
 | _=>none
theorem lexF_succ (f : Nat) (l : List UInt8) (a : Nat) (out : List D) : lexF (f + 1) l a out = if decide (l.length <= a) then (out,0,0) else if (((tokP l a).2 : Nat) : Int) == 0 then ([],a,2) else
  if ((out.length : Nat) : Int) == 600 then ([],a,13) else lexF f l (betw l (a + (tokP l a).2)) (out ++ [(tokP l a).1]):=rfl
set_option maxHeartbeats 8000000 in
theorem ok40 : OkAt Tryz.prog 40 φlex:=by
 refine ok_of (l:=[(91,φbetw),(92,φtok)]) (.cons ok91 (.cons ok92 .nil)) fn40 fun args r h=>?_
 unfold φlex at h
 split at h
 ·rename_i l
  split at h
  ·rename_i hl
   injection h with h;subst h
   refine ⟨by simp,tupL_cl (lexP_T l),fun H T=>?_⟩
   unfold lexP
   rcases tf (decide (4096 < l.length)) with g | g
   ·rw [if_pos g]
    have g' : decide ((4096 : Int) < l.length) = true:=by simp only [decide_eq_true_eq] at g ⊢;omega
    simp +contextual (maxSteps:=10000000) only [c40,g',tupL,go_sem]
    rfl
   rw [if_neg (by rw [g];decide)]
   have g' : decide ((4096 : Int) < l.length) = false:=by simp only [decide_eq_false_iff_not] at g ⊢;omega
   have pb : ∀ a : Nat,a <= l.length -> φbetw [.str l,.int .i64 (a : Int)] = some (.int .i64 (betw l a : Nat)):=fun a ha=>by
    simp only [φbetw];rw [if_pos ⟨by omega,by omega,by omega⟩];simp
   have b0:=betw_le (l:=l) (a:=0) (by omega)
   have pb0 : φbetw [.str l,.int .i64 0] = some (.int .i64 (betw l 0 : Nat)):=pb 0 (by omega)
   simp +contextual (maxSteps:=10000000) only [c40,g',pb0,go_sem]
   refine W_for (fun i s'=>s'.t 0 = .str l /\ Ext H s'.H /\ ∃ (a f : Nat) (out : List D),s'.t 6 = .int .i64 (a : Int) /\ i <= a /\ a <= l.length /\ l.length < a + f /\ out.length <= 600 /\ (∀ x ∈ out,isTok x) /\ accW 3 T out (s'.t 5) s'.T /\ lexF f l a out = lexF (l.length + 1) l (betw l 0) []) l.length ⟨0,rfl,Ext.refl H,betw l 0,l.length + 1,[],rfl,by omega,by omega,by omega,by simp,by simp,.inl ⟨rfl,rfl,rfl⟩,rfl⟩ (fun i s h=>by obtain ⟨_,_,a,f,out,h⟩:=h;omega) ?_ (XL_mono _)
   rintro i ⟨t,B,T'⟩ ⟨r0,hE,a,f,out,r6,h1,h2,h3,h4,hT,hA,hS⟩
   simp only at r0 hE r6 hA
   rw [<- hS]
   have hX:=accW_ext hA
   have hlen:=accW_len hA
   have her:=accW_erase hA (toks_erase hT)
   cases f with
   | zero=>exfalso;omega
   | succ f =>
   rw [lexF_succ] at hS ⊢
   by_cases hlt : a < l.length
   ·have d1 : decide ((a : Int) < l.length) = true:=by simp only [decide_eq_true_eq];omega
    have d0 : decide (l.length <= a) = false:=by simp only [decide_eq_false_iff_not];omega
    rw [if_neg (by rw [d0];decide)] at hS ⊢
    have pt : φtok [.str l,.int .i64 (a : Int)] = some (tupT (tokP l a)):=by
     simp only [φtok];rw [if_pos ⟨by omega,by omega,by omega⟩];simp
    have hn : a + (tokP l a).2 <= l.length:=by rw [tokP_at hlt];exact tokC_le hlt
    have hTk:=tokP_T l a
    obtain ⟨⟨tk,n⟩,hq⟩ : ∃ z,tokP l a = z:=⟨_,rfl⟩
    simp only [hq,tupT] at pt hn hTk hS ⊢
    obtain ⟨k,s,m,rfl⟩:=hTk
    rcases tf ((n : Int) == 0) with g1 | g1
    ·rw [if_pos g1]
     simp only [mkT] at pt
     simp +contextual (maxSteps:=10000000) only [r0,r6,d1,pt,g1,leaves_Ea hE hX,tupL,go_sem]
     rfl
    rw [if_neg (by rw [g1];decide)] at hS ⊢
    have n0 : 0 < n:=by
     rcases Nat.eq_zero_or_pos n with h | h
     ·subst h;simp at g1
     ·exact h
    rcases tf ((out.length : Int) == 600) with g2 | g2
    ·rw [if_pos g2]
     simp only [mkT] at pt
     simp +contextual (maxSteps:=10000000) only [r0,r6,d1,pt,g1,hlen,g2,leaves_Ea hE hX,tupL,go_sem]
     rfl
    rw [if_neg (by rw [g2];decide)] at hS ⊢
    have n6 : out.length ≠ 600:=by
     intro h;rw [h] at g2;simp at g2
    have wS : IntKind.i64.wrap ((a : Int) + (n : Int)) = ((a + n : Nat) : Int):=by rw [wrap_in (by omega) (by omega)];omega
    have pb1:=pb (a + n) hn
    have hb1:=betw_le hn
    simp only [mkT] at pt
    simp +contextual (maxSteps:=10000000) only [r0,r6,d1,pt,g1,hlen,g2,go_sem]
    refine app_accW (mkT k s m) hA rfl (toks_fit hT) (by omega) (by omega) fun d2 T2 hA2=>?_
    simp +contextual (maxSteps:=10000000) only [r0,r6,wS,pb1,hE.ta,go_sem]
    refine ⟨betw l (a + n),f,out ++ [mkT k s m],rfl,by omega,by omega,by omega,by simp;omega,?_,hA2,?_⟩
    ·intro x hx
     rcases List.mem_append.1 hx with hx | hx
     ·exact hT x hx
     ·rw [List.mem_singleton] at hx;subst hx;exact ⟨_,_,_,rfl⟩
    ·rfl
   ·have d1 : decide ((a : Int) < l.length) = false:=by simp only [decide_eq_false_iff_not];omega
    have d0 : decide (l.length <= a) = true:=by simp only [decide_eq_true_eq];omega
    rw [if_pos d0]
    simp +contextual (maxSteps:=10000000) only [r0,r6,d1,leaves_E hE hX,her,tupL,go_sem]
  ·cases h
 ·cases h
end GP
namespace GP
open Go Go.Proofs
set_option maxRecDepth 100000
def pLet (n : Int) : Bool:=decide (97 <= n) && decide (n <= 122)
theorem pWord_let (n : Int) : pWord n = (pLet n || n == 95 || pDigit n):=rfl
theorem ok162 : OkAt Tryz.prog 162 (φb pLet):=by
 refine ok_of (l:=[]) .nil fn162 fun args r h=>?_
 unfold φb at h
 split at h
 ·rename_i n
  injection h with h;subst h
  refine ⟨by simp,by simp [D.cl],fun H T=>?_⟩
  unfold pLet
  rcases tf (decide (97 <= n)) with h1 | h1 <;> simp +contextual (maxSteps:=10000000) only [c162,h1,go_sem]
 ·cases h
theorem ok163 : OkAt Tryz.prog 163 (φb pDigit):=by
 refine ok_of (l:=[]) .nil fn163 fun args r h=>?_
 unfold φb at h
 split at h
 ·rename_i n
  injection h with h;subst h
  refine ⟨by simp,by simp [D.cl],fun H T=>?_⟩
  unfold pDigit
  rcases tf (decide (48 <= n)) with h1 | h1 <;> simp +contextual (maxSteps:=10000000) only [c163,h1,go_sem]
 ·cases h
def signsR : List (List UInt8):=[[123],[125],[40],[41],[91],[93],[59],[46],[44],[43],[45],[42],[60],[62],[61,61],[33,61],[60,61],[62,61]]
def φsignsR : List D -> Option D
 | []=>some (.sl none (signsR.map .str))
 | _=>none
theorem ok173 : OkAt Tryz.prog 173 φsignsR:=by
 refine ok_of (l:=[]) .nil fn173 fun args r h=>?_
 unfold φsignsR at h
 split at h
 ·injection h with h;subst h
  refine ⟨by simp,by decide,fun H T=>?_⟩
  simp +contextual (maxSteps:=10000000) only [c173,go_sem]
  rfl
 ·cases h
def isSign (s : List UInt8) : Bool:=signsR.any (fun x=>x == s)
def φsign : List D -> Option D
 | [.str s]=>some (.bool (isSign s))
 | _=>none
theorem any_take_no {α : Type} {p : α -> Bool} {xs : List α} {i : Nat} {x : α} (hx : xs[i]? = some x) (h : (xs.take i).any p = false) (hp : p x = false) : (xs.take (i + 1)).any p = false:=by
 rw [List.take_add_one,hx];simp [h,hp]
theorem any_hit {α : Type} {p : α -> Bool} {xs : List α} {i : Nat} {x : α} (hx : xs[i]? = some x) (hp : p x = true) : xs.any p = true:=List.any_eq_true.2 ⟨x,List.mem_of_getElem? hx,hp⟩
theorem ok110 : OkAt Tryz.prog 110 φsign:=by
 refine ok_of (l:=[(173,φsignsR)]) (.cons ok173 .nil) fn110 fun args r h=>?_
 unfold φsign at h
 split at h
 ·rename_i s
  injection h with h;subst h
  refine ⟨by simp,by simp [D.cl],fun H T=>?_⟩
  have ps : φsignsR [] = some (.sl none (signsR.map .str)):=rfl
  have eS : D.eraseL (signsR.map D.str) = signsR.map D.str:=rfl
  have lS : (signsR.map D.str).length = 18:=rfl
  have get : ∀ j,j < 18 -> ∃ x,(signsR.map D.str)[j]? = some (.str x) /\ signsR[j]? = some x:=fun j h=>by
   have hl : j < signsR.length:=h
   exact ⟨signsR[j],by simp [hl],by simp [hl]⟩
  obtain ⟨SB,hSB⟩ : ∃ z,signsR.map D.str = z:=⟨_,rfl⟩
  rw [hSB] at ps eS lS get
  simp +contextual (maxSteps:=10000000) only [c110,ps,eS,go_sem]
  refine W_for (fun j s'=>s'.t 0 = .str s /\ s'.t 3 = .sl none SB /\ s'.t 4 = .int .i64 (j : Nat) /\ s'.H = H /\ s'.T = T /\ j <= 18 /\ (signsR.take j).any (fun x=>x == s) = false) 18 ⟨0,by simp [upd,argT]⟩ (fun i s h=>h.2.2.2.2.2.1) ?_ (XL_mono _)
  rintro j ⟨t,B,T'⟩ ⟨r0,r3,r4,rfl,rfl,hj,hc⟩
  simp only at r0 r3 r4
  by_cases hlt : j < 18
  ·have d1 : decide (((j : Nat) : Int) < SB.length) = true:=by rw [lS];simp only [decide_eq_true_eq];omega
   obtain ⟨x,f1,f2⟩:=get j hlt
   rcases tf (x == s) with q | q
   ·have hT : isSign s = true:=any_hit (p:=fun x=>x == s) f2 q
    rw [hT]
    simp +contextual (maxSteps:=10000000) only [r0,r3,r4,d1,f1,q,go_sem]
   ·have nx:=any_take_no (p:=fun x=>x == s) f2 hc q
    simp +contextual (maxSteps:=10000000) only [r0,r3,r4,d1,f1,q,wrap_su j (by omega),go_sem]
    exact ⟨by omega,nx⟩
  ·have d1 : decide (((j : Nat) : Int) < SB.length) = false:=by rw [lS];simp only [decide_eq_false_iff_not];omega
   have hT : isSign s = false:=by
    have : j = signsR.length:=by show j = 18;omega
    subst this;rw [List.take_length] at hc
    exact hc
   rw [hT]
   simp +contextual (maxSteps:=10000000) only [r0,r3,r4,d1,go_sem]
 ·cases h
def wordB (s : List UInt8) : Bool:=match s with
 | []=>false
 | c :: r=>pLet c.toNat && r.all (fun b=>pWord b.toNat) && decide ((s.length : Int) <= 64)
def okAtW (j : Nat) (b : UInt8) : Bool:=if j = 0 then pLet b.toNat else pWord b.toNat
theorem wordB_no {s : List UInt8} {j : Nat} {b : UInt8} (h : s[j]? = some b) (hb : okAtW j b = false) : wordB s = false:=by
 cases s with
 | nil=>rfl
 | cons c r =>
  cases j with
  | zero =>
   simp at h;subst h
   have hb : pLet (c.toNat : Int) = false:=hb
   simp [wordB,hb]
  | succ j =>
   have h : r[j]? = some b:=by simpa using h
   have hb : pWord (b.toNat : Int) = false:=hb
   have : r.all (fun b=>pWord b.toNat) = false:=List.all_eq_false.2 ⟨b,List.mem_of_getElem? h,by simp [hb]⟩
   simp [wordB,this]
theorem wordB_end {s : List UInt8} (h : ∀ j b,s[j]? = some b -> okAtW j b = true) : wordB s = (decide ((0 : Int) < s.length) && decide ((s.length : Int) <= 64)):=by
 cases s with
 | nil=>rfl
 | cons c r =>
  have h0 : pLet (c.toNat : Int) = true:=h 0 c rfl
  have h1 : r.all (fun b=>pWord b.toNat) = true:=List.all_eq_true.2 fun b hb=>by
   obtain ⟨j,hj⟩:=List.getElem?_of_mem hb
   exact h (j + 1) b (by simpa using hj)
  have : decide ((0 : Int) < ((c :: r).length : Nat)) = true:=by simp
  rw [this];simp only [wordB,h0,h1,Bool.true_and]
def φword : List D -> Option D
 | [.str s]=>if s.length <= 2 ^ 60 then some (.bool (wordB s)) else none
 | _=>none
set_option maxHeartbeats 4000000 in
theorem ok109 : OkAt Tryz.prog 109 φword:=by
 refine ok_of (l:=[(162,φb pLet),(163,φb pDigit)]) (.cons ok162 (.cons ok163 .nil)) fn109 fun args r h=>?_
 unfold φword at h
 split at h
 ·rename_i s
  split at h
  ·rename_i hl
   injection h with h;subst h
   refine ⟨by simp,by simp [D.cl],fun H T=>?_⟩
   simp +contextual (maxSteps:=10000000) only [c109,go_sem]
   refine W_for (fun i s'=>s'.t 0 = .str s /\ s'.t 3 = .int .i64 (i : Nat) /\ s'.H = H /\ s'.T = T /\ i <= s.length /\ ∀ j b,j < i -> s[j]? = some b -> okAtW j b = true) s.length ⟨0,by simp [upd,argT]⟩ (fun i s h=>h.2.2.2.2.1) ?_ (XL_mono _)
   rintro i ⟨t,B,T'⟩ ⟨r0,r3,rfl,rfl,hi,hc⟩
   simp only at r0 r3
   by_cases hlt : i < s.length
   ·have d1 : decide (((i : Nat) : Int) < s.length) = true:=by simp only [decide_eq_true_eq];omega
    have ex : s[i]? = some s[i]:=by simp [hlt]
    obtain ⟨b,hb⟩ : ∃ b,s[i] = b:=⟨_,rfl⟩
    rw [hb] at ex
    have ix:=fun q=>ixs_at ex q
    have no:=fun hp=>wordB_no ex hp
    have nx : okAtW i b = true -> ∀ j b,j < i + 1 -> s[j]? = some b -> okAtW j b = true:=fun hp j c hj hc'=>by
     rcases Nat.lt_or_ge j i with h' | h'
     ·exact hc j c h' hc'
     ·have : j = i:=by omega
      subst this;rw [ex] at hc';injection hc' with hc';subst hc';exact hp
    have q1 : φb pLet [.int .u8 (b.toNat : Int)] = some (.bool (pLet b.toNat)):=rfl
    have q2 : φb pDigit [.int .u8 (b.toNat : Int)] = some (.bool (pDigit b.toNat)):=rfl
    rcases tf (pLet (b.toNat : Int)) with g1 | g1
    ·have nx:=nx (by unfold okAtW;split <;> simp [g1,pWord_let])
     simp +contextual (maxSteps:=10000000) only [r0,r3,d1,ix,q1,g1,wrap_su i (by omega),go_sem]
     exact ⟨by omega,nx⟩
    by_cases h0 : i = 0
    ·have e0 : (((i : Nat) : Int) == 0) = true:=by rw [beq_iff_eq];omega
     have no:=no (by unfold okAtW;rw [if_pos h0];exact g1)
     rw [no]
     simp +contextual (maxSteps:=10000000) only [r0,r3,d1,ix,q1,g1,e0,go_sem]
    have e0 : (((i : Nat) : Int) == 0) = false:=by rw [beq_eq_false_iff_ne];omega
    rcases tf (pDigit (b.toNat : Int)) with g2 | g2
    ·have nx:=nx (by unfold okAtW;rw [if_neg h0,pWord_let,g2];simp)
     simp +contextual (maxSteps:=10000000) only [r0,r3,d1,ix,q1,q2,g1,g2,e0,wrap_su i (by omega),go_sem]
     exact ⟨by omega,nx⟩
    rcases tf ((b.toNat : Int) == 95) with g3 | g3
    ·have nx:=nx (by unfold okAtW;rw [if_neg h0,pWord_let,g3];simp)
     have g3' : ((b.toNat : Int) != 95) = false:=by simp only [bne,g3];rfl
     simp +contextual (maxSteps:=10000000) only [r0,r3,d1,ix,q1,q2,g1,g2,g3',e0,wrap_su i (by omega),go_sem]
     exact ⟨by omega,nx⟩
    ·have no:=no (by unfold okAtW;rw [if_neg h0,pWord_let,g1,g2,g3];rfl)
     have g3' : ((b.toNat : Int) != 95) = true:=by simp only [bne,g3];rfl
     rw [no]
     simp +contextual (maxSteps:=10000000) only [r0,r3,d1,ix,q1,q2,g1,g2,g3',e0,go_sem]
   ·have d1 : decide (((i : Nat) : Int) < s.length) = false:=by simp only [decide_eq_false_iff_not];omega
    have hE:=wordB_end (s:=s) fun j b hj=>hc j b (by
     rcases Nat.lt_or_ge j s.length with h' | h'
     ·omega
     ·rw [List.getElem?_eq_none h'] at hj;cases hj) hj
    rw [hE]
    rcases tf (decide ((0 : Int) < s.length)) with g | g <;> simp +contextual (maxSteps:=10000000) only [r0,r3,d1,g,go_sem]
  ·cases h
 ·cases h
def tupR (p : Int × Bool) : D:=.tup [.int .i64 p.1,.bool p.2]
end GP
namespace GP
open Go Go.Proofs
set_option maxRecDepth 100000
theorem runL_cons {p : Int -> Bool} (c : UInt8) (r : List UInt8) (h : p c.toNat = true) : runL p (c :: r) = 1 + runL p r:=by
 unfold runL;simp only [List.takeWhile_cons,h,if_true,List.length_cons];omega
end GP
namespace GP
open Go Go.Proofs
set_option maxRecDepth 100000
def signs2 : List (List UInt8):=[[61,61],[33,61],[60,61],[62,61]]
def signs1 : List (List UInt8):=[[123],[125],[40],[41],[91],[93],[59],[46],[44],[43],[45],[42],[60],[62]]
theorem signsB_12 : signsB = signs2 ++ signs1:=rfl
theorem isSign_12 (s : List UInt8) : isSign s = (signs1.contains s || signs2.contains s):=by
 have e : signsR = signs1 ++ signs2:=rfl
 unfold isSign
 rw [e,List.any_append]
 congr 1 <;> (rw [List.contains_eq_any_beq];congr 1;funext x;exact BEq.comm)
end GP
namespace GP
open Go Go.Proofs
set_option maxRecDepth 100000
theorem wordB_cons (c : UInt8) (r : List UInt8) : wordB (c :: r) = (pLet c.toNat && r.all (fun b=>pWord b.toNat) && decide (((c :: r).length : Int) <= 64)):=rfl
end GP
namespace GP
open Go Go.Proofs
set_option maxRecDepth 100000
def zeroV : D:=.agg [.int .i64 0,.int .i64 0,.str [],.nils]
def num (n : Int) : D:=.agg [.int .i64 2,.int .i64 n,.str [],.nils]
def φTruth : List D -> Option D
 | [.bool b]=>some (.agg [.int .i64 1,.int .i64 (if b then 1 else 0),.str [],.nils])
 | _=>none
def φNumber : List D -> Option D
 | [.int .i64 n]=>some (num n)
 | _=>none
theorem ok244 [HasG Tryz.prog] : OkAt Tryz.prog 244 φTruth:=by
 refine ok_of (l:=[]) Ok.nil fn244 fun args r h=>?_
 unfold φTruth at h
 split at h
 ·injection h with h;subst h
  refine ⟨by simp,by simp [D.cl,D.clL],fun H T=>?_⟩
  rename_i b
  cases b <;> simp +contextual (maxSteps:=10000000) only [c244,go_sem]
 ·cases h
theorem ok242 [HasG Tryz.prog] : OkAt Tryz.prog 242 φNumber:=by
 refine ok_of (l:=[]) Ok.nil fn242 fun args r h=>?_
 unfold φNumber at h
 split at h
 ·injection h with h;subst h
  refine ⟨by simp,by simp [D.cl,D.clL,num],fun H T=>?_⟩
  simp +contextual (maxSteps:=10000000) only [c242,num,go_sem]
 ·cases h
def plainB (k i : Int) (s : List UInt8) (n : Nat) : Bool :=
 if decide ((0 : Int) < n) then false else if (k != 3) && (s != []) then false else
 if k == 0 then i == 0 else if k == 1 then i == 0 || i == 1 else if k == 2 then true else
 if k == 3 then i == 0 && decide ((s.length : Int) <= 64) else if k == 4 then decide (0 <= i) && decide (i <= 1099511627776) else false
def φplain : List D -> Option D
 | [.agg [.int .i64 k,.int .i64 i,.str s,l]]=>match lenD l with
  | some n=>some (.bool (plainB k i s n))
  | none=>none
 | _=>none
theorem lenD_okc {l : D} {n : Nat} (h : lenD l = some n) : l.okc = true /\ l.cells = [l]:=by
 cases l <;> simp [lenD] at h <;> exact ⟨rfl,rfl⟩
theorem ok179 [HasG Tryz.prog] : OkAt Tryz.prog 179 φplain:=by
 refine ok_of (l:=[]) Ok.nil fn179 fun args r h=>?_
 unfold φplain at h
 split at h
 ·split at h
  ·rename_i k i s l n hn
   injection h with h;subst h
   refine ⟨by simp,by simp [D.cl,D.clL,num],fun H T=>?_⟩
   have hl:=lenD_okc hn
   simp +contextual (maxSteps:=10000000) only [c179,plainB,hn,hl.1,hl.2,go_sem]
  ·cases h
 ·cases h
theorem wrap_of (a : Int) (h : -(2 ^ 63) <= a) (h' : a < 2 ^ 63) : IntKind.i64.wrap a = a:=by
 have e : IntKind.i64.wrap a = if a % (2 ^ 64 : Int) ≥ (2 ^ 63 : Int) then a % (2 ^ 64 : Int) - (2 ^ 64 : Int) else a % (2 ^ 64 : Int):=by
  simp [IntKind.wrap,IntKind.bits,IntKind.signed]
 rw [e]
 split <;> omega
theorem wrap_nat (n : Nat) (h : n < 2 ^ 62) : IntKind.i64.wrap (n : Int) = n:=wrap_of _ (by omega) (by omega)
theorem wrap_succ (n : Nat) (h : n < 2 ^ 61) : IntKind.i64.wrap ((n : Int) + 1) = ((n + 1 : Nat) : Int):=by
 have:=wrap_nat (n + 1) (by omega)
 rw [<- this];simp
@[go_sem] theorem ixs_nat (s : List UInt8) (k : IntKind) (i : Nat) : ixs (.str s) (.int k (i : Int)) = (s[i]?).map fun b=>.int .u8 (b.toNat : Int):=by
 simp [ixs]
def cmpI (a b : Int) : Int:=if a < b then -1 else if b < a then 1 else 0
def cmpS : List UInt8 -> List UInt8 -> Int
 | [],[]=>0
 | [],_ :: _=>-1
 | _ :: _,[]=>1
 | x :: a,y :: b=>if x.toNat < y.toNat then -1 else if y.toNat < x.toNat then 1 else cmpS a b
def φnumbers : List D -> Option D
 | [.int .i64 a,.int .i64 b]=>some (.int .i64 (cmpI a b))
 | _=>none
theorem ok203 [HasG Tryz.prog] : OkAt Tryz.prog 203 φnumbers:=by
 refine ok_of (l:=[]) Ok.nil fn203 fun args r h=>?_
 unfold φnumbers at h
 split at h
 ·injection h with h;subst h
  refine ⟨by simp,by simp [D.cl],fun H T=>?_⟩
  simp +contextual (maxSteps:=10000000) only [c203,cmpI,go_sem]
  simp
  omega
 ·cases h
def φTexts : List D -> Option D
 | [.str a,.str b]=>if a.length <= 2 ^ 47 /\ b.length <= 2 ^ 47 then some (.int .i64 (cmpS a b)) else none
 | _=>none
theorem ok204 [HasG Tryz.prog] : OkAt Tryz.prog 204 φTexts:=by
 refine ok_of (l:=[]) Ok.nil fn204 fun args r h=>?_
 unfold φTexts at h
 split at h
 ·split at h
  ·rename_i a b hl
   injection h with h;subst h
   refine ⟨by simp,by simp [D.cl],fun H T=>?_⟩
   simp +contextual (maxSteps:=10000000) only [c204,go_sem]
   refine W_for (fun i s=>s.t 0 = .str a /\ s.t 1 = .str b /\ s.t 5 = .int .i64 i /\ s.H = H /\ s.T = T /\ i <= a.length /\ i <= b.length /\ cmpS (a.drop i) (b.drop i) = cmpS a b) a.length ⟨0,by simp [upd,argT]⟩ (fun i s h=>h.2.2.2.2.2.1) ?_ (XL_mono _)
   rintro i ⟨t,H',T'⟩ ⟨h0,h1,h5,rfl,rfl,hi,hj,hc⟩
   simp only at h0 h1 h5
   by_cases ha : i < a.length
   ·by_cases hb : i < b.length
    ·have d1 : decide ((i : Int) < a.length) = true:=by simpa using ha
     have d2 : decide ((i : Int) < b.length) = true:=by simpa using hb
     have e1 : a[i]? = some a[i]:=by simp [ha]
     have e2 : b[i]? = some b[i]:=by simp [hb]
     rw [List.drop_eq_getElem_cons ha,List.drop_eq_getElem_cons hb,cmpS] at hc
     simp +contextual (maxSteps:=10000000) only [h0,h1,h5,d1,d2,e1,e2,wrap_succ i (by omega),go_sem]
     refine ⟨fun h=>?_,fun h=>⟨fun h'=>?_,fun h'=>⟨by omega,by omega,?_⟩⟩⟩ <;> simp only [decide_eq_true_eq,decide_eq_false_iff_not] at h <;> (try simp only [decide_eq_true_eq,decide_eq_false_iff_not] at h')
     ·rw [if_pos (by omega)] at hc;rw [hc]
     ·rw [if_neg (by omega),if_pos (by omega)] at hc;rw [hc]
     ·rw [if_neg (by omega),if_neg (by omega)] at hc;exact hc
    ·have d1 : decide ((i : Int) < a.length) = true:=by simpa using ha
     have d2 : decide ((i : Int) < b.length) = false:=by simpa using hb
     have d3 : decide ((a.length : Int) < b.length) = false:=by simp;omega
     have d4 : decide ((b.length : Int) < a.length) = true:=by simp;omega
     rw [List.drop_eq_getElem_cons ha,List.drop_eq_nil_of_le (by omega : b.length <= i),cmpS] at hc
     simp +contextual (maxSteps:=10000000) only [h0,h1,h5,d1,d2,d3,d4,← hc,go_sem]
   ·have d1 : decide ((i : Int) < a.length) = false:=by simpa using ha
    have d3 : decide ((b.length : Int) < a.length) = false:=by simp;omega
    rw [List.drop_eq_nil_of_le (by omega : a.length <= i)] at hc
    by_cases hb : i < b.length
    ·have d4 : decide ((a.length : Int) < b.length) = true:=by simp;omega
     rw [List.drop_eq_getElem_cons hb,cmpS] at hc
     simp +contextual (maxSteps:=10000000) only [h0,h1,h5,d1,d3,d4,← hc,go_sem]
    ·have d4 : decide ((a.length : Int) < b.length) = false:=by simp;omega
     rw [List.drop_eq_nil_of_le (by omega : b.length <= i),cmpS] at hc
     simp +contextual (maxSteps:=10000000) only [h0,h1,h5,d1,d3,d4,← hc,go_sem]
  ·cases h
 ·cases h
theorem body205 : Tryz.f205.body.isNone = true:=by kernel_rfl
theorem name205 : (Tryz.f205.name == "runtime.NumGoroutine") = false := by kernel_rfl
theorem next205 : Extern.findNext Tryz.f205 = none:=by kernel_rfl
theorem find205 : Extern.find Tryz.f205 = some Extern.BytealgCompare.compare:=by rfl
theorem cmpS_eq : ∀ (a b : List UInt8),Lib.compareBytes a b = cmpS a b
 | [],[]=>rfl
 | [],_ :: _=>rfl
 | _ :: _,[]=>rfl
 | x :: a,y :: b=>by
  simp only [Lib.compareBytes,cmpS,UInt8.lt_iff_toNat_lt,cmpS_eq a b]
def φcmp : List D -> Option D
 | [.str a,.str b]=>some (.int .i64 (cmpS a b))
 | _=>none
theorem ok205 [HasG Tryz.prog] : OkAt Tryz.prog 205 φcmp:=by
 intro args r hr args' he H T Q hQ
 unfold φcmp at hr
 split at hr
 ·rename_i a b
  injection hr with hr;subst hr
  intro c w vs _ hi hT hrep
  have h:=hrep.erase
  rw [he] at h
  match vs,h.len with
  | [v1,v2],_ =>
   have h1 : Rep c (.str a) v1:=h.rep 0 (by simp) (by simp)
   have h2 : Rep c (.str b) v2:=h.rep 1 (by simp) (by simp)
   cases h1;cases h2
   refine .inr ⟨.int .i64 (cmpS a b),w,?_,?_⟩
   ·rw [run_callFunc_extern Tryz.func205 name205 body205 next205 find205]
    have:=Lib.run_compareString (P:=Tryz.prog) ⟨a.toArray⟩ ⟨b.toArray⟩ w
    rw [cmpS_eq] at this
    simp only at this
    rw [this];rfl
   ·exact ⟨_,rfl,_,H,T,c,hQ,.int _ _,hi,Cx.le.refl c,hT,Below.refl _ _⟩
 ·cases hr
theorem ok176 [HasG Tryz.prog] : OkAt Tryz.prog 176 φcmp:=by
 refine ok_of (l:=[(205,φcmp)]) (.cons ok205 .nil) fn176 fun args r h=>?_
 unfold φcmp at h
 split at h
 ·injection h with h;subst h
  refine ⟨by simp,by simp [D.cl],fun H T=>?_⟩
  simp +contextual (maxSteps:=10000000) only [c176,φcmp,go_sem]
 ·cases h
theorem ok115 [HasG Tryz.prog] : OkAt Tryz.prog 115 φcmp:=by
 refine ok_of (l:=[(176,φcmp)]) (.cons ok176 .nil) fn115 fun args r h=>?_
 unfold φcmp at h
 split at h
 ·injection h with h;subst h
  refine ⟨by simp,by simp [D.cl],fun H T=>?_⟩
  simp +contextual (maxSteps:=10000000) only [c115,φcmp,go_sem]
 ·cases h
def φnan : List D -> Option D
 | [.int .i64 _]=>some (.bool false)
 | _=>none
theorem ok174 [HasG Tryz.prog] : OkAt Tryz.prog 174 φnan:=by
 refine ok_of (l:=[]) .nil fn174 fun args r h=>?_
 unfold φnan at h
 split at h
 ·injection h with h;subst h
  refine ⟨by simp,by simp [D.cl],fun H T=>?_⟩
  simp +contextual (maxSteps:=10000000) only [c174,go_sem]
 ·cases h
theorem ok175 [HasG Tryz.prog] : OkAt Tryz.prog 175 φnan:=by
 refine ok_of (l:=[]) .nil fn175 fun args r h=>?_
 unfold φnan at h
 split at h
 ·injection h with h;subst h
  refine ⟨by simp,by simp [D.cl],fun H T=>?_⟩
  simp +contextual (maxSteps:=10000000) only [c175,go_sem]
 ·cases h
theorem ok113 [HasG Tryz.prog] : OkAt Tryz.prog 113 φnumbers:=by
 refine ok_of (l:=[(174,φnan)]) (.cons ok174 .nil) fn113 fun args r h=>?_
 unfold φnumbers at h
 split at h
 ·injection h with h;subst h
  refine ⟨by simp,by simp [D.cl],fun H T=>?_⟩
  simp +contextual (maxSteps:=10000000) only [c113,φnan,cmpI,go_sem]
  simp
  omega
 ·cases h
theorem ok114 [HasG Tryz.prog] : OkAt Tryz.prog 114 φnumbers:=by
 refine ok_of (l:=[(175,φnan)]) (.cons ok175 .nil) fn114 fun args r h=>?_
 unfold φnumbers at h
 split at h
 ·injection h with h;subst h
  refine ⟨by simp,by simp [D.cl],fun H T=>?_⟩
  simp +contextual (maxSteps:=10000000) only [c114,φnan,cmpI,go_sem]
  simp
  omega
 ·cases h
def φone : List D -> Option D
 | [.agg [.int .i64 k,.int .i64 i,.str s,l]]=>match lenD l with
  | some n=>some (.bool (plainB k i s n))
  | none=>none
 | _=>none
theorem ok171 [HasG Tryz.prog] : OkAt Tryz.prog 171 φone:=by
 refine ok_of (l:=[]) Ok.nil fn171 fun args r h=>?_
 unfold φone at h
 split at h
 ·split at h
  ·rename_i k i s l n hn
   injection h with h;subst h
   refine ⟨by simp,by simp [D.cl,D.clL,num],fun H T=>?_⟩
   have hl:=lenD_okc hn
   simp +contextual (maxSteps:=10000000) only [c171,hn,hl.1,hl.2,go_sem]
   repeat' (first | apply And.intro | intro _)
   all_goals grind [plainB]
  ·cases h
 ·cases h
def singleI (k i : Int) (s : List UInt8) (k' i' : Int) (s' : List UInt8) : Int :=
 if k != k' then cmpI k k' else if k == 3 then cmpS s s' else cmpI i i'
def φsingle : List D -> Option D
 | [.agg [.int .i64 k,.int .i64 i,.str s,l],.agg [.int .i64 k',.int .i64 i',.str s',l']]=>if s.length <= 2 ^ 47 /\ s'.length <= 2 ^ 47 /\ (lenD l).isSome /\ (lenD l').isSome then some (.int .i64 (singleI k i s k' i' s')) else none
 | _=>none
theorem ok172 [HasG Tryz.prog] : OkAt Tryz.prog 172 φsingle:=by
 refine ok_of (l:=[(203,φnumbers),(204,φTexts)]) (.cons ok203 (.cons ok204 .nil)) fn172 fun args r h=>?_
 unfold φsingle at h
 split at h
 ·split at h
  ·rename_i hl
   injection h with h;subst h
   refine ⟨by simp,by simp [D.cl,D.clL,num],fun H T=>?_⟩
   obtain ⟨h1,h2,h3,h4⟩:=hl
   obtain ⟨n,hn⟩:=Option.isSome_iff_exists.1 h3
   obtain ⟨n',hn'⟩:=Option.isSome_iff_exists.1 h4
   have hl:=lenD_okc hn
   have hl':=lenD_okc hn'
   simp +contextual (maxSteps:=10000000) only [c172,φnumbers,φTexts,singleI,hn,hl.1,hl.2,hn',hl'.1,hl'.2,h1,h2,go_sem]
  ·cases h
 ·cases h
@[go_sem high] theorem ia_nat (sz : Nat) (b : Bool) (xs : List D) (k : IntKind) (i : Nat) : ia sz (sliceD b xs) (.int k (i : Int)) = iaE sz xs[i]?:=by
 rw [ia_sliceD];simp
@[go_sem high] theorem ia_nat' (sz : Nat) (t : Option Nat) (xs : List D) (k : IntKind) (i : Nat) : ia sz (.sl t xs) (.int k (i : Int)) = iaE sz xs[i]?:=by
 rw [ia_sl];simp
theorem isSl_elim {l : D} (h : isSl l = true) : ∃ b,l = sliceD b (elems l):=by
 unfold isSl at h
 split at h
 ·exact ⟨true,rfl⟩
 ·exact ⟨false,rfl⟩
 ·cases h
@[go_sem] theorem isSl_sliceD (b : Bool) (xs : List D) : isSl (sliceD b xs) = true:=by
 rcases sliceD_cases b xs with ⟨h,_⟩ | h <;> rw [h] <;> rfl
theorem all_take_succ {p : D -> Bool} {xs : List D} {i : Nat} {e : D} (h : xs[i]? = some e) : (xs.take (i + 1)).all p = ((xs.take i).all p && p e):=by
 rw [List.take_add_one,h];simp
theorem all_false_of {p : D -> Bool} {xs : List D} {i m : Nat} {e : D} (h : xs[i]? = some e) (hp : p e = false) (him : i < m) : (xs.take m).all p = false:=by
 cases hq : (xs.take m).all p with
 | false=>rfl
 | true =>
  have hm : e ∈ xs.take m:=by
   refine List.mem_of_getElem? (i:=i) ?_
   rw [List.getElem?_take_of_lt him];exact h
  rw [List.all_eq_true.1 hq e hm] at hp;cases hp
def leafFew (e : D) : Bool:=decide ((vs e).length <= 200) && decide ((vl e).length = 0)
def few1 (d : D) : Bool:=decide ((vs d).length <= 200) && decide ((vl d).length <= 30) && (vl d).all leafFew
def fewB (xs : List D) (n : Int) : Bool:=(xs.take 100).all few1 && decide ((xs.length : Int) <= n)
def φFew : List D -> Option D
 | [l,.int .i64 n]=>if isSl l = true /\ D.isVs (elems l) = true /\ (elems l).length <= 2 ^ 47 then some (.bool (fewB (elems l) n)) else none
 | _=>none
theorem ok111 [HasG Tryz.prog] : OkAt Tryz.prog 111 φFew:=by
 refine ok_of (l:=[]) .nil fn111 fun args r h=>?_
 unfold φFew at h
 split at h
 ·split at h
  ·rename_i l n hl
   injection h with h;subst h
   refine ⟨by simp,by simp [D.cl],fun H T=>?_⟩
   obtain ⟨hl1,hl2,hl3⟩:=hl
   obtain ⟨b,hb⟩:=isSl_elim hl1
   generalize elems l = xs at hb hl2 hl3
   subst hb
   have hV:=isVs_iff.1 hl2
   simp +contextual (maxSteps:=10000000) only [c111,go_sem]
   refine W_for (fun i s=>s.t 0 = sliceD b xs /\ s.t 1 = .int .i64 n /\ s.t 5 = .int .i64 i /\ s.H = H /\ s.T = T /\ i <= 100 /\ i <= xs.length /\ (xs.take i).all few1 = true) 100 ⟨0,by simp [upd,argT]⟩ (fun i s h=>h.2.2.2.2.2.1) ?_ (XL_mono _)
   rintro i ⟨t,H',T'⟩ ⟨h0,h1,h5,rfl,rfl,hi,hj,hc⟩
   simp only at h0 h1 h5
   by_cases ha : i < xs.length /\ i < 100
   ·obtain ⟨ha,hb'⟩:=ha
    have d1 : decide ((i : Int) < xs.length) = true:=by simpa using ha
    have d2 : decide ((i : Int) < 100) = true:=by simp;omega
    obtain ⟨k,i',s,m,l',he,hs1,hs2,hV'⟩:=isV_elim (hV _ (List.getElem_mem ha))
    have e1 : xs[i]? = some (mkV k i' s m l'):=by rw [<- he];simp [ha]
    simp +contextual (maxSteps:=10000000) only [h0,h1,h5,d1,d2,e1,mkV,go_sem]
    have f1 : few1 (mkV k i' s m l') = (decide (s.length <= 200) && decide (l'.length <= 30) && l'.all leafFew):=by simp only [few1,vs_mk,vl_mk]
    have bad : few1 (mkV k i' s m l') = false -> fewB xs n = false:=fun h=>by simp only [fewB,all_false_of e1 h hb',Bool.false_and]
    refine ⟨fun q=>?_,fun q1=>⟨fun q=>?_,fun q2=>?_⟩⟩
    ·rw [bad];rw [f1];simp at q ⊢;omega
    ·rw [bad];rw [f1];simp at q ⊢;omega
    ·refine W_for (fun j s=>s.t 0 = sliceD b xs /\ s.t 1 = .int .i64 n /\ s.t 5 = .int .i64 i /\ s.t 6 = .int .i64 j /\ s.H = H' /\ s.T = T' /\ j <= l'.length /\ (l'.take j).all leafFew = true) l'.length ⟨0,by simp [upd,h0,h1,h5]⟩ (fun i s h=>h.2.2.2.2.2.2.1) ?_ (XL_mono _)
     rintro j ⟨t,H',T'⟩ ⟨h0,h1,h5,h6,rfl,rfl,hj2,hc2⟩
     simp only at h0 h1 h5 h6
     by_cases hb2 : j < l'.length
     ·have d3 : decide ((j : Int) < l'.length) = true:=by simpa using hb2
      obtain ⟨k2,i2,s2,m2,l2,he2,hs21,hs22,hV2⟩:=isV_elim (hV' _ (List.getElem_mem hb2))
      have e2 : l'[j]? = some (mkV k2 i2 s2 m2 l2):=by rw [<- he2];simp [hb2]
      have f2 : leafFew (mkV k2 i2 s2 m2 l2) = (decide (s2.length <= 200) && decide (l2.length = 0)):=by simp only [leafFew,vs_mk,vl_mk]
      have bad2 : leafFew (mkV k2 i2 s2 m2 l2) = false -> fewB xs n = false:=fun h=>bad (by
       have hm : l'.all leafFew = false:=by
        have:=all_false_of e2 h hb2
        rwa [List.take_length] at this
       rw [f1,hm,Bool.and_false])
      simp +contextual (maxSteps:=10000000) only [h0,h1,h5,h6,d3,e1,e2,mkV,wrap_succ j (by omega),go_sem]
      refine ⟨fun q=>?_,fun q1=>⟨fun q=>?_,fun q2=>⟨by omega,?_⟩⟩⟩
      ·rw [bad2];rw [f2];simp at q ⊢;omega
      ·rw [bad2];rw [f2];simp only [decide_eq_true_eq,Bool.and_eq_false_iff,decide_eq_false_iff_not] at q ⊢;omega
      ·rw [all_take_succ e2,hc2,f2];simp only [decide_eq_true_eq,Bool.and_eq_true,decide_eq_false_iff_not,true_and] at q1 q2 ⊢;omega
     ·have d3 : decide ((j : Int) < l'.length) = false:=by simpa using hb2
      have hall : l'.all leafFew = true:=by rwa [List.take_of_length_le (by omega)] at hc2
      have f3 : few1 (mkV k i' s m l') = true:=by rw [f1,hall];simp at q1 q2 ⊢;omega
      have hc3 : (xs.take (i + 1)).all few1 = true:=by rw [all_take_succ e1,hc,f3];rfl
      simp +contextual (maxSteps:=10000000) only [h0,h1,h5,h6,d3,e1,mkV,wrap_succ i (by omega),go_sem]
      exact ⟨by omega,by omega,hc3⟩
   ·have hcf : (xs.take 100).all few1 = true:=by
     by_cases hx : i < xs.length
     ·have : i = 100:=by omega
      rw [<- this];exact hc
     ·rw [List.take_of_length_le (by omega)] at hc
      exact List.all_eq_true.2 fun x hx=>List.all_eq_true.1 hc x (List.mem_of_mem_take hx)
    by_cases hx : i < xs.length
    ·have d1 : decide ((i : Int) < xs.length) = true:=by simpa using hx
     have d2 : decide ((i : Int) < 100) = false:=by simp;omega
     simp +contextual (maxSteps:=10000000) only [h0,h1,h5,d1,d2,fewB,hcf,go_sem]
    ·have d1 : decide ((i : Int) < xs.length) = false:=by simpa using hx
     simp +contextual (maxSteps:=10000000) only [h0,h1,h5,d1,fewB,hcf,go_sem]
  ·cases h
 ·cases h
end GP
namespace GP
open Go Go.Proofs
set_option maxRecDepth 100000
theorem wrap_pred (n : Nat) (h : n < 2 ^ 61) (h0 : 0 < n) : IntKind.i64.wrap ((n : Int) - 1) = ((n - 1 : Nat) : Int):=by
 rw [wrap_of _ (by omega) (by omega)];omega
theorem all_range_succ {p : Nat -> Bool} (i : Nat) : (List.range (i + 1)).all p = ((List.range i).all p && p i):=by
 rw [List.range_succ];simp
theorem range_false_of {p : Nat -> Bool} {i m : Nat} (hp : p i = false) (him : i < m) : (List.range m).all p = false:=by
 cases hq : (List.range m).all p with
 | false=>rfl
 | true=>rw [List.all_eq_true.1 hq i (by simpa using him)] at hp;cases hp
def one1 (d : D) : Bool:=plainB (vk d) (vi d) (vs d) (vl d).length
def vk0 : List D -> Int
 | x :: _=>vk x
 | []=>0
def okEl (cmp : D -> D -> Int) (xs : List D) (i : Nat) : Bool:=match xs[i]? with
 | none=>true
 | some x=>one1 x && (vk x != 0) && (vk x == vk0 xs) && (i == 0 || (match xs[i - 1]? with | some y=>decide (cmp y x < 0) | none=>false))
def adjB (cmp : D -> D -> Int) (xs : List D) : Bool:=(List.range xs.length).all (okEl cmp xs)
def singleD (a b : D) : Int:=singleI (vk a) (vi a) (vs a) (vk b) (vi b) (vs b)
def formedB (d : D) : Bool:=if vk d != 5 then one1 d else if (vi d != 0) || (vs d != []) || decide ((16 : Int) < (vl d).length) then false else adjB singleD (vl d)
def φformed : List D -> Option D
 | [d]=>if d.isV = true then some (.bool (formedB d)) else none
 | _=>none
theorem vk0_get {xs : List D} {k i : Int} {s : List UInt8} {n : Bool} {l : List D} (h : xs[0]? = some (mkV k i s n l)) : vk0 xs = k:=by
 cases xs with
 | nil=>simp at h
 | cons x xs=>simp at h;subst h;rfl
theorem erase_of_isV {l : List D} (h : ∀ x ∈ l,x.isV = true) : D.eraseL l = l:=isVs_erase (isVs_iff.2 h)
theorem get_isV {xs : List D} (h : ∀ x ∈ xs,x.isV = true) {i : Nat} (hi : i < xs.length) : ∃ k i' s n l,xs[i]? = some (mkV k i' s n l) /\ s.length <= 2 ^ 47 /\ l.length <= 2 ^ 47 /\ (∀ x ∈ l,x.isV = true) /\ D.eraseL l = l:=by
 obtain ⟨k,i',s,n,l,he,h1,h2,h3⟩:=isV_elim (h _ (List.getElem_mem hi))
 exact ⟨k,i',s,n,l,by rw [<- he];simp [hi],h1,h2,h3,erase_of_isV h3⟩
theorem ok107 [HasG Tryz.prog] : OkAt Tryz.prog 107 φformed:=by
 refine ok_of (l:=[(171,φone),(172,φsingle)]) (.cons ok171 (.cons ok172 .nil)) fn107 fun args r h=>?_
 unfold φformed at h
 split at h
 ·split at h
  ·rename_i d hd
   injection h with h;subst h
   refine ⟨by simp,by simp [D.cl],fun H T=>?_⟩
   obtain ⟨k,i,s,n,xs,rfl,hs,hx,hV⟩:=isV_elim hd
   have eL:=erase_of_isV hV
   have F : formedB (mkV k i s n xs) = if k != 5 then plainB k i s xs.length else if (i != 0) || (s != []) || decide ((16 : Int) < xs.length) then false else adjB singleD xs:=by simp only [formedB,one1,vk_mk,vi_mk,vs_mk,vl_mk]
   rw [F]
   simp +contextual (maxSteps:=10000000) only [c107,mkV,φone,eL,go_sem]
   intro q1 q2 q3 q4
   refine W_for (fun j s'=>s'.t 1 = .ptr H.length 0 /\ s'.t 3 = .int .i64 j /\ s'.H = H ++ [.row [.int .i64 k,.int .i64 i,.str s,sliceD n xs]] /\ s'.T = T /\ j <= xs.length /\ (List.range j).all (okEl singleD xs) = true) xs.length ⟨0,by simp [upd,argT]⟩ (fun i s h=>h.2.2.2.2.1) ?_ (XL_mono _)
   rintro j ⟨t,H',T'⟩ ⟨h1,h3,rfl,rfl,hj,hc⟩
   simp only at h1 h3
   by_cases ha : j < xs.length
   ·have d1 : decide ((j : Int) < xs.length) = true:=by simpa using ha
    obtain ⟨k1,i1,s1,n1,l1,e1,hs1,hx1,hV1,eL1⟩:=get_isV hV ha
    obtain ⟨k0,i0,s0,n0,l0,e0,_⟩:=get_isV hV (show 0 < xs.length by omega)
    have fk:=vk0_get e0
    by_cases hj0 : 0 < j
    ·obtain ⟨k2,i2,s2,n2,l2,e2,hs2,hx2,hV2,eL2⟩:=get_isV hV (show j - 1 < xs.length by omega)
     have d2 : decide ((0 : Int) < j) = true:=by simpa using hj0
     have G : okEl singleD xs j = (plainB k1 i1 s1 l1.length && (k1 != 0) && (k1 == k0) && decide (singleI k2 i2 s2 k1 i1 s1 < 0)):=by
      have : (j == 0) = false:=by simp;omega
      simp only [okEl,e1,e2,fk,one1,singleD,vk_mk,vi_mk,vs_mk,vl_mk,this,Bool.false_or]
     have bad : okEl singleD xs j = false -> adjB singleD xs = false:=fun h=>range_false_of h ha
     simp +contextual (maxSteps:=10000000) only [h1,h3,d1,d2,e0,e1,e2,mkV,φone,φsingle,eL1,eL2,wrap_pred j (by omega) hj0,wrap_succ j (by omega),hs1,hs2,Option.isSome_some,go_sem]
     refine ⟨fun q=>?_,fun p1=>⟨fun q=>?_,fun p2=>⟨fun q=>?_,fun p3=>⟨fun q=>?_,fun p4=>⟨by omega,?_⟩⟩⟩⟩⟩
     ·rw [bad (by rw [G];grind)]
     ·rw [bad (by rw [G];grind)]
     ·rw [bad (by rw [G];grind)]
     ·rw [bad (by rw [G];grind)]
     ·rw [List.all_append,hc]
      simp only [List.all_cons,List.all_nil,G]
      grind
    ·have d2 : decide ((0 : Int) < j) = false:=by simpa using hj0
     have G : okEl singleD xs j = (plainB k1 i1 s1 l1.length && (k1 != 0) && (k1 == k0)):=by
      have : (j == 0) = true:=by simp;omega
      simp only [okEl,e1,fk,one1,singleD,vk_mk,vi_mk,vs_mk,vl_mk,this,Bool.true_or,Bool.and_true]
     have bad : okEl singleD xs j = false -> adjB singleD xs = false:=fun h=>range_false_of h ha
     simp +contextual (maxSteps:=10000000) only [h1,h3,d1,d2,e0,e1,mkV,φone,φsingle,eL1,wrap_succ j (by omega),hs1,Option.isSome_some,go_sem]
     refine ⟨fun q=>?_,fun p1=>⟨fun q=>?_,fun p2=>⟨fun q=>?_,fun p3=>⟨by omega,?_⟩⟩⟩⟩
     ·rw [bad (by rw [G];grind)]
     ·rw [bad (by rw [G];grind)]
     ·rw [bad (by rw [G];grind)]
     ·rw [List.all_append,hc]
      simp only [List.all_cons,List.all_nil,G]
      grind
   ·have d1 : decide ((j : Int) < xs.length) = false:=by simpa using ha
    have hA : adjB singleD xs = true:=by
     have : j = xs.length:=by omega
     subst this;exact hc
    simp +contextual (maxSteps:=10000000) only [h1,h3,d1,mkV,hA,go_sem]
  ·cases h
 ·cases h
theorem putRow_app (n off : Nat) (v : D) (M : Hp) : ∀ (L : Hp) (i : Nat),putRow n off v (L ++ M) (L.length + i) = (putRow n off v M i).map (L ++ ·)
 | [],i=>by simp
 | x :: L,i=>by
  have e : (x :: L).length + i = (L.length + i) + 1:=by simp;omega
  rw [e,List.cons_append,putRow_s,putRow_app n off v M L i]
  cases putRow n off v M i <;> simp
@[go_sem] theorem putRow_app' (n off : Nat) (v : D) (L M : Hp) (i : Nat) : putRow n off v (L ++ M) (L.length + i) = (putRow n off v M i).map (L ++ ·):=putRow_app n off v M L i
@[go_sem] theorem putRow_app0 (n off : Nat) (v : D) (L M : Hp) : putRow n off v (L ++ M) L.length = (putRow n off v M 0).map (L ++ ·):=putRow_app n off v M L 0
def or3 (a b c : Int) : Int:=if a != 0 then a else if b != 0 then b else c
def φOr : List D -> Option D
 | [.sl none [.int .i64 a,.int .i64 b,.int .i64 c]]=>some (.int .i64 (or3 a b c))
 | _=>none
theorem ok112 [HasG Tryz.prog] : OkAt Tryz.prog 112 φOr:=by
 refine ok_of (l:=[]) .nil fn112 fun args r h=>?_
 unfold φOr at h
 split at h
 ·injection h with h;subst h
  rename_i a b c
  refine ⟨by simp,by simp [D.cl],fun H T=>?_⟩
  simp +contextual (maxSteps:=10000000) only [c112,go_sem]
  refine W_for (fun i s=>s.t 3 = .int .i64 0 /\ s.t 6 = .sl none [.int .i64 a,.int .i64 b,.int .i64 c] /\ s.t 7 = .int .i64 3 /\ s.t 8 = .int .i64 i /\ s.H = H /\ s.T = T /\ i <= 3 /\ (1 <= i -> a = 0) /\ (2 <= i -> b = 0) /\ (3 <= i -> c = 0)) 3 ⟨0,by simp [upd,argT]⟩ (fun i s h=>h.2.2.2.2.2.2.1) ?_ (XL_mono _)
  rintro i ⟨t,H',T'⟩ ⟨h3,h6,h7,h8,rfl,rfl,hi,z1,z2,z3⟩
  simp only at h3 h6 h7 h8
  have w1 : IntKind.i64.wrap 1 = 1:=by decide
  have w2 : IntKind.i64.wrap 2 = 2:=by decide
  have w3 : IntKind.i64.wrap 3 = 3:=by decide
  match i,hi with
  | 0,_ =>
   simp +contextual (maxSteps:=10000000) only [h3,h6,h7,h8,or3,w1,Int.reduceAdd,go_sem]
   grind
  | 1,_ =>
   have:=z1 (by omega);subst this
   simp +contextual (maxSteps:=10000000) only [h3,h6,h7,h8,or3,w2,Int.reduceAdd,go_sem]
   grind
  | 2,_ =>
   have:=z1 (by omega);subst this
   have:=z2 (by omega);subst this
   simp +contextual (maxSteps:=10000000) only [h3,h6,h7,h8,or3,w3,Int.reduceAdd,go_sem]
   grind
  | 3,_ =>
   have:=z1 (by omega);subst this
   have:=z2 (by omega);subst this
   have:=z3 (by omega);subst this
   simp +contextual (maxSteps:=10000000) only [h3,h6,h7,h8,or3,go_sem]
 ·cases h
def cmpL (f : D -> D -> Int) : List D -> List D -> Int
 | [],[]=>0
 | [],_ :: _=>-1
 | _ :: _,[]=>1
 | x :: xs,y :: ys=>if f x y != 0 then f x y else cmpL f xs ys
def φCF (dom : D -> Bool) (f : D -> D -> Int) : List D -> Option D
 | [l1,l2,.fn 64 [] []]=>if isSl l1 = true /\ isSl l2 = true /\ D.isVs (elems l1) = true /\ D.isVs (elems l2) = true /\ (elems l1).all dom = true /\ (elems l2).all dom = true /\ (elems l1).length <= 2 ^ 47 /\ (elems l2).length <= 2 ^ 47 then some (.int .i64 (cmpL f (elems l1) (elems l2))) else none
 | _=>none
theorem ok116 [HasG Tryz.prog] {φ : List D -> Option D} (h13 : OkAt Tryz.prog 64 φ) {dom : D -> Bool} {f : D -> D -> Int} (hφ : ∀ x y,x.isV = true -> y.isV = true -> dom x = true -> dom y = true -> φ [x,y] = some (.int .i64 (f x y))) : OkAt Tryz.prog 116 (φCF dom f):=by
 refine ok_of (l:=[(64,φ)]) (.cons h13 .nil) fn116 fun args r h=>?_
 unfold φCF at h
 split at h
 ·split at h
  ·rename_i l1 l2 hl
   injection h with h;subst h
   refine ⟨by simp,by simp [D.cl],fun H T=>?_⟩
   obtain ⟨g1,g2,g3,g4,g5,g6,g7,g8⟩:=hl
   obtain ⟨b1,hb1⟩:=isSl_elim g1
   obtain ⟨b2,hb2⟩:=isSl_elim g2
   generalize elems l1 = xs at *
   generalize elems l2 = ys at *
   subst hb1;subst hb2
   have hV1:=isVs_iff.1 g3
   have hV2:=isVs_iff.1 g4
   simp +contextual (maxSteps:=10000000) only [c116,go_sem]
   refine W_for (fun i s=>s.t 0 = sliceD b1 xs /\ s.t 1 = sliceD b2 ys /\ s.t 2 = .fn 64 [] [] /\ s.t 11 = sliceD b1 xs /\ s.t 12 = .int .i64 xs.length /\ s.t 13 = .int .i64 i /\ (∃ L,s.H = H ++ L) /\ s.T = T /\ i <= xs.length /\ i <= ys.length /\ cmpL f (xs.drop i) (ys.drop i) = cmpL f xs ys) xs.length ⟨0,by simp [upd,argT]⟩ (fun i s h=>h.2.2.2.2.2.2.2.2.1) ?_ (XL_mono _)
   rintro i ⟨t,H',T'⟩ ⟨h0,h1,h2,h11,h12,h13,⟨L,rfl⟩,rfl,hi,hj,hc⟩
   simp only at h0 h1 h2 h11 h12 h13
   by_cases ha : i < xs.length
   ·have d1 : decide ((i : Int) < xs.length) = true:=by simpa using ha
    obtain ⟨k1,i1,s1,n1,q1,e1,_,_,v1,r1⟩:=get_isV hV1 ha
    by_cases hb : i < ys.length
    ·have d2 : decide ((ys.length : Int) <= i) = false:=by simp;omega
     obtain ⟨k2,i2,s2,n2,q2,e2,_,_,v2,r2⟩:=get_isV hV2 hb
     have x1 : xs[i] = mkV k1 i1 s1 n1 q1:=by rw [List.getElem?_eq_getElem ha] at e1;exact Option.some.inj e1
     have x2 : ys[i] = mkV k2 i2 s2 n2 q2:=by rw [List.getElem?_eq_getElem hb] at e2;exact Option.some.inj e2
     have p:=hφ _ _ (hV1 _ (List.getElem_mem ha)) (hV2 _ (List.getElem_mem hb)) (List.all_eq_true.1 g5 _ (List.getElem_mem ha)) (List.all_eq_true.1 g6 _ (List.getElem_mem hb))
     rw [List.drop_eq_getElem_cons ha,List.drop_eq_getElem_cons hb,cmpL] at hc
     rw [x1,x2] at p hc
     generalize f (mkV k1 i1 s1 n1 q1) (mkV k2 i2 s2 n2 q2) = F at p hc
     simp only [mkV] at p
     simp +contextual (maxSteps:=10000000) only [h0,h1,h2,h11,h12,h13,d1,d2,e1,e2,mkV,p,r1,r2,wrap_succ i (by omega),go_sem]
     refine ⟨fun q=>?_,fun q=>⟨⟨_,rfl⟩,by omega,by omega,?_⟩⟩
     ·rw [if_pos q] at hc;rw [hc]
     ·rw [if_neg (by rw [q];decide)] at hc;exact hc
    ·have d2 : decide ((ys.length : Int) <= i) = true:=by simp;omega
     rw [List.drop_eq_getElem_cons ha,List.drop_eq_nil_of_le (by omega : ys.length <= i),cmpL] at hc
     simp +contextual (maxSteps:=10000000) only [h0,h1,h2,h11,h12,h13,d1,d2,e1,mkV,← hc,go_sem]
   ·have d1 : decide ((i : Int) < xs.length) = false:=by simpa using ha
    rw [List.drop_eq_nil_of_le (by omega : xs.length <= i)] at hc
    by_cases hb : i < ys.length
    ·have d2 : decide ((xs.length : Int) < ys.length) = true:=by simp;omega
     rw [List.drop_eq_getElem_cons hb,cmpL] at hc
     simp +contextual (maxSteps:=10000000) only [h0,h1,h2,h11,h12,h13,d1,d2,← hc,go_sem]
    ·have d2 : decide ((xs.length : Int) < ys.length) = false:=by simp;omega
     rw [List.drop_eq_nil_of_le (by omega : ys.length <= i),cmpL] at hc
     simp +contextual (maxSteps:=10000000) only [h0,h1,h2,h11,h12,h13,d1,d2,← hc,go_sem]
  ·cases h
 ·cases h
def ordW (f : D -> D -> Int) (a b : D) : Int :=
 if or3 (cmpI (vk a) (vk b)) (cmpI (vi a) (vi b)) (cmpS (vs a) (vs b)) != 0 then or3 (cmpI (vk a) (vk b)) (cmpI (vi a) (vi b)) (cmpS (vs a) (vs b)) else cmpL f (vl a) (vl b)
def φOrd (dom : D -> Bool) (f : D -> D -> Int) : List D -> Option D
 | [a,b]=>if a.isV = true /\ b.isV = true /\ (vl a).all dom = true /\ (vl b).all dom = true then some (.int .i64 (ordW f a b)) else none
 | _=>none
theorem ok64 [HasG Tryz.prog] {dom : D -> Bool} {f : D -> D -> Int} (h38 : OkAt Tryz.prog 116 (φCF dom f)) : OkAt Tryz.prog 64 (φOrd dom f):=by
 refine ok_of (l:=[(113,φnumbers),(114,φnumbers),(115,φcmp),(112,φOr),(116,φCF dom f)]) (.cons ok113 (.cons ok114 (.cons ok115 (.cons ok112 (.cons h38 .nil))))) fn64 fun args r h=>?_
 unfold φOrd at h
 split at h
 ·split at h
  ·rename_i a b hab
   injection h with h;subst h
   refine ⟨by simp,by simp [D.cl],fun H T=>?_⟩
   obtain ⟨ha,hb,hda,hdb⟩:=hab
   obtain ⟨k1,i1,s1,n1,l1,rfl,z1,y1,hV1⟩:=isV_elim ha
   obtain ⟨k2,i2,s2,n2,l2,rfl,z2,y2,hV2⟩:=isV_elim hb
   simp only [vl_mk] at hda hdb
   have r1:=erase_of_isV hV1
   have r2:=erase_of_isV hV2
   have p : φCF dom f [sliceD n1 l1,sliceD n2 l2,.fn 64 [] []] = some (.int .i64 (cmpL f l1 l2)):=by
    simp only [φCF,isSl_sliceD,elems_sliceD,isVs_iff.2 hV1,isVs_iff.2 hV2,hda,hdb,y1,y2,and_self,if_true]
   have q : ordW f (mkV k1 i1 s1 n1 l1) (mkV k2 i2 s2 n2 l2) = if or3 (cmpI k1 k2) (cmpI i1 i2) (cmpS s1 s2) != 0 then or3 (cmpI k1 k2) (cmpI i1 i2) (cmpS s1 s2) else cmpL f l1 l2:=by
    simp only [ordW,vk_mk,vi_mk,vs_mk,vl_mk]
   rw [q]
   simp +contextual (maxSteps:=10000000) only [c64,mkV,φnumbers,φcmp,φOr,r1,r2,p,fit_eq,go_sem]
  ·cases h
 ·cases h
theorem ok64none [HasG Tryz.prog] : OkAt Tryz.prog 64 (fun _=>none):=fun _ _ h=>by cases h
def dom0 (_ : D) : Bool:=false
def f0 (_ _ : D) : Int:=0
def ord0:=ordW f0
theorem ok64a [HasG Tryz.prog] : OkAt Tryz.prog 64 (φOrd dom0 f0):=ok64 (ok116 ok64none (fun _ _ _ _ h=>by cases h))
def leaf (d : D) : Bool:=(vl d).isEmpty
theorem ord_leaf {x y : D} (hx : x.isV = true) (hy : y.isV = true) (h1 : leaf x = true) (h2 : leaf y = true) : φOrd dom0 f0 [x,y] = some (.int .i64 (ord0 x y)):=by
 simp only [leaf,List.isEmpty_iff] at h1 h2
 simp [φOrd,hx,hy,h1,h2,ord0]
def formedV (d : D) : Bool:=if vk d != 5 then one1 d else if adjB ord0 (vl d) then (vi d == 0) && (vs d == []) && decide (((vl d).length : Int) <= 16) else false
def φFormed : List D -> Option D
 | [d]=>if d.isV = true then some (.bool (formedV d)) else none
 | _=>none
theorem plain_leaf {k i : Int} {s : List UInt8} {n : Nat} (h : plainB k i s n = true) : n = 0:=by
 unfold plainB at h
 by_cases hn : (0 : Int) < n
 ·simp [hn] at h
  exact h.1
 ·omega
theorem ok129 [HasG Tryz.prog] : OkAt Tryz.prog 129 φFormed:=by
 refine ok_of (l:=[(179,φplain),(64,φOrd dom0 f0)]) (.cons ok179 (.cons ok64a .nil)) fn129 fun args r h=>?_
 unfold φFormed at h
 split at h
 ·split at h
  ·rename_i d hd
   injection h with h;subst h
   refine ⟨by simp,by simp [D.cl],fun H T=>?_⟩
   obtain ⟨k,i,s,n,xs,rfl,hs,hx,hV⟩:=isV_elim hd
   have eL:=erase_of_isV hV
   have F : formedV (mkV k i s n xs) = if k != 5 then plainB k i s xs.length else if adjB ord0 xs then (i == 0) && (s == []) && decide ((xs.length : Int) <= 16) else false:=by simp only [formedV,one1,vk_mk,vi_mk,vs_mk,vl_mk]
   rw [F]
   simp +contextual (maxSteps:=10000000) only [c129,mkV,φplain,eL,go_sem]
   intro q1
   refine W_for (fun j s'=>s'.t 1 = .ptr H.length 0 /\ s'.t 11 = sliceD n xs /\ s'.t 12 = .int .i64 xs.length /\ s'.t 13 = .int .i64 j /\ (∃ L,s'.H = H ++ .row [.int .i64 k,.int .i64 i,.str s,sliceD n xs] :: L) /\ s'.T = T /\ j <= xs.length /\ (List.range j).all (okEl ord0 xs) = true) xs.length ⟨0,by simp [upd,argT]⟩ (fun i s h=>h.2.2.2.2.2.2.1) ?_ (XL_mono _)
   rintro j ⟨t,H',T'⟩ ⟨h1,h11,h12,h13,⟨L,rfl⟩,rfl,hj,hc⟩
   simp only at h1 h11 h12 h13
   by_cases ha : j < xs.length
   ·have d1 : decide ((j : Int) < xs.length) = true:=by simpa using ha
    obtain ⟨k1,i1,s1,n1,l1,e1,hs1,hx1,hV1,eL1⟩:=get_isV hV ha
    obtain ⟨k0,i0,s0,n0,l0,e0,_⟩:=get_isV hV (show 0 < xs.length by omega)
    have fk:=vk0_get e0
    have bad : okEl ord0 xs j = false -> adjB ord0 xs = false:=fun h=>range_false_of h ha
    by_cases hj0 : 0 < j
    ·obtain ⟨k2,i2,s2,n2,l2,e2,hs2,hx2,hV2,eL2⟩:=get_isV hV (show j - 1 < xs.length by omega)
     have d2 : decide ((0 : Int) < j) = true:=by simpa using hj0
     have pv : okEl ord0 xs (j - 1) = true:=List.all_eq_true.1 hc (j - 1) (by simp;omega)
     have lf2 : l2 = []:=by
      simp only [okEl,e2,one1,vk_mk,vi_mk,vs_mk,vl_mk,Bool.and_eq_true] at pv
      exact List.length_eq_zero_iff.1 (plain_leaf pv.1.1.1)
     subst lf2
     generalize ho : ord0 (mkV k2 i2 s2 n2 []) (mkV k1 i1 s1 n1 l1) = o
     have G : okEl ord0 xs j = (plainB k1 i1 s1 l1.length && (k1 != 0) && (k1 == k0) && decide (o < 0)):=by
      have : (j == 0) = false:=by simp;omega
      simp only [okEl,e1,e2,fk,one1,ho,vk_mk,vi_mk,vs_mk,vl_mk,this,Bool.false_or]
     by_cases hp : plainB k1 i1 s1 l1.length = true
     ·have lf1 : l1 = []:=List.length_eq_zero_iff.1 (plain_leaf hp)
      subst lf1
      have p:=ord_leaf (x:=mkV k2 i2 s2 n2 []) (y:=mkV k1 i1 s1 n1 []) (isV_mk hs2 (by simp) (by simp)) (isV_mk hs1 (by simp) (by simp)) (by simp [leaf,vl_mk]) (by simp [leaf,vl_mk])
      rw [ho] at p
      simp only [mkV] at p
      simp only [List.length_nil] at hp G
      simp +contextual (maxSteps:=10000000) only [h1,h11,h12,h13,d1,d2,e0,e1,e2,mkV,φplain,p,hp,wrap_pred j (by omega) hj0,wrap_succ j (by omega),go_sem]
      refine ⟨fun q=>?_,fun p2=>⟨fun q=>?_,fun p3=>⟨fun q=>?_,fun p4=>⟨⟨_,rfl⟩,by omega,?_⟩⟩⟩⟩
      ·rw [bad (by rw [G];grind)];rfl
      ·rw [bad (by rw [G];grind)];rfl
      ·rw [bad (by rw [G];grind)];rfl
      ·rw [List.all_append,hc]
       simp only [List.all_cons,List.all_nil,G]
       grind
     ·have hp' : plainB k1 i1 s1 l1.length = false:=by simpa using hp
      have hb:=bad (by rw [G,hp'];rfl)
      simp +contextual (maxSteps:=10000000) only [h1,h11,h12,h13,d1,d2,e0,e1,e2,mkV,φplain,hp',eL1,hb,go_sem]
    ·have d2 : decide ((0 : Int) < j) = false:=by simpa using hj0
     have G : okEl ord0 xs j = (plainB k1 i1 s1 l1.length && (k1 != 0) && (k1 == k0)):=by
      have : (j == 0) = true:=by simp;omega
      simp only [okEl,e1,fk,one1,vk_mk,vi_mk,vs_mk,vl_mk,this,Bool.true_or,Bool.and_true]
     simp +contextual (maxSteps:=10000000) only [h1,h11,h12,h13,d1,d2,e0,e1,mkV,φplain,eL1,wrap_succ j (by omega),go_sem]
     refine ⟨fun q=>?_,fun p1=>⟨fun q=>?_,fun p2=>⟨fun q=>?_,fun p3=>⟨⟨_,rfl⟩,by omega,?_⟩⟩⟩⟩
     ·rw [bad (by rw [G];grind)];rfl
     ·rw [bad (by rw [G];grind)];rfl
     ·rw [bad (by rw [G];grind)];rfl
     ·rw [List.all_append,hc]
      simp only [List.all_cons,List.all_nil,G]
      grind
   ·have d1 : decide ((j : Int) < xs.length) = false:=by simpa using ha
    have hA : adjB ord0 xs = true:=by
     have : j = xs.length:=by omega
     subst this;exact hc
    simp +contextual (maxSteps:=10000000) only [h1,h11,h12,h13,d1,mkV,hA,go_sem]
  ·cases h
 ·cases h
end GP
namespace GP
open Go Go.Proofs
set_option maxRecDepth 100000
theorem plain_facts {k i : Int} {s : List UInt8} {n : Nat} (h : plainB k i s n = true) : n = 0 /\ (k = 3 -> i = 0) /\ (k ≠ 3 -> s = []) /\ 0 <= k /\ k <= 4:=by
 refine ⟨plain_leaf h,?_,?_,?_,?_⟩ <;> unfold plainB at h <;> grind
theorem cmpI_self (a : Int) : cmpI a a = 0:=by simp [cmpI]
theorem cmpI_ne {a b : Int} (h : a ≠ b) : cmpI a b ≠ 0:=by unfold cmpI;split <;> (try split) <;> omega
theorem or3_eq {a b : D} (ha : one1 a = true) (hb : one1 b = true) : or3 (cmpI (vk a) (vk b)) (cmpI (vi a) (vi b)) (cmpS (vs a) (vs b)) = singleD a b:=by
 obtain ⟨_,a1,a2,_⟩:=plain_facts ha
 obtain ⟨_,b1,b2,_⟩:=plain_facts hb
 simp only [or3,singleD,singleI]
 by_cases hk : vk a = vk b
 ·by_cases h3 : vk a = 3
  ·have e1:=a1 h3
   have e2:=b1 (by omega)
   simp [hk,cmpI_self,e1,e2,show vk b = 3 by omega]
  ·have e1:=a2 h3
   have e2:=b2 (by omega)
   have h3' : ¬ vk b = 3:=by omega
   simp only [hk,cmpI_self,e1,e2,cmpS]
   simp [h3']
   intro h;rw [h]
 ·have:=cmpI_ne hk
  simp [hk,this]
theorem ord_single {a b : D} (ha : one1 a = true) (hb : one1 b = true) (f : D -> D -> Int) : ordW f a b = singleD a b:=by
 have la : vl a = []:=List.length_eq_zero_iff.1 (plain_facts ha).1
 have lb : vl b = []:=List.length_eq_zero_iff.1 (plain_facts hb).1
 unfold ordW
 rw [or3_eq ha hb,la,lb]
 simp only [cmpL]
 split
 ·rfl
 ·rename_i h;simpa using Eq.symm (show singleD a b = 0 by simpa using h)
theorem okEl_same {xs : List D} {i : Nat} (hp : 0 < i -> okEl ord0 xs (i - 1) = true) : okEl ord0 xs i = okEl singleD xs i:=by
 unfold okEl
 cases hx : xs[i]? with
 | none=>rfl
 | some x =>
  simp only
  by_cases h0 : i = 0
  ·simp [h0]
  ·have hq:=hp (by omega)
   unfold okEl at hq
   cases hy : xs[i - 1]? with
   | none=>rfl
   | some y =>
    rw [hy] at hq
    simp only [Bool.and_eq_true] at hq
    by_cases h1 : one1 x = true
    ·have : ord0 y x = singleD y x:=ord_single hq.1.1.1 h1 f0
     simp only [this]
    ·simp [h1]
theorem adj_same (xs : List D) : ∀ n,(List.range n).all (okEl ord0 xs) = (List.range n).all (okEl singleD xs)
 | 0=>rfl
 | n + 1=>by
  rw [all_range_succ,all_range_succ,← adj_same xs n]
  cases hq : (List.range n).all (okEl ord0 xs) with
  | false=>rfl
  | true =>
   simp only [Bool.true_and]
   exact okEl_same fun h0=>List.all_eq_true.1 hq (n - 1) (by simp;omega)
theorem formed_same (d : D) : formedV d = formedB d:=by
 unfold formedV formedB
 have : adjB ord0 (vl d) = adjB singleD (vl d):=adj_same _ _
 rw [this]
 grind
end GP
namespace GP
open Go Go.Proofs
set_option maxRecDepth 100000
def sameEl (x y : D) : Bool:=(vk x == vk y) && (vi x == vi y) && (vs x == vs y) && !decide ((0 : Int) < (vl x).length) && !decide ((0 : Int) < (vl y).length)
def okSame (xs ys : List D) (i : Nat) : Bool:=match xs[i]?,ys[i]? with
 | some x,some y=>sameEl x y
 | _,_=>true
def sameB (a b : D) : Bool:=if (vk a != vk b) || (vi a != vi b) || (vs a != vs b) || !((vl a).length == (vl b).length) then false else (List.range (vl a).length).all (okSame (vl a) (vl b))
def φSame : List D -> Option D
 | [a,b]=>if a.isV = true /\ b.isV = true then some (.bool (sameB a b)) else none
 | _=>none
theorem bne_len (a b : Nat) : ((a : Int) != (b : Int)) = !(a == b):=by
 rw [Bool.eq_iff_iff];simp;omega
set_option maxHeartbeats 2000000 in
theorem ok54 [HasG Tryz.prog] : OkAt Tryz.prog 54 φSame:=by
 refine ok_of (l:=[]) .nil fn54 fun args r h=>?_
 unfold φSame at h
 split at h
 ·split at h
  ·rename_i a b hab
   injection h with h;subst h
   refine ⟨by simp,by simp [D.cl],fun H T=>?_⟩
   obtain ⟨ha,hb⟩:=hab
   obtain ⟨k1,i1,s1,n1,xs,rfl,z1,y1,hV1⟩:=isV_elim ha
   obtain ⟨k2,i2,s2,n2,ys,rfl,z2,y2,hV2⟩:=isV_elim hb
   have hS : sameB (mkV k1 i1 s1 n1 xs) (mkV k2 i2 s2 n2 ys) = if (k1 != k2) || (i1 != i2) || (s1 != s2) || !(xs.length == ys.length) then false else (List.range xs.length).all (okSame xs ys):=by simp only [sameB,vk_mk,vi_mk,vs_mk,vl_mk]
   rw [hS]
   have bl:=bne_len xs.length ys.length
   simp +contextual (maxSteps:=10000000) only [c54,mkV,bl,go_sem]
   intro q1 q2 q3 q4
   have hl : xs.length = ys.length:=by simpa using q4
   refine W_for (fun j s'=>s'.t 2 = .ptr H.length 0 /\ s'.t 3 = .ptr (H.length + 1) 0 /\ s'.t 5 = .int .i64 j /\ Ext (H ++ [.row [.int .i64 k1,.int .i64 i1,.str s1,sliceD n1 xs],.row [.int .i64 k2,.int .i64 i2,.str s2,sliceD n2 ys]]) s'.H /\ s'.T = T /\ j <= xs.length /\ (List.range j).all (okSame xs ys) = true) xs.length ⟨0,by simp [upd,argT,ext_self]⟩ (fun i s h=>h.2.2.2.2.2.1) ?_ (XL_mono _)
   rintro j ⟨t,B,T'⟩ ⟨h2,h3,h5,hE,rfl,hj,hc⟩
   simp only at h2 h3 h5 hE
   have b1:=hE.get (o:=H.length) (by simp;rfl)
   have b2:=hE.get (o:=H.length + 1) (by simp;rfl)
   by_cases ha : j < xs.length
   ·have d1 : decide ((j : Int) < xs.length) = true:=by simpa using ha
    obtain ⟨k3,i3,s3,n3,l3,e3,hs3,hx3,hV3,eL3⟩:=get_isV hV1 ha
    obtain ⟨k4,i4,s4,n4,l4,e4,hs4,hx4,hV4,eL4⟩:=get_isV hV2 (show j < ys.length by omega)
    have G : okSame xs ys j = ((k3 == k4) && (i3 == i4) && (s3 == s4) && !decide ((0 : Int) < l3.length) && !decide ((0 : Int) < l4.length)):=by
     simp only [okSame,e3,e4,sameEl,vk_mk,vi_mk,vs_mk,vl_mk]
    have bad : okSame xs ys j = false -> (List.range xs.length).all (okSame xs ys) = false:=fun h=>range_false_of h ha
    simp +contextual (maxSteps:=10000000) only [h2,h3,h5,d1,e3,e4,mkV,wrap_succ j (by omega),rdAt_E b1,rdAt_E b2,rdAt_Ea b1,rdAt_Ea b2,hE.ta,leaves_Ea hE.pre (ExtT.refl _),go_sem]
    simp only [List.all_append,hc,List.all_cons,List.all_nil,Bool.true_and,Bool.and_true,D.bool.injEq]
    rw [G] at bad ⊢
    clear G
    repeat' (first | apply And.intro | intro _)
    all_goals first | omega | grind
   ·have d1 : decide ((j : Int) < xs.length) = false:=by simpa using ha
    have hA : (List.range xs.length).all (okSame xs ys) = true:=by
     have : j = xs.length:=by omega
     subst this;exact hc
    simp +contextual (maxSteps:=10000000) only [h2,h3,h5,d1,mkV,hA,rdAt_E b1,rdAt_E b2,leaves_E hE.pre (ExtT.refl _),go_sem]
  ·cases h
 ·cases h
end GP
namespace GP
open Go Go.Proofs
set_option maxRecDepth 100000
def lex (p q : Int) : Int:=if p != 0 then p else q
structure Tr (p q r : Int) : Prop where
 le : p <= 0 -> q <= 0 -> r <= 0
 l1 : p < 0 -> q <= 0 -> r < 0
 l2 : p <= 0 -> q < 0 -> r < 0
 e1 : p = 0 -> r = q
 e2 : q = 0 -> r = p
theorem Tr.lex {p q r p' q' r' : Int} (h : Tr p q r) (k : p = 0 -> q = 0 -> Tr p' q' r') : Tr (lex p p') (lex q q') (lex r r'):=by
 obtain ⟨a1,a2,a3,a4,a5⟩:=h
 unfold GP.lex
 by_cases hp : p = 0
 ·by_cases hq : q = 0
  ·have hr : r = 0:=by rw [a4 hp,hq]
   subst hp;subst hq;subst hr
   simpa using k rfl rfl
  ·have hr : r = q:=a4 hp
   have hp' : (p != 0) = false:=by simp [hp]
   have hq' : (q != 0) = true:=by simp [hq]
   have hr' : (r != 0) = true:=by rw [hr];exact hq'
   rw [hp',hq',hr']
   simp only [Bool.false_eq_true,if_false,if_true]
   subst hr
   refine ⟨?_,?_,?_,?_,?_⟩ <;> omega
 ·have hp' : (p != 0) = true:=by simp [hp]
  rw [hp']
  by_cases hq : q = 0
  ·have hr : r = p:=a5 hq
   have hq' : (q != 0) = false:=by simp [hq]
   have hr' : (r != 0) = true:=by rw [hr];exact hp'
   rw [hq',hr']
   simp only [Bool.false_eq_true,if_false,if_true]
   subst hr
   refine ⟨?_,?_,?_,?_,?_⟩ <;> omega
  ·have hq' : (q != 0) = true:=by simp [hq]
   rw [hq']
   simp only [if_true]
   by_cases hr : r = 0
   ·refine ⟨?_,?_,?_,?_,?_⟩ <;> (try omega) <;> intro h1 h2 <;> (first | (have:=a2 (by omega) (by omega);omega) | omega)
   ·have hr' : (r != 0) = true:=by simp [hr]
    rw [hr'];simp only [if_true]
    exact ⟨a1,a2,a3,a4,a5⟩
theorem cmpI_tr (a b c : Int) : Tr (cmpI a b) (cmpI b c) (cmpI a c):=by
 unfold cmpI
 refine ⟨?_,?_,?_,?_,?_⟩ <;> (repeat' split) <;> omega
theorem cmpI_anti (a b : Int) : cmpI b a = - cmpI a b:=by unfold cmpI;(repeat' split) <;> omega
theorem cmpI_zero (a b : Int) : cmpI a b = 0 ↔ a = b:=by unfold cmpI;(repeat' split) <;> omega
theorem lex_anti {p q p' q' : Int} (h : p' = -p) (k : q' = -q) : lex p' q' = - lex p q:=by unfold lex;subst h;subst k;by_cases hp : p = 0 <;> simp [hp]
theorem lex_zero {p q : Int} : lex p q = 0 ↔ p = 0 /\ q = 0:=by unfold lex;by_cases hp : p = 0 <;> simp [hp]
theorem cmpS_lex (x y : UInt8) (a b : List UInt8) : cmpS (x :: a) (y :: b) = lex (cmpI x.toNat y.toNat) (cmpS a b):=by
 simp only [cmpS,lex,cmpI]
 by_cases h1 : x.toNat < y.toNat
 ·have : (x.toNat : Int) < y.toNat:=by omega
  simp [h1,this]
 ·by_cases h2 : y.toNat < x.toNat
  ·have e1 : ¬ (x.toNat : Int) < y.toNat:=by omega
   have e2 : (y.toNat : Int) < x.toNat:=by omega
   simp [h1,h2,e1,e2]
  ·have e1 : ¬ (x.toNat : Int) < y.toNat:=by omega
   have e2 : ¬ (y.toNat : Int) < x.toNat:=by omega
   simp [h1,h2,e1,e2]
theorem cmpS_tr : ∀ (a b c : List UInt8),Tr (cmpS a b) (cmpS b c) (cmpS a c)
 | [],[],[]=>⟨by simp [cmpS],by simp [cmpS],by simp [cmpS],by simp [cmpS],by simp [cmpS]⟩
 | [],[],_ :: _=>⟨by simp [cmpS],by simp [cmpS],by simp [cmpS],by simp [cmpS],by simp [cmpS]⟩
 | [],_ :: _,[]=>⟨by simp [cmpS],by simp [cmpS],by simp [cmpS],by simp [cmpS],by simp [cmpS]⟩
 | [],_ :: _,_ :: _=>⟨by simp [cmpS],by simp [cmpS],by simp [cmpS],by simp [cmpS],by simp [cmpS]⟩
 | _ :: _,[],[]=>⟨by simp [cmpS],by simp [cmpS],by simp [cmpS],by simp [cmpS],by simp [cmpS]⟩
 | _ :: _,[],_ :: _=>⟨by simp [cmpS],by simp [cmpS],by simp [cmpS],by simp [cmpS],by simp [cmpS]⟩
 | _ :: _,_ :: _,[]=>⟨by simp [cmpS],by simp [cmpS],by simp [cmpS],by simp [cmpS],by simp [cmpS]⟩
 | x :: a,y :: b,z :: c=>by
  rw [cmpS_lex,cmpS_lex,cmpS_lex]
  exact (cmpI_tr _ _ _).lex fun _ _=>cmpS_tr a b c
theorem cmpS_anti : ∀ (a b : List UInt8),cmpS b a = - cmpS a b
 | [],[]=>rfl
 | [],_ :: _=>rfl
 | _ :: _,[]=>rfl
 | x :: a,y :: b=>by rw [cmpS_lex,cmpS_lex];exact lex_anti (cmpI_anti _ _) (cmpS_anti a b)
theorem cmpS_zero : ∀ (a b : List UInt8),cmpS a b = 0 ↔ a = b
 | [],[]=>by simp [cmpS]
 | [],_ :: _=>by simp [cmpS]
 | _ :: _,[]=>by simp [cmpS]
 | x :: a,y :: b=>by
  rw [cmpS_lex,lex_zero,cmpI_zero,cmpS_zero a b]
  constructor
  ·rintro ⟨h1,h2⟩
   have : x = y:=UInt8.toNat_inj.1 (by omega)
   rw [this,h2]
  ·intro h;injection h with h1 h2;exact ⟨by rw [h1],h2⟩
theorem single_lex (a b : D) : singleD a b = lex (cmpI (vk a) (vk b)) (if vk a == 3 then cmpS (vs a) (vs b) else cmpI (vi a) (vi b)):=by
 unfold singleD singleI lex
 by_cases h : vk a = vk b
 ·simp [h,cmpI_self]
 ·simp [h,cmpI_ne h]
theorem single_tr (a b c : D) : Tr (singleD a b) (singleD b c) (singleD a c):=by
 rw [single_lex,single_lex,single_lex]
 refine (cmpI_tr _ _ _).lex fun h1 h2=>?_
 rw [cmpI_zero] at h1 h2
 rw [<- h1]
 split
 ·exact cmpS_tr _ _ _
 ·exact cmpI_tr _ _ _
theorem single_anti (a b : D) : singleD b a = - singleD a b:=by
 rw [single_lex,single_lex]
 by_cases h : vk a = vk b
 ·rw [h]
  refine lex_anti (cmpI_anti _ _) ?_
  split
  ·exact cmpS_anti _ _
  ·exact cmpI_anti _ _
 ·have h1:=cmpI_ne h
  have h2:=cmpI_ne (Ne.symm h)
  unfold lex
  simp only [bne_iff_ne,ne_eq,h1,not_false_eq_true,if_true,h2]
  exact cmpI_anti _ _
theorem single_zero {a b : D} (ha : one1 a = true) (hb : one1 b = true) : singleD a b = 0 ↔ vk a = vk b /\ vi a = vi b /\ vs a = vs b:=by
 obtain ⟨_,a1,a2,_⟩:=plain_facts ha
 obtain ⟨_,b1,b2,_⟩:=plain_facts hb
 rw [single_lex,lex_zero,cmpI_zero]
 by_cases h : vk a = vk b
 ·by_cases h3 : vk a = 3
  ·rw [a1 h3,b1 (by omega)]
   simp [h,show vk b = 3 by omega,cmpS_zero]
  ·rw [a2 h3,b2 (by omega)]
   have : ¬ vk b = 3:=by omega
   simp [h,this,cmpI_zero]
 ·simp [h]
end GP
