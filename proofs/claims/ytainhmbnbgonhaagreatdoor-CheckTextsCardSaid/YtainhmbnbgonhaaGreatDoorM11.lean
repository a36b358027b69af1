import Derived.Ground.NamesProg
import Derived.Shelf.Lay
import Derived.Shelf.Strconv.Itoa4
import Derived.Shelf.Strconv.ParseIntPublic10
import Derived.Test.YtainhmbnbgonhaaGreatDoorProg
import Derived.Test.YtainhmbnbgonhaaGreatDoorM10
set_option linter.unusedSimpArgs false
set_option linter.unnecessarySimpa false
namespace Go.Proofs
open Go.Shelf
shelf_lay LaysC.n174 Nm 174 at Tryz as Tryz.laysPI
theorem Tryz.parse_ok (s : ByteArray) (hmax : s.size <= 9223372036854775806) (v : Int) (h : Lib.parseIntB 64 s.data.toList = .ok v) (w : World) :
  Calls Tryz.prog 185 #[.string s,.int .i64 10,.int .i64 64] w fun e w'=>e = .returned (.tuple #[.int .i64 v,.nilIface]) /\ (w' = w ∨ ∃ t,w' = Lib.bytesWorld w 5 t):=Any.strconv_ParseInt_10_at64_ok Tryz.laysPI s hmax v h w
theorem Tryz.parse_range (s : ByteArray) (hlim : s.size <= 281474976710656) (h : Lib.parseIntB 64 s.data.toList = .range) (ev : Value) (w : World) (hv : w.cell? ⟨3,0,none⟩ = some ev) (hev : ev = .nilIface ∨ ∃ te pe,ev = .iface te pe) :
  Calls Tryz.prog 185 #[.string s,.int .i64 10,.int .i64 64] w fun e w'=>∃ N,e = .returned (.tuple #[.int .i64 (Lib.intSat 64 s.data.toList),.iface 220 (.pointer (some ⟨N,0,none⟩))]) /\ w.heap.size <= N /\ w'.heap[N]? = some (.cells #[.string ⟨#[80,97,114,115,101,73,110,116]⟩,.string s,ev] 231 (0,0)) /\ RowKit.Below w.heap.size w w':=Any.strconv_ParseInt_10_at64_range Tryz.laysPI s hlim h ev w hv hev
shelf_lay LaysM.n173 Nm 173 at Tryz as Tryz.laysFI
end Go.Proofs
namespace GP
open Go Go.Proofs
set_option maxRecDepth 100000
def iN (b : UInt8) : Bool:=aB (b.toNat : Int)
theorem xW {b : UInt8} : iN b = true ↔ 48 <= b.toNat /\ b.toNat <= 57:=by
 unfold iN aB;simp only [Bool.and_eq_true,decide_eq_true_eq];omega
def sL (acc : Nat) (l : List UInt8) : Nat:=l.foldl (fun n b=>n * 10 + (b.toNat - 48)) acc
def dP (l : List UInt8) : Nat:=sL 0 l
theorem Ml (n : Nat) : 10 ^ (n + 1) = 10 ^ n * 10:=Nat.pow_succ 10 n
theorem qA : ∀ (l : List UInt8) (acc : Nat),(∀ b ∈ l,iN b = true) -> (acc + 1) * 10 ^ l.length <= 10 ^ 19 -> Lib.parseUintM (2 ^ 64 - 1) acc l = .ok (sL acc l) /\ sL acc l + 1 <= (acc + 1) * 10 ^ l.length
 | [],acc,_,_=>by simp [Lib.parseUintM,sL]
 | c :: r,acc,hd,hb=>by
  have hc:=xW.1 (hd c (by simp))
  simp only [List.length_cons,Ml] at hb ⊢
  have hp : 1 <= 10 ^ r.length:=Nat.one_le_pow _ _ (by decide)
  have h2 : (acc * 10 + (c.toNat - 48) + 1) * 10 ^ r.length <= (acc + 1) * (10 ^ r.length * 10):=by
   have : acc * 10 + (c.toNat - 48) + 1 <= (acc + 1) * 10:=by omega
   calc (acc * 10 + (c.toNat - 48) + 1) * 10 ^ r.length <= ((acc + 1) * 10) * 10 ^ r.length:=Nat.mul_le_mul_right _ this
    _ = (acc + 1) * (10 ^ r.length * 10):=by rw [Nat.mul_assoc,Nat.mul_comm 10]
  have h1 : acc + 1 <= 10 ^ 18:=by
   have : (acc + 1) * 10 <= (acc + 1) * (10 ^ r.length * 10):=Nat.mul_le_mul_left _ (by omega)
   omega
  obtain ⟨i1,i2⟩:=qA r (acc * 10 + (c.toNat - 48)) (fun b hb=>hd b (by simp [hb])) (Nat.le_trans h2 hb)
  refine ⟨?_,Nat.le_trans i2 h2⟩
  simp only [Lib.parseUintM]
  rw [if_pos hc,if_neg (by omega),if_neg (by omega)]
  exact i1
theorem EW {l : List UInt8} (hd : ∀ b ∈ l,iN b = true) (h2 : l.length <= 19) : dP l < 10 ^ l.length:=by
 have:=(qA l 0 hd (by simpa using Nat.pow_le_pow_right (by decide) h2)).2
 unfold dP;omega
theorem HT {l : List UInt8} (hd : ∀ b ∈ l,iN b = true) (h1 : 1 <= l.length) (h2 : l.length <= 19) :
  Lib.parseIntB 64 l = (if dP l < 2 ^ 63 then .ok (dP l : Int) else .range) /\ Lib.intSat 64 l = 2 ^ 63 - 1:=by
 cases l with
 | nil=>simp at h1
 | cons c r =>
  have hc:=xW.1 (hd c (by simp))
  have hu:=(qA (c :: r) 0 hd (by simpa using Nat.pow_le_pow_right (n:=10) (by decide) h2)).1
  refine ⟨?_,by rw [Lib.intSat_other 64 c r (by omega)];decide⟩
  rw [Lib.parseIntB_plain 64 c r (by omega) (by omega)]
  unfold Lib.parseUintB
  rw [if_neg (by simp),hu]
  unfold dP
  by_cases h : sL 0 (c :: r) < 2 ^ 63
  ·rw [if_pos h];simp only [Lib.signlessC];rw [if_neg (by simpa using h)]
  ·rw [if_neg h];simp only [Lib.signlessC];rw [if_pos (by simp;omega)]
def GR (l : List UInt8) : D:=if decide (dP l < 2 ^ 63) then .tup [.int .i64 (dP l : Int),.nili] else .tup [.int .i64 9223372036854775807,.ifc 220 .top]
noncomputable def Ad : List D -> Option D
 | [.str l,.int .i64 b,.int .i64 z]=>if b = 10 /\ z = 64 /\ (∀ b ∈ l,iN b = true) /\ 1 <= l.length /\ l.length <= 19 then some (GR l) else none
 | _=>none
theorem Sj {c : Cx} {l : List UInt8} {a b : Int} {vs : List Value} (h : Reps c [.str l,.int .i64 a,.int .i64 b] vs) : vs = [.string ⟨l.toArray⟩,.int .i64 a,.int .i64 b]:=by
 match vs,h.len with
 | [x,y,z],_ =>
  have h1:=h.rep 0 (by simp) (by simp)
  have h2:=h.rep 1 (by simp) (by simp)
  have h3:=h.rep 2 (by simp) (by simp)
  simp only [List.getElem_cons_zero,List.getElem_cons_succ] at h1 h2 h3
  cases h1;cases h2;cases h3;rfl
theorem Fi (w : World) (t : TypeId) (s : ByteArray) : Below (false,w.heap.size) w (Lib.bytesWorld w t s):=Below.of_kit (Lib.bytesWorld_below w t s)
theorem Ve : aO Tryz.prog 185 Ad:=by
 refine RX fun args r h c w vs hg hr=>?_
 unfold Ad at h
 split at h
 ·rename_i l b z
  split at h
  ·rename_i hv
   obtain ⟨rfl,rfl,hd,h1,h2⟩:=hv
   injection h with h;subst h
   have e:=Sj hr
   subst e
   obtain ⟨i1,i2⟩:=HT hd h1 h2
   have e50 : ∀ args w,(callFunc 185 args).run Tryz.prog w = .ok (.enter 185 args) w:=enters_of Tryz.func185 (by kernel_rfl) rfl
   refine ⟨e50 _ _,?_⟩
   have hsz : (⟨l.toArray⟩ : ByteArray).size = l.length:=by simp [ByteArray.size]
   have hdl : (⟨l.toArray⟩ : ByteArray).data.toList = l:=by simp
   by_cases hlt : dP l < 2 ^ 63
   ·rw [if_pos hlt] at i1
    refine (Tryz.parse_ok ⟨l.toArray⟩ (by rw [hsz];omega) (dP l) (by rw [hdl];exact i1) w).mono ?_
    rintro e w' ⟨rfl,hw⟩
    refine ⟨_,rfl,?_,?_⟩
    ·unfold GR;rw [if_pos (by simpa using hlt)]
     refine Rep.tup [.int .i64 (dP l : Int),.nili] [.int .i64 (dP l : Int),.nilIface] rfl fun i h h'=>?_
     match i,h with
     | 0,_=>exact .int _ _
     | 1,_=>exact .nili
    ·rcases hw with rfl | ⟨t,rfl⟩
     ·exact Below.refl _ _
     ·exact Fi w 5 t
   ·rw [if_neg hlt] at i1
    obtain ⟨_,_,_,te,pe,hev⟩:=hg
    refine (Tryz.parse_range ⟨l.toArray⟩ (by rw [hsz];omega) (by rw [hdl];exact i1) (.iface te pe) w hev (.inr ⟨te,pe,rfl⟩)).mono ?_
    rintro e w' ⟨N,rfl,_,_,hb⟩
    refine ⟨_,rfl,?_,Below.of_kit hb⟩
    unfold GR;rw [if_neg (by simpa using hlt),hdl,i2]
    refine Rep.tup [.int .i64 9223372036854775807,.ifc 220 .top] [.int .i64 (2 ^ 63 - 1),.iface 220 (.pointer (some ⟨N,0,none⟩))] rfl fun i h h'=>?_
    match i,h with
    | 0,_=>exact .int _ _
    | 1,_=>exact .ifc _ _ _ (.top _)
  ·cases h
 ·cases h
theorem A2n : E2 .ifc .nili .nili = some true:=rfl
theorem A2o (t : TypeId) (d : D) : E2 .ifc (.ifc t d) .nili = some false:=rfl
def QZ (l : List UInt8) (a n : Nat) : Bool:=decide (n < 1) || decide (19 < n) || (match l[a + n]? with | some b=>fL b.toNat | none=>false)
def p8 (l : List UInt8) (a : Nat) (most : Int) : Int × Nat :=
 if QZ l a (eX aB l a) || decide (most < (dP (aP l a (a + eX aB l a)) : Int)) then (0,0) else ((dP (aP l a (a + eX aB l a)) : Int),eX aB l a)
def sH (p : Int × Nat) : D:=.tup [.int .i64 p.1,.int .i64 (p.2 : Nat)]
theorem PJ (p : Int × Nat) : (sH p).cl 0 0 = true:=by simp [sH,D.cl,D.clL]
def zG : List D -> Option D
 | [.str l,.int .i64 a,.int .i64 most]=>if 0 <= a /\ a <= l.length /\ l.length <= 2 ^ 60 /\ most < 2 ^ 63 then some (sH (p8 l a.toNat most)) else none
 | _=>none
theorem vZ {p : Int -> Bool} : ∀ (l : List UInt8),∀ b ∈ l.take (aX p l),p b.toNat = true
 | [],b,h=>by simp at h
 | c :: r,b,h=>by
  unfold aX at h
  simp only [List.takeWhile_cons] at h
  split at h
  ·rename_i hc
   simp only [List.length_cons,List.take_succ_cons,List.mem_cons] at h
   rcases h with rfl | h
   ·exact hc
   ·exact vZ r b h
  ·simp at h
theorem qZ (l : List UInt8) (a n : Nat) : aP l a (a + n) = (l.drop a).take n:=by
 unfold aP;rw [List.drop_take];congr 1;omega
theorem Hj (l : List UInt8) (a : Nat) : ∀ b ∈ aP l a (a + eX aB l a),iN b = true:=by
 rw [qZ];exact vZ (p:=aB) (l.drop a)
theorem OT {l : List UInt8} {a n : Nat} (h : a + n <= l.length) : (aP l a (a + n)).length = n:=by
 rw [qZ];simp;omega
set_option maxHeartbeats 4000000 in
theorem UE : aO Tryz.prog 149 zG:=by
 refine aG (l:=[(144,kC),(147,φb fL),(185,Ad)]) (.cons JF (.cons Mt (.cons Ve .nil))) UK fun args r h=>?_
 unfold zG at h
 split at h
 ·rename_i l a most
  split at h
  ·rename_i hc
   obtain ⟨ha0,ha,hl,hm⟩:=hc
   injection h with h;subst h
   obtain ⟨a,rfl⟩ : ∃ k : Nat,a = (k : Int):=⟨a.toNat,by omega⟩
   have ha : a <= l.length:=by omega
   refine ⟨by simp,PJ _,fun H T=>?_⟩
   rw [show ((a : Int)).toNat = a from by omega]
   have pr : kC [.str l,.int .i64 (a : Int),.fn 148 [] []] = some (.int .i64 (eX aB l a : Nat)):=by
    simp only [kC];rw [show zA 148 = some aB from rfl];simp only;rw [if_pos ⟨by omega,by omega,by omega⟩];simp
   have hle:=vJ aB l a ha
   have hdg:=Hj l a
   have hsl:=OT hle
   unfold p8 QZ
   obtain ⟨n,hn⟩ : ∃ n,eX aB l a = n:=⟨_,rfl⟩
   rw [hn] at pr hle hdg hsl ⊢
   have wS : IntKind.i64.wrap ((a : Int) + (n : Int)) = ((a + n : Nat) : Int):=by rw [iS (by omega) (by omega)];omega
   by_cases n1 : n < 1
   ·have d1 : decide ((n : Int) < 1) = true:=by simp only [decide_eq_true_eq];omega
    rw [if_pos (by simp [n1])]
    simp +contextual only [CF,pr,d1,sH,go_sem]
   have d1 : decide ((n : Int) < 1) = false:=by simp only [decide_eq_false_iff_not];omega
   by_cases n2 : 19 < n
   ·have d2 : decide ((19 : Int) < n) = true:=by simp only [decide_eq_true_eq];omega
    rw [if_pos (by simp [n2])]
    simp +contextual only [CF,pr,d1,d2,sH,go_sem]
   have d2 : decide ((19 : Int) < n) = false:=by simp only [decide_eq_false_iff_not];omega
   have pi : Ad [.str (aP l a (a + n)),.int .i64 10,.int .i64 64] = some (GR (aP l a (a + n))):=by
    simp only [Ad];rw [if_pos ⟨trivial,trivial,hdg,by omega,by omega⟩]
   have hs : sub (some (a : Int)) (some ((a + n : Nat) : Int)) (.str l) = some (.str (aP l a (a + n))):=by
    rw [zH,if_pos ⟨by omega,by omega,by omega⟩,show (((a + n : Nat) : Int)).toNat = a + n from by omega,show ((a : Int)).toNat = a from by omega]
   have last : ∀ (hb : (match l[a + n]? with | some b=>fL b.toNat | none=>false) = false),(if (decide (n < 1) || decide (19 < n) || (match l[a + n]? with | some b=>fL b.toNat | none=>false)) || decide (most < (dP (aP l a (a + n)) : Int)) then ((0,0) : Int × Nat) else ((dP (aP l a (a + n)) : Int),n)) = if decide (most < (dP (aP l a (a + n)) : Int)) then (0,0) else ((dP (aP l a (a + n)) : Int),n):=fun hb=>by
    rw [hb];simp [n1,n2]
   have big : ¬ dP (aP l a (a + n)) < 2 ^ 63 -> decide (most < (dP (aP l a (a + n)) : Int)) = true:=fun h=>by simp only [decide_eq_true_eq];omega
   obtain ⟨v,hv⟩ : ∃ v,dP (aP l a (a + n)) = v:=⟨_,rfl⟩
   unfold GR at pi
   rw [hv] at pi last big ⊢
   clear hv
   by_cases n3 : a + n < l.length
   ·have d3 : decide (((a + n : Nat) : Int) < l.length) = true:=by simp only [decide_eq_true_eq];omega
    have ex : l[a + n]? = some l[a + n]:=by simp [n3]
    obtain ⟨b,hb⟩ : ∃ b,l[a + n] = b:=⟨_,rfl⟩
    rw [hb] at ex
    rw [ex] at last ⊢
    simp only at last ⊢
    have ix:=fun q=>dU ex q
    have q : φb fL [.int .u8 (b.toNat : Int)] = some (.bool (fL b.toNat)):=rfl
    rcases tf (fL (b.toNat : Int)) with g | g
    ·rw [if_pos (by simp [g])]
     simp +contextual only [CF,pr,d1,d2,wS,d3,ix,q,g,sH,go_sem]
    ·rw [last g]
     by_cases hlt : v < 2 ^ 63
     ·rw [if_pos (by simpa using hlt)] at pi
      rcases tf (decide (most < (v : Int))) with g2 | g2
      ·rw [g2];simp +contextual only [CF,pr,d1,d2,wS,d3,ix,q,g,hs,pi,A2n,A2o,g2,sH,go_sem]
      ·rw [g2];simp +contextual only [CF,pr,d1,d2,wS,d3,ix,q,g,hs,pi,A2n,A2o,g2,sH,go_sem]
     ·rw [if_neg (by simpa using hlt)] at pi
      rw [big hlt]
      simp +contextual only [CF,pr,d1,d2,wS,d3,ix,q,g,hs,pi,A2n,A2o,sH,go_sem]
   ·have d3 : decide (((a + n : Nat) : Int) < l.length) = false:=by simp only [decide_eq_false_iff_not];omega
    have ex : l[a + n]? = none:=List.getElem?_eq_none (by omega)
    rw [ex] at last ⊢
    simp only at last ⊢
    rw [last trivial]
    by_cases hlt : v < 2 ^ 63
    ·rw [if_pos (by simpa using hlt)] at pi
     rcases tf (decide (most < (v : Int))) with g2 | g2
     ·rw [g2];simp +contextual only [CF,pr,d1,d2,wS,d3,hs,pi,A2n,A2o,g2,sH,go_sem]
     ·rw [g2];simp +contextual only [CF,pr,d1,d2,wS,d3,hs,pi,A2n,A2o,g2,sH,go_sem]
    ·rw [if_neg (by simpa using hlt)] at pi
     rw [big hlt]
     simp +contextual only [CF,pr,d1,d2,wS,d3,hs,pi,A2n,A2o,sH,go_sem]
  ·cases h
 ·cases h
end GP
namespace GP
open Go Go.Proofs
set_option maxRecDepth 100000
def mkT (k : Int) (s : List UInt8) (n : Int) : D:=.agg [.int .i64 k,.str s,.int .i64 n]
theorem EN {l : List UInt8} {a : Nat} {m : Int} (h : a <= l.length) : a + (p8 l a m).2 <= l.length:=by
 have:=vJ aB l a h
 unfold p8;split
 ·simpa using h
 ·exact this
theorem E5 : ∀ (n : Nat) (l out : List UInt8) (k : Nat),l.length <= n -> (oN l out k).2 <= k + l.length
 | _,[],out,k,_=>by rw [vD];simp
 | 0,_ :: _,_,_,h=>by simp at h
 | n + 1,c :: r,out,k,h=>by
  rw [sA]
  split
  ·simp
  split
  ·cases r with
   | nil=>simp
   | cons d r =>
    simp only
    split
    ·simp
    split
    ·simp
    ·have:=E5 n r (out ++ [d]) (k + 2) (by simp at h ⊢;omega)
     simp only [List.length_cons] at this ⊢;omega
  split
  ·simp
  split
  ·simp
  ·have:=E5 n r (out ++ [c]) (k + 1) (by simp at h;omega)
   simp only [List.length_cons] at this ⊢;omega
theorem P8 {l : List UInt8} {a : Nat} (h : a < l.length) : a + (CC l a).2 <= l.length:=by
 have:=E5 _ (l.drop (a + 1)) [] 1 (Nat.le_refl _)
 unfold CC;simp only [List.length_drop] at this;omega
def wE (l : List UInt8) (a : Nat) : D × Nat:=match cN.find? (nT (l.drop a)) with
 | some x=>(mkT 5 x 0,x.length)
 | none=>(mkT 0 [] 0,0)
def E3 (c : UInt8) (l : List UInt8) (a : Nat) : D × Nat :=
 if decide ((97 : Int) <= c.toNat) && decide ((c.toNat : Int) <= 122) then (if decide ((64 : Int) < (eX b9 l a : Nat)) then (mkT 0 [] 0,0) else (mkT 1 (aP l a (a + eX b9 l a)) 0,eX b9 l a))
 else if aB c.toNat then (mkT 2 [] (p8 l a 9223372036854775807).1,(p8 l a 9223372036854775807).2)
 else if c == 64 then (if ((p8 l (a + 1) 1099511627776).2 : Int) == 0 then (mkT 0 [] 0,0) else (mkT 4 [] (p8 l (a + 1) 1099511627776).1,(p8 l (a + 1) 1099511627776).2 + 1))
 else if c == 34 then (mkT 3 (CC l a).1 0,(CC l a).2)
 else wE l a
def oH (l : List UInt8) (a : Nat) : D × Nat:=match l[a]? with
 | some c=>E3 c l a
 | none=>(mkT 0 [] 0,0)
def lM (d : D) : Prop:=∃ k s n,d = mkT k s n
theorem MZ (c : UInt8) (l : List UInt8) (a : Nat) : lM (E3 c l a).1:=by
 unfold E3 wE
 repeat' split
 all_goals exact ⟨_,_,_,rfl⟩
def nI (p : D × Nat) : D:=.tup [p.1,.int .i64 (p.2 : Nat)]
theorem PN {p : D × Nat} (h : lM p.1) : (nI p).cl 0 0 = true:=by
 obtain ⟨k,s,n,e⟩:=h
 simp [nI,e,mkT,D.cl,D.clL]
theorem L7 {l p : List UInt8} (h : nT l p = true) : p.length <= l.length:=by
 unfold nT at h
 have h : l.take p.length = p:=by simpa using h
 have:=congrArg List.length h
 simp at this;omega
theorem OX {c : UInt8} {l : List UInt8} {a : Nat} (h : a < l.length) : a + (E3 c l a).2 <= l.length:=by
 have h1:=vJ b9 l a (by omega)
 have h2:=EN (l:=l) (a:=a) (m:=9223372036854775807) (by omega)
 have h3:=EN (l:=l) (a:=a + 1) (m:=1099511627776) (by omega)
 have h4:=P8 h
 unfold E3
 split
 ·split
  ·simp;omega
  ·exact h1
 split
 ·exact h2
 split
 ·split
  ·simp;omega
  ·simp only;omega
 split
 ·exact h4
 ·unfold wE
  split
  ·rename_i x hx
   have:=L7 (List.find?_some hx)
   simp only [List.length_drop] at this ⊢;omega
  ·simp;omega
theorem Dv {l : List UInt8} {a : Nat} (h : a < l.length) : oH l a = E3 l[a] l a:=by
 unfold oH;rw [List.getElem?_eq_getElem h]
def GD : List D -> Option D
 | [.str l,.int .i64 a]=>if 0 <= a /\ a < l.length /\ l.length <= 2 ^ 60 then some (nI (oH l a.toNat)) else none
 | _=>none
theorem JE {j : Nat} (h : j < 18) : ∃ x,(cN.map D.str)[j]? = some (.str x) /\ cN[j]? = some x:=by
 have hl : j < cN.length:=h
 exact ⟨cN[j],by simp [hl],by simp [hl]⟩
theorem Ii {α : Type} {p : α -> Bool} {xs : List α} {i : Nat} {x : α} (hx : xs[i]? = some x) (h : (xs.take i).find? p = none) (hp : p x = false) : (xs.take (i + 1)).find? p = none:=by
 rw [List.take_add_one,hx];simp [h,hp]
theorem Ez {α : Type} {p : α -> Bool} {xs : List α} {i : Nat} {x : α} (hx : xs[i]? = some x) (h : (xs.take i).find? p = none) (hp : p x = true) : xs.find? p = some x:=by
 have hi : i < xs.length:=by
  rcases Nat.lt_or_ge i xs.length with h' | h'
  ·exact h'
  ·rw [List.getElem?_eq_none h'] at hx;cases hx
 have e : xs = xs.take i ++ x :: xs.drop (i + 1):=by
  have : x = xs[i]:=by simpa [hi] using hx.symm
  subst this
  simp
 rw [e,List.find?_append,h]
 simp [hp]
set_option maxHeartbeats 8000000 in
theorem A1c : aO Tryz.prog 92 GD:=by
 refine aG (l:=[(144,kC),(148,φb aB),(149,zG),(150,yF),(151,o9),(152,sS)]) (.cons JF (.cons Ir (.cons UE (.cons Xj (.cons Ps (.cons WN .nil)))))) A1p fun args r h=>?_
 unfold GD at h
 split at h
 ·rename_i l a
  split at h
  ·rename_i hc
   obtain ⟨ha0,ha,hl⟩:=hc
   injection h with h;subst h
   obtain ⟨a,rfl⟩ : ∃ k : Nat,a = (k : Int):=⟨a.toNat,by omega⟩
   have ha : a < l.length:=by omega
   rw [show ((a : Int)).toNat = a from by omega,Dv ha]
   refine ⟨by simp,PN (MZ _ _ _),fun H T=>?_⟩
   have ex : l[a]? = some l[a]:=by simp [ha]
   obtain ⟨c,hb⟩ : ∃ b,l[a] = b:=⟨_,rfl⟩
   rw [hb] at ex ⊢
   have ix:=fun q=>dU ex q
   have pr : kC [.str l,.int .i64 (a : Int),.fn 146 [] []] = some (.int .i64 (eX b9 l a : Nat)):=by
    simp only [kC];rw [show zA 146 = some b9 from rfl];simp only;rw [if_pos ⟨by omega,by omega,by omega⟩];simp
   have hle:=vJ b9 l a (by omega)
   have e1 : ((c.toNat : Int) == 64) = (c == 64):=eM c 64 (by decide)
   have e2 : ((c.toNat : Int) == 34) = (c == 34):=eM c 34 (by decide)
   unfold E3
   have lets : ∀ {X : D × Nat},True:=trivial
   rcases tf (decide ((97 : Int) <= c.toNat) && decide ((c.toNat : Int) <= 122)) with g | g
   ·rw [if_pos g]
    simp only [Bool.and_eq_true] at g
    obtain ⟨g1,g2⟩:=g
    obtain ⟨n,hn⟩ : ∃ n,eX b9 l a = n:=⟨_,rfl⟩
    rw [hn] at pr hle ⊢
    rcases tf (decide ((64 : Int) < (n : Nat))) with g3 | g3
    ·rw [if_pos g3]
     simp +contextual only [c92,ix,g1,g2,pr,g3,nI,mkT,go_sem]
    ·rw [if_neg (by rw [g3];decide)]
     have wS : IntKind.i64.wrap ((a : Int) + (n : Int)) = ((a + n : Nat) : Int):=by rw [iS (by omega) (by omega)];omega
     have hs : sub (some (a : Int)) (some ((a + n : Nat) : Int)) (.str l) = some (.str (aP l a (a + n))):=by
      rw [zH,if_pos ⟨by omega,by omega,by omega⟩,show (((a + n : Nat) : Int)).toNat = a + n from by omega,show ((a : Int)).toNat = a from by omega]
     simp +contextual only [c92,ix,g1,g2,pr,g3,wS,hs,nI,mkT,go_sem]
   rw [if_neg (by rw [g];decide)]
   have pd : φb aB [.int .u8 (c.toNat : Int)] = some (.bool (aB c.toNat)):=rfl
   have G : (decide ((97 : Int) <= c.toNat) = true /\ decide ((c.toNat : Int) <= 122) = false) ∨ decide ((97 : Int) <= c.toNat) = false:=by
    rcases tf (decide ((97 : Int) <= c.toNat)) with h | h
    ·rw [h] at g;exact .inl ⟨h,by simpa using g⟩
    ·exact .inr h
   rcases tf (aB (c.toNat : Int)) with g3 | g3
   ·rw [if_pos g3]
    have pn : zG [.str l,.int .i64 (a : Int),.int .i64 9223372036854775807] = some (sH (p8 l a 9223372036854775807)):=by
     simp only [zG];rw [if_pos ⟨by omega,by omega,by omega,by decide⟩];simp
    obtain ⟨⟨v,n⟩,hn⟩ : ∃ z,p8 l a 9223372036854775807 = z:=⟨_,rfl⟩
    simp only [hn,sH] at pn ⊢
    rcases G with ⟨g1,g2⟩ | g1
    ·simp +contextual only [c92,ix,g1,g2,pd,g3,pn,nI,mkT,go_sem]
    ·simp +contextual only [c92,ix,g1,pd,g3,pn,nI,mkT,go_sem]
   rw [if_neg (by rw [g3];decide)]
   rcases tf (c == 64) with g4 | g4
   ·rw [if_pos g4]
    have pn : zG [.str l,.int .i64 ((a + 1 : Nat) : Int),.int .i64 1099511627776] = some (sH (p8 l (a + 1) 1099511627776)):=by
     simp only [zG];rw [if_pos ⟨by omega,by omega,by omega,by decide⟩,show (((a + 1 : Nat) : Int)).toNat = a + 1 from by omega]
    have nle:=EN (l:=l) (a:=a + 1) (m:=1099511627776) (by omega)
    have wa:=bT a (by omega)
    obtain ⟨⟨v,n⟩,hn⟩ : ∃ z,p8 l (a + 1) 1099511627776 = z:=⟨_,rfl⟩
    simp only [hn,sH] at pn nle ⊢
    have wn:=bT n (by omega)
    rcases tf ((n : Int) == 0) with g5 | g5
    ·rw [if_pos g5]
     rcases G with ⟨g1,g2⟩ | g1
     ·simp +contextual only [c92,ix,g1,g2,pd,g3,e1,g4,wa,pn,g5,nI,mkT,go_sem]
     ·simp +contextual only [c92,ix,g1,pd,g3,e1,g4,wa,pn,g5,nI,mkT,go_sem]
    ·rw [if_neg (by rw [g5];decide)]
     rcases G with ⟨g1,g2⟩ | g1
     ·simp +contextual only [c92,ix,g1,g2,pd,g3,e1,g4,wa,pn,g5,wn,nI,mkT,go_sem]
     ·simp +contextual only [c92,ix,g1,pd,g3,e1,g4,wa,pn,g5,wn,nI,mkT,go_sem]
   rw [if_neg (by rw [g4];decide)]
   rcases tf (c == 34) with g5 | g5
   ·rw [if_pos g5]
    have pt : yF [.str l,.int .i64 (a : Int)] = some (wQ (CC l a)):=by
     simp only [yF];rw [if_pos ⟨by omega,by omega,by omega⟩];simp
    obtain ⟨⟨v,n⟩,hn⟩ : ∃ z,CC l a = z:=⟨_,rfl⟩
    simp only [hn,wQ] at pt ⊢
    rcases G with ⟨g1,g2⟩ | g1
    ·simp +contextual only [c92,ix,g1,g2,pd,g3,e1,g4,e2,g5,pt,nI,mkT,go_sem]
    ·simp +contextual only [c92,ix,g1,pd,g3,e1,g4,e2,g5,pt,nI,mkT,go_sem]
   rw [if_neg (by rw [g5];decide)]
   have ps : o9 [] = some (.sl none (cN.map .str)):=rfl
   have eS : D.eraseL (cN.map D.str) = cN.map D.str:=rfl
   have lS : (cN.map D.str).length = 18:=rfl
   have hs : sub (some (a : Int)) (some (l.length : Int)) (.str l) = some (.str (l.drop a)):=by
    rw [zH,if_pos ⟨by omega,by omega,by omega⟩];simp [aP]
   have G' : W (XL [(144,kC),(148,φb aB),(149,zG),(150,yF),(151,o9),(152,sS)]) c92 (mW [.inr (4,true,3),.inl 5] (i5 (nI (wE l a)) H T)) ⟨bF [.str l,.int .i64 (a : Int)],H,T⟩:=by
    obtain ⟨SB,hSB⟩ : ∃ z,cN.map D.str = z:=⟨_,rfl⟩
    rw [hSB] at ps eS lS
    rcases G with ⟨g1,g2⟩ | g1
    ·simp +contextual only [c92,ix,g1,g2,pd,g3,e1,g4,e2,g5,ps,eS,lS,go_sem]
     refine bG (fun j s'=>s'.t 0 = .str l /\ s'.t 1 = .int .i64 a /\ s'.t 4 = .ptr H.length 0 /\ s'.t 81 = .sl none SB /\ s'.t 82 = .int .i64 18 /\ s'.t 83 = .int .i64 (j : Nat) /\ s'.H = H ++ [.row [.int .i64 0,.str [],.int .i64 0]] /\ s'.T = T /\ j <= 18 /\ (cN.take j).find? (nT (l.drop a)) = none) 18 ⟨0,by simp [upd,bF]⟩ (fun i s h=>h.2.2.2.2.2.2.2.2.1) ?_ (aI _)
     rintro j ⟨t,B,T'⟩ ⟨r0,r1,r4,r81,r82,r83,rfl,rfl,hj,hc⟩
     simp only at r0 r1 r4 r81 r82 r83
     by_cases hlt : j < 18
     ·have d1 : decide (((j : Nat) : Int) < 18) = true:=by simp only [decide_eq_true_eq];omega
      obtain ⟨x,f1,f2⟩:=JE hlt
      rw [hSB] at f1
      have pp : sS [.str (l.drop a),.str x] = some (.bool (nT (l.drop a) x)):=rfl
      have nx:=fun hp=>Ii (p:=nT (l.drop a)) f2 hc hp
      have at':=fun hp=>Ez (p:=nT (l.drop a)) f2 hc hp
      rcases tf (nT (l.drop a) x) with q | q
      ·have hT : wE l a = (mkT 5 x 0,x.length):=by unfold wE;rw [at' q]
       rw [hT]
       simp +contextual only [r0,r1,r4,r81,r82,r83,d1,f1,hs,pp,q,nI,mkT,go_sem]
      ·have nx:=nx q
       simp +contextual only [r0,r1,r4,r81,r82,r83,d1,f1,hs,pp,q,bT j (by omega),go_sem]
       exact ⟨by omega,nx⟩
     ·have d1 : decide (((j : Nat) : Int) < 18) = false:=by simp only [decide_eq_false_iff_not];omega
      have hT : wE l a = (mkT 0 [] 0,0):=by
       have : j = cN.length:=by show j = 18;omega
       subst this;rw [List.take_length] at hc
       unfold wE;rw [hc]
      rw [hT]
      simp +contextual only [r0,r1,r4,r81,r82,r83,d1,nI,mkT,go_sem]
    ·simp +contextual only [c92,ix,g1,pd,g3,e1,g4,e2,g5,ps,eS,lS,go_sem]
     refine bG (fun j s'=>s'.t 0 = .str l /\ s'.t 1 = .int .i64 a /\ s'.t 4 = .ptr H.length 0 /\ s'.t 81 = .sl none SB /\ s'.t 82 = .int .i64 18 /\ s'.t 83 = .int .i64 (j : Nat) /\ s'.H = H ++ [.row [.int .i64 0,.str [],.int .i64 0]] /\ s'.T = T /\ j <= 18 /\ (cN.take j).find? (nT (l.drop a)) = none) 18 ⟨0,by simp [upd,bF]⟩ (fun i s h=>h.2.2.2.2.2.2.2.2.1) ?_ (aI _)
     rintro j ⟨t,B,T'⟩ ⟨r0,r1,r4,r81,r82,r83,rfl,rfl,hj,hc⟩
     simp only at r0 r1 r4 r81 r82 r83
     by_cases hlt : j < 18
     ·have d1 : decide (((j : Nat) : Int) < 18) = true:=by simp only [decide_eq_true_eq];omega
      obtain ⟨x,f1,f2⟩:=JE hlt
      rw [hSB] at f1
      have pp : sS [.str (l.drop a),.str x] = some (.bool (nT (l.drop a) x)):=rfl
      have nx:=fun hp=>Ii (p:=nT (l.drop a)) f2 hc hp
      have at':=fun hp=>Ez (p:=nT (l.drop a)) f2 hc hp
      rcases tf (nT (l.drop a) x) with q | q
      ·have hT : wE l a = (mkT 5 x 0,x.length):=by unfold wE;rw [at' q]
       rw [hT]
       simp +contextual only [r0,r1,r4,r81,r82,r83,d1,f1,hs,pp,q,nI,mkT,go_sem]
      ·have nx:=nx q
       simp +contextual only [r0,r1,r4,r81,r82,r83,d1,f1,hs,pp,q,bT j (by omega),go_sem]
       exact ⟨by omega,nx⟩
     ·have d1 : decide (((j : Nat) : Int) < 18) = false:=by simp only [decide_eq_false_iff_not];omega
      have hT : wE l a = (mkT 0 [] 0,0):=by
       have : j = cN.length:=by show j = 18;omega
       subst this;rw [List.take_length] at hc
       unfold wE;rw [hc]
      rw [hT]
      simp +contextual only [r0,r1,r4,r81,r82,r83,d1,nI,mkT,go_sem]
   exact G'
  ·cases h
 ·cases h
def F5 (sz : Nat) (T : Tk) (xs : List D) (d : D) (T' : Tk) : Prop:=(xs = [] /\ d = .nils /\ T' = T) ∨ (xs ≠ [] /\ ∃ L i,T' = T ++ L /\ d = .sl (some (T.length + i)) xs /\ L[i]? = some (some (xs.length,sz)))
theorem Bb {sz bytes : Nat} {K : D -> S -> Prop} {t : Nat -> D} {H : Hp} {T T' : Tk} {xs : List D} {d : D} (x : D) (h : F5 sz T xs d T') (hx : fit sz x = true) (hxs : xs.all (fit sz) = true) (hb : (xs.length + 1) * bytes <= 2 ^ 47) (hb2 : xs.length + 1 < 2 ^ 62)
  (k : ∀ d2 T2,F5 sz T (xs ++ [x]) d2 T2 -> K d2 ⟨t,H,T2⟩) : mB sz bytes K ⟨t,H,T' ++ [some (1,sz)]⟩ d (some [x]):=by
 rcases h with ⟨rfl,rfl,rfl⟩ | ⟨h0,L,i,rfl,rfl,hL⟩
 ·rw [tS]
  refine ⟨by simp [hx],by simpa using hb,by simp,k _ _ (.inr ⟨by simp,[some (1,sz),some (1,sz)],1,?_,?_,rfl⟩)⟩
  ·simp
  ·simp
 ·have hi : i < L.length:=by
   rcases Nat.lt_or_ge i L.length with h | h
   ·exact h
   ·rw [List.getElem?_eq_none h] at hL;cases hL
  rw [List.append_assoc,pU]
  refine ⟨by simp [hx],?_,by simpa using hb,by simpa using hb2,hxs,k _ _ (.inr ⟨by simp,_,i,rfl,rfl,?_⟩)⟩
  ·rw [List.getElem?_append_left hi,hL]
  ·rw [List.getElem?_set_self (by simp;omega)];simp
theorem qD {sz : Nat} {T : Tk} {xs : List D} {d : D} {T' : Tk} (h : F5 sz T xs d T') : bQ T T':=by
 rcases h with ⟨_,_,rfl⟩ | ⟨_,L,_,rfl,_⟩
 ·exact bQ.refl _
 ·exact bQ.of T L
theorem Fg {sz : Nat} {T : Tk} {xs : List D} {d : D} {T' : Tk} (h : F5 sz T xs d T') : dZ d = some xs.length:=by
 rcases h with ⟨rfl,rfl,_⟩ | ⟨_,L,i,_,rfl,_⟩ <;> rfl
theorem tO {sz : Nat} {T : Tk} {xs : List D} {d : D} {T' : Tk} (h : F5 sz T xs d T') (he : D.eraseL xs = xs) : d.erase = aA true xs:=by
 rcases h with ⟨rfl,rfl,_⟩ | ⟨h0,L,i,_,rfl,_⟩
 ·rfl
 ·have : xs.isEmpty = false:=by cases xs with
   | nil=>exact (h0 rfl).elim
   | cons=>rfl
  simp [aA,this,D.erase,he]
theorem Ft {d : D} (h : lM d) : d.erase = d:=by obtain ⟨k,s,n,rfl⟩:=h;simp [mkT,D.erase,D.eraseL]
theorem BC {xs : List D} (h : ∀ x ∈ xs,lM x) : D.eraseL xs = xs:=bB fun x hx=>Ft (h x hx)
theorem Fc {xs : List D} (h : ∀ x ∈ xs,lM x) : xs.all (fit 3) = true:=List.all_eq_true.2 fun x hx=>by obtain ⟨k,s,n,rfl⟩:=h x hx;rfl
theorem OF {xs : List D} (h : ∀ x ∈ xs,lM x) : (aA true xs).cl 0 0 = true:=by
 have e : D.clL 0 0 xs = true:=by
  induction xs with
  | nil=>rfl
  | cons x xs ih =>
   obtain ⟨k,s,n,rfl⟩:=h x (by simp)
   simp only [D.clL,mkT,D.cl,Bool.and_self,Bool.true_and]
   exact ih fun y hy=>h y (by simp [hy])
 rcases aU true xs with ⟨e1,rfl⟩ | e1 <;> rw [e1]
 ·rfl
 ·simp [D.cl,e]
def zQ : Nat -> List UInt8 -> Nat -> List D -> List D × Nat × Int
 | 0,_,_,_=>([],0,99)
 | f + 1,l,a,out=>if decide (l.length <= a) then (out,0,0) else if (((oH l a).2 : Nat) : Int) == 0 then ([],a,2) else
  if ((out.length : Nat) : Int) == 600 then ([],a,13) else zQ f l (f9 l (a + (oH l a).2)) (out ++ [(oH l a).1])
def o5 (l : List UInt8) : List D × Nat × Int:=if decide (4096 < l.length) then ([],0,3) else zQ (l.length + 1) l (f9 l 0) []
def sJ (p : List D × Nat × Int) : D:=.tup [aA true p.1,.int .i64 (p.2.1 : Nat),.int .i64 p.2.2]
theorem H9 (l : List UInt8) (a : Nat) : lM (oH l a).1:=by
 unfold oH;split
 ·exact MZ _ _ _
 ·exact ⟨_,_,_,rfl⟩
theorem Kx : ∀ (f : Nat) (l : List UInt8) (a : Nat) (out : List D),(∀ x ∈ out,lM x) -> ∀ x ∈ (zQ f l a out).1,lM x
 | 0,_,_,_,_=>by simp [zQ]
 | f + 1,l,a,out,h=>by
  unfold zQ
  split
  ·exact h
  split
  ·simp
  split
  ·simp
  ·exact Kx f l _ _ fun x hx=>by
    rcases List.mem_append.1 hx with hx | hx
    ·exact h x hx
    ·rw [List.mem_singleton] at hx;subst hx;exact H9 l a
theorem M5 (l : List UInt8) : ∀ x ∈ (o5 l).1,lM x:=by
 unfold o5;split
 ·simp
 ·exact Kx _ _ _ _ (by simp)
theorem JA {p : List D × Nat × Int} (h : ∀ x ∈ p.1,lM x) : (sJ p).cl 0 0 = true:=by
 simp [sJ,D.cl,D.clL,OF h]
def tL : List D -> Option D
 | [.str l]=>if l.length <= 2 ^ 60 then some (sJ (o5 l)) else none
 | _=>none
theorem rZ (f : Nat) (l : List UInt8) (a : Nat) (out : List D) : zQ (f + 1) l a out = if decide (l.length <= a) then (out,0,0) else if (((oH l a).2 : Nat) : Int) == 0 then ([],a,2) else
  if ((out.length : Nat) : Int) == 600 then ([],a,13) else zQ f l (f9 l (a + (oH l a).2)) (out ++ [(oH l a).1]):=rfl
set_option maxHeartbeats 8000000 in
theorem ZV : aO Tryz.prog 40 tL:=by
 refine aG (l:=[(91,yE),(92,GD)]) (.cons A04 (.cons A1c .nil)) A1j fun args r h=>?_
 unfold tL at h
 split at h
 ·rename_i l
  split at h
  ·rename_i hl
   injection h with h;subst h
   refine ⟨by simp,JA (M5 l),fun H T=>?_⟩
   unfold o5
   rcases tf (decide (4096 < l.length)) with g | g
   ·rw [if_pos g]
    have g' : decide ((4096 : Int) < l.length) = true:=by simp only [decide_eq_true_eq] at g ⊢;omega
    simp +contextual only [c40,g',sJ,go_sem]
    rfl
   rw [if_neg (by rw [g];decide)]
   have g' : decide ((4096 : Int) < l.length) = false:=by simp only [decide_eq_false_iff_not] at g ⊢;omega
   have pb : ∀ a : Nat,a <= l.length -> yE [.str l,.int .i64 (a : Int)] = some (.int .i64 (f9 l a : Nat)):=fun a ha=>by
    simp only [yE];rw [if_pos ⟨by omega,by omega,by omega⟩];simp
   have b0:=EP (l:=l) (a:=0) (by omega)
   have pb0 : yE [.str l,.int .i64 0] = some (.int .i64 (f9 l 0 : Nat)):=pb 0 (by omega)
   simp +contextual only [c40,g',pb0,go_sem]
   refine bG (fun i s'=>s'.t 0 = .str l /\ Ext H s'.H /\ ∃ (a f : Nat) (out : List D),s'.t 6 = .int .i64 (a : Int) /\ i <= a /\ a <= l.length /\ l.length < a + f /\ out.length <= 600 /\ (∀ x ∈ out,lM x) /\ F5 3 T out (s'.t 5) s'.T /\ zQ f l a out = zQ (l.length + 1) l (f9 l 0) []) l.length ⟨0,rfl,Ext.refl H,f9 l 0,l.length + 1,[],rfl,by omega,by omega,by omega,by simp,by simp,.inl ⟨rfl,rfl,rfl⟩,rfl⟩ (fun i s h=>by obtain ⟨_,_,a,f,out,h⟩:=h;omega) ?_ (aI _)
   rintro i ⟨t,B,T'⟩ ⟨r0,hE,a,f,out,r6,h1,h2,h3,h4,hT,hA,hS⟩
   simp only at r0 hE r6 hA
   rw [<- hS]
   have hX:=qD hA
   have hlen:=Fg hA
   have her:=tO hA (BC hT)
   cases f with
   | zero=>exfalso;omega
   | succ f =>
   rw [rZ] at hS ⊢
   by_cases hlt : a < l.length
   ·have d1 : decide ((a : Int) < l.length) = true:=by simp only [decide_eq_true_eq];omega
    have d0 : decide (l.length <= a) = false:=by simp only [decide_eq_false_iff_not];omega
    rw [if_neg (by rw [d0];decide)] at hS ⊢
    have pt : GD [.str l,.int .i64 (a : Int)] = some (nI (oH l a)):=by
     simp only [GD];rw [if_pos ⟨by omega,by omega,by omega⟩];simp
    have hn : a + (oH l a).2 <= l.length:=by rw [Dv hlt];exact OX hlt
    have hTk:=H9 l a
    obtain ⟨⟨tk,n⟩,hq⟩ : ∃ z,oH l a = z:=⟨_,rfl⟩
    simp only [hq,nI] at pt hn hTk hS ⊢
    obtain ⟨k,s,m,rfl⟩:=hTk
    rcases tf ((n : Int) == 0) with g1 | g1
    ·rw [if_pos g1]
     simp only [mkT] at pt
     simp +contextual only [r0,r6,d1,pt,g1,bL hE hX,sJ,go_sem]
     rfl
    rw [if_neg (by rw [g1];decide)] at hS ⊢
    have n0 : 0 < n:=by
     rcases Nat.eq_zero_or_pos n with h | h
     ·subst h;simp at g1
     ·exact h
    rcases tf ((out.length : Int) == 600) with g2 | g2
    ·rw [if_pos g2]
     simp only [mkT] at pt
     simp +contextual only [r0,r6,d1,pt,g1,hlen,g2,bL hE hX,sJ,go_sem]
     rfl
    rw [if_neg (by rw [g2];decide)] at hS ⊢
    have n6 : out.length ≠ 600:=by
     intro h;rw [h] at g2;simp at g2
    have wS : IntKind.i64.wrap ((a : Int) + (n : Int)) = ((a + n : Nat) : Int):=by rw [iS (by omega) (by omega)];omega
    have pb1:=pb (a + n) hn
    have hb1:=EP hn
    simp only [mkT] at pt
    simp +contextual only [r0,r6,d1,pt,g1,hlen,g2,go_sem]
    refine Bb (mkT k s m) hA rfl (Fc hT) (by omega) (by omega) fun d2 T2 hA2=>?_
    simp +contextual only [r0,r6,wS,pb1,hE.ta,go_sem]
    refine ⟨f9 l (a + n),f,out ++ [mkT k s m],rfl,by omega,by omega,by omega,by simp;omega,?_,hA2,?_⟩
    ·intro x hx
     rcases List.mem_append.1 hx with hx | hx
     ·exact hT x hx
     ·rw [List.mem_singleton] at hx;subst hx;exact ⟨_,_,_,rfl⟩
    ·rfl
   ·have d1 : decide ((a : Int) < l.length) = false:=by simp only [decide_eq_false_iff_not];omega
    have d0 : decide (l.length <= a) = true:=by simp only [decide_eq_true_eq];omega
    rw [if_pos d0]
    simp +contextual only [r0,r6,d1,b8 hE hX,her,sJ,go_sem]
  ·cases h
 ·cases h
def eG (n : Int) : Bool:=decide (97 <= n) && decide (n <= 122)
theorem A2x (n : Int) : fL n = (eG n || n == 95):=rfl
theorem fS (n : Int) : b9 n = (eG n || n == 95 || aB n):=rfl
theorem Px : aO Tryz.prog 162 (φb eG):=by
 refine aG (l:=[]) .nil Xv fun args r h=>?_
 unfold φb at h
 split at h
 ·rename_i n
  injection h with h;subst h
  refine ⟨by simp,by simp [D.cl],fun H T=>?_⟩
  unfold eG
  rcases tf (decide (97 <= n)) with h1 | h1 <;> simp +contextual only [TY,h1,go_sem]
 ·cases h
theorem MT : aO Tryz.prog 163 (φb aB):=by
 refine aG (l:=[]) .nil Vj fun args r h=>?_
 unfold φb at h
 split at h
 ·rename_i n
  injection h with h;subst h
  refine ⟨by simp,by simp [D.cl],fun H T=>?_⟩
  unfold aB
  rcases tf (decide (48 <= n)) with h1 | h1 <;> simp +contextual only [TH,h1,go_sem]
 ·cases h
def i6 : List (List UInt8):=[[123],[125],[40],[41],[91],[93],[59],[46],[44],[43],[45],[42],[60],[62],[61,61],[33,61],[60,61],[62,61]]
def vW : List D -> Option D
 | []=>some (.sl none (i6.map .str))
 | _=>none
theorem X7 : aO Tryz.prog 173 vW:=by
 refine aG (l:=[]) .nil U9 fun args r h=>?_
 unfold vW at h
 split at h
 ·injection h with h;subst h
  refine ⟨by simp,by decide,fun H T=>?_⟩
  simp +contextual only [W2,go_sem]
  rfl
 ·cases h
def cD (s : List UInt8) : Bool:=i6.any (fun x=>x == s)
def qN : List D -> Option D
 | [.str s]=>some (.bool (cD s))
 | _=>none
theorem Gh {α : Type} {p : α -> Bool} {xs : List α} {i : Nat} {x : α} (hx : xs[i]? = some x) (h : (xs.take i).any p = false) (hp : p x = false) : (xs.take (i + 1)).any p = false:=by
 rw [List.take_add_one,hx];simp [h,hp]
theorem OZ {α : Type} {p : α -> Bool} {xs : List α} {i : Nat} {x : α} (hx : xs[i]? = some x) (hp : p x = true) : xs.any p = true:=List.any_eq_true.2 ⟨x,List.mem_of_getElem? hx,hp⟩
theorem Lt : aO Tryz.prog 110 qN:=by
 refine aG (l:=[(173,vW)]) (.cons X7 .nil) UJ fun args r h=>?_
 unfold qN at h
 split at h
 ·rename_i s
  injection h with h;subst h
  refine ⟨by simp,by simp [D.cl],fun H T=>?_⟩
  have ps : vW [] = some (.sl none (i6.map .str)):=rfl
  have eS : D.eraseL (i6.map D.str) = i6.map D.str:=rfl
  have lS : (i6.map D.str).length = 18:=rfl
  have get : ∀ j,j < 18 -> ∃ x,(i6.map D.str)[j]? = some (.str x) /\ i6[j]? = some x:=fun j h=>by
   have hl : j < i6.length:=h
   exact ⟨i6[j],by simp [hl],by simp [hl]⟩
  obtain ⟨SB,hSB⟩ : ∃ z,i6.map D.str = z:=⟨_,rfl⟩
  rw [hSB] at ps eS lS get
  simp +contextual only [U0,ps,eS,go_sem]
  refine bG (fun j s'=>s'.t 0 = .str s /\ s'.t 3 = .sl none SB /\ s'.t 4 = .int .i64 (j : Nat) /\ s'.H = H /\ s'.T = T /\ j <= 18 /\ (i6.take j).any (fun x=>x == s) = false) 18 ⟨0,by simp [upd,bF]⟩ (fun i s h=>h.2.2.2.2.2.1) ?_ (aI _)
  rintro j ⟨t,B,T'⟩ ⟨r0,r3,r4,rfl,rfl,hj,hc⟩
  simp only at r0 r3 r4
  by_cases hlt : j < 18
  ·have d1 : decide (((j : Nat) : Int) < SB.length) = true:=by rw [lS];simp only [decide_eq_true_eq];omega
   obtain ⟨x,f1,f2⟩:=get j hlt
   rcases tf (x == s) with q | q
   ·have hT : cD s = true:=OZ (p:=fun x=>x == s) f2 q
    rw [hT]
    simp +contextual only [r0,r3,r4,d1,f1,q,go_sem]
   ·have nx:=Gh (p:=fun x=>x == s) f2 hc q
    simp +contextual only [r0,r3,r4,d1,f1,q,bT j (by omega),go_sem]
    exact ⟨by omega,nx⟩
  ·have d1 : decide (((j : Nat) : Int) < SB.length) = false:=by rw [lS];simp only [decide_eq_false_iff_not];omega
   have hT : cD s = false:=by
    have : j = i6.length:=by show j = 18;omega
    subst this;rw [List.take_length] at hc
    exact hc
   rw [hT]
   simp +contextual only [r0,r3,r4,d1,go_sem]
 ·cases h
def eD (s : List UInt8) : Bool:=match s with
 | []=>false
 | c :: r=>eG c.toNat && r.all (fun b=>b9 b.toNat) && decide ((s.length : Int) <= 64)
def tE (j : Nat) (b : UInt8) : Bool:=if j = 0 then eG b.toNat else b9 b.toNat
theorem Lb {s : List UInt8} {j : Nat} {b : UInt8} (h : s[j]? = some b) (hb : tE j b = false) : eD s = false:=by
 cases s with
 | nil=>rfl
 | cons c r =>
  cases j with
  | zero =>
   simp at h;subst h
   have hb : eG (c.toNat : Int) = false:=hb
   simp [eD,hb]
  | succ j =>
   have h : r[j]? = some b:=by simpa using h
   have hb : b9 (b.toNat : Int) = false:=hb
   have : r.all (fun b=>b9 b.toNat) = false:=List.all_eq_false.2 ⟨b,List.mem_of_getElem? h,by simp [hb]⟩
   simp [eD,this]
theorem Jj {s : List UInt8} (h : ∀ j b,s[j]? = some b -> tE j b = true) : eD s = (decide ((0 : Int) < s.length) && decide ((s.length : Int) <= 64)):=by
 cases s with
 | nil=>rfl
 | cons c r =>
  have h0 : eG (c.toNat : Int) = true:=h 0 c rfl
  have h1 : r.all (fun b=>b9 b.toNat) = true:=List.all_eq_true.2 fun b hb=>by
   obtain ⟨j,hj⟩:=List.getElem?_of_mem hb
   exact h (j + 1) b (by simpa using hj)
  have : decide ((0 : Int) < ((c :: r).length : Nat)) = true:=by simp
  rw [this];simp only [eD,h0,h1,Bool.true_and]
def qK : List D -> Option D
 | [.str s]=>if s.length <= 2 ^ 60 then some (.bool (eD s)) else none
 | _=>none
set_option maxHeartbeats 4000000 in
theorem Pq : aO Tryz.prog 109 qK:=by
 refine aG (l:=[(162,φb eG),(163,φb aB)]) (.cons Px (.cons MT .nil)) VK fun args r h=>?_
 unfold qK at h
 split at h
 ·rename_i s
  split at h
  ·rename_i hl
   injection h with h;subst h
   refine ⟨by simp,by simp [D.cl],fun H T=>?_⟩
   simp +contextual only [V0,go_sem]
   refine bG (fun i s'=>s'.t 0 = .str s /\ s'.t 3 = .int .i64 (i : Nat) /\ s'.H = H /\ s'.T = T /\ i <= s.length /\ ∀ j b,j < i -> s[j]? = some b -> tE j b = true) s.length ⟨0,by simp [upd,bF]⟩ (fun i s h=>h.2.2.2.2.1) ?_ (aI _)
   rintro i ⟨t,B,T'⟩ ⟨r0,r3,rfl,rfl,hi,hc⟩
   simp only at r0 r3
   by_cases hlt : i < s.length
   ·have d1 : decide (((i : Nat) : Int) < s.length) = true:=by simp only [decide_eq_true_eq];omega
    have ex : s[i]? = some s[i]:=by simp [hlt]
    obtain ⟨b,hb⟩ : ∃ b,s[i] = b:=⟨_,rfl⟩
    rw [hb] at ex
    have ix:=fun q=>dU ex q
    have no:=fun hp=>Lb ex hp
    have nx : tE i b = true -> ∀ j b,j < i + 1 -> s[j]? = some b -> tE j b = true:=fun hp j c hj hc'=>by
     rcases Nat.lt_or_ge j i with h' | h'
     ·exact hc j c h' hc'
     ·have : j = i:=by omega
      subst this;rw [ex] at hc';injection hc' with hc';subst hc';exact hp
    have q1 : φb eG [.int .u8 (b.toNat : Int)] = some (.bool (eG b.toNat)):=rfl
    have q2 : φb aB [.int .u8 (b.toNat : Int)] = some (.bool (aB b.toNat)):=rfl
    rcases tf (eG (b.toNat : Int)) with g1 | g1
    ·have nx:=nx (by unfold tE;split <;> simp [g1,fS])
     simp +contextual only [r0,r3,d1,ix,q1,g1,bT i (by omega),go_sem]
     exact ⟨by omega,nx⟩
    by_cases h0 : i = 0
    ·have e0 : (((i : Nat) : Int) == 0) = true:=by rw [beq_iff_eq];omega
     have no:=no (by unfold tE;rw [if_pos h0];exact g1)
     rw [no]
     simp +contextual only [r0,r3,d1,ix,q1,g1,e0,go_sem]
    have e0 : (((i : Nat) : Int) == 0) = false:=by rw [beq_eq_false_iff_ne];omega
    rcases tf (aB (b.toNat : Int)) with g2 | g2
    ·have nx:=nx (by unfold tE;rw [if_neg h0,fS,g2];simp)
     simp +contextual only [r0,r3,d1,ix,q1,q2,g1,g2,e0,bT i (by omega),go_sem]
     exact ⟨by omega,nx⟩
    rcases tf ((b.toNat : Int) == 95) with g3 | g3
    ·have nx:=nx (by unfold tE;rw [if_neg h0,fS,g3];simp)
     have g3' : ((b.toNat : Int) != 95) = false:=by simp only [bne,g3];rfl
     simp +contextual only [r0,r3,d1,ix,q1,q2,g1,g2,g3',e0,bT i (by omega),go_sem]
     exact ⟨by omega,nx⟩
    ·have no:=no (by unfold tE;rw [if_neg h0,fS,g1,g2,g3];rfl)
     have g3' : ((b.toNat : Int) != 95) = true:=by simp only [bne,g3];rfl
     rw [no]
     simp +contextual only [r0,r3,d1,ix,q1,q2,g1,g2,g3',e0,go_sem]
   ·have d1 : decide (((i : Nat) : Int) < s.length) = false:=by simp only [decide_eq_false_iff_not];omega
    have hE:=Jj (s:=s) fun j b hj=>hc j b (by
     rcases Nat.lt_or_ge j s.length with h' | h'
     ·omega
     ·rw [List.getElem?_eq_none h'] at hj;cases hj) hj
    rw [hE]
    rcases tf (decide ((0 : Int) < s.length)) with g | g <;> simp +contextual only [r0,r3,d1,g,go_sem]
  ·cases h
 ·cases h
def kP (s : List UInt8) (most : Int) : Int × Bool :=
 if s.all iN && decide (s.length <= 19) then (IntKind.i64.wrap (dP s : Int),decide ((0 : Int) < s.length) && decide ((dP s : Int) <= most)) else (0,false)
def sR (p : Int × Bool) : D:=.tup [.int .i64 p.1,.bool p.2]
theorem Ou (p : Int × Bool) : (sR p).cl 0 0 = true:=by simp [sR,D.cl,D.clL]
def Bg : List D -> Option D
 | [.str s,.int .i64 most]=>if s.length <= 2 ^ 60 /\ 0 <= most /\ most < 2 ^ 63 then some (sR (kP s most)) else none
 | _=>none
theorem I5 (a : Int) : IntKind.u64.wrap a = a % 2 ^ 64:=by simp [IntKind.wrap,IntKind.bits,IntKind.signed]
theorem Qr (a : Int) : IntKind.u8.wrap a = a % 2 ^ 8:=by simp [IntKind.wrap,IntKind.bits,IntKind.signed]
theorem KY {s : List UInt8} {i : Nat} {b : UInt8} (h : s[i]? = some b) : sL 0 (s.take (i + 1)) = sL 0 (s.take i) * 10 + (b.toNat - 48):=by
 rw [List.take_add_one,h];simp [sL]
set_option maxHeartbeats 4000000 in
theorem XI : aO Tryz.prog 164 Bg:=by
 refine aG (l:=[(163,φb aB)]) (.cons MT .nil) Xe fun args r h=>?_
 unfold Bg at h
 split at h
 ·rename_i s most
  split at h
  ·rename_i hv
   obtain ⟨hl,m0,m1⟩:=hv
   injection h with h;subst h
   refine ⟨by simp,Ou _,fun H T=>?_⟩
   simp +contextual only [X3,go_sem]
   refine bG (fun i s'=>s'.t 0 = .str s /\ s'.t 1 = .int .i64 most /\ s'.t 6 = .int .u64 (sL 0 (s.take i) : Nat) /\ s'.t 7 = .int .i64 (i : Nat) /\ s'.H = H /\ s'.T = T /\ i <= s.length /\ i <= 19 /\ (s.take i).all iN = true) s.length ⟨0,by simp [upd,bF,sL]⟩ (fun i s h=>h.2.2.2.2.2.2.1) ?_ (aI _)
   rintro i ⟨t,B,T'⟩ ⟨r0,r1,r6,r7,rfl,rfl,hi,hi9,hc⟩
   simp only at r0 r1 r6 r7
   have hdg : ∀ b ∈ s.take i,iN b = true:=fun b hb=>List.all_eq_true.1 hc b hb
   have hlt19 : (s.take i).length <= 19:=by simp;omega
   have hval:=EW hdg hlt19
   have hpow : 10 ^ (s.take i).length <= 10 ^ i:=Nat.pow_le_pow_right (by decide) (by simp;omega)
   by_cases hlt : i < s.length
   ·have d1 : decide (((i : Nat) : Int) < s.length) = true:=by simp only [decide_eq_true_eq];omega
    have ex : s[i]? = some s[i]:=by simp [hlt]
    obtain ⟨b,hb⟩ : ∃ b,s[i] = b:=⟨_,rfl⟩
    rw [hb] at ex
    have ix:=fun q=>dU ex q
    have q2 : φb aB [.int .u8 (b.toNat : Int)] = some (.bool (aB b.toNat)):=rfl
    rcases tf (aB (b.toNat : Int)) with g | g
    ·by_cases h19 : i < 19
     ·have d2 : decide ((19 : Int) <= (i : Nat)) = false:=by simp only [decide_eq_false_iff_not];omega
      have hd : iN b = true:=g
      have hb2:=xW.1 hd
      have tk:=KY ex
      have v18 : sL 0 (s.take i) < 10 ^ 18:=by
       have : 10 ^ i <= 10 ^ 18:=Nat.pow_le_pow_right (by decide) (by omega)
       unfold dP at hval;omega
      have w1 : IntKind.u64.wrap (((sL 0 (s.take i) : Nat) : Int) * 10) = ((sL 0 (s.take i) * 10 : Nat) : Int):=by rw [I5];omega
      have w2 : IntKind.u8.wrap ((b.toNat : Int) - 48) = ((b.toNat - 48 : Nat) : Int):=by rw [Qr];omega
      have w3 : IntKind.u64.wrap ((b.toNat - 48 : Nat) : Int) = ((b.toNat - 48 : Nat) : Int):=by rw [I5];omega
      have w4 : IntKind.u64.wrap (((sL 0 (s.take i) * 10 : Nat) : Int) + ((b.toNat - 48 : Nat) : Int)) = ((sL 0 (s.take (i + 1)) : Nat) : Int):=by rw [I5,tk];omega
      simp +contextual only [r0,r1,r6,r7,d1,d2,ix,q2,g,w1,w2,w3,w4,bT i (by omega),go_sem]
      refine ⟨by omega,by omega,?_⟩
      rw [List.take_add_one,ex];simp [hc,hd]
     ·have d2 : decide ((19 : Int) <= (i : Nat)) = true:=by simp only [decide_eq_true_eq];omega
      have hE : kP s most = (0,false):=by
       unfold kP;rw [if_neg];simp only [Bool.and_eq_true,decide_eq_true_eq,not_and];omega
      rw [hE]
      simp +contextual only [r0,r1,r6,r7,d1,d2,ix,q2,g,sR,go_sem]
    ·have hE : kP s most = (0,false):=by
      unfold kP;rw [if_neg]
      have : s.all iN = false:=List.all_eq_false.2 ⟨b,List.mem_of_getElem? ex,by simp [iN,g]⟩
      simp [this]
     rw [hE]
     simp +contextual only [r0,r1,r6,r7,d1,ix,q2,g,sR,go_sem]
   ·have d1 : decide (((i : Nat) : Int) < s.length) = false:=by simp only [decide_eq_false_iff_not];omega
    have ei : i = s.length:=by omega
    have eT : s.take i = s:=by rw [ei,List.take_length]
    rw [eT] at r6 hc hval
    have hE : kP s most = (IntKind.i64.wrap (dP s : Int),decide ((0 : Int) < s.length) && decide ((dP s : Int) <= most)):=by
     unfold kP;rw [if_pos];simp only [Bool.and_eq_true,decide_eq_true_eq];exact ⟨hc,by omega⟩
    rw [hE]
    have wm : IntKind.u64.wrap most = most:=by rw [I5];omega
    have eV : dP s = sL 0 s:=rfl
    rw [eV]
    rcases tf (decide ((0 : Int) < s.length)) with g | g
    ·simp +contextual only [r0,r1,r6,r7,d1,g,wm,sR,go_sem]
    ·simp +contextual only [r0,r1,r6,r7,d1,g,sR,go_sem]
  ·cases h
 ·cases h
def mC : List UInt8 -> List UInt8 -> List UInt8 × Bool
 | [],out=>(out,decide (((out.length : Nat) : Int) <= 64))
 | c :: r,out =>
  if (c == 34) || !(dY c.toNat) then ([],false) else
  if c == 92 then (match r with
   | []=>([],false)
   | d :: r=>if (d != 34) && (d != 92) then ([],false) else mC r (out ++ [d])) else mC r (out ++ [c])
theorem Ar (out : List UInt8) : mC [] out = (out,decide (((out.length : Nat) : Int) <= 64)):=by unfold mC;rfl
theorem rL (c : UInt8) (r out : List UInt8) : mC (c :: r) out =
  if (c == 34) || !(dY c.toNat) then ([],false) else
  if c == 92 then (match r with
   | []=>([],false)
   | d :: r=>if (d != 34) && (d != 92) then ([],false) else mC r (out ++ [d])) else mC r (out ++ [c]):=by
 conv=>lhs;unfold mC
def zD (s : List UInt8) : List UInt8 × Bool :=
 if decide (((s.length : Nat) : Int) < 2) then ([],false) else
 if (s[0]? != some 34) || (s[s.length - 1]? != some 34) then ([],false) else mC ((s.take (s.length - 1)).drop 1) []
def mF (p : List UInt8 × Bool) : D:=.tup [.str p.1,.bool p.2]
theorem L1 (p : List UInt8 × Bool) : (mF p).cl 0 0 = true:=by simp [mF,D.cl,D.clL]
def BM : List D -> Option D
 | [.str s]=>if s.length <= 2 ^ 60 then some (mF (zD s)) else none
 | _=>none
theorem LL (t : Option Nat) (c : UInt8) : xX (.sl t [.int .u8 (c.toNat : Int)]) = some (.str [c]):=CW t [c]
theorem TR {a b : List UInt8} (h : a.length + b.length < 2 ^ 62) : gW .add (.str a) (.str b) = some (.str (a ++ b)):=by
 show Hv .add a b = _
 simp [Hv,h]
set_option maxHeartbeats 8000000 in
theorem Tt : aO Tryz.prog 165 BM:=by
 refine aG (l:=[]) .nil Wk fun args r h=>?_
 unfold BM at h
 split at h
 ·rename_i s
  split at h
  ·rename_i hl
   injection h with h;subst h
   refine ⟨by simp,L1 _,fun H T=>?_⟩
   unfold zD
   rcases tf (decide (((s.length : Nat) : Int) < 2)) with g | g
   ·rw [if_pos g]
    simp +contextual only [Kr,g,mF,go_sem]
   rw [if_neg (by rw [g];decide)]
   have h2 : 2 <= s.length:=by simp only [decide_eq_false_iff_not] at g;omega
   have ex0 : s[0]? = some s[0]:=by simp
   obtain ⟨b0,hb0⟩ : ∃ b,s[0] = b:=⟨_,rfl⟩
   rw [hb0] at ex0
   have exl : s[s.length - 1]? = some (s[s.length - 1]'(by omega)):=List.getElem?_eq_getElem (by omega)
   obtain ⟨bl,hbl⟩ : ∃ b,(s[s.length - 1]'(by omega)) = b:=⟨_,rfl⟩
   rw [hbl] at exl
   have ix0 : ∀ q,ixs (.str s) (.int q 0) = some (.int .u8 b0.toNat):=fun q=>dU ex0 q
   have ixl:=fun q=>dU exl q
   have e0 : ((b0.toNat : Int) != 34) = (b0 != 34):=by simp only [bne];rw [show ((b0.toNat : Int) == 34) = (b0 == 34) from eM b0 34 (by decide)]
   have el : ((bl.toNat : Int) != 34) = (bl != 34):=by simp only [bne];rw [show ((bl.toNat : Int) == 34) = (bl == 34) from eM bl 34 (by decide)]
   have wl : IntKind.i64.wrap ((s.length : Int) - 1) = ((s.length - 1 : Nat) : Int):=by rw [iS (by omega) (by omega)];omega
   rw [ex0,exl]
   have f0 : (some b0 != some (34 : UInt8)) = (b0 != 34):=rfl
   have fl : (some bl != some (34 : UInt8)) = (bl != 34):=rfl
   rw [f0,fl]
   rcases tf (b0 != 34) with g0 | g0
   ·rw [if_pos (by rw [g0];rfl)]
    simp +contextual only [Kr,g,ix0,e0,g0,mF,go_sem]
   rcases tf (bl != 34) with g1 | g1
   ·rw [if_pos (by rw [g0,g1];rfl)]
    simp +contextual only [Kr,g,ix0,e0,g0,wl,ixl,el,g1,mF,go_sem]
   rw [if_neg (by rw [g0,g1];decide)]
   simp +contextual only [Kr,g,ix0,e0,g0,wl,ixl,el,g1,go_sem]
   refine bG (fun i s'=>s'.t 0 = .str s /\ s'.H = H /\ bQ T s'.T /\ ∃ (k : Nat) (out : List UInt8),s'.t 5 = .int .i64 (k : Nat) /\ s'.t 4 = .str out /\ i + 1 <= k /\ k <= s.length - 1 /\ out.length <= k /\ mC ((s.take (s.length - 1)).drop k) out = mC ((s.take (s.length - 1)).drop 1) []) s.length ⟨0,rfl,rfl,bQ.refl T,1,[],rfl,rfl,by omega,by omega,by simp,rfl⟩ (fun i s h=>by obtain ⟨_,_,_,k,out,h⟩:=h;omega) ?_ (aI _)
   rintro i ⟨t,B,T'⟩ ⟨r0,rfl,hX,k,out,r5,r4,h1,hk,ho,hS⟩
   simp only at r0 hX r5 r4
   have wk : IntKind.i64.wrap (((k : Nat) : Int) + 1) = ((k + 1 : Nat) : Int):=bT k (by omega)
   have wk2 : IntKind.i64.wrap (((k + 1 : Nat) : Int) + 1) = ((k + 1 + 1 : Nat) : Int):=bT (k + 1) (by omega)
   have tk : ∀ j : Nat,j < s.length - 1 -> (s.take (s.length - 1))[j]? = s[j]?:=fun j hj=>by rw [List.getElem?_take,if_pos hj]
   by_cases hlt : k < s.length - 1
   ·have d1 : decide (((k : Nat) : Int) < ((s.length - 1 : Nat) : Int)) = true:=by simp only [decide_eq_true_eq];omega
    have ex : s[k]? = some (s[k]'(by omega)):=List.getElem?_eq_getElem (by omega)
    obtain ⟨b,hb⟩ : ∃ b,(s[k]'(by omega)) = b:=⟨_,rfl⟩
    rw [hb] at ex
    have ix:=fun q=>dU ex q
    rw [fK ((tk k hlt).trans ex),rL] at hS
    have e1 : ((b.toNat : Int) == 34) = (b == 34):=eM b 34 (by decide)
    have e2 : ((b.toNat : Int) == 92) = (b == 92):=eM b 92 (by decide)
    have pT : dY (b.toNat : Int) = (decide ((32 : Int) <= b.toNat) && decide ((b.toNat : Int) <= 126)):=rfl
    rcases tf (b == 34) with g2 | g2
    ·rw [if_pos (by rw [g2];rfl)] at hS
     rw [<- hS]
     simp +contextual only [r0,r5,r4,wl,d1,ix,e1,g2,b8 (Ext.refl B) hX,mF,go_sem]
    by_cases q1 : (b.toNat : Int) < 32
    ·have g3 : decide ((b.toNat : Int) < 32) = true:=by simpa using q1
     have g4 : dY (b.toNat : Int) = false:=by rw [pT];simp only [Bool.and_eq_false_iff,decide_eq_false_iff_not];omega
     rw [if_pos (by rw [g2,g4];rfl)] at hS
     rw [<- hS]
     simp +contextual only [r0,r5,r4,wl,d1,ix,e1,g2,g3,b8 (Ext.refl B) hX,mF,go_sem]
    have g3 : decide ((b.toNat : Int) < 32) = false:=by simpa using q1
    by_cases q2 : (126 : Int) < b.toNat
    ·have g5 : decide ((126 : Int) < b.toNat) = true:=by simpa using q2
     have g4 : dY (b.toNat : Int) = false:=by rw [pT];simp only [Bool.and_eq_false_iff,decide_eq_false_iff_not];omega
     rw [if_pos (by rw [g2,g4];rfl)] at hS
     rw [<- hS]
     simp +contextual only [r0,r5,r4,wl,d1,ix,e1,g2,g3,g5,b8 (Ext.refl B) hX,mF,go_sem]
    have g5 : decide ((126 : Int) < b.toNat) = false:=by simpa using q2
    have g4 : dY (b.toNat : Int) = true:=by rw [pT];simp only [Bool.and_eq_true,decide_eq_true_eq];omega
    rw [if_neg (by rw [g2,g4];decide)] at hS
    rcases tf (b == 92) with g6 | g6
    ·rw [if_pos g6] at hS
     by_cases hl2 : k + 1 < s.length - 1
     ·have d2 : (((k + 1 : Nat) : Int) == ((s.length - 1 : Nat) : Int)) = false:=by rw [beq_eq_false_iff_ne];omega
      have ex2 : s[k + 1]? = some (s[k + 1]'(by omega)):=List.getElem?_eq_getElem (by omega)
      obtain ⟨b2,hb2'⟩ : ∃ b2,(s[k + 1]'(by omega)) = b2:=⟨_,rfl⟩
      rw [hb2'] at ex2
      have ix2:=fun q=>dU ex2 q
      rw [fK ((tk (k + 1) hl2).trans ex2)] at hS
      have e3 : ((b2.toNat : Int) != 34) = (b2 != 34):=by simp only [bne];rw [show ((b2.toNat : Int) == 34) = (b2 == 34) from eM b2 34 (by decide)]
      have e4 : ((b2.toNat : Int) != 92) = (b2 != 92):=by simp only [bne];rw [show ((b2.toNat : Int) == 92) = (b2 == 92) from eM b2 92 (by decide)]
      simp only at hS
      have hadd:=TR (a:=out) (b:=[b2]) (by simp;omega)
      rcases tf ((b2 != 34) && (b2 != 92)) with g7 | g7
      ·rw [if_pos g7] at hS
       rw [<- hS]
       simp only [Bool.and_eq_true] at g7
       simp +contextual only [r0,r5,r4,wl,d1,ix,e1,e2,g2,g3,g5,g6,wk,d2,ix2,e3,e4,g7.1,g7.2,b8 (Ext.refl B) hX,mF,go_sem]
      ·rw [if_neg (by rw [g7];decide)] at hS
       rcases tf (b2 != 34) with g8 | g8
       ·have g9 : (b2 != 92) = false:=by rw [g8] at g7;simpa using g7
        simp +contextual only [r0,r5,r4,wl,d1,ix,e1,e2,g2,g3,g5,g6,wk,d2,ix2,e3,e4,g8,g9,LL,hadd,wk2,hX.ta,go_sem]
        exact ⟨k + 1 + 1,out ++ [b2],rfl,rfl,by omega,by omega,by simp;omega,hS⟩
       ·simp +contextual only [r0,r5,r4,wl,d1,ix,e1,e2,g2,g3,g5,g6,wk,d2,ix2,e3,e4,g8,LL,hadd,wk2,hX.ta,go_sem]
        exact ⟨k + 1 + 1,out ++ [b2],rfl,rfl,by omega,by omega,by simp;omega,hS⟩
     ·have d2 : (((k + 1 : Nat) : Int) == ((s.length - 1 : Nat) : Int)) = true:=by rw [beq_iff_eq];omega
      rw [List.drop_eq_nil_of_le (by simp;omega)] at hS
      rw [<- hS]
      simp +contextual only [r0,r5,r4,wl,d1,ix,e1,e2,g2,g3,g5,g6,wk,d2,b8 (Ext.refl B) hX,mF,go_sem]
    ·rw [if_neg (by rw [g6];decide)] at hS
     have hadd:=TR (a:=out) (b:=[b]) (by simp;omega)
     simp +contextual only [r0,r5,r4,wl,d1,ix,e1,e2,g2,g3,g5,g6,LL,hadd,wk,hX.ta,go_sem]
     exact ⟨k + 1,out ++ [b],rfl,rfl,by omega,by omega,by simp;omega,hS⟩
   ·have d1 : decide (((k : Nat) : Int) < ((s.length - 1 : Nat) : Int)) = false:=by simp only [decide_eq_false_iff_not];omega
    rw [List.drop_eq_nil_of_le (by simp;omega),Ar] at hS
    rw [<- hS]
    simp +contextual only [r0,r5,r4,wl,d1,b8 (Ext.refl B) hX,mF,go_sem]
  ·cases h
 ·cases h
def oG (s : List UInt8) : D × Bool :=
 if s == [] then (mkT 0 [] 0,false) else
 if eD s then (mkT 1 s 0,true) else
 if (kP s 9223372036854775807).2 then (mkT 2 [] (kP s 9223372036854775807).1,true) else
 if s[0]? == some 64 then (mkT 4 [] (kP (s.drop 1) 1099511627776).1,(kP (s.drop 1) 1099511627776).2) else
 if s[0]? == some 34 then (mkT 3 (zD s).1 0,(zD s).2) else (mkT 5 s 0,cD s)
def Bx (p : D × Bool) : D:=.tup [p.1,.bool p.2]
theorem Mb (s : List UInt8) : lM (oG s).1:=by
 unfold oG
 repeat' split
 all_goals exact ⟨_,_,_,rfl⟩
theorem OD {p : D × Bool} (h : lM p.1) : (Bx p).cl 0 0 = true:=by
 obtain ⟨k,s,n,e⟩:=h
 simp [Bx,e,mkT,D.cl,D.clL]
def Bf : List D -> Option D
 | [.str s]=>if s.length <= 2 ^ 60 then some (Bx (oG s)) else none
 | _=>none
set_option maxHeartbeats 8000000 in
theorem T4 : aO Tryz.prog 100 Bf:=by
 refine aG (l:=[(109,qK),(164,Bg),(165,BM),(110,qN)]) (.cons Pq (.cons XI (.cons Tt (.cons Lt .nil)))) Tl fun args r h=>?_
 unfold Bf at h
 split at h
 ·rename_i s
  split at h
  ·rename_i hl
   injection h with h;subst h
   refine ⟨by simp,OD (Mb s),fun H T=>?_⟩
   have p1 : qK [.str s] = some (.bool (eD s)):=by simp only [qK];rw [if_pos hl]
   have p2 : Bg [.str s,.int .i64 9223372036854775807] = some (sR (kP s 9223372036854775807)):=by simp only [Bg];rw [if_pos ⟨hl,by decide,by decide⟩]
   have p3 : Bg [.str (s.drop 1),.int .i64 1099511627776] = some (sR (kP (s.drop 1) 1099511627776)):=by simp only [Bg];rw [if_pos ⟨by simp;omega,by decide,by decide⟩]
   have p4 : BM [.str s] = some (mF (zD s)):=by simp only [BM];rw [if_pos hl]
   have p5 : qN [.str s] = some (.bool (cD s)):=rfl
   unfold oG
   rcases tf (s == []) with g0 | g0
   ·rw [if_pos g0]
    simp +contextual only [Hr,g0,Bx,mkT,go_sem]
   rw [if_neg (by rw [g0];decide)]
   rcases tf (eD s) with g1 | g1
   ·rw [if_pos g1]
    simp +contextual only [Hr,g0,p1,g1,Bx,mkT,go_sem]
   rw [if_neg (by rw [g1];decide)]
   obtain ⟨⟨v,vb⟩,hq⟩ : ∃ z,kP s 9223372036854775807 = z:=⟨_,rfl⟩
   simp only [hq,sR] at p2 ⊢
   cases vb with
   | true =>
    rw [if_pos rfl]
    simp +contextual only [Hr,g0,p1,g1,p2,Bx,mkT,go_sem]
   | false =>
   rw [if_neg (by decide)]
   have hne : s ≠ []:=by simpa using g0
   have hpos : 0 < s.length:=List.length_pos_iff.2 hne
   have ex0 : s[0]? = some s[0]:=by simp
   obtain ⟨b0,hb0⟩ : ∃ b,s[0] = b:=⟨_,rfl⟩
   rw [hb0] at ex0
   have ix0 : ∀ q,ixs (.str s) (.int q 0) = some (.int .u8 b0.toNat):=fun q=>dU ex0 q
   have e1 : ((b0.toNat : Int) == 64) = (b0 == 64):=eM b0 64 (by decide)
   have e2 : ((b0.toNat : Int) == 34) = (b0 == 34):=eM b0 34 (by decide)
   rw [ex0]
   have f1 : (some b0 == some (64 : UInt8)) = (b0 == 64):=rfl
   have f2 : (some b0 == some (34 : UInt8)) = (b0 == 34):=rfl
   rw [f1,f2]
   rcases tf (b0 == 64) with g2 | g2
   ·rw [if_pos g2]
    have hs : sub (some 1) (some (s.length : Int)) (.str s) = some (.str (s.drop 1)):=by
     rw [zH,if_pos ⟨by omega,by omega,by omega⟩];simp [aP]
    obtain ⟨⟨w,wb⟩,hq2⟩ : ∃ z,kP (s.drop 1) 1099511627776 = z:=⟨_,rfl⟩
    simp only [hq2,sR] at p3 ⊢
    simp +contextual only [Hr,g0,p1,g1,p2,ix0,e1,g2,hs,p3,Bx,mkT,go_sem]
   rw [if_neg (by rw [g2];decide)]
   rcases tf (b0 == 34) with g3 | g3
   ·rw [if_pos g3]
    obtain ⟨⟨w,wb⟩,hq2⟩ : ∃ z,zD s = z:=⟨_,rfl⟩
    simp only [hq2,mF] at p4 ⊢
    simp +contextual only [Hr,g0,p1,g1,p2,ix0,e1,g2,e2,g3,p4,Bx,mkT,go_sem]
   rw [if_neg (by rw [g3];decide)]
   simp +contextual only [Hr,g0,p1,g1,p2,ix0,e1,g2,e2,g3,p5,Bx,mkT,go_sem]
  ·cases h
 ·cases h
def qL : List UInt8 -> Nat -> Nat
 | [],k=>k + 1
 | c :: r,k=>if c == 34 then k + 1 else if c == 92 then (match r with
  | []=>k + 3
  | _ :: r=>qL r (k + 2)) else qL r (k + 1)
theorem DR (k : Nat) : qL [] k = k + 1:=by unfold qL;rfl
theorem AA (c : UInt8) (r : List UInt8) (k : Nat) : qL (c :: r) k = if c == 34 then k + 1 else if c == 92 then (match r with
  | []=>k + 3
  | _ :: r=>qL r (k + 2)) else qL r (k + 1):=by
 conv=>lhs;unfold qL
def c8 (s : List UInt8) (n : Nat) : Bool:=match s[n]? with
 | some b=>fL b.toNat
 | none=>false
def kH (s : List UInt8) : Nat:=match s with
 | []=>0
 | c :: r =>
  if eG c.toNat then 1 + aX b9 r else
  if aB c.toNat || c == 64 then (if c8 (c :: r) (1 + aX aB r) then 0 else 1 + aX aB r) else
  if c == 34 then (if decide ((c :: r).length < qL r 1) then 0 else qL r 1) else
  if decide (1 < (c :: r).length) && cD ((c :: r).take 2) then 2 else 1
def GG : List D -> Option D
 | [.str s]=>if 0 < s.length /\ s.length <= 2 ^ 60 then some (.int .i64 (kH s : Nat)) else none
 | _=>none
theorem yA {p : Int -> Bool} (c : UInt8) (r : List UInt8) (h : p c.toNat = true) : aX p (c :: r) = 1 + aX p r:=by
 unfold aX;simp only [List.takeWhile_cons,h,if_true,List.length_cons];omega
theorem pK {p : Int -> Bool} {s : List UInt8} {k : Nat} {b : UInt8} (h : s[k]? = some b) : aX p (s.drop k) = if p b.toNat then 1 + aX p (s.drop (k + 1)) else 0:=by
 rw [fK h]
 unfold aX
 simp only [List.takeWhile_cons]
 split
 ·simp;omega
 ·rfl
theorem AE {p : Int -> Bool} {s : List UInt8} {k : Nat} (h : s.length <= k) : aX p (s.drop k) = 0:=by rw [List.drop_eq_nil_of_le h];rfl
set_option maxHeartbeats 16000000 in
theorem A0A : aO Tryz.prog 99 GG:=by
 refine aG (l:=[(162,φb eG),(163,φb aB),(110,qN)]) (.cons Px (.cons MT (.cons Lt .nil))) A01 fun args r h=>?_
 unfold GG at h
 split at h
 ·rename_i s
  split at h
  ·rename_i hv
   obtain ⟨h0,hl⟩:=hv
   injection h with h;subst h
   refine ⟨by simp,by simp [D.cl],fun H T=>?_⟩
   cases s with
   | nil=>simp at h0
   | cons c r =>
   have ex0 : (c :: r)[0]? = some c:=rfl
   have ix0 : ∀ q,ixs (.str (c :: r)) (.int q 0) = some (.int .u8 c.toNat):=fun q=>dU ex0 q
   have qs : qN [.str ((c :: r).take 2)] = some (.bool (cD ((c :: r).take 2))):=rfl
   have hs2 : 2 <= (c :: r).length -> sub (some 0) (some 2) (.str (c :: r)) = some (.str ((c :: r).take 2)):=fun h=>by
    rw [zH,if_pos ⟨by omega,by omega,by omega⟩];simp [aP]
   have E : kH (c :: r) = if eG c.toNat then 1 + aX b9 ((c :: r).drop 1) else
    if aB c.toNat || c == 64 then (if c8 (c :: r) (1 + aX aB ((c :: r).drop 1)) then 0 else 1 + aX aB ((c :: r).drop 1)) else
    if c == 34 then (if decide ((c :: r).length < qL ((c :: r).drop 1) 1) then 0 else qL ((c :: r).drop 1) 1) else
    if decide (1 < (c :: r).length) && cD ((c :: r).take 2) then 2 else 1:=rfl
   have hlr : (c :: r).length = r.length + 1:=rfl
   rw [E]
   clear E
   obtain ⟨s,hs⟩ : ∃ s,(c :: r) = s:=⟨_,rfl⟩
   rw [hs] at h0 hl ix0 ex0 qs hs2 hlr ⊢
   have q1 : ∀ b : UInt8,φb eG [.int .u8 (b.toNat : Int)] = some (.bool (eG b.toNat)):=fun _=>rfl
   have q2 : ∀ b : UInt8,φb aB [.int .u8 (b.toNat : Int)] = some (.bool (aB b.toNat)):=fun _=>rfl
   have e64 : ((c.toNat : Int) == 64) = (c == 64):=eM c 64 (by decide)
   have e34 : ((c.toNat : Int) == 34) = (c == 34):=eM c 34 (by decide)
   rcases tf (eG (c.toNat : Int)) with g1 | g1
   ·rw [if_pos g1]
    simp +contextual only [c99,ix0,q1,g1,go_sem]
    refine bG (fun i s'=>s'.t 0 = .str s /\ s'.H = H /\ s'.T = T /\ ∃ k : Nat,s'.t 3 = .int .i64 (k : Nat) /\ i + 1 <= k /\ k <= s.length /\ k + aX b9 (s.drop k) = 1 + aX b9 (s.drop 1)) s.length ⟨0,rfl,rfl,rfl,1,rfl,by omega,by omega,rfl⟩ (fun i s h=>by obtain ⟨_,_,_,k,h⟩:=h;omega) ?_ (aI _)
    rintro i ⟨t,B,T'⟩ ⟨r0,rfl,rfl,k,r3,h1,h2,h3⟩
    simp only at r0 r3
    rw [<- h3]
    by_cases hlt : k < s.length
    ·have d1 : decide (((k : Nat) : Int) < s.length) = true:=by simp only [decide_eq_true_eq];omega
     have ex : s[k]? = some s[k]:=by simp [hlt]
     obtain ⟨b,hb⟩ : ∃ b,s[k] = b:=⟨_,rfl⟩
     rw [hb] at ex
     have ix:=fun q=>dU ex q
     have e95 : ((b.toNat : Int) == 95) = (b == 95):=eM b 95 (by decide)
     have rs:=pK (p:=b9) ex
     have nx : b9 (b.toNat : Int) = true -> (k + 1) + aX b9 (s.drop (k + 1)) = k + aX b9 (s.drop k):=fun h=>by rw [rs,h,if_pos rfl];omega
     rcases tf (eG (b.toNat : Int)) with g2 | g2
     ·have nx:=nx (by rw [fS,g2];rfl)
      simp +contextual only [r0,r3,d1,ix,q1,g2,bT k (by omega),go_sem]
      exact ⟨k + 1,rfl,by omega,by omega,nx⟩
     rcases tf (aB (b.toNat : Int)) with g3 | g3
     ·have nx:=nx (by rw [fS,g3];simp)
      simp +contextual only [r0,r3,d1,ix,q1,q2,g2,g3,bT k (by omega),go_sem]
      exact ⟨k + 1,rfl,by omega,by omega,nx⟩
     rcases tf (b == 95) with g4 | g4
     ·have nx:=nx (by rw [fS,e95,g4];simp)
      simp +contextual only [r0,r3,d1,ix,q1,q2,g2,g3,e95,g4,bT k (by omega),go_sem]
      exact ⟨k + 1,rfl,by omega,by omega,nx⟩
     ·have hw : b9 (b.toNat : Int) = false:=by rw [fS,e95,g2,g3,g4];rfl
      rw [rs,hw,if_neg (by decide)]
      have d3 : decide ((s.length : Int) < (k : Nat)) = false:=by simp only [decide_eq_false_iff_not];omega
      simp +contextual only [r0,r3,d1,ix,q1,q2,g2,g3,e95,g4,d3,go_sem]
    ·have d1 : decide (((k : Nat) : Int) < s.length) = false:=by simp only [decide_eq_false_iff_not];omega
     have d3 : decide ((s.length : Int) < (k : Nat)) = false:=by simp only [decide_eq_false_iff_not];omega
     rw [AE (by omega)]
     simp +contextual only [r0,r3,d1,d3,go_sem]
   rw [if_neg (by rw [g1];decide)]
   rcases tf (aB (c.toNat : Int) || c == 64) with g2 | g2
   ·rw [if_pos g2]
    have G : aB (c.toNat : Int) = true ∨ (aB (c.toNat : Int) = false /\ (c == 64) = true):=by
     rcases tf (aB (c.toNat : Int)) with h | h
     ·exact .inl h
     ·rw [h] at g2;exact .inr ⟨h,by simpa using g2⟩
    rcases G with gd | ⟨gd,g64⟩
    ·simp +contextual only [c99,ix0,q1,q2,g1,gd,go_sem]
     refine bG (fun i s'=>s'.t 0 = .str s /\ s'.H = H /\ s'.T = T /\ ∃ k : Nat,s'.t 3 = .int .i64 (k : Nat) /\ i + 1 <= k /\ k <= s.length /\ k + aX aB (s.drop k) = 1 + aX aB (s.drop 1)) s.length ⟨0,rfl,rfl,rfl,1,rfl,by omega,by omega,rfl⟩ (fun i s h=>by obtain ⟨_,_,_,k,h⟩:=h;omega) ?_ (aI _)
     rintro i ⟨t,B,T'⟩ ⟨r0,rfl,rfl,k,r3,h1,h2,h3⟩
     simp only at r0 r3
     rw [<- h3]
     by_cases hlt : k < s.length
     ·have d1 : decide (((k : Nat) : Int) < s.length) = true:=by simp only [decide_eq_true_eq];omega
      have ex : s[k]? = some s[k]:=by simp [hlt]
      obtain ⟨b,hb⟩ : ∃ b,s[k] = b:=⟨_,rfl⟩
      rw [hb] at ex
      have ix:=fun q=>dU ex q
      have e95 : ((b.toNat : Int) == 95) = (b == 95):=eM b 95 (by decide)
      have rs:=pK (p:=aB) ex
      rcases tf (aB (b.toNat : Int)) with g3 | g3
      ·have nx : (k + 1) + aX aB (s.drop (k + 1)) = k + aX aB (s.drop k):=by rw [rs,g3,if_pos rfl];omega
       simp +contextual only [r0,r3,d1,ix,q2,g3,bT k (by omega),go_sem]
       exact ⟨k + 1,rfl,by omega,by omega,nx⟩
      ·rw [rs,g3,if_neg (by decide),show k + 0 = k from rfl]
       have hE : c8 s k = (eG b.toNat || b == 95):=by unfold c8;rw [ex];simp only [A2x,e95]
       have d3 : decide ((s.length : Int) < (k : Nat)) = false:=by simp only [decide_eq_false_iff_not];omega
       rw [hE]
       rcases tf (eG (b.toNat : Int)) with g4 | g4
       ·rw [g4];simp +contextual only [r0,r3,d1,ix,q1,q2,g3,g4,go_sem]
       ·rcases tf (b == 95) with g5 | g5
        ·rw [g4,g5];simp +contextual only [r0,r3,d1,ix,q1,q2,g3,g4,e95,g5,go_sem]
        ·rw [g4,g5];simp +contextual only [r0,r3,d1,ix,q1,q2,g3,g4,e95,g5,d3,go_sem]
     ·have d1 : decide (((k : Nat) : Int) < s.length) = false:=by simp only [decide_eq_false_iff_not];omega
      have d3 : decide ((s.length : Int) < (k : Nat)) = false:=by simp only [decide_eq_false_iff_not];omega
      have hE : c8 s k = false:=by unfold c8;rw [List.getElem?_eq_none (by omega)]
      rw [AE (by omega),show k + 0 = k from rfl,hE]
      simp +contextual only [r0,r3,d1,d3,go_sem]
    ·simp +contextual only [c99,ix0,q1,q2,g1,gd,e64,g64,go_sem]
     refine bG (fun i s'=>s'.t 0 = .str s /\ s'.H = H /\ s'.T = T /\ ∃ k : Nat,s'.t 3 = .int .i64 (k : Nat) /\ i + 1 <= k /\ k <= s.length /\ k + aX aB (s.drop k) = 1 + aX aB (s.drop 1)) s.length ⟨0,rfl,rfl,rfl,1,rfl,by omega,by omega,rfl⟩ (fun i s h=>by obtain ⟨_,_,_,k,h⟩:=h;omega) ?_ (aI _)
     rintro i ⟨t,B,T'⟩ ⟨r0,rfl,rfl,k,r3,h1,h2,h3⟩
     simp only at r0 r3
     rw [<- h3]
     by_cases hlt : k < s.length
     ·have d1 : decide (((k : Nat) : Int) < s.length) = true:=by simp only [decide_eq_true_eq];omega
      have ex : s[k]? = some s[k]:=by simp [hlt]
      obtain ⟨b,hb⟩ : ∃ b,s[k] = b:=⟨_,rfl⟩
      rw [hb] at ex
      have ix:=fun q=>dU ex q
      have e95 : ((b.toNat : Int) == 95) = (b == 95):=eM b 95 (by decide)
      have rs:=pK (p:=aB) ex
      rcases tf (aB (b.toNat : Int)) with g3 | g3
      ·have nx : (k + 1) + aX aB (s.drop (k + 1)) = k + aX aB (s.drop k):=by rw [rs,g3,if_pos rfl];omega
       simp +contextual only [r0,r3,d1,ix,q2,g3,bT k (by omega),go_sem]
       exact ⟨k + 1,rfl,by omega,by omega,nx⟩
      ·rw [rs,g3,if_neg (by decide),show k + 0 = k from rfl]
       have hE : c8 s k = (eG b.toNat || b == 95):=by unfold c8;rw [ex];simp only [A2x,e95]
       have d3 : decide ((s.length : Int) < (k : Nat)) = false:=by simp only [decide_eq_false_iff_not];omega
       rw [hE]
       rcases tf (eG (b.toNat : Int)) with g4 | g4
       ·rw [g4];simp +contextual only [r0,r3,d1,ix,q1,q2,g3,g4,go_sem]
       ·rcases tf (b == 95) with g5 | g5
        ·rw [g4,g5];simp +contextual only [r0,r3,d1,ix,q1,q2,g3,g4,e95,g5,go_sem]
        ·rw [g4,g5];simp +contextual only [r0,r3,d1,ix,q1,q2,g3,g4,e95,g5,d3,go_sem]
     ·have d1 : decide (((k : Nat) : Int) < s.length) = false:=by simp only [decide_eq_false_iff_not];omega
      have d3 : decide ((s.length : Int) < (k : Nat)) = false:=by simp only [decide_eq_false_iff_not];omega
      have hE : c8 s k = false:=by unfold c8;rw [List.getElem?_eq_none (by omega)]
      rw [AE (by omega),show k + 0 = k from rfl,hE]
      simp +contextual only [r0,r3,d1,d3,go_sem]
   rw [if_neg (by rw [g2];decide)]
   have gd : aB (c.toNat : Int) = false /\ (c == 64) = false:=by simpa using g2
   rcases tf (c == 34) with g3 | g3
   ·rw [if_pos g3]
    simp +contextual only [c99,ix0,q1,q2,g1,gd.1,e64,gd.2,e34,g3,go_sem]
    refine bG (fun i s'=>s'.t 0 = .str s /\ s'.H = H /\ s'.T = T /\ ∃ k : Nat,s'.t 3 = .int .i64 (k : Nat) /\ i + 1 <= k /\ k <= s.length + 1 /\ (k <= s.length -> qL (s.drop k) k = qL (s.drop 1) 1) /\ (s.length < k -> qL (s.drop 1) 1 = k + 1)) (s.length + 1) ⟨0,rfl,rfl,rfl,1,rfl,by omega,by omega,fun _=>rfl,fun h=>by omega⟩ (fun i s h=>by obtain ⟨_,_,_,k,h⟩:=h;omega) ?_ (aI _)
    rintro i ⟨t,B,T'⟩ ⟨r0,rfl,rfl,k,r3,h1,h2,h3,h4⟩
    simp only at r0 r3
    have wk : IntKind.i64.wrap (((k : Nat) : Int) + 1) = ((k + 1 : Nat) : Int):=bT k (by omega)
    have wk2 : IntKind.i64.wrap (((k + 1 : Nat) : Int) + 1) = ((k + 1 + 1 : Nat) : Int):=bT (k + 1) (by omega)
    have fin : qL (s.drop 1) 1 = k + 1 -> (decide ((s.length : Int) < ((k + 1 : Nat) : Int)) = true /\ (if decide (s.length < qL (s.drop 1) 1) then 0 else qL (s.drop 1) 1) = 0) ∨ (decide ((s.length : Int) < ((k + 1 : Nat) : Int)) = false /\ (if decide (s.length < qL (s.drop 1) 1) then 0 else qL (s.drop 1) 1) = k + 1):=fun e=>by
     rw [e]
     by_cases hh : s.length < k + 1
     ·exact .inl ⟨by simp only [decide_eq_true_eq];omega,by rw [if_pos (by simpa using hh)]⟩
     ·exact .inr ⟨by simp only [decide_eq_false_iff_not];omega,by rw [if_neg (by simpa using hh)]⟩
    by_cases hlt : k < s.length
    ·have d1 : decide (((k : Nat) : Int) < s.length) = true:=by simp only [decide_eq_true_eq];omega
     have ex : s[k]? = some s[k]:=by simp [hlt]
     obtain ⟨b,hb⟩ : ∃ b,s[k] = b:=⟨_,rfl⟩
     rw [hb] at ex
     have ix:=fun q=>dU ex q
     have h3:=h3 (by omega)
     rw [fK ex,AA] at h3
     have e1 : ((b.toNat : Int) != 34) = (b != 34):=by simp only [bne];rw [show ((b.toNat : Int) == 34) = (b == 34) from eM b 34 (by decide)]
     have e2 : ((b.toNat : Int) == 92) = (b == 92):=eM b 92 (by decide)
     rcases tf (b == 34) with g4 | g4
     ·rw [if_pos g4] at h3
      have g4' : (b != 34) = false:=by simp [bne,g4]
      rcases fin h3.symm with ⟨f1,f2⟩ | ⟨f1,f2⟩
      ·rw [f2];simp +contextual only [r0,r3,d1,ix,e1,g4',wk,f1,go_sem]
      ·rw [f2];simp +contextual only [r0,r3,d1,ix,e1,g4',wk,f1,go_sem]
     rw [if_neg (by rw [g4];decide)] at h3
     have g4' : (b != 34) = true:=by simp [bne,g4]
     rcases tf (b == 92) with g5 | g5
     ·rw [if_pos g5] at h3
      simp +contextual only [r0,r3,d1,ix,e1,g4',e2,g5,wk,wk2,go_sem]
      refine ⟨k + 1 + 1,rfl,by omega,by omega,fun hk=>?_,fun hk=>?_⟩
      ·have ex2 : s[k + 1]? = some (s[k + 1]'(by omega)):=List.getElem?_eq_getElem (by omega)
       rw [fK ex2] at h3
       exact h3
      ·rw [List.drop_eq_nil_of_le (by omega)] at h3
       rw [<- h3]
     ·rw [if_neg (by rw [g5];decide)] at h3
      simp +contextual only [r0,r3,d1,ix,e1,g4',e2,g5,wk,go_sem]
      exact ⟨k + 1,rfl,by omega,by omega,fun _=>h3,fun hk=>by omega⟩
    ·have d1 : decide (((k : Nat) : Int) < s.length) = false:=by simp only [decide_eq_false_iff_not];omega
     have hq : qL (s.drop 1) 1 = k + 1:=by
      by_cases hk : k <= s.length
      ·rw [<- h3 hk,List.drop_eq_nil_of_le (by omega),DR]
      ·exact h4 (by omega)
     rcases fin hq with ⟨f1,f2⟩ | ⟨f1,f2⟩
     ·rw [f2];simp +contextual only [r0,r3,d1,wk,f1,go_sem]
     ·rw [f2];simp +contextual only [r0,r3,d1,wk,f1,go_sem]
   rw [if_neg (by rw [g3];decide)]
   by_cases hlt : 1 < s.length
   ·have d1 : decide ((1 : Int) < s.length) = true:=by simp only [decide_eq_true_eq];omega
    have d1' : decide (1 < s.length) = true:=by simpa using hlt
    have hs2:=hs2 (by omega)
    have d3 : decide ((s.length : Int) < 2) = false:=by simp only [decide_eq_false_iff_not];omega
    have d4 : decide ((s.length : Int) < 1) = false:=by simp only [decide_eq_false_iff_not];omega
    rw [d1']
    rcases tf (cD (s.take 2)) with g4 | g4
    ·rw [g4];simp +contextual only [c99,ix0,q1,q2,g1,gd.1,e64,gd.2,e34,g3,d1,hs2,qs,g4,d3,go_sem]
    ·rw [g4];simp +contextual only [c99,ix0,q1,q2,g1,gd.1,e64,gd.2,e34,g3,d1,hs2,qs,g4,d4,go_sem]
   ·have d1 : decide ((1 : Int) < s.length) = false:=by simp only [decide_eq_false_iff_not];omega
    have d1' : decide (1 < s.length) = false:=by simpa using hlt
    have d4 : decide ((s.length : Int) < 1) = false:=by simp only [decide_eq_false_iff_not];omega
    rw [d1']
    simp +contextual only [c99,ix0,q1,q2,g1,gd.1,e64,gd.2,e34,g3,d1,d4,go_sem]
  ·cases h
 ·cases h
def oQ (s : List UInt8) (most : Int) : Int × Nat :=
 if (decide (aX aB s < 1) || decide (19 < aX aB s) || c8 s (aX aB s)) || decide (most < (dP (s.take (aX aB s)) : Int)) then (0,0) else ((dP (s.take (aX aB s)) : Int),aX aB s)
theorem NQ (l : List UInt8) (a : Nat) (m : Int) : p8 l a m = oQ (l.drop a) m:=by
 unfold p8 oQ QZ c8 eX
 rw [qZ,List.getElem?_drop]
 try rfl
def KA (s : List UInt8) : D × Nat:=match cN.find? (nT s) with
 | some x=>(mkT 5 x 0,x.length)
 | none=>(mkT 0 [] 0,0)
def vE (s : List UInt8) : D × Nat:=match s with
 | []=>(mkT 0 [] 0,0)
 | c :: r =>
  if eG c.toNat then (if decide ((64 : Int) < (aX b9 s : Nat)) then (mkT 0 [] 0,0) else (mkT 1 (s.take (aX b9 s)) 0,aX b9 s))
  else if aB c.toNat then (mkT 2 [] (oQ s 9223372036854775807).1,(oQ s 9223372036854775807).2)
  else if c == 64 then (if ((oQ r 1099511627776).2 : Int) == 0 then (mkT 0 [] 0,0) else (mkT 4 [] (oQ r 1099511627776).1,(oQ r 1099511627776).2 + 1))
  else if c == 34 then (mkT 3 (oN r [] 1).1 0,(oN r [] 1).2)
  else KA s
theorem Lg {l : List UInt8} {a : Nat} (h : a < l.length) : oH l a = vE (l.drop a):=by
 have ex : l[a]? = some l[a]:=by simp [h]
 rw [Dv h,fK ex]
 have d1 : l.drop a = l[a] :: l.drop (a + 1):=fK ex
 unfold E3 vE wE KA CC eX
 rw [qZ,NQ,NQ]
 simp only [d1]
 rfl
def tV : List (List UInt8):=[[61,61],[33,61],[60,61],[62,61]]
def pL : List (List UInt8):=[[123],[125],[40],[41],[91],[93],[59],[46],[44],[43],[45],[42],[60],[62]]
theorem CY : cN = tV ++ pL:=rfl
theorem rO (s : List UInt8) : cD s = (pL.contains s || tV.contains s):=by
 have e : i6 = pL ++ tV:=rfl
 unfold cD
 rw [e,List.any_append]
 congr 1 <;> (rw [List.contains_eq_any_beq];congr 1;funext x;exact BEq.comm)
theorem Ba {s : List UInt8} {n : Nat} : ∀ {L : List (List UInt8)},(∀ x ∈ L,x.length = n) -> L.find? (nT s) = if L.contains (s.take n) then some (s.take n) else none
 | [],_=>rfl
 | x :: L,h=>by
  have hx:=h x (by simp)
  have ih:=Ba (s:=s) (n:=n) (L:=L) fun y hy=>h y (by simp [hy])
  have e : nT s x = (s.take n == x):=by unfold nT;rw [hx]
  rw [List.find?_cons,e,ih]
  rcases tf (s.take n == x) with g | g
  ·rw [g]
   have g' : s.take n = x:=by simpa using g
   simp [List.contains_cons,g']
  ·rw [g]
   simp only [List.contains_cons,g,Bool.false_or]
theorem EZ {s : List UInt8} (h : s.length ≠ 2) : tV.contains s = false:=by
 rw [Bool.eq_false_iff];intro hc
 have:=List.contains_iff_mem.1 hc
 have key : ∀ x ∈ tV,x.length = 2:=by decide
 exact h (key s this)
theorem JB {s : List UInt8} (h : s.length ≠ 1) : pL.contains s = false:=by
 rw [Bool.eq_false_iff];intro hc
 have:=List.contains_iff_mem.1 hc
 have key : ∀ x ∈ pL,x.length = 1:=by decide
 exact h (key s this)
theorem qO {s : List UInt8} (h : 2 < s.length) : cD s = false:=by
 rw [rO,EZ (by omega),JB (by omega)];rfl
theorem Of (c : UInt8) (r : List UInt8) : KA (c :: r) = if decide (1 < (c :: r).length) && cD ((c :: r).take 2) then (mkT 5 ((c :: r).take 2) 0,2) else if cD [c] then (mkT 5 [c] 0,1) else (mkT 0 [] 0,0):=by
 unfold KA
 rw [CY,List.find?_append,Ba (n:=2) (by decide),Ba (n:=1) (by decide)]
 have e1 : (c :: r).take 1 = [c]:=rfl
 rw [e1]
 have s1 : cD [c] = pL.contains [c]:=by rw [rO,EZ (s:=[c]) (by simp)];simp
 cases r with
 | nil =>
  have e2 : [c].take 2 = [c]:=rfl
  rw [e2,EZ (s:=[c]) (by simp),s1]
  have d : decide (1 < [c].length) = false:=by simp
  rw [d]
  rcases tf (pL.contains [c]) with g | g <;> rw [g] <;> rfl
 | cons d r =>
  have e2 : (c :: d :: r).take 2 = [c,d]:=rfl
  have s2 : cD [c,d] = tV.contains [c,d]:=by rw [rO,JB (s:=[c,d]) (by simp)];simp
  have dd : decide (1 < (c :: d :: r).length) = true:=by simp
  rw [e2,s1,s2,dd]
  rcases tf (tV.contains [c,d]) with g | g
  ·rw [g];rfl
  ·rw [g]
   rcases tf (pL.contains [c]) with g2 | g2 <;> rw [g2] <;> rfl
theorem rJ : ∀ (n : Nat) (m out : List UInt8),m.length <= n -> 64 < out.length -> (mC m out).2 = false
 | _,[],out,_,h=>by rw [Ar];simp;omega
 | 0,_ :: _,_,h,_=>by simp at h
 | n + 1,c :: r,out,hn,h=>by
  rw [rL]
  split
  ·rfl
  split
  ·cases r with
   | nil=>rfl
   | cons d r =>
    simp only
    split
    ·rfl
    ·exact rJ n r _ (by simp at hn ⊢;omega) (by simp;omega)
  ·exact rJ n r _ (by simp at hn;omega) (by simp;omega)
theorem zK : ∀ (n : Nat) (r : List UInt8) (k : Nat),r.length <= n -> k + 1 <= qL r k
 | _,[],k,_=>by rw [DR];omega
 | 0,_ :: _,_,h=>by simp at h
 | n + 1,c :: r,k,h=>by
  rw [AA]
  split
  ·omega
  split
  ·cases r with
   | nil=>simp
   | cons d r=>have:=zK n r (k + 2) (by simp at h ⊢;omega);simp only;omega
  ·have:=zK n r (k + 1) (by simp at h;omega);omega
def Dl (r out : List UInt8) (k : Nat) : List UInt8 × Nat :=
 if k + r.length < qL r k then ([],0) else if (mC (r.take (qL r k - k - 1)) out).2 then ((mC (r.take (qL r k - k - 1)) out).1,qL r k) else ([],0)
theorem LY : ∀ (n : Nat) (r out : List UInt8) (k : Nat),r.length <= n -> out.length <= 64 -> oN r out k = Dl r out k
 | _,[],out,k,_,_=>by
  unfold Dl;rw [vD,DR,if_pos (by simp)]
 | 0,_ :: _,_,_,h,_=>by simp at h
 | n + 1,c :: r,out,k,hn,ho=>by
  have hn : r.length <= n:=by simp at hn;omega
  rw [sA]
  unfold Dl
  rw [AA]
  rcases tf (c == 34) with g1 | g1
  ·rw [if_pos g1,if_pos g1,if_neg (by simp)]
   have e : k + 1 - k - 1 = 0:=by omega
   rw [e,List.take_zero,Ar]
   have : decide (((out.length : Nat) : Int) <= 64) = true:=by simp only [decide_eq_true_eq];omega
   rw [this,if_pos rfl]
  have n1 : ¬ ((c == 34) = true):=by rw [g1];decide
  rw [if_neg n1,if_neg n1]
  rcases tf (c == 92) with g2 | g2
  ·rw [if_pos g2,if_pos g2]
   have hp : dY (c.toNat : Int) = true:=by
    have : c = 92:=by simpa using g2
    subst this;decide
   cases r with
   | nil=>simp only;rw [if_pos (by simp)]
   | cons d r =>
    simp only
    have hge:=zK _ r (k + 2) (Nat.le_refl _)
    have ih:=fun o ho=>LY n r o (k + 2) (by simp at hn;omega) ho
    have hlen : (c :: d :: r).length = r.length + 2:=rfl
    by_cases hq : k + (c :: d :: r).length < qL r (k + 2)
    ·rw [if_pos hq]
     split
     ·rfl
     split
     ·rfl
     ·rename_i h64
      have h64 : out.length + 1 <= 64:=by simp only [decide_eq_true_eq] at h64;omega
      rw [ih _ (by simp;omega)]
      unfold Dl;rw [if_pos (by omega)]
    ·rw [if_neg hq]
     have et : (c :: d :: r).take (qL r (k + 2) - k - 1) = c :: d :: r.take (qL r (k + 2) - (k + 2) - 1):=by
      have : qL r (k + 2) - k - 1 = (qL r (k + 2) - (k + 2) - 1) + 2:=by omega
      rw [this];rfl
     have eB : ∀ m,mC (c :: d :: m) out = if (d != 34) && (d != 92) then ([],false) else mC m (out ++ [d]):=fun m=>by
      rw [rL,if_neg (by rw [g1,hp];decide),if_pos g2]
     rw [et,eB]
     rcases tf ((d != 34) && (d != 92)) with g3 | g3
     ·rw [if_pos g3,if_pos g3];rfl
     have n3 : ¬ (((d != 34) && (d != 92)) = true):=by rw [g3];decide
     rw [if_neg n3,if_neg n3]
     by_cases h64 : 64 < out.length + 1
     ·rw [if_pos (by simpa using h64)]
      have:=rJ _ (r.take (qL r (k + 2) - (k + 2) - 1)) (out ++ [d]) (Nat.le_refl _) (by simp;omega)
      rw [if_neg (by rw [this];decide)]
     ·rw [if_neg (by simpa using h64),ih _ (by simp;omega)]
      unfold Dl;rw [if_neg (by simp at hq;omega)]
  have n2 : ¬ ((c == 92) = true):=by rw [g2];decide
  rw [if_neg n2,if_neg n2]
  have hge:=zK _ r (k + 1) (Nat.le_refl _)
  have ih:=fun o ho=>LY n r o (k + 1) hn ho
  have hlen : (c :: r).length = r.length + 1:=rfl
  by_cases hq : k + (c :: r).length < qL r (k + 1)
  ·rw [if_pos hq]
   split
   ·rfl
   split
   ·rfl
   ·rename_i h64
    have h64 : out.length + 1 <= 64:=by simp only [decide_eq_true_eq] at h64;omega
    rw [ih _ (by simp;omega)]
    unfold Dl;rw [if_pos (by omega)]
  ·rw [if_neg hq]
   have et : (c :: r).take (qL r (k + 1) - k - 1) = c :: r.take (qL r (k + 1) - (k + 1) - 1):=by
    have : qL r (k + 1) - k - 1 = (qL r (k + 1) - (k + 1) - 1) + 1:=by omega
    rw [this];rfl
   have eB : ∀ m,mC (c :: m) out = if !(dY c.toNat) then ([],false) else mC m (out ++ [c]):=fun m=>by
    rw [rL,g1,Bool.false_or,if_neg n2]
   rw [et,eB]
   rcases tf (!(dY (c.toNat : Int))) with g3 | g3
   ·rw [if_pos g3,if_pos g3];rfl
   have n3 : ¬ ((!(dY (c.toNat : Int))) = true):=by rw [g3];decide
   rw [if_neg n3,if_neg n3]
   by_cases h64 : 64 < out.length + 1
   ·rw [if_pos (by simpa using h64)]
    have:=rJ _ (r.take (qL r (k + 1) - (k + 1) - 1)) (out ++ [c]) (Nat.le_refl _) (by simp;omega)
    rw [if_neg (by rw [this];decide)]
   ·rw [if_neg (by simpa using h64),ih _ (by simp;omega)]
    unfold Dl;rw [if_neg (by simp at hq;omega)]
theorem EH : ∀ (n : Nat) (r : List UInt8) (k : Nat),r.length <= n -> qL r k <= k + r.length -> r[qL r k - k - 1]? = some 34
 | _,[],k,_,h=>by rw [DR] at h;exfalso;simp at h;omega
 | 0,_ :: _,_,h,_=>by simp at h
 | n + 1,c :: r,k,hn,h=>by
  have hn : r.length <= n:=by simp at hn;omega
  rw [AA] at h ⊢
  rcases tf (c == 34) with g1 | g1
  ·rw [if_pos g1]
   have : c = 34:=by simpa using g1
   subst this
   have e : k + 1 - k - 1 = 0:=by omega
   rw [e];rfl
  have n1 : ¬ ((c == 34) = true):=by rw [g1];decide
  rw [if_neg n1] at h ⊢
  rcases tf (c == 92) with g2 | g2
  ·rw [if_pos g2] at h ⊢
   cases r with
   | nil=>simp only at h;simp at h
   | cons d r =>
    simp only at h ⊢
    have hge:=zK _ r (k + 2) (Nat.le_refl _)
    have ih:=EH n r (k + 2) (by simp at hn;omega) (by simp at h;omega)
    have : qL r (k + 2) - k - 1 = (qL r (k + 2) - (k + 2) - 1) + 2:=by omega
    rw [this]
    simpa using ih
  have n2 : ¬ ((c == 92) = true):=by rw [g2];decide
  rw [if_neg n2] at h ⊢
  have hge:=zK _ r (k + 1) (Nat.le_refl _)
  have ih:=EH n r (k + 1) hn (by simp at h;omega)
  have : qL r (k + 1) - k - 1 = (qL r (k + 1) - (k + 1) - 1) + 1:=by omega
  rw [this]
  simpa using ih
theorem KE {r : List UInt8} (h : qL r 1 <= (34 :: r).length) : zD ((34 :: r).take (qL r 1)) = mC (r.take (qL r 1 - 1 - 1)) []:=by
 have hge:=zK _ r 1 (Nat.le_refl _)
 have hl:=EH _ r 1 (Nat.le_refl _) (by simp at h;omega)
 obtain ⟨n,hn⟩ : ∃ n,qL r 1 = n:=⟨_,rfl⟩
 rw [hn] at h hge hl ⊢
 have hlen : ((34 :: r).take n).length = n:=by simp at h ⊢;omega
 unfold zD
 rw [hlen]
 rw [if_neg (by simp;omega)]
 have h0 : ((34 :: r).take n)[0]? = some (34 : UInt8):=by
  rw [List.getElem?_take,if_pos (by omega)];rfl
 have h1 : ((34 :: r).take n)[n - 1]? = some (34 : UInt8):=by
  rw [List.getElem?_take,if_pos (by omega)]
  have : n - 1 = (n - 1 - 1) + 1:=by omega
  rw [this];simpa using hl
 rw [h0,h1,if_neg (by decide)]
 congr 1
 rw [List.take_take,Nat.min_eq_left (by omega)]
 have : n - 1 = (n - 1 - 1) + 1:=by omega
 rw [this];rfl
end GP
