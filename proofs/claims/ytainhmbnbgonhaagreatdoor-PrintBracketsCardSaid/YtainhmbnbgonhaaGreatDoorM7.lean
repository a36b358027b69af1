import Derived.Conc.EntryLaws
import Derived.Ground.SlsfProg
import Derived.Lib.Bytealg
import Derived.Shelf.Lay
import Derived.Test.YtainhmbnbgonhaaGreatDoorM4
import Derived.Test.YtainhmbnbgonhaaGreatDoorM5
import Derived.Test.YtainhmbnbgonhaaGreatDoorM6
set_option linter.unusedSimpArgs false
set_option linter.unnecessarySimpa false
namespace GP
open Go Go.Proofs
set_option maxRecDepth 100000
def accW (sz : Nat) (T : Tk) (xs : List D) (d : D) (T' : Tk) : Prop:=(xs = [] /\ d = .nils /\ T' = T) ∨ (xs ≠ [] /\ ∃ L i,T' = T ++ L /\ d = .sl (some (T.length + i)) xs /\ L[i]? = some (some (xs.length,sz)))
theorem app_accW {sz bytes : Nat} {K : D -> S -> Prop} {t : Nat -> D} {H : Hp} {T T' : Tk} {xs : List D} {d : D} (x : D) (h : accW sz T xs d T') (hx : fit sz x = true) (hxs : xs.all (fit sz) = true) (hb : (xs.length + 1) * bytes <= 2 ^ 47) (hb2 : xs.length + 1 < 2 ^ 62)
  (k : ∀ d2 T2,accW sz T (xs ++ [x]) d2 T2 -> K d2 ⟨t,H,T2⟩) : appK sz bytes K ⟨t,H,T' ++ [some (1,sz)]⟩ d (some [x]):=by
 rcases h with ⟨rfl,rfl,rfl⟩ | ⟨h0,L,i,rfl,rfl,hL⟩
 ·rw [appK_nils1]
  refine ⟨by simp [hx],by simpa using hb,by simp,k _ _ (.inr ⟨by simp,[some (1,sz),some (1,sz)],1,?_,?_,rfl⟩)⟩
  ·simp
  ·simp
 ·have hi : i < L.length:=by
   rcases Nat.lt_or_ge i L.length with h | h
   ·exact h
   ·rw [List.getElem?_eq_none h] at hL;cases hL
  rw [List.append_assoc,appK_tok]
  refine ⟨by simp [hx],?_,by simpa using hb,by simpa using hb2,hxs,k _ _ (.inr ⟨by simp,_,i,rfl,rfl,?_⟩)⟩
  ·rw [List.getElem?_append_left hi,hL]
  ·rw [List.getElem?_set_self (by simp;omega)];simp
theorem accW_ext {sz : Nat} {T : Tk} {xs : List D} {d : D} {T' : Tk} (h : accW sz T xs d T') : ExtT T T':=by
 rcases h with ⟨_,_,rfl⟩ | ⟨_,L,_,rfl,_⟩
 ·exact ExtT.refl _
 ·exact ExtT.of T L
theorem accW_erase {sz : Nat} {T : Tk} {xs : List D} {d : D} {T' : Tk} (h : accW sz T xs d T') (he : D.eraseL xs = xs) : d.erase = sliceD true xs:=by
 rcases h with ⟨rfl,rfl,_⟩ | ⟨h0,L,i,_,rfl,_⟩
 ·rfl
 ·have : xs.isEmpty = false:=by cases xs with
   | nil=>exact (h0 rfl).elim
   | cons=>rfl
  simp [sliceD,this,D.erase,he]
end GP
namespace GP
open Go Go.Proofs
set_option maxRecDepth 100000
def pLet (n : Int) : Bool:=decide (97 <= n) && decide (n <= 122)
theorem pWord_let (n : Int) : pWord n = (pLet n || n == 95 || pDigit n):=rfl
theorem ok162 : OkAt Tryz.prog 162 (φb pLet):=by
 refine ok_of (l:=[]) .nil fn162 fun args r h=>?_
 unfold φb at h
 split at h
 ·rename_i n
  injection h with h;subst h
  refine ⟨by simp,by simp [D.cl],fun H T=>?_⟩
  unfold pLet
  rcases tf (decide (97 <= n)) with h1 | h1 <;> simp +contextual (maxSteps:=10000000) only [c162,h1,go_sem]
 ·cases h
theorem ok163 : OkAt Tryz.prog 163 (φb pDigit):=by
 refine ok_of (l:=[]) .nil fn163 fun args r h=>?_
 unfold φb at h
 split at h
 ·rename_i n
  injection h with h;subst h
  refine ⟨by simp,by simp [D.cl],fun H T=>?_⟩
  unfold pDigit
  rcases tf (decide (48 <= n)) with h1 | h1 <;> simp +contextual (maxSteps:=10000000) only [c163,h1,go_sem]
 ·cases h
def signsR : List (List UInt8):=[[123],[125],[40],[41],[91],[93],[59],[46],[44],[43],[45],[42],[60],[62],[61,61],[33,61],[60,61],[62,61]]
def φsignsR : List D -> Option D
 | []=>some (.sl none (signsR.map .str))
 | _=>none
theorem ok173 : OkAt Tryz.prog 173 φsignsR:=by
 refine ok_of (l:=[]) .nil fn173 fun args r h=>?_
 unfold φsignsR at h
 split at h
 ·injection h with h;subst h
  refine ⟨by simp,by decide,fun H T=>?_⟩
  simp +contextual (maxSteps:=10000000) only [c173,go_sem]
  rfl
 ·cases h
def isSign (s : List UInt8) : Bool:=signsR.any (fun x=>x == s)
def φsign : List D -> Option D
 | [.str s]=>some (.bool (isSign s))
 | _=>none
theorem any_take_no {α : Type} {p : α -> Bool} {xs : List α} {i : Nat} {x : α} (hx : xs[i]? = some x) (h : (xs.take i).any p = false) (hp : p x = false) : (xs.take (i + 1)).any p = false:=by
 rw [List.take_add_one,hx];simp [h,hp]
theorem any_hit {α : Type} {p : α -> Bool} {xs : List α} {i : Nat} {x : α} (hx : xs[i]? = some x) (hp : p x = true) : xs.any p = true:=List.any_eq_true.2 ⟨x,List.mem_of_getElem? hx,hp⟩
theorem ok110 : OkAt Tryz.prog 110 φsign:=by
 refine ok_of (l:=[(173,φsignsR)]) (.cons ok173 .nil) fn110 fun args r h=>?_
 unfold φsign at h
 split at h
 ·rename_i s
  injection h with h;subst h
  refine ⟨by simp,by simp [D.cl],fun H T=>?_⟩
  have ps : φsignsR [] = some (.sl none (signsR.map .str)):=rfl
  have eS : D.eraseL (signsR.map D.str) = signsR.map D.str:=rfl
  have lS : (signsR.map D.str).length = 18:=rfl
  have get : ∀ j,j < 18 -> ∃ x,(signsR.map D.str)[j]? = some (.str x) /\ signsR[j]? = some x:=fun j h=>by
   have hl : j < signsR.length:=h
   exact ⟨signsR[j],by simp [hl],by simp [hl]⟩
  obtain ⟨SB,hSB⟩ : ∃ z,signsR.map D.str = z:=⟨_,rfl⟩
  rw [hSB] at ps eS lS get
  simp +contextual (maxSteps:=10000000) only [c110,ps,eS,go_sem]
  refine W_for (fun j s'=>s'.t 0 = .str s /\ s'.t 3 = .sl none SB /\ s'.t 4 = .int .i64 (j : Nat) /\ s'.H = H /\ s'.T = T /\ j <= 18 /\ (signsR.take j).any (fun x=>x == s) = false) 18 ⟨0,by simp [upd,argT]⟩ (fun i s h=>h.2.2.2.2.2.1) ?_ (XL_mono _)
  rintro j ⟨t,B,T'⟩ ⟨r0,r3,r4,rfl,rfl,hj,hc⟩
  simp only at r0 r3 r4
  by_cases hlt : j < 18
  ·have d1 : decide (((j : Nat) : Int) < SB.length) = true:=by rw [lS];simp only [decide_eq_true_eq];omega
   obtain ⟨x,f1,f2⟩:=get j hlt
   rcases tf (x == s) with q | q
   ·have hT : isSign s = true:=any_hit (p:=fun x=>x == s) f2 q
    rw [hT]
    simp +contextual (maxSteps:=10000000) only [r0,r3,r4,d1,f1,q,go_sem]
   ·have nx:=any_take_no (p:=fun x=>x == s) f2 hc q
    simp +contextual (maxSteps:=10000000) only [r0,r3,r4,d1,f1,q,wrap_su j (by omega),go_sem]
    exact ⟨by omega,nx⟩
  ·have d1 : decide (((j : Nat) : Int) < SB.length) = false:=by rw [lS];simp only [decide_eq_false_iff_not];omega
   have hT : isSign s = false:=by
    have : j = signsR.length:=by show j = 18;omega
    subst this;rw [List.take_length] at hc
    exact hc
   rw [hT]
   simp +contextual (maxSteps:=10000000) only [r0,r3,r4,d1,go_sem]
 ·cases h
def wordB (s : List UInt8) : Bool:=match s with
 | []=>false
 | c :: r=>pLet c.toNat && r.all (fun b=>pWord b.toNat) && decide ((s.length : Int) <= 64)
def okAtW (j : Nat) (b : UInt8) : Bool:=if j = 0 then pLet b.toNat else pWord b.toNat
theorem wordB_no {s : List UInt8} {j : Nat} {b : UInt8} (h : s[j]? = some b) (hb : okAtW j b = false) : wordB s = false:=by
 cases s with
 | nil=>rfl
 | cons c r =>
  cases j with
  | zero =>
   simp at h;subst h
   have hb : pLet (c.toNat : Int) = false:=hb
   simp [wordB,hb]
  | succ j =>
   have h : r[j]? = some b:=by simpa using h
   have hb : pWord (b.toNat : Int) = false:=hb
   have : r.all (fun b=>pWord b.toNat) = false:=List.all_eq_false.2 ⟨b,List.mem_of_getElem? h,by simp [hb]⟩
   simp [wordB,this]
theorem wordB_end {s : List UInt8} (h : ∀ j b,s[j]? = some b -> okAtW j b = true) : wordB s = (decide ((0 : Int) < s.length) && decide ((s.length : Int) <= 64)):=by
 cases s with
 | nil=>rfl
 | cons c r =>
  have h0 : pLet (c.toNat : Int) = true:=h 0 c rfl
  have h1 : r.all (fun b=>pWord b.toNat) = true:=List.all_eq_true.2 fun b hb=>by
   obtain ⟨j,hj⟩:=List.getElem?_of_mem hb
   exact h (j + 1) b (by simpa using hj)
  have : decide ((0 : Int) < ((c :: r).length : Nat)) = true:=by simp
  rw [this];simp only [wordB,h0,h1,Bool.true_and]
def φword : List D -> Option D
 | [.str s]=>if s.length <= 2 ^ 60 then some (.bool (wordB s)) else none
 | _=>none
set_option maxHeartbeats 4000000 in
theorem ok109 : OkAt Tryz.prog 109 φword:=by
 refine ok_of (l:=[(162,φb pLet),(163,φb pDigit)]) (.cons ok162 (.cons ok163 .nil)) fn109 fun args r h=>?_
 unfold φword at h
 split at h
 ·rename_i s
  split at h
  ·rename_i hl
   injection h with h;subst h
   refine ⟨by simp,by simp [D.cl],fun H T=>?_⟩
   simp +contextual (maxSteps:=10000000) only [c109,go_sem]
   refine W_for (fun i s'=>s'.t 0 = .str s /\ s'.t 3 = .int .i64 (i : Nat) /\ s'.H = H /\ s'.T = T /\ i <= s.length /\ ∀ j b,j < i -> s[j]? = some b -> okAtW j b = true) s.length ⟨0,by simp [upd,argT]⟩ (fun i s h=>h.2.2.2.2.1) ?_ (XL_mono _)
   rintro i ⟨t,B,T'⟩ ⟨r0,r3,rfl,rfl,hi,hc⟩
   simp only at r0 r3
   by_cases hlt : i < s.length
   ·have d1 : decide (((i : Nat) : Int) < s.length) = true:=by simp only [decide_eq_true_eq];omega
    have ex : s[i]? = some s[i]:=by simp [hlt]
    obtain ⟨b,hb⟩ : ∃ b,s[i] = b:=⟨_,rfl⟩
    rw [hb] at ex
    have ix:=fun q=>ixs_at ex q
    have no:=fun hp=>wordB_no ex hp
    have nx : okAtW i b = true -> ∀ j b,j < i + 1 -> s[j]? = some b -> okAtW j b = true:=fun hp j c hj hc'=>by
     rcases Nat.lt_or_ge j i with h' | h'
     ·exact hc j c h' hc'
     ·have : j = i:=by omega
      subst this;rw [ex] at hc';injection hc' with hc';subst hc';exact hp
    have q1 : φb pLet [.int .u8 (b.toNat : Int)] = some (.bool (pLet b.toNat)):=rfl
    have q2 : φb pDigit [.int .u8 (b.toNat : Int)] = some (.bool (pDigit b.toNat)):=rfl
    rcases tf (pLet (b.toNat : Int)) with g1 | g1
    ·have nx:=nx (by unfold okAtW;split <;> simp [g1,pWord_let])
     simp +contextual (maxSteps:=10000000) only [r0,r3,d1,ix,q1,g1,wrap_su i (by omega),go_sem]
     exact ⟨by omega,nx⟩
    by_cases h0 : i = 0
    ·have e0 : (((i : Nat) : Int) == 0) = true:=by rw [beq_iff_eq];omega
     have no:=no (by unfold okAtW;rw [if_pos h0];exact g1)
     rw [no]
     simp +contextual (maxSteps:=10000000) only [r0,r3,d1,ix,q1,g1,e0,go_sem]
    have e0 : (((i : Nat) : Int) == 0) = false:=by rw [beq_eq_false_iff_ne];omega
    rcases tf (pDigit (b.toNat : Int)) with g2 | g2
    ·have nx:=nx (by unfold okAtW;rw [if_neg h0,pWord_let,g2];simp)
     simp +contextual (maxSteps:=10000000) only [r0,r3,d1,ix,q1,q2,g1,g2,e0,wrap_su i (by omega),go_sem]
     exact ⟨by omega,nx⟩
    rcases tf ((b.toNat : Int) == 95) with g3 | g3
    ·have nx:=nx (by unfold okAtW;rw [if_neg h0,pWord_let,g3];simp)
     have g3' : ((b.toNat : Int) != 95) = false:=by simp only [bne,g3];rfl
     simp +contextual (maxSteps:=10000000) only [r0,r3,d1,ix,q1,q2,g1,g2,g3',e0,wrap_su i (by omega),go_sem]
     exact ⟨by omega,nx⟩
    ·have no:=no (by unfold okAtW;rw [if_neg h0,pWord_let,g1,g2,g3];rfl)
     have g3' : ((b.toNat : Int) != 95) = true:=by simp only [bne,g3];rfl
     rw [no]
     simp +contextual (maxSteps:=10000000) only [r0,r3,d1,ix,q1,q2,g1,g2,g3',e0,go_sem]
   ·have d1 : decide (((i : Nat) : Int) < s.length) = false:=by simp only [decide_eq_false_iff_not];omega
    have hE:=wordB_end (s:=s) fun j b hj=>hc j b (by
     rcases Nat.lt_or_ge j s.length with h' | h'
     ·omega
     ·rw [List.getElem?_eq_none h'] at hj;cases hj) hj
    rw [hE]
    rcases tf (decide ((0 : Int) < s.length)) with g | g <;> simp +contextual (maxSteps:=10000000) only [r0,r3,d1,g,go_sem]
  ·cases h
 ·cases h
def tupR (p : Int × Bool) : D:=.tup [.int .i64 p.1,.bool p.2]
end GP
namespace GP
open Go Go.Proofs
set_option maxRecDepth 100000
theorem runL_cons {p : Int -> Bool} (c : UInt8) (r : List UInt8) (h : p c.toNat = true) : runL p (c :: r) = 1 + runL p r:=by
 unfold runL;simp only [List.takeWhile_cons,h,if_true,List.length_cons];omega
end GP
namespace GP
open Go Go.Proofs
set_option maxRecDepth 100000
def signs2 : List (List UInt8):=[[61,61],[33,61],[60,61],[62,61]]
def signs1 : List (List UInt8):=[[123],[125],[40],[41],[91],[93],[59],[46],[44],[43],[45],[42],[60],[62]]
theorem signsB_12 : signsB = signs2 ++ signs1:=rfl
theorem isSign_12 (s : List UInt8) : isSign s = (signs1.contains s || signs2.contains s):=by
 have e : signsR = signs1 ++ signs2:=rfl
 unfold isSign
 rw [e,List.any_append]
 congr 1 <;> (rw [List.contains_eq_any_beq];congr 1;funext x;exact BEq.comm)
end GP
namespace GP
open Go Go.Proofs
set_option maxRecDepth 100000
theorem wordB_cons (c : UInt8) (r : List UInt8) : wordB (c :: r) = (pLet c.toNat && r.all (fun b=>pWord b.toNat) && decide (((c :: r).length : Int) <= 64)):=rfl
end GP
namespace GP
open Go Go.Proofs
set_option maxRecDepth 100000
def zeroV : D:=.agg [.int .i64 0,.int .i64 0,.str [],.nils]
def num (n : Int) : D:=.agg [.int .i64 2,.int .i64 n,.str [],.nils]
def φTruth : List D -> Option D
 | [.bool b]=>some (.agg [.int .i64 1,.int .i64 (if b then 1 else 0),.str [],.nils])
 | _=>none
def φNumber : List D -> Option D
 | [.int .i64 n]=>some (num n)
 | _=>none
theorem ok244 [HasG Tryz.prog] : OkAt Tryz.prog 244 φTruth:=by
 refine ok_of (l:=[]) Ok.nil fn244 fun args r h=>?_
 unfold φTruth at h
 split at h
 ·injection h with h;subst h
  refine ⟨by simp,by simp [D.cl,D.clL],fun H T=>?_⟩
  rename_i b
  cases b <;> simp +contextual (maxSteps:=10000000) only [c244,go_sem]
 ·cases h
theorem ok242 [HasG Tryz.prog] : OkAt Tryz.prog 242 φNumber:=by
 refine ok_of (l:=[]) Ok.nil fn242 fun args r h=>?_
 unfold φNumber at h
 split at h
 ·injection h with h;subst h
  refine ⟨by simp,by simp [D.cl,D.clL,num],fun H T=>?_⟩
  simp +contextual (maxSteps:=10000000) only [c242,num,go_sem]
 ·cases h
def plainB (k i : Int) (s : List UInt8) (n : Nat) : Bool :=
 if decide ((0 : Int) < n) then false else if (k != 3) && (s != []) then false else
 if k == 0 then i == 0 else if k == 1 then i == 0 || i == 1 else if k == 2 then true else
 if k == 3 then i == 0 && decide ((s.length : Int) <= 64) else if k == 4 then decide (0 <= i) && decide (i <= 1099511627776) else false
def φplain : List D -> Option D
 | [.agg [.int .i64 k,.int .i64 i,.str s,l]]=>match lenD l with
  | some n=>some (.bool (plainB k i s n))
  | none=>none
 | _=>none
theorem lenD_okc {l : D} {n : Nat} (h : lenD l = some n) : l.okc = true /\ l.cells = [l]:=by
 cases l <;> simp [lenD] at h <;> exact ⟨rfl,rfl⟩
theorem ok179 [HasG Tryz.prog] : OkAt Tryz.prog 179 φplain:=by
 refine ok_of (l:=[]) Ok.nil fn179 fun args r h=>?_
 unfold φplain at h
 split at h
 ·split at h
  ·rename_i k i s l n hn
   injection h with h;subst h
   refine ⟨by simp,by simp [D.cl,D.clL,num],fun H T=>?_⟩
   have hl:=lenD_okc hn
   simp +contextual (maxSteps:=10000000) only [c179,plainB,hn,hl.1,hl.2,go_sem]
  ·cases h
 ·cases h
theorem wrap_of (a : Int) (h : -(2 ^ 63) <= a) (h' : a < 2 ^ 63) : IntKind.i64.wrap a = a:=by
 have e : IntKind.i64.wrap a = if a % (2 ^ 64 : Int) ≥ (2 ^ 63 : Int) then a % (2 ^ 64 : Int) - (2 ^ 64 : Int) else a % (2 ^ 64 : Int):=by
  simp [IntKind.wrap,IntKind.bits,IntKind.signed]
 rw [e]
 split <;> omega
theorem wrap_nat (n : Nat) (h : n < 2 ^ 62) : IntKind.i64.wrap (n : Int) = n:=wrap_of _ (by omega) (by omega)
theorem wrap_succ (n : Nat) (h : n < 2 ^ 61) : IntKind.i64.wrap ((n : Int) + 1) = ((n + 1 : Nat) : Int):=by
 have:=wrap_nat (n + 1) (by omega)
 rw [<- this];simp
@[go_sem] theorem ixs_nat (s : List UInt8) (k : IntKind) (i : Nat) : ixs (.str s) (.int k (i : Int)) = (s[i]?).map fun b=>.int .u8 (b.toNat : Int):=by
 simp [ixs]
def cmpI (a b : Int) : Int:=if a < b then -1 else if b < a then 1 else 0
def cmpS : List UInt8 -> List UInt8 -> Int
 | [],[]=>0
 | [],_ :: _=>-1
 | _ :: _,[]=>1
 | x :: a,y :: b=>if x.toNat < y.toNat then -1 else if y.toNat < x.toNat then 1 else cmpS a b
def φnumbers : List D -> Option D
 | [.int .i64 a,.int .i64 b]=>some (.int .i64 (cmpI a b))
 | _=>none
theorem ok203 [HasG Tryz.prog] : OkAt Tryz.prog 203 φnumbers:=by
 refine ok_of (l:=[]) Ok.nil fn203 fun args r h=>?_
 unfold φnumbers at h
 split at h
 ·injection h with h;subst h
  refine ⟨by simp,by simp [D.cl],fun H T=>?_⟩
  simp +contextual (maxSteps:=10000000) only [c203,cmpI,go_sem]
  simp
  omega
 ·cases h
def φTexts : List D -> Option D
 | [.str a,.str b]=>if a.length <= 2 ^ 47 /\ b.length <= 2 ^ 47 then some (.int .i64 (cmpS a b)) else none
 | _=>none
theorem ok204 [HasG Tryz.prog] : OkAt Tryz.prog 204 φTexts:=by
 refine ok_of (l:=[]) Ok.nil fn204 fun args r h=>?_
 unfold φTexts at h
 split at h
 ·split at h
  ·rename_i a b hl
   injection h with h;subst h
   refine ⟨by simp,by simp [D.cl],fun H T=>?_⟩
   simp +contextual (maxSteps:=10000000) only [c204,go_sem]
   refine W_for (fun i s=>s.t 0 = .str a /\ s.t 1 = .str b /\ s.t 5 = .int .i64 i /\ s.H = H /\ s.T = T /\ i <= a.length /\ i <= b.length /\ cmpS (a.drop i) (b.drop i) = cmpS a b) a.length ⟨0,by simp [upd,argT]⟩ (fun i s h=>h.2.2.2.2.2.1) ?_ (XL_mono _)
   rintro i ⟨t,H',T'⟩ ⟨h0,h1,h5,rfl,rfl,hi,hj,hc⟩
   simp only at h0 h1 h5
   by_cases ha : i < a.length
   ·by_cases hb : i < b.length
    ·have d1 : decide ((i : Int) < a.length) = true:=by simpa using ha
     have d2 : decide ((i : Int) < b.length) = true:=by simpa using hb
     have e1 : a[i]? = some a[i]:=by simp [ha]
     have e2 : b[i]? = some b[i]:=by simp [hb]
     rw [List.drop_eq_getElem_cons ha,List.drop_eq_getElem_cons hb,cmpS] at hc
     simp +contextual (maxSteps:=10000000) only [h0,h1,h5,d1,d2,e1,e2,wrap_succ i (by omega),go_sem]
     refine ⟨fun h=>?_,fun h=>⟨fun h'=>?_,fun h'=>⟨by omega,by omega,?_⟩⟩⟩ <;> simp only [decide_eq_true_eq,decide_eq_false_iff_not] at h <;> (try simp only [decide_eq_true_eq,decide_eq_false_iff_not] at h')
     ·rw [if_pos (by omega)] at hc;rw [hc]
     ·rw [if_neg (by omega),if_pos (by omega)] at hc;rw [hc]
     ·rw [if_neg (by omega),if_neg (by omega)] at hc;exact hc
    ·have d1 : decide ((i : Int) < a.length) = true:=by simpa using ha
     have d2 : decide ((i : Int) < b.length) = false:=by simpa using hb
     have d3 : decide ((a.length : Int) < b.length) = false:=by simp;omega
     have d4 : decide ((b.length : Int) < a.length) = true:=by simp;omega
     rw [List.drop_eq_getElem_cons ha,List.drop_eq_nil_of_le (by omega : b.length <= i),cmpS] at hc
     simp +contextual (maxSteps:=10000000) only [h0,h1,h5,d1,d2,d3,d4,← hc,go_sem]
   ·have d1 : decide ((i : Int) < a.length) = false:=by simpa using ha
    have d3 : decide ((b.length : Int) < a.length) = false:=by simp;omega
    rw [List.drop_eq_nil_of_le (by omega : a.length <= i)] at hc
    by_cases hb : i < b.length
    ·have d4 : decide ((a.length : Int) < b.length) = true:=by simp;omega
     rw [List.drop_eq_getElem_cons hb,cmpS] at hc
     simp +contextual (maxSteps:=10000000) only [h0,h1,h5,d1,d3,d4,← hc,go_sem]
    ·have d4 : decide ((a.length : Int) < b.length) = false:=by simp;omega
     rw [List.drop_eq_nil_of_le (by omega : b.length <= i),cmpS] at hc
     simp +contextual (maxSteps:=10000000) only [h0,h1,h5,d1,d3,d4,← hc,go_sem]
  ·cases h
 ·cases h
theorem body205 : Tryz.f205.body.isNone = true:=by kernel_rfl
theorem name205 : (Tryz.f205.name == "runtime.NumGoroutine") = false := by kernel_rfl
theorem next205 : Extern.findNext Tryz.f205 = none:=by kernel_rfl
theorem find205 : Extern.find Tryz.f205 = some Extern.BytealgCompare.compare:=by rfl
theorem cmpS_eq : ∀ (a b : List UInt8),Lib.compareBytes a b = cmpS a b
 | [],[]=>rfl
 | [],_ :: _=>rfl
 | _ :: _,[]=>rfl
 | x :: a,y :: b=>by
  simp only [Lib.compareBytes,cmpS,UInt8.lt_iff_toNat_lt,cmpS_eq a b]
def φcmp : List D -> Option D
 | [.str a,.str b]=>some (.int .i64 (cmpS a b))
 | _=>none
theorem ok205 [HasG Tryz.prog] : OkAt Tryz.prog 205 φcmp:=by
 intro args r hr args' he H T Q hQ
 unfold φcmp at hr
 split at hr
 ·rename_i a b
  injection hr with hr;subst hr
  intro c w vs _ hi hT hrep
  have h:=hrep.erase
  rw [he] at h
  match vs,h.len with
  | [v1,v2],_ =>
   have h1 : Rep c (.str a) v1:=h.rep 0 (by simp) (by simp)
   have h2 : Rep c (.str b) v2:=h.rep 1 (by simp) (by simp)
   cases h1;cases h2
   refine .inr ⟨.int .i64 (cmpS a b),w,?_,?_⟩
   ·rw [run_callFunc_extern Tryz.func205 name205 body205 next205 find205]
    have:=Lib.run_compareString (P:=Tryz.prog) ⟨a.toArray⟩ ⟨b.toArray⟩ w
    rw [cmpS_eq] at this
    simp only at this
    rw [this];rfl
   ·exact ⟨_,rfl,_,H,T,c,hQ,.int _ _,hi,Cx.le.refl c,hT,Below.refl _ _⟩
 ·cases hr
theorem ok176 [HasG Tryz.prog] : OkAt Tryz.prog 176 φcmp:=by
 refine ok_of (l:=[(205,φcmp)]) (.cons ok205 .nil) fn176 fun args r h=>?_
 unfold φcmp at h
 split at h
 ·injection h with h;subst h
  refine ⟨by simp,by simp [D.cl],fun H T=>?_⟩
  simp +contextual (maxSteps:=10000000) only [c176,φcmp,go_sem]
 ·cases h
theorem ok115 [HasG Tryz.prog] : OkAt Tryz.prog 115 φcmp:=by
 refine ok_of (l:=[(176,φcmp)]) (.cons ok176 .nil) fn115 fun args r h=>?_
 unfold φcmp at h
 split at h
 ·injection h with h;subst h
  refine ⟨by simp,by simp [D.cl],fun H T=>?_⟩
  simp +contextual (maxSteps:=10000000) only [c115,φcmp,go_sem]
 ·cases h
def φnan : List D -> Option D
 | [.int .i64 _]=>some (.bool false)
 | _=>none
theorem ok174 [HasG Tryz.prog] : OkAt Tryz.prog 174 φnan:=by
 refine ok_of (l:=[]) .nil fn174 fun args r h=>?_
 unfold φnan at h
 split at h
 ·injection h with h;subst h
  refine ⟨by simp,by simp [D.cl],fun H T=>?_⟩
  simp +contextual (maxSteps:=10000000) only [c174,go_sem]
 ·cases h
theorem ok175 [HasG Tryz.prog] : OkAt Tryz.prog 175 φnan:=by
 refine ok_of (l:=[]) .nil fn175 fun args r h=>?_
 unfold φnan at h
 split at h
 ·injection h with h;subst h
  refine ⟨by simp,by simp [D.cl],fun H T=>?_⟩
  simp +contextual (maxSteps:=10000000) only [c175,go_sem]
 ·cases h
theorem ok113 [HasG Tryz.prog] : OkAt Tryz.prog 113 φnumbers:=by
 refine ok_of (l:=[(174,φnan)]) (.cons ok174 .nil) fn113 fun args r h=>?_
 unfold φnumbers at h
 split at h
 ·injection h with h;subst h
  refine ⟨by simp,by simp [D.cl],fun H T=>?_⟩
  simp +contextual (maxSteps:=10000000) only [c113,φnan,cmpI,go_sem]
  simp
  omega
 ·cases h
theorem ok114 [HasG Tryz.prog] : OkAt Tryz.prog 114 φnumbers:=by
 refine ok_of (l:=[(175,φnan)]) (.cons ok175 .nil) fn114 fun args r h=>?_
 unfold φnumbers at h
 split at h
 ·injection h with h;subst h
  refine ⟨by simp,by simp [D.cl],fun H T=>?_⟩
  simp +contextual (maxSteps:=10000000) only [c114,φnan,cmpI,go_sem]
  simp
  omega
 ·cases h
def φone : List D -> Option D
 | [.agg [.int .i64 k,.int .i64 i,.str s,l]]=>match lenD l with
  | some n=>some (.bool (plainB k i s n))
  | none=>none
 | _=>none
theorem ok171 [HasG Tryz.prog] : OkAt Tryz.prog 171 φone:=by
 refine ok_of (l:=[]) Ok.nil fn171 fun args r h=>?_
 unfold φone at h
 split at h
 ·split at h
  ·rename_i k i s l n hn
   injection h with h;subst h
   refine ⟨by simp,by simp [D.cl,D.clL,num],fun H T=>?_⟩
   have hl:=lenD_okc hn
   simp +contextual (maxSteps:=10000000) only [c171,hn,hl.1,hl.2,go_sem]
   repeat' (first | apply And.intro | intro _)
   all_goals grind [plainB]
  ·cases h
 ·cases h
def singleI (k i : Int) (s : List UInt8) (k' i' : Int) (s' : List UInt8) : Int :=
 if k != k' then cmpI k k' else if k == 3 then cmpS s s' else cmpI i i'
def φsingle : List D -> Option D
 | [.agg [.int .i64 k,.int .i64 i,.str s,l],.agg [.int .i64 k',.int .i64 i',.str s',l']]=>if s.length <= 2 ^ 47 /\ s'.length <= 2 ^ 47 /\ (lenD l).isSome /\ (lenD l').isSome then some (.int .i64 (singleI k i s k' i' s')) else none
 | _=>none
theorem ok172 [HasG Tryz.prog] : OkAt Tryz.prog 172 φsingle:=by
 refine ok_of (l:=[(203,φnumbers),(204,φTexts)]) (.cons ok203 (.cons ok204 .nil)) fn172 fun args r h=>?_
 unfold φsingle at h
 split at h
 ·split at h
  ·rename_i hl
   injection h with h;subst h
   refine ⟨by simp,by simp [D.cl,D.clL,num],fun H T=>?_⟩
   obtain ⟨h1,h2,h3,h4⟩:=hl
   obtain ⟨n,hn⟩:=Option.isSome_iff_exists.1 h3
   obtain ⟨n',hn'⟩:=Option.isSome_iff_exists.1 h4
   have hl:=lenD_okc hn
   have hl':=lenD_okc hn'
   simp +contextual (maxSteps:=10000000) only [c172,φnumbers,φTexts,singleI,hn,hl.1,hl.2,hn',hl'.1,hl'.2,h1,h2,go_sem]
  ·cases h
 ·cases h
@[go_sem high] theorem ia_nat (sz : Nat) (b : Bool) (xs : List D) (k : IntKind) (i : Nat) : ia sz (sliceD b xs) (.int k (i : Int)) = iaE sz xs[i]?:=by
 rw [ia_sliceD];simp
@[go_sem high] theorem ia_nat' (sz : Nat) (t : Option Nat) (xs : List D) (k : IntKind) (i : Nat) : ia sz (.sl t xs) (.int k (i : Int)) = iaE sz xs[i]?:=by
 rw [ia_sl];simp
theorem isSl_elim {l : D} (h : isSl l = true) : ∃ b,l = sliceD b (elems l):=by
 unfold isSl at h
 split at h
 ·exact ⟨true,rfl⟩
 ·exact ⟨false,rfl⟩
 ·cases h
@[go_sem] theorem isSl_sliceD (b : Bool) (xs : List D) : isSl (sliceD b xs) = true:=by
 rcases sliceD_cases b xs with ⟨h,_⟩ | h <;> rw [h] <;> rfl
theorem all_take_succ {p : D -> Bool} {xs : List D} {i : Nat} {e : D} (h : xs[i]? = some e) : (xs.take (i + 1)).all p = ((xs.take i).all p && p e):=by
 rw [List.take_add_one,h];simp
theorem all_false_of {p : D -> Bool} {xs : List D} {i m : Nat} {e : D} (h : xs[i]? = some e) (hp : p e = false) (him : i < m) : (xs.take m).all p = false:=by
 cases hq : (xs.take m).all p with
 | false=>rfl
 | true =>
  have hm : e ∈ xs.take m:=by
   refine List.mem_of_getElem? (i:=i) ?_
   rw [List.getElem?_take_of_lt him];exact h
  rw [List.all_eq_true.1 hq e hm] at hp;cases hp
def leafFew (e : D) : Bool:=decide ((vs e).length <= 200) && decide ((vl e).length = 0)
def few1 (d : D) : Bool:=decide ((vs d).length <= 200) && decide ((vl d).length <= 30) && (vl d).all leafFew
def fewB (xs : List D) (n : Int) : Bool:=(xs.take 100).all few1 && decide ((xs.length : Int) <= n)
def φFew : List D -> Option D
 | [l,.int .i64 n]=>if isSl l = true /\ D.isVs (elems l) = true /\ (elems l).length <= 2 ^ 47 then some (.bool (fewB (elems l) n)) else none
 | _=>none
theorem ok111 [HasG Tryz.prog] : OkAt Tryz.prog 111 φFew:=by
 refine ok_of (l:=[]) .nil fn111 fun args r h=>?_
 unfold φFew at h
 split at h
 ·split at h
  ·rename_i l n hl
   injection h with h;subst h
   refine ⟨by simp,by simp [D.cl],fun H T=>?_⟩
   obtain ⟨hl1,hl2,hl3⟩:=hl
   obtain ⟨b,hb⟩:=isSl_elim hl1
   generalize elems l = xs at hb hl2 hl3
   subst hb
   have hV:=isVs_iff.1 hl2
   simp +contextual (maxSteps:=10000000) only [c111,go_sem]
   refine W_for (fun i s=>s.t 0 = sliceD b xs /\ s.t 1 = .int .i64 n /\ s.t 5 = .int .i64 i /\ s.H = H /\ s.T = T /\ i <= 100 /\ i <= xs.length /\ (xs.take i).all few1 = true) 100 ⟨0,by simp [upd,argT]⟩ (fun i s h=>h.2.2.2.2.2.1) ?_ (XL_mono _)
   rintro i ⟨t,H',T'⟩ ⟨h0,h1,h5,rfl,rfl,hi,hj,hc⟩
   simp only at h0 h1 h5
   by_cases ha : i < xs.length /\ i < 100
   ·obtain ⟨ha,hb'⟩:=ha
    have d1 : decide ((i : Int) < xs.length) = true:=by simpa using ha
    have d2 : decide ((i : Int) < 100) = true:=by simp;omega
    obtain ⟨k,i',s,m,l',he,hs1,hs2,hV'⟩:=isV_elim (hV _ (List.getElem_mem ha))
    have e1 : xs[i]? = some (mkV k i' s m l'):=by rw [<- he];simp [ha]
    simp +contextual (maxSteps:=10000000) only [h0,h1,h5,d1,d2,e1,mkV,go_sem]
    have f1 : few1 (mkV k i' s m l') = (decide (s.length <= 200) && decide (l'.length <= 30) && l'.all leafFew):=by simp only [few1,vs_mk,vl_mk]
    have bad : few1 (mkV k i' s m l') = false -> fewB xs n = false:=fun h=>by simp only [fewB,all_false_of e1 h hb',Bool.false_and]
    refine ⟨fun q=>?_,fun q1=>⟨fun q=>?_,fun q2=>?_⟩⟩
    ·rw [bad];rw [f1];simp at q ⊢;omega
    ·rw [bad];rw [f1];simp at q ⊢;omega
    ·refine W_for (fun j s=>s.t 0 = sliceD b xs /\ s.t 1 = .int .i64 n /\ s.t 5 = .int .i64 i /\ s.t 6 = .int .i64 j /\ s.H = H' /\ s.T = T' /\ j <= l'.length /\ (l'.take j).all leafFew = true) l'.length ⟨0,by simp [upd,h0,h1,h5]⟩ (fun i s h=>h.2.2.2.2.2.2.1) ?_ (XL_mono _)
     rintro j ⟨t,H',T'⟩ ⟨h0,h1,h5,h6,rfl,rfl,hj2,hc2⟩
     simp only at h0 h1 h5 h6
     by_cases hb2 : j < l'.length
     ·have d3 : decide ((j : Int) < l'.length) = true:=by simpa using hb2
      obtain ⟨k2,i2,s2,m2,l2,he2,hs21,hs22,hV2⟩:=isV_elim (hV' _ (List.getElem_mem hb2))
      have e2 : l'[j]? = some (mkV k2 i2 s2 m2 l2):=by rw [<- he2];simp [hb2]
      have f2 : leafFew (mkV k2 i2 s2 m2 l2) = (decide (s2.length <= 200) && decide (l2.length = 0)):=by simp only [leafFew,vs_mk,vl_mk]
      have bad2 : leafFew (mkV k2 i2 s2 m2 l2) = false -> fewB xs n = false:=fun h=>bad (by
       have hm : l'.all leafFew = false:=by
        have:=all_false_of e2 h hb2
        rwa [List.take_length] at this
       rw [f1,hm,Bool.and_false])
      simp +contextual (maxSteps:=10000000) only [h0,h1,h5,h6,d3,e1,e2,mkV,wrap_succ j (by omega),go_sem]
      refine ⟨fun q=>?_,fun q1=>⟨fun q=>?_,fun q2=>⟨by omega,?_⟩⟩⟩
      ·rw [bad2];rw [f2];simp at q ⊢;omega
      ·rw [bad2];rw [f2];simp only [decide_eq_true_eq,Bool.and_eq_false_iff,decide_eq_false_iff_not] at q ⊢;omega
      ·rw [all_take_succ e2,hc2,f2];simp only [decide_eq_true_eq,Bool.and_eq_true,decide_eq_false_iff_not,true_and] at q1 q2 ⊢;omega
     ·have d3 : decide ((j : Int) < l'.length) = false:=by simpa using hb2
      have hall : l'.all leafFew = true:=by rwa [List.take_of_length_le (by omega)] at hc2
      have f3 : few1 (mkV k i' s m l') = true:=by rw [f1,hall];simp at q1 q2 ⊢;omega
      have hc3 : (xs.take (i + 1)).all few1 = true:=by rw [all_take_succ e1,hc,f3];rfl
      simp +contextual (maxSteps:=10000000) only [h0,h1,h5,h6,d3,e1,mkV,wrap_succ i (by omega),go_sem]
      exact ⟨by omega,by omega,hc3⟩
   ·have hcf : (xs.take 100).all few1 = true:=by
     by_cases hx : i < xs.length
     ·have : i = 100:=by omega
      rw [<- this];exact hc
     ·rw [List.take_of_length_le (by omega)] at hc
      exact List.all_eq_true.2 fun x hx=>List.all_eq_true.1 hc x (List.mem_of_mem_take hx)
    by_cases hx : i < xs.length
    ·have d1 : decide ((i : Int) < xs.length) = true:=by simpa using hx
     have d2 : decide ((i : Int) < 100) = false:=by simp;omega
     simp +contextual (maxSteps:=10000000) only [h0,h1,h5,d1,d2,fewB,hcf,go_sem]
    ·have d1 : decide ((i : Int) < xs.length) = false:=by simpa using hx
     simp +contextual (maxSteps:=10000000) only [h0,h1,h5,d1,fewB,hcf,go_sem]
  ·cases h
 ·cases h
end GP
namespace GP
open Go Go.Proofs
set_option maxRecDepth 100000
theorem wrap_pred (n : Nat) (h : n < 2 ^ 61) (h0 : 0 < n) : IntKind.i64.wrap ((n : Int) - 1) = ((n - 1 : Nat) : Int):=by
 rw [wrap_of _ (by omega) (by omega)];omega
theorem all_range_succ {p : Nat -> Bool} (i : Nat) : (List.range (i + 1)).all p = ((List.range i).all p && p i):=by
 rw [List.range_succ];simp
theorem range_false_of {p : Nat -> Bool} {i m : Nat} (hp : p i = false) (him : i < m) : (List.range m).all p = false:=by
 cases hq : (List.range m).all p with
 | false=>rfl
 | true=>rw [List.all_eq_true.1 hq i (by simpa using him)] at hp;cases hp
def one1 (d : D) : Bool:=plainB (vk d) (vi d) (vs d) (vl d).length
def vk0 : List D -> Int
 | x :: _=>vk x
 | []=>0
def okEl (cmp : D -> D -> Int) (xs : List D) (i : Nat) : Bool:=match xs[i]? with
 | none=>true
 | some x=>one1 x && (vk x != 0) && (vk x == vk0 xs) && (i == 0 || (match xs[i - 1]? with | some y=>decide (cmp y x < 0) | none=>false))
def adjB (cmp : D -> D -> Int) (xs : List D) : Bool:=(List.range xs.length).all (okEl cmp xs)
def singleD (a b : D) : Int:=singleI (vk a) (vi a) (vs a) (vk b) (vi b) (vs b)
def formedB (d : D) : Bool:=if vk d != 5 then one1 d else if (vi d != 0) || (vs d != []) || decide ((16 : Int) < (vl d).length) then false else adjB singleD (vl d)
def φformed : List D -> Option D
 | [d]=>if d.isV = true then some (.bool (formedB d)) else none
 | _=>none
theorem vk0_get {xs : List D} {k i : Int} {s : List UInt8} {n : Bool} {l : List D} (h : xs[0]? = some (mkV k i s n l)) : vk0 xs = k:=by
 cases xs with
 | nil=>simp at h
 | cons x xs=>simp at h;subst h;rfl
theorem erase_of_isV {l : List D} (h : ∀ x ∈ l,x.isV = true) : D.eraseL l = l:=isVs_erase (isVs_iff.2 h)
theorem get_isV {xs : List D} (h : ∀ x ∈ xs,x.isV = true) {i : Nat} (hi : i < xs.length) : ∃ k i' s n l,xs[i]? = some (mkV k i' s n l) /\ s.length <= 2 ^ 47 /\ l.length <= 2 ^ 47 /\ (∀ x ∈ l,x.isV = true) /\ D.eraseL l = l:=by
 obtain ⟨k,i',s,n,l,he,h1,h2,h3⟩:=isV_elim (h _ (List.getElem_mem hi))
 exact ⟨k,i',s,n,l,by rw [<- he];simp [hi],h1,h2,h3,erase_of_isV h3⟩
theorem ok107 [HasG Tryz.prog] : OkAt Tryz.prog 107 φformed:=by
 refine ok_of (l:=[(171,φone),(172,φsingle)]) (.cons ok171 (.cons ok172 .nil)) fn107 fun args r h=>?_
 unfold φformed at h
 split at h
 ·split at h
  ·rename_i d hd
   injection h with h;subst h
   refine ⟨by simp,by simp [D.cl],fun H T=>?_⟩
   obtain ⟨k,i,s,n,xs,rfl,hs,hx,hV⟩:=isV_elim hd
   have eL:=erase_of_isV hV
   have F : formedB (mkV k i s n xs) = if k != 5 then plainB k i s xs.length else if (i != 0) || (s != []) || decide ((16 : Int) < xs.length) then false else adjB singleD xs:=by simp only [formedB,one1,vk_mk,vi_mk,vs_mk,vl_mk]
   rw [F]
   simp +contextual (maxSteps:=10000000) only [c107,mkV,φone,eL,go_sem]
   intro q1 q2 q3 q4
   refine W_for (fun j s'=>s'.t 1 = .ptr H.length 0 /\ s'.t 3 = .int .i64 j /\ s'.H = H ++ [.row [.int .i64 k,.int .i64 i,.str s,sliceD n xs]] /\ s'.T = T /\ j <= xs.length /\ (List.range j).all (okEl singleD xs) = true) xs.length ⟨0,by simp [upd,argT]⟩ (fun i s h=>h.2.2.2.2.1) ?_ (XL_mono _)
   rintro j ⟨t,H',T'⟩ ⟨h1,h3,rfl,rfl,hj,hc⟩
   simp only at h1 h3
   by_cases ha : j < xs.length
   ·have d1 : decide ((j : Int) < xs.length) = true:=by simpa using ha
    obtain ⟨k1,i1,s1,n1,l1,e1,hs1,hx1,hV1,eL1⟩:=get_isV hV ha
    obtain ⟨k0,i0,s0,n0,l0,e0,_⟩:=get_isV hV (show 0 < xs.length by omega)
    have fk:=vk0_get e0
    by_cases hj0 : 0 < j
    ·obtain ⟨k2,i2,s2,n2,l2,e2,hs2,hx2,hV2,eL2⟩:=get_isV hV (show j - 1 < xs.length by omega)
     have d2 : decide ((0 : Int) < j) = true:=by simpa using hj0
     have G : okEl singleD xs j = (plainB k1 i1 s1 l1.length && (k1 != 0) && (k1 == k0) && decide (singleI k2 i2 s2 k1 i1 s1 < 0)):=by
      have : (j == 0) = false:=by simp;omega
      simp only [okEl,e1,e2,fk,one1,singleD,vk_mk,vi_mk,vs_mk,vl_mk,this,Bool.false_or]
     have bad : okEl singleD xs j = false -> adjB singleD xs = false:=fun h=>range_false_of h ha
     simp +contextual (maxSteps:=10000000) only [h1,h3,d1,d2,e0,e1,e2,mkV,φone,φsingle,eL1,eL2,wrap_pred j (by omega) hj0,wrap_succ j (by omega),hs1,hs2,Option.isSome_some,go_sem]
     refine ⟨fun q=>?_,fun p1=>⟨fun q=>?_,fun p2=>⟨fun q=>?_,fun p3=>⟨fun q=>?_,fun p4=>⟨by omega,?_⟩⟩⟩⟩⟩
     ·rw [bad (by rw [G];grind)]
     ·rw [bad (by rw [G];grind)]
     ·rw [bad (by rw [G];grind)]
     ·rw [bad (by rw [G];grind)]
     ·rw [List.all_append,hc]
      simp only [List.all_cons,List.all_nil,G]
      grind
    ·have d2 : decide ((0 : Int) < j) = false:=by simpa using hj0
     have G : okEl singleD xs j = (plainB k1 i1 s1 l1.length && (k1 != 0) && (k1 == k0)):=by
      have : (j == 0) = true:=by simp;omega
      simp only [okEl,e1,fk,one1,singleD,vk_mk,vi_mk,vs_mk,vl_mk,this,Bool.true_or,Bool.and_true]
     have bad : okEl singleD xs j = false -> adjB singleD xs = false:=fun h=>range_false_of h ha
     simp +contextual (maxSteps:=10000000) only [h1,h3,d1,d2,e0,e1,mkV,φone,φsingle,eL1,wrap_succ j (by omega),hs1,Option.isSome_some,go_sem]
     refine ⟨fun q=>?_,fun p1=>⟨fun q=>?_,fun p2=>⟨fun q=>?_,fun p3=>⟨by omega,?_⟩⟩⟩⟩
     ·rw [bad (by rw [G];grind)]
     ·rw [bad (by rw [G];grind)]
     ·rw [bad (by rw [G];grind)]
     ·rw [List.all_append,hc]
      simp only [List.all_cons,List.all_nil,G]
      grind
   ·have d1 : decide ((j : Int) < xs.length) = false:=by simpa using ha
    have hA : adjB singleD xs = true:=by
     have : j = xs.length:=by omega
     subst this;exact hc
    simp +contextual (maxSteps:=10000000) only [h1,h3,d1,mkV,hA,go_sem]
  ·cases h
 ·cases h
theorem putRow_app (n off : Nat) (v : D) (M : Hp) : ∀ (L : Hp) (i : Nat),putRow n off v (L ++ M) (L.length + i) = (putRow n off v M i).map (L ++ ·)
 | [],i=>by simp
 | x :: L,i=>by
  have e : (x :: L).length + i = (L.length + i) + 1:=by simp;omega
  rw [e,List.cons_append,putRow_s,putRow_app n off v M L i]
  cases putRow n off v M i <;> simp
@[go_sem] theorem putRow_app' (n off : Nat) (v : D) (L M : Hp) (i : Nat) : putRow n off v (L ++ M) (L.length + i) = (putRow n off v M i).map (L ++ ·):=putRow_app n off v M L i
@[go_sem] theorem putRow_app0 (n off : Nat) (v : D) (L M : Hp) : putRow n off v (L ++ M) L.length = (putRow n off v M 0).map (L ++ ·):=putRow_app n off v M L 0
def or3 (a b c : Int) : Int:=if a != 0 then a else if b != 0 then b else c
def φOr : List D -> Option D
 | [.sl none [.int .i64 a,.int .i64 b,.int .i64 c]]=>some (.int .i64 (or3 a b c))
 | _=>none
theorem ok112 [HasG Tryz.prog] : OkAt Tryz.prog 112 φOr:=by
 refine ok_of (l:=[]) .nil fn112 fun args r h=>?_
 unfold φOr at h
 split at h
 ·injection h with h;subst h
  rename_i a b c
  refine ⟨by simp,by simp [D.cl],fun H T=>?_⟩
  simp +contextual (maxSteps:=10000000) only [c112,go_sem]
  refine W_for (fun i s=>s.t 3 = .int .i64 0 /\ s.t 6 = .sl none [.int .i64 a,.int .i64 b,.int .i64 c] /\ s.t 7 = .int .i64 3 /\ s.t 8 = .int .i64 i /\ s.H = H /\ s.T = T /\ i <= 3 /\ (1 <= i -> a = 0) /\ (2 <= i -> b = 0) /\ (3 <= i -> c = 0)) 3 ⟨0,by simp [upd,argT]⟩ (fun i s h=>h.2.2.2.2.2.2.1) ?_ (XL_mono _)
  rintro i ⟨t,H',T'⟩ ⟨h3,h6,h7,h8,rfl,rfl,hi,z1,z2,z3⟩
  simp only at h3 h6 h7 h8
  have w1 : IntKind.i64.wrap 1 = 1:=by decide
  have w2 : IntKind.i64.wrap 2 = 2:=by decide
  have w3 : IntKind.i64.wrap 3 = 3:=by decide
  match i,hi with
  | 0,_ =>
   simp +contextual (maxSteps:=10000000) only [h3,h6,h7,h8,or3,w1,Int.reduceAdd,go_sem]
   grind
  | 1,_ =>
   have:=z1 (by omega);subst this
   simp +contextual (maxSteps:=10000000) only [h3,h6,h7,h8,or3,w2,Int.reduceAdd,go_sem]
   grind
  | 2,_ =>
   have:=z1 (by omega);subst this
   have:=z2 (by omega);subst this
   simp +contextual (maxSteps:=10000000) only [h3,h6,h7,h8,or3,w3,Int.reduceAdd,go_sem]
   grind
  | 3,_ =>
   have:=z1 (by omega);subst this
   have:=z2 (by omega);subst this
   have:=z3 (by omega);subst this
   simp +contextual (maxSteps:=10000000) only [h3,h6,h7,h8,or3,go_sem]
 ·cases h
def cmpL (f : D -> D -> Int) : List D -> List D -> Int
 | [],[]=>0
 | [],_ :: _=>-1
 | _ :: _,[]=>1
 | x :: xs,y :: ys=>if f x y != 0 then f x y else cmpL f xs ys
def φCF (dom : D -> Bool) (f : D -> D -> Int) : List D -> Option D
 | [l1,l2,.fn 64 [] []]=>if isSl l1 = true /\ isSl l2 = true /\ D.isVs (elems l1) = true /\ D.isVs (elems l2) = true /\ (elems l1).all dom = true /\ (elems l2).all dom = true /\ (elems l1).length <= 2 ^ 47 /\ (elems l2).length <= 2 ^ 47 then some (.int .i64 (cmpL f (elems l1) (elems l2))) else none
 | _=>none
theorem ok116 [HasG Tryz.prog] {φ : List D -> Option D} (h13 : OkAt Tryz.prog 64 φ) {dom : D -> Bool} {f : D -> D -> Int} (hφ : ∀ x y,x.isV = true -> y.isV = true -> dom x = true -> dom y = true -> φ [x,y] = some (.int .i64 (f x y))) : OkAt Tryz.prog 116 (φCF dom f):=by
 refine ok_of (l:=[(64,φ)]) (.cons h13 .nil) fn116 fun args r h=>?_
 unfold φCF at h
 split at h
 ·split at h
  ·rename_i l1 l2 hl
   injection h with h;subst h
   refine ⟨by simp,by simp [D.cl],fun H T=>?_⟩
   obtain ⟨g1,g2,g3,g4,g5,g6,g7,g8⟩:=hl
   obtain ⟨b1,hb1⟩:=isSl_elim g1
   obtain ⟨b2,hb2⟩:=isSl_elim g2
   generalize elems l1 = xs at *
   generalize elems l2 = ys at *
   subst hb1;subst hb2
   have hV1:=isVs_iff.1 g3
   have hV2:=isVs_iff.1 g4
   simp +contextual (maxSteps:=10000000) only [c116,go_sem]
   refine W_for (fun i s=>s.t 0 = sliceD b1 xs /\ s.t 1 = sliceD b2 ys /\ s.t 2 = .fn 64 [] [] /\ s.t 11 = sliceD b1 xs /\ s.t 12 = .int .i64 xs.length /\ s.t 13 = .int .i64 i /\ (∃ L,s.H = H ++ L) /\ s.T = T /\ i <= xs.length /\ i <= ys.length /\ cmpL f (xs.drop i) (ys.drop i) = cmpL f xs ys) xs.length ⟨0,by simp [upd,argT]⟩ (fun i s h=>h.2.2.2.2.2.2.2.2.1) ?_ (XL_mono _)
   rintro i ⟨t,H',T'⟩ ⟨h0,h1,h2,h11,h12,h13,⟨L,rfl⟩,rfl,hi,hj,hc⟩
   simp only at h0 h1 h2 h11 h12 h13
   by_cases ha : i < xs.length
   ·have d1 : decide ((i : Int) < xs.length) = true:=by simpa using ha
    obtain ⟨k1,i1,s1,n1,q1,e1,_,_,v1,r1⟩:=get_isV hV1 ha
    by_cases hb : i < ys.length
    ·have d2 : decide ((ys.length : Int) <= i) = false:=by simp;omega
     obtain ⟨k2,i2,s2,n2,q2,e2,_,_,v2,r2⟩:=get_isV hV2 hb
     have x1 : xs[i] = mkV k1 i1 s1 n1 q1:=by rw [List.getElem?_eq_getElem ha] at e1;exact Option.some.inj e1
     have x2 : ys[i] = mkV k2 i2 s2 n2 q2:=by rw [List.getElem?_eq_getElem hb] at e2;exact Option.some.inj e2
     have p:=hφ _ _ (hV1 _ (List.getElem_mem ha)) (hV2 _ (List.getElem_mem hb)) (List.all_eq_true.1 g5 _ (List.getElem_mem ha)) (List.all_eq_true.1 g6 _ (List.getElem_mem hb))
     rw [List.drop_eq_getElem_cons ha,List.drop_eq_getElem_cons hb,cmpL] at hc
     rw [x1,x2] at p hc
     generalize f (mkV k1 i1 s1 n1 q1) (mkV k2 i2 s2 n2 q2) = F at p hc
     simp only [mkV] at p
     simp +contextual (maxSteps:=10000000) only [h0,h1,h2,h11,h12,h13,d1,d2,e1,e2,mkV,p,r1,r2,wrap_succ i (by omega),go_sem]
     refine ⟨fun q=>?_,fun q=>⟨⟨_,rfl⟩,by omega,by omega,?_⟩⟩
     ·rw [if_pos q] at hc;rw [hc]
     ·rw [if_neg (by rw [q];decide)] at hc;exact hc
    ·have d2 : decide ((ys.length : Int) <= i) = true:=by simp;omega
     rw [List.drop_eq_getElem_cons ha,List.drop_eq_nil_of_le (by omega : ys.length <= i),cmpL] at hc
     simp +contextual (maxSteps:=10000000) only [h0,h1,h2,h11,h12,h13,d1,d2,e1,mkV,← hc,go_sem]
   ·have d1 : decide ((i : Int) < xs.length) = false:=by simpa using ha
    rw [List.drop_eq_nil_of_le (by omega : xs.length <= i)] at hc
    by_cases hb : i < ys.length
    ·have d2 : decide ((xs.length : Int) < ys.length) = true:=by simp;omega
     rw [List.drop_eq_getElem_cons hb,cmpL] at hc
     simp +contextual (maxSteps:=10000000) only [h0,h1,h2,h11,h12,h13,d1,d2,← hc,go_sem]
    ·have d2 : decide ((xs.length : Int) < ys.length) = false:=by simp;omega
     rw [List.drop_eq_nil_of_le (by omega : ys.length <= i),cmpL] at hc
     simp +contextual (maxSteps:=10000000) only [h0,h1,h2,h11,h12,h13,d1,d2,← hc,go_sem]
  ·cases h
 ·cases h
def ordW (f : D -> D -> Int) (a b : D) : Int :=
 if or3 (cmpI (vk a) (vk b)) (cmpI (vi a) (vi b)) (cmpS (vs a) (vs b)) != 0 then or3 (cmpI (vk a) (vk b)) (cmpI (vi a) (vi b)) (cmpS (vs a) (vs b)) else cmpL f (vl a) (vl b)
def φOrd (dom : D -> Bool) (f : D -> D -> Int) : List D -> Option D
 | [a,b]=>if a.isV = true /\ b.isV = true /\ (vl a).all dom = true /\ (vl b).all dom = true then some (.int .i64 (ordW f a b)) else none
 | _=>none
theorem ok64 [HasG Tryz.prog] {dom : D -> Bool} {f : D -> D -> Int} (h38 : OkAt Tryz.prog 116 (φCF dom f)) : OkAt Tryz.prog 64 (φOrd dom f):=by
 refine ok_of (l:=[(113,φnumbers),(114,φnumbers),(115,φcmp),(112,φOr),(116,φCF dom f)]) (.cons ok113 (.cons ok114 (.cons ok115 (.cons ok112 (.cons h38 .nil))))) fn64 fun args r h=>?_
 unfold φOrd at h
 split at h
 ·split at h
  ·rename_i a b hab
   injection h with h;subst h
   refine ⟨by simp,by simp [D.cl],fun H T=>?_⟩
   obtain ⟨ha,hb,hda,hdb⟩:=hab
   obtain ⟨k1,i1,s1,n1,l1,rfl,z1,y1,hV1⟩:=isV_elim ha
   obtain ⟨k2,i2,s2,n2,l2,rfl,z2,y2,hV2⟩:=isV_elim hb
   simp only [vl_mk] at hda hdb
   have r1:=erase_of_isV hV1
   have r2:=erase_of_isV hV2
   have p : φCF dom f [sliceD n1 l1,sliceD n2 l2,.fn 64 [] []] = some (.int .i64 (cmpL f l1 l2)):=by
    simp only [φCF,isSl_sliceD,elems_sliceD,isVs_iff.2 hV1,isVs_iff.2 hV2,hda,hdb,y1,y2,and_self,if_true]
   have q : ordW f (mkV k1 i1 s1 n1 l1) (mkV k2 i2 s2 n2 l2) = if or3 (cmpI k1 k2) (cmpI i1 i2) (cmpS s1 s2) != 0 then or3 (cmpI k1 k2) (cmpI i1 i2) (cmpS s1 s2) else cmpL f l1 l2:=by
    simp only [ordW,vk_mk,vi_mk,vs_mk,vl_mk]
   rw [q]
   simp +contextual (maxSteps:=10000000) only [c64,mkV,φnumbers,φcmp,φOr,r1,r2,p,fit_eq,go_sem]
  ·cases h
 ·cases h
theorem ok64none [HasG Tryz.prog] : OkAt Tryz.prog 64 (fun _=>none):=fun _ _ h=>by cases h
def dom0 (_ : D) : Bool:=false
def f0 (_ _ : D) : Int:=0
def ord0:=ordW f0
theorem ok64a [HasG Tryz.prog] : OkAt Tryz.prog 64 (φOrd dom0 f0):=ok64 (ok116 ok64none (fun _ _ _ _ h=>by cases h))
def leaf (d : D) : Bool:=(vl d).isEmpty
theorem ord_leaf {x y : D} (hx : x.isV = true) (hy : y.isV = true) (h1 : leaf x = true) (h2 : leaf y = true) : φOrd dom0 f0 [x,y] = some (.int .i64 (ord0 x y)):=by
 simp only [leaf,List.isEmpty_iff] at h1 h2
 simp [φOrd,hx,hy,h1,h2,ord0]
def formedV (d : D) : Bool:=if vk d != 5 then one1 d else if adjB ord0 (vl d) then (vi d == 0) && (vs d == []) && decide (((vl d).length : Int) <= 16) else false
def φFormed : List D -> Option D
 | [d]=>if d.isV = true then some (.bool (formedV d)) else none
 | _=>none
theorem plain_leaf {k i : Int} {s : List UInt8} {n : Nat} (h : plainB k i s n = true) : n = 0:=by
 unfold plainB at h
 by_cases hn : (0 : Int) < n
 ·simp [hn] at h
  exact h.1
 ·omega
theorem ok129 [HasG Tryz.prog] : OkAt Tryz.prog 129 φFormed:=by
 refine ok_of (l:=[(179,φplain),(64,φOrd dom0 f0)]) (.cons ok179 (.cons ok64a .nil)) fn129 fun args r h=>?_
 unfold φFormed at h
 split at h
 ·split at h
  ·rename_i d hd
   injection h with h;subst h
   refine ⟨by simp,by simp [D.cl],fun H T=>?_⟩
   obtain ⟨k,i,s,n,xs,rfl,hs,hx,hV⟩:=isV_elim hd
   have eL:=erase_of_isV hV
   have F : formedV (mkV k i s n xs) = if k != 5 then plainB k i s xs.length else if adjB ord0 xs then (i == 0) && (s == []) && decide ((xs.length : Int) <= 16) else false:=by simp only [formedV,one1,vk_mk,vi_mk,vs_mk,vl_mk]
   rw [F]
   simp +contextual (maxSteps:=10000000) only [c129,mkV,φplain,eL,go_sem]
   intro q1
   refine W_for (fun j s'=>s'.t 1 = .ptr H.length 0 /\ s'.t 11 = sliceD n xs /\ s'.t 12 = .int .i64 xs.length /\ s'.t 13 = .int .i64 j /\ (∃ L,s'.H = H ++ .row [.int .i64 k,.int .i64 i,.str s,sliceD n xs] :: L) /\ s'.T = T /\ j <= xs.length /\ (List.range j).all (okEl ord0 xs) = true) xs.length ⟨0,by simp [upd,argT]⟩ (fun i s h=>h.2.2.2.2.2.2.1) ?_ (XL_mono _)
   rintro j ⟨t,H',T'⟩ ⟨h1,h11,h12,h13,⟨L,rfl⟩,rfl,hj,hc⟩
   simp only at h1 h11 h12 h13
   by_cases ha : j < xs.length
   ·have d1 : decide ((j : Int) < xs.length) = true:=by simpa using ha
    obtain ⟨k1,i1,s1,n1,l1,e1,hs1,hx1,hV1,eL1⟩:=get_isV hV ha
    obtain ⟨k0,i0,s0,n0,l0,e0,_⟩:=get_isV hV (show 0 < xs.length by omega)
    have fk:=vk0_get e0
    have bad : okEl ord0 xs j = false -> adjB ord0 xs = false:=fun h=>range_false_of h ha
    by_cases hj0 : 0 < j
    ·obtain ⟨k2,i2,s2,n2,l2,e2,hs2,hx2,hV2,eL2⟩:=get_isV hV (show j - 1 < xs.length by omega)
     have d2 : decide ((0 : Int) < j) = true:=by simpa using hj0
     have pv : okEl ord0 xs (j - 1) = true:=List.all_eq_true.1 hc (j - 1) (by simp;omega)
     have lf2 : l2 = []:=by
      simp only [okEl,e2,one1,vk_mk,vi_mk,vs_mk,vl_mk,Bool.and_eq_true] at pv
      exact List.length_eq_zero_iff.1 (plain_leaf pv.1.1.1)
     subst lf2
     generalize ho : ord0 (mkV k2 i2 s2 n2 []) (mkV k1 i1 s1 n1 l1) = o
     have G : okEl ord0 xs j = (plainB k1 i1 s1 l1.length && (k1 != 0) && (k1 == k0) && decide (o < 0)):=by
      have : (j == 0) = false:=by simp;omega
      simp only [okEl,e1,e2,fk,one1,ho,vk_mk,vi_mk,vs_mk,vl_mk,this,Bool.false_or]
     by_cases hp : plainB k1 i1 s1 l1.length = true
     ·have lf1 : l1 = []:=List.length_eq_zero_iff.1 (plain_leaf hp)
      subst lf1
      have p:=ord_leaf (x:=mkV k2 i2 s2 n2 []) (y:=mkV k1 i1 s1 n1 []) (isV_mk hs2 (by simp) (by simp)) (isV_mk hs1 (by simp) (by simp)) (by simp [leaf,vl_mk]) (by simp [leaf,vl_mk])
      rw [ho] at p
      simp only [mkV] at p
      simp only [List.length_nil] at hp G
      simp +contextual (maxSteps:=10000000) only [h1,h11,h12,h13,d1,d2,e0,e1,e2,mkV,φplain,p,hp,wrap_pred j (by omega) hj0,wrap_succ j (by omega),go_sem]
      refine ⟨fun q=>?_,fun p2=>⟨fun q=>?_,fun p3=>⟨fun q=>?_,fun p4=>⟨⟨_,rfl⟩,by omega,?_⟩⟩⟩⟩
      ·rw [bad (by rw [G];grind)];rfl
      ·rw [bad (by rw [G];grind)];rfl
      ·rw [bad (by rw [G];grind)];rfl
      ·rw [List.all_append,hc]
       simp only [List.all_cons,List.all_nil,G]
       grind
     ·have hp' : plainB k1 i1 s1 l1.length = false:=by simpa using hp
      have hb:=bad (by rw [G,hp'];rfl)
      simp +contextual (maxSteps:=10000000) only [h1,h11,h12,h13,d1,d2,e0,e1,e2,mkV,φplain,hp',eL1,hb,go_sem]
    ·have d2 : decide ((0 : Int) < j) = false:=by simpa using hj0
     have G : okEl ord0 xs j = (plainB k1 i1 s1 l1.length && (k1 != 0) && (k1 == k0)):=by
      have : (j == 0) = true:=by simp;omega
      simp only [okEl,e1,fk,one1,vk_mk,vi_mk,vs_mk,vl_mk,this,Bool.true_or,Bool.and_true]
     simp +contextual (maxSteps:=10000000) only [h1,h11,h12,h13,d1,d2,e0,e1,mkV,φplain,eL1,wrap_succ j (by omega),go_sem]
     refine ⟨fun q=>?_,fun p1=>⟨fun q=>?_,fun p2=>⟨fun q=>?_,fun p3=>⟨⟨_,rfl⟩,by omega,?_⟩⟩⟩⟩
     ·rw [bad (by rw [G];grind)];rfl
     ·rw [bad (by rw [G];grind)];rfl
     ·rw [bad (by rw [G];grind)];rfl
     ·rw [List.all_append,hc]
      simp only [List.all_cons,List.all_nil,G]
      grind
   ·have d1 : decide ((j : Int) < xs.length) = false:=by simpa using ha
    have hA : adjB ord0 xs = true:=by
     have : j = xs.length:=by omega
     subst this;exact hc
    simp +contextual (maxSteps:=10000000) only [h1,h11,h12,h13,d1,mkV,hA,go_sem]
  ·cases h
 ·cases h
end GP
namespace GP
open Go Go.Proofs
set_option maxRecDepth 100000
theorem plain_facts {k i : Int} {s : List UInt8} {n : Nat} (h : plainB k i s n = true) : n = 0 /\ (k = 3 -> i = 0) /\ (k ≠ 3 -> s = []) /\ 0 <= k /\ k <= 4:=by
 refine ⟨plain_leaf h,?_,?_,?_,?_⟩ <;> unfold plainB at h <;> grind
theorem cmpI_self (a : Int) : cmpI a a = 0:=by simp [cmpI]
theorem cmpI_ne {a b : Int} (h : a ≠ b) : cmpI a b ≠ 0:=by unfold cmpI;split <;> (try split) <;> omega
theorem or3_eq {a b : D} (ha : one1 a = true) (hb : one1 b = true) : or3 (cmpI (vk a) (vk b)) (cmpI (vi a) (vi b)) (cmpS (vs a) (vs b)) = singleD a b:=by
 obtain ⟨_,a1,a2,_⟩:=plain_facts ha
 obtain ⟨_,b1,b2,_⟩:=plain_facts hb
 simp only [or3,singleD,singleI]
 by_cases hk : vk a = vk b
 ·by_cases h3 : vk a = 3
  ·have e1:=a1 h3
   have e2:=b1 (by omega)
   simp [hk,cmpI_self,e1,e2,show vk b = 3 by omega]
  ·have e1:=a2 h3
   have e2:=b2 (by omega)
   have h3' : ¬ vk b = 3:=by omega
   simp only [hk,cmpI_self,e1,e2,cmpS]
   simp [h3']
   intro h;rw [h]
 ·have:=cmpI_ne hk
  simp [hk,this]
theorem ord_single {a b : D} (ha : one1 a = true) (hb : one1 b = true) (f : D -> D -> Int) : ordW f a b = singleD a b:=by
 have la : vl a = []:=List.length_eq_zero_iff.1 (plain_facts ha).1
 have lb : vl b = []:=List.length_eq_zero_iff.1 (plain_facts hb).1
 unfold ordW
 rw [or3_eq ha hb,la,lb]
 simp only [cmpL]
 split
 ·rfl
 ·rename_i h;simpa using Eq.symm (show singleD a b = 0 by simpa using h)
theorem okEl_same {xs : List D} {i : Nat} (hp : 0 < i -> okEl ord0 xs (i - 1) = true) : okEl ord0 xs i = okEl singleD xs i:=by
 unfold okEl
 cases hx : xs[i]? with
 | none=>rfl
 | some x =>
  simp only
  by_cases h0 : i = 0
  ·simp [h0]
  ·have hq:=hp (by omega)
   unfold okEl at hq
   cases hy : xs[i - 1]? with
   | none=>rfl
   | some y =>
    rw [hy] at hq
    simp only [Bool.and_eq_true] at hq
    by_cases h1 : one1 x = true
    ·have : ord0 y x = singleD y x:=ord_single hq.1.1.1 h1 f0
     simp only [this]
    ·simp [h1]
theorem adj_same (xs : List D) : ∀ n,(List.range n).all (okEl ord0 xs) = (List.range n).all (okEl singleD xs)
 | 0=>rfl
 | n + 1=>by
  rw [all_range_succ,all_range_succ,← adj_same xs n]
  cases hq : (List.range n).all (okEl ord0 xs) with
  | false=>rfl
  | true =>
   simp only [Bool.true_and]
   exact okEl_same fun h0=>List.all_eq_true.1 hq (n - 1) (by simp;omega)
theorem formed_same (d : D) : formedV d = formedB d:=by
 unfold formedV formedB
 have : adjB ord0 (vl d) = adjB singleD (vl d):=adj_same _ _
 rw [this]
 grind
theorem el_one {xs : List D} (h : adjB singleD xs = true) : ∀ x ∈ xs,one1 x = true:=by
 intro x hx
 obtain ⟨i,hi,rfl⟩:=List.getElem_of_mem hx
 have:=List.all_eq_true.1 h i (by simpa using hi)
 unfold okEl at this
 simp only [List.getElem?_eq_getElem hi,Bool.and_eq_true] at this
 exact this.1.1.1
end GP
namespace GP
open Go Go.Proofs
set_option maxRecDepth 100000
def sameEl (x y : D) : Bool:=(vk x == vk y) && (vi x == vi y) && (vs x == vs y) && !decide ((0 : Int) < (vl x).length) && !decide ((0 : Int) < (vl y).length)
def okSame (xs ys : List D) (i : Nat) : Bool:=match xs[i]?,ys[i]? with
 | some x,some y=>sameEl x y
 | _,_=>true
def sameB (a b : D) : Bool:=if (vk a != vk b) || (vi a != vi b) || (vs a != vs b) || !((vl a).length == (vl b).length) then false else (List.range (vl a).length).all (okSame (vl a) (vl b))
def φSame : List D -> Option D
 | [a,b]=>if a.isV = true /\ b.isV = true then some (.bool (sameB a b)) else none
 | _=>none
theorem bne_len (a b : Nat) : ((a : Int) != (b : Int)) = !(a == b):=by
 rw [Bool.eq_iff_iff];simp;omega
set_option maxHeartbeats 2000000 in
theorem ok54 [HasG Tryz.prog] : OkAt Tryz.prog 54 φSame:=by
 refine ok_of (l:=[]) .nil fn54 fun args r h=>?_
 unfold φSame at h
 split at h
 ·split at h
  ·rename_i a b hab
   injection h with h;subst h
   refine ⟨by simp,by simp [D.cl],fun H T=>?_⟩
   obtain ⟨ha,hb⟩:=hab
   obtain ⟨k1,i1,s1,n1,xs,rfl,z1,y1,hV1⟩:=isV_elim ha
   obtain ⟨k2,i2,s2,n2,ys,rfl,z2,y2,hV2⟩:=isV_elim hb
   have hS : sameB (mkV k1 i1 s1 n1 xs) (mkV k2 i2 s2 n2 ys) = if (k1 != k2) || (i1 != i2) || (s1 != s2) || !(xs.length == ys.length) then false else (List.range xs.length).all (okSame xs ys):=by simp only [sameB,vk_mk,vi_mk,vs_mk,vl_mk]
   rw [hS]
   have bl:=bne_len xs.length ys.length
   simp +contextual (maxSteps:=10000000) only [c54,mkV,bl,go_sem]
   intro q1 q2 q3 q4
   have hl : xs.length = ys.length:=by simpa using q4
   refine W_for (fun j s'=>s'.t 2 = .ptr H.length 0 /\ s'.t 3 = .ptr (H.length + 1) 0 /\ s'.t 5 = .int .i64 j /\ Ext (H ++ [.row [.int .i64 k1,.int .i64 i1,.str s1,sliceD n1 xs],.row [.int .i64 k2,.int .i64 i2,.str s2,sliceD n2 ys]]) s'.H /\ s'.T = T /\ j <= xs.length /\ (List.range j).all (okSame xs ys) = true) xs.length ⟨0,by simp [upd,argT,ext_self]⟩ (fun i s h=>h.2.2.2.2.2.1) ?_ (XL_mono _)
   rintro j ⟨t,B,T'⟩ ⟨h2,h3,h5,hE,rfl,hj,hc⟩
   simp only at h2 h3 h5 hE
   have b1:=hE.get (o:=H.length) (by simp;rfl)
   have b2:=hE.get (o:=H.length + 1) (by simp;rfl)
   by_cases ha : j < xs.length
   ·have d1 : decide ((j : Int) < xs.length) = true:=by simpa using ha
    obtain ⟨k3,i3,s3,n3,l3,e3,hs3,hx3,hV3,eL3⟩:=get_isV hV1 ha
    obtain ⟨k4,i4,s4,n4,l4,e4,hs4,hx4,hV4,eL4⟩:=get_isV hV2 (show j < ys.length by omega)
    have G : okSame xs ys j = ((k3 == k4) && (i3 == i4) && (s3 == s4) && !decide ((0 : Int) < l3.length) && !decide ((0 : Int) < l4.length)):=by
     simp only [okSame,e3,e4,sameEl,vk_mk,vi_mk,vs_mk,vl_mk]
    have bad : okSame xs ys j = false -> (List.range xs.length).all (okSame xs ys) = false:=fun h=>range_false_of h ha
    simp +contextual (maxSteps:=10000000) only [h2,h3,h5,d1,e3,e4,mkV,wrap_succ j (by omega),rdAt_E b1,rdAt_E b2,rdAt_Ea b1,rdAt_Ea b2,hE.ta,leaves_Ea hE.pre (ExtT.refl _),go_sem]
    simp only [List.all_append,hc,List.all_cons,List.all_nil,Bool.true_and,Bool.and_true,D.bool.injEq]
    rw [G] at bad ⊢
    clear G
    repeat' (first | apply And.intro | intro _)
    all_goals first | omega | grind
   ·have d1 : decide ((j : Int) < xs.length) = false:=by simpa using ha
    have hA : (List.range xs.length).all (okSame xs ys) = true:=by
     have : j = xs.length:=by omega
     subst this;exact hc
    simp +contextual (maxSteps:=10000000) only [h2,h3,h5,d1,mkV,hA,rdAt_E b1,rdAt_E b2,leaves_E hE.pre (ExtT.refl _),go_sem]
  ·cases h
 ·cases h
end GP
namespace GP
open Go Go.Proofs
set_option maxRecDepth 100000
def lex (p q : Int) : Int:=if p != 0 then p else q
structure Tr (p q r : Int) : Prop where
 le : p <= 0 -> q <= 0 -> r <= 0
 l1 : p < 0 -> q <= 0 -> r < 0
 l2 : p <= 0 -> q < 0 -> r < 0
 e1 : p = 0 -> r = q
 e2 : q = 0 -> r = p
theorem Tr.lex {p q r p' q' r' : Int} (h : Tr p q r) (k : p = 0 -> q = 0 -> Tr p' q' r') : Tr (lex p p') (lex q q') (lex r r'):=by
 obtain ⟨a1,a2,a3,a4,a5⟩:=h
 unfold GP.lex
 by_cases hp : p = 0
 ·by_cases hq : q = 0
  ·have hr : r = 0:=by rw [a4 hp,hq]
   subst hp;subst hq;subst hr
   simpa using k rfl rfl
  ·have hr : r = q:=a4 hp
   have hp' : (p != 0) = false:=by simp [hp]
   have hq' : (q != 0) = true:=by simp [hq]
   have hr' : (r != 0) = true:=by rw [hr];exact hq'
   rw [hp',hq',hr']
   simp only [Bool.false_eq_true,if_false,if_true]
   subst hr
   refine ⟨?_,?_,?_,?_,?_⟩ <;> omega
 ·have hp' : (p != 0) = true:=by simp [hp]
  rw [hp']
  by_cases hq : q = 0
  ·have hr : r = p:=a5 hq
   have hq' : (q != 0) = false:=by simp [hq]
   have hr' : (r != 0) = true:=by rw [hr];exact hp'
   rw [hq',hr']
   simp only [Bool.false_eq_true,if_false,if_true]
   subst hr
   refine ⟨?_,?_,?_,?_,?_⟩ <;> omega
  ·have hq' : (q != 0) = true:=by simp [hq]
   rw [hq']
   simp only [if_true]
   by_cases hr : r = 0
   ·refine ⟨?_,?_,?_,?_,?_⟩ <;> (try omega) <;> intro h1 h2 <;> (first | (have:=a2 (by omega) (by omega);omega) | omega)
   ·have hr' : (r != 0) = true:=by simp [hr]
    rw [hr'];simp only [if_true]
    exact ⟨a1,a2,a3,a4,a5⟩
theorem cmpI_tr (a b c : Int) : Tr (cmpI a b) (cmpI b c) (cmpI a c):=by
 unfold cmpI
 refine ⟨?_,?_,?_,?_,?_⟩ <;> (repeat' split) <;> omega
theorem cmpI_anti (a b : Int) : cmpI b a = - cmpI a b:=by unfold cmpI;(repeat' split) <;> omega
theorem cmpI_zero (a b : Int) : cmpI a b = 0 ↔ a = b:=by unfold cmpI;(repeat' split) <;> omega
theorem lex_anti {p q p' q' : Int} (h : p' = -p) (k : q' = -q) : lex p' q' = - lex p q:=by unfold lex;subst h;subst k;by_cases hp : p = 0 <;> simp [hp]
theorem lex_zero {p q : Int} : lex p q = 0 ↔ p = 0 /\ q = 0:=by unfold lex;by_cases hp : p = 0 <;> simp [hp]
theorem cmpS_lex (x y : UInt8) (a b : List UInt8) : cmpS (x :: a) (y :: b) = lex (cmpI x.toNat y.toNat) (cmpS a b):=by
 simp only [cmpS,lex,cmpI]
 by_cases h1 : x.toNat < y.toNat
 ·have : (x.toNat : Int) < y.toNat:=by omega
  simp [h1,this]
 ·by_cases h2 : y.toNat < x.toNat
  ·have e1 : ¬ (x.toNat : Int) < y.toNat:=by omega
   have e2 : (y.toNat : Int) < x.toNat:=by omega
   simp [h1,h2,e1,e2]
  ·have e1 : ¬ (x.toNat : Int) < y.toNat:=by omega
   have e2 : ¬ (y.toNat : Int) < x.toNat:=by omega
   simp [h1,h2,e1,e2]
theorem cmpS_tr : ∀ (a b c : List UInt8),Tr (cmpS a b) (cmpS b c) (cmpS a c)
 | [],[],[]=>⟨by simp [cmpS],by simp [cmpS],by simp [cmpS],by simp [cmpS],by simp [cmpS]⟩
 | [],[],_ :: _=>⟨by simp [cmpS],by simp [cmpS],by simp [cmpS],by simp [cmpS],by simp [cmpS]⟩
 | [],_ :: _,[]=>⟨by simp [cmpS],by simp [cmpS],by simp [cmpS],by simp [cmpS],by simp [cmpS]⟩
 | [],_ :: _,_ :: _=>⟨by simp [cmpS],by simp [cmpS],by simp [cmpS],by simp [cmpS],by simp [cmpS]⟩
 | _ :: _,[],[]=>⟨by simp [cmpS],by simp [cmpS],by simp [cmpS],by simp [cmpS],by simp [cmpS]⟩
 | _ :: _,[],_ :: _=>⟨by simp [cmpS],by simp [cmpS],by simp [cmpS],by simp [cmpS],by simp [cmpS]⟩
 | _ :: _,_ :: _,[]=>⟨by simp [cmpS],by simp [cmpS],by simp [cmpS],by simp [cmpS],by simp [cmpS]⟩
 | x :: a,y :: b,z :: c=>by
  rw [cmpS_lex,cmpS_lex,cmpS_lex]
  exact (cmpI_tr _ _ _).lex fun _ _=>cmpS_tr a b c
theorem cmpS_anti : ∀ (a b : List UInt8),cmpS b a = - cmpS a b
 | [],[]=>rfl
 | [],_ :: _=>rfl
 | _ :: _,[]=>rfl
 | x :: a,y :: b=>by rw [cmpS_lex,cmpS_lex];exact lex_anti (cmpI_anti _ _) (cmpS_anti a b)
theorem cmpS_zero : ∀ (a b : List UInt8),cmpS a b = 0 ↔ a = b
 | [],[]=>by simp [cmpS]
 | [],_ :: _=>by simp [cmpS]
 | _ :: _,[]=>by simp [cmpS]
 | x :: a,y :: b=>by
  rw [cmpS_lex,lex_zero,cmpI_zero,cmpS_zero a b]
  constructor
  ·rintro ⟨h1,h2⟩
   have : x = y:=UInt8.toNat_inj.1 (by omega)
   rw [this,h2]
  ·intro h;injection h with h1 h2;exact ⟨by rw [h1],h2⟩
theorem single_lex (a b : D) : singleD a b = lex (cmpI (vk a) (vk b)) (if vk a == 3 then cmpS (vs a) (vs b) else cmpI (vi a) (vi b)):=by
 unfold singleD singleI lex
 by_cases h : vk a = vk b
 ·simp [h,cmpI_self]
 ·simp [h,cmpI_ne h]
theorem single_tr (a b c : D) : Tr (singleD a b) (singleD b c) (singleD a c):=by
 rw [single_lex,single_lex,single_lex]
 refine (cmpI_tr _ _ _).lex fun h1 h2=>?_
 rw [cmpI_zero] at h1 h2
 rw [<- h1]
 split
 ·exact cmpS_tr _ _ _
 ·exact cmpI_tr _ _ _
theorem single_anti (a b : D) : singleD b a = - singleD a b:=by
 rw [single_lex,single_lex]
 by_cases h : vk a = vk b
 ·rw [h]
  refine lex_anti (cmpI_anti _ _) ?_
  split
  ·exact cmpS_anti _ _
  ·exact cmpI_anti _ _
 ·have h1:=cmpI_ne h
  have h2:=cmpI_ne (Ne.symm h)
  unfold lex
  simp only [bne_iff_ne,ne_eq,h1,not_false_eq_true,if_true,h2]
  exact cmpI_anti _ _
theorem single_zero {a b : D} (ha : one1 a = true) (hb : one1 b = true) : singleD a b = 0 ↔ vk a = vk b /\ vi a = vi b /\ vs a = vs b:=by
 obtain ⟨_,a1,a2,_⟩:=plain_facts ha
 obtain ⟨_,b1,b2,_⟩:=plain_facts hb
 rw [single_lex,lex_zero,cmpI_zero]
 by_cases h : vk a = vk b
 ·by_cases h3 : vk a = 3
  ·rw [a1 h3,b1 (by omega)]
   simp [h,show vk b = 3 by omega,cmpS_zero]
  ·rw [a2 h3,b2 (by omega)]
   have : ¬ vk b = 3:=by omega
   simp [h,this,cmpI_zero]
 ·simp [h]
end GP
namespace GP
open Go
variable {P : Program} [HasG P]
def XU (P : Program) [HasG P] (u : List FuncId) (l : Fs) (m : FsH) (e : FsE) : Pred:=fun f a H T Q=>if u.contains f = true then Snd P f a H T Q else XE l m e f a H T Q
theorem XU.X {u : List FuncId} {l : Fs} {m : FsH} {e : FsE} (k : Ok P l) (k' : OkH P m) (k'' : OkE P e) : ∀ f args H T Q Q',(∀ r H T,Q r H T -> Q' r H T) -> XU P u l m e f args H T Q -> Snd P f args H T Q':=by
 intro f args H T Q Q' hQ h
 unfold XU at h
 split at h
 ·exact Snd.mono _ _ _ _ _ _ hQ h
 ·exact XE.X k k' k'' f args H T Q Q' hQ h
theorem XU_mono (u : List FuncId) (l : Fs) (m : FsH) (e : FsE) : Mono (XU P u l m e):=by
 intro f args H T Q Q' hQ h
 unfold XU at h ⊢
 split at h
 ·rename_i c;rw [if_pos c];exact Snd.mono _ _ _ _ _ _ hQ h
 ·rename_i c;rw [if_neg c];exact XE_mono l m e _ _ _ _ _ _ hQ h
theorem XU_eq (u : List FuncId) (l : Fs) (m : FsH) (e : FsE) (f : FuncId) (args : List D) (H : Hp) (T : Tk) (Q : Post) : XU P u l m e f args H T Q = if u.contains f = true then Snd P f args H T Q else orX Q H T (look l f (D.eraseL args)) (lookH m H f (D.eraseL args)) (lookE e H f (D.eraseL args)):=by
 unfold XU
 rw [XE_eq]
theorem pcallU {u : List FuncId} {l : Fs} {m : FsH} {e : FsE} (hm : MonoH m) (args : List D) (K : D -> S -> Prop) (s : S) (f : FuncId) (first cap : List D) :
  pcallK (XU P u l m e) args K s (.fn f first cap) = if (u.contains f || inE e f) = true then pcallN (XU P u l m e) args K s (.fn f first cap) else orK K s (look l f (D.eraseL (first ++ args ++ cap))) (lookH m s.H f (D.eraseL (first ++ args ++ cap))):=by
 cases hu : u.contains f with
 | true=>rfl
 | false =>
  simp only [Bool.false_or]
  have hx : ∀ a H T Q,XU P u l m e f a H T Q = XE l m e f a H T Q:=by
   intro a H T Q;unfold XU;rw [hu];rfl
  cases he : inE e f with
  | true=>rfl
  | false =>
   rw [if_neg (by simp)]
   have:=pcallE (l:=l) (e:=e) hm args K s f first cap
   rw [he,if_neg (by simp)] at this
   rw [<- this]
   simp only [pcallK,eq_iff_iff]
   unfold Pure
   simp only [hx]
def callQ (K : D -> S -> Prop) (t : Nat -> D) : Post:=fun r H T=>K r ⟨t,H,T⟩
theorem callK_fn (X : Pred) (args : List D) (K : D -> S -> Prop) (s : S) (f : FuncId) (first cap : List D) : callK X args K s (.fn f first cap) = X f (first ++ args ++ cap) s.H s.T (callQ K s.t):=id rfl
theorem callQ_eq (K : D -> S -> Prop) (t : Nat -> D) (r : D) (H : Hp) (T : Tk) : callQ K t r H T = K r ⟨t,H,T⟩:=id rfl
def orL (Q : Post) (H : Hp) (T : Tk) : Option D -> Prop
 | some r=>Q r H T
 | none=>False
theorem XL_eq (l : Fs) (f : FuncId) (args : List D) (H : Hp) (T : Tk) (Q : Post) : XL l f args H T Q = orL Q H T (look l f (D.eraseL args)):=by
 unfold XL orL
 cases look l f (D.eraseL args) <;> rfl
theorem orL_s (Q : Post) (H : Hp) (T : Tk) (r : D) : orL Q H T (some r) = Q r H T:=id rfl
attribute [go_sem] callK_fn callQ_eq XL_eq orL_s XE_eq orX_s orX_n orX_e orE_s lookE_nil lookE_cons inE_nil inE_cons lookH_nil lookH_cons orK_s orK_n
theorem okEX_of {X : Pred} (hX : ∀ f args H T Q Q',(∀ r H T,Q r H T -> Q' r H T) -> X f args H T Q -> Snd P f args H T Q') {f : FuncId} {n : Nat} {rs : List (Sum Nat (Nat × Bool × Nat))} {cc : C} (hf : Fn P f n rs cc) {φ : Hp -> List D -> Option (D × Hp)}
  (h : ∀ H args r H1,φ H args = some (r,H1) -> args.length <= n /\ r.cl H1.length 0 = true /\ Closed H H1 0 /\ ∀ T,W X cc (endQ rs (LeavesE r H1 T)) ⟨argT args,H,T⟩) : OkAtE P f φ:=by
 intro H args r H1 hr args' he T Q hQ
 obtain ⟨h1,h2,h4,h3⟩:=h H args r H1 hr
 have hS : Snd P f args H T (LeavesE r H1 T):=call_of hf h1 (W_mono hX (fun _ _ h=>h) (h3 T))
 intro c w vs kg k1 k2 k3
 have k3' : Reps c args vs:=by rw [<- he];exact k3.erase
 have hcl:=D.cl_mono (Nat.le_refl H1.length) (Nat.zero_le T.length) r h2
 have hC : Closed H H1 T.length:=⟨h4.1,fun o x cs a b=>(h4.2 o x cs a b).imp id (D.clL_mono (Nat.le_refl _) (Nat.zero_le _) cs)⟩
 rcases hS c w vs kg k1 k2 k3' with ⟨g1,g2⟩ | ⟨v,w',g1,g2⟩
 ·exact .inl ⟨g1,g2.mono fun e w' k=>CallPost.forgetE k1 k2 hcl hC hQ k⟩
 ·exact .inr ⟨v,w',g1,CallPost.forgetE k1 k2 hcl hC hQ g2⟩
theorem okFX_of {X : Pred} (hX : ∀ f args H T Q Q',(∀ r H T,Q r H T -> Q' r H T) -> X f args H T Q -> Snd P f args H T Q') {f : FuncId} {n : Nat} {rs : List (Sum Nat (Nat × Bool × Nat))} {cc : C} (hf : Fn P f n rs cc) {φ : List D -> Option D}
  (h : ∀ args r,φ args = some r -> args.length <= n /\ r.cl 0 0 = true /\ ∀ H T,W X cc (endQ rs (LeavesE r H T)) ⟨argT args,H,T⟩) : OkAt P f φ:=by
 intro args r hr args' he H T Q hQ
 refine okEX_of hX hf (φ:=fun H a=>(φ a).map fun r=>(r,H)) (fun H a r H1 hr=>?_) H args r H (by simp [hr]) args' he T Q hQ
 cases ha : φ a with
 | none=>rw [ha] at hr;cases hr
 | some r' =>
  rw [ha] at hr;simp only [Option.map_some,Option.some.injEq,Prod.mk.injEq] at hr
  obtain ⟨rfl,rfl⟩:=hr
  obtain ⟨h1,h2,h3⟩:=h a r' ha
  exact ⟨h1,D.cl_mono (Nat.zero_le _) (Nat.le_refl _) r' h2,Closed.refl _ _,fun T=>h3 H T⟩
theorem Ext.set {H B : Hp} (h : Ext H B) {o : Nat} (ho : H.length <= o) (x : Ob) : Ext H (B.set o x):=by
 obtain ⟨L,rfl⟩:=h
 exact ⟨L.set (o - H.length) x,by rw [List.set_append_right _ _ ho]⟩
theorem leavesE_end {r r0 : D} {H B : Hp} {T U : Tk} (hr : Crs r r0) (h : Ext H B) (k : ExtT T U) : LeavesE r0 H T r B U:=by
 obtain ⟨L,rfl⟩:=h;obtain ⟨M,rfl⟩:=k
 exact ⟨r,_,.refl _ _,hr,⟨H,L,rfl,SameH.refl H⟩,M,rfl⟩
theorem leavesE_fz {r r0 : D} {H B : Hp} {T U : Tk} (o : Nat) (cs : List D) (ho : B[o]? = some (.row cs)) (hl : H.length <= o) (hr : Crs (r.fz o cs) r0) (h : Ext H B) (k : ExtT T U) : LeavesE r0 H T r B U:=by
 obtain ⟨L,e⟩:=h.set hl .dead;obtain ⟨M,rfl⟩:=k
 exact ⟨_,_,.step o cs ho (.refl _ _),hr,⟨H,L,e,SameH.refl H⟩,M,rfl⟩
@[go_sem] theorem fld_f (off n : Nat) (cs : List D) : fld false off n (.agg cs) = cs[off]?:=id rfl
@[go_sem] theorem fld_t (off n : Nat) (cs : List D) : fld true off n (.agg cs) = if off + n <= cs.length then some (.agg ((cs.take (off + n)).drop off)) else none:=id rfl
end GP
namespace Go.Proofs
open Go.Shelf Go.RowKit Go.Lib Go.Sort
shelf_lay_g SlLaysF0.n6 Slsf 6 at Tryz 248 as Tryz.sortVal
end Go.Proofs
namespace GP
open Go Go.Proofs
set_option maxRecDepth 100000
def φeqv : List D -> Option D
 | [a,b]=>if a.isV = true /\ b.isV = true /\ leaf a = true /\ leaf b = true then some (.bool (ord0 a b == 0)) else none
 | _=>none
theorem ok250 [HasG Tryz.prog] : OkAt Tryz.prog 250 φeqv:=by
 refine ok_of (l:=[(64,φOrd dom0 f0)]) (.cons ok64a .nil) fn250 fun args r h=>?_
 unfold φeqv at h
 split at h
 ·split at h
  ·rename_i a b hab
   injection h with h;subst h
   obtain ⟨ha,hb,hla,hlb⟩:=hab
   have p:=ord_leaf ha hb hla hlb
   refine ⟨by simp,by simp [D.cl],fun H T=>?_⟩
   obtain ⟨k1,i1,s1,n1,l1,rfl,z1,y1,hV1⟩:=isV_elim ha
   obtain ⟨k2,i2,s2,n2,l2,rfl,z2,y2,hV2⟩:=isV_elim hb
   have r1:=erase_of_isV hV1
   have r2:=erase_of_isV hV2
   simp only [mkV] at p
   simp +contextual (maxSteps:=10000000) only [c250,mkV,p,r1,r2,go_sem]
  ·cases h
 ·cases h
def φins0 : List D -> Option D
 | [.nils,.int .i64 a,.int .i64 b,.fn 64 [] []]=>if a = 0 /\ b = 0 then some (.tup []) else none
 | [.sl none [],.int .i64 a,.int .i64 b,.fn 64 [] []]=>if a = 0 /\ b = 0 then some (.tup []) else none
 | [.ms true 4 _ _ 0 _,.int .i64 a,.int .i64 b,.fn 64 [] []]=>if a = 0 /\ b = 0 then some (.tup []) else none
 | _=>none
theorem ok253 [HasG Tryz.prog] : OkAt Tryz.prog 253 φins0:=by
 refine ok_of (l:=[]) .nil fn253 fun args r h=>?_
 unfold φins0 at h
 split at h <;> first | (cases h;done) | skip
 all_goals
  split at h
  ·rename_i hab
   obtain ⟨rfl,rfl⟩:=hab
   injection h with h;subst h
   refine ⟨by simp,by simp [D.cl,D.clL],fun H T=>?_⟩
   simp +contextual (maxSteps:=10000000) only [c253,go_sem]
   refine W_for (fun i s'=>s'.t 8 = .int .i64 1 /\ s'.t 2 = .int .i64 0 /\ s'.H = H /\ s'.T = T /\ i <= 0) 0 ⟨0,by simp [upd,argT,wrap_of]⟩ (fun i s h=>h.2.2.2.2) ?_ (XL_mono _)
   rintro i ⟨t,B,T'⟩ ⟨r8,r2,rfl,rfl,hi⟩
   simp only at r8 r2
   have d1 : decide ((1 : Int) < 0) = false:=by decide
   simp +contextual (maxSteps:=10000000) only [r8,r2,d1,go_sem]
  ·cases h
def φpdq0 : List D -> Option D
 | [.nils,.int .i64 a,.int .i64 b,.int .i64 _,.fn 64 [] []]=>if a = 0 /\ b = 0 then some (.tup []) else none
 | [.sl none [],.int .i64 a,.int .i64 b,.int .i64 _,.fn 64 [] []]=>if a = 0 /\ b = 0 then some (.tup []) else none
 | [.ms true 4 _ _ 0 _,.int .i64 a,.int .i64 b,.int .i64 _,.fn 64 [] []]=>if a = 0 /\ b = 0 then some (.tup []) else none
 | _=>none
theorem ok251 [HasG Tryz.prog] : OkAt Tryz.prog 251 φpdq0:=by
 refine ok_of (l:=[(253,φins0)]) (.cons ok253 .nil) fn251 fun args r h=>?_
 have p1 : φins0 [.nils,.int .i64 0,.int .i64 0,.fn 64 [] []] = some (.tup []):=rfl
 have p2 : φins0 [.sl none [],.int .i64 0,.int .i64 0,.fn 64 [] []] = some (.tup []):=rfl
 have p3 : ∀ o off cap,φins0 [.ms true 4 o off 0 cap,.int .i64 0,.int .i64 0,.fn 64 [] []] = some (.tup []):=fun _ _ _=>rfl
 have w0 : IntKind.i64.wrap (0 - 0) = 0:=by decide
 have d0 : decide ((0 : Int) <= 12) = true:=by decide
 unfold φpdq0 at h
 split at h <;> first | (cases h;done) | skip
 all_goals
  split at h
  ·rename_i z hab
   obtain ⟨rfl,rfl⟩:=hab
   injection h with h;subst h
   refine ⟨by simp,by simp [D.cl,D.clL],fun H T=>?_⟩
   simp +contextual (maxSteps:=10000000) only [c251,go_sem]
   refine W_for (fun i s'=>(s'.t 0 = .nils ∨ s'.t 0 = .sl none [] ∨ ∃ o off cap,s'.t 0 = .ms true 4 o off 0 cap) /\ s'.t 1 = .int .i64 0 /\ s'.t 2 = .int .i64 0 /\ s'.t 4 = .fn 64 [] [] /\ s'.H = H /\ s'.T = T /\ i <= 0) 0 ⟨0,by simp [upd,argT],by simp [upd,argT],by simp [upd,argT],by simp [upd,argT],rfl,rfl,Nat.le_refl _⟩ (fun i s h=>h.2.2.2.2.2.2) ?_ (XL_mono _)
   rintro i ⟨t,B,T'⟩ ⟨r0,r1,r2,r4,rfl,rfl,hi⟩
   simp only at r0 r1 r2 r4
   rcases r0 with r0 | r0 | ⟨o,off,cap,r0⟩
   ·simp +contextual (maxSteps:=10000000) only [r0,r1,r2,r4,p1,w0,d0,go_sem]
   ·simp +contextual (maxSteps:=10000000) only [r0,r1,r2,r4,p2,w0,d0,go_sem]
   ·simp +contextual (maxSteps:=10000000) only [r0,r1,r2,r4,p3,w0,d0,go_sem]
  ·cases h
theorem ok_fun {P : Program} [HasG P] {f : FuncId} {φ : List D -> Option D} (h : ∀ args r,φ args = some r -> ∀ (c : Cx) (w : World) (vs : List Value),Reps c args vs -> (callFunc f vs.toArray).run P w = .ok (.enter f vs.toArray) w ∧
   Calls P f vs.toArray w fun e w'=>∃ v,e = .returned v /\ Rep c r v /\ w' = w) : OkAt P f φ:=by
 intro args r hr args' he H T Q hQ c w vs hg k1 k2 k3
 have k3' : Reps c args vs:=by rw [<- he];exact k3.erase
 obtain ⟨g1,g2⟩:=h args r hr c w vs k3'
 refine .inl ⟨g1,g2.mono ?_⟩
 rintro e w' ⟨v,rfl,h1,rfl⟩
 exact ⟨v,rfl,r,H,T,c,hQ,h1,k1,Cx.le.refl c,k2,Below.refl _ _⟩
def φlen0 : List D -> Option D
 | [.int .u64 n]=>if n = 0 then some (.int .i64 0) else none
 | _=>none
theorem ok252 [HasG Tryz.prog] : OkAt Tryz.prog 252 φlen0:=by
 refine ok_fun fun args r h c w vs hr=>?_
 unfold φlen0 at h
 split at h
 ·split at h
  ·rename_i hn
   subst hn
   injection h with h;subst h
   match vs,hr.len with
   | [v],_ =>
    have h1:=hr.rep 0 (by simp) (by simp)
    simp only [List.getElem_cons_zero] at h1
    cases h1
    have e252 : ∀ args w,(callFunc 252 args).run Tryz.prog w = .ok (.enter 252 args) w:=enters_of Tryz.func252 (by kernel_rfl) rfl
    refine ⟨e252 _ _,?_⟩
    have:=Go.Proofs.Any.bits_Len (SlLaysF0.n15.bits (P:=Tryz.prog) (ρ:=Tryz.sortVal_ren) { Tryz.sortVal with }) (0 : Int) w (by omega) (by omega)
    refine Calls.mono (show Calls Tryz.prog 252 _ _ _ from this) ?_
    rintro e w' ⟨rfl,rfl⟩
    exact ⟨_,rfl,.int _ _,rfl⟩
  ·cases h
 ·cases h
def φsort0 : List D -> Option D
 | [.nils,.fn 64 [] []]=>some (.tup [])
 | [.sl none [],.fn 64 [] []]=>some (.tup [])
 | [.ms true 4 _ _ 0 _,.fn 64 [] []]=>some (.tup [])
 | _=>none
theorem ok248 [HasG Tryz.prog] : OkAt Tryz.prog 248 φsort0:=by
 refine ok_of (l:=[(251,φpdq0),(252,φlen0)]) (.cons ok251 (.cons ok252 .nil)) fn248 fun args r h=>?_
 have p1 : φpdq0 [.nils,.int .i64 0,.int .i64 0,.int .i64 0,.fn 64 [] []] = some (.tup []):=rfl
 have p2 : φpdq0 [.sl none [],.int .i64 0,.int .i64 0,.int .i64 0,.fn 64 [] []] = some (.tup []):=rfl
 have p4 : ∀ o off cap,φpdq0 [.ms true 4 o off 0 cap,.int .i64 0,.int .i64 0,.int .i64 0,.fn 64 [] []] = some (.tup []):=fun _ _ _=>rfl
 have p3 : φlen0 [.int .u64 0] = some (.int .i64 0):=rfl
 have w0 : IntKind.u64.wrap 0 = 0:=by decide
 unfold φsort0 at h
 split at h <;> first | (cases h;done) | skip
 all_goals
  injection h with h;subst h
  refine ⟨by simp,by simp [D.cl,D.clL],fun H T=>?_⟩
  simp +contextual (maxSteps:=10000000) only [c248,p1,p2,p3,p4,w0,go_sem]
end GP
namespace GP
open Go Go.Proofs
set_option maxRecDepth 100000
theorem isV_agg {xs : List D} (h : ∀ x ∈ xs,x.isV = true) : isAg 4 xs:=fun x hx=>by
 obtain ⟨k,i,s,n,l,rfl,_⟩:=isV_elim (h x hx)
 exact ⟨_,rfl,rfl⟩
theorem clone_snd [HasG Tryz.prog] {xs : List D} {H : Hp} {T : Tk} {Q : Post} (hx : ∀ x ∈ xs,x.isV = true) (hne : xs ≠ []) (hl : xs.length <= 2 ^ 40) (k : Q (.ms true 4 (H.length + 1) 0 xs.length xs.length) (H ++ [.dead,.row (flatD xs)]) T) : Snd Tryz.prog 247 [.sl none xs] H T Q:=by
 refine call_of fn247 (by simp) (W_mono (X:=XL []) (Ok.X .nil) (fun _ _ h=>h) ?_)
 have hf:=(isV_agg hx).fit
 cases xs with
 | nil=>exact absurd rfl hne
 | cons x r =>
  have e1 : Option.map (fun b=>D.bool b) (eq1D Tq.slc (D.sl none (x :: r)) D.nils) = some (.bool false):=rfl
  simp +contextual (maxSteps:=10000000) only [c247,e1,go_sem]
  have ho : (H ++ [Ob.row (flatD [])])[H.length]? = some (.row []):=by simp [flatD]
  have hl' : ¬ (x :: r).length = 0:=by simp
  simp only [appmK,ho]
  refine ⟨hf,trivial,?_⟩
  rw [if_neg (by simp)]
  refine ⟨by simp,by simp,by simp at hl ⊢;omega,by simp at hl ⊢;omega,?_⟩
  simp +contextual (maxSteps:=10000000) only [go_sem]
  have e : List.set (H ++ [Ob.row (flatD [])]) H.length Ob.dead ++ [Ob.row (flatD (x :: r))] = H ++ [.dead,.row (flatD (x :: r))]:=by simp [List.set_append]
  rw [e]
  exact k
theorem set_same {H : Hp} {o : Nat} {x : Ob} (h : H[o]? = some x) : H.set o x = H:=by
 apply List.ext_getElem?
 intro i
 rw [List.getElem?_set]
 split
 ·rename_i e;subst e
  have : o < H.length:=by
   rcases Nat.lt_or_ge o H.length with h' | h'
   ·exact h'
   ·rw [List.getElem?_eq_none h'] at h;cases h
  rw [if_pos this,h]
 ·rfl
def cmpA (p : D) : List D -> List D
 | []=>[]
 | y :: r=>if ord0 y p == 0 then cmpA y r else y :: cmpA y r
def cmpC : List D -> List D
 | []=>[]
 | x :: r=>x :: cmpA x r
theorem cmpA_snoc (y : D) : ∀ (l : List D) (p : D),cmpA p (l ++ [y]) = if ord0 y ((p :: l).getLast (by simp)) == 0 then cmpA p l else cmpA p l ++ [y]
 | [],p=>by simp [cmpA]
 | x :: l,p=>by
  simp only [List.cons_append,cmpA,cmpA_snoc y l x,List.getLast_cons_cons]
  split <;> split <;> simp_all
theorem cmpC_take {ys : List D} {j : Nat} (h0 : 0 < j) (hj : j < ys.length) {y p : D} (hy : ys[j]? = some y) (hp : ys[j - 1]? = some p) :
  cmpC (ys.take (j + 1)) = if ord0 y p == 0 then cmpC (ys.take j) else cmpC (ys.take j) ++ [y]:=by
 cases ys with
 | nil=>simp at hj
 | cons x r =>
  obtain ⟨m,rfl⟩ : ∃ m,j = m + 1:=⟨j - 1,by omega⟩
  simp only [List.length_cons] at hj
  have hm : m < r.length:=by omega
  have ey : r[m] = y:=by simpa [hm] using hy
  have e1 : r.take (m + 1) = r.take m ++ [y]:=by rw [List.take_add_one,List.getElem?_eq_getElem hm,ey];rfl
  have e2 : (x :: r.take m).getLast (by simp) = p:=by
   have : (x :: r).take (m + 1) = x :: r.take m:=rfl
   rw [List.getLast_eq_getElem]
   have hp' : (x :: r)[m]? = some p:=by simpa using hp
   have : (x :: r.take m)[m]? = some p:=by
    rw [<- hp',← List.take_succ_cons,List.getElem?_take_of_lt (by omega)]
   have hl : (x :: r.take m).length - 1 = m:=by simp;omega
   rw [List.getElem?_eq_getElem (by simp;omega)] at this
   simp only [hl]
   injection this
  simp only [List.take_succ_cons,cmpC]
  rw [e1,cmpA_snoc,e2]
  split <;> simp
theorem cmpC_step {ys : List D} {j : Nat} (h0 : 0 < j) (hj : j < ys.length) {y p : D} (hy : ys[j]? = some y) (hp : ys[j - 1]? = some p) {S : List D} {i : Nat} (hS : S.length = ys.length) (h1 : S.take i = cmpC (ys.take j)) (h2 : S.drop i = ys.drop i) (hi : (cmpC (ys.take j)).length = i) (hij : i < j)
  (hne : (ord0 y p == 0) = false) : (S.set i y).length = ys.length /\ (S.set i y).take (i + 1) = cmpC (ys.take (j + 1)) /\ (S.set i y).drop (i + 1) = ys.drop (i + 1) /\ (cmpC (ys.take (j + 1))).length = i + 1:=by
 have e:=cmpC_take h0 hj hy hp
 rw [hne] at e
 simp only [Bool.false_eq_true,if_false] at e
 refine ⟨by simp [hS],?_,?_,by rw [e];simp [hi]⟩
 ·rw [e,← h1,List.take_add_one,List.take_set_of_le (Nat.le_refl _),List.getElem?_set_self (by omega)];rfl
 ·rw [List.drop_set_of_lt (by omega),← List.drop_drop,h2,List.drop_drop]
theorem compact_snd [HasG Tryz.prog] {ys rest : List D} {H : Hp} {o cap : Nat} {T : Tk} {Q : Post} (ho : H[o]? = some (.row (flatD ys ++ rest))) (hy : ∀ y ∈ ys,y.isV = true /\ leaf y = true) (hl : ys.length <= 2 ^ 40) (hcap : ys.length <= cap)
  (k : ∀ rest',Q (.ms true 4 o 0 (cmpC ys).length cap) (H.set o (.row (flatD (cmpC ys) ++ rest'))) T) : Snd Tryz.prog 249 [.ms true 4 o 0 ys.length cap,.fn 250 [] []] H T Q:=by
 refine call_of fn249 (by simp) (W_mono (X:=XL [(250,φeqv)]) (Ok.X (.cons ok250 .nil)) (fun _ _ h=>h) ?_)
 have hv : ∀ y ∈ ys,y.isV = true:=fun y h=>(hy y h).1
 have hag:=isV_agg hv
 rcases tf (decide ((ys.length : Int) < 2)) with g | g
 ·have hC : cmpC ys = ys:=by
   simp only [decide_eq_true_eq] at g
   match ys,g with
   | [],_=>rfl
   | [x],_=>rfl
   | x :: y :: r,g=>simp at g;omega
  have k0:=k rest
  rw [hC,set_same ho] at k0
  simp +contextual (maxSteps:=10000000) only [c249,g,go_sem]
  exact k0
 ·simp only [decide_eq_false_iff_not] at g
  have hd : decide ((ys.length : Int) < 2) = false:=by simp only [decide_eq_false_iff_not];omega
  simp +contextual (maxSteps:=10000000) only [c249,hd,go_sem]
  refine W_for (fun i s'=>s'.t 0 = .ms true 4 o 0 ys.length cap /\ s'.t 1 = .fn 250 [] [] /\ s'.t 5 = .int .i64 ((i + 1 : Nat) : Int) /\ s'.H = H /\ s'.T = T /\ i + 1 <= ys.length /\ cmpC (ys.take (i + 1)) = ys.take (i + 1)) ys.length
   ⟨0,by simp [upd,argT],by simp [upd,argT],by simp [upd,argT],rfl,rfl,by omega,?_⟩ (fun i s h=>by have:=h.2.2.2.2.2.1;omega) ?_ (XL_mono _)
  ·cases ys with
   | nil=>rfl
   | cons x r=>rfl
  rintro i ⟨t,B,T'⟩ ⟨r0,r1,r5,rfl,rfl,hi,hC⟩
  simp only at r0 r1 r5 ho k
  by_cases hlt : i + 1 < ys.length
  ·have d1 : decide (((i + 1 : Nat) : Int) < ys.length) = true:=by simp only [decide_eq_true_eq];omega
   have ex : ys[i + 1]? = some ys[i + 1]:=by simp [hlt]
   have ep : ys[i]? = some ys[i]:=by rw [List.getElem?_eq_getElem (by omega)]
   obtain ⟨x,hx⟩ : ∃ x,ys[i + 1] = x:=⟨_,rfl⟩
   obtain ⟨p,hp⟩ : ∃ p,ys[i] = p:=⟨_,rfl⟩
   rw [hx] at ex;rw [hp] at ep
   have l1:=rd_ms (off:=(i + 1) * 4) ho hag ex (by omega)
   have l2:=rd_ms (off:=i * 4) ho hag ep (by omega)
   have i1:=ia_msN (ag:=true) (sz:=4) (o:=o) (off:=0) (cap:=cap) (k:=.i64) hlt
   have i2:=ia_msN (ag:=true) (sz:=4) (o:=o) (off:=0) (cap:=cap) (k:=.i64) (show i < ys.length by omega)
   have hxv:=hy x (List.mem_of_getElem? ex)
   have hpv:=hy p (List.mem_of_getElem? ep)
   have hc : φeqv [x,p] = some (.bool (ord0 x p == 0)):=by simp only [φeqv];rw [if_pos ⟨hxv.1,hpv.1,hxv.2,hpv.2⟩]
   have w1 : IntKind.i64.wrap (((i + 1 : Nat) : Int) - 1) = (i : Nat):=by rw [show ((i + 1 : Nat) : Int) - 1 = (i : Nat) by omega];exact wrap_of _ (by omega) (by omega)
   have w2 : IntKind.i64.wrap (((i + 1 : Nat) : Int) + 1) = ((i + 1 + 1 : Nat) : Int):=by rw [show ((i + 1 : Nat) : Int) + 1 = ((i + 1 + 1 : Nat) : Int) by omega];exact wrap_of _ (by omega) (by omega)
   have er : D.eraseL [x,p] = [x,p]:=by
    obtain ⟨k1,j1,s1,n1,m1,rfl,_,_,hV1⟩:=isV_elim hxv.1
    obtain ⟨k2,j2,s2,n2,m2,rfl,_,_,hV2⟩:=isV_elim hpv.1
    exact erase_of_isV (by simp [hxv.1,hpv.1])
   have hstep:=cmpC_take (ys:=ys) (j:=i + 1) (by omega) hlt ex (by simpa using ep)
   rcases tf (ord0 x p == 0) with g0 | g0
   ·rw [g0] at hc hstep
    simp only [if_true] at hstep
    have s1:=slc_msN (ag:=true) (sz:=4) (o:=o) (off:=0) (n:=ys.length) (cap:=cap) (l:=i + 1) (h:=ys.length) (by omega) (Nat.le_refl _) (by omega)
    rw [Nat.zero_add] at s1
    simp +contextual (maxSteps:=10000000) only [r0,r1,r5,d1,w1,l1,l2,i1,i2,hc,er,s1,go_sem]
    refine W_for (fun m s'=>∃ S q,s'.t 0 = .ms true 4 o 0 ys.length cap /\ s'.t 1 = .fn 250 [] [] /\ s'.t 5 = .int .i64 ((q : Nat) : Int) /\ s'.t 6 = .ms true 4 o ((i + 1) * 4) (ys.length - (i + 1)) (cap - (i + 1)) /\ s'.t 7 = .int .i64 ((m + 1 : Nat) : Int) /\ s'.H = B.set o (.row (flatD S ++ rest)) /\ s'.T = T' ∧
      S.length = ys.length /\ S.take q = cmpC (ys.take (i + 1 + m + 1)) /\ S.drop q = ys.drop q /\ (cmpC (ys.take (i + 1 + m + 1))).length = q /\ q < i + 1 + m + 1 /\ i + 1 + m + 1 <= ys.length /\ (∀ y ∈ S,y.isV = true /\ leaf y = true)) ys.length
     ⟨0,ys,i + 1,by simp [upd,r0],by simp [upd,r1],by simp [upd,r5],by simp [upd],by simp [upd],by rw [set_same ho],rfl,rfl,?_,rfl,?_,by omega,by omega,hy⟩ (fun m s h=>by obtain ⟨_,_,h⟩:=h;have:=h.2.2.2.2.2.2.2.2.2.2.2.2.1;omega) ?_ (XL_mono _)
    ·rw [hstep,hC]
    ·rw [hstep,hC];simp;omega
    rintro m ⟨t2,B2,T2⟩ ⟨S,q,r0,r1,r5,r6,r7,rfl,rfl,hS,h1,h2,hq,hqj,hj,hSv⟩
    simp only at r0 r1 r5 r6 r7
    have hagS:=isV_agg (fun y h=>(hSv y h).1)
    have hoB : o < B.length:=by
     rcases Nat.lt_or_ge o B.length with h' | h'
     ·exact h'
     ·rw [List.getElem?_eq_none h'] at ho;cases ho
    have hB2 : (B.set o (Ob.row (flatD S ++ rest)))[o]? = some (.row (flatD S ++ rest)):=by rw [List.getElem?_set_self hoB]
    have hge : ∀ z,q <= z -> S[z]? = ys[z]?:=fun z hz=>by
     have:=congrArg (fun l=>l[z - q]?) h2
     simp only [List.getElem?_drop] at this
     rwa [show q + (z - q) = z by omega] at this
    by_cases hlt2 : i + 1 + m + 1 < ys.length
    ·have d2 : decide (((m + 1 : Nat) : Int) < ((ys.length - (i + 1) : Nat) : Int)) = true:=by simp only [decide_eq_true_eq];omega
     obtain ⟨x,hx2⟩ : ∃ x,ys[i + 1 + m + 1] = x:=⟨_,rfl⟩
     obtain ⟨p,hp2⟩ : ∃ p,ys[i + 1 + m] = p:=⟨_,rfl⟩
     have ex2 : ys[i + 1 + m + 1]? = some x:=by rw [List.getElem?_eq_getElem hlt2,hx2]
     have ep2 : ys[i + 1 + m]? = some p:=by rw [List.getElem?_eq_getElem (by omega),hp2]
     have exS : S[i + 1 + m + 1]? = some x:=by rw [hge _ (by omega)];exact ex2
     have epS : S[i + 1 + m]? = some p:=by rw [hge _ (by omega)];exact ep2
     have l1:=rd_ms (off:=(i + 1) * 4 + (m + 1) * 4) hB2 hagS exS (by omega)
     have l2:=rd_ms (off:=(i + 1) * 4 + m * 4) hB2 hagS epS (by omega)
     have i1:=ia_msN (ag:=true) (sz:=4) (o:=o) (off:=(i + 1) * 4) (cap:=cap - (i + 1)) (k:=.i64) (n:=ys.length - (i + 1)) (i:=m + 1) (by omega)
     have i2:=ia_msN (ag:=true) (sz:=4) (o:=o) (off:=(i + 1) * 4) (cap:=cap - (i + 1)) (k:=.i64) (n:=ys.length - (i + 1)) (i:=m) (by omega)
     have i3:=ia_msN (ag:=true) (sz:=4) (o:=o) (off:=0) (cap:=cap) (k:=.i64) (n:=ys.length) (i:=q) (by omega)
     rw [Nat.zero_add] at i3
     have hxv:=hy x (List.mem_of_getElem? ex2)
     have hpv:=hy p (List.mem_of_getElem? ep2)
     have hc : φeqv [x,p] = some (.bool (ord0 x p == 0)):=by simp only [φeqv];rw [if_pos ⟨hxv.1,hpv.1,hxv.2,hpv.2⟩]
     have w1 : IntKind.i64.wrap (((m + 1 : Nat) : Int) - 1) = (m : Nat):=by rw [show ((m + 1 : Nat) : Int) - 1 = (m : Nat) by omega];exact wrap_of _ (by omega) (by omega)
     have w2 : IntKind.i64.wrap (((m + 1 : Nat) : Int) + 1) = ((m + 1 + 1 : Nat) : Int):=by rw [show ((m + 1 : Nat) : Int) + 1 = ((m + 1 + 1 : Nat) : Int) by omega];exact wrap_of _ (by omega) (by omega)
     have w3 : IntKind.i64.wrap (((q : Nat) : Int) + 1) = ((q + 1 : Nat) : Int):=by rw [show ((q : Nat) : Int) + 1 = ((q + 1 : Nat) : Int) by omega];exact wrap_of _ (by omega) (by omega)
     have er : D.eraseL [x,p] = [x,p]:=erase_of_isV (by simp [hxv.1,hpv.1])
     have hst:=cmpC_take (ys:=ys) (j:=i + 1 + m + 1) (by omega) hlt2 ex2 (by simpa using ep2)
     rcases tf (ord0 x p == 0) with g1 | g1
     ·rw [g1] at hc hst
      simp only [if_true] at hst
      simp +contextual (maxSteps:=10000000) only [r0,r1,r5,r6,r7,d2,w1,w2,l1,l2,i1,i2,i3,hc,er,go_sem]
      have ej : i + 1 + (m + 1) + 1 = i + 1 + m + 1 + 1:=by omega
      rw [ej]
      exact ⟨S,q,rfl,rfl,hS,by rw [hst];exact h1,h2,by rw [hst];exact hq,by omega,by omega,hSv⟩
     ·rw [g1] at hc hst
      have hx4 : ∃ l,x = .agg l /\ l.length = 4:=isV_agg (xs:=[x]) (by simp [hxv.1]) x (by simp)
      simp +contextual (maxSteps:=10000000) only [r0,r1,r5,r6,r7,d2,w1,w2,l1,l2,i1,i2,i3,hc,er,go_sem]
      refine st_ms hB2 hagS hx4 (by omega) rfl ?_
      simp +contextual (maxSteps:=10000000) only [r0,r1,r5,r6,r7,w2,w3,go_sem]
      have ej : i + 1 + (m + 1) + 1 = i + 1 + m + 1 + 1:=by omega
      rw [ej]
      obtain ⟨c1,c2,c3,c4⟩:=cmpC_step (by omega) hlt2 ex2 (by simpa using ep2) hS h1 h2 hq hqj g1
      refine ⟨S.set q x,q + 1,rfl,by rw [List.set_set],c1,c2,c3,c4,by omega,by omega,fun y h=>?_⟩
      rcases List.mem_or_eq_of_mem_set h with h' | rfl
      ·exact hSv y h'
      ·exact hxv
    ·have d2 : decide (((m + 1 : Nat) : Int) < ((ys.length - (i + 1) : Nat) : Int)) = false:=by simp only [decide_eq_false_iff_not];omega
     have ej : i + 1 + m + 1 = ys.length:=by omega
     rw [ej,List.take_length] at h1 hq
     have s2:=slc_msN (ag:=true) (sz:=4) (o:=o) (off:=0) (n:=ys.length) (cap:=cap) (l:=q) (h:=ys.length) (by omega) (Nat.le_refl _) (by omega)
     rw [Nat.zero_add] at s2
     have s3:=slc_ms0 (ag:=true) (sz:=4) (o:=o) (off:=0) (n:=ys.length) (cap:=cap) (h:=q) (by omega) (by omega)
     simp +contextual (maxSteps:=10000000) only [r0,r1,r5,r6,r7,d2,s2,go_sem]
     refine clr_ms hB2 hagS rfl (by omega) rfl (fun rest'=>?_)
     simp +contextual (maxSteps:=10000000) only [r0,r1,r5,s3,go_sem]
     rw [h1,List.set_set]
     have k0:=k rest'
     rw [hq] at k0
     exact k0
   ·rw [g0] at hc hstep
    simp only [Bool.false_eq_true,if_false] at hstep
    simp +contextual (maxSteps:=10000000) only [r0,r1,r5,d1,w1,l1,l2,i1,i2,hc,er,w2,go_sem]
    refine ⟨by omega,?_⟩
    rw [hstep,hC,List.take_add_one (i:=i + 1),ex];rfl
  ·have d1 : decide (((i + 1 : Nat) : Int) < ys.length) = false:=by simp only [decide_eq_false_iff_not];omega
   have e : i + 1 = ys.length:=by omega
   have k0:=k rest
   rw [e,List.take_length] at hC
   rw [hC,set_same ho] at k0
   simp +contextual (maxSteps:=10000000) only [r0,r1,r5,d1,go_sem]
   exact k0
end GP
namespace GP
open Go Go.Proofs
set_option maxRecDepth 100000
def can (d : D) : D:=mkV (vk d) (vi d) (vs d) false []
theorem can_vk (d : D) : vk (can d) = vk d:=by simp [can,vk_mk]
theorem can_vi (d : D) : vi (can d) = vi d:=by simp [can,vi_mk]
theorem can_vs (d : D) : vs (can d) = vs d:=by simp [can,vs_mk]
theorem can_vl (d : D) : vl (can d) = []:=by simp [can,vl_mk]
theorem can_can (d : D) : can (can d) = can d:=by simp only [can,vk_mk,vi_mk,vs_mk]
theorem one1_can {d : D} (h : one1 d = true) : one1 (can d) = true:=by
 have hl : (vl d).length = 0:=plain_leaf h
 unfold one1 at h ⊢
 rw [can_vk,can_vi,can_vs,can_vl]
 rw [hl] at h;exact h
theorem single_can (a b : D) : singleD (can a) (can b) = singleD a b:=by
 rw [single_lex,single_lex];simp only [can_vk,can_vi,can_vs]
theorem can_eq {a b : D} (ha : one1 a = true) (hb : one1 b = true) : singleD a b = 0 ↔ can a = can b:=by
 rw [single_zero ha hb]
 constructor
 ·rintro ⟨h1,h2,h3⟩
  simp only [can,h1,h2,h3]
 ·intro h
  have h1:=congrArg vk h;have h2:=congrArg vi h;have h3:=congrArg vs h
  simp only [can_vk,can_vi,can_vs] at h1 h2 h3
  exact ⟨h1,h2,h3⟩
theorem single_self (a : D) : singleD a a = 0:=by
 have:=single_anti a a;omega
def rising (l : List D) : Prop:=l.Pairwise fun a b=>singleD a b < 0
def good1 (l : List D) : Prop:=∀ x ∈ l,one1 x = true
theorem rising_uniq : ∀ (A B : List D),rising A -> rising B -> (∀ x,x ∈ A ↔ x ∈ B) -> A = B
 | [],B,_,_,h=>by
  cases B with
  | nil=>rfl
  | cons b B=>exact absurd ((h b).2 (by simp)) (by simp)
 | a :: A,[],_,_,h=>absurd ((h a).1 (by simp)) (by simp)
 | a :: A,b :: B,hA,hB,h=>by
  unfold rising at hA hB
  rw [List.pairwise_cons] at hA hB
  have e : a = b:=by
   rcases List.mem_cons.1 ((h a).1 (by simp)) with e | h1
   ·exact e
   rcases List.mem_cons.1 ((h b).2 (by simp)) with e | h2
   ·exact e.symm
   have k1:=hB.1 a h1
   have k2:=hA.1 b h2
   have:=single_anti a b
   omega
  subst e
  have nA : a ∉ A:=fun hm=>by have:=hA.1 a hm;rw [single_self] at this;omega
  have nB : a ∉ B:=fun hm=>by have:=hB.1 a hm;rw [single_self] at this;omega
  rw [rising_uniq A B hA.2 hB.2 fun x=>?_]
  have:=h x
  constructor
  ·intro hx
   rcases List.mem_cons.1 (this.1 (by simp [hx])) with rfl | h1
   ·exact absurd hx nA
   ·exact h1
  ·intro hx
   rcases List.mem_cons.1 (this.2 (by simp [hx])) with rfl | h1
   ·exact absurd hx nB
   ·exact h1
def insU : List D -> D -> List D
 | [],x=>[x]
 | z :: r,x=>if singleD z x < 0 then z :: insU r x else if singleD z x == 0 then z :: r else x :: z :: r
def bagR (xs : List D) : List D:=(xs.map can).foldl insU []
theorem insU_mem {x : D} (hx : one1 x = true) (cx : can x = x) : ∀ (zs : List D),good1 zs -> (∀ z ∈ zs,can z = z) -> ∀ y,y ∈ insU zs x ↔ y ∈ zs ∨ y = x
 | [],_,_,y=>by simp [insU]
 | z :: r,hz,cz,y=>by
  have ih:=insU_mem hx cx r (fun w hw=>hz w (by simp [hw])) (fun w hw=>cz w (by simp [hw])) y
  unfold insU
  split
  ·simp only [List.mem_cons,ih]
   constructor
   ·rintro (h | h | h) <;> simp [h]
   ·rintro ((h | h) | h) <;> simp [h]
  ·split
   ·rename_i h0
    have e : z = x:=by
     have:=(can_eq (hz z (by simp)) hx).1 (by simpa using h0)
     rw [cz z (by simp),cx] at this;exact this
    subst e
    constructor
    ·intro h;exact .inl h
    ·rintro (h | rfl)
     ·exact h
     ·simp
   ·simp only [List.mem_cons]
    constructor
    ·rintro (h | h) <;> simp [h]
    ·rintro (h | h) <;> simp [h]
theorem insU_rising {x : D} (hx : one1 x = true) (cx : can x = x) : ∀ (zs : List D),good1 zs -> (∀ z ∈ zs,can z = z) -> rising zs -> rising (insU zs x)
 | [],_,_,_=>by simp [insU,rising]
 | z :: r,hz,cz,h=>by
  have hr : good1 r:=fun w hw=>hz w (by simp [hw])
  have cr : ∀ w ∈ r,can w = w:=fun w hw=>cz w (by simp [hw])
  unfold rising at h
  rw [List.pairwise_cons] at h
  unfold insU
  split
  ·rename_i h0
   refine List.pairwise_cons.2 ⟨fun y hy=>?_,insU_rising hx cx r hr cr h.2⟩
   rcases (insU_mem hx cx r hr cr y).1 hy with hy | rfl
   ·exact h.1 y hy
   ·exact h0
  ·split
   ·exact List.pairwise_cons.2 h
   ·rename_i h0 h1
    have hlt : singleD x z < 0:=by
     have:=single_anti z x
     have h1' : ¬ singleD z x = 0:=by simpa using h1
     omega
    refine List.pairwise_cons.2 ⟨fun y hy=>?_,List.pairwise_cons.2 h⟩
    rcases List.mem_cons.1 hy with rfl | hy
    ·exact hlt
    ·exact (single_tr x z y).l1 hlt (by have:=h.1 y hy;omega)
theorem bag_fold : ∀ (xs zs : List D),good1 xs -> (∀ x ∈ xs,can x = x) -> good1 zs -> (∀ z ∈ zs,can z = z) -> rising zs -> rising (xs.foldl insU zs) /\ (∀ y,y ∈ xs.foldl insU zs ↔ y ∈ zs ∨ y ∈ xs)
 | [],zs,_,_,_,_,hr=>⟨hr,by simp⟩
 | x :: xs,zs,hx,cx,hz,cz,hr=>by
  have m:=insU_mem (hx x (by simp)) (cx x (by simp)) zs hz cz
  have ih:=bag_fold xs (insU zs x) (fun w hw=>hx w (by simp [hw])) (fun w hw=>cx w (by simp [hw])) (fun w hw=>by
   rcases (m w).1 hw with h | rfl
   ·exact hz w h
   ·exact hx w (by simp)) (fun w hw=>by
   rcases (m w).1 hw with h | rfl
   ·exact cz w h
   ·exact cx w (by simp)) (insU_rising (hx x (by simp)) (cx x (by simp)) zs hz cz hr)
  refine ⟨ih.1,fun y=>?_⟩
  rw [List.foldl_cons,ih.2 y,m y,List.mem_cons,or_assoc]
theorem bagR_spec {xs : List D} (h : good1 xs) : rising (bagR xs) /\ ∀ y,y ∈ bagR xs ↔ ∃ x ∈ xs,y = can x:=by
 obtain ⟨h1,h2⟩:=bag_fold (xs.map can) [] (fun x hx=>by obtain ⟨y,hy,rfl⟩:=List.mem_map.1 hx;exact one1_can (h y hy)) (fun x hx=>by obtain ⟨y,_,rfl⟩:=List.mem_map.1 hx;exact can_can y) (by simp [good1]) (by simp) (by simp [rising])
 refine ⟨h1,fun y=>?_⟩
 rw [bagR,h2 y]
 simp [eq_comm]
theorem cmpA_spec (hs : ∀ a b : D,one1 a = true -> one1 b = true -> ord0 a b = singleD a b) : ∀ (l : List D) (p : D),one1 p = true -> good1 l -> (p :: l).Pairwise (fun a b=>¬ singleD b a < 0) →
  (∀ z ∈ cmpA p l,singleD p z < 0) /\ rising (cmpA p l) /\ (∀ z ∈ cmpA p l,z ∈ l) /\ ∀ x ∈ l,singleD p x = 0 ∨ ∃ z ∈ cmpA p l,singleD z x = 0
 | [],p,_,_,_=>by simp [cmpA,rising]
 | y :: l,p,hp,hl,h=>by
  have hy:=hl y (by simp)
  rw [List.pairwise_cons] at h
  obtain ⟨i1,i2,i3,i4⟩:=cmpA_spec hs l y hy (fun w hw=>hl w (by simp [hw])) h.2
  have hyp:=h.1 y (by simp)
  have an:=single_anti y p
  simp only [cmpA,hs y p hy hp]
  split
  ·rename_i h0
   have h0 : singleD y p = 0:=by simpa using h0
   refine ⟨fun z hz=>(single_tr p y z).l2 (by omega) (i1 z hz),i2,fun z hz=>by simp [i3 z hz],fun x hx=>?_⟩
   rcases List.mem_cons.1 hx with rfl | hx
   ·exact .inl (by omega)
   ·rcases i4 x hx with h1 | h1
    ·exact .inl (by rw [(single_tr p y x).e1 (by omega)];exact h1)
    ·exact .inr h1
  ·rename_i h0
   have h0 : ¬ singleD y p = 0:=by simpa using h0
   have hpy : singleD p y < 0:=by omega
   refine ⟨fun z hz=>?_,List.pairwise_cons.2 ⟨i1,i2⟩,fun z hz=>?_,fun x hx=>?_⟩
   ·rcases List.mem_cons.1 hz with rfl | hz
    ·exact hpy
    ·exact (single_tr p y z).l1 hpy (by have:=i1 z hz;omega)
   ·rcases List.mem_cons.1 hz with rfl | hz
    ·simp
    ·simp [i3 z hz]
   ·rcases List.mem_cons.1 hx with rfl | hx
    ·exact .inr ⟨x,by simp,single_self x⟩
    ·rcases i4 x hx with h1 | ⟨z,h1,h2⟩
     ·exact .inr ⟨y,by simp,h1⟩
     ·exact .inr ⟨z,by simp [h1],h2⟩
theorem cmpC_spec (hs : ∀ a b : D,one1 a = true -> one1 b = true -> ord0 a b = singleD a b) {l : List D} (hl : good1 l) (h : l.Pairwise (fun a b=>¬ singleD b a < 0)) : rising (cmpC l) /\ (∀ z ∈ cmpC l,z ∈ l) /\ ∀ x ∈ l,∃ z ∈ cmpC l,singleD z x = 0:=by
 cases l with
 | nil=>simp [cmpC,rising]
 | cons p l =>
  obtain ⟨i1,i2,i3,i4⟩:=cmpA_spec hs l p (hl p (by simp)) (fun w hw=>hl w (by simp [hw])) h
  refine ⟨List.pairwise_cons.2 ⟨i1,i2⟩,fun z hz=>?_,fun x hx=>?_⟩
  ·rcases List.mem_cons.1 hz with rfl | hz
   ·simp
   ·simp [i3 z hz]
  ·rcases List.mem_cons.1 hx with rfl | hx
   ·exact ⟨x,by simp [cmpC],single_self x⟩
   ·rcases i4 x hx with h1 | ⟨z,h1,h2⟩
    ·exact ⟨p,by simp [cmpC],h1⟩
    ·exact ⟨z,by simp [cmpC,h1],h2⟩
theorem ord0_single {a b : D} (ha : one1 a = true) (hb : one1 b = true) : ord0 a b = singleD a b:=ord_single ha hb f0
theorem cmpC_bag {xs ys : List D} (hx : good1 xs) (hp : ys.Perm xs) (h : ys.Pairwise (fun a b=>¬ ord0 b a < 0)) : (cmpC ys).map can = bagR xs:=by
 have hy : good1 ys:=fun y h=>hx y (hp.mem_iff.1 h)
 have h' : ys.Pairwise (fun a b=>¬ singleD b a < 0):=h.imp_of_mem fun {a b} ha hb hab=>by rw [<- ord0_single (hy b hb) (hy a ha)];exact hab
 obtain ⟨c1,c2,c3⟩:=cmpC_spec (fun a b ha hb=>ord0_single ha hb) hy h'
 obtain ⟨b1,b2⟩:=bagR_spec hx
 refine rising_uniq _ _ ?_ b1 fun y=>?_
 ·unfold rising at c1 ⊢
  rw [List.pairwise_map]
  exact c1.imp fun {a b} h=>by rw [single_can];exact h
 ·rw [b2 y,List.mem_map]
  constructor
  ·rintro ⟨z,hz,rfl⟩
   exact ⟨z,hp.mem_iff.1 (c2 z hz),rfl⟩
  ·rintro ⟨x,hx',rfl⟩
   obtain ⟨z,hz,h0⟩:=c3 x (hp.mem_iff.2 hx')
   exact ⟨z,hz,(can_eq (hy z (c2 z hz)) (hx x hx')).1 h0⟩
def badB (xs : List D) (v : D) : Bool:=(vk v == 0) || (vk v == 5) || (vk v != vk0 xs)
def bagV (xs : List D) : D × Int :=
 if xs.all formedV = false then (zeroV,1) else if xs.any (badB xs) then (zeroV,6) else
 if decide ((16 : Int) < (bagR xs).length) then (zeroV,13) else (mkV 5 0 [] false (bagR xs),0)
end GP
