import Derived.Test.YtainhmbnbgonhaaGreatDoorProg
import Derived.Test.YtainhmbnbgonhaaGreatDoorM5
import Derived.Test.YtainhmbnbgonhaaGreatDoorM9
import Derived.Test.YtainhmbnbgonhaaGreatDoorM14
set_option linter.unusedSimpArgs false
set_option linter.unnecessarySimpa false
namespace GP
open Go Go.Proofs
set_option maxRecDepth 100000
def mT (x : D) : Prop:=x.isV = true /\ -(2 ^ 63) <= vi x /\ vi x < 2 ^ 63
def mkE (op : List UInt8) (k i : Int) (s : List UInt8) (nl : Bool) (l : List D) (who name : List UInt8) (m : Bool) (ps : List D) : D :=
 .agg [.str op,.int .i64 k,.int .i64 i,.str s,aA nl l,.str who,.str name,aA m ps]
def isE : Nat -> D -> Prop
 | 0,_=>False
 | n + 1,d=>∃ op k i s nl l who name m ps,d = mkE op k i s nl l who name m ps /\ op.length <= 2 ^ 47 /\ who.length <= 2 ^ 47 /\ name.length <= 2 ^ 47 /\ mT (mkV k i s nl l) /\ ps.length <= 2 ^ 47 /\ ∀ x ∈ ps,isE n x
theorem yH {k i : Int} {s : List UInt8} {nl : Bool} {l : List D} (h : (mkV k i s nl l).isV = true) : D.eraseL l = l /\ s.length <= 2 ^ 47 /\ l.length <= 2 ^ 47 /\ ∀ x ∈ l,x.isV = true:=by
 obtain ⟨k',i',s',n',l',e,h1,h2,h3⟩:=bZ h
 have e1:=congrArg vs e
 have e2:=congrArg vl e
 simp only [kL,fO] at e1 e2
 subst e1;subst e2
 exact ⟨bD h3,h1,h2,h3⟩
theorem Fz : ∀ {n : Nat} {d : D},isE n d -> isE (n + 1) d
 | 0,_,h=>h.elim
 | _ + 1,_,⟨op,k,i,s,nl,l,who,name,m,ps,e,h1,h2,h3,h4,h5,h6⟩=>⟨op,k,i,s,nl,l,who,name,m,ps,e,h1,h2,h3,h4,h5,fun x hx=>Fz (h6 x hx)⟩
theorem bW : ∀ {n : Nat} {d : D},isE n d -> d.erase = d
 | 0,_,h=>h.elim
 | n + 1,d,⟨op,k,i,s,nl,l,who,name,m,ps,e,h1,h2,h3,h4,h5,h6⟩=>by
  subst e
  have hp : D.eraseL ps = ps:=by
   rw [gE]
   exact (List.map_congr_left fun x hx=>bW (h6 x hx)).trans (List.map_id'' (fun _=>rfl) ps)
  simp [mkE,D.erase,D.eraseL,bE,(yH h4.1).1,hp]
theorem fT {n : Nat} {d : D} (h : isE n d) : d.cells.length = 8 /\ d.cells.take 8 = d.cells /\ D.agg d.cells = d /\ d.okc = true:=by
 cases n with
 | zero=>exact h.elim
 | succ n =>
  obtain ⟨op,k,i,s,nl,l,who,name,m,ps,rfl,_⟩:=h
  exact ⟨rfl,rfl,rfl,rfl⟩
def eop : D -> List UInt8
 | .agg (.str s :: _)=>s
 | _=>[]
def eV : D -> D
 | .agg (_ :: a :: b :: c :: d :: _)=>.agg [a,b,c,d]
 | _=>.top
def lP : D -> List UInt8
 | .agg (_ :: _ :: _ :: _ :: _ :: .str s :: _)=>s
 | _=>[]
def fB : D -> List UInt8
 | .agg (_ :: _ :: _ :: _ :: _ :: _ :: .str s :: _)=>s
 | _=>[]
def eps : D -> List D
 | .agg (_ :: _ :: _ :: _ :: _ :: _ :: _ :: l :: _)=>elems l
 | _=>[]
section
variable (op : List UInt8) (k i : Int) (s : List UInt8) (nl : Bool) (l : List D) (who name : List UInt8) (m : Bool) (ps : List D)
theorem A2v : eop (mkE op k i s nl l who name m ps) = op:=rfl
theorem A2z : eV (mkE op k i s nl l who name m ps) = mkV k i s nl l:=rfl
theorem A2w : lP (mkE op k i s nl l who name m ps) = who:=rfl
theorem A2s : fB (mkE op k i s nl l who name m ps) = name:=rfl
theorem lR : eps (mkE op k i s nl l who name m ps) = ps:=by simp only [eps,mkE,aQ]
end
def mkF (who name : List UInt8) (kind : Int) (bag : Bool) : D:=.agg [.str who,.str name,.int .i64 kind,.bool bag]
def isF (d : D) : Prop:=∃ who name kind bag,d = mkF who name kind bag /\ who.length <= 2 ^ 47 /\ name.length <= 2 ^ 47 /\ -(2 ^ 63) <= kind /\ kind < 2 ^ 63
def FN : D -> List UInt8
 | .agg (.str s :: _)=>s
 | _=>[]
def yR : D -> List UInt8
 | .agg (_ :: .str s :: _)=>s
 | _=>[]
def oW : D -> Int
 | .agg (_ :: _ :: .int _ k :: _)=>k
 | _=>0
def RC : D -> Bool
 | .agg [_,_,_,.bool b]=>b
 | _=>false
theorem fQ {d : D} (h : isF d) : d.erase = d:=by
 obtain ⟨_,_,_,_,rfl,_⟩:=h;simp [mkF,D.erase,D.eraseL]
def qC : List (List UInt8):=[[118,97,108,117,101],[110,111,119],[97,116,116,114],[104,97,115],[114,111,108,101]]
def pJ : List (List UInt8):=[[110,111,116],[110,101,103],[115,105,122,101]]
def qW : List (List UInt8):=[[97,110,100],[111,114],[43],[45],[42],[61,61],[33,61],[60],[60,61],[62],[62,61],[105,110]]
def bP (op : List UInt8) : Int:=if qC.any (op == ·) then 0 else if pJ.any (op == ·) then 1 else if qW.any (op == ·) then 2 else -1
def AO : List D -> Option D
 | [.str op]=>some (.int .i64 (bP op))
 | _=>none
set_option maxHeartbeats 1000000 in
theorem Sl [HasG Tryz.prog] : aO Tryz.prog 158 AO:=by
 refine aG (l:=[]) .nil Ti fun args r h=>?_
 unfold AO at h
 split at h
 ·rename_i op
  injection h with h;subst h
  refine ⟨by simp,by simp [D.cl],fun H T=>?_⟩
  simp only [bP,qC,pJ,qW,List.any_cons,List.any_nil]
  simp +contextual only [TU,go_sem]
 ·cases h
def oX (fs : List D) (who name : List UInt8) : Int:=match fs.find? (fun f=>(FN f == who) && (yR f == name)) with
 | some f=>if RC f then IntKind.i64.wrap (10 + oW f) else oW f
 | none=>0
open Classical in
noncomputable def By : List D -> Option D
 | [fs,.str who,.str name]=>if zM isF fs then some (.int .i64 (oX (elems fs) who name)) else none
 | _=>none
theorem IQ {xs : List D} (h : ∀ x ∈ xs,isF x) {i : Nat} (hi : i < xs.length) : ∃ who name kind bag,xs[i]? = some (mkF who name kind bag) /\ -(2 ^ 63) <= kind /\ kind < 2 ^ 63:=by
 obtain ⟨who,name,kind,bag,e,_,_,h3,h4⟩:=h _ (List.getElem_mem hi)
 exact ⟨who,name,kind,bag,by rw [<- e];simp [hi],h3,h4⟩
theorem gI {p : D -> Bool} {xs : List D} {i : Nat} {x : D} (hx : xs[i]? = some x) (h : (xs.take i).find? p = none) (hp : p x = false) : (xs.take (i + 1)).find? p = none:=by
 rw [List.take_add_one,hx];simp [h,hp]
theorem v7 {p : D -> Bool} {xs : List D} {i : Nat} {x : D} (hx : xs[i]? = some x) (h : (xs.take i).find? p = none) (hp : p x = true) : xs.find? p = some x:=by
 have e : xs = xs.take i ++ x :: xs.drop (i + 1):=by
  have hi : i < xs.length:=by
   rcases Nat.lt_or_ge i xs.length with h' | h'
   ·exact h'
   ·rw [List.getElem?_eq_none h'] at hx;cases hx
  have : x = xs[i]:=by simpa [hi] using hx.symm
  subst this
  simp
 rw [e,List.find?_append,h]
 simp [hp]
set_option maxHeartbeats 2000000 in
theorem V4 [HasG Tryz.prog] : aO Tryz.prog 197 By:=by
 refine aG (l:=[]) .nil TT fun args r h=>?_
 unfold By at h
 split at h
 ·rename_i fs who name
  split at h
  ·rename_i hf
   injection h with h;subst h
   refine ⟨by simp,by simp [D.cl],fun H T=>?_⟩
   obtain ⟨n,xs,rfl,hl,hx⟩:=hf
   rw [aQ]
   simp +contextual only [Vm,go_sem]
   refine bG (fun j s'=>s'.t 0 = aA n xs /\ s'.t 1 = .str who /\ s'.t 2 = .str name /\ s'.t 9 = aA n xs /\ s'.t 10 = .int .i64 xs.length /\ s'.t 11 = .int .i64 j /\ Ext H s'.H /\ s'.T = T /\ j <= xs.length /\ (xs.take j).find? (fun f=>(FN f == who) && (yR f == name)) = none) xs.length ⟨0,by simp [upd,bF,FH]⟩ (fun i s h=>h.2.2.2.2.2.2.2.2.1) ?_ (aI _)
   rintro j ⟨t,B,T'⟩ ⟨h0,h1,h2,h9,h10,h11,hE,rfl,hj,hc⟩
   simp only at h0 h1 h2 h9 h10 h11 hE
   by_cases ha : j < xs.length
   ·have d1 : decide ((j : Int) < xs.length) = true:=by simpa using ha
    obtain ⟨w3,n3,k3,b3,e3,r3,r4⟩:=IQ hx ha
    have nx:=fun hp=>gI e3 hc hp
    have at':=fun hp=>v7 e3 hc hp
    have F : ((FN (mkF w3 n3 k3 b3) == who) && (yR (mkF w3 n3 k3 b3) == name)) = ((w3 == who) && (n3 == name)):=rfl
    rw [F] at nx at'
    have G : ((w3 == who) && (n3 == name)) = true -> oX xs who name = if b3 then IntKind.i64.wrap (10 + k3) else k3:=fun h=>by unfold oX;rw [at' h];rfl
    clear at' F
    simp only [mkF] at e3
    simp +contextual only [h0,h1,h2,h9,h10,h11,d1,e3,aH j (by omega),hE.ta,bL hE (bQ.refl _),go_sem]
    (all_goals ((repeat' (first | apply And.intro | intro _)) <;> (first | rfl | omega | (simp_all;done) | grind)))
   ·have d1 : decide ((j : Int) < xs.length) = false:=by simpa using ha
    have hA : oX xs who name = 0:=by
     have : j = xs.length:=by omega
     subst this;rw [List.take_length] at hc
     unfold oX;rw [hc]
    simp +contextual only [h0,h1,h2,h9,h10,h11,d1,hA,b8 hE (bQ.refl _),go_sem]
  ·cases h
 ·cases h
def HZ (v : D) : Int:=if !(cJ v) || (vk v == 0) || ((vk v == 5) && (((vl v).length : Int) == 0)) then 0 else if vk v == 5 then IntKind.i64.wrap (10 + vk0 (vl v)) else vk v
open Classical in
noncomputable def FG : List D -> Option D
 | [v]=>if mT v then some (.int .i64 (HZ v)) else none
 | _=>none
theorem V3 [HasG Tryz.prog] : aO Tryz.prog 196 FG:=by
 refine aG (l:=[(129,kD)]) (.cons PX .nil) TD fun args r h=>?_
 unfold FG at h
 split at h
 ·rename_i v
  split at h
  ·rename_i hv
   injection h with h;subst h
   refine ⟨by simp,by simp [D.cl],fun H T=>?_⟩
   have pv : kD [v] = some (.bool (cJ v)):=by simp [kD,hv.1,pY]
   unfold HZ
   generalize cJ v = fb at *
   obtain ⟨k,i,s,n,xs,rfl,hs,hx,hV⟩:=bZ hv.1
   have eL:=bD hV
   simp only [gX,fO]
   simp only [mkV] at pv
   by_cases h0 : 0 < xs.length
   ·obtain ⟨k0,i0,s0,n0,l0,e0,_⟩:=fF hV h0
    have fk:=uY e0
    have d1 : (((xs.length : Int)) == 0) = false:=by rw [beq_eq_false_iff_ne];omega
    simp +contextual only [R8,mkV,pv,eL,d1,e0,fk,go_sem]
    (all_goals ((repeat' (first | apply And.intro | intro _)) <;> (first | rfl | omega | (simp_all;done) | grind)))
   ·have d1 : (((xs.length : Int)) == 0) = true:=by rw [beq_iff_eq];omega
    simp +contextual only [R8,mkV,pv,eL,d1,go_sem]
    (all_goals ((repeat' (first | apply And.intro | intro _)) <;> (first | rfl | omega | (simp_all;done) | grind)))
  ·cases h
 ·cases h
def fU : List UInt8:=[118,97,108,117,101]
def iZ : List UInt8:=[110,111,119]
def eJ : List UInt8:=[97,116,116,114]
def i8 : List UInt8:=[104,97,115]
def dK : List UInt8:=[114,111,108,101]
def lF : List UInt8:=[110,111,116]
def oJ : List UInt8:=[110,101,103]
def dN : List UInt8:=[115,105,122,101]
def UT : List UInt8:=[97,110,100]
def sOr : List UInt8:=[111,114]
def sIn : List UInt8:=[105,110]
def uU (fs : List D) (e : D) : Int × Int :=
 if eop e == fU then (if HZ (eV e) != 0 then (HZ (eV e),0) else (0,2)) else
 if eop e == iZ then (4,0) else if eop e == dK then (1,0) else
 if oX fs (lP e) (fB e) == 0 then (0,8) else if eop e == i8 then (1,0) else (oX fs (lP e) (fB e),0)
def dE (p : Int × Int) : D:=.tup [.int .i64 p.1,.int .i64 p.2]
theorem AR (p : Int × Int) : (dE p).cl 0 0 = true:=by simp [dE,D.cl,D.clL]
open Classical in
noncomputable def Aw : List D -> Option D
 | [fs,e]=>if zM isF fs /\ ∃ n,isE n e then some (dE (uU (elems fs) e)) else none
 | _=>none
theorem fN {n : Nat} {d : D} (h : isE n d) : ∃ op k i s nl l who name m ps,d = mkE op k i s nl l who name m ps /\ op.length <= 2 ^ 47 /\ who.length <= 2 ^ 47 /\ name.length <= 2 ^ 47 /\ mT (mkV k i s nl l) /\ ps.length <= 2 ^ 47 /\ (∀ x ∈ ps,isE (n - 1) x) /\ D.eraseL l = l /\ D.eraseL ps = ps:=by
 cases n with
 | zero=>exact h.elim
 | succ n =>
  obtain ⟨op,k,i,s,nl,l,who,name,m,ps,rfl,h1,h2,h3,h4,h5,h6⟩:=h
  exact ⟨op,k,i,s,nl,l,who,name,m,ps,rfl,h1,h2,h3,h4,h5,h6,(yH h4.1).1,bB fun x hx=>bW (h6 x hx)⟩
set_option maxHeartbeats 1000000 in
theorem Vk [HasG Tryz.prog] : aO Tryz.prog 159 Aw:=by
 refine aG (l:=[(196,FG),(197,By)]) (.cons V3 (.cons V4 .nil)) SY fun args r h=>?_
 unfold Aw at h
 split at h
 ·rename_i fs e
  split at h
  ·rename_i hv
   injection h with h;subst h
   refine ⟨by simp,AR _,fun H T=>?_⟩
   obtain ⟨hf,m,he⟩:=hv
   obtain ⟨op,k,i,s,nl,l,who,name,m,ps,rfl,h1,h2,h3,h4,h5,h6,eL,eP⟩:=fN he
   have pf : By [fs,.str who,.str name] = some (.int .i64 (oX (elems fs) who name)):=by simp only [By];rw [if_pos hf]
   have pv : FG [mkV k i s nl l] = some (.int .i64 (HZ (mkV k i s nl l))):=by simp only [FG];rw [if_pos h4]
   have ef : fs.erase = fs:=by
    obtain ⟨n,xs,rfl,_,hx⟩:=hf
    rw [bE,bB fun x h=>fQ (hx x h)]
   simp only [uU,A2v,A2z,A2w,A2s,fU,iZ,dK,i8]
   obtain ⟨lt,hlt⟩ : ∃ x,HZ (mkV k i s nl l) = x:=⟨_,rfl⟩
   simp only [hlt] at pv ⊢
   simp only [mkV] at pv
   simp +contextual only [TB,mkE,pf,pv,eL,eP,ef,dE,go_sem]
   (all_goals ((repeat' (first | apply And.intro | intro _)) <;> (first | rfl | omega | (simp_all;done) | grind)))
  ·cases h
 ·cases h
def Bm (op : List UInt8) (t : Int) : Int:=if (op == lF) && (t == 1) then 1 else if (op == oJ) && (t == 2) || (op == dN) && decide (10 < t) then 2 else 0
def Bp : List D -> Option D
 | [.str op,.int .i64 t]=>some (.int .i64 (Bm op t))
 | _=>none
theorem Wu [HasG Tryz.prog] : aO Tryz.prog 160 Bp:=by
 refine aG (l:=[]) .nil VB fun args r h=>?_
 unfold Bp at h
 split at h
 ·injection h with h;subst h
  refine ⟨by simp,by simp [D.cl],fun H T=>?_⟩
  simp only [Bm,lF,oJ,dN]
  simp +contextual only [W1,go_sem]
  (all_goals ((repeat' (first | apply And.intro | intro _)) <;> (first | rfl | omega | (simp_all;done) | grind)))
 ·cases h
def R3 (op : List UInt8) (a b : Int) : Int:=if (a == 2) && (b == 2) then 2 else if (op != [42]) && (a == 4) && (b == 2) then 4 else if (op == [45]) && (a == 4) && (b == 4) then 2 else 0
def E7 : List D -> Option D
 | [.str op,.int .i64 a,.int .i64 b]=>some (.int .i64 (R3 op a b))
 | _=>none
theorem Vn [HasG Tryz.prog] : aO Tryz.prog 198 E7:=by
 refine aG (l:=[]) .nil UP fun args r h=>?_
 unfold E7 at h
 split at h
 ·injection h with h;subst h
  refine ⟨by simp,by simp [D.cl],fun H T=>?_⟩
  simp only [R3]
  simp +contextual only [VU,go_sem]
  (all_goals ((repeat' (first | apply And.intro | intro _)) <;> (first | rfl | omega | (simp_all;done) | grind)))
 ·cases h
def Q9 (op : List UInt8) (a b : Int) : Bool :=
 if (op == UT) || (op == sOr) then (a == 1) && (b == 1) else
 if (op == [61,61]) || (op == [33,61]) then a == b else
 if op == sIn then b == IntKind.i64.wrap (10 + a) else (a == b) && (a != 1) && decide (a < 10)
def AY (op : List UInt8) (a b : Int) : Int:=if (op == [43]) || (op == [45]) || (op == [42]) then R3 op a b else if Q9 op a b then 1 else 0
def EU : List D -> Option D
 | [.str op,.int .i64 a,.int .i64 b]=>some (.int .i64 (AY op a b))
 | _=>none
set_option maxHeartbeats 1000000 in
theorem Ss [HasG Tryz.prog] : aO Tryz.prog 161 EU:=by
 refine aG (l:=[(198,E7)]) (.cons Vn .nil) UU fun args r h=>?_
 unfold EU at h
 split at h
 ·rename_i op a b
  injection h with h;subst h
  refine ⟨by simp,by simp [D.cl],fun H T=>?_⟩
  simp only [AY,Q9,UT,sOr,sIn]
  simp +contextual only [WL,E7,go_sem]
  (all_goals ((repeat' (first | apply And.intro | intro _)) <;> (first | rfl | omega | (simp_all;done) | grind)))
 ·cases h
def j4 : Nat -> List D -> D -> Int × Int
 | 0,_,_=>(0,2)
 | n + 1,fs,e =>
  if decide (bP (eop e) < 0) || (((eps e).length : Int) != bP (eop e)) then (0,2) else
  if bP (eop e) == 0 then uU fs e else
  if (j4 n fs ((eps e).getD 0 .top)).2 != 0 then (0,(j4 n fs ((eps e).getD 0 .top)).2) else
  if bP (eop e) == 2 then
   if (j4 n fs ((eps e).getD 1 .top)).2 != 0 then (0,(j4 n fs ((eps e).getD 1 .top)).2) else
   if AY (eop e) (j4 n fs ((eps e).getD 0 .top)).1 (j4 n fs ((eps e).getD 1 .top)).1 == 0 then (0,6) else (AY (eop e) (j4 n fs ((eps e).getD 0 .top)).1 (j4 n fs ((eps e).getD 1 .top)).1,0)
  else if Bm (eop e) (j4 n fs ((eps e).getD 0 .top)).1 == 0 then (0,6) else (Bm (eop e) (j4 n fs ((eps e).getD 0 .top)).1,0)
open Classical in
noncomputable def p6 (n : Nat) : List D -> Option D
 | [fs,e]=>if zM isF fs /\ isE n e then some (dE (j4 n (elems fs) e)) else none
 | _=>none
theorem qF (op : List UInt8) : bP op = 0 ∨ bP op = 1 ∨ bP op = 2 ∨ bP op = -1:=by unfold bP;(repeat' split) <;> simp
set_option maxHeartbeats 4000000 in
theorem RH [HasG Tryz.prog] : ∀ n,aO Tryz.prog 97 (p6 n)
 | 0=>fun args r h=>by
  unfold p6 at h
  split at h
  ·split at h
   ·rename_i h';exact h'.2.elim
   ·cases h
  ·cases h
 | n + 1=>by
  refine aG (l:=[(158,AO),(159,Aw),(160,Bp),(161,EU),(97,p6 n)]) (.cons Sl (.cons Vk (.cons Wu (.cons Ss (.cons (RH n) .nil))))) A0q fun args r h=>?_
  unfold p6 at h
  split at h
  ·rename_i fs e
   split at h
   ·rename_i hv
    injection h with h;subst h
    refine ⟨by simp,AR _,fun H T=>?_⟩
    obtain ⟨hf,he⟩:=hv
    have pn : Aw [fs,e] = some (dE (uU (elems fs) e)):=by simp only [Aw];rw [if_pos ⟨hf,_,he⟩]
    obtain ⟨op,k,i,s,nl,l,who,name,m,ps,rfl,h1,h2,h3,h4,h5,h6,eL,eP⟩:=fN he
    have ef : fs.erase = fs:=by
     obtain ⟨n,xs,rfl,_,hx⟩:=hf
     rw [bE,bB fun x h=>fQ (hx x h)]
    simp only [j4,A2v,lR]
    have ac:=qF op
    have pa : AO [.str op] = some (.int .i64 (bP op)):=rfl
    obtain ⟨nn,hnn⟩ : ∃ x,uU (elems fs) (mkE op k i s nl l who name m ps) = x:=⟨_,rfl⟩
    simp only [hnn] at pn ⊢
    obtain ⟨ar,har⟩ : ∃ x,bP op = x:=⟨_,rfl⟩
    simp only [har] at pa ac ⊢
    simp only [mkE] at pn
    have child : ∀ i,i < ps.length -> ∃ x,ps[i]? = some x /\ ps.getD i .top = x /\ x.cells.length = 8 /\ x.cells.take 8 = x.cells /\ D.agg x.cells = x /\ x.erase = x /\ p6 n [fs,x] = some (dE (j4 n (elems fs) x)):=fun i hi=>by
     have hx:=h6 _ (List.getElem_mem hi)
     obtain ⟨c1,c2,c3,_⟩:=fT hx
     exact ⟨_,by simp [hi],by simp [hi],c1,c2,c3,bW hx,by simp only [p6];rw [if_pos ⟨hf,hx⟩]⟩
    by_cases hl : (ps.length : Int) = ar
    ·have dl : ((ps.length : Int) != ar) = false:=by simp [hl]
     rcases ac with rfl | rfl | rfl | rfl
     ·simp +contextual only [c97,mkE,pa,pn,eL,eP,ef,dl,dE,go_sem]
     ·obtain ⟨x,e0,g0,x1,x2,x3,x4,px⟩:=child 0 (by omega)
      rw [g0]
      obtain ⟨tx,htx⟩ : ∃ z,j4 n (elems fs) x = z:=⟨_,rfl⟩
      simp only [htx] at px ⊢
      simp +contextual only [c97,mkE,pa,pn,eL,eP,ef,dl,dE,e0,x1,x2,x3,x4,px,Bp,go_sem]
      (all_goals ((repeat' (first | apply And.intro | intro _)) <;> (first | rfl | omega | (simp_all;done) | grind)))
     ·obtain ⟨x,e0,g0,x1,x2,x3,x4,px⟩:=child 0 (by omega)
      obtain ⟨y,e1,g1,y1,y2,y3,y4,py⟩:=child 1 (by omega)
      rw [g0,g1]
      obtain ⟨tx,htx⟩ : ∃ z,j4 n (elems fs) x = z:=⟨_,rfl⟩
      simp only [htx] at px ⊢
      obtain ⟨ty,hty⟩ : ∃ z,j4 n (elems fs) y = z:=⟨_,rfl⟩
      simp only [hty] at py ⊢
      simp +contextual only [c97,mkE,pa,pn,eL,eP,ef,dl,dE,e0,x1,x2,x3,x4,px,e1,y1,y2,y3,y4,py,Bp,EU,go_sem]
      (all_goals ((repeat' (first | apply And.intro | intro _)) <;> (first | rfl | omega | (simp_all;done) | grind)))
     ·omega
    ·have dl : ((ps.length : Int) != ar) = true:=by simp [hl]
     simp +contextual only [c97,mkE,pa,pn,eL,eP,ef,dl,dE,go_sem]
     (all_goals ((repeat' (first | apply And.intro | intro _)) <;> (first | rfl | omega | (simp_all;done) | grind)))
   ·cases h
  ·cases h
end GP
namespace GP
open Go Go.Proofs
set_option maxRecDepth 100000
def mxd (f : D -> Nat) (l : List D) : Nat:=l.foldl (fun a x=>max a (f x)) 0
theorem Er {f : D -> Nat} {l : List D} {j : Nat} {x : D} (h : l[j]? = some x) : mxd f (l.take (j + 1)) = max (mxd f (l.take j)) (f x):=by
 rw [List.take_add_one,h];simp [mxd,List.foldl_append]
theorem HS {f : D -> Nat} {b : Nat} : ∀ {l : List D},(∀ x ∈ l,f x <= b) -> mxd f l <= b:=by
 have key : ∀ (l : List D) (a : Nat),a <= b -> (∀ x ∈ l,f x <= b) -> l.foldl (fun a x=>max a (f x)) a <= b:=by
  intro l
  induction l with
  | nil=>intro a h _;exact h
  | cons x l ih =>
   intro a h hx
   exact ih (max a (f x)) (by have:=hx x (by simp);omega) fun y hy=>hx y (by simp [hy])
 intro l h
 exact key l 0 (by omega) h
def dpt : Nat -> D -> Nat
 | 0,_=>0
 | n + 1,e=>mxd (dpt n) (eps e) + 1
theorem E1 : ∀ (n : Nat) (e : D),dpt n e <= n
 | 0,_=>Nat.le_refl _
 | n + 1,e=>by
  simp only [dpt]
  have:=HS (f:=dpt n) (b:=n) (l:=eps e) fun x _=>E1 n x
  omega
open Classical in
noncomputable def jC (n : Nat) : List D -> Option D
 | [e]=>if isE n e then some (.int .i64 ((dpt n e : Nat) : Int)) else none
 | _=>none
set_option maxHeartbeats 2000000 in
theorem Vb : ∀ n,n <= 2 ^ 40 -> aO Tryz.prog 26 (jC n)
 | 0,_=>fun args r h=>by
  unfold jC at h
  split at h
  ·split at h
   ·rename_i h';exact h'.elim
   ·cases h
  ·cases h
 | n + 1,hn=>by
  refine aG (l:=[(26,jC n)]) (.cons (Vb n (by omega)) .nil) A0M fun args r h=>?_
  unfold jC at h
  split at h
  ·rename_i e
   split at h
   ·rename_i he
    injection h with h;subst h
    refine ⟨by simp,by simp [D.cl],fun H T=>?_⟩
    obtain ⟨op,k,i,t,nl,l,who,name,m,ps,rfl,h1,h2,h3,h4,h5,h6,eL,eP⟩:=fN he
    have h6 : ∀ x ∈ ps,isE n x:=h6
    simp only [dpt,lR]
    simp +contextual only [c26,mkE,eL,eP,go_sem]
    refine bG (fun j s'=>s'.t 3 = .int .i64 ((mxd (dpt n) (ps.take j) : Nat) : Int) /\ s'.t 7 = aA m ps /\ s'.t 8 = .int .i64 ps.length /\ s'.t 9 = .int .i64 j /\ Ext H s'.H /\ s'.T = T /\ j <= ps.length) ps.length ⟨0,by simp [upd,bF,Rh,mxd]⟩ (fun i s h=>h.2.2.2.2.2.2) ?_ (aI _)
    rintro j ⟨t',B,T'⟩ ⟨r3,r7,r8,r9,hE,rfl,hj⟩
    simp only at r3 r7 r8 r9 hE
    have hb:=HS (f:=dpt n) (b:=n) (l:=ps.take j) fun x _=>E1 n x
    by_cases ha : j < ps.length
    ·have d1 : decide ((j : Int) < ps.length) = true:=by simpa using ha
     have hx:=h6 _ (List.getElem_mem ha)
     have ex : ps[j]? = some ps[j]:=by simp [ha]
     have hs:=Er (f:=dpt n) ex
     generalize ps[j] = x at *
     have ee:=bW hx
     obtain ⟨q1,q2,q3,q4⟩:=fT hx
     have px : jC n [x] = some (.int .i64 ((dpt n x : Nat) : Int)):=by simp only [jC];rw [if_pos hx]
     rw [hs]
     simp +contextual only [r3,r7,r8,r9,d1,ex,ee,q1,q2,q3,q4,px,aH j (by omega),hE.ta,go_sem]
     refine ⟨?_,by omega⟩
     split <;> (congr 1;omega)
    ·have d1 : decide ((j : Int) < ps.length) = false:=by simpa using ha
     have : j = ps.length:=by omega
     subst this
     rw [List.take_length] at r3 hb
     have w : IntKind.i64.wrap (((mxd (dpt n) ps : Nat) : Int) + 1) = ((mxd (dpt n) ps + 1 : Nat) : Int):=by
      rw [show ((mxd (dpt n) ps : Nat) : Int) + 1 = ((mxd (dpt n) ps + 1 : Nat) : Int) by omega];exact eH _ (by omega) (by omega)
     simp +contextual only [r3,r7,r8,r9,d1,w,b8 hE (bQ.refl _),go_sem]
   ·cases h
  ·cases h
set_option maxHeartbeats 2000000 in
theorem VI : ∀ n,n <= 2 ^ 40 -> aO Tryz.prog 22 (jC n)
 | 0,_=>fun args r h=>by
  unfold jC at h
  split at h
  ·split at h
   ·rename_i h';exact h'.elim
   ·cases h
  ·cases h
 | n + 1,hn=>by
  refine aG (l:=[(22,jC n)]) (.cons (VI n (by omega)) .nil) A1A fun args r h=>?_
  unfold jC at h
  split at h
  ·rename_i e
   split at h
   ·rename_i he
    injection h with h;subst h
    refine ⟨by simp,by simp [D.cl],fun H T=>?_⟩
    obtain ⟨op,k,i,t,nl,l,who,name,m,ps,rfl,h1,h2,h3,h4,h5,h6,eL,eP⟩:=fN he
    have h6 : ∀ x ∈ ps,isE n x:=h6
    simp only [dpt,lR]
    simp +contextual only [c22,mkE,eL,eP,go_sem]
    refine bG (fun j s'=>s'.t 1 = .ptr H.length 0 /\ s'.t 3 = .int .i64 ((mxd (dpt n) (ps.take j) + 1 : Nat) : Int) /\ s'.t 4 = .int .i64 j /\ s'.H = H ++ [.row [.str op,.int .i64 k,.int .i64 i,.str t,aA nl l,.str who,.str name,aA m ps]] /\ s'.T = T /\ j <= ps.length) ps.length ⟨0,by simp [upd,bF,mxd]⟩ (fun i s h=>h.2.2.2.2.2) ?_ (aI _)
    rintro j ⟨t',B,T'⟩ ⟨r1,r3,r4,rfl,rfl,hj⟩
    simp only at r1 r3 r4
    have hb:=HS (f:=dpt n) (b:=n) (l:=ps.take j) fun x _=>E1 n x
    by_cases ha : j < ps.length
    ·have d1 : decide ((j : Int) < ps.length) = true:=by simpa using ha
     have hx:=h6 _ (List.getElem_mem ha)
     have ex : ps[j]? = some ps[j]:=by simp [ha]
     have hs:=Er (f:=dpt n) ex
     generalize ps[j] = x at *
     have hd:=E1 n x
     have ee:=bW hx
     obtain ⟨q1,q2,q3,q4⟩:=fT hx
     have px : jC n [x] = some (.int .i64 ((dpt n x : Nat) : Int)):=by simp only [jC];rw [if_pos hx]
     have w : IntKind.i64.wrap (1 + ((dpt n x : Nat) : Int)) = ((dpt n x + 1 : Nat) : Int):=by
      rw [show 1 + ((dpt n x : Nat) : Int) = ((dpt n x + 1 : Nat) : Int) by omega];exact eH _ (by omega) (by omega)
     rw [hs]
     simp +contextual only [r1,r3,r4,d1,ex,ee,q1,q2,q3,q4,px,aH j (by omega),w,go_sem]
     refine ⟨?_,by omega⟩
     split <;> (congr 1;omega)
    ·have d1 : decide ((j : Int) < ps.length) = false:=by simpa using ha
     have : j = ps.length:=by omega
     subst this
     rw [List.take_length] at r3 hb
     simp +contextual only [r1,r3,r4,d1,go_sem]
   ·cases h
  ·cases h
def inB (l : List (List UInt8)) (s : List UInt8) : Bool:=l.any fun x=>x == s
theorem u7 (l : List (List UInt8)) : D.eraseL (l.map .str) = l.map .str:=bB fun x hx=>by
 obtain ⟨y,_,rfl⟩:=List.mem_map.1 hx;rfl
def Fr : List D -> Option D
 | [.sl none l,.str s]=>if l.all oF = true /\ l.length <= 1000 then some (.bool (inB (l.map gY) s)) else none
 | _=>none
theorem Mo {l : List D} (h : l.all oF = true) {i : Nat} (hi : i < l.length) : l[i]? = some (.str (gY l[i])):=by
 have:=List.all_eq_true.1 h _ (List.getElem_mem hi)
 rw [List.getElem?_eq_getElem hi]
 cases hx : l[i] <;> rw [hx] at this <;> simp [oF] at this <;> rfl
theorem S6 {l : List (List UInt8)} {s : List UInt8} (h : ∀ (i : Nat) u,l[i]? = some u -> (u == s) = false) : inB l s = false:=by
 refine List.any_eq_false.2 fun x hx=>?_
 obtain ⟨i,hi,rfl⟩:=List.getElem_of_mem hx
 have:=h i _ (List.getElem?_eq_getElem hi)
 simp [this]
set_option maxHeartbeats 1000000 in
theorem R4 : aO Tryz.prog 62 Fr:=by
 refine aG (l:=[]) .nil A1g fun args r h=>?_
 unfold Fr at h
 split at h
 ·rename_i l s
  split at h
  ·rename_i hc
   obtain ⟨hs,hl⟩:=hc
   injection h with h;subst h
   refine ⟨by simp,by simp [D.cl],fun H T=>?_⟩
   simp +contextual only [c62,go_sem]
   refine bG (fun j s'=>s'.t 0 = .sl none l /\ s'.t 1 = .str s /\ s'.t 5 = .int .i64 j /\ s'.H = H /\ s'.T = T /\ j <= l.length /\ ∀ i u,i < j -> (l.map gY)[i]? = some u -> (u == s) = false) l.length ⟨0,by simp [upd,bF]⟩ (fun i s h=>h.2.2.2.2.2.1) ?_ (aI _)
   rintro j ⟨t,B,T'⟩ ⟨r0,r1,r5,rfl,rfl,hj,hN⟩
   simp only at r0 r1 r5
   by_cases ha : j < l.length
   ·have d1 : decide ((j : Int) < l.length) = true:=by simpa using ha
    have ex:=Mo hs ha
    obtain ⟨u,hu⟩ : ∃ u,gY l[j] = u:=⟨_,rfl⟩
    rw [hu] at ex
    have em : (l.map gY)[j]? = some u:=by rw [List.getElem?_map,ex];rfl
    rcases tf (u == s) with g | g
    ·have : inB (l.map gY) s = true:=List.any_eq_true.2 ⟨u,List.mem_of_getElem? em,g⟩
     simp +contextual only [r0,r1,r5,d1,ex,g,this,go_sem]
    ·simp +contextual only [r0,r1,r5,d1,ex,g,aH j (by omega),go_sem]
     refine ⟨by omega,fun i v hi hv=>?_⟩
     rcases Nat.lt_or_ge i j with h' | h'
     ·exact hN i v h' hv
     ·have : i = j:=by omega
      subst this
      rw [em] at hv;injection hv with hv;subst hv;exact g
   ·have d1 : decide ((j : Int) < l.length) = false:=by simpa using ha
    have : inB (l.map gY) s = false:=S6 fun i u hu=>hN i u (by have:=rB hu;simp at this;omega) hu
    simp +contextual only [r0,r1,r5,d1,this,go_sem]
  ·cases h
 ·cases h
theorem M9 (l : List (List UInt8)) : (l.map D.str).map gY = l:=by
 rw [List.map_map];exact List.map_id'' (fun _=>rfl) l
theorem IT {l : List (List UInt8)} (h : l.length <= 1000) (s : List UInt8) : Fr [.sl none (l.map .str),.str s] = some (.bool (inB l s)):=by
 simp only [Fr]
 rw [if_pos ⟨List.all_eq_true.2 fun x hx=>by obtain ⟨y,_,rfl⟩:=List.mem_map.1 hx;rfl,by simpa using h⟩,M9]
def yQ (k : Int) : List D -> Option D
 | [.str s]=>some (mkT k s 0)
 | _=>none
theorem A0L : aO Tryz.prog 59 (yQ 1):=by
 refine aG (l:=[]) .nil A0K fun args r h=>?_
 unfold yQ at h
 split at h
 ·injection h with h;subst h
  refine ⟨by simp,by simp [mkT,D.cl,D.clL],fun H T=>?_⟩
  simp +contextual only [c59,mkT,go_sem]
 ·cases h
def yY : List D -> Option D
 | [.str s]=>some (.bool (inB j7 s))
 | _=>none
theorem WU : aO Tryz.prog 55 yY:=by
 refine aG (l:=[(62,Fr)]) (.cons R4 .nil) A0y fun args r h=>?_
 unfold yY at h
 split at h
 ·rename_i s
  injection h with h;subst h
  refine ⟨by simp,by simp [D.cl],fun H T=>?_⟩
  have p:=IT (l:=j7) (by decide) s
  simp only [j7,List.map_cons,List.map_nil] at p ⊢
  simp +contextual only [c55,p,go_sem]
 ·cases h
def gL (s : List UInt8) : Bool:=cG 1 s 0 && !inB iY s
def CI : List D -> Option D
 | [.str s]=>if s.length <= 2 ^ 60 then some (.bool (gL s)) else none
 | _=>none
theorem Wg : aO Tryz.prog 56 CI:=by
 refine aG (l:=[(62,Fr),(57,dL),(16,mE)]) (.cons R4 (.cons Lm (.cons A0J .nil))) A1d fun args r h=>?_
 unfold CI at h
 split at h
 ·rename_i s
  split at h
  ·rename_i hs
   injection h with h;subst h
   refine ⟨by simp,by simp [D.cl],fun H T=>?_⟩
   have p1:=IT (l:=iY) (by decide) s
   have p2 : dL [.agg [.int .i64 1,.str s,.int .i64 0]] = some (.bool (cG 1 s 0)):=by simp only [dL];rw [if_pos hs]
   have p3 : mE [] = some (.sl none (iY.map .str)):=rfl
   have e1:=u7 iY
   unfold gL
   obtain ⟨ks,hk⟩ : ∃ ks,iY.map D.str = ks:=⟨_,rfl⟩
   rw [hk] at p1 p3 e1
   rcases tf (cG 1 s 0) with g | g
   ·rw [g] at p2
    simp +contextual only [c56,p1,p2,p3,e1,g,go_sem]
   ·rw [g] at p2
    simp +contextual only [c56,p1,p2,p3,e1,g,go_sem]
  ·cases h
 ·cases h
def jK : List (List (List UInt8)):=[[wOr],[Gg],Ec,[[43],[45]],[[42]]]
def xY : List (List UInt8):=[[118,97,108,117,101],[110,111,119],[97,116,116,114],[104,97,115],[114,111,108,101],[115,105,122,101]]
def stI (op : List UInt8) : Int :=
 if inB [wOr] op then 0 else if inB [Gg] op then 1 else if inB Ec op then 3 else if inB [[43],[45]] op then 4 else if inB [[42]] op then 5 else if op == sQ then 2 else if op == CL then 6 else if inB xY op then 7 else -1
def mY : List D:=jK.map fun w=>.sl none (w.map .str)
def AL : List D -> Option D
 | []=>some (.sl none mY)
 | _=>none
theorem WB : aO Tryz.prog 106 AL:=by
 refine aG (l:=[]) .nil Vy fun args r h=>?_
 unfold AL at h
 split at h
 ·injection h with h;subst h
  refine ⟨by simp,by decide,fun H T=>?_⟩
  simp +contextual only [XR,go_sem]
  first | rfl | simp only [mY,jK,wOr,Gg,Ec,List.map_cons,List.map_nil,D.erase,D.eraseL]
 ·cases h
def JX : List D -> Option D
 | [.str op]=>some (.int .i64 (stI op))
 | _=>none
def stN (j : Nat) : Int:=[(0 : Int),1,3,4,5].getD j 0
theorem EY : D.eraseL mY = mY:=by
 simp only [mY,jK,List.map_cons,List.map_nil,D.eraseL,D.erase,u7]
theorem Qk {op : List UInt8} {j : Nat} {w : List (List UInt8)} (h : jK[j]? = some w) (hN : ∀ i v,i < j -> jK[i]? = some v -> inB v op = false) (g : inB w op = true) : stI op = stN j:=by
 match j,h with
 | 0,h=>injection h with h;subst h;simp only [stI,g,if_true];rfl
 | 1,h =>
  injection h with h;subst h
  have n0:=hN 0 _ (by omega) rfl
  simp only [stI,g,n0,if_true,Bool.false_eq_true,if_false];rfl
 | 2,h =>
  injection h with h;subst h
  have n0:=hN 0 _ (by omega) rfl
  have n1:=hN 1 _ (by omega) rfl
  simp only [stI,g,n0,n1,if_true,Bool.false_eq_true,if_false];rfl
 | 3,h =>
  injection h with h;subst h
  have n0:=hN 0 _ (by omega) rfl
  have n1:=hN 1 _ (by omega) rfl
  have n2:=hN 2 _ (by omega) rfl
  simp only [stI,g,n0,n1,n2,if_true,Bool.false_eq_true,if_false];rfl
 | 4,h =>
  injection h with h;subst h
  have n0:=hN 0 _ (by omega) rfl
  have n1:=hN 1 _ (by omega) rfl
  have n2:=hN 2 _ (by omega) rfl
  have n3:=hN 3 _ (by omega) rfl
  simp only [stI,g,n0,n1,n2,n3,if_true,Bool.false_eq_true,if_false];rfl
 | j + 5,h=>exact absurd h (by simp [jK])
set_option maxHeartbeats 2000000 in
theorem Zi : aO Tryz.prog 52 JX:=by
 refine aG (l:=[(106,AL),(62,Fr)]) (.cons WB (.cons R4 .nil)) A0E fun args r h=>?_
 unfold JX at h
 split at h
 ·rename_i op
  injection h with h;subst h
  refine ⟨by simp,by simp [D.cl],fun H T=>?_⟩
  obtain ⟨sv,hsv⟩ : ∃ z,stI op = z:=⟨_,rfl⟩
  rw [hsv]
  have p1 : AL [] = some (.sl none mY):=rfl
  have pe:=EY
  have plen : mY.length = 5:=rfl
  have pin : ∀ (j : Nat) w,jK[j]? = some w -> Fr [.sl none (w.map .str),.str op] = some (.bool (inB w op)):=fun j w h=>IT (by
   have : ∀ w ∈ jK,w.length <= 1000:=by decide
   exact this w (List.mem_of_getElem? h)) op
  have pget : ∀ (j : Nat) w,jK[j]? = some w -> mY[j]? = some (.sl none (w.map .str)):=fun j w h=>by simp only [mY,List.getElem?_map,h,Option.map_some]
  obtain ⟨PD,hPD⟩ : ∃ z,mY = z:=⟨_,rfl⟩
  rw [hPD] at p1 pe plen
  simp only [hPD] at pget
  clear hPD
  simp +contextual only [c52,p1,pe,plen,go_sem]
  refine bG (fun j s'=>s'.t 0 = .str op /\ s'.t 3 = .sl none PD /\ s'.t 4 = .int .i64 j /\ s'.H = H /\ s'.T = T /\ j <= 5 /\ ∀ i v,i < j -> jK[i]? = some v -> inB v op = false) 5 ⟨0,by simp [upd,bF]⟩ (fun i s h=>h.2.2.2.2.2.1) ?_ (aI _)
  rintro j ⟨t,B,T'⟩ ⟨r0,r3,r4,rfl,rfl,hj,hN⟩
  simp only at r0 r3 r4
  by_cases ha : j < 5
  ·have d1 : decide ((j : Int) < 5) = true:=by simp only [decide_eq_true_eq];omega
   obtain ⟨w,hw⟩ : ∃ w,jK[j]? = some w:=⟨jK[j]'(by simpa [jK] using ha),List.getElem?_eq_getElem _⟩
   have ex:=pget j w hw
   have px:=pin j w hw
   have ew:=u7 w
   have at':=fun g=>Qk hw hN g
   have hix : ixa false 1 5 (.agg [.int .i64 0,.int .i64 1,.int .i64 3,.int .i64 4,.int .i64 5]) (.int .i64 (j : Nat)) = some (.int .i64 (stN j)):=by
    match j,ha with
    | 0,_=>rfl
    | 1,_=>rfl
    | 2,_=>rfl
    | 3,_=>rfl
    | 4,_=>rfl
   obtain ⟨WD,hWD⟩ : ∃ z,w.map D.str = z:=⟨_,rfl⟩
   rw [hWD] at ex px ew
   rcases tf (inB w op) with g | g
   ·rw [g] at px
    have e1:=hsv.symm.trans (at' g)
    simp +contextual only [r0,r3,r4,d1,plen,ex,px,ew,hix,e1,go_sem]
   ·rw [g] at px
    simp +contextual only [r0,r3,r4,d1,plen,ex,px,ew,aH j (by omega),go_sem]
    refine ⟨by omega,fun i v hi hv=>?_⟩
    rcases Nat.lt_or_ge i j with h' | h'
    ·exact hN i v h' hv
    ·have : i = j:=by omega
     subst this
     rw [hw] at hv;injection hv with hv;subst hv;exact g
  ·have d1 : decide ((j : Int) < 5) = false:=by simp only [decide_eq_false_iff_not];omega
   have n0:=hN 0 _ (by omega) rfl
   have n1:=hN 1 _ (by omega) rfl
   have n2:=hN 2 _ (by omega) rfl
   have n3:=hN 3 _ (by omega) rfl
   have n4:=hN 4 _ (by omega) rfl
   have px:=IT (l:=xY) (by decide) op
   have e1 : stI op = if op == sQ then 2 else if op == CL then 6 else if inB xY op then 7 else -1:=by
    simp only [stI,n0,n1,n2,n3,n4,Bool.false_eq_true,if_false]
   replace e1:=hsv.symm.trans e1
   simp only [xY,sQ,CL,List.map_cons,List.map_nil] at px e1
   obtain ⟨pb,hpb⟩ : ∃ z,inB [[118,97,108,117,101],[110,111,119],[97,116,116,114],[104,97,115],[114,111,108,101],[115,105,122,101]] op = z:=⟨_,rfl⟩
   simp only [hpb] at px e1
   subst e1
   simp +contextual only [r0,r3,r4,d1,plen,px,go_sem]
   (all_goals ((repeat' (first | apply And.intro | intro _)) <;> (first | rfl | omega | (simp_all;done) | grind)))
 ·cases h
def iH (v : D) (b : Bool) : Bool:=if vk v == 2 then decide (0 <= vi v) || (b && decide (-9223372036854775808 < vi v)) else (vk v == 1) || (vk v == 4) || ((vk v == 3) && cG 3 (vs v) 0)
def u5 : List D -> Option D
 | [v,.bool b]=>if v.isV = true then some (.bool (iH v b)) else none
 | _=>none
set_option maxHeartbeats 1000000 in
theorem Xq : aO Tryz.prog 108 u5:=by
 refine aG (l:=[(57,dL)]) (.cons Lm .nil) Sh fun args r h=>?_
 unfold u5 at h
 split at h
 ·rename_i v b
  split at h
  ·rename_i hv
   injection h with h;subst h
   refine ⟨by simp,by simp [D.cl],fun H T=>?_⟩
   obtain ⟨k,i,s,nl,l,rfl,z,y,hV⟩:=bZ hv
   have eL:=bD hV
   have p2 : dL [.agg [.int .i64 3,.str s,.int .i64 0]] = some (.bool (cG 3 s 0)):=by simp only [dL];rw [if_pos (by omega)]
   simp only [iH,gX,j9,kL]
   obtain ⟨fb,hfb⟩ : ∃ z,cG 3 s 0 = z:=⟨_,rfl⟩
   rw [hfb] at p2 ⊢
   rcases tf (k == 2) with g2 | g2
   ·rw [if_pos g2]
    rcases tf (decide (0 <= i)) with g3 | g3
    ·simp +contextual only [FT,mkV,eL,g2,g3,go_sem]
    ·cases b
     ·simp +contextual only [FT,mkV,eL,g2,g3,go_sem]
     ·simp +contextual only [FT,mkV,eL,g2,g3,go_sem]
   ·rw [if_neg (by rw [g2];decide)]
    rcases tf (k == 1) with g1 | g1
    ·simp +contextual only [FT,mkV,eL,g2,g1,go_sem]
    ·rcases tf (k == 4) with g4 | g4
     ·simp +contextual only [FT,mkV,eL,g2,g1,g4,go_sem]
     ·rcases tf (k == 3) with g3 | g3
      ·simp +contextual only [FT,mkV,eL,g2,g1,g4,g3,p2,go_sem]
      ·simp +contextual only [FT,mkV,eL,g2,g1,g4,g3,go_sem]
  ·cases h
 ·cases h
def m6 (v : D) : Bool:=if !cJ v then false else if vk v != 5 then iH v false else (vl v).all (fun x=>iH x true) && decide (0 < (vl v).length)
def u6 : List D -> Option D
 | [v]=>if v.isV = true then some (.bool (m6 v)) else none
 | _=>none
set_option maxHeartbeats 1000000 in
theorem A0r : aO Tryz.prog 53 u6:=by
 refine aG (l:=[(107,jY),(108,u5)]) (.cons Pf (.cons Xq .nil)) A0b fun args r h=>?_
 unfold u6 at h
 split at h
 ·rename_i v
  split at h
  ·rename_i hv
   injection h with h;subst h
   refine ⟨by simp,by simp [D.cl],fun H T=>?_⟩
   have p1 : jY [v] = some (.bool (cJ v)):=by simp only [jY];rw [if_pos hv]
   have p2 : u5 [v,.bool false] = some (.bool (iH v false)):=by simp only [u5];rw [if_pos hv]
   unfold m6
   obtain ⟨fb,hfb⟩ : ∃ z,cJ v = z:=⟨_,rfl⟩
   obtain ⟨lb,hlb⟩ : ∃ z,iH v false = z:=⟨_,rfl⟩
   rw [hfb] at p1 ⊢
   rw [hlb] at p2 ⊢
   obtain ⟨k,i,s,nl,l,rfl,z,y,hV⟩:=bZ hv
   have eL:=bD hV
   simp only [gX,fO]
   simp only [mkV] at p1 p2
   cases fb with
   | false=>simp +contextual only [c53,mkV,eL,p1,go_sem]
   | true =>
   rcases tf (k != 5) with g5 | g5
   ·simp +contextual only [c53,mkV,eL,p1,p2,g5,go_sem]
   ·simp +contextual only [c53,mkV,eL,p1,g5,go_sem]
    refine bG (fun j s'=>s'.t 1 = .ptr H.length 0 /\ s'.t 3 = .int .i64 j /\ s'.H = H ++ [.row [.int .i64 k,.int .i64 i,.str s,aA nl l]] /\ s'.T = T /\ j <= l.length /\ (l.take j).all (fun x=>iH x true) = true) l.length ⟨0,by simp [upd,bF]⟩ (fun i s h=>h.2.2.2.2.1) ?_ (aI _)
    rintro j ⟨t',B,T'⟩ ⟨r1,r3,rfl,rfl,hj,hc⟩
    simp only at r1 r3
    by_cases ha : j < l.length
    ·have d1 : decide ((j : Int) < l.length) = true:=by simpa using ha
     have ex : l[j]? = some l[j]:=by simp [ha]
     have nx:=fun hp=>A7 (p:=fun x=>iH x true) ex hc hp
     have no:=fun hp=>A0 (p:=fun x=>iH x true) ex hp
     have hxV:=hV _ (List.getElem_mem ha)
     obtain ⟨x,hx⟩ : ∃ x,l[j] = x:=⟨_,rfl⟩
     rw [hx] at ex nx no hxV
     have px : u5 [x,.bool true] = some (.bool (iH x true)):=by simp only [u5];rw [if_pos hxV]
     obtain ⟨xb,hxb⟩ : ∃ z,iH x true = z:=⟨_,rfl⟩
     simp only [hxb] at px nx no
     clear hxb hx
     obtain ⟨k',i',s',nl',l',rfl,_,_,hV'⟩:=bZ hxV
     have eL':=bD hV'
     simp only [mkV] at ex px
     cases xb with
     | true =>
      have nx:=nx rfl
      simp +contextual only [r1,r3,d1,ex,px,eL',aH j (by omega),go_sem]
      exact ⟨by omega,nx⟩
     | false =>
      have no:=no rfl
      simp +contextual only [r1,r3,d1,ex,px,eL',no,go_sem]
    ·have d1 : decide ((j : Int) < l.length) = false:=by simpa using ha
     have : j = l.length:=by omega
     subst this
     rw [List.take_length] at hc
     have dd : decide ((0 : Int) < l.length) = decide (0 < l.length):=by rw [decide_eq_decide];omega
     simp +contextual only [r1,r3,d1,hc,dd,go_sem]
  ·cases h
 ·cases h
def arN (op : List UInt8) : Int:=if (stI op == 0) || (stI op == 1) || (decide (3 <= stI op) && decide (stI op <= 5)) then 2 else if (stI op == 2) || (stI op == 6) || (op == dN) then 1 else 0
def tH (e : D) : Bool :=
 if eop e == fU then m6 (eV e) && (lP e == []) && (fB e == []) else
 if !kR (eV e) eE then false else
 if (eop e == eJ) || (eop e == i8) then inB j7 (lP e) && gL (fB e) else
 if eop e == dK then (lP e == []) && cG 3 (fB e) 0 else (lP e == []) && (fB e == [])
def fmR : Nat -> D -> Bool
 | 0,_=>false
 | n + 1,e=>if decide (stI (eop e) < 0) || (((eps e).length : Int) != arN (eop e)) then false else if !(eps e).all (fmR n) then false else tH e
open Classical in
noncomputable def qU (n : Nat) : List D -> Option D
 | [e]=>if isE n e then some (.bool (fmR n e)) else none
 | _=>none
theorem Ce (op : List UInt8) : stI op = 0 ∨ stI op = 1 ∨ stI op = 3 ∨ stI op = 4 ∨ stI op = 5 ∨ stI op = 2 ∨ stI op = 6 ∨ stI op = 7 ∨ stI op = -1:=by
 unfold stI;(repeat' split) <;> simp
theorem Gu {op : List UInt8} : (stI op = 0 -> arN op = 2) /\ (stI op = 1 -> arN op = 2) /\ (stI op = 3 -> arN op = 2) /\ (stI op = 4 -> arN op = 2) /\ (stI op = 5 -> arN op = 2) /\ (stI op = 2 -> arN op = 1) /\ (stI op = 6 -> arN op = 1) /\ (stI op = 7 -> arN op = if op == dN then 1 else 0):=by
 refine ⟨?_,?_,?_,?_,?_,?_,?_,?_⟩ <;> intro h <;> simp only [arN,h] <;> first | rfl | (cases op == dN <;> rfl)
theorem Iw {a b : D} (ha : a.isV = true) (hb : b.isV = true) : nX [a,b] = some (.bool (kR a b)):=by simp only [nX];rw [if_pos ⟨ha,hb⟩]
theorem JQ : eE.isV = true:=by decide
set_option maxHeartbeats 16000000 in
theorem Wv : ∀ n,aO Tryz.prog 21 (qU n)
 | 0=>fun args r h=>by
  unfold qU at h
  split at h
  ·split at h
   ·rename_i h';exact h'.elim
   ·cases h
  ·cases h
 | n + 1=>by
  refine aG (l:=[(52,JX),(21,qU n),(53,u6),(54,nX),(55,yY),(56,CI),(57,dL)]) (.cons Zi (.cons (Wv n) (.cons A0r (.cons T8 (.cons WU (.cons Wg (.cons Lm .nil))))))) ZH fun args r h=>?_
  unfold qU at h
  split at h
  ·rename_i e
   split at h
   ·rename_i he
    injection h with h;subst h
    refine ⟨by simp,by simp [D.cl],fun H T=>?_⟩
    obtain ⟨op,k,i,t,nl,l,who,name,m,ps,rfl,h1,h2,h3,h4,h5,h6,eL,eP⟩:=fN he
    have h6 : ∀ x ∈ ps,isE n x:=h6
    simp only [fmR,tH,lR,A2v,A2w,A2s,A2z]
    have pS : JX [.str op] = some (.int .i64 (stI op)):=rfl
    have pv : u6 [mkV k i t nl l] = some (.bool (m6 (mkV k i t nl l))):=by simp only [u6];rw [if_pos h4.1]
    have pz : nX [mkV k i t nl l,eE] = some (.bool (kR (mkV k i t nl l) eE)):=Iw h4.1 JQ
    have pw : yY [.str who] = some (.bool (inB j7 who)):=rfl
    have pn : CI [.str name] = some (.bool (gL name)):=by simp only [CI];rw [if_pos (by omega)]
    have pf : dL [.agg [.int .i64 3,.str name,.int .i64 0]] = some (.bool (cG 3 name 0)):=by simp only [dL];rw [if_pos (by omega)]
    obtain ⟨vb,hvb⟩ : ∃ z,m6 (mkV k i t nl l) = z:=⟨_,rfl⟩
    obtain ⟨zb,hzb⟩ : ∃ z,kR (mkV k i t nl l) eE = z:=⟨_,rfl⟩
    obtain ⟨wb,hwb⟩ : ∃ z,inB j7 who = z:=⟨_,rfl⟩
    obtain ⟨nb,hnb⟩ : ∃ z,gL name = z:=⟨_,rfl⟩
    obtain ⟨fb,hfb⟩ : ∃ z,cG 3 name 0 = z:=⟨_,rfl⟩
    simp only [hvb,hzb,hwb,hnb,hfb] at pv pz pw pn pf ⊢
    clear hvb hzb hwb hnb hfb
    simp only [mkV,eE] at pv pz
    obtain ⟨ar,har⟩ : ∃ z,arN op = z:=⟨_,rfl⟩
    have hA:=Gu (op:=op)
    rw [har] at hA ⊢
    obtain ⟨sv,hsv⟩ : ∃ z,stI op = z:=⟨_,rfl⟩
    have noS : sv ≠ 7 -> (op == dN) = false:=fun h=>by
     cases hx : op == dN with
     | false=>rfl
     | true =>
      have : op = dN:=by simpa using hx
      subst this;exact absurd (hsv.symm.trans (by decide)) h
    have cs:=Ce op
    simp only [hsv] at pS hA cs ⊢
    rw [Du 5]
    obtain ⟨tl,htl⟩ : ∃ z,C.tl 5 c21 = z:=⟨_,rfl⟩
    rw [htl]
    obtain ⟨Q,hQ⟩ : ∃ Q,mW [.inl 2] (i5 (.bool (if (decide (sv < 0) || ((ps.length : Int) != ar)) = true then false else if (!ps.all (fmR n)) = true then false else if (op == fU) = true then vb && (who == []) && (name == []) else if (!zb) = true then false else if ((op == eJ) || (op == i8)) = true then wb && nb else if (op == dK) = true then (who == []) && fb else (who == []) && (name == []))) H T) = Q:=⟨_,rfl⟩
    rw [hQ]
    have rest : ∀ t',t' 1 = .ptr H.length 0 -> t' 3 = .int .i64 sv -> t' 4 = .int .i64 ar →
      W (XL [(52,JX),(21,qU n),(53,u6),(54,nX),(55,yY),(56,CI),(57,dL)]) tl Q ⟨t',H ++ [.row [.str op,.int .i64 k,.int .i64 i,.str t,aA nl l,.str who,.str name,aA m ps]],T⟩:=by
     rw [<- hQ]
     intro t' r1 r3 r4
     subst htl
     rcases tf (decide (sv < 0)) with gn | gn
     ·rw [gn]
      simp +contextual only [c21,r1,r3,r4,gn,go_sem]
     rcases tf ((ps.length : Int) != ar) with gl | gl
     ·rw [gn,gl]
      simp +contextual only [c21,r1,r3,r4,gn,gl,go_sem]
     rw [gn,gl]
     simp +contextual only [c21,r1,r3,r4,gn,gl,go_sem]
     refine bG (fun j s'=>s'.t 1 = .ptr H.length 0 /\ s'.t 5 = .int .i64 j /\ s'.H = H ++ [.row [.str op,.int .i64 k,.int .i64 i,.str t,aA nl l,.str who,.str name,aA m ps]] /\ s'.T = T /\ j <= ps.length /\ (ps.take j).all (fmR n) = true) ps.length ⟨0,by simp [upd,r1]⟩ (fun i s h=>h.2.2.2.2.1) ?_ (aI _)
     clear r1 r3 r4 gn gl
     rintro j ⟨t',B,T'⟩ ⟨r1,r5,rfl,rfl,hj,hc⟩
     simp only at r1 r5
     by_cases ha : j < ps.length
     ·have d1 : decide ((j : Int) < ps.length) = true:=by simpa using ha
      have hx:=h6 _ (List.getElem_mem ha)
      have ex : ps[j]? = some ps[j]:=by simp [ha]
      have nx:=fun hp=>A7 (p:=fmR n) ex hc hp
      have no:=fun hp=>A0 (p:=fmR n) ex hp
      generalize ps[j] = x at *
      have ee:=bW hx
      obtain ⟨q1,q2,q3,q4⟩:=fT hx
      have px : qU n [x] = some (.bool (fmR n x)):=by simp only [qU];rw [if_pos hx]
      obtain ⟨b,hq⟩ : ∃ z,fmR n x = z:=⟨_,rfl⟩
      simp only [hq] at px nx no
      clear hq
      cases b with
      | true =>
       have nx:=nx rfl
       simp +contextual only [r1,r5,d1,ex,ee,q1,q2,q3,q4,px,aH j (by omega),go_sem]
       exact ⟨by omega,nx⟩
      | false =>
       have no:=no rfl
       simp +contextual only [r1,r5,d1,ex,ee,q1,q2,q3,q4,px,no,go_sem]
     ·have d1 : decide ((j : Int) < ps.length) = false:=by simpa using ha
      have : j = ps.length:=by omega
      subst this
      rw [List.take_length] at hc
      simp only [fU,eJ,i8,dK]
      rcases tf (op == [118,97,108,117,101]) with g1 | g1
      ·cases vb
       ·simp +contextual only [r1,r5,d1,hc,g1,pv,eL,go_sem]
       ·simp +contextual only [r1,r5,d1,hc,g1,pv,eL,go_sem]
        (all_goals ((repeat' (first | apply And.intro | intro _)) <;> (first | rfl | omega | (simp_all;done) | grind)))
      cases zb
      ·simp +contextual only [r1,r5,d1,hc,g1,pz,eL,go_sem]
      rcases tf (op == [97,116,116,114]) with g2 | g2
      ·cases wb
       ·simp +contextual only [r1,r5,d1,hc,g1,g2,pz,eL,pw,pn,go_sem]
       ·simp +contextual only [r1,r5,d1,hc,g1,g2,pz,eL,pw,pn,go_sem]
      rcases tf (op == [104,97,115]) with g3 | g3
      ·cases wb
       ·simp +contextual only [r1,r5,d1,hc,g1,g2,g3,pz,eL,pw,pn,go_sem]
       ·simp +contextual only [r1,r5,d1,hc,g1,g2,g3,pz,eL,pw,pn,go_sem]
      rcases tf (op == [114,111,108,101]) with g4 | g4
      ·simp +contextual only [r1,r5,d1,hc,g1,g2,g3,g4,pz,eL,pf,go_sem]
       (all_goals ((repeat' (first | apply And.intro | intro _)) <;> (first | rfl | omega | (simp_all;done) | grind)))
      ·simp +contextual only [r1,r5,d1,hc,g1,g2,g3,g4,pz,eL,go_sem]
       (all_goals ((repeat' (first | apply And.intro | intro _)) <;> (first | rfl | omega | (simp_all;done) | grind)))
    have cc : ∀ s : List UInt8,(op == dN) = (op == [115,105,122,101]):=fun _=>rfl
    rw [cc []] at noS hA
    rcases cs with g | g | g | g | g | g | g | g | g
    all_goals subst g
    ·have e1:=hA.1 rfl
     subst e1
     have e2:=noS (by decide)
     simp +contextual only [c21,mkE,eL,eP,pS,e2,go_sem]
     refine rest _ ?_ ?_ ?_ <;> rfl
    ·have e1:=hA.2.1 rfl
     subst e1
     have e2:=noS (by decide)
     simp +contextual only [c21,mkE,eL,eP,pS,e2,go_sem]
     refine rest _ ?_ ?_ ?_ <;> rfl
    ·have e1:=hA.2.2.1 rfl
     subst e1
     have e2:=noS (by decide)
     simp +contextual only [c21,mkE,eL,eP,pS,e2,go_sem]
     refine rest _ ?_ ?_ ?_ <;> rfl
    ·have e1:=hA.2.2.2.1 rfl
     subst e1
     have e2:=noS (by decide)
     simp +contextual only [c21,mkE,eL,eP,pS,e2,go_sem]
     refine rest _ ?_ ?_ ?_ <;> rfl
    ·have e1:=hA.2.2.2.2.1 rfl
     subst e1
     have e2:=noS (by decide)
     simp +contextual only [c21,mkE,eL,eP,pS,e2,go_sem]
     refine rest _ ?_ ?_ ?_ <;> rfl
    ·have e1:=hA.2.2.2.2.2.1 rfl
     subst e1
     simp +contextual only [c21,mkE,eL,eP,pS,go_sem]
     refine rest _ ?_ ?_ ?_ <;> rfl
    ·have e1:=hA.2.2.2.2.2.2.1 rfl
     subst e1
     simp +contextual only [c21,mkE,eL,eP,pS,go_sem]
     refine rest _ ?_ ?_ ?_ <;> rfl
    ·have e1:=hA.2.2.2.2.2.2.2 rfl
     rcases tf (op == [115,105,122,101]) with e2 | e2
     ·rw [e2,if_pos rfl] at e1
      subst e1
      simp +contextual only [c21,mkE,eL,eP,pS,e2,go_sem]
      refine rest _ ?_ ?_ ?_ <;> rfl
     ·rw [e2,if_neg (by decide)] at e1
      subst e1
      simp +contextual only [c21,mkE,eL,eP,pS,e2,go_sem]
      refine rest _ ?_ ?_ ?_ <;> rfl
    ·have e2:=noS (by decide)
     have pp : ∀ t',t' 1 = .ptr H.length 0 -> t' 3 = .int .i64 (-1) -> W (XL [(52,JX),(21,qU n),(53,u6),(54,nX),(55,yY),(56,CI),(57,dL)]) tl Q ⟨t',H ++ [.row [.str op,.int .i64 k,.int .i64 i,.str t,aA nl l,.str who,.str name,aA m ps]],T⟩:=by
      intro t' r1 r3
      rw [<- hQ]
      subst htl
      simp +contextual only [c21,r1,r3,go_sem]
     simp +contextual only [c21,mkE,eL,eP,pS,e2,go_sem]
     refine pp _ ?_ ?_ <;> rfl
   ·cases h
  ·cases h
section
variable {P : Program} [HasG P]
def A2I (z : Nat) (f : List D -> Option (List D)) : Hp -> Tk -> List D -> Option (D × Hp × Tk):=fun H T a=>match f a with
 | some xs=>some (.sl (some T.length) xs,H,T ++ [some (xs.length,z)])
 | none=>none
end
def tC : D:=mkT 5 [44] 0
def iB (v : D) : List D :=
 if vk v == 1 then (if vi v == 1 then [mkT 1 gB 0] else [mkT 1 hU 0]) else
 if vk v == 2 then (if decide (vi v < 0) then [mkT 5 [45] 0,mkT 2 [] (IntKind.i64.wrap (0 - vi v))] else [mkT 2 [] (vi v)]) else
 if vk v == 3 then [mkT 3 (vs v) 0] else [mkT 4 [] (vi v)]
def qV (v : D) : Bool:=(vk v == 1) || (vk v == 2) || (vk v == 3) || (vk v == 4)
def cmL (f : D -> List D) (l : List D) : List D:=((l.map fun x=>tC :: f x).flatten).drop 1
def qI (v : D) : List D:=if qV v then iB v else mkT 5 [91] 0 :: (cmL iB (vl v) ++ [mkT 5 [93] 0])
def A2K (l : List D) : Prop:=∀ x ∈ l,∃ k s n,x = mkT k s n
theorem A2K.fit {l : List D} (h : A2K l) : l.all (fit 3) = true:=List.all_eq_true.2 fun x hx=>by
 obtain ⟨k,s,n,rfl⟩:=h x hx;rfl
theorem A2K.cl {l : List D} (h : A2K l) (i j : Nat) : D.clL i j l = true:=jS fun x hx=>by
 obtain ⟨k,s,n,rfl⟩:=h x hx;simp [mkT,D.cl,D.clL]
theorem A2K.erase {l : List D} (h : A2K l) : D.eraseL l = l:=bB fun x hx=>by
 obtain ⟨k,s,n,rfl⟩:=h x hx;simp [mkT,D.erase,D.eraseL]
theorem A2K.app {l m : List D} (h : A2K l) (k : A2K m) : A2K (l ++ m):=fun x hx=>by
 rcases List.mem_append.1 hx with h' | h'
 ·exact h x h'
 ·exact k x h'
theorem A2K.cons {l : List D} (k : Int) (s : List UInt8) (n : Int) (h : A2K l) : A2K (mkT k s n :: l):=fun x hx=>by
 rcases List.mem_cons.1 hx with rfl | h'
 ·exact ⟨_,_,_,rfl⟩
 ·exact h x h'
theorem A2K.nil : A2K []:=fun _ h=>by cases h
section
variable {P : Program} [HasG P]
theorem ME.pure {z : Nat} {f : FuncId} {φ : List D -> Option (List D)} (h : ME P f (A2I z φ)) (hx : ∀ a xs,φ a = some xs -> D.clL 0 0 xs = true /\ D.eraseL xs = xs) : aO P f (fun a=>(φ a).map (.sl none)):=by
 intro args r hr args' he H T Q hQ
 change (φ args).map (.sl none) = some r at hr
 cases ha : φ args with
 | none=>rw [ha] at hr;cases hr
 | some xs =>
  rw [ha] at hr;simp only [Option.map_some,Option.some.injEq] at hr
  subst hr
  obtain ⟨h1,h2⟩:=hx args xs ha
  have hS:=h H T args (.sl (some T.length) xs) H (T ++ [some (xs.length,z)]) (by simp only [A2I,ha]) args' he (fun r H' T'=>r.erase = .sl none xs /\ (∃ L,H' = H ++ L) /\ ∃ U,T' = T ++ U) ⟨by simp only [D.erase,h2],⟨[],by simp⟩,⟨_,rfl⟩⟩
  intro c w vs kg k1 k2 k3
  have hcl : (D.sl none xs).cl H.length T.length = true:=by
   simp only [D.cl,Bool.true_and]
   exact D.clL_mono (Nat.zero_le _) (Nat.zero_le _) xs h1
  rcases hS c w vs kg k1 k2 k3 with ⟨g1,g2⟩ | ⟨v,w',g1,g2⟩
  ·exact .inl ⟨g1,g2.mono fun e w' k=>bJ.forget k1 k2 hcl hQ k⟩
  ·exact .inr ⟨v,w',g1,bJ.forget k1 k2 hcl hQ g2⟩
end
def tP : D:=mkT 5 [40] 0
def tQ : D:=mkT 5 [41] 0
def iW (full : Bool) (s least : Int) (l : List D) : List D:=if decide (least <= s) && (!full || (s == 7)) then l else tP :: (l ++ [tQ])
def opW : List (List UInt8):=[wOr,Gg,sIn]
def D5 (op : List UInt8) : D:=if inB opW op then mkT 1 op 0 else mkT 5 op 0
def FO (op : List UInt8) : Int:=if stI op == 3 then 4 else stI op
def eZ (e : D) : D:=(eps e).getD 0 .top
def uA (e : D) : D:=(eps e).getD 1 .top
def eY : Nat -> Bool -> D -> List D
 | 0,_,_=>[]
 | n + 1,full,e =>
  if eop e == fU then qI (eV e) else
  if eop e == iZ then [mkT 1 iZ 0] else
  if eop e == eJ then [mkT 1 (lP e) 0,mkT 5 [46] 0,mkT 1 (fB e) 0] else
  if eop e == i8 then [mkT 1 i8 0,tP,mkT 1 (lP e) 0,mkT 5 [46] 0,mkT 1 (fB e) 0,tQ] else
  if eop e == dK then [mkT 1 dK 0,tP,mkT 3 (fB e) 0,tQ] else
  if eop e == dN then [mkT 1 dN 0,tP] ++ (eY n full (eZ e) ++ [tQ]) else
  if eop e == lF then mkT 1 lF 0 :: iW full (stI (eop (eZ e))) 2 (eY n full (eZ e)) else
  if eop e == oJ then mkT 5 [45] 0 :: iW full (stI (eop (eZ e))) 6 (eY n full (eZ e)) else
  iW full (stI (eop (eZ e))) (FO (eop e)) (eY n full (eZ e)) ++ (D5 (eop e) :: iW full (stI (eop (uA e))) (stI (eop e) + 1) (eY n full (uA e)))
theorem Sd {n : Nat} {e : D} (h : fmR (n + 1) e = true) : 0 <= stI (eop e) /\ ((eps e).length : Int) = arN (eop e) /\ (∀ x ∈ eps e,fmR n x = true) /\ tH e = true:=by
 simp only [fmR] at h
 split at h
 ·cases h
 ·rename_i h1
  split at h
  ·cases h
  ·rename_i h2
   simp only [Bool.or_eq_true,decide_eq_true_eq,bne_iff_ne,ne_eq,not_or,Decidable.not_not] at h1
   simp only [Bool.not_eq_true',Bool.not_eq_false] at h2
   exact ⟨by omega,h1.2,fun x hx=>List.all_eq_true.1 h2 x hx,h⟩
theorem TM {op : List UInt8} (h : stI op = 2) : op = sQ:=by
 unfold stI at h;(repeat' split at h) <;> simp_all
theorem XO {op : List UInt8} (h : stI op = 6) : op = CL:=by
 unfold stI at h;(repeat' split at h) <;> simp_all
theorem Vi {op : List UInt8} (h : stI op = 7) : inB xY op = true:=by
 unfold stI at h;(repeat' split at h) <;> simp_all
theorem xB {v : D} {b : Bool} (h : iH v b = true) : qV v = true:=by
 unfold iH at h
 unfold qV
 rcases tf (vk v == 2) with g | g
 ·rw [g];simp
 ·rw [if_neg (by rw [g];decide)] at h
  rcases tf (vk v == 1) with g1 | g1
  ·rw [g1];simp
  ·rcases tf (vk v == 4) with g4 | g4
   ·rw [g4];simp
   ·rw [g1,g4] at h
    simp only [Bool.false_or,Bool.and_eq_true] at h
    rw [h.1];simp
theorem NL {v : D} (h : m6 v = true) : qV v = true ∨ (vl v).all qV = true /\ (vl v).length <= 2 ^ 20:=by
 unfold m6 at h
 split at h
 ·cases h
 ·rename_i hf
  split at h
  ·exact .inl (xB h)
  ·rename_i hk
   simp only [Bool.and_eq_true] at h
   refine .inr ⟨List.all_eq_true.2 fun x hx=>xB (List.all_eq_true.1 h.1 x hx),?_⟩
   simp only [Bool.not_eq_true',Bool.not_eq_false] at hf
   unfold cJ at hf
   rw [if_neg hk] at hf
   split at hf
   ·cases hf
   ·rename_i hq
    simp only [Bool.or_eq_true,decide_eq_true_eq,not_or] at hq
    omega
section
variable {n : Nat} {full : Bool} {e : D}
theorem Bu (g1 : (eop e == fU) = true) : eY (n + 1) full e = qI (eV e):=by simp only [eY];rw [if_pos g1]
theorem C1 (g1 : (eop e == fU) = false) (g2 : (eop e == iZ) = true) : eY (n + 1) full e = [mkT 1 iZ 0]:=by
 simp only [eY];rw [if_neg (by rw [g1];decide),if_pos g2]
theorem xD (g1 : (eop e == fU) = false) (g2 : (eop e == iZ) = false) (g3 : (eop e == eJ) = true) : eY (n + 1) full e = [mkT 1 (lP e) 0,mkT 5 [46] 0,mkT 1 (fB e) 0]:=by
 simp only [eY];rw [if_neg (by rw [g1];decide),if_neg (by rw [g2];decide),if_pos g3]
theorem BQ (g1 : (eop e == fU) = false) (g2 : (eop e == iZ) = false) (g3 : (eop e == eJ) = false) (g4 : (eop e == i8) = true) : eY (n + 1) full e = [mkT 1 i8 0,tP,mkT 1 (lP e) 0,mkT 5 [46] 0,mkT 1 (fB e) 0,tQ]:=by
 simp only [eY];rw [if_neg (by rw [g1];decide),if_neg (by rw [g2];decide),if_neg (by rw [g3];decide),if_pos g4]
theorem y8 (g1 : (eop e == fU) = false) (g2 : (eop e == iZ) = false) (g3 : (eop e == eJ) = false) (g4 : (eop e == i8) = false) (g5 : (eop e == dK) = true) : eY (n + 1) full e = [mkT 1 dK 0,tP,mkT 3 (fB e) 0,tQ]:=by
 simp only [eY];rw [if_neg (by rw [g1];decide),if_neg (by rw [g2];decide),if_neg (by rw [g3];decide),if_neg (by rw [g4];decide),if_pos g5]
theorem x8 (g1 : (eop e == fU) = false) (g2 : (eop e == iZ) = false) (g3 : (eop e == eJ) = false) (g4 : (eop e == i8) = false) (g5 : (eop e == dK) = false) (g6 : (eop e == dN) = true) : eY (n + 1) full e = mkT 1 dN 0 :: tP :: (eY n full (eZ e) ++ [tQ]):=by
 simp only [eY];rw [if_neg (by rw [g1];decide),if_neg (by rw [g2];decide),if_neg (by rw [g3];decide),if_neg (by rw [g4];decide),if_neg (by rw [g5];decide),if_pos g6];rfl
theorem Bl (g1 : (eop e == fU) = false) (g2 : (eop e == iZ) = false) (g3 : (eop e == eJ) = false) (g4 : (eop e == i8) = false) (g5 : (eop e == dK) = false) (g6 : (eop e == dN) = false) (g7 : (eop e == lF) = true) :
  eY (n + 1) full e = mkT 1 lF 0 :: iW full (stI (eop (eZ e))) 2 (eY n full (eZ e)):=by
 simp only [eY];rw [if_neg (by rw [g1];decide),if_neg (by rw [g2];decide),if_neg (by rw [g3];decide),if_neg (by rw [g4];decide),if_neg (by rw [g5];decide),if_neg (by rw [g6];decide),if_pos g7]
theorem BR (g1 : (eop e == fU) = false) (g2 : (eop e == iZ) = false) (g3 : (eop e == eJ) = false) (g4 : (eop e == i8) = false) (g5 : (eop e == dK) = false) (g6 : (eop e == dN) = false) (g7 : (eop e == lF) = false) (g8 : (eop e == oJ) = true) :
  eY (n + 1) full e = mkT 5 [45] 0 :: iW full (stI (eop (eZ e))) 6 (eY n full (eZ e)):=by
 simp only [eY];rw [if_neg (by rw [g1];decide),if_neg (by rw [g2];decide),if_neg (by rw [g3];decide),if_neg (by rw [g4];decide),if_neg (by rw [g5];decide),if_neg (by rw [g6];decide),if_neg (by rw [g7];decide),if_pos g8]
theorem Af (g1 : (eop e == fU) = false) (g2 : (eop e == iZ) = false) (g3 : (eop e == eJ) = false) (g4 : (eop e == i8) = false) (g5 : (eop e == dK) = false) (g6 : (eop e == dN) = false) (g7 : (eop e == lF) = false) (g8 : (eop e == oJ) = false) :
  eY (n + 1) full e = iW full (stI (eop (eZ e))) (FO (eop e)) (eY n full (eZ e)) ++ (D5 (eop e) :: iW full (stI (eop (uA e))) (stI (eop e) + 1) (eY n full (uA e))):=by
 simp only [eY];rw [if_neg (by rw [g1];decide),if_neg (by rw [g2];decide),if_neg (by rw [g3];decide),if_neg (by rw [g4];decide),if_neg (by rw [g5];decide),if_neg (by rw [g6];decide),if_neg (by rw [g7];decide),if_neg (by rw [g8];decide)]
end
theorem A2E {e : D} (h : tH e = true) (g : (eop e == fU) = true) : m6 (eV e) = true /\ lP e = [] /\ fB e = []:=by
 unfold tH at h
 rw [if_pos g] at h
 simp only [Bool.and_eq_true,beq_iff_eq] at h
 exact ⟨h.1.1,h.1.2,h.2⟩
theorem aM {a b : List UInt8} (h : (a == b) = true) : a = b:=by simpa using h
theorem Qj {op : List UInt8} (h0 : 0 <= stI op) (g1 : (op == fU) = false) (g2 : (op == iZ) = false) (g3 : (op == eJ) = false) (g4 : (op == i8) = false) (g5 : (op == dK) = false) (g6 : (op == dN) = false) (g7 : (op == lF) = false) (g8 : (op == oJ) = false) :
  (stI op = 0 ∨ stI op = 1 ∨ stI op = 3 ∨ stI op = 4 ∨ stI op = 5) /\ arN op = 2:=by
 have hA:=Gu (op:=op)
 rcases Ce op with h | h | h | h | h | h | h | h | h
 ·exact ⟨.inl h,hA.1 h⟩
 ·exact ⟨.inr (.inl h),hA.2.1 h⟩
 ·exact ⟨.inr (.inr (.inl h)),hA.2.2.1 h⟩
 ·exact ⟨.inr (.inr (.inr (.inl h))),hA.2.2.2.1 h⟩
 ·exact ⟨.inr (.inr (.inr (.inr h))),hA.2.2.2.2.1 h⟩
 ·rw [TM h] at g7;cases g7
 ·rw [XO h] at g8;cases g8
 ·have:=Vi h
  simp only [inB,xY,List.any_cons,List.any_nil,Bool.or_false,Bool.or_eq_true] at this
  have sw : ∀ a b : List UInt8,(a == b) = true -> (b == a) = true:=fun a b h=>by simp only [beq_iff_eq] at h ⊢;exact h.symm
  rcases this with t | t | t | t | t | t
  ·rw [show (op == fU) = true from sw _ _ t] at g1;cases g1
  ·rw [show (op == iZ) = true from sw _ _ t] at g2;cases g2
  ·rw [show (op == eJ) = true from sw _ _ t] at g3;cases g3
  ·rw [show (op == i8) = true from sw _ _ t] at g4;cases g4
  ·rw [show (op == dK) = true from sw _ _ t] at g5;cases g5
  ·rw [show (op == dN) = true from sw _ _ t] at g6;cases g6
 ·omega
theorem dH {n m : Nat} (h : n <= m) {d : D} (hd : isE n d) : isE m d:=by
 induction h with
 | refl=>exact hd
 | step _ ih=>exact Fz ih
theorem uM {m : Nat} {op : List UInt8} {k i : Int} {s : List UInt8} {nl : Bool} {l : List D} {who name : List UInt8} {q : Bool} {ps : List D} (h1 : op.length <= 2 ^ 47) (h2 : who.length <= 2 ^ 47) (h3 : name.length <= 2 ^ 47) (h4 : mT (mkV k i s nl l)) (h5 : ps.length <= 2 ^ 47) (h6 : ∀ x ∈ ps,isE m x) :
  isE (m + 1) (mkE op k i s nl l who name q ps):=⟨op,k,i,s,nl,l,who,name,q,ps,rfl,h1,h2,h3,h4,h5,h6⟩
theorem fR : mT (mkV 0 0 [] true []):=⟨by decide,by decide,by decide⟩
theorem EI {m : Nat} {op : List UInt8} {x y : D} (ho : op.length <= 2 ^ 47) (hx : isE m x) (hy : isE m y) : isE (m + 1) (mA op x y) :=
 uM (m:=m) (op:=op) (k:=0) (i:=0) (s:=[]) (nl:=true) (l:=[]) (who:=[]) (name:=[]) (q:=false) (ps:=[x,y]) ho (by simp) (by simp) fR (by simp) (fun z hz=>by
  simp only [List.mem_cons,List.not_mem_nil,or_false] at hz
  rcases hz with rfl | rfl
  ·exact hx
  ·exact hy)
theorem I9 {m : Nat} {op : List UInt8} {x : D} (ho : op.length <= 2 ^ 47) (hx : isE m x) : isE (m + 1) (jQ op x) :=
 uM (m:=m) (op:=op) (k:=0) (i:=0) (s:=[]) (nl:=true) (l:=[]) (who:=[]) (name:=[]) (q:=false) (ps:=[x]) ho (by simp) (by simp) fR (by simp) (fun z hz=>by
  simp only [List.mem_cons,List.not_mem_nil,or_false] at hz
  rw [hz];exact hx)
theorem pM {op who name : List UInt8} (h1 : op.length <= 2 ^ 47) (h2 : who.length <= 2 ^ 47) (h3 : name.length <= 2 ^ 47) : isE 1 (dQ op who name) :=
 uM (m:=0) (op:=op) (k:=0) (i:=0) (s:=[]) (nl:=true) (l:=[]) (who:=who) (name:=name) (q:=true) (ps:=[]) h1 h2 h3 fR (by simp) (fun z hz=>by cases hz)
theorem DI {v : D} (h : mT v) : isE 1 (kZ v):=by
 obtain ⟨k,i,s,n,l,rfl,_⟩:=bZ h.1
 exact uM (m:=0) (op:=[118,97,108,117,101]) (k:=k) (i:=i) (s:=s) (nl:=n) (l:=l) (who:=[]) (name:=[]) (q:=true) (ps:=[]) (by simp) (by simp) (by simp) h (by simp) (fun z hz=>by cases hz)
theorem v6 {toks : List D} (h : toks.all bR = true) (st : St) : (ts (bI toks st)).length <= 2 ^ 47 /\ -(2 ^ 63) <= tn (bI toks st) /\ tn (bI toks st) < 2 ^ 63:=by
 have key : bI toks st = zT ∨ bI toks st ∈ toks:=by
  unfold bI wW
  split
  ·exact .inl rfl
  ·split
   ·rename_i t ht
    split
    ·exact .inr (List.mem_of_getElem? ht)
    ·exact .inl rfl
   ·exact .inl rfl
 rcases key with e | e
 ·rw [e];exact ⟨by simp [zT,kU],by simp [zT,zJ],by simp [zT,zJ]⟩
 ·have hb:=List.all_eq_true.1 h _ e
  obtain ⟨k,s,n,e',hs⟩:=n8 hb
  rw [e'] at hb
  rw [e']
  exact ⟨hs,(HR hb).2⟩
theorem qJ {toks : List D} (h : toks.all bR = true) (k : Int) (st : St) : (ts (cL toks k st).1).length <= 2 ^ 47 /\ -(2 ^ 63) <= tn (cL toks k st).1 /\ tn (cL toks k st).1 < 2 ^ 63:=by
 unfold cL
 split
 ·exact ⟨by simp [zT,kU],by simp [zT,zJ],by simp [zT,zJ]⟩
 ·exact v6 h st
theorem vO {toks : List D} (h : toks.all bR = true) (st : St) : (cS toks st).1.length <= 2 ^ 47:=by
 unfold cS
 split
 ·simp
 ·exact (v6 h st).1
theorem iJ {toks : List D} {st : St} : ∀ {ws : List (List UInt8)} {w : List UInt8},fX toks st ws = some w -> w ∈ ws
 | [],w,h=>by cases h
 | x :: r,w,h=>by
  simp only [fX] at h
  split at h
  ·injection h with h;subst h;simp
  ·exact List.mem_cons_of_mem _ (iJ h)
theorem Oe (toks : List D) (ws : List (List UInt8)) (hw : ∀ w ∈ ws,w.length <= 2 ^ 47) (st : St) : (dT toks ws st).1.length <= 2 ^ 47:=by
 unfold dT
 split
 ·rename_i w h;exact hw w (iJ h)
 ·simp
theorem lU {toks : List D} (h : toks.all bR = true) (st : St) : (bU toks st).1.length <= 2 ^ 47 /\ (bU toks st).2.1.length <= 2 ^ 47:=by
 unfold bU
 exact ⟨Oe toks j7 (by decide) st,vO h _⟩
theorem N8 (n : Int) : -(2 ^ 63) <= IntKind.i64.wrap n /\ IntKind.i64.wrap n < 2 ^ 63:=by
 rw [IntKind.wrap_i64];omega
theorem Em {n : Int} (h : -(2 ^ 63) <= n /\ n < 2 ^ 63) : mT (num n):=⟨rfl,h.1,h.2⟩
theorem nG {toks : List D} (h : toks.all bR = true) (st : St) : mT (aF toks st).1:=by
 have hr:=v6 h st
 unfold aF
 split
 ·exact Em hr.2
 split
 ·refine ⟨?_,by simp [jB,vi],by simp [jB,vi]⟩
  simp only [jB,D.isV,D.isVs,Bool.and_true,decide_eq_true_eq]
  have:=hr.1
  simp only [List.length_take]
  omega
 split
 ·exact ⟨rfl,hr.2.1,hr.2.2⟩
 split
 ·refine ⟨rfl,?_,?_⟩ <;> (simp only [mP,vi];split <;> decide)
 ·exact fR
theorem rP {toks : List D} (h : toks.all bR = true) (st : St) : mT (dD toks st).1:=by
 unfold dD
 split
 ·exact Em (N8 _)
 split
 ·exact nG h st
 ·exact nG h st
theorem xE {toks : List D} (h : toks.all bR = true) : ∀ (f : Nat) (out : List D) (st : St) (r : List D × St),(∀ v ∈ out,mT v) -> lO toks f out st = some r -> ∀ v ∈ r.1,mT v
 | 0,_,_,_,_,h'=>by simp [lO] at h'
 | f + 1,out,st,r,ho,h'=>by
  simp only [lO] at h'
  split at h'
  ·exact xE h f _ _ r (fun v hv=>by
    rcases List.mem_append.1 hv with hv | hv
    ·exact ho v hv
    ·rw [List.mem_singleton] at hv;subst hv;exact rP h _) h'
  ·injection h' with h';subst h';exact ho
theorem xP {xs : List D} (h : ∀ x ∈ xs,mT x) : mT (gD xs).1:=by
 unfold gD
 split
 ·exact fR
 split
 ·exact fR
 split
 ·exact fR
 ·rename_i g1 g2 g3
  simp only [Bool.not_eq_false] at g1
  have hg : iX xs:=fun x hx=>by
   have hf:=List.all_eq_true.1 g1 x hx
   rw [pY] at hf
   have hb : mR xs x = false:=by
    cases hb : mR xs x with
    | false=>rfl
    | true=>exact absurd (List.any_eq_true.2 ⟨x,hx,hb⟩) g2
   unfold cJ at hf
   rw [if_pos (by unfold mR at hb;simp only [Bool.or_eq_false_iff,beq_eq_false_iff_ne,ne_eq] at hb;simp [hb.1.2])] at hf
   exact hf
  refine ⟨?_,by simp [j9],by simp [j9]⟩
  have hm:=(jI hg).2
  have hlen : (dS xs).length <= 16:=by simp only [decide_eq_true_eq] at g3;omega
  have hv : D.isVs (dS xs) = true:=gJ.2 fun y hy=>by
   obtain ⟨x,hx,rfl⟩:=(hm y).1 hy
   obtain ⟨k,i,s,n,l,rfl,h1,_,_⟩:=bZ (h x hx).1
   simp only [can,gX,j9,kL]
   simp [mkV,D.isV,D.isVs,aA,h1]
  simp only [mkV,aA,Bool.false_and,Bool.false_eq_true,if_false,D.isV,hv,Bool.and_true,Bool.and_eq_true,decide_eq_true_eq]
  exact ⟨by simp,by omega⟩
def lvB : Nat -> Nat
 | 0=>2
 | f + 1=>lvB f + f + 3
theorem MN : ∀ f,lvB f <= (f + 2) * (f + 2)
 | 0=>by decide
 | f + 1=>by
  have:=MN f
  have e : (f + 1 + 2) * (f + 1 + 2) = (f + 2) * (f + 2) + 2 * (f + 2) + 1:=by
   simp only [Nat.add_mul,Nat.mul_add];omega
  simp only [lvB];omega
theorem LK (f : Nat) : 1 <= lvB f:=by cases f <;> simp [lvB]
def My (m : Nat) (P : gP) : Prop:=∀ toks st r,toks.all bR = true -> P toks st = some r -> isE m r.1
theorem Fe {m : Nat} {P : gP} (hP : My m P) {toks : List D} (ht : toks.all bR = true) {bs : List (List UInt8)} (hb : ∀ w ∈ bs,w.length <= 2 ^ 47) : ∀ (f : Nat) (M : Nat) (x : D) (st : St) (r : D × St),m <= M -> isE M x -> kX toks P bs f x st = some r -> isE (M + f) r.1
 | 0,_,_,_,_,_,_,h=>by simp [kX] at h
 | f + 1,M,x,st,r,hm,hx,h=>by
  simp only [kX] at h
  split at h
  ·injection h with h;subst h;exact dH (by omega) hx
  ·split at h
   ·injection h with h;subst h;exact dH (by omega) hx
   ·rename_i w hw
    split at h
    ·cases h
    ·rename_i y st2 hy
     have:=Fe hP ht hb f (M + 1) _ st2 r (by omega) (EI (hb w (iJ hw)) hx (dH hm (hP toks _ _ ht hy))) h
     exact dH (by omega) this
theorem wV {m : Nat} {P : gP} (hP : My m P) {toks : List D} (ht : toks.all bR = true) {bs : List (List UInt8)} (hb : ∀ w ∈ bs,w.length <= 2 ^ 47) {f : Nat} {st : St} {r : D × St} (h : pA toks P bs f st = some r) : isE (m + f) r.1:=by
 unfold pA at h
 split at h
 ·cases h
 ·rename_i x st1 hx
  exact Fe hP ht hb f m x st1 r (Nat.le_refl _) (hP toks _ _ ht hx) h
theorem BU {m : Nat} {op : List UInt8} (ho : op.length <= 2 ^ 47) {z : Option (D × St)} {r : D × St} (hz : ∀ r,z = some r -> isE m r.1) (h : nK op z = some r) : isE (m + 1) r.1:=by
 cases z with
 | none=>cases h
 | some z =>
  obtain ⟨x,st⟩:=z
  simp only [nK,Option.some.injEq] at h;subst h
  exact I9 ho (hz _ rfl)
theorem Ld {toks : List D} (ht : toks.all bR = true) {f fr : Nat} {st : St} {r : D × St} (h : sP toks f fr st = some r) : isE 1 r.1:=by
 unfold sP at h
 split at h
 ·cases h
 ·rename_i out st1 hb
  have hv:=xE ht f _ _ _ (fun v hv=>by rw [List.mem_singleton] at hv;subst hv;exact rP ht st) hb
  split at h
  ·injection h with h;subst h
   exact uM (m:=0) (op:=[]) (k:=0) (i:=0) (s:=[]) (nl:=true) (l:=[]) (who:=[]) (name:=[]) (q:=true) (ps:=[]) (by simp) (by simp) (by simp) fR (by simp) (fun z hz=>by cases hz)
  ·injection h with h;subst h
   exact DI (xP hv)
theorem iE : ∀ (f : Nat) (lv : Lv),My (lvB f) (pLv f lv)
 | 0,_,_,_,_,_,h=>by cases h
 | f + 1,lv,toks,st,r,ht,h=>by
  have h1:=LK f
  cases lv with
  | expr=>exact dH (by simp only [lvB];omega) (wV (iE f .and) ht (by decide) h)
  | and=>exact dH (by simp only [lvB];omega) (wV (iE f .not) ht (by decide) h)
  | sum=>exact dH (by simp only [lvB];omega) (wV (iE f .prod) ht (by decide) h)
  | prod=>exact dH (by simp only [lvB];omega) (wV (iE f .unary) ht (by decide) h)
  | not =>
   simp only [pLv] at h
   split at h
   ·exact dH (by simp only [lvB];omega) (BU (by decide) (fun r hr=>iE f .not toks _ r ht hr) h)
   ·exact dH (by simp only [lvB];omega) (iE f .cmp toks st r ht h)
  | unary =>
   simp only [pLv] at h
   split at h
   ·exact dH (by simp only [lvB];omega) (BU (by decide) (fun r hr=>iE f .unary toks _ r ht hr) h)
   ·exact dH (by simp only [lvB];omega) (iE f .plain toks st r ht h)
  | cmp =>
   simp only [pLv] at h
   obtain ⟨z,hz⟩ : ∃ z,pLv f .sum toks st = z:=⟨_,rfl⟩
   rw [hz] at h
   cases z with
   | none=>cases h
   | some z =>
    obtain ⟨x,st1⟩:=z
    have hx:=iE f .sum toks _ _ ht hz
    simp only [z8] at h
    split at h
    ·injection h with h;subst h;exact dH (by simp only [lvB];omega) hx
    ·rename_i w hw
     split at h
     ·cases h
     ·rename_i y st2 hy
      injection h with h;subst h
      have hw : w.length <= 2 ^ 47:=by
       have : ∀ w ∈ Ec,w.length <= 2 ^ 47:=by decide
       exact this w (iJ hw)
      exact dH (by simp only [lvB];omega) (EI hw hx (iE f .sum toks _ _ ht hy))
  | inner =>
   simp only [pLv] at h
   obtain ⟨z,hz⟩ : ∃ z,pLv f .expr toks (aD toks [40] st) = z:=⟨_,rfl⟩
   rw [hz] at h
   cases z with
   | none=>cases h
   | some z =>
    obtain ⟨x,st1⟩:=z
    simp only [EE,Option.some.injEq] at h;subst h
    exact dH (by simp only [lvB];omega) (iE f .expr toks _ (x,st1) ht hz)
  | plain =>
   have up : ∀ {x : D},isE 1 x -> isE (lvB (f + 1)) x:=fun h=>dH (by simp only [lvB];omega) h
   simp only [pLv,oM] at h
   split at h
   ·injection h with h;subst h;exact up (DI (nG ht st))
   split at h
   ·injection h with h;subst h;exact up (pM (by decide) (by simp) (by simp))
   split at h
   ·exact dH (by simp only [lvB];omega) (iE f .inner toks st r ht h)
   split at h
   ·exact up (Ld ht h)
   split at h
   ·exact dH (by simp only [lvB];omega) (BU (by decide) (fun r hr=>iE f .inner toks _ r ht hr) h)
   split at h
   ·injection h with h;subst h;exact up (pM (by decide) (by simp) (qJ ht _ _).1)
   split at h
   ·injection h with h;subst h;exact up (pM (by decide) (lU ht _).1 (lU ht _).2)
   ·injection h with h;subst h;exact up (pM (by decide) (lU ht _).1 (lU ht _).2)
def aK : Nat:=lvB 10000
theorem Gb : aK <= 2 ^ 40:=by
 have:=MN 10000
 unfold aK;omega
theorem P4 {A B : Hp} {n : Bool} {xs : List D} (htk : xs.all bR = true) (hl : xs.length <= 600) (g : GE) (rest : List D) (a : Nat) (e : Int) {r : D} {a' : Nat} {e' : Int} (h : g rest xs a e = some (r,a',e')) :
  φC g (A ++ .row [aA n xs,.int .i64 (a : Nat),.int .i64 e] :: B) (.ptr A.length 0 :: rest) = some (r,A ++ .row [aA n xs,.int .i64 (a' : Nat),.int .i64 e'] :: B):=by
 have hp : A.length < (A ++ [Ob.row [aA n xs,.int .i64 (a : Nat),.int .i64 e]]).length:=by simp
 have st : ∀ c,(A ++ [Ob.row [aA n xs,.int .i64 (a : Nat),.int .i64 e]]).set A.length c = A ++ [c]:=fun c=>by
  rw [List.set_append_right _ _ (Nat.le_refl _)];simp
 have:=cV (n:=n) hp htk hl g rest a e B
 rw [h] at this
 simp only [cuR] at this
 rw [st,st] at this
 simpa using this
def gA (toks : List D) (st : St) : List UInt8 × St:=(ts (cL toks 1 st).1,(cL toks 1 st).2)
def tD : GE:=fun rest toks a e=>match rest with
 | []=>some (.str (gA toks (a,e)).1,(gA toks (a,e)).2)
 | _=>none
theorem Xa : bK Tryz.prog 72 (φC tD):=by
 have hM : cQ []:=.nil
 refine dF (l:=[]) (m:=[]) (ee:=[(120,φC j0)]) .nil .nil (.cons Fd .nil) A1f fun H p n xs a e rest r a' e' hp htk hlen h=>?_
 unfold tD at h
 split at h
 ·injection h with h
  have qa:=dC (n:=n) hp htk hlen;have qa0:=bY (n:=n) hp htk hlen;have ca:=cV (n:=n) hp htk hlen;have ca0:=cC (n:=n) hp htk hlen;have rc:=fA hp;have rc0:=cU hp;have sc:=fun K : D -> S -> Prop=>fM (K:=K) hp;have sc0:=fun K : D -> S -> Prop=>d9 (K:=K) hp
  obtain ⟨k0,s0,n0,e0,_⟩:=wA htk 1 (a,e)
  obtain ⟨v,⟨a1,e1⟩,hy⟩ : ∃ v st,cL xs 1 (a,e) = (v,st):=⟨_,_,rfl⟩
  rw [hy] at e0
  simp only at e0
  subst e0
  have h1 : j0 [.int .i64 1] xs a e = some (mkT k0 s0 n0,a1,e1):=by simp only [j0,hy];rfl
  have f : gA xs (a,e) = (s0,a1,e1):=by simp only [gA,hy,kU]
  rw [f] at h
  injection h with g1 g2;injection g2 with g2 g3
  subst g1;subst g2;subst g3
  simp only [mkT] at h1
  refine ⟨by simp,by simp [D.cl],fun T=>?_⟩
  simp +contextual only [qa,qa0,ca,ca0,rc,rc0,sc,sc0,c72,h1,go_sem]
  all_goals ((repeat' (first | apply And.intro | intro _)) <;> (first | omega | exact lvM))
 ·cases h
def lH (toks : List D) (st : St) : Option (D × St):=match pLv 10000 .expr toks st with
 | none=>none
 | some (x,st1)=>some (x,if (st1.2 == 0) && decide (12 < dpt aK x) then bO st.1 11 st1 else st1)
def mU : GE:=fun rest toks a e=>match rest with
 | []=>lH toks (a,e)
 | _=>none
set_option maxHeartbeats 2000000 in
theorem Pv : bK Tryz.prog 122 (φC mU):=by
 have hM : cQ []:=.nil
 refine dF (l:=[(26,jC aK)]) (m:=[]) (ee:=[(49,φC (gOf (pLv 10000 .expr))),(105,φC jE)]) (.cons (Vb aK Gb) .nil) .nil (.cons (Sc 10000 (by omega)).1 (.cons yV .nil)) Wc fun H p n xs a e rest r a' e' hp htk hlen h=>?_
 unfold mU at h
 split at h
 ·have qa:=dC (n:=n) hp htk hlen;have qa0:=bY (n:=n) hp htk hlen;have ca:=cV (n:=n) hp htk hlen;have ca0:=cC (n:=n) hp htk hlen;have rc:=fA hp;have rc0:=cU hp;have sc:=fun K : D -> S -> Prop=>fM (K:=K) hp;have sc0:=fun K : D -> S -> Prop=>d9 (K:=K) hp
  unfold lH at h
  split at h
  ·cases h
  ·rename_i x st1 hz
   obtain ⟨a1,e1⟩:=st1
   have hx8:=bX 10000 .expr xs (a,e) _ htk hz
   have hxE : isE aK x:=iE 10000 .expr xs (a,e) _ htk hz
   have h1 : gOf (pLv 10000 .expr) [] xs a e = some (x,a1,e1):=hz
   have pd : jC aK [x] = some (.int .i64 ((dpt aK x : Nat) : Int)):=by simp only [jC];rw [if_pos hxE]
   have hf : jE [.int .i64 (a : Nat),.int .i64 11] xs a1 e1 = some (.tup [],bO a 11 (a1,e1)):=Gd a 11 xs a1 e1
   simp only at hx8
   have ee:=hx8.2.1
   have hcl:=hx8.2.2
   obtain ⟨b0,b1,b2,b3,b4,b5,b6,b7,rfl⟩:=hx8.1
   injection h with h
   injection h with g1 g2
   subst g1
   refine ⟨by simp,hcl,fun T=>?_⟩
   obtain ⟨dp,hdp⟩ : ∃ z,dpt aK (.agg [b0,b1,b2,b3,b4,b5,b6,b7]) = z:=⟨_,rfl⟩
   rw [hdp] at pd g2
   rcases tf (e1 == 0) with g | g
   ·rcases tf (decide ((12 : Int) < (dp : Nat))) with d | d
    ·have d' : decide (12 < dp) = true:=by simp only [decide_eq_true_eq] at d ⊢;omega
     simp only [g,d',Bool.and_self,if_true] at g2
     rw [g2] at hf
     simp +contextual only [qa,qa0,ca,ca0,rc,rc0,sc,sc0,OU,h1,pd,hf,g,d,ee,cH hM,go_sem]
     refine aL ?_ ⟨_,rfl⟩ ⟨[],by simp⟩
     simp only [D.erase,D.eraseL] at ee ⊢
     rw [ee]
    ·have d' : decide (12 < dp) = false:=by simp only [decide_eq_false_iff_not] at d ⊢;omega
     simp only [g,d',Bool.and_false,Bool.false_eq_true,if_false] at g2
     injection g2 with g2 g3;subst g2;subst g3
     simp +contextual only [qa,qa0,ca,ca0,rc,rc0,sc,sc0,OU,h1,pd,g,d,ee,cH hM,go_sem]
     refine aL ?_ ⟨_,rfl⟩ ⟨[],by simp⟩
     simp only [D.erase,D.eraseL] at ee ⊢
     rw [ee]
   ·simp only [g,Bool.false_and,Bool.false_eq_true,if_false] at g2
    injection g2 with g2 g3;subst g2;subst g3
    simp +contextual only [qa,qa0,ca,ca0,rc,rc0,sc,sc0,OU,h1,g,ee,go_sem]
    refine aL ?_ ⟨_,rfl⟩ ⟨[],by simp⟩
    simp only [D.erase,D.eraseL] at ee ⊢
    rw [ee]
 ·cases h
def oA : List UInt8:=[116,114,117,116,104]
def lV : List UInt8:=[110,117,109,98,101,114]
def uJ : List UInt8:=[116,101,120,116]
def u9 : List UInt8:=[116,105,109,101]
def DC : List UInt8:=[98,97,103]
def p7 : List (List UInt8):=[oA,lV,uJ,u9]
def iQ (k : List UInt8) : Int:=if k == oA then 1 else if k == lV then 2 else if k == uJ then 3 else if k == u9 then 4 else 0
def kQ (toks : List D) (s : List UInt8) (st : St) : Bool × St:=if isP toks st s then (true,(st.1 + 1,st.2)) else (false,st)
theorem oO (toks : List D) (s : List UInt8) (a : Nat) (e : Int) : cR [.str s] toks a e = some (.bool (kQ toks s (a,e)).1,(kQ toks s (a,e)).2):=by
 simp only [cR,kQ];split <;> rfl
def pN (toks : List D) (st : St) : D × St :=
 let A:=bU toks st
 let K:=dT toks p7 A.2.2
 let B:=kQ toks DC K.2
 (.agg [.str A.1,.str A.2.1,.int .i64 (iQ K.1),.bool B.1],aD toks [59] B.2)
def FY : GE:=fun rest toks a e=>match rest with
 | []=>some (pN toks (a,e))
 | _=>none
set_option maxHeartbeats 2000000 in
theorem A0F : bK Tryz.prog 70 (φC FY):=by
 have hM : cQ []:=.nil
 refine dF (l:=[]) (m:=[]) (ee:=[(118,φC tJ),(119,φC zV),(69,φC cR),(71,φC bV)]) .nil .nil (.cons PZ (.cons NS (.cons xN (.cons G3 .nil)))) ZL fun H p n xs a e rest r a' e' hp htk hlen h=>?_
 unfold FY at h
 split at h
 ·injection h with h
  have qa:=dC (n:=n) hp htk hlen;have qa0:=bY (n:=n) hp htk hlen;have ca:=cV (n:=n) hp htk hlen;have ca0:=cC (n:=n) hp htk hlen;have rc:=fA hp;have rc0:=cU hp;have sc:=fun K : D -> S -> Prop=>fM (K:=K) hp;have sc0:=fun K : D -> S -> Prop=>d9 (K:=K) hp
  obtain ⟨w1,w2,⟨a1,e1⟩,hy1⟩ : ∃ w1 w2 st1,bU xs (a,e) = (w1,w2,st1):=⟨_,_,_,rfl⟩
  obtain ⟨k,⟨a2,e2⟩,hy2⟩ : ∃ k st2,dT xs p7 (a1,e1) = (k,st2):=⟨_,_,rfl⟩
  obtain ⟨b,⟨a3,e3⟩,hy3⟩ : ∃ b st3,kQ xs DC (a2,e2) = (b,st3):=⟨_,_,rfl⟩
  obtain ⟨⟨a4,e4⟩,hy4⟩ : ∃ st4,aD xs [59] (a3,e3) = st4:=⟨_,rfl⟩
  have f : pN xs (a,e) = (.agg [.str w1,.str w2,.int .i64 (iQ k),.bool b],a4,e4):=by
   simp only [pN,hy1,hy2,hy3,hy4]
  rw [f] at h
  injection h with g1 g2;injection g2 with g2 g3
  subst g1;subst g2;subst g3
  have h1 : tJ [] xs a e = some (.tup [.str w1,.str w2],a1,e1):=by simp only [tJ,hy1]
  have h2 : zV [.sl none [.str [116,114,117,116,104],.str [110,117,109,98,101,114],.str [116,101,120,116],.str [116,105,109,101]]] xs a1 e1 = some (.str k,a2,e2):=by
   have : zV [.sl none [.str [116,114,117,116,104],.str [110,117,109,98,101,114],.str [116,101,120,116],.str [116,105,109,101]]] xs a1 e1 = some (.str (dT xs p7 (a1,e1)).1,(dT xs p7 (a1,e1)).2):=rfl
   rw [this,hy2]
  have h3 : cR [.str [98,97,103]] xs a2 e2 = some (.bool b,a3,e3):=by
   rw [oO];rw [show kQ xs [98,97,103] (a2,e2) = (b,(a3,e3)) from hy3]
  have h4 : bV [.str [59]] xs a3 e3 = some (.tup [],a4,e4):=by simp only [bV,hy4]
  refine ⟨by simp,by simp [D.cl,D.clL],fun T=>?_⟩
  rcases tf (k == [116,114,117,116,104]) with k1 | k1
  ·have kk : iQ k = 1:=by simp only [iQ,oA,lV,uJ,u9,k1,Bool.false_eq_true,if_false,if_true]
   rw [kk]
   simp +contextual only [qa,qa0,ca,ca0,rc,rc0,sc,sc0,c70,h1,h2,h3,h4,k1,go_sem]
   all_goals ((repeat' (first | apply And.intro | intro _)) <;> (first | omega | exact lvM))
  rcases tf (k == [110,117,109,98,101,114]) with k2 | k2
  ·have kk : iQ k = 2:=by simp only [iQ,oA,lV,uJ,u9,k1,k2,Bool.false_eq_true,if_false,if_true]
   rw [kk]
   simp +contextual only [qa,qa0,ca,ca0,rc,rc0,sc,sc0,c70,h1,h2,h3,h4,k1,k2,go_sem]
   all_goals ((repeat' (first | apply And.intro | intro _)) <;> (first | omega | exact lvM))
  rcases tf (k == [116,101,120,116]) with k3 | k3
  ·have kk : iQ k = 3:=by simp only [iQ,oA,lV,uJ,u9,k1,k2,k3,Bool.false_eq_true,if_false,if_true]
   rw [kk]
   simp +contextual only [qa,qa0,ca,ca0,rc,rc0,sc,sc0,c70,h1,h2,h3,h4,k1,k2,k3,go_sem]
   all_goals ((repeat' (first | apply And.intro | intro _)) <;> (first | omega | exact lvM))
  rcases tf (k == [116,105,109,101]) with k4 | k4
  ·have kk : iQ k = 4:=by simp only [iQ,oA,lV,uJ,u9,k1,k2,k3,k4,Bool.false_eq_true,if_false,if_true]
   rw [kk]
   simp +contextual only [qa,qa0,ca,ca0,rc,rc0,sc,sc0,c70,h1,h2,h3,h4,k1,k2,k3,k4,go_sem]
   all_goals ((repeat' (first | apply And.intro | intro _)) <;> (first | omega | exact lvM))
  ·have kk : iQ k = 0:=by simp only [iQ,oA,lV,uJ,u9,k1,k2,k3,k4,Bool.false_eq_true,if_false,if_true]
   rw [kk]
   simp +contextual only [qa,qa0,ca,ca0,rc,rc0,sc,sc0,c70,h1,h2,h3,h4,k1,k2,k3,k4,go_sem]
   all_goals ((repeat' (first | apply And.intro | intro _)) <;> (first | omega | exact lvM))
 ·cases h
def xK (sz : Nat) (T : Tk) (i : Option Nat) (xs : List D) (d : D) (T' : Tk) : Prop:=match i with
 | none=>xs = [] /\ d = .nils
 | some i=>xs ≠ [] /\ T.length <= i /\ d = .sl (some i) xs /\ T'[i]? = some (some (xs.length,sz))
theorem qQ {sz bytes : Nat} {K : D -> S -> Prop} {t : Nat -> D} {H : Hp} {T T' : Tk} {i : Option Nat} {xs : List D} {d : D} (x : D) (h : xK sz T i xs d T') (hE : bQ T T') (hx : fit sz x = true) (hxs : xs.all (fit sz) = true) (hb : (xs.length + 1) * bytes <= 2 ^ 47) (hb2 : xs.length + 1 < 2 ^ 62)
  (k : ∀ d2 T2 i2,xK sz T (some i2) (xs ++ [x]) d2 T2 -> bQ T T2 -> (∀ j,some j ≠ i -> j < T'.length -> T2[j]? = T'[j]?) -> (T'.length <= i2 ∨ some i2 = i) -> K d2 ⟨t,H,T2⟩) : mB sz bytes K ⟨t,H,T'⟩ d (some [x]):=by
 obtain ⟨L,rfl⟩:=hE
 cases i with
 | none =>
  obtain ⟨rfl,rfl⟩:=h
  rw [tS]
  refine ⟨by simp [hx],by simpa using hb,by simp,k _ _ (T ++ L).length ⟨by simp,by simp,rfl,by simp⟩ ⟨L ++ [some (1,sz)],by simp⟩ (fun j _ hj=>?_) (.inl (Nat.le_refl _))⟩
  rw [List.getElem?_append_left hj]
 | some i =>
  obtain ⟨h0,h1,rfl,h3⟩:=h
  have hi : i < (T ++ L).length:=rB h3
  simp only [mB]
  refine ⟨by simp [hx],h3,by simpa using hb,by simpa using hb2,hxs,k _ _ i ⟨by simp,h1,rfl,?_⟩ ?_ (fun j hj hjl=>?_) (.inr rfl)⟩
  ·rw [List.getElem?_set_self hi];simp
  ·refine ⟨L.set (i - T.length) (some (xs.length + [x].length,sz)),?_⟩
   rw [List.set_append_right _ _ h1]
  ·have hne : i ≠ j:=fun e=>hj (by rw [e])
   rw [List.getElem?_set_ne hne]
theorem xU {sz : Nat} {T T' T2 : Tk} {i : Option Nat} {xs : List D} {d : D} (h : xK sz T i xs d T') (hk : ∀ j,i = some j -> T2[j]? = T'[j]?) : xK sz T i xs d T2:=by
 cases i with
 | none=>exact h
 | some i=>exact ⟨h.1,h.2.1,h.2.2.1,by rw [hk i rfl];exact h.2.2.2⟩
theorem rW {sz : Nat} {T T' : Tk} {i : Nat} {xs : List D} {d : D} (h : xK sz T (some i) xs d T') : i < T'.length:=rB h.2.2.2
theorem iG {sz : Nat} {T T' : Tk} {i : Option Nat} {xs : List D} {d : D} (h : xK sz T i xs d T') (he : D.eraseL xs = xs) : d.erase = aA true xs:=by
 cases i with
 | none=>obtain ⟨rfl,rfl⟩:=h;rfl
 | some i =>
  obtain ⟨h0,_,rfl,_⟩:=h
  have : xs.isEmpty = false:=by cases xs with
   | nil=>exact (h0 rfl).elim
   | cons=>rfl
  simp [aA,this,D.erase,he]
theorem Bz {sz : Nat} {T T' : Tk} {i : Option Nat} {xs : List D} {d : D} (h : xK sz T i xs d T') : dZ d = some xs.length:=by
 cases i with
 | none=>obtain ⟨rfl,rfl⟩:=h;rfl
 | some i=>obtain ⟨_,_,rfl,_⟩:=h;rfl
def MI : List UInt8:=[100,117,116,121]
def Dr : List UInt8:=[97,100,118,105,99,101]
def jD (toks : List D) : Nat -> List (List UInt8) -> List (List UInt8) -> St -> Option (List (List UInt8) × List (List UInt8) × St)
 | 0,_,_,_=>none
 | f + 1,du,ad,st=>if st.2 != 0 then some (du,ad,st) else
  if isP toks st MI then jD toks f (du ++ [ts (cL toks 3 (st.1 + 1,st.2)).1]) ad (cL toks 3 (st.1 + 1,st.2)).2 else
  if isP toks st Dr then jD toks f du (ad ++ [ts (cL toks 3 (st.1 + 1,st.2)).1]) (cL toks 3 (st.1 + 1,st.2)).2 else
  some (du,ad,aD toks [59] st)
end GP
