import Derived.Test.YtainhmbnbgonhaaGreatDoorProg
import Derived.Test.YtainhmbnbgonhaaGreatDoorM5
import Derived.Test.YtainhmbnbgonhaaGreatDoorM9
import Derived.Test.YtainhmbnbgonhaaGreatDoorM13
import Derived.Test.YtainhmbnbgonhaaGreatDoorM15
import Derived.Test.YtainhmbnbgonhaaGreatDoorM17
set_option linter.unusedSimpArgs false
set_option linter.unnecessarySimpa false
namespace GP
open Go Go.Proofs
set_option maxRecDepth 100000
def iL : List (List UInt8):=[[100,101,110,121,95,111,118,101,114,114,105,100,101,115],[112,101,114,109,105,116,95,111,118,101,114,114,105,100,101,115],[102,105,114,115,116],[111,110,108,121,95,111,110,101],[100,101,110,121,95,117,110,108,101,115,115,95,112,101,114,109,105,116],[112,101,114,109,105,116,95,117,110,108,101,115,115,95,100,101,110,121]]
def jT : List D -> Option D
 | []=>some (.sl none (iL.map .str))
 | _=>none
theorem Xf : aO Tryz.prog 98 jT:=by
 refine aG (l:=[]) .nil Zh fun args r h=>?_
 unfold jT at h
 split at h
 ·injection h with h;subst h
  refine ⟨by simp,by simp [D.cl,D.clL,iL],fun H T=>?_⟩
  simp +contextual only [c98,iL,go_sem]
 ·cases h
def kN (s : List UInt8) : Bool:=iL.any fun x=>s == x
theorem Ra (s : List UInt8) : gR [.sl none (iL.map .str),.str s] = some (.bool (kN s)):=by
 have hL : zM Jo (.sl none (iL.map D.str)):=⟨false,iL.map D.str,rfl,by decide,fun x hx=>by
  obtain ⟨y,hy,rfl⟩:=List.mem_map.1 hx
  have key : ∀ y ∈ iL,y.length <= 2 ^ 47:=by decide
  exact ⟨y,rfl,key y hy⟩⟩
 simp only [gR]
 rw [if_pos hL]
 have e : elems (D.sl none (iL.map D.str)) = iL.map D.str:=rfl
 rw [e,List.any_map]
 rfl
def mN (ps : List D) : Nat:=(ps.map fun p=>(pRs p).length).sum
def B8 (d : D) : Int:=if !(kN (dUs d) && (dPs d).all fun p=>kN (pUs p)) then 8 else if decide (24 < (mN (dPs d) : Int)) then 13 else 0
open Classical in
noncomputable def BX : List D -> Option D
 | [d]=>if ckD2 d then some (.int .i64 (B8 d)) else none
 | _=>none
theorem IM {ps : List D} (h : ∀ p ∈ ps,(pRs p).length <= 2 ^ 20) : ∀ i,mN (ps.take i) <= i * 1048576:=by
 intro i
 induction ps generalizing i with
 | nil=>simp [mN]
 | cons p ps ih =>
  cases i with
  | zero=>simp [mN]
  | succ i =>
   have h1:=ih (fun q hq=>h q (by simp [hq])) i
   have h2:=h p (by simp)
   have : mN ((p :: ps).take (i + 1)) = (pRs p).length + mN (ps.take i):=by simp [mN]
   rw [this];omega
set_option maxHeartbeats 8000000 in
theorem UC : aO Tryz.prog 154 BX:=by
 have hX:=aI [(98,jT),(47,gR)]
 refine aG (l:=[(98,jT),(47,gR)]) (.cons Xf (.cons M3 .nil)) XC fun args r h=>?_
 unfold BX at h
 split at h
 ·rename_i d
  split at h
  ·rename_i hd
   injection h with h;subst h
   refine ⟨by simp,by simp [D.cl],fun H T=>?_⟩
   obtain ⟨hs,h1,h2,h3⟩:=hd
   have ed:=dX hs
   obtain ⟨m,fs,us,m',ps,rfl,k1,k2,k3,k4,k5⟩:=hs
   simp only [mQ,mZ] at h1 h2 h3
   simp only [B8,DJ,mZ]
   simp only [dA] at ed
   have pu : jT [] = some (.sl none (iL.map .str)):=rfl
   have pc:=Ra
   have eU : (D.sl none (iL.map .str)).erase = .sl none (iL.map .str):=by simp [iL,D.erase,D.eraseL]
   obtain ⟨UL,hUL⟩ : ∃ z,D.sl none (iL.map .str) = z:=⟨_,rfl⟩
   rw [hUL] at pu
   simp only [hUL] at pc eU
   simp +contextual only [Xg,dA,ed,pu,eU,pc us,go_sem]
   refine jG ps (fun i s=>s.t 12 = aA m' ps /\ s.t 13 = .int .i64 (ps.length : Int) /\ s.t 14 = .int .i64 (i : Int) /\ s.t 4 = .bool (kN us && (ps.take i).all fun p=>kN (pUs p)) /\ s.t 3 = .int .i64 (mN (ps.take i) : Int) /\ Ext H s.H /\ s.T = T) hX ⟨by simp [upd],by simp [upd],by simp [upd],by simp [upd],by simp [upd,mN],⟨_,rfl⟩,rfl⟩ ?_ ?_
   ·rintro i x ⟨t,B,U⟩ hx hm hi ⟨t12,t13,t14,t4,t3,hE,rfl⟩
    simp only at t12 t13 t14 t4 t3 hE
    have d1 : decide ((i : Int) < ps.length) = true:=by simpa using hi
    have hr:=h3 x hm
    have hs:=IM h3 i
    have tk : ps.take (i + 1) = ps.take i ++ [x]:=by rw [List.take_add_one,hx];rfl
    have ts : mN (ps.take (i + 1)) = mN (ps.take i) + (pRs x).length:=by rw [tk];simp [mN]
    have ta : (ps.take (i + 1)).all (fun p=>kN (pUs p)) = ((ps.take i).all (fun p=>kN (pUs p)) && kN (pUs x)):=by rw [tk];simp
    rw [ts,ta,← Bool.and_assoc]
    clear tk ts ta
    obtain ⟨S,hS⟩ : ∃ z,mN (ps.take i) = z:=⟨_,rfl⟩
    obtain ⟨b,hb⟩ : ∃ z,(kN us && (ps.take i).all fun p=>kN (pUs p)) = z:=⟨_,rfl⟩
    rw [hS] at hs t3 ⊢
    rw [hb] at t4 ⊢
    obtain ⟨nm,bn,us',hf,e,mm,rs,rfl,he,l1,l2,l3,l4,l5⟩:=k5 x hm
    rw [lK] at hr ⊢
    rw [Dw]
    have w2 : IntKind.i64.wrap ((S : Int) + rs.length) = ((S + rs.length : Nat) : Int):=by rw [<- Int.natCast_add];exact wI (by omega) (by omega)
    cases b with
    | true =>
     simp +contextual only [t12,t13,t14,t4,t3,d1,hx,mkP,pu,eU,pc us',aH i (by omega),w2,go_sem]
     exact hE.app _
    | false =>
     simp +contextual only [t12,t13,t14,t4,t3,d1,hx,mkP,pu,eU,pc us',aH i (by omega),w2,go_sem]
     exact hE.app _
   ·rintro ⟨t,B,U⟩ ⟨t12,t13,t14,t4,t3,hE,rfl⟩
    simp only at t12 t13 t14 t4 t3 hE
    have d1 : decide ((ps.length : Int) < ps.length) = false:=by simp
    rw [List.take_length] at t4 t3
    obtain ⟨b,hb⟩ : ∃ z,(kN us && ps.all fun p=>kN (pUs p)) = z:=⟨_,rfl⟩
    rw [hb] at t4 ⊢
    cases b with
    | false=>simp +contextual only [t12,t13,t14,t4,t3,d1,Bool.not_false,b8 hE (bQ.refl _),go_sem]
    | true =>
     rcases tf (decide (24 < (mN ps : Int))) with g | g <;> simp +contextual only [t12,t13,t14,t4,t3,d1,Bool.not_true,g,b8 hE (bQ.refl _),go_sem]
  ·cases h
 ·cases h
def fW (fs : List D) (h : Bool) (e : D) : Int:=if !h then 0 else if ((j4 aK fs e).2 == 0) && ((j4 aK fs e).1 != 1) then 6 else (j4 aK fs e).2
open Classical in
noncomputable def v9 : List D -> Option D
 | [d,.bool h,e]=>if kI aK d /\ isE aK e then some (.int .i64 (fW (dFs d) h e)) else none
 | _=>none
set_option maxHeartbeats 4000000 in
theorem U1 : aO Tryz.prog 155 v9:=by
 refine aG (l:=[(97,p6 aK)]) (.cons (RH aK) .nil) Ty fun args r h=>?_
 unfold v9 at h
 split at h
 ·rename_i d hb e
  split at h
  ·rename_i hc
   injection h with h;subst h
   refine ⟨by simp,by simp [D.cl],fun H T=>?_⟩
   obtain ⟨hd,he⟩:=hc
   have ed:=dX hd
   have ee:=bW he
   obtain ⟨c1,c2,c3,c4⟩:=fT he
   obtain ⟨m,fs,us,m',ps,rfl,k1,k2,k3,k4,k5⟩:=hd
   simp only [mQ]
   simp only [dA] at ed
   have ef : (aA m fs).erase = aA m fs:=by rw [bE,bB fun x h=>fQ (k4 x h)]
   have pt : p6 aK [aA m fs,e] = some (dE (j4 aK fs e)):=by
    simp only [p6];rw [if_pos ⟨⟨m,fs,rfl,k1,k4⟩,he⟩,aQ]
   unfold fW
   obtain ⟨⟨a,f⟩,htx⟩ : ∃ z,j4 aK fs e = z:=⟨_,rfl⟩
   rw [htx] at pt ⊢
   cases hb with
   | false=>simp +contextual only [O7,dA,ed,ee,c1,c2,c3,c4,Bool.not_false,go_sem]
   | true =>
    rcases tf (f == 0) with g | g
    ·rcases tf (a != 1) with g2 | g2 <;> simp +contextual only [O7,dA,ed,ef,ee,c1,c2,c3,c4,pt,dE,g,g2,Bool.not_true,Bool.and_true,Bool.true_and,Bool.and_false,go_sem]
    ·simp +contextual only [O7,dA,ed,ef,ee,c1,c2,c3,c4,pt,dE,g,Bool.not_true,Bool.false_and,go_sem]
  ·cases h
 ·cases h
end GP
namespace GP
open Go Go.Proofs
set_option maxRecDepth 100000
def part (e : D) (i : Nat) : D:=(eps e).getD i .top
theorem GO {n : Nat} {e : D} (he : isE (n + 1) e) {i : Nat} (hi : i < (eps e).length) : isE n (part e i) /\ part e i ∈ eps e:=by
 obtain ⟨op,k,j,t,nl,l,who,name,m,ps,rfl,_,_,_,_,_,h6⟩:=he
 rw [lR] at hi
 have e1 : part (mkE op k j t nl l who name m ps) i = ps[i]:=by simp [part,lR,hi]
 rw [e1,lR]
 exact ⟨h6 _ (List.getElem_mem hi),List.getElem_mem hi⟩
def Qu (v : D) : Bool:=cJ v && (vk v != 0) && !((vk v == 5) && (((vl v).length : Int) == 0))
def mkW (op : List UInt8) (a b t : Int) : D:=.agg [.str op,.int .i64 a,.int .i64 b,.int .i64 t]
def wa : D -> Int
 | .agg [_,.int _ k,_,_]=>k
 | _=>0
def wb : D -> Int
 | .agg [_,_,.int _ k,_]=>k
 | _=>0
def wt : D -> Int
 | .agg [_,_,_,.int _ k]=>k
 | _=>0
def sZ : List (List UInt8 × Int × Int × Int):=[
 ([110,111,116],1,0,1),([110,101,103],2,0,2),([97,110,100],1,1,1),([111,114],1,1,1),([43],2,2,2),([45],2,2,2),([42],2,2,2),([43],4,2,4),([45],4,2,4),([45],4,4,2),
 ([115,105,122,101],11,0,2),([105,110],1,11,1),([61,61],1,1,1),([33,61],1,1,1),([61,61],11,11,1),([33,61],11,11,1),
 ([115,105,122,101],12,0,2),([105,110],2,12,1),([61,61],2,2,1),([33,61],2,2,1),([61,61],12,12,1),([33,61],12,12,1),
 ([115,105,122,101],13,0,2),([105,110],3,13,1),([61,61],3,3,1),([33,61],3,3,1),([61,61],13,13,1),([33,61],13,13,1),
 ([115,105,122,101],14,0,2),([105,110],4,14,1),([61,61],4,4,1),([33,61],4,4,1),([61,61],14,14,1),([33,61],14,14,1),
 ([60],2,2,1),([60,61],2,2,1),([62],2,2,1),([62,61],2,2,1),
 ([60],3,3,1),([60,61],3,3,1),([62],3,3,1),([62,61],3,3,1),
 ([60],4,4,1),([60,61],4,4,1),([62],4,4,1),([62,61],4,4,1)]
def ofW (w : List UInt8 × Int × Int × Int) : D:=mkW w.1 w.2.1 w.2.2.1 w.2.2.2
def jH : List D:=sZ.map ofW
theorem j6 : jH.length = 46:=rfl
theorem BV {j : Nat} (h : j < 46) : ∃ op a b t,jH[j]? = some (mkW op a b t):=by
 refine ⟨(sZ[j]'h).1,(sZ[j]'h).2.1,(sZ[j]'h).2.2.1,(sZ[j]'h).2.2.2,?_⟩
 simp only [jH,List.getElem?_map]
 rw [List.getElem?_eq_getElem h];rfl
theorem A2p : D.eraseL jH = jH:=rfl
def Ev (op : List UInt8) : Int:=if qC.any (op == ·) then 0 else match jH.find? (fun w=>eop w == op) with
 | some w=>if decide (0 < wb w) then 2 else 1
 | none=>-1
theorem Md : ∀ w ∈ sZ,w.1 ∈ pJ ++ qW:=by decide
theorem JN (p : D -> Bool) : jH.find? p = (sZ.find? (fun w=>p (ofW w))).map ofW:=by
 unfold jH;rw [List.find?_map];rfl
def PO (op : List UInt8) : Int:=if qC.any (op == ·) then 0 else match sZ.find? (fun w=>w.1 == op) with
 | some w=>if decide (0 < w.2.2.1) then 2 else 1
 | none=>-1
theorem RU (op : List UInt8) : Ev op = PO op:=by
 unfold Ev PO
 rw [JN]
 have : (fun w=>eop (ofW w) == op) = (fun w : List UInt8 × Int × Int × Int=>w.1 == op):=rfl
 rw [this]
 cases sZ.find? (fun w=>w.1 == op) <;> rfl
theorem PK : ∀ op ∈ pJ ++ qW,PO op = bP op:=by decide
theorem HD (op : List UInt8) : Ev op = bP op:=by
 rw [RU]
 by_cases h : op ∈ pJ ++ qW
 ·exact PK op h
 ·have h1 : pJ.any (op == ·) = false:=by
   rw [List.any_eq_false];intro x hx hc
   have : op = x:=by simpa using hc
   exact h (List.mem_append.2 (.inl (this ▸ hx)))
  have h2 : qW.any (op == ·) = false:=by
   rw [List.any_eq_false];intro x hx hc
   have : op = x:=by simpa using hc
   exact h (List.mem_append.2 (.inr (this ▸ hx)))
  have h3 : sZ.find? (fun w=>w.1 == op) = none:=by
   rw [List.find?_eq_none];intro w hw hc
   have : w.1 = op:=by simpa using hc
   exact h (this ▸ Md w hw)
  unfold PO bP
  rw [h1,h2,h3];rfl
def Ee (op : List UInt8) (a b : Int) (w : D) : Bool:=(eop w == op) && (wa w == a) && (wb w == b)
def sN (op : List UInt8) (a b : Int) : Int × Int:=match jH.find? (Ee op a b) with
 | some w=>(wt w,0)
 | none=>(0,6)
def tF (f : D) : Int:=if RC f then IntKind.i64.wrap (oW f + 10) else oW f
def zC (f : D) : Int:=if (oW f == 0) && !(RC f) then 8 else 0
def Df (who name : List UInt8) (f : D) : Bool:=(FN f == who) && (yR f == name)
def Jy (fs : List D) (who name : List UInt8) : Int × Int:=match fs.find? (Df who name) with
 | some f=>if tF f == 0 then (0,8) else (tF f,0)
 | none=>(0,8)
def Je (fs : List D) (who name : List UInt8) : Int × Int:=match fs.find? (Df who name) with
 | some f=>(1,zC f)
 | none=>(0,8)
def RW (v : D) : Int:=if vk v == 5 then IntKind.i64.wrap (10 + vk0 (vl v)) else vk v
def yZ (fs : List D) (e : D) : Int × Int :=
 if eop e == iZ then (4,0) else if eop e == dK then (1,0) else
 if eop e == fU then (if Qu (eV e) then (RW (eV e),0) else (0,2)) else
 if eop e == i8 then Je fs (lP e) (fB e) else Jy fs (lP e) (fB e)
def lt0 (n : Int) : Bool:=decide (n < 0)
def sK : Nat -> List D -> D -> Int × Int
 | 0,_,_=>(0,2)
 | n + 1,fs,e =>
  if lt0 (bP (eop e)) || (((eps e).length : Int) != bP (eop e)) then (0,2) else
  if bP (eop e) == 0 then yZ fs e else
  if (sK n fs (part e 0)).2 != 0 then (0,(sK n fs (part e 0)).2) else
  if bP (eop e) == 2 then
   if (sK n fs (part e 1)).2 != 0 then (0,(sK n fs (part e 1)).2) else
   sN (eop e) (sK n fs (part e 0)).1 (sK n fs (part e 1)).1
  else sN (eop e) (sK n fs (part e 0)).1 0
open Classical in
noncomputable def BI : List D -> Option D
 | [f]=>if isF f then some (.int .i64 (zC f)) else none
 | _=>none
theorem X0 : aO Tryz.prog 212 BI:=by
 refine aG (l:=[]) .nil VA fun args r h=>?_
 unfold BI at h
 split at h
 ·rename_i f
  split at h
  ·rename_i hf
   injection h with h;subst h
   refine ⟨by simp,by simp [D.cl],fun H T=>?_⟩
   obtain ⟨who,name,kind,bag,rfl,_⟩:=hf
   have e : zC (mkF who name kind bag) = if (kind == 0) && !bag then 8 else 0:=rfl
   rw [e]
   simp only [mkF]
   rcases tf (kind == 0) with h1 | h1
   ·cases bag <;> simp only [h1] <;> simp +contextual only [QY,h1,go_sem]
   ·simp only [h1];simp +contextual only [QY,h1,go_sem]
  ·cases h
 ·cases h
def xO : List D -> Option D
 | []=>some (.sl none jH)
 | _=>none
theorem OQ : (D.sl none jH).cl 0 0 = true:=by decide
set_option maxHeartbeats 8000000 in
theorem Pg : aO Tryz.prog 195 xO:=by
 refine aG (l:=[]) .nil UZ fun args r h=>?_
 unfold xO at h
 split at h
 ·injection h with h;subst h
  refine ⟨by simp,OQ,fun H T=>?_⟩
  have w2 : IntKind.i64.wrap 2 = 2:=by decide
  have w3 : IntKind.i64.wrap 3 = 3:=by decide
  have w4 : IntKind.i64.wrap 4 = 4:=by decide
  have w5 : IntKind.i64.wrap 5 = 5:=by decide
  have w6 : IntKind.i64.wrap 6 = 6:=by decide
  have w7 : IntKind.i64.wrap 7 = 7:=by decide
  have w8 : IntKind.i64.wrap 8 = 8:=by decide
  have w9 : IntKind.i64.wrap 9 = 9:=by decide
  have w10 : IntKind.i64.wrap 10 = 10:=by decide
  have w11 : IntKind.i64.wrap 11 = 11:=by decide
  have w12 : IntKind.i64.wrap 12 = 12:=by decide
  have w13 : IntKind.i64.wrap 13 = 13:=by decide
  have w14 : IntKind.i64.wrap 14 = 14:=by decide
  simp +contextual only [VR,go_sem]
  refine wK 5 ?_ (aI _)
  simp +contextual only [wO,List.set_cons_zero,List.set_cons_succ,pU,CQ,Nat.reducePow,Int.reduceAdd,w2,w3,w4,w5,w6,w7,w8,w9,w10,w11,w12,w13,w14,go_sem]
  refine wK 4 ?_ (aI _)
  simp +contextual only [wO,List.set_cons_zero,List.set_cons_succ,pU,CQ,Nat.reducePow,Int.reduceAdd,w2,w3,w4,w5,w6,w7,w8,w9,w10,w11,w12,w13,w14,go_sem]
  rfl
 ·cases h
def A9 : List D -> Option D
 | [.str op]=>some (.int .i64 (bP op))
 | _=>none
set_option maxHeartbeats 4000000 in
theorem US : aO Tryz.prog 193 A9:=by
 refine aG (l:=[(195,xO)]) (.cons Pg .nil) Th fun args r h=>?_
 unfold A9 at h
 split at h
 ·rename_i op
  injection h with h;subst h
  refine ⟨by simp,by simp [D.cl],fun H T=>?_⟩
  have pw : xO [] = some (.sl none jH):=rfl
  have E : bP op = Ev op:=(HD op).symm
  rcases tf (qC.any (op == ·)) with h0 | h0
  ·have e : bP op = 0:=by unfold bP;rw [h0];rfl
   rw [e]
   clear E e
   simp only [qC,List.any_cons,List.any_nil] at h0
   simp +contextual only [QV,pw,A2p,go_sem]
   (all_goals ((repeat' (first | apply And.intro | intro _)) <;> (first | rfl | omega | (simp_all;done) | grind)))
  ·have L : Ev op = match jH.find? (fun w=>eop w == op) with | some w=>if decide (0 < wb w) then 2 else 1 | none=>-1:=by
    unfold Ev;rw [h0];rfl
   simp only [qC,List.any_cons,List.any_nil,Bool.or_eq_false_iff] at h0
   obtain ⟨a1,a2,a3,a4,a5,_⟩:=h0
   rw [E]
   simp +contextual only [QV,pw,A2p,a1,a2,a3,a4,a5,go_sem]
   refine bG (fun j s'=>s'.t 0 = .str op /\ s'.t 3 = .sl none jH /\ s'.t 4 = .int .i64 j /\ s'.H = H /\ s'.T = T /\ j <= 46 /\ (jH.take j).find? (fun w=>eop w == op) = none) 46 ⟨0,by simp [upd,bF]⟩ (fun i s h=>h.2.2.2.2.2.1) ?_ (aI _)
   rintro j ⟨t,B,T'⟩ ⟨r0,r3,r4,rfl,rfl,hj,hc⟩
   simp only at r0 r3 r4
   by_cases ha : j < 46
   ·have d1 : decide ((j : Int) < jH.length) = true:=by rw [j6];simp;omega
    obtain ⟨o,a,b,ty,e3⟩:=BV ha
    have nx:=fun hp=>gI e3 hc hp
    have at':=fun hp=>v7 e3 hc hp
    have F : (eop (mkW o a b ty) == op) = (o == op):=rfl
    rw [F] at nx at'
    have G : (o == op) = true -> Ev op = if decide (0 < b) then 2 else 1:=fun h=>by rw [L,at' h];rfl
    simp only [mkW] at e3
    clear at' F L E
    rcases tf (o == op) with g | g
    ·rw [G g]
     rcases tf (decide (0 < b)) with g2 | g2
     ·simp +contextual only [r0,r3,r4,d1,e3,g,g2,go_sem]
     ·simp +contextual only [r0,r3,r4,d1,e3,g,g2,go_sem]
    ·have nx:=nx g
     simp +contextual only [r0,r3,r4,d1,e3,g,aH j (by omega),go_sem]
     exact ⟨by omega,nx⟩
   ·have d1 : decide ((j : Int) < jH.length) = false:=by rw [j6];simp;omega
    have hA : Ev op = -1:=by
     have : j = jH.length:=by rw [j6];omega
     subst this;rw [List.take_length] at hc
     rw [L,hc]
    simp +contextual only [r0,r3,r4,d1,hA,go_sem]
 ·cases h
open Classical in
noncomputable def wN : List D -> Option D
 | [fs,e]=>if zM isF fs /\ ∃ n,isE n e then some (dE (yZ (elems fs) e)) else none
 | _=>none
set_option maxHeartbeats 4000000 in
theorem Tx : aO Tryz.prog 194 wN:=by
 refine aG (l:=[(107,jY),(212,BI)]) (.cons Pf (.cons X0 .nil)) Uq fun args r h=>?_
 unfold wN at h
 split at h
 ·rename_i fs e
  split at h
  ·rename_i hv
   injection h with h;subst h
   refine ⟨by simp,AR _,fun H T=>?_⟩
   obtain ⟨⟨nf,xs,rfl,hl,hx⟩,m,he⟩:=hv
   obtain ⟨op,k,i,s,nl,l,who,name,m,ps,rfl,h1,h2,h3,h4,h5,h6,eL,eP⟩:=fN he
   have pv : jY [mkV k i s nl l] = some (.bool (cJ (mkV k i s nl l))):=by simp only [jY];rw [if_pos h4.1]
   have ef : D.eraseL xs = xs:=bB fun x h=>fQ (hx x h)
   simp only [yZ,A2v,A2z,A2w,A2s,iZ,dK,fU,i8,aQ]
   rcases tf (op == [110,111,119]) with g1 | g1
   ·simp only [g1];simp +contextual only [DM,mkE,eL,eP,ef,g1,dE,go_sem]
   rcases tf (op == [114,111,108,101]) with g2 | g2
   ·simp only [g1,g2];simp +contextual only [DM,mkE,eL,eP,ef,g1,g2,dE,go_sem]
   rcases tf (op == [118,97,108,117,101]) with g3 | g3
   ·simp only [g1,g2,g3,Qu,RW,gX,fO,if_true,Bool.false_eq_true,if_false]
    obtain ⟨fb,hq⟩ : ∃ z,cJ (mkV k i s nl l) = z:=⟨_,rfl⟩
    simp only [hq] at pv ⊢
    clear hq
    simp only [mkV] at pv
    have k0 : (k == 0) = !(k != 0):=by simp [bne]
    cases fb with
    | false=>simp +contextual only [DM,mkE,eL,eP,ef,g1,g2,g3,pv,dE,go_sem]
    | true =>
    rcases tf (k == 0) with g4 | g4
    ·have g4' : (k != 0) = false:=by simp [bne,g4]
     simp only [g4'];simp +contextual only [DM,mkE,eL,eP,ef,g1,g2,g3,g4,pv,dE,go_sem]
    have g4' : (k != 0) = true:=by simp [bne,g4]
    rcases tf (k == 5) with g5 | g5
    ·by_cases hz : 0 < l.length
     ·obtain ⟨k0',i0,s0,n0,l0,e0,_⟩:=fF (yH h4.1).2.2.2 hz
      have fk:=uY e0
      have d1 : (((l.length : Int)) == 0) = false:=by rw [beq_eq_false_iff_ne];omega
      simp only [mkV] at e0
      simp only [g4',g5,d1,fk];simp +contextual only [DM,mkE,eL,eP,ef,g1,g2,g3,g4,g5,d1,e0,pv,dE,go_sem]
     ·have d1 : (((l.length : Int)) == 0) = true:=by rw [beq_iff_eq];omega
      simp only [g4',g5,d1];simp +contextual only [DM,mkE,eL,eP,ef,g1,g2,g3,g4,g5,d1,pv,dE,go_sem]
    ·simp only [g4',g5];simp +contextual only [DM,mkE,eL,eP,ef,g1,g2,g3,g4,g5,pv,dE,go_sem]
   simp only [g1,g2,g3,Bool.false_eq_true,if_false]
   simp +contextual only [DM,mkE,eL,eP,ef,g1,g2,g3,go_sem]
   refine bG (fun j s'=>s'.t 0 = aA nf xs /\ s'.t 3 = .ptr H.length 0 /\ s'.t 6 = .int .i64 j /\ s'.H = H ++ [.row [.str op,.int .i64 k,.int .i64 i,.str s,aA nl l,.str who,.str name,aA m ps]] /\ s'.T = T /\ j <= xs.length /\ (xs.take j).find? (Df who name) = none) xs.length ⟨0,by simp [upd,bF]⟩ (fun i s h=>h.2.2.2.2.2.1) ?_ (aI _)
   rintro j ⟨t,B,T'⟩ ⟨r0,r3,r6,rfl,rfl,hj,hc⟩
   simp only at r0 r3 r6
   by_cases ha : j < xs.length
   ·have d1 : decide ((j : Int) < xs.length) = true:=by simpa using ha
    obtain ⟨w3,n3,k3,b3,e3,q3,q4⟩:=IQ hx ha
    have hf:=hx _ (List.mem_of_getElem? e3)
    have nx:=fun hp=>gI (p:=Df who name) e3 hc hp
    have at':=fun hp=>v7 (p:=Df who name) e3 hc hp
    have F : Df who name (mkF w3 n3 k3 b3) = ((w3 == who) && (n3 == name)):=rfl
    rw [F] at nx at'
    have pz : BI [mkF w3 n3 k3 b3] = some (.int .i64 (zC (mkF w3 n3 k3 b3))):=by simp only [BI];rw [if_pos hf]
    have G1 : ((w3 == who) && (n3 == name)) = true -> Je xs who name = (1,zC (mkF w3 n3 k3 b3)):=fun h=>by unfold Je;rw [at' h]
    have G2 : ((w3 == who) && (n3 == name)) = true -> Jy xs who name = if (if b3 then IntKind.i64.wrap (k3 + 10) else k3) == 0 then (0,8) else ((if b3 then IntKind.i64.wrap (k3 + 10) else k3),0):=fun h=>by unfold Jy;rw [at' h];rfl
    obtain ⟨zf,hq⟩ : ∃ z,zC (mkF w3 n3 k3 b3) = z:=⟨_,rfl⟩
    simp only [hq] at pz G1
    clear at' F hq
    simp only [mkF] at e3 pz
    rcases tf (w3 == who) with u1 | u1
    ·rcases tf (n3 == name) with u2 | u2
     ·have n1 : (w3 != who) = false:=by simp [bne,u1]
      have n2 : (n3 != name) = false:=by simp [bne,u2]
      have G1:=G1 (by rw [u1,u2];rfl)
      have G2:=G2 (by rw [u1,u2];rfl)
      rw [G1,G2]
      rcases tf (op == [104,97,115]) with g4 | g4
      ·simp only [g4];simp +contextual only [r0,r3,r6,d1,e3,n1,n2,g4,pz,dE,go_sem]
      ·cases b3 with
       | true =>
        simp only [g4,if_true,Bool.false_eq_true,if_false]
        rcases tf (IntKind.i64.wrap (k3 + 10) == 0) with g5 | g5
        ·simp only [g5];simp +contextual only [r0,r3,r6,d1,e3,n1,n2,g4,g5,dE,go_sem]
        ·simp only [g5];simp +contextual only [r0,r3,r6,d1,e3,n1,n2,g4,g5,dE,go_sem]
       | false =>
        simp only [g4,if_true,Bool.false_eq_true,if_false]
        rcases tf (k3 == 0) with g5 | g5
        ·simp only [g5];simp +contextual only [r0,r3,r6,d1,e3,n1,n2,g4,g5,dE,go_sem]
        ·simp only [g5];simp +contextual only [r0,r3,r6,d1,e3,n1,n2,g4,g5,dE,go_sem]
     ·have n1 : (w3 != who) = false:=by simp [bne,u1]
      have n2 : (n3 != name) = true:=by simp [bne,u2]
      have nx:=nx (by rw [u1,u2];rfl)
      simp +contextual only [r0,r3,r6,d1,e3,n1,n2,aH j (by omega),go_sem]
      exact ⟨by omega,nx⟩
    ·have n1 : (w3 != who) = true:=by simp [bne,u1]
     have nx:=nx (by rw [u1];rfl)
     simp +contextual only [r0,r3,r6,d1,e3,n1,aH j (by omega),go_sem]
     exact ⟨by omega,nx⟩
   ·have d1 : decide ((j : Int) < xs.length) = false:=by simpa using ha
    have : j = xs.length:=by omega
    subst this;rw [List.take_length] at hc
    have A1 : Je xs who name = (0,8):=by unfold Je;rw [hc]
    have A2 : Jy xs who name = (0,8):=by unfold Jy;rw [hc]
    rw [A1,A2]
    rcases tf (op == [104,97,115]) with g4 | g4 <;> simp only [g4] <;> simp +contextual only [r0,r3,r6,d1,dE,go_sem]
  ·cases h
 ·cases h
def Mk (ar len : Int) (lf a b : Int × Int) (op : List UInt8) : Int × Int :=
 if lt0 ar || (len != ar) then (0,2) else if ar == 0 then lf else if a.2 != 0 then (0,a.2) else
 if ar == 2 then (if b.2 != 0 then (0,b.2) else sN op a.1 b.1) else sN op a.1 0
theorem Ri (n : Nat) (fs : List D) (e : D) : sK (n + 1) fs e = Mk (bP (eop e)) (eps e).length (yZ fs e) (sK n fs (part e 0)) (sK n fs (part e 1)) (eop e):=rfl
open Classical in
noncomputable def oC (n : Nat) : List D -> Option D
 | [fs,e]=>if zM isF fs /\ isE n e then some (dE (sK n (elems fs) e)) else none
 | _=>none
set_option maxHeartbeats 16000000 in
theorem Pu : ∀ n,aO Tryz.prog 157 (oC n)
 | 0=>fun args r h=>by
  unfold oC at h
  split at h
  ·split at h
   ·rename_i h';exact h'.2.elim
   ·cases h
  ·cases h
 | n + 1=>by
  have h15:=Pu n
  refine aG (l:=[(193,A9),(194,wN),(195,xO),(157,oC n)]) (.cons US (.cons Tx (.cons Pg (.cons h15 .nil)))) UY fun args r h=>?_
  unfold oC at h
  split at h
  ·rename_i fs e
   split at h
   ·rename_i hv
    obtain ⟨hfs,he⟩:=hv
    injection h with h;subst h
    refine ⟨by simp,AR _,fun H T=>?_⟩
    have pl : wN [fs,e] = some (dE (yZ (elems fs) e)):=by simp only [wN];rw [if_pos ⟨hfs,_,he⟩]
    have pw : xO [] = some (.sl none jH):=rfl
    have P : ∀ i,i < (eps e).length -> oC n [fs,part e i] = some (dE (sK n (elems fs) (part e i))):=fun i hi=>by
     simp only [oC];rw [if_pos ⟨hfs,(GO he hi).1⟩]
    have Q : ∀ i,i < (eps e).length -> (part e i).erase = part e i /\ (part e i).cells.length = 8 /\ (part e i).cells.take 8 = (part e i).cells /\ D.agg (part e i).cells = part e i /\ (part e i).okc = true /\ (eps e)[i]? = some (part e i):=fun i hi=>by
     have h1:=(GO he hi).1
     obtain ⟨c1,c2,c3,c4⟩:=fT h1
     exact ⟨bW h1,c1,c2,c3,c4,by simp [part,hi]⟩
    have ef : fs.erase = fs:=by
     obtain ⟨n,xs,rfl,_,hx⟩:=hfs
     rw [bE,bB fun x h=>fQ (hx x h)]
    rw [Ri]
    obtain ⟨⟨lt,le⟩,hq⟩ : ∃ z,yZ (elems fs) e = z:=⟨_,rfl⟩
    simp only [hq] at pl ⊢
    clear hq
    obtain ⟨⟨ta,fa⟩,hqa⟩ : ∃ z,sK n (elems fs) (part e 0) = z:=⟨_,rfl⟩
    obtain ⟨⟨tb,fb⟩,hqb⟩ : ∃ z,sK n (elems fs) (part e 1) = z:=⟨_,rfl⟩
    have P0:=P 0
    have P1:=P 1
    have Q0:=Q 0
    have Q1:=Q 1
    simp only [hqa] at P0 ⊢
    simp only [hqb] at P1 ⊢
    clear hqa hqb P Q
    obtain ⟨x,hx⟩ : ∃ z,part e 0 = z:=⟨_,rfl⟩
    obtain ⟨y,hy⟩ : ∃ z,part e 1 = z:=⟨_,rfl⟩
    rw [hx] at P0 Q0
    rw [hy] at P1 Q1
    clear hx hy
    obtain ⟨op,k,i,s,nl,l,who,name,m,ps,rfl,h1,h2,h3,h4,h5,h6,eL,eP⟩:=fN he
    rw [lR] at P0 P1 Q0 Q1
    simp only [A2v,lR]
    have pc : A9 [.str op] = some (.int .i64 (bP op)):=rfl
    have aC:=qF op
    have w1 : IntKind.i64.wrap 1 = 1:=by decide
    have w2 : IntKind.i64.wrap 2 = 2:=by decide
    obtain ⟨ar,hq⟩ : ∃ z,bP op = z:=⟨_,rfl⟩
    rw [hq] at pc aC ⊢
    clear hq
    simp only [dE,mkE] at pl P0 P1
    rcases tf ((ps.length : Int) != ar) with g1 | g1
    ·unfold Mk
     rw [g1]
     rcases aC with rfl | rfl | rfl | rfl <;> simp +contextual only [GA,mkE,eL,eP,ef,pc,g1,lt0,dE,go_sem]
    have hl : (ps.length : Int) = ar:=by simpa using g1
    rcases aC with rfl | rfl | rfl | rfl
    ·unfold Mk;simp only [g1]
     simp +contextual only [GA,mkE,eL,eP,ef,pc,pl,g1,lt0,dE,go_sem]
    ·have P0:=P0 (by omega)
     obtain ⟨x1,x2,x3,x4,x5,x6⟩:=Q0 (by omega)
     unfold Mk
     simp only [g1]
     rcases tf (fa != 0) with f1 | f1
     ·simp only [f1]
      simp +contextual only [GA,mkE,eL,eP,ef,pc,g1,lt0,dE,go_sem]
      refine wK 2 ?_ (aI _)
      simp +contextual only [wO,Int.reduceAdd,w1,w2,P0,x1,x2,x3,x4,x5,x6,f1,ef,eP,dE,go_sem]
     ·simp only [f1]
      simp +contextual only [GA,mkE,eL,eP,ef,pc,g1,lt0,dE,go_sem]
      refine wK 2 ?_ (aI _)
      simp +contextual only [wO,Int.reduceAdd,w1,w2,P0,x1,x2,x3,x4,x5,x6,f1,ef,eP,pw,A2p,dE,go_sem]
      refine bG (fun j s'=>s'.t 3 = .ptr H.length 0 /\ s'.t 7 = .ptr (H.length + 1) 0 /\ s'.t 11 = .sl none jH /\ s'.t 12 = .int .i64 j /\ s'.H = H ++ [.row [.str op,.int .i64 k,.int .i64 i,.str s,aA nl l,.str who,.str name,aA m ps],.row [.int .i64 ta,.int .i64 0]] /\ s'.T = T /\ j <= 46 /\ (jH.take j).find? (Ee op ta 0) = none) 46 ⟨0,by simp [upd,bF]⟩ (fun i s h=>h.2.2.2.2.2.2.1) ?_ (aI _)
      rintro j ⟨t,B,T'⟩ ⟨r3,r7,r11,r12,rfl,rfl,hj,hc⟩
      simp only at r3 r7 r11 r12
      by_cases ha : j < 46
      ·have d1 : decide ((j : Int) < jH.length) = true:=by rw [j6];simp;omega
       obtain ⟨o,a',b',ty,e3⟩:=BV ha
       have nx:=fun hp=>gI (p:=Ee op ta 0) e3 hc hp
       have at':=fun hp=>v7 (p:=Ee op ta 0) e3 hc hp
       have F : Ee op ta 0 (mkW o a' b' ty) = ((o == op) && (a' == ta) && (b' == 0)):=rfl
       rw [F] at nx at'
       have G : ((o == op) && (a' == ta) && (b' == 0)) = true -> sN op ta 0 = (ty,0):=fun h=>by unfold sN;rw [at' h];rfl
       simp only [mkW] at e3
       clear at' F
       rcases tf (o == op) with g1 | g1
       ·rcases tf (a' == ta) with g2 | g2
        ·rcases tf (b' == 0) with g3 | g3
         ·rw [G (by rw [g1,g2,g3];rfl)]
          simp +contextual only [r3,r7,r11,r12,d1,e3,g1,g2,g3,dE,go_sem]
         ·have nx:=nx (by rw [g1,g2,g3];rfl)
          simp +contextual only [r3,r7,r11,r12,d1,e3,g1,g2,g3,aH j (by omega),go_sem]
          exact ⟨by omega,nx⟩
        ·have nx:=nx (by rw [g1,g2];rfl)
         simp +contextual only [r3,r7,r11,r12,d1,e3,g1,g2,aH j (by omega),go_sem]
         exact ⟨by omega,nx⟩
       ·have nx:=nx (by rw [g1];rfl)
        simp +contextual only [r3,r7,r11,r12,d1,e3,g1,aH j (by omega),go_sem]
        exact ⟨by omega,nx⟩
      ·have d1 : decide ((j : Int) < jH.length) = false:=by rw [j6];simp;omega
       have hA : sN op ta 0 = (0,6):=by
        have : j = jH.length:=by rw [j6];omega
        subst this;rw [List.take_length] at hc
        unfold sN;rw [hc]
       simp +contextual only [r3,r7,r11,r12,d1,hA,dE,go_sem]
    ·have P0:=P0 (by omega)
     have P1:=P1 (by omega)
     obtain ⟨x1,x2,x3,x4,x5,x6⟩:=Q0 (by omega)
     obtain ⟨y1,y2,y3,y4,y5,y6⟩:=Q1 (by omega)
     unfold Mk
     simp only [g1]
     rcases tf (fa != 0) with f1 | f1
     ·simp only [f1]
      simp +contextual only [GA,mkE,eL,eP,ef,pc,g1,lt0,dE,go_sem]
      refine wK 3 ?_ (aI _)
      simp +contextual only [wO,Int.reduceAdd,w1,w2,P0,x1,x2,x3,x4,x5,x6,f1,ef,eP,dE,go_sem]
     rcases tf (fb != 0) with f2 | f2
     ·simp only [f1,f2]
      simp +contextual only [GA,mkE,eL,eP,ef,pc,g1,lt0,dE,go_sem]
      refine wK 3 ?_ (aI _)
      simp +contextual only [wO,Int.reduceAdd,w1,w2,P0,x1,x2,x3,x4,x5,x6,P1,y1,y2,y3,y4,y5,y6,f1,f2,ef,eP,dE,go_sem]
     ·simp only [f1,f2]
      simp +contextual only [GA,mkE,eL,eP,ef,pc,g1,lt0,dE,go_sem]
      refine wK 3 ?_ (aI _)
      simp +contextual only [wO,Int.reduceAdd,w1,w2,P0,x1,x2,x3,x4,x5,x6,P1,y1,y2,y3,y4,y5,y6,f1,f2,ef,eP,pw,A2p,dE,go_sem]
      refine bG (fun j s'=>s'.t 3 = .ptr H.length 0 /\ s'.t 7 = .ptr (H.length + 1) 0 /\ s'.t 11 = .sl none jH /\ s'.t 12 = .int .i64 j /\ s'.H = H ++ [.row [.str op,.int .i64 k,.int .i64 i,.str s,aA nl l,.str who,.str name,aA m ps],.row [.int .i64 ta,.int .i64 tb]] /\ s'.T = T /\ j <= 46 /\ (jH.take j).find? (Ee op ta tb) = none) 46 ⟨0,by simp [upd,bF]⟩ (fun i s h=>h.2.2.2.2.2.2.1) ?_ (aI _)
      rintro j ⟨t,B,T'⟩ ⟨r3,r7,r11,r12,rfl,rfl,hj,hc⟩
      simp only at r3 r7 r11 r12
      by_cases ha : j < 46
      ·have d1 : decide ((j : Int) < jH.length) = true:=by rw [j6];simp;omega
       obtain ⟨o,a',b',ty,e3⟩:=BV ha
       have nx:=fun hp=>gI (p:=Ee op ta tb) e3 hc hp
       have at':=fun hp=>v7 (p:=Ee op ta tb) e3 hc hp
       have F : Ee op ta tb (mkW o a' b' ty) = ((o == op) && (a' == ta) && (b' == tb)):=rfl
       rw [F] at nx at'
       have G : ((o == op) && (a' == ta) && (b' == tb)) = true -> sN op ta tb = (ty,0):=fun h=>by unfold sN;rw [at' h];rfl
       simp only [mkW] at e3
       clear at' F
       rcases tf (o == op) with g1 | g1
       ·rcases tf (a' == ta) with g2 | g2
        ·rcases tf (b' == tb) with g3 | g3
         ·rw [G (by rw [g1,g2,g3];rfl)]
          simp +contextual only [r3,r7,r11,r12,d1,e3,g1,g2,g3,dE,go_sem]
         ·have nx:=nx (by rw [g1,g2,g3];rfl)
          simp +contextual only [r3,r7,r11,r12,d1,e3,g1,g2,g3,aH j (by omega),go_sem]
          exact ⟨by omega,nx⟩
        ·have nx:=nx (by rw [g1,g2];rfl)
         simp +contextual only [r3,r7,r11,r12,d1,e3,g1,g2,aH j (by omega),go_sem]
         exact ⟨by omega,nx⟩
       ·have nx:=nx (by rw [g1];rfl)
        simp +contextual only [r3,r7,r11,r12,d1,e3,g1,aH j (by omega),go_sem]
        exact ⟨by omega,nx⟩
      ·have d1 : decide ((j : Int) < jH.length) = false:=by rw [j6];simp;omega
       have hA : sN op ta tb = (0,6):=by
        have : j = jH.length:=by rw [j6];omega
        subst this;rw [List.take_length] at hc
        unfold sN;rw [hc]
       simp +contextual only [r3,r7,r11,r12,d1,hA,dE,go_sem]
    ·exfalso;omega
   ·cases h
  ·cases h
theorem O2 {v : D} (h : cJ v = true) (h5 : vk v = 5) (h0 : 0 < (vl v).length) : 1 <= vk0 (vl v) /\ vk0 (vl v) <= 4:=by
 unfold cJ at h
 rw [h5] at h
 simp only [bne_self_eq_false,Bool.false_eq_true,if_false] at h
 split at h
 ·cases h
 ·unfold uV at h
  have:=List.all_eq_true.1 h 0 (by simpa using h0)
  unfold kE at this
  have e : (vl v)[0]? = some (vl v)[0]:=by simp [h0]
  rw [e] at this
  simp only [Bool.and_eq_true] at this
  obtain ⟨⟨⟨q1,q2⟩,q3⟩,_⟩:=this
  have q3 : vk (vl v)[0] = vk0 (vl v):=by simpa using q3
  have q2 : vk (vl v)[0] ≠ 0:=by simpa using q2
  rw [<- q3]
  unfold dI fH at q1
  (repeat' split at q1) <;> simp_all <;> omega
theorem Nf {v : D} (h : cJ v = true) (h5 : vk v ≠ 5) : 0 <= vk v /\ vk v <= 4:=by
 unfold cJ at h
 have : (vk v != 5) = true:=by simpa using h5
 rw [this] at h
 simp only [if_true] at h
 unfold dI fH at h
 (repeat' split at h) <;> simp_all <;> omega
def oL : List Int:=[1,2,3,4,11,12,13,14]
theorem Vc {k : Int} (h : 1 <= k /\ k <= 4) : k ∈ oL:=by
 simp only [oL,List.mem_cons,List.not_mem_nil,or_false];omega
theorem Re {k : Int} (h : 1 <= k /\ k <= 4) : IntKind.i64.wrap (10 + k) ∈ oL:=by
 rw [wI (by omega) (by omega)]
 simp only [oL,List.mem_cons,List.not_mem_nil,or_false];omega
theorem IN {t : Int} (h : t ∈ oL) : (t == 0) = false /\ (t != 0) = true:=by
 simp only [oL,List.mem_cons,List.not_mem_nil,or_false] at h
 rcases h with rfl | rfl | rfl | rfl | rfl | rfl | rfl | rfl <;> decide
def uR (fs : List D) : Prop:=∀ f ∈ fs,1 <= oW f /\ oW f <= 4
theorem PM {op : List UInt8} (h : bP op = 0) : op = fU ∨ op = iZ ∨ op = eJ ∨ op = i8 ∨ op = dK:=by
 unfold bP at h
 split at h
 ·rename_i g
  simp only [qC,List.any_cons,List.any_nil,Bool.or_false,Bool.or_eq_true,beq_iff_eq] at g
  exact g
 ·split at h
  ·cases h
  ·split at h <;> cases h
theorem Ib {fs : List D} (hk : uR fs) {who name : List UInt8} : (fs.find? (Df who name) = none /\ oX fs who name = 0) ∨ ∃ f ∈ fs,fs.find? (Df who name) = some f /\ oX fs who name = tF f /\ tF f ∈ oL /\ zC f = 0:=by
 cases hf : fs.find? (Df who name) with
 | none =>
  refine .inl ⟨rfl,?_⟩
  have hf : fs.find? (fun f=>(FN f == who) && (yR f == name)) = none:=hf
  unfold oX;rw [hf]
 | some f =>
  have hm:=List.mem_of_find?_eq_some hf
  have hq:=hk f hm
  refine .inr ⟨f,hm,rfl,?_,?_,?_⟩
  ·have hf : fs.find? (fun f=>(FN f == who) && (yR f == name)) = some f:=hf
   unfold oX tF;rw [hf,Int.add_comm]
  ·unfold tF
   split
   ·rw [Int.add_comm];exact Re hq
   ·exact Vc hq
  ·unfold zC
   have : (oW f == 0) = false:=by rw [beq_eq_false_iff_ne];omega
   rw [this];rfl
theorem Lc {fs : List D} (hk : uR fs) {e : D} (ha : bP (eop e) = 0) : yZ fs e = uU fs e /\ ((uU fs e).2 = 0 -> (uU fs e).1 ∈ oL):=by
 unfold yZ uU
 rcases PM ha with h | h | h | h | h <;> rw [h]
 ·have e1 : (fU == iZ) = false:=by decide
  have e2 : (fU == dK) = false:=by decide
  simp only [e1,e2,BEq.rfl,if_true,Bool.false_eq_true,if_false]
  have hB:=O2 (v:=eV e)
  have hO:=Nf (v:=eV e)
  unfold HZ Qu RW
  obtain ⟨v,hv⟩ : ∃ z,eV e = z:=⟨_,rfl⟩
  rw [hv] at hB hO ⊢
  cases hf : cJ v with
  | false=>simp
  | true =>
  have hB:=hB hf
  have hO:=hO hf
  by_cases k0 : vk v = 0
  ·simp [k0]
  by_cases k5 : vk v = 5
  ·by_cases hl : 0 < (vl v).length
   ·have hq:=hB k5 hl
    have d1 : (((vl v).length : Int) == 0) = false:=by rw [beq_eq_false_iff_ne];omega
    have n:=IN (Re hq)
    simp [k5,d1,n,Re hq]
   ·have d1 : (((vl v).length : Int) == 0) = true:=by rw [beq_iff_eq];omega
    simp [k5,d1]
  ·have hq:=hO k5
   have hq : 1 <= vk v /\ vk v <= 4:=by omega
   simp [k0,k5,Vc hq]
 ·have e1 : (iZ == fU) = false:=by decide
  simp only [e1,BEq.rfl,if_true,Bool.false_eq_true,if_false]
  exact ⟨by trivial,fun _=>by decide⟩
 ·have e1 : (eJ == iZ) = false:=by decide
  have e2 : (eJ == dK) = false:=by decide
  have e3 : (eJ == fU) = false:=by decide
  have e4 : (eJ == i8) = false:=by decide
  simp only [e1,e2,e3,e4,Bool.false_eq_true,if_false]
  unfold Jy
  rcases Ib hk (who:=lP e) (name:=fB e) with ⟨h1,h2⟩ | ⟨f,hm,h1,h2,h3,h4⟩
  ·rw [h1,h2];exact ⟨by trivial,fun h=>by cases h⟩
  ·rw [h1,h2,(IN h3).1]
   simp only [(IN h3).1,Bool.false_eq_true,if_false]
   exact ⟨by trivial,fun _=>h3⟩
 ·have e1 : (i8 == iZ) = false:=by decide
  have e2 : (i8 == dK) = false:=by decide
  have e3 : (i8 == fU) = false:=by decide
  simp only [e1,e2,e3,BEq.rfl,if_true,Bool.false_eq_true,if_false]
  unfold Je
  rcases Ib hk (who:=lP e) (name:=fB e) with ⟨h1,h2⟩ | ⟨f,hm,h1,h2,h3,h4⟩
  ·rw [h1,h2];exact ⟨by trivial,fun h=>by cases h⟩
  ·rw [h1,h2,(IN h3).1]
   simp only [h4]
   exact ⟨by trivial,fun _=>by decide⟩
 ·have e1 : (dK == iZ) = false:=by decide
  have e2 : (dK == fU) = false:=by decide
  simp only [e1,e2,BEq.rfl,if_true,Bool.false_eq_true,if_false]
  exact ⟨by trivial,fun _=>by decide⟩
def tyS (t : Int) : Int × Int:=if t == 0 then (0,6) else (t,0)
theorem PQ : (qW.all fun op=>oL.all fun a=>oL.all fun b=>(sN op a b == tyS (AY op a b)) && ((AY op a b == 0) || oL.contains (AY op a b))) = true:=by kernel_rfl
theorem Np : (pJ.all fun op=>oL.all fun a=>(sN op a 0 == tyS (Bm op a)) && ((Bm op a == 0) || oL.contains (Bm op a))) = true:=by kernel_rfl
theorem PU {op : List UInt8} (h : bP op = 2) : op ∈ qW:=by
 unfold bP at h
 split at h
 ·cases h
 ·split at h
  ·cases h
  ·split at h
   ·rename_i g
    obtain ⟨x,hx,e⟩:=List.any_eq_true.1 g
    have e : op = x:=by simpa using e
    exact e ▸ hx
   ·cases h
theorem Oj {op : List UInt8} (h : bP op = 1) : op ∈ pJ:=by
 unfold bP at h
 split at h
 ·cases h
 ·split at h
  ·rename_i g
   obtain ⟨x,hx,e⟩:=List.any_eq_true.1 g
   have e : op = x:=by simpa using e
   exact e ▸ hx
  ·split at h <;> cases h
theorem Ov {op : List UInt8} (h : bP op = 2) {a b : Int} (ha : a ∈ oL) (hb : b ∈ oL) : sN op a b = tyS (AY op a b) /\ ((AY op a b == 0) = false -> AY op a b ∈ oL):=by
 have:=List.all_eq_true.1 (List.all_eq_true.1 (List.all_eq_true.1 PQ op (PU h)) a ha) b hb
 simp only [Bool.and_eq_true,Bool.or_eq_true,beq_iff_eq,List.contains_iff_mem] at this
 refine ⟨this.1,fun g=>?_⟩
 rcases this.2 with q | q
 ·rw [q] at g;cases g
 ·exact q
theorem NY {op : List UInt8} (h : bP op = 1) {a : Int} (ha : a ∈ oL) : sN op a 0 = tyS (Bm op a) /\ ((Bm op a == 0) = false -> Bm op a ∈ oL):=by
 have:=List.all_eq_true.1 (List.all_eq_true.1 Np op (Oj h)) a ha
 simp only [Bool.and_eq_true,Bool.or_eq_true,beq_iff_eq,List.contains_iff_mem] at this
 refine ⟨this.1,fun g=>?_⟩
 rcases this.2 with q | q
 ·rw [q] at g;cases g
 ·exact q
theorem DY {fs : List D} (hk : uR fs) : ∀ (n : Nat) (e : D),sK n fs e = j4 n fs e /\ ((j4 n fs e).2 = 0 -> (j4 n fs e).1 ∈ oL)
 | 0,_=>⟨rfl,fun h=>by cases h⟩
 | n + 1,e=>by
  have h0:=DY hk n (part e 0)
  have h1:=DY hk n (part e 1)
  have hl:=Lc hk (e:=e)
  simp only [sK,j4,lt0]
  have p0 : (eps e).getD 0 .top = part e 0:=rfl
  have p1 : (eps e).getD 1 .top = part e 1:=rfl
  rw [p0,p1]
  rw [h0.1,h1.1]
  have h0:=h0.2
  have h1:=h1.2
  obtain ⟨⟨a,f⟩,hx⟩ : ∃ z,j4 n fs (part e 0) = z:=⟨_,rfl⟩
  obtain ⟨⟨b,g⟩,hy⟩ : ∃ z,j4 n fs (part e 1) = z:=⟨_,rfl⟩
  rw [hx] at h0 ⊢
  rw [hy] at h1 ⊢
  simp only at h0 h1 ⊢
  split
  ·exact ⟨by trivial,fun h=>by cases h⟩
  ·rename_i hA
   rcases qF (eop e) with ha | ha | ha | ha
   ·simp only [ha,BEq.rfl,if_true]
    exact hl ha
   ·have e1 : ((1 : Int) == 0) = false:=by decide
    have e2 : ((1 : Int) == 2) = false:=by decide
    simp only [ha,e1,e2,Bool.false_eq_true,if_false]
    rcases tf (f != 0) with hf | hf
    ·simp only [hf,if_true]
     exact ⟨by trivial,fun h=>by simp [h] at hf⟩
    ·have hf0 : f = 0:=by simpa using hf
     obtain ⟨q1,q2⟩:=NY ha (h0 hf0)
     simp only [hf,Bool.false_eq_true,if_false]
     rw [q1]
     unfold tyS
     rcases tf (Bm (eop e) a == 0) with hz | hz
     ·rw [hz];exact ⟨by trivial,fun h=>by cases h⟩
     ·rw [hz];exact ⟨by trivial,fun _=>q2 hz⟩
   ·have e1 : ((2 : Int) == 0) = false:=by decide
    simp only [ha,e1,BEq.rfl,if_true,Bool.false_eq_true,if_false]
    rcases tf (f != 0) with hf | hf
    ·simp only [hf,if_true]
     exact ⟨by trivial,fun h=>by simp [h] at hf⟩
    rcases tf (g != 0) with hg | hg
    ·simp only [hf,hg,if_true,Bool.false_eq_true,if_false]
     exact ⟨by trivial,fun h=>by simp [h] at hg⟩
    ·have hf0 : f = 0:=by simpa using hf
     have hg0 : g = 0:=by simpa using hg
     obtain ⟨q1,q2⟩:=Ov ha (h0 hf0) (h1 hg0)
     simp only [hf,hg,Bool.false_eq_true,if_false]
     rw [q1]
     unfold tyS
     rcases tf (AY (eop e) a b == 0) with hz | hz
     ·rw [hz];exact ⟨by trivial,fun h=>by cases h⟩
     ·rw [hz];exact ⟨by trivial,fun _=>q2 hz⟩
   ·rw [ha] at hA
    simp at hA
def j8 (f : D -> Int) : List D -> Int
 | []=>0
 | x :: xs=>if f x != 0 then f x else j8 f xs
theorem oB {f : D -> Int} {xs : List D} {i : Nat} {x : D} (h : xs[i]? = some x) : j8 f (xs.drop i) = if f x != 0 then f x else j8 f (xs.drop (i + 1)):=by
 obtain ⟨hi,rfl⟩:=List.getElem?_eq_some_iff.1 h
 rw [List.drop_eq_getElem_cons hi]
 rfl
def BH (fs : List D) (r : D) : Int:=fW fs (rHi r) (rE r)
def CB (fs : List D) (p : D) : Int:=if fW fs (pHf p) (pE p) != 0 then fW fs (pHf p) (pE p) else j8 (BH fs) (pRs p)
noncomputable def ckI (d : D) : Int:=if yC d then 9 else if B8 d != 0 then B8 d else j8 (CB (dFs d)) (dPs d)
open Classical in
noncomputable def Lu : List D -> Option D
 | [d]=>if ckD2 d then some (.int .i64 (ckI d)) else none
 | _=>none
theorem MA {d e : D} {h : Bool} (hd : kI aK d) (he : isE aK e) : v9 [d,.bool h,e] = some (.int .i64 (fW (dFs d) h e)):=by
 simp only [v9];rw [if_pos ⟨hd,he⟩]
noncomputable abbrev Vt : Fs:=[(153,vY),(154,BX),(155,v9)]
set_option maxHeartbeats 16000000 in
theorem A0V : aO Tryz.prog 93 Lu:=by
 have hX:=aI Vt
 refine aG (l:=Vt) (.cons T9 (.cons UC (.cons U1 .nil))) A1F fun args r h=>?_
 unfold Lu at h
 split at h
 ·rename_i d
  split at h
  ·rename_i hd
   injection h with h;subst h
   refine ⟨by simp,by simp [D.cl],fun H T=>?_⟩
   have pn : vY [d] = some (.int .i64 (if yC d then 9 else 0)):=by simp only [vY];rw [if_pos hd]
   have pu : BX [d] = some (.int .i64 (B8 d)):=by simp only [BX];rw [if_pos hd]
   have pt:=fun (h : Bool) (e : D) (he : isE aK e)=>MA (h:=h) hd.s he
   obtain ⟨hs,h1,h2,h3⟩:=hd
   have ed:=dX hs
   unfold ckI
   obtain ⟨m,fs,us,m',ps,rfl,k1,k2,k3,k4,k5⟩:=hs
   simp only [mQ,mZ] at h1 h2 h3 pt ⊢
   obtain ⟨nb,hnb⟩ : ∃ z,yC (dA m fs us m' ps) = z:=⟨_,rfl⟩
   obtain ⟨ui,hui⟩ : ∃ z,B8 (dA m fs us m' ps) = z:=⟨_,rfl⟩
   rw [hnb] at pn ⊢
   rw [hui] at pu ⊢
   simp only [dA] at ed pn pu pt
   cases nb with
   | true =>
    simp only [if_true] at pn
    simp +contextual only [c93,dA,ed,pn,go_sem]
   | false =>
   simp only [Bool.false_eq_true,if_false] at pn
   rcases tf (ui != 0) with g | g
   ·simp +contextual only [c93,dA,ed,pn,pu,g,go_sem]
   simp +contextual only [c93,dA,ed,pn,pu,g,go_sem]
   refine jG ps (fun i s=>s.t 1 = .ptr H.length 0 /\ s.t 22 = aA m' ps /\ s.t 23 = .int .i64 (ps.length : Int) /\ s.t 24 = .int .i64 (i : Int) /\ j8 (CB fs) ps = j8 (CB fs) (ps.drop i) /\ Ext (H ++ [.row [aA m fs,.str us,aA m' ps]]) s.H /\ s.T = T) hX ⟨by simp [upd],by simp [upd],by simp [upd],by simp [upd],by simp,Ext.refl _,rfl⟩ ?_ ?_
   ·rintro i x ⟨t,B,U⟩ hx hm hi ⟨t1,t22,t23,t24,hF,hB,rfl⟩
    simp only at t1 t22 t23 t24 hB
    have d1 : decide ((i : Int) < ps.length) = true:=by simpa using hi
    have hg:=hB.get (o:=H.length) (by simp;rfl)
    rw [oB hx] at hF
    obtain ⟨nm,bn,us',hf,e,mm,rs,rfl,he,l1,l2,l3,l4,l5⟩:=k5 x hm
    have hr:=h3 _ hm
    rw [lK] at hr
    have hE:=mS he
    have ee:=bW he
    have p1:=pt hf e he
    have hP : CB fs (mkP nm bn us' hf e mm rs) = if fW fs hf e != 0 then fW fs hf e else j8 (BH fs) rs:=by
     unfold CB;rw [DK,GL _ _ _ _ _ _ _ he,lK]
    rw [hP] at hF
    obtain ⟨v,hv⟩ : ∃ z,fW fs hf e = z:=⟨_,rfl⟩
    rw [hv] at p1 hF
    clear hP
    rcases tf (v != 0) with g1 | g1
    ·simp only [g1,if_true] at hF
     rw [hF]
     simp +contextual only [t1,t22,t23,t24,bN hg,cW hg,d1,hx,mkP,hE,ee,ed,p1,g1,bL hB.pre (bQ.refl _),go_sem]
    simp only [g1,Bool.false_eq_true,if_false] at hF
    simp +contextual only [t1,t22,t23,t24,bN hg,cW hg,d1,hx,mkP,hE,ee,ed,p1,g1,go_sem]
    refine jG rs (fun j s=>s.t 1 = .ptr H.length 0 /\ s.t 22 = aA m' ps /\ s.t 23 = .int .i64 (ps.length : Int) /\ s.t 24 = .int .i64 (i : Int) /\ s.t 38 = aA mm rs /\ s.t 39 = .int .i64 (rs.length : Int) /\ s.t 40 = .int .i64 (j : Int) /\ j8 (BH fs) rs = j8 (BH fs) (rs.drop j) /\ Ext (H ++ [.row [aA m fs,.str us,aA m' ps]]) s.H /\ s.T = U) hX ⟨by simp [upd,t1],by simp [upd,t22],by simp [upd,t23],by simp [upd,t24],by simp [upd],by simp [upd],by simp [upd],by simp,hB.app _,rfl⟩ ?_ ?_
    ·clear hg hB t1 t22 t23 t24
     rintro j y ⟨t',B',U'⟩ hy hmy hj ⟨t1,t22,t23,t24,t38,t39,t40,hF2,hB,rfl⟩
     simp only at t1 t22 t23 t24 t38 t39 t40 hB
     have d2 : decide ((j : Int) < rs.length) = true:=by simpa using hj
     have hg:=hB.get (o:=H.length) (by simp;rfl)
     rw [oB hy] at hF2
     obtain ⟨pm,hi',nm',e',ma,mb,du,ad,rfl,he',_,_,_⟩:=l5 y hmy
     have hE':=mS he'
     have ee':=bW he'
     have p2:=pt hi' e' he'
     have hR : BH fs (mkR pm hi' nm' e' ma mb du ad) = fW fs hi' e':=by
      unfold BH;rw [Ds,Fu _ _ _ _ _ _ _ _ he']
     rw [hR] at hF2
     obtain ⟨w,hw⟩ : ∃ z,fW fs hi' e' = z:=⟨_,rfl⟩
     rw [hw] at p2 hF2
     obtain ⟨DU,hDU⟩ : ∃ z,aA ma (du.map D.str) = z:=⟨_,rfl⟩
     obtain ⟨AD,hAD⟩ : ∃ z,aA mb (ad.map D.str) = z:=⟨_,rfl⟩
     clear hR
     rcases tf (w != 0) with g2 | g2
     ·simp only [g2,if_true] at hF2
      rw [hF2] at hF
      have g3 : (w != 0) = true:=g2
      simp only [g3,if_true] at hF
      rw [hF]
      simp +contextual only [t1,t22,t23,t24,t38,t39,t40,bN hg,cW hg,d2,hy,mkR,hDU,hAD,hE',ee',ed,p2,g2,bL hB.pre (bQ.refl _),go_sem]
     simp only [g2,Bool.false_eq_true,if_false] at hF2
     simp +contextual only [t1,t22,t23,t24,t38,t39,t40,bN hg,cW hg,d2,hy,mkR,hDU,hAD,hE',ee',ed,p2,g2,aH j (by omega),go_sem]
     exact ⟨hF2,hB.app _⟩
    ·rintro ⟨t',B',U'⟩ ⟨t1,t22,t23,t24,t38,t39,t40,hF2,hB,rfl⟩
     simp only at t1 t22 t23 t24 t38 t39 t40 hB
     have d2 : decide ((rs.length : Int) < rs.length) = false:=by simp
     have z0 : j8 (BH fs) rs = 0:=by rw [hF2,List.drop_length];rfl
     rw [z0] at hF
     simp only [bne_self_eq_false,Bool.false_eq_true,if_false] at hF
     simp +contextual only [t1,t22,t23,t24,t38,t39,t40,d2,aH i (by omega),go_sem]
     exact ⟨hF,hB⟩
   ·rintro ⟨t,B,U⟩ ⟨t1,t22,t23,t24,hF,hB,rfl⟩
    simp only at t1 t22 t23 t24 hB
    have d1 : decide ((ps.length : Int) < ps.length) = false:=by simp
    rw [hF,List.drop_length]
    simp +contextual only [t1,t22,t23,t24,d1,j8,b8 hB.pre (bQ.refl _),go_sem]
  ·cases h
 ·cases h
theorem XF : aO Tryz.prog 156 jT:=by
 refine aG (l:=[]) .nil TZ fun args r h=>?_
 unfold jT at h
 split at h
 ·injection h with h;subst h
  refine ⟨by simp,by simp [D.cl,D.clL,iL],fun H T=>?_⟩
  simp +contextual only [Sz,iL,go_sem]
 ·cases h
theorem Qc {X : d8} {c : C} {Q : Ex -> S -> Prop} {s : S} (n : Nat) (J : Nat -> S -> Prop) (hX : uL X) (h0 : J 0 s) (step : ∀ i s,i < n -> J i s -> W X c (m9 (J (i + 1)) Q) s) (fin : ∀ s,J n s -> W X c (m9 (fun _=>False) Q) s) : W X (.loop c) Q s:=by
 refine jG (List.replicate n D.top) J hX h0 (fun i x s _ _ hi hJ=>?_) (fun s h=>?_)
 ·rw [List.length_replicate] at hi;exact step i s hi hJ
 ·rw [List.length_replicate] at h;exact fin s h
def Fo : List D -> Option D
 | [.str s]=>some (.bool (kN s))
 | _=>none
set_option maxHeartbeats 4000000 in
theorem Zx : aO Tryz.prog 94 Fo:=by
 have hX:=aI [(156,jT)]
 refine aG (l:=[(156,jT)]) (.cons XF .nil) ZY fun args r h=>?_
 unfold Fo at h
 split at h
 ·rename_i w
  injection h with h;subst h
  refine ⟨by simp,by simp [D.cl],fun H T=>?_⟩
  have pu : jT [] = some (.sl none (iL.map .str)):=rfl
  unfold kN
  obtain ⟨us,hus⟩ : ∃ z,iL = z:=⟨_,rfl⟩
  have hl : us.length = 6:=by rw [<- hus];rfl
  rw [hus] at pu ⊢
  have pu : jT [] = some (aA false (us.map .str)):=pu
  simp +contextual only [c94,pu,go_sem]
  refine jG (us.map D.str) (fun i s=>s.t 0 = .str w /\ s.t 3 = aA false (us.map .str) /\ s.t 4 = .int .i64 (i : Int) /\ (us.any fun x=>w == x) = ((us.drop i).any fun x=>w == x) /\ s.H = H /\ s.T = T) hX ⟨by simp [upd,bF],by simp [upd],by simp [upd],by simp,rfl,rfl⟩ ?_ ?_
  ·rintro i x ⟨t,B,U⟩ hx hm hi ⟨t0,t3,t4,hF,rfl,rfl⟩
   simp only at t0 t3 t4
   rw [List.length_map] at hi
   have d1 : decide ((i : Int) < (us.map D.str).length) = true:=by rw [List.length_map];simpa using hi
   have hx':=hx
   rw [List.getElem?_map,Option.map_eq_some_iff] at hx'
   obtain ⟨s,hs,rfl⟩:=hx'
   have hd : us.drop i = s :: us.drop (i + 1):=by
    obtain ⟨hi,rfl⟩:=List.getElem?_eq_some_iff.1 hs
    exact List.drop_eq_getElem_cons hi
   rw [hd,List.any_cons] at hF
   rcases tf (s == w) with e | e
   ·have e' : (w == s) = true:=by rw [beq_iff_eq] at e ⊢;exact e.symm
    rw [e',Bool.true_or] at hF
    rw [hF]
    simp +contextual only [t0,t3,t4,d1,hx,e,go_sem]
   ·have e' : (w == s) = false:=by rw [beq_eq_false_iff_ne] at e ⊢;exact fun h=>e h.symm
    rw [e',Bool.false_or] at hF
    simp +contextual only [t0,t3,t4,d1,hx,e,aH i (by omega),go_sem]
    exact hF
  ·rintro ⟨t,B,U⟩ ⟨t0,t3,t4,hF,rfl,rfl⟩
   simp only at t0 t3 t4
   have d1 : decide (((us.map D.str).length : Int) < (us.map D.str).length) = false:=by simp
   rw [List.length_map] at hF
   rw [hF,List.drop_length]
   simp +contextual only [t0,t3,t4,d1,List.any_nil,go_sem]
 ·cases h
def X4 : D -> Nm
 | .agg [.str a,.str b]=>(a,b)
 | _=>([],[])
theorem Fv (l : List Nm) : (l.map c9).map X4 = l:=by
 rw [List.map_map]
 conv=>rhs;rw [<- List.map_id l]
 rfl
theorem Ng (p q : Nm) : Lk [.str,.str] false (c9 p) (c9 q) = some (.bool (p == q)):=by
 have h : ∀ b : Bool,(b != false) = b:=by decide
 show some (D.bool ((p.1 == q.1 && (p.2 == q.2 && true)) != false)) = _
 rw [h,Bool.and_true];rfl
open Classical in
noncomputable def G7 : List D -> Option D
 | [l]=>if ∃ (m : Bool) (ps : List Nm),l = aA m (ps.map c9) /\ ps.length <= 2 ^ 40 then some (.bool (twB ((elems l).map X4))) else none
 | _=>none
theorem tT (l : List Nm) : D.eraseL (l.map c9) = l.map c9:=bB fun x hx=>by
 obtain ⟨p,_,rfl⟩:=List.mem_map.1 hx
 simp [c9,D.erase,D.eraseL]
theorem MW (m : Bool) {ps : List Nm} (h : ps.length <= 2 ^ 40) : G7 [aA m (ps.map c9)] = some (.bool (twB ps)):=by
 simp only [G7]
 rw [if_pos ⟨m,ps,rfl,h⟩,aQ,Fv]
theorem OR {acc : List Nm} {x y : Nm} : y ∈ ddS acc x ↔ y ∈ acc ∨ y = x:=by
 unfold ddS
 split
 ·rename_i h
  have h : x ∈ acc:=by simpa using h
  exact ⟨.inl,fun k=>k.elim id fun e=>e ▸ h⟩
 ·simp
theorem IA : ∀ {l acc : List Nm} {y : Nm},y ∈ l.foldl ddS acc ↔ y ∈ acc ∨ y ∈ l
 | [],acc,y=>by simp
 | x :: l,acc,y=>by
  rw [List.foldl_cons,IA,OR,List.mem_cons,or_assoc]
theorem Ij {l : List Nm} {y : Nm} : y ∈ ddN l ↔ y ∈ l:=by unfold ddN;rw [IA];simp
theorem I7 {l : List Nm} {i : Nat} {x : Nm} (h : l[i]? = some x) : twB (l.take (i + 1)) = (twB (l.take i) || (l.take i).contains x):=by
 have hi : i < l.length:=(List.getElem?_eq_some_iff.1 h).1
 have hl:=Hz (l.take i) []
 have hl : (ddN (l.take i)).length <= (l.take i).length:=by simpa [ddN] using hl
 unfold twB
 rw [GV h]
 have e1 : (l.take (i + 1)).length = i + 1:=by rw [List.length_take];omega
 have e2 : (l.take i).length = i:=by rw [List.length_take];omega
 rw [e1]
 unfold ddS
 by_cases hm : x ∈ l.take i
 ·have h1 : (ddN (l.take i)).contains x = true:=by simpa using Ij.2 hm
  have h2 : (l.take i).contains x = true:=by simpa using hm
  rw [h1,h2,if_pos rfl,Bool.or_true]
  simp only [bne_iff_ne,ne_eq]
  omega
 ·have h1 : (ddN (l.take i)).contains x = false:=by rw [<- Bool.not_eq_true];exact fun h=>hm (Ij.1 (by simpa using h))
  have h2 : (l.take i).contains x = false:=by rw [<- Bool.not_eq_true];exact fun h=>hm (by simpa using h)
  rw [h1,h2,if_neg (by decide),Bool.or_false,List.length_append,e2]
  rw [Bool.eq_iff_iff]
  simp only [bne_iff_ne,ne_eq,List.length_cons,List.length_nil]
  omega
theorem J7 {l : List Nm} {i : Nat} (h : twB (l.take i) = true) : twB l = true:=by
 by_cases hi : i < l.length
 ·have e : l[i]? = some l[i]:=by simp [hi]
  have : twB (l.take (i + 1)) = true:=by rw [I7 e,h];rfl
  exact J7 this
 ·rw [List.take_of_length_le (by omega)] at h;exact h
termination_by l.length - i
set_option maxHeartbeats 4000000 in
theorem A0j : aO Tryz.prog 95 G7:=by
 have hX:=aI ([] : Fs)
 refine aG (l:=[]) .nil A05 fun args r h=>?_
 unfold G7 at h
 split at h
 ·rename_i l
  split at h
  ·rename_i hc
   injection h with h;subst h
   obtain ⟨m,ps,rfl,hl⟩:=hc
   rw [aQ,Fv]
   refine ⟨by simp,by simp [D.cl],fun H T=>?_⟩
   simp +contextual only [c95,go_sem]
   refine jG (ps.map c9) (fun i s=>s.t 0 = aA m (ps.map c9) /\ s.t 3 = .int .i64 (i : Int) /\ twB (ps.take i) = false /\ s.H = H /\ s.T = T) hX ⟨by simp [upd,bF],by simp [upd],by rfl,rfl,rfl⟩ ?_ ?_
   ·rintro i x ⟨t,B,U⟩ hx hm hi ⟨t0,t3,hF,rfl,rfl⟩
    simp only at t0 t3
    rw [List.length_map] at hi
    have d1 : decide ((i : Int) < (ps.map c9).length) = true:=by rw [List.length_map];simpa using hi
    have hx':=hx
    rw [List.getElem?_map,Option.map_eq_some_iff] at hx'
    obtain ⟨p,hp,rfl⟩:=hx'
    have hst:=I7 hp
    rw [hF,Bool.false_or] at hst
    simp +contextual only [t0,t3,d1,go_sem]
    refine Qc i (fun j s=>s.t 0 = aA m (ps.map c9) /\ s.t 3 = .int .i64 (i : Int) /\ s.t 4 = .int .i64 (j : Int) /\ (ps.take j).contains p = false /\ s.H = B /\ s.T = U) hX ⟨by simp [upd,t0],by simp [upd,t3],by simp [upd],by simp,rfl,rfl⟩ ?_ ?_
    ·clear t0 t3
     rintro j ⟨t,B',U'⟩ hj ⟨t0,t3,t4,hG,rfl,rfl⟩
     simp only at t0 t3 t4
     have d2 : decide ((j : Int) < (i : Int)) = true:=by simpa using hj
     have hj' : j < ps.length:=by omega
     have hq : ps[j]? = some ps[j]:=by simp [hj']
     obtain ⟨q,hqe⟩ : ∃ z,ps[j] = z:=⟨_,rfl⟩
     rw [hqe] at hq
     have hy : (ps.map c9)[j]? = some (c9 q):=by rw [List.getElem?_map,hq];rfl
     have he:=Ng p q
     have tk : ps.take (j + 1) = ps.take j ++ [q]:=by rw [List.take_add_one,hq];rfl
     rcases tf (p == q) with e | e
     ·have hin : (ps.take i).contains p = true:=by
       rw [List.contains_iff_mem]
       have e : p = q:=by simpa using e
       rw [e,List.mem_iff_getElem?]
       exact ⟨j,by rw [List.getElem?_take_of_lt hj];exact hq⟩
      rw [hin] at hst
      have ht:=J7 hst
      rw [e] at he
      rw [ht]
      simp only [c9] at hx hy he
      simp +contextual only [t0,t3,t4,d2,hx,hy,he,go_sem]
     ·rw [e] at he
      simp only [c9] at hx hy he
      simp +contextual only [t0,t3,t4,d2,hx,hy,he,aH j (by omega),go_sem]
      have e1 : (ps.take (j + 1)).contains p = ((ps.take j).contains p || (p == q)):=by
       rw [tk,Bool.eq_iff_iff];simp
      rw [e1,hG,e];rfl
    ·clear t0 t3
     rintro ⟨t,B',U'⟩ ⟨t0,t3,t4,hG,rfl,rfl⟩
     simp only at t0 t3 t4
     have d2 : decide ((i : Int) < (i : Int)) = false:=by simp
     rw [hG] at hst
     simp +contextual only [t0,t3,t4,d2,aH i (by omega),go_sem]
     exact hst
   ·rintro ⟨t,B,U⟩ ⟨t0,t3,hF,rfl,rfl⟩
    simp only at t0 t3
    have d1 : decide (((ps.map c9).length : Int) < (ps.map c9).length) = false:=by simp
    rw [List.length_map,List.take_length] at hF
    rw [hF]
    simp +contextual only [t0,t3,d1,go_sem]
  ·cases h
 ·cases h
open Classical in
noncomputable def Gf : List D -> Option D
 | [d,.bool h,e]=>if kI aK d /\ isE aK e /\ uR (dFs d) then some (.int .i64 (fW (dFs d) h e)) else none
 | _=>none
set_option maxHeartbeats 4000000 in
theorem A0N : aO Tryz.prog 96 Gf:=by
 refine aG (l:=[(157,oC aK)]) (.cons (Pu aK) .nil) Zr fun args r h=>?_
 unfold Gf at h
 split at h
 ·rename_i d hb e
  split at h
  ·rename_i hc
   injection h with h;subst h
   refine ⟨by simp,by simp [D.cl],fun H T=>?_⟩
   obtain ⟨hd,he,hk⟩:=hc
   have ed:=dX hd
   have ee:=bW he
   obtain ⟨c1,c2,c3,c4⟩:=fT he
   obtain ⟨m,fs,us,m',ps,rfl,k1,k2,k3,k4,k5⟩:=hd
   simp only [mQ] at hk ⊢
   simp only [dA] at ed
   have ef : (aA m fs).erase = aA m fs:=by rw [bE,bB fun x h=>fQ (k4 x h)]
   have pt : oC aK [aA m fs,e] = some (dE (j4 aK fs e)):=by
    simp only [oC];rw [if_pos ⟨⟨m,fs,rfl,k1,k4⟩,he⟩,aQ,(DY hk aK e).1]
   unfold fW
   obtain ⟨⟨a,f⟩,htx⟩ : ∃ z,j4 aK fs e = z:=⟨_,rfl⟩
   rw [htx] at pt ⊢
   cases hb with
   | false=>simp +contextual only [c96,dA,ed,ee,c1,c2,c3,c4,Bool.not_false,go_sem]
   | true =>
    rcases tf (f == 0) with g | g
    ·rcases tf (a != 1) with g2 | g2 <;> simp +contextual only [c96,dA,ed,ef,ee,c1,c2,c3,c4,pt,dE,g,g2,Bool.not_true,Bool.and_true,Bool.true_and,Bool.and_false,go_sem]
    ·simp +contextual only [c96,dA,ed,ef,ee,c1,c2,c3,c4,pt,dE,g,Bool.not_true,Bool.false_and,go_sem]
  ·cases h
 ·cases h
theorem kV.ext {sz : Nat} {T U V : Tk} {xs : List D} {d : D} (h : kV sz T xs d U) (k : bQ U V) : kV sz T xs d V:=by
 obtain ⟨L,rfl⟩:=k;exact h.app L
theorem kV.len {sz : Nat} {T U : Tk} {xs : List D} {d : D} (h : kV sz T xs d U) : dZ d = some xs.length:=by
 obtain ⟨_,⟨rfl,rfl⟩ | ⟨i,_,rfl,_⟩⟩:=h <;> rfl
theorem kV.sl {sz : Nat} {T U : Tk} {xs : List D} {d : D} (h : kV sz T xs d U) (he : D.eraseL xs = xs) : ∃ m,d.erase = aA m xs:=by
 obtain ⟨_,⟨rfl,rfl⟩ | ⟨i,_,rfl,_⟩⟩:=h
 ·exact ⟨true,by simp [D.erase,aA]⟩
 ·exact ⟨false,by simp [D.erase,aA,he]⟩
theorem BS (l : List Nm) : (l.map c9).all (fit 2) = true:=by
 rw [List.all_map,List.all_eq_true];intro x _;rfl
open Classical in
noncomputable def C5 : List D -> Option D
 | [d]=>if ckD2 d /\ uR (dFs d) then some (.int .i64 (ckI d)) else none
 | _=>none
theorem RJ {d e : D} {h : Bool} (hd : kI aK d) (hk : uR (dFs d)) (he : isE aK e) : Gf [d,.bool h,e] = some (.int .i64 (fW (dFs d) h e)):=by
 simp only [Gf];rw [if_pos ⟨hd,he,hk⟩]
theorem QE {f : D -> Nm} {xs : List D} {i : Nat} : (((xs.take i).map f).map c9).length <= xs.length:=by
 rw [List.length_map,List.length_map,List.length_take];omega
theorem rC {f : D -> Nm} {xs : List D} {i : Nat} {y : D} (h : xs.length <= 2 ^ 40) : ((((xs.take i).map f).map c9).length + [y].length) * 32 <= 2 ^ 47 /\ (((xs.take i).map f).map c9).length + [y].length < 2 ^ 62:=by
 have:=QE (f:=f) (xs:=xs) (i:=i)
 rw [List.length_singleton];omega
noncomputable abbrev WQ : Fs:=[(94,Fo),(95,G7),(96,Gf)]
theorem n5 {f : D -> Nm} {xs : List D} {i : Nat} {x : D} (h : xs[i]? = some x) : ((xs.take (i + 1)).map f).map c9 = ((xs.take i).map f).map c9 ++ [c9 (f x)]:=by
 rw [List.take_add_one,h,List.map_append,List.map_append];rfl
set_option maxHeartbeats 32000000 in
theorem A0g : aO Tryz.prog 42 C5:=by
 have hX:=aI WQ
 refine aG (l:=WQ) (.cons Zx (.cons A0j (.cons A0N .nil))) A1G fun args r h=>?_
 unfold C5 at h
 split at h
 ·rename_i d
  split at h
  ·rename_i hdk
   injection h with h;subst h
   refine ⟨by simp,by simp [D.cl],fun H T=>?_⟩
   obtain ⟨hd,hk⟩:=hdk
   have pt:=fun (h : Bool) (e : D) (he : isE aK e)=>RJ (h:=h) hd.s hk he
   obtain ⟨hs,h1,h2,h3⟩:=hd
   have ed:=dX hs
   unfold ckI yC B8
   obtain ⟨m,fs,us,m',ps,rfl,k1,k2,k3,k4,k5⟩:=hs
   simp only [mQ,mZ,DJ] at h1 h2 h3 pt ⊢
   simp only [dA] at ed pt
   simp +contextual only [c42,dA,ed,go_sem]
   refine jG fs (fun i s=>s.t 1 = .ptr H.length 0 /\ s.t 4 = .nils /\ s.t 5 = .int .i64 (i : Int) /\ kV 2 T (((fs.take i).map nmF).map c9) (s.t 3) s.T /\ s.H = H ++ [.row [aA m fs,.str us,aA m' ps]]) hX ⟨by simp [upd],by simp [upd],by simp [upd],kV.nil 2 T (bQ.refl _),rfl⟩ ?_ ?_
   ·rintro i x ⟨t,B,U⟩ hx hm hi ⟨t1,t4,t5,hA,rfl⟩
    simp only at t1 t4 t5 hA
    have d1 : decide ((i : Int) < fs.length) = true:=by simpa using hi
    have ms:=n5 (f:=nmF) hx
    obtain ⟨w,n,k,b,rfl,_⟩:=k4 x hm
    have e1 : c9 (nmF (mkF w n k b)) = .agg [.str w,.str n]:=rfl
    rw [e1] at ms
    simp +contextual only [t1,t4,t5,d1,hx,mkF,go_sem]
    refine BD (bytes:=32) _ hA rfl (BS _) (rC (f:=nmF) (xs:=fs) (i:=i) (by omega)).1 (rC (f:=nmF) (xs:=fs) (i:=i) (by omega)).2 fun d2 T2 hA2=>?_
    simp +contextual only [t1,t4,t5,aH i (by omega),go_sem]
    rw [ms];exact hA2
   ·rintro ⟨t,B,U⟩ ⟨t1,t4,t5,hA,rfl⟩
    simp only at t1 t4 t5 hA
    have d1 : decide ((fs.length : Int) < fs.length) = false:=by simp
    rw [List.take_length] at hA
    obtain ⟨m3,em3⟩:=hA.sl (tT _)
    have hT0:=hA.1
    obtain ⟨D3,hD3⟩ : ∃ z,t 3 = z:=⟨_,rfl⟩
    rw [hD3] at em3
    clear hA
    have pu : Fo [.str us] = some (.bool (kN us)):=rfl
    simp +contextual only [t1,t4,t5,hD3,d1,pu,go_sem]
    refine jG ps (fun i s=>s.t 1 = .ptr H.length 0 /\ s.t 3 = D3 /\ s.t 6 = .bool ((ps.take i).any fun p=>twB ((pRs p).map nmR)) /\ s.t 7 = .bool (kN us && (ps.take i).all fun p=>kN (pUs p)) /\ s.t 8 = .int .i64 (mN (ps.take i) : Int) /\ s.t 9 = .int .i64 (i : Int) /\ kV 2 U (((ps.take i).map nmP).map c9) (s.t 4) s.T /\ s.H = H ++ [.row [aA m fs,.str us,aA m' ps]]) hX ⟨by simp [upd,t1],by simp [upd,hD3],by simp [upd],by simp [upd],by simp [upd,mN],by simp [upd],by simpa [upd,t4] using kV.nil 2 U (bQ.refl _),rfl⟩ ?_ ?_
    ·clear t1 t4 t5 hD3 d1
     rintro i x ⟨t,B,V⟩ hx hm hi ⟨t1,t3,t6,t7,t8,t9,hA,rfl⟩
     simp only at t1 t3 t6 t7 t8 t9 hA
     have d1 : decide ((i : Int) < ps.length) = true:=by simpa using hi
     have hr:=h3 x hm
     have hs:=IM h3 i
     have ms:=n5 (f:=nmP) hx
     have tk : ps.take (i + 1) = ps.take i ++ [x]:=by rw [List.take_add_one,hx];rfl
     have ts : mN (ps.take (i + 1)) = mN (ps.take i) + (pRs x).length:=by rw [tk];simp [mN]
     have ta : (ps.take (i + 1)).all (fun p=>kN (pUs p)) = ((ps.take i).all (fun p=>kN (pUs p)) && kN (pUs x)):=by rw [tk];simp
     have ty : ((ps.take (i + 1)).any fun p=>twB ((pRs p).map nmR)) = (((ps.take i).any fun p=>twB ((pRs p).map nmR)) || twB ((pRs x).map nmR)):=by rw [tk];simp
     rw [ts,ta,ty,← Bool.and_assoc]
     clear tk ts ta ty
     obtain ⟨S,hS⟩ : ∃ z,mN (ps.take i) = z:=⟨_,rfl⟩
     obtain ⟨b7,hb7⟩ : ∃ z,(kN us && (ps.take i).all fun p=>kN (pUs p)) = z:=⟨_,rfl⟩
     obtain ⟨b6,hb6⟩ : ∃ z,((ps.take i).any fun p=>twB ((pRs p).map nmR)) = z:=⟨_,rfl⟩
     rw [hS] at hs t8 ⊢
     rw [hb7] at t7 ⊢
     rw [hb6] at t6 ⊢
     obtain ⟨nm,bn,us',hf,e,mm,rs,rfl,he,l1,l2,l3,l4,l5⟩:=k5 x hm
     rw [lK] at hr ⊢
     rw [Dw]
     have e1 : c9 (nmP (mkP nm bn us' hf e mm rs)) = .agg [.str nm,.str []]:=by simp [c9,nmP,BJ]
     rw [e1] at ms
     have w2 : IntKind.i64.wrap ((S : Int) + rs.length) = ((S + rs.length : Nat) : Int):=by rw [<- Int.natCast_add];exact wI (by omega) (by omega)
     simp +contextual only [t1,t3,t6,t7,t8,t9,d1,hx,mkP,go_sem]
     refine jG rs (fun j s=>s.t 1 = .ptr H.length 0 /\ s.t 3 = D3 /\ s.t 4 = t 4 /\ s.t 6 = .bool b6 /\ s.t 7 = .bool b7 /\ s.t 8 = .int .i64 (S : Int) /\ s.t 9 = .int .i64 (i : Int) /\ s.t 11 = .int .i64 (j : Int) /\ kV 2 V (((rs.take j).map nmR).map c9) (s.t 10) s.T /\ s.H = H ++ [.row [aA m fs,.str us,aA m' ps]]) hX ⟨by simp [upd,t1],by simp [upd,t3],by simp [upd],by simp [upd,t6],by simp [upd,t7],by simp [upd,t8],by simp [upd,t9],by simp [upd],kV.nil 2 V (bQ.refl _),rfl⟩ ?_ ?_
     ·obtain ⟨D4,hD4⟩ : ∃ z,t 4 = z:=⟨_,rfl⟩
      rw [hD4]
      clear t1 t3 t6 t7 t8 t9 hA
      rintro j y ⟨t,B,W⟩ hy hmy hj ⟨t1,t3,t4,t6,t7,t8,t9,t11,hA,rfl⟩
      simp only at t1 t3 t4 t6 t7 t8 t9 t11 hA
      have d2 : decide ((j : Int) < rs.length) = true:=by simpa using hj
      have ms2:=n5 (f:=nmR) hy
      obtain ⟨pm,hi',nm',e',ma,mb,du,ad,rfl,_⟩:=l5 y hmy
      have e2 : c9 (nmR (mkR pm hi' nm' e' ma mb du ad)) = .agg [.str nm',.str []]:=by simp [c9,nmR,Ax]
      rw [e2] at ms2
      obtain ⟨DU,hDU⟩ : ∃ z,aA ma (du.map D.str) = z:=⟨_,rfl⟩
      obtain ⟨AD,hAD⟩ : ∃ z,aA mb (ad.map D.str) = z:=⟨_,rfl⟩
      simp only [mkP] at hx
      simp +contextual only [t1,t3,t4,t6,t7,t8,t9,t11,d2,hx,hy,mkR,hDU,hAD,go_sem]
      refine BD (bytes:=32) _ (hA.app _) rfl (BS _) (rC (f:=nmR) (xs:=rs) (i:=j) (by omega)).1 (rC (f:=nmR) (xs:=rs) (i:=j) (by omega)).2 fun d2 T2 hA2=>?_
      simp +contextual only [t1,t3,t4,t6,t7,t8,t9,t11,aH j (by omega),go_sem]
      rw [ms2];exact hA2
     ·rintro ⟨t',B',W⟩ ⟨s1,s3,s4,s6,s7,s8,s9,s11,hA',rfl⟩
      simp only at s1 s3 s4 s6 s7 s8 s9 s11 hA'
      have d2 : decide ((rs.length : Int) < rs.length) = false:=by simp
      rw [List.take_length] at hA'
      have hA2:=hA.ext hA'.1
      have hl:=hA'.len
      rw [List.length_map,List.length_map] at hl
      obtain ⟨m5,em5⟩:=hA'.sl (tT _)
      have p5:=MW m5 (ps:=rs.map nmR) (by rw [List.length_map];omega)
      obtain ⟨D10,hD10⟩ : ∃ z,t' 10 = z:=⟨_,rfl⟩
      obtain ⟨D4,hD4⟩ : ∃ z,t 4 = z:=⟨_,rfl⟩
      rw [hD10] at hl em5
      rw [hD4] at s4 hA2
      simp only [mkP] at hx
      simp +contextual only [s1,s3,s4,s6,s7,s8,s9,s11,hD10,d2,hx,go_sem]
      refine BD (bytes:=32) _ (hA2.app _) rfl (BS _) (rC (f:=nmP) (xs:=ps) (i:=i) (by omega)).1 (rC (f:=nmP) (xs:=ps) (i:=i) (by omega)).2 fun d3 T3 hA3=>?_
      have pu2 : Fo [.str us'] = some (.bool (kN us')):=rfl
      obtain ⟨t5',ht5⟩ : ∃ z,twB (rs.map nmR) = z:=⟨_,rfl⟩
      rw [ht5] at p5 ⊢
      cases b6 <;> cases b7 <;> simp +contextual only [s1,s3,s4,s6,s7,s8,s9,s11,hD10,hx,em5,p5,pu2,hl,w2,aH i (by omega),Bool.or_true,Bool.true_or,Bool.false_or,Bool.true_and,Bool.false_and,go_sem] <;> (rw [ms];exact hA3)
    ·clear t1 t4 t5 hD3 d1
     rintro ⟨t,B,V⟩ ⟨t1,t3,t6,t7,t8,t9,hA,rfl⟩
     simp only at t1 t3 t6 t7 t8 t9 hA
     have d1 : decide ((ps.length : Int) < ps.length) = false:=by simp
     rw [List.take_length] at hA t6 t7 t8
     obtain ⟨m4,em4⟩:=hA.sl (tT _)
     have hT1:=hA.1
     obtain ⟨D4,hD4⟩ : ∃ z,t 4 = z:=⟨_,rfl⟩
     rw [hD4] at em4
     clear hA
     have p3:=MW m3 (ps:=fs.map nmF) (by rw [List.length_map];omega)
     have p4:=MW m4 (ps:=ps.map nmP) (by rw [List.length_map];omega)
     obtain ⟨B3,hB3⟩ : ∃ z,twB (fs.map nmF) = z:=⟨_,rfl⟩
     obtain ⟨B4,hB4⟩ : ∃ z,twB (ps.map nmP) = z:=⟨_,rfl⟩
     obtain ⟨B6,hB6⟩ : ∃ z,(ps.any fun p=>twB ((pRs p).map nmR)) = z:=⟨_,rfl⟩
     obtain ⟨B7,hB7⟩ : ∃ z,(kN us && ps.all fun p=>kN (pUs p)) = z:=⟨_,rfl⟩
     rw [hB3] at p3 ⊢
     rw [hB4] at p4 ⊢
     rw [hB6] at t6 ⊢
     rw [hB7] at t7 ⊢
     obtain ⟨S,hS⟩ : ∃ z,mN ps = z:=⟨_,rfl⟩
     rw [hS] at t8 ⊢
     have hTV : bQ T V:=by
      obtain ⟨L,rfl⟩:=hT0
      obtain ⟨M,rfl⟩:=hT1
      exact ⟨L ++ M,by simp⟩
     have L:=fun (r r0 : D)=>b8 (r:=r) (r0:=r0) (Ext.of H [.row [aA m fs,.str us,aA m' ps]]) hTV
     cases B3 with
     | true=>simp +contextual only [t1,t3,t6,t7,t8,t9,hD4,d1,em3,em4,p3,p4,Bool.true_or,L,go_sem]
     | false =>
     cases B4 with
     | true=>simp +contextual only [t1,t3,t6,t7,t8,t9,hD4,d1,em3,em4,p3,p4,Bool.true_or,Bool.false_or,L,go_sem]
     | false =>
     cases B6 with
     | true=>simp +contextual only [t1,t3,t6,t7,t8,t9,hD4,d1,em3,em4,p3,p4,Bool.true_or,Bool.false_or,L,go_sem]
     | false =>
     cases B7 with
     | false=>simp +contextual only [t1,t3,t6,t7,t8,t9,hD4,d1,em3,em4,p3,p4,Bool.or_self,Bool.not_false,Bool.false_eq_true,L,go_sem]
     | true =>
     rcases tf (decide (24 < (S : Int))) with g | g
     ·simp +contextual only [t1,t3,t6,t7,t8,t9,hD4,d1,em3,em4,p3,p4,g,Bool.or_self,Bool.not_true,Bool.false_eq_true,L,go_sem]
     simp +contextual only [t1,t3,t6,t7,t8,t9,hD4,d1,em3,em4,p3,p4,g,Bool.or_self,Bool.not_true,Bool.false_eq_true,go_sem]
     clear L em3 em4 p3 p4
     refine jG ps (fun i s=>s.t 1 = .ptr H.length 0 /\ s.t 12 = .int .i64 (i : Int) /\ j8 (CB fs) ps = j8 (CB fs) (ps.drop i) /\ Ext (H ++ [.row [aA m fs,.str us,aA m' ps]]) s.H /\ s.T = V) hX ⟨by simp [upd,t1],by simp [upd],by simp,Ext.refl _,rfl⟩ ?_ ?_
     ·clear t1 t3 t6 t7 t8 t9 hD4 d1
      rintro i x ⟨t,B,V'⟩ hx hm hi ⟨t1,t12,hF,hB,rfl⟩
      simp only at t1 t12 hB
      have d1 : decide ((i : Int) < ps.length) = true:=by simpa using hi
      have hg:=hB.get (o:=H.length) (by simp;rfl)
      rw [oB hx] at hF
      obtain ⟨nm,bn,us',hf,e,mm,rs,rfl,he,l1,l2,l3,l4,l5⟩:=k5 x hm
      have hr:=h3 _ hm
      rw [lK] at hr
      have hE:=mS he
      have ee:=bW he
      have p1:=pt hf e he
      have hP : CB fs (mkP nm bn us' hf e mm rs) = if fW fs hf e != 0 then fW fs hf e else j8 (BH fs) rs:=by
       unfold CB;rw [DK,GL _ _ _ _ _ _ _ he,lK]
      obtain ⟨pi,hpi⟩ : ∃ z,CB fs (mkP nm bn us' hf e mm rs) = z:=⟨_,rfl⟩
      rw [hpi] at hF hP
      obtain ⟨v,hv⟩ : ∃ z,fW fs hf e = z:=⟨_,rfl⟩
      rw [hv] at p1 hP
      clear hpi hv
      simp +contextual only [t1,t12,bN hg,cW hg,d1,hx,mkP,hE,ee,ed,p1,go_sem]
      refine jG rs (fun j s=>s.t 1 = .ptr H.length 0 /\ s.t 12 = .int .i64 (i : Int) /\ s.t 13 = .ptr B.length 0 /\ s.t 15 = .int .i64 (j : Int) /\ (∃ w : Int,s.t 14 = .int .i64 w /\ pi = if w != 0 then w else j8 (BH fs) (rs.drop j)) /\ Ext (B ++ [.row (mkP nm bn us' hf e mm rs).cells]) s.H /\ s.T = V') hX ⟨by simp [upd,t1],by simp [upd,t12],by simp [upd],by simp [upd],⟨v,by simp [upd],by simpa using hP⟩,Ext.refl _,rfl⟩ ?_ ?_
      ·clear hg t1 t12 hP p1 d1
       rintro j y ⟨t',B',V2⟩ hy hmy hj ⟨t1,t12,t13,t15,⟨w,t14,hW⟩,hB2,rfl⟩
       simp only at t1 t12 t13 t15 t14 hB2
       have hB3:=(hB.app _).trans hB2
       have d2 : decide ((j : Int) < rs.length) = true:=by simpa using hj
       have hg:=hB3.get (o:=H.length) (by simp;rfl)
       have hg2:=hB2.get (o:=B.length) (by simp;rfl)
       simp only [mkP,D.cells] at hg2
       rcases tf (w == 0) with e0 | e0
       ·have e1 : (w != 0) = false:=by simp [bne,e0]
        simp only [e1,Bool.false_eq_true,if_false] at hW
        rw [oB hy] at hW
        obtain ⟨pm,hi',nm',e',ma,mb,du,ad,rfl,he',_,_,_⟩:=l5 y hmy
        have hE':=mS he'
        have ee':=bW he'
        have p2:=pt hi' e' he'
        have hR : BH fs (mkR pm hi' nm' e' ma mb du ad) = fW fs hi' e':=by
         unfold BH;rw [Ds,Fu _ _ _ _ _ _ _ _ he']
        rw [hR] at hW
        obtain ⟨DU,hDU⟩ : ∃ z,aA ma (du.map D.str) = z:=⟨_,rfl⟩
        obtain ⟨AD,hAD⟩ : ∃ z,aA mb (ad.map D.str) = z:=⟨_,rfl⟩
        simp +contextual only [t1,t12,t13,t14,t15,bN hg,bN hg2,d2,e0,hy,mkR,hDU,hAD,hE',ee',ed,p2,aH j (by omega),go_sem]
        exact ⟨⟨_,rfl,hW⟩,hB2⟩
       ·have e1 : (w != 0) = true:=by simp [bne,e0]
        simp only [e1,if_true] at hW
        subst hW
        simp only [e1,if_true] at hF
        rw [hF]
        simp +contextual only [t1,t12,t13,t14,t15,bN hg,bN hg2,d2,e0,e1,b8 hB3.pre hTV,go_sem]
      ·rintro ⟨t',B',V2⟩ ⟨t1,t12,t13,t15,⟨w,t14,hW⟩,hB2,rfl⟩
       simp only at t1 t12 t13 t15 t14 hB2
       have hB3:=(hB.app _).trans hB2
       have d2 : decide ((rs.length : Int) < rs.length) = false:=by simp
       have hg:=hB3.get (o:=H.length) (by simp;rfl)
       have hg2:=hB2.get (o:=B.length) (by simp;rfl)
       simp only [mkP,D.cells] at hg2
       rw [List.drop_length] at hW
       rcases tf (w != 0) with e1 | e1
       ·simp only [e1,if_true] at hW
        subst hW
        simp only [e1,if_true] at hF
        rw [hF]
        simp +contextual only [t1,t12,t13,t14,t15,bN hg,bN hg2,d2,e1,b8 hB3.pre hTV,go_sem]
       ·simp only [e1,Bool.false_eq_true,if_false,j8] at hW
        subst hW
        simp only [bne_self_eq_false,Bool.false_eq_true,if_false] at hF
        simp +contextual only [t1,t12,t13,t14,t15,bN hg,bN hg2,d2,e1,aH i (by omega),go_sem]
        exact ⟨hF,hB3⟩
     ·rintro ⟨t,B,V'⟩ ⟨t1,t12,hF,hB,rfl⟩
      simp only at t1 t12 hB
      have d1 : decide ((ps.length : Int) < ps.length) = false:=by simp
      have hg:=hB.get (o:=H.length) (by simp;rfl)
      rw [hF,List.drop_length]
      simp +contextual only [t1,t12,bN hg,d1,j8,b8 hB.pre hTV,go_sem]
  ·cases h
 ·cases h
structure goodR (full : Bool) (r : D) : Prop where
 s : isR aK r
 e : rHi r = true -> GoodE (rE r) /\ (tkC full (rE r)).length <= 2 ^ 28
 d : (rDu r).length <= 4
 a : (rAd r).length <= 4
section
variable {f : D -> List D} {l : List D}
end
structure goodP (full : Bool) (p : D) : Prop where
 s : C7 aK p
 e : pHf p = true -> GoodE (pE p) /\ (tkC full (pE p)).length <= 2 ^ 28
 l : (pRs p).length <= 8
 r : ∀ r ∈ pRs p,goodR full r
structure goodD (full : Bool) (d : D) : Prop where
 s : kI aK d
 f : (dFs d).length <= 12
 k : ∀ f ∈ dFs d,1 <= oW f /\ oW f <= 4
 l : (dPs d).length <= 6
 p : ∀ p ∈ dPs d,goodP full p
section
variable {toks : List D} {a : Nat}
end
structure okE (e : D) : Prop where
 s : isE aK e
 g : GoodE e
 r : rgC e
 d : dpt aK e <= 12
structure rdR (r : D) : Prop where
 s : isR aK r
 o : okR r = true
 g : rgC (rE r)
theorem Ea : isE aK iO:=FP
theorem Nr {x : D} (hx : isE aK x) (pm hi : Bool) (nm : List UInt8) (du ad : List (List UInt8)) : D.agg ([.bool pm,.str nm,.bool hi] ++ x.cells ++ [aA true (du.map .str),aA true (ad.map .str)]) = mkR pm hi nm x true true du ad:=by
 obtain ⟨n,hn⟩:=sE hx
 rw [hn] at hx
 obtain ⟨op,k,i,s,nl,l,who,name,m,ps,rfl,_⟩:=hx
 rfl
structure rdP (F G : Nat) (p : D) : Prop where
 s : C7 aK p
 o : okP p = true
 g : rgC (pE p)
 r : ∀ r ∈ pRs p,rgC (rE r) /\ (rDu r).length + (rAd r).length < F
 l : (pRs p).length < G
theorem J1 {x : D} (hx : isE aK x) (nm bn us : List UInt8) (hf : Bool) (rs : List D) : D.agg ([.str nm,.str bn,.str us,.bool hf] ++ x.cells ++ [aA true rs]) = mkP nm bn us hf x true rs:=by
 obtain ⟨n,hn⟩:=sE hx
 rw [hn] at hx
 obtain ⟨op,k,i,s,nl,l,who,name,m,ps,rfl,_⟩:=hx
 rfl
structure rdD (d : D) : Prop where
 s : kI aK d
 o : okD d = true
 f : (dFs d).length < 1000
 l : (dPs d).length < 1000
 g : ∀ p ∈ dPs d,rgC (pE p) /\ (pRs p).length < 1000 /\ ∀ r ∈ pRs p,rgC (rE r) /\ (rDu r).length + (rAd r).length < 1000
theorem WF {d : D} (h : okD d = true) : cG 1 (dUs d) 0 = true /\ (∀ x ∈ dFs d,okF x = true) /\ ∀ x ∈ dPs d,okP x = true:=by
 unfold okD at h
 simp only [Bool.and_eq_true,List.all_eq_true] at h
 exact ⟨h.1,h.2.1,h.2.2⟩
def rgD (d : D) : Prop:=∀ p ∈ dPs d,rgC (pE p) /\ ∀ r ∈ pRs p,rgC (rE r)
end GP
