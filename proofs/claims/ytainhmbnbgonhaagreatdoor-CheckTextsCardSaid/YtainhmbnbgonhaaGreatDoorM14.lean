import Derived.Test.YtainhmbnbgonhaaGreatDoorM13
set_option linter.unusedSimpArgs false
set_option linter.unnecessarySimpa false
namespace GP
open Go Go.Proofs
set_option maxRecDepth 100000
def jB (s : List UInt8) : D:=.agg [.int .i64 3,.int .i64 0,.str (s.take (min s.length 64)),.nils]
def BN : List D -> Option D
 | [.str s]=>if s.length <= 2 ^ 60 then some (jB s) else none
 | _=>none
theorem TL [HasG Tryz.prog] : aO Tryz.prog 243 BN:=by
 refine aG (l:=[]) .nil Wi fun args r h=>?_
 unfold BN at h
 split at h
 ·rename_i s
  split at h
  ·rename_i hs
   injection h with h;subst h
   refine ⟨by simp,by simp [jB,D.cl,D.clL],fun H T=>?_⟩
   have m : (if (64 : Int) < (s.length : Int) then (64 : Int) else (s.length : Int)) = ((min s.length 64 : Nat) : Int):=by split <;> omega
   have sb : sub (some 0) (some ((min s.length 64 : Nat) : Int)) (.str s) = some (.str (s.take (min s.length 64))):=by
    simp only [sub]
    rw [if_pos ⟨by omega,by omega,by omega⟩]
    simp [aP]
   obtain ⟨m64,hm⟩ : ∃ m,min s.length 64 = m:=⟨_,rfl⟩
   rw [hm] at m sb
   simp only [jB,hm]
   simp +contextual only [Uc,m,sb,go_sem]
  ·cases h
 ·cases h
def vQ (n : Int) : D:=.agg [.int .i64 4,.int .i64 n,.str [],.nils]
def mP (b : Bool) : D:=.agg [.int .i64 1,.int .i64 (if b then 1 else 0),.str [],.nils]
def gB : List UInt8:=[116,114,117,101]
def hU : List UInt8:=[102,97,108,115,101]
def aF (toks : List D) (st : St) : D × Bool × St :=
 if tk (bI toks st) == 2 then (num (tn (bI toks st)),true,(st.1 + 1,st.2)) else
 if tk (bI toks st) == 3 then (jB (ts (bI toks st)),true,(st.1 + 1,st.2)) else
 if tk (bI toks st) == 4 then (vQ (tn (bI toks st)),true,(st.1 + 1,st.2)) else
 if isP toks st gB || isP toks st hU then (mP (ts (bI toks st) == gB),true,(st.1 + 1,st.2)) else (eE,false,st)
def GB : GE:=fun rest toks a e=>match rest with
 | []=>some (.tup [(aF toks (a,e)).1,.bool (aF toks (a,e)).2.1],(aF toks (a,e)).2.2)
 | _=>none
theorem Q6 : bK Tryz.prog 239 (φC GB):=by
 have hM : cQ [(177,φQ kK),(117,φQ gIs)]:=.cons (lI kK) (.cons (lI gIs) .nil)
 refine dF (l:=[(242,nD),(243,BN),(244,AM)]) (m:=[(177,φQ kK),(117,φQ gIs)]) (ee:=[]) (.cons Q5 (.cons TL (.cons Vw .nil))) (.cons J8 (.cons Lz .nil)) .nil SZ fun H p n xs a e rest r a' e' hp htk hlen h=>?_
 unfold GB at h
 split at h
 ·injection h with h
  obtain ⟨k0,s0,m0,e0,hs0⟩:=l9 htk a e
  have qa:=dC (n:=n) hp htk hlen;have qa0:=bY (n:=n) hp htk hlen;have ca:=cV (n:=n) hp htk hlen;have ca0:=cC (n:=n) hp htk hlen;have rc:=fA hp;have rc0:=cU hp;have sc:=fun K : D -> S -> Prop=>fM (K:=K) hp;have sc0:=fun K : D -> S -> Prop=>d9 (K:=K) hp
  have e0':=e0
  simp only [mkT] at e0'
  have p1 : nD [.int .i64 m0] = some (num m0):=rfl
  have p2 : BN [.str s0] = some (jB s0):=by simp only [BN];rw [if_pos (by omega)]
  have p3 : AM [.bool (s0 == gB)] = some (mP (s0 == gB)):=rfl
  have hst : bI xs (a,e) = mkT k0 s0 m0:=e0
  have hw : tk (mkT k0 s0 m0) ≠ 0 -> IntKind.i64.wrap ((a : Nat) + 1 : Int) = ((a + 1 : Nat) : Int):=fun hk=>by
   have:=vP (toks:=xs) (a:=a) (e:=e) (by rw [e0];exact hk)
   exact Dh (by omega)
  rcases tf (k0 == 2) with g2 | g2
  ·have f : aF xs (a,e) = (num m0,true,(a + 1,e)):=by simp only [aF,hst,lE,zJ];rw [if_pos g2]
   rw [f] at h
   injection h with h1 h2;injection h2 with h2 h3
   subst h1;subst h2;subst h3
   have w:=hw (by rw [lE];have : k0 = 2:=(by simpa using g2);omega)
   refine ⟨by simp,by simp [num,D.cl,D.clL],fun T=>?_⟩
   simp only [num] at p1 ⊢
   simp +contextual only [qa,qa0,ca,ca0,rc,rc0,sc,sc0,Gt,kK,e0',cH hM,g2,w,p1,go_sem]
   all_goals ((repeat' (first | apply And.intro | intro _)) <;> (first | omega | exact lvM))
  rcases tf (k0 == 3) with g3 | g3
  ·have f : aF xs (a,e) = (jB s0,true,(a + 1,e)):=by simp only [aF,hst,lE,kU];rw [if_neg (by rw [g2];decide),if_pos g3]
   rw [f] at h
   injection h with h1 h2;injection h2 with h2 h3
   subst h1;subst h2;subst h3
   have w:=hw (by rw [lE];have : k0 = 3:=(by simpa using g3);omega)
   refine ⟨by simp,by simp [jB,D.cl,D.clL],fun T=>?_⟩
   simp only [jB] at p2 ⊢
   simp +contextual only [qa,qa0,ca,ca0,rc,rc0,sc,sc0,Gt,kK,e0',cH hM,g2,g3,w,p2,go_sem]
   all_goals ((repeat' (first | apply And.intro | intro _)) <;> (first | omega | exact lvM))
  rcases tf (k0 == 4) with g4 | g4
  ·have f : aF xs (a,e) = (vQ m0,true,(a + 1,e)):=by simp only [aF,hst,lE,zJ];rw [if_neg (by rw [g2];decide),if_neg (by rw [g3];decide),if_pos g4]
   rw [f] at h
   injection h with h1 h2;injection h2 with h2 h3
   subst h1;subst h2;subst h3
   have w:=hw (by rw [lE];have : k0 = 4:=(by simpa using g4);omega)
   refine ⟨by simp,by simp [vQ,D.cl,D.clL],fun T=>?_⟩
   simp only [vQ]
   simp +contextual only [qa,qa0,ca,ca0,rc,rc0,sc,sc0,Gt,kK,e0',cH hM,g2,g3,g4,w,go_sem]
   all_goals ((repeat' (first | apply And.intro | intro _)) <;> (first | omega | exact lvM))
  have i1 : gIs [.str [116,114,117,101]] xs a e = some (.bool (isP xs (a,e) gB)):=rfl
  have i2 : gIs [.str [102,97,108,115,101]] xs a e = some (.bool (isP xs (a,e) hU)):=rfl
  rcases tf (isP xs (a,e) gB || isP xs (a,e) hU) with g5 | g5
  ·have f : aF xs (a,e) = (mP (s0 == gB),true,(a + 1,e)):=by simp only [aF,hst,lE,kU];rw [if_neg (by rw [g2];decide),if_neg (by rw [g3];decide),if_neg (by rw [g4];decide),if_pos g5]
   rw [f] at h
   injection h with h1 h2;injection h2 with h2 h3
   subst h1;subst h2;subst h3
   have hk : a < xs.length:=by
    simp only [Bool.or_eq_true] at g5
    rcases g5 with g5 | g5 <;> exact (yI g5).1
   have w:=Dh (a:=a) (by omega)
   refine ⟨by simp,by simp [mP,D.cl,D.clL],fun T=>?_⟩
   simp only [mP,gB] at p3 ⊢
   rcases tf (isP xs (a,e) gB) with g6 | g6
   ·rw [g6] at i1
    simp +contextual only [qa,qa0,ca,ca0,rc,rc0,sc,sc0,Gt,kK,e0',cH hM,g2,g3,g4,i1,w,p3,go_sem]
    all_goals ((repeat' (first | apply And.intro | intro _)) <;> (first | omega | exact lvM))
   ·rw [g6,Bool.false_or] at g5
    rw [g6] at i1
    rw [g5] at i2
    simp +contextual only [qa,qa0,ca,ca0,rc,rc0,sc,sc0,Gt,kK,e0',cH hM,g2,g3,g4,i1,i2,w,p3,go_sem]
    all_goals ((repeat' (first | apply And.intro | intro _)) <;> (first | omega | exact lvM))
  ·have f : aF xs (a,e) = (eE,false,(a,e)):=by simp only [aF,hst,lE];rw [if_neg (by rw [g2];decide),if_neg (by rw [g3];decide),if_neg (by rw [g4];decide),if_neg (by rw [g5];decide)]
   rw [f] at h
   injection h with h1 h2;injection h2 with h2 h3
   subst h1;subst h2;subst h3
   refine ⟨by simp,by simp [eE,D.cl,D.clL],fun T=>?_⟩
   simp only [Bool.or_eq_false_iff] at g5
   rw [g5.1] at i1
   rw [g5.2] at i2
   simp only [eE]
   simp +contextual only [qa,qa0,ca,ca0,rc,rc0,sc,sc0,Gt,kK,e0',cH hM,g2,g3,g4,i1,i2,go_sem]
   all_goals ((repeat' (first | apply And.intro | intro _)) <;> (first | omega | exact lvM))
 ·cases h
def dD (toks : List D) (st : St) : D × St :=
 if isP toks st [45] then (num (IntKind.i64.wrap (0 - tn (cL toks 2 (st.1 + 1,st.2)).1)),(cL toks 2 (st.1 + 1,st.2)).2) else
 if (aF toks st).2.1 then ((aF toks st).1,(aF toks st).2.2) else ((aF toks st).1,bO (aF toks st).2.2.1 2 (aF toks st).2.2)
def AX : GE:=fun rest toks a e=>match rest with
 | []=>some (dD toks (a,e))
 | _=>none
def xQ (v : D) : Prop:=∃ k i s,v = .agg [.int .i64 k,.int .i64 i,.str s,.nils] /\ s.length <= 2 ^ 47
theorem wC {toks : List D} (h : toks.all bR = true) (st : St) : xQ (aF toks st).1:=by
 obtain ⟨k0,s0,m0,e0,hs0⟩:=l9 h st.1 st.2
 have hst : bI toks st = mkT k0 s0 m0:=e0
 unfold aF
 rw [hst]
 split
 ·exact ⟨_,_,_,rfl,by simp⟩
 split
 ·exact ⟨_,_,_,rfl,by simp [kU];omega⟩
 split
 ·exact ⟨_,_,_,rfl,by simp⟩
 split
 ·exact ⟨_,_,_,rfl,by simp⟩
 ·exact ⟨_,_,_,rfl,by simp⟩
theorem qP {toks : List D} (h : toks.all bR = true) (st : St) : xQ (dD toks st).1:=by
 unfold dD
 split
 ·exact ⟨_,_,_,rfl,by simp⟩
 split
 ·exact wC h st
 ·exact wC h st
theorem lB {v : D} (h : xQ v) : v.isV = true /\ v.erase = v /\ v.cl 0 0 = true /\ fit 4 v = true:=by
 obtain ⟨k,i,s,rfl,hs⟩:=h
 exact ⟨by simp [D.isV,hs],by simp [D.erase,D.eraseL],by simp [D.cl,D.clL],rfl⟩
theorem Uv : bK Tryz.prog 245 (φC AX):=by
 have hM : cQ []:=.nil
 refine dF (l:=[(242,nD)]) (m:=[]) (ee:=[(69,φC cR),(120,φC j0),(239,φC GB),(105,φC jE)]) (.cons Q5 .nil) .nil (.cons xN (.cons Fd (.cons Q6 (.cons yV .nil)))) XP fun H p n xs a e rest r a' e' hp htk hlen h=>?_
 unfold AX at h
 split at h
 ·injection h with h
  have qa:=dC (n:=n) hp htk hlen;have qa0:=bY (n:=n) hp htk hlen;have ca:=cV (n:=n) hp htk hlen;have ca0:=cC (n:=n) hp htk hlen;have rc:=fA hp;have rc0:=cU hp;have sc:=fun K : D -> S -> Prop=>fM (K:=K) hp;have sc0:=fun K : D -> S -> Prop=>d9 (K:=K) hp
  have hcl : r.cl 0 0 = true:=by
   have:=qP htk (a,e)
   rw [h] at this;exact (lB this).2.2.1
  refine ⟨by simp,hcl,fun T=>?_⟩
  rcases tf (isP xs (a,e) [45]) with g | g
  ·obtain ⟨k1,s1,m1,f1,hs1⟩:=wA htk 2 (a + 1,e)
   obtain ⟨⟨a1,e1⟩,f2⟩ : ∃ st,(cL xs 2 (a + 1,e)).2 = st:=⟨_,rfl⟩
   have f3 : cL xs 2 (a + 1,e) = (mkT k1 s1 m1,a1,e1):=by rw [<- f1,← f2]
   have hk : j0 [.int .i64 2] xs (a + 1) e = some (mkT k1 s1 m1,a1,e1):=by simp only [j0];rw [if_neg (by decide),f3]
   have f : dD xs (a,e) = (num (IntKind.i64.wrap (0 - m1)),a1,e1):=by unfold dD;rw [if_pos g,f3];rfl
   rw [f] at h
   injection h with h1 h2;injection h2 with h2 h3
   subst h1;subst h2;subst h3
   have p1 : nD [.int .i64 (IntKind.i64.wrap (0 - m1))] = some (num (IntKind.i64.wrap (0 - m1))):=rfl
   simp only [num,mkT] at p1 hk ⊢
   simp +contextual only [qa,qa0,ca,ca0,rc,rc0,sc,sc0,OV,cR,g,hk,p1,cH hM,go_sem]
   all_goals ((repeat' (first | apply And.intro | intro _)) <;> (first | omega | exact lvM))
  ·obtain ⟨k1,i1,s1,f1,hs1⟩:=wC htk (a,e)
   obtain ⟨⟨b1,a1,e1⟩,f2⟩ : ∃ z,(aF xs (a,e)).2 = z:=⟨_,rfl⟩
   have f3 : aF xs (a,e) = (.agg [.int .i64 k1,.int .i64 i1,.str s1,.nils],b1,a1,e1):=by rw [<- f1,← f2]
   have hk : GB [] xs a e = some (.tup [.agg [.int .i64 k1,.int .i64 i1,.str s1,.nils],.bool b1],a1,e1):=by simp only [GB,f3]
   cases b1 with
   | true =>
    have f : dD xs (a,e) = (.agg [.int .i64 k1,.int .i64 i1,.str s1,.nils],a1,e1):=by unfold dD;rw [if_neg (by rw [g];decide),f3];rfl
    rw [f] at h
    injection h with h1 h2;injection h2 with h2 h3
    subst h1;subst h2;subst h3
    simp +contextual only [qa,qa0,ca,ca0,rc,rc0,sc,sc0,OV,cR,g,hk,go_sem]
    all_goals ((repeat' (first | apply And.intro | intro _)) <;> (first | omega | exact lvM))
   | false =>
    obtain ⟨y1,y2,hy⟩ : ∃ y1 y2,bO a1 2 (a1,e1) = (y1,y2):=⟨_,_,rfl⟩
    have hf:=pR a1 2 xs e1
    have f : dD xs (a,e) = (.agg [.int .i64 k1,.int .i64 i1,.str s1,.nils],y1,y2):=by unfold dD;rw [if_neg (by rw [g];decide),f3];simp only [Bool.false_eq_true,if_false,hy]
    rw [hy] at hf
    rw [f] at h
    injection h with h1 h2;injection h2 with h2 h3
    subst h1;subst h2;subst h3
    simp +contextual only [qa,qa0,ca,ca0,rc,rc0,sc,sc0,OV,cR,g,hk,hf,go_sem]
    all_goals ((repeat' (first | apply And.intro | intro _)) <;> (first | omega | exact lvM))
 ·cases h
def lO (toks : List D) : Nat -> List D -> St -> Option (List D × St)
 | 0,_,_=>none
 | f + 1,out,st=>if isP toks st [44] then lO toks f (out ++ [(dD toks (st.1 + 1,st.2)).1]) (dD toks (st.1 + 1,st.2)).2 else some (out,st)
def iO : D:=.agg [.str [],.int .i64 0,.int .i64 0,.str [],.nils,.str [],.str [],.nils]
def kZ (v : D) : D:=.agg (.str [118,97,108,117,101] :: v.cells ++ [.str [],.str [],.nils])
def sP (toks : List D) (f from_ : Nat) (st : St) : Option (D × St):=match lO toks f [(dD toks st).1] (dD toks st).2 with
 | none=>none
 | some (out,st1)=>if (aD toks [93] st1).2 != 0 then some (iO,aD toks [93] st1) else
  some (kZ (gD out).1,if (gD out).2 != 0 then bO from_ 2 (aD toks [93] st1) else aD toks [93] st1)
def N1 (f : Nat) : GE:=fun rest toks a e=>match rest with
 | [.int .i64 m]=>if 0 <= m then sP toks f m.toNat (a,e) else none
 | _=>none
theorem Ac {toks : List D} (h : toks.all bR = true) : ∀ (f : Nat) (out : List D) (st : St) (r : List D × St),(∀ v ∈ out,xQ v) -> lO toks f out st = some r -> (∀ v ∈ r.1,xQ v) /\ out.length <= r.1.length
 | 0,_,_,_,_,h'=>by simp [lO] at h'
 | f + 1,out,st,r,ho,h'=>by
  simp only [lO] at h'
  split at h'
  ·obtain ⟨h1,h2⟩:=Ac h f _ _ r (fun v hv=>by
    rcases List.mem_append.1 hv with hv | hv
    ·exact ho v hv
    ·rw [List.mem_singleton] at hv;subst hv;exact qP h _) h'
   exact ⟨h1,by simp at h2;omega⟩
  ·injection h' with h';subst h'
   exact ⟨ho,Nat.le_refl _⟩
theorem F7 {toks : List D} : ∀ (f : Nat) (out : List D) (st : St) (r : List D × St),lO toks f out st = some r -> r.1.length <= out.length + f
 | 0,_,_,_,h'=>by simp [lO] at h'
 | f + 1,out,st,r,h'=>by
  simp only [lO] at h'
  split at h'
  ·have:=F7 f _ _ r h';simp at this;omega
  ·injection h' with h';subst h';simp
theorem tZ (xs : List D) : ∃ k i s n ys,(gD xs).1 = .agg [.int .i64 k,.int .i64 i,.str s,aA n ys] /\ (ys = [] ∨ ys = dS xs):=by
 unfold gD
 split
 ·exact ⟨0,0,[],true,[],rfl,.inl rfl⟩
 split
 ·exact ⟨0,0,[],true,[],rfl,.inl rfl⟩
 split
 ·exact ⟨0,0,[],true,[],rfl,.inl rfl⟩
 ·exact ⟨5,0,[],false,dS xs,rfl,.inr rfl⟩
theorem Id {xs : List D} (h : ∀ x ∈ xs,xQ x) : (gD xs).1.cl 0 0 = true /\ (gD xs).1.erase = (gD xs).1:=by
 have key : iX xs -> (gD xs).1.cl 0 0 = true /\ (gD xs).1.erase = (gD xs).1 ∨ True:=fun _=>.inr trivial
 unfold gD
 split
 ·exact ⟨rfl,by simp [eE,D.erase,D.eraseL]⟩
 split
 ·exact ⟨rfl,by simp [eE,D.erase,D.eraseL]⟩
 split
 ·exact ⟨rfl,by simp [eE,D.erase,D.eraseL]⟩
 ·rename_i g1 g2 _
  simp only [Bool.not_eq_false] at g1
  have hg : iX xs:=fun x hx=>by
   have f:=List.all_eq_true.1 g1 x hx
   have k : ¬ vk x = 5:=fun k=>g2 (List.any_eq_true.2 ⟨x,hx,by simp [mR,k]⟩)
   unfold fZ at f
   rwa [if_pos (by simpa using k)] at f
  refine ⟨JC xs hg,?_⟩
  have he : D.eraseL (dS xs) = dS xs:=bB fun d hd=>by
   obtain ⟨x,_,rfl⟩:=((jI hg).2 d).1 hd
   show (D.agg [_,_,_,D.sl none []]).erase = _
   simp [can,mkV,D.erase,D.eraseL]
   rfl
  show (D.agg [.int .i64 5,.int .i64 0,.str [],aA false (dS xs)]).erase = .agg [.int .i64 5,.int .i64 0,.str [],aA false (dS xs)]
  rcases aU false (dS xs) with ⟨e,_⟩ | e <;> simp [e,D.erase,D.eraseL,he]
end GP
namespace GP
open Go Go.Proofs
set_option maxRecDepth 100000
theorem LW {out : List D} (h : ∀ v ∈ out,xQ v) : ∀ v ∈ out,v.isV = true:=fun v hv=>(lB (h v hv)).1
theorem HL {out : List D} (h : ∀ v ∈ out,xQ v) : D.eraseL out = out:=bB fun v hv=>(lB (h v hv)).2.1
theorem LU {out : List D} (h : ∀ v ∈ out,xQ v) : out.all (fit 4) = true:=List.all_eq_true.2 fun v hv=>(lB (h v hv)).2.2.2
set_option maxHeartbeats 4000000 in
theorem Se (f : Nat) (hf : f <= 10000) : bK Tryz.prog 241 (φC (N1 f)):=by
 have hM : cQ []:=.nil
 refine dF (l:=[(246,FD)]) (m:=[]) (ee:=[(69,φC cR),(245,φC AX),(71,φC bV),(105,φC jE)]) (.cons Vd .nil) .nil (.cons xN (.cons Uv (.cons G3 (.cons yV .nil)))) Tz fun H p n xs a e rest r a' e' hp htk hlen h=>?_
 unfold N1 at h
 split at h
 ·rename_i m
  split at h
  ·rename_i hm
   obtain ⟨fr,rfl⟩ : ∃ k : Nat,m = (k : Int):=⟨m.toNat,by omega⟩
   rw [Int.toNat_natCast] at h
   have qa:=dC (n:=n) hp htk hlen;have qa0:=bY (n:=n) hp htk hlen;have ca:=cV (n:=n) hp htk hlen;have ca0:=cC (n:=n) hp htk hlen;have rc:=fA hp;have rc0:=cU hp;have sc:=fun K : D -> S -> Prop=>fM (K:=K) hp;have sc0:=fun K : D -> S -> Prop=>d9 (K:=K) hp
   obtain ⟨v0,⟨a0,e0⟩,hv0⟩ : ∃ v0 st,dD xs (a,e) = (v0,st):=⟨_,_,rfl⟩
   have hval0 : xQ v0:=by have:=qP htk (a,e);rw [hv0] at this;exact this
   have hi0 : AX [] xs a e = some (v0,a0,e0):=by simp only [AX,hv0]
   unfold sP at h
   rw [hv0] at h
   simp only at h
   obtain ⟨z,hz⟩ : ∃ z,lO xs f [v0] (a0,e0) = z:=⟨_,rfl⟩
   rw [hz] at h
   cases z with
   | none=>cases h
   | some z =>
   obtain ⟨out,a1,e1⟩:=z
   simp only at h
   have hvals:=(Ac htk f [v0] (a0,e0) (out,(a1,e1)) (fun v hv=>by rw [List.mem_singleton] at hv;subst hv;exact hval0) hz)
   have hcount:=F7 f [v0] (a0,e0) (out,(a1,e1)) hz
   simp only [List.length_singleton] at hvals hcount
   obtain ⟨⟨a2,e2⟩,hmu⟩ : ∃ st,aD xs [93] (a1,e1) = st:=⟨_,rfl⟩
   rw [hmu] at h
   have hg2 : bV [.str [93]] xs a1 e1 = some (.tup [],a2,e2):=by simp only [bV,hmu]
   have hcl:=(Id hvals.1)
   have hrcl : r.cl 0 0 = true:=by
    split at h
    ·injection h with h;injection h with h1 h2;subst h1;rfl
    ·injection h with h;injection h with h1 h2;subst h1
     obtain ⟨k,i,s,nn,ys,hsh,_⟩:=tZ out
     rw [hsh] at hcl ⊢
     have h3:=hcl.1
     simp only [D.cl,D.clL,Bool.and_true,Bool.true_and] at h3
     simp [kZ,D.cells,D.cl,D.clL,h3]
   refine ⟨by simp,hrcl,fun T=>?_⟩
   simp +contextual only [qa,qa0,ca,ca0,rc,rc0,sc,sc0,Tf,hi0,cH hM,go_sem]
   refine ⟨(lB hval0).2.2.2,?_⟩
   refine bG (fun i s'=>∃ (o : List D) (b : Nat) (eb : Int),s'.t 0 = .ptr p 0 /\ s'.t 1 = .int .i64 (fr : Nat) /\ s'.t 4 = .ptr H.length 0 /\ F5 4 T o (s'.t 5) s'.T ∧
     s'.H = H.set p (.row [aA n xs,.int .i64 ((b : Nat) : Int),.int .i64 eb]) ++ [.row [.str [],.int .i64 0,.int .i64 0,.str [],.nils,.str [],.str [],.nils]] ∧
     lO xs (f - i) o (b,eb) = some (out,(a1,e1)) /\ i <= f /\ (∀ v ∈ o,xQ v) /\ o.length <= i + 1) f
    ⟨0,[v0],a0,e0,by simp [upd,bF],by simp [upd,bF],by simp [upd],.inr ⟨by simp,[some (1,4)],0,rfl,by simp [upd],rfl⟩,rfl,hz,by omega,(fun v hv=>by rw [List.mem_singleton] at hv;subst hv;exact hval0),by simp⟩
    (fun i s h=>by obtain ⟨_,_,_,h⟩:=h;exact h.2.2.2.2.2.2.1) ?_ (jV _ _ _)
   rintro i ⟨t,B,T'⟩ ⟨o,b,eb,r0,r1,r4,hA,rfl,hz2,hi,hv,hol⟩
   simp only at r0 r1 r4 hA
   obtain ⟨k,hk⟩ : ∃ k,f - i = k:=⟨_,rfl⟩
   rw [hk] at hz2
   cases k with
   | zero=>simp [lO] at hz2
   | succ k =>
   simp only [lO] at hz2
   rcases tf (isP xs (b,eb) [44]) with g | g
   ·rw [if_pos g] at hz2
    obtain ⟨v1,⟨b1,eb1⟩,hv1⟩ : ∃ v1 st,dD xs (b + 1,eb) = (v1,st):=⟨_,_,rfl⟩
    have hval1 : xQ v1:=by have:=qP htk (b + 1,eb);rw [hv1] at this;exact this
    have hi1 : AX [] xs (b + 1) eb = some (v1,b1,eb1):=by simp only [AX,hv1]
    rw [hv1] at hz2
    have er1:=(lB hval1).2.1
    have fit1:=(lB hval1).2.2.2
    simp +contextual only [qa,qa0,ca,ca0,rc,rc0,sc,sc0,r0,r1,r4,cR,g,hi1,er1,go_sem]
    refine ⟨fit1,Bb v1 hA fit1 (LU hv) (by omega) (by omega) fun d2 T2 hA2=>?_⟩
    have ek : f - (i + 1) = k:=by omega
    simp +contextual only [r0,r1,r4,go_sem]
    exact ⟨o ++ [v1],b1,eb1,hA2,rfl,by rw [ek];exact hz2,by omega,(fun v hv'=>by
     rcases List.mem_append.1 hv' with hv' | hv'
     ·exact hv v hv'
     ·rw [List.mem_singleton] at hv';subst hv';exact hval1),by simp;omega⟩
   ·rw [if_neg (by rw [g];decide)] at hz2
    injection hz2 with hz2;injection hz2 with hz3 hz4;injection hz4 with hz4 hz5
    subst hz3;subst hz4;subst hz5
    have hne : o ≠ []:=by
     rintro rfl
     have:=hvals.2
     simp at this
    have hde:=tO hA (HL hvals.1)
    have hsl : aA true o = .sl none o:=by
     rcases aU true o with ⟨_,e1⟩ | e1
     ·exact absurd e1 hne
     ·exact e1
    rw [hsl] at hde
    have pb : FD [.sl none o] = some (.tup [(gD o).1,.int .i64 (gD o).2]):=by
     simp only [FD]
     rw [if_pos ⟨rfl,gJ.2 (LW hvals.1),by show o.length <= 2 ^ 40;omega,by
      show (false || !o.isEmpty) = true
      cases o with
      | nil=>exact absurd rfl hne
      | cons=>rfl⟩]
     rfl
    rcases tf (e2 != 0) with g2 | g2
    ·rw [if_pos g2] at h
     injection h with h;injection h with h1 h2;injection h2 with h2 h3
     subst h1;subst h2;subst h3
     simp +contextual only [qa,qa0,ca,ca0,rc,rc0,sc,sc0,r0,r1,r4,cR,g,hg2,g2,go_sem]
     exact aL rfl ⟨_,rfl⟩ (qD hA)
    ·rw [if_neg (by rw [g2];decide)] at h
     injection h with h;injection h with h1 h2
     subst h1
     obtain ⟨k,ii,s,nn,ys,hsh,_⟩:=tZ o
     rw [hsh] at pb hcl ⊢
     have her : (kZ (.agg [.int .i64 k,.int .i64 ii,.str s,aA nn ys])).erase = kZ (.agg [.int .i64 k,.int .i64 ii,.str s,aA nn ys]):=by
      have h3:=hcl.2
      simp only [D.erase,D.eraseL,D.agg.injEq,List.cons.injEq,true_and,and_true] at h3
      simp [kZ,D.cells,D.erase,D.eraseL,h3]
     obtain ⟨be,hbe⟩ : ∃ be,(gD o).2 = be:=⟨_,rfl⟩
     rw [hbe] at pb h2
     rcases tf (be != 0) with g3 | g3
     ·rw [if_pos g3] at h2
      obtain ⟨y1,y2,hy⟩ : ∃ y1 y2,bO fr 2 (a2,e2) = (y1,y2):=⟨_,_,rfl⟩
      have hf2:=Gd fr 2 xs a2 e2
      rw [hy] at hf2 h2
      injection h2 with h2 h3
      subst h2;subst h3
      simp +contextual only [qa,qa0,ca,ca0,rc,rc0,sc,sc0,r0,r1,r4,cR,g,hg2,g2,hde,pb,g3,hf2,cH hM,go_sem]
      exact aL her ⟨_,rfl⟩ (qD hA)
     ·rw [if_neg (by rw [g3];decide)] at h2
      injection h2 with h2 h3
      subst h2;subst h3
      simp +contextual only [qa,qa0,ca,ca0,rc,rc0,sc,sc0,r0,r1,r4,cR,g,hg2,g2,hde,pb,g3,cH hM,go_sem]
      exact aL her ⟨_,rfl⟩ (qD hA)
  ·cases h
 ·cases h
def ex8 (x : D) : Prop:=(∃ c0 c1 c2 c3 c4 c5 c6 c7,x = .agg [c0,c1,c2,c3,c4,c5,c6,c7]) /\ x.erase = x /\ x.cl 0 0 = true
def mA (op : List UInt8) (x y : D) : D:=.agg [.str op,.int .i64 0,.int .i64 0,.str [],.nils,.str [],.str [],.sl none [x,y]]
theorem AG {op : List UInt8} {x y : D} (hx : ex8 x) (hy : ex8 y) : ex8 (mA op x y):=by
 refine ⟨⟨_,_,_,_,_,_,_,_,rfl⟩,?_,?_⟩
 ·simp [mA,D.erase,D.eraseL,hx.2.1,hy.2.1]
 ·simp [mA,D.cl,D.clL,hx.2.2,hy.2.2]
open Classical in
noncomputable def pD : List D -> Option D
 | [.str op,x,y]=>if ex8 x /\ ex8 y then some (mA op x y) else none
 | _=>none
theorem Ph : aO Tryz.prog 169 pD:=by
 refine aG (l:=[]) .nil V9 fun args r h=>?_
 unfold pD at h
 split at h
 ·rename_i op x y
  split at h
  ·rename_i hc
   obtain ⟨hx,hy⟩:=hc
   injection h with h;subst h
   have h2:=AG (op:=op) hx hy
   refine ⟨by simp,h2.2.2,fun H T=>?_⟩
   have ex:=hx.2.1
   have ey:=hy.2.1
   obtain ⟨⟨a0,a1,a2,a3,a4,a5,a6,a7,rfl⟩,_,_⟩:=hx
   obtain ⟨⟨b0,b1,b2,b3,b4,b5,b6,b7,rfl⟩,_,_⟩:=hy
   simp +contextual only [Ua,go_sem]
   simp only [D.erase,D.eraseL] at ex ey
   rw [ex,ey];rfl
  ·cases h
 ·cases h
def φP (g : Nat -> GE) (H : Hp) : List D -> Option (D × Hp)
 | .ptr p 0 :: rest=>cuE H p (g p rest)
 | _=>none
theorem Di {H : Hp} {p : Nat} {n : Bool} {xs : List D} (hp : p < H.length) (htk : xs.all bR = true) (hl : xs.length <= 600) (g : Nat -> GE) (rest : List D) (a : Nat) (e : Int) (L : Hp) : φP g (H.set p (.row [aA n xs,.int .i64 ((a : Nat) : Int),.int .i64 e]) ++ L) (.ptr p 0 :: rest) = cuR H p (aA n xs) L (g p rest xs a e) :=
 cV hp htk hl (g p) rest a e L
theorem R5 {l : Fs} {m : FsH} {ee : FsE} (hl : Ok Tryz.prog l) (hm : OkH Tryz.prog m) (hE : OkE Tryz.prog ee) {f : FuncId} {k : Nat} {rs : List (Sum Nat (Nat × Bool × Nat))} {cc : C} (hf : Fn Tryz.prog f k rs cc) {g : Nat -> GE}
  (h : ∀ (H : Hp) (p : Nat) (n : Bool) (xs : List D) (a : Nat) (e : Int) (rest : List D) (r : D) (a' : Nat) (e' : Int),p < H.length -> xs.all bR = true -> xs.length <= 600 -> g p rest xs a e = some (r,a',e') -> rest.length + 1 <= k /\ r.cl 0 0 = true ∧
   ∀ T,W (XE l m ee) cc (mW rs (dB r (H.set p (.row [aA n xs,.int .i64 ((a' : Nat) : Int),.int .i64 e'])) T)) ⟨bF (.ptr p 0 :: rest),H.set p (.row [aA n xs,.int .i64 ((a : Nat) : Int),.int .i64 e]),T⟩) : bK Tryz.prog f (φP g):=by
 refine Dj hl hm hE hf fun H args r H1 hr=>?_
 unfold φP at hr
 split at hr
 ·rename_i p rest
  obtain ⟨n,xs,a,e,r',a',e',h1,h2,h3,h4,h5,h6⟩:=Br hr
  injection h6 with h6 h7
  subst h6;subst h7
  obtain ⟨k1,k2,k3⟩:=h H p n xs a e rest r a' e' h2 h3 h4 h5
  refine ⟨by simpa using k1,D.cl_mono (Nat.zero_le _) (Nat.le_refl _) r k2,⟨by simp,fun o x cs hx hc=>?_⟩,fun T=>?_⟩
  ·by_cases ho : o = p
   ·subst ho
    rw [List.getElem?_set_self h2] at hx
    injection hx with hx;subst hx
    injection hc with hc;subst hc
    refine .inr ?_
    simp only [D.clL,Ey h3,D.cl,Bool.and_self]
   ·rw [List.getElem?_set_ne (fun e=>ho e.symm)] at hx
    exact .inl hx
  ·have:=k3 T
   rw [nP h1] at this
   exact this
 ·cases hr
abbrev gP:=List D -> St -> Option (D × St)
def gOf (P : gP) : GE:=fun rest toks a e=>match rest with
 | []=>P toks (a,e)
 | _=>none
def DH (P : gP) : Prop:=∀ toks st r,toks.all bR = true -> P toks st = some r -> ex8 r.1
def kX (toks : List D) (P : gP) (bs : List (List UInt8)) : Nat -> D -> St -> Option (D × St)
 | 0,_,_=>none
 | f + 1,x,st=>if st.2 != 0 then some (x,st) else match fX toks st bs with
  | none=>some (x,st)
  | some w=>match P toks (st.1 + 1,st.2) with
   | none=>none
   | some (y,st2)=>kX toks P bs f (mA w x y) st2
def pA (toks : List D) (P : gP) (bs : List (List UInt8)) (f : Nat) (st : St) : Option (D × St):=match P toks st with
 | none=>none
 | some (x,st1)=>kX toks P bs f x st1
def vM (w : FuncId) (P : gP) (f : Nat) : Nat -> GE:=fun p rest toks a e=>match rest with
 | [.fn w' [.ptr q 0] [],.sl none ds]=>if w' = w /\ q = p /\ ds.all oF = true /\ ds.length <= 100 /\ (ds.all fun d=>!(gY d).isEmpty) = true then pA toks P (ds.map gY) f (a,e) else none
 | _=>none
theorem F8 {P : gP} (hP : DH P) {toks : List D} (ht : toks.all bR = true) {bs : List (List UInt8)} : ∀ (f : Nat) (x : D) (st : St) (r : D × St),ex8 x -> kX toks P bs f x st = some r -> ex8 r.1
 | 0,_,_,_,_,h=>by simp [kX] at h
 | f + 1,x,st,r,hx,h=>by
  simp only [kX] at h
  split at h
  ·injection h with h;subst h;exact hx
  ·split at h
   ·injection h with h;subst h;exact hx
   ·rename_i w _
    split at h
    ·cases h
    ·rename_i y st2 hy
     exact F8 hP ht f _ st2 r (AG hx (hP toks _ _ ht hy)) h
theorem pP {P : gP} (hP : DH P) {toks : List D} (ht : toks.all bR = true) {bs : List (List UInt8)} {f : Nat} {st : St} {r : D × St} (h : pA toks P bs f st = some r) : ex8 r.1:=by
 unfold pA at h
 split at h
 ·cases h
 ·rename_i x st1 hx
  exact F8 hP ht f x st1 r (hP toks _ _ ht hx) h
set_option maxHeartbeats 8000000 in
theorem Hy {w : FuncId} {P : gP} (hP : bK Tryz.prog w (φC (gOf P))) (hx : DH P) (hw1 : ¬ w = 69) (hw2 : ¬ 169 = w) (f : Nat) : bK Tryz.prog 103 (φP (vM w P f)):=by
 have hM : cQ []:=.nil
 refine R5 (l:=[(169,pD)]) (m:=[]) (ee:=[(69,φC cR),(w,φC (gOf P))]) (.cons Ph .nil) .nil (.cons xN (.cons hP .nil)) Si fun H p n xs a e rest r a' e' hp htk hlen h=>?_
 unfold vM at h
 split at h
 ·rename_i w' q ds
  split at h
  ·rename_i hc
   obtain ⟨hw',hq,hd,hdl,hne⟩:=hc
   have hq':=hq.symm
   subst hq'
   have hw'':=hw'.symm
   subst hw''
   have hw2' : (169 = w) = False:=eq_false hw2
   have hw1' : (w = 69) = False:=eq_false hw1
   have hw3' : (w = 169) = False:=eq_false (fun e=>hw2 e.symm)
   have qa:=dC (n:=n) hp htk hlen;have qa0:=bY (n:=n) hp htk hlen;have ca:=cV (n:=n) hp htk hlen;have ca0:=cC (n:=n) hp htk hlen;have rc:=fA hp;have rc0:=cU hp;have sc:=fun K : D -> S -> Prop=>fM (K:=K) hp;have sc0:=fun K : D -> S -> Prop=>d9 (K:=K) hp
   have hr8:=pP hx htk h
   simp only at hr8
   unfold pA at h
   obtain ⟨z,hz⟩ : ∃ z,P xs (a,e) = z:=⟨_,rfl⟩
   rw [hz] at h
   cases z with
   | none=>cases h
   | some z =>
   obtain ⟨x0,a0,e0⟩:=z
   simp only at h
   have hx0 : ex8 x0:=hx xs _ _ htk hz
   have hg0 : gOf P [] xs a e = some (x0,a0,e0):=hz
   refine ⟨by simp,hr8.2.2,fun T=>?_⟩
   have hx0':=hx0
   obtain ⟨⟨b0,b1,b2,b3,b4,b5,b6,b7,rfl⟩,hxe,_⟩:=hx0
   have hstr : ∀ (i : Nat) (hi : i < ds.length),ds[i]? = some (.str (gY ds[i])):=fun i hi=>by
    have:=List.all_eq_true.1 hd _ (List.getElem_mem hi)
    rw [List.getElem?_eq_getElem hi]
    cases hx : ds[i] <;> rw [hx] at this <;> simp [oF] at this <;> rfl
   simp +contextual only [qa,qa0,ca,ca0,rc,rc0,sc,sc0,Sr,hg0,hw1',hw2',hw3',go_sem]
   refine bG (fun i s'=>∃ c0 c1 c2 c3 c4 c5 c6 c7 b eb,ex8 (.agg [c0,c1,c2,c3,c4,c5,c6,c7]) /\ s'.t 0 = .ptr p 0 /\ s'.t 1 = .fn w [.ptr p 0] [] /\ s'.t 2 = .sl none ds /\ s'.t 6 = .ptr H.length 0 /\ s'.t 7 = .ptr (H.length + 1) 0 ∧
     s'.H = H.set p (.row [aA n xs,.int .i64 ((b : Nat) : Int),.int .i64 eb]) ++ [.row [.str [],.int .i64 0,.int .i64 0,.str [],.nils,.str [],.str [],.nils],.row [c0,c1,c2,c3,c4,c5,c6,c7]] /\ s'.T = T ∧
     kX xs P (ds.map gY) (f - i) (.agg [c0,c1,c2,c3,c4,c5,c6,c7]) (b,eb) = some (r,a',e') /\ i <= f) f
    ⟨0,b0,b1,b2,b3,b4,b5,b6,b7,a0,e0,hx0',by simp [upd,bF],by simp [upd,bF],by simp [upd,bF],by simp [upd],by simp [upd],rfl,rfl,h,by omega⟩
    (fun i s h=>by obtain ⟨_,_,_,_,_,_,_,_,_,_,h⟩:=h;exact h.2.2.2.2.2.2.2.2.2) ?_ (jV _ _ _)
   clear h hg0 hz hx0' hxe
   rintro i ⟨t,B,T'⟩ ⟨c0,c1,c2,c3,c4,c5,c6,c7,b,eb,hc8,r0,r1,r2,r6,r7,rfl,rfl,hz,hi⟩
   simp only at r0 r1 r2 r6 r7
   obtain ⟨k,hk⟩ : ∃ k,f - i = k:=⟨_,rfl⟩
   rw [hk] at hz
   cases k with
   | zero=>simp [kX] at hz
   | succ k =>
   simp only [kX] at hz
   rcases tf (eb != 0) with g | g
   ·rw [if_pos g] at hz
    injection hz with hz;injection hz with hz1 hz2;injection hz2 with hz2 hz3
    subst hz1;subst hz2;subst hz3
    have g' : (eb == 0) = false:=by simpa using g
    simp +contextual only [qa,qa0,ca,ca0,rc,rc0,sc,sc0,r0,r1,r2,r6,r7,g',go_sem]
    exact aL hc8.2.1 ⟨_,rfl⟩ ⟨[],by simp⟩
   ·rw [if_neg (by rw [g];decide)] at hz
    have g' : (eb == 0) = true:=by simpa using g
    simp +contextual only [qa,qa0,ca,ca0,rc,rc0,sc,sc0,r0,r1,r2,r6,r7,g',go_sem]
    refine bG (fun j s'=>s'.t 0 = .ptr p 0 /\ s'.t 1 = .fn w [.ptr p 0] [] /\ s'.t 2 = .sl none ds /\ s'.t 6 = .ptr H.length 0 /\ s'.t 7 = .ptr (H.length + 1) 0 /\ s'.t 18 = .sl none ds /\ s'.t 19 = .int .i64 ds.length /\ s'.t 20 = .int .i64 ((j : Nat) : Int) /\ s'.T = T' /\ j <= ds.length ∧
      ((s'.t 8 = .str [] /\ s'.H = H.set p (.row [aA n xs,.int .i64 ((b : Nat) : Int),.int .i64 eb]) ++ [.row [.str [],.int .i64 0,.int .i64 0,.str [],.nils,.str [],.str [],.nils],.row [c0,c1,c2,c3,c4,c5,c6,c7]] /\ ∀ i u,i < j -> (ds.map gY)[i]? = some u -> isP xs (b,eb) u = false) ∨
       ∃ w0,fX xs (b,eb) (ds.map gY) = some w0 /\ (w0 == []) = false /\ s'.t 8 = .str w0 /\ s'.H = H.set p (.row [aA n xs,.int .i64 ((b + 1 : Nat) : Int),.int .i64 eb]) ++ [.row [.str [],.int .i64 0,.int .i64 0,.str [],.nils,.str [],.str [],.nils],.row [c0,c1,c2,c3,c4,c5,c6,c7]])) ds.length
     ⟨0,by simp [upd,r0],by simp [upd,r1],by simp [upd,r2],by simp [upd,r6],by simp [upd,r7],by simp [upd],by simp [upd],by simp [upd],rfl,by omega,.inl ⟨by simp [upd],rfl,fun i u h=>by omega⟩⟩ (fun j s h=>h.2.2.2.2.2.2.2.2.2.1) ?_ (jV _ _ _)
    clear r0 r1 r2 r6 r7
    rintro j ⟨t,B,T2⟩ ⟨r0,r1,r2,r6,r7,r18,r19,r20,rfl,hj,hAB⟩
    simp only at r0 r1 r2 r6 r7 r18 r19 r20 hAB
    have gnil : (([] : List UInt8) == []) = true:=rfl
    by_cases hlt : j < ds.length
    ·have d1 : decide (((j : Nat) : Int) < ds.length) = true:=by simp only [decide_eq_true_eq];omega
     have ex:=hstr j hlt
     have hnz : (gY ds[j]).isEmpty = false:=by
      have:=List.all_eq_true.1 hne _ (List.getElem_mem hlt)
      simpa using this
     obtain ⟨u,hu⟩ : ∃ u,gY ds[j] = u:=⟨_,rfl⟩
     rw [hu] at ex hnz
     have hmap : (ds.map gY)[j]? = some u:=by rw [List.getElem?_map,ex];rfl
     have ws : IntKind.i64.wrap (((j : Nat) : Int) + 1) = ((j + 1 : Nat) : Int):=by rw [show ((j : Nat) : Int) + 1 = ((j + 1 : Nat) : Int) by omega];exact eH _ (by omega) (by omega)
     have hu0 : (u == []) = false:=by cases u <;> simp at hnz ⊢
     rcases hAB with ⟨r8,rfl,hN⟩ | ⟨w0,hf0,hw0,r8,rfl⟩
     ·rcases tf (isP xs (b,eb) u) with g1 | g1
      ·have hf1:=rG hmap hN g1
       simp +contextual only [qa,qa0,ca,ca0,rc,rc0,sc,sc0,r0,r1,r2,r6,r7,r8,r18,r19,r20,d1,ex,cR,g1,ws,gnil,go_sem]
       exact ⟨by omega,.inr ⟨u,hf1,hu0,rfl⟩⟩
      ·simp +contextual only [qa,qa0,ca,ca0,rc,rc0,sc,sc0,r0,r1,r2,r6,r7,r8,r18,r19,r20,d1,ex,cR,g1,ws,gnil,go_sem]
       refine ⟨by omega,.inl fun i v hi' hv=>?_⟩
       rcases Nat.lt_or_ge i j with h' | h'
       ·exact hN i v h' hv
       ·have : i = j:=by omega
        subst this
        rw [hmap] at hv;injection hv with hv;subst hv;exact g1
     ·simp +contextual only [qa,qa0,ca,ca0,rc,rc0,sc,sc0,r0,r1,r2,r6,r7,r8,r18,r19,r20,d1,ex,ws,hw0,go_sem]
      exact ⟨by omega,.inr ⟨w0,hf0,hw0,rfl⟩⟩
    ·have d1 : decide (((j : Nat) : Int) < ds.length) = false:=by simp only [decide_eq_false_iff_not];omega
     rcases hAB with ⟨r8,rfl,hN⟩ | ⟨w0,hf0,hw0,r8,rfl⟩
     ·have hf0 : fX xs (b,eb) (ds.map gY) = none:=mJ fun v hv=>by
       obtain ⟨q,hq,rfl⟩:=List.getElem_of_mem hv
       exact hN q _ (by simp at hq;omega) (by rw [List.getElem?_eq_getElem hq])
      rw [hf0] at hz
      injection hz with hz;injection hz with hz1 hz2;injection hz2 with hz2 hz3
      subst hz1;subst hz2;subst hz3
      simp +contextual only [qa,qa0,ca,ca0,rc,rc0,sc,sc0,r0,r1,r2,r6,r7,r8,r18,r19,r20,d1,gnil,go_sem]
      exact aL hc8.2.1 ⟨_,rfl⟩ ⟨[],by simp⟩
     ·rw [hf0] at hz
      simp only at hz
      obtain ⟨y,hy⟩ : ∃ y,P xs (b + 1,eb) = y:=⟨_,rfl⟩
      rw [hy] at hz
      cases y with
      | none=>cases hz
      | some y =>
      obtain ⟨y,b2,eb2⟩:=y
      simp only at hz
      have hy8 : ex8 y:=hx xs _ _ htk hy
      have hgy : gOf P [] xs (b + 1) eb = some (y,b2,eb2):=hy
      have ht8:=AG (op:=w0) hc8 hy8
      have ptwo : pD [.str w0,.agg [c0,c1,c2,c3,c4,c5,c6,c7],y] = some (mA w0 (.agg [c0,c1,c2,c3,c4,c5,c6,c7]) y):=by simp only [pD];rw [if_pos ⟨hc8,hy8⟩]
      have ek : f - (i + 1) = k:=by omega
      obtain ⟨⟨d0,d1',d2,d3,d4,d5,d6,d7,rfl⟩,hye,_⟩:=hy8
      have hxe:=hc8.2.1
      simp only [D.erase,D.eraseL,D.agg.injEq] at hxe hye
      have erall : D.eraseL [.str w0,.agg [c0,c1,c2,c3,c4,c5,c6,c7],.agg [d0,d1',d2,d3,d4,d5,d6,d7]] = [.str w0,.agg [c0,c1,c2,c3,c4,c5,c6,c7],.agg [d0,d1',d2,d3,d4,d5,d6,d7]]:=by
       simp only [D.eraseL,D.erase,hxe,hye]
      simp only [mA] at ptwo hz ht8
      simp +contextual only [qa,qa0,ca,ca0,rc,rc0,sc,sc0,r0,r1,r2,r6,r7,r8,r18,r19,r20,d1,hw0,hgy,hw1',hw2',hw3',cH hM,ptwo,erall,go_sem]
      exact ⟨_,_,_,_,_,_,_,_,b2,eb2,ht8,rfl,by rw [ek];exact hz,by omega⟩
  ·cases h
 ·cases h
inductive Lv where
 | expr | and | not | cmp | sum | prod | unary | plain | inner
def wOr : List UInt8:=[111,114]
def Gg : List UInt8:=[97,110,100]
def sQ : List UInt8:=[110,111,116]
def CL : List UInt8:=[110,101,103]
def zO : List UInt8:=[110,111,119]
def sU : List UInt8:=[115,105,122,101]
def nN : List UInt8:=[114,111,108,101]
def uG : List UInt8:=[104,97,115]
def yO : List UInt8:=[97,116,116,114]
def Ec : List (List UInt8):=[[61,61],[33,61],[60],[60,61],[62],[62,61],[105,110]]
def jQ (op : List UInt8) (x : D) : D:=.agg [.str op,.int .i64 0,.int .i64 0,.str [],.nils,.str [],.str [],.sl none [x]]
def dQ (op who name : List UInt8) : D:=.agg [.str op,.int .i64 0,.int .i64 0,.str [],.nils,.str who,.str name,.nils]
def nK (op : List UInt8) : Option (D × St) -> Option (D × St)
 | none=>none
 | some (x,st)=>some (jQ op x,st)
def z8 (toks : List D) (P : gP) : Option (D × St) -> Option (D × St)
 | none=>none
 | some (x,st1)=>match fX toks st1 Ec with
  | none=>some (x,st1)
  | some w=>match P toks (st1.1 + 1,st1.2) with
   | none=>none
   | some (y,st2)=>some (mA w x y,st2)
def EE (toks : List D) : Option (D × St) -> Option (D × St)
 | none=>none
 | some (x,st1)=>some (x,aD toks [41] st1)
def oM (I : gP) (f : Nat) (toks : List D) (st : St) : Option (D × St) :=
 if (aF toks st).2.1 then some (kZ (aF toks st).1,(aF toks st).2.2) else
 if isP toks st zO then some (dQ zO [] [],(st.1 + 1,st.2)) else
 if isP toks st [40] then I toks st else
 if isP toks st [91] then sP toks f st.1 (st.1 + 1,st.2) else
 if isP toks st sU then nK sU (I toks (st.1 + 1,st.2)) else
 if isP toks st nN then some (dQ nN [] (ts (cL toks 3 (aD toks [40] (st.1 + 1,st.2))).1),aD toks [41] (cL toks 3 (aD toks [40] (st.1 + 1,st.2))).2) else
 if isP toks st uG then some (dQ uG (bU toks (aD toks [40] (st.1 + 1,st.2))).1 (bU toks (aD toks [40] (st.1 + 1,st.2))).2.1,aD toks [41] (bU toks (aD toks [40] (st.1 + 1,st.2))).2.2) else
 some (dQ yO (bU toks st).1 (bU toks st).2.1,(bU toks st).2.2)
def pLv : Nat -> Lv -> gP
 | 0,_=>fun _ _=>none
 | f + 1,.expr=>fun toks st=>pA toks (pLv f .and) [wOr] f st
 | f + 1,.and=>fun toks st=>pA toks (pLv f .not) [Gg] f st
 | f + 1,.not=>fun toks st=>if isP toks st sQ then nK sQ (pLv f .not toks (st.1 + 1,st.2)) else pLv f .cmp toks st
 | f + 1,.cmp=>fun toks st=>z8 toks (pLv f .sum) (pLv f .sum toks st)
 | f + 1,.sum=>fun toks st=>pA toks (pLv f .prod) [[43],[45]] f st
 | f + 1,.prod=>fun toks st=>pA toks (pLv f .unary) [[42]] f st
 | f + 1,.unary=>fun toks st=>if isP toks st [45] then nK CL (pLv f .unary toks (st.1 + 1,st.2)) else pLv f .plain toks st
 | f + 1,.plain=>fun toks st=>oM (pLv f .inner) f toks st
 | f + 1,.inner=>fun toks st=>EE toks (pLv f .expr toks (aD toks [40] st))
theorem Nd {op : List UInt8} {x : D} (hx : ex8 x) : ex8 (jQ op x) :=
 ⟨⟨_,_,_,_,_,_,_,_,rfl⟩,by simp [jQ,D.erase,D.eraseL,hx.2.1],by simp [jQ,D.cl,D.clL,hx.2.2]⟩
theorem vH (op who name : List UInt8) : ex8 (dQ op who name):=⟨⟨_,_,_,_,_,_,_,_,rfl⟩,by simp [dQ,D.erase,D.eraseL],by simp [dQ,D.cl,D.clL]⟩
theorem Bk {op : List UInt8} {z : Option (D × St)} {r : D × St} (hz : ∀ r,z = some r -> ex8 r.1) (h : nK op z = some r) : ex8 r.1:=by
 cases z with
 | none=>simp [nK] at h
 | some z =>
  obtain ⟨x,st⟩:=z
  simp only [nK,Option.some.injEq] at h;subst h
  exact Nd (hz _ rfl)
theorem OL {v : D} (h : xQ v) : ex8 (kZ v):=by
 obtain ⟨k,i,s,rfl,_⟩:=h
 exact ⟨⟨_,_,_,_,_,_,_,_,rfl⟩,by simp [kZ,D.cells,D.erase,D.eraseL],by simp [kZ,D.cells,D.cl,D.clL]⟩
theorem Ky {toks : List D} (ht : toks.all bR = true) {f fr : Nat} {st : St} {r : D × St} (h : sP toks f fr st = some r) : ex8 r.1:=by
 unfold sP at h
 split at h
 ·cases h
 ·rename_i out st1 hb
  have hv:=(Ac ht f _ _ _ (fun v hv=>by rw [List.mem_singleton] at hv;subst hv;exact qP ht st) hb).1
  split at h
  ·injection h with h;subst h
   exact ⟨⟨_,_,_,_,_,_,_,_,rfl⟩,by simp [iO,D.erase,D.eraseL],by simp [iO,D.cl,D.clL]⟩
  ·injection h with h;subst h
   have hc:=Id hv
   obtain ⟨k,i,s,n,ys,e,_⟩:=tZ out
   rw [e] at hc
   simp only [e]
   have h1:=hc.1
   have h2:=hc.2
   simp only [D.cl,D.clL,Bool.and_true,Bool.true_and] at h1
   simp only [D.erase,D.eraseL,D.agg.injEq,List.cons.injEq,true_and,and_true] at h2
   exact ⟨⟨_,_,_,_,_,_,_,_,rfl⟩,by simp [kZ,D.cells,D.erase,D.eraseL,h2],by simp [kZ,D.cells,D.cl,D.clL,h1]⟩
theorem bX : ∀ (f : Nat) (lv : Lv),DH (pLv f lv)
 | 0,_,_,_,_,_,h=>by cases h
 | f + 1,lv,toks,st,r,ht,h=>by
  cases lv with
  | expr=>exact pP (bX f .and) ht h
  | and=>exact pP (bX f .not) ht h
  | sum=>exact pP (bX f .prod) ht h
  | prod=>exact pP (bX f .unary) ht h
  | not =>
   simp only [pLv] at h
   split at h
   ·exact Bk (fun r hr=>bX f .not toks _ r ht hr) h
   ·exact bX f .cmp toks st r ht h
  | unary =>
   simp only [pLv] at h
   split at h
   ·exact Bk (fun r hr=>bX f .unary toks _ r ht hr) h
   ·exact bX f .plain toks st r ht h
  | cmp =>
   simp only [pLv] at h
   obtain ⟨z,hz⟩ : ∃ z,pLv f .sum toks st = z:=⟨_,rfl⟩
   rw [hz] at h
   cases z with
   | none=>cases h
   | some z =>
    obtain ⟨x,st1⟩:=z
    have hx:=bX f .sum toks _ _ ht hz
    simp only [z8] at h
    split at h
    ·injection h with h;subst h;exact hx
    ·split at h
     ·cases h
     ·rename_i y st2 hy
      injection h with h;subst h
      exact AG hx (bX f .sum toks _ _ ht hy)
  | inner =>
   simp only [pLv] at h
   obtain ⟨z,hz⟩ : ∃ z,pLv f .expr toks (aD toks [40] st) = z:=⟨_,rfl⟩
   rw [hz] at h
   cases z with
   | none=>cases h
   | some z =>
    obtain ⟨x,st1⟩:=z
    simp only [EE,Option.some.injEq] at h;subst h
    show ex8 x
    exact bX f .expr toks _ (x,st1) ht hz
  | plain =>
   simp only [pLv,oM] at h
   split at h
   ·injection h with h;subst h;exact OL (wC ht st)
   split at h
   ·injection h with h;subst h;exact vH _ _ _
   split at h
   ·exact bX f .inner toks st r ht h
   split at h
   ·exact Ky ht h
   split at h
   ·exact Bk (fun r hr=>bX f .inner toks _ r ht hr) h
   split at h
   ·injection h with h;subst h;exact vH _ _ _
   split at h
   ·injection h with h;subst h;exact vH _ _ _
   ·injection h with h;subst h;exact vH _ _ _
theorem RK (f : Nat) (h0 : bK Tryz.prog 104 (φC (gOf (pLv f .and)))) : bK Tryz.prog 49 (φC (gOf (pLv (f + 1) .expr))):=by
 have hM : cQ []:=.nil
 refine dF (l:=[]) (m:=[]) (ee:=[(103,φP (vM 104 (pLv f .and) f))]) .nil .nil (.cons (Hy h0 (bX f .and) (by decide) (by decide) f) .nil) A1m fun H p n xs a e rest r a' e' hp htk hlen h=>?_
 unfold gOf at h
 split at h
 ·have qa:=dC (n:=n) hp htk hlen;have qa0:=bY (n:=n) hp htk hlen;have ca:=cV (n:=n) hp htk hlen;have ca0:=cC (n:=n) hp htk hlen;have rc:=fA hp;have rc0:=cU hp;have sc:=fun K : D -> S -> Prop=>fM (K:=K) hp;have sc0:=fun K : D -> S -> Prop=>d9 (K:=K) hp
  have pa:=(fun g rest a e L=>Di (n:=n) hp htk hlen g rest a e L)
  have hr8 : ex8 r:=bX (f + 1) .expr xs (a,e) (r,(a',e')) htk h
  have hg : vM 104 (pLv f .and) f p [.fn 104 [.ptr p 0] [],.sl none [.str [111,114]]] xs a e = some (r,a',e'):=by
   simp only [vM]
   rw [if_pos ⟨trivial,trivial,rfl,by simp,rfl⟩]
   exact h
  refine ⟨by simp,hr8.2.2,fun T=>?_⟩
  have hre:=hr8.2.1
  obtain ⟨⟨c0,c1,c2,c3,c4,c5,c6,c7,rfl⟩,_,_⟩:=hr8
  simp +contextual only [qa,qa0,ca,ca0,rc,rc0,sc,sc0,pa,c49,hg,go_sem]
  exact aL hre ⟨_,rfl⟩ ⟨_,rfl⟩
 ·cases h
theorem Ta (f : Nat) (h0 : bK Tryz.prog 170 (φC (gOf (pLv f .not)))) : bK Tryz.prog 104 (φC (gOf (pLv (f + 1) .and))):=by
 have hM : cQ []:=.nil
 refine dF (l:=[]) (m:=[]) (ee:=[(103,φP (vM 170 (pLv f .not) f))]) .nil .nil (.cons (Hy h0 (bX f .not) (by decide) (by decide) f) .nil) Sp fun H p n xs a e rest r a' e' hp htk hlen h=>?_
 unfold gOf at h
 split at h
 ·have qa:=dC (n:=n) hp htk hlen;have qa0:=bY (n:=n) hp htk hlen;have ca:=cV (n:=n) hp htk hlen;have ca0:=cC (n:=n) hp htk hlen;have rc:=fA hp;have rc0:=cU hp;have sc:=fun K : D -> S -> Prop=>fM (K:=K) hp;have sc0:=fun K : D -> S -> Prop=>d9 (K:=K) hp
  have pa:=(fun g rest a e L=>Di (n:=n) hp htk hlen g rest a e L)
  have hr8 : ex8 r:=bX (f + 1) .and xs (a,e) (r,(a',e')) htk h
  have hg : vM 170 (pLv f .not) f p [.fn 170 [.ptr p 0] [],.sl none [.str [97,110,100]]] xs a e = some (r,a',e'):=by
   simp only [vM]
   rw [if_pos ⟨trivial,trivial,rfl,by simp,rfl⟩]
   exact h
  refine ⟨by simp,hr8.2.2,fun T=>?_⟩
  have hre:=hr8.2.1
  obtain ⟨⟨c0,c1,c2,c3,c4,c5,c6,c7,rfl⟩,_,_⟩:=hr8
  simp +contextual only [qa,qa0,ca,ca0,rc,rc0,sc,sc0,pa,VH,hg,go_sem]
  exact aL hre ⟨_,rfl⟩ ⟨_,rfl⟩
 ·cases h
theorem Vs (f : Nat) (h0 : bK Tryz.prog 228 (φC (gOf (pLv f .prod)))) : bK Tryz.prog 217 (φC (gOf (pLv (f + 1) .sum))):=by
 have hM : cQ []:=.nil
 refine dF (l:=[]) (m:=[]) (ee:=[(103,φP (vM 228 (pLv f .prod) f))]) .nil .nil (.cons (Hy h0 (bX f .prod) (by decide) (by decide) f) .nil) T6 fun H p n xs a e rest r a' e' hp htk hlen h=>?_
 unfold gOf at h
 split at h
 ·have qa:=dC (n:=n) hp htk hlen;have qa0:=bY (n:=n) hp htk hlen;have ca:=cV (n:=n) hp htk hlen;have ca0:=cC (n:=n) hp htk hlen;have rc:=fA hp;have rc0:=cU hp;have sc:=fun K : D -> S -> Prop=>fM (K:=K) hp;have sc0:=fun K : D -> S -> Prop=>d9 (K:=K) hp
  have pa:=(fun g rest a e L=>Di (n:=n) hp htk hlen g rest a e L)
  have hr8 : ex8 r:=bX (f + 1) .sum xs (a,e) (r,(a',e')) htk h
  have hg : vM 228 (pLv f .prod) f p [.fn 228 [.ptr p 0] [],.sl none [.str [43],.str [45]]] xs a e = some (r,a',e'):=by
   simp only [vM]
   rw [if_pos ⟨trivial,trivial,rfl,by simp,rfl⟩]
   exact h
  refine ⟨by simp,hr8.2.2,fun T=>?_⟩
  have hre:=hr8.2.1
  obtain ⟨⟨c0,c1,c2,c3,c4,c5,c6,c7,rfl⟩,_,_⟩:=hr8
  simp +contextual only [qa,qa0,ca,ca0,rc,rc0,sc,sc0,pa,Uf,hg,go_sem]
  exact aL hre ⟨_,rfl⟩ ⟨_,rfl⟩
 ·cases h
theorem Rz (f : Nat) (h0 : bK Tryz.prog 236 (φC (gOf (pLv f .unary)))) : bK Tryz.prog 228 (φC (gOf (pLv (f + 1) .prod))):=by
 have hM : cQ []:=.nil
 refine dF (l:=[]) (m:=[]) (ee:=[(103,φP (vM 236 (pLv f .unary) f))]) .nil .nil (.cons (Hy h0 (bX f .unary) (by decide) (by decide) f) .nil) V8 fun H p n xs a e rest r a' e' hp htk hlen h=>?_
 unfold gOf at h
 split at h
 ·have qa:=dC (n:=n) hp htk hlen;have qa0:=bY (n:=n) hp htk hlen;have ca:=cV (n:=n) hp htk hlen;have ca0:=cC (n:=n) hp htk hlen;have rc:=fA hp;have rc0:=cU hp;have sc:=fun K : D -> S -> Prop=>fM (K:=K) hp;have sc0:=fun K : D -> S -> Prop=>d9 (K:=K) hp
  have pa:=(fun g rest a e L=>Di (n:=n) hp htk hlen g rest a e L)
  have hr8 : ex8 r:=bX (f + 1) .prod xs (a,e) (r,(a',e')) htk h
  have hg : vM 236 (pLv f .unary) f p [.fn 236 [.ptr p 0] [],.sl none [.str [42]]] xs a e = some (r,a',e'):=by
   simp only [vM]
   rw [if_pos ⟨trivial,trivial,rfl,by simp,rfl⟩]
   exact h
  refine ⟨by simp,hr8.2.2,fun T=>?_⟩
  have hre:=hr8.2.1
  obtain ⟨⟨c0,c1,c2,c3,c4,c5,c6,c7,rfl⟩,_,_⟩:=hr8
  simp +contextual only [qa,qa0,ca,ca0,rc,rc0,sc,sc0,pa,To,hg,go_sem]
  exact aL hre ⟨_,rfl⟩ ⟨_,rfl⟩
 ·cases h
theorem V5 (f : Nat) (h0 : bK Tryz.prog 170 (φC (gOf (pLv f .not)))) (h1 : bK Tryz.prog 202 (φC (gOf (pLv f .cmp)))) : bK Tryz.prog 170 (φC (gOf (pLv (f + 1) .not))):=by
 have hM : cQ []:=.nil
 refine dF (l:=[]) (m:=[]) (ee:=[(69,φC cR),(170,φC (gOf (pLv f .not))),(202,φC (gOf (pLv f .cmp)))]) .nil .nil (.cons xN (.cons h0 (.cons h1 .nil))) Sw fun H p n xs a e rest r a' e' hp htk hlen h=>?_
 unfold gOf at h
 split at h
 ·have qa:=dC (n:=n) hp htk hlen;have qa0:=bY (n:=n) hp htk hlen;have ca:=cV (n:=n) hp htk hlen;have ca0:=cC (n:=n) hp htk hlen;have rc:=fA hp;have rc0:=cU hp;have sc:=fun K : D -> S -> Prop=>fM (K:=K) hp;have sc0:=fun K : D -> S -> Prop=>d9 (K:=K) hp
  have hr8 : ex8 r:=bX (f + 1) .not xs (a,e) (r,(a',e')) htk h
  refine ⟨by simp,hr8.2.2,fun T=>?_⟩
  simp only [pLv] at h
  rcases tf (isP xs (a,e) sQ) with g | g
  ·rw [if_pos g] at h
   obtain ⟨z,hz⟩ : ∃ z,pLv f .not xs (a + 1,e) = z:=⟨_,rfl⟩
   rw [hz] at h
   cases z with
   | none=>cases h
   | some z =>
    obtain ⟨x,a1,e1⟩:=z
    have hx8 : ex8 x:=bX f .not xs (a + 1,e) (x,(a1,e1)) htk hz
    have hg : gOf (pLv f .not) [] xs (a + 1) e = some (x,a1,e1):=hz
    simp only [nK,Option.some.injEq,Prod.mk.injEq] at h
    obtain ⟨h1,h2,h3⟩:=h
    subst h1;subst h2;subst h3
    have hre:=hr8.2.1
    have hxe:=hx8.2.1
    obtain ⟨⟨c0,c1,c2,c3,c4,c5,c6,c7,rfl⟩,_,_⟩:=hx8
    have g':=g
    (try simp only [sQ] at g')
    simp only [jQ,sQ] at hre ⊢
    simp +contextual only [qa,qa0,ca,ca0,rc,rc0,sc,sc0,QL,cR,g',hg,go_sem]
    refine aL ?_ ⟨_,rfl⟩ ⟨_,rfl⟩
    simp only [D.erase,D.eraseL,D.agg.injEq] at hxe ⊢
    rw [hxe]
  ·rw [if_neg (by rw [g];decide)] at h
   have hg : gOf (pLv f .cmp) [] xs a e = some (r,a',e'):=h
   have hre:=hr8.2.1
   obtain ⟨⟨c0,c1,c2,c3,c4,c5,c6,c7,rfl⟩,_,_⟩:=hr8
   have g':=g
   (try simp only [sQ] at g')
   simp +contextual only [qa,qa0,ca,ca0,rc,rc0,sc,sc0,QL,cR,g',hg,go_sem]
   exact aL hre ⟨_,rfl⟩ (by first | exact ⟨_,rfl⟩ | (refine ⟨[],?_⟩;simp;done))
 ·cases h
theorem OO (f : Nat) (h0 : bK Tryz.prog 236 (φC (gOf (pLv f .unary)))) (h1 : bK Tryz.prog 238 (φC (gOf (pLv f .plain)))) : bK Tryz.prog 236 (φC (gOf (pLv (f + 1) .unary))):=by
 have hM : cQ []:=.nil
 refine dF (l:=[]) (m:=[]) (ee:=[(69,φC cR),(236,φC (gOf (pLv f .unary))),(238,φC (gOf (pLv f .plain)))]) .nil .nil (.cons xN (.cons h0 (.cons h1 .nil))) So fun H p n xs a e rest r a' e' hp htk hlen h=>?_
 unfold gOf at h
 split at h
 ·have qa:=dC (n:=n) hp htk hlen;have qa0:=bY (n:=n) hp htk hlen;have ca:=cV (n:=n) hp htk hlen;have ca0:=cC (n:=n) hp htk hlen;have rc:=fA hp;have rc0:=cU hp;have sc:=fun K : D -> S -> Prop=>fM (K:=K) hp;have sc0:=fun K : D -> S -> Prop=>d9 (K:=K) hp
  have hr8 : ex8 r:=bX (f + 1) .unary xs (a,e) (r,(a',e')) htk h
  refine ⟨by simp,hr8.2.2,fun T=>?_⟩
  simp only [pLv] at h
  rcases tf (isP xs (a,e) [45]) with g | g
  ·rw [if_pos g] at h
   obtain ⟨z,hz⟩ : ∃ z,pLv f .unary xs (a + 1,e) = z:=⟨_,rfl⟩
   rw [hz] at h
   cases z with
   | none=>cases h
   | some z =>
    obtain ⟨x,a1,e1⟩:=z
    have hx8 : ex8 x:=bX f .unary xs (a + 1,e) (x,(a1,e1)) htk hz
    have hg : gOf (pLv f .unary) [] xs (a + 1) e = some (x,a1,e1):=hz
    simp only [nK,Option.some.injEq,Prod.mk.injEq] at h
    obtain ⟨h1,h2,h3⟩:=h
    subst h1;subst h2;subst h3
    have hre:=hr8.2.1
    have hxe:=hx8.2.1
    obtain ⟨⟨c0,c1,c2,c3,c4,c5,c6,c7,rfl⟩,_,_⟩:=hx8
    have g':=g
    (try simp only [CL] at g')
    simp only [jQ,CL] at hre ⊢
    simp +contextual only [qa,qa0,ca,ca0,rc,rc0,sc,sc0,R0,cR,g',hg,go_sem]
    refine aL ?_ ⟨_,rfl⟩ ⟨_,rfl⟩
    simp only [D.erase,D.eraseL,D.agg.injEq] at hxe ⊢
    rw [hxe]
  ·rw [if_neg (by rw [g];decide)] at h
   have hg : gOf (pLv f .plain) [] xs a e = some (r,a',e'):=h
   have hre:=hr8.2.1
   obtain ⟨⟨c0,c1,c2,c3,c4,c5,c6,c7,rfl⟩,_,_⟩:=hr8
   have g':=g
   (try simp only [CL] at g')
   simp +contextual only [qa,qa0,ca,ca0,rc,rc0,sc,sc0,R0,cR,g',hg,go_sem]
   exact aL hre ⟨_,rfl⟩ (by first | exact ⟨_,rfl⟩ | (refine ⟨[],?_⟩;simp;done))
 ·cases h
theorem OI (f : Nat) (h0 : bK Tryz.prog 49 (φC (gOf (pLv f .expr)))) : bK Tryz.prog 240 (φC (gOf (pLv (f + 1) .inner))):=by
 have hM : cQ []:=.nil
 refine dF (l:=[]) (m:=[]) (ee:=[(71,φC bV),(49,φC (gOf (pLv f .expr)))]) .nil .nil (.cons G3 (.cons h0 .nil)) X2 fun H p n xs a e rest r a' e' hp htk hlen h=>?_
 unfold gOf at h
 split at h
 ·have qa:=dC (n:=n) hp htk hlen;have qa0:=bY (n:=n) hp htk hlen;have ca:=cV (n:=n) hp htk hlen;have ca0:=cC (n:=n) hp htk hlen;have rc:=fA hp;have rc0:=cU hp;have sc:=fun K : D -> S -> Prop=>fM (K:=K) hp;have sc0:=fun K : D -> S -> Prop=>d9 (K:=K) hp
  have hr8 : ex8 r:=bX (f + 1) .inner xs (a,e) (r,(a',e')) htk h
  refine ⟨by simp,hr8.2.2,fun T=>?_⟩
  simp only [pLv] at h
  obtain ⟨⟨a1,e1⟩,hm1⟩ : ∃ st,aD xs [40] (a,e) = st:=⟨_,rfl⟩
  rw [hm1] at h
  have hg1 : bV [.str [40]] xs a e = some (.tup [],a1,e1):=by simp only [bV,hm1]
  obtain ⟨z,hz⟩ : ∃ z,pLv f .expr xs (a1,e1) = z:=⟨_,rfl⟩
  rw [hz] at h
  cases z with
  | none=>cases h
  | some z =>
   obtain ⟨x,a2,e2⟩:=z
   have hg2 : gOf (pLv f .expr) [] xs a1 e1 = some (x,a2,e2):=hz
   obtain ⟨⟨a3,e3⟩,hm3⟩ : ∃ st,aD xs [41] (a2,e2) = st:=⟨_,rfl⟩
   have hg3 : bV [.str [41]] xs a2 e2 = some (.tup [],a3,e3):=by simp only [bV,hm3]
   simp only [EE,hm3,Option.some.injEq,Prod.mk.injEq] at h
   obtain ⟨h1,h2,h3⟩:=h
   subst h1;subst h2;subst h3
   have hre:=hr8.2.1
   obtain ⟨⟨c0,c1,c2,c3,c4,c5,c6,c7,rfl⟩,_,_⟩:=hr8
   simp +contextual only [qa,qa0,ca,ca0,rc,rc0,sc,sc0,U8,hg1,hg2,hg3,go_sem]
   exact aL hre ⟨_,rfl⟩ (by first | exact ⟨_,rfl⟩ | (refine ⟨[],?_⟩;simp;done))
 ·cases h
set_option maxHeartbeats 4000000 in
theorem TI (f : Nat) (h0 : bK Tryz.prog 217 (φC (gOf (pLv f .sum)))) : bK Tryz.prog 202 (φC (gOf (pLv (f + 1) .cmp))):=by
 have hM : cQ []:=.nil
 refine dF (l:=[(169,pD)]) (m:=[]) (ee:=[(69,φC cR),(217,φC (gOf (pLv f .sum)))]) (.cons Ph .nil) .nil (.cons xN (.cons h0 .nil)) Wo fun H p n xs a e rest r a' e' hp htk hlen h=>?_
 unfold gOf at h
 split at h
 ·have qa:=dC (n:=n) hp htk hlen;have qa0:=bY (n:=n) hp htk hlen;have ca:=cV (n:=n) hp htk hlen;have ca0:=cC (n:=n) hp htk hlen;have rc:=fA hp;have rc0:=cU hp;have sc:=fun K : D -> S -> Prop=>fM (K:=K) hp;have sc0:=fun K : D -> S -> Prop=>d9 (K:=K) hp
  have hr8 : ex8 r:=bX (f + 1) .cmp xs (a,e) (r,(a',e')) htk h
  refine ⟨by simp,hr8.2.2,fun T=>?_⟩
  simp only [pLv] at h
  obtain ⟨z,hz⟩ : ∃ z,pLv f .sum xs (a,e) = z:=⟨_,rfl⟩
  rw [hz] at h
  cases z with
  | none=>cases h
  | some z =>
  obtain ⟨x,b,eb⟩:=z
  have hx8 : ex8 x:=bX f .sum xs (a,e) (x,(b,eb)) htk hz
  have hg : gOf (pLv f .sum) [] xs a e = some (x,b,eb):=hz
  simp only [z8] at h
  have hx8':=hx8
  have hxe:=hx8.2.1
  obtain ⟨⟨c0,c1,c2,c3,c4,c5,c6,c7,rfl⟩,_,_⟩:=hx8
  simp +contextual only [qa,qa0,ca,ca0,rc,rc0,sc,sc0,WH,hg,go_sem]
  obtain ⟨ds,hds⟩ : ∃ ds,[D.str [61,61],D.str [33,61],D.str [60],D.str [60,61],D.str [62],D.str [62,61],D.str [105,110]] = ds:=⟨_,rfl⟩
  have hmapW : ds.map gY = Ec:=by rw [<- hds];rfl
  have hd : ds.all oF = true:=by rw [<- hds];rfl
  have hdl : ds.length = 7:=by rw [<- hds];rfl
  rw [hds]
  have hstr : ∀ (i : Nat) (hi : i < ds.length),ds[i]? = some (.str (gY ds[i])):=fun i hi=>by
   have:=List.all_eq_true.1 hd _ (List.getElem_mem hi)
   rw [List.getElem?_eq_getElem hi]
   cases hx : ds[i] <;> rw [hx] at this <;> simp [oF] at this <;> rfl
  clear hds hg hz
  refine bG (fun i s'=>s'.t 0 = .ptr p 0 /\ s'.t 2 = .ptr H.length 0 /\ s'.t 3 = .ptr (H.length + 1) 0 /\ s'.t 8 = .sl (some T.length) ds /\ s'.t 9 = .int .i64 7 /\ s'.t 10 = .int .i64 ((i : Nat) : Int) ∧
    s'.H = H.set p (.row [aA n xs,.int .i64 ((b : Nat) : Int),.int .i64 eb]) ++ [.row [.str [],.int .i64 0,.int .i64 0,.str [],.nils,.str [],.str [],.nils],.row [c0,c1,c2,c3,c4,c5,c6,c7]] /\ s'.T = T ++ [some (7,1)] /\ i <= 7 /\ ∀ j u,j < i -> (ds.map gY)[j]? = some u -> isP xs (b,eb) u = false) 7
   ⟨0,by simp [upd,bF],by simp [upd],by simp [upd],by simp [upd],by simp [upd],by simp [upd],rfl,rfl,by omega,fun j u h=>by omega⟩ (fun i s h=>h.2.2.2.2.2.2.2.2.1) ?_ (jV _ _ _)
  rintro i ⟨t,B,T'⟩ ⟨r0,r2,r3,r8,r9,r10,rfl,rfl,hi,hN⟩
  simp only at r0 r2 r3 r8 r9 r10
  by_cases hlt : i < 7
  ·have d1 : decide (((i : Nat) : Int) < 7) = true:=by simp only [decide_eq_true_eq];omega
   have ex:=hstr i (by omega)
   obtain ⟨u,hu⟩ : ∃ u,gY ds[i] = u:=⟨_,rfl⟩
   rw [hu] at ex
   have hmap : (ds.map gY)[i]? = some u:=by rw [List.getElem?_map,ex];rfl
   have ws : IntKind.i64.wrap (((i : Nat) : Int) + 1) = ((i + 1 : Nat) : Int):=by rw [show ((i : Nat) : Int) + 1 = ((i + 1 : Nat) : Int) by omega];exact eH _ (by omega) (by omega)
   rcases tf (isP xs (b,eb) u) with g1 | g1
   ·have hf1:=rG hmap hN g1
    rw [hmapW] at hf1
    rw [hf1] at h
    simp only at h
    obtain ⟨y,hy⟩ : ∃ y,pLv f .sum xs (b + 1,eb) = y:=⟨_,rfl⟩
    rw [hy] at h
    cases y with
    | none=>cases h
    | some y =>
    obtain ⟨y,b2,eb2⟩:=y
    have hy8 : ex8 y:=bX f .sum xs (b + 1,eb) (y,(b2,eb2)) htk hy
    have hgy : gOf (pLv f .sum) [] xs (b + 1) eb = some (y,b2,eb2):=hy
    simp only [Option.some.injEq,Prod.mk.injEq] at h
    obtain ⟨h1,h2,h3⟩:=h
    subst h1;subst h2;subst h3
    have ptwo : pD [.str u,.agg [c0,c1,c2,c3,c4,c5,c6,c7],y] = some (mA u (.agg [c0,c1,c2,c3,c4,c5,c6,c7]) y):=by simp only [pD];rw [if_pos ⟨hx8',hy8⟩]
    obtain ⟨⟨d0,d1',d2,d3,d4,d5,d6,d7,rfl⟩,hye,_⟩:=hy8
    have hre:=hr8.2.1
    simp only [D.erase,D.eraseL,D.agg.injEq] at hxe hye
    have erall : D.eraseL [.str u,.agg [c0,c1,c2,c3,c4,c5,c6,c7],.agg [d0,d1',d2,d3,d4,d5,d6,d7]] = [.str u,.agg [c0,c1,c2,c3,c4,c5,c6,c7],.agg [d0,d1',d2,d3,d4,d5,d6,d7]]:=by
     simp only [D.eraseL,D.erase,hxe,hye]
    simp only [mA] at ptwo hre ⊢
    simp +contextual only [qa,qa0,ca,ca0,rc,rc0,sc,sc0,r0,r2,r3,r8,r9,r10,d1,ex,cR,g1,hgy,cH hM,ptwo,erall,go_sem]
    exact aL hre ⟨_,rfl⟩ ⟨_,rfl⟩
   ·simp +contextual only [qa,qa0,ca,ca0,rc,rc0,sc,sc0,r0,r2,r3,r8,r9,r10,d1,ex,cR,g1,ws,go_sem]
    refine ⟨by omega,fun j v hj hv=>?_⟩
    rcases Nat.lt_or_ge j i with h' | h'
    ·exact hN j v h' hv
    ·have : j = i:=by omega
     subst this
     rw [hmap] at hv;injection hv with hv;subst hv;exact g1
  ·have d1 : decide (((i : Nat) : Int) < 7) = false:=by simp only [decide_eq_false_iff_not];omega
   have hf0 : fX xs (b,eb) Ec = none:=by
    rw [<- hmapW]
    exact mJ fun v hv=>by
     obtain ⟨q,hq,rfl⟩:=List.getElem_of_mem hv
     exact hN q _ (by simp at hq;omega) (by rw [List.getElem?_eq_getElem hq])
   rw [hf0] at h
   simp only [Option.some.injEq,Prod.mk.injEq] at h
   obtain ⟨h1,h2,h3⟩:=h
   subst h1;subst h2;subst h3
   simp +contextual only [qa,qa0,ca,ca0,rc,rc0,sc,sc0,r0,r2,r3,r8,r9,r10,d1,go_sem]
   exact aL hxe ⟨_,rfl⟩ ⟨_,rfl⟩
 ·cases h
theorem K2 {toks : List D} {st : St} (h : (aF toks st).2.1 = false) : aF toks st = (eE,false,st):=by
 revert h
 unfold aF
 (repeat' split) <;> simp
set_option maxHeartbeats 8000000 in
theorem Nt (f : Nat) (hf : f <= 10000) (h0 : bK Tryz.prog 240 (φC (gOf (pLv f .inner)))) : bK Tryz.prog 238 (φC (gOf (pLv (f + 1) .plain))):=by
 have hM : cQ [(117,φQ gIs)]:=.cons (lI gIs) .nil
 refine dF (l:=[]) (m:=[(117,φQ gIs)]) (ee:=[(69,φC cR),(71,φC bV),(118,φC tJ),(120,φC j0),(239,φC GB),(241,φC (N1 f)),(240,φC (gOf (pLv f .inner)))]) .nil (.cons Lz .nil)
  (.cons xN (.cons G3 (.cons PZ (.cons Fd (.cons Q6 (.cons (Se f hf) (.cons h0 .nil))))))) XD fun H p n xs a e rest r a' e' hp htk hlen h=>?_
 unfold gOf at h
 split at h
 ·have qa:=dC (n:=n) hp htk hlen;have qa0:=bY (n:=n) hp htk hlen;have ca:=cV (n:=n) hp htk hlen;have ca0:=cC (n:=n) hp htk hlen;have rc:=fA hp;have rc0:=cU hp;have sc:=fun K : D -> S -> Prop=>fM (K:=K) hp;have sc0:=fun K : D -> S -> Prop=>d9 (K:=K) hp
  have hr8 : ex8 r:=bX (f + 1) .plain xs (a,e) (r,(a',e')) htk h
  refine ⟨by simp,hr8.2.2,fun T=>?_⟩
  have hre:=hr8.2.1
  simp only [pLv,oM] at h
  obtain ⟨k1,i1,s1,f1,hs1⟩:=wC htk (a,e)
  obtain ⟨⟨b1,a1,e1⟩,f2⟩ : ∃ z,(aF xs (a,e)).2 = z:=⟨_,rfl⟩
  have f3 : aF xs (a,e) = (.agg [.int .i64 k1,.int .i64 i1,.str s1,.nils],b1,a1,e1):=by rw [<- f1,← f2]
  have hlit : GB [] xs a e = some (.tup [.agg [.int .i64 k1,.int .i64 i1,.str s1,.nils],.bool b1],a1,e1):=by simp only [GB,f3]
  cases b1 with
  | true =>
   rw [f3] at h
   simp only [if_true,Option.some.injEq,Prod.mk.injEq] at h
   obtain ⟨h1,h2,h3⟩:=h
   subst h1;subst h2;subst h3
   simp only [kZ,D.cells,List.cons_append,List.nil_append] at hre ⊢
   simp +contextual only [qa,qa0,ca,ca0,rc,rc0,sc,sc0,DO,hlit,go_sem]
   exact aL hre ⟨_,rfl⟩ (by first | exact ⟨_,rfl⟩ | (refine ⟨[],?_⟩;simp;done))
  | false =>
  have lf:=K2 (toks:=xs) (st:=(a,e)) (by rw [f3])
  rw [lf] at h
  rw [lf] at f3
  simp only [eE,Prod.mk.injEq,D.agg.injEq,List.cons.injEq,D.int.injEq,D.str.injEq,true_and,and_true] at f3
  obtain ⟨⟨f4,f5,f6⟩,f7,f8⟩:=f3
  subst f4;subst f5;subst f6;subst f7;subst f8
  simp only [Bool.false_eq_true,if_false] at h
  rcases tf (isP xs (a,e) zO) with g1 | g1
  ·rw [if_pos g1] at h
   simp only [Option.some.injEq,Prod.mk.injEq] at h
   obtain ⟨h1,h2,h3⟩:=h
   subst h1;subst h2;subst h3
   simp only [zO] at g1
   simp only [dQ,zO] at hre ⊢
   simp +contextual only [qa,qa0,ca,ca0,rc,rc0,sc,sc0,DO,hlit,cR,g1,go_sem]
   exact aL hre ⟨_,rfl⟩ (by first | exact ⟨_,rfl⟩ | (refine ⟨[],?_⟩;simp;done))
  rw [if_neg (by rw [g1];decide)] at h
  simp only [zO] at g1
  have i1 : gIs [.str [40]] xs a e = some (.bool (isP xs (a,e) [40])):=rfl
  rcases tf (isP xs (a,e) [40]) with g2 | g2
  ·rw [if_pos g2] at h
   rw [g2] at i1
   have hg : gOf (pLv f .inner) [] xs a e = some (r,a',e'):=h
   obtain ⟨⟨c0,c1,c2,c3,c4,c5,c6,c7,rfl⟩,_,_⟩:=hr8
   simp +contextual only [qa,qa0,ca,ca0,rc,rc0,sc,sc0,DO,hlit,cR,g1,i1,hg,cH hM,go_sem]
   exact aL hre ⟨_,rfl⟩ (by first | exact ⟨_,rfl⟩ | (refine ⟨[],?_⟩;simp;done))
  rw [if_neg (by rw [g2];decide)] at h
  rw [g2] at i1
  rcases tf (isP xs (a,e) [91]) with g3 | g3
  ·rw [if_pos g3] at h
   have hg : N1 f [.int .i64 ((a : Nat) : Int)] xs (a + 1) e = some (r,a',e'):=by
    simp only [N1]
    rw [if_pos (by omega),Int.toNat_natCast];exact h
   obtain ⟨⟨c0,c1,c2,c3,c4,c5,c6,c7,rfl⟩,_,_⟩:=hr8
   simp +contextual only [qa,qa0,ca,ca0,rc,rc0,sc,sc0,DO,hlit,cR,g1,g3,i1,hg,cH hM,go_sem]
   exact aL hre ⟨_,rfl⟩ (by first | exact ⟨_,rfl⟩ | (refine ⟨[],?_⟩;simp;done))
  rw [if_neg (by rw [g3];decide)] at h
  rcases tf (isP xs (a,e) sU) with g4 | g4
  ·rw [if_pos g4] at h
   obtain ⟨z,hz⟩ : ∃ z,pLv f .inner xs (a + 1,e) = z:=⟨_,rfl⟩
   rw [hz] at h
   cases z with
   | none=>cases h
   | some z =>
    obtain ⟨x,b1,eb1⟩:=z
    have hx8 : ex8 x:=bX f .inner xs (a + 1,e) (x,(b1,eb1)) htk hz
    have hg : gOf (pLv f .inner) [] xs (a + 1) e = some (x,b1,eb1):=hz
    simp only [nK,Option.some.injEq,Prod.mk.injEq] at h
    obtain ⟨h1,h2,h3⟩:=h
    subst h1;subst h2;subst h3
    have hxe:=hx8.2.1
    obtain ⟨⟨c0,c1,c2,c3,c4,c5,c6,c7,rfl⟩,_,_⟩:=hx8
    simp only [sU] at g4
    simp only [jQ,sU] at hre ⊢
    simp +contextual only [qa,qa0,ca,ca0,rc,rc0,sc,sc0,DO,hlit,cR,g1,g3,g4,i1,hg,cH hM,go_sem]
    refine aL ?_ ⟨_,rfl⟩ ⟨_,rfl⟩
    simp only [D.erase,D.eraseL,D.agg.injEq] at hxe ⊢
    rw [hxe]
  rw [if_neg (by rw [g4];decide)] at h
  simp only [sU] at g4
  rcases tf (isP xs (a,e) nN) with g5 | g5
  ·rw [if_pos g5] at h
   obtain ⟨⟨b1,eb1⟩,hm1⟩ : ∃ st,aD xs [40] (a + 1,e) = st:=⟨_,rfl⟩
   obtain ⟨k2,s2,m2,q1,hs2⟩:=wA htk 3 (b1,eb1)
   obtain ⟨⟨b2,eb2⟩,q2⟩ : ∃ st,(cL xs 3 (b1,eb1)).2 = st:=⟨_,rfl⟩
   have q3 : cL xs 3 (b1,eb1) = (mkT k2 s2 m2,b2,eb2):=by rw [<- q1,← q2]
   obtain ⟨⟨b3,eb3⟩,hm3⟩ : ∃ st,aD xs [41] (b2,eb2) = st:=⟨_,rfl⟩
   have hg1 : bV [.str [40]] xs (a + 1) e = some (.tup [],b1,eb1):=by simp only [bV,hm1]
   have hg2 : j0 [.int .i64 3] xs b1 eb1 = some (mkT k2 s2 m2,b2,eb2):=by simp only [j0];rw [if_neg (by decide),q3]
   have hg3 : bV [.str [41]] xs b2 eb2 = some (.tup [],b3,eb3):=by simp only [bV,hm3]
   simp only [hm1,q3,hm3,kU,Option.some.injEq,Prod.mk.injEq] at h
   obtain ⟨h1,h2,h3⟩:=h
   subst h1;subst h2;subst h3
   simp only [nN] at g5
   simp only [mkT] at hg2
   simp only [dQ,nN] at hre ⊢
   simp +contextual only [qa,qa0,ca,ca0,rc,rc0,sc,sc0,DO,hlit,cR,g1,g3,g4,g5,i1,hg1,hg2,hg3,cH hM,go_sem]
   exact aL hre ⟨_,rfl⟩ (by first | exact ⟨_,rfl⟩ | (refine ⟨[],?_⟩;simp;done))
  rw [if_neg (by rw [g5];decide)] at h
  simp only [nN] at g5
  rcases tf (isP xs (a,e) uG) with g6 | g6
  ·rw [if_pos g6] at h
   obtain ⟨⟨b1,eb1⟩,hm1⟩ : ∃ st,aD xs [40] (a + 1,e) = st:=⟨_,rfl⟩
   obtain ⟨u1,u2,⟨b2,eb2⟩,q3⟩ : ∃ u1 u2 st,bU xs (b1,eb1) = (u1,u2,st):=⟨_,_,_,rfl⟩
   obtain ⟨⟨b3,eb3⟩,hm3⟩ : ∃ st,aD xs [41] (b2,eb2) = st:=⟨_,rfl⟩
   have hg1 : bV [.str [40]] xs (a + 1) e = some (.tup [],b1,eb1):=by simp only [bV,hm1]
   have hg2 : tJ [] xs b1 eb1 = some (.tup [.str u1,.str u2],b2,eb2):=by simp only [tJ,q3]
   have hg3 : bV [.str [41]] xs b2 eb2 = some (.tup [],b3,eb3):=by simp only [bV,hm3]
   simp only [hm1,q3,hm3,Option.some.injEq,Prod.mk.injEq] at h
   obtain ⟨h1,h2,h3⟩:=h
   subst h1;subst h2;subst h3
   simp only [uG] at g6
   simp only [dQ,uG] at hre ⊢
   simp +contextual only [qa,qa0,ca,ca0,rc,rc0,sc,sc0,DO,hlit,cR,g1,g3,g4,g5,g6,i1,hg1,hg2,hg3,cH hM,go_sem]
   exact aL hre ⟨_,rfl⟩ (by first | exact ⟨_,rfl⟩ | (refine ⟨[],?_⟩;simp;done))
  rw [if_neg (by rw [g6];decide)] at h
  simp only [uG] at g6
  obtain ⟨u1,u2,⟨b2,eb2⟩,q3⟩ : ∃ u1 u2 st,bU xs (a,e) = (u1,u2,st):=⟨_,_,_,rfl⟩
  have hg2 : tJ [] xs a e = some (.tup [.str u1,.str u2],b2,eb2):=by simp only [tJ,q3]
  simp only [q3,Option.some.injEq,Prod.mk.injEq] at h
  obtain ⟨h1,h2,h3⟩:=h
  subst h1;subst h2;subst h3
  simp only [dQ,yO] at hre ⊢
  simp +contextual only [qa,qa0,ca,ca0,rc,rc0,sc,sc0,DO,hlit,cR,g1,g3,g4,g5,g6,i1,hg2,cH hM,go_sem]
  exact aL hre ⟨_,rfl⟩ (by first | exact ⟨_,rfl⟩ | (refine ⟨[],?_⟩;simp;done))
 ·cases h
theorem Sc : ∀ f,f <= 10000 -> bK Tryz.prog 49 (φC (gOf (pLv f .expr))) /\ bK Tryz.prog 104 (φC (gOf (pLv f .and))) /\ bK Tryz.prog 170 (φC (gOf (pLv f .not))) /\ bK Tryz.prog 202 (φC (gOf (pLv f .cmp))) /\ bK Tryz.prog 217 (φC (gOf (pLv f .sum))) ∧
  bK Tryz.prog 228 (φC (gOf (pLv f .prod))) /\ bK Tryz.prog 236 (φC (gOf (pLv f .unary))) /\ bK Tryz.prog 238 (φC (gOf (pLv f .plain))) /\ bK Tryz.prog 240 (φC (gOf (pLv f .inner)))
 | 0,_=>by
  have z : ∀ (lv : Lv) (N : FuncId),bK Tryz.prog N (φC (gOf (pLv 0 lv))):=fun lv N H args r H' h=>by
   exfalso
   unfold φC at h
   split at h
   ·obtain ⟨_,_,_,_,_,_,_,_,_,_,_,h5,_⟩:=Br h
    unfold gOf at h5
    split at h5
    ·cases lv <;> cases h5
    ·cases h5
   ·cases h
  exact ⟨z _ _,z _ _,z _ _,z _ _,z _ _,z _ _,z _ _,z _ _,z _ _⟩
 | f + 1,hf=>by
  obtain ⟨h1,h2,h3,h4,h5,h6,h7,h8,h9⟩:=Sc f (by omega)
  exact ⟨RK f h2,Ta f h3,V5 f h3 h4,TI f h5,Vs f h6,Rz f h7,OO f h7 h8,Nt f (by omega) h9,OI f h1⟩
def rem (toks : List D) (st : St) : Nat:=if st.2 == 0 then toks.length - st.1 else 0
theorem fI {toks : List D} {st : St} {w : List UInt8} (h : isP toks st w = true) : rem toks (st.1 + 1,st.2) < rem toks st:=by
 obtain ⟨h1,h2⟩:=yI h
 unfold rem
 rw [h2]
 simp only [beq_self_eq_true,if_true]
 omega
theorem wR {toks : List D} {st : St} (h : tk (bI toks st) ≠ 0) : rem toks (st.1 + 1,st.2) < rem toks st:=by
 obtain ⟨h1,h2⟩:=vP (toks:=toks) (a:=st.1) (e:=st.2) h
 unfold rem
 rw [h2]
 simp only [beq_self_eq_true,if_true]
 omega
theorem nF (toks : List D) (n : Nat) (st : St) : rem toks (bO n 2 st) <= rem toks st:=by
 unfold bO
 split
 ·unfold rem;simp
 ·exact Nat.le_refl _
theorem iU (toks : List D) (w : List UInt8) (st : St) : rem toks (aD toks w st) <= rem toks st:=by
 unfold aD
 split
 ·rename_i h;exact Nat.le_of_lt (fI h)
 ·exact nF _ _ _
theorem FI {toks : List D} {w : List UInt8} {st : St} (h : isP toks st w = true) : rem toks (aD toks w st) < rem toks st:=by
 unfold aD;rw [if_pos h];exact fI h
theorem FE (toks : List D) {k : Int} (hk : k ≠ 0) (st : St) : rem toks (cL toks k st).2 <= rem toks st:=by
 unfold cL
 split
 ·exact nF _ _ _
 ·rename_i h
  have : tk (bI toks st) = k:=by simpa using h
  exact Nat.le_of_lt (wR (by omega))
theorem Kv (toks : List D) (st : St) : rem toks (cS toks st).2 <= rem toks st:=by
 unfold cS
 split
 ·exact nF _ _ _
 ·rename_i h
  simp only [Bool.or_eq_true,not_or,bne_iff_ne,ne_eq,Decidable.not_not] at h
  exact Nat.le_of_lt (wR (by omega))
theorem dV {toks : List D} {st : St} : ∀ {ws : List (List UInt8)} {w : List UInt8},fX toks st ws = some w -> isP toks st w = true
 | [],w,h=>by cases h
 | x :: r,w,h=>by
  simp only [fX] at h
  split at h
  ·injection h with h;subst h;assumption
  ·exact dV h
theorem PV (toks : List D) (ws : List (List UInt8)) (st : St) : rem toks (dT toks ws st).2 <= rem toks st:=by
 unfold dT
 split
 ·rename_i w h;exact Nat.le_of_lt (fI (dV h))
 ·exact nF _ _ _
theorem Fl (toks : List D) (st : St) : rem toks (bU toks st).2.2 <= rem toks st:=by
 unfold bU
 exact Nat.le_trans (Kv _ _) (Nat.le_trans (iU _ _ _) (PV _ _ _))
theorem Db (toks : List D) (st : St) : rem toks (aF toks st).2.2 <= rem toks st:=by
 unfold aF
 split
 ·rename_i h;have : tk (bI toks st) = 2:=by simpa using h
  exact Nat.le_of_lt (wR (by omega))
 split
 ·rename_i h;have : tk (bI toks st) = 3:=by simpa using h
  exact Nat.le_of_lt (wR (by omega))
 split
 ·rename_i h;have : tk (bI toks st) = 4:=by simpa using h
  exact Nat.le_of_lt (wR (by omega))
 split
 ·rename_i h
  simp only [Bool.or_eq_true] at h
  rcases h with h | h <;> exact Nat.le_of_lt (fI h)
 ·exact Nat.le_refl _
theorem Ei (toks : List D) (st : St) : rem toks (dD toks st).2 <= rem toks st:=by
 unfold dD
 split
 ·rename_i h;exact Nat.le_trans (FE _ (by decide) _) (Nat.le_of_lt (fI h))
 split
 ·exact Db _ _
 ·exact Nat.le_trans (nF _ _ _) (Db _ _)
theorem Fq (toks : List D) : ∀ (f : Nat) (out : List D) (st : St),rem toks st < f -> ∃ o st2,lO toks f out st = some (o,st2) /\ rem toks st2 <= rem toks st
 | 0,_,_,h=>by omega
 | f + 1,out,st,h=>by
  simp only [lO]
  split
  ·rename_i g
   have h1:=fI g
   have h2:=Ei toks (st.1 + 1,st.2)
   obtain ⟨o,st2,e,k⟩:=Fq toks f (out ++ [(dD toks (st.1 + 1,st.2)).1]) (dD toks (st.1 + 1,st.2)).2 (by omega)
   exact ⟨o,st2,e,by omega⟩
  ·exact ⟨out,st,rfl,Nat.le_refl _⟩
theorem N3 (toks : List D) {f fr : Nat} {st : St} (h : rem toks st < f) : ∃ x st2,sP toks f fr st = some (x,st2) /\ rem toks st2 <= rem toks st:=by
 have h1:=Ei toks st
 obtain ⟨o,st1,e,k⟩:=Fq toks f [(dD toks st).1] (dD toks st).2 (by omega)
 unfold sP
 rw [e]
 have h2:=iU toks [93] st1
 simp only
 split
 ·exact ⟨_,_,rfl,by omega⟩
 ·refine ⟨_,_,rfl,?_⟩
  split
  ·exact Nat.le_trans (nF _ _ _) (by omega)
  ·omega
def tot (toks : List D) (P : gP) (r : Nat) : Prop:=∀ st,rem toks st <= r -> ∃ x st2,P toks st = some (x,st2) /\ rem toks st2 <= rem toks st
theorem Ek {toks : List D} {P : gP} {r : Nat} (hP : tot toks P r) (bs : List (List UInt8)) : ∀ (f : Nat) (x : D) (st : St),rem toks st <= r -> rem toks st < f -> ∃ y st2,kX toks P bs f x st = some (y,st2) /\ rem toks st2 <= rem toks st
 | 0,_,_,_,h=>by omega
 | f + 1,x,st,hr,h=>by
  simp only [kX]
  split
  ·exact ⟨x,st,rfl,Nat.le_refl _⟩
  ·split
   ·exact ⟨x,st,rfl,Nat.le_refl _⟩
   ·rename_i w hw
    have h1:=fI (dV hw)
    obtain ⟨y,st2,e,k⟩:=hP (st.1 + 1,st.2) (by omega)
    rw [e]
    obtain ⟨z,st3,e3,k3⟩:=Ek hP bs f (mA w x y) st2 (by omega) (by omega)
    exact ⟨z,st3,e3,by omega⟩
theorem wP {toks : List D} {P : gP} {r : Nat} (hP : tot toks P r) (bs : List (List UInt8)) {f : Nat} (hf : r < f) : tot toks (fun toks st=>pA toks P bs f st) r:=fun st hr=>by
 obtain ⟨x,st1,e,k⟩:=hP st hr
 obtain ⟨y,st2,e2,k2⟩:=Ek hP bs f x st1 (by omega) (by omega)
 refine ⟨y,st2,?_,by omega⟩
 simp only [pA,e];exact e2
def Gl : Lv -> Nat
 | .plain=>1 | .unary=>2 | .prod=>3 | .sum=>4 | .cmp=>5 | .not=>6 | .and=>7 | .expr=>8 | .inner=>10
theorem Bi {op : List UInt8} {toks : List D} {z : Option (D × St)} {n : Nat} (h : ∃ x st2,z = some (x,st2) /\ rem toks st2 <= n) : ∃ x st2,nK op z = some (x,st2) /\ rem toks st2 <= n:=by
 obtain ⟨x,st2,rfl,k⟩:=h
 exact ⟨_,_,rfl,k⟩
theorem Rs (toks : List D) : ∀ (r f : Nat) (lv : Lv),16 * r + Gl lv < f -> tot toks (pLv f lv) r:=by
 intro r
 induction r using Nat.strongRecOn with
 | ind r ih =>
 have inn1 : ∀ f st,16 * r + 2 <= f + 1 -> rem toks st <= r -> isP toks st [40] = true -> ∃ x st2,pLv f .inner toks st = some (x,st2) /\ rem toks st2 <= rem toks st:=by
  intro f st hf hr hp
  have h1:=FI hp
  cases f with
  | zero=>omega
  | succ f =>
   obtain ⟨x,st2,e,k⟩:=ih (r - 1) (by omega) f .expr (by simp only [Gl];omega) (aD toks [40] st) (by omega)
   refine ⟨x,aD toks [41] st2,?_,?_⟩
   ·simp only [pLv,e,EE]
   ·have:=iU toks [41] st2;omega
 have inn2 : ∀ f st,16 * r + 2 <= f + 1 -> rem toks st < r -> ∃ x st2,pLv f .inner toks st = some (x,st2) /\ rem toks st2 <= rem toks st:=by
  intro f st hf hr
  exact ih (r - 1) (by omega) f .inner (by simp only [Gl];omega) st (by omega)
 have hplain : ∀ f,16 * r + 1 < f -> tot toks (pLv f .plain) r:=by
  intro f hf st hr
  cases f with
  | zero=>omega
  | succ f =>
   simp only [pLv,oM]
   split
   ·exact ⟨_,_,rfl,Db _ _⟩
   split
   ·rename_i h;exact ⟨_,_,rfl,Nat.le_of_lt (fI h)⟩
   split
   ·rename_i h;exact inn1 f st (by omega) hr h
   split
   ·rename_i h
    have h1:=fI h
    obtain ⟨x,st2,e,k⟩:=N3 toks (f:=f) (fr:=st.1) (st:=(st.1 + 1,st.2)) (by omega)
    exact ⟨x,st2,e,by omega⟩
   split
   ·rename_i h
    have h1:=fI h
    refine Bi ?_
    obtain ⟨x,st2,e,k⟩:=inn2 f (st.1 + 1,st.2) (by omega) (by omega)
    exact ⟨x,st2,e,by omega⟩
   split
   ·rename_i h
    refine ⟨_,_,rfl,?_⟩
    have h1:=fI h
    have h2:=iU toks [40] (st.1 + 1,st.2)
    have h3:=FE toks (k:=3) (by decide) (aD toks [40] (st.1 + 1,st.2))
    have h4:=iU toks [41] (cL toks 3 (aD toks [40] (st.1 + 1,st.2))).2
    omega
   split
   ·rename_i h
    refine ⟨_,_,rfl,?_⟩
    have h1:=fI h
    have h2:=iU toks [40] (st.1 + 1,st.2)
    have h3:=Fl toks (aD toks [40] (st.1 + 1,st.2))
    have h4:=iU toks [41] (bU toks (aD toks [40] (st.1 + 1,st.2))).2.2
    omega
   ·exact ⟨_,_,rfl,Fl _ _⟩
 have hunary : ∀ f,16 * r + 2 < f -> tot toks (pLv f .unary) r:=by
  intro f hf st hr
  cases f with
  | zero=>omega
  | succ f =>
   simp only [pLv]
   split
   ·rename_i h
    have h1:=fI h
    refine Bi ?_
    obtain ⟨x,st2,e,k⟩:=ih (r - 1) (by omega) f .unary (by simp only [Gl];omega) (st.1 + 1,st.2) (by omega)
    exact ⟨x,st2,e,by omega⟩
   ·exact hplain f (by omega) st hr
 have hprod : ∀ f,16 * r + 3 < f -> tot toks (pLv f .prod) r:=by
  intro f hf
  cases f with
  | zero=>omega
  | succ f=>exact wP (hunary f (by omega)) [[42]] (by omega)
 have hsum : ∀ f,16 * r + 4 < f -> tot toks (pLv f .sum) r:=by
  intro f hf
  cases f with
  | zero=>omega
  | succ f=>exact wP (hprod f (by omega)) [[43],[45]] (by omega)
 have hcmp : ∀ f,16 * r + 5 < f -> tot toks (pLv f .cmp) r:=by
  intro f hf st hr
  cases f with
  | zero=>omega
  | succ f =>
   obtain ⟨x,st1,e,k⟩:=hsum f (by omega) st hr
   simp only [pLv,e,z8]
   split
   ·exact ⟨x,st1,rfl,k⟩
   ·rename_i w hw
    have h1:=fI (dV hw)
    obtain ⟨y,st2,e2,k2⟩:=hsum f (by omega) (st1.1 + 1,st1.2) (by omega)
    rw [e2]
    exact ⟨_,st2,rfl,by omega⟩
 have hnot : ∀ f,16 * r + 6 < f -> tot toks (pLv f .not) r:=by
  intro f hf st hr
  cases f with
  | zero=>omega
  | succ f =>
   simp only [pLv]
   split
   ·rename_i h
    have h1:=fI h
    refine Bi ?_
    obtain ⟨x,st2,e,k⟩:=ih (r - 1) (by omega) f .not (by simp only [Gl];omega) (st.1 + 1,st.2) (by omega)
    exact ⟨x,st2,e,by omega⟩
   ·exact hcmp f (by omega) st hr
 have hand : ∀ f,16 * r + 7 < f -> tot toks (pLv f .and) r:=by
  intro f hf
  cases f with
  | zero=>omega
  | succ f=>exact wP (hnot f (by omega)) [Gg] (by omega)
 have hexpr : ∀ f,16 * r + 8 < f -> tot toks (pLv f .expr) r:=by
  intro f hf
  cases f with
  | zero=>omega
  | succ f=>exact wP (hand f (by omega)) [wOr] (by omega)
 have hinner : ∀ f,16 * r + 10 < f -> tot toks (pLv f .inner) r:=by
  intro f hf st hr
  cases f with
  | zero=>omega
  | succ f =>
   have h1:=iU toks [40] st
   obtain ⟨x,st2,e,k⟩:=hexpr f (by omega) (aD toks [40] st) (by omega)
   refine ⟨x,aD toks [41] st2,by simp only [pLv,e,EE],?_⟩
   have:=iU toks [41] st2;omega
 intro f lv hf
 cases lv <;> simp only [Gl] at hf
 ·exact hexpr f hf
 ·exact hand f hf
 ·exact hnot f hf
 ·exact hcmp f hf
 ·exact hsum f hf
 ·exact hprod f hf
 ·exact hunary f hf
 ·exact hplain f hf
 ·exact hinner f hf
end GP
