import Derived.Test.YtainhmbnbgonhaaGreatDoorM6
set_option maxHeartbeats 4000000
open List renaming getElem_mem->A6A,getD_eq_getElem?_getD->A6B,getElem?_eq_getElem->A6D,all_eq_true->A6E,mem_singleton->A6F,range->A6G,not_mem_nil->A6H,mem_cons->A6K
open Bool renaming false_eq_true->A6C,and_true->A6L
open Nat renaming le_max_right->A6I,le_max_left->A6J,le_refl->A6M
set_option linter.unusedSimpArgs false
set_option linter.unnecessarySimpa false
namespace GP
open Go Go.Proofs
set_option maxRecDepth 100000
theorem aF{n m:Nat}(h:n<=m){d:D}(hd:isE n d):isE m d:=by
 induction h with
 | refl=>exact hd
 | step _ ih=>exact lY ih
theorem fM{m:Nat}{op:List UInt8}{k i:Int}{s:List UInt8}{nl:Bool}{l:List D}{who name:List UInt8}{q:Bool}{ps:List D}(h1:op.length<=2^47)(h2:who.length<=2^47)(h3:name.length<=2^47)(h4:DI (mkV k i s nl l))(h5:ps.length<=2^47)(h6:∀x∈ps,isE m x):
  isE (m+1) (mkE op k i s nl l who name q ps):=⟨op,k,i,s,nl,l,who,name,q,ps,rfl,h1,h2,h3,h4,h5,h6⟩
theorem aU:DI (mkV 0 0 [] true []):=⟨by decide,by decide,by decide⟩
theorem qP{m:Nat}{op:List UInt8}{x y:D}(ho:op.length<=2^47)(hx:isE m x)(hy:isE m y):isE (m+1) (EB op x y) :=
 fM (m:=m) (op:=op) (k:=0) (i:=0) (s:=[]) (nl:=true) (l:=[]) (who:=[]) (name:=[]) (q:=false) (ps:=[x,y]) ho (by simp) (by simp) aU (by simp) (fun z hz=>by
  simp only[A6K,A6H,or_false] at hz
  rcases hz with rfl|rfl
  ·exact hx
  ·exact hy)
theorem xD{m:Nat}{op:List UInt8}{x:D}(ho:op.length<=2^47)(hx:isE m x):isE (m+1) (DX op x) :=
 fM (m:=m) (op:=op) (k:=0) (i:=0) (s:=[]) (nl:=true) (l:=[]) (who:=[]) (name:=[]) (q:=false) (ps:=[x]) ho (by simp) (by simp) aU (by simp) (fun z hz=>by
  simp only[A6K,A6H,or_false] at hz
  rw[hz];exact hx)
theorem eZ{op who name:List UInt8}(h1:op.length<=2^47)(h2:who.length<=2^47)(h3:name.length<=2^47):isE 1 (CM op who name) :=
 fM (m:=0) (op:=op) (k:=0) (i:=0) (s:=[]) (nl:=true) (l:=[]) (who:=who) (name:=name) (q:=true) (ps:=[]) h1 h2 h3 aU (by simp) (fun z hz=>by cases hz)
theorem qT{v:D}(h:DI v):isE 1 (EG v):=by
 obtain⟨k,i,s,n,l,rfl,_⟩:=d9 h.1
 exact fM (m:=0) (op:=[118,97,108,117,101]) (k:=k) (i:=i) (s:=s) (nl:=n) (l:=l) (who:=[]) (name:=[]) (q:=true) (ps:=[]) (by simp) (by simp) (by simp) h (by simp) (fun z hz=>by cases hz)
theorem kL{toks:List D}(h:toks.all Aq=true)(st:St):(ts (BS toks st)).length<=2^47/\ -(2^63)<=tn (BS toks st)/\tn (BS toks st)<2^63:=by
 have key:BS toks st=zT∨BS toks st∈toks:=by
  unfold BS Gl
  split
  ·exact .inl rfl
  ·split
   ·rename_i t ht
    split
    ·exact .inr (List.mem_of_getElem? ht)
    ·exact .inl rfl
   ·exact .inl rfl
 rcases key with e|e
 ·rw[e];exact⟨by simp[zT,kE],by simp[zT,qZ],by simp[zT,qZ]⟩
 ·have hb:=A6E.1 h _ e
  obtain⟨k,s,n,e',hs⟩:=jF hb
  rw[e'] at hb
  rw[e']
  exact⟨hs,(oA hb).2⟩
theorem R6{toks:List D}(h:toks.all Aq=true)(k:Int)(st:St):(ts (BP toks k st).1).length<=2^47/\ -(2^63)<=tn (BP toks k st).1/\tn (BP toks k st).1<2^63:=by
 unfold BP
 split
 ·exact⟨by simp[zT,kE],by simp[zT,qZ],by simp[zT,qZ]⟩
 ·exact kL h st
theorem tB{toks:List D}(h:toks.all Aq=true)(st:St):(Cf toks st).1.length<=2^47:=by
 unfold Cf
 split
 ·simp
 ·exact(kL h st).1
theorem cK{toks:List D}{st:St}:∀{ws:List (List UInt8)} {w:List UInt8},oK toks st ws=some w->w∈ws
 | [],w,h=>by cases h
 | x::r,w,h=>by
  simp only[oK] at h
  split at h
  ·injection h with h;subst h;simp
  ·exact List.mem_cons_of_mem _ (cK h)
theorem wP(toks:List D)(ws:List (List UInt8))(hw:∀w∈ws,w.length<=2^47)(st:St):(D1 toks ws st).1.length<=2^47:=by
 unfold D1
 split
 ·rename_i w h;exact hw w (cK h)
 ·simp
theorem I9{toks:List D}(h:toks.all Aq=true)(st:St):(Bk toks st).1.length<=2^47/\(Bk toks st).2.1.length<=2^47:=by
 unfold Bk
 exact⟨wP toks Dm (by decide) st,tB h _⟩
theorem mH(n:Int): -(2^63)<=IntKind.i64.wrap n/\IntKind.i64.wrap n<2^63:=by
 rw[IntKind.wrap_i64];omega
theorem nC{n:Int}(h: -(2^63)<=n/\n<2^63):DI (num n):=⟨rfl,h.1,h.2⟩
theorem iG{toks:List D}(h:toks.all Aq=true)(st:St):DI (cY toks st).1:=by
 have hr:=kL h st
 unfold cY
 split
 ·exact nC hr.2
 split
 ·refine⟨?_,by simp[Cr,vi],by simp[Cr,vi]⟩
  simp only[Cr,D.isV,D.isVs,A6L,decide_eq_true_eq]
  have:=hr.1
  simp only[List.length_take]
  omega
 split
 ·exact⟨rfl,hr.2.1,hr.2.2⟩
 split
 ·refine⟨rfl,?_,?_⟩<;>(simp only[vL,vi];split<;>decide)
 ·exact aU
theorem jA{toks:List D}(h:toks.all Aq=true)(st:St):DI (C5 toks st).1:=by
 unfold C5
 split
 ·exact nC (mH _)
 split
 ·exact iG h st
 ·exact iG h st
theorem jY{toks:List D}(h:toks.all Aq=true):∀(f:Nat) (out:List D) (st:St) (r:List D×St),(∀v∈out,DI v)->E9 toks f out st=some r->∀v∈r.1,DI v
 | 0,_,_,_,_,h'=>by simp[E9] at h'
 | f+1,out,st,r,ho,h'=>by
  simp only[E9] at h'
  split at h'
  ·exact jY h f _ _ r (fun v hv=>by
    rcases List.mem_append.1 hv with hv|hv
    ·exact ho v hv
    ·rw[A6F] at hv;subst hv;exact jA h _) h'
  ·injection h' with h';subst h';exact ho
theorem sS{xs:List D}(h:∀x∈xs,DI x):DI (Ci xs).1:=by
 unfold Ci
 split
 ·exact aU
 split
 ·exact aU
 split
 ·exact aU
 ·rename_i g1 g2 g3
  simp only[Bool.not_eq_false] at g1
  have hg:DK xs:=fun x hx=>by
   have hf:=A6E.1 g1 x hx
   rw[mZ] at hf
   have hb:G0 xs x=false:=by
    cases hb:G0 xs x with
    | false=>rfl
    | true=>exact absurd (List.any_eq_true.2 ⟨x,hx,hb⟩) g2
   unfold bS at hf
   rw[if_pos (by unfold G0 at hb;simp only[Bool.or_eq_false_iff,beq_eq_false_iff_ne,ne_eq] at hb;simp[hb.1.2])] at hf
   exact hf
  refine⟨?_,by simp[Cl],by simp[Cl]⟩
  have hm:=(rW hg).2
  have hlen:(DF xs).length<=16:=by simp only[decide_eq_true_eq] at g3;omega
  have hv:D.isVs (DF xs)=true:=eM.2 fun y hy=>by
   obtain⟨x,hx,rfl⟩:=(hm y).1 hy
   obtain⟨k,i,s,n,l,rfl,h1,_,_⟩:=d9 (h x hx).1
   simp only[can,CK,Cl,Cj]
   simp[mkV,D.isV,D.isVs,aV,h1]
  simp only[mkV,aV,Bool.false_and,A6C,if_false,D.isV,hv,A6L,Bool.and_eq_true,decide_eq_true_eq]
  exact⟨by simp,by omega⟩
def lvB:Nat->Nat
 | 0=>2
 | f+1=>lvB f+f+3
theorem SE:∀f,lvB f<=(f+2)*(f+2)
 | 0=>by decide
 | f+1=>by
  have:=SE f
  have e:(f+1+2)*(f+1+2)=(f+2)*(f+2)+2*(f+2)+1:=by
   simp only[Nat.add_mul,Nat.mul_add];omega
  simp only[lvB];omega
theorem xL(f:Nat):1<=lvB f:=by cases f<;>simp[lvB]
def RO(m:Nat)(P:Dz):Prop:=∀toks st r,toks.all Aq=true->P toks st=some r->isE m r.1
theorem m9{m:Nat}{P:Dz}(hP:RO m P){toks:List D}(ht:toks.all Aq=true){bs:List (List UInt8)}(hb:∀w∈bs,w.length<=2^47):∀(f:Nat) (M:Nat) (x:D) (st:St) (r:D×St),m<=M->isE M x->FC toks P bs f x st=some r->isE (M+f) r.1
 | 0,_,_,_,_,_,_,h=>by simp[FC] at h
 | f+1,M,x,st,r,hm,hx,h=>by
  simp only[FC] at h
  split at h
  ·injection h with h;subst h;exact aF (by omega) hx
  ·split at h
   ·injection h with h;subst h;exact aF (by omega) hx
   ·rename_i w hw
    split at h
    ·cases h
    ·rename_i y st2 hy
     have:=m9 hP ht hb f (M+1) _ st2 r (by omega) (qP (hb w (cK hw)) hx (aF hm (hP toks _ _ ht hy))) h
     exact aF (by omega) this
theorem eQ{m:Nat}{P:Dz}(hP:RO m P){toks:List D}(ht:toks.all Aq=true){bs:List (List UInt8)}(hb:∀w∈bs,w.length<=2^47){f:Nat}{st:St}{r:D×St}(h:GM toks P bs f st=some r):isE (m+f) r.1:=by
 unfold GM at h
 split at h
 ·cases h
 ·rename_i x st1 hx
  exact m9 hP ht hb f m x st1 r (A6M _) (hP toks _ _ ht hx) h
theorem iT{m:Nat}{op:List UInt8}(ho:op.length<=2^47){z:Option (D×St)}{r:D×St}(hz:∀r,z=some r->isE m r.1)(h:Ft op z=some r):isE (m+1) r.1:=by
 cases z with
 | none=>cases h
 | some z =>
  obtain⟨x,st⟩:=z
  simp only[Ft,Option.some.injEq] at h;subst h
  exact xD ho (hz _ rfl)
theorem tD{toks:List D}(ht:toks.all Aq=true){f fr:Nat}{st:St}{r:D×St}(h:H6 toks f fr st=some r):isE 1 r.1:=by
 unfold H6 at h
 split at h
 ·cases h
 ·rename_i out st1 hb
  have hv:=jY ht f _ _ _ (fun v hv=>by rw[A6F] at hv;subst hv;exact jA ht st) hb
  split at h
  ·injection h with h;subst h
   exact fM (m:=0) (op:=[]) (k:=0) (i:=0) (s:=[]) (nl:=true) (l:=[]) (who:=[]) (name:=[]) (q:=true) (ps:=[]) (by simp) (by simp) (by simp) aU (by simp) (fun z hz=>by cases hz)
  ·injection h with h;subst h
   exact qT (sS hv)
theorem b8:∀(f:Nat) (lv:Lv),RO (lvB f) (pLv f lv)
 | 0,_,_,_,_,_,h=>by cases h
 | f+1,lv,toks,st,r,ht,h=>by
  have h1:=xL f
  cases lv with
  | expr=>exact aF (by simp only[lvB];omega) (eQ (b8 f .and) ht (by decide) h)
  | and=>exact aF (by simp only[lvB];omega) (eQ (b8 f .not) ht (by decide) h)
  | sum=>exact aF (by simp only[lvB];omega) (eQ (b8 f .prod) ht (by decide) h)
  | prod=>exact aF (by simp only[lvB];omega) (eQ (b8 f .unary) ht (by decide) h)
  | not =>
   simp only[pLv] at h
   split at h
   ·exact aF (by simp only[lvB];omega) (iT (by decide) (fun r hr=>b8 f .not toks _ r ht hr) h)
   ·exact aF (by simp only[lvB];omega) (b8 f .cmp toks st r ht h)
  | unary =>
   simp only[pLv] at h
   split at h
   ·exact aF (by simp only[lvB];omega) (iT (by decide) (fun r hr=>b8 f .unary toks _ r ht hr) h)
   ·exact aF (by simp only[lvB];omega) (b8 f .plain toks st r ht h)
  | cmp =>
   simp only[pLv] at h
   obtain⟨z,hz⟩:∃z,pLv f .sum toks st=z:=⟨_,rfl⟩
   rw[hz] at h
   cases z with
   | none=>cases h
   | some z =>
    obtain⟨x,st1⟩:=z
    have hx:=b8 f .sum toks _ _ ht hz
    simp only[JC] at h
    split at h
    ·injection h with h;subst h;exact aF (by simp only[lvB];omega) hx
    ·rename_i w hw
     split at h
     ·cases h
     ·rename_i y st2 hy
      injection h with h;subst h
      have hw:w.length<=2^47:=by
       have:∀w∈He,w.length<=2^47:=by decide
       exact this w (cK hw)
      exact aF (by simp only[lvB];omega) (qP hw hx (b8 f .sum toks _ _ ht hy))
  | inner =>
   simp only[pLv] at h
   obtain⟨z,hz⟩:∃z,pLv f .expr toks (AV toks [40] st)=z:=⟨_,rfl⟩
   rw[hz] at h
   cases z with
   | none=>cases h
   | some z =>
    obtain⟨x,st1⟩:=z
    simp only[Qu,Option.some.injEq] at h;subst h
    exact aF (by simp only[lvB];omega) (b8 f .expr toks _ (x,st1) ht hz)
  | plain =>
   have up:∀{x:D},isE 1 x->isE (lvB (f+1)) x:=fun h=>aF (by simp only[lvB];omega) h
   simp only[pLv,yL] at h
   split at h
   ·injection h with h;subst h;exact up (qT (iG ht st))
   split at h
   ·injection h with h;subst h;exact up (eZ (by decide) (by simp) (by simp))
   split at h
   ·exact aF (by simp only[lvB];omega) (b8 f .inner toks st r ht h)
   split at h
   ·exact up (tD ht h)
   split at h
   ·exact aF (by simp only[lvB];omega) (iT (by decide) (fun r hr=>b8 f .inner toks _ r ht hr) h)
   split at h
   ·injection h with h;subst h;exact up (eZ (by decide) (by simp) (R6 ht _ _).1)
   split at h
   ·injection h with h;subst h;exact up (eZ (by decide) (I9 ht _).1 (I9 ht _).2)
   ·injection h with h;subst h;exact up (eZ (by decide) (I9 ht _).1 (I9 ht _).2)
def AK:Nat:=lvB 10000
theorem N7:AK<=2^40:=by
 have:=SE 10000
 unfold AK;omega
theorem Uo{A B:Hp}{n:Bool}{xs:List D}(htk:xs.all Aq=true)(hl:xs.length<=600)(g:GE)(rest:List D)(a:Nat)(e:Int){r:D}{a':Nat}{e':Int}(h:g rest xs a e=some (r,a',e')):
  φC g (A++ .row [aV n xs,.int .i64 (a:Nat),.int .i64 e]::B) (.ptr A.length 0::rest)=some (r,A++ .row [aV n xs,.int .i64 (a':Nat),.int .i64 e']::B):=by
 have hp:A.length<(A++[Ob.row [aV n xs,.int .i64 (a:Nat),.int .i64 e]]).length:=by simp
 have st:∀c,(A++[Ob.row [aV n xs,.int .i64 (a:Nat),.int .i64 e]]).set A.length c=A++[c]:=fun c=>by
  rw[List.set_append_right _ _ (A6M _)];simp
 have:=BI (n:=n) hp htk hl g rest a e B
 rw[h] at this
 simp only[cuR] at this
 rw[st,st] at this
 simpa using this
end GP
namespace GP
open Go Go.Proofs
set_option maxRecDepth 100000
theorem aN{n:Nat}{e:D}(h:isE (n+1) e):∀x∈eps e,isE n x:=by
 obtain⟨op,k,i,t,nl,l,who,name,m,ps,rfl,_,_,_,_,_,h6,_⟩:=Aj h
 rw[uG];exact h6
def JV:List D->Option D
 | []=>some (.bool true)
 | _=>none
theorem Rb(s:List UInt8):JL s=inB DH s:=by
 unfold JL inB
 congr 1;funext x;rw[Bool.eq_iff_iff];simp only[beq_iff_eq];exact⟨fun h=>h.symm,fun h=>h.symm⟩
def okZ(f:D->D->Bool)(xs ys:List D)(i:Nat):Bool:=match xs[i]?,ys[i]? with
 | some x,some y=>f x y
 | _,_=>true
def KB(f:D->D->Bool)(xs ys:List D):Bool:=if xs.length==ys.length then(A6G xs.length).all (okZ f xs ys) else false
def BH:Nat->D->D->Bool
 | 0,_,_=>false
 | n+1,a,b=>if(eop a !=eop b)||(Ca a !=Ca b)||(BG a !=BG b)|| !Bt (eV a) (eV b) then false else KB (BH n) (eps a) (eps b)
open Classical in
noncomputable def SX(n:Nat):List D->Option D
 | [x,y]=>if isE n x/\isE n y then some (.bool (Bt (eV x) (eV y))) else none
 | _=>none
theorem A5j(n:Nat):AQ Tryz.prog 51 (SX n):=by
 refine AN (l:=[(54,FM)]) (.cons A1h .nil) A4E fun args r h=>?_
 unfold SX at h
 split at h
 ·rename_i x y
  split at h
  ·rename_i hc
   injection h with h;subst h
   refine⟨by simp,by simp[D.cl],fun H T=>?_⟩
   obtain⟨op,k,i,t,nl,l,who,name,m,ps,rfl,h1,h2,h3,h4,h5,h6,eL,eP⟩:=Aj hc.1
   obtain⟨op',k',i',t',nl',l',who',name',m',ps',rfl,h1',h2',h3',h4',h5',h6',eL',eP'⟩:=Aj hc.2
   have p:=PZ h4.1 h4'.1
   simp only[HR]
   obtain⟨sb,hsb⟩:∃z,Bt (mkV k i t nl l) (mkV k' i' t' nl' l')=z:=⟨_,rfl⟩
   simp only[hsb] at p ⊢
   simp only[mkV] at p
   simp +contextual only[c51,mkE,eL,eL',eP,eP',p,go_sem]
  ·cases h
 ·cases h
open Classical in
noncomputable def Fb(n:Nat):List D->Option D
 | [x,y]=>if isE n x/\isE n y then some (.bool (BH n x y)) else none
 | _=>none
theorem VR:∀n,AQ Tryz.prog 20 (Fb n)
 | 0=>fun args r h=>by
  unfold Fb at h
  split at h
  ·split at h
   ·rename_i h';exact h'.1.elim
   ·cases h
  ·cases h
 | n+1=>by
  refine AN (l:=[(51,SX (n+1)),(20,Fb n)]) (.cons (A5j (n+1)) (.cons (VR n) .nil)) A4a fun args r h=>?_
  unfold Fb at h
  split at h
  ·rename_i x y
   split at h
   ·rename_i hc
    injection h with h;subst h
    refine⟨by simp,by simp[D.cl],fun H T=>?_⟩
    have psv:SX (n+1) [x,y]=some (.bool (Bt (eV x) (eV y))):=by simp only[SX];rw[if_pos hc]
    obtain⟨op,k,i,t,nl,l,who,name,m,ps,rfl,h1,h2,h3,h4,h5,h6,eL,eP⟩:=Aj hc.1
    obtain⟨op',k',i',t',nl',l',who',name',m',ps',rfl,h1',h2',h3',h4',h5',h6',eL',eP'⟩:=Aj hc.2
    have h6:∀x∈ps,isE n x:=h6
    have h6':∀x∈ps',isE n x:=h6'
    have hS:BH (n+1) (mkE op k i t nl l who name m ps) (mkE op' k' i' t' nl' l' who' name' m' ps')=if(op !=op')||(who !=who')||(name !=name')|| !Bt (mkV k i t nl l) (mkV k' i' t' nl' l') then false else KB (BH n) ps ps':=by
     simp only[BH,CN,En,Dp,HR,uG]
    rw[hS]
    clear hS
    simp only[HR] at psv
    obtain⟨sb,hsb⟩:∃z,Bt (mkV k i t nl l) (mkV k' i' t' nl' l')=z:=⟨_,rfl⟩
    simp only[hsb] at psv ⊢
    simp only[mkE] at psv
    have bl:=Gd ps.length ps'.length
    rcases tf (op !=op') with g1|g1
    ·rw[g1];simp +contextual only[c20,mkE,eL,eL',eP,eP',g1,go_sem]
    rcases tf (who !=who') with g2|g2
    ·rw[g1,g2];simp +contextual only[c20,mkE,eL,eL',eP,eP',g1,g2,go_sem]
    rcases tf (name !=name') with g3|g3
    ·rw[g1,g2,g3];simp +contextual only[c20,mkE,eL,eL',eP,eP',g1,g2,g3,go_sem]
    rw[g1,g2,g3]
    cases sb with
    | false=>simp +contextual only[c20,mkE,eL,eL',eP,eP',g1,g2,g3,psv,go_sem]
    | true =>
    rcases tf (ps.length==ps'.length) with g4|g4
    ·rw[g4] at bl
     have hZ:KB (BH n) ps ps'=(A6G ps.length).all (okZ (BH n) ps ps'):=by unfold KB;rw[if_pos g4]
     rw[hZ]
     have hl:ps.length=ps'.length:=by simpa using g4
     simp +contextual only[c20,mkE,eL,eL',eP,eP',g1,g2,g3,psv,bl,go_sem]
     refine Ap (fun j s'=>s'.t 2= .ptr H.length 0/\s'.t 3= .ptr (H.length+1) 0/\s'.t 5= .int .i64 j/\s'.H=H++[.row [.str op,.int .i64 k,.int .i64 i,.str t,aV nl l,.str who,.str name,aV m ps],.row [.str op',.int .i64 k',.int .i64 i',.str t',aV nl' l',.str who',.str name',aV m' ps']]/\s'.T=T/\j<=ps.length/\(A6G j).all (okZ (BH n) ps ps')=true) ps.length ⟨0,by simp[upd,Ae]⟩ (fun i s h=>h.2.2.2.2.2.1) ?_ (AR _)
     rintro j ⟨t1,B,T'⟩ ⟨r2,r3,r5,rfl,rfl,hj,hc'⟩
     simp only at r2 r3 r5
     by_cases ha:j<ps.length
     ·have d1:decide ((j:Int)<ps.length)=true:=by simpa using ha
      have hb:j<ps'.length:=by omega
      have hx:=h6 _ (A6A ha)
      have hy:=h6' _ (A6A hb)
      have ex:ps[j]? =some ps[j]:=by simp[ha]
      have ey:ps'[j]? =some ps'[j]:=by simp[hb]
      have G:okZ (BH n) ps ps' j=BH n ps[j] ps'[j]:=by simp only[okZ,ex,ey]
      have bad:okZ (BH n) ps ps' j=false->(A6G ps.length).all (okZ (BH n) ps ps')=false:=fun h=>C0 h ha
      rw[G] at bad
      obtain⟨x,hX⟩:∃x,ps[j]=x:=⟨_,rfl⟩
      obtain⟨y,hY⟩:∃y,ps'[j]=y:=⟨_,rfl⟩
      rw[hX] at hx ex G bad
      rw[hY] at hy ey G bad
      have ee:=fL hx
      have ef:=fL hy
      obtain⟨q1,q2,q3,q4⟩:=BT hx
      obtain⟨s1,s2,s3,s4⟩:=BT hy
      have px:Fb n [x,y]=some (.bool (BH n x y)):=by simp only[Fb];rw[if_pos ⟨hx,hy⟩]
      obtain⟨b,hq⟩:∃z,BH n x y=z:=⟨_,rfl⟩
      simp only[hq] at px G bad
      cases b with
      | true =>
       simp +contextual only[r2,r3,r5,d1,ex,ey,ee,ef,q1,q2,q3,q4,s1,s2,s3,s4,px,AJ j (by omega),go_sem]
       refine⟨by omega,?_⟩
       rw[List.all_append,hc']
       simp[G]
      | false =>
       have bad:=bad rfl
       simp +contextual only[r2,r3,r5,d1,ex,ey,ee,ef,q1,q2,q3,q4,s1,s2,s3,s4,px,bad,go_sem]
     ·have d1:decide ((j:Int)<ps.length)=false:=by simpa using ha
      have:j=ps.length:=by omega
      subst this
      simp +contextual only[r2,r3,r5,d1,hc',go_sem]
    ·rw[g4] at bl
     have hZ:KB (BH n) ps ps'=false:=by unfold KB;rw[if_neg (by rw[g4];decide)]
     rw[hZ]
     simp +contextual only[c20,mkE,eL,eL',eP,eP',g1,g2,g3,psv,bl,go_sem]
   ·cases h
  ·cases h
def pkB(x:D):Bool:=((tk x==1)&&(ts x !=CY)&&(ts x !=yC))||((tk x==5)&&((ts x==[46])||(ts x==[43])||(ts x==[42])||(ts x==[60])||(ts x==[91])))
def A6t(l:List D):Nat:=(l.filter pkB).length
end GP
namespace GP
open Go Go.Proofs
set_option maxRecDepth 100000
def TU(x:D):Prop:=∃n,isE n x
theorem uN{op:List UInt8}{k i:Int}{s:List UInt8}{nl:Bool}{l:List D}{who name:List UInt8}{m:Bool}{ps:List D}{y:D}(h:y∈ps):sizeOf y<sizeOf (mkE op k i s nl l who name m ps):=by
 have h1:=List.sizeOf_lt_of_mem h
 have h2:aV m ps= .sl none ps:=by
  rcases kM m ps with⟨_,e⟩|e
  ·subst e;cases h
  ·exact e
 simp only[mkE,h2,D.agg.sizeOf_spec,List.cons.sizeOf_spec,D.sl.sizeOf_spec]
 omega
theorem lJ:∀(n:Nat) (x:D),isE n x->isE (sizeOf x) x
 | 0,_,h=>h.elim
 | n+1,x,⟨op,k,i,s,nl,l,who,name,m,ps,e,h1,h2,h3,h4,h5,h6⟩=>by
  obtain⟨z,hz⟩:∃z,sizeOf x=z+1:=⟨sizeOf x - 1,by subst e;simp only[mkE,D.agg.sizeOf_spec];omega⟩
  rw[hz]
  refine⟨op,k,i,s,nl,l,who,name,m,ps,e,h1,h2,h3,h4,h5,fun y hy=>?_⟩
  have:=uN (op:=op) (k:=k) (i:=i) (s:=s) (nl:=nl) (l:=l) (who:=who) (name:=name) (m:=m) hy
  rw[<- e,hz] at this
  exact aF (by omega) (lJ n y (h6 y hy))
theorem TU.can{x:D}(h:TU x):isE (sizeOf x) x:=by obtain⟨n,hn⟩:=h;exact lJ n x hn
theorem oO{f g:D->Bool}{l:List D}(h:∀x∈l,f x=g x):l.all f=l.all g:=by
 induction l with
 | nil=>rfl
 | cons x l ih=>simp only[List.all_cons,h x (by simp),ih fun y hy=>h y (by simp[hy])]
theorem xH:∀(n:Nat) (e:D),isE n e->fmR (n+1) e=fmR n e
 | 0,_,h=>h.elim
 | n+1,e,h=>by
  have:=oO fun x hx=>xH n x (aN h x hx)
  show(if _ then false else if !((eps e).all (fmR (n+1))) then false else Ek e)=(if _ then false else if !((eps e).all (fmR n)) then false else Ek e)
  simp only[this]
theorem mX{n m:Nat}{e:D}(h:isE n e)(hm:n<=m):fmR m e=fmR n e:=by
 induction hm with
 | refl=>rfl
 | step hm ih=>rw[xH _ e (aF hm h),ih]
noncomputable def fmC(x:D):Bool:=fmR (sizeOf x) x
theorem O9{n:Nat}{e:D}(h:isE n e):fmR n e=fmC e:=by
 unfold fmC
 rw[<- mX h (A6J n (sizeOf e)),mX (lJ n e h) (A6I n (sizeOf e))]
structure GoodE(e:D):Prop where
 t:TU e
 f:fmC e=true
theorem GoodE.fm{n:Nat}{e:D}(h:GoodE e)(hn:isE n e):fmR n e=true:=by rw[O9 hn];exact h.f
theorem wA{n:Nat}{e:D}(hn:isE n e)(h:fmR n e=true):GoodE e:=⟨⟨n,hn⟩,by rw[<- O9 hn];exact h⟩
theorem gP{n:Nat}{e:D}(h:isE n e):∃m,n=m+1:=by cases n with
 | zero=>exact h.elim
 | succ n=>exact⟨n,rfl⟩
theorem GoodE.parts{e:D}(h:GoodE e):0<=stI (eop e)/\((eps e).length:Int)=arN (eop e)/\(∀x∈eps e,GoodE x)/\Ek e=true:=by
 obtain⟨⟨n,hn⟩,hf⟩:=h
 obtain⟨n,rfl⟩:=gP hn
 rw[<- O9 hn] at hf
 obtain⟨h1,h2,h3,h4⟩:=VC hf
 exact⟨h1,h2,fun x hx=>wA (aN hn x hx) (h3 x hx),h4⟩
theorem K7{e:D}(ht:TU e)(h1:0<=stI (eop e))(h2:((eps e).length:Int)=arN (eop e))(h3:∀x∈eps e,GoodE x)(h4:Ek e=true):GoodE e:=by
 obtain⟨n,hn⟩:=ht
 obtain⟨n,rfl⟩:=gP hn
 refine wA hn ?_
 have d1:decide (stI (eop e)<0)=false:=by simp only[decide_eq_false_iff_not];omega
 have d2:(((eps e).length:Int) !=arN (eop e))=false:=by simp[h2]
 have d3:(eps e).all (fmR n)=true:=A6E.2 fun x hx=>(h3 x hx).fm (aN hn x hx)
 simp only[fmR,d1,d2,d3,Bool.or_self,A6C,if_false,Bool.not_true]
 exact h4
theorem mJ{e:D}(h:0<(eps e).length):Aw e∈eps e:=by
 unfold Aw
 rw[A6B,A6D h]
 exact A6A h
theorem lR{e:D}(h:1<(eps e).length):EW e∈eps e:=by
 unfold EW
 rw[A6B,A6D h]
 exact A6A h
theorem ar1{op:List UInt8}(h:(op==Be)=true∨(op==Cg)=true∨(op==EO)=true):arN op=1:=by
 rcases h with h|h|h<;>(rw[AL h];decide)
theorem oI:∀(n:Nat) (full:Bool) (e:D),isE n e->GoodE e->BA (n+1) full e=BA n full e
 | 0,_,_,h,_=>h.elim
 | n+1,full,e,h,hg=>by
  obtain⟨f1,f2,f3,f4⟩:=hg.parts
  have k0:0<(eps e).length->BA (n+1) full (Aw e)=BA n full (Aw e):=fun hl=>oI n full _ (aN h _ (mJ hl)) (f3 _ (mJ hl))
  have k1:1<(eps e).length->BA (n+1) full (EW e)=BA n full (EW e):=fun hl=>oI n full _ (aN h _ (lR hl)) (f3 _ (lR hl))
  rcases tf (eop e==Bq) with g1|g1
  ·rw[Hv g1,Hv g1]
  rcases tf (eop e==Cc) with g2|g2
  ·rw[iI g1 g2,iI g1 g2]
  rcases tf (eop e==Bh) with g3|g3
  ·rw[fE g1 g2 g3,fE g1 g2 g3]
  rcases tf (eop e==CB) with g4|g4
  ·rw[iO g1 g2 g3 g4,iO g1 g2 g3 g4]
  rcases tf (eop e==BN) with g5|g5
  ·rw[fW g1 g2 g3 g4 g5,fW g1 g2 g3 g4 g5]
  rcases tf (eop e==Be) with g6|g6
  ·have:=ar1 (.inl g6)
   rw[fY g1 g2 g3 g4 g5 g6,fY g1 g2 g3 g4 g5 g6,k0 (by omega)]
  rcases tf (eop e==Cg) with g7|g7
  ·have:=ar1 (.inr (.inl g7))
   rw[j0 g1 g2 g3 g4 g5 g6 g7,j0 g1 g2 g3 g4 g5 g6 g7,k0 (by omega)]
  rcases tf (eop e==EO) with g8|g8
  ·have:=ar1 (.inr (.inr g8))
   rw[iJ g1 g2 g3 g4 g5 g6 g7 g8,iJ g1 g2 g3 g4 g5 g6 g7 g8,k0 (by omega)]
  ·have:=(xW f1 g1 g2 g3 g4 g5 g6 g7 g8).2
   rw[iW g1 g2 g3 g4 g5 g6 g7 g8,iW g1 g2 g3 g4 g5 g6 g7 g8,k0 (by omega),k1 (by omega)]
theorem jC{n m:Nat}{full:Bool}{e:D}(h:isE n e)(hg:GoodE e)(hm:n<=m):BA m full e=BA n full e:=by
 induction hm with
 | refl=>rfl
 | step hm ih=>rw[oI _ full e (aF hm h) hg,ih]
noncomputable def tkC(full:Bool)(x:D):List D:=BA (sizeOf x) full x
theorem yN{n:Nat}{full:Bool}{e:D}(h:isE n e)(hg:GoodE e):BA n full e=tkC full e:=by
 unfold tkC
 rw[<- jC h hg (A6J n (sizeOf e)),jC (lJ n e h) hg (A6I n (sizeOf e))]
section
variable {full:Bool} {e:D}
theorem eI(h:GoodE e):∃n,isE (n+1) e/\tkC full e=BA (n+1) full e:=by
 obtain⟨n,hn⟩:=gP h.t.can
 refine⟨n,hn▸h.t.can,?_⟩
 unfold tkC;rw[hn]
theorem oB(h:GoodE e)(g1:(eop e==Bq)=true):tkC full e=D9 (eV e):=by
 obtain⟨n,_,h2⟩:=eI (full:=full) h
 rw[h2,Hv g1]
theorem pX(h:GoodE e)(g2:(eop e==Cc)=true):tkC full e=[mkT 1 Cc 0]:=by
 obtain⟨n,_,h2⟩:=eI (full:=full) h
 rw[h2,iI (by rw[AL g2];decide) g2]
theorem kG(h:GoodE e)(g3:(eop e==Bh)=true):tkC full e=[mkT 1 (Ca e) 0,mkT 5 [46] 0,mkT 1 (BG e) 0]:=by
 obtain⟨n,_,h2⟩:=eI (full:=full) h
 rw[h2,fE (by rw[AL g3];decide) (by rw[AL g3];decide) g3]
theorem q8(h:GoodE e)(g4:(eop e==CB)=true):tkC full e=[mkT 1 CB 0,tP,mkT 1 (Ca e) 0,mkT 5 [46] 0,mkT 1 (BG e) 0,tQ]:=by
 obtain⟨n,_,h2⟩:=eI (full:=full) h
 rw[h2,iO (by rw[AL g4];decide) (by rw[AL g4];decide) (by rw[AL g4];decide) g4]
theorem lD(h:GoodE e)(g5:(eop e==BN)=true):tkC full e=[mkT 1 BN 0,tP,mkT 3 (BG e) 0,tQ]:=by
 obtain⟨n,_,h2⟩:=eI (full:=full) h
 rw[h2,fW (by rw[AL g5];decide) (by rw[AL g5];decide) (by rw[AL g5];decide) (by rw[AL g5];decide) g5]
theorem GoodE.one(h:GoodE e)(g:(eop e==Be)=true∨(eop e==Cg)=true∨(eop e==EO)=true):GoodE (Aw e)/\∃x,eps e=[x]/\Aw e=x:=by
 obtain⟨f1,f2,f3,f4⟩:=h.parts
 rw[ar1 g] at f2
 refine⟨f3 _ (mJ (by omega)),?_⟩
 match hx:eps e,f2 with
 | [x],_=>exact⟨x,rfl,by unfold Aw;rw[hx];rfl⟩
 | [],h=>simp at h
 | _::_::_,h=>simp at h;omega
theorem iN{n:Nat}(h:isE (n+1) e){x:D}(hx:x∈eps e)(hg:GoodE x):BA n full x=tkC full x:=yN (aN h x hx) hg
theorem lI(h:GoodE e)(g6:(eop e==Be)=true):tkC full e=mkT 1 Be 0::tP::(tkC full (Aw e)++[tQ]):=by
 obtain⟨n,h1,h2⟩:=eI (full:=full) h
 obtain⟨hg,x,hx,hs⟩:=h.one (.inl g6)
 rw[h2,fY (by rw[AL g6];decide) (by rw[AL g6];decide) (by rw[AL g6];decide) (by rw[AL g6];decide) (by rw[AL g6];decide) g6,iN h1 (by rw[hx,hs];simp) hg]
theorem oQ(h:GoodE e)(g7:(eop e==Cg)=true):tkC full e=mkT 1 Cg 0::Bl full (stI (eop (Aw e))) 2 (tkC full (Aw e)):=by
 obtain⟨n,h1,h2⟩:=eI (full:=full) h
 obtain⟨hg,x,hx,hs⟩:=h.one (.inr (.inl g7))
 rw[h2,j0 (by rw[AL g7];decide) (by rw[AL g7];decide) (by rw[AL g7];decide) (by rw[AL g7];decide) (by rw[AL g7];decide) (by rw[AL g7];decide) g7,iN h1 (by rw[hx,hs];simp) hg]
theorem pZ(h:GoodE e)(g8:(eop e==EO)=true):tkC full e=mkT 5 [45] 0::Bl full (stI (eop (Aw e))) 6 (tkC full (Aw e)):=by
 obtain⟨n,h1,h2⟩:=eI (full:=full) h
 obtain⟨hg,x,hx,hs⟩:=h.one (.inr (.inr g8))
 rw[h2,iJ (by rw[AL g8];decide) (by rw[AL g8];decide) (by rw[AL g8];decide) (by rw[AL g8];decide) (by rw[AL g8];decide) (by rw[AL g8];decide) (by rw[AL g8];decide) g8,iN h1 (by rw[hx,hs];simp) hg]
def EV(op:List UInt8):Prop:=stI op=0∨stI op=1∨stI op=3∨stI op=4∨stI op=5
theorem wX{op:List UInt8}(h:EV op):(op==Bq)=false/\(op==Cc)=false/\(op==Bh)=false/\(op==CB)=false/\(op==BN)=false/\(op==Be)=false/\(op==Cg)=false/\(op==EO)=false:=by
 have key:∀w:List UInt8,(stI w=2∨stI w=6∨stI w=7)->(op==w)=false:=fun w hw=>by
  cases hx:op==w with
  | false=>rfl
  | true=>rw[AL hx] at h;unfold EV at h;omega
 exact⟨key _ (by decide),key _ (by decide),key _ (by decide),key _ (by decide),key _ (by decide),key _ (by decide),key _ (by decide),key _ (by decide)⟩
theorem SL{op:List UInt8}(h:EV op):arN op=2:=by
 have hA:=xX (op:=op)
 rcases h with h|h|h|h|h
 ·exact hA.1 h
 ·exact hA.2.1 h
 ·exact hA.2.2.1 h
 ·exact hA.2.2.2.1 h
 ·exact hA.2.2.2.2.1 h
theorem GoodE.two(h:GoodE e)(g:EV (eop e)):GoodE (Aw e)/\GoodE (EW e)/\Aw e∈eps e/\EW e∈eps e/\eps e=[Aw e,EW e]:=by
 obtain⟨f1,f2,f3,f4⟩:=h.parts
 rw[SL g] at f2
 refine⟨f3 _ (mJ (by omega)),f3 _ (lR (by omega)),mJ (by omega),lR (by omega),?_⟩
 unfold Aw EW
 match eps e,f2 with
 | [x,y],_=>rfl
 | [],h=>simp at h
 | [_],h=>simp at h
 | _::_::_::_,h=>simp at h;omega
theorem o8(h:GoodE e)(g:EV (eop e)):tkC full e=Bl full (stI (eop (Aw e))) (Fl (eop e)) (tkC full (Aw e))++(Dq (eop e)::Bl full (stI (eop (EW e))) (stI (eop e)+1) (tkC full (EW e))):=by
 obtain⟨n,h1,h2⟩:=eI (full:=full) h
 obtain⟨k0,k1,m0,m1,_⟩:=h.two g
 obtain⟨g1,g2,g3,g4,g5,g6,g7,g8⟩:=wX g
 rw[h2,iW g1 g2 g3 g4 g5 g6 g7 g8,iN h1 m0 k0,iN h1 m1 k1]
end
theorem GoodE.op{e:D}(h:GoodE e):(eop e==Bq)=true∨(eop e==Cc)=true∨(eop e==Bh)=true∨(eop e==CB)=true∨(eop e==BN)=true∨(eop e==Be)=true∨(eop e==Cg)=true∨(eop e==EO)=true∨EV (eop e):=by
 obtain⟨f1,_⟩:=h.parts
 cases g1:eop e==Bq with|true=>simp|false =>
 cases g2:eop e==Cc with|true=>simp|false =>
 cases g3:eop e==Bh with|true=>simp|false =>
 cases g4:eop e==CB with|true=>simp|false =>
 cases g5:eop e==BN with|true=>simp|false =>
 cases g6:eop e==Be with|true=>simp|false =>
 cases g7:eop e==Cg with|true=>simp|false =>
 cases g8:eop e==EO with|true=>simp|false =>
 have:=(xW f1 g1 g2 g3 g4 g5 g6 g7 g8).1
 simp only[A6C,false_or]
 exact this
end GP
