import Derived.Shelf.SlSortCmp.WholeK
import Derived.Test.YtainhmbnbgonhaaGreatDoorProg
import Derived.Test.YtainhmbnbgonhaaGreatDoorM1
open List renaming getElem?_eq_none->A6A,getElem?_append_left->A6B,getElem?_eq_getElem->A6D,getElem?_cons_succ->A6G,getElem?_append_right->A6J,getElem_mem->A6K,getElem_map->A6L,set_cons_succ->A6P,findIdx?_cons->A6Q,getElem?_cons_zero->A6R,set_append_right->A6S,mem_map->A6V,append_assoc->A6X,getElem_ofFn->A6Z,ext_getElem->A60,all_cons->A61,map_cons->A62
open Bool renaming and_eq_true->A6C,false_eq_true->A6W
open Nat renaming lt_or_ge->A6E,le_refl->A6F,zero_le->A6I,lt_of_lt_of_le->A6M,add_zero->A64
open Array renaming getElem?_eq_none->A6H,getElem?_append_left->A6O,toList_ofFn->A6Y,ext->A65
open Go.World renaming cell?->A6N,frozen?->A63
open Option renaming map_none->A6T,map_some->A6U
set_option linter.unusedSimpArgs false
set_option linter.unnecessarySimpa false
namespace GP
open Go
abbrev Fs:=List (FuncId×(List D->Option D))
def DQ:Fs->FuncId->List D->Option D
 | [],_,_=>none
 | (g,φ)::l,f,a=>if f=g then φ a else DQ l f a
def XL(l:Fs):BF:=fun f args H T Q=>match DQ l f (D.eraseL args) with
 | some r=>Q r H T
 | none=>False
def AQ(P:Program)[HasG P](f:FuncId)(φ:List D->Option D):Prop:=∀args r,φ args=some r->∀args',D.eraseL args'=args->∀H T (Q:Bg),Q r H T->Snd P f args' H T Q
def Ok(P:Program)[HasG P](l:Fs):Prop:=∀f args r,DQ l f args=some r->∀args',D.eraseL args'=args->∀H T (Q:Bg),Q r H T->Snd P f args' H T Q
variable {P:Program} [HasG P]
theorem Ok.nil:Ok P []:=fun _ _ _ h=>by simp[DQ] at h
theorem Ok.cons{f:FuncId}{φ:List D->Option D}{l:Fs}(h:AQ P f φ)(k:Ok P l):Ok P ((f,φ)::l):=by
 intro g args r hr
 simp only[DQ] at hr
 split at hr
 ·rename_i e;subst e;exact h args r hr
 ·exact k g args r hr
theorem Ok.X{l:Fs}(k:Ok P l):∀f args H T Q Q',(∀r H T,Q r H T->Q' r H T)->XL l f args H T Q->Snd P f args H T Q':=by
 intro f args H T Q Q' hQ h
 unfold XL at h
 split at h
 ·rename_i r hr
  exact k f _ r hr args rfl H T Q' (hQ _ _ _ h)
 ·exact h.elim
mutual
theorem D.cl_mono{n m n' m':Nat}(hn:n<=n')(hm:m<=m'):∀(d:D),d.cl n m=true->d.cl n' m'=true
 | .sl t xs,h=>by
  simp only[D.cl,A6C] at h ⊢
  refine⟨?_,D.clL_mono hn hm xs h.2⟩
  cases t with
  | none=>rfl
  | some τ=>have:=h.1;simp only[decide_eq_true_eq] at this ⊢;omega
 | .el cs,h=>by simp only[D.cl] at h ⊢;exact D.clL_mono hn hm cs h
 | .agg cs,h=>by simp only[D.cl] at h ⊢;exact D.clL_mono hn hm cs h
 | .tup cs,h=>by simp only[D.cl] at h ⊢;exact D.clL_mono hn hm cs h
 | .fn _ a b,h=>by
  simp only[D.cl,A6C] at h ⊢
  exact⟨D.clL_mono hn hm a h.1,D.clL_mono hn hm b h.2⟩
 | .ifc _ d,h=>by simp only[D.cl] at h ⊢;exact D.cl_mono hn hm d h
 | .ptr o _,h=>by simp only[D.cl,decide_eq_true_eq] at h ⊢;omega
 | .mp o,h=>by simp only[D.cl,decide_eq_true_eq] at h ⊢;omega
 | .ms _ _ o _ _ _,h=>by simp only[D.cl,decide_eq_true_eq] at h ⊢;omega
 | .e0,_| .bool _,_| .int _ _,_| .str _,_| .nilp,_| .nils,_| .nilf,_| .nilm,_| .nili,_| .top,_=>by simp[D.cl]
theorem D.clL_mono{n m n' m':Nat}(hn:n<=n')(hm:m<=m'):∀(l:List D),D.clL n m l=true->D.clL n' m' l=true
 | [],_=>by simp[D.clL]
 | d::l,h=>by
  simp only[D.clL,A6C] at h ⊢
  exact⟨D.cl_mono hn hm d h.1,D.clL_mono hn hm l h.2⟩
end
def CL(r0:D)(H:Hp)(T:Tk):Bg:=fun r H' T'=>r.erase=r0/\(∃L,H'=H++L)/\∃U,T'=T++U
theorem AN{l:Fs}(hl:Ok P l){f:FuncId}{n:Nat}{rs:List (Sum Nat (Nat×Bool×Nat))}{cc:C}(hf:Fn P f n rs cc){φ:List D->Option D}
  (h:∀args r,φ args=some r->args.length<=n/\r.cl 0 0=true/\∀H T,W (XL l) cc (Ds rs (CL r H T)) ⟨Ae args,H,T⟩):AQ P f φ:=by
 intro args r hr args' he H T Q hQ
 obtain⟨h1,h2,h3⟩:=h args r hr
 have hS:Snd P f args H T (CL r H T):=Ed hf h1 (dX hl.X (fun _ _ h=>h) (h3 H T))
 intro c w vs kg k1 k2 k3
 have k3':Reps c args vs:=by rw[<- he];exact k3.erase
 have hcl:=D.cl_mono (A6I H.length) (A6I T.length) r h2
 rcases hS c w vs kg k1 k2 k3' with⟨g1,g2⟩|⟨v,w',g1,g2⟩
 ·exact .inl ⟨g1,g2.mono fun e w' k=>iX.forget k1 k2 hcl hQ k⟩
 ·exact .inr ⟨v,w',g1,iX.forget k1 k2 hcl hQ g2⟩
end GP
namespace GP
open Go (IntKind BinOp UnOp FuncId TypeId)
def aV(n:Bool)(xs:List D):D:=if n&&xs.isEmpty then .nils else .sl none xs
section
variable {X:BF} {s:S} {K:D->S->Prop} {Q:Ex->S->Prop} {R:S->Prop}
theorem kM(n:Bool)(xs:List D):(aV n xs= .nils/\xs=[])∨aV n xs= .sl none xs:=by
 unfold aV
 cases n<;>cases xs<;>simp
@[go_sem] theorem A3V(t:Nat->D)(i j:Nat)(d:D):upd t i d j=if j=i then d else t j:=id rfl
@[go_sem] theorem A5v(a:D)(l:List D):Ae (a::l) 0=a:=id rfl
@[go_sem] theorem A3p(a:D)(l:List D)(i:Nat):Ae (a::l) (i+1)=Ae l i:=id rfl
@[go_sem] theorem A6i(i:Nat):S.ev s (.t i)=s.t i:=id rfl
@[go_sem] theorem A6h(d:D):S.ev s (.k d)=d:=id rfl
@[go_sem] theorem A1S(i:Nat)(v:D):S.put s (some i) v=⟨upd s.t i v,s.H,s.T⟩:=id rfl
@[go_sem] theorem Yo(v:D):S.put s none v=s:=id rfl
@[go_sem] theorem A2L(H:Hp)(cs:List D):Bx H (.el cs)=some cs:=id rfl
@[go_sem] theorem I6(B L:Hp)(n off:Nat):Bx (B++L) (.ptr (B.length+n) off)=Bx L (.ptr n off):=by
 have:(B++L)[B.length+n]? =L[n]?:=by rw[A6J (by omega)];congr 1;omega
 simp only[Bx,this]
@[go_sem] theorem T7(B L:Hp)(off:Nat):Bx (B++L) (.ptr B.length off)=Bx L (.ptr 0 off):=I6 B L 0 off
@[go_sem] theorem A47(cs:List D)(L:Hp)(off:Nat):Bx (.row cs::L) (.ptr 0 off)=some (cs.drop off):=id rfl
@[go_sem] theorem A4A(x:Ob)(L:Hp)(n off:Nat):Bx (x::L) (.ptr (n+1) off)=Bx L (.ptr n off):=id rfl
@[go_sem] theorem A6p(n:Nat)(cs:List D):ld true n (some cs)=if n<=cs.length then some (.agg (cs.take n)) else none:=id rfl
@[go_sem] theorem A6n(n:Nat)(c:D)(cs:List D):ld false n (some (c::cs))=some c:=id rfl
@[go_sem] theorem A3d(d:D):K1 K s (some d)=K d s:=id rfl
@[go_sem] theorem A3u(f:S->Prop):EH f Q .normal s=f s:=id rfl
@[go_sem] theorem A4S(f:S->Prop)(i:Nat):EH f Q (.exit i) s=Q (.exit i) s:=id rfl
@[go_sem] theorem A5J(f:S->Prop):EH f Q .ret s=Q .ret s:=id rfl
@[go_sem] theorem A4u(i:Nat):Oa i Q .normal s=Q .normal s:=id rfl
@[go_sem] theorem A30(i j:Nat):Oa i Q (.exit j) s=if j=i then Q .normal s else Q (.exit j) s:=id rfl
@[go_sem] theorem A5f(i:Nat):Oa i Q .ret s=Q .ret s:=id rfl
@[go_sem] theorem A4q:W X .skip Q s=Q .normal s:=by simp only[W]
@[go_sem] theorem A6a(is:List I):W X (.reg is) Q s=Wr X is (Q .normal) s:=by simp only[W]
def holes:Nat->Hp
 | 0=>[]
 | n+1=>.hole::holes n
theorem nN:∀n,List.replicate n Ob.hole=holes n
 | 0=>rfl
 | n+1=>by rw[List.replicate_succ,nN n];rfl
@[go_sem] theorem A2s:holes 0=[]:=id rfl
@[go_sem] theorem A26(n:Nat):holes (n+1)= .hole::holes n:=id rfl
@[go_sem] theorem AA(n:Nat)(is:List (I×List I)):W X (.draw n is) Q s=Wd X is (Q .normal) ⟨s.t,s.H++holes n,s.T⟩:=by simp only[W,nN]
@[go_sem] theorem A6c(a b:C):W X (.seq a b) Q s=W X a (EH (W X b Q) Q) s:=by simp only[W]
@[go_sem] theorem A28(i:Nat)(c:C):W X (.block i c) Q s=W X c (Oa i Q) s:=by simp only[W]
@[go_sem] theorem A3L(i:Nat):W X (.exit i) Q s=Q (.exit i) s:=by simp only[W]
@[go_sem] theorem A5T:W X .ret Q s=Q .ret s:=by simp only[W]
theorem Vf(c:C):W X (.loop c) Q s=∃(Iv:S->Prop) (μ:S->Nat),Iv s/\∀s,Iv s->W X c (EH (fun s'=>Iv s'/\μ s'<μ s) Q) s:=by simp only[W]
def NN(X:BF)(Q:Ex->S->Prop)(s:S)(a b:C):D->Prop
 | .bool t=>if t then W X a Q s else W X b Q s
 | _=>False
@[go_sem] theorem A5y(c:Rd)(a b:C):W X (.cond c a b) Q s=NN X Q s a b (s.ev c):=by simp only[W];rfl
@[go_sem high] theorem A2k(a b:C):NN X Q s a b (.bool true)=W X a Q s:=id rfl
@[go_sem high] theorem Yz(a b:C):NN X Q s a b (.bool false)=W X b Q s:=id rfl
@[go_sem low] theorem A2y(a b:C)(t:Bool):NN X Q s a b (.bool t)=((t=true->W X a Q s)/\(t=false->W X b Q s)):=by cases t<;>simp[NN]
@[go_sem] theorem A5r:Wr X [] R s=R s:=by simp only[Wr]
@[go_sem] theorem A2W(i:I)(is:List I):Wr X (i::is) R s=WI X i s (Wr X is R):=by simp only[Wr]
@[go_sem] theorem A4r:Wd X [] R s=R s:=by simp only[Wd]
@[go_sem] theorem YH(i:I)(is:List (I×List I)):Wd X ((i,[])::is) R s=WI X i s (Wd X is R):=by simp[Wd,d8]
@[go_sem] theorem TW:d8 X [] s=True:=id rfl
@[go_sem] theorem T6(i:I)(is:List I):d8 X (i::is) s=(I8 X i s/\d8 X is s):=id rfl
def Kp(d:Option Nat)(K:S->Prop)(v:D)(s:S):Prop:=K (s.put d v)
def Ka(X:BF)(js:List I)(K:S->Prop)(s:S):Prop:=d8 X js s/\K s
def Ke(u v:D)(_:S):Prop:=v=u
@[go_sem] theorem A5W(d:Option Nat)(K:S->Prop)(v:D):Kp d K v s=K (s.put d v):=id rfl
@[go_sem] theorem A5S(js:List I)(K:S->Prop):Ka X js K s=(d8 X js s/\K s):=id rfl
@[go_sem] theorem A50(u v:D):Ke u v s=(v=u):=id rfl
@[go_sem] theorem A2B(i j:I)(js:List I)(is:List (I×List I)):Wd X ((i,j::js)::is) R s=WI X i s (Ka X (j::js) (Wd X is R)):=by
 have:Ka X (j::js) (Wd X is R)=fun s'=>d8 X (j::js) s'/\Wd X is R s':=rfl
 rw[this];simp only[Wd]
def gdD(w:Bool):D->Option Bool
 | .bool b=>some (b==w)
 | .tup []=>some false
 | _=>none
@[go_sem] theorem A59(w:Bool):gdD w (.tup [])=some false:=id rfl
@[go_sem] theorem A5e:gdD true (.bool true)=some true:=id rfl
@[go_sem] theorem A3O:gdD true (.bool false)=some false:=id rfl
@[go_sem] theorem A4o:gdD false (.bool true)=some false:=id rfl
@[go_sem] theorem A44:gdD false (.bool false)=some true:=id rfl
@[go_sem] theorem A6k(d:Option Nat)(o:O)(K:S->Prop):WI X ⟨d,none,o⟩ s K=WO X o s (Kp d K):=id rfl
@[go_sem] theorem A6r(d:Option Nat)(g:Nat)(w:Bool)(o:O)(K:S->Prop):WI X ⟨d,some (g,w),o⟩ s K=WIk X d o s K (gdD w (s.t g)):=id rfl
@[go_sem] theorem A54(d:Option Nat)(o:O)(K:S->Prop):WIk X d o s K (some true)=WO X o s (Kp d K):=id rfl
@[go_sem] theorem A51(d:Option Nat)(o:O)(K:S->Prop):WIk X d o s K (some false)=K (s.put d (.tup [])):=id rfl
@[go_sem low] theorem A4B(d:Option Nat)(o:O)(K:S->Prop)(b:Bool):WIk X d o s K (gdD true (.bool b))=((b=true->WO X o s (Kp d K))/\(b=false->K (s.put d (.tup [])))):=by cases b<;>simp[gdD,WIk]<;>rfl
@[go_sem low] theorem A35(d:Option Nat)(o:O)(K:S->Prop)(b:Bool):WIk X d o s K (gdD false (.bool b))=((b=true->K (s.put d (.tup [])))/\(b=false->WO X o s (Kp d K))):=by cases b<;>simp[gdD,WIk]<;>rfl
def stK(X:BF)(s:S)(o:O)(d:Nat):Option Bool->Prop
 | some true=>WO X o s (Ke (s.t d))
 | _=>True
@[go_sem] theorem A2G(d:Nat)(o:O):I8 X ⟨some d,none,o⟩ s=WO X o s (Ke (s.t d)):=id rfl
@[go_sem] theorem A5R(x:Rd):WO X (.mv x) s K=K (s.ev x) s:=id rfl
def A6m(K:D->S->Prop)(s:S):D->Prop
 | .str l=>K (.str l) s
 | _=>False
def Ow(K:D->S->Prop)(s:S)(a b:D):D->Prop
 | .bool t=>K (if t then a else b) s
 | _=>False
@[go_sem] theorem A3g(c a b:Rd):WO X (.pick c a b) s K=Ow K s (s.ev a) (s.ev b) (s.ev c):=by
 simp only[WO,qv,Ow]
 cases s.ev c<;>rfl
@[go_sem] theorem A1s(a b:D):Ow K s a b (.bool true)=K a s:=id rfl
@[go_sem] theorem A03(a b:D):Ow K s a b (.bool false)=K b s:=id rfl
@[go_sem] theorem Z4(z:List D):WO X (.alloc z) s K=K (.ptr s.H.length 0) ⟨s.t,s.H++[.row z],s.T⟩:=id rfl
@[go_sem] theorem A43(x:Rd):WO X (.box x) s K=((s.ev x).okc=true/\K (.ptr s.H.length 0) ⟨s.t,s.H++[.row (s.ev x).cells],s.T⟩):=id rfl
@[go_sem] theorem XP(z:List D)(ps:List (Nat×Nat×Rd)):WO X (.build z ps) s K=K1 K s (uK z (ps.map fun p=>(p.1,p.2.1,s.ev p.2.2))):=id rfl
@[go_sem] theorem A3z(sz:Nat)(xs:List Rd):WO X (.bsl sz xs) s K=((xs.map s.ev).all (fit sz)=true/\K (.sl (some s.T.length) (xs.map s.ev)) ⟨s.t,s.H,s.T++[some (xs.length,sz)]⟩):=id rfl
@[go_sem] theorem ZY(sz:Nat)(x:Rd)(xs:List Rd):WO X (.bslq sz (x::xs)) s K=K1 K s (if((x::xs).map s.ev).all (fit sz) then some (.sl none ((x::xs).map s.ev)) else none):=id rfl
@[go_sem] theorem A2w(ag:Bool)(n:Nat)(a:Rd):WO X (.load ag n a) s K=K1 K s (ld ag n (Bx s.H (s.ev a))):=id rfl
@[go_sem] theorem ZK(n:Nat)(a v:Rd):WO X (.store n a v) s K=fF n K s (s.ev a) (s.ev v):=id rfl
def putRow(n off:Nat)(v:D):List Ob->Nat->Option (List Ob)
 | [],_=>none
 | .row cs::L,0=>if v.okc=true/\v.cells.length=n/\off+n<=cs.length then some (.row (cs.take off++v.cells++cs.drop (off+n))::L) else none
 | _::_,0=>none
 | x::L,i+1=>(putRow n off v L i).map (x::·)
def JO(K:D->S->Prop)(t:Nat->D)(B:Hp)(T:Tk):Option (List Ob)->Prop
 | some L=>K .top ⟨t,B++L,T⟩
 | none=>False
theorem KC{n off:Nat}{v:D}(t:Nat->D)(T:Tk)(B:Hp):∀(L:Hp) (i:Nat),fF n K ⟨t,B++L,T⟩ (.ptr (B.length+i) off) v=JO K t B T (putRow n off v L i):=by
 have hg:∀(L:Hp) (i:Nat),(B++L)[B.length+i]? =L[i]?:=fun L i=>by rw[A6J (by omega)];congr 1;omega
 have hs:∀(L:Hp) (i:Nat) x,(B++L).set (B.length+i) x=B++L.set i x:=fun L i x=>by rw[A6S _ _ (by omega)];congr 2;omega
 intro L i
 simp only[fF,hg,hs]
 suffices h:∀(L:Hp) (i:Nat) (B':Hp),(match L[i]? with
   | some (.row cs)=>v.okc=true/\v.cells.length=n/\off+n<=cs.length/\K .top ⟨t,B'++L.set i (.row (cs.take off++v.cells++cs.drop (off+n))),T⟩
   | _=>False)=JO K t B' T (putRow n off v L i) from h L i B
 intro L
 induction L with
 | nil=>intro i B';simp[putRow,JO]
 | cons x L ih =>
  intro i B'
  cases i with
  | zero =>
   cases x with
   | row cs =>
    simp only[putRow,A6R,List.set_cons_zero]
    split
    ·rename_i h;simp[JO,h.1,h.2.1,h.2.2]
    ·rename_i h
     simp only[JO,eq_iff_iff,iff_false]
     exact fun k=>h ⟨k.1,k.2.1,k.2.2.1⟩
   | _=>simp[putRow,JO]
  | succ i =>
   have:=ih i (B'++[x])
   simp only[A6G,A6P]
   have e3:∀y:Hp,(B'++[x])++y=B'++x::y:=fun y=>by simp
   simp only[e3] at this
   rw[this]
   have e:putRow n off v (x::L) (i+1)=(putRow n off v L i).map (x::·):=by cases x<;>rfl
   rw[e]
   cases putRow n off v L i with
   | none=>rfl
   | some L'=>simp[JO]
@[go_sem] theorem Oj(t:Nat->D)(T:Tk)(B L:Hp)(n i off:Nat)(v:D):fF n K ⟨t,B++L,T⟩ (.ptr (B.length+i) off) v=JO K t B T (putRow n off v L i):=KC t T B L i
@[go_sem] theorem VA(t:Nat->D)(T:Tk)(B L:Hp)(n off:Nat)(v:D):fF n K ⟨t,B++L,T⟩ (.ptr B.length off) v=JO K t B T (putRow n off v L 0):=KC t T B L 0
@[go_sem] theorem A1m(n off:Nat)(v:D)(cs:List D)(L:Hp):putRow n off v (.row cs::L) 0=if v.okc=true/\v.cells.length=n/\off+n<=cs.length then some (.row (cs.take off++v.cells++cs.drop (off+n))::L) else none:=id rfl
@[go_sem] theorem Sj(n off:Nat)(v:D)(x:Ob)(L:Hp)(i:Nat):putRow n off v (x::L) (i+1)=(putRow n off v L i).map (x::·):=by cases x<;>rfl
@[go_sem] theorem A4p(t:Nat->D)(B L:Hp)(T:Tk):JO K t B T (some L)=K .top ⟨t,B++L,T⟩:=id rfl
@[go_sem] theorem A2X(x:Rd):WO X (.nilc x) s K=K1 K s (N2 (s.ev x)):=id rfl
@[go_sem] theorem A4U(op:BinOp)(x y:Rd):WO X (.bin op x y) s K=K1 K s (DZ op (s.ev x) (s.ev y)):=id rfl
@[go_sem] theorem A41(ks:List Ck)(neg:Bool)(x y:Rd):WO X (.eqa ks neg x y) s K=K1 K s (RW ks neg (s.ev x) (s.ev y)):=id rfl
@[go_sem] theorem A49(q:Tq)(neg:Bool)(x y:Rd):WO X (.eq1 q neg x y) s K=K1 K s ((Ko q (s.ev x) (s.ev y)).map fun b=>.bool (b !=neg)):=id rfl
@[go_sem] theorem A6d(op:UnOp)(x:Rd):WO X (.un op x) s K=K1 K s (un1 op (s.ev x)):=id rfl
def AC(k:IntKind)(K:D->S->Prop)(s:S):D->Prop
 | .int _ n=>K (.int k (k.wrap n)) s
 | _=>False
@[go_sem] theorem A2D(k:IntKind)(x:Rd):WO X (.conv k x) s K=AC k K s (s.ev x):=by
 simp only[WO,qv,AC]
 cases s.ev x<;>rfl
@[go_sem] theorem A2S(k k':IntKind)(n:Int):AC k K s (.int k' n)=K (.int k (k.wrap n)) s:=id rfl
@[go_sem] theorem XD(off:Nat)(x:Rd):WO X (.faddr off x) s K=K1 K s (fa off (s.ev x)):=id rfl
@[go_sem] theorem A0y(ag:Bool)(off n:Nat)(x:Rd):WO X (.field ag off n x) s K=K1 K s (fld ag off n (s.ev x)):=id rfl
@[go_sem] theorem Yl(sz:Nat)(x i:Rd):WO X (.iaddr sz x i) s K=K1 K s (ia sz (s.ev x) (s.ev i)):=id rfl
@[go_sem] theorem A2t(x i:Rd):WO X (.idxs x i) s K=K1 K s (ixs (s.ev x) (s.ev i)):=id rfl
@[go_sem] theorem A2Q(ag:Bool)(sz len:Nat)(x i:Rd):WO X (.idxa ag sz len x i) s K=K1 K s (ixa ag sz len (s.ev x) (s.ev i)):=id rfl
@[go_sem] theorem A5H(i:Nat)(x:Rd):WO X (.ext i x) s K=K1 K s (QN i (s.ev x)):=id rfl
@[go_sem] theorem A5a(i:Nat)(vs:List D):QN i (.tup vs)=vs[i]?:=id rfl
@[go_sem] theorem A2z(f:FuncId)(first cap:List Rd):WO X (.mkfn f first cap) s K=K (.fn f (first.map s.ev) (cap.map s.ev)) s:=id rfl
def Wh(K:D->S->Prop)(s:S):Option Nat->Prop
 | some n=>K (.int .i64 (n:Int)) s
 | none=>False
@[go_sem] theorem A4M(n:Nat):Wh K s (some n)=K (.int .i64 (n:Int)) s:=id rfl
@[go_sem] theorem A4T(x:Rd):WO X (.len x) s K=Wh K s (C2 (s.ev x)):=by
 simp only[WO,qv]
 cases C2 (s.ev x)<;>rfl
@[go_sem] theorem A2x(x:Rd):WO X (.lens x) s K=Wh K s (dW (s.ev x)):=by
 simp only[WO,qv]
 cases dW (s.ev x)<;>rfl
@[go_sem] theorem A56(a b:Rd):WO X (.mn a b) s K=K1 K s (mn2 (s.ev a) (s.ev b)):=id rfl
@[go_sem] theorem A5U(a b:Rd):WO X (.mx a b) s K=K1 K s (mx2 (s.ev a) (s.ev b)):=id rfl
@[go_sem] theorem A5V(k:IntKind)(a b:Int):mn2 (.int k a) (.int k b)=some (.int k (if b<a then b else a)):=id rfl
@[go_sem] theorem A5Y(k:IntKind)(a b:Int):mx2 (.int k a) (.int k b)=some (.int k (if b>a then b else a)):=id rfl
def Vm(K:D->S->Prop)(s:S)(lo hi:Option Rd):D->Prop
 | .str l=>K1 K s (sub (BX s 0 lo) (BX s l.length hi) (.str l))
 | _=>False
@[go_sem] theorem A3e(x:Rd)(lo hi:Option Rd):WO X (.subs x lo hi) s K=Vm K s lo hi (s.ev x):=by
 simp only[WO,qv,Vm]
 cases s.ev x<;>rfl
@[go_sem] theorem A5M(lo hi:Option Rd)(l:List UInt8):Vm K s lo hi (.str l)=K1 K s (sub (BX s 0 lo) (BX s l.length hi) (.str l)):=id rfl
def ZI:D->Option Int
 | .int _ n=>some n
 | _=>none
@[go_sem] theorem A3X(d:Nat):BX s d none=some (d:Int):=id rfl
@[go_sem high] theorem A3l:BX s 0 none=some 0:=id rfl
@[go_sem] theorem A5w(d:Nat)(r:Rd):BX s d (some r)=ZI (s.ev r):=id rfl
@[go_sem] theorem A4e(k:IntKind)(n:Int):ZI (.int k n)=some n:=id rfl
theorem Oz(l h:Int)(b:List UInt8):sub (some l) (some h) (.str b)=if 0<=l/\l<=h/\h<=b.length then some (.str (aH b l.toNat h.toNat)) else none:=rfl
@[go_sem] theorem XA(f:Rd)(args:List Rd):WO X (.pcall f args) s K=bW X (args.map s.ev) K s (s.ev f):=id rfl
@[go_sem] theorem A2P(f:Rd)(args:List Rd):WO X (.call f args) s K=HP X (args.map s.ev) K s (s.ev f):=id rfl
@[go_sem] theorem X5(l:Fs)(args:List D)(f:FuncId)(first cap:List D):bW (XL l) args K s (.fn f first cap)=K1 K s (DQ l f (D.eraseL (first++args++cap))):=by
 simp only[bW,eq_iff_iff]
 constructor
 ·rintro⟨r,h1,h2⟩
  have:=h1 s.H s.T (fun r' _ _=>r'=r) (fun _ _ h _=>h) rfl
  unfold XL at this
  split at this
  ·rename_i r' hr;subst this;rw[hr];exact h2
  ·exact this.elim
 ·intro h
  cases hr:DQ l f (D.eraseL (first++args++cap)) with
  | none=>rw[hr] at h;exact h.elim
  | some r =>
   rw[hr] at h
   refine⟨r,fun H' T' Q' _ hQ=>?_,h⟩
   unfold XL
   rw[hr];exact hQ
@[go_sem] theorem A1C(f:FuncId)(a:List D):DQ [] f a=none:=id rfl
@[go_sem] theorem Wv(g:FuncId)(φ:List D->Option D)(l:Fs)(f:FuncId)(a:List D):DQ ((g,φ)::l) f a=if f=g then φ a else DQ l f a:=id rfl
@[go_sem] theorem ZE:D.eraseL []=[]:=by simp[D.eraseL]
@[go_sem] theorem A06(d:D)(l:List D):D.eraseL (d::l)=d.erase::D.eraseL l:=by simp[D.eraseL]
@[go_sem] theorem Wi(b:Bool):(D.bool b).erase= .bool b:=by simp[D.erase]
@[go_sem] theorem Wz(k:IntKind)(n:Int):(D.int k n).erase= .int k n:=by simp[D.erase]
@[go_sem] theorem X6(l:List UInt8):(D.str l).erase= .str l:=by simp[D.erase]
@[go_sem] theorem W1:D.nils.erase= .nils:=by simp[D.erase]
@[go_sem] theorem Ws(cs:List D):(D.agg cs).erase= .agg (D.eraseL cs):=by simp[D.erase]
@[go_sem] theorem Wu(cs:List D):(D.tup cs).erase= .tup (D.eraseL cs):=by simp[D.erase]
@[go_sem] theorem A0I(t:Option Nat)(cs:List D):(D.sl t cs).erase= .sl none (D.eraseL cs):=by simp[D.erase]
@[go_sem] theorem A2g(f:FuncId)(a b:List D):(D.fn f a b).erase= .fn f (D.eraseL a) (D.eraseL b):=by simp[D.erase]
@[go_sem] theorem Ag(n:Bool)(xs:List D):(aV n xs).erase=aV n (D.eraseL xs):=by
 unfold aV
 cases n<;>cases xs<;>simp[D.erase,D.eraseL]
@[go_sem] theorem Wq:C2 .nils=some 0:=id rfl
@[go_sem] theorem A2N(t:Option Nat)(xs:List D):C2 (.sl t xs)=some xs.length:=id rfl
@[go_sem] theorem V5(n:Bool)(xs:List D):C2 (aV n xs)=some xs.length:=by
 rcases kM n xs with⟨h,rfl⟩|h<;>rw[h]<;>rfl
@[go_sem] theorem A1q(l:List UInt8):dW (.str l)=some l.length:=id rfl
@[go_sem] theorem A3c(cs:List D):(D.agg cs).okc=true:=id rfl
@[go_sem] theorem A3f(k:IntKind)(n:Int):(D.int k n).okc=true:=id rfl
@[go_sem] theorem A24(l:List UInt8):(D.str l).okc=true:=id rfl
@[go_sem] theorem ZF(b:Bool):(D.bool b).okc=true:=id rfl
@[go_sem] theorem A3U(t:Option Nat)(xs:List D):(D.sl t xs).okc=true:=id rfl
@[go_sem] theorem Z5:D.nils.okc=true:=id rfl
@[go_sem] theorem Vx(n:Bool)(xs:List D):(aV n xs).okc=true:=by
 rcases kM n xs with⟨h,_⟩|h<;>rw[h]<;>rfl
@[go_sem] theorem Wt(cs:List D):(D.agg cs).cells=cs:=id rfl
@[go_sem] theorem Wy(k:IntKind)(n:Int):(D.int k n).cells=[.int k n]:=id rfl
@[go_sem] theorem X7(l:List UInt8):(D.str l).cells=[.str l]:=id rfl
@[go_sem] theorem Ve(b:Bool):(D.bool b).cells=[.bool b]:=id rfl
@[go_sem] theorem Yc(t:Option Nat)(xs:List D):(D.sl t xs).cells=[.sl t xs]:=id rfl
@[go_sem] theorem WG:D.nils.cells=[.nils]:=id rfl
@[go_sem] theorem Tf(n:Bool)(xs:List D):(aV n xs).cells=[aV n xs]:=by
 rcases kM n xs with⟨h,_⟩|h<;>rw[h]<;>rfl
@[go_sem] theorem A6e(off:Nat)(cs:List D):fa off (.el cs)=some (.el (cs.drop off)):=id rfl
@[go_sem] theorem A3W(off o f:Nat):fa off (.ptr o f)=some (.ptr o (f+off)):=id rfl
@[go_sem] theorem A21(b:Bool):un1 .not (.bool b)=some (.bool (!b)):=id rfl
@[go_sem] theorem A2u(k:IntKind)(n:Int):un1 .neg (.int k n)=some (.int k (k.wrap (0 - n))):=id rfl
@[go_sem] theorem A2O(k:IntKind)(a b:Int):DZ .eql (.int k a) (.int k b)=some (.bool (a==b)):=by simp[DZ,kK,Fa]
@[go_sem] theorem A3a(k:IntKind)(a b:Int):DZ .neq (.int k a) (.int k b)=some (.bool (a !=b)):=by simp[DZ,kK,Fa]
@[go_sem] theorem A2F(k:IntKind)(a b:Int):DZ .lss (.int k a) (.int k b)=some (.bool (decide (a<b))):=by simp[DZ,kK,Fa]
@[go_sem] theorem A2R(k:IntKind)(a b:Int):DZ .leq (.int k a) (.int k b)=some (.bool (decide (a<=b))):=by simp[DZ,kK,Fa]
@[go_sem] theorem A2K(k:IntKind)(a b:Int):DZ .gtr (.int k a) (.int k b)=some (.bool (decide (b<a))):=by simp[DZ,kK,Fa]
@[go_sem] theorem A2U(k:IntKind)(a b:Int):DZ .geq (.int k a) (.int k b)=some (.bool (decide (b<=a))):=by simp[DZ,kK,Fa]
@[go_sem] theorem A2Y(k:IntKind)(a b:Int):DZ .add (.int k a) (.int k b)=some (.int k (k.wrap (a+b))):=by simp[DZ,kK,Fa]
@[go_sem] theorem A3i(k:IntKind)(a b:Int):DZ .sub (.int k a) (.int k b)=some (.int k (k.wrap (a - b))):=by simp[DZ,kK,Fa]
@[go_sem] theorem A2h(a b:List UInt8):DZ .eql (.str a) (.str b)=some (.bool (a==b)):=id rfl
@[go_sem] theorem Ye(a b:List UInt8):DZ .neq (.str a) (.str b)=some (.bool (a !=b)):=id rfl
@[go_sem] theorem A0z(a b:Bool):Ko .bool (.bool a) (.bool b)=some (a==b):=id rfl
@[go_sem] theorem Zx:Ko .slc .nils .nils=some true:=id rfl
def A6o:Bool->Option Bool->Option Bool
 | p,some q=>some (p&&q)
 | _,none=>none
@[go_sem] theorem XZ(z:List D):uK z []=some (.agg z):=id rfl
@[go_sem] theorem A1J(z:List D)(off sz:Nat)(d:D)(ps:List (Nat×Nat×D)):uK z ((off,sz,d)::ps)=if d.okc=true/\d.cells.length=sz/\off+d.cells.length<=z.length then uK (z.take off++d.cells++z.drop (off+d.cells.length)) ps else none:=by
 simp only[uK,A61,A62,Gw,fit,A6C,beq_iff_eq]
 by_cases h1:d.okc=true<;>by_cases h2:d.cells.length=sz<;>by_cases h3:off+d.cells.length<=z.length<;>by_cases hq:(ps.all fun p=>p.2.2.okc&&p.2.2.cells.length==p.2.1)=true <;>
  simp only[h1,h2,h3,hq,and_self,and_true,true_and,and_false,false_and,if_true,if_false,A6T]<;>(first|rfl|(simp only[<- h2,h3,if_true,if_false,A6T];done)|simp)
@[go_sem] theorem A2l(sz:Nat)(t:Option Nat)(xs:List D)(k:IntKind)(n:Int):ia sz (.sl t xs) (.int k n)=if 0<=n then iaE sz xs[n.toNat]? else none:=id rfl
@[go_sem] theorem Ld(sz:Nat)(b:Bool)(xs:List D)(k:IntKind)(n:Int):ia sz (aV b xs) (.int k n)=if 0<=n then iaE sz xs[n.toNat]? else none:=by
 rcases kM b xs with⟨h,rfl⟩|h<;>rw[h]
 ·simp[ia,iaE]
 ·rfl
@[go_sem] theorem A5X(sz:Nat)(d:D):iaE sz (some d)=if d.cells.length=sz then some (.el d.cells) else none:=id rfl
@[go_sem] theorem Wb(sz:Nat)(d:D):fit sz d=(d.okc&&d.cells.length==sz):=id rfl
variable {Q0:Bg}
@[go_sem] theorem A4c(rs:List (Sum Nat (Nat×Bool×Nat))):Ds rs Q0 .normal s=OY rs Q0 s:=id rfl
@[go_sem] theorem A3J(rs:List (Sum Nat (Nat×Bool×Nat))):Ds rs Q0 .ret s=OY rs Q0 s:=id rfl
def Wf(Q0:Bg)(s:S):Option (List D)->Prop
 | some ds=>Q0 (Oi ds) s.H s.T
 | none=>False
def SJ:Option D->Option (List D)->Option (List D)
 | some d,some ds=>some (d::ds)
 | _,_=>none
@[go_sem] theorem A3h(rs:List (Sum Nat (Nat×Bool×Nat))):OY rs Q0 s=Wf Q0 s (Fi rs s):=by
 simp only[OY,Wf]
 cases Fi rs s<;>rfl
@[go_sem] theorem A3H:Fi [] s=some []:=id rfl
@[go_sem] theorem A4D(t:Nat)(l:List (Sum Nat (Nat×Bool×Nat))):Fi (.inl t::l) s=SJ (some (s.t t)) (Fi l s):=by
 simp only[Fi]
 cases Fi l s<;>rfl
@[go_sem] theorem A3r(x n:Nat)(ag:Bool)(l:List (Sum Nat (Nat×Bool×Nat))):Fi (.inr (x,ag,n)::l) s=SJ (ld ag n (Bx s.H (s.t x))) (Fi l s):=by
 simp only[Fi]
 cases ld ag n (Bx s.H (s.t x))<;>cases Fi l s<;>rfl
@[go_sem] theorem A2J(d:D)(ds:List D):SJ (some d) (some ds)=some (d::ds):=id rfl
@[go_sem] theorem A4X(ds:List D):Wf Q0 s (some ds)=Q0 (Oi ds) s.H s.T:=id rfl
@[go_sem] theorem A5Q(d:D):Oi [d]=d:=id rfl
@[go_sem] theorem A4F:Oi []= .tup []:=id rfl
@[go_sem] theorem A5K(d e:D)(ds:List D):Oi (d::e::ds)= .tup (d::e::ds):=id rfl
@[go_sem] theorem Y5(r r0:D)(H:Hp)(T:Tk):CL r0 H T r H T=(r.erase=r0):=by
 simp[CL]
@[go_sem] theorem Xv(r r0:D)(H L:Hp)(T:Tk):CL r0 H T r (H++L) T=(r.erase=r0):=by
 simp[CL]
@[go_sem] theorem A1O(r r0:D)(H:Hp)(T U:Tk):CL r0 H T r H (T++U)=(r.erase=r0):=by
 simp[CL]
@[go_sem] theorem Z2(r r0:D)(H L:Hp)(T U:Tk):CL r0 H T r (H++L) (T++U)=(r.erase=r0):=by
 simp[CL]
def Fd(o:Hp)(x:Ob):Nat->Option Hp
 | 0=>match o with| .hole::L=>some (x::L)|_=>none
 | i+1=>match o with|y::L=>(Fd L x i).map (y::·)|[]=>none
@[go_sem] theorem A22(x:Ob)(L:Hp):Fd (.hole::L) x 0=some (x::L):=id rfl
@[go_sem] theorem A29(x y:Ob)(L:Hp)(i:Nat):Fd (y::L) x (i+1)=(Fd L x i).map (y::·):=id rfl
def atQ(K:D->S->Prop)(t:Nat->D)(B:Hp)(T:Tk)(i:Nat):Option Hp->Prop
 | some L=>K (.ptr (B.length+i) 0) ⟨t,B++L,T⟩
 | none=>False
@[go_sem] theorem A58(t:Nat->D)(B L:Hp)(T:Tk)(i:Nat):atQ K t B T i (some L)=K (.ptr (B.length+i) 0) ⟨t,B++L,T⟩:=id rfl
theorem Kk(x:Ob):∀(L:Hp) (i:Nat),Fd L x i=match L[i]? with|some .hole=>some (L.set i x)|_=>none
 | [],0=>by simp[Fd]
 | [],i+1=>by simp[Fd]
 | y::L,0=>by cases y<;>simp[Fd]
 | y::L,i+1=>by
  simp only[Fd,Kk x L i,A6G,A6P]
  cases L[i]? with
  | none=>rfl
  | some z=>cases z<;>rfl
theorem JY{α:Type}(B L:List α)(i:Nat):(B++L)[B.length+i]? =L[i]?:=by rw[A6J (by omega)];congr 1;omega
theorem IC{α:Type}(B L:List α)(i:Nat)(x:α):(B++L).set (B.length+i) x=B++L.set i x:=by rw[A6S _ _ (by omega)];congr 2;omega
theorem Re{α:Type}(B L:List α){j:Nat}(h:j<=L.length):(B++L).length - j=B.length+(L.length - j):=by simp;omega
def Xk(p:Prop):Prop:=p
theorem A25(t:Nat->D)(B L:Hp)(T:Tk)(z:List D)(i:Nat):atK K ⟨t,B++L,T⟩ (B.length+i) z (B++L)[B.length+i]? =atQ K t B T i (Fd L (.row z) i):=by
 rw[JY,Kk]
 cases h:L[i]? with
 | none=>simp[atK,atQ]
 | some x=>cases x<;>simp[atK,atQ,IC]
theorem Sr(t:Nat->D)(B L:Hp)(T:Tk)(z:List D)(i:Nat):JS K ⟨t,B++L,T⟩ (B.length+i) z (B++L)[B.length+i]? =atQ K t B T i (Fd L (.raw z) i):=by
 rw[JY,Kk]
 cases h:L[i]? with
 | none=>simp[JS,atQ]
 | some x=>cases x<;>simp[JS,atQ,IC]
@[go_sem] theorem Zj(t:Nat->D)(B L:Hp)(T:Tk)(j:Nat)(z:List D):WO X (.rawAt j z) ⟨t,B++L,T⟩ K=if j<=L.length then atQ K t B T (L.length - j) (Fd L (.raw z) (L.length - j)) else Xk (WO X (.rawAt j z) ⟨t,B++L,T⟩ K):=by
 split
 ·rename_i h
  rw[<- Sr]
  show(j<=(B++L).length/\JS K ⟨t,B++L,T⟩ ((B++L).length - j) z (B++L)[(B++L).length - j]?)=_
  rw[Re B L h]
  have:j<=(B++L).length:=by simp;omega
  simp only[this,true_and]
 ·rfl
def Dd(n:Nat)(v:D):Hp->Nat->Option Hp
 | .raw z::L,0=>if z.length=n/\v.okc=true/\v.cells.length=n then some (.row v.cells::L) else none
 | y::L,i+1=>(Dd n v L i).map (y::·)
 | _,_=>none
@[go_sem] theorem X0(n:Nat)(v:D)(z:List D)(L:Hp):Dd n v (.raw z::L) 0=if z.length=n/\v.okc=true/\v.cells.length=n then some (.row v.cells::L) else none:=id rfl
@[go_sem] theorem Ps(n:Nat)(v:D)(y:Ob)(L:Hp)(i:Nat):Dd n v (y::L) (i+1)=(Dd n v L i).map (y::·):=by cases y<;>rfl
def KK(K:D->S->Prop)(t:Nat->D)(B:Hp)(T:Tk):Option Hp->Prop
 | some L=>K .top ⟨t,B++L,T⟩
 | none=>False
@[go_sem] theorem A3j(t:Nat->D)(B L:Hp)(T:Tk):KK K t B T (some L)=K .top ⟨t,B++L,T⟩:=id rfl
theorem G3(t:Nat->D)(B:Hp)(T:Tk)(n:Nat)(v:D):∀(L:Hp) (i:Nat),KK K t B T (Dd n v L i)↔∃z,L[i]? =some (.raw z)/\z.length=n/\v.okc=true/\v.cells.length=n/\K .top ⟨t,B++L.set i (.row v.cells),T⟩
 | [],0=>by simp[Dd,KK]
 | [],i+1=>by simp[Dd,KK]
 | y::L,0=>by
  cases y<;>simp[Dd,KK]
  rename_i z
  by_cases h:z.length=n/\v.okc=true/\v.cells.length=n
  ·rw[if_pos h];simp[h.1,h.2.1,h.2.2]
  ·rw[if_neg h]
   simp only[false_iff]
   exact fun k=>h ⟨k.1,k.2.1,k.2.2.1⟩
 | y::L,i+1=>by
  have:=G3 t (B++[y]) T n v L i
  simp only[A6X,List.singleton_append] at this
  simp only[A6G,A6P]
  rw[<- this,Ps]
  cases Dd n v L i<;>simp[KK]
def O2(i:Nat)(p:Prop):D->Prop
 | .ptr o 0=>if o=i then p else False
 | _=>False
@[go_sem] theorem A2A(i:Nat)(p:Prop):O2 i p (.ptr i 0)=p:=by simp[O2]
@[go_sem] theorem Ww(t:Nat->D)(B L:Hp)(T:Tk)(j n:Nat)(a v:Rd):WO X (.fillAt j n a v) ⟨t,B++L,T⟩ K=if j<=L.length then O2 (B.length+(L.length - j)) (KK K t B T (Dd n (S.ev ⟨t,B++L,T⟩ v) L (L.length - j))) (S.ev ⟨t,B++L,T⟩ a) else Xk (WO X (.fillAt j n a v) ⟨t,B++L,T⟩ K):=by
 split
 ·rename_i h
  show(j<=(B++L).length/\Gp K ⟨t,B++L,T⟩ ((B++L).length - j) n _ _ (B++L)[(B++L).length - j]?)=_
  rw[Re B L h]
  have hj:j<=(B++L).length:=by simp;omega
  simp only[hj,true_and,eq_iff_iff]
  generalize S.ev ⟨t,B++L,T⟩ a=a
  generalize S.ev ⟨t,B++L,T⟩ v=v
  rw[JY]
  constructor
  ·intro k
   obtain⟨z,h1,h2,h3,h4,h5,h6⟩:=nJ k
   subst h2
   simp only[O2,if_true]
   exact(G3 t B T n v L _).2 ⟨z,h1,h3,h4,h5,by simpa only[IC] using h6⟩
  ·intro k
   unfold O2 at k
   split at k
   ·split at k
    ·rename_i e;subst e
     obtain⟨z,h1,h3,h4,h5,h6⟩:=(G3 t B T n v L _).1 k
     rw[h1]
     exact⟨rfl,h3,h4,h5,by simpa only[IC] using h6⟩
    ·exact k.elim
   ·exact k.elim
 ·rfl
def YL(K:D->S->Prop)(s:S)(sz:Nat)(lo hi:Option Rd)(x:D):Option Nat->Prop
 | some n=>K1 K s (slc sz (BX s 0 lo) (BX s n hi) x)
 | none=>False
@[go_sem] theorem A4L(sz:Nat)(x:Rd)(lo hi:Option Rd):WO X (.sls sz x lo hi) s K=YL K s sz lo hi (s.ev x) (C2 (s.ev x)):=by
 simp only[WO,qv]
 cases C2 (s.ev x)<;>rfl
@[go_sem] theorem A42(sz:Nat)(lo hi:Option Rd)(x:D)(n:Nat):YL K s sz lo hi x (some n)=K1 K s (slc sz (BX s 0 lo) (BX s n hi) x):=id rfl
def A6b(K:D->S->Prop)(s:S)(sz:Nat)(lo hi mx:Option Rd)(x:D):Option Nat->Prop
 | some n=>K1 K s (OV sz (BX s 0 lo) (BX s n hi) (BX s n mx) x)
 | none=>False
@[go_sem] theorem A5F(st:Bool)(sz bytes:Nat)(x y:Rd):WO X (.app st sz bytes x y) s K=Eb sz bytes K s (s.ev x) (aQ st (s.ev y)):=id rfl
@[go_sem] theorem A3k(ag st:Bool)(sz bytes:Nat)(x y:Rd):WO X (.appm ag st sz bytes x y) s K=JB ag sz bytes K s (s.ev x) (C9 s.H st sz (s.ev y)):=id rfl
@[go_sem] theorem A2E(ag:Bool)(sz:Nat)(xs:List Rd):WO X (.bslm ag sz xs) s K=((xs.map s.ev).all (fit sz)=true/\K (.ms ag sz s.H.length 0 xs.length xs.length) ⟨s.t,s.H++[.row (AX (xs.map s.ev))],s.T⟩):=id rfl
@[go_sem] theorem A3N(z:List D)(x:Rd):WO X (.clr z x) s K=LI z K s (s.ev x):=id rfl
@[go_sem] theorem Zb:WO X .mkmap s K=K (.mp s.H.length) ⟨s.t,s.H++[.map [] 0],s.T⟩:=id rfl
@[go_sem] theorem A2I(x:Rd):WO X (.mlen x) s K=K1 K s ((E0 s.H (s.ev x)).map fun es=>.int .i64 (es.length:Int)):=id rfl
@[go_sem] theorem A2C(ks:Bool×List Ck)(zv:D)(ok:Bool)(m k:Rd):WO X (.mget ks zv ok m k) s K=K1 K s (if pu zv then Gv s.H ks zv ok (s.ev m) (s.ev k) else none):=id rfl
@[go_sem] theorem A3b(ks:Bool×List Ck)(zv:D)(m k:Rd):WO X (.ment ks zv m k) s K=LR ks zv K s (s.ev m) (s.ev k):=id rfl
@[go_sem] theorem A5h(m b v:Rd):WO X (.mst m b v) s K=Qz K s (s.ev m) (s.ev b) (s.ev v):=id rfl
@[go_sem] theorem A3q(x:Rd):WO X (.b2s x) s K=K1 K s (JU (s.ev x)):=id rfl
@[go_sem] theorem Wx(t:Option Nat)(xs:List D):aQ false (.sl t xs)=some xs:=id rfl
@[go_sem] theorem WZ(H:Hp)(sz:Nat)(t:Option Nat)(xs:List D):C9 H false sz (.sl t xs)=some xs:=id rfl
theorem QP(sz bytes:Nat)(ys:List D):Eb sz bytes K s .nils (some ys)=(ys.all (fit sz)=true/\if ys=[] then K .nils s else(ys.length*bytes<=2^47/\ys.length<2^62/\K (.sl (some s.T.length) ys) ⟨s.t,s.H,s.T++[some (ys.length,sz)]⟩)):=rfl
@[go_sem] theorem HN(sz bytes:Nat)(y:D)(ys:List D):Eb sz bytes K s .nils (some (y::ys))=((y::ys).all (fit sz)=true/\(y::ys).length*bytes<=2^47/\(y::ys).length<2^62/\K (.sl (some s.T.length) (y::ys)) ⟨s.t,s.H,s.T++[some ((y::ys).length,sz)]⟩):=by
 rw[QP,if_neg (by simp)]
theorem BZ(sz bytes:Nat)(t:Nat->D)(H:Hp)(B L:Tk)(n:Nat)(xs ys:List D):Eb sz bytes K ⟨t,H,B++L⟩ (.sl (some (B.length+n)) xs) (some ys) =
  (ys.all (fit sz)=true/\L[n]? =some (some (xs.length,sz))/\(xs.length+ys.length)*bytes<=2^47/\xs.length+ys.length<2^62/\xs.all (fit sz)=true/\K (.sl (some (B.length+n)) (xs++ys)) ⟨t,H,B++L.set n (some (xs.length+ys.length,sz))⟩):=by
 simp only[Eb,JY,IC]
theorem Bo(sz bytes:Nat)(t:Nat->D)(H:Hp)(B L:Tk)(xs ys:List D):Eb sz bytes K ⟨t,H,B++L⟩ (.sl (some B.length) xs) (some ys) =
  (ys.all (fit sz)=true/\L[0]? =some (some (xs.length,sz))/\(xs.length+ys.length)*bytes<=2^47/\xs.length+ys.length<2^62/\xs.all (fit sz)=true/\K (.sl (some B.length) (xs++ys)) ⟨t,H,B++L.set 0 (some (xs.length+ys.length,sz))⟩):=BZ sz bytes t H B L 0 xs ys
@[go_sem] theorem A20(ag:Bool)(z o off n cap:Nat):C2 (.ms ag z o off n cap)=some n:=id rfl
@[go_sem] theorem X4(o off:Nat):(D.ptr o off).erase= .ptr o off:=by simp[D.erase]
@[go_sem] theorem Z6(ag:Bool)(z o off n cap:Nat):(D.ms ag z o off n cap).erase= .ms ag z o off n cap:=by simp[D.erase]
@[go_sem] theorem A3C(ag:Bool)(z o off n cap:Nat):(D.ms ag z o off n cap).okc=true:=id rfl
@[go_sem] theorem Xc(ag:Bool)(z o off n cap:Nat):(D.ms ag z o off n cap).cells=[.ms ag z o off n cap]:=id rfl
@[go_sem] theorem A23(sz len:Nat)(x:D)(k:IntKind)(n:Int):Lm sz len x (.int k n)=if 0<=n/\n<len then fa (n.toNat*sz) x else none:=id rfl
@[go_sem] theorem A2V(sz len:Nat)(x i:Rd):WO X (.iarr sz len x i) s K=K1 K s (Lm sz len (s.ev x) (s.ev i)):=id rfl
end
attribute [go_sem_proc] Nat.reduceAdd Nat.reduceSub Nat.reduceMul Nat.reduceEqDiff Nat.reduceLeDiff Nat.reduceLT Int.reduceToNat Int.reduceLE Int.reduceLT Int.reduceEq Int.reduceNe Int.reduceBEq Int.reduceBNe Nat.reduceBEq Nat.reduceBNe reduceCtorEq
attribute [go_sem_proc ↓] reduceIte reduceDIte
@[go_sem] theorem A6l(n:Nat)(r:List I):Rq n [] r=r:=id rfl
@[go_sem] theorem AF(n:Nat)(o:O)(l:List O)(r:List I):Rq n (o::l) r=⟨some n,none,o⟩::Rq (n+1) l r:=id rfl
@[go_sem] theorem AG(n g:Nat)(r:List I):Rv n g [] r=r:=id rfl
@[go_sem] theorem AE(n g:Nat)(o:O)(l:List O)(r:List I):Rv n g (o::l) r=⟨some n,some (g,true),o⟩::Rv (n+1) g l r:=id rfl
@[go_sem] theorem A6s(n g:Nat)(r:List I):Rz n g [] r=r:=id rfl
@[go_sem] theorem AH(n g:Nat)(o:O)(l:List O)(r:List I):Rz n g (o::l) r=⟨some n,some (g,false),o⟩::Rz (n+1) g l r:=id rfl
attribute [go_sem] A62 List.map_nil A6X List.cons_append List.nil_append List.append_nil List.length_append List.length_cons List.length_nil List.take_zero List.take_succ_cons List.take_nil List.drop_zero List.drop_succ_cons List.drop_nil Nat.zero_add A64 A6U A6T true_and and_true false_and and_false and_self Bool.true_eq_false A6W Bool.not_true Bool.not_false Bool.not_eq_true' Bool.not_eq_false' Bool.true_and Bool.and_true Bool.false_and Bool.and_false Bool.true_or Bool.or_true Bool.false_or Bool.or_false Bool.bne_true Bool.bne_false Bool.true_bne Bool.false_bne Bool.true_beq Bool.false_beq Bool.not_not decide_true decide_false false_implies true_implies implies_true forall_const A61 List.all_nil beq_self_eq_true bne_self_eq_false A6I A6F A6R A6G List.isEmpty_nil List.isEmpty_cons Int.cast_ofNat_Int Int.toNat_zero
end GP
namespace GP
open Go
theorem RV{p:Nat->Prop}{N:Nat}(hN:∀i,p i->i<=N):∀(k i:Nat),N - i<=k->p i->∃m,p m/\∀j,p j->j<=m
 | 0,i,hk,hi=>⟨i,hi,fun j hj=>by have:=hN j hj;omega⟩
 | k+1,i,hk,hi=>by
  by_cases h:∃j,p j/\i<j
  ·obtain⟨j,hj,hij⟩:=h
   exact RV hN k j (by have:=hN j hj;omega) hj
  ·exact⟨i,hi,fun j hj=>Nat.le_of_not_lt fun hij=>h ⟨j,hj,hij⟩⟩
open Classical in
noncomputable def Tn(I:Nat->S->Prop)(s:S):Nat:=if h:∃m,I m s/\∀j,I j s->j<=m then h.choose else 0
theorem Ap{X:BF}{c:C}{Q:Ex->S->Prop}{s:S}(I:Nat->S->Prop)(N:Nat)(h0:∃i,I i s)(hN:∀i s,I i s->i<=N)(step:∀i s,I i s->W X c (EH (I (i+1)) Q) s)(hX:GA X):W X (.loop c) Q s:=by
 rw[Vf]
 have hm:∀s,(∃i,I i s)->I (Tn I s) s/\∀j,I j s->j<=Tn I s:=by
  intro s ⟨i,hi⟩
  have h:=RV (p:=fun i=>I i s) (fun i h=>hN i s h) (N - i) i (A6F _) hi
  unfold Tn
  rw[dif_pos h]
  exact h.choose_spec
 refine⟨fun s=>∃i,I i s,fun s=>N - Tn I s,h0,fun s hs=>?_⟩
 obtain⟨h1,h2⟩:=hm s hs
 refine dX hX ?_ (step _ s h1)
 intro e s' h
 cases e with
 | normal =>
  simp only[EH] at h ⊢
  obtain⟨h3,h4⟩:=hm s' ⟨_,h⟩
  have:=h4 _ h
  have:=hN _ _ h3
  exact⟨⟨_,h⟩,by omega⟩
 | exit i=>exact h
 | ret=>exact h
theorem AR(l:Fs):GA (XL l):=by
 intro f args H T Q Q' hQ h
 unfold XL at h ⊢
 split at h
 ·exact hQ _ _ _ h
 ·exact h.elim
def elems:D->List D
 | .sl _ xs=>xs
 | _=>[]
def M8:D->Bool
 | .nils=>true
 | .sl none _=>true
 | _=>false
mutual
def D.isV:D->Bool
 | .agg [.int .i64 _,.int .i64 _,.str s,.nils]=>decide (s.length<=2^47)
 | .agg [.int .i64 _,.int .i64 _,.str s,.sl none xs]=>decide (s.length<=2^47)&&decide (xs.length<=2^47)&&D.isVs xs
 | _=>false
def D.isVs:List D->Bool
 | []=>true
 | d::l=>d.isV&&D.isVs l
end
theorem eM:∀{l:List D},D.isVs l=true↔∀d∈l,d.isV=true
 | []=>by simp[D.isVs]
 | d::l=>by simp[D.isVs,eM (l:=l)]
def mkV(k i:Int)(s:List UInt8)(n:Bool)(l:List D):D:=.agg [.int .i64 k,.int .i64 i,.str s,aV n l]
theorem d9{d:D}(h:d.isV=true):∃k i s n l,d=mkV k i s n l/\s.length<=2^47/\l.length<=2^47/\∀x∈l,x.isV=true:=by
 unfold D.isV at h
 split at h
 ·exact⟨_,_,_,true,[],rfl,by simpa using h,by simp,by simp⟩
 ·simp only[A6C,decide_eq_true_eq] at h
  exact⟨_,_,_,false,_,rfl,h.1.1,h.1.2,eM.1 h.2⟩
 ·cases h
theorem OD{k i:Int}{s:List UInt8}{n:Bool}{l:List D}(h1:s.length<=2^47)(h2:l.length<=2^47)(h3:∀x∈l,x.isV=true):(mkV k i s n l).isV=true:=by
 unfold mkV
 rcases kM n l with⟨e,rfl⟩|e<;>rw[e]
 ·simp[D.isV,h1]
 ·simp[D.isV,h1,h2,eM.2 h3]
@[go_sem] theorem AU(n:Bool)(xs:List D):elems (aV n xs)=xs:=by
 rcases kM n xs with⟨h,rfl⟩|h<;>rw[h]<;>rfl
def vk:D->Int
 | .agg (.int _ k::_)=>k
 | _=>0
def vi:D->Int
 | .agg (_:: .int _ k::_)=>k
 | _=>0
def vs:D->List UInt8
 | .agg (_::_:: .str s::_)=>s
 | _=>[]
def vl:D->List D
 | .agg (_::_::_::l::_)=>elems l
 | _=>[]
@[go_sem] theorem CK(k i:Int)(s:List UInt8)(n:Bool)(l:List D):vk (mkV k i s n l)=k:=id rfl
@[go_sem] theorem Cl(k i:Int)(s:List UInt8)(n:Bool)(l:List D):vi (mkV k i s n l)=i:=id rfl
@[go_sem] theorem Cj(k i:Int)(s:List UInt8)(n:Bool)(l:List D):vs (mkV k i s n l)=s:=id rfl
@[go_sem] theorem C3(k i:Int)(s:List UInt8)(n:Bool)(l:List D):vl (mkV k i s n l)=l:=by simp only[vl,mkV,AU]
mutual
theorem Q9:∀{d:D},d.isV=true->d.erase=d
 | d,h=>by
  unfold D.isV at h
  split at h
  ·simp[D.erase,D.eraseL]
  ·rename_i s xs
   simp only[A6C,decide_eq_true_eq] at h
   simp[D.erase,D.eraseL,dT h.2]
  ·cases h
theorem dT:∀{l:List D},D.isVs l=true->D.eraseL l=l
 | [],_=>by simp[D.eraseL]
 | d::l,h=>by
  simp only[D.isVs,A6C] at h
  simp[D.eraseL,Q9 h.1,dT h.2]
end
end GP
namespace GP
open Go
variable {X:BF} {K:D->S->Prop}
def Ext(H B:Hp):Prop:=∃L,B=H++L
theorem Ext.refl(H:Hp):Ext H H:=⟨[],by simp⟩
theorem Ext.app{H B:Hp}(h:Ext H B)(X:Hp):Ext H (B++X):=by obtain⟨L,rfl⟩:=h;exact⟨L++X,by simp⟩
theorem Ext.trans{A B C:Hp}(h:Ext A B)(k:Ext B C):Ext A C:=by obtain⟨L,rfl⟩:=h;exact(Ext.refl A).app L |>.elim fun M e=>by obtain⟨N,rfl⟩:=k;exact⟨M++N,by rw[e];simp⟩
theorem Ext.of(H L:Hp):Ext H (H++L):=⟨L,rfl⟩
theorem Ext.pre{H L B:Hp}(h:Ext (H++L) B):Ext H B:=(Ext.of H L).trans h
theorem Ext.get{H B:Hp}(h:Ext H B){o:Nat}{x:Ob}(hg:H[o]? =some x):B[o]? =some x:=by
 obtain⟨L,rfl⟩:=h
 have:o<H.length:=by
  rcases A6E o H.length with h'|h'
  ·exact h'
  ·rw[A6A h'] at hg;cases hg
 rw[A6B this];exact hg
theorem Nu(H:Hp):Ext H H=True:=eq_true (Ext.refl H)
theorem Vq(H L:Hp):Ext H (H++L)=True:=eq_true (Ext.of H L)
theorem Ext.t{H B:Hp}(h:Ext H B):Ext H B=True:=eq_true h
theorem Ext.ta{H B:Hp}(h:Ext H B)(X:Hp):Ext H (B++X)=True:=eq_true (h.app X)
theorem AM{B:Hp}{o:Nat}{cs:List D}(h:B[o]? =some (.row cs))(off:Nat):Bx B (.ptr o off)=some (cs.drop off):=by simp[Bx,h]
theorem AO{B:Hp}{o:Nat}{cs:List D}(h:B[o]? =some (.row cs))(L:Hp)(off:Nat):Bx (B++L) (.ptr o off)=some (cs.drop off):=AM ((Ext.of B L).get h) off
theorem F0{B:Hp}{o:Nat}{cs:List D}(h:B[o]? =some (.row cs))(t:Nat->D)(T:Tk)(n off:Nat)(v:D):fF n K ⟨t,B,T⟩ (.ptr o off) v=(v.okc=true/\v.cells.length=n/\off+n<=cs.length/\K .top ⟨t,B.set o (.row (cs.take off++v.cells++cs.drop (off+n))),T⟩):=by simp[fF,h]
theorem LL{B:Hp}{o:Nat}{cs:List D}(h:B[o]? =some (.row cs))(L:Hp)(t:Nat->D)(T:Tk)(n off:Nat)(v:D):fF n K ⟨t,B++L,T⟩ (.ptr o off) v=(v.okc=true/\v.cells.length=n/\off+n<=cs.length/\K .top ⟨t,B.set o (.row (cs.take off++v.cells++cs.drop (off+n)))++L,T⟩):=by
 have hlt:o<B.length:=by
  rcases A6E o B.length with h'|h'
  ·exact h'
  ·rw[A6A h'] at h;cases h
 rw[F0 ((Ext.of B L).get h),List.set_append_left _ _ hlt]
def AY(T U:Tk):Prop:=∃L,U=T++L
theorem AY.refl(T:Tk):AY T T:=⟨[],by simp⟩
theorem AY.app{T U:Tk}(h:AY T U)(X:Tk):AY T (U++X):=by obtain⟨L,rfl⟩:=h;exact⟨L++X,by simp⟩
theorem AY.of(T L:Tk):AY T (T++L):=⟨L,rfl⟩
theorem QR(T:Tk):AY T T=True:=eq_true (AY.refl T)
theorem U8(T L:Tk):AY T (T++L)=True:=eq_true (AY.of T L)
theorem AY.t{T U:Tk}(h:AY T U):AY T U=True:=eq_true h
theorem AY.ta{T U:Tk}(h:AY T U)(X:Tk):AY T (U++X)=True:=eq_true (h.app X)
theorem Ad{r r0:D}{H B:Hp}{T U:Tk}(h:Ext H B)(k:AY T U):CL r0 H T r B U=(r.erase=r0):=by
 obtain⟨L,rfl⟩:=h;obtain⟨M,rfl⟩:=k;simp[CL]
theorem AS{r r0:D}{H B:Hp}{T U:Tk}(h:Ext H B)(k:AY T U)(L:Hp):CL r0 H T r (B++L) U=(r.erase=r0):=Ad (h.app L) k
end GP
namespace GP
open Go
abbrev FsH:=List (FuncId×(Hp->List D->Option D))
def CE:FsH->Hp->FuncId->List D->Option D
 | [],_,_,_=>none
 | (g,φ)::l,H,f,a=>if f=g then φ H a else CE l H f a
def B0(m:FsH):Prop:=∀H H' f a r,Hle H H'->CE m H f a=some r->CE m H' f a=some r
def XM(l:Fs)(m:FsH):BF:=fun f args H T Q=>match DQ l f (D.eraseL args) with
 | some r=>Q r H T
 | none=>match CE m H f (D.eraseL args) with
  | some r=>Q r H T
  | none=>False
variable {P:Program} [HasG P]
def IF(P:Program)[HasG P](f:FuncId)(φ:Hp->List D->Option D):Prop:=∀H args r,φ H args=some r->∀args',D.eraseL args'=args->∀T (Q:Bg),Q r H T->Snd P f args' H T Q
def OkH(P:Program)[HasG P](m:FsH):Prop:=∀H f args r,CE m H f args=some r->∀args',D.eraseL args'=args->∀T (Q:Bg),Q r H T->Snd P f args' H T Q
theorem OkH.nil:OkH P []:=fun _ _ _ _ h=>by simp[CE] at h
theorem OkH.cons{f:FuncId}{φ:Hp->List D->Option D}{m:FsH}(h:IF P f φ)(k:OkH P m):OkH P ((f,φ)::m):=by
 intro H g args r hr
 simp only[CE] at hr
 split at hr
 ·rename_i e;subst e;exact h H args r hr
 ·exact k H g args r hr
theorem B0.nil:B0 []:=fun _ _ _ _ _ _ h=>by simp[CE] at h
theorem B0.cons{f:FuncId}{φ:Hp->List D->Option D}{m:FsH}(h:∀H H' a r,Hle H H'->φ H a=some r->φ H' a=some r)(k:B0 m):B0 ((f,φ)::m):=by
 intro H H' g a r hl hr
 simp only[CE] at hr ⊢
 split at hr
 ·rename_i e;rw[if_pos e];exact h H H' a r hl hr
 ·rename_i e;rw[if_neg e];exact k H H' g a r hl hr
theorem XM.X{l:Fs}{m:FsH}(k:Ok P l)(k':OkH P m):∀f args H T Q Q',(∀r H T,Q r H T->Q' r H T)->XM l m f args H T Q->Snd P f args H T Q':=by
 intro f args H T Q Q' hQ h
 unfold XM at h
 split at h
 ·rename_i r hr
  exact k f _ r hr args rfl H T Q' (hQ _ _ _ h)
 ·split at h
  ·rename_i r hr
   exact k' H f _ r hr args rfl T Q' (hQ _ _ _ h)
  ·exact h.elim
def orK(K:D->S->Prop)(s:S):Option D->Option D->Prop
 | some r,_=>K r s
 | none,some r=>K r s
 | none,none=>False
theorem A8(K:D->S->Prop)(s:S)(r:D)(o:Option D):orK K s (some r) o=K r s:=id rfl
theorem zR(K:D->S->Prop)(s:S)(r:D):orK K s none (some r)=K r s:=id rfl
theorem VV{l:Fs}{m:FsH}(hm:B0 m)(args:List D)(K:D->S->Prop)(s:S)(f:FuncId)(first cap:List D):
  bW (XM l m) args K s (.fn f first cap)=orK K s (DQ l f (D.eraseL (first++args++cap))) (CE m s.H f (D.eraseL (first++args++cap))):=by
 simp only[bW,eq_iff_iff]
 constructor
 ·rintro⟨r,h1,h2⟩
  have:=h1 s.H s.T (fun r' _ _=>r'=r) (fun _ _ h _=>h) rfl
  unfold XM at this
  cases hr:DQ l f (D.eraseL (first++args++cap)) with
  | some r'=>rw[hr] at this;simp only at this;subst this;exact h2
  | none =>
   rw[hr] at this
   cases hr':CE m s.H f (D.eraseL (first++args++cap)) with
   | some r'=>rw[hr'] at this;simp only at this;subst this;exact h2
   | none=>rw[hr'] at this;exact this.elim
 ·intro h
  cases hr:DQ l f (D.eraseL (first++args++cap)) with
  | some r =>
   rw[hr] at h
   refine⟨r,fun H' T' Q' _ hQ=>?_,h⟩
   unfold XM
   rw[hr];exact hQ
  | none =>
   rw[hr] at h
   cases hr':CE m s.H f (D.eraseL (first++args++cap)) with
   | none=>rw[hr'] at h;exact h.elim
   | some r =>
    rw[hr'] at h
    refine⟨r,fun H' T' Q' hl hQ=>?_,h⟩
    unfold XM
    rw[hr]
    simp only
    rw[hm _ _ _ _ _ hl hr']
    exact hQ
theorem sZ(H:Hp)(f:FuncId)(a:List D):CE [] H f a=none:=id rfl
theorem oL(g:FuncId)(φ:Hp->List D->Option D)(l:FsH)(H:Hp)(f:FuncId)(a:List D):CE ((g,φ)::l) H f a=if f=g then φ H a else CE l H f a:=id rfl
end GP
namespace GP
open Go
open Rd O
set_option maxRecDepth 100000
variable {P:Program} [HasG P]
@[go_sem high] theorem A27(sz:Nat)(b:Bool)(xs:List D)(k:IntKind)(i:Nat):ia sz (aV b xs) (.int k (i:Int))=iaE sz xs[i]?:=by
 rw[Ld,if_pos (by omega)];simp
@[go_sem high] theorem Xp(sz:Nat)(t:Option Nat)(xs:List D)(k:IntKind)(i:Nat):ia sz (.sl t xs) (.int k (i:Int))=iaE sz xs[i]?:=by
 rw[A2l,if_pos (by omega)];simp
def G6(p:D->Prop)(d:D):Prop:=∃n l,d=aV n l/\l.length<=2^47/\∀x∈l,p x
theorem LV(p:D->Prop):G6 p .nils:=⟨true,[],rfl,by simp,by simp⟩
theorem bF{l:List D}(h:∀x∈l,x.erase=x):D.eraseL l=l:=by
 rw[iR]
 exact(List.map_congr_left h).trans (List.map_id'' (fun _=>rfl) l)
theorem OB{p:D->Prop}(hp:∀x,p x->x.erase=x){d:D}(h:G6 p d):d.erase=d:=by
 obtain⟨n,l,rfl,_,hx⟩:=h
 rw[Ag,bF fun x hl=>hp x (hx x hl)]
theorem Vy(a:Int):IntKind.i64.wrap a=if a%2^64 ≥ 2^63 then a%2^64 - 2^64 else a%2^64:=by simp[IntKind.wrap,IntKind.bits,IntKind.signed]
theorem Hu{a:Int}(h1: -(2^63)<=a)(h2:a<2^63):IntKind.i64.wrap a=a:=by rw[Vy];split<;>omega
theorem J5(n:Nat)(h:n<=2^62):IntKind.i64.wrap ((n:Int)+1)=((n+1:Nat):Int):=by
 rw[Hu (by omega) (by omega)];rfl
structure El(ag:Bool)(sz:Nat)(x:D):Prop where
 erase:x.erase=x
 len:x.cells.length=sz
 ld:ld ag sz (some x.cells)=some x
theorem El.agg{sz:Nat}{x:D}(h1:x.erase=x)(h2:x.cells.length=sz)(h3:D.agg x.cells=x):El true sz x :=
 ⟨h1,h2,by simp only[GP.ld,if_true];rw[if_pos (by omega),List.take_of_length_le (by omega),h3]⟩
def NO(p:D->Bool)(l:List D):Int:=match l.findIdx? p with
 | some i=>i
 | none=>-1
theorem Kv{p:D->Bool}:∀{l:List D} {i:Nat} {x:D},l[i]? =some x->p x=true->(∀(j:Nat) y,j<i->l[j]? =some y->p y=false)->l.findIdx? p=some i
 | a::l,0,x,h,hp,_=>by simp at h;subst h;simp[A6Q,hp]
 | a::l,i+1,x,h,hp,hn=>by
  have h0:=hn 0 a (by omega) rfl
  have:=Kv (l:=l) (i:=i) (x:=x) (by simpa using h) hp (fun j y hj hy=>hn (j+1) y (by omega) (by simpa using hy))
  simp[A6Q,h0,this]
theorem Ku{p:D->Bool}:∀{l:List D},(∀(j:Nat) y,l[j]? =some y->p y=false)->l.findIdx? p=none
 | [],_=>rfl
 | a::l,h=>by
  have h0:=h 0 a rfl
  have:=Ku (l:=l) (fun j y hy=>h (j+1) y (by simpa using hy))
  simp[A6Q,h0,this]
def cfC(g:FuncId):C :=
 (.seq (.reg [⟨(some 4),none,.mv (k (.bool false))⟩])
 (.seq (.reg [⟨(some 5),none,.mv (t 0)⟩,⟨(some 6),none,.mv (t 1)⟩,⟨(some 7),none,.pcall (k (.fn g [] [])) [(t 5),(t 6)]⟩,⟨(some 8),none,.bin .geq (t 7) (k (.int .i64 0))⟩,⟨(some 4),none,.mv (t 8)⟩])
 .ret))
theorem S9(p:D->Bool)(l:List D):decide ((0:Int)<=NO p l)=l.any p:=by
 unfold NO
 cases h:l.findIdx? p with
 | some i =>
  have:l.any p=true:=by
   rw[List.findIdx?_eq_some_iff_getElem] at h
   obtain⟨h1,h2,_⟩:=h
   exact List.any_eq_true.2 ⟨_,A6K h1,h2⟩
  rw[this];simp
 | none =>
  have:l.any p=false:=by
   rw[List.findIdx?_eq_none_iff] at h
   exact List.any_eq_false.2 fun x hx=>by simp[h x hx]
  rw[this];rfl
end GP
namespace GP
open Go
open Rd O
set_option maxRecDepth 100000
variable {P:Program} [HasG P]
mutual
theorem ST:∀{d:D},d.isV=true->d.cl 0 0=true
 | d,h=>by
  unfold D.isV at h
  split at h
  ·simp[D.cl,D.clL]
  ·simp only[A6C] at h
   simp[D.cl,D.clL,Oq h.2]
  ·cases h
theorem Oq:∀{l:List D},D.isVs l=true->D.clL 0 0 l=true
 | [],_=>by simp[D.clL]
 | d::l,h=>by
  simp only[D.isVs,A6C] at h
  simp[D.clL,ST h.1,Oq h.2]
end
def NM(x:D):Prop:=∃w,x= .str w/\w.length<=2^47
def EZ:D->List UInt8
 | .str w=>w
 | _=>[]
theorem ON{x:D}(h:NM x):x.erase=x:=by obtain⟨w,rfl,_⟩:=h;rfl
def Ut:C :=
 (.seq (.reg [⟨(some 4),none,.mv (k (.int .i64 0))⟩])
 (.seq (.seq (.reg [⟨(some 6),none,.mv (t 0)⟩,⟨(some 7),none,.len (t 6)⟩,⟨(some 8),none,.mv (k (.int .i64 0))⟩])
 (.block 0
 (.loop
 (.seq (.reg [⟨(some 9),none,.bin .lss (t 8) (t 7)⟩])
 (.seq (.cond (t 9)
 .skip
 (.exit 0))
 (.seq (.block 1
 (.seq (.reg [⟨(some 10),none,.mv (t 8)⟩,⟨(some 5),none,.mv (t 10)⟩])
 (.seq (.reg [⟨(some 11),none,.mv (t 1)⟩,⟨(some 12),none,.mv (t 0)⟩,⟨(some 13),none,.mv (t 5)⟩,⟨(some 14),none,.iaddr 1 (t 12) (t 13)⟩,⟨(some 15),none,.load false 1 (t 14)⟩,⟨(some 16),none,.bin .eql (t 11) (t 15)⟩])
 (.cond (t 16)
 (.seq (.reg [⟨(some 17),none,.mv (t 5)⟩,⟨(some 4),none,.mv (t 17)⟩])
 .ret)
 .skip))))
 (.reg [⟨(some 18),none,.bin .add (t 8) (k (.int .i64 1))⟩,⟨(some 8),none,.mv (t 18)⟩])))))))
 (.seq (.reg [⟨(some 4),none,.mv (k (.int .i64 (-1)))⟩])
 .ret)))
open Classical in
noncomputable def HC:List D->Option D
 | [l,.str w]=>if G6 NM l then some (.int .i64 (NO (fun x=>w==EZ x) (elems l))) else none
 | _=>none
theorem WT{N:FuncId}(hf:Fn P N 19 [.inl 4] Ut):AQ P N HC:=by
 refine AN (l:=[]) .nil hf fun args r h=>?_
 unfold HC at h
 split at h
 ·rename_i l w
  split at h
  ·rename_i hc
   obtain⟨n,xs,rfl,hl,hx⟩:=hc
   rw[AU] at h
   injection h with h;subst h
   refine⟨by simp,by simp[D.cl],fun H T=>?_⟩
   simp +contextual only[Ut,go_sem]
   refine Ap (fun i s=>s.t 0=aV n xs/\s.t 1= .str w/\s.t 6=aV n xs/\s.t 7= .int .i64 xs.length/\s.t 8= .int .i64 i/\s.H=H/\s.T=T/\i<=xs.length/\∀(j:Nat) x,j<i->xs[j]? =some x->(w==EZ x)=false) xs.length ⟨0,by simp[upd,Ae]⟩ (fun i s h=>h.2.2.2.2.2.2.2.1) ?_ (AR _)
   rintro i ⟨t,H',T'⟩ ⟨h0,h1,h6,h7,h8,rfl,rfl,hi,hc⟩
   simp only at h0 h1 h6 h7 h8
   by_cases ha:i<xs.length
   ·have d1:decide ((i:Int)<xs.length)=true:=by simpa using ha
    have e:xs[i]? =some xs[i]:=by simp[ha]
    obtain⟨v,hv,_⟩:=hx _ (A6K ha)
    generalize xs[i]=x at *
    subst hv
    have nx:(w==v)=false->∀(j:Nat) x,j<i+1->xs[j]? =some x->(w==EZ x)=false:=fun hb j y hj hy=>by
     by_cases hji:j=i
     ·subst hji;rw[e] at hy;injection hy with hy;subst hy;exact hb
     ·exact hc j y (by omega) hy
    have hI:(w==v)=true->NO (fun x=>w==EZ x) xs=i:=fun hb=>by
     unfold NO
     rw[Kv e hb hc]
    cases hb:(w==v) with
    | true =>
     have hI:=hI hb
     simp +contextual only[h0,h1,h6,h7,h8,d1,e,hb,hI,J5 i (by omega),go_sem]
    | false =>
     have nx:=nx hb
     simp +contextual only[h0,h1,h6,h7,h8,d1,e,hb,J5 i (by omega),go_sem]
     exact⟨by omega,nx⟩
   ·have d1:decide ((i:Int)<xs.length)=false:=by simpa using ha
    have hI:NO (fun x=>w==EZ x) xs= -1:=by
     unfold NO
     rw[Ku (fun j y hy=>hc j y (by
      rcases A6E j i with h'|h'
      ·exact h'
      ·rw[A6A (by omega)] at hy;cases hy) hy)]
    simp +contextual only[h0,h1,h6,h7,h8,d1,hI,go_sem]
  ·cases h
 ·cases h
open Classical in
noncomputable def CR:List D->Option D
 | [l,.str w]=>if G6 NM l then some (.bool ((elems l).any (fun x=>w==EZ x))) else none
 | _=>none
theorem TR{N M:FuncId}(hf:Fn P N 9 [.inl 4] (cfC M))(hi:AQ P M HC):AQ P N CR:=by
 refine AN (l:=[(M,HC)]) (.cons hi .nil) hf fun args r h=>?_
 unfold CR at h
 split at h
 ·rename_i l w
  split at h
  ·rename_i hc
   have p:HC [l,.str w]=some (.int .i64 (NO (fun x=>w==EZ x) (elems l))):=by
    simp only[HC];rw[if_pos hc]
   have a:=S9 (fun x=>w==EZ x) (elems l)
   have el:=OB (fun _=>ON) hc
   injection h with h;subst h
   refine⟨by simp,by simp[D.cl],fun H T=>?_⟩
   simp +contextual only[cfC,el,p,a,go_sem]
  ·cases h
 ·cases h
theorem IF.low{f:FuncId}{φ:List D->Option D}(h:IF P f (fun _=>φ)):AQ P f φ:=fun args r hr args' he H T Q hQ=>h H args r hr args' he T Q hQ
end GP
namespace GP
open Go
variable {X:BF} {c a b:C} {Q:Ex->S->Prop} {s:S}
def unr(X:BF)(c:C)(Q:Ex->S->Prop):Nat->S->Prop
 | 0,_=>False
 | n+1,s=>W X c (EH (unr X c Q n) Q) s
theorem V4(N:Nat)(h:unr X c Q N s)(hX:GA X):W X (.loop c) Q s:=by
 refine Ap (fun i s=>i<=N/\unr X c Q (N - i) s) N ⟨0,A6I _,h⟩ (fun i s h=>h.1) (fun i s h=>?_) hX
 obtain⟨h1,h2⟩:=h
 cases hk:N - i with
 | zero=>rw[hk] at h2;exact h2.elim
 | succ m =>
  rw[hk] at h2
  refine dX hX ?_ h2
  intro e s' h
  cases e with
  | normal =>
   have:N - (i+1)=m:=by omega
   exact⟨by omega,by rw[this];exact h⟩
  | exit i=>exact h
  | ret=>exact h
theorem VG(n:Nat):unr X c Q (n+1) s=W X c (EH (unr X c Q n) Q) s:=id rfl
end GP
namespace GP
def imp:List Nat:=[49,50,69,70,71,72,73,82,103,104,105,118,119,120,121,122,123,170,202,217,228,236,238,239,240,241,245,247,248,249,1000000]
end GP
namespace GP
open Go
@[reducible] def Hq0:Hn:=⟨fun f=>imp.contains f,false,fun _=>false,false⟩
@[reducible] def Hq1:Hn:=⟨fun f=>imp.contains f,true,fun _=>false,false⟩
@[reducible] def Hq2:Hn:=⟨fun f=>imp.contains f,false,fun f=>([24,58,61]:List Nat).contains f,true⟩
@[reducible] def Hq3:Hn:=⟨fun f=>imp.contains f,false,fun _=>false,true⟩
theorem AP{P : Program}{f n : Nat}{rs : List (Sum Nat (Nat × Bool × Nat))}{c : C}{F : Func}{code : Code}(h1 : P.funcs[f]? = some F)(h4 : F.ntmps = n)(i : Hn)(h2 : F.body = some code := by exact rfl)(h3 : (F.name == "runtime.NumGoroutine") = false := by kernel_rfl)(h5 : Mr P F.results.toList = some rs := by kernel_rfl)(h6 : DN P i n code = some c := by kernel_rfl): Fn P f n rs c := ⟨⟨F, code, h1, h2, h3, h4, h5, i, h6⟩⟩
end GP
namespace GP
open Go Go.Proofs
open Rd O
set_option maxRecDepth 100000
def c32:C :=
 (Rg (Rq 2 [Qo 0,Qo 1,Qq] [])
 (.seq (Rg (Rq 12 [Qc 1 2,Qd 12,Qc 1 3,Qd 14,Qb .neq 13 15,Qa 16] (Rz 18 17 [Qc 0 2,Qd 18,Qi 19,Qc 0 3,Qd 21,Qi 22,Qb .neq 20 23] (Rq 25 [Ql 17 24,Qa 25] (Rz 27 26 [Qc 2 2,Qd 27,Qi 28,Qc 2 3,Qd 30,Qi 31,Qb .neq 29 32] (Rq 34 [Ql 26 33] [])))))
 (.cond (t 34)
 (Rg (Rq 4 [Qq] [])
 .ret)
 .skip))
 (.seq (Rg (Rq 5 [Qk 0] [])
 (.block 0
 (.loop
 (.seq (Rg (Rq 35 [Qa 5,Qc 0 2,Qd 36,Qi 37,Qb .lss 35 38] [])
 (.cond (t 39)
 .skip
 (.exit 0)))
 (.seq (.block 1
 (.seq (.draw 0 [(If 42 0 2,[]),(Il 43 42,[]),(Im 44 5,[]),(I1 45 (.iaddr 4 (t 43) (t 44)),[]),(Ia 46 4 45,[]),(If 47 0 3,[]),(Il 48 47,[]),(Im 49 5,[]),(I1 50 (.iaddr 4 (t 48) (t 49)),[]),(Ia 51 4 50,[]),(I1 52 (.eqa [.str,.str,.int,.bool] true (t 46) (t 51)),[])])
 (.cond (t 52)
 (Rg (Rq 4 [Qq] [])
 .ret)
 .skip)))
 (.reg (Rq 40 [Qa 5,Qj .add 40 1] [Im 5 41])))))))
 (.seq (Rg (Rq 6 [Qk 0] [])
 (.block 2
 (.loop
 (.seq (Rg (Rq 53 [Qa 6,Qc 2 2,Qd 54,Qi 55,Qb .lss 53 56] [])
 (.cond (t 57)
 .skip
 (.exit 2)))
 (.seq (.block 3
 (.seq (.draw 2 [(If 60 2 2,[]),(Il 61 60,[]),(Im 62 6,[]),(I1 63 (.iaddr 13 (t 61) (t 62)),[]),(Ia 64 13 63,[]),(If 65 2 3,[]),(Il 66 65,[]),(Im 67 6,[]),(I1 68 (.iaddr 13 (t 66) (t 67)),[]),(Ia 69 13 68,[]),(I1 7 (.rawAt 2 [(.str []),(.str []),(.str []),(.bool false),(.str []),(.int .i64 0),(.int .i64 0),(.str []),.nils,(.str []),(.str []),.nils,.nils]),[]),(I1 8 (.rawAt 1 [(.str []),(.str []),(.str []),(.bool false),(.str []),(.int .i64 0),(.int .i64 0),(.str []),.nils,(.str []),(.str []),.nils,.nils]),[]),(I4 (.fillAt 2 13 (t 7) (t 64)),[]),(I4 (.fillAt 1 13 (t 8) (t 69)),[])])
 (.seq (Rg (Rq 70 [Qc 0 7,Qd 70,Qc 0 8,Qd 72,Qb .neq 71 73,Qa 74] (Rz 76 75 [Qc 1 7,Qd 76,Qc 1 8,Qd 78,Qb .neq 77 79] (Rq 81 [Ql 75 80,Qa 81] (Rz 83 82 [Qc 2 7,Qd 83,Qc 2 8,Qd 85,Qb .neq 84 86] (Rq 88 [Ql 82 87,Qa 88] (Rz 90 89 [Qc 3 7,Qd 90,Qc 3 8,Qd 92,.eq1 .bool true (t 91) (t 93)] (Rq 95 [Ql 89 94,Qa 95] (Rz 97 96 [Qc 4 7,Qe 8 97,Qc 4 8,Qe 8 99,Qg 20 [t 98,t 100],Qp 101] (Rq 103 [Ql 96 102,Qa 103] (Rz 105 104 [Qc 12 7,Qd 105,Qi 106,Qc 12 8,Qd 108,Qi 109,Qb .neq 107 110] (Rq 112 [Ql 104 111] [])))))))))))
 (.cond (t 112)
 (Rg (Rq 4 [Qq] [])
 .ret)
 .skip))
 (Rg (Rq 9 [Qk 0] [])
 (.block 4
 (.loop
 (.seq (Rg (Rq 113 [Qa 9,Qc 12 7,Qd 114,Qi 115,Qb .lss 113 116] [])
 (.cond (t 117)
 .skip
 (.exit 4)))
 (.seq (.block 5
 (.seq (.draw 2 [(If 120 12 7,[]),(Il 121 120,[]),(Im 122 9,[]),(I1 123 (.iaddr 13 (t 121) (t 122)),[]),(Ia 124 13 123,[]),(If 125 12 8,[]),(Il 126 125,[]),(Im 127 9,[]),(I1 128 (.iaddr 13 (t 126) (t 127)),[]),(Ia 129 13 128,[]),(I1 10 (.rawAt 2 [(.bool false),(.str []),(.bool false),(.str []),(.int .i64 0),(.int .i64 0),(.str []),.nils,(.str []),(.str []),.nils,.nils,.nils]),[]),(I1 11 (.rawAt 1 [(.bool false),(.str []),(.bool false),(.str []),(.int .i64 0),(.int .i64 0),(.str []),.nils,(.str []),(.str []),.nils,.nils,.nils]),[]),(I4 (.fillAt 2 13 (t 10) (t 124)),[]),(I4 (.fillAt 1 13 (t 11) (t 129)),[])])
 (Rg (Rq 130 [Qc 0 10,Qd 130,Qc 0 11,Qd 132,.eq1 .bool true (t 131) (t 133),Qa 134] (Rz 136 135 [Qc 1 10,Qd 136,Qc 1 11,Qd 138,Qb .neq 137 139] (Rq 141 [Ql 135 140,Qa 141] (Rz 143 142 [Qc 2 10,Qd 143,Qc 2 11,Qd 145,.eq1 .bool true (t 144) (t 146)] (Rq 148 [Ql 142 147,Qa 148] (Rz 150 149 [Qc 3 10,Qe 8 150,Qc 3 11,Qe 8 152,Qg 20 [t 151,t 153],Qp 154] (Rq 156 [Ql 149 155,Qa 156] (Rz 158 157 [Qc 11 10,Qd 158,Qc 11 11,Qd 160,Qg 74 [t 159,t 161],Qp 162] (Rq 164 [Ql 157 163,Qa 164] (Rz 166 165 [Qc 12 10,Qd 166,Qc 12 11,Qd 168,Qg 74 [t 167,t 169],Qp 170] (Rq 172 [Ql 165 171] [])))))))))))
 (.cond (t 172)
 (Rg (Rq 4 [Qq] [])
 .ret)
 .skip))))
 (.reg (Rq 118 [Qa 9,Qj .add 118 1] [Im 9 119]))))))))))
 (.reg (Rq 58 [Qa 6,Qj .add 58 1] [Im 6 59])))))))
 (Rg (Rq 4 [Qr] [])
 .ret)))))
theorem A4N:Fn Tryz.prog 32 173 [.inl 4] c32:=AP Tryz.func32 Tryz.ntmps32 Hq0
def c39:C :=
 (Rg (Rq 2 [Qo 0] (Rq 4 [Qk 0] []))
 (Rg (Rq 5 [Qk 1] [])
 (.seq (Rg (Rq 6 [Qk 0] [])
 (.block 0
 (.loop
 (.seq (Rg (Rq 7 [Qa 6,Qc 7 2,Qd 8,Qi 9,Qb .lss 7 10,Qa 11] (Rv 13 12 [Qa 5,Qa 1,Qb .leq 13 14] (Rq 16 [Qm 12 15] [])))
 (.cond (t 16)
 .skip
 (.exit 0)))
 (.seq (.block 1
 (.reg (Rq 19 [Qa 5,Qc 7 2,Qd 20,Qa 6,Qn 8 21 22,Qe 8 23,Qa 1,Qa 5,Qb .sub 25 26,Qg 39 [t 24,t 27],Qb .add 19 28] [Im 5 29])))
 (.reg (Rq 17 [Qa 6,Qj .add 17 1] [Im 6 18])))))))
 (Rg ([Im 30 5,Im 4 30])
 .ret))))
theorem A3R:Fn Tryz.prog 39 31 [.inl 4] c39:=AP Tryz.func39 Tryz.ntmps39 Hq0
def c43:C :=
 (Rg (Rq 0 [Qq] [])
 (Rg (Rq 4 [.build [(.str []),(.int .i64 0),(.int .i64 0),(.str []),.nils,(.str []),(.str []),.nils] [(0,1,(Ks ([110,111,119])))],Qg 97 [KN,t 4]] [Im 3 5,Ie 6 0 3,Ie 7 1 3,Im 1 6,Im 2 7])
 (Rg (Rq 8 [Qa 2,Qj .eql 8 0,Qa 9] (Rv 11 10 [Qa 1,Qj .eql 11 4] (Rq 13 [Qm 10 12,Qa 13] (Rv 15 14 [Qg 98 [],Qi 15,Qj .eql 16 6] (Rq 18 [Qm 14 17] [Im 0 18])))))
 .ret)))
theorem A3t:Fn Tryz.prog 43 19 [.inl 0] c43:=AP Tryz.func43 Tryz.ntmps43 Hq0
def c73:C :=
 (Rg ([I1 2 (.alloc [(.str []),(.str []),(.str []),(.bool false),(.str []),(.int .i64 0),(.int .i64 0),(.str []),.nils,(.str []),(.str []),.nils,.nils])])
 (Rg ([Im 4 0,In 5 4,If 6 0 5,Ic 7 121 [(t 6)],I1 8 (.build [(.str []),(.str []),(.str []),(.bool false),(.str []),(.int .i64 0),(.int .i64 0),(.str []),.nils,(.str []),(.str []),.nils,.nils] [(0,1,(t 7))]),I1 3 (.alloc [(.str []),(.str []),(.str []),(.bool false),(.str []),(.int .i64 0),(.int .i64 0),(.str []),.nils,(.str []),(.str []),.nils,.nils]),Is 13 3 8])
 (Rg ([Im 9 0,In 10 9,If 11 0 10,Ic 12 71 [(t 11),(Ks ([98,121]))]])
 (Rg ([Im 13 0,In 14 13,If 15 0 14,Ic 16 121 [(t 15)],If 17 1 3,Is 1 17 16])
 (Rg ([Im 18 0,In 19 18,If 20 0 19,Ic 21 71 [(t 20),(Ks ([117,115,101]))]])
 (Rg ([Im 22 0,Ic 23 72 [(t 22)],If 24 2 3,Is 1 24 23])
 (Rg ([Im 25 0,In 26 25,If 27 0 26,Ic 28 71 [(t 27),(Ks ([123]))]])
 (.seq (Rg ([Im 29 0,In 30 29,If 31 0 30,Ic 32 69 [(t 31),(Ks ([102,111,114]))],If 33 3 3,Is 1 33 32])
 (Rg ([If 34 3 3,Il 35 34])
 (.cond (t 35)
 (Rg ([Im 36 0,Ic 37 122 [(t 36)],If 38 4 3,Is 8 38 37])
 (.reg [Im 39 0,In 40 39,If 41 0 40,Ic 42 71 [(t 41),(Ks ([59]))]]))
 .skip)))
 (.seq (.block 0
 (.loop
 (.seq (Rg (Rq 43 [Qa 0,.nilc (t 43),Qc 0 44,Qc 2 45,Qd 46,Qj .eql 47 0,Qa 48] (Rv 50 49 [Qa 0,.nilc (t 50),Qc 0 51,Qf 69 [t 52,(Ks ([125]))],Qp 53] (Rq 55 [Qm 49 54] [])))
 (.cond (t 55)
 .skip
 (.exit 0)))
 (.block 1
 (.draw 0 [(If 56 12 3,[]),(Il 57 56,[]),(Im 58 0,[]),(Ic 59 123 [(t 58)],[Il 57 56]),(I1 60 (.bslq 13 [(t 59)]),[]),(I1 61 (.app false 13 208 (t 57) (t 60)),[]),(If 62 12 3,[]),(Is 1 62 61,[])])))))
 (Rg ([Ia 63 13 3,Is 13 2 63])
 .ret))))))))))
theorem A5O:Fn Tryz.prog 73 64 [.inr (2,true,13)] c73:=AP Tryz.func73 Tryz.ntmps73 Hq0
def NU:C :=
 (Rg (Rq 2 [Qo 0] (Rq 4 [Qq] []))
 (.seq (Rg (Rq 5 [Qc 0 2,Qd 5,Qj .eql 6 2] [])
 (.cond (t 7)
 (Rg (Rq 8 [Qc 1 2,Qd 8,Qj .geq 9 0,Qa 10] (Rz 12 11 [Qa 1,Qa 12] (Rv 14 13 [Qc 1 2,Qd 14,.bin .gtr (t 15) (k (.int .i64 (-9223372036854775808)))] (Rz 17 11 [Qm 13 16] (Rq 18 [Ql 11 17] [Im 4 18])))))
 .ret)
 .skip))
 (Rg (Rq 19 [Qc 0 2,Qd 19,Qj .eql 20 1,Qa 21] (Rz 23 22 [Qc 0 2,Qd 23,Qj .eql 24 4] (Rq 26 [Ql 22 25,Qa 26] (Rz 28 27 [Qc 0 2,Qd 28,Qj .eql 29 3,Qa 30] (Rv 32 31 [Qc 2 2,Qd 32,.build [(.int .i64 0),(.str []),(.int .i64 0)] [(0,1,(Ki 3)),(1,1,(t 33))],Qg 57 [t 34]] (Rz 36 27 [Qm 31 35] (Rq 37 [Ql 27 36] [Im 4 37])))))))
 .ret)))
theorem A0K:Fn Tryz.prog 108 38 [.inl 4] NU:=AP Tryz.func108 Tryz.ntmps108 Hq0
def A1k:C :=
 (Rg (Rq 4 [Qk 0] [])
 (Rg ([Im 5 0,Im 6 1,Ip 7 176 [(t 5),(t 6)],Im 4 7])
 .ret))
theorem A0w:Fn Tryz.prog 115 8 [.inl 4] A1k:=AP Tryz.func115 Tryz.ntmps115 Hq0
def A1w:C :=
 (Rg ([I1 4 (.mv (Ks ([])))])
 (.seq (Rg (Rq 7 [Qa 1,Qi 7,Qk 0] [])
 (.block 0
 (.loop
 (Rg (Rq 10 [Qb .lss 9 8] [])
 (.seq (.cond (t 10)
 .skip
 (.exit 0))
 (.seq (.block 1
 (Rg (Rq 11 [Qn 1 7 9,Qd 11] [Im 6 12])
 (Rg (Rq 13 [Qa 0,Qa 6,Qf 69 [t 13,t 14]] [])
 (.cond (t 15)
 (Rg ([Im 16 6,Im 4 16])
 .ret)
 .skip))))
 (.reg (Rq 17 [Qj .add 9 1] [Im 9 17]))))))))
 (Rg (Rq 18 [Qa 0,Qa 0,.nilc (t 19),Qc 1 20,Qd 21,Qf 105 [t 18,t 22,(Ki 2)]] [])
 (Rg ([I1 4 (.mv (Ks ([])))])
 .ret))))
theorem XC:Fn Tryz.prog 119 24 [.inl 4] A1w:=AP Tryz.func119 Tryz.ntmps119 Hq0
def A0k:C :=
 (Rg (Rq 4 [Qo 1,Qo 2,.alloc [(.str []),(.int .i64 0),(.int .i64 0),(.str []),.nils,(.str []),(.str []),.nils]] [])
 (Rg (Rq 7 [Qa 0,Qe 8 4,Qe 8 5,.bsl 8 [t 8,t 9],.build [(.str []),(.int .i64 0),(.int .i64 0),(.str []),.nils,(.str []),(.str []),.nils] [(0,1,(t 7)),(7,1,(t 10))]] [Is 8 6 11])
 .ret))
theorem YS:Fn Tryz.prog 169 12 [.inr (6,true,8)] A0k:=AP Tryz.func169 Tryz.ntmps169 Hq0
def Rs:C :=
 (Rg ([I1 2 (.alloc [(.int .i64 0),(.str []),(.int .i64 0)])])
 (.seq (.seq (.draw 0 [(Im 3 0,[]),(In 4 3,[]),(If 5 2 4,[]),(Il 6 5,[]),(I1 7 (.bin .neq (t 6) (Ki 0)),[]),(Im 8 7,[]),(Jm 9 8 false 0,[]),(I3 10 8 (.nilc (t 9)),[]),(Jf 11 8 false 1 10,[]),(Jl 12 8 false 11,[]),(Jm 13 8 false 0,[]),(I3 14 8 (.nilc (t 13)),[]),(Jf 15 8 false 0 14,[]),(Jl 16 8 false 15,[]),(I3 17 8 (.len (t 16)),[]),(I3 18 8 (.bin .geq (t 12) (t 17)),[]),(I1 19 (.pick (t 8) KT (t 18)),[]),(Im 20 19,[]),(Jm 21 20 false 0,[]),(I3 22 20 (.nilc (t 21)),[]),(Jf 23 20 false 0 22,[]),(Jl 24 20 false 23,[]),(Jm 25 20 false 0,[]),(I3 26 20 (.nilc (t 25)),[]),(Jf 27 20 false 1 26,[]),(Jl 28 20 false 27,[]),(I3 29 20 (.iaddr 3 (t 24) (t 28)),[]),(I3 30 20 (.load true 3 (t 29)),[]),(I3 31 20 (.pcall (Kf 166) [(t 30)]),[]),(I3 32 20 (.un .not (t 31)),[]),(I1 33 (.pick (t 20) KT (t 32)),[])])
 (.cond (t 33)
 (Rg ([I1 34 (.build [(.int .i64 0),(.str []),(.int .i64 0)] []),Is 3 2 34])
 .ret)
 .skip))
 (.seq (.draw 0 [(Im 35 0,[]),(In 36 35,[]),(If 37 0 36,[]),(Il 38 37,[]),(Im 39 0,[]),(In 40 39,[]),(If 41 1 40,[]),(Il 42 41,[]),(I1 43 (.iaddr 3 (t 38) (t 42)),[]),(Ia 44 3 43,[]),(Is 3 2 44,[])])
 .ret)))
theorem Zi:Fn Tryz.prog 177 45 [.inr (2,true,3)] Rs:=AP Tryz.func177 Tryz.ntmps177 Hq0
def Xw:C :=
 (Rg (Rq 6 [Qk 0] [])
 (.seq (Rg (Rq 9 [Qa 0,Qi 9,Qk 0] [])
 (.block 0
 (.loop
 (Rg (Rq 12 [Qb .lss 11 10] [])
 (.seq (.cond (t 12)
 .skip
 (.exit 0))
 (.seq (.block 1
 (Rg (Rq 13 [Qn 4 9 11,Qe 4 13] [I1 8 (.alloc [(.str []),(.str []),(.int .i64 0),(.bool false)]),Is 4 8 14])
 (Rg (Rq 15 [Qc 0 8,Qd 15,Qa 1,Qb .eql 16 17,Qa 18] (Rv 20 19 [Qc 1 8,Qd 20,Qa 2,Qb .eql 21 22] (Rq 24 [Qm 19 23] [])))
 (.cond (t 24)
 (.seq (Rg ([If 25 3 8,Il 26 25])
 (.cond (t 26)
 (Rg (Rq 27 [Qc 2 8,Qd 27,.bin .add (Ki 10) (t 28)] [Im 6 29])
 .ret)
 .skip))
 (Rg ([If 30 2 8,Il 31 30,Im 6 31])
 .ret))
 .skip))))
 (.reg (Rq 32 [Qj .add 11 1] [Im 11 32]))))))))
 (Rg (Rq 6 [Qk 0] [])
 .ret)))
theorem A0d:Fn Tryz.prog 197 33 [.inl 6] Xw:=AP Tryz.func197 Tryz.ntmps197 Hq0
def Ym:C :=
 (Rg (Rq 2 [Qq] [])
 (Rg (Rq 3 [Qa 0,.bin .geq (t 3) (k (.int .u8 32)),Qa 4] (Rv 6 5 [Qa 0,.bin .leq (t 6) (k (.int .u8 126))] (Rq 8 [Qm 5 7] [Im 2 8])))
 .ret))
theorem A0X:Fn Tryz.prog 200 9 [.inl 2] Ym:=AP Tryz.func200 Tryz.ntmps200 Hq0
def XV:C :=
 (Rg ([I1 2 (.alloc [(.str []),(.int .i64 0),(.int .i64 0),(.str []),.nils,(.str []),(.str []),.nils])])
 (Rg (Rq 3 [Qa 0,Qa 0,.mkfn 236 [t 4] [],.bsl 1 [(Ks ([42]))],Qf 103 [t 3,t 5,t 6]] [Is 8 2 7])
 .ret))
theorem Zy:Fn Tryz.prog 228 8 [.inr (2,true,8)] XV:=AP Tryz.func228 Tryz.ntmps228 Hq0
def XF:C :=
 (Rg ([I1 2 (.alloc [(.str []),(.int .i64 0),(.int .i64 0),(.str []),.nils,(.str []),(.str []),.nils])])
 (Rg ([Im 4 0,Ic 5 71 [(t 4),(Ks ([40]))]])
 (Rg ([Im 6 0,Ic 7 49 [(t 6)],I1 3 (.alloc [(.str []),(.int .i64 0),(.int .i64 0),(.str []),.nils,(.str []),(.str []),.nils]),Is 8 3 7])
 (Rg ([Im 8 0,Ic 9 71 [(t 8),(Ks ([41]))]])
 (Rg ([Ia 10 8 3,Is 8 2 10])
 .ret)))))
theorem A2p:Fn Tryz.prog 240 11 [.inr (2,true,8)] XF:=AP Tryz.func240 Tryz.ntmps240 Hq0
def A1v:C :=
 (Rg ([I1 4 (.alloc [(.str []),(.int .i64 0),(.int .i64 0),(.str []),.nils,(.str []),(.str []),.nils])])
 (Rg (Rq 8 [Qa 0,Qf 245 [t 8],.bsl 4 [t 9]] [Im 5 10])
 (.seq (.block 0
 (.loop
 (.seq (Rg ([Im 11 0,Ic 12 69 [(t 11),(Ks ([44]))]])
 (.cond (t 12)
 .skip
 (.exit 0)))
 (.block 1
 (.reg (Rq 13 [Qa 5,Qa 0,Qf 245 [t 14],.bsl 4 [t 15],.app false 4 56 (t 13) (t 16)] [Im 5 17]))))))
 (Rg ([Im 18 0,Ic 19 71 [(t 18),(Ks ([93]))]])
 (.seq (Rg (Rq 20 [Qa 0,.nilc (t 20),Qc 2 21,Qd 22,Qj .neq 23 0] [])
 (.cond (t 24)
 (Rg ([I1 25 (.build [(.str []),(.int .i64 0),(.int .i64 0),(.str []),.nils,(.str []),(.str []),.nils] []),Is 8 4 25])
 .ret)
 .skip))
 (Rg ([Im 27 5,Ip 28 246 [(t 27)],Im 26 28,Ie 29 0 26,Ie 30 1 26,I1 6 (.alloc [(.int .i64 0),(.int .i64 0),(.str []),.nils]),Is 4 6 29,Im 7 30])
 (.seq (Rg (Rq 31 [Qa 7,Qj .neq 31 0] [])
 (.cond (t 32)
 (.reg (Rq 33 [Qa 0,Qa 1,Qf 105 [t 33,t 34,(Ki 2)]] []))
 .skip))
 (Rg ([Ia 36 4 6,I1 37 (.build [(.str []),(.int .i64 0),(.int .i64 0),(.str []),.nils,(.str []),(.str []),.nils] [(0,1,(Ks ([118,97,108,117,101]))),(1,4,(t 36))]),Is 8 4 37])
 .ret))))))))
theorem ZA:Fn Tryz.prog 241 38 [.inr (4,true,8)] A1v:=AP Tryz.func241 Tryz.ntmps241 Hq0
def A0j:C :=
 (Rg ([I1 2 (.alloc [(.int .i64 0),(.int .i64 0),(.str []),.nils])])
 (Rg (Rq 3 [Qa 0,Qa 0,Qs 4,.mn (t 5) (Ki 64),.subs (t 3) none (some (t 6)),.build [(.int .i64 0),(.int .i64 0),(.str []),.nils] [(0,1,(Ki 3)),(2,1,(t 7))]] [Is 4 2 8])
 .ret))
theorem A1M:Fn Tryz.prog 243 9 [.inr (2,true,4)] A0j:=AP Tryz.func243 Tryz.ntmps243 Hq0
def UR:C :=
 (Rg ([I1 4 (.mv KN)])
 (.seq (Rg (Rq 8 [Qa 0,Qi 8,Qj .lss 9 2] [])
 (.cond (t 10)
 (Rg ([Im 11 0,Im 4 11])
 .ret)
 .skip))
 (.seq (Rg (Rq 5 [Qk 1] [])
 (.block 0
 (.loop
 (.seq (Rg (Rq 12 [Qa 5,Qa 0,Qi 13,Qb .lss 12 14] [])
 (.cond (t 15)
 .skip
 (.exit 0)))
 (.seq (.block 1
 (.seq (.draw 0 [(Im 18 1,[]),(Im 19 0,[]),(Im 20 5,[]),(I1 21 (.iaddr 4 (t 19) (t 20)),[]),(Ia 22 4 21,[]),(Im 23 0,[]),(Im 24 5,[]),(I1 25 (.bin .sub (t 24) (Ki 1)),[]),(I1 26 (.iaddr 4 (t 23) (t 25)),[]),(Ia 27 4 26,[]),(I1 28 (.call (t 18) [(t 22),(t 27)]),[])])
 (.cond (t 28)
 (Rg (Rq 29 [Qa 0,Qa 5,.sls 4 (t 29) (some (t 30)) none] [Im 6 31])
 (.seq (Rg (Rq 7 [Qk 1] [])
 (.block 2
 (.loop
 (.seq (Rg (Rq 32 [Qa 7,Qa 6,Qi 33,Qb .lss 32 34] [])
 (.cond (t 35)
 .skip
 (.exit 2)))
 (.seq (.block 3
 (.seq (.draw 0 [(Im 38 1,[]),(Im 39 6,[]),(Im 40 7,[]),(I1 41 (.iaddr 4 (t 39) (t 40)),[]),(Ia 42 4 41,[]),(Im 43 6,[]),(Im 44 7,[]),(I1 45 (.bin .sub (t 44) (Ki 1)),[]),(I1 46 (.iaddr 4 (t 43) (t 45)),[]),(Ia 47 4 46,[]),(I1 48 (.call (t 38) [(t 42),(t 47)]),[]),(I1 49 (.un .not (t 48)),[])])
 (.cond (t 49)
 (Rg (Rq 50 [Qa 0,Qa 5,Qa 6,Qa 7,Qn 4 52 53,Qe 4 54,Qn 4 50 51] [Is 4 56 55])
 (.reg (Rq 57 [Qa 5,Qj .add 57 1] [Im 5 58])))
 .skip)))
 (.reg (Rq 36 [Qa 7,Qj .add 36 1] [Im 7 37])))))))
 (Rg (Rq 59 [Qa 0,Qa 5,.sls 4 (t 59) (some (t 60)) none] [I4 (.clr [(.int .i64 0),(.int .i64 0),(.str []),.nils] (t 61))])
 (Rg (Rq 62 [Qa 0,Qa 5,.sls 4 (t 62) none (some (t 63))] [Im 4 64])
 .ret))))
 .skip)))
 (.reg (Rq 16 [Qa 5,Qj .add 16 1] [Im 5 17])))))))
 (Rg ([Im 65 0,Im 4 65])
 .ret))))
theorem V7:Fn Tryz.prog 249 66 [.inl 4] UR:=AP Tryz.func249 Tryz.ntmps249 Hq1
end GP
namespace GP
open Go
inductive Frz:D->Hp->D->Hp->Prop where
 | refl (r:D) (H:Hp):Frz r H r H
 | step {r r2:D} {H H2:Hp} (o:Nat) (cs:List D):H[o]? =some (.row cs)->Frz (r.fz o cs) (H.set o .dead) r2 H2->Frz r H r2 H2
section
variable {P:Program}
theorem iX.frz{c:Cx}{w:World}{Q:Bg}{e:Ending}{w':World}
  (h:iX c w (fun r H' T'=>∃r2 H2,Frz r H' r2 H2/\Q r2 H2 T') e w'):iX c w Q e w':=by
 obtain⟨v,rfl,r,H',T',c',⟨r2,H2,hf,hq⟩,hrep,hinv,hle,hT',hbel⟩:=h
 suffices ∀{r H' r2 H2},Frz r H' r2 H2->∀c':Cx,Q r2 H2 T'->Rep c' r v->Inv c' w' H'->c.le c'->c'.T=T'->iX c w Q (.returned v) w' from this hf c' hq hrep hinv hle hT'
 clear hf hq hrep hinv hle hT'
 intro r H' r2 H2 hf
 induction hf with
 | refl r H=>intro c' hq hrep hinv hle hT';exact⟨v,rfl,r,H,T',c',hq,hrep,hinv,hle,hT',hbel⟩
 | step o cs ho _ ih =>
  intro c' hq hrep hinv hle hT'
  obtain⟨vs,hv,hcell⟩:=hinv.row_at ho
  have hM:=(hinv.own o _ ho rfl).2.2.2
  exact ih (c'.fz o vs) hq (hrep.fz hv hM) (hinv.fz ho hcell) (hle.trans (zP hM)) hT'
def Og(x y:Ob):Prop:=x=y∨∃cs,x= .row cs/\y= .row (D.eraseL cs)
def K6(Hm H1:Hp):Prop:=Hm.length=H1.length/\∀(o:Nat) x y,Hm[o]? =some x->H1[o]? =some y->Og x y
theorem K6.refl(H:Hp):K6 H H:=⟨rfl,fun o x y h h'=>by rw[h] at h';injection h' with h';exact .inl h'⟩
theorem Eg{x y:Ob}(h:Og x y):x.live=y.live:=by
 rcases h with rfl|⟨cs,rfl,rfl⟩<;>rfl
def Crs(a b:D):Prop:=∀c v,Rep c a v->Rep c b v
theorem Crs.refl(a:D):Crs a a:=fun _ _ h=>h
theorem Crs.erase{a b:D}(h:a.erase=b):Crs a b:=fun _ _ hr=>h▸hr.erase
theorem Crs.trans{a b d:D}(h:Crs a b)(k:Crs b d):Crs a d:=fun c v hr=>k c v (h c v hr)
def BV(r0:D)(H1:Hp)(T:Tk):Bg:=fun r H' T'=>∃r2 H2,Frz r H' r2 H2/\Crs r2 r0/\(∃Hm L,H2=Hm++L/\K6 Hm H1)/\∃U,T'=T++U
def Co(H H1:Hp)(n:Nat):Prop:=H.length<=H1.length/\∀(o:Nat) x cs,H1[o]? =some x->x.cells? =some cs->H[o]? =some x∨D.clL H1.length n cs=true
theorem iX.forgetE{c:Cx}{w:World}{H H1:Hp}{T:Tk}{Q:Bg}(hi:Inv c w H)(hT:c.T=T){r0:D}(hcl:r0.cl H1.length T.length=true)(hC:Co H H1 T.length)(hQ:Q r0 H1 T){e:Ending}{w':World}
  (h:iX c w (BV r0 H1 T) e w'):iX c w Q e w':=by
 have h:=iX.frz (Q:=fun r2 H2 T'=>Crs r2 r0/\(∃Hm L,H2=Hm++L/\K6 Hm H1)/\∃U,T'=T++U) h
 obtain⟨v,rfl,r,H',T',c',⟨hr,⟨Hm,L,rfl,hsl,hs⟩,⟨U,rfl⟩⟩,hrep,hinv,hle,hT',hbel⟩:=h
 have move:∀{d:D} {v:Value},Rep c' d v->d.cl H1.length T.length=true->Rep { c' with bd:=fun o=>c'.bd o&&decide (o<H1.length),T:=T } d v:=fun {d v} hr hd =>
  hr.move (n:=H1.length) (m:=T.length) (c':={ c' with bd:=fun o=>c'.bd o&&decide (o<H1.length),T:=T }) (fun _ _ h=>h) (fun o ho h=>by simp[h,ho]) (fun _ _=>rfl) (fun _ _=>rfl) (A6F _) (fun τ hτ=>⟨by simp only;rw[hT',A6B hτ],rfl⟩) hd
 refine⟨v,rfl,r0,H1,T,{ c' with bd:=fun o=>c'.bd o&&decide (o<H1.length),T:=T },hQ,?_,?_,?_,rfl,hbel⟩
 ·exact move (hr _ _ hrep) hcl
 ·have hlt:∀{o:Nat} {x:Ob},H1[o]? =some x->o<H1.length:=fun {o x} h=>by
   rcases A6E o H1.length with h'|h'
   ·exact h'
   ·rw[A6A h'] at h;cases h
  have hget:∀{o:Nat} {x:Ob},H1[o]? =some x->∃x',(Hm++L)[o]? =some x'/\Og x' x:=fun {o x} h=>by
   have h1:=hlt h
   have h2:o<Hm.length:=by omega
   refine⟨Hm[o],by rw[A6B h2,A6D h2],hs o _ _ (A6D h2) h⟩
  have htok:∀{τ:Nat} {x},T[τ]? =some x->c'.T[τ]? =some x:=fun {τ x} h=>by
   have:τ<T.length:=by
    rcases A6E τ T.length with h'|h'
    ·exact h'
    ·rw[A6A h'] at h;cases h
   rw[hT',A6B this];exact h
  refine⟨hinv.keep,hinv.low,fun o x cs h hx=>?_,?_,fun o x h hx=>?_,fun o o' x x' h h' hx hx' he=>?_,fun o es clk h=>?_,fun o m l h=>?_,
   fun τ n z h=>hinv.tok τ n z (htok h),fun τ n z o x h h1 hx=>?_,fun τ n z τ' n' z' h h'=>hinv.toks τ n z τ' n' z' (htok h) (htok h')⟩
  ·obtain⟨x',g1,g2⟩:=hget h
   have hclosed:D.clL H1.length T.length cs=true:=by
    rcases hC.2 o x cs h hx with h0|h0
    ·obtain⟨vs0,rest0,e0,fr0,q1,q2,q4,q3⟩:=(hi.row o x cs h0 hx).hold
     refine D8 fun d hd=>?_
     obtain⟨i,hi',rfl⟩:=List.getElem_of_mem hd
     rw[<- hT]
     refine(q2.rep i hi' (by rw[q2.len];exact hi')).cl fun o ho=>?_
     rcases A6E o H.length with h'|h'
     ·exact A6M h' hC.1
     ·rw[hi.free o (.inl h')] at ho;cases ho
    ·exact h0
   obtain⟨vs,rest,e,fr,k1,k2,k4,k3⟩:RowAt c' w' (c'.β o) (c'.sz o) cs:=by
    rcases g2 with rfl|⟨cs',rfl,rfl⟩
    ·exact hinv.row o _ cs g1 hx
    ·simp only[Ob.cells?,Option.some.injEq] at hx
     subst hx
     obtain⟨vs,rest,e,fr,k1,k2,k4,k3⟩:=hinv.row o _ cs' g1 rfl
     refine⟨vs,rest,e,fr,k1,⟨by rw[Ao];exact k2.len,fun d hd=>?_,fun i a b=>?_⟩,k4,k3⟩
     ·rw[iR] at hd
      obtain⟨y,hy,rfl⟩:=A6V.1 hd
      rw[GV];exact k2.one y hy
     ·have a':i<cs'.length:=by rw[Ao] at a;exact a
      rw[Bs cs' i a'];exact(k2.rep i a' b).erase
   refine⟨vs,rest,e,fr,k1,?_,k4,k3⟩
   exact⟨k2.len,k2.one,fun i a b=>move (k2.rep i a b) (Br hclosed _ (A6K a))⟩
  ·intro o h
   rcases h with h|h
   ·have: ¬o<H1.length:=by omega
    simp[this]
   ·obtain⟨x',g1,g2⟩:=hget h
    have:x'= .hole:=by rcases g2 with rfl|⟨cs,rfl,g⟩<;>first|rfl|cases g
    subst this
    have:=hinv.free o (.inr g1)
    simp[this]
  ·obtain⟨x',g1,g2⟩:=hget h
   obtain⟨q1,q2,q3,q4⟩:=hinv.own o x' g1 (by rw[Eg g2];exact hx)
   exact⟨by simp[q1,hlt h],q2,q3,q4⟩
  ·obtain⟨y,g1,g2⟩:=hget h
   obtain⟨y',g1',g2'⟩:=hget h'
   exact hinv.apart o o' y y' g1 g1' (by rw[Eg g2];exact hx) (by rw[Eg g2'];exact hx') he
  ·obtain⟨x',g1,g2⟩:=hget h
   have:x'= .map es clk:=by rcases g2 with rfl|⟨cs,rfl,g⟩<;>first|rfl|cases g
   subst this
   exact hinv.map o es clk g1
  ·obtain⟨x',g1,g2⟩:=hget h
   have:x'= .iter m l:=by rcases g2 with rfl|⟨cs,rfl,g⟩<;>first|rfl|cases g
   subst this
   exact hinv.iter o m l g1
  ·obtain⟨x',g1,g2⟩:=hget h1
   exact hinv.tokrow τ n z o x' (htok h) g1 (by rw[Eg g2];exact hx)
 ·refine⟨hle.M,fun o ho=>?_,fun o ho=>hle.β o ho,by simp[hT],fun τ h=>by simpa[<- hT] using h,fun τ n z h=>.inr ⟨n,by simpa[<- hT] using h,A6F _,fun _=>?_⟩,hle.B,fun o ho=>?_⟩
  ·have:o<H1.length:=by
    rcases A6E o H.length with h'|h'
    ·exact A6M h' hC.1
    ·rw[hi.free o (.inl h')] at ho;cases ho
   simp[hle.bd o ho,this]
  ·rw[hT] at h
   have hlt:τ<T.length:=by
    rcases A6E τ T.length with h'|h'
    ·exact h'
    ·rw[A6A h'] at h;cases h
   have h2:c'.T[τ]? =some (some (n,z)):=by rw[hT',A6B hlt];exact h
   rcases hle.tok τ n z (by rw[hT];exact h) with k|⟨n',k1,k2,k3⟩
   ·rw[k] at h2;cases h2
   ·rw[k1] at h2;injection h2 with h2;injection h2 with h2;injection h2 with h2 _
    exact k3 h2
  ·exact hle.sz o ho
variable [HasG P]
abbrev FsE:=List (FuncId×(Hp->List D->Option (D×Hp)))
def E5:FsE->Hp->FuncId->List D->Option (D×Hp)
 | [],_,_,_=>none
 | (g,φ)::l,H,f,a=>if f=g then φ H a else E5 l H f a
def inE:FsE->FuncId->Bool
 | [],_=>false
 | (g,_)::l,f=>decide (f=g)||inE l f
theorem rQ(H:Hp)(f:FuncId)(a:List D):E5 [] H f a=none:=id rfl
theorem oV(g:FuncId)(φ:Hp->List D->Option (D×Hp))(l:FsE)(H:Hp)(f:FuncId)(a:List D):E5 ((g,φ)::l) H f a=if f=g then φ H a else E5 l H f a:=id rfl
theorem xE(f:FuncId):inE [] f=false:=id rfl
theorem v8(g:FuncId)(φ:Hp->List D->Option (D×Hp))(l:FsE)(f:FuncId):inE ((g,φ)::l) f=(decide (f=g)||inE l f):=id rfl
theorem Nk:∀{l:FsE} {H:Hp} {f:FuncId} {a:List D},inE l f=false->E5 l H f a=none
 | [],_,_,_,_=>rfl
 | (g,φ)::l,H,f,a,h=>by
  simp only[inE,Bool.or_eq_false_iff,decide_eq_false_iff_not] at h
  simp only[E5]
  rw[if_neg h.1];exact Nk h.2
def XE(l:Fs)(m:FsH)(e:FsE):BF:=fun f args H T Q=>match DQ l f (D.eraseL args) with
 | some r=>Q r H T
 | none=>match CE m H f (D.eraseL args) with
  | some r=>Q r H T
  | none=>match E5 e H f (D.eraseL args) with
   | some (r,H')=>Q r H' T
   | none=>False
def Am(P:Program)[HasG P](f:FuncId)(φ:Hp->List D->Option (D×Hp)):Prop:=∀H args r H',φ H args=some (r,H')->∀args',D.eraseL args'=args->∀T (Q:Bg),Q r H' T->Snd P f args' H T Q
def OkE(P:Program)[HasG P](m:FsE):Prop:=∀H f args r H',E5 m H f args=some (r,H')->∀args',D.eraseL args'=args->∀T (Q:Bg),Q r H' T->Snd P f args' H T Q
theorem OkE.nil:OkE P []:=fun _ _ _ _ _ h=>by simp[E5] at h
theorem OkE.cons{f:FuncId}{φ:Hp->List D->Option (D×Hp)}{m:FsE}(h:Am P f φ)(k:OkE P m):OkE P ((f,φ)::m):=by
 intro H g args r H' hr
 simp only[E5] at hr
 split at hr
 ·rename_i e;subst e;exact h H args r H' hr
 ·exact k H g args r H' hr
theorem XE.X{l:Fs}{m:FsH}{e:FsE}(k:Ok P l)(k':OkH P m)(k'':OkE P e):∀f args H T Q Q',(∀r H T,Q r H T->Q' r H T)->XE l m e f args H T Q->Snd P f args H T Q':=by
 intro f args H T Q Q' hQ h
 unfold XE at h
 split at h
 ·rename_i r hr
  exact k f _ r hr args rfl H T Q' (hQ _ _ _ h)
 ·split at h
  ·rename_i r hr
   exact k' H f _ r hr args rfl T Q' (hQ _ _ _ h)
  ·split at h
   ·rename_i r H' hr
    exact k'' H f _ r H' hr args rfl T Q' (hQ _ _ _ h)
   ·exact h.elim
theorem Dc(l:Fs)(m:FsH)(e:FsE):GA (XE l m e):=by
 intro f args H T Q Q' hQ h
 unfold XE at h ⊢
 split at h
 ·exact hQ _ _ _ h
 ·split at h
  ·exact hQ _ _ _ h
  ·split at h
   ·exact hQ _ _ _ h
   ·exact h.elim
def M7(X:BF)(args:List D)(K:D->S->Prop)(s:S)(d:D):Prop:=bW X args K s d
theorem B5{l:Fs}{m:FsH}{e:FsE}(hm:B0 m)(args:List D)(K:D->S->Prop)(s:S)(f:FuncId)(first cap:List D):
  bW (XE l m e) args K s (.fn f first cap)=if inE e f=true then M7 (XE l m e) args K s (.fn f first cap) else orK K s (DQ l f (D.eraseL (first++args++cap))) (CE m s.H f (D.eraseL (first++args++cap))):=by
 cases he:inE e f with
 | true=>rfl
 | false =>
  rw[if_neg (by simp)]
  have hx:∀a H T Q,XE l m e f a H T Q=XM l m f a H T Q:=by
   intro a H T Q
   unfold XE XM
   (rw[Nk he])<;>rfl
  rw[<- VV hm]
  simp only[bW,eq_iff_iff]
  unfold Tp
  simp only[hx]
def orE(Q:Bg)(T:Tk):Option (D×Hp)->Prop
 | some (r,H')=>Q r H' T
 | none=>False
def orX(Q:Bg)(H:Hp)(T:Tk):Option D->Option D->Option (D×Hp)->Prop
 | some r,_,_=>Q r H T
 | none,some r,_=>Q r H T
 | none,none,x=>orE Q T x
theorem A0(l:Fs)(m:FsH)(e:FsE)(f:FuncId)(args:List D)(H:Hp)(T:Tk)(Q:Bg):XE l m e f args H T Q=orX Q H T (DQ l f (D.eraseL args)) (CE m H f (D.eraseL args)) (E5 e H f (D.eraseL args)):=by
 unfold XE
 cases DQ l f (D.eraseL args) with
 | some r=>rfl
 | none =>
  cases CE m H f (D.eraseL args) with
  | some r=>rfl
  | none =>
   cases E5 e H f (D.eraseL args) with
   | some x=>rfl
   | none=>rfl
theorem zO(Q:Bg)(H:Hp)(T:Tk)(r:D)(x:Option D)(y:Option (D×Hp)):orX Q H T (some r) x y=Q r H T:=id rfl
theorem zY(Q:Bg)(H:Hp)(T:Tk)(r:D)(y:Option (D×Hp)):orX Q H T none (some r) y=Q r H T:=id rfl
theorem zU(Q:Bg)(H:Hp)(T:Tk)(y:Option (D×Hp)):orX Q H T none none y=orE Q T y:=id rfl
theorem A5(Q:Bg)(T:Tk)(r:D)(H':Hp):orE Q T (some (r,H'))=Q r H' T:=id rfl
theorem M4{l:Fs}{m:FsH}{e:FsE}(hl:Ok P l)(hm:OkH P m)(hE:OkE P e){f:FuncId}{n:Nat}{rs:List (Sum Nat (Nat×Bool×Nat))}{cc:C}(hf:Fn P f n rs cc){φ:Hp->List D->Option (D×Hp)}
  (h:∀H args r H1,φ H args=some (r,H1)->args.length<=n/\r.cl H1.length 0=true/\Co H H1 0/\∀T,W (XE l m e) cc (Ds rs (BV r H1 T)) ⟨Ae args,H,T⟩):Am P f φ:=by
 intro H args r H1 hr args' he T Q hQ
 obtain⟨h1,h2,h4,h3⟩:=h H args r H1 hr
 have hS:Snd P f args H T (BV r H1 T):=Ed hf h1 (dX (XE.X hl hm hE) (fun _ _ h=>h) (h3 T))
 intro c w vs kg k1 k2 k3
 have k3':Reps c args vs:=by rw[<- he];exact k3.erase
 have hcl:=D.cl_mono (A6F H1.length) (A6I T.length) r h2
 have hC:Co H H1 T.length:=⟨h4.1,fun o x cs a b=>(h4.2 o x cs a b).imp id (D.clL_mono (A6F _) (A6I _) cs)⟩
 rcases hS c w vs kg k1 k2 k3' with⟨g1,g2⟩|⟨v,w',g1,g2⟩
 ·exact .inl ⟨g1,g2.mono fun e w' k=>iX.forgetE k1 k2 hcl hC hQ k⟩
 ·exact .inr ⟨v,w',g1,iX.forgetE k1 k2 hcl hC hQ g2⟩
theorem Kz{r0 r:D}{H H':Hp}{T T':Tk}(h:CL r0 H T r H' T'):BV r0 H T r H' T':=by
 obtain⟨h1,⟨L,h2⟩,h3⟩:=h
 exact⟨r,H',.refl _ _,.erase h1,⟨H,L,h2,K6.refl H⟩,h3⟩
theorem AT{r0 r:D}{H H':Hp}{T T':Tk}(h1:r.erase=r0)(h2:∃L,H'=H++L)(h3:∃U,T'=T++U):BV r0 H T r H' T':=Kz ⟨h1,h2,h3⟩
theorem lvM{r0 r:D}{H H':Hp}{T T':Tk}(h1:r.erase=r0:=by first|rfl|simp[D.erase,D.eraseL])(h2:∃L,H'=H++L:=by first|exact⟨_,rfl⟩|(refine⟨[],?_⟩;simp;done))(h3:∃U,T'=T++U:=by first|exact⟨_,rfl⟩|(refine⟨[],?_⟩;simp;done)):BV r0 H T r H' T':=Kz ⟨h1,h2,h3⟩
theorem Co.refl(H:Hp)(n:Nat):Co H H n:=⟨A6F _,fun _ _ _ h _=>.inl h⟩
theorem WM{l:Fs}{m:FsH}{e:FsE}(hl:Ok P l)(hm:OkH P m)(hE:OkE P e){f:FuncId}{n:Nat}{rs:List (Sum Nat (Nat×Bool×Nat))}{cc:C}(hf:Fn P f n rs cc){φ:List D->Option D}
  (h:∀args r,φ args=some r->args.length<=n/\r.cl 0 0=true/\∀H T,W (XE l m e) cc (Ds rs (BV r H T)) ⟨Ae args,H,T⟩):AQ P f φ:=by
 intro args r hr args' he H T Q hQ
 refine M4 hl hm hE hf (φ:=fun H a=>(φ a).map fun r=>(r,H)) (fun H a r H1 hr=>?_) H args r H (by simp[hr]) args' he T Q hQ
 cases ha:φ a with
 | none=>rw[ha] at hr;cases hr
 | some r' =>
  rw[ha] at hr;simp only[A6U,Option.some.injEq,Prod.mk.injEq] at hr
  obtain⟨rfl,rfl⟩:=hr
  obtain⟨h1,h2,h3⟩:=h a r' ha
  exact⟨h1,D.cl_mono (A6I _) (A6F _) r' h2,Co.refl _ _,fun T=>h3 H T⟩
theorem TS{l:Fs}{m:FsH}{e:FsE}(hl:Ok P l)(hm:OkH P m)(hE:OkE P e){f:FuncId}{n:Nat}{rs:List (Sum Nat (Nat×Bool×Nat))}{cc:C}(hf:Fn P f n rs cc){φ:Hp->List D->Option D}
  (h:∀H args r,φ H args=some r->args.length<=n/\r.cl H.length 0=true/\∀T,W (XE l m e) cc (Ds rs (BV r H T)) ⟨Ae args,H,T⟩):IF P f φ:=by
 intro H args r hr args' he T Q hQ
 refine M4 hl hm hE hf (φ:=fun H a=>(φ H a).map fun r=>(r,H)) (fun H a r H1 hr=>?_) H args r H (by simp[hr]) args' he T Q hQ
 cases ha:φ H a with
 | none=>rw[ha] at hr;cases hr
 | some r' =>
  rw[ha] at hr;simp only[A6U,Option.some.injEq,Prod.mk.injEq] at hr
  obtain⟨rfl,rfl⟩:=hr
  obtain⟨h1,h2,h3⟩:=h H a r' ha
  exact⟨h1,h2,Co.refl _ _,fun T=>h3 T⟩
end
end GP
namespace GP
open Go Go.Proofs Go.Sort
section
variable {P:Program}
theorem Inv.grownB{b:Bool}{c:Cx}{w w':World}{H:Hp}(k:Inv c w H)(hb:Below (b,w.heap.size) w w'):Inv c w' H:=by
 have lt:∀{a:Addr} {v:Value},w.cell? a=some v->w'.cell? a=some v:=by
  intro a v h
  have hlt:a.block<w.heap.size:=by
   rcases A6E a.block w.heap.size with h'|h'
   ·exact h'
   ·simp[A6N,A6H h'] at h
  unfold A6N at h ⊢
  rw[hb.block _ hlt];exact h
 refine⟨fun a v h=>lt (k.keep a v h),Nat.le_trans k.low hb.size,?_,k.free,?_,k.apart,fun o es clk ho=>⟨(k.map o es clk ho).1,by rw[hb.block _ (k.own o _ ho rfl).2.2.1];exact(k.map o es clk ho).2⟩,k.iter,?_,k.tokrow,k.toks⟩
 ·intro o x cs h1 h2
  obtain⟨vs,rest,e,fr,h,g⟩:=(k.row o x cs h1 h2).hold
  have hlt:c.β o<w.heap.size:=by
   rcases A6E (c.β o) w.heap.size with h'|h'
   ·exact h'
   ·rw[A6H h'] at h;cases h
  exact⟨vs,rest,e,fr,by rw[hb.block _ hlt];exact h,g⟩
 ·intro o x h1 h2
  obtain⟨a,b,d,e⟩:=k.own o x h1 h2
  exact⟨a,b,A6M d hb.size,e⟩
 ·intro τ n z h
  obtain⟨a,b,d,e,f⟩:=k.tok τ n z h
  refine⟨a,A6M b hb.size,d,e,fun j h1 h2=>?_⟩
  obtain⟨g1,g2,g3⟩:=f j h1 h2
  have hbl:w'.heap[(c.κ τ).1.block]? =w.heap[(c.κ τ).1.block]?:=hb.block _ b
  refine⟨?_,?_,g3⟩
  ·rw[<- g1];unfold A6N;rw[hbl]
  ·rw[<- g2];unfold A63;rw[hbl]
def CxT(w:World):Cx:={ M:=w.cell?,β:=fun _=>0,κ:=fun _=>(⟨0,0,none⟩,0),bd:=fun _=>false,T:=[],bb:=(true,w.heap.size),sz:=fun _=>0 }
theorem A4R(w:World):Inv (CxT w) w [] :=
 ⟨fun _ _ h=>h,A6F _,fun o x cs h=>by simp at h,fun _ _=>rfl,fun o x h=>by simp at h,fun o o' x x' h=>by simp at h,fun o es clk h=>by simp at h,fun o m l h=>by simp at h,fun τ n z h=>by simp[CxT] at h,fun τ n z o x h=>by simp[CxT] at h,fun τ n z τ' n' z' h=>by simp[CxT] at h⟩
theorem LF{w w':World}(h:Below (true,w.heap.size) w w'):∃q os,w'=grow (w.drewN q) os:=by
 refine⟨w'.drawn - w.drawn,w'.heap.extract w.heap.size w'.heap.size,?_⟩
 obtain⟨h1,h2,h3,h4,h5,h6⟩:=h
 have h6:=h6 rfl
 obtain⟨heap,tape,drawn,os,output⟩:=w
 obtain⟨heap',tape',drawn',os',output'⟩:=w'
 simp only at h1 h2 h3 h4 h5 h6
 subst h1;subst h2;subst h3
 simp only[grow,World.drewN,World.mk.injEq,and_true,true_and]
 refine⟨?_,by omega⟩
 apply Array.ext_getElem?
 intro i
 by_cases hi:i<heap.size
 ·rw[A6O hi];exact h5 i hi
 ·rw[Array.getElem?_append_right (by omega),Array.getElem?_extract]
  by_cases hi2:i<heap'.size
  ·rw[if_pos (by omega)];congr 1;omega
  ·rw[A6H (by omega),if_neg (by omega)]
theorem Up{w:World}{a:Addr}{v:Value}(h:w.cell? a=some v):a.block<w.heap.size:=by
 rcases A6E a.block w.heap.size with h'|h'
 ·exact h'
 ·simp[A6N,A6H h'] at h
theorem MW(vs:List Value):∀(w:World) (b off:Nat),AZ w b off vs=w.setCells b off vs:=by
 induction vs with
 | nil=>intros;rfl
 | cons v vs ih=>intro w b off;rw[AZ,ih];rfl
theorem Ju{α:Type}[Inhabited α](enc:α->List Value)(k:Nat)(hk:∀x,(enc x).length=k)(d:Array α):(flatK enc k d).toList=(d.toList.map enc).flatten:=by
 have hl:(d.toList.map enc).flatten.length=d.size*k:=by
  rw[aO (sz:=k) _ (by intro x hx;obtain⟨y,_,rfl⟩:=A6V.1 hx;exact hk y)];simp
 apply List.ext_getElem?
 intro t
 by_cases ht:t<d.size*k
 ·have k0:0<k:=by
   rcases Nat.eq_zero_or_pos k with h|h
   ·subst h;simp at ht
   ·exact h
  have hq:t / k<d.size:=Nat.div_lt_of_lt_mul (by rw[Nat.mul_comm];exact ht)
  have hr:t%k<k:=Nat.mod_lt _ k0
  have e:=get_flatK enc k d t ht
  have e1:(flatK enc k d).toList[t]? =some (flatK enc k d)[t]!:=by
   rw[getElem!_pos (flatK enc k d) t (by simpa using ht)]
   simp[ht]
  have e2:(d.toList.map enc).flatten[t / k*k+t%k]? =((d.toList.map enc)[t / k]'(by simpa using hq))[t%k]? :=
   gM _ (t / k) (by simpa using hq) (t%k) (by intro x hx;obtain⟨y,_,rfl⟩:=A6V.1 hx;exact hk y) hr
  rw[Nat.div_add_mod'] at e2
  rw[e1,e,e2,A6L]
  have hx:d[t / k]! =d.toList[t / k]'(by simpa using hq):=by rw[getElem!_pos d (t / k) hq];simp
  rw[hx]
  rw[A6D (by rw[hk];exact hr),getElem!_pos _ _ (by rw[hk];exact hr)]
 ·rw[A6A (by simp;omega),A6A (by omega)]
theorem LS{sz:Nat}:∀(n:Nat) (cs:List D),∀x∈Bd true sz n cs,∃l,x= .agg l
 | 0,_,x,h=>by simp[Bd] at h
 | n+1,cs,x,h=>by
  simp only[Bd,if_true,List.mem_cons] at h
  rcases h with rfl|h
  ·exact⟨_,rfl⟩
  ·exact LS n _ x h
theorem QK{c:Cx}{w:World}{H:Hp}(k:Inv c w H){o:Nat}{cs ds:List D}{us:List Value}(ho:H[o]? =some (.row cs))(kc:Cells c ds us){off:Nat}(h1:off+ds.length<=cs.length)(m:Nat)(os:Array Obj):
  Inv c (grow ((Sort.ahead w m).setCells (c.β o) off us) os) (H.set o (.row (cs.take off++ds++cs.drop (off+ds.length))))/\Below c.bb w (grow ((Sort.ahead w m).setCells (c.β o) off us) os):=by
 have k1:Inv c (Sort.ahead w m) H:=Inv.congr (w:=w) (w':=Sort.ahead w m) rfl k
 have hf:=iS k ho rfl
 obtain⟨_,g2,g3⟩:=gK (P:=default) k1 ho rfl kc (off:=off) (by omega) (by omega)
 rw[MW] at g2 g3
 have hg:∀(b:Bool) (x:World),Below (b,x.heap.size) x (grow x os):=fun b x=>⟨rfl,rfl,rfl,by simp,fun i hi=>by simp[grow,A6O hi],fun _=>A6F _⟩
 refine⟨g2.grownB (hg false _),?_⟩
 have h0:Below c.bb w (Sort.ahead w m):=⟨rfl,rfl,rfl,A6F _,fun _ _=>rfl,fun _=>Nat.le_add_right _ _⟩
 exact(h0.trans g3).trans (Below.mono (b:=c.bb.1) (hg _ _) g2.low)
variable [inst:HasG P]
theorem RD{ρ:Go.Shelf.Ren}(L:SlLaysF0.n6 P ρ)(k:Nat)(aE:∀w,(isAgg (ρ.t 24)).run P w= .ok true w)(zE:∀w,(Go.sizeOf (ρ.t 24)).run P w= .ok k w){f g:FuncId}(hf:ρ.f 6=f)
  (ef:∀args w,(callFunc f args).run P w= .ok (.enter f args) w) (eg:∀args w,(callFunc g args).run P w= .ok (.enter g args) w)
  (instB:HasG P) (hB:∀c w,@HasG.G P instB c w) {H:Hp} {o off n cap:Nat} {cs:List D} (ho:H[o]? =some (.row cs)) (hn:0<n) (hn2:n<2^62) (hlen:off+n*k<=cs.length)
  (cf:D->D->Int) (hcl:∀x∈Bd true k n (cs.drop off),x.cl 0 0=true)
  (hcmp:∀x∈Bd true k n (cs.drop off),∀y∈Bd true k n (cs.drop off),@Snd P instB g [x,y] [] [] (fun r _ _=>r= .int .i64 (cf x y)))
  (hirr:∀x∈Bd true k n (cs.drop off),¬ cf x x<0)
  (htr:∀x∈Bd true k n (cs.drop off),∀y∈Bd true k n (cs.drop off),∀z∈Bd true k n (cs.drop off),cf x y<0->cf y z<0->cf x z<0)
  (hnt:∀x∈Bd true k n (cs.drop off),∀y∈Bd true k n (cs.drop off),∀z∈Bd true k n (cs.drop off),¬ cf x y<0-> ¬cf y z<0-> ¬cf x z<0)
  {T:Tk} {Q:Bg} (hQ:∀ys:List D,ys.Perm (Bd true k n (cs.drop off))->ys.Pairwise (fun a b=>¬ cf b a<0)->Q (.tup []) (H.set o (.row (cs.take off++AX ys++cs.drop (off+n*k)))) T) :
  @Snd P inst f [.ms true k o off n cap,.fn g [] []] H T Q:=by
 intro c w args hg k1 kT kr
 match args,kr.len with
 | [va,vf],_ =>
  have ra:=kr.rep 0 (by simp) (by simp)
  have rf:=kr.rep 1 (by simp) (by simp)
  simp only[List.getElem_cons_zero,List.getElem_cons_succ] at ra rf
  cases ra with
  | ms _ _ _ _ _ _ rc hb g1 g2 g3 =>
  cases rf with
  | fn _ _ _ vp vq hp hq _ _ =>
  match vp,vq,hp,hq with
  | [],[],_,_ =>
  refine .inl ⟨ef _ _,?_⟩
  generalize hxs:Bd true k n (cs.drop off)=xs at *
  have hxl:xs.length=n:=by rw[<- hxs];exact bN ..
  obtain⟨vs,rest,e,fr,q1,q2,q4,q3⟩:=(k1.row o _ cs ho rfl).hold
  have hvl:vs.length=cs.length:=q2.len
  have hown:=k1.own o _ ho rfl
  have hblk:c.β o<w.heap.size:=hown.2.2.1
  have hcd:Cells c (cs.drop off) (vs.drop off):=⟨by simp[q2.len],fun d hd=>q2.one d (List.mem_of_mem_drop hd),fun i h h'=>by simpa using q2.rep (off+i) (by simp at h;omega) (by simp at h';omega)⟩
  have ke:=cT (ag:=true) (sz:=k) (.inl rfl) n _ _ hcd (by simp;omega)
  rw[hxs] at ke
  obtain⟨vss,hvss⟩:∃v,bX k n (vs.drop off)=v:=⟨_,rfl⟩
  rw[hvss] at ke
  have hvssl:vss.length=n:=by rw[<- hvss];exact H4 ..
  have hflat:vss.flatten=(vs.drop off).take (n*k):=by rw[<- hvss];exact bU ..
  have hvl1:∀v∈vss,v.length=k:=ke.sz'
  haveI:Inhabited (Fin n):=⟨⟨0,hn⟩⟩
  let enc:Fin n->List Value:=fun i=>vss[i.1]'(by rw[hvssl];exact i.2)
  let el:Fin n->D:=fun i=>xs[i.1]'(by rw[hxl];exact i.2)
  have hel:∀i,el i∈xs:=fun i=>A6K _
  let d:Array (Fin n):=Array.ofFn id
  have hd:d.size=n:=by simp[d]
  have hk:∀x,(enc x).length=k:=fun x=>hvl1 _ (A6K _)
  have hcells:∀i:Fin n,Cells c (el i).cells (enc i):=fun i=>ke.el i.1 (by rw[hxl];exact i.2) (by rw[hvssl];exact i.2)
  have hone:∀x,∀v∈enc x,v.oneCell'=true:=fun x=>(hcells x).cell
  have hdE:d.toList.map enc=vss:=by
   apply A60
   ·simp[d,hvssl]
   ·intro i h1 h2
    simp only[d,A6Y,A6L,A6Z,id,enc]
  have hdX:d.toList.map el=xs:=by
   apply A60
   ·simp[d,hxl]
   ·intro i h1 h2
    simp only[d,A6Y,A6L,A6Z,id,el]
  have hH:HoldsK enc k w (c.β o) off d:=by
   intro t ht
   have ht':t<n*k:=by simpa[hd] using ht
   have hlist:=Ju enc k hk d
   rw[hdE,hflat] at hlist
   have hg:(flatK enc k d)[t]! =vs[off+t]'(by omega):=by
    have:(flatK enc k d).toList[t]? =some (vs[off+t]'(by omega)):=by
     rw[hlist,List.getElem?_take_of_lt ht',List.getElem?_drop,A6D]
    rw[getElem!_pos (flatK enc k d) t (by simpa using ht)]
    have h2:(flatK enc k d).toList[t]? =some ((flatK enc k d)[t]'(by simpa using ht)):=by simp[hd,ht']
    rw[h2] at this;injection this
   rw[hg]
   constructor
   ·simp only[A6N,q1]
    simp only[Option.isSome_none,A6W,if_false,List.getElem?_toArray,id]
    rw[A6B (by omega),A6D]
   ·simp only[A63,q1]
    have:=q3 (off+t) (by omega)
    simpa using this
  have hO:SWO (ltOf fun i j=>cf (el i) (el j)):=by
   refine⟨fun x=>?_,fun x y z h1 h2=>?_,fun x y z h1 h2=>?_⟩
   ·simp only[ltOf,decide_eq_false_iff_not];exact hirr _ (hel x)
   ·simp only[ltOf,decide_eq_true_eq] at *;exact htr _ (hel x) _ (hel y) _ (hel z) h1 h2
   ·simp only[ltOf,decide_eq_false_iff_not] at *;exact hnt _ (hel x) _ (hel y) _ (hel z) h1 h2
  have hL:CmpLays P g #[] enc k (fun i j=>cf (el i) (el j)) (c.β o) off d.size w:=by
   intro m os dk hdk x y
   generalize hW:sortWorldK enc k w (c.β o) off m dk os=W
   have hM:∀a v,c.M a=some v->W.cell? a=some v:=by
    intro a v ha
    have h0:=k1.keep a v ha
    have hlt:=Up h0
    have hne:a.block≠c.β o:=by
     intro e
     obtain⟨b,i,s⟩:=a
     simp only at e;subst e
     cases s with
     | none=>rw[hown.2.2.2 i] at ha;cases ha
     | some s=>simp[A6N,q1] at h0
    rw[<- hW]
    unfold sortWorldK
    rw[cell?_grow _ _ _ (by rw[size_putRowK];exact hlt),cell?_putRowK_other _ _ _ _ _ _ _ hne]
    exact h0
   have rep:∀i:Fin n,Rep (CxT W) (el i) (.agg (enc i).toArray):=by
    intro i
    obtain⟨l,hl⟩:∃l,el i= .agg l:=LS n (cs.drop off) _ (by rw[hxs];exact hel i)
    have hc:=hcells i
    rw[hl] at hc ⊢
    have r0:Rep c (.agg l) (.agg (enc i).toArray):=.agg l (enc i) hc.len hc.one hc.rep
    have hcl':=hcl _ (hel i)
    rw[hl] at hcl'
    exact r0.move (n:=0) (m:=0) (c':=CxT W) hM (fun o h=>by omega) (fun o h=>by omega) (fun o h=>by omega) (A6I _) (fun τ h=>by omega) hcl'
   have rr:Reps (CxT W) [el x,el y] [.agg (enc x).toArray,.agg (enc y).toArray]:=by
    refine⟨rfl,fun i h h'=>?_⟩
    match i,h with
    | 0,_=>exact rep x
    | 1,_=>exact rep y
   rcases hcmp _ (hel x) _ (hel y) (CxT W) W _ (hB _ _) (A4R W) rfl rr with⟨_,hc⟩|⟨v,w',hc,_⟩
   ·refine hc.mono ?_
    rintro e w' ⟨v,rfl,r,H',T',c',hr,hrep,_,_,_,hbel⟩
    subst hr
    cases hrep
    exact⟨rfl,LF hbel⟩
   ·rw[eg] at hc;cases hc
  have hS:=AnyQ.slices_SortFunc L k aE zE enc hk hone (fun i j=>cf (el i) (el j)) hO g #[] (c.β o) off rc d w eg hL hH hblk (by rw[hd];omega)
  rw[hf,hd] at hS
  refine hS.mono ?_
  rintro e w' ⟨rfl,d',m,os,⟨hs1,_,hs2⟩,hs3,rfl⟩
  have hd's:d'.size=n:=by rw[hs1,hd]
  have hperm:(d'.toList).Perm d.toList:=by
   have e1:d'.extract 0 n=d':=A65 (by simp[hd's]) (fun i h1 h2=>by simp)
   have e2:d.extract 0 n=d:=A65 (by simp[hd]) (fun i h1 h2=>by simp)
   rw[e1,e2] at hs2;exact hs2
  let ys:List D:=d'.toList.map el
  have hys:ys.Perm xs:=by rw[<- hdX];exact hperm.map el
  have hyl:ys.length=n:=by rw[hys.length_eq,hxl]
  have hflatD:AX ys=(d'.toList.map (fun i=>(el i).cells)).flatten:=by simp[AX,ys,Function.comp_def]
  have hkc:Cells c (AX ys) (flatK enc k d').toList:=by
   rw[Ju enc k hk]
   have:Elems c k ys (d'.toList.map enc):=by
    refine⟨by simp[ys],fun i h h'=>?_,fun x hx=>?_⟩
    ·simp only[ys,A6L];exact hcells _
    ·obtain⟨i,_,rfl⟩:=A6V.1 hx
     rw[<- (hcells i).len];exact hk i
   exact this.cells
  have hfl:(AX ys).length=n*k:=by
   have:=hkc.len
   simp[hd's] at this;exact this.symm
  have hw:sortWorldK enc k w (c.β o) off m d' os=grow ((Sort.ahead w m).setCells (c.β o) off (flatK enc k d').toList) os:=by
   unfold sortWorldK
   congr 1
   have hH':HoldsK enc k (Sort.ahead w m) (c.β o) off d:=holdsK_ahead enc k w m (c.β o) off d hH
   have e0:Sort.putRow id (Sort.ahead w m) (c.β o) off (flatK enc k d)=Sort.ahead w m:=putRow_self id _ _ _ _ hH'
   have e1:=setCells_putRow (Sort.ahead w m) (c.β o) off (flatK enc k d').toList 0 (flatK enc k d) (by simp[hd's,hd])
   rw[e0,A64] at e1
   rw[e1]
   unfold putRowK
   congr 1
   apply ext_get!
   ·simp[hd's,hd]
   ·intro t ht
    rw[get_setMany _ _ _ _ (by simpa[hd,hd's] using ht),if_pos (by simpa using ht)]
    simp only[Nat.sub_zero]
    rw[getElem!_pos (flatK enc k d').toList t (by simpa using ht),getElem!_pos (flatK enc k d') t (by simpa using ht)]
    simp
  rw[hw]
  obtain⟨z1,z2⟩:=QK k1 ho hkc (off:=off) (by rw[hfl];exact hlen) m os
  rw[hfl] at z1
  refine⟨_,rfl,.tup [],_,T,c,hQ ys hys ?_,.tup [] [] rfl (fun i h=>absurd h (by simp)),z1,Cx.le.refl c,kT,z2⟩
  rw[List.pairwise_iff_getElem]
  intro i j hi hj hij
  have hi':i<n:=by rw[<- hyl];exact hi
  have hj':j<n:=by rw[<- hyl];exact hj
  have:=hs3 i j (A6I _) hij hj'
  simp only[ltOf,decide_eq_false_iff_not] at this
  simp only[ys,A6L]
  rw[getElem!_pos d' j (by omega),getElem!_pos d' i (by omega)] at this
  simpa using this
end
end GP
namespace GP
open Go Go.Proofs
open Rd O
set_option maxRecDepth 100000
def c31:C :=
 (Rg (Rq 2 [.alloc [.nils,(.str []),.nils],Qk 0,Qk 0] [])
 (.seq (Rg (Rq 9 [Qa 0,Qi 9,Qj .gtr 10 600] [])
 (.cond (t 11)
 (Rg (I1 12 (.build [.nils,(.str []),.nils] [])::Is 3 2 12::Rq 3 [Qk 0,Qk 13] [])
 .ret)
 .skip))
 (Rg (Rq 13 [Qa 0,.build [.nils,(.int .i64 0),(.int .i64 0)] [(0,1,(t 13))],.build [.nils,(.int .i64 0),(.int .i64 0)] [(0,3,(t 14))],Qo 15] [Im 5 16])
 (Rg ([I1 6 (.alloc [.nils,(.str []),.nils])])
 (.seq (.block 0
 (.loop
 (.seq (Rg ([Im 17 5,In 18 17,If 19 0 18,Ic 20 69 [(t 19),(Ks ([102,97,99,116]))]])
 (.cond (t 20)
 .skip
 (.exit 0)))
 (.block 1
 (.draw 0 [(If 21 0 6,[]),(Il 22 21,[]),(Im 23 5,[]),(Ic 24 70 [(t 23)],[Il 22 21]),(I1 25 (.bslq 4 [(t 24)]),[]),(I1 26 (.app false 4 48 (t 22) (t 25)),[]),(If 27 0 6,[]),(Is 1 27 26,[])])))))
 (Rg ([Im 28 5,In 29 28,If 30 0 29,Ic 31 71 [(t 30),(Ks ([117,115,101]))]])
 (Rg ([Im 32 5,Ic 33 72 [(t 32)],If 34 1 6,Is 1 34 33])
 (Rg ([Im 35 5,In 36 35,If 37 0 36,Ic 38 71 [(t 37),(Ks ([59]))]])
 (.seq (.block 2
 (.loop
 (.seq (Rg ([Im 39 5,In 40 39,If 41 0 40,Ic 42 69 [(t 41),(Ks ([112,111,108,105,99,121]))]])
 (.cond (t 42)
 .skip
 (.exit 2)))
 (.block 3
 (.draw 0 [(If 43 2 6,[]),(Il 44 43,[]),(Im 45 5,[]),(Ic 46 73 [(t 45)],[Il 44 43]),(I1 47 (.bslq 13 [(t 46)]),[]),(I1 48 (.app false 13 208 (t 44) (t 47)),[]),(If 49 2 6,[]),(Is 1 49 48,[])])))))
 (.seq (Rg ([Im 51 5,In 52 51,If 53 0 52,Ic 54 50 [(t 53)],Im 50 54,Ie 55 0 50,Ie 56 1 50,Im 7 55,Im 8 56])
 (Rg (Rq 57 [Qa 8,Qj .neq 57 0] [])
 (.cond (t 58)
 (Rg (Rq 59 [.build [.nils,(.str []),.nils] [],Qa 7,Qa 8] [Is 3 2 59,Im 3 60,Im 4 61])
 .ret)
 .skip)))
 (Rg (Ia 62 3 6::Is 3 2 62::Rq 3 [Qk 0,Qk 0] [])
 .ret)))))))))))
theorem A3S:Fn Tryz.prog 31 63 [.inr (2,true,3),.inl 3,.inl 4] c31:=AP Tryz.func31 Tryz.ntmps31 Hq0
def c42:C :=
 (Rg (Rq 1 [Qo 0,Qk 0] [])
 (Rg (Rq 3 [.mv KN,.mv KN] [])
 (.seq (Rg (Rq 5 [Qk 0] [])
 (.block 0
 (.loop
 (.seq (Rg (Rq 16 [Qa 5,Qc 0 1,Qd 17,Qi 18,Qb .lss 16 19] [])
 (.cond (t 20)
 .skip
 (.exit 0)))
 (.seq (.block 1
 (.draw 0 [(Im 23 3,[]),(If 24 0 1,[]),(Il 25 24,[]),(Im 26 5,[]),(I1 27 (.iaddr 4 (t 25) (t 26)),[]),(If 28 0 27,[]),(Il 29 28,[]),(If 30 0 1,[]),(Il 31 30,[]),(Im 32 5,[]),(I1 33 (.iaddr 4 (t 31) (t 32)),[]),(If 34 1 33,[]),(Il 35 34,[]),(I1 36 (.build [(.str []),(.str [])] [(0,1,(t 29)),(1,1,(t 35))]),[]),(I1 37 (.bslq 2 [(t 36)]),[]),(I1 38 (.app false 2 32 (t 23) (t 37)),[]),(Im 3 38,[])]))
 (.reg (Rq 21 [Qa 5,Qj .add 21 1] [Im 5 22])))))))
 (Rg (If 39 1 1::Il 40 39::Ip 41 94 [(t 40)]::Rq 6 [Qq,Qa 41,Qk 0] [])
 (.seq (Rg (Rq 9 [Qk 0] [])
 (.block 2
 (.loop
 (.seq (Rg (Rq 42 [Qa 9,Qc 2 1,Qd 43,Qi 44,Qb .lss 42 45] [])
 (.cond (t 46)
 .skip
 (.exit 2)))
 (.seq (.block 3
 (Rg ([I1 10 (.mv KN)])
 (.seq (Rg (Rq 11 [Qk 0] [])
 (.block 4
 (.loop
 (.seq (Rg (Rq 49 [Qa 11,Qc 2 1,Qd 50,Qa 9,Qn 13 51 52,Qc 12 53,Qd 54,Qi 55,Qb .lss 49 56] [])
 (.cond (t 57)
 .skip
 (.exit 4)))
 (.seq (.block 5
 (.reg (Rq 60 [Qa 10,Qc 2 1,Qd 61,Qa 9,Qn 13 62 63,Qc 12 64,Qd 65,Qa 11,Qn 13 66 67,Qc 1 68,Qd 69,.build [(.str []),(.str [])] [(0,1,(t 70))],.bsl 2 [t 71],.app false 2 32 (t 60) (t 72)] [Im 10 73])))
 (.reg (Rq 58 [Qa 11,Qj .add 58 1] [Im 11 59])))))))
 (Rg (Rq 74 [Qa 4,Qc 2 1,Qd 75,Qa 9,Qn 13 76 77,Qc 0 78,Qd 79,.build [(.str []),(.str [])] [(0,1,(t 80))],.bsl 2 [t 81],.app false 2 32 (t 74) (t 82)] [Im 4 83])
 (Rg (Im 84 6::Im 85 84::Rz 86 85 [Qa 10,Qg 95 [t 86]] (Rq 88 [Ql 85 87] [Im 6 88]))
 (Rg (Im 89 7::Im 90 89::Rv 91 90 [Qc 2 1,Qd 91,Qa 9,Qn 13 92 93,Qc 2 94,Qd 95,Qg 94 [t 96]] (Rq 98 [Qm 90 97] [Im 7 98]))
 (.reg (Rq 99 [Qa 8,Qa 10,Qi 100,Qb .add 99 101] [Im 8 102]))))))))
 (.reg (Rq 47 [Qa 9,Qj .add 47 1] [Im 9 48])))))))
 (.seq (Rg (Rq 103 [Qa 3,Qg 95 [t 103],Qa 104] (Rz 106 105 [Qa 4,Qg 95 [t 106]] (Rq 108 [Ql 105 107,Qa 108] (Jm 110 109 false 6::Rq 111 [Ql 109 110] []))))
 (.cond (t 111)
 (Rg (Rq 2 [Qk 9] [])
 .ret)
 .skip))
 (.seq (Rg (Rq 112 [Qa 7,Qp 112] [])
 (.cond (t 113)
 (Rg (Rq 2 [Qk 8] [])
 .ret)
 .skip))
 (.seq (Rg (Rq 114 [Qa 8,Qj .gtr 114 24] [])
 (.cond (t 115)
 (Rg (Rq 2 [Qk 13] [])
 .ret)
 .skip))
 (.seq (Rg (Rq 12 [Qk 0] [])
 (.block 6
 (.loop
 (.seq (Rg (Rq 116 [Qa 12,Qc 2 1,Qd 117,Qi 118,Qb .lss 116 119] [])
 (.cond (t 120)
 .skip
 (.exit 6)))
 (.seq (.block 7
 (Rg (Rq 123 [Qc 2 1,Qd 123,Qa 12,Qn 13 124 125,Qe 13 126] [I1 13 (.alloc [(.str []),(.str []),(.str []),(.bool false),(.str []),(.int .i64 0),(.int .i64 0),(.str []),.nils,(.str []),(.str []),.nils,.nils]),Is 13 13 127])
 (Rg (Rq 128 [Qe 3 1,Qc 3 13,Qd 129,Qc 4 13,Qe 8 131,Qg 96 [t 128,t 130,t 132]] [Im 14 133])
 (.seq (Rg (Rq 15 [Qk 0] [])
 (.block 8
 (.loop
 (.seq (Rg (Rq 134 [Qa 15,Qc 12 13,Qd 135,Qi 136,Qb .lss 134 137,Qa 138] (Rv 140 139 [Qa 14,Qj .eql 140 0] (Rq 142 [Qm 139 141] [])))
 (.cond (t 142)
 .skip
 (.exit 8)))
 (.seq (.block 9
 (.draw 0 [(Ia 145 3 1,[]),(If 146 12 13,[]),(Il 147 146,[]),(Im 148 15,[]),(I1 149 (.iaddr 13 (t 147) (t 148)),[]),(If 150 2 149,[]),(Il 151 150,[]),(If 152 12 13,[]),(Il 153 152,[]),(Im 154 15,[]),(I1 155 (.iaddr 13 (t 153) (t 154)),[]),(If 156 3 155,[]),(Ia 157 8 156,[]),(Ip 158 96 [(t 145),(t 151),(t 157)],[]),(Im 14 158,[])]))
 (.reg (Rq 143 [Qa 15,Qj .add 143 1] [Im 15 144])))))))
 (Rg (Rq 159 [Qa 14,Qj .neq 159 0] [])
 (.cond (t 160)
 (Rg ([Im 161 14,Im 2 161])
 .ret)
 .skip))))))
 (.reg (Rq 121 [Qa 12,Qj .add 121 1] [Im 12 122])))))))
 (Rg (Rq 2 [Qk 0] [])
 .ret))))))))))
theorem A39:Fn Tryz.prog 42 162 [.inl 2] c42:=AP Tryz.func42 Tryz.ntmps42 Hq0
def c49:C :=
 (Rg ([I1 2 (.alloc [(.str []),(.int .i64 0),(.int .i64 0),(.str []),.nils,(.str []),(.str []),.nils])])
 (Rg (Rq 3 [Qa 0,Qa 0,.mkfn 104 [t 4] [],.bsl 1 [(Ks ([111,114]))],Qf 103 [t 3,t 5,t 6]] [Is 8 2 7])
 .ret))
theorem A5k:Fn Tryz.prog 49 8 [.inr (2,true,8)] c49:=AP Tryz.func49 Tryz.ntmps49 Hq0
def c50:C :=
 (Rg (Rq 2 [Qk 0,Qk 0] [])
 (.seq (.seq (.draw 0 [(Im 4 0,[]),(In 5 4,[]),(If 6 2 5,[]),(Il 7 6,[]),(I1 8 (.bin .eql (t 7) (Ki 0)),[]),(Im 9 8,[]),(Jm 10 9 true 0,[]),(I2 11 9 (.nilc (t 10)),[]),(Jf 12 9 true 1 11,[]),(Jl 13 9 true 12,[]),(Jm 14 9 true 0,[]),(I2 15 9 (.nilc (t 14)),[]),(Jf 16 9 true 0 15,[]),(Jl 17 9 true 16,[]),(I2 18 9 (.len (t 17)),[]),(I2 19 9 (.bin .lss (t 13) (t 18)),[]),(I1 20 (.pick (t 9) (t 19) KF),[])])
 (.cond (t 20)
 (.reg (Rq 21 [Qa 0,Qa 0,.nilc (t 22),Qc 1 23,Qd 24,Qf 105 [t 21,t 25,(Ki 2)]] []))
 .skip))
 (.seq (Rg (Rq 27 [Qa 0,.nilc (t 27),Qc 2 28,Qd 29,Qj .eql 30 0] [])
 (.cond (t 31)
 (Rg (Rq 2 [Qk 0,Qk 0] [])
 .ret)
 .skip))
 (.seq (.draw 0 [(Im 32 0,[]),(In 33 32,[]),(If 34 1 33,[]),(Il 35 34,[]),(Im 36 0,[]),(In 37 36,[]),(If 38 2 37,[]),(Il 39 38,[]),(Im 2 35,[]),(Im 3 39,[])])
 .ret))))
theorem A5g:Fn Tryz.prog 50 40 [.inl 2,.inl 3] c50:=AP Tryz.func50 Tryz.ntmps50 Hq0
def c96:C :=
 (Rg (Rq 3 [Qo 0] (Rq 5 [Qo 2,Qk 0] []))
 (.seq (Rg (Rq 9 [Qa 1,Qp 9] [])
 (.cond (t 10)
 (Rg (Rq 6 [Qk 0] [])
 .ret)
 .skip))
 (Rg (Rq 12 [Qc 0 3,Qd 12,Qe 8 5,Qg 157 [t 13,t 14]] [Im 11 15,Ie 16 0 11,Ie 17 1 11,Im 7 16,Im 8 17])
 (.seq (Rg (Rq 18 [Qa 8,Qj .eql 18 0,Qa 19] (Rv 21 20 [Qa 7,Qj .neq 21 1] (Rq 23 [Qm 20 22] [])))
 (.cond (t 23)
 (Rg (Rq 6 [Qk 6] [])
 .ret)
 .skip))
 (Rg ([Im 24 8,Im 6 24])
 .ret)))))
theorem A5I:Fn Tryz.prog 96 25 [.inl 6] c96:=AP Tryz.func96 Tryz.ntmps96 Hq0
def c98:C :=
 (Rg ([I1 0 (.mv KN)])
 (Rg ([I1 1 (.bsl 1 [(Ks ([100,101,110,121,95,111,118,101,114,114,105,100,101,115])),(Ks ([112,101,114,109,105,116,95,111,118,101,114,114,105,100,101,115])),(Ks ([102,105,114,115,116])),(Ks ([111,110,108,121,95,111,110,101])),(Ks ([100,101,110,121,95,117,110,108,101,115,115,95,112,101,114,109,105,116])),(Ks ([112,101,114,109,105,116,95,117,110,108,101,115,115,95,100,101,110,121]))]),Im 0 1])
 .ret))
theorem A5d:Fn Tryz.prog 98 2 [.inl 0] c98:=AP Tryz.func98 Tryz.ntmps98 Hq0
def XI:C :=
 (Rg (Rq 4 [Qq] [])
 (Rg ([Im 6 0,Ip 7 177 [(t 6)],I1 5 (.alloc [(.int .i64 0),(.str []),(.int .i64 0)]),Is 3 5 7])
 (Rg (Rq 8 [Qc 0 5,Qd 8,Qj .eql 9 1,Qa 10] (Rz 12 11 [Qc 0 5,Qd 12,Qj .eql 13 5] (Rq 15 [Ql 11 14,Qa 15] (Rv 17 16 [Qc 1 5,Qd 17,Qa 1,Qb .eql 18 19] (Rq 21 [Qm 16 20] [Im 4 21])))))
 .ret)))
theorem A2d:Fn Tryz.prog 117 22 [.inl 4] XI:=AP Tryz.func117 Tryz.ntmps117 Hq0
def W2:C :=
 (Rg ([I1 4 (.alloc [(.int .i64 0),(.str []),(.int .i64 0)])])
 (Rg ([Im 6 0,Ip 7 177 [(t 6)],I1 5 (.alloc [(.int .i64 0),(.str []),(.int .i64 0)]),Is 3 5 7])
 (.seq (Rg (Rq 8 [Qc 0 5,Qd 8,Qa 1,Qb .neq 9 10] [])
 (.cond (t 11)
 (Rg (Rq 12 [Qa 0,Qa 0,.nilc (t 13),Qc 1 14,Qd 15,Qf 105 [t 12,t 16,(Ki 2)]] [])
 (Rg ([I1 18 (.build [(.int .i64 0),(.str []),(.int .i64 0)] []),Is 3 4 18])
 .ret))
 .skip))
 (Rg (Rq 19 [Qa 0,.nilc (t 19),Qc 1 20,Qd 21,Qj .add 22 1,.nilc (t 19),Qc 1 24] [Is 1 25 23])
 (Rg ([Ia 26 3 5,Is 3 4 26])
 .ret)))))
theorem A0U:Fn Tryz.prog 120 27 [.inr (4,true,3)] W2:=AP Tryz.func120 Tryz.ntmps120 Hq0
def Qt:C :=
 (Rg ([I1 2 (.alloc [(.bool false),(.str []),(.bool false),(.str []),(.int .i64 0),(.int .i64 0),(.str []),.nils,(.str []),(.str []),.nils,.nils,.nils])])
 (Rg (Rq 4 [Qa 0,.nilc (t 4),Qc 0 5,.bsl 1 [(Ks ([112,101,114,109,105,116])),(Ks ([100,101,110,121]))],Qf 119 [t 6,t 7],.bin .eql (t 8) (Ks ([112,101,114,109,105,116])),.build [(.bool false),(.str []),(.bool false),(.str []),(.int .i64 0),(.int .i64 0),(.str []),.nils,(.str []),(.str []),.nils,.nils,.nils] [(0,1,(t 9))]] [I1 3 (.alloc [(.bool false),(.str []),(.bool false),(.str []),(.int .i64 0),(.int .i64 0),(.str []),.nils,(.str []),(.str []),.nils,.nils,.nils]),Is 13 3 10])
 (Rg ([Im 11 0,In 12 11,If 13 0 12,Ic 14 121 [(t 13)],If 15 1 3,Is 1 15 14])
 (.seq (Rg ([Im 16 0,In 17 16,If 18 0 17,Ic 19 69 [(t 18),(Ks ([105,102]))],If 20 2 3,Is 1 20 19])
 (Rg ([If 21 2 3,Il 22 21])
 (.cond (t 22)
 (.reg [Im 23 0,Ic 24 122 [(t 23)],If 25 3 3,Is 8 25 24])
 .skip)))
 (.seq (.block 0
 (.loop
 (.seq (Rg (Rq 26 [Qa 0,.nilc (t 26),Qc 0 27,Qc 2 28,Qd 29,Qj .eql 30 0] [])
 (.cond (t 31)
 .skip
 (.exit 0)))
 (.block 1
 (.block 2
 (Rg ([Im 38 0,In 39 38,If 40 0 39,Ic 41 69 [(t 40),(Ks ([100,117,116,121]))],Im 37 41])
 (.cond (t 37)
 (.draw 0 [(If 42 11 3,[]),(Il 43 42,[]),(Im 44 0,[]),(In 45 44,[]),(If 46 0 45,[]),(Ic 47 120 [(t 46),(Ki 3)],[Il 43 42]),(I1 48 (.field false 1 1 (t 47)),[]),(I1 49 (.bslq 1 [(t 48)]),[]),(I1 50 (.app false 1 16 (t 43) (t 49)),[]),(If 51 11 3,[]),(Is 1 51 50,[])])
 (Rg ([Im 53 0,In 54 53,If 55 0 54,Ic 56 69 [(t 55),(Ks ([97,100,118,105,99,101]))],Im 52 56])
 (.cond (t 52)
 (.draw 0 [(If 57 12 3,[]),(Il 58 57,[]),(Im 59 0,[]),(In 60 59,[]),(If 61 0 60,[]),(Ic 62 120 [(t 61),(Ki 3)],[Il 58 57]),(I1 63 (.field false 1 1 (t 62)),[]),(I1 64 (.bslq 1 [(t 63)]),[]),(I1 65 (.app false 1 16 (t 58) (t 64)),[]),(If 66 12 3,[]),(Is 1 66 65,[])])
 (Rg ([Im 32 0,In 33 32,If 34 0 33,Ic 35 71 [(t 34),(Ks ([59]))]])
 (Rg ([Ia 36 13 3,Is 13 2 36])
 .ret)))))))))))
 (Rg ([Ia 67 13 3,Is 13 2 67])
 .ret))))))
theorem Zg:Fn Tryz.prog 123 68 [.inr (2,true,13)] Qt:=AP Tryz.func123 Tryz.ntmps123 Hq0
def Tc:C :=
 (Rg (Rq 3 [Qo 0] (Rq 5 [Qo 2,Qk 0] []))
 (.seq (Rg (Rq 9 [Qa 1,Qp 9] [])
 (.cond (t 10)
 (Rg (Rq 6 [Qk 0] [])
 .ret)
 .skip))
 (Rg (Rq 12 [Qc 0 3,Qd 12,Qe 8 5,Qg 97 [t 13,t 14]] [Im 11 15,Ie 16 0 11,Ie 17 1 11,Im 7 16,Im 8 17])
 (.seq (Rg (Rq 18 [Qa 8,Qj .eql 18 0,Qa 19] (Rv 21 20 [Qa 7,Qj .neq 21 1] (Rq 23 [Qm 20 22] [])))
 (.cond (t 23)
 (.reg (Rq 8 [Qk 6] []))
 .skip))
 (Rg ([Im 24 8,Im 6 24])
 .ret)))))
theorem Xu:Fn Tryz.prog 155 25 [.inl 6] Tc:=AP Tryz.func155 Tryz.ntmps155 Hq0
def TY:C :=
 (Rg (Rq 3 [Qo 1,Qk 0,Qk 0] [])
 (Rg ([If 13 0 3,Il 14 13,Ip 15 193 [(t 14)],Im 6 15])
 (.seq (Rg (Rq 16 [Qa 6,Qj .lss 16 0,Qa 17] (Rz 19 18 [Qc 7 3,Qd 19,Qi 20,Qa 6,Qb .neq 21 22] (Rq 24 [Ql 18 23] [])))
 (.cond (t 24)
 (Rg (Rq 4 [Qk 0,Qk 2] [])
 .ret)
 .skip))
 (.seq (Rg (Rq 25 [Qa 6,Qj .eql 25 0] [])
 (.cond (t 26)
 (Rg (Rq 27 [Qa 0,Qe 8 3,Qg 194 [t 27,t 28],Qh 0 29,Qh 1 29] [Im 4 30,Im 5 31])
 .ret)
 .skip))
 (Rg ([I1 32 (.build [(.int .i64 0),(.int .i64 0)] []),I1 7 (.alloc [(.int .i64 0),(.int .i64 0)]),Is 2 7 32])
 (.seq (Rg (Rq 8 [Qk 0] [])
 (.block 0
 (.loop
 (.seq (Rg (Rq 33 [Qa 8,Qa 6,Qb .lss 33 34] [])
 (.cond (t 35)
 .skip
 (.exit 0)))
 (.seq (.block 1
 (Rg (Rq 39 [Qa 0,Qc 7 3,Qd 40,Qa 8,Qn 8 41 42,Qe 8 43,Qg 157 [t 39,t 44]] [Im 38 45,Ie 46 0 38,Ie 47 1 38,Im 9 46,Im 10 47])
 (.seq (Rg (Rq 48 [Qa 10,Qj .neq 48 0] [])
 (.cond (t 49)
 (Rg (Im 50 10::Rq 4 [Qk 0,Qa 50] [])
 .ret)
 .skip))
 (.reg (Rq 51 [Qa 8,Qa 9,.iarr 1 2 (t 7) (t 51)] [Is 1 53 52])))))
 (.reg (Rq 36 [Qa 8,Qj .add 36 1] [Im 8 37])))))))
 (Rg ([Ip 54 195 [],Im 11 54])
 (.seq (Rg (Rq 12 [Qk 0] [])
 (.block 2
 (.loop
 (.seq (Rg (Rq 55 [Qa 12,Qa 11,Qi 56,Qb .lss 55 57] [])
 (.cond (t 58)
 .skip
 (.exit 2)))
 (.seq (.block 3
 (.seq (.draw 0 [(Im 61 11,[]),(Im 62 12,[]),(I1 63 (.iaddr 4 (t 61) (t 62)),[]),(If 64 0 63,[]),(Il 65 64,[]),(If 66 0 3,[]),(Il 67 66,[]),(I1 68 (.bin .eql (t 65) (t 67)),[]),(Im 69 68,[]),(Jm 70 69 true 11,[]),(Jm 71 69 true 12,[]),(I2 72 69 (.iaddr 4 (t 70) (t 71)),[]),(Jf 73 69 true 1 72,[]),(Jl 74 69 true 73,[]),(I2 75 69 (.iarr 1 2 (t 7) (Ki 0)),[]),(Jl 76 69 true 75,[]),(I2 77 69 (.bin .eql (t 74) (t 76)),[]),(I1 78 (.pick (t 69) (t 77) KF),[]),(Im 79 78,[]),(Jm 80 79 true 11,[]),(Jm 81 79 true 12,[]),(I2 82 79 (.iaddr 4 (t 80) (t 81)),[]),(Jf 83 79 true 2 82,[]),(Jl 84 79 true 83,[]),(I2 85 79 (.iarr 1 2 (t 7) (Ki 1)),[]),(Jl 86 79 true 85,[]),(I2 87 79 (.bin .eql (t 84) (t 86)),[]),(I1 88 (.pick (t 79) (t 87) KF),[])])
 (.cond (t 88)
 (Rg (Rq 89 [Qa 11,Qa 12,Qn 4 89 90,Qc 3 91,Qd 92] (Rq 4 [Qa 93,Qk 0] []))
 .ret)
 .skip)))
 (.reg (Rq 59 [Qa 12,Qj .add 59 1] [Im 12 60])))))))
 (Rg (Rq 4 [Qk 0,Qk 6] [])
 .ret)))))))))
theorem A2c:Fn Tryz.prog 157 94 [.inl 4,.inl 5] TY:=AP Tryz.func157 Tryz.ntmps157 Hq0
def Z8:C :=
 (Rg (Rq 6 [Qk 0] [])
 (Rg (Rq 7 [Qq] [])
 (.seq (Rg ([Im 8 0])
 (.block 0
 (.seq (Rg ([I1 21 (.bin .eql (t 8) (Ks ([43]))),Im 20 21])
 (.cond (t 20)
 .skip
 (Rg ([I1 22 (.bin .eql (t 8) (Ks ([45]))),Im 20 22])
 (.cond (t 20)
 .skip
 (.reg [I1 23 (.bin .eql (t 8) (Ks ([42]))),Im 20 23])))))
 (.cond (t 20)
 (Rg (Rq 24 [Qa 0,Qa 1,Qa 2,Qg 198 [t 24,t 25,t 26]] [Im 6 27])
 .ret)
 (.seq (Rg ([I1 29 (.bin .eql (t 8) (Ks ([97,110,100]))),Im 28 29])
 (.cond (t 28)
 .skip
 (.reg [I1 30 (.bin .eql (t 8) (Ks ([111,114]))),Im 28 30])))
 (.cond (t 28)
 (.reg (Rq 31 [Qa 1,Qj .eql 31 1,Qa 32] (Rv 34 33 [Qa 2,Qj .eql 34 1] (Rq 36 [Qm 33 35] [Im 7 36]))))
 (.seq (Rg ([I1 38 (.bin .eql (t 8) (Ks ([61,61]))),Im 37 38])
 (.cond (t 37)
 .skip
 (.reg [I1 39 (.bin .eql (t 8) (Ks ([33,61]))),Im 37 39])))
 (.cond (t 37)
 (.reg (Rq 40 [Qa 1,Qa 2,Qb .eql 40 41] [Im 7 42]))
 (Rg ([I1 44 (.bin .eql (t 8) (Ks ([105,110]))),Im 43 44])
 (.cond (t 43)
 (.reg (Rq 45 [Qa 2,Qa 1,.bin .add (Ki 10) (t 46),Qb .eql 45 47] [Im 7 48]))
 (.reg (Rq 9 [Qa 1,Qa 2,Qb .eql 9 10,Qa 11] (Rv 13 12 [Qa 1,Qj .neq 13 1] (Rq 15 [Qm 12 14,Qa 15] (Rv 17 16 [Qa 1,Qj .lss 17 10] (Rq 19 [Qm 16 18] [Im 7 19]))))))))))))))))
 (.seq (Rg ([Im 49 7])
 (.cond (t 49)
 (Rg (Rq 6 [Qk 1] [])
 .ret)
 .skip))
 (Rg (Rq 6 [Qk 0] [])
 .ret)))))
theorem A0h:Fn Tryz.prog 161 50 [.inl 6] Z8:=AP Tryz.func161 Tryz.ntmps161 Hq0
def Yr:C :=
 (Rg ([I1 0 (.mv KN)])
 (Rg ([I1 1 (.bsl 1 [(Ks ([123])),(Ks ([125])),(Ks ([40])),(Ks ([41])),(Ks ([91])),(Ks ([93])),(Ks ([59])),(Ks ([46])),(Ks ([44])),(Ks ([43])),(Ks ([45])),(Ks ([42])),(Ks ([60])),(Ks ([62])),(Ks ([61,61])),(Ks ([33,61])),(Ks ([60,61])),(Ks ([62,61]))]),Im 0 1])
 .ret))
theorem Yj:Fn Tryz.prog 173 2 [.inl 0] Yr:=AP Tryz.func173 Tryz.ntmps173 Hq0
def Xt:C :=
 (Rg (Rq 2 [Qq] [])
 (Rg (Rq 3 [Qa 0,Qa 0,Qb .neq 3 4] [Im 2 5])
 .ret))
theorem YX:Fn Tryz.prog 175 6 [.inl 2] Xt:=AP Tryz.func175 Tryz.ntmps175 Hq0
def A0a:C :=
 (Rg (Rq 1 [Qo 0,Qq] [])
 (.seq (Rg (Rq 3 [Qc 3 1,Qd 3,Qi 4,Qj .gtr 5 0,Qa 6] (Rz 8 7 [Qc 0 1,Qd 8,Qj .neq 9 3,Qa 10] (Rv 12 11 [Qc 2 1,Qd 12,.bin .neq (t 13) (Ks ([]))] (Rz 15 7 [Qm 11 14] (Rq 16 [Ql 7 15] [])))))
 (.cond (t 16)
 (Rg (Rq 2 [Qq] [])
 .ret)
 .skip))
 (.seq (Rg ([If 17 0 1,Il 18 17])
 (.block 0
 (Rg (Rq 20 [Qj .eql 18 0] [Im 19 20])
 (.cond (t 19)
 (Rg (Rq 21 [Qc 1 1,Qd 21,Qj .eql 22 0] [Im 2 23])
 .ret)
 (Rg (Rq 25 [Qj .eql 18 1] [Im 24 25])
 (.cond (t 24)
 (Rg (Rq 26 [Qc 1 1,Qd 26,Qj .eql 27 0,Qa 28] (Rz 30 29 [Qc 1 1,Qd 30,Qj .eql 31 1] (Rq 33 [Ql 29 32] [Im 2 33])))
 .ret)
 (Rg (Rq 35 [Qj .eql 18 2] [Im 34 35])
 (.cond (t 34)
 (Rg (Rq 2 [Qr] [])
 .ret)
 (Rg (Rq 37 [Qj .eql 18 3] [Im 36 37])
 (.cond (t 36)
 (Rg (Rq 38 [Qc 1 1,Qd 38,Qj .eql 39 0,Qa 40] (Rv 42 41 [Qc 2 1,Qd 42,Qs 43,Qj .leq 44 64] (Rq 46 [Qm 41 45] [Im 2 46])))
 .ret)
 (Rg (Rq 48 [Qj .eql 18 4] [Im 47 48])
 (.cond (t 47)
 (Rg (Rq 49 [Qc 1 1,Qd 49,Qj .geq 50 0,Qa 51] (Rv 53 52 [Qc 1 1,Qd 53,Qj .leq 54 1099511627776] (Rq 56 [Qm 52 55] [Im 2 56])))
 .ret)
 .skip))))))))))))
 (Rg (Rq 2 [Qq] [])
 .ret))))
theorem A0o:Fn Tryz.prog 179 57 [.inl 2] A0a:=AP Tryz.func179 Tryz.ntmps179 Hq0
def Xe:C :=
 (Rg (Rq 1 [Qo 0,.alloc [(.str []),(.str [])]] [])
 (Rg (Rq 3 [Qc 0 1,Qd 3,Qc 1 1,Qd 5,.build [(.str []),(.str [])] [(0,1,(t 4)),(1,1,(t 6))]] [Is 2 2 7])
 .ret))
theorem XK:Fn Tryz.prog 188 8 [.inr (2,true,2)] Xe:=AP Tryz.func188 Tryz.ntmps188 Hq0
def YK:C :=
 (Rg (Rq 1 [Qo 0,.alloc [(.str []),(.str [])]] [])
 (Rg (Rq 3 [Qc 1 1,Qd 3,.build [(.str []),(.str [])] [(0,1,(t 4))]] [Is 2 2 5])
 .ret))
theorem A0m:Fn Tryz.prog 192 6 [.inr (2,true,2)] YK:=AP Tryz.func192 Tryz.ntmps192 Hq0
end GP
namespace GP
open Go Go.Proofs
open Rd O
set_option maxRecDepth 100000
def c16:C :=
 (Rg ([I1 0 (.mv KN)])
 (Rg ([I1 1 (.bsl 1 [(Ks ([102,97,99,116])),(Ks ([116,114,117,116,104])),(Ks ([110,117,109,98,101,114])),(Ks ([116,101,120,116])),(Ks ([116,105,109,101])),(Ks ([98,97,103])),(Ks ([117,115,101])),(Ks ([112,111,108,105,99,121])),(Ks ([98,121])),(Ks ([102,111,114])),(Ks ([112,101,114,109,105,116])),(Ks ([100,101,110,121])),(Ks ([105,102])),(Ks ([100,117,116,121])),(Ks ([97,100,118,105,99,101])),(Ks ([116,114,117,101])),(Ks ([102,97,108,115,101])),(Ks ([110,111,119])),(Ks ([111,114])),(Ks ([97,110,100])),(Ks ([110,111,116])),(Ks ([105,110])),(Ks ([104,97,115])),(Ks ([114,111,108,101])),(Ks ([115,105,122,101])),(Ks ([115,117,98,106,101,99,116])),(Ks ([114,101,115,111,117,114,99,101])),(Ks ([97,99,116,105,111,110])),(Ks ([101,110,118]))]),Im 0 1])
 .ret))
theorem A4s:Fn Tryz.prog 16 2 [.inl 0] c16:=AP Tryz.func16 Tryz.ntmps16 Hq0
def c41:C :=
 (Rg (Rq 2 [.alloc [.nils,(.str []),.nils],Qk 0,Qk 0] [])
 (Rg ([Im 10 0,Ip 11 40 [(t 10)],Im 9 11,Ie 12 0 9,Ie 13 1 9,Ie 14 2 9,Im 5 12,Im 6 13,Im 7 14])
 (.seq (Rg (Rq 15 [Qa 7,Qj .neq 15 0] [])
 (.cond (t 16)
 (Rg (Rq 17 [.build [.nils,(.str []),.nils] [],Qa 6,Qa 7] [Is 3 2 17,Im 3 18,Im 4 19])
 .ret)
 .skip))
 (Rg ([Im 21 5,Ip 22 31 [(t 21)],Im 20 22,Ie 23 0 20,Ie 24 1 20,Ie 25 2 20,I1 8 (.alloc [.nils,(.str []),.nils]),Is 3 8 23,Im 6 24,Im 7 25])
 (.seq (Rg (Rq 26 [Qa 7,Qj .eql 26 0] [])
 (.cond (t 27)
 (.reg [Ia 28 3 8,Ip 29 93 [(t 28)],Im 7 29])
 .skip))
 (.seq (Rg (Rq 30 [Qa 7,Qj .neq 30 0] [])
 (.cond (t 31)
 (Rg (Rq 32 [.build [.nils,(.str []),.nils] [],Qa 6,Qa 7] [Is 3 2 32,Im 3 33,Im 4 34])
 .ret)
 .skip))
 (Rg (Ia 35 3 8::Is 3 2 35::Rq 3 [Qk 0,Qk 0] [])
 .ret)))))))
theorem A4g:Fn Tryz.prog 41 36 [.inr (2,true,3),.inl 3,.inl 4] c41:=AP Tryz.func41 Tryz.ntmps41 Hq0
def c45:C :=
 (Rg (Rq 2 [Qq] [])
 (.seq (Rg (Rq 3 [Qk 0] [])
 (.block 0
 (.loop
 (.seq (Rg (Rq 4 [Qa 3,Qa 0,Qi 5,Qb .lss 4 6,Qa 7] (Rv 9 8 [Qa 3,Qj .lss 9 20] (Rq 11 [Qm 8 10] [])))
 (.cond (t 11)
 .skip
 (.exit 0)))
 (.seq (.block 1
 (Rg (Rq 14 [Qa 0,Qa 3,Qn 4 14 15,Qc 0 16,Qd 17,Qs 18,Qj .gtr 19 200,Qa 20] (Rz 22 21 [Qa 0,Qa 3,Qn 4 22 23,Qc 1 24,Qd 25,Qs 26,Qj .gtr 27 200] (Rq 29 [Ql 21 28] [])))
 (.cond (t 29)
 (Rg (Rq 2 [Qq] [])
 .ret)
 .skip)))
 (.reg (Rq 12 [Qa 3,Qj .add 12 1] [Im 3 13])))))))
 (Rg (Rq 30 [Qa 0,Qi 30,Qj .leq 31 12] [Im 2 32])
 .ret)))
theorem A4j:Fn Tryz.prog 45 33 [.inl 2] c45:=AP Tryz.func45 Tryz.ntmps45 Hq0
def c54:C :=
 (Rg (Rq 2 [Qo 0,Qo 1,Qq] [])
 (.seq (Rg (Rq 8 [Qc 0 2,Qd 8,Qc 0 3,Qd 10,Qb .neq 9 11,Qa 12] (Rz 14 13 [Qc 1 2,Qd 14,Qc 1 3,Qd 16,Qb .neq 15 17] (Rq 19 [Ql 13 18,Qa 19] (Rz 21 20 [Qc 2 2,Qd 21,Qc 2 3,Qd 23,Qb .neq 22 24] (Rq 26 [Ql 20 25,Qa 26] (Rz 28 27 [Qc 3 2,Qd 28,Qi 29,Qc 3 3,Qd 31,Qi 32,Qb .neq 30 33] (Rq 35 [Ql 27 34] [])))))))
 (.cond (t 35)
 (Rg (Rq 4 [Qq] [])
 .ret)
 .skip))
 (.seq (Rg (Rq 5 [Qk 0] [])
 (.block 0
 (.loop
 (.seq (Rg (Rq 36 [Qa 5,Qc 3 2,Qd 37,Qi 38,Qb .lss 36 39] [])
 (.cond (t 40)
 .skip
 (.exit 0)))
 (.seq (.block 1
 (.seq (.draw 2 [(If 43 3 2,[]),(Il 44 43,[]),(Im 45 5,[]),(I1 46 (.iaddr 4 (t 44) (t 45)),[]),(Ia 47 4 46,[]),(If 48 3 3,[]),(Il 49 48,[]),(Im 50 5,[]),(I1 51 (.iaddr 4 (t 49) (t 50)),[]),(Ia 52 4 51,[]),(I1 6 (.rawAt 2 [(.int .i64 0),(.int .i64 0),(.str []),.nils]),[]),(I1 7 (.rawAt 1 [(.int .i64 0),(.int .i64 0),(.str []),.nils]),[]),(I4 (.fillAt 2 4 (t 6) (t 47)),[]),(I4 (.fillAt 1 4 (t 7) (t 52)),[])])
 (Rg (Rq 53 [Qc 0 6,Qd 53,Qc 0 7,Qd 55,Qb .neq 54 56,Qa 57] (Rz 59 58 [Qc 1 6,Qd 59,Qc 1 7,Qd 61,Qb .neq 60 62] (Rq 64 [Ql 58 63,Qa 64] (Rz 66 65 [Qc 2 6,Qd 66,Qc 2 7,Qd 68,Qb .neq 67 69] (Rq 71 [Ql 65 70,Qa 71] (Rz 73 72 [Qc 3 6,Qd 73,Qi 74,Qj .gtr 75 0] (Rq 77 [Ql 72 76,Qa 77] (Rz 79 78 [Qc 3 7,Qd 79,Qi 80,Qj .gtr 81 0] (Rq 83 [Ql 78 82] [])))))))))
 (.cond (t 83)
 (Rg (Rq 4 [Qq] [])
 .ret)
 .skip))))
 (.reg (Rq 41 [Qa 5,Qj .add 41 1] [Im 5 42])))))))
 (Rg (Rq 4 [Qr] [])
 .ret))))
theorem A45:Fn Tryz.prog 54 84 [.inl 4] c54:=AP Tryz.func54 Tryz.ntmps54 Hq0
def c67:C :=
 (Rg (Rq 2 [Qq] [])
 (.seq (Rg (Rq 3 [Qk 0] [])
 (.block 0
 (.loop
 (.seq (Rg (Rq 4 [Qa 3,Qa 0,Qi 5,Qb .lss 4 6] [])
 (.cond (t 7)
 .skip
 (.exit 0)))
 (.seq (.block 1
 (Rg (Rq 10 [Qa 0,Qa 3,Qn 1 10 11,Qd 12,.build [(.int .i64 0),(.str []),(.int .i64 0)] [(0,1,(Ki 3)),(1,1,(t 13))],Qg 57 [t 14],Qp 15] [])
 (.cond (t 16)
 (Rg (Rq 2 [Qq] [])
 .ret)
 .skip)))
 (.reg (Rq 8 [Qa 3,Qj .add 8 1] [Im 3 9])))))))
 (Rg (Rq 2 [Qr] [])
 .ret)))
theorem A5t:Fn Tryz.prog 67 17 [.inl 2] c67:=AP Tryz.func67 Tryz.ntmps67 Hq0
def c70:C :=
 (Rg ([I1 2 (.alloc [(.str []),(.str []),(.int .i64 0),(.bool false)])])
 (Rg ([I1 3 (.alloc [(.str []),(.str []),(.int .i64 0),(.bool false)])])
 (Rg ([Im 5 0,In 6 5,If 7 0 6,Ic 8 118 [(t 7)],Im 4 8,Ie 9 0 4,Ie 10 1 4,If 11 0 3,Is 1 11 9,If 12 1 3,Is 1 12 10])
 (.seq (Rg (Rq 13 [Qa 0,.nilc (t 13),Qc 0 14,.bsl 1 [(Ks ([116,114,117,116,104])),(Ks ([110,117,109,98,101,114])),(Ks ([116,101,120,116])),(Ks ([116,105,109,101]))],Qf 119 [t 15,t 16]] [])
 (.block 0
 (Rg ([I1 19 (.bin .eql (t 17) (Ks ([116,114,117,116,104]))),Im 18 19])
 (.cond (t 18)
 (.reg [If 20 2 3,I4 (.store 1 (t 20) (Ki 1))])
 (Rg ([I1 22 (.bin .eql (t 17) (Ks ([110,117,109,98,101,114]))),Im 21 22])
 (.cond (t 21)
 (.reg [If 23 2 3,I4 (.store 1 (t 23) (Ki 2))])
 (Rg ([I1 25 (.bin .eql (t 17) (Ks ([116,101,120,116]))),Im 24 25])
 (.cond (t 24)
 (.reg [If 26 2 3,I4 (.store 1 (t 26) (Ki 3))])
 (Rg ([I1 28 (.bin .eql (t 17) (Ks ([116,105,109,101]))),Im 27 28])
 (.cond (t 27)
 (.reg [If 29 2 3,I4 (.store 1 (t 29) (Ki 4))])
 .skip))))))))))
 (Rg ([Im 30 0,In 31 30,If 32 0 31,Ic 33 69 [(t 32),(Ks ([98,97,103]))],If 34 3 3,Is 1 34 33])
 (Rg ([Im 35 0,In 36 35,If 37 0 36,Ic 38 71 [(t 37),(Ks ([59]))]])
 (Rg ([Ia 39 4 3,Is 4 2 39])
 .ret)))))))
theorem A32:Fn Tryz.prog 70 40 [.inr (2,true,4)] c70:=AP Tryz.func70 Tryz.ntmps70 Hq0
def c92:C :=
 (Rg (Rq 4 [.alloc [(.int .i64 0),(.str []),(.int .i64 0)],Qk 0] [])
 (Rg (Rq 16 [Qa 0,Qa 1,.idxs (t 16) (t 17)] [Im 6 18])
 (.seq (.block 0
 (Rg (Rq 20 [Qa 6,.bin .geq (t 20) (k (.int .u8 97)),Qa 21] (Rv 23 22 [Qa 6,.bin .leq (t 23) (k (.int .u8 122))] (Rq 25 [Qm 22 24] [Im 19 25])))
 (.cond (t 19)
 (Rg (Rq 26 [Qa 0,Qa 1,Qg 144 [t 26,t 27,(Kf 146)]] [Im 7 28])
 (.seq (Rg (Rq 29 [Qa 7,Qj .gtr 29 64] [])
 (.cond (t 30)
 (Rg (I1 31 (.build [(.int .i64 0),(.str []),(.int .i64 0)] [])::Is 3 4 31::Rq 5 [Qk 0] [])
 .ret)
 .skip))
 (Rg (Rq 32 [Qa 0,Qa 1,Qa 1,Qa 7,Qb .add 34 35,.subs (t 32) (some (t 33)) (some (t 36)),.build [(.int .i64 0),(.str []),(.int .i64 0)] [(0,1,(Ki 1)),(1,1,(t 37))],Qa 7] [Is 3 4 38,Im 5 39])
 .ret)))
 (Rg ([Im 41 6,Ip 42 148 [(t 41)],Im 40 42])
 (.cond (t 40)
 (Rg (Rq 44 [Qa 0,Qa 1,Qg 149 [t 44,t 45,(Ki 9223372036854775807)]] [Im 43 46,Ie 47 0 43,Ie 48 1 43,Im 8 47,Im 9 48])
 (Rg (Rq 49 [Qa 8,.build [(.int .i64 0),(.str []),(.int .i64 0)] [(0,1,(Ki 2)),(2,1,(t 49))],Qa 9] [Is 3 4 50,Im 5 51])
 .ret))
 (Rg ([Im 53 6,I1 54 (.bin .eql (t 53) (k (.int .u8 64))),Im 52 54])
 (.cond (t 52)
 (Rg (Rq 56 [Qa 0,Qa 1,Qj .add 57 1,Qg 149 [t 56,t 58,(Ki 1099511627776)]] [Im 55 59,Ie 60 0 55,Ie 61 1 55,Im 10 60,Im 11 61])
 (.seq (Rg (Rq 62 [Qa 11,Qj .eql 62 0] [])
 (.cond (t 63)
 (Rg (I1 64 (.build [(.int .i64 0),(.str []),(.int .i64 0)] [])::Is 3 4 64::Rq 5 [Qk 0] [])
 .ret)
 .skip))
 (Rg (Rq 65 [Qa 10,.build [(.int .i64 0),(.str []),(.int .i64 0)] [(0,1,(Ki 4)),(2,1,(t 65))],Qa 11,Qj .add 67 1] [Is 3 4 66,Im 5 68])
 .ret)))
 (Rg ([Im 70 6,I1 71 (.bin .eql (t 70) (k (.int .u8 34))),Im 69 71])
 (.cond (t 69)
 (Rg (Rq 73 [Qa 0,Qa 1,Qg 150 [t 73,t 74]] [Im 72 75,Ie 76 0 72,Ie 77 1 72,Im 12 76,Im 13 77])
 (Rg (Rq 78 [Qa 12,.build [(.int .i64 0),(.str []),(.int .i64 0)] [(0,1,(Ki 3)),(1,1,(t 78))],Qa 13] [Is 3 4 79,Im 5 80])
 .ret))
 .skip)))))))))
 (.seq (Rg (Rq 81 [Qg 151 [],Qi 81,Qk 0] [])
 (.block 1
 (.loop
 (Rg (Rq 84 [Qb .lss 83 82] [])
 (.seq (.cond (t 84)
 .skip
 (.exit 1))
 (.seq (.block 2
 (Rg (Rq 85 [Qn 1 81 83,Qd 85] [Im 15 86])
 (Rg (Rq 87 [Qa 0,Qa 1,.subs (t 87) (some (t 88)) none,Qa 15,Qg 152 [t 89,t 90]] [])
 (.cond (t 91)
 (Rg (Rq 92 [Qa 15,.build [(.int .i64 0),(.str []),(.int .i64 0)] [(0,1,(Ki 5)),(1,1,(t 92))],Qa 15,Qs 94] [Is 3 4 93,Im 5 95])
 .ret)
 .skip))))
 (.reg (Rq 96 [Qj .add 83 1] [Im 83 96]))))))))
 (Rg (I1 97 (.build [(.int .i64 0),(.str []),(.int .i64 0)] [])::Is 3 4 97::Rq 5 [Qk 0] [])
 .ret)))))
theorem A4x:Fn Tryz.prog 92 98 [.inr (4,true,3),.inl 5] c92:=AP Tryz.func92 Tryz.ntmps92 Hq0
def c93:C :=
 (Rg (Rq 1 [Qo 0,Qk 0] [])
 (.seq (Rg ([Ia 11 3 1,Ip 12 153 [(t 11)],Im 3 12])
 (Rg (Rq 13 [Qa 3,Qj .neq 13 0] [])
 (.cond (t 14)
 (Rg ([Im 15 3,Im 2 15])
 .ret)
 .skip)))
 (.seq (Rg ([Ia 16 3 1,Ip 17 154 [(t 16)],Im 4 17])
 (Rg (Rq 18 [Qa 4,Qj .neq 18 0] [])
 (.cond (t 19)
 (Rg ([Im 20 4,Im 2 20])
 .ret)
 .skip)))
 (.seq (Rg (Rq 21 [Qc 2 1,Qd 21,Qi 22,Qk 0] [])
 (.block 0
 (.loop
 (Rg (Rq 25 [Qb .lss 24 23] [])
 (.seq (.cond (t 25)
 .skip
 (.exit 0))
 (.seq (.block 1
 (Rg (Rq 26 [Qn 13 22 24,Qe 13 26] [I1 6 (.alloc [(.str []),(.str []),(.str []),(.bool false),(.str []),(.int .i64 0),(.int .i64 0),(.str []),.nils,(.str []),(.str []),.nils,.nils]),Is 13 6 27])
 (.seq (Rg (Rq 28 [Qe 3 1,Qc 3 6,Qd 29,Qc 4 6,Qe 8 31,Qg 155 [t 28,t 30,t 32]] [Im 7 33])
 (Rg (Rq 34 [Qa 7,Qj .neq 34 0] [])
 (.cond (t 35)
 (Rg ([Im 36 7,Im 2 36])
 .ret)
 .skip)))
 (Rg (Rq 37 [Qc 12 6,Qd 37,Qi 38,Qk 0] [])
 (.block 2
 (.loop
 (Rg (Rq 41 [Qb .lss 40 39] [])
 (.seq (.cond (t 41)
 .skip
 (.exit 2))
 (.seq (.block 3
 (Rg (Rq 42 [Qn 13 38 40,Qe 13 42] [I1 9 (.alloc [(.bool false),(.str []),(.bool false),(.str []),(.int .i64 0),(.int .i64 0),(.str []),.nils,(.str []),(.str []),.nils,.nils,.nils]),Is 13 9 43])
 (Rg (Rq 44 [Qe 3 1,Qc 2 9,Qd 45,Qc 3 9,Qe 8 47,Qg 155 [t 44,t 46,t 48]] [Im 10 49])
 (Rg (Rq 50 [Qa 10,Qj .neq 50 0] [])
 (.cond (t 51)
 (Rg ([Im 52 10,Im 2 52])
 .ret)
 .skip)))))
 (.reg (Rq 53 [Qj .add 40 1] [Im 40 53])))))))))))
 (.reg (Rq 54 [Qj .add 24 1] [Im 24 54]))))))))
 (Rg (Rq 2 [Qk 0] [])
 .ret)))))
theorem A4h:Fn Tryz.prog 93 55 [.inl 2] c93:=AP Tryz.func93 Tryz.ntmps93 Hq0
def YJ:C :=
 (Rg (Rq 2 [.mv (Ks ([])),.mv (Ks ([]))] [])
 (Rg (Rq 5 [Qa 0,.bsl 1 [(Ks ([115,117,98,106,101,99,116])),(Ks ([114,101,115,111,117,114,99,101])),(Ks ([97,99,116,105,111,110])),(Ks ([101,110,118]))],Qf 119 [t 5,t 6]] [Im 4 7])
 (Rg ([Im 8 0,Ic 9 71 [(t 8),(Ks ([46]))]])
 (Rg ([Im 10 4,Im 11 0,Ic 12 121 [(t 11)],Im 2 10,Im 3 12])
 .ret))))
theorem ZS:Fn Tryz.prog 118 13 [.inl 2,.inl 3] YJ:=AP Tryz.func118 Tryz.ntmps118 Hq0
def TG:C :=
 (Rg ([I1 2 (.mv (Ks ([])))])
 (.seq (Rg ([Im 4 0,Ip 5 177 [(t 4)],I1 3 (.alloc [(.int .i64 0),(.str []),(.int .i64 0)]),Is 3 3 5])
 (Rg (Rq 6 [Qc 0 3,Qd 6,Qj .neq 7 1,Qa 8] (Rz 10 9 [Qc 1 3,Qd 10,Qg 17 [t 11]] (Rq 13 [Ql 9 12] [])))
 (.cond (t 13)
 (Rg (Rq 14 [Qa 0,Qa 0,.nilc (t 15),Qc 1 16,Qd 17,Qf 105 [t 14,t 18,(Ki 2)]] [])
 (Rg ([I1 2 (.mv (Ks ([])))])
 .ret))
 .skip)))
 (Rg (Rq 20 [Qa 0,Qf 120 [t 20,(Ki 1)],.field false 1 1 (t 21)] [Im 2 22])
 .ret)))
theorem A1z:Fn Tryz.prog 121 23 [.inl 2] TG:=AP Tryz.func121 Tryz.ntmps121 Hq0
def Un:C :=
 (Rg ([I1 2 (.alloc [(.str []),(.int .i64 0),(.int .i64 0),(.str []),.nils,(.str []),(.str []),.nils])])
 (Rg ([Im 5 0,In 6 5,If 7 0 6,If 8 1 7,Il 9 8,Im 3 9])
 (Rg ([Im 10 0,In 11 10,If 12 0 11,Ic 13 49 [(t 12)],I1 4 (.alloc [(.str []),(.int .i64 0),(.int .i64 0),(.str []),.nils,(.str []),(.str []),.nils]),Is 8 4 13])
 (.seq (Rg (Rq 14 [Qa 0,.nilc (t 14),Qc 0 15,Qc 2 16,Qd 17,Qj .eql 18 0,Qa 19] (Rv 21 20 [Qe 8 4,Qg 26 [t 21],Qj .gtr 22 12] (Rq 24 [Qm 20 23] [])))
 (.cond (t 24)
 (.reg (Rq 25 [Qa 0,.nilc (t 25),Qc 0 26,Qa 3,Qf 105 [t 27,t 28,(Ki 11)]] []))
 .skip))
 (Rg ([Ia 30 8 4,Is 8 2 30])
 .ret)))))
theorem ZD:Fn Tryz.prog 122 31 [.inr (2,true,8)] Un:=AP Tryz.func122 Tryz.ntmps122 Hq0
def A0A:C :=
 (Rg (Rq 3 [Qo 1,Qk 0,Qk 0] [])
 (.seq (Rg ([If 8 0 3,Il 9 8])
 (.block 0
 (Rg ([I1 11 (.bin .eql (t 9) (Ks ([118,97,108,117,101]))),Im 10 11])
 (.cond (t 10)
 (.seq (Rg ([If 12 1 3,Ia 13 4 12,Ip 14 196 [(t 13)],Im 6 14])
 (Rg (Rq 15 [Qa 6,Qj .neq 15 0] [])
 (.cond (t 16)
 (Rg (Im 17 6::Rq 4 [Qa 17,Qk 0] [])
 .ret)
 .skip)))
 (Rg (Rq 4 [Qk 0,Qk 2] [])
 .ret))
 (Rg ([I1 19 (.bin .eql (t 9) (Ks ([110,111,119]))),Im 18 19])
 (.cond (t 18)
 (Rg (Rq 4 [Qk 4,Qk 0] [])
 .ret)
 (Rg ([I1 21 (.bin .eql (t 9) (Ks ([114,111,108,101]))),Im 20 21])
 (.cond (t 20)
 (Rg (Rq 4 [Qk 1,Qk 0] [])
 .ret)
 .skip))))))))
 (Rg (Rq 22 [Qa 0,Qc 5 3,Qd 23,Qc 6 3,Qd 25,Qg 197 [t 22,t 24,t 26]] [Im 7 27])
 (.seq (Rg (Rq 28 [Qa 7,Qj .eql 28 0] [])
 (.cond (t 29)
 (Rg (Rq 4 [Qk 0,Qk 8] [])
 .ret)
 .skip))
 (.seq (Rg (Rq 30 [Qc 0 3,Qd 30,.bin .eql (t 31) (Ks ([104,97,115]))] [])
 (.cond (t 32)
 (.reg (Rq 7 [Qk 1] []))
 .skip))
 (Rg (Im 33 7::Rq 4 [Qa 33,Qk 0] [])
 .ret))))))
theorem Zv:Fn Tryz.prog 159 34 [.inl 4,.inl 5] A0A:=AP Tryz.func159 Tryz.ntmps159 Hq0
def YR:C :=
 (Rg (Rq 2 [Qq] [])
 (Rg (Rq 3 [Qa 0,.bin .geq (t 3) (k (.int .u8 48)),Qa 4] (Rv 6 5 [Qa 0,.bin .leq (t 6) (k (.int .u8 57))] (Rq 8 [Qm 5 7] [Im 2 8])))
 .ret))
theorem A1K:Fn Tryz.prog 163 9 [.inl 2] YR:=AP Tryz.func163 Tryz.ntmps163 Hq0
def W7:C :=
 (Rg ([I1 2 (.alloc [(.str []),(.int .i64 0),(.int .i64 0),(.str []),.nils,(.str []),(.str []),.nils])])
 (.seq (Rg ([Im 3 0,Ic 4 69 [(t 3),(Ks ([110,111,116]))]])
 (.cond (t 4)
 (Rg (Rq 5 [Qa 0,Qf 170 [t 5],.bsl 8 [t 6],.build [(.str []),(.int .i64 0),(.int .i64 0),(.str []),.nils,(.str []),(.str []),.nils] [(0,1,(Ks ([110,111,116]))),(7,1,(t 7))]] [Is 8 2 8])
 .ret)
 .skip))
 (Rg ([Im 9 0,Ic 10 202 [(t 9)],Is 8 2 10])
 .ret)))
theorem Xx:Fn Tryz.prog 170 11 [.inr (2,true,8)] W7:=AP Tryz.func170 Tryz.ntmps170 Hq0
def XT:C :=
 (Rg (Rq 1 [Qo 0,.alloc [(.str []),(.str [])]] [])
 (Rg (Rq 3 [Qc 0 1,Qd 3,.build [(.str []),(.str [])] [(0,1,(t 4))]] [Is 2 2 5])
 .ret))
theorem A1i:Fn Tryz.prog 190 6 [.inr (2,true,2)] XT:=AP Tryz.func190 Tryz.ntmps190 Hq0
def A04:C :=
 (Rg (Rq 4 [Qk 0] [])
 (.seq (Rg (Rq 5 [Qa 0,Qa 1,Qb .lss 5 6] [])
 (.cond (t 7)
 (Rg ([I1 4 (.mv (k (.int .i64 (-1))))])
 .ret)
 .skip))
 (.seq (Rg (Rq 8 [Qa 0,Qa 1,Qb .gtr 8 9] [])
 (.cond (t 10)
 (Rg (Rq 4 [Qk 1] [])
 .ret)
 .skip))
 (Rg (Rq 4 [Qk 0] [])
 .ret))))
theorem Xf:Fn Tryz.prog 203 11 [.inl 4] A04:=AP Tryz.func203 Tryz.ntmps203 Hq0
def YG:C :=
 (Rg ([I1 2 (.alloc [(.int .i64 0),(.int .i64 0),(.str []),.nils])])
 (.seq (Rg ([Im 3 0])
 (.cond (t 3)
 (Rg ([I1 4 (.build [(.int .i64 0),(.int .i64 0),(.str []),.nils] [(0,1,(Ki 1)),(1,1,(Ki 1))]),Is 4 2 4])
 .ret)
 .skip))
 (Rg ([I1 5 (.build [(.int .i64 0),(.int .i64 0),(.str []),.nils] [(0,1,(Ki 1))]),Is 4 2 5])
 .ret)))
theorem A0r:Fn Tryz.prog 244 6 [.inr (2,true,4)] YG:=AP Tryz.func244 Tryz.ntmps244 Hq0
end GP
namespace GP
open Go Go.Proofs
open Rd O
set_option maxRecDepth 100000
def c20:C :=
 (Rg (Rq 2 [Qo 0,Qo 1,Qq] [])
 (.seq (Rg (Rq 6 [Qc 0 2,Qd 6,Qc 0 3,Qd 8,Qb .neq 7 9,Qa 10] (Rz 12 11 [Qc 5 2,Qd 12,Qc 5 3,Qd 14,Qb .neq 13 15] (Rq 17 [Ql 11 16,Qa 17] (Rz 19 18 [Qc 6 2,Qd 19,Qc 6 3,Qd 21,Qb .neq 20 22] (Rq 24 [Ql 18 23,Qa 24] (Rz 26 25 [Qe 8 2,Qe 8 3,Qg 51 [t 26,t 27],Qp 28] (Rq 30 [Ql 25 29,Qa 30] (Rz 32 31 [Qc 7 2,Qd 32,Qi 33,Qc 7 3,Qd 35,Qi 36,Qb .neq 34 37] (Rq 39 [Ql 31 38] [])))))))))
 (.cond (t 39)
 (Rg (Rq 4 [Qq] [])
 .ret)
 .skip))
 (.seq (Rg (Rq 5 [Qk 0] [])
 (.block 0
 (.loop
 (.seq (Rg (Rq 40 [Qa 5,Qc 7 2,Qd 41,Qi 42,Qb .lss 40 43] [])
 (.cond (t 44)
 .skip
 (.exit 0)))
 (.seq (.block 1
 (.seq (.draw 0 [(If 47 7 2,[]),(Il 48 47,[]),(Im 49 5,[]),(I1 50 (.iaddr 8 (t 48) (t 49)),[]),(Ia 51 8 50,[]),(If 52 7 3,[]),(Il 53 52,[]),(Im 54 5,[]),(I1 55 (.iaddr 8 (t 53) (t 54)),[]),(Ia 56 8 55,[]),(Ip 57 20 [(t 51),(t 56)],[]),(I1 58 (.un .not (t 57)),[])])
 (.cond (t 58)
 (Rg (Rq 4 [Qq] [])
 .ret)
 .skip)))
 (.reg (Rq 45 [Qa 5,Qj .add 45 1] [Im 5 46])))))))
 (Rg (Rq 4 [Qr] [])
 .ret))))
theorem A4a:Fn Tryz.prog 20 59 [.inl 4] c20:=AP Tryz.func20 Tryz.ntmps20 Hq0
def c28:C :=
 (Rg (Rq 1 [Qo 0,Qq] [])
 (.seq (Rg (Rq 7 [Qc 0 1,Qd 7,Qi 8,Qj .gtr 9 12,Qa 10] (Rz 12 11 [Qc 2 1,Qd 12,Qi 13,Qj .gtr 14 6] (Rq 16 [Ql 11 15,Qa 16] (Rz 18 17 [Qc 1 1,Qd 18,Qs 19,Qj .gtr 20 200] (Rq 22 [Ql 17 21] [])))))
 (.cond (t 22)
 (Rg (Rq 2 [Qq] [])
 .ret)
 .skip))
 (.seq (Rg (Rq 3 [Qk 0] [])
 (.block 0
 (.loop
 (.seq (Rg (Rq 23 [Qa 3,Qc 2 1,Qd 24,Qi 25,Qb .lss 23 26] [])
 (.cond (t 27)
 .skip
 (.exit 0)))
 (.seq (.block 1
 (Rg (Rq 30 [Qc 2 1,Qd 30,Qa 3,Qn 13 31 32,Qe 13 33] [I1 4 (.alloc [(.str []),(.str []),(.str []),(.bool false),(.str []),(.int .i64 0),(.int .i64 0),(.str []),.nils,(.str []),(.str []),.nils,.nils]),Is 13 4 34])
 (.seq (Rg (Rq 35 [Qc 12 4,Qd 35,Qi 36,Qj .gtr 37 8,Qa 38] (Rz 40 39 [Qc 4 4,Qe 8 40,Qg 25 [t 41],Qp 42] (Rq 44 [Ql 39 43] [])))
 (.cond (t 44)
 (Rg (Rq 2 [Qq] [])
 .ret)
 .skip))
 (Rg (Rq 5 [Qk 0] [])
 (.block 2
 (.loop
 (.seq (Rg (Rq 45 [Qa 5,Qc 12 4,Qd 46,Qi 47,Qb .lss 45 48] [])
 (.cond (t 49)
 .skip
 (.exit 2)))
 (.seq (.block 3
 (Rg (Rq 52 [Qc 12 4,Qd 52,Qa 5,Qn 13 53 54,Qe 13 55] [I1 6 (.alloc [(.bool false),(.str []),(.bool false),(.str []),(.int .i64 0),(.int .i64 0),(.str []),.nils,(.str []),(.str []),.nils,.nils,.nils]),Is 13 6 56])
 (Rg (Rq 57 [Qc 3 6,Qe 8 57,Qg 25 [t 58],Qp 59,Qa 60] (Rz 62 61 [Qc 11 6,Qd 62,Qi 63,Qj .gtr 64 4] (Rq 66 [Ql 61 65,Qa 66] (Rz 68 67 [Qc 12 6,Qd 68,Qi 69,Qj .gtr 70 4] (Rq 72 [Ql 67 71] [])))))
 (.cond (t 72)
 (Rg (Rq 2 [Qq] [])
 .ret)
 .skip))))
 (.reg (Rq 50 [Qa 5,Qj .add 50 1] [Im 5 51]))))))))))
 (.reg (Rq 28 [Qa 3,Qj .add 28 1] [Im 3 29])))))))
 (Rg (Rq 2 [Qr] [])
 .ret))))
theorem A4I:Fn Tryz.prog 28 73 [.inl 2] c28:=AP Tryz.func28 Tryz.ntmps28 Hq0
def c40:C :=
 (Rg (Rq 2 [.mv KN,Qk 0,Qk 0] [])
 (.seq (Rg (Rq 9 [Qa 0,Qs 9,Qj .gtr 10 4096] [])
 (.cond (t 11)
 (Rg (Rq 2 [.mv KN,Qk 0,Qk 3] [])
 .ret)
 .skip))
 (Rg ([I1 5 (.mv KN)])
 (.seq (Rg ([Im 12 0,Ip 13 91 [(t 12),(Ki 0)],Im 6 13])
 (.block 0
 (.loop
 (.seq (Rg (Rq 14 [Qa 6,Qa 0,Qs 15,Qb .lss 14 16] [])
 (.cond (t 17)
 .skip
 (.exit 0)))
 (.seq (.block 1
 (Rg (Rq 22 [Qa 0,Qa 6,Qg 92 [t 22,t 23]] [Im 21 24,Ie 25 0 21,Ie 26 1 21,I1 7 (.alloc [(.int .i64 0),(.str []),(.int .i64 0)]),Is 3 7 25,Im 8 26])
 (.seq (.block 2
 (Rg (Rq 28 [Qa 8,Qj .eql 28 0] [Im 27 29])
 (.cond (t 27)
 (Rg (Im 30 6::Rq 2 [.mv KN,Qa 30,Qk 2] [])
 .ret)
 (Rg (Rq 32 [Qa 5,Qi 32,Qj .eql 33 600] [Im 31 34])
 (.cond (t 31)
 (Rg (Im 35 6::Rq 2 [.mv KN,Qa 35,Qk 13] [])
 .ret)
 .skip)))))
 (Rg (Rq 36 [Qa 5,Qe 3 7,.bsl 3 [t 37],.app false 3 32 (t 36) (t 38)] [Im 5 39])
 (.reg (Rq 40 [Qa 6,Qa 8,Qb .add 40 41] [Im 6 42]))))))
 (.reg (Rq 18 [Qa 0,Qa 6,Qg 91 [t 18,t 19]] [Im 6 20])))))))
 (Rg (Im 43 5::Rq 2 [Qa 43,Qk 0,Qk 0] [])
 .ret)))))
theorem A4n:Fn Tryz.prog 40 44 [.inl 2,.inl 3,.inl 4] c40:=AP Tryz.func40 Tryz.ntmps40 Hq0
def c46:C :=
 (Rg ([I1 2 (.mv (Ks ([])))])
 (Rg ([I1 3 (.mv KN)])
 (.seq (Rg (Rq 6 [Qa 0,Qi 6,Qk 0] [])
 (.block 0
 (.loop
 (Rg (Rq 9 [Qb .lss 8 7] [])
 (.seq (.cond (t 9)
 .skip
 (.exit 0))
 (.seq (.block 1
 (Rg (Rq 10 [Qn 3 6 8,Qe 3 10] [I1 5 (.alloc [(.int .i64 0),(.str []),(.int .i64 0)]),Is 3 5 11])
 (.reg (Rq 12 [Qa 3,Qe 3 5,Qg 101 [t 13],.bsl 1 [t 14],.app false 1 16 (t 12) (t 15)] [Im 3 16]))))
 (.reg (Rq 17 [Qj .add 8 1] [Im 8 17]))))))))
 (Rg ([Im 18 3,Ip 19 88 [(t 18),(Ks ([32]))],Im 2 19])
 .ret))))
theorem A5l:Fn Tryz.prog 46 20 [.inl 2] c46:=AP Tryz.func46 Tryz.ntmps46 Hq0
def c57:C :=
 (Rg (Rq 1 [Qo 0,Qq] [])
 (.seq (Rg ([If 4 0 1,Il 5 4])
 (.block 0
 (Rg (Rq 7 [Qj .eql 5 1] [Im 6 7])
 (.cond (t 6)
 (Rg (Rq 8 [Qc 1 1,Qd 8,Qg 109 [t 9],Qa 10] (Rv 12 11 [Qc 2 1,Qd 12,Qj .eql 13 0] (Rq 15 [Qm 11 14] [Im 2 15])))
 .ret)
 (Rg (Rq 17 [Qj .eql 5 2] [Im 16 17])
 (.cond (t 16)
 (Rg (Rq 18 [Qc 1 1,Qd 18,.bin .eql (t 19) (Ks ([])),Qa 20] (Rv 22 21 [Qc 2 1,Qd 22,Qj .geq 23 0] (Rq 25 [Qm 21 24] [Im 2 25])))
 .ret)
 (Rg (Rq 27 [Qj .eql 5 3] [Im 26 27])
 (.cond (t 26)
 (.seq (Rg (Rq 3 [Qk 0] [])
 (.block 1
 (.loop
 (.seq (Rg (Rq 28 [Qa 3,Qc 1 1,Qd 29,Qs 30,Qb .lss 28 31] [])
 (.cond (t 32)
 .skip
 (.exit 1)))
 (.seq (.block 2
 (Rg (Rq 35 [Qc 1 1,Qd 35,Qa 3,.idxs (t 36) (t 37),.bin .lss (t 38) (k (.int .u8 32)),Qa 39] (Rz 41 40 [Qc 1 1,Qd 41,Qa 3,.idxs (t 42) (t 43),.bin .gtr (t 44) (k (.int .u8 126))] (Rq 46 [Ql 40 45] [])))
 (.cond (t 46)
 (Rg (Rq 2 [Qq] [])
 .ret)
 .skip)))
 (.reg (Rq 33 [Qa 3,Qj .add 33 1] [Im 3 34])))))))
 (Rg (Rq 47 [Qc 1 1,Qd 47,Qs 48,Qj .leq 49 64,Qa 50] (Rv 52 51 [Qc 2 1,Qd 52,Qj .eql 53 0] (Rq 55 [Qm 51 54] [Im 2 55])))
 .ret))
 (Rg (Rq 57 [Qj .eql 5 4] [Im 56 57])
 (.cond (t 56)
 (Rg (Rq 58 [Qc 1 1,Qd 58,.bin .eql (t 59) (Ks ([])),Qa 60] (Rv 62 61 [Qc 2 1,Qd 62,Qj .geq 63 0] (Rq 65 [Qm 61 64,Qa 65] (Rv 67 66 [Qc 2 1,Qd 67,Qj .leq 68 1099511627776] (Rq 70 [Qm 66 69] [Im 2 70])))))
 .ret)
 (Rg (Rq 72 [Qj .eql 5 5] [Im 71 72])
 (.cond (t 71)
 (Rg (Rq 73 [Qc 1 1,Qd 73,Qg 110 [t 74],Qa 75] (Rv 77 76 [Qc 2 1,Qd 77,Qj .eql 78 0] (Rq 80 [Qm 76 79] [Im 2 80])))
 .ret)
 .skip))))))))))))
 (Rg (Rq 2 [Qq] [])
 .ret)))
theorem A37:Fn Tryz.prog 57 81 [.inl 2] c57:=AP Tryz.func57 Tryz.ntmps57 Hq0
def c60:C :=
 (Rg ([I1 2 (.alloc [(.int .i64 0),(.str []),(.int .i64 0)])])
 (Rg ([Im 3 0,I1 4 (.build [(.int .i64 0),(.str []),(.int .i64 0)] [(0,1,(Ki 5)),(1,1,(t 3))]),Is 3 2 4])
 .ret))
theorem A5p:Fn Tryz.prog 60 5 [.inr (2,true,3)] c60:=AP Tryz.func60 Tryz.ntmps60 Hq0
def c63:C :=
 (Rg (Rq 1 [Qo 0,Qq] [])
 (.seq (Rg (Rq 4 [Qc 0 1,Qd 4,Qs 5,Qj .gtr 6 200,Qa 7] (Rz 9 8 [Qc 5 1,Qd 9,Qs 10,Qj .gtr 11 200] (Rq 13 [Ql 8 12,Qa 13] (Rz 15 14 [Qc 6 1,Qd 15,Qs 16,Qj .gtr 17 200] (Rq 19 [Ql 14 18,Qa 19] (Rz 21 20 [Qc 1 1,Qe 4 21,.bsl 4 [t 22],Qg 111 [t 23,(Ki 1)],Qp 24] (Rq 26 [Ql 20 25] [])))))))
 (.cond (t 26)
 (Rg (Rq 2 [Qq] [])
 .ret)
 .skip))
 (.seq (Rg (Rq 3 [Qk 0] [])
 (.block 0
 (.loop
 (.seq (Rg (Rq 27 [Qa 3,Qc 7 1,Qd 28,Qi 29,Qb .lss 27 30] [])
 (.cond (t 31)
 .skip
 (.exit 0)))
 (.seq (.block 1
 (Rg (Rq 34 [Qc 7 1,Qd 34,Qa 3,Qn 8 35 36,Qe 8 37,Qg 63 [t 38],Qp 39] [])
 (.cond (t 40)
 (Rg (Rq 2 [Qq] [])
 .ret)
 .skip)))
 (.reg (Rq 32 [Qa 3,Qj .add 32 1] [Im 3 33])))))))
 (Rg (Rq 2 [Qr] [])
 .ret))))
theorem A4O:Fn Tryz.prog 63 41 [.inl 2] c63:=AP Tryz.func63 Tryz.ntmps63 Hq0
def c72:C :=
 (Rg ([I1 2 (.mv (Ks ([])))])
 (Rg ([Im 3 0,In 4 3,If 5 0 4,Ic 6 120 [(t 5),(Ki 1)],I1 7 (.field false 1 1 (t 6)),Im 2 7])
 .ret))
theorem A3E:Fn Tryz.prog 72 8 [.inl 2] c72:=AP Tryz.func72 Tryz.ntmps72 Hq0
def c74:C :=
 (Rg (Rq 4 [Qq] [])
 (.seq (Rg (Rq 6 [Qa 0,Qi 6,Qa 1,Qi 8,Qb .neq 7 9] [])
 (.cond (t 10)
 (Rg (Rq 4 [Qq] [])
 .ret)
 .skip))
 (.seq (Rg (Rq 5 [Qk 0] [])
 (.block 0
 (.loop
 (.seq (Rg (Rq 11 [Qa 5,Qa 0,Qi 12,Qb .lss 11 13] [])
 (.cond (t 14)
 .skip
 (.exit 0)))
 (.seq (.block 1
 (.seq (.draw 0 [(Im 17 0,[]),(Im 18 5,[]),(I1 19 (.iaddr 1 (t 17) (t 18)),[]),(Il 20 19,[]),(Im 21 1,[]),(Im 22 5,[]),(I1 23 (.iaddr 1 (t 21) (t 22)),[]),(Il 24 23,[]),(I1 25 (.bin .neq (t 20) (t 24)),[])])
 (.cond (t 25)
 (Rg (Rq 4 [Qq] [])
 .ret)
 .skip)))
 (.reg (Rq 15 [Qa 5,Qj .add 15 1] [Im 5 16])))))))
 (Rg (Rq 4 [Qr] [])
 .ret))))
theorem A46:Fn Tryz.prog 74 26 [.inl 4] c74:=AP Tryz.func74 Tryz.ntmps74 Hq0
def Pu:C :=
 (Rg (Rq 1 [Qo 0,.mv (Ks ([]))] [])
 (.seq (Rg (Rq 3 [Qe 3 1,Qg 166 [t 3],Qp 4] [])
 (.cond (t 5)
 (Rg ([I1 2 (.mv (Ks ([])))])
 .ret)
 .skip))
 (.seq (Rg ([If 6 0 1,Il 7 6])
 (.block 0
 (Rg (Rq 9 [Qj .eql 7 2] [Im 8 9])
 (.cond (t 8)
 (Rg ([If 10 2 1,Il 11 10,Ip 12 167 [(t 11),(Ki 10)],Im 2 12])
 .ret)
 (Rg (Rq 14 [Qj .eql 7 4] [Im 13 14])
 (.cond (t 13)
 (Rg (Rq 15 [Qc 2 1,Qd 15,Qg 167 [t 16,(Ki 10)],.bin .add (Ks ([64])) (t 17)] [Im 2 18])
 .ret)
 (Rg (Rq 20 [Qj .eql 7 3] [Im 19 20])
 (.cond (t 19)
 (Rg ([If 21 1 1,Il 22 21,Ip 23 168 [(t 22)],Im 2 23])
 .ret)
 .skip))))))))
 (Rg ([If 24 1 1,Il 25 24,Im 2 25])
 .ret))))
theorem A0O:Fn Tryz.prog 101 26 [.inl 2] Pu:=AP Tryz.func101 Tryz.ntmps101 Hq0
def A5A:C :=
 (Rg (Rq 4 [Qk 0] [])
 (.seq (Rg (Rq 6 [Qa 0,Qi 6,Qk 0] [])
 (.block 0
 (.loop
 (Rg (Rq 9 [Qb .lss 8 7] [])
 (.seq (.cond (t 9)
 .skip
 (.exit 0))
 (.seq (.block 1
 (Rg ([Im 10 8,Im 5 10])
 (Rg (Rq 11 [Qa 1,Qa 0,Qa 5,Qn 1 12 13,Qd 14,Qb .eql 11 15] [])
 (.cond (t 16)
 (Rg ([Im 17 5,Im 4 17])
 .ret)
 .skip))))
 (.reg (Rq 18 [Qj .add 8 1] [Im 8 18]))))))))
 (Rg ([I1 4 (.mv (k (.int .i64 (-1))))])
 .ret)))
theorem Zh:Fn Tryz.prog 102 19 [.inl 4] A5A:=AP Tryz.func102 Tryz.ntmps102 Hq0
def A0v:C :=
 (Rg ([I1 2 (.alloc [(.str []),(.int .i64 0),(.int .i64 0),(.str []),.nils,(.str []),(.str []),.nils])])
 (Rg (Rq 3 [Qa 0,Qa 0,.mkfn 170 [t 4] [],.bsl 1 [(Ks ([97,110,100]))],Qf 103 [t 3,t 5,t 6]] [Is 8 2 7])
 .ret))
theorem A05:Fn Tryz.prog 104 8 [.inr (2,true,8)] A0v:=AP Tryz.func104 Tryz.ntmps104 Hq0
def Vg:C :=
 (Rg (Rq 6 [Qa 0,.nilc (t 6),Qc 2 7,Qd 8,Qj .eql 9 0] [])
 (.cond (t 10)
 (.reg [Im 11 0,Im 12 0,Im 13 1,Im 14 2,In 15 11,If 16 1 15,Is 1 16 13,In 17 12,If 18 2 17,Is 1 18 14])
 .skip))
theorem Xl:Fn Tryz.prog 105 19 [] Vg:=AP Tryz.func105 Tryz.ntmps105 Hq0
def A00:C :=
 (Rg (Rq 2 [Qq] [])
 (.seq (Rg (Rq 3 [Qk 0] [])
 (.block 0
 (.loop
 (.seq (Rg (Rq 4 [Qa 3,Qa 0,Qs 5,Qb .lss 4 6] [])
 (.cond (t 7)
 .skip
 (.exit 0)))
 (.seq (.block 1
 (Rg (Rq 10 [Qa 0,Qa 3,.idxs (t 10) (t 11),Qg 162 [t 12],Qp 13,Qa 14] (Rv 16 15 [Qa 3,Qj .eql 16 0,Qa 17] (Rz 19 18 [Qa 0,Qa 3,.idxs (t 19) (t 20),Qg 163 [t 21],Qp 22,Qa 23] (Rv 25 24 [Qa 0,Qa 3,.idxs (t 25) (t 26),.bin .neq (t 27) (k (.int .u8 95))] (Rz 29 18 [Qm 24 28] (Rv 30 15 [Ql 18 29] (Rq 31 [Qm 15 30] [])))))))
 (.cond (t 31)
 (Rg (Rq 2 [Qq] [])
 .ret)
 .skip)))
 (.reg (Rq 8 [Qa 3,Qj .add 8 1] [Im 3 9])))))))
 (Rg (Rq 32 [Qa 0,Qs 32,Qj .gtr 33 0,Qa 34] (Rv 36 35 [Qa 0,Qs 36,Qj .leq 37 64] (Rq 39 [Qm 35 38] [Im 2 39])))
 .ret)))
theorem Xr:Fn Tryz.prog 109 40 [.inl 2] A00:=AP Tryz.func109 Tryz.ntmps109 Hq0
def A1G:C :=
 (Rg (Rq 4 [Qq] [])
 (.seq (Rg (Rq 5 [Qk 0] [])
 (.block 0
 (.loop
 (.seq (Rg (Rq 7 [Qa 5,Qa 0,Qi 8,Qb .lss 7 9,Qa 10] (Rv 12 11 [Qa 5,Qj .lss 12 100] (Rq 14 [Qm 11 13] [])))
 (.cond (t 14)
 .skip
 (.exit 0)))
 (.seq (.block 1
 (.seq (Rg (Rq 17 [Qa 0,Qa 5,Qn 4 17 18,Qc 2 19,Qd 20,Qs 21,Qj .gtr 22 200,Qa 23] (Rz 25 24 [Qa 0,Qa 5,Qn 4 25 26,Qc 3 27,Qd 28,Qi 29,Qj .gtr 30 30] (Rq 32 [Ql 24 31] [])))
 (.cond (t 32)
 (Rg (Rq 4 [Qq] [])
 .ret)
 .skip))
 (Rg (Rq 6 [Qk 0] [])
 (.block 2
 (.loop
 (.seq (Rg (Rq 33 [Qa 6,Qa 0,Qa 5,Qn 4 34 35,Qc 3 36,Qd 37,Qi 38,Qb .lss 33 39] [])
 (.cond (t 40)
 .skip
 (.exit 2)))
 (.seq (.block 3
 (Rg (Rq 43 [Qa 0,Qa 5,Qn 4 43 44,Qc 3 45,Qd 46,Qa 6,Qn 4 47 48,Qc 2 49,Qd 50,Qs 51,Qj .gtr 52 200,Qa 53] (Rz 55 54 [Qa 0,Qa 5,Qn 4 55 56,Qc 3 57,Qd 58,Qa 6,Qn 4 59 60,Qc 3 61,Qd 62,Qi 63,Qj .gtr 64 0] (Rq 66 [Ql 54 65] [])))
 (.cond (t 66)
 (Rg (Rq 4 [Qq] [])
 .ret)
 .skip)))
 (.reg (Rq 41 [Qa 6,Qj .add 41 1] [Im 6 42])))))))))
 (.reg (Rq 15 [Qa 5,Qj .add 15 1] [Im 5 16])))))))
 (Rg (Rq 67 [Qa 0,Qi 67,Qa 1,Qb .leq 68 69] [Im 4 70])
 .ret)))
theorem A1R:Fn Tryz.prog 111 71 [.inl 4] A1G:=AP Tryz.func111 Tryz.ntmps111 Hq0
def A0f:C :=
 (Rg (Rq 2 [Qk 0] [])
 (Rg (Rq 3 [Qk 0] [])
 (.seq (Rg (Rq 6 [Qa 0,Qi 6,Qk 0] [])
 (.block 0
 (.loop
 (Rg (Rq 9 [Qb .lss 8 7] [])
 (.seq (.cond (t 9)
 .skip
 (.exit 0))
 (.seq (.block 1
 (Rg (Rq 10 [Qn 1 6 8,Qd 10] [Im 5 11])
 (Rg (Rq 12 [Qa 5,Qa 3,Qb .neq 12 13] [])
 (.cond (t 14)
 (Rg ([Im 15 5,Im 2 15])
 .ret)
 .skip))))
 (.reg (Rq 16 [Qj .add 8 1] [Im 8 16]))))))))
 (Rg ([Im 17 3,Im 2 17])
 .ret))))
theorem A0g:Fn Tryz.prog 112 18 [.inl 2] A0f:=AP Tryz.func112 Tryz.ntmps112 Hq0
def YO:C :=
 (Rg (Rq 4 [Qk 0] [])
 (Rg ([Im 7 0,Ip 8 175 [(t 7)],Im 5 8])
 (Rg ([Im 9 1,Ip 10 175 [(t 9)],Im 6 10])
 (.seq (Rg ([Im 11 5])
 (.cond (t 11)
 (.seq (Rg ([Im 12 6])
 (.cond (t 12)
 (Rg (Rq 4 [Qk 0] [])
 .ret)
 .skip))
 (Rg ([I1 4 (.mv (k (.int .i64 (-1))))])
 .ret))
 .skip))
 (.seq (Rg ([Im 13 6])
 (.cond (t 13)
 (Rg (Rq 4 [Qk 1] [])
 .ret)
 .skip))
 (.seq (Rg (Rq 14 [Qa 0,Qa 1,Qb .lss 14 15] [])
 (.cond (t 16)
 (Rg ([I1 4 (.mv (k (.int .i64 (-1))))])
 .ret)
 .skip))
 (.seq (Rg (Rq 17 [Qa 0,Qa 1,Qb .gtr 17 18] [])
 (.cond (t 19)
 (Rg (Rq 4 [Qk 1] [])
 .ret)
 .skip))
 (Rg (Rq 4 [Qk 0] [])
 .ret))))))))
theorem A0u:Fn Tryz.prog 114 20 [.inl 4] YO:=AP Tryz.func114 Tryz.ntmps114 Hq0
def Zu:C :=
 (Rg (Rq 4 [Qq] [])
 (Rg ([Im 5 0,Im 6 1,Ip 7 186 [(t 5),(t 6)],Im 4 7])
 .ret))
theorem Zs:Fn Tryz.prog 152 8 [.inl 4] Zu:=AP Tryz.func152 Tryz.ntmps152 Hq0
def A2m:C :=
 (Rg ([I1 2 (.mv (Ks ([])))])
 (Rg ([I1 5 (.bsl 1 [(k (.int .u8 34))]),Im 3 5])
 (.seq (Rg (Rq 6 [Qa 0,Qs 6,Qk 0] [])
 (.block 0
 (.loop
 (Rg (Rq 9 [Qb .lss 8 7] [])
 (.seq (.cond (t 9)
 .skip
 (.exit 0))
 (.seq (.block 1
 (Rg ([Im 10 8,Im 4 10])
 (.seq (Rg (Rq 11 [Qa 0,Qa 4,.idxs (t 11) (t 12),.bin .eql (t 13) (k (.int .u8 34)),Qa 14] (Rz 16 15 [Qa 0,Qa 4,.idxs (t 16) (t 17),.bin .eql (t 18) (k (.int .u8 92))] (Rq 20 [Ql 15 19] [])))
 (.cond (t 20)
 (.reg (Rq 21 [Qa 3,.bsl 1 [(k (.int .u8 92))],.app false 1 1 (t 21) (t 22)] [Im 3 23]))
 .skip))
 (.reg (Rq 24 [Qa 3,Qa 0,Qa 4,.idxs (t 25) (t 26),.bsl 1 [t 27],.app false 1 1 (t 24) (t 28)] [Im 3 29])))))
 (.reg (Rq 30 [Qj .add 8 1] [Im 8 30]))))))))
 (Rg (Rq 31 [Qa 3,.bsl 1 [(k (.int .u8 34))],.app false 1 1 (t 31) (t 32),.b2s (t 33)] [Im 2 34])
 .ret))))
theorem A2e:Fn Tryz.prog 168 35 [.inl 2] A2m:=AP Tryz.func168 Tryz.ntmps168 Hq0
def Wl:C :=
 (Rg (Rq 4 [Qq] [])
 (Rg (Rq 5 [Qa 0,Qs 5,Qa 1,Qs 7,Qb .geq 6 8,Qa 9] (Rv 11 10 [Qa 0,Qa 1,Qs 12,.subs (t 11) none (some (t 13)),Qa 1,Qb .eql 14 15] (Rq 17 [Qm 10 16] [Im 4 17])))
 .ret))
theorem Yi:Fn Tryz.prog 186 18 [.inl 4] Wl:=AP Tryz.func186 Tryz.ntmps186 Hq0
def Yk:C :=
 (Rg (Rq 2 [Qq] [])
 (Rg (Im 3 0::Ip 4 147 [(t 3)]::Im 5 4::Rz 6 5 [Qa 0,Qg 148 [t 6]] (Rq 8 [Ql 5 7] [Im 2 8]))
 .ret))
theorem A0P:Fn Tryz.prog 199 9 [.inl 2] Yk:=AP Tryz.func199 Tryz.ntmps199 Hq0
end GP
namespace GP
open Go Go.Proofs
open Rd O
set_option maxRecDepth 100000
def c22:C :=
 (Rg (Rq 1 [Qo 0,Qk 0] [])
 (Rg (Rq 3 [Qk 1] [])
 (.seq (Rg (Rq 4 [Qk 0] [])
 (.block 0
 (.loop
 (.seq (Rg (Rq 5 [Qa 4,Qc 7 1,Qd 6,Qi 7,Qb .lss 5 8] [])
 (.cond (t 9)
 .skip
 (.exit 0)))
 (.seq (.block 1
 (.reg (Rq 12 [Qa 3,Qc 7 1,Qd 13,Qa 4,Qn 8 14 15,Qe 8 16,Qg 22 [t 17],.bin .add (Ki 1) (t 18),.mx (t 12) (t 19)] [Im 3 20])))
 (.reg (Rq 10 [Qa 4,Qj .add 10 1] [Im 4 11])))))))
 (Rg ([Im 21 3,Im 2 21])
 .ret))))
theorem A3A:Fn Tryz.prog 22 22 [.inl 2] c22:=AP Tryz.func22 Tryz.ntmps22 Hq0
def c30:C :=
 (Rg (Rq 2 [Qo 0] [I1 4 (.mv KN)])
 (Rg ([I1 5 (.mv KN)])
 (.seq (Rg (Rq 6 [Qk 0] [])
 (.block 0
 (.loop
 (.seq (Rg (Rq 11 [Qa 6,Qc 0 2,Qd 12,Qi 13,Qb .lss 11 14] [])
 (.cond (t 15)
 .skip
 (.exit 0)))
 (.seq (.block 1
 (Rg (Rq 18 [Qc 0 2,Qd 18,Qa 6,Qn 4 19 20,Qe 4 21] [I1 7 (.alloc [(.str []),(.str []),(.int .i64 0),(.bool false)]),Is 4 7 22])
 (.seq (.draw 0 [(Im 23 5,[]),(Ip 24 59 [(Ks ([102,97,99,116]))],[]),(If 25 0 7,[]),(Il 26 25,[]),(Ip 27 59 [(t 26)],[]),(Ip 28 60 [(Ks ([46]))],[]),(If 29 1 7,[]),(Il 30 29,[]),(Ip 31 59 [(t 30)],[]),(I1 32 (.build [(.str []),(.str []),(.str []),(.str []),(.str [])] [(0,1,(Ks ([]))),(1,1,(Ks ([116,114,117,116,104]))),(2,1,(Ks ([110,117,109,98,101,114]))),(3,1,(Ks ([116,101,120,116]))),(4,1,(Ks ([116,105,109,101])))]),[]),(If 33 2 7,[]),(Il 34 33,[]),(I1 35 (.idxa false 1 5 (t 32) (t 34)),[]),(Ip 36 59 [(t 35)],[]),(I1 37 (.bslq 3 [(t 24),(t 27),(t 28),(t 31),(t 36)]),[]),(I1 38 (.app false 3 32 (t 23) (t 37)),[]),(Im 5 38,[])])
 (.seq (Rg ([If 39 3 7,Il 40 39])
 (.cond (t 40)
 (.reg (Rq 41 [Qa 5,Qg 59 [(Ks ([98,97,103]))],.bsl 3 [t 42],.app false 3 32 (t 41) (t 43)] [Im 5 44]))
 .skip))
 (.reg (Rq 45 [Qa 5,Qg 60 [(Ks ([59]))],.bsl 3 [t 46],.app false 3 32 (t 45) (t 47)] [Im 5 48]))))))
 (.reg (Rq 16 [Qa 6,Qj .add 16 1] [Im 6 17])))))))
 (.seq (.draw 0 [(Im 49 5,[]),(Ip 50 59 [(Ks ([117,115,101]))],[]),(If 51 1 2,[]),(Il 52 51,[]),(Ip 53 59 [(t 52)],[]),(Ip 54 60 [(Ks ([59]))],[]),(I1 55 (.bslq 3 [(t 50),(t 53),(t 54)]),[]),(I1 56 (.app false 3 32 (t 49) (t 55)),[]),(Im 5 56,[])])
 (.seq (Rg (Rq 8 [Qk 0] [])
 (.block 2
 (.loop
 (.seq (Rg (Rq 57 [Qa 8,Qc 2 2,Qd 58,Qi 59,Qb .lss 57 60] [])
 (.cond (t 61)
 .skip
 (.exit 2)))
 (.seq (.block 3
 (Rg (Rq 64 [Qc 2 2,Qd 64,Qa 8,Qn 13 65 66,Qe 13 67] [I1 9 (.alloc [(.str []),(.str []),(.str []),(.bool false),(.str []),(.int .i64 0),(.int .i64 0),(.str []),.nils,(.str []),(.str []),.nils,.nils]),Is 13 9 68])
 (.seq (.draw 0 [(Im 69 5,[]),(Ip 70 59 [(Ks ([112,111,108,105,99,121]))],[]),(If 71 0 9,[]),(Il 72 71,[]),(Ip 73 59 [(t 72)],[]),(Ip 74 59 [(Ks ([98,121]))],[]),(If 75 1 9,[]),(Il 76 75,[]),(Ip 77 59 [(t 76)],[]),(Ip 78 59 [(Ks ([117,115,101]))],[]),(If 79 2 9,[]),(Il 80 79,[]),(Ip 81 59 [(t 80)],[]),(Ip 82 60 [(Ks ([123]))],[]),(I1 83 (.bslq 3 [(t 70),(t 73),(t 74),(t 77),(t 78),(t 81),(t 82)]),[]),(I1 84 (.app false 3 32 (t 69) (t 83)),[]),(Im 5 84,[])])
 (.seq (Rg ([If 85 3 9,Il 86 85])
 (.cond (t 86)
 (Rg (Rq 87 [Qa 5,Qg 59 [(Ks ([102,111,114]))],.bsl 3 [t 88],.app false 3 32 (t 87) (t 89)] [Im 5 90])
 (Rg (Rq 91 [Qa 5,Qc 4 9,Qe 8 92,Qa 1,Qg 24 [t 93,t 94],.app false 3 32 (t 91) (t 95)] [Im 5 96])
 (.reg (Rq 97 [Qa 5,Qg 60 [(Ks ([59]))],.bsl 3 [t 98],.app false 3 32 (t 97) (t 99)] [Im 5 100]))))
 .skip))
 (.seq (Rg (Rq 10 [Qk 0] [])
 (.block 4
 (.loop
 (.seq (Rg (Rq 101 [Qa 10,Qc 12 9,Qd 102,Qi 103,Qb .lss 101 104] [])
 (.cond (t 105)
 .skip
 (.exit 4)))
 (.seq (.block 5
 (.reg (Rq 108 [Qa 5,Qc 12 9,Qd 109,Qa 10,Qn 13 110 111,Qe 13 112,Qa 1,Qg 68 [t 113,t 114],.app false 3 32 (t 108) (t 115)] [Im 5 116])))
 (.reg (Rq 106 [Qa 10,Qj .add 106 1] [Im 10 107])))))))
 (.reg (Rq 117 [Qa 5,Qg 60 [(Ks ([125]))],.bsl 3 [t 118],.app false 3 32 (t 117) (t 119)] [Im 5 120])))))))
 (.reg (Rq 62 [Qa 8,Qj .add 62 1] [Im 8 63])))))))
 (Rg ([Im 121 5,Im 4 121])
 .ret))))))
theorem A33:Fn Tryz.prog 30 122 [.inl 4] c30:=AP Tryz.func30 Tryz.ntmps30 Hq0
def c47:C :=
 (Rg (Rq 4 [Qq] [])
 (Rg (Rq 5 [Qa 0,Qa 1,Qg 102 [t 5,t 6],Qj .geq 7 0] [Im 4 8])
 .ret))
theorem A3y:Fn Tryz.prog 47 9 [.inl 4] c47:=AP Tryz.func47 Tryz.ntmps47 Hq0
def c52:C :=
 (Rg (Rq 2 [Qk 0] [])
 (Rg ([Ip 5 106 [],Im 3 5])
 (.seq (Rg (Rq 4 [Qk 0] [])
 (.block 0
 (.loop
 (.seq (Rg (Rq 6 [Qa 4,Qa 3,Qi 7,Qb .lss 6 8] [])
 (.cond (t 9)
 .skip
 (.exit 0)))
 (.seq (.block 1
 (Rg (Rq 12 [Qa 3,Qa 4,Qn 1 12 13,Qd 14,Qa 0,Qg 62 [t 15,t 16]] [])
 (.cond (t 17)
 (Rg (Rq 18 [.build [(.int .i64 0),(.int .i64 0),(.int .i64 0),(.int .i64 0),(.int .i64 0)] [(0,1,(Ki 0)),(1,1,(Ki 1)),(2,1,(Ki 3)),(3,1,(Ki 4)),(4,1,(Ki 5))],Qa 4,.idxa false 1 5 (t 18) (t 19)] [Im 2 20])
 .ret)
 .skip)))
 (.reg (Rq 10 [Qa 4,Qj .add 10 1] [Im 4 11])))))))
 (.seq (Rg ([Im 21 0,I1 22 (.bin .eql (t 21) (Ks ([110,111,116])))])
 (.cond (t 22)
 (Rg (Rq 2 [Qk 2] [])
 .ret)
 .skip))
 (.seq (Rg ([Im 23 0,I1 24 (.bin .eql (t 23) (Ks ([110,101,103])))])
 (.cond (t 24)
 (Rg (Rq 2 [Qk 6] [])
 .ret)
 .skip))
 (.seq (Rg (Rq 25 [.bsl 1 [(Ks ([118,97,108,117,101])),(Ks ([110,111,119])),(Ks ([97,116,116,114])),(Ks ([104,97,115])),(Ks ([114,111,108,101])),(Ks ([115,105,122,101]))],Qa 0,Qg 62 [t 25,t 26]] [])
 (.cond (t 27)
 (Rg (Rq 2 [Qk 7] [])
 .ret)
 .skip))
 (Rg ([I1 2 (.mv (k (.int .i64 (-1))))])
 .ret)))))))
theorem A3B:Fn Tryz.prog 52 28 [.inl 2] c52:=AP Tryz.func52 Tryz.ntmps52 Hq0
def c53:C :=
 (Rg (Rq 1 [Qo 0,Qq] [])
 (.seq (Rg (Rq 4 [Qe 4 1,Qg 107 [t 4],Qp 5] [])
 (.cond (t 6)
 (Rg (Rq 2 [Qq] [])
 .ret)
 .skip))
 (.seq (Rg (Rq 7 [Qc 0 1,Qd 7,Qj .neq 8 5] [])
 (.cond (t 9)
 (Rg ([Ia 10 4 1,Ip 11 108 [(t 10),KF],Im 2 11])
 .ret)
 .skip))
 (.seq (Rg (Rq 3 [Qk 0] [])
 (.block 0
 (.loop
 (.seq (Rg (Rq 12 [Qa 3,Qc 3 1,Qd 13,Qi 14,Qb .lss 12 15] [])
 (.cond (t 16)
 .skip
 (.exit 0)))
 (.seq (.block 1
 (Rg (Rq 19 [Qc 3 1,Qd 19,Qa 3,Qn 4 20 21,Qe 4 22,Qg 108 [t 23,KT],Qp 24] [])
 (.cond (t 25)
 (Rg (Rq 2 [Qq] [])
 .ret)
 .skip)))
 (.reg (Rq 17 [Qa 3,Qj .add 17 1] [Im 3 18])))))))
 (Rg (Rq 26 [Qc 3 1,Qd 26,Qi 27,Qj .gtr 28 0] [Im 2 29])
 .ret)))))
theorem A5E:Fn Tryz.prog 53 30 [.inl 2] c53:=AP Tryz.func53 Tryz.ntmps53 Hq0
def c55:C :=
 (Rg (Rq 2 [Qq] [])
 (Rg (Rq 3 [.bsl 1 [(Ks ([115,117,98,106,101,99,116])),(Ks ([114,101,115,111,117,114,99,101])),(Ks ([97,99,116,105,111,110])),(Ks ([101,110,118]))],Qa 0,Qg 62 [t 3,t 4]] [Im 2 5])
 .ret))
theorem A5m:Fn Tryz.prog 55 6 [.inl 2] c55:=AP Tryz.func55 Tryz.ntmps55 Hq0
def c95:C :=
 (Rg (Rq 2 [Qq] [])
 (.seq (Rg (Rq 3 [Qk 0] [])
 (.block 0
 (.loop
 (.seq (Rg (Rq 5 [Qa 3,Qa 0,Qi 6,Qb .lss 5 7] [])
 (.cond (t 8)
 .skip
 (.exit 0)))
 (.seq (.block 1
 (Rg (Rq 4 [Qk 0] [])
 (.block 2
 (.loop
 (.seq (Rg (Rq 11 [Qa 4,Qa 3,Qb .lss 11 12] [])
 (.cond (t 13)
 .skip
 (.exit 2)))
 (.seq (.block 3
 (.seq (.draw 0 [(Im 16 0,[]),(Im 17 3,[]),(I1 18 (.iaddr 2 (t 16) (t 17)),[]),(Ia 19 2 18,[]),(Im 20 0,[]),(Im 21 4,[]),(I1 22 (.iaddr 2 (t 20) (t 21)),[]),(Ia 23 2 22,[]),(I1 24 (.eqa [.str,.str] false (t 19) (t 23)),[])])
 (.cond (t 24)
 (Rg (Rq 2 [Qr] [])
 .ret)
 .skip)))
 (.reg (Rq 14 [Qa 4,Qj .add 14 1] [Im 4 15]))))))))
 (.reg (Rq 9 [Qa 3,Qj .add 9 1] [Im 3 10])))))))
 (Rg (Rq 2 [Qq] [])
 .ret)))
theorem A4J:Fn Tryz.prog 95 25 [.inl 2] c95:=AP Tryz.func95 Tryz.ntmps95 Hq0
def Zm:C :=
 (Rg (Rq 1 [Qo 0,Qq] [])
 (.seq (Rg (Rq 4 [Qc 0 1,Qd 4,Qj .neq 5 5] [])
 (.cond (t 6)
 (Rg ([Ia 7 4 1,Ip 8 171 [(t 7)],Im 2 8])
 .ret)
 .skip))
 (.seq (Rg (Rq 9 [Qc 1 1,Qd 9,Qj .neq 10 0,Qa 11] (Rz 13 12 [Qc 2 1,Qd 13,.bin .neq (t 14) (Ks ([]))] (Rq 16 [Ql 12 15,Qa 16] (Rz 18 17 [Qc 3 1,Qd 18,Qi 19,Qj .gtr 20 16] (Rq 22 [Ql 17 21] [])))))
 (.cond (t 22)
 (Rg (Rq 2 [Qq] [])
 .ret)
 .skip))
 (.seq (Rg (Rq 3 [Qk 0] [])
 (.block 0
 (.loop
 (.seq (Rg (Rq 23 [Qa 3,Qc 3 1,Qd 24,Qi 25,Qb .lss 23 26] [])
 (.cond (t 27)
 .skip
 (.exit 0)))
 (.seq (.block 1
 (.seq (.draw 0 [(If 30 3 1,[]),(Il 31 30,[]),(Im 32 3,[]),(I1 33 (.iaddr 4 (t 31) (t 32)),[]),(Ia 34 4 33,[]),(Ip 35 171 [(t 34)],[]),(I1 36 (.un .not (t 35)),[]),(Im 37 36,[]),(Jf 38 37 false 3 1,[]),(Jl 39 37 false 38,[]),(Jm 40 37 false 3,[]),(I3 41 37 (.iaddr 4 (t 39) (t 40)),[]),(Jf 42 37 false 0 41,[]),(Jl 43 37 false 42,[]),(I3 44 37 (.bin .eql (t 43) (Ki 0)),[]),(I1 45 (.pick (t 37) KT (t 44)),[]),(Im 46 45,[]),(Jf 47 46 false 3 1,[]),(Jl 48 46 false 47,[]),(Jm 49 46 false 3,[]),(I3 50 46 (.iaddr 4 (t 48) (t 49)),[]),(Jf 51 46 false 0 50,[]),(Jl 52 46 false 51,[]),(Jf 53 46 false 3 1,[]),(Jl 54 46 false 53,[]),(I3 55 46 (.iaddr 4 (t 54) (Ki 0)),[]),(Jf 56 46 false 0 55,[]),(Jl 57 46 false 56,[]),(I3 58 46 (.bin .neq (t 52) (t 57)),[]),(I1 59 (.pick (t 46) KT (t 58)),[]),(Im 60 59,[]),(Jm 61 60 false 3,[]),(I3 62 60 (.bin .gtr (t 61) (Ki 0)),[]),(Jm 63 60 false 62,[]),(Jf 64 63 true 3 1,[]),(Jl 65 63 true 64,[]),(Jm 66 63 true 3,[]),(I2 67 63 (.bin .sub (t 66) (Ki 1)),[]),(I2 68 63 (.iaddr 4 (t 65) (t 67)),[]),(I2 69 63 (.load true 4 (t 68)),[]),(Jf 70 63 true 3 1,[]),(Jl 71 63 true 70,[]),(Jm 72 63 true 3,[]),(I2 73 63 (.iaddr 4 (t 71) (t 72)),[]),(I2 74 63 (.load true 4 (t 73)),[]),(I2 75 63 (.pcall (Kf 172) [(t 69),(t 74)]),[]),(I2 76 63 (.bin .geq (t 75) (Ki 0)),[]),(I3 77 60 (.pick (t 63) (t 76) KF),[]),(I1 78 (.pick (t 60) KT (t 77)),[])])
 (.cond (t 78)
 (Rg (Rq 2 [Qq] [])
 .ret)
 .skip)))
 (.reg (Rq 28 [Qa 3,Qj .add 28 1] [Im 3 29])))))))
 (Rg (Rq 2 [Qr] [])
 .ret)))))
theorem XR:Fn Tryz.prog 107 79 [.inl 2] Zm:=AP Tryz.func107 Tryz.ntmps107 Hq0
def A1e:C :=
 (Rg (Rq 6 [Qk 0] [])
 (Rg ([Im 8 1,Im 7 8])
 (.seq (.block 0
 (.loop
 (.seq (Rg (Rq 9 [Qa 7,Qa 0,Qs 10,Qb .lss 9 11,Qa 12] (Rv 14 13 [Qa 2,Qa 0,Qa 7,.idxs (t 15) (t 16),.pcall (t 14) [t 17]] (Rq 19 [Qm 13 18] [])))
 (.cond (t 19)
 .skip
 (.exit 0)))
 (.block 1
 (.reg (Rq 20 [Qa 7,Qj .add 20 1] [Im 7 21]))))))
 (Rg (Rq 22 [Qa 7,Qa 1,Qb .sub 22 23] [Im 6 24])
 .ret))))
theorem A1r:Fn Tryz.prog 144 25 [.inl 6] A1e:=AP Tryz.func144 Tryz.ntmps144 Hq0
def A08:C :=
 (Rg ([I1 0 (.mv KN)])
 (Rg ([I1 1 (.bsl 1 [(Ks ([61,61])),(Ks ([33,61])),(Ks ([60,61])),(Ks ([62,61])),(Ks ([123])),(Ks ([125])),(Ks ([40])),(Ks ([41])),(Ks ([91])),(Ks ([93])),(Ks ([59])),(Ks ([46])),(Ks ([44])),(Ks ([43])),(Ks ([45])),(Ks ([42])),(Ks ([60])),(Ks ([62]))]),Im 0 1])
 .ret))
theorem A0b:Fn Tryz.prog 151 2 [.inl 0] A08:=AP Tryz.func151 Tryz.ntmps151 Hq0
def W5:C :=
 (Rg (Rq 2 [Qk 0] [])
 (.seq (Rg (Rq 5 [Qa 0,.bin .eql (t 5) (Ks ([118,97,108,117,101])),Qa 6] (Rz 8 7 [Qa 0,.bin .eql (t 8) (Ks ([110,111,119]))] (Rq 10 [Ql 7 9,Qa 10] (Rz 12 11 [Qa 0,.bin .eql (t 12) (Ks ([97,116,116,114]))] (Rq 14 [Ql 11 13,Qa 14] (Rz 16 15 [Qa 0,.bin .eql (t 16) (Ks ([104,97,115]))] (Rq 18 [Ql 15 17,Qa 18] (Rz 20 19 [Qa 0,.bin .eql (t 20) (Ks ([114,111,108,101]))] (Rq 22 [Ql 19 21] [])))))))))
 (.cond (t 22)
 (Rg (Rq 2 [Qk 0] [])
 .ret)
 .skip))
 (Rg ([Ip 23 195 [],Im 3 23])
 (.seq (Rg (Rq 4 [Qk 0] [])
 (.block 0
 (.loop
 (.seq (Rg (Rq 24 [Qa 4,Qa 3,Qi 25,Qb .lss 24 26] [])
 (.cond (t 27)
 .skip
 (.exit 0)))
 (.seq (.block 1
 (.seq (Rg (Rq 30 [Qa 3,Qa 4,Qn 4 30 31,Qc 0 32,Qd 33,Qa 0,Qb .eql 34 35,Qa 36] (Rv 38 37 [Qa 3,Qa 4,Qn 4 38 39,Qc 2 40,Qd 41,Qj .gtr 42 0] (Rq 44 [Qm 37 43] [])))
 (.cond (t 44)
 (Rg (Rq 2 [Qk 2] [])
 .ret)
 .skip))
 (Rg (Rq 45 [Qa 3,Qa 4,Qn 4 45 46,Qc 0 47,Qd 48,Qa 0,Qb .eql 49 50] [])
 (.cond (t 51)
 (Rg (Rq 2 [Qk 1] [])
 .ret)
 .skip))))
 (.reg (Rq 28 [Qa 4,Qj .add 28 1] [Im 4 29])))))))
 (Rg ([I1 2 (.mv (k (.int .i64 (-1))))])
 .ret)))))
theorem A0i:Fn Tryz.prog 193 52 [.inl 2] W5:=AP Tryz.func193 Tryz.ntmps193 Hq0
def Xh:C :=
 (Rg (Rq 6 [Qk 0] [])
 (Rg (Rq 8 [Qa 1,Qj .eql 8 2,Qa 9] (Rv 11 10 [Qa 2,Qj .eql 11 2] (Rq 13 [Qm 10 12] [Im 7 13])))
 (.seq (.block 0
 (Rg ([Im 15 7,Im 14 15])
 (.cond (t 14)
 (Rg (Rq 6 [Qk 2] [])
 .ret)
 (Rg (Rq 17 [Qa 0,.bin .neq (t 17) (Ks ([42])),Qa 18] (Rv 20 19 [Qa 1,Qj .eql 20 4] (Rq 22 [Qm 19 21,Qa 22] (Rv 24 23 [Qa 2,Qj .eql 24 2] (Rq 26 [Qm 23 25] [Im 16 26])))))
 (.cond (t 16)
 (Rg (Rq 6 [Qk 4] [])
 .ret)
 (Rg (Rq 28 [Qa 0,.bin .eql (t 28) (Ks ([45])),Qa 29] (Rv 31 30 [Qa 1,Qj .eql 31 4] (Rq 33 [Qm 30 32,Qa 33] (Rv 35 34 [Qa 2,Qj .eql 35 4] (Rq 37 [Qm 34 36] [Im 27 37])))))
 (.cond (t 27)
 (Rg (Rq 6 [Qk 2] [])
 .ret)
 .skip)))))))
 (Rg (Rq 6 [Qk 0] [])
 .ret))))
theorem ZP:Fn Tryz.prog 198 38 [.inl 6] Xh:=AP Tryz.func198 Tryz.ntmps198 Hq0
def Vs:C :=
 (Rg ([I1 2 (.alloc [(.str []),(.int .i64 0),(.int .i64 0),(.str []),.nils,(.str []),(.str []),.nils])])
 (.seq (Rg ([Im 3 0,Ic 4 69 [(t 3),(Ks ([45]))]])
 (.cond (t 4)
 (Rg (Rq 5 [Qa 0,Qf 236 [t 5],.bsl 8 [t 6],.build [(.str []),(.int .i64 0),(.int .i64 0),(.str []),.nils,(.str []),(.str []),.nils] [(0,1,(Ks ([110,101,103]))),(7,1,(t 7))]] [Is 8 2 8])
 .ret)
 .skip))
 (Rg ([Im 9 0,Ic 10 238 [(t 9)],Is 8 2 10])
 .ret)))
theorem Xn:Fn Tryz.prog 236 11 [.inr (2,true,8)] Vs:=AP Tryz.func236 Tryz.ntmps236 Hq0
def Ug:C :=
 (Rg ([I1 2 (.alloc [(.int .i64 0),(.int .i64 0),(.str []),.nils])])
 (.seq (Rg ([Im 5 0,Ic 6 69 [(t 5),(Ks ([45]))]])
 (.cond (t 6)
 (Rg (Rq 7 [Qa 0,Qf 120 [t 7,(Ki 2)],.field false 2 1 (t 8),.un .neg (t 9),Qg 242 [t 10]] [Is 4 2 11])
 .ret)
 .skip))
 (Rg ([Im 13 0,Ic 14 239 [(t 13)],Im 12 14,Ie 15 0 12,Ie 16 1 12,I1 3 (.alloc [(.int .i64 0),(.int .i64 0),(.str []),.nils]),Is 4 3 15,Im 4 16])
 (.seq (Rg (Rq 17 [Qa 4,Qp 17] [])
 (.cond (t 18)
 (.reg (Rq 19 [Qa 0,Qa 0,.nilc (t 20),Qc 1 21,Qd 22,Qf 105 [t 19,t 23,(Ki 2)]] []))
 .skip))
 (Rg ([Ia 25 4 3,Is 4 2 25])
 .ret)))))
theorem A1A:Fn Tryz.prog 245 26 [.inr (2,true,4)] Ug:=AP Tryz.func245 Tryz.ntmps245 Hq0
def YA:C :=
 (Rg (Rq 2 [.alloc [(.int .i64 0),(.int .i64 0),(.str []),.nils],Qk 0] [])
 (.seq (Rg (Rq 9 [Qa 0,Qi 9,Qk 0] [])
 (.block 0
 (.loop
 (Rg (Rq 12 [Qb .lss 11 10] [])
 (.seq (.cond (t 12)
 .skip
 (.exit 0))
 (.seq (.block 1
 (Rg (Rq 13 [Qn 4 9 11,Qe 4 13] [I1 5 (.alloc [(.int .i64 0),(.int .i64 0),(.str []),.nils]),Is 4 5 14])
 (Rg (Rq 15 [Qe 4 5,Qg 129 [t 15],Qp 16] [])
 (.cond (t 17)
 (Rg (I1 18 (.build [(.int .i64 0),(.int .i64 0),(.str []),.nils] [])::Is 4 2 18::Rq 3 [Qk 1] [])
 .ret)
 .skip))))
 (.reg (Rq 19 [Qj .add 11 1] [Im 11 19]))))))))
 (.seq (Rg (Rq 20 [Qa 0,Qi 20,Qk 0] [])
 (.block 2
 (.loop
 (Rg (Rq 23 [Qb .lss 22 21] [])
 (.seq (.cond (t 23)
 .skip
 (.exit 2))
 (.seq (.block 3
 (Rg (Rq 24 [Qn 4 20 22,Qe 4 24] [I1 7 (.alloc [(.int .i64 0),(.int .i64 0),(.str []),.nils]),Is 4 7 25])
 (.seq (.draw 0 [(If 26 0 7,[]),(Il 27 26,[]),(I1 28 (.bin .eql (t 27) (Ki 0)),[]),(Im 29 28,[]),(Jf 30 29 false 0 7,[]),(Jl 31 29 false 30,[]),(I3 32 29 (.bin .eql (t 31) (Ki 5)),[]),(I1 33 (.pick (t 29) KT (t 32)),[]),(Im 34 33,[]),(Jf 35 34 false 0 7,[]),(Jl 36 34 false 35,[]),(Jm 37 34 false 0,[]),(I3 38 34 (.iaddr 4 (t 37) (Ki 0)),[]),(Jf 39 34 false 0 38,[]),(Jl 40 34 false 39,[]),(I3 41 34 (.bin .neq (t 36) (t 40)),[]),(I1 42 (.pick (t 34) KT (t 41)),[])])
 (.cond (t 42)
 (Rg (I1 43 (.build [(.int .i64 0),(.int .i64 0),(.str []),.nils] [])::Is 4 2 43::Rq 3 [Qk 6] [])
 .ret)
 .skip))))
 (.reg (Rq 44 [Qj .add 22 1] [Im 22 44]))))))))
 (Rg ([Im 45 0,Ic 46 247 [(t 45)],Im 8 46])
 (Rg ([Im 47 8,Ic 48 248 [(t 47),(Kf 64)]])
 (Rg ([Im 49 8,Ic 50 249 [(t 49),(Kf 250)],Im 8 50])
 (.seq (Rg (Rq 51 [Qa 8,Qi 51,Qj .gtr 52 16] [])
 (.cond (t 53)
 (Rg (I1 54 (.build [(.int .i64 0),(.int .i64 0),(.str []),.nils] [])::Is 4 2 54::Rq 3 [Qk 13] [])
 .ret)
 .skip))
 (Rg (Im 55 8::I1 56 (.build [(.int .i64 0),(.int .i64 0),(.str []),.nils] [(0,1,(Ki 5)),(3,1,(t 55))])::Is 4 2 56::Rq 3 [Qk 0] [])
 .ret))))))))
theorem Zk:Fn Tryz.prog 246 57 [.inr (2,true,4),.inl 3] YA:=AP Tryz.func246 Tryz.ntmps246 Hq1
def A0l:C :=
 (Rg ([Im 5 0,Iz 6 5,Im 4 6])
 (.reg (Rq 7 [Qa 0,Qa 4,Qa 4,.conv .u64 (t 9),Qg 252 [t 10],Qa 1,Qg 251 [t 7,(Ki 0),t 8,t 11,t 12]] [])))
theorem A2n:Fn Tryz.prog 248 14 [] A0l:=AP Tryz.func248 Tryz.ntmps248 Hq0
def YQ:C :=
 (Rg (Rq 2 [Qo 0,Qo 1,Qq] [])
 (Rg (Rq 5 [Qe 4 2,Qe 4 3,Qg 64 [t 5,t 6],Qj .eql 7 0] [Im 4 8])
 .ret))
theorem ZW:Fn Tryz.prog 250 9 [.inl 4] YQ:=AP Tryz.func250 Tryz.ntmps250 Hq0
end GP
namespace GP
open Go Go.Proofs
open Rd O
set_option maxRecDepth 100000
def c17:C :=
 (Rg (Rq 2 [Qq] [])
 (Rg ([Ip 3 48 [],Im 4 0,Ip 5 47 [(t 3),(t 4)],Im 2 5])
 .ret))
theorem A4Z:Fn Tryz.prog 17 6 [.inl 2] c17:=AP Tryz.func17 Tryz.ntmps17 Hq0
def c26:C :=
 (Rg (Rq 1 [Qo 0,Qk 0] [])
 (Rg (Rq 3 [Qk 0] [])
 (.seq (Rg (Rq 6 [Qc 7 1,Qd 6,Qi 7,Qk 0] [])
 (.block 0
 (.loop
 (Rg (Rq 10 [Qb .lss 9 8] [])
 (.seq (.cond (t 10)
 .skip
 (.exit 0))
 (.seq (.block 1
 (Rg (Rq 11 [Qn 8 7 9,Qe 8 11] [I1 5 (.alloc [(.str []),(.int .i64 0),(.int .i64 0),(.str []),.nils,(.str []),(.str []),.nils]),Is 8 5 12])
 (.reg (Rq 13 [Qa 3,Qe 8 5,Qg 26 [t 14],.mx (t 13) (t 15)] [Im 3 16]))))
 (.reg (Rq 17 [Qj .add 9 1] [Im 9 17]))))))))
 (Rg (Rq 18 [Qa 3,Qj .add 18 1] [Im 2 19])
 .ret))))
theorem A3I:Fn Tryz.prog 26 20 [.inl 2] c26:=AP Tryz.func26 Tryz.ntmps26 Hq0
def c29:C :=
 (Rg (Rq 1 [Qo 0,Qq] [])
 (.seq (Rg (Rq 9 [Qc 1 1,Qd 9,Qg 59 [t 10],Qg 57 [t 11],Qp 12] [])
 (.cond (t 13)
 (Rg (Rq 2 [Qq] [])
 .ret)
 .skip))
 (.seq (Rg (Rq 3 [Qk 0] [])
 (.block 0
 (.loop
 (.seq (Rg (Rq 14 [Qa 3,Qc 0 1,Qd 15,Qi 16,Qb .lss 14 17] [])
 (.cond (t 18)
 .skip
 (.exit 0)))
 (.seq (.block 1
 (Rg (Rq 21 [Qc 0 1,Qd 21,Qa 3,Qn 4 22 23,Qe 4 24] [I1 4 (.alloc [(.str []),(.str []),(.int .i64 0),(.bool false)]),Is 4 4 25])
 (Rg (Rq 26 [Qc 0 4,Qd 26,Qg 55 [t 27],Qp 28,Qa 29] (Rz 31 30 [Qc 1 4,Qd 31,Qg 56 [t 32],Qp 33] (Rq 35 [Ql 30 34,Qa 35] (Rz 37 36 [Qc 2 4,Qd 37,Qj .lss 38 1] (Rq 40 [Ql 36 39,Qa 40] (Rz 42 41 [Qc 2 4,Qd 42,Qj .gtr 43 4] (Rq 45 [Ql 41 44] [])))))))
 (.cond (t 45)
 (Rg (Rq 2 [Qq] [])
 .ret)
 .skip))))
 (.reg (Rq 19 [Qa 3,Qj .add 19 1] [Im 3 20])))))))
 (.seq (Rg (Rq 5 [Qk 0] [])
 (.block 2
 (.loop
 (.seq (Rg (Rq 46 [Qa 5,Qc 2 1,Qd 47,Qi 48,Qb .lss 46 49] [])
 (.cond (t 50)
 .skip
 (.exit 2)))
 (.seq (.block 3
 (Rg (Rq 53 [Qc 2 1,Qd 53,Qa 5,Qn 13 54 55,Qe 13 56] [I1 6 (.alloc [(.str []),(.str []),(.str []),(.bool false),(.str []),(.int .i64 0),(.int .i64 0),(.str []),.nils,(.str []),(.str []),.nils,.nils]),Is 13 6 57])
 (.seq (Rg (Rq 58 [Qc 0 6,Qd 58,Qg 56 [t 59],Qp 60,Qa 61] (Rz 63 62 [Qc 1 6,Qd 63,Qg 56 [t 64],Qp 65] (Rq 67 [Ql 62 66,Qa 67] (Rz 69 68 [Qc 2 6,Qd 69,Qg 59 [t 70],Qg 57 [t 71],Qp 72] (Rq 74 [Ql 68 73,Qa 74] (Rz 76 75 [Qc 3 6,Qd 76,Qc 4 6,Qe 8 78,Qg 66 [t 77,t 79],Qp 80] (Rq 82 [Ql 75 81] [])))))))
 (.cond (t 82)
 (Rg (Rq 2 [Qq] [])
 .ret)
 .skip))
 (Rg (Rq 7 [Qk 0] [])
 (.block 4
 (.loop
 (.seq (Rg (Rq 83 [Qa 7,Qc 12 6,Qd 84,Qi 85,Qb .lss 83 86] [])
 (.cond (t 87)
 .skip
 (.exit 4)))
 (.seq (.block 5
 (Rg (Rq 90 [Qc 12 6,Qd 90,Qa 7,Qn 13 91 92,Qe 13 93] [I1 8 (.alloc [(.bool false),(.str []),(.bool false),(.str []),(.int .i64 0),(.int .i64 0),(.str []),.nils,(.str []),(.str []),.nils,.nils,.nils]),Is 13 8 94])
 (Rg (Rq 95 [Qc 1 8,Qd 95,Qg 56 [t 96],Qp 97,Qa 98] (Rz 100 99 [Qc 2 8,Qd 100,Qc 3 8,Qe 8 102,Qg 66 [t 101,t 103],Qp 104] (Rq 106 [Ql 99 105,Qa 106] (Rz 108 107 [Qc 11 8,Qd 108,Qg 67 [t 109],Qp 110] (Rq 112 [Ql 107 111,Qa 112] (Rz 114 113 [Qc 12 8,Qd 114,Qg 67 [t 115],Qp 116] (Rq 118 [Ql 113 117] [])))))))
 (.cond (t 118)
 (Rg (Rq 2 [Qq] [])
 .ret)
 .skip))))
 (.reg (Rq 88 [Qa 7,Qj .add 88 1] [Im 7 89]))))))))))
 (.reg (Rq 51 [Qa 5,Qj .add 51 1] [Im 5 52])))))))
 (Rg (Rq 2 [Qr] [])
 .ret)))))
theorem A34:Fn Tryz.prog 29 119 [.inl 2] c29:=AP Tryz.func29 Tryz.ntmps29 Hq0
def c59:C :=
 (Rg ([I1 2 (.alloc [(.int .i64 0),(.str []),(.int .i64 0)])])
 (Rg ([Im 3 0,I1 4 (.build [(.int .i64 0),(.str []),(.int .i64 0)] [(0,1,(Ki 1)),(1,1,(t 3))]),Is 3 2 4])
 .ret))
theorem A4t:Fn Tryz.prog 59 5 [.inr (2,true,3)] c59:=AP Tryz.func59 Tryz.ntmps59 Hq0
def c66:C :=
 (Rg (Rq 3 [Qo 1,Qq] [])
 (.seq (Rg (Rq 5 [Qa 0,Qp 5] [])
 (.cond (t 6)
 (Rg (Rq 7 [Qe 8 3,.build [(.str []),(.int .i64 0),(.int .i64 0),(.str []),.nils,(.str []),(.str []),.nils] [],Qg 20 [t 7,t 8]] [Im 4 9])
 .ret)
 .skip))
 (Rg (Ia 10 8 3::Ip 11 21 [(t 10)]::Im 12 11::Rv 13 12 [Qe 8 3,Qg 22 [t 13],Qj .leq 14 12] (Rq 16 [Qm 12 15] [Im 4 16]))
 .ret)))
theorem A3Z:Fn Tryz.prog 66 17 [.inl 4] c66:=AP Tryz.func66 Tryz.ntmps66 Hq0
def c71:C :=
 (Rg (Rq 4 [Qa 0,Qa 1,Qf 69 [t 4,t 5],Qp 6] [])
 (.cond (t 7)
 (.reg (Rq 8 [Qa 0,Qa 0,.nilc (t 9),Qc 1 10,Qd 11,Qf 105 [t 8,t 12,(Ki 2)]] []))
 .skip))
theorem A4d:Fn Tryz.prog 71 14 [] c71:=AP Tryz.func71 Tryz.ntmps71 Hq0
def c91:C :=
 (Rg (Rq 4 [Qk 0] [])
 (.seq (.block 0
 (.loop
 (.seq (Rg (Rq 5 [Qa 1,Qa 0,Qs 6,Qb .lss 5 7] [])
 (.cond (t 8)
 .skip
 (.exit 0)))
 (.block 1
 (Rg (Rq 9 [Qa 0,Qa 1,.idxs (t 9) (t 10)] [])
 (.block 2
 (.seq (Rg ([I1 14 (.bin .eql (t 11) (k (.int .u8 32))),Im 13 14])
 (.cond (t 13)
 .skip
 (.reg [I1 15 (.bin .eql (t 11) (k (.int .u8 10))),Im 13 15])))
 (.cond (t 13)
 (.reg (Rq 16 [Qa 1,Qj .add 16 1] [Im 1 17]))
 (Rg ([I1 19 (.bin .eql (t 11) (k (.int .u8 35))),Im 18 19])
 (.cond (t 18)
 (.reg (Rq 20 [Qa 1,Qa 0,Qa 1,Qg 144 [t 21,t 22,(Kf 145)],Qb .add 20 23] [Im 1 24]))
 (Rg ([Im 12 1,Im 4 12])
 .ret)))))))))))
 (Rg ([Im 25 1,Im 4 25])
 .ret)))
theorem A5C:Fn Tryz.prog 91 26 [.inl 4] c91:=AP Tryz.func91 Tryz.ntmps91 Hq0
def YY:C :=
 (Rg (Rq 4 [.mv (Ks ([])),Qk 0] [])
 (Rg ([I1 6 (.mv KN)])
 (.seq (Rg (Rq 9 [Qa 1,Qj .add 9 1] [Im 7 10])
 (.block 0
 (.loop
 (.seq (Rg (Rq 11 [Qa 7,Qa 0,Qs 12,Qb .lss 11 13] [])
 (.cond (t 14)
 .skip
 (.exit 0)))
 (.seq (.block 1
 (Rg (Rq 17 [Qa 0,Qa 7,.idxs (t 17) (t 18)] [Im 8 19])
 (.seq (.block 2
 (Rg ([Im 21 8,I1 22 (.bin .eql (t 21) (k (.int .u8 34))),Im 20 22])
 (.cond (t 20)
 (Rg (Rq 23 [Qa 6,.b2s (t 23),Qa 7,Qj .add 25 1,Qa 1,Qb .sub 26 27] [Im 4 24,Im 5 28])
 .ret)
 (Rg ([Im 30 8,I1 31 (.bin .eql (t 30) (k (.int .u8 92))),Im 29 31])
 (.cond (t 29)
 (Rg (Rq 32 [Qa 7,Qj .add 32 1] [Im 7 33])
 (.seq (Rg (Rq 34 [Qa 7,Qa 0,Qs 35,Qb .eql 34 36,Qa 37] (Rz 39 38 [Qa 0,Qa 7,.idxs (t 39) (t 40),.bin .neq (t 41) (k (.int .u8 34)),Qa 42] (Rv 44 43 [Qa 0,Qa 7,.idxs (t 44) (t 45),.bin .neq (t 46) (k (.int .u8 92))] (Rz 48 38 [Qm 43 47] (Rq 49 [Ql 38 48] [])))))
 (.cond (t 49)
 (Rg (Rq 4 [.mv (Ks ([])),Qk 0] [])
 .ret)
 .skip))
 (.reg (Rq 50 [Qa 0,Qa 7,.idxs (t 50) (t 51)] [Im 8 52]))))
 (Rg (Rq 54 [Qa 8,.bin .lss (t 54) (k (.int .u8 32)),Qa 55] (Rz 57 56 [Qa 8,.bin .gtr (t 57) (k (.int .u8 126))] (Rq 59 [Ql 56 58] [Im 53 59])))
 (.cond (t 53)
 (Rg (Rq 4 [.mv (Ks ([])),Qk 0] [])
 .ret)
 .skip)))))))
 (Rg (Rq 60 [Qa 6,Qa 8,.bsl 1 [t 61],.app false 1 1 (t 60) (t 62)] [Im 6 63])
 (Rg (Rq 64 [Qa 6,Qi 64,Qj .gtr 65 64] [])
 (.cond (t 66)
 (Rg (Rq 4 [.mv (Ks ([])),Qk 0] [])
 .ret)
 .skip))))))
 (.reg (Rq 15 [Qa 7,Qj .add 15 1] [Im 7 16])))))))
 (Rg (Rq 4 [.mv (Ks ([])),Qk 0] [])
 .ret))))
theorem Y4:Fn Tryz.prog 150 67 [.inl 4,.inl 5] YY:=AP Tryz.func150 Tryz.ntmps150 Hq0
def A2b:C :=
 (Rg ([I1 0 (.mv KN)])
 (Rg ([I1 1 (.bsl 1 [(Ks ([100,101,110,121,95,111,118,101,114,114,105,100,101,115])),(Ks ([112,101,114,109,105,116,95,111,118,101,114,114,105,100,101,115])),(Ks ([102,105,114,115,116])),(Ks ([111,110,108,121,95,111,110,101])),(Ks ([100,101,110,121,95,117,110,108,101,115,115,95,112,101,114,109,105,116])),(Ks ([112,101,114,109,105,116,95,117,110,108,101,115,115,95,100,101,110,121]))]),Im 0 1])
 .ret))
theorem A1D:Fn Tryz.prog 156 2 [.inl 0] A2b:=AP Tryz.func156 Tryz.ntmps156 Hq0
def XH:C :=
 (Rg (Rq 2 [Qq] [])
 (Rg (Rq 3 [Qa 0,.bin .geq (t 3) (k (.int .u8 97)),Qa 4] (Rv 6 5 [Qa 0,.bin .leq (t 6) (k (.int .u8 122))] (Rq 8 [Qm 5 7] [Im 2 8])))
 .ret))
theorem Xb:Fn Tryz.prog 162 9 [.inl 2] XH:=AP Tryz.func162 Tryz.ntmps162 Hq0
def Gg:C :=
 (Rg (Rq 1 [Qo 0,Qq] [])
 (.seq (Rg ([If 3 0 1,Il 4 3])
 (.block 0
 (Rg (Rq 6 [Qj .eql 4 1] [Im 5 6])
 (.cond (t 5)
 (.seq (.draw 0 [(If 7 2 1,[]),(Il 8 7,[]),(I1 9 (.bin .eql (t 8) (Ki 0)),[]),(Im 10 9,[]),(Jf 11 10 true 1 1,[]),(Jl 12 10 true 11,[]),(I2 13 10 (.lens (t 12)),[]),(I2 14 10 (.bin .geq (t 13) (Ki 1)),[]),(I1 15 (.pick (t 10) (t 14) KF),[]),(Im 16 15,[]),(Jf 17 16 true 1 1,[]),(Jl 18 16 true 17,[]),(I2 19 16 (.lens (t 18)),[]),(I2 20 16 (.bin .leq (t 19) (Ki 64)),[]),(I1 21 (.pick (t 16) (t 20) KF),[]),(Im 22 21,[]),(Jf 23 22 true 1 1,[]),(Jl 24 22 true 23,[]),(I2 25 22 (.idxs (t 24) (Ki 0)),[]),(I2 26 22 (.bin .geq (t 25) (k (.int .u8 97))),[]),(I1 27 (.pick (t 22) (t 26) KF),[]),(Im 28 27,[]),(Jf 29 28 true 1 1,[]),(Jl 30 28 true 29,[]),(I2 31 28 (.idxs (t 30) (Ki 0)),[]),(I2 32 28 (.bin .leq (t 31) (k (.int .u8 122))),[]),(I1 33 (.pick (t 28) (t 32) KF),[]),(Im 34 33,[]),(Jf 35 34 true 1 1,[]),(Jl 36 34 true 35,[]),(I2 37 34 (.pcall (Kf 144) [(t 36),(Ki 0),(Kf 199)]),[]),(Jf 38 34 true 1 1,[]),(Jl 39 34 true 38,[]),(I2 40 34 (.lens (t 39)),[]),(I2 41 34 (.bin .eql (t 37) (t 40)),[]),(I1 42 (.pick (t 34) (t 41) KF),[]),(Im 2 42,[])])
 .ret)
 (Rg (Rq 44 [Qj .eql 4 2] [Im 43 44])
 (.cond (t 43)
 (Rg (Rq 45 [Qc 1 1,Qd 45,.bin .eql (t 46) (Ks ([])),Qa 47] (Rv 49 48 [Qc 2 1,Qd 49,Qj .geq 50 0] (Rq 52 [Qm 48 51] [Im 2 52])))
 .ret)
 (Rg (Rq 54 [Qj .eql 4 4] [Im 53 54])
 (.cond (t 53)
 (Rg (Rq 55 [Qc 1 1,Qd 55,.bin .eql (t 56) (Ks ([])),Qa 57] (Rv 59 58 [Qc 2 1,Qd 59,Qj .geq 60 0] (Rq 62 [Qm 58 61,Qa 62] (Rv 64 63 [Qc 2 1,Qd 64,Qj .leq 65 1099511627776] (Rq 67 [Qm 63 66] [Im 2 67])))))
 .ret)
 (Rg (Rq 69 [Qj .eql 4 3] [Im 68 69])
 (.cond (t 68)
 (.seq (.draw 0 [(If 70 2 1,[]),(Il 71 70,[]),(I1 72 (.bin .eql (t 71) (Ki 0)),[]),(Im 73 72,[]),(Jf 74 73 true 1 1,[]),(Jl 75 73 true 74,[]),(I2 76 73 (.lens (t 75)),[]),(I2 77 73 (.bin .leq (t 76) (Ki 64)),[]),(I1 78 (.pick (t 73) (t 77) KF),[]),(Im 79 78,[]),(Jf 80 79 true 1 1,[]),(Jl 81 79 true 80,[]),(I2 82 79 (.pcall (Kf 144) [(t 81),(Ki 0),(Kf 200)]),[]),(Jf 83 79 true 1 1,[]),(Jl 84 79 true 83,[]),(I2 85 79 (.lens (t 84)),[]),(I2 86 79 (.bin .eql (t 82) (t 85)),[]),(I1 87 (.pick (t 79) (t 86) KF),[]),(Im 2 87,[])])
 .ret)
 (Rg (Rq 89 [Qj .eql 4 5] [Im 88 89])
 (.cond (t 88)
 (.seq (.draw 0 [(If 90 2 1,[]),(Il 91 90,[]),(I1 92 (.bin .eql (t 91) (Ki 0)),[]),(Im 93 92,[]),(I2 94 93 (.pcall (Kf 151) []),[]),(Jf 95 93 true 1 1,[]),(Jl 96 93 true 95,[]),(I2 97 93 (.pcall (Kf 47) [(t 94),(t 96)]),[]),(I1 98 (.pick (t 93) (t 97) KF),[]),(Im 2 98,[])])
 .ret)
 .skip))))))))))))
 (Rg (Rq 2 [Qq] [])
 .ret)))
theorem Zp:Fn Tryz.prog 166 99 [.inl 2] Gg:=AP Tryz.func166 Tryz.ntmps166 Hq0
def A1B:C :=
 (Rg (Rq 1 [Qo 0,Qq] [])
 (.seq (Rg (Rq 3 [Qc 3 1,Qd 3,Qi 4,Qj .gtr 5 0,Qa 6] (Rz 8 7 [Qc 0 1,Qd 8,Qj .lss 9 0] (Rq 11 [Ql 7 10,Qa 11] (Rz 13 12 [Qc 0 1,Qd 13,Qj .gtr 14 4] (Rq 16 [Ql 12 15] [])))))
 (.cond (t 16)
 (Rg (Rq 2 [Qq] [])
 .ret)
 .skip))
 (.seq (Rg (Rq 17 [Qc 0 1,Qd 17,Qj .eql 18 3] [])
 (.cond (t 19)
 (Rg (Rq 20 [Qc 1 1,Qd 20,Qj .eql 21 0,Qa 22] (Rv 24 23 [Qc 2 1,Qd 24,Qs 25,Qj .leq 26 64] (Rq 28 [Qm 23 27] [Im 2 28])))
 .ret)
 .skip))
 (.seq (Rg (Rq 29 [Qc 2 1,Qd 29,.bin .neq (t 30) (Ks ([])),Qa 31] (Rz 33 32 [Qc 0 1,Qd 33,Qj .eql 34 0,Qa 35] (Rv 37 36 [Qc 1 1,Qd 37,Qj .neq 38 0] (Rz 40 32 [Qm 36 39] (Rq 41 [Ql 32 40,Qa 41] (Rz 43 42 [Qc 0 1,Qd 43,Qj .eql 44 1,Qa 45] (Rv 47 46 [Qc 1 1,Qd 47,Qj .neq 48 0] (Rz 50 42 [Qm 46 49,Qa 50] (Rv 52 51 [Qc 1 1,Qd 52,Qj .neq 53 1] (Rz 55 42 [Qm 51 54] (Rq 56 [Ql 42 55] [])))))))))))
 (.cond (t 56)
 (Rg (Rq 2 [Qq] [])
 .ret)
 .skip))
 (Rg (Rq 57 [Qc 0 1,Qd 57,Qj .neq 58 4,Qa 59] (Rz 61 60 [Qc 1 1,Qd 61,Qj .geq 62 0,Qa 63] (Rv 65 64 [Qc 1 1,Qd 65,Qj .leq 66 1099511627776] (Rz 68 60 [Qm 64 67] (Rq 69 [Ql 60 68] [Im 2 69])))))
 .ret)))))
theorem Yt:Fn Tryz.prog 171 70 [.inl 2] A1B:=AP Tryz.func171 Tryz.ntmps171 Hq0
def WH:C :=
 (Rg (Rq 1 [Qo 0,Qk 0] [])
 (.seq (Rg (Rq 3 [Qc 2 1,Qd 3,Qj .eql 4 0,Qa 5] (Rv 7 6 [Qc 3 1,Qd 7,Qp 8] (Rq 10 [Qm 6 9] [])))
 (.cond (t 10)
 (Rg (Rq 2 [Qk 8] [])
 .ret)
 .skip))
 (Rg (Rq 2 [Qk 0] [])
 .ret)))
theorem A1y:Fn Tryz.prog 212 11 [.inl 2] WH:=AP Tryz.func212 Tryz.ntmps212 Hq0
def A02:C :=
 (Rg ([I1 2 (.alloc [(.int .i64 0),(.int .i64 0),(.str []),.nils])])
 (Rg ([Im 3 0,I1 4 (.build [(.int .i64 0),(.int .i64 0),(.str []),.nils] [(0,1,(Ki 2)),(1,1,(t 3))]),Is 4 2 4])
 .ret))
theorem Z3:Fn Tryz.prog 242 5 [.inr (2,true,4)] A02:=AP Tryz.func242 Tryz.ntmps242 Hq0
def A1W:C :=
 (Rg (Rq 10 [Qa 1,Qj .add 10 1] [Im 8 11])
 (.block 0
 (.loop
 (.seq (Rg (Rq 12 [Qa 8,Qa 2,Qb .lss 12 13] [])
 (.cond (t 14)
 .skip
 (.exit 0)))
 (.seq (.block 1
 (Rg ([Im 17 8,Im 9 17])
 (.block 2
 (.loop
 (.seq (.seq (.draw 0 [(Im 18 9,[]),(Im 19 1,[]),(I1 20 (.bin .gtr (t 18) (t 19)),[]),(Im 21 20,[]),(Jm 22 21 true 3,[]),(Jm 23 21 true 0,[]),(Jm 24 21 true 9,[]),(I2 25 21 (.iaddr 4 (t 23) (t 24)),[]),(I2 26 21 (.load true 4 (t 25)),[]),(Jm 27 21 true 0,[]),(Jm 28 21 true 9,[]),(I2 29 21 (.bin .sub (t 28) (Ki 1)),[]),(I2 30 21 (.iaddr 4 (t 27) (t 29)),[]),(I2 31 21 (.load true 4 (t 30)),[]),(I2 32 21 (.pcall (t 22) [(t 26),(t 31)]),[]),(I2 33 21 (.bin .lss (t 32) (Ki 0)),[]),(I1 34 (.pick (t 21) (t 33) KF),[])])
 (.cond (t 34)
 .skip
 (.exit 2)))
 (.seq (.block 3
 (.draw 0 [(Im 37 0,[]),(Im 38 9,[]),(Im 39 0,[]),(Im 40 9,[]),(I1 41 (.bin .sub (t 40) (Ki 1)),[]),(Im 42 0,[]),(Im 43 9,[]),(I1 44 (.bin .sub (t 43) (Ki 1)),[]),(I1 45 (.iaddr 4 (t 42) (t 44)),[]),(Ia 46 4 45,[]),(Im 47 0,[]),(Im 48 9,[]),(I1 49 (.iaddr 4 (t 47) (t 48)),[]),(Ia 50 4 49,[]),(I1 51 (.iaddr 4 (t 37) (t 38)),[]),(Is 4 51 46,[]),(I1 52 (.iaddr 4 (t 39) (t 41)),[]),(Is 4 52 50,[])]))
 (.reg (Rq 35 [Qa 9,Qj .sub 35 1] [Im 9 36]))))))))
 (.reg (Rq 15 [Qa 8,Qj .add 15 1] [Im 8 16])))))))
theorem ZC:Fn Tryz.prog 253 53 [] A1W:=AP Tryz.func253 Tryz.ntmps253 Hq0
end GP
namespace GP
open Go Go.Proofs
open Rd O
set_option maxRecDepth 100000
def c48:C :=
 (Rg ([I1 0 (.mv KN)])
 (Rg ([I1 1 (.bsl 1 [(Ks ([102,97,99,116])),(Ks ([116,114,117,116,104])),(Ks ([110,117,109,98,101,114])),(Ks ([116,101,120,116])),(Ks ([116,105,109,101])),(Ks ([98,97,103])),(Ks ([117,115,101])),(Ks ([112,111,108,105,99,121])),(Ks ([98,121])),(Ks ([102,111,114])),(Ks ([112,101,114,109,105,116])),(Ks ([100,101,110,121])),(Ks ([105,102])),(Ks ([100,117,116,121])),(Ks ([97,100,118,105,99,101])),(Ks ([116,114,117,101])),(Ks ([102,97,108,115,101])),(Ks ([110,111,119])),(Ks ([111,114])),(Ks ([97,110,100])),(Ks ([110,111,116])),(Ks ([105,110])),(Ks ([104,97,115])),(Ks ([114,111,108,101])),(Ks ([115,105,122,101])),(Ks ([115,117,98,106,101,99,116])),(Ks ([114,101,115,111,117,114,99,101])),(Ks ([97,99,116,105,111,110])),(Ks ([101,110,118]))]),Im 0 1])
 .ret))
theorem A5G:Fn Tryz.prog 48 2 [.inl 0] c48:=AP Tryz.func48 Tryz.ntmps48 Hq0
def c51:C :=
 (Rg (Rq 2 [Qo 0,Qo 1,Qq] [])
 (Rg (Rq 5 [Qc 1 2,Qe 4 5,Qc 1 3,Qe 4 7,Qg 54 [t 6,t 8]] [Im 4 9])
 .ret))
theorem A4E:Fn Tryz.prog 51 10 [.inl 4] c51:=AP Tryz.func51 Tryz.ntmps51 Hq0
def c62:C :=
 (Rg (Rq 4 [Qq] [])
 (.seq (Rg (Rq 5 [Qk 0] [])
 (.block 0
 (.loop
 (.seq (Rg (Rq 6 [Qa 5,Qa 0,Qi 7,Qb .lss 6 8] [])
 (.cond (t 9)
 .skip
 (.exit 0)))
 (.seq (.block 1
 (Rg (Rq 12 [Qa 0,Qa 5,Qn 1 12 13,Qd 14,Qa 1,Qb .eql 15 16] [])
 (.cond (t 17)
 (Rg (Rq 4 [Qr] [])
 .ret)
 .skip)))
 (.reg (Rq 10 [Qa 5,Qj .add 10 1] [Im 5 11])))))))
 (Rg (Rq 4 [Qq] [])
 .ret)))
theorem A4Y:Fn Tryz.prog 62 18 [.inl 4] c62:=AP Tryz.func62 Tryz.ntmps62 Hq0
def c64:C :=
 (Rg (Rq 2 [Qo 0,Qo 1,Qk 0] [])
 (.seq (.seq (.draw 0 [(If 6 0 2,[]),(Il 7 6,[]),(If 8 0 3,[]),(Il 9 8,[]),(Ip 10 113 [(t 7),(t 9)],[]),(If 11 1 2,[]),(Il 12 11,[]),(If 13 1 3,[]),(Il 14 13,[]),(Ip 15 114 [(t 12),(t 14)],[]),(If 16 2 2,[]),(Il 17 16,[]),(If 18 2 3,[]),(Il 19 18,[]),(Ip 20 115 [(t 17),(t 19)],[]),(I1 21 (.bslq 1 [(t 10),(t 15),(t 20)]),[]),(Ip 22 112 [(t 21)],[]),(Im 5 22,[])])
 (Rg (Rq 23 [Qa 5,Qj .neq 23 0] [])
 (.cond (t 24)
 (Rg ([Im 25 5,Im 4 25])
 .ret)
 .skip)))
 (Rg (Rq 26 [Qc 3 2,Qd 26,Qc 3 3,Qd 28,Qg 116 [t 27,t 29,(Kf 64)]] [Im 4 30])
 .ret)))
theorem A3n:Fn Tryz.prog 64 31 [.inl 4] c64:=AP Tryz.func64 Tryz.ntmps64 Hq0
def c69:C :=
 (Rg (Rq 4 [Qq] [])
 (.seq (Rg (Rq 5 [Qa 0,Qa 1,Qg 117 [t 5,t 6],Qp 7] [])
 (.cond (t 8)
 (Rg (Rq 4 [Qq] [])
 .ret)
 .skip))
 (Rg (Rq 9 [Qa 0,.nilc (t 9),Qc 1 10,Qd 11,Qj .add 12 1,.nilc (t 9),Qc 1 14] [Is 1 15 13])
 (Rg (Rq 4 [Qr] [])
 .ret))))
theorem A4C:Fn Tryz.prog 69 16 [.inl 4] c69:=AP Tryz.func69 Tryz.ntmps69 Hq0
def c97:C :=
 (Rg (Rq 3 [Qo 1,Qk 0,Qk 0] [])
 (Rg ([If 12 0 3,Il 13 12,Ip 14 158 [(t 13)],Im 6 14])
 (.seq (Rg (Rq 15 [Qa 6,Qj .lss 15 0,Qa 16] (Rz 18 17 [Qc 7 3,Qd 18,Qi 19,Qa 6,Qb .neq 20 21] (Rq 23 [Ql 17 22] [])))
 (.cond (t 23)
 (Rg (Rq 4 [Qk 0,Qk 2] [])
 .ret)
 .skip))
 (.seq (Rg (Rq 24 [Qa 6,Qj .eql 24 0] [])
 (.cond (t 25)
 (Rg (Rq 26 [Qa 0,Qe 8 3,Qg 159 [t 26,t 27],Qh 0 28,Qh 1 28] [Im 4 29,Im 5 30])
 .ret)
 .skip))
 (Rg (Rq 32 [Qa 0,Qc 7 3,Qd 33,.iaddr 8 (t 34) (Ki 0),Qe 8 35,Qg 97 [t 32,t 36]] [Im 31 37,Ie 38 0 31,Ie 39 1 31,Im 7 38,Im 8 39])
 (.seq (Rg (Rq 40 [Qa 8,Qj .neq 40 0] [])
 (.cond (t 41)
 (Rg (Im 42 8::Rq 4 [Qk 0,Qa 42] [])
 .ret)
 .skip))
 (Rg (Rq 43 [Qc 0 3,Qd 43,Qa 7,Qg 160 [t 44,t 45]] [Im 9 46])
 (.seq (Rg (Rq 47 [Qa 6,Qj .eql 47 2] [])
 (.cond (t 48)
 (Rg (Rq 50 [Qa 0,Qc 7 3,Qd 51,.iaddr 8 (t 52) (Ki 1),Qe 8 53,Qg 97 [t 50,t 54]] [Im 49 55,Ie 56 0 49,Ie 57 1 49,Im 10 56,Im 11 57])
 (.seq (Rg (Rq 58 [Qa 11,Qj .neq 58 0] [])
 (.cond (t 59)
 (Rg (Im 60 11::Rq 4 [Qk 0,Qa 60] [])
 .ret)
 .skip))
 (.reg (Rq 61 [Qc 0 3,Qd 61,Qa 7,Qa 10,Qg 161 [t 62,t 63,t 64]] [Im 9 65]))))
 .skip))
 (.seq (Rg (Rq 66 [Qa 9,Qj .eql 66 0] [])
 (.cond (t 67)
 (Rg (Rq 4 [Qk 0,Qk 6] [])
 .ret)
 .skip))
 (Rg (Im 68 9::Rq 4 [Qa 68,Qk 0] [])
 .ret))))))))))
theorem A5i:Fn Tryz.prog 97 69 [.inl 4,.inl 5] c97:=AP Tryz.func97 Tryz.ntmps97 Hq0
def A1t:C :=
 (Rg ([I1 6 (.alloc [(.str []),(.int .i64 0),(.int .i64 0),(.str []),.nils,(.str []),(.str []),.nils])])
 (Rg ([Im 11 1,I1 12 (.call (t 11) []),I1 7 (.alloc [(.str []),(.int .i64 0),(.int .i64 0),(.str []),.nils,(.str []),(.str []),.nils]),Is 8 7 12])
 (.seq (.block 0
 (.loop
 (.seq (Rg (Rq 13 [Qa 0,.nilc (t 13),Qc 2 14,Qd 15,Qj .eql 16 0] [])
 (.cond (t 17)
 .skip
 (.exit 0)))
 (.block 1
 (Rg ([I1 8 (.mv (Ks ([])))])
 (.seq (Rg (Rq 18 [Qa 2,Qi 18,Qk 0] [])
 (.block 2
 (.loop
 (Rg (Rq 21 [Qb .lss 20 19] [])
 (.seq (.cond (t 21)
 .skip
 (.exit 2))
 (.seq (.block 3
 (Rg (Rq 22 [Qn 1 18 20,Qd 22] [Im 10 23])
 (Rg (Rq 24 [Qa 8,.bin .eql (t 24) (Ks ([])),Qa 25] (Rv 27 26 [Qa 0,Qa 10,Qf 69 [t 27,t 28]] (Rq 30 [Qm 26 29] [])))
 (.cond (t 30)
 (.reg [Im 31 10,Im 8 31])
 .skip))))
 (.reg (Rq 32 [Qj .add 20 1] [Im 20 32]))))))))
 (.seq (Rg ([Im 33 8,I1 34 (.bin .eql (t 33) (Ks ([])))])
 (.cond (t 34)
 (.exit 0)
 .skip))
 (.draw 0 [(Im 35 8,[]),(Ia 36 8 7,[]),(Im 37 1,[]),(I1 38 (.call (t 37) []),[Ia 36 8 7]),(Ip 39 169 [(t 35),(t 36),(t 38)],[]),(Is 8 7 39,[])]))))))))
 (Rg ([Ia 40 8 7,Is 8 6 40])
 .ret))))
theorem XY:Fn Tryz.prog 103 41 [.inr (6,true,8)] A1t:=AP Tryz.func103 Tryz.ntmps103 Hq1
def XX:C :=
 (Rg ([I1 0 (.mv KN)])
 (Rg (Rq 1 [.bsl 1 [(Ks ([111,114]))],.bsl 1 [(Ks ([97,110,100]))],.bsl 1 [(Ks ([61,61])),(Ks ([33,61])),(Ks ([60])),(Ks ([60,61])),(Ks ([62])),(Ks ([62,61])),(Ks ([105,110]))],.bsl 1 [(Ks ([43])),(Ks ([45]))],.bsl 1 [(Ks ([42]))],.bsl 1 [t 1,t 2,t 3,t 4,t 5]] [Im 0 6])
 .ret))
theorem A1T:Fn Tryz.prog 106 7 [.inl 0] XX:=AP Tryz.func106 Tryz.ntmps106 Hq0
def YU:C :=
 (Rg (Rq 2 [Qq] [])
 (Rg ([Ip 5 173 [],Im 3 5])
 (.seq (Rg (Rq 4 [Qk 0] [])
 (.block 0
 (.loop
 (.seq (Rg (Rq 6 [Qa 4,Qa 3,Qi 7,Qb .lss 6 8] [])
 (.cond (t 9)
 .skip
 (.exit 0)))
 (.seq (.block 1
 (Rg (Rq 12 [Qa 3,Qa 4,Qn 1 12 13,Qd 14,Qa 0,Qb .eql 15 16] [])
 (.cond (t 17)
 (Rg (Rq 2 [Qr] [])
 .ret)
 .skip)))
 (.reg (Rq 10 [Qa 4,Qj .add 10 1] [Im 4 11])))))))
 (Rg (Rq 2 [Qq] [])
 .ret))))
theorem Yd:Fn Tryz.prog 110 18 [.inl 2] YU:=AP Tryz.func110 Tryz.ntmps110 Hq0
def A1Y:C :=
 (Rg (Rq 4 [Qk 0] [])
 (Rg ([Im 7 0,Ip 8 174 [(t 7)],Im 5 8])
 (Rg ([Im 9 1,Ip 10 174 [(t 9)],Im 6 10])
 (.seq (Rg ([Im 11 5])
 (.cond (t 11)
 (.seq (Rg ([Im 12 6])
 (.cond (t 12)
 (Rg (Rq 4 [Qk 0] [])
 .ret)
 .skip))
 (Rg ([I1 4 (.mv (k (.int .i64 (-1))))])
 .ret))
 .skip))
 (.seq (Rg ([Im 13 6])
 (.cond (t 13)
 (Rg (Rq 4 [Qk 1] [])
 .ret)
 .skip))
 (.seq (Rg (Rq 14 [Qa 0,Qa 1,Qb .lss 14 15] [])
 (.cond (t 16)
 (Rg ([I1 4 (.mv (k (.int .i64 (-1))))])
 .ret)
 .skip))
 (.seq (Rg (Rq 17 [Qa 0,Qa 1,Qb .gtr 17 18] [])
 (.cond (t 19)
 (Rg (Rq 4 [Qk 1] [])
 .ret)
 .skip))
 (Rg (Rq 4 [Qk 0] [])
 .ret))))))))
theorem A10:Fn Tryz.prog 113 20 [.inl 4] A1Y:=AP Tryz.func113 Tryz.ntmps113 Hq0
def ZB:C :=
 (Rg (Rq 2 [Qq] [])
 (Rg ([Im 3 0,I1 4 (.bin .neq (t 3) (k (.int .u8 10))),Im 2 4])
 .ret))
theorem ZU:Fn Tryz.prog 145 5 [.inl 2] ZB:=AP Tryz.func145 Tryz.ntmps145 Hq0
def Yy:C :=
 (Rg (Rq 2 [Qq] [])
 (Rg (Im 3 0::Ip 4 147 [(t 3)]::Im 5 4::Rz 6 5 [Qa 0,Qg 148 [t 6]] (Rq 8 [Ql 5 7] [Im 2 8]))
 .ret))
theorem ZX:Fn Tryz.prog 146 9 [.inl 2] Yy:=AP Tryz.func146 Tryz.ntmps146 Hq0
def L9:C :=
 (Rg (Rq 6 [Qk 0,Qk 0] [])
 (Rg (Rq 11 [Qa 0,Qa 1,Qg 144 [t 11,t 12,(Kf 148)]] [Im 8 13])
 (.seq (Rg (Rq 14 [Qa 8,Qj .lss 14 1,Qa 15] (Rz 17 16 [Qa 8,Qj .gtr 17 19] (Rq 19 [Ql 16 18,Qa 19] (Rz 21 20 [Qa 1,Qa 8,Qb .add 21 22,Qa 0,Qs 24,Qb .lss 23 25,Qa 26] (Rv 28 27 [Qa 0,Qa 1,Qa 8,Qb .add 29 30,.idxs (t 28) (t 31),Qg 147 [t 32]] (Rz 34 20 [Qm 27 33] (Rq 35 [Ql 20 34] [])))))))
 (.cond (t 35)
 (Rg (Rq 6 [Qk 0,Qk 0] [])
 .ret)
 .skip))
 (Rg (Rq 37 [Qa 0,Qa 1,Qa 1,Qa 8,Qb .add 39 40,.subs (t 37) (some (t 38)) (some (t 41)),Qg 185 [t 42,(Ki 10),(Ki 64)]] [Im 36 43,Ie 44 0 36,Ie 45 1 36,Im 9 44,Im 10 45])
 (.seq (Rg (Rq 46 [Qa 10,.eq1 .ifc true (t 46) (k .nili),Qa 47] (Rz 49 48 [Qa 9,Qa 2,Qb .gtr 49 50] (Rq 52 [Ql 48 51] [])))
 (.cond (t 52)
 (Rg (Rq 6 [Qk 0,Qk 0] [])
 .ret)
 .skip))
 (Rg ([Im 53 9,Im 54 8,Im 6 53,Im 7 54])
 .ret))))))
theorem Zo:Fn Tryz.prog 149 55 [.inl 6,.inl 7] L9:=AP Tryz.func149 Tryz.ntmps149 Hq0
def U3:C :=
 (Rg (Rq 1 [Qo 0,Qk 0] [])
 (.seq (Rg (If 5 0 1::Il 6 5::Ip 7 187 [(t 6),(Kf 188)]::Im 8 7::Rz 9 8 [Qc 2 1,Qd 9,Qg 189 [t 10,(Kf 190)]] (Rq 12 [Ql 8 11] []))
 (.cond (t 12)
 (Rg (Rq 2 [Qk 9] [])
 .ret)
 .skip))
 (.seq (Rg (Rq 13 [Qc 2 1,Qd 13,Qi 14,Qk 0] [])
 (.block 0
 (.loop
 (Rg (Rq 17 [Qb .lss 16 15] [])
 (.seq (.cond (t 17)
 .skip
 (.exit 0))
 (.seq (.block 1
 (Rg (Rq 18 [Qn 13 14 16,Qe 13 18] [I1 4 (.alloc [(.str []),(.str []),(.str []),(.bool false),(.str []),(.int .i64 0),(.int .i64 0),(.str []),.nils,(.str []),(.str []),.nils,.nils]),Is 13 4 19])
 (Rg ([If 20 12 4,Il 21 20,Ip 22 191 [(t 21),(Kf 192)]])
 (.cond (t 22)
 (Rg (Rq 2 [Qk 9] [])
 .ret)
 .skip))))
 (.reg (Rq 23 [Qj .add 16 1] [Im 16 23]))))))))
 (Rg (Rq 2 [Qk 0] [])
 .ret))))
theorem Zl:Fn Tryz.prog 153 24 [.inl 2] U3:=AP Tryz.func153 Tryz.ntmps153 Hq0
def Y7:C :=
 (Rg (Rq 2 [Qo 0,Qo 1,Qk 0] [])
 (.seq (Rg (Rq 5 [Qc 0 2,Qd 5,Qc 0 3,Qd 7,Qb .neq 6 8] [])
 (.cond (t 9)
 (Rg (Rq 10 [Qc 0 2,Qd 10,Qc 0 3,Qd 12,Qg 203 [t 11,t 13]] [Im 4 14])
 .ret)
 .skip))
 (.seq (Rg (Rq 15 [Qc 0 2,Qd 15,Qj .eql 16 3] [])
 (.cond (t 17)
 (Rg (Rq 18 [Qc 2 2,Qd 18,Qc 2 3,Qd 20,Qg 204 [t 19,t 21]] [Im 4 22])
 .ret)
 .skip))
 (Rg (Rq 23 [Qc 1 2,Qd 23,Qc 1 3,Qd 25,Qg 203 [t 24,t 26]] [Im 4 27])
 .ret))))
theorem A1N:Fn Tryz.prog 172 28 [.inl 4] Y7:=AP Tryz.func172 Tryz.ntmps172 Hq0
def Yu:C :=
 (Rg ([I1 0 (.mv KN)])
 (Rg (Rq 4 [.build [(.str []),(.int .i64 0),(.int .i64 0),(.int .i64 0)] [(0,1,(Ks ([110,111,116]))),(1,1,(Ki 1)),(3,1,(Ki 1))],.build [(.str []),(.int .i64 0),(.int .i64 0),(.int .i64 0)] [(0,1,(Ks ([110,101,103]))),(1,1,(Ki 2)),(3,1,(Ki 2))],.build [(.str []),(.int .i64 0),(.int .i64 0),(.int .i64 0)] [(0,1,(Ks ([97,110,100]))),(1,1,(Ki 1)),(2,1,(Ki 1)),(3,1,(Ki 1))],.build [(.str []),(.int .i64 0),(.int .i64 0),(.int .i64 0)] [(0,1,(Ks ([111,114]))),(1,1,(Ki 1)),(2,1,(Ki 1)),(3,1,(Ki 1))],.build [(.str []),(.int .i64 0),(.int .i64 0),(.int .i64 0)] [(0,1,(Ks ([43]))),(1,1,(Ki 2)),(2,1,(Ki 2)),(3,1,(Ki 2))],.build [(.str []),(.int .i64 0),(.int .i64 0),(.int .i64 0)] [(0,1,(Ks ([45]))),(1,1,(Ki 2)),(2,1,(Ki 2)),(3,1,(Ki 2))],.build [(.str []),(.int .i64 0),(.int .i64 0),(.int .i64 0)] [(0,1,(Ks ([42]))),(1,1,(Ki 2)),(2,1,(Ki 2)),(3,1,(Ki 2))],.build [(.str []),(.int .i64 0),(.int .i64 0),(.int .i64 0)] [(0,1,(Ks ([43]))),(1,1,(Ki 4)),(2,1,(Ki 2)),(3,1,(Ki 4))],.build [(.str []),(.int .i64 0),(.int .i64 0),(.int .i64 0)] [(0,1,(Ks ([45]))),(1,1,(Ki 4)),(2,1,(Ki 2)),(3,1,(Ki 4))],.build [(.str []),(.int .i64 0),(.int .i64 0),(.int .i64 0)] [(0,1,(Ks ([45]))),(1,1,(Ki 4)),(2,1,(Ki 4)),(3,1,(Ki 2))],.bsl 4 [t 4,t 5,t 6,t 7,t 8,t 9,t 10,t 11,t 12,t 13]] [Im 1 14])
 (.seq (Rg (Rq 2 [Qk 1] [])
 (.block 0
 (.loop
 (.seq (Rg (Rq 15 [Qa 2,Qj .leq 15 4] [])
 (.cond (t 16)
 .skip
 (.exit 0)))
 (.seq (.block 1
 (.reg (Rq 19 [Qa 1,Qa 2,.bin .add (Ki 10) (t 20),.build [(.str []),(.int .i64 0),(.int .i64 0),(.int .i64 0)] [(0,1,(Ks ([115,105,122,101]))),(1,1,(t 21)),(3,1,(Ki 2))],Qa 2,Qa 2,.bin .add (Ki 10) (t 24),.build [(.str []),(.int .i64 0),(.int .i64 0),(.int .i64 0)] [(0,1,(Ks ([105,110]))),(1,1,(t 23)),(2,1,(t 25)),(3,1,(Ki 1))],Qa 2,Qa 2,.build [(.str []),(.int .i64 0),(.int .i64 0),(.int .i64 0)] [(0,1,(Ks ([61,61]))),(1,1,(t 27)),(2,1,(t 28)),(3,1,(Ki 1))],Qa 2,Qa 2,.build [(.str []),(.int .i64 0),(.int .i64 0),(.int .i64 0)] [(0,1,(Ks ([33,61]))),(1,1,(t 30)),(2,1,(t 31)),(3,1,(Ki 1))],Qa 2,.bin .add (Ki 10) (t 33),Qa 2,.bin .add (Ki 10) (t 35),.build [(.str []),(.int .i64 0),(.int .i64 0),(.int .i64 0)] [(0,1,(Ks ([61,61]))),(1,1,(t 34)),(2,1,(t 36)),(3,1,(Ki 1))],Qa 2,.bin .add (Ki 10) (t 38),Qa 2,.bin .add (Ki 10) (t 40),.build [(.str []),(.int .i64 0),(.int .i64 0),(.int .i64 0)] [(0,1,(Ks ([33,61]))),(1,1,(t 39)),(2,1,(t 41)),(3,1,(Ki 1))],.bsl 4 [t 22,t 26,t 29,t 32,t 37,t 42],.app false 4 40 (t 19) (t 43)] [Im 1 44])))
 (.reg (Rq 17 [Qa 2,Qj .add 17 1] [Im 2 18])))))))
 (.seq (Rg (Rq 3 [Qk 2] [])
 (.block 2
 (.loop
 (.seq (Rg (Rq 45 [Qa 3,Qj .leq 45 4] [])
 (.cond (t 46)
 .skip
 (.exit 2)))
 (.seq (.block 3
 (.reg (Rq 49 [Qa 1,Qa 3,Qa 3,.build [(.str []),(.int .i64 0),(.int .i64 0),(.int .i64 0)] [(0,1,(Ks ([60]))),(1,1,(t 50)),(2,1,(t 51)),(3,1,(Ki 1))],Qa 3,Qa 3,.build [(.str []),(.int .i64 0),(.int .i64 0),(.int .i64 0)] [(0,1,(Ks ([60,61]))),(1,1,(t 53)),(2,1,(t 54)),(3,1,(Ki 1))],Qa 3,Qa 3,.build [(.str []),(.int .i64 0),(.int .i64 0),(.int .i64 0)] [(0,1,(Ks ([62]))),(1,1,(t 56)),(2,1,(t 57)),(3,1,(Ki 1))],Qa 3,Qa 3,.build [(.str []),(.int .i64 0),(.int .i64 0),(.int .i64 0)] [(0,1,(Ks ([62,61]))),(1,1,(t 59)),(2,1,(t 60)),(3,1,(Ki 1))],.bsl 4 [t 52,t 55,t 58,t 61],.app false 4 40 (t 49) (t 62)] [Im 1 63])))
 (.reg (Rq 47 [Qa 3,Qj .add 47 1] [Im 3 48])))))))
 (Rg ([Im 64 1,Im 0 64])
 .ret)))))
theorem Xm:Fn Tryz.prog 195 65 [.inl 0] Yu:=AP Tryz.func195 Tryz.ntmps195 Hq0
def Wn:C :=
 (Rg (Rq 1 [Qo 0,Qk 0] [])
 (.seq (.block 0
 (Rg (Rq 4 [Qe 4 1,Qg 129 [t 4],Qp 5,Qa 6] (Rz 8 7 [Qc 0 1,Qd 8,Qj .eql 9 0] (Rq 11 [Ql 7 10,Qa 11] (Rz 13 12 [Qc 0 1,Qd 13,Qj .eql 14 5,Qa 15] (Rv 17 16 [Qc 3 1,Qd 17,Qi 18,Qj .eql 19 0] (Rz 21 12 [Qm 16 20] (Rq 22 [Ql 12 21] [Im 3 22])))))))
 (.cond (t 3)
 (Rg (Rq 2 [Qk 0] [])
 .ret)
 (Rg (Rq 24 [Qc 0 1,Qd 24,Qj .eql 25 5] [Im 23 26])
 (.cond (t 23)
 (Rg (Rq 27 [Qc 3 1,Qd 27,.iaddr 4 (t 28) (Ki 0),Qc 0 29,Qd 30,.bin .add (Ki 10) (t 31)] [Im 2 32])
 .ret)
 .skip)))))
 (Rg ([If 33 0 1,Il 34 33,Im 2 34])
 .ret)))
theorem Y6:Fn Tryz.prog 196 35 [.inl 2] Wn:=AP Tryz.func196 Tryz.ntmps196 Hq0
def A2j:C :=
 (Rg (Rq 4 [Qk 0] [])
 (.seq (Rg (Rq 5 [Qk 0] [])
 (.block 0
 (.loop
 (.seq (Rg (Rq 6 [Qa 5,Qa 0,Qs 7,Qb .lss 6 8,Qa 9] (Rv 11 10 [Qa 5,Qa 1,Qs 12,Qb .lss 11 13] (Rq 15 [Qm 10 14] [])))
 (.cond (t 15)
 .skip
 (.exit 0)))
 (.seq (.block 1
 (.seq (.seq (.draw 0 [(Im 18 0,[]),(Im 19 5,[]),(I1 20 (.idxs (t 18) (t 19)),[]),(Im 21 1,[]),(Im 22 5,[]),(I1 23 (.idxs (t 21) (t 22)),[]),(I1 24 (.bin .lss (t 20) (t 23)),[])])
 (.cond (t 24)
 (Rg ([I1 4 (.mv (k (.int .i64 (-1))))])
 .ret)
 .skip))
 (.seq (.draw 0 [(Im 25 0,[]),(Im 26 5,[]),(I1 27 (.idxs (t 25) (t 26)),[]),(Im 28 1,[]),(Im 29 5,[]),(I1 30 (.idxs (t 28) (t 29)),[]),(I1 31 (.bin .gtr (t 27) (t 30)),[])])
 (.cond (t 31)
 (Rg (Rq 4 [Qk 1] [])
 .ret)
 .skip))))
 (.reg (Rq 16 [Qa 5,Qj .add 16 1] [Im 5 17])))))))
 (.seq (Rg (Rq 32 [Qa 0,Qs 32,Qa 1,Qs 34,Qb .lss 33 35] [])
 (.cond (t 36)
 (Rg ([I1 4 (.mv (k (.int .i64 (-1))))])
 .ret)
 .skip))
 (.seq (Rg (Rq 37 [Qa 0,Qs 37,Qa 1,Qs 39,Qb .gtr 38 40] [])
 (.cond (t 41)
 (Rg (Rq 4 [Qk 1] [])
 .ret)
 .skip))
 (Rg (Rq 4 [Qk 0] [])
 .ret)))))
theorem A0L:Fn Tryz.prog 204 42 [.inl 4] A2j:=AP Tryz.func204 Tryz.ntmps204 Hq0
def X9:C :=
 (Rg ([I1 2 (.alloc [(.str []),(.int .i64 0),(.int .i64 0),(.str []),.nils,(.str []),(.str []),.nils])])
 (Rg (Rq 3 [Qa 0,Qa 0,.mkfn 228 [t 4] [],.bsl 1 [(Ks ([43])),(Ks ([45]))],Qf 103 [t 3,t 5,t 6]] [Is 8 2 7])
 .ret))
theorem Yf:Fn Tryz.prog 217 8 [.inr (2,true,8)] X9:=AP Tryz.func217 Tryz.ntmps217 Hq0
def OE:C :=
 (Rg (Rq 2 [.alloc [(.int .i64 0),(.int .i64 0),(.str []),.nils],Qq] [])
 (Rg ([Im 5 0,Ip 6 177 [(t 5)],I1 4 (.alloc [(.int .i64 0),(.str []),(.int .i64 0)]),Is 3 4 6])
 (.seq (.block 0
 (Rg (Rq 8 [Qc 0 4,Qd 8,Qj .eql 9 2] [Im 7 10])
 (.cond (t 7)
 (Rg (Rq 11 [Qa 0,.nilc (t 11),Qc 1 12,Qd 13,Qj .add 14 1,.nilc (t 11),Qc 1 16] [Is 1 17 15])
 (Rg (If 18 2 4::Il 19 18::Ip 20 242 [(t 19)]::Is 4 2 20::Rq 3 [Qr] [])
 .ret))
 (Rg (Rq 22 [Qc 0 4,Qd 22,Qj .eql 23 3] [Im 21 24])
 (.cond (t 21)
 (Rg (Rq 25 [Qa 0,.nilc (t 25),Qc 1 26,Qd 27,Qj .add 28 1,.nilc (t 25),Qc 1 30] [Is 1 31 29])
 (Rg (If 32 1 4::Il 33 32::Ip 34 243 [(t 33)]::Is 4 2 34::Rq 3 [Qr] [])
 .ret))
 (Rg (Rq 36 [Qc 0 4,Qd 36,Qj .eql 37 4] [Im 35 38])
 (.cond (t 35)
 (Rg (Rq 39 [Qa 0,.nilc (t 39),Qc 1 40,Qd 41,Qj .add 42 1,.nilc (t 39),Qc 1 44] [Is 1 45 43])
 (Rg (Rq 46 [Qc 2 4,Qd 46,.build [(.int .i64 0),(.int .i64 0),(.str []),.nils] [(0,1,(Ki 4)),(1,1,(t 47))]] (Is 4 2 48::Rq 3 [Qr] []))
 .ret))
 (Rg (Im 50 0::Ip 51 117 [(t 50),(Ks ([116,114,117,101]))]::Im 52 51::Rz 53 52 [Qa 0,Qg 117 [t 53,(Ks ([102,97,108,115,101]))]] (Rq 55 [Ql 52 54] [Im 49 55]))
 (.cond (t 49)
 (Rg (Rq 56 [Qa 0,.nilc (t 56),Qc 1 57,Qd 58,Qj .add 59 1,.nilc (t 56),Qc 1 61] [Is 1 62 60])
 (Rg (Rq 63 [Qc 1 4,Qd 63,.bin .eql (t 64) (Ks ([116,114,117,101])),Qg 244 [t 65]] (Is 4 2 66::Rq 3 [Qr] []))
 .ret))
 .skip)))))))))
 (Rg (I1 67 (.build [(.int .i64 0),(.int .i64 0),(.str []),.nils] [])::Is 4 2 67::Rq 3 [Qq] [])
 .ret))))
theorem Zf:Fn Tryz.prog 239 68 [.inr (2,true,4),.inl 3] OE:=AP Tryz.func239 Tryz.ntmps239 Hq0
def A0R:C :=
 (Rg (Rq 10 [Qr] [])
 (Rg (Rq 11 [Qr] [])
 (.block 0
 (.loop
 (.block 1
 (Rg (Rq 21 [Qa 2,Qa 1,Qb .sub 21 22] [Im 12 23])
 (.seq (Rg (Rq 24 [Qa 12,Qj .leq 24 12] [])
 (.cond (t 25)
 (Rg (Rq 26 [Qa 0,Qa 1,Qa 2,Qa 4,Qg 253 [t 26,t 27,t 28,t 29]] [])
 .ret)
 .skip))
 (.seq (Rg (Rq 31 [Qa 3,Qj .eql 31 0] [])
 (.cond (t 32)
 (Rg (Rq 33 [Qa 0,Qa 1,Qa 2,Qa 4,Qg 254 [t 33,t 34,t 35,t 36]] [])
 .ret)
 .skip))
 (.seq (Rg (Rq 38 [Qa 10,Qp 38] [])
 (.cond (t 39)
 (Rg (Rq 40 [Qa 0,Qa 1,Qa 2,Qa 4,Qg 255 [t 40,t 41,t 42,t 43]] [])
 (.reg (Rq 45 [Qa 3,Qj .sub 45 1] [Im 3 46])))
 .skip))
 (Rg (Rq 48 [Qa 0,Qa 1,Qa 2,Qa 4,Qg 256 [t 48,t 49,t 50,t 51]] [Im 47 52,Ie 53 0 47,Ie 54 1 47,Im 13 53,Im 14 54])
 (.seq (Rg (Rq 55 [Qa 14,Qj .eql 55 2] [])
 (.cond (t 56)
 (Rg (Rq 57 [Qa 0,Qa 1,Qa 2,Qa 4,Qg 257 [t 57,t 58,t 59,t 60]] [])
 (Rg (Rq 62 [Qa 2,Qj .sub 62 1,Qa 13,Qa 1,Qb .sub 64 65,Qb .sub 63 66] [Im 13 67])
 (.reg (Rq 14 [Qk 1] []))))
 .skip))
 (.seq (Rg (Im 68 10::Im 69 68::Jm 70 69 true 11::Rq 71 [Qm 69 70,Qa 71] (Rv 73 72 [Qa 14,Qj .eql 73 1] (Rq 75 [Qm 72 74] [])))
 (.cond (t 75)
 (Rg (Rq 76 [Qa 0,Qa 1,Qa 2,Qa 4,Qg 258 [t 76,t 77,t 78,t 79]] [])
 (.cond (t 80)
 .ret
 .skip))
 .skip))
 (.seq (.seq (.draw 0 [(Im 81 1,[]),(I1 82 (.bin .gtr (t 81) (Ki 0)),[]),(Im 83 82,[]),(Jm 84 83 true 4,[]),(Jm 85 83 true 0,[]),(Jm 86 83 true 1,[]),(I2 87 83 (.bin .sub (t 86) (Ki 1)),[]),(I2 88 83 (.iaddr 4 (t 85) (t 87)),[]),(I2 89 83 (.load true 4 (t 88)),[]),(Jm 90 83 true 0,[]),(Jm 91 83 true 13,[]),(I2 92 83 (.iaddr 4 (t 90) (t 91)),[]),(I2 93 83 (.load true 4 (t 92)),[]),(I2 94 83 (.pcall (t 84) [(t 89),(t 93)]),[]),(I2 95 83 (.bin .lss (t 94) (Ki 0)),[]),(I2 96 83 (.un .not (t 95)),[]),(I1 97 (.pick (t 83) (t 96) KF),[])])
 (.cond (t 97)
 (Rg (Rq 98 [Qa 0,Qa 1,Qa 2,Qa 13,Qa 4,Qg 259 [t 98,t 99,t 100,t 101,t 102]] [Im 15 103])
 (Rg ([Im 104 15,Im 1 104])
 (.exit 1)))
 .skip))
 (Rg (Rq 106 [Qa 0,Qa 1,Qa 2,Qa 13,Qa 4,Qg 260 [t 106,t 107,t 108,t 109,t 110]] [Im 105 111,Ie 112 0 105,Ie 113 1 105,Im 16 112,Im 17 113])
 (Rg ([Im 114 17,Im 11 114])
 (Rg (Rq 115 [Qa 16,Qa 1,Qb .sub 115 116,Qa 2,Qa 16,Qb .sub 118 119] [Im 18 117,Im 19 120])
 (Rg (Rq 121 [Qa 12,Qj .quo 121 8] [Im 20 122])
 (Rg (Rq 123 [Qa 18,Qa 19,Qb .lss 123 124] [])
 (.cond (t 125)
 (Rg (Rq 126 [Qa 18,Qa 20,Qb .geq 126 127] [Im 10 128])
 (Rg (Rq 129 [Qa 0,Qa 1,Qa 16,Qa 3,Qa 4,Qg 251 [t 129,t 130,t 131,t 132,t 133]] [])
 (.reg (Rq 135 [Qa 16,Qj .add 135 1] [Im 1 136]))))
 (Rg (Rq 137 [Qa 19,Qa 20,Qb .geq 137 138] [Im 10 139])
 (Rg (Rq 140 [Qa 0,Qa 16,Qj .add 141 1,Qa 2,Qa 3,Qa 4,Qg 251 [t 140,t 142,t 143,t 144,t 145]] [])
 (.reg [Im 147 16,Im 2 147]))))))))))))))))))))))
theorem YE:Fn Tryz.prog 251 148 [] A0R:=AP Tryz.func251 Tryz.ntmps251 Hq0
end GP
