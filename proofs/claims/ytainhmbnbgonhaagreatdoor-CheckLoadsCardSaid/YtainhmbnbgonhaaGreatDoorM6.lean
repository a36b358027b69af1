import Derived.Test.YtainhmbnbgonhaaGreatDoorProg
import Derived.Test.YtainhmbnbgonhaaGreatDoorM2
import Derived.Test.YtainhmbnbgonhaaGreatDoorM5
set_option maxHeartbeats 16000000
open List renaming getElem_mem->A6A,all_eq_true->A6B,getElem?_eq_getElem->A6C,set_cons_zero->A6E,set_cons_succ->A6F,take_length->A6J,length_cons->A6K,mem_singleton->A6M,length_append->A6N,map_cons->A6Q,getElem?_append_left->A6R,getElem_of_mem->A6S,mem_map_of_mem->A6T,getElem?_map->A6W,getElem?_eq_none->A6X,map_nil->A6Y,mem_append->A60,take_add_one->A63,mem_cons->A67,nil_append->A68,length_nil->A69,append_nil->A7a,all_append->A7b,mem_of_getElem?->A7c,flatten_cons->A7f,mem_map->A7i,any_eq_true->A7j,not_mem_nil->A7k,map_id''->A7l,any_cons->A7m,cons->A7q,any_nil->A7r
open And renaming intro->A6D
open Nat renaming le_refl->A6G,le_of_lt->A6L,lt_or_ge->A6P,add_comm->A6U,le_trans->A61,zero_le->A66,add_left_comm->A7h,add_assoc->A7p
open Bool renaming false_eq_true->A6H,and_eq_true->A6I,or_eq_true->A6O,or_eq_false_iff->A6Z,not_eq_false->A62,false_or->A64,and_true->A65,true_and->A7d,not_eq_true'->A7g,not_true->A7n,or_false->A7o
open Option renaming map_some->A6V
open Int renaming toNat_natCast->A7e
set_option linter.unusedSimpArgs false
set_option linter.unnecessarySimpa false
namespace GP
open Go Go.Proofs
set_option maxRecDepth 100000
def Cr(s:List UInt8):D:=.agg [.int .i64 3,.int .i64 0,.str (s.take (min s.length 64)),.nils]
def KG:List D->Option D
 | [.str s]=>if s.length<=2^60 then some (Cr s) else none
 | _=>none
theorem Zd[HasG Tryz.prog]:AQ Tryz.prog 243 KG:=by
 refine AN (l:=[]) .nil A1M fun args r h=>?_
 unfold KG at h
 split at h
 ·rename_i s
  split at h
  ·rename_i hs
   injection h with h;subst h
   refine⟨by simp,by simp[Cr,D.cl,D.clL],fun H T=>?_⟩
   have m:(if(64:Int)<(s.length:Int) then(64:Int) else(s.length:Int))=((min s.length 64:Nat):Int):=by split<;>omega
   have sb:sub (some 0) (some ((min s.length 64:Nat):Int)) (.str s)=some (.str (s.take (min s.length 64))):=by
    simp only[sub]
    rw[if_pos ⟨by omega,by omega,by omega⟩]
    simp[aH]
   obtain⟨m64,hm⟩:∃m,min s.length 64=m:=⟨_,rfl⟩
   rw[hm] at m sb
   simp only[Cr,hm]
   simp +contextual only[A0j,m,sb,go_sem]
  ·cases h
 ·cases h
def LK(n:Int):D:=.agg [.int .i64 4,.int .i64 n,.str [],.nils]
def vL(b:Bool):D:=.agg [.int .i64 1,.int .i64 (if b then 1 else 0),.str [],.nils]
def CY:List UInt8:=[116,114,117,101]
def yC:List UInt8:=[102,97,108,115,101]
def cY(toks:List D)(st:St):D×Bool×St :=
 if tk (BS toks st)==2 then(num (tn (BS toks st)),true,(st.1+1,st.2)) else
 if tk (BS toks st)==3 then(Cr (ts (BS toks st)),true,(st.1+1,st.2)) else
 if tk (BS toks st)==4 then(LK (tn (BS toks st)),true,(st.1+1,st.2)) else
 if isP toks st CY||isP toks st yC then(vL (ts (BS toks st)==CY),true,(st.1+1,st.2)) else(Bn,false,st)
def ND:GE:=fun rest toks a e=>match rest with
 | []=>some (.tup [(cY toks (a,e)).1,.bool (cY toks (a,e)).2.1],(cY toks (a,e)).2.2)
 | _=>none
theorem Uw:Am Tryz.prog 239 (φC ND):=by
 have hM:B0 [(177,φQ Du),(117,φQ gIs)]:=.cons (EX Du) (.cons (EX gIs) .nil)
 refine Ba (l:=[(242,FA),(243,KG),(244,Jg)]) (m:=[(177,φQ Du),(117,φQ gIs)]) (ee:=[]) (.cons VB (.cons Zd (.cons Zq .nil))) (.cons PC (.cons SQ .nil)) .nil Zf fun H p n xs a e rest r a' e' hp htk hlen h=>?_
 unfold ND at h
 split at h
 ·injection h with h
  obtain⟨k0,s0,m0,e0,hs0⟩:=ET htk a e
  have qa:=BY (n:=n) hp htk hlen;have qa0:=Au (n:=n) hp htk hlen;have ca:=BI (n:=n) hp htk hlen;have ca0:=B1 (n:=n) hp htk hlen;have rc:=C7 hp;have rc0:=BJ hp;have sc:=fun K:D->S->Prop=>CH (K:=K) hp;have sc0:=fun K:D->S->Prop=>BR (K:=K) hp
  have e0':=e0
  simp only[mkT] at e0'
  have p1:FA [.int .i64 m0]=some (num m0):=rfl
  have p2:KG [.str s0]=some (Cr s0):=by simp only[KG];rw[if_pos (by omega)]
  have p3:Jg [.bool (s0==CY)]=some (vL (s0==CY)):=rfl
  have hst:BS xs (a,e)=mkT k0 s0 m0:=e0
  have hw:tk (mkT k0 s0 m0)≠0->IntKind.i64.wrap ((a:Nat)+1:Int)=((a+1:Nat):Int):=fun hk=>by
   have:=wJ (toks:=xs) (a:=a) (e:=e) (by rw[e0];exact hk)
   exact Me (by omega)
  rcases tf (k0==2) with g2|g2
  ·have f:cY xs (a,e)=(num m0,true,(a+1,e)):=by simp only[cY,hst,tW,qZ];rw[if_pos g2]
   rw[f] at h
   injection h with h1 h2;injection h2 with h2 h3
   subst h1;subst h2;subst h3
   have w:=hw (by rw[tW];have:k0=2:=(by simpa using g2);omega)
   refine⟨by simp,by simp[num,D.cl,D.clL],fun T=>?_⟩
   simp only[num] at p1 ⊢
   simp +contextual only[qa,qa0,ca,ca0,rc,rc0,sc,sc0,OE,Du,e0',B5 hM,g2,w,p1,go_sem]
   all_goals ((repeat' (first|apply A6D|intro _))<;>(first|omega|exact lvM))
  rcases tf (k0==3) with g3|g3
  ·have f:cY xs (a,e)=(Cr s0,true,(a+1,e)):=by simp only[cY,hst,tW,kE];rw[if_neg (by rw[g2];decide),if_pos g3]
   rw[f] at h
   injection h with h1 h2;injection h2 with h2 h3
   subst h1;subst h2;subst h3
   have w:=hw (by rw[tW];have:k0=3:=(by simpa using g3);omega)
   refine⟨by simp,by simp[Cr,D.cl,D.clL],fun T=>?_⟩
   simp only[Cr] at p2 ⊢
   simp +contextual only[qa,qa0,ca,ca0,rc,rc0,sc,sc0,OE,Du,e0',B5 hM,g2,g3,w,p2,go_sem]
   all_goals ((repeat' (first|apply A6D|intro _))<;>(first|omega|exact lvM))
  rcases tf (k0==4) with g4|g4
  ·have f:cY xs (a,e)=(LK m0,true,(a+1,e)):=by simp only[cY,hst,tW,qZ];rw[if_neg (by rw[g2];decide),if_neg (by rw[g3];decide),if_pos g4]
   rw[f] at h
   injection h with h1 h2;injection h2 with h2 h3
   subst h1;subst h2;subst h3
   have w:=hw (by rw[tW];have:k0=4:=(by simpa using g4);omega)
   refine⟨by simp,by simp[LK,D.cl,D.clL],fun T=>?_⟩
   simp only[LK]
   simp +contextual only[qa,qa0,ca,ca0,rc,rc0,sc,sc0,OE,Du,e0',B5 hM,g2,g3,g4,w,go_sem]
   all_goals ((repeat' (first|apply A6D|intro _))<;>(first|omega|exact lvM))
  have i1:gIs [.str [116,114,117,101]] xs a e=some (.bool (isP xs (a,e) CY)):=rfl
  have i2:gIs [.str [102,97,108,115,101]] xs a e=some (.bool (isP xs (a,e) yC)):=rfl
  rcases tf (isP xs (a,e) CY||isP xs (a,e) yC) with g5|g5
  ·have f:cY xs (a,e)=(vL (s0==CY),true,(a+1,e)):=by simp only[cY,hst,tW,kE];rw[if_neg (by rw[g2];decide),if_neg (by rw[g3];decide),if_neg (by rw[g4];decide),if_pos g5]
   rw[f] at h
   injection h with h1 h2;injection h2 with h2 h3
   subst h1;subst h2;subst h3
   have hk:a<xs.length:=by
    simp only[A6O] at g5
    rcases g5 with g5|g5<;>exact(xR g5).1
   have w:=Me (a:=a) (by omega)
   refine⟨by simp,by simp[vL,D.cl,D.clL],fun T=>?_⟩
   simp only[vL,CY] at p3 ⊢
   rcases tf (isP xs (a,e) CY) with g6|g6
   ·rw[g6] at i1
    simp +contextual only[qa,qa0,ca,ca0,rc,rc0,sc,sc0,OE,Du,e0',B5 hM,g2,g3,g4,i1,w,p3,go_sem]
    all_goals ((repeat' (first|apply A6D|intro _))<;>(first|omega|exact lvM))
   ·rw[g6,A64] at g5
    rw[g6] at i1
    rw[g5] at i2
    simp +contextual only[qa,qa0,ca,ca0,rc,rc0,sc,sc0,OE,Du,e0',B5 hM,g2,g3,g4,i1,i2,w,p3,go_sem]
    all_goals ((repeat' (first|apply A6D|intro _))<;>(first|omega|exact lvM))
  ·have f:cY xs (a,e)=(Bn,false,(a,e)):=by simp only[cY,hst,tW];rw[if_neg (by rw[g2];decide),if_neg (by rw[g3];decide),if_neg (by rw[g4];decide),if_neg (by rw[g5];decide)]
   rw[f] at h
   injection h with h1 h2;injection h2 with h2 h3
   subst h1;subst h2;subst h3
   refine⟨by simp,by simp[Bn,D.cl,D.clL],fun T=>?_⟩
   simp only[A6Z] at g5
   rw[g5.1] at i1
   rw[g5.2] at i2
   simp only[Bn]
   simp +contextual only[qa,qa0,ca,ca0,rc,rc0,sc,sc0,OE,Du,e0',B5 hM,g2,g3,g4,i1,i2,go_sem]
   all_goals ((repeat' (first|apply A6D|intro _))<;>(first|omega|exact lvM))
 ·cases h
def C5(toks:List D)(st:St):D×St :=
 if isP toks st [45] then(num (IntKind.i64.wrap (0 - tn (BP toks 2 (st.1+1,st.2)).1)),(BP toks 2 (st.1+1,st.2)).2) else
 if(cY toks st).2.1 then((cY toks st).1,(cY toks st).2.2) else((cY toks st).1,Bj (cY toks st).2.2.1 2 (cY toks st).2.2)
def L4:GE:=fun rest toks a e=>match rest with
 | []=>some (C5 toks (a,e))
 | _=>none
def IW(v:D):Prop:=∃k i s,v= .agg [.int .i64 k,.int .i64 i,.str s,.nils]/\s.length<=2^47
theorem Hj{toks:List D}(h:toks.all Aq=true)(st:St):IW (cY toks st).1:=by
 obtain⟨k0,s0,m0,e0,hs0⟩:=ET h st.1 st.2
 have hst:BS toks st=mkT k0 s0 m0:=e0
 unfold cY
 rw[hst]
 split
 ·exact⟨_,_,_,rfl,by simp⟩
 split
 ·exact⟨_,_,_,rfl,by simp[kE];omega⟩
 split
 ·exact⟨_,_,_,rfl,by simp⟩
 split
 ·exact⟨_,_,_,rfl,by simp⟩
 ·exact⟨_,_,_,rfl,by simp⟩
theorem GG{toks:List D}(h:toks.all Aq=true)(st:St):IW (C5 toks st).1:=by
 unfold C5
 split
 ·exact⟨_,_,_,rfl,by simp⟩
 split
 ·exact Hj h st
 ·exact Hj h st
theorem ER{v:D}(h:IW v):v.isV=true/\v.erase=v/\v.cl 0 0=true/\fit 4 v=true:=by
 obtain⟨k,i,s,rfl,hs⟩:=h
 exact⟨by simp[D.isV,hs],by simp[D.erase,D.eraseL],by simp[D.cl,D.clL],rfl⟩
theorem A1b:Am Tryz.prog 245 (φC L4):=by
 have hM:B0 []:=.nil
 refine Ba (l:=[(242,FA)]) (m:=[]) (ee:=[(69,φC BE),(120,φC D5),(239,φC ND),(105,φC DO)]) (.cons VB .nil) .nil (.cons J3 (.cons Nb (.cons Uw (.cons JI .nil)))) A1A fun H p n xs a e rest r a' e' hp htk hlen h=>?_
 unfold L4 at h
 split at h
 ·injection h with h
  have qa:=BY (n:=n) hp htk hlen;have qa0:=Au (n:=n) hp htk hlen;have ca:=BI (n:=n) hp htk hlen;have ca0:=B1 (n:=n) hp htk hlen;have rc:=C7 hp;have rc0:=BJ hp;have sc:=fun K:D->S->Prop=>CH (K:=K) hp;have sc0:=fun K:D->S->Prop=>BR (K:=K) hp
  have hcl:r.cl 0 0=true:=by
   have:=GG htk (a,e)
   rw[h] at this;exact(ER this).2.2.1
  refine⟨by simp,hcl,fun T=>?_⟩
  rcases tf (isP xs (a,e) [45]) with g|g
  ·obtain⟨k1,s1,m1,f1,hs1⟩:=Hy htk 2 (a+1,e)
   obtain⟨⟨a1,e1⟩,f2⟩:∃st,(BP xs 2 (a+1,e)).2=st:=⟨_,rfl⟩
   have f3:BP xs 2 (a+1,e)=(mkT k1 s1 m1,a1,e1):=by rw[<- f1,← f2]
   have hk:D5 [.int .i64 2] xs (a+1) e=some (mkT k1 s1 m1,a1,e1):=by simp only[D5];rw[if_neg (by decide),f3]
   have f:C5 xs (a,e)=(num (IntKind.i64.wrap (0 - m1)),a1,e1):=by unfold C5;rw[if_pos g,f3];rfl
   rw[f] at h
   injection h with h1 h2;injection h2 with h2 h3
   subst h1;subst h2;subst h3
   have p1:FA [.int .i64 (IntKind.i64.wrap (0 - m1))]=some (num (IntKind.i64.wrap (0 - m1))):=rfl
   simp only[num,mkT] at p1 hk ⊢
   simp +contextual only[qa,qa0,ca,ca0,rc,rc0,sc,sc0,Ug,BE,g,hk,p1,B5 hM,go_sem]
   all_goals ((repeat' (first|apply A6D|intro _))<;>(first|omega|exact lvM))
  ·obtain⟨k1,i1,s1,f1,hs1⟩:=Hj htk (a,e)
   obtain⟨⟨b1,a1,e1⟩,f2⟩:∃z,(cY xs (a,e)).2=z:=⟨_,rfl⟩
   have f3:cY xs (a,e)=(.agg [.int .i64 k1,.int .i64 i1,.str s1,.nils],b1,a1,e1):=by rw[<- f1,← f2]
   have hk:ND [] xs a e=some (.tup [.agg [.int .i64 k1,.int .i64 i1,.str s1,.nils],.bool b1],a1,e1):=by simp only[ND,f3]
   cases b1 with
   | true =>
    have f:C5 xs (a,e)=(.agg [.int .i64 k1,.int .i64 i1,.str s1,.nils],a1,e1):=by unfold C5;rw[if_neg (by rw[g];decide),f3];rfl
    rw[f] at h
    injection h with h1 h2;injection h2 with h2 h3
    subst h1;subst h2;subst h3
    simp +contextual only[qa,qa0,ca,ca0,rc,rc0,sc,sc0,Ug,BE,g,hk,go_sem]
    all_goals ((repeat' (first|apply A6D|intro _))<;>(first|omega|exact lvM))
   | false =>
    obtain⟨y1,y2,hy⟩:∃y1 y2,Bj a1 2 (a1,e1)=(y1,y2):=⟨_,_,rfl⟩
    have hf:=GL a1 2 xs e1
    have f:C5 xs (a,e)=(.agg [.int .i64 k1,.int .i64 i1,.str s1,.nils],y1,y2):=by unfold C5;rw[if_neg (by rw[g];decide),f3];simp only[A6H,if_false,hy]
    rw[hy] at hf
    rw[f] at h
    injection h with h1 h2;injection h2 with h2 h3
    subst h1;subst h2;subst h3
    simp +contextual only[qa,qa0,ca,ca0,rc,rc0,sc,sc0,Ug,BE,g,hk,hf,go_sem]
    all_goals ((repeat' (first|apply A6D|intro _))<;>(first|omega|exact lvM))
 ·cases h
def E9(toks:List D):Nat->List D->St->Option (List D×St)
 | 0,_,_=>none
 | f+1,out,st=>if isP toks st [44] then E9 toks f (out++[(C5 toks (st.1+1,st.2)).1]) (C5 toks (st.1+1,st.2)).2 else some (out,st)
def CO:D:=.agg [.str [],.int .i64 0,.int .i64 0,.str [],.nils,.str [],.str [],.nils]
def EG(v:D):D:=.agg (.str [118,97,108,117,101]::v.cells++[.str [],.str [],.nils])
def H6(toks:List D)(f from_:Nat)(st:St):Option (D×St):=match E9 toks f [(C5 toks st).1] (C5 toks st).2 with
 | none=>none
 | some (out,st1)=>if(AV toks [93] st1).2 !=0 then some (CO,AV toks [93] st1) else
  some (EG (Ci out).1,if(Ci out).2 !=0 then Bj from_ 2 (AV toks [93] st1) else AV toks [93] st1)
def Rt(f:Nat):GE:=fun rest toks a e=>match rest with
 | [.int .i64 m]=>if 0<=m then H6 toks f m.toNat (a,e) else none
 | _=>none
theorem Jt{toks:List D}(h:toks.all Aq=true):∀(f:Nat) (out:List D) (st:St) (r:List D×St),(∀v∈out,IW v)->E9 toks f out st=some r->(∀v∈r.1,IW v)/\out.length<=r.1.length
 | 0,_,_,_,_,h'=>by simp[E9] at h'
 | f+1,out,st,r,ho,h'=>by
  simp only[E9] at h'
  split at h'
  ·obtain⟨h1,h2⟩:=Jt h f _ _ r (fun v hv=>by
    rcases A60.1 hv with hv|hv
    ·exact ho v hv
    ·rw[A6M] at hv;subst hv;exact GG h _) h'
   exact⟨h1,by simp at h2;omega⟩
  ·injection h' with h';subst h'
   exact⟨ho,A6G _⟩
theorem Mo{toks:List D}:∀(f:Nat) (out:List D) (st:St) (r:List D×St),E9 toks f out st=some r->r.1.length<=out.length+f
 | 0,_,_,_,h'=>by simp[E9] at h'
 | f+1,out,st,r,h'=>by
  simp only[E9] at h'
  split at h'
  ·have:=Mo f _ _ r h';simp at this;omega
  ·injection h' with h';subst h';simp
theorem HH(xs:List D):∃k i s n ys,(Ci xs).1= .agg [.int .i64 k,.int .i64 i,.str s,aV n ys]/\(ys=[]∨ys=DF xs):=by
 unfold Ci
 split
 ·exact⟨0,0,[],true,[],rfl,.inl rfl⟩
 split
 ·exact⟨0,0,[],true,[],rfl,.inl rfl⟩
 split
 ·exact⟨0,0,[],true,[],rfl,.inl rfl⟩
 ·exact⟨5,0,[],false,DF xs,rfl,.inr rfl⟩
theorem P4{xs:List D}(h:∀x∈xs,IW x):(Ci xs).1.cl 0 0=true/\(Ci xs).1.erase=(Ci xs).1:=by
 have key:DK xs->(Ci xs).1.cl 0 0=true/\(Ci xs).1.erase=(Ci xs).1∨True:=fun _=>.inr trivial
 unfold Ci
 split
 ·exact⟨rfl,by simp[Bn,D.erase,D.eraseL]⟩
 split
 ·exact⟨rfl,by simp[Bn,D.erase,D.eraseL]⟩
 split
 ·exact⟨rfl,by simp[Bn,D.erase,D.eraseL]⟩
 ·rename_i g1 g2 _
  simp only[A62] at g1
  have hg:DK xs:=fun x hx=>by
   have f:=A6B.1 g1 x hx
   have k: ¬vk x=5:=fun k=>g2 (A7j.2 ⟨x,hx,by simp[G0,k]⟩)
   unfold qM at f
   rwa [if_pos (by simpa using k)] at f
  refine⟨Pk xs hg,?_⟩
  have he:D.eraseL (DF xs)=DF xs:=bF fun d hd=>by
   obtain⟨x,_,rfl⟩:=((rW hg).2 d).1 hd
   show(D.agg [_,_,_,D.sl none []]).erase=_
   simp[can,mkV,D.erase,D.eraseL]
   rfl
  show(D.agg [.int .i64 5,.int .i64 0,.str [],aV false (DF xs)]).erase= .agg [.int .i64 5,.int .i64 0,.str [],aV false (DF xs)]
  rcases kM false (DF xs) with⟨e,_⟩|e<;>simp[e,D.erase,D.eraseL,he]
end GP
namespace GP
open Go Go.Proofs
set_option maxRecDepth 100000
theorem S2{out:List D}(h:∀v∈out,IW v):∀v∈out,v.isV=true:=fun v hv=>(ER (h v hv)).1
theorem OL{out:List D}(h:∀v∈out,IW v):D.eraseL out=out:=bF fun v hv=>(ER (h v hv)).2.1
theorem Sb{out:List D}(h:∀v∈out,IW v):out.all (fit 4)=true:=A6B.2 fun v hv=>(ER (h v hv)).2.2.2
theorem Z0(f:Nat)(hf:f<=10000):Am Tryz.prog 241 (φC (Rt f)):=by
 have hM:B0 []:=.nil
 refine Ba (l:=[(246,NP)]) (m:=[]) (ee:=[(69,φC BE),(245,φC L4),(71,φC At),(105,φC DO)]) (.cons Z9 .nil) .nil (.cons J3 (.cons A1b (.cons Mn (.cons JI .nil)))) ZA fun H p n xs a e rest r a' e' hp htk hlen h=>?_
 unfold Rt at h
 split at h
 ·rename_i m
  split at h
  ·rename_i hm
   obtain⟨fr,rfl⟩:∃k:Nat,m=(k:Int):=⟨m.toNat,by omega⟩
   rw[A7e] at h
   have qa:=BY (n:=n) hp htk hlen;have qa0:=Au (n:=n) hp htk hlen;have ca:=BI (n:=n) hp htk hlen;have ca0:=B1 (n:=n) hp htk hlen;have rc:=C7 hp;have rc0:=BJ hp;have sc:=fun K:D->S->Prop=>CH (K:=K) hp;have sc0:=fun K:D->S->Prop=>BR (K:=K) hp
   obtain⟨v0,⟨a0,e0⟩,hv0⟩:∃v0 st,C5 xs (a,e)=(v0,st):=⟨_,_,rfl⟩
   have hval0:IW v0:=by have:=GG htk (a,e);rw[hv0] at this;exact this
   have hi0:L4 [] xs a e=some (v0,a0,e0):=by simp only[L4,hv0]
   unfold H6 at h
   rw[hv0] at h
   simp only at h
   obtain⟨z,hz⟩:∃z,E9 xs f [v0] (a0,e0)=z:=⟨_,rfl⟩
   rw[hz] at h
   cases z with
   | none=>cases h
   | some z =>
   obtain⟨out,a1,e1⟩:=z
   simp only at h
   have hvals:=(Jt htk f [v0] (a0,e0) (out,(a1,e1)) (fun v hv=>by rw[A6M] at hv;subst hv;exact hval0) hz)
   have hcount:=Mo f [v0] (a0,e0) (out,(a1,e1)) hz
   simp only[List.length_singleton] at hvals hcount
   obtain⟨⟨a2,e2⟩,hmu⟩:∃st,AV xs [93] (a1,e1)=st:=⟨_,rfl⟩
   rw[hmu] at h
   have hg2:At [.str [93]] xs a1 e1=some (.tup [],a2,e2):=by simp only[At,hmu]
   have hcl:=(P4 hvals.1)
   have hrcl:r.cl 0 0=true:=by
    split at h
    ·injection h with h;injection h with h1 h2;subst h1;rfl
    ·injection h with h;injection h with h1 h2;subst h1
     obtain⟨k,i,s,nn,ys,hsh,_⟩:=HH out
     rw[hsh] at hcl ⊢
     have h3:=hcl.1
     simp only[D.cl,D.clL,A65,A7d] at h3
     simp[EG,D.cells,D.cl,D.clL,h3]
   refine⟨by simp,hrcl,fun T=>?_⟩
   simp +contextual only[qa,qa0,ca,ca0,rc,rc0,sc,sc0,A1v,hi0,B5 hM,go_sem]
   refine⟨(ER hval0).2.2.2,?_⟩
   refine Ap (fun i s'=>∃(o:List D) (b:Nat) (eb:Int),s'.t 0= .ptr p 0/\s'.t 1= .int .i64 (fr:Nat)/\s'.t 4= .ptr H.length 0/\Oe 4 T o (s'.t 5) s'.T ∧
     s'.H=H.set p (.row [aV n xs,.int .i64 ((b:Nat):Int),.int .i64 eb])++[.row [.str [],.int .i64 0,.int .i64 0,.str [],.nils,.str [],.str [],.nils]]∧
     E9 xs (f - i) o (b,eb)=some (out,(a1,e1))/\i<=f/\(∀v∈o,IW v)/\o.length<=i+1) f
    ⟨0,[v0],a0,e0,by simp[upd,Ae],by simp[upd,Ae],by simp[upd],.inr ⟨by simp,[some (1,4)],0,rfl,by simp[upd],rfl⟩,rfl,hz,by omega,(fun v hv=>by rw[A6M] at hv;subst hv;exact hval0),by simp⟩
    (fun i s h=>by obtain⟨_,_,_,h⟩:=h;exact h.2.2.2.2.2.2.1) ?_ (Dc _ _ _)
   rintro i ⟨t,B,T'⟩ ⟨o,b,eb,r0,r1,r4,hA,rfl,hz2,hi,hv,hol⟩
   simp only at r0 r1 r4 hA
   obtain⟨k,hk⟩:∃k,f - i=k:=⟨_,rfl⟩
   rw[hk] at hz2
   cases k with
   | zero=>simp[E9] at hz2
   | succ k =>
   simp only[E9] at hz2
   rcases tf (isP xs (b,eb) [44]) with g|g
   ·rw[if_pos g] at hz2
    obtain⟨v1,⟨b1,eb1⟩,hv1⟩:∃v1 st,C5 xs (b+1,eb)=(v1,st):=⟨_,_,rfl⟩
    have hval1:IW v1:=by have:=GG htk (b+1,eb);rw[hv1] at this;exact this
    have hi1:L4 [] xs (b+1) eb=some (v1,b1,eb1):=by simp only[L4,hv1]
    rw[hv1] at hz2
    have er1:=(ER hval1).2.1
    have fit1:=(ER hval1).2.2.2
    simp +contextual only[qa,qa0,ca,ca0,rc,rc0,sc,sc0,r0,r1,r4,BE,g,hi1,er1,go_sem]
    refine⟨fit1,Mv v1 hA fit1 (Sb hv) (by omega) (by omega) fun d2 T2 hA2=>?_⟩
    have ek:f - (i+1)=k:=by omega
    simp +contextual only[r0,r1,r4,go_sem]
    exact⟨o++[v1],b1,eb1,hA2,rfl,by rw[ek];exact hz2,by omega,(fun v hv'=>by
     rcases A60.1 hv' with hv'|hv'
     ·exact hv v hv'
     ·rw[A6M] at hv';subst hv';exact hval1),by simp;omega⟩
   ·rw[if_neg (by rw[g];decide)] at hz2
    injection hz2 with hz2;injection hz2 with hz3 hz4;injection hz4 with hz4 hz5
    subst hz3;subst hz4;subst hz5
    have hne:o≠[]:=by
     rintro rfl
     have:=hvals.2
     simp at this
    have hde:=Kg hA (OL hvals.1)
    have hsl:aV true o= .sl none o:=by
     rcases kM true o with⟨_,e1⟩|e1
     ·exact absurd e1 hne
     ·exact e1
    rw[hsl] at hde
    have pb:NP [.sl none o]=some (.tup [(Ci o).1,.int .i64 (Ci o).2]):=by
     simp only[NP]
     rw[if_pos ⟨rfl,eM.2 (S2 hvals.1),by show o.length<=2^40;omega,by
      show(false|| !o.isEmpty)=true
      cases o with
      | nil=>exact absurd rfl hne
      | cons=>rfl⟩]
     rfl
    rcases tf (e2 !=0) with g2|g2
    ·rw[if_pos g2] at h
     injection h with h;injection h with h1 h2;injection h2 with h2 h3
     subst h1;subst h2;subst h3
     simp +contextual only[qa,qa0,ca,ca0,rc,rc0,sc,sc0,r0,r1,r4,BE,g,hg2,g2,go_sem]
     exact AT rfl ⟨_,rfl⟩ (I5 hA)
    ·rw[if_neg (by rw[g2];decide)] at h
     injection h with h;injection h with h1 h2
     subst h1
     obtain⟨k,ii,s,nn,ys,hsh,_⟩:=HH o
     rw[hsh] at pb hcl ⊢
     have her:(EG (.agg [.int .i64 k,.int .i64 ii,.str s,aV nn ys])).erase=EG (.agg [.int .i64 k,.int .i64 ii,.str s,aV nn ys]):=by
      have h3:=hcl.2
      simp only[D.erase,D.eraseL,D.agg.injEq,A7q.injEq,true_and,and_true] at h3
      simp[EG,D.cells,D.erase,D.eraseL,h3]
     obtain⟨be,hbe⟩:∃be,(Ci o).2=be:=⟨_,rfl⟩
     rw[hbe] at pb h2
     rcases tf (be !=0) with g3|g3
     ·rw[if_pos g3] at h2
      obtain⟨y1,y2,hy⟩:∃y1 y2,Bj fr 2 (a2,e2)=(y1,y2):=⟨_,_,rfl⟩
      have hf2:=Mx fr 2 xs a2 e2
      rw[hy] at hf2 h2
      injection h2 with h2 h3
      subst h2;subst h3
      simp +contextual only[qa,qa0,ca,ca0,rc,rc0,sc,sc0,r0,r1,r4,BE,g,hg2,g2,hde,pb,g3,hf2,B5 hM,go_sem]
      exact AT her ⟨_,rfl⟩ (I5 hA)
     ·rw[if_neg (by rw[g3];decide)] at h2
      injection h2 with h2 h3
      subst h2;subst h3
      simp +contextual only[qa,qa0,ca,ca0,rc,rc0,sc,sc0,r0,r1,r4,BE,g,hg2,g2,hde,pb,g3,B5 hM,go_sem]
      exact AT her ⟨_,rfl⟩ (I5 hA)
  ·cases h
 ·cases h
def ex8(x:D):Prop:=(∃c0 c1 c2 c3 c4 c5 c6 c7,x= .agg [c0,c1,c2,c3,c4,c5,c6,c7])/\x.erase=x/\x.cl 0 0=true
def EB(op:List UInt8)(x y:D):D:=.agg [.str op,.int .i64 0,.int .i64 0,.str [],.nils,.str [],.str [],.sl none [x,y]]
theorem Jk{op:List UInt8}{x y:D}(hx:ex8 x)(hy:ex8 y):ex8 (EB op x y):=by
 refine⟨⟨_,_,_,_,_,_,_,_,rfl⟩,?_,?_⟩
 ·simp[EB,D.erase,D.eraseL,hx.2.1,hy.2.1]
 ·simp[EB,D.cl,D.clL,hx.2.2,hy.2.2]
open Classical in
noncomputable def Fq:List D->Option D
 | [.str op,x,y]=>if ex8 x/\ex8 y then some (EB op x y) else none
 | _=>none
theorem VL:AQ Tryz.prog 169 Fq:=by
 refine AN (l:=[]) .nil YS fun args r h=>?_
 unfold Fq at h
 split at h
 ·rename_i op x y
  split at h
  ·rename_i hc
   obtain⟨hx,hy⟩:=hc
   injection h with h;subst h
   have h2:=Jk (op:=op) hx hy
   refine⟨by simp,h2.2.2,fun H T=>?_⟩
   have ex:=hx.2.1
   have ey:=hy.2.1
   obtain⟨⟨a0,a1,a2,a3,a4,a5,a6,a7,rfl⟩,_,_⟩:=hx
   obtain⟨⟨b0,b1,b2,b3,b4,b5,b6,b7,rfl⟩,_,_⟩:=hy
   simp +contextual only[A0k,go_sem]
   simp only[D.erase,D.eraseL] at ex ey
   rw[ex,ey];rfl
  ·cases h
 ·cases h
def φP(g:Nat->GE)(H:Hp):List D->Option (D×Hp)
 | .ptr p 0::rest=>cuE H p (g p rest)
 | _=>none
theorem Ma{H:Hp}{p:Nat}{n:Bool}{xs:List D}(hp:p<H.length)(htk:xs.all Aq=true)(hl:xs.length<=600)(g:Nat->GE)(rest:List D)(a:Nat)(e:Int)(L:Hp):φP g (H.set p (.row [aV n xs,.int .i64 ((a:Nat):Int),.int .i64 e])++L) (.ptr p 0::rest)=cuR H p (aV n xs) L (g p rest xs a e) :=
 BI hp htk hl (g p) rest a e L
theorem WB{l:Fs}{m:FsH}{ee:FsE}(hl:Ok Tryz.prog l)(hm:OkH Tryz.prog m)(hE:OkE Tryz.prog ee){f:FuncId}{k:Nat}{rs:List (Sum Nat (Nat×Bool×Nat))}{cc:C}(hf:Fn Tryz.prog f k rs cc){g:Nat->GE}
  (h:∀(H:Hp) (p:Nat) (n:Bool) (xs:List D) (a:Nat) (e:Int) (rest:List D) (r:D) (a':Nat) (e':Int),p<H.length->xs.all Aq=true->xs.length<=600->g p rest xs a e=some (r,a',e')->rest.length+1<=k/\r.cl 0 0=true ∧
   ∀T,W (XE l m ee) cc (Ds rs (BV r (H.set p (.row [aV n xs,.int .i64 ((a':Nat):Int),.int .i64 e'])) T)) ⟨Ae (.ptr p 0::rest),H.set p (.row [aV n xs,.int .i64 ((a:Nat):Int),.int .i64 e]),T⟩):Am Tryz.prog f (φP g):=by
 refine M4 hl hm hE hf fun H args r H1 hr=>?_
 unfold φP at hr
 split at hr
 ·rename_i p rest
  obtain⟨n,xs,a,e,r',a',e',h1,h2,h3,h4,h5,h6⟩:=Kd hr
  injection h6 with h6 h7
  subst h6;subst h7
  obtain⟨k1,k2,k3⟩:=h H p n xs a e rest r a' e' h2 h3 h4 h5
  refine⟨by simpa using k1,D.cl_mono (A66 _) (A6G _) r k2,⟨by simp,fun o x cs hx hc=>?_⟩,fun T=>?_⟩
  ·by_cases ho:o=p
   ·subst ho
    rw[List.getElem?_set_self h2] at hx
    injection hx with hx;subst hx
    injection hc with hc;subst hc
    refine .inr ?_
    simp only[D.clL,NC h3,D.cl,Bool.and_self]
   ·rw[List.getElem?_set_ne (fun e=>ho e.symm)] at hx
    exact .inl hx
  ·have:=k3 T
   rw[FI h1] at this
   exact this
 ·cases hr
abbrev Dz:=List D->St->Option (D×St)
def gOf(P:Dz):GE:=fun rest toks a e=>match rest with
 | []=>P toks (a,e)
 | _=>none
def MN(P:Dz):Prop:=∀toks st r,toks.all Aq=true->P toks st=some r->ex8 r.1
def FC(toks:List D)(P:Dz)(bs:List (List UInt8)):Nat->D->St->Option (D×St)
 | 0,_,_=>none
 | f+1,x,st=>if st.2 !=0 then some (x,st) else match oK toks st bs with
  | none=>some (x,st)
  | some w=>match P toks (st.1+1,st.2) with
   | none=>none
   | some (y,st2)=>FC toks P bs f (EB w x y) st2
def GM(toks:List D)(P:Dz)(bs:List (List UInt8))(f:Nat)(st:St):Option (D×St):=match P toks st with
 | none=>none
 | some (x,st1)=>FC toks P bs f x st1
def Ho(w:FuncId)(P:Dz)(f:Nat):Nat->GE:=fun p rest toks a e=>match rest with
 | [.fn w' [.ptr q 0] [],.sl none ds]=>if w'=w/\q=p/\ds.all FP=true/\ds.length<=100/\(ds.all fun d=>!(CQ d).isEmpty)=true then GM toks P (ds.map CQ) f (a,e) else none
 | _=>none
theorem N9{P:Dz}(hP:MN P){toks:List D}(ht:toks.all Aq=true){bs:List (List UInt8)}:∀(f:Nat) (x:D) (st:St) (r:D×St),ex8 x->FC toks P bs f x st=some r->ex8 r.1
 | 0,_,_,_,_,h=>by simp[FC] at h
 | f+1,x,st,r,hx,h=>by
  simp only[FC] at h
  split at h
  ·injection h with h;subst h;exact hx
  ·split at h
   ·injection h with h;subst h;exact hx
   ·rename_i w _
    split at h
    ·cases h
    ·rename_i y st2 hy
     exact N9 hP ht f _ st2 r (Jk hx (hP toks _ _ ht hy)) h
theorem Fz{P:Dz}(hP:MN P){toks:List D}(ht:toks.all Aq=true){bs:List (List UInt8)}{f:Nat}{st:St}{r:D×St}(h:GM toks P bs f st=some r):ex8 r.1:=by
 unfold GM at h
 split at h
 ·cases h
 ·rename_i x st1 hx
  exact N9 hP ht f x st1 r (hP toks _ _ ht hx) h
theorem PB{w:FuncId}{P:Dz}(hP:Am Tryz.prog w (φC (gOf P)))(hx:MN P)(hw1: ¬w=69)(hw2: ¬169=w)(f:Nat):Am Tryz.prog 103 (φP (Ho w P f)):=by
 have hM:B0 []:=.nil
 refine WB (l:=[(169,Fq)]) (m:=[]) (ee:=[(69,φC BE),(w,φC (gOf P))]) (.cons VL .nil) .nil (.cons J3 (.cons hP .nil)) XY fun H p n xs a e rest r a' e' hp htk hlen h=>?_
 unfold Ho at h
 split at h
 ·rename_i w' q ds
  split at h
  ·rename_i hc
   obtain⟨hw',hq,hd,hdl,hne⟩:=hc
   have hq':=hq.symm
   subst hq'
   have hw'':=hw'.symm
   subst hw''
   have hw2':(169=w)=False:=eq_false hw2
   have hw1':(w=69)=False:=eq_false hw1
   have hw3':(w=169)=False:=eq_false (fun e=>hw2 e.symm)
   have qa:=BY (n:=n) hp htk hlen;have qa0:=Au (n:=n) hp htk hlen;have ca:=BI (n:=n) hp htk hlen;have ca0:=B1 (n:=n) hp htk hlen;have rc:=C7 hp;have rc0:=BJ hp;have sc:=fun K:D->S->Prop=>CH (K:=K) hp;have sc0:=fun K:D->S->Prop=>BR (K:=K) hp
   have hr8:=Fz hx htk h
   simp only at hr8
   unfold GM at h
   obtain⟨z,hz⟩:∃z,P xs (a,e)=z:=⟨_,rfl⟩
   rw[hz] at h
   cases z with
   | none=>cases h
   | some z =>
   obtain⟨x0,a0,e0⟩:=z
   simp only at h
   have hx0:ex8 x0:=hx xs _ _ htk hz
   have hg0:gOf P [] xs a e=some (x0,a0,e0):=hz
   refine⟨by simp,hr8.2.2,fun T=>?_⟩
   have hx0':=hx0
   obtain⟨⟨b0,b1,b2,b3,b4,b5,b6,b7,rfl⟩,hxe,_⟩:=hx0
   have hstr:∀(i:Nat) (hi:i<ds.length),ds[i]? =some (.str (CQ ds[i])):=fun i hi=>by
    have:=A6B.1 hd _ (A6A hi)
    rw[A6C hi]
    cases hx:ds[i]<;>rw[hx] at this<;>simp[FP] at this<;>rfl
   simp +contextual only[qa,qa0,ca,ca0,rc,rc0,sc,sc0,A1t,hg0,hw1',hw2',hw3',go_sem]
   refine Ap (fun i s'=>∃c0 c1 c2 c3 c4 c5 c6 c7 b eb,ex8 (.agg [c0,c1,c2,c3,c4,c5,c6,c7])/\s'.t 0= .ptr p 0/\s'.t 1= .fn w [.ptr p 0] []/\s'.t 2= .sl none ds/\s'.t 6= .ptr H.length 0/\s'.t 7= .ptr (H.length+1) 0 ∧
     s'.H=H.set p (.row [aV n xs,.int .i64 ((b:Nat):Int),.int .i64 eb])++[.row [.str [],.int .i64 0,.int .i64 0,.str [],.nils,.str [],.str [],.nils],.row [c0,c1,c2,c3,c4,c5,c6,c7]]/\s'.T=T ∧
     FC xs P (ds.map CQ) (f - i) (.agg [c0,c1,c2,c3,c4,c5,c6,c7]) (b,eb)=some (r,a',e')/\i<=f) f
    ⟨0,b0,b1,b2,b3,b4,b5,b6,b7,a0,e0,hx0',by simp[upd,Ae],by simp[upd,Ae],by simp[upd,Ae],by simp[upd],by simp[upd],rfl,rfl,h,by omega⟩
    (fun i s h=>by obtain⟨_,_,_,_,_,_,_,_,_,_,h⟩:=h;exact h.2.2.2.2.2.2.2.2.2) ?_ (Dc _ _ _)
   clear h hg0 hz hx0' hxe
   rintro i ⟨t,B,T'⟩ ⟨c0,c1,c2,c3,c4,c5,c6,c7,b,eb,hc8,r0,r1,r2,r6,r7,rfl,rfl,hz,hi⟩
   simp only at r0 r1 r2 r6 r7
   obtain⟨k,hk⟩:∃k,f - i=k:=⟨_,rfl⟩
   rw[hk] at hz
   cases k with
   | zero=>simp[FC] at hz
   | succ k =>
   simp only[FC] at hz
   rcases tf (eb !=0) with g|g
   ·rw[if_pos g] at hz
    injection hz with hz;injection hz with hz1 hz2;injection hz2 with hz2 hz3
    subst hz1;subst hz2;subst hz3
    have g':(eb==0)=false:=by simpa using g
    simp +contextual only[qa,qa0,ca,ca0,rc,rc0,sc,sc0,r0,r1,r2,r6,r7,g',go_sem]
    exact AT hc8.2.1 ⟨_,rfl⟩ ⟨[],by simp⟩
   ·rw[if_neg (by rw[g];decide)] at hz
    have g':(eb==0)=true:=by simpa using g
    simp +contextual only[qa,qa0,ca,ca0,rc,rc0,sc,sc0,r0,r1,r2,r6,r7,g',go_sem]
    refine Ap (fun j s'=>s'.t 0= .ptr p 0/\s'.t 1= .fn w [.ptr p 0] []/\s'.t 2= .sl none ds/\s'.t 6= .ptr H.length 0/\s'.t 7= .ptr (H.length+1) 0/\s'.t 18= .sl none ds/\s'.t 19= .int .i64 ds.length/\s'.t 20= .int .i64 ((j:Nat):Int)/\s'.T=T'/\j<=ds.length ∧
      ((s'.t 8= .str []/\s'.H=H.set p (.row [aV n xs,.int .i64 ((b:Nat):Int),.int .i64 eb])++[.row [.str [],.int .i64 0,.int .i64 0,.str [],.nils,.str [],.str [],.nils],.row [c0,c1,c2,c3,c4,c5,c6,c7]]/\∀i u,i<j->(ds.map CQ)[i]? =some u->isP xs (b,eb) u=false) ∨
       ∃w0,oK xs (b,eb) (ds.map CQ)=some w0/\(w0==[])=false/\s'.t 8= .str w0/\s'.H=H.set p (.row [aV n xs,.int .i64 ((b+1:Nat):Int),.int .i64 eb])++[.row [.str [],.int .i64 0,.int .i64 0,.str [],.nils,.str [],.str [],.nils],.row [c0,c1,c2,c3,c4,c5,c6,c7]])) ds.length
     ⟨0,by simp[upd,r0],by simp[upd,r1],by simp[upd,r2],by simp[upd,r6],by simp[upd,r7],by simp[upd],by simp[upd],by simp[upd],rfl,by omega,.inl ⟨by simp[upd],rfl,fun i u h=>by omega⟩⟩ (fun j s h=>h.2.2.2.2.2.2.2.2.2.1) ?_ (Dc _ _ _)
    clear r0 r1 r2 r6 r7
    rintro j ⟨t,B,T2⟩ ⟨r0,r1,r2,r6,r7,r18,r19,r20,rfl,hj,hAB⟩
    simp only at r0 r1 r2 r6 r7 r18 r19 r20 hAB
    have gnil:(([]:List UInt8)==[])=true:=rfl
    by_cases hlt:j<ds.length
    ·have d1:decide (((j:Nat):Int)<ds.length)=true:=by simp only[decide_eq_true_eq];omega
     have ex:=hstr j hlt
     have hnz:(CQ ds[j]).isEmpty=false:=by
      have:=A6B.1 hne _ (A6A hlt)
      simpa using this
     obtain⟨u,hu⟩:∃u,CQ ds[j]=u:=⟨_,rfl⟩
     rw[hu] at ex hnz
     have hmap:(ds.map CQ)[j]? =some u:=by rw[A6W,ex];rfl
     have ws:IntKind.i64.wrap (((j:Nat):Int)+1)=((j+1:Nat):Int):=by rw[show((j:Nat):Int)+1=((j+1:Nat):Int) by omega];exact kU _ (by omega) (by omega)
     have hu0:(u==[])=false:=by cases u<;>simp at hnz ⊢
     rcases hAB with⟨r8,rfl,hN⟩|⟨w0,hf0,hw0,r8,rfl⟩
     ·rcases tf (isP xs (b,eb) u) with g1|g1
      ·have hf1:=GZ hmap hN g1
       simp +contextual only[qa,qa0,ca,ca0,rc,rc0,sc,sc0,r0,r1,r2,r6,r7,r8,r18,r19,r20,d1,ex,BE,g1,ws,gnil,go_sem]
       exact⟨by omega,.inr ⟨u,hf1,hu0,rfl⟩⟩
      ·simp +contextual only[qa,qa0,ca,ca0,rc,rc0,sc,sc0,r0,r1,r2,r6,r7,r8,r18,r19,r20,d1,ex,BE,g1,ws,gnil,go_sem]
       refine⟨by omega,.inl fun i v hi' hv=>?_⟩
       rcases A6P i j with h'|h'
       ·exact hN i v h' hv
       ·have:i=j:=by omega
        subst this
        rw[hmap] at hv;injection hv with hv;subst hv;exact g1
     ·simp +contextual only[qa,qa0,ca,ca0,rc,rc0,sc,sc0,r0,r1,r2,r6,r7,r8,r18,r19,r20,d1,ex,ws,hw0,go_sem]
      exact⟨by omega,.inr ⟨w0,hf0,hw0,rfl⟩⟩
    ·have d1:decide (((j:Nat):Int)<ds.length)=false:=by simp only[decide_eq_false_iff_not];omega
     rcases hAB with⟨r8,rfl,hN⟩|⟨w0,hf0,hw0,r8,rfl⟩
     ·have hf0:oK xs (b,eb) (ds.map CQ)=none:=Dj fun v hv=>by
       obtain⟨q,hq,rfl⟩:=A6S hv
       exact hN q _ (by simp at hq;omega) (by rw[A6C hq])
      rw[hf0] at hz
      injection hz with hz;injection hz with hz1 hz2;injection hz2 with hz2 hz3
      subst hz1;subst hz2;subst hz3
      simp +contextual only[qa,qa0,ca,ca0,rc,rc0,sc,sc0,r0,r1,r2,r6,r7,r8,r18,r19,r20,d1,gnil,go_sem]
      exact AT hc8.2.1 ⟨_,rfl⟩ ⟨[],by simp⟩
     ·rw[hf0] at hz
      simp only at hz
      obtain⟨y,hy⟩:∃y,P xs (b+1,eb)=y:=⟨_,rfl⟩
      rw[hy] at hz
      cases y with
      | none=>cases hz
      | some y =>
      obtain⟨y,b2,eb2⟩:=y
      simp only at hz
      have hy8:ex8 y:=hx xs _ _ htk hy
      have hgy:gOf P [] xs (b+1) eb=some (y,b2,eb2):=hy
      have ht8:=Jk (op:=w0) hc8 hy8
      have ptwo:Fq [.str w0,.agg [c0,c1,c2,c3,c4,c5,c6,c7],y]=some (EB w0 (.agg [c0,c1,c2,c3,c4,c5,c6,c7]) y):=by simp only[Fq];rw[if_pos ⟨hc8,hy8⟩]
      have ek:f - (i+1)=k:=by omega
      obtain⟨⟨d0,d1',d2,d3,d4,d5,d6,d7,rfl⟩,hye,_⟩:=hy8
      have hxe:=hc8.2.1
      simp only[D.erase,D.eraseL,D.agg.injEq] at hxe hye
      have erall:D.eraseL [.str w0,.agg [c0,c1,c2,c3,c4,c5,c6,c7],.agg [d0,d1',d2,d3,d4,d5,d6,d7]]=[.str w0,.agg [c0,c1,c2,c3,c4,c5,c6,c7],.agg [d0,d1',d2,d3,d4,d5,d6,d7]]:=by
       simp only[D.eraseL,D.erase,hxe,hye]
      simp only[EB] at ptwo hz ht8
      simp +contextual only[qa,qa0,ca,ca0,rc,rc0,sc,sc0,r0,r1,r2,r6,r7,r8,r18,r19,r20,d1,hw0,hgy,hw1',hw2',hw3',B5 hM,ptwo,erall,go_sem]
      exact⟨_,_,_,_,_,_,_,_,b2,eb2,ht8,rfl,by rw[ek];exact hz,by omega⟩
  ·cases h
 ·cases h
end GP
namespace GP
open Go Go.Proofs
set_option maxRecDepth 100000
inductive Lv where
 | expr|and|not|cmp|sum|prod|unary|plain|inner
def wOr:List UInt8:=[111,114]
def K2:List UInt8:=[97,110,100]
def EF:List UInt8:=[110,111,116]
def KU:List UInt8:=[110,101,103]
def L5:List UInt8:=[110,111,119]
def GD:List UInt8:=[115,105,122,101]
def GJ:List UInt8:=[114,111,108,101]
def KP:List UInt8:=[104,97,115]
def R1:List UInt8:=[97,116,116,114]
def He:List (List UInt8):=[[61,61],[33,61],[60],[60,61],[62],[62,61],[105,110]]
def DX(op:List UInt8)(x:D):D:=.agg [.str op,.int .i64 0,.int .i64 0,.str [],.nils,.str [],.str [],.sl none [x]]
def CM(op who name:List UInt8):D:=.agg [.str op,.int .i64 0,.int .i64 0,.str [],.nils,.str who,.str name,.nils]
def Ft(op:List UInt8):Option (D×St)->Option (D×St)
 | none=>none
 | some (x,st)=>some (DX op x,st)
def JC(toks:List D)(P:Dz):Option (D×St)->Option (D×St)
 | none=>none
 | some (x,st1)=>match oK toks st1 He with
  | none=>some (x,st1)
  | some w=>match P toks (st1.1+1,st1.2) with
   | none=>none
   | some (y,st2)=>some (EB w x y,st2)
def Qu(toks:List D):Option (D×St)->Option (D×St)
 | none=>none
 | some (x,st1)=>some (x,AV toks [41] st1)
def yL(I:Dz)(f:Nat)(toks:List D)(st:St):Option (D×St) :=
 if(cY toks st).2.1 then some (EG (cY toks st).1,(cY toks st).2.2) else
 if isP toks st L5 then some (CM L5 [] [],(st.1+1,st.2)) else
 if isP toks st [40] then I toks st else
 if isP toks st [91] then H6 toks f st.1 (st.1+1,st.2) else
 if isP toks st GD then Ft GD (I toks (st.1+1,st.2)) else
 if isP toks st GJ then some (CM GJ [] (ts (BP toks 3 (AV toks [40] (st.1+1,st.2))).1),AV toks [41] (BP toks 3 (AV toks [40] (st.1+1,st.2))).2) else
 if isP toks st KP then some (CM KP (Bk toks (AV toks [40] (st.1+1,st.2))).1 (Bk toks (AV toks [40] (st.1+1,st.2))).2.1,AV toks [41] (Bk toks (AV toks [40] (st.1+1,st.2))).2.2) else
 some (CM R1 (Bk toks st).1 (Bk toks st).2.1,(Bk toks st).2.2)
def pLv:Nat->Lv->Dz
 | 0,_=>fun _ _=>none
 | f+1,.expr=>fun toks st=>GM toks (pLv f .and) [wOr] f st
 | f+1,.and=>fun toks st=>GM toks (pLv f .not) [K2] f st
 | f+1,.not=>fun toks st=>if isP toks st EF then Ft EF (pLv f .not toks (st.1+1,st.2)) else pLv f .cmp toks st
 | f+1,.cmp=>fun toks st=>JC toks (pLv f .sum) (pLv f .sum toks st)
 | f+1,.sum=>fun toks st=>GM toks (pLv f .prod) [[43],[45]] f st
 | f+1,.prod=>fun toks st=>GM toks (pLv f .unary) [[42]] f st
 | f+1,.unary=>fun toks st=>if isP toks st [45] then Ft KU (pLv f .unary toks (st.1+1,st.2)) else pLv f .plain toks st
 | f+1,.plain=>fun toks st=>yL (pLv f .inner) f toks st
 | f+1,.inner=>fun toks st=>Qu toks (pLv f .expr toks (AV toks [40] st))
theorem UB{op:List UInt8}{x:D}(hx:ex8 x):ex8 (DX op x) :=
 ⟨⟨_,_,_,_,_,_,_,_,rfl⟩,by simp[DX,D.erase,D.eraseL,hx.2.1],by simp[DX,D.cl,D.clL,hx.2.2]⟩
theorem Hc(op who name:List UInt8):ex8 (CM op who name):=⟨⟨_,_,_,_,_,_,_,_,rfl⟩,by simp[CM,D.erase,D.eraseL],by simp[CM,D.cl,D.clL]⟩
theorem Kt{op:List UInt8}{z:Option (D×St)}{r:D×St}(hz:∀r,z=some r->ex8 r.1)(h:Ft op z=some r):ex8 r.1:=by
 cases z with
 | none=>simp[Ft] at h
 | some z =>
  obtain⟨x,st⟩:=z
  simp only[Ft,Option.some.injEq] at h;subst h
  exact UB (hz _ rfl)
theorem UU{v:D}(h:IW v):ex8 (EG v):=by
 obtain⟨k,i,s,rfl,_⟩:=h
 exact⟨⟨_,_,_,_,_,_,_,_,rfl⟩,by simp[EG,D.cells,D.erase,D.eraseL],by simp[EG,D.cells,D.cl,D.clL]⟩
theorem RJ{toks:List D}(ht:toks.all Aq=true){f fr:Nat}{st:St}{r:D×St}(h:H6 toks f fr st=some r):ex8 r.1:=by
 unfold H6 at h
 split at h
 ·cases h
 ·rename_i out st1 hb
  have hv:=(Jt ht f _ _ _ (fun v hv=>by rw[A6M] at hv;subst hv;exact GG ht st) hb).1
  split at h
  ·injection h with h;subst h
   exact⟨⟨_,_,_,_,_,_,_,_,rfl⟩,by simp[CO,D.erase,D.eraseL],by simp[CO,D.cl,D.clL]⟩
  ·injection h with h;subst h
   have hc:=P4 hv
   obtain⟨k,i,s,n,ys,e,_⟩:=HH out
   rw[e] at hc
   simp only[e]
   have h1:=hc.1
   have h2:=hc.2
   simp only[D.cl,D.clL,A65,A7d] at h1
   simp only[D.erase,D.eraseL,D.agg.injEq,A7q.injEq,true_and,and_true] at h2
   exact⟨⟨_,_,_,_,_,_,_,_,rfl⟩,by simp[EG,D.cells,D.erase,D.eraseL,h2],by simp[EG,D.cells,D.cl,D.clL,h1]⟩
theorem Av:∀(f:Nat) (lv:Lv),MN (pLv f lv)
 | 0,_,_,_,_,_,h=>by cases h
 | f+1,lv,toks,st,r,ht,h=>by
  cases lv with
  | expr=>exact Fz (Av f .and) ht h
  | and=>exact Fz (Av f .not) ht h
  | sum=>exact Fz (Av f .prod) ht h
  | prod=>exact Fz (Av f .unary) ht h
  | not =>
   simp only[pLv] at h
   split at h
   ·exact Kt (fun r hr=>Av f .not toks _ r ht hr) h
   ·exact Av f .cmp toks st r ht h
  | unary =>
   simp only[pLv] at h
   split at h
   ·exact Kt (fun r hr=>Av f .unary toks _ r ht hr) h
   ·exact Av f .plain toks st r ht h
  | cmp =>
   simp only[pLv] at h
   obtain⟨z,hz⟩:∃z,pLv f .sum toks st=z:=⟨_,rfl⟩
   rw[hz] at h
   cases z with
   | none=>cases h
   | some z =>
    obtain⟨x,st1⟩:=z
    have hx:=Av f .sum toks _ _ ht hz
    simp only[JC] at h
    split at h
    ·injection h with h;subst h;exact hx
    ·split at h
     ·cases h
     ·rename_i y st2 hy
      injection h with h;subst h
      exact Jk hx (Av f .sum toks _ _ ht hy)
  | inner =>
   simp only[pLv] at h
   obtain⟨z,hz⟩:∃z,pLv f .expr toks (AV toks [40] st)=z:=⟨_,rfl⟩
   rw[hz] at h
   cases z with
   | none=>cases h
   | some z =>
    obtain⟨x,st1⟩:=z
    simp only[Qu,Option.some.injEq] at h;subst h
    show ex8 x
    exact Av f .expr toks _ (x,st1) ht hz
  | plain =>
   simp only[pLv,yL] at h
   split at h
   ·injection h with h;subst h;exact UU (Hj ht st)
   split at h
   ·injection h with h;subst h;exact Hc _ _ _
   split at h
   ·exact Av f .inner toks st r ht h
   split at h
   ·exact RJ ht h
   split at h
   ·exact Kt (fun r hr=>Av f .inner toks _ r ht hr) h
   split at h
   ·injection h with h;subst h;exact Hc _ _ _
   split at h
   ·injection h with h;subst h;exact Hc _ _ _
   ·injection h with h;subst h;exact Hc _ _ _
theorem WX(f:Nat)(h0:Am Tryz.prog 104 (φC (gOf (pLv f .and)))):Am Tryz.prog 49 (φC (gOf (pLv (f+1) .expr))):=by
 have hM:B0 []:=.nil
 refine Ba (l:=[]) (m:=[]) (ee:=[(103,φP (Ho 104 (pLv f .and) f))]) .nil .nil (.cons (PB h0 (Av f .and) (by decide) (by decide) f) .nil) A5k fun H p n xs a e rest r a' e' hp htk hlen h=>?_
 unfold gOf at h
 split at h
 ·have qa:=BY (n:=n) hp htk hlen;have qa0:=Au (n:=n) hp htk hlen;have ca:=BI (n:=n) hp htk hlen;have ca0:=B1 (n:=n) hp htk hlen;have rc:=C7 hp;have rc0:=BJ hp;have sc:=fun K:D->S->Prop=>CH (K:=K) hp;have sc0:=fun K:D->S->Prop=>BR (K:=K) hp
  have pa:=(fun g rest a e L=>Ma (n:=n) hp htk hlen g rest a e L)
  have hr8:ex8 r:=Av (f+1) .expr xs (a,e) (r,(a',e')) htk h
  have hg:Ho 104 (pLv f .and) f p [.fn 104 [.ptr p 0] [],.sl none [.str [111,114]]] xs a e=some (r,a',e'):=by
   simp only[Ho]
   rw[if_pos ⟨trivial,trivial,rfl,by simp,rfl⟩]
   exact h
  refine⟨by simp,hr8.2.2,fun T=>?_⟩
  have hre:=hr8.2.1
  obtain⟨⟨c0,c1,c2,c3,c4,c5,c6,c7,rfl⟩,_,_⟩:=hr8
  simp +contextual only[qa,qa0,ca,ca0,rc,rc0,sc,sc0,pa,c49,hg,go_sem]
  exact AT hre ⟨_,rfl⟩ ⟨_,rfl⟩
 ·cases h
theorem Zt(f:Nat)(h0:Am Tryz.prog 170 (φC (gOf (pLv f .not)))):Am Tryz.prog 104 (φC (gOf (pLv (f+1) .and))):=by
 have hM:B0 []:=.nil
 refine Ba (l:=[]) (m:=[]) (ee:=[(103,φP (Ho 170 (pLv f .not) f))]) .nil .nil (.cons (PB h0 (Av f .not) (by decide) (by decide) f) .nil) A05 fun H p n xs a e rest r a' e' hp htk hlen h=>?_
 unfold gOf at h
 split at h
 ·have qa:=BY (n:=n) hp htk hlen;have qa0:=Au (n:=n) hp htk hlen;have ca:=BI (n:=n) hp htk hlen;have ca0:=B1 (n:=n) hp htk hlen;have rc:=C7 hp;have rc0:=BJ hp;have sc:=fun K:D->S->Prop=>CH (K:=K) hp;have sc0:=fun K:D->S->Prop=>BR (K:=K) hp
  have pa:=(fun g rest a e L=>Ma (n:=n) hp htk hlen g rest a e L)
  have hr8:ex8 r:=Av (f+1) .and xs (a,e) (r,(a',e')) htk h
  have hg:Ho 170 (pLv f .not) f p [.fn 170 [.ptr p 0] [],.sl none [.str [97,110,100]]] xs a e=some (r,a',e'):=by
   simp only[Ho]
   rw[if_pos ⟨trivial,trivial,rfl,by simp,rfl⟩]
   exact h
  refine⟨by simp,hr8.2.2,fun T=>?_⟩
  have hre:=hr8.2.1
  obtain⟨⟨c0,c1,c2,c3,c4,c5,c6,c7,rfl⟩,_,_⟩:=hr8
  simp +contextual only[qa,qa0,ca,ca0,rc,rc0,sc,sc0,pa,A0v,hg,go_sem]
  exact AT hre ⟨_,rfl⟩ ⟨_,rfl⟩
 ·cases h
theorem A19(f:Nat)(h0:Am Tryz.prog 228 (φC (gOf (pLv f .prod)))):Am Tryz.prog 217 (φC (gOf (pLv (f+1) .sum))):=by
 have hM:B0 []:=.nil
 refine Ba (l:=[]) (m:=[]) (ee:=[(103,φP (Ho 228 (pLv f .prod) f))]) .nil .nil (.cons (PB h0 (Av f .prod) (by decide) (by decide) f) .nil) Yf fun H p n xs a e rest r a' e' hp htk hlen h=>?_
 unfold gOf at h
 split at h
 ·have qa:=BY (n:=n) hp htk hlen;have qa0:=Au (n:=n) hp htk hlen;have ca:=BI (n:=n) hp htk hlen;have ca0:=B1 (n:=n) hp htk hlen;have rc:=C7 hp;have rc0:=BJ hp;have sc:=fun K:D->S->Prop=>CH (K:=K) hp;have sc0:=fun K:D->S->Prop=>BR (K:=K) hp
  have pa:=(fun g rest a e L=>Ma (n:=n) hp htk hlen g rest a e L)
  have hr8:ex8 r:=Av (f+1) .sum xs (a,e) (r,(a',e')) htk h
  have hg:Ho 228 (pLv f .prod) f p [.fn 228 [.ptr p 0] [],.sl none [.str [43],.str [45]]] xs a e=some (r,a',e'):=by
   simp only[Ho]
   rw[if_pos ⟨trivial,trivial,rfl,by simp,rfl⟩]
   exact h
  refine⟨by simp,hr8.2.2,fun T=>?_⟩
  have hre:=hr8.2.1
  obtain⟨⟨c0,c1,c2,c3,c4,c5,c6,c7,rfl⟩,_,_⟩:=hr8
  simp +contextual only[qa,qa0,ca,ca0,rc,rc0,sc,sc0,pa,X9,hg,go_sem]
  exact AT hre ⟨_,rfl⟩ ⟨_,rfl⟩
 ·cases h
theorem WW(f:Nat)(h0:Am Tryz.prog 236 (φC (gOf (pLv f .unary)))):Am Tryz.prog 228 (φC (gOf (pLv (f+1) .prod))):=by
 have hM:B0 []:=.nil
 refine Ba (l:=[]) (m:=[]) (ee:=[(103,φP (Ho 236 (pLv f .unary) f))]) .nil .nil (.cons (PB h0 (Av f .unary) (by decide) (by decide) f) .nil) Zy fun H p n xs a e rest r a' e' hp htk hlen h=>?_
 unfold gOf at h
 split at h
 ·have qa:=BY (n:=n) hp htk hlen;have qa0:=Au (n:=n) hp htk hlen;have ca:=BI (n:=n) hp htk hlen;have ca0:=B1 (n:=n) hp htk hlen;have rc:=C7 hp;have rc0:=BJ hp;have sc:=fun K:D->S->Prop=>CH (K:=K) hp;have sc0:=fun K:D->S->Prop=>BR (K:=K) hp
  have pa:=(fun g rest a e L=>Ma (n:=n) hp htk hlen g rest a e L)
  have hr8:ex8 r:=Av (f+1) .prod xs (a,e) (r,(a',e')) htk h
  have hg:Ho 236 (pLv f .unary) f p [.fn 236 [.ptr p 0] [],.sl none [.str [42]]] xs a e=some (r,a',e'):=by
   simp only[Ho]
   rw[if_pos ⟨trivial,trivial,rfl,by simp,rfl⟩]
   exact h
  refine⟨by simp,hr8.2.2,fun T=>?_⟩
  have hre:=hr8.2.1
  obtain⟨⟨c0,c1,c2,c3,c4,c5,c6,c7,rfl⟩,_,_⟩:=hr8
  simp +contextual only[qa,qa0,ca,ca0,rc,rc0,sc,sc0,pa,XV,hg,go_sem]
  exact AT hre ⟨_,rfl⟩ ⟨_,rfl⟩
 ·cases h
theorem A1n(f:Nat)(h0:Am Tryz.prog 170 (φC (gOf (pLv f .not))))(h1:Am Tryz.prog 202 (φC (gOf (pLv f .cmp)))):Am Tryz.prog 170 (φC (gOf (pLv (f+1) .not))):=by
 have hM:B0 []:=.nil
 refine Ba (l:=[]) (m:=[]) (ee:=[(69,φC BE),(170,φC (gOf (pLv f .not))),(202,φC (gOf (pLv f .cmp)))]) .nil .nil (.cons J3 (.cons h0 (.cons h1 .nil))) Xx fun H p n xs a e rest r a' e' hp htk hlen h=>?_
 unfold gOf at h
 split at h
 ·have qa:=BY (n:=n) hp htk hlen;have qa0:=Au (n:=n) hp htk hlen;have ca:=BI (n:=n) hp htk hlen;have ca0:=B1 (n:=n) hp htk hlen;have rc:=C7 hp;have rc0:=BJ hp;have sc:=fun K:D->S->Prop=>CH (K:=K) hp;have sc0:=fun K:D->S->Prop=>BR (K:=K) hp
  have hr8:ex8 r:=Av (f+1) .not xs (a,e) (r,(a',e')) htk h
  refine⟨by simp,hr8.2.2,fun T=>?_⟩
  simp only[pLv] at h
  rcases tf (isP xs (a,e) EF) with g|g
  ·rw[if_pos g] at h
   obtain⟨z,hz⟩:∃z,pLv f .not xs (a+1,e)=z:=⟨_,rfl⟩
   rw[hz] at h
   cases z with
   | none=>cases h
   | some z =>
    obtain⟨x,a1,e1⟩:=z
    have hx8:ex8 x:=Av f .not xs (a+1,e) (x,(a1,e1)) htk hz
    have hg:gOf (pLv f .not) [] xs (a+1) e=some (x,a1,e1):=hz
    simp only[Ft,Option.some.injEq,Prod.mk.injEq] at h
    obtain⟨h1,h2,h3⟩:=h
    subst h1;subst h2;subst h3
    have hre:=hr8.2.1
    have hxe:=hx8.2.1
    obtain⟨⟨c0,c1,c2,c3,c4,c5,c6,c7,rfl⟩,_,_⟩:=hx8
    have g':=g
    (try simp only[EF] at g')
    simp only[DX,EF] at hre ⊢
    simp +contextual only[qa,qa0,ca,ca0,rc,rc0,sc,sc0,W7,BE,g',hg,go_sem]
    refine AT ?_ ⟨_,rfl⟩ ⟨_,rfl⟩
    simp only[D.erase,D.eraseL,D.agg.injEq] at hxe ⊢
    rw[hxe]
  ·rw[if_neg (by rw[g];decide)] at h
   have hg:gOf (pLv f .cmp) [] xs a e=some (r,a',e'):=h
   have hre:=hr8.2.1
   obtain⟨⟨c0,c1,c2,c3,c4,c5,c6,c7,rfl⟩,_,_⟩:=hr8
   have g':=g
   (try simp only[EF] at g')
   simp +contextual only[qa,qa0,ca,ca0,rc,rc0,sc,sc0,W7,BE,g',hg,go_sem]
   exact AT hre ⟨_,rfl⟩ (by first|exact⟨_,rfl⟩|(refine⟨[],?_⟩;simp;done))
 ·cases h
theorem UD(f:Nat)(h0:Am Tryz.prog 236 (φC (gOf (pLv f .unary))))(h1:Am Tryz.prog 238 (φC (gOf (pLv f .plain)))):Am Tryz.prog 236 (φC (gOf (pLv (f+1) .unary))):=by
 have hM:B0 []:=.nil
 refine Ba (l:=[]) (m:=[]) (ee:=[(69,φC BE),(236,φC (gOf (pLv f .unary))),(238,φC (gOf (pLv f .plain)))]) .nil .nil (.cons J3 (.cons h0 (.cons h1 .nil))) Xn fun H p n xs a e rest r a' e' hp htk hlen h=>?_
 unfold gOf at h
 split at h
 ·have qa:=BY (n:=n) hp htk hlen;have qa0:=Au (n:=n) hp htk hlen;have ca:=BI (n:=n) hp htk hlen;have ca0:=B1 (n:=n) hp htk hlen;have rc:=C7 hp;have rc0:=BJ hp;have sc:=fun K:D->S->Prop=>CH (K:=K) hp;have sc0:=fun K:D->S->Prop=>BR (K:=K) hp
  have hr8:ex8 r:=Av (f+1) .unary xs (a,e) (r,(a',e')) htk h
  refine⟨by simp,hr8.2.2,fun T=>?_⟩
  simp only[pLv] at h
  rcases tf (isP xs (a,e) [45]) with g|g
  ·rw[if_pos g] at h
   obtain⟨z,hz⟩:∃z,pLv f .unary xs (a+1,e)=z:=⟨_,rfl⟩
   rw[hz] at h
   cases z with
   | none=>cases h
   | some z =>
    obtain⟨x,a1,e1⟩:=z
    have hx8:ex8 x:=Av f .unary xs (a+1,e) (x,(a1,e1)) htk hz
    have hg:gOf (pLv f .unary) [] xs (a+1) e=some (x,a1,e1):=hz
    simp only[Ft,Option.some.injEq,Prod.mk.injEq] at h
    obtain⟨h1,h2,h3⟩:=h
    subst h1;subst h2;subst h3
    have hre:=hr8.2.1
    have hxe:=hx8.2.1
    obtain⟨⟨c0,c1,c2,c3,c4,c5,c6,c7,rfl⟩,_,_⟩:=hx8
    have g':=g
    (try simp only[KU] at g')
    simp only[DX,KU] at hre ⊢
    simp +contextual only[qa,qa0,ca,ca0,rc,rc0,sc,sc0,Vs,BE,g',hg,go_sem]
    refine AT ?_ ⟨_,rfl⟩ ⟨_,rfl⟩
    simp only[D.erase,D.eraseL,D.agg.injEq] at hxe ⊢
    rw[hxe]
  ·rw[if_neg (by rw[g];decide)] at h
   have hg:gOf (pLv f .plain) [] xs a e=some (r,a',e'):=h
   have hre:=hr8.2.1
   obtain⟨⟨c0,c1,c2,c3,c4,c5,c6,c7,rfl⟩,_,_⟩:=hr8
   have g':=g
   (try simp only[KU] at g')
   simp +contextual only[qa,qa0,ca,ca0,rc,rc0,sc,sc0,Vs,BE,g',hg,go_sem]
   exact AT hre ⟨_,rfl⟩ (by first|exact⟨_,rfl⟩|(refine⟨[],?_⟩;simp;done))
 ·cases h
theorem TE(f:Nat)(h0:Am Tryz.prog 49 (φC (gOf (pLv f .expr)))):Am Tryz.prog 240 (φC (gOf (pLv (f+1) .inner))):=by
 have hM:B0 []:=.nil
 refine Ba (l:=[]) (m:=[]) (ee:=[(71,φC At),(49,φC (gOf (pLv f .expr)))]) .nil .nil (.cons Mn (.cons h0 .nil)) A2p fun H p n xs a e rest r a' e' hp htk hlen h=>?_
 unfold gOf at h
 split at h
 ·have qa:=BY (n:=n) hp htk hlen;have qa0:=Au (n:=n) hp htk hlen;have ca:=BI (n:=n) hp htk hlen;have ca0:=B1 (n:=n) hp htk hlen;have rc:=C7 hp;have rc0:=BJ hp;have sc:=fun K:D->S->Prop=>CH (K:=K) hp;have sc0:=fun K:D->S->Prop=>BR (K:=K) hp
  have hr8:ex8 r:=Av (f+1) .inner xs (a,e) (r,(a',e')) htk h
  refine⟨by simp,hr8.2.2,fun T=>?_⟩
  simp only[pLv] at h
  obtain⟨⟨a1,e1⟩,hm1⟩:∃st,AV xs [40] (a,e)=st:=⟨_,rfl⟩
  rw[hm1] at h
  have hg1:At [.str [40]] xs a e=some (.tup [],a1,e1):=by simp only[At,hm1]
  obtain⟨z,hz⟩:∃z,pLv f .expr xs (a1,e1)=z:=⟨_,rfl⟩
  rw[hz] at h
  cases z with
  | none=>cases h
  | some z =>
   obtain⟨x,a2,e2⟩:=z
   have hg2:gOf (pLv f .expr) [] xs a1 e1=some (x,a2,e2):=hz
   obtain⟨⟨a3,e3⟩,hm3⟩:∃st,AV xs [41] (a2,e2)=st:=⟨_,rfl⟩
   have hg3:At [.str [41]] xs a2 e2=some (.tup [],a3,e3):=by simp only[At,hm3]
   simp only[Qu,hm3,Option.some.injEq,Prod.mk.injEq] at h
   obtain⟨h1,h2,h3⟩:=h
   subst h1;subst h2;subst h3
   have hre:=hr8.2.1
   obtain⟨⟨c0,c1,c2,c3,c4,c5,c6,c7,rfl⟩,_,_⟩:=hr8
   simp +contextual only[qa,qa0,ca,ca0,rc,rc0,sc,sc0,XF,hg1,hg2,hg3,go_sem]
   exact AT hre ⟨_,rfl⟩ (by first|exact⟨_,rfl⟩|(refine⟨[],?_⟩;simp;done))
 ·cases h
theorem Xi(f:Nat)(h0:Am Tryz.prog 217 (φC (gOf (pLv f .sum)))):Am Tryz.prog 202 (φC (gOf (pLv (f+1) .cmp))):=by
 have hM:B0 []:=.nil
 refine Ba (l:=[(169,Fq)]) (m:=[]) (ee:=[(69,φC BE),(217,φC (gOf (pLv f .sum)))]) (.cons VL .nil) .nil (.cons J3 (.cons h0 .nil)) A1o fun H p n xs a e rest r a' e' hp htk hlen h=>?_
 unfold gOf at h
 split at h
 ·have qa:=BY (n:=n) hp htk hlen;have qa0:=Au (n:=n) hp htk hlen;have ca:=BI (n:=n) hp htk hlen;have ca0:=B1 (n:=n) hp htk hlen;have rc:=C7 hp;have rc0:=BJ hp;have sc:=fun K:D->S->Prop=>CH (K:=K) hp;have sc0:=fun K:D->S->Prop=>BR (K:=K) hp
  have hr8:ex8 r:=Av (f+1) .cmp xs (a,e) (r,(a',e')) htk h
  refine⟨by simp,hr8.2.2,fun T=>?_⟩
  simp only[pLv] at h
  obtain⟨z,hz⟩:∃z,pLv f .sum xs (a,e)=z:=⟨_,rfl⟩
  rw[hz] at h
  cases z with
  | none=>cases h
  | some z =>
  obtain⟨x,b,eb⟩:=z
  have hx8:ex8 x:=Av f .sum xs (a,e) (x,(b,eb)) htk hz
  have hg:gOf (pLv f .sum) [] xs a e=some (x,b,eb):=hz
  simp only[JC] at h
  have hx8':=hx8
  have hxe:=hx8.2.1
  obtain⟨⟨c0,c1,c2,c3,c4,c5,c6,c7,rfl⟩,_,_⟩:=hx8
  simp +contextual only[qa,qa0,ca,ca0,rc,rc0,sc,sc0,A0N,hg,go_sem]
  obtain⟨ds,hds⟩:∃ds,[D.str [61,61],D.str [33,61],D.str [60],D.str [60,61],D.str [62],D.str [62,61],D.str [105,110]]=ds:=⟨_,rfl⟩
  have hmapW:ds.map CQ=He:=by rw[<- hds];rfl
  have hd:ds.all FP=true:=by rw[<- hds];rfl
  have hdl:ds.length=7:=by rw[<- hds];rfl
  rw[hds]
  have hstr:∀(i:Nat) (hi:i<ds.length),ds[i]? =some (.str (CQ ds[i])):=fun i hi=>by
   have:=A6B.1 hd _ (A6A hi)
   rw[A6C hi]
   cases hx:ds[i]<;>rw[hx] at this<;>simp[FP] at this<;>rfl
  clear hds hg hz
  refine Ap (fun i s'=>s'.t 0= .ptr p 0/\s'.t 2= .ptr H.length 0/\s'.t 3= .ptr (H.length+1) 0/\s'.t 8= .sl (some T.length) ds/\s'.t 9= .int .i64 7/\s'.t 10= .int .i64 ((i:Nat):Int)∧
    s'.H=H.set p (.row [aV n xs,.int .i64 ((b:Nat):Int),.int .i64 eb])++[.row [.str [],.int .i64 0,.int .i64 0,.str [],.nils,.str [],.str [],.nils],.row [c0,c1,c2,c3,c4,c5,c6,c7]]/\s'.T=T++[some (7,1)]/\i<=7/\∀j u,j<i->(ds.map CQ)[j]? =some u->isP xs (b,eb) u=false) 7
   ⟨0,by simp[upd,Ae],by simp[upd],by simp[upd],by simp[upd],by simp[upd],by simp[upd],rfl,rfl,by omega,fun j u h=>by omega⟩ (fun i s h=>h.2.2.2.2.2.2.2.2.1) ?_ (Dc _ _ _)
  rintro i ⟨t,B,T'⟩ ⟨r0,r2,r3,r8,r9,r10,rfl,rfl,hi,hN⟩
  simp only at r0 r2 r3 r8 r9 r10
  by_cases hlt:i<7
  ·have d1:decide (((i:Nat):Int)<7)=true:=by simp only[decide_eq_true_eq];omega
   have ex:=hstr i (by omega)
   obtain⟨u,hu⟩:∃u,CQ ds[i]=u:=⟨_,rfl⟩
   rw[hu] at ex
   have hmap:(ds.map CQ)[i]? =some u:=by rw[A6W,ex];rfl
   have ws:IntKind.i64.wrap (((i:Nat):Int)+1)=((i+1:Nat):Int):=by rw[show((i:Nat):Int)+1=((i+1:Nat):Int) by omega];exact kU _ (by omega) (by omega)
   rcases tf (isP xs (b,eb) u) with g1|g1
   ·have hf1:=GZ hmap hN g1
    rw[hmapW] at hf1
    rw[hf1] at h
    simp only at h
    obtain⟨y,hy⟩:∃y,pLv f .sum xs (b+1,eb)=y:=⟨_,rfl⟩
    rw[hy] at h
    cases y with
    | none=>cases h
    | some y =>
    obtain⟨y,b2,eb2⟩:=y
    have hy8:ex8 y:=Av f .sum xs (b+1,eb) (y,(b2,eb2)) htk hy
    have hgy:gOf (pLv f .sum) [] xs (b+1) eb=some (y,b2,eb2):=hy
    simp only[Option.some.injEq,Prod.mk.injEq] at h
    obtain⟨h1,h2,h3⟩:=h
    subst h1;subst h2;subst h3
    have ptwo:Fq [.str u,.agg [c0,c1,c2,c3,c4,c5,c6,c7],y]=some (EB u (.agg [c0,c1,c2,c3,c4,c5,c6,c7]) y):=by simp only[Fq];rw[if_pos ⟨hx8',hy8⟩]
    obtain⟨⟨d0,d1',d2,d3,d4,d5,d6,d7,rfl⟩,hye,_⟩:=hy8
    have hre:=hr8.2.1
    simp only[D.erase,D.eraseL,D.agg.injEq] at hxe hye
    have erall:D.eraseL [.str u,.agg [c0,c1,c2,c3,c4,c5,c6,c7],.agg [d0,d1',d2,d3,d4,d5,d6,d7]]=[.str u,.agg [c0,c1,c2,c3,c4,c5,c6,c7],.agg [d0,d1',d2,d3,d4,d5,d6,d7]]:=by
     simp only[D.eraseL,D.erase,hxe,hye]
    simp only[EB] at ptwo hre ⊢
    simp +contextual only[qa,qa0,ca,ca0,rc,rc0,sc,sc0,r0,r2,r3,r8,r9,r10,d1,ex,BE,g1,hgy,B5 hM,ptwo,erall,go_sem]
    exact AT hre ⟨_,rfl⟩ ⟨_,rfl⟩
   ·simp +contextual only[qa,qa0,ca,ca0,rc,rc0,sc,sc0,r0,r2,r3,r8,r9,r10,d1,ex,BE,g1,ws,go_sem]
    refine⟨by omega,fun j v hj hv=>?_⟩
    rcases A6P j i with h'|h'
    ·exact hN j v h' hv
    ·have:j=i:=by omega
     subst this
     rw[hmap] at hv;injection hv with hv;subst hv;exact g1
  ·have d1:decide (((i:Nat):Int)<7)=false:=by simp only[decide_eq_false_iff_not];omega
   have hf0:oK xs (b,eb) He=none:=by
    rw[<- hmapW]
    exact Dj fun v hv=>by
     obtain⟨q,hq,rfl⟩:=A6S hv
     exact hN q _ (by simp at hq;omega) (by rw[A6C hq])
   rw[hf0] at h
   simp only[Option.some.injEq,Prod.mk.injEq] at h
   obtain⟨h1,h2,h3⟩:=h
   subst h1;subst h2;subst h3
   simp +contextual only[qa,qa0,ca,ca0,rc,rc0,sc,sc0,r0,r2,r3,r8,r9,r10,d1,go_sem]
   exact AT hxe ⟨_,rfl⟩ ⟨_,rfl⟩
 ·cases h
theorem Pt{toks:List D}{st:St}(h:(cY toks st).2.1=false):cY toks st=(Bn,false,st):=by
 revert h
 unfold cY
 (repeat' split)<;>simp
theorem UO(f:Nat)(hf:f<=10000)(h0:Am Tryz.prog 240 (φC (gOf (pLv f .inner)))):Am Tryz.prog 238 (φC (gOf (pLv (f+1) .plain))):=by
 have hM:B0 [(117,φQ gIs)]:=.cons (EX gIs) .nil
 refine Ba (l:=[]) (m:=[(117,φQ gIs)]) (ee:=[(69,φC BE),(71,φC At),(118,φC Gm),(120,φC D5),(239,φC ND),(241,φC (Rt f)),(240,φC (gOf (pLv f .inner)))]) .nil (.cons SQ .nil)
  (.cons J3 (.cons Mn (.cons VN (.cons Nb (.cons Uw (.cons (Z0 f hf) (.cons h0 .nil))))))) ZO fun H p n xs a e rest r a' e' hp htk hlen h=>?_
 unfold gOf at h
 split at h
 ·have qa:=BY (n:=n) hp htk hlen;have qa0:=Au (n:=n) hp htk hlen;have ca:=BI (n:=n) hp htk hlen;have ca0:=B1 (n:=n) hp htk hlen;have rc:=C7 hp;have rc0:=BJ hp;have sc:=fun K:D->S->Prop=>CH (K:=K) hp;have sc0:=fun K:D->S->Prop=>BR (K:=K) hp
  have hr8:ex8 r:=Av (f+1) .plain xs (a,e) (r,(a',e')) htk h
  refine⟨by simp,hr8.2.2,fun T=>?_⟩
  have hre:=hr8.2.1
  simp only[pLv,yL] at h
  obtain⟨k1,i1,s1,f1,hs1⟩:=Hj htk (a,e)
  obtain⟨⟨b1,a1,e1⟩,f2⟩:∃z,(cY xs (a,e)).2=z:=⟨_,rfl⟩
  have f3:cY xs (a,e)=(.agg [.int .i64 k1,.int .i64 i1,.str s1,.nils],b1,a1,e1):=by rw[<- f1,← f2]
  have hlit:ND [] xs a e=some (.tup [.agg [.int .i64 k1,.int .i64 i1,.str s1,.nils],.bool b1],a1,e1):=by simp only[ND,f3]
  cases b1 with
  | true =>
   rw[f3] at h
   simp only[if_true,Option.some.injEq,Prod.mk.injEq] at h
   obtain⟨h1,h2,h3⟩:=h
   subst h1;subst h2;subst h3
   simp only[EG,D.cells,List.cons_append,A68] at hre ⊢
   simp +contextual only[qa,qa0,ca,ca0,rc,rc0,sc,sc0,Mf,hlit,go_sem]
   exact AT hre ⟨_,rfl⟩ (by first|exact⟨_,rfl⟩|(refine⟨[],?_⟩;simp;done))
  | false =>
  have lf:=Pt (toks:=xs) (st:=(a,e)) (by rw[f3])
  rw[lf] at h
  rw[lf] at f3
  simp only[Bn,Prod.mk.injEq,D.agg.injEq,A7q.injEq,D.int.injEq,D.str.injEq,true_and,and_true] at f3
  obtain⟨⟨f4,f5,f6⟩,f7,f8⟩:=f3
  subst f4;subst f5;subst f6;subst f7;subst f8
  simp only[A6H,if_false] at h
  rcases tf (isP xs (a,e) L5) with g1|g1
  ·rw[if_pos g1] at h
   simp only[Option.some.injEq,Prod.mk.injEq] at h
   obtain⟨h1,h2,h3⟩:=h
   subst h1;subst h2;subst h3
   simp only[L5] at g1
   simp only[CM,L5] at hre ⊢
   simp +contextual only[qa,qa0,ca,ca0,rc,rc0,sc,sc0,Mf,hlit,BE,g1,go_sem]
   exact AT hre ⟨_,rfl⟩ (by first|exact⟨_,rfl⟩|(refine⟨[],?_⟩;simp;done))
  rw[if_neg (by rw[g1];decide)] at h
  simp only[L5] at g1
  have i1:gIs [.str [40]] xs a e=some (.bool (isP xs (a,e) [40])):=rfl
  rcases tf (isP xs (a,e) [40]) with g2|g2
  ·rw[if_pos g2] at h
   rw[g2] at i1
   have hg:gOf (pLv f .inner) [] xs a e=some (r,a',e'):=h
   obtain⟨⟨c0,c1,c2,c3,c4,c5,c6,c7,rfl⟩,_,_⟩:=hr8
   simp +contextual only[qa,qa0,ca,ca0,rc,rc0,sc,sc0,Mf,hlit,BE,g1,i1,hg,B5 hM,go_sem]
   exact AT hre ⟨_,rfl⟩ (by first|exact⟨_,rfl⟩|(refine⟨[],?_⟩;simp;done))
  rw[if_neg (by rw[g2];decide)] at h
  rw[g2] at i1
  rcases tf (isP xs (a,e) [91]) with g3|g3
  ·rw[if_pos g3] at h
   have hg:Rt f [.int .i64 ((a:Nat):Int)] xs (a+1) e=some (r,a',e'):=by
    simp only[Rt]
    rw[if_pos (by omega),A7e];exact h
   obtain⟨⟨c0,c1,c2,c3,c4,c5,c6,c7,rfl⟩,_,_⟩:=hr8
   simp +contextual only[qa,qa0,ca,ca0,rc,rc0,sc,sc0,Mf,hlit,BE,g1,g3,i1,hg,B5 hM,go_sem]
   exact AT hre ⟨_,rfl⟩ (by first|exact⟨_,rfl⟩|(refine⟨[],?_⟩;simp;done))
  rw[if_neg (by rw[g3];decide)] at h
  rcases tf (isP xs (a,e) GD) with g4|g4
  ·rw[if_pos g4] at h
   obtain⟨z,hz⟩:∃z,pLv f .inner xs (a+1,e)=z:=⟨_,rfl⟩
   rw[hz] at h
   cases z with
   | none=>cases h
   | some z =>
    obtain⟨x,b1,eb1⟩:=z
    have hx8:ex8 x:=Av f .inner xs (a+1,e) (x,(b1,eb1)) htk hz
    have hg:gOf (pLv f .inner) [] xs (a+1) e=some (x,b1,eb1):=hz
    simp only[Ft,Option.some.injEq,Prod.mk.injEq] at h
    obtain⟨h1,h2,h3⟩:=h
    subst h1;subst h2;subst h3
    have hxe:=hx8.2.1
    obtain⟨⟨c0,c1,c2,c3,c4,c5,c6,c7,rfl⟩,_,_⟩:=hx8
    simp only[GD] at g4
    simp only[DX,GD] at hre ⊢
    simp +contextual only[qa,qa0,ca,ca0,rc,rc0,sc,sc0,Mf,hlit,BE,g1,g3,g4,i1,hg,B5 hM,go_sem]
    refine AT ?_ ⟨_,rfl⟩ ⟨_,rfl⟩
    simp only[D.erase,D.eraseL,D.agg.injEq] at hxe ⊢
    rw[hxe]
  rw[if_neg (by rw[g4];decide)] at h
  simp only[GD] at g4
  rcases tf (isP xs (a,e) GJ) with g5|g5
  ·rw[if_pos g5] at h
   obtain⟨⟨b1,eb1⟩,hm1⟩:∃st,AV xs [40] (a+1,e)=st:=⟨_,rfl⟩
   obtain⟨k2,s2,m2,q1,hs2⟩:=Hy htk 3 (b1,eb1)
   obtain⟨⟨b2,eb2⟩,q2⟩:∃st,(BP xs 3 (b1,eb1)).2=st:=⟨_,rfl⟩
   have q3:BP xs 3 (b1,eb1)=(mkT k2 s2 m2,b2,eb2):=by rw[<- q1,← q2]
   obtain⟨⟨b3,eb3⟩,hm3⟩:∃st,AV xs [41] (b2,eb2)=st:=⟨_,rfl⟩
   have hg1:At [.str [40]] xs (a+1) e=some (.tup [],b1,eb1):=by simp only[At,hm1]
   have hg2:D5 [.int .i64 3] xs b1 eb1=some (mkT k2 s2 m2,b2,eb2):=by simp only[D5];rw[if_neg (by decide),q3]
   have hg3:At [.str [41]] xs b2 eb2=some (.tup [],b3,eb3):=by simp only[At,hm3]
   simp only[hm1,q3,hm3,kE,Option.some.injEq,Prod.mk.injEq] at h
   obtain⟨h1,h2,h3⟩:=h
   subst h1;subst h2;subst h3
   simp only[GJ] at g5
   simp only[mkT] at hg2
   simp only[CM,GJ] at hre ⊢
   simp +contextual only[qa,qa0,ca,ca0,rc,rc0,sc,sc0,Mf,hlit,BE,g1,g3,g4,g5,i1,hg1,hg2,hg3,B5 hM,go_sem]
   exact AT hre ⟨_,rfl⟩ (by first|exact⟨_,rfl⟩|(refine⟨[],?_⟩;simp;done))
  rw[if_neg (by rw[g5];decide)] at h
  simp only[GJ] at g5
  rcases tf (isP xs (a,e) KP) with g6|g6
  ·rw[if_pos g6] at h
   obtain⟨⟨b1,eb1⟩,hm1⟩:∃st,AV xs [40] (a+1,e)=st:=⟨_,rfl⟩
   obtain⟨u1,u2,⟨b2,eb2⟩,q3⟩:∃u1 u2 st,Bk xs (b1,eb1)=(u1,u2,st):=⟨_,_,_,rfl⟩
   obtain⟨⟨b3,eb3⟩,hm3⟩:∃st,AV xs [41] (b2,eb2)=st:=⟨_,rfl⟩
   have hg1:At [.str [40]] xs (a+1) e=some (.tup [],b1,eb1):=by simp only[At,hm1]
   have hg2:Gm [] xs b1 eb1=some (.tup [.str u1,.str u2],b2,eb2):=by simp only[Gm,q3]
   have hg3:At [.str [41]] xs b2 eb2=some (.tup [],b3,eb3):=by simp only[At,hm3]
   simp only[hm1,q3,hm3,Option.some.injEq,Prod.mk.injEq] at h
   obtain⟨h1,h2,h3⟩:=h
   subst h1;subst h2;subst h3
   simp only[KP] at g6
   simp only[CM,KP] at hre ⊢
   simp +contextual only[qa,qa0,ca,ca0,rc,rc0,sc,sc0,Mf,hlit,BE,g1,g3,g4,g5,g6,i1,hg1,hg2,hg3,B5 hM,go_sem]
   exact AT hre ⟨_,rfl⟩ (by first|exact⟨_,rfl⟩|(refine⟨[],?_⟩;simp;done))
  rw[if_neg (by rw[g6];decide)] at h
  simp only[KP] at g6
  obtain⟨u1,u2,⟨b2,eb2⟩,q3⟩:∃u1 u2 st,Bk xs (a,e)=(u1,u2,st):=⟨_,_,_,rfl⟩
  have hg2:Gm [] xs a e=some (.tup [.str u1,.str u2],b2,eb2):=by simp only[Gm,q3]
  simp only[q3,Option.some.injEq,Prod.mk.injEq] at h
  obtain⟨h1,h2,h3⟩:=h
  subst h1;subst h2;subst h3
  simp only[CM,R1] at hre ⊢
  simp +contextual only[qa,qa0,ca,ca0,rc,rc0,sc,sc0,Mf,hlit,BE,g1,g3,g4,g5,g6,i1,hg2,B5 hM,go_sem]
  exact AT hre ⟨_,rfl⟩ (by first|exact⟨_,rfl⟩|(refine⟨[],?_⟩;simp;done))
 ·cases h
theorem Yq:∀f,f<=10000->Am Tryz.prog 49 (φC (gOf (pLv f .expr)))/\Am Tryz.prog 104 (φC (gOf (pLv f .and)))/\Am Tryz.prog 170 (φC (gOf (pLv f .not)))/\Am Tryz.prog 202 (φC (gOf (pLv f .cmp)))/\Am Tryz.prog 217 (φC (gOf (pLv f .sum)))∧
  Am Tryz.prog 228 (φC (gOf (pLv f .prod)))/\Am Tryz.prog 236 (φC (gOf (pLv f .unary)))/\Am Tryz.prog 238 (φC (gOf (pLv f .plain)))/\Am Tryz.prog 240 (φC (gOf (pLv f .inner)))
 | 0,_=>by
  have z:∀(lv:Lv) (N:FuncId),Am Tryz.prog N (φC (gOf (pLv 0 lv))):=fun lv N H args r H' h=>by
   exfalso
   unfold φC at h
   split at h
   ·obtain⟨_,_,_,_,_,_,_,_,_,_,_,h5,_⟩:=Kd h
    unfold gOf at h5
    split at h5
    ·cases lv<;>cases h5
    ·cases h5
   ·cases h
  exact⟨z _ _,z _ _,z _ _,z _ _,z _ _,z _ _,z _ _,z _ _,z _ _⟩
 | f+1,hf=>by
  obtain⟨h1,h2,h3,h4,h5,h6,h7,h8,h9⟩:=Yq f (by omega)
  exact⟨WX f h2,Zt f h3,A1n f h3 h4,Xi f h5,A19 f h6,WW f h7,UD f h7 h8,UO f (by omega) h9,TE f h1⟩
def rem(toks:List D)(st:St):Nat:=if st.2==0 then toks.length - st.1 else 0
theorem C8{toks:List D}{st:St}{w:List UInt8}(h:isP toks st w=true):rem toks (st.1+1,st.2)<rem toks st:=by
 obtain⟨h1,h2⟩:=xR h
 unfold rem
 rw[h2]
 simp only[beq_self_eq_true,if_true]
 omega
theorem I0{toks:List D}{st:St}(h:tk (BS toks st)≠0):rem toks (st.1+1,st.2)<rem toks st:=by
 obtain⟨h1,h2⟩:=wJ (toks:=toks) (a:=st.1) (e:=st.2) h
 unfold rem
 rw[h2]
 simp only[beq_self_eq_true,if_true]
 omega
theorem FJ(toks:List D)(n:Nat)(st:St):rem toks (Bj n 2 st)<=rem toks st:=by
 unfold Bj
 split
 ·unfold rem;simp
 ·exact A6G _
theorem D7(toks:List D)(w:List UInt8)(st:St):rem toks (AV toks w st)<=rem toks st:=by
 unfold AV
 split
 ·rename_i h;exact A6L (C8 h)
 ·exact FJ _ _ _
theorem NG{toks:List D}{w:List UInt8}{st:St}(h:isP toks st w=true):rem toks (AV toks w st)<rem toks st:=by
 unfold AV;rw[if_pos h];exact C8 h
theorem Nn(toks:List D){k:Int}(hk:k≠0)(st:St):rem toks (BP toks k st).2<=rem toks st:=by
 unfold BP
 split
 ·exact FJ _ _ _
 ·rename_i h
  have:tk (BS toks st)=k:=by simpa using h
  exact A6L (I0 (by omega))
theorem RH(toks:List D)(st:St):rem toks (Cf toks st).2<=rem toks st:=by
 unfold Cf
 split
 ·exact FJ _ _ _
 ·rename_i h
  simp only[A6O,not_or,bne_iff_ne,ne_eq,Decidable.not_not] at h
  exact A6L (I0 (by omega))
theorem GS{toks:List D}{st:St}:∀{ws:List (List UInt8)} {w:List UInt8},oK toks st ws=some w->isP toks st w=true
 | [],w,h=>by cases h
 | x::r,w,h=>by
  simp only[oK] at h
  split at h
  ·injection h with h;subst h;assumption
  ·exact GS h
theorem Uc(toks:List D)(ws:List (List UInt8))(st:St):rem toks (D1 toks ws st).2<=rem toks st:=by
 unfold D1
 split
 ·rename_i w h;exact A6L (C8 (GS h))
 ·exact FJ _ _ _
theorem Mh(toks:List D)(st:St):rem toks (Bk toks st).2.2<=rem toks st:=by
 unfold Bk
 exact A61 (RH _ _) (A61 (D7 _ _ _) (Uc _ _ _))
theorem ML(toks:List D)(st:St):rem toks (cY toks st).2.2<=rem toks st:=by
 unfold cY
 split
 ·rename_i h;have:tk (BS toks st)=2:=by simpa using h
  exact A6L (I0 (by omega))
 split
 ·rename_i h;have:tk (BS toks st)=3:=by simpa using h
  exact A6L (I0 (by omega))
 split
 ·rename_i h;have:tk (BS toks st)=4:=by simpa using h
  exact A6L (I0 (by omega))
 split
 ·rename_i h
  simp only[A6O] at h
  rcases h with h|h<;>exact A6L (C8 h)
 ·exact A6G _
theorem NS(toks:List D)(st:St):rem toks (C5 toks st).2<=rem toks st:=by
 unfold C5
 split
 ·rename_i h;exact A61 (Nn _ (by decide) _) (A6L (C8 h))
 split
 ·exact ML _ _
 ·exact A61 (FJ _ _ _) (ML _ _)
theorem Mg(toks:List D):∀(f:Nat) (out:List D) (st:St),rem toks st<f->∃o st2,E9 toks f out st=some (o,st2)/\rem toks st2<=rem toks st
 | 0,_,_,h=>by omega
 | f+1,out,st,h=>by
  simp only[E9]
  split
  ·rename_i g
   have h1:=C8 g
   have h2:=NS toks (st.1+1,st.2)
   obtain⟨o,st2,e,k⟩:=Mg toks f (out++[(C5 toks (st.1+1,st.2)).1]) (C5 toks (st.1+1,st.2)).2 (by omega)
   exact⟨o,st2,e,by omega⟩
  ·exact⟨out,st,rfl,A6G _⟩
theorem RU(toks:List D){f fr:Nat}{st:St}(h:rem toks st<f):∃x st2,H6 toks f fr st=some (x,st2)/\rem toks st2<=rem toks st:=by
 have h1:=NS toks st
 obtain⟨o,st1,e,k⟩:=Mg toks f [(C5 toks st).1] (C5 toks st).2 (by omega)
 unfold H6
 rw[e]
 have h2:=D7 toks [93] st1
 simp only
 split
 ·exact⟨_,_,rfl,by omega⟩
 ·refine⟨_,_,rfl,?_⟩
  split
  ·exact A61 (FJ _ _ _) (by omega)
  ·omega
def tot(toks:List D)(P:Dz)(r:Nat):Prop:=∀st,rem toks st<=r->∃x st2,P toks st=some (x,st2)/\rem toks st2<=rem toks st
theorem Nl{toks:List D}{P:Dz}{r:Nat}(hP:tot toks P r)(bs:List (List UInt8)):∀(f:Nat) (x:D) (st:St),rem toks st<=r->rem toks st<f->∃y st2,FC toks P bs f x st=some (y,st2)/\rem toks st2<=rem toks st
 | 0,_,_,_,h=>by omega
 | f+1,x,st,hr,h=>by
  simp only[FC]
  split
  ·exact⟨x,st,rfl,A6G _⟩
  ·split
   ·exact⟨x,st,rfl,A6G _⟩
   ·rename_i w hw
    have h1:=C8 (GS hw)
    obtain⟨y,st2,e,k⟩:=hP (st.1+1,st.2) (by omega)
    rw[e]
    obtain⟨z,st3,e3,k3⟩:=Nl hP bs f (EB w x y) st2 (by omega) (by omega)
    exact⟨z,st3,e3,by omega⟩
theorem HX{toks:List D}{P:Dz}{r:Nat}(hP:tot toks P r)(bs:List (List UInt8)){f:Nat}(hf:r<f):tot toks (fun toks st=>GM toks P bs f st) r:=fun st hr=>by
 obtain⟨x,st1,e,k⟩:=hP st hr
 obtain⟨y,st2,e2,k2⟩:=Nl hP bs f x st1 (by omega) (by omega)
 refine⟨y,st2,?_,by omega⟩
 simp only[GM,e];exact e2
def Of:Lv->Nat
 | .plain=>1| .unary=>2| .prod=>3| .sum=>4| .cmp=>5| .not=>6| .and=>7| .expr=>8| .inner=>10
theorem Jx{op:List UInt8}{toks:List D}{z:Option (D×St)}{n:Nat}(h:∃x st2,z=some (x,st2)/\rem toks st2<=n):∃x st2,Ft op z=some (x,st2)/\rem toks st2<=n:=by
 obtain⟨x,st2,rfl,k⟩:=h
 exact⟨_,_,rfl,k⟩
theorem WU(toks:List D):∀(r f:Nat) (lv:Lv),16*r+Of lv<f->tot toks (pLv f lv) r:=by
 intro r
 induction r using Nat.strongRecOn with
 | ind r ih =>
 have inn1:∀f st,16*r+2<=f+1->rem toks st<=r->isP toks st [40]=true->∃x st2,pLv f .inner toks st=some (x,st2)/\rem toks st2<=rem toks st:=by
  intro f st hf hr hp
  have h1:=NG hp
  cases f with
  | zero=>omega
  | succ f =>
   obtain⟨x,st2,e,k⟩:=ih (r - 1) (by omega) f .expr (by simp only[Of];omega) (AV toks [40] st) (by omega)
   refine⟨x,AV toks [41] st2,?_,?_⟩
   ·simp only[pLv,e,Qu]
   ·have:=D7 toks [41] st2;omega
 have inn2:∀f st,16*r+2<=f+1->rem toks st<r->∃x st2,pLv f .inner toks st=some (x,st2)/\rem toks st2<=rem toks st:=by
  intro f st hf hr
  exact ih (r - 1) (by omega) f .inner (by simp only[Of];omega) st (by omega)
 have hplain:∀f,16*r+1<f->tot toks (pLv f .plain) r:=by
  intro f hf st hr
  cases f with
  | zero=>omega
  | succ f =>
   simp only[pLv,yL]
   split
   ·exact⟨_,_,rfl,ML _ _⟩
   split
   ·rename_i h;exact⟨_,_,rfl,A6L (C8 h)⟩
   split
   ·rename_i h;exact inn1 f st (by omega) hr h
   split
   ·rename_i h
    have h1:=C8 h
    obtain⟨x,st2,e,k⟩:=RU toks (f:=f) (fr:=st.1) (st:=(st.1+1,st.2)) (by omega)
    exact⟨x,st2,e,by omega⟩
   split
   ·rename_i h
    have h1:=C8 h
    refine Jx ?_
    obtain⟨x,st2,e,k⟩:=inn2 f (st.1+1,st.2) (by omega) (by omega)
    exact⟨x,st2,e,by omega⟩
   split
   ·rename_i h
    refine⟨_,_,rfl,?_⟩
    have h1:=C8 h
    have h2:=D7 toks [40] (st.1+1,st.2)
    have h3:=Nn toks (k:=3) (by decide) (AV toks [40] (st.1+1,st.2))
    have h4:=D7 toks [41] (BP toks 3 (AV toks [40] (st.1+1,st.2))).2
    omega
   split
   ·rename_i h
    refine⟨_,_,rfl,?_⟩
    have h1:=C8 h
    have h2:=D7 toks [40] (st.1+1,st.2)
    have h3:=Mh toks (AV toks [40] (st.1+1,st.2))
    have h4:=D7 toks [41] (Bk toks (AV toks [40] (st.1+1,st.2))).2.2
    omega
   ·exact⟨_,_,rfl,Mh _ _⟩
 have hunary:∀f,16*r+2<f->tot toks (pLv f .unary) r:=by
  intro f hf st hr
  cases f with
  | zero=>omega
  | succ f =>
   simp only[pLv]
   split
   ·rename_i h
    have h1:=C8 h
    refine Jx ?_
    obtain⟨x,st2,e,k⟩:=ih (r - 1) (by omega) f .unary (by simp only[Of];omega) (st.1+1,st.2) (by omega)
    exact⟨x,st2,e,by omega⟩
   ·exact hplain f (by omega) st hr
 have hprod:∀f,16*r+3<f->tot toks (pLv f .prod) r:=by
  intro f hf
  cases f with
  | zero=>omega
  | succ f=>exact HX (hunary f (by omega)) [[42]] (by omega)
 have hsum:∀f,16*r+4<f->tot toks (pLv f .sum) r:=by
  intro f hf
  cases f with
  | zero=>omega
  | succ f=>exact HX (hprod f (by omega)) [[43],[45]] (by omega)
 have hcmp:∀f,16*r+5<f->tot toks (pLv f .cmp) r:=by
  intro f hf st hr
  cases f with
  | zero=>omega
  | succ f =>
   obtain⟨x,st1,e,k⟩:=hsum f (by omega) st hr
   simp only[pLv,e,JC]
   split
   ·exact⟨x,st1,rfl,k⟩
   ·rename_i w hw
    have h1:=C8 (GS hw)
    obtain⟨y,st2,e2,k2⟩:=hsum f (by omega) (st1.1+1,st1.2) (by omega)
    rw[e2]
    exact⟨_,st2,rfl,by omega⟩
 have hnot:∀f,16*r+6<f->tot toks (pLv f .not) r:=by
  intro f hf st hr
  cases f with
  | zero=>omega
  | succ f =>
   simp only[pLv]
   split
   ·rename_i h
    have h1:=C8 h
    refine Jx ?_
    obtain⟨x,st2,e,k⟩:=ih (r - 1) (by omega) f .not (by simp only[Of];omega) (st.1+1,st.2) (by omega)
    exact⟨x,st2,e,by omega⟩
   ·exact hcmp f (by omega) st hr
 have hand:∀f,16*r+7<f->tot toks (pLv f .and) r:=by
  intro f hf
  cases f with
  | zero=>omega
  | succ f=>exact HX (hnot f (by omega)) [K2] (by omega)
 have hexpr:∀f,16*r+8<f->tot toks (pLv f .expr) r:=by
  intro f hf
  cases f with
  | zero=>omega
  | succ f=>exact HX (hand f (by omega)) [wOr] (by omega)
 have hinner:∀f,16*r+10<f->tot toks (pLv f .inner) r:=by
  intro f hf st hr
  cases f with
  | zero=>omega
  | succ f =>
   have h1:=D7 toks [40] st
   obtain⟨x,st2,e,k⟩:=hexpr f (by omega) (AV toks [40] st) (by omega)
   refine⟨x,AV toks [41] st2,by simp only[pLv,e,Qu],?_⟩
   have:=D7 toks [41] st2;omega
 intro f lv hf
 cases lv<;>simp only[Of] at hf
 ·exact hexpr f hf
 ·exact hand f hf
 ·exact hnot f hf
 ·exact hcmp f hf
 ·exact hsum f hf
 ·exact hprod f hf
 ·exact hunary f hf
 ·exact hplain f hf
 ·exact hinner f hf
def DI(x:D):Prop:=x.isV=true/\ -(2^63)<=vi x/\vi x<2^63
def mkE(op:List UInt8)(k i:Int)(s:List UInt8)(nl:Bool)(l:List D)(who name:List UInt8)(m:Bool)(ps:List D):D :=
 .agg [.str op,.int .i64 k,.int .i64 i,.str s,aV nl l,.str who,.str name,aV m ps]
def isE:Nat->D->Prop
 | 0,_=>False
 | n+1,d=>∃op k i s nl l who name m ps,d=mkE op k i s nl l who name m ps/\op.length<=2^47/\who.length<=2^47/\name.length<=2^47/\DI (mkV k i s nl l)/\ps.length<=2^47/\∀x∈ps,isE n x
theorem jV{k i:Int}{s:List UInt8}{nl:Bool}{l:List D}(h:(mkV k i s nl l).isV=true):D.eraseL l=l/\s.length<=2^47/\l.length<=2^47/\∀x∈l,x.isV=true:=by
 obtain⟨k',i',s',n',l',e,h1,h2,h3⟩:=d9 h
 have e1:=congrArg vs e
 have e2:=congrArg vl e
 simp only[Cj,C3] at e1 e2
 subst e1;subst e2
 exact⟨l9 h3,h1,h2,h3⟩
theorem lY:∀{n:Nat} {d:D},isE n d->isE (n+1) d
 | 0,_,h=>h.elim
 | _+1,_,⟨op,k,i,s,nl,l,who,name,m,ps,e,h1,h2,h3,h4,h5,h6⟩=>⟨op,k,i,s,nl,l,who,name,m,ps,e,h1,h2,h3,h4,h5,fun x hx=>lY (h6 x hx)⟩
theorem fL:∀{n:Nat} {d:D},isE n d->d.erase=d
 | 0,_,h=>h.elim
 | n+1,d,⟨op,k,i,s,nl,l,who,name,m,ps,e,h1,h2,h3,h4,h5,h6⟩=>by
  subst e
  have hp:D.eraseL ps=ps:=by
   rw[iR]
   exact(List.map_congr_left fun x hx=>fL (h6 x hx)).trans (A7l (fun _=>rfl) ps)
  simp[mkE,D.erase,D.eraseL,Ag,(jV h4.1).1,hp]
theorem BT{n:Nat}{d:D}(h:isE n d):d.cells.length=8/\d.cells.take 8=d.cells/\D.agg d.cells=d/\d.okc=true:=by
 cases n with
 | zero=>exact h.elim
 | succ n =>
  obtain⟨op,k,i,s,nl,l,who,name,m,ps,rfl,_⟩:=h
  exact⟨rfl,rfl,rfl,rfl⟩
def eop:D->List UInt8
 | .agg (.str s::_)=>s
 | _=>[]
def eV:D->D
 | .agg (_::a::b::c::d::_)=>.agg [a,b,c,d]
 | _=>.top
def Ca:D->List UInt8
 | .agg (_::_::_::_::_:: .str s::_)=>s
 | _=>[]
def BG:D->List UInt8
 | .agg (_::_::_::_::_::_:: .str s::_)=>s
 | _=>[]
def eps:D->List D
 | .agg (_::_::_::_::_::_::_::l::_)=>elems l
 | _=>[]
section
variable (op:List UInt8) (k i:Int) (s:List UInt8) (nl:Bool) (l:List D) (who name:List UInt8) (m:Bool) (ps:List D)
theorem CN:eop (mkE op k i s nl l who name m ps)=op:=rfl
theorem HR:eV (mkE op k i s nl l who name m ps)=mkV k i s nl l:=rfl
theorem En:Ca (mkE op k i s nl l who name m ps)=who:=rfl
theorem Dp:BG (mkE op k i s nl l who name m ps)=name:=rfl
theorem uG:eps (mkE op k i s nl l who name m ps)=ps:=by simp only[eps,mkE,AU]
end
def mkF(who name:List UInt8)(kind:Int)(bag:Bool):D:=.agg [.str who,.str name,.int .i64 kind,.bool bag]
def isF(d:D):Prop:=∃who name kind bag,d=mkF who name kind bag/\who.length<=2^47/\name.length<=2^47/\ -(2^63)<=kind/\kind<2^63
def IV:D->List UInt8
 | .agg (.str s::_)=>s
 | _=>[]
def F6:D->List UInt8
 | .agg (_:: .str s::_)=>s
 | _=>[]
def Dv:D->Int
 | .agg (_::_:: .int _ k::_)=>k
 | _=>0
def QG:D->Bool
 | .agg [_,_,_,.bool b]=>b
 | _=>false
theorem jJ{d:D}(h:isF d):d.erase=d:=by
 obtain⟨_,_,_,_,rfl,_⟩:=h;simp[mkF,D.erase,D.eraseL]
def G4:List (List UInt8):=[[118,97,108,117,101],[110,111,119],[97,116,116,114],[104,97,115],[114,111,108,101]]
def GB:List (List UInt8):=[[110,111,116],[110,101,103],[115,105,122,101]]
def GI:List (List UInt8):=[[97,110,100],[111,114],[43],[45],[42],[61,61],[33,61],[60],[60,61],[62],[62,61],[105,110]]
def Ar(op:List UInt8):Int:=if G4.any (op==·) then 0 else if GB.any (op==·) then 1 else if GI.any (op==·) then 2 else -1
def Ja:List D->Option D
 | [.str op]=>some (.int .i64 (Ar op))
 | _=>none
theorem Zc[HasG Tryz.prog]:AQ Tryz.prog 158 Ja:=by
 refine AN (l:=[]) .nil ZR fun args r h=>?_
 unfold Ja at h
 split at h
 ·rename_i op
  injection h with h;subst h
  refine⟨by simp,by simp[D.cl],fun H T=>?_⟩
  simp only[Ar,G4,GB,GI,A7m,A7r]
  simp +contextual only[A1P,go_sem]
 ·cases h
def FY(fs:List D)(who name:List UInt8):Int:=match fs.find? (fun f=>(IV f==who)&&(F6 f==name)) with
 | some f=>if QG f then IntKind.i64.wrap (10+Dv f) else Dv f
 | none=>0
open Classical in
noncomputable def KA:List D->Option D
 | [fs,.str who,.str name]=>if G6 isF fs then some (.int .i64 (FY (elems fs) who name)) else none
 | _=>none
theorem PJ{xs:List D}(h:∀x∈xs,isF x){i:Nat}(hi:i<xs.length):∃who name kind bag,xs[i]? =some (mkF who name kind bag)/\ -(2^63)<=kind/\kind<2^63:=by
 obtain⟨who,name,kind,bag,e,_,_,h3,h4⟩:=h _ (A6A hi)
 exact⟨who,name,kind,bag,by rw[<- e];simp[hi],h3,h4⟩
theorem DB{p:D->Bool}{xs:List D}{i:Nat}{x:D}(hx:xs[i]? =some x)(h:(xs.take i).find? p=none)(hp:p x=false):(xs.take (i+1)).find? p=none:=by
 rw[A63,hx];simp[h,hp]
theorem JW{p:D->Bool}{xs:List D}{i:Nat}{x:D}(hx:xs[i]? =some x)(h:(xs.take i).find? p=none)(hp:p x=true):xs.find? p=some x:=by
 have e:xs=xs.take i++x::xs.drop (i+1):=by
  have hi:i<xs.length:=by
   rcases A6P i xs.length with h'|h'
   ·exact h'
   ·rw[A6X h'] at hx;cases hx
  have:x=xs[i]:=by simpa[hi] using hx.symm
  subst this
  simp
 rw[e,List.find?_append,h]
 simp[hp]
theorem A1j[HasG Tryz.prog]:AQ Tryz.prog 197 KA:=by
 refine AN (l:=[]) .nil A0d fun args r h=>?_
 unfold KA at h
 split at h
 ·rename_i fs who name
  split at h
  ·rename_i hf
   injection h with h;subst h
   refine⟨by simp,by simp[D.cl],fun H T=>?_⟩
   obtain⟨n,xs,rfl,hl,hx⟩:=hf
   rw[AU]
   simp +contextual only[Xw,go_sem]
   refine Ap (fun j s'=>s'.t 0=aV n xs/\s'.t 1= .str who/\s'.t 2= .str name/\s'.t 9=aV n xs/\s'.t 10= .int .i64 xs.length/\s'.t 11= .int .i64 j/\Ext H s'.H/\s'.T=T/\j<=xs.length/\(xs.take j).find? (fun f=>(IV f==who)&&(F6 f==name))=none) xs.length ⟨0,by simp[upd,Ae,Nu]⟩ (fun i s h=>h.2.2.2.2.2.2.2.2.1) ?_ (AR _)
   rintro j ⟨t,B,T'⟩ ⟨h0,h1,h2,h9,h10,h11,hE,rfl,hj,hc⟩
   simp only at h0 h1 h2 h9 h10 h11 hE
   by_cases ha:j<xs.length
   ·have d1:decide ((j:Int)<xs.length)=true:=by simpa using ha
    obtain⟨w3,n3,k3,b3,e3,r3,r4⟩:=PJ hx ha
    have nx:=fun hp=>DB e3 hc hp
    have at':=fun hp=>JW e3 hc hp
    have F:((IV (mkF w3 n3 k3 b3)==who)&&(F6 (mkF w3 n3 k3 b3)==name))=((w3==who)&&(n3==name)):=rfl
    rw[F] at nx at'
    have G:((w3==who)&&(n3==name))=true->FY xs who name=if b3 then IntKind.i64.wrap (10+k3) else k3:=fun h=>by unfold FY;rw[at' h];rfl
    clear at' F
    simp only[mkF] at e3
    simp +contextual only[h0,h1,h2,h9,h10,h11,d1,e3,AJ j (by omega),hE.ta,AS hE (AY.refl _),go_sem]
    (all_goals ((repeat' (first|apply A6D|intro _))<;>(first|rfl|omega|(simp_all;done)|grind)))
   ·have d1:decide ((j:Int)<xs.length)=false:=by simpa using ha
    have hA:FY xs who name=0:=by
     have:j=xs.length:=by omega
     subst this;rw[A6J] at hc
     unfold FY;rw[hc]
    simp +contextual only[h0,h1,h2,h9,h10,h11,d1,hA,Ad hE (AY.refl _),go_sem]
  ·cases h
 ·cases h
def LE(v:D):Int:=if !(bS v)||(vk v==0)||((vk v==5)&&(((vl v).length:Int)==0)) then 0 else if vk v==5 then IntKind.i64.wrap (10+vk0 (vl v)) else vk v
open Classical in
noncomputable def NB:List D->Option D
 | [v]=>if DI v then some (.int .i64 (LE v)) else none
 | _=>none
theorem A0t[HasG Tryz.prog]:AQ Tryz.prog 196 NB:=by
 refine AN (l:=[(129,Do)]) (.cons V1 .nil) Y6 fun args r h=>?_
 unfold NB at h
 split at h
 ·rename_i v
  split at h
  ·rename_i hv
   injection h with h;subst h
   refine⟨by simp,by simp[D.cl],fun H T=>?_⟩
   have pv:Do [v]=some (.bool (bS v)):=by simp[Do,hv.1,mZ]
   unfold LE
   generalize bS v=fb at *
   obtain⟨k,i,s,n,xs,rfl,hs,hx,hV⟩:=d9 hv.1
   have eL:=l9 hV
   simp only[CK,C3]
   simp only[mkV] at pv
   by_cases h0:0<xs.length
   ·obtain⟨k0,i0,s0,n0,l0,e0,_⟩:=CD hV h0
    have fk:=Hh e0
    have d1:(((xs.length:Int))==0)=false:=by rw[beq_eq_false_iff_ne];omega
    simp +contextual only[Wn,mkV,pv,eL,d1,e0,fk,go_sem]
    (all_goals ((repeat' (first|apply A6D|intro _))<;>(first|rfl|omega|(simp_all;done)|grind)))
   ·have d1:(((xs.length:Int))==0)=true:=by rw[beq_iff_eq];omega
    simp +contextual only[Wn,mkV,pv,eL,d1,go_sem]
    (all_goals ((repeat' (first|apply A6D|intro _))<;>(first|rfl|omega|(simp_all;done)|grind)))
  ·cases h
 ·cases h
def Bq:List UInt8:=[118,97,108,117,101]
def Cc:List UInt8:=[110,111,119]
def Bh:List UInt8:=[97,116,116,114]
def CB:List UInt8:=[104,97,115]
def BN:List UInt8:=[114,111,108,101]
def Cg:List UInt8:=[110,111,116]
def EO:List UInt8:=[110,101,103]
def Be:List UInt8:=[115,105,122,101]
def A0Y:List UInt8:=[97,110,100]
def sOr:List UInt8:=[111,114]
def sIn:List UInt8:=[105,110]
def Fc(fs:List D)(e:D):Int×Int :=
 if eop e==Bq then(if LE (eV e) !=0 then(LE (eV e),0) else(0,2)) else
 if eop e==Cc then(4,0) else if eop e==BN then(1,0) else
 if FY fs (Ca e) (BG e)==0 then(0,8) else if eop e==CB then(1,0) else(FY fs (Ca e) (BG e),0)
def C4(p:Int×Int):D:=.tup [.int .i64 p.1,.int .i64 p.2]
theorem Jj(p:Int×Int):(C4 p).cl 0 0=true:=by simp[C4,D.cl,D.clL]
open Classical in
noncomputable def KW:List D->Option D
 | [fs,e]=>if G6 isF fs/\∃n,isE n e then some (C4 (Fc (elems fs) e)) else none
 | _=>none
theorem Aj{n:Nat}{d:D}(h:isE n d):∃op k i s nl l who name m ps,d=mkE op k i s nl l who name m ps/\op.length<=2^47/\who.length<=2^47/\name.length<=2^47/\DI (mkV k i s nl l)/\ps.length<=2^47/\(∀x∈ps,isE (n - 1) x)/\D.eraseL l=l/\D.eraseL ps=ps:=by
 cases n with
 | zero=>exact h.elim
 | succ n =>
  obtain⟨op,k,i,s,nl,l,who,name,m,ps,rfl,h1,h2,h3,h4,h5,h6⟩:=h
  exact⟨op,k,i,s,nl,l,who,name,m,ps,rfl,h1,h2,h3,h4,h5,h6,(jV h4.1).1,bF fun x hx=>fL (h6 x hx)⟩
theorem Yn[HasG Tryz.prog]:AQ Tryz.prog 159 KW:=by
 refine AN (l:=[(196,NB),(197,KA)]) (.cons A0t (.cons A1j .nil)) Zv fun args r h=>?_
 unfold KW at h
 split at h
 ·rename_i fs e
  split at h
  ·rename_i hv
   injection h with h;subst h
   refine⟨by simp,Jj _,fun H T=>?_⟩
   obtain⟨hf,m,he⟩:=hv
   obtain⟨op,k,i,s,nl,l,who,name,m,ps,rfl,h1,h2,h3,h4,h5,h6,eL,eP⟩:=Aj he
   have pf:KA [fs,.str who,.str name]=some (.int .i64 (FY (elems fs) who name)):=by simp only[KA];rw[if_pos hf]
   have pv:NB [mkV k i s nl l]=some (.int .i64 (LE (mkV k i s nl l))):=by simp only[NB];rw[if_pos h4]
   have ef:fs.erase=fs:=by
    obtain⟨n,xs,rfl,_,hx⟩:=hf
    rw[Ag,bF fun x h=>jJ (hx x h)]
   simp only[Fc,CN,HR,En,Dp,Bq,Cc,BN,CB]
   obtain⟨lt,hlt⟩:∃x,LE (mkV k i s nl l)=x:=⟨_,rfl⟩
   simp only[hlt] at pv ⊢
   simp only[mkV] at pv
   simp +contextual only[A0A,mkE,pf,pv,eL,eP,ef,C4,go_sem]
   (all_goals ((repeat' (first|apply A6D|intro _))<;>(first|rfl|omega|(simp_all;done)|grind)))
  ·cases h
 ·cases h
def Jr(op:List UInt8)(t:Int):Int:=if(op==Cg)&&(t==1) then 1 else if(op==EO)&&(t==2)||(op==Be)&&decide (10<t) then 2 else 0
def KE:List D->Option D
 | [.str op,.int .i64 t]=>some (.int .i64 (Jr op t))
 | _=>none
theorem Xs[HasG Tryz.prog]:AQ Tryz.prog 160 KE:=by
 refine AN (l:=[]) .nil A1Z fun args r h=>?_
 unfold KE at h
 split at h
 ·injection h with h;subst h
  refine⟨by simp,by simp[D.cl],fun H T=>?_⟩
  simp only[Jr,Cg,EO,Be]
  simp +contextual only[YC,go_sem]
  (all_goals ((repeat' (first|apply A6D|intro _))<;>(first|rfl|omega|(simp_all;done)|grind)))
 ·cases h
def Vc(op:List UInt8)(a b:Int):Int:=if(a==2)&&(b==2) then 2 else if(op !=[42])&&(a==4)&&(b==2) then 4 else if(op==[45])&&(a==4)&&(b==4) then 2 else 0
def Ls:List D->Option D
 | [.str op,.int .i64 a,.int .i64 b]=>some (.int .i64 (Vc op a b))
 | _=>none
theorem Yg[HasG Tryz.prog]:AQ Tryz.prog 198 Ls:=by
 refine AN (l:=[]) .nil ZP fun args r h=>?_
 unfold Ls at h
 split at h
 ·injection h with h;subst h
  refine⟨by simp,by simp[D.cl],fun H T=>?_⟩
  simp only[Vc]
  simp +contextual only[Xh,go_sem]
  (all_goals ((repeat' (first|apply A6D|intro _))<;>(first|rfl|omega|(simp_all;done)|grind)))
 ·cases h
def VO(op:List UInt8)(a b:Int):Bool :=
 if(op==A0Y)||(op==sOr) then(a==1)&&(b==1) else
 if(op==[61,61])||(op==[33,61]) then a==b else
 if op==sIn then b==IntKind.i64.wrap (10+a) else(a==b)&&(a !=1)&&decide (a<10)
def KV(op:List UInt8)(a b:Int):Int:=if(op==[43])||(op==[45])||(op==[42]) then Vc op a b else if VO op a b then 1 else 0
def MD:List D->Option D
 | [.str op,.int .i64 a,.int .i64 b]=>some (.int .i64 (KV op a b))
 | _=>none
theorem Xj[HasG Tryz.prog]:AQ Tryz.prog 161 MD:=by
 refine AN (l:=[(198,Ls)]) (.cons Yg .nil) A0h fun args r h=>?_
 unfold MD at h
 split at h
 ·rename_i op a b
  injection h with h;subst h
  refine⟨by simp,by simp[D.cl],fun H T=>?_⟩
  simp only[KV,VO,A0Y,sOr,sIn]
  simp +contextual only[Z8,Ls,go_sem]
  (all_goals ((repeat' (first|apply A6D|intro _))<;>(first|rfl|omega|(simp_all;done)|grind)))
 ·cases h
def CV:Nat->List D->D->Int×Int
 | 0,_,_=>(0,2)
 | n+1,fs,e =>
  if decide (Ar (eop e)<0)||(((eps e).length:Int) !=Ar (eop e)) then(0,2) else
  if Ar (eop e)==0 then Fc fs e else
  if(CV n fs ((eps e).getD 0 .top)).2 !=0 then(0,(CV n fs ((eps e).getD 0 .top)).2) else
  if Ar (eop e)==2 then
   if(CV n fs ((eps e).getD 1 .top)).2 !=0 then(0,(CV n fs ((eps e).getD 1 .top)).2) else
   if KV (eop e) (CV n fs ((eps e).getD 0 .top)).1 (CV n fs ((eps e).getD 1 .top)).1==0 then(0,6) else(KV (eop e) (CV n fs ((eps e).getD 0 .top)).1 (CV n fs ((eps e).getD 1 .top)).1,0)
  else if Jr (eop e) (CV n fs ((eps e).getD 0 .top)).1==0 then(0,6) else(Jr (eop e) (CV n fs ((eps e).getD 0 .top)).1,0)
open Classical in
noncomputable def FX(n:Nat):List D->Option D
 | [fs,e]=>if G6 isF fs/\isE n e then some (C4 (CV n (elems fs) e)) else none
 | _=>none
theorem Fp(op:List UInt8):Ar op=0∨Ar op=1∨Ar op=2∨Ar op= -1:=by unfold Ar;(repeat' split)<;>simp
theorem WR[HasG Tryz.prog]:∀n,AQ Tryz.prog 97 (FX n)
 | 0=>fun args r h=>by
  unfold FX at h
  split at h
  ·split at h
   ·rename_i h';exact h'.2.elim
   ·cases h
  ·cases h
 | n+1=>by
  refine AN (l:=[(158,Ja),(159,KW),(160,KE),(161,MD),(97,FX n)]) (.cons Zc (.cons Yn (.cons Xs (.cons Xj (.cons (WR n) .nil))))) A5i fun args r h=>?_
  unfold FX at h
  split at h
  ·rename_i fs e
   split at h
   ·rename_i hv
    injection h with h;subst h
    refine⟨by simp,Jj _,fun H T=>?_⟩
    obtain⟨hf,he⟩:=hv
    have pn:KW [fs,e]=some (C4 (Fc (elems fs) e)):=by simp only[KW];rw[if_pos ⟨hf,_,he⟩]
    obtain⟨op,k,i,s,nl,l,who,name,m,ps,rfl,h1,h2,h3,h4,h5,h6,eL,eP⟩:=Aj he
    have ef:fs.erase=fs:=by
     obtain⟨n,xs,rfl,_,hx⟩:=hf
     rw[Ag,bF fun x h=>jJ (hx x h)]
    simp only[CV,CN,uG]
    have ac:=Fp op
    have pa:Ja [.str op]=some (.int .i64 (Ar op)):=rfl
    obtain⟨nn,hnn⟩:∃x,Fc (elems fs) (mkE op k i s nl l who name m ps)=x:=⟨_,rfl⟩
    simp only[hnn] at pn ⊢
    obtain⟨ar,har⟩:∃x,Ar op=x:=⟨_,rfl⟩
    simp only[har] at pa ac ⊢
    simp only[mkE] at pn
    have child:∀i,i<ps.length->∃x,ps[i]? =some x/\ps.getD i .top=x/\x.cells.length=8/\x.cells.take 8=x.cells/\D.agg x.cells=x/\x.erase=x/\FX n [fs,x]=some (C4 (CV n (elems fs) x)):=fun i hi=>by
     have hx:=h6 _ (A6A hi)
     obtain⟨c1,c2,c3,_⟩:=BT hx
     exact⟨_,by simp[hi],by simp[hi],c1,c2,c3,fL hx,by simp only[FX];rw[if_pos ⟨hf,hx⟩]⟩
    by_cases hl:(ps.length:Int)=ar
    ·have dl:((ps.length:Int) !=ar)=false:=by simp[hl]
     rcases ac with rfl|rfl|rfl|rfl
     ·simp +contextual only[c97,mkE,pa,pn,eL,eP,ef,dl,C4,go_sem]
     ·obtain⟨x,e0,g0,x1,x2,x3,x4,px⟩:=child 0 (by omega)
      rw[g0]
      obtain⟨tx,htx⟩:∃z,CV n (elems fs) x=z:=⟨_,rfl⟩
      simp only[htx] at px ⊢
      simp +contextual only[c97,mkE,pa,pn,eL,eP,ef,dl,C4,e0,x1,x2,x3,x4,px,KE,go_sem]
      (all_goals ((repeat' (first|apply A6D|intro _))<;>(first|rfl|omega|(simp_all;done)|grind)))
     ·obtain⟨x,e0,g0,x1,x2,x3,x4,px⟩:=child 0 (by omega)
      obtain⟨y,e1,g1,y1,y2,y3,y4,py⟩:=child 1 (by omega)
      rw[g0,g1]
      obtain⟨tx,htx⟩:∃z,CV n (elems fs) x=z:=⟨_,rfl⟩
      simp only[htx] at px ⊢
      obtain⟨ty,hty⟩:∃z,CV n (elems fs) y=z:=⟨_,rfl⟩
      simp only[hty] at py ⊢
      simp +contextual only[c97,mkE,pa,pn,eL,eP,ef,dl,C4,e0,x1,x2,x3,x4,px,e1,y1,y2,y3,y4,py,KE,MD,go_sem]
      (all_goals ((repeat' (first|apply A6D|intro _))<;>(first|rfl|omega|(simp_all;done)|grind)))
     ·omega
    ·have dl:((ps.length:Int) !=ar)=true:=by simp[hl]
     simp +contextual only[c97,mkE,pa,pn,eL,eP,ef,dl,C4,go_sem]
     (all_goals ((repeat' (first|apply A6D|intro _))<;>(first|rfl|omega|(simp_all;done)|grind)))
   ·cases h
  ·cases h
end GP
namespace GP
open Go Go.Proofs
set_option maxRecDepth 100000
def szL(f:D->Int->Int):List D->Int->Int->Int
 | [],_,n=>n
 | x::l,m,n=>if decide (n<=m) then szL f l m (IntKind.i64.wrap (n+f x (IntKind.i64.wrap (m - n)))) else n
def EY:Nat->D->Int->Int
 | 0,_,_=>0
 | n+1,e,m=>szL (EY n) (eps e) m 1
theorem RG{f:D->Int->Int}{l:List D}{j:Nat}{x:D}(hx:l[j]? =some x){m n:Int}(h:decide (n<=m)=true):szL f (l.drop j) m n=szL f (l.drop (j+1)) m (IntKind.i64.wrap (n+f x (IntKind.i64.wrap (m - n)))):=by
 have hj:j<l.length:=by
  rcases A6P j l.length with h'|h'
  ·exact h'
  ·rw[A6X h'] at hx;cases hx
 have:l[j]=x:=by simpa[hj] using hx
 rw[List.drop_eq_getElem_cons hj,szL,h,this];rfl
theorem S0{f:D->Int->Int}(l:List D){m n:Int}(h:decide (n<=m)=false):szL f l m n=n:=by
 cases l with
 | nil=>rfl
 | cons x l=>rw[szL,h];rfl
open Classical in
noncomputable def EA(n:Nat):List D->Option D
 | [e,.int .i64 m]=>if isE n e then some (.int .i64 (EY n e m)) else none
 | _=>none
theorem A0s[HasG Tryz.prog]:∀n,AQ Tryz.prog 39 (EA n)
 | 0=>fun args r h=>by
  unfold EA at h
  split at h
  ·split at h
   ·rename_i h';exact h'.elim
   ·cases h
  ·cases h
 | n+1=>by
  refine AN (l:=[(39,EA n)]) (.cons (A0s n) .nil) A3R fun args r h=>?_
  unfold EA at h
  split at h
  ·rename_i e mm
   split at h
   ·rename_i he
    injection h with h;subst h
    refine⟨by simp,by simp[D.cl],fun H T=>?_⟩
    obtain⟨op,k,i,t,nl,l,who,name,m,ps,rfl,h1,h2,h3,h4,h5,h6,eL,eP⟩:=Aj he
    have h6:∀x∈ps,isE n x:=h6
    simp only[EY,uG]
    simp +contextual only[c39,mkE,eL,eP,go_sem]
    refine Ap (fun j s'=>s'.t 1= .int .i64 mm/\s'.t 2= .ptr H.length 0/\(∃a,s'.t 5= .int .i64 a/\szL (EY n) (ps.drop j) mm a=szL (EY n) ps mm 1)/\s'.t 6= .int .i64 j/\s'.H=H++[.row [.str op,.int .i64 k,.int .i64 i,.str t,aV nl l,.str who,.str name,aV m ps]]/\s'.T=T/\j<=ps.length) ps.length ⟨0,by simp[upd,Ae]⟩ (fun i s h=>h.2.2.2.2.2.2) ?_ (AR _)
    rintro j ⟨t',B,T'⟩ ⟨r1,r2,⟨a,r5,hc⟩,r6,rfl,rfl,hj⟩
    simp only at r1 r2 r5 r6
    by_cases ha:j<ps.length
    ·have d1:decide ((j:Int)<ps.length)=true:=by simpa using ha
     have hx:=h6 _ (A6A ha)
     have ex:ps[j]? =some ps[j]:=by simp[ha]
     generalize ps[j]=x at *
     have ee:=fL hx
     obtain⟨q1,q2,q3,q4⟩:=BT hx
     have px:∀r,EA n [x,.int .i64 r]=some (.int .i64 (EY n x r)):=fun r=>by simp only[EA];rw[if_pos hx]
     cases d2:decide (a<=mm) with
     | true =>
      rw[RG ex d2] at hc
      simp +contextual only[r1,r2,r5,r6,d1,d2,ex,ee,q1,q2,q3,q4,px,AJ j (by omega),go_sem]
      exact⟨⟨_,rfl,hc⟩,by omega⟩
     | false =>
      rw[S0 _ d2] at hc
      have d2':=d2
      rw[hc] at d2'
      simp +contextual only[r1,r2,r5,r6,d1,d2',hc,go_sem]
    ·have d1:decide ((j:Int)<ps.length)=false:=by simpa using ha
     have:j=ps.length:=by omega
     subst this
     rw[List.drop_length] at hc
     have hc':a=szL (EY n) ps mm 1:=hc
     simp +contextual only[r1,r2,r5,r6,d1,hc',go_sem]
   ·cases h
  ·cases h
def big(l:List UInt8):Bool:=decide ((200:Int)<l.length)
def Ev:Nat->D->Bool
 | 0,_=>false
 | n+1,e=>!(big (eop e))&& !(big (Ca e))&& !(big (BG e))&&MU [eV e] 1&&(eps e).all (Ev n)
open Classical in
noncomputable def EE(n:Nat):List D->Option D
 | [e]=>if isE n e then some (.bool (Ev n e)) else none
 | _=>none
theorem TF{v:D}(h:DI v):LX [.sl none [v],.int .i64 1]=some (.bool (MU [v] 1)):=by
 simp only[LX]
 rw[if_pos ⟨rfl,by simp[elems,D.isVs,h.1],by simp[elems]⟩]
 rfl
theorem A0M[HasG Tryz.prog]:∀n,AQ Tryz.prog 63 (EE n)
 | 0=>fun args r h=>by
  unfold EE at h
  split at h
  ·split at h
   ·rename_i h';exact h'.elim
   ·cases h
  ·cases h
 | n+1=>by
  refine AN (l:=[(111,LX),(63,EE n)]) (.cons ZN (.cons (A0M n) .nil)) A4O fun args r h=>?_
  unfold EE at h
  split at h
  ·rename_i e
   split at h
   ·rename_i he
    injection h with h;subst h
    refine⟨by simp,by simp[D.cl],fun H T=>?_⟩
    obtain⟨op,k,i,t,nl,l,who,name,m,ps,rfl,h1,h2,h3,h4,h5,h6,eL,eP⟩:=Aj he
    have h6:∀x∈ps,isE n x:=h6
    simp only[Ev,uG,CN,En,Dp,HR]
    simp only[big]
    have pf:=TF h4
    obtain⟨fb,hq⟩:∃z,MU [mkV k i t nl l] 1=z:=⟨_,rfl⟩
    simp only[hq] at pf ⊢
    clear hq
    simp only[mkV] at pf
    have pf':∀tk,LX (D.eraseL [.sl tk [.agg [.int .i64 k,.int .i64 i,.str t,aV nl l]],.int .i64 1])=some (.bool fb):=fun tk=>by simp only[D.eraseL,D.erase,Ag,eL,pf]
    cases g1:decide ((200:Int)<op.length) with
    | true=>simp +contextual only[c63,mkE,eL,eP,g1,go_sem]
    | false =>
    cases g2:decide ((200:Int)<who.length) with
    | true=>simp +contextual only[c63,mkE,eL,eP,g1,g2,go_sem]
    | false =>
    cases g3:decide ((200:Int)<name.length) with
    | true=>simp +contextual only[c63,mkE,eL,eP,g1,g2,g3,go_sem]
    | false =>
    cases fb with
    | false=>simp +contextual only[c63,mkE,eL,eP,g1,g2,g3,pf,go_sem]
    | true =>
    simp +contextual only[c63,mkE,eL,eP,g1,g2,g3,pf,go_sem]
    refine Ap (fun j s'=>s'.t 1= .ptr H.length 0/\s'.t 3= .int .i64 j/\s'.H=H++[.row [.str op,.int .i64 k,.int .i64 i,.str t,aV nl l,.str who,.str name,aV m ps]]/\AY T s'.T/\j<=ps.length/\(ps.take j).all (Ev n)=true) ps.length ⟨0,by simp[upd,Ae,QR,U8]⟩ (fun i s h=>h.2.2.2.2.1) ?_ (AR _)
    rintro j ⟨t',B,T'⟩ ⟨r1,r3,rfl,hT,hj,hc⟩
    simp only at r1 r3 hT
    by_cases ha:j<ps.length
    ·have d1:decide ((j:Int)<ps.length)=true:=by simpa using ha
     have hx:=h6 _ (A6A ha)
     have ex:ps[j]? =some ps[j]:=by simp[ha]
     have nx:=fun hp=>IR (p:=Ev n) ex hc hp
     have no:=fun hp=>Ha (p:=Ev n) ex hp
     generalize ps[j]=x at *
     have ee:=fL hx
     obtain⟨q1,q2,q3,q4⟩:=BT hx
     have px:EE n [x]=some (.bool (Ev n x)):=by simp only[EE];rw[if_pos hx]
     obtain⟨b,hq⟩:∃z,Ev n x=z:=⟨_,rfl⟩
     simp only[hq] at px nx no
     clear hq
     cases b with
     | true =>
      have nx:=nx rfl
      simp +contextual only[r1,r3,hT.t,Ad (Ext.of H _) hT,d1,ex,ee,q1,q2,q3,q4,px,AJ j (by omega),go_sem]
      exact⟨by omega,nx⟩
     | false =>
      have no:=no rfl
      simp +contextual only[r1,r3,hT.t,Ad (Ext.of H _) hT,d1,ex,ee,q1,q2,q3,q4,px,no,go_sem]
    ·have d1:decide ((j:Int)<ps.length)=false:=by simpa using ha
     have:j=ps.length:=by omega
     subst this
     rw[A6J] at hc
     simp +contextual only[r1,r3,hT.t,Ad (Ext.of H _) hT,d1,hc,go_sem]
   ·cases h
  ·cases h
def Gn(n:Nat)(e:D):Bool:=decide (EY n e 60<=60)&&Ev n e
open Classical in
noncomputable def G9(n:Nat):List D->Option D
 | [e]=>if isE n e then some (.bool (Gn n e)) else none
 | _=>none
theorem A4k[HasG Tryz.prog](n:Nat):AQ Tryz.prog 25 (G9 n):=by
 refine AN (l:=[(39,EA n),(63,EE n)]) (.cons (A0s n) (.cons (A0M n) .nil)) A4z fun args r h=>?_
 unfold G9 at h
 split at h
 ·rename_i e
  split at h
  ·rename_i he
   injection h with h;subst h
   refine⟨by simp,by simp[D.cl],fun H T=>?_⟩
   have ee:=fL he
   obtain⟨q1,q2,q3,q4⟩:=BT he
   have p1:EA n [e,.int .i64 60]=some (.int .i64 (EY n e 60)):=by simp only[EA];rw[if_pos he]
   have p2:EE n [e]=some (.bool (Ev n e)):=by simp only[EE];rw[if_pos he]
   simp only[Gn]
   simp +contextual only[c25,ee,q1,q2,q3,q4,p1,p2,go_sem]
   (all_goals ((repeat' (first|apply A6D|intro _))<;>(first|rfl|omega|(simp_all;done)|grind)))
  ·cases h
 ·cases h
end GP
namespace GP
open Go Go.Proofs
set_option maxRecDepth 100000
def mxd(f:D->Nat)(l:List D):Nat:=l.foldl (fun a x=>max a (f x)) 0
theorem O4{f:D->Nat}{l:List D}{j:Nat}{x:D}(h:l[j]? =some x):mxd f (l.take (j+1))=max (mxd f (l.take j)) (f x):=by
 rw[A63,h];simp[mxd,List.foldl_append]
theorem Oh{f:D->Nat}{b:Nat}:∀{l:List D},(∀x∈l,f x<=b)->mxd f l<=b:=by
 have key:∀(l:List D) (a:Nat),a<=b->(∀x∈l,f x<=b)->l.foldl (fun a x=>max a (f x)) a<=b:=by
  intro l
  induction l with
  | nil=>intro a h _;exact h
  | cons x l ih =>
   intro a h hx
   exact ih (max a (f x)) (by have:=hx x (by simp);omega) fun y hy=>hx y (by simp[hy])
 intro l h
 exact key l 0 (by omega) h
def dpt:Nat->D->Nat
 | 0,_=>0
 | n+1,e=>mxd (dpt n) (eps e)+1
theorem MR:∀(n:Nat) (e:D),dpt n e<=n
 | 0,_=>A6G _
 | n+1,e=>by
  simp only[dpt]
  have:=Oh (f:=dpt n) (b:=n) (l:=eps e) fun x _=>MR n x
  omega
open Classical in
noncomputable def DM(n:Nat):List D->Option D
 | [e]=>if isE n e then some (.int .i64 ((dpt n e:Nat):Int)) else none
 | _=>none
theorem XB:∀n,n<=2^40->AQ Tryz.prog 26 (DM n)
 | 0,_=>fun args r h=>by
  unfold DM at h
  split at h
  ·split at h
   ·rename_i h';exact h'.elim
   ·cases h
  ·cases h
 | n+1,hn=>by
  refine AN (l:=[(26,DM n)]) (.cons (XB n (by omega)) .nil) A3I fun args r h=>?_
  unfold DM at h
  split at h
  ·rename_i e
   split at h
   ·rename_i he
    injection h with h;subst h
    refine⟨by simp,by simp[D.cl],fun H T=>?_⟩
    obtain⟨op,k,i,t,nl,l,who,name,m,ps,rfl,h1,h2,h3,h4,h5,h6,eL,eP⟩:=Aj he
    have h6:∀x∈ps,isE n x:=h6
    simp only[dpt,uG]
    simp +contextual only[c26,mkE,eL,eP,go_sem]
    refine Ap (fun j s'=>s'.t 3= .int .i64 ((mxd (dpt n) (ps.take j):Nat):Int)/\s'.t 7=aV m ps/\s'.t 8= .int .i64 ps.length/\s'.t 9= .int .i64 j/\Ext H s'.H/\s'.T=T/\j<=ps.length) ps.length ⟨0,by simp[upd,Ae,Vq,mxd]⟩ (fun i s h=>h.2.2.2.2.2.2) ?_ (AR _)
    rintro j ⟨t',B,T'⟩ ⟨r3,r7,r8,r9,hE,rfl,hj⟩
    simp only at r3 r7 r8 r9 hE
    have hb:=Oh (f:=dpt n) (b:=n) (l:=ps.take j) fun x _=>MR n x
    by_cases ha:j<ps.length
    ·have d1:decide ((j:Int)<ps.length)=true:=by simpa using ha
     have hx:=h6 _ (A6A ha)
     have ex:ps[j]? =some ps[j]:=by simp[ha]
     have hs:=O4 (f:=dpt n) ex
     generalize ps[j]=x at *
     have ee:=fL hx
     obtain⟨q1,q2,q3,q4⟩:=BT hx
     have px:DM n [x]=some (.int .i64 ((dpt n x:Nat):Int)):=by simp only[DM];rw[if_pos hx]
     rw[hs]
     simp +contextual only[r3,r7,r8,r9,d1,ex,ee,q1,q2,q3,q4,px,AJ j (by omega),hE.ta,go_sem]
     refine⟨?_,by omega⟩
     split<;>(congr 1;omega)
    ·have d1:decide ((j:Int)<ps.length)=false:=by simpa using ha
     have:j=ps.length:=by omega
     subst this
     rw[A6J] at r3 hb
     have w:IntKind.i64.wrap (((mxd (dpt n) ps:Nat):Int)+1)=((mxd (dpt n) ps+1:Nat):Int):=by
      rw[show((mxd (dpt n) ps:Nat):Int)+1=((mxd (dpt n) ps+1:Nat):Int) by omega];exact kU _ (by omega) (by omega)
     simp +contextual only[r3,r7,r8,r9,d1,w,Ad hE (AY.refl _),go_sem]
   ·cases h
  ·cases h
theorem A0J:∀n,n<=2^40->AQ Tryz.prog 22 (DM n)
 | 0,_=>fun args r h=>by
  unfold DM at h
  split at h
  ·split at h
   ·rename_i h';exact h'.elim
   ·cases h
  ·cases h
 | n+1,hn=>by
  refine AN (l:=[(22,DM n)]) (.cons (A0J n (by omega)) .nil) A3A fun args r h=>?_
  unfold DM at h
  split at h
  ·rename_i e
   split at h
   ·rename_i he
    injection h with h;subst h
    refine⟨by simp,by simp[D.cl],fun H T=>?_⟩
    obtain⟨op,k,i,t,nl,l,who,name,m,ps,rfl,h1,h2,h3,h4,h5,h6,eL,eP⟩:=Aj he
    have h6:∀x∈ps,isE n x:=h6
    simp only[dpt,uG]
    simp +contextual only[c22,mkE,eL,eP,go_sem]
    refine Ap (fun j s'=>s'.t 1= .ptr H.length 0/\s'.t 3= .int .i64 ((mxd (dpt n) (ps.take j)+1:Nat):Int)/\s'.t 4= .int .i64 j/\s'.H=H++[.row [.str op,.int .i64 k,.int .i64 i,.str t,aV nl l,.str who,.str name,aV m ps]]/\s'.T=T/\j<=ps.length) ps.length ⟨0,by simp[upd,Ae,mxd]⟩ (fun i s h=>h.2.2.2.2.2) ?_ (AR _)
    rintro j ⟨t',B,T'⟩ ⟨r1,r3,r4,rfl,rfl,hj⟩
    simp only at r1 r3 r4
    have hb:=Oh (f:=dpt n) (b:=n) (l:=ps.take j) fun x _=>MR n x
    by_cases ha:j<ps.length
    ·have d1:decide ((j:Int)<ps.length)=true:=by simpa using ha
     have hx:=h6 _ (A6A ha)
     have ex:ps[j]? =some ps[j]:=by simp[ha]
     have hs:=O4 (f:=dpt n) ex
     generalize ps[j]=x at *
     have hd:=MR n x
     have ee:=fL hx
     obtain⟨q1,q2,q3,q4⟩:=BT hx
     have px:DM n [x]=some (.int .i64 ((dpt n x:Nat):Int)):=by simp only[DM];rw[if_pos hx]
     have w:IntKind.i64.wrap (1+((dpt n x:Nat):Int))=((dpt n x+1:Nat):Int):=by
      rw[show 1+((dpt n x:Nat):Int)=((dpt n x+1:Nat):Int) by omega];exact kU _ (by omega) (by omega)
     rw[hs]
     simp +contextual only[r1,r3,r4,d1,ex,ee,q1,q2,q3,q4,px,AJ j (by omega),w,go_sem]
     refine⟨?_,by omega⟩
     split<;>(congr 1;omega)
    ·have d1:decide ((j:Int)<ps.length)=false:=by simpa using ha
     have:j=ps.length:=by omega
     subst this
     rw[A6J] at r3 hb
     simp +contextual only[r1,r3,r4,d1,go_sem]
   ·cases h
  ·cases h
end GP
namespace GP
open Go
mutual
def D.ren(σ θ:Nat->Nat):D->D
 | .sl t xs=>.sl (t.map θ) (D.renL σ θ xs)
 | .el cs=>.el (D.renL σ θ cs)
 | .agg cs=>.agg (D.renL σ θ cs)
 | .tup cs=>.tup (D.renL σ θ cs)
 | .fn f a b=>.fn f (D.renL σ θ a) (D.renL σ θ b)
 | .ifc t d=>.ifc t (D.ren σ θ d)
 | .ptr o off=>.ptr (σ o) off
 | .mp o=>.mp (σ o)
 | .ms ag z o off n cap=>.ms ag z (σ o) off n cap
 | d=>d
def D.renL(σ θ:Nat->Nat):List D->List D
 | []=>[]
 | d::ds=>D.ren σ θ d::D.renL σ θ ds
end
section
variable {σ θ:Nat->Nat}
theorem Cd:∀(l:List D),(D.renL σ θ l).length=l.length
 | []=>by simp[D.renL]
 | d::l=>by simp[D.renL,Cd l]
theorem Dg:∀(l:List D) (i:Nat) (h:i<l.length) (h':i<(D.renL σ θ l).length),(D.renL σ θ l)[i]=(l[i]).ren σ θ
 | d::l,0,h,h'=>by simp[D.renL]
 | d::l,i+1,h,h'=>by
  simp only[D.renL,List.getElem_cons_succ]
  exact Dg l i _ _
theorem Hf(l:List D):D.renL σ θ l=l.map (D.ren σ θ):=by
 induction l with
 | nil=>simp[D.renL]
 | cons d l ih=>simp[D.renL,ih]
theorem Ly(d:D):(d.ren σ θ).one=d.one:=by cases d<;>simp[D.ren,D.one]
theorem IS(d:D):(d.ren σ θ).cells=D.renL σ θ d.cells:=by cases d<;>simp[D.ren,D.cells,D.renL]
theorem Rep.unren{c c':Cx}{n m:Nat}{e:D}{v:Value}(h:Rep c e v)(hM:∀a v,c.M a=some v->c'.M a=some v)(hbd:∀o,o<n->c.bd (σ o)=true->c'.bd o=true)(hβ:∀o,o<n->c'.β o=c.β (σ o))(hsz:∀o,o<n->c'.sz o=c.sz (σ o))
  (hm:m<=c'.T.length) (hT:∀τ,τ<m->c'.T[τ]? =c.T[θ τ]? /\c'.κ τ=c.κ (θ τ)):∀d:D,d.ren σ θ=e->d.cl n m=true->Rep c' d v:=by
 induction h with
 | bool b=>intro d he hd;cases d<;>simp[D.ren] at he;subst he;exact .bool _
 | int k n=>intro d he hd;cases d<;>simp[D.ren] at he;obtain⟨rfl,rfl⟩:=he;exact .int _ _
 | str l h=>intro d he hd;cases d<;>simp[D.ren] at he;subst he;exact .str _ h
 | nilp=>intro d he hd;cases d<;>simp[D.ren] at he;exact .nilp
 | ptr o off h =>
  intro d he hd
  cases d<;>simp[D.ren] at he
  obtain⟨rfl,rfl⟩:=he
  simp only[D.cl,decide_eq_true_eq] at hd
  rw[<- hβ _ hd];exact .ptr _ _ (hbd _ hd h)
 | ms ag z o off len cap rc h h1 h2 h3 =>
  intro d he hd
  cases d<;>simp[D.ren] at he
  obtain⟨rfl,rfl,rfl,rfl,rfl,rfl⟩:=he
  simp only[D.cl,decide_eq_true_eq] at hd
  rw[<- hβ _ hd];exact .ms _ _ _ _ _ _ rc (hbd _ hd h) h1 h2 (by rw[hsz _ hd];exact h3)
 | e0 a=>intro d he hd;cases d<;>simp[D.ren] at he;exact .e0 a
 | el cs a vs ha h1 hM' _ ih =>
  intro d he hd
  cases d<;>simp[D.ren] at he
  rename_i ds
  subst he
  simp only[D.cl] at hd
  have hl:=Cd (σ:=σ) (θ:=θ) ds
  refine .el ds a vs ha (fun x hx=>?_) (fun i hi=>hM _ _ (hM' i (by omega))) (fun i hi=>?_)
  ·have:=h1 (x.ren σ θ) (by rw[Hf];exact A6T hx)
   rwa [Ly] at this
  ·exact ih i (by omega) _ (Dg ds i hi (by omega)).symm (Br hd _ (A6A hi))
 | nils=>intro d he hd;cases d<;>simp[D.ren] at he;exact .nils
 | sl t xs a cap sz vs hlen hb hsz' h1 ha hs hM' _ htl ht ih =>
  intro d he hd
  cases d<;>simp[D.ren] at he
  rename_i t' ds
  obtain⟨rfl,rfl⟩:=he
  simp only[D.cl,A6I] at hd
  obtain⟨hτ,hd⟩:=hd
  have hl:=Cd (σ:=σ) (θ:=θ) ds
  have hmem:∀x∈ds,x.ren σ θ∈D.renL σ θ ds:=fun x hx=>by rw[Hf];exact A6T hx
  have hne:ds≠[]->D.renL σ θ ds≠[]:=fun h e=>h (by rw[<- List.length_eq_zero_iff] at e ⊢;omega)
  rw[hl]
  refine .sl t' ds a cap sz vs (by omega) (by omega) (fun x hx=>?_) (fun x hx y hy=>?_) (fun h=>ha (hne h)) (fun h=>hs (hne h)) (fun i hi j hj b hb=>hM _ _ (hM' i (by omega) j hj b hb)) (fun i hi j hj=>?_) ?_ ?_
  ·have:=hsz' _ (hmem x hx)
   rwa [IS,Cd] at this
  ·have:=h1 _ (hmem x hx) (y.ren σ θ) (by rw[IS,Hf];exact A6T hy)
   rwa [Ly] at this
  ·have e1:(D.renL σ θ ds)[i]'(by omega)=(ds[i]).ren σ θ:=Dg ds i hi (by omega)
   have e2:((D.renL σ θ ds)[i]'(by omega)).cells=D.renL σ θ (ds[i].cells):=by rw[e1,IS]
   have hj':j<(((D.renL σ θ ds)[i]'(by omega)).cells).length:=by rw[e2,Cd];exact hj
   refine ih i (by omega) j hj' _ ?_ (Nd (Br hd _ (A6A hi)) _ (A6A hj))
   rw[<- Dg (ds[i].cells) j hj (by rw[Cd];exact hj)]
   congr 1
   exact e2.symm
  ·rintro τ rfl
   simp only[decide_eq_true_eq] at hτ
   omega
  ·rintro τ rfl n' z' hn
   simp only[decide_eq_true_eq] at hτ
   obtain⟨e1,e2⟩:=hT τ hτ
   rw[e1] at hn
   rw[e2]
   have:=ht (θ τ) rfl n' z' hn
   rwa [hl] at this
 | fn f p q vp vq hp hq _ _ ih1 ih2 =>
  intro d he hd
  cases d<;>simp[D.ren] at he
  rename_i f' p' q'
  obtain⟨rfl,rfl,rfl⟩:=he
  simp only[D.cl,A6I] at hd
  have hl1:=Cd (σ:=σ) (θ:=θ) p'
  have hl2:=Cd (σ:=σ) (θ:=θ) q'
  exact .fn f' p' q' vp vq (by omega) (by omega) (fun i h h'=>ih1 i (by omega) h' _ (Dg p' i h (by omega)).symm (Br hd.1 _ (A6A h))) (fun i h h'=>ih2 i (by omega) h' _ (Dg q' i h (by omega)).symm (Br hd.2 _ (A6A h)))
 | nilf=>intro d he hd;cases d<;>simp[D.ren] at he;exact .nilf
 | mp o h =>
  intro d he hd
  cases d<;>simp[D.ren] at he
  subst he
  simp only[D.cl,decide_eq_true_eq] at hd
  rw[<- hβ _ hd];exact .mp _ (hbd _ hd h)
 | nilm=>intro d he hd;cases d<;>simp[D.ren] at he;exact .nilm
 | nili=>intro d he hd;cases d<;>simp[D.ren] at he;exact .nili
 | ifc t x v _ ih =>
  intro d he hd
  cases d<;>simp[D.ren] at he
  obtain⟨rfl,rfl⟩:=he
  exact .ifc _ _ v (ih _ rfl (by simpa only[D.cl] using hd))
 | agg cs vs hl h1 _ ih =>
  intro d he hd
  cases d<;>simp[D.ren] at he
  rename_i ds
  subst he
  simp only[D.cl] at hd
  have hl':=Cd (σ:=σ) (θ:=θ) ds
  refine .agg ds vs (by omega) (fun x hx=>?_) (fun i h h'=>ih i (by omega) h' _ (Dg ds i h (by omega)).symm (Br hd _ (A6A h)))
  have:=h1 (x.ren σ θ) (by rw[Hf];exact A6T hx)
  rwa [Ly] at this
 | tup cs vs hl _ ih =>
  intro d he hd
  cases d<;>simp[D.ren] at he
  rename_i ds
  subst he
  simp only[D.cl] at hd
  have hl':=Cd (σ:=σ) (θ:=θ) ds
  exact .tup ds vs (by omega) (fun i h h'=>ih i (by omega) h' _ (Dg ds i h (by omega)).symm (Br hd _ (A6A h)))
 | top v=>intro d he hd;cases d<;>simp[D.ren] at he;exact .top v
end
mutual
theorem OH{n m:Nat}{σ θ:Nat->Nat}(hσ:∀o,o<n->σ o=o)(hθ:∀τ,τ<m->θ τ=τ):∀(d:D),d.cl n m=true->d.ren σ θ=d
 | .sl t xs,h=>by
  simp only[D.cl,A6I] at h
  simp only[D.ren,Ee hσ hθ xs h.2]
  cases t with
  | none=>rfl
  | some τ =>
   have:=h.1
   simp only[decide_eq_true_eq] at this
   simp[hθ τ this]
 | .el cs,h=>by simp only[D.cl] at h;simp only[D.ren,Ee hσ hθ cs h]
 | .agg cs,h=>by simp only[D.cl] at h;simp only[D.ren,Ee hσ hθ cs h]
 | .tup cs,h=>by simp only[D.cl] at h;simp only[D.ren,Ee hσ hθ cs h]
 | .fn f a b,h=>by
  simp only[D.cl,A6I] at h
  simp only[D.ren,Ee hσ hθ a h.1,Ee hσ hθ b h.2]
 | .ifc t d,h=>by simp only[D.cl] at h;simp only[D.ren,OH hσ hθ d h]
 | .ptr o _,h=>by simp only[D.cl,decide_eq_true_eq] at h;simp only[D.ren,hσ o h]
 | .mp o,h=>by simp only[D.cl,decide_eq_true_eq] at h;simp only[D.ren,hσ o h]
 | .ms _ _ o _ _ _,h=>by simp only[D.cl,decide_eq_true_eq] at h;simp only[D.ren,hσ o h]
 | .e0,_| .bool _,_| .int _ _,_| .str _,_| .nilp,_| .nils,_| .nilf,_| .nilm,_| .nili,_| .top,_=>by simp[D.ren]
theorem Ee{n m:Nat}{σ θ:Nat->Nat}(hσ:∀o,o<n->σ o=o)(hθ:∀τ,τ<m->θ τ=τ):∀(l:List D),D.clL n m l=true->D.renL σ θ l=l
 | [],_=>by simp[D.renL]
 | d::l,h=>by
  simp only[D.clL,A6I] at h
  simp only[D.renL,OH hσ hθ d h.1,Ee hσ hθ l h.2]
end
theorem SW{σ θ:Nat->Nat}(l:List D)(h:D.clL 0 0 l=true):D.renL σ θ l=l:=Ee (fun _ h=>absurd h (by omega)) (fun _ h=>absurd h (by omega)) l h
def Uz(σ θ:Nat->Nat)(x y:Ob):Prop :=
 (∃cs cs',x= .row cs/\y= .row cs'/\cs'.length=cs.length/\(∀d∈cs,d.one=true)/\∀i (h:i<cs.length) (h':i<cs'.length),Crs cs'[i] ((cs[i]).ren σ θ))∨(x= .dead)∨(x= .hole/\y= .hole)
structure RenTo(H:Hp)(T:Tk)(r2:D)(H2:Hp)(T2:Tk)(r0:D)(H1:Hp)(T1:Tk)(σ θ:Nat->Nat):Prop where
 σ0:∀o,o<H.length->σ o=o
 θ0:∀τ,τ<T.length->θ τ=τ
 res:Crs r2 (r0.ren σ θ)
 ob:∀(o:Nat) x,H1[o]? =some x->∃y,H2[σ o]? =some y/\((y=x/\H[o]? =some x)∨Uz σ θ x y)
 σi:∀o o',o<H1.length->o'<H1.length->σ o=σ o'->o=o'
 θi:∀τ τ',τ<T1.length->τ'<T1.length->θ τ=θ τ'->τ=τ'
 tok:∀τ,τ<T1.length->T2[θ τ]? =T1[τ]?
 hl:H.length<=H1.length
 tl:T.length<=T1.length
def DA(H:Hp)(T:Tk)(r0:D)(H1:Hp)(T1:Tk):Bg:=fun r H' T'=>∃r2 H2,Frz r H' r2 H2/\∃σ θ,RenTo H T r2 H2 T' r0 H1 T1 σ θ
theorem BB{α:Type}{l:List α}{i:Nat}{x:α}(h:l[i]? =some x):i<l.length:=by
 rcases A6P i l.length with h'|h'
 ·exact h'
 ·rw[A6X h'] at h;cases h
section
variable {P:Program}
theorem iX.forgetG{c:Cx}{w:World}{H H1:Hp}{T T1:Tk}{Q:Bg}(hi:Inv c w H)(hT:c.T=T){r0:D}(hcl:r0.cl H1.length T1.length=true)(hC:Co H H1 T1.length)(hQ:Q r0 H1 T1){e:Ending}{w':World}
  (h:iX c w (DA H T r0 H1 T1) e w'):iX c w Q e w':=by
 have h:=iX.frz (Q:=fun r2 H2 T'=>∃σ θ,RenTo H T r2 H2 T' r0 H1 T1 σ θ) h
 obtain⟨v,rfl,r,H',T',c',⟨σ,θ,hr⟩,hrep,hinv,hle,hT',hbel⟩:=h
 obtain⟨hσ0,hθ0,hres,hob,hσi,hθi,htok,hhl,htl⟩:=hr
 let c2:Cx:={ c' with β:=fun o=>c'.β (σ o),κ:=fun τ=>c'.κ (θ τ),bd:=fun o=>c'.bd (σ o)&&decide (o<H1.length),T:=T1,sz:=fun o=>c'.sz (σ o) }
 have move:∀{d:D} {v:Value},Rep c' (d.ren σ θ) v->d.cl H1.length T1.length=true->Rep c2 d v:=fun {d v} hr hd =>
  hr.unren (n:=H1.length) (m:=T1.length) (c':=c2) (fun _ _ h=>h) (fun o ho h=>by show(c'.bd (σ o)&&decide (o<H1.length))=true;simp[h,ho]) (fun _ _=>rfl) (fun _ _=>rfl) (A6G _)
   (fun τ hτ=>⟨by show T1[τ]? =c'.T[θ τ]?;rw[hT'];exact(htok τ hτ).symm,rfl⟩) d rfl hd
 have hold:∀o,c.bd o=true->o<H.length:=fun o ho=>by
  rcases A6P o H.length with h'|h'
  ·exact h'
  ·rw[hi.free o (.inl h')] at ho;cases ho
 have live:∀{o:Nat} {x y},((y=x/\H[o]? =some x)∨Uz σ θ x y)->x.live=true->x.live=y.live/\y.live=true:=fun {o x y} h hx=>by
  rcases h with⟨rfl,_⟩|⟨cs,cs',rfl,rfl,_⟩|rfl|⟨rfl,rfl⟩
  ·exact⟨rfl,hx⟩
  ·exact⟨rfl,rfl⟩
  ·cases hx
  ·cases hx
 have tk:∀{τ:Nat} {x},T1[τ]? =some x->c'.T[θ τ]? =some x:=fun {τ x} h=>by
  rw[hT',htok τ (BB h)];exact h
 refine⟨v,rfl,r0,H1,T1,c2,hQ,move (hres _ _ hrep) hcl,?_,?_,rfl,hbel⟩
 ·refine⟨hinv.keep,hinv.low,fun o x cs h hx=>?_,?_,fun o x h hx=>?_,fun o o' x x' h h' hx hx' he=>?_,fun o es clk h=>?_,fun o m l h=>?_,
   fun τ n z h=>hinv.tok (θ τ) n z (tk h),fun τ n z o x h h1 hx=>?_,fun τ n z τ' n' z' h h' he=>hθi τ τ' (BB h) (BB h') (hinv.toks _ n z _ n' z' (tk h) (tk h') he)⟩
  ·obtain⟨y,g1,g2⟩:=hob o x h
   have hclosed:D.clL H1.length T1.length cs=true:=by
    rcases hC.2 o x cs h hx with h0|h0
    ·obtain⟨vs0,rest0,e0,fr0,q1,q2,q4,q3⟩:=(hi.row o x cs h0 hx).hold
     refine D8 fun d hd=>?_
     obtain⟨i,hi',rfl⟩:=A6S hd
     have:=(q2.rep i hi' (by rw[q2.len];exact hi')).cl (n:=H1.length) fun o ho=>Nat.lt_of_lt_of_le (hold o ho) hhl
     rw[hT] at this
     exact D.cl_mono (A6G _) htl _ this
    ·exact h0
   rcases g2 with⟨rfl,g0⟩|⟨cs0,cs',rfl,rfl,g3,g4,g5⟩|rfl|⟨rfl,rfl⟩
   ·obtain⟨vs,rest,e,fr,k1,k2,k4,k3⟩:=(hinv.row (σ o) y cs g1 hx).hold
    refine⟨vs,rest,e,fr,k1,⟨k2.len,k2.one,fun i a b=>?_⟩,k4,k3⟩
    have hcl0:(cs[i]).cl H.length T.length=true:=by
     obtain⟨vs0,rest0,e0,fr0,q1,q2,q4,q3⟩:=(hi.row o y cs g0 hx).hold
     have:=(q2.rep i a (by rw[q2.len];exact a)).cl (n:=H.length) fun o ho=>hold o ho
     rwa [hT] at this
    refine move ?_ (Br hclosed _ (A6A a))
    rw[OH (fun o ho=>hσ0 o ho) (fun τ hτ=>hθ0 τ hτ) _ hcl0]
    exact k2.rep i a b
   ·simp only[Ob.cells?,Option.some.injEq] at hx
    subst hx
    obtain⟨vs,rest,e,fr,k1,k2,k4,k3⟩:=hinv.row (σ o) _ cs' g1 rfl
    refine⟨vs,rest,e,fr,k1,⟨by rw[k2.len,g3],g4,fun i a b=>?_⟩,k4,k3⟩
    have a':i<cs'.length:=by omega
    exact move (g5 i a a' _ _ (k2.rep i a' b)) (Br hclosed _ (A6A a))
   ·cases hx
   ·cases hx
  ·intro o h
   show(c'.bd (σ o)&&decide (o<H1.length))=false
   rcases h with h|h
   ·have: ¬o<H1.length:=by omega
    simp[this]
   ·obtain⟨y,g1,g2⟩:=hob o _ h
    rcases g2 with⟨rfl,_⟩|⟨cs,cs',g3,_⟩|g3|⟨_,rfl⟩
    ·rw[hinv.free (σ o) (.inr g1)];rfl
    ·cases g3
    ·cases g3
    ·rw[hinv.free (σ o) (.inr g1)];rfl
  ·obtain⟨y,g1,g2⟩:=hob o x h
   obtain⟨q1,q2,q3,q4⟩:=hinv.own (σ o) y g1 (live g2 hx).2
   exact⟨by show(c'.bd (σ o)&&decide (o<H1.length))=true;simp[q1,BB h],q2,q3,q4⟩
  ·obtain⟨y,g1,g2⟩:=hob o x h
   obtain⟨y',g1',g2'⟩:=hob o' x' h'
   exact hσi o o' (BB h) (BB h') (hinv.apart (σ o) (σ o') y y' g1 g1' (live g2 hx).2 (live g2' hx').2 he)
  ·obtain⟨y,g1,g2⟩:=hob o _ h
   rcases g2 with⟨rfl,_⟩|⟨cs,cs',g3,_⟩|g3|⟨g3,_⟩
   ·exact hinv.map (σ o) es clk g1
   all_goals cases g3
  ·obtain⟨y,g1,g2⟩:=hob o _ h
   rcases g2 with⟨rfl,_⟩|⟨cs,cs',g3,_⟩|g3|⟨g3,_⟩
   ·exact hinv.iter (σ o) m l g1
   all_goals cases g3
  ·obtain⟨y,g1,g2⟩:=hob o x h1
   exact hinv.tokrow (θ τ) n z (σ o) y (tk h) g1 (live g2 hx).2
 ·refine⟨hle.M,fun o ho=>?_,fun o ho=>?_,by rw[hT];exact htl,fun τ h=>?_,fun τ n z h=>?_,hle.B,fun o ho=>?_⟩
  ·show(c'.bd (σ o)&&decide (o<H1.length))=true
   have:=hold o ho
   rw[hσ0 o this]
   simp[hle.bd o ho,show o<H1.length by omega]
  ·show c'.β (σ o)=c.β o
   rw[hσ0 o (hold o ho)];exact hle.β o ho
  ·rw[hT] at h
   have hlt:=BB h
   have:=hle.dead τ (by rw[hT];exact h)
   show T1[τ]? =some none
   rw[<- htok τ (by omega),hθ0 τ hlt,← hT'];exact this
  ·rw[hT] at h
   have hlt:=BB h
   have e1:T1[τ]? =c'.T[τ]?:=by rw[<- htok τ (by omega),hθ0 τ hlt,hT']
   rcases hle.tok τ n z (by rw[hT];exact h) with k|⟨n',k1,k2,k3⟩
   ·exact .inl (by show T1[τ]? =some none;rw[e1];exact k)
   ·exact .inr ⟨n',by show T1[τ]? =_;rw[e1];exact k1,k2,fun e=>by show c'.κ (θ τ)=c.κ τ;rw[hθ0 τ hlt];exact k3 e⟩
  ·show c'.sz (σ o)=c.sz o
   rw[hσ0 o (hold o ho)];exact hle.sz o ho
end
variable {P:Program} [HasG P]
abbrev FsG:=List (FuncId×(Hp->Tk->List D->Option (D×Hp×Tk)))
def Fo:FsG->Hp->Tk->FuncId->List D->Option (D×Hp×Tk)
 | [],_,_,_,_=>none
 | (g,φ)::l,H,T,f,a=>if f=g then φ H T a else Fo l H T f a
def inG:FsG->FuncId->Bool
 | [],_=>false
 | (g,_)::l,f=>decide (f=g)||inG l f
@[go_sem] theorem WJ(g:FuncId)(φ:Hp->Tk->List D->Option (D×Hp×Tk))(l:FsG)(H:Hp)(T:Tk)(f:FuncId)(a:List D):Fo ((g,φ)::l) H T f a=if f=g then φ H T a else Fo l H T f a:=id rfl
@[go_sem] theorem A2T(f:FuncId):inG [] f=false:=id rfl
@[go_sem] theorem Xz(g:FuncId)(φ:Hp->Tk->List D->Option (D×Hp×Tk))(l:FsG)(f:FuncId):inG ((g,φ)::l) f=(decide (f=g)||inG l f):=id rfl
theorem Mi:∀{l:FsG} {H:Hp} {T:Tk} {f:FuncId} {a:List D},inG l f=false->Fo l H T f a=none
 | [],_,_,_,_,_=>rfl
 | (g,φ)::l,H,T,f,a,h=>by
  simp only[inG,A6Z,decide_eq_false_iff_not] at h
  simp only[Fo]
  rw[if_neg h.1];exact Mi h.2
def E6(P:Program)[HasG P](f:FuncId)(φ:Hp->Tk->List D->Option (D×Hp×Tk)):Prop:=∀H T args r H' T',φ H T args=some (r,H',T')->∀args',D.eraseL args'=args->∀(Q:Bg),Q r H' T'->Snd P f args' H T Q
def OkG(P:Program)[HasG P](m:FsG):Prop:=∀H T f args r H' T',Fo m H T f args=some (r,H',T')->∀args',D.eraseL args'=args->∀(Q:Bg),Q r H' T'->Snd P f args' H T Q
theorem OkG.nil:OkG P []:=fun _ _ _ _ _ _ _ h=>by simp[Fo] at h
theorem OkG.cons{f:FuncId}{φ:Hp->Tk->List D->Option (D×Hp×Tk)}{m:FsG}(h:E6 P f φ)(k:OkG P m):OkG P ((f,φ)::m):=by
 intro H T g args r H' T' hr
 simp only[Fo] at hr
 split at hr
 ·rename_i e;subst e;exact h H T args r H' T' hr
 ·exact k H T g args r H' T' hr
def inU:List FuncId->FuncId->Bool
 | [],_=>false
 | g::l,f=>decide (f=g)||inU l f
@[go_sem] theorem A2M(f:FuncId):inU [] f=false:=id rfl
@[go_sem] theorem A0B(g:FuncId)(l:List FuncId)(f:FuncId):inU (g::l) f=(decide (f=g)||inU l f):=id rfl
def XG(P:Program)[HasG P](u:List FuncId)(l:Fs)(m:FsH)(e:FsE)(g:FsG):BF:=fun f a H T Q =>
 if inU u f=true then Snd P f a H T Q else match DQ l f (D.eraseL a) with
 | some r=>Q r H T
 | none=>match CE m H f (D.eraseL a) with
  | some r=>Q r H T
  | none=>match E5 e H f (D.eraseL a) with
   | some (r,H')=>Q r H' T
   | none=>match Fo g H T f (D.eraseL a) with
    | some (r,H',T')=>Q r H' T'
    | none=>False
theorem XG.X{u:List FuncId}{l:Fs}{m:FsH}{e:FsE}{g:FsG}(k:Ok P l)(k':OkH P m)(k'':OkE P e)(k3:OkG P g):∀f args H T Q Q',(∀r H T,Q r H T->Q' r H T)->XG P u l m e g f args H T Q->Snd P f args H T Q':=by
 intro f args H T Q Q' hQ h
 unfold XG at h
 split at h
 ·exact Snd.mono _ _ _ _ _ _ hQ h
 ·split at h
  ·rename_i r hr
   exact k f _ r hr args rfl H T Q' (hQ _ _ _ h)
  ·split at h
   ·rename_i r hr
    exact k' H f _ r hr args rfl T Q' (hQ _ _ _ h)
   ·split at h
    ·rename_i r H' hr
     exact k'' H f _ r H' hr args rfl T Q' (hQ _ _ _ h)
    ·split at h
     ·rename_i r H' T' hr
      exact k3 H T f _ r H' T' hr args rfl Q' (hQ _ _ _ h)
     ·exact h.elim
theorem Ty(u:List FuncId)(l:Fs)(m:FsH)(e:FsE)(g:FsG):GA (XG P u l m e g):=by
 intro f args H T Q Q' hQ h
 unfold XG at h ⊢
 split at h
 ·rename_i c;rw[if_pos c];exact Snd.mono _ _ _ _ _ _ hQ h
 ·rename_i c
  rw[if_neg c]
  split at h
  ·exact hQ _ _ _ h
  ·split at h
   ·exact hQ _ _ _ h
   ·split at h
    ·exact hQ _ _ _ h
    ·split at h
     ·exact hQ _ _ _ h
     ·exact h.elim
def orG(Q:Bg):Option (D×Hp×Tk)->Prop
 | some (r,H',T')=>Q r H' T'
 | none=>False
def orY(Q:Bg)(H:Hp)(T:Tk):Option D->Option D->Option (D×Hp)->Option (D×Hp×Tk)->Prop
 | some r,_,_,_=>Q r H T
 | none,some r,_,_=>Q r H T
 | none,none,some (r,H'),_=>Q r H' T
 | none,none,none,x=>orG Q x
@[go_sem] theorem A57(u:List FuncId)(l:Fs)(m:FsH)(e:FsE)(g:FsG)(f:FuncId)(args:List D)(H:Hp)(T:Tk)(Q:Bg):XG P u l m e g f args H T Q=if inU u f=true then Snd P f args H T Q else orY Q H T (DQ l f (D.eraseL args)) (CE m H f (D.eraseL args)) (E5 e H f (D.eraseL args)) (Fo g H T f (D.eraseL args)):=by
 unfold XG
 congr 1
 cases DQ l f (D.eraseL args) with
 | some r=>rfl
 | none =>
  cases CE m H f (D.eraseL args) with
  | some r=>rfl
  | none =>
   cases E5 e H f (D.eraseL args) with
   | some x=>rfl
   | none =>
    cases Fo g H T f (D.eraseL args) with
    | some x=>rfl
    | none=>rfl
@[go_sem] theorem A55(Q:Bg)(H:Hp)(T:Tk)(z:Option (D×Hp×Tk)):orY Q H T none none none z=orG Q z:=id rfl
@[go_sem] theorem A5Z(Q:Bg)(r:D)(H':Hp)(T':Tk):orG Q (some (r,H',T'))=Q r H' T':=id rfl
theorem BK{u:List FuncId}{l:Fs}{m:FsH}{e:FsE}{g:FsG}(hm:B0 m)(args:List D)(K:D->S->Prop)(s:S)(f:FuncId)(first cap:List D):
  bW (XG P u l m e g) args K s (.fn f first cap)=if(inU u f||inE e f||inG g f)=true then M7 (XG P u l m e g) args K s (.fn f first cap) else orK K s (DQ l f (D.eraseL (first++args++cap))) (CE m s.H f (D.eraseL (first++args++cap))):=by
 cases hu:inU u f with
 | true=>rfl
 | false =>
  cases hg:inG g f with
  | true=>simp only[A64,Bool.or_true,if_true];rfl
  | false =>
   have hx:∀a H T Q,XG P u l m e g f a H T Q=XE l m e f a H T Q:=by
    intro a H T Q;unfold XG XE;rw[hu,Mi hg];rfl
   cases he:inE e f with
   | true=>rfl
   | false =>
    rw[if_neg (by simp)]
    have:=B5 (l:=l) (e:=e) hm args K s f first cap
    rw[he,if_neg (by simp)] at this
    rw[<- this]
    simp only[bW,eq_iff_iff]
    unfold Tp
    simp only[hx]
theorem LN{u:List FuncId}{l:Fs}{m:FsH}{e:FsE}{g:FsG}{args:List D}{K:D->S->Prop}{s:S}{f:FuncId}{first cap:List D}(hu:inU u f=true){φ:List D->Option D}(h:AQ P f φ){r:D}(hr:φ (D.eraseL (first++args++cap))=some r)(k:K r s):
  M7 (XG P u l m e g) args K s (.fn f first cap):=by
 refine⟨r,fun H' T' Q _ hQ=>?_,k⟩
 unfold XG;rw[if_pos hu]
 exact h _ r hr _ rfl H' T' Q hQ
theorem W3{X:BF}(hX:∀f args H T Q Q',(∀r H T,Q r H T->Q' r H T)->X f args H T Q->Snd P f args H T Q'){f:FuncId}{n:Nat}{rs:List (Sum Nat (Nat×Bool×Nat))}{cc:C}(hf:Fn P f n rs cc){φ:Hp->Tk->List D->Option (D×Hp×Tk)}
  (h:∀H T args r H1 T1,φ H T args=some (r,H1,T1)->args.length<=n/\r.cl H1.length T1.length=true/\Co H H1 T1.length/\W X cc (Ds rs (DA H T r H1 T1)) ⟨Ae args,H,T⟩):E6 P f φ:=by
 intro H T args r H1 T1 hr args' he Q hQ
 obtain⟨h1,h2,h4,h3⟩:=h H T args r H1 T1 hr
 have hS:Snd P f args H T (DA H T r H1 T1):=Ed hf h1 (dX hX (fun _ _ h=>h) h3)
 intro c w vs kg k1 k2 k3
 have k3':Reps c args vs:=by rw[<- he];exact k3.erase
 rcases hS c w vs kg k1 k2 k3' with⟨g1,g2⟩|⟨v,w',g1,g2⟩
 ·exact .inl ⟨g1,g2.mono fun e w' k=>iX.forgetG k1 k2 h2 h4 hQ k⟩
 ·exact .inr ⟨v,w',g1,iX.forgetG k1 k2 h2 h4 hQ g2⟩
theorem Dt{H B:Hp}{T T':Tk}{xs:List D}{z τ:Nat}(hE:Ext H B)(hT:AY T T')(hx:D.clL 0 0 xs=true)(hge:T.length<=τ)(hτ:T'[τ]? =some (some (xs.length,z))):
  DA H T (.sl (some T.length) xs) H (T++[some (xs.length,z)]) (.sl (some τ) xs) B T':=by
 obtain⟨L,rfl⟩:=hE
 obtain⟨U,rfl⟩:=hT
 refine⟨_,_,.refl _ _,id,fun i=>if i=T.length then τ else i,fun _ _=>rfl,fun i hi=>?_,?_,fun o x h=>⟨x,?_,.inl ⟨rfl,h⟩⟩,fun _ _ _ _ h=>h,fun i j hi hj he=>?_,fun i hi=>?_,A6G _,by simp⟩
 ·show(if i=T.length then τ else i)=i
  rw[if_neg (by omega)]
 ·have:(D.sl (some T.length) xs).ren id (fun i=>if i=T.length then τ else i)= .sl (some τ) xs:=by
   simp only[D.ren,A6V,if_true,SW xs hx]
  rw[this];exact Crs.refl _
 ·rw[show id o=o from rfl,A6R (BB h)];exact h
 ·simp only[A6N,A6K,A69] at hi hj
  have he:(if i=T.length then τ else i)=(if j=T.length then τ else j):=he
  split at he<;>split at he<;>omega
 ·simp only[A6N,A6K,A69] at hi
  show(T++U)[if i=T.length then τ else i]? =_
  split
  ·rename_i e;subst e;rw[hτ];simp
  ·rw[A6R (by omega),A6R (by omega)]
theorem Co.refl'(H:Hp)(n:Nat):Co H H n:=⟨A6G _,fun _ _ _ h _=>.inl h⟩
end GP
namespace GP
open Go Go.Proofs
set_option maxRecDepth 100000
def inB(l:List (List UInt8))(s:List UInt8):Bool:=l.any fun x=>x==s
theorem H8(l:List (List UInt8)):D.eraseL (l.map .str)=l.map .str:=bF fun x hx=>by
 obtain⟨y,_,rfl⟩:=A7i.1 hx;rfl
def L7:List D->Option D
 | [.sl none l,.str s]=>if l.all FP=true/\l.length<=1000 then some (.bool (inB (l.map CQ) s)) else none
 | _=>none
theorem RR{l:List D}(h:l.all FP=true){i:Nat}(hi:i<l.length):l[i]? =some (.str (CQ l[i])):=by
 have:=A6B.1 h _ (A6A hi)
 rw[A6C hi]
 cases hx:l[i]<;>rw[hx] at this<;>simp[FP] at this<;>rfl
theorem WE{l:List (List UInt8)}{s:List UInt8}(h:∀(i:Nat) u,l[i]? =some u->(u==s)=false):inB l s=false:=by
 refine List.any_eq_false.2 fun x hx=>?_
 obtain⟨i,hi,rfl⟩:=A6S hx
 have:=h i _ (A6C hi)
 simp[this]
theorem Tl:AQ Tryz.prog 62 L7:=by
 refine AN (l:=[]) .nil A4Y fun args r h=>?_
 unfold L7 at h
 split at h
 ·rename_i l s
  split at h
  ·rename_i hc
   obtain⟨hs,hl⟩:=hc
   injection h with h;subst h
   refine⟨by simp,by simp[D.cl],fun H T=>?_⟩
   simp +contextual only[c62,go_sem]
   refine Ap (fun j s'=>s'.t 0= .sl none l/\s'.t 1= .str s/\s'.t 5= .int .i64 j/\s'.H=H/\s'.T=T/\j<=l.length/\∀i u,i<j->(l.map CQ)[i]? =some u->(u==s)=false) l.length ⟨0,by simp[upd,Ae]⟩ (fun i s h=>h.2.2.2.2.2.1) ?_ (AR _)
   rintro j ⟨t,B,T'⟩ ⟨r0,r1,r5,rfl,rfl,hj,hN⟩
   simp only at r0 r1 r5
   by_cases ha:j<l.length
   ·have d1:decide ((j:Int)<l.length)=true:=by simpa using ha
    have ex:=RR hs ha
    obtain⟨u,hu⟩:∃u,CQ l[j]=u:=⟨_,rfl⟩
    rw[hu] at ex
    have em:(l.map CQ)[j]? =some u:=by rw[A6W,ex];rfl
    rcases tf (u==s) with g|g
    ·have:inB (l.map CQ) s=true:=A7j.2 ⟨u,A7c em,g⟩
     simp +contextual only[r0,r1,r5,d1,ex,g,this,go_sem]
    ·simp +contextual only[r0,r1,r5,d1,ex,g,AJ j (by omega),go_sem]
     refine⟨by omega,fun i v hi hv=>?_⟩
     rcases A6P i j with h'|h'
     ·exact hN i v h' hv
     ·have:i=j:=by omega
      subst this
      rw[em] at hv;injection hv with hv;subst hv;exact g
   ·have d1:decide ((j:Int)<l.length)=false:=by simpa using ha
    have:inB (l.map CQ) s=false:=WE fun i u hu=>hN i u (by have:=BB hu;simp at this;omega) hu
    simp +contextual only[r0,r1,r5,d1,this,go_sem]
  ·cases h
 ·cases h
theorem RY(l:List (List UInt8)):(l.map D.str).map CQ=l:=by
 rw[List.map_map];exact A7l (fun _=>rfl) l
theorem Ng{l:List (List UInt8)}(h:l.length<=1000)(s:List UInt8):L7 [.sl none (l.map .str),.str s]=some (.bool (inB l s)):=by
 simp only[L7]
 rw[if_pos ⟨A6B.2 fun x hx=>by obtain⟨y,_,rfl⟩:=A7i.1 hx;rfl,by simpa using h⟩,RY]
def Ac(k:Int):List D->Option D
 | [.str s]=>some (mkT k s 0)
 | _=>none
theorem Q8:AQ Tryz.prog 59 (Ac 1):=by
 refine AN (l:=[]) .nil A4t fun args r h=>?_
 unfold Ac at h
 split at h
 ·injection h with h;subst h
  refine⟨by simp,by simp[mkT,D.cl,D.clL],fun H T=>?_⟩
  simp +contextual only[c59,mkT,go_sem]
 ·cases h
theorem Q4:AQ Tryz.prog 60 (Ac 5):=by
 refine AN (l:=[]) .nil A5p fun args r h=>?_
 unfold Ac at h
 split at h
 ·injection h with h;subst h
  refine⟨by simp,by simp[mkT,D.cl,D.clL],fun H T=>?_⟩
  simp +contextual only[c60,mkT,go_sem]
 ·cases h
def JD:List D->Option D
 | [.str s]=>some (.bool (inB Dm s))
 | _=>none
theorem YT:AQ Tryz.prog 55 JD:=by
 refine AN (l:=[(62,L7)]) (.cons Tl .nil) A5m fun args r h=>?_
 unfold JD at h
 split at h
 ·rename_i s
  injection h with h;subst h
  refine⟨by simp,by simp[D.cl],fun H T=>?_⟩
  have p:=Ng (l:=Dm) (by decide) s
  simp only[Dm,A6Q,A6Y] at p ⊢
  simp +contextual only[c55,p,go_sem]
 ·cases h
def C6(s:List UInt8):Bool:=Ab 1 s 0&& !inB DH s
def LD:List D->Option D
 | [.str s]=>if s.length<=2^60 then some (.bool (C6 s)) else none
 | _=>none
theorem Yx:AQ Tryz.prog 56 LD:=by
 refine AN (l:=[(62,L7),(57,BU),(16,Ec)]) (.cons Tl (.cons RN (.cons A4P .nil))) A4G fun args r h=>?_
 unfold LD at h
 split at h
 ·rename_i s
  split at h
  ·rename_i hs
   injection h with h;subst h
   refine⟨by simp,by simp[D.cl],fun H T=>?_⟩
   have p1:=Ng (l:=DH) (by decide) s
   have p2:BU [.agg [.int .i64 1,.str s,.int .i64 0]]=some (.bool (Ab 1 s 0)):=by simp only[BU];rw[if_pos hs]
   have p3:Ec []=some (.sl none (DH.map .str)):=rfl
   have e1:=H8 DH
   unfold C6
   obtain⟨ks,hk⟩:∃ks,DH.map D.str=ks:=⟨_,rfl⟩
   rw[hk] at p1 p3 e1
   rcases tf (Ab 1 s 0) with g|g
   ·rw[g] at p2
    simp +contextual only[c56,p1,p2,p3,e1,g,go_sem]
   ·rw[g] at p2
    simp +contextual only[c56,p1,p2,p3,e1,g,go_sem]
  ·cases h
 ·cases h
def DY:List (List (List UInt8)):=[[wOr],[K2],He,[[43],[45]],[[42]]]
def vU:List (List UInt8):=[[118,97,108,117,101],[110,111,119],[97,116,116,114],[104,97,115],[114,111,108,101],[115,105,122,101]]
def stI(op:List UInt8):Int :=
 if inB [wOr] op then 0 else if inB [K2] op then 1 else if inB He op then 3 else if inB [[43],[45]] op then 4 else if inB [[42]] op then 5 else if op==EF then 2 else if op==KU then 6 else if inB vU op then 7 else -1
def Et:List D:=DY.map fun w=>.sl none (w.map .str)
def JZ:List D->Option D
 | []=>some (.sl none Et)
 | _=>none
theorem A0n:AQ Tryz.prog 106 JZ:=by
 refine AN (l:=[]) .nil A1T fun args r h=>?_
 unfold JZ at h
 split at h
 ·injection h with h;subst h
  refine⟨by simp,by decide,fun H T=>?_⟩
  simp +contextual only[XX,go_sem]
  first|rfl|simp only[Et,DY,wOr,K2,He,A6Q,A6Y,D.erase,D.eraseL]
 ·cases h
def JT:List D->Option D
 | [.str op]=>some (.int .i64 (stI op))
 | _=>none
def stN(j:Nat):Int:=[(0:Int),1,3,4,5].getD j 0
theorem MF:D.eraseL Et=Et:=by
 simp only[Et,DY,A6Q,A6Y,D.eraseL,D.erase,H8]
theorem WN{op:List UInt8}{j:Nat}{w:List (List UInt8)}(h:DY[j]? =some w)(hN:∀i v,i<j->DY[i]? =some v->inB v op=false)(g:inB w op=true):stI op=stN j:=by
 match j,h with
 | 0,h=>injection h with h;subst h;simp only[stI,g,if_true];rfl
 | 1,h =>
  injection h with h;subst h
  have n0:=hN 0 _ (by omega) rfl
  simp only[stI,g,n0,if_true,A6H,if_false];rfl
 | 2,h =>
  injection h with h;subst h
  have n0:=hN 0 _ (by omega) rfl
  have n1:=hN 1 _ (by omega) rfl
  simp only[stI,g,n0,n1,if_true,A6H,if_false];rfl
 | 3,h =>
  injection h with h;subst h
  have n0:=hN 0 _ (by omega) rfl
  have n1:=hN 1 _ (by omega) rfl
  have n2:=hN 2 _ (by omega) rfl
  simp only[stI,g,n0,n1,n2,if_true,A6H,if_false];rfl
 | 4,h =>
  injection h with h;subst h
  have n0:=hN 0 _ (by omega) rfl
  have n1:=hN 1 _ (by omega) rfl
  have n2:=hN 2 _ (by omega) rfl
  have n3:=hN 3 _ (by omega) rfl
  simp only[stI,g,n0,n1,n2,n3,if_true,A6H,if_false];rfl
 | j+5,h=>exact absurd h (by simp[DY])
theorem VW:AQ Tryz.prog 52 JT:=by
 refine AN (l:=[(106,JZ),(62,L7)]) (.cons A0n (.cons Tl .nil)) A3B fun args r h=>?_
 unfold JT at h
 split at h
 ·rename_i op
  injection h with h;subst h
  refine⟨by simp,by simp[D.cl],fun H T=>?_⟩
  obtain⟨sv,hsv⟩:∃z,stI op=z:=⟨_,rfl⟩
  rw[hsv]
  have p1:JZ []=some (.sl none Et):=rfl
  have pe:=MF
  have plen:Et.length=5:=rfl
  have pin:∀(j:Nat) w,DY[j]? =some w->L7 [.sl none (w.map .str),.str op]=some (.bool (inB w op)):=fun j w h=>Ng (by
   have:∀w∈DY,w.length<=1000:=by decide
   exact this w (A7c h)) op
  have pget:∀(j:Nat) w,DY[j]? =some w->Et[j]? =some (.sl none (w.map .str)):=fun j w h=>by simp only[Et,A6W,h,A6V]
  obtain⟨PD,hPD⟩:∃z,Et=z:=⟨_,rfl⟩
  rw[hPD] at p1 pe plen
  simp only[hPD] at pget
  clear hPD
  simp +contextual only[c52,p1,pe,plen,go_sem]
  refine Ap (fun j s'=>s'.t 0= .str op/\s'.t 3= .sl none PD/\s'.t 4= .int .i64 j/\s'.H=H/\s'.T=T/\j<=5/\∀i v,i<j->DY[i]? =some v->inB v op=false) 5 ⟨0,by simp[upd,Ae]⟩ (fun i s h=>h.2.2.2.2.2.1) ?_ (AR _)
  rintro j ⟨t,B,T'⟩ ⟨r0,r3,r4,rfl,rfl,hj,hN⟩
  simp only at r0 r3 r4
  by_cases ha:j<5
  ·have d1:decide ((j:Int)<5)=true:=by simp only[decide_eq_true_eq];omega
   obtain⟨w,hw⟩:∃w,DY[j]? =some w:=⟨DY[j]'(by simpa[DY] using ha),A6C _⟩
   have ex:=pget j w hw
   have px:=pin j w hw
   have ew:=H8 w
   have at':=fun g=>WN hw hN g
   have hix:ixa false 1 5 (.agg [.int .i64 0,.int .i64 1,.int .i64 3,.int .i64 4,.int .i64 5]) (.int .i64 (j:Nat))=some (.int .i64 (stN j)):=by
    match j,ha with
    | 0,_=>rfl
    | 1,_=>rfl
    | 2,_=>rfl
    | 3,_=>rfl
    | 4,_=>rfl
   obtain⟨WD,hWD⟩:∃z,w.map D.str=z:=⟨_,rfl⟩
   rw[hWD] at ex px ew
   rcases tf (inB w op) with g|g
   ·rw[g] at px
    have e1:=hsv.symm.trans (at' g)
    simp +contextual only[r0,r3,r4,d1,plen,ex,px,ew,hix,e1,go_sem]
   ·rw[g] at px
    simp +contextual only[r0,r3,r4,d1,plen,ex,px,ew,AJ j (by omega),go_sem]
    refine⟨by omega,fun i v hi hv=>?_⟩
    rcases A6P i j with h'|h'
    ·exact hN i v h' hv
    ·have:i=j:=by omega
     subst this
     rw[hw] at hv;injection hv with hv;subst hv;exact g
  ·have d1:decide ((j:Int)<5)=false:=by simp only[decide_eq_false_iff_not];omega
   have n0:=hN 0 _ (by omega) rfl
   have n1:=hN 1 _ (by omega) rfl
   have n2:=hN 2 _ (by omega) rfl
   have n3:=hN 3 _ (by omega) rfl
   have n4:=hN 4 _ (by omega) rfl
   have px:=Ng (l:=vU) (by decide) op
   have e1:stI op=if op==EF then 2 else if op==KU then 6 else if inB vU op then 7 else -1:=by
    simp only[stI,n0,n1,n2,n3,n4,A6H,if_false]
   replace e1:=hsv.symm.trans e1
   simp only[vU,EF,KU,A6Q,A6Y] at px e1
   obtain⟨pb,hpb⟩:∃z,inB [[118,97,108,117,101],[110,111,119],[97,116,116,114],[104,97,115],[114,111,108,101],[115,105,122,101]] op=z:=⟨_,rfl⟩
   simp only[hpb] at px e1
   subst e1
   simp +contextual only[r0,r3,r4,d1,plen,px,go_sem]
   (all_goals ((repeat' (first|apply A6D|intro _))<;>(first|rfl|omega|(simp_all;done)|grind)))
 ·cases h
end GP
namespace GP
open Go
variable {X:BF} {Q:Ex->S->Prop}
def C.hd:Nat->C->C
 | 0,_=>.skip
 | n+1,.seq a b=>.seq a (b.hd n)
 | _+1,c=>c
def C.tl:Nat->C->C
 | 0,c=>c
 | n+1,.seq _ b=>b.tl n
 | _+1,_=>.skip
theorem CU:EH (W X .skip Q) Q=Q:=by
 funext e s
 cases e<;>simp[EH,W]
theorem J6:∀(n:Nat) (c:C) (Q:Ex->S->Prop) (s:S),W X c Q s=W X (c.hd n) (EH (W X (c.tl n) Q) Q) s
 | 0,c,Q,s=>by simp only[C.hd,C.tl,W,EH]
 | n+1,.seq a b,Q,s=>by
  simp only[C.hd,C.tl,W]
  congr 1
  funext e s'
  cases e with
  | normal=>simp only[EH];exact J6 n b Q s'
  | exit i=>rfl
  | ret=>rfl
 | n+1,.skip,Q,s=>by simp only[C.hd,C.tl,CU]
 | n+1,.reg is,Q,s=>by simp only[C.hd,C.tl,CU]
 | n+1,.draw na is,Q,s=>by simp only[C.hd,C.tl,CU]
 | n+1,.cond c a b,Q,s=>by simp only[C.hd,C.tl,CU]
 | n+1,.block i c,Q,s=>by simp only[C.hd,C.tl,CU]
 | n+1,.loop c,Q,s=>by simp only[C.hd,C.tl,CU]
 | n+1,.exit i,Q,s=>by simp only[C.hd,C.tl,CU]
 | n+1,.ret,Q,s=>by simp only[C.hd,C.tl,CU]
 | n+1,.stop,Q,s=>by simp only[C.hd,C.tl,CU]
@[go_sem] theorem A6f(c:C):C.hd 0 c= .skip:=id rfl
@[go_sem] theorem A6q(n:Nat)(a b:C):C.hd (n+1) (.seq a b)= .seq a (b.hd n):=id rfl
@[go_sem] theorem A6g(c:C):C.tl 0 c=c:=id rfl
@[go_sem] theorem A6j(n:Nat)(a b:C):C.tl (n+1) (.seq a b)=b.tl n:=id rfl
end GP
namespace GP
open Go Go.Proofs
set_option maxRecDepth 100000
def D0(v:D)(b:Bool):Bool:=if vk v==2 then decide (0<=vi v)||(b&&decide (-9223372036854775808<vi v)) else(vk v==1)||(vk v==4)||((vk v==3)&&Ab 3 (vs v) 0)
def Gx:List D->Option D
 | [v,.bool b]=>if v.isV=true then some (.bool (D0 v b)) else none
 | _=>none
theorem Yh:AQ Tryz.prog 108 Gx:=by
 refine AN (l:=[(57,BU)]) (.cons RN .nil) A0K fun args r h=>?_
 unfold Gx at h
 split at h
 ·rename_i v b
  split at h
  ·rename_i hv
   injection h with h;subst h
   refine⟨by simp,by simp[D.cl],fun H T=>?_⟩
   obtain⟨k,i,s,nl,l,rfl,z,y,hV⟩:=d9 hv
   have eL:=l9 hV
   have p2:BU [.agg [.int .i64 3,.str s,.int .i64 0]]=some (.bool (Ab 3 s 0)):=by simp only[BU];rw[if_pos (by omega)]
   simp only[D0,CK,Cl,Cj]
   obtain⟨fb,hfb⟩:∃z,Ab 3 s 0=z:=⟨_,rfl⟩
   rw[hfb] at p2 ⊢
   rcases tf (k==2) with g2|g2
   ·rw[if_pos g2]
    rcases tf (decide (0<=i)) with g3|g3
    ·simp +contextual only[NU,mkV,eL,g2,g3,go_sem]
    ·cases b
     ·simp +contextual only[NU,mkV,eL,g2,g3,go_sem]
     ·simp +contextual only[NU,mkV,eL,g2,g3,go_sem]
   ·rw[if_neg (by rw[g2];decide)]
    rcases tf (k==1) with g1|g1
    ·simp +contextual only[NU,mkV,eL,g2,g1,go_sem]
    ·rcases tf (k==4) with g4|g4
     ·simp +contextual only[NU,mkV,eL,g2,g1,g4,go_sem]
     ·rcases tf (k==3) with g3|g3
      ·simp +contextual only[NU,mkV,eL,g2,g1,g4,g3,p2,go_sem]
      ·simp +contextual only[NU,mkV,eL,g2,g1,g4,g3,go_sem]
  ·cases h
 ·cases h
def EQ(v:D):Bool:=if !bS v then false else if vk v !=5 then D0 v false else(vl v).all (fun x=>D0 x true)&&decide (0<(vl v).length)
def HK:List D->Option D
 | [v]=>if v.isV=true then some (.bool (EQ v)) else none
 | _=>none
theorem A3Y:AQ Tryz.prog 53 HK:=by
 refine AN (l:=[(107,Dr),(108,Gx)]) (.cons V8 (.cons Yh .nil)) A5E fun args r h=>?_
 unfold HK at h
 split at h
 ·rename_i v
  split at h
  ·rename_i hv
   injection h with h;subst h
   refine⟨by simp,by simp[D.cl],fun H T=>?_⟩
   have p1:Dr [v]=some (.bool (bS v)):=by simp only[Dr];rw[if_pos hv]
   have p2:Gx [v,.bool false]=some (.bool (D0 v false)):=by simp only[Gx];rw[if_pos hv]
   unfold EQ
   obtain⟨fb,hfb⟩:∃z,bS v=z:=⟨_,rfl⟩
   obtain⟨lb,hlb⟩:∃z,D0 v false=z:=⟨_,rfl⟩
   rw[hfb] at p1 ⊢
   rw[hlb] at p2 ⊢
   obtain⟨k,i,s,nl,l,rfl,z,y,hV⟩:=d9 hv
   have eL:=l9 hV
   simp only[CK,C3]
   simp only[mkV] at p1 p2
   cases fb with
   | false=>simp +contextual only[c53,mkV,eL,p1,go_sem]
   | true =>
   rcases tf (k !=5) with g5|g5
   ·simp +contextual only[c53,mkV,eL,p1,p2,g5,go_sem]
   ·simp +contextual only[c53,mkV,eL,p1,g5,go_sem]
    refine Ap (fun j s'=>s'.t 1= .ptr H.length 0/\s'.t 3= .int .i64 j/\s'.H=H++[.row [.int .i64 k,.int .i64 i,.str s,aV nl l]]/\s'.T=T/\j<=l.length/\(l.take j).all (fun x=>D0 x true)=true) l.length ⟨0,by simp[upd,Ae]⟩ (fun i s h=>h.2.2.2.2.1) ?_ (AR _)
    rintro j ⟨t',B,T'⟩ ⟨r1,r3,rfl,rfl,hj,hc⟩
    simp only at r1 r3
    by_cases ha:j<l.length
    ·have d1:decide ((j:Int)<l.length)=true:=by simpa using ha
     have ex:l[j]? =some l[j]:=by simp[ha]
     have nx:=fun hp=>IR (p:=fun x=>D0 x true) ex hc hp
     have no:=fun hp=>Ha (p:=fun x=>D0 x true) ex hp
     have hxV:=hV _ (A6A ha)
     obtain⟨x,hx⟩:∃x,l[j]=x:=⟨_,rfl⟩
     rw[hx] at ex nx no hxV
     have px:Gx [x,.bool true]=some (.bool (D0 x true)):=by simp only[Gx];rw[if_pos hxV]
     obtain⟨xb,hxb⟩:∃z,D0 x true=z:=⟨_,rfl⟩
     simp only[hxb] at px nx no
     clear hxb hx
     obtain⟨k',i',s',nl',l',rfl,_,_,hV'⟩:=d9 hxV
     have eL':=l9 hV'
     simp only[mkV] at ex px
     cases xb with
     | true =>
      have nx:=nx rfl
      simp +contextual only[r1,r3,d1,ex,px,eL',AJ j (by omega),go_sem]
      exact⟨by omega,nx⟩
     | false =>
      have no:=no rfl
      simp +contextual only[r1,r3,d1,ex,px,eL',no,go_sem]
    ·have d1:decide ((j:Int)<l.length)=false:=by simpa using ha
     have:j=l.length:=by omega
     subst this
     rw[A6J] at hc
     have dd:decide ((0:Int)<l.length)=decide (0<l.length):=by rw[decide_eq_decide];omega
     simp +contextual only[r1,r3,d1,hc,dd,go_sem]
  ·cases h
 ·cases h
def arN(op:List UInt8):Int:=if(stI op==0)||(stI op==1)||(decide (3<=stI op)&&decide (stI op<=5)) then 2 else if(stI op==2)||(stI op==6)||(op==Be) then 1 else 0
def Ek(e:D):Bool :=
 if eop e==Bq then EQ (eV e)&&(Ca e==[])&&(BG e==[]) else
 if !Bt (eV e) Bn then false else
 if(eop e==Bh)||(eop e==CB) then inB Dm (Ca e)&&C6 (BG e) else
 if eop e==BN then(Ca e==[])&&Ab 3 (BG e) 0 else(Ca e==[])&&(BG e==[])
def fmR:Nat->D->Bool
 | 0,_=>false
 | n+1,e=>if decide (stI (eop e)<0)||(((eps e).length:Int) !=arN (eop e)) then false else if !(eps e).all (fmR n) then false else Ek e
open Classical in
noncomputable def Fr(n:Nat):List D->Option D
 | [e]=>if isE n e then some (.bool (fmR n e)) else none
 | _=>none
theorem sE(op:List UInt8):stI op=0∨stI op=1∨stI op=3∨stI op=4∨stI op=5∨stI op=2∨stI op=6∨stI op=7∨stI op= -1:=by
 unfold stI;(repeat' split)<;>simp
theorem xX{op:List UInt8}:(stI op=0->arN op=2)/\(stI op=1->arN op=2)/\(stI op=3->arN op=2)/\(stI op=4->arN op=2)/\(stI op=5->arN op=2)/\(stI op=2->arN op=1)/\(stI op=6->arN op=1)/\(stI op=7->arN op=if op==Be then 1 else 0):=by
 refine⟨?_,?_,?_,?_,?_,?_,?_,?_⟩<;>intro h<;>simp only[arN,h]<;>first|rfl|(cases op==Be<;>rfl)
theorem PZ{a b:D}(ha:a.isV=true)(hb:b.isV=true):FM [a,b]=some (.bool (Bt a b)):=by simp only[FM];rw[if_pos ⟨ha,hb⟩]
theorem Q5:Bn.isV=true:=by decide
theorem A0T:∀n,AQ Tryz.prog 21 (Fr n)
 | 0=>fun args r h=>by
  unfold Fr at h
  split at h
  ·split at h
   ·rename_i h';exact h'.elim
   ·cases h
  ·cases h
 | n+1=>by
  refine AN (l:=[(52,JT),(21,Fr n),(53,HK),(54,FM),(55,JD),(56,LD),(57,BU)]) (.cons VW (.cons (A0T n) (.cons A3Y (.cons A1h (.cons YT (.cons Yx (.cons RN .nil))))))) A4l fun args r h=>?_
  unfold Fr at h
  split at h
  ·rename_i e
   split at h
   ·rename_i he
    injection h with h;subst h
    refine⟨by simp,by simp[D.cl],fun H T=>?_⟩
    obtain⟨op,k,i,t,nl,l,who,name,m,ps,rfl,h1,h2,h3,h4,h5,h6,eL,eP⟩:=Aj he
    have h6:∀x∈ps,isE n x:=h6
    simp only[fmR,Ek,uG,CN,En,Dp,HR]
    have pS:JT [.str op]=some (.int .i64 (stI op)):=rfl
    have pv:HK [mkV k i t nl l]=some (.bool (EQ (mkV k i t nl l))):=by simp only[HK];rw[if_pos h4.1]
    have pz:FM [mkV k i t nl l,Bn]=some (.bool (Bt (mkV k i t nl l) Bn)):=PZ h4.1 Q5
    have pw:JD [.str who]=some (.bool (inB Dm who)):=rfl
    have pn:LD [.str name]=some (.bool (C6 name)):=by simp only[LD];rw[if_pos (by omega)]
    have pf:BU [.agg [.int .i64 3,.str name,.int .i64 0]]=some (.bool (Ab 3 name 0)):=by simp only[BU];rw[if_pos (by omega)]
    obtain⟨vb,hvb⟩:∃z,EQ (mkV k i t nl l)=z:=⟨_,rfl⟩
    obtain⟨zb,hzb⟩:∃z,Bt (mkV k i t nl l) Bn=z:=⟨_,rfl⟩
    obtain⟨wb,hwb⟩:∃z,inB Dm who=z:=⟨_,rfl⟩
    obtain⟨nb,hnb⟩:∃z,C6 name=z:=⟨_,rfl⟩
    obtain⟨fb,hfb⟩:∃z,Ab 3 name 0=z:=⟨_,rfl⟩
    simp only[hvb,hzb,hwb,hnb,hfb] at pv pz pw pn pf ⊢
    clear hvb hzb hwb hnb hfb
    simp only[mkV,Bn] at pv pz
    obtain⟨ar,har⟩:∃z,arN op=z:=⟨_,rfl⟩
    have hA:=xX (op:=op)
    rw[har] at hA ⊢
    obtain⟨sv,hsv⟩:∃z,stI op=z:=⟨_,rfl⟩
    have noS:sv≠7->(op==Be)=false:=fun h=>by
     cases hx:op==Be with
     | false=>rfl
     | true =>
      have:op=Be:=by simpa using hx
      subst this;exact absurd (hsv.symm.trans (by decide)) h
    have cs:=sE op
    simp only[hsv] at pS hA cs ⊢
    rw[J6 5]
    obtain⟨tl,htl⟩:∃z,C.tl 5 c21=z:=⟨_,rfl⟩
    rw[htl]
    obtain⟨Q,hQ⟩:∃Q,Ds [.inl 2] (CL (.bool (if(decide (sv<0)||((ps.length:Int) !=ar))=true then false else if(!ps.all (fmR n))=true then false else if(op==Bq)=true then vb&&(who==[])&&(name==[]) else if(!zb)=true then false else if((op==Bh)||(op==CB))=true then wb&&nb else if(op==BN)=true then(who==[])&&fb else(who==[])&&(name==[]))) H T)=Q:=⟨_,rfl⟩
    rw[hQ]
    have rest:∀t',t' 1= .ptr H.length 0->t' 3= .int .i64 sv->t' 4= .int .i64 ar →
      W (XL [(52,JT),(21,Fr n),(53,HK),(54,FM),(55,JD),(56,LD),(57,BU)]) tl Q ⟨t',H++[.row [.str op,.int .i64 k,.int .i64 i,.str t,aV nl l,.str who,.str name,aV m ps]],T⟩:=by
     rw[<- hQ]
     intro t' r1 r3 r4
     subst htl
     rcases tf (decide (sv<0)) with gn|gn
     ·rw[gn]
      simp +contextual only[c21,r1,r3,r4,gn,go_sem]
     rcases tf ((ps.length:Int) !=ar) with gl|gl
     ·rw[gn,gl]
      simp +contextual only[c21,r1,r3,r4,gn,gl,go_sem]
     rw[gn,gl]
     simp +contextual only[c21,r1,r3,r4,gn,gl,go_sem]
     refine Ap (fun j s'=>s'.t 1= .ptr H.length 0/\s'.t 5= .int .i64 j/\s'.H=H++[.row [.str op,.int .i64 k,.int .i64 i,.str t,aV nl l,.str who,.str name,aV m ps]]/\s'.T=T/\j<=ps.length/\(ps.take j).all (fmR n)=true) ps.length ⟨0,by simp[upd,r1]⟩ (fun i s h=>h.2.2.2.2.1) ?_ (AR _)
     clear r1 r3 r4 gn gl
     rintro j ⟨t',B,T'⟩ ⟨r1,r5,rfl,rfl,hj,hc⟩
     simp only at r1 r5
     by_cases ha:j<ps.length
     ·have d1:decide ((j:Int)<ps.length)=true:=by simpa using ha
      have hx:=h6 _ (A6A ha)
      have ex:ps[j]? =some ps[j]:=by simp[ha]
      have nx:=fun hp=>IR (p:=fmR n) ex hc hp
      have no:=fun hp=>Ha (p:=fmR n) ex hp
      generalize ps[j]=x at *
      have ee:=fL hx
      obtain⟨q1,q2,q3,q4⟩:=BT hx
      have px:Fr n [x]=some (.bool (fmR n x)):=by simp only[Fr];rw[if_pos hx]
      obtain⟨b,hq⟩:∃z,fmR n x=z:=⟨_,rfl⟩
      simp only[hq] at px nx no
      clear hq
      cases b with
      | true =>
       have nx:=nx rfl
       simp +contextual only[r1,r5,d1,ex,ee,q1,q2,q3,q4,px,AJ j (by omega),go_sem]
       exact⟨by omega,nx⟩
      | false =>
       have no:=no rfl
       simp +contextual only[r1,r5,d1,ex,ee,q1,q2,q3,q4,px,no,go_sem]
     ·have d1:decide ((j:Int)<ps.length)=false:=by simpa using ha
      have:j=ps.length:=by omega
      subst this
      rw[A6J] at hc
      simp only[Bq,Bh,CB,BN]
      rcases tf (op==[118,97,108,117,101]) with g1|g1
      ·cases vb
       ·simp +contextual only[r1,r5,d1,hc,g1,pv,eL,go_sem]
       ·simp +contextual only[r1,r5,d1,hc,g1,pv,eL,go_sem]
        (all_goals ((repeat' (first|apply A6D|intro _))<;>(first|rfl|omega|(simp_all;done)|grind)))
      cases zb
      ·simp +contextual only[r1,r5,d1,hc,g1,pz,eL,go_sem]
      rcases tf (op==[97,116,116,114]) with g2|g2
      ·cases wb
       ·simp +contextual only[r1,r5,d1,hc,g1,g2,pz,eL,pw,pn,go_sem]
       ·simp +contextual only[r1,r5,d1,hc,g1,g2,pz,eL,pw,pn,go_sem]
      rcases tf (op==[104,97,115]) with g3|g3
      ·cases wb
       ·simp +contextual only[r1,r5,d1,hc,g1,g2,g3,pz,eL,pw,pn,go_sem]
       ·simp +contextual only[r1,r5,d1,hc,g1,g2,g3,pz,eL,pw,pn,go_sem]
      rcases tf (op==[114,111,108,101]) with g4|g4
      ·simp +contextual only[r1,r5,d1,hc,g1,g2,g3,g4,pz,eL,pf,go_sem]
       (all_goals ((repeat' (first|apply A6D|intro _))<;>(first|rfl|omega|(simp_all;done)|grind)))
      ·simp +contextual only[r1,r5,d1,hc,g1,g2,g3,g4,pz,eL,go_sem]
       (all_goals ((repeat' (first|apply A6D|intro _))<;>(first|rfl|omega|(simp_all;done)|grind)))
    have cc:∀s:List UInt8,(op==Be)=(op==[115,105,122,101]):=fun _=>rfl
    rw[cc []] at noS hA
    rcases cs with g|g|g|g|g|g|g|g|g
    all_goals subst g
    ·have e1:=hA.1 rfl
     subst e1
     have e2:=noS (by decide)
     simp +contextual only[c21,mkE,eL,eP,pS,e2,go_sem]
     refine rest _ ?_ ?_ ?_<;>rfl
    ·have e1:=hA.2.1 rfl
     subst e1
     have e2:=noS (by decide)
     simp +contextual only[c21,mkE,eL,eP,pS,e2,go_sem]
     refine rest _ ?_ ?_ ?_<;>rfl
    ·have e1:=hA.2.2.1 rfl
     subst e1
     have e2:=noS (by decide)
     simp +contextual only[c21,mkE,eL,eP,pS,e2,go_sem]
     refine rest _ ?_ ?_ ?_<;>rfl
    ·have e1:=hA.2.2.2.1 rfl
     subst e1
     have e2:=noS (by decide)
     simp +contextual only[c21,mkE,eL,eP,pS,e2,go_sem]
     refine rest _ ?_ ?_ ?_<;>rfl
    ·have e1:=hA.2.2.2.2.1 rfl
     subst e1
     have e2:=noS (by decide)
     simp +contextual only[c21,mkE,eL,eP,pS,e2,go_sem]
     refine rest _ ?_ ?_ ?_<;>rfl
    ·have e1:=hA.2.2.2.2.2.1 rfl
     subst e1
     simp +contextual only[c21,mkE,eL,eP,pS,go_sem]
     refine rest _ ?_ ?_ ?_<;>rfl
    ·have e1:=hA.2.2.2.2.2.2.1 rfl
     subst e1
     simp +contextual only[c21,mkE,eL,eP,pS,go_sem]
     refine rest _ ?_ ?_ ?_<;>rfl
    ·have e1:=hA.2.2.2.2.2.2.2 rfl
     rcases tf (op==[115,105,122,101]) with e2|e2
     ·rw[e2,if_pos rfl] at e1
      subst e1
      simp +contextual only[c21,mkE,eL,eP,pS,e2,go_sem]
      refine rest _ ?_ ?_ ?_<;>rfl
     ·rw[e2,if_neg (by decide)] at e1
      subst e1
      simp +contextual only[c21,mkE,eL,eP,pS,e2,go_sem]
      refine rest _ ?_ ?_ ?_<;>rfl
    ·have e2:=noS (by decide)
     have pp:∀t',t' 1= .ptr H.length 0->t' 3= .int .i64 (-1)->W (XL [(52,JT),(21,Fr n),(53,HK),(54,FM),(55,JD),(56,LD),(57,BU)]) tl Q ⟨t',H++[.row [.str op,.int .i64 k,.int .i64 i,.str t,aV nl l,.str who,.str name,aV m ps]],T⟩:=by
      intro t' r1 r3
      rw[<- hQ]
      subst htl
      simp +contextual only[c21,r1,r3,go_sem]
     simp +contextual only[c21,mkE,eL,eP,pS,e2,go_sem]
     refine pp _ ?_ ?_<;>rfl
   ·cases h
  ·cases h
end GP
namespace GP
open Go Go.Proofs
open Rd O
set_option maxRecDepth 100000
def c24:C :=
 (Rg (Rq 2 [Qo 0] [I1 4 (.mv KN)])
 (Rg ([If 10 0 2,Il 11 10,Ip 12 52 [(t 11)],Im 5 12])
 (.seq (Rg ([If 13 0 2,Il 14 13])
 (.block 0
 (Rg ([I1 16 (.bin .eql (t 14) (Ks ([118,97,108,117,101]))),Im 15 16])
 (.cond (t 15)
 (Rg ([If 17 1 2,Ia 18 4 17,Ic 19 58 [(t 18)],Im 4 19])
 .ret)
 (Rg ([I1 21 (.bin .eql (t 14) (Ks ([110,111,119]))),Im 20 21])
 (.cond (t 20)
 (Rg (Rq 22 [Qg 59 [(Ks ([110,111,119]))],.bsl 3 [t 22]] [Im 4 23])
 .ret)
 (Rg ([I1 25 (.bin .eql (t 14) (Ks ([97,116,116,114]))),Im 24 25])
 (.cond (t 24)
 (.seq (.draw 0 [(If 26 5 2,[]),(Il 27 26,[]),(Ip 28 59 [(t 27)],[]),(Ip 29 60 [(Ks ([46]))],[]),(If 30 6 2,[]),(Il 31 30,[]),(Ip 32 59 [(t 31)],[]),(I1 33 (.bsl 3 [(t 28),(t 29),(t 32)]),[]),(Im 4 33,[])])
 .ret)
 (Rg ([I1 35 (.bin .eql (t 14) (Ks ([104,97,115]))),Im 34 35])
 (.cond (t 34)
 (.seq (.draw 0 [(Ip 36 59 [(Ks ([104,97,115]))],[]),(Ip 37 60 [(Ks ([40]))],[]),(If 38 5 2,[]),(Il 39 38,[]),(Ip 40 59 [(t 39)],[]),(Ip 41 60 [(Ks ([46]))],[]),(If 42 6 2,[]),(Il 43 42,[]),(Ip 44 59 [(t 43)],[]),(Ip 45 60 [(Ks ([41]))],[]),(I1 46 (.bsl 3 [(t 36),(t 37),(t 40),(t 41),(t 44),(t 45)]),[]),(Im 4 46,[])])
 .ret)
 (Rg ([I1 48 (.bin .eql (t 14) (Ks ([114,111,108,101]))),Im 47 48])
 (.cond (t 47)
 (.seq (.draw 0 [(Ip 49 59 [(Ks ([114,111,108,101]))],[]),(Ip 50 60 [(Ks ([40]))],[]),(If 51 6 2,[]),(Il 52 51,[]),(I1 53 (.build [(.int .i64 0),(.str []),(.int .i64 0)] [(0,1,(Ki 3)),(1,1,(t 52))]),[]),(Ip 54 60 [(Ks ([41]))],[]),(I1 55 (.bsl 3 [(t 49),(t 50),(t 53),(t 54)]),[]),(Im 4 55,[])])
 .ret)
 (Rg ([I1 57 (.bin .eql (t 14) (Ks ([115,105,122,101]))),Im 56 57])
 (.cond (t 56)
 (Rg (Rq 58 [Qg 59 [(Ks ([115,105,122,101]))],Qg 60 [(Ks ([40]))],.bsl 3 [t 58,t 59]] [Im 6 60])
 (Rg (Rq 61 [Qa 6,Qc 7 2,Qd 62,.iaddr 8 (t 63) (Ki 0),Qe 8 64,Qa 1,Qf 24 [t 65,t 66],.app false 3 32 (t 61) (t 67)] [Im 6 68])
 (Rg (Rq 69 [Qa 6,Qg 60 [(Ks ([41]))],.bsl 3 [t 70],.app false 3 32 (t 69) (t 71)] [Im 4 72])
 .ret)))
 (Rg ([I1 74 (.bin .eql (t 14) (Ks ([110,111,116]))),Im 73 74])
 (.cond (t 73)
 (.seq (.draw 0 [(Ip 75 59 [(Ks ([110,111,116]))],[]),(If 77 7 2,[]),(Il 78 77,[]),(I1 79 (.iaddr 8 (t 78) (Ki 0)),[]),(Ia 80 8 79,[]),(Im 81 1,[]),(Ip 82 61 [(t 80),(Ki 2),(t 81)],[]),(I1 76 (.bsl 3 [(t 75)]),[]),(I1 83 (.app false 3 32 (t 76) (t 82)),[]),(Im 4 83,[])])
 .ret)
 (Rg ([I1 85 (.bin .eql (t 14) (Ks ([110,101,103]))),Im 84 85])
 (.cond (t 84)
 (.seq (.draw 0 [(Ip 86 60 [(Ks ([45]))],[]),(If 88 7 2,[]),(Il 89 88,[]),(I1 90 (.iaddr 8 (t 89) (Ki 0)),[]),(Ia 91 8 90,[]),(Im 92 1,[]),(Ip 93 61 [(t 91),(Ki 6),(t 92)],[]),(I1 87 (.bsl 3 [(t 86)]),[]),(I1 94 (.app false 3 32 (t 87) (t 93)),[]),(Im 4 94,[])])
 .ret)
 .skip))))))))))))))))))
 (Rg ([Im 95 5,Im 7 95])
 (.seq (Rg (Rq 96 [Qa 5,Qj .eql 96 3] [])
 (.cond (t 97)
 (.reg (Rq 7 [Qk 4] []))
 .skip))
 (Rg (Rq 98 [Qc 7 2,Qd 98,.iaddr 8 (t 99) (Ki 0),Qe 8 100,Qa 7,Qa 1,Qf 61 [t 101,t 102,t 103]] [Im 8 104])
 (Rg (Rq 105 [Qc 0 2,Qd 105,Qg 60 [t 106]] [I1 9 (.alloc [(.int .i64 0),(.str []),(.int .i64 0)]),Is 3 9 107])
 (.seq (Rg (Rq 108 [.bsl 1 [(Ks ([111,114])),(Ks ([97,110,100])),(Ks ([105,110]))],Qc 0 2,Qd 109,Qg 62 [t 108,t 110]] [])
 (.cond (t 111)
 (.reg (Rq 112 [Qc 0 2,Qd 112,Qg 59 [t 113]] [Is 3 9 114]))
 .skip))
 (Rg (Rq 115 [Qa 8,Qe 3 9,.bsl 3 [t 116],.app false 3 32 (t 115) (t 117)] [Im 8 118])
 (Rg (Rq 119 [Qa 8,Qc 7 2,Qd 120,.iaddr 8 (t 121) (Ki 1),Qe 8 122,Qa 5,Qj .add 124 1,Qa 1,Qf 61 [t 123,t 125,t 126],.app false 3 32 (t 119) (t 127)] [Im 4 128])
 .ret))))))))))
theorem A5u:Fn Tryz.prog 24 129 [.inl 4] c24:=AP Tryz.func24 Tryz.ntmps24 Hq2
def c58:C :=
 (Rg (Rq 1 [Qo 0,.mv KN] [])
 (.seq (Rg ([If 5 0 1,Il 6 5])
 (.block 0
 (Rg (Rq 8 [Qj .eql 6 1] [Im 7 8])
 (.cond (t 7)
 (.seq (Rg (Rq 9 [Qc 1 1,Qd 9,Qj .eql 10 1] [])
 (.cond (t 11)
 (Rg (Rq 12 [Qg 59 [(Ks ([116,114,117,101]))],.bsl 3 [t 12]] [Im 2 13])
 .ret)
 .skip))
 (Rg (Rq 14 [Qg 59 [(Ks ([102,97,108,115,101]))],.bsl 3 [t 14]] [Im 2 15])
 .ret))
 (Rg (Rq 17 [Qj .eql 6 2] [Im 16 17])
 (.cond (t 16)
 (.seq (Rg (Rq 18 [Qc 1 1,Qd 18,Qj .lss 19 0] [])
 (.cond (t 20)
 (.seq (.draw 0 [(Ip 21 60 [(Ks ([45]))],[]),(If 22 1 1,[]),(Il 23 22,[]),(I1 24 (.un .neg (t 23)),[]),(I1 25 (.build [(.int .i64 0),(.str []),(.int .i64 0)] [(0,1,(Ki 2)),(2,1,(t 24))]),[]),(I1 26 (.bsl 3 [(t 21),(t 25)]),[]),(Im 2 26,[])])
 .ret)
 .skip))
 (Rg (Rq 27 [Qc 1 1,Qd 27,.build [(.int .i64 0),(.str []),(.int .i64 0)] [(0,1,(Ki 2)),(2,1,(t 28))],.bsl 3 [t 29]] [Im 2 30])
 .ret))
 (Rg (Rq 32 [Qj .eql 6 3] [Im 31 32])
 (.cond (t 31)
 (Rg (Rq 33 [Qc 2 1,Qd 33,.build [(.int .i64 0),(.str []),(.int .i64 0)] [(0,1,(Ki 3)),(1,1,(t 34))],.bsl 3 [t 35]] [Im 2 36])
 .ret)
 (Rg (Rq 38 [Qj .eql 6 4] [Im 37 38])
 (.cond (t 37)
 (Rg (Rq 39 [Qc 1 1,Qd 39,.build [(.int .i64 0),(.str []),(.int .i64 0)] [(0,1,(Ki 4)),(2,1,(t 40))],.bsl 3 [t 41]] [Im 2 42])
 .ret)
 .skip))))))))))
 (Rg (Rq 43 [Qg 60 [(Ks ([91]))],.bsl 3 [t 43]] [Im 3 44])
 (.seq (Rg (Rq 4 [Qk 0] [])
 (.block 1
 (.loop
 (.seq (Rg (Rq 45 [Qa 4,Qc 3 1,Qd 46,Qi 47,Qb .lss 45 48] [])
 (.cond (t 49)
 .skip
 (.exit 1)))
 (.seq (.block 2
 (.seq (Rg (Rq 52 [Qa 4,Qj .gtr 52 0] [])
 (.cond (t 53)
 (.reg (Rq 54 [Qa 3,Qg 60 [(Ks ([44]))],.bsl 3 [t 55],.app false 3 32 (t 54) (t 56)] [Im 3 57]))
 .skip))
 (.reg (Rq 58 [Qa 3,Qc 3 1,Qd 59,Qa 4,Qn 4 60 61,Qe 4 62,Qf 58 [t 63],.app false 3 32 (t 58) (t 64)] [Im 3 65]))))
 (.reg (Rq 50 [Qa 4,Qj .add 50 1] [Im 4 51])))))))
 (Rg (Rq 66 [Qa 3,Qg 60 [(Ks ([93]))],.bsl 3 [t 67],.app false 3 32 (t 66) (t 68)] [Im 2 69])
 .ret)))))
theorem A11:Fn Tryz.prog 58 70 [.inl 2] c58:=AP Tryz.func58 Tryz.ntmps58 Hq2
def c61:C :=
 (Rg (Rq 3 [Qo 0] [I1 6 (.mv KN)])
 (Rg (Rq 10 [Qe 8 3,Qa 2,Qf 24 [t 10,t 11]] [Im 7 12])
 (Rg ([If 13 0 3,Il 14 13,Ip 15 52 [(t 14)],Im 8 15])
 (.seq (Rg (Rq 16 [Qa 8,Qa 1,Qb .geq 16 17,Qa 18] (Rv 20 19 [Qa 2,Qp 20,Qa 21] (Rz 23 22 [Qa 8,Qj .eql 23 7] (Rv 25 19 [Ql 22 24] (Rq 26 [Qm 19 25] [])))))
 (.cond (t 26)
 (Rg ([Im 27 7,Im 6 27])
 .ret)
 .skip))
 (Rg (Rq 28 [Qg 60 [(Ks ([40]))],.bsl 3 [t 28]] [Im 9 29])
 (Rg (Rq 30 [Qa 9,Qa 7,.app false 3 32 (t 30) (t 31)] [Im 9 32])
 (Rg (Rq 33 [Qa 9,Qg 60 [(Ks ([41]))],.bsl 3 [t 34],.app false 3 32 (t 33) (t 35)] [Im 6 36])
 .ret)))))))
theorem A5n:Fn Tryz.prog 61 37 [.inl 6] c61:=AP Tryz.func61 Tryz.ntmps61 Hq2
end GP
namespace GP
open Go Go.Proofs
set_option maxRecDepth 100000
section
variable {P:Program} [HasG P]
def BW(z:Nat)(f:List D->Option (List D)):Hp->Tk->List D->Option (D×Hp×Tk):=fun H T a=>match f a with
 | some xs=>some (.sl (some T.length) xs,H,T++[some (xs.length,z)])
 | none=>none
theorem Hi{X:BF}(hX:∀f args H T Q Q',(∀r H T,Q r H T->Q' r H T)->X f args H T Q->Snd P f args H T Q'){f:FuncId}{n:Nat}{rs:List (Sum Nat (Nat×Bool×Nat))}{cc:C}(hf:Fn P f n rs cc){z:Nat}{φ:List D->Option (List D)}
  (h:∀args xs,φ args=some xs->args.length<=n/\D.clL 0 0 xs=true/\∀H T,W X cc (Ds rs (DA H T (.sl (some T.length) xs) H (T++[some (xs.length,z)]))) ⟨Ae args,H,T⟩):E6 P f (BW z φ):=by
 refine W3 hX hf fun H T args r H1 T1 hr=>?_
 unfold BW at hr
 split at hr
 ·rename_i xs hx
  injection hr with hr;injection hr with h1 hr;injection hr with h2 h3
  subst h1;subst h2;subst h3
  obtain⟨k1,k2,k3⟩:=h args xs hx
  refine⟨k1,?_,Co.refl' _ _,k3 H T⟩
  simp only[D.cl,A6I,decide_eq_true_eq]
  exact⟨by simp,D.clL_mono (A66 _) (A66 _) xs k2⟩
 ·cases hr
end
def tC:D:=mkT 5 [44] 0
def Al(v:D):List D :=
 if vk v==1 then(if vi v==1 then [mkT 1 CY 0] else [mkT 1 yC 0]) else
 if vk v==2 then(if decide (vi v<0) then [mkT 5 [45] 0,mkT 2 [] (IntKind.i64.wrap (0 - vi v))] else [mkT 2 [] (vi v)]) else
 if vk v==3 then [mkT 3 (vs v) 0] else [mkT 4 [] (vi v)]
def Cw(v:D):Bool:=(vk v==1)||(vk v==2)||(vk v==3)||(vk v==4)
def cmL(f:D->List D)(l:List D):List D:=((l.map fun x=>tC::f x).flatten).drop 1
theorem Rj{f:D->List D}{l:List D}{j:Nat}{x:D}(h:l[j]? =some x):cmL f (l.take (j+1))=cmL f (l.take j)++(if 0<j then [tC] else [])++f x:=by
 have hj:=BB h
 simp only[cmL]
 rw[A63,h]
 simp only[Option.toList_some,List.map_append,A6Q,A6Y,List.flatten_append,A7f,List.flatten_nil,A7a]
 cases j with
 | zero=>simp
 | succ j =>
  rw[if_pos (by omega),List.drop_append_of_le_length,List.append_assoc]
  ·rfl
  ·cases l with
   | nil=>simp at hj
   | cons a l=>simp
theorem xT{f:D->List D}{b:Nat}(l:List D)(h:∀x∈l,(f x).length<=b):(cmL f l).length<=(b+1)*l.length:=by
 have key:∀l:List D,(∀x∈l,(f x).length<=b)->((l.map fun x=>tC::f x).flatten).length<=(b+1)*l.length:=by
  intro l
  induction l with
  | nil=>intro _;simp
  | cons x l ih =>
   intro h
   have h1:=h x (by simp)
   have h2:=ih fun y hy=>h y (by simp[hy])
   simp only[A6Q,A7f,A6N,A6K] at h2 ⊢
   rw[Nat.mul_add];omega
 have:=key l h
 simp only[cmL,List.length_drop];omega
theorem nO(v:D):(Al v).length<=2:=by unfold Al;(repeat' split)<;>simp
def D9(v:D):List D:=if Cw v then Al v else mkT 5 [91] 0::(cmL Al (vl v)++[mkT 5 [93] 0])
theorem EK(v:D):∀x∈Al v,∃k s n,x=mkT k s n:=by
 intro x hx
 unfold Al at hx
 (repeat' split at hx)<;>simp only[A67,A7k,or_false] at hx<;>first|exact⟨_,_,_,hx⟩|(rcases hx with hx|hx<;>exact⟨_,_,_,hx⟩)
theorem JX{f:D->List D}{l:List D}{x:D}(h:x∈cmL f l):x=tC∨∃y∈l,x∈f y:=by
 have h:=List.mem_of_mem_drop h
 simp only[List.mem_flatten,A7i] at h
 obtain⟨_,⟨y,hy,rfl⟩,hx⟩:=h
 rcases A67.1 hx with rfl|hx
 ·exact .inl rfl
 ·exact .inr ⟨y,hy,hx⟩
theorem Kn(v:D):∀x∈D9 v,∃k s n,x=mkT k s n:=by
 intro x hx
 unfold D9 at hx
 split at hx
 ·exact EK v x hx
 ·simp only[A67,A60,A7k,or_false] at hx
  rcases hx with rfl|hx|rfl
  ·exact⟨_,_,_,rfl⟩
  ·rcases JX hx with rfl|⟨y,_,hy⟩
   ·exact⟨_,_,_,rfl⟩
   ·exact EK y x hy
  ·exact⟨_,_,_,rfl⟩
def AI(l:List D):Prop:=∀x∈l,∃k s n,x=mkT k s n
theorem AI.fit{l:List D}(h:AI l):l.all (fit 3)=true:=A6B.2 fun x hx=>by
 obtain⟨k,s,n,rfl⟩:=h x hx;rfl
theorem AI.cl{l:List D}(h:AI l)(i j:Nat):D.clL i j l=true:=D8 fun x hx=>by
 obtain⟨k,s,n,rfl⟩:=h x hx;simp[mkT,D.cl,D.clL]
theorem AI.erase{l:List D}(h:AI l):D.eraseL l=l:=bF fun x hx=>by
 obtain⟨k,s,n,rfl⟩:=h x hx;simp[mkT,D.erase,D.eraseL]
theorem AI.app{l m:List D}(h:AI l)(k:AI m):AI (l++m):=fun x hx=>by
 rcases A60.1 hx with h'|h'
 ·exact h x h'
 ·exact k x h'
theorem AI.cons{l:List D}(k:Int)(s:List UInt8)(n:Int)(h:AI l):AI (mkT k s n::l):=fun x hx=>by
 rcases A67.1 hx with rfl|h'
 ·exact⟨_,_,_,rfl⟩
 ·exact h x h'
theorem AI.nil:AI []:=fun _ h=>by cases h
def HD:List D->Option (List D)
 | [v]=>if v.isV=true/\Cw v=true then some (Al v) else none
 | _=>none
theorem VH:E6 Tryz.prog 58 (BW 3 HD):=by
 refine Hi (X:=XG Tryz.prog [] [(59,Ac 1),(60,Ac 5)] [] [] []) (XG.X (.cons Q8 (.cons Q4 .nil)) .nil .nil .nil) A11 fun args xs h=>?_
 have hM:B0 []:=.nil
 unfold HD at h
 split at h
 ·rename_i v
  split at h
  ·rename_i hc
   obtain⟨hv,hl⟩:=hc
   injection h with h;subst h
   refine⟨by simp,AI.cl (EK v) _ _,fun H T=>?_⟩
   obtain⟨k,i,s,nl,l,rfl,z,y,hV⟩:=d9 hv
   have eL:=l9 hV
   simp only[Cw,Al,CK,Cl,Cj] at hl ⊢
   have fin:∀(ys:List D) (B:Hp),AI ys->Ext H B->DA H T (.sl (some T.length) ys) H (T++[some (ys.length,3)]) (.sl (some T.length) ys) B (T++[some (ys.length,3)]):=fun ys B hy hB =>
    Dt hB (AY.of _ _) (hy.cl _ _) (A6G _) (by simp)
   rcases tf (k==1) with g1|g1
   ·rw[if_pos g1]
    rcases tf (i==1) with g|g
    ·rw[if_pos g]
     simp +contextual only[c58,mkV,eL,g1,g,Ac,BK hM,mkT,CY,go_sem]
     exact fin [_] _ (AI.cons _ _ _ .nil) (Ext.of _ _)
    ·rw[if_neg (by rw[g];decide)]
     simp +contextual only[c58,mkV,eL,g1,g,Ac,BK hM,mkT,yC,go_sem]
     exact fin [_] _ (AI.cons _ _ _ .nil) (Ext.of _ _)
   rw[if_neg (by rw[g1];decide)]
   rcases tf (k==2) with g2|g2
   ·rw[if_pos g2]
    rcases tf (decide (i<0)) with g|g
    ·rw[if_pos g]
     simp +contextual only[c58,mkV,eL,g1,g2,g,Ac,BK hM,mkT,go_sem]
     exact fin [_,_] _ (AI.cons _ _ _ (AI.cons _ _ _ .nil)) (Ext.of _ _)
    ·rw[if_neg (by rw[g];decide)]
     simp +contextual only[c58,mkV,eL,g1,g2,g,Ac,BK hM,mkT,go_sem]
     exact fin [_] _ (AI.cons _ _ _ .nil) (Ext.of _ _)
   rw[if_neg (by rw[g2];decide)]
   rcases tf (k==3) with g3|g3
   ·rw[if_pos g3]
    simp +contextual only[c58,mkV,eL,g1,g2,g3,Ac,BK hM,mkT,go_sem]
    exact fin [_] _ (AI.cons _ _ _ .nil) (Ext.of _ _)
   rw[if_neg (by rw[g3];decide)]
   have g4:(k==4)=true:=by rw[g1,g2,g3] at hl;simpa using hl
   simp +contextual only[c58,mkV,eL,g1,g2,g3,g4,Ac,BK hM,mkT,go_sem]
   exact fin [_] _ (AI.cons _ _ _ .nil) (Ext.of _ _)
  ·cases h
 ·cases h
def FT:List D->Option (List D)
 | [v]=>if v.isV=true/\(Cw v=true∨(vl v).all Cw=true/\(vl v).length<=2^20) then some (D9 v) else none
 | _=>none
theorem A4i:E6 Tryz.prog 58 (BW 3 FT):=by
 classical
 intro H0 T0 args0 r0 H1 T1 h0
 by_cases hlf:∃v,args0=[v]/\Cw v=true
 ·obtain⟨v,rfl,hl⟩:=hlf
  refine VH H0 T0 [v] r0 H1 T1 ?_
  unfold BW at h0 ⊢
  have:HD [v]=FT [v]:=by
   simp only[HD,FT,hl,and_true,true_or]
   rw[show D9 v=Al v by unfold D9;rw[if_pos hl]]
  rw[this];exact h0
 revert H0 T0 args0 r0 H1 T1
 classical
 have main:E6 Tryz.prog 58 (BW 3 fun a=>if ∃v,a=[v]/\Cw v=true then none else FT a):=by
  refine Hi (X:=XG Tryz.prog [] [(59,Ac 1),(60,Ac 5)] [] [] [(58,BW 3 HD)]) (XG.X (.cons Q8 (.cons Q4 .nil)) .nil .nil (.cons VH .nil)) A11 fun args xs h=>?_
  have hM:B0 []:=.nil
  split at h
  ·cases h
  rename_i hnl
  unfold FT at h
  split at h
  ·rename_i v
   split at h
   ·rename_i hc
    obtain⟨hv,hl⟩:=hc
    injection h with h;subst h
    refine⟨by simp,AI.cl (Kn v) _ _,fun H T=>?_⟩
    have hleaf:Cw v=false:=by
     cases hx:Cw v with
     | false=>rfl
     | true=>exact absurd ⟨v,rfl,hx⟩ hnl
    rw[hleaf] at hl
    simp only[A6H,false_or] at hl
    obtain⟨hl,hlen⟩:=hl
    have hLT:D9 v=mkT 5 [91] 0::(cmL Al (vl v)++[mkT 5 [93] 0]):=by unfold D9;rw[hleaf];rfl
    rw[hLT]
    obtain⟨k,i,s,nl,l,rfl,z,y,hV⟩:=d9 hv
    have eL:=l9 hV
    simp only[Cw,CK,A6Z] at hleaf
    simp only[C3] at hl hlen ⊢
    obtain⟨⟨⟨g1,g2⟩,g3⟩,g4⟩:=hleaf
    simp +contextual only[c58,mkV,eL,g1,g2,g3,g4,Ac,BK hM,mkT,go_sem]
    refine Ap (fun j s'=>s'.t 1= .ptr H.length 0/\s'.t 3= .sl (some T.length) (mkT 5 [91] 0::cmL Al (l.take j))/\s'.t 4= .int .i64 j/\s'.H=H++[.row [.int .i64 k,.int .i64 i,.str s,aV nl l]]/\(∃L,s'.T=T++some ((cmL Al (l.take j)).length+1,3)::L)/\j<=l.length) l.length
     ⟨0,by simp[upd,Ae],by simp[upd,Ae,cmL,mkT],by simp[upd],rfl,⟨[],by simp[cmL]⟩,by omega⟩ (fun i s h=>h.2.2.2.2.2) ?_ (Ty _ _ _ _ _)
    rintro j ⟨t',B,T'⟩ ⟨r1,r3,r4,rfl,⟨L,rfl⟩,hj⟩
    simp only at r1 r3 r4
    have hcl:=xT (f:=Al) (b:=2) (l.take j) fun x _=>nO x
    rw[List.length_take] at hcl
    have htk:AI (mkT 5 [91] 0::cmL Al (l.take j)):=AI.cons _ _ _ fun x hx=>by
     rcases JX hx with rfl|⟨y,_,hy⟩
     ·exact⟨_,_,_,rfl⟩
     ·exact EK y x hy
    obtain⟨O,hO⟩:∃O,cmL Al (l.take j)=O:=⟨_,rfl⟩
    rw[hO] at r3 hcl htk
    have hfO:O.all (fit 3)=true:=AI.fit fun x hx=>htk x (by simp[hx])
    by_cases ha:j<l.length
    ·have d1:decide ((j:Int)<l.length)=true:=by simpa using ha
     have ex:l[j]? =some l[j]:=by simp[ha]
     have hst:=Rj (f:=Al) ex
     have hxV:=hV _ (A6A ha)
     have hxl:=A6B.1 hl _ (A6A ha)
     obtain⟨x,hx⟩:∃x,l[j]=x:=⟨_,rfl⟩
     rw[hx] at ex hst hxV hxl
     have px:∀H T,BW 3 HD H T [x]=some (.sl (some T.length) (Al x),H,T++[some ((Al x).length,3)]):=fun H T=>by
      simp only[BW,HD];rw[if_pos ⟨hxV,hxl⟩]
     have hfx:=AI.fit (EK x)
     have hx2:=nO x
     have htx:=EK x
     obtain⟨Y,hY⟩:∃Y,Al x=Y:=⟨_,rfl⟩
     rw[hY] at px hst hfx hx2 htx
     clear hx
     obtain⟨k',i',s',nl',l',rfl,_,_,hV'⟩:=d9 hxV
     have eL':=l9 hV'
     simp only[mkV] at ex px
     rw[hst]
     rcases tf (decide ((0:Int)<j)) with g|g
     ·have gj:0<j:=by simpa using g
      rw[hO,if_pos gj]
      simp +contextual only[r1,r3,r4,d1,ex,px,eL',g,Ac,BK hM,mkT,AJ j (by omega),Bo,BZ,hfx,go_sem]
      exact⟨by omega,by omega,hfO,rfl,by omega,by omega,by rw[A7b,hfO];rfl,rfl,⟨L++[some (1,3)]++[some (Y.length,3)],by simp;omega⟩,by omega⟩
     ·have gj: ¬0<j:=by simpa using g
      rw[hO,if_neg gj]
      simp +contextual only[r1,r3,r4,d1,ex,px,eL',g,Ac,BK hM,mkT,AJ j (by omega),Bo,BZ,hfx,go_sem]
      exact⟨by omega,by omega,hfO,⟨L++[some (Y.length,3)],by simp;omega⟩,by omega⟩
    ·have d1:decide ((j:Int)<l.length)=false:=by simpa using ha
     have:j=l.length:=by omega
     subst this
     rw[A6J] at hO
     rw[hO]
     simp +contextual only[r1,r3,r4,d1,Ac,BK hM,mkT,Bo,BZ,go_sem]
     refine⟨by rw[A6J,hO],by omega,by omega,hfO,?_⟩
     have:=Dt (H:=H) (T:=T) (z:=3) (τ:=T.length) (xs:=mkT 5 [91] 0::(O++[mkT 5 [93] 0])) (T':=T++(some (O.length+1+1,3)::(L++[some (1,3)]))) (Ext.of H [.row [.int .i64 k,.int .i64 i,.str s,aV nl l]]) (AY.of _ _) (AI.cl (AI.cons _ _ _ (AI.app (fun x hx=>htk x (by simp[hx])) (AI.cons _ _ _ .nil))) _ _) (A6G _) (by simp)
     simpa[mkT] using this
   ·cases h
  ·cases h
 intro H0 T0 args0 r0 H1 T1 h0 hlf
 refine main H0 T0 args0 r0 H1 T1 ?_
 unfold BW at h0 ⊢
 simp only[hlf,if_false];exact h0
end GP
namespace GP
open Go Go.Proofs
set_option maxRecDepth 100000
section
variable {P:Program} [HasG P]
theorem E6.pure{z:Nat}{f:FuncId}{φ:List D->Option (List D)}(h:E6 P f (BW z φ))(hx:∀a xs,φ a=some xs->D.clL 0 0 xs=true/\D.eraseL xs=xs):AQ P f (fun a=>(φ a).map (.sl none)):=by
 intro args r hr args' he H T Q hQ
 change (φ args).map (.sl none)=some r at hr
 cases ha:φ args with
 | none=>rw[ha] at hr;cases hr
 | some xs =>
  rw[ha] at hr;simp only[A6V,Option.some.injEq] at hr
  subst hr
  obtain⟨h1,h2⟩:=hx args xs ha
  have hS:=h H T args (.sl (some T.length) xs) H (T++[some (xs.length,z)]) (by simp only[BW,ha]) args' he (fun r H' T'=>r.erase= .sl none xs/\(∃L,H'=H++L)/\∃U,T'=T++U) ⟨by simp only[D.erase,h2],⟨[],by simp⟩,⟨_,rfl⟩⟩
  intro c w vs kg k1 k2 k3
  have hcl:(D.sl none xs).cl H.length T.length=true:=by
   simp only[D.cl,A7d]
   exact D.clL_mono (A66 _) (A66 _) xs h1
  rcases hS c w vs kg k1 k2 k3 with⟨g1,g2⟩|⟨v,w',g1,g2⟩
  ·exact .inl ⟨g1,g2.mono fun e w' k=>iX.forget k1 k2 hcl hQ k⟩
  ·exact .inr ⟨v,w',g1,iX.forget k1 k2 hcl hQ g2⟩
end
def tP:D:=mkT 5 [40] 0
def tQ:D:=mkT 5 [41] 0
def Bl(full:Bool)(s least:Int)(l:List D):List D:=if decide (least<=s)&&(!full||(s==7)) then l else tP::(l++[tQ])
def opW:List (List UInt8):=[wOr,K2,sIn]
def Dq(op:List UInt8):D:=if inB opW op then mkT 1 op 0 else mkT 5 op 0
def Fl(op:List UInt8):Int:=if stI op==3 then 4 else stI op
def Aw(e:D):D:=(eps e).getD 0 .top
def EW(e:D):D:=(eps e).getD 1 .top
def BA:Nat->Bool->D->List D
 | 0,_,_=>[]
 | n+1,full,e =>
  if eop e==Bq then D9 (eV e) else
  if eop e==Cc then [mkT 1 Cc 0] else
  if eop e==Bh then [mkT 1 (Ca e) 0,mkT 5 [46] 0,mkT 1 (BG e) 0] else
  if eop e==CB then [mkT 1 CB 0,tP,mkT 1 (Ca e) 0,mkT 5 [46] 0,mkT 1 (BG e) 0,tQ] else
  if eop e==BN then [mkT 1 BN 0,tP,mkT 3 (BG e) 0,tQ] else
  if eop e==Be then [mkT 1 Be 0,tP]++(BA n full (Aw e)++[tQ]) else
  if eop e==Cg then mkT 1 Cg 0::Bl full (stI (eop (Aw e))) 2 (BA n full (Aw e)) else
  if eop e==EO then mkT 5 [45] 0::Bl full (stI (eop (Aw e))) 6 (BA n full (Aw e)) else
  Bl full (stI (eop (Aw e))) (Fl (eop e)) (BA n full (Aw e))++(Dq (eop e)::Bl full (stI (eop (EW e))) (stI (eop e)+1) (BA n full (EW e)))
theorem Cm{full:Bool}{s least:Int}{l:List D}(h:AI l):AI (Bl full s least l):=by
 unfold Bl
 split
 ·exact h
 ·exact AI.cons _ _ _ (h.app (AI.cons _ _ _ .nil))
theorem Tu(full:Bool)(s least:Int)(l:List D):l.length<=(Bl full s least l).length:=by
 unfold Bl;split<;>simp<;>omega
theorem Lc(op:List UInt8){l:List D}(h:AI l):AI (Dq op::l):=by
 unfold Dq;split<;>exact AI.cons _ _ _ h
theorem CP:∀(n:Nat) (full:Bool) (e:D),AI (BA n full e)
 | 0,_,_=>.nil
 | n+1,full,e=>by
  unfold BA
  split
  ·exact Kn _
  split
  ·exact AI.cons _ _ _ .nil
  split
  ·exact AI.cons _ _ _ (AI.cons _ _ _ (AI.cons _ _ _ .nil))
  split
  ·exact AI.cons _ _ _ (AI.cons _ _ _ (AI.cons _ _ _ (AI.cons _ _ _ (AI.cons _ _ _ (AI.cons _ _ _ .nil)))))
  split
  ·exact AI.cons _ _ _ (AI.cons _ _ _ (AI.cons _ _ _ (AI.cons _ _ _ .nil)))
  split
  ·exact AI.cons _ _ _ (AI.cons _ _ _ ((CP n full _).app (AI.cons _ _ _ .nil)))
  split
  ·exact AI.cons _ _ _ (Cm (CP n full _))
  split
  ·exact AI.cons _ _ _ (Cm (CP n full _))
  ·exact(Cm (CP n full _)).app (Lc _ (Cm (CP n full _)))
open Classical in
noncomputable def C1(n:Nat):List D->Option (List D)
 | [e,.bool full]=>if isE n e/\fmR n e=true/\(BA n full e).length<=2^30 then some (BA n full e) else none
 | _=>none
open Classical in
noncomputable def ES(n:Nat):List D->Option (List D)
 | [e,.int .i64 least,.bool full]=>if isE n e/\fmR n e=true/\(Bl full (stI (eop e)) least (BA n full e)).length<=2^30 then some (Bl full (stI (eop e)) least (BA n full e)) else none
 | _=>none
theorem Q3(n:Nat)(a:List D)(xs:List D)(h:ES n a=some xs):D.clL 0 0 xs=true/\D.eraseL xs=xs:=by
 unfold ES at h
 split at h
 ·split at h
  ·injection h with h;subst h
   have:=Cm (full:=‹Bool›) (s:=stI (eop ‹D›)) (least:=‹Int›) (CP n ‹Bool› ‹D›)
   exact⟨this.cl _ _,this.erase⟩
  ·cases h
 ·cases h
theorem A4m{n:Nat}(h24:E6 Tryz.prog 24 (BW 3 (C1 n))):E6 Tryz.prog 61 (BW 3 (ES n)):=by
 refine Hi (X:=XG Tryz.prog [] [(52,JT),(60,Ac 5)] [] [] [(24,BW 3 (C1 n))]) (XG.X (.cons VW (.cons Q4 .nil)) .nil .nil (.cons h24 .nil)) A5n fun args xs h=>?_
 have hM:B0 []:=.nil
 unfold ES at h
 split at h
 ·rename_i e least full
  split at h
  ·rename_i hc
   obtain⟨he,hf,hlen⟩:=hc
   injection h with h;subst h
   have hle:=Tu full (stI (eop e)) least (BA n full e)
   have htk:=CP n full e
   have hO30:(BA n full e).length<=2^30:=by omega
   refine⟨by simp,(Cm htk).cl _ _,fun H T=>?_⟩
   have px:∀H T,BW 3 (C1 n) H T [e,.bool full]=some (.sl (some T.length) (BA n full e),H,T++[some ((BA n full e).length,3)]):=fun H T=>by
    simp only[BW,C1];rw[if_pos ⟨he,hf,by omega⟩]
   have ps:JT [.str (eop e)]=some (.int .i64 (stI (eop e))):=rfl
   have ee:=fL he
   obtain⟨q1,q2,q3,q4⟩:=BT he
   obtain⟨op,k,i,t,nl,l,who,name,m,ps',rfl,h1,h2,h3,h4,h5,h6,eL,eP⟩:=Aj he
   simp only[CN] at ps hlen ⊢
   unfold Bl at hlen ⊢
   obtain⟨sv,hsv⟩:∃z,stI op=z:=⟨_,rfl⟩
   simp only[hsv] at ps hlen ⊢
   clear hsv
   have hfit:=htk.fit
   obtain⟨O,hO⟩:∃z,BA n full (mkE op k i t nl l who name m ps')=z:=⟨_,rfl⟩
   simp only[hO] at px hlen hle htk hfit hO30 ⊢
   clear hO
   simp only[mkE] at px
   have one:∀B:Hp,Ext H B->DA H T (.sl (some T.length) O) H (T++[some (O.length,3)]) (.sl (some T.length) O) B (T++[some (O.length,3)]):=fun B hB =>
    Dt hB (AY.of _ _) (htk.cl _ _) (A6G _) (by simp)
   have two:∀B:Hp,Ext H B->O.length<=2^30->DA H T (.sl (some T.length) (tP::(O++[tQ]))) H (T++[some (O.length+2,3)]) (.sl (some (T.length+1)) (tP::(O++[tQ]))) B (T++[some (O.length,3),some (O.length+2,3),some (1,3)]):=fun B hB _=>by
    have:=Dt (H:=H) (T:=T) (z:=3) (τ:=T.length+1) (xs:=tP::(O++[tQ])) (T':=T++[some (O.length,3),some (O.length+2,3),some (1,3)]) hB (AY.of _ _) (AI.cl (AI.cons _ _ _ (htk.app (AI.cons _ _ _ .nil))) _ _) (by omega) (by simp)
    simpa using this
   have gd:∀b:Bool,(decide (least<=sv)&&(!full||(sv==7)))=b->W (XG Tryz.prog [] [(52,JT),(60,Ac 5)] [] [] [(24,BW 3 (C1 n))]) c61 (Ds [.inl 6] (DA H T (.sl (some T.length) (if b then O else tP::(O++[tQ]))) H (T++[some ((if b then O else tP::(O++[tQ])).length,3)]))) ⟨Ae [mkE op k i t nl l who name m ps',.int .i64 least,.bool full],H,T⟩:=by
    intro b hb
    rcases tf (decide (least<=sv)) with g1|g1
    ·cases full with
     | false =>
      rw[g1] at hb
      simp only[Bool.not_false,Bool.true_or,A65] at hb
      subst hb
      simp +contextual only[c61,mkE,eL,eP,px,ps,g1,BK hM,go_sem]
      exact one _ (Ext.of _ _)
     | true =>
      rcases tf (sv==7) with g2|g2
      ·rw[g1,g2] at hb
       simp only[A7n,A64,A65] at hb
       subst hb
       simp +contextual only[c61,mkE,eL,eP,px,ps,g1,g2,BK hM,go_sem]
       exact one _ (Ext.of _ _)
      ·rw[g1,g2] at hb
       simp only[A7n,A7o,Bool.and_false] at hb
       subst hb
       simp +contextual only[c61,mkE,eL,eP,px,ps,g1,g2,Ac,BK hM,mkT,BZ,hfit,A6E,A6F,go_sem]
       exact⟨by omega,by omega,by rw[A6U],by omega,by omega,two _ (Ext.of _ _) hO30⟩
    ·rw[g1] at hb
     simp only[Bool.false_and] at hb
     subst hb
     simp +contextual only[c61,mkE,eL,eP,px,ps,g1,Ac,BK hM,mkT,BZ,hfit,A6E,A6F,go_sem]
     exact⟨by omega,by omega,by rw[A6U],by omega,by omega,two _ (Ext.of _ _) hO30⟩
   exact gd _ rfl
  ·cases h
 ·cases h
theorem VC{n:Nat}{e:D}(h:fmR (n+1) e=true):0<=stI (eop e)/\((eps e).length:Int)=arN (eop e)/\(∀x∈eps e,fmR n x=true)/\Ek e=true:=by
 simp only[fmR] at h
 split at h
 ·cases h
 ·rename_i h1
  split at h
  ·cases h
  ·rename_i h2
   simp only[A6O,decide_eq_true_eq,bne_iff_ne,ne_eq,not_or,Decidable.not_not] at h1
   simp only[A7g,A62] at h2
   exact⟨by omega,h1.2,fun x hx=>A6B.1 h2 x hx,h⟩
theorem zN{op:List UInt8}(h:stI op=2):op=EF:=by
 unfold stI at h;(repeat' split at h)<;>simp_all
theorem A7{op:List UInt8}(h:stI op=6):op=KU:=by
 unfold stI at h;(repeat' split at h)<;>simp_all
theorem zQ{op:List UInt8}(h:stI op=7):inB vU op=true:=by
 unfold stI at h;(repeat' split at h)<;>simp_all
theorem fP{v:D}{b:Bool}(h:D0 v b=true):Cw v=true:=by
 unfold D0 at h
 unfold Cw
 rcases tf (vk v==2) with g|g
 ·rw[g];simp
 ·rw[if_neg (by rw[g];decide)] at h
  rcases tf (vk v==1) with g1|g1
  ·rw[g1];simp
  ·rcases tf (vk v==4) with g4|g4
   ·rw[g4];simp
   ·rw[g1,g4] at h
    simp only[A64,A6I] at h
    rw[h.1];simp
theorem tG{v:D}(h:EQ v=true):Cw v=true∨(vl v).all Cw=true/\(vl v).length<=2^20:=by
 unfold EQ at h
 split at h
 ·cases h
 ·rename_i hf
  split at h
  ·exact .inl (fP h)
  ·rename_i hk
   simp only[A6I] at h
   refine .inr ⟨A6B.2 fun x hx=>fP (A6B.1 h.1 x hx),?_⟩
   simp only[A7g,A62] at hf
   unfold bS at hf
   rw[if_neg hk] at hf
   split at hf
   ·cases hf
   ·rename_i hq
    simp only[A6O,decide_eq_true_eq,not_or] at hq
    omega
theorem UW{n:Nat}{e:D}(he:isE (n+1) e){i:Nat}(hi:i<(eps e).length):isE n ((eps e).getD i .top)/\(eps e)[i]? =some ((eps e).getD i .top)/\(eps e).getD i .top∈eps e:=by
 obtain⟨op,k,i',t,nl,l,who,name,m,ps,rfl,h1,h2,h3,h4,h5,h6,_,_⟩:=Aj he
 have h6:∀x∈ps,isE n x:=h6
 rw[uG] at hi ⊢
 have e1:ps.getD i .top=ps[i]:=by simp[hi]
 rw[e1]
 exact⟨h6 _ (A6A hi),by simp[hi],A6A hi⟩
section
variable {n:Nat} {full:Bool} {e:D}
theorem Hv(g1:(eop e==Bq)=true):BA (n+1) full e=D9 (eV e):=by simp only[BA];rw[if_pos g1]
theorem iI(g1:(eop e==Bq)=false)(g2:(eop e==Cc)=true):BA (n+1) full e=[mkT 1 Cc 0]:=by
 simp only[BA];rw[if_neg (by rw[g1];decide),if_pos g2]
theorem fE(g1:(eop e==Bq)=false)(g2:(eop e==Cc)=false)(g3:(eop e==Bh)=true):BA (n+1) full e=[mkT 1 (Ca e) 0,mkT 5 [46] 0,mkT 1 (BG e) 0]:=by
 simp only[BA];rw[if_neg (by rw[g1];decide),if_neg (by rw[g2];decide),if_pos g3]
theorem iO(g1:(eop e==Bq)=false)(g2:(eop e==Cc)=false)(g3:(eop e==Bh)=false)(g4:(eop e==CB)=true):BA (n+1) full e=[mkT 1 CB 0,tP,mkT 1 (Ca e) 0,mkT 5 [46] 0,mkT 1 (BG e) 0,tQ]:=by
 simp only[BA];rw[if_neg (by rw[g1];decide),if_neg (by rw[g2];decide),if_neg (by rw[g3];decide),if_pos g4]
theorem fW(g1:(eop e==Bq)=false)(g2:(eop e==Cc)=false)(g3:(eop e==Bh)=false)(g4:(eop e==CB)=false)(g5:(eop e==BN)=true):BA (n+1) full e=[mkT 1 BN 0,tP,mkT 3 (BG e) 0,tQ]:=by
 simp only[BA];rw[if_neg (by rw[g1];decide),if_neg (by rw[g2];decide),if_neg (by rw[g3];decide),if_neg (by rw[g4];decide),if_pos g5]
theorem fY(g1:(eop e==Bq)=false)(g2:(eop e==Cc)=false)(g3:(eop e==Bh)=false)(g4:(eop e==CB)=false)(g5:(eop e==BN)=false)(g6:(eop e==Be)=true):BA (n+1) full e=mkT 1 Be 0::tP::(BA n full (Aw e)++[tQ]):=by
 simp only[BA];rw[if_neg (by rw[g1];decide),if_neg (by rw[g2];decide),if_neg (by rw[g3];decide),if_neg (by rw[g4];decide),if_neg (by rw[g5];decide),if_pos g6];rfl
theorem j0(g1:(eop e==Bq)=false)(g2:(eop e==Cc)=false)(g3:(eop e==Bh)=false)(g4:(eop e==CB)=false)(g5:(eop e==BN)=false)(g6:(eop e==Be)=false)(g7:(eop e==Cg)=true):
  BA (n+1) full e=mkT 1 Cg 0::Bl full (stI (eop (Aw e))) 2 (BA n full (Aw e)):=by
 simp only[BA];rw[if_neg (by rw[g1];decide),if_neg (by rw[g2];decide),if_neg (by rw[g3];decide),if_neg (by rw[g4];decide),if_neg (by rw[g5];decide),if_neg (by rw[g6];decide),if_pos g7]
theorem iJ(g1:(eop e==Bq)=false)(g2:(eop e==Cc)=false)(g3:(eop e==Bh)=false)(g4:(eop e==CB)=false)(g5:(eop e==BN)=false)(g6:(eop e==Be)=false)(g7:(eop e==Cg)=false)(g8:(eop e==EO)=true):
  BA (n+1) full e=mkT 5 [45] 0::Bl full (stI (eop (Aw e))) 6 (BA n full (Aw e)):=by
 simp only[BA];rw[if_neg (by rw[g1];decide),if_neg (by rw[g2];decide),if_neg (by rw[g3];decide),if_neg (by rw[g4];decide),if_neg (by rw[g5];decide),if_neg (by rw[g6];decide),if_neg (by rw[g7];decide),if_pos g8]
theorem iW(g1:(eop e==Bq)=false)(g2:(eop e==Cc)=false)(g3:(eop e==Bh)=false)(g4:(eop e==CB)=false)(g5:(eop e==BN)=false)(g6:(eop e==Be)=false)(g7:(eop e==Cg)=false)(g8:(eop e==EO)=false):
  BA (n+1) full e=Bl full (stI (eop (Aw e))) (Fl (eop e)) (BA n full (Aw e))++(Dq (eop e)::Bl full (stI (eop (EW e))) (stI (eop e)+1) (BA n full (EW e))):=by
 simp only[BA];rw[if_neg (by rw[g1];decide),if_neg (by rw[g2];decide),if_neg (by rw[g3];decide),if_neg (by rw[g4];decide),if_neg (by rw[g5];decide),if_neg (by rw[g6];decide),if_neg (by rw[g7];decide),if_neg (by rw[g8];decide)]
end
theorem fN{e:D}(h:Ek e=true)(g:(eop e==Bq)=true):EQ (eV e)=true/\Ca e=[]/\BG e=[]:=by
 unfold Ek at h
 rw[if_pos g] at h
 simp only[A6I,beq_iff_eq] at h
 exact⟨h.1.1,h.1.2,h.2⟩
theorem AL{a b:List UInt8}(h:(a==b)=true):a=b:=by simpa using h
theorem xW{op:List UInt8}(h0:0<=stI op)(g1:(op==Bq)=false)(g2:(op==Cc)=false)(g3:(op==Bh)=false)(g4:(op==CB)=false)(g5:(op==BN)=false)(g6:(op==Be)=false)(g7:(op==Cg)=false)(g8:(op==EO)=false):
  (stI op=0∨stI op=1∨stI op=3∨stI op=4∨stI op=5)/\arN op=2:=by
 have hA:=xX (op:=op)
 rcases sE op with h|h|h|h|h|h|h|h|h
 ·exact⟨.inl h,hA.1 h⟩
 ·exact⟨.inr (.inl h),hA.2.1 h⟩
 ·exact⟨.inr (.inr (.inl h)),hA.2.2.1 h⟩
 ·exact⟨.inr (.inr (.inr (.inl h))),hA.2.2.2.1 h⟩
 ·exact⟨.inr (.inr (.inr (.inr h))),hA.2.2.2.2.1 h⟩
 ·rw[zN h] at g7;cases g7
 ·rw[A7 h] at g8;cases g8
 ·have:=zQ h
  simp only[inB,vU,A7m,A7r,A7o,A6O] at this
  have sw:∀a b:List UInt8,(a==b)=true->(b==a)=true:=fun a b h=>by simp only[beq_iff_eq] at h ⊢;exact h.symm
  rcases this with t|t|t|t|t|t
  ·rw[show(op==Bq)=true from sw _ _ t] at g1;cases g1
  ·rw[show(op==Cc)=true from sw _ _ t] at g2;cases g2
  ·rw[show(op==Bh)=true from sw _ _ t] at g3;cases g3
  ·rw[show(op==CB)=true from sw _ _ t] at g4;cases g4
  ·rw[show(op==BN)=true from sw _ _ t] at g5;cases g5
  ·rw[show(op==Be)=true from sw _ _ t] at g6;cases g6
 ·omega
theorem Zr{n:Nat}(h24:E6 Tryz.prog 24 (BW 3 (C1 n)))(h61:E6 Tryz.prog 61 (BW 3 (ES n))):E6 Tryz.prog 24 (BW 3 (C1 (n+1))):=by
 refine Hi (X:=XG Tryz.prog [61] [(52,JT),(59,Ac 1),(60,Ac 5),(62,L7)] [] [] [(24,BW 3 (C1 n)),(58,BW 3 FT)]) (XG.X (.cons VW (.cons Q8 (.cons Q4 (.cons Tl .nil)))) .nil .nil (.cons h24 (.cons A4i .nil))) A5u fun args xs h=>?_
 have hM:B0 []:=.nil
 have h61p:=E6.pure h61 (Q3 n)
 unfold C1 at h
 split at h
 ·rename_i e full
  split at h
  ·rename_i hc
   obtain⟨he,hf,hlen⟩:=hc
   injection h with h;subst h
   refine⟨by simp,(CP (n+1) full e).cl _ _,fun H T=>?_⟩
   obtain⟨f1,f2,f3,f4⟩:=VC hf
   have ps:JT [.str (eop e)]=some (.int .i64 (stI (eop e))):=rfl
   have own:∀(ys:List D) (B:Hp) (U:Tk),AI ys->Ext H B->DA H T (.sl (some T.length) ys) H (T++[some (ys.length,3)]) (.sl (some T.length) ys) B (T++some (ys.length,3)::U):=fun ys B U hy hB =>
    Dt hB (AY.of _ _) (hy.cl _ _) (A6G _) (by simp)
   have kid:∀(i:Nat),i<(eps e).length->∃x,(eps e).getD i .top=x/\(eps e)[i]? =some x/\x.erase=x/\x.cells.length=8/\x.cells.take 8=x.cells/\D.agg x.cells=x/\AI (BA n full x)∧
     ((BA n full x).length<=2^30->∀H T,BW 3 (C1 n) H T [x,.bool full]=some (.sl (some T.length) (BA n full x),H,T++[some ((BA n full x).length,3)]))∧
     (∀least,(Bl full (stI (eop x)) least (BA n full x)).length<=2^30->ES n [x,.int .i64 least,.bool full]=some (Bl full (stI (eop x)) least (BA n full x))):=fun i hi=>by
    obtain⟨x1,x2,x3⟩:=UW he hi
    obtain⟨q1,q2,q3,_⟩:=BT x1
    refine⟨_,rfl,x2,fL x1,q1,q2,q3,CP _ _ _,fun hl H T=>?_,fun least hl=>?_⟩
    ·simp only[BW,C1];rw[if_pos ⟨x1,f3 _ x3,hl⟩]
    ·simp only[ES];rw[if_pos ⟨x1,f3 _ x3,hl⟩]
   have plit:EQ (eV e)=true->(eV e).isV=true->∀H T,BW 3 FT H T [eV e]=some (.sl (some T.length) (D9 (eV e)),H,T++[some ((D9 (eV e)).length,3)]):=fun h hv H T=>by
    simp only[BW,FT];rw[if_pos ⟨hv,tG h⟩]
   rcases tf (eop e==Bq) with g1|g1
   ·rw[Hv g1] at hlen ⊢
    have pl:=plit (fN f4 g1).1
    obtain⟨op,k,i,t,nl,l,who,name,m,ps',rfl,h1,h2,h3,h4,h5,h6,eL,eP⟩:=Aj he
    simp only[CN] at ps
    have k1:(op==[118,97,108,117,101])=true:=g1
    have pl:=pl h4.1
    have hk:=Kn (eV (mkE op k i t nl l who name m ps'))
    obtain⟨O,hO⟩:∃z,D9 (eV (mkE op k i t nl l who name m ps'))=z:=⟨_,rfl⟩
    simp only[hO] at pl hk hlen ⊢
    simp only[HR,mkV] at pl
    simp +contextual only[c24,mkE,eL,eP,ps,k1,pl,BK hM,go_sem]
    exact own O _ [] hk (Ext.of _ _)
   rcases tf (eop e==Cc) with g2|g2
   ·rw[iI g1 g2]
    obtain⟨op,k,i,t,nl,l,who,name,m,ps',rfl,h1,h2,h3,h4,h5,h6,eL,eP⟩:=Aj he
    simp only[CN] at ps
    have k1:(op==[118,97,108,117,101])=false:=g1
    have k2:(op==[110,111,119])=true:=g2
    simp +contextual only[c24,mkE,eL,eP,ps,k1,k2,BK hM,Ac,mkT,Cc,go_sem]
    exact own [_] _ [] (AI.cons _ _ _ .nil) (Ext.of _ _)
   rcases tf (eop e==Bh) with g3|g3
   ·rw[fE g1 g2 g3]
    obtain⟨op,k,i,t,nl,l,who,name,m,ps',rfl,h1,h2,h3,h4,h5,h6,eL,eP⟩:=Aj he
    simp only[CN] at ps
    have k1:(op==[118,97,108,117,101])=false:=g1
    have k2:(op==[110,111,119])=false:=g2
    have k3:(op==[97,116,116,114])=true:=g3
    simp +contextual only[c24,mkE,eL,eP,ps,k1,k2,k3,BK hM,Ac,mkT,Cc,En,Dp,go_sem]
    exact own [_,_,_] _ [] (AI.cons _ _ _ (AI.cons _ _ _ (AI.cons _ _ _ .nil))) (Ext.of _ _)
   rcases tf (eop e==CB) with g4|g4
   ·rw[iO g1 g2 g3 g4]
    obtain⟨op,k,i,t,nl,l,who,name,m,ps',rfl,h1,h2,h3,h4,h5,h6,eL,eP⟩:=Aj he
    simp only[CN] at ps
    have k1:(op==[118,97,108,117,101])=false:=g1
    have k2:(op==[110,111,119])=false:=g2
    have k3:(op==[97,116,116,114])=false:=g3
    have k4:(op==[104,97,115])=true:=g4
    simp +contextual only[c24,mkE,eL,eP,ps,k1,k2,k3,k4,BK hM,Ac,mkT,CB,tP,tQ,En,Dp,go_sem]
    exact own [_,_,_,_,_,_] _ [] (AI.cons _ _ _ (AI.cons _ _ _ (AI.cons _ _ _ (AI.cons _ _ _ (AI.cons _ _ _ (AI.cons _ _ _ .nil)))))) (Ext.of _ _)
   rcases tf (eop e==BN) with g5|g5
   ·rw[fW g1 g2 g3 g4 g5]
    obtain⟨op,k,i,t,nl,l,who,name,m,ps',rfl,h1,h2,h3,h4,h5,h6,eL,eP⟩:=Aj he
    simp only[CN] at ps
    have k1:(op==[118,97,108,117,101])=false:=g1
    have k2:(op==[110,111,119])=false:=g2
    have k3:(op==[97,116,116,114])=false:=g3
    have k4:(op==[104,97,115])=false:=g4
    have k5:(op==[114,111,108,101])=true:=g5
    simp +contextual only[c24,mkE,eL,eP,ps,k1,k2,k3,k4,k5,BK hM,Ac,mkT,BN,tP,tQ,En,Dp,go_sem]
    exact own [_,_,_,_] _ [] (AI.cons _ _ _ (AI.cons _ _ _ (AI.cons _ _ _ (AI.cons _ _ _ .nil)))) (Ext.of _ _)
   rcases tf (eop e==Be) with g6|g6
   ·rw[fY g1 g2 g3 g4 g5 g6] at hlen ⊢
    have ar:arN (eop e)=1:=by rw[AL g6];decide
    obtain⟨x,x1,x2,ee,q1,q2,q3,hk,pt,_⟩:=kid 0 (by omega)
    simp only[Aw,x1] at hlen ⊢
    simp only[A6N,A6K,A69] at hlen
    have pt:=pt (by omega)
    have hfit:=hk.fit
    obtain⟨O,hO⟩:∃z,BA n full x=z:=⟨_,rfl⟩
    simp only[hO] at pt hlen hk hfit ⊢
    obtain⟨op,k,i,t,nl,l,who,name,m,ps',rfl,h1,h2,h3,h4,h5,h6,eL,eP⟩:=Aj he
    simp only[CN] at ps
    simp only[uG] at x2
    have k1:(op==[118,97,108,117,101])=false:=g1
    have k2:(op==[110,111,119])=false:=g2
    have k3:(op==[97,116,116,114])=false:=g3
    have k4:(op==[104,97,115])=false:=g4
    have k5:(op==[114,111,108,101])=false:=g5
    have k6:(op==[115,105,122,101])=true:=g6
    simp +contextual only[c24,mkE,eL,eP,ps,k1,k2,k3,k4,k5,k6,BK hM,Ac,mkT,Be,tP,tQ,x2,ee,q1,q2,q3,pt,Bo,BZ,hfit,A6E,A6F,go_sem]
    refine⟨by omega,by omega,by rw[A6U],by omega,by omega,?_⟩
    have:=own (mkT 1 Be 0::tP::(O++[tQ])) _ [some (O.length,3),some (1,3)] (AI.cons _ _ _ (AI.cons _ _ _ (hk.app (AI.cons _ _ _ .nil)))) (Ext.of H [.row [.str op,.int .i64 k,.int .i64 i,.str t,aV nl l,.str who,.str name,aV m ps']])
    simpa[mkT,tP,tQ,Be] using this
   rcases tf (eop e==Cg) with g7|g7
   ·rw[j0 g1 g2 g3 g4 g5 g6 g7] at hlen ⊢
    have ar:arN (eop e)=1:=by rw[AL g7];decide
    obtain⟨x,x1,x2,ee,q1,q2,q3,hk,_,pt⟩:=kid 0 (by omega)
    simp only[Aw,x1] at hlen ⊢
    simp only[A6K] at hlen
    have pt:=pt 2 (by omega)
    have hk:=Cm (full:=full) (s:=stI (eop x)) (least:=2) hk
    obtain⟨O,hO⟩:∃z,Bl full (stI (eop x)) 2 (BA n full x)=z:=⟨_,rfl⟩
    simp only[hO] at pt hlen hk ⊢
    have hfit:=hk.fit
    have pp:(fun a=>(ES n a).map (D.sl none)) [x,.int .i64 2,.bool full]=some (.sl none O):=by simp only[pt,A6V]
    obtain⟨op,k,i,t,nl,l,who,name,m,ps',rfl,h1,h2,h3,h4,h5,h6,eL,eP⟩:=Aj he
    simp only[CN] at ps
    simp only[uG] at x2
    have k1:(op==[118,97,108,117,101])=false:=g1
    have k2:(op==[110,111,119])=false:=g2
    have k3:(op==[97,116,116,114])=false:=g3
    have k4:(op==[104,97,115])=false:=g4
    have k5:(op==[114,111,108,101])=false:=g5
    have k6:(op==[115,105,122,101])=false:=g6
    have k7:(op==[110,111,116])=true:=g7
    simp +contextual only[c24,mkE,eL,eP,ps,k1,k2,k3,k4,k5,k6,k7,BK hM,Ac,mkT,x2,ee,q1,q2,q3,go_sem]
    refine LN rfl h61p (r:=.sl none O) (by simp only[A68,A7a,D.eraseL,D.erase,ee];exact pp) ?_
    simp +contextual only[mkT,Cg,BK hM,Bo,BZ,hfit,A6E,A6F,go_sem]
    refine⟨by omega,by omega,?_⟩
    have:=own (mkT 1 Cg 0::O) _ [] (AI.cons _ _ _ hk) (Ext.of H [.row [.str op,.int .i64 k,.int .i64 i,.str t,aV nl l,.str who,.str name,aV m ps']])
    simpa[mkT,Cg,A6U] using this
   rcases tf (eop e==EO) with g8|g8
   ·rw[iJ g1 g2 g3 g4 g5 g6 g7 g8] at hlen ⊢
    have ar:arN (eop e)=1:=by rw[AL g8];decide
    obtain⟨x,x1,x2,ee,q1,q2,q3,hk,_,pt⟩:=kid 0 (by omega)
    simp only[Aw,x1] at hlen ⊢
    simp only[A6K] at hlen
    have pt:=pt 6 (by omega)
    have hk:=Cm (full:=full) (s:=stI (eop x)) (least:=6) hk
    obtain⟨O,hO⟩:∃z,Bl full (stI (eop x)) 6 (BA n full x)=z:=⟨_,rfl⟩
    simp only[hO] at pt hlen hk ⊢
    have hfit:=hk.fit
    have pp:(fun a=>(ES n a).map (D.sl none)) [x,.int .i64 6,.bool full]=some (.sl none O):=by simp only[pt,A6V]
    obtain⟨op,k,i,t,nl,l,who,name,m,ps',rfl,h1,h2,h3,h4,h5,h6,eL,eP⟩:=Aj he
    simp only[CN] at ps
    simp only[uG] at x2
    have k1:(op==[118,97,108,117,101])=false:=g1
    have k2:(op==[110,111,119])=false:=g2
    have k3:(op==[97,116,116,114])=false:=g3
    have k4:(op==[104,97,115])=false:=g4
    have k5:(op==[114,111,108,101])=false:=g5
    have k6:(op==[115,105,122,101])=false:=g6
    have k7:(op==[110,111,116])=false:=g7
    have k8:(op==[110,101,103])=true:=g8
    simp +contextual only[c24,mkE,eL,eP,ps,k1,k2,k3,k4,k5,k6,k7,k8,BK hM,Ac,mkT,x2,ee,q1,q2,q3,go_sem]
    refine LN rfl h61p (r:=.sl none O) (by simp only[A68,A7a,D.eraseL,D.erase,ee];exact pp) ?_
    simp +contextual only[mkT,Cg,BK hM,Bo,BZ,hfit,A6E,A6F,go_sem]
    refine⟨by omega,by omega,?_⟩
    have:=own (mkT 5 [45] 0::O) _ [] (AI.cons _ _ _ hk) (Ext.of H [.row [.str op,.int .i64 k,.int .i64 i,.str t,aV nl l,.str who,.str name,aV m ps']])
    simpa[mkT,Cg,A6U] using this
   ·rw[iW g1 g2 g3 g4 g5 g6 g7 g8] at hlen ⊢
    obtain⟨t1,ar⟩:=xW f1 g1 g2 g3 g4 g5 g6 g7 g8
    obtain⟨x,x1,x2,ee,q1,q2,q3,hk,_,pt⟩:=kid 0 (by omega)
    obtain⟨y,y1,y2,ef,s1,s2,s3,hj,_,pu⟩:=kid 1 (by omega)
    simp only[Aw,EW,x1,y1] at hlen ⊢
    simp only[A6N,A6K] at hlen
    have pt:=pt (Fl (eop e)) (by omega)
    have pu:=pu (stI (eop e)+1) (by omega)
    have hk:=Cm (full:=full) (s:=stI (eop x)) (least:=Fl (eop e)) hk
    have hj:=Cm (full:=full) (s:=stI (eop y)) (least:=stI (eop e)+1) hj
    obtain⟨O,hO⟩:∃z,Bl full (stI (eop x)) (Fl (eop e)) (BA n full x)=z:=⟨_,rfl⟩
    obtain⟨U,hU⟩:∃z,Bl full (stI (eop y)) (stI (eop e)+1) (BA n full y)=z:=⟨_,rfl⟩
    simp only[hO,hU] at pt pu hlen hk hj ⊢
    have hf1:=hk.fit
    have hf2:=hj.fit
    have pO:∀H T,BW 3 (ES n) H T [x,.int .i64 (Fl (eop e)),.bool full]=some (.sl (some T.length) O,H,T++[some (O.length,3)]):=fun H T=>by simp only[BW,pt]
    have pU:∀H T,BW 3 (ES n) H T [y,.int .i64 (stI (eop e)+1),.bool full]=some (.sl (some T.length) U,H,T++[some (U.length,3)]):=fun H T=>by simp only[BW,pu]
    have pin:=Ng (l:=opW) (by decide) (eop e)
    have hOT:AI [Dq (eop e)]:=Lc _ .nil
    have e3:(stI (eop e)==3)=true->Fl (eop e)=4:=fun h=>by unfold Fl;rw[if_pos h]
    have e4:(stI (eop e)==3)=false->Fl (eop e)=stI (eop e):=fun h=>by unfold Fl;rw[if_neg (by rw[h];decide)]
    have wr:IntKind.i64.wrap (stI (eop e)+1)=stI (eop e)+1:=kU _ (by omega) (by omega)
    obtain⟨op,k,i,t,nl,l,who,name,m,ps',rfl,h1,h2,h3,h4,h5,h6,eL,eP⟩:=Aj he
    simp only[CN] at ps pO pU pin hOT e3 e4 wr f1 ⊢
    simp only[uG] at x2 y2
    have k1:(op==[118,97,108,117,101])=false:=g1
    have k2:(op==[110,111,119])=false:=g2
    have k3:(op==[97,116,116,114])=false:=g3
    have k4:(op==[104,97,115])=false:=g4
    have k5:(op==[114,111,108,101])=false:=g5
    have k6:(op==[115,105,122,101])=false:=g6
    have k7:(op==[110,111,116])=false:=g7
    have k8:(op==[110,101,103])=false:=g8
    obtain⟨sv,hsv⟩:∃z,stI op=z:=⟨_,rfl⟩
    obtain⟨lv,hlv⟩:∃z,Fl op=z:=⟨_,rfl⟩
    obtain⟨ib,hib⟩:∃z,inB opW op=z:=⟨_,rfl⟩
    have hot:Dq op=mkT (if ib then 1 else 5) op 0:=by unfold Dq;rw[hib];cases ib<;>rfl
    simp only[hsv,hlv,hib] at ps pO pU pin wr e3 e4
    simp only[opW,wOr,K2,sIn,A6Q,A6Y] at pin
    rw[hot]
    rw[J6 6]
    obtain⟨tl,htl⟩:∃z,C.tl 6 c24=z:=⟨_,rfl⟩
    rw[htl]
    obtain⟨Q,hQ⟩:∃Q,Ds [.inl 4] (DA H T (D.sl (some (List.length T)) (O++mkT (if ib then 1 else 5) op 0::U)) H (T++[some ((O++mkT (if ib then 1 else 5) op 0::U).length,3)]))=Q:=⟨_,rfl⟩
    rw[hQ]
    have rest:∀t',t' 1= .bool full->t' 2= .ptr H.length 0->t' 5= .int .i64 sv->t' 8= .sl (some T.length) O->W (XG Tryz.prog [61] [(52,JT),(59,Ac 1),(60,Ac 5),(62,L7)] [] [] [(24,BW 3 (C1 n)),(58,BW 3 FT)]) tl Q
      ⟨t',H++[.row [.str op,.int .i64 k,.int .i64 i,.str t,aV nl l,.str who,.str name,aV m ps']],T++[some (O.length,3)]⟩:=by
     intro t' r1 r2 r5 r8
     rw[<- hQ]
     subst htl
     cases ib with
     | true =>
      simp +contextual only[c24,r1,r2,r5,r8,pin,BK hM,Ac,mkT,y2,ef,s1,s2,s3,wr,Bo,BZ,hf1,A6E,A6F,go_sem]
      refine⟨by omega,by omega,?_⟩
      refine h61 _ _ _ _ _ _ (pU _ _) _ (by simp only[D.eraseL,D.erase,ef]) _ ?_
      simp +contextual only[Bo,BZ,hf1,hf2,A6E,A6F,go_sem]
      refine⟨by omega,by omega,by rw[A7b,hf1];rfl,?_⟩
      have:=own (O++mkT 1 op 0::U) _ [some (3,1),some (1,3),some (U.length,3)] (hk.app (AI.cons _ _ _ hj)) (Ext.of H [.row [.str op,.int .i64 k,.int .i64 i,.str t,aV nl l,.str who,.str name,aV m ps'],.row [.int .i64 1,.str op,.int .i64 0]])
      simpa[mkT,A7p,A6U,A7h] using this
     | false =>
      simp +contextual only[c24,r1,r2,r5,r8,pin,BK hM,Ac,mkT,y2,ef,s1,s2,s3,wr,Bo,BZ,hf1,A6E,A6F,go_sem]
      refine⟨by omega,by omega,?_⟩
      refine h61 _ _ _ _ _ _ (pU _ _) _ (by simp only[D.eraseL,D.erase,ef]) _ ?_
      simp +contextual only[Bo,BZ,hf1,hf2,A6E,A6F,go_sem]
      refine⟨by omega,by omega,by rw[A7b,hf1];rfl,?_⟩
      have:=own (O++mkT 5 op 0::U) _ [some (3,1),some (1,3),some (U.length,3)] (hk.app (AI.cons _ _ _ hj)) (Ext.of H [.row [.str op,.int .i64 k,.int .i64 i,.str t,aV nl l,.str who,.str name,aV m ps'],.row [.int .i64 5,.str op,.int .i64 0]])
      simpa[mkT,A7p,A6U,A7h] using this
    rcases tf (sv==3) with g|g
    ·rw[e3 g] at pO
     simp +contextual only[c24,mkE,eL,eP,ps,k1,k2,k3,k4,k5,k6,k7,k8,g,BK hM,x2,ee,q1,q2,q3,go_sem]
     refine h61 _ _ _ _ _ _ (pO _ _) _ (by simp only[D.eraseL,D.erase,ee]) _ ?_
     simp +contextual only[go_sem]
     refine rest _ ?_ ?_ ?_ ?_<;>rfl
    ·rw[e4 g] at pO
     simp +contextual only[c24,mkE,eL,eP,ps,k1,k2,k3,k4,k5,k6,k7,k8,g,BK hM,x2,ee,q1,q2,q3,go_sem]
     refine h61 _ _ _ _ _ _ (pO _ _) _ (by simp only[D.eraseL,D.erase,ee]) _ ?_
     simp +contextual only[go_sem]
     refine rest _ ?_ ?_ ?_ ?_<;>rfl
  ·cases h
 ·cases h
theorem Vi:∀n,E6 Tryz.prog 24 (BW 3 (C1 n))
 | 0=>fun H T args r H' T' h=>by
  unfold BW C1 at h
  split at h
  ·rename_i hx
   split at hx
   ·split at hx
    ·rename_i hc;exact hc.1.elim
    ·cases hx
   ·cases hx
  ·cases h
 | n+1=>Zr (Vi n) (A4m (Vi n))
end GP
