import Derived.Test.YtainhmbnbgonhaaGreatDoorProg
import Derived.Test.YtainhmbnbgonhaaGreatDoorM2
import Derived.Test.YtainhmbnbgonhaaGreatDoorM6
import Derived.Test.YtainhmbnbgonhaaGreatDoorM7
import Derived.Test.YtainhmbnbgonhaaGreatDoorM8
set_option maxHeartbeats 16000000
open List renaming getElem?_eq_getElem->A6A,length_map->A6B,length_cons->A6E,all_eq_true->A6F,mem_singleton->A6H,length_nil->A6J,length_append->A6K,getElem_mem->A6L,getElem?_map->A6M,all_cons->A6O,mem_append->A6P,append_assoc->A6Q,length_take->A6R,range->A6S,drop_eq_nil_of_le->A6T,mem_map->A6U,all_append->A6V,getElem?_eq_none->A6W,mem_of_getElem?->A6X,getElem?_append_left->A6Y,take_length->A6Z,nil_append->A61,mem_cons->A62,map_cons->A63,all_nil->A65,drop_append_of_le_length->A66,eq_nil_of_length_eq_zero->A67,cons->A69,take_add_one->A7c,not_mem_nil->A7e,cons_append->A7f,getElem?_set_self->A7g,set_append_right->A7k,append_nil->A7l,range_succ->A7n,map_nil->A7r,filter_cons->A7t,any_eq_true->A7u,map_append->A7w,sum_cons->A7A
open Bool renaming false_eq_true->A6C,and_eq_true->A6D,true_and->A6G,and_true->A6I,or_eq_true->A6N,not_false->A64,not_true->A68,false_and->A7o,not_eq_true'->A7q,or_self->A7s,not_eq_true->A7v,and_self->A7y
open Nat renaming lt_or_ge->A60,mul_add->A7a,zero_add->A7b,zero_le->A7d,min_eq_left->A7i,le_refl->A7p,reduceAdd->A7x,add_assoc->A7z,le_trans->A7B
open Option renaming map_eq_some_iff->A7h,map_some->A7m
open And renaming intro->A7j
set_option linter.unusedSimpArgs false
set_option linter.unnecessarySimpa false
namespace GP
open Go Go.Proofs Go.Proofs.YtainhmbnbgonhaaGreatDoor
open Go.ChangeShapes Go.WideShapes Go.ChangeAt Go.RowKit
set_option maxRecDepth 100000
theorem MX:Tryz.prog.cellsOf 3=1:=by kernel_rfl
theorem SV:Tryz.prog.cellsOf 2=1:=by kernel_rfl
theorem DS:Tryz.prog.cellsOf 9=1:=by kernel_rfl
theorem Sy:IntKind.i64.min= -(2^63):=by decide
theorem R3:IntKind.i64.max=2^63 - 1:=by decide
def K0(p:D->Prop)(ds:List D):Prop:=∃l,ds=[l]/\G6 p l
theorem HY{mk:List D->D}{φ:List D->Prop}{p:D->Prop}{sz:Nat}(h:∀x,φ x->p (mk x)){ds:List D}(hd:ds=[.nils]∨∃xs:List (List D),ds=[.sl none (xs.map mk)]/\xs.length<=2^47/\∀x∈xs,φ x/\x.length=sz):K0 p ds:=by
 rcases hd with rfl|⟨xs,rfl,h1,h2⟩
 ·exact⟨_,rfl,LV _⟩
 ·refine⟨_,rfl,false,xs.map mk,rfl,by simpa using h1,fun x hx=>?_⟩
  obtain⟨y,hy,rfl⟩:=A6U.1 hx
  exact h _ (h2 y hy).1
end GP
namespace GP
open Go Go.Proofs
set_option maxRecDepth 100000
structure Step(toks:List D)(st st2:St):Prop where
 ok:(st.2=0∨st.2=2)/\st.1<=toks.length->(st2.2=0∨st2.2=2)/\st2.1<=toks.length
 stuck:st.2≠0->st2=st
 adv:st.2=0->st.1<=st2.1
theorem Step.refl(toks:List D)(st:St):Step toks st st:=⟨fun h=>h,fun _=>rfl,fun _=>A7p _⟩
theorem Step.trans{toks:List D}{a b c:St}(h:Step toks a b)(k:Step toks b c):Step toks a c :=
 ⟨fun q=>k.ok (h.ok q),fun q=>by have:=h.stuck q;rw[this] at k;rw[k.stuck q],fun q=>by
  have h1:=h.adv q
  by_cases hb:b.2=0
  ·exact A7B h1 (k.adv hb)
  ·rw[k.stuck hb];exact h1⟩
theorem Step.e0{toks:List D}{a b:St}(h:Step toks a b)(hb:b.2=0):a.2=0:=by
 by_cases ha:a.2=0
 ·exact ha
 ·rw[h.stuck ha] at hb;exact hb
def sbT(toks:List D)(a b:Nat):List D:=(toks.take b).drop a
def A6u(toks:List D)(a b:Nat):Nat:=A6t (sbT toks a b)
theorem IE(l m:List D):A6t (l++m)=A6t l+A6t m:=by simp[A6t,List.filter_append]
theorem TL{toks:List D}{a b c:Nat}(h1:a<=b)(h2:b<=c):sbT toks a c=sbT toks a b++sbT toks b c:=by
 unfold sbT
 have e:toks.take c=toks.take b++(toks.take c).drop b:=by
  have:=(List.take_append_drop b (toks.take c)).symm
  rwa [List.take_take,A7i h2] at this
 rcases A60 (toks.take b).length a with hl|hl
 ·have hb:toks.length<b:=by
   rcases A60 toks.length b with h|h
   ·exact h
   ·rw[A6R,A7i h] at hl;omega
  rw[A6T (Nat.le_of_lt hl),List.take_of_length_le (by omega:toks.length<=c)]
  rw[A6R] at hl
  rw[A6T (by omega),A6T (by omega)];rfl
 ·conv=>lhs;rw[e]
  rw[A66 hl]
theorem HV{toks:List D}{a b c:Nat}(h1:a<=b)(h2:b<=c):A6u toks a c=A6u toks a b+A6u toks b c:=by
 unfold A6u;rw[TL h1 h2,IE]
theorem S3{toks:List D}{a:Nat}{t:D}(h:toks[a]? =some t):A6u toks a (a+1)=if pkB t then 1 else 0:=by
 unfold A6u sbT
 have hl:=BB h
 rw[A7c,h,A66 (by rw[A6R];omega),A6T (by rw[A6R];omega)]
 unfold A6t
 simp only[Option.toList_some,A61,A7t,List.filter_nil]
 split<;>rfl
theorem Wg{toks:List D}{st:St}(h:tk (BS toks st)≠0):st.2=0/\toks[st.1]? =some (BS toks st)/\F7 (BS toks st)=true:=by
 unfold BS Gl at h ⊢
 split at h
 ·exact absurd rfl h
 ·rename_i he
  rw[if_neg he]
  split at h
  ·rename_i t ht
   split at h
   ·rename_i hf
    rw[if_pos hf]
    exact⟨by simpa using he,ht,hf⟩
   ·exact absurd rfl h
  ·exact absurd rfl h
theorem A0c{toks:List D}{st:St}{w:List UInt8}(h:isP toks st w=true):st.2=0/\toks[st.1]? =some (BS toks st)/\ts (BS toks st)=w/\((tk (BS toks st)=1/\Bp w=true)∨(tk (BS toks st)=5/\bG w=true)):=by
 unfold isP at h
 simp only[A6D,A6N,beq_iff_eq] at h
 obtain⟨h1,h2⟩:=h
 obtain⟨a1,a2,a3⟩:=Wg (toks:=toks) (st:=st) (by omega)
 refine⟨a1,a2,h2,?_⟩
 unfold F7 Ab at a3
 rw[h2] at a3
 rcases h1 with h1|h1
 ·rw[h1] at a3
  simp only[beq_self_eq_true,if_true,A6D] at a3
  exact .inl ⟨h1,a3.1⟩
 ·rw[h1] at a3
  have:bG w=true:=by
   revert a3
   simp only[show((5:Int)==1)=false from rfl,show((5:Int)==2)=false from rfl,show((5:Int)==3)=false from rfl,show((5:Int)==4)=false from rfl,A6C,if_false,beq_self_eq_true,if_true,A6D]
   exact fun h=>h.1
  exact .inr ⟨h1,this⟩
theorem Ua{t:D}(h:tk t=1):pkB t=((ts t !=CY)&&(ts t !=yC)):=by
 unfold pkB;rw[h];simp
theorem UA{t:D}(h:tk t=5):pkB t=((ts t==[46])||(ts t==[43])||(ts t==[42])||(ts t==[60])||(ts t==[91])):=by
 unfold pkB;rw[h];simp
def pkW(w:List UInt8):Nat:=if bG w then(if((w==[46])||(w==[43])||(w==[42])||(w==[60])||(w==[91])) then 1 else 0) else(if(w !=CY)&&(w !=yC) then 1 else 0)
theorem QZ{w:List UInt8}(h:Bp w=true):bG w=false:=by
 cases hs:bG w with
 | false=>rfl
 | true =>
  have:w∈pP:=by
   unfold bG at hs
   obtain⟨x,hx,he⟩:=A7u.1 hs
   have:x=w:=by simpa using he
   rw[<- this];exact hx
  have key:∀w∈pP,Bp w=false:=by decide
  rw[key w this] at h;cases h
theorem Od{toks:List D}{st:St}{w:List UInt8}(h:isP toks st w=true):A6u toks st.1 (st.1+1)=pkW w:=by
 obtain⟨_,h2,h3,h4⟩:=A0c h
 rw[S3 h2]
 unfold pkW
 rcases h4 with⟨h4,h5⟩|⟨h4,h5⟩
 ·rw[Ua h4,h3,QZ h5];rfl
 ·rw[UA h4,h3,h5];rfl
theorem QT:Bt Bn Bn=true:=by decide
theorem PH{e:D}(hV:eV e=Bn)(hw:Ca e=[])(hn:BG e=[])(g1:(eop e==Bq)=false)(g3:(eop e==Bh)=false)(g4:(eop e==CB)=false):(eop e==BN)=false->Ek e=true:=by
 intro g5
 unfold Ek
 rw[if_neg (by rw[g1];decide),hV,QT,if_neg (by decide),g3,g4,if_neg (by decide),if_neg (by rw[g5];decide),hw,hn]
 rfl
theorem N6{op:List UInt8}{a b:D}(ho:op.length<=2^47)(h:EV op)(ha:GoodE a)(hb:GoodE b):GoodE (EB op a b):=by
 obtain⟨g1,g2,g3,g4,g5,g6,g7,g8⟩:=wX h
 refine K7 ?_ ?_ ?_ ?_ (PH rfl rfl rfl g1 g3 g4 g5)
 ·exact⟨_,qP ho (aF (Nat.le_max_left _ _) ha.t.can) (aF (Nat.le_max_right _ _) hb.t.can)⟩
 ·show 0<=stI op
  unfold EV at h;omega
 ·show(([a,b]:List D).length:Int)=arN op
  rw[SL h];rfl
 ·intro x hx
  have hx:x∈[a,b]:=hx
  simp only[A62,A7e,or_false] at hx
  rcases hx with rfl|rfl
  ·exact ha
  ·exact hb
theorem UI{full:Bool}{op:List UInt8}{a b:D}(ho:op.length<=2^47)(h:EV op)(ha:GoodE a)(hb:GoodE b):tkC full (EB op a b)=Bl full (stI (eop a)) (Fl op) (tkC full a)++(Dq op::Bl full (stI (eop b)) (stI op+1) (tkC full b)) :=
 o8 (N6 ho h ha hb) h
theorem Nv{op:List UInt8}{a:D}(h:op=Be∨op=Cg∨op=EO)(ha:GoodE a):GoodE (DX op a):=by
 have hl:op.length<=2^47:=by rcases h with rfl|rfl|rfl<;>decide
 refine K7 ⟨_,xD hl ha.t.can⟩ ?_ ?_ ?_ (PH rfl rfl rfl ?_ ?_ ?_ ?_)
 ·show 0<=stI op
  rcases h with rfl|rfl|rfl<;>decide
 ·show(1:Int)=arN op
  rcases h with rfl|rfl|rfl<;>decide
 ·intro x hx
  have hx:x∈[a]:=hx
  rw[A6H] at hx;subst hx;exact ha
 ·show(op==Bq)=false
  rcases h with rfl|rfl|rfl<;>decide
 ·show(op==Bh)=false
  rcases h with rfl|rfl|rfl<;>decide
 ·show(op==CB)=false
  rcases h with rfl|rfl|rfl<;>decide
 ·show(op==BN)=false
  rcases h with rfl|rfl|rfl<;>decide
theorem HI{v:D}(h:DI v):eop (EG v)=Bq/\eV (EG v)=v/\Ca (EG v)=[]/\BG (EG v)=[]/\eps (EG v)=[]:=by
 obtain⟨k,i,s,n,l,rfl,_⟩:=d9 h.1
 exact⟨rfl,rfl,rfl,rfl,rfl⟩
theorem Ms{v:D}(hv:DI v)(h:EQ v=true):GoodE (EG v):=by
 obtain⟨e1,e2,e3,e4,e5⟩:=HI hv
 refine K7 ⟨_,qT hv⟩ (by rw[e1];decide) (by rw[e1,e5];decide) (fun x hx=>by rw[e5] at hx;cases hx) ?_
 unfold Ek
 rw[e1,e2,e3,e4,if_pos (by decide),h];rfl
theorem UN{full:Bool}{v:D}(hv:DI v)(h:EQ v=true):tkC full (EG v)=D9 v:=by
 obtain⟨e1,e2,_⟩:=HI hv
 rw[oB (Ms hv h) (by rw[e1];decide),e2]
structure Rdd(toks:List D)(s:Int)(x:D)(a b:Nat):Prop where
 g:GoodE x
 c:A6t (tkC true x)=A6u toks a b
 m:(Bl false (stI (eop x)) s (tkC false x)).length<=b - a
 l:a<b
theorem OO(s s':Int)(l:List D):Bl false s s' l=if s'<=s then l else tP::(l++[tQ]):=by
 unfold Bl
 simp only[A64,Bool.true_or,A6I,decide_eq_true_eq]
theorem QL{s s1 s2:Int}(h:s1<=s2)(l:List D):(Bl false s s1 l).length<=(Bl false s s2 l).length:=by
 rw[OO,OO]
 split<;>split<;>simp<;>omega
theorem IG{s s':Int}(h:s'<=s)(l:List D):Bl false s s' l=l:=by rw[OO,if_pos h]
theorem Jp(full:Bool)(s s':Int)(l:List D):A6t (Bl full s s' l)=A6t l:=by
 unfold Bl
 split
 ·rfl
 ·have e:tP::(l++[tQ])=[tP]++l++[tQ]:=by simp
  rw[e,IE,IE]
  show 0+A6t l+0=A6t l
  omega
theorem Iw(t:D)(l:List D):A6t (t::l)=(if pkB t then 1 else 0)+A6t l:=by
 unfold A6t
 rw[A7t]
 split
 ·simp;omega
 ·simp
theorem Rdd.up{toks:List D}{s s2:Int}{x:D}{a b:Nat}(h:Rdd toks s2 x a b)(hs:s<=s2):Rdd toks s x a b :=
 ⟨h.g,h.c,A7B (QL hs _) h.m,h.l⟩
def HW:List (List UInt8):=[wOr,K2,[61,61],[33,61],[60],[60,61],[62],[62,61],[105,110],[43],[45],[42]]
theorem U7{op:List UInt8}(h:op∈HW):EV op/\op.length<=2^47/\(if pkB (Dq op) then 1 else 0)=pkW op:=by
 have key:∀op∈HW,(stI op=0∨stI op=1∨stI op=3∨stI op=4∨stI op=5)/\op.length<=2^47/\(if pkB (Dq op) then 1 else 0)=pkW op:=by decide
 exact key op h
theorem Rdd.two{toks:List D}{op:List UInt8}(h:op∈HW){x y:D}{a b c:Nat}{st:St}(hst:st.1=b)(hp:isP toks st op=true)(hx:Rdd toks (Fl op) x a b)(hy:Rdd toks (stI op+1) y (b+1) c):Rdd toks (stI op) (EB op x y) a c:=by
 obtain⟨h2,hl,hk⟩:=U7 h
 have e1:=fun full=>UI (full:=full) hl h2 hx.g hy.g
 have hlx:=hx.l
 have hly:=hy.l
 refine⟨N6 hl h2 hx.g hy.g,?_,?_,by omega⟩
 ·rw[e1,IE,Iw,Jp,Jp,hx.c,hy.c,hk]
  have:=Od hp
  rw[hst] at this
  have q1:=HV (toks:=toks) (a:=a) (b:=b) (c:=c) (by omega) (by omega)
  have q2:=HV (toks:=toks) (a:=b) (b:=b+1) (c:=c) (by omega) (by omega)
  omega
 ·rw[IG (show stI op<=stI (eop (EB op x y)) from Int.le_refl _),e1]
  simp only[A6K,A6E]
  have m1:=hx.m
  have m2:=hy.m
  omega
theorem Rdd.not{toks:List D}{x:D}{st:St}{b:Nat}(hp:isP toks st EF=true)(hx:Rdd toks 2 x (st.1+1) b):Rdd toks 2 (DX EF x) st.1 b:=by
 have hg:=Nv (op:=Cg) (.inr (.inl rfl)) hx.g
 have e1:=fun full=>oQ (full:=full) hg rfl
 have hl:=hx.l
 refine⟨hg,?_,?_,by omega⟩
 ·show A6t (tkC true (DX Cg x))=_
  rw[e1,Iw,Jp,show Aw (DX Cg x)=x from rfl,hx.c]
  have q1:=HV (toks:=toks) (a:=st.1) (b:=st.1+1) (c:=b) (by omega) (by omega)
  rw[q1,Od hp]
  rfl
 ·show(Bl false (stI Cg) 2 (tkC false (DX Cg x))).length<=_
  rw[IG (by decide),e1,show Aw (DX Cg x)=x from rfl]
  have m1:=hx.m
  simp only[A6E];omega
theorem Rdd.neg{toks:List D}{x:D}{st:St}{b:Nat}(hp:isP toks st [45]=true)(hx:Rdd toks 6 x (st.1+1) b):Rdd toks 6 (DX KU x) st.1 b:=by
 have hg:=Nv (op:=EO) (.inr (.inr rfl)) hx.g
 have e1:=fun full=>pZ (full:=full) hg rfl
 have hl:=hx.l
 refine⟨hg,?_,?_,by omega⟩
 ·show A6t (tkC true (DX EO x))=_
  rw[e1,Iw,Jp,show Aw (DX EO x)=x from rfl,hx.c]
  have q1:=HV (toks:=toks) (a:=st.1) (b:=st.1+1) (c:=b) (by omega) (by omega)
  rw[q1,Od hp]
  rfl
 ·show(Bl false (stI EO) 6 (tkC false (DX EO x))).length<=_
  rw[IG (by decide),e1,show Aw (DX EO x)=x from rfl]
  have m1:=hx.m
  simp only[A6E];omega
theorem Rdd.val{toks:List D}{v:D}{a b:Nat}{s:Int}(hs:s<=7)(hv:DI v)(h:EQ v=true)(hc:A6t (D9 v)=A6u toks a b)(hm:(D9 v).length<=b - a)(hl:a<b):Rdd toks s (EG v) a b:=by
 have e1:=fun full=>UN (full:=full) hv h
 obtain⟨e0,_⟩:=HI hv
 refine⟨Ms hv h,by rw[e1,hc],?_,hl⟩
 rw[e0,IG (by rw[show stI Bq=7 by decide];exact hs),e1];exact hm
theorem OF{v:D}{b:Bool}(h:vk v=2):D0 v b=(decide (0<=vi v)||(b&&decide (-9223372036854775808<vi v))):=by
 unfold D0;rw[if_pos (by rw[h];decide)]
theorem OZ{v:D}{b:Bool}(h:vk v≠2):D0 v b=((vk v==1)||(vk v==4)||((vk v==3)&&Ab 3 (vs v) 0)):=by
 unfold D0;rw[if_neg (by simpa using h)]
theorem RF{v:D}(h:vk v≠5)(h1:B9 v=true):EQ v=D0 v false:=by
 have hk:(vk v !=5)=true:=by simpa using h
 unfold EQ bS
 simp only[hk,if_true,h1,A68,A6C,if_false]
theorem RS{s:List UInt8}(h:Ab 3 s 0=true):Cr s= .agg [.int .i64 3,.int .i64 0,.str s,.nils]/\EQ (Cr s)=true/\D9 (Cr s)=[mkT 3 s 0]/\D0 (Cr s) true=true/\B9 (Cr s)=true:=by
 have hl:s.length<=64:=by
  unfold Ab at h
  simp only[show((3:Int)==1)=false from rfl,show((3:Int)==2)=false from rfl,A6C,if_false,beq_self_eq_true,if_true,A6D,decide_eq_true_eq] at h
  omega
 have e:Cr s= .agg [.int .i64 3,.int .i64 0,.str s,.nils]:=by
  unfold Cr
  rw[A7i hl,A6Z]
 rw[e]
 have a:∀b,D0 (.agg [.int .i64 3,.int .i64 0,.str s,.nils]) b=true:=fun b=>by
  rw[OZ (fun e=>by cases e),show vs (.agg [.int .i64 3,.int .i64 0,.str s,.nils])=s from rfl,h];rfl
 have b:B9 (.agg [.int .i64 3,.int .i64 0,.str s,.nils])=true:=by
  show((0:Int)==0&&decide ((s.length:Int)<=64))=true
  rw[show decide ((s.length:Int)<=64)=true by simp only[decide_eq_true_eq];omega];rfl
 refine⟨rfl,?_,rfl,a true,b⟩
 rw[RF (fun e=>by cases e) b,a]
structure Itm(v:D):Prop where
 b:D0 v true=true
 o:B9 v=true
 l:Cw v=true
 r:DI v
 c:A6t (Al v)=0
theorem OX{v:D}(h:Cw v=true):D9 v=Al v:=by unfold D9;rw[if_pos h]
theorem VT{xs:List D}{k:Int}(h:∀x∈xs,vk x=k)(hne:xs≠[]):vk0 xs=k:=by
 cases xs with
 | nil=>exact absurd rfl hne
 | cons x l=>exact h x (by simp)
theorem mD{P:D->Prop}(h:∀e,GoodE e->(∀x∈eps e,P x)->P e):∀e,GoodE e->P e:=by
 have key:∀(n:Nat) (e:D),isE n e->GoodE e->P e:=by
  intro n
  induction n with
  | zero=>intro e he;exact he.elim
  | succ n ih=>intro e he hg;exact h e hg fun x hx=>ih x (aN he x hx) (hg.parts.2.2.1 x hx)
 intro e hg
 obtain⟨n,hn⟩:=hg.t
 exact key n e hn hg
theorem eH{k:Int}{s:List UInt8}{n:Int}(h:s.length<=2^47)(hk: -(2^63)<=k/\k<2^63)(hn: -(2^63)<=n/\n<2^63):Aq (mkT k s n)=true:=by
 simp only[Aq,mkT,A6D,decide_eq_true_eq]
 exact⟨⟨h,hk⟩,hn⟩
theorem wT{s:List UInt8}(h:s.length<=2^47):Aq (mkT 1 s 0)=true:=eH h (by decide) (by decide)
theorem sT{s:List UInt8}(h:s.length<=2^47):Aq (mkT 5 s 0)=true:=eH h (by decide) (by decide)
theorem i9{v:D}(h:v.isV=true)(hr: -(2^63)<=vi v/\vi v<2^63):(Al v).all Aq=true:=by
 obtain⟨k,i,s,n,l,rfl,hs,_⟩:=d9 h
 simp only[Cl] at hr
 unfold Al
 simp only[CK,Cl,Cj]
 refine A6F.2 fun x hx=>?_
 (repeat' split at hx)<;>simp only[A62,A7e,or_false] at hx
 ·rw[hx];exact wT (by decide)
 ·rw[hx];exact wT (by decide)
 ·rcases hx with hx|hx
  ·rw[hx];exact sT (by decide)
  ·rw[hx];exact eH (by simp) (by decide) (mH _)
 ·rw[hx];exact eH (by simp) (by decide) hr
 ·rw[hx];exact eH hs (by decide) (by decide)
 ·rw[hx];exact eH (by simp) (by decide) hr
theorem R0{v:D}(h:DI v)(hb:EQ v=true)(hl:∀x∈vl v,-(2^63)<=vi x/\vi x<2^63):(D9 v).all Aq=true:=by
 unfold D9
 split
 ·exact i9 h.1 h.2
 ·obtain⟨k,i,s,n,l,rfl,hs,_,hV⟩:=d9 h.1
  simp only[C3] at hl ⊢
  refine A6F.2 fun x hx=>?_
  simp only[A62,A6P,A7e,or_false] at hx
  rcases hx with rfl|hx|rfl
  ·exact sT (by decide)
  ·rcases JX hx with rfl|⟨y,hy,hxy⟩
   ·exact sT (by decide)
   ·exact A6F.1 (i9 (hV y hy) (hl y hy)) x hxy
  ·exact sT (by decide)
def rgE:Nat->D->Prop
 | 0,_=>False
 | n+1,e=>(∀x∈vl (eV e),-(2^63)<=vi x/\vi x<2^63)/\∀x∈eps e,rgE n x
def rgC(e:D):Prop:=∃n,rgE n e
theorem rgC.v{e:D}(h:rgC e):∀x∈vl (eV e),-(2^63)<=vi x/\vi x<2^63:=by
 obtain⟨n,hn⟩:=h
 cases n with
 | zero=>exact hn.elim
 | succ n=>exact hn.1
theorem rgC.p{e:D}(h:rgC e):∀x∈eps e,rgC x:=by
 obtain⟨n,hn⟩:=h
 cases n with
 | zero=>exact hn.elim
 | succ n=>exact fun x hx=>⟨n,hn.2 x hx⟩
theorem wL{n:Nat}{e:D}(h:isE n e):(eop e).length<=2^47/\(Ca e).length<=2^47/\(BG e).length<=2^47/\DI (eV e):=by
 obtain⟨op,k,i,t,nl,l,who,name,m,ps,rfl,h1,h2,h3,h4,_⟩:=Aj h
 exact⟨h1,h2,h3,h4⟩
theorem dE{full:Bool}{s s':Int}{l:List D}(h:l.all Aq=true):(Bl full s s' l).all Aq=true:=by
 unfold Bl
 split
 ·exact h
 ·simp only[A6O,A6V,h,A65,A6I,A6G,A6D]
  exact⟨sT (by decide),sT (by decide)⟩
theorem nP{full:Bool}:∀e,GoodE e->rgC e->(tkC full e).all Aq=true:=by
 refine mD (P:=fun e=>rgC e->(tkC full e).all Aq=true) fun e hg ih hr=>?_
 obtain⟨l1,l2,l3,l4⟩:=wL hg.t.can
 rcases hg.op with g|g|g|g|g|g|g|g|g
 ·rw[oB hg g]
  exact R0 l4 (fN hg.parts.2.2.2 g).1 hr.v
 ·rw[pX hg g];simp only[A6O,A65,A6I];exact wT (by decide)
 ·rw[kG hg g];simp only[A6O,A65,A6I,A6D];exact⟨wT l2,sT (by decide),wT l3⟩
 ·rw[q8 hg g];simp only[A6O,A65,A6I,A6D]
  exact⟨wT (by decide),sT (by decide),wT l2,sT (by decide),wT l3,sT (by decide)⟩
 ·rw[lD hg g];simp only[A6O,A65,A6I,A6D]
  exact⟨wT (by decide),sT (by decide),eH l3 (by decide) (by decide),sT (by decide)⟩
 ·obtain⟨h1,x,hx,hs⟩:=hg.one (.inl g)
  have hm:Aw e∈eps e:=by rw[hx,hs];simp
  rw[lI hg g]
  simp only[A6O,A6V,ih _ hm (hr.p _ hm),A65,A6I,A6G,A6D]
  exact⟨wT (by decide),sT (by decide),sT (by decide)⟩
 ·obtain⟨h1,x,hx,hs⟩:=hg.one (.inr (.inl g))
  have hm:Aw e∈eps e:=by rw[hx,hs];simp
  rw[oQ hg g,A6O,dE (ih _ hm (hr.p _ hm)),A6I]
  exact wT (by decide)
 ·obtain⟨h1,x,hx,hs⟩:=hg.one (.inr (.inr g))
  have hm:Aw e∈eps e:=by rw[hx,hs];simp
  rw[pZ hg g,A6O,dE (ih _ hm (hr.p _ hm)),A6I]
  exact sT (by decide)
 ·obtain⟨h0,h1,m0,m1,_⟩:=hg.two g
  rw[o8 hg g,A6V,A6O,dE (ih _ m0 (hr.p _ m0)),dE (ih _ m1 (hr.p _ m1)),A6I,A6G]
  unfold Dq
  split
  ·exact wT l1
  ·exact sT l1
end GP
namespace GP
open Go Go.Proofs Go.Proofs.YtainhmbnbgonhaaGreatDoor
open Go.ChangeShapes Go.WideShapes Go.ChangeAt Go.RowKit
set_option maxRecDepth 100000
theorem Je:Tryz.prog.cellsOf 29=4:=by kernel_rfl
theorem TJ:Tryz.prog.cellsOf 27=1:=by kernel_rfl
theorem UG:Tryz.prog.cellsOf 30=1:=by kernel_rfl
theorem Gc:Tryz.prog.cellsOf 32=8:=by kernel_rfl
theorem Uh:1<=Tryz.prog.bytesOf 29:=of_decide_eq_true (by kernel_rfl)
theorem Ui:1<=Tryz.prog.bytesOf 32:=of_decide_eq_true (by kernel_rfl)
def Ts(d:D):Prop:=DI d/\∀x∈vl d,-(2^63)<=vi x/\vi x<2^63
theorem QV{l:D}(h:G6 DI l)(k i:Int)(s:List UInt8)(hs:s.length<=2^47)(h1: -(2^63)<=i)(h2:i<2^63):Ts (D.agg [.int .i64 k,.int .i64 i,.str s,l]):=by
 obtain⟨n,xs,rfl,hl,hx⟩:=h
 have hV:(D.agg [.int .i64 k,.int .i64 i,.str s,aV n xs]).isV=true:=OD (k:=k) (i:=i) (n:=n) hs hl fun x hq=>(hx x hq).1
 refine⟨⟨hV,h1,h2⟩,fun x hq=>?_⟩
 have hq:x∈vl (mkV k i s n xs):=hq
 rw[C3] at hq
 exact(hx x hq).2
theorem rdV(W:World):∀fuel,Rds Tryz.prog W 29 (fun ds=>Ts (D.agg ds)) fuel/\Rds Tryz.prog W 27 (K0 DI) fuel
 | 0=>⟨fun _ _ _ _ _ h _=>by simp[DataW.trod] at h,fun _ _ _ _ _ h _=>by simp[DataW.trod] at h⟩
 | fuel+1=>by
  obtain⟨h24,h22⟩:=rdV W fuel
  refine⟨?_,?_⟩
  ·refine(DW (P:=Tryz.prog) (w:=W) (φs:=[fun ds=>∃n,ds=[.int .i64 n]/\IntKind.i64.min<=n/\n<=IntKind.i64.max,fun ds=>∃n,ds=[.int .i64 n]/\IntKind.i64.min<=n/\n<=IntKind.i64.max,fun ds=>∃l,ds=[.str l]/\l.length<=2^47,K0 DI]) Tryz.underlying29 rfl ?_ ?_ ?_).imp ?_
   ·simp only[FL,MX,SV,DS,and_self,and_true,A7b,A7x]
   ·simp only[A63,A7r,MX,SV,DS,TJ,Je];rfl
   ·intro i f φ e1 e2
    match i with
    | 0=>simp at e1 e2;subst e1;subst e2;exact MB Tryz.underlying3 fuel
    | 1=>simp at e1 e2;subst e1;subst e2;exact MB Tryz.underlying2 fuel
    | 2=>simp at e1 e2;subst e1;subst e2;exact Bb Tryz.underlying9 fuel
    | 3=>simp at e1 e2;subst e1;subst e2;exact h22
    | i+4=>simp at e1
   ·rintro ds ⟨x1,y1,rfl,⟨k,rfl,_⟩,x2,y2,rfl,⟨i,rfl,i1,i2⟩,x3,y3,rfl,⟨s,rfl,hs⟩,x4,y4,rfl,⟨l,rfl,hl⟩,rfl⟩
    rw[Sy] at i1;rw[R3] at i2
    exact QV hl k i s hs (by omega) (by omega)
  ·exact(EJ (P:=Tryz.prog) (w:=W) (mk:=D.agg) (fun _=>rfl) (sz:=4) (by decide) Tryz.underlying27 Je Uh h24).imp fun ds hd=>HY (fun x (hx:Ts (D.agg x))=>hx.1) hd
theorem OJ{x:List D}(h:DI (D.agg x)):∃k i s n l,x=[.int .i64 k,.int .i64 i,.str s,aV n l]/\DI (mkV k i s n l):=by
 obtain⟨k,i,s,n,l,e,_⟩:=d9 h.1
 have:x=[.int .i64 k,.int .i64 i,.str s,aV n l]:=by unfold mkV at e;injection e
 subst this
 exact⟨k,i,s,n,l,rfl,h⟩
def Hq(n:Nat)(x:D):Prop:=isE n x/\rgE n x
theorem OC{n:Nat}{x:D}(h:Hq n x):Hq (n+1) x:=by
 refine⟨lY h.1,?_⟩
 have key:∀(n:Nat) (e:D),rgE n e->rgE (n+1) e:=by
  intro n
  induction n with
  | zero=>intro e h;exact h.elim
  | succ n ih=>intro e h;exact⟨h.1,fun x hx=>ih x (h.2 x hx)⟩
 exact key n x h.2
theorem rdE(W:World):∀fuel,Rds Tryz.prog W 32 (fun ds=>Hq fuel (D.agg ds)) fuel/\Rds Tryz.prog W 30 (K0 (Hq fuel)) fuel
 | 0=>⟨fun _ _ _ _ _ h _=>by simp[DataW.trod] at h,fun _ _ _ _ _ h _=>by simp[DataW.trod] at h⟩
 | fuel+1=>by
  obtain⟨hs,hl⟩:=rdE W fuel
  refine⟨?_,?_⟩
  ·refine(DW (P:=Tryz.prog) (w:=W) (φs:=[fun ds=>∃l,ds=[.str l]/\l.length<=2^47,fun ds=>Ts (D.agg ds),fun ds=>∃l,ds=[.str l]/\l.length<=2^47,fun ds=>∃l,ds=[.str l]/\l.length<=2^47,K0 (Hq fuel)]) Tryz.underlying32 rfl ?_ ?_ ?_).imp ?_
   ·simp only[FL,DS,Je,and_self,and_true,A7b,A7x]
   ·simp only[A63,A7r,DS,Je,UG,Gc];rfl
   ·intro i f φ e1 e2
    match i with
    | 0=>simp at e1 e2;subst e1;subst e2;exact Bb Tryz.underlying9 fuel
    | 1=>simp at e1 e2;subst e1;subst e2;exact(rdV W fuel).1
    | 2=>simp at e1 e2;subst e1;subst e2;exact Bb Tryz.underlying9 fuel
    | 3=>simp at e1 e2;subst e1;subst e2;exact Bb Tryz.underlying9 fuel
    | 4=>simp at e1 e2;subst e1;subst e2;exact hl
    | i+5=>simp at e1
   ·rintro ds ⟨x1,y1,rfl,⟨op,rfl,h1⟩,x2,y2,rfl,h2,x3,y3,rfl,⟨who,rfl,h3⟩,x4,y4,rfl,⟨name,rfl,h4⟩,x5,y5,rfl,⟨l,rfl,m,ps,rfl,h5,h6⟩,rfl⟩
    obtain⟨k,i,s,n,l,rfl,hv⟩:=OJ h2.1
    refine⟨⟨op,k,i,s,n,l,who,name,m,ps,rfl,h1,h3,h4,hv,h5,fun x hx=>(h6 x hx).1⟩,?_⟩
    show rgE (fuel+1) (mkE op k i s n l who name m ps)
    refine⟨?_,?_⟩
    ·rw[HR];exact h2.2
    ·rw[uG];exact fun x hx=>(h6 x hx).2
  ·exact(EJ (P:=Tryz.prog) (w:=W) (mk:=D.agg) (fun _=>rfl) (sz:=8) (by decide) Tryz.underlying30 Gc Ui hs).imp fun ds hd=>HY (fun x (hx:Hq fuel (D.agg x))=>OC hx) hd
theorem A5o(W:World):Arg Tryz.prog W 4 (fun d=>∃b,d= .bool b):=by
 intro H enc v d ps base h1 h2 h3
 obtain⟨x,k1,b,e⟩:=U5 Tryz.underlying4 rfl (φ:=fun ds=>∃b,ds=[.bool b]) (fun f=>GF Tryz.underlying4 f) H enc v d ps base h1 h2 h3
 injection e with e
 exact⟨_,k1,b,e⟩
end GP
namespace GP
open Go Go.Proofs
set_option maxRecDepth 100000
def G5(toks:List D)(st:St):List UInt8×St:=(ts (BP toks 1 st).1,(BP toks 1 st).2)
def Gs:GE:=fun rest toks a e=>match rest with
 | []=>some (.str (G5 toks (a,e)).1,(G5 toks (a,e)).2)
 | _=>none
theorem A0D:Am Tryz.prog 72 (φC Gs):=by
 have hM:B0 []:=.nil
 refine Ba (l:=[]) (m:=[]) (ee:=[(120,φC D5)]) .nil .nil (.cons Nb .nil) A3E fun H p n xs a e rest r a' e' hp htk hlen h=>?_
 unfold Gs at h
 split at h
 ·injection h with h
  have qa:=BY (n:=n) hp htk hlen;have qa0:=Au (n:=n) hp htk hlen;have ca:=BI (n:=n) hp htk hlen;have ca0:=B1 (n:=n) hp htk hlen;have rc:=C7 hp;have rc0:=BJ hp;have sc:=fun K:D->S->Prop=>CH (K:=K) hp;have sc0:=fun K:D->S->Prop=>BR (K:=K) hp
  obtain⟨k0,s0,n0,e0,_⟩:=Hy htk 1 (a,e)
  obtain⟨v,⟨a1,e1⟩,hy⟩:∃v st,BP xs 1 (a,e)=(v,st):=⟨_,_,rfl⟩
  rw[hy] at e0
  simp only at e0
  subst e0
  have h1:D5 [.int .i64 1] xs a e=some (mkT k0 s0 n0,a1,e1):=by simp only[D5,hy];rfl
  have f:G5 xs (a,e)=(s0,a1,e1):=by simp only[G5,hy,kE]
  rw[f] at h
  injection h with g1 g2;injection g2 with g2 g3
  subst g1;subst g2;subst g3
  simp only[mkT] at h1
  refine⟨by simp,by simp[D.cl],fun T=>?_⟩
  simp +contextual only[qa,qa0,ca,ca0,rc,rc0,sc,sc0,c72,h1,go_sem]
  all_goals ((repeat' (first|apply A7j|intro _))<;>(first|omega|exact lvM))
 ·cases h
def HJ(toks:List D)(st:St):Option (D×St):=match pLv 10000 .expr toks st with
 | none=>none
 | some (x,st1)=>some (x,if(st1.2==0)&&decide (12<dpt AK x) then Bj st.1 11 st1 else st1)
def Es:GE:=fun rest toks a e=>match rest with
 | []=>HJ toks (a,e)
 | _=>none
theorem V0:Am Tryz.prog 122 (φC Es):=by
 have hM:B0 []:=.nil
 refine Ba (l:=[(26,DM AK)]) (m:=[]) (ee:=[(49,φC (gOf (pLv 10000 .expr))),(105,φC DO)]) (.cons (XB AK N7) .nil) .nil (.cons (Yq 10000 (by omega)).1 (.cons JI .nil)) ZD fun H p n xs a e rest r a' e' hp htk hlen h=>?_
 unfold Es at h
 split at h
 ·have qa:=BY (n:=n) hp htk hlen;have qa0:=Au (n:=n) hp htk hlen;have ca:=BI (n:=n) hp htk hlen;have ca0:=B1 (n:=n) hp htk hlen;have rc:=C7 hp;have rc0:=BJ hp;have sc:=fun K:D->S->Prop=>CH (K:=K) hp;have sc0:=fun K:D->S->Prop=>BR (K:=K) hp
  unfold HJ at h
  split at h
  ·cases h
  ·rename_i x st1 hz
   obtain⟨a1,e1⟩:=st1
   have hx8:=Av 10000 .expr xs (a,e) _ htk hz
   have hxE:isE AK x:=b8 10000 .expr xs (a,e) _ htk hz
   have h1:gOf (pLv 10000 .expr) [] xs a e=some (x,a1,e1):=hz
   have pd:DM AK [x]=some (.int .i64 ((dpt AK x:Nat):Int)):=by simp only[DM];rw[if_pos hxE]
   have hf:DO [.int .i64 (a:Nat),.int .i64 11] xs a1 e1=some (.tup [],Bj a 11 (a1,e1)):=Mx a 11 xs a1 e1
   simp only at hx8
   have ee:=hx8.2.1
   have hcl:=hx8.2.2
   obtain⟨b0,b1,b2,b3,b4,b5,b6,b7,rfl⟩:=hx8.1
   injection h with h
   injection h with g1 g2
   subst g1
   refine⟨by simp,hcl,fun T=>?_⟩
   obtain⟨dp,hdp⟩:∃z,dpt AK (.agg [b0,b1,b2,b3,b4,b5,b6,b7])=z:=⟨_,rfl⟩
   rw[hdp] at pd g2
   rcases tf (e1==0) with g|g
   ·rcases tf (decide ((12:Int)<(dp:Nat))) with d|d
    ·have d':decide (12<dp)=true:=by simp only[decide_eq_true_eq] at d ⊢;omega
     simp only[g,d',A7y,if_true] at g2
     rw[g2] at hf
     simp +contextual only[qa,qa0,ca,ca0,rc,rc0,sc,sc0,Un,h1,pd,hf,g,d,ee,B5 hM,go_sem]
     refine AT ?_ ⟨_,rfl⟩ ⟨[],by simp⟩
     simp only[D.erase,D.eraseL] at ee ⊢
     rw[ee]
    ·have d':decide (12<dp)=false:=by simp only[decide_eq_false_iff_not] at d ⊢;omega
     simp only[g,d',Bool.and_false,A6C,if_false] at g2
     injection g2 with g2 g3;subst g2;subst g3
     simp +contextual only[qa,qa0,ca,ca0,rc,rc0,sc,sc0,Un,h1,pd,g,d,ee,B5 hM,go_sem]
     refine AT ?_ ⟨_,rfl⟩ ⟨[],by simp⟩
     simp only[D.erase,D.eraseL] at ee ⊢
     rw[ee]
   ·simp only[g,A7o,A6C,if_false] at g2
    injection g2 with g2 g3;subst g2;subst g3
    simp +contextual only[qa,qa0,ca,ca0,rc,rc0,sc,sc0,Un,h1,g,ee,go_sem]
    refine AT ?_ ⟨_,rfl⟩ ⟨[],by simp⟩
    simp only[D.erase,D.eraseL] at ee ⊢
    rw[ee]
 ·cases h
def Eh:List UInt8:=[116,114,117,116,104]
def Dk:List UInt8:=[110,117,109,98,101,114]
def G7:List UInt8:=[116,101,120,116]
def Fx:List UInt8:=[116,105,109,101]
def Js:List UInt8:=[98,97,103]
def Lh:List (List UInt8):=[Eh,Dk,G7,Fx]
def Ez(k:List UInt8):Int:=if k==Eh then 1 else if k==Dk then 2 else if k==G7 then 3 else if k==Fx then 4 else 0
def FG(toks:List D)(s:List UInt8)(st:St):Bool×St:=if isP toks st s then(true,(st.1+1,st.2)) else(false,st)
theorem FO(toks:List D)(s:List UInt8)(a:Nat)(e:Int):BE [.str s] toks a e=some (.bool (FG toks s (a,e)).1,(FG toks s (a,e)).2):=by
 simp only[BE,FG];split<;>rfl
def IN(toks:List D)(st:St):D×St :=
 let A:=Bk toks st
 let K:=D1 toks Lh A.2.2
 let B:=FG toks Js K.2
 (.agg [.str A.1,.str A.2.1,.int .i64 (Ez K.1),.bool B.1],AV toks [59] B.2)
def Mu:GE:=fun rest toks a e=>match rest with
 | []=>some (IN toks (a,e))
 | _=>none
theorem A5D:Am Tryz.prog 70 (φC Mu):=by
 have hM:B0 []:=.nil
 refine Ba (l:=[]) (m:=[]) (ee:=[(118,φC Gm),(119,φC JR),(69,φC BE),(71,φC At)]) .nil .nil (.cons VN (.cons R7 (.cons J3 (.cons Mn .nil)))) A32 fun H p n xs a e rest r a' e' hp htk hlen h=>?_
 unfold Mu at h
 split at h
 ·injection h with h
  have qa:=BY (n:=n) hp htk hlen;have qa0:=Au (n:=n) hp htk hlen;have ca:=BI (n:=n) hp htk hlen;have ca0:=B1 (n:=n) hp htk hlen;have rc:=C7 hp;have rc0:=BJ hp;have sc:=fun K:D->S->Prop=>CH (K:=K) hp;have sc0:=fun K:D->S->Prop=>BR (K:=K) hp
  obtain⟨w1,w2,⟨a1,e1⟩,hy1⟩:∃w1 w2 st1,Bk xs (a,e)=(w1,w2,st1):=⟨_,_,_,rfl⟩
  obtain⟨k,⟨a2,e2⟩,hy2⟩:∃k st2,D1 xs Lh (a1,e1)=(k,st2):=⟨_,_,rfl⟩
  obtain⟨b,⟨a3,e3⟩,hy3⟩:∃b st3,FG xs Js (a2,e2)=(b,st3):=⟨_,_,rfl⟩
  obtain⟨⟨a4,e4⟩,hy4⟩:∃st4,AV xs [59] (a3,e3)=st4:=⟨_,rfl⟩
  have f:IN xs (a,e)=(.agg [.str w1,.str w2,.int .i64 (Ez k),.bool b],a4,e4):=by
   simp only[IN,hy1,hy2,hy3,hy4]
  rw[f] at h
  injection h with g1 g2;injection g2 with g2 g3
  subst g1;subst g2;subst g3
  have h1:Gm [] xs a e=some (.tup [.str w1,.str w2],a1,e1):=by simp only[Gm,hy1]
  have h2:JR [.sl none [.str [116,114,117,116,104],.str [110,117,109,98,101,114],.str [116,101,120,116],.str [116,105,109,101]]] xs a1 e1=some (.str k,a2,e2):=by
   have:JR [.sl none [.str [116,114,117,116,104],.str [110,117,109,98,101,114],.str [116,101,120,116],.str [116,105,109,101]]] xs a1 e1=some (.str (D1 xs Lh (a1,e1)).1,(D1 xs Lh (a1,e1)).2):=rfl
   rw[this,hy2]
  have h3:BE [.str [98,97,103]] xs a2 e2=some (.bool b,a3,e3):=by
   rw[FO];rw[show FG xs [98,97,103] (a2,e2)=(b,(a3,e3)) from hy3]
  have h4:At [.str [59]] xs a3 e3=some (.tup [],a4,e4):=by simp only[At,hy4]
  refine⟨by simp,by simp[D.cl,D.clL],fun T=>?_⟩
  rcases tf (k==[116,114,117,116,104]) with k1|k1
  ·have kk:Ez k=1:=by simp only[Ez,Eh,Dk,G7,Fx,k1,A6C,if_false,if_true]
   rw[kk]
   simp +contextual only[qa,qa0,ca,ca0,rc,rc0,sc,sc0,c70,h1,h2,h3,h4,k1,go_sem]
   all_goals ((repeat' (first|apply A7j|intro _))<;>(first|omega|exact lvM))
  rcases tf (k==[110,117,109,98,101,114]) with k2|k2
  ·have kk:Ez k=2:=by simp only[Ez,Eh,Dk,G7,Fx,k1,k2,A6C,if_false,if_true]
   rw[kk]
   simp +contextual only[qa,qa0,ca,ca0,rc,rc0,sc,sc0,c70,h1,h2,h3,h4,k1,k2,go_sem]
   all_goals ((repeat' (first|apply A7j|intro _))<;>(first|omega|exact lvM))
  rcases tf (k==[116,101,120,116]) with k3|k3
  ·have kk:Ez k=3:=by simp only[Ez,Eh,Dk,G7,Fx,k1,k2,k3,A6C,if_false,if_true]
   rw[kk]
   simp +contextual only[qa,qa0,ca,ca0,rc,rc0,sc,sc0,c70,h1,h2,h3,h4,k1,k2,k3,go_sem]
   all_goals ((repeat' (first|apply A7j|intro _))<;>(first|omega|exact lvM))
  rcases tf (k==[116,105,109,101]) with k4|k4
  ·have kk:Ez k=4:=by simp only[Ez,Eh,Dk,G7,Fx,k1,k2,k3,k4,A6C,if_false,if_true]
   rw[kk]
   simp +contextual only[qa,qa0,ca,ca0,rc,rc0,sc,sc0,c70,h1,h2,h3,h4,k1,k2,k3,k4,go_sem]
   all_goals ((repeat' (first|apply A7j|intro _))<;>(first|omega|exact lvM))
  ·have kk:Ez k=0:=by simp only[Ez,Eh,Dk,G7,Fx,k1,k2,k3,k4,A6C,if_false,if_true]
   rw[kk]
   simp +contextual only[qa,qa0,ca,ca0,rc,rc0,sc,sc0,c70,h1,h2,h3,h4,k1,k2,k3,k4,go_sem]
   all_goals ((repeat' (first|apply A7j|intro _))<;>(first|omega|exact lvM))
 ·cases h
def J0(sz:Nat)(T:Tk)(i:Option Nat)(xs:List D)(d:D)(T':Tk):Prop:=match i with
 | none=>xs=[]/\d= .nils
 | some i=>xs≠[]/\T.length<=i/\d= .sl (some i) xs/\T'[i]? =some (some (xs.length,sz))
theorem Fu{sz bytes:Nat}{K:D->S->Prop}{t:Nat->D}{H:Hp}{T T':Tk}{i:Option Nat}{xs:List D}{d:D}(x:D)(h:J0 sz T i xs d T')(hE:AY T T')(hx:fit sz x=true)(hxs:xs.all (fit sz)=true)(hb:(xs.length+1)*bytes<=2^47)(hb2:xs.length+1<2^62)
  (k:∀d2 T2 i2,J0 sz T (some i2) (xs++[x]) d2 T2->AY T T2->(∀j,some j≠i->j<T'.length->T2[j]? =T'[j]?)->(T'.length<=i2∨some i2=i)->K d2 ⟨t,H,T2⟩):Eb sz bytes K ⟨t,H,T'⟩ d (some [x]):=by
 obtain⟨L,rfl⟩:=hE
 cases i with
 | none =>
  obtain⟨rfl,rfl⟩:=h
  rw[HN]
  refine⟨by simp[hx],by simpa using hb,by simp,k _ _ (T++L).length ⟨by simp,by simp,rfl,by simp⟩ ⟨L++[some (1,sz)],by simp⟩ (fun j _ hj=>?_) (.inl (A7p _))⟩
  rw[A6Y hj]
 | some i =>
  obtain⟨h0,h1,rfl,h3⟩:=h
  have hi:i<(T++L).length:=BB h3
  simp only[Eb]
  refine⟨by simp[hx],h3,by simpa using hb,by simpa using hb2,hxs,k _ _ i ⟨by simp,h1,rfl,?_⟩ ?_ (fun j hj hjl=>?_) (.inr rfl)⟩
  ·rw[A7g hi];simp
  ·refine⟨L.set (i - T.length) (some (xs.length+[x].length,sz)),?_⟩
   rw[A7k _ _ h1]
  ·have hne:i≠j:=fun e=>hj (by rw[e])
   rw[List.getElem?_set_ne hne]
theorem Ih{sz:Nat}{T T' T2:Tk}{i:Option Nat}{xs:List D}{d:D}(h:J0 sz T i xs d T')(hk:∀j,i=some j->T2[j]? =T'[j]?):J0 sz T i xs d T2:=by
 cases i with
 | none=>exact h
 | some i=>exact⟨h.1,h.2.1,h.2.2.1,by rw[hk i rfl];exact h.2.2.2⟩
theorem Ga{sz:Nat}{T T':Tk}{i:Nat}{xs:List D}{d:D}(h:J0 sz T (some i) xs d T'):i<T'.length:=BB h.2.2.2
theorem Cp{sz:Nat}{T T':Tk}{i:Option Nat}{xs:List D}{d:D}(h:J0 sz T i xs d T')(he:D.eraseL xs=xs):d.erase=aV true xs:=by
 cases i with
 | none=>obtain⟨rfl,rfl⟩:=h;rfl
 | some i =>
  obtain⟨h0,_,rfl,_⟩:=h
  have:xs.isEmpty=false:=by cases xs with
   | nil=>exact(h0 rfl).elim
   | cons=>rfl
  simp[aV,this,D.erase,he]
theorem Jq{sz:Nat}{T T':Tk}{i:Option Nat}{xs:List D}{d:D}(h:J0 sz T i xs d T'):C2 d=some xs.length:=by
 cases i with
 | none=>obtain⟨rfl,rfl⟩:=h;rfl
 | some i=>obtain⟨_,_,rfl,_⟩:=h;rfl
def Cv:List UInt8:=[100,117,116,121]
def dG:List UInt8:=[97,100,118,105,99,101]
def Eo(toks:List D):Nat->List (List UInt8)->List (List UInt8)->St->Option (List (List UInt8)×List (List UInt8)×St)
 | 0,_,_,_=>none
 | f+1,du,ad,st=>if st.2 !=0 then some (du,ad,st) else
  if isP toks st Cv then Eo toks f (du++[ts (BP toks 3 (st.1+1,st.2)).1]) ad (BP toks 3 (st.1+1,st.2)).2 else
  if isP toks st dG then Eo toks f du (ad++[ts (BP toks 3 (st.1+1,st.2)).1]) (BP toks 3 (st.1+1,st.2)).2 else
  some (du,ad,AV toks [59] st)
theorem Ix(toks:List D):∀(f:Nat) (du ad:List (List UInt8)) (st:St) (r:List (List UInt8)×List (List UInt8)×St),Eo toks f du ad st=some r->r.1.length+r.2.1.length<=du.length+ad.length+f
 | 0,_,_,_,_,h=>by simp[Eo] at h
 | f+1,du,ad,st,r,h=>by
  simp only[Eo] at h
  split at h
  ·injection h with h;subst h;simp only;omega
  ·split at h
   ·have:=Ix toks f _ _ _ r h;simp at this;omega
   ·split at h
    ·have:=Ix toks f _ _ _ r h;simp at this;omega
    ·injection h with h;subst h;simp only;omega
theorem Mj(l:List (List UInt8)):(l.map D.str).all (fit 1)=true:=by
 rw[A6F];intro x hx
 obtain⟨s,_,rfl⟩:=A6U.1 hx
 rfl
theorem oS(l:List (List UInt8)):D.eraseL (l.map D.str)=l.map D.str:=bF fun x hx=>by
 obtain⟨s,_,rfl⟩:=A6U.1 hx;rfl
theorem QM{X:BF}(hX:X=XE [] [] [(119,φC JR),(121,φC Dh),(69,φC BE),(122,φC Es),(120,φC D5),(71,φC At)]){H:Hp}{p:Nat}{n:Bool}{xs:List D}(hp:p<H.length)(htk:xs.all Aq=true)(hlen:xs.length<=600)(T:Tk)
  {pm hi:Bool} {nm:List UInt8} {x0 x1 x2 x3 x4 x5 x6 x7 y0:D} {Y:List D} (ee:(D.agg [x0,x1,x2,x3,x4,x5,x6,x7]).erase= .agg [x0,x1,x2,x3,x4,x5,x6,x7]) (hY:(Ob.row (y0::Y))= .row [.bool false,.str [],.bool false,.str [],.int .i64 0,.int .i64 0,.str [],.nils,.str [],.str [],.nils,.nils,.nils])
  {F:Nat} (hF:F<=10000) {a:Nat} {e:Int} {du ad:List (List UInt8)} {a':Nat} {e':Int} (hs:Eo xs F [] [] (a,e)=some (du,ad,(a',e'))) {t:Nat->D} {T0:Tk} (hT0:AY T T0) (t0:t 0= .ptr p 0) (t2:t 2= .ptr H.length 0) (t3:t 3= .ptr (H.length+1) 0) :
  W X (C.tl 4 Qt) (Ds [.inr (2,true,13)] (BV (.agg [.bool pm,.str nm,.bool hi,x0,x1,x2,x3,x4,x5,x6,x7,aV true (du.map .str),aV true (ad.map .str)]) (H.set p (.row [aV n xs,.int .i64 ((a':Nat):Int),.int .i64 e'])) T))
   ⟨t,H.set p (.row [aV n xs,.int .i64 ((a:Nat):Int),.int .i64 e])++[.row (y0::Y),.row [.bool pm,.str nm,.bool hi,x0,x1,x2,x3,x4,x5,x6,x7,.nils,.nils]],T0⟩:=by
 subst hX
 rw[hY]
 have hM:B0 []:=.nil
 have qa:=BY (n:=n) hp htk hlen;have qa0:=Au (n:=n) hp htk hlen;have ca:=BI (n:=n) hp htk hlen;have ca0:=B1 (n:=n) hp htk hlen;have rc:=C7 hp;have rc0:=BJ hp;have sc:=fun K:D->S->Prop=>CH (K:=K) hp;have sc0:=fun K:D->S->Prop=>BR (K:=K) hp
 have hlast:=Ix xs F [] [] (a,e) _ hs
 simp only[A6J,A7b] at hlast
 simp +contextual only[Qt,go_sem]
 refine Ap (fun i s'=>∃(b:Nat) (eb:Int) (u d:List (List UInt8)) (d1 d2:D) (i1 i2:Option Nat),s'.t 0= .ptr p 0/\s'.t 2= .ptr H.length 0/\s'.t 3= .ptr (H.length+1) 0 ∧
   s'.H=H.set p (.row [aV n xs,.int .i64 ((b:Nat):Int),.int .i64 eb])++[.row [.bool false,.str [],.bool false,.str [],.int .i64 0,.int .i64 0,.str [],.nils,.str [],.str [],.nils,.nils,.nils],.row [.bool pm,.str nm,.bool hi,x0,x1,x2,x3,x4,x5,x6,x7,d1,d2]]∧
   AY T s'.T/\J0 1 T i1 (u.map .str) d1 s'.T/\J0 1 T i2 (d.map .str) d2 s'.T/\(∀j,i1=some j->i2≠some j)/\Eo xs (F - i) u d (b,eb)=some (du,ad,(a',e'))/\i<=F/\u.length+d.length<=i) F
  ⟨0,a,e,[],[],.nils,.nils,none,none,t0,t2,t3,rfl,hT0,⟨rfl,rfl⟩,⟨rfl,rfl⟩,(fun j h=>by cases h),hs,by omega,by simp⟩
  (fun i s h=>by obtain⟨_,_,_,_,_,_,_,_,h⟩:=h;exact h.2.2.2.2.2.2.2.2.2.1) ?_ (Dc _ _ _)
 rintro i ⟨t',B,T'⟩ ⟨b,eb,u,d,d1,d2,i1,i2,r0,r2,r3,rfl,hE,hA1,hA2,hD,hz,hi',hul⟩
 simp only at r0 r2 r3 hE hA1 hA2
 obtain⟨k,hk⟩:∃k,F - i=k:=⟨_,rfl⟩
 rw[hk] at hz
 cases k with
 | zero=>simp[Eo] at hz
 | succ k =>
 simp only[Eo] at hz
 rcases tf (eb==0) with g|g
 ·have g':(eb !=0)=false:=by simpa using g
  rw[if_neg (by rw[g'];decide)] at hz
  have ek:F - (i+1)=k:=by omega
  obtain⟨v1,⟨b1,eb1⟩,hv1⟩:∃v1 st,BP xs 3 (b+1,eb)=(v1,st):=⟨_,_,rfl⟩
  obtain⟨k0,s0,n0,e0,_⟩:=Hy htk 3 (b+1,eb)
  rw[hv1] at e0 hz
  simp only at e0
  subst e0
  rw[kE] at hz
  simp only at hz
  have hk1:D5 [.int .i64 3] xs (b+1) eb=some (mkT k0 s0 n0,b1,eb1):=by simp only[D5,hv1];rfl
  simp only[mkT] at hk1
  have l1:=Jq hA1
  have l2:=Jq hA2
  rw[A6B] at l1 l2
  rcases tf (isP xs (b,eb) [100,117,116,121]) with gd|gd
  ·rw[if_pos (show isP xs (b,eb) Cv=true from gd)] at hz
   simp +contextual only[qa,qa0,ca,ca0,rc,rc0,sc,sc0,r0,r2,r3,BE,g,gd,hk1,l1,l2,go_sem]
   refine Fu (bytes:=16) (.str s0) hA1 hE rfl (Mj u) (by rw[A6B];omega) (by rw[A6B];omega) fun d3 T2 j3 hB hE2 hk2 hj=>?_
   obtain⟨hB0,hB1,rfl,hB3⟩:=hB
   simp +contextual only[qa,qa0,ca,ca0,rc,rc0,sc,sc0,r0,r2,r3,ek,go_sem]
   exact⟨b1,eb1,u++[s0],d,_,d2,some j3,i2,rfl,hE2,by rw[A7w];exact⟨hB0,hB1,rfl,hB3⟩,Ih hA2 (fun j hj2=>by
     subst hj2
     exact hk2 j (fun q=>hD j q.symm rfl) (Ga hA2)),(fun j q q2=>by
     injection q with q;subst q;subst q2
     rcases hj with hj|hj
     ·have:=Ga hA2;omega
     ·exact hD _ hj.symm rfl),hz,by omega,by simp;omega⟩
  ·rw[if_neg (by rw[show isP xs (b,eb) Cv=false from gd];decide)] at hz
   rcases tf (isP xs (b,eb) [97,100,118,105,99,101]) with gv|gv
   ·rw[if_pos (show isP xs (b,eb) dG=true from gv)] at hz
    simp +contextual only[qa,qa0,ca,ca0,rc,rc0,sc,sc0,r0,r2,r3,BE,g,gd,gv,hk1,l1,l2,go_sem]
    refine Fu (bytes:=16) (.str s0) hA2 hE rfl (Mj d) (by rw[A6B];omega) (by rw[A6B];omega) fun d3 T2 j3 hB hE2 hk2 hj=>?_
    obtain⟨hB0,hB1,rfl,hB3⟩:=hB
    simp +contextual only[qa,qa0,ca,ca0,rc,rc0,sc,sc0,r0,r2,r3,ek,go_sem]
    exact⟨b1,eb1,u,d++[s0],d1,_,i1,some j3,rfl,hE2,Ih hA1 (fun j hj2=>by
      subst hj2
      exact hk2 j (fun q=>hD j rfl q.symm) (Ga hA1)),by rw[A7w];exact⟨hB0,hB1,rfl,hB3⟩,(fun j q q2=>by
      injection q2 with q2;subst q2;subst q
      rcases hj with hj|hj
      ·have:=Ga hA1;omega
      ·exact hD _ rfl hj.symm),hz,by omega,by simp;omega⟩
   ·rw[if_neg (by rw[show isP xs (b,eb) dG=false from gv];decide)] at hz
    injection hz with hz
    injection hz with z1 hz;injection hz with z2 z3
    subst z1;subst z2
    have hmu:At [.str [59]] xs b eb=some (.tup [],a',e'):=by simp only[At,z3]
    have e1:=Cp hA1 (oS u)
    have e2:=Cp hA2 (oS d)
    simp +contextual only[qa,qa0,ca,ca0,rc,rc0,sc,sc0,r0,r2,r3,BE,g,gd,gv,hmu,go_sem]
    refine AT ?_ ⟨_,rfl⟩ hE
    simp only[D.erase,D.eraseL] at ee ⊢
    simp only[D.agg.injEq,A69.injEq,and_true] at ee
    obtain⟨q0,q1,q2,q3,q4,q5,q6,q7⟩:=ee
    rw[e1,e2,q0,q1,q2,q3,q4,q5,q6,q7]
 ·have g':(eb !=0)=true:=by simpa using g
  rw[if_pos g'] at hz
  injection hz with hz
  injection hz with z1 hz;injection hz with z2 hz;injection hz with z3 z4
  subst z1;subst z2;subst z3;subst z4
  have e1:=Cp hA1 (oS u)
  have e2:=Cp hA2 (oS d)
  simp +contextual only[qa,qa0,ca,ca0,rc,rc0,sc,sc0,r0,r2,r3,g,go_sem]
  refine AT ?_ ⟨_,rfl⟩ hE
  simp only[D.erase,D.eraseL] at ee ⊢
  simp only[D.agg.injEq,A69.injEq,and_true] at ee
  obtain⟨q0,q1,q2,q3,q4,q5,q6,q7⟩:=ee
  rw[e1,e2,q0,q1,q2,q3,q4,q5,q6,q7]
def aX:List UInt8:=[112,101,114,109,105,116]
def Ce:List UInt8:=[100,101,110,121]
def wIf:List UInt8:=[105,102]
def Lt(toks:List D)(b:Bool)(st:St):Option (D×St):=if b then HJ toks st else some (CO,st)
def Fy(F:Nat)(toks:List D)(st:St):Option (D×St) :=
 let K:=D1 toks [aX,Ce] st
 let N:=Cf toks K.2
 let I:=FG toks wIf N.2
 match Lt toks I.1 I.2 with
 | none=>none
 | some (x,st1)=>match Eo toks F [] [] st1 with
  | none=>none
  | some (du,ad,st2)=>some (.agg ([.bool (K.1==aX),.str N.1,.bool I.1]++x.cells++[aV true (du.map .str),aV true (ad.map .str)]),st2)
def Lb(F:Nat):GE:=fun rest toks a e=>match rest with
 | []=>Fy F toks (a,e)
 | _=>none
theorem PG(l:List (List UInt8)):(aV true (l.map D.str)).cl 0 0=true:=by
 rcases kM true (l.map D.str) with⟨_,e⟩|e
 ·rw[e];rfl
 ·rw[e]
  simp only[D.cl,A6D]
  have:∀l:List (List UInt8),D.clL 0 0 (l.map D.str)=true:=by
   intro l
   induction l with
   | nil=>rfl
   | cons x l ih=>simp[D.clL,D.cl,ih]
  simp[this]
theorem A0p(F:Nat)(hF:F<=10000):Am Tryz.prog 123 (φC (Lb F)):=by
 have hM:B0 []:=.nil
 refine Ba (l:=[]) (m:=[]) (ee:=[(119,φC JR),(121,φC Dh),(69,φC BE),(122,φC Es),(120,φC D5),(71,φC At)]) .nil .nil (.cons R7 (.cons Rp (.cons J3 (.cons V0 (.cons Nb (.cons Mn .nil)))))) Zg fun H p n xs a e rest r a' e' hp htk hlen h=>?_
 unfold Lb at h
 split at h
 ·have qa:=BY (n:=n) hp htk hlen;have qa0:=Au (n:=n) hp htk hlen;have ca:=BI (n:=n) hp htk hlen;have ca0:=B1 (n:=n) hp htk hlen;have rc:=C7 hp;have rc0:=BJ hp;have sc:=fun K:D->S->Prop=>CH (K:=K) hp;have sc0:=fun K:D->S->Prop=>BR (K:=K) hp
  unfold Fy at h
  obtain⟨w1,⟨a1,e1⟩,hy1⟩:∃w1 st1,D1 xs [aX,Ce] (a,e)=(w1,st1):=⟨_,_,rfl⟩
  obtain⟨w2,⟨a2,e2⟩,hy2⟩:∃w2 st2,Cf xs (a1,e1)=(w2,st2):=⟨_,_,rfl⟩
  obtain⟨b,⟨a3,e3⟩,hy3⟩:∃b st3,FG xs wIf (a2,e2)=(b,st3):=⟨_,_,rfl⟩
  simp only[hy1,hy2,hy3] at h
  split at h
  ·cases h
  rename_i x st4 hz
  obtain⟨a4,e4⟩:=st4
  split at h
  ·cases h
  rename_i du ad st5 hs
  obtain⟨a5,e5⟩:=st5
  injection h with h
  injection h with g1 g2;injection g2 with g2 g3
  subst g2;subst g3
  have h1:JR [.sl none [.str [112,101,114,109,105,116],.str [100,101,110,121]]] xs a e=some (.str w1,a1,e1):=by
   have:JR [.sl none [.str [112,101,114,109,105,116],.str [100,101,110,121]]] xs a e=some (.str (D1 xs [aX,Ce] (a,e)).1,(D1 xs [aX,Ce] (a,e)).2):=rfl
   rw[this,hy1]
  have h2:Dh [] xs a1 e1=some (.str w2,a2,e2):=by simp only[Dh,hy2]
  have h3:BE [.str [105,102]] xs a2 e2=some (.bool b,a3,e3):=by
   rw[FO];rw[show FG xs [105,102] (a2,e2)=(b,(a3,e3)) from hy3]
  have hx8:ex8 x:=by
   unfold Lt at hz
   split at hz
   ·unfold HJ at hz
    split at hz
    ·cases hz
    ·rename_i x' st1 hp'
     injection hz with hz;injection hz with hz _;subst hz
     exact Av 10000 .expr xs (a3,e3) _ htk hp'
   ·injection hz with hz;injection hz with hz _;subst hz
    exact⟨⟨_,_,_,_,_,_,_,_,rfl⟩,rfl,rfl⟩
  obtain⟨⟨b0,b1,b2,b3,b4,b5,b6,b7,rfl⟩,ee,hcl⟩:=hx8
  have hr:r= .agg [.bool (w1==aX),.str w2,.bool b,b0,b1,b2,b3,b4,b5,b6,b7,aV true (du.map .str),aV true (ad.map .str)]:=g1.symm
  subst hr
  refine⟨by simp,?_,fun T=>?_⟩
  ·simp only[D.cl,D.clL,PG,A6I,A6G] at hcl ⊢
   simpa using hcl
  rw[J6 4]
  have tail:=fun(t:Nat->D) (T0:Tk) hT0 t0 t2 t3=>QM (X:=XE [] [] [(119,φC JR),(121,φC Dh),(69,φC BE),(122,φC Es),(120,φC D5),(71,φC At)]) rfl (n:=n) hp htk hlen T (pm:=w1==aX) (hi:=b) (nm:=w2) (x0:=b0) (x1:=b1) (x2:=b2) (x3:=b3) (x4:=b4) (x5:=b5) (x6:=b6) (x7:=b7) ee (y0:=.bool false) (Y:=[.str [],.bool false,.str [],.int .i64 0,.int .i64 0,.str [],.nils,.str [],.str [],.nils,.nils,.nils]) rfl hF hs (t:=t) (T0:=T0) hT0 t0 t2 t3
  obtain⟨tl,htl⟩:∃z,C.tl 4 Qt=z:=⟨_,rfl⟩
  rw[htl] at tail ⊢
  obtain⟨Q,hQ⟩:∃Q,Ds [.inr (2,true,13)] (BV (.agg [.bool (w1==aX),.str w2,.bool b,b0,b1,b2,b3,b4,b5,b6,b7,aV true (du.map .str),aV true (ad.map .str)]) (H.set p (.row [aV n xs,.int .i64 ((a5:Nat):Int),.int .i64 e5])) T)=Q:=⟨_,rfl⟩
  rw[hQ] at tail ⊢
  obtain⟨pm,hpm⟩:∃z,(w1==aX)=z:=⟨_,rfl⟩
  rw[hpm] at tail
  have hpm':(w1==[112,101,114,109,105,116])=pm:=hpm
  cases b with
  | true =>
   have h4:Es [] xs a3 e3=some (.agg [b0,b1,b2,b3,b4,b5,b6,b7],a4,e4):=hz
   simp +contextual only[qa,qa0,ca,ca0,rc,rc0,sc,sc0,Qt,h1,h2,h3,h4,hpm',ee,go_sem]
   refine tail _ _ ?_ ?_ ?_ ?_
   ·exact⟨_,rfl⟩
   ·simp[upd,Ae]
   ·simp[upd,Ae]
   ·simp[upd,Ae]
  | false =>
   have hz':some ((CO,(a3,e3)):D×St)=some (.agg [b0,b1,b2,b3,b4,b5,b6,b7],(a4,e4)):=hz
   injection hz' with hz'
   injection hz' with z1 z2;injection z2 with z2 z3
   subst z2;subst z3
   simp only[CO] at z1
   injection z1 with z1
   simp only[A69.injEq,and_true] at z1
   obtain⟨rfl,rfl,rfl,rfl,rfl,rfl,rfl,rfl⟩:=z1
   simp +contextual only[qa,qa0,ca,ca0,rc,rc0,sc,sc0,Qt,h1,h2,h3,hpm',go_sem]
   refine tail _ _ ?_ ?_ ?_ ?_
   ·exact⟨_,rfl⟩
   ·simp[upd,Ae]
   ·simp[upd,Ae]
   ·simp[upd,Ae]
 ·cases h
def JK(r:D):Prop:=∃(pm:Bool) (nm:List UInt8) (hi:Bool) (b0 b1 b2 b3 b4 b5 b6 b7:D) (du ad:List (List UInt8)),r= .agg [.bool pm,.str nm,.bool hi,b0,b1,b2,b3,b4,b5,b6,b7,aV true (du.map D.str),aV true (ad.map D.str)]/\ex8 (.agg [b0,b1,b2,b3,b4,b5,b6,b7])
theorem MG{toks:List D}(ht:toks.all Aq=true){b:Bool}{st:St}{r:D×St}(h:Lt toks b st=some r):ex8 r.1:=by
 unfold Lt at h
 split at h
 ·unfold HJ at h
  split at h
  ·cases h
  ·rename_i x' st1 hp'
   injection h with h;subst h
   exact Av 10000 .expr toks st (x',st1) ht hp'
 ·injection h with h;subst h
  exact⟨⟨_,_,_,_,_,_,_,_,rfl⟩,rfl,rfl⟩
theorem Kr{F:Nat}{toks:List D}(ht:toks.all Aq=true){st:St}{r:D×St}(h:Fy F toks st=some r):JK r.1:=by
 unfold Fy at h
 simp only at h
 split at h
 ·cases h
 ·rename_i x st1 hz
  have hx:=MG ht hz
  split at h
  ·cases h
  ·rename_i du ad st2 _
   injection h with h;subst h
   obtain⟨⟨b0,b1,b2,b3,b4,b5,b6,b7,rfl⟩,ee,hc⟩:=hx
   exact⟨_,_,_,b0,b1,b2,b3,b4,b5,b6,b7,du,ad,rfl,⟨⟨_,_,_,_,_,_,_,_,rfl⟩,ee,hc⟩⟩
theorem LJ(l:List (List UInt8)):(aV true (l.map D.str)).erase=aV true (l.map D.str):=by
 rw[Ag,oS]
theorem IM{r:D}(h:JK r):fit 13 r=true/\r.erase=r/\r.cl 0 0=true/\r.okc=true/\r.cells.length=13:=by
 obtain⟨pm,nm,hi,b0,b1,b2,b3,b4,b5,b6,b7,du,ad,rfl,_,ee,hc⟩:=h
 refine⟨rfl,?_,?_,rfl,rfl⟩
 ·simp only[D.erase,D.eraseL,D.agg.injEq,A69.injEq,and_true] at ee
  obtain⟨q0,q1,q2,q3,q4,q5,q6,q7⟩:=ee
  simp only[D.erase,D.eraseL,LJ,q0,q1,q2,q3,q4,q5,q6,q7]
 ·simp only[D.cl,D.clL,PG,A6I,A6G] at hc ⊢
  simpa using hc
def Dy(P:Dz)(toks:List D):Nat->List D->St->Option (List D×St)
 | 0,_,_=>none
 | f+1,rs,st=>if st.2 !=0 then some (rs,st) else if isP toks st [125] then some (rs,(st.1+1,st.2)) else match P toks st with
  | none=>none
  | some (r,st1)=>Dy P toks f (rs++[r]) st1
theorem Pq{l:List D}(h:∀x∈l,JK x):l.all (fit 13)=true:=A6F.2 fun x hx=>(IM (h x hx)).1
theorem JH{l:List D}(h:∀x∈l,JK x):D.eraseL l=l:=bF fun x hx=>(IM (h x hx)).2.1
theorem Sw{F:Nat}{X:BF}(hX:X=XE [] [] [(121,φC Dh),(71,φC At),(72,φC Gs),(69,φC BE),(122,φC Es),(123,φC (Lb F))]){H:Hp}{p:Nat}{n:Bool}{xs:List D}(hp:p<H.length)(htk:xs.all Aq=true)(hlen:xs.length<=600)(T:Tk)
  {hi:Bool} {nm by' us:List UInt8} {x0 x1 x2 x3 x4 x5 x6 x7 y0:D} {Y:List D} (ee:(D.agg [x0,x1,x2,x3,x4,x5,x6,x7]).erase= .agg [x0,x1,x2,x3,x4,x5,x6,x7]) (hY:(Ob.row (y0::Y))= .row [.str [],.str [],.str [],.bool false,.str [],.int .i64 0,.int .i64 0,.str [],.nils,.str [],.str [],.nils,.nils])
  {G:Nat} (hG:G<=10000) {a:Nat} {e:Int} {rs:List D} {a':Nat} {e':Int} (hs:Dy (Fy F) xs G [] (a,e)=some (rs,(a',e'))) {t:Nat->D} {T0:Tk} (hT0:AY T T0) (t0:t 0= .ptr p 0) (t2:t 2= .ptr H.length 0) (t3:t 3= .ptr (H.length+1) 0) :
  W X (C.tl 8 c73) (Ds [.inr (2,true,13)] (BV (.agg [.str nm,.str by',.str us,.bool hi,x0,x1,x2,x3,x4,x5,x6,x7,aV true rs]) (H.set p (.row [aV n xs,.int .i64 ((a':Nat):Int),.int .i64 e'])) T))
   ⟨t,H.set p (.row [aV n xs,.int .i64 ((a:Nat):Int),.int .i64 e])++[.row (y0::Y),.row [.str nm,.str by',.str us,.bool hi,x0,x1,x2,x3,x4,x5,x6,x7,.nils]],T0⟩:=by
 subst hX
 rw[hY]
 have hM:B0 []:=.nil
 have qa:=BY (n:=n) hp htk hlen;have qa0:=Au (n:=n) hp htk hlen;have ca:=BI (n:=n) hp htk hlen;have ca0:=B1 (n:=n) hp htk hlen;have rc:=C7 hp;have rc0:=BJ hp;have sc:=fun K:D->S->Prop=>CH (K:=K) hp;have sc0:=fun K:D->S->Prop=>BR (K:=K) hp
 simp +contextual only[c73,go_sem]
 refine Ap (fun i s'=>∃(b:Nat) (eb:Int) (u:List D) (d1:D) (i1:Option Nat),s'.t 0= .ptr p 0/\s'.t 2= .ptr H.length 0/\s'.t 3= .ptr (H.length+1) 0 ∧
   s'.H=H.set p (.row [aV n xs,.int .i64 ((b:Nat):Int),.int .i64 eb])++[.row [.str [],.str [],.str [],.bool false,.str [],.int .i64 0,.int .i64 0,.str [],.nils,.str [],.str [],.nils,.nils],.row [.str nm,.str by',.str us,.bool hi,x0,x1,x2,x3,x4,x5,x6,x7,d1]]∧
   AY T s'.T/\J0 13 T i1 u d1 s'.T/\Dy (Fy F) xs (G - i) u (b,eb)=some (rs,(a',e'))/\i<=G/\u.length<=i/\∀x∈u,JK x) G
  ⟨0,a,e,[],.nils,none,t0,t2,t3,rfl,hT0,⟨rfl,rfl⟩,hs,by omega,by simp,by simp⟩
  (fun i s h=>by obtain⟨_,_,_,_,_,h⟩:=h;exact h.2.2.2.2.2.2.2.1) ?_ (Dc _ _ _)
 rintro i ⟨t',B,T'⟩ ⟨b,eb,u,d1,i1,r0,r2,r3,rfl,hE,hA1,hz,hi',hul,hrs⟩
 simp only at r0 r2 r3 hE hA1
 obtain⟨k,hk⟩:∃k,G - i=k:=⟨_,rfl⟩
 rw[hk] at hz
 have fin:∀{l:List D} {d:D},d.erase=aV true l->(D.agg [.str nm,.str by',.str us,.bool hi,x0,x1,x2,x3,x4,x5,x6,x7,d]).erase= .agg [.str nm,.str by',.str us,.bool hi,x0,x1,x2,x3,x4,x5,x6,x7,aV true l]:=fun e1=>by
  simp only[D.erase,D.eraseL,D.agg.injEq,A69.injEq,and_true] at ee
  obtain⟨q0,q1,q2,q3,q4,q5,q6,q7⟩:=ee
  simp only[D.erase,D.eraseL]
  rw[e1,q0,q1,q2,q3,q4,q5,q6,q7]
 cases k with
 | zero=>simp[Dy] at hz
 | succ k =>
 simp only[Dy] at hz
 have e1:=Cp hA1 (JH hrs)
 have l1:=Jq hA1
 rcases tf (eb==0) with g|g
 ·have g':(eb !=0)=false:=by simpa using g
  rw[if_neg (by rw[g'];decide)] at hz
  have ek:G - (i+1)=k:=by omega
  rcases tf (isP xs (b,eb) [125]) with gd|gd
  ·rw[if_pos gd] at hz
   injection hz with hz
   injection hz with z1 hz;injection hz with z3 z4
   subst z1;subst z3;subst z4
   simp +contextual only[qa,qa0,ca,ca0,rc,rc0,sc,sc0,r0,r2,r3,BE,g,gd,go_sem]
   exact AT (fin e1) ⟨_,rfl⟩ hE
  ·rw[if_neg (by rw[gd];decide)] at hz
   split at hz
   ·cases hz
   rename_i r st1 hr
   obtain⟨b1,eb1⟩:=st1
   have hS:=Kr htk hr
   obtain⟨f1,f2,f3,f4,f5⟩:=IM hS
   have hr1:Lb F [] xs b eb=some (r,b1,eb1):=hr
   simp +contextual only[qa,qa0,ca,ca0,rc,rc0,sc,sc0,r0,r2,r3,BE,g,gd,hr1,l1,f2,f4,f5,go_sem]
   refine Fu (bytes:=208) r hA1 hE f1 (Pq hrs) (by omega) (by omega) fun d3 T2 j3 hB hE2 hk2 hj=>?_
   obtain⟨hB0,hB1,rfl,hB3⟩:=hB
   simp +contextual only[qa,qa0,ca,ca0,rc,rc0,sc,sc0,r0,r2,r3,ek,go_sem]
   exact⟨b1,eb1,u++[r],_,some j3,rfl,hE2,⟨hB0,hB1,rfl,hB3⟩,hz,by omega,by simp;omega,(fun x hx=>by
    rcases A6P.1 hx with hx|hx
    ·exact hrs x hx
    ·rw[A6H] at hx;subst hx;exact hS)⟩
 ·have g':(eb !=0)=true:=by simpa using g
  rw[if_pos g'] at hz
  injection hz with hz
  injection hz with z1 hz;injection hz with z3 z4
  subst z1;subst z3;subst z4
  simp +contextual only[qa,qa0,ca,ca0,rc,rc0,sc,sc0,r0,r2,r3,g,go_sem]
  exact AT (fin e1) ⟨_,rfl⟩ hE
def wBy:List UInt8:=[98,121]
def Ea:List UInt8:=[117,115,101]
def JP:List UInt8:=[102,111,114]
def lQ(F G:Nat)(toks:List D)(st:St):Option (D×St) :=
 let N:=Cf toks st
 let Y:=Cf toks (AV toks wBy N.2)
 let W:=G5 toks (AV toks Ea Y.2)
 let I:=FG toks JP (AV toks [123] W.2)
 match Lt toks I.1 I.2 with
 | none=>none
 | some (x,st1)=>match Dy (Fy F) toks G [] (if I.1 then AV toks [59] st1 else st1) with
  | none=>none
  | some (rs,st2)=>some (.agg ([.str N.1,.str Y.1,.str W.1,.bool I.1]++x.cells++[aV true rs]),st2)
def Jd(F G:Nat):GE:=fun rest toks a e=>match rest with
 | []=>lQ F G toks (a,e)
 | _=>none
theorem KR{F:Nat}{toks:List D}(ht:toks.all Aq=true):∀(f:Nat) (rs:List D) (st:St) (r:List D×St),(∀x∈rs,JK x)->Dy (Fy F) toks f rs st=some r->∀x∈r.1,JK x
 | 0,_,_,_,_,h=>by simp[Dy] at h
 | f+1,rs,st,r,hr,h=>by
  simp only[Dy] at h
  split at h
  ·injection h with h;subst h;exact hr
  ·split at h
   ·injection h with h;subst h;exact hr
   ·split at h
    ·cases h
    ·rename_i x st1 hx
     exact KR ht f _ _ r (fun y hy=>by
      rcases A6P.1 hy with hy|hy
      ·exact hr y hy
      ·rw[A6H] at hy;subst hy;exact Kr ht hx) h
theorem PT{l:List D}(h:∀x∈l,x.cl 0 0=true):(aV true l).cl 0 0=true:=by
 have hl:∀l:List D,(∀x∈l,x.cl 0 0=true)->D.clL 0 0 l=true:=by
  intro l
  induction l with
  | nil=>intro _;rfl
  | cons x l ih=>intro h;simp only[D.clL,h x (by simp),ih fun y hy=>h y (by simp[hy]),A7y]
 rcases kM true l with⟨_,e⟩|e
 ·rw[e];rfl
 ·rw[e];simp only[D.cl,hl l h];rfl
theorem A3F(F G:Nat)(hF:F<=10000)(hG:G<=10000):Am Tryz.prog 73 (φC (Jd F G)):=by
 have hM:B0 []:=.nil
 refine Ba (l:=[]) (m:=[]) (ee:=[(121,φC Dh),(71,φC At),(72,φC Gs),(69,φC BE),(122,φC Es),(123,φC (Lb F))]) .nil .nil (.cons Rp (.cons Mn (.cons A0D (.cons J3 (.cons V0 (.cons (A0p F hF) .nil)))))) A5O fun H p n xs a e rest r a' e' hp htk hlen h=>?_
 unfold Jd at h
 split at h
 ·have qa:=BY (n:=n) hp htk hlen;have qa0:=Au (n:=n) hp htk hlen;have ca:=BI (n:=n) hp htk hlen;have ca0:=B1 (n:=n) hp htk hlen;have rc:=C7 hp;have rc0:=BJ hp;have sc:=fun K:D->S->Prop=>CH (K:=K) hp;have sc0:=fun K:D->S->Prop=>BR (K:=K) hp
  unfold lQ at h
  obtain⟨w1,⟨a1,e1⟩,hy1⟩:∃w1 st1,Cf xs (a,e)=(w1,st1):=⟨_,_,rfl⟩
  obtain⟨⟨a2,e2⟩,hy2⟩:∃st2,AV xs wBy (a1,e1)=st2:=⟨_,rfl⟩
  obtain⟨w3,⟨a3,e3⟩,hy3⟩:∃w3 st3,Cf xs (a2,e2)=(w3,st3):=⟨_,_,rfl⟩
  obtain⟨⟨a4,e4⟩,hy4⟩:∃st4,AV xs Ea (a3,e3)=st4:=⟨_,rfl⟩
  obtain⟨w5,⟨a5,e5⟩,hy5⟩:∃w5 st5,G5 xs (a4,e4)=(w5,st5):=⟨_,_,rfl⟩
  obtain⟨⟨a6,e6⟩,hy6⟩:∃st6,AV xs [123] (a5,e5)=st6:=⟨_,rfl⟩
  obtain⟨b,⟨a7,e7⟩,hy7⟩:∃b st7,FG xs JP (a6,e6)=(b,st7):=⟨_,_,rfl⟩
  simp only[hy1,hy2,hy3,hy4,hy5,hy6,hy7] at h
  split at h
  ·cases h
  rename_i x st8 hz
  obtain⟨a8,e8⟩:=st8
  split at h
  ·cases h
  rename_i rs st9 hs
  obtain⟨a9,e9⟩:=st9
  injection h with h
  injection h with g1 g2;injection g2 with g2 g3
  subst g2;subst g3
  have h1:Dh [] xs a e=some (.str w1,a1,e1):=by simp only[Dh,hy1]
  have h2:At [.str [98,121]] xs a1 e1=some (.tup [],a2,e2):=by simp only[At];rw[show AV xs [98,121] (a1,e1)=(a2,e2) from hy2]
  have h3:Dh [] xs a2 e2=some (.str w3,a3,e3):=by simp only[Dh,hy3]
  have h4:At [.str [117,115,101]] xs a3 e3=some (.tup [],a4,e4):=by simp only[At];rw[show AV xs [117,115,101] (a3,e3)=(a4,e4) from hy4]
  have h5:Gs [] xs a4 e4=some (.str w5,a5,e5):=by simp only[Gs,hy5]
  have h6:At [.str [123]] xs a5 e5=some (.tup [],a6,e6):=by simp only[At,hy6]
  have h7:BE [.str [102,111,114]] xs a6 e6=some (.bool b,a7,e7):=by
   rw[FO];rw[show FG xs [102,111,114] (a6,e6)=(b,(a7,e7)) from hy7]
  have hx8:ex8 x:=MG htk hz
  have hrs:=KR htk G [] _ (rs,(a9,e9)) (by simp) hs
  obtain⟨⟨b0,b1,b2,b3,b4,b5,b6,b7,rfl⟩,ee,hcl⟩:=hx8
  have hr:r= .agg [.str w1,.str w3,.str w5,.bool b,b0,b1,b2,b3,b4,b5,b6,b7,aV true rs]:=g1.symm
  subst hr
  refine⟨by simp,?_,fun T=>?_⟩
  ·have q:=PT fun x hx=>(IM (hrs x hx)).2.2.1
   simp only[D.cl,D.clL,q,A6I,A6G] at hcl ⊢
   simpa using hcl
  rw[J6 8]
  obtain⟨⟨aa,eb⟩,hst⟩:∃st,(if b=true then AV xs [59] (a8,e8) else(a8,e8))=st:=⟨_,rfl⟩
  rw[hst] at hs
  have tail:=fun(t:Nat->D) (T0:Tk) hT0 t0 t2 t3=>Sw (F:=F) (X:=XE [] [] [(121,φC Dh),(71,φC At),(72,φC Gs),(69,φC BE),(122,φC Es),(123,φC (Lb F))]) rfl (n:=n) hp htk hlen T (hi:=b) (nm:=w1) (by':=w3) (us:=w5) (x0:=b0) (x1:=b1) (x2:=b2) (x3:=b3) (x4:=b4) (x5:=b5) (x6:=b6) (x7:=b7) ee (y0:=.str []) (Y:=[.str [],.str [],.bool false,.str [],.int .i64 0,.int .i64 0,.str [],.nils,.str [],.str [],.nils,.nils]) rfl hG hs (t:=t) (T0:=T0) hT0 t0 t2 t3
  obtain⟨tl,htl⟩:∃z,C.tl 8 c73=z:=⟨_,rfl⟩
  rw[htl] at tail ⊢
  obtain⟨Q,hQ⟩:∃Q,Ds [.inr (2,true,13)] (BV (.agg [.str w1,.str w3,.str w5,.bool b,b0,b1,b2,b3,b4,b5,b6,b7,aV true rs]) (H.set p (.row [aV n xs,.int .i64 ((a9:Nat):Int),.int .i64 e9])) T)=Q:=⟨_,rfl⟩
  rw[hQ] at tail ⊢
  cases b with
  | true =>
   have h8:Es [] xs a7 e7=some (.agg [b0,b1,b2,b3,b4,b5,b6,b7],a8,e8):=hz
   have h9:At [.str [59]] xs a8 e8=some (.tup [],aa,eb):=by simp only[At];rw[show AV xs [59] (a8,e8)=(aa,eb) from hst]
   simp +contextual only[qa,qa0,ca,ca0,rc,rc0,sc,sc0,c73,h1,h2,h3,h4,h5,h6,h7,h8,h9,ee,go_sem]
   refine tail _ _ ?_ ?_ ?_ ?_
   ·exact⟨_,(A7l _).symm⟩
   ·simp[upd,Ae]
   ·simp[upd,Ae]
   ·simp[upd,Ae]
  | false =>
   have hz':some ((CO,(a7,e7)):D×St)=some (.agg [b0,b1,b2,b3,b4,b5,b6,b7],(a8,e8)):=hz
   have hst':(a8,e8)=(aa,eb):=hst
   injection hst' with s1 s2
   subst s1;subst s2
   injection hz' with hz'
   injection hz' with z1 z2;injection z2 with z2 z3
   subst z2;subst z3
   simp only[CO] at z1
   injection z1 with z1
   simp only[A69.injEq,and_true] at z1
   obtain⟨rfl,rfl,rfl,rfl,rfl,rfl,rfl,rfl⟩:=z1
   simp +contextual only[qa,qa0,ca,ca0,rc,rc0,sc,sc0,c73,h1,h2,h3,h4,h5,h6,h7,go_sem]
   refine tail _ _ ?_ ?_ ?_ ?_
   ·exact⟨_,(A7l _).symm⟩
   ·simp[upd,Ae]
   ·simp[upd,Ae]
   ·simp[upd,Ae]
 ·cases h
def Ef:List UInt8:=[102,97,99,116]
def gN:List UInt8:=[112,111,108,105,99,121]
def EP(P:Dz)(w:List UInt8)(toks:List D):Nat->List D->St->Option (List D×St)
 | 0,_,_=>none
 | f+1,xs,st=>if isP toks st w then match P toks (st.1+1,st.2) with
  | none=>none
  | some (x,st1)=>EP P w toks f (xs++[x]) st1
  else some (xs,st)
def IX:Dz:=fun toks st=>some (IN toks st)
def My(x:D):Prop:=∃(w n:List UInt8) (k:Int) (b:Bool),x= .agg [.str w,.str n,.int .i64 k,.bool b]
theorem KM(toks:List D)(st:St):My (IN toks st).1:=⟨_,_,_,_,rfl⟩
theorem Jh{r:D}(h:My r):fit 4 r=true/\r.erase=r/\r.cl 0 0=true/\r.okc=true/\r.cells.length=4:=by
 obtain⟨w,n,k,b,rfl⟩:=h
 exact⟨rfl,rfl,rfl,rfl,rfl⟩
def Sv(r:D):Prop:=∃(nm by' us:List UInt8) (hi:Bool) (b0 b1 b2 b3 b4 b5 b6 b7:D) (rs:List D),r= .agg [.str nm,.str by',.str us,.bool hi,b0,b1,b2,b3,b4,b5,b6,b7,aV true rs]/\ex8 (.agg [b0,b1,b2,b3,b4,b5,b6,b7])/\∀x∈rs,JK x
theorem LM{F G:Nat}{toks:List D}(ht:toks.all Aq=true){st:St}{r:D×St}(h:lQ F G toks st=some r):Sv r.1:=by
 unfold lQ at h
 simp only at h
 split at h
 ·cases h
 ·rename_i x st1 hz
  have hx:=MG ht hz
  split at h
  ·cases h
  ·rename_i rs st2 hs
   have hrs:=KR ht G [] _ (rs,st2) (by simp) hs
   injection h with h;subst h
   obtain⟨⟨b0,b1,b2,b3,b4,b5,b6,b7,rfl⟩,ee,hc⟩:=hx
   exact⟨_,_,_,_,b0,b1,b2,b3,b4,b5,b6,b7,rs,rfl,⟨⟨_,_,_,_,_,_,_,_,rfl⟩,ee,hc⟩,hrs⟩
theorem M5{r:D}(h:Sv r):fit 13 r=true/\r.erase=r/\r.cl 0 0=true/\r.okc=true/\r.cells.length=13:=by
 obtain⟨nm,by',us,hi,b0,b1,b2,b3,b4,b5,b6,b7,rs,rfl,⟨_,ee,hc⟩,hrs⟩:=h
 have q:=PT fun x hx=>(IM (hrs x hx)).2.2.1
 refine⟨rfl,?_,?_,rfl,rfl⟩
 ·simp only[D.erase,D.eraseL,D.agg.injEq,A69.injEq,and_true] at ee
  obtain⟨q0,q1,q2,q3,q4,q5,q6,q7⟩:=ee
  simp only[D.erase,D.eraseL,Ag,JH hrs,q0,q1,q2,q3,q4,q5,q6,q7]
 ·simp only[D.cl,D.clL,q,A6I,A6G] at hc ⊢
  simpa using hc
theorem MY{P:Dz}{p:D->Prop}{w:List UInt8}{toks:List D}(hP:∀st r,P toks st=some r->p r.1):∀(f:Nat) (xs:List D) (st:St) (r:List D×St),(∀x∈xs,p x)->EP P w toks f xs st=some r->∀x∈r.1,p x
 | 0,_,_,_,_,h=>by simp[EP] at h
 | f+1,xs,st,r,hx,h=>by
  simp only[EP] at h
  split at h
  ·split at h
   ·cases h
   ·rename_i x st1 hy
    exact MY hP f _ _ r (fun y hy'=>by
     rcases A6P.1 hy' with hy'|hy'
     ·exact hx y hy'
     ·rw[A6H] at hy';subst hy';exact hP _ _ hy) h
  ·injection h with h;subst h;exact hx
def bA:D:=.agg [.nils,.str [],.nils]
def W8(F G:Nat)(toks:List D)(st:St):Option (D×Nat×Int):=match EP IX Ef toks G [] st with
 | none=>none
 | some (fs,st1)=>match EP (lQ F G) gN toks G [] (AV toks [59] (G5 toks (AV toks Ea st1)).2) with
  | none=>none
  | some (ps,st4)=>some (if(Gk toks st4).2 !=0 then(bA,(Gk toks st4).1,(Gk toks st4).2) else(.agg [aV true fs,.str (G5 toks (AV toks Ea st1)).1,aV true ps],0,0))
def oW(toks:List D):Option (D×Nat×Int):=if 600<toks.length then some (bA,0,13) else W8 1000 1000 toks (0,0)
def G8:List D->Option D
 | [l]=>if M8 l&&(elems l).all Aq&&decide ((elems l).length<=2^40) then(oW (elems l)).map fun r=>.tup [r.1,.int .i64 (r.2.1:Nat),.int .i64 r.2.2] else none
 | _=>none
theorem A4W:AQ Tryz.prog 31 G8:=by
 refine WM (l:=[]) (m:=[]) (e:=[(69,φC BE),(70,φC Mu),(71,φC At),(72,φC Gs),(73,φC (Jd 1000 1000)),(50,φC SK)]) .nil .nil (.cons J3 (.cons A5D (.cons Mn (.cons A0D (.cons (A3F 1000 1000 (by omega) (by omega)) (.cons A5x .nil)))))) A3S fun args r h=>?_
 have hM:B0 []:=.nil
 unfold G8 at h
 split at h
 ·rename_i l
  split at h
  ·rename_i hc
   simp only[A6D,decide_eq_true_eq] at hc
   obtain⟨⟨hs,htk⟩,hlen⟩:=hc
   obtain⟨n,hn⟩:=EL hs
   obtain⟨xs,hx⟩:∃xs,elems l=xs:=⟨_,rfl⟩
   rw[hx] at htk hlen hn h
   subst hn
   unfold oW at h
   split at h
   ·rename_i g
    have d:decide ((600:Int)<xs.length)=true:=by simp only[decide_eq_true_eq];omega
    injection h with h
    simp only at h
    subst h
    refine⟨by simp,rfl,fun H T=>?_⟩
    simp +contextual only[c31,d,bA,go_sem]
    exact lvM
   ·rename_i g
    have hl:xs.length<=600:=by omega
    have d:decide ((600:Int)<xs.length)=false:=by simp only[decide_eq_false_iff_not];omega
    have htq:=mC htk
    unfold W8 at h
    split at h
    ·cases h
    rename_i fs st1 hfs
    obtain⟨a1,e1⟩:=st1
    obtain⟨⟨a2,e2⟩,hy2⟩:∃st,AV xs Ea (a1,e1)=st:=⟨_,rfl⟩
    obtain⟨w,⟨a3,e3⟩,hy3⟩:∃w st,G5 xs (a2,e2)=(w,st):=⟨_,_,rfl⟩
    obtain⟨⟨a4,e4⟩,hy4⟩:∃st,AV xs [59] (a3,e3)=st:=⟨_,rfl⟩
    simp only[hy2,hy3,hy4] at h
    split at h
    ·cases h
    rename_i ps st5 hps
    obtain⟨a5,e5⟩:=st5
    obtain⟨⟨a6,e6⟩,hy6⟩:∃st,Gk xs (a5,e5)=st:=⟨_,rfl⟩
    simp only[hy6,A7m,Option.some.injEq] at h
    have hfS:=MY (p:=My) (fun st r (h:IX xs st=some r)=>by
     unfold IX at h;injection h with h;rw[<- h];exact KM _ _) 1000 [] _ (fs,(a1,e1)) (by simp) hfs
    have hpS:=MY (p:=Sv) (fun st r h=>LM htk h) 1000 [] _ (ps,(a5,e5)) (by simp) hps
    have hfc:=PT fun x hx=>(Jh (hfS x hx)).2.2.1
    have hpc:=PT fun x hx=>(M5 (hpS x hx)).2.2.1
    refine⟨by simp,?_,fun H T=>?_⟩
    ·rw[<- h]
     split<;>simp[D.cl,D.clL,bA,hfc,hpc]
    simp +contextual only[c31,d,go_sem]
    refine Ap (fun i s'=>∃(b:Nat) (eb:Int) (u:List D) (d1:D) (i1:Option Nat),s'.t 2= .ptr H.length 0/\s'.t 5= .ptr (H.length+1) 0/\s'.t 6= .ptr (H.length+2) 0 ∧
      s'.H=H++[.row [.nils,.str [],.nils],.row [aV n xs,.int .i64 ((b:Nat):Int),.int .i64 eb],.row [d1,.str [],.nils]]∧
      AY T s'.T/\J0 4 T i1 u d1 s'.T/\EP IX Ef xs (1000 - i) u (b,eb)=some (fs,(a1,e1))/\i<=1000/\u.length<=i/\∀x∈u,My x) 1000
     ⟨0,0,0,[],.nils,none,by simp[upd,Ae],by simp[upd,Ae],by simp[upd,Ae],rfl,AY.refl _,⟨rfl,rfl⟩,hfs,by omega,by simp,by simp⟩
     (fun i s h=>by obtain⟨_,_,_,_,_,h⟩:=h;exact h.2.2.2.2.2.2.2.1) ?_ (Dc _ _ _)
    rintro i ⟨t',B,T'⟩ ⟨b,eb,u,d1,i1,r2,r5,r6,rfl,hE,hA1,hz,hi',hul,hus⟩
    simp only at r2 r5 r6 hE hA1
    have cc:=fun(g:GE) (rest:List D) (b:Nat) (eb:Int) (d:List D) (r:D) (a':Nat) (e':Int) (h:g rest xs b eb=some (r,a',e'))=>Uo (n:=n) (A:=H++[.row [.nils,.str [],.nils]]) (B:=[.row d]) htk hl g rest b eb h
    simp only[A6K,A6E,A6J,A6Q,A7f,A61,A7b] at cc
    obtain⟨k,hk⟩:∃k,1000 - i=k:=⟨_,rfl⟩
    rw[hk] at hz
    cases k with
    | zero=>simp[EP] at hz
    | succ k =>
    simp only[EP] at hz
    have ek:1000 - (i+1)=k:=by omega
    rcases tf (isP xs (b,eb) Ef) with gd|gd
    ·rw[if_pos gd] at hz
     obtain⟨x,⟨b1,eb1⟩,hx1⟩:∃x st,IN xs (b+1,eb)=(x,st):=⟨_,_,rfl⟩
     have hxS:My x:=by have:=KM xs (b+1,eb);rw[hx1] at this;exact this
     obtain⟨f1,f2,f3,f4,f5⟩:=Jh hxS
     simp only[IX,hx1] at hz
     have m1:BE [.str [102,97,99,116]] xs b eb=some (.bool true,b+1,eb):=by rw[FO];unfold FG;rw[show isP xs (b,eb) [102,97,99,116]=true from gd];rfl
     have m2:Mu [] xs (b+1) eb=some (x,b1,eb1):=by simp only[Mu,hx1]
     have c1:=cc _ _ _ _ [d1,.str [],.nils] _ _ _ m1
     have c2:=cc _ _ _ _ [d1,.str [],.nils] _ _ _ m2
     simp +contextual only[r2,r5,r6,c1,c2,f2,f4,f5,go_sem]
     refine Fu (bytes:=48) x hA1 hE f1 (A6F.2 fun y hy=>(Jh (hus y hy)).1) (by omega) (by omega) fun d3 T2 j3 hB hE2 hk2 hj=>?_
     obtain⟨hB0,hB1,rfl,hB3⟩:=hB
     simp +contextual only[r2,r5,r6,ek,go_sem]
     exact⟨b1,eb1,u++[x],_,some j3,rfl,hE2,⟨hB0,hB1,rfl,hB3⟩,hz,by omega,by simp;omega,(fun y hy=>by
      rcases A6P.1 hy with hy|hy
      ·exact hus y hy
      ·rw[A6H] at hy;subst hy;exact hxS)⟩
    ·rw[if_neg (by rw[gd];decide)] at hz
     injection hz with hz
     injection hz with z1 hz;injection hz with z2 z3
     subst z1;subst z2;subst z3
     have m1:BE [.str [102,97,99,116]] xs b eb=some (.bool false,b,eb):=by rw[FO];unfold FG;rw[show isP xs (b,eb) [102,97,99,116]=false from gd];rfl
     have m2:At [.str [117,115,101]] xs b eb=some (.tup [],a2,e2):=by simp only[At];rw[show AV xs [117,115,101] (b,eb)=(a2,e2) from hy2]
     have m3:Gs [] xs a2 e2=some (.str w,a3,e3):=by simp only[Gs,hy3]
     have m4:At [.str [59]] xs a3 e3=some (.tup [],a4,e4):=by simp only[At,hy4]
     have c1:=cc _ _ _ _ [d1,.str [],.nils] _ _ _ m1
     have c2:=cc _ _ _ _ [d1,.str [],.nils] _ _ _ m2
     have c3:=cc _ _ _ _ [d1,.str [],.nils] _ _ _ m3
     have c4:=cc _ _ _ _ [d1,.str w,.nils] _ _ _ m4
     simp +contextual only[r2,r5,r6,c1,c2,c3,c4,go_sem]
     refine Ap (fun i s'=>∃(b:Nat) (eb:Int) (v:List D) (d2:D) (i2:Option Nat) ,s'.t 2= .ptr H.length 0/\s'.t 5= .ptr (H.length+1) 0/\s'.t 6= .ptr (H.length+2) 0 ∧
       s'.H=H++[.row [.nils,.str [],.nils],.row [aV n xs,.int .i64 ((b:Nat):Int),.int .i64 eb],.row [d1,.str w,d2]]∧
       AY T s'.T/\J0 4 T i1 u d1 s'.T/\J0 13 T i2 v d2 s'.T/\(∀j,i1=some j->i2≠some j)/\EP (lQ 1000 1000) gN xs (1000 - i) v (b,eb)=some (ps,(a5,e5))/\i<=1000/\v.length<=i/\∀x∈v,Sv x) 1000
      ⟨0,a4,e4,[],.nils,none,by simp[upd,r2],by simp[upd,r5],by simp[upd,r6],rfl,hE,hA1,⟨rfl,rfl⟩,(fun j _ q=>by cases q),hps,by omega,by simp,by simp⟩
      (fun i s h=>by obtain⟨_,_,_,_,_,h⟩:=h;exact h.2.2.2.2.2.2.2.2.2.1) ?_ (Dc _ _ _)
     rintro i' ⟨t2,B2,T2⟩ ⟨b',eb',v,d2,i2,q2,q5,q6,rfl,hE2,hB1,hB2,hD,hz2,hi2,hvl,hvs⟩
     simp only at q2 q5 q6 hE2 hB1 hB2
     obtain⟨k2,hk2⟩:∃k,1000 - i'=k:=⟨_,rfl⟩
     rw[hk2] at hz2
     cases k2 with
     | zero=>simp[EP] at hz2
     | succ k2 =>
     simp only[EP] at hz2
     have ek2:1000 - (i'+1)=k2:=by omega
     rcases tf (isP xs (b',eb') gN) with gp|gp
     ·rw[if_pos gp] at hz2
      split at hz2
      ·cases hz2
      rename_i x st1 hx1
      obtain⟨b1,eb1⟩:=st1
      have hxS:Sv x:=LM htk hx1
      obtain⟨f1,f2,f3,f4,f5⟩:=M5 hxS
      have m1:BE [.str [112,111,108,105,99,121]] xs b' eb'=some (.bool true,b'+1,eb'):=by rw[FO];unfold FG;rw[show isP xs (b',eb') [112,111,108,105,99,121]=true from gp];rfl
      have m2:Jd 1000 1000 [] xs (b'+1) eb'=some (x,b1,eb1):=hx1
      have c1:=cc _ _ _ _ [d1,.str w,d2] _ _ _ m1
      have c2:=cc _ _ _ _ [d1,.str w,d2] _ _ _ m2
      simp +contextual only[q2,q5,q6,c1,c2,f2,f4,f5,go_sem]
      refine Fu (bytes:=208) x hB2 hE2 f1 (A6F.2 fun y hy=>(M5 (hvs y hy)).1) (by omega) (by omega) fun d3 T3 j3 hB hE3 hkk hj=>?_
      obtain⟨hB0,hB1',rfl,hB3⟩:=hB
      simp +contextual only[q2,q5,q6,ek2,go_sem]
      exact⟨b1,eb1,v++[x],_,some j3,rfl,hE3,Ih hB1 (fun j hj2=>by
       subst hj2
       exact hkk j (fun q=>hD j rfl q.symm) (Ga hB1)),⟨hB0,hB1',rfl,hB3⟩,(fun j q q2=>by
       injection q2 with q2;subst q2;subst q
       rcases hj with hj|hj
       ·have:=Ga hB1;omega
       ·exact hD _ rfl hj.symm),hz2,by omega,by simp;omega,(fun y hy=>by
       rcases A6P.1 hy with hy|hy
       ·exact hvs y hy
       ·rw[A6H] at hy;subst hy;exact hxS)⟩
     ·rw[if_neg (by rw[gp];decide)] at hz2
      injection hz2 with hz2
      injection hz2 with z1 hz2;injection hz2 with z2 z3
      subst z1;subst z2;subst z3
      have m1:BE [.str [112,111,108,105,99,121]] xs b' eb'=some (.bool false,b',eb'):=by rw[FO];unfold FG;rw[show isP xs (b',eb') [112,111,108,105,99,121]=false from gp];rfl
      have m2:SK [] xs b' eb'=some (if e6==0 then .tup [.int .i64 0,.int .i64 0] else .tup [.int .i64 (a6:Nat),.int .i64 e6],a6,e6):=by simp only[SK,hy6]
      have fe:D.eraseL u=u:=bF fun x hx=>(Jh (hfS x hx)).2.1
      have pe:D.eraseL v=v:=bF fun x hx=>(M5 (hpS x hx)).2.1
      have e1:=Cp hB1 fe
      have e2:=Cp hB2 pe
      have c1:=cc _ _ _ _ [d1,.str w,d2] _ _ _ m1
      rcases tf (e6==0) with g6|g6
      ·rw[g6] at m2
       have g6':(e6 !=0)=false:=by simpa using g6
       rw[g6'] at h
       simp only[A6C,if_false] at h
       rw[if_pos rfl] at m2
       have c2:=cc _ _ _ _ [d1,.str w,d2] _ _ _ m2
       have z0:((0:Int) !=0)=false:=rfl
       subst h
       simp +contextual only[q2,q5,q6,c1,c2,z0,go_sem]
       refine AT ?_ ⟨_,rfl⟩ hE2
       simp only[D.erase,D.eraseL,e1,e2]
      ·rw[g6] at m2
       have g6':(e6 !=0)=true:=by simpa using g6
       rw[g6'] at h
       simp only[if_true] at h
       rw[if_neg (by decide)] at m2
       have c2:=cc _ _ _ _ [d1,.str w,d2] _ _ _ m2
       subst h
       simp +contextual only[q2,q5,q6,c1,c2,g6',bA,go_sem]
       exact AT rfl ⟨_,rfl⟩ hE2
  ·cases h
 ·cases h
def PO(l:D):Prop:=∃(m:Bool) (xs:List (List UInt8)),l=aV m (xs.map D.str)/\xs.length<=2^47/\∀s∈xs,s.length<=2^47
def txs(l:D):List (List UInt8):=(elems l).map CQ
theorem v6(m:Bool)(xs:List (List UInt8)):txs (aV m (xs.map D.str))=xs:=by
 unfold txs
 rw[AU,List.map_map]
 have:(CQ∘D.str)=id:=rfl
 rw[this,List.map_id]
def Gj(s:List UInt8):Bool:=Ab 3 s 0
open Classical in
noncomputable def IQ:List D->Option D
 | [l]=>if PO l then some (.bool ((txs l).all Gj)) else none
 | _=>none
theorem A4V:AQ Tryz.prog 67 IQ:=by
 refine AN (l:=[(57,BU)]) (.cons RN .nil) A5t fun args r h=>?_
 unfold IQ at h
 split at h
 ·rename_i l
  split at h
  ·rename_i hc
   injection h with h;subst h
   obtain⟨m,xs,rfl,hl,hs⟩:=hc
   rw[v6]
   refine⟨by simp,by simp[D.cl],fun H T=>?_⟩
   simp +contextual only[c67,go_sem]
   refine Ap (fun j s'=>s'.t 0=aV m (xs.map D.str)/\s'.t 3= .int .i64 j/\s'.H=H/\s'.T=T/\j<=xs.length/\(xs.take j).all Gj=true) xs.length ⟨0,by simp[upd,Ae]⟩ (fun i s h=>h.2.2.2.2.1) ?_ (AR _)
   rintro j ⟨t1,B,T'⟩ ⟨r0,r3,rfl,rfl,hj,hc⟩
   simp only at r0 r3
   by_cases ha:j<xs.length
   ·have d1:decide ((j:Int)<((xs.map D.str).length:Nat))=true:=by simpa using ha
    have ex:xs[j]? =some xs[j]:=by simp[ha]
    have ey:(xs.map D.str)[j]? =some (.str xs[j]):=by rw[A6M,ex];rfl
    have nx:=fun hp=>IR (p:=Gj) ex hc hp
    have no:=fun hp=>Ha (p:=Gj) ex hp
    have hsx:=hs _ (A6L ha)
    obtain⟨x,hx⟩:∃x,xs[j]=x:=⟨_,rfl⟩
    rw[hx] at ex ey nx no hsx
    have px:BU [.agg [.int .i64 3,.str x,.int .i64 0]]=some (.bool (Gj x)):=by simp only[BU];rw[if_pos (by omega)];rfl
    obtain⟨xb,hxb⟩:∃z,Gj x=z:=⟨_,rfl⟩
    simp only[hxb] at px nx no
    rw[A6B] at d1
    cases xb with
    | true =>
     have nx:=nx rfl
     simp +contextual only[r0,r3,d1,ey,px,A6B,AJ j (by omega),go_sem]
     exact⟨by omega,nx⟩
    | false =>
     have no:=no rfl
     simp +contextual only[r0,r3,d1,ey,px,A6B,no,go_sem]
   ·have d1:decide ((j:Int)<xs.length)=false:=by simpa using ha
    have:j=xs.length:=by omega
    subst this
    rw[A6Z] at hc
    simp +contextual only[r0,r3,d1,A6B,hc,go_sem]
  ·cases h
 ·cases h
noncomputable def IU(b:Bool)(e:D):Bool:=if b then fmR AK e&&decide (dpt AK e<=12) else BH AK e CO
open Classical in
noncomputable def Mt:List D->Option D
 | [.bool b,e]=>if isE AK e then some (.bool (IU b e)) else none
 | _=>none
theorem tO:isE AK CO:=aF (xL 10000) (fM (m:=0) (op:=[]) (k:=0) (i:=0) (s:=[]) (nl:=true) (l:=[]) (who:=[]) (name:=[]) (q:=true) (ps:=[]) (by simp) (by simp) (by simp) aU (by simp) (fun z hz=>by cases hz))
theorem A3T:AQ Tryz.prog 66 Mt:=by
 refine AN (l:=[(20,Fb AK),(21,Fr AK),(22,DM AK)]) (.cons (VR AK) (.cons (A0T AK) (.cons (A0J AK N7) .nil))) A3Z fun args r h=>?_
 unfold Mt at h
 split at h
 ·rename_i b e
  split at h
  ·rename_i he
   injection h with h;subst h
   refine⟨by simp,by simp[D.cl],fun H T=>?_⟩
   have ee:=fL he
   obtain⟨q1,q2,q3,q4⟩:=BT he
   have p1:Fb AK [e,CO]=some (.bool (BH AK e CO)):=by simp only[Fb];rw[if_pos ⟨he,tO⟩]
   have p2:Fr AK [e]=some (.bool (fmR AK e)):=by simp only[Fr];rw[if_pos he]
   have p3:DM AK [e]=some (.int .i64 ((dpt AK e:Nat):Int)):=by simp only[DM];rw[if_pos he]
   have p4:decide (((dpt AK e:Nat):Int)<=12)=decide (dpt AK e<=12):=by rw[decide_eq_decide];omega
   unfold IU
   obtain⟨s,hs⟩:∃z,BH AK e CO=z:=⟨_,rfl⟩
   obtain⟨f,hf⟩:∃z,fmR AK e=z:=⟨_,rfl⟩
   obtain⟨dp,hdp⟩:∃z,dpt AK e=z:=⟨_,rfl⟩
   rw[hs] at p1 ⊢;rw[hf] at p2 ⊢;rw[hdp] at p3 p4 ⊢
   simp only[CO] at p1
   cases b with
   | false=>simp +contextual only[c66,ee,q1,q2,q3,q4,p1,go_sem]
   | true =>
    cases f with
    | false=>simp +contextual only[c66,ee,q1,q2,q3,q4,p2,go_sem]
    | true=>simp +contextual only[c66,ee,q1,q2,q3,q4,p2,p3,p4,go_sem]
  ·cases h
 ·cases h
end GP
namespace GP
open Go Go.Proofs
set_option maxRecDepth 100000
def NT(xs ys:List (List UInt8))(i:Nat):Bool:=match xs[i]?,ys[i]? with
 | some x,some y=>x==y
 | _,_=>true
def IA(xs ys:List (List UInt8)):Bool:=if xs.length==ys.length then(A6S xs.length).all (NT xs ys) else false
open Classical in
noncomputable def IH:List D->Option D
 | [l,k]=>if PO l/\PO k then some (.bool (IA (txs l) (txs k))) else none
 | _=>none
theorem A4H:AQ Tryz.prog 74 IH:=by
 refine AN (l:=[]) .nil A46 fun args r h=>?_
 unfold IH at h
 split at h
 ·rename_i l k
  split at h
  ·rename_i hc
   injection h with h;subst h
   obtain⟨⟨m,xs,rfl,hl,_⟩,m',ys,rfl,hl',_⟩:=hc
   rw[v6,v6]
   refine⟨by simp,by simp[D.cl],fun H T=>?_⟩
   have bl:=Gd xs.length ys.length
   unfold IA
   rcases tf (xs.length==ys.length) with g4|g4
   ·rw[g4] at bl ⊢
    rw[if_pos rfl]
    have hle:xs.length=ys.length:=by simpa using g4
    simp +contextual only[c74,A6B,bl,go_sem]
    refine Ap (fun j s'=>s'.t 0=aV m (xs.map D.str)/\s'.t 1=aV m' (ys.map D.str)/\s'.t 5= .int .i64 j/\s'.H=H/\s'.T=T/\j<=xs.length/\(A6S j).all (NT xs ys)=true) xs.length ⟨0,by simp[upd,Ae]⟩ (fun i s h=>h.2.2.2.2.2.1) ?_ (AR _)
    rintro j ⟨t1,B,T'⟩ ⟨r0,r1,r5,rfl,rfl,hj,hc'⟩
    simp only at r0 r1 r5
    by_cases ha:j<xs.length
    ·have d1:decide ((j:Int)<xs.length)=true:=by simpa using ha
     have hb:j<ys.length:=by omega
     have ex:(xs.map D.str)[j]? =some (.str xs[j]):=by rw[A6M,A6A ha];rfl
     have ey:(ys.map D.str)[j]? =some (.str ys[j]):=by rw[A6M,A6A hb];rfl
     have G:NT xs ys j=(xs[j]==ys[j]):=by unfold NT;rw[A6A ha,A6A hb]
     have bad:NT xs ys j=false->(A6S xs.length).all (NT xs ys)=false:=fun h=>C0 h ha
     rw[G] at bad
     have nx:(xs[j]==ys[j])=true->(A6S (j+1)).all (NT xs ys)=true:=fun h=>by
      rw[A7n,A6V,hc']
      simp[G,h]
     obtain⟨x,hX⟩:∃x,xs[j]=x:=⟨_,rfl⟩
     obtain⟨y,hY⟩:∃y,ys[j]=y:=⟨_,rfl⟩
     rw[hX] at ex bad nx
     rw[hY] at ey bad nx
     rcases tf (x !=y) with e|e
     ·have e':(x==y)=false:=by simpa using e
      have bad:=bad e'
      simp +contextual only[r0,r1,r5,d1,A6B,ex,ey,e,bad,go_sem]
     ·have e':(x==y)=true:=by simpa using e
      have nx:=nx e'
      simp +contextual only[r0,r1,r5,d1,A6B,ex,ey,e,AJ j (by omega),go_sem]
      exact⟨by omega,by rw[A7n] at nx;exact nx⟩
    ·have d1:decide ((j:Int)<xs.length)=false:=by simpa using ha
     have:j=xs.length:=by omega
     subst this
     simp +contextual only[r0,r1,r5,d1,A6B,hc',go_sem]
   ·rw[g4] at bl ⊢
    rw[if_neg (by decide)]
    simp +contextual only[c74,A6B,bl,go_sem]
  ·cases h
 ·cases h
end GP
namespace GP
open Go Go.Proofs
set_option maxRecDepth 100000
theorem Le{toks:List D}:∀(f g:Nat) (out:List D) (st:St) (r:List D×St),f<=g->E9 toks f out st=some r->E9 toks g out st=some r
 | 0,_,_,_,_,_,h=>by simp[E9] at h
 | f+1,0,_,_,_,hl,_=>by omega
 | f+1,g+1,out,st,r,hl,h=>by
  simp only[E9] at h ⊢
  split at h
  ·rename_i q;rw[if_pos q];exact Le f g _ _ r (by omega) h
  ·rename_i q;rw[if_neg q];exact h
theorem Q7{toks:List D}{f g fr:Nat}{st:St}{r:D×St}(hl:f<=g)(h:H6 toks f fr st=some r):H6 toks g fr st=some r:=by
 unfold H6 at h ⊢
 split at h
 ·cases h
 ·rename_i out st1 hb
  rw[Le f g _ _ _ hl hb];exact h
def Rn(P Q:Dz):Prop:=∀toks st r,P toks st=some r->Q toks st=some r
theorem GW{P Q:Dz}(hP:Rn P Q){toks:List D}{bs:List (List UInt8)}:∀(f g:Nat) (x:D) (st:St) (r:D×St),f<=g->FC toks P bs f x st=some r->FC toks Q bs g x st=some r
 | 0,_,_,_,_,_,h=>by simp[FC] at h
 | f+1,0,_,_,_,hl,_=>by omega
 | f+1,g+1,x,st,r,hl,h=>by
  simp only[FC] at h ⊢
  split at h
  ·rename_i q;rw[if_pos q];exact h
  ·rename_i q;rw[if_neg q]
   split at h
   ·exact h
   ·split at h
    ·cases h
    ·rename_i y st2 hy
     rw[hP _ _ _ hy]
     exact GW hP f g _ st2 r (by omega) h
theorem Gb{P Q:Dz}(hP:Rn P Q){toks:List D}{bs:List (List UInt8)}{f g:Nat}(hl:f<=g){st:St}{r:D×St}(h:GM toks P bs f st=some r):GM toks Q bs g st=some r:=by
 unfold GM at h ⊢
 split at h
 ·cases h
 ·rename_i x st1 hx
  rw[hP _ _ _ hx]
  exact GW hP f g x st1 r hl h
theorem IT{op:List UInt8}{z z':Option (D×St)}{r:D×St}(hz:∀r,z=some r->z'=some r)(h:Ft op z=some r):Ft op z'=some r:=by
 cases z with
 | none=>cases h
 | some z=>rw[hz _ rfl];exact h
theorem EI:∀(f g:Nat) (lv:Lv),f<=g->Rn (pLv f lv) (pLv g lv)
 | 0,_,_,_,_,_,_,h=>by cases h
 | f+1,0,_,hl,_,_,_,_=>by omega
 | f+1,g+1,lv,hl,toks,st,r,h=>by
  have hl:f<=g:=by omega
  have M:=fun lv=>EI f g lv hl
  cases lv with
  | expr=>exact Gb (M .and) hl h
  | and=>exact Gb (M .not) hl h
  | sum=>exact Gb (M .prod) hl h
  | prod=>exact Gb (M .unary) hl h
  | not =>
   simp only[pLv] at h ⊢
   split at h
   ·rename_i q;rw[if_pos q];exact IT (fun r hr=>M .not _ _ r hr) h
   ·rename_i q;rw[if_neg q];exact M .cmp _ _ r h
  | unary =>
   simp only[pLv] at h ⊢
   split at h
   ·rename_i q;rw[if_pos q];exact IT (fun r hr=>M .unary _ _ r hr) h
   ·rename_i q;rw[if_neg q];exact M .plain _ _ r h
  | cmp =>
   simp only[pLv] at h ⊢
   obtain⟨z,hz⟩:∃z,pLv f .sum toks st=z:=⟨_,rfl⟩
   rw[hz] at h
   cases z with
   | none=>cases h
   | some z =>
    obtain⟨x,st1⟩:=z
    rw[M .sum _ _ _ hz]
    simp only[JC] at h ⊢
    split at h
    ·exact h
    ·split at h
     ·cases h
     ·rename_i y st2 hy
      rw[M .sum _ _ _ hy];exact h
  | inner =>
   simp only[pLv] at h ⊢
   obtain⟨z,hz⟩:∃z,pLv f .expr toks (AV toks [40] st)=z:=⟨_,rfl⟩
   rw[hz] at h
   cases z with
   | none=>cases h
   | some z=>rw[M .expr _ _ _ hz];exact h
  | plain =>
   simp only[pLv,yL] at h ⊢
   split at h
   ·rename_i q;rw[if_pos q];exact h
   ·rename_i q;rw[if_neg q]
    split at h
    ·rename_i q;rw[if_pos q];exact h
    ·rename_i q;rw[if_neg q]
     split at h
     ·rename_i q;rw[if_pos q];exact M .inner _ _ r h
     ·rename_i q;rw[if_neg q]
      split at h
      ·rename_i q;rw[if_pos q];exact Q7 hl h
      ·rename_i q;rw[if_neg q]
       split at h
       ·rename_i q;rw[if_pos q];exact IT (fun r hr=>M .inner _ _ r hr) h
       ·rename_i q;rw[if_neg q];exact h
def Pr(lv:Lv)(toks:List D)(st:St)(r:D×St):Prop:=∃f,pLv f lv toks st=some r
def Rw(lv:Lv)(bs:List (List UInt8))(toks:List D)(x:D)(st:St)(r:D×St):Prop:=∃f,FC toks (pLv f lv) bs f x st=some r
section
variable {toks:List D} {st st1 st2:St} {x y:D} {r:D×St} {lv:Lv} {bs:List (List UInt8)} {w:List UInt8}
theorem Rw.stop(h:oK toks st bs=none):Rw lv bs toks x st (x,st):=⟨1,by
 simp only[FC];rw[h];simp⟩
theorem Rw.step(h0:st.2=0)(h:oK toks st bs=some w)(hy:Pr lv toks (st.1+1,0) (y,st2))(hr:Rw lv bs toks (EB w x y) st2 r):Rw lv bs toks x st r:=by
 obtain⟨f,hf⟩:=hy
 obtain⟨g,hg⟩:=hr
 refine⟨max f g+1,?_⟩
 simp only[FC]
 rw[if_neg (by rw[h0];decide),h]
 simp only
 rw[h0,EI f (max f g+1) lv (by omega) _ _ _ hf]
 simp only
 exact GW (EI g (max f g+1) lv (by omega)) g (max f g) _ _ _ (by omega) hg
theorem MS{lv':Lv}(e:∀f,pLv (f+1) lv'=fun toks st=>GM toks (pLv f lv) bs f st)(hx:Pr lv toks st (x,st1))(hr:Rw lv bs toks x st1 r):Pr lv' toks st r:=by
 obtain⟨f,hf⟩:=hx
 obtain⟨g,hg⟩:=hr
 refine⟨max f g+1,?_⟩
 rw[e]
 simp only[GM]
 rw[EI f (max f g) lv (by omega) _ _ _ hf]
 simp only
 exact GW (EI g (max f g) lv (by omega)) g (max f g) _ _ _ (by omega) hg
theorem Pr.expr(hx:Pr .and toks st (x,st1))(hr:Rw .and [wOr] toks x st1 r):Pr .expr toks st r:=MS (fun _=>rfl) hx hr
theorem Pr.and(hx:Pr .not toks st (x,st1))(hr:Rw .not [K2] toks x st1 r):Pr .and toks st r:=MS (fun _=>rfl) hx hr
theorem Pr.sum(hx:Pr .prod toks st (x,st1))(hr:Rw .prod [[43],[45]] toks x st1 r):Pr .sum toks st r:=MS (fun _=>rfl) hx hr
theorem Pr.prod(hx:Pr .unary toks st (x,st1))(hr:Rw .unary [[42]] toks x st1 r):Pr .prod toks st r:=MS (fun _=>rfl) hx hr
theorem Pr.not1(h0:st.2=0)(g:isP toks st EF=true)(h:Pr .not toks (st.1+1,0) (x,st1)):Pr .not toks st (DX EF x,st1):=by
 obtain⟨f,hf⟩:=h
 refine⟨f+1,?_⟩
 simp only[pLv]
 rw[if_pos g,h0,hf];rfl
theorem Pr.not0(g:isP toks st EF=false)(h:Pr .cmp toks st r):Pr .not toks st r:=by
 obtain⟨f,hf⟩:=h
 refine⟨f+1,?_⟩
 simp only[pLv]
 rw[if_neg (by rw[g];decide)];exact hf
theorem Pr.neg1(h0:st.2=0)(g:isP toks st [45]=true)(h:Pr .unary toks (st.1+1,0) (x,st1)):Pr .unary toks st (DX KU x,st1):=by
 obtain⟨f,hf⟩:=h
 refine⟨f+1,?_⟩
 simp only[pLv]
 rw[if_pos g,h0,hf];rfl
theorem Pr.neg0(g:isP toks st [45]=false)(h:Pr .plain toks st r):Pr .unary toks st r:=by
 obtain⟨f,hf⟩:=h
 refine⟨f+1,?_⟩
 simp only[pLv]
 rw[if_neg (by rw[g];decide)];exact hf
theorem Pr.cmp0(h:Pr .sum toks st (x,st1))(g:oK toks st1 He=none):Pr .cmp toks st (x,st1):=by
 obtain⟨f,hf⟩:=h
 refine⟨f+1,?_⟩
 simp only[pLv]
 rw[hf];simp only[JC];rw[g]
theorem Pr.cmp1(h:Pr .sum toks st (x,st1))(h0:st1.2=0)(g:oK toks st1 He=some w)(k:Pr .sum toks (st1.1+1,0) (y,st2)):Pr .cmp toks st (EB w x y,st2):=by
 obtain⟨f,hf⟩:=h
 obtain⟨g',hg⟩:=k
 refine⟨max f g'+1,?_⟩
 simp only[pLv]
 rw[EI f (max f g') .sum (by omega) _ _ _ hf]
 simp only[JC];rw[g]
 simp only
 rw[h0,EI g' (max f g') .sum (by omega) _ _ _ hg]
theorem Pr.inner(h:Pr .expr toks (AV toks [40] st) (x,st1)):Pr .inner toks st (x,AV toks [41] st1):=by
 obtain⟨f,hf⟩:=h
 refine⟨f+1,?_⟩
 simp only[pLv]
 rw[hf];rfl
end
end GP
namespace GP
open Go Go.Proofs
set_option maxRecDepth 100000
def Seg(toks:List D)(a:Nat)(l:List D):Prop:=∀i t,l[i]? =some t->toks[a+i]? =some t
section
variable {toks:List D} {a:Nat} {l m:List D} {t:D}
theorem Seg.fst(h:Seg toks a (l++m)):Seg toks a l:=fun i t ht=>h i t (by rw[A6Y (BB ht)];exact ht)
theorem Seg.snd(h:Seg toks a (l++m)):Seg toks (a+l.length) m:=fun i t ht=>by
 have:=h (l.length+i) t (by rw[List.getElem?_append_right (by omega),show l.length+i - l.length=i by omega];exact ht)
 rw[A7z];exact this
theorem Seg.hd(h:Seg toks a (t::l)):toks[a]? =some t:=h 0 t rfl
theorem Seg.tl(h:Seg toks a (t::l)):Seg toks (a+1) l:=fun i u hu=>by
 have:=h (i+1) u hu
 rw[show a+1+i=a+(i+1) by omega];exact this
theorem kI(h:toks[a]? =some t)(hf:F7 t=true):BS toks (a,0)=t:=by
 unfold BS Gl
 rw[if_neg (show¬((0:Int) !=0)=true by decide),h]
 simp only
 rw[if_pos hf]
theorem rN{w:List UInt8}(h:Bp w=true):F7 (mkT 1 w 0)=true:=by
 show Ab 1 w 0=true
 unfold Ab;rw[h];rfl
theorem sM{w:List UInt8}(h:bG w=true):F7 (mkT 5 w 0)=true:=by
 show Ab 5 w 0=true
 unfold Ab;rw[h];rfl
theorem wB{w:List UInt8}(h:toks[a]? =some (mkT 1 w 0))(hw:Bp w=true)(u:List UInt8):isP toks (a,0) u=(w==u):=by
 unfold isP;rw[kI h (rN hw)];rfl
theorem z7{w:List UInt8}(h:toks[a]? =some (mkT 5 w 0))(hw:bG w=true)(u:List UInt8):isP toks (a,0) u=(w==u):=by
 unfold isP;rw[kI h (sM hw)];rfl
theorem Io{k:Int}{s:List UInt8}{n:Int}(h:toks[a]? =some (mkT k s n))(h1:(k==1)=false)(h5:(k==5)=false)(u:List UInt8):isP toks (a,0) u=false:=by
 unfold isP BS Gl
 rw[if_neg (show¬((0:Int) !=0)=true by decide),h]
 simp only
 split
 ·rw[tW,h1,h5];rfl
 ·rfl
theorem uF(h:toks.length<=a)(u:List UInt8):isP toks (a,0) u=false:=by
 cases hb:isP toks (a,0) u with
 | false=>rfl
 | true=>have:=(xR hb).1;simp only at this;omega
theorem Ti{w:List UInt8}(h:isP toks (a,0) w=true):AV toks w (a,0)=(a+1,0):=by unfold AV;rw[if_pos h]
theorem kO{k:Int}{s:List UInt8}{n:Int}(h:toks[a]? =some (mkT k s n))(hf:F7 (mkT k s n)=true):BP toks k (a,0)=(mkT k s n,(a+1,0)):=by
 unfold BP
 rw[kI h hf,tW]
 simp
end
structure Cn(y v:D):Prop where
 c:can y=can v
 l:vl y=[]
theorem Cn.one{y v:D}(h:Cn y v)(hv:B9 v=true):B9 y=true:=by
 have h1:=uS hv
 rw[<- h.c] at h1
 unfold B9 at h1 ⊢
 rw[v3,tI,vS,yY] at h1
 rw[h.l];exact h1
theorem Cn.k{y v:D}(h:Cn y v):vk y=vk v:=by have:=congrArg vk h.c;rwa [v3,v3] at this
theorem Cn.i{y v:D}(h:Cn y v):vi y=vi v:=by have:=congrArg vi h.c;rwa [tI,tI] at this
theorem Cn.s{y v:D}(h:Cn y v):vs y=vs v:=by have:=congrArg vs h.c;rwa [vS,vS] at this
theorem Ml{y v:D}(hk:vk y=vk v)(hi:vi y=vi v)(hs:vs y=vs v)(hl:vl y=[]):Cn y v:=⟨by unfold can;rw[hk,hi,hs],hl⟩
theorem Jc{v:D}(h:B9 v=true)(hk:vk v≠3):vs v=[]:=by
 unfold B9 Bf at h
 split at h
 ·cases h
 ·split at h
  ·cases h
  ·rename_i g
   have g:((vk v !=3)&&(vs v !=[]))=false:=by simpa using g
   have:(vk v !=3)=true:=by simpa using hk
   rw[this] at g
   simpa using g
theorem Wk{v:D}(h:B9 v=true)(hk:vk v=3):vi v=0:=by
 unfold B9 Bf at h
 rw[hk] at h
 split at h
 ·cases h
 ·split at h
  ·cases h
  ·simp at h;exact h.1
theorem Vv{v:D}(h:B9 v=true)(hk:vk v=1):vi v=0∨vi v=1:=by
 unfold B9 Bf at h
 rw[hk] at h
 split at h
 ·cases h
 ·split at h
  ·cases h
  ·simp at h;exact h
theorem Wa{v:D}(h:B9 v=true)(hk:vk v=4):0<=vi v/\vi v<=1099511627776:=by
 unfold B9 Bf at h
 rw[hk] at h
 split at h
 ·cases h
 ·split at h
  ·cases h
  ·simp at h;exact h
theorem P8{toks:List D}{a:Nat}{v:D}(h1:B9 v=true)(hb:D0 v false=true)(h:Seg toks a (Al v)):
  ∃y,cY toks (a,0)=(y,true,(a+1,0))/\Cn y v/\(Al v).length=1/\isP toks (a,0) [45]=false/\isP toks (a,0) EF=false:=by
 by_cases k2:vk v=2
 ·have hn:0<=vi v:=by
   rw[OF k2] at hb;simpa using hb
  have e:Al v=[mkT 2 [] (vi v)]:=by
   unfold Al
   rw[k2,if_neg (by decide),if_pos (by decide),if_neg (by simp only[decide_eq_true_eq];omega)]
  rw[e] at h
  have hf:F7 (mkT 2 [] (vi v))=true:=by
   show Ab 2 [] (vi v)=true
   unfold Ab
   simp[hn]
  have hn':=kI h.hd hf
  refine⟨num (vi v),?_,Ml (by rw[k2];rfl) rfl (by rw[Jc h1 (by omega)];rfl) rfl,by rw[e];rfl,Io h.hd rfl rfl _,Io h.hd rfl rfl _⟩
  unfold cY
  rw[hn',tW,qZ]
  rfl
 ·rw[OZ k2] at hb
  by_cases k1:vk v=1
  ·have hs:=Jc h1 (by omega)
   have key:∀w b,(w=CY/\b=true∨w=yC/\b=false)->Al v=[mkT 1 w 0]->Seg toks a [mkT 1 w 0]->vi v=(if b then 1 else 0)->∃y,cY toks (a,0)=(y,true,(a+1,0))/\Cn y v/\(Al v).length=1/\isP toks (a,0) [45]=false/\isP toks (a,0) EF=false:=by
    intro w b hw e h hi
    have hW:Bp w=true:=by rcases hw with⟨rfl,_⟩|⟨rfl,_⟩<;>decide
    have hp:=wB h.hd hW
    have hn':=kI h.hd (rN hW)
    refine⟨vL b,?_,Ml (by rw[k1];rfl) (by rw[hi];rfl) (by rw[hs];rfl) rfl,by rw[e];rfl,?_,?_⟩
    ·unfold cY
     rw[hp,hp,hn',tW,kE]
     rcases hw with⟨rfl,rfl⟩|⟨rfl,rfl⟩
     ·rw[show(CY==CY)=true by decide];rfl
     ·rw[show(yC==CY)=false by decide,show(yC==yC)=true by decide];rfl
    ·rw[hp];rcases hw with⟨rfl,_⟩|⟨rfl,_⟩<;>decide
    ·rw[hp];rcases hw with⟨rfl,_⟩|⟨rfl,_⟩<;>decide
   by_cases hi:vi v=1
   ·have e:Al v=[mkT 1 CY 0]:=by unfold Al;rw[k1,hi];rfl
    rw[e] at h
    exact key CY true (.inl ⟨rfl,rfl⟩) e h (by rw[hi];rfl)
   ·have h0:vi v=0:=(Vv h1 k1).resolve_right hi
    have e:Al v=[mkT 1 yC 0]:=by unfold Al;rw[k1,h0];rfl
    rw[e] at h
    exact key yC false (.inr ⟨rfl,rfl⟩) e h (by rw[h0];rfl)
  ·by_cases k4:vk v=4
   ·have e:Al v=[mkT 4 [] (vi v)]:=by unfold Al;rw[k4];rfl
    obtain⟨r1,r2⟩:=Wa h1 k4
    rw[e] at h
    have hf:F7 (mkT 4 [] (vi v))=true:=by
     show Ab 4 [] (vi v)=true
     unfold Ab
     simp[r1,r2]
    have hn':=kI h.hd hf
    refine⟨LK (vi v),?_,Ml (by rw[k4];rfl) rfl (by rw[Jc h1 (by omega)];rfl) rfl,by rw[e];rfl,Io h.hd rfl rfl _,Io h.hd rfl rfl _⟩
    unfold cY
    rw[hn',tW,qZ]
    rfl
   ·have hh:vk v=3/\Ab 3 (vs v) 0=true:=by
     simp only[A6N,A6D,beq_iff_eq] at hb
     rcases hb with(hb|hb)|hb
     ·exact absurd hb k1
     ·exact absurd hb k4
     ·exact hb
    obtain⟨k3,hF⟩:=hh
    have e:Al v=[mkT 3 (vs v) 0]:=by unfold Al;rw[k3];rfl
    rw[e] at h
    have hn':=kI h.hd (show F7 (mkT 3 (vs v) 0)=true from hF)
    refine⟨Cr (vs v),?_,?_,by rw[e];rfl,Io h.hd rfl rfl _,Io h.hd rfl rfl _⟩
    ·unfold cY
     rw[hn',tW,kE]
     rfl
    ·rw[(RS hF).1]
     exact Ml (by rw[k3];rfl) (by rw[Wk h1 k3];rfl) rfl rfl
theorem Mq{toks:List D}{a:Nat}{v:D}(h1:B9 v=true)(hb:D0 v true=true)(hr:vi v<2^63)(h:Seg toks a (Al v)):
  ∃y,C5 toks (a,0)=(y,(a+(Al v).length,0))/\Cn y v:=by
 by_cases hn:vk v=2/\vi v<0
 ·obtain⟨k2,hn⟩:=hn
  have hlo: -9223372036854775808<vi v:=by
   rw[OF k2] at hb
   simp only[A6G,A6N,decide_eq_true_eq] at hb
   omega
  have w:IntKind.i64.wrap (0 - vi v)= -vi v:=by rw[show 0 - vi v= -vi v by omega];exact kU _ (by omega) (by omega)
  have w2:IntKind.i64.wrap (0 - -vi v)=vi v:=by rw[show 0 - -vi v=vi v by omega];exact kU _ (by omega) (by omega)
  have e:Al v=[mkT 5 [45] 0,mkT 2 [] (-vi v)]:=by
   unfold Al
   rw[k2,if_neg (by decide),if_pos (by decide),if_pos (by simp only[decide_eq_true_eq];omega),w]
  rw[e] at h
  have hp:=z7 h.hd (by decide) [45]
  have hf:F7 (mkT 2 [] (-vi v))=true:=by
   show Ab 2 [] (-vi v)=true
   unfold Ab
   simp;omega
  have hk:=kO h.tl.hd hf
  refine⟨num (vi v),?_,Ml (by rw[k2];rfl) rfl (by rw[Jc h1 (by omega)];rfl) rfl⟩
  unfold C5
  rw[hp,if_pos (by decide),e]
  simp only
  rw[hk,qZ,w2]
  rfl
 ·have hb':D0 v false=true:=by
   by_cases k2:vk v=2
   ·rw[OF k2];simp;omega
   ·rw[OZ k2] at hb ⊢;exact hb
  obtain⟨y,e,hc,hl,hm,_⟩:=P8 h1 hb' h
  refine⟨y,?_,hc⟩
  unfold C5
  rw[hm,e,hl]
  rfl
def cmT(l:List D):List D:=(l.map fun x=>tC::Al x).flatten
theorem Rf(x:D)(l:List D):cmT (x::l)=tC::(Al x++cmT l):=by simp[cmT]
theorem Rr(x:D)(l:List D):cmL Al (x::l)=Al x++cmT l:=by simp[cmL,cmT]
structure Elt(v:D):Prop where
 o:B9 v=true
 b:D0 v true=true
 r:vi v<2^63
theorem NH{toks:List D}:∀(l:List D) (a:Nat) (out:List D),(∀x∈l,Elt x)->Seg toks a (cmT l)->isP toks (a+(cmT l).length,0) [44]=false →
  ∃f ys,E9 toks f out (a,0)=some (out++ys,(a+(cmT l).length,0))/\ys.map can=l.map can/\∀y∈ys,vl y=[]/\B9 y=true
 | [],a,out,_,_,he=>by
  refine⟨1,[],?_,rfl,fun y hy=>by cases hy⟩
  have he:isP toks (a,0) [44]=false:=he
  simp only[E9];rw[he];simp[cmT]
 | x::l,a,out,hE,h,he=>by
  have hx:=hE x (by simp)
  rw[Rf] at h he ⊢
  have hp:=z7 (w:=[44]) h.hd (by decide) [44]
  obtain⟨y,e,hc⟩:=Mq hx.o hx.b hx.r h.tl.fst
  have hl:a+(tC::(Al x++cmT l)).length=a+1+(Al x).length+(cmT l).length:=by simp;omega
  rw[hl] at he ⊢
  obtain⟨f,ys,e2,e3,e4⟩:=NH l (a+1+(Al x).length) (out++[y]) (fun z hz=>hE z (by simp[hz])) h.tl.snd he
  refine⟨f+1,y::ys,?_,by simp only[A63,e3,hc.c],fun z hz=>?_⟩
  ·simp only[E9]
   rw[hp,if_pos (by decide),e]
   simp only
   rw[e2];simp
  ·rcases A62.1 hz with rfl|hz
   ·exact⟨hc.l,hc.one hx.o⟩
   ·exact e4 z hz
theorem LP{l:List D}(h:Fj aB l=true):CC l/\∀x∈l,B9 x=true/\vk x≠0/\vk x=vk0 l:=by
 have key:∀i x,l[i]? =some x->B9 x=true/\vk x≠0/\vk x=vk0 l/\(i=0∨∃y,l[i - 1]? =some y/\aB y x<0):=fun i x hx=>by
  have:=A6F.1 h i (by simpa using BB hx)
  unfold DJ at this
  rw[hx] at this
  simp only[A6D,A6N,bne_iff_ne,ne_eq,beq_iff_eq] at this
  obtain⟨⟨⟨h1,h2⟩,h3⟩,h4⟩:=this
  refine⟨h1,h2,h3,h4.imp id fun q=>?_⟩
  split at q
  ·rename_i y hy;exact⟨y,hy,by simpa using q⟩
  ·cases q
 refine⟨?_,fun x hx=>?_⟩
 ·unfold CC
  rw[List.pairwise_iff_getElem]
  intro i j hi hj hij
  have hstep:∀d i,(hd:i+d+1<l.length)->aB (l[i]'(by omega)) (l[i+d+1]'hd)<0:=by
   intro d
   induction d with
   | zero =>
    intro i hd
    obtain⟨_,_,_,q⟩:=key (i+1) l[i+1] (A6A hd)
    rcases q with q|⟨y,hy,q⟩
    ·omega
    ·rw[show i+1 - 1=i by omega,A6A (by omega)] at hy
     injection hy with hy
     rw[hy];exact q
   | succ d ih =>
    intro i hd
    have q1:=ih i (by omega)
    obtain⟨_,_,_,q⟩:=key (i+(d+1)+1) l[i+(d+1)+1] (A6A hd)
    rcases q with q|⟨y,hy,q⟩
    ·omega
    ·rw[show i+(d+1)+1 - 1=i+d+1 by omega,A6A (by omega)] at hy
     injection hy with hy
     rw[<- hy] at q
     exact(DP _ _ _).l1 q1 (by omega)
  have:=hstep (j - i - 1) i (by omega)
  simp only[show i+(j - i - 1)+1=j by omega] at this
  exact this
 ·obtain⟨i,hi,rfl⟩:=List.mem_iff_getElem.1 hx
  obtain⟨h1,h2,h3,_⟩:=key i _ (A6A hi)
  exact⟨h1,h2,h3⟩
theorem Td{xs l:List D}(h:Fj aB l=true)(h5:∀x∈l,vk x≠5)(hl:l.length<=16)(hc:xs.map can=l.map can)(hx:∀y∈xs,vl y=[]/\B9 y=true):Ci xs=(mkV 5 0 [] false (l.map can),0):=by
 obtain⟨hr,hk⟩:=LP h
 have hg:DK xs:=fun y hy=>(hx y hy).2
 have mem:∀y∈xs,∃x∈l,can y=can x:=fun y hy=>by
  have:can y∈xs.map can:=A6U.2 ⟨y,hy,rfl⟩
  rw[hc,A6U] at this
  obtain⟨x,hx,e⟩:=this
  exact⟨x,hx,e.symm⟩
 have kk:∀y∈xs,vk y≠0/\vk y≠5/\vk y=vk0 l:=fun y hy=>by
  obtain⟨x,hx,e⟩:=mem y hy
  have e:vk y=vk x:=by have:=congrArg vk e;rwa [v3,v3] at this
  rw[e];exact⟨(hk x hx).2.1,h5 x hx,(hk x hx).2.2⟩
 have e1:xs.all qM=true:=A6F.2 fun y hy=>by
  rw[mZ];unfold bS
  rw[if_pos (by simpa using(kk y hy).2.1)];exact hg y hy
 have e2:xs.any (G0 xs)=false:=by
  rw[List.any_eq_false]
  intro y hy hb
  have hv0:vk0 xs=vk0 l:=VT (fun y hy=>(kk y hy).2.2) (by rintro rfl;cases hy)
  obtain⟨k1,k2,k3⟩:=kk y hy
  unfold G0 at hb
  simp[k1,k2,k3,hv0] at hb
  rw[k3] at k1 k2
  rcases hb with hb|hb
  ·exact k1 hb
  ·exact k2 hb
 have e3:DF xs=l.map can:=by
  obtain⟨b1,b2⟩:=rW hg
  refine GR _ _ b1 ?_ fun z=>?_
  ·unfold CC at hr ⊢
   rw[List.pairwise_map]
   exact hr.imp fun {a b} h=>by rw[Kh];exact h
  ·rw[b2 z,← hc,A6U]
   constructor
   ·rintro⟨x,hx,rfl⟩;exact⟨x,hx,rfl⟩
   ·rintro⟨x,hx,rfl⟩;exact⟨x,hx,rfl⟩
 unfold Ci
 rw[e1,if_neg (by decide),e2,if_neg (by decide),e3,if_neg (by simp only[decide_eq_true_eq,A6B];omega)]
end GP
namespace GP
open Go Go.Proofs
set_option maxRecDepth 100000
section
variable {toks:List D} {st:St} {a:Nat} {w:List UInt8}
def Nxt(toks:List D)(st:St)(w:List UInt8):Prop:=∀u,isP toks st u=(w==u)
theorem Nxt.tk(h:Nxt toks st w):GP.tk (BS toks st)=1∨GP.tk (BS toks st)=5:=by
 have:=h w
 unfold isP at this
 simp only[beq_self_eq_true,A6D,A6N,beq_iff_eq] at this
 exact this.1
theorem Nxt.ne{u:List UInt8}(h:Nxt toks st w)(hu:(w==u)=false):isP toks st u=false:=by rw[h,hu]
theorem Nxt.lit(h:Nxt toks st w)(h1:(w==CY)=false)(h2:(w==yC)=false):(cY toks st).2.1=false:=by
 have hk:=h.tk
 have k2:(GP.tk (BS toks st)==2)=false:=by rw[beq_eq_false_iff_ne];omega
 have k3:(GP.tk (BS toks st)==3)=false:=by rw[beq_eq_false_iff_ne];omega
 have k4:(GP.tk (BS toks st)==4)=false:=by rw[beq_eq_false_iff_ne];omega
 unfold cY
 rw[k2,k3,k4,h.ne h1,h.ne h2];rfl
theorem Nxt.first(h:Nxt toks st w):∀{ws:List (List UInt8)},w∈ws->oK toks st ws=some w
 | [],hw=>by cases hw
 | u::r,hw=>by
  simp only[oK,h u]
  cases g:w==u with
  | true=>simp only[if_true];rw[AL g]
  | false =>
   simp only[A6C,if_false]
   refine h.first ?_
   rcases A62.1 hw with rfl|hw
   ·rw[beq_self_eq_true] at g;cases g
   ·exact hw
theorem Nxt.plain(h:Nxt toks st w)(h1:(w==CY)=false)(h2:(w==yC)=false)(f:Nat):pLv (f+1) .plain toks st =
  if w==L5 then some (CM L5 [] [],(st.1+1,st.2)) else
  if w==[40] then pLv f .inner toks st else
  if w==[91] then H6 toks f st.1 (st.1+1,st.2) else
  if w==GD then Ft GD (pLv f .inner toks (st.1+1,st.2)) else
  if w==GJ then some (CM GJ [] (ts (BP toks 3 (AV toks [40] (st.1+1,st.2))).1),AV toks [41] (BP toks 3 (AV toks [40] (st.1+1,st.2))).2) else
  if w==KP then some (CM KP (Bk toks (AV toks [40] (st.1+1,st.2))).1 (Bk toks (AV toks [40] (st.1+1,st.2))).2.1,AV toks [41] (Bk toks (AV toks [40] (st.1+1,st.2))).2.2) else
  some (CM R1 (Bk toks st).1 (Bk toks st).2.1,(Bk toks st).2.2):=by
 simp only[pLv,yL]
 rw[h.lit h1 h2,h L5,h [40],h [91],h GD,h GJ,h KP]
 rfl
theorem aK(h:toks[a]? =some (mkT 1 w 0))(hw:Bp w=true):Nxt toks (a,0) w:=wB h hw
theorem bI(h:toks[a]? =some (mkT 5 w 0))(hw:bG w=true):Nxt toks (a,0) w:=z7 h hw
theorem UF(h:toks[a]? =some tP):Nxt toks (a,0) [40]:=z7 h (by decide)
theorem Tg(h:toks[a]? =some tQ):Nxt toks (a,0) [41]:=z7 h (by decide)
theorem Nxt.must(h:Nxt toks (a,0) w):AV toks w (a,0)=(a+1,0):=Ti (by rw[h];simp)
end
theorem cA{l:List (List UInt8)}{s:List UInt8}(h:inB l s=true):s∈l:=by
 unfold inB at h
 obtain⟨x,hx,e⟩:=A7u.1 h
 have:x=s:=by simpa using e
 rw[<- this];exact hx
theorem eJ{toks:List D}{a:Nat}{n:List UInt8}(h:toks[a]? =some (mkT 1 n 0))(hn:C6 n=true):Cf toks (a,0)=(n,(a+1,0)):=by
 unfold C6 at hn
 simp only[A6D,A7q] at hn
 have hq:=kI h (show F7 (mkT 1 n 0)=true from hn.1)
 unfold Cf
 rw[hq,tW,kE,Rb,hn.2]
 rfl
theorem uL{toks:List D}{a:Nat}{who n:List UInt8}(h:Seg toks a [mkT 1 who 0,mkT 5 [46] 0,mkT 1 n 0])(hw:inB Dm who=true)(hn:C6 n=true):Bk toks (a,0)=(who,n,(a+3,0)):=by
 have hm:=cA hw
 have hW:Bp who=true:=by
  have:∀w∈Dm,Bp w=true:=by decide
  exact this who hm
 have e1:D1 toks Dm (a,0)=(who,(a+1,0)):=by
  unfold D1;rw[(aK h.hd hW).first hm]
 have e2:=(bI h.tl.hd (w:=[46]) (by decide)).must
 have e3:=eJ h.tl.tl.hd hn
 unfold Bk
 rw[e1]
 simp only
 rw[e2,e3]
theorem S6{y v:D}(hk:vk y=vk v)(hi:vi y=vi v)(hs:vs y=vs v)(hl:vl y=[])(hl':vl v=[]):Bt y v=true:=by
 unfold Bt
 rw[hk,hi,hs,hl,hl'];simp
theorem Pd{v:D}(h:B9 v=true):vl v=[]:=by
 have:(vl v).length=0:=iP h
 exact A67 this
theorem Th{toks:List D}{a:Nat}{v:D}(hr:∀x∈vl v,vi x<2^63)(h:EQ v=true)(hs:Seg toks a (D9 v)):
  ∃y,Pr .plain toks (a,0) (EG y,(a+(D9 v).length,0))/\Bt y v=true/\(∃k i s n l,y=mkV k i s n l/\∀x∈l,vl x=[])/\isP toks (a,0) EF=false/\isP toks (a,0) [45]=false:=by
 have hF:bS v=true:=by
  unfold EQ at h
  cases hf:bS v with
  | true=>rfl
  | false=>rw[hf] at h;cases h
 cases hL:Cw v with
 | true =>
  have h5:vk v≠5:=fun e=>by unfold Cw at hL;rw[e] at hL;cases hL
  have h5':(vk v !=5)=true:=by simpa using h5
  have h1:B9 v=true:=by unfold bS at hF;rwa [if_pos h5'] at hF
  have hb:D0 v false=true:=by rw[RF h5 h1] at h;exact h
  rw[OX hL] at hs ⊢
  obtain⟨y,e,hc,hl,hm,hn⟩:=P8 h1 hb hs
  refine⟨y,⟨1,?_⟩,S6 hc.k hc.i hc.s hc.l (Pd h1),?_,hn,hm⟩
  ·simp only[pLv,yL]
   rw[e,hl];rfl
  ·have key:y=num (tn (BS toks (a,0)))∨y=Cr (ts (BS toks (a,0)))∨y=LK (tn (BS toks (a,0)))∨y=vL (ts (BS toks (a,0))==CY)∨y=Bn:=by
    have e':=congrArg Prod.fst e
    simp only at e'
    rw[<- e']
    unfold cY
    (repeat' split)<;>simp
   rcases key with rfl|rfl|rfl|rfl|rfl<;>exact⟨_,_,_,true,[],rfl,fun x hx=>by cases hx⟩
 | false =>
  have hv5:vk v=5:=by
   unfold EQ at h
   rw[hF] at h
   simp only[A68,A6C,if_false] at h
   split at h
   ·rename_i g
    have:=fP h
    rw[this] at hL;cases hL
   ·rename_i g;simpa using g
  have hk:(vk v !=5)=false:=by simp[hv5]
  unfold EQ at h
  rw[hF,hk] at h
  simp only[A68,A6C,if_false,A6D,decide_eq_true_eq] at h
  obtain⟨hall,hpos⟩:=h
  unfold bS at hF
  rw[hk] at hF
  simp only[A6C,if_false] at hF
  split at hF
  ·cases hF
  rename_i g
  simp only[A6N,not_or,bne_iff_ne,ne_eq,Decidable.not_not,decide_eq_true_eq,Int.not_lt] at g
  obtain⟨⟨gi,gs⟩,gl⟩:=g
  have hlit:D9 v=mkT 5 [91] 0::(cmL Al (vl v)++[mkT 5 [93] 0]):=by unfold D9;rw[hL];rfl
  obtain⟨hrise,hone⟩:=LP hF
  have hall':∀x∈vl v,D0 x true=true:=fun x hx=>A6F.1 hall x hx
  have h5:∀x∈vl v,vk x≠5:=fun x hx e=>by
   have:=hall' x hx
   unfold D0 at this
   rw[e] at this;cases this
  obtain⟨L,hLe⟩:∃L,vl v=L:=⟨_,rfl⟩
  rw[hLe] at hlit hr hall' hone h5 hF gl hpos hrise
  cases L with
  | nil=>simp at hpos
  | cons x l =>
   rw[Rr] at hlit
   rw[hlit] at hs ⊢
   have N:=bI hs.hd (w:=[91]) (by decide)
   have hE:∀z∈x::l,Elt z:=fun z hz=>⟨(hone z hz).1,hall' z hz,hr z hz⟩
   have s1:=hs.tl
   rw[A6Q] at s1
   have hx:=hE x (by simp)
   obtain⟨y0,e0,c0⟩:=Mq hx.o hx.b hx.r s1.fst
   have s2:=s1.snd
   have s3:=s2.snd
   have Q:=bI s3.hd (w:=[93]) (by decide)
   obtain⟨f,ys,e1,e2,e3⟩:=NH l (a+1+(Al x).length) [y0] (fun z hz=>hE z (by simp[hz])) s2.fst (Q.ne (by decide))
   have eb:=Td (xs:=[y0]++ys) hF h5 (by omega) (by simp only[List.singleton_append,A63,e2,c0.c]) (fun z hz=>by
    rcases A6P.1 hz with hz|hz
    ·rw[A6H] at hz;subst hz;exact⟨c0.l,c0.one hx.o⟩
    ·exact e3 z hz)
   refine⟨mkV 5 0 [] false ((x::l).map can),⟨f+1,?_⟩,?_,⟨_,_,_,_,_,rfl,fun z hz=>?_⟩,N.ne (by decide),N.ne (by decide)⟩
   ·rw[N.plain (by decide) (by decide)]
    show H6 toks f a (a+1,0)=_
    unfold H6
    rw[e0]
    simp only
    rw[e1]
    simp only
    rw[Q.must,eb]
    simp only[A6E,A6K,A6J]
    show some (_,(_,_))=_
    congr 3
    omega
   ·unfold Bt
    simp only[CK,Cl,Cj,C3,hv5,gi,gs,hLe,A6B]
    rw[if_neg (by simp)]
    refine A6F.2 fun i hi=>?_
    have hi:i<(x::l).length:=by simpa using hi
    unfold pQ
    rw[A6M,A6A hi]
    simp only[A7m]
    have o:=(hone _ (A6L hi)).1
    unfold Lu
    rw[v3,tI,vS,yY,Pd o]
    simp
   ·obtain⟨y,_,rfl⟩:=A6U.1 hz
    exact yY y
end GP
namespace GP
open Go Go.Proofs
set_option maxRecDepth 100000
def lvN:Nat->Lv
 | 0=>.expr
 | 1=>.and
 | 2=>.not
 | 3=>.cmp
 | 4=>.sum
 | 5=>.prod
 | 6=>.unary
 | _=>.plain
def bsN:Nat->List (List UInt8)
 | 0=>[wOr]
 | 1=>[K2]
 | 4=>[[43],[45]]
 | 5=>[[42]]
 | _=>[]
def MC(s:Nat):Prop:=s=0∨s=1∨s=4∨s=5
def noOp(L:Nat)(toks:List D)(st:St):Prop:=∀w∈HW,(L:Int)<=stI w->isP toks st w=false
theorem noOp.up{L M:Nat}{toks:List D}{st:St}(h:noOp L toks st)(hl:L<=M):noOp M toks st:=fun w hw hs=>h w hw (by omega)
theorem noOp.first{L:Nat}{toks:List D}{st:St}(h:noOp L toks st){ws:List (List UInt8)}(hw:∀w∈ws,w∈HW/\(L:Int)<=stI w):oK toks st ws=none :=
 Dj fun w hm=>h w (hw w hm).1 (hw w hm).2
theorem Nxt.noOp{toks:List D}{st:St}{w:List UInt8}(h:Nxt toks st w){L:Nat}(hw:w ∉ HW∨stI w<L):noOp L toks st:=fun u hu hs=>by
 rw[h u]
 cases g:w==u with
 | false=>rfl
 | true =>
  have:=AL g
  subst this
  rcases hw with hw|hw
  ·exact absurd hu hw
  ·omega
structure It(toks:List D)(a b:Nat)(es:Nat)(x:D):Prop where
 t1:∀L,L<=es->noOp L toks (b,0)->Pr (lvN L) toks (a,0) (x,(b,0))
 t2:∀s,s<=es->MC s->noOp (s+1) toks (b,0)->∀r,Rw (lvN (s+1)) (bsN s) toks x (b,0) r->Pr (lvN s) toks (a,0) r
 hn:2<es->isP toks (a,0) EF=false
 hm:6<es->isP toks (a,0) [45]=false
theorem Ss{toks:List D}{st st1:St}{x:D}{r:D×St}{s:Nat}(hs:MC s)(h:Pr (lvN (s+1)) toks st (x,st1))(hr:Rw (lvN (s+1)) (bsN s) toks x st1 r):Pr (lvN s) toks st r:=by
 rcases hs with rfl|rfl|rfl|rfl
 ·exact Pr.expr h hr
 ·exact Pr.and h hr
 ·exact Pr.sum h hr
 ·exact Pr.prod h hr
theorem It.mk'{toks:List D}{a b K:Nat}{x:D}(hK:K<=7)(h1:noOp K toks (b,0)->Pr (lvN K) toks (a,0) (x,(b,0)))
  (h2:MC K->noOp (K+1) toks (b,0)->∀r,Rw (lvN (K+1)) (bsN K) toks x (b,0) r->Pr (lvN K) toks (a,0) r)
  (hn:2<K->isP toks (a,0) EF=false) (hm:6<K->isP toks (a,0) [45]=false):It toks a b K x:=by
 have key:∀d L,L+d=K->noOp L toks (b,0)->Pr (lvN L) toks (a,0) (x,(b,0)):=by
  intro d
  induction d with
  | zero=>intro L e h;rw[Nat.add_zero] at e;subst e;exact h1 h
  | succ d ih =>
   intro L e h
   have n1:=ih (L+1) (by omega) (h.up (by omega))
   have hL:L=0∨L=1∨L=2∨L=3∨L=4∨L=5∨L=6:=by omega
   rcases hL with rfl|rfl|rfl|rfl|rfl|rfl|rfl
   ·exact Pr.expr n1 (Rw.stop (h.first (by decide)))
   ·exact Pr.and n1 (Rw.stop (h.first (by decide)))
   ·exact Pr.not0 (hn (by omega)) n1
   ·exact Pr.cmp0 n1 (h.first (by decide))
   ·exact Pr.sum n1 (Rw.stop (h.first (by decide)))
   ·exact Pr.prod n1 (Rw.stop (h.first (by decide)))
   ·exact Pr.neg0 (hm (by omega)) n1
 refine⟨fun L hL h=>key (K - L) L (by omega) h,fun s hs hrow hno r hr=>?_,hn,hm⟩
 by_cases hsK:s=K
 ·subst hsK;exact h2 hrow hno r hr
 ·exact Ss hrow (key (K - (s+1)) (s+1) (by omega) hno) hr
theorem Pr.plain_in{toks:List D}{a:Nat}{r:D×St}(h:Nxt toks (a,0) [40])(hr:Pr .inner toks (a,0) r):Pr .plain toks (a,0) r:=by
 obtain⟨f,hf⟩:=hr
 refine⟨f+1,?_⟩
 rw[h.plain (by decide) (by decide)]
 exact hf
theorem It.par{toks:List D}{a b K:Nat}{x:D}(h:It toks (a+1) b K x)(hp:toks[a]? =some tP)(hq:toks[b]? =some tQ):It toks a (b+1) 7 x:=by
 have P:=UF hp
 have Q:=Tg hq
 refine It.mk' (A7p _) (fun _=>?_) (fun h=>?_) (fun _=>P.ne (by decide)) (fun _=>P.ne (by decide))
 ·refine Pr.plain_in P ?_
  have:=h.t1 0 (A7d _) (Q.noOp (.inl (by decide)))
  have:=Pr.inner (toks:=toks) (st:=(a,0)) (x:=x) (st1:=(b,0)) (by rw[P.must];exact this)
  rw[Q.must] at this
  exact this
 ·rcases h with h|h|h|h<;>cases h
theorem It.part{toks:List D}{a K least:Nat}{s li:Int}{full:Bool}{l:List D}{R:D->Prop}(hs:s=(K:Int))(hli:li=(least:Int))(hl:least<=7)(h:∀a,Seg toks a l->∃x,It toks a (a+l.length) K x/\R x)(hS:Seg toks a (Bl full s li l)):
  ∃K' x,least<=K'/\It toks a (a+(Bl full s li l).length) K' x/\R x:=by
 unfold Bl at hS ⊢
 split at hS
 ·rename_i g
  rw[if_pos g]
  simp only[A6D,decide_eq_true_eq] at g
  obtain⟨x,h1,h2⟩:=h a hS
  exact⟨K,x,by omega,h1,h2⟩
 ·rename_i g
  rw[if_neg g]
  obtain⟨x,h1,h2⟩:=h (a+1) hS.tl.fst
  have:=h1.par hS.hd hS.tl.snd.hd
  refine⟨7,x,hl,?_,h2⟩
  rw[show a+(tP::(l++[tQ])).length=a+1+l.length+1 by simp;omega]
  exact this
theorem It.row{toks:List D}{a m b s Ka Kb:Nat}{w:List UInt8}{x y:D}(hrow:MC s)(hw:w∈bsN s)(hs:stI w=(s:Int))(hN:Nxt toks (m,0) w)(ha:It toks a m Ka x)(hKa:s<=Ka)(hb:It toks (m+1) b Kb y)(hKb:s+1<=Kb):It toks a b s (EB w x y):=by
 have h2:noOp (s+1) toks (b,0)->∀r,Rw (lvN (s+1)) (bsN s) toks (EB w x y) (b,0) r->Pr (lvN s) toks (a,0) r:=fun hno r hr=>by
  refine ha.t2 s hKa hrow (hN.noOp (.inr (by rw[hs];omega))) r ?_
  exact Rw.step rfl (hN.first hw) (hb.t1 (s+1) hKb hno) hr
 have hs7:s<=7:=by rcases hrow with rfl|rfl|rfl|rfl<;>omega
 refine It.mk' hs7 (fun hno=>h2 (hno.up (by omega)) _ (Rw.stop (hno.first ?_))) (fun _=>h2) (fun h=>ha.hn (by omega)) (fun h=>?_)
 ·rcases hrow with rfl|rfl|rfl|rfl<;>decide
 ·rcases hrow with rfl|rfl|rfl|rfl<;>omega
theorem It.cmp{toks:List D}{a m b Ka Kb:Nat}{w:List UInt8}{x y:D}(hw:w∈He)(hs:stI w=3)(hN:Nxt toks (m,0) w)(ha:It toks a m Ka x)(hKa:4<=Ka)(hb:It toks (m+1) b Kb y)(hKb:4<=Kb):It toks a b 3 (EB w x y):=by
 refine It.mk' (by omega) (fun hno=>?_) (fun h=>?_) (fun _=>ha.hn (by omega)) (fun h=>by omega)
 ·exact Pr.cmp1 (ha.t1 4 hKa (hN.noOp (.inr (by rw[hs];decide)))) rfl (hN.first hw) (hb.t1 4 hKb (hno.up (by omega)))
 ·rcases h with h|h|h|h<;>cases h
theorem It.not{toks:List D}{a b K:Nat}{x:D}(hN:Nxt toks (a,0) EF)(h:It toks (a+1) b K x)(hK:2<=K):It toks a b 2 (DX EF x):=by
 refine It.mk' (by omega) (fun hno=>?_) (fun h=>?_) (fun h=>by omega) (fun h=>by omega)
 ·exact Pr.not1 rfl (by rw[hN];simp) (h.t1 2 hK hno)
 ·rcases h with h|h|h|h<;>cases h
theorem It.neg{toks:List D}{a b K:Nat}{x:D}(hN:Nxt toks (a,0) [45])(h:It toks (a+1) b K x)(hK:6<=K):It toks a b 6 (DX KU x):=by
 refine It.mk' (by omega) (fun hno=>?_) (fun h=>?_) (fun _=>hN.ne (by decide)) (fun h=>by omega)
 ·exact Pr.neg1 rfl (by rw[hN];simp) (h.t1 6 hK hno)
 ·rcases h with h|h|h|h<;>cases h
theorem It.leaf{toks:List D}{a b:Nat}{x:D}(h:Pr .plain toks (a,0) (x,(b,0)))(h1:isP toks (a,0) EF=false)(h2:isP toks (a,0) [45]=false):It toks a b 7 x :=
 It.mk' (A7p _) (fun _=>h) (fun h=>by rcases h with h|h|h|h<;>cases h) (fun _=>h1) (fun _=>h2)
def sm:Nat->D->D->Prop
 | 0,_,_=>False
 | n+1,x,e=>eop x=eop e/\Ca x=Ca e/\BG x=BG e/\Bt (eV x) (eV e)=true/\(∀y∈vl (eV x),vl y=[])/\(eps x).length=(eps e).length/\∀(i:Nat) (y z:D),(eps x)[i]? =some y->(eps e)[i]? =some z->sm n y z
theorem A14:∀(n:Nat) (x e:D),sm n x e->sm (n+1) x e
 | 0,_,_,h=>h.elim
 | n+1,x,e,⟨h1,h2,h3,h4,h5,h6,h7⟩=>⟨h1,h2,h3,h4,h5,h6,fun i y z hy hz=>A14 n y z (h7 i y z hy hz)⟩
theorem V6{n m:Nat}(h:n<=m){x e:D}(k:sm n x e):sm m x e:=by
 induction h with
 | refl=>exact k
 | step _ ih=>exact A14 _ _ _ ih
def Sm(x e:D):Prop:=∃n,sm n x e
theorem iL{v:D}(h:Bt v Bn=true):Bt Bn v=true:=by
 unfold Bt at h ⊢
 split at h
 ·cases h
 ·rename_i g
  simp only[A6N,not_or,bne_iff_ne,ne_eq,Decidable.not_not,A7q,Bool.not_eq_false,beq_iff_eq] at g
  obtain⟨⟨⟨g1,g2⟩,g3⟩,g4⟩:=g
  rw[if_neg (by simp[g1,g2,g3,g4])]
  rfl
theorem kZ{e:D}(h:Ek e=true)(g1:(eop e==Bq)=false):Bt Bn (eV e)=true/\((eop e==Bh)=false->(eop e==CB)=false->(eop e==BN)=false->Ca e=[]/\BG e=[])∧
  ((eop e==Bh)=true∨(eop e==CB)=true->inB Dm (Ca e)=true/\C6 (BG e)=true)/\((eop e==Bh)=false->(eop e==CB)=false->(eop e==BN)=true->Ca e=[]/\Ab 3 (BG e) 0=true):=by
 unfold Ek at h
 rw[if_neg (by rw[g1];decide)] at h
 split at h
 ·cases h
 ·rename_i g
  have g:Bt (eV e) Bn=true:=by simpa using g
  refine⟨iL g,fun a1 a2 a3=>?_,fun a=>?_,fun a1 a2 a3=>?_⟩
  ·rw[a1,a2,a3] at h
   simp only[A7s,A6C,if_false,A6D,beq_iff_eq] at h
   exact h
  ·rw[if_pos (by rw[A6N];exact a)] at h
   simpa using h
  ·rw[a1,a2,a3] at h
   simp only[A7s,A6C,if_false,if_true,A6D,beq_iff_eq] at h
   exact h
theorem Sm.two{e x y:D}(hg:GoodE e)(h2:EV (eop e))(hx:Sm x (Aw e))(hy:Sm y (EW e)):Sm (EB (eop e) x y) e:=by
 obtain⟨n,hn⟩:=hx
 obtain⟨m,hm⟩:=hy
 obtain⟨_,_,_,_,he⟩:=hg.two h2
 obtain⟨g1,g2,g3,g4,g5,g6,g7,g8⟩:=wX h2
 obtain⟨q1,q2,_,_⟩:=kZ hg.parts.2.2.2 g1
 obtain⟨q3,q4⟩:=q2 g3 g4 g5
 refine⟨max n m+1,rfl,q3.symm,q4.symm,q1,(fun y hy=>by cases hy),by rw[he];rfl,fun i u v hu hv=>?_⟩
 rw[he] at hv
 have hu:([x,y]:List D)[i]? =some u:=hu
 match i with
 | 0=>simp at hu hv;subst hu;subst hv;exact V6 (by omega) hn
 | 1=>simp at hu hv;subst hu;subst hv;exact V6 (by omega) hm
 | i+2=>simp at hu
theorem Sm.one{e x:D}(hg:GoodE e)(h1:(eop e==Be)=true∨(eop e==Cg)=true∨(eop e==EO)=true)(hx:Sm x (Aw e)):Sm (DX (eop e) x) e:=by
 obtain⟨n,hn⟩:=hx
 obtain⟨_,z,he,hz⟩:=hg.one h1
 have hne:(eop e==Bq)=false/\(eop e==Bh)=false/\(eop e==CB)=false/\(eop e==BN)=false:=by
  rcases h1 with h1|h1|h1<;>(rw[AL h1];decide)
 obtain⟨g1,g3,g4,g5⟩:=hne
 obtain⟨q1,q2,_,_⟩:=kZ hg.parts.2.2.2 g1
 obtain⟨q3,q4⟩:=q2 g3 g4 g5
 refine⟨n+1,rfl,q3.symm,q4.symm,q1,(fun y hy=>by cases hy),by rw[he];rfl,fun i u v hu hv=>?_⟩
 rw[he] at hv
 have hu:([x]:List D)[i]? =some u:=hu
 match i with
 | 0=>simp at hu hv;subst hu;subst hv;rw[<- hz];exact hn
 | i+1=>simp at hu
theorem Pc{e:D}(hg:GoodE e)(h0:arN (eop e)=0):eps e=[]:=by
 have:=hg.parts.2.1
 rw[h0] at this
 exact A67 (by omega)
theorem Sm.leaf{e:D}{who name:List UInt8}(hg:GoodE e)(hv:(eop e==Bq)=false)(h0:arN (eop e)=0)(hw:Ca e=who)(hn:BG e=name):Sm (CM (eop e) who name) e:=by
 obtain⟨q1,_⟩:=kZ hg.parts.2.2.2 hv
 have he:=Pc hg h0
 exact⟨1,rfl,hw.symm,hn.symm,q1,(fun y hy=>by cases hy),by rw[he];rfl,fun i u v _ hv'=>by rw[he] at hv';cases hv'⟩
theorem Sm.val{e y:D}(hg:GoodE e)(hv:(eop e==Bq)=true)(hy:∃k i s n l,y=mkV k i s n l/\∀x∈l,vl x=[])(hs:Bt y (eV e)=true):Sm (EG y) e:=by
 obtain⟨k,i,s,n,l,rfl,hl⟩:=hy
 obtain⟨_,q2,q3⟩:=fN hg.parts.2.2.2 hv
 have he:=Pc hg (by rw[AL hv];decide)
 refine⟨1,(AL hv).symm,q2.symm,q3.symm,hs,?_,by rw[he];rfl,fun i u v _ hv'=>by rw[he] at hv';cases hv'⟩
 intro x hx
 have hx:x∈vl (mkV k i s n l):=hx
 rw[C3] at hx
 exact hl x hx
theorem PL{op:List UInt8}(h:EV op):op∈HW:=by
 unfold EV stI at h
 cases e1:inB [wOr] op with
 | true=>have:=cA e1;simp only[A6H] at this;subst this;decide
 | false =>
 cases e2:inB [K2] op with
 | true=>have:=cA e2;simp only[A6H] at this;subst this;decide
 | false =>
 cases e3:inB He op with
 | true =>
  have:=cA e3
  have key:∀w∈He,w∈HW:=by decide
  exact key op this
 | false =>
 cases e4:inB [[43],[45]] op with
 | true =>
  have:=cA e4
  have key:∀w∈([[43],[45]]:List (List UInt8)),w∈HW:=by decide
  exact key op this
 | false =>
 cases e5:inB [[42]] op with
 | true=>have:=cA e5;simp only[A6H] at this;subst this;decide
 | false =>
 rw[e1,e2,e3,e4,e5] at h
 simp only[A6C,if_false] at h
 (repeat' split at h)<;>omega
theorem Si{toks:List D}{m:Nat}{op:List UInt8}(h:op∈HW)(hS:toks[m]? =some (Dq op)):Nxt toks (m,0) op:=by
 have key:∀op∈HW,(inB opW op=true/\Bp op=true)∨(inB opW op=false/\bG op=true):=by decide
 unfold Dq at hS
 rcases key op h with⟨h1,h2⟩|⟨h1,h2⟩
 ·rw[if_pos h1] at hS;exact aK hS h2
 ·rw[if_neg (by rw[h1];decide)] at hS;exact bI hS h2
theorem U1{op:List UInt8}(h:op∈HW):(stI op=0->op∈bsN 0)/\(stI op=1->op∈bsN 1)/\(stI op=3->op∈He)/\(stI op=4->op∈bsN 4)/\(stI op=5->op∈bsN 5):=by
 have key:∀op∈HW,(stI op=0->op∈bsN 0)/\(stI op=1->op∈bsN 1)/\(stI op=3->op∈He)/\(stI op=4->op∈bsN 4)/\(stI op=5->op∈bsN 5):=by decide
 exact key op h
theorem Hd{op:List UInt8}(h:0<=stI op):stI op=((stI op).toNat:Int):=by omega
theorem A48{full:Bool}:∀e,GoodE e->rgC e->∀(toks:List D) (a:Nat),Seg toks a (tkC full e)->∃x,It toks a (a+(tkC full e).length) (stI (eop e)).toNat x/\Sm x e:=by
 refine mD (P:=fun e=>rgC e->∀(toks:List D) (a:Nat),Seg toks a (tkC full e)->∃x,It toks a (a+(tkC full e).length) (stI (eop e)).toNat x/\Sm x e) fun e hg ih hr toks a hS=>?_
 rcases hg.op with g|g|g|g|g|g|g|g|g
 ·rw[oB hg g] at hS ⊢
  obtain⟨y,h1,h2,h3,h4,h5⟩:=Th (fun x hx=>(hr.v x hx).2) (fN hg.parts.2.2.2 g).1 hS
  refine⟨EG y,?_,Sm.val hg g h3 h2⟩
  rw[show(stI (eop e)).toNat=7 by rw[AL g];decide]
  exact It.leaf h1 h4 h5
 ·rw[pX hg g] at hS ⊢
  have e0:=AL g
  have hf:=kZ hg.parts.2.2.2 (by rw[e0];decide)
  have hw:=hf.2.1 (by rw[e0];decide) (by rw[e0];decide) (by rw[e0];decide)
  have N:=aK hS.hd (by decide)
  refine⟨CM (eop e) [] [],?_,Sm.leaf hg (by rw[e0];decide) (by rw[e0];decide) hw.1 hw.2⟩
  rw[e0,show(stI Cc).toNat=7 by decide]
  refine It.leaf ⟨1,?_⟩ (N.ne (by decide)) (N.ne (by decide))
  rw[N.plain (by decide) (by decide)];rfl
 ·rw[kG hg g] at hS ⊢
  have e0:=AL g
  have hf:=kZ hg.parts.2.2.2 (by rw[e0];decide)
  have hw:=hf.2.2.1 (.inl g)
  have hm:=cA hw.1
  have hW:∀w∈Dm,Bp w=true/\(w==CY)=false/\(w==yC)=false/\(w==L5)=false/\(w==[40])=false/\(w==[91])=false/\(w==GD)=false/\(w==GJ)=false/\(w==KP)=false/\(w==EF)=false/\(w==[45])=false:=by decide
  obtain⟨w0,w1,w2,w3,w4,w5,w6,w7,w8,w9,w10⟩:=hW _ hm
  have N:=aK hS.hd w0
  refine⟨CM (eop e) (Ca e) (BG e),?_,Sm.leaf hg (by rw[e0];decide) (by rw[e0];decide) rfl rfl⟩
  rw[e0,show(stI Bh).toNat=7 by decide]
  refine It.leaf ⟨1,?_⟩ (N.ne w9) (N.ne w10)
  rw[N.plain w1 w2,w3,w4,w5,w6,w7,w8,uL hS hw.1 hw.2];rfl
 ·rw[q8 hg g] at hS ⊢
  have e0:=AL g
  have hf:=kZ hg.parts.2.2.2 (by rw[e0];decide)
  have hw:=hf.2.2.1 (.inr g)
  have N:=aK hS.hd (by decide)
  have P:=UF hS.tl.hd
  have s2:Seg toks (a+1+1) ([mkT 1 (Ca e) 0,mkT 5 [46] 0,mkT 1 (BG e) 0]++[tQ]):=hS.tl.tl
  have Q:=Tg s2.snd.hd
  have A:=uL s2.fst hw.1 hw.2
  refine⟨CM (eop e) (Ca e) (BG e),?_,Sm.leaf hg (by rw[e0];decide) (by rw[e0];decide) rfl rfl⟩
  rw[e0,show(stI CB).toNat=7 by decide]
  refine It.leaf ⟨1,?_⟩ (N.ne (by decide)) (N.ne (by decide))
  rw[N.plain (by decide) (by decide)]
  show some (CM KP (Bk toks (AV toks [40] (a+1,0))).1 (Bk toks (AV toks [40] (a+1,0))).2.1,AV toks [41] (Bk toks (AV toks [40] (a+1,0))).2.2)=_
  rw[P.must,A]
  simp only
  have Q':AV toks [41] (a+1+1+3,0)=(a+1+1+3+1,0):=Q.must
  rw[Q'];rfl
 ·rw[lD hg g] at hS ⊢
  have e0:=AL g
  have hf:=kZ hg.parts.2.2.2 (by rw[e0];decide)
  have hw:=hf.2.2.2 (by rw[e0];decide) (by rw[e0];decide) g
  have N:=aK hS.hd (by decide)
  have P:=UF hS.tl.hd
  have A:=kO hS.tl.tl.hd (show F7 (mkT 3 (BG e) 0)=true from hw.2)
  have Q:=Tg hS.tl.tl.tl.hd
  refine⟨CM (eop e) [] (BG e),?_,Sm.leaf hg (by rw[e0];decide) (by rw[e0];decide) hw.1 rfl⟩
  rw[e0,show(stI BN).toNat=7 by decide]
  refine It.leaf ⟨1,?_⟩ (N.ne (by decide)) (N.ne (by decide))
  rw[N.plain (by decide) (by decide)]
  show some (CM GJ [] (ts (BP toks 3 (AV toks [40] (a+1,0))).1),AV toks [41] (BP toks 3 (AV toks [40] (a+1,0))).2)=_
  rw[P.must,A]
  simp only
  rw[Q.must];rfl
 ·obtain⟨h1,x0,hx,hs⟩:=hg.one (.inl g)
  have hm:Aw e∈eps e:=by rw[hx,hs];simp
  rw[lI hg g] at hS ⊢
  have e0:=AL g
  have N:=aK hS.hd (by decide)
  have P:=UF hS.tl.hd
  obtain⟨x,i1,i2⟩:=ih _ hm (hr.p _ hm) toks (a+1+1) hS.tl.tl.fst
  have Q:=Tg hS.tl.tl.snd.hd
  refine⟨DX (eop e) x,?_,Sm.one hg (.inl g) i2⟩
  rw[e0,show(stI Be).toNat=7 by decide]
  have k:=i1.t1 0 (A7d _) (Q.noOp (.inl (by decide)))
  have k2:=Pr.inner (toks:=toks) (st:=(a+1,0)) (x:=x) (by rw[P.must];exact k)
  rw[Q.must] at k2
  obtain⟨f,hf⟩:=k2
  refine It.leaf ⟨f+1,?_⟩ (N.ne (by decide)) (N.ne (by decide))
  rw[N.plain (by decide) (by decide)]
  show Ft GD (pLv f .inner toks (a+1,0))=_
  rw[hf]
  simp only[Ft,A6E,A6K,A6J]
  rw[show a+((tkC full (Aw e)).length+(0+1)+1+1)=a+1+1+(tkC full (Aw e)).length+1 by omega]
  rfl
 ·obtain⟨h1,x0,hx,hs⟩:=hg.one (.inr (.inl g))
  have hm:Aw e∈eps e:=by rw[hx,hs];simp
  rw[oQ hg g] at hS ⊢
  have e0:=AL g
  have N:=aK hS.hd (by decide)
  obtain⟨K,x,hK,i1,i2⟩:=It.part (R:=fun x=>Sm x (Aw e)) (Hd h1.parts.1) (least:=2) rfl (by omega) (fun a ha=>ih _ hm (hr.p _ hm) toks a ha) hS.tl
  refine⟨DX (eop e) x,?_,Sm.one hg (.inr (.inl g)) i2⟩
  rw[e0,show(stI Cg).toNat=2 by decide,A6E,show ∀n,a+(n+1)=a+1+n by intro n;omega]
  exact It.not N i1 hK
 ·obtain⟨h1,x0,hx,hs⟩:=hg.one (.inr (.inr g))
  have hm:Aw e∈eps e:=by rw[hx,hs];simp
  rw[pZ hg g] at hS ⊢
  have e0:=AL g
  have N:=bI hS.hd (by decide)
  obtain⟨K,x,hK,i1,i2⟩:=It.part (R:=fun x=>Sm x (Aw e)) (Hd h1.parts.1) (least:=6) rfl (by omega) (fun a ha=>ih _ hm (hr.p _ hm) toks a ha) hS.tl
  refine⟨DX (eop e) x,?_,Sm.one hg (.inr (.inr g)) i2⟩
  rw[e0,show(stI EO).toNat=6 by decide,A6E,show ∀n,a+(n+1)=a+1+n by intro n;omega]
  exact It.neg N i1 hK
 ·obtain⟨k0,k1,m0,m1,_⟩:=hg.two g
  have ho:=PL g
  obtain⟨q0,q1,q3,q4,q5⟩:=U1 ho
  rw[o8 hg g] at hS ⊢
  have N:=Si ho hS.snd.hd
  have hl:∃l:Nat,Fl (eop e)=(l:Int)/\l<=7/\(stI (eop e)).toNat<=l/\(stI (eop e)=3->l=4):=by
   unfold Fl
   rcases g with h|h|h|h|h<;>rw[h]
   ·exact⟨0,rfl,by omega,by decide,by decide⟩
   ·exact⟨1,rfl,by omega,by decide,by decide⟩
   ·exact⟨4,rfl,by omega,by decide,by decide⟩
   ·exact⟨4,rfl,by omega,by decide,by decide⟩
   ·exact⟨5,rfl,by omega,by decide,by decide⟩
  obtain⟨l,hl1,hl2,hl3,hl4⟩:=hl
  obtain⟨Ka,x,hKa,a1,a2⟩:=It.part (R:=fun x=>Sm x (Aw e)) (Hd k0.parts.1) hl1 hl2 (fun a ha=>ih _ m0 (hr.p _ m0) toks a ha) hS.fst
  have h5:(stI (eop e)).toNat+1<=7:=by unfold EV at g;omega
  obtain⟨Kb,y,hKb,b1,b2⟩:=It.part (R:=fun x=>Sm x (EW e)) (Hd k1.parts.1) (li:=stI (eop e)+1) (least:=(stI (eop e)).toNat+1) (by have:=Hd hg.parts.1;omega) h5 (fun a ha=>ih _ m1 (hr.p _ m1) toks a ha) hS.snd.tl
  refine⟨EB (eop e) x y,?_,Sm.two hg g a2 b2⟩
  rw[A6K,A6E,← A7z,show ∀m n,m+(n+1)=m+1+n by intro m n;omega]
  have hrow:∀s:Nat,MC s->stI (eop e)=(s:Int)->eop e∈bsN s->It toks a (a+(Bl full (stI (eop (Aw e))) (Fl (eop e)) (tkC full (Aw e))).length+1+(Bl full (stI (eop (EW e))) (stI (eop e)+1) (tkC full (EW e))).length) (stI (eop e)).toNat (EB (eop e) x y):=fun s hs he hb=>by
   have e1:(stI (eop e)).toNat=s:=by omega
   rw[e1] at hKb hl3 ⊢
   exact It.row hs hb he N a1 (by omega) b1 hKb
  rcases g with h|h|h|h|h
  ·exact hrow 0 (by simp[MC]) h (q0 h)
  ·exact hrow 1 (by simp[MC]) h (q1 h)
  ·have e1:(stI (eop e)).toNat=3:=by omega
   have e4:=hl4 h
   rw[e1] at hKb ⊢
   exact It.cmp (q3 h) h N a1 (by omega) b1 hKb
  ·exact hrow 4 (by simp[MC]) h (q4 h)
  ·exact hrow 5 (by simp[MC]) h (q5 h)
theorem wF{f:D->D->Bool}{xs ys:List D}(hl:xs.length=ys.length)(h:∀(i:Nat) (x y:D),xs[i]? =some x->ys[i]? =some y->f x y=true):KB f xs ys=true:=by
 unfold KB
 rw[if_pos (by simpa using hl)]
 refine A6F.2 fun i _=>?_
 unfold okZ
 split
 ·rename_i x y hx hy;exact h i x y hx hy
 ·rfl
theorem mT:∀(n k:Nat) (x e:D),sm k x e->isE n x->isE n e->BH n x e=true
 | 0,_,_,_,_,h,_=>h.elim
 | _+1,0,_,_,h,_,_=>h.elim
 | n+1,k+1,x,e,⟨h1,h2,h3,h4,_,h6,h7⟩,hx,he=>by
  simp only[BH]
  rw[h1,h2,h3,h4]
  simp only[bne_self_eq_false,A7s,A68,A6C,if_false]
  exact wF h6 fun i y z hy hz=>mT n k y z (h7 i y z hy hz) (aN hx y (A6X hy)) (aN he z (A6X hz))
theorem nS{f:D->Nat}{xs ys:List D}(hl:xs.length=ys.length)(h:∀(i:Nat) (x y:D),xs[i]? =some x->ys[i]? =some y->f x=f y):mxd f xs=mxd f ys:=by
 have e:∀l:List D,mxd f l=(l.map f).foldl max 0:=fun l=>by rw[List.foldl_map];rfl
 rw[e,e]
 congr 1
 refine List.ext_getElem? fun i=>?_
 rw[A6M,A6M]
 rcases A60 i xs.length with hi|hi
 ·have hj:i<ys.length:=by omega
  rw[A6A hi,A6A hj]
  simp only[A7m]
  rw[h i _ _ (A6A hi) (A6A hj)]
 ·rw[A6W hi,A6W (by omega)]
theorem vX:∀(n k:Nat) (x e:D),sm k x e->isE n x->isE n e->dpt n x=dpt n e
 | 0,_,_,_,_,h,_=>h.elim
 | _+1,0,_,_,h,_,_=>h.elim
 | n+1,k+1,x,e,⟨_,_,_,_,_,h6,h7⟩,hx,he=>by
  simp only[dpt]
  rw[nS h6 fun i y z hy hz=>vX n k y z (h7 i y z hy hz) (aN hx y (A6X hy)) (aN he z (A6X hz))]
def nd:Nat->D->Nat
 | 0,_=>0
 | n+1,e=>((eps e).map (nd n)).sum+1
theorem qJ{f:D->Nat}:∀{l:List D} {x:D},x∈l->f x<=(l.map f).sum
 | a::l,x,h=>by
  rw[A63,A7A]
  rcases A62.1 h with rfl|h
  ·omega
  ·have:=qJ (f:=f) h;omega
theorem Rh:∀(n:Nat) (e:D),isE n e->isE (nd n e) e
 | 0,_,h=>h.elim
 | n+1,e,⟨op,k,i,s,nl,l,who,name,m,ps,he,h1,h2,h3,h4,h5,h6⟩=>by
  subst he
  have e1:eps (mkE op k i s nl l who name m ps)=ps:=uG ..
  simp only[nd,e1]
  exact⟨op,k,i,s,nl,l,who,name,m,ps,rfl,h1,h2,h3,h4,h5,fun x hx=>aF (qJ hx) (Rh n x (h6 x hx))⟩
theorem vY{f:D->Int->Int}{g:D->Nat}{m:Int}(h0:0<=m)(h60:m<=60):∀(l:List D) (n:Int),1<=n->n<=m+1->(∀x∈l,∀k:Int,0<=k->k<=60->1<=f x k/\f x k<=k+1/\(f x k<=k->f x k=(g x:Nat))) →
  n<=szL f l m n/\szL f l m n<=m+1/\(szL f l m n<=m->szL f l m n=n+((l.map g).sum:Nat))
 | [],n,h1,h2,_=>by simp only[szL,A7r,List.sum_nil];omega
 | x::l,n,h1,h2,hf=>by
  simp only[szL,A63,A7A]
  by_cases hn:n<=m
  ·rw[if_pos (by simpa using hn)]
   have w1:IntKind.i64.wrap (m - n)=m - n:=kU _ (by omega) (by omega)
   obtain⟨f1,f2,f3⟩:=hf x (by simp) (m - n) (by omega) (by omega)
   have w2:IntKind.i64.wrap (n+f x (m - n))=n+f x (m - n):=kU _ (by omega) (by omega)
   rw[w1,w2]
   obtain⟨i1,i2,i3⟩:=vY h0 h60 l (n+f x (m - n)) (by omega) (by omega) (fun y hy=>hf y (by simp[hy]))
   refine⟨by omega,i2,fun q=>?_⟩
   have q1:=i3 q
   have q2:=f3 (by omega)
   omega
  ·rw[if_neg (by simpa using hn)];omega
theorem n8:∀(n:Nat) (e:D),isE n e->∀m:Int,0<=m->m<=60->1<=EY n e m/\EY n e m<=m+1/\(EY n e m<=m->EY n e m=(nd n e:Nat))
 | 0,_,h=>h.elim
 | n+1,e,h=>fun m h0 h60=>by
  obtain⟨i1,i2,i3⟩:=vY (f:=EY n) (g:=nd n) h0 h60 (eps e) 1 (by omega) (by omega) (fun x hx k k0 k1=>n8 n x (aN h x hx) k k0 k1)
  simp only[EY,nd]
  refine⟨i1,i2,fun q=>?_⟩
  rw[i3 q];omega
theorem vO{v:D}(h:EQ v=true):(D9 v).length<=2^22 - 2:=by
 unfold D9
 split
 ·have:=nO v;omega
 ·rename_i g
  rcases tG h with q|⟨_,q⟩
  ·exact absurd q g
  ·have:=xT (f:=Al) (b:=2) (vl v) fun x _=>nO x
   simp only[A6E,A6K,A6J]
   omega
theorem eW(full:Bool)(s s':Int)(l:List D):(Bl full s s' l).length<=l.length+2:=by unfold Bl;split<;>simp
theorem aY{full:Bool}:∀(n:Nat) (e:D),isE n e->GoodE e->(tkC full e).length+2<=2^22*nd n e
 | 0,_,h,_=>h.elim
 | n+1,e,h,hg=>by
  have hS:nd (n+1) e=((eps e).map (nd n)).sum+1:=rfl
  have one:∀x,eps e=[x]->nd (n+1) e=nd n x+1:=fun x hx=>by rw[hS,hx];simp
  have leafy:2^22<=2^22*nd (n+1) e:=by rw[hS,A7a];omega
  rcases hg.op with g|g|g|g|g|g|g|g|g
  ·have:=vO (fN hg.parts.2.2.2 g).1
   rw[oB hg g];omega
  ·rw[pX hg g];simp only[A6E,A6J];omega
  ·rw[kG hg g];simp only[A6E,A6J];omega
  ·rw[q8 hg g];simp only[A6E,A6J];omega
  ·rw[lD hg g];simp only[A6E,A6J];omega
  ·obtain⟨h1,x,hx,hs⟩:=hg.one (.inl g)
   have ih:=aY (full:=full) n (Aw e) (aN h _ (by rw[hx,hs];simp)) h1
   rw[lI hg g,one x hx,← hs,A7a]
   simp only[A6E,A6K,A6J];omega
  ·obtain⟨h1,x,hx,hs⟩:=hg.one (.inr (.inl g))
   have ih:=aY (full:=full) n (Aw e) (aN h _ (by rw[hx,hs];simp)) h1
   have p:=eW full (stI (eop (Aw e))) 2 (tkC full (Aw e))
   rw[oQ hg g,one x hx,← hs,A7a]
   simp only[A6E];omega
  ·obtain⟨h1,x,hx,hs⟩:=hg.one (.inr (.inr g))
   have ih:=aY (full:=full) n (Aw e) (aN h _ (by rw[hx,hs];simp)) h1
   have p:=eW full (stI (eop (Aw e))) 6 (tkC full (Aw e))
   rw[pZ hg g,one x hx,← hs,A7a]
   simp only[A6E];omega
  ·obtain⟨k0,k1,m0,m1,he⟩:=hg.two g
   have i0:=aY (full:=full) n (Aw e) (aN h _ m0) k0
   have i1:=aY (full:=full) n (EW e) (aN h _ m1) k1
   have p0:=eW full (stI (eop (Aw e))) (Fl (eop e)) (tkC full (Aw e))
   have p1:=eW full (stI (eop (EW e))) (stI (eop e)+1) (tkC full (EW e))
   have e2:nd (n+1) e=nd n (Aw e)+nd n (EW e)+1:=by rw[hS,he];simp
   rw[o8 hg g,e2,A7a,A7a]
   simp only[A6E,A6K];omega
theorem jP{n:Nat}{e:D}(h:isE n e)(hf:Gn n e=true):nd n e<=60/\isE AK e:=by
 unfold Gn at hf
 simp only[A6D,decide_eq_true_eq] at hf
 obtain⟨_,_,h3⟩:=n8 n e h 60 (by omega) (by omega)
 have h60:nd n e<=60:=by have:=h3 hf.1;omega
 refine⟨h60,aF ?_ (Rh n e h)⟩
 have:∀f,f<=lvB f:=fun f=>by
  induction f with
  | zero=>exact A7d _
  | succ f ih=>simp only[lvB];omega
 have:=this 10000
 unfold AK;omega
end GP
namespace GP
open Go
theorem Bm{X:BF}{c:C}{Q:Ex->S->Prop}{s:S}(xs:List D)(J:Nat->S->Prop)(hX:GA X)(h0:J 0 s)(step:∀i x s,xs[i]? =some x->x∈xs->i<xs.length->J i s->W X c (EH (J (i+1)) Q) s)(fin:∀s,J xs.length s->W X c (EH (fun _=>False) Q) s):W X (.loop c) Q s:=by
 refine Ap (fun i s=>i<=xs.length/\J i s) xs.length ⟨0,A7d _,h0⟩ (fun i s h=>h.1) (fun i s h=>?_) hX
 rcases A60 i xs.length with hi|hi
 ·refine dX hX ?_ (step i xs[i] s (by simp[hi]) (A6L hi) hi h.2)
  intro e s' k
  cases e with
  | normal=>exact⟨hi,k⟩
  | exit j=>exact k
  | ret=>exact k
 ·have:i=xs.length:=by omega
  subst this
  refine dX hX ?_ (fin s h.2)
  intro e s' k
  cases e with
  | normal=>exact k.elim
  | exit j=>exact k
  | ret=>exact k
theorem Lg{X:BF}{c:C}{Q:Ex->S->Prop}{s:S}(xs:List D)(p:D->Bool)(ti:Nat)(R:S->Prop)(hX:GA X)(h0:R s)(h1:s.t ti= .int .i64 ((0:Nat):Int))
  (step:∀i x s (b:Bool),xs[i]? =some x->x∈xs->i<xs.length->R s->s.t ti= .int .i64 (i:Int)->p x=b->(b=false->xs.all p=false)->W X c (EH (fun s'=>b=true/\R s'/\s'.t ti= .int .i64 ((i+1:Nat):Int)) Q) s)
  (fin:∀s,R s->s.t ti= .int .i64 (xs.length:Int)->xs.all p=true->W X c (EH (fun _=>False) Q) s):W X (.loop c) Q s:=by
 refine Bm xs (fun i s=>R s/\s.t ti= .int .i64 (i:Int)/\(xs.take i).all p=true) hX ⟨h0,h1,by simp⟩ (fun i x s hx hm hi hJ=>?_) (fun s hJ=>?_)
 ·obtain⟨j1,j2,j3⟩:=hJ
  refine dX hX ?_ (step i x s (p x) hx hm hi j1 j2 rfl fun hb=>?_)
  ·intro e s' k
   cases e with
   | normal =>
    obtain⟨k1,k2,k3⟩:=k
    refine⟨k2,k3,?_⟩
    have e:xs.take (i+1)=xs.take i++[x]:=by
     rw[A7c,hx];rfl
    rw[e,A6V,j3]
    simp[k1]
   | exit j=>exact k
   | ret=>exact k
  ·rw[<- A7v,A6F]
   intro h
   rw[h x hm] at hb;cases hb
 ·obtain⟨j1,j2,j3⟩:=hJ
  exact fin s j1 j2 (by rwa [A6Z] at j3)
theorem OM{X:BF}{c:C}{Q:Ex->S->Prop}{s:S}(n:Nat)(p:Nat->Bool)(ti:Nat)(R:S->Prop)(hX:GA X)(h0:R s)(h1:s.t ti= .int .i64 ((0:Nat):Int))
  (step:∀i s (b:Bool),i<n->R s->s.t ti= .int .i64 (i:Int)->p i=b->(b=false->(A6S n).all p=false)->W X c (EH (fun s'=>b=true/\R s'/\s'.t ti= .int .i64 ((i+1:Nat):Int)) Q) s)
  (fin:∀s,R s->s.t ti= .int .i64 (n:Int)->(A6S n).all p=true->W X c (EH (fun _=>False) Q) s):W X (.loop c) Q s:=by
 refine Ap (fun i s=>i<=n/\R s/\s.t ti= .int .i64 (i:Int)/\(A6S i).all p=true) n ⟨0,A7d _,h0,h1,by simp⟩ (fun i s h=>h.1) (fun i s h=>?_) hX
 obtain⟨_,j1,j2,j3⟩:=h
 rcases A60 i n with hi|hi
 ·refine dX hX ?_ (step i s (p i) hi j1 j2 rfl fun hb=>?_)
  ·intro e s' k
   cases e with
   | normal =>
    obtain⟨k1,k2,k3⟩:=k
    refine⟨hi,k2,k3,?_⟩
    rw[A7n,A6V,j3]
    simp[k1]
   | exit j=>exact k
   | ret=>exact k
  ·rw[<- A7v,A6F]
   intro h
   rw[h i (by simpa using hi)] at hb;cases hb
 ·have:i=n:=by omega
  subst this
  refine dX hX ?_ (fin s j1 j2 j3)
  intro e s' k
  cases e with
  | normal=>exact k.elim
  | exit j=>exact k
  | ret=>exact k
def Bu(sz:Nat)(T:Tk)(xs:List D)(d:D)(T':Tk):Prop:=AY T T'/\((xs=[]/\d= .nils)∨∃i,T.length<=i/\d= .sl (some i) xs/\T'[i]? =some (some (xs.length,sz)))
theorem Bu.nil(sz:Nat)(T:Tk){T':Tk}(h:AY T T'):Bu sz T [] .nils T':=⟨h,.inl ⟨rfl,rfl⟩⟩
theorem Bu.app{sz:Nat}{T T':Tk}{xs:List D}{d:D}(h:Bu sz T xs d T')(L:Tk):Bu sz T xs d (T'++L):=by
 obtain⟨h1,h2⟩:=h
 refine⟨h1.app L,?_⟩
 rcases h2 with h2|⟨i,h2,h3,h4⟩
 ·exact .inl h2
 ·refine .inr ⟨i,h2,h3,?_⟩
  have:i<T'.length:=by
   rcases A60 i T'.length with h|h
   ·exact h
   ·rw[A6W h] at h4;cases h4
  rw[A6Y this];exact h4
theorem Bu.mk(sz:Nat)(T:Tk){T':Tk}(h:AY T T')(xs:List D)(L:Tk):Bu sz T xs (.sl (some T'.length) xs) (T'++some (xs.length,sz)::L):=by
 obtain⟨M,rfl⟩:=h
 refine⟨⟨M++some (xs.length,sz)::L,by simp⟩,.inr ⟨_,by simp,rfl,by simp⟩⟩
theorem Bu.erase{sz:Nat}{T T':Tk}{xs:List D}{d:D}(h:Bu sz T xs d T')(he:D.eraseL xs=xs)(h0:xs≠[]):d.erase= .sl none xs:=by
 rcases h.2 with⟨rfl,rfl⟩|⟨i,_,rfl,_⟩
 ·exact(h0 rfl).elim
 ·simp[D.erase,he]
theorem An{sz bytes:Nat}{K:D->S->Prop}{t:Nat->D}{H:Hp}{T T':Tk}{xs:List D}{d:D}(ys:List D)(h:Bu sz T xs d T')(hy:ys.all (fit sz)=true)(hxs:xs.all (fit sz)=true)(hb:(xs.length+ys.length)*bytes<=2^47)(hb2:xs.length+ys.length<2^62)
  (k:∀d2 T2,Bu sz T (xs++ys) d2 T2->K d2 ⟨t,H,T2⟩):Eb sz bytes K ⟨t,H,T'⟩ d (some ys):=by
 obtain⟨h1,h2⟩:=h
 rcases h2 with⟨rfl,rfl⟩|⟨i,hi,rfl,hT⟩
 ·simp only[Eb]
  refine⟨hy,?_⟩
  simp only[A61,A6J,A7b] at k hb hb2
  split
  ·rename_i e;subst e;exact k _ _ (.nil sz T h1)
  ·exact⟨hb,hb2,k _ _ (.mk sz T h1 ys [])⟩
 ·simp only[Eb]
  refine⟨hy,hT,hb,hb2,hxs,k _ _ ⟨?_,.inr ⟨i,hi,rfl,?_⟩⟩⟩
  ·obtain⟨L,rfl⟩:=h1
   exact⟨L.set (i - T.length) (some (xs.length+ys.length,sz)),by rw[A7k _ _ hi]⟩
  ·have:i<T'.length:=by
    rcases A60 i T'.length with h|h
    ·exact h
    ·rw[A6W h] at hT;cases hT
   rw[A7g this];simp
end GP
namespace GP
open Go Go.Proofs
set_option maxRecDepth 100000
def cE(e:D)(i:Nat):D:=e.cells.getD i .top
theorem pB{n:Nat}{e:D}(h:isE n e):D.agg [cE e 0,cE e 1,cE e 2,cE e 3,cE e 4,cE e 5,cE e 6,cE e 7]=e:=by
 cases n with
 | zero=>exact h.elim
 | succ n=>obtain⟨op,k,i,s,nl,l,who,name,m,ps,rfl,_⟩:=h;rfl
def mkR(pm hi:Bool)(nm:List UInt8)(e:D)(m m':Bool)(du ad:List (List UInt8)):D:=.agg [.bool pm,.str nm,.bool hi,cE e 0,cE e 1,cE e 2,cE e 3,cE e 4,cE e 5,cE e 6,cE e 7,aV m (du.map D.str),aV m' (ad.map D.str)]
def Db(l:List (List UInt8)):Prop:=l.length<=2^47/\∀s∈l,s.length<=2^47
def isR(n:Nat)(r:D):Prop:=∃pm hi nm e m m' du ad,r=mkR pm hi nm e m m' du ad/\isE n e/\nm.length<=2^47/\Db du/\Db ad
def rPm:D->Bool
 | .agg (.bool b::_)=>b
 | _=>false
def rNm:D->List UInt8
 | .agg (_:: .str s::_)=>s
 | _=>[]
def rHi:D->Bool
 | .agg (_::_:: .bool b::_)=>b
 | _=>false
def rE:D->D
 | .agg (_::_::_::a0::a1::a2::a3::a4::a5::a6::a7::_)=>.agg [a0,a1,a2,a3,a4,a5,a6,a7]
 | _=>.top
def rDu:D->List (List UInt8)
 | .agg (_::_::_::_::_::_::_::_::_::_::_::l::_)=>txs l
 | _=>[]
def rAd:D->List (List UInt8)
 | .agg (_::_::_::_::_::_::_::_::_::_::_::_::l::_)=>txs l
 | _=>[]
section
variable (pm hi:Bool) (nm:List UInt8) (e:D) (m m':Bool) (du ad:List (List UInt8))
theorem yB:rPm (mkR pm hi nm e m m' du ad)=pm:=id rfl
theorem yI:rNm (mkR pm hi nm e m m' du ad)=nm:=id rfl
theorem zF:rHi (mkR pm hi nm e m m' du ad)=hi:=id rfl
theorem jL{n:Nat}(h:isE n e):rE (mkR pm hi nm e m m' du ad)=e:=pB h
theorem pN:rDu (mkR pm hi nm e m m' du ad)=du:=by simp only[rDu,mkR,v6]
theorem pC:rAd (mkR pm hi nm e m m' du ad)=ad:=by simp only[rAd,mkR,v6]
end
theorem qH{n:Nat}{e:D}(h:isE n e):(cE e 0).erase=cE e 0/\(cE e 1).erase=cE e 1/\(cE e 2).erase=cE e 2/\(cE e 3).erase=cE e 3/\(cE e 4).erase=cE e 4/\(cE e 5).erase=cE e 5/\(cE e 6).erase=cE e 6/\(cE e 7).erase=cE e 7:=by
 have:=fL h
 rw[<- pB h] at this
 simpa only[D.erase,D.eraseL,D.agg.injEq,A69.injEq,and_true] using this
theorem kR(m:Bool)(l:List (List UInt8)):(aV m (l.map D.str)).erase=aV m (l.map D.str):=by rw[Ag,oS]
theorem sL{n:Nat}{r:D}(h:isR n r):r.erase=r:=by
 obtain⟨pm,hi,nm,e,m,m',du,ad,rfl,he,_⟩:=h
 obtain⟨q0,q1,q2,q3,q4,q5,q6,q7⟩:=qH he
 simp only[mkR,D.erase,D.eraseL,kR,q0,q1,q2,q3,q4,q5,q6,q7]
theorem J1{n:Nat}{r:D}(h:isR n r):r.cells.length=13/\r.cells.take 13=r.cells/\D.agg r.cells=r/\r.okc=true:=by
 obtain⟨pm,hi,nm,e,m,m',du,ad,rfl,_⟩:=h
 exact⟨rfl,rfl,rfl,rfl⟩
def mkP(nm bn us:List UInt8)(hf:Bool)(e:D)(m:Bool)(rs:List D):D:=.agg [.str nm,.str bn,.str us,.bool hf,cE e 0,cE e 1,cE e 2,cE e 3,cE e 4,cE e 5,cE e 6,cE e 7,aV m rs]
def Fh(n:Nat)(p:D):Prop:=∃nm bn us hf e m rs,p=mkP nm bn us hf e m rs/\isE n e/\nm.length<=2^47/\bn.length<=2^47/\us.length<=2^47/\rs.length<=2^47/\∀x∈rs,isR n x
def pNm:D->List UInt8
 | .agg (.str s::_)=>s
 | _=>[]
def pBy:D->List UInt8
 | .agg (_:: .str s::_)=>s
 | _=>[]
def pUs:D->List UInt8
 | .agg (_::_:: .str s::_)=>s
 | _=>[]
def pHf:D->Bool
 | .agg (_::_::_:: .bool b::_)=>b
 | _=>false
def pE:D->D
 | .agg (_::_::_::_::a0::a1::a2::a3::a4::a5::a6::a7::_)=>.agg [a0,a1,a2,a3,a4,a5,a6,a7]
 | _=>.top
def pRs:D->List D
 | .agg (_::_::_::_::_::_::_::_::_::_::_::_::l::_)=>elems l
 | _=>[]
section
variable (nm bn us:List UInt8) (hf:Bool) (e:D) (m:Bool) (rs:List D)
theorem yH:pNm (mkP nm bn us hf e m rs)=nm:=id rfl
theorem yO:pBy (mkP nm bn us hf e m rs)=bn:=id rfl
theorem xQ:pUs (mkP nm bn us hf e m rs)=us:=id rfl
theorem y7:pHf (mkP nm bn us hf e m rs)=hf:=id rfl
theorem qO{n:Nat}(h:isE n e):pE (mkP nm bn us hf e m rs)=e:=pB h
theorem iQ:pRs (mkP nm bn us hf e m rs)=rs:=by simp only[pRs,mkP,AU]
end
theorem oT{n:Nat}{p:D}(h:Fh n p):p.erase=p:=by
 obtain⟨nm,bn,us,hf,e,m,rs,rfl,he,_,_,_,_,hr⟩:=h
 obtain⟨q0,q1,q2,q3,q4,q5,q6,q7⟩:=qH he
 simp only[mkP,D.erase,D.eraseL,Ag,bF fun x hx=>sL (hr x hx),q0,q1,q2,q3,q4,q5,q6,q7]
theorem Jy{n:Nat}{r:D}(h:Fh n r):r.cells.length=13/\r.cells.take 13=r.cells/\D.agg r.cells=r/\r.okc=true:=by
 obtain⟨nm,bn,us,hf,e,m,rs,rfl,_⟩:=h
 exact⟨rfl,rfl,rfl,rfl⟩
def Ah(m:Bool)(fs:List D)(us:List UInt8)(m':Bool)(ps:List D):D:=.agg [aV m fs,.str us,aV m' ps]
def Bi(n:Nat)(d:D):Prop:=∃m fs us m' ps,d=Ah m fs us m' ps/\fs.length<=2^47/\us.length<=2^47/\ps.length<=2^47/\(∀x∈fs,isF x)/\∀x∈ps,Fh n x
def dFs:D->List D
 | .agg (l::_)=>elems l
 | _=>[]
def dUs:D->List UInt8
 | .agg (_:: .str s::_)=>s
 | _=>[]
def dPs:D->List D
 | .agg (_::_::l::_)=>elems l
 | _=>[]
section
variable (m:Bool) (fs:List D) (us:List UInt8) (m':Bool) (ps:List D)
theorem tU:dFs (Ah m fs us m' ps)=fs:=by simp only[dFs,Ah,AU]
theorem xU:dUs (Ah m fs us m' ps)=us:=id rfl
theorem lA:dPs (Ah m fs us m' ps)=ps:=by simp only[dPs,Ah,AU]
end
theorem Az{n:Nat}{d:D}(h:Bi n d):d.erase=d:=by
 obtain⟨m,fs,us,m',ps,rfl,_,_,_,hf,hp⟩:=h
 simp only[Ah,D.erase,D.eraseL,Ag,bF fun x hx=>jJ (hf x hx),bF fun x hx=>oT (hp x hx)]
theorem mB{n:Nat}{r:D}(h:Bi n r):r.cells.length=3/\r.cells.take 3=r.cells/\D.agg r.cells=r/\r.okc=true:=by
 obtain⟨m,fs,us,m',ps,rfl,_⟩:=h
 exact⟨rfl,rfl,rfl,rfl⟩
theorem Qv{r:D}(h:isF r):r.cells.length=4/\r.cells.take 4=r.cells/\D.agg r.cells=r/\r.okc=true:=by
 obtain⟨_,_,_,_,rfl,_⟩:=h
 exact⟨rfl,rfl,rfl,rfl⟩
def gt(n:Int)(k:Nat):Bool:=decide (n<(k:Int))
def Pn(n:Nat)(r:D):Bool:=Gn n (rE r)&& !gt 4 (rDu r).length&& !gt 4 (rAd r).length
def Oc(n:Nat)(p:D):Bool:=!gt 8 (pRs p).length&&Gn n (pE p)&&(pRs p).all (Pn n)
def Nw(n:Nat)(d:D):Bool:=!gt 12 (dFs d).length&& !gt 6 (dPs d).length&& !gt 200 (dUs d).length&&(dPs d).all (Oc n)
open Classical in
noncomputable def vV(n:Nat):List D->Option D
 | [d]=>if Bi n d then some (.bool (Nw n d)) else none
 | _=>none
theorem A3o(n:Nat):AQ Tryz.prog 28 (vV n):=by
 refine AN (l:=[(25,G9 n)]) (.cons (A4k n) .nil) A4I fun args r h=>?_
 have hX:=AR [(25,G9 n)]
 unfold vV at h
 split at h
 ·rename_i d
  split at h
  ·rename_i hd
   injection h with h;subst h
   refine⟨by simp,by simp[D.cl],fun H T=>?_⟩
   have ed:=Az hd
   obtain⟨m,fs,us,m',ps,rfl,h1,h2,h3,h4,h5⟩:=hd
   simp only[Ah] at ed
   simp only[Nw,tU,xU,lA,gt]
   rcases tf (decide ((12:Int)<fs.length)) with g1|g1
   ·rw[g1];simp +contextual only[c28,Ah,ed,g1,go_sem]
   rcases tf (decide ((6:Int)<ps.length)) with g2|g2
   ·rw[g1,g2];simp +contextual only[c28,Ah,ed,g1,g2,go_sem]
   rcases tf (decide ((200:Int)<us.length)) with g3|g3
   ·rw[g1,g2,g3];simp +contextual only[c28,Ah,ed,g1,g2,g3,go_sem]
   rw[g1,g2,g3]
   simp only[A64,A6G]
   simp +contextual only[c28,Ah,ed,g1,g2,g3,go_sem]
   refine Lg ps (Oc n) 3 (fun s=>s.t 1= .ptr H.length 0/\Ext (H++[.row [aV m fs,.str us,aV m' ps]]) s.H/\s.T=T) hX ⟨by simp[upd],Ext.refl _,rfl⟩ (by simp[upd]) ?_ ?_
   ·rintro i x ⟨t,B,T'⟩ b hx hm hi ⟨r1,hB,rfl⟩ r3 hb hno
    simp only at r1 r3 hB
    have d1:decide ((i:Int)<ps.length)=true:=by simpa using hi
    obtain⟨q1,q2,q3,q4⟩:=Jy (h5 x hm)
    have ex:=oT (h5 x hm)
    obtain⟨nm,bn,us',hf,e,mm,rs,rfl,he,k1,k2,k3,k4,k5⟩:=h5 x hm
    have hE:=pB he
    have ee:=fL he
    have pe:G9 n [e]=some (.bool (Gn n e)):=by simp only[G9];rw[if_pos he]
    simp only[Oc,iQ,qO _ _ _ _ _ _ _ he,gt] at hb
    have hg:=hB.get (o:=H.length) (by simp;rfl)
    rcases tf (decide ((8:Int)<rs.length)) with g4|g4
    ·rw[g4] at hb
     simp only[A68,A7o] at hb;subst hb
     have hno:=hno rfl
     simp +contextual only[r1,r3,AM hg,AO hg,d1,hx,mkP,g4,hno,AS hB (AY.refl _),AS hB.pre (AY.refl _),go_sem]
    rw[g4] at hb
    simp only[A64,A6G] at hb
    rcases tf (Gn n e) with g5|g5
    ·rw[g5] at hb pe
     simp only[A6G] at hb
     simp +contextual only[r1,r3,AM hg,AO hg,d1,hx,mkP,g4,hE,ee,pe,go_sem]
     refine Lg rs (Pn n) 5 (fun s=>s.t 1= .ptr H.length 0/\s.t 3= .int .i64 (i:Int)/\s.t 4= .ptr B.length 0/\Ext (B++[.row (mkP nm bn us' hf e mm rs).cells]) s.H/\s.T=T') hX ⟨by simp[upd,r1],by simp[upd,r3],by simp[upd],Ext.refl _,rfl⟩ (by simp[upd]) ?_ ?_
     ·rintro i' x' ⟨t',B',T''⟩ b' hx' hm' hi' ⟨s1,s3,s4,hB',rfl⟩ s5 hb' hno'
      simp only at s1 s3 s4 s5 hB'
      have d2:decide ((i':Int)<rs.length)=true:=by simpa using hi'
      obtain⟨pm,hi'',nm',e',ma,mb,du,ad,rfl,he',l1,l2,l3⟩:=k5 x' hm'
      have hE':=pB he'
      have ee':=fL he'
      have pe':G9 n [e']=some (.bool (Gn n e')):=by simp only[G9];rw[if_pos he']
      simp only[Pn,jL _ _ _ _ _ _ _ _ he',pN,pC,gt] at hb'
      have hg':=hB'.get (o:=B.length) (by simp;rfl)
      simp only[mkP,D.cells] at hg'
      have hno2:b'=false->ps.all (Oc n)=false:=fun h=>hno (by rw[<- hb,hno' h])
      have hB2:Ext H B':=(hB.pre.trans hB'.pre)
      subst hb'
      rcases tf (Gn n e') with g6|g6
      ·rw[g6] at pe' hno2
       rcases tf (decide ((4:Int)<du.length)) with g7|g7
       ·have hno2:=hno2 (by rw[g7];rfl)
        simp +contextual only[s1,s3,s4,s5,AM hg',AO hg',d2,hx',mkR,hE',ee',pe',A6B,g7,hno2,AS hB2 (AY.refl _),go_sem]
       rcases tf (decide ((4:Int)<ad.length)) with g8|g8
       ·have hno2:=hno2 (by rw[g7,g8];rfl)
        simp +contextual only[s1,s3,s4,s5,AM hg',AO hg',d2,hx',mkR,hE',ee',pe',A6B,g7,g8,hno2,AS hB2 (AY.refl _),go_sem]
       ·simp +contextual only[s1,s3,s4,s5,AM hg',AO hg',d2,hx',mkR,hE',ee',pe',A6B,g6,g7,g8,AJ i' (by omega),go_sem]
        exact hB'.app _
      ·rw[g6] at pe' hno2
       have hno2:=hno2 rfl
       simp +contextual only[s1,s3,s4,s5,AM hg',AO hg',d2,hx',mkR,hE',ee',pe',hno2,AS hB2 (AY.refl _),go_sem]
     ·rintro⟨t',B',T''⟩ ⟨s1,s3,s4,hB',rfl⟩ s5 hall
      simp only at s1 s3 s4 s5 hB'
      have d2:decide ((rs.length:Int)<rs.length)=false:=by simp
      have hg':=hB'.get (o:=B.length) (by simp;rfl)
      simp only[mkP,D.cells] at hg'
      rw[hall] at hb
      simp +contextual only[s1,s3,s4,s5,AM hg',d2,AJ i (by omega),hb.symm,go_sem]
      exact(hB.app _).trans hB'
    ·rw[g5] at hb pe
     simp only[A7o] at hb;subst hb
     have hno:=hno rfl
     simp +contextual only[r1,r3,AM hg,AO hg,d1,hx,mkP,g4,hE,ee,pe,hno,AS hB.pre (AY.refl _),go_sem]
   ·rintro⟨t,B,T'⟩ ⟨r1,hB,rfl⟩ r3 hall
    simp only at r1 r3 hB
    have d1:decide ((ps.length:Int)<ps.length)=false:=by simp
    have hg:=hB.get (o:=H.length) (by simp;rfl)
    rw[hall]
    simp +contextual only[r1,r3,AM hg,d1,Ad hB.pre (AY.refl _),go_sem]
  ·cases h
 ·cases h
end GP
namespace GP
open Go Go.Proofs
set_option maxRecDepth 100000
def okF(f:D):Bool:=inB Dm (IV f)&&(C6 (F6 f)&&(!(decide (Dv f<1))&& !(decide (4<Dv f))))
noncomputable def okR(r:D):Bool:=C6 (rNm r)&&(IU (rHi r) (rE r)&&((rDu r).all Gj&&(rAd r).all Gj))
noncomputable def okP(p:D):Bool:=C6 (pNm p)&&(C6 (pBy p)&&(Ab 1 (pUs p) 0&&(IU (pHf p) (pE p)&&(pRs p).all okR)))
noncomputable def okD(d:D):Bool:=Ab 1 (dUs d) 0&&((dFs d).all okF&&(dPs d).all okP)
open Classical in
noncomputable def xM:List D->Option D
 | [d]=>if Bi AK d then some (.bool (okD d)) else none
 | _=>none
noncomputable abbrev A09:Fs:=[(57,BU),(59,Ac 1),(55,JD),(56,LD),(66,Mt),(67,IQ)]
theorem Iq{m:Bool}{l:List (List UInt8)}(h:Db l):PO (aV m (l.map D.str)):=⟨m,l,rfl,h.1,h.2⟩
theorem NV{m:Bool}{l:List (List UInt8)}(h:Db l):IQ [aV m (l.map D.str)]=some (.bool (l.all Gj)):=by
 simp only[IQ];rw[if_pos (Iq h),v6]
theorem RK{b:Bool}{e:D}(h:isE AK e):Mt [.bool b,e]=some (.bool (IU b e)):=by
 simp only[Mt];rw[if_pos h]
theorem Om{k:Int}{s:List UInt8}(h:s.length<=2^47):BU [.agg [.int .i64 k,.str s,.int .i64 0]]=some (.bool (Ab k s 0)):=by
 simp only[BU];rw[if_pos (by omega)]
theorem PE{s:List UInt8}(h:s.length<=2^47):LD [.str s]=some (.bool (C6 s)):=by
 simp only[LD];rw[if_pos (by omega)]
theorem VZ(s:List UInt8):JD [.str s]=some (.bool (inB Dm s)):=rfl
theorem A5P:AQ Tryz.prog 29 xM:=by
 refine AN (l:=A09) (.cons RN (.cons Q8 (.cons YT (.cons Yx (.cons A3T (.cons A4V .nil)))))) A34 fun args r h=>?_
 have hX:=AR A09
 unfold xM at h
 split at h
 ·rename_i d
  split at h
  ·rename_i hd
   injection h with h;subst h
   refine⟨by simp,by simp[D.cl],fun H T=>?_⟩
   have ed:=Az hd
   obtain⟨m,fs,us,m',ps,rfl,h1,h2,h3,h4,h5⟩:=hd
   simp only[Ah] at ed
   simp only[okD,tU,xU,lA]
   have pu:=Om (k:=1) h2
   obtain⟨ub,hub⟩:∃z,Ab 1 us 0=z:=⟨_,rfl⟩
   rw[hub] at pu ⊢
   cases ub with
   | false=>simp +contextual only[c29,Ah,ed,Ac,mkT,pu,go_sem]
   | true =>
   simp only[A6G]
   simp +contextual only[c29,Ah,ed,Ac,mkT,pu,go_sem]
   refine Lg fs okF 3 (fun s=>s.t 1= .ptr H.length 0/\Ext (H++[.row [aV m fs,.str us,aV m' ps]]) s.H/\s.T=T) hX ⟨by simp[upd],Ext.refl _,rfl⟩ (by simp[upd]) ?_ ?_
   ·rintro i x ⟨t,B,T'⟩ b hx hm hi ⟨r1,hB,rfl⟩ r3 hb hno
    simp only at r1 r3 hB
    have d1:decide ((i:Int)<fs.length)=true:=by simpa using hi
    obtain⟨w,n,k,bg,rfl,k1,k2,k3,k4⟩:=h4 x hm
    have hg:=hB.get (o:=H.length) (by simp;rfl)
    have pw:=VZ w
    have pn:=PE k2
    have hb:(inB Dm w&&(C6 n&&(!(decide (k<1))&& !(decide (4<k)))))=b:=hb
    have hno2:b=false->(fs.all okF&&ps.all okP)=false:=fun h=>by rw[hno h];rfl
    obtain⟨wb,hwb⟩:∃z,inB Dm w=z:=⟨_,rfl⟩
    obtain⟨nb,hnb⟩:∃z,C6 n=z:=⟨_,rfl⟩
    rw[hwb] at pw hb
    rw[hnb] at pn hb
    subst hb
    cases wb with
    | false =>
     have hno2:=hno2 rfl
     simp +contextual only[r1,r3,AM hg,AO hg,d1,hx,mkF,pw,hno2,AS hB.pre (AY.refl _),go_sem]
    | true =>
    cases nb with
    | false =>
     have hno2:=hno2 rfl
     simp +contextual only[r1,r3,AM hg,AO hg,d1,hx,mkF,pw,pn,hno2,AS hB.pre (AY.refl _),go_sem]
    | true =>
    rcases tf (decide (k<1)) with g1|g1
    ·have hno2:=hno2 (by rw[g1];rfl)
     simp +contextual only[r1,r3,AM hg,AO hg,d1,hx,mkF,pw,pn,g1,hno2,AS hB.pre (AY.refl _),go_sem]
    rcases tf (decide (4<k)) with g2|g2
    ·have hno2:=hno2 (by rw[g1,g2];rfl)
     simp +contextual only[r1,r3,AM hg,AO hg,d1,hx,mkF,pw,pn,g1,g2,hno2,AS hB.pre (AY.refl _),go_sem]
    ·simp +contextual only[r1,r3,AM hg,AO hg,d1,hx,mkF,pw,pn,g1,g2,AJ i (by omega),go_sem]
     exact hB.app _
   ·rintro⟨t,B,T'⟩ ⟨r1,hB,rfl⟩ r3 hall
    simp only at r1 r3 hB
    have d1:decide ((fs.length:Int)<fs.length)=false:=by simp
    have hg:=hB.get (o:=H.length) (by simp;rfl)
    rw[hall]
    simp only[A6G]
    simp +contextual only[r1,r3,AM hg,d1,go_sem]
    clear r3
    refine Lg ps okP 5 (fun s=>s.t 1= .ptr H.length 0/\Ext (H++[.row [aV m fs,.str us,aV m' ps]]) s.H/\s.T=T') hX ⟨by simp[upd,r1],hB,rfl⟩ (by simp[upd]) ?_ ?_
    ·clear r1 hB hg d1
     rintro i x ⟨t,B,T'⟩ b hx hm hi ⟨r1,hB,rfl⟩ r3 hb hno
     simp only at r1 r3 hB
     have d1:decide ((i:Int)<ps.length)=true:=by simpa using hi
     obtain⟨nm,bn,us',hf,e,mm,rs,rfl,he,k1,k2,k3,k4,k5⟩:=h5 x hm
     have hE:=pB he
     have ee:=fL he
     have hg:=hB.get (o:=H.length) (by simp;rfl)
     have p1:=PE k1
     have p2:=PE k2
     have p3:=Om (k:=1) k3
     have p4:=RK (b:=hf) he
     simp only[okP,yH,yO,xQ,y7,iQ,qO _ _ _ _ _ _ _ he] at hb
     obtain⟨b1,hb1⟩:∃z,C6 nm=z:=⟨_,rfl⟩
     obtain⟨b2,hb2⟩:∃z,C6 bn=z:=⟨_,rfl⟩
     obtain⟨b3,hb3⟩:∃z,Ab 1 us' 0=z:=⟨_,rfl⟩
     obtain⟨b4,hb4⟩:∃z,IU hf e=z:=⟨_,rfl⟩
     rw[hb1] at p1 hb
     rw[hb2] at p2 hb
     rw[hb3] at p3 hb
     rw[hb4] at p4 hb
     cases b1 with
     | false =>
      have hno:=hno hb.symm
      simp +contextual only[r1,r3,AM hg,AO hg,d1,hx,mkP,p1,hno,AS hB.pre (AY.refl _),go_sem]
     | true =>
     cases b2 with
     | false =>
      have hno:=hno hb.symm
      simp +contextual only[r1,r3,AM hg,AO hg,d1,hx,mkP,p1,p2,hno,AS hB.pre (AY.refl _),go_sem]
     | true =>
     cases b3 with
     | false =>
      have hno:=hno hb.symm
      simp +contextual only[r1,r3,AM hg,AO hg,d1,hx,mkP,p1,p2,Ac,mkT,p3,hno,AS hB.pre (AY.refl _),go_sem]
     | true =>
     cases b4 with
     | false =>
      have hno:=hno hb.symm
      simp +contextual only[r1,r3,AM hg,AO hg,d1,hx,mkP,p1,p2,Ac,mkT,p3,hE,ee,p4,hno,AS hB.pre (AY.refl _),go_sem]
     | true =>
     simp only[A6G] at hb
     simp +contextual only[r1,r3,AM hg,AO hg,d1,hx,mkP,p1,p2,Ac,mkT,p3,hE,ee,p4,go_sem]
     refine Lg rs okR 7 (fun s=>s.t 1= .ptr H.length 0/\s.t 5= .int .i64 (i:Int)/\s.t 6= .ptr B.length 0/\Ext (B++[.row (mkP nm bn us' hf e mm rs).cells]) s.H/\s.T=T') hX ⟨by simp[upd,r1],by simp[upd,r3],by simp[upd],Ext.refl _,rfl⟩ (by simp[upd]) ?_ ?_
     ·clear p1 p2 p3 p4
      rintro i' x' ⟨t',B',T''⟩ b' hx' hm' hi' ⟨s1,s3,s4,hB',rfl⟩ s5 hb' hno'
      simp only at s1 s3 s4 s5 hB'
      have d2:decide ((i':Int)<rs.length)=true:=by simpa using hi'
      obtain⟨pm,hi'',nm',e',ma,mb,du,ad,rfl,he',l1,l2,l3⟩:=k5 x' hm'
      have hE':=pB he'
      have ee':=fL he'
      have p1:=PE l1
      have p2:=RK (b:=hi'') he'
      have p3:=NV (m:=ma) l2
      have p4:=NV (m:=mb) l3
      simp only[okR,yI,zF,jL _ _ _ _ _ _ _ _ he',pN,pC] at hb'
      have hg':=hB'.get (o:=B.length) (by simp;rfl)
      simp only[mkP,D.cells] at hg'
      have hno2:b'=false->ps.all okP=false:=fun h=>hno (by rw[<- hb,hno' h])
      have hB2:Ext H B':=(hB.pre.trans hB'.pre)
      have eu:=kR ma du
      have ea:=kR mb ad
      obtain⟨b1,hb1⟩:∃z,C6 nm'=z:=⟨_,rfl⟩
      obtain⟨b2,hb2⟩:∃z,IU hi'' e'=z:=⟨_,rfl⟩
      obtain⟨b3,hb3⟩:∃z,du.all Gj=z:=⟨_,rfl⟩
      obtain⟨b4,hb4⟩:∃z,ad.all Gj=z:=⟨_,rfl⟩
      rw[hb1] at p1 hb'
      rw[hb2] at p2 hb'
      rw[hb3] at p3 hb'
      rw[hb4] at p4 hb'
      subst hb'
      obtain⟨DU,hDU⟩:∃z,aV ma (du.map D.str)=z:=⟨_,rfl⟩
      obtain⟨AD,hAD⟩:∃z,aV mb (ad.map D.str)=z:=⟨_,rfl⟩
      simp only[mkR,hDU,hAD] at hx' p3 p4 eu ea
      cases b1 with
      | false =>
       have hno2:=hno2 rfl
       simp +contextual only[s1,s3,s4,s5,AM hg',AO hg',d2,hx',p1,hno2,AS hB2 (AY.refl _),go_sem]
      | true =>
      cases b2 with
      | false =>
       have hno2:=hno2 rfl
       simp +contextual only[s1,s3,s4,s5,AM hg',AO hg',d2,hx',p1,hE',ee',p2,hno2,AS hB2 (AY.refl _),go_sem]
      | true =>
      cases b3 with
      | false =>
       have hno2:=hno2 rfl
       simp +contextual only[s1,s3,s4,s5,AM hg',AO hg',d2,hx',p1,hE',ee',p2,eu,p3,hno2,AS hB2 (AY.refl _),go_sem]
      | true =>
      cases b4 with
      | false =>
       have hno2:=hno2 rfl
       simp +contextual only[s1,s3,s4,s5,AM hg',AO hg',d2,hx',p1,hE',ee',p2,eu,ea,p3,p4,hno2,AS hB2 (AY.refl _),go_sem]
      | true =>
       simp +contextual only[s1,s3,s4,s5,AM hg',AO hg',d2,hx',p1,hE',ee',p2,eu,ea,p3,p4,AJ i' (by omega),go_sem]
       exact hB'.app _
     ·rintro⟨t',B',T''⟩ ⟨s1,s3,s4,hB',rfl⟩ s5 hall
      simp only at s1 s3 s4 s5 hB'
      have d2:decide ((rs.length:Int)<rs.length)=false:=by simp
      have hg':=hB'.get (o:=B.length) (by simp;rfl)
      simp only[mkP,D.cells] at hg'
      rw[hall] at hb
      simp +contextual only[s1,s3,s4,s5,AM hg',d2,AJ i (by omega),hb.symm,go_sem]
      exact(hB.app _).trans hB'
    ·rintro⟨t,B,T'⟩ ⟨r1,hB,rfl⟩ r3 hall
     simp only at r1 r3 hB
     have d1:decide ((ps.length:Int)<ps.length)=false:=by simp
     have hg:=hB.get (o:=H.length) (by simp;rfl)
     rw[hall]
     simp +contextual only[r1,r3,AM hg,d1,Ad hB.pre (AY.refl _),go_sem]
  ·cases h
 ·cases h
end GP
namespace GP
open Go Go.Proofs
set_option maxRecDepth 100000
def Kx(f:D->D->Bool)(xs ys:List D):Bool:=(A6S xs.length).all (okZ f xs ys)
theorem y9{f:D->D->Bool}{xs ys:List D}{i:Nat}{x y:D}(hx:xs[i]? =some x)(hy:ys[i]? =some y):okZ f xs ys i=f x y:=by unfold okZ;rw[hx,hy]
def eqF(x y:D):Bool:=IV x==IV y&&(F6 x==F6 y&&(Dv x==Dv y&&(QG x==QG y&&true)))
theorem Zw(w n w' n':List UInt8)(k k':Int)(b b':Bool):RW [.str,.str,.int,.bool] true (.agg [.str w,.str n,.int .i64 k,.bool b]) (.agg [.str w',.str n',.int .i64 k',.bool b'])=some (.bool (!(w==w'&&(n==n'&&(k==k'&&(b==b'&&true)))))):=by
 have:∀b:Bool,(b !=true)= !b:=by decide
 show some (D.bool ((w==w'&&(n==n'&&(k==k'&&(b==b'&&true)))) !=true))=_
 rw[this]
noncomputable def eqR(x y:D):Bool:=!(rPm x !=rPm y)&&(!(rNm x !=rNm y)&&(!(rHi x !=rHi y)&&(BH AK (rE x) (rE y)&&(IA (rDu x) (rDu y)&&IA (rAd x) (rAd y)))))
noncomputable def eqP(x y:D):Bool:=!(pNm x !=pNm y)&&(!(pBy x !=pBy y)&&(!(pUs x !=pUs y)&&(!(pHf x !=pHf y)&&(BH AK (pE x) (pE y)&&((pRs x).length==(pRs y).length&&Kx eqR (pRs x) (pRs y))))))
noncomputable def JG(x y:D):Bool:=!(dUs x !=dUs y)&&((dFs x).length==(dFs y).length&&((dPs x).length==(dPs y).length&&(Kx eqF (dFs x) (dFs y)&&Kx eqP (dPs x) (dPs y))))
open Classical in
noncomputable def gI:List D->Option D
 | [x,y]=>if Bi AK x/\Bi AK y then some (.bool (JG x y)) else none
 | _=>none
noncomputable abbrev Ya:Fs:=[(20,Fb AK),(74,IH)]
theorem SM{x y:D}(h:isE AK x)(k:isE AK y):Fb AK [x,y]=some (.bool (BH AK x y)):=by simp only[Fb];rw[if_pos ⟨h,k⟩]
theorem N8{m m':Bool}{l k:List (List UInt8)}(h:Db l)(h':Db k):IH [aV m (l.map D.str),aV m' (k.map D.str)]=some (.bool (IA l k)):=by
 simp only[IH];rw[if_pos ⟨Iq h,Iq h'⟩,v6,v6]
theorem A5b:AQ Tryz.prog 32 gI:=by
 refine AN (l:=Ya) (.cons (VR AK) (.cons A4H .nil)) A4N fun args r h=>?_
 have hX:=AR Ya
 unfold gI at h
 split at h
 ·rename_i d d'
  split at h
  ·rename_i hd
   injection h with h;subst h
   refine⟨by simp,by simp[D.cl],fun H T=>?_⟩
   obtain⟨hd,hd'⟩:=hd
   have ed:=Az hd
   have ed':=Az hd'
   obtain⟨m,fs,us,m',ps,rfl,h1,h2,h3,h4,h5⟩:=hd
   obtain⟨n,gs,vs,n',qs,rfl,i1,i2,i3,i4,i5⟩:=hd'
   simp only[Ah] at ed ed'
   simp only[JG,tU,xU,lA]
   have bf:=Gd fs.length gs.length
   have bp:=Gd ps.length qs.length
   rcases tf (us !=vs) with g1|g1
   ·rw[g1]
    simp +contextual only[c32,Ah,ed,ed',g1,go_sem]
   rcases tf (fs.length==gs.length) with g2|g2
   rotate_left
   ·rw[g1,g2];rw[g2] at bf
    simp +contextual only[c32,Ah,ed,ed',g1,bf,go_sem]
   rcases tf (ps.length==qs.length) with g3|g3
   rotate_left
   ·rw[g1,g2,g3];rw[g2] at bf;rw[g3] at bp
    simp +contextual only[c32,Ah,ed,ed',g1,bf,bp,go_sem]
   rw[g1,g2,g3];rw[g2] at bf;rw[g3] at bp
   simp only[A64,A6G]
   have lf:fs.length=gs.length:=by simpa using g2
   have lp:ps.length=qs.length:=by simpa using g3
   simp +contextual only[c32,Ah,ed,ed',g1,bf,bp,go_sem]
   clear g1 g2 g3 bf bp
   refine OM fs.length (okZ eqF fs gs) 5 (fun s=>s.t 2= .ptr H.length 0/\s.t 3= .ptr (H.length+1) 0/\Ext (H++[.row [aV m fs,.str us,aV m' ps],.row [aV n gs,.str vs,aV n' qs]]) s.H/\s.T=T) hX ⟨by simp[upd],by simp[upd],Ext.refl _,rfl⟩ (by simp[upd]) ?_ ?_
   ·rintro i ⟨t,B,T'⟩ b hi ⟨r2,r3,hB,rfl⟩ r5 hb hno
    simp only at r2 r3 r5 hB
    have d1:decide ((i:Int)<fs.length)=true:=by simpa using hi
    have ex:fs[i]? =some fs[i]:=A6A hi
    have hj:i<gs.length:=by omega
    have ey:gs[i]? =some gs[i]:=A6A hj
    obtain⟨w,a,k,bg,hx,_⟩:=h4 _ (A6L hi)
    obtain⟨w',a',k',bg',hy,_⟩:=i4 _ (A6L hj)
    rw[hx] at ex
    rw[hy] at ey
    rw[y9 ex ey] at hb
    have hg:=hB.get (o:=H.length) (by simp;rfl)
    have hg':=hB.get (o:=H.length+1) (by simp;rfl)
    have hb:(w==w'&&(a==a'&&(k==k'&&(bg==bg'&&true))))=b:=hb
    have eq:=Zw w a w' a' k k' bg bg'
    rw[hb] at eq
    have hno2:b=false->((A6S fs.length).all (okZ eqF fs gs)&&Kx eqP ps qs)=false:=fun h=>by rw[hno h];rfl
    unfold Kx at hno2 ⊢
    cases b with
    | false =>
     have hno2:=hno2 rfl
     simp +contextual only[r2,r3,r5,AM hg,AO hg,AM hg',AO hg',d1,ex,ey,mkF,eq,hno2,AS hB.pre (AY.refl _),Ad hB.pre (AY.refl _),go_sem]
    | true =>
     simp +contextual only[r2,r3,r5,AM hg,AO hg,AM hg',AO hg',d1,ex,ey,mkF,eq,AJ i (by omega),go_sem]
     exact hB
   ·rintro⟨t,B,T'⟩ ⟨r2,r3,hB,rfl⟩ r5 hall
    simp only at r2 r3 r5 hB
    have d1:decide ((fs.length:Int)<fs.length)=false:=by simp
    have hg:=hB.get (o:=H.length) (by simp;rfl)
    have hg':=hB.get (o:=H.length+1) (by simp;rfl)
    unfold Kx
    rw[hall]
    simp only[A6G]
    simp +contextual only[r2,r3,r5,AM hg,d1,go_sem]
    clear r5 hg hg' hall d1
    refine OM ps.length (okZ eqP ps qs) 6 (fun s=>s.t 2= .ptr H.length 0/\s.t 3= .ptr (H.length+1) 0/\Ext (H++[.row [aV m fs,.str us,aV m' ps],.row [aV n gs,.str vs,aV n' qs]]) s.H/\s.T=T') hX ⟨by simp[upd,r2],by simp[upd,r3],hB,rfl⟩ (by simp[upd]) ?_ ?_
    ·clear r2 r3 hB
     rintro i ⟨t,B,T'⟩ b hi ⟨r2,r3,hB,rfl⟩ r5 hb hno
     simp only at r2 r3 r5 hB
     have d1:decide ((i:Int)<ps.length)=true:=by simpa using hi
     have ex:ps[i]? =some ps[i]:=A6A hi
     have hj:i<qs.length:=by omega
     have ey:qs[i]? =some qs[i]:=A6A hj
     obtain⟨nm,bn,us',hf,e,mm,rs,hx,he,k1,k2,k3,k4,k5⟩:=h5 _ (A6L hi)
     obtain⟨nm',bn',vs',hf',e',mm',ss,hy,he',l1,l2,l3,l4,l5⟩:=i5 _ (A6L hj)
     rw[hx] at ex
     rw[hy] at ey
     rw[y9 ex ey] at hb
     clear hx hy
     have hg:=hB.get (o:=H.length) (by simp;rfl)
     have hg':=hB.get (o:=H.length+1) (by simp;rfl)
     have hE:=pB he
     have ee:=fL he
     have hE':=pB he'
     have ee':=fL he'
     have ps1:=SM he he'
     simp only[eqP,yH,yO,xQ,y7,iQ,qO _ _ _ _ _ _ _ he,qO _ _ _ _ _ _ _ he'] at hb
     have br:=Gd rs.length ss.length
     obtain⟨b1,hb1⟩:∃z,(nm !=nm')=z:=⟨_,rfl⟩
     obtain⟨b2,hb2⟩:∃z,(bn !=bn')=z:=⟨_,rfl⟩
     obtain⟨b3,hb3⟩:∃z,(us' !=vs')=z:=⟨_,rfl⟩
     obtain⟨b4,hb4⟩:∃z,(hf !=hf')=z:=⟨_,rfl⟩
     obtain⟨b5,hb5⟩:∃z,BH AK e e'=z:=⟨_,rfl⟩
     obtain⟨b6,hb6⟩:∃z,(rs.length==ss.length)=z:=⟨_,rfl⟩
     rw[hb1,hb2,hb3,hb4,hb5,hb6] at hb
     rw[hb5] at ps1
     rw[hb6] at br
     have eqh:(hf==hf')= !b4:=by rw[<- hb4];cases hf<;>cases hf'<;>rfl
     cases b1 with
     | true =>
      have hno:=hno hb.symm
      simp +contextual only[r2,r3,r5,AM hg,AO hg,AM hg',AO hg',d1,ex,ey,mkP,hb1,hno,AS hB.pre (AY.refl _),go_sem]
     | false =>
     cases b2 with
     | true =>
      have hno:=hno hb.symm
      simp +contextual only[r2,r3,r5,AM hg,AO hg,AM hg',AO hg',d1,ex,ey,mkP,hb1,hb2,hno,AS hB.pre (AY.refl _),go_sem]
     | false =>
     cases b3 with
     | true =>
      have hno:=hno hb.symm
      simp +contextual only[r2,r3,r5,AM hg,AO hg,AM hg',AO hg',d1,ex,ey,mkP,hb1,hb2,hb3,hno,AS hB.pre (AY.refl _),go_sem]
     | false =>
     cases b4 with
     | true =>
      have eqh:(hf==hf')=false:=eqh
      have hno:=hno hb.symm
      simp +contextual only[r2,r3,r5,AM hg,AO hg,AM hg',AO hg',d1,ex,ey,mkP,hb1,hb2,hb3,eqh,hno,AS hB.pre (AY.refl _),go_sem]
     | false =>
     have eqh:(hf==hf')=true:=eqh
     cases b5 with
     | false =>
      have hno:=hno hb.symm
      simp +contextual only[r2,r3,r5,AM hg,AO hg,AM hg',AO hg',d1,ex,ey,mkP,hb1,hb2,hb3,eqh,hE,ee,hE',ee',ps1,hno,AS hB.pre (AY.refl _),go_sem]
     | true =>
     cases b6 with
     | false =>
      have hno:=hno hb.symm
      simp +contextual only[r2,r3,r5,AM hg,AO hg,AM hg',AO hg',d1,ex,ey,mkP,hb1,hb2,hb3,eqh,hE,ee,hE',ee',ps1,br,hno,AS hB.pre (AY.refl _),go_sem]
     | true =>
     have lr:rs.length=ss.length:=by simpa using hb6
     simp only[A6G,A64] at hb
     simp +contextual only[r2,r3,r5,AM hg,AO hg,AM hg',AO hg',d1,ex,ey,mkP,hb1,hb2,hb3,eqh,hE,ee,hE',ee',ps1,br,go_sem]
     clear ps1 br hb1 hb2 hb3 hb4 hb5 hb6 eqh
     refine OM rs.length (okZ eqR rs ss) 9 (fun s=>s.t 2= .ptr H.length 0/\s.t 3= .ptr (H.length+1) 0/\s.t 6= .int .i64 (i:Int)/\s.t 7= .ptr B.length 0/\s.t 8= .ptr (B.length+1) 0/\Ext (B++[.row (mkP nm bn us' hf e mm rs).cells,.row (mkP nm' bn' vs' hf' e' mm' ss).cells]) s.H/\s.T=T') hX ⟨by simp[upd,r2],by simp[upd,r3],by simp[upd,r5],by simp[upd],by simp[upd],Ext.refl _,rfl⟩ (by simp[upd]) ?_ ?_
     ·rintro i' ⟨t',B',T''⟩ b' hi' ⟨s2,s3,s6,s7,s8,hB',rfl⟩ s9 hb' hno'
      simp only at s2 s3 s6 s7 s8 s9 hB'
      have d2:decide ((i':Int)<rs.length)=true:=by simpa using hi'
      have ex':rs[i']? =some rs[i']:=A6A hi'
      have hj':i'<ss.length:=by omega
      have ey':ss[i']? =some ss[i']:=A6A hj'
      obtain⟨pm,ih,nm2,e2,ma,mb,du,ad,hx,he2,m1,m2,m3⟩:=k5 _ (A6L hi')
      obtain⟨pm',ih',nm2',e2',ma',mb',du',ad',hy,he2',n1,n2,n3⟩:=l5 _ (A6L hj')
      rw[hx] at ex'
      rw[hy] at ey'
      rw[y9 ex' ey'] at hb'
      clear hx hy
      have hE2:=pB he2
      have ee2:=fL he2
      have hE2':=pB he2'
      have ee2':=fL he2'
      have ps1:=SM he2 he2'
      have ps2:=N8 (m:=ma) (m':=ma') m2 n2
      have ps3:=N8 (m:=mb) (m':=mb') m3 n3
      simp only[eqR,yB,yI,zF,pN,pC,jL _ _ _ _ _ _ _ _ he2,jL _ _ _ _ _ _ _ _ he2'] at hb'
      have hg':=hB'.get (o:=B.length) (by simp;rfl)
      have hg2':=hB'.get (o:=B.length+1) (by simp;rfl)
      simp only[mkP,D.cells] at hg' hg2'
      have hB2:Ext H B':=(hB.pre.trans hB'.pre)
      have eu:=kR ma du
      have ea:=kR mb ad
      have eu':=kR ma' du'
      have ea':=kR mb' ad'
      obtain⟨b1,hb1⟩:∃z,(pm !=pm')=z:=⟨_,rfl⟩
      obtain⟨b2,hb2⟩:∃z,(nm2 !=nm2')=z:=⟨_,rfl⟩
      obtain⟨b3,hb3⟩:∃z,(ih !=ih')=z:=⟨_,rfl⟩
      obtain⟨b4,hb4⟩:∃z,BH AK e2 e2'=z:=⟨_,rfl⟩
      obtain⟨b5,hb5⟩:∃z,IA du du'=z:=⟨_,rfl⟩
      obtain⟨b6,hb6⟩:∃z,IA ad ad'=z:=⟨_,rfl⟩
      rw[hb1,hb2,hb3,hb4,hb5,hb6] at hb'
      rw[hb4] at ps1
      rw[hb5] at ps2
      rw[hb6] at ps3
      have eq1:(pm==pm')= !b1:=by rw[<- hb1];cases pm<;>cases pm'<;>rfl
      have eq3:(ih==ih')= !b3:=by rw[<- hb3];cases ih<;>cases ih'<;>rfl
      obtain⟨DU,hDU⟩:∃z,aV ma (du.map D.str)=z:=⟨_,rfl⟩
      obtain⟨AD,hAD⟩:∃z,aV mb (ad.map D.str)=z:=⟨_,rfl⟩
      obtain⟨DU',hDU'⟩:∃z,aV ma' (du'.map D.str)=z:=⟨_,rfl⟩
      obtain⟨AD',hAD'⟩:∃z,aV mb' (ad'.map D.str)=z:=⟨_,rfl⟩
      simp only[mkR,hDU,hAD,hDU',hAD'] at ex' ey' ps2 ps3 eu ea eu' ea'
      have hno2:b'=false->(A6S ps.length).all (okZ eqP ps qs)=false:=fun h=>hno (by rw[<- hb];unfold Kx;rw[hno' h])
      subst hb'
      clear hb1 hb3 hb4 hb5 hb6
      cases b1 with
      | true =>
       have eq1:(pm==pm')=false:=eq1
       have hno2:=hno2 rfl
       simp +contextual only[s2,s3,s6,s7,s8,s9,AM hg',AO hg',AM hg2',AO hg2',d2,ex',ey',eq1,hno2,AS hB2 (AY.refl _),go_sem]
      | false =>
      have eq1:(pm==pm')=true:=eq1
      cases b2 with
      | true =>
       have hno2:=hno2 rfl
       simp +contextual only[s2,s3,s6,s7,s8,s9,AM hg',AO hg',AM hg2',AO hg2',d2,ex',ey',eq1,hb2,hno2,AS hB2 (AY.refl _),go_sem]
      | false =>
      cases b3 with
      | true =>
       have eq3:(ih==ih')=false:=eq3
       have hno2:=hno2 rfl
       simp +contextual only[s2,s3,s6,s7,s8,s9,AM hg',AO hg',AM hg2',AO hg2',d2,ex',ey',eq1,hb2,eq3,hno2,AS hB2 (AY.refl _),go_sem]
      | false =>
      have eq3:(ih==ih')=true:=eq3
      cases b4 with
      | false =>
       have hno2:=hno2 rfl
       simp +contextual only[s2,s3,s6,s7,s8,s9,AM hg',AO hg',AM hg2',AO hg2',d2,ex',ey',eq1,hb2,eq3,hE2,ee2,hE2',ee2',ps1,hno2,AS hB2 (AY.refl _),go_sem]
      | true =>
      cases b5 with
      | false =>
       have hno2:=hno2 rfl
       simp +contextual only[s2,s3,s6,s7,s8,s9,AM hg',AO hg',AM hg2',AO hg2',d2,ex',ey',eq1,hb2,eq3,hE2,ee2,hE2',ee2',ps1,eu,eu',ps2,hno2,AS hB2 (AY.refl _),go_sem]
      | true =>
      cases b6 with
      | false =>
       have hno2:=hno2 rfl
       simp +contextual only[s2,s3,s6,s7,s8,s9,AM hg',AO hg',AM hg2',AO hg2',d2,ex',ey',eq1,hb2,eq3,hE2,ee2,hE2',ee2',ps1,eu,eu',ea,ea',ps2,ps3,hno2,AS hB2 (AY.refl _),go_sem]
      | true =>
       simp +contextual only[s2,s3,s6,s7,s8,s9,AM hg',AO hg',AM hg2',AO hg2',d2,ex',ey',eq1,hb2,eq3,hE2,ee2,hE2',ee2',ps1,eu,eu',ea,ea',ps2,ps3,AJ i' (by omega),go_sem]
       exact hB'.app _
     ·rintro⟨t',B',T''⟩ ⟨s2,s3,s6,s7,s8,hB',rfl⟩ s9 hall
      simp only at s2 s3 s6 s7 s8 s9 hB'
      have d2:decide ((rs.length:Int)<rs.length)=false:=by simp
      have hg':=hB'.get (o:=B.length) (by simp;rfl)
      simp only[mkP,D.cells] at hg'
      have hb:(A6S rs.length).all (okZ eqR rs ss)=b:=hb
      rw[hall] at hb
      simp +contextual only[s2,s3,s6,s7,s8,s9,AM hg',d2,AJ i (by omega),hb.symm,go_sem]
      exact(hB.app _).trans hB'
    ·rintro⟨t,B,T'⟩ ⟨r2,r3,hB,rfl⟩ r6 hall
     simp only at r2 r3 r6 hB
     have d1:decide ((ps.length:Int)<ps.length)=false:=by simp
     have hg:=hB.get (o:=H.length) (by simp;rfl)
     rw[hall]
     simp +contextual only[r2,r3,r6,AM hg,d1,Ad hB.pre (AY.refl _),go_sem]
  ·cases h
 ·cases h
end GP
namespace GP
open Go Go.Proofs
open Rd O
set_option maxRecDepth 100000
def O7:C :=
 (Rg (Rq 2 [Qo 0] [I1 4 (.mv KN)])
 (Rg ([I1 5 (.mv (Ks ([100,101,110,121])))])
 (.seq (Rg ([If 9 0 2,Il 10 9])
 (.cond (t 10)
 (.reg [I1 5 (.mv (Ks ([112,101,114,109,105,116])))])
 .skip))
 (.seq (.draw 0 [(Im 11 5,[]),(Ip 12 59 [(t 11)],[]),(If 13 1 2,[]),(Il 14 13,[]),(Ip 15 59 [(t 14)],[]),(I1 16 (.bsl 3 [(t 12),(t 15)]),[]),(Im 6 16,[])])
 (.seq (Rg ([If 17 2 2,Il 18 17])
 (.cond (t 18)
 (Rg (Rq 19 [Qa 6,Qg 59 [(Ks ([105,102]))],.bsl 3 [t 20],.app false 3 32 (t 19) (t 21)] [Im 6 22])
 (.reg (Rq 23 [Qa 6,Qc 3 2,Qe 8 24,Qa 1,Qg 24 [t 25,t 26],.app false 3 32 (t 23) (t 27)] [Im 6 28])))
 .skip))
 (.seq (Rg (Rq 7 [Qk 0] [])
 (.block 0
 (.loop
 (.seq (Rg (Rq 29 [Qa 7,Qc 11 2,Qd 30,Qi 31,Qb .lss 29 32] [])
 (.cond (t 33)
 .skip
 (.exit 0)))
 (.seq (.block 1
 (.draw 0 [(Im 36 6,[]),(Ip 37 59 [(Ks ([100,117,116,121]))],[]),(If 38 11 2,[]),(Il 39 38,[]),(Im 40 7,[]),(I1 41 (.iaddr 1 (t 39) (t 40)),[]),(Il 42 41,[]),(I1 43 (.build [(.int .i64 0),(.str []),(.int .i64 0)] [(0,1,(Ki 3)),(1,1,(t 42))]),[]),(I1 44 (.bsl 3 [(t 37),(t 43)]),[]),(I1 45 (.app false 3 32 (t 36) (t 44)),[]),(Im 6 45,[])]))
 (.reg (Rq 34 [Qa 7,Qj .add 34 1] [Im 7 35])))))))
 (.seq (Rg (Rq 8 [Qk 0] [])
 (.block 2
 (.loop
 (.seq (Rg (Rq 46 [Qa 8,Qc 12 2,Qd 47,Qi 48,Qb .lss 46 49] [])
 (.cond (t 50)
 .skip
 (.exit 2)))
 (.seq (.block 3
 (.draw 0 [(Im 53 6,[]),(Ip 54 59 [(Ks ([97,100,118,105,99,101]))],[]),(If 55 12 2,[]),(Il 56 55,[]),(Im 57 8,[]),(I1 58 (.iaddr 1 (t 56) (t 57)),[]),(Il 59 58,[]),(I1 60 (.build [(.int .i64 0),(.str []),(.int .i64 0)] [(0,1,(Ki 3)),(1,1,(t 59))]),[]),(I1 61 (.bsl 3 [(t 54),(t 60)]),[]),(I1 62 (.app false 3 32 (t 53) (t 61)),[]),(Im 6 62,[])]))
 (.reg (Rq 51 [Qa 8,Qj .add 51 1] [Im 8 52])))))))
 (Rg (Rq 63 [Qa 6,Qg 60 [(Ks ([59]))],.bsl 3 [t 64],.app false 3 32 (t 63) (t 65)] [Im 4 66])
 .ret))))))))
theorem ZL:Fn Tryz.prog 68 67 [.inl 4] O7:=AP Tryz.func68 Tryz.ntmps68 Hq3
end GP
namespace GP
open Go Go.Proofs
set_option maxRecDepth 100000
def Bz(w:List UInt8)(l:List (List UInt8)):List D:=(l.map fun s=>[mkT 1 w 0,mkT 3 s 0]).flatten
theorem L2{w:List UInt8}{l:List (List UInt8)}{i:Nat}{s:List UInt8}(h:l[i]? =some s):Bz w (l.take (i+1))=Bz w (l.take i)++[mkT 1 w 0,mkT 3 s 0]:=by
 unfold Bz
 rw[A7c,h]
 simp
theorem jT(w:List UInt8)(l:List (List UInt8)):(Bz w l).length=2*l.length:=by
 unfold Bz
 induction l with
 | nil=>rfl
 | cons s l ih=>simp at ih ⊢;omega
theorem CT(w:List UInt8)(l:List (List UInt8)):AI (Bz w l):=by
 unfold Bz
 induction l with
 | nil=>exact .nil
 | cons s l ih=>exact AI.cons _ _ _ (AI.cons _ _ _ ih)
noncomputable def ifT(full:Bool)(r:D):List D:=if rHi r then mkT 1 wIf 0::tkC full (rE r) else []
noncomputable def B8(full:Bool)(r:D):List D:=[mkT 1 (if rPm r then aX else Ce) 0,mkT 1 (rNm r) 0]++ifT full r++Bz Cv (rDu r)++Bz dG (rAd r)++[mkT 5 [59] 0]
structure goodR(full:Bool)(r:D):Prop where
 s:isR AK r
 e:rHi r=true->GoodE (rE r)/\(tkC full (rE r)).length<=2^28
 d:(rDu r).length<=4
 a:(rAd r).length<=4
open Classical in
noncomputable def HZ:List D->Option D
 | [r,.bool full]=>if goodR full r then some (.sl none (B8 full r)) else none
 | _=>none
theorem Jn(full:Bool)(e:D):AI (tkC full e):=CP _ full e
theorem V3:AQ Tryz.prog 24 (fun a=>(C1 AK a).map (.sl none)):=E6.pure (Vi AK) fun a xs h=>by
  unfold C1 at h
  split at h
  ·split at h
   ·injection h with h;subst h
    have:=CP AK ‹Bool› ‹D›
    exact⟨this.cl _ _,this.erase⟩
   ·cases h
  ·cases h
theorem Mk{e:D}{full:Bool}(h:isE AK e)(hg:GoodE e)(hl:(tkC full e).length<=2^28):(fun a=>(C1 AK a).map (D.sl none)) [e,.bool full]=some (.sl none (tkC full e)):=by
 simp only[C1]
 rw[if_pos ⟨h,hg.fm h,by rw[yN h hg];omega⟩,yN h hg];rfl
noncomputable abbrev Vd:Fs:=[(59,Ac 1),(60,Ac 5),(24,fun a=>(C1 AK a).map (.sl none))]
theorem Tx(full:Bool)(r:D):AI (ifT full r):=by
 unfold ifT;split
 ·exact AI.cons _ _ _ (Jn _ _)
 ·exact .nil
theorem Cs(full:Bool)(r:D):AI (B8 full r):=by
 unfold B8
 exact((((AI.cons _ _ _ (AI.cons _ _ _ .nil)).app (Tx _ _)).app (CT _ _)).app (CT _ _)).app (AI.cons _ _ _ .nil)
theorem A5B:AQ Tryz.prog 68 HZ:=by
 refine AN (l:=Vd) (.cons Q8 (.cons Q4 (.cons V3 .nil))) ZL fun args r h=>?_
 have hX:=AR Vd
 unfold HZ at h
 split at h
 ·rename_i rr full
  split at h
  ·rename_i hr
   injection h with h;subst h
   have hk:=Cs full rr
   refine⟨by simp,hk.cl _ _,fun H T=>?_⟩
   obtain⟨hs,hg,hd,ha⟩:=hr
   have er:=sL hs
   obtain⟨pm,hi,nm,e,m,m',du,ad,rfl,he,k1,k2,k3⟩:=hs
   rw[zF,jL _ _ _ _ _ _ _ _ he] at hg
   rw[pN] at hd
   rw[pC] at ha
   have hE:=pB he
   have ee:=fL he
   have eR:B8 full (mkR pm hi nm e m m' du ad)=[mkT 1 (if pm then aX else Ce) 0,mkT 1 nm 0]++(if hi then mkT 1 wIf 0::tkC full e else [])++Bz Cv du++Bz dG ad++[mkT 5 [59] 0]:=by
    simp only[B8,ifT,yB,yI,zF,pN,pC,jL _ _ _ _ _ _ _ _ he]
   rw[eR] at hk ⊢
   obtain⟨Z,hZ⟩:∃z,[mkT 1 (if pm then aX else Ce) 0,mkT 1 nm 0]++(if hi then mkT 1 wIf 0::tkC full e else [])++Bz Cv du++Bz dG ad++[mkT 5 [59] 0]=z:=⟨_,rfl⟩
   rw[hZ] at hk ⊢
   obtain⟨tl,htl⟩:∃z,C.tl 5 O7=z:=⟨_,rfl⟩
   have tail:∀(pre:List D) (t:Nat->D) (T':Tk),AI pre->pre.length<=2^29->t 2= .ptr H.length 0->Bu 3 T pre (t 6) T' →
     pre=[mkT 1 (if pm then aX else Ce) 0,mkT 1 nm 0]++(if hi then mkT 1 wIf 0::tkC full e else []) →
     W (XL Vd) tl (Ds [.inl 4] (CL (.sl none Z) H T)) ⟨t,H++[.row (mkR pm hi nm e m m' du ad).cells],T'⟩:=by
    intro pre t T' hp hpl t2 hA hpre
    subst htl
    rw[<- hpre] at hZ
    clear hpre
    simp +contextual only[O7,go_sem]
    refine Bm (du.map D.str) (fun i s=>s.t 2= .ptr H.length 0/\s.H=H++[.row (mkR pm hi nm e m m' du ad).cells]/\s.t 7= .int .i64 (i:Int)/\Bu 3 T (pre++Bz Cv (du.take i)) (s.t 6) s.T) hX ⟨by simp[upd,t2],rfl,by simp[upd],by simpa[upd,Bz] using hA⟩ ?_ ?_
    ·clear hA t2
     rintro i x ⟨t,B,T'⟩ hx hm hi ⟨t2,rfl,t7,hA⟩
     simp only at t2 t7 hA
     rw[A6B] at hi
     have d1:decide ((i:Int)<du.length)=true:=by simpa using hi
     obtain⟨s,hs,rfl⟩:=A6U.1 hm
     have hx':=hx
     rw[A6M,A7h] at hx'
     obtain⟨s',hs',e'⟩:=hx'
     injection e' with e';subst e'
     have nx:=L2 (w:=Cv) hs'
     have hl:=jT Cv (du.take i)
     have hl2:(du.take i).length<=4:=by rw[A6R];omega
     simp +contextual only[t2,t7,d1,hx,A6B,mkR,D.cells,Ac,mkT,go_sem]
     refine An (bytes:=32) _ (hA.app _) rfl ((hp.app (CT _ _)).fit) (by simp;omega) (by simp;omega) fun d2 T2 hA2=>?_
     simp +contextual only[t2,t7,AJ i (by omega),go_sem]
     rw[nx,← A6Q]
     exact hA2
    ·clear hA t2
     rintro⟨t,B,T'⟩ ⟨t2,rfl,t7,hA⟩
     simp only at t2 t7 hA
     rw[A6B] at t7 hA
     have d1:decide ((du.length:Int)<du.length)=false:=by simp
     rw[A6Z] at hA
     simp +contextual only[t2,t7,d1,A6B,mkR,D.cells,go_sem]
     refine Bm (ad.map D.str) (fun i s=>s.t 2= .ptr H.length 0/\s.H=H++[.row (mkR pm hi nm e m m' du ad).cells]/\s.t 8= .int .i64 (i:Int)/\Bu 3 T (pre++Bz Cv du++Bz dG (ad.take i)) (s.t 6) s.T) hX ⟨by simp[upd,t2],rfl,by simp[upd],by simpa[upd,Bz] using hA⟩ ?_ ?_
     ·clear hA t2 t7 d1
      rintro i x ⟨t,B,T'⟩ hx hm hi ⟨t2,rfl,t8,hA⟩
      simp only at t2 t8 hA
      rw[A6B] at hi
      have d1:decide ((i:Int)<ad.length)=true:=by simpa using hi
      have hx':=hx
      rw[A6M,A7h] at hx'
      obtain⟨s',hs',e'⟩:=hx'
      subst e'
      have nx:=L2 (w:=dG) hs'
      have hl:=jT Cv du
      have hl2:=jT dG (ad.take i)
      have hl3:(ad.take i).length<=4:=by rw[A6R];omega
      simp +contextual only[t2,t8,d1,hx,A6B,mkR,D.cells,Ac,mkT,go_sem]
      refine An (bytes:=32) _ (hA.app _) rfl (((hp.app (CT _ _)).app (CT _ _)).fit) (by simp;omega) (by simp;omega) fun d2 T2 hA2=>?_
      simp +contextual only[t2,t8,AJ i (by omega),go_sem]
      rw[nx]
      simp only[A6Q] at hA2 ⊢
      exact hA2
     ·clear hA t2
      rintro⟨t,B,T'⟩ ⟨t2,rfl,t8,hA⟩
      simp only at t2 t8 hA
      rw[A6B] at t8 hA
      have d1:decide ((ad.length:Int)<ad.length)=false:=by simp
      rw[A6Z] at hA
      have hl:=jT Cv du
      have hl2:=jT dG ad
      simp +contextual only[t2,t8,d1,A6B,mkR,D.cells,Ac,mkT,go_sem]
      refine An (bytes:=32) _ (hA.app _) rfl (((hp.app (CT _ _)).app (CT _ _)).fit) (by simp;omega) (by simp;omega) fun d2 T2 hA2=>?_
      simp +contextual only[go_sem]
      have hq:AI (pre++Bz Cv du++Bz dG ad++[mkT 5 [59] 0]):=((hp.app (CT _ _)).app (CT _ _)).app (AI.cons _ _ _ .nil)
      have he:=hA2.erase hq.erase (by simp)
      rw[<- hZ]
      exact⟨he,⟨_,rfl⟩,hA2.1⟩
   rw[J6 5,htl]
   have w2:∀w:List UInt8,AI [mkT 1 w 0,mkT 1 nm 0]:=fun w=>AI.cons _ _ _ (AI.cons _ _ _ .nil)
   cases hi with
   | false =>
    simp only[A6C,if_false,A7l] at tail
    cases pm with
    | true =>
     simp +contextual only[O7,mkR,D.cells,er,Ac,mkT,go_sem]
     refine tail [mkT 1 aX 0,mkT 1 nm 0] _ _ (w2 _) (by simp) ?_ ?_ rfl
     ·simp[upd]
     ·simp[upd];exact Bu.mk 3 T (AY.refl _) [mkT 1 aX 0,mkT 1 nm 0] []
    | false =>
     simp +contextual only[O7,mkR,D.cells,er,Ac,mkT,go_sem]
     refine tail [mkT 1 Ce 0,mkT 1 nm 0] _ _ (w2 _) (by simp) ?_ ?_ rfl
     ·simp[upd]
     ·simp[upd];exact Bu.mk 3 T (AY.refl _) [mkT 1 Ce 0,mkT 1 nm 0] []
   | true =>
    obtain⟨hg,hl⟩:=hg rfl
    have p24:=Mk he hg hl
    simp only at p24
    have hkt:=Jn full e
    obtain⟨X,hXe⟩:∃z,tkC full e=z:=⟨_,rfl⟩
    rw[hXe] at p24 hkt hl tail
    have hfit:=hkt.fit
    simp only[if_true] at tail
    cases pm with
    | true =>
     simp +contextual only[O7,mkR,D.cells,er,Ac,mkT,go_sem]
     refine An (bytes:=32) _ (Bu.mk 3 T (AY.refl _) [mkT 1 aX 0,mkT 1 nm 0] _) rfl (w2 _).fit (by simp) (by simp) fun d2 T2 hA2=>?_
     simp +contextual only[hE,ee,p24,go_sem]
     refine An (bytes:=32) _ hA2 hfit ((w2 _).app (AI.cons _ _ _ .nil)).fit (by simp;omega) (by simp;omega) fun d2 T2 hA2=>?_
     simp +contextual only[go_sem]
     refine tail ([mkT 1 aX 0,mkT 1 nm 0]++mkT 1 wIf 0::X) _ _ ((w2 _).app (AI.cons _ _ _ hkt)) (by simp;omega) ?_ ?_ rfl
     ·simp[upd]
     ·simp[upd]
      simp only[A6Q,A7f,A61] at hA2
      exact hA2
    | false =>
     simp +contextual only[O7,mkR,D.cells,er,Ac,mkT,go_sem]
     refine An (bytes:=32) _ (Bu.mk 3 T (AY.refl _) [mkT 1 Ce 0,mkT 1 nm 0] _) rfl (w2 _).fit (by simp) (by simp) fun d2 T2 hA2=>?_
     simp +contextual only[hE,ee,p24,go_sem]
     refine An (bytes:=32) _ hA2 hfit ((w2 _).app (AI.cons _ _ _ .nil)).fit (by simp;omega) (by simp;omega) fun d2 T2 hA2=>?_
     simp +contextual only[go_sem]
     refine tail ([mkT 1 Ce 0,mkT 1 nm 0]++mkT 1 wIf 0::X) _ _ ((w2 _).app (AI.cons _ _ _ hkt)) (by simp;omega) ?_ ?_ rfl
     ·simp[upd]
     ·simp[upd]
      simp only[A6Q,A7f,A61] at hA2
      exact hA2
  ·cases h
 ·cases h
end GP
