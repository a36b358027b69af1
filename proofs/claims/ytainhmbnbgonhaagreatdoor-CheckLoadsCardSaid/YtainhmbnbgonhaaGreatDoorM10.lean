import Derived.Ground.NamesProg
import Derived.Shelf.Lay
import Derived.Shelf.Strings.OnBuilder
import Derived.Test.YtainhmbnbgonhaaGreatDoorProg
import Derived.Test.YtainhmbnbgonhaaGreatDoorM2
import Derived.Test.YtainhmbnbgonhaaGreatDoorM3
import Derived.Test.YtainhmbnbgonhaaGreatDoorM5
import Derived.Test.YtainhmbnbgonhaaGreatDoorM6
import Derived.Test.YtainhmbnbgonhaaGreatDoorM9
set_option maxHeartbeats 32000000
open Bool renaming and_eq_true->A6A,false_eq_true->A6B,not_eq_true'->A6R,or_eq_true->A6T,and_self->A6Z,true_and->A60,not_true->A69,or_eq_false_iff->A7b,not_false->A7c,false_or->A7e,and_true->A7m,true_or->A7s,and_false->A7t,false_and->A7w,eq_iff_iff->A7H,not_eq_false->A7M,or_self->A7Q,not_eq_true->A7S,and_assoc->A7Y,or_false->A72,or_true->A76
open List renaming length_append->A6C,length_cons->A6D,all_eq_true->A6E,getElem?_eq_getElem->A6F,take_length->A6G,length_map->A6H,getElem?_eq_none->A6I,mem_cons->A6J,append_assoc->A6K,nil_append->A6L,map_cons->A6M,not_mem_nil->A6N,length_nil->A6O,cons_append->A6P,all_cons->A6S,contains_iff_mem->A6U,take_add_one->A6W,getElem?_map->A6X,getElem?_append_right->A6Y,getElem?_append_left->A61,getElem?_eq_some_iff->A62,all_append->A63,mem_append->A64,getElem?_set_self->A66,mem_map->A68,mem_of_getElem?->A7a,drop_length->A7d,getElem_cons_zero->A7f,map_map->A7h,length_take->A7i,length_drop->A7j,any_eq_true->A7k,getElem?_set_ne->A7l,append_nil->A7n,map_congr_left->A7o,foldl_cons->A7p,all_nil->A7q,mem_singleton->A7r,drop_drop->A7u,drop_zero->A7v,drop_eq_getElem_cons->A7x,ext_getElem?->A7y,flatten_cons->A7z,any_cons->A7C,getElem_cons_succ->A7E,singleton_append->A7F,map_nil->A7G,any_nil->A7I,length_replicate->A7J,set_cons_zero->A7K,set_cons_succ->A7L,foldl_append->A7N,any_eq_false->A7O,getElem_mem->A7R,map_id->A7T,map_append->A7V,foldl_nil->A7W,take_zero->A7X,map_take->A7Z,cons->A74
open Nat renaming mul_le_mul_left->A6Q,zero_add->A6V,lt_or_ge->A65,le_refl->A67,add_assoc->A7A,reduceAdd->A7B,lt_irrefl->A7D,add_zero->A7P,reducePow->A70,le_trans->A73
open Option renaming map_eq_some_iff->A7g
open Int renaming natCast_add->A7U,reduceAdd->A71,add_comm->A75
open Go.World renaming drewN->A77
set_option linter.unusedSimpArgs false
set_option linter.unnecessarySimpa false
namespace GP
open Go Go.Proofs
set_option maxRecDepth 100000
def BC(f:D->List D)(l:List D):List D:=(l.map f).flatten
section
variable {f:D->List D} {l:List D}
theorem bC{x:D}:BC f (x::l)=f x++BC f l:=rfl
theorem Sg{m:List D}:BC f (l++m)=BC f l++BC f m:=by simp[BC]
theorem GT{i:Nat}{x:D}(h:l[i]? =some x):BC f (l.take (i+1))=BC f (l.take i)++f x:=by
 rw[A6W,h,Sg];simp[BC]
theorem EM{B:Nat}(h:∀x∈l,(f x).length<=B):(BC f l).length<=B*l.length:=by
 induction l with
 | nil=>simp[BC]
 | cons x l ih =>
  have h1:=h x (by simp)
  have h2:=ih fun y hy=>h y (by simp[hy])
  rw[bC,A6C,A6D,Nat.mul_add];omega
theorem Ch(h:∀x∈l,AI (f x)):AI (BC f l):=by
 induction l with
 | nil=>exact .nil
 | cons x l ih=>exact(h x (by simp)).app (ih fun y hy=>h y (by simp[hy]))
theorem Da{B n i:Nat}(hB:∀x∈l,(f x).length<=B)(hn:l.length<=n):(BC f (l.take i)).length<=B*n:=by
 have h1:=EM (f:=f) (B:=B) (l:=l.take i) fun x hx=>hB x (List.mem_of_mem_take hx)
 have h2:(l.take i).length<=n:=by rw[A7i];omega
 exact A73 h1 (A6Q _ h2)
end
def E7(k:Int):List UInt8:=if k==1 then Eh else if k==2 then Dk else if k==3 then G7 else Fx
def IZ(b:Bool):List D:=if b then [mkT 1 Js 0] else []
def CG(f:D):List D:=[mkT 1 Ef 0,mkT 1 (IV f) 0,mkT 5 [46] 0,mkT 1 (F6 f) 0,mkT 1 (E7 (Dv f)) 0]++IZ (QG f)++[mkT 5 [59] 0]
noncomputable def Hg(full:Bool)(p:D):List D:=if pHf p then mkT 1 JP 0::(tkC full (pE p)++[mkT 5 [59] 0]) else []
noncomputable def Dw(full:Bool)(p:D):List D:=[mkT 1 gN 0,mkT 1 (pNm p) 0,mkT 1 wBy 0,mkT 1 (pBy p) 0,mkT 1 Ea 0,mkT 1 (pUs p) 0,mkT 5 [123] 0]++Hg full p++BC (B8 full) (pRs p)++[mkT 5 [125] 0]
noncomputable def Bc(full:Bool)(d:D):List D:=BC CG (dFs d)++[mkT 1 Ea 0,mkT 1 (dUs d) 0,mkT 5 [59] 0]++BC (Dw full) (dPs d)
structure goodP(full:Bool)(p:D):Prop where
 s:Fh AK p
 e:pHf p=true->GoodE (pE p)/\(tkC full (pE p)).length<=2^28
 l:(pRs p).length<=8
 r:∀r∈pRs p,goodR full r
structure goodD(full:Bool)(d:D):Prop where
 s:Bi AK d
 f:(dFs d).length<=12
 k:∀f∈dFs d,1<=Dv f/\Dv f<=4
 l:(dPs d).length<=6
 p:∀p∈dPs d,goodP full p
theorem SU(b:Bool):AI (IZ b):=by
 unfold IZ;split
 ·exact AI.cons _ _ _ .nil
 ·exact .nil
theorem Ij(f:D):AI (CG f):=by
 unfold CG
 exact((AI.cons _ _ _ (AI.cons _ _ _ (AI.cons _ _ _ (AI.cons _ _ _ (AI.cons _ _ _ .nil))))).app (SU _)).app (AI.cons _ _ _ .nil)
theorem SF(full:Bool)(r:D):AI (Hg full r):=by
 unfold Hg;split
 ·exact AI.cons _ _ _ ((Jn _ _).app (AI.cons _ _ _ .nil))
 ·exact .nil
theorem Nf(full:Bool)(p:D):AI (Dw full p):=by
 unfold Dw
 exact(((AI.cons _ _ _ (AI.cons _ _ _ (AI.cons _ _ _ (AI.cons _ _ _ (AI.cons _ _ _ (AI.cons _ _ _ (AI.cons _ _ _ .nil))))))).app (SF _ _)).app (Ch fun x _=>Cs _ _)).app (AI.cons _ _ _ .nil)
theorem RC(full:Bool)(d:D):AI (Bc full d):=by
 unfold Bc
 exact((Ch fun x _=>Ij x).app (AI.cons _ _ _ (AI.cons _ _ _ (AI.cons _ _ _ .nil)))).app (Ch fun x _=>Nf _ _)
theorem sY(f:D):(CG f).length<=7:=by
 unfold CG IZ;split<;>simp
theorem rR{full:Bool}{r:D}(h:goodR full r):(B8 full r).length<=2^29:=by
 have h1:=jT Cv (rDu r)
 have h2:=jT dG (rAd r)
 have h3:(ifT full r).length<=2^28+1:=by
  unfold ifT;split
  ·have:=(h.e ‹_›).2;simp only[A6D];omega
  ·simp
 have:=h.d;have:=h.a
 simp only[B8,A6C,A6D,A6O];omega
theorem uM{full:Bool}{p:D}(h:goodP full p):(Hg full p).length<=2^28+2:=by
 unfold Hg;split
 ·have:=(h.e ‹_›).2;simp only[A6D,A6C,A6O];omega
 ·simp
theorem vI{full:Bool}{p:D}(h:goodP full p):(Dw full p).length<=2^33:=by
 have h1:=uM h
 have h2:=EM (f:=B8 full) (B:=2^29) (l:=pRs p) fun x hx=>rR (h.r x hx)
 have:=A6Q (2^29) h.l
 simp only[Dw,A6C,A6D,A6O];omega
open Classical in
noncomputable def uB:List D->Option D
 | [d,.bool full]=>if goodD full d then some (.sl none (Bc full d)) else none
 | _=>none
noncomputable abbrev Zz:Fs:=[(59,Ac 1),(60,Ac 5),(24,fun a=>(C1 AK a).map (.sl none)),(68,HZ)]
theorem N4{full:Bool}{r:D}(h:goodR full r):HZ [r,.bool full]=some (.sl none (B8 full r)):=by simp only[HZ];rw[if_pos h]
theorem A40:AQ Tryz.prog 30 uB:=by
 refine AN (l:=Zz) (.cons Q8 (.cons Q4 (.cons V3 (.cons A5B .nil)))) A33 fun args r h=>?_
 have hX:=AR Zz
 unfold uB at h
 split at h
 ·rename_i dd full
  split at h
  ·rename_i hr
   injection h with h;subst h
   have hk:=RC full dd
   refine⟨by simp,hk.cl _ _,fun H T=>?_⟩
   obtain⟨hs,hf,hfk,hl,hp⟩:=hr
   have ed:=Az hs
   obtain⟨m,fs,us,m',ps,rfl,h1,h2,h3,h4,h5⟩:=hs
   simp only[Bc,tU,xU,lA] at hk hf hfk hl hp ⊢
   simp only[Ah] at ed
   obtain⟨Z,hZ⟩:∃z,BC CG fs++[mkT 1 Ea 0,mkT 1 us 0,mkT 5 [59] 0]++BC (Dw full) ps=z:=⟨_,rfl⟩
   rw[hZ] at hk ⊢
   simp +contextual only[c30,Ah,ed,go_sem]
   refine Bm fs (fun i s=>s.t 1= .bool full/\s.t 2= .ptr H.length 0/\Ext (H++[.row [aV m fs,.str us,aV m' ps]]) s.H/\s.t 6= .int .i64 (i:Int)/\Bu 3 T (BC CG (fs.take i)) (s.t 5) s.T) hX ⟨by simp[upd,Ae],by simp[upd],Ext.refl _,by simp[upd],by simpa[upd,BC] using Bu.nil 3 T (AY.refl _)⟩ ?_ ?_
   ·rintro i x ⟨t,B,T'⟩ hx hm hi ⟨t1,t2,hB,t6,hA⟩
    simp only at t1 t2 hB t6 hA
    have d1:decide ((i:Int)<fs.length)=true:=by simpa using hi
    obtain⟨w,n,k,bg,rfl,k1,k2,k3,k4⟩:=h4 x hm
    obtain⟨g1,g2⟩:=hfk _ hm
    have g1:1<=k:=g1
    have g2:k<=4:=g2
    have hg:=hB.get (o:=H.length) (by simp;rfl)
    have nx:=GT (f:=CG) hx
    have hcl:=Da (f:=CG) (i:=i) (fun x _=>sY x) hf
    have hct:AI (BC CG (fs.take i)):=Ch fun x _=>Ij x
    have hix:ixa false 1 5 (.agg [.str [],.str [116,114,117,116,104],.str [110,117,109,98,101,114],.str [116,101,120,116],.str [116,105,109,101]]) (.int .i64 k)=some (.str (E7 k)):=by
     have:k=1∨k=2∨k=3∨k=4:=by omega
     rcases this with rfl|rfl|rfl|rfl<;>rfl
    have eF:CG (mkF w n k bg)=[mkT 1 Ef 0,mkT 1 w 0,mkT 5 [46] 0,mkT 1 n 0,mkT 1 (E7 k) 0]++IZ bg++[mkT 5 [59] 0]:=rfl
    have t5:AI [mkT 1 Ef 0,mkT 1 w 0,mkT 5 [46] 0,mkT 1 n 0,mkT 1 (E7 k) 0]:=AI.cons _ _ _ (AI.cons _ _ _ (AI.cons _ _ _ (AI.cons _ _ _ (AI.cons _ _ _ .nil))))
    obtain⟨kn,hkn⟩:∃z,E7 k=z:=⟨_,rfl⟩
    rw[hkn] at hix eF t5
    rw[eF] at nx
    obtain⟨acc,hac⟩:∃z,BC CG (fs.take i)=z:=⟨_,rfl⟩
    rw[hac] at nx hcl hct hA
    cases bg with
    | true =>
     simp +contextual only[t1,t2,t6,AM hg,AO hg,d1,hx,mkF,Ac,mkT,hix,go_sem]
     refine An (bytes:=32) _ hA t5.fit hct.fit (by simp;omega) (by simp;omega) fun d2 T2 hA2=>?_
     simp +contextual only[t1,t2,t6,Ac,mkT,go_sem]
     refine An (bytes:=32) [mkT 1 Js 0] (hA2.app _) rfl (hct.app t5).fit (by simp;omega) (by simp;omega) fun d3 T3 hA3=>?_
     simp +contextual only[t1,t2,t6,Ac,mkT,go_sem]
     refine An (bytes:=32) [mkT 5 [59] 0] (hA3.app _) rfl ((hct.app t5).app (AI.cons 1 Js 0 AI.nil)).fit (by simp;omega) (by simp;omega) fun d4 T4 hA4=>?_
     simp +contextual only[t1,t2,t6,AJ i (by omega),go_sem]
     refine⟨hB.app _,?_⟩
     rw[nx]
     simpa[IZ,mkT,Ef] using hA4
    | false =>
     simp +contextual only[t1,t2,t6,AM hg,AO hg,d1,hx,mkF,Ac,mkT,hix,go_sem]
     refine An (bytes:=32) _ hA t5.fit hct.fit (by simp;omega) (by simp;omega) fun d2 T2 hA2=>?_
     simp +contextual only[t1,t2,t6,Ac,mkT,go_sem]
     refine An (bytes:=32) [mkT 5 [59] 0] (hA2.app _) rfl (hct.app t5).fit (by simp;omega) (by simp;omega) fun d4 T4 hA4=>?_
     simp +contextual only[t1,t2,t6,AJ i (by omega),go_sem]
     refine⟨hB.app _,?_⟩
     rw[nx]
     simpa[IZ,mkT,Ef] using hA4
   ·rintro⟨t,B,T'⟩ ⟨t1,t2,hB,t6,hA⟩
    simp only at t1 t2 hB t6 hA
    have d1:decide ((fs.length:Int)<fs.length)=false:=by simp
    rw[A6G] at hA
    have hg:=hB.get (o:=H.length) (by simp;rfl)
    have hcl:=EM (f:=CG) (l:=fs) (fun x _=>sY x)
    have hct:AI (BC CG fs):=Ch fun x _=>Ij x
    have tu:AI [mkT 1 Ea 0,mkT 1 us 0,mkT 5 [59] 0]:=AI.cons _ _ _ (AI.cons _ _ _ (AI.cons _ _ _ .nil))
    simp +contextual only[t1,t2,t6,AM hg,d1,Ac,mkT,go_sem]
    refine An (bytes:=32) _ hA tu.fit hct.fit (by simp;omega) (by simp;omega) fun d2 T2 hA2=>?_
    obtain⟨pre,hpre⟩:∃z,BC CG fs++[mkT 1 Ea 0,mkT 1 us 0,mkT 5 [59] 0]=z:=⟨_,rfl⟩
    have hpl:pre.length<=100:=by rw[<- hpre];simp only[A6C,A6D,A6O];omega
    have hpt:AI pre:=by rw[<- hpre];exact hct.app tu
    have hA2:Bu 3 T pre d2 T2:=by rw[<- hpre];exact hA2
    rw[hpre] at hZ
    clear hA hg hct hcl tu
    simp +contextual only[t1,t2,go_sem]
    refine Bm ps (fun i s=>s.t 1= .bool full/\s.t 2= .ptr H.length 0/\Ext (H++[.row [aV m fs,.str us,aV m' ps]]) s.H/\s.t 8= .int .i64 (i:Int)/\Bu 3 T (pre++BC (Dw full) (ps.take i)) (s.t 5) s.T) hX ⟨by simp[upd,t1],by simp[upd,t2],hB,by simp[upd],by simpa[upd,BC] using hA2⟩ ?_ ?_
    ·clear hA2 hB t1 t2 t6
     rintro i x ⟨t,B,T'⟩ hx hm hi ⟨t1,t2,hB,t8,hA⟩
     simp only at t1 t2 hB t8 hA
     have d1:decide ((i:Int)<ps.length)=true:=by simpa using hi
     have hpx:=hp x hm
     obtain⟨_,hpe,hprl,hpr⟩:=hpx
     obtain⟨nm,bn,us',hf',e,mm,rs,rfl,he,k1,k2,k3,k4,k5⟩:=h5 x hm
     have hE:=pB he
     have ee:=fL he
     have hg:=hB.get (o:=H.length) (by simp;rfl)
     have nx:=GT (f:=Dw full) hx
     have hcl:=Da (f:=Dw full) (i:=i) (B:=2^33) (fun x hx=>vI (hp x hx)) hl
     have hct:AI (pre++BC (Dw full) (ps.take i)):=hpt.app (Ch fun x _=>Nf _ x)
     rw[y7,qO _ _ _ _ _ _ _ he] at hpe
     rw[iQ] at hprl hpr
     have eP:Dw full (mkP nm bn us' hf' e mm rs)=[mkT 1 gN 0,mkT 1 nm 0,mkT 1 wBy 0,mkT 1 bn 0,mkT 1 Ea 0,mkT 1 us' 0,mkT 5 [123] 0]++(if hf' then mkT 1 JP 0::(tkC full e++[mkT 5 [59] 0]) else [])++BC (B8 full) rs++[mkT 5 [125] 0]:=by
      simp only[Dw,Hg,yH,yO,xQ,y7,iQ,qO _ _ _ _ _ _ _ he]
     rw[eP] at nx
     have t7:AI [mkT 1 gN 0,mkT 1 nm 0,mkT 1 wBy 0,mkT 1 bn 0,mkT 1 Ea 0,mkT 1 us' 0,mkT 5 [123] 0]:=AI.cons _ _ _ (AI.cons _ _ _ (AI.cons _ _ _ (AI.cons _ _ _ (AI.cons _ _ _ (AI.cons _ _ _ (AI.cons _ _ _ .nil))))))
     obtain⟨acc,hac⟩:∃z,pre++BC (Dw full) (ps.take i)=z:=⟨_,rfl⟩
     have hal:acc.length<=2^37:=by rw[<- hac,A6C];omega
     rw[hac] at hct hA
     cases hf' with
     | false =>
      simp +contextual only[t1,t2,t8,AM hg,AO hg,d1,hx,mkP,Ac,mkT,go_sem]
      refine An (bytes:=32) _ hA t7.fit hct.fit (by simp;omega) (by simp;omega) fun d2 T2 hA2=>?_
      clear hA
      obtain⟨hd,hhd⟩:∃hd,hd=[mkT 1 gN 0,mkT 1 nm 0,mkT 1 wBy 0,mkT 1 bn 0,mkT 1 Ea 0,mkT 1 us' 0,mkT 5 [123] 0]:=⟨_,rfl⟩
      have hdt:AI hd:=by rw[hhd];exact t7
      have hdl:hd.length<=2^30:=by rw[hhd];simp
      have hA:Bu 3 T (acc++hd) d2 T2:=by rw[hhd];exact hA2
      clear hA2
      simp only[A6B,if_false,A7n] at nx
      simp +contextual only[t1,t2,t8,Ac,mkT,go_sem]
      refine Bm rs (fun j s=>s.t 1= .bool full/\s.t 2= .ptr H.length 0/\s.t 8= .int .i64 (i:Int)/\s.t 9= .ptr B.length 0/\Ext (B++[.row (mkP nm bn us' false e mm rs).cells]) s.H/\s.t 10= .int .i64 (j:Int)/\Bu 3 T (acc++hd++BC (B8 full) (rs.take j)) (s.t 5) s.T) hX ⟨by simp[upd,t1],by simp[upd,t2],by simp[upd,t8],by simp[upd],Ext.refl _,by simp[upd],by simpa[upd,BC] using hA⟩ ?_ ?_
      ·clear hA t1 t2 t8
       rintro j x ⟨t,B',T'⟩ hx hm hj ⟨t1,t2,t8,t9,hB',t10,hA⟩
       simp only at t1 t2 t8 t9 hB' t10 hA
       have d2:decide ((j:Int)<rs.length)=true:=by simpa using hj
       have pr:=N4 (hpr x hm)
       have er:=sL (k5 x hm)
       obtain⟨q1,q2,q3,q4⟩:=J1 (k5 x hm)
       have hg':=hB'.get (o:=B.length) (by simp;rfl)
       simp only[mkP,D.cells] at hg'
       have nx2:=GT (f:=B8 full) hx
       have hrt:=Cs full x
       have hrl:=rR (hpr x hm)
       have hcl2:=Da (f:=B8 full) (i:=j) (B:=2^29) (fun x hx=>rR (hpr x hx)) hprl
       have hct2:AI (acc++hd++BC (B8 full) (rs.take j)):=(hct.app hdt).app (Ch fun x _=>Cs _ x)
       have hl2:(acc++hd++BC (B8 full) (rs.take j)).length<=2^38:=by simp only[A6C];omega
       rw[nx2,← A6K]
       obtain⟨acc2,hac2⟩:∃z,acc++hd++BC (B8 full) (rs.take j)=z:=⟨_,rfl⟩
       rw[hac2] at hA hct2 hl2 ⊢
       obtain⟨RT,hRT⟩:∃z,B8 full x=z:=⟨_,rfl⟩
       rw[hRT] at pr hrt hrl ⊢
       simp +contextual only[t1,t2,t8,t9,t10,AM hg',d2,hx,q1,q2,q3,q4,er,pr,go_sem]
       refine An (bytes:=32) _ hA hrt.fit hct2.fit (by omega) (by omega) fun d3 T3 hA3=>?_
       simp +contextual only[t1,t2,t8,t9,t10,AJ j (by omega),go_sem]
       exact⟨hB',hA3⟩
      ·clear hA t1 t2 t8
       rintro⟨t,B',T'⟩ ⟨t1,t2,t8,t9,hB',t10,hA⟩
       simp only at t1 t2 t8 t9 hB' t10 hA
       have d2:decide ((rs.length:Int)<rs.length)=false:=by simp
       rw[A6G] at hA
       have hg':=hB'.get (o:=B.length) (by simp;rfl)
       simp only[mkP,D.cells] at hg'
       have hcl2:=EM (f:=B8 full) (l:=rs) (fun x hx=>rR (hpr x hx))
       have hcl3:=A6Q (2^29) hprl
       have hct2:AI (acc++hd++BC (B8 full) rs):=(hct.app hdt).app (Ch fun x _=>Cs _ x)
       simp +contextual only[t1,t2,t8,t9,t10,AM hg',d2,Ac,mkT,go_sem]
       refine An (bytes:=32) _ (hA.app _) rfl hct2.fit (by simp;omega) (by simp;omega) fun d3 T3 hA3=>?_
       simp +contextual only[t1,t2,t8,AJ i (by omega),go_sem]
       refine⟨(hB.app _).trans hB',?_⟩
       rw[nx,← A6K,hac,← hhd]
       simpa[mkT,gN,wBy,Ea] using hA3
     | true =>
      obtain⟨hge,hle⟩:=hpe rfl
      have p24:=Mk he hge hle
      simp only at p24
      have hkt:=Jn full e
      obtain⟨X,hXe⟩:∃z,tkC full e=z:=⟨_,rfl⟩
      rw[hXe] at p24 hkt hle
      simp only[if_true,hXe] at nx
      simp +contextual only[t1,t2,t8,AM hg,AO hg,d1,hx,mkP,Ac,mkT,go_sem]
      refine An (bytes:=32) _ hA t7.fit hct.fit (by simp;omega) (by simp;omega) fun d2 T2 hA2=>?_
      simp +contextual only[t1,t2,t8,Ac,mkT,go_sem]
      refine An (bytes:=32) [mkT 1 JP 0] (hA2.app _) rfl (hct.app t7).fit (by simp;omega) (by simp;omega) fun d3 T3 hA3=>?_
      simp +contextual only[t1,t2,t8,hE,ee,p24,Ac,mkT,go_sem]
      refine An (bytes:=32) _ hA3 hkt.fit ((hct.app t7).app (AI.cons 1 JP 0 AI.nil)).fit (by simp;omega) (by simp;omega) fun d4 T4 hA4=>?_
      simp +contextual only[t1,t2,t8,Ac,mkT,go_sem]
      refine An (bytes:=32) [mkT 5 [59] 0] (hA4.app _) rfl (((hct.app t7).app (AI.cons 1 JP 0 AI.nil)).app hkt).fit (by simp;omega) (by simp;omega) fun d5 T5 hA5=>?_
      clear hA hA2 hA3 hA4
      obtain⟨hd,hhd⟩:∃hd,hd=[mkT 1 gN 0,mkT 1 nm 0,mkT 1 wBy 0,mkT 1 bn 0,mkT 1 Ea 0,mkT 1 us' 0,mkT 5 [123] 0]++mkT 1 JP 0::(X++[mkT 5 [59] 0]):=⟨_,rfl⟩
      have hdt:AI hd:=by rw[hhd];exact t7.app (AI.cons _ _ _ (hkt.app (AI.cons _ _ _ .nil)))
      have hdl:hd.length<=2^30:=by rw[hhd];simp;omega
      have hA:Bu 3 T (acc++hd) d5 T5:=by rw[hhd];simpa[mkT,gN,wBy,Ea] using hA5
      clear hA5
      rw[<- hhd] at nx
      simp +contextual only[t1,t2,t8,Ac,mkT,go_sem]
      refine Bm rs (fun j s=>s.t 1= .bool full/\s.t 2= .ptr H.length 0/\s.t 8= .int .i64 (i:Int)/\s.t 9= .ptr B.length 0/\Ext (B++[.row (mkP nm bn us' true e mm rs).cells]) s.H/\s.t 10= .int .i64 (j:Int)/\Bu 3 T (acc++hd++BC (B8 full) (rs.take j)) (s.t 5) s.T) hX ⟨by simp[upd,t1],by simp[upd,t2],by simp[upd,t8],by simp[upd],Ext.refl _,by simp[upd],by simpa[upd,BC] using hA⟩ ?_ ?_
      ·clear hA t1 t2 t8
       rintro j x ⟨t,B',T'⟩ hx hm hj ⟨t1,t2,t8,t9,hB',t10,hA⟩
       simp only at t1 t2 t8 t9 hB' t10 hA
       have d2:decide ((j:Int)<rs.length)=true:=by simpa using hj
       have pr:=N4 (hpr x hm)
       have er:=sL (k5 x hm)
       obtain⟨q1,q2,q3,q4⟩:=J1 (k5 x hm)
       have hg':=hB'.get (o:=B.length) (by simp;rfl)
       simp only[mkP,D.cells] at hg'
       have nx2:=GT (f:=B8 full) hx
       have hrt:=Cs full x
       have hrl:=rR (hpr x hm)
       have hcl2:=Da (f:=B8 full) (i:=j) (B:=2^29) (fun x hx=>rR (hpr x hx)) hprl
       have hct2:AI (acc++hd++BC (B8 full) (rs.take j)):=(hct.app hdt).app (Ch fun x _=>Cs _ x)
       have hl2:(acc++hd++BC (B8 full) (rs.take j)).length<=2^38:=by simp only[A6C];omega
       rw[nx2,← A6K]
       obtain⟨acc2,hac2⟩:∃z,acc++hd++BC (B8 full) (rs.take j)=z:=⟨_,rfl⟩
       rw[hac2] at hA hct2 hl2 ⊢
       obtain⟨RT,hRT⟩:∃z,B8 full x=z:=⟨_,rfl⟩
       rw[hRT] at pr hrt hrl ⊢
       simp +contextual only[t1,t2,t8,t9,t10,AM hg',d2,hx,q1,q2,q3,q4,er,pr,go_sem]
       refine An (bytes:=32) _ hA hrt.fit hct2.fit (by omega) (by omega) fun d3 T3 hA3=>?_
       simp +contextual only[t1,t2,t8,t9,t10,AJ j (by omega),go_sem]
       exact⟨hB',hA3⟩
      ·clear hA t1 t2 t8
       rintro⟨t,B',T'⟩ ⟨t1,t2,t8,t9,hB',t10,hA⟩
       simp only at t1 t2 t8 t9 hB' t10 hA
       have d2:decide ((rs.length:Int)<rs.length)=false:=by simp
       rw[A6G] at hA
       have hg':=hB'.get (o:=B.length) (by simp;rfl)
       simp only[mkP,D.cells] at hg'
       have hcl2:=EM (f:=B8 full) (l:=rs) (fun x hx=>rR (hpr x hx))
       have hcl3:=A6Q (2^29) hprl
       have hct2:AI (acc++hd++BC (B8 full) rs):=(hct.app hdt).app (Ch fun x _=>Cs _ x)
       simp +contextual only[t1,t2,t8,t9,t10,AM hg',d2,Ac,mkT,go_sem]
       refine An (bytes:=32) _ (hA.app _) rfl hct2.fit (by simp;omega) (by simp;omega) fun d3 T3 hA3=>?_
       simp +contextual only[t1,t2,t8,AJ i (by omega),go_sem]
       refine⟨(hB.app _).trans hB',?_⟩
       rw[nx,← A6K,hac]
       simpa[mkT,gN,wBy,Ea] using hA3
    ·rintro⟨t,B,T'⟩ ⟨t1,t2,hB,t8,hA⟩
     simp only at t1 t2 hB t8 hA
     have d1:decide ((ps.length:Int)<ps.length)=false:=by simp
     rw[A6G] at hA
     have hg:=hB.get (o:=H.length) (by simp;rfl)
     simp +contextual only[t1,t2,t8,AM hg,d1,go_sem]
     rw[Ad hB.pre hA.1]
     rw[hZ] at hA
     refine hA.erase hk.erase ?_
     rw[<- hZ,← hpre];simp
  ·cases h
 ·cases h
end GP
namespace GP
open Go Go.Proofs
set_option maxRecDepth 100000
section
variable {toks:List D} {a:Nat}
theorem kN{w:List UInt8}{st:St}(h:isP toks st w=true):FG toks w st=(true,(st.1+1,st.2)):=by unfold FG;rw[if_pos h]
theorem pG{w:List UInt8}{st:St}(h:isP toks st w=false):FG toks w st=(false,st):=by unfold FG;rw[if_neg (by rw[h];decide)]
theorem Nxt.yes{w:List UInt8}{st:St}(h:Nxt toks st w):isP toks st w=true:=by rw[h];simp
theorem m7{w:List UInt8}(h:toks[a]? =some (mkT 1 w 0))(hw:Ab 1 w 0=true):G5 toks (a,0)=(w,(a+1,0)):=by
 unfold G5;rw[kO h hw];rfl
end
theorem wU{k:Int}(h1:1<=k)(h2:k<=4):E7 k∈Lh/\Bp (E7 k)=true/\Ez (E7 k)=k:=by
 have:k=1∨k=2∨k=3∨k=4:=by omega
 rcases this with rfl|rfl|rfl|rfl<;>decide
theorem xK{f:D}(h:okF f=true):inB Dm (IV f)=true/\C6 (F6 f)=true/\1<=Dv f/\Dv f<=4:=by
 unfold okF at h
 simp only[A6A,A6R,decide_eq_false_iff_not] at h
 exact⟨h.1,h.2.1,by omega,by omega⟩
theorem uJ{toks:List D}{a:Nat}{f:D}(hf:isF f)(ho:okF f=true)(hS:Seg toks a (CG f)):isP toks (a,0) Ef=true/\IN toks (a+1,0)=(f,(a+(CG f).length,0)):=by
 obtain⟨w,n,k,b,rfl,_⟩:=hf
 obtain⟨h1,h2,h3,h4⟩:=xK ho
 have h1:inB Dm w=true:=h1
 have h2:C6 n=true:=h2
 have h3:1<=k:=h3
 have h4:k<=4:=h4
 obtain⟨k1,k2,k3⟩:=wU h3 h4
 have eF:CG (mkF w n k b)=mkT 1 Ef 0::([mkT 1 w 0,mkT 5 [46] 0,mkT 1 n 0]++(mkT 1 (E7 k) 0::(IZ b++[mkT 5 [59] 0]))):=by
  show [mkT 1 Ef 0,mkT 1 w 0,mkT 5 [46] 0,mkT 1 n 0,mkT 1 (E7 k) 0]++IZ b++[mkT 5 [59] 0]=_
  simp
 rw[eF] at hS ⊢
 refine⟨(aK hS.hd (by decide)).yes,?_⟩
 have s1:=hS.tl
 have A:=uL s1.fst h1 h2
 have s2:Seg toks (a+1+3) (mkT 1 (E7 k) 0::(IZ b++[mkT 5 [59] 0])):=s1.snd
 have K:D1 toks Lh (a+1+3,0)=(E7 k,(a+1+3+1,0)):=by
  unfold D1;rw[(aK s2.hd k2).first k1]
 have s3:=s2.tl
 unfold IN
 simp only
 rw[A]
 simp only
 rw[K]
 simp only
 cases b with
 | true =>
  have s3:Seg toks (a+1+3+1) [mkT 1 Js 0,mkT 5 [59] 0]:=s3
  rw[kN (aK s3.hd (by decide)).yes]
  simp only
  rw[(bI s3.tl.hd (w:=[59]) (by decide)).must,k3]
  rfl
 | false =>
  have s3:Seg toks (a+1+3+1) [mkT 5 [59] 0]:=s3
  have N:=bI s3.hd (w:=[59]) (by decide)
  rw[pG (N.ne (by decide))]
  simp only
  rw[N.must,k3]
  rfl
theorem Pr.fuel'{toks:List D}{st:St}{r:D×St}(h:toks.length<=600)(hr:Pr .expr toks st r):pLv 10000 .expr toks st=some r:=by
 obtain⟨x,st1,hp,_⟩:=WU toks 600 10000 .expr (by simp only[Of];omega) st (by unfold rem;split<;>omega)
 obtain⟨f,hf⟩:=hr
 have h1:=EI f (max f 10000) .expr (by omega) _ _ _ hf
 have h2:=EI 10000 (max f 10000) .expr (by omega) _ _ _ hp
 rw[h1] at h2
 rw[hp,← Option.some.inj h2]
structure okE(e:D):Prop where
 s:isE AK e
 g:GoodE e
 r:rgC e
 d:dpt AK e<=12
theorem j7{full:Bool}{toks:List D}{a:Nat}{e:D}(hl:toks.length<=600)(ht:toks.all Aq=true)(he:okE e)(hS:Seg toks a (tkC full e))(hno:noOp 0 toks (a+(tkC full e).length,0)):
  ∃x,HJ toks (a,0)=some (x,(a+(tkC full e).length,0))/\isE AK x/\BH AK x e=true:=by
 obtain⟨x,h1,h2⟩:=A48 (full:=full) e he.g he.r toks a hS
 have hp:=Pr.fuel' hl (h1.t1 0 (Nat.zero_le _) hno)
 have hx:isE AK x:=b8 10000 .expr toks (a,0) _ ht hp
 obtain⟨k,hk⟩:=h2
 refine⟨x,?_,hx,mT AK k x e hk hx he.s⟩
 have hd:=vX AK k x e hk hx he.s
 have hd2:decide (12<dpt AK x)=false:=by rw[decide_eq_false_iff_not,hd];have:=he.d;omega
 unfold HJ
 rw[hp]
 simp only
 rw[hd2];simp
def HG(du ad:List (List UInt8)):List D:=Bz Cv du++(Bz dG ad++[mkT 5 [59] 0])
theorem uP{toks:List D}{a:Nat}{du ad:List (List UInt8)}(hS:Seg toks a (HG du ad)):∃w,Nxt toks (a,0) w/\(w=Cv∨w=dG∨w=[59]):=by
 unfold HG at hS
 cases du with
 | cons s du=>exact⟨Cv,aK (hS.fst 0 _ rfl) (by decide),.inl rfl⟩
 | nil =>
  have hS:=hS.snd
  cases ad with
  | cons s ad=>exact⟨dG,aK (hS.fst 0 _ rfl) (by decide),.inr (.inl rfl)⟩
  | nil=>exact⟨[59],bI (hS.snd 0 _ rfl) (by decide),.inr (.inr rfl)⟩
theorem eG{toks:List D}:∀(f:Nat) (du ad:List (List UInt8)) (a:Nat) (d0 a0:List (List UInt8)),Seg toks a (HG du ad)->du.all Gj=true->ad.all Gj=true->du.length+ad.length<f->Eo toks f d0 a0 (a,0)=some (d0++du,a0++ad,(a+(HG du ad).length,0))
 | 0,_,_,_,_,_,_,_,_,h=>by omega
 | f+1,du,ad,a,d0,a0,hS,hd,ha,hl=>by
  have z:((0:Int) !=0)=false:=rfl
  match du,ad with
  | s::du,ad =>
   have hS':Seg toks a (mkT 1 Cv 0::mkT 3 s 0::HG du ad):=hS
   simp only[A6S,A6A] at hd
   have N:=aK hS'.hd (w:=Cv) (by decide)
   have K:=kO (k:=3) hS'.tl.hd hd.1
   simp only[Eo]
   rw[z,if_neg (by decide),if_pos N.yes,K]
   simp only[kE]
   rw[eG f du ad (a+1+1) _ _ hS'.tl.tl hd.2 ha (by simp at hl;omega)]
   have:(HG (s::du) ad).length=(HG du ad).length+2:=rfl
   rw[this,A6K]
   simp only[A7F]
   congr 4;omega
  | [],s::ad =>
   have hS':Seg toks a (mkT 1 dG 0::mkT 3 s 0::HG [] ad):=hS
   simp only[A6S,A6A] at ha
   have N:=aK hS'.hd (w:=dG) (by decide)
   have K:=kO (k:=3) hS'.tl.hd ha.1
   simp only[Eo]
   rw[z,if_neg (by decide),if_neg (by rw[N.ne (by decide)];decide),if_pos N.yes,K]
   simp only[kE]
   rw[eG f [] ad (a+1+1) _ _ hS'.tl.tl hd ha.2 (by simp at hl ⊢;omega)]
   have:(HG [] (s::ad)).length=(HG [] ad).length+2:=rfl
   rw[this,A6K]
   simp only[A7F]
   congr 4;omega
  | [],[] =>
   have N:=bI (hS 0 _ rfl) (w:=[59]) (by decide)
   rw[A7P] at N
   simp only[Eo]
   rw[z,if_neg (by decide),if_neg (by rw[N.ne (by decide)];decide),if_neg (by rw[N.ne (by decide)];decide),N.must]
   simp[HG,Bz]
theorem iF{e:D}(he:isE AK e)(h:BH AK e CO=true):BH AK CO e=true:=by
 obtain⟨n,hn⟩:=gP he
 rw[hn] at h ⊢
 simp only[BH] at h ⊢
 split at h
 ·cases h
 ·rename_i g
  simp only[A6T,not_or,bne_iff_ne,ne_eq,Decidable.not_not,A6R,A7M] at g
  obtain⟨⟨⟨g1,g2⟩,g3⟩,g4⟩:=g
  have z:eV CO=Bn:=rfl
  have z2:eps CO=[]:=rfl
  rw[z] at g4 ⊢
  rw[z2] at h ⊢
  have g5:=iL g4
  have hl:eps e=[]:=by
   unfold KB at h
   split at h
   ·rename_i q
    exact List.eq_nil_of_length_eq_zero (by simpa using q)
   ·cases h
  rw[hl,← g1,← g2,← g3,g5]
  simp[KB]
structure rdR(r:D):Prop where
 s:isR AK r
 o:okR r=true
 g:rgC (rE r)
theorem dD{b:Bool}{e:D}(h:isE AK e)(ho:IU b e=true)(hr:rgC e)(hb:b=true):okE e:=by
 subst hb
 unfold IU at ho
 simp only[if_true,A6A,decide_eq_true_eq] at ho
 exact⟨h,wA h ho.1,hr,ho.2⟩
theorem vJ{r:D}(h:okR r=true):C6 (rNm r)=true/\IU (rHi r) (rE r)=true/\(rDu r).all Gj=true/\(rAd r).all Gj=true:=by
 unfold okR at h
 simp only[A6A] at h
 exact⟨h.1,h.2.1,h.2.2.1,h.2.2.2⟩
theorem gO:isE AK CO:=tO
theorem mF(full:Bool)(r:D):B8 full r=mkT 1 (if rPm r then aX else Ce) 0::mkT 1 (rNm r) 0::(ifT full r++HG (rDu r) (rAd r)):=by
 simp[B8,HG]
theorem Jw(l:List (List UInt8)):IA l l=true:=by
 unfold IA
 simp only[beq_self_eq_true,if_true,A6E]
 intro i _
 unfold NT
 split
 ·rename_i x y h1 h2
  rw[h1] at h2;injection h2 with h2;subst h2;simp
 ·rfl
theorem qS{x:D}(hx:isE AK x)(pm hi:Bool)(nm:List UInt8)(du ad:List (List UInt8)):D.agg ([.bool pm,.str nm,.bool hi]++x.cells++[aV true (du.map .str),aV true (ad.map .str)])=mkR pm hi nm x true true du ad:=by
 obtain⟨n,hn⟩:=gP hx
 rw[hn] at hx
 obtain⟨op,k,i,s,nl,l,who,name,m,ps,rfl,_⟩:=hx
 rfl
theorem vH{full:Bool}{toks:List D}{F a:Nat}{r:D}(hl:toks.length<=600)(ht:toks.all Aq=true)(hr:rdR r)(hF:(rDu r).length+(rAd r).length<F)(hS:Seg toks a (B8 full r)):
  (∃w,Nxt toks (a,0) w/\(w==[125])=false)/\∃y,Fy F toks (a,0)=some (y,(a+(B8 full r).length,0))/\isR AK y/\eqR y r=true:=by
 obtain⟨hs,ho,hg⟩:=hr
 obtain⟨o1,o2,o3,o4⟩:=vJ ho
 rw[mF] at hS ⊢
 have hW:Bp (if rPm r then aX else Ce)=true:=by cases rPm r<;>decide
 have N1:=aK hS.hd hW
 refine⟨⟨_,N1,by cases rPm r<;>decide⟩,?_⟩
 have K:D1 toks [aX,Ce] (a,0)=(if rPm r then aX else Ce,(a+1,0)):=by
  unfold D1;rw[N1.first (by cases rPm r<;>decide)]
 have A:=eJ hS.tl.hd o1
 have s2:=hS.tl.tl
 have eK:((if rPm r then aX else Ce)==aX)=rPm r:=by cases rPm r<;>decide
 have hsd:Db (rDu r)/\Db (rAd r)/\(rNm r).length<=2^47/\isE AK (rE r):=by
  obtain⟨pm,hi,nm,e,m,m',du,ad,rfl,he,k1,k2,k3⟩:=hs
  rw[pN,pC,jL _ _ _ _ _ _ _ _ he]
  exact⟨k2,k3,k1,he⟩
 obtain⟨d1,d2,d3,d4⟩:=hsd
 have fin:∀(b:Bool) (x:D),isE AK x->rHi r=b->BH AK x (rE r)=true->isR AK (mkR (rPm r) b (rNm r) x true true (rDu r) (rAd r))/\eqR (mkR (rPm r) b (rNm r) x true true (rDu r) (rAd r)) r=true:=fun b x hx hb hsm=>by
  refine⟨⟨_,_,_,x,_,_,_,_,rfl,hx,d3,d1,d2⟩,?_⟩
  unfold eqR
  rw[yB,yI,zF,pN,pC,jL _ _ _ _ _ _ _ _ hx,Jw,Jw,hsm,hb]
  simp
 unfold Fy
 simp only
 rw[K]
 simp only
 rw[A]
 simp only
 cases hb:rHi r with
 | false =>
  have e0:ifT full r=[]:=by unfold ifT;rw[hb];rfl
  rw[e0] at s2 ⊢
  have s2:Seg toks (a+1+1) (HG (rDu r) (rAd r)):=s2
  obtain⟨w,N,hw⟩:=uP s2
  have I:=pG (toks:=toks) (st:=(a+1+1,0)) (w:=wIf) (N.ne (by rcases hw with rfl|rfl|rfl<;>decide))
  have Sd:=eG F (rDu r) (rAd r) (a+1+1) [] [] s2 o3 o4 hF
  rw[I]
  simp only[Lt,A6B,if_false]
  rw[Sd]
  simp only[A6L]
  rw[hb] at o2
  have hz:BH AK CO (rE r)=true:=iF d4 (by simpa[IU] using o2)
  have:=fin false CO gO hb hz
  refine⟨_,?_,this⟩
  have eq:=qS gO ((if rPm r then aX else Ce)==aX) false (rNm r) (rDu r) (rAd r)
  rw[eq,eK]
  simp only[A6D,A6L]
  congr 3;omega
 | true =>
  have e0:ifT full r=mkT 1 wIf 0::tkC full (rE r):=by unfold ifT;rw[hb];rfl
  rw[e0] at s2 ⊢
  have s2:Seg toks (a+1+1) (mkT 1 wIf 0::(tkC full (rE r)++HG (rDu r) (rAd r))):=s2
  have I:=kN (toks:=toks) (st:=(a+1+1,0)) (aK s2.hd (w:=wIf) (by decide)).yes
  have s3:=s2.tl
  have s4:=s3.snd
  obtain⟨w,N,hw⟩:=uP s4
  obtain⟨x,X1,X2,X3⟩:=j7 (full:=full) hl ht (dD d4 o2 hg hb) s3.fst (N.noOp (.inl (by rcases hw with rfl|rfl|rfl<;>decide)))
  have Sd:=eG F (rDu r) (rAd r) _ [] [] s4 o3 o4 hF
  rw[I]
  simp only[Lt,if_true]
  rw[X1]
  simp only
  rw[Sd]
  simp only[A6L]
  refine⟨_,?_,fin true x X2 hb X3⟩
  have eq:=qS X2 ((if rPm r then aX else Ce)==aX) true (rNm r) (rDu r) (rAd r)
  rw[eq,eK]
  simp only[A6D,A6C,A6P]
  congr 3;omega
end GP
namespace GP
open Go Go.Proofs
set_option maxRecDepth 100000
theorem fV{full:Bool}{toks:List D}{F:Nat}(hl:toks.length<=600)(ht:toks.all Aq=true):∀(G:Nat) (rs:List D) (a:Nat) (acc:List D),(∀r∈rs,rdR r/\(rDu r).length+(rAd r).length<F)->rs.length<G->Seg toks a (BC (B8 full) rs++[mkT 5 [125] 0]) →
  ∃ys,Dy (Fy F) toks G acc (a,0)=some (acc++ys,(a+(BC (B8 full) rs).length+1,0))/\ys.length=rs.length/\(∀y∈ys,isR AK y)/\∀(i:Nat) (y r:D),ys[i]? =some y->rs[i]? =some r->eqR y r=true
 | 0,_,_,_,_,h,_=>by omega
 | G+1,[],a,acc,_,_,hS=>by
  have z:((0:Int) !=0)=false:=rfl
  have N:=bI (hS.hd (t:=mkT 5 [125] 0) (l:=[])) (w:=[125]) (by decide)
  refine⟨[],?_,rfl,by simp,by simp⟩
  simp only[Dy]
  rw[z,if_neg (by decide),if_pos N.yes]
  simp[BC]
 | G+1,r::rs,a,acc,hr,hG,hS=>by
  have z:((0:Int) !=0)=false:=rfl
  rw[bC,A6K] at hS
  obtain⟨⟨w,N,hw⟩,y,Y1,Y2,Y3⟩:=vH (full:=full) (F:=F) hl ht (hr r (by simp)).1 (hr r (by simp)).2 hS.fst
  obtain⟨ys,E1,E2,E3,E4⟩:=fV hl ht G rs _ (acc++[y]) (fun x hx=>hr x (by simp[hx])) (by simp at hG;omega) hS.snd
  refine⟨y::ys,?_,by simp[E2],fun u hu=>?_,fun i u v hu hv=>?_⟩
  ·simp only[Dy]
   rw[z,if_neg (by decide),if_neg (by rw[N.ne hw];decide),Y1]
   simp only
   rw[E1,bC,A6C,A6K,A7A a]
   rfl
  ·rcases A6J.1 hu with rfl|hu
   ·exact Y2
   ·exact E3 u hu
  ·match i with
   | 0=>simp at hu hv;subst hu;subst hv;exact Y3
   | i+1=>exact E4 i u v (by simpa using hu) (by simpa using hv)
structure rdP(F G:Nat)(p:D):Prop where
 s:Fh AK p
 o:okP p=true
 g:rgC (pE p)
 r:∀r∈pRs p,rgC (rE r)/\(rDu r).length+(rAd r).length<F
 l:(pRs p).length<G
theorem vR{p:D}(h:okP p=true):C6 (pNm p)=true/\C6 (pBy p)=true/\Ab 1 (pUs p) 0=true/\IU (pHf p) (pE p)=true/\∀r∈pRs p,okR r=true:=by
 unfold okP at h
 simp only[A6A,A6E] at h
 exact⟨h.1,h.2.1,h.2.2.1,h.2.2.2.1,h.2.2.2.2⟩
theorem wR(full:Bool)(p:D):Dw full p=mkT 1 gN 0::mkT 1 (pNm p) 0::mkT 1 wBy 0::mkT 1 (pBy p) 0::mkT 1 Ea 0::mkT 1 (pUs p) 0::mkT 5 [123] 0::(Hg full p++(BC (B8 full) (pRs p)++[mkT 5 [125] 0])):=by
 simp[Dw]
theorem qK{x:D}(hx:isE AK x)(nm bn us:List UInt8)(hf:Bool)(rs:List D):D.agg ([.str nm,.str bn,.str us,.bool hf]++x.cells++[aV true rs])=mkP nm bn us hf x true rs:=by
 obtain⟨n,hn⟩:=gP hx
 rw[hn] at hx
 obtain⟨op,k,i,s,nl,l,who,name,m,ps,rfl,_⟩:=hx
 rfl
theorem kF{f:D->D->Bool}{xs ys:List D}(h:∀(i:Nat) (x y:D),xs[i]? =some x->ys[i]? =some y->f x y=true):Kx f xs ys=true:=by
 unfold Kx
 refine A6E.2 fun i _=>?_
 unfold okZ
 split
 ·rename_i x y hx hy;exact h i x y hx hy
 ·rfl
theorem v4{full:Bool}{toks:List D}{a:Nat}{rs:List D}(hS:Seg toks a (BC (B8 full) rs++[mkT 5 [125] 0])):∃w,Nxt toks (a,0) w/\(w=[125]∨w=aX∨w=Ce):=by
 cases rs with
 | nil=>exact⟨_,bI (hS.hd (t:=mkT 5 [125] 0) (l:=[])) (by decide),.inl rfl⟩
 | cons r rs =>
  rw[bC,A6K,mF] at hS
  refine⟨_,aK (hS.hd) (by cases rPm r<;>decide),?_⟩
  cases rPm r
  ·exact .inr (.inr rfl)
  ·exact .inr (.inl rfl)
theorem cH{p:D}(h:Fh AK p):isE AK (pE p)/\(pNm p).length<=2^47/\(pBy p).length<=2^47/\(pUs p).length<=2^47/\(pRs p).length<=2^47/\∀x∈pRs p,isR AK x:=by
 obtain⟨nm,bn,us,hf,e,m,rs,rfl,he,k1,k2,k3,k4,k5⟩:=h
 rw[iQ,qO _ _ _ _ _ _ _ he]
 exact⟨he,k1,k2,k3,k4,k5⟩
theorem wK{full:Bool}{toks:List D}{F G a:Nat}{p:D}(hl:toks.length<=600)(ht:toks.all Aq=true)(hp:rdP F G p)(hS:Seg toks a (Dw full p)):
  isP toks (a,0) gN=true/\∃y,lQ F G toks (a+1,0)=some (y,(a+(Dw full p).length,0))/\Fh AK y/\eqP y p=true:=by
 obtain⟨hs,ho,hg,hr,hG⟩:=hp
 obtain⟨o1,o2,o3,o4,o5⟩:=vR ho
 obtain⟨d1,d2,d3,d4,d5,d6⟩:=cH hs
 rw[wR] at hS ⊢
 refine⟨(aK hS.hd (by decide)).yes,?_⟩
 have A1:=eJ hS.tl.hd o1
 have M1:=(aK hS.tl.tl.hd (w:=wBy) (by decide)).must
 have A2:=eJ hS.tl.tl.tl.hd o2
 have M2:=(aK hS.tl.tl.tl.tl.hd (w:=Ea) (by decide)).must
 have A3:=m7 hS.tl.tl.tl.tl.tl.hd o3
 have M3:=(bI hS.tl.tl.tl.tl.tl.tl.hd (w:=[123]) (by decide)).must
 have s7:=hS.tl.tl.tl.tl.tl.tl.tl
 have hrr:∀r∈pRs p,rdR r/\(rDu r).length+(rAd r).length<F:=fun r h=>⟨⟨d6 r h,o5 r h,(hr r h).1⟩,(hr r h).2⟩
 have fin:∀(b:Bool) (x:D) (ys:List D),isE AK x->pHf p=b->BH AK x (pE p)=true->ys.length=(pRs p).length->(∀y∈ys,isR AK y)->(∀(i:Nat) (y r:D),ys[i]? =some y->(pRs p)[i]? =some r->eqR y r=true) →
   Fh AK (mkP (pNm p) (pBy p) (pUs p) b x true ys)/\eqP (mkP (pNm p) (pBy p) (pUs p) b x true ys) p=true:=fun b x ys hx hb hsm h1 h2 h3=>by
  refine⟨⟨_,_,_,_,x,_,ys,rfl,hx,d2,d3,d4,by omega,h2⟩,?_⟩
  unfold eqP
  rw[yH,yO,xQ,y7,iQ,qO _ _ _ _ _ _ _ hx,hsm,hb,h1,kF h3]
  simp
 unfold lQ
 simp only
 rw[A1]
 simp only
 rw[M1,A2]
 simp only
 rw[M2,A3]
 simp only
 rw[M3]
 cases hb:pHf p with
 | false =>
  have e0:Hg full p=[]:=by unfold Hg;rw[hb];rfl
  rw[e0] at s7 ⊢
  have s7:Seg toks (a+1+1+1+1+1+1+1) (BC (B8 full) (pRs p)++[mkT 5 [125] 0]):=s7
  obtain⟨w,N,hw⟩:=v4 s7
  have I:=pG (toks:=toks) (st:=(a+1+1+1+1+1+1+1,0)) (w:=JP) (N.ne (by rcases hw with rfl|rfl|rfl<;>decide))
  obtain⟨ys,E1,E2,E3,E4⟩:=fV (full:=full) hl ht G (pRs p) _ [] hrr hG s7
  rw[I]
  simp only[Lt,A6B,if_false]
  rw[E1]
  simp only[A6L]
  rw[hb] at o4
  have hz:BH AK CO (pE p)=true:=iF d1 (by simpa[IU] using o4)
  refine⟨_,?_,fin false CO ys gO hb hz E2 E3 E4⟩
  rw[qK gO]
  simp only[A6D,A6C,A6O]
  congr 3;omega
 | true =>
  have e0:Hg full p=mkT 1 JP 0::(tkC full (pE p)++[mkT 5 [59] 0]):=by unfold Hg;rw[hb];rfl
  rw[e0] at s7 ⊢
  have s7:Seg toks (a+1+1+1+1+1+1+1) (mkT 1 JP 0::((tkC full (pE p)++[mkT 5 [59] 0])++(BC (B8 full) (pRs p)++[mkT 5 [125] 0]))):=s7
  have I:=kN (toks:=toks) (st:=(a+1+1+1+1+1+1+1,0)) (aK s7.hd (w:=JP) (by decide)).yes
  have s8:=s7.tl
  have s9:=s8.snd
  have N:=bI (s8.fst.snd.hd (t:=mkT 5 [59] 0) (l:=[])) (w:=[59]) (by decide)
  obtain⟨x,X1,X2,X3⟩:=j7 (full:=full) hl ht (dD d1 o4 hg hb) s8.fst.fst (N.noOp (.inl (by decide)))
  rw[I]
  simp only[Lt,if_true]
  rw[X1]
  simp only
  rw[N.must]
  simp only[A6C,A6D,A6O] at s9
  obtain⟨ys,E1,E2,E3,E4⟩:=fV (full:=full) hl ht G (pRs p) _ [] hrr hG s9
  rw[<- A7A] at E1
  rw[E1]
  simp only[A6L]
  refine⟨_,?_,fin true x ys X2 hb X3 E2 E3 E4⟩
  rw[qK X2]
  simp only[A6D,A6C,A6O]
  congr 3;omega
theorem iZ{P:Dz}{w:List UInt8}{toks:List D}{T:D->List D}{R:D->D->Prop}:∀(f:Nat) (l:List D) (a:Nat) (acc:List D),(∀x∈l,∀a,Seg toks a (T x)->isP toks (a,0) w=true/\∃y,P toks (a+1,0)=some (y,(a+(T x).length,0))/\R y x)->Seg toks a (BC T l)->isP toks (a+(BC T l).length,0) w=false->l.length<f →
  ∃ys,EP P w toks f acc (a,0)=some (acc++ys,(a+(BC T l).length,0))/\ys.length=l.length/\∀(i:Nat) (y x:D),ys[i]? =some y->l[i]? =some x->R y x
 | 0,_,_,_,_,_,_,h=>by omega
 | f+1,[],a,acc,_,_,he,_=>by
  refine⟨[],?_,rfl,by simp⟩
  have he:isP toks (a,0) w=false:=he
  simp only[EP]
  rw[if_neg (by rw[he];decide)]
  simp[BC]
 | f+1,x::l,a,acc,hx,hS,he,hl=>by
  rw[bC] at hS he
  rw[A6C,← A7A] at he
  obtain⟨h1,y,h2,h3⟩:=hx x (by simp) a hS.fst
  obtain⟨ys,E1,E2,E3⟩:=iZ f l _ (acc++[y]) (fun z hz=>hx z (by simp[hz])) hS.snd he (by simp at hl;omega)
  refine⟨y::ys,?_,by simp[E2],fun i u v hu hv=>?_⟩
  ·simp only[EP]
   rw[if_pos h1,h2]
   simp only
   rw[E1,bC,A6C,A6K,A7A a]
   rfl
  ·match i with
   | 0=>simp at hu hv;subst hu;subst hv;exact h3
   | i+1=>exact E3 i u v (by simpa using hu) (by simpa using hv)
structure rdD(d:D):Prop where
 s:Bi AK d
 o:okD d=true
 f:(dFs d).length<1000
 l:(dPs d).length<1000
 g:∀p∈dPs d,rgC (pE p)/\(pRs p).length<1000/\∀r∈pRs p,rgC (rE r)/\(rDu r).length+(rAd r).length<1000
theorem bT{d:D}(h:Bi AK d):(dUs d).length<=2^47/\(dFs d).length<=2^47/\(dPs d).length<=2^47/\(∀x∈dFs d,isF x)/\∀x∈dPs d,Fh AK x:=by
 obtain⟨m,fs,us,m',ps,rfl,h1,h2,h3,h4,h5⟩:=h
 rw[tU,lA]
 exact⟨h2,h1,h3,h4,h5⟩
theorem mN{d:D}(h:okD d=true):Ab 1 (dUs d) 0=true/\(∀x∈dFs d,okF x=true)/\∀x∈dPs d,okP x=true:=by
 unfold okD at h
 simp only[A6A,A6E] at h
 exact⟨h.1,h.2.1,h.2.2⟩
theorem uU(x:D):eqF x x=true:=by simp[eqF]
theorem wM{full:Bool}{d:D}(hd:rdD d)(hl:(Bc full d).length<=600)(ht:(Bc full d).all Aq=true):∃y,oW (Bc full d)=some (y,0,0)/\Bi AK y/\JG y d=true:=by
 obtain⟨hs,ho,hf,hlp,hg⟩:=hd
 obtain⟨o1,o2,o3⟩:=mN ho
 obtain⟨d1,d2,d3,d4,d5⟩:=bT hs
 obtain⟨toks,htk⟩:∃z,Bc full d=z:=⟨_,rfl⟩
 have hS:Seg toks 0 (BC CG (dFs d)++(mkT 1 Ea 0::mkT 1 (dUs d) 0::mkT 5 [59] 0::BC (Dw full) (dPs d))):=fun i t h=>by
  rw[A6V,← htk,Bc,A6K];exact h
 have hlen:toks.length=(BC CG (dFs d)).length+3+(BC (Dw full) (dPs d)).length:=by rw[<- htk,Bc];simp;omega
 rw[htk] at hl ht ⊢
 have s1:=hS.snd
 rw[A6V] at s1
 have N:=aK s1.hd (w:=Ea) (by decide)
 obtain⟨fs,F1,F2,F3⟩:=iZ (P:=IX) (w:=Ef) (R:=fun y x=>y=x) 1000 (dFs d) 0 [] (fun x hx a hS=>by
  obtain⟨k1,k2⟩:=uJ (d4 x hx) (o2 x hx) hS
  exact⟨k1,x,by show some (IN toks (a+1,0))=_;rw[k2],rfl⟩) hS.fst (by rw[A6V];exact N.ne (by decide)) hf
 rw[A6V] at F1
 have W:=m7 s1.tl.hd o1
 have M:=(bI s1.tl.tl.hd (w:=[59]) (by decide)).must
 have s4:=s1.tl.tl.tl
 have hEnd:(BC CG (dFs d)).length+1+1+1+(BC (Dw full) (dPs d)).length=toks.length:=by omega
 obtain⟨ps,P1,P2,P3⟩:=iZ (P:=lQ 1000 1000) (w:=gN) (R:=fun y x=>Fh AK y/\eqP y x=true) 1000 (dPs d) _ [] (fun x hx a hS=>by
  obtain⟨g1,g2,g3⟩:=hg x hx
  obtain⟨k1,y,k2,k3,k4⟩:=wK (F:=1000) (G:=1000) hl ht ⟨d5 x hx,o3 x hx,g1,g3,g2⟩ hS
  exact⟨k1,y,k2,k3,k4⟩) s4 (by rw[hEnd];exact uF (A67 _) _) hlp
 rw[hEnd] at P1
 have hfs:fs=dFs d:=A7y fun i=>by
  rcases A65 i fs.length with h|h
  ·have h':i<(dFs d).length:=by omega
   rw[A6F h,A6F h']
   rw[F3 i _ _ (A6F h) (A6F h')]
  ·rw[A6I h,A6I (by omega)]
 refine⟨Ah true fs (dUs d) true ps,?_,⟨_,_,_,_,_,rfl,by omega,d1,by omega,by rw[hfs];exact d4,fun y hy=>?_⟩,?_⟩
 ·unfold oW
  rw[if_neg (by omega)]
  unfold W8
  rw[F1]
  simp only[A6L]
  rw[N.must,W]
  simp only
  rw[M,P1]
  simp only[A6L]
  have hE:Gk toks (toks.length,0)=(toks.length,0):=by
   unfold Gk;rw[if_neg (by simp)]
  rw[hE]
  rfl
 ·obtain⟨i,hi,rfl⟩:=List.mem_iff_getElem.1 hy
  exact(P3 i _ _ (A6F hi) (A6F (show i<(dPs d).length by omega))).1
 ·unfold JG
  rw[tU,lA,xU,P2,F2,kF (f:=eqP) fun i y x hy hx=>(P3 i y x hy hx).2,kF (f:=eqF) fun i y x hy hx=>by rw[F3 i y x hy hx];exact uU x]
  simp
theorem XQ{w:List UInt8}(h:w.length<=2^47):Aq (mkT 3 w 0)=true:=eH h (by decide) (by decide)
theorem i8{w:List UInt8}(hw:w.length<=2^47){l:List (List UInt8)}(h:∀s∈l,s.length<=2^47):(Bz w l).all Aq=true:=by
 unfold Bz
 induction l with
 | nil=>rfl
 | cons s l ih =>
  simp only[A6M,A7z,A63,A6S,A7q,wT hw,XQ (h s (by simp)),A6Z,A60]
  exact ih fun x hx=>h x (by simp[hx])
theorem fU{f:D->List D}{l:List D}(h:∀x∈l,(f x).all Aq=true):(BC f l).all Aq=true:=by
 induction l with
 | nil=>rfl
 | cons x l ih=>rw[bC,A63,h x (by simp),ih fun y hy=>h y (by simp[hy])];rfl
theorem sF(k:Int):(E7 k).length<=2^47:=by unfold E7;(repeat' split)<;>decide
theorem oY{f:D}(h:isF f):(CG f).all Aq=true:=by
 obtain⟨w,n,k,b,rfl,h1,h2,_⟩:=h
 show([mkT 1 Ef 0,mkT 1 w 0,mkT 5 [46] 0,mkT 1 n 0,mkT 1 (E7 k) 0]++IZ b++[mkT 5 [59] 0]).all Aq=true
 simp only[A63,A6S,A7q,wT h1,wT h2,wT (sF k),wT (show Ef.length<=2^47 by decide),sT (show([46]:List UInt8).length<=2^47 by decide),sT (show([59]:List UInt8).length<=2^47 by decide),A6Z,A60,A7m]
 cases b
 ·rfl
 ·exact by simp[IZ,wT (show Js.length<=2^47 by decide)]
theorem oN{full:Bool}{r:D}(hs:isR AK r)(he:rHi r=true->okE (rE r)):(B8 full r).all Aq=true:=by
 have hif:(ifT full r).all Aq=true:=by
  unfold ifT
  split
  ·rename_i h
   have:=he h
   rw[A6S,wT (by decide),nP _ this.g this.r];rfl
  ·rfl
 have h1:rNm r∈[rNm r]:=by simp
 obtain⟨pm,hi,nm,e,m,m',du,ad,hr,_,k1,k2,k3⟩:=hs
 have e1:rNm r=nm:=by rw[hr];rfl
 have e2:rDu r=du:=by rw[hr,pN]
 have e3:rAd r=ad:=by rw[hr,pC]
 have hw:(if rPm r then aX else Ce).length<=2^47:=by cases rPm r<;>decide
 unfold B8
 rw[e1,e2,e3]
 simp only[A63,A6S,A7q,wT hw,wT k1,hif,i8 (show Cv.length<=2^47 by decide) k2.2,i8 (show dG.length<=2^47 by decide) k3.2,sT (show([59]:List UInt8).length<=2^47 by decide),A6Z]
theorem sG{full:Bool}{p:D}(hs:Fh AK p)(he:pHf p=true->okE (pE p))(hr:∀r∈pRs p,rHi r=true->okE (rE r)):(Dw full p).all Aq=true:=by
 obtain⟨d1,d2,d3,d4,d5,d6⟩:=cH hs
 have hfor:(Hg full p).all Aq=true:=by
  unfold Hg
  split
  ·rename_i h
   have:=he h
   rw[A6S,A63,wT (by decide),nP _ this.g this.r,A6S,sT (by decide)];rfl
  ·rfl
 unfold Dw
 simp only[A63,A6S,A7q,wT d2,wT d3,wT d4,hfor,fU fun r h=>oN (d6 r h) (hr r h),wT (show gN.length<=2^47 by decide),wT (show wBy.length<=2^47 by decide),wT (show Ea.length<=2^47 by decide),sT (show([123]:List UInt8).length<=2^47 by decide),sT (show([125]:List UInt8).length<=2^47 by decide),A6Z]
theorem rO{full:Bool}{d:D}(hd:rdD d):(Bc full d).all Aq=true:=by
 obtain⟨d1,d2,d3,d4,d5⟩:=bT hd.s
 obtain⟨o1,o2,o3⟩:=mN hd.o
 unfold Bc
 simp only[A63,A6S,A7q,wT d1,fU fun f h=>oY (d4 f h),wT (show Ea.length<=2^47 by decide),sT (show([59]:List UInt8).length<=2^47 by decide),A6Z,A60]
 refine fU fun p h=>?_
 obtain⟨q1,q2,q3,q4,q5⟩:=vR (o3 p h)
 obtain⟨e1,_,_,_,_,e6⟩:=cH (d5 p h)
 obtain⟨g1,g2,g3⟩:=hd.g p h
 refine sG (d5 p h) (fun hb=>dD e1 q4 g1 hb) fun r hr hb=>?_
 have hsr:=e6 r hr
 obtain⟨pm,hi,nm,e,m,m',du,ad,hq,he,_⟩:=hsr
 have:rE r=e:=by rw[hq,jL _ _ _ _ _ _ _ _ he]
 exact dD (by rw[this];exact he) (vJ (q5 r hr)).2.1 (g3 r hr).1 hb
def rgD(d:D):Prop:=∀p∈dPs d,rgC (pE p)/\∀r∈pRs p,rgC (rE r)
theorem tJ{n:Int}{k:Nat}(h:(!gt n k)=true):(k:Int)<=n:=by
 unfold gt at h
 simp only[A6R,decide_eq_false_iff_not] at h
 omega
theorem oD{n:Nat}{r:D}(hr:isR n r)(h:Pn n r=true):isR AK r/\(rDu r).length<=4/\(rAd r).length<=4/\∀full,GoodE (rE r)->(tkC full (rE r)).length<=2^28:=by
 unfold Pn at h
 simp only[A6A] at h
 obtain⟨⟨h1,h2⟩,h3⟩:=h
 have h2:=tJ h2
 have h3:=tJ h3
 obtain⟨pm,hi,nm,e,m,m',du,ad,rfl,he,k⟩:=hr
 rw[jL _ _ _ _ _ _ _ _ he] at h1
 obtain⟨h60,hN⟩:=jP he h1
 refine⟨⟨pm,hi,nm,e,m,m',du,ad,rfl,hN,k⟩,by omega,by omega,fun full hg=>?_⟩
 rw[jL _ _ _ _ _ _ _ _ he] at hg ⊢
 have:=aY (full:=full) n e he hg
 have:2^22*nd n e<=2^22*60:=A6Q _ h60
 omega
theorem kJ{n:Nat}{p:D}(hp:Fh n p)(h:Oc n p=true):Fh AK p/\(pRs p).length<=8/\(∀full,GoodE (pE p)->(tkC full (pE p)).length<=2^28)/\∀r∈pRs p,isR n r/\Pn n r=true:=by
 unfold Oc at h
 simp only[A6A,A6E] at h
 obtain⟨⟨h1,h2⟩,h3⟩:=h
 have h1:=tJ h1
 obtain⟨nm,bn,us,hf,e,m,rs,rfl,he,k1,k2,k3,k4,k5⟩:=hp
 rw[qO _ _ _ _ _ _ _ he] at h2
 rw[iQ] at h3 h1
 obtain⟨h60,hN⟩:=jP he h2
 refine⟨⟨nm,bn,us,hf,e,m,rs,rfl,hN,k1,k2,k3,k4,fun x hx=>(oD (k5 x hx) (h3 x hx)).1⟩,by rw[iQ];omega,fun full hg=>?_,fun r hr=>?_⟩
 ·rw[qO _ _ _ _ _ _ _ he] at hg ⊢
  have:=aY (full:=full) n e he hg
  have:2^22*nd n e<=2^22*60:=A6Q _ h60
  omega
 ·rw[iQ] at hr;exact⟨k5 r hr,h3 r hr⟩
theorem o6{n:Nat}{d:D}(hd:Bi n d)(h:Nw n d=true):Bi AK d/\(dFs d).length<=12/\(dPs d).length<=6/\∀p∈dPs d,Fh n p/\Oc n p=true:=by
 unfold Nw at h
 simp only[A6A,A6E] at h
 obtain⟨⟨⟨h1,h2⟩,h3⟩,h4⟩:=h
 have h1:=tJ h1
 have h2:=tJ h2
 obtain⟨m,fs,us,m',ps,rfl,k1,k2,k3,k4,k5⟩:=hd
 rw[lA] at h4
 exact⟨⟨m,fs,us,m',ps,rfl,k1,k2,k3,k4,fun x hx=>(kJ (k5 x hx) (h4 x hx)).1⟩,by omega,by omega,by rw[lA];exact fun p hp=>⟨k5 p hp,h4 p hp⟩⟩
theorem sO{n:Nat}{d:D}(hd:Bi n d)(hf:Nw n d=true)(ho:okD d=true)(hr:rgD d):rdD d/\∀full,goodD full d:=by
 obtain⟨f1,f2,f3,f4⟩:=o6 hd hf
 obtain⟨o1,o2,o3⟩:=mN ho
 refine⟨⟨f1,ho,by omega,by omega,fun p hp=>?_⟩,fun full=>⟨f1,f2,fun f hf=>?_,f3,fun p hp=>?_⟩⟩
 ·obtain⟨g1,g2⟩:=f4 p hp
  obtain⟨_,p2,_,p4⟩:=kJ g1 g2
  refine⟨(hr p hp).1,by omega,fun r hx=>⟨(hr p hp).2 r hx,?_⟩⟩
  obtain⟨i1,i2⟩:=p4 r hx
  obtain⟨_,r2,r3,_⟩:=oD i1 i2
  omega
 ·obtain⟨_,_,k1,k2⟩:=xK (o2 f hf);exact⟨k1,k2⟩
 ·obtain⟨g1,g2⟩:=f4 p hp
  obtain⟨p1,p2,p3,p4⟩:=kJ g1 g2
  obtain⟨q1,q2,q3,q4,q5⟩:=vR (o3 p hp)
  obtain⟨e1,_,_,_,_,e6⟩:=cH p1
  refine⟨p1,fun hb=>?_,p2,fun r hx=>?_⟩
  ·have:=dD e1 q4 (hr p hp).1 hb
   exact⟨this.g,p3 full this.g⟩
  ·obtain⟨i1,i2⟩:=p4 r hx
   obtain⟨r1,r2,r3,r4⟩:=oD i1 i2
   refine⟨r1,fun hb=>?_,r2,r3⟩
   have hE:isE AK (rE r):=by
    obtain⟨pm,hi,nm,e,m,m',du,ad,hq,he,_⟩:=r1
    rw[hq,jL _ _ _ _ _ _ _ _ he];exact he
   have:=dD hE (vJ (q5 r hx)).2.1 ((hr p hp).2 r hx) hb
   exact⟨this.g,r4 full this.g⟩
theorem vA{full:Bool}{d:D}(h:goodD full d):(Bc full d).length<=2^37:=by
 have h1:=EM (f:=CG) (l:=dFs d) (B:=7) fun x _=>sY x
 have h2:=EM (f:=Dw full) (l:=dPs d) (B:=2^33) fun x hx=>vI (h.p x hx)
 have h3:=h.f
 have h4:=A6Q (2^33) h.l
 unfold Bc
 simp only[A6C,A6D,A6O];omega
end GP
namespace GP
open Go Go.Proofs Go.Proofs.YtainhmbnbgonhaaGreatDoor
open Go.ChangeShapes Go.WideShapes Go.ChangeAt Go.RowKit
set_option maxRecDepth 100000
theorem P6:Tryz.prog.cellsOf 45=1:=by kernel_rfl
theorem On:Tryz.prog.cellsOf 46=1:=by kernel_rfl
theorem UH:Tryz.prog.cellsOf 48=3:=by kernel_rfl
theorem Pe:Tryz.prog.cellsOf 22=1:=by kernel_rfl
theorem IY:Tryz.prog.cellsOf 4=1:=by kernel_rfl
theorem RE:Tryz.prog.cellsOf 94=4:=by kernel_rfl
theorem Sz:Tryz.prog.cellsOf 90=13:=by kernel_rfl
theorem Rk:Tryz.prog.cellsOf 92=13:=by kernel_rfl
theorem PI:Tryz.prog.cellsOf 88=1:=by kernel_rfl
theorem Wo:1<=Tryz.prog.bytesOf 94:=of_decide_eq_true (by kernel_rfl)
theorem WS:1<=Tryz.prog.bytesOf 90:=of_decide_eq_true (by kernel_rfl)
theorem WK:1<=Tryz.prog.bytesOf 92:=of_decide_eq_true (by kernel_rfl)
theorem VS:1<=Tryz.prog.bytesOf 9:=of_decide_eq_true (by kernel_rfl)
def HE(ds:List D):Prop:=∃l,ds=[.str l]/\l.length<=2^47
def Jo(ds:List D):Prop:=∃b,ds=[.bool b]
def Lw(ds:List D):Prop:=∃(m:Bool) (l:List (List UInt8)),ds=[aV m (l.map D.str)]/\Db l
def mk1:List D->D
 | [.str s]=>.str s
 | ds=>.agg ds
theorem Pp(ds:List D):(mk1 ds).cells=ds:=by
 unfold mk1;split<;>rfl
theorem PY(W:World):∀fuel,Rds Tryz.prog W 22 Lw fuel
 | 0=>fun _ _ _ _ _ h _=>by simp[DataW.trod] at h
 | fuel+1=>by
  refine(EJ (P:=Tryz.prog) (w:=W) (mk:=mk1) Pp (sz:=1) (by decide) Tryz.underlying22 DS VS (Bb Tryz.underlying9 fuel)).imp ?_
  rintro ds (rfl|⟨xs,rfl,h1,h2⟩)
  ·exact⟨true,[],rfl,by simp[Db]⟩
  ·refine⟨false,xs.map fun x=>CQ (x.headD .top),?_,by simpa using h1,?_⟩
   ·rw[A7h]
    congr 2
    refine A7o fun x hx=>?_
    obtain⟨⟨l,rfl,_⟩,_⟩:=h2 x hx
    rfl
   ·intro s hs
    obtain⟨x,hx,rfl⟩:=A68.1 hs
    obtain⟨⟨l,rfl,hl⟩,_⟩:=h2 x hx
    exact hl
theorem Ns{n:Nat}{ds:List D}(h:Hq n (D.agg ds)):ds=[cE (.agg ds) 0,cE (.agg ds) 1,cE (.agg ds) 2,cE (.agg ds) 3,cE (.agg ds) 4,cE (.agg ds) 5,cE (.agg ds) 6,cE (.agg ds) 7]:=by
 have:=pB h.1
 injection this with this
 exact this.symm
def QE(n:Nat)(r:D):Prop:=isR n r/\rgC (rE r)
theorem A5c(W:World):∀fuel,Rds Tryz.prog W 92 (fun ds=>QE fuel (D.agg ds)) fuel
 | 0=>fun _ _ _ _ _ h _=>by simp[DataW.trod] at h
 | fuel+1=>by
  refine(DW (P:=Tryz.prog) (w:=W) (φs:=[Jo,HE,Jo,fun ds=>Hq fuel (D.agg ds),Lw,Lw]) Tryz.underlying92 rfl ?_ ?_ ?_).imp ?_
  ·simp only[FL,DS,IY,Gc,Pe,and_self,and_true,A6V,A7B]
  ·simp only[A6M,A7G,DS,IY,Gc,Pe,Rk];rfl
  ·intro i f φ e1 e2
   match i with
   | 0=>simp at e1 e2;subst e1;subst e2;exact GF Tryz.underlying4 fuel
   | 1=>simp at e1 e2;subst e1;subst e2;exact Bb Tryz.underlying9 fuel
   | 2=>simp at e1 e2;subst e1;subst e2;exact GF Tryz.underlying4 fuel
   | 3=>simp at e1 e2;subst e1;subst e2;exact(rdE W fuel).1
   | 4=>simp at e1 e2;subst e1;subst e2;exact PY W fuel
   | 5=>simp at e1 e2;subst e1;subst e2;exact PY W fuel
   | i+6=>simp at e1
  ·rintro ds ⟨x1,y1,rfl,⟨pm,rfl⟩,x2,y2,rfl,⟨nm,rfl,h2⟩,x3,y3,rfl,⟨hi,rfl⟩,x4,y4,rfl,h4,x5,y5,rfl,⟨m,du,rfl,h5⟩,x6,y6,rfl,⟨m',ad,rfl,h6⟩,rfl⟩
   have e8:=Ns h4
   have hq:D.agg ([.bool pm]++([.str nm]++([.bool hi]++(x4++([aV m (du.map D.str)]++([aV m' (ad.map D.str)]++[]))))))=mkR pm hi nm (.agg x4) m m' du ad:=by
    unfold mkR
    conv=>lhs;rw[e8]
    rfl
   have hE:isE (fuel+1) (.agg x4):=lY h4.1
   refine⟨?_,?_⟩
   ·show isR (fuel+1) _
    exact⟨pm,hi,nm,.agg x4,m,m',du,ad,by first|exact hq|(simpa using hq),hE,h2,h5,h6⟩
   ·have:rE (D.agg ([.bool pm]++([.str nm]++([.bool hi]++(x4++([aV m (du.map D.str)]++([aV m' (ad.map D.str)]++[])))))))= .agg x4:=by rw[hq,jL _ _ _ _ _ _ _ _ hE]
    have h4r:rgC (D.agg x4):=⟨fuel,h4.2⟩
    first|(rw[this];exact h4r)|(simp only[List.append_eq,A6P,A6L] at this ⊢;rw[this];exact h4r)
theorem V9{n:Nat}{r:D}(h:QE n r):QE (n+1) r:=by
 obtain⟨⟨pm,hi,nm,e,m,m',du,ad,rfl,he,k⟩,hr⟩:=h
 exact⟨⟨pm,hi,nm,e,m,m',du,ad,rfl,lY he,k⟩,hr⟩
theorem Ze(W:World):∀fuel,Rds Tryz.prog W 88 (K0 (QE fuel)) fuel
 | 0=>fun _ _ _ _ _ h _=>by simp[DataW.trod] at h
 | fuel+1=>(EJ (P:=Tryz.prog) (w:=W) (mk:=D.agg) (fun _=>rfl) (sz:=13) (by decide) Tryz.underlying88 Rk WK (A5c W fuel)).imp fun ds hd=>HY (fun x (hx:QE fuel (D.agg x))=>V9 hx) hd
def OA(n:Nat)(p:D):Prop:=Fh n p/\rgC (pE p)/\∀r∈pRs p,rgC (rE r)
theorem A4f(W:World):∀fuel,Rds Tryz.prog W 90 (fun ds=>OA fuel (D.agg ds)) fuel
 | 0=>fun _ _ _ _ _ h _=>by simp[DataW.trod] at h
 | fuel+1=>by
  refine(DW (P:=Tryz.prog) (w:=W) (φs:=[HE,HE,HE,Jo,fun ds=>Hq fuel (D.agg ds),K0 (QE fuel)]) Tryz.underlying90 rfl ?_ ?_ ?_).imp ?_
  ·simp only[FL,DS,IY,Gc,PI,and_self,and_true,A6V,A7B]
  ·simp only[A6M,A7G,DS,IY,Gc,PI,Sz];rfl
  ·intro i f φ e1 e2
   match i with
   | 0=>simp at e1 e2;subst e1;subst e2;exact Bb Tryz.underlying9 fuel
   | 1=>simp at e1 e2;subst e1;subst e2;exact Bb Tryz.underlying9 fuel
   | 2=>simp at e1 e2;subst e1;subst e2;exact Bb Tryz.underlying9 fuel
   | 3=>simp at e1 e2;subst e1;subst e2;exact GF Tryz.underlying4 fuel
   | 4=>simp at e1 e2;subst e1;subst e2;exact(rdE W fuel).1
   | 5=>simp at e1 e2;subst e1;subst e2;exact Ze W fuel
   | i+6=>simp at e1
  ·rintro ds ⟨x1,y1,rfl,⟨nm,rfl,h1⟩,x2,y2,rfl,⟨bn,rfl,h2⟩,x3,y3,rfl,⟨us,rfl,h3⟩,x4,y4,rfl,⟨hf,rfl⟩,x5,y5,rfl,h5,x6,y6,rfl,⟨l,rfl,m,rs,rfl,h6,h7⟩,rfl⟩
   have e8:=Ns h5
   have hq:D.agg ([.str nm]++([.str bn]++([.str us]++([.bool hf]++(x5++([aV m rs]++[]))))))=mkP nm bn us hf (.agg x5) m rs:=by
    unfold mkP
    conv=>lhs;rw[e8]
    rfl
   have hE:isE (fuel+1) (.agg x5):=lY h5.1
   show OA (fuel+1) (D.agg ([.str nm]++([.str bn]++([.str us]++([.bool hf]++(x5++([aV m rs]++[])))))))
   rw[hq]
   refine⟨⟨nm,bn,us,hf,.agg x5,m,rs,rfl,hE,h1,h2,h3,h6,fun x hx=>(V9 (h7 x hx)).1⟩,?_,?_⟩
   ·rw[qO _ _ _ _ _ _ _ hE];exact⟨fuel,h5.2⟩
   ·rw[iQ];exact fun r hr=>(h7 r hr).2
theorem UQ{n:Nat}{p:D}(h:OA n p):OA (n+1) p:=by
 obtain⟨⟨nm,bn,us,hf,e,m,rs,rfl,he,k1,k2,k3,k4,k5⟩,hr⟩:=h
 refine⟨⟨nm,bn,us,hf,e,m,rs,rfl,lY he,k1,k2,k3,k4,fun x hx=>?_⟩,hr⟩
 obtain⟨pm,hi,nm,e,m,m',du,ad,rfl,he,k⟩:=k5 x hx
 exact⟨pm,hi,nm,e,m,m',du,ad,rfl,lY he,k⟩
theorem A0q(W:World):∀fuel,Rds Tryz.prog W 46 (K0 (OA fuel)) fuel
 | 0=>fun _ _ _ _ _ h _=>by simp[DataW.trod] at h
 | fuel+1=>(EJ (P:=Tryz.prog) (w:=W) (mk:=D.agg) (fun _=>rfl) (sz:=13) (by decide) Tryz.underlying46 Sz WS (A4f W fuel)).imp fun ds hd=>HY (fun x (hx:OA fuel (D.agg x))=>UQ hx) hd
theorem A38(W:World):∀fuel,Rds Tryz.prog W 94 (fun ds=>isF (D.agg ds)) fuel
 | 0=>fun _ _ _ _ _ h _=>by simp[DataW.trod] at h
 | fuel+1=>by
  refine(DW (P:=Tryz.prog) (w:=W) (φs:=[HE,HE,fun ds=>∃n,ds=[.int .i64 n]/\IntKind.i64.min<=n/\n<=IntKind.i64.max,Jo]) Tryz.underlying94 rfl ?_ ?_ ?_).imp ?_
  ·simp only[FL,DS,IY,MX,and_self,and_true,A6V,A7B]
  ·simp only[A6M,A7G,DS,IY,MX,RE];rfl
  ·intro i f φ e1 e2
   match i with
   | 0=>simp at e1 e2;subst e1;subst e2;exact Bb Tryz.underlying9 fuel
   | 1=>simp at e1 e2;subst e1;subst e2;exact Bb Tryz.underlying9 fuel
   | 2=>simp at e1 e2;subst e1;subst e2;exact MB Tryz.underlying3 fuel
   | 3=>simp at e1 e2;subst e1;subst e2;exact GF Tryz.underlying4 fuel
   | i+4=>simp at e1
  ·rintro ds ⟨x1,y1,rfl,⟨w,rfl,h1⟩,x2,y2,rfl,⟨n,rfl,h2⟩,x3,y3,rfl,⟨k,rfl,k1,k2⟩,x4,y4,rfl,⟨b,rfl⟩,rfl⟩
   rw[Sy] at k1;rw[R3] at k2
   exact⟨w,n,k,b,rfl,h1,h2,k1,by omega⟩
theorem XW(W:World):∀fuel,Rds Tryz.prog W 45 (K0 isF) fuel
 | 0=>fun _ _ _ _ _ h _=>by simp[DataW.trod] at h
 | fuel+1=>(EJ (P:=Tryz.prog) (w:=W) (mk:=D.agg) (fun _=>rfl) (sz:=4) (by decide) Tryz.underlying45 RE Wo (A38 W fuel)).imp fun ds hd=>HY (fun x (hx:isF (D.agg x))=>hx) hd
theorem A3P(W:World):∀fuel,Rds Tryz.prog W 48 (fun ds=>∃n,Bi n (D.agg ds)/\rgD (D.agg ds)) fuel
 | 0=>fun _ _ _ _ _ h _=>by simp[DataW.trod] at h
 | fuel+1=>by
  refine(DW (P:=Tryz.prog) (w:=W) (φs:=[K0 isF,HE,K0 (OA fuel)]) Tryz.underlying48 rfl ?_ ?_ ?_).imp ?_
  ·simp only[FL,DS,P6,On,and_self,and_true,A6V,A7B]
  ·simp only[A6M,A7G,DS,P6,On,UH];rfl
  ·intro i f φ e1 e2
   match i with
   | 0=>simp at e1 e2;subst e1;subst e2;exact XW W fuel
   | 1=>simp at e1 e2;subst e1;subst e2;exact Bb Tryz.underlying9 fuel
   | 2=>simp at e1 e2;subst e1;subst e2;exact A0q W fuel
   | i+3=>simp at e1
  ·rintro ds ⟨x1,y1,rfl,⟨l,rfl,m,fs,rfl,h1,h2⟩,x2,y2,rfl,⟨us,rfl,h3⟩,x3,y3,rfl,⟨l',rfl,m',ps,rfl,h4,h5⟩,rfl⟩
   refine⟨fuel,⟨m,fs,us,m',ps,rfl,h1,h3,h4,h2,fun x hx=>(h5 x hx).1⟩,?_⟩
   show rgD (Ah m fs us m' ps)
   unfold rgD
   rw[lA]
   exact fun p hp=>(h5 p hp).2
theorem yF(W:World):Arg Tryz.prog W 48 (fun d=>∃n,Bi n d/\rgD d):=by
 intro H enc v d ps base h1 h2 h3
 obtain⟨x,k1,ds,rfl,k2⟩:=OK Tryz.underlying48 (φ:=fun ds=>∃n,Bi n (D.agg ds)/\rgD (D.agg ds)) (fun f=>A3P W f) H enc v d ps base h1 h2 h3
 exact⟨_,k1,k2⟩
end GP
namespace GP
open Go Go.Proofs
set_option maxRecDepth 100000
theorem IF.flat{P:Program}[HasG P]{f:FuncId}{ψ:Hp->List D->Option D}(h:IF P f ψ){φ:List D->Option D}(he:∀H a r,φ a=some r->ψ H a=some r):AQ P f φ :=
 fun args r hr args' hx H T Q hQ=>h H args r (he H args r hr) args' hx T Q hQ
end GP
namespace GP
open Go
set_option maxRecDepth 100000
variable {P:Program} [HasG P]
open Rd O
def A6w(ls:List D):List D:=(ls.map elems).flatten
structure isCat(sz bytes:Nat)(ls:List D):Prop where
 l:ls.length<=2^40
 s:∀y∈ls,∃m xs,y=aV m xs
 a:Fm sz (A6w ls)
 e:D.eraseL (A6w ls)=A6w ls
 c:D.clL 0 0 (A6w ls)=true
 b:(A6w ls).length*bytes<=2^47
 n:(A6w ls).length<2^61
end GP
namespace Go.Proofs
open Go.Shelf
shelf_lay Lays.n156 Nm 156 at Tryz as Tryz.laysJoin
theorem Tryz.extraJoin:Builder.Extra Tryz.prog Tryz.laysJoin_ren where
 sizeBuilder:=by kernel_rfl
 liesBuilder:=by kernel_rfl
 t5:=Tryz.underlying5
 a5:=Tryz.isAgg5
 z5:=Tryz.sizeOf5
 v5:=Tryz.zeroValue5
 infoByte:=by kernel_rfl
 cellsByte:=by kernel_rfl
 sizeByte:=by kernel_rfl
 neB5:=by decide
theorem Tryz.join_none(a:Option Addr)(c:Nat)(sep:ByteArray)(w:World):
  Calls Tryz.prog 88 #[.slice a 0 c,.string sep] w fun e w'=>e= .returned (.string ⟨#[]⟩)/\w'=w:=Any.strings_Join_none Tryz.laysJoin Tryz.extraJoin a c sep w
theorem Tryz.join(bk o c:Nat)(xs:List ByteArray)(sep:ByteArray)(w:World)
  (hcells:∀(j:Nat) x,xs[j]? =some x->w.cell? ⟨bk,o+j,none⟩=some (.string x))
  (hbk:bk<w.heap.size) (hN:xs.length<=140737488355328) (hcap:xs.length<=c)
  (hlen:(Lib.join (xs.map (·.data.toList)) sep.data.toList).length<=140737488355328) :
  Calls Tryz.prog 88 #[.slice (some ⟨bk,o,none⟩) xs.length c,.string sep] w fun e w'=>e= .returned (.string ⟨(Lib.join (xs.map (·.data.toList)) sep.data.toList).toArray⟩)/\RowKit.Below w.heap.size w w':=Any.strings_Join Tryz.laysJoin Tryz.extraJoin bk o c xs sep w hcells hbk hN hcap hlen
end Go.Proofs
namespace GP
open Go Go.Proofs
set_option maxRecDepth 100000
open Classical in
noncomputable def Ib:List D->Option D
 | [l,.str sep]=>if G6 NM l/\(Lib.join ((elems l).map EZ) sep).length<=2^47 then some (.str (Lib.join ((elems l).map EZ) sep)) else none
 | _=>none
theorem UK{f:FuncId}{φ:List D->Option D}
  (h:∀args r,φ args=some r->∀(c:Cx) (w:World) (vs:List Value),(∀a v,c.M a=some v->w.cell? a=some v)->Reps c args vs->(callFunc f vs.toArray).run Tryz.prog w= .ok (.enter f vs.toArray) w ∧
   Calls Tryz.prog f vs.toArray w fun e w'=>∃v,e= .returned v/\Rep c r v/\Below (false,w.heap.size) w w'):AQ Tryz.prog f φ:=by
 intro args r hr args' he H T Q hQ c w vs hg k1 k2 k3
 have k3':Reps c args vs:=by rw[<- he];exact k3.erase
 obtain⟨g1,g2⟩:=h args r hr c w vs k1.keep k3'
 refine .inl ⟨g1,g2.mono ?_⟩
 rintro e w' ⟨v,rfl,h1,h2⟩
 exact⟨v,rfl,r,H,T,c,hQ,h1,k1.grownB h2,Cx.le.refl c,k2,by have:=h2.mono k1.low;rwa [show((false,c.B):Bool×Nat)=c.bb by rw[<- hg.1]] at this⟩
theorem A5z:AQ Tryz.prog 88 Ib:=by
 refine UK fun args r h c w vs hk hr=>?_
 unfold Ib at h
 split at h
 ·rename_i l sep
  split at h
  ·rename_i hv
   obtain⟨⟨n,xs,rfl,hl,hx⟩,hj⟩:=hv
   injection h with h;subst h
   rw[AU] at hj ⊢
   have e88:∀args w,(callFunc 88 args).run Tryz.prog w= .ok (.enter 88 args) w:=enters_of Tryz.func88 (by kernel_rfl) rfl
   refine⟨e88 _ _,?_⟩
   match vs,hr.len with
   | [v0,v1],_ =>
    have h0:=hr.rep 0 (by simp) (by simp)
    have h1:=hr.rep 1 (by simp) (by simp)
    simp only[A7f,A7E] at h0 h1
    cases h1 with
    | str _ hsl =>
    have none':∀(a:Option Addr) (cp:Nat),xs=[]->v0= .slice a 0 cp->Calls Tryz.prog 88 [v0,.string ⟨sep.toArray⟩].toArray w fun e w'=>∃v,e= .returned v/\Rep c (.str (Lib.join (xs.map EZ) sep)) v/\Below (false,w.heap.size) w w':=fun a cp hxs hv0=>by
     subst hxs;subst hv0
     refine(Tryz.join_none a cp ⟨sep.toArray⟩ w).mono ?_
     rintro e w' ⟨rfl,rfl⟩
     exact⟨_,rfl,.str [] (by simp),Below.refl _ _⟩
    rcases kM n xs with⟨e1,hnil⟩|e1
    ·rw[e1] at h0
     cases h0
     exact none' none 0 hnil rfl
    ·rw[e1] at h0
     cases h0 with
     | sl t _ a cap sz us hlen hb hsz h1 ha hs hM hrep htl ht =>
      by_cases hne:xs=[]
      ·subst hne;exact none' a cap rfl rfl
      ·obtain⟨b,rfl⟩:=ha hne
       have hsp:=hs hne b rfl
       obtain⟨bk,off,sp⟩:=b
       simp only at hsp;subst hsp
       have sz1:sz=1:=by
        cases xs with
        | nil=>exact(hne rfl).elim
        | cons x xs =>
         obtain⟨s,rfl,_⟩:=hx x (by simp)
         exact(hsz (.str s) (by simp)).symm
       subst sz1
       have cell:∀(j:Nat) (s:List UInt8),xs[j]? =some (.str s)->w.cell? ⟨bk,off+j,none⟩=some (.string ⟨s.toArray⟩):=fun j s hj=>by
        have hjl:j<xs.length:=by
         rcases A65 j xs.length with h|h
         ·exact h
         ·rw[A6I h] at hj;cases hj
        have hxj:xs[j]= .str s:=by simpa[hjl] using hj
        have m:=hk _ _ (hM j hjl 0 (by omega) _ rfl)
        have r:=hrep j hjl 0 (by rw[hxj];simp[D.cells])
        simp only[hxj,D.cells,A7f] at r
        simp only[Nat.mul_one,A7P] at m
        obtain⟨u,hu⟩:∃u,us j 0=u:=⟨_,rfl⟩
        rw[hu] at m r
        cases r
        exact m
       have eqj:((xs.map EZ).map (fun s:List UInt8=>(⟨s.toArray⟩:ByteArray))).map (fun b:ByteArray=>b.data.toList)=xs.map EZ:=by
        rw[A7h];exact(A7o fun s _=>by simp).trans (A7T _)
       have hcl:=Tryz.join bk off cap ((xs.map EZ).map fun s=>(⟨s.toArray⟩:ByteArray)) ⟨sep.toArray⟩ w ?_ ?_ (by simp;omega) (by simpa using hlen) (by rw[eqj];simpa using hj)
       ·rw[eqj] at hcl
        simp only[A6H] at hcl
        refine hcl.mono ?_
        rintro e w' ⟨rfl,hbl⟩
        refine⟨_,rfl,?_,Below.of_kit hbl⟩
        exact .str _ (by omega)
       ·intro j x hjx
        rw[A7h] at hjx
        simp only[A6X,A7g,Function.comp] at hjx
        obtain⟨d,hd,rfl⟩:=hjx
        obtain⟨s,rfl,_⟩:=hx d (A7a hd)
        exact cell j s hd
       ·cases xs with
        | nil=>exact(hne rfl).elim
        | cons x xs =>
         obtain⟨s,rfl,_⟩:=hx x (by simp)
         have:=cell 0 s rfl
         rcases A65 bk w.heap.size with h|h
         ·exact h
         ·simp[World.cell?,Array.getElem?_eq_none h] at this
  ·cases h
 ·cases h
end GP
namespace GP
open Go Go.Proofs
set_option maxRecDepth 100000
theorem nW{d:Nat}(h:d<10):(UInt8.ofNat (48+d)).toNat=48+d:=by simp;omega
theorem Mz{d:Nat}(h:d<10):HU (UInt8.ofNat (48+d))=true:=by rw[rH,nW h];omega
theorem Ri{u:Nat}(h:u<10):Lib.decDigits u=[UInt8.ofNat (48+u)]:=by rw[Lib.decDigits,dif_pos h]
theorem yD{u:Nat}(h: ¬u<10):Lib.decDigits u=Lib.decDigits (u / 10)++[UInt8.ofNat (48+u%10)]:=by
 conv=>lhs;rw[Lib.decDigits]
 rw[dif_neg h]
theorem HT:∀(m u:Nat),u<=m->(∀b∈Lib.decDigits u,HU b=true)/\ED (Lib.decDigits u)=u/\1<=(Lib.decDigits u).length/\∀j,u<10^(j+1)->(Lib.decDigits u).length<=j+1
 | m,u,h=>by
  by_cases hu:u<10
  ·rw[Ri hu]
   refine⟨fun b hb=>by rw[A7r] at hb;subst hb;exact Mz hu,?_,by simp,by simp⟩
   simp only[ED,OI,A7p,A7W,nW hu];omega
  ·have hm:0<m:=by omega
   obtain⟨i1,i2,i3,i4⟩:=HT (m - 1) (u / 10) (by omega)
   rw[yD hu]
   have hd:u%10<10:=Nat.mod_lt _ (by decide)
   refine⟨?_,?_,by simp,?_⟩
   ·intro b hb
    rcases A64.1 hb with hb|hb
    ·exact i1 b hb
    ·rw[A7r] at hb;subst hb;exact Mz hd
   ·simp only[ED,OI] at i2 ⊢
    rw[A7N,i2]
    simp only[A7p,A7W,nW hd];omega
   ·intro j hj
    cases j with
    | zero=>simp at hj;omega
    | succ j =>
     have:=i4 j (by rw[Nat.pow_succ] at hj;omega)
     simp;omega
termination_by m=>m
decreasing_by omega
theorem vC(u:Nat):∀b∈Lib.decDigits u,HU b=true:=(HT u u (A67 _)).1
theorem yM(u:Nat):ED (Lib.decDigits u)=u:=(HT u u (A67 _)).2.1
theorem pD(u:Nat):1<=(Lib.decDigits u).length:=(HT u u (A67 _)).2.2.1
theorem pJ{u:Nat}(h:u<2^63):(Lib.decDigits u).length<=19:=(HT u u (A67 _)).2.2.2 18 (by omega)
def HL(c:UInt8):List UInt8:=if(c==34)||(c==92) then [92,c] else [c]
def F5(s:List UInt8):List UInt8:=s.flatMap HL
theorem lT:∀(s:List UInt8),(F5 s).length<=2*s.length
 | []=>by simp[F5]
 | c::r=>by
  have:=lT r
  have h1:(HL c).length<=2:=by unfold HL;split<;>simp
  simp only[F5,List.flatMap_cons,A6C,A6D] at this ⊢;omega
theorem QX{s:List UInt8}{i:Nat}{c:UInt8}(h:s[i]? =some c):F5 (s.take (i+1))=F5 (s.take i)++HL c:=by
 rw[A6W,h];simp[F5]
def As(k:Int)(s:List UInt8)(n:Int):List UInt8 :=
 if k==2 then Lib.decDigits n.toNat else if k==4 then 64::Lib.decDigits n.toNat else if k==3 then 34::F5 s++[34] else s
theorem tR{k:Int}{s:List UInt8}{n:Int}(h:Ab k s n=true):k=2∨k=4->0<=n:=by
 rintro(rfl|rfl)
 ·unfold Ab at h;rw[if_neg (by decide),if_pos (by decide)] at h
  simp only[A6A,decide_eq_true_eq] at h;exact h.2
 ·unfold Ab at h;rw[if_neg (by decide),if_neg (by decide),if_neg (by decide),if_pos (by decide)] at h
  simp only[A6A,decide_eq_true_eq] at h;exact h.1.2
theorem OT(w:World)(k:Nat)(os:Array Obj):Below (false,w.heap.size) w (Go.Sort.grow (w.drewN k) os) :=
 ⟨rfl,rfl,rfl,by simp[Go.Sort.grow,A77],fun j hj=>by simp[Go.Sort.grow,A77,Array.getElem?_append_left hj],fun e=>by cases e⟩
open Classical in
noncomputable def Na:List D->Option D
 | [.int .i64 n,.int .i64 b]=>if b=10/\0<=n/\n<2^63 then some (.str (Lib.decDigits n.toNat)) else none
 | _=>none
theorem YM{c:Cx}{a b:Int}{vs:List Value}(h:Reps c [.int .i64 a,.int .i64 b] vs):vs=[.int .i64 a,.int .i64 b]:=by
 match vs,h.len with
 | [x,y],_ =>
  have h1:=h.rep 0 (by simp) (by simp)
  have h2:=h.rep 1 (by simp) (by simp)
  simp only[A7f,A7E] at h1 h2
  cases h1;cases h2;rfl
theorem Y8:AQ Tryz.prog 167 Na:=by
 refine Se fun args r h c w vs hg hr=>?_
 unfold Na at h
 split at h
 ·rename_i n b
  split at h
  ·rename_i hv
   obtain⟨rfl,h0,h1⟩:=hv
   injection h with h;subst h
   have e:=YM hr
   subst e
   have e167:∀args w,(callFunc 167 args).run Tryz.prog w= .ok (.enter 167 args) w:=enters_of Tryz.func167 (by kernel_rfl) rfl
   refine⟨e167 _ _,?_⟩
   have htab : Lib.TabIs Tryz.prog w "internal/strconv.uint64pow10" .u64 Lib.pow10Tab := by first | exact hg.2.2.1 | exact hg.2.2
   refine(Tryz.format n (by omega) (by omega) w htab).mono ?_
   rintro e w' ⟨rfl,k,os,rfl⟩
   refine⟨_,rfl,?_,OT w k os⟩
   have:Lib.itoa n=Lib.decDigits n.toNat:=by unfold Lib.itoa;rw[if_neg (by omega)]
   rw[this]
   exact .str _ (by have:=pJ (u:=n.toNat) (by omega);omega)
  ·cases h
 ·cases h
theorem Ey{K:D->S->Prop}{t:Nat->D}{H:Hp}{T T':Tk}{out:List UInt8}{d:D}(c:UInt8){v:Int}(hv:v=(c.toNat:Int))(h:MH T out d T')(ho:out.length<=2^40)
  (k:∀d2 T2,MH T (out++[c]) d2 T2->K d2 ⟨t,H,T2⟩):Eb 1 1 K ⟨t,H,T'++[some (1,1)]⟩ d (some [.int .u8 v]):=by
 subst hv
 exact Ji c h ho rfl fun d2 T2 h2 _=>k d2 T2 h2
def Nc:List D->Option D
 | [.str s]=>if s.length<=2^38 then some (.str (34::F5 s++[34])) else none
 | _=>none
theorem A1I:AQ Tryz.prog 168 Nc:=by
 refine AN (l:=[]) .nil A2e fun args r h=>?_
 unfold Nc at h
 split at h
 ·rename_i s
  split at h
  ·rename_i hl
   injection h with h;subst h
   refine⟨by simp,by simp[D.cl],fun H T=>?_⟩
   simp +contextual only[A2m,go_sem]
   refine Ap (fun i s'=>s'.t 0= .str s/\s'.t 7= .int .i64 s.length/\s'.t 8= .int .i64 (i:Nat)/\s'.H=H/\i<=s.length/\MH T (34::F5 (s.take i)) (s'.t 3) s'.T) s.length ⟨0,rfl,rfl,rfl,rfl,by omega,.inr ⟨by simp,[some (1,1)],0,rfl,rfl,rfl⟩⟩ (fun i s h=>h.2.2.2.2.1) ?_ (AR _)
   rintro i ⟨t,B,T'⟩ ⟨r0,r7,r8,rfl,hi,hA⟩
   simp only at r0 r7 r8 hA
   have hX:=F8 hA
   have hE:=lT (s.take i)
   have ht:(s.take i).length<=s.length:=by simp;omega
   by_cases hlt:i<s.length
   ·have d1:decide (((i:Nat):Int)<s.length)=true:=by simp only[decide_eq_true_eq];omega
    have ex:s[i]? =some s[i]:=by simp[hlt]
    obtain⟨b,hb⟩:∃b,s[i]=b:=⟨_,rfl⟩
    rw[hb] at ex
    have ix:=fun q=>Eu ex q
    have e1:((b.toNat:Int)==34)=(b==34):=GN b 34 (by decide)
    have e2:((b.toNat:Int)==92)=(b==92):=GN b 92 (by decide)
    have tk:=QX ex
    have wS:=Bw i (by omega)
    rcases tf (b==34) with g1|g1
    ·have e:HL b=[92,b]:=by unfold HL;rw[g1];rfl
     rw[e] at tk
     simp +contextual only[r0,r7,r8,d1,ix,e1,g1,go_sem]
     refine Ey (92:UInt8) rfl hA (by simp;omega) fun d2 T2 hA2=>?_
     simp +contextual only[r0,r8,ix,go_sem]
     refine Ey b rfl hA2 (by simp;omega) fun d3 T3 hA3=>?_
     simp +contextual only[r0,r7,r8,wS,go_sem]
     refine⟨by omega,?_⟩
     rw[tk];simpa using hA3
    rcases tf (b==92) with g2|g2
    ·have e:HL b=[92,b]:=by unfold HL;rw[g1,g2];rfl
     rw[e] at tk
     simp +contextual only[r0,r7,r8,d1,ix,e1,e2,g1,g2,go_sem]
     refine Ey (92:UInt8) rfl hA (by simp;omega) fun d2 T2 hA2=>?_
     simp +contextual only[r0,r8,ix,go_sem]
     refine Ey b rfl hA2 (by simp;omega) fun d3 T3 hA3=>?_
     simp +contextual only[r0,r7,r8,wS,go_sem]
     refine⟨by omega,?_⟩
     rw[tk];simpa using hA3
    ·have e:HL b=[b]:=by unfold HL;rw[g1,g2];rfl
     rw[e] at tk
     simp +contextual only[r0,r7,r8,d1,ix,e1,e2,g1,g2,go_sem]
     refine Ey b rfl hA (by simp;omega) fun d3 T3 hA3=>?_
     simp +contextual only[r0,r7,r8,wS,go_sem]
     refine⟨by omega,?_⟩
     rw[tk];simpa using hA3
   ·have d1:decide (((i:Nat):Int)<s.length)=false:=by simp only[decide_eq_false_iff_not];omega
    have ei:i=s.length:=by omega
    rw[ei,A6G] at hA hE
    simp +contextual only[r0,r7,r8,d1,go_sem]
    refine Ey (34:UInt8) rfl hA (by simp;omega) fun d2 T2 hA2=>?_
    have hb2:=Mm hA2
    have hX2:=F8 hA2
    simp +contextual only[hb2,Ad (Ext.refl B) hX2,go_sem]
  ·cases h
 ·cases h
def Gf:List D->Option D
 | [.agg [.int .i64 k,.str s,.int .i64 n]]=>if s.length<=2^38/\n<2^63 then some (.str (if Ab k s n then As k s n else [])) else none
 | _=>none
theorem A07:AQ Tryz.prog 101 Gf:=by
 refine AN (l:=[(166,BU),(167,Na),(168,Nc)]) (.cons VK (.cons Y8 (.cons A1I .nil))) A0O fun args r h=>?_
 unfold Gf at h
 split at h
 ·rename_i k s n
  split at h
  ·rename_i hv
   obtain⟨hl,hn⟩:=hv
   injection h with h;subst h
   refine⟨by simp,by simp[D.cl],fun H T=>?_⟩
   have pf:BU [.agg [.int .i64 k,.str s,.int .i64 n]]=some (.bool (Ab k s n)):=by simp only[BU];rw[if_pos (by omega)]
   have pq:Nc [.str s]=some (.str (34::F5 s++[34])):=by simp only[Nc];rw[if_pos hl]
   rcases tf (Ab k s n) with g|g
   ·have hpos:=tR g
    rw[g] at pf ⊢
    rw[if_pos rfl]
    have pm:k=2∨k=4->Na [.int .i64 n,.int .i64 10]=some (.str (Lib.decDigits n.toNat)):=fun h=>by
     simp only[Na];rw[if_pos ⟨trivial,hpos h,hn⟩]
    have hd:=pJ (u:=n.toNat) (by omega)
    have sa:=A3Q (a:=[64]) (b:=Lib.decDigits n.toNat) (by simp;omega)
    unfold As
    rcases tf (k==2) with k2|k2
    ·rw[if_pos k2]
     have pm:=pm (.inl (by simpa using k2))
     simp +contextual only[Pu,pf,k2,pm,go_sem]
    rw[if_neg (by rw[k2];decide)]
    rcases tf (k==4) with k4|k4
    ·rw[if_pos k4]
     have pm:=pm (.inr (by simpa using k4))
     simp +contextual only[Pu,pf,k2,k4,pm,sa,go_sem]
    rw[if_neg (by rw[k4];decide)]
    rcases tf (k==3) with k3|k3
    ·rw[if_pos k3]
     simp +contextual only[Pu,pf,k2,k4,k3,pq,go_sem]
    ·rw[if_neg (by rw[k3];decide)]
     simp +contextual only[Pu,pf,k2,k4,k3,go_sem]
   ·rw[g] at pf ⊢
    rw[if_neg (by decide)]
    simp +contextual only[Pu,pf,go_sem]
  ·cases h
 ·cases h
def BL(x:D):List UInt8:=As (tk x) (ts x) (tn x)
end GP
namespace GP
open Go Go.Proofs
set_option maxRecDepth 100000
def Ew:D->Bool
 | .agg [.int .i64 k,.str s,.int .i64 n]=>Ab k s n&&decide (s.length<=2^38)&&decide (n<2^63)
 | _=>false
theorem kC{x:D}(h:Ew x=true):∃k s n,x= .agg [.int .i64 k,.str s,.int .i64 n]/\Ab k s n=true/\s.length<=2^38/\n<2^63:=by
 unfold Ew at h
 split at h
 ·simp only[A6A,decide_eq_true_eq] at h
  exact⟨_,_,_,rfl,h.1.1,h.1.2,h.2⟩
 ·cases h
theorem Ra{x:D}(h:Ew x=true):(BL x).length<=2^47:=by
 obtain⟨k,s,n,rfl,hf,hs,hn⟩:=kC h
 show(As k s n).length<=_
 have hE:=lT s
 have hp:=tR hf
 unfold As
 split
 ·rename_i h2
  have:=pJ (u:=n.toNat) (by have:=hp (.inl (by simpa using h2));omega)
  omega
 split
 ·rename_i h2
  have:=pJ (u:=n.toNat) (by have:=hp (.inr (by simpa using h2));omega)
  simp;omega
 split
 ·simp;omega
 ·omega
theorem TV{x:D}(h:Ew x=true):Gf [x]=some (.str (BL x)):=by
 obtain⟨k,s,n,rfl,hf,hs,hn⟩:=kC h
 simp only[Gf]
 rw[if_pos ⟨hs,hn⟩,if_pos hf];rfl
def jnG(toks:List D):List UInt8:=Lib.join (toks.map BL) [32]
def jkG(toks:List D):Bool:=toks.all Ew&& !toks.isEmpty&&decide (toks.length<=2^30)&&decide ((jnG toks).length<=2^40)
def A6y(pre:List UInt8)(toks:List D):List UInt8:=pre++jnG toks++[10]
def Ep(r:List UInt8):Prop:=r=[]∨∃b r',r=b::r'/\(b=32∨b=10)
theorem nD{p:Int->Bool}(h32:p 32=false)(h10:p 10=false){r:List UInt8}(h:Ep r):r=[]∨∃b r',r=b::r'/\p b.toNat=false:=by
 rcases h with h|⟨b,r',h,hb⟩
 ·exact .inl h
 ·refine .inr ⟨b,r',h,?_⟩
  rcases hb with rfl|rfl
  ·exact h32
  ·exact h10
theorem nL{p:Int->Bool}{s rest:List UInt8}(h:∀b∈s,p b.toNat=true)(hr:rest=[]∨∃b r',rest=b::r'/\p b.toNat=false):CS p (s++rest)=s.length:=by
 refine qV (fun j b hj hb=>?_) (by simp) ?_
 ·rw[A61 hj] at hb
  exact h b (A7a hb)
 ·rcases hr with rfl|⟨b,r',rfl,hb⟩
  ·exact .inl (by simp)
  ·exact .inr ⟨b,by rw[A6Y (A67 _)];simp,hb⟩
theorem n9(s rest:List UInt8):(s++rest).take s.length=s:=by simp
theorem kH{s rest:List UInt8}(hr:Ep rest):j5 (s++rest) s.length=false:=by
 unfold j5
 rw[A6Y (A67 _),Nat.sub_self]
 rcases hr with rfl|⟨b,r',rfl,hb⟩
 ·rfl
 ·rcases hb with rfl|rfl<;>rfl
theorem gC{u:Nat}{m:Int}(h:u<2^63)(hm:(u:Int)<=m){rest:List UInt8}(hr:Ep rest):IJ (Lib.decDigits u++rest) m=((u:Int),(Lib.decDigits u).length):=by
 unfold IJ
 rw[nL (p:=cU) (vC u) (nD (by decide) (by decide) hr),n9,kH hr,yM]
 have h1:=pD u
 have h2:=pJ h
 have c1:decide ((Lib.decDigits u).length<1)=false:=decide_eq_false (by omega)
 have c2:decide (19<(Lib.decDigits u).length)=false:=decide_eq_false (by omega)
 have c3:decide (m<(u:Int))=false:=decide_eq_false (by omega)
 rw[c1,c2,c3];rfl
theorem gV:∀(s out:List UInt8) (k:Nat) (rest:List UInt8),s.all (fun b=>D6 b.toNat)=true->out.length+s.length<=64->Fk (F5 s++34::rest) out k=(out++s,k+(F5 s).length+1)
 | [],out,k,rest,_,_=>by
  have e:F5 []=[]:=rfl
  rw[e,A6L,fX,if_pos (by decide)];simp
 | c::s,out,k,rest,ha,hl=>by
  simp only[A6S,A6A] at ha
  simp only[A6D] at hl
  have e:F5 (c::s)=HL c++F5 s:=rfl
  have h64: ¬(decide (64<out.length+1)=true):=by simp only[decide_eq_true_eq];omega
  rcases tf ((c==34)||(c==92)) with g|g
  ·have e1:HL c=[92,c]:=by unfold HL;rw[if_pos g]
   rw[e,e1]
   show Fk (92::c::(F5 s++34::rest)) out k=_
   rw[fX,if_neg (by decide),if_pos (by decide)]
   have g3: ¬(((c !=34)&&(c !=92))=true):=by
    simp only[A6T,beq_iff_eq] at g
    rcases g with rfl|rfl<;>decide
   simp only
   rw[if_neg g3,if_neg h64,gV s (out++[c]) (k+2) rest ha.2 (by simp;omega)]
   simp;omega
  ·have e1:HL c=[c]:=by unfold HL;rw[if_neg (by rw[g];decide)]
   simp only[A7b] at g
   rw[e,e1]
   show Fk (c::(F5 s++34::rest)) out k=_
   rw[fX,if_neg (by rw[g.1];decide),if_neg (by rw[g.2];decide),if_neg (by rw[ha.1];decide),if_neg h64,gV s (out++[c]) (k+1) rest ha.2 (by simp;omega)]
   simp;omega
def vW(y:List UInt8):Bool:=match y with
 | c::_=>(!(EU c.toNat)&& !(cU c.toNat)&& !(c==64)&& !(c==34)&& !(c==32)&& !(c==10)&& !(c==35))
 | []=>false
theorem pH:∀y∈lB,vW y=true:=by decide
theorem nQ{s:List UInt8}(h:bG s=true):s∈lB:=by
 rw[dB,A6T] at h
 rw[jR]
 rcases h with h|h
 ·exact A64.2 (.inr (A6U.1 h))
 ·exact A64.2 (.inl (A6U.1 h))
theorem Hk{k:Int}{s:List UInt8}{n:Int}(hf:Ab k s n=true)(hn:n<2^63){rest:List UInt8}(hr:Ep rest):
  T8 (As k s n++rest)=(mkT k s n,(As k s n).length)/\∃c r,As k s n=c::r/\(c==32)=false/\(c==10)=false/\(c==35)=false:=by
 unfold Ab at hf
 rcases tf (k==1) with k1|k1
 ·rw[if_pos k1] at hf
  have ek:k=1:=by simpa using k1
  subst ek
  simp only[A6A,beq_iff_eq] at hf
  obtain⟨hw,rfl⟩:=hf
  have eS:As 1 s 0=s:=rfl
  rw[eS]
  cases s with
  | nil=>cases hw
  | cons c r =>
   rw[nY] at hw
   simp only[A6A,decide_eq_true_eq] at hw
   obtain⟨⟨w1,w2⟩,w3⟩:=hw
   have all:∀b∈c::r,BM b.toNat=true:=fun b hb=>by
    rcases A6J.1 hb with rfl|hb
    ·rw[sB,w1];rfl
    ·exact A6E.1 w2 b hb
   have hR:=nL (p:=BM) (s:=c::r) (rest:=rest) all (nD (by decide) (by decide) hr)
   refine⟨?_,c,r,rfl,?_⟩
   ·rw[A6P,cB,if_pos w1,← A6P,hR,n9,if_neg (by simp only[decide_eq_true_eq];omega)]
   ·refine⟨?_,?_,?_⟩<;>(rw[beq_eq_false_iff_ne];rintro rfl;exact absurd w1 (by decide))
 rw[if_neg (by rw[k1];decide)] at hf
 rcases tf (k==2) with k2|k2
 ·rw[if_pos k2] at hf
  have ek:k=2:=by simpa using k2
  subst ek
  simp only[A6A,beq_iff_eq,decide_eq_true_eq] at hf
  obtain⟨rfl,h0⟩:=hf
  obtain⟨u,rfl⟩:∃u:Nat,n=(u:Int):=⟨n.toNat,by omega⟩
  have eS:As 2 [] (u:Int)=Lib.decDigits u:=by unfold As;rw[if_pos (by decide)];simp
  rw[eS]
  have hq:=gC (u:=u) (m:=9223372036854775807) (by omega) (by omega) hr
  have hd:=vC u
  have hp:=pD u
  cases hD:Lib.decDigits u with
  | nil=>rw[hD] at hp;simp at hp
  | cons d r =>
   rw[hD] at hq hd
   have gd:cU (d.toNat:Int)=true:=hd d (by simp)
   refine⟨?_,d,r,rfl,?_⟩
   ·rw[A6P,cB,if_neg (by rw[xB gd];decide),if_pos gd,← A6P,hq]
   ·refine⟨?_,?_,?_⟩<;>(rw[beq_eq_false_iff_ne];rintro rfl;exact absurd gd (by decide))
 rw[if_neg (by rw[k2];decide)] at hf
 rcases tf (k==3) with k3|k3
 ·rw[if_pos k3] at hf
  have ek:k=3:=by simpa using k3
  subst ek
  simp only[A6A,beq_iff_eq,decide_eq_true_eq] at hf
  obtain⟨⟨ha,hl⟩,rfl⟩:=hf
  have eS:As 3 s 0=34::(F5 s++[34]):=rfl
  rw[eS]
  refine⟨?_,34,_,rfl,by decide,by decide,by decide⟩
  have e:(34::(F5 s++[34]))++rest=34::(F5 s++34::rest):=by simp
  rw[e,cB,if_neg (by decide),if_neg (by decide),if_neg (by decide),if_pos (by decide),gV s [] 1 rest ha (by simp;omega)]
  simp;omega
 rw[if_neg (by rw[k3];decide)] at hf
 rcases tf (k==4) with k4|k4
 ·rw[if_pos k4] at hf
  have ek:k=4:=by simpa using k4
  subst ek
  simp only[A6A,beq_iff_eq,decide_eq_true_eq] at hf
  obtain⟨⟨rfl,h0⟩,h1⟩:=hf
  obtain⟨u,rfl⟩:∃u:Nat,n=(u:Int):=⟨n.toNat,by omega⟩
  have eS:As 4 [] (u:Int)=64::Lib.decDigits u:=by unfold As;rw[if_neg (by decide),if_pos (by decide)];simp
  rw[eS]
  have hq:=gC (u:=u) (m:=1099511627776) (by omega) h1 hr
  have hp:=pD u
  refine⟨?_,64,_,rfl,by decide,by decide,by decide⟩
  rw[A6P,cB,if_neg (by decide),if_neg (by decide),if_pos (by decide),hq]
  have z:((((u:Int),(Lib.decDigits u).length).2:Int)==0)=false:=by simp only;rw[beq_eq_false_iff_ne];omega
  rw[if_neg (by rw[z];decide)]
  rfl
 rw[if_neg (by rw[k4];decide)] at hf
 rcases tf (k==5) with k5|k5
 ·rw[if_pos k5] at hf
  have ek:k=5:=by simpa using k5
  subst ek
  simp only[A6A,beq_iff_eq] at hf
  obtain⟨hs,rfl⟩:=hf
  have eS:As 5 s 0=s:=rfl
  rw[eS]
  have hm:=nQ hs
  have hfst:=pH s hm
  have key:∀y∈lB,y.length=1∨y.length=2:=by decide
  have hlen:=key s hm
  cases s with
  | nil=>cases hfst
  | cons c r =>
   simp only[vW,A6A,A6R] at hfst
   obtain⟨⟨⟨⟨⟨⟨f1,f2⟩,f3⟩,f4⟩,f5⟩,f6⟩,f7⟩:=hfst
   refine⟨?_,c,r,rfl,f5,f6,f7⟩
   rw[A6P,cB,if_neg (by rw[f1];decide),if_neg (by rw[f2];decide),if_neg (by rw[f3];decide),if_neg (by rw[f4];decide),wH]
   match r,hlen with
   | [],_ =>
    rw[A6L]
    have hno:(decide (1<(c::rest).length)&&bG ((c::rest).take 2))=false:=by
     rcases hr with rfl|⟨b,r',rfl,hb⟩
     ·rfl
     ·have e2:(c::b::r').take 2=[c,b]:=rfl
      have k2:∀y∈cM,y[1]? =some 61:=by decide
      have:bG [c,b]=false:=by
       rw[dB,qW (s:=[c,b]) (by simp),A7e,Bool.eq_false_iff]
       intro hc
       have:=k2 _ (A6U.1 hc)
       have hb61:b=61:=by simpa using this
       rcases hb with rfl|rfl<;>exact absurd hb61 (by decide)
      rw[e2,this,A7t]
    rw[if_neg (by rw[hno];decide),if_pos hs];rfl
   | [d],_ =>
    have e2:(c::([d]++rest)).take 2=[c,d]:=rfl
    have e3:decide (1<(c::([d]++rest)).length)=true:=by simp
    rw[e2,e3,hs,if_pos (by decide)];rfl
   | d::d'::r',h=>simp at h
 ·rw[if_neg (by rw[k5];decide)] at hf;cases hf
def LH(d:D):Prop:=∃k s n,d=mkT k s n/\Ab k s n=true/\n<2^63
def Km(g:List UInt8):Prop:=(∃b r,g=b::r/\(b=32∨b=10))/\∀r,DD false (g++r)=g.length+DD false r
def aM(items:List (List UInt8×D))(tail:List UInt8):List UInt8:=items.flatMap (fun p=>p.1++BL p.2)++tail
theorem Cy(p:List UInt8×D)(items:List (List UInt8×D))(tail:List UInt8):aM (p::items) tail=p.1++(BL p.2++aM items tail):=by
 simp[aM]
theorem jK:∀(items:List (List UInt8×D)) (tail:List UInt8) (f:Nat) (l:List UInt8) (a:Nat) (out:List D),(∀p∈items,Km p.1/\LH p.2)->Ep tail->DD false tail=tail.length →
  l.drop a=aM items tail->a<=l.length->l.length<CF l a+f->out.length+items.length<=600->Kw f l (CF l a) out=(out++items.map (·.2),0,0)
 | [],tail,f,l,a,out,_,_,ht,hd,ha,hf,_=>by
  have e:l.drop a=tail:=by rw[hd];simp[aM]
  have hb:CF l a=l.length:=by
   unfold CF;rw[e,ht,← e];simp;omega
  rw[hb] at hf ⊢
  cases f with
  | zero=>omega
  | succ f=>rw[cC,if_pos (by simp)];simp
 | p::items,tail,f,l,a,out,hp,hr,ht,hd,ha,hf,ho=>by
  obtain⟨⟨⟨b,r,hg,hb⟩,hgap⟩,k,s,n,hT,hF,hn⟩:=hp p (by simp)
  have hp':∀q∈items,Km q.1/\LH q.2:=fun q hq=>hp q (by simp[hq])
  have hrest:Ep (aM items tail):=by
   cases items with
   | nil=>simpa[aM] using hr
   | cons q items =>
    obtain⟨⟨⟨b,r,hg,hb⟩,_⟩,_⟩:=hp' q (by simp)
    rw[Cy,hg]
    exact .inr ⟨b,_,rfl,hb⟩
  have hS:BL p.2=As k s n:=by rw[hT];rfl
  rw[Cy,hS] at hd
  obtain⟨h1,c,r2,h2,h3,h4,h5⟩:=Hk hF hn hrest
  have hgl:DD false (l.drop a)=p.1.length:=by
   rw[hd,hgap,h2]
   simp[DD,h3,h4,h5]
  have hbt:CF l a=a+p.1.length:=by unfold CF;rw[hgl]
  have hd1:l.drop (a+p.1.length)=As k s n++aM items tail:=by
   rw[<- A7u,hd];simp
  have hpos:0<(As k s n).length:=by rw[h2];simp
  have hlen:a+p.1.length+(As k s n).length<=l.length:=by
   have e1:=congrArg List.length hd1
   simp only[A7j,A6C] at e1
   have e2:=congrArg List.length hd
   simp only[A7j,A6C] at e2
   omega
  have hd2:l.drop (a+p.1.length+(As k s n).length)=aM items tail:=by
   rw[<- A7u,hd1];simp
  rw[hbt] at hf ⊢
  cases f with
  | zero=>omega
  | succ f =>
   have hlt:a+p.1.length<l.length:=by omega
   rw[cC,if_neg (by simp only[decide_eq_true_eq];omega),kV hlt,hd1,h1]
   simp only
   simp only[A6D] at ho
   have z1:((((As k s n).length:Nat):Int)==0)=false:=by rw[beq_eq_false_iff_ne];omega
   have z2:(((out.length:Nat):Int)==600)=false:=by rw[beq_eq_false_iff_ne];omega
   rw[if_neg (by rw[z1];decide),if_neg (by rw[z2];decide)]
   have hb2:=gH (l:=l) (a:=a+p.1.length+(As k s n).length) hlen
   rw[jK items tail f l _ (out++[mkT k s n]) hp' hr ht hd2 hlen (by omega) (by simp;omega)]
   simp[hT]
theorem jB{l:List UInt8}(h:4096<l.length):CJ l=([],0,3):=by
 unfold CJ;rw[if_pos (by simpa using h)]
theorem XS:Km [32]:=⟨⟨32,[],rfl,.inl rfl⟩,fun r=>by simp[DD]⟩
theorem jO(x:D)(r:List D):Lib.join ((x::r).map BL) [32]=BL x++aM (r.map fun d=>([32],d)) []:=by
 rw[A6M,Lib.join_cons]
 congr 1
 unfold Lib.joinTail aM
 rw[A7n,List.flatMap_map,A7h,List.flatMap_def]
 rfl
theorem oR:∀(xs:List D),(∀x∈xs,LH x)->xs.length<=600->(Lib.join (xs.map BL) [32]).length<=4096->CJ (Lib.join (xs.map BL) [32])=(xs,0,0)
 | [],_,_,_=>by kernel_rfl
 | x::r,h,h6,hl=>by
  obtain⟨k,s,n,rfl,hF,hn⟩:=h x (by simp)
  rw[jO] at hl ⊢
  have hS:BL (mkT k s n)=As k s n:=rfl
  rw[hS] at hl ⊢
  have hp:∀q∈r.map fun d=>(([32]:List UInt8),d),Km q.1/\LH q.2:=fun q hq=>by
   obtain⟨y,hy,rfl⟩:=A68.1 hq
   exact⟨XS,h y (by simp[hy])⟩
  have hrest:Ep (aM (r.map fun d=>(([32]:List UInt8),d)) []):=by
   cases r with
   | nil=>exact .inl rfl
   | cons y r=>rw[A6M,Cy];exact .inr ⟨32,_,rfl,.inl rfl⟩
  obtain⟨h1,c,r2,h2,h3,h4,h5⟩:=Hk hF hn hrest
  obtain⟨R,hR⟩:∃R,aM (r.map fun d=>(([32]:List UInt8),d)) []=R:=⟨_,rfl⟩
  obtain⟨L,hL⟩:∃L,As k s n++R=L:=⟨_,rfl⟩
  rw[hR] at h1 hl ⊢
  rw[hL] at h1 hl ⊢
  have hpos:0<(As k s n).length:=by rw[h2];simp
  have hLl:L.length=(As k s n).length+R.length:=by rw[<- hL];simp
  have hb:CF L 0=0:=by
   unfold CF;rw[A7v,← hL,h2];simp[DD,h3,h4,h5]
  have z1:((((As k s n).length:Nat):Int)==0)=false:=by rw[beq_eq_false_iff_ne];omega
  unfold CJ
  rw[if_neg (by simp only[decide_eq_true_eq];omega),hb,cC,if_neg (by simp only[decide_eq_true_eq];omega),kV (by omega),A7v,h1]
  simp only
  rw[if_neg (by rw[z1];decide),if_neg (by decide),A6V]
  have hd:L.drop (As k s n).length=R:=by rw[<- hL];simp
  have hb2:=gH (l:=L) (a:=(As k s n).length) (by omega)
  rw[jK (r.map fun d=>(([32]:List UInt8),d)) [] L.length L (As k s n).length ([]++[mkT k s n]) hp (.inl rfl) rfl (by rw[hd,hR]) (by omega) (by omega) (by simp at h6 ⊢;omega)]
  have e:(r.map fun d=>(([32]:List UInt8),d)).map (·.2)=r:=by
   rw[A7h];exact(A7o fun _ _=>rfl).trans (A7T r)
  rw[e];rfl
theorem mU:∀(items:List (List UInt8×D)) (tail:List UInt8) (f:Nat) (l:List UInt8) (a:Nat) (out:List D),(∀p∈items,Km p.1/\LH p.2)->Ep tail->DD false tail=tail.length →
  l.drop a=aM items tail->a<=l.length->l.length<CF l a+f->out.length<=600->600<out.length+items.length->∃at0,Kw f l (CF l a) out=([],at0,13)
 | [],tail,f,l,a,out,_,_,ht,hd,ha,hf,h1,h2=>by simp at h2;omega
 | p::items,tail,f,l,a,out,hp,hr,ht,hd,ha,hf,ho,ho2=>by
  obtain⟨⟨⟨b,r,hg,hb⟩,hgap⟩,k,s,n,hT,hF,hn⟩:=hp p (by simp)
  have hp':∀q∈items,Km q.1/\LH q.2:=fun q hq=>hp q (by simp[hq])
  have hrest:Ep (aM items tail):=by
   cases items with
   | nil=>simpa[aM] using hr
   | cons q items =>
    obtain⟨⟨⟨b,r,hg,hb⟩,_⟩,_⟩:=hp' q (by simp)
    rw[Cy,hg]
    exact .inr ⟨b,_,rfl,hb⟩
  have hS:BL p.2=As k s n:=by rw[hT];rfl
  rw[Cy,hS] at hd
  obtain⟨h1,c,r2,h2,h3,h4,h5⟩:=Hk hF hn hrest
  have hgl:DD false (l.drop a)=p.1.length:=by
   rw[hd,hgap,h2]
   simp[DD,h3,h4,h5]
  have hbt:CF l a=a+p.1.length:=by unfold CF;rw[hgl]
  have hd1:l.drop (a+p.1.length)=As k s n++aM items tail:=by
   rw[<- A7u,hd];simp
  have hpos:0<(As k s n).length:=by rw[h2];simp
  have hlen:a+p.1.length+(As k s n).length<=l.length:=by
   have e1:=congrArg List.length hd1
   simp only[A7j,A6C] at e1
   have e2:=congrArg List.length hd
   simp only[A7j,A6C] at e2
   omega
  have hd2:l.drop (a+p.1.length+(As k s n).length)=aM items tail:=by
   rw[<- A7u,hd1];simp
  rw[hbt] at hf ⊢
  cases f with
  | zero=>omega
  | succ f =>
   have hlt:a+p.1.length<l.length:=by omega
   rw[cC,if_neg (by simp only[decide_eq_true_eq];omega),kV hlt,hd1,h1]
   simp only
   simp only[A6D] at ho2
   have z1:((((As k s n).length:Nat):Int)==0)=false:=by rw[beq_eq_false_iff_ne];omega
   rw[if_neg (by rw[z1];decide)]
   rcases tf (((out.length:Nat):Int)==600) with z2|z2
   ·rw[if_pos z2];exact⟨_,rfl⟩
   rw[if_neg (by rw[z2];decide)]
   have z3:out.length≠600:=by rw[beq_eq_false_iff_ne] at z2;omega
   have hb2:=gH (l:=l) (a:=a+p.1.length+(As k s n).length) hlen
   exact mU items tail f l _ (out++[mkT k s n]) hp' hr ht hd2 hlen (by omega) (by simp;omega) (by simp;omega)
theorem gG:∀(xs:List D),(∀x∈xs,LH x)->600<xs.length->(Lib.join (xs.map BL) [32]).length<=4096->CJ (Lib.join (xs.map BL) [32])=([],(CJ (Lib.join (xs.map BL) [32])).2.1,13)
 | [],_,h,_=>by simp at h
 | x::r,h,h6,hl=>by
  obtain⟨k,s,n,rfl,hF,hn⟩:=h x (by simp)
  rw[jO] at hl ⊢
  have hS:BL (mkT k s n)=As k s n:=rfl
  rw[hS] at hl ⊢
  have hp:∀q∈r.map fun d=>(([32]:List UInt8),d),Km q.1/\LH q.2:=fun q hq=>by
   obtain⟨y,hy,rfl⟩:=A68.1 hq
   exact⟨XS,h y (by simp[hy])⟩
  have hrest:Ep (aM (r.map fun d=>(([32]:List UInt8),d)) []):=by
   cases r with
   | nil=>exact .inl rfl
   | cons y r=>rw[A6M,Cy];exact .inr ⟨32,_,rfl,.inl rfl⟩
  obtain⟨h1,c,r2,h2,h3,h4,h5⟩:=Hk hF hn hrest
  obtain⟨R,hR⟩:∃R,aM (r.map fun d=>(([32]:List UInt8),d)) []=R:=⟨_,rfl⟩
  obtain⟨L,hL⟩:∃L,As k s n++R=L:=⟨_,rfl⟩
  rw[hR] at h1 hl ⊢
  rw[hL] at h1 hl ⊢
  have hpos:0<(As k s n).length:=by rw[h2];simp
  have hLl:L.length=(As k s n).length+R.length:=by rw[<- hL];simp
  have hb:CF L 0=0:=by
   unfold CF;rw[A7v,← hL,h2];simp[DD,h3,h4,h5]
  have z1:((((As k s n).length:Nat):Int)==0)=false:=by rw[beq_eq_false_iff_ne];omega
  unfold CJ
  rw[if_neg (by simp only[decide_eq_true_eq];omega),hb,cC,if_neg (by simp only[decide_eq_true_eq];omega),kV (by omega),A7v,h1]
  simp only
  rw[if_neg (by rw[z1];decide),if_neg (by decide),A6V]
  have hd:L.drop (As k s n).length=R:=by rw[<- hL];simp
  have hb2:=gH (l:=L) (a:=(As k s n).length) (by omega)
  obtain⟨at0,e⟩:=mU (r.map fun d=>(([32]:List UInt8),d)) [] L.length L (As k s n).length ([]++[mkT k s n]) hp (.inl rfl) rfl (by rw[hd,hR]) (by omega) (by omega) (by simp) (by simp at h6 ⊢;omega)
  rw[e]
end GP
namespace GP
open Go
set_option maxRecDepth 100000
variable {P:Program} [HasG P]
open Rd O
def A6x(xs:List D):Prop:=∀x∈xs,∃s,x= .str s
theorem A6x.len{xs:List D}(h:A6x xs):∀x∈xs,x.cells.length=1:=fun x hx=>by
 obtain⟨s,rfl⟩:=h x hx;rfl
theorem A6x.fit{xs:List D}(h:A6x xs):xs.all (fit 1)=true:=A6E.2 fun x hx=>by
 obtain⟨s,rfl⟩:=h x hx;rfl
theorem A6x.flat{xs:List D}(h:A6x xs):(AX xs).length=xs.length*1:=fJ h.len
theorem A6x.sub{xs ys:List D}(h:A6x xs)(k:∀y∈ys,y∈xs):A6x ys:=fun y hy=>h y (k y hy)
structure isCatS(ls:List D):Prop where
 l:ls.length<=2^40
 s:∀y∈ls,∃m xs,y=aV m xs
 a:A6x (A6w ls)
 e:D.eraseL (A6w ls)=A6w ls
 c:D.clL 0 0 (A6w ls)=true
 b:(A6w ls).length*16<=2^47
 n:(A6w ls).length<2^61
end GP
namespace GP
open Go Go.Proofs
set_option maxRecDepth 100000
theorem yS{k:Int}(h1:1<=k)(h4:k<=4):Ab 1 (E7 k) 0=true:=by
 have:k=1∨k=2∨k=3∨k=4:=by omega
 rcases this with rfl|rfl|rfl|rfl<;>decide
abbrev Ln:=List UInt8×List D
def lnD(l:Ln):D:=.str (A6y l.1 l.2)
def A6z(ls:List Ln):Nat:=(ls.map (fun l=>l.2.length)).sum
structure okDL(DL:List Ln):Prop where
 k:∀l∈DL,jkG l.2=true/\l.1.length<=1000
 n:DL.length<=2^10
 c:A6z DL<=2^40
structure Pg(H:Hp)(T:Tk)(dc:List D)(ls:List Ln)(B:Hp)(U:Tk):Prop where
 a:Ext (H++[.row dc]) B
 b:∃d,B[H.length+1]? =some (.row [d,.int .i64 ((A6z ls:Nat):Int)])/\Bu 1 T (ls.map lnD) d U
theorem Pg.app{H:Hp}{T:Tk}{dc:List D}{ls:List Ln}{B:Hp}{U:Tk}(h:Pg H T dc ls B U)(L:Hp)(L':Tk):Pg H T dc ls (B++L) (U++L'):=by
 obtain⟨d,h1,h2⟩:=h.b
 exact⟨h.a.app _,d,by rw[A61 (BB h1)];exact h1,h2.app _⟩
def O5(x:D)(w:List UInt8):Bool:=(tk x==5)&&(ts x==w)
def frB(x:D):Bool:=O5 x [59]||O5 x [123]||O5 x [125]
def cnd(b:Bool)(l:List UInt8):List UInt8:=match b with
 | true=>l
 | false=>[]
def rF(s:List UInt8×Bool×Bool)(x:D):List UInt8×Bool×Bool :=
 (s.1++cnd (s.2.2&&(s.2.1&& !O5 x [125])) [32,32]++cnd (!s.2.2) [32]++BL x++cnd (frB x) [10],(s.2.1&& !O5 x [125])||O5 x [123],frB x)
def Sp:D->Bool
 | .agg [.int .i64 k,.str s,.int .i64 n]=>decide (s.length<=64)&&(!(k==2||k==4)||(decide (0<=n)&&decide (n<2^63)))
 | _=>false
theorem rV{x:D}(h:Sp x=true):∃k s n,x= .agg [.int .i64 k,.str s,.int .i64 n]/\s.length<=64/\(k=2∨k=4->0<=n/\n<2^63):=by
 unfold Sp at h
 split at h
 ·rename_i k s n
  simp only[A6A,A6T,decide_eq_true_eq,A6R,A7b,beq_eq_false_iff_ne] at h
  refine⟨k,s,n,rfl,h.1,fun hk=>?_⟩
  rcases h.2 with h2|h2
  ·rcases hk with rfl|rfl
   ·exact absurd rfl h2.1
   ·exact absurd rfl h2.2
  ·exact h2
 ·cases h
theorem rM{x:D}(h:Sp x=true):(BL x).length<=130:=by
 obtain⟨k,s,n,rfl,hs,hn⟩:=rV h
 show(As k s n).length<=_
 have hE:=lT s
 unfold As
 split
 ·rename_i h2
  have:=pJ (u:=n.toNat) (by have:=hn (.inl (by simpa using h2));omega)
  omega
 split
 ·rename_i h2
  have:=pJ (u:=n.toNat) (by have:=hn (.inr (by simpa using h2));omega)
  simp;omega
 split
 ·simp;omega
 ·omega
theorem mG{k:Int}{s:List UInt8}{n:Int}(h:Ab k s n=true):s.length<=64:=by
 unfold Ab at h
 split at h
 ·simp only[A6A] at h
  unfold Bp at h
  split at h
  ·cases h.1
  ·rename_i c r
   simp only[A6A,decide_eq_true_eq] at h
   have:=h.1.2
   simp only[A6D] at this ⊢;omega
 split at h
 ·simp only[A6A,beq_iff_eq] at h
  rw[h.1];simp
 split at h
 ·simp only[A6A,decide_eq_true_eq] at h
  have:=h.1.2;omega
 split at h
 ·simp only[A6A,beq_iff_eq] at h
  rw[h.1.1];simp
 split at h
 ·simp only[A6A] at h
  have h:=h.1
  unfold bG at h
  obtain⟨w,hw,e⟩:=A7k.1 h
  have key:∀w∈pP,w.length<=64:=by decide
  have e:w=s:=by simpa using e
  rw[<- e];exact key w hw
 ·cases h
theorem jX{k:Int}{s:List UInt8}{n:Int}(h:Ab k s n=true)(hn:n<2^63):Ew (mkT k s n)=true:=by
 have:=mG h
 simp only[mkT,Ew,h,A60,A6A,decide_eq_true_eq]
 omega
theorem Uk{x:D}(h:Ew x=true):Sp x=true:=by
 obtain⟨k,s,n,rfl,hf,hs,hn⟩:=kC h
 have hl:=mG hf
 have hp:=tR hf
 simp only[Sp,A6A,A6T,decide_eq_true_eq,A6R,A7b,beq_eq_false_iff_ne]
 refine⟨hl,?_⟩
 by_cases h2:k=2
 ·exact .inr ⟨hp (.inl h2),hn⟩
 by_cases h4:k=4
 ·exact .inr ⟨hp (.inr h4),hn⟩
 ·exact .inl ⟨h2,h4⟩
theorem Ol{k:Int}{s:List UInt8}{n:Int}{w:List UInt8}(h:k≠5):O5 (mkT k s n) w=false:=by
 unfold O5
 rw[tW]
 have:(k==5)=false:=by simpa using h
 rw[this];rfl
theorem oH{k:Int}{s:List UInt8}{n:Int}{w:List UInt8}(h:s≠w):O5 (mkT k s n) w=false:=by
 unfold O5
 rw[kE]
 have:(s==w)=false:=by simpa using h
 rw[this];simp
theorem tX{k:Int}{s:List UInt8}{n:Int}(h:k≠5):frB (mkT k s n)=false:=by
 unfold frB;rw[Ol h,Ol h,Ol h];rfl
theorem AB{k:Int}{s:List UInt8}{n:Int}(h1:s≠[59])(h2:s≠[123])(h3:s≠[125]):frB (mkT k s n)=false:=by
 unfold frB;rw[oH h1,oH h2,oH h3];rfl
def inT(x:D):Prop:=Ew x=true/\frB x=false
theorem aL{s:List UInt8}(h:Ab 1 s 0=true):inT (mkT 1 s 0):=⟨jX h (by decide),tX (by decide)⟩
theorem lF{s:List UInt8}(h:Ab 3 s 0=true):inT (mkT 3 s 0):=⟨jX h (by decide),tX (by decide)⟩
theorem b9{s:List UInt8}(h:Ab 5 s 0=true)(h1:s≠[59])(h2:s≠[123])(h3:s≠[125]):inT (mkT 5 s 0):=⟨jX h (by decide),AB h1 h2 h3⟩
theorem dA{s:List UInt8}(h:C6 s=true):inT (mkT 1 s 0):=aL (by
 unfold C6 at h;simp only[A6A] at h;exact h.1)
theorem pI{s:List UInt8}(h:inB Dm s=true):Ab 1 s 0=true:=by
 unfold inB at h
 obtain⟨w,hw,e⟩:=A7k.1 h
 have e:w=s:=by simpa using e
 subst e
 have key:∀w∈Dm,Ab 1 w 0=true:=by decide
 exact key w hw
theorem qX{v:D}{b:Bool}(h:D0 v b=true)(h1:B9 v=true)(hr: -(2^63)<=vi v/\vi v<2^63):∀x∈Al v,inT x:=by
 intro x hx
 unfold Al at hx
 unfold D0 at h
 unfold B9 Bf at h1
 split at hx
 ·split at hx<;>(simp only[A6J,A6N,or_false] at hx;subst hx;exact aL (by decide))
 rename_i n1
 split at hx
 ·rename_i n2
  rw[if_pos n2] at h
  simp only[A6T,A6A,decide_eq_true_eq] at h
  split at hx
  ·rename_i g
   have g:vi v<0:=by simpa using g
   have hlo: -9223372036854775808<vi v:=by rcases h with h|h<;>omega
   have hw:IntKind.i64.wrap (0 - vi v)=0 - vi v:=kU _ (by omega) (by omega)
   rw[hw] at hx
   simp only[A6J,A6N,or_false] at hx
   rcases hx with rfl|rfl
   ·exact b9 (by decide) (by decide) (by decide) (by decide)
   ·have:Ab 2 [] (0 - vi v)=true:=by
     have hd:decide (0<=0 - vi v)=true:=by simp only[decide_eq_true_eq];omega
     unfold Ab;rw[if_neg (by decide),if_pos (by decide),hd];rfl
    exact⟨jX this (by omega),tX (by decide)⟩
  ·rename_i g
   have g:0<=vi v:=by simpa using g
   simp only[A6J,A6N,or_false] at hx
   subst hx
   have:Ab 2 [] (vi v)=true:=by
    have hd:decide (0<=vi v)=true:=by simpa using g
    unfold Ab;rw[if_neg (by decide),if_pos (by decide),hd];rfl
   exact⟨jX this (by omega),tX (by decide)⟩
 rename_i n2
 rw[if_neg n2] at h
 split at hx
 ·rename_i n3
  have e3:vk v=3:=by simpa using n3
  simp only[A6J,A6N,or_false] at hx
  subst hx
  rw[e3] at h
  exact lF (by simpa using h)
 ·rename_i n3
  simp only[A6J,A6N,or_false] at hx
  subst hx
  have m1:(vk v==1)=false:=by simpa using n1
  have m3:(vk v==3)=false:=by simpa using n3
  rw[m1,m3] at h
  have e4:vk v=4:=by simpa using h
  rw[e4] at h1
  split at h1
  ·cases h1
  split at h1
  ·cases h1
  have h1:(decide (0<=vi v)&&decide (vi v<=1099511627776))=true:=h1
  have:Ab 4 [] (vi v)=true:=by
   unfold Ab
   rw[if_neg (by decide),if_neg (by decide),if_neg (by decide),if_pos (by decide)]
   simp only[A6A] at h1
   rw[h1.1,h1.2];rfl
  exact⟨jX this (by omega),tX (by decide)⟩
theorem xP{v:D}(h:EQ v=true)(hr: -(2^63)<=vi v/\vi v<2^63)(hl:∀x∈vl v,-(2^63)<=vi x/\vi x<2^63):∀x∈D9 v,inT x:=by
 intro x hx
 unfold EQ at h
 split at h
 ·cases h
 rename_i hf
 simp only[A6R,A7M] at hf
 unfold bS at hf
 unfold D9 at hx
 split at h
 ·rename_i hk
  rw[if_pos hk] at hf
  rw[if_pos (fP h)] at hx
  exact qX h hf hr x hx
 ·rename_i hk
  rw[if_neg hk] at hf
  have h5:vk v=5:=by simpa using hk
  have hlf:Cw v=false:=by unfold Cw;rw[h5];rfl
  rw[if_neg (by rw[hlf];decide)] at hx
  split at hf
  ·cases hf
  simp only[A6A] at h
  have h1:=A6E.1 h.1
  simp only[A6J,A64,A6N,or_false] at hx
  rcases hx with rfl|hx|rfl
  ·exact b9 (by decide) (by decide) (by decide) (by decide)
  ·rcases JX hx with rfl|⟨y,hy,hxy⟩
   ·exact b9 (by decide) (by decide) (by decide) (by decide)
   ·exact qX (h1 y hy) (yX hf y hy) (hl y hy) x hxy
  ·exact b9 (by decide) (by decide) (by decide) (by decide)
theorem zV{op:List UInt8}(h:EV op):inT (Dq op):=by
 have key:∀w∈HW,Ew (Dq w)=true/\frB (Dq w)=false:=by decide
 exact key op (PL h)
theorem Vn{n:Nat}{e:D}(h:isE n e):DI (eV e):=by
 obtain⟨op,k,i,s,nl,l,who,name,m,ps,rfl,h1,h2,h3,h4,_⟩:=Aj h
 exact h4
def spT(l:List D):List UInt8:=(l.map fun y=>32::BL y).flatten
theorem zZ(x:D)(ys:List D):jnG (x::ys)=BL x++spT ys:=by
 unfold jnG Lib.join spT
 induction ys generalizing x with
 | nil=>simp
 | cons y ys ih =>
  simp only[A6M,List.intercalate_cons_cons] at ih ⊢
  rw[ih y];simp
theorem tA{x:D}(h:Ew x=true):(BL x).length<=130:=rM (Uk h)
theorem v9:∀(l:List D),(∀x∈l,Ew x=true)->(spT l).length<=131*l.length
 | [],_=>by simp[spT]
 | y::l,h=>by
  have h1:=tA (h y (by simp))
  have h2:=v9 l fun z hz=>h z (by simp[hz])
  simp only[spT,A6M,A7z,A6C,A6D] at h2 ⊢
  omega
theorem S5{x:D}{l:List D}(h:∀y∈x::l,Ew y=true):(jnG (x::l)).length<=131*(l.length+1):=by
 have h1:=tA (h x (by simp))
 have h2:=v9 l fun z hz=>h z (by simp[hz])
 rw[zZ,A6C];omega
structure okLn(w:Bool)(l:Ln)(w':Bool):Prop where
 f:∀a,l.2.foldl rF (a,w,true)=(a++A6y l.1 l.2,w',true)
 s:∀x∈l.2,Ew x=true
 n:l.2≠[]
 b:l.2.length<=2^30
 p:l.1.length<=2
theorem okLn.len{w w':Bool}{l:Ln}(h:okLn w l w'):(A6y l.1 l.2).length<=2^38:=by
 obtain⟨p,toks⟩:=l
 obtain⟨_,h1,h2,h3,h4⟩:=h
 simp only at h1 h2 h3 h4 ⊢
 cases toks with
 | nil=>exact(h2 rfl).elim
 | cons x l =>
  have hl:=S5 h1
  simp only[A6D] at h3
  simp only[A6y,A6C,A6D,A6O];omega
def A6v:Bool->List Ln->Bool->Prop
 | w,[],w'=>w=w'
 | w,l::ls,w'=>∃u,okLn w l u/\A6v u ls w'
theorem A6v.app:∀{a b:List Ln} {w u w':Bool},A6v w a u->A6v u b w'->A6v w (a++b) w'
 | [],_,_,_,_,h,k=>by cases h;exact k
 | l::a,b,_,_,_,⟨v,h1,h2⟩,k=>⟨v,h1,A6v.app h2 k⟩
theorem A6v.one{l:Ln}{w w':Bool}(h:okLn w l w'):A6v w [l] w':=⟨_,h,rfl⟩
theorem A6v.map{α:Type}{f:α->Ln}{w:Bool}:∀{l:List α},(∀x∈l,okLn w (f x) w)->A6v w (l.map f) w
 | [],_=>rfl
 | x::l,h=>⟨w,h x (by simp),A6v.map fun y hy=>h y (by simp[hy])⟩
theorem A6v.flat{α:Type}{f:α->List Ln}{w:Bool}:∀{l:List α},(∀x∈l,A6v w (f x) w)->A6v w (l.map f).flatten w
 | [],_=>rfl
 | x::l,h=>by
  rw[A6M,A7z]
  exact(h x (by simp)).app (A6v.flat fun y hy=>h y (by simp[hy]))
theorem qD{w:List UInt8}{l:List (List UInt8)}(hw:Ab 1 w 0=true)(hl:l.all Gj=true):∀x∈Bz w l,inT x:=by
 intro x hx
 unfold Bz at hx
 simp only[List.mem_flatten,A68] at hx
 obtain⟨_,⟨s,hs,rfl⟩,hx⟩:=hx
 simp only[A6J,A6N,or_false] at hx
 rcases hx with rfl|rfl
 ·exact aL hw
 ·exact lF (A6E.1 hl s hs)
end GP
namespace GP
open Go
abbrev Nm:=List UInt8×List UInt8
def Ax(p:Nm):D:=.agg [.str p.1,.str p.2]
abbrev kSS:Bool×List Ck:=(true,[.str,.str])
def Vp(p:Nm):Prop:=p.1.length<2^62/\p.2.length<2^62
theorem MV{p:Nm}(h:Vp p):kok kSS (Ax p)=true:=by
 simp[kok,Ax,pu,pu1,Dn,ckD,h.1,h.2]
theorem IB(p q:Nm):keq kSS (Ax p) (Ax q)=some (p==q):=by
 show(if Dn [D.str p.1,.str p.2] [.str,.str]=true then aG [D.str p.1,.str p.2] [.str q.1,.str q.2] else none)=some (p==q)
 rw[if_pos (by simp[Dn,ckD])]
 simp only[aG,bV]
 obtain⟨a,b⟩:=p
 obtain⟨c,d⟩:=q
 congr 1
 rw[A7H]
 simp
structure MpS(ps:List Nm)(es:List (D×D×Nat))(clk:Nat):Prop where
 k:es.map (fun e=>e.1)=ps.map Ax
 v:∀x∈es,∃n:Int,x.2.1= .int .i64 n
 b:∀(i:Nat) e,es[i]? =some e->e.2.2=i
 c:clk=es.length
theorem MpS.nil:MpS [] [] 0:=⟨rfl,by simp,by simp,rfl⟩
theorem Sn{p:Nm}:∀{ps:List Nm} {es:List (D×D×Nat)} (i:Nat),es.map (fun e=>e.1)=ps.map Ax->p ∉ ps->fnd kSS (Ax p) es i=some none
 | [],[],_,_,_=>rfl
 | [],_::_,_,h,_=>by simp at h
 | _::_,[],_,h,_=>by simp at h
 | q::ps,(k,v,b)::es,i,h,hp=>by
  simp only[A6M,A74.injEq] at h
  simp only[A6J,not_or] at hp
  have hk:k=Ax q:=h.1
  have e:(p==q)=false:=by simpa using hp.1
  simp only[fnd,hk,IB,e]
  exact Sn (i+1) h.2 hp.2
theorem Ph{p:Nm}:∀{ps:List Nm} {es:List (D×D×Nat)} (i:Nat),es.map (fun e=>e.1)=ps.map Ax->p∈ps->∃j v b,fnd kSS (Ax p) es i=some (some (i+j,v,b))/\es[j]? =some (Ax p,v,b)
 | [],_,_,_,h=>by cases h
 | _::_,[],_,h,_=>by simp at h
 | q::ps,(k,v,b)::es,i,h,hp=>by
  simp only[A6M,A74.injEq] at h
  have hk:k=Ax q:=h.1
  by_cases e:p=q
  ·subst e
   refine⟨0,v,b,?_,by simp[hk]⟩
   simp only[fnd,hk,IB,beq_self_eq_true,A7P]
  ·have e':(p==q)=false:=by simpa using e
   have hp:p∈ps:=by
    rcases A6J.1 hp with h|h
    ·exact absurd h e
    ·exact h
   obtain⟨j,v',b',h1,h2⟩:=Ph (i+1) h.2 hp
   refine⟨j+1,v',b',?_,by simpa using h2⟩
   simp only[fnd,hk,IB,e']
   rw[h1,show i+1+j=i+(j+1) by omega]
theorem VM{α:Type}{l:List α}{i:Nat}{x:α}(h:l[i]? =some x):l.set i x=l:=by
 apply A7y
 intro j
 by_cases e:i=j
 ·subst e
  have:i<l.length:=by
   rcases A65 i l.length with h'|h'
   ·exact h'
   ·rw[A6I h'] at h;cases h
  rw[A66 this,h]
 ·rw[A7l e]
theorem Ny{ks:Bool×List Ck}{zv k:D}{K:D->S->Prop}{t:Nat->D}{B:Hp}{U:Tk}{o clk:Nat}{es:List (D×D×Nat)}(hk:kok ks k=true)(hz:pu zv=true)(ho:B[o]? =some (.map es clk)){r:Option (Nat×D×Nat)}(hf:fnd ks k es 0=some r)
  (h:match r with
   | some (i,v,b)=>K (.tup [v,.int .i64 (b:Int)]) ⟨t,B.set o (.map (es.set i (k,v,b)) clk),U⟩
   | none=>K (.tup [zv,.int .i64 (clk:Int)]) ⟨t,B.set o (.map (es++[(k,zv,clk)]) (clk+1)),U⟩):LR ks zv K ⟨t,B,U⟩ (.mp o) k:=by
 refine⟨hk,hz,?_⟩
 simp only[ho,hf]
 cases r with
 | none=>exact h
 | some p=>exact h
theorem PX{K:D->S->Prop}{t:Nat->D}{B:Hp}{U:Tk}{o clk i:Nat}{n:Int}{v:D}{e:D×D×Nat}{es:List (D×D×Nat)}(hv:pu v=true)(ho:B[o]? =some (.map es clk))(hf:es.findIdx? (fun e=>(e.2.2:Int)==n)=some i)(he:es[i]? =some e)
  (h:K .top ⟨t,B.set o (.map (es.set i (e.1,v,e.2.2)) clk),U⟩):Qz K ⟨t,B,U⟩ (.mp o) (.int .i64 n) v:=by
 refine⟨hv,?_⟩
 simp only[ho,hf,he]
 exact h
theorem Nh{es:List (D×D×Nat)}(hb:∀(i:Nat) e,es[i]? =some e->e.2.2=i){i:Nat}(hi:i<es.length):es.findIdx? (fun e=>(e.2.2:Int)==(i:Int))=some i:=by
 rw[List.findIdx?_eq_some_iff_getElem]
 refine⟨hi,?_,fun j hj=>?_⟩
 ·have:=hb i _ (A6F hi)
  simp[this]
 ·have hj':j<es.length:=by omega
  have:=hb j _ (A6F hj')
  simp[this];omega
theorem MpS.set{ps:List Nm}{es:List (D×D×Nat)}{clk i b:Nat}{k v:D}(h:MpS ps es clk)(he:es[i]? =some (k,v,b))(n:Int):MpS ps (es.set i (k,.int .i64 n,b)) clk:=by
 refine⟨?_,fun x hx=>?_,fun j e hj=>?_,by rw[List.length_set];exact h.c⟩
 ·rw[<- h.k]
  apply A7y
  intro j
  simp only[A6X]
  by_cases e:i=j
  ·subst e
   have:i<es.length:=by
    rcases A65 i es.length with h'|h'
    ·exact h'
    ·rw[A6I h'] at he;cases he
   rw[A66 this,he];rfl
  ·rw[A7l e]
 ·rcases List.mem_or_eq_of_mem_set hx with h'|rfl
  ·exact h.v x h'
  ·exact⟨n,rfl⟩
 ·by_cases e':i=j
  ·subst e'
   have:i<es.length:=by
    rcases A65 i es.length with h'|h'
    ·exact h'
    ·rw[A6I h'] at he;cases he
   rw[A66 this] at hj
   injection hj with hj;subst hj
   exact h.b i (k,v,b) he
  ·rw[A7l e'] at hj
   exact h.b j e hj
theorem MpS.push{ps:List Nm}{es:List (D×D×Nat)}{clk:Nat}(h:MpS ps es clk)(p:Nm)(n:Int):MpS (ps++[p]) (es++[(Ax p,.int .i64 n,clk)]) (clk+1):=by
 refine⟨by simp[h.k],fun x hx=>?_,fun j e hj=>?_,by simp[h.c]⟩
 ·rcases A64.1 hx with h'|h'
  ·exact h.v x h'
  ·rw[A7r] at h';subst h';exact⟨n,rfl⟩
 ·rcases A65 j es.length with h'|h'
  ·rw[A61 h'] at hj;exact h.b j e hj
  ·rw[A6Y h'] at hj
   have hj':=h.c
   rcases Nat.eq_zero_or_pos (j - es.length) with h0|h0
   ·rw[h0] at hj
    simp only[List.getElem?_cons_zero,Option.some.injEq] at hj
    subst hj
    simp only;omega
   ·rw[A6I (by simp;omega)] at hj;cases hj
theorem N3{p:Nm}{v:D}{b:Nat}:∀{ps:List Nm} {es:List (D×D×Nat)} (i:Nat),es.map (fun e=>e.1)=ps.map Ax->p ∉ ps->fnd kSS (Ax p) (es++[(Ax p,v,b)]) i=some (some (i+es.length,v,b))
 | [],[],i,_,_=>by simp[fnd,IB]
 | [],_::_,_,h,_=>by simp at h
 | _::_,[],_,h,_=>by simp at h
 | q::ps,(k,v',b')::es,i,h,hp=>by
  simp only[A6M,A74.injEq] at h
  simp only[A6J,not_or] at hp
  have hk:k=Ax q:=h.1
  have e:(p==q)=false:=by simpa using hp.1
  simp only[A6P,fnd,hk,IB,e]
  rw[N3 (i+1) h.2 hp.2,A6D,show i+1+es.length=i+(es.length+1) by omega]
theorem M9{B:Hp}{o clk:Nat}{es:List (D×D×Nat)}{p:Nm}(ho:Vp p)(hB:B[o]? =some (.map es clk)){r:Option (Nat×D×Nat)}(hf:fnd kSS (Ax p) es 0=some r):
  Gv B (true,[.str,.str]) (.int .i64 0) false (.mp o) (.agg [.str p.1,.str p.2])=some (match r with|some (_,v,_)=>v|none=>.int .i64 0):=by
 have h1:=MV ho
 have hf:fnd (true,[.str,.str]) (.agg [.str p.1,.str p.2]) es 0=some r:=hf
 have h1:kok (true,[.str,.str]) (.agg [.str p.1,.str p.2])=true:=h1
 unfold Gv
 rw[if_pos h1]
 simp only[E0,hB,hf]
 cases r with
 | none=>rfl
 | some x=>rfl
theorem TH{H B:Hp}(h:Ext H B){o:Nat}(ho:H.length<=o)(y:Ob):Ext H (B.set o y):=by
 obtain⟨L,rfl⟩:=h
 exact⟨L.set (o - H.length) y,by rw[List.set_append_right _ _ ho]⟩
def ddS(acc:List Nm)(x:Nm):List Nm:=if acc.contains x then acc else acc++[x]
def ddN(l:List Nm):List Nm:=l.foldl ddS []
theorem NX{l:List Nm}{i:Nat}{x:Nm}(h:l[i]? =some x):ddN (l.take (i+1))=ddS (ddN (l.take i)) x:=by
 unfold ddN
 rw[A6W,h,A7N];rfl
theorem Ot:∀(l acc:List Nm),(l.foldl ddS acc).length<=acc.length+l.length
 | [],acc=>by simp
 | x::l,acc=>by
  have:=Ot l (ddS acc x)
  have h2:(ddS acc x).length<=acc.length+1:=by unfold ddS;split<;>simp
  rw[A7p,A6D];omega
end GP
namespace GP
open Go
set_option maxRecDepth 100000
variable {P:Program} [HasG P]
open Rd O
def twC(sz:Nat)(z:List D):C :=
 (.seq (.reg [⟨(some 4),none,.mv (k (.bool false))⟩])
 (.seq (.reg [⟨(some 8),none,.mkmap⟩,⟨(some 5),none,.mv (t 8)⟩])
 (.seq (.seq (.reg [⟨(some 9),none,.mv (t 0)⟩,⟨(some 10),none,.len (t 9)⟩,⟨(some 11),none,.mv (k (.int .i64 0))⟩])
 (.block 0
 (.loop
 (.seq (.reg [⟨(some 12),none,.bin .lss (t 11) (t 10)⟩])
 (.seq (.cond (t 12)
 .skip
 (.exit 0))
 (.seq (.block 1
 (.seq (.reg [⟨(some 13),none,.iaddr sz (t 9) (t 11)⟩,⟨(some 14),none,.load true sz (t 13)⟩,⟨(some 7),none,.alloc z⟩,⟨none,none,.store sz (t 7) (t 14)⟩])
 (.draw 0 [(⟨(some 15),none,.mv (t 5)⟩,[]),(⟨(some 16),none,.mv (t 1)⟩,[]),(⟨(some 17),none,.load true sz (t 7)⟩,[]),(⟨(some 18),none,.pcall (t 16) [(t 17)]⟩,[]),(⟨(some 19),none,.mget (true,[.str,.str]) (.int .i64 0) false (t 15) (t 18)⟩,[]),(⟨(some 20),none,.bin .add (t 19) (k (.int .i64 1))⟩,[]),(⟨(some 21),none,.ment (true,[.str,.str]) (.int .i64 0) (t 15) (t 18)⟩,[⟨(some 19),none,.mget (true,[.str,.str]) (.int .i64 0) false (t 15) (t 18)⟩]),(⟨(some 22),none,.ext 1 (t 21)⟩,[]),(⟨none,none,.mst (t 15) (t 22) (t 20)⟩,[])])))
 (.reg [⟨(some 23),none,.bin .add (t 11) (k (.int .i64 1))⟩,⟨(some 11),none,.mv (t 23)⟩])))))))
 (.seq (.reg [⟨(some 24),none,.mv (t 5)⟩,⟨(some 25),none,.mlen (t 24)⟩,⟨(some 26),none,.mv (t 0)⟩,⟨(some 27),none,.len (t 26)⟩,⟨(some 28),none,.bin .neq (t 25) (t 27)⟩,⟨(some 4),none,.mv (t 28)⟩])
 .ret))))
def twB(l:List Nm):Bool:=(((ddN l).length:Int) !=(l.length:Int))
structure isElN(sz:Nat)(φn:List D->Option D)(nm:D->Nm)(x:D):Prop where
 n:φn [x]=some (Ax (nm x))
 o:Vp (nm x)
 e:x.erase=x
 c1:x.cells.length=sz
 c2:x.cells.take sz=x.cells
 c3:D.agg x.cells=x
 c4:x.okc=true
open Classical in
noncomputable def LC(sz:Nat)(g:FuncId)(φn:List D->Option D)(nm:D->Nm):List D->Option D
 | [l,.fn f [] []]=>if f=g/\∃m xs,l=aV m xs/\(∀x∈xs,isElN sz φn nm x)/\xs.length<=2^40 then some (.bool (twB ((elems l).map nm))) else none
 | _=>none
theorem WP{N g:FuncId}{sz:Nat}{z:List D}{φn:List D->Option D}{nm:D->Nm}(hz:z.length=sz)(hg:AQ P g φn)(hf:Fn P N 29 [.inl 4] (twC sz z)):AQ P N (LC sz g φn nm):=by
 have hX:=AR [(g,φn)]
 refine AN (l:=[(g,φn)]) (.cons hg .nil) hf fun args r h=>?_
 unfold LC at h
 split at h
 ·rename_i l f
  split at h
  ·rename_i hc
   injection h with h;subst h
   obtain⟨rfl,m,xs,rfl,hxs,hlen⟩:=hc
   rw[AU]
   refine⟨by simp,by simp[D.cl],fun H T=>?_⟩
   simp +contextual only[twC,go_sem]
   refine Bm xs (fun i s=>s.t 0=aV m xs/\s.t 1= .fn f [] []/\s.t 5= .mp H.length/\s.t 9=aV m xs/\s.t 10= .int .i64 (xs.length:Int)/\s.t 11= .int .i64 (i:Int)/\(∃es clk,s.H[H.length]? =some (.map es clk)/\MpS (ddN ((xs.take i).map nm)) es clk)/\Ext H s.H/\s.T=T) hX ⟨by simp[upd,Ae],by simp[upd,Ae],by simp[upd],by simp[upd,Ae],by simp[upd],by simp[upd],⟨[],0,by simp,MpS.nil⟩,⟨_,rfl⟩,rfl⟩ ?_ ?_
   ·rintro i x ⟨t,B,U⟩ hx hm hi ⟨t0,t1,t5,t9,t10,t11,⟨es,clk,hB,hM⟩,hE,rfl⟩
    simp only at t0 t1 t5 t9 t10 t11 hB hE
    have d1:decide ((i:Int)<xs.length)=true:=by simpa using hi
    obtain⟨pn,on,ex,c1,c2,c3,c4⟩:=hxs x hm
    have hxn:(xs.map nm)[i]? =some (nm x):=by rw[A6X,hx];rfl
    have nx:=NX hxn
    rw[<- A7Z,← A7Z] at nx
    rw[nx]
    clear nx hxn
    obtain⟨ps,hps⟩:∃z,ddN ((xs.take i).map nm)=z:=⟨_,rfl⟩
    rw[hps] at hM ⊢
    obtain⟨p,hp⟩:∃z,nm x=z:=⟨_,rfl⟩
    rw[hp] at pn on ⊢
    clear hps hp
    have hzd:List.drop sz z=[]:=List.drop_eq_nil_of_le (by omega)
    have hle:sz<=z.length:=by omega
    have pn':φn [x]=some (.agg [.str p.1,.str p.2]):=pn
    have hpu0:pu (D.int IntKind.i64 0)=true:=rfl
    have hlt:H.length<B.length:=by
     rcases A65 H.length B.length with h'|h'
     ·exact h'
     ·rw[A6I h'] at hB;cases hB
    have hBL:(B++[Ob.row x.cells])[H.length]? =some (.map es clk):=by rw[A61 hlt];exact hB
    have w1:=J5 i (by omega)
    have hE2:∀y,Ext H ((B++[Ob.row x.cells]).set H.length y):=fun y=>TH (hE.app _) (A67 _) y
    have hset:∀y y',((B++[Ob.row x.cells]).set H.length y).set H.length y'=(B++[Ob.row x.cells]).set H.length y':=fun y y'=>by simp
    have hget:∀y,((B++[Ob.row x.cells]).set H.length y)[H.length]? =some y:=fun y=>A66 (by rw[A6C];omega)
    by_cases hp:p∈ps
    ·obtain⟨j,v,b,hf,hj⟩:=Ph 0 hM.k hp
     obtain⟨n,hv⟩:=hM.v _ (A7a hj)
     simp only at hv
     subst hv
     have hmg:=M9 on hBL hf
     simp only at hmg
     have hbj:=hM.b j _ hj
     simp only at hbj
     subst hbj
     have hjl:b<es.length:=by
      rcases A65 b es.length with h'|h'
      ·exact h'
      ·rw[A6I h'] at hj;cases hj
     have hdd:ddS ps p=ps:=by
      unfold ddS
      rw[if_pos (by simpa using hp)]
     rw[hdd]
     simp +contextual only[t0,t1,t5,t9,t10,t11,d1,hx,ex,c1,c2,c3,c4,hzd,hle,A7X,A6L,A7n,pn',eq_self,hpu0,hmg,go_sem]
     refine Ny (MV on) rfl hBL hf ?_
     simp only[A6V]
     have hj':es[b]? =some (D.agg [.str p.1,.str p.2],.int .i64 n,b):=hj
     rw[VM hj',VM hBL]
     simp +contextual only[hpu0,hmg,go_sem]
     refine PX rfl hBL (Nh hM.b hjl) hj ?_
     simp +contextual only[t0,t1,t5,t9,t10,t11,w1,go_sem]
     exact⟨⟨_,_,hget _,hM.set hj _⟩,hE2 _⟩
    ·have hf:=Sn 0 hM.k hp
     have hmg:=M9 on hBL hf
     simp only at hmg
     have hdd:ddS ps p=ps++[p]:=by
      unfold ddS
      rw[if_neg (by simpa using hp)]
     rw[hdd]
     have hM2:=hM.push p 0
     have hf2:=N3 (p:=p) (v:=.int .i64 0) (b:=clk) 0 hM.k hp
     have hmg2:=M9 on (hget (.map (es++[(Ax p,.int .i64 0,clk)]) (clk+1))) hf2
     simp only at hmg2
     have hcl:=hM.c
     have hidx:=Nh hM2.b (i:=clk) (by simp;omega)
     have hlast:(es++[(Ax p,D.int .i64 0,clk)])[clk]? =some (Ax p,.int .i64 0,clk):=by
      rw[A6Y (by omega),hcl];simp
     simp +contextual only[t0,t1,t5,t9,t10,t11,d1,hx,ex,c1,c2,c3,c4,hzd,hle,A7X,A6L,A7n,pn',eq_self,hpu0,hmg,go_sem]
     refine Ny (MV on) rfl hBL hf ?_
     simp only
     obtain⟨B2,hB2⟩:∃z,(B++[Ob.row x.cells]).set H.length (.map (es++[(D.agg [.str p.1,.str p.2],.int .i64 0,clk)]) (clk+1))=z:=⟨_,rfl⟩
     have g2:=hget (.map (es++[(Ax p,.int .i64 0,clk)]) (clk+1))
     have hB2':(B++[Ob.row x.cells]).set H.length (.map (es++[(Ax p,.int .i64 0,clk)]) (clk+1))=B2:=hB2
     rw[hB2'] at hmg2 g2
     have e2:∀y,Ext H (B2.set H.length y):=fun y=>by rw[<- hB2,hset];exact hE2 y
     have s2:∀y,(B2.set H.length y)[H.length]? =some y:=fun y=>by rw[<- hB2,hset];exact hget y
     rw[hB2]
     simp +contextual only[hpu0,hmg2,go_sem]
     refine PX rfl g2 hidx hlast ?_
     simp +contextual only[t0,t1,t5,t9,t10,t11,w1,go_sem]
     exact⟨⟨_,_,s2 _,hM2.set hlast _⟩,e2 _⟩
   ·rintro⟨t,B,U⟩ ⟨t0,t1,t5,t9,t10,t11,⟨es,clk,hB,hM⟩,hE,rfl⟩
    simp only at t0 t1 t5 t9 t10 t11 hB hE
    have d1:decide ((xs.length:Int)<xs.length)=false:=by simp
    rw[A6G] at hM
    have hl:es.length=(ddN (xs.map nm)).length:=by
     have:=congrArg List.length hM.k
     simpa using this
    have he:E0 B (.mp H.length)=some es:=by simp only[E0,hB]
    unfold twB
    rw[<- hl,A6H]
    simp +contextual only[t0,t1,t5,t9,t10,t11,d1,he,Option.map_some,Ad hE (AY.refl _),go_sem]
  ·cases h
 ·cases h
end GP
namespace GP
open Go Go.Proofs
open Rd O
set_option maxRecDepth 100000
theorem Wm:Fn Tryz.prog 187 29 [.inl 4] (twC 4 [(.str []),(.str []),(.int .i64 0),(.bool false)]):=AP Tryz.func187 Tryz.ntmps187 Hq0
theorem W4:Fn Tryz.prog 189 29 [.inl 4] (twC 13 [(.str []),(.str []),(.str []),(.bool false),(.str []),(.int .i64 0),(.int .i64 0),(.str []),.nils,(.str []),(.str []),.nils,.nils]):=AP Tryz.func189 Tryz.ntmps189 Hq0
theorem We:Fn Tryz.prog 191 29 [.inl 4] (twC 13 [(.bool false),(.str []),(.bool false),(.str []),(.int .i64 0),(.int .i64 0),(.str []),.nils,(.str []),(.str []),.nils,.nils,.nils]):=AP Tryz.func191 Tryz.ntmps191 Hq0
end GP
namespace GP
open Go Go.Proofs
set_option maxRecDepth 100000
def nmF(f:D):Nm:=(IV f,F6 f)
noncomputable def nmP(p:D):Nm:=(pNm p,[])
noncomputable def nmR(r:D):Nm:=(rNm r,[])
open Classical in
noncomputable def Lp:List D->Option D
 | [f]=>if isF f then some (Ax (nmF f)) else none
 | _=>none
open Classical in
noncomputable def La:List D->Option D
 | [p]=>if Fh AK p then some (Ax (nmP p)) else none
 | _=>none
open Classical in
noncomputable def Lo:List D->Option D
 | [r]=>if isR AK r then some (Ax (nmR r)) else none
 | _=>none
theorem Xq:AQ Tryz.prog 188 Lp:=by
 refine AN (l:=[]) .nil XK fun args r h=>?_
 unfold Lp at h
 split at h
 ·rename_i f
  split at h
  ·rename_i hc
   injection h with h;subst h
   refine⟨by simp,by simp[Ax,D.cl,D.clL],fun H T=>?_⟩
   have ef:=jJ hc
   obtain⟨w,n,k,b,rfl,_⟩:=hc
   have e1:Ax (nmF (mkF w n k b))= .agg [.str w,.str n]:=rfl
   rw[e1]
   simp only[mkF] at ef
   simp +contextual only[Xe,mkF,ef,go_sem]
  ·cases h
 ·cases h
theorem ZT:AQ Tryz.prog 190 La:=by
 refine AN (l:=[]) .nil A1i fun args r h=>?_
 unfold La at h
 split at h
 ·rename_i p
  split at h
  ·rename_i hc
   injection h with h;subst h
   refine⟨by simp,by simp[Ax,D.cl,D.clL],fun H T=>?_⟩
   have ef:=oT hc
   obtain⟨nm,bn,us',hf,e,mm,rs,rfl,_⟩:=hc
   have e1:Ax (nmP (mkP nm bn us' hf e mm rs))= .agg [.str nm,.str []]:=by simp[Ax,nmP,yH]
   rw[e1]
   simp only[mkP] at ef
   simp +contextual only[XT,mkP,ef,go_sem]
  ·cases h
 ·cases h
theorem Ys:AQ Tryz.prog 192 Lo:=by
 refine AN (l:=[]) .nil A0m fun args r h=>?_
 unfold Lo at h
 split at h
 ·rename_i p
  split at h
  ·rename_i hc
   injection h with h;subst h
   refine⟨by simp,by simp[Ax,D.cl,D.clL],fun H T=>?_⟩
   have ef:=sL hc
   obtain⟨pm,hi,nm,e,m,m',du,ad,rfl,_⟩:=hc
   have e1:Ax (nmR (mkR pm hi nm e m m' du ad))= .agg [.str nm,.str []]:=by simp[Ax,nmR,yI]
   rw[e1]
   obtain⟨DU,hDU⟩:∃z,aV m (du.map D.str)=z:=⟨_,rfl⟩
   obtain⟨AD,hAD⟩:∃z,aV m' (ad.map D.str)=z:=⟨_,rfl⟩
   simp only[mkR,hDU,hAD] at ef
   simp +contextual only[YK,mkR,hDU,hAD,ef,go_sem]
  ·cases h
 ·cases h
theorem A0Q:AQ Tryz.prog 187 (LC 4 188 Lp nmF):=WP (by rfl) Xq Wm
theorem Yp:AQ Tryz.prog 189 (LC 13 190 La nmP):=WP (by rfl) ZT W4
theorem A2o:AQ Tryz.prog 191 (LC 13 192 Lo nmR):=WP (by rfl) Ys We
theorem elF{f:D}(h:isF f):isElN 4 Lp nmF f:=by
 obtain⟨q1,q2,q3,q4⟩:=Qv h
 refine⟨by simp only[Lp];rw[if_pos h],?_,jJ h,q1,q2,q3,q4⟩
 obtain⟨w,n,k,b,rfl,h1,h2,_⟩:=h
 show w.length<2^62/\n.length<2^62
 omega
theorem elP{p:D}(h:Fh AK p):isElN 13 La nmP p:=by
 obtain⟨q1,q2,q3,q4⟩:=Jy h
 refine⟨by simp only[La];rw[if_pos h],?_,oT h,q1,q2,q3,q4⟩
 obtain⟨nm,bn,us',hf,e,mm,rs,rfl,_,h1,_⟩:=h
 show(pNm (mkP nm bn us' hf e mm rs)).length<2^62/\([]:List UInt8).length<2^62
 rw[yH];simp;omega
theorem elR{r:D}(h:isR AK r):isElN 13 Lo nmR r:=by
 obtain⟨q1,q2,q3,q4⟩:=J1 h
 refine⟨by simp only[Lo];rw[if_pos h],?_,sL h,q1,q2,q3,q4⟩
 obtain⟨pm,hi,nm,e,m,m',du,ad,rfl,_,h1,_⟩:=h
 show(rNm (mkR pm hi nm e m m' du ad)).length<2^62/\([]:List UInt8).length<2^62
 rw[yI];simp;omega
theorem Sf{sz:Nat}{g:FuncId}{φn:List D->Option D}{nm:D->Nm}{m:Bool}{xs:List D}(h:∀x∈xs,isElN sz φn nm x)(hl:xs.length<=2^40):LC sz g φn nm [aV m xs,.fn g [] []]=some (.bool (twB (xs.map nm))):=by
 simp only[LC]
 rw[if_pos ⟨rfl,m,xs,rfl,h,hl⟩,AU]
structure ckD2(d:D):Prop where
 s:Bi AK d
 f:(dFs d).length<=2^20
 p:(dPs d).length<=2^20
 r:∀p∈dPs d,(pRs p).length<=2^20
noncomputable def z6(d:D):Bool:=twB ((dFs d).map nmF)||(twB ((dPs d).map nmP)||(dPs d).any fun p=>twB ((pRs p).map nmR))
open Classical in
noncomputable def Hx:List D->Option D
 | [d]=>if ckD2 d then some (.int .i64 (if z6 d then 9 else 0)) else none
 | _=>none
noncomputable abbrev Uv:Fs:=[(187,LC 4 188 Lp nmF),(189,LC 13 190 La nmP),(191,LC 13 192 Lo nmR)]
theorem A1H:AQ Tryz.prog 153 Hx:=by
 have hX:=AR Uv
 refine AN (l:=Uv) (.cons A0Q (.cons Yp (.cons A2o .nil))) Zl fun args r h=>?_
 unfold Hx at h
 split at h
 ·rename_i d
  split at h
  ·rename_i hd
   injection h with h;subst h
   refine⟨by simp,by simp[D.cl],fun H T=>?_⟩
   obtain⟨hs,h1,h2,h3⟩:=hd
   have ed:=Az hs
   obtain⟨m,fs,us,m',ps,rfl,k1,k2,k3,k4,k5⟩:=hs
   simp only[tU,lA] at h1 h2 h3
   simp only[z6,tU,lA]
   simp only[Ah] at ed
   have p1:=Sf (g:=188) (m:=m) (fun x hx=>elF (k4 x hx)) (by omega)
   have p2:=Sf (g:=190) (m:=m') (fun x hx=>elP (k5 x hx)) (by omega)
   have ef:(aV m fs).erase=aV m fs:=by rw[Ag,bF fun x hx=>jJ (k4 x hx)]
   have ep:(aV m' ps).erase=aV m' ps:=by rw[Ag,bF fun x hx=>oT (k5 x hx)]
   obtain⟨b1,hb1⟩:∃z,twB (fs.map nmF)=z:=⟨_,rfl⟩
   obtain⟨b2,hb2⟩:∃z,twB (ps.map nmP)=z:=⟨_,rfl⟩
   rw[hb1] at p1 ⊢
   rw[hb2] at p2 ⊢
   cases b1 with
   | true=>simp +contextual only[U3,Ah,ed,ef,p1,go_sem]
   | false =>
   cases b2 with
   | true=>simp +contextual only[U3,Ah,ed,ef,ep,p1,p2,go_sem]
   | false =>
   simp +contextual only[U3,Ah,ed,ef,ep,p1,p2,go_sem]
   have hall:(ps.any fun p=>twB ((pRs p).map nmR))= !(ps.all fun p=>!(twB ((pRs p).map nmR))):=by
    rw[List.not_all_eq_any_not];simp
   rw[hall]
   refine Lg ps (fun p=>!(twB ((pRs p).map nmR))) 16 (fun s=>s.t 1= .ptr H.length 0/\s.t 14=aV m' ps/\s.t 15= .int .i64 (ps.length:Int)/\Ext H s.H/\s.T=T) hX ⟨by simp[upd],by simp[upd],by simp[upd],⟨_,rfl⟩,rfl⟩ (by simp[upd]) ?_ ?_
   ·rintro i x ⟨t,B,U⟩ b hx hm hi ⟨t1,t14,t15,hE,rfl⟩ t16 hb hno
    simp only at t1 t14 t15 t16 hE
    have d1:decide ((i:Int)<ps.length)=true:=by simpa using hi
    have hxP:=k5 x hm
    have exP:=oT hxP
    have hr:=h3 x hm
    obtain⟨nm,bn,us',hf,e,mm,rs,rfl,he,l1,l2,l3,l4,l5⟩:=hxP
    rw[iQ] at hr hb
    have p3:=Sf (g:=192) (m:=mm) (fun y hy=>elR (l5 y hy)) (by omega)
    have er:(aV mm rs).erase=aV mm rs:=by rw[Ag,bF fun y hy=>sL (l5 y hy)]
    obtain⟨b3,hb3⟩:∃z,twB (rs.map nmR)=z:=⟨_,rfl⟩
    rw[hb3] at p3 hb
    subst hb
    cases b3 with
    | true =>
     have hno:=hno rfl
     simp +contextual only[t1,t14,t15,t16,d1,hx,mkP,er,p3,hno,A7c,AS hE (AY.refl _),go_sem]
    | false =>
     simp +contextual only[t1,t14,t15,t16,d1,hx,mkP,er,p3,AJ i (by omega),A7c,go_sem]
     exact hE.app _
   ·rintro⟨t,B,U⟩ ⟨t1,t14,t15,hE,rfl⟩ t16 hal
    simp only at t1 t14 t15 t16 hE
    have d1:decide ((ps.length:Int)<ps.length)=false:=by simp
    rw[hal]
    simp +contextual only[t1,t14,t15,t16,d1,Ad hE (AY.refl _),go_sem]
  ·cases h
 ·cases h
end GP
namespace GP
open Go Go.Proofs
set_option maxRecDepth 100000
def Cu:List (List UInt8):=[[100,101,110,121,95,111,118,101,114,114,105,100,101,115],[112,101,114,109,105,116,95,111,118,101,114,114,105,100,101,115],[102,105,114,115,116],[111,110,108,121,95,111,110,101],[100,101,110,121,95,117,110,108,101,115,115,95,112,101,114,109,105,116],[112,101,114,109,105,116,95,117,110,108,101,115,115,95,100,101,110,121]]
def DR:List D->Option D
 | []=>some (.sl none (Cu.map .str))
 | _=>none
theorem A0Z:AQ Tryz.prog 98 DR:=by
 refine AN (l:=[]) .nil A5d fun args r h=>?_
 unfold DR at h
 split at h
 ·injection h with h;subst h
  refine⟨by simp,by simp[D.cl,D.clL,Cu],fun H T=>?_⟩
  simp +contextual only[c98,Cu,go_sem]
 ·cases h
def DE(s:List UInt8):Bool:=Cu.any fun x=>s==x
theorem WQ(s:List UInt8):CR [.sl none (Cu.map .str),.str s]=some (.bool (DE s)):=by
 have hL:G6 NM (.sl none (Cu.map D.str)):=⟨false,Cu.map D.str,rfl,by decide,fun x hx=>by
  obtain⟨y,hy,rfl⟩:=A68.1 hx
  have key:∀y∈Cu,y.length<=2^47:=by decide
  exact⟨y,rfl,key y hy⟩⟩
 simp only[CR]
 rw[if_pos hL]
 have e:elems (D.sl none (Cu.map D.str))=Cu.map D.str:=rfl
 rw[e,List.any_map]
 rfl
def EC(ps:List D):Nat:=(ps.map fun p=>(pRs p).length).sum
def J7(d:D):Int:=if !(DE (dUs d)&&(dPs d).all fun p=>DE (pUs p)) then 8 else if decide (24<(EC (dPs d):Int)) then 13 else 0
open Classical in
noncomputable def Kq:List D->Option D
 | [d]=>if ckD2 d then some (.int .i64 (J7 d)) else none
 | _=>none
theorem PV{ps:List D}(h:∀p∈ps,(pRs p).length<=2^20):∀i,EC (ps.take i)<=i*1048576:=by
 intro i
 induction ps generalizing i with
 | nil=>simp[EC]
 | cons p ps ih =>
  cases i with
  | zero=>simp[EC]
  | succ i =>
   have h1:=ih (fun q hq=>h q (by simp[hq])) i
   have h2:=h p (by simp)
   have:EC ((p::ps).take (i+1))=(pRs p).length+EC (ps.take i):=by simp[EC]
   rw[this];omega
theorem YZ:AQ Tryz.prog 154 Kq:=by
 have hX:=AR [(98,DR),(47,CR)]
 refine AN (l:=[(98,DR),(47,CR)]) (.cons A0Z (.cons SS .nil)) Z7 fun args r h=>?_
 unfold Kq at h
 split at h
 ·rename_i d
  split at h
  ·rename_i hd
   injection h with h;subst h
   refine⟨by simp,by simp[D.cl],fun H T=>?_⟩
   obtain⟨hs,h1,h2,h3⟩:=hd
   have ed:=Az hs
   obtain⟨m,fs,us,m',ps,rfl,k1,k2,k3,k4,k5⟩:=hs
   simp only[tU,lA] at h1 h2 h3
   simp only[J7,xU,lA]
   simp only[Ah] at ed
   have pu:DR []=some (.sl none (Cu.map .str)):=rfl
   have pc:=WQ
   have eU:(D.sl none (Cu.map .str)).erase= .sl none (Cu.map .str):=by simp[Cu,D.erase,D.eraseL]
   obtain⟨UL,hUL⟩:∃z,D.sl none (Cu.map .str)=z:=⟨_,rfl⟩
   rw[hUL] at pu
   simp only[hUL] at pc eU
   simp +contextual only[A16,Ah,ed,pu,eU,pc us,go_sem]
   refine Bm ps (fun i s=>s.t 12=aV m' ps/\s.t 13= .int .i64 (ps.length:Int)/\s.t 14= .int .i64 (i:Int)/\s.t 4= .bool (DE us&&(ps.take i).all fun p=>DE (pUs p))/\s.t 3= .int .i64 (EC (ps.take i):Int)/\Ext H s.H/\s.T=T) hX ⟨by simp[upd],by simp[upd],by simp[upd],by simp[upd],by simp[upd,EC],⟨_,rfl⟩,rfl⟩ ?_ ?_
   ·rintro i x ⟨t,B,U⟩ hx hm hi ⟨t12,t13,t14,t4,t3,hE,rfl⟩
    simp only at t12 t13 t14 t4 t3 hE
    have d1:decide ((i:Int)<ps.length)=true:=by simpa using hi
    have hr:=h3 x hm
    have hs:=PV h3 i
    have tk:ps.take (i+1)=ps.take i++[x]:=by rw[A6W,hx];rfl
    have ts:EC (ps.take (i+1))=EC (ps.take i)+(pRs x).length:=by rw[tk];simp[EC]
    have ta:(ps.take (i+1)).all (fun p=>DE (pUs p))=((ps.take i).all (fun p=>DE (pUs p))&&DE (pUs x)):=by rw[tk];simp
    rw[ts,ta,← A7Y]
    clear tk ts ta
    obtain⟨S,hS⟩:∃z,EC (ps.take i)=z:=⟨_,rfl⟩
    obtain⟨b,hb⟩:∃z,(DE us&&(ps.take i).all fun p=>DE (pUs p))=z:=⟨_,rfl⟩
    rw[hS] at hs t3 ⊢
    rw[hb] at t4 ⊢
    obtain⟨nm,bn,us',hf,e,mm,rs,rfl,he,l1,l2,l3,l4,l5⟩:=k5 x hm
    rw[iQ] at hr ⊢
    rw[xQ]
    have w2:IntKind.i64.wrap ((S:Int)+rs.length)=((S+rs.length:Nat):Int):=by rw[<- A7U];exact Hu (by omega) (by omega)
    cases b with
    | true =>
     simp +contextual only[t12,t13,t14,t4,t3,d1,hx,mkP,pu,eU,pc us',AJ i (by omega),w2,go_sem]
     exact hE.app _
    | false =>
     simp +contextual only[t12,t13,t14,t4,t3,d1,hx,mkP,pu,eU,pc us',AJ i (by omega),w2,go_sem]
     exact hE.app _
   ·rintro⟨t,B,U⟩ ⟨t12,t13,t14,t4,t3,hE,rfl⟩
    simp only at t12 t13 t14 t4 t3 hE
    have d1:decide ((ps.length:Int)<ps.length)=false:=by simp
    rw[A6G] at t4 t3
    obtain⟨b,hb⟩:∃z,(DE us&&ps.all fun p=>DE (pUs p))=z:=⟨_,rfl⟩
    rw[hb] at t4 ⊢
    cases b with
    | false=>simp +contextual only[t12,t13,t14,t4,t3,d1,A7c,Ad hE (AY.refl _),go_sem]
    | true =>
     rcases tf (decide (24<(EC ps:Int))) with g|g<;>simp +contextual only[t12,t13,t14,t4,t3,d1,A69,g,Ad hE (AY.refl _),go_sem]
  ·cases h
 ·cases h
def qB(fs:List D)(h:Bool)(e:D):Int:=if !h then 0 else if((CV AK fs e).2==0)&&((CV AK fs e).1 !=1) then 6 else(CV AK fs e).2
open Classical in
noncomputable def IL:List D->Option D
 | [d,.bool h,e]=>if Bi AK d/\isE AK e then some (.int .i64 (qB (dFs d) h e)) else none
 | _=>none
theorem A0F:AQ Tryz.prog 155 IL:=by
 refine AN (l:=[(97,FX AK)]) (.cons (WR AK) .nil) Xu fun args r h=>?_
 unfold IL at h
 split at h
 ·rename_i d hb e
  split at h
  ·rename_i hc
   injection h with h;subst h
   refine⟨by simp,by simp[D.cl],fun H T=>?_⟩
   obtain⟨hd,he⟩:=hc
   have ed:=Az hd
   have ee:=fL he
   obtain⟨c1,c2,c3,c4⟩:=BT he
   obtain⟨m,fs,us,m',ps,rfl,k1,k2,k3,k4,k5⟩:=hd
   simp only[tU]
   simp only[Ah] at ed
   have ef:(aV m fs).erase=aV m fs:=by rw[Ag,bF fun x h=>jJ (k4 x h)]
   have pt:FX AK [aV m fs,e]=some (C4 (CV AK fs e)):=by
    simp only[FX];rw[if_pos ⟨⟨m,fs,rfl,k1,k4⟩,he⟩,AU]
   unfold qB
   obtain⟨⟨a,f⟩,htx⟩:∃z,CV AK fs e=z:=⟨_,rfl⟩
   rw[htx] at pt ⊢
   cases hb with
   | false=>simp +contextual only[Tc,Ah,ed,ee,c1,c2,c3,c4,A7c,go_sem]
   | true =>
    rcases tf (f==0) with g|g
    ·rcases tf (a !=1) with g2|g2<;>simp +contextual only[Tc,Ah,ed,ef,ee,c1,c2,c3,c4,pt,C4,g,g2,A69,A7m,A60,A7t,go_sem]
    ·simp +contextual only[Tc,Ah,ed,ef,ee,c1,c2,c3,c4,pt,C4,g,A69,A7w,go_sem]
  ·cases h
 ·cases h
end GP
namespace GP
open Go Go.Proofs
set_option maxRecDepth 100000
def part(e:D)(i:Nat):D:=(eps e).getD i .top
theorem Su{n:Nat}{e:D}(he:isE (n+1) e){i:Nat}(hi:i<(eps e).length):isE n (part e i)/\part e i∈eps e:=by
 obtain⟨op,k,j,t,nl,l,who,name,m,ps,rfl,_,_,_,_,_,h6⟩:=he
 rw[uG] at hi
 have e1:part (mkE op k j t nl l who name m ps) i=ps[i]:=by simp[part,uG,hi]
 rw[e1,uG]
 exact⟨h6 _ (A7R hi),A7R hi⟩
def WL(v:D):Bool:=bS v&&(vk v !=0)&& !((vk v==5)&&(((vl v).length:Int)==0))
def mkW(op:List UInt8)(a b t:Int):D:=.agg [.str op,.int .i64 a,.int .i64 b,.int .i64 t]
def wa:D->Int
 | .agg [_,.int _ k,_,_]=>k
 | _=>0
def wb:D->Int
 | .agg [_,_,.int _ k,_]=>k
 | _=>0
def wt:D->Int
 | .agg [_,_,_,.int _ k]=>k
 | _=>0
def Gq:List (List UInt8×Int×Int×Int):=[
 ([110,111,116],1,0,1),([110,101,103],2,0,2),([97,110,100],1,1,1),([111,114],1,1,1),([43],2,2,2),([45],2,2,2),([42],2,2,2),([43],4,2,4),([45],4,2,4),([45],4,4,2),
 ([115,105,122,101],11,0,2),([105,110],1,11,1),([61,61],1,1,1),([33,61],1,1,1),([61,61],11,11,1),([33,61],11,11,1),
 ([115,105,122,101],12,0,2),([105,110],2,12,1),([61,61],2,2,1),([33,61],2,2,1),([61,61],12,12,1),([33,61],12,12,1),
 ([115,105,122,101],13,0,2),([105,110],3,13,1),([61,61],3,3,1),([33,61],3,3,1),([61,61],13,13,1),([33,61],13,13,1),
 ([115,105,122,101],14,0,2),([105,110],4,14,1),([61,61],4,4,1),([33,61],4,4,1),([61,61],14,14,1),([33,61],14,14,1),
 ([60],2,2,1),([60,61],2,2,1),([62],2,2,1),([62,61],2,2,1),
 ([60],3,3,1),([60,61],3,3,1),([62],3,3,1),([62,61],3,3,1),
 ([60],4,4,1),([60,61],4,4,1),([62],4,4,1),([62,61],4,4,1)]
def ofW(w:List UInt8×Int×Int×Int):D:=mkW w.1 w.2.1 w.2.2.1 w.2.2.2
def Di:List D:=Gq.map ofW
theorem Jz:Di.length=46:=rfl
theorem RX{j:Nat}(h:j<46):∃op a b t,Di[j]? =some (mkW op a b t):=by
 refine⟨(Gq[j]'h).1,(Gq[j]'h).2.1,(Gq[j]'h).2.2.1,(Gq[j]'h).2.2.2,?_⟩
 simp only[Di,A6X]
 rw[A6F h];rfl
theorem KQ:D.eraseL Di=Di:=rfl
def N5(op:List UInt8):Int:=if G4.any (op==·) then 0 else match Di.find? (fun w=>eop w==op) with
 | some w=>if decide (0<wb w) then 2 else 1
 | none=>-1
theorem Sh:∀w∈Gq,w.1∈GB++GI:=by decide
theorem QY(p:D->Bool):Di.find? p=(Gq.find? (fun w=>p (ofW w))).map ofW:=by
 unfold Di;rw[List.find?_map];rfl
def Tj(op:List UInt8):Int:=if G4.any (op==·) then 0 else match Gq.find? (fun w=>w.1==op) with
 | some w=>if decide (0<w.2.2.1) then 2 else 1
 | none=>-1
theorem Vt(op:List UInt8):N5 op=Tj op:=by
 unfold N5 Tj
 rw[QY]
 have:(fun w=>eop (ofW w)==op)=(fun w:List UInt8×Int×Int×Int=>w.1==op):=rfl
 rw[this]
 cases Gq.find? (fun w=>w.1==op)<;>rfl
theorem U4:∀op∈GB++GI,Tj op=Ar op:=by decide
theorem OU(op:List UInt8):N5 op=Ar op:=by
 rw[Vt]
 by_cases h:op∈GB++GI
 ·exact U4 op h
 ·have h1:GB.any (op==·)=false:=by
   rw[A7O];intro x hx hc
   have:op=x:=by simpa using hc
   exact h (A64.2 (.inl (this▸hx)))
  have h2:GI.any (op==·)=false:=by
   rw[A7O];intro x hx hc
   have:op=x:=by simpa using hc
   exact h (A64.2 (.inr (this▸hx)))
  have h3:Gq.find? (fun w=>w.1==op)=none:=by
   rw[List.find?_eq_none];intro w hw hc
   have:w.1=op:=by simpa using hc
   exact h (this▸Sh w hw)
  unfold Tj Ar
  rw[h1,h2,h3];rfl
def Rx(op:List UInt8)(a b:Int)(w:D):Bool:=(eop w==op)&&(wa w==a)&&(wb w==b)
def Fv(op:List UInt8)(a b:Int):Int×Int:=match Di.find? (Rx op a b) with
 | some w=>(wt w,0)
 | none=>(0,6)
def tF(f:D):Int:=if QG f then IntKind.i64.wrap (Dv f+10) else Dv f
def J8(f:D):Int:=if(Dv f==0)&& !(QG f) then 8 else 0
def Lr(who name:List UInt8)(f:D):Bool:=(IV f==who)&&(F6 f==name)
def QJ(fs:List D)(who name:List UInt8):Int×Int:=match fs.find? (Lr who name) with
 | some f=>if tF f==0 then(0,8) else(tF f,0)
 | none=>(0,8)
def Pw(fs:List D)(who name:List UInt8):Int×Int:=match fs.find? (Lr who name) with
 | some f=>(1,J8 f)
 | none=>(0,8)
def WA(v:D):Int:=if vk v==5 then IntKind.i64.wrap (10+vk0 (vl v)) else vk v
def J9(fs:List D)(e:D):Int×Int :=
 if eop e==Cc then(4,0) else if eop e==BN then(1,0) else
 if eop e==Bq then(if WL (eV e) then(WA (eV e),0) else(0,2)) else
 if eop e==CB then Pw fs (Ca e) (BG e) else QJ fs (Ca e) (BG e)
def lt0(n:Int):Bool:=decide (n<0)
def Gi:Nat->List D->D->Int×Int
 | 0,_,_=>(0,2)
 | n+1,fs,e =>
  if lt0 (Ar (eop e))||(((eps e).length:Int) !=Ar (eop e)) then(0,2) else
  if Ar (eop e)==0 then J9 fs e else
  if(Gi n fs (part e 0)).2 !=0 then(0,(Gi n fs (part e 0)).2) else
  if Ar (eop e)==2 then
   if(Gi n fs (part e 1)).2 !=0 then(0,(Gi n fs (part e 1)).2) else
   Fv (eop e) (Gi n fs (part e 0)).1 (Gi n fs (part e 1)).1
  else Fv (eop e) (Gi n fs (part e 0)).1 0
open Classical in
noncomputable def Kj:List D->Option D
 | [f]=>if isF f then some (.int .i64 (J8 f)) else none
 | _=>none
theorem A1l:AQ Tryz.prog 212 Kj:=by
 refine AN (l:=[]) .nil A1y fun args r h=>?_
 unfold Kj at h
 split at h
 ·rename_i f
  split at h
  ·rename_i hf
   injection h with h;subst h
   refine⟨by simp,by simp[D.cl],fun H T=>?_⟩
   obtain⟨who,name,kind,bag,rfl,_⟩:=hf
   have e:J8 (mkF who name kind bag)=if(kind==0)&& !bag then 8 else 0:=rfl
   rw[e]
   simp only[mkF]
   rcases tf (kind==0) with h1|h1
   ·cases bag<;>simp only[h1]<;>simp +contextual only[WH,h1,go_sem]
   ·simp only[h1];simp +contextual only[WH,h1,go_sem]
  ·cases h
 ·cases h
def Gy:List D->Option D
 | []=>some (.sl none Di)
 | _=>none
theorem TO:(D.sl none Di).cl 0 0=true:=by decide
theorem Uq:AQ Tryz.prog 195 Gy:=by
 refine AN (l:=[]) .nil Xm fun args r h=>?_
 unfold Gy at h
 split at h
 ·injection h with h;subst h
  refine⟨by simp,TO,fun H T=>?_⟩
  have w2:IntKind.i64.wrap 2=2:=by decide
  have w3:IntKind.i64.wrap 3=3:=by decide
  have w4:IntKind.i64.wrap 4=4:=by decide
  have w5:IntKind.i64.wrap 5=5:=by decide
  have w6:IntKind.i64.wrap 6=6:=by decide
  have w7:IntKind.i64.wrap 7=7:=by decide
  have w8:IntKind.i64.wrap 8=8:=by decide
  have w9:IntKind.i64.wrap 9=9:=by decide
  have w10:IntKind.i64.wrap 10=10:=by decide
  have w11:IntKind.i64.wrap 11=11:=by decide
  have w12:IntKind.i64.wrap 12=12:=by decide
  have w13:IntKind.i64.wrap 13=13:=by decide
  have w14:IntKind.i64.wrap 14=14:=by decide
  simp +contextual only[Yu,go_sem]
  refine V4 5 ?_ (AR _)
  simp +contextual only[VG,A7K,A7L,BZ,Bo,A70,A71,w2,w3,w4,w5,w6,w7,w8,w9,w10,w11,w12,w13,w14,go_sem]
  refine V4 4 ?_ (AR _)
  simp +contextual only[VG,A7K,A7L,BZ,Bo,A70,A71,w2,w3,w4,w5,w6,w7,w8,w9,w10,w11,w12,w13,w14,go_sem]
  rfl
 ·cases h
def Ht:List D->Option D
 | [.str op]=>some (.int .i64 (Ar op))
 | _=>none
theorem A0x:AQ Tryz.prog 193 Ht:=by
 refine AN (l:=[(195,Gy)]) (.cons Uq .nil) A0i fun args r h=>?_
 unfold Ht at h
 split at h
 ·rename_i op
  injection h with h;subst h
  refine⟨by simp,by simp[D.cl],fun H T=>?_⟩
  have pw:Gy []=some (.sl none Di):=rfl
  have E:Ar op=N5 op:=(OU op).symm
  rcases tf (G4.any (op==·)) with h0|h0
  ·have e:Ar op=0:=by unfold Ar;rw[h0];rfl
   rw[e]
   clear E e
   simp only[G4,A7C,A7I] at h0
   simp +contextual only[W5,pw,KQ,go_sem]
   (all_goals ((repeat' (first|apply And.intro|intro _))<;>(first|rfl|omega|(simp_all;done)|grind)))
  ·have L:N5 op=match Di.find? (fun w=>eop w==op) with|some w=>if decide (0<wb w) then 2 else 1|none=>-1:=by
    unfold N5;rw[h0];rfl
   simp only[G4,A7C,A7I,A7b] at h0
   obtain⟨a1,a2,a3,a4,a5,_⟩:=h0
   rw[E]
   simp +contextual only[W5,pw,KQ,a1,a2,a3,a4,a5,go_sem]
   refine Ap (fun j s'=>s'.t 0= .str op/\s'.t 3= .sl none Di/\s'.t 4= .int .i64 j/\s'.H=H/\s'.T=T/\j<=46/\(Di.take j).find? (fun w=>eop w==op)=none) 46 ⟨0,by simp[upd,Ae]⟩ (fun i s h=>h.2.2.2.2.2.1) ?_ (AR _)
   rintro j ⟨t,B,T'⟩ ⟨r0,r3,r4,rfl,rfl,hj,hc⟩
   simp only at r0 r3 r4
   by_cases ha:j<46
   ·have d1:decide ((j:Int)<Di.length)=true:=by rw[Jz];simp;omega
    obtain⟨o,a,b,ty,e3⟩:=RX ha
    have nx:=fun hp=>DB e3 hc hp
    have at':=fun hp=>JW e3 hc hp
    have F:(eop (mkW o a b ty)==op)=(o==op):=rfl
    rw[F] at nx at'
    have G:(o==op)=true->N5 op=if decide (0<b) then 2 else 1:=fun h=>by rw[L,at' h];rfl
    simp only[mkW] at e3
    clear at' F L E
    rcases tf (o==op) with g|g
    ·rw[G g]
     rcases tf (decide (0<b)) with g2|g2
     ·simp +contextual only[r0,r3,r4,d1,e3,g,g2,go_sem]
     ·simp +contextual only[r0,r3,r4,d1,e3,g,g2,go_sem]
    ·have nx:=nx g
     simp +contextual only[r0,r3,r4,d1,e3,g,AJ j (by omega),go_sem]
     exact⟨by omega,nx⟩
   ·have d1:decide ((j:Int)<Di.length)=false:=by rw[Jz];simp;omega
    have hA:N5 op= -1:=by
     have:j=Di.length:=by rw[Jz];omega
     subst this;rw[A6G] at hc
     rw[L,hc]
    simp +contextual only[r0,r3,r4,d1,hA,go_sem]
 ·cases h
open Classical in
noncomputable def Ge:List D->Option D
 | [fs,e]=>if G6 isF fs/\∃n,isE n e then some (C4 (J9 (elems fs) e)) else none
 | _=>none
theorem Zn:AQ Tryz.prog 194 Ge:=by
 refine AN (l:=[(107,Dr),(212,Kj)]) (.cons V8 (.cons A1l .nil)) A1U fun args r h=>?_
 unfold Ge at h
 split at h
 ·rename_i fs e
  split at h
  ·rename_i hv
   injection h with h;subst h
   refine⟨by simp,Jj _,fun H T=>?_⟩
   obtain⟨⟨nf,xs,rfl,hl,hx⟩,m,he⟩:=hv
   obtain⟨op,k,i,s,nl,l,who,name,m,ps,rfl,h1,h2,h3,h4,h5,h6,eL,eP⟩:=Aj he
   have pv:Dr [mkV k i s nl l]=some (.bool (bS (mkV k i s nl l))):=by simp only[Dr];rw[if_pos h4.1]
   have ef:D.eraseL xs=xs:=bF fun x h=>jJ (hx x h)
   simp only[J9,CN,HR,En,Dp,Cc,BN,Bq,CB,AU]
   rcases tf (op==[110,111,119]) with g1|g1
   ·simp only[g1];simp +contextual only[Lx,mkE,eL,eP,ef,g1,C4,go_sem]
   rcases tf (op==[114,111,108,101]) with g2|g2
   ·simp only[g1,g2];simp +contextual only[Lx,mkE,eL,eP,ef,g1,g2,C4,go_sem]
   rcases tf (op==[118,97,108,117,101]) with g3|g3
   ·simp only[g1,g2,g3,WL,WA,CK,C3,if_true,A6B,if_false]
    obtain⟨fb,hq⟩:∃z,bS (mkV k i s nl l)=z:=⟨_,rfl⟩
    simp only[hq] at pv ⊢
    clear hq
    simp only[mkV] at pv
    have k0:(k==0)= !(k !=0):=by simp[bne]
    cases fb with
    | false=>simp +contextual only[Lx,mkE,eL,eP,ef,g1,g2,g3,pv,C4,go_sem]
    | true =>
    rcases tf (k==0) with g4|g4
    ·have g4':(k !=0)=false:=by simp[bne,g4]
     simp only[g4'];simp +contextual only[Lx,mkE,eL,eP,ef,g1,g2,g3,g4,pv,C4,go_sem]
    have g4':(k !=0)=true:=by simp[bne,g4]
    rcases tf (k==5) with g5|g5
    ·by_cases hz:0<l.length
     ·obtain⟨k0',i0,s0,n0,l0,e0,_⟩:=CD (jV h4.1).2.2.2 hz
      have fk:=Hh e0
      have d1:(((l.length:Int))==0)=false:=by rw[beq_eq_false_iff_ne];omega
      simp only[mkV] at e0
      simp only[g4',g5,d1,fk];simp +contextual only[Lx,mkE,eL,eP,ef,g1,g2,g3,g4,g5,d1,e0,pv,C4,go_sem]
     ·have d1:(((l.length:Int))==0)=true:=by rw[beq_iff_eq];omega
      simp only[g4',g5,d1];simp +contextual only[Lx,mkE,eL,eP,ef,g1,g2,g3,g4,g5,d1,pv,C4,go_sem]
    ·simp only[g4',g5];simp +contextual only[Lx,mkE,eL,eP,ef,g1,g2,g3,g4,g5,pv,C4,go_sem]
   simp only[g1,g2,g3,A6B,if_false]
   simp +contextual only[Lx,mkE,eL,eP,ef,g1,g2,g3,go_sem]
   refine Ap (fun j s'=>s'.t 0=aV nf xs/\s'.t 3= .ptr H.length 0/\s'.t 6= .int .i64 j/\s'.H=H++[.row [.str op,.int .i64 k,.int .i64 i,.str s,aV nl l,.str who,.str name,aV m ps]]/\s'.T=T/\j<=xs.length/\(xs.take j).find? (Lr who name)=none) xs.length ⟨0,by simp[upd,Ae]⟩ (fun i s h=>h.2.2.2.2.2.1) ?_ (AR _)
   rintro j ⟨t,B,T'⟩ ⟨r0,r3,r6,rfl,rfl,hj,hc⟩
   simp only at r0 r3 r6
   by_cases ha:j<xs.length
   ·have d1:decide ((j:Int)<xs.length)=true:=by simpa using ha
    obtain⟨w3,n3,k3,b3,e3,q3,q4⟩:=PJ hx ha
    have hf:=hx _ (A7a e3)
    have nx:=fun hp=>DB (p:=Lr who name) e3 hc hp
    have at':=fun hp=>JW (p:=Lr who name) e3 hc hp
    have F:Lr who name (mkF w3 n3 k3 b3)=((w3==who)&&(n3==name)):=rfl
    rw[F] at nx at'
    have pz:Kj [mkF w3 n3 k3 b3]=some (.int .i64 (J8 (mkF w3 n3 k3 b3))):=by simp only[Kj];rw[if_pos hf]
    have G1:((w3==who)&&(n3==name))=true->Pw xs who name=(1,J8 (mkF w3 n3 k3 b3)):=fun h=>by unfold Pw;rw[at' h]
    have G2:((w3==who)&&(n3==name))=true->QJ xs who name=if(if b3 then IntKind.i64.wrap (k3+10) else k3)==0 then(0,8) else((if b3 then IntKind.i64.wrap (k3+10) else k3),0):=fun h=>by unfold QJ;rw[at' h];rfl
    obtain⟨zf,hq⟩:∃z,J8 (mkF w3 n3 k3 b3)=z:=⟨_,rfl⟩
    simp only[hq] at pz G1
    clear at' F hq
    simp only[mkF] at e3 pz
    rcases tf (w3==who) with u1|u1
    ·rcases tf (n3==name) with u2|u2
     ·have n1:(w3 !=who)=false:=by simp[bne,u1]
      have n2:(n3 !=name)=false:=by simp[bne,u2]
      have G1:=G1 (by rw[u1,u2];rfl)
      have G2:=G2 (by rw[u1,u2];rfl)
      rw[G1,G2]
      rcases tf (op==[104,97,115]) with g4|g4
      ·simp only[g4];simp +contextual only[r0,r3,r6,d1,e3,n1,n2,g4,pz,C4,go_sem]
      ·cases b3 with
       | true =>
        simp only[g4,if_true,A6B,if_false]
        rcases tf (IntKind.i64.wrap (k3+10)==0) with g5|g5
        ·simp only[g5];simp +contextual only[r0,r3,r6,d1,e3,n1,n2,g4,g5,C4,go_sem]
        ·simp only[g5];simp +contextual only[r0,r3,r6,d1,e3,n1,n2,g4,g5,C4,go_sem]
       | false =>
        simp only[g4,if_true,A6B,if_false]
        rcases tf (k3==0) with g5|g5
        ·simp only[g5];simp +contextual only[r0,r3,r6,d1,e3,n1,n2,g4,g5,C4,go_sem]
        ·simp only[g5];simp +contextual only[r0,r3,r6,d1,e3,n1,n2,g4,g5,C4,go_sem]
     ·have n1:(w3 !=who)=false:=by simp[bne,u1]
      have n2:(n3 !=name)=true:=by simp[bne,u2]
      have nx:=nx (by rw[u1,u2];rfl)
      simp +contextual only[r0,r3,r6,d1,e3,n1,n2,AJ j (by omega),go_sem]
      exact⟨by omega,nx⟩
    ·have n1:(w3 !=who)=true:=by simp[bne,u1]
     have nx:=nx (by rw[u1];rfl)
     simp +contextual only[r0,r3,r6,d1,e3,n1,AJ j (by omega),go_sem]
     exact⟨by omega,nx⟩
   ·have d1:decide ((j:Int)<xs.length)=false:=by simpa using ha
    have:j=xs.length:=by omega
    subst this;rw[A6G] at hc
    have A1:Pw xs who name=(0,8):=by unfold Pw;rw[hc]
    have A2:QJ xs who name=(0,8):=by unfold QJ;rw[hc]
    rw[A1,A2]
    rcases tf (op==[104,97,115]) with g4|g4<;>simp only[g4]<;>simp +contextual only[r0,r3,r6,d1,C4,go_sem]
  ·cases h
 ·cases h
def RQ(ar len:Int)(lf a b:Int×Int)(op:List UInt8):Int×Int :=
 if lt0 ar||(len !=ar) then(0,2) else if ar==0 then lf else if a.2 !=0 then(0,a.2) else
 if ar==2 then(if b.2 !=0 then(0,b.2) else Fv op a.1 b.1) else Fv op a.1 0
theorem Vh(n:Nat)(fs:List D)(e:D):Gi (n+1) fs e=RQ (Ar (eop e)) (eps e).length (J9 fs e) (Gi n fs (part e 0)) (Gi n fs (part e 1)) (eop e):=rfl
open Classical in
noncomputable def Dx(n:Nat):List D->Option D
 | [fs,e]=>if G6 isF fs/\isE n e then some (C4 (Gi n (elems fs) e)) else none
 | _=>none
theorem RM{x:D}(h:x∈Di):∃o a b c,x=mkW o a b c:=by
 obtain⟨w,_,rfl⟩:=A68.1 h
 exact⟨_,_,_,_,rfl⟩
theorem Us:∀n,AQ Tryz.prog 157 (Dx n)
 | 0=>fun args r h=>by
  unfold Dx at h
  split at h
  ·split at h
   ·rename_i h';exact h'.2.elim
   ·cases h
  ·cases h
 | n+1=>by
  have hX:=AR [(193,Ht),(194,Ge),(195,Gy),(157,Dx n)]
  refine AN (l:=[(193,Ht),(194,Ge),(195,Gy),(157,Dx n)]) (.cons A0x (.cons Zn (.cons Uq (.cons (Us n) .nil)))) A2c fun args r h=>?_
  unfold Dx at h
  split at h
  ·rename_i fs e
   split at h
   ·rename_i hv
    obtain⟨hfs,he⟩:=hv
    injection h with h;subst h
    refine⟨by simp,Jj _,fun H T=>?_⟩
    have pl:Ge [fs,e]=some (C4 (J9 (elems fs) e)):=by simp only[Ge];rw[if_pos ⟨hfs,_,he⟩]
    have pw:Gy []=some (.sl none Di):=rfl
    have P:∀(i:Nat) (x:D),(eps e)[i]? =some x->x=part e i/\Dx n [fs,x]=some (C4 (Gi n (elems fs) x))/\x.erase=x/\x.cells.length=8/\x.cells.take 8=x.cells/\D.agg x.cells=x:=fun i x hx=>by
     have hi:=(A62.1 hx).1
     have e0:part e i=x:=by simp[part,hx]
     have h1:=(Su he hi).1
     rw[e0] at h1
     obtain⟨c1,c2,c3,_⟩:=BT h1
     exact⟨e0.symm,by simp only[Dx];rw[if_pos ⟨hfs,h1⟩],fL h1,c1,c2,c3⟩
    have ef:fs.erase=fs:=by
     obtain⟨n,xs,rfl,_,hx⟩:=hfs
     rw[Ag,bF fun x h=>jJ (hx x h)]
    rw[Vh]
    obtain⟨⟨lt,le⟩,hq⟩:∃z,J9 (elems fs) e=z:=⟨_,rfl⟩
    simp only[hq] at pl ⊢
    clear hq
    obtain⟨⟨ta,fa⟩,hqa⟩:∃z,Gi n (elems fs) (part e 0)=z:=⟨_,rfl⟩
    obtain⟨⟨tb,fb⟩,hqb⟩:∃z,Gi n (elems fs) (part e 1)=z:=⟨_,rfl⟩
    have P0:=fun x h=>P 0 x h
    have P1:=fun x h=>P 1 x h
    simp only[hqa,hqb]
    have Q0:∀x,(eps e)[0]? =some x->Dx n [fs,x]=some (.tup [.int .i64 ta,.int .i64 fa]):=fun x h=>by
     obtain⟨r1,r2,_⟩:=P0 x h
     rw[r2,r1,hqa];rfl
    have Q1:∀x,(eps e)[1]? =some x->Dx n [fs,x]=some (.tup [.int .i64 tb,.int .i64 fb]):=fun x h=>by
     obtain⟨r1,r2,_⟩:=P1 x h
     rw[r2,r1,hqb];rfl
    clear hqa hqb P0 P1
    obtain⟨op,k,i,s,nl,l,who,name,m,ps,rfl,h1,h2,h3,h4,h5,h6,eL,eP⟩:=Aj he
    rw[uG] at P Q0 Q1
    simp only[CN,uG]
    have pc:Ht [.str op]=some (.int .i64 (Ar op)):=rfl
    have aC:=Fp op
    obtain⟨ar,hq⟩:∃z,Ar op=z:=⟨_,rfl⟩
    rw[hq] at pc aC ⊢
    clear hq
    simp only[C4,mkE] at pl
    rcases tf ((ps.length:Int) !=ar) with g1|g1
    ·unfold RQ
     rw[g1]
     rcases aC with rfl|rfl|rfl|rfl<;>simp +contextual only[TY,mkE,eL,eP,ef,pc,g1,lt0,C4,go_sem]
    have hl:(ps.length:Int)=ar:=by simpa using g1
    by_cases h0:ar=0
    ·subst h0
     unfold RQ;simp only[g1]
     simp +contextual only[TY,mkE,eL,eP,ef,pc,pl,g1,lt0,C4,go_sem]
    have har:0<ps.length/\ps.length<=2:=by omega
    have w1:IntKind.i64.wrap (0+1)=1:=by decide
    have w2:IntKind.i64.wrap (1+1)=2:=by decide
    have b0:decide (ar<0)=false:=by simp only[decide_eq_false_iff_not];omega
    have b1:(ar==0)=false:=by rw[beq_eq_false_iff_ne];exact h0
    have ht:RQ ar ps.length (lt,le) (ta,fa) (tb,fb) op=if fa !=0 then(0,fa) else if ar==2 then(if fb !=0 then(0,fb) else Fv op ta tb) else Fv op ta 0:=by
     unfold RQ lt0;rw[g1,b0,b1];rfl
    rw[ht]
    simp +contextual only[TY,mkE,eL,eP,ef,pc,g1,b0,b1,go_sem]
    refine Bm ps (fun i' s'=>s'.t 0=fs/\s'.t 3= .ptr H.length 0/\s'.t 6= .int .i64 ar/\s'.t 7= .ptr (H.length+1) 0/\s'.t 8= .int .i64 (i':Int)/\s'.H=H++[.row [.str op,.int .i64 k,.int .i64 i,.str s,aV nl l,.str who,.str name,aV m ps],.row [.int .i64 (if 0<i' then ta else 0),.int .i64 (if 1<i' then tb else 0)]]/\s'.T=T/\(0<i'->(fa !=0)=false)/\(1<i'->(fb !=0)=false)) hX ⟨by simp[upd,Ae],by simp[upd,Ae],by simp[upd,Ae],by simp[upd,Ae],by simp[upd,Ae],rfl,rfl,fun h=>by omega,fun h=>by omega⟩ ?_ ?_
    ·rintro j x ⟨t,B,U⟩ hx hm hj ⟨t0,t3,t6,t7,t8,rfl,rfl,f1,f2⟩
     simp only at t0 t3 t6 t7 t8
     have d1:decide ((j:Int)<ar)=true:=by simp only[decide_eq_true_eq];omega
     obtain⟨_,_,x1,x2,x3,x4⟩:=P j x hx
     have hj2:j=0∨j=1:=by omega
     rcases hj2 with rfl|rfl
     ·have p:=Q0 x hx
      have d1':decide ((0:Int)<ar)=true:=d1
      rcases tf (fa !=0) with g|g
      ·simp only[g,if_true]
       simp +contextual only[t0,t3,t6,t7,t8,d1',hx,x1,x2,x3,x4,ef,p,g,C4,A7D,go_sem]
      ·simp +contextual only[t0,t3,t6,t7,t8,d1',hx,x1,x2,x3,x4,ef,p,g,A7D,w1,go_sem]
     ·have p:=Q1 x hx
      have a2:ar=2:=by omega
      subst a2
      have f1:=f1 (by omega)
      rcases tf (fb !=0) with g|g
      ·simp only[f1,g,if_true,BEq.rfl,A6B,if_false]
       simp +contextual only[t0,t3,t6,t7,t8,d1,hx,x1,x2,x3,x4,ef,p,g,C4,A7D,go_sem]
      ·simp +contextual only[t0,t3,t6,t7,t8,d1,hx,x1,x2,x3,x4,ef,p,g,f1,A7D,w2,go_sem]
    ·rintro⟨t,B,U⟩ ⟨t0,t3,t6,t7,t8,rfl,rfl,f1,f2⟩
     simp only at t0 t3 t6 t7 t8
     have d1:decide (((ps.length:Nat):Int)<ar)=false:=by simp only[decide_eq_false_iff_not];omega
     have f1:=f1 har.1
     have hw:(if fa !=0 then(0,fa) else if ar==2 then(if fb !=0 then(0,fb) else Fv op ta tb) else Fv op ta 0)=Fv op (if 0<ps.length then ta else 0) (if 1<ps.length then tb else 0):=by
      rw[f1,if_pos har.1]
      by_cases a2:ar=2
      ·rw[f2 (by omega),if_pos (show 1<ps.length by omega),a2];rfl
      ·have a2':(ar==2)=false:=by rw[beq_eq_false_iff_ne];exact a2
       rw[a2',if_neg (show¬1<ps.length by omega)];rfl
     rw[hw]
     obtain⟨A,hA⟩:∃z,(if 0<ps.length then ta else 0)=z:=⟨_,rfl⟩
     obtain⟨B,hB⟩:∃z,(if 1<ps.length then tb else 0)=z:=⟨_,rfl⟩
     rw[hA,hB]
     simp +contextual only[t0,t3,t6,t7,t8,d1,pw,hA,hB,go_sem]
     refine Bm Di (fun j s'=>s'.t 3= .ptr H.length 0/\s'.t 7= .ptr (H.length+1) 0/\s'.t 11= .sl none Di/\s'.t 12= .int .i64 (j:Int)/\s'.H=H++[.row [.str op,.int .i64 k,.int .i64 i,.str s,aV nl l,.str who,.str name,aV m ps],.row [.int .i64 A,.int .i64 B]]/\s'.T=U/\(Di.take j).find? (Rx op A B)=none) hX ⟨by simp[upd,t3],by simp[upd,t7],by simp[upd],by simp[upd],rfl,rfl,rfl⟩ ?_ ?_
     ·clear t0 t3 t6 t7 t8 d1
      rintro j x ⟨t,B',U'⟩ hx hm hj ⟨r3,r7,r11,r12,rfl,rfl,hc⟩
      simp only at r3 r7 r11 r12
      have d1:decide ((j:Int)<Di.length)=true:=by simpa using hj
      have hj46:j<46:=hj
      have nx:=fun hp=>DB (p:=Rx op A B) hx hc hp
      have at':=fun hp=>JW (p:=Rx op A B) hx hc hp
      obtain⟨o,a',b',ty,rfl⟩:=RM hm
      have F:Rx op A B (mkW o a' b' ty)=((o==op)&&(a'==A)&&(b'==B)):=rfl
      rw[F] at nx at'
      have G:((o==op)&&(a'==A)&&(b'==B))=true->Fv op A B=(ty,0):=fun h=>by unfold Fv;rw[at' h];rfl
      simp only[mkW] at hx
      clear at' F
      rcases tf (o==op) with g1|g1<;>rcases tf (a'==A) with g2|g2<;>rcases tf (b'==B) with g3|g3<;>simp only[g1,g2,g3,A7m,A7t,A60,A7w,true_implies,false_implies,A6B,Bool.true_eq_false] at nx G<;>(try rw[G])<;>simp +contextual only[r3,r7,r11,r12,d1,hx,g1,g2,g3,C4,AJ j (by omega),go_sem]<;>exact nx
     ·rintro⟨t,B',U'⟩ ⟨r3,r7,r11,r12,rfl,rfl,hc⟩
      simp only at r3 r7 r11 r12
      have d1:decide ((Di.length:Int)<Di.length)=false:=by simp
      rw[A6G] at hc
      have hW:Fv op A B=(0,6):=by unfold Fv;rw[hc]
      rw[hW]
      simp +contextual only[r3,r7,r11,r12,d1,C4,go_sem]
   ·cases h
  ·cases h
end GP
namespace GP
open Go Go.Proofs
set_option maxRecDepth 100000
theorem TP{v:D}(h:bS v=true)(h5:vk v=5)(h0:0<(vl v).length):1<=vk0 (vl v)/\vk0 (vl v)<=4:=by
 unfold bS at h
 rw[h5] at h
 simp only[bne_self_eq_false,A6B,if_false] at h
 split at h
 ·cases h
 ·unfold Fj at h
  have:=A6E.1 h 0 (by simpa using h0)
  unfold DJ at this
  have e:(vl v)[0]? =some (vl v)[0]:=by simp[h0]
  rw[e] at this
  simp only[A6A] at this
  obtain⟨⟨⟨q1,q2⟩,q3⟩,_⟩:=this
  have q3:vk (vl v)[0]=vk0 (vl v):=by simpa using q3
  have q2:vk (vl v)[0]≠0:=by simpa using q2
  rw[<- q3]
  unfold B9 Bf at q1
  (repeat' split at q1)<;>simp_all<;>omega
theorem TN{v:D}(h:bS v=true)(h5:vk v≠5):0<=vk v/\vk v<=4:=by
 unfold bS at h
 have:(vk v !=5)=true:=by simpa using h5
 rw[this] at h
 simp only[if_true] at h
 unfold B9 Bf at h
 (repeat' split at h)<;>simp_all<;>omega
def FS:List Int:=[1,2,3,4,11,12,13,14]
theorem A1p{k:Int}(h:1<=k/\k<=4):k∈FS:=by
 simp only[FS,A6J,A6N,or_false];omega
theorem VX{k:Int}(h:1<=k/\k<=4):IntKind.i64.wrap (10+k)∈FS:=by
 rw[Hu (by omega) (by omega)]
 simp only[FS,A6J,A6N,or_false];omega
theorem PF{t:Int}(h:t∈FS):(t==0)=false/\(t !=0)=true:=by
 simp only[FS,A6J,A6N,or_false] at h
 rcases h with rfl|rfl|rfl|rfl|rfl|rfl|rfl|rfl<;>decide
def HA(fs:List D):Prop:=∀f∈fs,1<=Dv f/\Dv f<=4
theorem UT{op:List UInt8}(h:Ar op=0):op=Bq∨op=Cc∨op=Bh∨op=CB∨op=BN:=by
 unfold Ar at h
 split at h
 ·rename_i g
  simp only[G4,A7C,A7I,A72,A6T,beq_iff_eq] at g
  exact g
 ·split at h
  ·cases h
  ·split at h<;>cases h
theorem Ox{fs:List D}(hk:HA fs){who name:List UInt8}:(fs.find? (Lr who name)=none/\FY fs who name=0)∨∃f∈fs,fs.find? (Lr who name)=some f/\FY fs who name=tF f/\tF f∈FS/\J8 f=0:=by
 cases hf:fs.find? (Lr who name) with
 | none =>
  refine .inl ⟨rfl,?_⟩
  have hf:fs.find? (fun f=>(IV f==who)&&(F6 f==name))=none:=hf
  unfold FY;rw[hf]
 | some f =>
  have hm:=List.mem_of_find?_eq_some hf
  have hq:=hk f hm
  refine .inr ⟨f,hm,rfl,?_,?_,?_⟩
  ·have hf:fs.find? (fun f=>(IV f==who)&&(F6 f==name))=some f:=hf
   unfold FY tF;rw[hf,A75]
  ·unfold tF
   split
   ·rw[A75];exact VX hq
   ·exact A1p hq
  ·unfold J8
   have:(Dv f==0)=false:=by rw[beq_eq_false_iff_ne];omega
   rw[this];rfl
theorem R8{fs:List D}(hk:HA fs){e:D}(ha:Ar (eop e)=0):J9 fs e=Fc fs e/\((Fc fs e).2=0->(Fc fs e).1∈FS):=by
 unfold J9 Fc
 rcases UT ha with h|h|h|h|h<;>rw[h]
 ·have e1:(Bq==Cc)=false:=by decide
  have e2:(Bq==BN)=false:=by decide
  simp only[e1,e2,BEq.rfl,if_true,A6B,if_false]
  have hB:=TP (v:=eV e)
  have hO:=TN (v:=eV e)
  unfold LE WL WA
  obtain⟨v,hv⟩:∃z,eV e=z:=⟨_,rfl⟩
  rw[hv] at hB hO ⊢
  cases hf:bS v with
  | false=>simp
  | true =>
  have hB:=hB hf
  have hO:=hO hf
  by_cases k0:vk v=0
  ·simp[k0]
  by_cases k5:vk v=5
  ·by_cases hl:0<(vl v).length
   ·have hq:=hB k5 hl
    have d1:(((vl v).length:Int)==0)=false:=by rw[beq_eq_false_iff_ne];omega
    have n:=PF (VX hq)
    simp[k5,d1,n,VX hq]
   ·have d1:(((vl v).length:Int)==0)=true:=by rw[beq_iff_eq];omega
    simp[k5,d1]
  ·have hq:=hO k5
   have hq:1<=vk v/\vk v<=4:=by omega
   simp[k0,k5,A1p hq]
 ·have e1:(Cc==Bq)=false:=by decide
  simp only[e1,BEq.rfl,if_true,A6B,if_false]
  exact⟨by trivial,fun _=>by decide⟩
 ·have e1:(Bh==Cc)=false:=by decide
  have e2:(Bh==BN)=false:=by decide
  have e3:(Bh==Bq)=false:=by decide
  have e4:(Bh==CB)=false:=by decide
  simp only[e1,e2,e3,e4,A6B,if_false]
  unfold QJ
  rcases Ox hk (who:=Ca e) (name:=BG e) with⟨h1,h2⟩|⟨f,hm,h1,h2,h3,h4⟩
  ·rw[h1,h2];exact⟨by trivial,fun h=>by cases h⟩
  ·rw[h1,h2,(PF h3).1]
   simp only[(PF h3).1,A6B,if_false]
   exact⟨by trivial,fun _=>h3⟩
 ·have e1:(CB==Cc)=false:=by decide
  have e2:(CB==BN)=false:=by decide
  have e3:(CB==Bq)=false:=by decide
  simp only[e1,e2,e3,BEq.rfl,if_true,A6B,if_false]
  unfold Pw
  rcases Ox hk (who:=Ca e) (name:=BG e) with⟨h1,h2⟩|⟨f,hm,h1,h2,h3,h4⟩
  ·rw[h1,h2];exact⟨by trivial,fun h=>by cases h⟩
  ·rw[h1,h2,(PF h3).1]
   simp only[h4]
   exact⟨by trivial,fun _=>by decide⟩
 ·have e1:(BN==Cc)=false:=by decide
  have e2:(BN==Bq)=false:=by decide
  simp only[e1,e2,BEq.rfl,if_true,A6B,if_false]
  exact⟨by trivial,fun _=>by decide⟩
def tyS(t:Int):Int×Int:=if t==0 then(0,6) else(t,0)
theorem TT:(GI.all fun op=>FS.all fun a=>FS.all fun b=>(Fv op a b==tyS (KV op a b))&&((KV op a b==0)||FS.contains (KV op a b)))=true:=by kernel_rfl
theorem Te:(GB.all fun op=>FS.all fun a=>(Fv op a 0==tyS (Jr op a))&&((Jr op a==0)||FS.contains (Jr op a)))=true:=by kernel_rfl
theorem TD{op:List UInt8}(h:Ar op=2):op∈GI:=by
 unfold Ar at h
 split at h
 ·cases h
 ·split at h
  ·cases h
  ·split at h
   ·rename_i g
    obtain⟨x,hx,e⟩:=A7k.1 g
    have e:op=x:=by simpa using e
    exact e▸hx
   ·cases h
theorem UM{op:List UInt8}(h:Ar op=1):op∈GB:=by
 unfold Ar at h
 split at h
 ·cases h
 ·split at h
  ·rename_i g
   obtain⟨x,hx,e⟩:=A7k.1 g
   have e:op=x:=by simpa using e
   exact e▸hx
  ·split at h<;>cases h
theorem TC{op:List UInt8}(h:Ar op=2){a b:Int}(ha:a∈FS)(hb:b∈FS):Fv op a b=tyS (KV op a b)/\((KV op a b==0)=false->KV op a b∈FS):=by
 have:=A6E.1 (A6E.1 (A6E.1 TT op (TD h)) a ha) b hb
 simp only[A6A,A6T,beq_iff_eq,A6U] at this
 refine⟨this.1,fun g=>?_⟩
 rcases this.2 with q|q
 ·rw[q] at g;cases g
 ·exact q
theorem Ub{op:List UInt8}(h:Ar op=1){a:Int}(ha:a∈FS):Fv op a 0=tyS (Jr op a)/\((Jr op a==0)=false->Jr op a∈FS):=by
 have:=A6E.1 (A6E.1 Te op (UM h)) a ha
 simp only[A6A,A6T,beq_iff_eq,A6U] at this
 refine⟨this.1,fun g=>?_⟩
 rcases this.2 with q|q
 ·rw[q] at g;cases g
 ·exact q
theorem Mc{fs:List D}(hk:HA fs):∀(n:Nat) (e:D),Gi n fs e=CV n fs e/\((CV n fs e).2=0->(CV n fs e).1∈FS)
 | 0,_=>⟨rfl,fun h=>by cases h⟩
 | n+1,e=>by
  have h0:=Mc hk n (part e 0)
  have h1:=Mc hk n (part e 1)
  have hl:=R8 hk (e:=e)
  simp only[Gi,CV,lt0]
  have p0:(eps e).getD 0 .top=part e 0:=rfl
  have p1:(eps e).getD 1 .top=part e 1:=rfl
  rw[p0,p1]
  rw[h0.1,h1.1]
  have h0:=h0.2
  have h1:=h1.2
  obtain⟨⟨a,f⟩,hx⟩:∃z,CV n fs (part e 0)=z:=⟨_,rfl⟩
  obtain⟨⟨b,g⟩,hy⟩:∃z,CV n fs (part e 1)=z:=⟨_,rfl⟩
  rw[hx] at h0 ⊢
  rw[hy] at h1 ⊢
  simp only at h0 h1 ⊢
  split
  ·exact⟨by trivial,fun h=>by cases h⟩
  ·rename_i hA
   rcases Fp (eop e) with ha|ha|ha|ha
   ·simp only[ha,BEq.rfl,if_true]
    exact hl ha
   ·have e1:((1:Int)==0)=false:=by decide
    have e2:((1:Int)==2)=false:=by decide
    simp only[ha,e1,e2,A6B,if_false]
    rcases tf (f !=0) with hf|hf
    ·simp only[hf,if_true]
     exact⟨by trivial,fun h=>by simp[h] at hf⟩
    ·have hf0:f=0:=by simpa using hf
     obtain⟨q1,q2⟩:=Ub ha (h0 hf0)
     simp only[hf,A6B,if_false]
     rw[q1]
     unfold tyS
     rcases tf (Jr (eop e) a==0) with hz|hz
     ·rw[hz];exact⟨by trivial,fun h=>by cases h⟩
     ·rw[hz];exact⟨by trivial,fun _=>q2 hz⟩
   ·have e1:((2:Int)==0)=false:=by decide
    simp only[ha,e1,BEq.rfl,if_true,A6B,if_false]
    rcases tf (f !=0) with hf|hf
    ·simp only[hf,if_true]
     exact⟨by trivial,fun h=>by simp[h] at hf⟩
    rcases tf (g !=0) with hg|hg
    ·simp only[hf,hg,if_true,A6B,if_false]
     exact⟨by trivial,fun h=>by simp[h] at hg⟩
    ·have hf0:f=0:=by simpa using hf
     have hg0:g=0:=by simpa using hg
     obtain⟨q1,q2⟩:=TC ha (h0 hf0) (h1 hg0)
     simp only[hf,hg,A6B,if_false]
     rw[q1]
     unfold tyS
     rcases tf (KV (eop e) a b==0) with hz|hz
     ·rw[hz];exact⟨by trivial,fun h=>by cases h⟩
     ·rw[hz];exact⟨by trivial,fun _=>q2 hz⟩
   ·rw[ha] at hA
    simp at hA
def Ct(f:D->Int):List D->Int
 | []=>0
 | x::xs=>if f x !=0 then f x else Ct f xs
theorem FQ{f:D->Int}{xs:List D}{i:Nat}{x:D}(h:xs[i]? =some x):Ct f (xs.drop i)=if f x !=0 then f x else Ct f (xs.drop (i+1)):=by
 obtain⟨hi,rfl⟩:=A62.1 h
 rw[A7x hi]
 rfl
def I7(fs:List D)(r:D):Int:=qB fs (rHi r) (rE r)
def J4(fs:List D)(p:D):Int:=if qB fs (pHf p) (pE p) !=0 then qB fs (pHf p) (pE p) else Ct (I7 fs) (pRs p)
noncomputable def ckI(d:D):Int:=if z6 d then 9 else if J7 d !=0 then J7 d else Ct (J4 (dFs d)) (dPs d)
open Classical in
noncomputable def SY:List D->Option D
 | [d]=>if ckD2 d then some (.int .i64 (ckI d)) else none
 | _=>none
theorem Ro{d e:D}{h:Bool}(hd:Bi AK d)(he:isE AK e):IL [d,.bool h,e]=some (.int .i64 (qB (dFs d) h e)):=by
 simp only[IL];rw[if_pos ⟨hd,he⟩]
noncomputable abbrev XJ:Fs:=[(153,Hx),(154,Kq),(155,IL)]
theorem A5s:AQ Tryz.prog 93 SY:=by
 have hX:=AR XJ
 refine AN (l:=XJ) (.cons A1H (.cons YZ (.cons A0F .nil))) A4h fun args r h=>?_
 unfold SY at h
 split at h
 ·rename_i d
  split at h
  ·rename_i hd
   injection h with h;subst h
   refine⟨by simp,by simp[D.cl],fun H T=>?_⟩
   have pn:Hx [d]=some (.int .i64 (if z6 d then 9 else 0)):=by simp only[Hx];rw[if_pos hd]
   have pu:Kq [d]=some (.int .i64 (J7 d)):=by simp only[Kq];rw[if_pos hd]
   have pt:=fun(h:Bool) (e:D) (he:isE AK e)=>Ro (h:=h) hd.s he
   obtain⟨hs,h1,h2,h3⟩:=hd
   have ed:=Az hs
   unfold ckI
   obtain⟨m,fs,us,m',ps,rfl,k1,k2,k3,k4,k5⟩:=hs
   simp only[tU,lA] at h1 h2 h3 pt ⊢
   obtain⟨nb,hnb⟩:∃z,z6 (Ah m fs us m' ps)=z:=⟨_,rfl⟩
   obtain⟨ui,hui⟩:∃z,J7 (Ah m fs us m' ps)=z:=⟨_,rfl⟩
   rw[hnb] at pn ⊢
   rw[hui] at pu ⊢
   simp only[Ah] at ed pn pu pt
   cases nb with
   | true =>
    simp only[if_true] at pn
    simp +contextual only[c93,Ah,ed,pn,go_sem]
   | false =>
   simp only[A6B,if_false] at pn
   rcases tf (ui !=0) with g|g
   ·simp +contextual only[c93,Ah,ed,pn,pu,g,go_sem]
   simp +contextual only[c93,Ah,ed,pn,pu,g,go_sem]
   refine Bm ps (fun i s=>s.t 1= .ptr H.length 0/\s.t 22=aV m' ps/\s.t 23= .int .i64 (ps.length:Int)/\s.t 24= .int .i64 (i:Int)/\Ct (J4 fs) ps=Ct (J4 fs) (ps.drop i)/\Ext (H++[.row [aV m fs,.str us,aV m' ps]]) s.H/\s.T=T) hX ⟨by simp[upd],by simp[upd],by simp[upd],by simp[upd],by simp,Ext.refl _,rfl⟩ ?_ ?_
   ·rintro i x ⟨t,B,U⟩ hx hm hi ⟨t1,t22,t23,t24,hF,hB,rfl⟩
    simp only at t1 t22 t23 t24 hB
    have d1:decide ((i:Int)<ps.length)=true:=by simpa using hi
    have hg:=hB.get (o:=H.length) (by simp;rfl)
    rw[FQ hx] at hF
    obtain⟨nm,bn,us',hf,e,mm,rs,rfl,he,l1,l2,l3,l4,l5⟩:=k5 x hm
    have hr:=h3 _ hm
    rw[iQ] at hr
    have hE:=pB he
    have ee:=fL he
    have p1:=pt hf e he
    have hP:J4 fs (mkP nm bn us' hf e mm rs)=if qB fs hf e !=0 then qB fs hf e else Ct (I7 fs) rs:=by
     unfold J4;rw[y7,qO _ _ _ _ _ _ _ he,iQ]
    rw[hP] at hF
    obtain⟨v,hv⟩:∃z,qB fs hf e=z:=⟨_,rfl⟩
    rw[hv] at p1 hF
    clear hP
    rcases tf (v !=0) with g1|g1
    ·simp only[g1,if_true] at hF
     rw[hF]
     simp +contextual only[t1,t22,t23,t24,AM hg,AO hg,d1,hx,mkP,hE,ee,ed,p1,g1,AS hB.pre (AY.refl _),go_sem]
    simp only[g1,A6B,if_false] at hF
    simp +contextual only[t1,t22,t23,t24,AM hg,AO hg,d1,hx,mkP,hE,ee,ed,p1,g1,go_sem]
    refine Bm rs (fun j s=>s.t 1= .ptr H.length 0/\s.t 22=aV m' ps/\s.t 23= .int .i64 (ps.length:Int)/\s.t 24= .int .i64 (i:Int)/\s.t 38=aV mm rs/\s.t 39= .int .i64 (rs.length:Int)/\s.t 40= .int .i64 (j:Int)/\Ct (I7 fs) rs=Ct (I7 fs) (rs.drop j)/\Ext (H++[.row [aV m fs,.str us,aV m' ps]]) s.H/\s.T=U) hX ⟨by simp[upd,t1],by simp[upd,t22],by simp[upd,t23],by simp[upd,t24],by simp[upd],by simp[upd],by simp[upd],by simp,hB.app _,rfl⟩ ?_ ?_
    ·clear hg hB t1 t22 t23 t24
     rintro j y ⟨t',B',U'⟩ hy hmy hj ⟨t1,t22,t23,t24,t38,t39,t40,hF2,hB,rfl⟩
     simp only at t1 t22 t23 t24 t38 t39 t40 hB
     have d2:decide ((j:Int)<rs.length)=true:=by simpa using hj
     have hg:=hB.get (o:=H.length) (by simp;rfl)
     rw[FQ hy] at hF2
     obtain⟨pm,hi',nm',e',ma,mb,du,ad,rfl,he',_,_,_⟩:=l5 y hmy
     have hE':=pB he'
     have ee':=fL he'
     have p2:=pt hi' e' he'
     have hR:I7 fs (mkR pm hi' nm' e' ma mb du ad)=qB fs hi' e':=by
      unfold I7;rw[zF,jL _ _ _ _ _ _ _ _ he']
     rw[hR] at hF2
     obtain⟨w,hw⟩:∃z,qB fs hi' e'=z:=⟨_,rfl⟩
     rw[hw] at p2 hF2
     obtain⟨DU,hDU⟩:∃z,aV ma (du.map D.str)=z:=⟨_,rfl⟩
     obtain⟨AD,hAD⟩:∃z,aV mb (ad.map D.str)=z:=⟨_,rfl⟩
     clear hR
     rcases tf (w !=0) with g2|g2
     ·simp only[g2,if_true] at hF2
      rw[hF2] at hF
      have g3:(w !=0)=true:=g2
      simp only[g3,if_true] at hF
      rw[hF]
      simp +contextual only[t1,t22,t23,t24,t38,t39,t40,AM hg,AO hg,d2,hy,mkR,hDU,hAD,hE',ee',ed,p2,g2,AS hB.pre (AY.refl _),go_sem]
     simp only[g2,A6B,if_false] at hF2
     simp +contextual only[t1,t22,t23,t24,t38,t39,t40,AM hg,AO hg,d2,hy,mkR,hDU,hAD,hE',ee',ed,p2,g2,AJ j (by omega),go_sem]
     exact⟨hF2,hB.app _⟩
    ·rintro⟨t',B',U'⟩ ⟨t1,t22,t23,t24,t38,t39,t40,hF2,hB,rfl⟩
     simp only at t1 t22 t23 t24 t38 t39 t40 hB
     have d2:decide ((rs.length:Int)<rs.length)=false:=by simp
     have z0:Ct (I7 fs) rs=0:=by rw[hF2,A7d];rfl
     rw[z0] at hF
     simp only[bne_self_eq_false,A6B,if_false] at hF
     simp +contextual only[t1,t22,t23,t24,t38,t39,t40,d2,AJ i (by omega),go_sem]
     exact⟨hF,hB⟩
   ·rintro⟨t,B,U⟩ ⟨t1,t22,t23,t24,hF,hB,rfl⟩
    simp only at t1 t22 t23 t24 hB
    have d1:decide ((ps.length:Int)<ps.length)=false:=by simp
    rw[hF,A7d]
    simp +contextual only[t1,t22,t23,t24,d1,Ct,Ad hB.pre (AY.refl _),go_sem]
  ·cases h
 ·cases h
end GP
namespace GP
open Go Go.Proofs
set_option maxRecDepth 100000
theorem A1d:AQ Tryz.prog 156 DR:=by
 refine AN (l:=[]) .nil A1D fun args r h=>?_
 unfold DR at h
 split at h
 ·injection h with h;subst h
  refine⟨by simp,by simp[D.cl,D.clL,Cu],fun H T=>?_⟩
  simp +contextual only[A2b,Cu,go_sem]
 ·cases h
theorem Vr{X:BF}{c:C}{Q:Ex->S->Prop}{s:S}(n:Nat)(J:Nat->S->Prop)(hX:GA X)(h0:J 0 s)(step:∀i s,i<n->J i s->W X c (EH (J (i+1)) Q) s)(fin:∀s,J n s->W X c (EH (fun _=>False) Q) s):W X (.loop c) Q s:=by
 refine Bm (List.replicate n D.top) J hX h0 (fun i x s _ _ hi hJ=>?_) (fun s h=>?_)
 ·rw[A7J] at hi;exact step i s hi hJ
 ·rw[A7J] at h;exact fin s h
def NK:List D->Option D
 | [.str s]=>some (.bool (DE s))
 | _=>none
theorem A4y:AQ Tryz.prog 94 NK:=by
 have hX:=AR [(156,DR)]
 refine AN (l:=[(156,DR)]) (.cons A1d .nil) A4b fun args r h=>?_
 unfold NK at h
 split at h
 ·rename_i w
  injection h with h;subst h
  refine⟨by simp,by simp[D.cl],fun H T=>?_⟩
  have pu:DR []=some (.sl none (Cu.map .str)):=rfl
  unfold DE
  obtain⟨us,hus⟩:∃z,Cu=z:=⟨_,rfl⟩
  have hl:us.length=6:=by rw[<- hus];rfl
  rw[hus] at pu ⊢
  have pu:DR []=some (aV false (us.map .str)):=pu
  simp +contextual only[c94,pu,go_sem]
  refine Bm (us.map D.str) (fun i s=>s.t 0= .str w/\s.t 3=aV false (us.map .str)/\s.t 4= .int .i64 (i:Int)/\(us.any fun x=>w==x)=((us.drop i).any fun x=>w==x)/\s.H=H/\s.T=T) hX ⟨by simp[upd,Ae],by simp[upd],by simp[upd],by simp,rfl,rfl⟩ ?_ ?_
  ·rintro i x ⟨t,B,U⟩ hx hm hi ⟨t0,t3,t4,hF,rfl,rfl⟩
   simp only at t0 t3 t4
   rw[A6H] at hi
   have d1:decide ((i:Int)<(us.map D.str).length)=true:=by rw[A6H];simpa using hi
   have hx':=hx
   rw[A6X,A7g] at hx'
   obtain⟨s,hs,rfl⟩:=hx'
   have hd:us.drop i=s::us.drop (i+1):=by
    obtain⟨hi,rfl⟩:=A62.1 hs
    exact A7x hi
   rw[hd,A7C] at hF
   rcases tf (s==w) with e|e
   ·have e':(w==s)=true:=by rw[beq_iff_eq] at e ⊢;exact e.symm
    rw[e',A7s] at hF
    rw[hF]
    simp +contextual only[t0,t3,t4,d1,hx,e,go_sem]
   ·have e':(w==s)=false:=by rw[beq_eq_false_iff_ne] at e ⊢;exact fun h=>e h.symm
    rw[e',A7e] at hF
    simp +contextual only[t0,t3,t4,d1,hx,e,AJ i (by omega),go_sem]
    exact hF
  ·rintro⟨t,B,U⟩ ⟨t0,t3,t4,hF,rfl,rfl⟩
   simp only at t0 t3 t4
   have d1:decide (((us.map D.str).length:Int)<(us.map D.str).length)=false:=by simp
   rw[A6H] at hF
   rw[hF,A7d]
   simp +contextual only[t0,t3,t4,d1,A7I,go_sem]
 ·cases h
def A0W:D->Nm
 | .agg [.str a,.str b]=>(a,b)
 | _=>([],[])
theorem NA(l:List Nm):(l.map Ax).map A0W=l:=by
 rw[A7h]
 conv=>rhs;rw[<- A7T l]
 rfl
theorem TA(p q:Nm):RW [.str,.str] false (Ax p) (Ax q)=some (.bool (p==q)):=by
 have h:∀b:Bool,(b !=false)=b:=by decide
 show some (D.bool ((p.1==q.1&&(p.2==q.2&&true)) !=false))=_
 rw[h,A7m];rfl
open Classical in
noncomputable def Nz:List D->Option D
 | [l]=>if ∃(m:Bool) (ps:List Nm),l=aV m (ps.map Ax)/\ps.length<=2^40 then some (.bool (twB ((elems l).map A0W))) else none
 | _=>none
theorem HM(l:List Nm):D.eraseL (l.map Ax)=l.map Ax:=bF fun x hx=>by
 obtain⟨p,_,rfl⟩:=A68.1 hx
 simp[Ax,D.erase,D.eraseL]
theorem RA(m:Bool){ps:List Nm}(h:ps.length<=2^40):Nz [aV m (ps.map Ax)]=some (.bool (twB ps)):=by
 simp only[Nz]
 rw[if_pos ⟨m,ps,rfl,h⟩,AU,NA]
theorem US{acc:List Nm}{x y:Nm}:y∈ddS acc x↔y∈acc∨y=x:=by
 unfold ddS
 split
 ·rename_i h
  have h:x∈acc:=by simpa using h
  exact⟨.inl,fun k=>k.elim id fun e=>e▸h⟩
 ·simp
theorem PM:∀{l acc:List Nm} {y:Nm},y∈l.foldl ddS acc↔y∈acc∨y∈l
 | [],acc,y=>by simp
 | x::l,acc,y=>by
  rw[A7p,PM,US,A6J,or_assoc]
theorem Pi{l:List Nm}{y:Nm}:y∈ddN l↔y∈l:=by unfold ddN;rw[PM];simp
theorem P7{l:List Nm}{i:Nat}{x:Nm}(h:l[i]? =some x):twB (l.take (i+1))=(twB (l.take i)||(l.take i).contains x):=by
 have hi:i<l.length:=(A62.1 h).1
 have hl:=Ot (l.take i) []
 have hl:(ddN (l.take i)).length<=(l.take i).length:=by simpa[ddN] using hl
 unfold twB
 rw[NX h]
 have e1:(l.take (i+1)).length=i+1:=by rw[A7i];omega
 have e2:(l.take i).length=i:=by rw[A7i];omega
 rw[e1]
 unfold ddS
 by_cases hm:x∈l.take i
 ·have h1:(ddN (l.take i)).contains x=true:=by simpa using Pi.2 hm
  have h2:(l.take i).contains x=true:=by simpa using hm
  rw[h1,h2,if_pos rfl,A76]
  simp only[bne_iff_ne,ne_eq]
  omega
 ·have h1:(ddN (l.take i)).contains x=false:=by rw[<- A7S];exact fun h=>hm (Pi.1 (by simpa using h))
  have h2:(l.take i).contains x=false:=by rw[<- A7S];exact fun h=>hm (by simpa using h)
  rw[h1,h2,if_neg (by decide),A72,A6C,e2]
  rw[A7H]
  simp only[bne_iff_ne,ne_eq,A6D,A6O]
  omega
theorem PP{l:List Nm}{i:Nat}(h:twB (l.take i)=true):twB l=true:=by
 by_cases hi:i<l.length
 ·have e:l[i]? =some l[i]:=by simp[hi]
  have:twB (l.take (i+1))=true:=by rw[P7 e,h];rfl
  exact PP this
 ·rw[List.take_of_length_le (by omega)] at h;exact h
termination_by l.length - i
theorem A3G:AQ Tryz.prog 95 Nz:=by
 have hX:=AR ([]:Fs)
 refine AN (l:=[]) .nil A4J fun args r h=>?_
 unfold Nz at h
 split at h
 ·rename_i l
  split at h
  ·rename_i hc
   injection h with h;subst h
   obtain⟨m,ps,rfl,hl⟩:=hc
   rw[AU,NA]
   refine⟨by simp,by simp[D.cl],fun H T=>?_⟩
   simp +contextual only[c95,go_sem]
   refine Bm (ps.map Ax) (fun i s=>s.t 0=aV m (ps.map Ax)/\s.t 3= .int .i64 (i:Int)/\twB (ps.take i)=false/\s.H=H/\s.T=T) hX ⟨by simp[upd,Ae],by simp[upd],by rfl,rfl,rfl⟩ ?_ ?_
   ·rintro i x ⟨t,B,U⟩ hx hm hi ⟨t0,t3,hF,rfl,rfl⟩
    simp only at t0 t3
    rw[A6H] at hi
    have d1:decide ((i:Int)<(ps.map Ax).length)=true:=by rw[A6H];simpa using hi
    have hx':=hx
    rw[A6X,A7g] at hx'
    obtain⟨p,hp,rfl⟩:=hx'
    have hst:=P7 hp
    rw[hF,A7e] at hst
    simp +contextual only[t0,t3,d1,go_sem]
    refine Vr i (fun j s=>s.t 0=aV m (ps.map Ax)/\s.t 3= .int .i64 (i:Int)/\s.t 4= .int .i64 (j:Int)/\(ps.take j).contains p=false/\s.H=B/\s.T=U) hX ⟨by simp[upd,t0],by simp[upd,t3],by simp[upd],by simp,rfl,rfl⟩ ?_ ?_
    ·clear t0 t3
     rintro j ⟨t,B',U'⟩ hj ⟨t0,t3,t4,hG,rfl,rfl⟩
     simp only at t0 t3 t4
     have d2:decide ((j:Int)<(i:Int))=true:=by simpa using hj
     have hj':j<ps.length:=by omega
     have hq:ps[j]? =some ps[j]:=by simp[hj']
     obtain⟨q,hqe⟩:∃z,ps[j]=z:=⟨_,rfl⟩
     rw[hqe] at hq
     have hy:(ps.map Ax)[j]? =some (Ax q):=by rw[A6X,hq];rfl
     have he:=TA p q
     have tk:ps.take (j+1)=ps.take j++[q]:=by rw[A6W,hq];rfl
     rcases tf (p==q) with e|e
     ·have hin:(ps.take i).contains p=true:=by
       rw[A6U]
       have e:p=q:=by simpa using e
       rw[e,List.mem_iff_getElem?]
       exact⟨j,by rw[List.getElem?_take_of_lt hj];exact hq⟩
      rw[hin] at hst
      have ht:=PP hst
      rw[e] at he
      rw[ht]
      simp only[Ax] at hx hy he
      simp +contextual only[t0,t3,t4,d2,hx,hy,he,go_sem]
     ·rw[e] at he
      simp only[Ax] at hx hy he
      simp +contextual only[t0,t3,t4,d2,hx,hy,he,AJ j (by omega),go_sem]
      have e1:(ps.take (j+1)).contains p=((ps.take j).contains p||(p==q)):=by
       rw[tk,A7H];simp
      rw[e1,hG,e];rfl
    ·clear t0 t3
     rintro⟨t,B',U'⟩ ⟨t0,t3,t4,hG,rfl,rfl⟩
     simp only at t0 t3 t4
     have d2:decide ((i:Int)<(i:Int))=false:=by simp
     rw[hG] at hst
     simp +contextual only[t0,t3,t4,d2,AJ i (by omega),go_sem]
     exact hst
   ·rintro⟨t,B,U⟩ ⟨t0,t3,hF,rfl,rfl⟩
    simp only at t0 t3
    have d1:decide (((ps.map Ax).length:Int)<(ps.map Ax).length)=false:=by simp
    rw[A6H,A6G] at hF
    rw[hF]
    simp +contextual only[t0,t3,d1,go_sem]
  ·cases h
 ·cases h
open Classical in
noncomputable def NI:List D->Option D
 | [d,.bool h,e]=>if Bi AK d/\isE AK e/\HA (dFs d) then some (.int .i64 (qB (dFs d) h e)) else none
 | _=>none
theorem A5N:AQ Tryz.prog 96 NI:=by
 refine AN (l:=[(157,Dx AK)]) (.cons (Us AK) .nil) A5I fun args r h=>?_
 unfold NI at h
 split at h
 ·rename_i d hb e
  split at h
  ·rename_i hc
   injection h with h;subst h
   refine⟨by simp,by simp[D.cl],fun H T=>?_⟩
   obtain⟨hd,he,hk⟩:=hc
   have ed:=Az hd
   have ee:=fL he
   obtain⟨c1,c2,c3,c4⟩:=BT he
   obtain⟨m,fs,us,m',ps,rfl,k1,k2,k3,k4,k5⟩:=hd
   simp only[tU] at hk ⊢
   simp only[Ah] at ed
   have ef:(aV m fs).erase=aV m fs:=by rw[Ag,bF fun x h=>jJ (k4 x h)]
   have pt:Dx AK [aV m fs,e]=some (C4 (CV AK fs e)):=by
    simp only[Dx];rw[if_pos ⟨⟨m,fs,rfl,k1,k4⟩,he⟩,AU,(Mc hk AK e).1]
   unfold qB
   obtain⟨⟨a,f⟩,htx⟩:∃z,CV AK fs e=z:=⟨_,rfl⟩
   rw[htx] at pt ⊢
   cases hb with
   | false=>simp +contextual only[c96,Ah,ed,ee,c1,c2,c3,c4,A7c,go_sem]
   | true =>
    rcases tf (f==0) with g|g
    ·rcases tf (a !=1) with g2|g2<;>simp +contextual only[c96,Ah,ed,ef,ee,c1,c2,c3,c4,pt,C4,g,g2,A69,A7m,A60,A7t,go_sem]
    ·simp +contextual only[c96,Ah,ed,ef,ee,c1,c2,c3,c4,pt,C4,g,A69,A7w,go_sem]
  ·cases h
 ·cases h
end GP
namespace GP
open Go Go.Proofs
set_option maxRecDepth 100000
theorem Bu.ext{sz:Nat}{T U V:Tk}{xs:List D}{d:D}(h:Bu sz T xs d U)(k:AY U V):Bu sz T xs d V:=by
 obtain⟨L,rfl⟩:=k;exact h.app L
theorem Bu.len{sz:Nat}{T U:Tk}{xs:List D}{d:D}(h:Bu sz T xs d U):C2 d=some xs.length:=by
 obtain⟨_,⟨rfl,rfl⟩|⟨i,_,rfl,_⟩⟩:=h<;>rfl
theorem Bu.sl{sz:Nat}{T U:Tk}{xs:List D}{d:D}(h:Bu sz T xs d U)(he:D.eraseL xs=xs):∃m,d.erase=aV m xs:=by
 obtain⟨_,⟨rfl,rfl⟩|⟨i,_,rfl,_⟩⟩:=h
 ·exact⟨true,by simp[D.erase,aV]⟩
 ·exact⟨false,by simp[D.erase,aV,he]⟩
theorem KD(l:List Nm):(l.map Ax).all (fit 2)=true:=by
 rw[List.all_map,A6E];intro x _;rfl
open Classical in
noncomputable def vM:List D->Option D
 | [d]=>if ckD2 d/\HA (dFs d) then some (.int .i64 (ckI d)) else none
 | _=>none
theorem W0{d e:D}{h:Bool}(hd:Bi AK d)(hk:HA (dFs d))(he:isE AK e):NI [d,.bool h,e]=some (.int .i64 (qB (dFs d) h e)):=by
 simp only[NI];rw[if_pos ⟨hd,he,hk⟩]
theorem W9{f:D->Nm}{xs:List D}{i:Nat}:(((xs.take i).map f).map Ax).length<=xs.length:=by
 rw[A6H,A6H,A7i];omega
theorem GU{f:D->Nm}{xs:List D}{i:Nat}{y:D}(h:xs.length<=2^40):((((xs.take i).map f).map Ax).length+[y].length)*32<=2^47/\(((xs.take i).map f).map Ax).length+[y].length<2^62:=by
 have:=W9 (f:=f) (xs:=xs) (i:=i)
 rw[List.length_singleton];omega
noncomputable abbrev ZQ:Fs:=[(94,NK),(95,Nz),(96,NI)]
theorem Er{f:D->Nm}{xs:List D}{i:Nat}{x:D}(h:xs[i]? =some x):((xs.take (i+1)).map f).map Ax=((xs.take i).map f).map Ax++[Ax (f x)]:=by
 rw[A6W,h,A7V,A7V];rfl
theorem A4K:AQ Tryz.prog 42 vM:=by
 have hX:=AR ZQ
 refine AN (l:=ZQ) (.cons A4y (.cons A3G (.cons A5N .nil))) A39 fun args r h=>?_
 unfold vM at h
 split at h
 ·rename_i d
  split at h
  ·rename_i hdk
   injection h with h;subst h
   refine⟨by simp,by simp[D.cl],fun H T=>?_⟩
   obtain⟨hd,hk⟩:=hdk
   have pt:=fun(h:Bool) (e:D) (he:isE AK e)=>W0 (h:=h) hd.s hk he
   obtain⟨hs,h1,h2,h3⟩:=hd
   have ed:=Az hs
   unfold ckI z6 J7
   obtain⟨m,fs,us,m',ps,rfl,k1,k2,k3,k4,k5⟩:=hs
   simp only[tU,lA,xU] at h1 h2 h3 pt ⊢
   simp only[Ah] at ed pt
   simp +contextual only[c42,Ah,ed,go_sem]
   refine Bm fs (fun i s=>s.t 1= .ptr H.length 0/\s.t 4= .nils/\s.t 5= .int .i64 (i:Int)/\Bu 2 T (((fs.take i).map nmF).map Ax) (s.t 3) s.T/\s.H=H++[.row [aV m fs,.str us,aV m' ps]]) hX ⟨by simp[upd],by simp[upd],by simp[upd],Bu.nil 2 T (AY.refl _),rfl⟩ ?_ ?_
   ·rintro i x ⟨t,B,U⟩ hx hm hi ⟨t1,t4,t5,hA,rfl⟩
    simp only at t1 t4 t5 hA
    have d1:decide ((i:Int)<fs.length)=true:=by simpa using hi
    have ms:=Er (f:=nmF) hx
    obtain⟨w,n,k,b,rfl,_⟩:=k4 x hm
    have e1:Ax (nmF (mkF w n k b))= .agg [.str w,.str n]:=rfl
    rw[e1] at ms
    simp +contextual only[t1,t4,t5,d1,hx,mkF,go_sem]
    refine An (bytes:=32) _ hA rfl (KD _) (GU (f:=nmF) (xs:=fs) (i:=i) (by omega)).1 (GU (f:=nmF) (xs:=fs) (i:=i) (by omega)).2 fun d2 T2 hA2=>?_
    simp +contextual only[t1,t4,t5,AJ i (by omega),go_sem]
    rw[ms];exact hA2
   ·rintro⟨t,B,U⟩ ⟨t1,t4,t5,hA,rfl⟩
    simp only at t1 t4 t5 hA
    have d1:decide ((fs.length:Int)<fs.length)=false:=by simp
    rw[A6G] at hA
    obtain⟨m3,em3⟩:=hA.sl (HM _)
    have hT0:=hA.1
    obtain⟨D3,hD3⟩:∃z,t 3=z:=⟨_,rfl⟩
    rw[hD3] at em3
    clear hA
    have pu:NK [.str us]=some (.bool (DE us)):=rfl
    simp +contextual only[t1,t4,t5,hD3,d1,pu,go_sem]
    refine Bm ps (fun i s=>s.t 1= .ptr H.length 0/\s.t 3=D3/\s.t 6= .bool ((ps.take i).any fun p=>twB ((pRs p).map nmR))/\s.t 7= .bool (DE us&&(ps.take i).all fun p=>DE (pUs p))/\s.t 8= .int .i64 (EC (ps.take i):Int)/\s.t 9= .int .i64 (i:Int)/\Bu 2 U (((ps.take i).map nmP).map Ax) (s.t 4) s.T/\s.H=H++[.row [aV m fs,.str us,aV m' ps]]) hX ⟨by simp[upd,t1],by simp[upd,hD3],by simp[upd],by simp[upd],by simp[upd,EC],by simp[upd],by simpa[upd,t4] using Bu.nil 2 U (AY.refl _),rfl⟩ ?_ ?_
    ·clear t1 t4 t5 hD3 d1
     rintro i x ⟨t,B,V⟩ hx hm hi ⟨t1,t3,t6,t7,t8,t9,hA,rfl⟩
     simp only at t1 t3 t6 t7 t8 t9 hA
     have d1:decide ((i:Int)<ps.length)=true:=by simpa using hi
     have hr:=h3 x hm
     have hs:=PV h3 i
     have ms:=Er (f:=nmP) hx
     have tk:ps.take (i+1)=ps.take i++[x]:=by rw[A6W,hx];rfl
     have ts:EC (ps.take (i+1))=EC (ps.take i)+(pRs x).length:=by rw[tk];simp[EC]
     have ta:(ps.take (i+1)).all (fun p=>DE (pUs p))=((ps.take i).all (fun p=>DE (pUs p))&&DE (pUs x)):=by rw[tk];simp
     have ty:((ps.take (i+1)).any fun p=>twB ((pRs p).map nmR))=(((ps.take i).any fun p=>twB ((pRs p).map nmR))||twB ((pRs x).map nmR)):=by rw[tk];simp
     rw[ts,ta,ty,← A7Y]
     clear tk ts ta ty
     obtain⟨S,hS⟩:∃z,EC (ps.take i)=z:=⟨_,rfl⟩
     obtain⟨b7,hb7⟩:∃z,(DE us&&(ps.take i).all fun p=>DE (pUs p))=z:=⟨_,rfl⟩
     obtain⟨b6,hb6⟩:∃z,((ps.take i).any fun p=>twB ((pRs p).map nmR))=z:=⟨_,rfl⟩
     rw[hS] at hs t8 ⊢
     rw[hb7] at t7 ⊢
     rw[hb6] at t6 ⊢
     obtain⟨nm,bn,us',hf,e,mm,rs,rfl,he,l1,l2,l3,l4,l5⟩:=k5 x hm
     rw[iQ] at hr ⊢
     rw[xQ]
     have e1:Ax (nmP (mkP nm bn us' hf e mm rs))= .agg [.str nm,.str []]:=by simp[Ax,nmP,yH]
     rw[e1] at ms
     have w2:IntKind.i64.wrap ((S:Int)+rs.length)=((S+rs.length:Nat):Int):=by rw[<- A7U];exact Hu (by omega) (by omega)
     simp +contextual only[t1,t3,t6,t7,t8,t9,d1,hx,mkP,go_sem]
     refine Bm rs (fun j s=>s.t 1= .ptr H.length 0/\s.t 3=D3/\s.t 4=t 4/\s.t 6= .bool b6/\s.t 7= .bool b7/\s.t 8= .int .i64 (S:Int)/\s.t 9= .int .i64 (i:Int)/\s.t 11= .int .i64 (j:Int)/\Bu 2 V (((rs.take j).map nmR).map Ax) (s.t 10) s.T/\s.H=H++[.row [aV m fs,.str us,aV m' ps]]) hX ⟨by simp[upd,t1],by simp[upd,t3],by simp[upd],by simp[upd,t6],by simp[upd,t7],by simp[upd,t8],by simp[upd,t9],by simp[upd],Bu.nil 2 V (AY.refl _),rfl⟩ ?_ ?_
     ·obtain⟨D4,hD4⟩:∃z,t 4=z:=⟨_,rfl⟩
      rw[hD4]
      clear t1 t3 t6 t7 t8 t9 hA
      rintro j y ⟨t,B,W⟩ hy hmy hj ⟨t1,t3,t4,t6,t7,t8,t9,t11,hA,rfl⟩
      simp only at t1 t3 t4 t6 t7 t8 t9 t11 hA
      have d2:decide ((j:Int)<rs.length)=true:=by simpa using hj
      have ms2:=Er (f:=nmR) hy
      obtain⟨pm,hi',nm',e',ma,mb,du,ad,rfl,_⟩:=l5 y hmy
      have e2:Ax (nmR (mkR pm hi' nm' e' ma mb du ad))= .agg [.str nm',.str []]:=by simp[Ax,nmR,yI]
      rw[e2] at ms2
      obtain⟨DU,hDU⟩:∃z,aV ma (du.map D.str)=z:=⟨_,rfl⟩
      obtain⟨AD,hAD⟩:∃z,aV mb (ad.map D.str)=z:=⟨_,rfl⟩
      simp only[mkP] at hx
      simp +contextual only[t1,t3,t4,t6,t7,t8,t9,t11,d2,hx,hy,mkR,hDU,hAD,go_sem]
      refine An (bytes:=32) _ (hA.app _) rfl (KD _) (GU (f:=nmR) (xs:=rs) (i:=j) (by omega)).1 (GU (f:=nmR) (xs:=rs) (i:=j) (by omega)).2 fun d2 T2 hA2=>?_
      simp +contextual only[t1,t3,t4,t6,t7,t8,t9,t11,AJ j (by omega),go_sem]
      rw[ms2];exact hA2
     ·rintro⟨t',B',W⟩ ⟨s1,s3,s4,s6,s7,s8,s9,s11,hA',rfl⟩
      simp only at s1 s3 s4 s6 s7 s8 s9 s11 hA'
      have d2:decide ((rs.length:Int)<rs.length)=false:=by simp
      rw[A6G] at hA'
      have hA2:=hA.ext hA'.1
      have hl:=hA'.len
      rw[A6H,A6H] at hl
      obtain⟨m5,em5⟩:=hA'.sl (HM _)
      have p5:=RA m5 (ps:=rs.map nmR) (by rw[A6H];omega)
      obtain⟨D10,hD10⟩:∃z,t' 10=z:=⟨_,rfl⟩
      obtain⟨D4,hD4⟩:∃z,t 4=z:=⟨_,rfl⟩
      rw[hD10] at hl em5
      rw[hD4] at s4 hA2
      simp only[mkP] at hx
      simp +contextual only[s1,s3,s4,s6,s7,s8,s9,s11,hD10,d2,hx,go_sem]
      refine An (bytes:=32) _ (hA2.app _) rfl (KD _) (GU (f:=nmP) (xs:=ps) (i:=i) (by omega)).1 (GU (f:=nmP) (xs:=ps) (i:=i) (by omega)).2 fun d3 T3 hA3=>?_
      have pu2:NK [.str us']=some (.bool (DE us')):=rfl
      obtain⟨t5',ht5⟩:∃z,twB (rs.map nmR)=z:=⟨_,rfl⟩
      rw[ht5] at p5 ⊢
      cases b6<;>cases b7<;>simp +contextual only[s1,s3,s4,s6,s7,s8,s9,s11,hD10,hx,em5,p5,pu2,hl,w2,AJ i (by omega),A76,A7s,A7e,A60,A7w,go_sem]<;>(rw[ms];exact hA3)
    ·clear t1 t4 t5 hD3 d1
     rintro⟨t,B,V⟩ ⟨t1,t3,t6,t7,t8,t9,hA,rfl⟩
     simp only at t1 t3 t6 t7 t8 t9 hA
     have d1:decide ((ps.length:Int)<ps.length)=false:=by simp
     rw[A6G] at hA t6 t7 t8
     obtain⟨m4,em4⟩:=hA.sl (HM _)
     have hT1:=hA.1
     obtain⟨D4,hD4⟩:∃z,t 4=z:=⟨_,rfl⟩
     rw[hD4] at em4
     clear hA
     have p3:=RA m3 (ps:=fs.map nmF) (by rw[A6H];omega)
     have p4:=RA m4 (ps:=ps.map nmP) (by rw[A6H];omega)
     obtain⟨B3,hB3⟩:∃z,twB (fs.map nmF)=z:=⟨_,rfl⟩
     obtain⟨B4,hB4⟩:∃z,twB (ps.map nmP)=z:=⟨_,rfl⟩
     obtain⟨B6,hB6⟩:∃z,(ps.any fun p=>twB ((pRs p).map nmR))=z:=⟨_,rfl⟩
     obtain⟨B7,hB7⟩:∃z,(DE us&&ps.all fun p=>DE (pUs p))=z:=⟨_,rfl⟩
     rw[hB3] at p3 ⊢
     rw[hB4] at p4 ⊢
     rw[hB6] at t6 ⊢
     rw[hB7] at t7 ⊢
     obtain⟨S,hS⟩:∃z,EC ps=z:=⟨_,rfl⟩
     rw[hS] at t8 ⊢
     have hTV:AY T V:=by
      obtain⟨L,rfl⟩:=hT0
      obtain⟨M,rfl⟩:=hT1
      exact⟨L++M,by simp⟩
     have L:=fun(r r0:D)=>Ad (r:=r) (r0:=r0) (Ext.of H [.row [aV m fs,.str us,aV m' ps]]) hTV
     cases B3 with
     | true=>simp +contextual only[t1,t3,t6,t7,t8,t9,hD4,d1,em3,em4,p3,p4,A7s,L,go_sem]
     | false =>
     cases B4 with
     | true=>simp +contextual only[t1,t3,t6,t7,t8,t9,hD4,d1,em3,em4,p3,p4,A7s,A7e,L,go_sem]
     | false =>
     cases B6 with
     | true=>simp +contextual only[t1,t3,t6,t7,t8,t9,hD4,d1,em3,em4,p3,p4,A7s,A7e,L,go_sem]
     | false =>
     cases B7 with
     | false=>simp +contextual only[t1,t3,t6,t7,t8,t9,hD4,d1,em3,em4,p3,p4,A7Q,A7c,A6B,L,go_sem]
     | true =>
     rcases tf (decide (24<(S:Int))) with g|g
     ·simp +contextual only[t1,t3,t6,t7,t8,t9,hD4,d1,em3,em4,p3,p4,g,A7Q,A69,A6B,L,go_sem]
     simp +contextual only[t1,t3,t6,t7,t8,t9,hD4,d1,em3,em4,p3,p4,g,A7Q,A69,A6B,go_sem]
     clear L em3 em4 p3 p4
     refine Bm ps (fun i s=>s.t 1= .ptr H.length 0/\s.t 12= .int .i64 (i:Int)/\Ct (J4 fs) ps=Ct (J4 fs) (ps.drop i)/\Ext (H++[.row [aV m fs,.str us,aV m' ps]]) s.H/\s.T=V) hX ⟨by simp[upd,t1],by simp[upd],by simp,Ext.refl _,rfl⟩ ?_ ?_
     ·clear t1 t3 t6 t7 t8 t9 hD4 d1
      rintro i x ⟨t,B,V'⟩ hx hm hi ⟨t1,t12,hF,hB,rfl⟩
      simp only at t1 t12 hB
      have d1:decide ((i:Int)<ps.length)=true:=by simpa using hi
      have hg:=hB.get (o:=H.length) (by simp;rfl)
      rw[FQ hx] at hF
      obtain⟨nm,bn,us',hf,e,mm,rs,rfl,he,l1,l2,l3,l4,l5⟩:=k5 x hm
      have hr:=h3 _ hm
      rw[iQ] at hr
      have hE:=pB he
      have ee:=fL he
      have p1:=pt hf e he
      have hP:J4 fs (mkP nm bn us' hf e mm rs)=if qB fs hf e !=0 then qB fs hf e else Ct (I7 fs) rs:=by
       unfold J4;rw[y7,qO _ _ _ _ _ _ _ he,iQ]
      obtain⟨pi,hpi⟩:∃z,J4 fs (mkP nm bn us' hf e mm rs)=z:=⟨_,rfl⟩
      rw[hpi] at hF hP
      obtain⟨v,hv⟩:∃z,qB fs hf e=z:=⟨_,rfl⟩
      rw[hv] at p1 hP
      clear hpi hv
      simp +contextual only[t1,t12,AM hg,AO hg,d1,hx,mkP,hE,ee,ed,p1,go_sem]
      refine Bm rs (fun j s=>s.t 1= .ptr H.length 0/\s.t 12= .int .i64 (i:Int)/\s.t 13= .ptr B.length 0/\s.t 15= .int .i64 (j:Int)/\(∃w:Int,s.t 14= .int .i64 w/\pi=if w !=0 then w else Ct (I7 fs) (rs.drop j))/\Ext (B++[.row (mkP nm bn us' hf e mm rs).cells]) s.H/\s.T=V') hX ⟨by simp[upd,t1],by simp[upd,t12],by simp[upd],by simp[upd],⟨v,by simp[upd],by simpa using hP⟩,Ext.refl _,rfl⟩ ?_ ?_
      ·clear hg t1 t12 hP p1 d1
       rintro j y ⟨t',B',V2⟩ hy hmy hj ⟨t1,t12,t13,t15,⟨w,t14,hW⟩,hB2,rfl⟩
       simp only at t1 t12 t13 t15 t14 hB2
       have hB3:=(hB.app _).trans hB2
       have d2:decide ((j:Int)<rs.length)=true:=by simpa using hj
       have hg:=hB3.get (o:=H.length) (by simp;rfl)
       have hg2:=hB2.get (o:=B.length) (by simp;rfl)
       simp only[mkP,D.cells] at hg2
       rcases tf (w==0) with e0|e0
       ·have e1:(w !=0)=false:=by simp[bne,e0]
        simp only[e1,A6B,if_false] at hW
        rw[FQ hy] at hW
        obtain⟨pm,hi',nm',e',ma,mb,du,ad,rfl,he',_,_,_⟩:=l5 y hmy
        have hE':=pB he'
        have ee':=fL he'
        have p2:=pt hi' e' he'
        have hR:I7 fs (mkR pm hi' nm' e' ma mb du ad)=qB fs hi' e':=by
         unfold I7;rw[zF,jL _ _ _ _ _ _ _ _ he']
        rw[hR] at hW
        obtain⟨DU,hDU⟩:∃z,aV ma (du.map D.str)=z:=⟨_,rfl⟩
        obtain⟨AD,hAD⟩:∃z,aV mb (ad.map D.str)=z:=⟨_,rfl⟩
        simp +contextual only[t1,t12,t13,t14,t15,AM hg,AM hg2,d2,e0,hy,mkR,hDU,hAD,hE',ee',ed,p2,AJ j (by omega),go_sem]
        exact⟨⟨_,rfl,hW⟩,hB2⟩
       ·have e1:(w !=0)=true:=by simp[bne,e0]
        simp only[e1,if_true] at hW
        subst hW
        simp only[e1,if_true] at hF
        rw[hF]
        simp +contextual only[t1,t12,t13,t14,t15,AM hg,AM hg2,d2,e0,e1,Ad hB3.pre hTV,go_sem]
      ·rintro⟨t',B',V2⟩ ⟨t1,t12,t13,t15,⟨w,t14,hW⟩,hB2,rfl⟩
       simp only at t1 t12 t13 t15 t14 hB2
       have hB3:=(hB.app _).trans hB2
       have d2:decide ((rs.length:Int)<rs.length)=false:=by simp
       have hg:=hB3.get (o:=H.length) (by simp;rfl)
       have hg2:=hB2.get (o:=B.length) (by simp;rfl)
       simp only[mkP,D.cells] at hg2
       rw[A7d] at hW
       rcases tf (w !=0) with e1|e1
       ·simp only[e1,if_true] at hW
        subst hW
        simp only[e1,if_true] at hF
        rw[hF]
        simp +contextual only[t1,t12,t13,t14,t15,AM hg,AM hg2,d2,e1,Ad hB3.pre hTV,go_sem]
       ·simp only[e1,A6B,if_false,Ct] at hW
        subst hW
        simp only[bne_self_eq_false,A6B,if_false] at hF
        simp +contextual only[t1,t12,t13,t14,t15,AM hg,AM hg2,d2,e1,AJ i (by omega),go_sem]
        exact⟨hF,hB3⟩
     ·rintro⟨t,B,V'⟩ ⟨t1,t12,hF,hB,rfl⟩
      simp only at t1 t12 hB
      have d1:decide ((ps.length:Int)<ps.length)=false:=by simp
      have hg:=hB.get (o:=H.length) (by simp;rfl)
      rw[hF,A7d]
      simp +contextual only[t1,t12,AM hg,d1,Ct,Ad hB.pre hTV,go_sem]
  ·cases h
 ·cases h
end GP
namespace GP
open Go Go.Proofs
set_option maxRecDepth 100000
structure Step2(toks:List D)(st st2:St):Prop where
 ok:(st.2=0∨st.2=2∨st.2=11)/\st.1<=toks.length->(st2.2=0∨st2.2=2∨st2.2=11)/\st2.1<=toks.length
 stuck:st.2≠0->st2=st
 adv:st.2=0->st.1<=st2.1
section
variable {toks:List D} {a b c:St}
theorem Step.two(h:Step toks a b):Step2 toks a b:=⟨fun q=>by
  rcases q with⟨q|q|q,q2⟩
  ·obtain⟨k1,k2⟩:=h.ok ⟨.inl q,q2⟩
   exact⟨k1.imp_right .inl,k2⟩
  ·obtain⟨k1,k2⟩:=h.ok ⟨.inr q,q2⟩
   exact⟨k1.imp_right .inl,k2⟩
  ·rw[h.stuck (by omega)];exact⟨.inr (.inr q),q2⟩,h.stuck,h.adv⟩
theorem Step2.refl(toks:List D)(a:St):Step2 toks a a:=⟨fun h=>h,fun _=>rfl,fun _=>A67 _⟩
theorem Step2.trans(h:Step2 toks a b)(k:Step2 toks b c):Step2 toks a c :=
 ⟨fun q=>k.ok (h.ok q),fun q=>by have:=h.stuck q;rw[this] at k;rw[k.stuck q],fun q=>by
  have h1:=h.adv q
  by_cases hb:b.2=0
  ·exact A73 h1 (k.adv hb)
  ·rw[k.stuck hb];exact h1⟩
theorem Step2.e0(h:Step2 toks a b)(hb:b.2=0):a.2=0:=by
 by_cases ha:a.2=0
 ·exact ha
 ·rw[h.stuck ha] at hb;exact hb
def mu(toks:List D)(st:St):Nat:=if st.2=0 then toks.length - st.1+1 else 0
theorem Step2.mu(h:Step2 toks a b):mu toks b<=mu toks a:=by
 unfold GP.mu
 by_cases hb:b.2=0
 ·have ha:=h.e0 hb
  rw[if_pos hb,if_pos ha]
  have:=h.adv ha;omega
 ·rw[if_neg hb];omega
end
section
variable {toks:List D}
end
end GP
namespace GP
open Go Go.Proofs
set_option maxRecDepth 100000
theorem dR:Bi AK bA:=⟨true,[],[],true,[],rfl,by simp,by simp,by simp,by simp,by simp⟩
theorem Lz:gI [bA,bA]=some (.bool true):=by
 simp only[gI]
 rw[if_pos ⟨dR,dR⟩];rfl
structure LexS(l:List UInt8)(r:List D×Nat×Int):Prop where
 t:r.1.all Aq=true
 n:r.1.length<=600
 m:r.1.length<=l.length
 a:r.2.1<=l.length
 e:r.2.2=0∨r.2.2=2∨r.2.2=3∨r.2.2=13
theorem sR{d:D}(h:okD d=true):HA (dFs d):=fun f hf=>by
 obtain⟨_,o2,_⟩:=mN h
 have:=o2 f hf
 unfold okF at this
 simp only[A6A,A6R,decide_eq_false_iff_not] at this
 omega
theorem KO{m:Bool}{l:List D}(h:∀x∈l,x.cl 0 0=true):(aV m l).cl 0 0=true:=by
 have e:D.clL 0 0 l=true:=D8 h
 rcases kM m l with⟨e1,rfl⟩|e1<;>rw[e1]
 ·rfl
 ·simp[D.cl,e]
theorem Ru:∀{n:Nat} {d:D},isE n d->d.cl 0 0=true
 | 0,_,h=>h.elim
 | n+1,d,h=>by
  obtain⟨op,k,i,s,nl,l,who,name,m,ps,rfl,h1,h2,h3,h4,h5,h6⟩:=h
  have c:(mkV k i s nl l).cl 0 0=true:=ST h4.1
  have cp:=KO (m:=m) fun x hx=>Ru (h6 x hx)
  simp only[mkV,D.cl,D.clL] at c
  simp only[mkE,D.cl,D.clL,cp]
  simpa using c
theorem PU{n:Nat}{e:D}(h:isE n e):(cE e 0).cl 0 0=true/\(cE e 1).cl 0 0=true/\(cE e 2).cl 0 0=true/\(cE e 3).cl 0 0=true/\(cE e 4).cl 0 0=true/\(cE e 5).cl 0 0=true/\(cE e 6).cl 0 0=true/\(cE e 7).cl 0 0=true:=by
 have c:=Ru h
 rw[<- pB h] at c
 simp only[D.cl,D.clL,A6A,and_true] at c
 exact⟨c.1,c.2.1,c.2.2.1,c.2.2.2.1,c.2.2.2.2.1,c.2.2.2.2.2.1,c.2.2.2.2.2.2.1,c.2.2.2.2.2.2.2⟩
theorem RI(m:Bool)(l:List (List UInt8)):(aV m (l.map D.str)).cl 0 0=true:=KO fun x hx=>by
 obtain⟨y,_,rfl⟩:=A68.1 hx;rfl
theorem WY{n:Nat}{r:D}(h:isR n r):r.cl 0 0=true:=by
 obtain⟨pm,hi,nm,e,m,m',du,ad,rfl,he,_⟩:=h
 obtain⟨a0,a1,a2,a3,a4,a5,a6,a7⟩:=PU he
 simp only[mkR,D.cl,D.clL,a0,a1,a2,a3,a4,a5,a6,a7,RI,A6Z]
theorem Ud{n:Nat}{p:D}(h:Fh n p):p.cl 0 0=true:=by
 obtain⟨nm,bn,us,hf,e,m,rs,rfl,he,_,_,_,_,k⟩:=h
 obtain⟨a0,a1,a2,a3,a4,a5,a6,a7⟩:=PU he
 have c:=KO (m:=m) fun x hx=>WY (k x hx)
 simp only[mkP,D.cl,D.clL,a0,a1,a2,a3,a4,a5,a6,a7,c,A6Z]
theorem RZ{n:Nat}{d:D}(h:Bi n d):d.cl 0 0=true:=by
 obtain⟨m,fs,us,m',ps,rfl,_,_,_,k4,k5⟩:=h
 have c1:=KO (m:=m) (l:=fs) fun x hx=>by
  obtain⟨w,n,k,b,rfl,_⟩:=k4 x hx;rfl
 have c2:=KO (m:=m') fun x hx=>Ud (k5 x hx)
 simp only[Ah,D.cl,D.clL,c1,c2,A6Z]
noncomputable def E8(l:List UInt8):D×Nat×Int :=
 if(CJ l).2.2 !=0 then(bA,(CJ l).2.1,(CJ l).2.2) else
 match oW (CJ l).1 with
 | none=>(bA,0,99)
 | some r=>if r.2.2 !=0 then(bA,r.2.1,r.2.2) else if ckI r.1 !=0 then(bA,r.2.1,ckI r.1) else(r.1,0,0)
structure LoadS(l:List UInt8)(r:D×Nat×Int):Prop where
 d:Bi AK r.1
 k:ckD2 r.1
 bad:r.2.2≠0->r.1=bA/\r.2.1<=l.length
 good:r.2.2=0->okD r.1=true/\rgD r.1/\ckI r.1=0
theorem KY{r:D×Nat×Int}(h:Bi AK r.1):(D.tup [r.1,.int .i64 (r.2.1:Nat),.int .i64 r.2.2]).cl 0 0=true:=by
 simp only[D.cl,D.clL,RZ h,A6Z]
def M0:D:=mkE [110,111,119] 0 0 [] true [] [] [] true []
theorem TM:isE 1 M0:=⟨_,_,_,_,_,_,_,_,_,_,rfl,by simp,by simp,by simp,⟨by simp[mkV,aV,D.isV],by simp[mkV,vi],by simp[mkV,vi]⟩,by simp,by simp⟩
theorem TB:FX 1 [.nils,M0]=some (.tup [.int .i64 4,.int .i64 0]):=by
 simp only[FX]
 rw[if_pos ⟨LV _,TM⟩]
 rfl
theorem A3m:AQ Tryz.prog 43 JV:=by
 refine AN (l:=[(97,FX 1),(98,DR)]) (.cons (WR 1) (.cons A0Z .nil)) A3t fun args r h=>?_
 unfold JV at h
 split at h
 ·injection h with h;subst h
  refine⟨by simp,by simp[D.cl],fun H T=>?_⟩
  have p:=TB
  simp only[M0,mkE,aV,List.isEmpty_nil,A60,if_true] at p
  simp +contextual only[c43,p,DR,Cu,go_sem]
 ·cases h
end GP
