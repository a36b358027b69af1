import Derived.Test.YtainhmbnbgonhaaGreatDoorM9
import Derived.Test.YtainhmbnbgonhaaGreatDoorM10
set_option maxHeartbeats 16000000
open List renaming mem_cons->A6A,not_mem_nil->A6C,all_eq_true->A6E,mem_append->A6F,getElem?_eq_none_iff->A6G,mem_of_getElem?->A6H,getD_eq_getElem?_getD->A6I,getElem?_eq_some_iff->A6J,length_take->A6K,mem_map->A6M,take_add_one->A6P,range->A6Q,getElem?_map->A6R,take_length->A6S,length_cons->A6T,length_map->A6U
open Bool renaming and_eq_true->A6B,not_eq_true'->A6D,not_eq_true->A6L,not_eq_false'->A6N,true_and->A6O,or_eq_true->A6V
set_option linter.unusedSimpArgs false
set_option linter.unnecessarySimpa false
namespace GP
open Go Go.Proofs
set_option maxRecDepth 100000
theorem gQ{full:Bool}{s least:Int}{l:List D}(h:∀x∈l,inT x):∀x∈Bl full s least l,inT x:=by
 intro x hx
 unfold Bl at hx
 split at hx
 ·exact h x hx
 ·simp only[A6A,A6F,A6C,or_false] at hx
  rcases hx with rfl|hx|rfl
  ·exact b9 (by decide) (by decide) (by decide) (by decide)
  ·exact h x hx
  ·exact b9 (by decide) (by decide) (by decide) (by decide)
theorem uR {full:Bool}:∀e,GoodE e->rgC e->∀x∈tkC full e,inT x:=by
 refine mD (P:=fun e=>rgC e->∀x∈tkC full e,inT x) fun e hg ih hr x hx=>?_
 have pL:inT tP:=b9 (by decide) (by decide) (by decide) (by decide)
 have pR:inT tQ:=b9 (by decide) (by decide) (by decide) (by decide)
 have hT:=hg.parts.2.2.2
 rcases hg.op with g|g|g|g|g|g|g|g|g
 ·rw[oB hg g] at hx
  exact xP (fN hT g).1 (Vn hg.t.can).2 hr.v x hx
 ·rw[pX hg g] at hx
  simp only[A6A,A6C,or_false] at hx;subst hx
  exact aL (by decide)
 ·rw[kG hg g] at hx
  have g1:(eop e==Bq)=false:=by rw[AL g];decide
  obtain⟨_,_,f3,_⟩:=kZ hT g1
  obtain⟨w1,w2⟩:=f3 (.inl g)
  simp only[A6A,A6C,or_false] at hx
  rcases hx with rfl|rfl|rfl
  ·exact aL (pI w1)
  ·exact b9 (by decide) (by decide) (by decide) (by decide)
  ·exact dA w2
 ·rw[q8 hg g] at hx
  have g1:(eop e==Bq)=false:=by rw[AL g];decide
  obtain⟨_,_,f3,_⟩:=kZ hT g1
  obtain⟨w1,w2⟩:=f3 (.inr g)
  simp only[A6A,A6C,or_false] at hx
  rcases hx with rfl|rfl|rfl|rfl|rfl|rfl
  ·exact aL (by decide)
  ·exact pL
  ·exact aL (pI w1)
  ·exact b9 (by decide) (by decide) (by decide) (by decide)
  ·exact dA w2
  ·exact pR
 ·rw[lD hg g] at hx
  have g1:(eop e==Bq)=false:=by rw[AL g];decide
  have g2:(eop e==Bh)=false:=by rw[AL g];decide
  have g3:(eop e==CB)=false:=by rw[AL g];decide
  obtain⟨_,_,_,f4⟩:=kZ hT g1
  obtain⟨_,w2⟩:=f4 g2 g3 g
  simp only[A6A,A6C,or_false] at hx
  rcases hx with rfl|rfl|rfl|rfl
  ·exact aL (by decide)
  ·exact pL
  ·exact lF w2
  ·exact pR
 ·obtain⟨h1,y,hy,hs⟩:=hg.one (.inl g)
  have hm:Aw e∈eps e:=by rw[hy,hs];simp
  rw[lI hg g] at hx
  simp only[A6A,A6F,A6C,or_false] at hx
  rcases hx with rfl|rfl|hx|rfl
  ·exact aL (by decide)
  ·exact pL
  ·exact ih _ hm (hr.p _ hm) x hx
  ·exact pR
 ·obtain⟨h1,y,hy,hs⟩:=hg.one (.inr (.inl g))
  have hm:Aw e∈eps e:=by rw[hy,hs];simp
  rw[oQ hg g] at hx
  rcases A6A.1 hx with rfl|hx
  ·exact aL (by decide)
  ·exact gQ (ih _ hm (hr.p _ hm)) x hx
 ·obtain⟨h1,y,hy,hs⟩:=hg.one (.inr (.inr g))
  have hm:Aw e∈eps e:=by rw[hy,hs];simp
  rw[pZ hg g] at hx
  rcases A6A.1 hx with rfl|hx
  ·exact b9 (by decide) (by decide) (by decide) (by decide)
  ·exact gQ (ih _ hm (hr.p _ hm)) x hx
 ·obtain⟨h0,h1,m0,m1,_⟩:=hg.two g
  rw[o8 hg g] at hx
  rcases A6F.1 hx with hx|hx
  ·exact gQ (ih _ m0 (hr.p _ m0)) x hx
  ·rcases A6A.1 hx with rfl|hx
   ·exact zV g
   ·exact gQ (ih _ m1 (hr.p _ m1)) x hx
theorem Ta{full:Bool}{r:D}(h:goodR full r)(ho:okR r=true)(hr:rgC (rE r)):∀x∈B8 full r,Ew x=true:=by
 unfold okR at ho
 simp only[A6B] at ho
 obtain⟨h1,h2,h3,h4⟩:=ho
 intro x hx
 unfold B8 at hx
 simp only[A6F,A6A,A6C,or_false] at hx
 rcases hx with((((rfl|rfl)|hx)|hx)|hx)|rfl
 ·cases rPm r<;>exact(aL (by decide)).1
 ·exact(dA h1).1
 ·unfold ifT at hx
  split at hx
  ·rename_i hh
   rcases A6A.1 hx with rfl|hx
   ·exact(aL (by decide)).1
   ·exact(uR _ (h.e hh).1 hr x hx).1
  ·cases hx
 ·exact(qD (by decide) h3 x hx).1
 ·exact(qD (by decide) h4 x hx).1
 ·decide
theorem oZ{f:D->List D}{l:List D}(h:∀x∈l,∀y∈f x,Ew y=true):∀y∈BC f l,Ew y=true:=by
 intro y hy
 unfold BC at hy
 simp only[List.mem_flatten,A6M] at hy
 obtain⟨_,⟨x,hx,rfl⟩,hy⟩:=hy
 exact h x hx y hy
theorem zD{full:Bool}{p:D}(h:goodP full p)(ho:okP p=true)(hr:rgC (pE p)/\∀r∈pRs p,rgC (rE r)):∀x∈Dw full p,Ew x=true:=by
 unfold okP at ho
 simp only[A6B] at ho
 obtain⟨h1,h2,h3,h4,h5⟩:=ho
 intro x hx
 unfold Dw at hx
 simp only[A6F,A6A,A6C,or_false] at hx
 rcases hx with(((rfl|rfl|rfl|rfl|rfl|rfl|rfl)|hx)|hx)|rfl
 ·decide
 ·exact(dA h1).1
 ·decide
 ·exact(dA h2).1
 ·decide
 ·exact(aL h3).1
 ·decide
 ·unfold Hg at hx
  split at hx
  ·rename_i hh
   rcases A6A.1 hx with rfl|hx
   ·decide
   rcases A6F.1 hx with hx|hx
   ·exact(uR _ (h.e hh).1 hr.1 x hx).1
   ·rw[List.mem_singleton] at hx;subst hx;decide
  ·cases hx
 ·exact oZ (fun r hm=>Ta (h.r r hm) (A6E.1 h5 r hm) (hr.2 r hm)) x hx
 ·decide
theorem xA{f:D}(h:okF f=true):∀x∈CG f,Ew x=true:=by
 unfold okF at h
 simp only[A6B,A6D,decide_eq_false_iff_not] at h
 obtain⟨h1,h2,h3,h4⟩:=h
 intro x hx
 unfold CG at hx
 simp only[A6F,A6A,A6C,or_false] at hx
 rcases hx with((rfl|rfl|rfl|rfl|rfl)|hx)|rfl
 ·decide
 ·exact(aL (pI h1)).1
 ·decide
 ·exact(dA h2).1
 ·exact(aL (yS (by omega) (by omega))).1
 ·unfold IZ at hx
  split at hx
  ·simp only[A6A,A6C,or_false] at hx;subst hx;decide
  ·cases hx
 ·decide
theorem uH{full:Bool}{d:D}(hG:goodD full d)(hb:okD d=true)(hr:rgD d):∀x∈Bc full d,Ew x=true:=by
 obtain⟨o1,o2,o3⟩:=mN hb
 intro x hx
 unfold Bc at hx
 simp only[A6F,A6A,A6C,or_false] at hx
 rcases hx with(hx|rfl|rfl|rfl)|hx
 ·exact oZ (fun f hf=>xA (o2 f hf)) x hx
 ·decide
 ·exact(aL o1).1
 ·decide
 ·exact oZ (fun p hp=>zD (hG.p p hp) (o3 p hp) (hr p hp)) x hx
theorem VY{x:D}(h:Ew x=true):LH x:=by
 obtain⟨k,s,n,rfl,hf,_,hn⟩:=kC h
 exact⟨k,s,n,rfl,hf,hn⟩
def jkW(toks:List D):Bool:=toks.all Ew&& !toks.isEmpty&&decide (toks.length<=2^38)&&decide ((jnG toks).length<=2^46)
def xJ:List D->Option D
 | [.sl none toks]=>if jkW toks=true then some (.str (jnG toks)) else none
 | _=>none
theorem A1c:AQ Tryz.prog 46 xJ:=by
 have hX:=AR [(101,Gf),(88,Ib)]
 refine AN (l:=[(101,Gf),(88,Ib)]) (.cons A07 (.cons A5z .nil)) A5l fun args r h=>?_
 unfold xJ at h
 split at h
 ·rename_i toks
  split at h
  ·rename_i hc
   simp only[jkW,A6B,decide_eq_true_eq,A6D,List.isEmpty_eq_false_iff] at hc
   obtain⟨⟨⟨h1,h0⟩,h2⟩,h3⟩:=hc
   injection h with h;subst h
   refine⟨by simp,by simp[D.cl],fun H T=>?_⟩
   have strs:∀l:List D,(l.map fun x=>D.str (BL x)).map EZ=l.map BL:=fun l=>by rw[List.map_map];rfl
   have lens:∀x∈toks,(BL x).length<=2^47:=fun x hx=>by
    exact Ra (A6E.1 h1 x hx)
   have p88:Ib [.sl none (toks.map fun x=>D.str (BL x)),.str [32]]=some (.str (jnG toks)):=by
    have hL:G6 NM (.sl none (toks.map fun x=>D.str (BL x))):=⟨false,_,rfl,by rw[A6U];omega,fun y hy=>by
     obtain⟨x,hx,rfl⟩:=A6M.1 hy
     exact⟨_,rfl,lens x hx⟩⟩
    have e:elems (.sl none (toks.map fun x=>D.str (BL x)))=toks.map fun x=>D.str (BL x):=rfl
    simp only[Ib]
    rw[if_pos ⟨hL,by rw[e,strs];exact Nat.le_trans h3 (by decide)⟩,e,strs];rfl
   have hE:D.eraseL (toks.map fun x=>D.str (BL x))=toks.map fun x=>D.str (BL x):=bF fun y hy=>by
    obtain⟨x,_,rfl⟩:=A6M.1 hy;rfl
   obtain⟨J,hJ⟩:∃z,jnG toks=z:=⟨_,rfl⟩
   rw[hJ] at p88 ⊢
   simp +contextual only[c46,go_sem]
   refine Bm toks (fun i s=>s.t 6= .sl none toks/\s.t 7= .int .i64 (toks.length:Int)/\s.t 8= .int .i64 (i:Int)/\(∃L,s.H=H++L)/\Bu 1 T ((toks.take i).map fun x=>D.str (BL x)) (s.t 3) s.T) hX ⟨by simp[upd,Ae],by simp[upd],by simp[upd],⟨[],by simp⟩,by simpa[upd] using Bu.nil 1 T (AY.refl _)⟩ ?_ ?_
   ·rintro i x ⟨t,B,U⟩ hx hm hi ⟨t6,t7,t8,⟨L,rfl⟩,hA⟩
    simp only at t6 t7 t8 hA
    have d1:decide ((i:Int)<toks.length)=true:=by simpa using hi
    have hxs:=A6E.1 h1 x hm
    have p:=TV hxs
    have nx:(toks.take (i+1)).map (fun x=>D.str (BL x))=(toks.take i).map (fun x=>D.str (BL x))++[.str (BL x)]:=by
     rw[A6P,hx];simp
    have hf:((toks.take i).map fun x=>D.str (BL x)).all (fit 1)=true:=A6E.2 fun y hy=>by
     obtain⟨z,_,rfl⟩:=A6M.1 hy;rfl
    rw[nx]
    have hlen:((toks.take i).map fun x=>D.str (BL x)).length<=2^38:=by rw[A6U,A6K];omega
    generalize (toks.take i).map (fun x=>D.str (BL x))=A at hA hf hlen ⊢
    clear nx
    obtain⟨k,s,n,rfl,hf0,hs,hn⟩:=kC hxs
    generalize BL (.agg [.int .i64 k,.str s,.int .i64 n])=S at p ⊢
    simp +contextual only[t6,t7,t8,d1,hx,p,go_sem]
    refine An (bytes:=16) _ (hA.app _) rfl hf (by simp;omega) (by simp;omega) fun d2 T2 hA2=>?_
    simp +contextual only[t6,t7,t8,AJ i (by omega),go_sem]
    exact⟨⟨_,rfl⟩,hA2⟩
   ·rintro⟨t,B,U⟩ ⟨t6,t7,t8,⟨L,rfl⟩,hA⟩
    simp only at t6 t7 t8 hA
    have d1:decide ((toks.length:Int)<toks.length)=false:=by simp
    rw[A6S] at hA
    have he:=hA.erase hE (by simp[h0])
    obtain⟨⟨M,rfl⟩,_⟩:=hA
    simp +contextual only[t6,t7,t8,d1,he,p88,go_sem]
  ·cases h
 ·cases h
theorem zC{full:Bool}{d:D}(hG:goodD full d)(hb:okD d=true)(hr:rgD d):jkW (Bc full d)=true:=by
 have hs:=uH hG hb hr
 have hl:=vA hG
 have hne:Bc full d≠[]:=by unfold Bc;simp
 obtain⟨x,l,hx⟩:=List.exists_cons_of_ne_nil hne
 rw[hx] at hs hl ⊢
 have hj:=S5 hs
 rw[A6T] at hl
 unfold jkW
 simp only[A6B,decide_eq_true_eq,A6E,A6D,List.isEmpty_cons,A6T]
 exact⟨⟨⟨hs,trivial⟩,by omega⟩,by omega⟩
theorem gW{f:D->D->Bool}{xs ys:List D}(hl:xs.length=ys.length)(h:(A6Q xs.length).all (okZ f xs ys)=true){i:Nat}{x:D}(hx:xs[i]? =some x):∃y,ys[i]? =some y/\f x y=true:=by
 have hi:i<xs.length:=(A6J.1 hx).1
 have hy:ys[i]? =some ys[i]:=by simp
 have:=A6E.1 h i (by simpa using hi)
 rw[y9 hx hy] at this
 exact⟨_,hy,this⟩
theorem bJ{α:Type}{f:D->D->Bool}{g:D->α}{xs ys:List D}(hl:xs.length=ys.length)(h:(A6Q xs.length).all (okZ f xs ys)=true)(hg:∀x∈xs,∀y∈ys,f x y=true->g x=g y):xs.map g=ys.map g:=by
 apply List.ext_getElem? 
 intro i
 rw[A6R,A6R]
 cases hx:xs[i]? with
 | none =>
  have:ys[i]? =none:=by rw[A6G] at hx ⊢;omega
  rw[this]
 | some x =>
  obtain⟨y,hy,e⟩:=gW hl h hx
  rw[hy]
  exact congrArg some (hg x (A6H hx) y (A6H hy) e)
theorem A9{a b:D}(h:Bt a b=true):vk a=vk b/\vi a=vi b/\vs a=vs b/\(vl a).length=(vl b).length/\(A6Q (vl a).length).all (pQ (vl a) (vl b))=true:=by
 unfold Bt at h
 split at h
 ·cases h
 ·rename_i g
  simp only[A6V,not_or,bne_iff_ne,ne_eq,A6D,A6L,A6N,beq_iff_eq,Decidable.not_not] at g
  obtain⟨⟨⟨g1,g2⟩,g3⟩,g4⟩:=g
  exact⟨g1,g2,g3,by simpa using g4,h⟩
theorem kY{xs ys:List D}(hl:xs.length=ys.length)(h:(A6Q xs.length).all (pQ xs ys)=true)(i:Nat):(xs[i]? =none/\ys[i]? =none)∨∃x y,xs[i]? =some x/\ys[i]? =some y/\vk x=vk y/\vi x=vi y/\vs x=vs y/\(vl x).length=(vl y).length:=by
 cases hx:xs[i]? with
 | none=>exact .inl ⟨rfl,by rw[A6G] at hx ⊢;omega⟩
 | some x =>
  have hi:i<xs.length:=(A6J.1 hx).1
  have hy:ys[i]? =some ys[i]:=by simp
  have:=A6E.1 h i (by simpa using hi)
  unfold pQ at this
  rw[hx,hy] at this
  unfold Lu at this
  simp only[A6B,beq_iff_eq,A6D,decide_eq_false_iff_not] at this
  obtain⟨⟨⟨⟨q1,q2⟩,q3⟩,q4⟩,q5⟩:=this
  exact .inr ⟨x,_,rfl,hy,q1,q2,q3,by omega⟩
theorem n5(xs:List D):vk0 xs=match xs[0]? with|some x=>vk x|none=>0:=by cases xs<;>rfl
theorem QU{a b:D}(h:Bt a b=true):LE a=LE b:=by
 obtain⟨h1,h2,h3,h4,h5⟩:=A9 h
 have e0:vk0 (vl a)=vk0 (vl b):=by
  rw[n5,n5]
  rcases kY h4 h5 0 with⟨p,q⟩|⟨x,y,p,q,k,_⟩
  ·rw[p,q]
  ·rw[p,q];exact k
 have eA:Fj aB (vl a)=Fj aB (vl b):=by
  unfold Fj
  rw[h4]
  congr 1
  funext i
  unfold DJ
  rw[e0]
  rcases kY h4 h5 i with⟨p,q⟩|⟨x,y,p,q,k1,k2,k3,k4⟩
  ·rw[p,q]
  ·rw[p,q]
   rcases kY h4 h5 (i - 1) with⟨p',q'⟩|⟨x',y',p',q',k1',k2',k3',_⟩
   ·simp only[p',q',B9,k1,k2,k3,k4]
   ·simp only[p',q',B9,aB,k1,k2,k3,k4,k1',k2',k3']
    try rfl
 have eF:bS a=bS b:=by
  unfold bS B9
  rw[eA,h1,h2,h3,h4]
 unfold LE
 rw[eF,h1,h4,e0]
theorem mA{fs:List D}:∀(n:Nat) (x y:D),BH n x y=true->CV n fs x=CV n fs y
 | 0,_,_,h=>by cases h
 | n+1,x,y,h=>by
  unfold BH at h
  split at h
  ·cases h
  ·rename_i g
   simp only[A6V,not_or,bne_iff_ne,ne_eq,A6L,A6D,A6N,Decidable.not_not] at g
   obtain⟨⟨⟨g1,g2⟩,g3⟩,g4⟩:=g
   unfold KB at h
   split at h
   ·rename_i hl
    have hl:(eps x).length=(eps y).length:=by simpa using hl
    have part:∀i,CV n fs ((eps x).getD i .top)=CV n fs ((eps y).getD i .top):=fun i=>by
     rw[A6I,A6I]
     cases hx:(eps x)[i]? with
     | none =>
      have:(eps y)[i]? =none:=by rw[A6G] at hx ⊢;omega
      rw[this]
     | some a =>
      obtain⟨b,hb,e⟩:=gW hl h hx
      rw[hb]
      exact mA n a b e
    have eN:Fc fs x=Fc fs y:=by unfold Fc;rw[g1,g2,g3,QU (by simpa using g4)]
    simp only[CV,g1,hl,part,eN]
   ·cases h
theorem iH{fs:List D}{b:Bool}{x y:D}(h:BH AK x y=true):qB fs b x=qB fs b y:=by
 unfold qB;rw[mA AK x y h]
theorem c8(f:D->Int):∀l:List D,Ct f l=(l.map f).foldr (fun v r=>if v !=0 then v else r) 0
 | []=>rfl
 | x::l=>by simp only[Ct,List.map_cons,List.foldr_cons,c8 f l]
theorem uX{x y:D}(h:eqR x y=true):rNm x=rNm y/\rHi x=rHi y/\BH AK (rE x) (rE y)=true:=by
 unfold eqR at h
 simp only[A6B,A6D,bne_eq_false_iff_eq] at h
 exact⟨h.2.1,h.2.2.1,h.2.2.2.1⟩
theorem LO{x y:D}(h:eqP x y=true):pNm x=pNm y/\pUs x=pUs y/\pHf x=pHf y/\BH AK (pE x) (pE y)=true/\(pRs x).length=(pRs y).length/\Kx eqR (pRs x) (pRs y)=true:=by
 unfold eqP at h
 simp only[A6B,A6D,bne_eq_false_iff_eq,beq_iff_eq] at h
 exact⟨h.1,h.2.2.1,h.2.2.2.1,h.2.2.2.2.1,h.2.2.2.2.2.1,h.2.2.2.2.2.2⟩
theorem UV{xs ys:List D}(hl:xs.length=ys.length)(h:Kx eqF xs ys=true)(hx:∀x∈xs,isF x)(hy:∀y∈ys,isF y):xs=ys:=by
 have:=bJ (g:=id) hl h fun x mx y my e=>by
  obtain⟨w,n,k,b,rfl,_⟩:=hx x mx
  obtain⟨w',n',k',b',rfl,_⟩:=hy y my
  unfold eqF at e
  simp only[A6B,beq_iff_eq,and_true] at e
  obtain⟨e1,e2,e3,e4⟩:=e
  have e1:w=w':=e1
  have e2:n=n':=e2
  have e3:k=k':=e3
  have e4:b=b':=e4
  rw[e1,e2,e3,e4]
 simpa using this
theorem x9{x y:D}(hx:Bi AK x)(hy:Bi AK y)(h:JG x y=true):ckI x=ckI y:=by
 unfold JG at h
 simp only[A6B,A6D,bne_eq_false_iff_eq,beq_iff_eq] at h
 obtain⟨h1,h2,h3,h4,h5⟩:=h
 obtain⟨_,_,_,f1,_⟩:=bT hx
 obtain⟨_,_,_,f2,_⟩:=bT hy
 have eF:=UV h2 h4 f1 f2
 have rl:∀p∈dPs x,∀q∈dPs y,eqP p q=true->(pRs p).map nmR=(pRs q).map nmR:=fun p _ q _ e=>by
  obtain⟨_,_,_,_,e5,e6⟩:=LO e
  exact bJ e5 e6 fun r _ s _ e=>by unfold nmR;rw[(uX e).1]
 have m1:(dPs x).map nmP=(dPs y).map nmP:=bJ h3 h5 fun p _ q _ e=>by unfold nmP;rw[(LO e).1]
 have m2:(dPs x).map (fun p=>twB ((pRs p).map nmR))=(dPs y).map fun p=>twB ((pRs p).map nmR):=bJ h3 h5 fun p hp q hq e=>by rw[rl p hp q hq e]
 have m3:(dPs x).map (fun p=>DE (pUs p))=(dPs y).map fun p=>DE (pUs p):=bJ h3 h5 fun p _ q _ e=>by rw[(LO e).2.1]
 have m4:(dPs x).map (fun p=>(pRs p).length)=(dPs y).map fun p=>(pRs p).length:=bJ h3 h5 fun p _ q _ e=>(LO e).2.2.2.2.1
 have m5:(dPs x).map (J4 (dFs y))=(dPs y).map (J4 (dFs y)):=bJ h3 h5 fun p _ q _ e=>by
  obtain⟨_,_,e3,e4,e5,e6⟩:=LO e
  have r5:(pRs p).map (I7 (dFs y))=(pRs q).map (I7 (dFs y)):=bJ e5 e6 fun r _ s _ e=>by
   unfold I7;rw[(uX e).2.1,iH (uX e).2.2]
  unfold J4
  rw[e3,iH e4,c8,c8,r5]
 have a1:((dPs x).any fun p=>twB ((pRs p).map nmR))=(dPs y).any fun p=>twB ((pRs p).map nmR):=by
  have:=congrArg (fun l=>l.any id) m2
  simpa[List.any_map,Function.comp_def] using this
 have a2:((dPs x).all fun p=>DE (pUs p))=(dPs y).all fun p=>DE (pUs p):=by
  have:=congrArg (fun l=>l.all id) m3
  simpa[List.all_map,Function.comp_def] using this
 have a3:EC (dPs x)=EC (dPs y):=by unfold EC;rw[m4]
 unfold ckI z6 J7
 rw[eF,m1,a1,h1,a2,a3,c8,c8,m5]
end GP
namespace GP
open Go Go.Proofs
set_option maxRecDepth 100000
def Fw(f:D):Bool:=!(decide ((200:Int)<((IV f).length:Int))||decide ((200:Int)<((F6 f).length:Int)))
def Pm(fs:List D):Bool:=(fs.take 20).all Fw&&decide ((fs.length:Int)<=12)
open Classical in
noncomputable def uC:List D->Option D
 | [l]=>if G6 isF l then some (.bool (Pm (elems l))) else none
 | _=>none
theorem A5q:AQ Tryz.prog 45 uC:=by
 have hX:=AR ([]:Fs)
 refine AN (l:=[]) .nil A4j fun args r h=>?_
 unfold uC at h
 split at h
 ·rename_i l
  split at h
  ·rename_i hc
   injection h with h;subst h
   obtain⟨m,fs,rfl,hl,hF⟩:=hc
   rw[AU]
   refine⟨by simp,by simp[D.cl],fun H T=>?_⟩
   simp +contextual only[c45,go_sem]
   refine Bm (fs.take 20) (fun i s=>s.t 0=aV m fs/\s.t 3= .int .i64 (i:Int)/\((fs.take 20).take i).all Fw=true/\s.H=H/\s.T=T) hX ⟨by simp[upd,Ae],by simp[upd],by simp,rfl,rfl⟩ ?_ ?_
   ·rintro i x ⟨t,B,U⟩ hx hm hi ⟨t0,t3,hA,rfl,rfl⟩
    simp only at t0 t3
    rw[A6K] at hi
    have d1:decide ((i:Int)<fs.length)=true:=by simp only[decide_eq_true_eq];omega
    have d2:decide ((i:Int)<20)=true:=by simp only[decide_eq_true_eq];omega
    have hx':fs[i]? =some x:=by rw[List.getElem?_take_of_lt (by omega)] at hx;exact hx
    have tk:((fs.take 20).take (i+1)).all Fw=(((fs.take 20).take i).all Fw&&Fw x):=by
     rw[A6P,hx];simp
    obtain⟨w,n,k,b,rfl,_⟩:=hF x (List.mem_of_mem_take hm)
    have e:Fw (mkF w n k b)= !(decide ((200:Int)<(w.length:Int))||decide ((200:Int)<(n.length:Int))):=rfl
    rw[e,hA,A6O] at tk
    have no:Fw (mkF w n k b)=false->Pm fs=false:=fun h=>by
     unfold Pm
     have:(fs.take 20).all Fw=false:=by
      rw[<- A6L,A6E]
      intro hh
      rw[hh _ hm] at h;cases h
     rw[this];rfl
    rw[e] at no
    rcases tf (decide ((200:Int)<(w.length:Int))) with g1|g1
    ·have no:=no (by rw[g1];rfl)
     rw[no]
     simp +contextual only[t0,t3,d1,d2,hx',mkF,g1,go_sem]
    rcases tf (decide ((200:Int)<(n.length:Int))) with g2|g2
    ·have no:=no (by rw[g1,g2];rfl)
     rw[no]
     simp +contextual only[t0,t3,d1,d2,hx',mkF,g1,g2,go_sem]
    ·rw[g1,g2] at tk
     simp +contextual only[t0,t3,d1,d2,hx',mkF,g1,g2,AJ i (by omega),go_sem]
     exact tk
   ·rintro⟨t,B,U⟩ ⟨t0,t3,hA,rfl,rfl⟩
    simp only at t0 t3
    rw[A6S] at hA
    unfold Pm
    rw[hA,A6O]
    rw[A6K] at t3
    by_cases hl20:fs.length<20
    ·have d1:decide (((min 20 fs.length:Nat):Int)<fs.length)=false:=by simp only[decide_eq_false_iff_not];omega
     simp +contextual only[t0,t3,d1,go_sem]
    ·have d1:decide (((min 20 fs.length:Nat):Int)<fs.length)=decide (20<fs.length):=by rw[decide_eq_decide];omega
     have d2:decide (((min 20 fs.length:Nat):Int)<20)=false:=by simp only[decide_eq_false_iff_not];omega
     rcases tf (decide (20<fs.length)) with g|g<;>simp +contextual only[t0,t3,d1,d2,g,go_sem]
  ·cases h
 ·cases h
theorem rY{l:List UInt8}(h:4096<l.length):E8 l=(bA,0,3):=by
 unfold E8;rw[jB h];rfl
theorem xF{l:List UInt8}{toks:List D}(h:CJ l=(toks,0,0)){y:D}(hp:oW toks=some (y,0,0)):E8 l=if ckI y !=0 then(bA,0,ckI y) else(y,0,0):=by
 unfold E8;rw[h];simp only[hp];rfl
theorem yV{n:Nat}{d:D}(hd:Bi n d)(hf:Nw n d=true):ckD2 d:=by
 obtain⟨f1,f2,f3,f4⟩:=o6 hd hf
 refine⟨f1,by omega,by omega,fun p hp=>?_⟩
 obtain⟨g1,g2⟩:=f4 p hp
 have:=(kJ g1 g2).2.1
 omega
def VI(l:List UInt8):Prop:=l.length<=2^60/\((CJ l).2.2≠0∨∃x,oW (CJ l).1=some (x,0,0)/\Bi AK x/\ckD2 x/\(CJ l).1.all Aq=true/\(CJ l).1.length<=600)
open Classical in
noncomputable def qE:List D->Option D
 | [.str l]=>if VI l then some (.tup [(E8 l).1,.int .i64 ((E8 l).2.1:Nat),.int .i64 (E8 l).2.2]) else none
 | _=>none
theorem SN{l:List UInt8}(h:(CJ l).2.2≠0):E8 l=(bA,(CJ l).2.1,(CJ l).2.2):=by
 unfold E8;rw[if_pos (by simpa using h)]
theorem TQ{l:List UInt8}(h:(CJ l).2.2=0){x:D}(hp:oW (CJ l).1=some (x,0,0)):E8 l=if ckI x !=0 then(bA,0,ckI x) else(x,0,0):=by
 unfold E8;rw[h];simp only[hp];rfl
theorem Yw:AQ Tryz.prog 41 qE:=by
 refine AN (l:=[(40,NE),(31,G8),(93,SY)]) (.cons A36 (.cons A4W (.cons A5s .nil))) A4g fun args r h=>?_
 unfold qE at h
 split at h
 ·rename_i l
  split at h
  ·rename_i hg
   injection h with h;subst h
   obtain⟨hl,hg⟩:=hg
   have p1:NE [.str l]=some (L6 (CJ l)):=by simp only[NE];rw[if_pos (by omega)]
   by_cases h0:(CJ l).2.2=0
   ·rcases hg with hg|⟨x,hp,hd,hck,s1,s2⟩
    ·exact(hg h0).elim
    have hlo:=TQ h0 hp
    obtain⟨⟨toks,at0,e0⟩,hL⟩:∃z,CJ l=z:=⟨_,rfl⟩
    rw[hL] at p1 hp s1 s2 h0
    simp only at hp s1 s2 h0
    subst h0
    simp only[L6] at p1
    have te:=mC s1
    have p2:G8 [aV true toks]=some (.tup [x,.int .i64 ((0:Nat):Int),.int .i64 0]):=by
     simp only[G8]
     rw[GO,AU,s1,hp]
     simp only[A6O]
     rw[if_pos (by simp only[decide_eq_true_eq];omega)]
     rfl
    have et:(aV true toks).erase=aV true toks:=by rw[Ag,te]
    obtain⟨q1,q2,q3,q4⟩:=mB hd
    have ed:=Az hd
    have p3:SY [x]=some (.int .i64 (ckI x)):=by simp only[SY];rw[if_pos hck]
    obtain⟨ck,hk⟩:∃z,ckI x=z:=⟨_,rfl⟩
    rw[hk] at p3 hlo
    rcases tf (ck !=0) with g3|g3
    ·rw[g3,if_pos rfl] at hlo
     rw[hlo]
     refine⟨by simp,KY dR,fun H T=>?_⟩
     simp +contextual only[c41,p1,et,p2,p3,g3,ed,q1,q2,q3,q4,bA,go_sem]
    ·rw[g3,if_neg (by decide)] at hlo
     rw[hlo]
     refine⟨by simp,KY hd,fun H T=>?_⟩
     simp +contextual only[c41,p1,et,p2,p3,g3,ed,q1,q2,q3,q4,bA,go_sem]
   ·rw[SN h0]
    obtain⟨⟨toks,at0,e0⟩,hL⟩:∃z,CJ l=z:=⟨_,rfl⟩
    rw[hL] at p1 h0
    rw[hL]
    simp only[L6] at p1
    have g0:(e0 !=0)=true:=by simpa using h0
    refine⟨by simp,KY dR,fun H T=>?_⟩
    simp +contextual only[c41,p1,g0,bA,go_sem]
  ·cases h
 ·cases h
theorem tT{x y:D}(hx:Bi AK x)(hy:ckD2 y)(h:JG x y=true):ckD2 x:=by
 unfold JG at h
 simp only[A6B,A6D,bne_eq_false_iff_eq,beq_iff_eq] at h
 obtain⟨h1,h2,h3,h4,h5⟩:=h
 obtain⟨_,k1,k2,k3⟩:=hy
 refine⟨hx,by omega,by omega,fun p hp=>?_⟩
 obtain⟨i,hi⟩:=List.mem_iff_getElem?.1 hp
 obtain⟨q,hq,e⟩:=gW h3 h5 hi
 have:=k3 q (A6H hq)
 have:=(LO e).2.2.2.2.1
 omega
noncomputable abbrev A3x(n:Nat):Fs:=[(43,JV),(28,vV n),(45,uC),(29,xM),(30,uB),(46,xJ),(41,qE),(42,vM),(32,gI)]
theorem yT{n:Nat}{d:D}(hd:Bi n d)(hrg:rgD d)(full:Bool)(H:Hp)(T:Tk):W (Snd Tryz.prog) c15 (Ds [.inl 4] (fun r _ _=>r= .bool true)) ⟨Ae [d,.bool full],H,T⟩:=by
 refine dX (X:=XL (A3x n)) (Ok.X (.cons A3m (.cons (A3o n) (.cons A5q (.cons A5P (.cons A40 (.cons A1c (.cons Yw (.cons A4K (.cons A5b .nil)))))))))) (fun _ _ h=>h) ?_
 have p0:JV []=some (.bool true):=rfl
 have ed:=Az hd
 have p1:vV n [d]=some (.bool (Nw n d)):=by simp only[vV];rw[if_pos hd]
 have hN0:=fun h=>(o6 hd h).1
 have hck:=fun h=>yV hd h
 have hdf:=fun h1 h2=>sO hd h1 h2 hrg
 obtain⟨m,fs,us,m',ps,hde,k1,k2,k3,k4,k5⟩:=hd
 have pF:uC [aV m fs]=some (.bool (Pm fs)):=by
  simp only[uC];rw[if_pos ⟨m,fs,rfl,k1,k4⟩,AU]
 have ef:(aV m fs).erase=aV m fs:=by rw[Ag,bF fun x h=>jJ (k4 x h)]
 obtain⟨fw,hfw⟩:∃z,Nw n d=z:=⟨_,rfl⟩
 rw[hfw] at p1
 cases fw with
 | false =>
  subst hde;simp only[Ah] at ed p1
  simp +contextual only[c15,Ah,p0,ed,p1,go_sem]
 | true =>
 obtain⟨ff,hff⟩:∃z,Pm fs=z:=⟨_,rfl⟩
 rw[hff] at pF
 cases ff with
 | false =>
  subst hde;simp only[Ah] at ed p1
  simp +contextual only[c15,Ah,p0,ed,ef,p1,pF,go_sem]
 | true =>
 have hN:=hN0 hfw
 have p2:xM [d]=some (.bool (okD d)):=by simp only[xM];rw[if_pos hN]
 obtain⟨fm,hfm⟩:∃z,okD d=z:=⟨_,rfl⟩
 rw[hfm] at p2
 cases fm with
 | false =>
  subst hde;simp only[Ah] at ed p1 p2
  simp +contextual only[c15,Ah,p0,ed,ef,p1,pF,p2,go_sem]
 | true =>
 obtain⟨hrd,hgd⟩:=hdf hfw hfm
 have htk:=rO (full:=full) hrd
 have hsh:=uH (hgd full) hfm hrg
 have hjk:=zC (hgd full) hfm hrg
 have p3:uB [d,.bool full]=some (.sl none (Bc full d)):=by simp only[uB];rw[if_pos (hgd full)]
 have hte:=mC htk
 have p4:xJ [.sl none (Bc full d)]=some (.str (jnG (Bc full d))):=by simp only[xJ];rw[if_pos hjk]
 have hjl:(jnG (Bc full d)).length<=2^46:=by
  unfold jkW at hjk
  simp only[A6B,decide_eq_true_eq] at hjk
  exact hjk.2
 have hfit:∀x∈Bc full d,LH x:=fun x hx=>VY (hsh x hx)
 have P5:VI (jnG (Bc full d))->qE [.str (jnG (Bc full d))]=some (.tup [(E8 (jnG (Bc full d))).1,.int .i64 ((E8 (jnG (Bc full d))).2.1:Nat),.int .i64 (E8 (jnG (Bc full d))).2.2]):=fun h=>by
  simp only[qE];rw[if_pos h]
 rcases tf (decide ((4096:Int)<((jnG (Bc full d)).length:Int))) with g|g
 ·have p5:=P5 ⟨by omega,.inl (by rw[jB (by simp only[decide_eq_true_eq] at g;omega)];decide)⟩
  rw[rY (by simp only[decide_eq_true_eq] at g;omega)] at p5
  simp only[bA] at p5
  obtain⟨J,hJ⟩:∃z,jnG (Bc full d)=z:=⟨_,rfl⟩
  obtain⟨TX,hTX⟩:∃z,Bc full d=z:=⟨_,rfl⟩
  rw[hJ] at p4 p5 g
  rw[hTX] at p3 p4 hte
  subst hde;simp only[Ah] at ed p1 p2 p3
  simp +contextual only[c15,Ah,p0,ed,ef,p1,pF,p2,p3,hte,p4,p5,g,go_sem]
 have hl4:(jnG (Bc full d)).length<=4096:=by simp only[decide_eq_false_iff_not] at g;omega
 rcases tf (decide ((600:Int)<((Bc full d).length:Int))) with g2|g2
 ·have hov:=gG _ hfit (by simp only[decide_eq_true_eq] at g2;omega) hl4
  have hlo:E8 (jnG (Bc full d))=(bA,(CJ (jnG (Bc full d))).2.1,13):=by
   have hov:CJ (jnG (Bc full d))=([],(CJ (jnG (Bc full d))).2.1,13):=hov
   unfold E8;rw[hov];rfl
  have hov2:(CJ (jnG (Bc full d))).2.2≠0:=by
   have hov:CJ (jnG (Bc full d))=([],(CJ (jnG (Bc full d))).2.1,13):=hov
   rw[hov];show(13:Int)≠0;decide
  have p5:=P5 ⟨by omega,.inl hov2⟩
  obtain⟨a0,ha0⟩:∃z,(CJ (jnG (Bc full d))).2.1=z:=⟨_,rfl⟩
  rw[ha0] at hlo
  rw[hlo] at p5
  simp only[bA] at p5
  obtain⟨J,hJ⟩:∃z,jnG (Bc full d)=z:=⟨_,rfl⟩
  obtain⟨TX,hTX⟩:∃z,Bc full d=z:=⟨_,rfl⟩
  rw[hJ] at p4 p5 g
  rw[hTX] at p3 p4 hte g2
  subst hde;simp only[Ah] at ed p1 p2 p3
  simp +contextual only[c15,Ah,p0,ed,ef,p1,pF,p2,p3,hte,p4,p5,g,g2,go_sem]
 have hl6:(Bc full d).length<=600:=by simp only[decide_eq_false_iff_not] at g2;omega
 have hlex:CJ (jnG (Bc full d))=(Bc full d,0,0):=oR _ hfit hl6 hl4
 obtain⟨y,y1,y2,y3⟩:=wM (full:=full) hrd hl6 htk
 have hload:=xF hlex y1
 have p5:=P5 ⟨by omega,.inr ⟨y,by rw[hlex];exact y1,y2,tT y2 (hck hfw) y3,by rw[hlex];exact htk,by rw[hlex];exact hl6⟩⟩
 have p6:vM [d]=some (.int .i64 (ckI d)):=by simp only[vM];rw[if_pos ⟨hck hfw,sR hfm⟩]
 have p7:gI [y,d]=some (.bool true):=by simp only[gI];rw[if_pos ⟨y2,hN⟩,y3]
 have p8:=Lz
 rw[x9 y2 hN y3] at hload
 have ey:=Az y2
 obtain⟨r1,r2,r3,r4⟩:=mB y2
 obtain⟨ck,hk⟩:∃z,ckI d=z:=⟨_,rfl⟩
 rw[hk] at p6 hload
 simp only[bA] at p8
 rcases tf (ck !=0) with g3|g3
 ·rw[g3,if_pos rfl] at hload
  rw[hload] at p5
  simp only[bA] at p5
  obtain⟨J,hJ⟩:∃z,jnG (Bc full d)=z:=⟨_,rfl⟩
  obtain⟨TX,hTX⟩:∃z,Bc full d=z:=⟨_,rfl⟩
  rw[hJ] at p4 p5 g
  rw[hTX] at p3 p4 hte g2
  subst hde;simp only[Ah] at ed p1 p2 p3 p6
  simp +contextual only[c15,Ah,p0,ed,ef,p1,pF,p2,p3,hte,p4,p5,g,g2,p6,g3,p8,BEq.rfl,go_sem]
 ·rw[g3,if_neg (by decide)] at hload
  rw[hload] at p5
  simp only at p5
  obtain⟨J,hJ⟩:∃z,jnG (Bc full d)=z:=⟨_,rfl⟩
  obtain⟨TX,hTX⟩:∃z,Bc full d=z:=⟨_,rfl⟩
  rw[hJ] at p4 p5 g
  rw[hTX] at p3 p4 hte g2
  subst hde;simp only[Ah] at ed p1 p2 p3 p6 p7
  simp +contextual only[c15,Ah,p0,ed,ef,p1,pF,p2,p3,hte,p4,p5,g,g2,p6,g3,p7,ey,r1,r2,r3,r4,go_sem]
end GP
