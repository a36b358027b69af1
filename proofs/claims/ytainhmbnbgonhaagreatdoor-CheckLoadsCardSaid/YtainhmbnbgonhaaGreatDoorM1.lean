import Derived.BigFrame
import Derived.ChangeArms
import Derived.ChangeReads
import Derived.ChangeSame
import Derived.Deep.LoopGhost
import Derived.MapKept
import Derived.OpenShut
import Derived.ProofKit
import Derived.ReadAgain
import Derived.RowKit
import Derived.SizedLaws
import Derived.WideKeyRuns
import Derived.WideShapes
import Derived.Test.YtainhmbnbgonhaaGreatDoorM0
open Bool renaming and_eq_true->A6A,false_eq_true->A62,or_eq_true->A67,not_eq_true'->A7n
open Go.Result renaming andThen_ok->A6B
open List renaming getElem?_eq_none->A6C,getElem?_append_left->A6E,all_eq_true->A6G,replicate->A6I,getElem?_set_ne->A6K,mem_append->A6L,getElem_of_mem->A6M,mem_map->A6N,append_nil->A6O,range->A6P,getElem_mem->A6Q,mem_of_getElem?->A6X,getElem?_eq_getElem->A6Y,map_cons->A61,length_eq_one_iff->A63,getElem?_toArray->A64,mem_cons->A66,getElem?_map->A69,getElem?_set_self->A7c,length_map->A7d,mem_append_left->A7h,mapM_cons->A7i,mem_range->A7j,map_congr_left->A7k,mem_singleton->A7m,getElem_map->A7q,all_cons->A7t
open Nat renaming lt_or_ge->A6D,le_refl->A6U,lt_succ_of_lt->A7o,sub_zero->A7p
open Array renaming toList_inj->A6F,getElem?_eq_none->A6J,getElem?_modify->A6R,getElem?_eq_getElem->A6V,getD_eq_getD_getElem?->A6W,ext_getElem?->A6Z,replicate->A60,mapM_eq_mapM_toList->A68,setIfInBounds_comm->A7a
open Go.Sem renaming run_bind->A6H,run_pure->A6S,run_map->A7u
open Option renaming isSome_iff_exists->A6T,getD_some->A7b,map_none->A7f,isSome->A7l,map_some->A7s
open Go.World renaming size_alloc->A65,cell?_alloc_lt->A7g,cell?->A7r
open Go.Builtin renaming len_->A7e
set_option linter.unusedSimpArgs false
set_option linter.unnecessarySimpa false
namespace GP
open Go
variable {P:Program} {c:Cx} {w:World} {H:Hp}
theorem sK(k:Inv c w H){sz:Nat}{xs:List D}{vss:List (List Value)}(hk:Elems c sz xs vss)(e:TypeId)(fr:Nat×Nat)(hb:xs.length<2^62)(rest:List Value){cap:Nat}(hcap:xs.length<=cap){T:Tk}(hT:c.T=T):
  Yld c w H T (.sl none xs) (.ok (.slice (some ⟨w.heap.size,0,none⟩) xs.length cap) (w.alloc (.cells (vss.flatten++rest).toArray e fr))):=by
 have hle:=ID k (vss.flatten++rest) vss.flatten.length
 refine⟨_,{ c with M:=CI c.M w.heap.size (vss.flatten++rest) vss.flatten.length },_,rfl,?_,k.fresh _ e fr _,hle,hT,Below.of_alloc w _ k.low⟩
 refine FF (hk.mono hle) rfl hcap hb (fun j hj=>?_) none (fun τ h=>by cases h) (fun τ h=>by cases h)
 have:j<vss.flatten.length:=by rw[aO vss hk.sz',hk.len];exact hj
 show CI _ _ _ _ _=_
 simp only[Nat.zero_add]
 rw[fG this,A6E this]
theorem pW(w:World)(arr:Array Value)(e:TypeId):(w.alloc (.cells arr e)).freeze ⟨w.heap.size,arr.size,none⟩ 1=w.alloc (.cells arr e (arr.size,arr.size+1)):=by
 unfold World.freeze
 rw[if_neg (by decide)]
 show({ w.alloc (.cells arr e) with heap:=_ }:World)={ w with heap:=_ }
 have:∀f:Obj->Obj,(w.heap.push (.cells arr e)).modify w.heap.size f=w.heap.push (f (.cells arr e)):=by
  intro f
  apply A6Z
  intro i
  rw[A6R]
  by_cases h:w.heap.size=i
  ·subst h;simp
  ·rw[if_neg h]
   simp only[Array.getElem?_push]
   rw[if_neg (Ne.symm h),if_neg (Ne.symm h)]
 show World.mk ((w.heap.push (.cells arr e)).modify w.heap.size _) _ _ _ _=World.mk _ _ _ _ _
 rw[this]
 rfl
theorem qY{src dst e:TypeId}(hs:P.underlying src=some .string)(hd:P.underlying dst=some (.slice e))(he:P.underlying e=some (.int .u8))(l:List UInt8):
  ∃cap,l.length<=cap/\(Go.convert src dst (.string ⟨l.toArray⟩)).run P w =
   .ok (.slice (some ⟨w.heap.size,0,none⟩) l.length cap) (w.drew.alloc (.cells ((l.map fun b:UInt8=>Value.int .u8 b.toNat)++A6I (cap - l.length) (Value.int .u8 0)).toArray e
    (((l.map fun b:UInt8=>Value.int .u8 b.toNat)++A6I (cap - l.length) (Value.int .u8 0)).toArray.size,((l.map fun b:UInt8=>Value.int .u8 b.toNat)++A6I (cap - l.length) (Value.int .u8 0)).toArray.size+1))):=by
 refine⟨grownCap w l.length 0 e,by simp[grownCap,Question.cut],?_⟩
 have e1:(Array.map (fun b:UInt8=>Value.int .u8 b.toNat) l.toArray++A60 (grownCap w l.length 0 e - l.length) (Value.int .u8 0)) =
   ((l.map fun b:UInt8=>Value.int .u8 b.toNat)++A6I (grownCap w l.length 0 e - l.length) (Value.int .u8 0)).toArray:=by
  apply A6F.1;simp
 have hc:(choose (.appendCap l.length 0 e)).run P w= .ok (grownCap w l.length 0 e) w.drew:=by simp[Question.forced,grownCap]
 simp only[Go.convert,A6H,run_underlying hs,run_underlying hd,run_underlying he,A6B,Conv.stringToBytes,eO,hc,newRow,run_newObj,A6S,World.alloc_eq,e1,markStringish,run_shape]
 have hsh:(w.drew.alloc (.cells ((l.map fun b:UInt8=>Value.int .u8 b.toNat)++A6I (grownCap w l.length 0 e - l.length) (Value.int .u8 0)).toArray e)).shape? w.drew.heap.size =
   some (e,((l.map fun b:UInt8=>Value.int .u8 b.toNat)++A6I (grownCap w l.length 0 e - l.length) (Value.int .u8 0)).toArray.size):=by
  unfold World.shape?
  rw[dJ]
 rw[hsh]
 simp only[run_freeze,A6B]
 rw[pW]
 rfl
theorem iU(l:List UInt8):Elems c 1 (BQ l) (l.map fun b=>[Value.int .u8 b.toNat]):=by
 refine⟨by simp[BQ],fun i h h'=>⟨by simp[BQ,D.cells],by simp[BQ,D.cells,D.one],fun j hj hj'=>?_⟩,fun x hx=>?_⟩
 ·simp[BQ,D.cells] at hj ⊢
  subst hj
  exact Rep.int _ _
 ·simp only[BQ,A6N] at hx
  obtain⟨b,_,rfl⟩:=hx
  rfl
theorem dL(l:List UInt8):(l.map fun b=>[Value.int .u8 b.toNat]).flatten=l.map fun b=>Value.int .u8 b.toNat:=by
 induction l with
 | nil=>rfl
 | cons b l ih=>simpa using ih
theorem p9(k:Inv c w H){src dst e:TypeId}(hs:P.underlying src=some .string)(hd:P.underlying dst=some (.slice e))(he:P.underlying e=some (.int .u8)){l:List UInt8}{v:Value}(hx:Rep c (.str l) v){T:Tk}(hT:c.T=T):
  Yld c w H T (.sl none (BQ l)) ((Go.convert src dst v).run P w):=by
 cases hx with
 | str _ hl =>
  obtain⟨cap,h1,h2⟩:=qY (P:=P) (w:=w) hs hd he l
  rw[h2]
  have:=sK k.drew (iU l) e (((l.map fun b:UInt8=>Value.int .u8 b.toNat)++A6I (cap - l.length) (Value.int .u8 0)).toArray.size,((l.map fun b:UInt8=>Value.int .u8 b.toNat)++A6I (cap - l.length) (Value.int .u8 0)).toArray.size+1)
   (by simpa[BQ] using hl) (A6I (cap - l.length) (.int .u8 0)) (cap:=cap) (by simpa[BQ] using h1) hT
  rw[dL] at this
  simpa[BQ] using this.drew
theorem QI(k:Inv c w H){src dst e:TypeId}(hs:P.underlying src=some .string)(hd:P.underlying dst=some (.slice e))(he:P.underlying e=some (.int .u8)){l:List UInt8}{v:Value}(hx:Rep c (.str l) v){T:Tk}(hT:c.T=T):
  Yld c w H (T++[some (l.length,1)]) (.sl (some T.length) (BQ l)) ((Go.convert src dst v).run P w):=by
 cases hx with
 | str _ hl =>
  obtain⟨cap,h1,h2⟩:=qY (P:=P) (w:=w) hs hd he l
  rw[h2]
  have:=fI k.drew (iU l) e (by simpa[BQ] using hl) (A6I (cap - l.length) (.int .u8 0))
   (((l.map fun b:UInt8=>Value.int .u8 b.toNat)++A6I (cap - l.length) (Value.int .u8 0)).toArray.size,((l.map fun b:UInt8=>Value.int .u8 b.toNat)++A6I (cap - l.length) (Value.int .u8 0)).toArray.size+1)
   (fun i hi=>by rw[dL] at hi;simp at hi ⊢;omega) (cap:=cap) (by simpa[BQ] using h1) (by rw[dL];simp;omega) (τ:=T.length) (T':=T++[some (l.length,1)]) (by simp[BQ]) (fun h=>by rw[hT] at h;omega)
   (fun j hj=>by
    rw[hT]
    rcases A6D j T.length with h'|h'
    ·rw[A6E h']
    ·rw[A6C (by simp;omega),A6C h']) (by rw[hT];simp)
  rw[dL] at this
  simpa[BQ] using this.drew
def Kc:Option Operand->Option (Option Rd)
 | none=>some none
 | some x=>match cRd x with
  | some r=>some (some r)
  | none=>none
theorem FH{oo:Option Operand}{o:Option Rd}(h:Kc oo=some o):o=none/\oo=none∨∃r x,o=some r/\oo=some x/\cRd x=some r:=by
 cases oo with
 | none=>simp[Kc] at h;exact .inl ⟨h.symm,rfl⟩
 | some x =>
  simp only[Kc] at h
  split at h
  ·rename_i r hr;injection h with h;exact .inr ⟨r,x,h.symm,rfl,hr⟩
  ·cases h
def kS(place:Nat->Option (Nat×Nat)):List (Nat×Operand)->Option (List (Nat×Nat×Rd))
 | []=>some []
 | (i,x)::ps=>match place i,cRd x,kS place ps with
  | some (off,sz),some r,some rs=>some ((off,sz,r)::rs)
  | _,_,_=>none
def bK(P:Program)(fs:Array Field):Nat->Option (Nat×Nat):=fun i=>match fs[i]? with
 | some f=>match tsz P f.type with
  | some n=>some (f.offset,n)
  | none=>none
 | none=>none
def vB(P:Program)(t:TypeId):Bool:=match P.underlying t with|some (.int .u8)=>true|_=>false
def FZ(P:Program)(t:TypeId):Bool:=match P.underlying t with|some .string=>true|_=>false
def RP(P:Program)(t:TypeId):Option IntKind:=match P.underlying t with|some (.int k)=>some k|_=>none
theorem dC{t:TypeId}(h:vB P t=true):P.underlying t=some (.int .u8):=by unfold vB at h;split at h<;>simp_all
theorem DG{t:TypeId}(h:FZ P t=true):P.underlying t=some .string:=by unfold FZ at h;split at h<;>simp_all
theorem uT{t:TypeId}{k:IntKind}(h:RP P t=some k):P.underlying t=some (.int k):=by unfold RP at h;split at h<;>simp_all
def VQ(P:Program)(mu dr:Bool)(src dst:TypeId)(r:Rd):Option O :=
 match RP P dst with
 | some k=>if(P.underlying src).isSome then some (.conv k r) else none
 | none =>
  if FZ P dst then
   if FZ P src then some (.mvs r) else
   match Ak P src with
   | some e=>if vB P e then some (if mu then .b2m r else .b2s r) else none
   | none=>none
  else if FZ P src then
   match Ak P dst with
   | some e=>if vB P e then some (if dr then .s2bq r else .s2b r) else none
   | none=>none
  else none
def S4(l:List (Nat×Operand))(n:Nat):Bool:=l.map (·.1)==A6P n
def Ky(P:Program)(t:TypeId):Option (TypeId×TypeId):=match P.underlying t with
 | some (.map k e)=>some (k,e)
 | _=>none
theorem IK{t k e:TypeId}(h:Ky P t=some (k,e)):P.underlying t=some (.map k e):=by unfold Ky at h;split at h<;>simp_all
def KH(P:Program)(kt:TypeId):Option (Bool×List Ck):=match H3 P kt with
 | some k=>some (false,[k])
 | none=>match cks P kt with
  | some ks=>some (true,ks)
  | none=>none
def Pa(P:Program)(t:TypeId):Option D:=match P.info? t with
 | some i=>match i.zero with
  | some v=>match NJ v with
   | some z=>if pu1 z then some z else none
   | none=>none
  | none=>none
 | none=>none
theorem jQ{t:TypeId}{z:D}(h:Pa P t=some z)(c:Cx)(w:World):pu z=true/\∃v:Value,(zeroValue t).run P w= .ok v w/\Rep c z v:=by
 unfold Pa at h
 split at h
 ·rename_i i hi
  split at h
  ·rename_i v hz
   split at h
   ·rename_i z' hv
    split at h
    ·rename_i hp
     injection h with h;subst h
     obtain⟨r1,r2⟩:=fH hv c
     refine⟨?_,v,by simp[zeroValue,KS hi,hz],r1⟩
     cases z'<;>simp[pu1] at hp<;>simp[pu,pu1,hp]
    ·cases h
   ·cases h
  ·cases h
 ·cases h
structure Hn where
 imp:FuncId->Bool
 mu:Bool
 own:FuncId->Bool
 lit:Bool
structure Pl where
 pos:Nat
 fill:Option Nat
 re:Bool
def SI(P:Program)(t:TypeId):Bool:=match P.underlying t with
 | some (.int _)=>true
 | _=>false
theorem u6{t:TypeId}(h:SI P t=true):∃k,P.underlying t=some (.int k):=by
 unfold SI at h
 split at h
 ·exact⟨_,by assumption⟩
 ·cases h
def uA(P:Program)(mu:Bool)(b:Builtin)(ats:List TypeId)(rs:List Rd):Option O :=
 match b,ats,rs with
 | .len,[t],[x]=>if FZ P t then some (.lens x) else if(Ak P t).isSome then some (.len x) else if(Ky P t).isSome then some (.mlen x) else none
 | .cap,[t],[x]=>if(Ak P t).isSome then some (.capz x) else none
 | .min,_,[x,y]=>some (.mn x y)
 | .max,_,[x,y]=>some (.mx x y)
 | .append,[st,xt],[x,y] =>
  match Ak P st with
  | some e=>match tsz P e,bZ P e,tz P e with
   | some sz,some by_,some z=>if SI P xt&&(z.length==sz) then some (.appz (tag P e==some true) sz by_ z x y) else if LA P xt&&(z.length==sz)&&(!FZ P xt||sz==1) then some (if mu then .appm (tag P e==some true) (FZ P xt) sz by_ x y else .app (FZ P xt) sz by_ x y) else none
   | _,_,_=>none
  | none=>none
 | .copy,[dt,_],[x,y]=>match Ak P dt with
  | some e=>match tsz P e with
   | some sz=>some (.copy sz x y)
   | none=>none
  | none=>none
 | .clear,[t],[x]=>match Ak P t with
  | some e=>match tz P e with
   | some z=>some (.clr z x)
   | none=>none
  | none=>none
 | _,_,_=>none
def cOp(P:Program)(imp:Hn)(dr:Bool)(j:Pl):Op->Option O
 | .move x| .assign x=>match cRd x with|some r=>some (.mv r)|none=>none
 | .pick c a b=>match cRd c,cRd a,cRd b with
  | some c,some a,some b=>some (.pick c a b)
  | _,_,_=>none
 | .alloc t=>match tz P t with
  | some z=>some (if dr then(match j.fill with|some _=>.rawAt j.pos z|none=>.allocAt j.pos z) else .alloc z)
  | none=>none
 | .box _ x=>match cRd x with
  | some r=>some (if dr then .boxAt j.pos r else .box r)
  | none=>none
 | .build t ps=>match tz P t with
  | some z=>match cX P t,f9 P t with
   | some fs,_=>match kS (bK P fs) ps.toList with
    | some l=>if(A6P fs.size).all (fun i=>(bK P fs i).isSome) then some (.build z l) else none
    | none=>none
   | none,some (_,e)=>match tsz P e with
    | some sz=>match kS (fun i=>some (i*sz,sz)) ps.toList with
     | some l=>some (.build z l)
     | none=>none
    | none=>none
   | none,none=>none
  | none=>none
 | .buildSlice t n ps=>match Ak P t with
  | some e=>match tsz P e,LB (ps.toList.map (·.2)) with
   | some sz,some rs=>if S4 ps.toList n&&(tz P e).isSome&&decide (n*sz<=2^24)&&decide (n<=2^24) then some (if(dr&& !j.re) then .bslq sz rs else if imp.mu then .bslm (tag P e==some true) sz rs else .bsl sz rs) else none
   | _,_=>none
  | none=>none
 | .load t x=>match tag P t,tsz P t,cRd x with
  | some ag,some n,some r=>some (.load ag n r)
  | _,_,_=>none
 | .store t x v=>match tsz P t,cRd x,cRd v with
  | some n,some r,some q=>some (match j.fill with|some m=>.fillAt m n r q|none=>.store n r q)
  | _,_,_=>none
 | .nilCheck x=>match cRd x with|some r=>some (.nilc r)|none=>none
 | .binOp op t x y _=>match cRd x,cRd y with
  | some r,some q =>
   if op== .eql||op== .neq then
    match cks P t with
    | some ks=>some (.eqa ks (op== .neq) r q)
    | none=>match Wj P t with
     | some k=>if jG y||k != .ifc then some (.eq1 k (op== .neq) r q) else none
     | none=>some (.bin op r q)
   else some (.bin op r q)
  | _,_=>none
 | .unOp op _ x=>match cRd x with|some r=>some (.un op r)|none=>none
 | .convert src dst x=>match cRd x with|some r=>VQ P imp.mu dr src dst r|none=>none
 | .makeFunc (.func f) first cap=>match LB first.toList,LB cap.toList with
  | some a,some b=>some (.mkfn f a b)
  | _,_=>none
 | .slice t x lo hi none=>match cRd x,Kc lo,Kc hi with
  | some r,some l,some h=>if FZ P t then some (.subs r l h) else match Ak P t with
   | some e=>match tsz P e with
    | some sz=>some (.sls sz r l h)
    | none=>none
   | none=>none
  | _,_,_=>none
 | .slice t x lo hi (some m)=>match cRd x,Kc lo,Kc hi,cRd m with
  | some r,some l,some (some h),some q=>match Ak P t with
   | some e=>match tsz P e with
    | some sz=>some (.sls3 sz r l (some h) (some q))
    | none=>none
   | none=>none
  | _,_,_,_=>none
 | .makeSlice t n m=>match cRd n,cRd m with
  | some r,some q=>match Ak P t with
   | some e=>match tsz P e,bZ P e,tz P e with
    | some sz,some by_,some z=>some (.mkm (tag P e==some true) sz by_ z r q)
    | _,_,_=>none
   | none=>none
  | _,_=>none
 | .fieldAddr t x k=>match cX P t,cRd x with
  | some fs,some r=>match fs[k]? with
   | some f=>match tsz P f.type with
    | some (n+1)=>some (.faddr f.offset r)
    | _=>none
   | none=>none
  | _,_=>none
 | .field t x k=>match cX P t,cRd x with
  | some fs,some r=>match fs[k]? with
   | some f=>match tag P f.type,tsz P f.type with
    | some ag,some n=>some (.field ag f.offset n r)
    | _,_=>none
   | none=>none
  | _,_=>none
 | .indexAddr t x i=>match cRd x,cRd i with
  | some r,some q=>match Ak P t,f9 P t with
   | some e,_=>match tsz P e with
    | some sz=>some (.iaddr sz r q)
    | none=>none
   | none,some (len,e)=>match tsz P e with
    | some sz=>some (.iarr sz len r q)
    | none=>none
   | none,none=>none
  | _,_=>none
 | .index t x i=>match cRd x,cRd i with
  | some r,some q=>if FZ P t then some (.idxs r q) else match f9 P t with
   | some (len,e)=>match tsz P e,tag P e with
    | some sz,some ag=>some (.idxa ag sz len r q)
    | _,_=>none
   | none=>none
  | _,_=>none
 | .extract x k=>match cRd x with|some r=>some (.ext k r)|none=>none
 | .makeMap t none=>if dr then none else if(Ky P t).isSome then some .mkmap else none
 | .lookup t m k ok=>match Ky P t,cRd m,cRd k with
  | some (kt,et),some r,some q=>match KH P kt,Pa P et with
   | some ks,some z=>some (.mget ks z ok r q)
   | _,_=>none
  | _,_,_=>none
 | .mapUpdate t m k v=>match Ky P t,cRd m,cRd k,cRd v with
  | some (kt,_),some r,some q,some p=>match KH P kt with
   | some ks=>some (.mput ks r q p)
   | none=>none
  | _,_,_,_=>none
 | .mapEntry t m k=>match Ky P t,cRd m,cRd k with
  | some (kt,et),some r,some q=>match KH P kt,Pa P et with
   | some ks,some z=>some (.ment ks z r q)
   | _,_=>none
  | _,_,_=>none
 | .entryStore _ m b v=>match cRd m,cRd b,cRd v with
  | some r,some q,some p=>some (.mst r q p)
  | _,_,_=>none
 | .call { callee:=.builtin b,args,argTypes }=>match LB args.toList with
  | some rs=>uA P imp.mu b argTypes.toList rs
  | none=>none
 | .call { callee:=.value f,args,.. }=>match cRd f,LB args.toList with
  | some r,some rs=>some (match f with
   | .func g=>if imp.imp g||(!dr&&imp.own g) then .call r rs else .pcall r rs
   | _=>if imp.mu&&imp.imp 1000000 then .call r rs else .pcall r rs)
  | _,_=>none
 | _=>none
def Res(c:Cx)(w:World)(s:S)(K:D->S->Prop)(v:Value)(w':World):Prop :=
 ∃d s' c',K d s'/\s'.t=s.t/\Rep c' d v/\Inv c' w' s'.H/\c.le c'/\c'.T=s'.T/\Below c.bb w w'
def iX(c:Cx)(w:World)(Q:Bg)(e:Ending)(w':World):Prop :=
 ∃v,e= .returned v/\∃r H' T' c',Q r H' T'/\Rep c' r v/\Inv c' w' H'/\c.le c'/\c'.T=T'/\Below c.bb w w'
class HasG (P:Program) where
 G:Cx->World->Prop
 mono:∀{c c':Cx} {w w':World},c.le c'->Below c.bb w w'->G c w->G c' w'
def Snd(P:Program)[HasG P]:BF:=fun f args H T Q=>∀(c:Cx) (w:World) (vs:List Value),HasG.G P c w->Inv c w H->c.T=T->Reps c args vs →
 ((callFunc f vs.toArray).run P w= .ok (.enter f vs.toArray) w/\Calls P f vs.toArray w (iX c w Q)) ∨
 ∃v w',(callFunc f vs.toArray).run P w= .ok (.value v) w'/\iX c w Q (.returned v) w'
theorem Res.of_yld{c:Cx}{w:World}{s s':S}{K:D->S->Prop}{d:D}{v:Value}{w':World}(h:Yld c w s'.H s'.T d (.ok v w'))(hk:K d s')(ht:s'.t=s.t):Res c w s K v w':=by
 obtain⟨v',c',w'',e,h1,h2,h3,h4,h5⟩:=h
 injection e with e1 e2
 subst e1;subst e2
 exact⟨d,s',c',hk,ht,h1,h2,h3,h4,h5⟩
theorem Yld.ok{c:Cx}{w:World}{H':Hp}{T':Tk}{d:D}{r:Result Value}(h:Yld c w H' T' d r):∃v w',r= .ok v w':=let ⟨v,_,w',e,_⟩:=h;⟨v,w',e⟩
theorem Res.quiet{c:Cx}{w:World}{s:S}{a:Act}(hs:Sim c s a w){K:D->S->Prop}{d:D}{v:Value}(hk:K d s)(hr:Rep c d v):Res c w s K v w :=
 ⟨d,s,c,hk,rfl,hr,hs.inv,Cx.le.refl c,hs.T,Below.refl _ _⟩
end GP
namespace GP
open Go
variable {P:Program} {X:BF} {imp:Hn} {dr:Bool} {j:Pl} {c:Cx} {s:S} {a:Act} {w:World} {K:D->S->Prop}
def aD(P:Program)(o:Oper)(a:Act)(c:Cx)(w:World)(s:S)(K:D->S->Prop):Prop :=
 (∃v w',(execOp a.eval o).run P w= .ok (.value v) w'/\Res c w s K v w') ∨
 (∃w',(execOp a.eval o).run P w= .ok .skip w'/\Res c w s K undef w') ∨
 (∃f args,(execOp a.eval o).run P w= .ok (.enter f args) w/\Calls P f args w (fun e w'=>∃v,e= .returned v/\Res c w s K v w'))
theorem eC{o:Oper}{m:Sem Value}(he:execOp a.eval o=do pure (.value (← m))){v:Value}{w':World}(hm:m.run P w= .ok v w')(hr:Res c w s K v w'):aD P o a c w s K :=
 .inl ⟨v,w',by rw[he];simp[hm],hr⟩
theorem AW{o:Oper}{m:Sem Value}(hs:Sim c s a w)(he:execOp a.eval o=do pure (.value (← m))){d:D}(hk:K d s)(h:∃u,m.run P w= .ok u w/\Rep c d u):aD P o a c w s K:=by
 obtain⟨u,h1,h2⟩:=h
 exact eC he h1 (.quiet hs hk h2)
theorem aJ{o:Oper}{m:Sem Value}(he:execOp a.eval o=do pure (.value (← m))){d:D}{s':S}(hk:K d s')(ht:s'.t=s.t)(h:Yld c w s'.H s'.T d (m.run P w)):aD P o a c w s K:=by
 obtain⟨v,w',e⟩:=h.ok
 rw[e] at h
 exact eC he e (.of_yld h hk ht)
theorem BO{o:Option D}(h:K1 K s o):∃d,o=some d/\K d s:=by
 cases o with
 | none=>exact h.elim
 | some d=>exact⟨d,rfl,h⟩
theorem j4[HasG P](hX:∀f args H T Q,X f args H T Q->Snd P f args H T Q){dst:Option Tmp}{f:Operand}{args:Array Operand}{ats:Array TypeId}{ty:TypeId}{pos:String}{after:Array Edge}{guard:Option (Nat×Bool)}
  (hG:HasG.G P c w) (hs:Sim c s a w) {r:Rd} {rs:List Rd} (hf:cRd f=some r) (hargs:LB args.toList=some rs) {g:FuncId} {first cap:List D} (hr:s.ev r= .fn g first cap) {Q:Bg}
  (hQ:X g (first++rs.map s.ev++cap) s.H s.T Q) (hK:∀d H T,Q d H T->K d ⟨s.t,H,T⟩) :
  aD P ⟨dst,.call { callee:=.value f,args,argTypes:=ats },ty,pos,after,guard⟩ a c w s K:=by
 have hrf:=Aa hf hs.fr
 rw[hr] at hrf
 have hra:=cD hargs hs.fr
 generalize hv:a.eval f=vf at hrf
 cases hrf with
 | fn _ _ _ vp vq hp hq hpr hqr =>
  have hreps:Reps c (first++rs.map s.ev++cap) (vp++args.toList.map a.eval++vq):=(Reps.append ⟨hp,hpr⟩ hra).append ⟨hq,hqr⟩
  have hres:∀m,(execOp a.eval ⟨dst,.call { callee:=.value f,args,argTypes:=ats },ty,pos,after,guard⟩).run P w=m↔(callFunc g (vp++args.toList.map a.eval++vq).toArray).run P w=m:=by
   intro m
   have:(vp.toArray++args.map a.eval++vq.toArray)=(vp++args.toList.map a.eval++vq).toArray:=by
    apply A6F.1;simp
   simp only[execOp,resolve,hv,Deferred.ofValue,pure_bind,invoke,this]
  have hpost:∀v w',iX c w Q (.returned v) w'->Res c w s K v w':=by
   rintro v w' ⟨v',e,r',H',T',c',h1,h2,h3,h4,h5,h6⟩
   injection e with e;subst e
   exact⟨r',⟨s.t,H',T'⟩,c',hK _ _ _ h1,rfl,h2,h3,h4,h5,h6⟩
  rcases hX _ _ _ _ _ hQ c w _ hG hs.inv hs.T hreps with⟨h1,h2⟩|⟨v,w',h1,h2⟩
  ·refine .inr (.inr ⟨g,_,(hres _).2 h1,h2.mono ?_⟩)
   rintro e w' hp
   obtain⟨v,rfl,_⟩:=id hp
   exact⟨v,rfl,hpost v w' hp⟩
  ·exact .inl ⟨v,w',(hres _).2 h1,hpost v w' h2⟩
theorem fR{place:Nat->Option (Nat×Nat)}(hf:FR c s.t a):∀{ps:List (Nat×Operand)} {l:List (Nat×Nat×Rd)},kS place ps=some l->(l.all fun p=>(s.ev p.2.2).okc)=true →
  PartsRep c place (l.map fun p=>(p.1,p.2.1,s.ev p.2.2)) (ps.map fun p=>(p.1,a.eval p.2))
 | [],l,h,_=>by simp[kS] at h;subst h;exact .nil
 | (i,x)::ps,l,h,hk=>by
  simp only[kS] at h
  split at h
  ·rename_i off sz r rs h1 h2 h3
   injection h with h;subst h
   simp only[A7t,A6A] at hk
   exact .cons h1 (Aa h2 hf) hk.1 (fR hf h3 hk.2)
  ·cases h
theorem lG{t:TypeId}{fs:Array Field}{z r:List D}(ht:cX P t=some fs)(hz:tz P t=some z){ps:List (Nat×Value)}{l:List (Nat×Nat×D)}(hp:PartsRep c (bK P fs) l ps)
  (hall:(A6P fs.size).all (fun i=>(bK P fs i).isSome)=true) (ha:(l.all fun p=>p.2.2.cells.length==p.2.1)=true) (hr:Gw z (l.map fun p=>(p.1,p.2.2.cells))=some r) :
  ∃u,(Instr.build t ps.toArray).run P w= .ok u w/\Rep c (.agg r) u:=by
 obtain⟨zv,z1,z2⟩:=bL (P:=P) hz c
 obtain⟨cs',h1,h2⟩:=iA hp z2 ha hr
 have hm:∀l:List Field,(∀f∈l,∃n,tsz P f.type=some n)->(l.mapM (fun f=>do pure (f.offset,← Go.sizeOf f.type):Field->Sem (Nat×Nat))).run P w= .ok (l.map fun f=>(f.offset,(tsz P f.type).getD 0)) w:=by
  intro l
  induction l with
  | nil=>intro _;simp
  | cons f l ih =>
   intro h
   obtain⟨n,hn⟩:=h f (by simp)
   have ih':=ih (fun g hg=>h g (by simp[hg]))
   simp only[A7i,A6H,Af hn,A6B,A6S,ih',A61,hn,A7b]
 have hfs:∀f∈fs.toList,∃n,tsz P f.type=some n:=by
  intro f hf
  obtain⟨i,hi,rfl⟩:=A6M hf
  have hi':i<fs.size:=by simpa using hi
  have:=A6G.1 hall i (by simpa using hi')
  simp only[bK,A6V hi'] at this
  have e:fs.toList[i]=fs[i]:=by simp
  rw[e]
  cases hn:tsz P (fs[i]).type with
  | none=>rw[hn] at this;cases this
  | some n=>exact⟨n,rfl⟩
 have hplace:(fun i=>(fs.toList.map fun f=>(f.offset,(tsz P f.type).getD 0)).toArray[i]?)=bK P fs:=by
  funext i
  simp only[bK]
  rcases A6D i fs.size with hi|hi
  ·obtain⟨n,hn⟩:=hfs fs[i] (by simp)
   simp[A6V hi,hn]
  ·simp[A6J hi]
 refine⟨.agg cs',?_,Rep.agg _ _ h2.len h2.one h2.rep⟩
 have hm':=hm fs.toList hfs
 have:(fs.mapM (fun f=>do pure (f.offset,← Go.sizeOf f.type):Field->Sem (Nat×Nat))).run P w= .ok (fs.toList.map fun f=>(f.offset,(tsz P f.type).getD 0)).toArray w:=by
  rw[A68]
  rw[A7u]
  simp only[hm',A6B]
 simp only[Instr.build,A6H,z1,A6B,run_underlying (cO ht),this]
 rw[hplace,h1]
 simp
theorem mL{t e:TypeId}{len sz:Nat}{z r:List D}(ht:f9 P t=some (len,e))(hsz:tsz P e=some sz)(hz:tz P t=some z){ps:List (Nat×Value)}{l:List (Nat×Nat×D)}(hp:PartsRep c (fun i=>some (i*sz,sz)) l ps)
  (ha:(l.all fun p=>p.2.2.cells.length==p.2.1)=true) (hr:Gw z (l.map fun p=>(p.1,p.2.2.cells))=some r) :
  ∃u,(Instr.build t ps.toArray).run P w= .ok u w/\Rep c (.agg r) u:=by
 obtain⟨zv,z1,z2⟩:=bL (P:=P) hz c
 obtain⟨cs',h1,h2⟩:=iA hp z2 ha hr
 refine⟨.agg cs',?_,Rep.agg _ _ h2.len h2.one h2.rep⟩
 simp only[Instr.build,A6H,z1,A6B,run_underlying (dS ht),Af hsz]
 rw[h1]
 simp
end GP
namespace GP
open Go
variable {P:Program} {X:BF} {imp:Hn} {dr:Bool} {j:Pl} {c:Cx} {s:S} {a:Act} {w:World} {K:D->S->Prop}
theorem lM{i:Nat}{z:List D}{o:Option Ob}(h:atK K s i z o):o=some .hole/\K (.ptr i 0) ⟨s.t,s.H.set i (.row z),s.T⟩:=by
 unfold atK at h
 split at h
 ·exact⟨rfl,h⟩
 ·exact h.elim
theorem qL{i:Nat}{z:List D}{o:Option Ob}(h:JS K s i z o):o=some .hole/\K (.ptr i 0) ⟨s.t,s.H.set i (.raw z),s.T⟩:=by
 unfold JS at h
 split at h
 ·exact⟨rfl,h⟩
 ·exact h.elim
theorem nJ{i n:Nat}{a v:D}{o:Option Ob}(h:Gp K s i n a v o):∃z,o=some (.raw z)/\a= .ptr i 0/\z.length=n/\v.okc=true/\v.cells.length=n/\K .top ⟨s.t,s.H.set i (.row v.cells),s.T⟩:=by
 unfold Gp at h
 split at h
 ·exact⟨_,rfl,h⟩
 ·exact h.elim
theorem jI(hs:Sim c s a w){o:Oper}{e:TypeId}{m:Sem Value}(he:execOp a.eval o=do pure (.value (← m))){cs:List D}{vs:List Value}(hc:Cells c cs vs)
  (hm:m.run P w= .ok (.pointer (some ⟨w.heap.size,0,none⟩)) (w.alloc (.cells vs.toArray e))) (hk:K (.ptr s.H.length 0) ⟨s.t,s.H++[.row cs],s.T⟩):aD P o a c w s K:=by
 have:=rA hs.inv (e:=e) hc (o:=s.H.length) (hs.inv.free _ (.inl (A6U _))) (H':=s.H++[.row cs]) (dH _ _) rfl (fun o h=>bD _ _ o h) hs.T
 rw[<- hm] at this
 exact aJ he hk rfl this
theorem i7(hs:Sim c s a w){o:Oper}{e:TypeId}{m:Sem Value}(he:execOp a.eval o=do pure (.value (← m))){cs:List D}{vs:List Value}(hc:Cells c cs vs)
  (hm:m.run P w= .ok (.pointer (some ⟨w.heap.size,0,none⟩)) (w.alloc (.cells vs.toArray e))) {i:Nat} (hi:s.H[i]? =some .hole) {x0:Ob} (hx0:x0.cells? =some cs) (hk:K (.ptr i 0) ⟨s.t,s.H.set i x0,s.T⟩):aD P o a c w s K:=by
 have hlt:i<s.H.length:=by
  rcases A6D i s.H.length with h'|h'
  ·exact h'
  ·rw[A6C h'] at hi;cases hi
 have:=rA hs.inv (e:=e) hc (o:=i) (hs.inv.free _ (.inr hi)) (H':=s.H.set i x0) (by simp[hlt]) hx0 (fun o h=>by rw[A6K (Ne.symm h)]) hs.T
 rw[<- hm] at this
 exact aJ he hk rfl this
theorem vT{o:Oper}{t:TypeId}(ho:o.op= .alloc t){oo:O}(h:cOp P imp dr j o.op=some oo)(hs:Sim c s a w)(hW:WO X oo s K):aD P o a c w s K:=by
 rw[ho] at h
 simp only[cOp] at h
 split at h
 ·rename_i z hz
  injection h with h;subst h
  obtain⟨zv,z1,z2⟩:=bL (P:=P) hz c
  have he:execOp a.eval o=(do pure (.value (← Instr.alloc t true (.tuple #[])))):=by unfold execOp;simp only[ho]
  have hm:(Instr.alloc t true (.tuple #[])).run P w= .ok (.pointer (some ⟨w.heap.size,0,none⟩)) (w.alloc (.cells zv.cells.toList.toArray t)):=by
   simp[Instr.alloc,z1,newVar,newRow]
  cases dr
  ·exact jI hs he z2 hm hW
  ·simp only[if_true] at hW
   split at hW
   ·obtain⟨h1,h2⟩:=qL hW.2
    exact i7 hs he z2 hm h1 rfl h2
   ·obtain⟨h1,h2⟩:=lM hW
    exact i7 hs he z2 hm h1 rfl h2
 ·cases h
theorem yR{o:Oper}{t:TypeId}{x:Operand}(ho:o.op= .box t x){oo:O}(h:cOp P imp dr j o.op=some oo)(hs:Sim c s a w)(hW:WO X oo s K):aD P o a c w s K:=by
 rw[ho] at h
 simp only[cOp] at h
 split at h
 ·rename_i r hr
  injection h with h;subst h
  have hrep:=Aa hr hs.fr
  have he:execOp a.eval o=(do pure (.value (← Instr.box t (a.eval x)))):=by unfold execOp;simp only[ho]
  have hm:(Instr.box t (a.eval x)).run P w= .ok (.pointer (some ⟨w.heap.size,0,none⟩)) (w.alloc (.cells (a.eval x).cells.toList.toArray t)):=by
   simp[Instr.box,newVar,newRow]
  cases dr
  ·obtain⟨hk,hW⟩:=hW
   exact jI hs he (hrep.cells hk) hm hW
  ·obtain⟨hk,hW⟩:=hW
   obtain⟨h1,h2⟩:=lM hW
   exact i7 hs he (hrep.cells hk) hm h1 rfl h2
 ·cases h
theorem z9{o:Oper}{t:TypeId}{n:Nat}{ps:Array (Nat×Operand)}(ho:o.op= .buildSlice t n ps){oo:O}(h:cOp P imp dr j o.op=some oo)(hs:Sim c s a w)(hW:WO X oo s K):aD P o a c w s K:=by
 rw[ho] at h
 simp only[cOp] at h
 split at h
 ·rename_i e ht
  split at h
  ·rename_i sz rs hsz hrs
   split at h
   ·rename_i hc
    simp only[A6A,decide_eq_true_eq] at hc
    obtain⟨⟨⟨hidx,hz⟩,hsmall⟩,hn⟩:=hc
    injection h with h
    have hreps:=cD hrs hs.fr
    have hlen:ps.toList.length=n:=by
     simp only[S4,beq_iff_eq] at hidx
     have:=congrArg List.length hidx
     simpa using this
    have hrl:rs.length=n:=by have:=hreps.len;simp at this;rw[<- this];simpa using hlen
    have hparts:(ps.map fun(i,x)=>(i,a.eval x))=(((ps.toList.map (·.2)).map a.eval).zipIdx 0 |>.map fun p=>(p.2,p.1)).toArray:=by
     apply A6F.1
     simp only[Array.toList_map]
     simp only[S4,beq_iff_eq] at hidx
     apply List.ext_getElem
     ·simp
     ·intro i h1 h2
      have hi:i<ps.toList.length:=by simpa using h1
      have:(ps.toList.map (·.1))[i]'(by simpa using hi)=i:=by simp only[hidx];simp
      simp only[A7q] at this
      have this:ps[i].1=i:=by simpa using this
      simp[this]
    have he:execOp a.eval o=(do pure (.value (← Instr.buildSlice t n (((ps.toList.map (·.2)).map a.eval).zipIdx 0 |>.map fun p=>(p.2,p.1)).toArray))):=by
     unfold execOp;simp only[ho,hparts]
    have key:∀(hf:(rs.map s.ev).all (fit sz)=true),(Instr.buildSlice t n (((ps.toList.map (·.2)).map a.eval).zipIdx 0 |>.map fun p=>(p.2,p.1)).toArray).run P w =
      .ok (.slice (some ⟨w.heap.size,0,none⟩) n n) (w.alloc (.cells (((ps.toList.map (·.2)).map a.eval).map fun v=>v.cells.toList).flatten.toArray e))/\Elems c sz (rs.map s.ev) (((ps.toList.map (·.2)).map a.eval).map fun v=>v.cells.toList):=by
     intro hf
     have hel:=hreps.elems hf
     have hvl:((ps.toList.map (·.2)).map a.eval).length=n:=by simpa using hlen
     have:=wV (P:=P) (w:=w) ht hsz hz ((ps.toList.map (·.2)).map a.eval) (fun v hv=>by
      have:=hel.sz' v.cells.toList (A6N.2 ⟨v,hv,rfl⟩)
      simpa using this) (by rw[hvl];exact hsmall) c
     rw[hvl] at this
     exact⟨this,hel⟩
    have hl62:(rs.map s.ev).length<2^62:=by simp only[A7d,hrl];omega
    have hxl:(rs.map s.ev).length=n:=by simp[hrl]
    cases hdr:(dr&& !j.re)
    ·rw[hdr] at h
     simp only[A62,if_false] at h
     split at h
     ·subst h
      obtain⟨hf,hW⟩:=hW
      obtain⟨k1,k2⟩:=key hf
      have:=l8 hs.inv [] e k2.cells (hs.inv.free s.H.length (.inl (A6U _))) (H':=s.H++[.row (AX (rs.map s.ev))]) (dH _ _) (fun o' h=>bD _ _ o' h) hs.T (ag:=tag P e==some true) (sz:=sz) (n:=n) (cap:=n) (rc:=n)
       (A6U _) (A6U _) (by rw[aO _ k2.sz',k2.len,hxl];simp)
      rw[A6O,← k1] at this
      rw[hrl] at hW
      exact aJ he hW rfl this
     subst h
     obtain⟨hf,hW⟩:=hW
     obtain⟨k1,k2⟩:=key hf
     have:=fI hs.inv k2 e hl62 [] (0,0) (fun i _=>by simp) (cap:=n) (by rw[hxl];exact A6U _) (by rw[aO _ k2.sz',k2.len,hxl];simp) (τ:=s.T.length) (T':=s.T++[some (rs.length,sz)])
      (by simp) (fun h=>by rw[hs.T] at h;omega) (fun j hj=>by
       rw[hs.T]
       rcases A6D j s.T.length with h'|h'
       ·rw[A6E h']
       ·rw[A6C (by simp;omega),A6C h']) (by rw[hs.T];simp)
     rw[A6O,hxl,← k1] at this
     exact aJ he hW rfl this
    ·rw[hdr] at h
     simp only[if_true] at h;subst h
     obtain⟨d,hd,hW⟩:=BO hW
     simp only[qv] at hd
     split at hd
     ·rename_i hf
      injection hd with hd;subst hd
      obtain⟨k1,k2⟩:=key hf
      have:=rX hs.inv k2 e hl62 hs.T
      rw[hxl,← k1] at this
      exact aJ he hW rfl this
     ·cases hd
   ·cases h
  ·cases h
 ·cases h
theorem vK{o:Oper}{t:TypeId}{x v:Operand}(ho:o.op= .store t x v){oo:O}(h:cOp P imp dr j o.op=some oo)(hs:Sim c s a w)(hW:WO X oo s K):aD P o a c w s K:=by
 rw[ho] at h
 simp only[cOp] at h
 split at h
 ·rename_i n r q hn hr hq
  injection h with h
  split at h
  ·subst h
   obtain⟨_,hW⟩:=hW
   change Gp K s _ n (s.ev r) (s.ev q) _ at hW
   obtain⟨z,hz,ha,hzl,h1,h2,hk⟩:=nJ hW
   obtain⟨w',e1,e2,e3⟩:=jD (P:=P) hs.inv hn (Aa hr hs.fr) (Aa hq hs.fr) ha hz rfl h1 h2 (by omega)
   rw[List.take_zero,List.nil_append,List.drop_eq_nil_of_le (by omega),A6O] at e2
   refine .inr (.inl ⟨w',?_,⟨_,_,c,hk,rfl,Rep.top _,e2,Cx.le.refl c,hs.T,e3⟩⟩)
   unfold execOp
   simp[ho,e1]
  ·subst h
   change fF n K s (s.ev r) (s.ev q) at hW
   unfold fF at hW
   split at hW
   ·rename_i o' off hev
    split at hW
    ·rename_i cs hH
     obtain⟨h1,h2,h3,hk⟩:=hW
     obtain⟨w',e1,e2,e3⟩:=lX (P:=P) hs.inv hn (Aa hr hs.fr) (Aa hq hs.fr) hev hH h1 h2 h3
     refine .inr (.inl ⟨w',?_,⟨_,_,c,hk,rfl,Rep.top _,e2,Cx.le.refl c,hs.T,e3⟩⟩)
     unfold execOp
     simp[ho,e1]
    ·exact hW.elim
   ·exact hW.elim
 ·cases h
theorem vN{o:Oper}{t:TypeId}{ps:Array (Nat×Operand)}(ho:o.op= .build t ps){oo:O}(h:cOp P imp dr j o.op=some oo)(hs:Sim c s a w)(hW:WO X oo s K):aD P o a c w s K:=by
 rw[ho] at h
 have he:execOp a.eval o=(do pure (.value (← Instr.build t (ps.toList.map fun p=>(p.1,a.eval p.2)).toArray))):=by
  unfold execOp;simp only[ho]
  congr 2
  apply A6F.1
  simp
 simp only[cOp] at h
 split at h
 ·rename_i z hz
  split at h
  ·rename_i fs _ ht
   split at h
   ·rename_i l hl
    split at h
    ·rename_i hall
     injection h with h;subst h
     obtain⟨d,hd,hW⟩:=BO hW
     simp only[qv,uK] at hd
     split at hd
     ·rename_i hfit
      have hok:(l.all fun p=>(s.ev p.2.2).okc)=true:=A6G.2 fun p hp=>by
       have:=A6G.1 hfit _ (A6N.2 ⟨p,hp,rfl⟩)
       simp only[fit,A6A] at this
       exact this.1
      have hsz:((l.map fun p=>(p.1,p.2.1,s.ev p.2.2)).all fun p=>p.2.2.cells.length==p.2.1)=true:=A6G.2 fun p hp=>by
       have:=A6G.1 hfit p hp
       simp only[fit,A6A] at this
       exact this.2
      cases hfd:Gw z ((l.map fun p=>(p.1,p.2.1,s.ev p.2.2)).map fun p=>(p.1,p.2.2.cells)) with
      | none=>rw[hfd] at hd;cases hd
      | some r =>
       rw[hfd] at hd;injection hd with hd;subst hd
       exact AW hs he hW (lG (P:=P) (w:=w) ht hz (fR hs.fr hl hok) hall hsz hfd)
     ·cases hd
    ·cases h
   ·cases h
  ·rename_i len e _ ht
   split at h
   ·rename_i sz hsz0
    split at h
    ·rename_i l hl
     injection h with h;subst h
     obtain⟨d,hd,hW⟩:=BO hW
     simp only[qv,uK] at hd
     split at hd
     ·rename_i hfit
      have hok:(l.all fun p=>(s.ev p.2.2).okc)=true:=A6G.2 fun p hp=>by
       have:=A6G.1 hfit _ (A6N.2 ⟨p,hp,rfl⟩)
       simp only[fit,A6A] at this
       exact this.1
      have hsz:((l.map fun p=>(p.1,p.2.1,s.ev p.2.2)).all fun p=>p.2.2.cells.length==p.2.1)=true:=A6G.2 fun p hp=>by
       have:=A6G.1 hfit p hp
       simp only[fit,A6A] at this
       exact this.2
      cases hfd:Gw z ((l.map fun p=>(p.1,p.2.1,s.ev p.2.2)).map fun p=>(p.1,p.2.2.cells)) with
      | none=>rw[hfd] at hd;cases hd
      | some r =>
       rw[hfd] at hd;injection hd with hd;subst hd
       exact AW hs he hW (mL (P:=P) (w:=w) ht hsz0 hz (fR hs.fr hl hok) hsz hfd)
     ·cases hd
    ·cases h
   ·cases h
  ·cases h
 ·cases h
theorem zA{o:Oper}{op:BinOp}{t t':TypeId}{x y:Operand}(ho:o.op= .binOp op t x y t'){oo:O}(h:cOp P imp dr j o.op=some oo)(hs:Sim c s a w)(hW:WO X oo s K):aD P o a c w s K:=by
 rw[ho] at h
 have he:execOp a.eval o=(do pure (.value (← (do eqGuard op t x y (a.eval x) (a.eval y);Go.binOp op t (a.eval x) (a.eval y):Sem Value)))):=by unfold execOp;simp only[ho]
 simp only[cOp] at h
 split at h
 ·rename_i r q hr hq
  have hxr:=Aa hr hs.fr
  have hyr:=Aa hq hs.fr
  have plain:∀oo',some (O.bin op r q)=some oo'->WO X oo' s K->aD P o a c w s K:=by
   intro oo' h' hW'
   injection h' with h';subst h'
   obtain⟨d,hd,hW'⟩:=BO hW'
   exact AW hs he hW' (rG hxr hyr hd)
  split at h
  ·rename_i hop
   have hneg:op=(if(op==BinOp.neq)=true then BinOp.neq else .eql):=by
    simp only[A67,beq_iff_eq] at hop
    rcases hop with h|h<;>subst h<;>rfl
   split at h
   ·rename_i ks hks
    injection h with h;subst h
    obtain⟨d,hd,hW⟩:=BO hW
    simp only[qv] at hd
    unfold RW at hd
    split at hd
    ·rename_i xs ys e1 e2
     split at hd
     ·rename_i hk
      cases hb:aG xs ys with
      | none=>rw[hb] at hd;cases hd
      | some b =>
       rw[hb] at hd;injection hd with hd;subst hd
       refine AW hs he hW ⟨_,?_,Rep.bool _⟩
       have:=rJ (P:=P) (w:=w) hks hxr hyr e1 e2 hk hb (op== .neq) x y
       rw[<- hneg] at this
       exact this
     ·cases hd
    ·cases hd
   ·split at h
    ·rename_i k hk
     split at h
     ·rename_i hc
      injection h with h;subst h
      obtain⟨d,hd,hW⟩:=BO hW
      simp only[qv] at hd
      cases hb:Ko k (s.ev r) (s.ev q) with
      | none=>rw[hb] at hd;cases hd
      | some b =>
       rw[hb] at hd;injection hd with hd;subst hd
       refine AW hs he hW ⟨_,?_,Rep.bool _⟩
       have:=sV (P:=P) (w:=w) hk hxr hyr hb (op== .neq) x y (fun e=>by subst e;simpa using hc)
       rw[<- hneg] at this
       exact this
     ·cases h
    ·exact plain oo h hW
  ·exact plain oo h hW
 ·cases h
theorem wG{o:Oper}{src dst:TypeId}{x:Operand}(ho:o.op= .convert src dst x){oo:O}(h:cOp P imp dr j o.op=some oo)(hs:Sim c s a w)(hW:WO X oo s K):aD P o a c w s K:=by
 rw[ho] at h
 have he:execOp a.eval o=(do pure (.value (← Go.convert src dst (a.eval x)))):=by unfold execOp;simp only[ho]
 simp only[cOp] at h
 split at h
 ·rename_i r hr
  have hxr:=Aa hr hs.fr
  unfold VQ at h
  split at h
  ·rename_i k hk
   split at h
   ·rename_i hsrc
    injection h with h;subst h
    obtain⟨d,hd,hW⟩:=BO hW
    simp only[qv] at hd
    split at hd
    ·rename_i k' n hev
     injection hd with hd;subst hd
     rw[hev] at hxr
     generalize a.eval x=v at *
     cases hxr
     exact AW hs he hW ⟨_,oC hsrc (uT hk),Rep.int _ _⟩
    ·cases hd
   ·cases h
  ·split at h
   ·rename_i hds
    split at h
    ·rename_i hss
     injection h with h;subst h
     obtain⟨d,hd,hW⟩:=BO hW
     simp only[qv] at hd
     split at hd
     ·rename_i l hev
      injection hd with hd;subst hd
      rw[hev] at hxr
      generalize a.eval x=v at *
      refine AW hs he hW ⟨v,?_,hxr⟩
      cases hxr
      simp[Go.convert,run_underlying (DG hss),run_underlying (DG hds)]
     ·cases hd
    ·split at h
     ·rename_i e hsl
      split at h
      ·rename_i h8
       injection h with h
       split at h
       ·subst h
        obtain⟨d,hd,hW⟩:=BO hW
        exact AW hs he hW (rT (Ai hsl) (dC h8) (DG hds) hs.inv hxr hd)
       ·subst h
        obtain⟨d,hd,hW⟩:=BO hW
        exact AW hs he hW (fD (Ai hsl) (dC h8) (DG hds) hs.inv hxr hd)
      ·cases h
     ·cases h
   ·split at h
    ·rename_i hss
     split at h
     ·rename_i e hsl
      split at h
      ·rename_i h8
       cases dr
       ·simp only[A62,if_false] at h
        injection h with h;subst h
        change L8 K s (s.ev r) at hW
        unfold L8 at hW
        split at hW
        ·rename_i l hev
         rw[hev] at hxr
         exact aJ he hW rfl (QI (P:=P) hs.inv (DG hss) (Ai hsl) (dC h8) hxr hs.T)
        ·exact hW.elim
       ·simp only[if_true] at h
        injection h with h;subst h
        obtain⟨d,hd,hW⟩:=BO hW
        simp only[qv] at hd
        split at hd
        ·rename_i l hev
         injection hd with hd;subst hd
         rw[hev] at hxr
         exact aJ he hW rfl (p9 (P:=P) hs.inv (DG hss) (Ai hsl) (dC h8) hxr hs.T)
        ·cases hd
      ·cases h
     ·cases h
    ·cases h
 ·cases h
theorem u7{o:Oper}{t:TypeId}{x:Operand}{lo hi mx:Option Operand}(ho:o.op= .slice t x lo hi mx){oo:O}(h:cOp P imp dr j o.op=some oo)(hs:Sim c s a w)(hW:WO X oo s K):aD P o a c w s K:=by
 rw[ho] at h
 cases mx with
 | some m =>
  have he:execOp a.eval o=(do pure (.value (← Instr.sliceAt t (a.eval x) (lo.map a.eval) (hi.map a.eval) ((some m).map a.eval)))):=by unfold execOp;simp only[ho]
  simp only[cOp] at h
  split at h
  ·rename_i r l p q hr hl hp hq
   split at h
   ·rename_i e hsl
    split at h
    ·rename_i sz hsz
     injection h with h;subst h
     obtain⟨d,hd,hW⟩:=BO hW
     simp only[qv] at hd
     split at hd
     ·rename_i n hn
      have hhi:∃r x,some p=some r/\hi=some x/\cRd x=some r:=by
       rcases FH hp with⟨e,_⟩|⟨r',x',e1,e2,e3⟩
       ·cases e
       ·exact⟨r',x',e1,e2,e3⟩
      exact AW hs he hW (pA hsl hsz hs.fr (FH hl) hhi ⟨q,m,rfl,rfl,hq⟩ (Aa hr hs.fr) hn hd)
     ·cases hd
    ·cases h
   ·cases h
  ·cases h
 | none =>
  have he:execOp a.eval o=(do pure (.value (← Instr.sliceAt t (a.eval x) (lo.map a.eval) (hi.map a.eval) none))):=by unfold execOp;simp only[ho];rfl
  simp only[cOp] at h
  split at h
  ·rename_i r l q hr hl hq
   have hxr:=Aa hr hs.fr
   split at h
   ·rename_i hst
    injection h with h;subst h
    obtain⟨d,hd,hW⟩:=BO hW
    simp only[qv] at hd
    split at hd
    ·rename_i n hn
     exact AW hs he hW (pK (DG hst) hs.fr (FH hl) (FH hq) hxr hn hd)
    ·cases hd
   ·split at h
    ·rename_i e hsl
     split at h
     ·rename_i sz hsz
      injection h with h;subst h
      obtain⟨d,hd,hW⟩:=BO hW
      simp only[qv] at hd
      split at hd
      ·rename_i n hn
       exact AW hs he hW (sU hsl hsz hs.fr (FH hl) (FH hq) hxr hn hd)
      ·cases hd
     ·cases h
    ·cases h
  ·cases h
theorem wQ{o:Oper}{t:TypeId}{x y:Operand}(ho:o.op= .makeSlice t x y){oo:O}(h:cOp P imp dr j o.op=some oo)(hs:Sim c s a w)(hW:WO X oo s K):aD P o a c w s K:=by
 rw[ho] at h
 have he:execOp a.eval o=(do pure (.value (← Instr.makeSlice t (a.eval x) (a.eval y)))):=by unfold execOp;simp only[ho]
 simp only[cOp] at h
 split at h
 ·rename_i r q hr hq
  split at h
  ·rename_i e hsl
   split at h
   ·rename_i sz by_ z hsz hby hz
    injection h with h;subst h
    obtain⟨d,s',hk,ht,hy⟩:=sA (P:=P) hs.inv hsl hsz hby hz (Aa hr hs.fr) (Aa hq hs.fr) rfl hs.T hW
    exact aJ he hk ht hy
   ·cases h
  ·cases h
 ·cases h
theorem uY{o:Oper}{t:TypeId}{x i:Operand}(ho:o.op= .index t x i){oo:O}(h:cOp P imp dr j o.op=some oo)(hs:Sim c s a w)(hW:WO X oo s K):aD P o a c w s K:=by
 rw[ho] at h
 have he:execOp a.eval o=(do pure (.value (← Instr.index t (a.eval x) (a.eval i)))):=by unfold execOp;simp only[ho]
 simp only[cOp] at h
 split at h
 ·rename_i r q hr hq
  have hxr:=Aa hr hs.fr
  have hir:=Aa hq hs.fr
  split at h
  ·rename_i hst
   injection h with h;subst h
   obtain⟨d,hd,hW⟩:=BO hW
   exact AW hs he hW (nT (DG hst) hxr hir hd)
  ·split at h
   ·rename_i len e ha
    split at h
    ·rename_i sz ag hsz hag
     injection h with h;subst h
     obtain⟨d,hd,hW⟩:=BO hW
     exact AW hs he hW (OW ha hsz hag hxr hir hd)
    ·cases h
   ·cases h
 ·cases h
theorem vD{o:Oper}{t:TypeId}{x i:Operand}(ho:o.op= .indexAddr t x i){oo:O}(h:cOp P imp dr j o.op=some oo)(hs:Sim c s a w)(hW:WO X oo s K):aD P o a c w s K:=by
 rw[ho] at h
 have he:execOp a.eval o=(do pure (.value (← Instr.indexAt t (a.eval x) (a.eval i)))):=by unfold execOp;simp only[ho]
 simp only[cOp] at h
 split at h
 ·rename_i r q hr hq
  have hxr:=Aa hr hs.fr
  have hir:=Aa hq hs.fr
  split at h
  ·rename_i e _ hsl
   split at h
   ·rename_i sz hsz
    injection h with h;subst h
    obtain⟨d,hd,hW⟩:=BO hW
    exact AW hs he hW (mP hsl hsz hxr hir hd)
   ·cases h
  ·rename_i len e _ ha
   split at h
   ·rename_i sz hsz
    injection h with h;subst h
    obtain⟨d,hd,hW⟩:=BO hW
    exact AW hs he hW (oM ha hsz hxr hir hd)
   ·cases h
  ·cases h
 ·cases h
theorem S7{o:Oper}{t:TypeId}{x:Operand}{k:Nat}(ho:o.op= .fieldAddr t x k){oo:O}(h:cOp P imp dr j o.op=some oo)(hs:Sim c s a w)(hW:WO X oo s K):aD P o a c w s K:=by
 rw[ho] at h
 have he:execOp a.eval o=(do pure (.value (← Instr.fieldAt t (a.eval x) k))):=by unfold execOp;simp only[ho]
 simp only[cOp] at h
 split at h
 ·rename_i fs r ht hr
  have hxr:=Aa hr hs.fr
  split at h
  ·rename_i f hf
   split at h
   ·rename_i n hn
    injection h with h;subst h
    obtain⟨d,hd,hW⟩:=BO hW
    exact AW hs he hW (NL ht hf hn (by omega) hxr hd)
   ·cases h
  ·cases h
 ·cases h
theorem vZ{o:Oper}{t:TypeId}{x:Operand}{k:Nat}(ho:o.op= .field t x k){oo:O}(h:cOp P imp dr j o.op=some oo)(hs:Sim c s a w)(hW:WO X oo s K):aD P o a c w s K:=by
 rw[ho] at h
 have he:execOp a.eval o=(do pure (.value (← Instr.field t (a.eval x) k))):=by unfold execOp;simp only[ho]
 simp only[cOp] at h
 split at h
 ·rename_i fs r ht hr
  have hxr:=Aa hr hs.fr
  split at h
  ·rename_i f hf
   split at h
   ·rename_i ag n hag hn
    injection h with h;subst h
    obtain⟨d,hd,hW⟩:=BO hW
    exact AW hs he hW (nK ht hf hag hn hxr hd)
   ·cases h
  ·cases h
 ·cases h
theorem wE{o:Oper}{t:TypeId}{x:Operand}(ho:o.op= .load t x){oo:O}(h:cOp P imp dr j o.op=some oo)(hs:Sim c s a w)(hW:WO X oo s K):aD P o a c w s K:=by
 rw[ho] at h
 have he:execOp a.eval o=(do pure (.value (← Instr.loadAt t (a.eval x)))):=by unfold execOp;simp only[ho]
 simp only[cOp] at h
 split at h
 ·rename_i ag n r hag hn hr
  injection h with h;subst h
  obtain⟨d,hd,hW⟩:=BO hW
  exact AW hs he hW (L3 hs.inv (Aa hr hs.fr) hag hn hd)
 ·cases h
theorem uD(ρ:Operand->Value)(dst:Option Tmp)(b:Builtin)(xs:Array Operand)(ats:Array TypeId)(ty:TypeId)(pos:String)(after:Array Edge)(guard:Option (Nat×Bool)):
  execOp ρ { dst,op:=.call { callee:=.builtin b,args:=xs,argTypes:=ats },type:=ty,pos,after,guard }=Go.builtin b ats ty (xs.map fun| .const _=>true|_=>false) (xs.map ρ):=rfl
theorem zX(ats:Array TypeId)(ty:TypeId)(cs:Array Bool)(args:Array Value):Go.builtin .len ats ty cs args=(do pure (.value (← A7e ats ty args))):=rfl
theorem zH(ats:Array TypeId)(ty:TypeId)(cs:Array Bool)(args:Array Value):Go.builtin .cap ats ty cs args=(do pure (.value (← Builtin.cap_ ats ty args))):=rfl
theorem A4(ats:Array TypeId)(ty:TypeId)(cs:Array Bool)(args:Array Value):Go.builtin .min ats ty cs args=(do pure (.value (← Builtin.min_ ats ty args))):=rfl
theorem zM(ats:Array TypeId)(ty:TypeId)(cs:Array Bool)(args:Array Value):Go.builtin .max ats ty cs args=(do pure (.value (← Builtin.max_ ats ty args))):=rfl
theorem tZ(ats:Array TypeId)(ty:TypeId)(cs:Array Bool)(args:Array Value):Go.builtin .append ats ty cs args=(do pure (.value (← Builtin.append_ ats ty args))):=rfl
theorem yP(ats:Array TypeId)(ty:TypeId)(cs:Array Bool)(args:Array Value):Go.builtin .copy ats ty cs args=(do pure (.value (← Builtin.copy_ ats ty args))):=rfl
theorem Uf(ats:Array TypeId)(ty:TypeId)(cs:Array Bool)(args:Array Value):Go.builtin .clear ats ty cs args=(do pure (.value (← Builtin.clear_ ats ty args))):=rfl
theorem eT{args:Array Operand}{x y:Rd}(hreps:Reps c ([x,y].map s.ev) (args.toList.map a.eval)):∃v u,args.map a.eval= #[v,u]/\Rep c (s.ev x) v/\Rep c (s.ev y) u:=by
 have hl:=hreps.len
 simp at hl
 obtain⟨v,u,hv⟩:∃v u,args.toList=[v,u]:=by
  have hl':args.toList.length=2:=by simpa using hl
  match h:args.toList,hl' with
  | [v,u],_=>exact⟨v,u,rfl⟩
 have h0:=hreps.rep 0 (by simp) (by simp[hv])
 have h1:=hreps.rep 1 (by simp) (by simp[hv])
 exact⟨a.eval v,a.eval u,by apply A6F.1;simp[hv],by simpa[hv] using h0,by simpa[hv] using h1⟩
theorem kX{c:Cx}{w:World}{H:Hp}(k:Inv c w H){t kt et:TypeId}(hu:P.underlying t=some (.map kt et)){d:D}{es:List (D×D×Nat)}(h:E0 H d=some es){v:Value}(hr:Rep c d v)(ty:TypeId):
  (A7e #[t] ty #[v]).run P w= .ok (.int .i64 (es.length:Int)) w:=by
 unfold E0 at h
 split at h
 ·injection h with h;subst h
  cases hr
  simp[A7e,run_underlying hu,goInt]
 ·rename_i o
  split at h
  ·rename_i es' clk ho
   injection h with h;subst h
   obtain⟨_,g2⟩:=k.map o _ _ ho
   cases hr
   have:(getObj (c.β o)).run P w= .ok (.map (List.map D2 es').toArray clk) w:=by simp[getObj,Sem.run,g2]
   simp[A7e,run_underlying hu,this,goInt]
  ·cases h
 ·cases h
theorem oJ{o:Oper}{b:Builtin}{args:Array Operand}{ats:Array TypeId}(ho:o.op= .call { callee:=.builtin b,args,argTypes:=ats }){oo:O}(h:cOp P imp dr j o.op=some oo)(hs:Sim c s a w)(hW:WO X oo s K):aD P o a c w s K:=by
 rw[ho] at h
 obtain⟨dst,op,ty,pos,after,guard⟩:=o
 simp only at ho
 subst ho
 have he:=uD a.eval dst b args ats ty pos after guard
 simp only[cOp] at h
 split at h
 ·rename_i rs hrs
  have hreps:=cD hrs hs.fr
  unfold uA at h
  split at h
  ·-- len
   rename_i t x hats
   have hargs:∃v,args.map a.eval= #[v]/\Rep c (s.ev x) v:=by
    have hl:=hreps.len
    simp at hl
    obtain⟨v,hv⟩:∃v,args.toList=[v]:=A63.1 (by simpa using hl)
    have:=hreps.rep 0 (by simp) (by simp[hv])
    refine⟨a.eval v,by apply A6F.1;simp[hv],by simpa[hv] using this⟩
   obtain⟨v,hv,hrep⟩:=hargs
   have hat:ats= #[t]:=by apply A6F.1;simpa using hats
   subst hat
   rw[hv,zX] at he
   split at h
   ·rename_i hst
    injection h with h;subst h
    obtain⟨d,hd,hW⟩:=BO hW
    simp only[qv] at hd
    cases hn:dW (s.ev x) with
    | none=>rw[hn] at hd;cases hd
    | some n =>
     rw[hn] at hd;injection hd with hd;subst hd
     exact AW hs he hW ⟨_,oG (DG hst) hrep hn ty,Rep.int _ _⟩
   ·split at h
    ·rename_i hsl
     obtain⟨e,hsl⟩:=A6T.1 hsl
     injection h with h;subst h
     obtain⟨d,hd,hW⟩:=BO hW
     simp only[qv] at hd
     cases hn:C2 (s.ev x) with
     | none=>rw[hn] at hd;cases hd
     | some n =>
      rw[hn] at hd;injection hd with hd;subst hd
      exact AW hs he hW ⟨_,rI hsl hrep hn ty,Rep.int _ _⟩
    ·split at h
     ·rename_i hm
      obtain⟨⟨kt,et⟩,hm⟩:=A6T.1 hm
      injection h with h;subst h
      obtain⟨d,hd,hW⟩:=BO hW
      simp only[qv] at hd
      cases hes:E0 s.H (s.ev x) with
      | none=>rw[hes] at hd;cases hd
      | some es =>
       rw[hes] at hd;injection hd with hd;subst hd
       exact AW hs he hW ⟨_,kX hs.inv (IK hm) hes hrep ty,Rep.int _ _⟩
     ·cases h
  ·-- cap
   rename_i t x hats
   have hargs:∃v,args.map a.eval= #[v]/\Rep c (s.ev x) v:=by
    have hl:=hreps.len
    simp at hl
    obtain⟨v,hv⟩:∃v,args.toList=[v]:=A63.1 (by simpa using hl)
    have:=hreps.rep 0 (by simp) (by simp[hv])
    refine⟨a.eval v,by apply A6F.1;simp[hv],by simpa[hv] using this⟩
   obtain⟨v,hv,hrep⟩:=hargs
   have hat:ats= #[t]:=by apply A6F.1;simpa using hats
   subst hat
   rw[hv,zH] at he
   split at h
   ·rename_i hsl
    obtain⟨e,hsl⟩:=A6T.1 hsl
    injection h with h;subst h
    obtain⟨d,hd,hW⟩:=BO hW
    simp only[qv] at hd
    cases hn:Qw (s.ev x) with
    | none=>rw[hn] at hd;cases hd
    | some n =>
     rw[hn] at hd;injection hd with hd;subst hd
     exact AW hs he hW ⟨_,rZ hsl hrep hn ty,Rep.int _ _⟩
   ·cases h
  ·rename_i x y
   obtain⟨v,u,hv,hrep,hrep'⟩:=eT hreps
   rw[hv,A4] at he
   injection h with h;subst h
   obtain⟨d,hd,hW⟩:=BO hW
   exact AW hs he hW (uI hrep hrep' hd)
  ·rename_i x y
   obtain⟨v,u,hv,hrep,hrep'⟩:=eT hreps
   rw[hv,zM] at he
   injection h with h;subst h
   obtain⟨d,hd,hW⟩:=BO hW
   exact AW hs he hW (tY hrep hrep' hd)
  ·rename_i st xt x y hats
   obtain⟨v,u,hv,hrep,hrep'⟩:=eT hreps
   rw[hv,tZ] at he
   have hat:ats= #[st,xt]:=by apply A6F.1;simpa using hats
   subst hat
   split at h
   ·rename_i e hsl
    split at h
    ·rename_i sz by_ z hsz hby hz
     split at h
     ·rename_i hc
      simp only[A6A,beq_iff_eq] at hc
      obtain⟨ki,hki⟩:=u6 hc.1
      injection h with h;subst h
      obtain⟨d,s',hk,ht,hy⟩:=oU (P:=P) hs.inv hsl hki hsz hby hz ty hrep hrep' rfl hs.T hW
      exact aJ he hk ht hy
     split at h
     ·rename_i hc
      simp only[A6A,beq_iff_eq,A67,A7n] at hc
      obtain⟨⟨h1,h2⟩,h3⟩:=hc
      injection h with h
      have hstr:∀l,s.ev y= .str l->FZ P xt=true->sz=1:=by
       intro l hl hst
       rcases h3 with h3|h3
       ·rw[hst] at h3;cases h3
       ·exact h3
      split at h
      ·subst h
       obtain⟨d,s',hk,ht,hy⟩:=nR (P:=P) hs.inv hsl h1 hsz hby hz h2 ty hrep hrep' hstr rfl hs.T _ hW
       exact aJ he hk ht hy
      subst h
      obtain⟨d,s',hk,ht,hy⟩:=Po (P:=P) hs.inv hsl h1 hsz hby hz h2 ty hrep hrep' hstr rfl hs.T hW
      exact aJ he hk ht hy
     ·cases h
    ·cases h
   ·cases h
  ·rename_i dt st x y hats
   obtain⟨v,u,hv,hrep,hrep'⟩:=eT hreps
   rw[hv,yP] at he
   have hat:ats= #[dt,st]:=by apply A6F.1;simpa using hats
   subst hat
   split at h
   ·rename_i e hsl
    split at h
    ·rename_i sz hsz
     injection h with h;subst h
     obtain⟨d,s',hk,ht,hy⟩:=nX (P:=P) (st:=st) hs.inv hsl hsz ty hrep hrep' rfl hs.T hW
     exact aJ he hk ht hy
    ·cases h
   ·cases h
  ·rename_i t x hats
   have hargs:∃v,args.map a.eval= #[v]/\Rep c (s.ev x) v:=by
    have hl:=hreps.len
    simp at hl
    obtain⟨v,hv⟩:∃v,args.toList=[v]:=A63.1 (by simpa using hl)
    have:=hreps.rep 0 (by simp) (by simp[hv])
    refine⟨a.eval v,by apply A6F.1;simp[hv],by simpa[hv] using this⟩
   obtain⟨v,hv,hrep⟩:=hargs
   have hat:ats= #[t]:=by apply A6F.1;simpa using hats
   subst hat
   rw[hv,Uf] at he
   split at h
   ·rename_i e hsl
    split at h
    ·rename_i z hz
     injection h with h;subst h
     obtain⟨d,s',hk,ht,hy⟩:=sQ (P:=P) hs.inv hsl hz ty hrep rfl hs.T hW
     exact aJ he hk ht hy
    ·cases h
   ·cases h
  ·cases h
 ·cases h
end GP
namespace GP
open Go
variable {P:Program} {X:BF} {c:Cx} {w:World} {H:Hp}
theorem Inv.newmap(k:Inv c w H)(nn:Nat){o:Nat}(hf:c.bd o=false){H':Hp}(h0:H'[o]? =some (.map [] 0))(hH:∀o',o'≠o->H'[o']? =H[o']?):
  Inv (BD c o w.heap.size nn) (w.alloc (.map #[] 0)) H':=by
 have hle:=GX (c:=c) (o:=o) (b:=w.heap.size) (n:=nn) hf
 have hβ:∀o',o'≠o->(BD c o w.heap.size nn).β o'=c.β o':=fun o' h=>by show Bv _ _ _ _=_;unfold Bv;rw[if_neg h]
 have hβ0:(BD c o w.heap.size nn).β o=w.heap.size:=by show Bv _ _ _ _=_;unfold Bv;rw[if_pos rfl]
 have hz:∀o',o'≠o->(BD c o w.heap.size nn).sz o'=c.sz o':=fun o' h=>by show Bv _ _ _ _=_;unfold Bv;rw[if_neg h]
 have hz0:(BD c o w.heap.size nn).sz o=nn:=by show Bv _ _ _ _=_;unfold Bv;rw[if_pos rfl]
 have hb:∀o',o'≠o->(BD c o w.heap.size nn).bd o'=c.bd o':=fun o' h=>by show EN _ _ _=_;unfold EN;rw[if_neg h]
 have hb0:(BD c o w.heap.size nn).bd o=true:=by show EN _ _ _=_;unfold EN;rw[if_pos rfl]
 have hMnew:∀i,c.M ⟨w.heap.size,i,none⟩=none:=fun i=>by
  cases hm:c.M ⟨w.heap.size,i,none⟩ with
  | none=>rfl
  | some v=>have:=k.M_lt hm;simp at this
 have hlow:=k.low
 refine⟨?_,?_,?_,?_,?_,?_,?_,?_,?_,?_,?_⟩
 ·intro a v h
  have h':c.M a=some v:=h
  rw[A7g _ _ _ (k.M_lt h')]
  exact k.keep a v h'
 ·rw[A65];exact Nat.le_succ_of_le k.low
 ·intro o' x' cs' ho' hx'
  by_cases e':o'=o
  ·subst e'
   rw[h0] at ho';injection ho' with ho';subst ho';cases hx'
  ·rw[hH o' e'] at ho'
   rw[hβ o' e',hz o' e']
   exact(k.row o' x' cs' ho' hx').mono hle (DT (k.own o' _ ho' (Ob.live_of_cells hx')).2.2.1)
 ·intro o' ho'
  by_cases e':o'=o
  ·subst e'
   rcases ho' with h|h
   ·rw[A6C h] at h0;cases h0
   ·rw[h0] at h;injection h with h;cases h
  ·rw[hb o' e']
   refine k.free o' ?_
   rcases ho' with h|h
   ·refine .inl ?_
    have:=hH o' e'
    rw[A6C h] at this
    exact List.getElem?_eq_none_iff.1 this.symm
   ·exact .inr (by rw[<- hH o' e'];exact h)
 ·intro o' x ho' hx
  by_cases e':o'=o
  ·subst e'
   rw[hβ0,A65]
   exact⟨hb0,k.low,Nat.lt_succ_self _,hMnew⟩
  ·rw[hH o' e'] at ho'
   obtain⟨h1,h2,h3,h4⟩:=k.own o' x ho' hx
   rw[hβ o' e',hb o' e',A65]
   exact⟨h1,h2,A7o h3,h4⟩
 ·intro o1 o2 x1 x2 g1 g2 l1 l2 he
  by_cases e1:o1=o<;>by_cases e2:o2=o
  ·rw[e1,e2]
  ·subst e1
   rw[hβ0,hβ o2 e2] at he
   rw[hH o2 e2] at g2
   have:=(k.own o2 x2 g2 l2).2.2.1
   omega
  ·subst e2
   rw[hβ0,hβ o1 e1] at he
   rw[hH o1 e1] at g1
   have:=(k.own o1 x1 g1 l1).2.2.1
   omega
  ·rw[hβ o1 e1,hβ o2 e2] at he
   rw[hH o1 e1] at g1
   rw[hH o2 e2] at g2
   exact k.apart o1 o2 x1 x2 g1 g2 l1 l2 he
 ·intro o' es clk h
  by_cases e':o'=o
  ·subst e'
   rw[h0] at h;injection h with h;injection h with h1 h2
   subst h1;subst h2
   rw[hβ0]
   exact⟨by simp,dJ w _⟩
  ·rw[hH o' e'] at h
   obtain⟨g1,g2⟩:=k.map o' es clk h
   rw[hβ o' e']
   exact⟨g1,(DT (k.own o' _ h rfl).2.2.1).trans g2⟩
 ·intro o' m l h
  by_cases e':o'=o
  ·subst e';rw[h0] at h;injection h with h;cases h
  ·rw[hH o' e'] at h;exact k.iter o' m l h
 ·intro τ m z hτ
  obtain⟨h1,h2,h3,h4,h5⟩:=k.tok τ m z hτ
  refine⟨h1,by rw[A65];exact A7o h2,h3,h4,fun j a b=>?_⟩
  obtain⟨g1,g2,g3⟩:=h5 j a b
  refine⟨?_,?_,g3⟩
  ·have:=A7g w (.map #[] 0) ⟨(c.κ τ).1.block,(c.κ τ).1.off+j,none⟩ h2
   exact(congrArg A7l this).trans g1
  ·have:=World.frozen?_alloc_old w (.map #[] 0) ⟨(c.κ τ).1.block,(c.κ τ).1.off+j,none⟩ (Nat.ne_of_lt h2)
   exact this.trans g2
 ·intro τ m z o' x hτ ho' hx
  by_cases e':o'=o
  ·subst e'
   rw[hβ0]
   exact Nat.ne_of_gt (k.tok τ m z hτ).2.1
  ·rw[hH o' e'] at ho'
   rw[hβ o' e']
   exact k.tokrow τ m z o' x hτ ho' hx
 ·exact k.toks
theorem wC(k:Inv c w H){T:Tk}(hT:c.T=T):Yld c w (H++[.map [] 0]) T (.mp H.length) (.ok (.map (some w.heap.size)) (w.alloc (.map #[] 0))):=by
 have hf:=k.free H.length (.inl (A6U _))
 refine⟨_,BD c H.length w.heap.size 0,_,rfl,?_,k.newmap 0 hf (dH _ _) (fun o h=>bD _ _ o h),GX hf,hT,Below.of_alloc w _ k.low⟩
 have:Rep (BD c H.length w.heap.size 0) (.mp H.length) (.map (some ((BD c H.length w.heap.size 0).β H.length))):=Rep.mp _ (by show EN _ _ _=_;unfold EN;rw[if_pos rfl])
 have hβ0:(BD c H.length w.heap.size 0).β H.length=w.heap.size:=by show Bv _ _ _ _=_;unfold Bv;rw[if_pos rfl]
 rwa [hβ0] at this
def bH(w:World)(b:Nat)(o:Obj):World:={ w with heap:=w.heap.setIfInBounds b o }
theorem iY(k:Inv c w H){o:Nat}{es:List (D×D×Nat)}{clk:Nat}(ho:H[o]? =some (.map es clk))(es':List (D×D×Nat))(clk':Nat)(hp:∀x∈es',pu x.1=true/\pu x.2.1=true):
  Inv c (bH w (c.β o) (.map (es'.map D2).toArray clk')) (H.set o (.map es' clk'))/\Below c.bb w (bH w (c.β o) (.map (es'.map D2).toArray clk')):=by
 obtain⟨k0,k1,k2,k3⟩:=k.own o _ ho rfl
 obtain⟨m1,m2⟩:=k.map o es clk ho
 obtain⟨s1,s2⟩:=MapKept.heap_set (o':=.map (es'.map D2).toArray clk') m2
 have hlt:o<H.length:=by
  rcases A6D o H.length with h'|h'
  ·exact h'
  ·rw[A6C h'] at ho;cases ho
 have hHo:(H.set o (.map es' clk'))[o]? =some (.map es' clk'):=by simp[hlt]
 have hHne:∀o',o'≠o->(H.set o (.map es' clk'))[o']? =H[o']?:=fun o' h=>by rw[A6K (Ne.symm h)]
 have hsz:(bH w (c.β o) (.map (es'.map D2).toArray clk')).heap.size=w.heap.size:=by simp[bH]
 have hcell:∀a:Addr,a.block≠c.β o->(bH w (c.β o) (.map (es'.map D2).toArray clk')).cell? a=w.cell? a:=fun a h=>by
  have:=s2 a.block h
  simp only[A7r,bH,this]
 have hfroz:∀a:Addr,a.block≠c.β o->(bH w (c.β o) (.map (es'.map D2).toArray clk')).frozen? a=w.frozen? a:=fun a h=>by
  have:=s2 a.block h
  simp only[World.frozen?,bH,this]
 have key:∀(o':Nat) (y:Ob),(H.set o (.map es' clk'))[o']? =some y->y.live=true->∃x':Ob,H[o']? =some x'/\x'.live=true:=fun o' y h l=>by
  by_cases e':o'=o
  ·subst e';exact⟨_,ho,rfl⟩
  ·rw[hHne o' e'] at h;exact⟨y,h,l⟩
 refine⟨⟨?_,by rw[hsz];exact k.low,?_,?_,?_,?_,?_,?_,?_,?_,k.toks⟩,?_⟩
 ·intro a v ha
  have hc:=k.keep a v ha
  have hne:a.block≠c.β o:=fun e=>by
   simp only[A7r,e,m2] at hc;cases hc
  rw[hcell a hne];exact hc
 ·intro o' x cs h hx
  by_cases e':o'=o
  ·subst e';rw[hHo] at h;injection h with h;subst h;cases hx
  ·rw[hHne o' e'] at h
   have hb:=fun e=>e' (k.apart o' o _ _ h ho (Ob.live_of_cells hx) rfl e)
   exact(k.row o' x cs h hx).mono (Cx.le.refl c) (s2 _ hb)
 ·intro o' h
  refine k.free o' ?_
  rcases h with h|h
  ·exact .inl (by simpa using h)
  ·by_cases e':o'=o
   ·subst e';rw[hHo] at h;cases h
   ·rw[hHne o' e'] at h;exact .inr h
 ·intro o' x h hx
  rw[hsz]
  by_cases e':o'=o
  ·subst e';exact⟨k0,k1,k2,k3⟩
  ·rw[hHne o' e'] at h;exact k.own o' x h hx
 ·intro o1 o2 x1 x2 h1' h2' l1 l2 he
  obtain⟨y1,a1,b1⟩:=key o1 x1 h1' l1
  obtain⟨y2,a2,b2⟩:=key o2 x2 h2' l2
  exact k.apart o1 o2 y1 y2 a1 a2 b1 b2 he
 ·intro o' es2 clk2 h
  by_cases e':o'=o
  ·subst e'
   rw[hHo] at h;injection h with h;injection h with e1 e2
   subst e1;subst e2
   exact⟨hp,s1⟩
  ·rw[hHne o' e'] at h
   obtain⟨g1,g2⟩:=k.map o' es2 clk2 h
   have hb:=fun e=>e' (k.apart o' o _ _ h ho rfl rfl e)
   exact⟨g1,(s2 _ hb).trans g2⟩
 ·intro o' m l h
  by_cases e':o'=o
  ·subst e';rw[hHo] at h;cases h
  ·rw[hHne o' e'] at h;exact k.iter o' m l h
 ·intro τ m z hτ
  obtain⟨h1,h2,h3,h4,h5⟩:=k.tok τ m z hτ
  have hb:(c.κ τ).1.block≠c.β o:=fun e=>k.tokrow τ m z o _ hτ ho rfl e.symm
  refine⟨h1,by rw[hsz];exact h2,h3,h4,fun j a b=>?_⟩
  obtain⟨z1,z2,z3⟩:=h5 j a b
  exact⟨(congrArg A7l (hcell ⟨(c.κ τ).1.block,(c.κ τ).1.off+j,none⟩ hb)).trans z1,(hfroz ⟨(c.κ τ).1.block,(c.κ τ).1.off+j,none⟩ hb).trans z2,z3⟩
 ·intro τ m z o' x hτ h hx
  by_cases e':o'=o
  ·subst e';exact k.tokrow τ m z o' _ hτ ho rfl
  ·rw[hHne o' e'] at h;exact k.tokrow τ m z o' x hτ h hx
 ·exact⟨rfl,rfl,rfl,by rw[hsz];exact A6U _,fun i hi=>s2 i (fun e=>by have hi':i<c.B:=hi;omega),fun _=>A6U _⟩
end GP
namespace GP
open Go
variable {P:Program} {c:Cx} {w:World} {H:Hp}
theorem pY{t:TypeId}{ks:List Ck}(ht:cks P t=some ks){xs ys:List D}{vx vy:List Value}(kx:Cells c xs vx)(ky:Cells c ys vy)(hk:Dn xs ks=true){b:Bool}
  (h:aG xs ys=some b):(Op.equal t (.agg vx.toArray) (.agg vy.toArray)).run P w= .ok b w:=by
 show(Op.equalIn 10000 t (.agg vx.toArray) (.agg vy.toArray)).run P w= .ok b w
 unfold cks at ht
 split at ht
 ·rename_i fs hu
  split at ht
  ·rename_i hg
   simp at hg
   have hf:P.fieldsOf t=fs:=by simp[Program.fieldsOf,hu]
   rw[show(10000:Nat)=9999+1 from rfl,run_equalIn_struct w 9999 t _ _ (by rw[hf];exact hu) hg.1,hf]
   exact cL 9998 vx vy fs.toList ks 0 xs ys b ht (by simpa using kx) (by simpa using ky) hk h
  ·cases ht
 ·rename_i n e hu
  split at ht
  ·rename_i hg
   simp at hg
   cases hc:H3 P e with
   | none=>rw[hc] at ht;cases ht
   | some k =>
    rw[hc] at ht;injection ht with ht;subst ht
    obtain⟨i,hi⟩:∃i,P.info? e=some i:=by
     have:=hg.2
     unfold tsz at this
     cases hi:P.info? e with
     | none=>rw[hi] at this;cases this
     | some i=>exact⟨i,rfl⟩
    have hcell:P.cellsOf e=1:=by
     have:=hg.2
     unfold tsz at this
     rw[hi] at this;injection this with this
     simp[Program.cellsOf,hi,this]
    rw[show(10000:Nat)=9999+1 from rfl,run_equalIn_array (P:=P) w 9999 vx.toArray vy.toArray hu hi,hcell,List.range_eq_range']
    exact cS 9998 hc hg.2 vx vy n 0 xs ys b (by simpa using kx) (by simpa using ky) hk h
  ·cases ht
 ·cases ht
theorem mE(c:Cx){xs:List D}(h:xs.all pu1=true):Cells c xs (xs.map DC):=by
 simp only[A6G] at h
 refine⟨by simp,fun d hd=>(gR c (h d hd)).2,fun i hi hi'=>?_⟩
 simp only[A7q]
 exact(gR c (h _ (A6Q hi))).1
theorem mK{t:TypeId}{k:Ck}(h:H3 P t=some k):∃d,P.underlying t=some d/\((k= .int/\∃q,d= .int q)∨(k= .str/\d= .string)∨(k= .bool/\d= .bool)):=by
 unfold H3 at h
 split at h<;>first|cases h|(injection h with h;subst h)
 ·rename_i hu;exact⟨_,hu,.inl ⟨rfl,_,rfl⟩⟩
 ·rename_i hu;exact⟨_,hu,.inr (.inl ⟨rfl,rfl⟩)⟩
 ·rename_i hu;exact⟨_,hu,.inr (.inr ⟨rfl,rfl⟩)⟩
theorem oX{t:TypeId}{k:Ck}(h:H3 P t=some k)(em:Bool)(n:Nat)(v:Value):(Instr.checkKey em (n+1) t v).run P w= .ok () w:=by
 obtain⟨d,hu,hd⟩:=mK h
 rcases hd with⟨_,q,rfl⟩|⟨_,rfl⟩|⟨_,rfl⟩<;>simp[Instr.checkKey,run_underlying hu]
theorem gS{α:Type}{body:α->PUnit->Sem (ForInStep PUnit)}:∀(l:List α),(∀x∈l,(body x ⟨⟩).run P w= .ok (.yield ⟨⟩) w)->(forIn l PUnit.unit body).run P w= .ok ⟨⟩ w
 | [],_=>by simp
 | x::l,h=>by
  simp only[List.forIn_cons,A6H,h x (by simp),A6B]
  exact gS l fun y hy=>h y (by simp[hy])
theorem nF: ∀ (fs : List Field) (ks : List Ck) (i : Nat), OS P i fs = some ks -> ∀ f ∈ fs, f.name ≠ "_" /\ (∃ k, H3 P f.type = some k) /\ f.offset < i + ks.length
 | [],_,_,_,_,hf=>by cases hf
 | g::fs,ks,i,h,f,hf=>by
  simp only[OS] at h
  split at h
  ·rename_i hn
   simp at hn
   split at h
   ·rename_i k ks' e1 e2
    injection h with h;subst h
    rcases A66.1 hf with rfl|hf
    ·exact⟨hn.1,⟨k,e1⟩,by rw[hn.2];simp⟩
    ·obtain⟨h1,h2,h3⟩:=nF fs ks' (i+1) e2 f hf
     exact⟨h1,h2,by simp;omega⟩
   ·cases h
  ·cases h
theorem mI:∀{xs:List D} {ks:List Ck},Dn xs ks=true->xs.length=ks.length
 | [],[],_=>rfl
 | [],_::_,h=>by simp[Dn] at h
 | _::_,[],h=>by simp[Dn] at h
 | _::xs,_::ks,h=>by
  simp only[Dn,A6A] at h
  simp[mI h.2]
theorem cN{kt:TypeId}{ks:Bool×List Ck}(hk:KH P kt=some ks){k:D}(hok:kok ks k=true)(em:Bool)(n:Nat):(Instr.checkKey em (n+2) kt (vOf k)).run P w= .ok () w:=by
 unfold KH at hk
 split at hk
 ·rename_i q hq
  exact oX hq em (n+1) _
 ·split at hk
  ·rename_i l hl
   injection hk with hk;subst hk
   unfold kok at hok
   simp only[A6A] at hok
   obtain⟨hp,hok⟩:=hok
   cases k with
   | agg xs =>
    simp only at hok
    have hlen:=mI hok
    have hv:vOf (.agg xs)= .agg (xs.map DC).toArray:=rfl
    rw[hv]
    unfold cks at hl
    split at hl
    ·rename_i fs hu
     split at hl
     ·rw[show n+2=(n+1)+1 from rfl,Instr.checkKey]
      simp only[A6H,run_underlying hu,A6B]
      rw[<- Array.forIn_toList,gS _ fun f hf=>?_]
      ·simp
      ·obtain⟨h1,⟨q,h2⟩,h3⟩:=nF _ _ _ hl f hf
       have lx:f.offset<(xs.map DC).length:=by simp[hlen];omega
       have px:(part f.type (xs.map DC).toArray f.offset).run P w= .ok (xs.map DC)[f.offset] w:=by simp[part,aP (fA h2)];simp at lx;simp[lx]
       simp only[h1,ne_eq,not_false_eq_true,if_true,A6H,px,A6B,oX h2,A6S]
     ·cases hl
    ·rename_i m e hu
     split at hl
     ·rename_i hg
      simp at hg
      cases hc:H3 P e with
      | none=>rw[hc] at hl;cases hl
      | some q =>
       rw[hc] at hl;injection hl with hl;subst hl
       obtain⟨i,hi,hs⟩:∃i,P.info? e=some i/\P.cellsOf e=1:=by
        have:=hg.2
        unfold tsz at this
        cases hi:P.info? e with
        | none=>rw[hi] at this;cases this
        | some i=>rw[hi] at this;injection this with this;exact⟨i,rfl,by simp[Program.cellsOf,hi,this]⟩
       rw[show n+2=(n+1)+1 from rfl,Instr.checkKey]
       simp only[A6H,run_underlying hu,A6B]
       simp only[Std.Legacy.Range.forIn_eq_forIn_range',Std.Legacy.Range.size,A7p,Nat.add_one_sub_one,Nat.div_one]
       rw[gS _ fun j hj=>?_]
       ·simp
       ·simp only[List.mem_range'_1] at hj
        have lx:j<xs.length:=by simp at hlen;omega
        have px:(part e (xs.map DC).toArray (j*1)).run P w= .ok (DC xs[j]) w:=by simp[part,aP (fA hc),lx]
        simp only[A6H,run_sizeOf w hi,hs,A6B,px,oX hc,A6S]
     ·cases hl
    ·cases hl
   | _=>simp at hok
  ·cases hk
def JQ(r:Option (Nat×D×Nat)):Option (Nat×Value):=r.map fun p=>(p.1,vOf p.2.1)
theorem jN{q:Ck}{kd:TypeDesc}(hd:(q= .int/\∃j,kd= .int j)∨(q= .str/\kd= .string)∨(q= .bool/\kd= .bool)){k:D}:∀(es:List (D×D×Nat)) (i:Nat) (r:Option (Nat×D×Nat)),fnd (false,[q]) k es i=some r →
  Instr.findNow kd (vOf k) (es.map D2) i=some (JQ r)
 | [],i,r,h=>by simp[fnd] at h;subst h;rfl
 | (k',v,b)::es,i,r,h=>by
  simp only[fnd] at h
  have key:∀x,keq (false,[q]) k k'=some x->Instr.sameNow kd (vOf k) (vOf k')=some x:=by
   intro x hx
   unfold keq at hx
   simp only at hx
   split at hx
   ·rename_i hc
    simp only[Dn,A6A,beq_iff_eq,and_true] at hc
    rcases hd with⟨rfl,j,rfl⟩|⟨rfl,rfl⟩|⟨rfl,rfl⟩<;>cases k<;>simp[ckD] at hc<;>cases k'<;>simp[bV] at hx
    ·obtain⟨h1,h2⟩:=hx
     subst h1;simp[Instr.sameNow,vOf,DC,← h2]
    ·subst hx
     simp only[Instr.sameNow,vOf,DC]
     congr 1
     rename_i a b
     show((⟨a.toArray⟩:ByteArray)==⟨b.toArray⟩)=(a==b)
     rw[Bool.eq_iff_iff,MapKept.bytes_beq]
     simp
    ·subst hx;simp[Instr.sameNow,vOf,DC]
   ·cases hx
  simp only[A61,Instr.findNow,D2]
  split at h
  ·rename_i hx
   injection h with h;subst h
   rw[key _ hx];rfl
  ·rename_i hx
   rw[key _ hx]
   exact jN hd es (i+1) r h
  ·cases h
theorem j8{kt:TypeId}{ks:List Ck}(ht:cks P kt=some ks){xs:List D}(hx:xs.all pu1=true):∀(es:List (D×D×Nat)) (i:Nat) (r:Option (Nat×D×Nat)),(∀x∈es,pu x.1=true/\pu x.2.1=true)->fnd (true,ks) (.agg xs) es i=some r →
  (Instr.findAsking kt (vOf (.agg xs)) (es.map D2) i).run P w= .ok (JQ r) w
 | [],i,r,hp,h=>by simp[fnd] at h;subst h;simp[Instr.findAsking,JQ]
 | (k',v,b)::es,i,r,hp,h=>by
  simp only[fnd] at h
  have hk':=(hp (k',v,b) (by simp)).1
  simp only at hk'
  have key:∀x,keq (true,ks) (.agg xs) k'=some x->(Op.equal kt (vOf (.agg xs)) (vOf k')).run P w= .ok x w:=by
   intro x hx'
   unfold keq at hx'
   cases k' with
   | agg ys =>
    simp only at hx'
    split at hx'
    ·rename_i hc
     have c0:Cx:=⟨fun _=>none,fun _=>0,fun _=>(⟨0,0,none⟩,0),fun _=>false,[],(false,0),fun _=>0⟩
     exact pY ht (mE c0 hx) (mE c0 hk') hc hx'
    ·cases hx'
   | _=>simp at hx'
  simp only[A61,Instr.findAsking,D2,A6H]
  split at h
  ·rename_i hx'
   injection h with h;subst h
   rw[key _ hx'];simp[JQ]
  ·rename_i hx'
   rw[key _ hx']
   simp only[A6B,A62,if_false]
   exact j8 ht hx es (i+1) r (fun x hx=>hp x (by simp[hx])) h
  ·cases h
theorem bP{kt:TypeId}{ks:Bool×List Ck}(hk:KH P kt=some ks){k:D}(hok:kok ks k=true){es:List (D×D×Nat)}{r:Option (Nat×D×Nat)}(hp:∀x∈es,pu x.1=true/\pu x.2.1=true)(h:fnd ks k es 0=some r):
  (Instr.findKey kt (vOf k) (es.map D2)).run P w= .ok (JQ r) w:=by
 unfold KH at hk
 split at hk
 ·rename_i q hq
  injection hk with hk;subst hk
  obtain⟨d,hu,hd⟩:=mK hq
  exact MapKept.run_findKey hu (jN hd es 0 r h)
 ·split at hk
  ·rename_i l hl
   injection hk with hk;subst hk
   unfold kok at hok
   simp only[A6A] at hok
   obtain⟨hpk,hok⟩:=hok
   cases k with
   | agg xs =>
    have hw:(match P.underlying kt with|some (.array _ _)|some (.struct _)=>true|_=>false)=true:=by
     unfold cks at hl
     split at hl
     ·rename_i hu;rw[hu]
     ·rename_i hu;rw[hu]
     ·cases hl
    rw[run_findKey_eq w hw]
    exact j8 hl hpk es 0 r hp h
   | _=>simp at hok
  ·cases hk
end GP
namespace GP
open Go
variable {P:Program} {X:BF} {imp:Hn} {dr:Bool} {j:Pl} {c:Cx} {s:S} {a:Act} {w:World} {K:D->S->Prop}
theorem gJ{ks:Bool×List Ck}{k:D}:∀{es:List (D×D×Nat)} {i0 i b:Nat} {v:D},fnd ks k es i0=some (some (i,v,b))->i0<=i/\∃k',es[i - i0]? =some (k',v,b)/\keq ks k k'=some true
 | [],_,_,_,_,h=>by simp[fnd] at h
 | (k',v',b')::es,i0,i,b,v,h=>by
  simp only[fnd] at h
  split at h
  ·rename_i hk
   injection h with h;injection h with h;injection h with h1 h2;injection h2 with h2 h3
   subst h1;subst h2;subst h3
   exact⟨A6U _,k',by simp,hk⟩
  ·obtain⟨h1,k2,h2,h3⟩:=gJ h
   refine⟨by omega,k2,?_,h3⟩
   rw[show i - i0=(i - (i0+1))+1 by omega]
   simpa using h2
  ·cases h
theorem nH{x y:D}(h:bV x y=some true)(n:Nat):Instr.sameBits n (DC y) (DC x)=true:=by
 cases x<;>cases y<;>simp[bV] at h
 ·subst h;cases n<;>simp[DC,Instr.sameBits]
 ·obtain⟨h1,h2⟩:=h
  subst h1;subst h2;cases n<;>simp[DC,Instr.sameBits]
 ·subst h
  have:∀b:ByteArray,(b==b)=true:=fun b=>(MapKept.bytes_beq b b).2 rfl
  cases n<;>simp[DC,Instr.sameBits,this]
theorem Hb(n:Nat):∀{xs ys:List D},aG xs ys=some true->xs.length=ys.length/\((ys.map DC).zip (xs.map DC)).all (fun(x,y)=>Instr.sameBits n x y)=true
 | [],[],_=>⟨rfl,rfl⟩
 | [],_::_,h=>by simp[aG] at h
 | _::_,[],h=>by simp[aG] at h
 | x::xs,y::ys,h=>by
  simp only[aG] at h
  split at h
  ·rename_i p q hp hq
   injection h with h
   simp only[A6A] at h
   obtain⟨h1,h2⟩:=h
   subst h1;subst h2
   obtain⟨i1,i2⟩:=Hb n hq
   refine⟨by simp[i1],?_⟩
   simp only[A61,List.zip_cons_cons,A7t,nH hp,i2,Bool.and_self]
  ·cases h
theorem mO{ks:Bool×List Ck}{k k':D}(h:keq ks k k'=some true):Instr.sameBits 10000 (vOf k') (vOf k)=true:=by
 obtain⟨ag,ks⟩:=ks
 cases ag with
 | true =>
  cases k with
  | agg xs =>
   cases k' with
   | agg ys =>
    have h:(if Dn xs ks=true then aG xs ys else none)=some true:=h
    split at h
    ·obtain⟨h1,h2⟩:=Hb 9999 h
     show(((ys.map DC).toArray.size==(xs.map DC).toArray.size)&&((ys.map DC).toArray.toList.zip (xs.map DC).toArray.toList).all fun(x,y)=>Instr.sameBits 9999 x y)=true
     simp only[List.size_toArray,A7d,h1,beq_self_eq_true,Bool.true_and]
     exact h2
    ·cases h
   | _=>simp[keq] at h
  | _=>simp[keq] at h
 | false =>
  have h:(if Dn [k] ks=true then bV k k' else none)=some true:=h
  split at h
  ·cases k<;>cases k'<;>simp[bV] at h
   ·subst h;simp[vOf,DC,Instr.sameBits]
   ·obtain⟨h1,h2⟩:=h
    subst h1;subst h2;simp[vOf,DC,Instr.sameBits]
   ·subst h
    have:∀b:ByteArray,(b==b)=true:=fun b=>(MapKept.bytes_beq b b).2 rfl
    simp[vOf,DC,Instr.sameBits,this]
  ·cases h
theorem dZ{ks:Bool×List Ck}{k:D}(h:kok ks k=true):pu k=true:=by
 unfold kok at h
 simp only[A6A] at h
 exact h.1
theorem iM{es:List (D×D×Nat)}{i b:Nat}{k k' v v':D}(h:es[i]? =some (k',v',b)):(es.map D2).toArray.modify i (fun e=>{ e with key:=vOf k,val:=vOf v })=((es.set i (k,v,b)).map D2).toArray:=by
 apply A6Z
 intro j
 rw[A6R]
 simp only[A64,A69]
 by_cases e:i=j
 ·subst e
  have:i<es.length:=by
   rcases A6D i es.length with h'|h'
   ·exact h'
   ·rw[A6C h'] at h;cases h
  rw[if_pos rfl,h,A7c this]
  rfl
 ·rw[if_neg e,A6K e]
theorem kA(es:List (D×D×Nat))(k v:D)(b:Nat):(es.map D2).toArray.push { key:=vOf k,val:=vOf v,born:=b }=((es++[(k,v,b)]).map D2).toArray:=by
 simp[D2]
theorem oE{es:List (D×D×Nat)}(hp:∀x∈es,pu x.1=true/\pu x.2.1=true){i b:Nat}{k v:D}(hk:pu k=true)(hv:pu v=true):∀x∈es.set i (k,v,b),pu x.1=true/\pu x.2.1=true:=fun x hx=>by
 rcases List.mem_or_eq_of_mem_set hx with h|rfl
 ·exact hp x h
 ·exact⟨hk,hv⟩
theorem rB{es:List (D×D×Nat)}(hp:∀x∈es,pu x.1=true/\pu x.2.1=true){b:Nat}{k v:D}(hk:pu k=true)(hv:pu v=true):∀x∈es++[(k,v,b)],pu x.1=true/\pu x.2.1=true:=fun x hx=>by
 rcases A6L.1 hx with h|h
 ·exact hp x h
 ·rw[A7m] at h;subst h;exact⟨hk,hv⟩
theorem lN{o:Nat}{v:Value}(h:Rep c (.mp o) v):v= .map (some (c.β o)):=by cases h;rfl
theorem tK{o:Oper}{t:TypeId}{r:Option Operand}(ho:o.op= .makeMap t r){oo:O}(h:cOp P imp dr j o.op=some oo)(hs:Sim c s a w)(hW:WO X oo s K):aD P o a c w s K:=by
 rw[ho] at h
 have he:execOp a.eval o=(do pure (.value (← Instr.makeMap t (r.map a.eval)))):=by unfold execOp;simp only[ho]
 cases r with
 | some r=>simp[cOp] at h
 | none =>
  simp only[cOp] at h
  split at h
  ·cases h
  ·split at h
   ·injection h with h;subst h
    have hm:(Instr.makeMap t none).run P w= .ok (.map (some w.heap.size)) (w.alloc (.map #[] 0)):=by simp[Instr.makeMap]
    change K (.mp s.H.length) ⟨s.t,s.H++[.map [] 0],s.T⟩ at hW
    refine aJ he (d:=.mp s.H.length) (s':=⟨s.t,s.H++[.map [] 0],s.T⟩) hW rfl ?_
    simp only[A7f,hm]
    exact wC hs.inv hs.T
   ·cases h
theorem sW{o:Oper}{t:TypeId}{x y:Operand}{ok:Bool}(ho:o.op= .lookup t x y ok){oo:O}(h:cOp P imp dr j o.op=some oo)(hs:Sim c s a w)(hW:WO X oo s K):aD P o a c w s K:=by
 rw[ho] at h
 have he:execOp a.eval o=(do pure (.value (← Instr.lookup t (a.eval x) (a.eval y) ok))):=by unfold execOp;simp only[ho]
 simp only[cOp] at h
 split at h
 ·rename_i kt et r q hm hr hq
  split at h
  ·rename_i ks z hks hz
   injection h with h;subst h
   obtain⟨d,hd,hW⟩:=BO hW
   simp only[qv] at hd
   have hpz:pu z=true:=by
    cases hq':pu z with
    | true=>rfl
    | false=>rw[hq'] at hd;simp at hd
   rw[if_pos hpz] at hd
   unfold Gv at hd
   split at hd
   ·rename_i hok
    have hu:=IK hm
    have rk:=fO (dZ hok) (Aa hq hs.fr)
    have rx:=Aa hr hs.fr
    obtain⟨_,zv,hzv,rz⟩:=jQ hz c w
    have tup:∀(e:D) (v:Value) (b:Bool),Rep c e v->Rep c (.tup [e,.bool b]) (.tuple #[v,.bool b]):=fun e v b hr=>by
     refine Rep.tup [e,.bool b] [v,.bool b] rfl fun i hi hi'=>?_
     match i,hi with
     | 0,_=>exact hr
     | 1,_=>exact .bool _
    have chk:∀em,(Instr.checkKey em 10000 kt (a.eval y)).run P w= .ok () w:=fun em=>by
     rw[rk];exact cN (P:=P) (w:=w) hks hok em 9998
    have go:∀es,E0 s.H (s.ev r)=some es->(∀x∈es,pu x.1=true/\pu x.2.1=true)/\((a.eval x= .map none/\es=[])∨∃b clk,a.eval x= .map (some b)/\w.heap[b]? =some (.map (es.map D2).toArray clk)):=by
     intro es hes
     unfold E0 at hes
     split at hes
     ·rename_i hev
      injection hes with hes;subst hes
      rw[hev] at rx
      refine⟨by simp,.inl ⟨?_,rfl⟩⟩
      generalize a.eval x=v at rx
      cases rx;rfl
     ·rename_i o' hev
      rw[hev] at rx
      split at hes
      ·rename_i es' clk ho'
       injection hes with hes;subst hes
       obtain⟨g1,g2⟩:=hs.inv.map o' _ _ ho'
       exact⟨g1,.inr ⟨c.β o',clk,lN rx,g2⟩⟩
      ·cases hes
     ·cases hes
    split at hd
    ·rename_i es hes
     obtain⟨hp,hx⟩:=go es hes
     have hd2:∃r0,fnd ks (s.ev q) es 0=some r0/\(match r0 with|some (_,v,_)=>some (if ok then D.tup [v,.bool true] else v)|none=>some (if ok then .tup [z,.bool false] else z))=some d:=by
      split at hd
      ·rename_i i v b hf;exact⟨_,hf,hd⟩
      ·rename_i hf;exact⟨_,hf,hd⟩
      ·cases hd
     obtain⟨r0,hf,hd2⟩:=hd2
     have hfs:=bP (P:=P) (w:=w) hks hok hp hf
     rw[<- rk] at hfs
     cases r0 with
     | some p =>
      obtain⟨i,v,b⟩:=p
      obtain⟨_,k',g1,_⟩:=gJ hf
      have hv:=(hp _ (A6X g1)).2
      simp only at hd2 hv
      injection hd2 with hd2
      refine AW hs he hW ⟨if ok then .tuple #[vOf v,.bool true] else vOf v,?_,?_⟩
      ·unfold Instr.lookup
       rcases hx with⟨hx,rfl⟩|⟨b,clk,hx,hb⟩
       ·simp at g1
       ·simp[hx,run_underlying hu,MapKept.run_getObj_map hb,chk,hfs,JQ]
      ·cases ok with
       | true=>subst hd2;exact tup _ _ _ (lL c hv)
       | false=>subst hd2;exact lL c hv
     | none =>
      simp only at hd2
      injection hd2 with hd2
      refine AW hs he hW ⟨if ok then .tuple #[zv,.bool false] else zv,?_,?_⟩
      ·unfold Instr.lookup
       rcases hx with⟨hx,rfl⟩|⟨b,clk,hx,hb⟩
       ·simp only[List.map_nil] at hfs
        simp[hx,run_underlying hu,chk,hfs,JQ,hzv]
       ·simp[hx,run_underlying hu,MapKept.run_getObj_map hb,chk,hfs,JQ,hzv]
      ·cases ok with
       | true=>subst hd2;exact tup _ _ _ rz
       | false=>subst hd2;exact rz
    ·cases hd
   ·cases hd
  ·cases h
 ·cases h
theorem qU{es:List (D×D×Nat)}{i b:Nat}{k' v:D}(h:es[i]? =some (k',v,b))(d:Value):((((es.map D2).toArray[i]?).map (·.key)).getD d)=vOf k':=by
 simp[h,D2]
theorem xC{o:Oper}{t:TypeId}{x y z:Operand}(ho:o.op= .mapUpdate t x y z){oo:O}(h:cOp P imp dr j o.op=some oo)(hs:Sim c s a w)(hW:WO X oo s K):aD P o a c w s K:=by
 rw[ho] at h
 have he:execOp a.eval o=(do Instr.mapUpdate t (a.eval x) (a.eval y) (a.eval z);pure .skip):=by unfold execOp;simp only[ho]
 simp only[cOp] at h
 split at h
 ·rename_i kt et r q p hm hr hq hp
  split at h
  ·rename_i ks hks
   injection h with h;subst h
   obtain⟨hok,hpv,hW⟩:=hW
   have hu:=IK hm
   have rk:=fO (dZ hok) (Aa hq hs.fr)
   have rv:=fO hpv (Aa hp hs.fr)
   have rx:=Aa hr hs.fr
   have chk:∀em,(Instr.checkKey em 10000 kt (a.eval y)).run P w= .ok () w:=fun em=>by
    rw[rk];exact cN (P:=P) (w:=w) hks hok em 9998
   split at hW
   ·rename_i o' hev
    rw[hev] at rx
    have rx:=lN rx
    split at hW
    ·rename_i es clk hH
     obtain⟨hpu,hb⟩:=hs.inv.map o' _ _ hH
     split at hW
     ·rename_i i v0 b hf
      have hfs:=bP (P:=P) (w:=w) hks hok hpu hf
      rw[<- rk] at hfs
      obtain⟨_,k',g1,g2⟩:=gJ hf
      simp only[A7p] at g1
      have hsb:=mO g2
      obtain⟨e2,e3⟩:=iY hs.inv hH (es.set i (s.ev q,s.ev p,b)) clk (oE hpu (dZ hok) hpv)
      refine .inr (.inl ⟨_,?_,⟨_,_,c,hW,rfl,Rep.top _,e2,Cx.le.refl c,hs.T,e3⟩⟩)
      rw[he]
      have hset:=iM (k:=s.ev q) (v:=s.ev p) g1
      have hkey:=qU g1 (a.eval y)
      unfold Instr.mapUpdate
      simp only[A6H,run_underlying hu,A6B,rx,MapKept.run_getObj_map hb,chk,hfs,JQ,A7s,hkey]
      unfold Instr.keyThatStays
      rw[rk,rv,hsb]
      simp only[if_true,A6S,A6H,A6B,hset,MapKept.run_setObj_map _ hb]
      rfl
     ·rename_i hf
      have hfs:=bP (P:=P) (w:=w) hks hok hpu hf
      rw[<- rk] at hfs
      obtain⟨e2,e3⟩:=iY hs.inv hH (es++[(s.ev q,s.ev p,clk)]) (clk+1) (rB hpu (dZ hok) hpv)
      refine .inr (.inl ⟨_,?_,⟨_,_,c,hW,rfl,Rep.top _,e2,Cx.le.refl c,hs.T,e3⟩⟩)
      rw[he]
      have hpush:=kA es (s.ev q) (s.ev p) clk
      unfold Instr.mapUpdate
      simp only[A6H,run_underlying hu,A6B,rx,MapKept.run_getObj_map hb,chk,hfs,JQ,A7f]
      rw[rk,rv,hpush]
      simp only[A6S,A6B,MapKept.run_setObj_map _ hb]
      rfl
     ·exact hW.elim
    ·exact hW.elim
   ·exact hW.elim
  ·cases h
 ·cases h
theorem mS{e:D}{v:Value}(n:Int)(h:Rep c e v):Rep c (.tup [e,.int .i64 n]) (.tuple #[v,.int .i64 n]):=by
 refine Rep.tup [e,.int .i64 n] [v,.int .i64 n] rfl fun i hi hi'=>?_
 match i,hi with
 | 0,_=>exact h
 | 1,_=>exact .int _ _
theorem wI{es:List (D×D×Nat)}{i b:Nat}{k k' v:D}(h:es[i]? =some (k',v,b)):(es.map D2).toArray.modify i (fun e=>{ e with key:=vOf k })=((es.set i (k,v,b)).map D2).toArray:=by
 rw[<- iM (v:=v) h]
 apply A6Z
 intro j
 rw[A6R,A6R]
 by_cases e:i=j
 ·subst e
  simp only[if_true,A64,A69,h]
  rfl
 ·rw[if_neg e,if_neg e]
theorem uW{es:List (D×D×Nat)}{i b:Nat}{k' v:D}(h:es[i]? =some (k',v,b)):((((es.map D2).toArray[i]?).map (fun x=>(x.born:Int))).getD 0)=(b:Int):=by
 simp[h,D2]
theorem wD{o:Oper}{t:TypeId}{x y:Operand}(ho:o.op= .mapEntry t x y){oo:O}(h:cOp P imp dr j o.op=some oo)(hs:Sim c s a w)(hW:WO X oo s K):aD P o a c w s K:=by
 rw[ho] at h
 have he:execOp a.eval o=(do pure (.value (← Instr.mapEntry t (a.eval x) (a.eval y)))):=by unfold execOp;simp only[ho]
 simp only[cOp] at h
 split at h
 ·rename_i kt et r q hm hr hq
  split at h
  ·rename_i ks z hks hz
   injection h with h;subst h
   obtain⟨hok,hpv,hW⟩:=hW
   have hu:=IK hm
   have rk:=fO (dZ hok) (Aa hq hs.fr)
   have rx:=Aa hr hs.fr
   obtain⟨_,zv,hzv,rz⟩:=jQ hz c w
   have rzv:=fO hpv rz
   have chk:∀em,(Instr.checkKey em 10000 kt (a.eval y)).run P w= .ok () w:=fun em=>by
    rw[rk];exact cN (P:=P) (w:=w) hks hok em 9998
   split at hW
   ·rename_i o' hev
    rw[hev] at rx
    have rx:=lN rx
    split at hW
    ·rename_i es clk hH
     obtain⟨hpu,hb⟩:=hs.inv.map o' _ _ hH
     split at hW
     ·rename_i i v0 b hf
      have hfs:=bP (P:=P) (w:=w) hks hok hpu hf
      rw[<- rk] at hfs
      obtain⟨_,k',g1,g2⟩:=gJ hf
      simp only[A7p] at g1
      have hsb:=mO g2
      have hv0:=(hpu _ (A6X g1)).2
      obtain⟨e2,e3⟩:=iY hs.inv hH (es.set i (s.ev q,v0,b)) clk (oE hpu (dZ hok) hv0)
      have hset:=wI (k:=s.ev q) g1
      have hkey:=qU g1 (a.eval y)
      have hborn:=uW g1
      refine eC he (v:=.tuple #[vOf v0,.int .i64 (b:Int)]) (w':=bH w (c.β o') (.map ((es.set i (s.ev q,v0,b)).map D2).toArray clk)) ?_ ⟨_,_,c,hW,rfl,mS _ (lL c hv0),e2,Cx.le.refl c,hs.T,e3⟩
      unfold Instr.mapEntry
      simp only[A6H,run_underlying hu,A6B,rx,MapKept.run_getObj_map hb,chk,hfs,JQ,A7s,hkey]
      unfold Instr.keyThatStays
      rw[rk,hsb]
      simp only[if_true,A6S,A6H,A6B,hset,MapKept.run_setObj_map _ hb,hborn]
      rfl
     ·rename_i hf
      have hfs:=bP (P:=P) (w:=w) hks hok hpu hf
      rw[<- rk] at hfs
      obtain⟨e2,e3⟩:=iY hs.inv hH (es++[(s.ev q,z,clk)]) (clk+1) (rB hpu (dZ hok) hpv)
      have hpush:=kA es (s.ev q) z clk
      refine eC he (v:=.tuple #[vOf z,.int .i64 (clk:Int)]) (w':=bH w (c.β o') (.map ((es++[(s.ev q,z,clk)]).map D2).toArray (clk+1))) ?_ ⟨_,_,c,hW,rfl,mS _ (lL c hpv),e2,Cx.le.refl c,hs.T,e3⟩
      unfold Instr.mapEntry
      simp only[A6H,run_underlying hu,A6B,rx,MapKept.run_getObj_map hb,chk,hfs,JQ,A7f,hzv]
      rw[rk,rzv,hpush]
      simp only[A6S,A6B,MapKept.run_setObj_map _ hb]
      rfl
     ·exact hW.elim
    ·exact hW.elim
   ·exact hW.elim
  ·cases h
 ·cases h
theorem wN{es:List (D×D×Nat)}{i:Nat}{e:D×D×Nat}{v:D}(h:es[i]? =some e):(es.map D2).toArray.modify i (fun e=>{ e with val:=vOf v })=((es.set i (e.1,v,e.2.2)).map D2).toArray:=by
 obtain⟨k',v',b⟩:=e
 rw[<- iM (k:=k') (v:=v) h]
 apply A6Z
 intro j
 rw[A6R,A6R]
 by_cases e:i=j
 ·subst e
  simp only[if_true,A64,A69,h]
  rfl
 ·rw[if_neg e,if_neg e]
theorem Wc{o:Oper}{t:TypeId}{x y z:Operand}(ho:o.op= .entryStore t x y z){oo:O}(h:cOp P imp dr j o.op=some oo)(hs:Sim c s a w)(hW:WO X oo s K):aD P o a c w s K:=by
 rw[ho] at h
 have he:execOp a.eval o=(do Instr.entryStore t (a.eval x) (a.eval y) (a.eval z);pure .skip):=by unfold execOp;simp only[ho]
 simp only[cOp] at h
 split at h
 ·rename_i r q p hr hq hp
  injection h with h;subst h
  obtain⟨hpv,hW⟩:=hW
  have rv:=fO hpv (Aa hp hs.fr)
  have rx:=Aa hr hs.fr
  have rq:=Aa hq hs.fr
  split at hW
  ·rename_i o' kd n hev hq'
   rw[hev] at rx
   rw[hq'] at rq
   have rx:=lN rx
   have rq:a.eval y= .int kd n:=by generalize a.eval y=u at rq;cases rq;rfl
   split at hW
   ·rename_i es clk hH
    obtain⟨hpu,hb⟩:=hs.inv.map o' _ _ hH
    split at hW
    ·rename_i i hi
     split at hW
     ·rename_i e hei
      have hie:=hpu _ (A6X hei)
      obtain⟨e2,e3⟩:=iY hs.inv hH (es.set i (e.1,s.ev p,e.2.2)) clk (oE hpu hie.1 hpv)
      refine .inr (.inl ⟨_,?_,⟨_,_,c,hW,rfl,Rep.top _,e2,Cx.le.refl c,hs.T,e3⟩⟩)
      rw[he]
      have hset:=wN (v:=s.ev p) hei
      have hfi:(es.map D2).toArray.findIdx? (fun e=>(e.born:Int)==n)=some i:=by
       rw[List.findIdx?_toArray,List.findIdx?_map]
       exact hi
      unfold Instr.entryStore
      simp only[rx,rq,A6H,MapKept.run_getObj_map hb,A6B,asInt,asIntOf,A6S,hfi]
      rw[rv,hset]
      simp only[MapKept.run_setObj_map _ hb,A6B]
      rfl
     ·exact hW.elim
    ·exact hW.elim
   ·exact hW.elim
  ·exact hW.elim
 ·cases h
end GP
namespace GP
open Go
variable {P:Program} {X:BF} {imp:Hn} {dr:Bool} {j:Pl} {c:Cx} {s:S} {a:Act} {w:World} {K:D->S->Prop}
theorem vQ[HasG P](hX:∀f args H T Q,X f args H T Q->Snd P f args H T Q){o:Oper}{oo:O}(h:cOp P imp dr j o.op=some oo)(hG:HasG.G P c w)(hs:Sim c s a w)(hW:WO X oo s K):aD P o a c w s K:=by
 cases ho:o.op with
 | move x =>
  have h':=h
  rw[ho] at h'
  simp only[cOp] at h'
  split at h'
  ·rename_i r hr
   injection h' with h';subst h'
   change K (s.ev r) s at hW
   refine .inl ⟨a.eval x,w,?_,.quiet hs hW (Aa hr hs.fr)⟩
   unfold execOp;simp only[ho];rfl
  ·cases h'
 | assign x =>
  have h':=h
  rw[ho] at h'
  simp only[cOp] at h'
  split at h'
  ·rename_i r hr
   injection h' with h';subst h'
   change K (s.ev r) s at hW
   refine .inl ⟨a.eval x,w,?_,.quiet hs hW (Aa hr hs.fr)⟩
   unfold execOp;simp only[ho];rfl
  ·cases h'
 | pick x y z =>
  have h':=h
  rw[ho] at h'
  simp only[cOp] at h'
  split at h'
  ·rename_i r q p hr hq hp
   injection h' with h';subst h'
   obtain⟨d,hd,hW⟩:=BO hW
   simp only[qv] at hd
   split at hd
   ·rename_i t hev
    injection hd with hd;subst hd
    have h1:=Aa hr hs.fr
    rw[hev] at h1
    have h2:=Aa hq hs.fr
    have h3:=Aa hp hs.fr
    have hb:a.eval x= .bool t:=by
     generalize a.eval x=v at h1
     cases h1;rfl
    refine .inl ⟨if t then a.eval y else a.eval z,w,?_,.quiet hs hW (by cases t;exact h3;exact h2)⟩
    unfold execOp;simp only[ho,hb];simp[asBool]
   ·cases hd
  ·cases h'
 | alloc t=>exact vT ho h hs hW
 | box t x=>exact yR ho h hs hW
 | build t ps=>exact vN ho h hs hW
 | buildSlice t n ps=>exact z9 ho h hs hW
 | load t x=>exact wE ho h hs hW
 | store t x v=>exact vK ho h hs hW
 | nilCheck x =>
  have h':=h
  rw[ho] at h'
  simp only[cOp] at h'
  split at h'
  ·rename_i r hr
   injection h' with h';subst h'
   obtain⟨d,hd,hW⟩:=BO hW
   have h1:=Aa hr hs.fr
   have key:∀v,a.eval x=v->Rep c (s.ev r) v->(execOp a.eval o).run P w= .ok (.value v) w/\d=s.ev r:=by
    intro v hv hrep
    have hd':N2 (s.ev r)=some d:=hd
    generalize s.ev r=e at *
    cases hrep<;>simp[N2] at hd'
    all_goals
     refine⟨?_,hd'.symm⟩
     unfold execOp
     simp only[ho,hv]
     rfl
   obtain⟨k1,k2⟩:=key _ rfl h1
   exact .inl ⟨_,w,k1,.quiet hs hW (by rw[k2];exact h1)⟩
  ·cases h'
 | binOp op t x y t'=>exact zA ho h hs hW
 | unOp op t x =>
  have h':=h
  rw[ho] at h'
  simp only[cOp] at h'
  split at h'
  ·rename_i r hr
   injection h' with h';subst h'
   obtain⟨d,hd,hW⟩:=BO hW
   have he:execOp a.eval o=(do pure (.value (← Op.unary op (a.eval x)))):=by unfold execOp;simp only[ho]
   exact AW hs he hW (vE (Aa hr hs.fr) hd)
  ·cases h'
 | convert src dst x=>exact wG ho h hs hW
 | makeFunc fn first cap =>
  have h':=h
  rw[ho] at h'
  cases fn with
  | func f =>
   simp only[cOp] at h'
   split at h'
   ·rename_i p q hp hq
    injection h' with h';subst h'
    change K (.fn f (p.map s.ev) (q.map s.ev)) s at hW
    have h1:=cD hp hs.fr
    have h2:=cD hq hs.fr
    refine .inl ⟨.func (.func f) (first.map a.eval) (cap.map a.eval),w,?_,.quiet hs hW ?_⟩
    ·unfold execOp;simp only[ho];rfl
    ·have:=Rep.fn (c:=c) f (p.map s.ev) (q.map s.ev) (first.toList.map a.eval) (cap.toList.map a.eval) h1.len h2.len h1.rep h2.rep
     have e1:(first.toList.map a.eval).toArray=first.map a.eval:=by apply A6F.1;simp
     have e2:(cap.toList.map a.eval).toArray=cap.map a.eval:=by apply A6F.1;simp
     rwa [e1,e2] at this
   ·cases h'
  | _=>simp[cOp] at h'
 | slice t x lo hi mx=>exact u7 ho h hs hW
 | makeSlice t x y=>exact wQ ho h hs hW
 | fieldAddr t x k=>exact S7 ho h hs hW
 | field t x k=>exact vZ ho h hs hW
 | indexAddr t x i=>exact vD ho h hs hW
 | index t x i=>exact uY ho h hs hW
 | extract x k =>
  have h':=h
  rw[ho] at h'
  simp only[cOp] at h'
  split at h'
  ·rename_i r hr
   injection h' with h';subst h'
   obtain⟨d,hd,hW⟩:=BO hW
   have he:execOp a.eval o=(do pure (.value (← Instr.extract (a.eval x) k))):=by unfold execOp;simp only[ho]
   exact AW hs he hW (rL (Aa hr hs.fr) hd)
  ·cases h'
 | makeMap t r=>exact tK ho h hs hW
 | lookup t x y ok=>exact sW ho h hs hW
 | mapUpdate t x y z=>exact xC ho h hs hW
 | mapEntry t x y=>exact wD ho h hs hW
 | entryStore t x y z=>exact Wc ho h hs hW
 | call cl =>
  obtain⟨callee,args,ats⟩:=cl
  cases callee with
  | builtin b=>exact oJ ho h hs hW
  | invoke r m=>rw[ho] at h;simp[cOp] at h
  | value f =>
   rw[ho] at h
   simp only[cOp] at h
   split at h
   ·rename_i r rs hr hrs
    injection h with h
    obtain⟨dst,op,ty,pos,after,guard⟩:=o
    simp only at ho
    subst ho
    have pc:∀oo',oo'=O.pcall r rs->WO X oo' s K->aD P ⟨dst,.call { callee:=.value f,args,argTypes:=ats },ty,pos,after,guard⟩ a c w s K:=by
     intro oo' e hW
     subst e
     change bW X (rs.map s.ev) K s (s.ev r) at hW
     unfold bW at hW
     split at hW
     ·rename_i g first cap hev
      obtain⟨d,hp,hk⟩:=hW
      exact j4 hX hG hs hr hrs hev (Q:=fun d' H T=>d'=d/\H=s.H/\T=s.T) (hp s.H s.T _ (fun _ _ h _=>h) ⟨rfl,rfl,rfl⟩)
       (fun d' H T hh=>by obtain⟨rfl,rfl,rfl⟩:=hh;exact hk)
     ·exact hW.elim
    have cc:∀oo',oo'=O.call r rs->WO X oo' s K->aD P ⟨dst,.call { callee:=.value f,args,argTypes:=ats },ty,pos,after,guard⟩ a c w s K:=by
     intro oo' e hW
     subst e
     change HP X (rs.map s.ev) K s (s.ev r) at hW
     unfold HP at hW
     split at hW
     ·rename_i g' first cap hev
      exact j4 hX hG hs hr hrs hev hW (fun d H T h=>h)
     ·exact hW.elim
    cases f with
    | func g =>
     simp only at h
     split at h
     ·exact cc oo h.symm hW
     ·exact pc oo h.symm hW
    | _ =>
     simp only at h
     split at h
     ·exact cc oo h.symm hW
     ·exact pc oo h.symm hW
   ·cases h
 | _=>rw[ho] at h;simp[cOp] at h
def VJ(n:Nat):Option Nat->Bool
 | some d=>decide (d<n)
 | none=>true
def cI(P:Program)(imp:Hn)(dr:Bool)(j:Pl)(ops:Array Oper)(n:Nat)(o:Oper):Option I :=
 match cOp P imp dr j o.op with
 | none=>none
 | some oo =>
  if VJ n o.dst then
   match o.guard with
   | none=>some ⟨o.dst,none,oo⟩
   | some (g,want)=>match (ops[g]?).bind (·.dst) with
    | some d=>some ⟨o.dst,some (d,want),oo⟩
    | none=>none
  else none
theorem Res.next{v:Value}{w':World}{K:S->Prop}{d:Option Nat}(hs:Sim c s a w)(hd:∀i,d=some i->i<a.tmps.size)(h:Res c w s (fun v s'=>K (s'.put d v)) v w'):
  ∃s' c',K s'/\Sim c' s' (a.put d v) w'/\c.le c'/\Below c.bb w w':=by
 obtain⟨e,s',c',hk,ht,hr,hi,hle,hT,hb⟩:=h
 refine⟨s'.put d e,c',hk,?_,hle,hb⟩
 have hfr:FR c' s'.t a:=by rw[ht];exact hs.fr.mono hle
 cases d with
 | none=>exact⟨hT,hi,hfr⟩
 | some i=>exact⟨hT,hi,hfr.put hr (hd i rfl)⟩
def Nx(n:Nat)(c0:Cx)(w0:World)(K:S->Prop)(a':Act)(w':World):Prop:=∃s' c',K s'/\Sim c' s' a' w'/\c0.le c'/\Below c0.bb w0 w'/\a'.tmps.size=n/\a'.defers=[]
theorem gY(a:Act)(d:Option Nat)(v:Value):(a.put d v).tmps.size=a.tmps.size/\(a.put d v).defers=a.defers:=by
 cases d<;>simp[Act.put]
theorem fZ[HasG P](hX:∀f args H T Q,X f args H T Q->Snd P f args H T Q){ops:Array Oper}{n i:Nat}{o:Oper}{ii:I}(ho:ops[i]? =some o)(h:cI P imp dr j ops n o=some ii){c0:Cx}{w0:World}
  (hG:HasG.G P c0 w0) (hs:Sim c s a w) (hle:c0.le c) (hb:Below c0.bb w0 w) (hn:a.tmps.size=n) (hd:a.defers=[]) {K:S->Prop} (hW:WI X ii s K) {Q:Exit->Act->World->Prop} {K':Act->World->Prop} (hK:∀a' w',Nx n c0 w0 K a' w'->K' a' w') :
  wpOp P ops Q i K' a w:=by
 unfold cI at h
 split at h
 ·cases h
 ·rename_i oo hoo
  split at h
  ·rename_i hdst
   have hdst':∀k,o.dst=some k->k<a.tmps.size:=by
    intro k hk
    rw[hk] at hdst
    rw[hn];simpa[VJ] using hdst
   have run:WO X oo s (fun v s'=>K (s'.put o.dst v))->o.wp P a w K' Q:=by
    intro hW
    have goes:=vQ hX hoo (HasG.mono hle hb hG) hs hW
    have fin:∀v w',Res c w s (fun v s'=>K (s'.put o.dst v)) v w'->K' (a.put o.dst v) w':=by
     intro v w' hr
     obtain⟨s',c',k1,k2,k3,k4⟩:=hr.next hs hdst'
     obtain⟨p1,p2⟩:=gY a o.dst v
     exact hK _ _ ⟨s',c',k1,k2,hle.trans k3,hb.trans (by rw[<- hle.B];exact k4),by rw[p1,hn],by rw[p2,hd]⟩
    rcases goes with⟨v,w',e,hr⟩|⟨w',e,hr⟩|⟨f,args,e,hr⟩
    ·unfold Oper.wp;rw[e];exact fin v w' hr
    ·unfold Oper.wp;rw[e];exact fin _ w' hr
    ·unfold Oper.wp;rw[e]
     refine Calls.mono hr ?_
     rintro e' w' ⟨v,rfl,hr⟩
     exact fin v w' hr
   unfold wpOp
   simp only[ho]
   split at h
   ·rename_i hg
    injection h with h;subst h
    have hwant:Region.wanted o (yielded ops a.tmps)=true:=by simp[Region.wanted,hg]
    rw[if_pos hwant]
    exact .inl (run hW)
   ·rename_i g want hg
    split at h
    ·rename_i d hdg
     injection h with h;subst h
     change WIk X o.dst oo s K (gd s (some (d,want))) at hW
     unfold gd at hW
     simp only at hW
     have hrg:=hs.fr d
     split at hW
     ·rename_i b hb'
      rw[hb'] at hrg
      have hy:yielded ops a.tmps g=some b:=by
       unfold yielded
       simp only[hdg]
       generalize hv:a.tmps.getD d undef=v at hrg
       cases hrg
       simp only[A6W] at hv
       cases ht:a.tmps[d]? with
       | none=>rw[ht] at hv;simp[undef] at hv
       | some x=>rw[ht] at hv;simp at hv;subst hv;simp[ht]
      by_cases hbw:b=want
      ·subst hbw
       have hwant:Region.wanted o (yielded ops a.tmps)=true:=by simp[Region.wanted,hg,hy]
       rw[if_pos hwant]
       simp only[beq_self_eq_true] at hW
       exact .inl (run hW)
      ·have hwant: ¬Region.wanted o (yielded ops a.tmps)=true:=by simp[Region.wanted,hg,hy,hbw]
       rw[if_neg hwant]
       have:(b==want)=false:=by simpa using hbw
       rw[this] at hW
       obtain⟨p1,p2⟩:=gY a o.dst undef
       refine hK _ _ ⟨s.put o.dst (.tup []),c,hW,?_,hle,hb,by rw[p1,hn],by rw[p2,hd]⟩
       cases hdd:o.dst with
       | none=>exact hs
       | some k=>exact⟨hs.T,hs.inv,hs.fr.put (Rep.tup [] [] rfl (fun i h=>absurd h (by simp))) (hdst' k hdd)⟩
     ·rename_i hb'
      rw[hb'] at hrg
      have hy:yielded ops a.tmps g=none:=by
       unfold yielded
       simp only[hdg]
       generalize hv:a.tmps.getD d undef=v at hrg
       cases hrg with
       | tup cs vs hl hr =>
        have:vs=[]:=by simpa using hl
        subst this
        simp only[A6W] at hv
        cases ht:a.tmps[d]? with
        | none=>simp[ht]
        | some x=>rw[ht] at hv;simp at hv;subst hv;simp[ht]
      have hwant: ¬Region.wanted o (yielded ops a.tmps)=true:=by simp[Region.wanted,hg,hy]
      rw[if_neg hwant]
      obtain⟨p1,p2⟩:=gY a o.dst undef
      refine hK _ _ ⟨s.put o.dst (.tup []),c,hW,?_,hle,hb,by rw[p1,hn],by rw[p2,hd]⟩
      cases hdd:o.dst with
      | none=>exact hs
      | some k=>exact⟨hs.T,hs.inv,hs.fr.put (Rep.tup [] [] rfl (fun i h=>absurd h (by simp))) (hdst' k hdd)⟩
     ·exact hW.elim
    ·cases h
  ·cases h
end GP
namespace GP
open Go
def O.rds:O->List Rd
 | .mv x=>[x]
 | .mvs x=>[x]
 | .pick c a b=>[c]++[a]++[b]
 | .alloc _=>[]
 | .allocAt _ _=>[]
 | .box x=>[x]
 | .boxAt _ x=>[x]
 | .build _ ps=>(ps.map fun p=>p.2.2)
 | .bsl _ xs=>xs
 | .bslq _ xs=>xs
 | .load _ _ x=>[x]
 | .store _ x y=>[x]++[y]
 | .nilc x=>[x]
 | .bin _ x y=>[x]++[y]
 | .eqa _ _ x y=>[x]++[y]
 | .eq1 _ _ x y=>[x]++[y]
 | .un _ x=>[x]
 | .conv _ x=>[x]
 | .s2b x=>[x]
 | .s2bq x=>[x]
 | .b2s x=>[x]
 | .b2m x=>[x]
 | .mkfn _ xs ys=>xs++ys
 | .sls _ x lo hi=>[x]++lo.toList++hi.toList
 | .subs x lo hi=>[x]++lo.toList++hi.toList
 | .faddr _ x=>[x]
 | .field _ _ _ x=>[x]
 | .iaddr _ x y=>[x]++[y]
 | .iarr _ _ x y=>[x]++[y]
 | .idxs x y=>[x]++[y]
 | .idxa _ _ _ x y=>[x]++[y]
 | .ext _ x=>[x]
 | .call f xs=>[f]++xs
 | .pcall f xs=>[f]++xs
 | .len x=>[x]
 | .capz x=>[x]
 | .lens x=>[x]
 | .app _ _ _ x y=>[x]++[y]
 | .rawAt _ _=>[]
 | .fillAt _ _ x y=>[x]++[y]
 | .sls3 _ x lo hi mb=>[x]++lo.toList++hi.toList++mb.toList
 | .appm _ _ _ _ x y=>[x]++[y]
 | .bslm _ _ xs=>xs
 | .copy _ x y=>[x]++[y]
 | .clr _ x=>[x]
 | .mkm _ _ _ _ x y=>[x]++[y]
 | .appz _ _ _ _ x y=>[x]++[y]
 | .mn x y=>[x]++[y]
 | .mx x y=>[x]++[y]
 | .mkmap =>[]
 | .mlen x=>[x]
 | .mget _ _ _ x y=>[x]++[y]
 | .mput _ x y z=>[x]++[y]++[z]
 | .ment _ _ x y=>[x]++[y]
 | .mst x y z=>[x]++[y]++[z]
theorem aA{K K':D->S->Prop}{s s':S}(h:∀u,K u s->K' u s'){o:Option D}(k:K1 K s o):K1 K' s' o:=by
 cases o with
 | none=>exact k
 | some d=>exact h d k
theorem dV{s s':S}{xs:List Rd}(h:∀r∈xs,s'.ev r=s.ev r):xs.map s'.ev=xs.map s.ev:=A7k h
theorem cJ{s s':S}{d:Nat}{o:Option Rd}(h:∀r∈o.toList,s'.ev r=s.ev r):BX s' d o=BX s d o:=by
 cases o with
 | none=>rfl
 | some r=>simp only[BX,h r (by simp)]
theorem Ov{K K':D->S->Prop}{s s':S}(hH:s'.H=s.H)(hT:s'.T=s.T)(h:∀u H T,K u ⟨s.t,H,T⟩->K' u ⟨s'.t,H,T⟩){i:Nat}{z:List D}{o:Option Ob}(k:atK K s i z o):atK K' s' i z o:=by
 unfold atK at *
 split<;>simp_all
theorem vP{K K':D->S->Prop}{s s':S}(hH:s'.H=s.H)(hT:s'.T=s.T)(h:∀u H T,K u ⟨s.t,H,T⟩->K' u ⟨s'.t,H,T⟩){i:Nat}{z:List D}{o:Option Ob}(k:JS K s i z o):JS K' s' i z o:=by
 unfold JS at *
 split<;>simp_all
theorem rU{K K':D->S->Prop}{s s':S}(hH:s'.H=s.H)(hT:s'.T=s.T)(h:∀u H T,K u ⟨s.t,H,T⟩->K' u ⟨s'.t,H,T⟩){i n:Nat}{a v:D}{o:Option Ob}(k:Gp K s i n a v o):Gp K' s' i n a v o:=by
 unfold Gp at *
 split<;>simp_all
theorem rP{K K':D->S->Prop}{s s':S}(hH:s'.H=s.H)(hT:s'.T=s.T)(h:∀u H T,K u ⟨s.t,H,T⟩->K' u ⟨s'.t,H,T⟩){ag:Bool}{sz bytes:Nat}{x:D}{ys:Option (List D)}(k:JB ag sz bytes K s x ys):JB ag sz bytes K' s' x ys:=by
 obtain⟨t,H,T⟩:=s
 obtain⟨t',H',T'⟩:=s'
 simp only at hH hT h
 subst hH;subst hT
 cases ys with
 | none=>exact k
 | some ys =>
  refine⟨k.1,?_⟩
  have k2:=k.2
  cases x with
  | nils =>
   simp only at k2 ⊢
   split
   ·rename_i h0;rw[if_pos h0] at k2;exact h _ _ _ k2
   ·rename_i h0;rw[if_neg h0] at k2;exact⟨k2.1,k2.2.1,h _ _ _ k2.2.2⟩
  | e0 =>
   simp only at k2 ⊢
   split
   ·rename_i h0;rw[if_pos h0] at k2;exact h _ _ _ k2
   ·rename_i h0;rw[if_neg h0] at k2;exact⟨k2.1,k2.2.1,h _ _ _ k2.2.2⟩
  | ms g z o off n cap =>
   simp only at k2 ⊢
   split
   ·rename_i cs hc
    rw[hc] at k2
    simp only at k2
    refine⟨k2.1,?_⟩
    have k3:=k2.2
    split
    ·rename_i h0;rw[if_pos h0] at k3;exact⟨k3.1,h _ _ _ k3.2⟩
    ·rename_i h0;rw[if_neg h0] at k3;exact⟨k3.1,k3.2.1,k3.2.2.1,k3.2.2.2.1,h _ _ _ k3.2.2.2.2⟩
   ·rename_i hn
    split at k2
    ·rename_i cs hc;exact(hn cs hc).elim
    ·exact k2
  | _=>exact k2
theorem sH{K K':D->S->Prop}{s s':S}(hH:s'.H=s.H)(hT:s'.T=s.T)(h:∀u H T,K u ⟨s.t,H,T⟩->K' u ⟨s'.t,H,T⟩){sz:Nat}{x:D}{ys:Option (List D)}(k:Ll sz K s x ys):Ll sz K' s' x ys:=by
 obtain⟨t,H,T⟩:=s
 obtain⟨t',H',T'⟩:=s'
 simp only at hH hT h
 subst hH;subst hT
 cases ys with
 | none=>exact k
 | some ys =>
  refine⟨k.1,?_⟩
  have k2:=k.2
  cases x with
  | nils=>exact h _ _ _ k2
  | e0=>exact h _ _ _ k2
  | sl t xs =>
   cases xs with
   | nil=>exact h _ _ _ k2
   | cons=>exact k2
  | ms g z o off n cap =>
   simp only at k2 ⊢
   split
   ·rename_i cs hc
    rw[hc] at k2
    exact⟨k2.1,k2.2.1,h _ _ _ k2.2.2⟩
   ·rename_i hn
    split at k2
    ·rename_i cs hc;exact(hn cs hc).elim
    ·exact k2
  | _=>exact k2
theorem tH{K K':D->S->Prop}{s s':S}(hH:s'.H=s.H)(hT:s'.T=s.T)(h:∀u H T,K u ⟨s.t,H,T⟩->K' u ⟨s'.t,H,T⟩){z:List D}{x:D}(k:LI z K s x):LI z K' s' x:=by
 obtain⟨t,H,T⟩:=s
 obtain⟨t',H',T'⟩:=s'
 simp only at hH hT h
 subst hH;subst hT
 cases x with
 | nils=>exact h _ _ _ k
 | e0=>exact h _ _ _ k
 | sl t xs =>
  cases xs with
  | nil=>exact h _ _ _ k
  | cons=>exact k
 | ms g sz o off n cap =>
  simp only[LI] at k ⊢
  split
  ·rename_i cs hc
   rw[hc] at k
   exact⟨k.1,k.2.1,h _ _ _ k.2.2⟩
  ·rename_i hn
   split at k
   ·rename_i cs hc;exact(hn cs hc).elim
   ·exact k
 | _=>exact k
theorem sN{K K':D->S->Prop}{s s':S}(hH:s'.H=s.H)(hT:s'.T=s.T)(h:∀u H T,K u ⟨s.t,H,T⟩->K' u ⟨s'.t,H,T⟩){ag:Bool}{sz bytes:Nat}{z:List D}{x y:D}(k:KJ ag sz bytes z K s x y):KJ ag sz bytes z K' s' x y:=by
 unfold KJ at *
 rw[hH,hT]
 refine⟨k.1,?_⟩
 have k:=k.2
 split
 ·simp only at k
  exact⟨k.1,k.2.1,k.2.2.1,k.2.2.2.1,h _ _ _ k.2.2.2.2⟩
 ·rename_i hn
  split at k
  ·exact(hn _ _ rfl).elim
  ·exact k
theorem vF{K K':D->S->Prop}{s s':S}(hH:s'.H=s.H)(hT:s'.T=s.T)(h:∀u H T,K u ⟨s.t,H,T⟩->K' u ⟨s'.t,H,T⟩){ag:Bool}{sz bytes:Nat}{z:List D}{x y:D}(k:OG ag sz bytes z K s x y):OG ag sz bytes z K' s' x y:=by
 unfold OG at *
 rw[hH,hT]
 split
 ·simp only at k
  exact⟨k.1,k.2.1,k.2.2.1,k.2.2.2.1,k.2.2.2.2.1,h _ _ _ k.2.2.2.2.2⟩
 ·rename_i hn
  split at k
  ·exact(hn _ _ _ _ rfl rfl).elim
  ·exact k
theorem sI{K K':D->S->Prop}{s s':S}(hH:s'.H=s.H)(hT:s'.T=s.T)(h:∀u H T,K u ⟨s.t,H,T⟩->K' u ⟨s'.t,H,T⟩){ks:Bool×List Ck}{m kk v:D}(k:Pj ks K s m kk v):Pj ks K' s' m kk v:=by
 obtain⟨t,H,T⟩:=s
 obtain⟨t',H',T'⟩:=s'
 simp only at hH hT h
 subst hH;subst hT
 refine⟨k.1,k.2.1,?_⟩
 have k2:=k.2.2
 cases m with
 | mp o =>
  simp only at k2 ⊢
  cases ho:H'[o]? with
  | none=>rw[ho] at k2;exact k2
  | some x =>
   rw[ho] at k2
   cases x with
   | map es clk =>
    simp only at k2 ⊢
    cases hf:fnd ks kk es 0 with
    | none=>rw[hf] at k2;exact k2
    | some r =>
     rw[hf] at k2
     cases r with
     | none=>exact h _ _ _ k2
     | some p=>exact h _ _ _ k2
   | _=>exact k2
 | _=>exact k2
theorem sX{K K':D->S->Prop}{s s':S}(hH:s'.H=s.H)(hT:s'.T=s.T)(h:∀u H T,K u ⟨s.t,H,T⟩->K' u ⟨s'.t,H,T⟩){ks:Bool×List Ck}{zv m kk:D}(k:LR ks zv K s m kk):LR ks zv K' s' m kk:=by
 obtain⟨t,H,T⟩:=s
 obtain⟨t',H',T'⟩:=s'
 simp only at hH hT h
 subst hH;subst hT
 refine⟨k.1,k.2.1,?_⟩
 have k2:=k.2.2
 cases m with
 | mp o =>
  simp only at k2 ⊢
  cases ho:H'[o]? with
  | none=>rw[ho] at k2;exact k2
  | some x =>
   rw[ho] at k2
   cases x with
   | map es clk =>
    simp only at k2 ⊢
    cases hf:fnd ks kk es 0 with
    | none=>rw[hf] at k2;exact k2
    | some r =>
     rw[hf] at k2
     cases r with
     | none=>exact h _ _ _ k2
     | some p=>exact h _ _ _ k2
   | _=>exact k2
 | _=>exact k2
theorem uV{K K':D->S->Prop}{s s':S}(hH:s'.H=s.H)(hT:s'.T=s.T)(h:∀u H T,K u ⟨s.t,H,T⟩->K' u ⟨s'.t,H,T⟩){m b v:D}(k:Qz K s m b v):Qz K' s' m b v:=by
 obtain⟨t,H,T⟩:=s
 obtain⟨t',H',T'⟩:=s'
 simp only at hH hT h
 subst hH;subst hT
 refine⟨k.1,?_⟩
 have k2:=k.2
 cases m with
 | mp o =>
  cases b with
  | int kd n =>
   simp only at k2 ⊢
   cases ho:H'[o]? with
   | none=>rw[ho] at k2;exact k2
   | some x =>
    rw[ho] at k2
    cases x with
    | map es clk =>
     simp only at k2 ⊢
     cases hf:es.findIdx? (fun e=>(e.2.2:Int)==n) with
     | none=>rw[hf] at k2;exact k2
     | some i =>
      rw[hf] at k2
      simp only at k2 ⊢
      cases hi:es[i]? with
      | none=>rw[hi] at k2;exact k2
      | some e=>rw[hi] at k2;exact h _ _ _ k2
    | _=>exact k2
  | _=>exact k2
 | _=>exact k2
theorem q9{K K':D->S->Prop}{s s':S}(hH:s'.H=s.H)(hT:s'.T=s.T)(h:∀u H T,K u ⟨s.t,H,T⟩->K' u ⟨s'.t,H,T⟩){n:Nat}{x y:D}(k:fF n K s x y):fF n K' s' x y:=by
 unfold fF at *
 rw[hH,hT]
 split
 ·rename_i o off
  simp only at k
  split
  ·rename_i cs hc
   rw[hc] at k
   exact⟨k.1,k.2.1,k.2.2.1,h _ _ _ k.2.2.2⟩
  ·rename_i hn
   split at k
   ·rename_i cs hc;exact(hn cs hc).elim
   ·exact k
 ·rename_i hn
  split at k
  ·rename_i o off;exact(hn o off rfl).elim
  ·exact k
theorem u5{K K':D->S->Prop}{s s':S}(hH:s'.H=s.H)(hT:s'.T=s.T)(h:∀u H T,K u ⟨s.t,H,T⟩->K' u ⟨s'.t,H,T⟩){x:D}(k:L8 K s x):L8 K' s' x:=by
 cases x<;>simp only[L8] at* <;>first|exact k|(rw[hH,hT];exact h _ _ _ k)
theorem vG{K K':D->S->Prop}{s s':S}(hH:s'.H=s.H)(hT:s'.T=s.T)(h:∀u H T,K u ⟨s.t,H,T⟩->K' u ⟨s'.t,H,T⟩){sz bytes:Nat}{x:D}{ys:Option (List D)}(k:Eb sz bytes K s x ys):Eb sz bytes K' s' x ys:=by
 obtain⟨t,H,T⟩:=s
 obtain⟨t',H',T'⟩:=s'
 simp only at hH hT h
 subst hH;subst hT
 cases ys with
 | none=>exact k
 | some ys =>
  refine⟨k.1,?_⟩
  have k2:=k.2
  cases x with
  | nils =>
   simp only at k2 ⊢
   split
   ·rename_i h0;rw[if_pos h0] at k2;exact h _ _ _ k2
   ·rename_i h0;rw[if_neg h0] at k2;exact⟨k2.1,k2.2.1,h _ _ _ k2.2.2⟩
  | e0 =>
   simp only at k2 ⊢
   split
   ·rename_i h0;rw[if_pos h0] at k2;exact h _ _ _ k2
   ·rename_i h0;rw[if_neg h0] at k2;exact⟨k2.1,k2.2.1,h _ _ _ k2.2.2⟩
  | sl t xs =>
   cases t with
   | none=>exact k2
   | some t=>exact⟨k2.1,k2.2.1,k2.2.2.1,k2.2.2.2.1,h _ _ _ k2.2.2.2.2⟩
  | _=>exact k2
theorem o9{X X':BF}(hX:∀f args H T Q,X f args H T Q->X' f args H T Q){K K':D->S->Prop}{s s':S}(hH:s'.H=s.H)(h:∀u,K u s->K' u s'){args:List D}{x:D}(k:bW X args K s x):bW X' args K' s' x:=by
 cases x<;>simp only[bW] at* <;>first|exact k|skip
 obtain⟨r,h1,h2⟩:=k
 exact⟨r,fun H' T' Q a b=>hX _ _ _ _ _ (h1 H' T' Q (by rw[<- hH];exact a) b),h _ h2⟩
theorem sP{X X':BF}(hX:∀f args H T Q Q',(∀r H T,Q r H T->Q' r H T)->X f args H T Q->X' f args H T Q'){K K':D->S->Prop}{s s':S}(hH:s'.H=s.H)(hT:s'.T=s.T)(h:∀u H T,K u ⟨s.t,H,T⟩->K' u ⟨s'.t,H,T⟩)
  {args:List D} {x:D} (k:HP X args K s x):HP X' args K' s' x:=by
 cases x<;>simp only[HP] at* <;>first|exact k|skip
 rw[hH,hT]
 exact hX _ _ _ _ _ _ (fun r H T hh=>h r H T hh) k
theorem iB{X X':BF}(hX:∀f args H T Q Q',(∀r H T,Q r H T->Q' r H T)->X f args H T Q->X' f args H T Q'){o:O}{s s':S}(hH:s'.H=s.H)(hT:s'.T=s.T)(hev:∀r∈o.rds,s'.ev r=s.ev r)
  {K K':D->S->Prop} (h:∀u H T,K u ⟨s.t,H,T⟩->K' u ⟨s'.t,H,T⟩) (k:WO X o s K):WO X' o s' K':=by
 have hX1:∀f args H T Q,X f args H T Q->X' f args H T Q:=fun f args H T Q=>hX f args H T Q Q (fun _ _ _ h=>h)
 have h0:∀u,K u s->K' u s':=fun u hu=>by
  have:=h u s.H s.T hu
  rwa [<- hH,← hT] at this
 cases o with
 | mv x =>
  have e0:=hev x (by simp[O.rds])
  have eq:qv s' (.mv x)=qv s (.mv x):=by simp only[qv,e0]
  show K1 K' s' (qv s' (.mv x))
  rw[eq]
  exact aA h0 k
 | mvs x =>
  have e0:=hev x (by simp[O.rds])
  have eq:qv s' (.mvs x)=qv s (.mvs x):=by simp only[qv,e0]
  show K1 K' s' (qv s' (.mvs x))
  rw[eq]
  exact aA h0 k
 | pick c a b =>
  have e0:=hev c (by simp[O.rds])
  have e1:=hev a (by simp[O.rds])
  have e2:=hev b (by simp[O.rds])
  have eq:qv s' (.pick c a b)=qv s (.pick c a b):=by simp only[qv,e0,e1,e2]
  show K1 K' s' (qv s' (.pick c a b))
  rw[eq]
  exact aA h0 k
 | alloc z =>
  show K' _ ⟨s'.t,_,_⟩
  rw[hH,hT];exact h _ _ _ k
 | allocAt j z =>
  show atK K' s' _ _ _
  rw[hH];exact Ov hH hT h k
 | box x =>
  have e0:=hev x (by simp[O.rds])
  show _/\K' _ ⟨s'.t,_,_⟩
  rw[hH,hT,e0];exact⟨k.1,h _ _ _ k.2⟩
 | boxAt j x =>
  have e0:=hev x (by simp[O.rds])
  show _/\atK K' s' _ _ _
  rw[hH,e0];exact⟨k.1,Ov hH hT h k.2⟩
 | build z ps =>
  have e0:(ps.map fun p=>(p.1,p.2.1,s'.ev p.2.2))=(ps.map fun p=>(p.1,p.2.1,s.ev p.2.2)):=A7k fun p hp=>by rw[hev p.2.2 (by simp only[O.rds,A6N];exact⟨p,hp,rfl⟩)]
  have eq:qv s' (.build z ps)=qv s (.build z ps):=by simp only[qv,e0]
  show K1 K' s' (qv s' (.build z ps))
  rw[eq]
  exact aA h0 k
 | bsl sz xs =>
  have e0:=dV (s:=s) (s':=s') (xs:=xs) (fun r hr=>hev r (by simp[O.rds,hr]))
  show _/\K' _ ⟨s'.t,_,_⟩
  rw[hH,hT,e0];exact⟨k.1,h _ _ _ k.2⟩
 | bslq sz xs =>
  have e0:=dV (s:=s) (s':=s') (xs:=xs) (fun r hr=>hev r (by simp[O.rds,hr]))
  have eq:qv s' (.bslq sz xs)=qv s (.bslq sz xs):=by simp only[qv,e0]
  show K1 K' s' (qv s' (.bslq sz xs))
  rw[eq]
  exact aA h0 k
 | load ag n x =>
  have e0:=hev x (by simp[O.rds])
  have eq:qv s' (.load ag n x)=qv s (.load ag n x):=by simp only[qv,e0,hH]
  show K1 K' s' (qv s' (.load ag n x))
  rw[eq]
  exact aA h0 k
 | store n x y =>
  have e0:=hev x (by simp[O.rds])
  have e1:=hev y (by simp[O.rds])
  show fF _ K' s' _ _
  rw[e0,e1];exact q9 hH hT h k
 | nilc x =>
  have e0:=hev x (by simp[O.rds])
  have eq:qv s' (.nilc x)=qv s (.nilc x):=by simp only[qv,e0]
  show K1 K' s' (qv s' (.nilc x))
  rw[eq]
  exact aA h0 k
 | bin op x y =>
  have e0:=hev x (by simp[O.rds])
  have e1:=hev y (by simp[O.rds])
  have eq:qv s' (.bin op x y)=qv s (.bin op x y):=by simp only[qv,e0,e1]
  show K1 K' s' (qv s' (.bin op x y))
  rw[eq]
  exact aA h0 k
 | eqa ks neg x y =>
  have e0:=hev x (by simp[O.rds])
  have e1:=hev y (by simp[O.rds])
  have eq:qv s' (.eqa ks neg x y)=qv s (.eqa ks neg x y):=by simp only[qv,e0,e1]
  show K1 K' s' (qv s' (.eqa ks neg x y))
  rw[eq]
  exact aA h0 k
 | eq1 q neg x y =>
  have e0:=hev x (by simp[O.rds])
  have e1:=hev y (by simp[O.rds])
  have eq:qv s' (.eq1 q neg x y)=qv s (.eq1 q neg x y):=by simp only[qv,e0,e1]
  show K1 K' s' (qv s' (.eq1 q neg x y))
  rw[eq]
  exact aA h0 k
 | un op x =>
  have e0:=hev x (by simp[O.rds])
  have eq:qv s' (.un op x)=qv s (.un op x):=by simp only[qv,e0]
  show K1 K' s' (qv s' (.un op x))
  rw[eq]
  exact aA h0 k
 | conv kd x =>
  have e0:=hev x (by simp[O.rds])
  have eq:qv s' (.conv kd x)=qv s (.conv kd x):=by simp only[qv,e0]
  show K1 K' s' (qv s' (.conv kd x))
  rw[eq]
  exact aA h0 k
 | s2b x =>
  have e0:=hev x (by simp[O.rds])
  show L8 K' s' _
  rw[e0];exact u5 hH hT h k
 | s2bq x =>
  have e0:=hev x (by simp[O.rds])
  have eq:qv s' (.s2bq x)=qv s (.s2bq x):=by simp only[qv,e0]
  show K1 K' s' (qv s' (.s2bq x))
  rw[eq]
  exact aA h0 k
 | b2s x =>
  have e0:=hev x (by simp[O.rds])
  have eq:qv s' (.b2s x)=qv s (.b2s x):=by simp only[qv,e0]
  show K1 K' s' (qv s' (.b2s x))
  rw[eq]
  exact aA h0 k
 | b2m x =>
  have e0:=hev x (by simp[O.rds])
  show K1 K' s' (UE s'.H _)
  rw[e0,hH];exact aA h0 k
 | mkfn f xs ys =>
  have e0:=dV (s:=s) (s':=s') (xs:=xs) (fun r hr=>hev r (by simp[O.rds,hr]))
  have e1:=dV (s:=s) (s':=s') (xs:=ys) (fun r hr=>hev r (by simp[O.rds,hr]))
  have eq:qv s' (.mkfn f xs ys)=qv s (.mkfn f xs ys):=by simp only[qv,e0,e1]
  show K1 K' s' (qv s' (.mkfn f xs ys))
  rw[eq]
  exact aA h0 k
 | sls sz x lo hi =>
  have e0:=hev x (by simp[O.rds])
  have e1:∀d,BX s' d lo=BX s d lo:=fun d=>cJ (fun r hr=>hev r (by simp only[O.rds,A6L];simp[hr]))
  have e2:∀d,BX s' d hi=BX s d hi:=fun d=>cJ (fun r hr=>hev r (by simp only[O.rds,A6L];simp[hr]))
  have eq:qv s' (.sls sz x lo hi)=qv s (.sls sz x lo hi):=by simp only[qv,e0,e1,e2]
  show K1 K' s' (qv s' (.sls sz x lo hi))
  rw[eq]
  exact aA h0 k
 | subs x lo hi =>
  have e0:=hev x (by simp[O.rds])
  have e1:∀d,BX s' d lo=BX s d lo:=fun d=>cJ (fun r hr=>hev r (by simp only[O.rds,A6L];simp[hr]))
  have e2:∀d,BX s' d hi=BX s d hi:=fun d=>cJ (fun r hr=>hev r (by simp only[O.rds,A6L];simp[hr]))
  have eq:qv s' (.subs x lo hi)=qv s (.subs x lo hi):=by simp only[qv,e0,e1,e2]
  show K1 K' s' (qv s' (.subs x lo hi))
  rw[eq]
  exact aA h0 k
 | faddr off x =>
  have e0:=hev x (by simp[O.rds])
  have eq:qv s' (.faddr off x)=qv s (.faddr off x):=by simp only[qv,e0]
  show K1 K' s' (qv s' (.faddr off x))
  rw[eq]
  exact aA h0 k
 | field ag off n x =>
  have e0:=hev x (by simp[O.rds])
  have eq:qv s' (.field ag off n x)=qv s (.field ag off n x):=by simp only[qv,e0]
  show K1 K' s' (qv s' (.field ag off n x))
  rw[eq]
  exact aA h0 k
 | iaddr sz x y =>
  have e0:=hev x (by simp[O.rds])
  have e1:=hev y (by simp[O.rds])
  have eq:qv s' (.iaddr sz x y)=qv s (.iaddr sz x y):=by simp only[qv,e0,e1]
  show K1 K' s' (qv s' (.iaddr sz x y))
  rw[eq]
  exact aA h0 k
 | iarr sz len x y =>
  have e0:=hev x (by simp[O.rds])
  have e1:=hev y (by simp[O.rds])
  have eq:qv s' (.iarr sz len x y)=qv s (.iarr sz len x y):=by simp only[qv,e0,e1]
  show K1 K' s' (qv s' (.iarr sz len x y))
  rw[eq]
  exact aA h0 k
 | idxs x y =>
  have e0:=hev x (by simp[O.rds])
  have e1:=hev y (by simp[O.rds])
  have eq:qv s' (.idxs x y)=qv s (.idxs x y):=by simp only[qv,e0,e1]
  show K1 K' s' (qv s' (.idxs x y))
  rw[eq]
  exact aA h0 k
 | idxa ag sz len x y =>
  have e0:=hev x (by simp[O.rds])
  have e1:=hev y (by simp[O.rds])
  have eq:qv s' (.idxa ag sz len x y)=qv s (.idxa ag sz len x y):=by simp only[qv,e0,e1]
  show K1 K' s' (qv s' (.idxa ag sz len x y))
  rw[eq]
  exact aA h0 k
 | ext i x =>
  have e0:=hev x (by simp[O.rds])
  have eq:qv s' (.ext i x)=qv s (.ext i x):=by simp only[qv,e0]
  show K1 K' s' (qv s' (.ext i x))
  rw[eq]
  exact aA h0 k
 | call f xs =>
  have e0:=hev f (by simp[O.rds])
  have e1:=dV (s:=s) (s':=s') (xs:=xs) (fun r hr=>hev r (by simp[O.rds,hr]))
  show HP X' _ K' s' _
  rw[e0,e1];exact sP hX hH hT h k
 | pcall f xs =>
  have e0:=hev f (by simp[O.rds])
  have e1:=dV (s:=s) (s':=s') (xs:=xs) (fun r hr=>hev r (by simp[O.rds,hr]))
  show bW X' _ K' s' _
  rw[e0,e1];exact o9 hX1 hH h0 k
 | len x =>
  have e0:=hev x (by simp[O.rds])
  have eq:qv s' (.len x)=qv s (.len x):=by simp only[qv,e0]
  show K1 K' s' (qv s' (.len x))
  rw[eq]
  exact aA h0 k
 | capz x =>
  have e0:=hev x (by simp[O.rds])
  have eq:qv s' (.capz x)=qv s (.capz x):=by simp only[qv,e0]
  show K1 K' s' (qv s' (.capz x))
  rw[eq]
  exact aA h0 k
 | lens x =>
  have e0:=hev x (by simp[O.rds])
  have eq:qv s' (.lens x)=qv s (.lens x):=by simp only[qv,e0]
  show K1 K' s' (qv s' (.lens x))
  rw[eq]
  exact aA h0 k
 | app st sz bytes x y =>
  have e0:=hev x (by simp[O.rds])
  have e1:=hev y (by simp[O.rds])
  show Eb _ _ K' s' _ _
  rw[e0,e1];exact vG hH hT h k
 | rawAt j z =>
  show _/\JS K' s' _ _ _
  rw[hH];exact⟨k.1,vP hH hT h k.2⟩
 | fillAt j n x y =>
  have e0:=hev x (by simp[O.rds])
  have e1:=hev y (by simp[O.rds])
  show _/\Gp K' s' _ _ _ _ _
  rw[hH,e0,e1];exact⟨k.1,rU hH hT h k.2⟩
 | sls3 sz x lo hi mb =>
  have e0:=hev x (by simp[O.rds])
  have e1:∀d,BX s' d lo=BX s d lo:=fun d=>cJ (fun r hr=>hev r (by simp only[O.rds,A6L];simp[hr]))
  have e2:∀d,BX s' d hi=BX s d hi:=fun d=>cJ (fun r hr=>hev r (by simp only[O.rds,A6L];simp[hr]))
  have e3:∀d,BX s' d mb=BX s d mb:=fun d=>cJ (fun r hr=>hev r (by simp only[O.rds,A6L];simp[hr]))
  have eq:qv s' (.sls3 sz x lo hi mb)=qv s (.sls3 sz x lo hi mb):=by simp only[qv,e0,e1,e2,e3]
  show K1 K' s' (qv s' (.sls3 sz x lo hi mb))
  rw[eq]
  exact aA h0 k
 | appm ag st sz bytes x y =>
  have e0:=hev x (by simp[O.rds])
  have e1:=hev y (by simp[O.rds])
  show JB _ _ _ K' s' _ _
  rw[e0,e1,hH];exact rP hH hT h k
 | bslm ag sz xs =>
  have e0:=dV (s:=s) (s':=s') (xs:=xs) (fun r hr=>hev r (by simp[O.rds,hr]))
  show _/\K' _ ⟨s'.t,_,_⟩
  rw[hH,hT,e0];exact⟨k.1,h _ _ _ k.2⟩
 | copy sz x y =>
  have e0:=hev x (by simp[O.rds])
  have e1:=hev y (by simp[O.rds])
  show Ll _ K' s' _ _
  rw[e0,e1,hH];exact sH hH hT h k
 | clr z x =>
  have e0:=hev x (by simp[O.rds])
  show LI _ K' s' _
  rw[e0];exact tH hH hT h k
 | mkm ag sz bytes z x y =>
  have e0:=hev x (by simp[O.rds])
  have e1:=hev y (by simp[O.rds])
  show OG _ _ _ _ K' s' _ _
  rw[e0,e1];exact vF hH hT h k
 | appz ag sz bytes z x y =>
  have e0:=hev x (by simp[O.rds])
  have e1:=hev y (by simp[O.rds])
  show KJ _ _ _ _ K' s' _ _
  rw[e0,e1];exact sN hH hT h k
 | mn x y =>
  have e0:=hev x (by simp[O.rds])
  have e1:=hev y (by simp[O.rds])
  have eq:qv s' (.mn x y)=qv s (.mn x y):=by simp only[qv,e0,e1]
  show K1 K' s' (qv s' (.mn x y))
  rw[eq]
  exact aA h0 k
 | mx x y =>
  have e0:=hev x (by simp[O.rds])
  have e1:=hev y (by simp[O.rds])
  have eq:qv s' (.mx x y)=qv s (.mx x y):=by simp only[qv,e0,e1]
  show K1 K' s' (qv s' (.mx x y))
  rw[eq]
  exact aA h0 k
 | mkmap  =>
  show K' _ ⟨s'.t,_,_⟩
  rw[hH,hT];exact h _ _ _ k
 | mlen x =>
  have e0:=hev x (by simp[O.rds])
  have eq:qv s' (.mlen x)=qv s (.mlen x):=by simp only[qv,e0,hH]
  show K1 K' s' (qv s' (.mlen x))
  rw[eq]
  exact aA h0 k
 | mget ks zv ok x y =>
  have e0:=hev x (by simp[O.rds])
  have e1:=hev y (by simp[O.rds])
  have eq:qv s' (.mget ks zv ok x y)=qv s (.mget ks zv ok x y):=by simp only[qv,e0,e1,hH]
  show K1 K' s' (qv s' (.mget ks zv ok x y))
  rw[eq]
  exact aA h0 k
 | mput ks x y z =>
  have e0:=hev x (by simp[O.rds])
  have e1:=hev y (by simp[O.rds])
  have e2:=hev z (by simp[O.rds])
  show Pj _ K' s' _ _ _
  rw[e0,e1,e2];exact sI hH hT h k
 | ment ks zv x y =>
  have e0:=hev x (by simp[O.rds])
  have e1:=hev y (by simp[O.rds])
  show LR _ _ K' s' _ _
  rw[e0,e1];exact sX hH hT h k
 | mst x y z =>
  have e0:=hev x (by simp[O.rds])
  have e1:=hev y (by simp[O.rds])
  have e2:=hev z (by simp[O.rds])
  show Qz K' s' _ _ _
  rw[e0,e1,e2];exact uV hH hT h k
theorem rC{X X':BF}(hX:∀f args H T Q Q',(∀r H T,Q r H T->Q' r H T)->X f args H T Q->X' f args H T Q'){o:O}{s:S}{K K':D->S->Prop}(h:∀u H T,K u ⟨s.t,H,T⟩->K' u ⟨s.t,H,T⟩)(k:WO X o s K):WO X' o s K' :=
 iB hX rfl rfl (fun _ _=>rfl) h k
theorem dK{X X':BF}(hX:∀f args H T Q Q',(∀r H T,Q r H T->Q' r H T)->X f args H T Q->X' f args H T Q'){i:I}{s:S}{K K':S->Prop}(h:∀s',K s'->K' s')(k:WI X i s K):WI X' i s K':=by
 unfold WI WIk at *
 split<;>simp_all
 exact rC hX (fun u H T hk=>h _ hk) k
theorem qI{X X':BF}(hX:∀f args H T Q Q',(∀r H T,Q r H T->Q' r H T)->X f args H T Q->X' f args H T Q'):∀{is:List I} {s:S} {R R':S->Prop},(∀s',R s'->R' s')->Wr X is R s->Wr X' is R' s
 | [],_,_,_,h,k=>h _ k
 | _::_,_,_,_,h,k=>dK hX (fun _ k=>qI hX h k) k
theorem pM{X X':BF}(hX:∀f args H T Q Q',(∀r H T,Q r H T->Q' r H T)->X f args H T Q->X' f args H T Q'){i:I}{s:S}(k:I8 X i s):I8 X' i s:=by
 unfold I8 at *
 split<;>simp_all
 exact rC hX (fun u H T hk=>hk) k
theorem dO{X X':BF}(hX:∀f args H T Q Q',(∀r H T,Q r H T->Q' r H T)->X f args H T Q->X' f args H T Q'):∀{is:List I} {s:S},d8 X is s->d8 X' is s
 | [],_,_=>trivial
 | _::_,_,k=>⟨pM hX k.1,dO hX k.2⟩
theorem qQ{X X':BF}(hX:∀f args H T Q Q',(∀r H T,Q r H T->Q' r H T)->X f args H T Q->X' f args H T Q'):∀{is:List (I×List I)} {s:S} {R R':S->Prop},(∀s',R s'->R' s')->Wd X is R s->Wd X' is R' s
 | [],_,_,_,h,k=>h _ k
 | (_,_)::_,_,_,_,h,k=>dK hX (fun _ k=>⟨dO hX k.1,qQ hX h k.2⟩) k
theorem dX{X X':BF}(hX:∀f args H T Q Q',(∀r H T,Q r H T->Q' r H T)->X f args H T Q->X' f args H T Q'):∀{c:C} {s:S} {Q Q':Ex->S->Prop},(∀e s',Q e s'->Q' e s')->W X c Q s->W X' c Q' s
 | .skip,_,_,_,h,k=>h _ _ k
 | .reg _,_,_,_,h,k=>qI hX (fun s' hk=>h _ s' hk) k
 | .draw _ _,_,_,_,h,k=>qQ hX (fun s' hk=>h _ s' hk) k
 | .seq a b,s,Q,Q',h,k=>by
  simp only[W] at k ⊢
  refine dX hX (fun e s' hk=>?_) k
  cases e with
  | normal=>exact dX hX h hk
  | exit i=>exact h _ _ hk
  | ret=>exact h _ _ hk
 | .cond c a b,s,Q,Q',h,k=>by
  simp only[W] at k ⊢
  split
  ·rename_i t hev
   rw[hev] at k
   simp only at k
   cases t
   ·exact dX hX h k
   ·exact dX hX h k
  ·rename_i hn
   split at k
   ·rename_i t hev;exact(hn t hev).elim
   ·exact k
 | .block i c,s,Q,Q',h,k=>by
  simp only[W] at k ⊢
  refine dX hX (fun e s' hk=>?_) k
  cases e with
  | normal=>exact h _ _ hk
  | exit j =>
   simp only[Oa] at hk ⊢
   split
   ·rename_i e;rw[if_pos e] at hk;exact h _ _ hk
   ·rename_i e;rw[if_neg e] at hk;exact h _ _ hk
  | ret=>exact h _ _ hk
 | .loop c,s,Q,Q',h,k=>by
  simp only[W] at k ⊢
  obtain⟨Iv,μ,h0,h1⟩:=k
  refine⟨Iv,μ,h0,fun s' hs'=>dX hX (fun e s'' hk=>?_) (h1 s' hs')⟩
  cases e with
  | normal=>exact hk
  | exit j=>exact h _ _ hk
  | ret=>exact h _ _ hk
 | .exit _,_,_,_,h,k=>h _ _ k
 | .ret,_,_,_,h,k=>h _ _ k
 | .stop,_,_,_,_,k=>(show False by simpa only[W] using k).elim
variable {P:Program} {X:BF} {imp:Hn}
def GA(X:BF):Prop:=∀f args H T Q Q',(∀r H T,Q r H T->Q' r H T)->X f args H T Q->X f args H T Q'
theorem Snd.mono[HasG P]:GA (Snd P):=by
 intro f args H T Q Q' h k c w vs hg hi hT hr
 have hp:∀e w',iX c w Q e w'->iX c w Q' e w':=by
  rintro e w' ⟨v,h1,r,H',T',c',h2,h3⟩
  exact⟨v,h1,r,H',T',c',h _ _ _ h2,h3⟩
 rcases k c w vs hg hi hT hr with⟨h1,h2⟩|⟨v,w',h1,h2⟩
 ·exact .inl ⟨h1,h2.mono hp⟩
 ·exact .inr ⟨v,w',h1,hp _ _ h2⟩
def dM:O->Bool
 | .alloc _| .allocAt _ _| .box _| .boxAt _ _| .bsl _ _| .store _ _ _| .s2b _| .b2m _| .call _ _| .app _ _ _ _ _| .rawAt _ _| .fillAt _ _ _ _| .appm _ _ _ _ _ _| .bslm _ _ _| .copy _ _ _| .clr _ _| .mkm _ _ _ _ _ _| .appz _ _ _ _ _ _| .mkmap| .mput _ _ _ _| .ment _ _ _ _| .mst _ _ _=>false
 | _=>true
def yE:O->Bool
 | .load _ _ _| .pcall _ _| .mlen _| .mget _ _ _ _ _=>true
 | _=>false
def Y(X:BF)(i:I)(v:D)(s:S):Prop :=
 (gd s i.g=some true/\∀K:D->S->Prop,K v s->WO X i.o s K)∨(gd s i.g=some false/\v= .tup [])
theorem Y.wi{i:I}{v:D}{s:S}(h:Y X i v s){K:S->Prop}(hk:K (s.put i.d v)):WI X i s K:=by
 unfold WI WIk
 rcases h with⟨h1,h2⟩|⟨h1,rfl⟩
 ·rw[h1];exact h2 _ hk
 ·rw[h1];exact hk
theorem zS{o:O}(hq:dM o=true)(hp:∀f xs,o≠ .pcall f xs)(s:S)(K:D->S->Prop):WO X o s K=K1 K s (qv s o):=by
 cases o<;>first|rfl|(simp[dM] at hq;done)|exact absurd rfl (hp _ _)
theorem m6{o:O}(hq:dM o=true){s:S}{K:D->S->Prop}(h:WO X o s K):∃v,(∀K':D->S->Prop,K' v s->WO X o s K')/\K v s:=by
 cases o with
 | pcall f xs =>
  change bW X (xs.map s.ev) K s (s.ev f) at h
  have key:∀d,bW X (xs.map s.ev) K s d->∃v,(∀K':D->S->Prop,K' v s->bW X (xs.map s.ev) K' s d)/\K v s:=by
   intro d hd
   cases d<;>simp only[bW] at hd ⊢<;>first|exact hd.elim|skip
   obtain⟨r,h1,h2⟩:=hd
   exact⟨r,fun K' hk=>⟨r,h1,hk⟩,h2⟩
  exact key _ h
 | _ =>
  rw[zS hq (fun _ _ h=>by cases h)] at h
  obtain⟨v,h1,h2⟩:=BO h
  refine⟨v,fun K' hk=>?_,h2⟩
  rw[zS hq (fun _ _ h=>by cases h),h1];exact hk
theorem Y.of_quiet{i:I}(hq:dM i.o=true){s:S}{K:S->Prop}(h:WI X i s K):∃v,Y X i v s/\K (s.put i.d v):=by
 unfold WI WIk at h
 split at h
 ·rename_i hg
  obtain⟨v,h1,h2⟩:=m6 hq h
  exact⟨v,.inl ⟨hg,h1⟩,h2⟩
 ·rename_i hg;exact⟨.tup [],.inr ⟨hg,rfl⟩,h⟩
 ·exact h.elim
def I.looks(i:I):List Nat:=(i.o.rds.filterMap fun| .t k=>some k| .k _=>none)++(match i.g with|some (g,_)=>[g]|none=>[])
theorem Vo{s:S}{d:Option Nat}{v:D}{r:Rd}(h:∀k,d=some k->r≠ .t k):(s.put d v).ev r=s.ev r:=by
 cases d with
 | none=>rfl
 | some k =>
  cases r with
  | k d=>rfl
  | t i =>
   have:i≠k:=fun e=>h k rfl (by rw[e])
   show upd s.t k v i=s.t i
   simp[upd,this]
theorem cP{s:S}{d:Option Nat}{v:D}{i:I}(h:∀k,d=some k->k ∉ i.looks):gd (s.put d v) i.g=gd s i.g:=by
 cases d with
 | none=>rfl
 | some k =>
  unfold gd
  cases hg:i.g with
  | none=>rfl
  | some p =>
   obtain⟨g,w⟩:=p
   have:g≠k:=fun e=>h k rfl (by simp[I.looks,hg,e])
   have e:upd s.t k v g=s.t g:=by simp[upd,this]
   show(match upd s.t k v g with| .bool b=>some (b==w)| .tup []=>some false|_=>none)=_
   rw[e]
   rfl
theorem cF{s:S}{d:Option Nat}{v:D}{i:I}(h:∀k,d=some k->k ∉ i.looks):∀r∈i.o.rds,(s.put d v).ev r=s.ev r:=by
 intro r hr
 refine Vo fun k hk e=>h k hk ?_
 subst e
 exact A7h _ (List.mem_filterMap.2 ⟨.t k,hr,rfl⟩)
theorem cV(s:S)(d:Option Nat)(v:D):(s.put d v).H=s.H/\(s.put d v).T=s.T:=by cases d<;>exact⟨rfl,rfl⟩
theorem Ni{s:S}{d e:Option Nat}{u v:D}(h:∀k,d=some k->e≠some k):(s.put d u).put e v=(s.put e v).put d u:=by
 cases d with
 | none=>rfl
 | some k =>
  cases e with
  | none=>rfl
  | some m =>
   have:k≠m:=fun e'=>h k rfl (by rw[e'])
   show S.mk (upd (upd s.t k u) m v) _ _=S.mk (upd (upd s.t m v) k u) _ _
   congr 1
   funext x
   simp only[upd]
   split
   ·rename_i e1;rw[if_neg (by omega)]
   ·rfl
theorem yQ{i:I}{d:Option Nat}{v:D}{s:S}(hX:GA X)(h1:∀k,d=some k->k ∉ i.looks)(h2:∀k,d=some k->i.d≠some k){K:S->Prop}(h:WI X i (s.put d v) K):WI X i s (fun s'=>K (s'.put d v)):=by
 unfold WI WIk at *
 rw[cP h1] at h
 split
 ·rename_i hg
  rw[hg] at h
  refine iB hX (s:=s.put d v) (cV s d v).1.symm (cV s d v).2.symm (fun r hr=>(cF h1 r hr).symm) ?_ h
  intro u H T hk
  have e:(⟨(s.put d v).t,H,T⟩:S).put i.d u=((⟨s.t,H,T⟩:S).put i.d u).put d v:=by
   rw[<- Ni h2]
   congr 1
   cases d<;>rfl
  show K (((⟨s.t,H,T⟩:S).put i.d u).put d v)
  rw[<- e];exact hk
 ·rename_i hg
  rw[hg] at h
  show K ((s.put i.d (.tup [])).put d v)
  rw[<- Ni h2];exact h
 ·rename_i hg
  rw[hg] at h;exact h
theorem Uu{o:O}{s s':S}(hH:yE o=true->s'.H=s.H)(hev:∀r∈o.rds,s'.ev r=s.ev r):qv s' o=qv s o:=by
 have key:∀z:S,z.H=s.H->(∀r∈o.rds,z.ev r=s.ev r)->qv z o=qv s o:=by
  intro z hz hzev
  have h1:∀(v:D) (K:D->S->Prop),qv s o=some v->True:=fun _ _ _=>trivial
  have fwd:∀v,qv s o=some v->qv z o=some v:=by
   intro v hv
   by_cases hq:dM o=true/\∀f xs,o≠ .pcall f xs
   ·have:=iB (X:=fun _ _ _ _ _=>False) (X':=fun _ _ _ _ _=>False) (fun _ _ _ _ _ _ _ h=>h) (o:=o) (s:=⟨s.t,s.H,z.T⟩) (s':=z) hz rfl hzev (K:=fun u _=>u=v) (K':=fun u _=>u=v) (fun _ _ _ h=>h)
     (by rw[zS hq.1 hq.2];show K1 _ _ (qv s o);rw[hv];rfl)
    rw[zS hq.1 hq.2] at this
    obtain⟨d,h1,h2⟩:=BO this
    rw[h1,h2]
   ·cases o<;>first|(simp[qv] at hv;done)|(exact absurd ⟨rfl,fun _ _ h=>by cases h⟩ hq)
  have bwd:∀v,qv z o=some v->qv s o=some v:=by
   intro v hv
   by_cases hq:dM o=true/\∀f xs,o≠ .pcall f xs
   ·have:=iB (X:=fun _ _ _ _ _=>False) (X':=fun _ _ _ _ _=>False) (fun _ _ _ _ _ _ _ h=>h) (o:=o) (s:=⟨z.t,z.H,s.T⟩) (s':=s) hz.symm rfl (fun r hr=>(hzev r hr).symm) (K:=fun u _=>u=v) (K':=fun u _=>u=v) (fun _ _ _ h=>h)
     (by rw[zS hq.1 hq.2];show K1 _ _ (qv z o);rw[hv];rfl)
    rw[zS hq.1 hq.2] at this
    obtain⟨d,h1,h2⟩:=BO this
    rw[h1,h2]
   ·cases o<;>first|(simp[qv] at hv;done)|(exact absurd ⟨rfl,fun _ _ h=>by cases h⟩ hq)
  cases h:qv s o with
  | none =>
   cases h':qv z o with
   | none=>rfl
   | some v=>rw[bwd v h'] at h;cases h
  | some v=>exact fwd v h
 by_cases hd:yE o=true
 ·exact key s' (hH hd) hev
 ·have e1:qv s' o=qv ⟨s'.t,s.H,s'.T⟩ o:=by
   cases o<;>first|rfl|(simp[yE] at hd;done)
  rw[e1]
  exact key ⟨s'.t,s.H,s'.T⟩ rfl hev
theorem Y.atq{i:I}(hq:dM i.o=true){v:D}{s s':S}(h:Y X i v s)(hH:yE i.o=true->s'.H=s.H)(hg:gd s' i.g=gd s i.g)(hev:∀r∈i.o.rds,s'.ev r=s.ev r):Y X i v s':=by
 rcases h with⟨h1,h2⟩|⟨h1,h2⟩
 ·refine .inl ⟨by rw[hg];exact h1,fun K' hk=>?_⟩
  by_cases hp:∀f xs,i.o≠ .pcall f xs
  ·have:=h2 (fun u _=>u=v) rfl
   rw[zS hq hp] at this ⊢
   rw[Uu hH hev]
   obtain⟨d,e1,e2⟩:=BO this
   rw[e1,e2];exact hk
  ·cases ho:i.o with
   | pcall f xs =>
    rw[ho] at h2 hH hev
    have:=h2 (fun u _=>u=v) rfl
    change bW X (xs.map s.ev) (fun u _=>u=v) s (s.ev f) at this
    show bW X (xs.map s'.ev) K' s' (s'.ev f)
    rw[hev f (by simp[O.rds]),dV (s:=s) (s':=s') (xs:=xs) (fun r hr=>hev r (by simp[O.rds,hr]))]
    refine o9 (s:=s) (fun _ _ _ _ _ h=>h) (hH rfl) (K:=fun u _=>u=v) (fun u hu=>?_) this
    subst hu;exact hk
   | _=>exact absurd (fun f xs h=>by rw[ho] at h;cases h) hp
 ·exact .inr ⟨by rw[hg];exact h1,h2⟩
theorem Lk{H:Hp}{k:Nat}{b u:Ob}(hb:b.blank=true)(hk:H[k]? =some b){d:D}{es:List (D×D×Nat)}(h:E0 H d=some es):E0 (H.set k u) d=some es:=by
 unfold E0 at h ⊢
 split at h
 ·exact h
 ·rename_i o
  split at h
  ·rename_i es' clk ho
   have e:k≠o:=fun e=>by
    subst e;rw[hk] at ho;injection ho with ho;subst ho;cases hb
   rw[A6K e,ho];exact h
  ·cases h
 ·cases h
theorem Y.fill{i:I}(hq:dM i.o=true){v:D}{s:S}(h:Y X i v s){k:Nat}{b u:Ob}(hb:b.blank=true)(hk:s.H[k]? =some b):Y X i v ⟨s.t,s.H.set k u,s.T⟩:=by
 have hle:Hle s.H (s.H.set k u):=by
  intro o x hx h1
  by_cases e:k=o
  ·subst e;rw[hk] at hx;injection hx with hx;subst hx;rw[hb] at h1;cases h1
  ·rw[A6K e];exact hx
 have hrd:∀off,Bx s.H (.ptr k off)=none:=fun off=>by
  simp only[Bx,hk]
  cases b<;>simp[Ob.blank] at hb<;>rfl
 rcases h with⟨h1,h2⟩|⟨h1,h2⟩
 ·refine .inl ⟨h1,fun K' hk'=>?_⟩
  by_cases hp:∀f xs,i.o≠ .pcall f xs
  ·have:=h2 (fun u _=>u=v) rfl
   rw[zS hq hp] at this ⊢
   obtain⟨d,e1,e2⟩:=BO this
   subst e2
   have:qv ⟨s.t,s.H.set k u,s.T⟩ i.o=some d:=by
    by_cases hd:yE i.o=true
    ·cases ho:i.o with
     | load ag n x =>
      rw[ho] at e1
      simp only[qv] at e1 ⊢
      have hev:(⟨s.t,s.H.set k u,s.T⟩:S).ev x=s.ev x:=by cases x<;>rfl
      rw[hev]
      rw[<- e1]
      congr 1
      cases hx:s.ev x with
      | ptr o off =>
       rw[hx] at e1
       simp only[Bx]
       by_cases e:k=o
       ·subst e;rw[hrd] at e1;simp[ld] at e1
       ·rw[A6K e]
      | _=>rfl
     | mlen x =>
      rw[ho] at e1
      simp only[qv] at e1 ⊢
      have hev:(⟨s.t,s.H.set k u,s.T⟩:S).ev x=s.ev x:=by cases x<;>rfl
      rw[hev]
      cases hes:E0 s.H (s.ev x) with
      | none=>rw[hes] at e1;cases e1
      | some es=>rw[Lk hb hk hes,← hes];exact e1
     | mget ks zv ok x y =>
      rw[ho] at e1
      simp only[qv] at e1 ⊢
      have hev:∀r,(⟨s.t,s.H.set k u,s.T⟩:S).ev r=s.ev r:=fun r=>by cases r<;>rfl
      rw[hev,hev]
      cases hes:E0 s.H (s.ev x) with
      | none =>
       have:Gv s.H ks zv ok (s.ev x) (s.ev y)=none:=by
        unfold Gv;split
        ·rw[hes]
        ·rfl
       rw[this] at e1;split at e1<;>cases e1
      | some es =>
       have:Gv (s.H.set k u) ks zv ok (s.ev x) (s.ev y)=Gv s.H ks zv ok (s.ev x) (s.ev y):=by
        unfold Gv;rw[Lk hb hk hes,hes]
       rw[this];exact e1
     | pcall f xs=>exact absurd ho (hp f xs)
     | _=>rw[ho] at hd;simp[yE] at hd
    ·rw[Uu (s:=s) (fun h=>absurd h hd) (fun r _=>by cases r<;>rfl)];exact e1
   rw[this];exact hk'
  ·cases ho:i.o with
   | pcall f xs =>
    rw[ho] at h2
    have:=h2 (fun u _=>u=v) rfl
    change bW X (xs.map s.ev) (fun u _=>u=v) s (s.ev f) at this
    have hevx:∀r,(⟨s.t,s.H.set k u,s.T⟩:S).ev r=s.ev r:=fun r=>by cases r<;>rfl
    show bW X (xs.map (⟨s.t,s.H.set k u,s.T⟩:S).ev) K' _ ((⟨s.t,s.H.set k u,s.T⟩:S).ev f)
    rw[hevx f,dV (s:=s) (fun r _=>hevx r)]
    have key:∀d,bW X (xs.map s.ev) (fun u _=>u=v) s d->bW X (xs.map s.ev) K' ⟨s.t,s.H.set k u,s.T⟩ d:=by
     intro d hd
     cases d<;>simp only[bW] at hd ⊢<;>first|exact hd.elim|skip
     obtain⟨r,p1,p2⟩:=hd
     subst p2
     exact⟨r,fun H' T' Q a b=>p1 H' T' Q (fun o x a1 a2=>a o x (hle o x a1 a2) a2) b,hk'⟩
    exact key _ this
   | _=>exact absurd (fun f xs h=>by rw[ho] at h;cases h) hp
 ·exact .inr ⟨h1,h2⟩
def ready(ops:Array Oper)(listed:Array Bool):List Nat:=Region.ready .any ops listed
def iD(X:BF)(sl:Nat->I)(st:List Nat)(listed:Array Bool)(s:S):Prop:=∀i∈st,listed.getD i false=true->I8 X (sl i) s
def LG(X:BF)(ops:Array Oper)(sl:Nat->I)(st:Nat->List Nat)(R:S->Prop):Nat->Array Bool->S->Prop
 | 0,listed,s=>ready ops listed=[]/\R s
 | fuel+1,listed,s=>(ready ops listed=[]->R s)/\∀j∈ready ops listed,WI X (sl j) s (fun s'=>iD X sl (st j) listed s'/\LG X ops sl st R fuel (listed.setIfInBounds j true) s')
end GP
namespace GP
open Go
variable {P:Program} {X:BF} {ops:Array Oper} {sl:Nat->I} {st:Nat->List Nat} {R:S->Prop}
def JM:I->Option Nat
 | ⟨_,none,.allocAt j _⟩|⟨_,none,.boxAt j _⟩|⟨_,none,.rawAt j _⟩|⟨_,none,.fillAt j _ _ _⟩=>some j
 | _=>none
def So:O->Bool
 | .bsl _ _| .s2b _| .app _ _ _ _ _=>true
 | _=>false
def u4(x y:I):Bool :=
 (match x.d with|some d=>!y.looks.contains d&&y.d !=some d|none=>true)&&(match y.d with|some d=>!x.looks.contains d|none=>true)
theorem g9{x y:I}(h:u4 x y=true):(∀d,x.d=some d->d ∉ y.looks)/\(∀d,x.d=some d->y.d≠some d)/\(∀d,y.d=some d->d ∉ x.looks):=by
 unfold u4 at h
 rw[A6A] at h
 refine⟨fun d hd=>?_,fun d hd=>?_,fun d hd=>?_⟩
 ·rw[hd] at h;simp at h;exact h.1.1
 ·rw[hd] at h;simp at h;exact h.1.2
 ·rw[hd] at h;simp at h;exact h.2
def Vu(x y:I):Bool:=match x.d with|some d=>!y.looks.contains d&&y.d !=some d|none=>true
def okQ(S:Array Bool)(sl:Nat->I)(st:Nat->List Nat)(i j:Nat):Bool :=
 u4 (sl i) (sl j) &&
 (dM (sl j).o||(JM (sl j)).isSome ||
  (So (sl j).o|| !yE (sl i).o||((st j).contains i&&(match (sl i).d with|some d=>!(sl i).looks.contains d|none=>false)))) &&
 (st j).all (fun k=>k==i||Vu (sl i) (sl k)|| !S.getD k false)
def okA(sl:Nat->I)(st:Nat->List Nat)(i j:Nat):Bool :=
 u4 (sl i) (sl j)&&(JM (sl j)).isSome&&(JM (sl j) !=JM (sl i))&&(st j).isEmpty
def ahead(ops:Array Oper)(i:Nat):Nat->Array Bool->Array Bool
 | 0,S=>S
 | f+1,S=>match (ready ops S).filter (· !=i) with
  | []=>S
  | l=>ahead ops i f (l.foldl (fun S j=>S.setIfInBounds j true) S)
def ME(ops:Array Oper)(i:Nat)(listed S:Array Bool):Bool :=
 (ready ops S).all (·==i)&&(A6P listed.size).all (fun k=>!listed.getD k false||S.getD k false)&& !S.getD i true&&(S.size==listed.size)
def chk(ops:Array Oper)(sl:Nat->I)(st:Nat->List Nat):List Nat->Array Bool->Bool
 | [],listed=>(ready ops listed).isEmpty
 | i::rest,listed =>
  (ready ops listed).contains i&&chk ops sl st rest (listed.setIfInBounds i true) &&
  (if dM (sl i).o then
   let S:=ahead ops i ops.size listed
   ME ops i listed S&&(st i).isEmpty&&(A6P listed.size).all fun j=>!S.getD j false||listed.getD j false||okQ S sl st i j
  else match JM (sl i) with
   | some _ =>
    let S:=ahead ops i ops.size listed
    ME ops i listed S&&(st i).isEmpty&&(A6P listed.size).all fun j=>!S.getD j false||listed.getD j false||okA sl st i j
   | none=>ready ops listed==[i])
def dU(listed S:Array Bool):Prop:=listed.size=S.size/\∀k,listed.getD k false=true->S.getD k false=true
theorem dP{i:Nat}{listed S:Array Bool}(h:ME ops i listed S=true):dU listed S/\S.getD i true=false/\∀k∈ready ops S,k=i:=by
 unfold ME at h
 simp only[A6A,beq_iff_eq,A7n,A6G] at h
 obtain⟨⟨⟨h1,h2⟩,h3⟩,h4⟩:=h
 refine⟨⟨h4.symm,fun k hk=>?_⟩,h3,fun k hk=>by simpa using h1 k hk⟩
 have hlt:k<listed.size:=by
  rcases A6D k listed.size with h'|h'
  ·exact h'
  ·simp[A6J h'] at hk
 have:=h2 k (by simpa using hlt)
 simpa[hk] using this
theorem eB{i:Nat}{listed S:Array Bool}(hw:dU listed S)(hc:∀k∈ready ops S,k=i){j:Nat}(hj:j∈ready ops listed)(hne:j≠i):S.getD j false=true:=by
 unfold ready at hj hc
 rw[mem_ready] at hj
 obtain⟨h0,o,ho,hall⟩:=hj
 cases hS:S.getD j false with
 | true=>rfl
 | false =>
  exfalso
  refine hne (hc j (mem_ready.2 ⟨?_,o,ho,fun e he hb=>hw.2 _ (hall e he hb)⟩))
  have hlt:j<listed.size:=by
   rcases A6D j listed.size with h'|h'
   ·exact h'
   ·simp[A6J h'] at h0
  have hlt':j<S.size:=by rw[<- hw.1];exact hlt
  simpa[A6V hlt'] using hS
theorem gZ{listed S:Array Bool}(hw:dU listed S){j:Nat}(hj:S.getD j false=true):dU (listed.setIfInBounds j true) S:=by
 refine⟨by simp[hw.1],fun k hk=>?_⟩
 by_cases e:j=k
 ·subst e;exact hj
 ·rw[getD_set_ne false e] at hk;exact hw.2 k hk
theorem gX{listed:Array Bool}{j:Nat}(hj:j∈ready ops listed):j<ops.size/\listed.getD j true=false:=by
 unfold ready at hj
 rw[mem_ready] at hj
 obtain⟨h0,o,ho,_⟩:=hj
 refine⟨?_,h0⟩
 rcases A6D j ops.size with h'|h'
 ·exact h'
 ·simp[A6J h'] at ho
theorem aI{listed:Array Bool}{j:Nat}(h:listed.getD j true=false):listed.getD j false=false:=by
 rcases A6D j listed.size with h'|h'
 ·simpa[A6V h'] using h
 ·simp[A6J h'] at h
theorem pV{S:Array Bool}{j:Nat}{listed:Array Bool}{i:Nat}{v:D}(hX:GA X)(hun:listed.getD i true=false)(hw:dU listed S)(h:(st j).all (fun k=>k==i||Vu (sl i) (sl k)|| !S.getD k false)=true){s:GP.S}
  (hs:iD X sl (st j) (listed.setIfInBounds i true) (s.put (sl i).d v)):iD X sl (st j) listed s:=by
 intro k hk hl
 have hki:k≠i:=fun e=>by subst e;rw[aI hun] at hl;cases hl
 have h1:=hs k hk (by rw[getD_set_ne false (Ne.symm hki)];exact hl)
 have h2:=A6G.1 h k hk
 rw[hw.2 k hl,Bool.not_true,Bool.or_false] at h2
 simp only[A67,beq_iff_eq] at h2
 have h3:=h2.resolve_left hki
 have hoff:(∀d,(sl i).d=some d->d ∉ (sl k).looks)/\(∀d,(sl i).d=some d->(sl k).d≠some d):=by
  unfold Vu at h3
  refine⟨fun d hd=>?_,fun d hd=>?_⟩<;>rw[hd] at h3<;>simp at h3
  ·exact h3.1
  ·exact h3.2
 unfold I8 at h1 ⊢
 rw[cP hoff.1] at h1
 split
 ·rename_i d hg hd
  rw[hg,hd] at h1
  simp only at h1
  have e:(s.put (sl i).d v).t d=s.t d:=by
   cases hdi:(sl i).d with
   | none=>rfl
   | some di =>
    have:d≠di:=fun e=>hoff.2 di hdi (by rw[hd,e])
    show upd s.t di v d=s.t d
    simp[upd,this]
  rw[e] at h1
  refine iB hX (s:=s.put (sl i).d v) (cV _ _ _).1.symm (cV _ _ _).2.symm (fun r hr=>(cF hoff.1 r hr).symm) (fun u H T hu=>hu) h1
 ·trivial
theorem z8{o:O}(ht:So o=true){s:S}{K:D->S->Prop}(h:WO X o s K):WO X o s (fun u s'=>K u s'/\s'.H=s.H):=by
 cases o<;>simp[So] at ht
 ·exact⟨h.1,h.2,rfl⟩
 ·rename_i x
  change L8 K s (s.ev x) at h
  show L8 (fun u s'=>K u s'/\s'.H=s.H) s (s.ev x)
  cases hx:s.ev x<;>rw[hx] at h<;>simp only[L8] at h ⊢<;>first|exact h|exact⟨h,rfl⟩|exact⟨h,trivial⟩
 ·rename_i str sz bytes x y
  change Eb sz bytes K s (s.ev x) (aQ str (s.ev y)) at h
  show Eb sz bytes (fun u s'=>K u s'/\s'.H=s.H) s (s.ev x) (aQ str (s.ev y))
  cases hy:aQ str (s.ev y) with
  | none=>rw[hy] at h;exact h
  | some ys =>
   rw[hy] at h
   refine⟨h.1,?_⟩
   have h2:=h.2
   cases hx:s.ev x with
   | nils =>
    rw[hx] at h2
    simp only at h2 ⊢
    split
    ·rename_i e;rw[if_pos e] at h2;first|exact⟨h2,rfl⟩|exact⟨h2,trivial⟩
    ·rename_i e;rw[if_neg e] at h2;first|exact⟨h2.1,h2.2.1,h2.2.2,rfl⟩|exact⟨h2.1,h2.2.1,h2.2.2,trivial⟩
   | e0 =>
    rw[hx] at h2
    simp only at h2 ⊢
    split
    ·rename_i e;rw[if_pos e] at h2;first|exact⟨h2,rfl⟩|exact⟨h2,trivial⟩
    ·rename_i e;rw[if_neg e] at h2;first|exact⟨h2.1,h2.2.1,h2.2.2,rfl⟩|exact⟨h2.1,h2.2.1,h2.2.2,trivial⟩
   | sl t xs =>
    rw[hx] at h2
    cases t with
    | none=>exact h2
    | some t=>first|exact⟨h2.1,h2.2.1,h2.2.2.1,h2.2.2.2.1,h2.2.2.2.2,rfl⟩|exact⟨h2.1,h2.2.1,h2.2.2.1,h2.2.2.2.1,h2.2.2.2.2,trivial⟩
   | _=>rw[hx] at h2;exact h2
def UC:O->Bool
 | .rawAt _ _| .fillAt _ _ _ _=>true
 | _=>false
theorem qR{o:O}{j:Nat}{i:I}(hi:i.o=o)(ha:JM i=some j){s:S}{K:D->S->Prop}(h:WO X o s K):
  ∃(b u:Ob) (r:D),b.blank=true/\(UC o=true->j<=s.H.length)/\(UC o=false->b= .hole)/\(u.blank=true->UC o=true)/\u≠ .hole/\s.H[s.H.length - j]? =some b/\K r ⟨s.t,s.H.set (s.H.length - j) u,s.T⟩∧
   ∀s':S,s'.H.length=s.H.length->s'.H[s.H.length - j]? =some b->(∀r∈o.rds,s'.ev r=s.ev r)->∀K':D->S->Prop,K' r ⟨s'.t,s'.H.set (s.H.length - j) u,s'.T⟩->WO X o s' K':=by
 obtain⟨d,g,oo⟩:=i
 simp only at hi
 subst hi
 cases g with
 | some p=>cases oo<;>simp[JM] at ha
 | none =>
  cases oo<;>simp[JM] at ha
  ·rename_i j' z
   subst ha
   change atK K s (s.H.length - j') z s.H[s.H.length - j']? at h
   obtain⟨h1,h2⟩:=lM h
   refine⟨.hole,.row z,_,rfl,fun h=>(by cases h),fun _=>rfl,fun h=>(by cases h),(by simp),h1,h2,fun s' hl hh _ K' hk=>?_⟩
   show atK K' s' (s'.H.length - j') z s'.H[s'.H.length - j']?
   rw[hl,hh];exact hk
  ·rename_i j' z
   subst ha
   obtain⟨h0,h⟩:=h
   obtain⟨h1,h2⟩:=qL h
   refine⟨.hole,.raw z,_,rfl,fun _=>h0,fun h=>(by cases h),fun _=>rfl,(by simp),h1,h2,fun s' hl hh _ K' hk=>?_⟩
   show _/\JS K' s' (s'.H.length - j') z s'.H[s'.H.length - j']?
   rw[hl,hh];exact⟨h0,hk⟩
  ·rename_i j' n x y
   subst ha
   obtain⟨h0,h⟩:=h
   obtain⟨z,h1,q1,q2,q3,q4,h2⟩:=nJ h
   refine⟨.raw z,.row (s.ev y).cells,_,rfl,fun _=>h0,fun h=>(by cases h),fun h=>(by cases h),(by simp),h1,h2,fun s' hl hh hev K' hk=>?_⟩
   have e1:=hev x (by simp[O.rds])
   have e2:=hev y (by simp[O.rds])
   show _/\Gp K' s' (s'.H.length - j') n (s'.ev x) (s'.ev y) s'.H[s'.H.length - j']?
   rw[hl,hh,e1,e2];exact⟨h0,q1,q2,q3,q4,hk⟩
  ·rename_i j' x
   subst ha
   obtain⟨hk0,h⟩:=h
   obtain⟨h1,h2⟩:=lM h
   refine⟨.hole,.row (s.ev x).cells,_,rfl,fun h=>(by cases h),fun _=>rfl,fun h=>(by cases h),(by simp),h1,h2,fun s' hl hh hev K' hk=>?_⟩
   have e:=hev x (by simp[O.rds])
   show _/\atK K' s' (s'.H.length - j') (s'.ev x).cells s'.H[s'.H.length - j']?
   rw[hl,hh,e];exact⟨hk0,hk⟩
theorem jH{i:I}{j:Nat}(ha:JM i=some j)(s:S):gd s i.g=some true:=by
 obtain⟨d,g,oo⟩:=i
 cases g with
 | some p=>cases oo<;>simp[JM] at ha
 | none=>rfl
theorem qN{i:I}{s:S}{K K':S->Prop}(hX:GA X)(h:WI X i s K)(hk:∀u H T,K ((⟨s.t,H,T⟩:S).put i.d u)->K' ((⟨s.t,H,T⟩:S).put i.d u)):WI X i s K':=by
 unfold WI WIk at *
 split
 ·rename_i hg;rw[hg] at h;exact iB hX rfl rfl (fun _ _=>rfl) (fun u H T h=>hk u H T h) h
 ·rename_i hg;rw[hg] at h;exact hk (.tup []) s.H s.T h
 ·rename_i hg;rw[hg] at h;exact h
theorem mQ(hX:GA X){i:Nat}{v:D}(hq:dM (sl i).o=true){S:Array Bool}(hclosed:∀k∈ready ops S,k=i)(hSi:S.getD i true=false):∀(fuel:Nat) (listed:Array Bool) (s:GP.S),
  dU listed S->(∀j,S.getD j false=true->listed.getD j false=false->okQ S sl st i j=true)->i∈ready ops listed->Y X (sl i) v s->(st i)=[] →
  LG X ops sl st R fuel (listed.setIfInBounds i true) (s.put (sl i).d v)->LG X ops sl st R (fuel+1) listed s:=by
 intro fuel
 induction fuel with
 | zero =>
  intro listed s hw hok hr hy hst H
  refine⟨fun h=>(by rw[h] at hr;cases hr),fun j hj=>?_⟩
  by_cases hji:j=i
  ·subst hji
   refine hy.wi ⟨?_,H⟩
   rw[hst];intro k hk;cases hk
  ·have:=ready_mono (md:=.any) hj hji
   have h0:=H.1
   unfold ready at h0
   rw[h0] at this
   cases this
 | succ fuel ih =>
  intro listed s hw hok hr hy hst H
  refine⟨fun h=>(by rw[h] at hr;cases hr),fun j hj=>?_⟩
  by_cases hji:j=i
  ·subst hji
   refine hy.wi ⟨?_,H⟩
   rw[hst];intro k hk;cases hk
  ·have hSj:=eB hw hclosed hj hji
   have hjun:=(gX hj).2
   have hokj:=hok j hSj (aI hjun)
   unfold okQ at hokj
   simp only[A6A] at hokj
   obtain⟨⟨hap,hcase⟩,hst'⟩:=hokj
   obtain⟨a1,a2,a3⟩:=g9 hap
   have hj':j∈ready ops (listed.setIfInBounds i true):=ready_mono (md:=.any) hj hji
   have h1:=yQ hX a1 a2 (H.2 j hj')
   have hiun:=(gX hr).2
   have next:∀s':GP.S,Y X (sl i) v s'->iD X sl (st j) (listed.setIfInBounds i true) (s'.put (sl i).d v)/\LG X ops sl st R fuel ((listed.setIfInBounds i true).setIfInBounds j true) (s'.put (sl i).d v) →
     iD X sl (st j) listed s'/\LG X ops sl st R (fuel+1) (listed.setIfInBounds j true) s':=by
    intro s' hy' hh
    refine⟨pV hX hiun hw hst' hh.1,ih _ s' (gZ hw hSj) ?_ (ready_mono (md:=.any) hr (Ne.symm hji)) hy' hst ?_⟩
    ·intro k hk hl
     refine hok k hk ?_
     by_cases e:j=k
     ·subst e;exact aI hjun
     ·rwa [getD_set_ne false e] at hl
    ·rw[A7a _ _ hji];exact hh.2
   have same:∀(u:D) (H':Hp) (T':Tk),(yE (sl i).o=true->H'=s.H)->Y X (sl i) v ((⟨s.t,H',T'⟩:GP.S).put (sl j).d u):=by
    intro u H' T' hH
    refine hy.atq hq (fun h=>by rw[(cV _ _ _).1];exact hH h) ?_ ?_
    ·rw[cP a3];rfl
    ·intro r hr'
     rw[cF a3 r hr']
     cases r<;>rfl
   simp only[A67] at hcase
   rcases hcase with(hqj|hat)|Vl
   ·obtain⟨u,hu1,hu2⟩:=Y.of_quiet hqj h1
    exact hu1.wi (next _ (same u s.H s.T (fun _=>rfl)) hu2)
   ·obtain⟨m,hat⟩:=A6T.1 hat
    unfold WI WIk at h1 ⊢
    rw[jH hat] at h1 ⊢
    obtain⟨b,z,r0,gb,_,_,_,_,g1,g2,g3⟩:=qR rfl hat h1
    refine g3 s rfl g1 (fun _ _=>rfl) _ ?_
    refine next _ ?_ g2
    have:=(hy.fill hq (u:=z) gb g1)
    refine Y.atq hq this (fun _=>by rw[(cV _ _ _).1]) ?_ ?_
    ·rw[cP a3]
    ·intro r hr';rw[cF a3 r hr']
   ·rcases Vl with(ht|hnd)|hstj
    ·unfold WI WIk at h1 ⊢
     split at h1
     ·have h2:=z8 ht h1
      refine iB hX rfl rfl (fun _ _=>rfl) (fun u H' T' hh=>?_) h2
      exact next _ (same u H' T' (fun _=>hh.2)) hh.1
     ·exact next _ (same _ s.H s.T (fun _=>rfl)) h1
     ·exact h1.elim
    ·refine qN hX h1 (fun u H' T' hh=>next _ (same u H' T' (fun h=>by rw[h] at hnd;cases hnd)) hh)
    ·rw[A6A] at hstj
     obtain⟨hmem,hself⟩:=hstj
     refine qN hX h1 (fun u H' T' hh=>next _ ?_ hh)
     have hi':i∈st j:=by simpa using hmem
     have hbs:(listed.setIfInBounds i true).getD i false=true:=by
      have hlt:i<listed.size:=by
       rcases A6D i listed.size with h'|h'
       ·exact h'
       ·simp[A6J h'] at hiun
      simp[hlt]
     have hstill:=hh.1 i hi' hbs
     cases hdi:(sl i).d with
     | none=>rw[hdi] at hself;cases hself
     | some di =>
      rw[hdi] at hself
      have hself:di ∉ (sl i).looks:=by simpa using hself
      have hself':∀k,some di=some k->k ∉ (sl i).looks:=fun k hk=>by injection hk with hk;subst hk;exact hself
      unfold I8 at hstill
      rw[hdi,cP hself'] at hstill
      have hg0:gd ((⟨s.t,H',T'⟩:GP.S).put (sl j).d u) (sl i).g=gd s (sl i).g:=by rw[cP a3];rfl
      rw[hg0] at hstill
      rcases hy with⟨y1,y2⟩|⟨y1,y2⟩
      ·rw[y1] at hstill
       simp only at hstill
       have hv:(((⟨s.t,H',T'⟩:GP.S).put (sl j).d u).put (some di) v).t di=v:=by show upd _ _ _ _=_;simp[upd]
       rw[hv] at hstill
       obtain⟨v',w1,w2⟩:=m6 hq hstill
       subst w2
       have hY:Y X (sl i) v' (((⟨s.t,H',T'⟩:GP.S).put (sl j).d u).put (some di) v'):=.inl ⟨by rw[cP hself',hg0];exact y1,w1⟩
       refine hY.atq hq (fun _=>by rw[(cV _ (some di) v').1]) (by rw[cP hself']) (fun r hr'=>?_)
       rw[cF hself' r hr']
      ·exact .inr ⟨by rw[hg0];exact y1,y2⟩
theorem tV(hX:GA X){i m:Nat}(ha:JM (sl i)=some m){S:Array Bool}(hclosed:∀k∈ready ops S,k=i):∀(fuel:Nat) (listed:Array Bool) (s:GP.S),
  dU listed S->(∀j,S.getD j false=true->listed.getD j false=false->okA sl st i j=true)->i∈ready ops listed->(st i)=[] →
  WI X (sl i) s (fun s'=>LG X ops sl st R fuel (listed.setIfInBounds i true) s')->LG X ops sl st R (fuel+1) listed s:=by
 intro fuel
 induction fuel with
 | zero =>
  intro listed s hw hok hr hst H
  refine⟨fun h=>(by rw[h] at hr;cases hr),fun j hj=>?_⟩
  by_cases hji:j=i
  ·subst hji
   refine dK hX (fun s' h=>⟨?_,h⟩) H
   rw[hst];intro k hk;cases hk
  ·exfalso
   have:=ready_mono (md:=.any) hj hji
   unfold WI WIk at H
   rw[jH ha] at H
   obtain⟨b,z,r0,gb,_,_,_,_,g1,g2,g3⟩:=qR rfl ha H
   have h0:=g2.1
   unfold ready at h0
   rw[h0] at this
   cases this
 | succ fuel ih =>
  intro listed s hw hok hr hst H
  refine⟨fun h=>(by rw[h] at hr;cases hr),fun j hj=>?_⟩
  by_cases hji:j=i
  ·subst hji
   refine dK hX (fun s' h=>⟨?_,h⟩) H
   rw[hst];intro k hk;cases hk
  ·have hSj:=eB hw hclosed hj hji
   have hjun:=(gX hj).2
   have hokj:=hok j hSj (aI hjun)
   unfold okA at hokj
   simp only[A6A,bne_iff_ne,ne_eq] at hokj
   obtain⟨⟨⟨hap,hat⟩,hne⟩,hstj⟩:=hokj
   obtain⟨a1,a2,a3⟩:=g9 hap
   obtain⟨m',hat⟩:=A6T.1 hat
   have hmm:m'≠m:=fun e=>hne (by rw[hat,ha,e])
   have hj':j∈ready ops (listed.setIfInBounds i true):=ready_mono (md:=.any) hj hji
   unfold WI WIk at H
   rw[jH ha] at H
   obtain⟨b,z,r0,gb,gl,gh,gn,gnh,g1,g2,g3⟩:=qR rfl ha H
   have h1:=g2.2 j hj'
   unfold WI WIk at h1
   rw[jH hat] at h1
   obtain⟨b',z',r',kb,kl,kh,kn,knh,k1,k2,k3⟩:=qR rfl hat h1
   have hlen:((⟨s.t,s.H.set (s.H.length - m) z,s.T⟩:GP.S).put (sl i).d r0).H.length=s.H.length:=by rw[(cV _ _ _).1];simp
   rw[hlen] at k1 k2 k3 kl
   rw[(cV _ _ _).1] at k1
   have hpl:s.H.length - m'≠s.H.length - m:=by
    intro e
    rw[e] at k1
    have hlt:s.H.length - m<s.H.length:=by
     rcases A6D (s.H.length - m) s.H.length with h'|h'
     ·exact h'
     ·rw[A6C h'] at g1;cases g1
    rw[A7c hlt] at k1
    injection k1 with k1
    subst k1
    have p1:=gl (gn kb)
    cases hp:UC (sl j).o with
    | true=>have:=kl hp;omega
    | false =>
     exact gnh (kh hp)
   rw[A6K (Ne.symm hpl)] at k1
   unfold WI WIk
   rw[jH hat]
   have hev:∀r∈(sl j).o.rds,s.ev r=((⟨s.t,s.H.set (s.H.length - m) z,s.T⟩:GP.S).put (sl i).d r0).ev r:=by
    intro r hr'
    rw[cF a1 r hr']
    cases r<;>rfl
   refine k3 s rfl k1 hev _ ⟨?_,?_⟩
   ·have:st j=[]:=by simpa using hstj
    rw[this];intro k hk;cases hk
   ·refine ih _ _ (gZ hw hSj) ?_ (ready_mono (md:=.any) hr (Ne.symm hji)) hst ?_
    ·intro k hk hl
     refine hok k hk ?_
     by_cases e:j=k
     ·subst e;exact aI hjun
     ·rwa [getD_set_ne false e] at hl
    ·unfold WI WIk
     rw[jH ha]
     have hl2:((⟨s.t,s.H.set (s.H.length - m') z',s.T⟩:GP.S).put (sl j).d r').H.length=s.H.length:=by rw[(cV _ _ _).1];simp
     have hh2:((⟨s.t,s.H.set (s.H.length - m') z',s.T⟩:GP.S).put (sl j).d r').H[s.H.length - m]? =some b:=by
      rw[(cV _ _ _).1]
      show(s.H.set _ _)[_]? =_
      rw[A6K hpl];exact g1
     refine g3 _ hl2 hh2 (fun r hr'=>?_) _ ?_
     ·rw[cF a3 r hr'];cases r<;>rfl
     ·have hfin:=k2.2
      rw[A7a _ _ hji]
      have e:((⟨((⟨s.t,s.H.set (s.H.length - m') z',s.T⟩:GP.S).put (sl j).d r').t,((⟨s.t,s.H.set (s.H.length - m') z',s.T⟩:GP.S).put (sl j).d r').H.set (s.H.length - m) z,
        ((⟨s.t,s.H.set (s.H.length - m') z',s.T⟩:GP.S).put (sl j).d r').T⟩:GP.S).put (sl i).d r0) =
       ((⟨((⟨s.t,s.H.set (s.H.length - m) z,s.T⟩:GP.S).put (sl i).d r0).t,((⟨s.t,s.H.set (s.H.length - m) z,s.T⟩:GP.S).put (sl i).d r0).H.set (s.H.length - m') z',
        ((⟨s.t,s.H.set (s.H.length - m) z,s.T⟩:GP.S).put (sl i).d r0).T⟩:GP.S).put (sl j).d r'):=by
       have c1:(s.H.set (s.H.length - m') z').set (s.H.length - m) z=(s.H.set (s.H.length - m) z).set (s.H.length - m') z':=List.set_comm _ _ hpl
       cases hdi:(sl i).d with
       | none =>
        cases hdj:(sl j).d with
        | none=>show GP.S.mk s.t ((s.H.set (s.H.length - m') z').set (s.H.length - m) z) s.T=GP.S.mk s.t ((s.H.set (s.H.length - m) z).set (s.H.length - m') z') s.T;rw[c1]
        | some dj=>show GP.S.mk (upd s.t dj r') ((s.H.set (s.H.length - m') z').set (s.H.length - m) z) s.T=GP.S.mk (upd s.t dj r') ((s.H.set (s.H.length - m) z).set (s.H.length - m') z') s.T;rw[c1]
       | some di =>
        cases hdj:(sl j).d with
        | none=>show GP.S.mk (upd s.t di r0) ((s.H.set (s.H.length - m') z').set (s.H.length - m) z) s.T=GP.S.mk (upd s.t di r0) ((s.H.set (s.H.length - m) z).set (s.H.length - m') z') s.T;rw[c1]
        | some dj =>
         have hdd:di≠dj:=fun e=>a2 di hdi (by rw[hdj,e])
         show GP.S.mk (upd (upd s.t dj r') di r0) ((s.H.set (s.H.length - m') z').set (s.H.length - m) z) s.T=GP.S.mk (upd (upd s.t di r0) dj r') ((s.H.set (s.H.length - m) z).set (s.H.length - m') z') s.T
         rw[c1]
         congr 1
         funext x
         simp only[upd]
         split
         ·rename_i e1;rw[if_neg (by omega)]
         ·rfl
      rw[e]
      exact hfin
theorem nV{ks:List Nat}{listed:Array Bool}{s:GP.S}(h:d8 X (ks.map sl) s):iD X sl ks listed s:=by
 induction ks with
 | nil=>intro k hk;cases hk
 | cons a ks ih =>
  intro k hk hl
  simp only[A61,d8] at h
  rcases A66.1 hk with e|hk
  ·subst e;exact h.1
  ·exact ih h.2 k hk hl
theorem jU(hX:GA X):∀(ord:List Nat) (listed:Array Bool) (s:GP.S),chk ops sl st ord listed=true->Wd X (ord.map fun i=>(sl i,(st i).map sl)) R s->LG X ops sl st R ord.length listed s
 | [],listed,s,hc,h=>⟨by simpa[chk] using hc,h⟩
 | i::ord,listed,s,hc,h=>by
  simp only[chk,A6A] at hc
  obtain⟨⟨hr,hrec⟩,hcase⟩:=hc
  have hr:i∈ready ops listed:=by simpa using hr
  have hrest:∀s',Wd X (ord.map fun i=>(sl i,(st i).map sl)) R s'->LG X ops sl st R ord.length (listed.setIfInBounds i true) s':=fun s' h'=>jU hX ord _ s' hrec h'
  simp only[A61,Wd] at h
  simp only[List.length_cons]
  split at hcase
  ·rename_i hq
   simp only[A6A] at hcase
   obtain⟨⟨hcl,hst⟩,hall⟩:=hcase
   obtain⟨c1,c2,c3⟩:=dP hcl
   obtain⟨v,y1,y2⟩:=Y.of_quiet hq h
   refine mQ hX hq c3 c2 _ _ _ c1 ?_ hr y1 (by simpa using hst) (hrest _ y2.2)
   intro j hj hl
   have hlt:j<listed.size:=by
    rcases A6D j listed.size with h'|h'
    ·exact h'
    ·rw[c1.1] at h'
     simp[A6J h'] at hj
   have:=A6G.1 hall j (by simpa using hlt)
   simpa[hj,hl] using this
  ·rename_i hq
   split at hcase
   ·rename_i m ha
    simp only[A6A] at hcase
    obtain⟨⟨hcl,hst⟩,hall⟩:=hcase
    obtain⟨c1,c2,c3⟩:=dP hcl
    refine tV hX ha c3 _ _ _ c1 ?_ hr (by simpa using hst) (dK hX (fun s' h'=>hrest s' h'.2) h)
    intro j hj hl
    have hlt:j<listed.size:=by
     rcases A6D j listed.size with h'|h'
     ·exact h'
     ·rw[c1.1] at h'
      simp[A6J h'] at hj
    have:=A6G.1 hall j (by simpa using hlt)
    simpa[hj,hl] using this
   ·have he:ready ops listed=[i]:=by simpa using hcase
    refine⟨fun h'=>(by rw[h'] at hr;cases hr),fun j hj=>?_⟩
    rw[he] at hj
    have:j=i:=by simpa using hj
    subst this
    exact dK hX (fun s' h'=>⟨nV h'.1,hrest s' h'.2⟩) h
end GP
namespace GP
open Go
variable {P:Program} {imp:Hn}
def x8:Op->Bool
 | .alloc _| .box _ _=>true
 | _=>false
def KL(ops:Array Oper)(i:Nat):Nat:=((A6P i).filter fun k=>match ops[k]? with|some o=>x8 o.op|none=>false).length
def Vl:O->Bool
 | .store _ _ _| .call _ _| .appm _ _ _ _ _ _| .bslm _ _ _| .copy _ _ _| .clr _ _| .mkm _ _ _ _ _ _| .appz _ _ _ _ _ _| .mkmap| .mput _ _ _ _| .ment _ _ _ _| .mst _ _ _=>true
 | _=>false
def U6(ops:Array Oper)(xs:List I)(i:Nat):Option Nat :=
 match ops[i]? with
 | some o =>
  match o.op with
  | .alloc _=>match o.dst,o.guard with
   | some d,none=>match (A6P ops.size).filter (fun k=>(xs.getD k default).looks.contains d) with
    | [k]=>match xs.getD k default with
     | ⟨_,none,.store _ (.t d') v⟩=>if d'==d&&(match v with| .t e=>e !=d| .k _=>true) then some i else none
     | _=>none
    | _=>none
   | _,_=>none
  | .store _ (.tmp d) _=>(A6P ops.size).find? (fun k=>match ops[k]? with
   | some a=>(match a.op with| .alloc _=>true|_=>false)&&a.dst==some d
   | none=>false)
  | _=>none
 | none=>none
def W6(imp:Hn)(ops:Array Oper)(fl:Nat->Option Nat)(na i:Nat):Pl:=⟨na - KL ops i,(fl i).map fun k=>na - KL ops k,imp.lit⟩
def R4(P:Program)(imp:Hn)(ops:Array Oper)(fl:Nat->Option Nat)(n na:Nat):List Nat->Option (List I)
 | []=>some []
 | i::is=>match ops[i]? with
  | some o=>match cI P imp true (W6 imp ops fl na i) ops n o,R4 P imp ops fl n na is with
   | some x,some xs=>some (x::xs)
   | _,_=>none
  | none=>none
theorem nM{ops:Array Oper}{fl:Nat->Option Nat}{n na:Nat}:∀{is:List Nat} {xs:List I},R4 P imp ops fl n na is=some xs->∀(k i:Nat),is[k]? =some i->∃o x,ops[i]? =some o/\xs[k]? =some x/\cI P imp true (W6 imp ops fl na i) ops n o=some x
 | [],xs,h,k,i,hk=>by simp at hk
 | j::is,xs,h,k,i,hk=>by
  simp only[R4] at h
  split at h
  ·rename_i o ho
   split at h
   ·rename_i x xs' h1 h2
    injection h with h;subst h
    cases k with
    | zero=>simp at hk;subst hk;exact⟨o,x,ho,rfl,h1⟩
    | succ k=>exact nM h2 k i (by simpa using hk)
   ·cases h
  ·cases h
def lP(ops:Array Oper)(sl:Nat->I):Nat->Array Bool->List Nat
 | 0,_=>[]
 | f+1,listed =>
  let r:=ready ops listed
  match r.find? (fun i=>dM (sl i).o) with
  | some i=>i::lP ops sl f (listed.setIfInBounds i true)
  | none=>match r.find? (fun i=>(JM (sl i)).isSome) with
   | some i=>i::lP ops sl f (listed.setIfInBounds i true)
   | none=>match r with
    | i::_=>i::lP ops sl f (listed.setIfInBounds i true)
    | []=>[]
def A3K(ops:Array Oper)(bef:Array Nat)(sl:Nat->I)(i:Nat):List Nat :=
 if Vl (sl i).o then(A6P ops.size).filter fun k=>k !=i&&dM (sl k).o&&yE (sl k).o&& !(bef.getD i 0).testBit k&& !(bef.getD k 0).testBit i else []
def K9(P:Program)(imp:Hn)(n:Nat)(ops:Array Oper)(fl:Nat->Option Nat):Option (Nat×List (I×List I)) :=
 let na:=KL ops ops.size
 match R4 P imp ops fl n na (A6P ops.size) with
 | none=>none
 | some xs =>
  let sl:=fun i=>xs.getD i default
  let bef:=Region.before ops
  let st:=A3K ops bef sl
  let ord:=lP ops sl ops.size (A60 ops.size false)
  if chk ops sl st ord (A60 ops.size false)&&(ord.length==ops.size)&&P.follows .mixedOrders then some (na,ord.map fun i=>(sl i,(st i).map sl)) else none
def A1a(ops:Array Oper)(xs:List I):List (Option Nat) :=
 let fs:=(A6P ops.size).map (U6 ops xs)
 (A6P ops.size).map fun i=>match fs.getD i none with
  | some k=>match fs.getD k none with
   | some _=>some k
   | none=>none
  | none=>none
def R9(P:Program)(imp:Hn)(n:Nat)(ops:Array Oper):Option (Nat×List (I×List I)) :=
 match R4 P imp ops (fun _=>none) n (KL ops ops.size) (A6P ops.size) with
 | none=>none
 | some xs =>
  let fl:=A1a ops xs
  if fl.any A7l then match K9 P imp n ops (fun i=>fl.getD i none) with
   | some r=>some r
   | none=>K9 P imp n ops (fun _=>none)
  else K9 P imp n ops (fun _=>none)
theorem jW[HasG P]{ops:Array Oper}{fl:Nat->Option Nat}{n na:Nat}{sl:Nat->I}{st:Nat->List Nat}(hsl:∀i o,ops[i]? =some o->cI P imp true (W6 imp ops fl na i) ops n o=some (sl i)){R:S->Prop}{c0:Cx}{w0:World}{Q:Exit->Act->World->Prop}
  (hG:HasG.G P c0 w0) (hR:∀a' w',Nx n c0 w0 R a' w'->Q .normal a' w'):∀(fuel:Nat) (listed:Array Bool) (c:Cx) (s:S) (a:Act) (w:World),LG (Snd P) ops sl st R fuel listed s->Sim c s a w->c0.le c->Below c0.bb w0 w->a.tmps.size=n->a.defers=[] →
  wpAny P .any ops Q fuel listed a w
 | 0,listed,c,s,a,w,h,hs,hle,hb,hn,hd=>⟨h.1,hR _ _ ⟨s,c,h.2,hs,hle,hb,hn,hd⟩⟩
 | fuel+1,listed,c,s,a,w,h,hs,hle,hb,hn,hd=>by
  refine⟨fun h0=>hR _ _ ⟨s,c,h.1 h0,hs,hle,hb,hn,hd⟩,fun i hi=>?_⟩
  have hW:=h.2 i hi
  obtain⟨_,o,ho,_⟩:=mem_ready.1 hi
  refine fZ (X:=Snd P) (fun _ _ _ _ _ h=>h) ho (hsl i o ho) hG hs hle hb hn hd hW ?_
  rintro a' w' ⟨s',c',k1,k2,k3,k4,k5,k6⟩
  exact jW hsl hG hR fuel _ c' s' a' w' k1.2 k2 k3 k4 k5 k6
theorem Inv.holes{c:Cx}{w:World}{H:Hp}(k:Inv c w H)(na:Nat):Inv c w (H++A6I na .hole):=by
 have key:∀(o:Nat) x,(H++A6I na Ob.hole)[o]? =some x->H[o]? =some x∨x= .hole:=by
  intro o x h
  rcases A6D o H.length with h'|h'
  ·rw[A6E h'] at h;exact .inl h
  ·rw[List.getElem?_append_right h'] at h
   exact .inr (List.eq_of_mem_replicate (A6X h))
 refine⟨k.keep,k.low,?_,?_,?_,?_,?_,?_,k.tok,?_,k.toks⟩
 ·intro o x cs h hx
  rcases key o _ h with h|h
  ·exact k.row o x cs h hx
  ·subst h;cases hx
 ·intro o h
  refine k.free o ?_
  rcases h with h|h
  ·exact .inl (by simp at h;omega)
  ·rcases A6D o H.length with h'|h'
   ·rw[A6E h'] at h;exact .inr h
   ·exact .inl h'
 ·intro o x h hx
  rcases key o _ h with h|h
  ·exact k.own o x h hx
  ·subst h;cases hx
 ·intro o o' x x' h h' hx hx' he
  rcases key o _ h with h|h
  ·rcases key o' _ h' with h'|h'
   ·exact k.apart o o' x x' h h' hx hx' he
   ·subst h';cases hx'
  ·subst h;cases hx
 ·intro o es clk h
  rcases key o _ h with h|h
  ·exact k.map o es clk h
  ·cases h
 ·intro o m l h
  rcases key o _ h with h|h
  ·exact k.iter o m l h
  ·cases h
 ·intro τ n z o x hτ h hx
  rcases key o _ h with h|h
  ·exact k.tokrow τ n z o x hτ h hx
  ·subst h;cases hx
theorem cZ[HasG P]{id n:Nat}{ops:Array Oper}{fl:Nat->Option Nat}{na:Nat}{js:List (I×List I)}(h:K9 P imp n ops fl=some (na,js)){R:S->Prop}{c0 c:Cx}{w0 w:World}{s:S}{a:Act}{Q:Exit->Act->World->Prop}
  (hG:HasG.G P c0 w0) (hR:∀a' w',Nx n c0 w0 R a' w'->Q .normal a' w') (hW:Wd (Snd P) js R ⟨s.t,s.H++A6I na .hole,s.T⟩) (hs:Sim c s a w) (hle:c0.le c) (hb:Below c0.bb w0 w) (hn:a.tmps.size=n) (hd:a.defers=[]) :
  (Code.region id ops true).wp P Q a w:=by
 unfold K9 at h
 simp only at h
 split at h
 ·cases h
 ·rename_i xs hxs
  split at h
  ·rename_i hc
   simp only[A6A,beq_iff_eq] at hc
   obtain⟨⟨h1,h2⟩,h3⟩:=hc
   injection h with h;injection h with e1 e2
   subst e1;subst e2
   refine wp_region_any h3 ?_
   have:=jU (X:=Snd P) (R:=R) Snd.mono _ _ _ h1 hW
   rw[h2] at this
   refine jW (P:=P) (imp:=imp) (fl:=fl) (na:=KL ops ops.size) ?_ hG hR _ _ c _ a _ this ⟨hs.T,Inv.congr (w:=w) (w':={ w with drawn:=w.drawn+1 }) rfl (hs.inv.holes _),hs.fr⟩ hle (hb.trans (Below.refl _ _).drew) hn hd
   intro i o ho
   have hlt:i<ops.size:=by
    rcases A6D i ops.size with h'|h'
    ·exact h'
    ·simp[A6J h'] at ho
   obtain⟨o',x,g1,g2,g3⟩:=nM hxs i i (by simp[hlt])
   rw[ho] at g1;injection g1 with g1;subst g1
   rw[g3]
   simp[List.getD,g2]
  ·cases h
theorem nU[HasG P]{id n:Nat}{ops:Array Oper}{na:Nat}{js:List (I×List I)}(h:R9 P imp n ops=some (na,js)){R:S->Prop}{c0 c:Cx}{w0 w:World}{s:S}{a:Act}{Q:Exit->Act->World->Prop}
  (hG:HasG.G P c0 w0) (hR:∀a' w',Nx n c0 w0 R a' w'->Q .normal a' w') (hW:Wd (Snd P) js R ⟨s.t,s.H++A6I na .hole,s.T⟩) (hs:Sim c s a w) (hle:c0.le c) (hb:Below c0.bb w0 w) (hn:a.tmps.size=n) (hd:a.defers=[]) :
  (Code.region id ops true).wp P Q a w:=by
 unfold R9 at h
 split at h
 ·cases h
 ·rename_i xs hxs
  simp only at h
  split at h
  ·split at h
   ·rename_i r hr
    injection h with h;subst h
    exact cZ hr hG hR hW hs hle hb hn hd
   ·exact cZ h hG hR hW hs hle hb hn hd
  ·exact cZ h hG hR hW hs hle hb hn hd
def cIs(P:Program)(imp:Hn)(ops:Array Oper)(n:Nat):List Nat->Option (List I)
 | []=>some []
 | i::is=>match ops[i]? with
  | some o=>match cI P imp false ⟨0,none,false⟩ ops n o,cIs P imp ops n is with
   | some x,some xs=>some (x::xs)
   | _,_=>none
  | none=>none
def DN(P:Program)(imp:Hn)(n:Nat):Code->Option C
 | .skip=>some .skip
 | .region _ ops dr=>if dr then match R9 P imp n ops with
   | some (na,js)=>some (.draw na js)
   | none=>some .stop
  else match cIs P imp ops n (A6P ops.size) with
   | some is=>some (.reg is)
   | none=>some .stop
 | .seq a b=>match DN P imp n a,DN P imp n b with
  | some x,some y=>some (.seq x y)
  | _,_=>none
 | .cond c a b=>match cRd c,DN P imp n a,DN P imp n b with
  | some r,some x,some y=>some (.cond r x y)
  | _,_,_=>some .stop
 | .block i c=>match DN P imp n c with
  | some x=>some (.block i x)
  | none=>none
 | .loop c=>match DN P imp n c with
  | some x=>some (.loop x)
  | none=>none
 | .exit i=>some (.exit i)
 | .ret=>some .ret
 | _=>some .stop
theorem jS[HasG P]{ops:Array Oper}{n:Nat}{R:S->Prop}{c0:Cx}{w0:World}{Q:Exit->Act->World->Prop}(hG:HasG.G P c0 w0)(hR:∀a' w',Nx n c0 w0 R a' w'->Q .normal a' w'):∀(l:List Nat) (is:List I),cIs P imp ops n l=some is →
  ∀(c:Cx) (s:S) (a:Act) (w:World),Wr (Snd P) is R s->Sim c s a w->c0.le c->Below c0.bb w0 w->a.tmps.size=n->a.defers=[]->wpOps P ops Q l a w
 | [],is,h,c,s,a,w,hW,hs,hle,hb,hn,hd=>by
  simp[cIs] at h;subst h
  exact hR _ _ ⟨s,c,hW,hs,hle,hb,hn,hd⟩
 | i::l,is,h,c,s,a,w,hW,hs,hle,hb,hn,hd=>by
  simp only[cIs] at h
  split at h
  ·rename_i o ho
   split at h
   ·rename_i x xs h1 h2
    injection h with h;subst h
    rw[wpOps_cons]
    refine fZ (X:=Snd P) (fun _ _ _ _ _ h=>h) ho h1 hG hs hle hb hn hd hW ?_
    rintro a' w' ⟨s',c',k1,k2,k3,k4,k5,k6⟩
    exact jS hG hR l xs h2 c' s' a' w' k1 k2 k3 k4 k5 k6
   ·cases h
  ·cases h
def exQ(Q:Ex->S->Prop):Exit->S->Prop
 | .normal,s=>Q .normal s
 | .exit i,s=>Q (.exit i) s
 | .ret,s=>Q .ret s
 | _,_=>False
def QC(n:Nat)(c0:Cx)(w0:World)(Q:Ex->S->Prop)(e:Exit)(a':Act)(w':World):Prop:=Nx n c0 w0 (exQ Q e) a' w'
theorem xG[HasG P]{n:Nat}:∀(code:Code) (cc:C),DN P imp n code=some cc->∀(c0:Cx) (w0:World) (_:HasG.G P c0 w0) (c:Cx) (s:S) (a:Act) (w:World) (Q:Ex->S->Prop),W (Snd P) cc Q s->Sim c s a w->c0.le c->Below c0.bb w0 w->a.tmps.size=n->a.defers=[] →
  code.wp P (QC n c0 w0 Q) a w:=by
 intro code
 induction code with
 | skip =>
  intro cc h c0 w0 hG c s a w Q hW hs hle hb hn hd
  simp[DN] at h;subst h
  exact wp_skip ⟨s,c,hW,hs,hle,hb,hn,hd⟩
 | region id ops dr =>
  intro cc h c0 w0 hG c s a w Q hW hs hle hb hn hd
  simp only[DN] at h
  cases dr with
  | true =>
   simp only[if_true] at h
   split at h
   ·rename_i na js hdr
    injection h with h;subst h
    exact nU (P:=P) (imp:=imp) hdr (R:=Q .normal) hG (fun a' w' h=>h) (by simpa only[W] using hW) hs hle hb hn hd
   ·injection h with h;subst h
    exact(show False by simpa only[W] using hW).elim
  | false =>
   simp only[A62,if_false] at h
   split at h
   ·rename_i is his
    injection h with h;subst h
    exact wp_region (jS (P:=P) (imp:=imp) (R:=Q .normal) hG (fun a' w' h=>h) _ is his c s a w (by simpa only[W] using hW) hs hle hb hn hd)
   ·injection h with h;subst h
    exact(show False by simpa only[W] using hW).elim
 | seq x y ihx ihy =>
  intro cc h c0 w0 hG c s a w Q hW hs hle hb hn hd
  simp only[DN] at h
  split at h
  ·rename_i cx cy hx hy
   injection h with h;subst h
   simp only[W] at hW
   refine wp_seq (wp_mono (ihx cx hx c0 w0 hG c s a w _ hW hs hle hb hn hd) ?_)
   rintro e a' w' ⟨s',c',k1,k2,k3,k4,k5,k6⟩
   cases e with
   | normal=>exact ihy cy hy c0 w0 hG c' s' a' w' Q k1 k2 k3 k4 k5 k6
   | exit i=>exact⟨s',c',k1,k2,k3,k4,k5,k6⟩
   | ret=>exact⟨s',c',k1,k2,k3,k4,k5,k6⟩
   | goto l=>exact k1.elim
   | panic ch=>exact k1.elim
   | outgrown=>exact k1.elim
  ·cases h
 | cond x y z ihy ihz =>
  intro cc h c0 w0 hG c s a w Q hW hs hle hb hn hd
  simp only[DN] at h
  split at h
  ·rename_i r cy cz hr hy hz
   injection h with h;subst h
   simp only[W] at hW
   split at hW
   ·rename_i t ht
    have hrep:=Aa hr hs.fr
    rw[ht] at hrep
    have hv:a.eval x= .bool t:=by
     generalize a.eval x=v at hrep
     cases hrep;rfl
    refine wp_cond hv ?_
    cases t
    ·exact ihz cz hz c0 w0 hG c s a w Q hW hs hle hb hn hd
    ·exact ihy cy hy c0 w0 hG c s a w Q hW hs hle hb hn hd
   ·exact hW.elim
  ·injection h with h;subst h
   exact(show False by simpa only[W] using hW).elim
 | block i x ih =>
  intro cc h c0 w0 hG c s a w Q hW hs hle hb hn hd
  simp only[DN] at h
  split at h
  ·rename_i cx hx
   injection h with h;subst h
   simp only[W] at hW
   refine wp_block (wp_mono (ih cx hx c0 w0 hG c s a w _ hW hs hle hb hn hd) ?_)
   rintro e a' w' ⟨s',c',k1,k2,k3,k4,k5,k6⟩
   cases e with
   | normal=>exact⟨s',c',k1,k2,k3,k4,k5,k6⟩
   | exit j =>
    simp only[exQ,Oa] at k1
    simp only[Exit.inBlock]
    split
    ·rename_i e;rw[if_pos e] at k1;exact⟨s',c',k1,k2,k3,k4,k5,k6⟩
    ·rename_i e;rw[if_neg e] at k1;exact⟨s',c',k1,k2,k3,k4,k5,k6⟩
   | ret=>exact⟨s',c',k1,k2,k3,k4,k5,k6⟩
   | goto l=>exact k1.elim
   | panic ch=>exact k1.elim
   | outgrown=>exact k1.elim
  ·cases h
 | loop x ih =>
  intro cc h c0 w0 hG c s a w Q hW hs hle hb hn hd
  simp only[DN] at h
  split at h
  ·rename_i cx hx
   injection h with h;subst h
   simp only[W] at hW
   obtain⟨Iv,μ,h0,hround⟩:=hW
   refine wp_loop_ghost (fun k a' w'=>Nx n c0 w0 (fun s'=>Iv s'/\μ s'=k) a' w') (μ s) ⟨s,c,⟨h0,rfl⟩,hs,hle,hb,hn,hd⟩ ?_
   rintro k a1 w1 ⟨s1,c1,⟨g1,g2⟩,g3,g4,g5,g6,g7⟩
   refine wp_mono (ih cx hx c0 w0 hG c1 s1 a1 w1 _ (hround s1 g1) g3 g4 g5 g6 g7) ?_
   rintro e a' w' ⟨s',c',k1,k2,k3,k4,k5,k6⟩
   cases e with
   | normal=>exact⟨μ s',by rw[<- g2];exact k1.2,s',c',⟨k1.1,rfl⟩,k2,k3,k4,k5,k6⟩
   | exit j=>exact⟨s',c',k1,k2,k3,k4,k5,k6⟩
   | ret=>exact⟨s',c',k1,k2,k3,k4,k5,k6⟩
   | goto l=>exact k1.elim
   | panic ch=>exact k1.elim
   | outgrown=>exact k1.elim
  ·cases h
 | exit i =>
  intro cc h c0 w0 hG c s a w Q hW hs hle hb hn hd
  simp[DN] at h;subst h
  exact wp_exit ⟨s,c,hW,hs,hle,hb,hn,hd⟩
 | ret =>
  intro cc h c0 w0 hG c s a w Q hW hs hle hb hn hd
  simp[DN] at h;subst h
  exact wp_ret ⟨s,c,hW,hs,hle,hb,hn,hd⟩
 | _ =>
  intro cc h c0 w0 hG c s a w Q hW
  simp[DN] at h;subst h
  exact(show False by simpa only[W] using hW).elim
def Fi:List (Sum Nat (Nat×Bool×Nat))->S->Option (List D)
 | [],_=>some []
 | .inl t::l,s=>match Fi l s with
  | some ds=>some (s.t t::ds)
  | none=>none
 | .inr (x,ag,n)::l,s=>match ld ag n (Bx s.H (s.t x)),Fi l s with
  | some d,some ds=>some (d::ds)
  | _,_=>none
def Mr(P:Program):List ResultVar->Option (List (Sum Nat (Nat×Bool×Nat)))
 | []=>some []
 | .tmp t::l=>match Mr P l with
  | some rs=>some (.inl t::rs)
  | none=>none
 | .cell x t::l=>match tag P t,tsz P t,Mr P l with
  | some ag,some n,some rs=>some (.inr (x,ag,n)::rs)
  | _,_,_=>none
def Oi:List D->D
 | [d]=>d
 | ds=>.tup ds
def OY(rs:List (Sum Nat (Nat×Bool×Nat)))(Q:Bg)(s:S):Prop :=
 match Fi rs s with
 | some ds=>Q (Oi ds) s.H s.T
 | none=>False
def Ds(rs:List (Sum Nat (Nat×Bool×Nat)))(Q:Bg):Ex->S->Prop
 | .normal,s| .ret,s=>OY rs Q s
 | _,_=>False
def Ae(args:List D):Nat->D:=fun i=>(args[i]?).getD .top
structure Fn(P:Program)(f:FuncId)(n:Nat)(rs:List (Sum Nat (Nat×Bool×Nat)))(cc:C):Prop where
 ok : ∃ fn code, P.funcs[f]? = some fn /\ fn.body = some code /\ (fn.name == "runtime.NumGoroutine") = false /\ fn.ntmps = n /\ Mr P fn.results.toList = some rs /\ ∃ imp, DN P imp n code = some cc
theorem fS{c:Cx}{s:S}{a:Act}{w:World}(hs:Sim c s a w):∀{l:List ResultVar} {rs:List (Sum Nat (Nat×Bool×Nat))} {ds:List D},Mr P l=some rs->Fi rs s=some ds →
  ∃vs,(l.mapM (fun r=>match r with| .tmp t=>pure (a.tmps.getD t undef)| .cell x t=>do loadVar t (← asAddr (a.tmps.getD x undef)):ResultVar->Sem Value)).run P w= .ok vs w/\Reps c ds vs
 | [],rs,ds,h1,h2=>by
  simp[Mr] at h1;subst h1
  simp[Fi] at h2;subst h2
  exact⟨[],by simp,Reps.nil⟩
 | .tmp t::l,rs,ds,h1,h2=>by
  simp only[Mr] at h1
  split at h1
  ·rename_i rs' h3
   injection h1 with h1;subst h1
   simp only[Fi] at h2
   split at h2
   ·rename_i ds' h4
    injection h2 with h2;subst h2
    obtain⟨vs,e1,e2⟩:=fS hs h3 h4
    refine⟨a.tmps.getD t undef::vs,?_,?_⟩
    ·simp only[A7i,A6H,A6S,A6B,e1]
    ·refine⟨by simp[e2.len],fun i h h'=>?_⟩
     cases i with
     | zero=>exact hs.fr t
     | succ i=>exact e2.rep i (by simpa using h) (by simpa using h')
   ·cases h2
  ·cases h1
 | .cell x t::l,rs,ds,h1,h2=>by
  simp only[Mr] at h1
  split at h1
  ·rename_i ag n rs' h5 h6 h3
   injection h1 with h1;subst h1
   simp only[Fi] at h2
   split at h2
   ·rename_i d ds' h7 h4
    injection h2 with h2;subst h2
    obtain⟨vs,e1,e2⟩:=fS hs h3 h4
    obtain⟨u,e3,e4⟩:=L3 (P:=P) hs.inv (hs.fr x) h5 h6 h7
    have hp:∃p,a.tmps.getD x undef= .pointer (some p):=by
     cases hrd:Bx s.H (s.t x) with
     | none=>rw[hrd] at h7;cases h7
     | some cs =>
      obtain⟨p,_,hp,_⟩:=lE hs.inv (hs.fr x) hrd
      exact⟨p,hp⟩
    obtain⟨p,hp⟩:=hp
    have hq:(asAddr (a.tmps.getD x undef)).run P w= .ok p w:=by rw[hp];rfl
    rw[hp] at e3
    have e3':(loadVar t p).run P w= .ok u w:=by simpa[Instr.loadAt,Instr.sureAddr] using e3
    refine⟨u::vs,?_,?_⟩
    ·simp only[A7i,A6H,hq,A6S,A6B,e3',e1]
    ·refine⟨by simp[e2.len],fun i h h'=>?_⟩
     cases i with
     | zero=>exact e4
     | succ i=>exact e2.rep i (by simpa using h) (by simpa using h')
   ·cases h2
  ·cases h1
theorem rD[HasG P]{f:FuncId}{n:Nat}{rs:List (Sum Nat (Nat×Bool×Nat))}{cc:C}(hf:Fn P f n rs cc){args:List D}(hlen:args.length<=n){H:Hp}{T:Tk}{Q:Bg}(hW:W (Snd P) cc (Ds rs Q) ⟨Ae args,H,T⟩):
  ∀(c:Cx) (w:World) (vs:List Value),HasG.G P c w->Inv c w H->c.T=T->Reps c args vs->(callFunc f vs.toArray).run P w= .ok (.enter f vs.toArray) w/\Calls P f vs.toArray w (iX c w Q):=by
 obtain⟨fn,code,h1,h2,h3,h4,h5,imp,h6⟩:=hf.ok
 intro c w vs hg hi hT hr
 refine⟨?_,?_⟩
 ·have h3' : ¬ fn.name = "runtime.NumGoroutine" := by simpa using h3
  simp[callFunc,h1,h2,h3']
 ·refine calls_of_wp h1 h2 ?_
  have hvl:vs.length<=n:=by rw[hr.len];exact hlen
  have hsz:(vs.toArray++A60 (fn.ntmps - vs.toArray.size) undef).size=n:=by simp[h4];omega
  have hs:Sim c ⟨Ae args,H,T⟩ { tmps:=vs.toArray++A60 (fn.ntmps - vs.toArray.size) undef,defers:=[] } w:=by
   refine⟨hT,hi,fun i=>?_⟩
   simp only[Ae]
   rcases A6D i args.length with h'|h'
   ·have h'':i<vs.length:=by rw[hr.len];exact h'
    have:=hr.rep i h' h''
    simp only[A6Y h',A7b]
    rw[A6W,Array.getElem?_append_left (by simpa using h'')]
    simpa[h''] using this
   ·rw[A6C h']
    exact .top _
  refine wp_mono (xG (P:=P) (imp:=imp) code cc (by rw[h4] at *;exact h6) c w hg c _ _ w _ hW hs (Cx.le.refl c) (Below.refl _ _) hsz rfl) ?_
  rintro e a' w' ⟨s',c',k1,k2,k3,k4,k5,k6⟩
  have fin:OY rs Q s'->∃v,(results fn a'.tmps).run P w'= .ok v w'/\iX c w Q (.returned v) w':=by
   intro hret
   unfold OY at hret
   split at hret
   ·rename_i ds hds
    obtain⟨us,e1,e2⟩:=fS (P:=P) k2 h5 hds
    have hm:(fn.results.mapM (fun r=>match r with| .tmp t=>pure (a'.tmps.getD t undef)| .cell x t=>do loadVar t (← asAddr (a'.tmps.getD x undef)):ResultVar->Sem Value)).run P w'= .ok us.toArray w':=by
     rw[A68,A7u,e1];rfl
    refine⟨if h:us.toArray.size=1 then us.toArray[0] else .tuple us.toArray,?_,_,rfl,_,s'.H,s'.T,c',hret,?_,k2.inv,k3,k2.T,k4⟩
    ·unfold results
     simp only[A6H,A6S]
     exact(congrArg (fun r=>Result.andThen r _) hm)
    ·have hl:=e2.len
     match ds,us,hl with
     | [d],[u],_ =>
      have:=e2.rep 0 (by simp) (by simp)
      simpa[Oi] using this
     | [],[],_=>exact Rep.tup [] [] rfl e2.rep
     | d::d'::ds,u::u'::us,hl =>
      have hne: ¬((u::u'::us).toArray.size=1):=by simp
      rw[dif_neg hne]
      exact Rep.tup _ _ hl e2.rep
   ·exact hret.elim
  cases e with
  | normal=>exact⟨k6,fin k1⟩
  | ret=>exact⟨k6,fin k1⟩
  | exit i=>exact k1.elim
  | goto l=>exact k1.elim
  | panic ch=>exact k1.elim
  | outgrown=>exact k1.elim
theorem Ed[HasG P]{f:FuncId}{n:Nat}{rs:List (Sum Nat (Nat×Bool×Nat))}{cc:C}(hf:Fn P f n rs cc){args:List D}(hlen:args.length<=n){H:Hp}{T:Tk}{Q:Bg}(hW:W (Snd P) cc (Ds rs Q) ⟨Ae args,H,T⟩):Snd P f args H T Q :=
 fun c w vs hg h1 h2 h3=>.inl (rD hf hlen hW c w vs hg h1 h2 h3)
end GP
namespace GP
open Go
def Cx0(w:World):Cx:={ M:=w.cell?,β:=fun _=>0,κ:=fun _=>(⟨0,0,none⟩,0),bd:=fun _=>false,T:=[],bb:=(false,w.heap.size),sz:=fun _=>0 }
theorem A3M(w:World):Inv (Cx0 w) w [] :=
 ⟨fun _ _ h=>h,A6U _,fun o x cs h=>by simp at h,fun _ _=>rfl,fun o x h=>by simp at h,fun o o' x x' h=>by simp at h,fun o es clk h=>by simp at h,fun o m l h=>by simp at h,fun τ n z h=>by simp[Cx0] at h,fun τ n z o x h=>by simp[Cx0] at h,fun τ n z τ' n' z' h=>by simp[Cx0] at h⟩
section
variable {P:Program} {w:World}
def Rds(P:Program)(w:World)(t:TypeId)(φ:List D->Prop)(fuel:Nat):Prop :=
 ∀(H:Type) (enc:TypeId×Value->H) (cs:List Value) (d:DataW H) (ps:List MemPlace),DataW.trod enc P w 0 (fun _=>true) true fuel t cs=some (d,ps)->(∀n∈d.weights P t,n<=reachBytes)->∃ds,Cells (Cx0 w) ds cs/\φ ds
theorem Rds.imp{t:TypeId}{φ ψ:List D->Prop}{fuel:Nat}(h:Rds P w t φ fuel)(k:∀ds,φ ds->ψ ds):Rds P w t ψ fuel:=fun H enc cs d ps h1 h2=>by
 obtain⟨ds,h3,h4⟩:=h H enc cs d ps h1 h2
 exact⟨ds,h3,k ds h4⟩
theorem Cells.one'{c:Cx}{d:D}{v:Value}(h:Rep c d v)(h1:d.one=true):Cells c [d] [v] :=
 ⟨rfl,by simpa using h1,fun i hi hi'=>by
  have:i=0:=by simp at hi;omega
  subst this;simpa using h⟩
theorem MB{t:TypeId}{k:IntKind}(ht:P.underlying t=some (.int k))(fuel:Nat):Rds P w t (fun ds=>∃n,ds=[.int k n]/\k.min<=n/\n<=k.max) fuel:=by
 intro H enc cs d ps h hz
 obtain⟨n,rfl,hx,hw⟩:=DataW.trod_int ht h
 simp only[Lit.wf,A6A,decide_eq_true_eq] at hw
 exact⟨_,Cells.one' (.int k n) rfl,n,rfl,hw⟩
theorem GF{t:TypeId}(ht:P.underlying t=some .bool)(fuel:Nat):Rds P w t (fun ds=>∃b,ds=[.bool b]) fuel:=by
 intro H enc cs d ps h hz
 obtain⟨n,rfl,hx⟩:=DataW.trod_bool ht h
 exact⟨_,Cells.one' (.bool n) rfl,n,rfl⟩
theorem Bb{t:TypeId}(ht:P.underlying t=some .string)(fuel:Nat):Rds P w t (fun ds=>∃l,ds=[.str l]/\l.length<=2^47) fuel:=by
 intro H enc cs d ps h hz
 obtain⟨s,rfl,hx,hs⟩:=DataW.trod_string ht h
 injection hx with h1 h2
 subst h1
 have hl:s.data.toList.length<=reachBytes:=hz _ (by simp[DataW.weights])
 have h47:=reachBytes_lt
 refine⟨[.str s.data.toList],Cells.one' ?_ rfl,_,rfl,by omega⟩
 have:=Rep.str (c:=Cx0 w) s.data.toList (by omega)
 simpa using this
theorem GK{H:Type}{e:TypeId}:∀{l:List (DataW H)} {d:DataW H},d∈l->∀n∈d.weights P e,n∈DataW.weightsAll P e l
 | [],d,h,_,_=>by simp at h
 | x::l,d,h,n,hn=>by
  simp only[DataW.weightsAll,A6L]
  rcases A66.1 h with rfl|h
  ·exact .inl hn
  ·exact .inr (GK h n hn)
theorem FK{base:Nat}{a:Addr}{n:Nat}{cs:List Value}(h:w.cells? base a n=some cs):cs.length=n/\∀i,i<n->∃v,cs[i]? =some v/\w.cell? (a.add i)=some v:=by
 unfold World.cells? at h
 split at h
 ·have hl:=mapM_some_length h
  refine⟨by simpa using hl,fun i hi=>?_⟩
  have:=mapM_some_get h i i (by simp[hi])
  have hlt:i<cs.length:=by rw[show cs.length=n by simpa using hl];exact hi
  rw[A6Y hlt] at this ⊢
  exact⟨_,rfl,this⟩
 ·cases h
theorem LW{a:Addr}{v:Value}(h:w.cell? a=some v):a.spot=none:=by
 simp only[A7r] at h
 split at h
 ·split at h
  ·cases h
  ·rename_i hs;simpa using hs
 ·cases h
theorem EJ{t e:TypeId}{mk:List D->D}(hmk:∀ds,(mk ds).cells=ds){sz:Nat}(hpos:0<sz)(ht:P.underlying t=some (.slice e))(hc:P.cellsOf e=sz)(hb:1<=P.bytesOf e){φ:List D->Prop}{fuel:Nat}(he:Rds P w e φ fuel):
  Rds P w t (fun ds=>ds=[.nils]∨∃xs:List (List D),ds=[.sl none (xs.map mk)]/\xs.length<=2^47/\∀x∈xs,φ x/\x.length=sz) (fuel+1):=by
 intro H enc cs d ps h hz
 rcases DataW.trod_slice ht h with⟨rfl,hx⟩|⟨a,len,cap,elems,rest,n,hf,rfl,hx,_,hlc,hcm,hel,hget,hrest,_⟩
 ·exact⟨[.nils],Cells.one' .nils rfl,.inl rfl⟩
 ·injection hf with hf;subst hf
  injection hx with h1 h2
  subst h1
  have hw:(elems.map (·.1)).length+(rest.map (·.1)).length<=reachBytes:=by
   have:=hz (((elems.map (·.1)).length+(rest.map (·.1)).length)*P.bytesOf e) (by simp[DataW.weights,ht])
   exact Nat.le_trans (Nat.le_mul_of_pos_right _ hb) this
  have h47:=reachBytes_lt
  simp only[A7d] at hw
  have key:∀i,i<len->∃vs ds,w.cells? 0 (a.add (i*sz)) sz=some vs/\Cells (Cx0 w) ds vs/\φ ds:=by
   intro i hi
   have h1:=hget i hi
   have hlt:i<elems.length:=by omega
   rw[A6Y hlt,Option.bind_eq_some_iff,hc] at h1
   obtain⟨vs,g1,g2⟩:=h1
   have hwt:∀m∈(elems[i].1).weights P e,m<=reachBytes:=by
    intro m hm
    refine hz m ?_
    simp only[DataW.weights,ht,A66,A6L]
    exact .inr (.inl (GK (A6N.2 ⟨elems[i],A6Q hlt,rfl⟩) m hm))
   obtain⟨ds,g3,g4⟩:=he H enc vs elems[i].1 elems[i].2 g2 hwt
   exact⟨vs,ds,g1,g3,g4⟩
  have hvf:∃vf:Nat->List Value,∃df:Nat->List D,∀i,i<len->w.cells? 0 (a.add (i*sz)) sz=some (vf i)/\Cells (Cx0 w) (df i) (vf i)/\φ (df i):=by
   refine⟨fun i=>if h:i<len then(key i h).choose else [],fun i=>if h:i<len then(key i h).choose_spec.choose else [],fun i hi=>?_⟩
   simp only[hi,dif_pos]
   exact(key i hi).choose_spec.choose_spec
  obtain⟨vf,df,hvf⟩:=hvf
  have hlen:∀i,i<len->(df i).length=sz:=fun i hi=>by
   rw[<- (hvf i hi).2.1.len];exact(FK (hvf i hi).1).1
  let xs:=(A6P len).map df
  refine⟨[.sl none (xs.map mk)],?_,.inr ⟨xs,rfl,by simp[xs];omega,?_⟩⟩
  ·refine Cells.one' ?_ rfl
   have hxl:(xs.map mk).length=len:=by simp[xs]
   have hcell:∀i,i<len->∀j,j<sz->∃v,(vf i)[j]? =some v/\w.cell? ⟨a.block,a.off+i*sz+j,none⟩=some v/\a.spot=none:=by
    intro i hi j hj
    obtain⟨v,g1,g2⟩:=(FK (hvf i hi).1).2 j hj
    have hsp:a.spot=none:=by
     have h0:=(FK (hvf i hi).1).2 0 hpos
     obtain⟨v0,_,k2⟩:=h0
     have k3:=LW k2
     obtain⟨v00,_,k4⟩:=(FK (hvf 0 (by omega)).1).2 0 hpos
     have k5:=LW k4
     simpa[Addr.add] using k5
    refine⟨v,g1,?_,hsp⟩
    rw[<- g2]
    congr 1
    unfold Addr.add
    obtain⟨b,o,sp⟩:=a
    simp only at hsp;subst hsp
    by_cases z1:i*sz=0<;>by_cases z2:j=0<;>simp[z1,z2]
   have:=Rep.sl (c:=Cx0 w) none (xs.map mk) (some a) cap sz (fun i j=>((vf i)[j]?).getD undef) (by rw[hxl];omega) (by rw[hxl];omega) ?_ ?_ (fun _=>⟨a,rfl⟩) ?_ ?_ ?_ (fun τ h=>by cases h) (fun τ h=>by cases h)
   ·rw[hxl] at this;exact this
   ·intro x hx
    simp only[xs,A6N,A7j] at hx
    obtain⟨_,⟨i,hi,rfl⟩,rfl⟩:=hx
    rw[hmk];exact hlen i hi
   ·intro x hx y hy
    simp only[xs,A6N,A7j] at hx
    obtain⟨_,⟨i,hi,rfl⟩,rfl⟩:=hx
    rw[hmk] at hy
    exact(hvf i hi).2.1.one y hy
   ·intro hne b hb'
    injection hb' with hb';subst hb'
    have h0:0<len:=by
     rw[<- hxl];exact List.length_pos_iff.2 hne
    obtain⟨_,_,_,h⟩:=hcell 0 h0 0 hpos
    exact h
   ·intro i hi j hj b hb'
    injection hb' with hb';subst hb'
    rw[hxl] at hi
    obtain⟨v,g1,g2,_⟩:=hcell i hi j hj
    simp only[g1,A7b]
    exact g2
   ·intro i hi j hj
    have hi':i<len:=by rw[hxl] at hi;exact hi
    have hce:(xs.map mk)[i].cells=df i:=by simp[xs,hmk]
    have hj':j<(df i).length:=by rw[<- hce];exact hj
    have hv:j<(vf i).length:=by rw[(hvf i hi').2.1.len];exact hj'
    have hr:=(hvf i hi').2.1.rep j hj' hv
    have e1:((xs.map mk)[i].cells)[j]=(df i)[j]:=by congr 1
    rw[e1]
    simpa[hv] using hr
  ·intro x hx
   simp only[xs,A6N,A7j] at hx
   obtain⟨i,hi,rfl⟩:=hx
   exact⟨(hvf i hi).2.2,hlen i hi⟩
def FL(P:Program):Nat->List Field->Prop
 | _,[]=>True
 | off,f::fs=>f.offset=off/\FL P (off+P.cellsOf f.type) fs
def SO:List (List D->Prop)->List D->Prop
 | [],ds=>ds=[]
 | φ::φs,ds=>∃x y,ds=x++y/\φ x/\SO φs y
theorem L1{fuel:Nat}:∀(fs:List Field) (φs:List (List D->Prop)) (off:Nat) (H:Type) (enc:TypeId×Value->H) (cs:List Value) (xs:List (DataW H×List MemPlace)),
  FL P off fs->φs.length=fs.length->(∀(i:Nat) (f:Field) (φ:List D->Prop),fs[i]? =some f->φs[i]? =some φ->Rds P w f.type φ fuel)->xs.length=fs.length->cs.length=(fs.map fun f=>P.cellsOf f.type).sum+off →
  (∀(i:Nat) (f:Field),fs[i]? =some f->DataW.trod enc P w 0 (fun _=>true) true fuel f.type ((cs.drop f.offset).take (P.cellsOf f.type))=xs[i]?) →
  (∀n∈DataW.weightsEach P (fs.map (·.type)) (xs.map (·.1)),n<=reachBytes)->∃ds,Cells (Cx0 w) ds (cs.drop off)/\SO φs ds
 | [],φs,off,H,enc,cs,xs,h1,h2,h3,h4,h5,h6,h7=>by
  have:φs=[]:=by cases φs<;>simp at h2;rfl
  subst this
  refine⟨[],?_,rfl⟩
  have:cs.drop off=[]:=by simp at h5 ⊢;omega
  rw[this];exact⟨rfl,by simp,fun i h=>by simp at h⟩
 | f::fs,[],_,_,_,_,_,_,h2,_,_,_,_,_=>by simp at h2
 | f::fs,φ::φs,off,H,enc,cs,[],_,_,_,h4,_,_,_=>by simp at h4
 | f::fs,φ::φs,off,H,enc,cs,x::xs,h1,h2,h3,h4,h5,h6,h7=>by
  obtain⟨h1a,h1b⟩:=h1
  have h60:=h6 0 f rfl
  simp only[List.getElem?_cons_zero] at h60
  obtain⟨d1,k1,k2⟩:=h3 0 f φ rfl rfl H enc _ x.1 x.2 h60 (fun n hn=>h7 n (by simp[DataW.weightsEach,hn]))
  obtain⟨d2,k3,k4⟩:=L1 fs φs (off+P.cellsOf f.type) H enc cs xs h1b (by simpa using h2) (fun i f' φ' e1 e2=>h3 (i+1) f' φ' (by simpa using e1) (by simpa using e2)) (by simpa using h4)
   (by simp at h5;omega) (fun i f' e=>by simpa using h6 (i+1) f' (by simpa using e)) (fun n hn=>h7 n (by simp[DataW.weightsEach];exact .inr (by simpa using hn)))
  refine⟨d1++d2,?_,d1,d2,rfl,k2,k4⟩
  have:=k1.append k3
  rw[h1a,← List.drop_drop,List.take_append_drop] at this
  exact this
theorem DW{t:TypeId}{fs:List Field}{φs:List (List D->Prop)}{fuel:Nat}(ht:P.underlying t=some (.struct fs.toArray))(hl:φs.length=fs.length)(hoff:FL P 0 fs)(hsum:P.cellsOf t=(fs.map fun f=>P.cellsOf f.type).sum)
  (h:∀(i:Nat) (f:Field) (φ:List D->Prop),fs[i]? =some f->φs[i]? =some φ->Rds P w f.type φ fuel):Rds P w t (SO φs) (fuel+1):=by
 intro H enc cs d ps hd hz
 obtain⟨xs,n,hf,hx,hlen,hxl,hget⟩:=DataW.trod_struct ht hd
 injection hf with hf;subst hf
 injection hx with h1 h2
 subst h1
 obtain⟨ds,k1,k2⟩:=L1 (P:=P) (w:=w) (fuel:=fuel) fs φs 0 H enc cs xs hoff hl h (by simpa using hxl) (by rw[hlen,hsum];rfl) (fun i f e=>hget i f (by simpa using e)) (fun n hn=>hz n (by simp[DataW.weights,ht];exact hn))
 exact⟨ds,by simpa using k1,k2⟩
end
end GP
namespace GP
open Go
open Go.ChangeShapes Go.WideShapes Go.ChangeAt Go.RowKit
section
variable {P:Program} {w:World}
def Arg(P:Program)(w:World)(t:TypeId)(Φ:D->Prop):Prop :=
 ∀(H:Type) (enc:TypeId×Value->H) (v:Value) (d:DataW H) (ps:List MemPlace) (base:Nat),DataW.Trod enc P w 0 (fun _=>true) true t v d ps->(∀n∈d.weights P t,n<=reachBytes)->Value.okWide P w .any base t v->∃x,Rep (Cx0 w) x v/\Φ x
theorem OK{t:TypeId}{fs:Array Field}{φ:List D->Prop}(ht:P.underlying t=some (.struct fs))(h:∀fuel,Rds P w t φ fuel):Arg P w t (fun x=>∃ds,x= .agg ds/\φ ds):=by
 intro H enc v d ps base hd hz hok
 simp only[Value.okWide,ht] at hok
 obtain⟨cs,rfl,_,_⟩:=hok
 obtain⟨fuel,hf⟩:=hd
 obtain⟨ds,k1,k2⟩:=h fuel H enc _ d ps hf hz
 refine⟨.agg ds,?_,ds,rfl,k2⟩
 have:=Rep.agg (c:=Cx0 w) ds cs.toList k1.len k1.one k1.rep
 simpa using this
def PW:TypeDesc->Bool
 | .int _| .bool| .string| .slice _| .pointer _=>true
 | _=>false
theorem U5{t:TypeId}{u:TypeDesc}{φ:List D->Prop}(ht:P.underlying t=some u)(hu:PW u=true)(h:∀fuel,Rds P w t φ fuel):Arg P w t (fun x=>φ [x]):=by
 intro H enc v d ps base hd hz hok
 obtain⟨fuel,hf⟩:=hd
 obtain⟨ds,k1,k2⟩:=h fuel H enc _ d ps hf hz
 have hc:v.cells= #[v]:=by
  cases v with
  | agg cs=>cases u<;>simp[PW] at hu<;>simp[Value.okWide,ht,Cell.okWide,Cell.ok] at hok
  | _=>rfl
 rw[hc] at k1
 match ds,k1.len with
 | [x],_=>exact⟨x,by simpa using k1.rep 0 (by simp) (by simp),k2⟩
inductive Args(P:Program)(w:World):List TypeId->(List D->Prop)->Prop where
 | nil:Args P w [] (fun l=>l=[])
 | cons {t:TypeId} {ts:List TypeId} {Φ:D->Prop} {Ψ:List D->Prop}:Arg P w t Φ->Args P w ts Ψ->Args P w (t::ts) (fun l=>∃x xs,l=x::xs/\Φ x/\Ψ xs)
theorem k9{H:Type}{enc:TypeId×Value->H}:∀{ts:List TypeId} {Ψ:List D->Prop} {vs:List Value} {ds:List (DataW H)} {ps:List MemPlace},Args P w ts Ψ->DataW.TrodAll enc P w 0 (fun _=>true) true ts vs ds ps →
  (∀n∈DataW.weightsEach P ts ds,n<=reachBytes)->(∀(j:Nat) t v,ts[j]? =some t->vs[j]? =some v->∃base,Value.okWide P w .any base t v)->∃xs,Reps (Cx0 w) xs vs/\Ψ xs
 | [],Ψ,vs,ds,ps,h,hd,_,_=>by
  obtain⟨rfl,rfl,rfl⟩:=trodAll_nil hd
  cases h
  exact⟨[],Reps.nil,rfl⟩
 | t::ts,Ψ,vs,ds,ps,h,hd,hz,hok=>by
  obtain⟨v,vs',d,ds',p,q,rfl,rfl,rfl,h1,h2⟩:=trodAll_cons hd
  cases h with
  | cons ha hr =>
   obtain⟨base,hb⟩:=hok 0 t v rfl rfl
   obtain⟨x,k1,k2⟩:=ha H enc v d p base h1 (fun n hn=>hz n (by simp[DataW.weightsEach,hn])) hb
   obtain⟨xs,k3,k4⟩:=k9 hr h2 (fun n hn=>hz n (by simp[DataW.weightsEach,hn])) (fun j t v e1 e2=>hok (j+1) t v (by simpa using e1) (by simpa using e2))
   have:=Reps.append (d1:=[x]) (v1:=[v]) ⟨rfl,fun i h h'=>by
    have:i=0:=by simp at h;omega
    subst this;simpa using k1⟩ k3
   exact⟨x::xs,by simpa using this,x,xs,rfl,k2,k4⟩
theorem dN{H:Type}{enc:TypeId×Value->H}{w':World}{sp:Nat->Bool}:∀{ts:List TypeId} {vs:List Value} {ds:List (DataW H)} {ps:List MemPlace},DataW.TrodAll enc P w 0 sp true ts vs ds ps->(∀p∈ps,w.sameAt w' p)->DataW.TrodAll enc P w' 0 sp true ts vs ds ps
 | [],[],[],ps,h,_=>h
 | t::ts,v::vs,d::ds,ps,⟨p,q,⟨n,h1⟩,h2,e⟩,hs=>⟨p,q,⟨n,DataW.trod_carry n _ _ _ h1 (fun x hx=>hs x (by rw[e];exact A7h _ hx))⟩,dN h2 (fun x hx=>hs x (by rw[e];exact List.mem_append_right _ hx)),e⟩
end
theorem gA{H:Type}{enc:TypeId×Value->H}{P:Program}{w:World}{sp:Nat->Bool}:∀{ts:List TypeId} {vs:List Value} {ds:List (DataW H)} {ps:List MemPlace},DataW.TrodAll enc P w 0 sp true ts vs ds ps->vs.length=ts.length
 | [],[],[],_,_=>rfl
 | _::_,_::_,_::_,_,⟨_,_,_,h,_⟩=>by simp[gA h]
theorem eD{H:Type}{enc:TypeId×Value->H}{P:Program}{w:World}{sp:Nat->Bool}:∀{ts:List TypeId} {vs:List Value} {ds:List (DataW H)} {ps:List MemPlace},DataW.TrodAll enc P w 0 sp true ts vs ds ps->ds.length=ts.length
 | [],[],[],_,_=>rfl
 | _::_,_::_,_::_,_,⟨_,_,_,h,_⟩=>by simp[eD h]
theorem sJ{H:Type}{enc:TypeId×Value->H}{P:Program}{f:Func}{s:ChangeSpec}{apart fresh handsOn again:Bool}{W W':World}{args:Array Value}{v:Value}{ds gs:List (DataW H)}{before pa pv:List MemPlace}
  (hW:DataW.Whole enc P f.params.toList s.vars apart W args.toList ds gs before)
  (hres:∀(b:Nat) (sp:Nat->Bool) (hd:Bool),DataW.TrodAll enc P W' b sp hd f.resultTypes.toList (v.resultList f.resultTypes.size) (s.fn H (ds++gs)).results [])
  (hargs:∀sp:Nat->Bool,(∀p∈before,sp p.block=true)->DataW.TrodAll enc P W' 0 sp true f.params.toList args.toList (s.fn H (ds++gs)).args pa)
  (hvars:∀sp:Nat->Bool,(∀p∈before,sp p.block=true)->DataW.TrodVars enc P W' sp s.vars (s.fn H (ds++gs)).vars pv)
  (hps:before=pa++pv) (hk:W.keptBut W' (·∈before)) (hfz:∀a:Addr,a.block<W.heap.size->W'.frozen? a=W.frozen? a)
  (hok:∀(j:Nat) (t:TypeId) (r:Value),f.resultTypes[j]? =some t->(v.resultList f.resultTypes.size)[j]? =some r->Value.okWide P W' .any 0 t r) :
  s.post enc P f apart fresh handsOn again W args v W':=by
 have hlt:=hW.lt
 have hold:∀p∈before,(fun b=>decide (b<W.heap.size)) p.block=true:=fun p hp=>by simpa using hlt p hp
 refine⟨ds,gs,before,[],pa,pv,hW,hres _ _ _,hargs _ hold,hvars _ hold,World.keptBut_mono (fun p hp=>⟨hp,?_⟩) hk,fun _=>?_⟩
 ·rw[hps,A6L] at hp
  exact Or.inr hp
 ·obtain⟨_,_,_,_,_,hz,hn⟩:=hW
  refine⟨hok,_,_,([]++pa)++pv,⟨[]++pa,pv,trodAll_append (hargs _ (fun _ _=>rfl)) (hres _ _ _),hvars _ (fun _ _=>rfl),rfl,?_,?_⟩,?_⟩
  ·intro b off hp
   have hp':MemPlace.cell b off∈before:=by rw[hps];simpa using hp
   rw[hfz ⟨b,off,none⟩ (hlt _ hp')]
   exact hz b off hp'
  ·intro ha
   have:=hn ha
   rw[hps] at this
   simpa using this
  ·intro p hp _
   rw[hps]
   simpa using hp
theorem lV{c:Cx}{v:Value}(h:Rep c (.bool true) v):v= .bool true:=by cases h;rfl
theorem kP{H:Type}{enc:TypeId×Value->H}{P:Program}[HasG P]{f:FuncId}{fn:Func}{s:ChangeSpec}{apart:Bool}{W:World}{base:Nat}{args:Array Value}{ds gs:List (DataW H)}{before:List MemPlace}{Ψ:List D->Prop}{tb:TypeId}{n:Nat}{rs:List (Sum Nat (Nat×Bool×Nat))}{cc:C}
  (laid:laidOutB P=true) (rows:mapsRowed P=true) (full:((A6P P.types.size).all fun t=>match P.underlying t with|some (.slice e)=>decide (0<P.cellsOf e)|_=>true)=true)
  (hts:∀t∈fn.params.toList,t<P.types.size) (hvars:s.vars=[]) (hres:fn.resultTypes= #[tb]) (hb:P.underlying tb=some .bool)
  (hval:∀(j:Nat) t v,fn.params[j]? =some t->args[j]? =some v->Value.okWide P W .any base t v)
  (hW:DataW.Whole enc P fn.params.toList s.vars apart W args.toList ds gs before)
  (hsz:(DataW.weightsEach P (fn.params.toList++s.plain.varTypes P) (ds++gs)).all (·<=reachBytes)=true)
  (hspec:∀l:List (DataW H),l.length=fn.params.toList.length->s.fn H l={ results:=[.lit (.bool true)],args:=l })
  (hA:Args P W fn.params.toList Ψ) (hf:Fn P f n rs cc) (hlen:fn.params.size<=n)
  (hG:HasG.G P (Cx0 W) W) (hS:∀xs,Ψ xs->GP.W (Snd P) cc (Ds rs (fun r _ _=>r= .bool true)) ⟨Ae xs,[],[]⟩) :
  Calls P f args W fun e W'=>∃v,e= .returned v/\s.post enc P fn apart true false false W args v W':=by
 have hW':=hW
 obtain⟨p,q,hA0,hV,hpq,hfz,hnd⟩:=hW
 rw[hvars] at hV
 obtain⟨rfl,rfl⟩:=trodVars_none hV
 simp only[A6O] at hpq
 subst hpq
 have hplain:s.plain.varTypes P=[]:=by simp[ChangeSpec.plain,DataSpec.varTypes,hvars]
 rw[hplain] at hsz
 simp only[A6O] at hsz
 obtain⟨xs,k1,k2⟩:=k9 hA hA0 (fun n hn=>by simpa using A6G.1 hsz n hn) (fun j t v e1 e2=>⟨base,hval j t v (by simpa using e1) (by simpa using e2)⟩)
 have hdl:∀{ts:List TypeId} {vs:List Value} {ds:List (DataW H)} {ps:List MemPlace},DataW.TrodAll enc P W 0 (fun _=>true) true ts vs ds ps->ds.length=ts.length:=eD
 have hspec:=hspec (ds++[]) (by rw[A6O];exact hdl hA0)
 simp only[A6O] at hspec
 have hl:=k1.len
 have hl2:=gA hA0
 have hc:=(rD hf (args:=xs) (by rw[<- hl,hl2];simpa using hlen) (hS xs k2) (Cx0 W) W args.toList hG (A3M W) rfl k1).2
 rw[show args.toList.toArray=args by simp] at hc
 refine hc.mono ?_
 rintro e W' ⟨v,rfl,r,H',T',c',hr,hrep,_,_,_,hbel⟩
 subst hr
 have:=lV hrep
 subst this
 have hbel:RowKit.Below W.heap.size W W':=hbel.kit
 have hlt:∀x∈before,x.block<W.heap.size:=hA0.lt
 have hread:=dN (w':=W') hA0 (fun x hx=>hbel.same (hlt x hx))
 have K:=kids_rows laid rows
 refine⟨_,rfl,sJ (pa:=before) (pv:=[]) hW' (fun _ _ _=>?_) (fun sp hsp=>?_) (fun _ _=>?_) (by simp) (hbel.frame _) ?_ ?_⟩
 ·rw[A6O,hspec,hres]
  exact trodAll_cons_mk (shut_bool hb _) trodAll_mk0
 ·rw[A6O,hspec]
  exact DataW.TrodAll.respare K (slices_full_of P full) hts hread (fun x hx=>hsp x (by simpa using hx))
 ·rw[A6O,hspec,hvars];rfl
 ·intro a ha
  exact hbel.frozen ha
 ·exact ok_one hres rfl (okWide_bool_mk hb _)
end GP
namespace GP
open Go
theorem Ao:∀(l:List D),(D.eraseL l).length=l.length
 | []=>by simp[D.eraseL]
 | d::l=>by simp[D.eraseL,Ao l]
theorem Bs:∀(l:List D) (i:Nat) (h:i<l.length) (h':i<(D.eraseL l).length),(D.eraseL l)[i]=(l[i]).erase
 | d::l,0,h,h'=>by simp[D.eraseL]
 | d::l,i+1,h,h'=>by
  simp only[D.eraseL,List.getElem_cons_succ]
  exact Bs l i _ _
theorem iR(l:List D):D.eraseL l=l.map D.erase:=by
 induction l with
 | nil=>simp[D.eraseL]
 | cons d l ih=>simp[D.eraseL,ih]
theorem GV(d:D):d.erase.one=d.one:=by cases d<;>simp[D.erase,D.one]
theorem GH(d:D):d.erase.cells=D.eraseL d.cells:=by cases d<;>simp[D.erase,D.cells,D.eraseL]
theorem Rep.erase{c:Cx}{d:D}{v:Value}(h:Rep c d v):Rep c d.erase v:=by
 induction h with
 | bool b=>simpa[D.erase] using Rep.bool b
 | int k n=>simpa[D.erase] using Rep.int k n
 | str l h=>simpa[D.erase] using Rep.str l h
 | nilp=>simpa[D.erase] using Rep.nilp
 | ptr o off h=>simpa[D.erase] using Rep.ptr o off h
 | el cs a vs ha h1 hM _ ih =>
  simp only[D.erase]
  refine Rep.el _ a vs ha ?_ (fun i hi=>hM i (by simpa[Ao] using hi)) (fun i hi=>?_)
  ·intro d hd
   rw[iR] at hd
   obtain⟨x,hx,rfl⟩:=A6N.1 hd
   rw[GV];exact h1 x hx
  ·have hi':i<cs.length:=by simpa[Ao] using hi
   rw[Bs cs i hi']
   exact ih i hi'
 | nils=>simpa[D.erase] using Rep.nils
 | ms ag z o off len cap rc h h1 h2 h3=>simpa[D.erase] using Rep.ms ag z o off len cap rc h h1 h2 h3
 | e0 a =>
  simp only[D.erase]
  exact Rep.sl none [] a 0 0 (fun _ _=>undef) (by simp) (by simp) (by simp) (by simp) (by simp) (by simp) (by simp) (by simp) (by simp) (by simp)
 | sl t xs a cap sz vs hlen hb hsz h1 ha hs hM _ htl ht ih =>
  simp only[D.erase]
  have hl:=Ao xs
  rw[<- hl]
  refine Rep.sl none (D.eraseL xs) a cap sz vs (by omega) (by omega) ?_ ?_ ?_ ?_ ?_ ?_ (fun τ h=>by cases h) (fun τ h=>by cases h)
  ·intro x hx
   rw[iR] at hx
   obtain⟨y,hy,rfl⟩:=A6N.1 hx
   rw[GH,Ao];exact hsz y hy
  ·intro x hx y hy
   rw[iR] at hx
   obtain⟨z,hz,rfl⟩:=A6N.1 hx
   rw[GH,iR] at hy
   obtain⟨u,hu,rfl⟩:=A6N.1 hy
   rw[GV];exact h1 z hz u hu
  ·intro hne
   exact ha (by intro e;subst e;exact hne (by simp[D.eraseL]))
  ·intro hne
   exact hs (by intro e;subst e;exact hne (by simp[D.eraseL]))
  ·intro i hi j hj b hb
   exact hM i (by omega) j hj b hb
  ·intro i hi j hj
   have hi':i<xs.length:=by omega
   have e1:(D.eraseL xs)[i].cells=D.eraseL (xs[i].cells):=by rw[Bs xs i hi',GH]
   have hj':j<(xs[i].cells).length:=by rw[e1,Ao] at hj;exact hj
   have e2:((D.eraseL xs)[i].cells)[j]=((xs[i].cells)[j]).erase:=by
    have:=Bs (xs[i].cells) j hj' (by rw[Ao];exact hj')
    rw[<- this];congr 1
   rw[e2]
   exact ih i hi' j hj'
 | fn f p q vp vq hp hq _ _ ih1 ih2 =>
  simp only[D.erase]
  refine Rep.fn f _ _ vp vq (by rw[Ao];exact hp) (by rw[Ao];exact hq) (fun i h h'=>?_) (fun i h h'=>?_)
  ·have hi:i<p.length:=by rw[Ao] at h;exact h
   rw[Bs p i hi];exact ih1 i hi h'
  ·have hi:i<q.length:=by rw[Ao] at h;exact h
   rw[Bs q i hi];exact ih2 i hi h'
 | nilf=>simpa[D.erase] using Rep.nilf
 | mp o h=>simpa[D.erase] using Rep.mp o h
 | nilm=>simpa[D.erase] using Rep.nilm
 | nili=>simpa[D.erase] using Rep.nili
 | ifc t d v _ ih=>simp only[D.erase];exact Rep.ifc t _ v ih
 | agg cs vs hl h1 _ ih =>
  simp only[D.erase]
  refine Rep.agg _ vs (by rw[Ao];exact hl) ?_ (fun i h h'=>?_)
  ·intro d hd
   rw[iR] at hd
   obtain⟨x,hx,rfl⟩:=A6N.1 hd
   rw[GV];exact h1 x hx
  ·have hi:i<cs.length:=by rw[Ao] at h;exact h
   rw[Bs cs i hi];exact ih i hi h'
 | tup cs vs hl _ ih =>
  simp only[D.erase]
  refine Rep.tup _ vs (by rw[Ao];exact hl) (fun i h h'=>?_)
  have hi:i<cs.length:=by rw[Ao] at h;exact h
  rw[Bs cs i hi];exact ih i hi h'
 | top v=>simpa[D.erase] using Rep.top v
theorem Reps.erase{c:Cx}{ds:List D}{vs:List Value}(h:Reps c ds vs):Reps c (D.eraseL ds) vs :=
 ⟨by rw[Ao];exact h.len,fun i hi hi'=>by
  have hi2:i<ds.length:=by rw[Ao] at hi;exact hi
  rw[Bs ds i hi2];exact(h.rep i hi2 hi').erase⟩
mutual
def D.cl(n m:Nat):D->Bool
 | .sl t xs=>(match t with|none=>true|some τ=>decide (τ<m))&&D.clL n m xs
 | .el cs=>D.clL n m cs
 | .agg cs=>D.clL n m cs
 | .tup cs=>D.clL n m cs
 | .fn _ a b=>D.clL n m a&&D.clL n m b
 | .ifc _ d=>D.cl n m d
 | .ptr o _=>decide (o<n)
 | .mp o=>decide (o<n)
 | .ms _ _ o _ _ _=>decide (o<n)
 | _=>true
def D.clL(n m:Nat):List D->Bool
 | []=>true
 | d::ds=>D.cl n m d&&D.clL n m ds
end
theorem Br{n m:Nat}:∀{l:List D},D.clL n m l=true->∀d∈l,d.cl n m=true
 | d::l,h,x,hx=>by
  simp only[D.clL,A6A] at h
  rcases A66.1 hx with rfl|hx
  ·exact h.1
  ·exact Br h.2 x hx
theorem D8{n m:Nat}:∀{l:List D},(∀d∈l,d.cl n m=true)->D.clL n m l=true
 | [],_=>by simp[D.clL]
 | d::l,h=>by
  simp only[D.clL,A6A]
  exact⟨h d (by simp),D8 fun x hx=>h x (by simp[hx])⟩
theorem Nd{n m:Nat}{d:D}(h:d.cl n m=true):∀x∈d.cells,x.cl n m=true:=by
 intro x hx
 cases d<;>simp only[D.cells,A7m] at hx<;>first
  | (subst hx;exact h)
  | (simp only[D.cl] at h;exact Br h x hx)
theorem Rep.move{c c':Cx}{n m:Nat}{d:D}{v:Value}(h:Rep c d v)(hM:∀a v,c.M a=some v->c'.M a=some v)(hbd:∀o,o<n->c.bd o=true->c'.bd o=true)(hβ:∀o,o<n->c'.β o=c.β o)(hsz:∀o,o<n->c'.sz o=c.sz o)
  (hm:m<=c'.T.length) (hT:∀τ,τ<m->c'.T[τ]? =c.T[τ]? /\c'.κ τ=c.κ τ) (hd:d.cl n m=true):Rep c' d v:=by
 induction h with
 | bool b=>exact .bool b
 | int k n=>exact .int k n
 | str l h=>exact .str l h
 | nilp=>exact .nilp
 | ptr o off h =>
  simp only[D.cl,decide_eq_true_eq] at hd
  rw[<- hβ o hd];exact .ptr o off (hbd o hd h)
 | ms ag z o off len cap rc h h1 h2 h3 =>
  simp only[D.cl,decide_eq_true_eq] at hd
  rw[<- hβ o hd];exact .ms ag z o off len cap rc (hbd o hd h) h1 h2 (by rw[hsz o hd];exact h3)
 | e0 a=>exact .e0 a
 | el cs a vs ha h1 hM' _ ih =>
  simp only[D.cl] at hd
  exact .el cs a vs ha h1 (fun i hi=>hM _ _ (hM' i hi)) (fun i hi=>ih i hi (Br hd _ (A6Q hi)))
 | nils=>exact .nils
 | sl t xs a cap sz vs hlen hb hsz h1 ha hs hM' _ htl ht ih =>
  simp only[D.cl,A6A] at hd
  obtain⟨hτ,hd⟩:=hd
  refine .sl t xs a cap sz vs hlen hb hsz h1 ha hs (fun i hi j hj b hb=>hM _ _ (hM' i hi j hj b hb)) (fun i hi j hj=>ih i hi j hj (Nd (Br hd _ (A6Q hi)) _ (A6Q hj))) ?_ ?_
  ·rintro τ rfl
   simp only[decide_eq_true_eq] at hτ
   omega
  ·rintro τ rfl n' z' hn
   simp only[decide_eq_true_eq] at hτ
   obtain⟨e1,e2⟩:=hT τ hτ
   rw[e1] at hn
   rw[e2]
   exact ht τ rfl n' z' hn
 | fn f p q vp vq hp hq _ _ ih1 ih2 =>
  simp only[D.cl,A6A] at hd
  exact .fn f p q vp vq hp hq (fun i h h'=>ih1 i h h' (Br hd.1 _ (A6Q h))) (fun i h h'=>ih2 i h h' (Br hd.2 _ (A6Q h)))
 | nilf=>exact .nilf
 | mp o h =>
  simp only[D.cl,decide_eq_true_eq] at hd
  rw[<- hβ o hd];exact .mp o (hbd o hd h)
 | nilm=>exact .nilm
 | nili=>exact .nili
 | ifc t d v _ ih=>exact .ifc t d v (ih (by simpa only[D.cl] using hd))
 | agg cs vs hl h1 _ ih =>
  simp only[D.cl] at hd
  exact .agg cs vs hl h1 (fun i h h'=>ih i h h' (Br hd _ (A6Q h)))
 | tup cs vs hl _ ih =>
  simp only[D.cl] at hd
  exact .tup cs vs hl (fun i h h'=>ih i h h' (Br hd _ (A6Q h)))
 | top v=>exact .top v
theorem Rep.cl{c:Cx}{n:Nat}{d:D}{v:Value}(h:Rep c d v)(hn:∀o,c.bd o=true->o<n):d.cl n c.T.length=true:=by
 induction h with
 | ptr o off h=>simp[D.cl,hn o h]
 | mp o h=>simp[D.cl,hn o h]
 | ms ag z o off len cap rc h h1 h2 h3=>simp[D.cl,hn o h]
 | el cs a vs ha h1 hM' _ ih =>
  simp only[D.cl]
  refine D8 fun d hd=>?_
  obtain⟨i,hi,rfl⟩:=A6M hd
  exact ih i hi
 | sl t xs a cap sz vs hlen hb hsz h1 ha hs hM' _ htl ht ih =>
  simp only[D.cl,A6A]
  refine⟨?_,D8 fun d hd=>?_⟩
  ·cases t with
   | none=>rfl
   | some τ=>simpa using htl τ rfl
  ·obtain⟨i,hi,rfl⟩:=A6M hd
   have hcell:∀x∈xs[i].cells,x.cl n c.T.length=true:=fun x hx=>by
    obtain⟨j,hj,rfl⟩:=A6M hx
    exact ih i hi j hj
   cases hx:xs[i] with
   | agg cs=>rw[hx] at hcell;simp only[D.cl];exact D8 hcell
   | _=>rw[hx] at hcell;exact hcell _ (by simp[D.cells])
 | fn f p q vp vq hp hq _ _ ih1 ih2 =>
  simp only[D.cl,A6A]
  refine⟨D8 fun d hd=>?_,D8 fun d hd=>?_⟩
  ·obtain⟨i,hi,rfl⟩:=A6M hd
   exact ih1 i hi (by omega)
  ·obtain⟨i,hi,rfl⟩:=A6M hd
   exact ih2 i hi (by omega)
 | ifc t d v _ ih=>simpa only[D.cl] using ih
 | agg cs vs hl h1 _ ih =>
  simp only[D.cl]
  refine D8 fun d hd=>?_
  obtain⟨i,hi,rfl⟩:=A6M hd
  exact ih i hi (by omega)
 | tup cs vs hl _ ih =>
  simp only[D.cl]
  refine D8 fun d hd=>?_
  obtain⟨i,hi,rfl⟩:=A6M hd
  exact ih i hi (by omega)
 | _=>simp[D.cl]
section
variable {P:Program}
theorem iX.forget{c:Cx}{w:World}{H:Hp}{T:Tk}{Q:Bg}(hi:Inv c w H)(hT:c.T=T){r0:D}(hcl:r0.cl H.length T.length=true)(hQ:Q r0 H T){e:Ending}{w':World}
  (h:iX c w (fun r H' T'=>r.erase=r0/\(∃L,H'=H++L)/\∃U,T'=T++U) e w'):iX c w Q e w':=by
 obtain⟨v,rfl,r,H',T',c',⟨hr,⟨L,rfl⟩,⟨U,rfl⟩⟩,hrep,hinv,hle,hT',hbel⟩:=h
 have move:∀{d:D} {v:Value},Rep c' d v->d.cl H.length T.length=true->Rep { c' with bd:=fun o=>c'.bd o&&decide (o<H.length),T:=T } d v:=fun {d v} hr hd =>
  hr.move (n:=H.length) (m:=T.length) (c':={ c' with bd:=fun o=>c'.bd o&&decide (o<H.length),T:=T }) (fun _ _ h=>h) (fun o ho h=>by simp[h,ho]) (fun _ _=>rfl) (fun _ _=>rfl) (A6U _) (fun τ hτ=>⟨by simp only;rw[hT',A6E hτ],rfl⟩) hd
 refine⟨v,rfl,r0,H,T,{ c' with bd:=fun o=>c'.bd o&&decide (o<H.length),T:=T },hQ,?_,?_,?_,rfl,hbel⟩
 ·rw[<- hr] at hcl ⊢
  exact move hrep.erase hcl
 ·have hget:∀{o:Nat} {x:Ob},H[o]? =some x->(H++L)[o]? =some x:=fun {o x} h=>by
   have:o<H.length:=by
    rcases A6D o H.length with h'|h'
    ·exact h'
    ·rw[A6C h'] at h;cases h
   rw[A6E this];exact h
  have hlt:∀{o:Nat} {x:Ob},H[o]? =some x->o<H.length:=fun {o x} h=>by
   rcases A6D o H.length with h'|h'
   ·exact h'
   ·rw[A6C h'] at h;cases h
  have htok:∀{τ:Nat} {x},T[τ]? =some x->c'.T[τ]? =some x:=fun {τ x} h=>by
   have:τ<T.length:=by
    rcases A6D τ T.length with h'|h'
    ·exact h'
    ·rw[A6C h'] at h;cases h
   rw[hT',A6E this];exact h
  refine⟨hinv.keep,hinv.low,fun o x cs h hx=>?_,?_,fun o x h hx=>?_,fun o o' x x' h h' hx hx' he=>hinv.apart o o' x x' (hget h) (hget h') hx hx' he,fun o es clk h=>hinv.map o es clk (hget h),fun o m l h=>hinv.iter o m l (hget h),
   fun τ n z h=>hinv.tok τ n z (htok h),fun τ n z o x h h1 hx=>hinv.tokrow τ n z o x (htok h) (hget h1) hx,fun τ n z τ' n' z' h h'=>hinv.toks τ n z τ' n' z' (htok h) (htok h')⟩
  ·obtain⟨vs,rest,e,fr,k1,k2,k4,k3⟩:=hinv.row o x cs (hget h) hx
   refine⟨vs,rest,e,fr,k1,?_,k4,k3⟩
   have hi2:=hi.row o x cs h hx
   obtain⟨vs0,rest0,e0,fr0,q1,q2,q4,q3⟩:=hi2
   refine⟨k2.len,k2.one,fun i a b=>move (k2.rep i a b) ?_⟩
   rw[<- hT]
   refine(q2.rep i a (by rw[q2.len];exact a)).cl fun o ho=>?_
   rcases A6D o H.length with h'|h'
   ·exact h'
   ·rw[hi.free o (.inl h')] at ho;cases ho
  ·intro o h
   rcases h with h|h
   ·have: ¬o<H.length:=by omega
    simp[this]
   ·have:=hinv.free o (.inr (hget h))
    simp[this]
  ·obtain⟨g1,g2,g3,g4⟩:=hinv.own o x (hget h) hx
   exact⟨by simp[g1,hlt h],g2,g3,g4⟩
 ·refine⟨hle.M,fun o ho=>?_,fun o ho=>hle.β o ho,by simp[hT],fun τ h=>by simpa[<- hT] using h,fun τ n z h=>.inr ⟨n,by simpa[<- hT] using h,A6U _,fun _=>?_⟩,hle.B,fun o ho=>?_⟩
  ·have:o<H.length:=by
    rcases A6D o H.length with h'|h'
    ·exact h'
    ·rw[hi.free o (.inl h')] at ho;cases ho
   simp[hle.bd o ho,this]
  ·rw[hT] at h
   have hlt:τ<T.length:=by
    rcases A6D τ T.length with h'|h'
    ·exact h'
    ·rw[A6C h'] at h;cases h
   have h2:c'.T[τ]? =some (some (n,z)):=by rw[hT',A6E hlt];exact h
   rcases hle.tok τ n z (by rw[hT];exact h) with k|⟨n',k1,k2,k3⟩
   ·rw[k] at h2;cases h2
   ·rw[k1] at h2;injection h2 with h2;injection h2 with h2;injection h2 with h2 _
    exact k3 h2
  ·exact hle.sz o ho
end
end GP
