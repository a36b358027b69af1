import Derived.Below
import Derived.ChangeKeysEq
import Derived.Deep.Quiet
import Derived.Laws.Append
import Derived.Laws.BytesString
import Derived.Laws.StructEq
open List renaming getElem?_eq_none->A6A,getElem?_append_left->A6D,replicate->A6G,getElem?_eq_getElem->A6H,getElem_mem->A6I,length_append->A6O,getElem?_toArray->A6Q,getElem?_take_of_lt->A6R,length_cons->A6S,getElem?_set_ne->A6U,all_eq_true->A6W,getElem_append_right->A6Y,mem_of_mem_drop->A6Z,getElem_append_left->A60,flatten_cons->A62,length_take->A64,getElem?_drop->A66,length_set->A67,getElem?_append_right->A68,mem_of_mem_take->A69,getElem_of_mem->A7d,mem_map->A7f,take_succ_eq_append_getElem->A7h,take_of_length_le->A7i,getElem_map->A7l,take_append_of_le_length->A7m,replicate_succ->A7o,append_nil->A7q,extract_eq_take_drop->A7u,drop_drop->A7v,getElem?_map->A7x,append_assoc->A7y,getElem_cons_zero->A7C,getElem_cons_succ->A7D,getElem_set_self->A7F,nil_append->A7G,extract_toArray->A7K,getElem?_range->A7N,take_set_of_le->A7O,drop_set_of_lt->A7P,map_cons->A7S,range->A7U,ext_getElem->A7W,zipIdx_cons->A7X,cons_append->A7Y,length_drop->A70,flatten_nil->A71,mem_append->A72,foldl_cons->A73,getD->A74,length_nil->A77,drop_take->A8a,foldl_nil->A8b,take_zero->A8c,foldlM->A8i
open Go.Builtin renaming firstCells->A6B,zeroCells->A6M,append_->A6N,lenOf->A6P,clear_->A7c,len_->A7e,copy_->A7n,nextslicecap->A7M,cap_->A7V,min_->A8f,max_->A8g
open Go.Result renaming andThen_ok->A6C
open Nat renaming le_refl->A6E,lt_or_ge->A6F,mul_le_mul_right->A6K,add_mul->A6L,lt_succ_of_lt->A7j,add_zero->A7k,ne_of_lt->A7s,zero_add->A7t,le_succ_of_le->A7w,le_trans->A7E,mul_comm->A7H,div_lt_of_lt_mul->A7L,lt_of_lt_of_le->A7R,eq_zero_or_pos->A7T,lt_succ_self->A7Z,one_mul->A75,div_add_mod->A76,min_eq_left->A78,min_le_left->A79,add_assoc->A8d
open Go.Sem renaming run_bind->A6J
open Go.World renaming size_alloc->A6T,cell?->A63,cell?_alloc_lt->A7a,cell?_setCell_other->A7b,frozen?->A7z,frozen?_alloc_old->A7B,frozen?_setCell->A7J,setCell->A8e
open Array renaming length_toList->A6V,toList_inj->A6X,toList_setIfInBounds->A7r,getElem?_modify->A7I,range->A7Q,toList->A8h
open Option renaming isSome_iff_exists->A61,map_some->A7p,isSome->A7A
open Bool renaming and_eq_true->A65,false_eq_true->A7g
set_option linter.unusedSimpArgs false
set_option linter.unnecessarySimpa false
namespace GP
open Go (IntKind BinOp UnOp FuncId TypeId Value Program Code Op Oper Operand TypeDesc TypeInfo Builtin Callee)
inductive D where
 | bool (b:Bool)
 | int (k:IntKind) (n:Int)
 | str (s:List UInt8)
 | nilp
 | ptr (o:Nat) (off:Nat)
 | el (cs:List D)
 | nils
 | sl (t:Option Nat) (xs:List D)
 | ms (ag:Bool) (sz o off len cap:Nat)
 | e0
 | fn (f:FuncId) (first cap:List D)
 | nilf
 | mp (o:Nat)
 | nilm
 | nili
 | ifc (t:TypeId) (d:D)
 | agg (cs:List D)
 | tup (vs:List D)
 | top
 deriving Inhabited
def D.cells:D->List D
 | .agg cs=>cs
 | d=>[d]
def D.one:D->Bool
 | .agg _| .tup _| .top=>false
 | _=>true
inductive Ob where
 | row (cs:List D)
 | raw (cs:List D)
 | dead
 | hole
 | map (es:List (D×D×Nat)) (clk:Nat)
 | iter (m:Option Nat) (todo:List D)
 deriving Inhabited
def Ob.blank:Ob->Bool
 | .raw _| .dead| .hole=>true
 | _=>false
def Ob.cells?:Ob->Option (List D)
 | .row cs| .raw cs=>some cs
 | _=>none
abbrev Hp:=List Ob
abbrev Tk:=List (Option (Nat×Nat))
abbrev Bg:=D->Hp->Tk->Prop
abbrev BF:=FuncId->List D->Hp->Tk->Bg->Prop
inductive Rd where
 | t (i:Nat)
 | k (d:D)
 deriving Inhabited
inductive Ck where
 | int|str|bool
 deriving DecidableEq,Inhabited
inductive Tq where
 | bool|ptr|slc|ifc|mp|fn
 deriving DecidableEq,Inhabited
inductive O where
 | mv (x:Rd)
 | mvs (x:Rd)
 | pick (c a b:Rd)
 | alloc (z:List D)
 | allocAt (j:Nat) (z:List D)
 | rawAt (j:Nat) (z:List D)
 | fillAt (j n:Nat) (a v:Rd)
 | box (x:Rd)
 | boxAt (j:Nat) (x:Rd)
 | build (z:List D) (parts:List (Nat×Nat×Rd))
 | bsl (sz:Nat) (xs:List Rd)
 | bslq (sz:Nat) (xs:List Rd)
 | load (ag:Bool) (n:Nat) (a:Rd)
 | store (n:Nat) (a v:Rd)
 | nilc (x:Rd)
 | bin (op:BinOp) (x y:Rd)
 | eqa (ks:List Ck) (neg:Bool) (x y:Rd)
 | eq1 (q:Tq) (neg:Bool) (x y:Rd)
 | un (op:UnOp) (x:Rd)
 | conv (k:IntKind) (x:Rd)
 | s2b (x:Rd)
 | s2bq (x:Rd)
 | b2s (x:Rd)
 | b2m (x:Rd)
 | mkfn (f:FuncId) (first cap:List Rd)
 | sls (sz:Nat) (x:Rd) (lo hi:Option Rd)
 | sls3 (sz:Nat) (x:Rd) (lo hi mx:Option Rd)
 | subs (x:Rd) (lo hi:Option Rd)
 | faddr (off:Nat) (x:Rd)
 | field (ag:Bool) (off n:Nat) (x:Rd)
 | iaddr (sz:Nat) (x i:Rd)
 | iarr (sz len:Nat) (x i:Rd)
 | idxs (x i:Rd)
 | idxa (ag:Bool) (sz len:Nat) (x i:Rd)
 | ext (i:Nat) (x:Rd)
 | call (f:Rd) (args:List Rd)
 | pcall (f:Rd) (args:List Rd)
 | len (x:Rd)
 | capz (x:Rd)
 | lens (x:Rd)
 | app (st:Bool) (sz bytes:Nat) (x y:Rd)
 | appm (ag st:Bool) (sz bytes:Nat) (x y:Rd)
 | bslm (ag:Bool) (sz:Nat) (xs:List Rd)
 | copy (sz:Nat) (x y:Rd)
 | clr (z:List D) (x:Rd)
 | mkm (ag:Bool) (sz bytes:Nat) (z:List D) (n m:Rd)
 | appz (ag:Bool) (sz bytes:Nat) (z:List D) (x y:Rd)
 | mn (a b:Rd)
 | mx (a b:Rd)
 | mkmap
 | mlen (x:Rd)
 | mget (ks:Bool×List Ck) (zv:D) (ok:Bool) (m k:Rd)
 | mput (ks:Bool×List Ck) (m k v:Rd)
 | ment (ks:Bool×List Ck) (zv:D) (m k:Rd)
 | mst (m b v:Rd)
 deriving Inhabited
structure I where
 d:Option Nat
 g:Option (Nat×Bool)
 o:O
 deriving Inhabited
inductive C where
 | skip
 | reg (is:List I)
 | draw (na:Nat) (is:List (I×List I))
 | seq (a b:C)
 | cond (c:Rd) (a b:C)
 | block (id:Nat) (c:C)
 | loop (c:C)
 | exit (id:Nat)
 | ret
 | stop
 deriving Inhabited
structure S where
 t:Nat->D
 H:Hp
 T:Tk
def upd(t:Nat->D)(i:Nat)(d:D):Nat->D:=fun j=>if j=i then d else t j
inductive Ex where
 | normal|exit (id:Nat)|ret
def S.ev(s:S):Rd->D
 | .t i=>s.t i
 | .k d=>d
def S.put(s:S)(d:Option Nat)(v:D):S :=
 match d with
 | some i=>⟨upd s.t i v,s.H,s.T⟩
 | none=>s
def Bx(H:Hp):D->Option (List D)
 | .el cs=>some cs
 | .ptr o off=>match H[o]? with|some (.row cs)=>some (cs.drop off)|_=>none
 | _=>none
def ld(ag:Bool)(n:Nat):Option (List D)->Option D
 | none=>none
 | some cs=>if ag then(if n<=cs.length then some (.agg (cs.take n)) else none) else cs.head?
def bytesLess:List UInt8->List UInt8->Bool:=Go.Op.bytesLess
def Fa(op:BinOp)(k:IntKind)(a b:Int):Option D :=
 match op with
 | .add=>some (.int k (k.wrap (a+b)))
 | .sub=>some (.int k (k.wrap (a - b)))
 | .mul=>some (.int k (k.wrap (a*b)))
 | .quo=>if b=0 then none else some (.int k (k.wrap (a.tdiv b)))
 | .rem=>if b=0 then none else some (.int k (a.tmod b))
 | .eql=>some (.bool (a==b))
 | .neq=>some (.bool (a !=b))
 | .lss=>some (.bool (decide (a<b)))
 | .leq=>some (.bool (decide (a<=b)))
 | .gtr=>some (.bool (decide (b<a)))
 | .geq=>some (.bool (decide (b<=a)))
 | .and=>some (.int k (k.wrap (BitVec.ofInt k.bits a &&& BitVec.ofInt k.bits b).toNat))
 | .or=>some (.int k (k.wrap (BitVec.ofInt k.bits a ||| BitVec.ofInt k.bits b).toNat))
 | .xor=>some (.int k (k.wrap (BitVec.ofInt k.bits a ^^^ BitVec.ofInt k.bits b).toNat))
 | .andNot=>some (.int k (k.wrap (BitVec.ofInt k.bits a &&& ~~~ BitVec.ofInt k.bits b).toNat))
 | _=>none
def X8(op:BinOp)(k:IntKind)(a b:Int):Option D :=
 if b<0 then none else
 match op with
 | .shl=>some (.int k (k.wrap (a*2^(min b.toNat k.bits))))
 | .shr=>some (.int k (a.fdiv (2^(min b.toNat k.bits))))
 | _=>none
def PQ(op:BinOp)(a b:List UInt8):Option D :=
 match op with
 | .add=>if a.length+b.length<2^62 then some (.str (a++b)) else none
 | .eql=>some (.bool (a==b))
 | .neq=>some (.bool (a !=b))
 | .lss=>some (.bool (bytesLess a b))
 | .leq=>some (.bool (bytesLess a b||a==b))
 | .gtr=>some (.bool (!(bytesLess a b||a==b)))
 | .geq=>some (.bool (!bytesLess a b))
 | _=>none
def kK:BinOp->Bool
 | .shl| .shr=>true
 | _=>false
def DZ(op:BinOp)(x y:D):Option D :=
 match x,y with
 | .int k a,.int k' b=>if kK op then X8 op k a b else if k=k' then Fa op k a b else none
 | .str a,.str b=>PQ op a b
 | _,_=>none
def Ko(q:Tq)(x y:D):Option Bool :=
 match q,x,y with
 | .bool,.bool a,.bool b=>some (a==b)
 | .ptr,.nilp,.nilp| .ifc,.nili,.nili| .slc,.nils,.nils| .mp,.nilm,.nilm| .fn,.nilf,.nilf=>some true
 | .ptr,.ptr _ _,.nilp| .ptr,.el _,.nilp| .ifc,.ifc _ _,.nili| .mp,.mp _,.nilm| .fn,.fn _ _ _,.nilf| .slc,.sl _ (_::_),.nils| .slc,.ms _ _ _ _ _ _,.nils=>some false
 | _,_,_=>none
def bV:D->D->Option Bool
 | .int k a,.int k' b=>if k=k' then some (a==b) else none
 | .str a,.str b=>some (a==b)
 | .bool a,.bool b=>some (a==b)
 | _,_=>none
def aG:List D->List D->Option Bool
 | [],[]=>some true
 | a::aS,b::bs=>match bV a b,aG aS bs with
  | some p,some q=>some (p&&q)
  | _,_=>none
 | _,_=>none
def ckD:D->Option Ck
 | .int _ _=>some .int
 | .str _=>some .str
 | .bool _=>some .bool
 | _=>none
def Dn:List D->List Ck->Bool
 | [],[]=>true
 | d::ds,k::ks=>ckD d==some k&&Dn ds ks
 | _,_=>false
def RW(ks:List Ck)(neg:Bool):D->D->Option D
 | .agg xs,.agg ys=>if Dn xs ks then(aG xs ys).map fun b=>.bool (b !=neg) else none
 | _,_=>none
def un1(op:UnOp):D->Option D
 | .bool b=>(match op with| .not=>some (.bool (!b))|_=>none)
 | .int k n=>(match op with
   | .neg=>some (.int k (k.wrap (0 - n)))
   | .xor=>Fa .xor k (if k.signed then -1 else k.max) n
   | _=>none)
 | _=>none
def D.okc:D->Bool
 | .tup _| .top=>false
 | _=>true
def fit(sz:Nat)(d:D):Bool:=d.okc&&d.cells.length==sz
def Gw(cells:List D):List (Nat×List D)->Option (List D)
 | []=>some cells
 | (off,v)::rest=>if off+v.length<=cells.length then Gw (cells.take off++v++cells.drop (off+v.length)) rest else none
def uK(z:List D)(parts:List (Nat×Nat×D)):Option D :=
 if parts.all (fun p=>fit p.2.1 p.2.2) then(Gw z (parts.map fun p=>(p.1,p.2.2.cells))).map .agg else none
def BX(s:S)(dflt:Nat):Option Rd->Option Int
 | none=>some dflt
 | some r=>match s.ev r with| .int _ n=>some n|_=>none
def aH{α:Type}(l:List α)(lo hi:Nat):List α:=(l.take hi).drop lo
def slc(sz:Nat)(lo hi:Option Int):D->Option D
 | .nils=>match lo,hi with
  | some l,some h=>if l=0/\h=0 then some .nils else none
  | _,_=>none
 | .sl t xs=>match lo,hi with
  | some l,some h=>if 0<=l/\l<=h/\h<=xs.length/\xs.all (fun d=>d.cells.length==sz)=true then some (.sl (if l=0/\h=xs.length then t else none) (aH xs l.toNat h.toNat)) else none
  | _,_=>none
 | .e0=>match lo,hi with
  | some l,some h=>if l=0/\h=0 then some .e0 else none
  | _,_=>none
 | .ms ag z o off n cap=>match lo,hi with
  | some l,some h=>if 0<=l/\l<=h/\h<=n/\l<cap/\z=sz then some (.ms ag z o (off+l.toNat*sz) (h - l).toNat (cap - l.toNat)) else
    if 0<=l/\l<=h/\h<=n/\h=l then some (.sl none []) else none
  | _,_=>none
 | _=>none
def OV(sz:Nat)(lo hi mx:Option Int):D->Option D
 | .nils=>match lo,hi,mx with
  | some l,some h,some m=>if l=0/\h=0/\m=0 then some .nils else none
  | _,_,_=>none
 | .e0=>match lo,hi,mx with
  | some l,some h,some m=>if l=0/\h=0/\m=0 then some .e0 else none
  | _,_,_=>none
 | .sl _ xs=>match lo,hi,mx with
  | some l,some h,some m=>if 0<=l/\l=h/\h=m/\m<=xs.length then some .e0 else none
  | _,_,_=>none
 | .ms ag z o off n cap=>match lo,hi,mx with
  | some l,some h,some m=>if 0<=l/\l=h/\h=m/\m<=n then some .e0 else
    if 0<=l/\l<=h/\h<=m/\m<=n/\l<m/\z=sz then some (.ms ag z o (off+l.toNat*sz) (h - l).toNat (m - l).toNat) else none
  | _,_,_=>none
 | _=>none
def sub(lo hi:Option Int):D->Option D
 | .str s=>match lo,hi with
  | some l,some h=>if 0<=l/\l<=h/\h<=s.length then some (.str (aH s l.toNat h.toNat)) else none
  | _,_=>none
 | _=>none
def dW:D->Option Nat
 | .str s=>some s.length
 | _=>none
def C2:D->Option Nat
 | .nils| .e0=>some 0
 | .sl _ xs=>some xs.length
 | .ms _ _ _ _ n _=>some n
 | _=>none
def Qw:D->Option Nat
 | .nils| .e0=>some 0
 | _=>none
def fa(off:Nat):D->Option D
 | .el cs=>some (.el (cs.drop off))
 | .ptr o f=>some (.ptr o (f+off))
 | _=>none
def iaE(sz:Nat):Option D->Option D
 | some d=>if d.cells.length=sz then some (.el d.cells) else none
 | none=>none
def ia(sz:Nat)(x i:D):Option D :=
 match x,i with
 | .sl _ xs,.int _ n=>if 0<=n then iaE sz xs[n.toNat]? else none
 | .ms _ z o off len _,.int _ n=>if 0<=n/\n<len/\z=sz then some (.ptr o (off+n.toNat*sz)) else none
 | _,_=>none
def Lm(sz len:Nat)(x i:D):Option D :=
 match i with
 | .int _ n=>if 0<=n/\n<len then fa (n.toNat*sz) x else none
 | _=>none
def Nt(ag:Bool)(off n:Nat)(cs:List D):Option D :=
 if ag then(if off+n<=cs.length then some (.agg (aH cs off (off+n))) else none) else cs[off]?
def fld(ag:Bool)(off n:Nat):D->Option D
 | .agg cs=>Nt ag off n cs
 | _=>none
def ixs(x i:D):Option D :=
 match x,i with
 | .str s,.int _ n=>if 0<=n then(s[n.toNat]?).map fun b=>.int .u8 b.toNat else none
 | _,_=>none
def ixa(ag:Bool)(sz len:Nat)(x i:D):Option D :=
 match x,i with
 | .agg cs,.int _ n=>if 0<=n/\n<len then Nt ag (n.toNat*sz) sz cs else none
 | _,_=>none
def QN(i:Nat):D->Option D
 | .tup vs=>vs[i]?
 | _=>none
def mn2(x y:D):Option D:=match x,y with| .int k a,.int _ b=>some (.int k (if b<a then b else a))|_,_=>none
def mx2(x y:D):Option D:=match x,y with| .int k a,.int _ b=>some (.int k (if b>a then b else a))|_,_=>none
def BQ(l:List UInt8):List D:=l.map fun b=>.int .u8 b.toNat
def l6:D->UInt8
 | .int _ n=>UInt8.ofNat n.toNat
 | _=>0
def HB:D->Bool
 | .int .u8 n=>decide (0<=n/\n<256)
 | _=>false
def aQ(st:Bool):D->Option (List D)
 | .nils| .e0=>if st then none else some []
 | .sl _ xs=>if st then none else some xs
 | .str s=>if st then some (BQ s) else none
 | _=>none
def N2:D->Option D
 | .ptr o f=>some (.ptr o f)
 | .el cs=>some (.el cs)
 | .fn f a b=>some (.fn f a b)
 | _=>none
def Bd(ag:Bool)(sz:Nat):Nat->List D->List D
 | 0,_=>[]
 | n+1,cs=>(if ag then .agg (cs.take sz) else cs.headD .top)::Bd ag sz n (cs.drop sz)
def C9(H:Hp)(st:Bool)(sz:Nat):D->Option (List D)
 | .ms ag z o off n _=>match H[o]? with
  | some (.row cs)=>if st=false/\z=sz/\off+n*sz<=cs.length/\(ag=true∨sz=1) then some (Bd ag sz n (cs.drop off)) else none
  | _=>none
 | d=>aQ st d
def AX(xs:List D):List D:=(xs.map D.cells).flatten
def JU:D->Option D
 | .nils| .e0=>some (.str [])
 | .sl _ xs=>if xs.all HB then some (.str (xs.map l6)) else none
 | _=>none
def UE(H:Hp):D->Option D
 | .ms ag z o off n _=>match H[o]? with
  | some (.row cs)=>if z=1/\off+n<=cs.length/\(Bd ag z n (cs.drop off)).all HB=true/\n<2^62 then some (.str ((Bd ag z n (cs.drop off)).map l6)) else none
  | _=>none
 | d=>JU d
def Hle(H H':Hp):Prop:=∀(o:Nat) (x:Ob),H[o]? =some x->x.blank=false->H'[o]? =some x
def Tp(X:BF)(H:Hp)(f:FuncId)(args:List D)(r:D):Prop:=∀H' T' (Q:Bg),Hle H H'->Q r H' T'->X f args H' T' Q
def K1(K:D->S->Prop)(s:S):Option D->Prop
 | some d=>K d s
 | none=>False
mutual
def D.erase:D->D
 | .sl _ xs=>.sl none (D.eraseL xs)
 | .e0=>.sl none []
 | .el cs=>.el (D.eraseL cs)
 | .agg cs=>.agg (D.eraseL cs)
 | .tup cs=>.tup (D.eraseL cs)
 | .fn f a b=>.fn f (D.eraseL a) (D.eraseL b)
 | .ifc t d=>.ifc t d.erase
 | d=>d
def D.eraseL:List D->List D
 | []=>[]
 | d::ds=>d.erase::D.eraseL ds
end
def Eb(sz bytes:Nat)(K:D->S->Prop)(s:S)(x:D)(ys:Option (List D)):Prop :=
 match ys with
 | none=>False
 | some ys =>
  ys.all (fit sz)=true ∧
  match x with
  | .nils=>if ys=[] then K .nils s else
    (ys.length*bytes<=2^47/\ys.length<2^62/\K (.sl (some s.T.length) ys) ⟨s.t,s.H,s.T++[some (ys.length,sz)]⟩)
  | .e0=>if ys=[] then K .e0 s else
    (ys.length*bytes<=2^47/\ys.length<2^62/\K (.sl (some s.T.length) ys) ⟨s.t,s.H,s.T++[some (ys.length,sz)]⟩)
  | .sl (some t) xs =>
    s.T[t]? =some (some (xs.length,sz))/\(xs.length+ys.length)*bytes<=2^47/\xs.length+ys.length<2^62/\xs.all (fit sz)=true ∧
    K (.sl (some t) (xs++ys)) ⟨s.t,s.H,s.T.set t (some (xs.length+ys.length,sz))⟩
  | _=>False
def JB(ag:Bool)(sz bytes:Nat)(K:D->S->Prop)(s:S)(x:D)(ys:Option (List D)):Prop :=
 match ys with
 | none=>False
 | some ys =>
  ys.all (fit sz)=true ∧
  match x with
  | .nils| .e0=>if ys=[] then K x s else
    (ys.length*bytes<=2^47/\ys.length<2^62/\K (.ms ag sz s.H.length 0 ys.length ys.length) ⟨s.t,s.H++[.row (AX ys)],s.T⟩)
  | .ms g z o off n cap=>match s.H[o]? with
   | some (.row cs)=>z=sz/\if n+ys.length<=cap then(off+cap*sz<=cs.length/\K (.ms g z o off (n+ys.length) cap) ⟨s.t,s.H.set o (.row (cs.take (off+n*sz)++AX ys++cs.drop (off+(n+ys.length)*sz))),s.T⟩)
     else(off=0/\cs.length=n*sz/\(n+ys.length)*bytes<=2^47/\n+ys.length<2^62/\K (.ms g z s.H.length 0 (n+ys.length) (n+ys.length)) ⟨s.t,s.H.set o .dead++[.row (cs++AX ys)],s.T⟩)
   | _=>False
  | _=>False
def Ll(sz:Nat)(K:D->S->Prop)(s:S)(x:D)(ys:Option (List D)):Prop :=
 match ys with
 | none=>False
 | some ys =>
  ys.all (fit sz)=true ∧
  match x with
  | .nils| .e0=>K (.int .i64 0) s
  | .sl _ []=>K (.int .i64 0) s
  | .ms _ z o off n _=>match s.H[o]? with
   | some (.row cs)=>z=sz/\off+n*sz<=cs.length/\K (.int .i64 (min ys.length n:Nat)) ⟨s.t,s.H.set o (.row (cs.take off++AX (ys.take (min ys.length n))++cs.drop (off+min ys.length n*sz))),s.T⟩
   | _=>False
  | _=>False
def LI(z:List D)(K:D->S->Prop)(s:S):D->Prop
 | .nils| .e0=>K (.tup []) s
 | .sl _ []=>K (.tup []) s
 | .ms _ sz o off n _=>match s.H[o]? with
  | some (.row cs)=>sz=z.length/\off+n*sz<=cs.length/\K (.tup []) ⟨s.t,s.H.set o (.row (cs.take off++(A6G n z).flatten++cs.drop (off+n*sz))),s.T⟩
  | _=>False
 | _=>False
def OG(ag:Bool)(sz bytes:Nat)(z:List D)(K:D->S->Prop)(s:S)(n m:D):Prop :=
 match n,m with
 | .int _ a,.int _ b=>0<=a/\a<=b/\b*bytes<=2^47/\b<2^62/\z.length=sz/\K (.ms ag sz s.H.length 0 a.toNat b.toNat) ⟨s.t,s.H++[.row (A6G b.toNat z).flatten],s.T⟩
 | _,_=>False
def KJ(ag:Bool)(sz bytes:Nat)(z:List D)(K:D->S->Prop)(s:S)(x y:D):Prop :=
 (x= .nils∨x= .e0)/\match y with
 | .int _ n=>0<n/\n*bytes<=2^47/\n<2^62/\z.length=sz/\K (.ms ag sz s.H.length 0 n.toNat n.toNat) ⟨s.t,s.H++[.row (A6G n.toNat z).flatten],s.T⟩
 | _=>False
def L8(K:D->S->Prop)(s:S):D->Prop
 | .str l=>K (.sl (some s.T.length) (BQ l)) ⟨s.t,s.H,s.T++[some (l.length,1)]⟩
 | _=>False
def HP(X:BF)(args:List D)(K:D->S->Prop)(s:S):D->Prop
 | .fn f first cap=>X f (first++args++cap) s.H s.T (fun r H T=>K r ⟨s.t,H,T⟩)
 | _=>False
def bW(X:BF)(args:List D)(K:D->S->Prop)(s:S):D->Prop
 | .fn f first cap=>∃r,Tp X s.H f (first++args++cap) r/\K r s
 | _=>False
def fF(n:Nat)(K:D->S->Prop)(s:S)(a v:D):Prop :=
 match a with
 | .ptr o off=>match s.H[o]? with
  | some (.row cs)=>v.okc=true/\v.cells.length=n/\off+n<=cs.length/\K .top ⟨s.t,s.H.set o (.row (cs.take off++v.cells++cs.drop (off+n))),s.T⟩
  | _=>False
 | _=>False
def pu1:D->Bool
 | .int _ _| .bool _=>true
 | .str l=>decide (l.length<2^62)
 | _=>false
def pu:D->Bool
 | .agg cs=>cs.all pu1
 | d=>pu1 d
def kok(ks:Bool×List Ck)(a:D):Bool:=pu a&&match ks.1,a with
 | true,.agg xs=>Dn xs ks.2
 | true,_=>false
 | false,d=>Dn [d] ks.2
def keq(ks:Bool×List Ck)(a b:D):Option Bool:=match ks.1,a,b with
 | true,.agg xs,.agg ys=>if Dn xs ks.2 then aG xs ys else none
 | true,_,_=>none
 | false,a,b=>if Dn [a] ks.2 then bV a b else none
def fnd(ks:Bool×List Ck)(k:D):List (D×D×Nat)->Nat->Option (Option (Nat×D×Nat))
 | [],_=>some none
 | (k',v,b)::es,i=>match keq ks k k' with
  | some true=>some (some (i,v,b))
  | some false=>fnd ks k es (i+1)
  | none=>none
def E0(H:Hp):D->Option (List (D×D×Nat))
 | .nilm=>some []
 | .mp o=>(match H[o]? with|some (.map es _)=>some es|_=>none)
 | _=>none
def Gv(H:Hp)(ks:Bool×List Ck)(zv:D)(ok:Bool)(m k:D):Option D :=
 if kok ks k then(match E0 H m with
  | some es=>(match fnd ks k es 0 with
   | some (some (_,v,_))=>some (if ok then .tup [v,.bool true] else v)
   | some none=>some (if ok then .tup [zv,.bool false] else zv)
   | none=>none)
  | none=>none) else none
def slq:List D->D
 | []=>.e0
 | x::xs=>.sl none (x::xs)
def qv(s:S):O->Option D
 | .mv x=>some (s.ev x)
 | .mvs x=>(match s.ev x with| .str l=>some (.str l)|_=>none)
 | .pick c a b=>(match s.ev c with| .bool t=>some (if t then s.ev a else s.ev b)|_=>none)
 | .build z parts=>uK z (parts.map fun p=>(p.1,p.2.1,s.ev p.2.2))
 | .bslq sz xs=>if(xs.map s.ev).all (fit sz) then some (slq (xs.map s.ev)) else none
 | .load ag n a=>ld ag n (Bx s.H (s.ev a))
 | .nilc x=>N2 (s.ev x)
 | .bin op x y=>DZ op (s.ev x) (s.ev y)
 | .eqa ks neg x y=>RW ks neg (s.ev x) (s.ev y)
 | .eq1 q neg x y=>(Ko q (s.ev x) (s.ev y)).map fun b=>.bool (b !=neg)
 | .un op x=>un1 op (s.ev x)
 | .conv k x=>(match s.ev x with| .int _ n=>some (.int k (k.wrap n))|_=>none)
 | .s2bq x=>(match s.ev x with| .str l=>some (.sl none (BQ l))|_=>none)
 | .b2s x=>JU (s.ev x)
 | .mkfn f first cap=>some (.fn f (first.map s.ev) (cap.map s.ev))
 | .sls sz x lo hi=>(match C2 (s.ev x) with|some n=>slc sz (BX s 0 lo) (BX s n hi) (s.ev x)|none=>none)
 | .sls3 sz x lo hi mx=>(match C2 (s.ev x) with|some n=>OV sz (BX s 0 lo) (BX s n hi) (BX s n mx) (s.ev x)|none=>none)
 | .subs x lo hi=>(match dW (s.ev x) with|some n=>sub (BX s 0 lo) (BX s n hi) (s.ev x)|none=>none)
 | .faddr off x=>fa off (s.ev x)
 | .field ag off n x=>fld ag off n (s.ev x)
 | .iaddr sz x i=>ia sz (s.ev x) (s.ev i)
 | .iarr sz len x i=>Lm sz len (s.ev x) (s.ev i)
 | .idxs x i=>ixs (s.ev x) (s.ev i)
 | .idxa ag sz len x i=>ixa ag sz len (s.ev x) (s.ev i)
 | .ext i x=>QN i (s.ev x)
 | .len x=>(C2 (s.ev x)).map fun n=>.int .i64 n
 | .capz x=>(Qw (s.ev x)).map fun n=>.int .i64 n
 | .lens x=>(dW (s.ev x)).map fun n=>.int .i64 n
 | .mn a b=>mn2 (s.ev a) (s.ev b)
 | .mx a b=>mx2 (s.ev a) (s.ev b)
 | .mlen x=>(E0 s.H (s.ev x)).map fun es=>.int .i64 (es.length:Int)
 | .mget ks zv ok m k=>if pu zv then Gv s.H ks zv ok (s.ev m) (s.ev k) else none
 | _=>none
def Pj(ks:Bool×List Ck)(K:D->S->Prop)(s:S)(m k v:D):Prop :=
 kok ks k=true/\pu v=true/\match m with
 | .mp o=>(match s.H[o]? with
  | some (.map es clk)=>(match fnd ks k es 0 with
   | some (some (i,_,b))=>K .top ⟨s.t,s.H.set o (.map (es.set i (k,v,b)) clk),s.T⟩
   | some none=>K .top ⟨s.t,s.H.set o (.map (es++[(k,v,clk)]) (clk+1)),s.T⟩
   | none=>False)
  | _=>False)
 | _=>False
def LR(ks:Bool×List Ck)(zv:D)(K:D->S->Prop)(s:S)(m k:D):Prop :=
 kok ks k=true/\pu zv=true/\match m with
 | .mp o=>(match s.H[o]? with
  | some (.map es clk)=>(match fnd ks k es 0 with
   | some (some (i,v,b))=>K (.tup [v,.int .i64 (b:Int)]) ⟨s.t,s.H.set o (.map (es.set i (k,v,b)) clk),s.T⟩
   | some none=>K (.tup [zv,.int .i64 (clk:Int)]) ⟨s.t,s.H.set o (.map (es++[(k,zv,clk)]) (clk+1)),s.T⟩
   | none=>False)
  | _=>False)
 | _=>False
def Qz(K:D->S->Prop)(s:S)(m b v:D):Prop :=
 pu v=true/\match m,b with
 | .mp o,.int _ n=>(match s.H[o]? with
  | some (.map es clk)=>(match es.findIdx? (fun e=>(e.2.2:Int)==n) with
   | some i=>(match es[i]? with
    | some e=>K .top ⟨s.t,s.H.set o (.map (es.set i (e.1,v,e.2.2)) clk),s.T⟩
    | none=>False)
   | none=>False)
  | _=>False)
 | _,_=>False
def atK(K:D->S->Prop)(s:S)(i:Nat)(z:List D):Option Ob->Prop
 | some .hole=>K (.ptr i 0) ⟨s.t,s.H.set i (.row z),s.T⟩
 | _=>False
def JS(K:D->S->Prop)(s:S)(i:Nat)(z:List D):Option Ob->Prop
 | some .hole=>K (.ptr i 0) ⟨s.t,s.H.set i (.raw z),s.T⟩
 | _=>False
def Gp(K:D->S->Prop)(s:S)(i n:Nat)(a v:D):Option Ob->Prop
 | some (.raw z)=>a= .ptr i 0/\z.length=n/\v.okc=true/\v.cells.length=n/\K .top ⟨s.t,s.H.set i (.row v.cells),s.T⟩
 | _=>False
def WO(X:BF)(o:O)(s:S)(K:D->S->Prop):Prop :=
 match o with
 | .alloc z=>K (.ptr s.H.length 0) ⟨s.t,s.H++[.row z],s.T⟩
 | .allocAt j z=>atK K s (s.H.length - j) z s.H[s.H.length - j]?
 | .rawAt j z=>j<=s.H.length/\JS K s (s.H.length - j) z s.H[s.H.length - j]?
 | .fillAt j n a v=>j<=s.H.length/\Gp K s (s.H.length - j) n (s.ev a) (s.ev v) s.H[s.H.length - j]?
 | .box x=>(s.ev x).okc=true/\K (.ptr s.H.length 0) ⟨s.t,s.H++[.row (s.ev x).cells],s.T⟩
 | .boxAt j x=>(s.ev x).okc=true/\atK K s (s.H.length - j) (s.ev x).cells s.H[s.H.length - j]?
 | .bsl sz xs=>(xs.map s.ev).all (fit sz)=true/\K (.sl (some s.T.length) (xs.map s.ev)) ⟨s.t,s.H,s.T++[some (xs.length,sz)]⟩
 | .store n a v=>fF n K s (s.ev a) (s.ev v)
 | .s2b x=>L8 K s (s.ev x)
 | .b2m x=>K1 K s (UE s.H (s.ev x))
 | .call f args=>HP X (args.map s.ev) K s (s.ev f)
 | .pcall f args=>bW X (args.map s.ev) K s (s.ev f)
 | .app st sz bytes x y=>Eb sz bytes K s (s.ev x) (aQ st (s.ev y))
 | .appm ag st sz bytes x y=>JB ag sz bytes K s (s.ev x) (C9 s.H st sz (s.ev y))
 | .bslm ag sz xs=>(xs.map s.ev).all (fit sz)=true/\K (.ms ag sz s.H.length 0 xs.length xs.length) ⟨s.t,s.H++[.row (AX (xs.map s.ev))],s.T⟩
 | .copy sz x y=>Ll sz K s (s.ev x) (C9 s.H false sz (s.ev y))
 | .clr z x=>LI z K s (s.ev x)
 | .mkm ag sz bytes z n m=>OG ag sz bytes z K s (s.ev n) (s.ev m)
 | .appz ag sz bytes z x y=>KJ ag sz bytes z K s (s.ev x) (s.ev y)
 | .mkmap=>K (.mp s.H.length) ⟨s.t,s.H++[.map [] 0],s.T⟩
 | .mput ks m k v=>Pj ks K s (s.ev m) (s.ev k) (s.ev v)
 | .ment ks zv m k=>LR ks zv K s (s.ev m) (s.ev k)
 | .mst m b v=>Qz K s (s.ev m) (s.ev b) (s.ev v)
 | o=>K1 K s (qv s o)
def gd(s:S):Option (Nat×Bool)->Option Bool
 | none=>some true
 | some (g,w)=>match s.t g with| .bool b=>some (b==w)| .tup []=>some false|_=>none
def WIk(X:BF)(d:Option Nat)(o:O)(s:S)(K:S->Prop):Option Bool->Prop
 | some true=>WO X o s (fun v s'=>K (s'.put d v))
 | some false=>K (s.put d (.tup []))
 | none=>False
def WI(X:BF)(i:I)(s:S)(K:S->Prop):Prop:=WIk X i.d i.o s K (gd s i.g)
def Wr(X:BF):List I->(S->Prop)->S->Prop
 | [],Q,s=>Q s
 | i::is,Q,s=>WI X i s (Wr X is Q)
def I8(X:BF)(i:I)(s:S):Prop :=
 match gd s i.g,i.d with
 | some true,some d=>WO X i.o s (fun v _=>v=s.t d)
 | _,_=>True
def d8(X:BF):List I->S->Prop
 | [],_=>True
 | i::is,s=>I8 X i s/\d8 X is s
def Wd(X:BF):List (I×List I)->(S->Prop)->S->Prop
 | [],Q,s=>Q s
 | (i,re)::is,Q,s=>WI X i s (fun s'=>d8 X re s'/\Wd X is Q s')
def EH(f:S->Prop)(Q:Ex->S->Prop):Ex->S->Prop
 | .normal,s=>f s
 | .exit id,s=>Q (.exit id) s
 | .ret,s=>Q .ret s
def Oa(id:Nat)(Q:Ex->S->Prop):Ex->S->Prop
 | .normal,s=>Q .normal s
 | .exit j,s=>if j=id then Q .normal s else Q (.exit j) s
 | .ret,s=>Q .ret s
def W(X:BF):C->(Ex->S->Prop)->S->Prop
 | .skip,Q,s=>Q .normal s
 | .reg is,Q,s=>Wr X is (Q .normal) s
 | .draw na is,Q,s=>Wd X is (Q .normal) ⟨s.t,s.H++A6G na .hole,s.T⟩
 | .seq a b,Q,s=>W X a (EH (W X b Q) Q) s
 | .cond c a b,Q,s=>(match s.ev c with| .bool t=>if t then W X a Q s else W X b Q s|_=>False)
 | .block id c,Q,s=>W X c (Oa id Q) s
 | .loop c,Q,s=>∃(Iv:S->Prop) (μ:S->Nat),Iv s/\∀s,Iv s->W X c (EH (fun s'=>Iv s'/\μ s'<μ s) Q) s
 | .exit id,Q,s=>Q (.exit id) s
 | .ret,Q,s=>Q .ret s
 | .stop,_,_=>False
end GP
namespace GP
@[reducible] def Im(d x:Nat):I:=⟨some d,none,.mv (.t x)⟩
@[reducible] def In(d x:Nat):I:=⟨some d,none,.nilc (.t x)⟩
@[reducible] def If(d o x:Nat):I:=⟨some d,none,.faddr o (.t x)⟩
@[reducible] def Il(d x:Nat):I:=⟨some d,none,.load false 1 (.t x)⟩
@[reducible] def Ia(d n x:Nat):I:=⟨some d,none,.load true n (.t x)⟩
@[reducible] def Ic(d f:Nat)(l:List Rd):I:=⟨some d,none,.call (.k (.fn f [] [])) l⟩
@[reducible] def Ip(d f:Nat)(l:List Rd):I:=⟨some d,none,.pcall (.k (.fn f [] [])) l⟩
@[reducible] def Ie(d n x:Nat):I:=⟨some d,none,.ext n (.t x)⟩
@[reducible] def Iz(d x:Nat):I:=⟨some d,none,.len (.t x)⟩
@[reducible] def Is(n x y:Nat):I:=⟨none,none,.store n (.t x) (.t y)⟩
@[reducible] def Jm(d g:Nat)(b:Bool)(x:Nat):I:=⟨some d,some (g,b),.mv (.t x)⟩
@[reducible] def Jf(d g:Nat)(b:Bool)(o x:Nat):I:=⟨some d,some (g,b),.faddr o (.t x)⟩
@[reducible] def Jl(d g:Nat)(b:Bool)(x:Nat):I:=⟨some d,some (g,b),.load false 1 (.t x)⟩
@[reducible] def Ki(n:Int):Rd:=.k (.int .i64 n)
@[reducible] def I1(d:Nat)(o:O):I:=⟨some d,none,o⟩
@[reducible] def I2(d g:Nat)(o:O):I:=⟨some d,some (g,true),o⟩
@[reducible] def I3(d g:Nat)(o:O):I:=⟨some d,some (g,false),o⟩
@[reducible] def I4(o:O):I:=⟨none,none,o⟩
@[reducible] def Rg(l:List I)(c:C):C:=.seq (.reg l) c
def Rq(n:Nat):List O->List I->List I
 | [],r=>r
 | o::l,r=>⟨some n,none,o⟩::Rq (n+1) l r
def Rv(n g:Nat):List O->List I->List I
 | [],r=>r
 | o::l,r=>⟨some n,some (g,true),o⟩::Rv (n+1) g l r
def Rz(n g:Nat):List O->List I->List I
 | [],r=>r
 | o::l,r=>⟨some n,some (g,false),o⟩::Rz (n+1) g l r
@[reducible] def Ql(x y:Nat):O:=.pick (.t x) (.k (.bool true)) (.t y)
@[reducible] def Qm(x y:Nat):O:=.pick (.t x) (.t y) (.k (.bool false))
@[reducible] def Qn(n x y:Nat):O:=.iaddr n (.t x) (.t y)
@[reducible] def Qo(x:Nat):O:=.box (.t x)
@[reducible] def Qp(x:Nat):O:=.un .not (.t x)
@[reducible] def Qq:O:=.mv (.k (.bool false))
@[reducible] def Qr:O:=.mv (.k (.bool true))
@[reducible] def Qs(x:Nat):O:=.lens (.t x)
@[reducible] def Qa(x:Nat):O:=.mv (.t x)
@[reducible] def Qb(b:Go.BinOp)(x y:Nat):O:=.bin b (.t x) (.t y)
@[reducible] def Qc(o x:Nat):O:=.faddr o (.t x)
@[reducible] def Qd(x:Nat):O:=.load false 1 (.t x)
@[reducible] def Qe(n x:Nat):O:=.load true n (.t x)
@[reducible] def Qf(f:Nat)(l:List Rd):O:=.call (.k (.fn f [] [])) l
@[reducible] def Qg(f:Nat)(l:List Rd):O:=.pcall (.k (.fn f [] [])) l
@[reducible] def Qh(n x:Nat):O:=.ext n (.t x)
@[reducible] def Qi(x:Nat):O:=.len (.t x)
@[reducible] def Qj(b:Go.BinOp)(x:Nat)(n:Int):O:=.bin b (.t x) (.k (.int .i64 n))
@[reducible] def Qk(n:Int):O:=.mv (.k (.int .i64 n))
@[reducible] def KT:Rd:=.k (.bool true)
@[reducible] def KF:Rd:=.k (.bool false)
@[reducible] def KN:Rd:=.k .nils
@[reducible] def Ks(s:List UInt8):Rd:=.k (.str s)
@[reducible] def Kf(f:Nat):Rd:=.k (.fn f [] [])
end GP
namespace GP
open Go
structure Below(B:Bool×Nat)(w w':World):Prop where
 os:w'.os=w.os
 tape:w'.tape=w.tape
 output:w'.output=w.output
 size:w.heap.size<=w'.heap.size
 block:∀k,k<B.2->w'.heap[k]? =w.heap[k]?
 drawn:B.1=true->w.drawn<=w'.drawn
theorem Below.refl(B:Bool×Nat)(w:World):Below B w w:=⟨rfl,rfl,rfl,A6E _,fun _ _=>rfl,fun _=>A6E _⟩
theorem Below.trans{B:Bool×Nat}{a b c:World}(h:Below B a b)(k:Below B b c):Below B a c :=
 ⟨k.os.trans h.os,k.tape.trans h.tape,k.output.trans h.output,A7E h.size k.size,fun i hi=>(k.block i hi).trans (h.block i hi),fun e=>A7E (h.drawn e) (k.drawn e)⟩
theorem Below.mono{b:Bool}{B B':Nat}{w w':World}(h:Below (b,B) w w')(hB:B'<=B):Below (b,B') w w':=⟨h.os,h.tape,h.output,h.size,fun k hk=>h.block k (A7R hk hB),h.drawn⟩
theorem Below.drew{B:Bool×Nat}{a w:World}(h:Below B a w):Below B a w.drew:=⟨h.os,h.tape,h.output,h.size,h.block,fun e=>A7w (h.drawn e)⟩
theorem Below.alloc{B:Bool×Nat}{a w:World}(h:Below B a w)(hB:B.2<=w.heap.size)(o:Obj):Below B a (w.alloc o) :=
 h.trans ⟨rfl,rfl,rfl,by simp,fun k hk=>RowKit.Below.heap_alloc _ _ _ (by omega),fun _=>A6E _⟩
theorem Below.of_kit{B:Nat}{w w':World}(h:RowKit.Below B w w'):Below (false,B) w w':=⟨h.os,h.tape,h.output,h.size,h.block,fun e=>by cases e⟩
theorem Below.kit{B:Bool×Nat}{w w':World}(h:Below B w w'):RowKit.Below B.2 w w':=⟨h.os,h.tape,h.output,h.size,h.block⟩
structure Cx where
 M:Addr->Option Value
 β:Nat->Nat
 κ:Nat->Addr×Nat
 bd:Nat->Bool
 T:Tk
 bb:Bool×Nat
 sz:Nat->Nat
abbrev Cx.B(c:Cx):Nat:=c.bb.2
inductive Rep(c:Cx):D->Value->Prop where
 | bool (b:Bool):Rep c (.bool b) (.bool b)
 | int (k:IntKind) (n:Int):Rep c (.int k n) (.int k n)
 | str (l:List UInt8) (h:l.length<2^62):Rep c (.str l) (.string ⟨l.toArray⟩)
 | nilp:Rep c .nilp (.pointer none)
 | ptr (o off:Nat) (h:c.bd o=true):Rep c (.ptr o off) (.pointer (some ⟨c.β o,off,none⟩))
 | el (cs:List D) (a:Addr) (vs:Nat->Value) (ha:a.spot=none) (h1:∀d∈cs,d.one=true)
   (hM:∀i,i<cs.length->c.M ⟨a.block,a.off+i,none⟩=some (vs i)) (hr:∀i (h:i<cs.length),Rep c cs[i] (vs i)):Rep c (.el cs) (.pointer (some a))
 | nils:Rep c .nils (.slice none 0 0)
 | sl (t:Option Nat) (xs:List D) (a:Option Addr) (cap sz:Nat) (vs:Nat->Nat->Value) (hlen:xs.length<=cap) (hb:xs.length<2^62)
   (hsz:∀x∈xs,x.cells.length=sz) (h1:∀x∈xs,∀y∈x.cells,y.one=true) (ha:xs≠[]->∃b,a=some b) (hs:xs≠[]->∀b,a=some b->b.spot=none)
   (hM:∀i,i<xs.length->∀j,j<sz->∀b,a=some b->c.M ⟨b.block,b.off+i*sz+j,none⟩=some (vs i j))
   (hr:∀i (h:i<xs.length) j (hj:j<(xs[i].cells).length),Rep c (xs[i].cells)[j] (vs i j))
   (htl:∀τ,t=some τ->τ<c.T.length)
   (ht:∀τ,t=some τ->∀n z,c.T[τ]? =some (some (n,z))->xs.length<=n/\(xs.length=n->a=some (c.κ τ).1/\cap=(c.κ τ).2)) :
   Rep c (.sl t xs) (.slice a xs.length cap)
 | ms (ag:Bool) (z o off len cap rc:Nat) (h:c.bd o=true) (h1:len<=cap) (h2:cap<=rc) (h3:off+rc*z<=c.sz o):Rep c (.ms ag z o off len cap) (.slice (some ⟨c.β o,off,none⟩) len rc)
 | e0 (a:Option Addr):Rep c .e0 (.slice a 0 0)
 | fn (f:FuncId) (p q:List D) (vp vq:List Value) (hp:vp.length=p.length) (hq:vq.length=q.length)
   (hpr:∀i (h:i<p.length) (h':i<vp.length),Rep c p[i] vp[i]) (hqr:∀i (h:i<q.length) (h':i<vq.length),Rep c q[i] vq[i]) :
   Rep c (.fn f p q) (.func (.func f) vp.toArray vq.toArray)
 | nilf:Rep c .nilf .nilFunc
 | mp (o:Nat) (h:c.bd o=true):Rep c (.mp o) (.map (some (c.β o)))
 | nilm:Rep c .nilm (.map none)
 | nili:Rep c .nili .nilIface
 | ifc (t:TypeId) (d:D) (v:Value) (h:Rep c d v):Rep c (.ifc t d) (.iface t v)
 | agg (cs:List D) (vs:List Value) (hl:vs.length=cs.length) (h1:∀d∈cs,d.one=true) (hr:∀i (h:i<cs.length) (h':i<vs.length),Rep c cs[i] vs[i]) :
   Rep c (.agg cs) (.agg vs.toArray)
 | tup (cs:List D) (vs:List Value) (hl:vs.length=cs.length) (hr:∀i (h:i<cs.length) (h':i<vs.length),Rep c cs[i] vs[i]) :
   Rep c (.tup cs) (.tuple vs.toArray)
 | top (v:Value):Rep c .top v
structure Cx.le(c c':Cx):Prop where
 M:∀a v,c.M a=some v->c'.M a=some v
 bd:∀o,c.bd o=true->c'.bd o=true
 β:∀o,c.bd o=true->c'.β o=c.β o
 T:c.T.length<=c'.T.length
 dead:∀τ:Nat,c.T[τ]? =some none->c'.T[τ]? =some none
 tok:∀(τ n z:Nat),c.T[τ]? =some (some (n,z))->c'.T[τ]? =some none∨∃n',c'.T[τ]? =some (some (n',z))/\n<=n'/\(n'=n->c'.κ τ=c.κ τ)
 B:c'.bb=c.bb
 sz:∀o,c.bd o=true->c'.sz o=c.sz o
theorem Cx.le.refl(c:Cx):c.le c:=⟨fun _ _ h=>h,fun _ h=>h,fun _ _=>rfl,A6E _,fun _ h=>h,fun _ n _ h=>.inr ⟨n,h,A6E _,fun _=>rfl⟩,rfl,fun _ _=>rfl⟩
theorem Cx.le.trans{a b c:Cx}(h:a.le b)(k:b.le c):a.le c where
 M:=fun x v hx=>k.M x v (h.M x v hx)
 bd:=fun o ho=>k.bd o (h.bd o ho)
 β:=fun o ho=>(k.β o (h.bd o ho)).trans (h.β o ho)
 T:=A7E h.T k.T
 dead:=fun τ hτ=>k.dead τ (h.dead τ hτ)
 tok:=fun τ n z hτ=>by
  rcases h.tok τ n z hτ with h1|⟨n',h1,h2,h3⟩
  ·exact .inl (k.dead τ h1)
  ·rcases k.tok τ n' z h1 with k1|⟨n'',k1,k2,k3⟩
   ·exact .inl k1
   ·exact .inr ⟨n'',k1,A7E h2 k2,fun e=>by
     have e1:n'=n:=by omega
     rw[k3 (by omega),h3 e1]⟩
 B:=k.B.trans h.B
 sz:=fun o ho=>(k.sz o (h.bd o ho)).trans (h.sz o ho)
theorem Rep.mono{c c':Cx}(h:c.le c'){d:D}{v:Value}(hr:Rep c d v):Rep c' d v:=by
 induction hr with
 | bool b=>exact .bool b
 | int k n=>exact .int k n
 | str l h=>exact .str l h
 | nilp=>exact .nilp
 | ptr o off ho=>rw[<- h.β o ho];exact .ptr o off (h.bd o ho)
 | el cs a vs ha h1 hM _ ih=>exact .el cs a vs ha h1 (fun i hi=>h.M _ _ (hM i hi)) ih
 | nils=>exact .nils
 | sl t xs a cap sz vs hlen hb hsz h1 ha hs hM _ htl ht ih =>
  refine .sl t xs a cap sz vs hlen hb hsz h1 ha hs (fun i hi j hj b hb=>h.M _ _ (hM i hi j hj b hb)) ih (fun τ hτ=>A7R (htl τ hτ) h.T) ?_
  intro τ hτ n z hn
  have hlt:=htl τ hτ
  cases hold:c.T[τ]? with
  | none=>simp at hold;omega
  | some x =>
   cases x with
   | none=>rw[h.dead τ hold] at hn;cases hn
   | some p =>
    obtain⟨n0,z0⟩:=p
    obtain⟨g1,g2⟩:=ht τ hτ n0 z0 hold
    rcases h.tok τ n0 z0 hold with h3|⟨n',h3,h4,h5⟩
    ·rw[h3] at hn;cases hn
    ·rw[h3] at hn
     injection hn with hn;injection hn with hn;injection hn with hn1 hn2
     subst hn1
     refine⟨by omega,fun e=>?_⟩
     have e1:n'=n0:=by omega
     rw[h5 e1]
     exact g2 (by omega)
 | ms ag z o off len cap rc ho h1 h2 h3=>rw[<- h.β o ho];exact .ms ag z o off len cap rc (h.bd o ho) h1 h2 (by rw[h.sz o ho];exact h3)
 | e0 a=>exact .e0 a
 | fn f p q vp vq hp hq _ _ ih1 ih2=>exact .fn f p q vp vq hp hq ih1 ih2
 | nilf=>exact .nilf
 | mp o ho=>rw[<- h.β o ho];exact .mp o (h.bd o ho)
 | nilm=>exact .nilm
 | nili=>exact .nili
 | ifc t d v _ ih=>exact .ifc t d v ih
 | agg cs vs hl h1 _ ih=>exact .agg cs vs hl h1 ih
 | tup cs vs hl _ ih=>exact .tup cs vs hl ih
 | top v=>exact .top v
theorem Rep.oneCell{c:Cx}{d:D}{v:Value}(h:Rep c d v)(h1:d.one=true):v.oneCell'=true:=by
 cases h<;>simp[D.one,Value.oneCell'] at *
structure Cells(c:Cx)(ds:List D)(vs:List Value):Prop where
 len:vs.length=ds.length
 one:∀d∈ds,d.one=true
 rep:∀i (h:i<ds.length) (h':i<vs.length),Rep c ds[i] vs[i]
theorem Cells.mono{c c':Cx}(h:c.le c'){ds:List D}{vs:List Value}(k:Cells c ds vs):Cells c' ds vs:=⟨k.len,k.one,fun i h1 h2=>(k.rep i h1 h2).mono h⟩
theorem Cells.cell{c:Cx}{ds:List D}{vs:List Value}(k:Cells c ds vs):∀v∈vs,v.oneCell'=true:=by
 intro v hv
 obtain⟨i,hi,rfl⟩:=A7d hv
 have hi':i<ds.length:=by rw[<- k.len];exact hi
 exact(k.rep i hi' hi).oneCell (k.one _ (A6I hi'))
theorem Rep.cells{c:Cx}{d:D}{v:Value}(h:Rep c d v)(hk:d.okc=true):Cells c d.cells v.cells.toList:=by
 cases h with
 | agg cs vs hl h1 hr=>exact⟨by simpa[Value.cells,D.cells] using hl,by simpa[D.cells] using h1,fun i h h'=>hr i h h'⟩
 | tup=>simp[D.okc] at hk
 | top=>simp[D.okc] at hk
 | _ =>
  refine⟨by simp[Value.cells,D.cells],by simp[D.cells,D.one],fun i h h'=>?_⟩
  have hi:i=0:=by simp[D.cells] at h;omega
  subst hi
  simp only[D.cells,Value.cells,A7C]
  first
   | (constructor<;>assumption)
   | exact .bool _
   | exact .int _ _
   | exact .nilp
   | exact .e0 _
   | exact .nils
   | exact .nilf
   | exact .nilm
   | exact .nili
structure Reps(c:Cx)(ds:List D)(vs:List Value):Prop where
 len:vs.length=ds.length
 rep:∀i (h:i<ds.length) (h':i<vs.length),Rep c ds[i] vs[i]
theorem Reps.mono{c c':Cx}(h:c.le c'){ds:List D}{vs:List Value}(k:Reps c ds vs):Reps c' ds vs:=⟨k.len,fun i h1 h2=>(k.rep i h1 h2).mono h⟩
theorem Reps.append{c:Cx}{d1 d2:List D}{v1 v2:List Value}(h1:Reps c d1 v1)(h2:Reps c d2 v2):Reps c (d1++d2) (v1++v2):=by
 refine⟨by simp[h1.len,h2.len],fun i h h'=>?_⟩
 by_cases hi:i<d1.length
 ·rw[A60 hi,A60 (by rw[h1.len];exact hi)]
  exact h1.rep i _ _
 ·rw[A6Y (by omega),A6Y (by rw[h1.len];omega)]
  have:=h2.rep (i - d1.length) (by simp at h;omega) (by simp[h1.len,h2.len] at h' ⊢;omega)
  simpa[h1.len] using this
theorem Reps.nil{c:Cx}:Reps c [] []:=⟨rfl,fun i h _=>absurd h (by simp)⟩
theorem Reps.map{c:Cx}{α:Type}(l:List α)(f:α->D)(g:α->Value)(h:∀x∈l,Rep c (f x) (g x)):Reps c (l.map f) (l.map g) :=
 ⟨by simp,fun i h1 h2=>by simpa using h _ (A6I _)⟩
def Ob.live:Ob->Bool
 | .dead| .hole=>false
 | _=>true
def DC:D->Value
 | .int k n=>.int k n
 | .str l=>.string ⟨l.toArray⟩
 | .bool b=>.bool b
 | _=>.bool false
def vOf:D->Value
 | .agg cs=>.agg (cs.map DC).toArray
 | d=>DC d
def D2(e:D×D×Nat):MapEntry:={ key:=vOf e.1,val:=vOf e.2.1,born:=e.2.2 }
theorem gR(c:Cx){d:D}(h:pu1 d=true):Rep c d (DC d)/\d.one=true:=by
 cases d<;>simp[pu1] at h
 ·exact⟨.bool _,rfl⟩
 ·exact⟨.int _ _,rfl⟩
 ·exact⟨.str _ h,rfl⟩
theorem lL(c:Cx){d:D}(h:pu d=true):Rep c d (vOf d):=by
 cases d with
 | agg cs =>
  simp only[pu,A6W] at h
  refine .agg cs (cs.map DC) (by simp) (fun d hd=>(gR c (h d hd)).2) (fun i hi hi'=>?_)
  simp only[A7l]
  exact(gR c (h _ (A6I hi))).1
 | bool b=>exact .bool b
 | int k n=>exact .int k n
 | str l=>exact .str l (by simpa[pu,pu1] using h)
 | _=>simp[pu,pu1] at h
theorem wY{c:Cx}{d:D}{v:Value}(h:pu1 d=true)(hr:Rep c d v):v=DC d:=by
 cases d<;>simp[pu1] at h<;>cases hr<;>rfl
theorem fO{c:Cx}{d:D}{v:Value}(h:pu d=true)(hr:Rep c d v):v=vOf d:=by
 cases d with
 | agg cs =>
  simp only[pu,A6W] at h
  cases hr with
  | agg _ vs hl h1 hr =>
   show Value.agg _=Value.agg _
   congr 2
   refine A7W (by simp[hl]) fun i hi hi'=>?_
   simp only[A7l]
   have hi2:i<cs.length:=by omega
   exact wY (h _ (A6I hi2)) (hr i hi2 hi)
 | bool b=>cases hr;rfl
 | int k n=>cases hr;rfl
 | str l=>cases hr;rfl
 | _=>simp[pu,pu1] at h
structure RowAt(c:Cx)(w:World)(b n:Nat)(cs:List D):Prop where
 hold:∃(vs rest:List Value) (e:TypeId) (fr:Nat×Nat),w.heap[b]? =some (.cells (vs++rest).toArray e fr)/\Cells c cs vs/\vs.length+rest.length=n/\∀i,i<n-> ¬(fr.1<=i/\i<fr.2)
structure Inv(c:Cx)(w:World)(H:Hp):Prop where
 keep:∀a v,c.M a=some v->w.cell? a=some v
 low:c.B<=w.heap.size
 row:∀(o:Nat) x cs,H[o]? =some x->x.cells? =some cs->RowAt c w (c.β o) (c.sz o) cs
 free:∀o,(H.length<=o∨H[o]? =some .hole)->c.bd o=false
 own:∀(o:Nat) x,H[o]? =some x->x.live=true->c.bd o=true/\c.B<=c.β o/\c.β o<w.heap.size/\∀i,c.M ⟨c.β o,i,none⟩=none
 apart:∀(o o':Nat) x x',H[o]? =some x->H[o']? =some x'->x.live=true->x'.live=true->c.β o=c.β o'->o=o'
 map:∀(o:Nat) es clk,H[o]? =some (.map es clk)->(∀x∈es,pu x.1=true/\pu x.2.1=true)/\w.heap[c.β o]? =some (.map (es.map D2).toArray clk)
 iter:∀(o:Nat) m l,H[o]? ≠some (.iter m l)
 tok:∀(τ n z:Nat),c.T[τ]? =some (some (n,z))->c.B<=(c.κ τ).1.block/\(c.κ τ).1.block<w.heap.size/\(c.κ τ).1.spot=none/\n<=(c.κ τ).2 ∧
  ∀j,n*z<=j->j<(c.κ τ).2*z->(w.cell? ⟨(c.κ τ).1.block,(c.κ τ).1.off+j,none⟩).isSome=true/\w.frozen? ⟨(c.κ τ).1.block,(c.κ τ).1.off+j,none⟩=false ∧
   c.M ⟨(c.κ τ).1.block,(c.κ τ).1.off+j,none⟩=none
 tokrow:∀(τ n z o:Nat) x,c.T[τ]? =some (some (n,z))->H[o]? =some x->x.live=true->c.β o≠(c.κ τ).1.block
 toks:∀(τ n z τ' n' z':Nat),c.T[τ]? =some (some (n,z))->c.T[τ']? =some (some (n',z'))->(c.κ τ).1.block=(c.κ τ').1.block->τ=τ'
def FR(c:Cx)(t:Nat->D)(a:Act):Prop:=∀i,Rep c (t i) (a.tmps.getD i undef)
structure Sim(c:Cx)(s:S)(a:Act)(w:World):Prop where
 T:c.T=s.T
 inv:Inv c w s.H
 fr:FR c s.t a
theorem FR.mono{c c':Cx}(h:c.le c'){t:Nat->D}{a:Act}(k:FR c t a):FR c' t a:=fun i=>(k i).mono h
theorem FR.put{c:Cx}{t:Nat->D}{a:Act}(k:FR c t a){i:Nat}{d:D}{v:Value}(hr:Rep c d v)(hi:i<a.tmps.size):FR c (upd t i d) (a.put (some i) v):=by
 intro j
 simp only[upd,Act.put]
 by_cases h:j=i
 ·subst h;simpa[hi] using hr
 ·rw[if_neg h]
  have:=k j
  simpa[Array.getElem?_setIfInBounds_ne (Ne.symm h)] using this
def NJ:Value->Option D
 | .bool b=>some (.bool b)
 | .int k n=>some (.int k n)
 | .string s=>if s.data.toList.length<2^62 then some (.str s.data.toList) else none
 | .pointer none=>some .nilp
 | .slice none 0 0=>some .nils
 | .map none=>some .nilm
 | .nilFunc=>some .nilf
 | .nilIface=>some .nili
 | _=>none
def Lf:List Value->Option (List D)
 | []=>some []
 | v::vs=>match NJ v,Lf vs with
  | some d,some ds=>some (d::ds)
  | _,_=>none
def Q2:Value->Option D
 | .agg cs=>(Lf cs.toList).map .agg
 | v=>NJ v
def cRd:Operand->Option Rd
 | .tmp t=>some (.t t)
 | .const v=>(Q2 v).map .k
 | .func f=>some (.k (.fn f [] []))
 | .global _=>none
def LB:List Operand->Option (List Rd)
 | []=>some []
 | x::xs=>match cRd x,LB xs with
  | some r,some rs=>some (r::rs)
  | _,_=>none
def tsz(P:Program)(t:TypeId):Option Nat:=(P.info? t).map (·.size)
def tag(P:Program)(t:TypeId):Option Bool:=(P.underlying t).map fun d=>match d with| .struct _| .array _ _=>true|_=>false
def tz(P:Program)(t:TypeId):Option (List D) :=
 match P.info? t with
 | some i=>match i.zero with
  | some z=>(Q2 z).map (·.cells)
  | none=>none
 | none=>none
theorem fH{v:Value}{d:D}(h:NJ v=some d)(c:Cx):Rep c d v/\d.one=true:=by
 unfold NJ at h
 split at h
 case h_3 s =>
  split at h
  ·rename_i hl
   injection h with h;subst h
   exact⟨Rep.str _ hl,rfl⟩
  ·cases h
 all_goals first
  | (injection h with h;subst h;refine⟨?_,rfl⟩;constructor)
  | cases h
theorem j9:∀{vs:List Value} {ds:List D},Lf vs=some ds->∀c:Cx,Cells c ds vs
 | [],ds,h,c=>by simp[Lf] at h;subst h;exact⟨rfl,by simp,fun i h _=>absurd h (by simp)⟩
 | v::vs,ds,h,c=>by
  simp only[Lf] at h
  split at h
  ·rename_i d ds' h1 h2
   injection h with h;subst h
   have k:=j9 h2 c
   obtain⟨r1,r2⟩:=fH h1 c
   refine⟨by simp[k.len],?_,?_⟩
   ·intro x hx
    cases hx with
    | head=>exact r2
    | tail _ hx=>exact k.one x hx
   ·intro i hi hi'
    cases i with
    | zero=>exact r1
    | succ i=>exact k.rep i (by simpa using hi) (by simpa using hi')
  ·cases h
theorem lU{v:Value}{d:D}(h:Q2 v=some d)(c:Cx):Rep c d v/\d.okc=true:=by
 unfold Q2 at h
 split at h
 ·rename_i cs
  cases hl:Lf cs.toList with
  | none=>rw[hl] at h;cases h
  | some ds =>
   rw[hl] at h
   injection h with h;subst h
   have k:=j9 hl c
   exact⟨Rep.agg ds cs.toList k.len k.one k.rep,rfl⟩
 ·obtain⟨r1,r2⟩:=fH h c
  refine⟨r1,?_⟩
  cases d<;>simp_all [D.one,D.okc]
theorem Aa{x:Operand}{r:Rd}(h:cRd x=some r){c:Cx}{s:S}{a:Act}(hf:FR c s.t a):Rep c (s.ev r) (a.eval x):=by
 cases x with
 | tmp t=>simp[cRd] at h;subst h;exact hf t
 | const v =>
  simp only[cRd] at h
  cases hc:Q2 v with
  | none=>rw[hc] at h;cases h
  | some d=>rw[hc] at h;injection h with h;subst h;exact(lU hc c).1
 | func f=>simp[cRd] at h;subst h;exact Rep.fn f [] [] [] [] rfl rfl (fun i h _=>absurd h (by simp)) (fun i h _=>absurd h (by simp))
 | global g=>simp[cRd] at h
theorem cD:∀{xs:List Operand} {rs:List Rd},LB xs=some rs->∀{c:Cx} {s:S} {a:Act},FR c s.t a->Reps c (rs.map s.ev) (xs.map a.eval)
 | [],rs,h,c,s,a,hf=>by simp[LB] at h;subst h;exact Reps.nil
 | x::xs,rs,h,c,s,a,hf=>by
  simp only[LB] at h
  split at h
  ·rename_i r rs' h1 h2
   injection h with h;subst h
   have k:=cD h2 hf
   refine⟨by simp[<- k.len],fun i hi hi'=>?_⟩
   cases i with
   | zero=>exact Aa h1 hf
   | succ i=>exact k.rep i (by simpa using hi) (by simpa using hi')
  ·cases h
theorem Addr.add_eq(a:Addr)(h:a.spot=none)(i:Nat):a.add i=⟨a.block,a.off+i,none⟩:=by
 obtain⟨b,o,s⟩:=a
 simp only at h
 subst h
 unfold Addr.add
 split
 ·rename_i h0;simp[h0]
 ·rfl
theorem lE{c:Cx}{w:World}{H:Hp}(hi:Inv c w H){d:D}{v:Value}(hr:Rep c d v){cs:List D}(h:Bx H d=some cs):
  ∃(a:Addr) (vs:List Value),v= .pointer (some a)/\a.spot=none/\Cells c cs vs/\∀(i:Nat) u,vs[i]? =some u->w.cell? (a.add i)=some u:=by
 cases hr with
 | el cs' a vs ha h1 hM hr =>
  simp[Bx] at h;subst h
  refine⟨a,(A7U cs'.length).map vs,rfl,ha,⟨by simp,h1,fun i h h'=>by simpa using hr i h⟩,?_⟩
  intro i u hu
  have hlt:i<cs'.length:=by
   rcases A6F i cs'.length with h'|h'
   ·exact h'
   ·rw[A6A (by simpa using h')] at hu;cases hu
  rw[A7x,A7N hlt] at hu
  injection hu with hu;subst hu
  rw[Addr.add_eq a ha]
  exact hi.keep _ _ (hM i hlt)
 | ptr o off ho =>
  simp only[Bx] at h
  split at h
  ·rename_i cs' hH
   injection h with h;subst h
   obtain⟨vs,rest,e,fr,h1,h2,h4,h3⟩:=(hi.row o _ cs' hH rfl).hold
   refine⟨⟨c.β o,off,none⟩,vs.drop off,rfl,rfl,⟨by simp[h2.len],fun d hd=>h2.one d (A6Z hd),fun i h h'=>by simpa using h2.rep (off+i) (by simp at h;omega) (by simp at h';omega)⟩,?_⟩
   intro i u hu
   rw[Addr.add_eq _ rfl]
   simp only[A63,h1]
   rw[A66] at hu
   have hlt:off+i<vs.length:=by
    rcases A6F (off+i) vs.length with h'|h'
    ·exact h'
    ·rw[A6A h'] at hu;cases hu
   simp only[A6Q]
   rw[A6D hlt];exact hu
  ·cases h
 | _=>simp[Bx] at h
variable {P:Program}
theorem KS{t:TypeId}{i:TypeInfo}(h:P.info? t=some i)(w:World):(typeInfo t).run P w= .ok i w:=by simp[typeInfo,h]
theorem Af{t:TypeId}{n:Nat}(h:tsz P t=some n)(w:World):(Go.sizeOf t).run P w= .ok n w:=by
 unfold tsz at h
 cases hi:P.info? t with
 | none=>rw[hi] at h;cases h
 | some i=>rw[hi] at h;injection h with h;simp[Go.sizeOf,KS hi,h]
theorem aP{t:TypeId}{b:Bool}(h:tag P t=some b)(w:World):(isAgg t).run P w= .ok b w:=by
 unfold tag at h
 cases hu:P.underlying t with
 | none=>rw[hu] at h;cases h
 | some d =>
  rw[hu] at h;injection h with h
  subst h
  cases d<;>simp[isAgg,run_underlying hu]
theorem bL{t:TypeId}{z:List D}(h:tz P t=some z)(c:Cx):∃v:Value,(∀w,(zeroValue t).run P w= .ok v w)/\Cells c z v.cells.toList:=by
 unfold tz at h
 split at h
 ·rename_i i hi
  split at h
  ·rename_i v hz
   cases hc:Q2 v with
   | none=>rw[hc] at h;cases h
   | some d =>
    rw[hc] at h;injection h with h;subst h
    obtain⟨r1,r2⟩:=lU hc c
    exact⟨v,fun w=>by simp[zeroValue,KS hi,hz],r1.cells r2⟩
  ·cases h
 ·cases h
theorem Cells.take{c:Cx}{ds:List D}{vs:List Value}(k:Cells c ds vs)(n:Nat):Cells c (ds.take n) (vs.take n) :=
 ⟨by simp[k.len],fun d hd=>k.one d (A69 hd),fun i h h'=>by simpa using k.rep i (by simp at h;omega) (by simp at h';omega)⟩
theorem Cells.drop{c:Cx}{ds:List D}{vs:List Value}(k:Cells c ds vs)(n:Nat):Cells c (ds.drop n) (vs.drop n) :=
 ⟨by simp[k.len],fun d hd=>k.one d (A6Z hd),fun i h h'=>by simpa using k.rep (n+i) (by simp at h;omega) (by simp at h';omega)⟩
theorem Cells.append{c:Cx}{d1 d2:List D}{v1 v2:List Value}(h1:Cells c d1 v1)(h2:Cells c d2 v2):Cells c (d1++d2) (v1++v2):=by
 have:=Reps.append ⟨h1.len,h1.rep⟩ ⟨h2.len,h2.rep⟩
 refine⟨this.len,fun d hd=>?_,this.rep⟩
 rcases A72.1 hd with h|h
 ·exact h1.one d h
 ·exact h2.one d h
theorem L3{c:Cx}{w:World}{H:Hp}(hi:Inv c w H){d r:D}{v:Value}(hr:Rep c d v){t:TypeId}{ag:Bool}{n:Nat}(h1:tag P t=some ag)(h2:tsz P t=some n)
  (h:ld ag n (Bx H d)=some r):∃u,(Instr.loadAt t v).run P w= .ok u w/\Rep c r u:=by
 cases hrd:Bx H d with
 | none=>rw[hrd] at h;cases h
 | some cs =>
  rw[hrd] at h
  obtain⟨a,vs,rfl,ha,k,hcell⟩:=lE hi hr hrd
  cases ag with
  | true =>
   simp only[ld,if_true] at h
   split at h
   ·rename_i hn
    injection h with h;subst h
    refine⟨.agg (vs.take n).toArray,?_,?_⟩
    ·have hl:(vs.take n).length=n:=by rw[A64,k.len];omega
     have:=run_loadCells_list (P:=P) w a (vs.take n) (fun j u hu=>hcell j u (by
      rcases A6F j n with h'|h'
      ·rwa [A6R h'] at hu
      ·rw[A6A (by omega)] at hu;cases hu))
     rw[hl] at this
     simp[Instr.loadAt,Instr.sureAddr,loadVar,aP h1,Af h2,this]
    ·have k':=k.take n
     exact Rep.agg _ _ k'.len k'.one k'.rep
   ·cases h
  | false =>
   simp only[ld,A7g,if_false] at h
   cases cs with
   | nil=>cases h
   | cons x cs =>
    injection h with h;subst h
    cases vs with
    | nil=>have:=k.len;simp at this
    | cons u us =>
     refine⟨u,?_,k.rep 0 (by simp) (by simp)⟩
     have:=hcell 0 u rfl
     simp[Addr.add] at this
     simp[Instr.loadAt,Instr.sureAddr,loadVar,aP h1,this]
end GP
namespace GP
open Go
variable {P:Program} {c:Cx} {w:World} {H:Hp}
theorem Nj{off:Nat}{d r:D}{v:Value}(hr:Rep c d v)(h:fa off d=some r):∃a:Addr,v= .pointer (some a)/\a.spot=none/\Rep c r (.pointer (some ⟨a.block,a.off+off,none⟩)):=by
 cases hr with
 | el cs a vs ha h1 hM hr =>
  simp[fa] at h;subst h
  refine⟨a,rfl,ha,Rep.el (cs.drop off) _ (fun i=>vs (off+i)) rfl (fun d hd=>h1 d (A6Z hd)) (fun i hi=>?_) (fun i hi=>?_)⟩
  ·have:=hM (off+i) (by simp at hi;omega)
   simpa[A8d] using this
  ·simpa using hr (off+i) (by simp at hi;omega)
 | ptr o f ho=>simp[fa] at h;subst h;exact⟨_,rfl,rfl,Rep.ptr o (f+off) ho⟩
 | _=>simp[fa] at h
def cX(P:Program)(t:TypeId):Option (Array Field):=match P.underlying t with|some (.struct fs)=>some fs|_=>none
def Ak(P:Program)(t:TypeId):Option TypeId:=match P.underlying t with|some (.slice e)=>some e|_=>none
def f9(P:Program)(t:TypeId):Option (Nat×TypeId):=match P.underlying t with|some (.array n e)=>some (n,e)|_=>none
theorem cO{t:TypeId}{fs:Array Field}(h:cX P t=some fs):P.underlying t=some (.struct fs):=by unfold cX at h;split at h<;>simp_all
theorem Ai{t e:TypeId}(h:Ak P t=some e):P.underlying t=some (.slice e):=by unfold Ak at h;split at h<;>simp_all
theorem dS{t e:TypeId}{n:Nat}(h:f9 P t=some (n,e)):P.underlying t=some (.array n e):=by unfold f9 at h;split at h<;>simp_all
theorem NL{t:TypeId}{fs:Array Field}{k:Nat}{f:Field}{n:Nat}(ht:cX P t=some fs)(hf:fs[k]? =some f)(hn:tsz P f.type=some n)(h0:n≠0)
  {d r:D} {v:Value} (hr:Rep c d v) (h:fa f.offset d=some r):∃u,(Instr.fieldAt t v k).run P w= .ok u w/\Rep c r u:=by
 obtain⟨a,rfl,ha,hrep⟩:=Nj hr h
 refine⟨_,?_,hrep⟩
 simp[Instr.fieldAt,run_underlying (cO ht),hf,Instr.sureAddr,fieldPlace,Af hn,h0,Addr.add_eq a ha]
theorem Cells.sub{ds:List D}{vs:List Value}(k:Cells c ds vs)(lo hi:Nat):Cells c (aH ds lo hi) (aH vs lo hi):=by
 unfold aH;exact(k.take hi).drop lo
theorem i6{t:TypeId}{ag:Bool}{n off:Nat}(h1:tag P t=some ag)(h2:tsz P t=some n){ds:List D}{vs:List Value}(k:Cells c ds vs){r:D}(h:Nt ag off n ds=some r):
  ∃u,(part t vs.toArray off).run P w= .ok u w/\Rep c r u:=by
 cases ag with
 | true =>
  simp only[Nt,if_true] at h
  split at h
  ·rename_i hle
   injection h with h;subst h
   have k':=k.sub off (off+n)
   refine⟨.agg (aH vs off (off+n)).toArray,?_,Rep.agg _ _ k'.len k'.one k'.rep⟩
   simp[part,aP h1,Af h2,aH,A7K,A7u,A8a]
  ·cases h
 | false =>
  simp only[Nt,A7g,if_false] at h
  have hlt:off<ds.length:=by
   rcases A6F off ds.length with h'|h'
   ·exact h'
   ·rw[A6A h'] at h;cases h
  rw[A6H hlt] at h
  injection h with h;subst h
  have hlt':off<vs.length:=by rw[k.len];exact hlt
  refine⟨vs[off],?_,k.rep off hlt hlt'⟩
  simp[part,aP h1,hlt']
theorem nK{t:TypeId}{fs:Array Field}{k:Nat}{f:Field}{ag:Bool}{n:Nat}(ht:cX P t=some fs)(hf:fs[k]? =some f)(h1:tag P f.type=some ag)(h2:tsz P f.type=some n)
  {d r:D} {v:Value} (hr:Rep c d v) (h:fld ag f.offset n d=some r):∃u,(Instr.field t v k).run P w= .ok u w/\Rep c r u:=by
 cases hr with
 | agg cs vs hl h1' hr =>
  simp only[fld] at h
  obtain⟨u,e1,e2⟩:=i6 (w:=w) h1 h2 ⟨hl,h1',hr⟩ h
  exact⟨u,by simp[Instr.field,run_underlying (cO ht),hf,asAgg,e1],e2⟩
 | _=>simp[fld] at h
theorem tN{t e:TypeId}{sz:Nat}(ht:Ak P t=some e)(hn:tsz P e=some sz){ag:Bool}{z o off len cap:Nat}{n:Int}{k:IntKind}{vx:Value}(hx:Rep c (.ms ag z o off len cap) vx)(h0:0<=n)(hlt:n<len)(hz:z=sz):
  ∃u,(Instr.indexAt t vx (.int k n)).run P w= .ok u w/\Rep c (.ptr o (off+n.toNat*sz)) u:=by
 cases hx with
 | ms _ _ _ _ _ _ rc hbd h1 h2 h3 =>
  refine⟨.pointer (some ⟨c.β o,off+n.toNat*sz,none⟩),?_,Rep.ptr o _ hbd⟩
  have hadd:Addr.add ⟨c.β o,off,none⟩ (n.toNat*sz)=⟨c.β o,off+n.toNat*sz,none⟩:=Addr.add_eq _ rfl _
  simp[Instr.indexAt,asIntOf,run_underlying (Ai ht),h0,hlt,Af hn,hadd]
theorem mP{t e:TypeId}{sz:Nat}(ht:Ak P t=some e)(hn:tsz P e=some sz){x i r:D}{vx vi:Value}(hx:Rep c x vx)(hi:Rep c i vi)(h:ia sz x i=some r):
  ∃u,(Instr.indexAt t vx vi).run P w= .ok u w/\Rep c r u:=by
 cases hx with
 | sl τ xs a cap sz' vs hlen hb hsz h1 ha hs hM hr htl ht' =>
  cases hi with
  | int k n =>
   simp only[ia] at h
   split at h
   ·rename_i h0
    cases hg:xs[n.toNat]? with
    | none=>rw[hg] at h;cases h
    | some d =>
     rw[hg] at h
     simp only[iaE] at h
     split at h
     ·rename_i hd
      injection h with h;subst h
      have hlt:n.toNat<xs.length:=by
       rcases A6F n.toNat xs.length with h'|h'
       ·exact h'
       ·rw[A6A h'] at hg;cases hg
      rw[A6H hlt] at hg
      injection hg with hg;subst hg
      obtain⟨b,rfl⟩:=ha (by intro h';subst h';simp at hlt)
      have hbs:=hs (by intro h';subst h';simp at hlt) b rfl
      have hszs:sz'=sz:=by rw[<- hd,hsz _ (A6I hlt)]
      subst hszs
      have hnn:n<(xs.length:Int):=by omega
      refine⟨.pointer (some (b.add (n.toNat*sz'))),?_,?_⟩
      ·simp[Instr.indexAt,asIntOf,run_underlying (Ai ht),h0,hnn,Af hn]
      ·rw[Addr.add_eq b hbs]
       refine Rep.el _ _ (fun j=>vs n.toNat j) rfl (h1 _ (A6I hlt)) (fun j hj=>?_) (fun j hj=>hr n.toNat hlt j hj)
       exact hM n.toNat hlt j (by rw[hd] at hj;exact hj) b rfl
     ·cases h
   ·cases h
  | _=>simp[ia] at h
 | ms ag z o off len cap rc hbd h1 h2 h3 =>
  cases hi with
  | int k n =>
   simp only[ia] at h
   split at h
   ·rename_i h0
    injection h with h;subst h
    exact tN ht hn (Rep.ms ag z o off len cap rc hbd h1 h2 h3) h0.1 h0.2.1 h0.2.2
   ·cases h
  | _=>simp[ia] at h
 | _=>simp[ia] at h
theorem oM{t e:TypeId}{sz len:Nat}(ht:f9 P t=some (len,e))(hn:tsz P e=some sz){x i r:D}{vx vi:Value}(hx:Rep c x vx)(hi:Rep c i vi)(h:Lm sz len x i=some r):
  ∃u,(Instr.indexAt t vx vi).run P w= .ok u w/\Rep c r u:=by
 cases hi with
 | int k n =>
  simp only[Lm] at h
  split at h
  ·rename_i h0
   obtain⟨a,rfl,ha,hrep⟩:=Nj hx h
   refine⟨.pointer (some (a.add (n.toNat*sz))),?_,by rw[Addr.add_eq a ha];exact hrep⟩
   simp[Instr.indexAt,asIntOf,run_underlying (dS ht),h0.1,h0.2,Af hn,Instr.sureAddr]
  ·cases h
 | _=>simp[Lm] at h
theorem OW{t e:TypeId}{sz len:Nat}{ag:Bool}(ht:f9 P t=some (len,e))(hn:tsz P e=some sz)(hg:tag P e=some ag){x i r:D}{vx vi:Value}(hx:Rep c x vx)(hi:Rep c i vi)(h:ixa ag sz len x i=some r):
  ∃u,(Instr.index t vx vi).run P w= .ok u w/\Rep c r u:=by
 cases hx with
 | agg cs vs hl h1 hr =>
  cases hi with
  | int k n =>
   simp only[ixa] at h
   split at h
   ·rename_i h0
    obtain⟨u,e1,e2⟩:=i6 (w:=w) hg hn ⟨hl,h1,hr⟩ h
    exact⟨u,by simp[Instr.index,asIntOf,run_underlying (dS ht),h0.1,h0.2,Af hn,e1],e2⟩
   ·cases h
  | _=>simp[ixa] at h
 | _=>simp[ixa] at h
theorem nT{t:TypeId}(ht:P.underlying t=some .string){x i r:D}{vx vi:Value}(hx:Rep c x vx)(hi:Rep c i vi)(h:ixs x i=some r):
  ∃u,(Instr.index t vx vi).run P w= .ok u w/\Rep c r u:=by
 cases hx with
 | str l hl =>
  cases hi with
  | int k n =>
   simp only[ixs] at h
   split at h
   ·rename_i h0
    cases hg:l[n.toNat]? with
    | none=>rw[hg] at h;cases h
    | some b =>
     rw[hg] at h;injection h with h;subst h
     refine⟨.int .u8 b.toNat,?_,Rep.int _ _⟩
     have hlt:n.toNat<l.length:=by
      rcases A6F n.toNat l.length with h'|h'
      ·exact h'
      ·rw[A6A h'] at hg;cases hg
     have hgb:(⟨l.toArray⟩:ByteArray)[n.toNat]? =some b:=by
      rw[A6H hlt] at hg
      injection hg with hg
      have hs:n.toNat<(⟨l.toArray⟩:ByteArray).size:=by simpa[ByteArray.size] using hlt
      rw[getElem?_pos (⟨l.toArray⟩:ByteArray) n.toNat hs]
      congr 1
     simp[Instr.index,asIntOf,run_underlying ht,h0,hgb]
   ·cases h
  | _=>simp[ixs] at h
 | _=>simp[ixs] at h
theorem rL{k:Nat}{x r:D}{v:Value}(hx:Rep c x v)(h:QN k x=some r):∃u,(Instr.extract v k).run P w= .ok u w/\Rep c r u:=by
 cases hx with
 | tup cs vs hl hr =>
  simp only[QN] at h
  have hlt:k<cs.length:=by
   rcases A6F k cs.length with h'|h'
   ·exact h'
   ·rw[A6A h'] at h;cases h
  rw[A6H hlt] at h
  injection h with h;subst h
  have hlt':k<vs.length:=by rw[hl];exact hlt
  exact⟨vs[k],by simp[Instr.extract,hlt'],hr k hlt hlt'⟩
 | _=>simp[QN] at h
theorem fC(l:List UInt8):(⟨l.toArray⟩:ByteArray).toList=l:=by rw[ByteArray.toList_eq]
theorem eO(l:List UInt8):(⟨l.toArray⟩:ByteArray).size=l.length:=by simp[ByteArray.size]
theorem QH(a b:List UInt8):(⟨a.toArray⟩:ByteArray)++⟨b.toArray⟩=⟨(a++b).toArray⟩:=by
 apply ByteArray.ext
 simp[ByteArray.data_append]
theorem iC(l:List UInt8)(lo hi:Nat):(⟨l.toArray⟩:ByteArray).extract lo hi=⟨(aH l lo hi).toArray⟩:=by
 apply ByteArray.ext
 simp[ByteArray.data_extract,aH,A7K,A7u,A8a]
theorem rG{op:BinOp}{t:TypeId}{ox oy:Operand}{x y r:D}{vx vy:Value}(hx:Rep c x vx)(hy:Rep c y vy)(h:DZ op x y=some r):
  ∃u,(do eqGuard op t ox oy vx vy;Go.binOp op t vx vy:Sem Value).run P w= .ok u w/\Rep c r u:=by
 cases hx with
 | int k a =>
  cases hy with
  | int k' b =>
   have hg:(eqGuard op t ox oy (.int k a) (.int k' b)).run P w= .ok () w:=by
    unfold eqGuard;cases op<;>simp
   simp only[DZ] at h
   by_cases hs:kK op=true
   ·rw[if_pos hs] at h
    unfold X8 at h
    split at h
    ·cases h
    ·rename_i hb
     cases op<;>simp[kK] at hs<;>simp only[Option.some.injEq] at h<;>subst h <;>
      exact⟨_,by simp[hg,Go.binOp,Op.shift,hb];try rfl,Rep.int _ _⟩
   ·rw[if_neg hs] at h
    split at h
    ·rename_i hk
     subst hk
     cases op<;>simp[kK] at hs<;>simp only[Fa] at h
     case quo =>
      split at h
      ·cases h
      ·rename_i hb
       simp only[Option.some.injEq] at h;subst h
       exact⟨_,by simp only[A6J,hg,A6C,Go.binOp,ne_eq,not_true_eq_false,if_false,Op.intDiv,if_neg hb];rfl,Rep.int _ _⟩
     case rem =>
      split at h
      ·cases h
      ·rename_i hb
       simp only[Option.some.injEq] at h;subst h
       exact⟨_,by simp only[A6J,hg,A6C,Go.binOp,ne_eq,not_true_eq_false,if_false,Op.intDiv,if_neg hb];rfl,Rep.int _ _⟩
     all_goals first
      | (simp only[Option.some.injEq] at h;subst h;exact⟨_,by simp only[A6J,hg,A6C,Go.binOp,ne_eq,not_true_eq_false,if_false,Op.intArith,Op.intBits,Op.intCmp];rfl,by constructor⟩)
      | cases h
    ·cases h
  | _=>simp[DZ] at h
 | str a ha =>
  cases hy with
  | str b hb =>
   have hg:(eqGuard op t ox oy (.string ⟨a.toArray⟩) (.string ⟨b.toArray⟩)).run P w= .ok () w:=by
    unfold eqGuard;cases op<;>simp
   simp only[DZ] at h
   cases op<;>simp only[PQ] at h
   case add =>
    split at h
    ·rename_i hl
     simp only[Option.some.injEq] at h;subst h
     refine⟨.string ⟨(a++b).toArray⟩,?_,Rep.str _ (by simpa using hl)⟩
     have: ¬((((⟨a.toArray⟩:ByteArray).size+(⟨b.toArray⟩:ByteArray).size:Nat):Int)>IntKind.i64.max):=by
      rw[eO,eO]
      have e:IntKind.i64.max=9223372036854775807:=rfl
      rw[e];omega
     simp only[A6J,hg,A6C,Go.binOp,Op.stringOp]
     rw[if_neg this,QH];rfl
    ·cases h
   all_goals first
    | (simp only[Option.some.injEq] at h;subst h;exact⟨_,by simp only[A6J,hg,A6C,Go.binOp,Op.stringOp,fC];rfl,by constructor⟩)
    | cases h
  | _=>simp[DZ] at h
 | _=>simp[DZ] at h
theorem vE{op:UnOp}{x r:D}{v:Value}(hx:Rep c x v)(h:un1 op x=some r):∃u,(Op.unary op v).run P w= .ok u w/\Rep c r u:=by
 cases hx with
 | bool b=>cases op<;>simp[un1] at h;subst h;exact⟨_,rfl,Rep.bool _⟩
 | int k n =>
  cases op<;>simp only[un1,Option.some.injEq,reduceCtorEq] at h
  ·subst h;exact⟨_,by simp only[Op.unary,Op.intArith,Int.zero_sub];rfl,Rep.int _ _⟩
  ·simp only[Fa,Option.some.injEq] at h;subst h;exact⟨_,by simp only[Op.unary,Op.intBits];rfl,Rep.int _ _⟩
 | _=>simp[un1] at h
theorem oC{src dst:TypeId}{k:IntKind}(hs:(P.underlying src).isSome=true)(hd:P.underlying dst=some (.int k)){n:Int}{k':IntKind}:
  (Go.convert src dst (.int k' n)).run P w= .ok (.int k (k.wrap n)) w:=by
 obtain⟨d,hd'⟩:=A61.mp hs
 simp[Go.convert,run_underlying hd',run_underlying hd,Conv.intToInt]
end GP
namespace GP
open Go
variable {P:Program} {c:Cx} {w:World} {H:Hp}
def H3(P:Program)(t:TypeId):Option Ck :=
 match P.underlying t with
 | some (.int _)=>some .int
 | some .string=>some .str
 | some .bool=>some .bool
 | _=>none
theorem jZ{x y:D}{vx vy:Value}(hx:Rep c x vx)(hy:Rep c y vy){b:Bool}(h:bV x y=some b){t:TypeId}{k:Ck}(ht:H3 P t=some k)(hk:ckD x=some k)(d:Nat):
  (Op.equalIn (d+1) t vx vy).run P w= .ok b w:=by
 unfold H3 at ht
 split at ht<;>first|cases ht|(injection ht with ht;subst ht)
 ·rename_i hu
  cases x<;>simp[ckD] at hk
  cases hx
  cases hy<;>simp[bV] at h
  obtain⟨hkk,rfl⟩:=h
  subst hkk
  exact run_equalIn_int w d t _ _ _ _ hu
 ·rename_i hu
  cases x<;>simp[ckD] at hk
  cases hx
  cases hy<;>simp[bV] at h
  subst h
  rw[run_equalIn_string w d t _ _ hu,fC,fC]
 ·rename_i hu
  cases x<;>simp[ckD] at hk
  cases hx
  cases hy<;>simp[bV] at h
  subst h
  exact run_equalIn_bool' w d t _ _ hu
theorem fA{t:TypeId}{k:Ck}(h:H3 P t=some k):tag P t=some false:=by
 unfold H3 at h
 unfold tag
 split at h<;>simp_all
def OS(P:Program):Nat->List Field->Option (List Ck)
 | _,[]=>some []
 | i, f :: fs => if f.name != "_" && f.offset == i then
   match H3 P f.type,OS P (i+1) fs with
   | some k,some ks=>some (k::ks)
   | _,_=>none
  else none
def cks(P:Program)(t:TypeId):Option (List Ck) :=
 match P.underlying t with
 | some (.struct fs)=>if !P.stoodInHeld t&& !P.eqGuardType P.depth t then OS P 0 fs.toList else none
 | some (.array n e)=>if !P.eqGuardType P.depth t&&(tsz P e==some 1) then(H3 P e).map (A6G n) else none
 | _=>none
theorem cL(d:Nat)(vx vy:List Value):∀(fs:List Field) (ks:List Ck) (i:Nat) (xs ys:List D) (b:Bool),OS P i fs=some ks->Cells c xs (vx.drop i)->Cells c ys (vy.drop i)->Dn xs ks=true →
  aG xs ys=some b->(Op.eqFields (d+1) vx.toArray vy.toArray fs).run P w= .ok b w
 | [],ks,i,xs,ys,b,h1,hx,hy,hk,h=>by
  simp[OS] at h1;subst h1
  cases xs with
  | nil =>
   cases ys with
   | nil=>simp[aG] at h;subst h;simp[Op.eqFields]
   | cons y ys=>simp[aG] at h
  | cons x xs=>simp[Dn] at hk
 | f::fs,ks,i,xs,ys,b,h1,hx,hy,hk,h=>by
  simp only[OS] at h1
  split at h1
  ·rename_i hn
   simp at hn
   split at h1
   ·rename_i k ks' e1 e2
    injection h1 with h1;subst h1
    cases xs with
    | nil=>simp[Dn] at hk
    | cons x xs =>
     cases ys with
     | nil=>simp[aG] at h
     | cons y ys =>
      simp only[Dn,A65,beq_iff_eq] at hk
      simp only[aG] at h
      split at h
      ·rename_i p q e3 e4
       injection h with h;subst h
       have lx:i<vx.length:=by have:=hx.len;simp at this;omega
       have ly:i<vy.length:=by have:=hy.len;simp at this;omega
       have rx:Rep c x vx[i]:=by have:=hx.rep 0 (by simp) (by rw[hx.len];simp);simpa using this
       have ry:Rep c y vy[i]:=by have:=hy.rep 0 (by simp) (by rw[hy.len];simp);simpa using this
       have hx':Cells c xs (vx.drop (i+1)):=by have:=hx.drop 1;simpa[A7v] using this
       have hy':Cells c ys (vy.drop (i+1)):=by have:=hy.drop 1;simpa[A7v] using this
       have px:(part f.type vx.toArray f.offset).run P w= .ok vx[i] w:=by simp[part,aP (fA e1),hn.2,lx]
       have py:(part f.type vy.toArray f.offset).run P w= .ok vy[i] w:=by simp[part,aP (fA e1),hn.2,ly]
       have ih:=cL d vx vy fs ks' (i+1) xs ys q e2 hx' hy' hk.2 e4
       simp only[Op.eqFields]
       rw[if_pos hn.1]
       simp only[A6J,px,py,A6C,jZ rx ry e3 e1 hk.1 d]
       cases p
       ·simp
       ·simpa using ih
      ·cases h
   ·cases h1
  ·cases h1
theorem cS(d:Nat){e:TypeId}{k:Ck}(he:H3 P e=some k)(hsz:tsz P e=some 1)(vx vy:List Value):∀(m i:Nat) (xs ys:List D) (b:Bool),Cells c xs (vx.drop i)->Cells c ys (vy.drop i) →
  Dn xs (A6G m k)=true->aG xs ys=some b->(Op.eqItems (d+1) e 1 vx.toArray vy.toArray (List.range' i m)).run P w= .ok b w
 | 0,i,xs,ys,b,hx,hy,hk,h=>by
  cases xs with
  | nil =>
   cases ys with
   | nil=>simp[aG] at h;subst h;simp[Op.eqItems]
   | cons y ys=>simp[aG] at h
  | cons x xs=>simp[Dn] at hk
 | m+1,i,xs,ys,b,hx,hy,hk,h=>by
  cases xs with
  | nil=>simp[Dn,A7o] at hk
  | cons x xs =>
   cases ys with
   | nil=>simp[aG] at h
   | cons y ys =>
    simp only[A7o,Dn,A65,beq_iff_eq] at hk
    simp only[aG] at h
    split at h
    ·rename_i p q e3 e4
     injection h with h;subst h
     have lx:i<vx.length:=by have:=hx.len;simp at this;omega
     have ly:i<vy.length:=by have:=hy.len;simp at this;omega
     have rx:Rep c x vx[i]:=by have:=hx.rep 0 (by simp) (by rw[hx.len];simp);simpa using this
     have ry:Rep c y vy[i]:=by have:=hy.rep 0 (by simp) (by rw[hy.len];simp);simpa using this
     have hx':Cells c xs (vx.drop (i+1)):=by have:=hx.drop 1;simpa[A7v] using this
     have hy':Cells c ys (vy.drop (i+1)):=by have:=hy.drop 1;simpa[A7v] using this
     have px:(part e vx.toArray (i*1)).run P w= .ok vx[i] w:=by simp[part,aP (fA he),lx]
     have py:(part e vy.toArray (i*1)).run P w= .ok vy[i] w:=by simp[part,aP (fA he),ly]
     have ih:=cS d he hsz vx vy m (i+1) xs ys q hx' hy' hk.2 e4
     simp only[List.range'_succ,Op.eqItems,A6J,px,py,A6C,jZ rx ry e3 he hk.1 d]
     cases p
     ·simp
     ·simpa using ih
    ·cases h
theorem rJ{t:TypeId}{ks:List Ck}(ht:cks P t=some ks){x y:D}{vx vy:Value}(hx:Rep c x vx)(hy:Rep c y vy){xs ys:List D}(ex:x= .agg xs)(ey:y= .agg ys)(hk:Dn xs ks=true){b:Bool}
  (h:aG xs ys=some b) (neg:Bool) (ox oy:Operand) :
  (do eqGuard (if neg then .neq else .eql) t ox oy vx vy;Go.binOp (if neg then .neq else .eql) t vx vy:Sem Value).run P w= .ok (.bool (b !=neg)) w:=by
 subst ex;subst ey
 cases hx with
 | agg _ vx hl h1 hr =>
  cases hy with
  | agg _ vy hl' h1' hr' =>
   have kx:Cells c xs vx:=⟨hl,h1,hr⟩
   have ky:Cells c ys vy:=⟨hl',h1',hr'⟩
   have main:P.eqGuardType P.depth t=false/\(Op.equalIn 10000 t (.agg vx.toArray) (.agg vy.toArray)).run P w= .ok b w:=by
    unfold cks at ht
    split at ht
    ·rename_i fs hu
     split at ht
     ·rename_i hg
      simp at hg
      refine⟨hg.2,?_⟩
      have hf:P.fieldsOf t=fs:=by simp[Program.fieldsOf,hu]
      rw[show(10000:Nat)=9999+1 from rfl,run_equalIn_struct w 9999 t _ _ (by rw[hf];exact hu) hg.1,hf]
      exact cL 9998 vx vy fs.toList ks 0 xs ys b ht (by simpa using kx) (by simpa using ky) hk h
     ·cases ht
    ·rename_i n e hu
     split at ht
     ·rename_i hg
      simp at hg
      refine⟨hg.1,?_⟩
      cases hc:H3 P e with
      | none=>rw[hc] at ht;cases ht
      | some k =>
       rw[hc] at ht;injection ht with ht;subst ht
       obtain⟨i,hi⟩:∃i,P.info? e=some i:=by
        have:=hg.2
        unfold tsz at this
        cases hi:P.info? e with
        | none=>rw[hi] at this;cases this
        | some i=>exact⟨i,rfl⟩
       have hcell:P.cellsOf e=1:=by
        have:=hg.2
        unfold tsz at this
        rw[hi] at this;injection this with this
        simp[Program.cellsOf,hi,this]
       rw[show(10000:Nat)=9999+1 from rfl,run_equalIn_array (P:=P) w 9999 vx.toArray vy.toArray hu hi,hcell,List.range_eq_range']
       exact cS 9998 hc hg.2 vx vy n 0 xs ys b (by simpa using kx) (by simpa using ky) hk h
     ·cases ht
    ·cases ht
   obtain⟨m1,m2⟩:=main
   cases neg
   ·have:=run_eqGuard_agg (P:=P) w .eql t ox oy vx.toArray vy.toArray m1
    simp[this,run_eql_struct,m2]
   ·have:=run_eqGuard_agg (P:=P) w .neq t ox oy vx.toArray vy.toArray m1
    simp[this,run_neq_struct,m2]
end GP
namespace GP
open Go
variable {P:Program} {c:Cx} {w:World} {H:Hp}
def Wj(P:Program)(t:TypeId):Option Tq :=
 match P.underlying t with
 | some .bool=>some .bool
 | some (.pointer _)=>some .ptr
 | some (.slice _)=>some .slc
 | some (.interface _)=>some .ifc
 | some (.map _ _)=>some .mp
 | some (.func _ _ _)=>some .fn
 | _=>none
def jG:Operand->Bool
 | .const _=>true
 | _=>false
theorem bB{t:TypeId}{vx vy:Value}{b neg:Bool}{ox oy:Operand}(hg:∀op,(eqGuard op t ox oy vx vy).run P w= .ok () w)(he:∀d,(Op.equalIn (d+1) t vx vy).run P w= .ok b w)
  (h1:Go.binOp .eql t vx vy=do pure (.bool (← Op.equal t vx vy))) (h2:Go.binOp .neq t vx vy=do pure (.bool (!(← Op.equal t vx vy)))) :
  (do eqGuard (if neg then .neq else .eql) t ox oy vx vy;Go.binOp (if neg then .neq else .eql) t vx vy:Sem Value).run P w= .ok (.bool (b !=neg)) w:=by
 have he':(Op.equal t vx vy).run P w= .ok b w:=he 9999
 cases neg
 ·simp only[A7g,if_false,A6J,hg,A6C,h1,he']
  simp
 ·simp only[if_true,A6J,hg,A6C,h2,he']
  simp
theorem nZ(op:BinOp)(t:TypeId)(ox oy:Operand)(a b:Bool):(eqGuard op t ox oy (.bool a) (.bool b)).run P w= .ok () w:=by cases op<;>rfl
theorem fK(op:BinOp)(t:TypeId)(ox oy:Operand)(a b:Option Addr):(eqGuard op t ox oy (.pointer a) (.pointer b)).run P w= .ok () w:=by cases op<;>rfl
theorem fQ(op:BinOp)(t:TypeId)(ox oy:Operand)(a b:Option Addr)(i j k l:Nat):(eqGuard op t ox oy (.slice a i j) (.slice b k l)).run P w= .ok () w:=by cases op<;>rfl
theorem kD(op:BinOp)(t:TypeId)(ox oy:Operand)(a b:Option Nat):(eqGuard op t ox oy (.map a) (.map b)).run P w= .ok () w:=by cases op<;>rfl
theorem uQ(op:BinOp)(t:TypeId)(ox oy:Operand):(eqGuard op t ox oy .nilFunc .nilFunc).run P w= .ok () w:=by cases op<;>rfl
theorem uO(op:BinOp)(t:TypeId)(ox oy:Operand)(f:Fn)(a b:Array Value):(eqGuard op t ox oy (.func f a b) .nilFunc).run P w= .ok () w:=by cases op<;>rfl
theorem Pv(op:BinOp)(t:TypeId)(ox oy:Operand)(u:TypeId)(a:Value):(eqGuard op t ox oy (.iface u a) .nilIface).run P w= .ok () w:=by cases op<;>rfl
theorem qA(op:BinOp)(t:TypeId)(ox:Operand)(v:Value):(eqGuard op t ox (.const v) .nilIface .nilIface).run P w= .ok () w:=by cases op<;>simp[eqGuard]
theorem sV{t:TypeId}{q:Tq}(ht:Wj P t=some q){x y:D}{vx vy:Value}(hx:Rep c x vx)(hy:Rep c y vy){b:Bool}(h:Ko q x y=some b)(neg:Bool)(ox oy:Operand)(hc:q= .ifc->jG oy=true):
  (do eqGuard (if neg then .neq else .eql) t ox oy vx vy;Go.binOp (if neg then .neq else .eql) t vx vy:Sem Value).run P w= .ok (.bool (b !=neg)) w:=by
 unfold Ko at h
 split at h<;>first|cases h|(injection h with h;subst h)
 all_goals
  unfold Wj at ht
  split at ht<;>first|cases ht|skip
  rename_i hu
  cases hx;cases hy
 ·exact bB (fun op=>nZ op _ _ _ _ _) (fun d=>by simp only[Op.equalIn,A6J,run_underlying hu,A6C];rfl) rfl rfl
 ·exact bB (fun op=>fK op _ _ _ _ _) (fun d=>by simp only[Op.equalIn,A6J,run_underlying hu,A6C];rfl) rfl rfl
 ·have hc':=hc rfl
  cases oy<;>simp[jG] at hc'
  exact bB (fun op=>qA op _ _ _) (fun d=>by simp only[Op.equalIn,A6J,run_underlying hu,A6C];rfl) rfl rfl
 ·exact bB (fun op=>fQ op _ _ _ _ _ _ _ _ _) (fun d=>by simp only[Op.equalIn,A6J,run_underlying hu,A6C];rfl) rfl rfl
 ·exact bB (fun op=>kD op _ _ _ _ _) (fun d=>by simp only[Op.equalIn,A6J,run_underlying hu,A6C];rfl) rfl rfl
 ·exact bB (fun op=>uQ op _ _ _) (fun d=>by simp only[Op.equalIn,A6J,run_underlying hu,A6C];rfl) rfl rfl
 ·exact bB (fun op=>fK op _ _ _ _ _) (fun d=>by simp only[Op.equalIn,A6J,run_underlying hu,A6C];rfl) rfl rfl
 ·exact bB (fun op=>fK op _ _ _ _ _) (fun d=>by simp only[Op.equalIn,A6J,run_underlying hu,A6C];rfl) rfl rfl
 ·exact bB (fun op=>Pv op _ _ _ _ _) (fun d=>by simp only[Op.equalIn,A6J,run_underlying hu,A6C];rfl) rfl rfl
 ·exact bB (fun op=>kD op _ _ _ _ _) (fun d=>by simp only[Op.equalIn,A6J,run_underlying hu,A6C];rfl) rfl rfl
 ·exact bB (fun op=>uO op _ _ _ _ _ _) (fun d=>by simp only[Op.equalIn,A6J,run_underlying hu,A6C];rfl) rfl rfl
 ·rename_i h1 ha _ hM hr ht'
  obtain⟨b',rfl⟩:=ha (List.cons_ne_nil _ _)
  exact bB (fun op=>fQ op _ _ _ _ _ _ _ _ _) (fun d=>by simp only[Op.equalIn,A6J,run_underlying hu,A6C];rfl) rfl rfl
 ·exact bB (fun op=>fQ op _ _ _ _ _ _ _ _ _) (fun d=>by simp only[Op.equalIn,A6J,run_underlying hu,A6C];rfl) rfl rfl
theorem rI{t e:TypeId}(ht:Ak P t=some e){x:D}{v:Value}{n:Nat}(hx:Rep c x v)(h:C2 x=some n)(ty:TypeId):(A7e #[t] ty #[v]).run P w= .ok (.int .i64 n) w:=by
 have ht:=Ai ht
 cases hx with
 | nils=>simp[C2] at h;subst h;simp[A7e,run_underlying ht,goInt]
 | sl=>simp[C2] at h;subst h;simp[A7e,run_underlying ht,goInt]
 | ms=>simp[C2] at h;subst h;simp[A7e,run_underlying ht,goInt]
 | e0=>simp[C2] at h;subst h;simp[A7e,run_underlying ht,goInt]
 | _=>simp[C2] at h
theorem rZ{t e:TypeId}(ht:Ak P t=some e){x:D}{v:Value}{n:Nat}(hx:Rep c x v)(h:Qw x=some n)(ty:TypeId):(A7V #[t] ty #[v]).run P w= .ok (.int .i64 n) w:=by
 have ht:=Ai ht
 cases hx with
 | nils=>simp[Qw] at h;subst h;simp[A7V,run_underlying ht,goInt]
 | e0=>simp[Qw] at h;subst h;simp[A7V,run_underlying ht,goInt]
 | _=>simp[Qw] at h
theorem oG{t:TypeId}(ht:P.underlying t=some .string){x:D}{v:Value}{n:Nat}(hx:Rep c x v)(h:dW x=some n)(ty:TypeId):(A7e #[t] ty #[v]).run P w= .ok (.int .i64 n) w:=by
 cases hx with
 | str l=>simp[dW] at h;subst h;simp only[A7e];simp[run_underlying ht,goInt,eO]
 | _=>simp[dW] at h
theorem uI{ats:Array TypeId}{ty:TypeId}{x y r:D}{vx vy:Value}(hx:Rep c x vx)(hy:Rep c y vy)(h:mn2 x y=some r):∃u,(A8f ats ty #[vx,vy]).run P w= .ok u w/\Rep c r u:=by
 unfold mn2 at h
 split at h<;>first|cases h|(injection h with h;subst h)
 cases hx;cases hy
 exact⟨_,by simp[A8f,Builtin.min2,A8i];try rfl,Rep.int _ _⟩
theorem tY{ats:Array TypeId}{ty:TypeId}{x y r:D}{vx vy:Value}(hx:Rep c x vx)(hy:Rep c y vy)(h:mx2 x y=some r):∃u,(A8g ats ty #[vx,vy]).run P w= .ok u w/\Rep c r u:=by
 unfold mx2 at h
 split at h<;>first|cases h|(injection h with h;subst h)
 cases hx;cases hy
 exact⟨_,by simp[A8g,Builtin.max2,A8i];try rfl,Rep.int _ _⟩
theorem aR{vi:Value}{i:Int}{k:IntKind}(hv:vi= .int k i){y:Nat}(h0:0<=i)(h1:i<=y)(code:BoundsCode):(Instr.sliceBound vi y code).run P w= .ok i.toNat w:=by
 subst hv
 simp[Instr.sliceBound,asIntOf,h0,h1]
theorem bR{s:S}{a:Act}(hf:FR c s.t a){dflt:Nat}{o:Option Rd}{oo:Option Operand}(ho:o=none/\oo=none∨∃r x,o=some r/\oo=some x/\cRd x=some r){i:Int}(h:BX s dflt o=some i):
  (o=none/\oo=none/\i=dflt)∨∃x k,oo=some x/\a.eval x= .int k i/\o≠none:=by
 rcases ho with⟨rfl,rfl⟩|⟨r,x,rfl,rfl,hx⟩
 ·simp[BX] at h;exact .inl ⟨rfl,rfl,h.symm⟩
 ·have hr:=Aa hx hf
  simp only[BX] at h
  split at h
  ·rename_i k n he
   injection h with h;subst h
   rw[he] at hr
   refine .inr ⟨x,k,rfl,?_,by simp⟩
   generalize a.eval x=v at hr
   cases hr
   rfl
  ·cases h
theorem aT{s:S}{a:Act}(hf:FR c s.t a){isSlice:Bool}{len cap:Nat}{lo hi:Option Rd}{olo ohi:Option Operand}
  (hlo:lo=none/\olo=none∨∃r x,lo=some r/\olo=some x/\cRd x=some r) (hhi:hi=none/\ohi=none∨∃r x,hi=some r/\ohi=some x/\cRd x=some r)
  {l h:Int} (el:BX s 0 lo=some l) (eh:BX s len hi=some h) (h0:0<=l) (h1:l<=h) (h2:h<=len) (hc:len<=cap) :
  (Instr.sliceBounds isSlice len cap (olo.map a.eval) (ohi.map a.eval) none).run P w= .ok (l.toNat,h.toNat,cap) w:=by
 rcases bR hf hlo el with⟨-,rfl,rfl⟩|⟨x,k,rfl,ex,-⟩<;>rcases bR hf hhi eh with⟨-,rfl,rfl⟩|⟨y,k',rfl,ey,-⟩
 ·simp[Instr.sliceBounds]
 ·simp[Instr.sliceBounds,aR (P:=P) (w:=w) ey (by omega) (show h<=(cap:Int) by omega)]
 ·have hb:=aR (P:=P) (w:=w) (y:=len) ex h0 (by omega) .sliceB
  simp[Instr.sliceBounds,hb]
 ·have hb2:(if isSlice=true then BoundsCode.sliceAcap else .sliceAlen)=(if isSlice=true then BoundsCode.sliceAcap else .sliceAlen):=rfl
  have hb:=aR (P:=P) (w:=w) (y:=h.toNat) ex h0 (by omega) .sliceB
  simp[Instr.sliceBounds,aR (P:=P) (w:=w) ey (by omega) (show h<=(cap:Int) by omega),hb]
theorem aW{s:S}{a:Act}(hf:FR c s.t a){len cap:Nat}{lo hi mx:Option Rd}{olo ohi omx:Option Operand}
  (hlo:lo=none/\olo=none∨∃r x,lo=some r/\olo=some x/\cRd x=some r) (hhi:∃r x,hi=some r/\ohi=some x/\cRd x=some r) (hmx:∃r x,mx=some r/\omx=some x/\cRd x=some r)
  {l h m:Int} (el:BX s 0 lo=some l) (eh:BX s len hi=some h) (em:BX s len mx=some m) (h0:0<=l) (h1:l<=h) (h2:h<=m) (hc:m<=cap) :
  (Instr.sliceBounds true len cap (olo.map a.eval) (ohi.map a.eval) (omx.map a.eval)).run P w= .ok (l.toNat,h.toNat,m.toNat) w:=by
 obtain⟨rh,xh,rfl,rfl,hxh⟩:=hhi
 obtain⟨rm,xm,rfl,rfl,hxm⟩:=hmx
 rcases bR hf (.inr ⟨rh,xh,rfl,rfl,hxh⟩) eh with⟨e,_⟩|⟨y,k',ey,ey',-⟩
 ·cases e
 rcases bR hf (.inr ⟨rm,xm,rfl,rfl,hxm⟩) em with⟨e,_⟩|⟨z,k'',ez,ez',-⟩
 ·cases e
 injection ey with ey;subst ey
 injection ez with ez;subst ez
 have b1:=aR (P:=P) (w:=w) (y:=cap) ez' (by omega) hc .slice3Acap
 have b2:=aR (P:=P) (w:=w) (y:=m.toNat) ey' (by omega) (by omega) .slice3B
 rcases bR hf hlo el with⟨-,rfl,rfl⟩|⟨x,k,rfl,ex,-⟩
 ·simp[Instr.sliceBounds,b1,b2]
 ·have b3:=aR (P:=P) (w:=w) (y:=h.toNat) ex h0 (by omega) .slice3C
  simp[Instr.sliceBounds,b1,b2,b3]
theorem pK{t:TypeId}(ht:P.underlying t=some .string){s:S}{a:Act}(hf:FR c s.t a){lo hi:Option Rd}{olo ohi:Option Operand}
  (hlo:lo=none/\olo=none∨∃r x,lo=some r/\olo=some x/\cRd x=some r) (hhi:hi=none/\ohi=none∨∃r x,hi=some r/\ohi=some x/\cRd x=some r)
  {x r:D} {v:Value} {n:Nat} (hx:Rep c x v) (hn:dW x=some n) (h:sub (BX s 0 lo) (BX s n hi) x=some r) :
  ∃u,(Instr.sliceAt t v (olo.map a.eval) (ohi.map a.eval) none).run P w= .ok u w/\Rep c r u:=by
 cases hx with
 | str l hl =>
  simp[dW] at hn;subst hn
  simp only[sub] at h
  split at h
  ·rename_i lo' hi' e1 e2
   split at h
   ·rename_i hc
    injection h with h;subst h
    have hb:=aT (P:=P) (w:=w) hf (isSlice:=false) (cap:=l.length) hlo hhi e1 e2 hc.1 hc.2.1 hc.2.2 (A6E _)
    refine⟨.string ⟨(aH l lo'.toNat hi'.toNat).toArray⟩,?_,Rep.str _ (by unfold aH;simp;omega)⟩
    simp[Instr.sliceAt,run_underlying ht,Instr.slice,eO,hb,iC]
   ·cases h
  ·cases h
 | _=>simp[dW] at hn
theorem sU{t e:TypeId}{sz:Nat}(ht:Ak P t=some e)(hsz:tsz P e=some sz){s:S}{a:Act}(hf:FR c s.t a){lo hi:Option Rd}{olo ohi:Option Operand}
  (hlo:lo=none/\olo=none∨∃r x,lo=some r/\olo=some x/\cRd x=some r) (hhi:hi=none/\ohi=none∨∃r x,hi=some r/\ohi=some x/\cRd x=some r)
  {x r:D} {v:Value} {n:Nat} (hx:Rep c x v) (hn:C2 x=some n) (h:slc sz (BX s 0 lo) (BX s n hi) x=some r) :
  ∃u,(Instr.sliceAt t v (olo.map a.eval) (ohi.map a.eval) none).run P w= .ok u w/\Rep c r u:=by
 have ht:=Ai ht
 cases hx with
 | nils =>
  simp[C2] at hn;subst hn
  simp only[slc] at h
  split at h
  ·rename_i lo' hi' e1 e2
   split at h
   ·rename_i hc
    obtain⟨rfl,rfl⟩:=hc
    injection h with h;subst h
    have hb:=aT (P:=P) (w:=w) hf (isSlice:=true) (cap:=0) hlo hhi e1 e2 (by omega) (by omega) (by omega) (A6E _)
    exact⟨.slice none 0 0,by simp[Instr.sliceAt,run_underlying ht,Instr.slice,hb,Af hsz],Rep.nils⟩
   ·cases h
  ·cases h
 | sl τ xs b cap sz' vs hlen hb hszs h1 ha hs hM hr htl ht' =>
  simp[C2] at hn;subst hn
  simp only[slc] at h
  split at h
  ·rename_i lo' hi' e1 e2
   split at h
   ·rename_i hc
    obtain⟨c0,c1,c2,c3⟩:=hc
    injection h with h;subst h
    have hbs:=aT (P:=P) (w:=w) hf (isSlice:=true) (cap:=cap) hlo hhi e1 e2 c0 c1 c2 hlen
    have hlen':(aH xs lo'.toNat hi'.toNat).length=hi'.toNat - lo'.toNat:=by unfold aH;simp;omega
    refine⟨.slice (if cap=lo'.toNat then b else b.map (·.add (lo'.toNat*sz))) (hi'.toNat - lo'.toNat) (cap - lo'.toNat),?_,?_⟩
    ·simp[Instr.sliceAt,run_underlying ht,Instr.slice,hbs,Af hsz]
    ·by_cases hw:lo'=0/\hi'=xs.length
     ·obtain⟨rfl,rfl⟩:=hw
      have e:aH xs (0:Int).toNat (xs.length:Int).toNat=xs:=by simp[aH]
      have e3:(if cap=(0:Int).toNat then b else b.map (·.add ((0:Int).toNat*sz)))=b:=by
       split
       ·rfl
       ·cases b<;>simp[Addr.add]
      rw[e,e3]
      simpa using Rep.sl τ xs b cap sz' vs hlen hb hszs h1 ha hs hM hr htl ht'
     ·rw[if_neg hw]
      rw[<- hlen']
      have hget:∀i (hi:i<(aH xs lo'.toNat hi'.toNat).length),(aH xs lo'.toNat hi'.toNat)[i]=xs[lo'.toNat+i]'(by rw[hlen'] at hi;omega):=by
       intro i hi
       simp[aH]
      have hmem:∀x∈aH xs lo'.toNat hi'.toNat,x∈xs:=fun x hx=>A69 (A6Z hx)
      refine Rep.sl none _ _ _ sz' (fun i j=>vs (lo'.toNat+i) j) (by rw[hlen'];omega) (by rw[hlen'];omega) (fun x hx=>hszs x (hmem x hx)) (fun x hx=>h1 x (hmem x hx)) ?_ ?_ ?_ ?_ (fun τ h=>by cases h) (fun τ h=>by cases h)
      ·intro hne
       have hxs:xs≠[]:=by intro e;subst e;exact hne (by simp[aH])
       obtain⟨b',rfl⟩:=ha hxs
       split
       ·exact⟨_,rfl⟩
       ·exact⟨_,rfl⟩
      ·intro hne b' hb'
       have hxs:xs≠[]:=by intro e;subst e;exact hne (by simp[aH])
       split at hb'
       ·exact hs hxs b' hb'
       ·cases b with
        | none=>cases hb'
        | some b0 =>
         simp only[A7p,Option.some.injEq] at hb'
         rw[Addr.add_eq b0 (hs hxs b0 rfl)] at hb'
         subst hb';rfl
      ·intro i hi j hj b' hb'
       rw[hlen'] at hi
       have hcap: ¬cap=lo'.toNat:=by omega
       have hxs':xs≠[]:=fun e=>by
        have:xs.length=0:=by rw[e];rfl
        omega
       rw[if_neg hcap] at hb'
       cases b with
       | none=>cases hb'
       | some b0 =>
        simp only[A7p,Option.some.injEq] at hb'
        rw[Addr.add_eq b0 (hs hxs' b0 rfl)] at hb'
        subst hb'
        have hsz2:sz'=sz:=by
         have hm:xs[lo'.toNat+i]'(by omega)∈xs:=A6I _
         have:=A6W.1 c3 _ hm
         rw[hszs _ hm] at this
         simpa using this
        have:=hM (lo'.toNat+i) (by omega) j hj b0 rfl
        rw[hsz2] at this
        simp only
        rw[<- this]
        congr 2
        rw[hsz2,A6L];omega
      ·intro i hi j hj
       have:=hr (lo'.toNat+i) (by rw[hlen'] at hi;omega) j (by rw[hget i hi] at hj;exact hj)
       simp only[hget i hi]
       exact this
   ·cases h
  ·cases h
 | e0 a =>
  simp[C2] at hn;subst hn
  simp only[slc] at h
  split at h
  ·rename_i lo' hi' e1 e2
   split at h
   ·rename_i hc
    obtain⟨rfl,rfl⟩:=hc
    injection h with h;subst h
    have hb:=aT (P:=P) (w:=w) hf (isSlice:=true) (cap:=0) hlo hhi e1 e2 (by omega) (by omega) (by omega) (A6E _)
    exact⟨.slice a 0 0,by simp[Instr.sliceAt,run_underlying ht,Instr.slice,hb,Af hsz],Rep.e0 a⟩
   ·cases h
  ·cases h
 | ms ag z o off len cap rc hbd h1 h2 h3 =>
  simp[C2] at hn;subst hn
  simp only[slc] at h
  split at h
  ·rename_i lo' hi' e1 e2
   split at h
   ·rename_i hc
    obtain⟨c0,c1,c2,c3,rfl⟩:=hc
    injection h with h;subst h
    have hb:=aT (P:=P) (w:=w) hf (isSlice:=true) (cap:=rc) hlo hhi e1 e2 c0 c1 c2 (by omega)
    have hne: ¬rc=lo'.toNat:=by omega
    have hadd:Addr.add ⟨c.β o,off,none⟩ (lo'.toNat*z)=⟨c.β o,off+lo'.toNat*z,none⟩:=Addr.add_eq _ rfl _
    refine⟨.slice (some ⟨c.β o,off+lo'.toNat*z,none⟩) (hi'.toNat - lo'.toNat) (rc - lo'.toNat),?_,?_⟩
    ·simp[Instr.sliceAt,run_underlying ht,Instr.slice,hb,Af hsz,hne,hadd]
    ·have e3:(hi' - lo').toNat=hi'.toNat - lo'.toNat:=by omega
     rw[e3]
     refine Rep.ms ag z o _ _ _ _ hbd (by omega) (by omega) ?_
     have:lo'.toNat*z+(rc - lo'.toNat)*z=rc*z:=by rw[<- A6L];congr 1;omega
     omega
   ·split at h
    ·rename_i hc
     obtain⟨c0,c1,c2,rfl⟩:=hc
     injection h with h;subst h
     have hb:=aT (P:=P) (w:=w) hf (isSlice:=true) (cap:=rc) hlo hhi e1 e2 c0 c1 c2 (by omega)
     refine⟨.slice (if rc=hi'.toNat then some ⟨c.β o,off,none⟩ else some (Addr.add ⟨c.β o,off,none⟩ (hi'.toNat*sz))) 0 (rc - hi'.toNat),?_,?_⟩
     ·simp[Instr.sliceAt,run_underlying ht,Instr.slice,hb,Af hsz]
     ·exact Rep.sl none [] _ _ 0 (fun _ _=>undef) (by simp) (by simp) (by simp) (by simp) (by simp) (by simp) (by simp) (by simp) (by simp) (by simp)
    ·cases h
  ·cases h
 | _=>simp[C2] at hn
theorem pA{t e:TypeId}{sz:Nat}(ht:Ak P t=some e)(hsz:tsz P e=some sz){s:S}{a:Act}(hf:FR c s.t a){lo hi mx:Option Rd}{olo ohi omx:Option Operand}
  (hlo:lo=none/\olo=none∨∃r x,lo=some r/\olo=some x/\cRd x=some r) (hhi:∃r x,hi=some r/\ohi=some x/\cRd x=some r) (hmx:∃r x,mx=some r/\omx=some x/\cRd x=some r)
  {x r:D} {v:Value} {n:Nat} (hx:Rep c x v) (hn:C2 x=some n) (h:OV sz (BX s 0 lo) (BX s n hi) (BX s n mx) x=some r) :
  ∃u,(Instr.sliceAt t v (olo.map a.eval) (ohi.map a.eval) (omx.map a.eval)).run P w= .ok u w/\Rep c r u:=by
 have ht:=Ai ht
 cases hx with
 | nils =>
  simp[C2] at hn;subst hn
  simp only[OV] at h
  split at h
  ·rename_i lo' hi' mx' e1 e2 e3
   split at h
   ·rename_i hc
    obtain⟨rfl,rfl,rfl⟩:=hc
    injection h with h;subst h
    have hb:=aW (P:=P) (w:=w) hf (cap:=0) hlo hhi hmx e1 e2 e3 (by omega) (by omega) (by omega) (by omega)
    exact⟨.slice none 0 0,by simp[Instr.sliceAt,run_underlying ht,Instr.slice,hb,Af hsz],Rep.nils⟩
   ·cases h
  ·cases h
 | e0 b =>
  simp[C2] at hn;subst hn
  simp only[OV] at h
  split at h
  ·rename_i lo' hi' mx' e1 e2 e3
   split at h
   ·rename_i hc
    obtain⟨rfl,rfl,rfl⟩:=hc
    injection h with h;subst h
    have hb:=aW (P:=P) (w:=w) hf (cap:=0) hlo hhi hmx e1 e2 e3 (by omega) (by omega) (by omega) (by omega)
    exact⟨.slice b 0 0,by simp[Instr.sliceAt,run_underlying ht,Instr.slice,hb,Af hsz],Rep.e0 b⟩
   ·cases h
  ·cases h
 | sl τ xs b cap sz' vs hlen hb' hszs h1 ha hs hM hr htl ht' =>
  simp[C2] at hn;subst hn
  simp only[OV] at h
  split at h
  ·rename_i lo' hi' mx' e1 e2 e3
   split at h
   ·rename_i hc
    obtain⟨c0,rfl,rfl,c3⟩:=hc
    injection h with h;subst h
    have hb:=aW (P:=P) (w:=w) hf (cap:=cap) hlo hhi hmx e1 e2 e3 c0 (by omega) (by omega) (by omega)
    exact⟨.slice b 0 0,by simp[Instr.sliceAt,run_underlying ht,Instr.slice,hb,Af hsz],Rep.e0 b⟩
   ·cases h
  ·cases h
 | ms ag z o off len cap rc hbd h1 h2 h3 =>
  simp[C2] at hn;subst hn
  simp only[OV] at h
  split at h
  ·rename_i lo' hi' mx' e1 e2 e3
   split at h
   ·rename_i hc
    obtain⟨c0,rfl,rfl,c3⟩:=hc
    injection h with h;subst h
    have hb:=aW (P:=P) (w:=w) hf (cap:=rc) hlo hhi hmx e1 e2 e3 c0 (by omega) (by omega) (by omega)
    exact⟨.slice (some ⟨c.β o,off,none⟩) 0 0,by simp[Instr.sliceAt,run_underlying ht,Instr.slice,hb,Af hsz],Rep.e0 _⟩
   ·split at h
    ·rename_i hc
     obtain⟨c0,c1,c2,c3,c4,rfl⟩:=hc
     injection h with h;subst h
     have hb:=aW (P:=P) (w:=w) hf (cap:=rc) hlo hhi hmx e1 e2 e3 c0 c1 c2 (by omega)
     have hne: ¬mx'.toNat=lo'.toNat:=by omega
     have hadd:Addr.add ⟨c.β o,off,none⟩ (lo'.toNat*z)=⟨c.β o,off+lo'.toNat*z,none⟩:=Addr.add_eq _ rfl _
     refine⟨.slice (some ⟨c.β o,off+lo'.toNat*z,none⟩) (hi'.toNat - lo'.toNat) (mx'.toNat - lo'.toNat),?_,?_⟩
     ·simp[Instr.sliceAt,run_underlying ht,Instr.slice,hb,Af hsz,hne,hadd]
     ·have q1:(hi' - lo').toNat=hi'.toNat - lo'.toNat:=by omega
      have q2:(mx' - lo').toNat=mx'.toNat - lo'.toNat:=by omega
      rw[q1,q2]
      refine Rep.ms ag z o _ _ _ _ hbd (by omega) (by omega) ?_
      have q3:lo'.toNat*z+(mx'.toNat - lo'.toNat)*z=mx'.toNat*z:=by rw[<- A6L];congr 1;omega
      have q4:mx'.toNat*z<=rc*z:=A6K _ (by omega)
      omega
    ·cases h
  ·cases h
 | _=>simp[C2] at hn
end GP
namespace GP
open Go
variable {P:Program} {c:Cx} {w:World} {H:Hp}
theorem tM(off:Nat):∀(vs:List Value) (k:Nat) (cs:Array Value),off+k+vs.length<=cs.size →
  ((vs.zipIdx k).foldl (fun cs (p:Value×Nat)=>cs.setIfInBounds (off+p.2) p.1) cs).toList=cs.toList.take (off+k)++vs++cs.toList.drop (off+k+vs.length)
 | [],k,cs,h=>by simp
 | v::vs,k,cs,h=>by
  simp only[A7X,A73]
  have h':off+(k+1)+vs.length<=(cs.setIfInBounds (off+k) v).size:=by simp at h ⊢;omega
  rw[tM off vs (k+1) _ h']
  simp only[A7r,A6S] at h ⊢
  have hl:off+k<cs.toList.length:=by simp;omega
  rw[show off+(k+1)=(off+k)+1 by omega,A7h (by simp;omega),A7O (by omega)]
  rw[A7P (by omega)]
  simp only[A7F,A7y,A7Y,A7G]
  congr 4
  omega
theorem lW(off:Nat)(vs:Array Value)(cs:Array Value)(h:off+vs.size<=cs.size):
  (vs.zipIdx.foldl (fun cs (p:Value×Nat)=>cs.setIfInBounds (off+p.2) p.1) cs).toList=cs.toList.take off++vs.toList++cs.toList.drop (off+vs.size):=by
 rw[<- Array.foldl_toList,Array.toList_zipIdx]
 have:=tM off vs.toList 0 cs (by simpa using h)
 simpa using this
inductive PartsRep(c:Cx)(place:Nat->Option (Nat×Nat)):List (Nat×Nat×D)->List (Nat×Value)->Prop where
 | nil:PartsRep c place [] []
 | cons {off sz i:Nat} {d:D} {v:Value} {l m} (hp:place i=some (off,sz)) (hr:Rep c d v) (hk:d.okc=true) (h:PartsRep c place l m):PartsRep c place ((off,sz,d)::l) ((i,v)::m)
theorem iA{place:Nat->Option (Nat×Nat)}{l:List (Nat×Nat×D)}{m:List (Nat×Value)}(h:PartsRep c place l m):
  ∀{z:List D} {cs:Array Value} {r:List D},Cells c z cs.toList->(l.all fun p=>p.2.2.cells.length==p.2.1)=true->Gw z (l.map fun p=>(p.1,p.2.2.cells))=some r →
  ∃cs',Instr.fill place cs m=some cs'/\Cells c r cs'.toList:=by
 induction h with
 | nil=>intro z cs r hz _ h;simp[Gw] at h;subst h;exact⟨cs,rfl,hz⟩
 | @cons off sz i d v l m hp hr hk _ ih =>
  intro z cs r hz ha h
  simp only[List.all_cons,A65,beq_iff_eq] at ha
  simp only[A7S,Gw] at h
  split at h
  ·rename_i hle
   have kc:=hr.cells hk
   have hvs:v.cells.size=sz:=by have:=kc.len;simp at this;rw[this];exact ha.1
   have hcs:cs.size=z.length:=by have:=hz.len;simpa using this
   have hsz:off+v.cells.size<=cs.size:=by rw[hvs,hcs,← ha.1];exact hle
   have e:=lW off v.cells cs hsz
   have hz':Cells c (z.take off++d.cells++z.drop (off+d.cells.length)) (v.cells.zipIdx.foldl (fun cs (p:Value×Nat)=>cs.setIfInBounds (off+p.2) p.1) cs).toList:=by
    rw[e]
    have hl:v.cells.size=d.cells.length:=by rw[hvs,ha.1]
    rw[hl]
    exact((hz.take off).append kc).append (hz.drop _)
   obtain⟨cs',e1,e2⟩:=ih hz' ha.2 h
   refine⟨cs',?_,e2⟩
   simp only[Instr.fill,hp]
   rw[if_neg (by simp[hvs];rw[<- hvs];exact hsz)]
   exact e1
  ·cases h
theorem sD{d:D}{v:Value}(hr:Rep c d v)(h:HB d=true):∃n:Int,v= .int .u8 n/\l6 d=UInt8.ofNat n.toNat:=by
 cases hr<;>simp[HB] at h
 rename_i k n
 cases k<;>simp at h
 exact⟨n,rfl,rfl⟩
theorem oF(ns:List Int):∀b:ByteArray,(ns.foldl (fun r n=>r.push (UInt8.ofNat n.toNat)) b).data.toList=b.data.toList++ns.map (fun n=>UInt8.ofNat n.toNat):=by
 induction ns with
 | nil=>intro b;simp
 | cons n ns ih=>intro b;simp only[A73,ih];simp[ByteArray.push]
theorem fD{src dst e:TypeId}(hs:P.underlying src=some (.slice e))(he:P.underlying e=some (.int .u8))(hd:P.underlying dst=some .string)(hi:Inv c w H){x r:D}{v:Value}(hx:Rep c x v)
  (h:JU x=some r):∃u,(Go.convert src dst v).run P w= .ok u w/\Rep c r u:=by
 cases hx with
 | nils =>
  simp[JU] at h;subst h
  refine⟨.string ⟨#[]⟩,?_,Rep.str [] (by decide)⟩
  simp[Go.convert,run_underlying hs,run_underlying he,run_underlying hd,Conv.bytesToString];rfl
 | e0 a =>
  simp[JU] at h;subst h
  refine⟨.string ⟨#[]⟩,?_,Rep.str [] (by decide)⟩
  cases a with
  | none=>simp[Go.convert,run_underlying hs,run_underlying he,run_underlying hd,Conv.bytesToString];rfl
  | some b =>
   have hb:=run_bytesToString (P:=P) w b 0 0 [] (by simp[loadCells,loadCellsFrom])
   simp only[A8b] at hb
   simp[Go.convert,run_underlying hs,run_underlying he,run_underlying hd,hb];rfl
 | sl t xs a cap sz vs hlen hb hsz h1 ha hsp hM hr htl ht' =>
  simp only[JU] at h
  split at h
  ·rename_i hall
   injection h with h;subst h
   cases hxs:xs with
   | nil =>
    subst hxs
    refine⟨.string ⟨#[]⟩,?_,Rep.str [] (by decide)⟩
    cases a with
    | none=>simp[Go.convert,run_underlying hs,run_underlying he,run_underlying hd,Conv.bytesToString];rfl
    | some b =>
     have hb:=run_bytesToString (P:=P) w b 0 cap [] (by simp[loadCells,loadCellsFrom])
     simp only[A8b] at hb
     simp[Go.convert,run_underlying hs,run_underlying he,run_underlying hd,hb];rfl
   | cons x0 xs0 =>
    rw[<- hxs]
    obtain⟨b,rfl⟩:=ha (by rw[hxs];simp)
    have hb':=hsp (by rw[hxs];simp) b rfl
    have hcell:∀x∈xs,x.cells=[x]:=by
     intro x hx
     have:=A6W.1 hall x hx
     cases x<;>simp[HB] at this<;>rfl
    have hsz1:sz=1:=by
     have hm:x0∈xs:=by rw[hxs];simp
     rw[<- hsz x0 hm,hcell x0 hm];rfl
    subst hsz1
    have hrx:∀i (hi:i<xs.length),Rep c xs[i] (vs i 0):=by
     intro i hi
     have hc:=hcell _ (A6I hi)
     have hlt:0<(xs[i].cells).length:=by rw[hc];simp
     have:=hr i hi 0 hlt
     simpa[hc] using this
    let ns:List Int:=(A7U xs.length).map fun i=>match vs i 0 with| .int _ n=>n|_=>0
    have hns:∀i (hi:i<xs.length),vs i 0= .int .u8 (ns.getD i 0)/\l6 xs[i]=UInt8.ofNat (ns.getD i 0).toNat:=by
     intro i hi
     obtain⟨n,e1,e2⟩:=sD (hrx i hi) (A6W.1 hall _ (A6I hi))
     have:ns.getD i 0=n:=by simp[ns,hi,e1]
     rw[this];exact⟨e1,e2⟩
    have hload:(loadCells b xs.length).run P w= .ok (ns.map (Value.int .u8)).toArray w:=by
     have hl:(ns.map (Value.int .u8)).length=xs.length:=by simp[ns]
     have:=run_loadCells_list (P:=P) w b (ns.map (Value.int .u8)) (fun j u hu=>?_)
     ·rw[hl] at this;exact this
     ·have hj:j<xs.length:=by
       rcases A6F j xs.length with h'|h'
       ·exact h'
       ·rw[A6A (by rw[hl];exact h')] at hu;cases hu
      rw[Addr.add_eq b hb']
      have:=hi.keep _ _ (hM j hj 0 (by omega) b rfl)
      simp only[Nat.mul_one,A7k] at this
      rw[this,(hns j hj).1]
      rw[A7x] at hu
      have hjn:j<ns.length:=by simp[ns,hj]
      rw[A6H hjn] at hu
      simp only[A7p,Option.some.injEq] at hu
      rw[<- hu]
      simp[A74,A6H hjn]
    have hrun:=run_bytesToString (P:=P) w b xs.length cap ns hload
    refine⟨.string (ns.foldl (fun r n=>r.push (UInt8.ofNat n.toNat)) ByteArray.empty),?_,?_⟩
    ·simp[Go.convert,run_underlying hs,run_underlying he,run_underlying hd,hrun]
    ·have e:=oF ns ByteArray.empty
     have e2:(ns.foldl (fun r n=>r.push (UInt8.ofNat n.toNat)) ByteArray.empty)=⟨(xs.map l6).toArray⟩:=by
      apply ByteArray.ext
      apply A6X.1
      rw[e]
      simp only[ByteArray.data_empty,Array.toList_empty,A7G]
      apply A7W
      ·simp[ns]
      ·intro i h1 h2
       simp only[A7l]
       have hi:i<xs.length:=by simp[ns] at h1;exact h1
       have:=(hns i hi).2
       have hin:i<ns.length:=by simpa using h1
       simp only[A74,A6H hin,Option.getD_some] at this
       simp[this]
     rw[e2]
     exact Rep.str _ (by simpa using hb)
  ·cases h
 | _=>simp[JU] at h
end GP
namespace GP
open Go
variable {P:Program} {c:Cx} {w:World} {H:Hp}
theorem gT{w w':World}(h:w'.heap=w.heap)(a:Addr):w'.cell? a=w.cell? a:=by simp only[A63,h]
theorem Lq{w w':World}(h:w'.heap=w.heap)(a:Addr):w'.frozen? a=w.frozen? a:=by simp only[A7z,h]
theorem RowAt.mono{c c':Cx}(h:c.le c'){w w':World}{b n:Nat}{cs:List D}(hw:w'.heap[b]? =w.heap[b]?)(k:RowAt c w b n cs):RowAt c' w' b n cs:=by
 obtain⟨vs,rest,e,fr,h1,h2,h4,h3⟩:=k.hold
 exact⟨vs,rest,e,fr,by rw[hw];exact h1,h2.mono h,h4,h3⟩
theorem Ob.live_of_cells{x:Ob}{cs:List D}(h:x.cells? =some cs):x.live=true:=by cases x<;>simp_all [Ob.cells?,Ob.live]
theorem Inv.congr{w w':World}(h:w'.heap=w.heap)(k:Inv c w H):Inv c w' H where
 keep:=fun a v ha=>by rw[gT h];exact k.keep a v ha
 low:=by rw[h];exact k.low
 row:=fun o x cs ho hx=>(k.row o x cs ho hx).mono (Cx.le.refl c) (by rw[h])
 free:=k.free
 own:=fun o x ho hx=>by rw[h];exact k.own o x ho hx
 apart:=k.apart
 map:=fun o es clk ho=>by rw[h];exact k.map o es clk ho
 iter:=k.iter
 tok:=fun τ n z hτ=>by
  obtain⟨h1,h2,h3,h4,h5⟩:=k.tok τ n z hτ
  refine⟨h1,by rw[h];exact h2,h3,h4,fun j a b=>?_⟩
  rw[gT h,Lq h]
  exact h5 j a b
 tokrow:=k.tokrow
 toks:=k.toks
def CI(M:Addr->Option Value)(b:Nat)(vs:List Value)(k:Nat):Addr->Option Value :=
 fun a=>if a.block=b then(if a.spot=none/\a.off<k then vs[a.off]? else none) else M a
theorem lK{M:Addr->Option Value}{b k:Nat}{vs:List Value}{a:Addr}(h:a.block≠b):CI M b vs k a=M a:=if_neg h
theorem fG{M:Addr->Option Value}{b k i:Nat}{vs:List Value}(hk:i<k):CI M b vs k ⟨b,i,none⟩=vs[i]?:=by simp[CI,hk]
theorem qC{M:Addr->Option Value}{b k i:Nat}{vs:List Value}(hk:k<=i):CI M b vs k ⟨b,i,none⟩=none:=by simp[CI];omega
theorem Inv.M_lt(k:Inv c w H){a:Addr}{v:Value}(h:c.M a=some v):a.block<w.heap.size:=World.block_lt_of_cell? w a (k.keep a v h)
theorem ID(k:Inv c w H)(vs:List Value)(n:Nat):c.le { c with M:=CI c.M w.heap.size vs n } where
 M:=fun a v h=>by
  have:=k.M_lt h
  show CI _ _ _ _ a=some v
  rw[lK (by omega)];exact h
 bd:=fun _ h=>h
 β:=fun _ _=>rfl
 T:=A6E _
 dead:=fun _ h=>h
 tok:=fun τ m z h=>.inr ⟨m,h,A6E _,fun _=>rfl⟩
 B:=rfl
 sz:=fun _ _=>rfl
theorem DT{w:World}{o:Obj}{b:Nat}(h:b<w.heap.size):(w.alloc o).heap[b]? =w.heap[b]?:=by
 simp only[World.alloc,Array.getElem?_push]
 rw[if_neg (by omega)]
theorem dJ(w:World)(o:Obj):(w.alloc o).heap[w.heap.size]? =some o:=by
 show(w.heap.push o)[w.heap.size]? =_
 simp
theorem rK(w:World)(c:Array Value)(t:TypeId)(fr:Nat×Nat)(i:Nat):(w.alloc (.cells c t fr)).cell? ⟨w.heap.size,i,none⟩=c[i]?:=by simp only[A63,dJ];rfl
theorem mR(w:World)(c:Array Value)(t:TypeId)(fr:Nat×Nat)(i:Nat):(w.alloc (.cells c t fr)).frozen? ⟨w.heap.size,i,none⟩=(decide (fr.1<=i)&&decide (i<fr.2)):=by simp only[A7z,dJ]
theorem Inv.fresh(k:Inv c w H)(vs:List Value)(e:TypeId)(fr:Nat×Nat)(n:Nat):Inv { c with M:=CI c.M w.heap.size vs n } (w.alloc (.cells vs.toArray e fr)) H where
 keep:=fun a v h=>by
  change CI c.M w.heap.size vs n a=some v at h
  by_cases hb:a.block=w.heap.size
  ·obtain⟨b,o,s⟩:=a
   change b=w.heap.size at hb
   subst hb
   simp only[CI,if_true] at h
   split at h
   ·rename_i hc
    obtain⟨h1,h2⟩:=hc
    subst h1
    rw[rK]
    simpa using h
   ·cases h
  ·rw[lK hb] at h
   rw[A7a _ _ _ (k.M_lt h)]
   exact k.keep a v h
 low:=by rw[A6T];exact A7w k.low
 row:=fun o x cs ho hx=>(k.row o x cs ho hx).mono (ID k vs n) (DT (k.own o _ ho (Ob.live_of_cells hx)).2.2.1)
 free:=k.free
 own:=fun o x ho hx=>by
  obtain⟨h0,h1,h2,h3⟩:=k.own o x ho hx
  refine⟨h0,h1,by rw[A6T];exact A7j h2,fun i=>?_⟩
  show CI _ _ _ _ _=none
  rw[lK (by simp;omega)]
  exact h3 i
 apart:=k.apart
 map:=fun o es clk ho=>by
  have h2:=(k.own o _ ho rfl).2.2.1
  obtain⟨g1,g2⟩:=k.map o es clk ho
  exact⟨g1,(DT h2).trans g2⟩
 iter:=k.iter
 tok:=fun τ m z hτ=>by
  obtain⟨h1,h2,h3,h4,h5⟩:=k.tok τ m z hτ
  refine⟨h1,by rw[A6T];exact A7j h2,h3,h4,fun j a b=>?_⟩
  obtain⟨g1,g2,g3⟩:=h5 j a b
  refine⟨?_,?_,?_⟩
  ·have:=A7a w (.cells vs.toArray e fr) ⟨(c.κ τ).1.block,(c.κ τ).1.off+j,none⟩ h2
   exact(congrArg A7A this).trans g1
  ·have:=A7B w (.cells vs.toArray e fr) ⟨(c.κ τ).1.block,(c.κ τ).1.off+j,none⟩ (A7s h2)
   exact this.trans g2
  ·have:=lK (M:=c.M) (b:=w.heap.size) (k:=n) (vs:=vs) (a:=⟨(c.κ τ).1.block,(c.κ τ).1.off+j,none⟩) (A7s h2)
   exact this.trans g3
 tokrow:=k.tokrow
 toks:=k.toks
theorem Inv.retok(k:Inv c w H){T':Tk}{κ':Nat->Addr×Nat}(hle:c.le { c with T:=T',κ:=κ' })(τ0:Option Nat)
  (hT:∀(τ n z:Nat),T'[τ]? =some (some (n,z))->(c.T[τ]? =some (some (n,z))/\κ' τ=c.κ τ/\some τ≠τ0) ∨
   (some τ=τ0/\c.B<=(κ' τ).1.block/\(κ' τ).1.block<w.heap.size/\(κ' τ).1.spot=none/\n<=(κ' τ).2 ∧
    (∀j,n*z<=j->j<(κ' τ).2*z->(w.cell? ⟨(κ' τ).1.block,(κ' τ).1.off+j,none⟩).isSome=true/\w.frozen? ⟨(κ' τ).1.block,(κ' τ).1.off+j,none⟩=false/\c.M ⟨(κ' τ).1.block,(κ' τ).1.off+j,none⟩=none)∧
    (∀(o:Nat) x,H[o]? =some x->x.live=true->c.β o≠(κ' τ).1.block)∧
    (∀(τ' n' z':Nat),τ'≠τ->T'[τ']? =some (some (n',z'))->(c.κ τ').1.block≠(κ' τ).1.block))) :
  Inv { c with T:=T',κ:=κ' } w H where
 keep:=k.keep
 low:=k.low
 row:=fun o x cs ho hx=>(k.row o x cs ho hx).mono hle rfl
 free:=k.free
 own:=k.own
 apart:=k.apart
 map:=k.map
 iter:=k.iter
 tok:=fun τ n z hτ=>by
  rcases hT τ n z hτ with⟨h1,h2,_⟩|⟨_,h1,h2,h3,h4,h5,_,_⟩
  ·simp only[h2];exact k.tok τ n z h1
  ·exact⟨h1,h2,h3,h4,h5⟩
 tokrow:=fun τ n z o x hτ ho hx=>by
  rcases hT τ n z hτ with⟨h1,h2,_⟩|⟨_,_,_,_,_,_,h6,_⟩
  ·simp only[h2];exact k.tokrow τ n z o x h1 ho hx
  ·exact h6 o x ho hx
 toks:=fun τ n z τ' n' z' hτ hτ' he=>by
  rcases hT τ n z hτ with⟨h1,h2,h3⟩|⟨h3,_,_,_,_,_,_,h7⟩<;>rcases hT τ' n' z' hτ' with⟨k1,k2,k3⟩|⟨k3,_,_,_,_,_,_,k7⟩
  ·simp only[h2,k2] at he;exact k.toks τ n z τ' n' z' h1 k1 he
  ·simp only[h2] at he
   exact absurd he (k7 τ n z (fun e=>h3 (by rw[e];exact k3)) hτ)
  ·simp only[k2] at he
   exact absurd he.symm (h7 τ' n' z' (fun e=>k3 (by rw[e];exact h3)) hτ')
  ·rw[<- k3] at h3;injection h3
def Yld(c:Cx)(w:World)(H':Hp)(T':Tk)(d:D)(r:Result Value):Prop :=
 ∃v c' w',r= .ok v w'/\Rep c' d v/\Inv c' w' H'/\c.le c'/\c'.T=T'/\Below c.bb w w'
theorem Below.of_alloc{B:Bool×Nat}(w:World)(o:Obj)(h:B.2<=w.heap.size):Below B w (w.alloc o):=(Below.refl B w).alloc h o
theorem gM{sz:Nat}:∀(l:List (List Value)) (i:Nat) (h:i<l.length) (j:Nat),(∀x∈l,x.length=sz)->j<sz->l.flatten[i*sz+j]? =(l[i])[j]?
 | x::l,0,_,j,hl,hj=>by
  have hx:=hl x (by simp)
  simp only[A62,Nat.zero_mul,A7t,A7C]
  rw[A6D (by omega)]
 | x::l,i+1,h,j,hl,hj=>by
  have hx:=hl x (by simp)
  simp only[A62,A7D]
  rw[A68 (by rw[hx,A6L];omega),hx]
  rw[show(i+1)*sz+j - sz=i*sz+j by rw[A6L];omega]
  exact gM l i (by simpa using h) j (fun y hy=>hl y (by simp[hy])) hj
theorem aO{sz:Nat}:∀(l:List (List Value)),(∀x∈l,x.length=sz)->l.flatten.length=l.length*sz
 | [],_=>by simp
 | x::l,hl=>by
  simp only[A62,A6O,hl x (by simp),A6S,A6L,A75,aO l (fun y hy=>hl y (by simp[hy]))]
  omega
structure Elems(c:Cx)(sz:Nat)(xs:List D)(vss:List (List Value)):Prop where
 len:vss.length=xs.length
 el:∀i (h:i<xs.length) (h':i<vss.length),Cells c xs[i].cells vss[i]
 sz:∀x∈xs,x.cells.length=sz
theorem Elems.sz'{sz:Nat}{xs:List D}{vss:List (List Value)}(k:Elems c sz xs vss):∀v∈vss,v.length=sz:=by
 intro v hv
 obtain⟨i,hi,rfl⟩:=A7d hv
 have hi':i<xs.length:=by rw[<- k.len];exact hi
 rw[(k.el i hi' hi).len,k.sz _ (A6I hi')]
theorem Elems.mono{c c':Cx}(h:c.le c'){sz:Nat}{xs:List D}{vss:List (List Value)}(k:Elems c sz xs vss):Elems c' sz xs vss:=⟨k.len,fun i a b=>(k.el i a b).mono h,k.sz⟩
theorem Elems.append{sz:Nat}{xs ys:List D}{vs us:List (List Value)}(k:Elems c sz xs vs)(l:Elems c sz ys us):Elems c sz (xs++ys) (vs++us):=by
 refine⟨by simp[k.len,l.len],fun i h h'=>?_,fun x hx=>?_⟩
 ·by_cases hi:i<xs.length
  ·rw[A60 hi,A60 (by rw[k.len];exact hi)]
   exact k.el i _ _
  ·have:=l.el (i - xs.length) (by simp at h;omega) (by simp[k.len,l.len] at h' ⊢;omega)
   rw[A6Y (by omega),A6Y (by rw[k.len];omega)]
   simpa[k.len] using this
 ·rcases A72.1 hx with h|h
  ·exact k.sz x h
  ·exact l.sz x h
theorem Reps.elems{ds:List D}{vs:List Value}(k:Reps c ds vs){sz:Nat}(hf:ds.all (fit sz)=true):Elems c sz ds (vs.map fun v=>v.cells.toList):=by
 have hf':=A6W.1 hf
 refine⟨by simp[k.len],fun i h h'=>?_,fun x hx=>?_⟩
 ·have:=hf' _ (A6I h)
  simp only[fit,A65] at this
  simpa using(k.rep i h (by rw[k.len];exact h)).cells this.1
 ·have:=hf' x hx
  simp only[fit,A65,beq_iff_eq] at this
  exact this.2
theorem FF{sz:Nat}{xs:List D}{vss:List (List Value)}(k:Elems c sz xs vss){a:Addr}{cap:Nat}(ha:a.spot=none)(hcap:xs.length<=cap)(hb:xs.length<2^62)
  (hM:∀j,j<xs.length*sz->c.M ⟨a.block,a.off+j,none⟩=vss.flatten[j]?) (t:Option Nat) (htl:∀τ,t=some τ->τ<c.T.length)
  (ht:∀τ,t=some τ->∀n z,c.T[τ]? =some (some (n,z))->xs.length<=n/\(xs.length=n->some a=some (c.κ τ).1/\cap=(c.κ τ).2)) :
  Rep c (.sl t xs) (.slice (some a) xs.length cap):=by
 refine Rep.sl t xs (some a) cap sz (fun i j=>(vss.getD i []).getD j undef) hcap hb k.sz ?_ (fun _=>⟨a,rfl⟩) (fun _ b hb=>by injection hb with hb;subst hb;exact ha) ?_ ?_ htl ht
 ·intro x hx y hy
  obtain⟨i,hi,rfl⟩:=A7d hx
  exact(k.el i hi (by rw[k.len];exact hi)).one y hy
 ·intro i hi j hj b hb
  injection hb with hb;subst hb
  have hi':i<vss.length:=by rw[k.len];exact hi
  have hlt:i*sz+j<xs.length*sz:=by
   have:(i+1)*sz<=xs.length*sz:=A6K _ hi
   rw[A6L] at this;omega
  have:=hM (i*sz+j) hlt
  rw[show a.off+i*sz+j=a.off+(i*sz+j) by omega,this,gM vss i hi' j k.sz' hj]
  have hj':j<vss[i].length:=by rw[k.sz' _ (A6I hi')];exact hj
  simp[A74,hi',hj']
 ·intro i hi j hj
  have hi':i<vss.length:=by rw[k.len];exact hi
  have kc:=k.el i hi hi'
  have hj':j<vss[i].length:=by rw[kc.len];exact hj
  have:=kc.rep j hj hj'
  simpa[A74,hi',hj'] using this
theorem eX(hi:Inv c w H){t:Option Nat}{xs:List D}{v:Value}(hr:Rep c (.sl t xs) v){sz:Nat}(hsz:∀x∈xs,x.cells.length=sz):
  ∃a cap vss,v= .slice a xs.length cap/\xs.length<=cap/\Elems c sz xs vss/\(xs≠[]->∀b,a=some b->b.spot=none)/\(xs≠[]->∃b,a=some b)∧
   (∀b,a=some b->∀(j:Nat) u,vss.flatten[j]? =some u->w.cell? (b.add j)=some u/\c.M (b.add j)=some u)/\vss.flatten.length=xs.length*sz:=by
 cases hr with
 | sl _ _ a cap sz' vs hlen hb hsz0 h1 ha hs hM hr htl ht' =>
  let vss:List (List Value):=(A7U xs.length).map fun i=>(A7U sz).map fun j=>vs i j
  have hvl:∀x∈vss,x.length=sz:=by
   intro x hx
   obtain⟨i,_,rfl⟩:=A7f.1 hx
   simp
  have hk:Elems c sz xs vss:=by
   refine⟨by simp[vss],fun i h h'=>⟨by simp[vss,hsz _ (A6I h)],fun d hd=>h1 _ (A6I h) d hd,fun j hj hj'=>?_⟩,hsz⟩
   simpa[vss] using hr i h j hj
  refine⟨a,cap,vss,rfl,hlen,hk,hs,ha,?_,by rw[aO vss hvl];simp[vss]⟩
  intro b hb' j u hu
  have hjl:j<xs.length*sz:=by
   rcases A6F j (xs.length*sz) with h'|h'
   ·exact h'
   ·rw[A6A (by rw[aO vss hvl];simpa[vss] using h')] at hu;cases hu
  have hszp:0<sz:=by
   rcases A7T sz with h'|h'
   ·subst h';simp at hjl
   ·exact h'
  have hi':j / sz<xs.length:=A7L (by rw[A7H];exact hjl)
  have hj':j%sz<sz:=Nat.mod_lt _ hszp
  have hsplit:j / sz*sz+j%sz=j:=by rw[A7H];exact A76 j sz
  have hsz':sz'=sz:=by rw[<- hsz0 _ (A6I hi'),hsz _ (A6I hi')]
  subst hsz'
  have hvi:j / sz'<vss.length:=by simp[vss];exact hi'
  rw[<- hsplit,gM vss (j / sz') hvi (j%sz') hvl hj'] at hu
  simp only[vss,A7l,List.getElem_range,A7x,A7N hj',A7p,Option.some.injEq] at hu
  have hm:=hM (j / sz') hi' (j%sz') hj' b hb'
  rw[Addr.add_eq b (hs (by intro e;subst e;simp at hi') b hb')]
  rw[show b.off+j=b.off+j / sz'*sz'+j%sz' by omega,hm,hu]
  refine⟨?_,rfl⟩
  rw[<- hu]
  exact hi.keep _ _ hm
end GP
namespace GP
open Go
variable {P:Program} {c:Cx} {w:World} {H:Hp}
def Bv(f:Nat->Nat)(i v:Nat):Nat->Nat:=fun j=>if j=i then v else f j
def EN(f:Nat->Bool)(i:Nat):Nat->Bool:=fun j=>if j=i then true else f j
def BD(c:Cx)(o b n:Nat):Cx:={ c with β:=Bv c.β o b,bd:=EN c.bd o,sz:=Bv c.sz o n }
theorem GX{o b n:Nat}(h:c.bd o=false):c.le (BD c o b n) where
 M:=fun _ _ h=>h
 bd:=fun o' h'=>by show EN c.bd o o'=true;unfold EN;split<;>simp_all
 β:=fun o' h'=>by
  show Bv c.β o b o'=c.β o'
  unfold Bv
  rw[if_neg]
  intro e;subst e;rw[h] at h';cases h'
 T:=A6E _
 dead:=fun _ h=>h
 tok:=fun τ m z h=>.inr ⟨m,h,A6E _,fun _=>rfl⟩
 B:=rfl
 sz:=fun o' h'=>by
  show Bv c.sz o n o'=c.sz o'
  unfold Bv
  rw[if_neg]
  intro e;subst e;rw[h] at h';cases h'
theorem Inv.bind(k:Inv c w H){cs:List D}{vs:List Value}(rest:List Value)(e:TypeId)(hc:Cells c cs vs){o:Nat}(hf:c.bd o=false){H':Hp}{x0:Ob}(h0:H'[o]? =some x0)(hx0:x0.cells? =some cs)(hH:∀o',o'≠o->H'[o']? =H[o']?):
  Inv (BD c o w.heap.size (vs.length+rest.length)) (w.alloc (.cells (vs++rest).toArray e)) H':=by
 have hl0:=Ob.live_of_cells hx0
 have hle:=GX (c:=c) (o:=o) (b:=w.heap.size) (n:=vs.length+rest.length) hf
 generalize hnn:vs.length+rest.length=nn at hle ⊢
 have hβ:∀o',o'≠o->(BD c o w.heap.size nn).β o'=c.β o':=fun o' h=>by show Bv _ _ _ _=_;unfold Bv;rw[if_neg h]
 have hβ0:(BD c o w.heap.size nn).β o=w.heap.size:=by show Bv _ _ _ _=_;unfold Bv;rw[if_pos rfl]
 have hz:∀o',o'≠o->(BD c o w.heap.size nn).sz o'=c.sz o':=fun o' h=>by show Bv _ _ _ _=_;unfold Bv;rw[if_neg h]
 have hz0:(BD c o w.heap.size nn).sz o=nn:=by show Bv _ _ _ _=_;unfold Bv;rw[if_pos rfl]
 have hb:∀o',o'≠o->(BD c o w.heap.size nn).bd o'=c.bd o':=fun o' h=>by show EN _ _ _=_;unfold EN;rw[if_neg h]
 have hb0:(BD c o w.heap.size nn).bd o=true:=by show EN _ _ _=_;unfold EN;rw[if_pos rfl]
 have hMnew:∀i,c.M ⟨w.heap.size,i,none⟩=none:=fun i=>by
  cases hm:c.M ⟨w.heap.size,i,none⟩ with
  | none=>rfl
  | some v=>have:=k.M_lt hm;simp at this
 have hlow:=k.low
 refine⟨?_,?_,?_,?_,?_,?_,?_,?_,?_,?_,?_⟩
 ·intro a v h
  have h':c.M a=some v:=h
  rw[A7a _ _ _ (k.M_lt h')]
  exact k.keep a v h'
 ·rw[A6T];exact A7w k.low
 ·intro o' x' cs' ho' hx'
  by_cases e':o'=o
  ·subst e'
   rw[h0] at ho';injection ho' with ho';subst ho'
   rw[hx0] at hx';injection hx' with hx';subst hx'
   rw[hβ0,hz0]
   exact⟨vs,rest,e,(0,0),dJ w _,hc.mono hle,hnn,fun i _=>by simp⟩
  ·rw[hH o' e'] at ho'
   rw[hβ o' e',hz o' e']
   exact(k.row o' x' cs' ho' hx').mono hle (DT (k.own o' _ ho' (Ob.live_of_cells hx')).2.2.1)
 ·intro o' ho'
  by_cases e':o'=o
  ·subst e'
   rcases ho' with h|h
   ·rw[A6A h] at h0;cases h0
   ·rw[h0] at h;injection h with h;subst h;cases hx0
  ·rw[hb o' e']
   refine k.free o' ?_
   rcases ho' with h|h
   ·refine .inl ?_
    have:=hH o' e'
    rw[A6A h] at this
    exact List.getElem?_eq_none_iff.1 this.symm
   ·exact .inr (by rw[<- hH o' e'];exact h)
 ·intro o' x ho' hx
  by_cases e':o'=o
  ·subst e'
   rw[hβ0,A6T]
   exact⟨hb0,k.low,A7Z _,hMnew⟩
  ·rw[hH o' e'] at ho'
   obtain⟨h1,h2,h3,h4⟩:=k.own o' x ho' hx
   rw[hβ o' e',hb o' e',A6T]
   exact⟨h1,h2,A7j h3,h4⟩
 ·intro o1 o2 x1 x2 g1 g2 l1 l2 he
  by_cases e1:o1=o<;>by_cases e2:o2=o
  ·rw[e1,e2]
  ·subst e1
   rw[hβ0,hβ o2 e2] at he
   rw[hH o2 e2] at g2
   have:=(k.own o2 x2 g2 l2).2.2.1
   omega
  ·subst e2
   rw[hβ0,hβ o1 e1] at he
   rw[hH o1 e1] at g1
   have:=(k.own o1 x1 g1 l1).2.2.1
   omega
  ·rw[hβ o1 e1,hβ o2 e2] at he
   rw[hH o1 e1] at g1
   rw[hH o2 e2] at g2
   exact k.apart o1 o2 x1 x2 g1 g2 l1 l2 he
 ·intro o' es clk h
  by_cases e':o'=o
  ·subst e';rw[h0] at h;injection h with h;subst h;cases hx0
  ·rw[hH o' e'] at h
   obtain⟨g1,g2⟩:=k.map o' es clk h
   rw[hβ o' e']
   exact⟨g1,(DT (k.own o' _ h rfl).2.2.1).trans g2⟩
 ·intro o' m l h
  by_cases e':o'=o
  ·subst e';rw[h0] at h;injection h with h;subst h;cases hx0
  ·rw[hH o' e'] at h;exact k.iter o' m l h
 ·intro τ m z hτ
  obtain⟨h1,h2,h3,h4,h5⟩:=k.tok τ m z hτ
  refine⟨h1,by rw[A6T];exact A7j h2,h3,h4,fun j a b=>?_⟩
  obtain⟨g1,g2,g3⟩:=h5 j a b
  refine⟨?_,?_,g3⟩
  ·have:=A7a w (.cells (vs++rest).toArray e) ⟨(c.κ τ).1.block,(c.κ τ).1.off+j,none⟩ h2
   exact(congrArg A7A this).trans g1
  ·have:=A7B w (.cells (vs++rest).toArray e) ⟨(c.κ τ).1.block,(c.κ τ).1.off+j,none⟩ (A7s h2)
   exact this.trans g2
 ·intro τ m z o' x hτ ho' hx
  by_cases e':o'=o
  ·subst e'
   rw[hβ0]
   exact Nat.ne_of_gt (k.tok τ m z hτ).2.1
  ·rw[hH o' e'] at ho'
   rw[hβ o' e']
   exact k.tokrow τ m z o' x hτ ho' hx
 ·exact k.toks
theorem rA(k:Inv c w H){cs:List D}{vs:List Value}(e:TypeId)(hc:Cells c cs vs){o:Nat}(hf:c.bd o=false){H':Hp}{x0:Ob}(h0:H'[o]? =some x0)(hx0:x0.cells? =some cs)(hH:∀o',o'≠o->H'[o']? =H[o']?){T:Tk}(hT:c.T=T):
  Yld c w H' T (.ptr o 0) (.ok (.pointer (some ⟨w.heap.size,0,none⟩)) (w.alloc (.cells vs.toArray e))):=by
 have hb:=k.bind [] e hc hf h0 hx0 hH
 rw[A7q] at hb
 refine⟨_,BD c o w.heap.size (vs.length+([]:List Value).length),_,rfl,?_,hb,GX hf,hT,Below.of_alloc w _ k.low⟩
 have:Rep (BD c o w.heap.size (vs.length+([]:List Value).length)) (.ptr o 0) (.pointer (some ⟨(BD c o w.heap.size (vs.length+([]:List Value).length)).β o,0,none⟩)):=Rep.ptr o 0 (by show EN _ _ _=_;unfold EN;rw[if_pos rfl])
 have hβ0:(BD c o w.heap.size (vs.length+([]:List Value).length)).β o=w.heap.size:=by show Bv _ _ _ _=_;unfold Bv;rw[if_pos rfl]
 rwa [hβ0] at this
theorem l8(k:Inv c w H){cs:List D}{vs:List Value}(rest:List Value)(e:TypeId)(hc:Cells c cs vs){o:Nat}(hf:c.bd o=false){H':Hp}(h0:H'[o]? =some (.row cs))(hH:∀o',o'≠o->H'[o']? =H[o']?){T:Tk}(hT:c.T=T)
  {ag:Bool} {sz n cap rc:Nat} (h1:n<=cap) (h2:cap<=rc) (h3:rc*sz<=vs.length+rest.length) :
  Yld c w H' T (.ms ag sz o 0 n cap) (.ok (.slice (some ⟨w.heap.size,0,none⟩) n rc) (w.alloc (.cells (vs++rest).toArray e))):=by
 refine⟨_,BD c o w.heap.size (vs.length+rest.length),_,rfl,?_,k.bind rest e hc hf h0 rfl hH,GX hf,hT,Below.of_alloc w _ k.low⟩
 have hz0:(BD c o w.heap.size (vs.length+rest.length)).sz o=vs.length+rest.length:=by show Bv _ _ _ _=_;unfold Bv;rw[if_pos rfl]
 have:Rep (BD c o w.heap.size (vs.length+rest.length)) (.ms ag sz o 0 n cap) (.slice (some ⟨(BD c o w.heap.size (vs.length+rest.length)).β o,0,none⟩) n rc) :=
  Rep.ms ag sz o 0 n cap rc (by show EN _ _ _=_;unfold EN;rw[if_pos rfl]) h1 h2 (by rw[hz0];omega)
 have hβ0:(BD c o w.heap.size (vs.length+rest.length)).β o=w.heap.size:=by show Bv _ _ _ _=_;unfold Bv;rw[if_pos rfl]
 rwa [hβ0] at this
theorem dH(H:Hp)(x:Ob):(H++[x])[H.length]? =some x:=by simp
theorem bD(H:Hp)(x:Ob)(o:Nat)(h:o≠H.length):(H++[x])[o]? =H[o]?:=by
 rcases A6F o H.length with h'|h'
 ·rw[A6D h']
 ·rw[A6A (by simp;omega),A6A h']
def AZ(w:World)(b off:Nat):List Value->World
 | []=>w
 | v::vs=>AZ (w.setCell ⟨b,off,none⟩ v) b (off+1) vs
theorem bO:∀(vs:List Value) (w:World) (b off:Nat),(AZ w b off vs).drawn=w.drawn
 | [],_,_,_=>rfl
 | v::vs,w,b,off=>by rw[AZ,bO vs];rfl
theorem l7{w:World}{b off:Nat}{v:Value}{cs:Array Value}{e:TypeId}{fr:Nat×Nat}(h:w.heap[b]? =some (.cells cs e fr)):
  (w.setCell ⟨b,off,none⟩ v).heap[b]? =some (.cells (cs.setIfInBounds off v) e fr):=by
 simp[A8e,A7I,h]
theorem gF{w:World}{b b' off:Nat}{v:Value}(h:b'≠b):(w.setCell ⟨b,off,none⟩ v).heap[b']? =w.heap[b']?:=by
 simp[A8e,A7I,Ne.symm h]
theorem cW{b b':Nat}(h:b'≠b):∀(vs:List Value) (off:Nat) (w:World),(AZ w b off vs).heap[b']? =w.heap[b']?
 | [],_,_=>rfl
 | v::vs,off,w=>by rw[AZ,cW h vs,gF h]
theorem gB{b:Nat}{e:TypeId}{fr:Nat×Nat}:∀(vs:List Value) (off:Nat) (w:World) (cs:Array Value),w.heap[b]? =some (.cells cs e fr)->off+vs.length<=cs.size →
  ∃cs',(AZ w b off vs).heap[b]? =some (.cells cs' e fr)/\cs'.toList=cs.toList.take off++vs++cs.toList.drop (off+vs.length)
 | [],off,w,cs,h,_=>⟨cs,h,by simp⟩
 | v::vs,off,w,cs,h,hl=>by
  simp only[A6S] at hl
  obtain⟨cs',h1,h2⟩:=gB vs (off+1) (w.setCell ⟨b,off,none⟩ v) (cs.setIfInBounds off v) (l7 h) (by simp;omega)
  refine⟨cs',h1,?_⟩
  rw[h2]
  simp only[A7r,A6S]
  rw[A7h (by simp;omega),A7O (by omega),A7P (by omega)]
  simp only[A7F,A7y,A7Y,A7G]
  congr 4
  omega
theorem bY{b:Nat}:∀(vs:List Value) (off:Nat) (w:World),(AZ w b off vs).heap.size=w.heap.size/\(AZ w b off vs).os=w.os/\(AZ w b off vs).tape=w.tape/\(AZ w b off vs).output=w.output/\(AZ w b off vs).drawn=w.drawn
 | [],_,_=>⟨rfl,rfl,rfl,rfl,rfl⟩
 | v::vs,off,w=>by
  obtain⟨h1,h2,h3,h4,h5⟩:=bY vs (off+1) (w.setCell ⟨b,off,none⟩ v)
  exact⟨by rw[AZ,h1,World.size_setCell],h2,h3,h4,h5⟩
theorem bQ{b o:Nat}:∀(vs:List Value) (i:Nat) (w:World),(∀j,j<vs.length->(w.cell? ⟨b,o+i+j,none⟩).isSome=true/\w.frozen? ⟨b,o+i+j,none⟩=false)->(∀v∈vs,v.oneCell'=true) →
  (storeCells ⟨b,o,none⟩ vs i).run P w= .ok () (AZ w b (o+i) vs)
 | [],i,w,_,_=>by simp[storeCells,AZ]
 | v::vs,i,w,h,h1=>by
  have h0:=h 0 (by simp)
  simp only[A7k] at h0
  obtain⟨u,hu⟩:=A61.1 h0.1
  have hs:(store (Addr.add ⟨b,o,none⟩ i) v).run P w= .ok () (w.setCell ⟨b,o+i,none⟩ v):=by
   rw[Addr.add_eq _ rfl,run_store P w _ v _ (h1 v (by simp))]
   simp only[hu,h0.2]
   rfl
  simp only[storeCells,A6J,hs,A6C]
  rw[bQ vs (i+1) _ ?_ (fun v hv=>h1 v (by simp[hv]))]
  ·rfl
  ·intro j hj
   have hj':=h (j+1) (by simp;omega)
   rw[show o+i+(j+1)=o+(i+1)+j by omega] at hj'
   refine⟨?_,by rw[A7J];exact hj'.2⟩
   rw[A7b]
   ·exact hj'.1
   ·intro e;injection e with _ e;omega
theorem gK(k:Inv c w H){o:Nat}{x:Ob}{cs ds:List D}{us:List Value}(ho:H[o]? =some x)(hx:x.cells? =some cs)(kc:Cells c ds us){off:Nat}(h1:off<=cs.length)(h3:off+ds.length<=c.sz o):
  (storeCells ⟨c.β o,off,none⟩ us).run P w= .ok () (AZ w (c.β o) off us)∧
  Inv c (AZ w (c.β o) off us) (H.set o (.row (cs.take off++ds++cs.drop (off+ds.length))))/\Below c.bb w (AZ w (c.β o) off us):=by
 have hl:=Ob.live_of_cells hx
 obtain⟨vs,rest,e,fr,g1,g2,g4,g3⟩:=(k.row o x cs ho hx).hold
 obtain⟨k0,k1,k2,k3⟩:=k.own o _ ho hl
 have hvl:vs.length=cs.length:=g2.len
 have hul:us.length=ds.length:=kc.len
 generalize hN:(Ob.row (cs.take off++ds++cs.drop (off+ds.length)))=N
 have hrun:(storeCells ⟨c.β o,off,none⟩ us).run P w= .ok () (AZ w (c.β o) off us):=by
  have hst:=bQ (P:=P) (b:=c.β o) (o:=off) us 0 w (fun j hj=>?_) kc.cell
  ·simpa only[A7k] using hst
  ·simp only[A7k,A63,A7z,g1]
   have hlt:off+j<c.sz o:=by omega
   have:=g3 (off+j) hlt
   have hlt':off+j<(vs++rest).length:=by rw[A6O];omega
   refine⟨?_,?_⟩
   ·simp only[A6Q,A6H hlt'];rfl
   ·simp;omega
 obtain⟨p1,p2,p3,p4,p5⟩:=bY (b:=c.β o) us off w
 obtain⟨cs',q1,q2⟩:=gB (b:=c.β o) us off w (vs++rest).toArray g1 (by simp;omega)
 have hne:∀b',b'≠c.β o->(AZ w (c.β o) off us).heap[b']? =w.heap[b']?:=fun b' h=>cW h _ _ _
 have hcell:∀x:Addr,x.block≠c.β o->(AZ w (c.β o) off us).cell? x=w.cell? x:=fun x h=>by simp only[A63,hne _ h]
 have hfroz:∀x:Addr,x.block≠c.β o->(AZ w (c.β o) off us).frozen? x=w.frozen? x:=fun x h=>by simp only[A7z,hne _ h]
 have hHne:∀o',o'≠o->(H.set o N)[o']? =H[o']?:=fun o' h=>by rw[A6U (Ne.symm h)]
 have hlt:o<H.length:=by
  rcases A6F o H.length with h'|h'
  ·exact h'
  ·rw[A6A h'] at ho;cases ho
 have hHo:(H.set o N)[o]? =some N:=by simp[hlt]
 refine⟨hrun,?_,?_⟩
 ·refine⟨?_,?_,?_,?_,?_,?_,?_,?_,?_,?_,?_⟩
  ·intro x v hx
   by_cases hb:x.block=c.β o
   ·exfalso
    obtain⟨b,f,s⟩:=x
    simp only at hb;subst hb
    have hc:=k.keep _ _ hx
    cases s with
    | none=>rw[k3 f] at hx;cases hx
    | some s=>simp[A63,g1] at hc
   ·rw[hcell x hb];exact k.keep x v hx
  ·rw[p1];exact k.low
  ·intro o' x'' cs'' ho' hx''
   by_cases e':o'=o
   ·subst e'
    rw[hHo] at ho';injection ho' with ho';subst ho';subst hN
    injection hx'' with hx'';subst hx''
    have hc:Cells c (cs.take off++ds++cs.drop (off+ds.length)) (vs.take off++us++vs.drop (off+us.length)):=by
     rw[hul]
     exact((g2.take off).append kc).append (g2.drop _)
    have hlen:=hc.len
    refine⟨vs.take off++us++vs.drop (off+us.length),rest.drop (off+us.length - vs.length),e,fr,?_,hc,?_,g3⟩
    ·rw[q1]
     congr 2
     apply A6X.1
     rw[q2]
     simp only[A7y,List.drop_append]
     rw[A7m (by omega)]
    ·simp only[A6O,A64,A70]
     omega
   ·rw[hHne o' e'] at ho'
    have hb:=fun e=>e' (k.apart o' o _ _ ho' ho (Ob.live_of_cells hx'') hl e)
    exact(k.row o' x'' cs'' ho' hx'').mono (Cx.le.refl c) (hne _ hb)
  ·intro o' ho'
   by_cases e':o'=o
   ·subst e'
    rcases ho' with h|h
    ·rw[A67] at h;omega
    ·rw[hHo] at h;subst hN;cases h
   ·refine k.free o' ?_
    rcases ho' with h|h
    ·exact .inl (by rw[A67] at h;exact h)
    ·exact .inr (by rw[<- hHne o' e'];exact h)
  ·intro o' x ho' hx
   rw[p1]
   by_cases e':o'=o
   ·subst e';exact⟨k0,k1,k2,k3⟩
   ·rw[hHne o' e'] at ho';exact k.own o' x ho' hx
  ·intro o1 o2 x1 x2 h1' h2' l1 l2 he
   have key:∀(o':Nat) (y:Ob),(H.set o N)[o']? =some y->y.live=true->∃x':Ob,H[o']? =some x'/\x'.live=true:=fun o' y h l=>by
    by_cases e':o'=o
    ·subst e';exact⟨_,ho,hl⟩
    ·rw[hHne o' e'] at h;exact⟨y,h,l⟩
   obtain⟨y1,a1,b1⟩:=key o1 x1 h1' l1
   obtain⟨y2,a2,b2⟩:=key o2 x2 h2' l2
   exact k.apart o1 o2 y1 y2 a1 a2 b1 b2 he
  ·intro o' es clk h
   by_cases e':o'=o
   ·subst e';rw[hHo] at h;subst hN;cases h
   ·rw[hHne o' e'] at h
    obtain⟨g1,g2⟩:=k.map o' es clk h
    have hb:=fun e=>e' (k.apart o' o _ _ h ho rfl hl e)
    exact⟨g1,(hne _ hb).trans g2⟩
  ·intro o' m l h
   by_cases e':o'=o
   ·subst e';rw[hHo] at h;subst hN;cases h
   ·rw[hHne o' e'] at h;exact k.iter o' m l h
  ·intro τ m z hτ
   obtain⟨h1,h2,h3,h4,h5⟩:=k.tok τ m z hτ
   have hb:(c.κ τ).1.block≠c.β o:=fun e=>k.tokrow τ m z o _ hτ ho hl e.symm
   refine⟨h1,by rw[p1];exact h2,h3,h4,fun j a b=>?_⟩
   obtain⟨z1,z2,z3⟩:=h5 j a b
   exact⟨(congrArg A7A (hcell ⟨(c.κ τ).1.block,(c.κ τ).1.off+j,none⟩ hb)).trans z1,(hfroz ⟨(c.κ τ).1.block,(c.κ τ).1.off+j,none⟩ hb).trans z2,z3⟩
  ·intro τ m z o' x hτ ho' hx
   by_cases e':o'=o
   ·subst e';exact k.tokrow τ m z o' _ hτ ho hl
   ·rw[hHne o' e'] at ho';exact k.tokrow τ m z o' x hτ ho' hx
  ·exact k.toks
 ·exact⟨p2,p3,p4,by rw[p1];exact A6E _,fun i hi=>hne i (by have hi':i<c.B:=hi;omega),fun _=>by rw[bO];exact A6E _⟩
theorem iS(k:Inv c w H){o:Nat}{x:Ob}{cs:List D}(ho:H[o]? =some x)(hx:x.cells? =some cs):cs.length<=c.sz o:=by
 obtain⟨vs,rest,e,fr,g1,g2,g4,g3⟩:=(k.row o x cs ho hx).hold
 have:=g2.len
 omega
theorem jD(k:Inv c w H){t:TypeId}{n:Nat}(ht:tsz P t=some n){a d:D}{va vd:Value}(ha:Rep c a va)(hd:Rep c d vd){o off:Nat}{x:Ob}{cs:List D}(ea:a= .ptr o off)(ho:H[o]? =some x)(hx:x.cells? =some cs)
  (h1:d.okc=true) (h2:d.cells.length=n) (h3:off+n<=cs.length) :
  ∃w',(Instr.storeAt t va vd).run P w= .ok () w'/\Inv c w' (H.set o (.row (cs.take off++d.cells++cs.drop (off+n))))/\Below c.bb w w':=by
 subst ea
 cases ha with
 | ptr _ _ hbd =>
  have kc:=hd.cells h1
  have hvn:vd.cells.size=n:=by have:=kc.len;simp at this;omega
  have hfit:=iS k ho hx
  obtain⟨hst,hi,hb⟩:=gK (P:=P) k ho hx kc (off:=off) (by omega) (by omega)
  refine⟨_,?_,by rw[h2] at hi;exact hi,hb⟩
  simp[Instr.storeAt,Instr.sureAddr,storeVar,Af ht,hvn,hst]
theorem lX(k:Inv c w H){t:TypeId}{n:Nat}(ht:tsz P t=some n){a d:D}{va vd:Value}(ha:Rep c a va)(hd:Rep c d vd){o off:Nat}{cs:List D}(ea:a= .ptr o off)(ho:H[o]? =some (.row cs))
  (h1:d.okc=true) (h2:d.cells.length=n) (h3:off+n<=cs.length) :
  ∃w',(Instr.storeAt t va vd).run P w= .ok () w'/\Inv c w' (H.set o (.row (cs.take off++d.cells++cs.drop (off+n))))/\Below c.bb w w' :=
 jD k ht ha hd ea ho rfl h1 h2 h3
theorem o7(k:Inv c w H){o:Nat}{x:Ob}{cs:List D}(ho:H[o]? =some x)(hx:x.cells? =some cs):
  Inv (BD c H.length (c.β o) (c.sz o)) w (H.set o .dead++[.row cs])/\c.le (BD c H.length (c.β o) (c.sz o)):=by
 have hl:=Ob.live_of_cells hx
 have hlt:o<H.length:=by
  rcases A6F o H.length with h'|h'
  ·exact h'
  ·rw[A6A h'] at ho;cases ho
 have hf:c.bd H.length=false:=k.free _ (.inl (A6E _))
 have hle:=GX (c:=c) (o:=H.length) (b:=c.β o) (n:=c.sz o) hf
 obtain⟨k0,k1,k2,k3⟩:=k.own o _ ho hl
 have hβ:∀o',o'≠H.length->(BD c H.length (c.β o) (c.sz o)).β o'=c.β o':=fun o' h=>by show Bv _ _ _ _=_;unfold Bv;rw[if_neg h]
 have hβ0:(BD c H.length (c.β o) (c.sz o)).β H.length=c.β o:=by show Bv _ _ _ _=_;unfold Bv;rw[if_pos rfl]
 have hz:∀o',o'≠H.length->(BD c H.length (c.β o) (c.sz o)).sz o'=c.sz o':=fun o' h=>by show Bv _ _ _ _=_;unfold Bv;rw[if_neg h]
 have hz0:(BD c H.length (c.β o) (c.sz o)).sz H.length=c.sz o:=by show Bv _ _ _ _=_;unfold Bv;rw[if_pos rfl]
 have hb:∀o',o'≠H.length->(BD c H.length (c.β o) (c.sz o)).bd o'=c.bd o':=fun o' h=>by show EN _ _ _=_;unfold EN;rw[if_neg h]
 have hb0:(BD c H.length (c.β o) (c.sz o)).bd H.length=true:=by show EN _ _ _=_;unfold EN;rw[if_pos rfl]
 have get:∀(o':Nat) (y:Ob),(H.set o .dead++[.row cs])[o']? =some y->(o'=H.length/\y= .row cs)∨(o'=o/\y= .dead)∨(o'≠H.length/\o'≠o/\H[o']? =some y):=by
  intro o' y h
  rcases A6F o' H.length with h'|h'
  ·rw[A6D (by simpa using h')] at h
   by_cases e:o'=o
   ·subst e;simp[h'] at h;exact .inr (.inl ⟨rfl,h.symm⟩)
   ·rw[A6U (Ne.symm e)] at h
    exact .inr (.inr ⟨by omega,e,h⟩)
  ·rw[A68 (by simpa using h')] at h
   simp only[A67] at h
   cases hd:o' - H.length with
   | zero =>
    rw[hd] at h
    exact .inl ⟨by omega,by simpa using h.symm⟩
   | succ n=>rw[hd] at h;simp at h
 refine⟨⟨k.keep,k.low,?_,?_,?_,?_,?_,?_,k.tok,?_,k.toks⟩,hle⟩
 ·intro o' x' cs' h hx'
  rcases get o' _ h with⟨rfl,rfl⟩|⟨rfl,rfl⟩|⟨h1,h2,h3⟩
  ·injection hx' with hx';subst hx'
   rw[hβ0,hz0]
   exact(k.row o x cs ho hx).mono hle rfl
  ·cases hx'
  ·rw[hβ o' h1,hz o' h1]
   exact(k.row o' x' cs' h3 hx').mono hle rfl
 ·intro o' h
  rcases h with h|h
  ·simp at h
   rw[hb o' (by omega)]
   exact k.free o' (.inl (by omega))
  ·rcases get o' _ h with⟨rfl,e⟩|⟨rfl,e⟩|⟨h1,h2,h3⟩
   ·cases e
   ·cases e
   ·rw[hb o' h1];exact k.free o' (.inr h3)
 ·intro o' y h hy
  rcases get o' _ h with⟨rfl,rfl⟩|⟨rfl,rfl⟩|⟨h1,h2,h3⟩
  ·rw[hβ0];exact⟨hb0,k1,k2,k3⟩
  ·cases hy
  ·rw[hβ o' h1,hb o' h1];exact k.own o' y h3 hy
 ·intro o1 o2 x1 x2 h1 h2 l1 l2 he
  rcases get o1 _ h1 with⟨rfl,rfl⟩|⟨rfl,rfl⟩|⟨a1,a2,a3⟩
  ·rcases get o2 _ h2 with⟨rfl,rfl⟩|⟨rfl,rfl⟩|⟨b1,b2,b3⟩
   ·rfl
   ·cases l2
   ·rw[hβ0,hβ o2 b1] at he
    exact absurd (k.apart o o2 x x2 ho b3 hl l2 he).symm b2
  ·cases l1
  ·rcases get o2 _ h2 with⟨rfl,rfl⟩|⟨rfl,rfl⟩|⟨b1,b2,b3⟩
   ·rw[hβ0,hβ o1 a1] at he
    exact absurd (k.apart o1 o x1 x a3 ho l1 hl he) a2
   ·cases l2
   ·rw[hβ o1 a1,hβ o2 b1] at he
    exact k.apart o1 o2 x1 x2 a3 b3 l1 l2 he
 ·intro o' es clk h
  rcases get o' _ h with⟨rfl,e⟩|⟨rfl,e⟩|⟨h1,h2,h3⟩
  ·cases e
  ·cases e
  ·rw[hβ o' h1];exact k.map o' es clk h3
 ·intro o' m l h
  rcases get o' _ h with⟨rfl,e⟩|⟨rfl,e⟩|⟨h1,h2,h3⟩
  ·cases e
  ·cases e
  ·exact k.iter o' m l h3
 ·intro τ m z o' y hτ h hy
  rcases get o' _ h with⟨rfl,rfl⟩|⟨rfl,rfl⟩|⟨h1,h2,h3⟩
  ·rw[hβ0];exact k.tokrow τ m z o x hτ ho hl
  ·cases hy
  ·rw[hβ o' h1];exact k.tokrow τ m z o' y hτ h3 hy
theorem tS(k:Inv c w H)(o:Nat):Inv c w (H.set o .dead):=by
 have get:∀(o':Nat) (y:Ob),(H.set o .dead)[o']? =some y->y= .dead∨H[o']? =some y:=by
  intro o' y h
  by_cases e:o'=o
  ·subst e
   rcases A6F o' H.length with h'|h'
   ·simp[h'] at h;exact .inl h.symm
   ·rw[A6A (by simpa using h')] at h;cases h
  ·rw[A6U (Ne.symm e)] at h;exact .inr h
 refine⟨k.keep,k.low,?_,?_,?_,?_,?_,?_,k.tok,?_,k.toks⟩
 ·intro o' x' cs' h hx'
  rcases get o' _ h with rfl|h
  ·cases hx'
  ·exact k.row o' x' cs' h hx'
 ·intro o' h
  rcases h with h|h
  ·exact k.free o' (.inl (by simpa using h))
  ·rcases get o' _ h with e|h
   ·cases e
   ·exact k.free o' (.inr h)
 ·intro o' y h hy
  rcases get o' _ h with rfl|h
  ·cases hy
  ·exact k.own o' y h hy
 ·intro o1 o2 x1 x2 h1 h2 l1 l2 he
  rcases get o1 _ h1 with rfl|h1
  ·cases l1
  ·rcases get o2 _ h2 with rfl|h2
   ·cases l2
   ·exact k.apart o1 o2 x1 x2 h1 h2 l1 l2 he
 ·intro o' es clk h
  rcases get o' _ h with e|h
  ·cases e
  ·exact k.map o' es clk h
 ·intro o' m l h
  rcases get o' _ h with e|h
  ·cases e
  ·exact k.iter o' m l h
 ·intro τ m z o' y hτ h hy
  rcases get o' _ h with rfl|h
  ·cases hy
  ·exact k.tokrow τ m z o' y hτ h hy
end GP
namespace GP
open Go
variable {P:Program} {c:Cx} {w:World} {H:Hp}
theorem dY(sz:Nat):∀(vs:List Value) (k:Nat) (done:List Value) (cs:Array Value),cs.toList.take (k*sz)=done->cs.size=(k+vs.length)*sz->(∀v∈vs,v.cells.size=sz) →
  ∃cs',Instr.fill (fun i=>some (i*sz,sz)) cs ((vs.zipIdx k).map fun p=>(p.2,p.1))=some cs'/\cs'.toList=done++(vs.map fun v=>v.cells.toList).flatten
 | [],k,done,cs,h,hs,_=>⟨cs,rfl,by
   simp only[List.map_nil,A71,A7q]
   rw[<- h,A7i]
   simp only[A6V,hs]
   simp⟩
 | v::vs,k,done,cs,h,hs,hv=>by
  have hv0:=hv v (by simp)
  have hle:k*sz+v.cells.size<=cs.size:=by
   rw[hs,hv0]
   simp only[A6S]
   have:k*sz+sz=(k+1)*sz:=by rw[A6L];omega
   rw[this]
   exact A6K _ (by omega)
  have e:=lW (k*sz) v.cells cs hle
  have hsz':(v.cells.zipIdx.foldl (fun cs (p:Value×Nat)=>cs.setIfInBounds (k*sz+p.2) p.1) cs).size=cs.size:=by
   rw[<- A6V,e]
   simp only[A6O,A64,A70,A6V]
   omega
  have hd:done.length=k*sz:=by rw[<- h,A64,A6V];omega
  obtain⟨cs',h1,h2⟩:=dY sz vs (k+1) (done++v.cells.toList) (v.cells.zipIdx.foldl (fun cs (p:Value×Nat)=>cs.setIfInBounds (k*sz+p.2) p.1) cs)
   (by
    rw[e,h]
    rw[A7m (by simp[hd,hv0,A6L])]
    rw[A7i (by simp[hd,hv0,A6L])])
   (by rw[hsz',hs];simp only[A6S];congr 1;omega) (fun u hu=>hv u (by simp[hu]))
  refine⟨cs',?_,?_⟩
  ·simp only[A7X,A7S,Instr.fill]
   rw[hv0] at hle
   rw[if_neg (by simp only[hv0,ne_eq,not_true_eq_false,decide_false,Bool.false_or,decide_eq_true_eq];omega)]
   exact h1
  ·rw[h2];simp
theorem wV{t e:TypeId}{sz:Nat}(ht:Ak P t=some e)(hsz:tsz P e=some sz)(hz:(tz P e).isSome=true)(vs:List Value)(hv:∀v∈vs,v.cells.size=sz)(hs:vs.length*sz<=2^24)(c:Cx):
  (Instr.buildSlice t vs.length ((vs.zipIdx 0).map fun p=>(p.2,p.1)).toArray).run P w= .ok (.slice (some ⟨w.heap.size,0,none⟩) vs.length vs.length) (w.alloc (.cells (vs.map fun v=>v.cells.toList).flatten.toArray e)):=by
 obtain⟨z,hz⟩:=A61.1 hz
 obtain⟨zv,z1,z2⟩:=bL hz c
 have hsmall: ¬(vs.length*sz>2^24):=by omega
 by_cases h0:vs.length*sz=0
 ·obtain⟨cs',h1,h2⟩:=dY sz vs 0 [] #[] (by simp) (by simp[h0]) hv
  have e0:cs'=(vs.map fun v=>v.cells.toList).flatten.toArray:=by
   apply A6X.1;rw[h2];simp
  have e1:∀d:Value,(Array.map (fun _:Nat=>d) (A7Q 0))= #[]:=fun d=>by simp[A7Q]
  simp[Instr.buildSlice,run_underlying (Ai ht),Af hsz,h0,newRow]
  rw[e1,h1]
  simp[e0]
 ·obtain⟨cs',h1,h2⟩:=dY sz vs 0 [] ((A7Q (vs.length*sz)).map (zv.cells[·%zv.cells.size]!)) (by simp) (by simp) hv
  have e0:cs'=(vs.map fun v=>v.cells.toList).flatten.toArray:=by
   apply A6X.1;rw[h2];simp
  simp[Instr.buildSlice,run_underlying (Ai ht),Af hsz,h0,hsmall,z1,newRow,h1,e0]
theorem n7(k:Inv c w H){sz:Nat}{xs:List D}{vss:List (List Value)}(hk:Elems c sz xs vss)(e:TypeId)(hb:xs.length<2^62){T:Tk}(hT:c.T=T):
  Yld c w H T (.sl none xs) (.ok (.slice (some ⟨w.heap.size,0,none⟩) xs.length xs.length) (w.alloc (.cells vss.flatten.toArray e))):=by
 have hle:=ID k vss.flatten vss.flatten.length
 refine⟨_,{ c with M:=CI c.M w.heap.size vss.flatten vss.flatten.length },_,rfl,?_,k.fresh _ e (0,0) _,hle,hT,Below.of_alloc w _ k.low⟩
 refine FF (hk.mono hle) rfl (A6E _) hb (fun j hj=>?_) none (fun τ h=>by cases h) (fun τ h=>by cases h)
 have:j<vss.flatten.length:=by rw[aO vss hk.sz',hk.len];exact hj
 show CI _ _ _ _ _=_
 simp only[A7t]
 rw[fG this]
theorem rX(k:Inv c w H){sz:Nat}{xs:List D}{vss:List (List Value)}(hk:Elems c sz xs vss)(e:TypeId)(hb:xs.length<2^62){T:Tk}(hT:c.T=T):
  Yld c w H T (slq xs) (.ok (.slice (some ⟨w.heap.size,0,none⟩) xs.length xs.length) (w.alloc (.cells vss.flatten.toArray e))):=by
 cases xs with
 | cons x xs=>exact n7 k hk e hb hT
 | nil =>
  obtain⟨v,c',w',e1,e2,e3,e4⟩:=n7 k hk e hb hT
  injection e1 with e1 e1'
  exact⟨v,c',w',by rw[e1,e1'],e1▸Rep.e0 _,e3,e4⟩
theorem fI(k:Inv c w H){sz:Nat}{xs:List D}{vss:List (List Value)}(hk:Elems c sz xs vss)(e:TypeId)(hb:xs.length<2^62)(rest:List Value)(fr:Nat×Nat)(hfr:∀i,i<vss.flatten.length+rest.length-> ¬(fr.1<=i/\i<fr.2))
  {cap:Nat} (hcap:xs.length<=cap) (hrest:cap*sz<=vss.flatten.length+rest.length) {τ:Nat} {T':Tk}
  (hτ:T'[τ]? =some (some (xs.length,sz))) (hold:τ<c.T.length->∃n,c.T[τ]? =some (some (n,sz))/\n<xs.length) (hne:∀τ',τ'≠τ->T'[τ']? =c.T[τ']?) (hlen:c.T.length<=T'.length) :
  Yld c w H T' (.sl (some τ) xs) (.ok (.slice (some ⟨w.heap.size,0,none⟩) xs.length cap) (w.alloc (.cells (vss.flatten++rest).toArray e fr))):=by
 let c1:Cx:={ c with M:=CI c.M w.heap.size (vss.flatten++rest) vss.flatten.length }
 let κ':Nat->Addr×Nat:=fun j=>if j=τ then(⟨w.heap.size,0,none⟩,cap) else c.κ j
 have hκ0:κ' τ=(⟨w.heap.size,0,none⟩,cap):=if_pos rfl
 have hκ:∀j,j≠τ->κ' j=c.κ j:=fun j h=>if_neg h
 have hfl:vss.flatten.length=xs.length*sz:=by rw[aO vss hk.sz',hk.len]
 have k1:Inv c1 (w.alloc (.cells (vss.flatten++rest).toArray e fr)) H:=k.fresh _ e fr _
 have hle1:c.le c1:=ID k _ _
 have hle2:c1.le { c1 with T:=T',κ:=κ' }:=by
  refine⟨fun _ _ h=>h,fun _ h=>h,fun _ _=>rfl,hlen,?_,?_,rfl,fun _ _=>rfl⟩
  ·intro j hj
   by_cases e':j=τ
   ·subst e'
    have hlt:j<c.T.length:=by
     rcases A6F j c.T.length with h'|h'
     ·exact h'
     ·have:c.T[j]? =none:=A6A h'
      have hj':c.T[j]? =some none:=hj
      rw[this] at hj';cases hj'
    obtain⟨n,hn,_⟩:=hold hlt
    have hj':c.T[j]? =some none:=hj
    rw[hn] at hj';cases hj'
   ·show T'[j]? =_
    rw[hne j e'];exact hj
  ·intro j n z hj
   by_cases e':j=τ
   ·subst e'
    have hj':c.T[j]? =some (some (n,z)):=hj
    have hlt:j<c.T.length:=by
     rcases A6F j c.T.length with h'|h'
     ·exact h'
     ·rw[A6A h'] at hj';cases hj'
    obtain⟨n0,hn,hl⟩:=hold hlt
    rw[hn] at hj';injection hj' with hj';injection hj' with hj';injection hj' with e1 e2
    subst e1;subst e2
    exact .inr ⟨xs.length,hτ,Nat.le_of_lt hl,fun e=>by omega⟩
   ·refine .inr ⟨n,?_,A6E _,fun _=>hκ j e'⟩
    show T'[j]? =_
    rw[hne j e'];exact hj
 have k2:Inv { c1 with T:=T',κ:=κ' } (w.alloc (.cells (vss.flatten++rest).toArray e fr)) H:=by
  refine k1.retok hle2 (some τ) ?_
  intro j n z hj
  by_cases e':j=τ
  ·subst e'
   rw[hτ] at hj;injection hj with hj;injection hj with hj;injection hj with e1 e2
   subst e1;subst e2
   rw[hκ0]
   refine .inr ⟨rfl,k.low,by rw[A6T];exact A7Z _,rfl,hcap,?_,?_,?_⟩
   ·intro i h1 h2
    simp only at h2
    simp only[A7t]
    refine⟨?_,?_,?_⟩
    ·rw[rK]
     have:i<(vss.flatten++rest).toArray.size:=by simp only[List.size_toArray,A6O];omega
     simp[Array.getElem?_eq_getElem this]
    ·rw[mR]
     have:=hfr i (by omega)
     simp;omega
    ·show CI _ _ _ _ _=none
     exact qC (by omega)
   ·intro o x ho hx
    exact A7s (k.own o x ho hx).2.2.1
   ·intro τ' n' z' hne' hτ'
    have h1:=hne τ' hne'
    rw[hτ'] at h1
    exact A7s (k.tok τ' n' z' h1.symm).2.1
  ·exact .inl ⟨by show c.T[j]? =_;rw[<- hne j e'];exact hj,hκ j e',fun e=>by injection e with e;exact e' e⟩
 refine⟨_,{ c1 with T:=T',κ:=κ' },_,rfl,?_,k2,hle1.trans hle2,rfl,Below.of_alloc w _ k.low⟩
 refine FF ((hk.mono hle1).mono hle2) rfl hcap hb (fun j hj=>?_) (some τ) (fun τ' h=>?_) (fun τ' h n z hn=>?_)
 ·have:j<vss.flatten.length:=by omega
  show CI _ _ _ _ _=_
  simp only[A7t]
  rw[fG this,A6D this]
 ·injection h with h;subst h
  rcases A6F τ T'.length with h'|h'
  ·exact h'
  ·rw[A6A h'] at hτ;cases hτ
 ·injection h with h;subst h
  have hn':T'[τ]? =some (some (n,z)):=hn
  rw[hτ] at hn';injection hn' with hn';injection hn' with hn';injection hn' with e1 e2
  subst e1
  exact⟨A6E _,fun _=>⟨by show some _=some (κ' τ).1;rw[hκ0],by show cap=(κ' τ).2;rw[hκ0]⟩⟩
theorem Yld.drew{c:Cx}{w:World}{H:Hp}{T:Tk}{d:D}{r:Result Value}(h:Yld c w.drew H T d r):Yld c w H T d r:=by
 obtain⟨v,c',w',h1,h2,h3,h4,h5,h6⟩:=h
 exact⟨v,c',w',h1,h2,h3,h4,h5,((Below.refl c.bb w).drew).trans h6⟩
theorem Inv.drew(k:Inv c w H):Inv c w.drew H:=Inv.congr (w:=w) (w':=w.drew) rfl k
theorem lO{sz:Nat}{xs:List D}(h:xs.all (fit sz)=true):∀x∈xs,x.cells.length=sz:=fun x hx=>by
 have:=A6W.1 h x hx
 simp only[fit,A65,beq_iff_eq] at this
 exact this.2
theorem LY(k:Inv c w H){sz:Nat}{y:D}{vy:Value}(hy:Rep c y vy){ys:List D}{st:Bool}(h:aQ st y=some ys)(hf:ys.all (fit sz)=true)(hbyte:∀l,y= .str l->sz=1):
  ∃vss,Elems c sz ys vss/\(∀w',(A6P vy).run P w'= .ok ys.length w')/\(∀w',w'.heap=w.heap->(A6B sz ys.length vy).run P w'= .ok vss.flatten.toArray w'):=by
 cases y with
 | nils =>
  simp only[aQ] at h
  cases st<;>simp at h
  subst h
  cases hy
  exact⟨[],⟨rfl,fun i h _=>absurd h (by simp),fun x hx=>by cases hx⟩,fun w'=>by simp[A6P],fun w' _=>by simp[A6B]⟩
 | e0 =>
  simp only[aQ] at h
  cases st<;>simp at h
  subst h
  cases hy with
  | e0 a =>
  refine⟨[],⟨rfl,fun i h _=>absurd h (by simp),fun x hx=>by cases hx⟩,fun w'=>by simp[A6P],fun w' _=>?_⟩
  cases a<;>simp[A6B,loadCells,loadCellsFrom]
 | sl t xs =>
  simp only[aQ] at h
  cases st<;>simp at h
  subst h
  obtain⟨a,cap,vss,rfl,hc,hk,hs,ha,hcell,hlen⟩:=eX k hy (lO hf)
  refine⟨vss,hk,fun w'=>by simp[A6P],fun w' hw'=>?_⟩
  cases a with
  | none =>
   cases xs with
   | nil=>
    have:vss=[]:=by have:=hk.len;simpa using this
    subst this
    simp[A6B]
   | cons x xs=>obtain⟨b,hb⟩:=ha (by simp);cases hb
  | some b =>
   exact run_firstCells_some w' sz xs.length b xs.length cap vss.flatten hlen (fun j v hj=>by rw[gT hw'];exact(hcell b rfl j v hj).1)
 | str l =>
  simp only[aQ] at h
  cases st<;>simp at h
  subst h
  cases hy with
  | str _ hl =>
   have hs1:=hbyte l rfl
   subst hs1
   refine⟨l.map fun b=>[Value.int .u8 b.toNat],⟨by simp[BQ],fun i h h'=>⟨by simp[BQ,D.cells],by simp[BQ,D.cells,D.one],fun j hj hj'=>?_⟩,fun x hx=>?_⟩,fun w'=>?_,fun w' _=>?_⟩
   ·simp[BQ,D.cells] at hj ⊢
    subst hj
    exact Rep.int _ _
   ·simp only[BQ,A7f] at hx
    obtain⟨b,_,rfl⟩:=hx
    rfl
   ·simp[A6P,BQ,ByteArray.size]
   ·simp only[A6B,BQ,List.length_map]
    have:((⟨l.toArray⟩:ByteArray).extract 0 l.length).data=l.toArray:=by
     rw[iC];simp[aH]
    rw[this]
    simp only[Sem.run_pure]
    congr 1
    apply A6X.1
    simp only[Array.toList_map]
    clear hl hbyte hf this
    induction l with
    | nil=>rfl
    | cons b l ih=>simpa using ih
 | _=>simp[aQ] at h
end GP
namespace GP
open Go
variable {P:Program} {c:Cx} {w:World} {H:Hp}
def KZ(M:Addr->Option Value)(b off:Nat)(vs:List Value):Addr->Option Value :=
 fun a=>if a.block=b/\a.spot=none/\off<=a.off/\a.off<off+vs.length then vs[a.off - off]? else M a
theorem dQ{b:Nat}:∀(vs:List Value) (off:Nat) (w:World) (x:Addr),(∀j,j<vs.length->(w.cell? ⟨b,off+j,none⟩).isSome=true) →
  (AZ w b off vs).cell? x=if x.block=b/\x.spot=none/\off<=x.off/\x.off<off+vs.length then vs[x.off - off]? else w.cell? x
 | [],off,w,x,_=>by
  rw[AZ,if_neg]
  simp only[A77]
  omega
 | v::vs,off,w,x,h=>by
  have h0:=h 0 (by simp)
  simp only[A7k] at h0
  obtain⟨u,hu⟩:=A61.1 h0
  have ih:=dQ vs (off+1) (w.setCell ⟨b,off,none⟩ v) x (fun j hj=>by
   rw[A7b]
   ·have:=h (j+1) (by simp;omega)
    rwa [show off+(j+1)=off+1+j by omega] at this
   ·intro e;injection e with _ e;omega)
  rw[AZ,ih]
  obtain⟨xb,xo,xs⟩:=x
  simp only[A6S]
  by_cases h1:xb=b/\xs=none/\off+1<=xo/\xo<off+1+vs.length
  ·obtain⟨q1,q2,q3,q4⟩:=h1
   rw[if_pos ⟨q1,q2,q3,q4⟩,if_pos ⟨q1,q2,by omega,by omega⟩]
   rw[show xo - off=(xo - (off+1))+1 by omega,List.getElem?_cons_succ]
  ·rw[if_neg h1]
   by_cases h2:xb=b/\xs=none/\off<=xo/\xo<off+(vs.length+1)
   ·rw[if_pos h2]
    obtain⟨rfl,rfl,h3,h4⟩:=h2
    have:xo=off:=by
     rcases A6F off xo with h'|h'
     ·exact absurd ⟨rfl,rfl,by omega,by omega⟩ h1
     ·omega
    subst this
    simp[World.cell?_setCell_same _ _ _ hu]
   ·rw[if_neg h2,A7b]
    intro e
    injection e with e1 e2 e3
    exact h2 ⟨e1.symm,e3.symm,by omega,by omega⟩
theorem bM{b:Nat}:∀(vs:List Value) (off:Nat) (w:World) (x:Addr),(AZ w b off vs).frozen? x=w.frozen? x
 | [],_,_,_=>rfl
 | v::vs,off,w,x=>by rw[AZ,bM vs,A7J]
theorem wO(k:Inv c w H){sz:Nat}{xs ys:List D}{τ:Nat}(hT:c.T[τ]? =some (some (xs.length,sz))){vx:Value}(hx:Rep c (.sl (some τ) xs) vx)(hfx:∀x∈xs,x.cells.length=sz)
  {vss:List (List Value)} (hy:Elems c sz ys vss) (hb:xs.length+ys.length<2^62) (hfit:xs.length+ys.length<=(c.κ τ).2) :
  vx= .slice (some (c.κ τ).1) xs.length (c.κ τ).2 ∧
  (storeCells ((c.κ τ).1.add (xs.length*sz)) vss.flatten).run P w= .ok () (AZ w (c.κ τ).1.block ((c.κ τ).1.off+xs.length*sz) vss.flatten)∧
  Yld c w H (c.T.set τ (some (xs.length+ys.length,sz))) (.sl (some τ) (xs++ys))
   (.ok (.slice (some (c.κ τ).1) (xs.length+ys.length) (c.κ τ).2) (AZ w (c.κ τ).1.block ((c.κ τ).1.off+xs.length*sz) vss.flatten)):=by
 obtain⟨t1,t2,t3,t4,t5⟩:=k.tok τ _ _ hT
 obtain⟨a,cap,uss,rfl,hcap,hkx,hs,ha,hcell,hul⟩:=eX k hx hfx
 have hlink:a=some (c.κ τ).1/\cap=(c.κ τ).2:=by
  cases hx with
  | sl _ _ _ _ sz' vs hlen hb' hsz0 h1 ha' hs' hM hr htl ht'=>exact(ht' τ rfl _ _ hT).2 rfl
 obtain⟨rfl,rfl⟩:=hlink
 have hfl:vss.flatten.length=ys.length*sz:=by rw[aO vss hy.sz',hy.len]
 generalize hb0:(c.κ τ).1.block=b0 at *
 generalize ho0:(c.κ τ).1.off=o0 at *
 have hrange:∀j,j<vss.flatten.length->xs.length*sz<=xs.length*sz+j/\xs.length*sz+j<(c.κ τ).2*sz:=fun j hj=>by
  have:(xs.length+ys.length)*sz<=(c.κ τ).2*sz:=A6K _ hfit
  rw[A6L] at this
  omega
 have hcells:∀j,j<vss.flatten.length->(w.cell? ⟨b0,o0+xs.length*sz+j,none⟩).isSome=true/\w.frozen? ⟨b0,o0+xs.length*sz+j,none⟩=false/\c.M ⟨b0,o0+xs.length*sz+j,none⟩=none:=fun j hj=>by
  obtain⟨r1,r2⟩:=hrange j hj
  have:=t5 _ r1 r2
  rwa [<- A8d] at this
 have hone:∀v∈vss.flatten,v.oneCell'=true:=by
  intro v hv
  obtain⟨l,hl,hv⟩:=List.mem_flatten.1 hv
  obtain⟨i,hi,rfl⟩:=A7d hl
  exact(hy.el i (by rw[<- hy.len];exact hi) hi).cell v hv
 have hstore:=bQ (P:=P) (b:=b0) (o:=o0+xs.length*sz) vss.flatten 0 w (fun j hj=>⟨by simpa using(hcells j hj).1,by simpa using(hcells j hj).2.1⟩) hone
 simp only[A7k] at hstore
 have hadd:(c.κ τ).1.add (xs.length*sz)=⟨b0,o0+xs.length*sz,none⟩:=by rw[Addr.add_eq _ t3,hb0,ho0]
 refine⟨rfl,by rw[hadd];exact hstore,?_⟩
 obtain⟨p1,p2,p3,p4,p5⟩:=bY (b:=b0) vss.flatten (o0+xs.length*sz) w
 have hcl:=dQ (b:=b0) vss.flatten (o0+xs.length*sz) w
 have hcl':=fun x=>hcl x (fun j hj=>(hcells j hj).1)
 have hne:∀b',b'≠b0->(AZ w b0 (o0+xs.length*sz) vss.flatten).heap[b']? =w.heap[b']?:=fun b' h=>cW h _ _ _
 let c':Cx:={ c with M:=KZ c.M b0 (o0+xs.length*sz) vss.flatten,T:=c.T.set τ (some (xs.length+ys.length,sz)) }
 have hτl:τ<c.T.length:=by
  rcases A6F τ c.T.length with h'|h'
  ·exact h'
  ·rw[A6A h'] at hT;cases hT
 have hTτ:c'.T[τ]? =some (some (xs.length+ys.length,sz)):=by show(c.T.set _ _)[τ]? =_;simp[hτl]
 have hTne:∀j,j≠τ->c'.T[j]? =c.T[j]?:=fun j h=>by show(c.T.set _ _)[j]? =_;rw[A6U (Ne.symm h)]
 have hM1:∀x v,c.M x=some v->c'.M x=some v:=fun x v hx=>by
  show KZ _ _ _ _ x=_
  unfold KZ
  rw[if_neg];exact hx
  rintro⟨h1,h2,h3,h4⟩
  have:=(hcells (x.off - (o0+xs.length*sz)) (by omega)).2.2
  rw[show o0+xs.length*sz+(x.off - (o0+xs.length*sz))=x.off by omega] at this
  obtain⟨xb,xo,xsp⟩:=x
  simp only at h1 h2
  subst h1;subst h2
  rw[this] at hx;cases hx
 have hMne:∀x:Addr,x.block≠b0->c'.M x=c.M x:=fun x h=>by
  show KZ _ _ _ _ x=_
  unfold KZ
  rw[if_neg];exact fun h'=>h h'.1
 have hle:c.le c':=by
  refine⟨hM1,fun _ h=>h,fun _ _=>rfl,by show _<=(c.T.set _ _).length;simp,fun j hj=>?_,fun j n z hj=>?_,rfl,fun _ _=>rfl⟩
  ·by_cases e':j=τ
   ·subst e';rw[hT] at hj;cases hj
   ·rw[hTne j e'];exact hj
  ·by_cases e':j=τ
   ·subst e'
    rw[hT] at hj;injection hj with hj;injection hj with hj;injection hj with e1 e2
    subst e1;subst e2
    exact .inr ⟨_,hTτ,Nat.le_add_right _ _,fun _=>rfl⟩
   ·exact .inr ⟨n,by rw[hTne j e'];exact hj,A6E _,fun _=>rfl⟩
 have hrowb:∀(o:Nat) x,H[o]? =some x->x.live=true->c.β o≠b0:=fun o x ho hx=>by
  have:=k.tokrow τ _ _ o x hT ho hx
  rwa [hb0] at this
 have kinv:Inv c' (AZ w b0 (o0+xs.length*sz) vss.flatten) H:=by
  refine⟨?_,by rw[p1];exact k.low,?_,k.free,?_,k.apart,fun o es clk ho=>⟨(k.map o es clk ho).1,(hne _ (hrowb o _ ho rfl)).trans (k.map o es clk ho).2⟩,k.iter,?_,?_,?_⟩
  ·intro x v hx
   rw[hcl' x]
   change KZ c.M b0 (o0+xs.length*sz) vss.flatten x=some v at hx
   unfold KZ at hx
   split at hx
   ·rename_i hc;rw[if_pos hc];exact hx
   ·rename_i hc;rw[if_neg hc];exact k.keep x v hx
  ·intro o x cs ho hx
   exact(k.row o x cs ho hx).mono hle (hne _ (hrowb o _ ho (Ob.live_of_cells hx)))
  ·intro o x ho hx
   obtain⟨h0,h1,h2,h3⟩:=k.own o x ho hx
   refine⟨h0,h1,by rw[p1];exact h2,fun i=>?_⟩
   have:=hMne ⟨c.β o,i,none⟩ (hrowb o x ho hx)
   exact this.trans (h3 i)
  ·intro j n z hj
   by_cases e':j=τ
   ·subst e'
    rw[hTτ] at hj;injection hj with hj;injection hj with hj;injection hj with e1 e2
    subst e1;subst e2
    show c.B<=(c.κ j).1.block/\_
    rw[hb0,ho0]
    refine⟨t1,by rw[p1];exact t2,t3,hfit,fun i h1 h2=>?_⟩
    have hge:xs.length*sz<=i:=by rw[A6L] at h1;omega
    obtain⟨g1,g2,g3⟩:=t5 i hge h2
    have hout: ¬(b0=b0/\(none:Option Nat)=none/\o0+xs.length*sz<=o0+i/\o0+i<o0+xs.length*sz+vss.flatten.length):=by
     rw[A6L] at h1
     omega
    refine⟨?_,?_,?_⟩
    ·have:=hcl' ⟨b0,o0+i,none⟩
     rw[if_neg hout] at this
     rw[this];exact g1
    ·rw[bM];exact g2
    ·show KZ _ _ _ _ _=none
     unfold KZ
     rw[if_neg hout];exact g3
   ·rw[hTne j e'] at hj
    obtain⟨h1,h2,h3,h4,h5⟩:=k.tok j n z hj
    have hbj:(c.κ j).1.block≠b0:=fun e=>e' (k.toks j n z τ _ _ hj hT (by rw[e,hb0]))
    refine⟨h1,by rw[p1];exact h2,h3,h4,fun i a b=>?_⟩
    obtain⟨g1,g2,g3⟩:=h5 i a b
    refine⟨?_,by rw[bM];exact g2,?_⟩
    ·have:=hcl' ⟨(c.κ j).1.block,(c.κ j).1.off+i,none⟩
     rw[if_neg (fun h=>hbj h.1)] at this
     exact(congrArg A7A this).trans g1
    ·exact(hMne ⟨(c.κ j).1.block,(c.κ j).1.off+i,none⟩ hbj).trans g3
  ·intro j n z o x hj ho hxl
   by_cases e':j=τ
   ·subst e';exact k.tokrow j _ _ o x hT ho hxl
   ·rw[hTne j e'] at hj;exact k.tokrow j n z o x hj ho hxl
  ·intro j n z j' n' z' hj hj' he
   have key:∀i m q,c'.T[i]? =some (some (m,q))->∃m' q',c.T[i]? =some (some (m',q')):=fun i m q hi=>by
    by_cases e':i=τ
    ·subst e';exact⟨_,_,hT⟩
    ·rw[hTne i e'] at hi;exact⟨_,_,hi⟩
   obtain⟨_,_,g1⟩:=key j n z hj
   obtain⟨_,_,g2⟩:=key j' n' z' hj'
   exact k.toks j _ _ j' _ _ g1 g2 he
 refine⟨_,c',_,rfl,?_,kinv,hle,rfl,⟨p2,p3,p4,by rw[p1];exact A6E _,fun i hi=>hne i (by have hi':i<c.B:=hi;omega),fun _=>by rw[bO];exact A6E _⟩⟩
 have hlen:(xs++ys).length=xs.length+ys.length:=by simp
 have hflat:(uss++vss).flatten=uss.flatten++vss.flatten:=by simp
 rw[<- hlen]
 refine FF ((hkx.mono hle).append (hy.mono hle)) t3 (by rw[hlen];exact hfit) (by rw[hlen];exact hb) (fun j hj=>?_) (some τ) (fun τ' h=>by injection h with h;subst h;show τ<(c.T.set _ _).length;simpa using hτl) (fun τ' h n z hn=>?_)
 ·rw[hflat,hb0,ho0]
  by_cases hjx:j<xs.length*sz
  ·rw[A6D (by omega)]
   have hju:j<uss.flatten.length:=by omega
   have:=(hcell _ rfl j _ (A6H hju)).2
   rw[Addr.add_eq _ t3,hb0,ho0] at this
   rw[A6H hju]
   exact hM1 _ _ this
  ·rw[A68 (by omega),hul]
   rw[hlen,A6L] at hj
   show KZ _ _ _ _ _=_
   unfold KZ
   rw[if_pos ⟨rfl,rfl,by simp only;omega,by simp only;omega⟩]
   simp only
   rw[show o0+j - (o0+xs.length*sz)=j - xs.length*sz by omega]
 ·injection h with h;subst h
  rw[hTτ] at hn;injection hn with hn;injection hn with hn;injection hn with e1 e2
  subst e1
  rw[hlen]
  exact⟨A6E _,fun _=>⟨rfl,rfl⟩⟩
def bZ(P:Program)(t:TypeId):Option Nat:=(P.info? t).map (·.bytes)
theorem fB{t:TypeId}{n:Nat}(h:bZ P t=some n):∃i,(∀w,(typeInfo t).run P w= .ok i w)/\i.bytes=n:=by
 unfold bZ at h
 cases hi:P.info? t with
 | none=>rw[hi] at h;cases h
 | some i=>rw[hi] at h;injection h with h;exact⟨i,fun w=>by simp[typeInfo,hi],h⟩
def LA(P:Program)(t:TypeId):Bool:=match P.underlying t with|some .string|some (.slice _)=>true|_=>false
theorem kW{t:TypeId}(h:LA P t=true):P.underlying t=some .string∨∃e,P.underlying t=some (.slice e):=by
 unfold LA at h
 split at h
 ·rename_i hu;exact .inl hu
 ·rename_i e hu;exact .inr ⟨e,hu⟩
 ·cases h
theorem eY{st xt e:TypeId}{sz:Nat}(ht:Ak P st=some e)(hxt:LA P xt=true)(hsz:tsz P e=some sz)(ty:TypeId)(base:Option Addr)(sLen sCap:Nat)(vy:Value){n:Nat}
  (hl:∀w',(A6P vy).run P w'= .ok n w') (hfit:sLen+n<=sCap) {new:Array Value} (hnew:(A6B sz n vy).run P w= .ok new w) {w':World}
  (hst:∀a,base=some a->(storeCells (a.add (sLen*sz)) new.toList).run P w= .ok () w') (hnone:base=none->w'=w) :
  (A6N #[st,xt] ty #[.slice base sLen sCap,vy]).run P w= .ok (.slice base (sLen+n) sCap) w':=by
 cases base with
 | none =>
  have:=hnone rfl
  subst this
  rcases kW hxt with hd|⟨e',hd⟩ <;>
   simp[A6N,run_underlying (Ai ht),Af hsz,run_underlying hd,hl,hfit,hnew]
 | some a =>
  rcases kW hxt with hd|⟨e',hd⟩ <;>
   simp[A6N,run_underlying (Ai ht),Af hsz,run_underlying hd,hl,hfit,hnew,hst a rfl]
theorem lZ{st xt e:TypeId}{sz bytes:Nat}(ht:Ak P st=some e)(hxt:LA P xt=true)(hsz:tsz P e=some sz)(hby:bZ P e=some bytes)(ty:TypeId)(base:Option Addr)(sLen sCap:Nat)(vy:Value){n:Nat}
  (hl:∀w',(A6P vy).run P w'= .ok n w') (hg:sCap<sLen+n) (hneed:sLen+n<2^63) (hbig:(sLen+n)*bytes<=2^47) {z:List D} (hz:tz P e=some z) (hzl:z.length=sz) {old new:Array Value}
  (hold:(A6B sz sLen (.slice base sLen sCap)).run P w.drew= .ok old w.drew) (hnew:(A6B sz n vy).run P w.drew= .ok new w.drew) :
  ∃(cap:Nat) (rest:List Value),sLen+n<=cap/\rest.length=(cap - (sLen+n))*sz ∧
   (A6N #[st,xt] ty #[.slice base sLen sCap,vy]).run P w= .ok (.slice (some ⟨w.heap.size,0,none⟩) (sLen+n) cap) (w.drew.alloc (.cells (old++new++rest.toArray) e)):=by
 obtain⟨zv,z1,z2⟩:=bL (P:=P) hz (c:=⟨fun _=>none,id,fun _=>default,fun _=>false,[],(false,0),fun _=>0⟩)
 obtain⟨i,hi,hib⟩:=fB hby
 refine⟨grownCap w (sLen+n) sCap e,(A6M zv.cells (grownCap w (sLen+n) sCap e - (sLen+n))).toList,?_,?_,?_⟩
 ·simp[grownCap,Question.cut]
 ·have:zv.cells.size=sz:=by have:=z2.len;simp at this;omega
  simp[A6M,this]
 ·have hn: ¬(sLen+n<=sCap):=by omega
  have h63: ¬(9223372036854775807<((sLen:Int)+(n:Int))):=by omega
  have h48: ¬(281474976710656<A7M (sLen+n) sCap*i.bytes):=by
   have:=growslice_fits (need:=sLen+n) (old:=sCap) (bytes:=bytes) hg (by simpa using hbig)
   rw[hib];omega
  rcases kW hxt with hd|⟨e',hd⟩ <;>
   simp[A6N,run_underlying (Ai ht),Af hsz,run_underlying hd,hl,hn,h63,h48,hi,Question.forced,hold,hnew,z1,newRow,grownCap]
theorem kB{st xt e:TypeId}{sz:Nat}(ht:Ak P st=some e)(hxt:LA P xt=true)(hsz:tsz P e=some sz)(ty:TypeId)(vy:Value)
  (hl:∀w',(A6P vy).run P w'= .ok 0 w') (hnew:(A6B sz 0 vy).run P w= .ok #[] w) :
  (A6N #[st,xt] ty #[.slice none 0 0,vy]).run P w= .ok (.slice none 0 0) w :=
 eY ht hxt hsz ty none 0 0 vy hl (A6E _) hnew (fun a h=>by cases h) (fun _=>rfl)
theorem iV(k:Inv c w H){st xt e:TypeId}{sz bytes:Nat}(ht:Ak P st=some e)(hxt:LA P xt=true)(hsz:tsz P e=some sz)(hby:bZ P e=some bytes)(ty:TypeId){base:Option Addr}{sCap:Nat}{vy:Value}
  {xs ys:List D} {uss vss:List (List Value)} (hx:Elems c sz xs uss) (hy:Elems c sz ys vss) (hl:∀w',(A6P vy).run P w'= .ok ys.length w') (hg:sCap<xs.length+ys.length) (hneed:xs.length+ys.length<2^62)
  (hbig:(xs.length+ys.length)*bytes<=2^47) {z:List D} (hz:tz P e=some z) (hzl:z.length=sz)
  (hold:(A6B sz xs.length (.slice base xs.length sCap)).run P w.drew= .ok uss.flatten.toArray w.drew) (hnew:(A6B sz ys.length vy).run P w.drew= .ok vss.flatten.toArray w.drew)
  {τ:Nat} {T':Tk} (hτ:T'[τ]? =some (some (xs.length+ys.length,sz))) (hol:τ<c.T.length->∃n,c.T[τ]? =some (some (n,sz))/\n<xs.length+ys.length) (hne:∀τ',τ'≠τ->T'[τ']? =c.T[τ']?) (hlen:c.T.length<=T'.length) :
  Yld c w H T' (.sl (some τ) (xs++ys)) ((A6N #[st,xt] ty #[.slice base xs.length sCap,vy]).run P w):=by
 obtain⟨cap,rest,h1,h2,h3⟩:=lZ (w:=w) ht hxt hsz hby ty base xs.length sCap vy hl hg (by omega) hbig hz hzl hold hnew
 rw[h3]
 have hk:=hx.append hy
 have hfl:(uss++vss).flatten.length=(xs.length+ys.length)*sz:=by
  rw[aO _ hk.sz',A6O,hx.len,hy.len]
 have hl':(xs++ys).length=xs.length+ys.length:=by simp
 have:=fI k.drew hk e (by rw[hl'];exact hneed) rest (0,0) (fun i _=>by simp) (cap:=cap) (by rw[hl'];exact h1) (by
   rw[hfl,h2,← A6L]
   exact A6K _ (by omega)) (τ:=τ) (T':=T') (by rw[hl'];exact hτ) (by rw[hl'];exact hol) hne hlen
 have e1:((uss++vss).flatten++rest).toArray=uss.flatten.toArray++vss.flatten.toArray++rest.toArray:=by simp
 rw[e1,hl'] at this
 exact this.drew
theorem Po(k:Inv c w H){st xt e:TypeId}{sz bytes:Nat}(ht:Ak P st=some e)(hxt:LA P xt=true)(hsz:tsz P e=some sz)(hby:bZ P e=some bytes){z:List D}(hz:tz P e=some z)(hzl:z.length=sz)
  (ty:TypeId) {x y:D} {vx vy:Value} (hx:Rep c x vx) (hy:Rep c y vy) {str:Bool} (hstr:∀l,y= .str l->str=true->sz=1) {s:S} (hsH:s.H=H) (hsT:c.T=s.T) {K:D->S->Prop}
  (h:Eb sz bytes K s x (aQ str y)) :
  ∃d s',K d s'/\s'.t=s.t/\Yld c w s'.H s'.T d ((A6N #[st,xt] ty #[vx,vy]).run P w):=by
 subst hsH
 unfold Eb at h
 split at h
 ·exact h.elim
 ·rename_i ys hys
  obtain⟨hfy,h⟩:=h
  obtain⟨vss,ky,hl,hfirst⟩:=LY (P:=P) k hy hys hfy (fun l hl=>by
   subst hl
   cases str
   ·simp[aQ] at hys
   ·exact hstr l rfl rfl)
  split at h
  ·cases hx
   split at h
   ·rename_i h0
    subst h0
    have e0:vss=[]:=by have:=ky.len;simpa using this
    subst e0
    refine⟨.nils,s,h,rfl,?_⟩
    rw[kB ht hxt hsz ty vy hl (by simpa using hfirst w rfl)]
    exact⟨_,c,w,rfl,Rep.nils,k,Cx.le.refl c,hsT,Below.refl _ _⟩
   ·rename_i h0
    obtain⟨h1,h2,h3⟩:=h
    have hpos:0<ys.length:=by cases ys with|nil=>exact absurd rfl h0|cons=>simp
    refine⟨_,_,h3,rfl,?_⟩
    have hx0:Elems c sz [] []:=⟨rfl,fun i h _=>absurd h (by simp),fun x hx=>by cases hx⟩
    have:=iV (P:=P) k ht hxt hsz hby ty (base:=none) (sCap:=0) hx0 ky hl (by simpa using hpos) (by simpa using h2) (by simpa using h1) hz hzl (by simp[A6B]) (hfirst _ rfl)
     (τ:=s.T.length) (T':=s.T++[some (ys.length,sz)]) (by simp) (fun h=>by rw[hsT] at h;omega) (fun j hj=>by
      rw[hsT]
      rcases A6F j s.T.length with h'|h'
      ·rw[A6D h']
      ·rw[A6A (by simp;omega),A6A h']) (by rw[hsT];simp)
    simpa using this
  ·cases hx with
   | e0 a =>
   split at h
   ·rename_i h0
    subst h0
    have e0:vss=[]:=by have:=ky.len;simpa using this
    subst e0
    refine⟨.e0,s,h,rfl,?_⟩
    rw[eY ht hxt hsz ty a 0 0 vy hl (A6E _) (by simpa using hfirst w rfl) (w':=w) (fun b h=>by simp[storeCells]) (fun _=>rfl)]
    exact⟨_,c,w,rfl,Rep.e0 a,k,Cx.le.refl c,hsT,Below.refl _ _⟩
   ·rename_i h0
    obtain⟨h1,h2,h3⟩:=h
    have hpos:0<ys.length:=by cases ys with|nil=>exact absurd rfl h0|cons=>simp
    refine⟨_,_,h3,rfl,?_⟩
    have hx0:Elems c sz [] []:=⟨rfl,fun i h _=>absurd h (by simp),fun x hx=>by cases hx⟩
    have:=iV (P:=P) k ht hxt hsz hby ty (base:=a) (sCap:=0) hx0 ky hl (by simpa using hpos) (by simpa using h2) (by simpa using h1) hz hzl (by cases a<;>simp[A6B,loadCells,loadCellsFrom]) (hfirst _ rfl)
     (τ:=s.T.length) (T':=s.T++[some (ys.length,sz)]) (by simp) (fun h=>by rw[hsT] at h;omega) (fun j hj=>by
      rw[hsT]
      rcases A6F j s.T.length with h'|h'
      ·rw[A6D h']
      ·rw[A6A (by simp;omega),A6A h']) (by rw[hsT];simp)
    simpa using this
  ·rename_i τ xs
   obtain⟨h1,h2,h3,h4,h5⟩:=h
   refine⟨_,_,h5,rfl,?_⟩
   have hT:c.T[τ]? =some (some (xs.length,sz)):=by rw[hsT];exact h1
   obtain⟨a,cap,uss,rfl,hcap,hkx,hsp,ha,hcell,hul⟩:=eX k hx (lO h4)
   by_cases hfit:xs.length+ys.length<=(c.κ τ).2
   ·obtain⟨e1,e2,e3⟩:=wO (P:=P) k hT hx (lO h4) ky h3 hfit
    injection e1 with e1 e1' e1''
    subst e1;subst e1''
    rw[eY ht hxt hsz ty _ _ _ vy hl hfit (hfirst w rfl) (fun a ha=>by injection ha with ha;subst ha;simpa using e2) (fun h=>by cases h)]
    rw[<- hsT]
    exact e3
   ·have hlink:a=some (c.κ τ).1/\cap=(c.κ τ).2:=by
     cases hx with
     | sl _ _ _ _ sz' vs hlen hb' hsz0 h1 ha' hs' hM hr htl ht'=>exact(ht' τ rfl _ _ hT).2 rfl
    obtain⟨rfl,rfl⟩:=hlink
    refine iV (P:=P) k ht hxt hsz hby ty hkx ky hl (by omega) h3 h2 hz hzl ?_ (hfirst _ rfl) ?_ (fun _=>⟨_,hT,?_⟩) ?_ ?_
    ·exact run_firstCells_some w.drew sz xs.length _ xs.length _ uss.flatten hul (fun j v hj=>(hcell _ rfl j v hj).1)
    ·have:τ<s.T.length:=by
      rcases A6F τ s.T.length with h'|h'
      ·exact h'
      ·rw[A6A h'] at h1;cases h1
     simp[this]
    ·have:=(k.tok τ _ _ hT).2.2.2.1
     omega
    ·intro j hj;rw[hsT,A6U (Ne.symm hj)]
    ·rw[hsT];simp
  ·exact h.elim
end GP
namespace GP
open Go
variable {P:Program} {c:Cx} {w:World} {H:Hp}
def bX(sz:Nat):Nat->List Value->List (List Value)
 | 0,_=>[]
 | n+1,vs=>vs.take sz::bX sz n (vs.drop sz)
theorem bN(ag:Bool)(sz:Nat):∀(n:Nat) (cs:List D),(Bd ag sz n cs).length=n
 | 0,_=>rfl
 | n+1,cs=>by simp[Bd,bN ag sz n]
theorem H4(sz:Nat):∀(n:Nat) (cs:List Value),(bX sz n cs).length=n
 | 0,_=>rfl
 | n+1,cs=>by simp[bX,H4 sz n]
theorem bU(sz:Nat):∀(n:Nat) (vs:List Value),(bX sz n vs).flatten=vs.take (n*sz)
 | 0,_=>by simp[bX]
 | n+1,vs=>by
  simp only[bX,A62,bU sz n]
  rw[A6L,A75,Nat.add_comm,List.take_add]
theorem cT{ag:Bool}{sz:Nat}(hag:ag=true∨sz=1):∀(n:Nat) (cs:List D) (vs:List Value),Cells c cs vs->n*sz<=cs.length->Elems c sz (Bd ag sz n cs) (bX sz n vs)
 | 0,cs,vs,_,_=>⟨rfl,fun i h _=>absurd h (by simp[Bd]),fun x hx=>by simp[Bd] at hx⟩
 | n+1,cs,vs,k,hl=>by
  rw[A6L,A75] at hl
  have ih:=cT hag n (cs.drop sz) (vs.drop sz) (k.drop sz) (by simp;omega)
  have h0:Cells c (D.cells (if ag then .agg (cs.take sz) else cs.headD .top)) (vs.take sz)/\(D.cells (if ag then .agg (cs.take sz) else cs.headD .top)).length=sz:=by
   cases ag with
   | true=>exact⟨by simpa[D.cells] using k.take sz,by simp[D.cells];omega⟩
   | false =>
    have h1:sz=1:=by simpa using hag
    subst h1
    cases cs with
    | nil=>simp at hl
    | cons d cs =>
     have hone:=k.one d (by simp)
     have hc:d.cells=[d]:=by cases d<;>simp_all [D.one,D.cells]
     have kt:=k.take 1
     simp only[List.take_succ_cons,A8c] at kt
     simp only[A7g,if_false,List.headD_cons,hc]
     exact⟨kt,rfl⟩
  refine⟨by simp[Bd,bX,bN,H4],fun i h h'=>?_,fun x hx=>?_⟩
  ·cases i with
   | zero=>exact h0.1
   | succ i=>exact ih.el i (by simpa[Bd] using h) (by simpa[bX] using h')
  ·simp only[Bd,List.mem_cons] at hx
   rcases hx with rfl|hx
   ·exact h0.2
   ·exact ih.sz x hx
theorem Elems.cells{sz:Nat}:∀{xs:List D} {vss:List (List Value)},Elems c sz xs vss->Cells c (AX xs) vss.flatten
 | [],vss,k=>by
  have:vss=[]:=by have:=k.len;simpa using this
  subst this
  exact⟨rfl,by simp[AX],fun i h _=>absurd h (by simp[AX])⟩
 | x::xs,[],k=>by have:=k.len;simp at this
 | x::xs,v::vss,k=>by
  have k':Elems c sz xs vss:=⟨by have:=k.len;simpa using this,fun i h h'=>k.el (i+1) (by simpa using h) (by simpa using h'),fun y hy=>k.sz y (by simp[hy])⟩
  have h0:=k.el 0 (by simp) (by simp)
  have:=h0.append k'.cells
  simpa[AX] using this
theorem fJ{sz:Nat}{xs:List D}(h:∀x∈xs,x.cells.length=sz):(AX xs).length=xs.length*sz:=by
 induction xs with
 | nil=>simp[AX]
 | cons x xs ih =>
  have:=ih (fun y hy=>h y (by simp[hy]))
  simp only[AX,A7S,A62,A6O,A6S] at this ⊢
  rw[h x (by simp),this,A6L];omega
theorem Elems.take{sz:Nat}{xs:List D}{vss:List (List Value)}(k:Elems c sz xs vss)(m:Nat):Elems c sz (xs.take m) (vss.take m) :=
 ⟨by simp[k.len],fun i h h'=>by simpa using k.el i (by simp at h;omega) (by simp at h';omega),fun x hx=>k.sz x (A69 hx)⟩
theorem iK(k:Inv c w H){sz:Nat}{y:D}{vy:Value}(hy:Rep c y vy){ys:List D}{st:Bool}(h:C9 H st sz y=some ys)(hf:ys.all (fit sz)=true)(hbyte:∀l,y= .str l->sz=1):
  ∃vss,Elems c sz ys vss/\(∀w',(A6P vy).run P w'= .ok ys.length w')/\(∀w',w'.heap=w.heap->(A6B sz ys.length vy).run P w'= .ok vss.flatten.toArray w'):=by
 cases y with
 | ms ag z o off n cap =>
  simp only[C9] at h
  split at h
  ·rename_i cs hcs
   split at h
   ·rename_i hc
    obtain⟨rfl,rfl,h3,h4⟩:=hc
    injection h with h;subst h
    cases hy with
    | ms _ _ _ _ _ _ rc hbd h1 h2 h3' =>
     obtain⟨vs,rest,e,fr,g1,g2,g4,g3⟩:=(k.row o _ cs hcs rfl).hold
     have hvl:=g2.len
     have he:=cT (c:=c) h4 n (cs.drop off) (vs.drop off) (g2.drop off) (by simp;omega)
     refine⟨_,he,fun w'=>by simp[A6P,bN],fun w' hw'=>?_⟩
     rw[bN]
     have hfl:(bX z n (vs.drop off)).flatten.length=n*z:=by rw[bU];simp;omega
     refine run_firstCells_some w' z n ⟨c.β o,off,none⟩ n rc _ hfl (fun j v hj=>?_)
     rw[Addr.add_eq _ rfl,gT hw']
     simp only[A63,g1]
     rw[bU] at hj
     have hlt:j<n*z:=by
      rcases A6F j (n*z) with h'|h'
      ·exact h'
      ·rw[A6A (by simp;omega)] at hj;cases hj
     rw[A6R hlt,A66] at hj
     simp only[A6Q]
     rw[A6D (by omega)]
     exact hj
   ·cases h
  ·cases h
 | _=>exact LY (st:=st) k hy h hf hbyte
theorem Md(_k:Inv c w H){st xt e:TypeId}{sz bytes:Nat}(ht:Ak P st=some e)(hxt:LA P xt=true)(hsz:tsz P e=some sz)(hby:bZ P e=some bytes)(ty:TypeId){base:Option Addr}{sLen sCap:Nat}{vy:Value}{H1:Hp}
  (k1:Inv c w.drew H1) {cs:List D} {vs:List Value} (hcs:Cells c cs vs) (hcl:cs.length=sLen*sz) {ys:List D} {vss:List (List Value)} (hy:Elems c sz ys vss) (hl:∀w',(A6P vy).run P w'= .ok ys.length w') (hg:sCap<sLen+ys.length) (hneed:sLen+ys.length<2^62)
  (hbig:(sLen+ys.length)*bytes<=2^47) {z:List D} (hz:tz P e=some z) (hzl:z.length=sz)
  (hold:(A6B sz sLen (.slice base sLen sCap)).run P w.drew= .ok vs.toArray w.drew) (hnew:(A6B sz ys.length vy).run P w.drew= .ok vss.flatten.toArray w.drew) {T:Tk} (hT:c.T=T) (ag:Bool) :
  Yld c w (H1++[.row (cs++AX ys)]) T (.ms ag sz H1.length 0 (sLen+ys.length) (sLen+ys.length)) ((A6N #[st,xt] ty #[.slice base sLen sCap,vy]).run P w):=by
 obtain⟨cap,rest,h1,h2,h3⟩:=lZ (w:=w) ht hxt hsz hby ty base sLen sCap vy hl hg (by omega) hbig hz hzl hold hnew
 rw[h3]
 have hyl:=fJ hy.sz
 have hk:Cells c (cs++AX ys) (vs++vss.flatten):=hcs.append hy.cells
 have hkl:=hk.len
 have:=l8 k1 rest e hk (k1.free H1.length (.inl (A6E _))) (H':=H1++[.row (cs++AX ys)]) (dH _ _) (fun o' h=>bD _ _ o' h) hT (ag:=ag) (sz:=sz) (n:=sLen+ys.length) (cap:=sLen+ys.length) (rc:=cap)
  (A6E _) h1 (by
   rw[hkl,A6O,hcl,hyl,h2,← A6L,← A6L]
   exact A6K _ (by omega))
 have e1:(vs++vss.flatten++rest).toArray=vs.toArray++vss.flatten.toArray++rest.toArray:=by simp
 rw[e1] at this
 exact this.drew
theorem nR(k:Inv c w H){st xt e:TypeId}{sz bytes:Nat}(ht:Ak P st=some e)(hxt:LA P xt=true)(hsz:tsz P e=some sz)(hby:bZ P e=some bytes){z:List D}(hz:tz P e=some z)(hzl:z.length=sz)
  (ty:TypeId) {x y:D} {vx vy:Value} (hx:Rep c x vx) (hy:Rep c y vy) {str:Bool} (hstr:∀l,y= .str l->str=true->sz=1) {s:S} (hsH:s.H=H) (hsT:c.T=s.T) {K:D->S->Prop} (ag:Bool)
  (h:JB ag sz bytes K s x (C9 s.H str sz y)) :
  ∃d s',K d s'/\s'.t=s.t/\Yld c w s'.H s'.T d ((A6N #[st,xt] ty #[vx,vy]).run P w):=by
 subst hsH
 unfold JB at h
 split at h
 ·exact h.elim
 ·rename_i ys hys
  obtain⟨hfy,h⟩:=h
  obtain⟨vss,ky,hl,hfirst⟩:=iK (P:=P) k hy hys hfy (fun l hl=>by
   subst hl
   cases str
   ·simp[C9,aQ] at hys
   ·exact hstr l rfl rfl)
  have c0:Cells c [] []:=⟨rfl,by simp,fun i h _=>absurd h (by simp)⟩
  have hyl:=fJ ky.sz
  split at h
  ·cases hx
   split at h
   ·rename_i h0
    subst h0
    have e0:vss=[]:=by have:=ky.len;simpa using this
    subst e0
    refine⟨.nils,s,h,rfl,?_⟩
    rw[kB ht hxt hsz ty vy hl (by simpa using hfirst w rfl)]
    exact⟨_,c,w,rfl,Rep.nils,k,Cx.le.refl c,hsT,Below.refl _ _⟩
   ·rename_i h0
    obtain⟨h1,h2,h3⟩:=h
    have hpos:0<ys.length:=by cases ys with|nil=>exact absurd rfl h0|cons=>simp
    refine⟨_,_,h3,rfl,?_⟩
    have:=Md (P:=P) k ht hxt hsz hby ty (base:=none) (sLen:=0) (sCap:=0) k.drew c0 (by simp) ky hl (by simpa using hpos) (by simpa using h2) (by simpa using h1) hz hzl (by simp[A6B]) (hfirst _ rfl) hsT ag
    simpa using this
  ·cases hx with
   | e0 a =>
   split at h
   ·rename_i h0
    subst h0
    have e0:vss=[]:=by have:=ky.len;simpa using this
    subst e0
    refine⟨.e0,s,h,rfl,?_⟩
    rw[eY ht hxt hsz ty a 0 0 vy hl (A6E _) (by simpa using hfirst w rfl) (w':=w) (fun b h=>by simp[storeCells]) (fun _=>rfl)]
    exact⟨_,c,w,rfl,Rep.e0 a,k,Cx.le.refl c,hsT,Below.refl _ _⟩
   ·rename_i h0
    obtain⟨h1,h2,h3⟩:=h
    have hpos:0<ys.length:=by cases ys with|nil=>exact absurd rfl h0|cons=>simp
    refine⟨_,_,h3,rfl,?_⟩
    have:=Md (P:=P) k ht hxt hsz hby ty (base:=a) (sLen:=0) (sCap:=0) k.drew c0 (by simp) ky hl (by simpa using hpos) (by simpa using h2) (by simpa using h1) hz hzl (by cases a<;>simp[A6B,loadCells,loadCellsFrom]) (hfirst _ rfl) hsT ag
    simpa using this
  ·rename_i g z' o off n cap
   split at h
   ·rename_i cs hcs
    obtain⟨rfl,h⟩:=h
    cases hx with
    | ms _ _ _ _ _ _ rc hbd q1 q2 q3 =>
    obtain⟨vs,rest,e',fr,g1,g2,g4,g3⟩:=(k.row o _ cs hcs rfl).hold
    have hvl:=g2.len
    have hadd:∀m,Addr.add ⟨c.β o,off,none⟩ m=⟨c.β o,off+m,none⟩:=fun m=>Addr.add_eq _ rfl _
    have inplace:n+ys.length<=rc->off+n*z'<=cs.length →
      Yld c w (s.H.set o (.row (cs.take (off+n*z')++AX ys++cs.drop (off+n*z'+(AX ys).length)))) s.T (.ms g z' o off (n+ys.length) (max cap (n+ys.length))) ((A6N #[st,xt] ty #[.slice (some ⟨c.β o,off,none⟩) n rc,vy]).run P w):=by
     intro hfit hoff
     have hle:(n+ys.length)*z'<=rc*z':=A6K _ hfit
     rw[A6L] at hle
     obtain⟨p1,p2,p3⟩:=gK (P:=P) k hcs rfl ky.cells (off:=off+n*z') hoff (by rw[hyl];omega)
     rw[eY ht hxt hsz ty _ n rc vy hl hfit (hfirst w rfl) (fun a ha=>by injection ha with ha;subst ha;rw[hadd];simpa using p1) (fun h=>by cases h)]
     exact⟨_,c,_,rfl,Rep.ms g z' o off _ _ rc hbd (by omega) (by omega) q3,p2,Cx.le.refl c,hsT,p3⟩
    split at h
    ·rename_i hfit
     obtain⟨h1,h2⟩:=h
     have hle:n*z'<=cap*z':=A6K _ q1
     have:=inplace (by omega) (by omega)
     rw[hyl] at this
     rw[show off+n*z'+ys.length*z'=off+(n+ys.length)*z' by rw[A6L];omega,show max cap (n+ys.length)=cap by omega] at this
     exact⟨_,_,h2,rfl,this⟩
    ·rename_i hfit
     obtain⟨h1,h2,h3,h4,h5⟩:=h
     subst h1
     refine⟨_,_,h5,rfl,?_⟩
     by_cases hrc:n+ys.length<=rc
     ·obtain⟨v,c',w',e1,e2,e3,e4,e5,e6⟩:=inplace hrc (by omega)
      have e0':cs.take (0+n*z')++AX ys++cs.drop (0+n*z'+(AX ys).length)=cs++AX ys:=by
       rw[A7i (by omega),List.drop_eq_nil_of_le (by omega),A7q]
      rw[e0'] at e3
      have hlt:o<s.H.length:=by
       rcases A6F o s.H.length with h'|h'
       ·exact h'
       ·rw[A6A h'] at hcs;cases hcs
      obtain⟨r1,r2⟩:=o7 e3 (o:=o) (x:=.row (cs++AX ys)) (by simp[hlt]) rfl
      rw[List.set_set,A67] at r1
      rw[A67] at r2
      refine⟨v,_,w',e1,?_,r1,e4.trans r2,e5,e6⟩
      rw[show max cap (n+ys.length)=n+ys.length by omega] at e2
      cases e2 with
      | ms _ _ _ _ _ _ rc' hbd' q1' q2' q3' =>
       have hbd2:(BD c' s.H.length (c'.β o) (c'.sz o)).bd s.H.length=true:=by show EN _ _ _=_;unfold EN;rw[if_pos rfl]
       have hβ2:(BD c' s.H.length (c'.β o) (c'.sz o)).β s.H.length=c'.β o:=by show Bv _ _ _ _=_;unfold Bv;rw[if_pos rfl]
       have hz2:(BD c' s.H.length (c'.β o) (c'.sz o)).sz s.H.length=c'.sz o:=by show Bv _ _ _ _=_;unfold Bv;rw[if_pos rfl]
       have:=Rep.ms (c:=BD c' s.H.length (c'.β o) (c'.sz o)) g z' s.H.length 0 (n+ys.length) (n+ys.length) rc' hbd2 (A6E _) q2' (by rw[hz2];exact q3')
       rwa [hβ2] at this
     ·have:=Md (P:=P) k ht hxt hsz hby ty (base:=some ⟨c.β o,0,none⟩) (sLen:=n) (sCap:=rc) (tS k.drew o) g2 h2 ky hl (by omega) h4 h3 hz hzl
       (run_firstCells_some w.drew z' n _ n rc vs (by omega) (fun j v hj=>by
        rw[Addr.add_eq _ rfl]
        have hj':j<vs.length:=by
         rcases A6F j vs.length with h'|h'
         ·exact h'
         ·rw[A6A h'] at hj;cases hj
        have e1:w.drew.heap[c.β o]? =some (.cells (vs++rest).toArray e' fr):=g1
        simp only[A63,e1,A7t,A6Q]
        rw[A6D hj'];exact hj)) (hfirst _ rfl) hsT g
      rw[A67] at this
      exact this
   ·exact h.elim
  ·exact h.elim
theorem nX(k:Inv c w H){dt st e:TypeId}{sz:Nat}(ht:Ak P dt=some e)(hsz:tsz P e=some sz)(ty:TypeId){x y:D}{vx vy:Value}(hx:Rep c x vx)(hy:Rep c y vy){s:S}(hsH:s.H=H)(hsT:c.T=s.T){K:D->S->Prop}
  (h:Ll sz K s x (C9 s.H false sz y)) :
  ∃d s',K d s'/\s'.t=s.t/\Yld c w s'.H s'.T d ((A7n #[dt,st] ty #[vx,vy]).run P w):=by
 subst hsH
 unfold Ll at h
 split at h
 ·exact h.elim
 ·rename_i ys hys
  obtain⟨hfy,h⟩:=h
  obtain⟨vss,ky,hl,hfirst⟩:=iK (P:=P) k hy hys hfy (fun l hl=>by
   subst hl
   simp[C9,aQ] at hys)
  have part:∀m,m<=ys.length->(A6B sz m vy).run P w= .ok (vss.take m).flatten.toArray w:=by
   intro m hm
   have hf:=hfirst w rfl
   have hvl:=aO vss ky.sz'
   rw[ky.len] at hvl
   have htl:=aO (vss.take m) (fun v hv=>ky.sz' v (A69 hv))
   rw[A64,ky.len,A78 hm] at htl
   have hpre:∀(j:Nat) v,(vss.take m).flatten[j]? =some v->vss.flatten[j]? =some v:=by
    intro j v hj
    have e:vss.flatten=(vss.take m).flatten++(vss.drop m).flatten:=by rw[<- List.flatten_append,List.take_append_drop]
    rw[e,A6D]
    ·exact hj
    ·rcases A6F j (vss.take m).flatten.length with h'|h'
     ·exact h'
     ·rw[A6A h'] at hj;cases hj
   cases hy with
   | nils =>
    have:ys=[]:=by simpa[C9,aQ] using hys.symm
    subst this
    have:vss=[]:=by have:=ky.len;simpa using this
    subst this
    simp[A6B]
   | e0 a =>
    have:ys=[]:=by simpa[C9,aQ] using hys.symm
    subst this
    have hm0:m=0:=by simpa using hm
    subst hm0
    cases a<;>simp[A6B,loadCells,loadCellsFrom]
   | sl t xs a cap sz' vs hlen hb hszs h1 ha hs hM hr htl' ht' =>
    have e:ys=xs:=by simpa[C9,aQ] using hys.symm
    subst e
    cases a with
    | none =>
     cases ys with
     | nil =>
      simp only[A77] at hm;have hm0:m=0:=by omega
      subst hm0;simp[A6B]
     | cons y ys=>obtain⟨b,hb⟩:=ha (by simp);cases hb
    | some b =>
     obtain⟨a',cap',uss,e1,e2,e3,e4,e5,e6,e7⟩:=eX k (Rep.sl t ys (some b) cap sz' vs hlen hb hszs h1 ha hs hM hr htl' ht') (lO hfy)
     injection e1 with e1 _ e1'
     subst e1
     have hu:uss.flatten=vss.flatten:=by
      have:=run_firstCells_some (P:=P) w sz ys.length b ys.length cap uss.flatten e7 (fun j v hj=>(e6 b rfl j v hj).1)
      rw[hf] at this
      injection this with this
      exact(congrArg A8h this).symm
     exact run_firstCells_some w sz m b ys.length cap _ htl (fun j v hj=>(e6 b rfl j v (by rw[hu];exact hpre j v hj)).1)
   | ms ag z o off n cap rc hbd q1 q2 q3 =>
    simp only[C9] at hys
    split at hys
    ·rename_i cs hcs
     split at hys
     ·rename_i hc
      obtain⟨_,rfl,h3,h4⟩:=hc
      injection hys with hys;subst hys
      obtain⟨vs,rest,e',fr,g1,g2,g4,g3⟩:=(k.row o _ cs hcs rfl).hold
      rw[bN] at hm hf
      have hvl':=g2.len
      have hmz:m*z<=n*z:=A6K _ hm
      have hf2:=run_firstCells_some (P:=P) w z n ⟨c.β o,off,none⟩ n rc ((vs.drop off).take (n*z)) (by simp;omega) (fun j v hj=>by
       rw[Addr.add_eq _ rfl]
       have hlt:j<n*z:=by
        rcases A6F j (n*z) with h'|h'
        ·exact h'
        ·rw[A6A (by simp;omega)] at hj;cases hj
       rw[A6R hlt,A66] at hj
       simp only[A63,g1,A6Q]
       rw[A6D (by omega)]
       exact hj)
      rw[hf] at hf2
      injection hf2 with hf2
      have hu:vss.flatten=(vs.drop off).take (n*z):=congrArg A8h hf2
      refine run_firstCells_some w z m ⟨c.β o,off,none⟩ n rc _ htl (fun j v hj=>?_)
      rw[Addr.add_eq _ rfl]
      have hj:=hpre j v hj
      rw[hu] at hj
      have hlt:j<n*z:=by
       rcases A6F j (n*z) with h'|h'
       ·exact h'
       ·rw[A6A (by simp;omega)] at hj;cases hj
      rw[A6R hlt,A66] at hj
      simp only[A63,g1,A6Q]
      rw[A6D (by omega)]
      exact hj
     ·cases hys
    ·cases hys
   | _=>simp[C9,aQ] at hys
  have zero:∀(a:Option Addr) (cap:Nat),vx= .slice a 0 cap->(A7n #[dt,st] ty #[vx,vy]).run P w= .ok (.int .i64 0) w:=by
   intro a cap hv
   subst hv
   have h0:=part 0 (Nat.zero_le _)
   simp only[A8c,A71] at h0
   cases a<;>simp[A7n,run_underlying (Ai ht),hl,Af hsz,h0,storeCells,goInt]
  split at h
  ·cases hx
   exact⟨_,s,h,rfl,by rw[zero none 0 rfl];exact⟨_,c,w,rfl,Rep.int _ _,k,Cx.le.refl c,hsT,Below.refl _ _⟩⟩
  ·cases hx with
   | e0 a=>exact⟨_,s,h,rfl,by rw[zero a 0 rfl];exact⟨_,c,w,rfl,Rep.int _ _,k,Cx.le.refl c,hsT,Below.refl _ _⟩⟩
  ·cases hx with
   | sl t xs a cap sz' vs hlen hb hszs h1 ha hs hM hr htl' ht'=>exact⟨_,s,h,rfl,by rw[zero a cap rfl];exact⟨_,c,w,rfl,Rep.int _ _,k,Cx.le.refl c,hsT,Below.refl _ _⟩⟩
  ·rename_i g z' o off n cap
   split at h
   ·rename_i cs hcs
    obtain⟨rfl,h2,h3⟩:=h
    cases hx with
    | ms _ _ _ _ _ _ rc hbd q1 q2 q3 =>
    refine⟨_,_,h3,rfl,?_⟩
    have hm:=part (min ys.length n) (A79 _ _)
    have ke:=ky.take (min ys.length n)
    have hkl:=fJ ke.sz
    rw[A64,A78 (A79 _ _)] at hkl
    have hle:min ys.length n*z'<=n*z':=A6K _ (Nat.min_le_right _ _)
    have hfit:=iS k hcs rfl
    obtain⟨p1,p2,p3⟩:=gK (P:=P) k hcs rfl ke.cells (off:=off) (by omega) (by rw[hkl];omega)
    rw[hkl] at p2
    have hrun:(A7n #[dt,st] ty #[.slice (some ⟨c.β o,off,none⟩) n rc,vy]).run P w= .ok (.int .i64 (min ys.length n:Nat)) (AZ w (c.β o) off (vss.take (min ys.length n)).flatten):=by
     have e1:Nat.min ys.length n=min ys.length n:=rfl
     simp[A7n,run_underlying (Ai ht),hl,Af hsz,e1,hm,p1,goInt]
    rw[hrun]
    exact⟨_,c,_,rfl,Rep.int _ _,p2,Cx.le.refl c,hsT,p3⟩
   ·exact h.elim
  ·exact h.elim
theorem HQ{z:List D}{vs:List Value}(k:Cells c z vs):∀n,Cells c (A6G n z).flatten (A6G n vs).flatten
 | 0=>⟨rfl,by simp,fun i h _=>absurd h (by simp)⟩
 | n+1=>by
  simp only[A7o,A62]
  exact k.append (HQ k n)
theorem cG(z:Array Value)(n:Nat):(A6M z n).toList=(A6G n z.toList).flatten:=by
 unfold A6M
 apply List.ext_getElem?
 intro i
 rcases A6F i (n*z.size) with hi|hi
 ·have hpos:0<z.size:=by
   rcases A7T z.size with h|h
   ·rw[h] at hi;simp at hi
   ·exact h
  have h1:i / z.size<n:=A7L (by rw[A7H];exact hi)
  have h2:i%z.size<z.size:=Nat.mod_lt _ hpos
  have h3:(A6G n z.toList).flatten[i / z.size*z.size+i%z.size]? =z.toList[i%z.size]?:=by
   have:=gM (sz:=z.size) (A6G n z.toList) (i / z.size) (by simpa using h1) (i%z.size) (fun x hx=>by rw[List.eq_of_mem_replicate hx];simp) h2
   rw[this];simp
  have h4:i / z.size*z.size+i%z.size=i:=by rw[A7H];exact A76 i z.size
  rw[h4] at h3
  rw[h3]
  simp[hi,h2]
 ·have hl:(A6G n z.toList).flatten.length=n*z.size:=by simp
  rw[A6A (by simpa using hi),A6A (by rw[hl];exact hi)]
theorem sQ(k:Inv c w H){t e:TypeId}{z:List D}(ht:Ak P t=some e)(hz:tz P e=some z)(ty:TypeId){x:D}{vx:Value}(hx:Rep c x vx){s:S}(hsH:s.H=H)(hsT:c.T=s.T){K:D->S->Prop}(h:LI z K s x):
  ∃d s',K d s'/\s'.t=s.t/\Yld c w s'.H s'.T d ((A7c #[t] ty #[vx]).run P w):=by
 subst hsH
 obtain⟨zv,z1,z2⟩:=bL (P:=P) hz c
 have ru:=run_underlying (P:=P) (w:=w) (Ai ht)
 have tupR:Rep c (.tup []) (.tuple #[]):=Rep.tup [] [] rfl (fun i h _=>absurd h (by simp))
 have zero:∀(a:Option Addr) (cap:Nat),vx= .slice a 0 cap->(A7c #[t] ty #[vx]).run P w= .ok (.tuple #[]) w:=by
  intro a cap hv
  subst hv
  cases a<;>simp[A7c,ru]
 unfold LI at h
 split at h
 ·cases hx
  exact⟨_,s,h,rfl,by rw[zero none 0 rfl];exact⟨_,c,w,rfl,tupR,k,Cx.le.refl c,hsT,Below.refl _ _⟩⟩
 ·cases hx with
  | e0 a=>exact⟨_,s,h,rfl,by rw[zero a 0 rfl];exact⟨_,c,w,rfl,tupR,k,Cx.le.refl c,hsT,Below.refl _ _⟩⟩
 ·cases hx with
  | sl t xs a cap sz' vs hlen hb hszs h1 ha hs hM hr htl' ht'=>exact⟨_,s,h,rfl,by rw[zero a cap rfl];exact⟨_,c,w,rfl,tupR,k,Cx.le.refl c,hsT,Below.refl _ _⟩⟩
 ·rename_i g sz o off n cap
  split at h
  ·rename_i cs hcs
   obtain⟨rfl,h2,h3⟩:=h
   cases hx with
   | ms _ _ _ _ _ _ rc hbd q1 q2 q3 =>
   refine⟨_,_,h3,rfl,?_⟩
   have hfl:(A6G n z).flatten.length=n*z.length:=by simp
   have hfit:=iS k hcs rfl
   obtain⟨p1,p2,p3⟩:=gK (P:=P) k hcs rfl (HQ z2 n) (off:=off) (by omega) (by rw[hfl];omega)
   rw[hfl] at p2
   have hrun:∃w',(A7c #[t] ty #[.slice (some ⟨c.β o,off,none⟩) n rc]).run P w= .ok (.tuple #[]) w'/\w'=AZ w (c.β o) off (A6G n zv.cells.toList).flatten:=by
    cases n with
    | zero=>exact⟨w,by simp[A7c,ru],by simp[AZ]⟩
    | succ n =>
     refine⟨_,?_,rfl⟩
     simp[A7c,ru,z1,cG,p1]
   obtain⟨w',e1,e2⟩:=hrun
   subst e2
   rw[e1]
   exact⟨_,c,_,rfl,tupR,p2,Cx.le.refl c,hsT,p3⟩
  ·exact h.elim
 ·exact h.elim
theorem oU(k:Inv c w H){st xt e:TypeId}{z:List D}{sz bytes:Nat}{ki:IntKind}(ht:Ak P st=some e)(hxt:P.underlying xt=some (.int ki))(hsz:tsz P e=some sz)(hby:bZ P e=some bytes)(hz:tz P e=some z)(ty:TypeId){x y:D}{vx vy:Value}(hx:Rep c x vx)(hy:Rep c y vy){s:S}(hsH:s.H=H)(hsT:c.T=s.T){K:D->S->Prop}{ag:Bool}
  (h:KJ ag sz bytes z K s x y) :
  ∃d s',K d s'/\s'.t=s.t/\Yld c w s'.H s'.T d ((A6N #[st,xt] ty #[vx,vy]).run P w):=by
 subst hsH
 obtain⟨zv,z1,z2⟩:=bL (P:=P) hz c
 obtain⟨i,hi,hib⟩:=fB hby
 unfold KJ at h
 obtain⟨h0,h⟩:=h
 split at h
 ·rename_i ka n
  obtain⟨h1,h2,h3,h4,h5⟩:=h
  cases hy
  have hvx:∃base,vx= .slice base 0 0:=by
   rcases h0 with rfl|rfl
   ·cases hx;exact⟨none,rfl⟩
   ·cases hx with
    | e0 a=>exact⟨a,rfl⟩
  obtain⟨base,rfl⟩:=hvx
  refine⟨_,_,h5,rfl,?_⟩
  obtain⟨m,rfl⟩:∃m:Nat,n=(m:Int):=⟨n.toNat,by omega⟩
  rw[Int.toNat_natCast]
  have wa:IntKind.i64.wrap (m:Int)=(m:Int):=by simp[IntKind.wrap,IntKind.bits,IntKind.signed];omega
  have hzs:zv.cells.size=sz:=by have:=z2.len;simp at this;omega
  have hm2:m*bytes<=2^47:=by
   have:((m*bytes:Nat):Int)<=2^47:=by rw[Int.natCast_mul];exact h2
   omega
  have hold:∀w',(A6B sz 0 (.slice base 0 0)).run P w'= .ok #[] w':=fun w'=>by
   cases base<;>simp[A6B,loadCells,loadCellsFrom]
  have hze:(A6M zv.cells m).toList=(A6G m zv.cells.toList).flatten:=cG zv.cells m
  have hrun:∃(cap:Nat) (rest:List Value),m<=cap/\rest.length=(cap - m)*sz ∧
    (A6N #[st,xt] ty #[.slice base 0 0,.int ka (m:Int)]).run P w= .ok (.slice (some ⟨w.heap.size,0,none⟩) m cap) (w.drew.alloc (.cells ((A6G m zv.cells.toList).flatten++rest).toArray e)):=by
   refine⟨grownCap w m 0 e,(A6M zv.cells (grownCap w m 0 e - m)).toList,?_,?_,?_⟩
   ·simp[grownCap,Question.cut]
   ·simp[A6M,hzs]
   ·have hn: ¬(m<=0):=by omega
    have ha: ¬((m:Int)<0):=by omega
    have h63: ¬(9223372036854775807<(m:Int)):=by omega
    have hbig: ¬(281474976710656:Int)<(m:Int)*i.bytes:=by rw[hib];omega
    have h48: ¬(281474976710656<A7M m 0*i.bytes):=by
     have:=growslice_fits (need:=m) (old:=0) (bytes:=bytes) (by omega) (by omega)
     rw[hib];omega
    have hcells:((A6G m zv.cells.toList).flatten++(A6M zv.cells (grownCap w m 0 e - m)).toList).toArray=A6M zv.cells m++A6M zv.cells (grownCap w m 0 e - m):=by
     rw[<- hze];simp
    rw[hcells]
    by_cases hs0:m*sz=0
    ·have hz0:A6M zv.cells m= #[]:=by
      apply A6X.1
      apply List.eq_nil_of_length_eq_zero
      simp only[A6V,A6M,Array.size_map,Array.size_range,hzs];exact hs0
     rw[hz0]
     simp[A6N,run_underlying (Ai ht),Af hsz,run_underlying hxt,asInt,asIntOf,wa,hn,ha,h63,hbig,h48,hi,Question.forced,hold,z1,newRow,grownCap,hs0]
     intro hm0;omega
    ·simp[A6N,run_underlying (Ai ht),Af hsz,run_underlying hxt,asInt,asIntOf,wa,hn,ha,h63,hbig,h48,hi,Question.forced,hold,z1,newRow,grownCap,hs0]
     intro hm0;omega
  obtain⟨cap,rest,g1,g2,g3⟩:=hrun
  rw[g3]
  have hr:=HQ z2 m
  have k1:=k.drew
  have:=l8 k1 rest e hr (k1.free s.H.length (.inl (A6E _))) (H':=s.H++[.row (A6G m z).flatten]) (dH _ _) (fun o' h=>bD _ _ o' h) hsT (ag:=ag) (sz:=sz) (n:=m) (cap:=m) (rc:=cap)
   (A6E _) g1 (by
    have hl:=hr.len
    simp only[List.length_flatten,List.map_replicate,List.sum_replicate_nat,A6V] at hl ⊢
    rw[hzs,g2,← A6L]
    exact A6K _ (by omega))
  exact this.drew
 ·exact h.elim
theorem sA(k:Inv c w H){t e:TypeId}{z:List D}{sz bytes:Nat}(ht:Ak P t=some e)(hsz:tsz P e=some sz)(hby:bZ P e=some bytes)(hz:tz P e=some z){x y:D}{vx vy:Value}(hx:Rep c x vx)(hy:Rep c y vy){s:S}(hsH:s.H=H)(hsT:c.T=s.T){K:D->S->Prop}{ag:Bool}
  (h:OG ag sz bytes z K s x y) :
  ∃d s',K d s'/\s'.t=s.t/\Yld c w s'.H s'.T d ((Instr.makeSlice t vx vy).run P w):=by
 subst hsH
 obtain⟨zv,z1,z2⟩:=bL (P:=P) hz c
 obtain⟨i,hi,hib⟩:=fB hby
 unfold OG at h
 split at h
 ·rename_i ka a kb b
  obtain⟨h1,h2,h3,h4,h5,h6⟩:=h
  cases hx;cases hy
  refine⟨_,_,h6,rfl,?_⟩
  have wa:IntKind.i64.wrap a=a:=by simp[IntKind.wrap,IntKind.bits,IntKind.signed];omega
  have wb:IntKind.i64.wrap b=b:=by simp[IntKind.wrap,IntKind.bits,IntKind.signed];omega
  have hzs:zv.cells.size=sz:=by have:=z2.len;simp at this;omega
  have hrun:(Instr.makeSlice t (.int ka a) (.int kb b)).run P w= .ok (.slice (some ⟨w.heap.size,0,none⟩) a.toNat b.toNat) (w.alloc (.cells (A6G b.toNat zv.cells.toList).flatten.toArray e)):=by
   have hb0: ¬b<0:=by omega
   have ha0: ¬a<0:=by omega
   have hab: ¬b<a:=by omega
   have hbig: ¬(281474976710656:Int)<i.bytes*b:=by rw[hib,Int.mul_comm];omega
   have hze:((A7Q (b.toNat*sz)).map (fun j=>(if b.toNat*sz=0 then #[] else zv.cells)[j%(if b.toNat*sz=0 then #[] else zv.cells).size]!))=(A6G b.toNat zv.cells.toList).flatten.toArray:=by
    apply A6X.1
    by_cases h0:b.toNat*sz=0
    ·have:(A6G b.toNat zv.cells.toList).flatten.length=0:=by simp[hzs,h0]
     have:(A6G b.toNat zv.cells.toList).flatten=[]:=List.length_eq_zero_iff.1 this
     rw[this,h0];simp
    ·simp only[h0,if_false]
     have:=cG zv.cells b.toNat
     unfold A6M at this
     rw[hzs] at this
     simp only[hzs]
     exact this
   have has:∀(n:Nat) (w:World),(askRoom n).run P w= .ok () w:=fun n w=>by unfold askRoom;split<;>rfl
   by_cases h0:b.toNat*sz=0
   ·simp only[h0,if_true] at hze
    simp[Instr.makeSlice,run_underlying (Ai ht),hi,asInt,asIntOf,wa,wb,hb0,ha0,hab,hbig,has,Af hsz,h0,newRow]
    rw[<- hze];simp
   ·simp only[h0,if_false] at hze
    simp[Instr.makeSlice,run_underlying (Ai ht),hi,asInt,asIntOf,wa,wb,hb0,ha0,hab,hbig,has,Af hsz,h0,z1,newRow]
    rw[<- hze]
  rw[hrun]
  have hr:=HQ z2 b.toNat
  have:=l8 k [] e hr (k.free s.H.length (.inl (A6E _))) (H':=s.H++[.row (A6G b.toNat z).flatten]) (dH _ _) (fun o' h=>bD _ _ o' h) hsT (ag:=ag) (sz:=sz) (n:=a.toNat) (cap:=b.toNat) (rc:=b.toNat)
   (by omega) (A6E _) (by rw[hr.len];simp[h5])
  rw[A7q] at this
  exact this
 ·exact h.elim
end GP
namespace GP
open Go
variable {P:Program} {c:Cx} {w:World} {H:Hp}
def fzM(c:Cx)(o:Nat)(vs:List Value):Addr->Option Value:=fun a=>if a.block=c.β o/\a.spot=none then vs[a.off]? else c.M a
def Cx.fz(c:Cx)(o:Nat)(vs:List Value):Cx:={ c with M:=fzM c o vs }
theorem LU{c:Cx}{o:Nat}{vs:List Value}{a:Addr}(h:a.block≠c.β o):fzM c o vs a=c.M a:=by
 unfold fzM;rw[if_neg (fun k=>h k.1)]
theorem zB(c:Cx)(o:Nat)(vs:List Value)(i:Nat):fzM c o vs ⟨c.β o,i,none⟩=vs[i]?:=by
 unfold fzM;rw[if_pos ⟨rfl,rfl⟩]
theorem zP{o:Nat}{vs:List Value}(h:∀i,c.M ⟨c.β o,i,none⟩=none):c.le (c.fz o vs):=by
 refine⟨fun a v ha=>?_,fun _ h=>h,fun _ _=>rfl,A6E _,fun _ h=>h,fun _ n _ h=>.inr ⟨n,h,A6E _,fun _=>rfl⟩,rfl,fun _ _=>rfl⟩
 show fzM c o vs a=some v
 unfold fzM
 split
 ·rename_i hc
  obtain⟨b,i,s⟩:=a
  obtain⟨h1,h2⟩:=hc
  simp only at h1 h2;subst h1;subst h2
  rw[h i] at ha;cases ha
 ·exact ha
theorem FN{H:Hp}{o o':Nat}{x y:Ob}(h:(H.set o x)[o']? =some y)(hx:y≠x):o'≠o/\H[o']? =some y:=by
 by_cases e:o=o'
 ·subst e
  rw[List.getElem?_set] at h
  split at h
  ·split at h
   ·injection h with h;exact absurd h.symm hx
   ·cases h
  ·rename_i hne;exact absurd rfl hne
 ·rw[A6U e] at h
  exact⟨fun k=>e k.symm,h⟩
theorem Inv.row_at(k:Inv c w H){o:Nat}{cs:List D}(h:H[o]? =some (.row cs)):∃vs,Cells c cs vs/\∀(i:Nat) u,vs[i]? =some u->w.cell? ⟨c.β o,i,none⟩=some u:=by
 obtain⟨a,vs,h1,h2,h3,h4⟩:=lE k (Rep.ptr o 0 (k.own o _ h rfl).1) (cs:=cs) (by simp[Bx,h])
 injection h1 with h1;injection h1 with h1;subst h1
 refine⟨vs,h3,fun i u hu=>?_⟩
 have:=h4 i u hu
 rw[Addr.add_eq _ rfl] at this
 simpa using this
theorem Inv.fz(k:Inv c w H){o:Nat}{cs:List D}(h:H[o]? =some (.row cs)){vs:List Value}(hv:∀(i:Nat) u,vs[i]? =some u->w.cell? ⟨c.β o,i,none⟩=some u):Inv (c.fz o vs) w (H.set o .dead):=by
 obtain⟨hb,hB,hw,hM⟩:=k.own o _ h rfl
 have hle:=zP (vs:=vs) hM
 have get:∀{o':Nat} {x:Ob},(H.set o .dead)[o']? =some x->x.live=true->o'≠o/\H[o']? =some x:=fun hg hx=>FN hg (fun e=>by subst e;simp[Ob.live] at hx)
 have hne:∀{o':Nat} {x:Ob},H[o']? =some x->x.live=true->o'≠o->c.β o'≠c.β o:=fun hg hx hn e=>hn (k.apart _ _ _ _ hg h hx rfl e)
 refine⟨fun a v ha=>?_,k.low,fun o' x cs' hg hx=>?_,fun o' hf=>?_,fun o' x hg hx=>?_,fun o' o'' x x' hg hg' hx hx'=>?_,fun o' es clk hg=>?_,fun o' m l hg=>?_,fun τ n z ht=>?_,fun τ n z o' x ht hg hx=>?_,k.toks⟩
 ·change fzM c o vs a=some v at ha
  unfold fzM at ha
  split at ha
  ·rename_i hc
   obtain⟨b,i,s⟩:=a
   obtain⟨h1,h2⟩:=hc
   simp only at h1 h2 ha;subst h1;subst h2
   exact hv i v ha
  ·exact k.keep a v ha
 ·have hlv:x.live=true:=by cases x<;>simp[Ob.cells?] at hx<;>rfl
  obtain⟨h1,h2⟩:=get hg hlv
  obtain⟨us,rest,e,fr,g1,g2,g3,g4⟩:=(k.row o' x cs' h2 hx).hold
  exact⟨us,rest,e,fr,g1,g2.mono hle,g3,g4⟩
 ·rcases hf with hf|hf
  ·exact k.free o' (.inl (by simpa using hf))
  ·obtain⟨_,h2⟩:=FN hf (by simp)
   exact k.free o' (.inr h2)
 ·obtain⟨h1,h2⟩:=get hg hx
  obtain⟨g1,g2,g3,g4⟩:=k.own o' x h2 hx
  refine⟨g1,g2,g3,fun i=>?_⟩
  show fzM c o vs _=none
  rw[LU (hne h2 hx h1)];exact g4 i
 ·obtain⟨_,h2⟩:=get hg hx
  obtain⟨_,h3⟩:=get hg' hx'
  exact k.apart _ _ _ _ h2 h3 hx hx'
 ·exact k.map o' es clk (FN hg (by simp)).2
 ·exact k.iter o' m l (FN hg (by simp)).2
 ·obtain⟨g1,g2,g3,g4,g5⟩:=k.tok τ n z ht
  refine⟨g1,g2,g3,g4,fun j h1 h2=>?_⟩
  obtain⟨q1,q2,q3⟩:=g5 j h1 h2
  refine⟨q1,q2,?_⟩
  show fzM c o vs ⟨(c.κ τ).1.block,(c.κ τ).1.off+j,none⟩=none
  rw[LU (a:=⟨(c.κ τ).1.block,(c.κ τ).1.off+j,none⟩) (fun e=>k.tokrow τ n z o _ ht h rfl e.symm)];exact q3
 ·obtain⟨_,h2⟩:=get hg hx
  exact k.tokrow τ n z o' x ht h2 hx
theorem xZ{ag:Bool}{z o off n cap:Nat}{v:Value}(hr:Rep c (.ms ag z o off n cap) v){cs:List D}{vs:List Value}(hc:Cells c cs vs)(hM:∀i,c.M ⟨c.β o,i,none⟩=none)(h1:off+n*z<=cs.length)(h2:ag=true∨z=1)(h3:n<2^62):
  Rep (c.fz o vs) (.sl none (Bd ag z n (cs.drop off))) v:=by
 cases hr with
 | ms _ _ _ _ _ _ rc hb g1 g2 g3 =>
  have hle:=zP (vs:=vs) hM
  have hcd:Cells (c.fz o vs) (cs.drop off) (vs.drop off):=by
   have:=hc.mono hle
   exact⟨by simp[this.len],fun d hd=>this.one d (A6Z hd),fun i h h'=>by simpa using this.rep (off+i) (by simp at h;omega) (by simp at h';omega)⟩
  have ke:=cT h2 n _ _ hcd (by simp;omega)
  have hl:=bN ag z n (cs.drop off)
  have hvl:vs.length=cs.length:=hc.len
  have:=FF ke (a:=⟨c.β o,off,none⟩) (cap:=rc) rfl (by omega) (by omega) (fun j hj=>?_) none (fun τ h=>by cases h) (fun τ h=>by cases h)
  ·rw[hl] at this;exact this
  ·rw[hl] at hj
   show fzM c o vs ⟨c.β o,off+j,none⟩=_
   rw[zB,bU,A6R (by omega),A66]
mutual
def D.fz(o:Nat)(cs:List D):D->D
 | .ms ag z o' off n cap=>if o'=o/\off+n*z<=cs.length/\(ag=true∨z=1)/\n<2^62 then .sl none (Bd ag z n (cs.drop off)) else .ms ag z o' off n cap
 | .sl t xs=>.sl t (D.fzL o cs xs)
 | .el ds=>.el (D.fzL o cs ds)
 | .agg ds=>.agg (D.fzL o cs ds)
 | .tup ds=>.tup (D.fzL o cs ds)
 | .fn f a b=>.fn f (D.fzL o cs a) (D.fzL o cs b)
 | .ifc t d=>.ifc t (D.fz o cs d)
 | d=>d
def D.fzL(o:Nat)(cs:List D):List D->List D
 | []=>[]
 | d::ds=>D.fz o cs d::D.fzL o cs ds
end
section
variable {o:Nat} {cs:List D}
theorem CA:∀(l:List D),(D.fzL o cs l).length=l.length
 | []=>by simp[D.fzL]
 | d::l=>by simp[D.fzL,CA l]
theorem Ej:∀(l:List D) (i:Nat) (h:i<l.length) (h':i<(D.fzL o cs l).length),(D.fzL o cs l)[i]=(l[i]).fz o cs
 | d::l,0,h,h'=>by simp[D.fzL]
 | d::l,i+1,h,h'=>by
  simp only[D.fzL,A7D]
  exact Ej l i _ _
theorem Hw(l:List D):D.fzL o cs l=l.map (D.fz o cs):=by
 induction l with
 | nil=>simp[D.fzL]
 | cons d l ih=>simp[D.fzL,ih]
theorem OR(d:D):(d.fz o cs).one=d.one:=by
 cases d with
 | ms ag z o' off n cap =>
  simp only[D.fz]
  by_cases h:o'=o/\off+n*z<=cs.length/\(ag=true∨z=1)/\n<2^62
  ·rw[if_pos h];rfl
  ·rw[if_neg h]
 | _=>simp only[D.fz,D.one]
theorem KI(d:D):(d.fz o cs).cells=D.fzL o cs d.cells:=by
 cases d with
 | ms ag z o' off n cap =>
  simp only[D.fz]
  by_cases h:o'=o/\off+n*z<=cs.length/\(ag=true∨z=1)/\n<2^62
  ·rw[if_pos h];simp only[D.cells,D.fzL,D.fz];rw[if_pos h]
  ·rw[if_neg h];simp only[D.cells,D.fzL,D.fz];rw[if_neg h]
 | _=>simp only[D.fz,D.cells,D.fzL]
theorem Rep.fz{vs:List Value}(hc:Cells c cs vs)(hM:∀i,c.M ⟨c.β o,i,none⟩=none){d:D}{v:Value}(h:Rep c d v):Rep (c.fz o vs) (d.fz o cs) v:=by
 have hle:=zP (vs:=vs) hM
 induction h with
 | bool b=>simpa[D.fz] using Rep.bool b
 | int k n=>simpa[D.fz] using Rep.int k n
 | str l h=>simpa[D.fz] using Rep.str l h
 | nilp=>simpa[D.fz] using Rep.nilp
 | ptr o off h=>simpa[D.fz] using(Rep.ptr o off h).mono hle
 | el ds a us ha h1 hM' _ ih =>
  simp only[D.fz]
  refine Rep.el _ a us ha ?_ (fun i hi=>hle.M _ _ (hM' i (by simpa[CA] using hi))) (fun i hi=>?_)
  ·intro d hd
   rw[Hw] at hd
   obtain⟨x,hx,rfl⟩:=A7f.1 hd
   rw[OR];exact h1 x hx
  ·have hi':i<ds.length:=by simpa[CA] using hi
   rw[Ej ds i hi']
   exact ih i hi'
 | nils=>simpa[D.fz] using Rep.nils
 | ms ag z o' off len cap rc h h1 h2 h3 =>
  have hm:=Rep.ms (c:=c) ag z o' off len cap rc h h1 h2 h3
  simp only[D.fz]
  split
  ·rename_i hq
   obtain⟨rfl,q1,q2,q3⟩:=hq
   exact xZ hm hc hM q1 q2 q3
  ·exact hm.mono hle
 | e0 a=>simpa[D.fz] using Rep.e0 a
 | sl t xs a cap sz us hlen hb hsz h1 ha hs hM' _ htl ht ih =>
  simp only[D.fz]
  have hl:=CA (o:=o) (cs:=cs) xs
  rw[<- hl]
  refine Rep.sl t (D.fzL o cs xs) a cap sz us (by omega) (by omega) ?_ ?_ ?_ ?_ ?_ ?_ htl (fun τ h n z h'=>by rw[hl];exact ht τ h n z h')
  ·intro x hx
   rw[Hw] at hx
   obtain⟨y,hy,rfl⟩:=A7f.1 hx
   rw[KI,CA];exact hsz y hy
  ·intro x hx y hy
   rw[Hw] at hx
   obtain⟨z,hz,rfl⟩:=A7f.1 hx
   rw[KI,Hw] at hy
   obtain⟨u,hu,rfl⟩:=A7f.1 hy
   rw[OR];exact h1 z hz u hu
  ·intro hne
   exact ha (by intro e;subst e;exact hne (by simp[D.fzL]))
  ·intro hne
   exact hs (by intro e;subst e;exact hne (by simp[D.fzL]))
  ·intro i hi j hj b hb
   exact hle.M _ _ (hM' i (by omega) j hj b hb)
  ·intro i hi j hj
   have hi':i<xs.length:=by omega
   have e1:(D.fzL o cs xs)[i].cells=D.fzL o cs (xs[i].cells):=by rw[Ej xs i hi',KI]
   have hj':j<(xs[i].cells).length:=by rw[e1,CA] at hj;exact hj
   have e2:((D.fzL o cs xs)[i].cells)[j]=((xs[i].cells)[j]).fz o cs:=by
    have:=Ej (o:=o) (cs:=cs) (xs[i].cells) j hj' (by rw[CA];exact hj')
    rw[<- this];congr 1
   rw[e2]
   exact ih i hi' j hj'
 | fn f p q vp vq hp hq _ _ ih1 ih2 =>
  simp only[D.fz]
  refine Rep.fn f _ _ vp vq (by rw[CA];exact hp) (by rw[CA];exact hq) (fun i h h'=>?_) (fun i h h'=>?_)
  ·have hi:i<p.length:=by rw[CA] at h;exact h
   rw[Ej p i hi];exact ih1 i hi h'
  ·have hi:i<q.length:=by rw[CA] at h;exact h
   rw[Ej q i hi];exact ih2 i hi h'
 | nilf=>simpa[D.fz] using Rep.nilf
 | mp o h=>simpa[D.fz] using(Rep.mp o h).mono hle
 | nilm=>simpa[D.fz] using Rep.nilm
 | nili=>simpa[D.fz] using Rep.nili
 | ifc t d v _ ih=>simp only[D.fz];exact Rep.ifc t _ v ih
 | agg ds us hl h1 _ ih =>
  simp only[D.fz]
  refine Rep.agg _ us (by rw[CA];exact hl) ?_ (fun i h h'=>?_)
  ·intro d hd
   rw[Hw] at hd
   obtain⟨x,hx,rfl⟩:=A7f.1 hd
   rw[OR];exact h1 x hx
  ·have hi:i<ds.length:=by rw[CA] at h;exact h
   rw[Ej ds i hi];exact ih i hi h'
 | tup ds us hl _ ih =>
  simp only[D.fz]
  refine Rep.tup _ us (by rw[CA];exact hl) (fun i h h'=>?_)
  have hi:i<ds.length:=by rw[CA] at h;exact h
  rw[Ej ds i hi];exact ih i hi h'
 | top v=>simpa[D.fz] using Rep.top v
end
theorem rT{src dst e:TypeId}(hs:P.underlying src=some (.slice e))(he:P.underlying e=some (.int .u8))(hd:P.underlying dst=some .string)(hi:Inv c w H){x r:D}{v:Value}(hx:Rep c x v)
  (h:UE H x=some r):∃u,(Go.convert src dst v).run P w= .ok u w/\Rep c r u:=by
 unfold UE at h
 split at h
 ·rename_i ag z o off n cap
  split at h
  ·rename_i cs ho
   split at h
   ·rename_i hc
    obtain⟨h1,h2,h3,h4⟩:=hc
    injection h with h;subst h
    obtain⟨vs,hv,hcell⟩:=hi.row_at ho
    have hM:=(hi.own o _ ho rfl).2.2.2
    obtain⟨u,e1,e2⟩:=fD (P:=P) hs he hd (hi.fz ho hcell) (xZ hx hv hM (by rw[h1];omega) (.inr h1) h4) (r:=.str ((Bd ag z n (cs.drop off)).map l6)) (by simp only[JU];rw[if_pos h3])
    refine⟨u,e1,?_⟩
    cases e2 with
    | str _ hl=>exact Rep.str _ hl
   ·cases h
  ·cases h
 ·exact fD hs he hd hi hx h
end GP
