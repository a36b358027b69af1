import Derived.Conc.EntryLaws
import Derived.Ground.NamesProg
import Derived.Ground.SlsfProg
import Derived.Lib.Bytealg
import Derived.Shelf.Lay
import Derived.Shelf.Strconv.Itoa4
import Derived.Shelf.Strconv.ParseIntPublic10
import Derived.Test.YtainhmbnbgonhaaGreatDoorProg
import Derived.Test.YtainhmbnbgonhaaGreatDoorM2
import Derived.Test.YtainhmbnbgonhaaGreatDoorM3
import Derived.Test.YtainhmbnbgonhaaGreatDoorM4
set_option maxHeartbeats 16000000
open List renaming getElem?_eq_getElem->A6A,all_eq_true->A6B,mem_of_getElem?->A6C,getElem?_eq_none->A6D,drop_eq_getElem_cons->A6E,getElem?_set_self->A6F,mem_cons->A6G,getElem_mem->A6I,pairwise_cons->A6J,length_eq_zero_iff->A6O,drop_eq_nil_of_le->A6P,range->A6Q,length_cons->A6R,take_add_one->A6S,getElem_of_mem->A6T,take_length->A6U,all_cons->A6V,mem_map->A6Y,getElem?_append_left->A6Z,contains_eq_any_beq->A61,all_append->A63,getElem_cons_zero->A65,take_succ_cons->A66,all_nil->A67,set_set->A68,getElem?_take_of_lt->A7b,any_eq_true->A7e,isEmpty_iff->A7f,getElem_cons_succ->A7g,take_of_length_le->A7h,contains_iff_mem->A7i,append_nil->A7k,length_set->A7l,getElem?_set_ne->A7m,set_append_left->A7n,drop_zero->A7o,takeWhile_cons->A7p,mem_singleton->A7q,getElem?_drop->A7r,contains_cons->A7s,find?_append->A7v,all_eq_false->A7w,any_eq_false->A7x,length_drop->A7y,cons_append->A7z,not_mem_nil->A7A,mem_append->A7B,any_append->A7C,drop_drop->A7F,set->A7H,map_cons->A7I,map_nil->A7L
open Bool renaming and_eq_true->A6H,and_true->A6W,and_eq_false_iff->A6X,and_false->A60,true_and->A62,false_eq_true->A64,eq_false_iff->A69,false_or->A7c,eq_iff_iff->A7D,false_and->A7E,and_self->A7G,true_or->A7K
open Nat renaming le_refl->A6K,lt_or_ge->A6L,zero_le->A7d,zero_add->A7j,le_trans->A7J
open Int renaming toNat_natCast->A6M,reduceAdd->A7u
open And renaming intro->A6N
open Option renaming isSome_iff_exists->A7a,isSome_some->A7t
set_option linter.unusedSimpArgs false
set_option linter.unnecessarySimpa false
namespace Go.Proofs
open Go.Shelf
shelf_lay LaysC.n174 Nm 174 at Tryz as Tryz.laysPI
theorem Tryz.parse_ok(s:ByteArray)(hmax:s.size<=9223372036854775806)(v:Int)(h:Lib.parseIntB 64 s.data.toList= .ok v)(w:World):
  Calls Tryz.prog 185 #[.string s,.int .i64 10,.int .i64 64] w fun e w'=>e= .returned (.tuple #[.int .i64 v,.nilIface])/\(w'=w∨∃t,w'=Lib.bytesWorld w 5 t):=Any.strconv_ParseInt_10_at64_ok Tryz.laysPI s hmax v h w
theorem Tryz.parse_range(s:ByteArray)(hlim:s.size<=281474976710656)(h:Lib.parseIntB 64 s.data.toList= .range)(ev:Value)(w:World)(hv:w.cell? ⟨3,0,none⟩=some ev)(hev:ev= .nilIface∨∃te pe,ev= .iface te pe):
  Calls Tryz.prog 185 #[.string s,.int .i64 10,.int .i64 64] w fun e w'=>∃N,e= .returned (.tuple #[.int .i64 (Lib.intSat 64 s.data.toList),.iface 220 (.pointer (some ⟨N,0,none⟩))])/\w.heap.size<=N/\w'.heap[N]? =some (.cells #[.string ⟨#[80,97,114,115,101,73,110,116]⟩,.string s,ev] 231 (0,0))/\RowKit.Below w.heap.size w w':=Any.strconv_ParseInt_10_at64_range Tryz.laysPI s hlim h ev w hv hev
shelf_lay LaysM.n173 Nm 173 at Tryz as Tryz.laysFI
theorem Tryz.format(n:Int)(h0: -9223372036854775808<=n)(h1:n<=9223372036854775807)(w:World)
  (htab : Lib.TabIs Tryz.prog w "internal/strconv.uint64pow10" .u64 Lib.pow10Tab) :
  Calls Tryz.prog 167 #[.int .i64 n,.int .i64 10] w fun e w'=>e= .returned (.string ⟨(Lib.itoa n).toArray⟩)/\∃k os,w'=Go.Sort.grow (w.drewN k) os:=Any.strconv_FormatInt_10 Tryz.laysFI n h0 h1 w htab
end Go.Proofs
namespace GP
open Go Go.Proofs
set_option maxRecDepth 100000
def HU(b:UInt8):Bool:=cU (b.toNat:Int)
theorem rH{b:UInt8}:HU b=true↔48<=b.toNat/\b.toNat<=57:=by
 unfold HU cU;simp only[A6H,decide_eq_true_eq];omega
def OI(acc:Nat)(l:List UInt8):Nat:=l.foldl (fun n b=>n*10+(b.toNat - 48)) acc
def ED(l:List UInt8):Nat:=OI 0 l
theorem Rc(n:Nat):10^(n+1)=10^n*10:=Nat.pow_succ 10 n
theorem JE:∀(l:List UInt8) (acc:Nat),(∀b∈l,HU b=true)->(acc+1)*10^l.length<=10^19->Lib.parseUintM (2^64 - 1) acc l= .ok (OI acc l)/\OI acc l+1<=(acc+1)*10^l.length
 | [],acc,_,_=>by simp[Lib.parseUintM,OI]
 | c::r,acc,hd,hb=>by
  have hc:=rH.1 (hd c (by simp))
  simp only[A6R,Rc] at hb ⊢
  have hp:1<=10^r.length:=Nat.one_le_pow _ _ (by decide)
  have h2:(acc*10+(c.toNat - 48)+1)*10^r.length<=(acc+1)*(10^r.length*10):=by
   have:acc*10+(c.toNat - 48)+1<=(acc+1)*10:=by omega
   calc (acc*10+(c.toNat - 48)+1)*10^r.length<=((acc+1)*10)*10^r.length:=Nat.mul_le_mul_right _ this
    _=(acc+1)*(10^r.length*10):=by rw[Nat.mul_assoc,Nat.mul_comm 10]
  have h1:acc+1<=10^18:=by
   have:(acc+1)*10<=(acc+1)*(10^r.length*10):=Nat.mul_le_mul_left _ (by omega)
   omega
  obtain⟨i1,i2⟩:=JE r (acc*10+(c.toNat - 48)) (fun b hb=>hd b (by simp[hb])) (A7J h2 hb)
  refine⟨?_,A7J i2 h2⟩
  simp only[Lib.parseUintM]
  rw[if_pos hc,if_neg (by omega),if_neg (by omega)]
  exact i1
theorem O8{l:List UInt8}(hd:∀b∈l,HU b=true)(h1:1<=l.length)(h2:l.length<=19):
  Lib.parseIntB 64 l=(if ED l<2^63 then .ok (ED l:Int) else .range)/\Lib.intSat 64 l=2^63 - 1:=by
 cases l with
 | nil=>simp at h1
 | cons c r =>
  have hc:=rH.1 (hd c (by simp))
  have hu:=(JE (c::r) 0 hd (by simpa using Nat.pow_le_pow_right (n:=10) (by decide) h2)).1
  refine⟨?_,by rw[Lib.intSat_other 64 c r (by omega)];decide⟩
  rw[Lib.parseIntB_plain 64 c r (by omega) (by omega)]
  unfold Lib.parseUintB
  rw[if_neg (by simp),hu]
  unfold ED
  by_cases h:OI 0 (c::r)<2^63
  ·rw[if_pos h];simp only[Lib.signlessC];rw[if_neg (by simpa using h)]
  ·rw[if_neg h];simp only[Lib.signlessC];rw[if_pos (by simp;omega)]
def Mw(l:List UInt8):D:=if decide (ED l<2^63) then .tup [.int .i64 (ED l:Int),.nili] else .tup [.int .i64 9223372036854775807,.ifc 220 .top]
noncomputable def K5:List D->Option D
 | [.str l,.int .i64 b,.int .i64 z]=>if b=10/\z=64/\(∀b∈l,HU b=true)/\1<=l.length/\l.length<=19 then some (Mw l) else none
 | _=>none
theorem A12{c:Cx}{l:List UInt8}{a b:Int}{vs:List Value}(h:Reps c [.str l,.int .i64 a,.int .i64 b] vs):vs=[.string ⟨l.toArray⟩,.int .i64 a,.int .i64 b]:=by
 match vs,h.len with
 | [x,y,z],_ =>
  have h1:=h.rep 0 (by simp) (by simp)
  have h2:=h.rep 1 (by simp) (by simp)
  have h3:=h.rep 2 (by simp) (by simp)
  simp only[A65,A7g] at h1 h2 h3
  cases h1;cases h2;cases h3;rfl
theorem O0(w:World)(t:TypeId)(s:ByteArray):Below (false,w.heap.size) w (Lib.bytesWorld w t s):=Below.of_kit (Lib.bytesWorld_below w t s)
theorem A1E:AQ Tryz.prog 185 K5:=by
 refine Se fun args r h c w vs hg hr=>?_
 unfold K5 at h
 split at h
 ·rename_i l b z
  split at h
  ·rename_i hv
   obtain⟨rfl,rfl,hd,h1,h2⟩:=hv
   injection h with h;subst h
   have e:=A12 hr
   subst e
   obtain⟨i1,i2⟩:=O8 hd h1 h2
   have e50:∀args w,(callFunc 185 args).run Tryz.prog w= .ok (.enter 185 args) w:=enters_of Tryz.func185 (by kernel_rfl) rfl
   refine⟨e50 _ _,?_⟩
   have hsz:(⟨l.toArray⟩:ByteArray).size=l.length:=by simp[ByteArray.size]
   have hdl:(⟨l.toArray⟩:ByteArray).data.toList=l:=by simp
   by_cases hlt:ED l<2^63
   ·rw[if_pos hlt] at i1
    refine(Tryz.parse_ok ⟨l.toArray⟩ (by rw[hsz];omega) (ED l) (by rw[hdl];exact i1) w).mono ?_
    rintro e w' ⟨rfl,hw⟩
    refine⟨_,rfl,?_,?_⟩
    ·unfold Mw;rw[if_pos (by simpa using hlt)]
     refine Rep.tup [.int .i64 (ED l:Int),.nili] [.int .i64 (ED l:Int),.nilIface] rfl fun i h h'=>?_
     match i,h with
     | 0,_=>exact .int _ _
     | 1,_=>exact .nili
    ·rcases hw with rfl|⟨t,rfl⟩
     ·exact Below.refl _ _
     ·exact O0 w 5 t
   ·rw[if_neg hlt] at i1
    obtain⟨_,_,_,te,pe,hev⟩:=hg
    refine(Tryz.parse_range ⟨l.toArray⟩ (by rw[hsz];omega) (by rw[hdl];exact i1) (.iface te pe) w hev (.inr ⟨te,pe,rfl⟩)).mono ?_
    rintro e w' ⟨N,rfl,_,_,hb⟩
    refine⟨_,rfl,?_,Below.of_kit hb⟩
    unfold Mw;rw[if_neg (by simpa using hlt),hdl,i2]
    refine Rep.tup [.int .i64 9223372036854775807,.ifc 220 .top] [.int .i64 (2^63 - 1),.iface 220 (.pointer (some ⟨N,0,none⟩))] rfl fun i h h'=>?_
    match i,h with
    | 0,_=>exact .int _ _
    | 1,_=>exact .ifc _ _ _ (.top _)
  ·cases h
 ·cases h
theorem FD:Ko .ifc .nili .nili=some true:=rfl
theorem FE(t:TypeId)(d:D):Ko .ifc (.ifc t d) .nili=some false:=rfl
def Vj(l:List UInt8)(a n:Nat):Bool:=decide (n<1)||decide (19<n)||(match l[a+n]? with|some b=>yA b.toNat|none=>false)
def HO(l:List UInt8)(a:Nat)(most:Int):Int×Nat :=
 if Vj l a (Cz cU l a)||decide (most<(ED (aH l a (a+Cz cU l a)):Int)) then(0,0) else((ED (aH l a (a+Cz cU l a)):Int),Cz cU l a)
def Gh(p:Int×Nat):D:=.tup [.int .i64 p.1,.int .i64 (p.2:Nat)]
theorem Uj(p:Int×Nat):(Gh p).cl 0 0=true:=by simp[Gh,D.cl,D.clL]
def JF:List D->Option D
 | [.str l,.int .i64 a,.int .i64 most]=>if 0<=a/\a<=l.length/\l.length<=2^60/\most<2^63 then some (Gh (HO l a.toNat most)) else none
 | _=>none
theorem Pb{p:Int->Bool}:∀(l:List UInt8),∀b∈l.take (CS p l),p b.toNat=true
 | [],b,h=>by simp at h
 | c::r,b,h=>by
  unfold CS at h
  simp only[A7p] at h
  split at h
  ·rename_i hc
   simp only[A6R,A66,A6G] at h
   rcases h with rfl|h
   ·exact hc
   ·exact Pb r b h
  ·simp at h
theorem mY(l:List UInt8)(a n:Nat):aH l a (a+n)=(l.drop a).take n:=by
 unfold aH;rw[List.drop_take];congr 1;omega
theorem O6(l:List UInt8)(a:Nat):∀b∈aH l a (a+Cz cU l a),HU b=true:=by
 rw[mY];exact Pb (p:=cU) (l.drop a)
theorem U2{l:List UInt8}{a n:Nat}(h:a+n<=l.length):(aH l a (a+n)).length=n:=by
 rw[mY];simp;omega
theorem ZG:AQ Tryz.prog 149 JF:=by
 refine AN (l:=[(144,Df),(147,φb yA),(185,K5)]) (.cons P9 (.cons SZ (.cons A1E .nil))) Zo fun args r h=>?_
 unfold JF at h
 split at h
 ·rename_i l a most
  split at h
  ·rename_i hc
   obtain⟨ha0,ha,hl,hm⟩:=hc
   injection h with h;subst h
   obtain⟨a,rfl⟩:∃k:Nat,a=(k:Int):=⟨a.toNat,by omega⟩
   have ha:a<=l.length:=by omega
   refine⟨by simp,Uj _,fun H T=>?_⟩
   rw[show((a:Int)).toNat=a from by omega]
   have pr:Df [.str l,.int .i64 (a:Int),.fn 148 [] []]=some (.int .i64 (Cz cU l a:Nat)):=by
    simp only[Df];rw[show JA 148=some cU from rfl];simp only;rw[if_pos ⟨by omega,by omega,by omega⟩];simp
   have hle:=Hr cU l a ha
   have hdg:=O6 l a
   have hsl:=U2 hle
   unfold HO Vj
   obtain⟨n,hn⟩:∃n,Cz cU l a=n:=⟨_,rfl⟩
   rw[hn] at pr hle hdg hsl ⊢
   have wS:IntKind.i64.wrap ((a:Int)+(n:Int))=((a+n:Nat):Int):=by rw[FU (by omega) (by omega)];omega
   by_cases n1:n<1
   ·have d1:decide ((n:Int)<1)=true:=by simp only[decide_eq_true_eq];omega
    rw[if_pos (by simp[n1])]
    simp +contextual only[L9,pr,d1,Gh,go_sem]
   have d1:decide ((n:Int)<1)=false:=by simp only[decide_eq_false_iff_not];omega
   by_cases n2:19<n
   ·have d2:decide ((19:Int)<n)=true:=by simp only[decide_eq_true_eq];omega
    rw[if_pos (by simp[n2])]
    simp +contextual only[L9,pr,d1,d2,Gh,go_sem]
   have d2:decide ((19:Int)<n)=false:=by simp only[decide_eq_false_iff_not];omega
   have pi:K5 [.str (aH l a (a+n)),.int .i64 10,.int .i64 64]=some (Mw (aH l a (a+n))):=by
    simp only[K5];rw[if_pos ⟨trivial,trivial,hdg,by omega,by omega⟩]
   have hs:sub (some (a:Int)) (some ((a+n:Nat):Int)) (.str l)=some (.str (aH l a (a+n))):=by
    rw[Oz,if_pos ⟨by omega,by omega,by omega⟩,show(((a+n:Nat):Int)).toNat=a+n from by omega,show((a:Int)).toNat=a from by omega]
   have last:∀(hb:(match l[a+n]? with|some b=>yA b.toNat|none=>false)=false),(if(decide (n<1)||decide (19<n)||(match l[a+n]? with|some b=>yA b.toNat|none=>false))||decide (most<(ED (aH l a (a+n)):Int)) then((0,0):Int×Nat) else((ED (aH l a (a+n)):Int),n))=if decide (most<(ED (aH l a (a+n)):Int)) then(0,0) else((ED (aH l a (a+n)):Int),n):=fun hb=>by
    rw[hb];simp[n1,n2]
   have big: ¬ED (aH l a (a+n))<2^63->decide (most<(ED (aH l a (a+n)):Int))=true:=fun h=>by simp only[decide_eq_true_eq];omega
   obtain⟨v,hv⟩:∃v,ED (aH l a (a+n))=v:=⟨_,rfl⟩
   unfold Mw at pi
   rw[hv] at pi last big ⊢
   clear hv
   by_cases n3:a+n<l.length
   ·have d3:decide (((a+n:Nat):Int)<l.length)=true:=by simp only[decide_eq_true_eq];omega
    have ex:l[a+n]? =some l[a+n]:=by simp[n3]
    obtain⟨b,hb⟩:∃b,l[a+n]=b:=⟨_,rfl⟩
    rw[hb] at ex
    rw[ex] at last ⊢
    simp only at last ⊢
    have ix:=fun q=>Eu ex q
    have q:φb yA [.int .u8 (b.toNat:Int)]=some (.bool (yA b.toNat)):=rfl
    rcases tf (yA (b.toNat:Int)) with g|g
    ·rw[if_pos (by simp[g])]
     simp +contextual only[L9,pr,d1,d2,wS,d3,ix,q,g,Gh,go_sem]
    ·rw[last g]
     by_cases hlt:v<2^63
     ·rw[if_pos (by simpa using hlt)] at pi
      rcases tf (decide (most<(v:Int))) with g2|g2
      ·rw[g2];simp +contextual only[L9,pr,d1,d2,wS,d3,ix,q,g,hs,pi,FD,FE,g2,Gh,go_sem]
      ·rw[g2];simp +contextual only[L9,pr,d1,d2,wS,d3,ix,q,g,hs,pi,FD,FE,g2,Gh,go_sem]
     ·rw[if_neg (by simpa using hlt)] at pi
      rw[big hlt]
      simp +contextual only[L9,pr,d1,d2,wS,d3,ix,q,g,hs,pi,FD,FE,Gh,go_sem]
   ·have d3:decide (((a+n:Nat):Int)<l.length)=false:=by simp only[decide_eq_false_iff_not];omega
    have ex:l[a+n]? =none:=A6D (by omega)
    rw[ex] at last ⊢
    simp only at last ⊢
    rw[last trivial]
    by_cases hlt:v<2^63
    ·rw[if_pos (by simpa using hlt)] at pi
     rcases tf (decide (most<(v:Int))) with g2|g2
     ·rw[g2];simp +contextual only[L9,pr,d1,d2,wS,d3,hs,pi,FD,FE,g2,Gh,go_sem]
     ·rw[g2];simp +contextual only[L9,pr,d1,d2,wS,d3,hs,pi,FD,FE,g2,Gh,go_sem]
    ·rw[if_neg (by simpa using hlt)] at pi
     rw[big hlt]
     simp +contextual only[L9,pr,d1,d2,wS,d3,hs,pi,FD,FE,Gh,go_sem]
  ·cases h
 ·cases h
end GP
namespace GP
open Go Go.Proofs
set_option maxRecDepth 100000
def mkT(k:Int)(s:List UInt8)(n:Int):D:=.agg [.int .i64 k,.str s,.int .i64 n]
theorem MK{l:List UInt8}{a:Nat}{m:Int}(h:a<=l.length):a+(HO l a m).2<=l.length:=by
 have:=Hr cU l a h
 unfold HO;split
 ·simpa using h
 ·exact this
theorem MJ:∀(n:Nat) (l out:List UInt8) (k:Nat),l.length<=n->(Fk l out k).2<=k+l.length
 | _,[],out,k,_=>by rw[Nq];simp
 | 0,_::_,_,_,h=>by simp at h
 | n+1,c::r,out,k,h=>by
  rw[fX]
  split
  ·simp
  split
  ·cases r with
   | nil=>simp
   | cons d r =>
    simp only
    split
    ·simp
    split
    ·simp
    ·have:=MJ n r (out++[d]) (k+2) (by simp at h ⊢;omega)
     simp only[A6R] at this ⊢;omega
  split
  ·simp
  split
  ·simp
  ·have:=MJ n r (out++[c]) (k+1) (by simp at h;omega)
   simp only[A6R] at this ⊢;omega
theorem U9{l:List UInt8}{a:Nat}(h:a<l.length):a+(MM l a).2<=l.length:=by
 have:=MJ _ (l.drop (a+1)) [] 1 (A6K _)
 unfold MM;simp only[A7y] at this;omega
def Iy(l:List UInt8)(a:Nat):D×Nat:=match lB.find? (F9 (l.drop a)) with
 | some x=>(mkT 5 x 0,x.length)
 | none=>(mkT 0 [] 0,0)
def Np(c:UInt8)(l:List UInt8)(a:Nat):D×Nat :=
 if decide ((97:Int)<=c.toNat)&&decide ((c.toNat:Int)<=122) then(if decide ((64:Int)<(Cz BM l a:Nat)) then(mkT 0 [] 0,0) else(mkT 1 (aH l a (a+Cz BM l a)) 0,Cz BM l a))
 else if cU c.toNat then(mkT 2 [] (HO l a 9223372036854775807).1,(HO l a 9223372036854775807).2)
 else if c==64 then(if((HO l (a+1) 1099511627776).2:Int)==0 then(mkT 0 [] 0,0) else(mkT 4 [] (HO l (a+1) 1099511627776).1,(HO l (a+1) 1099511627776).2+1))
 else if c==34 then(mkT 3 (MM l a).1 0,(MM l a).2)
 else Iy l a
def H9(l:List UInt8)(a:Nat):D×Nat:=match l[a]? with
 | some c=>Np c l a
 | none=>(mkT 0 [] 0,0)
def Fg(d:D):Prop:=∃k s n,d=mkT k s n
theorem SD(c:UInt8)(l:List UInt8)(a:Nat):Fg (Np c l a).1:=by
 unfold Np Iy
 repeat' split
 all_goals exact⟨_,_,_,rfl⟩
def FB(p:D×Nat):D:=.tup [p.1,.int .i64 (p.2:Nat)]
theorem To{p:D×Nat}(h:Fg p.1):(FB p).cl 0 0=true:=by
 obtain⟨k,s,n,e⟩:=h
 simp[FB,e,mkT,D.cl,D.clL]
theorem Sq{l p:List UInt8}(h:F9 l p=true):p.length<=l.length:=by
 unfold F9 at h
 have h:l.take p.length=p:=by simpa using h
 have:=congrArg List.length h
 simp at this;omega
theorem Tw{c:UInt8}{l:List UInt8}{a:Nat}(h:a<l.length):a+(Np c l a).2<=l.length:=by
 have h1:=Hr BM l a (by omega)
 have h2:=MK (l:=l) (a:=a) (m:=9223372036854775807) (by omega)
 have h3:=MK (l:=l) (a:=a+1) (m:=1099511627776) (by omega)
 have h4:=U9 h
 unfold Np
 split
 ·split
  ·simp;omega
  ·exact h1
 split
 ·exact h2
 split
 ·split
  ·simp;omega
  ·simp only;omega
 split
 ·exact h4
 ·unfold Iy
  split
  ·rename_i x hx
   have:=Sq (List.find?_some hx)
   simp only[A7y] at this ⊢;omega
  ·simp;omega
theorem wZ{l:List UInt8}{a:Nat}(h:a<l.length):H9 l a=Np l[a] l a:=by
 unfold H9;rw[A6A h]
def NR:List D->Option D
 | [.str l,.int .i64 a]=>if 0<=a/\a<l.length/\l.length<=2^60 then some (FB (H9 l a.toNat)) else none
 | _=>none
theorem PN{j:Nat}(h:j<18):∃x,(lB.map D.str)[j]? =some (.str x)/\lB[j]? =some x:=by
 have hl:j<lB.length:=h
 exact⟨lB[j],by simp[hl],by simp[hl]⟩
theorem PR{α:Type}{p:α->Bool}{xs:List α}{i:Nat}{x:α}(hx:xs[i]? =some x)(h:(xs.take i).find? p=none)(hp:p x=false):(xs.take (i+1)).find? p=none:=by
 rw[A6S,hx];simp[h,hp]
theorem Nr{α:Type}{p:α->Bool}{xs:List α}{i:Nat}{x:α}(hx:xs[i]? =some x)(h:(xs.take i).find? p=none)(hp:p x=true):xs.find? p=some x:=by
 have hi:i<xs.length:=by
  rcases A6L i xs.length with h'|h'
  ·exact h'
  ·rw[A6D h'] at hx;cases hx
 have e:xs=xs.take i++x::xs.drop (i+1):=by
  have:x=xs[i]:=by simpa[hi] using hx.symm
  subst this
  simp
 rw[e,A7v,h]
 simp[hp]
theorem A3D:AQ Tryz.prog 92 NR:=by
 refine AN (l:=[(144,Df),(148,φb cU),(149,JF),(150,Ik),(151,FV),(152,Gu)]) (.cons P9 (.cons Pf (.cons ZG (.cons Yb (.cons VF (.cons YN .nil)))))) A4x fun args r h=>?_
 unfold NR at h
 split at h
 ·rename_i l a
  split at h
  ·rename_i hc
   obtain⟨ha0,ha,hl⟩:=hc
   injection h with h;subst h
   obtain⟨a,rfl⟩:∃k:Nat,a=(k:Int):=⟨a.toNat,by omega⟩
   have ha:a<l.length:=by omega
   rw[show((a:Int)).toNat=a from by omega,wZ ha]
   refine⟨by simp,To (SD _ _ _),fun H T=>?_⟩
   have ex:l[a]? =some l[a]:=by simp[ha]
   obtain⟨c,hb⟩:∃b,l[a]=b:=⟨_,rfl⟩
   rw[hb] at ex ⊢
   have ix:=fun q=>Eu ex q
   have pr:Df [.str l,.int .i64 (a:Int),.fn 146 [] []]=some (.int .i64 (Cz BM l a:Nat)):=by
    simp only[Df];rw[show JA 146=some BM from rfl];simp only;rw[if_pos ⟨by omega,by omega,by omega⟩];simp
   have hle:=Hr BM l a (by omega)
   have e1:((c.toNat:Int)==64)=(c==64):=GN c 64 (by decide)
   have e2:((c.toNat:Int)==34)=(c==34):=GN c 34 (by decide)
   unfold Np
   have lets:∀{X:D×Nat},True:=trivial
   rcases tf (decide ((97:Int)<=c.toNat)&&decide ((c.toNat:Int)<=122)) with g|g
   ·rw[if_pos g]
    simp only[A6H] at g
    obtain⟨g1,g2⟩:=g
    obtain⟨n,hn⟩:∃n,Cz BM l a=n:=⟨_,rfl⟩
    rw[hn] at pr hle ⊢
    rcases tf (decide ((64:Int)<(n:Nat))) with g3|g3
    ·rw[if_pos g3]
     simp +contextual only[c92,ix,g1,g2,pr,g3,FB,mkT,go_sem]
    ·rw[if_neg (by rw[g3];decide)]
     have wS:IntKind.i64.wrap ((a:Int)+(n:Int))=((a+n:Nat):Int):=by rw[FU (by omega) (by omega)];omega
     have hs:sub (some (a:Int)) (some ((a+n:Nat):Int)) (.str l)=some (.str (aH l a (a+n))):=by
      rw[Oz,if_pos ⟨by omega,by omega,by omega⟩,show(((a+n:Nat):Int)).toNat=a+n from by omega,show((a:Int)).toNat=a from by omega]
     simp +contextual only[c92,ix,g1,g2,pr,g3,wS,hs,FB,mkT,go_sem]
   rw[if_neg (by rw[g];decide)]
   have pd:φb cU [.int .u8 (c.toNat:Int)]=some (.bool (cU c.toNat)):=rfl
   have G:(decide ((97:Int)<=c.toNat)=true/\decide ((c.toNat:Int)<=122)=false)∨decide ((97:Int)<=c.toNat)=false:=by
    rcases tf (decide ((97:Int)<=c.toNat)) with h|h
    ·rw[h] at g;exact .inl ⟨h,by simpa using g⟩
    ·exact .inr h
   rcases tf (cU (c.toNat:Int)) with g3|g3
   ·rw[if_pos g3]
    have pn:JF [.str l,.int .i64 (a:Int),.int .i64 9223372036854775807]=some (Gh (HO l a 9223372036854775807)):=by
     simp only[JF];rw[if_pos ⟨by omega,by omega,by omega,by decide⟩];simp
    obtain⟨⟨v,n⟩,hn⟩:∃z,HO l a 9223372036854775807=z:=⟨_,rfl⟩
    simp only[hn,Gh] at pn ⊢
    rcases G with⟨g1,g2⟩|g1
    ·simp +contextual only[c92,ix,g1,g2,pd,g3,pn,FB,mkT,go_sem]
    ·simp +contextual only[c92,ix,g1,pd,g3,pn,FB,mkT,go_sem]
   rw[if_neg (by rw[g3];decide)]
   rcases tf (c==64) with g4|g4
   ·rw[if_pos g4]
    have pn:JF [.str l,.int .i64 ((a+1:Nat):Int),.int .i64 1099511627776]=some (Gh (HO l (a+1) 1099511627776)):=by
     simp only[JF];rw[if_pos ⟨by omega,by omega,by omega,by decide⟩,show(((a+1:Nat):Int)).toNat=a+1 from by omega]
    have nle:=MK (l:=l) (a:=a+1) (m:=1099511627776) (by omega)
    have wa:=Bw a (by omega)
    obtain⟨⟨v,n⟩,hn⟩:∃z,HO l (a+1) 1099511627776=z:=⟨_,rfl⟩
    simp only[hn,Gh] at pn nle ⊢
    have wn:=Bw n (by omega)
    rcases tf ((n:Int)==0) with g5|g5
    ·rw[if_pos g5]
     rcases G with⟨g1,g2⟩|g1
     ·simp +contextual only[c92,ix,g1,g2,pd,g3,e1,g4,wa,pn,g5,FB,mkT,go_sem]
     ·simp +contextual only[c92,ix,g1,pd,g3,e1,g4,wa,pn,g5,FB,mkT,go_sem]
    ·rw[if_neg (by rw[g5];decide)]
     rcases G with⟨g1,g2⟩|g1
     ·simp +contextual only[c92,ix,g1,g2,pd,g3,e1,g4,wa,pn,g5,wn,FB,mkT,go_sem]
     ·simp +contextual only[c92,ix,g1,pd,g3,e1,g4,wa,pn,g5,wn,FB,mkT,go_sem]
   rw[if_neg (by rw[g4];decide)]
   rcases tf (c==34) with g5|g5
   ·rw[if_pos g5]
    have pt:Ik [.str l,.int .i64 (a:Int)]=some (Hz (MM l a)):=by
     simp only[Ik];rw[if_pos ⟨by omega,by omega,by omega⟩];simp
    obtain⟨⟨v,n⟩,hn⟩:∃z,MM l a=z:=⟨_,rfl⟩
    simp only[hn,Hz] at pt ⊢
    rcases G with⟨g1,g2⟩|g1
    ·simp +contextual only[c92,ix,g1,g2,pd,g3,e1,g4,e2,g5,pt,FB,mkT,go_sem]
    ·simp +contextual only[c92,ix,g1,pd,g3,e1,g4,e2,g5,pt,FB,mkT,go_sem]
   rw[if_neg (by rw[g5];decide)]
   have ps:FV []=some (.sl none (lB.map .str)):=rfl
   have eS:D.eraseL (lB.map D.str)=lB.map D.str:=rfl
   have lS:(lB.map D.str).length=18:=rfl
   have hs:sub (some (a:Int)) (some (l.length:Int)) (.str l)=some (.str (l.drop a)):=by
    rw[Oz,if_pos ⟨by omega,by omega,by omega⟩];simp[aH]
   have G':W (XL [(144,Df),(148,φb cU),(149,JF),(150,Ik),(151,FV),(152,Gu)]) c92 (Ds [.inr (4,true,3),.inl 5] (CL (FB (Iy l a)) H T)) ⟨Ae [.str l,.int .i64 (a:Int)],H,T⟩:=by
    obtain⟨SB,hSB⟩:∃z,lB.map D.str=z:=⟨_,rfl⟩
    rw[hSB] at ps eS lS
    rcases G with⟨g1,g2⟩|g1
    ·simp +contextual only[c92,ix,g1,g2,pd,g3,e1,g4,e2,g5,ps,eS,lS,go_sem]
     refine Ap (fun j s'=>s'.t 0= .str l/\s'.t 1= .int .i64 a/\s'.t 4= .ptr H.length 0/\s'.t 81= .sl none SB/\s'.t 82= .int .i64 18/\s'.t 83= .int .i64 (j:Nat)/\s'.H=H++[.row [.int .i64 0,.str [],.int .i64 0]]/\s'.T=T/\j<=18/\(lB.take j).find? (F9 (l.drop a))=none) 18 ⟨0,by simp[upd,Ae]⟩ (fun i s h=>h.2.2.2.2.2.2.2.2.1) ?_ (AR _)
     rintro j ⟨t,B,T'⟩ ⟨r0,r1,r4,r81,r82,r83,rfl,rfl,hj,hc⟩
     simp only at r0 r1 r4 r81 r82 r83
     by_cases hlt:j<18
     ·have d1:decide (((j:Nat):Int)<18)=true:=by simp only[decide_eq_true_eq];omega
      obtain⟨x,f1,f2⟩:=PN hlt
      rw[hSB] at f1
      have pp:Gu [.str (l.drop a),.str x]=some (.bool (F9 (l.drop a) x)):=rfl
      have nx:=fun hp=>PR (p:=F9 (l.drop a)) f2 hc hp
      have at':=fun hp=>Nr (p:=F9 (l.drop a)) f2 hc hp
      rcases tf (F9 (l.drop a) x) with q|q
      ·have hT:Iy l a=(mkT 5 x 0,x.length):=by unfold Iy;rw[at' q]
       rw[hT]
       simp +contextual only[r0,r1,r4,r81,r82,r83,d1,f1,hs,pp,q,FB,mkT,go_sem]
      ·have nx:=nx q
       simp +contextual only[r0,r1,r4,r81,r82,r83,d1,f1,hs,pp,q,Bw j (by omega),go_sem]
       exact⟨by omega,nx⟩
     ·have d1:decide (((j:Nat):Int)<18)=false:=by simp only[decide_eq_false_iff_not];omega
      have hT:Iy l a=(mkT 0 [] 0,0):=by
       have:j=lB.length:=by show j=18;omega
       subst this;rw[A6U] at hc
       unfold Iy;rw[hc]
      rw[hT]
      simp +contextual only[r0,r1,r4,r81,r82,r83,d1,FB,mkT,go_sem]
    ·simp +contextual only[c92,ix,g1,pd,g3,e1,g4,e2,g5,ps,eS,lS,go_sem]
     refine Ap (fun j s'=>s'.t 0= .str l/\s'.t 1= .int .i64 a/\s'.t 4= .ptr H.length 0/\s'.t 81= .sl none SB/\s'.t 82= .int .i64 18/\s'.t 83= .int .i64 (j:Nat)/\s'.H=H++[.row [.int .i64 0,.str [],.int .i64 0]]/\s'.T=T/\j<=18/\(lB.take j).find? (F9 (l.drop a))=none) 18 ⟨0,by simp[upd,Ae]⟩ (fun i s h=>h.2.2.2.2.2.2.2.2.1) ?_ (AR _)
     rintro j ⟨t,B,T'⟩ ⟨r0,r1,r4,r81,r82,r83,rfl,rfl,hj,hc⟩
     simp only at r0 r1 r4 r81 r82 r83
     by_cases hlt:j<18
     ·have d1:decide (((j:Nat):Int)<18)=true:=by simp only[decide_eq_true_eq];omega
      obtain⟨x,f1,f2⟩:=PN hlt
      rw[hSB] at f1
      have pp:Gu [.str (l.drop a),.str x]=some (.bool (F9 (l.drop a) x)):=rfl
      have nx:=fun hp=>PR (p:=F9 (l.drop a)) f2 hc hp
      have at':=fun hp=>Nr (p:=F9 (l.drop a)) f2 hc hp
      rcases tf (F9 (l.drop a) x) with q|q
      ·have hT:Iy l a=(mkT 5 x 0,x.length):=by unfold Iy;rw[at' q]
       rw[hT]
       simp +contextual only[r0,r1,r4,r81,r82,r83,d1,f1,hs,pp,q,FB,mkT,go_sem]
      ·have nx:=nx q
       simp +contextual only[r0,r1,r4,r81,r82,r83,d1,f1,hs,pp,q,Bw j (by omega),go_sem]
       exact⟨by omega,nx⟩
     ·have d1:decide (((j:Nat):Int)<18)=false:=by simp only[decide_eq_false_iff_not];omega
      have hT:Iy l a=(mkT 0 [] 0,0):=by
       have:j=lB.length:=by show j=18;omega
       subst this;rw[A6U] at hc
       unfold Iy;rw[hc]
      rw[hT]
      simp +contextual only[r0,r1,r4,r81,r82,r83,d1,FB,mkT,go_sem]
   exact G'
  ·cases h
 ·cases h
def Oe(sz:Nat)(T:Tk)(xs:List D)(d:D)(T':Tk):Prop:=(xs=[]/\d= .nils/\T'=T)∨(xs≠[]/\∃L i,T'=T++L/\d= .sl (some (T.length+i)) xs/\L[i]? =some (some (xs.length,sz)))
theorem Mv{sz bytes:Nat}{K:D->S->Prop}{t:Nat->D}{H:Hp}{T T':Tk}{xs:List D}{d:D}(x:D)(h:Oe sz T xs d T')(hx:fit sz x=true)(hxs:xs.all (fit sz)=true)(hb:(xs.length+1)*bytes<=2^47)(hb2:xs.length+1<2^62)
  (k:∀d2 T2,Oe sz T (xs++[x]) d2 T2->K d2 ⟨t,H,T2⟩):Eb sz bytes K ⟨t,H,T'++[some (1,sz)]⟩ d (some [x]):=by
 rcases h with⟨rfl,rfl,rfl⟩|⟨h0,L,i,rfl,rfl,hL⟩
 ·rw[HN]
  refine⟨by simp[hx],by simpa using hb,by simp,k _ _ (.inr ⟨by simp,[some (1,sz),some (1,sz)],1,?_,?_,rfl⟩)⟩
  ·simp
  ·simp
 ·have hi:i<L.length:=by
   rcases A6L i L.length with h|h
   ·exact h
   ·rw[A6D h] at hL;cases hL
  rw[List.append_assoc,BZ]
  refine⟨by simp[hx],?_,by simpa using hb,by simpa using hb2,hxs,k _ _ (.inr ⟨by simp,_,i,rfl,rfl,?_⟩)⟩
  ·rw[A6Z hi,hL]
  ·rw[A6F (by simp;omega)];simp
theorem I5{sz:Nat}{T:Tk}{xs:List D}{d:D}{T':Tk}(h:Oe sz T xs d T'):AY T T':=by
 rcases h with⟨_,_,rfl⟩|⟨_,L,_,rfl,_⟩
 ·exact AY.refl _
 ·exact AY.of T L
theorem SR{sz:Nat}{T:Tk}{xs:List D}{d:D}{T':Tk}(h:Oe sz T xs d T'):C2 d=some xs.length:=by
 rcases h with⟨rfl,rfl,_⟩|⟨_,L,i,_,rfl,_⟩<;>rfl
theorem Kg{sz:Nat}{T:Tk}{xs:List D}{d:D}{T':Tk}(h:Oe sz T xs d T')(he:D.eraseL xs=xs):d.erase=aV true xs:=by
 rcases h with⟨rfl,rfl,_⟩|⟨h0,L,i,_,rfl,_⟩
 ·rfl
 ·have:xs.isEmpty=false:=by cases xs with
   | nil=>exact(h0 rfl).elim
   | cons=>rfl
  simp[aV,this,D.erase,he]
theorem N0{d:D}(h:Fg d):d.erase=d:=by obtain⟨k,s,n,rfl⟩:=h;simp[mkT,D.erase,D.eraseL]
theorem OQ{xs:List D}(h:∀x∈xs,Fg x):D.eraseL xs=xs:=bF fun x hx=>N0 (h x hx)
theorem RB{xs:List D}(h:∀x∈xs,Fg x):xs.all (fit 3)=true:=A6B.2 fun x hx=>by obtain⟨k,s,n,rfl⟩:=h x hx;rfl
theorem Tz{xs:List D}(h:∀x∈xs,Fg x):(aV true xs).cl 0 0=true:=by
 have e:D.clL 0 0 xs=true:=by
  induction xs with
  | nil=>rfl
  | cons x xs ih =>
   obtain⟨k,s,n,rfl⟩:=h x (by simp)
   simp only[D.clL,mkT,D.cl,A7G,A62]
   exact ih fun y hy=>h y (by simp[hy])
 rcases kM true xs with⟨e1,rfl⟩|e1<;>rw[e1]
 ·rfl
 ·simp[D.cl,e]
def Kw:Nat->List UInt8->Nat->List D->List D×Nat×Int
 | 0,_,_,_=>([],0,99)
 | f+1,l,a,out=>if decide (l.length<=a) then(out,0,0) else if(((H9 l a).2:Nat):Int)==0 then([],a,2) else
  if((out.length:Nat):Int)==600 then([],a,13) else Kw f l (CF l (a+(H9 l a).2)) (out++[(H9 l a).1])
def CJ(l:List UInt8):List D×Nat×Int:=if decide (4096<l.length) then([],0,3) else Kw (l.length+1) l (CF l 0) []
def L6(p:List D×Nat×Int):D:=.tup [aV true p.1,.int .i64 (p.2.1:Nat),.int .i64 p.2.2]
theorem SA(l:List UInt8)(a:Nat):Fg (H9 l a).1:=by
 unfold H9;split
 ·exact SD _ _ _
 ·exact⟨_,_,_,rfl⟩
theorem R5:∀(f:Nat) (l:List UInt8) (a:Nat) (out:List D),(∀x∈out,Fg x)->∀x∈(Kw f l a out).1,Fg x
 | 0,_,_,_,_=>by simp[Kw]
 | f+1,l,a,out,h=>by
  unfold Kw
  split
  ·exact h
  split
  ·simp
  split
  ·simp
  ·exact R5 f l _ _ fun x hx=>by
    rcases A7B.1 hx with hx|hx
    ·exact h x hx
    ·rw[A7q] at hx;subst hx;exact SA l a
theorem WC(l:List UInt8):∀x∈(CJ l).1,Fg x:=by
 unfold CJ;split
 ·simp
 ·exact R5 _ _ _ _ (by simp)
theorem TI{p:List D×Nat×Int}(h:∀x∈p.1,Fg x):(L6 p).cl 0 0=true:=by
 simp[L6,D.cl,D.clL,Tz h]
def NE:List D->Option D
 | [.str l]=>if l.length<=2^60 then some (L6 (CJ l)) else none
 | _=>none
theorem cC(f:Nat)(l:List UInt8)(a:Nat)(out:List D):Kw (f+1) l a out=if decide (l.length<=a) then(out,0,0) else if(((H9 l a).2:Nat):Int)==0 then([],a,2) else
  if((out.length:Nat):Int)==600 then([],a,13) else Kw f l (CF l (a+(H9 l a).2)) (out++[(H9 l a).1]):=rfl
theorem A36:AQ Tryz.prog 40 NE:=by
 refine AN (l:=[(91,J2),(92,NR)]) (.cons A31 (.cons A3D .nil)) A4n fun args r h=>?_
 unfold NE at h
 split at h
 ·rename_i l
  split at h
  ·rename_i hl
   injection h with h;subst h
   refine⟨by simp,TI (WC l),fun H T=>?_⟩
   unfold CJ
   rcases tf (decide (4096<l.length)) with g|g
   ·rw[if_pos g]
    have g':decide ((4096:Int)<l.length)=true:=by simp only[decide_eq_true_eq] at g ⊢;omega
    simp +contextual only[c40,g',L6,go_sem]
    rfl
   rw[if_neg (by rw[g];decide)]
   have g':decide ((4096:Int)<l.length)=false:=by simp only[decide_eq_false_iff_not] at g ⊢;omega
   have pb:∀a:Nat,a<=l.length->J2 [.str l,.int .i64 (a:Int)]=some (.int .i64 (CF l a:Nat)):=fun a ha=>by
    simp only[J2];rw[if_pos ⟨by omega,by omega,by omega⟩];simp
   have b0:=gH (l:=l) (a:=0) (by omega)
   have pb0:J2 [.str l,.int .i64 0]=some (.int .i64 (CF l 0:Nat)):=pb 0 (by omega)
   simp +contextual only[c40,g',pb0,go_sem]
   refine Ap (fun i s'=>s'.t 0= .str l/\Ext H s'.H/\∃(a f:Nat) (out:List D),s'.t 6= .int .i64 (a:Int)/\i<=a/\a<=l.length/\l.length<a+f/\out.length<=600/\(∀x∈out,Fg x)/\Oe 3 T out (s'.t 5) s'.T/\Kw f l a out=Kw (l.length+1) l (CF l 0) []) l.length ⟨0,rfl,Ext.refl H,CF l 0,l.length+1,[],rfl,by omega,by omega,by omega,by simp,by simp,.inl ⟨rfl,rfl,rfl⟩,rfl⟩ (fun i s h=>by obtain⟨_,_,a,f,out,h⟩:=h;omega) ?_ (AR _)
   rintro i ⟨t,B,T'⟩ ⟨r0,hE,a,f,out,r6,h1,h2,h3,h4,hT,hA,hS⟩
   simp only at r0 hE r6 hA
   rw[<- hS]
   have hX:=I5 hA
   have hlen:=SR hA
   have her:=Kg hA (OQ hT)
   cases f with
   | zero=>exfalso;omega
   | succ f =>
   rw[cC] at hS ⊢
   by_cases hlt:a<l.length
   ·have d1:decide ((a:Int)<l.length)=true:=by simp only[decide_eq_true_eq];omega
    have d0:decide (l.length<=a)=false:=by simp only[decide_eq_false_iff_not];omega
    rw[if_neg (by rw[d0];decide)] at hS ⊢
    have pt:NR [.str l,.int .i64 (a:Int)]=some (FB (H9 l a)):=by
     simp only[NR];rw[if_pos ⟨by omega,by omega,by omega⟩];simp
    have hn:a+(H9 l a).2<=l.length:=by rw[wZ hlt];exact Tw hlt
    have hTk:=SA l a
    obtain⟨⟨tk,n⟩,hq⟩:∃z,H9 l a=z:=⟨_,rfl⟩
    simp only[hq,FB] at pt hn hTk hS ⊢
    obtain⟨k,s,m,rfl⟩:=hTk
    rcases tf ((n:Int)==0) with g1|g1
    ·rw[if_pos g1]
     simp only[mkT] at pt
     simp +contextual only[r0,r6,d1,pt,g1,AS hE hX,L6,go_sem]
     rfl
    rw[if_neg (by rw[g1];decide)] at hS ⊢
    have n0:0<n:=by
     rcases Nat.eq_zero_or_pos n with h|h
     ·subst h;simp at g1
     ·exact h
    rcases tf ((out.length:Int)==600) with g2|g2
    ·rw[if_pos g2]
     simp only[mkT] at pt
     simp +contextual only[r0,r6,d1,pt,g1,hlen,g2,AS hE hX,L6,go_sem]
     rfl
    rw[if_neg (by rw[g2];decide)] at hS ⊢
    have n6:out.length≠600:=by
     intro h;rw[h] at g2;simp at g2
    have wS:IntKind.i64.wrap ((a:Int)+(n:Int))=((a+n:Nat):Int):=by rw[FU (by omega) (by omega)];omega
    have pb1:=pb (a+n) hn
    have hb1:=gH hn
    simp only[mkT] at pt
    simp +contextual only[r0,r6,d1,pt,g1,hlen,g2,go_sem]
    refine Mv (mkT k s m) hA rfl (RB hT) (by omega) (by omega) fun d2 T2 hA2=>?_
    simp +contextual only[r0,r6,wS,pb1,hE.ta,go_sem]
    refine⟨CF l (a+n),f,out++[mkT k s m],rfl,by omega,by omega,by omega,by simp;omega,?_,hA2,?_⟩
    ·intro x hx
     rcases A7B.1 hx with hx|hx
     ·exact hT x hx
     ·rw[A7q] at hx;subst hx;exact⟨_,_,_,rfl⟩
    ·rfl
   ·have d1:decide ((a:Int)<l.length)=false:=by simp only[decide_eq_false_iff_not];omega
    have d0:decide (l.length<=a)=true:=by simp only[decide_eq_true_eq];omega
    rw[if_pos d0]
    simp +contextual only[r0,r6,d1,Ad hE hX,her,L6,go_sem]
  ·cases h
 ·cases h
def EU(n:Int):Bool:=decide (97<=n)&&decide (n<=122)
theorem sB(n:Int):BM n=(EU n||n==95||cU n):=rfl
theorem Xo:AQ Tryz.prog 162 (φb EU):=by
 refine AN (l:=[]) .nil Xb fun args r h=>?_
 unfold φb at h
 split at h
 ·rename_i n
  injection h with h;subst h
  refine⟨by simp,by simp[D.cl],fun H T=>?_⟩
  unfold EU
  rcases tf (decide (97<=n)) with h1|h1<;>simp +contextual only[XH,h1,go_sem]
 ·cases h
theorem A1g:AQ Tryz.prog 163 (φb cU):=by
 refine AN (l:=[]) .nil A1K fun args r h=>?_
 unfold φb at h
 split at h
 ·rename_i n
  injection h with h;subst h
  refine⟨by simp,by simp[D.cl],fun H T=>?_⟩
  unfold cU
  rcases tf (decide (48<=n)) with h1|h1<;>simp +contextual only[YR,h1,go_sem]
 ·cases h
def pP:List (List UInt8):=[[123],[125],[40],[41],[91],[93],[59],[46],[44],[43],[45],[42],[60],[62],[61,61],[33,61],[60,61],[62,61]]
def HS:List D->Option D
 | []=>some (.sl none (pP.map .str))
 | _=>none
theorem Y0:AQ Tryz.prog 173 HS:=by
 refine AN (l:=[]) .nil Yj fun args r h=>?_
 unfold HS at h
 split at h
 ·injection h with h;subst h
  refine⟨by simp,by decide,fun H T=>?_⟩
  simp +contextual only[Yr,go_sem]
  rfl
 ·cases h
def bG(s:List UInt8):Bool:=pP.any (fun x=>x==s)
def Mb:List D->Option D
 | [.str s]=>some (.bool (bG s))
 | _=>none
theorem O3{α:Type}{p:α->Bool}{xs:List α}{i:Nat}{x:α}(hx:xs[i]? =some x)(h:(xs.take i).any p=false)(hp:p x=false):(xs.take (i+1)).any p=false:=by
 rw[A6S,hx];simp[h,hp]
theorem Um{α:Type}{p:α->Bool}{xs:List α}{i:Nat}{x:α}(hx:xs[i]? =some x)(hp:p x=true):xs.any p=true:=A7e.2 ⟨x,A6C hx,hp⟩
theorem A0H:AQ Tryz.prog 110 Mb:=by
 refine AN (l:=[(173,HS)]) (.cons Y0 .nil) Yd fun args r h=>?_
 unfold Mb at h
 split at h
 ·rename_i s
  injection h with h;subst h
  refine⟨by simp,by simp[D.cl],fun H T=>?_⟩
  have ps:HS []=some (.sl none (pP.map .str)):=rfl
  have eS:D.eraseL (pP.map D.str)=pP.map D.str:=rfl
  have lS:(pP.map D.str).length=18:=rfl
  have get:∀j,j<18->∃x,(pP.map D.str)[j]? =some (.str x)/\pP[j]? =some x:=fun j h=>by
   have hl:j<pP.length:=h
   exact⟨pP[j],by simp[hl],by simp[hl]⟩
  obtain⟨SB,hSB⟩:∃z,pP.map D.str=z:=⟨_,rfl⟩
  rw[hSB] at ps eS lS get
  simp +contextual only[YU,ps,eS,go_sem]
  refine Ap (fun j s'=>s'.t 0= .str s/\s'.t 3= .sl none SB/\s'.t 4= .int .i64 (j:Nat)/\s'.H=H/\s'.T=T/\j<=18/\(pP.take j).any (fun x=>x==s)=false) 18 ⟨0,by simp[upd,Ae]⟩ (fun i s h=>h.2.2.2.2.2.1) ?_ (AR _)
  rintro j ⟨t,B,T'⟩ ⟨r0,r3,r4,rfl,rfl,hj,hc⟩
  simp only at r0 r3 r4
  by_cases hlt:j<18
  ·have d1:decide (((j:Nat):Int)<SB.length)=true:=by rw[lS];simp only[decide_eq_true_eq];omega
   obtain⟨x,f1,f2⟩:=get j hlt
   rcases tf (x==s) with q|q
   ·have hT:bG s=true:=Um (p:=fun x=>x==s) f2 q
    rw[hT]
    simp +contextual only[r0,r3,r4,d1,f1,q,go_sem]
   ·have nx:=O3 (p:=fun x=>x==s) f2 hc q
    simp +contextual only[r0,r3,r4,d1,f1,q,Bw j (by omega),go_sem]
    exact⟨by omega,nx⟩
  ·have d1:decide (((j:Nat):Int)<SB.length)=false:=by rw[lS];simp only[decide_eq_false_iff_not];omega
   have hT:bG s=false:=by
    have:j=pP.length:=by show j=18;omega
    subst this;rw[A6U] at hc
    exact hc
   rw[hT]
   simp +contextual only[r0,r3,r4,d1,go_sem]
 ·cases h
def Bp(s:List UInt8):Bool:=match s with
 | []=>false
 | c::r=>EU c.toNat&&r.all (fun b=>BM b.toNat)&&decide ((s.length:Int)<=64)
def Gr(j:Nat)(b:UInt8):Bool:=if j=0 then EU b.toNat else BM b.toNat
theorem Rl{s:List UInt8}{j:Nat}{b:UInt8}(h:s[j]? =some b)(hb:Gr j b=false):Bp s=false:=by
 cases s with
 | nil=>rfl
 | cons c r =>
  cases j with
  | zero =>
   simp at h;subst h
   have hb:EU (c.toNat:Int)=false:=hb
   simp[Bp,hb]
  | succ j =>
   have h:r[j]? =some b:=by simpa using h
   have hb:BM (b.toNat:Int)=false:=hb
   have:r.all (fun b=>BM b.toNat)=false:=A7w.2 ⟨b,A6C h,by simp[hb]⟩
   simp[Bp,this]
theorem QB{s:List UInt8}(h:∀j b,s[j]? =some b->Gr j b=true):Bp s=(decide ((0:Int)<s.length)&&decide ((s.length:Int)<=64)):=by
 cases s with
 | nil=>rfl
 | cons c r =>
  have h0:EU (c.toNat:Int)=true:=h 0 c rfl
  have h1:r.all (fun b=>BM b.toNat)=true:=A6B.2 fun b hb=>by
   obtain⟨j,hj⟩:=List.getElem?_of_mem hb
   exact h (j+1) b (by simpa using hj)
  have:decide ((0:Int)<((c::r).length:Nat))=true:=by simp
  rw[this];simp only[Bp,h0,h1,A62]
def L0:List D->Option D
 | [.str s]=>if s.length<=2^60 then some (.bool (Bp s)) else none
 | _=>none
theorem A1F:AQ Tryz.prog 109 L0:=by
 refine AN (l:=[(162,φb EU),(163,φb cU)]) (.cons Xo (.cons A1g .nil)) Xr fun args r h=>?_
 unfold L0 at h
 split at h
 ·rename_i s
  split at h
  ·rename_i hl
   injection h with h;subst h
   refine⟨by simp,by simp[D.cl],fun H T=>?_⟩
   simp +contextual only[A00,go_sem]
   refine Ap (fun i s'=>s'.t 0= .str s/\s'.t 3= .int .i64 (i:Nat)/\s'.H=H/\s'.T=T/\i<=s.length/\∀j b,j<i->s[j]? =some b->Gr j b=true) s.length ⟨0,by simp[upd,Ae]⟩ (fun i s h=>h.2.2.2.2.1) ?_ (AR _)
   rintro i ⟨t,B,T'⟩ ⟨r0,r3,rfl,rfl,hi,hc⟩
   simp only at r0 r3
   by_cases hlt:i<s.length
   ·have d1:decide (((i:Nat):Int)<s.length)=true:=by simp only[decide_eq_true_eq];omega
    have ex:s[i]? =some s[i]:=by simp[hlt]
    obtain⟨b,hb⟩:∃b,s[i]=b:=⟨_,rfl⟩
    rw[hb] at ex
    have ix:=fun q=>Eu ex q
    have no:=fun hp=>Rl ex hp
    have nx:Gr i b=true->∀j b,j<i+1->s[j]? =some b->Gr j b=true:=fun hp j c hj hc'=>by
     rcases A6L j i with h'|h'
     ·exact hc j c h' hc'
     ·have:j=i:=by omega
      subst this;rw[ex] at hc';injection hc' with hc';subst hc';exact hp
    have q1:φb EU [.int .u8 (b.toNat:Int)]=some (.bool (EU b.toNat)):=rfl
    have q2:φb cU [.int .u8 (b.toNat:Int)]=some (.bool (cU b.toNat)):=rfl
    rcases tf (EU (b.toNat:Int)) with g1|g1
    ·have nx:=nx (by unfold Gr;split<;>simp[g1,sB])
     simp +contextual only[r0,r3,d1,ix,q1,g1,Bw i (by omega),go_sem]
     exact⟨by omega,nx⟩
    by_cases h0:i=0
    ·have e0:(((i:Nat):Int)==0)=true:=by rw[beq_iff_eq];omega
     have no:=no (by unfold Gr;rw[if_pos h0];exact g1)
     rw[no]
     simp +contextual only[r0,r3,d1,ix,q1,g1,e0,go_sem]
    have e0:(((i:Nat):Int)==0)=false:=by rw[beq_eq_false_iff_ne];omega
    rcases tf (cU (b.toNat:Int)) with g2|g2
    ·have nx:=nx (by unfold Gr;rw[if_neg h0,sB,g2];simp)
     simp +contextual only[r0,r3,d1,ix,q1,q2,g1,g2,e0,Bw i (by omega),go_sem]
     exact⟨by omega,nx⟩
    rcases tf ((b.toNat:Int)==95) with g3|g3
    ·have nx:=nx (by unfold Gr;rw[if_neg h0,sB,g3];simp)
     have g3':((b.toNat:Int) !=95)=false:=by simp only[bne,g3];rfl
     simp +contextual only[r0,r3,d1,ix,q1,q2,g1,g2,g3',e0,Bw i (by omega),go_sem]
     exact⟨by omega,nx⟩
    ·have no:=no (by unfold Gr;rw[if_neg h0,sB,g1,g2,g3];rfl)
     have g3':((b.toNat:Int) !=95)=true:=by simp only[bne,g3];rfl
     rw[no]
     simp +contextual only[r0,r3,d1,ix,q1,q2,g1,g2,g3',e0,go_sem]
   ·have d1:decide (((i:Nat):Int)<s.length)=false:=by simp only[decide_eq_false_iff_not];omega
    have hE:=QB (s:=s) fun j b hj=>hc j b (by
     rcases A6L j s.length with h'|h'
     ·omega
     ·rw[A6D h'] at hj;cases hj) hj
    rw[hE]
    rcases tf (decide ((0:Int)<s.length)) with g|g<;>simp +contextual only[r0,r3,d1,g,go_sem]
  ·cases h
 ·cases h
theorem A3Q{a b:List UInt8}(h:a.length+b.length<2^62):DZ .add (.str a) (.str b)=some (.str (a++b)):=by
 show PQ .add a b=_
 simp[PQ,h]
def j5(s:List UInt8)(n:Nat):Bool:=match s[n]? with
 | some b=>yA b.toNat
 | none=>false
theorem QO{p:Int->Bool}(c:UInt8)(r:List UInt8)(h:p c.toNat=true):CS p (c::r)=1+CS p r:=by
 unfold CS;simp only[A7p,h,if_true,A6R];omega
def IJ(s:List UInt8)(most:Int):Int×Nat :=
 if(decide (CS cU s<1)||decide (19<CS cU s)||j5 s (CS cU s))||decide (most<(ED (s.take (CS cU s)):Int)) then(0,0) else((ED (s.take (CS cU s)):Int),CS cU s)
theorem Sa(l:List UInt8)(a:Nat)(m:Int):HO l a m=IJ (l.drop a) m:=by
 unfold HO IJ Vj j5 Cz
 rw[mY,A7r]
 try rfl
def Sk(s:List UInt8):D×Nat:=match lB.find? (F9 s) with
 | some x=>(mkT 5 x 0,x.length)
 | none=>(mkT 0 [] 0,0)
def T8(s:List UInt8):D×Nat:=match s with
 | []=>(mkT 0 [] 0,0)
 | c::r =>
  if EU c.toNat then(if decide ((64:Int)<(CS BM s:Nat)) then(mkT 0 [] 0,0) else(mkT 1 (s.take (CS BM s)) 0,CS BM s))
  else if cU c.toNat then(mkT 2 [] (IJ s 9223372036854775807).1,(IJ s 9223372036854775807).2)
  else if c==64 then(if((IJ r 1099511627776).2:Int)==0 then(mkT 0 [] 0,0) else(mkT 4 [] (IJ r 1099511627776).1,(IJ r 1099511627776).2+1))
  else if c==34 then(mkT 3 (Fk r [] 1).1 0,(Fk r [] 1).2)
  else Sk s
theorem kV{l:List UInt8}{a:Nat}(h:a<l.length):H9 l a=T8 (l.drop a):=by
 have ex:l[a]? =some l[a]:=by simp[h]
 rw[wZ h,qF ex]
 have d1:l.drop a=l[a]::l.drop (a+1):=qF ex
 unfold Np T8 Iy Sk MM Cz
 rw[mY,Sa,Sa]
 simp only[d1]
 rfl
def cM:List (List UInt8):=[[61,61],[33,61],[60,61],[62,61]]
def cR:List (List UInt8):=[[123],[125],[40],[41],[91],[93],[59],[46],[44],[43],[45],[42],[60],[62]]
theorem jR:lB=cM++cR:=rfl
theorem dB(s:List UInt8):bG s=(cR.contains s||cM.contains s):=by
 have e:pP=cR++cM:=rfl
 unfold bG
 rw[e,A7C]
 congr 1<;>(rw[A61];congr 1;funext x;exact BEq.comm)
theorem gU{s:List UInt8}{n:Nat}:∀{L:List (List UInt8)},(∀x∈L,x.length=n)->L.find? (F9 s)=if L.contains (s.take n) then some (s.take n) else none
 | [],_=>rfl
 | x::L,h=>by
  have hx:=h x (by simp)
  have ih:=gU (s:=s) (n:=n) (L:=L) fun y hy=>h y (by simp[hy])
  have e:F9 s x=(s.take n==x):=by unfold F9;rw[hx]
  rw[List.find?_cons,e,ih]
  rcases tf (s.take n==x) with g|g
  ·rw[g]
   have g':s.take n=x:=by simpa using g
   simp[A7s,g']
  ·rw[g]
   simp only[A7s,g,A7c]
theorem Oy{s:List UInt8}(h:s.length≠2):cM.contains s=false:=by
 rw[A69];intro hc
 have:=A7i.1 hc
 have key:∀x∈cM,x.length=2:=by decide
 exact h (key s this)
theorem qW{s:List UInt8}(h:s.length≠1):cR.contains s=false:=by
 rw[A69];intro hc
 have:=A7i.1 hc
 have key:∀x∈cR,x.length=1:=by decide
 exact h (key s this)
theorem wH(c:UInt8)(r:List UInt8):Sk (c::r)=if decide (1<(c::r).length)&&bG ((c::r).take 2) then(mkT 5 ((c::r).take 2) 0,2) else if bG [c] then(mkT 5 [c] 0,1) else(mkT 0 [] 0,0):=by
 unfold Sk
 rw[jR,A7v,gU (n:=2) (by decide),gU (n:=1) (by decide)]
 have e1:(c::r).take 1=[c]:=rfl
 rw[e1]
 have s1:bG [c]=cR.contains [c]:=by rw[dB,Oy (s:=[c]) (by simp)];simp
 cases r with
 | nil =>
  have e2:[c].take 2=[c]:=rfl
  rw[e2,Oy (s:=[c]) (by simp),s1]
  have d:decide (1<[c].length)=false:=by simp
  rw[d]
  rcases tf (cR.contains [c]) with g|g<;>rw[g]<;>rfl
 | cons d r =>
  have e2:(c::d::r).take 2=[c,d]:=rfl
  have s2:bG [c,d]=cM.contains [c,d]:=by rw[dB,qW (s:=[c,d]) (by simp)];simp
  have dd:decide (1<(c::d::r).length)=true:=by simp
  rw[e2,s1,s2,dd]
  rcases tf (cM.contains [c,d]) with g|g
  ·rw[g];rfl
  ·rw[g]
   rcases tf (cR.contains [c]) with g2|g2<;>rw[g2]<;>rfl
theorem cB(c:UInt8)(r:List UInt8):T8 (c::r) =
  if EU c.toNat then(if decide ((64:Int)<(CS BM (c::r):Nat)) then(mkT 0 [] 0,0) else(mkT 1 ((c::r).take (CS BM (c::r))) 0,CS BM (c::r)))
  else if cU c.toNat then(mkT 2 [] (IJ (c::r) 9223372036854775807).1,(IJ (c::r) 9223372036854775807).2)
  else if c==64 then(if((IJ r 1099511627776).2:Int)==0 then(mkT 0 [] 0,0) else(mkT 4 [] (IJ r 1099511627776).1,(IJ r 1099511627776).2+1))
  else if c==34 then(mkT 3 (Fk r [] 1).1 0,(Fk r [] 1).2)
  else Sk (c::r):=rfl
theorem nY(c:UInt8)(r:List UInt8):Bp (c::r)=(EU c.toNat&&r.all (fun b=>BM b.toNat)&&decide (((c::r).length:Int)<=64)):=rfl
theorem xB{n:Int}(h:cU n=true):EU n=false:=by
 simp only[EU,cU,A6H,A6X,decide_eq_true_eq,decide_eq_false_iff_not] at h ⊢;omega
def Bn:D:=.agg [.int .i64 0,.int .i64 0,.str [],.nils]
def num(n:Int):D:=.agg [.int .i64 2,.int .i64 n,.str [],.nils]
def Jg:List D->Option D
 | [.bool b]=>some (.agg [.int .i64 1,.int .i64 (if b then 1 else 0),.str [],.nils])
 | _=>none
def FA:List D->Option D
 | [.int .i64 n]=>some (num n)
 | _=>none
theorem Zq[HasG Tryz.prog]:AQ Tryz.prog 244 Jg:=by
 refine AN (l:=[]) Ok.nil A0r fun args r h=>?_
 unfold Jg at h
 split at h
 ·injection h with h;subst h
  refine⟨by simp,by simp[D.cl,D.clL],fun H T=>?_⟩
  rename_i b
  cases b<;>simp +contextual only[YG,go_sem]
 ·cases h
theorem VB[HasG Tryz.prog]:AQ Tryz.prog 242 FA:=by
 refine AN (l:=[]) Ok.nil Z3 fun args r h=>?_
 unfold FA at h
 split at h
 ·injection h with h;subst h
  refine⟨by simp,by simp[D.cl,D.clL,num],fun H T=>?_⟩
  simp +contextual only[A02,num,go_sem]
 ·cases h
def Bf(k i:Int)(s:List UInt8)(n:Nat):Bool :=
 if decide ((0:Int)<n) then false else if(k !=3)&&(s !=[]) then false else
 if k==0 then i==0 else if k==1 then i==0||i==1 else if k==2 then true else
 if k==3 then i==0&&decide ((s.length:Int)<=64) else if k==4 then decide (0<=i)&&decide (i<=1099511627776) else false
def FW:List D->Option D
 | [.agg [.int .i64 k,.int .i64 i,.str s,l]]=>match C2 l with
  | some n=>some (.bool (Bf k i s n))
  | none=>none
 | _=>none
theorem Hs{l:D}{n:Nat}(h:C2 l=some n):l.okc=true/\l.cells=[l]:=by
 cases l<;>simp[C2] at h<;>exact⟨rfl,rfl⟩
theorem XN[HasG Tryz.prog]:AQ Tryz.prog 179 FW:=by
 refine AN (l:=[]) Ok.nil A0o fun args r h=>?_
 unfold FW at h
 split at h
 ·split at h
  ·rename_i k i s l n hn
   injection h with h;subst h
   refine⟨by simp,by simp[D.cl,D.clL,num],fun H T=>?_⟩
   have hl:=Hs hn
   simp +contextual only[A0a,Bf,hn,hl.1,hl.2,go_sem]
  ·cases h
 ·cases h
theorem kU(a:Int)(h: -(2^63)<=a)(h':a<2^63):IntKind.i64.wrap a=a:=by
 have e:IntKind.i64.wrap a=if a%(2^64:Int) ≥ (2^63:Int) then a%(2^64:Int) - (2^64:Int) else a%(2^64:Int):=by
  simp[IntKind.wrap,IntKind.bits,IntKind.signed]
 rw[e]
 split<;>omega
theorem SC(n:Nat)(h:n<2^62):IntKind.i64.wrap (n:Int)=n:=kU _ (by omega) (by omega)
theorem AJ(n:Nat)(h:n<2^61):IntKind.i64.wrap ((n:Int)+1)=((n+1:Nat):Int):=by
 have:=SC (n+1) (by omega)
 rw[<- this];simp
@[go_sem] theorem A2Z(s:List UInt8)(k:IntKind)(i:Nat):ixs (.str s) (.int k (i:Int))=(s[i]?).map fun b=>.int .u8 (b.toNat:Int):=by
 simp[ixs]
def CZ(a b:Int):Int:=if a<b then -1 else if b<a then 1 else 0
def Ay:List UInt8->List UInt8->Int
 | [],[]=>0
 | [],_::_=>-1
 | _::_,[]=>1
 | x::a,y::b=>if x.toNat<y.toNat then -1 else if y.toNat<x.toNat then 1 else Ay a b
def By:List D->Option D
 | [.int .i64 a,.int .i64 b]=>some (.int .i64 (CZ a b))
 | _=>none
theorem A2r[HasG Tryz.prog]:AQ Tryz.prog 203 By:=by
 refine AN (l:=[]) Ok.nil Xf fun args r h=>?_
 unfold By at h
 split at h
 ·injection h with h;subst h
  refine⟨by simp,by simp[D.cl],fun H T=>?_⟩
  simp +contextual only[A04,CZ,go_sem]
  simp
  omega
 ·cases h
def Jb:List D->Option D
 | [.str a,.str b]=>if a.length<=2^47/\b.length<=2^47 then some (.int .i64 (Ay a b)) else none
 | _=>none
theorem YW[HasG Tryz.prog]:AQ Tryz.prog 204 Jb:=by
 refine AN (l:=[]) Ok.nil A0L fun args r h=>?_
 unfold Jb at h
 split at h
 ·split at h
  ·rename_i a b hl
   injection h with h;subst h
   refine⟨by simp,by simp[D.cl],fun H T=>?_⟩
   simp +contextual only[A2j,go_sem]
   refine Ap (fun i s=>s.t 0= .str a/\s.t 1= .str b/\s.t 5= .int .i64 i/\s.H=H/\s.T=T/\i<=a.length/\i<=b.length/\Ay (a.drop i) (b.drop i)=Ay a b) a.length ⟨0,by simp[upd,Ae]⟩ (fun i s h=>h.2.2.2.2.2.1) ?_ (AR _)
   rintro i ⟨t,H',T'⟩ ⟨h0,h1,h5,rfl,rfl,hi,hj,hc⟩
   simp only at h0 h1 h5
   by_cases ha:i<a.length
   ·by_cases hb:i<b.length
    ·have d1:decide ((i:Int)<a.length)=true:=by simpa using ha
     have d2:decide ((i:Int)<b.length)=true:=by simpa using hb
     have e1:a[i]? =some a[i]:=by simp[ha]
     have e2:b[i]? =some b[i]:=by simp[hb]
     rw[A6E ha,A6E hb,Ay] at hc
     simp +contextual only[h0,h1,h5,d1,d2,e1,e2,AJ i (by omega),go_sem]
     refine⟨fun h=>?_,fun h=>⟨fun h'=>?_,fun h'=>⟨by omega,by omega,?_⟩⟩⟩<;>simp only[decide_eq_true_eq,decide_eq_false_iff_not] at h<;>(try simp only[decide_eq_true_eq,decide_eq_false_iff_not] at h')
     ·rw[if_pos (by omega)] at hc;rw[hc]
     ·rw[if_neg (by omega),if_pos (by omega)] at hc;rw[hc]
     ·rw[if_neg (by omega),if_neg (by omega)] at hc;exact hc
    ·have d1:decide ((i:Int)<a.length)=true:=by simpa using ha
     have d2:decide ((i:Int)<b.length)=false:=by simpa using hb
     have d3:decide ((a.length:Int)<b.length)=false:=by simp;omega
     have d4:decide ((b.length:Int)<a.length)=true:=by simp;omega
     rw[A6E ha,A6P (by omega:b.length<=i),Ay] at hc
     simp +contextual only[h0,h1,h5,d1,d2,d3,d4,← hc,go_sem]
   ·have d1:decide ((i:Int)<a.length)=false:=by simpa using ha
    have d3:decide ((b.length:Int)<a.length)=false:=by simp;omega
    rw[A6P (by omega:a.length<=i)] at hc
    by_cases hb:i<b.length
    ·have d4:decide ((a.length:Int)<b.length)=true:=by simp;omega
     rw[A6E hb,Ay] at hc
     simp +contextual only[h0,h1,h5,d1,d3,d4,← hc,go_sem]
    ·have d4:decide ((a.length:Int)<b.length)=false:=by simp;omega
     rw[A6P (by omega:b.length<=i),Ay] at hc
     simp +contextual only[h0,h1,h5,d1,d3,d4,← hc,go_sem]
  ·cases h
 ·cases h
theorem Ue:Tryz.f205.body.isNone=true:=by kernel_rfl
theorem UZ: (Tryz.f205.name == "runtime.NumGoroutine") = false := by kernel_rfl
theorem Ul:Extern.findNext Tryz.f205=none:=by kernel_rfl
theorem TZ:Extern.find Tryz.f205=some Extern.BytealgCompare.compare:=by rfl
theorem PS:∀(a b:List UInt8),Lib.compareBytes a b=Ay a b
 | [],[]=>rfl
 | [],_::_=>rfl
 | _::_,[]=>rfl
 | x::a,y::b=>by
  simp only[Lib.compareBytes,Ay,UInt8.lt_iff_toNat_lt,PS a b]
def Ff:List D->Option D
 | [.str a,.str b]=>some (.int .i64 (Ay a b))
 | _=>none
theorem A2f[HasG Tryz.prog]:AQ Tryz.prog 205 Ff:=by
 intro args r hr args' he H T Q hQ
 unfold Ff at hr
 split at hr
 ·rename_i a b
  injection hr with hr;subst hr
  intro c w vs _ hi hT hrep
  have h:=hrep.erase
  rw[he] at h
  match vs,h.len with
  | [v1,v2],_ =>
   have h1:Rep c (.str a) v1:=h.rep 0 (by simp) (by simp)
   have h2:Rep c (.str b) v2:=h.rep 1 (by simp) (by simp)
   cases h1;cases h2
   refine .inr ⟨.int .i64 (Ay a b),w,?_,?_⟩
   ·rw[run_callFunc_extern Tryz.func205 UZ Ue Ul TZ]
    have:=Lib.run_compareString (P:=Tryz.prog) ⟨a.toArray⟩ ⟨b.toArray⟩ w
    rw[PS] at this
    simp only at this
    rw[this];rfl
   ·exact⟨_,rfl,_,H,T,c,hQ,.int _ _,hi,Cx.le.refl c,hT,Below.refl _ _⟩
 ·cases hr
theorem A0S[HasG Tryz.prog]:AQ Tryz.prog 176 Ff:=by
 refine AN (l:=[(205,Ff)]) (.cons A2f .nil) Y9 fun args r h=>?_
 unfold Ff at h
 split at h
 ·injection h with h;subst h
  refine⟨by simp,by simp[D.cl],fun H T=>?_⟩
  simp +contextual only[A0E,Ff,go_sem]
 ·cases h
theorem A1f[HasG Tryz.prog]:AQ Tryz.prog 115 Ff:=by
 refine AN (l:=[(176,Ff)]) (.cons A0S .nil) A0w fun args r h=>?_
 unfold Ff at h
 split at h
 ·injection h with h;subst h
  refine⟨by simp,by simp[D.cl],fun H T=>?_⟩
  simp +contextual only[A1k,Ff,go_sem]
 ·cases h
def JJ:List D->Option D
 | [.int .i64 _]=>some (.bool false)
 | _=>none
theorem A1V[HasG Tryz.prog]:AQ Tryz.prog 174 JJ:=by
 refine AN (l:=[]) .nil A17 fun args r h=>?_
 unfold JJ at h
 split at h
 ·injection h with h;subst h
  refine⟨by simp,by simp[D.cl],fun H T=>?_⟩
  simp +contextual only[Xg,go_sem]
 ·cases h
theorem A0e[HasG Tryz.prog]:AQ Tryz.prog 175 JJ:=by
 refine AN (l:=[]) .nil YX fun args r h=>?_
 unfold JJ at h
 split at h
 ·injection h with h;subst h
  refine⟨by simp,by simp[D.cl],fun H T=>?_⟩
  simp +contextual only[Xt,go_sem]
 ·cases h
theorem A2i[HasG Tryz.prog]:AQ Tryz.prog 113 By:=by
 refine AN (l:=[(174,JJ)]) (.cons A1V .nil) A10 fun args r h=>?_
 unfold By at h
 split at h
 ·injection h with h;subst h
  refine⟨by simp,by simp[D.cl],fun H T=>?_⟩
  simp +contextual only[A1Y,JJ,CZ,go_sem]
  simp
  omega
 ·cases h
theorem Z1[HasG Tryz.prog]:AQ Tryz.prog 114 By:=by
 refine AN (l:=[(175,JJ)]) (.cons A0e .nil) A0u fun args r h=>?_
 unfold By at h
 split at h
 ·injection h with h;subst h
  refine⟨by simp,by simp[D.cl],fun H T=>?_⟩
  simp +contextual only[YO,JJ,CZ,go_sem]
  simp
  omega
 ·cases h
def Lj:List D->Option D
 | [.agg [.int .i64 k,.int .i64 i,.str s,l]]=>match C2 l with
  | some n=>some (.bool (Bf k i s n))
  | none=>none
 | _=>none
theorem ZV[HasG Tryz.prog]:AQ Tryz.prog 171 Lj:=by
 refine AN (l:=[]) Ok.nil Yt fun args r h=>?_
 unfold Lj at h
 split at h
 ·split at h
  ·rename_i k i s l n hn
   injection h with h;subst h
   refine⟨by simp,by simp[D.cl,D.clL,num],fun H T=>?_⟩
   have hl:=Hs hn
   simp +contextual only[A1B,hn,hl.1,hl.2,go_sem]
   repeat' (first|apply A6N|intro _)
   all_goals grind [Bf]
  ·cases h
 ·cases h
def kQ(k i:Int)(s:List UInt8)(k' i':Int)(s':List UInt8):Int :=
 if k !=k' then CZ k k' else if k==3 then Ay s s' else CZ i i'
def GC:List D->Option D
 | [.agg [.int .i64 k,.int .i64 i,.str s,l],.agg [.int .i64 k',.int .i64 i',.str s',l']]=>if s.length<=2^47/\s'.length<=2^47/\(C2 l).isSome/\(C2 l').isSome then some (.int .i64 (kQ k i s k' i' s')) else none
 | _=>none
theorem Za[HasG Tryz.prog]:AQ Tryz.prog 172 GC:=by
 refine AN (l:=[(203,By),(204,Jb)]) (.cons A2r (.cons YW .nil)) A1N fun args r h=>?_
 unfold GC at h
 split at h
 ·split at h
  ·rename_i hl
   injection h with h;subst h
   refine⟨by simp,by simp[D.cl,D.clL,num],fun H T=>?_⟩
   obtain⟨h1,h2,h3,h4⟩:=hl
   obtain⟨n,hn⟩:=A7a.1 h3
   obtain⟨n',hn'⟩:=A7a.1 h4
   have hl:=Hs hn
   have hl':=Hs hn'
   simp +contextual only[Y7,By,Jb,kQ,hn,hl.1,hl.2,hn',hl'.1,hl'.2,h1,h2,go_sem]
  ·cases h
 ·cases h
@[go_sem high] theorem A4v(sz:Nat)(b:Bool)(xs:List D)(k:IntKind)(i:Nat):ia sz (aV b xs) (.int k (i:Int))=iaE sz xs[i]?:=by
 rw[Ld];simp
theorem EL{l:D}(h:M8 l=true):∃b,l=aV b (elems l):=by
 unfold M8 at h
 split at h
 ·exact⟨true,rfl⟩
 ·exact⟨false,rfl⟩
 ·cases h
@[go_sem] theorem GO(b:Bool)(xs:List D):M8 (aV b xs)=true:=by
 rcases kM b xs with⟨h,_⟩|h<;>rw[h]<;>rfl
theorem Gt{p:D->Bool}{xs:List D}{i:Nat}{e:D}(h:xs[i]? =some e):(xs.take (i+1)).all p=((xs.take i).all p&&p e):=by
 rw[A6S,h];simp
theorem II{p:D->Bool}{xs:List D}{i m:Nat}{e:D}(h:xs[i]? =some e)(hp:p e=false)(him:i<m):(xs.take m).all p=false:=by
 cases hq:(xs.take m).all p with
 | false=>rfl
 | true =>
  have hm:e∈xs.take m:=by
   refine A6C (i:=i) ?_
   rw[A7b him];exact h
  rw[A6B.1 hq e hm] at hp;cases hp
def Ei(e:D):Bool:=decide ((vs e).length<=200)&&decide ((vl e).length=0)
def NF(d:D):Bool:=decide ((vs d).length<=200)&&decide ((vl d).length<=30)&&(vl d).all Ei
def MU(xs:List D)(n:Int):Bool:=(xs.take 100).all NF&&decide ((xs.length:Int)<=n)
def LX:List D->Option D
 | [l,.int .i64 n]=>if M8 l=true/\D.isVs (elems l)=true/\(elems l).length<=2^47 then some (.bool (MU (elems l) n)) else none
 | _=>none
theorem ZN[HasG Tryz.prog]:AQ Tryz.prog 111 LX:=by
 refine AN (l:=[]) .nil A1R fun args r h=>?_
 unfold LX at h
 split at h
 ·split at h
  ·rename_i l n hl
   injection h with h;subst h
   refine⟨by simp,by simp[D.cl],fun H T=>?_⟩
   obtain⟨hl1,hl2,hl3⟩:=hl
   obtain⟨b,hb⟩:=EL hl1
   generalize elems l=xs at hb hl2 hl3
   subst hb
   have hV:=eM.1 hl2
   simp +contextual only[A1G,go_sem]
   refine Ap (fun i s=>s.t 0=aV b xs/\s.t 1= .int .i64 n/\s.t 5= .int .i64 i/\s.H=H/\s.T=T/\i<=100/\i<=xs.length/\(xs.take i).all NF=true) 100 ⟨0,by simp[upd,Ae]⟩ (fun i s h=>h.2.2.2.2.2.1) ?_ (AR _)
   rintro i ⟨t,H',T'⟩ ⟨h0,h1,h5,rfl,rfl,hi,hj,hc⟩
   simp only at h0 h1 h5
   by_cases ha:i<xs.length/\i<100
   ·obtain⟨ha,hb'⟩:=ha
    have d1:decide ((i:Int)<xs.length)=true:=by simpa using ha
    have d2:decide ((i:Int)<100)=true:=by simp;omega
    obtain⟨k,i',s,m,l',he,hs1,hs2,hV'⟩:=d9 (hV _ (A6I ha))
    have e1:xs[i]? =some (mkV k i' s m l'):=by rw[<- he];simp[ha]
    simp +contextual only[h0,h1,h5,d1,d2,e1,mkV,go_sem]
    have f1:NF (mkV k i' s m l')=(decide (s.length<=200)&&decide (l'.length<=30)&&l'.all Ei):=by simp only[NF,Cj,C3]
    have bad:NF (mkV k i' s m l')=false->MU xs n=false:=fun h=>by simp only[MU,II e1 h hb',A7E]
    refine⟨fun q=>?_,fun q1=>⟨fun q=>?_,fun q2=>?_⟩⟩
    ·rw[bad];rw[f1];simp at q ⊢;omega
    ·rw[bad];rw[f1];simp at q ⊢;omega
    ·refine Ap (fun j s=>s.t 0=aV b xs/\s.t 1= .int .i64 n/\s.t 5= .int .i64 i/\s.t 6= .int .i64 j/\s.H=H'/\s.T=T'/\j<=l'.length/\(l'.take j).all Ei=true) l'.length ⟨0,by simp[upd,h0,h1,h5]⟩ (fun i s h=>h.2.2.2.2.2.2.1) ?_ (AR _)
     rintro j ⟨t,H',T'⟩ ⟨h0,h1,h5,h6,rfl,rfl,hj2,hc2⟩
     simp only at h0 h1 h5 h6
     by_cases hb2:j<l'.length
     ·have d3:decide ((j:Int)<l'.length)=true:=by simpa using hb2
      obtain⟨k2,i2,s2,m2,l2,he2,hs21,hs22,hV2⟩:=d9 (hV' _ (A6I hb2))
      have e2:l'[j]? =some (mkV k2 i2 s2 m2 l2):=by rw[<- he2];simp[hb2]
      have f2:Ei (mkV k2 i2 s2 m2 l2)=(decide (s2.length<=200)&&decide (l2.length=0)):=by simp only[Ei,Cj,C3]
      have bad2:Ei (mkV k2 i2 s2 m2 l2)=false->MU xs n=false:=fun h=>bad (by
       have hm:l'.all Ei=false:=by
        have:=II e2 h hb2
        rwa [A6U] at this
       rw[f1,hm,A60])
      simp +contextual only[h0,h1,h5,h6,d3,e1,e2,mkV,AJ j (by omega),go_sem]
      refine⟨fun q=>?_,fun q1=>⟨fun q=>?_,fun q2=>⟨by omega,?_⟩⟩⟩
      ·rw[bad2];rw[f2];simp at q ⊢;omega
      ·rw[bad2];rw[f2];simp only[decide_eq_true_eq,A6X,decide_eq_false_iff_not] at q ⊢;omega
      ·rw[Gt e2,hc2,f2];simp only[decide_eq_true_eq,A6H,decide_eq_false_iff_not,true_and] at q1 q2 ⊢;omega
     ·have d3:decide ((j:Int)<l'.length)=false:=by simpa using hb2
      have hall:l'.all Ei=true:=by rwa [A7h (by omega)] at hc2
      have f3:NF (mkV k i' s m l')=true:=by rw[f1,hall];simp at q1 q2 ⊢;omega
      have hc3:(xs.take (i+1)).all NF=true:=by rw[Gt e1,hc,f3];rfl
      simp +contextual only[h0,h1,h5,h6,d3,e1,mkV,AJ i (by omega),go_sem]
      exact⟨by omega,by omega,hc3⟩
   ·have hcf:(xs.take 100).all NF=true:=by
     by_cases hx:i<xs.length
     ·have:i=100:=by omega
      rw[<- this];exact hc
     ·rw[A7h (by omega)] at hc
      exact A6B.2 fun x hx=>A6B.1 hc x (List.mem_of_mem_take hx)
    by_cases hx:i<xs.length
    ·have d1:decide ((i:Int)<xs.length)=true:=by simpa using hx
     have d2:decide ((i:Int)<100)=false:=by simp;omega
     simp +contextual only[h0,h1,h5,d1,d2,MU,hcf,go_sem]
    ·have d1:decide ((i:Int)<xs.length)=false:=by simpa using hx
     simp +contextual only[h0,h1,h5,d1,MU,hcf,go_sem]
  ·cases h
 ·cases h
theorem Li(n:Nat)(h:n<2^61)(h0:0<n):IntKind.i64.wrap ((n:Int) - 1)=((n - 1:Nat):Int):=by
 rw[kU _ (by omega) (by omega)];omega
theorem cQ{p:Nat->Bool}(i:Nat):(A6Q (i+1)).all p=((A6Q i).all p&&p i):=by
 rw[List.range_succ];simp
theorem C0{p:Nat->Bool}{i m:Nat}(hp:p i=false)(him:i<m):(A6Q m).all p=false:=by
 cases hq:(A6Q m).all p with
 | false=>rfl
 | true=>rw[A6B.1 hq i (by simpa using him)] at hp;cases hp
def B9(d:D):Bool:=Bf (vk d) (vi d) (vs d) (vl d).length
def vk0:List D->Int
 | x::_=>vk x
 | []=>0
def DJ(cmp:D->D->Int)(xs:List D)(i:Nat):Bool:=match xs[i]? with
 | none=>true
 | some x=>B9 x&&(vk x !=0)&&(vk x==vk0 xs)&&(i==0||(match xs[i - 1]? with|some y=>decide (cmp y x<0)|none=>false))
def Fj(cmp:D->D->Int)(xs:List D):Bool:=(A6Q xs.length).all (DJ cmp xs)
def aB(a b:D):Int:=kQ (vk a) (vi a) (vs a) (vk b) (vi b) (vs b)
def bS(d:D):Bool:=if vk d !=5 then B9 d else if(vi d !=0)||(vs d !=[])||decide ((16:Int)<(vl d).length) then false else Fj aB (vl d)
def Dr:List D->Option D
 | [d]=>if d.isV=true then some (.bool (bS d)) else none
 | _=>none
theorem Hh{xs:List D}{k i:Int}{s:List UInt8}{n:Bool}{l:List D}(h:xs[0]? =some (mkV k i s n l)):vk0 xs=k:=by
 cases xs with
 | nil=>simp at h
 | cons x xs=>simp at h;subst h;rfl
theorem l9{l:List D}(h:∀x∈l,x.isV=true):D.eraseL l=l:=dT (eM.2 h)
theorem CD{xs:List D}(h:∀x∈xs,x.isV=true){i:Nat}(hi:i<xs.length):∃k i' s n l,xs[i]? =some (mkV k i' s n l)/\s.length<=2^47/\l.length<=2^47/\(∀x∈l,x.isV=true)/\D.eraseL l=l:=by
 obtain⟨k,i',s,n,l,he,h1,h2,h3⟩:=d9 (h _ (A6I hi))
 exact⟨k,i',s,n,l,by rw[<- he];simp[hi],h1,h2,h3,l9 h3⟩
theorem V8[HasG Tryz.prog]:AQ Tryz.prog 107 Dr:=by
 refine AN (l:=[(171,Lj),(172,GC)]) (.cons ZV (.cons Za .nil)) XR fun args r h=>?_
 unfold Dr at h
 split at h
 ·split at h
  ·rename_i d hd
   injection h with h;subst h
   refine⟨by simp,by simp[D.cl],fun H T=>?_⟩
   obtain⟨k,i,s,n,xs,rfl,hs,hx,hV⟩:=d9 hd
   have eL:=l9 hV
   have F:bS (mkV k i s n xs)=if k !=5 then Bf k i s xs.length else if(i !=0)||(s !=[])||decide ((16:Int)<xs.length) then false else Fj aB xs:=by simp only[bS,B9,CK,Cl,Cj,C3]
   rw[F]
   simp +contextual only[Zm,mkV,Lj,eL,go_sem]
   intro q1 q2 q3 q4
   refine Ap (fun j s'=>s'.t 1= .ptr H.length 0/\s'.t 3= .int .i64 j/\s'.H=H++[.row [.int .i64 k,.int .i64 i,.str s,aV n xs]]/\s'.T=T/\j<=xs.length/\(A6Q j).all (DJ aB xs)=true) xs.length ⟨0,by simp[upd,Ae]⟩ (fun i s h=>h.2.2.2.2.1) ?_ (AR _)
   rintro j ⟨t,H',T'⟩ ⟨h1,h3,rfl,rfl,hj,hc⟩
   simp only at h1 h3
   by_cases ha:j<xs.length
   ·have d1:decide ((j:Int)<xs.length)=true:=by simpa using ha
    obtain⟨k1,i1,s1,n1,l1,e1,hs1,hx1,hV1,eL1⟩:=CD hV ha
    obtain⟨k0,i0,s0,n0,l0,e0,_⟩:=CD hV (show 0<xs.length by omega)
    have fk:=Hh e0
    by_cases hj0:0<j
    ·obtain⟨k2,i2,s2,n2,l2,e2,hs2,hx2,hV2,eL2⟩:=CD hV (show j - 1<xs.length by omega)
     have d2:decide ((0:Int)<j)=true:=by simpa using hj0
     have G:DJ aB xs j=(Bf k1 i1 s1 l1.length&&(k1 !=0)&&(k1==k0)&&decide (kQ k2 i2 s2 k1 i1 s1<0)):=by
      have:(j==0)=false:=by simp;omega
      simp only[DJ,e1,e2,fk,B9,aB,CK,Cl,Cj,C3,this,A7c]
     have bad:DJ aB xs j=false->Fj aB xs=false:=fun h=>C0 h ha
     simp +contextual only[h1,h3,d1,d2,e0,e1,e2,mkV,Lj,GC,eL1,eL2,Li j (by omega) hj0,AJ j (by omega),hs1,hs2,A7t,go_sem]
     refine⟨fun q=>?_,fun p1=>⟨fun q=>?_,fun p2=>⟨fun q=>?_,fun p3=>⟨fun q=>?_,fun p4=>⟨by omega,?_⟩⟩⟩⟩⟩
     ·rw[bad (by rw[G];grind)]
     ·rw[bad (by rw[G];grind)]
     ·rw[bad (by rw[G];grind)]
     ·rw[bad (by rw[G];grind)]
     ·rw[A63,hc]
      simp only[A6V,A67,G]
      grind
    ·have d2:decide ((0:Int)<j)=false:=by simpa using hj0
     have G:DJ aB xs j=(Bf k1 i1 s1 l1.length&&(k1 !=0)&&(k1==k0)):=by
      have:(j==0)=true:=by simp;omega
      simp only[DJ,e1,fk,B9,aB,CK,Cl,Cj,C3,this,A7K,A6W]
     have bad:DJ aB xs j=false->Fj aB xs=false:=fun h=>C0 h ha
     simp +contextual only[h1,h3,d1,d2,e0,e1,mkV,Lj,GC,eL1,AJ j (by omega),hs1,A7t,go_sem]
     refine⟨fun q=>?_,fun p1=>⟨fun q=>?_,fun p2=>⟨fun q=>?_,fun p3=>⟨by omega,?_⟩⟩⟩⟩
     ·rw[bad (by rw[G];grind)]
     ·rw[bad (by rw[G];grind)]
     ·rw[bad (by rw[G];grind)]
     ·rw[A63,hc]
      simp only[A6V,A67,G]
      grind
   ·have d1:decide ((j:Int)<xs.length)=false:=by simpa using ha
    have hA:Fj aB xs=true:=by
     have:j=xs.length:=by omega
     subst this;exact hc
    simp +contextual only[h1,h3,d1,mkV,hA,go_sem]
  ·cases h
 ·cases h
theorem HF(n off:Nat)(v:D)(M:Hp):∀(L:Hp) (i:Nat),putRow n off v (L++M) (L.length+i)=(putRow n off v M i).map (L++·)
 | [],i=>by simp
 | x::L,i=>by
  have e:(x::L).length+i=(L.length+i)+1:=by simp;omega
  rw[e,A7z,Sj,HF n off v M L i]
  cases putRow n off v M i<;>simp
@[go_sem] theorem Ur(n off:Nat)(v:D)(L M:Hp)(i:Nat):putRow n off v (L++M) (L.length+i)=(putRow n off v M i).map (L++·):=HF n off v M L i
@[go_sem] theorem Uy(n off:Nat)(v:D)(L M:Hp):putRow n off v (L++M) L.length=(putRow n off v M 0).map (L++·):=HF n off v M L 0
def or3(a b c:Int):Int:=if a !=0 then a else if b !=0 then b else c
def U0:List D->Option D
 | [.sl none [.int .i64 a,.int .i64 b,.int .i64 c]]=>some (.int .i64 (or3 a b c))
 | _=>none
theorem ZM[HasG Tryz.prog]:AQ Tryz.prog 112 U0:=by
 refine AN (l:=[]) .nil A0g fun args r h=>?_
 unfold U0 at h
 split at h
 ·injection h with h;subst h
  rename_i a b c
  refine⟨by simp,by simp[D.cl],fun H T=>?_⟩
  simp +contextual only[A0f,go_sem]
  refine Ap (fun i s=>s.t 3= .int .i64 0/\s.t 6= .sl none [.int .i64 a,.int .i64 b,.int .i64 c]/\s.t 7= .int .i64 3/\s.t 8= .int .i64 i/\s.H=H/\s.T=T/\i<=3/\(1<=i->a=0)/\(2<=i->b=0)/\(3<=i->c=0)) 3 ⟨0,by simp[upd,Ae]⟩ (fun i s h=>h.2.2.2.2.2.2.1) ?_ (AR _)
  rintro i ⟨t,H',T'⟩ ⟨h3,h6,h7,h8,rfl,rfl,hi,z1,z2,z3⟩
  simp only at h3 h6 h7 h8
  have w1:IntKind.i64.wrap 1=1:=by decide
  have w2:IntKind.i64.wrap 2=2:=by decide
  have w3:IntKind.i64.wrap 3=3:=by decide
  match i,hi with
  | 0,_ =>
   simp +contextual only[h3,h6,h7,h8,or3,w1,A7u,go_sem]
   grind
  | 1,_ =>
   have:=z1 (by omega);subst this
   simp +contextual only[h3,h6,h7,h8,or3,w2,A7u,go_sem]
   grind
  | 2,_ =>
   have:=z1 (by omega);subst this
   have:=z2 (by omega);subst this
   simp +contextual only[h3,h6,h7,h8,or3,w3,A7u,go_sem]
   grind
  | 3,_ =>
   have:=z1 (by omega);subst this
   have:=z2 (by omega);subst this
   have:=z3 (by omega);subst this
   simp +contextual only[h3,h6,h7,h8,or3,go_sem]
 ·cases h
def JN(f:D->D->Int):List D->List D->Int
 | [],[]=>0
 | [],_::_=>-1
 | _::_,[]=>1
 | x::xs,y::ys=>if f x y !=0 then f x y else JN f xs ys
def Qy(dom:D->Bool)(f:D->D->Int):List D->Option D
 | [l1,l2,.fn 64 [] []]=>if M8 l1=true/\M8 l2=true/\D.isVs (elems l1)=true/\D.isVs (elems l2)=true/\(elems l1).all dom=true/\(elems l2).all dom=true/\(elems l1).length<=2^47/\(elems l2).length<=2^47 then some (.int .i64 (JN f (elems l1) (elems l2))) else none
 | _=>none
theorem XO[HasG Tryz.prog]{φ:List D->Option D}(h13:AQ Tryz.prog 64 φ){dom:D->Bool}{f:D->D->Int}(hφ:∀x y,x.isV=true->y.isV=true->dom x=true->dom y=true->φ [x,y]=some (.int .i64 (f x y))):AQ Tryz.prog 116 (Qy dom f):=by
 refine AN (l:=[(64,φ)]) (.cons h13 .nil) ZH fun args r h=>?_
 unfold Qy at h
 split at h
 ·split at h
  ·rename_i l1 l2 hl
   injection h with h;subst h
   refine⟨by simp,by simp[D.cl],fun H T=>?_⟩
   obtain⟨g1,g2,g3,g4,g5,g6,g7,g8⟩:=hl
   obtain⟨b1,hb1⟩:=EL g1
   obtain⟨b2,hb2⟩:=EL g2
   generalize elems l1=xs at *
   generalize elems l2=ys at *
   subst hb1;subst hb2
   have hV1:=eM.1 g3
   have hV2:=eM.1 g4
   simp +contextual only[YI,go_sem]
   refine Ap (fun i s=>s.t 0=aV b1 xs/\s.t 1=aV b2 ys/\s.t 2= .fn 64 [] []/\s.t 11=aV b1 xs/\s.t 12= .int .i64 xs.length/\s.t 13= .int .i64 i/\(∃L,s.H=H++L)/\s.T=T/\i<=xs.length/\i<=ys.length/\JN f (xs.drop i) (ys.drop i)=JN f xs ys) xs.length ⟨0,by simp[upd,Ae]⟩ (fun i s h=>h.2.2.2.2.2.2.2.2.1) ?_ (AR _)
   rintro i ⟨t,H',T'⟩ ⟨h0,h1,h2,h11,h12,h13,⟨L,rfl⟩,rfl,hi,hj,hc⟩
   simp only at h0 h1 h2 h11 h12 h13
   by_cases ha:i<xs.length
   ·have d1:decide ((i:Int)<xs.length)=true:=by simpa using ha
    obtain⟨k1,i1,s1,n1,q1,e1,_,_,v1,r1⟩:=CD hV1 ha
    by_cases hb:i<ys.length
    ·have d2:decide ((ys.length:Int)<=i)=false:=by simp;omega
     obtain⟨k2,i2,s2,n2,q2,e2,_,_,v2,r2⟩:=CD hV2 hb
     have x1:xs[i]=mkV k1 i1 s1 n1 q1:=by rw[A6A ha] at e1;exact Option.some.inj e1
     have x2:ys[i]=mkV k2 i2 s2 n2 q2:=by rw[A6A hb] at e2;exact Option.some.inj e2
     have p:=hφ _ _ (hV1 _ (A6I ha)) (hV2 _ (A6I hb)) (A6B.1 g5 _ (A6I ha)) (A6B.1 g6 _ (A6I hb))
     rw[A6E ha,A6E hb,JN] at hc
     rw[x1,x2] at p hc
     generalize f (mkV k1 i1 s1 n1 q1) (mkV k2 i2 s2 n2 q2)=F at p hc
     simp only[mkV] at p
     simp +contextual only[h0,h1,h2,h11,h12,h13,d1,d2,e1,e2,mkV,p,r1,r2,AJ i (by omega),go_sem]
     refine⟨fun q=>?_,fun q=>⟨⟨_,rfl⟩,by omega,by omega,?_⟩⟩
     ·rw[if_pos q] at hc;rw[hc]
     ·rw[if_neg (by rw[q];decide)] at hc;exact hc
    ·have d2:decide ((ys.length:Int)<=i)=true:=by simp;omega
     rw[A6E ha,A6P (by omega:ys.length<=i),JN] at hc
     simp +contextual only[h0,h1,h2,h11,h12,h13,d1,d2,e1,mkV,← hc,go_sem]
   ·have d1:decide ((i:Int)<xs.length)=false:=by simpa using ha
    rw[A6P (by omega:xs.length<=i)] at hc
    by_cases hb:i<ys.length
    ·have d2:decide ((xs.length:Int)<ys.length)=true:=by simp;omega
     rw[A6E hb,JN] at hc
     simp +contextual only[h0,h1,h2,h11,h12,h13,d1,d2,← hc,go_sem]
    ·have d2:decide ((xs.length:Int)<ys.length)=false:=by simp;omega
     rw[A6P (by omega:ys.length<=i),JN] at hc
     simp +contextual only[h0,h1,h2,h11,h12,h13,d1,d2,← hc,go_sem]
  ·cases h
 ·cases h
def QW(f:D->D->Int)(a b:D):Int :=
 if or3 (CZ (vk a) (vk b)) (CZ (vi a) (vi b)) (Ay (vs a) (vs b)) !=0 then or3 (CZ (vk a) (vk b)) (CZ (vi a) (vi b)) (Ay (vs a) (vs b)) else JN f (vl a) (vl b)
def Jv(dom:D->Bool)(f:D->D->Int):List D->Option D
 | [a,b]=>if a.isV=true/\b.isV=true/\(vl a).all dom=true/\(vl b).all dom=true then some (.int .i64 (QW f a b)) else none
 | _=>none
theorem A4w[HasG Tryz.prog]{dom:D->Bool}{f:D->D->Int}(h38:AQ Tryz.prog 116 (Qy dom f)):AQ Tryz.prog 64 (Jv dom f):=by
 refine AN (l:=[(113,By),(114,By),(115,Ff),(112,U0),(116,Qy dom f)]) (.cons A2i (.cons Z1 (.cons A1f (.cons ZM (.cons h38 .nil))))) A3n fun args r h=>?_
 unfold Jv at h
 split at h
 ·split at h
  ·rename_i a b hab
   injection h with h;subst h
   refine⟨by simp,by simp[D.cl],fun H T=>?_⟩
   obtain⟨ha,hb,hda,hdb⟩:=hab
   obtain⟨k1,i1,s1,n1,l1,rfl,z1,y1,hV1⟩:=d9 ha
   obtain⟨k2,i2,s2,n2,l2,rfl,z2,y2,hV2⟩:=d9 hb
   simp only[C3] at hda hdb
   have r1:=l9 hV1
   have r2:=l9 hV2
   have p:Qy dom f [aV n1 l1,aV n2 l2,.fn 64 [] []]=some (.int .i64 (JN f l1 l2)):=by
    simp only[Qy,GO,AU,eM.2 hV1,eM.2 hV2,hda,hdb,y1,y2,and_self,if_true]
   have q:QW f (mkV k1 i1 s1 n1 l1) (mkV k2 i2 s2 n2 l2)=if or3 (CZ k1 k2) (CZ i1 i2) (Ay s1 s2) !=0 then or3 (CZ k1 k2) (CZ i1 i2) (Ay s1 s2) else JN f l1 l2:=by
    simp only[QW,CK,Cl,Cj,C3]
   rw[q]
   simp +contextual only[c64,mkV,By,Ff,U0,r1,r2,p,Wb,go_sem]
  ·cases h
 ·cases h
theorem Sc[HasG Tryz.prog]:AQ Tryz.prog 64 (fun _=>none):=fun _ _ h=>by cases h
def Tm(_:D):Bool:=false
def f0(_ _:D):Int:=0
def CW:=QW f0
theorem Ry[HasG Tryz.prog]:AQ Tryz.prog 64 (Jv Tm f0):=A4w (XO Sc (fun _ _ _ _ h=>by cases h))
def leaf(d:D):Bool:=(vl d).isEmpty
theorem K4{x y:D}(hx:x.isV=true)(hy:y.isV=true)(h1:leaf x=true)(h2:leaf y=true):Jv Tm f0 [x,y]=some (.int .i64 (CW x y)):=by
 simp only[leaf,A7f] at h1 h2
 simp[Jv,hx,hy,h1,h2,CW]
def qM(d:D):Bool:=if vk d !=5 then B9 d else if Fj CW (vl d) then(vi d==0)&&(vs d==[])&&decide (((vl d).length:Int)<=16) else false
def Do:List D->Option D
 | [d]=>if d.isV=true then some (.bool (qM d)) else none
 | _=>none
theorem iP{k i:Int}{s:List UInt8}{n:Nat}(h:Bf k i s n=true):n=0:=by
 unfold Bf at h
 by_cases hn:(0:Int)<n
 ·simp[hn] at h
  exact h.1
 ·omega
theorem V1[HasG Tryz.prog]:AQ Tryz.prog 129 Do:=by
 refine AN (l:=[(179,FW),(64,Jv Tm f0)]) (.cons XN (.cons Ry .nil)) A0V fun args r h=>?_
 unfold Do at h
 split at h
 ·split at h
  ·rename_i d hd
   injection h with h;subst h
   refine⟨by simp,by simp[D.cl],fun H T=>?_⟩
   obtain⟨k,i,s,n,xs,rfl,hs,hx,hV⟩:=d9 hd
   have eL:=l9 hV
   have F:qM (mkV k i s n xs)=if k !=5 then Bf k i s xs.length else if Fj CW xs then(i==0)&&(s==[])&&decide ((xs.length:Int)<=16) else false:=by simp only[qM,B9,CK,Cl,Cj,C3]
   rw[F]
   simp +contextual only[A01,mkV,FW,eL,go_sem]
   intro q1
   refine Ap (fun j s'=>s'.t 1= .ptr H.length 0/\s'.t 11=aV n xs/\s'.t 12= .int .i64 xs.length/\s'.t 13= .int .i64 j/\(∃L,s'.H=H++ .row [.int .i64 k,.int .i64 i,.str s,aV n xs]::L)/\s'.T=T/\j<=xs.length/\(A6Q j).all (DJ CW xs)=true) xs.length ⟨0,by simp[upd,Ae]⟩ (fun i s h=>h.2.2.2.2.2.2.1) ?_ (AR _)
   rintro j ⟨t,H',T'⟩ ⟨h1,h11,h12,h13,⟨L,rfl⟩,rfl,hj,hc⟩
   simp only at h1 h11 h12 h13
   by_cases ha:j<xs.length
   ·have d1:decide ((j:Int)<xs.length)=true:=by simpa using ha
    obtain⟨k1,i1,s1,n1,l1,e1,hs1,hx1,hV1,eL1⟩:=CD hV ha
    obtain⟨k0,i0,s0,n0,l0,e0,_⟩:=CD hV (show 0<xs.length by omega)
    have fk:=Hh e0
    have bad:DJ CW xs j=false->Fj CW xs=false:=fun h=>C0 h ha
    by_cases hj0:0<j
    ·obtain⟨k2,i2,s2,n2,l2,e2,hs2,hx2,hV2,eL2⟩:=CD hV (show j - 1<xs.length by omega)
     have d2:decide ((0:Int)<j)=true:=by simpa using hj0
     have pv:DJ CW xs (j - 1)=true:=A6B.1 hc (j - 1) (by simp;omega)
     have lf2:l2=[]:=by
      simp only[DJ,e2,B9,CK,Cl,Cj,C3,A6H] at pv
      exact A6O.1 (iP pv.1.1.1)
     subst lf2
     generalize ho:CW (mkV k2 i2 s2 n2 []) (mkV k1 i1 s1 n1 l1)=o
     have G:DJ CW xs j=(Bf k1 i1 s1 l1.length&&(k1 !=0)&&(k1==k0)&&decide (o<0)):=by
      have:(j==0)=false:=by simp;omega
      simp only[DJ,e1,e2,fk,B9,ho,CK,Cl,Cj,C3,this,A7c]
     by_cases hp:Bf k1 i1 s1 l1.length=true
     ·have lf1:l1=[]:=A6O.1 (iP hp)
      subst lf1
      have p:=K4 (x:=mkV k2 i2 s2 n2 []) (y:=mkV k1 i1 s1 n1 []) (OD hs2 (by simp) (by simp)) (OD hs1 (by simp) (by simp)) (by simp[leaf,C3]) (by simp[leaf,C3])
      rw[ho] at p
      simp only[mkV] at p
      simp only[List.length_nil] at hp G
      simp +contextual only[h1,h11,h12,h13,d1,d2,e0,e1,e2,mkV,FW,p,hp,Li j (by omega) hj0,AJ j (by omega),go_sem]
      refine⟨fun q=>?_,fun p2=>⟨fun q=>?_,fun p3=>⟨fun q=>?_,fun p4=>⟨⟨_,rfl⟩,by omega,?_⟩⟩⟩⟩
      ·rw[bad (by rw[G];grind)];rfl
      ·rw[bad (by rw[G];grind)];rfl
      ·rw[bad (by rw[G];grind)];rfl
      ·rw[A63,hc]
       simp only[A6V,A67,G]
       grind
     ·have hp':Bf k1 i1 s1 l1.length=false:=by simpa using hp
      have hb:=bad (by rw[G,hp'];rfl)
      simp +contextual only[h1,h11,h12,h13,d1,d2,e0,e1,e2,mkV,FW,hp',eL1,hb,go_sem]
    ·have d2:decide ((0:Int)<j)=false:=by simpa using hj0
     have G:DJ CW xs j=(Bf k1 i1 s1 l1.length&&(k1 !=0)&&(k1==k0)):=by
      have:(j==0)=true:=by simp;omega
      simp only[DJ,e1,fk,B9,CK,Cl,Cj,C3,this,A7K,A6W]
     simp +contextual only[h1,h11,h12,h13,d1,d2,e0,e1,mkV,FW,eL1,AJ j (by omega),go_sem]
     refine⟨fun q=>?_,fun p1=>⟨fun q=>?_,fun p2=>⟨fun q=>?_,fun p3=>⟨⟨_,rfl⟩,by omega,?_⟩⟩⟩⟩
     ·rw[bad (by rw[G];grind)];rfl
     ·rw[bad (by rw[G];grind)];rfl
     ·rw[bad (by rw[G];grind)];rfl
     ·rw[A63,hc]
      simp only[A6V,A67,G]
      grind
   ·have d1:decide ((j:Int)<xs.length)=false:=by simpa using ha
    have hA:Fj CW xs=true:=by
     have:j=xs.length:=by omega
     subst this;exact hc
    simp +contextual only[h1,h11,h12,h13,d1,mkV,hA,go_sem]
  ·cases h
 ·cases h
theorem aZ{k i:Int}{s:List UInt8}{n:Nat}(h:Bf k i s n=true):n=0/\(k=3->i=0)/\(k≠3->s=[])/\0<=k/\k<=4:=by
 refine⟨iP h,?_,?_,?_,?_⟩<;>unfold Bf at h<;>grind
theorem fT(a:Int):CZ a a=0:=by simp[CZ]
theorem gL{a b:Int}(h:a≠b):CZ a b≠0:=by unfold CZ;split<;>(try split)<;>omega
theorem Vw{a b:D}(ha:B9 a=true)(hb:B9 b=true):or3 (CZ (vk a) (vk b)) (CZ (vi a) (vi b)) (Ay (vs a) (vs b))=aB a b:=by
 obtain⟨_,a1,a2,_⟩:=aZ ha
 obtain⟨_,b1,b2,_⟩:=aZ hb
 simp only[or3,aB,kQ]
 by_cases hk:vk a=vk b
 ·by_cases h3:vk a=3
  ·have e1:=a1 h3
   have e2:=b1 (by omega)
   simp[hk,fT,e1,e2,show vk b=3 by omega]
  ·have e1:=a2 h3
   have e2:=b2 (by omega)
   have h3': ¬vk b=3:=by omega
   simp only[hk,fT,e1,e2,Ay]
   simp[h3']
   intro h;rw[h]
 ·have:=gL hk
  simp[hk,this]
theorem oP{a b:D}(ha:B9 a=true)(hb:B9 b=true)(f:D->D->Int):QW f a b=aB a b:=by
 have la:vl a=[]:=A6O.1 (aZ ha).1
 have lb:vl b=[]:=A6O.1 (aZ hb).1
 unfold QW
 rw[Vw ha hb,la,lb]
 simp only[JN]
 split
 ·rfl
 ·rename_i h;simpa using Eq.symm (show aB a b=0 by simpa using h)
theorem sC{xs:List D}{i:Nat}(hp:0<i->DJ CW xs (i - 1)=true):DJ CW xs i=DJ aB xs i:=by
 unfold DJ
 cases hx:xs[i]? with
 | none=>rfl
 | some x =>
  simp only
  by_cases h0:i=0
  ·simp[h0]
  ·have hq:=hp (by omega)
   unfold DJ at hq
   cases hy:xs[i - 1]? with
   | none=>rfl
   | some y =>
    rw[hy] at hq
    simp only[A6H] at hq
    by_cases h1:B9 x=true
    ·have:CW y x=aB y x:=oP hq.1.1.1 h1 f0
     simp only[this]
    ·simp[h1]
theorem mV(xs:List D):∀n,(A6Q n).all (DJ CW xs)=(A6Q n).all (DJ aB xs)
 | 0=>rfl
 | n+1=>by
  rw[cQ,cQ,← mV xs n]
  cases hq:(A6Q n).all (DJ CW xs) with
  | false=>rfl
  | true =>
   simp only[A62]
   exact sC fun h0=>A6B.1 hq (n - 1) (by simp;omega)
theorem mZ(d:D):qM d=bS d:=by
 unfold qM bS
 have:Fj CW (vl d)=Fj aB (vl d):=mV _ _
 rw[this]
 grind
theorem yX{xs:List D}(h:Fj aB xs=true):∀x∈xs,B9 x=true:=by
 intro x hx
 obtain⟨i,hi,rfl⟩:=A6T hx
 have:=A6B.1 h i (by simpa using hi)
 unfold DJ at this
 simp only[A6A hi,A6H] at this
 exact this.1.1.1
def Lu(x y:D):Bool:=(vk x==vk y)&&(vi x==vi y)&&(vs x==vs y)&& !decide ((0:Int)<(vl x).length)&& !decide ((0:Int)<(vl y).length)
def pQ(xs ys:List D)(i:Nat):Bool:=match xs[i]?,ys[i]? with
 | some x,some y=>Lu x y
 | _,_=>true
def Bt(a b:D):Bool:=if(vk a !=vk b)||(vi a !=vi b)||(vs a !=vs b)|| !((vl a).length==(vl b).length) then false else(A6Q (vl a).length).all (pQ (vl a) (vl b))
def FM:List D->Option D
 | [a,b]=>if a.isV=true/\b.isV=true then some (.bool (Bt a b)) else none
 | _=>none
theorem Gd(a b:Nat):((a:Int) !=(b:Int))= !(a==b):=by
 rw[A7D];simp;omega
theorem A1h[HasG Tryz.prog]:AQ Tryz.prog 54 FM:=by
 refine AN (l:=[]) .nil A45 fun args r h=>?_
 unfold FM at h
 split at h
 ·split at h
  ·rename_i a b hab
   injection h with h;subst h
   refine⟨by simp,by simp[D.cl],fun H T=>?_⟩
   obtain⟨ha,hb⟩:=hab
   obtain⟨k1,i1,s1,n1,xs,rfl,z1,y1,hV1⟩:=d9 ha
   obtain⟨k2,i2,s2,n2,ys,rfl,z2,y2,hV2⟩:=d9 hb
   have hS:Bt (mkV k1 i1 s1 n1 xs) (mkV k2 i2 s2 n2 ys)=if(k1 !=k2)||(i1 !=i2)||(s1 !=s2)|| !(xs.length==ys.length) then false else(A6Q xs.length).all (pQ xs ys):=by simp only[Bt,CK,Cl,Cj,C3]
   rw[hS]
   have bl:=Gd xs.length ys.length
   simp +contextual only[c54,mkV,bl,go_sem]
   intro q1 q2 q3 q4
   have hl:xs.length=ys.length:=by simpa using q4
   refine Ap (fun j s'=>s'.t 2= .ptr H.length 0/\s'.t 3= .ptr (H.length+1) 0/\s'.t 5= .int .i64 j/\Ext (H++[.row [.int .i64 k1,.int .i64 i1,.str s1,aV n1 xs],.row [.int .i64 k2,.int .i64 i2,.str s2,aV n2 ys]]) s'.H/\s'.T=T/\j<=xs.length/\(A6Q j).all (pQ xs ys)=true) xs.length ⟨0,by simp[upd,Ae,Nu]⟩ (fun i s h=>h.2.2.2.2.2.1) ?_ (AR _)
   rintro j ⟨t,B,T'⟩ ⟨h2,h3,h5,hE,rfl,hj,hc⟩
   simp only at h2 h3 h5 hE
   have b1:=hE.get (o:=H.length) (by simp;rfl)
   have b2:=hE.get (o:=H.length+1) (by simp;rfl)
   by_cases ha:j<xs.length
   ·have d1:decide ((j:Int)<xs.length)=true:=by simpa using ha
    obtain⟨k3,i3,s3,n3,l3,e3,hs3,hx3,hV3,eL3⟩:=CD hV1 ha
    obtain⟨k4,i4,s4,n4,l4,e4,hs4,hx4,hV4,eL4⟩:=CD hV2 (show j<ys.length by omega)
    have G:pQ xs ys j=((k3==k4)&&(i3==i4)&&(s3==s4)&& !decide ((0:Int)<l3.length)&& !decide ((0:Int)<l4.length)):=by
     simp only[pQ,e3,e4,Lu,CK,Cl,Cj,C3]
    have bad:pQ xs ys j=false->(A6Q xs.length).all (pQ xs ys)=false:=fun h=>C0 h ha
    simp +contextual only[h2,h3,h5,d1,e3,e4,mkV,AJ j (by omega),AM b1,AM b2,AO b1,AO b2,hE.ta,AS hE.pre (AY.refl _),go_sem]
    simp only[A63,hc,A6V,A67,A62,A6W,D.bool.injEq]
    rw[G] at bad ⊢
    clear G
    repeat' (first|apply A6N|intro _)
    all_goals first|omega|grind
   ·have d1:decide ((j:Int)<xs.length)=false:=by simpa using ha
    have hA:(A6Q xs.length).all (pQ xs ys)=true:=by
     have:j=xs.length:=by omega
     subst this;exact hc
    simp +contextual only[h2,h3,h5,d1,mkV,hA,AM b1,AM b2,Ad hE.pre (AY.refl _),go_sem]
  ·cases h
 ·cases h
def lex(p q:Int):Int:=if p !=0 then p else q
structure Tr(p q r:Int):Prop where
 le:p<=0->q<=0->r<=0
 l1:p<0->q<=0->r<0
 l2:p<=0->q<0->r<0
 e1:p=0->r=q
 e2:q=0->r=p
theorem Tr.lex{p q r p' q' r':Int}(h:Tr p q r)(k:p=0->q=0->Tr p' q' r'):Tr (lex p p') (lex q q') (lex r r'):=by
 obtain⟨a1,a2,a3,a4,a5⟩:=h
 unfold GP.lex
 by_cases hp:p=0
 ·by_cases hq:q=0
  ·have hr:r=0:=by rw[a4 hp,hq]
   subst hp;subst hq;subst hr
   simpa using k rfl rfl
  ·have hr:r=q:=a4 hp
   have hp':(p !=0)=false:=by simp[hp]
   have hq':(q !=0)=true:=by simp[hq]
   have hr':(r !=0)=true:=by rw[hr];exact hq'
   rw[hp',hq',hr']
   simp only[A64,if_false,if_true]
   subst hr
   refine⟨?_,?_,?_,?_,?_⟩<;>omega
 ·have hp':(p !=0)=true:=by simp[hp]
  rw[hp']
  by_cases hq:q=0
  ·have hr:r=p:=a5 hq
   have hq':(q !=0)=false:=by simp[hq]
   have hr':(r !=0)=true:=by rw[hr];exact hp'
   rw[hq',hr']
   simp only[A64,if_false,if_true]
   subst hr
   refine⟨?_,?_,?_,?_,?_⟩<;>omega
  ·have hq':(q !=0)=true:=by simp[hq]
   rw[hq']
   simp only[if_true]
   by_cases hr:r=0
   ·refine⟨?_,?_,?_,?_,?_⟩<;>(try omega)<;>intro h1 h2<;>(first|(have:=a2 (by omega) (by omega);omega)|omega)
   ·have hr':(r !=0)=true:=by simp[hr]
    rw[hr'];simp only[if_true]
    exact⟨a1,a2,a3,a4,a5⟩
theorem lH(a b c:Int):Tr (CZ a b) (CZ b c) (CZ a c):=by
 unfold CZ
 refine⟨?_,?_,?_,?_,?_⟩<;>(repeat' split)<;>omega
theorem dI(a b:Int):CZ b a= - CZ a b:=by unfold CZ;(repeat' split)<;>omega
theorem dF(a b:Int):CZ a b=0↔a=b:=by unfold CZ;(repeat' split)<;>omega
theorem mW{p q p' q':Int}(h:p'= -p)(k:q'= -q):lex p' q'= - lex p q:=by unfold lex;subst h;subst k;by_cases hp:p=0<;>simp[hp]
theorem nE{p q:Int}:lex p q=0↔p=0/\q=0:=by unfold lex;by_cases hp:p=0<;>simp[hp]
theorem c9(x y:UInt8)(a b:List UInt8):Ay (x::a) (y::b)=lex (CZ x.toNat y.toNat) (Ay a b):=by
 simp only[Ay,lex,CZ]
 by_cases h1:x.toNat<y.toNat
 ·have:(x.toNat:Int)<y.toNat:=by omega
  simp[h1,this]
 ·by_cases h2:y.toNat<x.toNat
  ·have e1: ¬(x.toNat:Int)<y.toNat:=by omega
   have e2:(y.toNat:Int)<x.toNat:=by omega
   simp[h1,h2,e1,e2]
  ·have e1: ¬(x.toNat:Int)<y.toNat:=by omega
   have e2: ¬(y.toNat:Int)<x.toNat:=by omega
   simp[h1,h2,e1,e2]
theorem qG:∀(a b c:List UInt8),Tr (Ay a b) (Ay b c) (Ay a c)
 | [],[],[]=>⟨by simp[Ay],by simp[Ay],by simp[Ay],by simp[Ay],by simp[Ay]⟩
 | [],[],_::_=>⟨by simp[Ay],by simp[Ay],by simp[Ay],by simp[Ay],by simp[Ay]⟩
 | [],_::_,[]=>⟨by simp[Ay],by simp[Ay],by simp[Ay],by simp[Ay],by simp[Ay]⟩
 | [],_::_,_::_=>⟨by simp[Ay],by simp[Ay],by simp[Ay],by simp[Ay],by simp[Ay]⟩
 | _::_,[],[]=>⟨by simp[Ay],by simp[Ay],by simp[Ay],by simp[Ay],by simp[Ay]⟩
 | _::_,[],_::_=>⟨by simp[Ay],by simp[Ay],by simp[Ay],by simp[Ay],by simp[Ay]⟩
 | _::_,_::_,[]=>⟨by simp[Ay],by simp[Ay],by simp[Ay],by simp[Ay],by simp[Ay]⟩
 | x::a,y::b,z::c=>by
  rw[c9,c9,c9]
  exact(lH _ _ _).lex fun _ _=>qG a b c
theorem jE:∀(a b:List UInt8),Ay b a= - Ay a b
 | [],[]=>rfl
 | [],_::_=>rfl
 | _::_,[]=>rfl
 | x::a,y::b=>by rw[c9,c9];exact mW (dI _ _) (jE a b)
theorem jM:∀(a b:List UInt8),Ay a b=0↔a=b
 | [],[]=>by simp[Ay]
 | [],_::_=>by simp[Ay]
 | _::_,[]=>by simp[Ay]
 | x::a,y::b=>by
  rw[c9,nE,dF,jM a b]
  constructor
  ·rintro⟨h1,h2⟩
   have:x=y:=UInt8.toNat_inj.1 (by omega)
   rw[this,h2]
  ·intro h;injection h with h1 h2;exact⟨by rw[h1],h2⟩
theorem bE(a b:D):aB a b=lex (CZ (vk a) (vk b)) (if vk a==3 then Ay (vs a) (vs b) else CZ (vi a) (vi b)):=by
 unfold aB kQ lex
 by_cases h:vk a=vk b
 ·simp[h,fT]
 ·simp[h,gL h]
theorem DP(a b c:D):Tr (aB a b) (aB b c) (aB a c):=by
 rw[bE,bE,bE]
 refine(lH _ _ _).lex fun h1 h2=>?_
 rw[dF] at h1 h2
 rw[<- h1]
 split
 ·exact qG _ _ _
 ·exact lH _ _ _
theorem m8(a b:D):aB b a= - aB a b:=by
 rw[bE,bE]
 by_cases h:vk a=vk b
 ·rw[h]
  refine mW (dI _ _) ?_
  split
  ·exact jE _ _
  ·exact dI _ _
 ·have h1:=gL h
  have h2:=gL (Ne.symm h)
  unfold lex
  simp only[bne_iff_ne,ne_eq,h1,not_false_eq_true,if_true,h2]
  exact dI _ _
theorem nI{a b:D}(ha:B9 a=true)(hb:B9 b=true):aB a b=0↔vk a=vk b/\vi a=vi b/\vs a=vs b:=by
 obtain⟨_,a1,a2,_⟩:=aZ ha
 obtain⟨_,b1,b2,_⟩:=aZ hb
 rw[bE,nE,dF]
 by_cases h:vk a=vk b
 ·by_cases h3:vk a=3
  ·rw[a1 h3,b1 (by omega)]
   simp[h,show vk b=3 by omega,jM]
  ·rw[a2 h3,b2 (by omega)]
   have: ¬vk b=3:=by omega
   simp[h,this,dF]
 ·simp[h]
end GP
namespace GP
open Go
variable {P:Program} [HasG P]
def XU(P:Program)[HasG P](u:List FuncId)(l:Fs)(m:FsH)(e:FsE):BF:=fun f a H T Q=>if u.contains f=true then Snd P f a H T Q else XE l m e f a H T Q
theorem XU.X{u:List FuncId}{l:Fs}{m:FsH}{e:FsE}(k:Ok P l)(k':OkH P m)(k'':OkE P e):∀f args H T Q Q',(∀r H T,Q r H T->Q' r H T)->XU P u l m e f args H T Q->Snd P f args H T Q':=by
 intro f args H T Q Q' hQ h
 unfold XU at h
 split at h
 ·exact Snd.mono _ _ _ _ _ _ hQ h
 ·exact XE.X k k' k'' f args H T Q Q' hQ h
theorem Ou(u:List FuncId)(l:Fs)(m:FsH)(e:FsE):GA (XU P u l m e):=by
 intro f args H T Q Q' hQ h
 unfold XU at h ⊢
 split at h
 ·rename_i c;rw[if_pos c];exact Snd.mono _ _ _ _ _ _ hQ h
 ·rename_i c;rw[if_neg c];exact Dc l m e _ _ _ _ _ _ hQ h
theorem Fe(u:List FuncId)(l:Fs)(m:FsH)(e:FsE)(f:FuncId)(args:List D)(H:Hp)(T:Tk)(Q:Bg):XU P u l m e f args H T Q=if u.contains f=true then Snd P f args H T Q else orX Q H T (DQ l f (D.eraseL args)) (CE m H f (D.eraseL args)) (E5 e H f (D.eraseL args)):=by
 unfold XU
 rw[A0]
theorem RL{u:List FuncId}{l:Fs}{m:FsH}{e:FsE}(hm:B0 m)(args:List D)(K:D->S->Prop)(s:S)(f:FuncId)(first cap:List D):
  bW (XU P u l m e) args K s (.fn f first cap)=if(u.contains f||inE e f)=true then M7 (XU P u l m e) args K s (.fn f first cap) else orK K s (DQ l f (D.eraseL (first++args++cap))) (CE m s.H f (D.eraseL (first++args++cap))):=by
 cases hu:u.contains f with
 | true=>rfl
 | false =>
  simp only[A7c]
  have hx:∀a H T Q,XU P u l m e f a H T Q=XE l m e f a H T Q:=by
   intro a H T Q;unfold XU;rw[hu];rfl
  cases he:inE e f with
  | true=>rfl
  | false =>
   rw[if_neg (by simp)]
   have:=B5 (l:=l) (e:=e) hm args K s f first cap
   rw[he,if_neg (by simp)] at this
   rw[<- this]
   simp only[bW,eq_iff_iff]
   unfold Tp
   simp only[hx]
def VE(K:D->S->Prop)(t:Nat->D):Bg:=fun r H T=>K r ⟨t,H,T⟩
theorem tL(X:BF)(args:List D)(K:D->S->Prop)(s:S)(f:FuncId)(first cap:List D):HP X args K s (.fn f first cap)=X f (first++args++cap) s.H s.T (VE K s.t):=id rfl
theorem R2(K:D->S->Prop)(t:Nat->D)(r:D)(H:Hp)(T:Tk):VE K t r H T=K r ⟨t,H,T⟩:=id rfl
def orL(Q:Bg)(H:Hp)(T:Tk):Option D->Prop
 | some r=>Q r H T
 | none=>False
theorem zI(l:Fs)(f:FuncId)(args:List D)(H:Hp)(T:Tk)(Q:Bg):XL l f args H T Q=orL Q H T (DQ l f (D.eraseL args)):=by
 unfold XL orL
 cases DQ l f (D.eraseL args)<;>rfl
theorem zJ(Q:Bg)(H:Hp)(T:Tk)(r:D):orL Q H T (some r)=Q r H T:=id rfl
attribute [go_sem] tL R2 zI zJ A0 zO zY zU A5 rQ oV xE v8 sZ oL A8 zR
theorem T9{X:BF}(hX:∀f args H T Q Q',(∀r H T,Q r H T->Q' r H T)->X f args H T Q->Snd P f args H T Q'){f:FuncId}{n:Nat}{rs:List (Sum Nat (Nat×Bool×Nat))}{cc:C}(hf:Fn P f n rs cc){φ:Hp->List D->Option (D×Hp)}
  (h:∀H args r H1,φ H args=some (r,H1)->args.length<=n/\r.cl H1.length 0=true/\Co H H1 0/\∀T,W X cc (Ds rs (BV r H1 T)) ⟨Ae args,H,T⟩):Am P f φ:=by
 intro H args r H1 hr args' he T Q hQ
 obtain⟨h1,h2,h4,h3⟩:=h H args r H1 hr
 have hS:Snd P f args H T (BV r H1 T):=Ed hf h1 (dX hX (fun _ _ h=>h) (h3 T))
 intro c w vs kg k1 k2 k3
 have k3':Reps c args vs:=by rw[<- he];exact k3.erase
 have hcl:=D.cl_mono (A6K H1.length) (A7d T.length) r h2
 have hC:Co H H1 T.length:=⟨h4.1,fun o x cs a b=>(h4.2 o x cs a b).imp id (D.clL_mono (A6K _) (A7d _) cs)⟩
 rcases hS c w vs kg k1 k2 k3' with⟨g1,g2⟩|⟨v,w',g1,g2⟩
 ·exact .inl ⟨g1,g2.mono fun e w' k=>iX.forgetE k1 k2 hcl hC hQ k⟩
 ·exact .inr ⟨v,w',g1,iX.forgetE k1 k2 hcl hC hQ g2⟩
theorem UJ{X:BF}(hX:∀f args H T Q Q',(∀r H T,Q r H T->Q' r H T)->X f args H T Q->Snd P f args H T Q'){f:FuncId}{n:Nat}{rs:List (Sum Nat (Nat×Bool×Nat))}{cc:C}(hf:Fn P f n rs cc){φ:List D->Option D}
  (h:∀args r,φ args=some r->args.length<=n/\r.cl 0 0=true/\∀H T,W X cc (Ds rs (BV r H T)) ⟨Ae args,H,T⟩):AQ P f φ:=by
 intro args r hr args' he H T Q hQ
 refine T9 hX hf (φ:=fun H a=>(φ a).map fun r=>(r,H)) (fun H a r H1 hr=>?_) H args r H (by simp[hr]) args' he T Q hQ
 cases ha:φ a with
 | none=>rw[ha] at hr;cases hr
 | some r' =>
  rw[ha] at hr;simp only[Option.map_some,Option.some.injEq,Prod.mk.injEq] at hr
  obtain⟨rfl,rfl⟩:=hr
  obtain⟨h1,h2,h3⟩:=h a r' ha
  exact⟨h1,D.cl_mono (A7d _) (A6K _) r' h2,Co.refl _ _,fun T=>h3 H T⟩
theorem Ext.set{H B:Hp}(h:Ext H B){o:Nat}(ho:H.length<=o)(x:Ob):Ext H (B.set o x):=by
 obtain⟨L,rfl⟩:=h
 exact⟨L.set (o - H.length) x,by rw[List.set_append_right _ _ ho]⟩
theorem Em{r r0:D}{H B:Hp}{T U:Tk}(hr:Crs r r0)(h:Ext H B)(k:AY T U):BV r0 H T r B U:=by
 obtain⟨L,rfl⟩:=h;obtain⟨M,rfl⟩:=k
 exact⟨r,_,.refl _ _,hr,⟨H,L,rfl,K6.refl H⟩,M,rfl⟩
theorem OP{r r0:D}{H B:Hp}{T U:Tk}(o:Nat)(cs:List D)(ho:B[o]? =some (.row cs))(hl:H.length<=o)(hr:Crs (r.fz o cs) r0)(h:Ext H B)(k:AY T U):BV r0 H T r B U:=by
 obtain⟨L,e⟩:=h.set hl .dead;obtain⟨M,rfl⟩:=k
 exact⟨_,_,.step o cs ho (.refl _ _),hr,⟨H,L,e,K6.refl H⟩,M,rfl⟩
@[go_sem] theorem A53(off n:Nat)(cs:List D):fld false off n (.agg cs)=cs[off]?:=id rfl
end GP
namespace Go.Proofs
open Go.Shelf Go.RowKit Go.Lib Go.Sort
shelf_lay_g SlLaysF0.n6 Slsf 6 at Tryz 248 as Tryz.sortVal
end Go.Proofs
namespace GP
open Go Go.Proofs
set_option maxRecDepth 100000
def K8:List D->Option D
 | [a,b]=>if a.isV=true/\b.isV=true/\leaf a=true/\leaf b=true then some (.bool (CW a b==0)) else none
 | _=>none
theorem A1u[HasG Tryz.prog]:AQ Tryz.prog 250 K8:=by
 refine AN (l:=[(64,Jv Tm f0)]) (.cons Ry .nil) ZW fun args r h=>?_
 unfold K8 at h
 split at h
 ·split at h
  ·rename_i a b hab
   injection h with h;subst h
   obtain⟨ha,hb,hla,hlb⟩:=hab
   have p:=K4 ha hb hla hlb
   refine⟨by simp,by simp[D.cl],fun H T=>?_⟩
   obtain⟨k1,i1,s1,n1,l1,rfl,z1,y1,hV1⟩:=d9 ha
   obtain⟨k2,i2,s2,n2,l2,rfl,z2,y2,hV2⟩:=d9 hb
   have r1:=l9 hV1
   have r2:=l9 hV2
   simp only[mkV] at p
   simp +contextual only[YQ,mkV,p,r1,r2,go_sem]
  ·cases h
 ·cases h
def Ii:List D->Option D
 | [.nils,.int .i64 a,.int .i64 b,.fn 64 [] []]=>if a=0/\b=0 then some (.tup []) else none
 | [.sl none [],.int .i64 a,.int .i64 b,.fn 64 [] []]=>if a=0/\b=0 then some (.tup []) else none
 | [.ms true 4 _ _ 0 _,.int .i64 a,.int .i64 b,.fn 64 [] []]=>if a=0/\b=0 then some (.tup []) else none
 | _=>none
theorem A18[HasG Tryz.prog]:AQ Tryz.prog 253 Ii:=by
 refine AN (l:=[]) .nil ZC fun args r h=>?_
 unfold Ii at h
 split at h<;>first|(cases h;done)|skip
 all_goals
  split at h
  ·rename_i hab
   obtain⟨rfl,rfl⟩:=hab
   injection h with h;subst h
   refine⟨by simp,by simp[D.cl,D.clL],fun H T=>?_⟩
   simp +contextual only[A1W,go_sem]
   refine Ap (fun i s'=>s'.t 8= .int .i64 1/\s'.t 2= .int .i64 0/\s'.H=H/\s'.T=T/\i<=0) 0 ⟨0,by simp[upd,Ae,kU]⟩ (fun i s h=>h.2.2.2.2) ?_ (AR _)
   rintro i ⟨t,B,T'⟩ ⟨r8,r2,rfl,rfl,hi⟩
   simp only at r8 r2
   have d1:decide ((1:Int)<0)=false:=by decide
   simp +contextual only[r8,r2,d1,go_sem]
  ·cases h
def Ir:List D->Option D
 | [.nils,.int .i64 a,.int .i64 b,.int .i64 _,.fn 64 [] []]=>if a=0/\b=0 then some (.tup []) else none
 | [.sl none [],.int .i64 a,.int .i64 b,.int .i64 _,.fn 64 [] []]=>if a=0/\b=0 then some (.tup []) else none
 | [.ms true 4 _ _ 0 _,.int .i64 a,.int .i64 b,.int .i64 _,.fn 64 [] []]=>if a=0/\b=0 then some (.tup []) else none
 | _=>none
theorem Xa[HasG Tryz.prog]:AQ Tryz.prog 251 Ir:=by
 refine AN (l:=[(253,Ii)]) (.cons A18 .nil) YE fun args r h=>?_
 have p1:Ii [.nils,.int .i64 0,.int .i64 0,.fn 64 [] []]=some (.tup []):=rfl
 have p2:Ii [.sl none [],.int .i64 0,.int .i64 0,.fn 64 [] []]=some (.tup []):=rfl
 have p3:∀o off cap,Ii [.ms true 4 o off 0 cap,.int .i64 0,.int .i64 0,.fn 64 [] []]=some (.tup []):=fun _ _ _=>rfl
 have w0:IntKind.i64.wrap (0 - 0)=0:=by decide
 have d0:decide ((0:Int)<=12)=true:=by decide
 unfold Ir at h
 split at h<;>first|(cases h;done)|skip
 all_goals
  split at h
  ·rename_i z hab
   obtain⟨rfl,rfl⟩:=hab
   injection h with h;subst h
   refine⟨by simp,by simp[D.cl,D.clL],fun H T=>?_⟩
   simp +contextual only[A0R,go_sem]
   refine Ap (fun i s'=>(s'.t 0= .nils∨s'.t 0= .sl none []∨∃o off cap,s'.t 0= .ms true 4 o off 0 cap)/\s'.t 1= .int .i64 0/\s'.t 2= .int .i64 0/\s'.t 4= .fn 64 [] []/\s'.H=H/\s'.T=T/\i<=0) 0 ⟨0,by simp[upd,Ae],by simp[upd,Ae],by simp[upd,Ae],by simp[upd,Ae],rfl,rfl,A6K _⟩ (fun i s h=>h.2.2.2.2.2.2) ?_ (AR _)
   rintro i ⟨t,B,T'⟩ ⟨r0,r1,r2,r4,rfl,rfl,hi⟩
   simp only at r0 r1 r2 r4
   rcases r0 with r0|r0|⟨o,off,cap,r0⟩
   ·simp +contextual only[r0,r1,r2,r4,p1,w0,d0,go_sem]
   ·simp +contextual only[r0,r1,r2,r4,p2,w0,d0,go_sem]
   ·simp +contextual only[r0,r1,r2,r4,p3,w0,d0,go_sem]
  ·cases h
theorem Va{P:Program}[HasG P]{f:FuncId}{φ:List D->Option D}(h:∀args r,φ args=some r->∀(c:Cx) (w:World) (vs:List Value),Reps c args vs->(callFunc f vs.toArray).run P w= .ok (.enter f vs.toArray) w ∧
   Calls P f vs.toArray w fun e w'=>∃v,e= .returned v/\Rep c r v/\w'=w):AQ P f φ:=by
 intro args r hr args' he H T Q hQ c w vs hg k1 k2 k3
 have k3':Reps c args vs:=by rw[<- he];exact k3.erase
 obtain⟨g1,g2⟩:=h args r hr c w vs k3'
 refine .inl ⟨g1,g2.mono ?_⟩
 rintro e w' ⟨v,rfl,h1,rfl⟩
 exact⟨v,rfl,r,H,T,c,hQ,h1,k1,Cx.le.refl c,k2,Below.refl _ _⟩
def MO:List D->Option D
 | [.int .u64 n]=>if n=0 then some (.int .i64 0) else none
 | _=>none
theorem A0C[HasG Tryz.prog]:AQ Tryz.prog 252 MO:=by
 refine Va fun args r h c w vs hr=>?_
 unfold MO at h
 split at h
 ·split at h
  ·rename_i hn
   subst hn
   injection h with h;subst h
   match vs,hr.len with
   | [v],_ =>
    have h1:=hr.rep 0 (by simp) (by simp)
    simp only[A65] at h1
    cases h1
    have e252:∀args w,(callFunc 252 args).run Tryz.prog w= .ok (.enter 252 args) w:=enters_of Tryz.func252 (by kernel_rfl) rfl
    refine⟨e252 _ _,?_⟩
    have:=Go.Proofs.Any.bits_Len (SlLaysF0.n15.bits (P:=Tryz.prog) (ρ:=Tryz.sortVal_ren) { Tryz.sortVal with }) (0:Int) w (by omega) (by omega)
    refine Calls.mono (show Calls Tryz.prog 252 _ _ _ from this) ?_
    rintro e w' ⟨rfl,rfl⟩
    exact⟨_,rfl,.int _ _,rfl⟩
  ·cases h
 ·cases h
def MA:List D->Option D
 | [.nils,.fn 64 [] []]=>some (.tup [])
 | [.sl none [],.fn 64 [] []]=>some (.tup [])
 | [.ms true 4 _ _ 0 _,.fn 64 [] []]=>some (.tup [])
 | _=>none
theorem YP[HasG Tryz.prog]:AQ Tryz.prog 248 MA:=by
 refine AN (l:=[(251,Ir),(252,MO)]) (.cons Xa (.cons A0C .nil)) A2n fun args r h=>?_
 have p1:Ir [.nils,.int .i64 0,.int .i64 0,.int .i64 0,.fn 64 [] []]=some (.tup []):=rfl
 have p2:Ir [.sl none [],.int .i64 0,.int .i64 0,.int .i64 0,.fn 64 [] []]=some (.tup []):=rfl
 have p4:∀o off cap,Ir [.ms true 4 o off 0 cap,.int .i64 0,.int .i64 0,.int .i64 0,.fn 64 [] []]=some (.tup []):=fun _ _ _=>rfl
 have p3:MO [.int .u64 0]=some (.int .i64 0):=rfl
 have w0:IntKind.u64.wrap 0=0:=by decide
 unfold MA at h
 split at h<;>first|(cases h;done)|skip
 all_goals
  injection h with h;subst h
  refine⟨by simp,by simp[D.cl,D.clL],fun H T=>?_⟩
  simp +contextual only[A0l,p1,p2,p3,p4,w0,go_sem]
end GP
namespace GP
open Go Go.Proofs
set_option maxRecDepth 100000
theorem GY{xs:List D}(h:∀x∈xs,x.isV=true):Fm 4 xs:=fun x hx=>by
 obtain⟨k,i,s,n,l,rfl,_⟩:=d9 (h x hx)
 exact⟨_,rfl,rfl⟩
theorem Py[HasG Tryz.prog]{xs:List D}{H:Hp}{T:Tk}{Q:Bg}(hx:∀x∈xs,x.isV=true)(hne:xs≠[])(hl:xs.length<=2^40)(k:Q (.ms true 4 (H.length+1) 0 xs.length xs.length) (H++[.dead,.row (AX xs)]) T):Snd Tryz.prog 247 [.sl none xs] H T Q:=by
 refine Ed VP (by simp) (dX (X:=XL []) (Ok.X .nil) (fun _ _ h=>h) ?_)
 have hf:=(GY hx).fit
 cases xs with
 | nil=>exact absurd rfl hne
 | cons x r =>
  have e1:Option.map (fun b=>D.bool b) (Ko Tq.slc (D.sl none (x::r)) D.nils)=some (.bool false):=rfl
  simp +contextual only[VU,e1,go_sem]
  have ho:(H++[Ob.row (AX [])])[H.length]? =some (.row []):=by simp[AX]
  have hl': ¬(x::r).length=0:=by simp
  simp only[JB,ho]
  refine⟨hf,trivial,?_⟩
  rw[if_neg (by simp)]
  refine⟨by simp,by simp,by simp at hl ⊢;omega,by simp at hl ⊢;omega,?_⟩
  simp +contextual only[go_sem]
  have e:A7H (H++[Ob.row (AX [])]) H.length Ob.dead++[Ob.row (AX (x::r))]=H++[.dead,.row (AX (x::r))]:=by simp[List.set_append]
  rw[e]
  exact k
theorem FI{H:Hp}{o:Nat}{x:Ob}(h:H[o]? =some x):H.set o x=H:=by
 apply List.ext_getElem?
 intro i
 rw[List.getElem?_set]
 split
 ·rename_i e;subst e
  have:o<H.length:=by
   rcases A6L o H.length with h'|h'
   ·exact h'
   ·rw[A6D h'] at h;cases h
  rw[if_pos this,h]
 ·rfl
def IP(p:D):List D->List D
 | []=>[]
 | y::r=>if CW y p==0 then IP y r else y::IP y r
def Cb:List D->List D
 | []=>[]
 | x::r=>x::IP x r
theorem LZ(y:D):∀(l:List D) (p:D),IP p (l++[y])=if CW y ((p::l).getLast (by simp))==0 then IP p l else IP p l++[y]
 | [],p=>by simp[IP]
 | x::l,p=>by
  simp only[A7z,IP,LZ y l x,List.getLast_cons_cons]
  split<;>split<;>simp_all
theorem Ig{ys:List D}{j:Nat}(h0:0<j)(hj:j<ys.length){y p:D}(hy:ys[j]? =some y)(hp:ys[j - 1]? =some p):
  Cb (ys.take (j+1))=if CW y p==0 then Cb (ys.take j) else Cb (ys.take j)++[y]:=by
 cases ys with
 | nil=>simp at hj
 | cons x r =>
  obtain⟨m,rfl⟩:∃m,j=m+1:=⟨j - 1,by omega⟩
  simp only[A6R] at hj
  have hm:m<r.length:=by omega
  have ey:r[m]=y:=by simpa[hm] using hy
  have e1:r.take (m+1)=r.take m++[y]:=by rw[A6S,A6A hm,ey];rfl
  have e2:(x::r.take m).getLast (by simp)=p:=by
   have:(x::r).take (m+1)=x::r.take m:=rfl
   rw[List.getLast_eq_getElem]
   have hp':(x::r)[m]? =some p:=by simpa using hp
   have:(x::r.take m)[m]? =some p:=by
    rw[<- hp',← A66,A7b (by omega)]
   have hl:(x::r.take m).length - 1=m:=by simp;omega
   rw[A6A (by simp;omega)] at this
   simp only[hl]
   injection this
  simp only[A66,Cb]
  rw[e1,LZ,e2]
  split<;>simp
theorem Pz{ys:List D}{j:Nat}(h0:0<j)(hj:j<ys.length){y p:D}(hy:ys[j]? =some y)(hp:ys[j - 1]? =some p){S:List D}{i:Nat}(hS:S.length=ys.length)(h1:S.take i=Cb (ys.take j))(h2:S.drop i=ys.drop i)(hi:(Cb (ys.take j)).length=i)(hij:i<j)
  (hne:(CW y p==0)=false):(S.set i y).length=ys.length/\(S.set i y).take (i+1)=Cb (ys.take (j+1))/\(S.set i y).drop (i+1)=ys.drop (i+1)/\(Cb (ys.take (j+1))).length=i+1:=by
 have e:=Ig h0 hj hy hp
 rw[hne] at e
 simp only[A64,if_false] at e
 refine⟨by simp[hS],?_,?_,by rw[e];simp[hi]⟩
 ·rw[e,← h1,A6S,List.take_set_of_le (A6K _),A6F (by omega)];rfl
 ·rw[List.drop_set_of_lt (by omega),← A7F,h2,A7F]
theorem NY[HasG Tryz.prog]{ys rest:List D}{H:Hp}{o cap:Nat}{T:Tk}{Q:Bg}(ho:H[o]? =some (.row (AX ys++rest)))(hy:∀y∈ys,y.isV=true/\leaf y=true)(hl:ys.length<=2^40)(hcap:ys.length<=cap)
  (k:∀rest',Q (.ms true 4 o 0 (Cb ys).length cap) (H.set o (.row (AX (Cb ys)++rest'))) T):Snd Tryz.prog 249 [.ms true 4 o 0 ys.length cap,.fn 250 [] []] H T Q:=by
 refine Ed V7 (by simp) (dX (X:=XL [(250,K8)]) (Ok.X (.cons A1u .nil)) (fun _ _ h=>h) ?_)
 have hv:∀y∈ys,y.isV=true:=fun y h=>(hy y h).1
 have hag:=GY hv
 rcases tf (decide ((ys.length:Int)<2)) with g|g
 ·have hC:Cb ys=ys:=by
   simp only[decide_eq_true_eq] at g
   match ys,g with
   | [],_=>rfl
   | [x],_=>rfl
   | x::y::r,g=>simp at g;omega
  have k0:=k rest
  rw[hC,FI ho] at k0
  simp +contextual only[UR,g,go_sem]
  exact k0
 ·simp only[decide_eq_false_iff_not] at g
  have hd:decide ((ys.length:Int)<2)=false:=by simp only[decide_eq_false_iff_not];omega
  simp +contextual only[UR,hd,go_sem]
  refine Ap (fun i s'=>s'.t 0= .ms true 4 o 0 ys.length cap/\s'.t 1= .fn 250 [] []/\s'.t 5= .int .i64 ((i+1:Nat):Int)/\s'.H=H/\s'.T=T/\i+1<=ys.length/\Cb (ys.take (i+1))=ys.take (i+1)) ys.length
   ⟨0,by simp[upd,Ae],by simp[upd,Ae],by simp[upd,Ae],rfl,rfl,by omega,?_⟩ (fun i s h=>by have:=h.2.2.2.2.2.1;omega) ?_ (AR _)
  ·cases ys with
   | nil=>rfl
   | cons x r=>rfl
  rintro i ⟨t,B,T'⟩ ⟨r0,r1,r5,rfl,rfl,hi,hC⟩
  simp only at r0 r1 r5 ho k
  by_cases hlt:i+1<ys.length
  ·have d1:decide (((i+1:Nat):Int)<ys.length)=true:=by simp only[decide_eq_true_eq];omega
   have ex:ys[i+1]? =some ys[i+1]:=by simp[hlt]
   have ep:ys[i]? =some ys[i]:=by rw[A6A (by omega)]
   obtain⟨x,hx⟩:∃x,ys[i+1]=x:=⟨_,rfl⟩
   obtain⟨p,hp⟩:∃p,ys[i]=p:=⟨_,rfl⟩
   rw[hx] at ex;rw[hp] at ep
   have l1:=PK (off:=(i+1)*4) ho hag ex (by omega)
   have l2:=PK (off:=i*4) ho hag ep (by omega)
   have i1:=K3 (ag:=true) (sz:=4) (o:=o) (off:=0) (cap:=cap) (k:=.i64) hlt
   have i2:=K3 (ag:=true) (sz:=4) (o:=o) (off:=0) (cap:=cap) (k:=.i64) (show i<ys.length by omega)
   have hxv:=hy x (A6C ex)
   have hpv:=hy p (A6C ep)
   have hc:K8 [x,p]=some (.bool (CW x p==0)):=by simp only[K8];rw[if_pos ⟨hxv.1,hpv.1,hxv.2,hpv.2⟩]
   have w1:IntKind.i64.wrap (((i+1:Nat):Int) - 1)=(i:Nat):=by rw[show((i+1:Nat):Int) - 1=(i:Nat) by omega];exact kU _ (by omega) (by omega)
   have w2:IntKind.i64.wrap (((i+1:Nat):Int)+1)=((i+1+1:Nat):Int):=by rw[show((i+1:Nat):Int)+1=((i+1+1:Nat):Int) by omega];exact kU _ (by omega) (by omega)
   have er:D.eraseL [x,p]=[x,p]:=by
    obtain⟨k1,j1,s1,n1,m1,rfl,_,_,hV1⟩:=d9 hxv.1
    obtain⟨k2,j2,s2,n2,m2,rfl,_,_,hV2⟩:=d9 hpv.1
    exact l9 (by simp[hxv.1,hpv.1])
   have hstep:=Ig (ys:=ys) (j:=i+1) (by omega) hlt ex (by simpa using ep)
   rcases tf (CW x p==0) with g0|g0
   ·rw[g0] at hc hstep
    simp only[if_true] at hstep
    have s1:=MP (ag:=true) (sz:=4) (o:=o) (off:=0) (n:=ys.length) (cap:=cap) (l:=i+1) (h:=ys.length) (by omega) (A6K _) (by omega)
    rw[A7j] at s1
    simp +contextual only[r0,r1,r5,d1,w1,l1,l2,i1,i2,hc,er,s1,go_sem]
    refine Ap (fun m s'=>∃S q,s'.t 0= .ms true 4 o 0 ys.length cap/\s'.t 1= .fn 250 [] []/\s'.t 5= .int .i64 ((q:Nat):Int)/\s'.t 6= .ms true 4 o ((i+1)*4) (ys.length - (i+1)) (cap - (i+1))/\s'.t 7= .int .i64 ((m+1:Nat):Int)/\s'.H=B.set o (.row (AX S++rest))/\s'.T=T' ∧
      S.length=ys.length/\S.take q=Cb (ys.take (i+1+m+1))/\S.drop q=ys.drop q/\(Cb (ys.take (i+1+m+1))).length=q/\q<i+1+m+1/\i+1+m+1<=ys.length/\(∀y∈S,y.isV=true/\leaf y=true)) ys.length
     ⟨0,ys,i+1,by simp[upd,r0],by simp[upd,r1],by simp[upd,r5],by simp[upd],by simp[upd],by rw[FI ho],rfl,rfl,?_,rfl,?_,by omega,by omega,hy⟩ (fun m s h=>by obtain⟨_,_,h⟩:=h;have:=h.2.2.2.2.2.2.2.2.2.2.2.2.1;omega) ?_ (AR _)
    ·rw[hstep,hC]
    ·rw[hstep,hC];simp;omega
    rintro m ⟨t2,B2,T2⟩ ⟨S,q,r0,r1,r5,r6,r7,rfl,rfl,hS,h1,h2,hq,hqj,hj,hSv⟩
    simp only at r0 r1 r5 r6 r7
    have hagS:=GY (fun y h=>(hSv y h).1)
    have hoB:o<B.length:=by
     rcases A6L o B.length with h'|h'
     ·exact h'
     ·rw[A6D h'] at ho;cases ho
    have hB2:(B.set o (Ob.row (AX S++rest)))[o]? =some (.row (AX S++rest)):=by rw[A6F hoB]
    have hge:∀z,q<=z->S[z]? =ys[z]?:=fun z hz=>by
     have:=congrArg (fun l=>l[z - q]?) h2
     simp only[A7r] at this
     rwa [show q+(z - q)=z by omega] at this
    by_cases hlt2:i+1+m+1<ys.length
    ·have d2:decide (((m+1:Nat):Int)<((ys.length - (i+1):Nat):Int))=true:=by simp only[decide_eq_true_eq];omega
     obtain⟨x,hx2⟩:∃x,ys[i+1+m+1]=x:=⟨_,rfl⟩
     obtain⟨p,hp2⟩:∃p,ys[i+1+m]=p:=⟨_,rfl⟩
     have ex2:ys[i+1+m+1]? =some x:=by rw[A6A hlt2,hx2]
     have ep2:ys[i+1+m]? =some p:=by rw[A6A (by omega),hp2]
     have exS:S[i+1+m+1]? =some x:=by rw[hge _ (by omega)];exact ex2
     have epS:S[i+1+m]? =some p:=by rw[hge _ (by omega)];exact ep2
     have l1:=PK (off:=(i+1)*4+(m+1)*4) hB2 hagS exS (by omega)
     have l2:=PK (off:=(i+1)*4+m*4) hB2 hagS epS (by omega)
     have i1:=K3 (ag:=true) (sz:=4) (o:=o) (off:=(i+1)*4) (cap:=cap - (i+1)) (k:=.i64) (n:=ys.length - (i+1)) (i:=m+1) (by omega)
     have i2:=K3 (ag:=true) (sz:=4) (o:=o) (off:=(i+1)*4) (cap:=cap - (i+1)) (k:=.i64) (n:=ys.length - (i+1)) (i:=m) (by omega)
     have i3:=K3 (ag:=true) (sz:=4) (o:=o) (off:=0) (cap:=cap) (k:=.i64) (n:=ys.length) (i:=q) (by omega)
     rw[A7j] at i3
     have hxv:=hy x (A6C ex2)
     have hpv:=hy p (A6C ep2)
     have hc:K8 [x,p]=some (.bool (CW x p==0)):=by simp only[K8];rw[if_pos ⟨hxv.1,hpv.1,hxv.2,hpv.2⟩]
     have w1:IntKind.i64.wrap (((m+1:Nat):Int) - 1)=(m:Nat):=by rw[show((m+1:Nat):Int) - 1=(m:Nat) by omega];exact kU _ (by omega) (by omega)
     have w2:IntKind.i64.wrap (((m+1:Nat):Int)+1)=((m+1+1:Nat):Int):=by rw[show((m+1:Nat):Int)+1=((m+1+1:Nat):Int) by omega];exact kU _ (by omega) (by omega)
     have w3:IntKind.i64.wrap (((q:Nat):Int)+1)=((q+1:Nat):Int):=by rw[show((q:Nat):Int)+1=((q+1:Nat):Int) by omega];exact kU _ (by omega) (by omega)
     have er:D.eraseL [x,p]=[x,p]:=l9 (by simp[hxv.1,hpv.1])
     have hst:=Ig (ys:=ys) (j:=i+1+m+1) (by omega) hlt2 ex2 (by simpa using ep2)
     rcases tf (CW x p==0) with g1|g1
     ·rw[g1] at hc hst
      simp only[if_true] at hst
      simp +contextual only[r0,r1,r5,r6,r7,d2,w1,w2,l1,l2,i1,i2,i3,hc,er,go_sem]
      have ej:i+1+(m+1)+1=i+1+m+1+1:=by omega
      rw[ej]
      exact⟨S,q,rfl,rfl,hS,by rw[hst];exact h1,h2,by rw[hst];exact hq,by omega,by omega,hSv⟩
     ·rw[g1] at hc hst
      have hx4:∃l,x= .agg l/\l.length=4:=GY (xs:=[x]) (by simp[hxv.1]) x (by simp)
      simp +contextual only[r0,r1,r5,r6,r7,d2,w1,w2,l1,l2,i1,i2,i3,hc,er,go_sem]
      refine YV hB2 hagS hx4 (by omega) rfl ?_
      simp +contextual only[r0,r1,r5,r6,r7,w2,w3,go_sem]
      have ej:i+1+(m+1)+1=i+1+m+1+1:=by omega
      rw[ej]
      obtain⟨c1,c2,c3,c4⟩:=Pz (by omega) hlt2 ex2 (by simpa using ep2) hS h1 h2 hq hqj g1
      refine⟨S.set q x,q+1,rfl,by rw[A68],c1,c2,c3,c4,by omega,by omega,fun y h=>?_⟩
      rcases List.mem_or_eq_of_mem_set h with h'|rfl
      ·exact hSv y h'
      ·exact hxv
    ·have d2:decide (((m+1:Nat):Int)<((ys.length - (i+1):Nat):Int))=false:=by simp only[decide_eq_false_iff_not];omega
     have ej:i+1+m+1=ys.length:=by omega
     rw[ej,A6U] at h1 hq
     have s2:=MP (ag:=true) (sz:=4) (o:=o) (off:=0) (n:=ys.length) (cap:=cap) (l:=q) (h:=ys.length) (by omega) (A6K _) (by omega)
     rw[A7j] at s2
     have s3:=Tb (ag:=true) (sz:=4) (o:=o) (off:=0) (n:=ys.length) (cap:=cap) (h:=q) (by omega) (by omega)
     simp +contextual only[r0,r1,r5,r6,r7,d2,s2,go_sem]
     refine WF hB2 hagS rfl (by omega) rfl (fun rest'=>?_)
     simp +contextual only[r0,r1,r5,s3,go_sem]
     rw[h1,A68]
     have k0:=k rest'
     rw[hq] at k0
     exact k0
   ·rw[g0] at hc hstep
    simp only[A64,if_false] at hstep
    simp +contextual only[r0,r1,r5,d1,w1,l1,l2,i1,i2,hc,er,w2,go_sem]
    refine⟨by omega,?_⟩
    rw[hstep,hC,A6S (i:=i+1),ex];rfl
  ·have d1:decide (((i+1:Nat):Int)<ys.length)=false:=by simp only[decide_eq_false_iff_not];omega
   have e:i+1=ys.length:=by omega
   have k0:=k rest
   rw[e,A6U] at hC
   rw[hC,FI ho] at k0
   simp +contextual only[r0,r1,r5,d1,go_sem]
   exact k0
def can(d:D):D:=mkV (vk d) (vi d) (vs d) false []
theorem v3(d:D):vk (can d)=vk d:=by simp[can,CK]
theorem tI(d:D):vi (can d)=vi d:=by simp[can,Cl]
theorem vS(d:D):vs (can d)=vs d:=by simp[can,Cj]
theorem yY(d:D):vl (can d)=[]:=by simp[can,C3]
theorem wW(d:D):can (can d)=can d:=by simp only[can,CK,Cl,Cj]
theorem uS{d:D}(h:B9 d=true):B9 (can d)=true:=by
 have hl:(vl d).length=0:=iP h
 unfold B9 at h ⊢
 rw[v3,tI,vS,yY]
 rw[hl] at h;exact h
theorem Kh(a b:D):aB (can a) (can b)=aB a b:=by
 rw[bE,bE];simp only[v3,tI,vS]
theorem yG{a b:D}(ha:B9 a=true)(hb:B9 b=true):aB a b=0↔can a=can b:=by
 rw[nI ha hb]
 constructor
 ·rintro⟨h1,h2,h3⟩
  simp only[can,h1,h2,h3]
 ·intro h
  have h1:=congrArg vk h;have h2:=congrArg vi h;have h3:=congrArg vs h
  simp only[v3,tI,vS] at h1 h2 h3
  exact⟨h1,h2,h3⟩
theorem Dl(a:D):aB a a=0:=by
 have:=m8 a a;omega
def CC(l:List D):Prop:=l.Pairwise fun a b=>aB a b<0
def DK(l:List D):Prop:=∀x∈l,B9 x=true
theorem GR:∀(A B:List D),CC A->CC B->(∀x,x∈A↔x∈B)->A=B
 | [],B,_,_,h=>by
  cases B with
  | nil=>rfl
  | cons b B=>exact absurd ((h b).2 (by simp)) (by simp)
 | a::A,[],_,_,h=>absurd ((h a).1 (by simp)) (by simp)
 | a::A,b::B,hA,hB,h=>by
  unfold CC at hA hB
  rw[A6J] at hA hB
  have e:a=b:=by
   rcases A6G.1 ((h a).1 (by simp)) with e|h1
   ·exact e
   rcases A6G.1 ((h b).2 (by simp)) with e|h2
   ·exact e.symm
   have k1:=hB.1 a h1
   have k2:=hA.1 b h2
   have:=m8 a b
   omega
  subst e
  have nA:a ∉ A:=fun hm=>by have:=hA.1 a hm;rw[Dl] at this;omega
  have nB:a ∉ B:=fun hm=>by have:=hB.1 a hm;rw[Dl] at this;omega
  rw[GR A B hA.2 hB.2 fun x=>?_]
  have:=h x
  constructor
  ·intro hx
   rcases A6G.1 (this.1 (by simp[hx])) with rfl|h1
   ·exact absurd hx nA
   ·exact h1
  ·intro hx
   rcases A6G.1 (this.2 (by simp[hx])) with rfl|h1
   ·exact absurd hx nB
   ·exact h1
def Kl:List D->D->List D
 | [],x=>[x]
 | z::r,x=>if aB z x<0 then z::Kl r x else if aB z x==0 then z::r else x::z::r
def DF(xs:List D):List D:=(xs.map can).foldl Kl []
theorem iE{x:D}(hx:B9 x=true)(cx:can x=x):∀(zs:List D),DK zs->(∀z∈zs,can z=z)->∀y,y∈Kl zs x↔y∈zs∨y=x
 | [],_,_,y=>by simp[Kl]
 | z::r,hz,cz,y=>by
  have ih:=iE hx cx r (fun w hw=>hz w (by simp[hw])) (fun w hw=>cz w (by simp[hw])) y
  unfold Kl
  split
  ·simp only[A6G,ih]
   constructor
   ·rintro(h|h|h)<;>simp[h]
   ·rintro((h|h)|h)<;>simp[h]
  ·split
   ·rename_i h0
    have e:z=x:=by
     have:=(yG (hz z (by simp)) hx).1 (by simpa using h0)
     rw[cz z (by simp),cx] at this;exact this
    subst e
    constructor
    ·intro h;exact .inl h
    ·rintro(h|rfl)
     ·exact h
     ·simp
   ·simp only[A6G]
    constructor
    ·rintro(h|h)<;>simp[h]
    ·rintro(h|h)<;>simp[h]
theorem gD{x:D}(hx:B9 x=true)(cx:can x=x):∀(zs:List D),DK zs->(∀z∈zs,can z=z)->CC zs->CC (Kl zs x)
 | [],_,_,_=>by simp[Kl,CC]
 | z::r,hz,cz,h=>by
  have hr:DK r:=fun w hw=>hz w (by simp[hw])
  have cr:∀w∈r,can w=w:=fun w hw=>cz w (by simp[hw])
  unfold CC at h
  rw[A6J] at h
  unfold Kl
  split
  ·rename_i h0
   refine A6J.2 ⟨fun y hy=>?_,gD hx cx r hr cr h.2⟩
   rcases(iE hx cx r hr cr y).1 hy with hy|rfl
   ·exact h.1 y hy
   ·exact h0
  ·split
   ·exact A6J.2 h
   ·rename_i h0 h1
    have hlt:aB x z<0:=by
     have:=m8 z x
     have h1': ¬aB z x=0:=by simpa using h1
     omega
    refine A6J.2 ⟨fun y hy=>?_,A6J.2 h⟩
    rcases A6G.1 hy with rfl|hy
    ·exact hlt
    ·exact(DP x z y).l1 hlt (by have:=h.1 y hy;omega)
theorem nG:∀(xs zs:List D),DK xs->(∀x∈xs,can x=x)->DK zs->(∀z∈zs,can z=z)->CC zs->CC (xs.foldl Kl zs)/\(∀y,y∈xs.foldl Kl zs↔y∈zs∨y∈xs)
 | [],zs,_,_,_,_,hr=>⟨hr,by simp⟩
 | x::xs,zs,hx,cx,hz,cz,hr=>by
  have m:=iE (hx x (by simp)) (cx x (by simp)) zs hz cz
  have ih:=nG xs (Kl zs x) (fun w hw=>hx w (by simp[hw])) (fun w hw=>cx w (by simp[hw])) (fun w hw=>by
   rcases(m w).1 hw with h|rfl
   ·exact hz w h
   ·exact hx w (by simp)) (fun w hw=>by
   rcases(m w).1 hw with h|rfl
   ·exact cz w h
   ·exact cx w (by simp)) (gD (hx x (by simp)) (cx x (by simp)) zs hz cz hr)
  refine⟨ih.1,fun y=>?_⟩
  rw[List.foldl_cons,ih.2 y,m y,A6G,or_assoc]
theorem rW{xs:List D}(h:DK xs):CC (DF xs)/\∀y,y∈DF xs↔∃x∈xs,y=can x:=by
 obtain⟨h1,h2⟩:=nG (xs.map can) [] (fun x hx=>by obtain⟨y,hy,rfl⟩:=A6Y.1 hx;exact uS (h y hy)) (fun x hx=>by obtain⟨y,_,rfl⟩:=A6Y.1 hx;exact wW y) (by simp[DK]) (by simp) (by simp[CC])
 refine⟨h1,fun y=>?_⟩
 rw[DF,h2 y]
 simp[eq_comm]
theorem LQ(hs:∀a b:D,B9 a=true->B9 b=true->CW a b=aB a b):∀(l:List D) (p:D),B9 p=true->DK l->(p::l).Pairwise (fun a b=>¬ aB b a<0) →
  (∀z∈IP p l,aB p z<0)/\CC (IP p l)/\(∀z∈IP p l,z∈l)/\∀x∈l,aB p x=0∨∃z∈IP p l,aB z x=0
 | [],p,_,_,_=>by simp[IP,CC]
 | y::l,p,hp,hl,h=>by
  have hy:=hl y (by simp)
  rw[A6J] at h
  obtain⟨i1,i2,i3,i4⟩:=LQ hs l y hy (fun w hw=>hl w (by simp[hw])) h.2
  have hyp:=h.1 y (by simp)
  have an:=m8 y p
  simp only[IP,hs y p hy hp]
  split
  ·rename_i h0
   have h0:aB y p=0:=by simpa using h0
   refine⟨fun z hz=>(DP p y z).l2 (by omega) (i1 z hz),i2,fun z hz=>by simp[i3 z hz],fun x hx=>?_⟩
   rcases A6G.1 hx with rfl|hx
   ·exact .inl (by omega)
   ·rcases i4 x hx with h1|h1
    ·exact .inl (by rw[(DP p y x).e1 (by omega)];exact h1)
    ·exact .inr h1
  ·rename_i h0
   have h0: ¬aB y p=0:=by simpa using h0
   have hpy:aB p y<0:=by omega
   refine⟨fun z hz=>?_,A6J.2 ⟨i1,i2⟩,fun z hz=>?_,fun x hx=>?_⟩
   ·rcases A6G.1 hz with rfl|hz
    ·exact hpy
    ·exact(DP p y z).l1 hpy (by have:=i1 z hz;omega)
   ·rcases A6G.1 hz with rfl|hz
    ·simp
    ·simp[i3 z hz]
   ·rcases A6G.1 hx with rfl|hx
    ·exact .inr ⟨x,by simp,Dl x⟩
    ·rcases i4 x hx with h1|⟨z,h1,h2⟩
     ·exact .inr ⟨y,by simp,h1⟩
     ·exact .inr ⟨z,by simp[h1],h2⟩
theorem LT(hs:∀a b:D,B9 a=true->B9 b=true->CW a b=aB a b){l:List D}(hl:DK l)(h:l.Pairwise (fun a b=>¬ aB b a<0)):CC (Cb l)/\(∀z∈Cb l,z∈l)/\∀x∈l,∃z∈Cb l,aB z x=0:=by
 cases l with
 | nil=>simp[Cb,CC]
 | cons p l =>
  obtain⟨i1,i2,i3,i4⟩:=LQ hs l p (hl p (by simp)) (fun w hw=>hl w (by simp[hw])) h
  refine⟨A6J.2 ⟨i1,i2⟩,fun z hz=>?_,fun x hx=>?_⟩
  ·rcases A6G.1 hz with rfl|hz
   ·simp
   ·simp[i3 z hz]
  ·rcases A6G.1 hx with rfl|hx
   ·exact⟨x,by simp[Cb],Dl x⟩
   ·rcases i4 x hx with h1|⟨z,h1,h2⟩
    ·exact⟨p,by simp[Cb],h1⟩
    ·exact⟨z,by simp[Cb,h1],h2⟩
theorem De{a b:D}(ha:B9 a=true)(hb:B9 b=true):CW a b=aB a b:=oP ha hb f0
theorem S8{xs ys:List D}(hx:DK xs)(hp:ys.Perm xs)(h:ys.Pairwise (fun a b=>¬ CW b a<0)):(Cb ys).map can=DF xs:=by
 have hy:DK ys:=fun y h=>hx y (hp.mem_iff.1 h)
 have h':ys.Pairwise (fun a b=>¬ aB b a<0):=h.imp_of_mem fun {a b} ha hb hab=>by rw[<- De (hy b hb) (hy a ha)];exact hab
 obtain⟨c1,c2,c3⟩:=LT (fun a b ha hb=>De ha hb) hy h'
 obtain⟨b1,b2⟩:=rW hx
 refine GR _ _ ?_ b1 fun y=>?_
 ·unfold CC at c1 ⊢
  rw[List.pairwise_map]
  exact c1.imp fun {a b} h=>by rw[Kh];exact h
 ·rw[b2 y,A6Y]
  constructor
  ·rintro⟨z,hz,rfl⟩
   exact⟨z,hp.mem_iff.1 (c2 z hz),rfl⟩
  ·rintro⟨x,hx',rfl⟩
   obtain⟨z,hz,h0⟩:=c3 x (hp.mem_iff.2 hx')
   exact⟨z,hz,(yG (hy z (c2 z hz)) (hx x hx')).1 h0⟩
def G0(xs:List D)(v:D):Bool:=(vk v==0)||(vk v==5)||(vk v !=vk0 xs)
def Ci(xs:List D):D×Int :=
 if xs.all qM=false then(Bn,1) else if xs.any (G0 xs) then(Bn,6) else
 if decide ((16:Int)<(DF xs).length) then(Bn,13) else(mkV 5 0 [] false (DF xs),0)
@[reducible] def A0G(P:Program):HasG P:=⟨fun _ _=>True,fun _ _ h=>h⟩
theorem Tv{x:D}(h:x.isV=true)(hl:leaf x=true):x.cl 0 0=true:=by
 obtain⟨k,i,s,n,l,rfl,_⟩:=d9 h
 simp only[leaf,C3,A7f] at hl
 subst hl
 rcases kM n [] with⟨e,_⟩|e<;>simp[mkV,e,D.cl,D.clL]
theorem QQ[hI:HasG Tryz.prog]{xs rest:List D}{H:Hp}{o cap:Nat}{T:Tk}{Q:Bg}(ho:H[o]? =some (.row (AX xs++rest)))(hv:∀x∈xs,x.isV=true)(h1:DK xs)(hn:0<xs.length)(hl:xs.length<=2^40)
  (hQ:∀ys,ys.Perm xs->ys.Pairwise (fun a b=>¬ CW b a<0)->Q (.tup []) (H.set o (.row (AX ys++rest))) T):Snd Tryz.prog 248 [.ms true 4 o 0 xs.length cap,.fn 64 [] []] H T Q:=by
 have hag:=GY hv
 have hlf:∀x∈xs,leaf x=true:=fun x hx=>by
  have:=iP (h1 x hx)
  simp[leaf,A6O.1 this]
 have hch:Bd true 4 xs.length ((AX xs++rest).drop 0)=xs:=by rw[A7o];exact Gz xs rest hag
 have e248:∀args w,(callFunc 248 args).run Tryz.prog w= .ok (.enter 248 args) w:=enters_of Tryz.func248 (by kernel_rfl) rfl
 have e64:∀args w,(callFunc 64 args).run Tryz.prog w= .ok (.enter 64 args) w:=enters_of Tryz.func64 (by kernel_rfl) rfl
 have an:∀x∈xs,∀y∈xs,CW x y=aB x y:=fun x hx y hy=>De (h1 x hx) (h1 y hy)
 refine RD (inst:=hI) (P:=Tryz.prog) (f:=248) (g:=64) (ρ:=Tryz.sortVal_ren) Tryz.sortVal 4 Tryz.isAgg29 Tryz.sizeOf29 rfl e248 e64 (A0G _) (fun _ _=>trivial) (off:=0) (cap:=cap) ho hn (by omega) (by simp[hag.flat]) CW ?_ ?_ ?_ ?_ ?_ ?_
 ·rw[hch];exact fun x hx=>Tv (hv x hx) (hlf x hx)
 ·rw[hch]
  intro x hx y hy
  have p:=K4 (hv x hx) (hv y hy) (hlf x hx) (hlf y hy)
  exact @Ry (A0G _) _ _ p [x,y] (l9 (by simp[hv x hx,hv y hy])) [] [] _ rfl
 ·rw[hch];intro x hx;rw[an x hx x hx,Dl];omega
 ·rw[hch];intro x hx y hy z hz a b
  rw[an x hx y hy] at a;rw[an y hy z hz] at b;rw[an x hx z hz]
  exact(DP x y z).l1 a (by omega)
 ·rw[hch];intro x hx y hy z hz a b
  rw[an x hx y hy] at a;rw[an y hy z hz] at b;rw[an x hx z hz]
  have t1:=DP z y x
  have a1:=m8 x y;have a2:=m8 y z;have a3:=m8 x z
  have:=t1.le (by omega) (by omega)
  omega
 ·rw[hch]
  intro ys hp hs
  have hl2:(AX ys).length=xs.length*4:=by rw[(hag.sub fun y hy=>hp.mem_iff.1 hy).flat,hp.length_eq]
  have:=hQ ys hp hs
  rw[A7j,List.take_zero,List.nil_append,List.drop_left' hag.flat]
  exact this
def VD:D->Bool
 | .nils=>true
 | _=>false
def NP:List D->Option D
 | [l]=>if M8 l=true/\D.isVs (elems l)=true/\(elems l).length<=2^40/\(VD l|| !(elems l).isEmpty)=true then some (.tup [(Ci (elems l)).1,.int .i64 (Ci (elems l)).2]) else none
 | _=>none
theorem TK{zs ws:List D}(h:zs.map can=ws)(hv:∀z∈zs,z.isV=true/\leaf z=true):Crs (.sl none zs) (.sl none ws):=by
 subst h
 intro c v hr
 cases hr with
 | sl _ _ a cap sz us hlen hb hsz h1 ha hs hM hr htl ht =>
  have hcell:∀(i:Nat) (hi:i<zs.length),∃k j s l,zs[i]= .agg [.int .i64 k,.int .i64 j,.str s,l]/\(l= .nils∨l= .sl none [])/\can zs[i]= .agg [.int .i64 k,.int .i64 j,.str s,.sl none []]:=by
   intro i hi
   obtain⟨hz,hl⟩:=hv _ (A6I hi)
   obtain⟨k,j,s,n,l,e,_⟩:=d9 hz
   rw[e] at hl
   simp only[leaf,C3,A7f] at hl
   subst hl
   refine⟨k,j,s,aV n [],by rw[e];rfl,?_,by rw[e];simp[can,CK,Cl,Cj];rfl⟩
   cases n
   ·exact .inr rfl
   ·exact .inl rfl
  have:=Rep.sl (c:=c) none (zs.map can) a cap sz us (by simpa using hlen) (by simpa using hb) ?_ ?_ ?_ ?_ ?_ ?_ (fun τ h=>by cases h) (fun τ h=>by cases h)
  ·simpa using this
  ·intro x hx
   obtain⟨z,hz,rfl⟩:=A6Y.1 hx
   obtain⟨i,hi,rfl⟩:=A6T hz
   obtain⟨k,j,s,l,e1,_,e2⟩:=hcell i hi
   have:=hsz _ (A6I hi)
   rw[e1] at this;rw[e2];simpa[D.cells] using this
  ·intro x hx y hy
   obtain⟨z,hz,rfl⟩:=A6Y.1 hx
   obtain⟨i,hi,rfl⟩:=A6T hz
   obtain⟨k,j,s,l,e1,_,e2⟩:=hcell i hi
   rw[e2] at hy
   simp only[D.cells,A6G,A7A,or_false] at hy
   rcases hy with rfl|rfl|rfl|rfl<;>rfl
  ·intro hne;exact ha (by intro e;subst e;exact hne rfl)
  ·intro hne;exact hs (by intro e;subst e;exact hne rfl)
  ·intro i hi;exact hM i (by simpa using hi)
  ·intro i hi j hj
   have hi':i<zs.length:=by simpa using hi
   obtain⟨k,q,s,l,e1,e3,e2⟩:=hcell i hi'
   have hc:(zs.map can)[i]= .agg [.int .i64 k,.int .i64 q,.str s,.sl none []]:=by rw[List.getElem_map];exact e2
   have hj':j<(zs[i].cells).length:=by rw[e1];rw[hc] at hj;exact hj
   have h0:=hr i hi' j hj'
   have hjn:j<4:=by rw[hc] at hj;exact hj
   have ez:∀(l':List D) (h:zs[i].cells=l') (hj2:j<l'.length),zs[i].cells[j]=l'[j]:=fun l' h hj2=>by subst h;rfl
   have ec:∀(l':List D) (h:((zs.map can)[i]).cells=l') (hj2:j<l'.length),((zs.map can)[i]).cells[j]=l'[j]:=fun l' h hj2=>by subst h;rfl
   rw[ez [.int .i64 k,.int .i64 q,.str s,l] (by rw[e1];rfl) hjn] at h0
   rw[ec [.int .i64 k,.int .i64 q,.str s,.sl none []] (by rw[hc];rfl) hjn]
   match j,hjn,h0 with
   | 0,_,h0=>exact h0
   | 1,_,h0=>exact h0
   | 2,_,h0=>exact h0
   | 3,_,h0 =>
    simp only[A7g,A65] at h0 ⊢
    obtain⟨u,hu⟩:∃u,us i 3=u:=⟨_,rfl⟩
    rw[hu] at h0 ⊢
    rcases e3 with rfl|rfl
    ·cases h0
     exact Rep.sl none [] none 0 0 (fun _ _=>undef) (by simp) (by simp) (by simp) (by simp) (by simp) (by simp) (by simp) (by simp) (by simp) (by simp)
    ·exact h0
theorem O1{a b:D}(h:Crs a b)(e:Int):Crs (.tup [a,.int .i64 e]) (.tup [b,.int .i64 e]):=by
 intro c v hr
 cases hr with
 | tup _ us hl hr =>
  match us,hl with
  | [x,y],_ =>
   refine .tup _ _ rfl fun i hi hi'=>?_
   match i,hi with
   | 0,_=>exact h _ _ (hr 0 (by simp) (by simp))
   | 1,_=>exact hr 1 (by simp) (by simp)
theorem Oo{a b:D}(h:Crs a b)(ho:b.one=true)(k i:Int)(s:List UInt8):Crs (.agg [.int .i64 k,.int .i64 i,.str s,a]) (.agg [.int .i64 k,.int .i64 i,.str s,b]):=by
 intro c v hr
 cases hr with
 | agg _ us hl h1 hr =>
  match us,hl with
  | [x,y,z,u],_ =>
   refine .agg _ _ rfl (fun d hd=>?_) fun j hi hi'=>?_
   ·simp only[A6G,A7A,or_false] at hd
    rcases hd with rfl|rfl|rfl|rfl<;>first|rfl|exact ho
   ·match j,hi with
    | 0,_=>exact hr 0 (by simp) (by simp)
    | 1,_=>exact hr 1 (by simp) (by simp)
    | 2,_=>exact hr 2 (by simp) (by simp)
    | 3,_=>exact h _ _ (hr 3 (by simp) (by simp))
theorem Sx:Crs .nils (.sl none []):=by
 intro c v hr
 cases hr
 exact Rep.sl none [] none 0 0 (fun _ _=>undef) (by simp) (by simp) (by simp) (by simp) (by simp) (by simp) (by simp) (by simp) (by simp) (by simp)
theorem QD[HasG Tryz.prog]{H:Hp}{T:Tk}{Q:Bg}(k:Q .nils H T):Snd Tryz.prog 247 [.nils] H T Q:=by
 refine Ed VP (by simp) (dX (X:=XL []) (Ok.X .nil) (fun _ _ h=>h) ?_)
 have e1:Option.map (fun b=>D.bool b) (Ko Tq.slc .nils D.nils)=some (.bool true):=rfl
 simp +contextual only[VU,e1,go_sem]
 exact k
theorem Mp[HasG Tryz.prog]{H:Hp}{T:Tk}{Q:Bg}(k:Q .nils H T):Snd Tryz.prog 249 [.nils,.fn 250 [] []] H T Q:=by
 refine Ed V7 (by simp) (dX (X:=XL []) (Ok.X .nil) (fun _ _ h=>h) ?_)
 have d:decide ((0:Int)<2)=true:=by decide
 simp +contextual only[UR,d,go_sem]
 exact k
theorem SP[HasG Tryz.prog]{H:Hp}{T:Tk}{Q:Bg}(k:Q (.tup []) H T):Snd Tryz.prog 248 [.nils,.fn 64 [] []] H T Q:=YP _ _ (show MA [.nils,.fn 64 [] []]=some (.tup []) from rfl) _ (by simp[D.eraseL,D.erase]) H T Q k
theorem Pk(xs:List D)(h:DK xs):(mkV 5 0 [] false (DF xs)).cl 0 0=true:=by
 have:D.clL 0 0 (DF xs)=true:=D8 fun d hd=>by
  obtain⟨x,_,rfl⟩:=((rW h).2 d).1 hd
  rfl
 show D.clL 0 0 [.int .i64 5,.int .i64 0,.str [],aV false (DF xs)]=true
 rcases kM false (DF xs) with⟨e,_⟩|e<;>simp[e,D.clL,D.cl,this]
theorem KX{B:Hp}{o:Nat}{x:Ob}(h:B[o]? =some x)(X:List D)(L:Hp):Bx (B.set o (.row X)++L) (.ptr o 0)=some X:=by
 have hlB:o<B.length:=by
  rcases A6L o B.length with h'|h'
  ·exact h'
  ·rw[A6D h'] at h;cases h
 simp only[Bx]
 rw[A6Z (by simpa using hlB),A6F hlB]
 rfl
theorem Id{B:Hp}{o:Nat}{x:Ob}(h:B[o]? =some x)(X:List D):Bx (B.set o (.row X)) (.ptr o 0)=some X:=by
 have:=KX h X []
 rwa [A7k] at this
theorem Z9[HasG Tryz.prog]:AQ Tryz.prog 246 NP:=by
 have hM:B0 []:=.nil
 have u0:([247,248,249]:List FuncId).contains 129=false:=rfl
 have u1:([247,248,249]:List FuncId).contains 247=true:=rfl
 have u2:([247,248,249]:List FuncId).contains 248=true:=rfl
 have u3:([247,248,249]:List FuncId).contains 249=true:=rfl
 refine UJ (X:=XU Tryz.prog [247,248,249] [(129,Do)] [] []) (XU.X (.cons V1 .nil) .nil .nil) Zk fun args r h=>?_
 unfold NP at h
 split at h
 ·rename_i l
  split at h
  ·rename_i hc
   obtain⟨h1,h2,h3,h4⟩:=hc
   injection h with h;subst h
   have hv:=eM.1 h2
   have eL:=l9 hv
   obtain⟨n,hl⟩:=EL h1
   obtain⟨xs,hxs⟩:∃xs,elems l=xs:=⟨_,rfl⟩
   rw[hxs] at h3 h4 hv eL hl ⊢
   subst hl
   clear h1 h2 hxs
   have hcl:((Ci xs).1).cl 0 0=true:=by
    unfold Ci
    split
    ·rfl
    split
    ·rfl
    split
    ·rfl
    ·rename_i g1 g2 _
     simp only[Bool.not_eq_false] at g1
     refine Pk xs fun x hx=>?_
     have f:=A6B.1 g1 x hx
     have k: ¬vk x=5:=fun k=>g2 (A7e.2 ⟨x,hx,by simp[G0,k]⟩)
     unfold qM at f
     rwa [if_pos (by simpa using k)] at f
   refine⟨by simp,by simp[D.cl,D.clL,hcl],fun H T=>?_⟩
   simp +contextual only[YA,go_sem]
   refine Ap (fun i s'=>s'.t 0=aV n xs/\s'.t 2= .ptr H.length 0/\s'.t 9=aV n xs/\s'.t 10= .int .i64 xs.length/\s'.t 11= .int .i64 (i:Nat)/\Ext (H++[.row [.int .i64 0,.int .i64 0,.str [],.nils]]) s'.H/\s'.T=T/\i<=xs.length/\∀(j:Nat) x,j<i->xs[j]? =some x->qM x=true) xs.length
    ⟨0,by simp[upd,Ae],by simp[upd],by simp[upd],by simp[upd],by simp[upd],Ext.refl _,rfl,by omega,fun j x h=>by omega⟩ (fun i s h=>h.2.2.2.2.2.2.2.1) ?_ (Ou _ _ _ _)
   rintro i ⟨t,B,T'⟩ ⟨r0,r2,r9,r10,r11,hE,rfl,hi,hF⟩
   simp only at r0 r2 r9 r10 r11 hE
   have b1:=hE.get (o:=H.length) (x:=.row [.int .i64 0,.int .i64 0,.str [],.nils]) (by simp)
   have rS:∀(X:List D) (L:Hp),Bx (B.set H.length (.row X)++L) (.ptr H.length 0)=some X:=KX b1
   by_cases hlt:i<xs.length
   ·have d1:decide (((i:Nat):Int)<xs.length)=true:=by simp only[decide_eq_true_eq];omega
    obtain⟨k1,i1,s1,n1,l1,e1,hs1,hx1,hV1,eL1⟩:=CD hv hlt
    have iv:(mkV k1 i1 s1 n1 l1).isV=true:=hv _ (A6C e1)
    have pf:Do [mkV k1 i1 s1 n1 l1]=some (.bool (qM (mkV k1 i1 s1 n1 l1))):=by simp only[Do];rw[if_pos iv]
    rcases tf (qM (mkV k1 i1 s1 n1 l1)) with g|g
    ·rw[g] at pf
     have hF':∀(j:Nat) x,j<i+1->xs[j]? =some x->qM x=true:=fun j x hj hx=>by
      rcases A6L j i with h'|h'
      ·exact hF j x h' hx
      ·have:j=i:=by omega
       subst this;rw[e1] at hx;injection hx with hx;rw[<- hx];exact g
     simp only[mkV] at pf
     simp +contextual only[r0,r2,r9,r10,r11,d1,e1,mkV,pf,u0,u1,u2,u3,Fe,RL hM,eL1,AJ i (by omega),go_sem]
     exact⟨hE.app _,by omega,hF'⟩
    ·rw[g] at pf
     simp only[mkV] at pf
     have hb:Ci xs=(Bn,1):=by
      unfold Ci
      rw[if_pos (A69.2 fun h=>by rw[A6B.1 h _ (A6C e1)] at g;cases g)]
     simp +contextual only[r0,r2,r9,r10,r11,d1,e1,mkV,pf,u0,u1,u2,u3,Fe,RL hM,eL1,LL b1,rS,go_sem]
     rw[hb]
     exact Em (.refl _) ((hE.pre.set (A6K _) _).app _) (AY.refl _)
   ·have d1:decide (((i:Nat):Int)<xs.length)=false:=by simp only[decide_eq_false_iff_not];omega
    have hAll:xs.all qM=true:=A6B.2 fun x hx=>by
     obtain⟨j,hj,rfl⟩:=A6T hx
     exact hF j _ (by omega) (by rw[A6A hj])
    clear hF
    have r0':=r0
    have r2':=r2
    simp +contextual only[r0,r2,r9,r10,r11,d1,u1,u2,u3,Fe,go_sem]
    clear r0 r2 r9 r10 r11 d1 hlt hi b1 rS
    refine Ap (fun i s'=>s'.t 0=aV n xs/\s'.t 2= .ptr H.length 0/\s'.t 20=aV n xs/\s'.t 21= .int .i64 xs.length/\s'.t 22= .int .i64 (i:Nat)/\Ext (H++[.row [.int .i64 0,.int .i64 0,.str [],.nils]]) s'.H/\s'.T=T'/\i<=xs.length/\∀(j:Nat) x,j<i->xs[j]? =some x->G0 xs x=false) xs.length
     ⟨0,by simp[upd,r0'],by simp[upd,r2'],by simp[upd],by simp[upd],by simp[upd],hE,rfl,by omega,fun j x h=>by omega⟩ (fun i s h=>h.2.2.2.2.2.2.2.1) ?_ (Ou _ _ _ _)
    clear r0' r2' hE
    rintro i ⟨t,B,T2⟩ ⟨r0,r2,r9,r10,r11,hE,rfl,hi,hF⟩
    simp only at r0 r2 r9 r10 r11 hE
    have b1:=hE.get (o:=H.length) (x:=.row [.int .i64 0,.int .i64 0,.str [],.nils]) (by simp)
    have rS:∀(X:List D) (L:Hp),Bx (B.set H.length (.row X)++L) (.ptr H.length 0)=some X:=KX b1
    by_cases hlt:i<xs.length
    ·have d1:decide (((i:Nat):Int)<xs.length)=true:=by simp only[decide_eq_true_eq];omega
     obtain⟨k1,i1,s1,n1,l1,e1,hs1,hx1,hV1,eL1⟩:=CD hv hlt
     obtain⟨k0,i0,s0,n0,l0,e0,_⟩:=CD hv (show 0<xs.length by omega)
     have fk:=Hh e0
     have hbd:G0 xs (mkV k1 i1 s1 n1 l1)=((k1==0)||(k1==5)||(k1 !=k0)):=by simp only[G0,CK,fk]
     have hbad:G0 xs (mkV k1 i1 s1 n1 l1)=true->Ci xs=(Bn,6):=fun h=>by
      unfold Ci
      rw[if_neg (by rw[hAll];decide),if_pos]
      exact A7e.2 ⟨_,A6C e1,h⟩
     have hgood:G0 xs (mkV k1 i1 s1 n1 l1)=false->∀(j:Nat) x,j<i+1->xs[j]? =some x->G0 xs x=false:=fun g j x hj hx=>by
      rcases A6L j i with h'|h'
      ·exact hF j x h' hx
      ·have:j=i:=by omega
       subst this;rw[e1] at hx;injection hx with hx;rw[<- hx];exact g
     rw[hbd] at hbad hgood
     simp +contextual only[r0,r2,r9,r10,r11,d1,e1,e0,mkV,u0,u1,u2,u3,Fe,eL1,AJ i (by omega),LL b1,rS,go_sem]
     have fin:Ci xs=(Bn,6)->BV (D.tup [(Ci xs).fst,D.int IntKind.i64 (Ci xs).snd]) H T2 (D.tup [D.agg [D.int IntKind.i64 0,D.int IntKind.i64 0,D.str [],D.nils],D.int IntKind.i64 6])
       (A7H B (List.length H) (Ob.row [D.int IntKind.i64 0,D.int IntKind.i64 0,D.str [],D.nils])++[Ob.row [D.int IntKind.i64 k1,D.int IntKind.i64 i1,D.str s1,aV n1 l1]]) T2:=fun h=>by
      rw[h]
      exact Em (.refl _) ((hE.pre.set (A6K _) _).app _) (AY.refl _)
     exact⟨fun q=>fin (hbad (by rw[q];rfl)),fun q1=>⟨fun q=>fin (hbad (by rw[q];simp)),fun q2=>⟨fun q=>fin (hbad (by rw[q];simp)),fun q3=>⟨hE.app _,by omega,hgood (by rw[q1,q2,q3];rfl)⟩⟩⟩⟩
    ·have d1:decide (((i:Nat):Int)<xs.length)=false:=by simp only[decide_eq_false_iff_not];omega
     have hAny:xs.any (G0 xs)=false:=A7x.2 fun x hx=>by
      obtain⟨j,hj,rfl⟩:=A6T hx
      rw[hF j _ (by omega) (by rw[A6A hj])];decide
     have h1:DK xs:=fun x hx=>by
      have f:=A6B.1 hAll x hx
      have g: ¬(G0 xs x=true):=A7x.1 hAny x hx
      have k: ¬vk x=5:=fun k=>g (by simp[G0,k])
      unfold qM at f
      rwa [if_pos (by simpa using k)] at f
     simp +contextual only[r0,r2,r9,r10,r11,d1,u1,u2,u3,Fe,go_sem]
     rcases kM n xs with⟨e,hx⟩|e
     ·subst hx
      rw[e]
      refine QD ?_
      simp +contextual only[u1,u2,u3,Fe,go_sem]
      refine SP ?_
      simp +contextual only[u1,u2,u3,Fe,go_sem]
      refine Mp ?_
      have d2:decide ((16:Int)<0)=false:=by decide
      simp +contextual only[u1,u2,u3,Fe,r2,d2,F0 b1,Id b1,go_sem]
      have hb0:Ci []=(mkV 5 0 [] false [],0):=rfl
      rw[hb0]
      exact Em (O1 (Oo Sx rfl 5 0 []) 0) (hE.pre.set (A6K _) _) (AY.refl _)
     ·rw[e] at h4 ⊢
      have hne:xs≠[]:=by
       rintro rfl
       simp[VD] at h4
      refine Py hv hne h3 ?_
      simp +contextual only[u1,u2,u3,Fe,go_sem]
      have hHB:H.length+1<=B.length:=by
       obtain⟨L,hL⟩:=hE
       rw[hL];simp
      refine QQ (rest:=[]) (by simp) hv h1 (List.length_pos_iff.2 hne) h3 (fun ys hp hs=>?_)
      simp +contextual only[u1,u2,u3,Fe,go_sem]
      have hyv:∀y∈ys,y.isV=true/\leaf y=true:=fun y hy=>by
       have hm:=hp.mem_iff.1 hy
       have:=iP (h1 y hm)
       exact⟨hv y hm,by simp[leaf,A6O.1 this]⟩
      have hcan:=S8 h1 hp hs
      have hml:(Cb ys).length=(DF xs).length:=by rw[<- hcan];simp
      rw[<- hp.length_eq]
      refine NY (ys:=ys) (rest:=[]) (by rw[A6F (by simp)];simp) hyv (by rw[hp.length_eq];exact h3) (A6K _) (fun rest'=>?_)
      obtain⟨B2,hB2⟩:∃B2,A7H (A7H (B++[Ob.dead,Ob.row (AX xs)]) (B.length+1) (Ob.row (AX ys))) (B.length+1) (Ob.row (AX (Cb ys)++rest'))=B2:=⟨_,rfl⟩
      have hE2:Ext (H++[.row [.int .i64 0,.int .i64 0,.str [],.nils]]) B2:=by
       rw[<- hB2]
       exact((hE.app _).set (by simp;omega) _).set (by simp;omega) _
      have hO:B2[B.length+1]? =some (.row (AX (Cb ys)++rest')):=by
       rw[<- hB2,A6F (by simp)]
      rw[hB2]
      have b2:=hE2.get (o:=H.length) (x:=.row [.int .i64 0,.int .i64 0,.str [],.nils]) (by simp)
      have hA1:Ci xs=if decide ((16:Int)<(DF xs).length) then(Bn,13) else(mkV 5 0 [] false (DF xs),0):=by
       unfold Ci
       rw[if_neg (by rw[hAll];decide),if_neg (by rw[hAny];decide)]
      rw[<- hml] at hA1
      rcases tf (decide ((16:Int)<(Cb ys).length)) with g|g
      ·rw[g,if_pos rfl] at hA1
       simp +contextual only[u1,u2,u3,Fe,r2,g,F0 b2,Id b2,go_sem]
       rw[hA1]
       exact Em (.refl _) (hE2.pre.set (A6K _) _) (AY.refl _)
      ·rw[g,if_neg (by decide)] at hA1
       simp +contextual only[u1,u2,u3,Fe,r2,g,F0 b2,Id b2,go_sem]
       rw[hA1]
       refine OP (B.length+1) (AX (Cb ys)++rest') (by rw[A7m (by omega)];exact hO) (by omega) ?_ (hE2.pre.set (A6K _) _) (AY.refl _)
       have hcv:∀z∈Cb ys,z.isV=true/\leaf z=true:=fun z hz=>hyv z ((LT (fun a b ha hb=>De ha hb) (fun y hy=>h1 y (hp.mem_iff.1 hy)) (hs.imp_of_mem fun {a b} ha hb hab=>by rw[<- De (h1 b (hp.mem_iff.1 hb)) (h1 a (hp.mem_iff.1 ha))];exact hab)).2.1 z hz)
       have hag:=GY (fun z hz=>(hcv z hz).1)
       have hl16: ¬((16:Int)<(Cb ys).length):=by simpa using g
       have efz:D.fz (B.length+1) (AX (Cb ys)++rest') (.tup [.agg [.int .i64 5,.int .i64 0,.str [],.ms true 4 (B.length+1) 0 (Cb ys).length ys.length],.int .i64 0])= .tup [.agg [.int .i64 5,.int .i64 0,.str [],.sl none (Cb ys)],.int .i64 0]:=by
        simp only[D.fz,D.fzL]
        rw[if_pos ⟨trivial,by simp[hag.flat],.inl trivial,by omega⟩,A7o,Gz _ _ hag]
       rw[efz]
       have hne2:DF xs≠[]:=by
        intro e0
        rw[e0] at hml
        cases ys with
        | nil=>exact hne (List.Perm.nil_eq hp).symm
        | cons y ys=>simp[Cb] at hml
       have es:aV false (DF xs)= .sl none (DF xs):=by
        rcases kM false (DF xs) with⟨_,e1⟩|e1
        ·exact absurd e1 hne2
        ·exact e1
       have em:mkV 5 0 [] false (DF xs)= .agg [.int .i64 5,.int .i64 0,.str [],.sl none (DF xs)]:=by simp only[mkV,es]
       rw[em]
       exact O1 (Oo (TK hcan hcv) rfl 5 0 []) 0
  ·cases h
 ·cases h
def Ab(k:Int)(s:List UInt8)(n:Int):Bool :=
 if k==1 then Bp s&&(n==0) else
 if k==2 then(s==[])&&decide (0<=n) else
 if k==3 then s.all (fun b=>D6 b.toNat)&&decide ((s.length:Int)<=64)&&(n==0) else
 if k==4 then(s==[])&&decide (0<=n)&&decide (n<=1099511627776) else
 if k==5 then bG s&&(n==0) else false
def BU:List D->Option D
 | [.agg [.int .i64 k,.str s,.int .i64 n]]=>if s.length<=2^60 then some (.bool (Ab k s n)) else none
 | _=>none
theorem MI(p:Int->Bool):∀(s:List UInt8),(((Cz p s 0:Nat):Int)==(s.length:Int))=s.all (fun b=>p b.toNat)
 | []=>rfl
 | c::r=>by
  have ih:=MI p r
  unfold Cz at ih ⊢
  simp only[A7o] at ih ⊢
  rcases tf (p (c.toNat:Int)) with g|g
  ·rw[QO c r g,A6V,g,A62,← ih]
   rw[A7D,beq_iff_eq,beq_iff_eq]
   simp only[A6R];omega
  ·have:CS p (c::r)=0:=by unfold CS;simp[g]
   rw[this,A6V,g,A7E,beq_eq_false_iff_ne]
   simp only[A6R];omega
theorem Vk:AQ Tryz.prog 102 HC:=WT Zh
theorem SS:AQ Tryz.prog 47 CR:=TR A3y Vk
theorem QA(s:List UInt8):CR [.sl none (lB.map .str),.str s]=some (.bool (bG s)):=by
 have hL:G6 NM (.sl none (lB.map D.str)):=⟨false,lB.map D.str,rfl,by decide,fun x hx=>by
  obtain⟨y,hy,rfl⟩:=A6Y.1 hx
  have key:∀y∈lB,y.length<=2^47:=by decide
  exact⟨y,rfl,key y hy⟩⟩
 simp only[CR]
 rw[if_pos hL]
 congr 2
 have e:elems (D.sl none (lB.map D.str))=lB.map D.str:=rfl
 rw[e,List.any_map,dB,jR,A7C,Bool.or_comm,A61,A61]
 rfl
theorem VK:AQ Tryz.prog 166 BU:=by
 refine AN (l:=[(144,Df),(151,FV),(47,CR)]) (.cons P9 (.cons VF (.cons SS .nil))) Zp fun args r h=>?_
 unfold BU at h
 split at h
 ·rename_i k s n
  split at h
  ·rename_i hl
   injection h with h;subst h
   refine⟨by simp,by simp[D.cl],fun H T=>?_⟩
   have p1:Df [.str s,.int .i64 0,.fn 199 [] []]=some (.int .i64 (Cz BM s 0:Nat)):=by
    simp only[Df];rw[show JA 199=some BM from rfl];simp only;rw[if_pos ⟨by omega,by omega,by omega⟩];rfl
   have p2:Df [.str s,.int .i64 0,.fn 200 [] []]=some (.int .i64 (Cz D6 s 0:Nat)):=by
    simp only[Df];rw[show JA 200=some D6 from rfl];simp only;rw[if_pos ⟨by omega,by omega,by omega⟩];rfl
   have r1:=MI BM s
   have r2:=MI D6 s
   have p3:FV []=some (.sl none (lB.map .str)):=rfl
   have p4:=QA s
   have eS:D.eraseL (lB.map D.str)=lB.map D.str:=rfl
   obtain⟨SB,hSB⟩:∃z,lB.map D.str=z:=⟨_,rfl⟩
   rw[hSB] at p3 p4 eS
   unfold Ab
   rcases tf (k==1) with k1|k1
   ·rw[if_pos k1]
    rcases tf (n==0) with n0|n0
    ·rw[n0,A6W]
     cases s with
     | nil =>
      have d1:decide ((1:Int)<=(([]:List UInt8).length:Nat))=false:=rfl
      simp +contextual only[Gg,k1,n0,d1,Bp,go_sem]
     | cons c r =>
      have d1:decide ((1:Int)<=((c::r).length:Nat))=true:=by simp;omega
      have ix:∀q,ixs (.str (c::r)) (.int q 0)=some (.int .u8 c.toNat):=fun q=>Eu (i:=0) rfl q
      have hwc:=nY c r
      have hal:EU (c.toNat:Int)=true->(EU (c.toNat:Int)&&r.all (fun b=>BM b.toNat))=(c::r).all (fun b=>BM b.toNat):=fun gl=>by
       rw[A6V,sB (c.toNat:Int),gl];simp
      obtain⟨S,hS⟩:∃S,c::r=S:=⟨_,rfl⟩
      rw[hS] at p1 p2 p4 r1 r2 d1 ix hwc hal hl ⊢
      rcases tf (decide ((S.length:Int)<=64)) with d2|d2
      ·rcases tf (decide ((97:Int)<=c.toNat)) with d3|d3
       ·rcases tf (decide ((c.toNat:Int)<=122)) with d4|d4
        ·have gl:EU (c.toNat:Int)=true:=by unfold EU;rw[d3,d4];rfl
         have hw:Bp S=S.all (fun b=>BM b.toNat):=by
          rw[hwc,hal gl,d2,A6W]
         rw[hw]
         simp +contextual only[Gg,k1,n0,d1,d2,ix,d3,d4,p1,r1,go_sem]
        ·have hw:Bp S=false:=by rw[hwc];unfold EU;rw[d3,d4];rfl
         rw[hw]
         simp +contextual only[Gg,k1,n0,d1,d2,ix,d3,d4,go_sem]
       ·have hw:Bp S=false:=by rw[hwc];unfold EU;rw[d3];rfl
        rw[hw]
        simp +contextual only[Gg,k1,n0,d1,d2,ix,d3,go_sem]
      ·have hw:Bp S=false:=by rw[hwc,d2,A60]
       rw[hw]
       simp +contextual only[Gg,k1,n0,d1,d2,go_sem]
    ·rw[n0,A60]
     simp +contextual only[Gg,k1,n0,go_sem]
   rw[if_neg (by rw[k1];decide)]
   rcases tf (k==2) with k2|k2
   ·rw[if_pos k2]
    rcases tf (s==[]) with s0|s0<;>rw[s0]<;>simp +contextual only[Gg,k1,k2,s0,go_sem]
   rw[if_neg (by rw[k2];decide)]
   rcases tf (k==3) with k3|k3
   ·rw[if_pos k3]
    have k4:(k==4)=false:=by
     have:k=3:=by simpa using k3
     subst this;rfl
    rcases tf (n==0) with n0|n0
    ·rw[n0,A6W]
     rcases tf (decide ((s.length:Int)<=64)) with d2|d2
     ·rw[d2,A6W]
      simp +contextual only[Gg,k1,k2,k3,k4,n0,d2,p2,r2,go_sem]
     ·rw[d2,A60]
      simp +contextual only[Gg,k1,k2,k3,k4,n0,d2,go_sem]
    ·rw[n0,A60]
     simp +contextual only[Gg,k1,k2,k3,k4,n0,go_sem]
   rw[if_neg (by rw[k3];decide)]
   rcases tf (k==4) with k4|k4
   ·rw[if_pos k4]
    rcases tf (s==[]) with s0|s0
    ·rcases tf (decide (0<=n)) with n0|n0<;>rw[s0,n0]<;>simp +contextual only[Gg,k1,k2,k4,s0,n0,go_sem]
    ·rw[s0];simp +contextual only[Gg,k1,k2,k4,s0,go_sem]
   rw[if_neg (by rw[k4];decide)]
   rcases tf (k==5) with k5|k5
   ·rw[if_pos k5]
    rcases tf (n==0) with n0|n0
    ·rw[n0,A6W];simp +contextual only[Gg,k1,k2,k3,k4,k5,n0,p3,eS,p4,go_sem]
    ·rw[n0,A60];simp +contextual only[Gg,k1,k2,k3,k4,k5,n0,go_sem]
   ·rw[if_neg (by rw[k5];decide)]
    simp +contextual only[Gg,k1,k2,k3,k4,k5,go_sem]
  ·cases h
 ·cases h
theorem Ha{α:Type}{p:α->Bool}{l:List α}{j:Nat}{x:α}(hx:l[j]? =some x)(hp:p x=false):l.all p=false :=
 A7w.2 ⟨x,A6C hx,by simp[hp]⟩
theorem IR{α:Type}{p:α->Bool}{l:List α}{j:Nat}{x:α}(hx:l[j]? =some x)(h:(l.take j).all p=true)(hp:p x=true):(l.take (j+1)).all p=true:=by
 rw[A6S,hx];simp[h,hp]
theorem RN:AQ Tryz.prog 57 BU:=by
 refine AN (l:=[(109,L0),(110,Mb)]) (.cons A1F (.cons A0H .nil)) A37 fun args r h=>?_
 unfold BU at h
 split at h
 ·rename_i k s n
  split at h
  ·rename_i hl
   injection h with h;subst h
   refine⟨by simp,by simp[D.cl],fun H T=>?_⟩
   have p1:L0 [.str s]=some (.bool (Bp s)):=by simp only[L0];rw[if_pos hl]
   have p2:Mb [.str s]=some (.bool (bG s)):=rfl
   unfold Ab
   rcases tf (k==1) with k1|k1
   ·rw[if_pos k1]
    rcases tf (Bp s) with w|w<;>rw[w]<;>rw[w] at p1<;>simp +contextual only[c57,k1,p1,go_sem]
   rw[if_neg (by rw[k1];decide)]
   rcases tf (k==2) with k2|k2
   ·rw[if_pos k2]
    rcases tf (s==[]) with s0|s0<;>rw[s0]<;>simp +contextual only[c57,k1,k2,s0,go_sem]
   rw[if_neg (by rw[k2];decide)]
   rcases tf (k==3) with k3|k3
   ·rw[if_pos k3]
    simp +contextual only[c57,k1,k2,k3,go_sem]
    refine Ap (fun i s'=>s'.t 1= .ptr H.length 0/\s'.t 3= .int .i64 (i:Nat)/\s'.H=H++[.row [.int .i64 k,.str s,.int .i64 n]]/\s'.T=T/\i<=s.length/\(s.take i).all (fun b=>D6 b.toNat)=true) s.length ⟨0,by simp[upd,Ae]⟩ (fun i s h=>h.2.2.2.2.1) ?_ (AR _)
    rintro i ⟨t,B,T'⟩ ⟨r1,r3,rfl,rfl,hi,hc⟩
    simp only at r1 r3
    by_cases hlt:i<s.length
    ·have d1:decide (((i:Nat):Int)<s.length)=true:=by simp only[decide_eq_true_eq];omega
     have ex:s[i]? =some s[i]:=by simp[hlt]
     obtain⟨b,hb⟩:∃b,s[i]=b:=⟨_,rfl⟩
     rw[hb] at ex
     have ix:=fun q=>Eu ex q
     have no:=fun hp=>Ha (p:=fun b:UInt8=>D6 b.toNat) ex hp
     have nx:=fun hp=>IR (p:=fun b:UInt8=>D6 b.toNat) ex hc hp
     have pT:D6 (b.toNat:Int)=(decide ((32:Int)<=b.toNat)&&decide ((b.toNat:Int)<=126)):=rfl
     by_cases q1:(b.toNat:Int)<32
     ·have g3:decide ((b.toNat:Int)<32)=true:=by simpa using q1
      have no:=no (by rw[pT];simp only[A6X,decide_eq_false_iff_not];omega)
      rw[no]
      simp +contextual only[r1,r3,d1,ix,g3,go_sem]
     have g3:decide ((b.toNat:Int)<32)=false:=by simpa using q1
     by_cases q2:(126:Int)<b.toNat
     ·have g5:decide ((126:Int)<b.toNat)=true:=by simpa using q2
      have no:=no (by rw[pT];simp only[A6X,decide_eq_false_iff_not];omega)
      rw[no]
      simp +contextual only[r1,r3,d1,ix,g3,g5,go_sem]
     have g5:decide ((126:Int)<b.toNat)=false:=by simpa using q2
     have nx:=nx (by rw[pT];simp only[A6H,decide_eq_true_eq];omega)
     simp +contextual only[r1,r3,d1,ix,g3,g5,Bw i (by omega),go_sem]
     exact⟨by omega,nx⟩
    ·have d1:decide (((i:Nat):Int)<s.length)=false:=by simp only[decide_eq_false_iff_not];omega
     have ei:i=s.length:=by omega
     rw[ei,A6U] at hc
     rw[hc,A62]
     rcases tf (decide ((s.length:Int)<=64)) with d2|d2<;>rw[d2]<;>simp +contextual only[r1,r3,d1,d2,go_sem]
   rw[if_neg (by rw[k3];decide)]
   rcases tf (k==4) with k4|k4
   ·rw[if_pos k4]
    rcases tf (s==[]) with s0|s0
    ·rcases tf (decide (0<=n)) with n0|n0<;>rw[s0,n0]<;>simp +contextual only[c57,k1,k2,k3,k4,s0,n0,go_sem]
    ·rw[s0];simp +contextual only[c57,k1,k2,k3,k4,s0,go_sem]
   rw[if_neg (by rw[k4];decide)]
   rcases tf (k==5) with k5|k5
   ·rw[if_pos k5]
    rcases tf (bG s) with w|w<;>rw[w]<;>rw[w] at p2<;>simp +contextual only[c57,k1,k2,k3,k4,k5,p2,go_sem]
   ·rw[if_neg (by rw[k5];decide)]
    simp +contextual only[c57,k1,k2,k3,k4,k5,go_sem]
  ·cases h
 ·cases h
def tk:D->Int
 | .agg [.int .i64 k,.str _,.int .i64 _]=>k
 | _=>0
def ts:D->List UInt8
 | .agg [.int .i64 _,.str s,.int .i64 _]=>s
 | _=>[]
def tn:D->Int
 | .agg [.int .i64 _,.str _,.int .i64 n]=>n
 | _=>0
theorem tW(k:Int)(s:List UInt8)(n:Int):tk (mkT k s n)=k:=rfl
theorem kE(k:Int)(s:List UInt8)(n:Int):ts (mkT k s n)=s:=rfl
theorem qZ(k:Int)(s:List UInt8)(n:Int):tn (mkT k s n)=n:=rfl
def Aq:D->Bool
 | .agg [.int .i64 k,.str s,.int .i64 n]=>decide (s.length<=2^47)&&(decide (-(2^63)<=k)&&decide (k<2^63))&&(decide (-(2^63)<=n)&&decide (n<2^63))
 | _=>false
theorem jF{x:D}(h:Aq x=true):∃k s n,x=mkT k s n/\s.length<=2^47:=by
 unfold Aq at h
 split at h
 ·simp only[A6H,decide_eq_true_eq] at h
  exact⟨_,_,_,rfl,h.1.1⟩
 ·cases h
theorem oA{k:Int}{s:List UInt8}{n:Int}(h:Aq (mkT k s n)=true):(-(2^63)<=k/\k<2^63)/\ -(2^63)<=n/\n<2^63:=by
 simp only[Aq,mkT,A6H,decide_eq_true_eq] at h
 exact⟨h.1.2,h.2⟩
def F7(t:D):Bool:=Ab (tk t) (ts t) (tn t)
def okL(l:D):Bool:=M8 l&&(elems l).all Aq&&decide ((elems l).length<=600)
def zT:D:=mkT 0 [] 0
def Gl(toks:List D)(a:Nat)(e:Int):D:=if e !=0 then zT else match toks[a]? with
 | some t=>if F7 t then t else zT
 | none=>zT
theorem ET{toks:List D}(h:toks.all Aq=true)(a:Nat)(e:Int):∃k s n,Gl toks a e=mkT k s n/\s.length<=2^47:=by
 unfold Gl
 split
 ·exact⟨0,[],0,rfl,by simp⟩
 ·split
  ·rename_i t ht
   split
   ·exact jF (A6B.1 h t (A6C ht))
   ·exact⟨0,[],0,rfl,by simp⟩
  ·exact⟨0,[],0,rfl,by simp⟩
def cuQ(H:Hp)(p:Nat)(f:List D->Nat->Int->Option D):Option D:=match H[p]? with
 | some (.row [l,.int .i64 a,.int .i64 e])=>if okL l=true/\0<=a then f (elems l) a.toNat e else none
 | _=>none
def cuE(H:Hp)(p:Nat)(f:List D->Nat->Int->Option (D×Nat×Int)):Option (D×Hp):=match H[p]? with
 | some (.row [l,.int .i64 a,.int .i64 e])=>if okL l=true/\0<=a then(match f (elems l) a.toNat e with
  | some (r,a',e')=>some (r,H.set p (.row [l,.int .i64 (a':Int),.int .i64 e']))
  | none=>none) else none
 | _=>none
abbrev GQ:=List D->List D->Nat->Int->Option D
abbrev GE:=List D->List D->Nat->Int->Option (D×Nat×Int)
def φQ(g:GQ)(H:Hp):List D->Option D
 | .ptr p 0::rest=>cuQ H p (g rest)
 | _=>none
def φC(g:GE)(H:Hp):List D->Option (D×Hp)
 | .ptr p 0::rest=>cuE H p (g rest)
 | _=>none
section
variable {H:Hp} {p:Nat}
theorem MZ(hp:p<H.length)(X:List D)(L:Hp):(H.set p (.row X)++L)[p]? =some (.row X):=by
 rw[A6Z (by simpa using hp),A6F hp]
theorem PA(hp:p<H.length)(X:List D):(H.set p (.row X))[p]? =some (.row X):=A6F hp
theorem C7(hp:p<H.length)(X:List D)(L:Hp)(off:Nat):Bx (H.set p (.row X)++L) (.ptr p off)=some (X.drop off):=AM (MZ hp X L) off
theorem BJ(hp:p<H.length)(X:List D)(off:Nat):Bx (H.set p (.row X)) (.ptr p off)=some (X.drop off):=AM (PA hp X) off
theorem CH{K:D->S->Prop}(hp:p<H.length)(X:List D)(L:Hp)(t:Nat->D)(T:Tk)(n off:Nat)(v:D):fF n K ⟨t,H.set p (.row X)++L,T⟩ (.ptr p off) v=(v.okc=true/\v.cells.length=n/\off+n<=X.length/\K .top ⟨t,H.set p (.row (X.take off++v.cells++X.drop (off+n)))++L,T⟩):=by
 rw[F0 (MZ hp X L),A7n _ _ (by simpa using hp),A68]
theorem BR{K:D->S->Prop}(hp:p<H.length)(X:List D)(t:Nat->D)(T:Tk)(n off:Nat)(v:D):fF n K ⟨t,H.set p (.row X),T⟩ (.ptr p off) v=(v.okc=true/\v.cells.length=n/\off+n<=X.length/\K .top ⟨t,H.set p (.row (X.take off++v.cells++X.drop (off+n))),T⟩):=by
 rw[F0 (PA hp X),A68]
variable {n:Bool} {xs:List D}
theorem Iu(htk:xs.all Aq=true)(hl:xs.length<=600):okL (aV n xs)=true:=by
 simp[okL,GO,AU,htk,hl]
theorem BY(hp:p<H.length)(htk:xs.all Aq=true)(hl:xs.length<=600)(g:GQ)(rest:List D)(a:Nat)(e:Int)(L:Hp):φQ g (H.set p (.row [aV n xs,.int .i64 ((a:Nat):Int),.int .i64 e])++L) (.ptr p 0::rest)=g rest xs a e:=by
 simp only[φQ,cuQ]
 rw[MZ hp]
 simp only
 rw[if_pos ⟨Iu htk hl,by omega⟩,A6M,AU]
theorem Au(hp:p<H.length)(htk:xs.all Aq=true)(hl:xs.length<=600)(g:GQ)(rest:List D)(a:Nat)(e:Int):φQ g (H.set p (.row [aV n xs,.int .i64 ((a:Nat):Int),.int .i64 e])) (.ptr p 0::rest)=g rest xs a e:=by
 have:=BY (n:=n) hp htk hl g rest a e []
 rwa [A7k] at this
def cuR(H:Hp)(p:Nat)(l:D)(L:Hp):Option (D×Nat×Int)->Option (D×Hp)
 | some (r,a,e)=>some (r,H.set p (.row [l,.int .i64 ((a:Nat):Int),.int .i64 e])++L)
 | none=>none
@[go_sem] theorem A52(H:Hp)(p:Nat)(l:D)(L:Hp)(r:D)(a:Nat)(e:Int):cuR H p l L (some (r,a,e))=some (r,H.set p (.row [l,.int .i64 ((a:Nat):Int),.int .i64 e])++L):=id rfl
theorem BI(hp:p<H.length)(htk:xs.all Aq=true)(hl:xs.length<=600)(g:GE)(rest:List D)(a:Nat)(e:Int)(L:Hp):φC g (H.set p (.row [aV n xs,.int .i64 ((a:Nat):Int),.int .i64 e])++L) (.ptr p 0::rest)=cuR H p (aV n xs) L (g rest xs a e):=by
 simp only[φC,cuE]
 rw[MZ hp]
 simp only
 rw[if_pos ⟨Iu htk hl,by omega⟩,A6M,AU]
 cases g rest xs a e with
 | none=>rfl
 | some r =>
  simp only[cuR]
  rw[A7n _ _ (by simpa using hp),A68]
theorem B1(hp:p<H.length)(htk:xs.all Aq=true)(hl:xs.length<=600)(g:GE)(rest:List D)(a:Nat)(e:Int):φC g (H.set p (.row [aV n xs,.int .i64 ((a:Nat):Int),.int .i64 e])) (.ptr p 0::rest)=cuR H p (aV n xs) [] (g rest xs a e):=by
 have:=BI (n:=n) hp htk hl g rest a e []
 rwa [A7k] at this
end
@[go_sem] theorem Vb(H:Hp)(p:Nat)(x:Ob)(L:Hp)(n off:Nat):Bx (H.set p x++L) (.ptr (H.length+n) off)=Bx L (.ptr n off):=by
 have:=I6 (H.set p x) L n off
 rwa [A7l] at this
@[go_sem] theorem A2H(H:Hp)(p:Nat)(x:Ob)(L:Hp)(off:Nat):Bx (H.set p x++L) (.ptr H.length off)=Bx L (.ptr 0 off):=Vb H p x L 0 off
@[go_sem] theorem WV{K:D->S->Prop}(t:Nat->D)(T:Tk)(H:Hp)(p:Nat)(x:Ob)(L:Hp)(n i off:Nat)(v:D):fF n K ⟨t,H.set p x++L,T⟩ (.ptr (H.length+i) off) v=JO K t (H.set p x) T (putRow n off v L i):=by
 have:=Oj (K:=K) t T (H.set p x) L n i off v
 rwa [A7l] at this
@[go_sem] theorem A2v{K:D->S->Prop}(t:Nat->D)(T:Tk)(H:Hp)(p:Nat)(x:Ob)(L:Hp)(n off:Nat)(v:D):fF n K ⟨t,H.set p x++L,T⟩ (.ptr H.length off) v=JO K t (H.set p x) T (putRow n off v L 0):=WV t T H p x L n 0 off v
@[go_sem] theorem Wp(o f:Nat):N2 (.ptr o f)=some (.ptr o f):=id rfl
attribute [go_sem] A7l
theorem NQ{l:D}(h:okL l=true):∃n xs,l=aV n xs/\xs.all Aq=true/\xs.length<=600:=by
 simp only[okL,A6H,decide_eq_true_eq] at h
 obtain⟨n,hn⟩:=EL h.1.1
 exact⟨n,elems l,hn,h.1.2,h.2⟩
theorem NZ{H:Hp}{p:Nat}{f:List D->Nat->Int->Option D}{r:D}(h:cuQ H p f=some r):∃n xs a e,H[p]? =some (.row [aV n xs,.int .i64 ((a:Nat):Int),.int .i64 e])/\p<H.length/\xs.all Aq=true/\xs.length<=600/\f xs a e=some r:=by
 unfold cuQ at h
 split at h
 ·rename_i l a e hH
  split at h
  ·rename_i hc
   obtain⟨h1,h2⟩:=hc
   obtain⟨k,rfl⟩:∃n:Nat,a=(n:Int):=⟨a.toNat,by omega⟩
   obtain⟨n,xs,rfl,htk,hl⟩:=NQ h1
   rw[A6M,AU] at h
   refine⟨n,xs,k,e,hH,?_,htk,hl,h⟩
   rcases A6L p H.length with h'|h'
   ·exact h'
   ·rw[A6D h'] at hH;cases hH
  ·cases h
 ·cases h
theorem Kd{H:Hp}{p:Nat}{f:List D->Nat->Int->Option (D×Nat×Int)}{x:D×Hp}(h:cuE H p f=some x):∃n xs a e r a' e',H[p]? =some (.row [aV n xs,.int .i64 ((a:Nat):Int),.int .i64 e])/\p<H.length/\xs.all Aq=true/\xs.length<=600/\f xs a e=some (r,a',e')∧
  x=(r,H.set p (.row [aV n xs,.int .i64 ((a':Nat):Int),.int .i64 e'])):=by
 unfold cuE at h
 split at h
 ·rename_i l a e hH
  split at h
  ·rename_i hc
   obtain⟨h1,h2⟩:=hc
   obtain⟨k,rfl⟩:∃n:Nat,a=(n:Int):=⟨a.toNat,by omega⟩
   obtain⟨n,xs,rfl,htk,hl⟩:=NQ h1
   rw[A6M,AU] at h
   split at h
   ·rename_i r a' e' hf
    injection h with h
    refine⟨n,xs,k,e,r,a',e',hH,?_,htk,hl,hf,h.symm⟩
    rcases A6L p H.length with h'|h'
    ·exact h'
    ·rw[A6D h'] at hH;cases hH
   ·cases h
  ·cases h
 ·cases h
theorem SH{p:Nat}{f:List D->Nat->Int->Option D}{H H':Hp}{r:D}(hl:Hle H H')(h:cuQ H p f=some r):cuQ H' p f=some r:=by
 obtain⟨n,xs,a,e,h1,h2,h3,h4,h5⟩:=NZ h
 have h1':=hl p _ h1 rfl
 unfold cuQ
 rw[h1']
 simp only
 rw[if_pos ⟨Iu h3 h4,by omega⟩,A6M,AU]
 exact h5
theorem EX(g:GQ)(H H':Hp)(a:List D)(r:D)(hl:Hle H H')(h:φQ g H a=some r):φQ g H' a=some r:=by
 unfold φQ at h ⊢
 split at h
 ·exact SH hl h
 ·cases h
theorem mC{xs:List D}(h:xs.all Aq=true):D.eraseL xs=xs:=bF fun x hx=>by
 obtain⟨k,s,n,rfl,_⟩:=jF (A6B.1 h x hx)
 simp[mkT,D.erase,D.eraseL]
theorem NC{n:Bool}{xs:List D}(h:xs.all Aq=true)(i j:Nat):(aV n xs).cl i j=true:=by
 have:D.clL i j xs=true:=D8 fun d hd=>by
  obtain⟨k,s,n,rfl,_⟩:=jF (A6B.1 h d hd)
  simp[mkT,D.cl,D.clL]
 rcases kM n xs with⟨e,_⟩|e<;>simp[e,D.cl,this]
theorem Sl{l:Fs}{m:FsH}{ee:FsE}(hl:Ok Tryz.prog l)(hm:OkH Tryz.prog m)(hE:OkE Tryz.prog ee){f:FuncId}{k:Nat}{rs:List (Sum Nat (Nat×Bool×Nat))}{cc:C}(hf:Fn Tryz.prog f k rs cc){g:GQ}
  (h:∀(H:Hp) (p:Nat) (n:Bool) (xs:List D) (a:Nat) (e:Int) (rest:List D) (r:D),p<H.length->xs.all Aq=true->xs.length<=600->g rest xs a e=some r->rest.length+1<=k/\r.cl 0 0=true ∧
   ∀T,W (XE l m ee) cc (Ds rs (BV r (H.set p (.row [aV n xs,.int .i64 ((a:Nat):Int),.int .i64 e])) T)) ⟨Ae (.ptr p 0::rest),H.set p (.row [aV n xs,.int .i64 ((a:Nat):Int),.int .i64 e]),T⟩):IF Tryz.prog f (φQ g):=by
 refine TS hl hm hE hf fun H args r hr=>?_
 unfold φQ at hr
 split at hr
 ·rename_i p rest
  obtain⟨n,xs,a,e,h1,h2,h3,h4,h5⟩:=NZ hr
  obtain⟨k1,k2,k3⟩:=h H p n xs a e rest r h2 h3 h4 h5
  refine⟨by simpa using k1,D.cl_mono (A7d _) (A6K _) r k2,fun T=>?_⟩
  have:=k3 T
  rw[FI h1] at this
  exact this
 ·cases hr
theorem Ba{l:Fs}{m:FsH}{ee:FsE}(hl:Ok Tryz.prog l)(hm:OkH Tryz.prog m)(hE:OkE Tryz.prog ee){f:FuncId}{k:Nat}{rs:List (Sum Nat (Nat×Bool×Nat))}{cc:C}(hf:Fn Tryz.prog f k rs cc){g:GE}
  (h:∀(H:Hp) (p:Nat) (n:Bool) (xs:List D) (a:Nat) (e:Int) (rest:List D) (r:D) (a':Nat) (e':Int),p<H.length->xs.all Aq=true->xs.length<=600->g rest xs a e=some (r,a',e')->rest.length+1<=k/\r.cl 0 0=true ∧
   ∀T,W (XE l m ee) cc (Ds rs (BV r (H.set p (.row [aV n xs,.int .i64 ((a':Nat):Int),.int .i64 e'])) T)) ⟨Ae (.ptr p 0::rest),H.set p (.row [aV n xs,.int .i64 ((a:Nat):Int),.int .i64 e]),T⟩):Am Tryz.prog f (φC g):=by
 refine M4 hl hm hE hf fun H args r H1 hr=>?_
 unfold φC at hr
 split at hr
 ·rename_i p rest
  obtain⟨n,xs,a,e,r',a',e',h1,h2,h3,h4,h5,h6⟩:=Kd hr
  injection h6 with h6 h7
  subst h6;subst h7
  obtain⟨k1,k2,k3⟩:=h H p n xs a e rest r a' e' h2 h3 h4 h5
  refine⟨by simpa using k1,D.cl_mono (A7d _) (A6K _) r k2,⟨by simp,fun o x cs hx hc=>?_⟩,fun T=>?_⟩
  ·by_cases ho:o=p
   ·subst ho
    rw[A6F h2] at hx
    injection hx with hx;subst hx
    injection hc with hc;subst hc
    refine .inr ?_
    simp only[D.clL,NC h3,D.cl,A7G]
   ·rw[A7m (fun e=>ho e.symm)] at hx
    exact .inl hx
  ·have:=k3 T
   rw[FI h1] at this
   exact this
 ·cases hr
def Du:GQ:=fun rest toks a e=>match rest with
 | []=>some (Gl toks a e)
 | _=>none
theorem PC:IF Tryz.prog 177 (φQ Du):=by
 refine Sl (l:=[(166,BU)]) (m:=[]) (ee:=[]) (.cons VK .nil) .nil .nil Zi fun H p n xs a e rest r hp htk hlen h=>?_
 have hM:B0 []:=.nil
 unfold Du at h
 split at h
 ·injection h with h;subst h
  obtain⟨k0,s0,n0,e0,_⟩:=ET htk a e
  refine⟨by simp,by rw[e0];rfl,fun T=>?_⟩
  have rc:=fun X L off=>C7 (p:=p) hp X L off
  by_cases he:(e !=0)=true
  ·have g:Gl xs a e=zT:=by unfold Gl;rw[if_pos he]
   rw[g]
   simp +contextual only[Rs,rc,he,go_sem]
   exact lvM
  ·have he0:(e !=0)=false:=by simpa using he
   rcases A6L a xs.length with hlt|hge
   ·have d1:decide ((xs.length:Int)<=(a:Nat))=false:=by simp only[decide_eq_false_iff_not];omega
    obtain⟨k,s,m,e1,hs⟩:=jF (A6B.1 htk _ (A6I hlt))
    have ex:xs[a]? =some (mkT k s m):=by rw[A6A hlt,e1]
    have pf:BU [mkT k s m]=some (.bool (Ab k s m)):=by simp only[BU,mkT];rw[if_pos (by omega)]
    simp only[mkT] at pf ex
    have g:Gl xs a e=if Ab k s m then mkT k s m else zT:=by
     unfold Gl
     rw[if_neg (by rw[he0];decide),ex]
     rfl
    rw[g]
    rcases tf (Ab k s m) with gf|gf
    ·rw[gf,if_pos rfl]
     rw[gf] at pf
     simp +contextual only[Rs,rc,he0,d1,ex,pf,B5 hM,go_sem]
     exact lvM
    ·rw[gf,if_neg (by decide)]
     rw[gf] at pf
     simp +contextual only[Rs,rc,he0,d1,ex,pf,B5 hM,go_sem]
     exact lvM
   ·have d1:decide ((xs.length:Int)<=(a:Nat))=true:=by simp only[decide_eq_true_eq];omega
    have g:Gl xs a e=zT:=by
     unfold Gl
     rw[if_neg (by rw[he0];decide),A6D (by omega)]
    rw[g]
    simp +contextual only[Rs,rc,he0,d1,go_sem]
    exact lvM
 ·cases h
end GP
namespace GP
open Go Go.Proofs
set_option maxRecDepth 100000
abbrev St:=Nat×Int
def BS(toks:List D)(st:St):D:=Gl toks st.1 st.2
def isP(toks:List D)(st:St)(s:List UInt8):Bool:=((tk (BS toks st)==1)||(tk (BS toks st)==5))&&(ts (BS toks st)==s)
def Bj(at_:Nat)(err:Int)(st:St):St:=if st.2==0 then(at_,err) else st
def AV(toks:List D)(s:List UInt8)(st:St):St:=if isP toks st s then(st.1+1,st.2) else Bj st.1 2 st
def gIs:GQ:=fun rest toks a e=>match rest with
 | [.str s]=>some (.bool (isP toks (a,e) s))
 | _=>none
def BE:GE:=fun rest toks a e=>match rest with
 | [.str s]=>some (if isP toks (a,e) s then(.bool true,a+1,e) else(.bool false,a,e))
 | _=>none
def DO:GE:=fun rest _ a e=>match rest with
 | [.int .i64 n,.int .i64 err]=>if 0<=n then some (.tup [],Bj n.toNat err (a,e)) else none
 | _=>none
def At:GE:=fun rest toks a e=>match rest with
 | [.str s]=>some (.tup [],AV toks s (a,e))
 | _=>none
theorem wJ{toks:List D}{a:Nat}{e:Int}(h:tk (Gl toks a e)≠0):a<toks.length/\e=0:=by
 unfold Gl at h
 split at h
 ·exact absurd rfl h
 ·rename_i he
  refine⟨?_,by simpa using he⟩
  split at h
  ·rename_i t ht
   rcases A6L a toks.length with h'|h'
   ·exact h'
   ·rw[A6D h'] at ht;cases ht
  ·exact absurd rfl h
theorem xR{toks:List D}{st:St}{s:List UInt8}(h:isP toks st s=true):st.1<toks.length/\st.2=0:=by
 unfold isP at h
 simp only[A6H,Bool.or_eq_true,beq_iff_eq] at h
 refine wJ (toks:=toks) (a:=st.1) (e:=st.2) ?_
 unfold BS at h
 omega
theorem Me{a:Nat}(h:a<601):IntKind.i64.wrap ((a:Nat)+1:Int)=((a+1:Nat):Int):=by
 rw[show((a:Nat)+1:Int)=((a+1:Nat):Int) by omega];exact kU _ (by omega) (by omega)
theorem SQ:IF Tryz.prog 117 (φQ gIs):=by
 have hM:B0 [(177,φQ Du)]:=.cons (EX Du) .nil
 refine Sl (l:=[]) (m:=[(177,φQ Du)]) (ee:=[]) .nil (.cons PC .nil) .nil A2d fun H p n xs a e rest r hp htk hlen h=>?_
 unfold gIs at h
 split at h
 ·rename_i s
  injection h with h;subst h
  refine⟨by simp,by simp[D.cl],fun T=>?_⟩
  have qa0:=fun g rest a e=>Au (n:=n) hp htk hlen g rest a e
  obtain⟨k0,s0,m0,e0,_⟩:=ET htk a e
  have g:isP xs (a,e) s=(((k0==1)||(k0==5))&&(s0==s)):=by simp only[isP,BS,e0,tW,kE]
  rw[g]
  have e0':=e0
  simp only[mkT] at e0'
  simp +contextual only[XI,qa0,Du,e0',B5 hM,go_sem]
  all_goals ((repeat' (first|apply A6N|intro _))<;>(first|omega|exact lvM))
 ·cases h
theorem J3:Am Tryz.prog 69 (φC BE):=by
 have hM:B0 [(117,φQ gIs)]:=.cons (EX gIs) .nil
 refine Ba (l:=[]) (m:=[(117,φQ gIs)]) (ee:=[]) .nil (.cons SQ .nil) .nil A4C fun H p n xs a e rest r a' e' hp htk hlen h=>?_
 unfold BE at h
 split at h
 ·rename_i s
  have qa0:=fun g rest a e=>Au (n:=n) hp htk hlen g rest a e
  have rc0:=fun X off=>BJ (p:=p) hp X off
  have sc0:=fun(K:D->S->Prop) X t T n off v=>BR (p:=p) (K:=K) hp X t T n off v
  rcases tf (isP xs (a,e) s) with g|g
  ·rw[g] at h
   injection h with h;injection h with h1 h2;injection h2 with h2 h3
   subst h1;subst h2;subst h3
   have hlt:=(xR g).1
   have w:=Me (a:=a) (by simp only at hlt;omega)
   refine⟨by simp,by simp[D.cl],fun T=>?_⟩
   simp +contextual only[c69,qa0,gIs,g,B5 hM,rc0,sc0,w,go_sem]
   all_goals ((repeat' (first|apply A6N|intro _))<;>(first|omega|exact lvM))
  ·rw[g] at h
   injection h with h;injection h with h1 h2;injection h2 with h2 h3
   subst h1;subst h2;subst h3
   refine⟨by simp,by simp[D.cl],fun T=>?_⟩
   simp +contextual only[c69,qa0,gIs,g,B5 hM,go_sem]
   all_goals ((repeat' (first|apply A6N|intro _))<;>(first|omega|exact lvM))
 ·cases h
theorem JI:Am Tryz.prog 105 (φC DO):=by
 refine Ba (l:=[]) (m:=[]) (ee:=[]) .nil .nil .nil Xl fun H p n xs a e rest r a' e' hp htk hlen h=>?_
 unfold DO at h
 split at h
 ·rename_i m err
  split at h
  ·rename_i hm
   obtain⟨k,rfl⟩:∃k:Nat,m=(k:Int):=⟨m.toNat,by omega⟩
   rw[A6M] at h
   injection h with h;injection h with h1 h2
   subst h1
   have rc0:=fun X off=>BJ (p:=p) hp X off
   have sc0:=fun(K:D->S->Prop) X t T n off v=>BR (p:=p) (K:=K) hp X t T n off v
   refine⟨by simp,by simp[D.cl,D.clL],fun T=>?_⟩
   rcases tf (e==0) with g|g
   ·have f:Bj k err (a,e)=(k,err):=by unfold Bj;rw[g];rfl
    rw[f] at h2;injection h2 with h2 h3;subst h2;subst h3
    simp +contextual only[Vg,rc0,sc0,g,go_sem]
    all_goals ((repeat' (first|apply A6N|intro _))<;>(first|omega|exact lvM))
   ·have f:Bj k err (a,e)=(a,e):=by unfold Bj;rw[g];rfl
    rw[f] at h2;injection h2 with h2 h3;subst h2;subst h3
    simp +contextual only[Vg,rc0,sc0,g,go_sem]
    all_goals ((repeat' (first|apply A6N|intro _))<;>(first|omega|exact lvM))
  ·cases h
 ·cases h
theorem Mn:Am Tryz.prog 71 (φC At):=by
 have hM:B0 []:=.nil
 refine Ba (l:=[]) (m:=[]) (ee:=[(69,φC BE),(105,φC DO)]) .nil .nil (.cons J3 (.cons JI .nil)) A4d fun H p n xs a e rest r a' e' hp htk hlen h=>?_
 unfold At at h
 split at h
 ·rename_i s
  injection h with h;injection h with h1 h2
  subst h1
  have ca0:=fun g rest a e=>B1 (n:=n) hp htk hlen g rest a e
  have rc0:=fun X off=>BJ (p:=p) hp X off
  refine⟨by simp,by simp[D.cl,D.clL],fun T=>?_⟩
  rcases tf (isP xs (a,e) s) with g|g
  ·have f:AV xs s (a,e)=(a+1,e):=by unfold AV;rw[g];rfl
   rw[f] at h2;injection h2 with h2 h3;subst h2;subst h3
   simp +contextual only[c71,ca0,BE,g,go_sem]
   all_goals ((repeat' (first|apply A6N|intro _))<;>(first|omega|exact lvM))
  ·have f:AV xs s (a,e)=Bj a 2 (a,e):=by unfold AV;rw[g];rfl
   rw[f] at h2
   obtain⟨a1,e1⟩:∃y:St,Bj a 2 (a,e)=y:=⟨_,rfl⟩
   have hf:DO [.int .i64 (a:Nat),.int .i64 2] xs a e=some (.tup [],Bj a 2 (a,e)):=by simp only[DO];rw[if_pos (by omega),A6M]
   obtain⟨y1,y2,hy⟩:∃y1 y2,Bj a 2 (a,e)=(y1,y2):=⟨_,_,rfl⟩
   rw[hy] at hf h2
   injection h2 with h2 h3;subst h2;subst h3
   simp +contextual only[c71,ca0,BE,g,rc0,hf,go_sem]
   all_goals ((repeat' (first|apply A6N|intro _))<;>(first|omega|exact lvM))
 ·cases h
def BP(toks:List D)(k:Int)(st:St):D×St:=if tk (BS toks st) !=k then(zT,Bj st.1 2 st) else(BS toks st,(st.1+1,st.2))
def D5:GE:=fun rest toks a e=>match rest with
 | [.int .i64 k]=>if k==0 then none else some (BP toks k (a,e))
 | _=>none
theorem GL(a:Nat)(err:Int)(toks:List D)(e:Int):DO [.int .i64 (a:Nat),.int .i64 err] toks a e=some (.tup [],Bj a err (a,e)):=by
 simp only[DO];rw[if_pos (by omega),A6M]
theorem Mx(m:Nat)(err:Int)(toks:List D)(a:Nat)(e:Int):DO [.int .i64 (m:Nat),.int .i64 err] toks a e=some (.tup [],Bj m err (a,e)):=by
 simp only[DO];rw[if_pos (by omega),A6M]
theorem Hy{toks:List D}(h:toks.all Aq=true)(k:Int)(st:St):∃k0 s0 n0,(BP toks k st).1=mkT k0 s0 n0/\s0.length<=2^47:=by
 unfold BP
 split
 ·exact⟨0,[],0,rfl,by simp⟩
 ·exact ET h _ _
theorem Nb:Am Tryz.prog 120 (φC D5):=by
 have hM:B0 [(177,φQ Du)]:=.cons (EX Du) .nil
 refine Ba (l:=[]) (m:=[(177,φQ Du)]) (ee:=[(105,φC DO)]) .nil (.cons PC .nil) (.cons JI .nil) A0U fun H p n xs a e rest r a' e' hp htk hlen h=>?_
 unfold D5 at h
 split at h
 ·rename_i k
  split at h
  ·cases h
  ·rename_i hk0
   have hk0:k≠0:=by simpa using hk0
   injection h with h
   obtain⟨k0,s0,m0,e0,_⟩:=ET htk a e
   have qa:=BY (n:=n) hp htk hlen;have qa0:=Au (n:=n) hp htk hlen;have ca:=BI (n:=n) hp htk hlen;have ca0:=B1 (n:=n) hp htk hlen;have rc:=C7 hp;have rc0:=BJ hp;have sc:=fun K:D->S->Prop=>CH (K:=K) hp;have sc0:=fun K:D->S->Prop=>BR (K:=K) hp
   have e0':=e0
   simp only[mkT] at e0'
   rcases tf (k0 !=k) with g|g
   ·have f:BP xs k (a,e)=(zT,Bj a 2 (a,e)):=by simp only[BP,BS,e0,tW];rw[if_pos g]
    rw[f] at h
    obtain⟨y1,y2,hy⟩:∃y1 y2,Bj a 2 (a,e)=(y1,y2):=⟨_,_,rfl⟩
    have hf:=GL a 2 xs e
    rw[hy] at hf h
    injection h with h1 h2;injection h2 with h2 h3
    subst h1;subst h2;subst h3
    refine⟨by simp,rfl,fun T=>?_⟩
    simp +contextual only[qa,qa0,ca,ca0,rc,rc0,sc,sc0,W2,Du,e0',B5 hM,g,hf,go_sem]
    all_goals ((repeat' (first|apply A6N|intro _))<;>(first|omega|exact lvM))
   ·have f:BP xs k (a,e)=(mkT k0 s0 m0,(a+1,e)):=by simp only[BP,BS,e0,tW];rw[if_neg (by rw[g];decide)]
    rw[f] at h
    have hlt:=wJ (toks:=xs) (a:=a) (e:=e) (by rw[e0,tW];have:k0=k:=(by simpa using g);omega)
    have w:=Me (a:=a) (by omega)
    injection h with h1 h2;injection h2 with h2 h3
    subst h1;subst h2;subst h3
    refine⟨by simp,rfl,fun T=>?_⟩
    simp only[mkT]
    simp +contextual only[qa,qa0,ca,ca0,rc,rc0,sc,sc0,W2,Du,e0',B5 hM,g,w,go_sem]
    all_goals ((repeat' (first|apply A6N|intro _))<;>(first|omega|exact lvM))
 ·cases h
def DH:List (List UInt8):=[[102,97,99,116],[116,114,117,116,104],[110,117,109,98,101,114],[116,101,120,116],[116,105,109,101],[98,97,103],[117,115,101],[112,111,108,105,99,121],[98,121],[102,111,114],[112,101,114,109,105,116],[100,101,110,121],[105,102],[100,117,116,121],[97,100,118,105,99,101],[116,114,117,101],[102,97,108,115,101],[110,111,119],[111,114],[97,110,100],[110,111,116],[105,110],[104,97,115],[114,111,108,101],[115,105,122,101],[115,117,98,106,101,99,116],[114,101,115,111,117,114,99,101],[97,99,116,105,111,110],[101,110,118]]
def JL(s:List UInt8):Bool:=DH.any (fun x=>s==x)
def Ec:List D->Option D
 | []=>some (.sl none (DH.map .str))
 | _=>none
theorem A4Q:AQ Tryz.prog 48 Ec:=by
 refine AN (l:=[]) .nil A5G fun args r h=>?_
 unfold Ec at h
 split at h
 ·injection h with h;subst h
  refine⟨by simp,by decide,fun H T=>?_⟩
  simp +contextual only[c48,go_sem]
  first|rfl|simp only[DH,A7I,A7L,D.erase,D.eraseL]
 ·cases h
theorem A4P:AQ Tryz.prog 16 Ec:=by
 refine AN (l:=[]) .nil A4s fun args r h=>?_
 unfold Ec at h
 split at h
 ·injection h with h;subst h
  refine⟨by simp,by decide,fun H T=>?_⟩
  simp +contextual only[c16,go_sem]
  first|rfl|simp only[DH,A7I,A7L,D.erase,D.eraseL]
 ·cases h
theorem QS(s:List UInt8):CR [.sl none (DH.map .str),.str s]=some (.bool (JL s)):=by
 have hL:G6 NM (.sl none (DH.map D.str)):=⟨false,DH.map D.str,rfl,by decide,fun x hx=>by
  obtain⟨y,hy,rfl⟩:=A6Y.1 hx
  have key:∀y∈DH,y.length<=2^47:=by decide
  exact⟨y,rfl,key y hy⟩⟩
 simp only[CR]
 rw[if_pos hL]
 congr 2
def M6:List D->Option D
 | [.str s]=>some (.bool (JL s))
 | _=>none
theorem A3w:AQ Tryz.prog 17 M6:=by
 refine AN (l:=[(48,Ec),(47,CR)]) (.cons A4Q (.cons SS .nil)) A4Z fun args r h=>?_
 unfold M6 at h
 split at h
 ·rename_i s
  injection h with h;subst h
  have p1:Ec []=some (.sl none (DH.map .str)):=rfl
  have p2:=QS s
  have e1:D.eraseL [.sl none (DH.map D.str),.str s]=[.sl none (DH.map D.str),.str s]:=by simp only[D.eraseL,D.erase,bF (l:=DH.map D.str) (fun x hx=>by obtain⟨y,_,rfl⟩:=A6Y.1 hx;rfl)]
  obtain⟨ks,hk⟩:∃ks,DH.map D.str=ks:=⟨_,rfl⟩
  rw[hk] at p1 p2 e1
  refine⟨by simp,by simp[D.cl],fun H T=>?_⟩
  simp +contextual only[c17,p1,p2,e1,go_sem]
 ·cases h
def Cf(toks:List D)(st:St):List UInt8×St:=if(tk (BS toks st) !=1)||JL (ts (BS toks st)) then([],Bj st.1 2 st) else(ts (BS toks st),(st.1+1,st.2))
def Dh:GE:=fun rest toks a e=>match rest with
 | []=>some (.str (Cf toks (a,e)).1,(Cf toks (a,e)).2)
 | _=>none
theorem Rp:Am Tryz.prog 121 (φC Dh):=by
 have hM:B0 [(177,φQ Du)]:=.cons (EX Du) .nil
 refine Ba (l:=[(17,M6)]) (m:=[(177,φQ Du)]) (ee:=[(105,φC DO),(120,φC D5)]) (.cons A3w .nil) (.cons PC .nil) (.cons JI (.cons Nb .nil)) A1z fun H p n xs a e rest r a' e' hp htk hlen h=>?_
 unfold Dh at h
 split at h
 ·injection h with h
  obtain⟨k0,s0,m0,e0,_⟩:=ET htk a e
  have qa:=BY (n:=n) hp htk hlen;have qa0:=Au (n:=n) hp htk hlen;have ca:=BI (n:=n) hp htk hlen;have ca0:=B1 (n:=n) hp htk hlen;have rc:=C7 hp;have rc0:=BJ hp;have sc:=fun K:D->S->Prop=>CH (K:=K) hp;have sc0:=fun K:D->S->Prop=>BR (K:=K) hp
  have e0':=e0
  simp only[mkT] at e0'
  have pk:M6 [.str s0]=some (.bool (JL s0)):=rfl
  rcases tf ((k0 !=1)||JL s0) with g|g
  ·have f:Cf xs (a,e)=([],Bj a 2 (a,e)):=by simp only[Cf,BS,e0,tW,kE];rw[if_pos g]
   rw[f] at h
   obtain⟨y1,y2,hy⟩:∃y1 y2,Bj a 2 (a,e)=(y1,y2):=⟨_,_,rfl⟩
   have hf:=GL a 2 xs e
   rw[hy] at hf h
   injection h with h1 h2;injection h2 with h2 h3
   subst h1;subst h2;subst h3
   refine⟨by simp,by simp[D.cl],fun T=>?_⟩
   rcases tf (k0 !=1) with g1|g1
   ·simp +contextual only[qa,qa0,ca,ca0,rc,rc0,sc,sc0,TG,Du,e0',B5 hM,g1,hf,go_sem]
    all_goals ((repeat' (first|apply A6N|intro _))<;>(first|omega|exact lvM))
   ·have g2:JL s0=true:=by rw[g1] at g;simpa using g
    rw[g2] at pk
    simp +contextual only[qa,qa0,ca,ca0,rc,rc0,sc,sc0,TG,Du,e0',B5 hM,g1,pk,hf,go_sem]
    all_goals ((repeat' (first|apply A6N|intro _))<;>(first|omega|exact lvM))
  ·have f:Cf xs (a,e)=(s0,(a+1,e)):=by simp only[Cf,BS,e0,tW,kE];rw[if_neg (by rw[g];decide)]
   rw[f] at h
   injection h with h1 h2;injection h2 with h2 h3
   subst h1;subst h2;subst h3
   simp only[Bool.or_eq_false_iff] at g
   obtain⟨g1,g2⟩:=g
   rw[g2] at pk
   have hk:D5 [.int .i64 1] xs a e=some (mkT k0 s0 m0,a+1,e):=by
    simp only[D5,BP,BS,e0,tW]
    rw[if_neg (by decide),if_neg (by rw[g1];decide)]
   simp only[mkT] at hk
   refine⟨by simp,by simp[D.cl],fun T=>?_⟩
   simp +contextual only[qa,qa0,ca,ca0,rc,rc0,sc,sc0,TG,Du,e0',B5 hM,g1,pk,hk,go_sem]
   all_goals ((repeat' (first|apply A6N|intro _))<;>(first|omega|exact lvM))
 ·cases h
def FP:D->Bool
 | .str _=>true
 | _=>false
def CQ:D->List UInt8
 | .str s=>s
 | _=>[]
def oK(toks:List D)(st:St):List (List UInt8)->Option (List UInt8)
 | []=>none
 | w::r=>if isP toks st w then some w else oK toks st r
def D1(toks:List D)(ws:List (List UInt8))(st:St):List UInt8×St:=match oK toks st ws with
 | some w=>(w,(st.1+1,st.2))
 | none=>([],Bj st.1 2 st)
def JR:GE:=fun rest toks a e=>match rest with
 | [.sl none ds]=>if ds.all FP=true/\ds.length<=100 then some (.str (D1 toks (ds.map CQ) (a,e)).1,(D1 toks (ds.map CQ) (a,e)).2) else none
 | _=>none
theorem Dj{toks:List D}{st:St}:∀{ws:List (List UInt8)},(∀w∈ws,isP toks st w=false)->oK toks st ws=none
 | [],_=>rfl
 | w::r,h=>by
  simp only[oK];rw[if_neg (by rw[h w (by simp)];decide)]
  exact Dj fun x hx=>h x (by simp[hx])
theorem GZ{toks:List D}{st:St}:∀{ws:List (List UInt8)} {i:Nat} {w:List UInt8},ws[i]? =some w->(∀j u,j<i->ws[j]? =some u->isP toks st u=false)->isP toks st w=true->oK toks st ws=some w
 | [],i,w,h,_,_=>by simp at h
 | x::r,0,w,h,_,h2=>by
  simp only[List.getElem?_cons_zero,Option.some.injEq] at h;subst h
  simp only[oK];rw[if_pos h2]
 | x::r,i+1,w,h,h1,h2=>by
  simp only[oK];rw[if_neg (by rw[h1 0 x (by omega) rfl];decide)]
  exact GZ (by simpa using h) (fun j u hj hu=>h1 (j+1) u (by omega) (by simpa using hu)) h2
theorem R7:Am Tryz.prog 119 (φC JR):=by
 have hM:B0 []:=.nil
 refine Ba (l:=[]) (m:=[]) (ee:=[(69,φC BE),(105,φC DO)]) .nil .nil (.cons J3 (.cons JI .nil)) XC fun H p n xs a e rest r a' e' hp htk hlen h=>?_
 unfold JR at h
 split at h
 ·rename_i ds
  split at h
  ·rename_i hd
   obtain⟨hd,hdl⟩:=hd
   injection h with h
   have qa:=BY (n:=n) hp htk hlen;have qa0:=Au (n:=n) hp htk hlen;have ca:=BI (n:=n) hp htk hlen;have ca0:=B1 (n:=n) hp htk hlen;have rc:=C7 hp;have rc0:=BJ hp;have sc:=fun K:D->S->Prop=>CH (K:=K) hp;have sc0:=fun K:D->S->Prop=>BR (K:=K) hp
   have hstr:∀(i:Nat) (hi:i<ds.length),ds[i]? =some (.str (CQ ds[i])):=fun i hi=>by
    have:=A6B.1 hd _ (A6I hi)
    rw[A6A hi]
    cases hx:ds[i]<;>rw[hx] at this<;>simp[FP] at this<;>rfl
   refine⟨by simp,?_,fun T=>?_⟩
   ·injection h with h1 h2;subst h1;rfl
   simp +contextual only[qa,qa0,ca,ca0,rc,rc0,sc,sc0,A1w,go_sem]
   refine Ap (fun i s'=>s'.t 0= .ptr p 0/\s'.t 7= .sl none ds/\s'.t 8= .int .i64 ds.length/\s'.t 9= .int .i64 (i:Nat)/\s'.H=H.set p (.row [aV n xs,.int .i64 ((a:Nat):Int),.int .i64 e])/\s'.T=T/\i<=ds.length/\∀j u,j<i->(ds.map CQ)[j]? =some u->isP xs (a,e) u=false) ds.length
    ⟨0,by simp[upd,Ae],by simp[upd],by simp[upd],by simp[upd],rfl,rfl,by omega,fun j u h=>by omega⟩ (fun i s h=>h.2.2.2.2.2.2.1) ?_ (Dc _ _ _)
   rintro i ⟨t,B,T'⟩ ⟨r0,r7,r8,r9,rfl,rfl,hi,hN⟩
   simp only at r0 r7 r8 r9
   by_cases hlt:i<ds.length
   ·have d1:decide (((i:Nat):Int)<ds.length)=true:=by simp only[decide_eq_true_eq];omega
    have ex:=hstr i hlt
    obtain⟨w,hw⟩:∃w,CQ ds[i]=w:=⟨_,rfl⟩
    rw[hw] at ex
    have hmap:(ds.map CQ)[i]? =some w:=by rw[List.getElem?_map,ex];rfl
    have ws:IntKind.i64.wrap (((i:Nat):Int)+1)=((i+1:Nat):Int):=by rw[show((i:Nat):Int)+1=((i+1:Nat):Int) by omega];exact kU _ (by omega) (by omega)
    rcases tf (isP xs (a,e) w) with g|g
    ·have f:D1 xs (ds.map CQ) (a,e)=(w,(a+1,e)):=by unfold D1;rw[GZ hmap hN g]
     rw[f] at h
     injection h with h1 h2;injection h2 with h2 h3
     subst h1;subst h2;subst h3
     simp +contextual only[qa,qa0,ca,ca0,rc,rc0,sc,sc0,r0,r7,r8,r9,d1,ex,BE,g,go_sem]
     all_goals ((repeat' (first|apply A6N|intro _))<;>(first|omega|exact lvM))
    ·simp +contextual only[qa,qa0,ca,ca0,rc,rc0,sc,sc0,r0,r7,r8,r9,d1,ex,BE,g,ws,go_sem]
     refine⟨by omega,fun j u hj hu=>?_⟩
     rcases A6L j i with h'|h'
     ·exact hN j u h' hu
     ·have:j=i:=by omega
      subst this
      rw[hmap] at hu;injection hu with hu;subst hu;exact g
   ·have d1:decide (((i:Nat):Int)<ds.length)=false:=by simp only[decide_eq_false_iff_not];omega
    have f:D1 xs (ds.map CQ) (a,e)=([],Bj a 2 (a,e)):=by
     unfold D1
     rw[Dj fun w hw=>by
      obtain⟨j,hj,rfl⟩:=A6T hw
      exact hN j _ (by simp at hj;omega) (by rw[A6A hj])]
    rw[f] at h
    obtain⟨y1,y2,hy⟩:∃y1 y2,Bj a 2 (a,e)=(y1,y2):=⟨_,_,rfl⟩
    have hf:=GL a 2 xs e
    rw[hy] at hf h
    injection h with h1 h2;injection h2 with h2 h3
    subst h1;subst h2;subst h3
    simp +contextual only[qa,qa0,ca,ca0,rc,rc0,sc,sc0,r0,r7,r8,r9,d1,hf,go_sem]
    all_goals ((repeat' (first|apply A6N|intro _))<;>(first|omega|exact lvM))
  ·cases h
 ·cases h
def Dm:List (List UInt8):=[[115,117,98,106,101,99,116],[114,101,115,111,117,114,99,101],[97,99,116,105,111,110],[101,110,118]]
def Bk(toks:List D)(st:St):List UInt8×List UInt8×St :=
 ((D1 toks Dm st).1,(Cf toks (AV toks [46] (D1 toks Dm st).2)).1,(Cf toks (AV toks [46] (D1 toks Dm st).2)).2)
def Gm:GE:=fun rest toks a e=>match rest with
 | []=>some (.tup [.str (Bk toks (a,e)).1,.str (Bk toks (a,e)).2.1],(Bk toks (a,e)).2.2)
 | _=>none
theorem VN:Am Tryz.prog 118 (φC Gm):=by
 have hM:B0 []:=.nil
 refine Ba (l:=[]) (m:=[]) (ee:=[(119,φC JR),(71,φC At),(121,φC Dh)]) .nil .nil (.cons R7 (.cons Mn (.cons Rp .nil))) ZS fun H p n xs a e rest r a' e' hp htk hlen h=>?_
 unfold Gm at h
 split at h
 ·injection h with h
  have qa:=BY (n:=n) hp htk hlen;have qa0:=Au (n:=n) hp htk hlen;have ca:=BI (n:=n) hp htk hlen;have ca0:=B1 (n:=n) hp htk hlen;have rc:=C7 hp;have rc0:=BJ hp;have sc:=fun K:D->S->Prop=>CH (K:=K) hp;have sc0:=fun K:D->S->Prop=>BR (K:=K) hp
  have h1:JR [.sl none [.str [115,117,98,106,101,99,116],.str [114,101,115,111,117,114,99,101],.str [97,99,116,105,111,110],.str [101,110,118]]] xs a e=some (.str (D1 xs Dm (a,e)).1,(D1 xs Dm (a,e)).2):=rfl
  obtain⟨w1,⟨a1,e1⟩,hy1⟩:∃w1 st1,D1 xs Dm (a,e)=(w1,st1):=⟨_,_,rfl⟩
  obtain⟨⟨a2,e2⟩,hy2⟩:∃st2,AV xs [46] (a1,e1)=st2:=⟨_,rfl⟩
  obtain⟨w3,⟨a3,e3⟩,hy3⟩:∃w3 st3,Cf xs (a2,e2)=(w3,st3):=⟨_,_,rfl⟩
  have f:Bk xs (a,e)=(w1,w3,a3,e3):=by simp only[Bk,hy1,hy2,hy3]
  rw[hy1] at h1
  simp only at h1
  rw[f] at h
  injection h with g1 g2;injection g2 with g2 g3
  subst g1;subst g2;subst g3
  have h2:At [.str [46]] xs a1 e1=some (.tup [],a2,e2):=by simp only[At,hy2]
  have h3:Dh [] xs a2 e2=some (.str w3,a3,e3):=by simp only[Dh,hy3]
  refine⟨by simp,by simp[D.cl,D.clL],fun T=>?_⟩
  simp +contextual only[qa,qa0,ca,ca0,rc,rc0,sc,sc0,YJ,h1,h2,h3,go_sem]
  all_goals ((repeat' (first|apply A6N|intro _))<;>(first|omega|exact lvM))
 ·cases h
def Gk(toks:List D)(st:St):St:=if(st.2==0)&&decide (st.1<toks.length) then(st.1,2) else st
def SK:GE:=fun rest toks a e=>match rest with
 | []=>some (if(Gk toks (a,e)).2==0 then .tup [.int .i64 0,.int .i64 0] else .tup [.int .i64 ((Gk toks (a,e)).1:Nat),.int .i64 (Gk toks (a,e)).2],Gk toks (a,e))
 | _=>none
theorem A5x:Am Tryz.prog 50 (φC SK):=by
 have hM:B0 []:=.nil
 refine Ba (l:=[]) (m:=[]) (ee:=[(105,φC DO)]) .nil .nil (.cons JI .nil) A5g fun H p n xs a e rest r a' e' hp htk hlen h=>?_
 unfold SK at h
 split at h
 ·injection h with h
  have qa:=BY (n:=n) hp htk hlen;have qa0:=Au (n:=n) hp htk hlen;have ca:=BI (n:=n) hp htk hlen;have ca0:=B1 (n:=n) hp htk hlen;have rc:=C7 hp;have rc0:=BJ hp;have sc:=fun K:D->S->Prop=>CH (K:=K) hp;have sc0:=fun K:D->S->Prop=>BR (K:=K) hp
  refine⟨by simp,?_,fun T=>?_⟩
  ·injection h with h1 h2;subst h1;split<;>rfl
  have hf:DO [.int .i64 (a:Nat),.int .i64 2] xs a e=some (.tup [],Bj a 2 (a,e)):=GL a 2 xs e
  rcases tf (e==0) with g|g
  ·rcases tf (decide ((a:Int)<xs.length)) with g1|g1
   ·have g1':decide (a<xs.length)=true:=by simpa using g1
    have f:Gk xs (a,e)=(a,2):=by unfold Gk;rw[g,g1'];rfl
    have f2:Bj a 2 (a,e)=(a,2):=by unfold Bj;rw[g];rfl
    rw[f2] at hf
    rw[f] at h
    injection h with h1 h2;injection h2 with h2 h3
    subst h1;subst h2;subst h3
    simp +contextual only[qa,qa0,ca,ca0,rc,rc0,sc,sc0,c50,g,g1,hf,go_sem]
    all_goals ((repeat' (first|apply A6N|intro _))<;>(first|omega|exact lvM))
   ·have g1':decide (a<xs.length)=false:=by simpa using g1
    have f:Gk xs (a,e)=(a,e):=by unfold Gk;rw[g,g1'];rfl
    rw[f] at h
    have e0:e=0:=by simpa using g
    subst e0
    injection h with h1 h2;injection h2 with h2 h3
    subst h1;subst h2;subst h3
    simp +contextual only[qa,qa0,ca,ca0,rc,rc0,sc,sc0,c50,g,g1,go_sem]
    all_goals ((repeat' (first|apply A6N|intro _))<;>(first|omega|exact lvM))
  ·have f:Gk xs (a,e)=(a,e):=by unfold Gk;rw[g];rfl
   rw[f] at h
   simp only[g] at h
   injection h with h1 h2;injection h2 with h2 h3
   subst h1;subst h2;subst h3
   simp +contextual only[qa,qa0,ca,ca0,rc,rc0,sc,sc0,c50,g,go_sem]
   all_goals ((repeat' (first|apply A6N|intro _))<;>(first|omega|exact lvM))
 ·cases h
end GP
