import Derived.Test.YtainhmbnbgonhaaGreatDoorM3
set_option maxHeartbeats 8000000
open List renaming drop_eq_nil_of_le->A6A,all_eq_true->A6C,mem_map->A6E
open Bool renaming and_eq_false_iff->A6B,and_eq_true->A6D
set_option linter.unusedSimpArgs false
set_option linter.unnecessarySimpa false
namespace GP
open Go Go.Proofs
set_option maxRecDepth 100000
theorem F4(l:List UInt8):(BQ l).length=l.length:=by simp[BQ]
theorem Px(l:List UInt8)(c:UInt8):BQ (l++[c])=BQ l++[.int .u8 c.toNat]:=by simp[BQ]
theorem MT(l:List UInt8):(BQ l).all HB=true:=A6C.2 fun x hx=>by
 obtain⟨b,_,rfl⟩:=A6E.1 hx
 have:=b.toNat_lt
 simp[HB];try omega
theorem Rm(l:List UInt8):(BQ l).map l6=l:=by
 induction l with
 | nil=>rfl
 | cons b l ih =>
  have:l6 (.int .u8 (b.toNat:Int))=b:=by simp[l6]
  simp only[BQ,List.map_cons] at ih ⊢
  rw[this,ih]
theorem Qx(l:List UInt8):(BQ l).all (fit 1)=true:=A6C.2 fun x hx=>by
 obtain⟨b,_,rfl⟩:=A6E.1 hx;rfl
theorem Q6(t:Option Nat)(l:List UInt8):JU (.sl t (BQ l))=some (.str l):=by
 simp only[JU,MT,if_true,Rm]
def MH(T:Tk)(out:List UInt8)(d:D)(T':Tk):Prop:=(out=[]/\d= .nils/\T'=T)∨(out≠[]/\∃L i,T'=T++L/\d= .sl (some (T.length+i)) (BQ out)/\L[i]? =some (some (out.length,1)))
theorem Mm{T:Tk}{out:List UInt8}{d:D}{T':Tk}(h:MH T out d T'):JU d=some (.str out):=by
 rcases h with⟨rfl,rfl,_⟩|⟨_,L,i,_,rfl,_⟩
 ·rfl
 ·exact Q6 _ _
theorem Ji{sz:Nat}{K:D->S->Prop}{t:Nat->D}{H:Hp}{T T':Tk}{out:List UInt8}{d:D}(c:UInt8)(h:MH T out d T')(ho:out.length<=2^40)(hs:sz=1)
  (k:∀d2 T2,MH T (out++[c]) d2 T2->(∃n,C2 d2=some n/\n=out.length+1)->K d2 ⟨t,H,T2⟩):Eb sz 1 K ⟨t,H,T'++[some (1,1)]⟩ d (some [.int .u8 (c.toNat:Int)]):=by
 subst hs
 rcases h with⟨rfl,rfl,rfl⟩|⟨h0,L,i,rfl,rfl,hL⟩
 ·rw[HN]
  refine⟨rfl,by simp,by simp,k _ _ (.inr ⟨by simp,[some (1,1),some (1,1)],1,?_,?_,rfl⟩) ⟨_,rfl,rfl⟩⟩
  ·simp
  ·simp[BQ]
 ·have hi:i<L.length:=by
   rcases Nat.lt_or_ge i L.length with h|h
   ·exact h
   ·rw[List.getElem?_eq_none h] at hL;cases hL
  rw[List.append_assoc,BZ]
  refine⟨rfl,?_,?_,?_,Qx out,k _ _ (.inr ⟨by simp,_,i,rfl,by rw[Px],?_⟩) ⟨_,rfl,by simp[F4]⟩⟩
  ·rw[F4,List.getElem?_append_left hi,hL]
  ·simp[F4];omega
  ·simp[F4];omega
  ·rw[List.getElem?_set_self (by simp;omega),F4];simp
theorem F8{T:Tk}{out:List UInt8}{d:D}{T':Tk}(h:MH T out d T'):AY T T':=by
 rcases h with⟨_,_,rfl⟩|⟨_,L,_,rfl,_⟩
 ·exact AY.refl _
 ·exact AY.of T L
theorem Nq(out:List UInt8)(k:Nat):Fk [] out k=([],0):=by unfold Fk;rfl
theorem fX(c:UInt8)(r out:List UInt8)(k:Nat):Fk (c::r) out k =
  if c==34 then(out,k+1) else
  if c==92 then(match r with
   | []=>([],0)
   | d::r=>if(d !=34)&&(d !=92) then([],0) else if decide (64<out.length+1) then([],0) else Fk r (out++[d]) (k+2)) else
  if !(D6 c.toNat) then([],0) else if decide (64<out.length+1) then([],0) else Fk r (out++[c]) (k+1):=by
 conv=>lhs;unfold Fk
 cases r<;>rfl
theorem Yb:AQ Tryz.prog 150 Ik:=by
 refine AN (l:=[]) .nil Y4 fun args r h=>?_
 unfold Ik at h
 split at h
 ·rename_i l a
  split at h
  ·rename_i hc
   obtain⟨ha0,ha,hl⟩:=hc
   injection h with h;subst h
   obtain⟨a,rfl⟩:∃k:Nat,a=(k:Int):=⟨a.toNat,by omega⟩
   have ha:a+1<=l.length:=by omega
   refine⟨by simp,Tt _,fun H T=>?_⟩
   rw[show((a:Int)).toNat=a from by omega]
   simp +contextual only[YY,Bw a (by omega),go_sem]
   refine Ap (fun i s'=>s'.t 0= .str l/\s'.t 1= .int .i64 a/\s'.H=H/\∃(k:Nat) (out:List UInt8),s'.t 7= .int .i64 ((a+k:Nat):Int)/\i+1<=k/\a+k<=l.length/\out.length<=64/\MH T out (s'.t 6) s'.T/\Fk (l.drop (a+k)) out k=MM l a) l.length ⟨0,rfl,rfl,rfl,1,[],rfl,by omega,by omega,by simp,.inl ⟨rfl,rfl,rfl⟩,rfl⟩ (fun i s h=>by obtain⟨_,_,_,k,out,h⟩:=h;omega) ?_ (AR _)
   rintro i ⟨t,B,T'⟩ ⟨r0,r1,rfl,k,out,r7,h1,h2,h3,hA,hS⟩
   simp only at r0 r1 r7 hA
   have hX:=F8 hA
   have hb2:=Mm hA
   have wk:IntKind.i64.wrap (((a+k:Nat):Int)+1)=((a+k+1:Nat):Int):=Bw (a+k) (by omega)
   have wk2:IntKind.i64.wrap (((a+k+1:Nat):Int)+1)=((a+k+1+1:Nat):Int):=Bw (a+k+1) (by omega)
   by_cases hlt:a+k<l.length
   ·have d1:decide (((a+k:Nat):Int)<l.length)=true:=by simp only[decide_eq_true_eq];omega
    have ex:l[a+k]? =some l[a+k]:=by simp[hlt]
    obtain⟨b,hb⟩:∃b,l[a+k]=b:=⟨_,rfl⟩
    rw[hb] at ex
    have ix:=fun q=>Eu ex q
    rw[qF ex,fX] at hS
    have e1:((b.toNat:Int)==34)=(b==34):=GN b 34 (by decide)
    have e2:((b.toNat:Int)==92)=(b==92):=GN b 92 (by decide)
    rcases tf (b==34) with g1|g1
    ·rw[if_pos g1] at hS
     rw[<- hS]
     have w3:IntKind.i64.wrap (((a+k+1:Nat):Int) - (a:Int))=((k+1:Nat):Int):=by rw[FU (by omega) (by omega)];omega
     simp +contextual only[r0,r1,r7,d1,ix,e1,g1,hb2,wk,w3,Ad (Ext.refl B) hX,Hz,go_sem]
    rw[if_neg (by rw[g1];decide)] at hS
    rcases tf (b==92) with g2|g2
    ·rw[if_pos g2] at hS
     by_cases hl2:a+k+1<l.length
     ·have d2:(((a+k+1:Nat):Int)==(l.length:Int))=false:=by rw[beq_eq_false_iff_ne];omega
      have ex2:l[a+k+1]? =some l[a+k+1]:=by simp[hl2]
      obtain⟨b2,hb2'⟩:∃b2,l[a+k+1]=b2:=⟨_,rfl⟩
      rw[hb2'] at ex2
      have ix2:=fun q=>Eu ex2 q
      rw[qF ex2] at hS
      have e3:((b2.toNat:Int) !=34)=(b2 !=34):=by simp only[bne];rw[show((b2.toNat:Int)==34)=(b2==34) from GN b2 34 (by decide)]
      have e4:((b2.toNat:Int) !=92)=(b2 !=92):=by simp only[bne];rw[show((b2.toNat:Int)==92)=(b2==92) from GN b2 92 (by decide)]
      simp only at hS
      rcases tf ((b2 !=34)&&(b2 !=92)) with g3|g3
      ·rw[if_pos g3] at hS
       rw[<- hS]
       simp only[A6D] at g3
       simp +contextual only[r0,r1,r7,d1,ix,e1,e2,g1,g2,wk,d2,ix2,e3,e4,g3.1,g3.2,Ad (Ext.refl B) hX,Hz,go_sem]
      ·rw[if_neg (by rw[g3];decide)] at hS
       have fin:∀(d2:D) (T2:Tk),MH T (out++[b2]) d2 T2->(∃n,C2 d2=some n/\n=out.length+1)->True:=fun _ _ _ _=>trivial
       rcases tf (b2 !=34) with g4|g4
       ·have g5:(b2 !=92)=false:=by rw[g4] at g3;simpa using g3
        simp +contextual only[r0,r1,r7,d1,ix,e1,e2,g1,g2,wk,d2,ix2,e3,e4,g4,g5,go_sem]
        refine Ji b2 hA (by omega) rfl fun d3 T2 hA2 ⟨n,hn,hn'⟩=>?_
        subst hn'
        have hX2:=F8 hA2
        rcases tf (decide (64<out.length+1)) with g6|g6
        ·rw[if_pos g6] at hS
         have g6':decide ((64:Int)<((out.length+1:Nat):Int))=true:=by simp only[decide_eq_true_eq] at g6 ⊢;omega
         rw[<- hS]
         simp +contextual only[hn,g6',Ad (Ext.refl B) hX2,Hz,go_sem]
        ·rw[if_neg (by rw[g6];decide)] at hS
         have g6':decide ((64:Int)<((out.length+1:Nat):Int))=false:=by simp only[decide_eq_false_iff_not] at g6 ⊢;omega
         simp only[decide_eq_false_iff_not] at g6
         simp +contextual only[hn,g6',r0,r1,wk2,go_sem]
         exact⟨k+2,out++[b2],rfl,by omega,by omega,by simp;omega,hA2,hS⟩
       ·simp +contextual only[r0,r1,r7,d1,ix,e1,e2,g1,g2,wk,d2,ix2,e3,e4,g4,go_sem]
        refine Ji b2 hA (by omega) rfl fun d3 T2 hA2 ⟨n,hn,hn'⟩=>?_
        subst hn'
        have hX2:=F8 hA2
        rcases tf (decide (64<out.length+1)) with g6|g6
        ·rw[if_pos g6] at hS
         have g6':decide ((64:Int)<((out.length+1:Nat):Int))=true:=by simp only[decide_eq_true_eq] at g6 ⊢;omega
         rw[<- hS]
         simp +contextual only[hn,g6',Ad (Ext.refl B) hX2,Hz,go_sem]
        ·rw[if_neg (by rw[g6];decide)] at hS
         have g6':decide ((64:Int)<((out.length+1:Nat):Int))=false:=by simp only[decide_eq_false_iff_not] at g6 ⊢;omega
         simp only[decide_eq_false_iff_not] at g6
         simp +contextual only[hn,g6',r0,r1,wk2,go_sem]
         exact⟨k+2,out++[b2],rfl,by omega,by omega,by simp;omega,hA2,hS⟩
     ·have d2:(((a+k+1:Nat):Int)==(l.length:Int))=true:=by rw[beq_iff_eq];omega
      rw[A6A (by omega)] at hS
      rw[<- hS]
      simp +contextual only[r0,r1,r7,d1,ix,e1,e2,g1,g2,wk,d2,Ad (Ext.refl B) hX,Hz,go_sem]
    ·rw[if_neg (by rw[g2];decide)] at hS
     have pT:D6 (b.toNat:Int)=(decide ((32:Int)<=b.toNat)&&decide ((b.toNat:Int)<=126)):=rfl
     by_cases q1:(b.toNat:Int)<32
     ·have g3:decide ((b.toNat:Int)<32)=true:=by simpa using q1
      have g4:D6 (b.toNat:Int)=false:=by rw[pT];simp only[A6B,decide_eq_false_iff_not];omega
      rw[g4] at hS
      rw[if_pos (by decide)] at hS
      rw[<- hS]
      simp +contextual only[r0,r1,r7,d1,ix,e1,e2,g1,g2,g3,Ad (Ext.refl B) hX,Hz,go_sem]
     have g3:decide ((b.toNat:Int)<32)=false:=by simpa using q1
     by_cases q2:(126:Int)<b.toNat
     ·have g5:decide ((126:Int)<b.toNat)=true:=by simpa using q2
      have g4:D6 (b.toNat:Int)=false:=by rw[pT];simp only[A6B,decide_eq_false_iff_not];omega
      rw[g4] at hS
      rw[if_pos (by decide)] at hS
      rw[<- hS]
      simp +contextual only[r0,r1,r7,d1,ix,e1,e2,g1,g2,g3,g5,Ad (Ext.refl B) hX,Hz,go_sem]
     have g5:decide ((126:Int)<b.toNat)=false:=by simpa using q2
     have g4:D6 (b.toNat:Int)=true:=by rw[pT];simp only[A6D,decide_eq_true_eq];omega
     rw[g4] at hS
     rw[if_neg (by decide)] at hS
     simp +contextual only[r0,r1,r7,d1,ix,e1,e2,g1,g2,g3,g5,go_sem]
     refine Ji b hA (by omega) rfl fun d3 T2 hA2 ⟨n,hn,hn'⟩=>?_
     subst hn'
     have hX2:=F8 hA2
     rcases tf (decide (64<out.length+1)) with g6|g6
     ·rw[if_pos g6] at hS
      have g6':decide ((64:Int)<((out.length+1:Nat):Int))=true:=by simp only[decide_eq_true_eq] at g6 ⊢;omega
      rw[<- hS]
      simp +contextual only[hn,g6',Ad (Ext.refl B) hX2,Hz,go_sem]
     ·rw[if_neg (by rw[g6];decide)] at hS
      have g6':decide ((64:Int)<((out.length+1:Nat):Int))=false:=by simp only[decide_eq_false_iff_not] at g6 ⊢;omega
      simp only[decide_eq_false_iff_not] at g6
      simp +contextual only[hn,g6',r0,r1,r7,wk,go_sem]
      exact⟨k+1,out++[b],rfl,by omega,by omega,by simp;omega,hA2,hS⟩
   ·have d1:decide (((a+k:Nat):Int)<l.length)=false:=by simp only[decide_eq_false_iff_not];omega
    rw[A6A (by omega),Nq] at hS
    rw[<- hS]
    simp +contextual only[r0,r1,r7,d1,Ad (Ext.refl B) hX,Hz,go_sem]
  ·cases h
 ·cases h
end GP
