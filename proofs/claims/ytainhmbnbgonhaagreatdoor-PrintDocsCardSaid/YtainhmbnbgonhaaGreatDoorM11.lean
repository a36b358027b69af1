import Derived.Test.YtainhmbnbgonhaaGreatDoorProg
import Derived.Test.YtainhmbnbgonhaaGreatDoorM5
import Derived.Test.YtainhmbnbgonhaaGreatDoorM6
import Derived.Test.YtainhmbnbgonhaaGreatDoorM8
import Derived.Test.YtainhmbnbgonhaaGreatDoorM10
set_option linter.unusedSimpArgs false
set_option linter.unnecessarySimpa false
namespace GP
open Go Go.Proofs
set_option maxRecDepth 100000
def domk : Nat -> D -> Bool
 | 0,_=>false
 | k + 1,x=>(vl x).all (domk k)
def ordk : Nat -> D -> D -> Int
 | 0=>f0
 | k + 1=>ordW (ordk k)
theorem ok64k : ∀ k,OkAt Tryz.prog 64 (φOrd (domk k) (ordk k))
 | 0=>ok64 (ok116 ok64none (fun _ _ _ _ h=>by simp [domk] at h))
 | k + 1 => ok64 (ok116 (ok64k k) (fun x y hx hy h1 h2 => by
     simp only [φOrd]
     rw [if_pos ⟨hx,hy,h1,h2⟩];rfl))
theorem domk_of : ∀ (n : Nat) (v : D),sizeOf v <= n -> v.isV = true -> domk (n + 1) v = true
 | n,v,hs,hv=>by
  obtain ⟨k,i,s,nl,xs,rfl,_,_,hV⟩:=isV_elim hv
  show (vl (mkV k i s nl xs)).all (domk n) = true
  rw [vl_mk]
  refine List.all_eq_true.2 fun x hx=>?_
  have h1:=List.sizeOf_lt_of_mem hx
  have e : sliceD nl xs = .sl none xs:=by
   cases xs with
   | nil=>cases hx
   | cons a l=>cases nl <;> rfl
  have h2 : sizeOf xs < sizeOf (mkV k i s nl xs):=by
   unfold mkV;rw [e];simp;omega
  cases n with
  | zero=>omega
  | succ n=>exact domk_of n x (by omega) (hV x hx)
theorem cmpL_nil (f g : D -> D -> Int) (xs : List D) : cmpL f xs [] = cmpL g xs []:=by cases xs <;> rfl
def φOrdZ : List D -> Option D
 | [a,b]=>if a.isV = true /\ b.isV = true /\ (vl b).isEmpty = true then some (.int .i64 (ordW ord0 a b)) else none
 | _=>none
theorem ok64z : OkAt Tryz.prog 64 φOrdZ:=by
 intro args r h
 unfold φOrdZ at h
 split at h
 ·rename_i a b
  split at h
  ·rename_i hc
   obtain ⟨ha,hb,he⟩:=hc
   have he : vl b = []:=by simpa using he
   have hd : (vl a).all (domk (sizeOf a)) = true:=domk_of (sizeOf a) a (Nat.le_refl _) ha
   refine ok64k (sizeOf a) [a,b] r ?_
   simp only [φOrd]
   rw [if_pos ⟨ha,hb,hd,by rw [he];rfl⟩,← h]
   unfold ordW
   rw [he,cmpL_nil (ordk (sizeOf a)) ord0]
  ·cases h
 ·cases h
end GP
namespace GP
open Go Go.Proofs
open Rd O
set_option maxRecDepth 100000
def c85 : C :=
 (.seq (.reg [I1 2 (.mv KN)])
 (.seq (.reg [I1 3 (.mv (Ki 0))])
 (.seq (.seq (.reg [Im 9 0,Iz 10 9,I1 11 (.mv (Ki 0))])
 (.block 0
 (.loop
 (.seq (.reg [I1 12 (.bin .lss (t 11) (t 10))])
 (.seq (.cond (t 12)
 .skip
 (.exit 0))
 (.seq (.block 1
 (.seq (.reg [I1 13 (.iaddr 1 (t 9) (t 11)),Il 14 13,Im 5 14])
 (.seq (.reg [Im 15 3,Im 16 5,Iz 17 16,I1 18 (.bin .add (t 15) (t 17)),Im 3 18])
 (.seq (.reg [Im 19 3,I1 20 (.bin .lss (t 19) (Ki 0))])
 (.cond (t 20)
 .stop
 .skip)))))
 (.reg [I1 22 (.bin .add (t 11) (Ki 1)),Im 11 22])))))))
 (.seq (.reg [Im 23 3,Ic 24 138 [KN,(t 23)],Im 6 24])
 (.seq (.seq (.reg [Im 25 0,Iz 26 25,I1 27 (.mv (Ki 0))])
 (.block 2
 (.loop
 (.seq (.reg [I1 28 (.bin .lss (t 27) (t 26))])
 (.seq (.cond (t 28)
 .skip
 (.exit 2))
 (.seq (.block 3
 (.seq (.reg [I1 29 (.iaddr 1 (t 25) (t 27)),Il 30 29,Im 8 30])
 (.reg [Im 31 6,Im 32 8,I1 33 (.appm true false 3 32 (t 31) (t 32)),Im 6 33])))
 (.reg [I1 34 (.bin .add (t 27) (Ki 1)),Im 27 34])))))))
 (.seq (.reg [Im 35 6,Im 2 35])
 .ret))))))
theorem fn85 : Fn Tryz.prog 85 36 [.inl 2] c85:=⟨⟨_,_,Tryz.func85,rfl,by kernel_rfl,Tryz.ntmps85,by kernel_rfl,Hq4,by kernel_rfl⟩⟩
def c138 : C :=
 (.seq (.reg [I1 4 (.mv KN)])
 (.seq (.seq (.reg [Im 5 1,I1 6 (.bin .lss (t 5) (Ki 0))])
 (.cond (t 6)
 .stop
 .skip))
 (.seq (.seq (.reg [Im 8 1,Im 9 0,I1 10 (.capz (t 9)),Im 11 0,Iz 12 11,I1 13 (.bin .sub (t 10) (t 12)),I1 14 (.bin .sub (t 8) (t 13)),Im 1 14])
 (.seq (.reg [Im 15 1,I1 16 (.bin .gtr (t 15) (Ki 0))])
 (.cond (t 16)
 (.reg [Im 17 0,Im 18 0,I1 19 (.capz (t 18)),I1 20 (.sls 3 (t 17) none (some (t 19))),Im 21 1,I1 22 (.appz true 3 32 [(.int .i64 0),(.str []),(.int .i64 0)] (t 20) (t 21)),Im 23 0,Iz 24 23,I1 25 (.sls 3 (t 22) none (some (t 24))),Im 0 25])
 .skip)))
 (.seq (.reg [Im 26 0,Im 4 26])
 .ret))))
theorem fn138 : Fn Tryz.prog 138 27 [.inl 4] c138:=⟨⟨_,_,Tryz.func138,rfl,by kernel_rfl,Tryz.ntmps138,by kernel_rfl,Hq4,by kernel_rfl⟩⟩
def c178b : C :=
 (.seq (.reg [I1 1 (.box (t 0)),I1 2 (.mv KN)])
 (.seq (.seq (.reg [If 6 0 1,Il 7 6,I1 8 (.bin .neq (t 7) (Ki 5))])
 (.cond (t 8)
 (.seq (.reg [Ia 9 4 1,Ip 10 206 [(t 9)],Im 2 10])
 .ret)
 .skip))
 (.seq (.reg [I1 11 (.bsl 1 [(Ks ([91]))]),Ic 12 84 [(t 11)],Im 3 12])
 (.seq (.seq (.reg [If 13 3 1,Il 14 13,Iz 15 14,I1 16 (.mv (Ki 0))])
 (.block 0
 (.loop
 (.seq (.reg [I1 17 (.bin .lss (t 16) (t 15))])
 (.seq (.cond (t 17)
 .skip
 (.exit 0))
 (.seq (.block 1
 (.seq (.reg [Im 18 16,I1 19 (.iaddr 4 (t 14) (t 16)),Ia 20 4 19,I1 5 (.alloc [(.int .i64 0),(.int .i64 0),(.str []),.nils]),Im 4 18,Is 4 5 20])
 (.seq (.seq (.reg [Im 21 4,I1 22 (.bin .gtr (t 21) (Ki 0))])
 (.cond (t 22)
 (.reg [Im 23 3,Ip 24 87 [(Ks ([44]))],I1 25 (.bsl 3 [(t 24)]),I1 26 (.app false 3 32 (t 23) (t 25)),Im 3 26])
 .skip))
 (.reg [Im 27 3,Ia 28 4 5,Ip 29 206 [(t 28)],I1 30 (.app false 3 32 (t 27) (t 29)),Im 3 30]))))
 (.reg [I1 31 (.bin .add (t 16) (Ki 1)),Im 16 31])))))))
 (.seq (.reg [Im 32 3,Ip 33 87 [(Ks ([93]))],I1 34 (.bsl 3 [(t 33)]),I1 35 (.app false 3 32 (t 32) (t 34)),Im 2 35])
 .ret)))))
theorem fn178b : Fn Tryz.prog 178 36 [.inl 2] c178b:=⟨⟨_,_,Tryz.func178,rfl,by kernel_rfl,Tryz.ntmps178,by kernel_rfl,Hq5,by kernel_rfl⟩⟩
end GP
namespace GP
open Go Go.Proofs
set_option maxRecDepth 100000
theorem form_at' {k : Int} {s : List UInt8} (h : s.length <= 2 ^ 47) : φform [.agg [.int .i64 k,.str s,.int .i64 0]] = some (.bool (formI k s 0)):=by
 simp only [φform];rw [if_pos (by omega)]
def φfk (k : Int) : List D -> Option D
 | [.str s]=>if s.length <= 2 ^ 47 then some (.bool (formI k s 0)) else none
 | _=>none
theorem fk_at {k : Int} {s : List UInt8} (h : s.length <= 2 ^ 47) : φfk k [.str s] = some (.bool (formI k s 0)):=by
 simp only [φfk];rw [if_pos h]
theorem ok134 : OkAt Tryz.prog 134 (φfk 1):=by
 refine ok_of (l:=[(166,φform)]) (.cons ok166 .nil) fn134 fun args r h=>?_
 unfold φfk at h
 split at h
 ·split at h
  ·rename_i s hs
   injection h with h;subst h
   refine ⟨by simp,by simp [D.cl],fun H T=>?_⟩
   have p:=form_at' (k:=1) hs
   simp +contextual (maxSteps:=10000000) only [c134,p,go_sem]
  ·cases h
 ·cases h
theorem ok128 : OkAt Tryz.prog 128 (φfk 3):=by
 refine ok_of (l:=[(166,φform)]) (.cons ok166 .nil) fn128 fun args r h=>?_
 unfold φfk at h
 split at h
 ·split at h
  ·rename_i s hs
   injection h with h;subst h
   refine ⟨by simp,by simp [D.cl],fun H T=>?_⟩
   have p:=form_at' (k:=3) hs
   simp +contextual (maxSteps:=10000000) only [c128,p,go_sem]
  ·cases h
 ·cases h
def φnmP : List D -> Option D
 | [.str s]=>if s.length <= 2 ^ 47 then some (.bool (nameB s)) else none
 | _=>none
theorem ok127 : OkAt Tryz.prog 127 φnmP:=by
 refine ok_of (l:=[(134,φfk 1),(17,φkept)]) (.cons ok134 (.cons ok17 .nil)) fn127 fun args r h=>?_
 unfold φnmP at h
 split at h
 ·split at h
  ·rename_i s hs
   injection h with h;subst h
   refine ⟨by simp,by simp [D.cl],fun H T=>?_⟩
   have p:=fk_at (k:=1) hs
   have q : φkept [.str s] = some (.bool (inB keptW s)):=by rw [<- keptB_in];rfl
   unfold nameB
   obtain ⟨b,hb⟩ : ∃ z,formI 1 s 0 = z:=⟨_,rfl⟩
   rw [hb] at p ⊢
   cases b with
   | true=>simp +contextual (maxSteps:=10000000) only [c127,p,q,go_sem]
   | false=>simp +contextual (maxSteps:=10000000) only [c127,p,go_sem]
  ·cases h
 ·cases h
theorem cont_who (s : List UInt8) : φcontS [.sl none (whoW.map .str),.str s] = some (.bool (inB whoW s)):=by
 have hL : isLs isTx (.sl none (whoW.map D.str)):=⟨false,whoW.map D.str,rfl,by decide,fun x hx=>by
  obtain ⟨y,hy,rfl⟩:=List.mem_map.1 hx
  have key : ∀ y ∈ whoW,y.length <= 2 ^ 47:=by decide
  exact ⟨y,rfl,key y hy⟩⟩
 simp only [φcontS]
 rw [if_pos hL]
 congr 2
 have e : elems (D.sl none (whoW.map D.str)) = whoW.map D.str:=rfl
 rw [e,List.any_map]
 unfold inB
 refine congrArg (List.any whoW) (funext fun x=>?_)
 show (s == x) = (x == s)
 rw [Bool.eq_iff_iff];simp only [beq_iff_eq];exact ⟨fun h=>h.symm,fun h=>h.symm⟩
theorem ok126 : OkAt Tryz.prog 126 φwho:=by
 refine ok_of (l:=[(47,φcontS)]) (.cons ok47L .nil) fn126 fun args r h=>?_
 unfold φwho at h
 split at h
 ·rename_i s
  injection h with h;subst h
  refine ⟨by simp,by simp [D.cl],fun H T=>?_⟩
  have p:=cont_who s
  simp only [whoW,List.map_cons,List.map_nil] at p ⊢
  simp +contextual (maxSteps:=10000000) only [c126,p,go_sem]
 ·cases h
def litP (v : D) (l : Int) : Bool:=if vk v == 2 then decide (l <= vi v) else if vk v == 3 then formI 3 (vs v) 0 else (vk v == 1) || (vk v == 4)
def φlitP : List D -> Option D
 | [v,.int .i64 l]=>if v.isV = true then some (.bool (litP v l)) else none
 | _=>none
theorem ok130 : OkAt Tryz.prog 130 φlitP:=by
 refine ok_of (l:=[(128,φfk 3)]) (.cons ok128 .nil) fn130 fun args r h=>?_
 unfold φlitP at h
 split at h
 ·rename_i v l
  split at h
  ·rename_i hv
   injection h with h;subst h
   refine ⟨by simp,by simp [D.cl],fun H T=>?_⟩
   obtain ⟨k,i,s,n,xs,rfl,hs,hx,hV⟩:=isV_elim hv
   have eL:=erase_of_isV hV
   have p:=fk_at (k:=3) hs
   simp only [litP,vk_mk,vi_mk,vs_mk]
   rcases tf (k == 2) with g2 | g2
   ·rw [g2];simp +contextual (maxSteps:=10000000) only [c130,mkV,eL,g2,go_sem]
   rcases tf (k == 3) with g3 | g3
   ·rw [g2,g3];simp +contextual (maxSteps:=10000000) only [c130,mkV,eL,g2,g3,p,go_sem]
   rcases tf (k == 1) with g1 | g1
   ·rw [g2,g3,g1];simp +contextual (maxSteps:=10000000) only [c130,mkV,eL,g2,g3,g1,go_sem]
   ·rw [g2,g3,g1];simp +contextual (maxSteps:=10000000) only [c130,mkV,eL,g2,g3,g1,go_sem]
  ·cases h
 ·cases h
def φlitN : List D -> Option D
 | [v]=>if v.isV = true then some (.bool (!(litP v (-9223372036854775807)))) else none
 | _=>none
theorem ok132 : OkAt Tryz.prog 132 φlitN:=by
 refine ok_of (l:=[(130,φlitP)]) (.cons ok130 .nil) fn132 fun args r h=>?_
 unfold φlitN at h
 split at h
 ·rename_i v
  split at h
  ·rename_i hv
   injection h with h;subst h
   refine ⟨by simp,by simp [D.cl],fun H T=>?_⟩
   have p : φlitP [v,.int .i64 (-9223372036854775807)] = some (.bool (litP v (-9223372036854775807))):=by simp only [φlitP];rw [if_pos hv]
   have ee:=isV_erase hv
   obtain ⟨k,i,s,n,xs,rfl,hs,hx,hV⟩:=isV_elim hv
   obtain ⟨b,hb⟩ : ∃ z,litP (mkV k i s n xs) (-9223372036854775807) = z:=⟨_,rfl⟩
   rw [hb] at p ⊢
   simp only [mkV] at p ee
   simp +contextual (maxSteps:=10000000) only [c132,mkV,ee,p,go_sem]
  ·cases h
 ·cases h
def isVp (x : D) : Prop:=x.isV = true
theorem el_V (x : D) (h : isVp x) : El true 4 x:=by
 have ee:=isV_erase h
 obtain ⟨k,i,s,n,xs,rfl,_⟩:=isV_elim h
 exact El.agg ee rfl rfl
theorem ok180 : OkAtH Tryz.prog 180 (φidx 132 (fun _=>φlitN) isVp):=okIdx (ag:=true) (sz:=4) fn180 (OkAt.lift ok132) (Mo.const _) el_V
theorem ok131 : OkAtH Tryz.prog 131 (φcf 132 (fun _=>φlitN) isVp):=okCf fn131 (fun x h=>isV_erase h) ok180 (Mo.const _)
theorem OkAtH.flat {P : Program} [HasG P] {f : FuncId} {ψ : Hp -> List D -> Option D} (h : OkAtH P f ψ) {φ : List D -> Option D} (he : ∀ H a r,φ a = some r -> ψ H a = some r) : OkAt P f φ :=
 fun args r hr args' hx H T Q hQ=>h H args r (he H args r hr) args' hx T Q hQ
def φanyN : List D -> Option D
 | [l,.fn 132 [] []]=>if D.isVs (elems l) = true /\ isSl l = true /\ (elems l).length <= 2 ^ 47 then some (.bool ((elems l).any fun x=>!(litP x (-9223372036854775807)))) else none
 | _=>none
theorem ok131f : OkAt Tryz.prog 131 φanyN:=ok131.flat fun H a r h=>by
 unfold φanyN at h
 split at h
 ·rename_i l
  split at h
  ·rename_i hc
   injection h with h;subst h
   obtain ⟨n,hn⟩:=isSl_elim hc.2.1
   obtain ⟨xs,hx⟩ : ∃ xs,elems l = xs:=⟨_,rfl⟩
   rw [hx] at hc hn ⊢
   subst hn
   have hV:=isVs_iff.1 hc.1
   have hp : ∀ x ∈ xs,φlitN (x :: []) = some (.bool (!(litP x (-9223372036854775807)))):=fun x h=>by simp only [φlitN];rw [if_pos (hV x h)]
   simp only [φcf]
   rw [if_pos ⟨rfl,⟨n,xs,rfl,hc.2.2,hV⟩,rfl,by rw [elems_sliceD];exact fun x h=>⟨_,hp x h⟩⟩,elems_sliceD]
   congr 2
   exact any_congr' fun x h=>by rw [hp x h];rfl
  ·cases h
 ·cases h
def wrP (v : D) : Bool:=if !formedV v then false else if vk v != 5 then litP v 0 else decide ((0 : Int) < ((vl v).length : Nat)) && !((vl v).any fun x=>!(litP x (-9223372036854775807)))
def φwrP : List D -> Option D
 | [v]=>if v.isV = true then some (.bool (wrP v)) else none
 | _=>none
theorem ok78 : OkAt Tryz.prog 78 φwrP:=by
 refine ok_of (l:=[(129,φFormed),(130,φlitP),(131,φanyN)]) (.cons ok129 (.cons ok130 (.cons ok131f .nil))) fn78 fun args r h=>?_
 unfold φwrP at h
 split at h
 ·rename_i v
  split at h
  ·rename_i hv
   injection h with h;subst h
   refine ⟨by simp,by simp [D.cl],fun H T=>?_⟩
   have ee:=isV_erase hv
   have p1 : φFormed [v] = some (.bool (formedV v)):=by simp only [φFormed];rw [if_pos hv]
   have p2 : φlitP [v,.int .i64 0] = some (.bool (litP v 0)):=by simp only [φlitP];rw [if_pos hv]
   obtain ⟨k,i,s,n,xs,rfl,hs,hx,hV⟩:=isV_elim hv
   have eL:=erase_of_isV hV
   have p3 : φanyN [sliceD n xs,.fn 132 [] []] = some (.bool (xs.any fun x=>!(litP x (-9223372036854775807)))):=by
    simp only [φanyN];rw [if_pos ⟨by rw [elems_sliceD];exact isVs_iff.2 hV,isSl_sliceD _ _,by rw [elems_sliceD];exact hx⟩,elems_sliceD]
   unfold wrP
   obtain ⟨b1,hb1⟩ : ∃ z,formedV (mkV k i s n xs) = z:=⟨_,rfl⟩
   obtain ⟨b2,hb2⟩ : ∃ z,litP (mkV k i s n xs) 0 = z:=⟨_,rfl⟩
   obtain ⟨b3,hb3⟩ : ∃ z,(xs.any fun x=>!(litP x (-9223372036854775807))) = z:=⟨_,rfl⟩
   rw [hb1] at p1 ⊢
   rw [hb2] at p2 ⊢
   rw [hb3] at p3
   simp only [vk_mk,vl_mk,hb3]
   simp only [mkV] at p1 p2 ee
   cases b1 with
   | false=>simp +contextual (maxSteps:=10000000) only [c78,mkV,ee,p1,go_sem]
   | true =>
   rcases tf (k != 5) with g5 | g5
   ·rw [g5];simp +contextual (maxSteps:=10000000) only [c78,mkV,ee,p1,p2,g5,go_sem]
   rw [g5]
   rcases tf (decide ((0 : Int) < (xs.length : Nat))) with g0 | g0
   ·rw [g0];simp +contextual (maxSteps:=10000000) only [c78,mkV,ee,eL,p1,g5,g0,p3,go_sem]
   ·rw [g0];simp +contextual (maxSteps:=10000000) only [c78,mkV,ee,p1,g5,g0,go_sem]
  ·cases h
 ·cases h
theorem litP_0 (v : D) : litP v 0 = litB v false:=by
 unfold litP litB
 cases vk v == 2 <;> cases h3 : vk v == 3 <;> cases h1 : vk v == 1 <;> cases h4 : vk v == 4 <;> simp_all
theorem litP_1 (v : D) : litP v (-9223372036854775807) = litB v true:=by
 unfold litP litB
 cases vk v == 2 with
 | true =>
  simp only [if_true,Bool.true_and]
  rw [Bool.eq_iff_iff];simp only [decide_eq_true_eq,Bool.or_eq_true];omega
 | false=>cases h3 : vk v == 3 <;> cases h1 : vk v == 1 <;> cases h4 : vk v == 4 <;> simp_all
theorem wr_val (v : D) : wrP v = valB v:=by
 unfold wrP valB
 rw [formed_same,litP_0]
 have e : (!((vl v).any fun x=>!(litP x (-9223372036854775807)))) = (vl v).all (fun x=>litB x true):=by
  rw [List.not_any_eq_all_not]
  refine all_congr' fun x _=>?_
  rw [Bool.not_not,litP_1]
 have e2 : decide ((0 : Int) < ((vl v).length : Nat)) = decide (0 < (vl v).length):=by rw [decide_eq_decide];omega
 rw [e,e2,Bool.and_comm]
def namedB (e : D) : Bool:=if (eop e == sAttr) || (eop e == sHas) then inB whoW (ewho e) && nameB (ename e) else if eop e == sRole then (ewho e == []) && formI 3 (ename e) 0 else (ewho e == []) && (ename e == [])
open Classical in
noncomputable def φnamed (n : Nat) : List D -> Option D
 | [e]=>if isE n e then some (.bool (namedB e)) else none
 | _=>none
set_option maxHeartbeats 2000000 in
theorem ok77 (n : Nat) : OkAt Tryz.prog 77 (φnamed n):=by
 refine ok_of (l:=[(126,φwho),(127,φnmP),(128,φfk 3)]) (.cons ok126 (.cons ok127 (.cons ok128 .nil))) fn77 fun args r h=>?_
 unfold φnamed at h
 split at h
 ·rename_i e
  split at h
  ·rename_i he
   injection h with h;subst h
   refine ⟨by simp,by simp [D.cl],fun H T=>?_⟩
   obtain ⟨m',rfl⟩:=isE_pos he
   have ee:=isE_erase he
   obtain ⟨op,k,i,t,nl,l,who,name,m,ps,rfl,h1,h2,h3,h4,h5,h6,eL,eP⟩:=isE_elim he
   have p1 : φwho [.str who] = some (.bool (inB whoW who)):=rfl
   have p2 : φnmP [.str name] = some (.bool (nameB name)):=by simp only [φnmP];rw [if_pos h3]
   have p3:=fk_at (k:=3) h3
   have eN : namedB (mkE op k i t nl l who name m ps) = (if (op == sAttr) || (op == sHas) then inB whoW who && nameB name else if op == sRole then (who == []) && formI 3 name 0 else (who == []) && (name == [])):=rfl
   rw [eN]
   obtain ⟨b1,hb1⟩ : ∃ z,inB whoW who = z:=⟨_,rfl⟩
   obtain ⟨b2,hb2⟩ : ∃ z,nameB name = z:=⟨_,rfl⟩
   obtain ⟨b3,hb3⟩ : ∃ z,formI 3 name 0 = z:=⟨_,rfl⟩
   rw [hb1] at p1 ⊢
   rw [hb2] at p2 ⊢
   rw [hb3] at p3 ⊢
   simp only [mkE] at ee
   rcases tf (op == sAttr) with a1 | a1
   ·have a1' : (op == [97,116,116,114]) = true:=a1
    rw [a1]
    cases b1 with
    | true=>simp +contextual (maxSteps:=10000000) only [c77,mkE,ee,a1',p1,p2,go_sem]
    | false=>simp +contextual (maxSteps:=10000000) only [c77,mkE,ee,a1',p1,go_sem]
   have a1' : (op == [97,116,116,114]) = false:=a1
   rcases tf (op == sHas) with a2 | a2
   ·have a2' : (op == [104,97,115]) = true:=a2
    rw [a1,a2]
    cases b1 with
    | true=>simp +contextual (maxSteps:=10000000) only [c77,mkE,ee,a1',a2',p1,p2,go_sem]
    | false=>simp +contextual (maxSteps:=10000000) only [c77,mkE,ee,a1',a2',p1,go_sem]
   have a2' : (op == [104,97,115]) = false:=a2
   rcases tf (op == sRole) with a3 | a3
   ·have a3' : (op == [114,111,108,101]) = true:=a3
    rw [a1,a2,a3]
    rcases tf (who == []) with w | w
    ·rw [w];simp +contextual (maxSteps:=10000000) only [c77,mkE,ee,a1',a2',a3',w,p3,go_sem]
    ·rw [w];simp +contextual (maxSteps:=10000000) only [c77,mkE,ee,a1',a2',a3',w,go_sem]
   have a3' : (op == [114,111,108,101]) = false:=a3
   rw [a1,a2,a3]
   rcases tf (who == []) with w | w
   ·rw [w]
    rcases tf (name == []) with v | v
    ·rw [v];simp +contextual (maxSteps:=10000000) only [c77,mkE,ee,a1',a2',a3',w,v,go_sem]
    ·rw [v];simp +contextual (maxSteps:=10000000) only [c77,mkE,ee,a1',a2',a3',w,v,go_sem]
   ·rw [w];simp +contextual (maxSteps:=10000000) only [c77,mkE,ee,a1',a2',a3',w,go_sem]
  ·cases h
 ·cases h
end GP
namespace GP
open Go Go.Proofs
set_option maxRecDepth 100000
def lsOf (op : List UInt8) : List Int:=if op == wOr then [0,1] else if op == wAnd then [1,2] else if op == sNot then [2] else if inB cmpW op then [4,4] else if inB [[43],[45]] op then [4,5] else if op == [42] then [5,6] else if op == sNeg then [6] else if op == sSize then [0] else []
def lsD (op : List UInt8) : D:=sliceD true ((lsOf op).map (D.int .i64))
def ops20 : List (List UInt8):=[[111,114],[97,110,100],[110,111,116],[61,61],[33,61],[60],[60,61],[62],[62,61],[105,110],[43],[45],[42],[110,101,103],[115,105,122,101],[118,97,108,117,101],[110,111,119],[97,116,116,114],[104,97,115],[114,111,108,101]]
theorem op_not {op : List UInt8} (h : op ∉ ops20) : stI op = -1 /\ lsOf op = []:=by
 have hw : ∀ w ∈ ops20,(op == w) = false /\ (w == op) = false:=fun w hw=>by
  constructor
  ·rw [beq_eq_false_iff_ne];exact fun e=>h (e ▸ hw)
  ·rw [beq_eq_false_iff_ne];exact fun e=>h (e ▸ hw)
 have in0 : ∀ l : List (List UInt8),(∀ w ∈ l,w ∈ ops20) -> inB l op = false:=fun l hl=>by
  unfold inB
  rw [List.any_eq_false]
  intro x hx
  rw [(hw x (hl x hx)).2];decide
 constructor
 ·unfold stI
  rw [in0 [wOr] (by decide),in0 [wAnd] (by decide),in0 cmpW (by decide),in0 [[43],[45]] (by decide),in0 [[42]] (by decide),(hw wNot (by decide)).1,(hw wNeg (by decide)).1,in0 plainW (by decide)]
  rfl
 ·unfold lsOf
  rw [in0 cmpW (by decide),in0 [[43],[45]] (by decide),(hw wOr (by decide)).1,(hw wAnd (by decide)).1,(hw sNot (by decide)).1,(hw [42] (by decide)).1,(hw sNeg (by decide)).1,(hw sSize (by decide)).1]
  rfl
theorem op_mem {op : List UInt8} (h : 0 <= stI op) : op ∈ ops20:=by
 by_cases hm : op ∈ ops20
 ·exact hm
 ·rw [(op_not hm).1] at h;omega
theorem ls_len {op : List UInt8} (h : 0 <= stI op) : ((lsOf op).length : Int) = arN op:=by
 have key : ∀ w ∈ ops20,((lsOf w).length : Int) = arN w:=by decide
 exact key op (op_mem h)
theorem ls_two {op : List UInt8} (h : isOp2 op) : lsOf op = [lstS op,stI op + 1]:=by
 have key : ∀ w ∈ ops2,lsOf w = [lstS w,stI w + 1]:=by decide
 exact key op (ops2_of h)
def φbinds : List D -> Option D
 | [.str op]=>some (.tup [.int .i64 (stI op),lsD op])
 | _=>none
theorem lsD_cl (op : List UInt8) : (lsD op).cl 0 0 = true /\ (lsD op).erase = lsD op:=by
 have : lsOf op = [0,1] ∨ lsOf op = [1,2] ∨ lsOf op = [2] ∨ lsOf op = [4,4] ∨ lsOf op = [4,5] ∨ lsOf op = [5,6] ∨ lsOf op = [6] ∨ lsOf op = [0] ∨ lsOf op = []:=by
  unfold lsOf;(repeat' split) <;> simp
 unfold lsD
 rcases this with h | h | h | h | h | h | h | h | h <;> rw [h] <;> exact ⟨rfl,rfl⟩
set_option maxHeartbeats 8000000 in
theorem ok76 : OkAt Tryz.prog 76 φbinds:=by
 refine ok_of (l:=[]) .nil fn76 fun args r h=>?_
 unfold φbinds at h
 split at h
 ·rename_i op
  injection h with h;subst h
  refine ⟨by simp,by simp only [D.cl,D.clL,(lsD_cl op).1];rfl,fun H T=>?_⟩
  rcases tf (op == [111,114]) with e0 | e0
  ·have:=eq_of_beq' e0
   subst this
   rw [show stI [111,114] = 0 by decide,show lsD [111,114] = .sl none [.int .i64 0,.int .i64 1] by rfl]
   simp +contextual (maxSteps:=10000000) only [c76,e0,go_sem]
  rcases tf (op == [97,110,100]) with e1 | e1
  ·have:=eq_of_beq' e1
   subst this
   rw [show stI [97,110,100] = 1 by decide,show lsD [97,110,100] = .sl none [.int .i64 1,.int .i64 2] by rfl]
   simp +contextual (maxSteps:=10000000) only [c76,e0,e1,go_sem]
  rcases tf (op == [110,111,116]) with e2 | e2
  ·have:=eq_of_beq' e2
   subst this
   rw [show stI [110,111,116] = 2 by decide,show lsD [110,111,116] = .sl none [.int .i64 2] by rfl]
   simp +contextual (maxSteps:=10000000) only [c76,e0,e1,e2,go_sem]
  rcases tf (op == [61,61]) with e3 | e3
  ·have:=eq_of_beq' e3
   subst this
   rw [show stI [61,61] = 3 by decide,show lsD [61,61] = .sl none [.int .i64 4,.int .i64 4] by rfl]
   simp +contextual (maxSteps:=10000000) only [c76,e0,e1,e2,e3,go_sem]
  rcases tf (op == [33,61]) with e4 | e4
  ·have:=eq_of_beq' e4
   subst this
   rw [show stI [33,61] = 3 by decide,show lsD [33,61] = .sl none [.int .i64 4,.int .i64 4] by rfl]
   simp +contextual (maxSteps:=10000000) only [c76,e0,e1,e2,e3,e4,go_sem]
  rcases tf (op == [60]) with e5 | e5
  ·have:=eq_of_beq' e5
   subst this
   rw [show stI [60] = 3 by decide,show lsD [60] = .sl none [.int .i64 4,.int .i64 4] by rfl]
   simp +contextual (maxSteps:=10000000) only [c76,e0,e1,e2,e3,e4,e5,go_sem]
  rcases tf (op == [60,61]) with e6 | e6
  ·have:=eq_of_beq' e6
   subst this
   rw [show stI [60,61] = 3 by decide,show lsD [60,61] = .sl none [.int .i64 4,.int .i64 4] by rfl]
   simp +contextual (maxSteps:=10000000) only [c76,e0,e1,e2,e3,e4,e5,e6,go_sem]
  rcases tf (op == [62]) with e7 | e7
  ·have:=eq_of_beq' e7
   subst this
   rw [show stI [62] = 3 by decide,show lsD [62] = .sl none [.int .i64 4,.int .i64 4] by rfl]
   simp +contextual (maxSteps:=10000000) only [c76,e0,e1,e2,e3,e4,e5,e6,e7,go_sem]
  rcases tf (op == [62,61]) with e8 | e8
  ·have:=eq_of_beq' e8
   subst this
   rw [show stI [62,61] = 3 by decide,show lsD [62,61] = .sl none [.int .i64 4,.int .i64 4] by rfl]
   simp +contextual (maxSteps:=10000000) only [c76,e0,e1,e2,e3,e4,e5,e6,e7,e8,go_sem]
  rcases tf (op == [105,110]) with e9 | e9
  ·have:=eq_of_beq' e9
   subst this
   rw [show stI [105,110] = 3 by decide,show lsD [105,110] = .sl none [.int .i64 4,.int .i64 4] by rfl]
   simp +contextual (maxSteps:=10000000) only [c76,e0,e1,e2,e3,e4,e5,e6,e7,e8,e9,go_sem]
  rcases tf (op == [43]) with e10 | e10
  ·have:=eq_of_beq' e10
   subst this
   rw [show stI [43] = 4 by decide,show lsD [43] = .sl none [.int .i64 4,.int .i64 5] by rfl]
   simp +contextual (maxSteps:=10000000) only [c76,e0,e1,e2,e3,e4,e5,e6,e7,e8,e9,e10,go_sem]
  rcases tf (op == [45]) with e11 | e11
  ·have:=eq_of_beq' e11
   subst this
   rw [show stI [45] = 4 by decide,show lsD [45] = .sl none [.int .i64 4,.int .i64 5] by rfl]
   simp +contextual (maxSteps:=10000000) only [c76,e0,e1,e2,e3,e4,e5,e6,e7,e8,e9,e10,e11,go_sem]
  rcases tf (op == [42]) with e12 | e12
  ·have:=eq_of_beq' e12
   subst this
   rw [show stI [42] = 5 by decide,show lsD [42] = .sl none [.int .i64 5,.int .i64 6] by rfl]
   simp +contextual (maxSteps:=10000000) only [c76,e0,e1,e2,e3,e4,e5,e6,e7,e8,e9,e10,e11,e12,go_sem]
  rcases tf (op == [110,101,103]) with e13 | e13
  ·have:=eq_of_beq' e13
   subst this
   rw [show stI [110,101,103] = 6 by decide,show lsD [110,101,103] = .sl none [.int .i64 6] by rfl]
   simp +contextual (maxSteps:=10000000) only [c76,e0,e1,e2,e3,e4,e5,e6,e7,e8,e9,e10,e11,e12,e13,go_sem]
  rcases tf (op == [115,105,122,101]) with e14 | e14
  ·have:=eq_of_beq' e14
   subst this
   rw [show stI [115,105,122,101] = 7 by decide,show lsD [115,105,122,101] = .sl none [.int .i64 0] by rfl]
   simp +contextual (maxSteps:=10000000) only [c76,e0,e1,e2,e3,e4,e5,e6,e7,e8,e9,e10,e11,e12,e13,e14,go_sem]
  rcases tf (op == [118,97,108,117,101]) with e15 | e15
  ·have:=eq_of_beq' e15
   subst this
   rw [show stI [118,97,108,117,101] = 7 by decide,show lsD [118,97,108,117,101] = .nils by rfl]
   simp +contextual (maxSteps:=10000000) only [c76,e0,e1,e2,e3,e4,e5,e6,e7,e8,e9,e10,e11,e12,e13,e14,e15,go_sem]
  rcases tf (op == [110,111,119]) with e16 | e16
  ·have:=eq_of_beq' e16
   subst this
   rw [show stI [110,111,119] = 7 by decide,show lsD [110,111,119] = .nils by rfl]
   simp +contextual (maxSteps:=10000000) only [c76,e0,e1,e2,e3,e4,e5,e6,e7,e8,e9,e10,e11,e12,e13,e14,e15,e16,go_sem]
  rcases tf (op == [97,116,116,114]) with e17 | e17
  ·have:=eq_of_beq' e17
   subst this
   rw [show stI [97,116,116,114] = 7 by decide,show lsD [97,116,116,114] = .nils by rfl]
   simp +contextual (maxSteps:=10000000) only [c76,e0,e1,e2,e3,e4,e5,e6,e7,e8,e9,e10,e11,e12,e13,e14,e15,e16,e17,go_sem]
  rcases tf (op == [104,97,115]) with e18 | e18
  ·have:=eq_of_beq' e18
   subst this
   rw [show stI [104,97,115] = 7 by decide,show lsD [104,97,115] = .nils by rfl]
   simp +contextual (maxSteps:=10000000) only [c76,e0,e1,e2,e3,e4,e5,e6,e7,e8,e9,e10,e11,e12,e13,e14,e15,e16,e17,e18,go_sem]
  rcases tf (op == [114,111,108,101]) with e19 | e19
  ·have:=eq_of_beq' e19
   subst this
   rw [show stI [114,111,108,101] = 7 by decide,show lsD [114,111,108,101] = .nils by rfl]
   simp +contextual (maxSteps:=10000000) only [c76,e0,e1,e2,e3,e4,e5,e6,e7,e8,e9,e10,e11,e12,e13,e14,e15,e16,e17,e18,e19,go_sem]
  ·have hm : op ∉ ops20:=fun h=>by
    simp only [ops20,List.mem_cons,List.not_mem_nil,or_false] at h
    simp only [beq_eq_false_iff_ne,ne_eq] at e0 e1 e2 e3 e4 e5 e6 e7 e8 e9 e10 e11 e12 e13 e14 e15 e16 e17 e18 e19
    simp_all
   have hs:=(op_not hm).1
   have hl : lsD op = .nils:=by unfold lsD;rw [(op_not hm).2];rfl
   rw [hs,hl]
   simp +contextual (maxSteps:=10000000) only [c76,e0,e1,e2,e3,e4,e5,e6,e7,e8,e9,e10,e11,e12,e13,e14,e15,e16,e17,e18,e19,go_sem]
 ·cases h
noncomputable def fmP : Nat -> D -> Bool
 | 0,_=>false
 | n + 1,e=>if decide (stI (eop e) < 0) || ((((lsOf (eop e)).length : Nat) : Int) != ((eps e).length : Nat)) || !namedB e then false else if eop e == sVal then wrP (eV e) else (ordW ord0 (eV e) zeroV == 0) && !((eps e).any fun x=>!(fmP n x))
theorem fmP_S (n : Nat) (e : D) {op : List UInt8} {v : D} {l : List D} (h1 : eop e = op) (h2 : eV e = v) (h3 : eps e = l) : fmP (n + 1) e = (if decide (stI op < 0) || ((((lsOf op).length : Nat) : Int) != (l.length : Nat)) || !namedB e then false else if op == sVal then wrP v else (ordW ord0 v zeroV == 0) && !(l.any fun x=>!(fmP n x))):=by
 subst h1;subst h2;subst h3;rfl
open Classical in
noncomputable def φfmP (n : Nat) : List D -> Option D
 | [e]=>if isE n e then some (.bool (fmP n e)) else none
 | _=>none
open Classical in
noncomputable def φfmN (n : Nat) : List D -> Option D
 | [e]=>if isE n e then some (.bool (!(fmP n e))) else none
 | _=>none
theorem isE_El {n : Nat} {x : D} (h : isE n x) : El true 8 x:=by
 obtain ⟨q1,q2,q3,q4⟩:=isE_cells h
 exact El.agg (isE_erase h) q1 q3
theorem ok80 {n : Nat} (h35 : OkAt Tryz.prog 35 (φfmP n)) : OkAt Tryz.prog 80 (φfmN n):=by
 refine ok_of (l:=[(35,φfmP n)]) (.cons h35 .nil) fn80 fun args r h=>?_
 unfold φfmN at h
 split at h
 ·rename_i e
  split at h
  ·rename_i he
   injection h with h;subst h
   refine ⟨by simp,by simp [D.cl],fun H T=>?_⟩
   have p : φfmP n [e] = some (.bool (fmP n e)):=by simp only [φfmP];rw [if_pos he]
   have ee:=isE_erase he
   obtain ⟨q1,q2,q3,q4⟩:=isE_cells he
   obtain ⟨b,hb⟩ : ∃ z,fmP n e = z:=⟨_,rfl⟩
   rw [hb] at p ⊢
   simp +contextual (maxSteps:=10000000) only [c80,ee,q1,q2,q3,q4,p,go_sem]
  ·cases h
 ·cases h
open Classical in
noncomputable def φanyF (n : Nat) : List D -> Option D
 | [l,.fn 80 [] []]=>if isLs (isE n) l then some (.bool ((elems l).any fun x=>!(fmP n x))) else none
 | _=>none
theorem ok79 {n : Nat} (h35 : OkAt Tryz.prog 35 (φfmP n)) : OkAt Tryz.prog 79 (φanyF n):=by
 have h133 : OkAtH Tryz.prog 133 (φidx 80 (fun _=>φfmN n) (isE n)):=okIdx (ag:=true) (sz:=8) fn133 (OkAt.lift (ok80 h35)) (Mo.const _) fun x h=>isE_El h
 have h79 : OkAtH Tryz.prog 79 (φcf 80 (fun _=>φfmN n) (isE n)):=okCf fn79 (fun x h=>isE_erase h) h133 (Mo.const _)
 refine h79.flat fun H a r h=>?_
 unfold φanyF at h
 split at h
 ·rename_i l
  split at h
  ·rename_i hc
   injection h with h;subst h
   have hp : ∀ x ∈ elems l,φfmN n (x :: []) = some (.bool (!(fmP n x))):=fun x h=>by
    obtain ⟨m,xs,rfl,h1,h2⟩:=hc
    rw [elems_sliceD] at h
    simp only [φfmN];rw [if_pos (h2 x h)]
   simp only [φcf]
   rw [if_pos ⟨rfl,hc,rfl,fun x h=>⟨_,hp x h⟩⟩]
   congr 2
   exact any_congr' fun x h=>by rw [hp x h];rfl
  ·cases h
 ·cases h
set_option maxHeartbeats 8000000 in
theorem ok35 : ∀ n,OkAt Tryz.prog 35 (φfmP n)
 | 0=>fun args r h=>by
  unfold φfmP at h
  split at h
  ·split at h
   ·rename_i h';exact h'.elim
   ·cases h
  ·cases h
 | n + 1=>by
  refine ok_of (l:=[(76,φbinds),(77,φnamed (n + 1)),(78,φwrP),(64,φOrdZ),(79,φanyF n)]) (.cons ok76 (.cons (ok77 (n + 1)) (.cons ok78 (.cons ok64z (.cons (ok79 (ok35 n)) .nil))))) fn35 fun args r h=>?_
  unfold φfmP at h
  split at h
  ·rename_i e
   split at h
   ·rename_i hc
    injection h with h;subst h
    refine ⟨by simp,by simp [D.cl],fun H T=>?_⟩
    have he:=hc
    have ks:=isE_eps he
    have ee:=isE_erase he
    have p77 : φnamed (n + 1) [e] = some (.bool (namedB e)):=by simp only [φnamed];rw [if_pos he]
    obtain ⟨op,k,i,t,nl,l,who,name,m,ps,rfl,h1,h2,h3,h4,h5,h6,eL,eP⟩:=isE_elim he
    simp only [eps_mk] at ks
    have p76 : φbinds [.str op] = some (.tup [.int .i64 (stI op),lsD op]):=rfl
    have p78 : φwrP [mkV k i t nl l] = some (.bool (wrP (mkV k i t nl l))):=by simp only [φwrP];rw [if_pos h4.1]
    have p64 : φOrdZ [mkV k i t nl l,zeroV] = some (.int .i64 (ordW ord0 (mkV k i t nl l) zeroV)):=by simp only [φOrdZ];rw [if_pos ⟨h4.1,zeroV_isV,rfl⟩]
    have p79 : φanyF n [sliceD m ps,.fn 80 [] []] = some (.bool (ps.any fun x=>!(fmP n x))):=by
     simp only [φanyF]
     rw [if_pos ⟨m,ps,rfl,h5,fun x hx=>ks x hx⟩,elems_sliceD]
    have hlen : lenD (lsD op) = some (lsOf op).length:=by unfold lsD;rw [lenD_sliceD,List.length_map]
    have hle:=(lsD_cl op).2
    have eF:=fmP_S n (mkE op k i t nl l who name m ps) (op:=op) (v:=mkV k i t nl l) (l:=ps) rfl rfl (by rw [eps_mk])
    rw [eF]
    obtain ⟨b1,hb1⟩ : ∃ z,namedB (mkE op k i t nl l who name m ps) = z:=⟨_,rfl⟩
    obtain ⟨b2,hb2⟩ : ∃ z,wrP (mkV k i t nl l) = z:=⟨_,rfl⟩
    obtain ⟨b3,hb3⟩ : ∃ z,ordW ord0 (mkV k i t nl l) zeroV = z:=⟨_,rfl⟩
    obtain ⟨b4,hb4⟩ : ∃ z,(ps.any fun x=>!(fmP n x)) = z:=⟨_,rfl⟩
    obtain ⟨st,hst⟩ : ∃ z,stI op = z:=⟨_,rfl⟩
    obtain ⟨LD,hLD⟩ : ∃ z,lsD op = z:=⟨_,rfl⟩
    obtain ⟨ll,hll⟩ : ∃ z,(lsOf op).length = z:=⟨_,rfl⟩
    rw [hb1] at p77 ⊢
    rw [hb2] at p78 ⊢
    rw [hb3] at p64 ⊢
    rw [hb4] at p79 ⊢
    rw [hst,hLD] at p76
    rw [hst,hll]
    rw [hLD,hll] at hlen
    rw [hLD] at hle
    simp only [mkV,zeroV] at p78 p64
    simp only [mkE] at p77 ee
    rcases tf (decide (st < 0)) with g1 | g1
    ·rw [g1];simp +contextual (maxSteps:=10000000) only [c35,mkE,ee,eL,eP,p76,g1,go_sem]
    rcases tf ((ll : Int) != (ps.length : Nat)) with g2 | g2
    ·rw [g1,g2];simp +contextual (maxSteps:=10000000) only [c35,mkE,ee,eL,eP,p76,g1,hlen,hle,g2,go_sem]
    cases b1 with
    | false=>rw [g1,g2];simp +contextual (maxSteps:=10000000) only [c35,mkE,ee,eL,eP,p76,g1,hlen,hle,g2,p77,go_sem]
    | true =>
    rw [g1,g2]
    rcases tf (op == sVal) with g3 | g3
    ·have g3' : (op == [118,97,108,117,101]) = true:=g3
     rw [g3];simp +contextual (maxSteps:=10000000) only [c35,mkE,ee,eL,eP,p76,g1,hlen,hle,g2,p77,g3',p78,go_sem]
    have g3' : (op == [118,97,108,117,101]) = false:=g3
    rw [g3]
    rcases tf (b3 == 0) with g4 | g4
    ·rw [g4];simp +contextual (maxSteps:=10000000) only [c35,mkE,ee,eL,eP,p76,g1,hlen,hle,g2,p77,g3',p64,g4,p79,go_sem]
    ·rw [g4];simp +contextual (maxSteps:=10000000) only [c35,mkE,ee,eL,eP,p76,g1,hlen,hle,g2,p77,g3',p64,g4,go_sem]
   ·cases h
  ·cases h
theorem cmpI_0 {a b : Int} (h : cmpI a b = 0) : a = b:=by
 unfold cmpI at h;(repeat' split at h) <;> omega
theorem cmpS_0 : ∀ {a b : List UInt8},cmpS a b = 0 -> a = b
 | [],[],_=>rfl
 | [],_ :: _,h=>by simp [cmpS] at h
 | _ :: _,[],h=>by simp [cmpS] at h
 | a :: us,b :: ws,h=>by
  simp only [cmpS] at h
  split at h
  ·cases h
  ·split at h
   ·cases h
   ·rename_i h1 h2
    have : a = b:=by
     have h1 : ¬ a.toNat < b.toNat:=h1
     have h2 : ¬ b.toNat < a.toNat:=h2
     exact UInt8.toNat_inj.1 (by omega)
    rw [this,cmpS_0 h]
theorem ord_same {v : D} (h : ordW ord0 v zeroV = 0) : sameB v zeroV = true:=by
 unfold ordW at h
 have z1 : vk zeroV = 0:=rfl
 have z2 : vi zeroV = 0:=rfl
 have z3 : vs zeroV = []:=rfl
 have z4 : vl zeroV = []:=rfl
 rw [z1,z2,z3,z4] at h
 have h3 : or3 (cmpI (vk v) 0) (cmpI (vi v) 0) (cmpS (vs v) []) = 0 /\ cmpL ord0 (vl v) [] = 0:=by
  split at h
  ·rename_i g
   rw [h] at g;simp at g
  ·rename_i g
   exact ⟨by simpa using g,h⟩
 obtain ⟨h3,h4⟩:=h3
 have h5 : cmpI (vk v) 0 = 0 /\ cmpI (vi v) 0 = 0 /\ cmpS (vs v) [] = 0:=by
  unfold or3 at h3
  (repeat' split at h3) <;> simp_all
 have e1:=cmpI_0 h5.1
 have e2:=cmpI_0 h5.2.1
 have e3:=cmpS_0 h5.2.2
 have e4 : vl v = []:=by
  cases hl : vl v with
  | nil=>rfl
  | cons a l=>rw [hl] at h4;simp [cmpL] at h4
 unfold sameB
 rw [e1,e2,e3,e4,z1,z2,z3,z4];rfl
theorem fm_eq : ∀ (n : Nat) (e : D),fmP n e = fmR n e
 | 0,_=>rfl
 | n + 1,e=>by
  have hp : (!((eps e).any fun x=>!(fmP n x))) = (eps e).all (fmR n):=by
   rw [List.not_any_eq_all_not]
   exact all_congr' fun x _=>by rw [Bool.not_not,fm_eq n x]
  have ho : (ordW ord0 (eV e) zeroV == 0) = sameB (eV e) zeroV:=by
   cases hb : sameB (eV e) zeroV with
   | true=>rw [sameB_ord hb];rfl
   | false =>
    rw [beq_eq_false_iff_ne]
    intro h
    rw [ord_same h] at hb;cases hb
  simp only [fmP,fmR]
  rw [hp,ho,wr_val]
  rcases tf (decide (stI (eop e) < 0)) with g1 | g1
  ·rw [g1];rfl
  have g0 : 0 <= stI (eop e):=by simp only [decide_eq_false_iff_not] at g1;omega
  rw [g1,ls_len g0]
  have hc : (arN (eop e) != ((eps e).length : Int)) = (((eps e).length : Int) != arN (eop e)):=by
   rw [Bool.eq_iff_iff];simp only [bne_iff_ne,ne_eq];exact ⟨fun h k=>h k.symm,fun h k=>h k.symm⟩
  rw [hc]
  rcases tf (((eps e).length : Int) != arN (eop e)) with g2 | g2
  ·rw [g2];rfl
  rw [g2]
  simp only [Bool.or_self,Bool.false_or,Bool.false_eq_true,if_false]
  unfold fmTop namedB
  rcases tf (eop e == sVal) with g3 | g3
  ·have e3:=eq_of_beq' g3
   have hl : eps e = []:=by
    have : ((eps e).length : Int) = arN (eop e):=by simpa using g2
    rw [e3,show arN sVal = 0 by decide] at this
    exact List.eq_nil_of_length_eq_zero (by omega)
   rw [hl,e3,show (sVal == sAttr) = false by decide,show (sVal == sHas) = false by decide,show (sVal == sRole) = false by decide,show (sVal == sVal) = true by decide]
   simp only [List.all_nil,Bool.or_self,Bool.false_eq_true,if_false,if_true,Bool.not_true]
   cases ewho e == [] <;> cases ename e == [] <;> cases valB (eV e) <;> rfl
  ·rw [g3]
   simp only [Bool.false_eq_true,if_false]
   generalize (eps e).all (fmR n) = A
   generalize sameB (eV e) zeroV = B
   generalize (if ((eop e == sAttr) || (eop e == sHas)) = true then inB whoW (ewho e) && nameB (ename e) else if (eop e == sRole) = true then (ewho e == []) && formI 3 (ename e) 0 else (ewho e == []) && (ename e == [])) = N
   cases A <;> cases B <;> cases N <;> rfl
end GP
namespace GP
open Go
set_option maxRecDepth 100000
variable {P : Program} [HasG P]
mutual
theorem ren_id : ∀ d : D,d.ren id id = d
 | .sl t xs=>by simp only [D.ren,renL_id xs,Option.map_id_fun,id_eq]
 | .el cs=>by simp only [D.ren,renL_id cs]
 | .agg cs=>by simp only [D.ren,renL_id cs]
 | .tup cs=>by simp only [D.ren,renL_id cs]
 | .fn f a b=>by simp only [D.ren,renL_id a,renL_id b]
 | .ifc t d=>by simp only [D.ren,ren_id d]
 | .ptr o off=>rfl
 | .mp o=>rfl
 | .ms ..=>rfl
 | .bool _ | .int _ _ | .str _ | .nilp | .nils | .e0 | .nilf | .nilm | .nili | .top=>rfl
theorem renL_id : ∀ l : List D,D.renL id id l = l
 | []=>rfl
 | d :: l=>by simp only [D.renL,ren_id d,renL_id l]
end
theorem leavesG_same {H L : Hp} {T : Tk} {r : D} (hL : ∀ x ∈ L,∃ cs,x = .row cs /\ ∀ d ∈ cs,d.one = true) : LeavesG H T r (H ++ L) T r (H ++ L) T:=by
 refine ⟨_,_,.refl _ _,id,id,fun _ _=>rfl,fun _ _=>rfl,by rw [ren_id];exact Crs.refl _,fun o x h=>⟨x,h,?_⟩,fun _ _ _ _ h=>h,fun _ _ _ _ h=>h,fun _ _=>rfl,by simp,Nat.le_refl _⟩
 rcases Nat.lt_or_ge o H.length with ho | ho
 ·rw [List.getElem?_append_left ho] at h;exact .inl ⟨rfl,h⟩
 ·rw [List.getElem?_append_right ho] at h
  obtain ⟨cs,rfl,hc⟩:=hL x (List.mem_of_getElem? h)
  exact .inr (.inl ⟨cs,cs,rfl,rfl,rfl,hc,fun i h _=>by rw [ren_id];exact Crs.refl _⟩)
theorem okX_of {X : Pred} (hX : ∀ f args H T Q Q',(∀ r H T,Q r H T -> Q' r H T) -> X f args H T Q -> Snd P f args H T Q') {f : FuncId} {n : Nat} {rs : List (Sum Nat (Nat × Bool × Nat))} {cc : C} (hf : Fn P f n rs cc) {φ : List D -> Option D}
  (h : ∀ args r,φ args = some r -> args.length <= n /\ r.cl 0 0 = true /\ ∀ H T,W X cc (endQ rs (LeavesE r H T)) ⟨argT args,H,T⟩) : OkAt P f φ:=by
 intro args r hr args' he H T Q hQ
 obtain ⟨h1,h2,h3⟩:=h args r hr
 have hS : Snd P f args H T (LeavesE r H T):=call_of hf h1 (W_mono hX (fun _ _ h=>h) (h3 H T))
 intro c w vs kg k1 k2 k3
 have k3' : Reps c args vs:=by rw [<- he];exact k3.erase
 have hcl:=D.cl_mono (Nat.zero_le H.length) (Nat.zero_le T.length) r h2
 have hC : Closed H H T.length:=⟨Nat.le_refl _,fun _ _ _ h _=>.inl h⟩
 rcases hS c w vs kg k1 k2 k3' with ⟨g1,g2⟩ | ⟨v,w',g1,g2⟩
 ·exact .inl ⟨g1,g2.mono fun e w' k=>CallPost.forgetE k1 k2 hcl hC hQ k⟩
 ·exact .inr ⟨v,w',g1,CallPost.forgetE k1 k2 hcl hC hQ g2⟩
open Rd O
def growC (ag : Bool) (sz bytes : Nat) (z : List D) : C :=
 (.seq (.reg [⟨(some 4),none,.mv (k .nils)⟩])
 (.seq (.seq (.reg [⟨(some 5),none,.mv (t 1)⟩,⟨(some 6),none,.bin .lss (t 5) (k (.int .i64 0))⟩])
 (.cond (t 6)
 .stop
 .skip))
 (.seq (.seq (.reg [⟨(some 8),none,.mv (t 1)⟩,⟨(some 9),none,.mv (t 0)⟩,⟨(some 10),none,.capz (t 9)⟩,⟨(some 11),none,.mv (t 0)⟩,⟨(some 12),none,.len (t 11)⟩,⟨(some 13),none,.bin .sub (t 10) (t 12)⟩,⟨(some 14),none,.bin .sub (t 8) (t 13)⟩,⟨(some 1),none,.mv (t 14)⟩])
 (.seq (.reg [⟨(some 15),none,.mv (t 1)⟩,⟨(some 16),none,.bin .gtr (t 15) (k (.int .i64 0))⟩])
 (.cond (t 16)
 (.reg [⟨(some 17),none,.mv (t 0)⟩,⟨(some 18),none,.mv (t 0)⟩,⟨(some 19),none,.capz (t 18)⟩,⟨(some 20),none,.sls sz (t 17) none (some (t 19))⟩,⟨(some 21),none,.mv (t 1)⟩,⟨(some 22),none,.appz ag sz bytes z (t 20) (t 21)⟩,⟨(some 23),none,.mv (t 0)⟩,⟨(some 24),none,.len (t 23)⟩,⟨(some 25),none,.sls sz (t 22) none (some (t 24))⟩,⟨(some 0),none,.mv (t 25)⟩])
 .skip)))
 (.seq (.reg [⟨(some 26),none,.mv (t 0)⟩,⟨(some 4),none,.mv (t 26)⟩])
 .ret))))
def φgrow (ag : Bool) (sz bytes : Nat) (z : List D) (H : Hp) (T : Tk) : List D -> Option (D × Hp × Tk)
 | [.nils,.int .i64 n]=>if 0 <= n /\ n * bytes <= 2 ^ 47 /\ n < 2 ^ 61 then (if n = 0 then some (.nils,H,T) else some (.ms ag sz H.length 0 0 n.toNat,H ++ [.row (List.replicate n.toNat z).flatten],T)) else none
 | _=>none
theorem okGrow {N : FuncId} {ag : Bool} {sz bytes : Nat} {z : List D} (hz : z.length = sz) (hz1 : ∀ d ∈ z,d.one = true /\ d.cl 0 0 = true) (hf : Fn P N 27 [.inl 4] (growC ag sz bytes z)) : OkAtG P N (φgrow ag sz bytes z):=by
 refine okG_of (X:=Snd P) (fun _ _ _ _ _ _ h k=>Snd.mono _ _ _ _ _ _ h k) hf fun H T args r H1 T1 h=>?_
 unfold φgrow at h
 split at h
 ·rename_i n
  split at h
  ·rename_i hn
   obtain ⟨n0,n1,n2⟩:=hn
   obtain ⟨m,rfl⟩ : ∃ m : Nat,n = (m : Int):=⟨n.toNat,by omega⟩
   have d0 : decide ((m : Int) < 0) = false:=by simp only [decide_eq_false_iff_not];omega
   have w0 : IntKind.i64.wrap (0 - 0) = 0:=by decide
   have w1 : IntKind.i64.wrap ((m : Int) - 0) = (m : Int):=by rw [Int.sub_zero];exact wrap_inY (by omega) (by omega)
   have wz : IntKind.i64.wrap 0 = 0:=by decide
   have wm : IntKind.i64.wrap (m : Int) = (m : Int):=wrap_inY (by omega) (by omega)
   split at h
   ·rename_i e0
    injection h with h;injection h with h1 h2;injection h2 with h2 h3
    subst h1;subst h2;subst h3
    have : m = 0:=by omega
    subst this
    refine ⟨by simp,by simp [D.cl],Closed.refl' _ _,?_⟩
    have d1 : decide ((0 : Int) < ((0 : Nat) : Int)) = false:=by decide
    simp +contextual (maxSteps:=10000000) only [growC,d0,d1,w0,w1,wz,wm,go_sem]
    have:=leavesG_same (H:=H) (L:=[]) (T:=T) (r:=.nils) (fun x h=>by cases h)
    simpa using this
   ·rename_i e0
    injection h with h;injection h with h1 h2;injection h2 with h2 h3
    subst h1;subst h2;subst h3
    have hp : 0 < m:=by omega
    have d1 : decide ((0 : Int) < (m : Int)) = true:=by simp only [decide_eq_true_eq];omega
    rw [Int.toNat_natCast]
    refine ⟨by simp,by simp [D.cl],⟨by simp,fun o x cs ho hx=>?_⟩,?_⟩
    ·rcases Nat.lt_or_ge o H.length with hlt | hge
     ·rw [List.getElem?_append_left hlt] at ho;exact .inl ho
     ·rw [List.getElem?_append_right hge] at ho
      have:=List.mem_of_getElem? ho
      simp only [List.mem_singleton] at this
      subst this
      injection hx with hx;subst hx
      refine .inr (clL_of fun d hd=>?_)
      simp only [List.mem_flatten,List.mem_replicate] at hd
      obtain ⟨l,⟨_,rfl⟩,hd⟩:=hd
      exact D.cl_mono (Nat.zero_le _) (Nat.zero_le _) d (hz1 d hd).2
    ·have s0 : slc sz (some 0) (some 0) (.ms ag sz H.length 0 m m) = some (.ms ag sz H.length 0 0 m):=by
      simp only [slc]
      rw [if_pos ⟨by omega,by omega,by omega,by omega,trivial⟩]
      simp
     have s1 : slc sz (some 0) (some 0) .nils = some .nils:=rfl
     have z0 : ((0 : Nat) : Int) = 0:=rfl
     simp +contextual (maxSteps:=10000000) only [growC,d0,d1,w0,w1,wz,wm,appzK,s1,z0,go_sem]
     refine ⟨.inl trivial,by omega,by omega,by omega,hz,?_⟩
     simp +contextual (maxSteps:=10000000) only [s0,Int.toNat_natCast,z0,go_sem]
     have:=leavesG_same (H:=H) (L:=[.row (List.replicate m z).flatten]) (T:=T) (r:=.ms ag sz H.length 0 0 m) (fun x h=>by
      rw [List.mem_singleton] at h;subst h
      refine ⟨_,rfl,fun d hd=>?_⟩
      simp only [List.mem_flatten,List.mem_replicate] at hd
      obtain ⟨l,⟨_,rfl⟩,hd⟩:=hd
      exact (hz1 d hd).1)
     exact this
  ·cases h
 ·cases h
def conC (sz bytes : Nat) (N : FuncId) : C :=
 (.seq (.reg [⟨(some 2),none,.mv (k .nils)⟩])
 (.seq (.reg [⟨(some 3),none,.mv (k (.int .i64 0))⟩])
 (.seq (.seq (.reg [⟨(some 9),none,.mv (t 0)⟩,⟨(some 10),none,.len (t 9)⟩,⟨(some 11),none,.mv (k (.int .i64 0))⟩])
 (.block 0
 (.loop
 (.seq (.reg [⟨(some 12),none,.bin .lss (t 11) (t 10)⟩])
 (.seq (.cond (t 12)
 .skip
 (.exit 0))
 (.seq (.block 1
 (.seq (.reg [⟨(some 13),none,.iaddr 1 (t 9) (t 11)⟩,⟨(some 14),none,.load false 1 (t 13)⟩,⟨(some 5),none,.mv (t 14)⟩])
 (.seq (.reg [⟨(some 15),none,.mv (t 3)⟩,⟨(some 16),none,.mv (t 5)⟩,⟨(some 17),none,.len (t 16)⟩,⟨(some 18),none,.bin .add (t 15) (t 17)⟩,⟨(some 3),none,.mv (t 18)⟩])
 (.seq (.reg [⟨(some 19),none,.mv (t 3)⟩,⟨(some 20),none,.bin .lss (t 19) (k (.int .i64 0))⟩])
 (.cond (t 20)
 .stop
 .skip)))))
 (.reg [⟨(some 22),none,.bin .add (t 11) (k (.int .i64 1))⟩,⟨(some 11),none,.mv (t 22)⟩])))))))
 (.seq (.reg [⟨(some 23),none,.mv (t 3)⟩,⟨(some 24),none,.call (k (.fn N [] [])) [(k .nils),(t 23)]⟩,⟨(some 6),none,.mv (t 24)⟩])
 (.seq (.seq (.reg [⟨(some 25),none,.mv (t 0)⟩,⟨(some 26),none,.len (t 25)⟩,⟨(some 27),none,.mv (k (.int .i64 0))⟩])
 (.block 2
 (.loop
 (.seq (.reg [⟨(some 28),none,.bin .lss (t 27) (t 26)⟩])
 (.seq (.cond (t 28)
 .skip
 (.exit 2))
 (.seq (.block 3
 (.seq (.reg [⟨(some 29),none,.iaddr 1 (t 25) (t 27)⟩,⟨(some 30),none,.load false 1 (t 29)⟩,⟨(some 8),none,.mv (t 30)⟩])
 (.reg [⟨(some 31),none,.mv (t 6)⟩,⟨(some 32),none,.mv (t 8)⟩,⟨(some 33),none,.appm true false sz bytes (t 31) (t 32)⟩,⟨(some 6),none,.mv (t 33)⟩])))
 (.reg [⟨(some 34),none,.bin .add (t 27) (k (.int .i64 1))⟩,⟨(some 27),none,.mv (t 34)⟩])))))))
 (.seq (.reg [⟨(some 35),none,.mv (t 6)⟩,⟨(some 2),none,.mv (t 35)⟩])
 .ret))))))
theorem isSl_m {d : D} (h : isSl d = true) : ∃ m,d = sliceD m (elems d):=by
 unfold isSl at h
 split at h
 ·exact ⟨true,rfl⟩
 ·exact ⟨false,rfl⟩
 ·cases h
def catD (ls : List D) : List D:=(ls.map elems).flatten
theorem catD_app (xs ys : List D) : catD (xs ++ ys) = catD xs ++ catD ys:=by simp [catD]
theorem catD_take {ls : List D} {i : Nat} {x : D} (h : ls[i]? = some x) : catD (ls.take (i + 1)) = catD (ls.take i) ++ elems x:=by
 rw [List.take_add_one,h,catD_app];simp [catD]
structure isCat (sz bytes : Nat) (ls : List D) : Prop where
 l : ls.length <= 2 ^ 40
 s : ∀ y ∈ ls,∃ m xs,y = sliceD m xs
 a : isAg sz (catD ls)
 e : D.eraseL (catD ls) = catD ls
 c : D.clL 0 0 (catD ls) = true
 b : (catD ls).length * bytes <= 2 ^ 47
 n : (catD ls).length < 2 ^ 61
open Classical in
noncomputable def φcat (sz bytes : Nat) : List D -> Option D
 | [l]=>if isSl l = true /\ isCat sz bytes (elems l) then some (sliceD true (catD (elems l))) else none
 | _=>none
theorem isCat.mem {sz bytes : Nat} {ls : List D} (h : isCat sz bytes ls) {y : D} (hy : y ∈ ls) : isAg sz (elems y) /\ y.erase = y:=by
 have hsub : ∀ x ∈ elems y,x ∈ catD ls:=fun x hx=>List.mem_flatten.2 ⟨elems y,List.mem_map.2 ⟨y,hy,rfl⟩,hx⟩
 refine ⟨h.a.sub hsub,?_⟩
 obtain ⟨m,xs,rfl⟩:=h.s y hy
 rw [elems_sliceD] at hsub
 have he : ∀ x ∈ xs,x.erase = x:=fun x hx=>by
  have hx:=hsub x hx
  obtain ⟨i,hi,e⟩:=List.mem_iff_getElem.1 hx
  have:=h.e
  rw [eraseL_map] at this
  have h2:=congrArg (fun l=>l[i]?) this
  simp only [List.getElem?_map,List.getElem?_eq_getElem hi,Option.map_some,e] at h2
  injection h2
 rw [erase_sliceD,eraseL_id he]
theorem rep_drop {z : List D} {a b : Nat} : (List.replicate (a + b) z).flatten.drop (a * z.length) = (List.replicate b z).flatten:=by
 rw [<- List.replicate_append_replicate,List.flatten_append,List.drop_left']
 simp
theorem mk_cat (xs : List D) : (sliceD true xs).cl 0 0 = true ↔ D.clL 0 0 xs = true:=by
 rcases sliceD_cases true xs with ⟨h,rfl⟩ | h <;> rw [h] <;> simp [D.cl,D.clL]
set_option maxHeartbeats 4000000 in
theorem okCat {N M : FuncId} {sz bytes : Nat} {z : List D} (hz : z.length = sz) (hM : OkAtG P M (φgrow true sz bytes z)) (hf : Fn P N 36 [.inl 2] (conC sz bytes M)) : OkAt P N (φcat sz bytes):=by
 have hXX:=XG.X (P:=P) (u:=[]) .nil .nil .nil (.cons hM .nil)
 have hX:=XG_mono (P:=P) [] [] [] [] [(M,φgrow true sz bytes z)]
 refine okX_of (X:=XG P [] [] [] [] [(M,φgrow true sz bytes z)]) hXX hf fun args r h=>?_
 unfold φcat at h
 split at h
 ·rename_i l
  split at h
  ·rename_i hc
   obtain ⟨hs,hC⟩:=hc
   injection h with h;subst h
   obtain ⟨m,hm⟩:=isSl_m hs
   obtain ⟨ls,hls⟩ : ∃ ls,elems l = ls:=⟨_,rfl⟩
   rw [hls] at hm hC ⊢
   subst hm
   refine ⟨by simp,(mk_cat _).2 hC.c,fun H T=>?_⟩
   have hpos : ∀ i,(catD (ls.take i)).length <= (catD ls).length:=fun i=>by
    have : catD ls = catD (ls.take i) ++ catD (ls.drop i):=by rw [<- catD_app,List.take_append_drop]
    rw [this,List.length_append];omega
   have hb:=hC.b
   have hn:=hC.n
   have hl:=hC.l
   simp +contextual (maxSteps:=10000000) only [conC,go_sem]
   refine W_each ls (fun i s=>s.t 0 = sliceD m ls /\ s.t 3 = .int .i64 ((catD (ls.take i)).length : Int) /\ s.t 9 = sliceD m ls /\ s.t 10 = .int .i64 (ls.length : Int) /\ s.t 11 = .int .i64 (i : Int) /\ s.H = H /\ s.T = T) hX ⟨by simp [upd,argT],by simp [upd,catD],by simp [upd,argT],by simp [upd],by simp [upd],rfl,rfl⟩ ?_ ?_
   ·rintro i y ⟨t',B,U⟩ hy hmem hi ⟨r0,r3,r9,r10,r11,rfl,rfl⟩
    simp only at r0 r3 r9 r10 r11
    have d1 : decide ((i : Int) < ls.length) = true:=by simpa using hi
    obtain ⟨m',xs,rfl⟩:=hC.s y hmem
    have nx:=catD_take hy
    have h1:=hpos (i + 1)
    rw [nx,elems_sliceD,List.length_append] at h1
    rw [elems_sliceD] at nx
    have wa : IntKind.i64.wrap (((catD (ls.take i)).length : Int) + (xs.length : Int)) = (((catD (ls.take i)).length + xs.length : Nat) : Int):=by
     rw [wrap_inY (by omega) (by omega)];rfl
    have d2 : decide ((((catD (ls.take i)).length + xs.length : Nat) : Int) < 0) = false:=by simp only [decide_eq_false_iff_not];omega
    simp +contextual (maxSteps:=10000000) only [r0,r3,r9,r10,r11,d1,hy,wa,d2,wrap_natY i (by omega),go_sem]
    rw [nx,List.length_append]
   ·rintro ⟨t',B,U⟩ ⟨r0,r3,r9,r10,r11,rfl,rfl⟩
    simp only at r0 r3 r9 r10 r11
    have d1 : decide ((ls.length : Int) < ls.length) = false:=by simp
    rw [List.take_length] at r3
    obtain ⟨tot,htot⟩ : ∃ n,(catD ls).length = n:=⟨_,rfl⟩
    have hpos2:=hpos
    rw [htot] at r3 hb hn hpos2
    by_cases h0 : tot = 0
    ·subst h0
     have e0 : catD ls = []:=List.eq_nil_of_length_eq_zero htot
     have ei : ∀ y ∈ ls,elems y = []:=fun y hy=>by
      unfold catD at e0
      rw [List.flatten_eq_nil_iff] at e0
      exact e0 _ (List.mem_map.2 ⟨y,hy,rfl⟩)
     have pg : φgrow true sz bytes z B U [.nils,.int .i64 0] = some (.nils,B,U):=by
      simp only [φgrow];rw [if_pos ⟨by omega,by omega,by omega⟩];rfl
     rw [show ((0 : Nat) : Int) = 0 from rfl] at r3
     simp +contextual (maxSteps:=10000000) only [r0,r3,r9,r10,r11,d1,eq_self,pg,go_sem]
     refine W_each ls (fun i s=>s.t 6 = .nils /\ s.t 25 = sliceD m ls /\ s.t 26 = .int .i64 (ls.length : Int) /\ s.t 27 = .int .i64 (i : Int) /\ s.H = B /\ s.T = U) hX ⟨by simp [upd],by simp [upd,r0],by simp [upd],by simp [upd],rfl,rfl⟩ ?_ ?_
     ·rintro i y ⟨t2,B2,U2⟩ hy hmem hi ⟨q6,q25,q26,q27,rfl,rfl⟩
      simp only at q6 q25 q26 q27
      have d2 : decide ((i : Int) < ls.length) = true:=by simpa using hi
      obtain ⟨m',xs,rfl⟩:=hC.s y hmem
      have hxs:=ei _ hmem
      rw [elems_sliceD] at hxs
      subst hxs
      have hsrc : appSrcM B2 false sz (sliceD m' []) = some []:=by
       rcases sliceD_cases m' [] with ⟨h,_⟩ | h <;> rw [h] <;> rfl
      simp +contextual (maxSteps:=10000000) only [q6,q25,q26,q27,d2,hy,hsrc,appmK,List.all_nil,wrap_natY i (by omega),go_sem]
     ·rintro ⟨t2,B2,U2⟩ ⟨q6,q25,q26,q27,rfl,rfl⟩
      simp only at q6 q25 q26 q27
      have d2 : decide ((ls.length : Int) < ls.length) = false:=by simp
      simp +contextual (maxSteps:=10000000) only [q6,q25,q26,q27,d2,go_sem]
      rw [e0]
      exact leavesE_mk rfl ⟨[],by simp⟩ ⟨[],by simp⟩
    ·have pg : φgrow true sz bytes z B U [.nils,.int .i64 (tot : Int)] = some (.ms true sz B.length 0 0 tot,B ++ [.row (List.replicate tot z).flatten],U):=by
      simp only [φgrow]
      rw [if_pos ⟨by omega,by exact_mod_cast hb,by omega⟩,if_neg (by omega)]
      simp
     simp +contextual (maxSteps:=10000000) only [r0,r3,r9,r10,r11,d1,eq_self,pg,go_sem]
     refine W_each ls (fun i s=>s.t 6 = .ms true sz B.length 0 (catD (ls.take i)).length tot /\ s.t 25 = sliceD m ls /\ s.t 26 = .int .i64 (ls.length : Int) /\ s.t 27 = .int .i64 (i : Int) /\ s.H = B ++ [.row (flatD (catD (ls.take i)) ++ (List.replicate (tot - (catD (ls.take i)).length) z).flatten)] /\ s.T = U) hX ⟨by simp [upd,catD],by simp [upd,r0],by simp [upd],by simp [upd],by simp [catD,flatD],rfl⟩ ?_ ?_
     ·rintro i y ⟨t2,B2,U2⟩ hy hmem hi ⟨q6,q25,q26,q27,rfl,rfl⟩
      simp only at q6 q25 q26 q27
      have d2 : decide ((i : Int) < ls.length) = true:=by simpa using hi
      obtain ⟨m',xs,rfl⟩:=hC.s y hmem
      have hag:=(hC.mem hmem).1
      rw [elems_sliceD] at hag
      have nx:=catD_take hy
      have h1:=hpos2 (i + 1)
      rw [nx,elems_sliceD,List.length_append] at h1
      rw [elems_sliceD] at nx
      rw [nx,List.length_append]
      have hagA : isAg sz (catD (ls.take i)):=hC.a.sub fun x hx=>by
       unfold catD at hx ⊢
       obtain ⟨l',hl',hx'⟩:=List.mem_flatten.1 hx
       obtain ⟨y',hy',rfl⟩:=List.mem_map.1 hl'
       exact List.mem_flatten.2 ⟨_,List.mem_map.2 ⟨y',List.mem_of_mem_take hy',rfl⟩,hx'⟩
      obtain ⟨A,hA⟩ : ∃ A,catD (ls.take i) = A:=⟨_,rfl⟩
      rw [hA] at q6 h1 hagA ⊢
      have hsrc : appSrcM (B ++ [.row (flatD A ++ (List.replicate (tot - A.length) z).flatten)]) false sz (sliceD m' xs) = some xs:=by
       rcases sliceD_cases m' xs with ⟨h,rfl⟩ | h <;> rw [h] <;> rfl
      have hrow : (B ++ [Ob.row (flatD A ++ (List.replicate (tot - A.length) z).flatten)])[B.length]? = some (.row (flatD A ++ (List.replicate (tot - A.length) z).flatten)):=by simp
      have hset : ∀ x,(B ++ [Ob.row (flatD A ++ (List.replicate (tot - A.length) z).flatten)]).set B.length x = B ++ [x]:=fun x=>by simp
      have hfl:=hagA.flat
      have hlen : (flatD A ++ (List.replicate (tot - A.length) z).flatten).length = tot * sz:=by
       rw [List.length_append,hfl]
       simp only [List.length_flatten,List.map_replicate,List.sum_replicate_nat,hz]
       rw [<- Nat.add_mul];congr 1;omega
      have hnew : (flatD A ++ (List.replicate (tot - A.length) z).flatten).take (0 + A.length * sz) ++ flatD xs ++ (flatD A ++ (List.replicate (tot - A.length) z).flatten).drop (0 + (A.length + xs.length) * sz) = flatD (A ++ xs) ++ (List.replicate (tot - (A.length + xs.length)) z).flatten:=by
       rw [Nat.zero_add,Nat.zero_add,List.take_left' hfl,flatD_append]
       congr 1
       rw [show (A.length + xs.length) * sz = (flatD A).length + xs.length * sz by rw [hfl,Nat.add_mul],← List.drop_drop,List.drop_left,show tot - A.length = xs.length + (tot - (A.length + xs.length)) by omega,← hz,rep_drop]
      simp +contextual (maxSteps:=10000000) only [q6,q25,q26,q27,d2,hy,hsrc,wrap_natY i (by omega),go_sem]
      unfold appmK
      refine ⟨hag.fit,?_⟩
      simp only [hrow]
      refine ⟨trivial,?_⟩
      rw [if_pos (by omega)]
      refine ⟨by rw [hlen];omega,?_⟩
      rw [hset,hnew]
      simp +contextual (maxSteps:=10000000) only [q6,q25,q26,q27,wrap_natY i (by omega),go_sem]
     ·rintro ⟨t2,B2,U2⟩ ⟨q6,q25,q26,q27,rfl,rfl⟩
      simp only at q6 q25 q26 q27
      have d2 : decide ((ls.length : Int) < ls.length) = false:=by simp
      rw [List.take_length,htot] at q6
      rw [List.take_length,htot,Nat.sub_self]
      simp +contextual (maxSteps:=10000000) only [q6,q25,q26,q27,d2,go_sem]
      refine leavesE_fz B.length (flatD (catD ls) ++ []) (by simp) (Nat.le_refl _) ?_ (Ext.of _ _) (ExtT.refl _)
      have hfz : D.fz B.length (flatD (catD ls) ++ []) (.ms true sz B.length 0 tot tot) = .sl none (catD ls):=by
       simp only [D.fz]
       rw [if_pos ⟨trivial,by simp [hC.a.flat,htot],.inl trivial,by omega⟩,List.drop_zero,← htot,chunk_flat _ _ hC.a]
      rw [hfz]
      have : sliceD true (catD ls) = .sl none (catD ls):=by
       rcases sliceD_cases true (catD ls) with ⟨_,h⟩ | h
       ·rw [h] at htot;exact absurd htot.symm h0
       ·exact h
      rw [this]
      exact Crs.refl _
  ·cases h
 ·cases h
end GP
namespace GP
open Go Go.Proofs
set_option maxRecDepth 100000
theorem zTok : ∀ d ∈ [D.int .i64 0,.str [],.int .i64 0],d.one = true /\ d.cl 0 0 = true:=by
 intro d hd
 simp only [List.mem_cons,List.not_mem_nil,or_false] at hd
 rcases hd with rfl | rfl | rfl <;> exact ⟨rfl,rfl⟩
theorem ok138 : OkAtG Tryz.prog 138 (φgrow true 3 32 [.int .i64 0,.str [],.int .i64 0]):=okGrow (by rfl) zTok fn138
theorem ok85 : OkAt Tryz.prog 85 (φcat 3 32):=okCat (by rfl) ok138 fn85
theorem isTks.ag {l : List D} (h : isTks l) : isAg 3 l:=fun x hx=>by
 obtain ⟨k,s,n,rfl⟩:=h x hx
 exact ⟨_,rfl,rfl⟩
theorem cat_at {ls : List D} (hs : ∀ y ∈ ls,∃ m xs,y = sliceD m xs) (hk : isTks (catD ls)) (hn : (catD ls).length <= 2 ^ 40) (hl : ls.length <= 2 ^ 40) : φcat 3 32 [.sl none ls] = some (sliceD true (catD ls)):=by
 simp only [φcat]
 rw [if_pos ⟨rfl,⟨hl,hs,hk.ag,hk.erase,hk.cl _ _,by have : elems (.sl none ls) = ls:=rfl;rw [this];omega,by have : elems (.sl none ls) = ls:=rfl;rw [this];omega⟩⟩]
 rfl
def signT (s : List UInt8) : D:=if formI 1 s 0 then mkT 1 s 0 else mkT 5 s 0
def isStrD : D -> Bool
 | .str s=>decide (s.length <= 2 ^ 47)
 | _=>false
theorem isStrD_elim {d : D} (h : isStrD d = true) : ∃ s,s.length <= 2 ^ 47 /\ d = .str s:=by
 unfold isStrD at h
 split at h
 ·exact ⟨_,by simpa using h,rfl⟩
 ·cases h
def sgD : D -> D
 | .str s=>signT s
 | _=>.top
theorem sT_word {s : List UInt8} (h : formI 1 s 0 = true) : signT s = mkT 1 s 0:=by unfold signT;rw [if_pos h]
theorem sT_sign {s : List UInt8} (h : formI 1 s 0 = false) : signT s = mkT 5 s 0:=by unfold signT;rw [h];rfl
theorem signT_tok (s : List UInt8) : ∃ k n,signT s = mkT k s n:=by unfold signT;split <;> exact ⟨_,_,rfl⟩
def φsgn : List D -> Option D
 | [.str s]=>if s.length <= 2 ^ 47 then some (signT s) else none
 | _=>none
theorem sign_at {s : List UInt8} (h : s.length <= 2 ^ 47) : φsgn [.str s] = some (signT s):=by
 simp only [φsgn];rw [if_pos h]
theorem ok87 : OkAt Tryz.prog 87 φsgn:=by
 refine ok_of (l:=[(134,φfk 1)]) (.cons ok134 .nil) fn87 fun args r h=>?_
 unfold φsgn at h
 split at h
 ·rename_i s
  split at h
  ·rename_i hs
   injection h with h;subst h
   refine ⟨by simp,?_,fun H T=>?_⟩
   ·unfold signT;split <;> simp [mkT,D.cl,D.clL]
   have p:=fk_at (k:=1) hs
   unfold signT
   obtain ⟨b,hb⟩ : ∃ z,formI 1 s 0 = z:=⟨_,rfl⟩
   rw [hb] at p ⊢
   cases b with
   | true=>simp +contextual (maxSteps:=10000000) only [c87,p,mkT,go_sem]
   | false=>simp +contextual (maxSteps:=10000000) only [c87,p,mkT,go_sem]
  ·cases h
 ·cases h
def φsL : List D -> Option (List D)
 | [.sl none l]=>if l.all isStrD = true /\ l ≠ [] /\ l.length <= 2 ^ 20 then some (l.map sgD) else none
 | _=>none
theorem sgD_tks {l : List D} (h : l.all isStrD = true) : isTks (l.map sgD):=fun x hx=>by
 obtain ⟨y,hy,rfl⟩:=List.mem_map.1 hx
 obtain ⟨s,_,rfl⟩:=isStrD_elim (List.all_eq_true.1 h y hy)
 obtain ⟨k,n,e⟩:=signT_tok s
 exact ⟨k,s,n,e⟩
set_option maxHeartbeats 1000000 in
theorem ok84 : OkAtG Tryz.prog 84 (φOwn 3 φsL):=by
 have hM : MonoH []:=.nil
 have hX:=XG_mono (P:=Tryz.prog) [] [(87,φsgn)] [] [] []
 refine okOwn_of (X:=XG Tryz.prog [] [(87,φsgn)] [] [] []) (XG.X (.cons ok87 .nil) .nil .nil .nil) fn84 fun args xs h=>?_
 unfold φsL at h
 split at h
 ·rename_i l
  split at h
  ·rename_i hc
   obtain ⟨h1,h2,h3⟩:=hc
   injection h with h;subst h
   have hk:=sgD_tks h1
   refine ⟨by simp,hk.cl _ _,fun H T=>?_⟩
   simp +contextual (maxSteps:=10000000) only [c84,go_sem]
   refine W_each l (fun i s=>s.t 6 = .sl none l /\ s.t 7 = .int .i64 (l.length : Int) /\ s.t 8 = .int .i64 (i : Int) /\ s.H = H /\ accT 3 T ((l.take i).map sgD) (s.t 3) s.T) hX ⟨by simp [upd,argT],by simp [upd],by simp [upd],rfl,by simpa [upd] using accT.nil 3 T (ExtT.refl _)⟩ ?_ ?_
   ·rintro i x ⟨t,B,U⟩ hx hm hi ⟨t6,t7,t8,rfl,hA⟩
    simp only at t6 t7 t8 hA
    have d1 : decide ((i : Int) < l.length) = true:=by simpa using hi
    obtain ⟨s,hs,rfl⟩:=isStrD_elim (List.all_eq_true.1 h1 x hm)
    have p:=sign_at hs
    have nx : (l.take (i + 1)).map sgD = (l.take i).map sgD ++ [signT s]:=by
     rw [List.take_add_one,hx];simp [sgD]
    have hf : ((l.take i).map sgD).all (fit 3) = true:=isTks.fit fun y hy=>hk y (by
     obtain ⟨z,hz,rfl⟩:=List.mem_map.1 hy
     exact List.mem_map.2 ⟨z,List.mem_of_mem_take hz,rfl⟩)
    obtain ⟨k,n,hw⟩:=signT_tok s
    rw [hw] at p nx
    rw [nx]
    have hlen : ((l.take i).map sgD).length <= 2 ^ 20:=by rw [List.length_map,List.length_take];omega
    generalize (l.take i).map sgD = A at hA hf hlen ⊢
    clear nx hw
    simp +contextual (maxSteps:=10000000) only [t6,t7,t8,d1,hx,p,pcallG hM,mkT,go_sem]
    refine app_accT (bytes:=32) _ (hA.app _) rfl hf (by simp;omega) (by simp;omega) fun d2 T2 hA2=>?_
    simp +contextual (maxSteps:=10000000) only [t6,t7,t8,wrap_succ i (by omega),go_sem]
    exact hA2
   ·rintro ⟨t,B,U⟩ ⟨t6,t7,t8,rfl,hA⟩
    simp only at t6 t7 t8 hA
    have d1 : decide ((l.length : Int) < l.length) = false:=by simp
    rw [List.take_length] at hA
    obtain ⟨hE,hA⟩:=hA
    rcases hA with ⟨h0,_⟩ | ⟨τ,hτ,e,hT⟩
    ·exact (h2 (by simpa using h0)).elim
    ·simp +contextual (maxSteps:=10000000) only [t6,t7,t8,d1,e,go_sem]
     exact leavesG_own (Ext.refl _) hE (hk.cl _ _) hτ hT
  ·cases h
 ·cases h
def φsP (a : List D) : Option D:=(φsL a).map (.sl none)
theorem tok84 : OkAt Tryz.prog 84 φsP:=OkAtG.pure ok84 fun a xs h=>by
 unfold φsL at h
 split at h
 ·split at h
  ·rename_i hc
   injection h with h;subst h
   exact ⟨(sgD_tks hc.1).cl _ _,(sgD_tks hc.1).erase⟩
  ·cases h
 ·cases h
theorem sg1 {a : List UInt8} (h : a.length <= 2 ^ 47) : φsP [.sl none [.str a]] = some (.sl none [signT a]):=by
 have : decide (a.length <= 2 ^ 47) = true:=by simpa using h
 simp only [φsP,φsL,List.all_cons,List.all_nil,isStrD,this,sgD,List.map_cons,List.map_nil,Bool.and_self,List.length_cons,List.length_nil]
 rw [if_pos ⟨trivial,by simp,by omega⟩];rfl
theorem sg3 {a b c : List UInt8} (ha : a.length <= 2 ^ 47) (hb : b.length <= 2 ^ 47) (hc : c.length <= 2 ^ 47) : φsP [.sl none [.str a,.str b,.str c]] = some (.sl none [signT a,signT b,signT c]):=by
 have e1 : decide (a.length <= 2 ^ 47) = true:=by simpa using ha
 have e2 : decide (b.length <= 2 ^ 47) = true:=by simpa using hb
 have e3 : decide (c.length <= 2 ^ 47) = true:=by simpa using hc
 simp only [φsP,φsL,List.all_cons,List.all_nil,isStrD,e1,e2,e3,sgD,List.map_cons,List.map_nil,Bool.and_self,List.length_cons,List.length_nil]
 rw [if_pos ⟨trivial,by simp,by omega⟩];rfl
open Classical in
noncomputable def φaround : List D -> Option D
 | [l]=>if isSl l = true /\ isTks (elems l) /\ (elems l).length <= 2 ^ 39 then some (.sl none (tP :: (elems l ++ [tQ]))) else none
 | _=>none
theorem sl_none (xs : List D) : ∃ m ys,D.sl none xs = sliceD m ys:=⟨false,xs,rfl⟩
theorem p_sg {a : List UInt8} (k : Int) (h : a.length <= 2 ^ 47) (hk : signT a = mkT k a 0) : φsP [.sl none [.str a]] = some (.sl none [.agg [.int .i64 k,.str a,.int .i64 0]]):=by
 rw [sg1 h,hk];rfl
set_option maxHeartbeats 1000000 in
theorem ok124 : OkAt Tryz.prog 124 φaround:=by
 refine ok_of (l:=[(84,φsP),(85,φcat 3 32)]) (.cons tok84 (.cons ok85 .nil)) fn124 fun args r h=>?_
 unfold φaround at h
 split at h
 ·rename_i l
  split at h
  ·rename_i hc
   obtain ⟨hs,hk,hn⟩:=hc
   injection h with h;subst h
   have hk2 : isTks (tP :: (elems l ++ [tQ])):=isTks.cons _ _ _ (hk.app (isTks.cons _ _ _ .nil))
   refine ⟨by simp,hk2.cl _ _,fun H T=>?_⟩
   obtain ⟨m,hm⟩:=isSl_m hs
   obtain ⟨xs,hx⟩ : ∃ xs,elems l = xs:=⟨_,rfl⟩
   rw [hx] at hk hn hm hk2 ⊢
   subst hm
   have p1:=p_sg (a:=[40]) 5 (by decide) (sT_sign (by decide))
   have p2:=p_sg (a:=[41]) 5 (by decide) (sT_sign (by decide))
   have eX:=erase_sliceD m xs
   rw [hk.erase] at eX
   have eC : catD [.sl none [tP],sliceD m xs,.sl none [tQ]] = tP :: (xs ++ [tQ]):=by
    simp only [catD,List.map_cons,List.map_nil,elems_sliceD,List.flatten_cons,List.flatten_nil,List.append_nil]
    rfl
   have p3:=cat_at (ls:=[.sl none [tP],sliceD m xs,.sl none [tQ]]) (fun y hy=>by
    simp only [List.mem_cons,List.not_mem_nil,or_false] at hy
    rcases hy with rfl | rfl | rfl
    ·exact sl_none _
    ·exact ⟨_,_,rfl⟩
    ·exact sl_none _) (by rw [eC];exact hk2) (by rw [eC];simp;omega) (by simp)
   rw [eC,show sliceD true (tP :: (xs ++ [tQ])) = .sl none (tP :: (xs ++ [tQ])) from rfl] at p3
   obtain ⟨Z,hZ⟩ : ∃ Z,tP :: (xs ++ [tQ]) = Z:=⟨_,rfl⟩
   rw [hZ] at p3 hk2 ⊢
   simp only [tP,tQ,mkT] at p3
   simp +contextual (maxSteps:=10000000) only [c124,p1,p2,p3,eX,hk.erase,hk2.erase,go_sem]
  ·cases h
 ·cases h
def leafP (v : D) : Bool:=leaf1 v && (!(vk v == 1) || (vi v == 0) || (vi v == 1))
def φlit1P : List D -> Option D
 | [v]=>if v.isV = true /\ leafP v = true then some (.sl none (litT1 v)) else none
 | _=>none
set_option maxHeartbeats 1000000 in
theorem ok206 : OkAt Tryz.prog 206 φlit1P:=by
 refine ok_of (l:=[(84,φsP),(87,φsgn)]) (.cons tok84 (.cons ok87 .nil)) fn206 fun args r h=>?_
 unfold φlit1P at h
 split at h
 ·rename_i v
  split at h
  ·rename_i hc
   obtain ⟨hv,hl⟩:=hc
   injection h with h;subst h
   refine ⟨by simp,isTks.cl (litT1_tok v) _ _,fun H T=>?_⟩
   obtain ⟨k,i,s,nl,l,rfl,z,y,hV⟩:=isV_elim hv
   have eL:=erase_of_isV hV
   have p1:=p_sg (a:=[116,114,117,101]) 1 (by decide) (sT_word (by decide))
   have p0:=p_sg (a:=[102,97,108,115,101]) 1 (by decide) (sT_word (by decide))
   have pm : φsgn [.str [45]] = some (.agg [.int .i64 5,.str [45],.int .i64 0]):=by rw [sign_at (by decide),sT_sign (by decide)];rfl
   simp only [leafP,leaf1,litT1,vk_mk,vi_mk,vs_mk,Bool.and_eq_true] at hl ⊢
   obtain ⟨hl,hb⟩:=hl
   rcases tf (k == 1) with g1 | g1
   ·rw [if_pos g1]
    rw [g1] at hb
    rcases tf (i == 1) with g | g
    ·rw [if_pos g]
     have:=eq_of_beq g;subst this
     simp +contextual (maxSteps:=10000000) only [c206,mkV,eL,g1,p1,mkT,wTrue,go_sem]
    ·rw [if_neg (by rw [g];decide)]
     have : i = 0:=by rw [g] at hb;simpa using hb
     subst this
     simp +contextual (maxSteps:=10000000) only [c206,mkV,eL,g1,p0,mkT,wFalse,go_sem]
   rw [if_neg (by rw [g1];decide)]
   rcases tf (k == 2) with g2 | g2
   ·have e2:=eq_of_beq g2;subst e2
    rw [if_pos (by decide)]
    rcases tf (decide (i < 0)) with g | g
    ·rw [if_pos g]
     simp +contextual (maxSteps:=10000000) only [c206,mkV,eL,g,pm,mkT,go_sem]
    ·rw [if_neg (by rw [g];decide)]
     simp +contextual (maxSteps:=10000000) only [c206,mkV,eL,g,mkT,go_sem]
   rw [if_neg (by rw [g2];decide)]
   rcases tf (k == 3) with g3 | g3
   ·rw [if_pos g3]
    simp +contextual (maxSteps:=10000000) only [c206,mkV,eL,g1,g3,mkT,go_sem]
   rw [if_neg (by rw [g3];decide)]
   have g4 : (k == 4) = true:=by rw [g1,g2,g3] at hl;simpa using hl
   simp +contextual (maxSteps:=10000000) only [c206,mkV,eL,g1,g3,g4,mkT,go_sem]
  ·cases h
 ·cases h
def φlitkP : List D -> Option D
 | [v]=>if v.isV = true /\ (leafP v = true ∨ (vk v == 5) = true /\ (vl v).all leafP = true /\ (vl v).length <= 2 ^ 20) then some (.sl none (litT v)) else none
 | _=>none
set_option maxHeartbeats 4000000 in
theorem ok178 : OkAt Tryz.prog 178 φlitkP:=by
 have hM : MonoH []:=.nil
 have hXX:=XG.X (P:=Tryz.prog) (u:=[]) (.cons ok87 (.cons ok206 .nil)) .nil .nil (.cons ok84 .nil)
 have hX:=XG_mono (P:=Tryz.prog) [] [(87,φsgn),(206,φlit1P)] [] [] [(84,φOwn 3 φsL)]
 refine okX_of (X:=XG Tryz.prog [] [(87,φsgn),(206,φlit1P)] [] [] [(84,φOwn 3 φsL)]) hXX fn178b fun args r h=>?_
 unfold φlitkP at h
 split at h
 ·rename_i v
  split at h
  ·rename_i hc
   obtain ⟨hv,hl⟩:=hc
   injection h with h;subst h
   refine ⟨by simp,isTks.cl (litT_tok v) _ _,fun H T=>?_⟩
   have ev:=isV_erase hv
   rcases tf (vk v == 5) with g5 | g5
   ·-- a bag
    have e5:=eq_of_beq g5
    have hlf : leaf1 v = false:=by unfold leaf1;rw [e5];rfl
    have hl : (vl v).all leafP = true /\ (vl v).length <= 2 ^ 20:=by
     rcases hl with h | h
     ·unfold leafP at h;rw [hlf] at h;cases h
     ·exact h.2
    obtain ⟨hl,hlen⟩:=hl
    have hLT : litT v = mkT 5 [91] 0 :: (cmL litT1 (vl v) ++ [mkT 5 [93] 0]):=by unfold litT;rw [hlf];rfl
    rw [hLT]
    have pO : ∀ H T,φOwn 3 φsL H T [.sl none [.str [91]]] = some (.sl (some T.length) [mkT 5 [91] 0],H,T ++ [some (1,3)]):=fun H T=>by
     have : φsL [.sl none [.str [91]]] = some [mkT 5 [91] 0]:=by
      have:=sT_sign (s:=[91]) (by decide)
      simp only [φsL,List.all_cons,List.all_nil,isStrD,sgD,List.map_cons,List.map_nil,this]
      rw [if_pos ⟨by decide,by simp,by simp⟩]
     simp only [φOwn,this];rfl
    have pc : φsgn [.str [44]] = some tC:=by rw [sign_at (by decide),sT_sign (by decide)];rfl
    have pq : φsgn [.str [93]] = some (mkT 5 [93] 0):=by rw [sign_at (by decide),sT_sign (by decide)]
    obtain ⟨k,i,s,nl,l,rfl,z,y,hV⟩:=isV_elim hv
    have eL:=erase_of_isV hV
    simp only [vk_mk] at g5 e5
    subst e5
    simp only [vl_mk] at hl hlen ⊢
    simp only [tC,mkT] at pO pc pq
    simp +contextual (maxSteps:=10000000) only [c178b,mkV,eL,pO,pc,pq,pcallG hM,mkT,go_sem]
    refine W_each l (fun j s=>s.t 14 = sliceD nl l /\ s.t 15 = .int .i64 (l.length : Int) /\ s.t 16 = .int .i64 (j : Int) /\ (∃ L,s.H = H ++ L) /\ accT 3 T (mkT 5 [91] 0 :: cmL litT1 (l.take j)) (s.t 3) s.T) hX ⟨by simp [upd],by simp [upd],by simp [upd],⟨_,rfl⟩,?_⟩ ?_ ?_
    ·have:=accT.mk 3 T (T':=T ++ [some (1,1)]) ⟨_,rfl⟩ [mkT 5 [91] 0] []
     simpa [upd,cmL,mkT] using this
    ·rintro j x ⟨t,B,U⟩ hx hm hj ⟨t14,t15,t16,⟨L,rfl⟩,hA⟩
     simp only at t14 t15 t16 hA
     have d1 : decide ((j : Int) < l.length) = true:=by simpa using hj
     have hcl:=cmL_le (f:=litT1) (b:=2) (l.take j) fun x _=>litT1_le x
     rw [List.length_take] at hcl
     have htk : isTks (mkT 5 [91] 0 :: cmL litT1 (l.take j)):=isTks.cons _ _ _ fun x hx=>by
      rcases cmL_mem hx with rfl | ⟨y,_,hy⟩
      ·exact ⟨_,_,_,rfl⟩
      ·exact litT1_tok y x hy
     have hst:=cmL_step (f:=litT1) hx
     have hxV:=hV _ hm
     have hxl:=List.all_eq_true.1 hl _ hm
     have px : φlit1P [x] = some (.sl none (litT1 x)):=by simp only [φlit1P];rw [if_pos ⟨hxV,hxl⟩]
     have hfx : isTks (litT1 x):=litT1_tok x
     have hx2:=litT1_le x
     rw [hst]
     obtain ⟨A,hAe⟩ : ∃ A,cmL litT1 (l.take j) = A:=⟨_,rfl⟩
     rw [hAe] at hA htk hcl ⊢
     clear hst hAe
     obtain ⟨Y,hY⟩ : ∃ Y,litT1 x = Y:=⟨_,rfl⟩
     rw [hY] at px hfx hx2 ⊢
     have ex:=isV_erase hxV
     obtain ⟨k',i',s',nl',l',rfl,_,_,hV'⟩:=isV_elim hxV
     have eL':=erase_of_isV hV'
     simp only [mkV] at hx px ex
     have hB : (H ++ L).length = H.length + L.length:=by simp
     rcases tf (decide ((0 : Int) < j)) with g | g
     ·have gj : 0 < j:=by simpa using g
      rw [if_pos gj]
      simp +contextual (maxSteps:=10000000) only [t14,t15,t16,d1,hx,px,eL',ex,g,pc,pcallG hM,go_sem]
      refine app_accT (bytes:=32) _ (hA.app _) rfl htk.fit (by simp;omega) (by simp;omega) fun d2 T2 hA2=>?_
      simp +contextual (maxSteps:=10000000) only [px,eL',ex,pcallG hM,go_sem]
      refine app_accT (bytes:=32) _ hA2 hfx.fit (htk.app (isTks.cons 5 [44] 0 .nil)).fit (by simp;omega) (by simp;omega) fun d3 T3 hA3=>?_
      simp +contextual (maxSteps:=10000000) only [t14,t15,t16,wrap_succ j (by omega),go_sem]
      refine ⟨⟨_,rfl⟩,?_⟩
      simpa [tC,mkT] using hA3
     ·have gj : ¬ 0 < j:=by simpa using g
      rw [if_neg gj]
      simp +contextual (maxSteps:=10000000) only [t14,t15,t16,d1,hx,px,eL',ex,g,pc,pcallG hM,go_sem]
      refine app_accT (bytes:=32) _ hA hfx.fit htk.fit (by simp;omega) (by simp;omega) fun d3 T3 hA3=>?_
      simp +contextual (maxSteps:=10000000) only [t14,t15,t16,wrap_succ j (by omega),go_sem]
      refine ⟨⟨_,rfl⟩,?_⟩
      simpa [tC,mkT] using hA3
    ·rintro ⟨t,B,U⟩ ⟨t14,t15,t16,⟨L,rfl⟩,hA⟩
     simp only at t14 t15 t16 hA
     have d1 : decide ((l.length : Int) < l.length) = false:=by simp
     rw [List.take_length] at hA
     have hcl:=cmL_le (f:=litT1) (b:=2) l fun x _=>litT1_le x
     have htk : isTks (mkT 5 [91] 0 :: cmL litT1 l):=isTks.cons _ _ _ fun x hx=>by
      rcases cmL_mem hx with rfl | ⟨y,_,hy⟩
      ·exact ⟨_,_,_,rfl⟩
      ·exact litT1_tok y x hy
     obtain ⟨A,hAe⟩ : ∃ A,cmL litT1 l = A:=⟨_,rfl⟩
     rw [hAe] at hA htk hcl ⊢
     simp +contextual (maxSteps:=10000000) only [t14,t15,t16,d1,pq,pcallG hM,go_sem]
     refine app_accT (bytes:=32) _ (hA.app _) rfl htk.fit (by simp;omega) (by simp;omega) fun d2 T2 hA2=>?_
     simp +contextual (maxSteps:=10000000) only [go_sem]
     have hq : isTks (mkT 5 [91] 0 :: A ++ [mkT 5 [93] 0]):=htk.app (isTks.cons _ _ _ .nil)
     have he:=hA2.erase hq.erase (by simp)
     exact leavesE_mk he ⟨_,rfl⟩ hA2.1
   ·have hl : leafP v = true:=by
     rcases hl with h | h
     ·exact h
     ·rw [g5] at h;exact absurd h.1 (by simp)
    have hlf : leaf1 v = true:=by unfold leafP at hl;rw [Bool.and_eq_true] at hl;exact hl.1
    have px : φlit1P [v] = some (.sl none (litT v)):=by
     simp only [φlit1P];rw [if_pos ⟨hv,hl⟩]
     unfold litT;rw [if_pos hlf]
    obtain ⟨Y,hY⟩ : ∃ Y,litT v = Y:=⟨_,rfl⟩
    have hk:=litT_tok v
    rw [hY] at px hk ⊢
    obtain ⟨k,i,s,nl,l,rfl,z,y,hV⟩:=isV_elim hv
    have eL:=erase_of_isV hV
    simp only [vk_mk] at g5
    have g5' : (k != 5) = true:=by simpa using g5
    simp only [mkV] at px ev
    simp +contextual (maxSteps:=10000000) only [c178b,mkV,eL,ev,g5,g5',px,pcallG hM,go_sem]
    exact leavesE_mk (by simp only [D.erase];rw [isTks.erase hk]) ⟨_,rfl⟩ ⟨[],by simp⟩
  ·cases h
 ·cases h
end GP
namespace GP
open Go Go.Proofs
set_option maxRecDepth 100000
theorem leafP_of {v : D} (h1 : one1 v = true) (h2 : leaf1 v = true) : leafP v = true:=by
 unfold leafP
 rw [h2,Bool.true_and]
 rcases tf (vk v == 1) with g | g
 ·have e : vk v = 1:=by simpa using g
  unfold one1 plainB at h1
  rw [e] at h1
  rw [g]
  split at h1
  ·cases h1
  split at h1
  ·cases h1
  have h1 : (vi v == 0 || vi v == 1) = true:=h1
  simpa using h1
 ·rw [g];rfl
theorem valB_domP {v : D} (h : valB v = true) : leafP v = true ∨ (vk v == 5) = true /\ (vl v).all leafP = true /\ (vl v).length <= 2 ^ 20:=by
 unfold valB at h
 split at h
 ·cases h
 ·rename_i hf
  simp only [Bool.not_eq_true',Bool.not_eq_false] at hf
  unfold formedB at hf
  split at h
  ·rename_i hk
   rw [if_pos hk] at hf
   exact .inl (leafP_of hf (litB_leaf h))
  ·rename_i hk
   rw [if_neg hk] at hf
   split at hf
   ·cases hf
   ·rename_i hq
    simp only [Bool.and_eq_true] at h
    simp only [Bool.or_eq_true,decide_eq_true_eq,not_or] at hq
    exact .inr ⟨by simpa using hk,List.all_eq_true.2 fun x hx=>leafP_of (el_one hf x hx) (litB_leaf (List.all_eq_true.1 h.1 x hx)),by omega⟩
theorem cat2 {xs ys : List D} (hx : isTks xs) (hy : isTks ys) (h : xs.length + ys.length <= 2 ^ 40) (h0 : xs ≠ []) : φcat 3 32 [.sl none [.sl none xs,.sl none ys]] = some (.sl none (xs ++ ys)):=by
 have eC : catD [.sl none xs,.sl none ys] = xs ++ ys:=by
  simp only [catD,List.map_cons,List.map_nil,List.flatten_cons,List.flatten_nil,List.append_nil];rfl
 have:=cat_at (ls:=[.sl none xs,.sl none ys]) (fun y hy=>by
  simp only [List.mem_cons,List.not_mem_nil,or_false] at hy
  rcases hy with rfl | rfl <;> exact sl_none _) (by rw [eC];exact hx.app hy) (by rw [eC];simpa using h) (by simp)
 rw [this,eC]
 cases xs with
 | nil=>exact (h0 rfl).elim
 | cons a l=>rfl
theorem cat3 {xs ys zs : List D} (hx : isTks xs) (hy : isTks ys) (hz : isTks zs) (h : xs.length + (ys.length + zs.length) <= 2 ^ 40) (h0 : ys ≠ []) : φcat 3 32 [.sl none [.sl none xs,.sl none ys,.sl none zs]] = some (.sl none (xs ++ (ys ++ zs))):=by
 have eC : catD [.sl none xs,.sl none ys,.sl none zs] = xs ++ (ys ++ zs):=by
  simp only [catD,List.map_cons,List.map_nil,List.flatten_cons,List.flatten_nil,List.append_nil];rfl
 have:=cat_at (ls:=[.sl none xs,.sl none ys,.sl none zs]) (fun y hy=>by
  simp only [List.mem_cons,List.not_mem_nil,or_false] at hy
  rcases hy with rfl | rfl | rfl <;> exact sl_none _) (by rw [eC];exact hx.app (hy.app hz)) (by rw [eC];simpa using h) (by simp)
 rw [this,eC]
 have : xs ++ (ys ++ zs) ≠ []:=by simp [h0]
 unfold sliceD
 cases hq : xs ++ (ys ++ zs) with
 | nil=>exact (this hq).elim
 | cons a l=>rfl
theorem around_at {xs : List D} (hx : isTks xs) (h : xs.length <= 2 ^ 39) : φaround [.sl none xs] = some (.sl none (tP :: (xs ++ [tQ]))):=by
 simp only [φaround]
 rw [if_pos ⟨rfl,hx,h⟩];rfl
theorem sT_who {s : List UInt8} (h : inB whoW s = true) : signT s = mkT 1 s 0:=by
 refine sT_word ?_
 unfold inB at h
 obtain ⟨w,hw,e⟩:=List.any_eq_true.1 h
 have e : w = s:=by simpa using e
 subst e
 have key : ∀ w ∈ whoW,formI 1 w 0 = true:=by decide
 exact key w hw
theorem sT_name {s : List UInt8} (h : nameB s = true) : signT s = mkT 1 s 0:=by
 refine sT_word ?_
 unfold nameB at h
 simp only [Bool.and_eq_true] at h
 exact h.1
open Classical in
noncomputable def φleafF (n : Nat) : List D -> Option D
 | [e]=>if isE n e /\ GoodE e /\ eps e = [] then some (.sl none (tkC false e)) else none
 | _=>none
set_option maxHeartbeats 4000000 in
theorem ok125 (n : Nat) : OkAt Tryz.prog 125 (φleafF n):=by
 refine ok_of (l:=[(178,φlitkP),(84,φsP),(124,φaround),(85,φcat 3 32)]) (.cons ok178 (.cons tok84 (.cons ok124 (.cons ok85 .nil)))) fn125 fun args r h=>?_
 unfold φleafF at h
 split at h
 ·rename_i e
  split at h
  ·rename_i hc
   obtain ⟨he,hg,h0⟩:=hc
   injection h with h;subst h
   have hk : isTks (tkC false e):=tokD_tok _ false e
   refine ⟨by simp,hk.cl _ _,fun H T=>?_⟩
   obtain ⟨n',rfl⟩:=isE_pos he
   have ee:=isE_erase he
   have hT:=hg.parts.2.2.2
   have tv:=tk_val (full:=false) hg
   have tn:=tk_now (full:=false) hg
   have ta:=tk_attr (full:=false) hg
   have th:=tk_has (full:=false) hg
   have tr:=tk_role (full:=false) hg
   have hop:=hg.op
   have ho1:=hg.one
   have ho2:=hg.two
   have hfv:=fmTop_val hT
   have hfr:=fm_rest hT
   rw [h0] at ho1 ho2
   obtain ⟨Z,hZ⟩ : ∃ z,tkC false e = z:=⟨_,rfl⟩
   rw [hZ] at hk tv tn ta th tr ⊢
   clear hZ hT hg
   obtain ⟨op,k,i,t,nl,l,who,name,m,ps,rfl,h1,h2,h3,h4,h5,h6,eL,eP⟩:=isE_elim he
   simp only [eop_mk,ewho_mk,ename_mk,eV_mk] at tv tn ta th tr hop ho1 ho2 hfv hfr
   have hke:=hk.erase
   rcases hop with g | g | g | g | g | g | g | g | g
   ·have a1 : (op == [118,97,108,117,101]) = true:=g
    have p : φlitkP [mkV k i t nl l] = some (.sl none Z):=by
     simp only [φlitkP]
     rw [if_pos ⟨h4.1,valB_domP (hfv g).1⟩,tv g]
    simp only [mkV] at p
    simp +contextual (maxSteps:=10000000) only [c125,mkE,ee,eL,eP,a1,p,hke,go_sem]
   ·have e:=eq_of_beq' g
    have a1 : (op == [118,97,108,117,101]) = false:=by rw [e];decide
    have a2 : (op == [110,111,119]) = true:=g
    have p:=p_sg (a:=[110,111,119]) 1 (by decide) (sT_word (by decide))
    rw [tn g] at hke ⊢
    simp +contextual (maxSteps:=10000000) only [c125,mkE,ee,eL,eP,a1,a2,p,hke,mkT,sNow,go_sem]
   ·have e:=eq_of_beq' g
    have a1 : (op == [118,97,108,117,101]) = false:=by rw [e];decide
    have a2 : (op == [110,111,119]) = false:=by rw [e];decide
    have a3 : (op == [114,111,108,101]) = false:=by rw [e];decide
    have a4 : (op == [104,97,115]) = false:=by rw [e];decide
    obtain ⟨w1,w2⟩:=(hfr (by rw [e];decide)).2.2.1 (.inl g)
    have p:=sg3 (a:=who) (b:=[46]) (c:=name) h2 (by decide) h3
    rw [sT_who w1,sT_name w2,sT_sign (s:=[46]) (by decide),← ta g] at p
    simp +contextual (maxSteps:=10000000) only [c125,mkE,ee,eL,eP,a1,a2,a3,a4,p,hke,go_sem]
   ·have e:=eq_of_beq' g
    have a1 : (op == [118,97,108,117,101]) = false:=by rw [e];decide
    have a2 : (op == [110,111,119]) = false:=by rw [e];decide
    have a3 : (op == [114,111,108,101]) = false:=by rw [e];decide
    have a4 : (op == [104,97,115]) = true:=g
    obtain ⟨w1,w2⟩:=(hfr (by rw [e];decide)).2.2.1 (.inr g)
    have p:=sg3 (a:=who) (b:=[46]) (c:=name) h2 (by decide) h3
    rw [sT_who w1,sT_name w2,sT_sign (s:=[46]) (by decide)] at p
    have p1:=p_sg (a:=[104,97,115]) 1 (by decide) (sT_word (by decide))
    have k3 : isTks [mkT 1 who 0,mkT 5 [46] 0,mkT 1 name 0]:=isTks.cons _ _ _ (isTks.cons _ _ _ (isTks.cons _ _ _ .nil))
    have p2:=around_at k3 (by simp)
    have p3:=cat2 (xs:=[mkT 1 [104,97,115] 0]) (isTks.cons _ _ _ .nil) (isTks.cons 5 [40] 0 (k3.app (isTks.cons 5 [41] 0 .nil))) (by simp) (by simp)
    have e3 : [mkT 1 [104,97,115] 0] ++ mkT 5 [40] 0 :: ([mkT 1 who 0,mkT 5 [46] 0,mkT 1 name 0] ++ [mkT 5 [41] 0]) = Z:=(th g).symm
    rw [e3] at p3
    simp only [tP,tQ,mkT,List.cons_append,List.nil_append] at p p2 p3
    simp +contextual (maxSteps:=10000000) only [c125,mkE,ee,eL,eP,a1,a2,a3,a4,p,p1,p2,p3,hke,go_sem]
   ·have e:=eq_of_beq' g
    have a1 : (op == [118,97,108,117,101]) = false:=by rw [e];decide
    have a2 : (op == [110,111,119]) = false:=by rw [e];decide
    have a3 : (op == [114,111,108,101]) = true:=g
    have p1:=p_sg (a:=[114,111,108,101]) 1 (by decide) (sT_word (by decide))
    have k3 : isTks [mkT 3 name 0]:=isTks.cons _ _ _ .nil
    have p2:=around_at k3 (by simp)
    have p3:=cat2 (xs:=[mkT 1 [114,111,108,101] 0]) (isTks.cons _ _ _ .nil) (isTks.cons 5 [40] 0 (k3.app (isTks.cons 5 [41] 0 .nil))) (by simp) (by simp)
    have e3 : [mkT 1 [114,111,108,101] 0] ++ mkT 5 [40] 0 :: ([mkT 3 name 0] ++ [mkT 5 [41] 0]) = Z:=(tr g).symm
    rw [e3] at p3
    simp only [tP,tQ,mkT,List.cons_append,List.nil_append] at p2 p3
    simp +contextual (maxSteps:=10000000) only [c125,mkE,ee,eL,eP,a1,a2,a3,p1,p2,p3,hke,go_sem]
   ·obtain ⟨_,x,h,_⟩:=ho1 (.inl g);cases h
   ·obtain ⟨_,x,h,_⟩:=ho1 (.inr (.inl g));cases h
   ·obtain ⟨_,x,h,_⟩:=ho1 (.inr (.inr g));cases h
   ·obtain ⟨_,_,_,_,h⟩:=ho2 g;cases h
  ·cases h
 ·cases h
end GP
namespace GP
open Go Go.Proofs
set_option maxRecDepth 100000
noncomputable def prtT (op : List UInt8) (ps : List D) (j : Nat) : List D:=parW false (stI (eop (ps.getD j .top))) ((lsOf op).getD j 0) (tkC false (ps.getD j .top))
noncomputable def prtD (op : List UInt8) (ps : List D) (j : Nat) : D:=.sl none (prtT op ps j)
theorem prtT_tok (op : List UInt8) (ps : List D) (j : Nat) : isTks (prtT op ps j):=parW_tok (tokD_tok _ false _)
theorem tkC_tok (full : Bool) (e : D) : isTks (tkC full e):=tokD_tok _ full e
theorem sub_le {e x : D} (hg : GoodE e) (hx : x ∈ eps e) : (tkC false x).length <= (tkC false e).length:=by
 have h0 : ∀ w,eop e = w -> arN w = 0 -> eps e = []:=fun w h1 h2=>eps_nil hg (by rw [h1];exact h2)
 rcases hg.op with g | g | g | g | g | g | g | g | g
 ·rw [h0 _ (eq_of_beq' g) (by decide)] at hx;cases hx
 ·rw [h0 _ (eq_of_beq' g) (by decide)] at hx;cases hx
 ·rw [h0 _ (eq_of_beq' g) (by decide)] at hx;cases hx
 ·rw [h0 _ (eq_of_beq' g) (by decide)] at hx;cases hx
 ·rw [h0 _ (eq_of_beq' g) (by decide)] at hx;cases hx
 ·obtain ⟨_,y,hy,hs⟩:=hg.one (.inl g)
  rw [hy] at hx
  have : x = sub0 e:=by rw [hs];simpa using hx
  rw [tk_size hg g,this];simp;omega
 ·obtain ⟨_,y,hy,hs⟩:=hg.one (.inr (.inl g))
  rw [hy] at hx
  have : x = sub0 e:=by rw [hs];simpa using hx
  have hl:=parW_le false (stI (eop (sub0 e))) 2 (tkC false (sub0 e))
  rw [tk_not hg g,this];simp;omega
 ·obtain ⟨_,y,hy,hs⟩:=hg.one (.inr (.inr g))
  rw [hy] at hx
  have : x = sub0 e:=by rw [hs];simpa using hx
  have hl:=parW_le false (stI (eop (sub0 e))) 6 (tkC false (sub0 e))
  rw [tk_neg hg g,this];simp;omega
 ·obtain ⟨_,_,_,_,hy⟩:=hg.two g
  rw [hy] at hx
  have l0:=parW_le false (stI (eop (sub0 e))) (lstS (eop e)) (tkC false (sub0 e))
  have l1:=parW_le false (stI (eop (sub1 e))) (stI (eop e) + 1) (tkC false (sub1 e))
  have : x = sub0 e ∨ x = sub1 e:=by simpa using hx
  rw [tk_two hg g]
  rcases this with h | h <;> rw [h] <;> simp <;> omega
theorem sT_op {op : List UInt8} (h : isOp2 op) : signT op = opTok op:=by
 have key : ∀ w ∈ ops2,formI 1 w 0 = inB opW w:=by decide
 unfold signT opTok
 rw [key op (ops2_of h)]
open Classical in
noncomputable def φxpr (n : Nat) : List D -> Option D
 | [e]=>if isE n e /\ GoodE e /\ (tkC false e).length <= 2 ^ 30 then some (.sl none (tkC false e)) else none
 | _=>none
noncomputable abbrev xs75 (n : Nat) : Fs:=[(75,φxpr n),(76,φbinds),(84,φsP),(85,φcat 3 32),(124,φaround),(125,φleafF (n + 1))]
set_option maxHeartbeats 16000000 in
theorem ok75 : ∀ n,OkAt Tryz.prog 75 (φxpr n)
 | 0=>fun args r h=>by
  unfold φxpr at h
  split at h
  ·split at h
   ·rename_i h';exact h'.1.elim
   ·cases h
  ·cases h
 | n + 1=>by
  have hX:=XL_mono (xs75 n)
  refine ok_of (l:=xs75 n) (.cons (ok75 n) (.cons ok76 (.cons tok84 (.cons ok85 (.cons ok124 (.cons (ok125 (n + 1)) .nil)))))) fn75 fun args r h=>?_
  unfold φxpr at h
  split at h
  ·rename_i e
   split at h
   ·rename_i hc
    obtain ⟨he,hg,hlen⟩:=hc
    injection h with h;subst h
    have hk:=tkC_tok false e
    refine ⟨by simp,hk.cl _ _,fun H T=>?_⟩
    have ee:=isE_erase he
    obtain ⟨f1,f2,f3,f4⟩:=hg.parts
    have ks:=isE_eps he
    have hlsl:=ls_len f1
    rw [<- f2] at hlsl
    have hlsl : (lsOf (eop e)).length = (eps e).length:=by exact_mod_cast hlsl
    have hpl : (eps e).length <= 2:=by
     have : arN (eop e) <= 2:=by unfold arN;(repeat' split) <;> omega
     omega
    have hsl:=fun x (hx : x ∈ eps e)=>sub_le hg hx
    have p125 : eps e = [] -> φleafF (n + 1) [e] = some (.sl none (tkC false e)):=fun h=>by
     simp only [φleafF];rw [if_pos ⟨he,hg,h⟩]
    have hop:=hg.op
    have t0 : ∀ w,eop e = w -> arN w = 0 -> eps e = []:=fun w h1 h2=>eps_nil hg (by rw [h1];exact h2)
    have ho1:=hg.one
    have ho2:=hg.two
    have tsz:=tk_size (full:=false) hg
    have tnt:=tk_not (full:=false) hg
    have tng:=tk_neg (full:=false) hg
    have ttw:=tk_two (full:=false) hg
    have hP0 : prtT (eop e) (eps e) 0 = parW false (stI (eop (sub0 e))) ((lsOf (eop e)).getD 0 0) (tkC false (sub0 e)):=rfl
    have hP1 : prtT (eop e) (eps e) 1 = parW false (stI (eop (sub1 e))) ((lsOf (eop e)).getD 1 0) (tkC false (sub1 e)):=rfl
    have hk0:=prtT_tok (eop e) (eps e) 0
    have hk1:=prtT_tok (eop e) (eps e) 1
    obtain ⟨s0,hs0⟩ : ∃ z,sub0 e = z:=⟨_,rfl⟩
    obtain ⟨s1,hs1⟩ : ∃ z,sub1 e = z:=⟨_,rfl⟩
    rw [hs0] at hP0 tsz tnt tng ttw ho1 ho2
    rw [hs1] at hP1 ttw ho2
    obtain ⟨Z,hZ⟩ : ∃ z,tkC false e = z:=⟨_,rfl⟩
    rw [hZ] at hk hlen hsl p125 tsz tnt tng ttw ⊢
    have hke:=hk.erase
    clear hZ hs0 hs1 hg
    obtain ⟨op,k,i,t,nl,l,who,name,m,ps,rfl,h1,h2,h3,h4,h5,h6,eL,eP⟩:=isE_elim he
    simp only [eop_mk,eps_mk] at f1 f2 f3 ks hlsl hpl hsl p125 hop t0 ho1 ho2 tsz tnt tng ttw hP0 hP1 hk0 hk1
    have p76 : φbinds [.str op] = some (.tup [.int .i64 (stI op),sliceD true ((lsOf op).map (D.int .i64))]):=rfl
    obtain ⟨LS,hLS⟩ : ∃ z,(lsOf op).map (D.int .i64) = z:=⟨_,rfl⟩
    rw [hLS] at p76
    obtain ⟨st,hst⟩ : ∃ z,stI op = z:=⟨_,rfl⟩
    rw [hst] at p76
    have e0:=hk0.erase
    have e1:=hk1.erase
    simp +contextual (maxSteps:=10000000) only [c75,mkE,p76,ee,eL,eP,go_sem]
    refine W_each ps (fun j s=>s.t 1 = .ptr H.length 0 /\ s.t 4 = sliceD true LS /\ s.t 18 = sliceD m ps /\ s.t 19 = .int .i64 (ps.length : Int) /\ s.t 20 = .int .i64 (j : Int) /\ (∃ L,s.H = H ++ .row (mkE op k i t nl l who name m ps).cells :: L) /\ accT 1 T ((List.range j).map (prtD op ps)) (s.t 5) s.T) hX ⟨by simp [upd,argT],by simp [upd],by simp [upd],by simp [upd],by simp [upd],⟨[],by simp [mkE,D.cells]⟩,by simpa [upd] using accT.nil 1 T (ExtT.refl _)⟩ ?_ ?_
    ·rintro j x ⟨t',B,U⟩ hx hm hj ⟨t1,t4,t18,t19,t20,⟨L,rfl⟩,hA⟩
     simp only at t1 t4 t18 t19 t20 hA
     have d1 : decide ((j : Int) < ps.length) = true:=by simpa using hj
     obtain ⟨lv,hlv⟩ : ∃ lv,(lsOf op)[j]? = some lv:=⟨_,List.getElem?_eq_getElem (by omega)⟩
     have xL : LS[j]? = some (.int .i64 lv):=by rw [<- hLS,List.getElem?_map,hlv];rfl
     have hxE:=ks x hm
     have hxG:=f3 x hm
     have hxl:=hsl x hm
     have px : φxpr n [x] = some (.sl none (tkC false x)):=by
      simp only [φxpr];rw [if_pos ⟨hxE,hxG,by omega⟩]
     have nx : (List.range (j + 1)).map (prtD op ps) = (List.range j).map (prtD op ps) ++ [prtD op ps j]:=by
      rw [List.range_succ,List.map_append];rfl
     have eqp : prtD op ps j = .sl none (parW false (stI (eop x)) lv (tkC false x)):=by
      unfold prtD prtT
      rw [List.getD_eq_getElem?_getD,List.getD_eq_getElem?_getD,hx,hlv];rfl
     have hfA : ((List.range j).map (prtD op ps)).all (fit 1) = true:=List.all_eq_true.2 fun y hy=>by
      obtain ⟨z,_,rfl⟩:=List.mem_map.1 hy;rfl
     have hAl : ((List.range j).map (prtD op ps)).length <= 2:=by simp;omega
     rw [nx,eqp]
     have hkx:=tkC_tok false x
     have hxl2 : (tkC false x).length <= 2 ^ 39:=by omega
     have pa:=around_at hkx hxl2
     have p76x : φbinds [.str (eop x)] = some (.tup [.int .i64 (stI (eop x)),lsD (eop x)]):=rfl
     generalize (List.range j).map (prtD op ps) = A at hA hfA hAl ⊢
     clear nx eqp
     obtain ⟨X,hXe⟩ : ∃ z,tkC false x = z:=⟨_,rfl⟩
     rw [hXe] at px hkx pa ⊢
     have ekx:=hkx.erase
     obtain ⟨sx,hsx⟩ : ∃ z,stI (eop x) = z:=⟨_,rfl⟩
     obtain ⟨lx,hlx⟩ : ∃ z,lsD (eop x) = z:=⟨_,rfl⟩
     rw [hsx,hlx] at p76x
     rw [hsx]
     clear hXe hsx hlx hxG
     obtain ⟨n',rfl⟩:=isE_pos hxE
     have exx:=isE_erase hxE
     obtain ⟨op',k',i',u',nl',l',who',name',m',ps',rfl,_,_,_,_,_,_,eL',eP'⟩:=isE_elim hxE
     simp only [eop_mk] at p76x
     simp only [mkE] at hx px exx
     simp only [tP,tQ,mkT] at pa
     rcases tf (decide (sx < lv)) with g | g
     ·have eW : parW false sx lv X = tP :: (X ++ [tQ]):=by
       unfold parW;rw [if_neg]
       simp only [decide_eq_true_eq] at g
       simp;omega
      rw [eW]
      simp +contextual (maxSteps:=10000000) only [t1,t4,t18,t19,t20,d1,hx,px,exx,eL',eP',p76x,xL,g,pa,ekx,go_sem]
      refine app_accT (bytes:=24) _ (hA.app _) rfl hfA (by simp;omega) (by simp;omega) fun d2 T2 hA2=>?_
      simp +contextual (maxSteps:=10000000) only [t1,t4,t18,t19,t20,wrap_succ j (by omega),go_sem]
      exact ⟨⟨_,rfl⟩,hA2⟩
     ·have eW : parW false sx lv X = X:=by
       unfold parW;rw [if_pos]
       simp only [decide_eq_false_iff_not] at g
       simp;omega
      rw [eW]
      simp +contextual (maxSteps:=10000000) only [t1,t4,t18,t19,t20,d1,hx,px,exx,eL',eP',p76x,xL,g,ekx,go_sem]
      refine app_accT (bytes:=24) _ (hA.app _) rfl hfA (by simp;omega) (by simp;omega) fun d2 T2 hA2=>?_
      simp +contextual (maxSteps:=10000000) only [t1,t4,t18,t19,t20,wrap_succ j (by omega),go_sem]
      exact ⟨⟨_,rfl⟩,hA2⟩
    ·rintro ⟨t',B,U⟩ ⟨t1,t4,t18,t19,t20,⟨L,rfl⟩,hA⟩
     simp only at t1 t4 t18 t19 t20 hA
     have d1 : decide ((ps.length : Int) < ps.length) = false:=by simp
     obtain ⟨⟨M,rfl⟩,hA⟩:=hA
     have hrow : (H ++ Ob.row [.str op,.int .i64 k,.int .i64 i,.str t,sliceD nl l,.str who,.str name,sliceD m ps] :: L)[H.length]? = some (.row [.str op,.int .i64 k,.int .i64 i,.str t,sliceD nl l,.str who,.str name,sliceD m ps]):=by simp
     have fin0 : ps = [] -> (t' 5 = .nils ∨ ∃ τ,t' 5 = .sl (some τ) []):=fun hps=>by
      rw [hps] at hA
      rcases hA with ⟨_,h⟩ | ⟨τ,_,h,_⟩
      ·exact .inl h
      ·exact .inr ⟨τ,h⟩
     have fin1 : ∀ xs : List D,(List.range ps.length).map (prtD op ps) = xs -> xs ≠ [] -> ∃ τ,t' 5 = .sl (some τ) xs:=fun xs h h0=>by
      rw [h] at hA
      rcases hA with ⟨h,_⟩ | ⟨τ,_,h,_⟩
      ·exact (h0 h).elim
      ·exact ⟨τ,h⟩
     by_cases hps : ps = []
     ·have p125:=p125 hps
      simp only [mkE] at p125
      rcases fin0 hps with h5 | ⟨τ,h5⟩
      ·simp +contextual (maxSteps:=10000000) only [d1,t1,t18,t19,t20,h5,hrow,p125,hke,mkE,D.cells,ee,eL,eP,go_sem]
      ·simp +contextual (maxSteps:=10000000) only [d1,t1,t18,t19,t20,h5,hrow,p125,hke,mkE,D.cells,ee,eL,eP,go_sem]
     have hne : ∀ w,op = w -> arN w ≠ 0:=fun w h h'=>hps (t0 w h h')
     rcases hop with g | g | g | g | g | g | g | g | g
     ·exact (hne _ (eq_of_beq' g) (by decide)).elim
     ·exact (hne _ (eq_of_beq' g) (by decide)).elim
     ·exact (hne _ (eq_of_beq' g) (by decide)).elim
     ·exact (hne _ (eq_of_beq' g) (by decide)).elim
     ·exact (hne _ (eq_of_beq' g) (by decide)).elim
     ·obtain ⟨hg0,y,hy,hs⟩:=ho1 (.inl g)
      have e:=eq_of_beq' g
      have a1 : (op == [115,105,122,101]) = true:=g
      have hP : prtT op ps 0 = tkC false s0:=by
       rw [hP0,show (lsOf op).getD 0 0 = 0 by rw [e];decide]
       unfold parW;rw [if_pos]
       have:=hg0.parts.1
       simpa using this
      have hl : (List.range ps.length).map (prtD op ps) = [.sl none (prtT op ps 0)]:=by rw [hy];rfl
      obtain ⟨τ,h5⟩:=fin1 _ hl (by simp)
      have hZ:=tsz g
      rw [<- hP] at hZ
      obtain ⟨P,hPe⟩ : ∃ z,prtT op ps 0 = z:=⟨_,rfl⟩
      rw [hPe] at hZ h5 hk0 e0
      have hZl : P.length + 3 = Z.length:=by rw [hZ];simp
      have p84:=p_sg (a:=[115,105,122,101]) 1 (by decide) (sT_word (by decide))
      have p124:=around_at hk0 (by omega)
      have p85:=cat2 (xs:=[mkT 1 [115,105,122,101] 0]) (isTks.cons _ _ _ .nil) (isTks.cons 5 [40] 0 (hk0.app (isTks.cons 5 [41] 0 .nil))) (by simp;omega) (by simp)
      have e3 : [mkT 1 [115,105,122,101] 0] ++ mkT 5 [40] 0 :: (P ++ [mkT 5 [41] 0]) = Z:=hZ.symm
      rw [e3] at p85
      have e0':=(hk0.app (isTks.cons 5 [41] 0 .nil)).erase
      simp only [tP,tQ,mkT] at p124 p85 e0'
      simp +contextual (maxSteps:=10000000) only [d1,t1,t18,t19,t20,h5,hrow,a1,p84,p124,p85,e0,e0',hke,mkE,D.cells,ee,eL,eP,go_sem]
     ·obtain ⟨hg0,y,hy,hs⟩:=ho1 (.inr (.inl g))
      have e:=eq_of_beq' g
      have a1 : (op == [115,105,122,101]) = false:=by rw [e];decide
      have a2 : (op == [110,101,103]) = false:=by rw [e];decide
      have a3 : (op == [110,111,116]) = true:=g
      have hl : (List.range ps.length).map (prtD op ps) = [.sl none (prtT op ps 0)]:=by rw [hy];rfl
      obtain ⟨τ,h5⟩:=fin1 _ hl (by simp)
      have hZ:=tnt g
      rw [show (2 : Int) = (lsOf op).getD 0 0 by rw [e];decide,← hP0] at hZ
      obtain ⟨P,hPe⟩ : ∃ z,prtT op ps 0 = z:=⟨_,rfl⟩
      rw [hPe] at hZ h5 hk0 e0
      have hZl : P.length + 1 = Z.length:=by rw [hZ];simp
      have p84:=p_sg (a:=[110,111,116]) 1 (by decide) (sT_word (by decide))
      have p85:=cat2 (xs:=[mkT 1 [110,111,116] 0]) (isTks.cons _ _ _ .nil) hk0 (by simp;omega) (by simp)
      have e3 : [mkT 1 [110,111,116] 0] ++ P = Z:=hZ.symm
      rw [e3] at p85
      simp only [mkT] at p85
      simp +contextual (maxSteps:=10000000) only [d1,t1,t18,t19,t20,h5,hrow,a1,a2,a3,p84,p85,e0,hke,mkE,D.cells,ee,eL,eP,go_sem]
     ·obtain ⟨hg0,y,hy,hs⟩:=ho1 (.inr (.inr g))
      have e:=eq_of_beq' g
      have a1 : (op == [115,105,122,101]) = false:=by rw [e];decide
      have a2 : (op == [110,101,103]) = true:=g
      have hl : (List.range ps.length).map (prtD op ps) = [.sl none (prtT op ps 0)]:=by rw [hy];rfl
      obtain ⟨τ,h5⟩:=fin1 _ hl (by simp)
      have hZ:=tng g
      rw [show (6 : Int) = (lsOf op).getD 0 0 by rw [e];decide,← hP0] at hZ
      obtain ⟨P,hPe⟩ : ∃ z,prtT op ps 0 = z:=⟨_,rfl⟩
      rw [hPe] at hZ h5 hk0 e0
      have hZl : P.length + 1 = Z.length:=by rw [hZ];simp
      have p84:=p_sg (a:=[45]) 5 (by decide) (sT_sign (by decide))
      have p85:=cat2 (xs:=[mkT 5 [45] 0]) (isTks.cons _ _ _ .nil) hk0 (by simp;omega) (by simp)
      have e3 : [mkT 5 [45] 0] ++ P = Z:=hZ.symm
      rw [e3] at p85
      simp only [mkT] at p85
      simp +contextual (maxSteps:=10000000) only [d1,t1,t18,t19,t20,h5,hrow,a1,a2,p84,p85,e0,hke,mkE,D.cells,ee,eL,eP,go_sem]
     ·obtain ⟨_,_,_,_,hy⟩:=ho2 g
      obtain ⟨_,_,_,_,_,g6,g7,g8⟩:=op2_not g
      have a1 : (op == [115,105,122,101]) = false:=g6
      have a2 : (op == [110,101,103]) = false:=g8
      have a3 : (op == [110,111,116]) = false:=g7
      have hl : (List.range ps.length).map (prtD op ps) = [.sl none (prtT op ps 0),.sl none (prtT op ps 1)]:=by rw [hy];rfl
      obtain ⟨τ,h5⟩:=fin1 _ hl (by simp)
      have hZ:=ttw g
      have q0 : (lsOf op).getD 0 0 = lstS op:=by rw [ls_two g];rfl
      have q1 : (lsOf op).getD 1 0 = stI op + 1:=by rw [ls_two g];rfl
      rw [<- q0,← q1,← hP0,← hP1,← sT_op g] at hZ
      obtain ⟨P,hPe⟩ : ∃ z,prtT op ps 0 = z:=⟨_,rfl⟩
      obtain ⟨P',hPe'⟩ : ∃ z,prtT op ps 1 = z:=⟨_,rfl⟩
      rw [hPe] at hZ h5 hk0 e0
      rw [hPe'] at hZ h5 hk1 e1
      have hZl : P.length + (P'.length + 1) = Z.length:=by rw [hZ];simp
      have p84:=sg1 h1
      obtain ⟨kk,nn,hT⟩:=signT_tok op
      rw [hT] at p84 hZ
      have p85:=cat3 (ys:=[mkT kk op nn]) hk0 (isTks.cons _ _ _ .nil) hk1 (by simp;omega) (by simp)
      have e3 : P ++ ([mkT kk op nn] ++ P') = Z:=hZ.symm
      rw [e3] at p85
      simp only [mkT] at p84 p85
      simp +contextual (maxSteps:=10000000) only [d1,t1,t18,t19,t20,h5,hrow,a1,a2,a3,p84,p85,e0,e1,hke,mkE,D.cells,ee,eL,eP,go_sem]
   ·cases h
  ·cases h
end GP
