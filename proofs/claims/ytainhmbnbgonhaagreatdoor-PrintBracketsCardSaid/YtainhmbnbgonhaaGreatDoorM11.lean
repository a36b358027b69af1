import Derived.JoinedOf
import Derived.LaidHandle
import Derived.LaidSub
import Derived.Lay
import Derived.MakeChecks
import Derived.SevenTiedAt
import Derived.Stop.LaidErr
import Derived.Test.YtainhmbnbgonhaaGreatDoorCards
import Derived.Test.YtainhmbnbgonhaaGreatDoorTie
import Derived.Test.YtainhmbnbgonhaaGreatDoorM6
import Derived.Test.YtainhmbnbgonhaaGreatDoorM10
set_option linter.unusedSimpArgs false
set_option linter.unnecessarySimpa false
namespace GP
open Go Go.Proofs
set_option maxRecDepth 100000
def isTr (x : D) : Prop:=∃ n,isE n x
theorem sub_size {op : List UInt8} {k i : Int} {s : List UInt8} {nl : Bool} {l : List D} {who name : List UInt8} {m : Bool} {ps : List D} {y : D} (h : y ∈ ps) : sizeOf y < sizeOf (mkE op k i s nl l who name m ps):=by
 have h1:=List.sizeOf_lt_of_mem h
 have h2 : sliceD m ps = .sl none ps:=by
  rcases sliceD_cases m ps with ⟨_,e⟩ | e
  ·subst e;cases h
  ·exact e
 simp only [mkE,h2,D.agg.sizeOf_spec,List.cons.sizeOf_spec,D.sl.sizeOf_spec]
 omega
theorem isE_can : ∀ (n : Nat) (x : D),isE n x -> isE (sizeOf x) x
 | 0,_,h=>h.elim
 | n + 1,x,⟨op,k,i,s,nl,l,who,name,m,ps,e,h1,h2,h3,h4,h5,h6⟩=>by
  obtain ⟨z,hz⟩ : ∃ z,sizeOf x = z + 1:=⟨sizeOf x - 1,by subst e;simp only [mkE,D.agg.sizeOf_spec];omega⟩
  rw [hz]
  refine ⟨op,k,i,s,nl,l,who,name,m,ps,e,h1,h2,h3,h4,h5,fun y hy=>?_⟩
  have:=sub_size (op:=op) (k:=k) (i:=i) (s:=s) (nl:=nl) (l:=l) (who:=who) (name:=name) (m:=m) hy
  rw [<- e,hz] at this
  exact isE_le (by omega) (isE_can n y (h6 y hy))
theorem isTr.can {x : D} (h : isTr x) : isE (sizeOf x) x:=by obtain ⟨n,hn⟩:=h;exact isE_can n x hn
theorem all_congr' {f g : D -> Bool} {l : List D} (h : ∀ x ∈ l,f x = g x) : l.all f = l.all g:=by
 induction l with
 | nil=>rfl
 | cons x l ih=>simp only [List.all_cons,h x (by simp),ih fun y hy=>h y (by simp [hy])]
theorem fmR_S : ∀ (n : Nat) (e : D),isE n e -> fmR (n + 1) e = fmR n e
 | 0,_,h=>h.elim
 | n + 1,e,h=>by
  have:=all_congr' fun x hx=>fmR_S n x (isE_eps h x hx)
  show (if _ then false else if !((eps e).all (fmR (n + 1))) then false else fmTop e) = (if _ then false else if !((eps e).all (fmR n)) then false else fmTop e)
  simp only [this]
theorem fmR_fuel {n m : Nat} {e : D} (h : isE n e) (hm : n <= m) : fmR m e = fmR n e:=by
 induction hm with
 | refl=>rfl
 | step hm ih=>rw [fmR_S _ e (isE_le hm h),ih]
noncomputable def fmC (x : D) : Bool:=fmR (sizeOf x) x
theorem fmC_eq {n : Nat} {e : D} (h : isE n e) : fmR n e = fmC e:=by
 unfold fmC
 rw [<- fmR_fuel h (Nat.le_max_left n (sizeOf e)),fmR_fuel (isE_can n e h) (Nat.le_max_right n (sizeOf e))]
structure GoodE (e : D) : Prop where
 t : isTr e
 f : fmC e = true
theorem GoodE.fm {n : Nat} {e : D} (h : GoodE e) (hn : isE n e) : fmR n e = true:=by rw [fmC_eq hn];exact h.f
theorem goodE_of {n : Nat} {e : D} (hn : isE n e) (h : fmR n e = true) : GoodE e:=⟨⟨n,hn⟩,by rw [<- fmC_eq hn];exact h⟩
theorem isE_pos {n : Nat} {e : D} (h : isE n e) : ∃ m,n = m + 1:=by cases n with
 | zero=>exact h.elim
 | succ n=>exact ⟨n,rfl⟩
theorem GoodE.parts {e : D} (h : GoodE e) : 0 <= stI (eop e) /\ ((eps e).length : Int) = arN (eop e) /\ (∀ x ∈ eps e,GoodE x) /\ fmTop e = true:=by
 obtain ⟨⟨n,hn⟩,hf⟩:=h
 obtain ⟨n,rfl⟩:=isE_pos hn
 rw [<- fmC_eq hn] at hf
 obtain ⟨h1,h2,h3,h4⟩:=fmR_s hf
 exact ⟨h1,h2,fun x hx=>goodE_of (isE_eps hn x hx) (h3 x hx),h4⟩
theorem goodE_mk {e : D} (ht : isTr e) (h1 : 0 <= stI (eop e)) (h2 : ((eps e).length : Int) = arN (eop e)) (h3 : ∀ x ∈ eps e,GoodE x) (h4 : fmTop e = true) : GoodE e:=by
 obtain ⟨n,hn⟩:=ht
 obtain ⟨n,rfl⟩:=isE_pos hn
 refine goodE_of hn ?_
 have d1 : decide (stI (eop e) < 0) = false:=by simp only [decide_eq_false_iff_not];omega
 have d2 : (((eps e).length : Int) != arN (eop e)) = false:=by simp [h2]
 have d3 : (eps e).all (fmR n) = true:=List.all_eq_true.2 fun x hx=>(h3 x hx).fm (isE_eps hn x hx)
 simp only [fmR,d1,d2,d3,Bool.or_self,Bool.false_eq_true,if_false,Bool.not_true]
 exact h4
theorem sub0_mem {e : D} (h : 0 < (eps e).length) : sub0 e ∈ eps e:=by
 unfold sub0
 rw [List.getD_eq_getElem?_getD,List.getElem?_eq_getElem h]
 exact List.getElem_mem h
theorem sub1_mem {e : D} (h : 1 < (eps e).length) : sub1 e ∈ eps e:=by
 unfold sub1
 rw [List.getD_eq_getElem?_getD,List.getElem?_eq_getElem h]
 exact List.getElem_mem h
theorem ar1 {op : List UInt8} (h : (op == sSize) = true ∨ (op == sNot) = true ∨ (op == sNeg) = true) : arN op = 1:=by
 rcases h with h | h | h <;> (rw [eq_of_beq' h];decide)
theorem tokD_S : ∀ (n : Nat) (full : Bool) (e : D),isE n e -> GoodE e -> tokD (n + 1) full e = tokD n full e
 | 0,_,_,h,_=>h.elim
 | n + 1,full,e,h,hg=>by
  obtain ⟨f1,f2,f3,f4⟩:=hg.parts
  have k0 : 0 < (eps e).length -> tokD (n + 1) full (sub0 e) = tokD n full (sub0 e):=fun hl=>tokD_S n full _ (isE_eps h _ (sub0_mem hl)) (f3 _ (sub0_mem hl))
  have k1 : 1 < (eps e).length -> tokD (n + 1) full (sub1 e) = tokD n full (sub1 e):=fun hl=>tokD_S n full _ (isE_eps h _ (sub1_mem hl)) (f3 _ (sub1_mem hl))
  rcases tf (eop e == sVal) with g1 | g1
  ·rw [tokD_val g1,tokD_val g1]
  rcases tf (eop e == sNow) with g2 | g2
  ·rw [tokD_now g1 g2,tokD_now g1 g2]
  rcases tf (eop e == sAttr) with g3 | g3
  ·rw [tokD_attr g1 g2 g3,tokD_attr g1 g2 g3]
  rcases tf (eop e == sHas) with g4 | g4
  ·rw [tokD_has g1 g2 g3 g4,tokD_has g1 g2 g3 g4]
  rcases tf (eop e == sRole) with g5 | g5
  ·rw [tokD_role g1 g2 g3 g4 g5,tokD_role g1 g2 g3 g4 g5]
  rcases tf (eop e == sSize) with g6 | g6
  ·have:=ar1 (.inl g6)
   rw [tokD_size g1 g2 g3 g4 g5 g6,tokD_size g1 g2 g3 g4 g5 g6,k0 (by omega)]
  rcases tf (eop e == sNot) with g7 | g7
  ·have:=ar1 (.inr (.inl g7))
   rw [tokD_not g1 g2 g3 g4 g5 g6 g7,tokD_not g1 g2 g3 g4 g5 g6 g7,k0 (by omega)]
  rcases tf (eop e == sNeg) with g8 | g8
  ·have:=ar1 (.inr (.inr g8))
   rw [tokD_neg g1 g2 g3 g4 g5 g6 g7 g8,tokD_neg g1 g2 g3 g4 g5 g6 g7 g8,k0 (by omega)]
  ·have:=(two_op f1 g1 g2 g3 g4 g5 g6 g7 g8).2
   rw [tokD_two g1 g2 g3 g4 g5 g6 g7 g8,tokD_two g1 g2 g3 g4 g5 g6 g7 g8,k0 (by omega),k1 (by omega)]
theorem tokD_fuel {n m : Nat} {full : Bool} {e : D} (h : isE n e) (hg : GoodE e) (hm : n <= m) : tokD m full e = tokD n full e:=by
 induction hm with
 | refl=>rfl
 | step hm ih=>rw [tokD_S _ full e (isE_le hm h) hg,ih]
noncomputable def tkC (full : Bool) (x : D) : List D:=tokD (sizeOf x) full x
theorem tkC_eq {n : Nat} {full : Bool} {e : D} (h : isE n e) (hg : GoodE e) : tokD n full e = tkC full e:=by
 unfold tkC
 rw [<- tokD_fuel h hg (Nat.le_max_left n (sizeOf e)),tokD_fuel (isE_can n e h) hg (Nat.le_max_right n (sizeOf e))]
section
variable {full : Bool} {e : D}
theorem tkC_S (h : GoodE e) : ∃ n,isE (n + 1) e /\ tkC full e = tokD (n + 1) full e:=by
 obtain ⟨n,hn⟩:=isE_pos h.t.can
 refine ⟨n,hn ▸ h.t.can,?_⟩
 unfold tkC;rw [hn]
theorem tk_val (h : GoodE e) (g1 : (eop e == sVal) = true) : tkC full e = litT (eV e):=by
 obtain ⟨n,_,h2⟩:=tkC_S (full:=full) h
 rw [h2,tokD_val g1]
theorem tk_now (h : GoodE e) (g2 : (eop e == sNow) = true) : tkC full e = [mkT 1 sNow 0]:=by
 obtain ⟨n,_,h2⟩:=tkC_S (full:=full) h
 rw [h2,tokD_now (by rw [eq_of_beq' g2];decide) g2]
theorem tk_attr (h : GoodE e) (g3 : (eop e == sAttr) = true) : tkC full e = [mkT 1 (ewho e) 0,mkT 5 [46] 0,mkT 1 (ename e) 0]:=by
 obtain ⟨n,_,h2⟩:=tkC_S (full:=full) h
 rw [h2,tokD_attr (by rw [eq_of_beq' g3];decide) (by rw [eq_of_beq' g3];decide) g3]
theorem tk_has (h : GoodE e) (g4 : (eop e == sHas) = true) : tkC full e = [mkT 1 sHas 0,tP,mkT 1 (ewho e) 0,mkT 5 [46] 0,mkT 1 (ename e) 0,tQ]:=by
 obtain ⟨n,_,h2⟩:=tkC_S (full:=full) h
 rw [h2,tokD_has (by rw [eq_of_beq' g4];decide) (by rw [eq_of_beq' g4];decide) (by rw [eq_of_beq' g4];decide) g4]
theorem tk_role (h : GoodE e) (g5 : (eop e == sRole) = true) : tkC full e = [mkT 1 sRole 0,tP,mkT 3 (ename e) 0,tQ]:=by
 obtain ⟨n,_,h2⟩:=tkC_S (full:=full) h
 rw [h2,tokD_role (by rw [eq_of_beq' g5];decide) (by rw [eq_of_beq' g5];decide) (by rw [eq_of_beq' g5];decide) (by rw [eq_of_beq' g5];decide) g5]
theorem GoodE.one (h : GoodE e) (g : (eop e == sSize) = true ∨ (eop e == sNot) = true ∨ (eop e == sNeg) = true) : GoodE (sub0 e) /\ ∃ x,eps e = [x] /\ sub0 e = x:=by
 obtain ⟨f1,f2,f3,f4⟩:=h.parts
 rw [ar1 g] at f2
 refine ⟨f3 _ (sub0_mem (by omega)),?_⟩
 match hx : eps e,f2 with
 | [x],_=>exact ⟨x,rfl,by unfold sub0;rw [hx];rfl⟩
 | [],h=>simp at h
 | _ :: _ :: _,h=>simp at h;omega
theorem tk_sub {n : Nat} (h : isE (n + 1) e) {x : D} (hx : x ∈ eps e) (hg : GoodE x) : tokD n full x = tkC full x:=tkC_eq (isE_eps h x hx) hg
theorem tk_size (h : GoodE e) (g6 : (eop e == sSize) = true) : tkC full e = mkT 1 sSize 0 :: tP :: (tkC full (sub0 e) ++ [tQ]):=by
 obtain ⟨n,h1,h2⟩:=tkC_S (full:=full) h
 obtain ⟨hg,x,hx,hs⟩:=h.one (.inl g6)
 rw [h2,tokD_size (by rw [eq_of_beq' g6];decide) (by rw [eq_of_beq' g6];decide) (by rw [eq_of_beq' g6];decide) (by rw [eq_of_beq' g6];decide) (by rw [eq_of_beq' g6];decide) g6,tk_sub h1 (by rw [hx,hs];simp) hg]
theorem tk_not (h : GoodE e) (g7 : (eop e == sNot) = true) : tkC full e = mkT 1 sNot 0 :: parW full (stI (eop (sub0 e))) 2 (tkC full (sub0 e)):=by
 obtain ⟨n,h1,h2⟩:=tkC_S (full:=full) h
 obtain ⟨hg,x,hx,hs⟩:=h.one (.inr (.inl g7))
 rw [h2,tokD_not (by rw [eq_of_beq' g7];decide) (by rw [eq_of_beq' g7];decide) (by rw [eq_of_beq' g7];decide) (by rw [eq_of_beq' g7];decide) (by rw [eq_of_beq' g7];decide) (by rw [eq_of_beq' g7];decide) g7,tk_sub h1 (by rw [hx,hs];simp) hg]
theorem tk_neg (h : GoodE e) (g8 : (eop e == sNeg) = true) : tkC full e = mkT 5 [45] 0 :: parW full (stI (eop (sub0 e))) 6 (tkC full (sub0 e)):=by
 obtain ⟨n,h1,h2⟩:=tkC_S (full:=full) h
 obtain ⟨hg,x,hx,hs⟩:=h.one (.inr (.inr g8))
 rw [h2,tokD_neg (by rw [eq_of_beq' g8];decide) (by rw [eq_of_beq' g8];decide) (by rw [eq_of_beq' g8];decide) (by rw [eq_of_beq' g8];decide) (by rw [eq_of_beq' g8];decide) (by rw [eq_of_beq' g8];decide) (by rw [eq_of_beq' g8];decide) g8,tk_sub h1 (by rw [hx,hs];simp) hg]
def isOp2 (op : List UInt8) : Prop:=stI op = 0 ∨ stI op = 1 ∨ stI op = 3 ∨ stI op = 4 ∨ stI op = 5
theorem op2_not {op : List UInt8} (h : isOp2 op) : (op == sVal) = false /\ (op == sNow) = false /\ (op == sAttr) = false /\ (op == sHas) = false /\ (op == sRole) = false /\ (op == sSize) = false /\ (op == sNot) = false /\ (op == sNeg) = false:=by
 have key : ∀ w : List UInt8,(stI w = 2 ∨ stI w = 6 ∨ stI w = 7) -> (op == w) = false:=fun w hw=>by
  cases hx : op == w with
  | false=>rfl
  | true=>rw [eq_of_beq' hx] at h;unfold isOp2 at h;omega
 exact ⟨key _ (by decide),key _ (by decide),key _ (by decide),key _ (by decide),key _ (by decide),key _ (by decide),key _ (by decide),key _ (by decide)⟩
theorem op2_ar {op : List UInt8} (h : isOp2 op) : arN op = 2:=by
 have hA:=arN_of (op:=op)
 rcases h with h | h | h | h | h
 ·exact hA.1 h
 ·exact hA.2.1 h
 ·exact hA.2.2.1 h
 ·exact hA.2.2.2.1 h
 ·exact hA.2.2.2.2.1 h
theorem GoodE.two (h : GoodE e) (g : isOp2 (eop e)) : GoodE (sub0 e) /\ GoodE (sub1 e) /\ sub0 e ∈ eps e /\ sub1 e ∈ eps e /\ eps e = [sub0 e,sub1 e]:=by
 obtain ⟨f1,f2,f3,f4⟩:=h.parts
 rw [op2_ar g] at f2
 refine ⟨f3 _ (sub0_mem (by omega)),f3 _ (sub1_mem (by omega)),sub0_mem (by omega),sub1_mem (by omega),?_⟩
 unfold sub0 sub1
 match eps e,f2 with
 | [x,y],_=>rfl
 | [],h=>simp at h
 | [_],h=>simp at h
 | _ :: _ :: _ :: _,h=>simp at h;omega
theorem tk_two (h : GoodE e) (g : isOp2 (eop e)) : tkC full e = parW full (stI (eop (sub0 e))) (lstS (eop e)) (tkC full (sub0 e)) ++ (opTok (eop e) :: parW full (stI (eop (sub1 e))) (stI (eop e) + 1) (tkC full (sub1 e))):=by
 obtain ⟨n,h1,h2⟩:=tkC_S (full:=full) h
 obtain ⟨k0,k1,m0,m1,_⟩:=h.two g
 obtain ⟨g1,g2,g3,g4,g5,g6,g7,g8⟩:=op2_not g
 rw [h2,tokD_two g1 g2 g3 g4 g5 g6 g7 g8,tk_sub h1 m0 k0,tk_sub h1 m1 k1]
end
theorem GoodE.op {e : D} (h : GoodE e) : (eop e == sVal) = true ∨ (eop e == sNow) = true ∨ (eop e == sAttr) = true ∨ (eop e == sHas) = true ∨ (eop e == sRole) = true ∨ (eop e == sSize) = true ∨ (eop e == sNot) = true ∨ (eop e == sNeg) = true ∨ isOp2 (eop e):=by
 obtain ⟨f1,_⟩:=h.parts
 cases g1 : eop e == sVal with | true=>simp | false =>
 cases g2 : eop e == sNow with | true=>simp | false =>
 cases g3 : eop e == sAttr with | true=>simp | false =>
 cases g4 : eop e == sHas with | true=>simp | false =>
 cases g5 : eop e == sRole with | true=>simp | false =>
 cases g6 : eop e == sSize with | true=>simp | false =>
 cases g7 : eop e == sNot with | true=>simp | false =>
 cases g8 : eop e == sNeg with | true=>simp | false =>
 have:=(two_op f1 g1 g2 g3 g4 g5 g6 g7 g8).1
 simp only [Bool.false_eq_true,false_or]
 exact this
end GP
namespace GP
open Go Go.Proofs Go.Proofs.YtainhmbnbgonhaaGreatDoor
open Go.ChangeShapes Go.WideShapes Go.ChangeAt Go.RowKit
set_option maxRecDepth 100000
def laidD : List (String × DataW Unit):=Rows.printExprsRow.laid
theorem own6 : ownKnob Tryz.prog.godebug = none:=by kernel_rfl
theorem laid6 : laidOutB Tryz.prog = true:=by kernel_rfl
theorem rowed6 : mapsRowed Tryz.prog = true:=by kernel_rfl
theorem full6 : ((List.range Tryz.prog.types.size).all fun t=>match Tryz.prog.underlying t with | some (.slice e)=>decide (0 < Tryz.prog.cellsOf e) | _=>true) = true:=by kernel_rfl
theorem laid_filter (n : String) {W : World} {l : List (String × DataW Unit)} (h : laidMetH Tryz.prog laidD W) (e : laidD.filter (fun x=>x.1 == n) = l) : laidMet Tryz.prog l W:=by
 rw [MakeChecks.laidMetH_plain _ _ _ (by kernel_rfl)] at h
 rw [<- e]
 exact h.filter _
theorem pow_of_laid {W : World} (h : laidMetH Tryz.prog laidD W) : Lib.TabIs Tryz.prog W "internal/strconv.uint64pow10" .u64 Lib.pow10Tab :=
 Lib.tabIs_of_head (g:=1) (t:=225) (e:=202) (n:=20) (rest:=[]) gPow (by kernel_rfl) Tryz.underlying225 Tryz.underlying202 (by kernel_rfl) (by kernel_rfl)
  (laid_filter "internal/strconv.uint64pow10" h (by kernel_rfl))
theorem vars_of_laid {W : World} (h : laidMetH Tryz.prog laidD W) : HasG.G Tryz.prog (Cx0 W) W:=by
 refine ⟨rfl,?_,pow_of_laid h⟩
 show 2 <= W.heap.size
 have h1:=pow_of_laid h
 unfold Lib.TabIs World.var? at h1
 rw [gPow] at h1
 simp only [Option.bind_some] at h1
 rcases Nat.lt_or_ge 1 W.heap.size with h' | h'
 ·omega
 ·simp [Array.getElem?_eq_none h'] at h1
theorem hMay : Tryz.prog.mayEnter = true:=by kernel_rfl
theorem hLift : (false == Tryz.prog.liftsFinal) = true:=by kernel_rfl
theorem hHeard : Tryz.prog.stopsHeard = true:=by kernel_rfl
theorem hKeys : (false == Tryz.prog.plainKeys) = true:=by kernel_rfl
theorem hLooks : true = Tryz.prog.looks []:=by kernel_rfl
theorem hMain : Tryz.prog.mainIs = some (true, "80a834c457ab35883543603980dd7f217c45191a846bf96d7f461e86fb45756a".toList) := by kernel_rfl
theorem andT {a b : Bool} (ha : a = true) (hb : b = true) : (a && b) = true:=by rw [ha,hb];rfl
end GP
namespace GP
open Go Go.Proofs Go.Proofs.YtainhmbnbgonhaaGreatDoor
open Go.ChangeShapes Go.WideShapes Go.ChangeAt Go.RowKit
set_option maxRecDepth 100000
theorem cells3 : Tryz.prog.cellsOf 3 = 1:=by kernel_rfl
theorem cells2 : Tryz.prog.cellsOf 2 = 1:=by kernel_rfl
theorem cells9 : Tryz.prog.cellsOf 9 = 1:=by kernel_rfl
theorem i64min : IntKind.i64.min = -(2 ^ 63):=by decide
theorem i64max : IntKind.i64.max = 2 ^ 63 - 1:=by decide
def isLd (p : D -> Prop) (ds : List D) : Prop:=∃ l,ds = [l] /\ isLs p l
theorem isLd_of {mk : List D -> D} {φ : List D -> Prop} {p : D -> Prop} {sz : Nat} (h : ∀ x,φ x -> p (mk x)) {ds : List D} (hd : ds = [.nils] ∨ ∃ xs : List (List D),ds = [.sl none (xs.map mk)] /\ xs.length <= 2 ^ 47 /\ ∀ x ∈ xs,φ x /\ x.length = sz) : isLd p ds:=by
 rcases hd with rfl | ⟨xs,rfl,h1,h2⟩
 ·exact ⟨_,rfl,isLs_nils _⟩
 ·refine ⟨_,rfl,false,xs.map mk,rfl,by simpa using h1,fun x hx=>?_⟩
  obtain ⟨y,hy,rfl⟩:=List.mem_map.1 hx
  exact h _ (h2 y hy).1
end GP
namespace GP
open Go Go.Proofs
set_option maxRecDepth 100000
structure Step (toks : List D) (st st2 : St) : Prop where
 ok : (st.2 = 0 ∨ st.2 = 2) /\ st.1 <= toks.length -> (st2.2 = 0 ∨ st2.2 = 2) /\ st2.1 <= toks.length
 stuck : st.2 ≠ 0 -> st2 = st
 adv : st.2 = 0 -> st.1 <= st2.1
theorem Step.refl (toks : List D) (st : St) : Step toks st st:=⟨fun h=>h,fun _=>rfl,fun _=>Nat.le_refl _⟩
theorem Step.trans {toks : List D} {a b c : St} (h : Step toks a b) (k : Step toks b c) : Step toks a c :=
 ⟨fun q=>k.ok (h.ok q),fun q=>by have:=h.stuck q;rw [this] at k;rw [k.stuck q],fun q=>by
  have h1:=h.adv q
  by_cases hb : b.2 = 0
  ·exact Nat.le_trans h1 (k.adv hb)
  ·rw [k.stuck hb];exact h1⟩
theorem Step.e0 {toks : List D} {a b : St} (h : Step toks a b) (hb : b.2 = 0) : a.2 = 0:=by
 by_cases ha : a.2 = 0
 ·exact ha
 ·rw [h.stuck ha] at hb;exact hb
theorem step_may {toks : List D} {st : St} {w : List UInt8} (h : isP toks st w = true) : Step toks st (st.1 + 1,st.2):=by
 obtain ⟨h1,h2⟩:=isP_lt h
 exact ⟨fun q=>⟨q.1,by simp only;omega⟩,fun q=>absurd h2 q,fun _=>by simp only;omega⟩
theorem step_now {toks : List D} {st : St} (h : tk (nowS toks st) ≠ 0) : Step toks st (st.1 + 1,st.2):=by
 obtain ⟨h1,h2⟩:=nowP_lt (toks:=toks) (a:=st.1) (e:=st.2) h
 exact ⟨fun q=>⟨q.1,by simp only;omega⟩,fun q=>absurd h2 q,fun _=>by simp only;omega⟩
theorem step_fail (toks : List D) (n : Nat) (st : St) (hn : st.1 <= toks.length -> n <= toks.length) (ha : st.1 <= n) : Step toks st (failP n 2 st):=by
 unfold failP
 split
 ·rename_i h
  have h0 : st.2 = 0:=by simpa using h
  exact ⟨fun q=>⟨.inr rfl,hn q.2⟩,fun q=>absurd h0 q,fun _=>ha⟩
 ·exact .refl _ _
theorem step_fail' (toks : List D) (st : St) : Step toks st (failP st.1 2 st):=step_fail toks _ st (fun h=>h) (Nat.le_refl _)
theorem step_must (toks : List D) (w : List UInt8) (st : St) : Step toks st (mustP toks w st):=by
 unfold mustP
 split
 ·rename_i h;exact step_may h
 ·exact step_fail' toks st
theorem step_kind (toks : List D) {k : Int} (hk : k ≠ 0) (st : St) : Step toks st (kindP toks k st).2:=by
 unfold kindP
 split
 ·exact step_fail' toks st
 ·rename_i h
  have : tk (nowS toks st) = k:=by simpa using h
  exact step_now (by omega)
theorem step_name (toks : List D) (st : St) : Step toks st (nameP toks st).2:=by
 unfold nameP
 split
 ·exact step_fail' toks st
 ·rename_i h
  simp only [Bool.or_eq_true,not_or,bne_iff_ne,ne_eq,Decidable.not_not] at h
  exact step_now (by omega)
theorem step_one (toks : List D) (ws : List (List UInt8)) (st : St) : Step toks st (oneP toks ws st).2:=by
 unfold oneP
 split
 ·rename_i w h;exact step_may (firstP_is h)
 ·exact step_fail' toks st
theorem step_attr (toks : List D) (st : St) : Step toks st (attrP toks st).2.2:=by
 unfold attrP
 exact ((step_one toks whoW st).trans (step_must toks [46] _)).trans (step_name toks _)
theorem step_lit (toks : List D) (st : St) : Step toks st (literalP toks st).2.2:=by
 unfold literalP
 split
 ·rename_i h;have : tk (nowS toks st) = 2:=by simpa using h
  exact step_now (by omega)
 split
 ·rename_i h;have : tk (nowS toks st) = 3:=by simpa using h
  exact step_now (by omega)
 split
 ·rename_i h;have : tk (nowS toks st) = 4:=by simpa using h
  exact step_now (by omega)
 split
 ·rename_i h
  simp only [Bool.or_eq_true] at h
  rcases h with h | h <;> exact step_may h
 ·exact .refl _ _
theorem step_item (toks : List D) (st : St) : Step toks st (itemP toks st).2:=by
 unfold itemP
 split
 ·rename_i h;exact (step_may h).trans (step_kind _ (by decide) _)
 split
 ·exact step_lit _ _
 ·exact (step_lit _ _).trans (step_fail' _ _)
theorem step_bagL (toks : List D) : ∀ (f : Nat) (out : List D) (st : St) (r : List D × St),bagL toks f out st = some r -> Step toks st r.2
 | 0,_,_,_,h=>by simp [bagL] at h
 | f + 1,out,st,r,h=>by
  simp only [bagL] at h
  split at h
  ·rename_i g
   exact ((step_may g).trans (step_item _ _)).trans (step_bagL toks f _ _ _ h)
  ·injection h with h;subst h;exact .refl _ _
theorem step_bagP {toks : List D} {f fr : Nat} {st : St} {r : D × St} (h : bagP toks f fr st = some r) (hfr : fr <= st.1) :
  (((st.2 = 0 ∨ st.2 = 2) /\ st.1 <= toks.length -> (r.2.2 = 0 ∨ r.2.2 = 2) /\ r.2.1 <= toks.length) /\ (st.2 ≠ 0 -> r.2 = st) /\ (st.2 = 0 -> fr <= r.2.1)) /\ (r.2.2 = 0 -> Step toks st r.2):=by
 unfold bagP at h
 split at h
 ·cases h
 ·rename_i out st1 hb
  have s1:=((step_item toks st).trans (step_bagL toks f _ _ _ hb)).trans (step_must toks [93] st1)
  split at h
  ·injection h with h;subst h
   exact ⟨⟨s1.ok,s1.stuck,fun q=>Nat.le_trans hfr (s1.adv q)⟩,fun _=>s1⟩
  ·rename_i hz
   have hz : (mustP toks [93] st1).2 = 0:=by simpa using hz
   injection h with h;subst h
   simp only
   split
   ·have hst:=s1.e0 hz
    have e1 : failP fr 2 (mustP toks [93] st1) = (fr,2):=by unfold failP;rw [hz];rfl
    rw [e1]
    exact ⟨⟨fun q=>⟨.inr rfl,by simp only;omega⟩,fun q=>absurd hst q,fun _=>Nat.le_refl _⟩,fun q=>absurd q (by simp)⟩
   ·exact ⟨⟨s1.ok,s1.stuck,fun q=>Nat.le_trans hfr (s1.adv q)⟩,fun _=>s1⟩
def partS (P : Part) : Prop:=∀ toks st r,P toks st = some r -> Step toks st r.2
theorem rowL_S {P : Part} (hP : partS P) {toks : List D} {bs : List (List UInt8)} : ∀ (f : Nat) (x : D) (st : St) (r : D × St),rowL toks P bs f x st = some r -> Step toks st r.2
 | 0,_,_,_,h=>by simp [rowL] at h
 | f + 1,x,st,r,h=>by
  simp only [rowL] at h
  split at h
  ·injection h with h;subst h;exact .refl _ _
  ·split at h
   ·injection h with h;subst h;exact .refl _ _
   ·rename_i w hw
    split at h
    ·cases h
    ·rename_i y st2 hy
     exact ((step_may (firstP_is hw)).trans (hP toks _ _ hy)).trans (rowL_S hP f _ st2 r h)
theorem rowP_S {P : Part} (hP : partS P) {toks : List D} {bs : List (List UInt8)} {f : Nat} {st : St} {r : D × St} (h : rowP toks P bs f st = some r) : Step toks st r.2:=by
 unfold rowP at h
 split at h
 ·cases h
 ·rename_i x st1 hx
  exact (hP toks _ _ hx).trans (rowL_S hP f x st1 r h)
theorem oneS_S {toks : List D} {st : St} {op : List UInt8} {z : Option (D × St)} {r : D × St} (hz : ∀ r,z = some r -> Step toks st r.2) (h : oneS op z = some r) : Step toks st r.2:=by
 cases z with
 | none=>cases h
 | some z =>
  obtain ⟨x,st1⟩:=z
  simp only [oneS,Option.some.injEq] at h;subst h
  exact hz (x,st1) rfl
theorem lv_S : ∀ (f : Nat) (lv : Lv),partS (pLv f lv)
 | 0,_,_,_,_,h=>by cases h
 | f + 1,lv,toks,st,r,h=>by
  cases lv with
  | expr=>exact rowP_S (lv_S f .and) h
  | and=>exact rowP_S (lv_S f .not) h
  | sum=>exact rowP_S (lv_S f .prod) h
  | prod=>exact rowP_S (lv_S f .unary) h
  | not =>
   simp only [pLv] at h
   split at h
   ·rename_i g;exact oneS_S (fun r hr=>(step_may g).trans (lv_S f .not toks _ r hr)) h
   ·exact lv_S f .cmp toks st r h
  | unary =>
   simp only [pLv] at h
   split at h
   ·rename_i g;exact oneS_S (fun r hr=>(step_may g).trans (lv_S f .unary toks _ r hr)) h
   ·exact lv_S f .plain toks st r h
  | cmp =>
   simp only [pLv] at h
   obtain ⟨z,hz⟩ : ∃ z,pLv f .sum toks st = z:=⟨_,rfl⟩
   rw [hz] at h
   cases z with
   | none=>cases h
   | some z =>
    obtain ⟨x,st1⟩:=z
    have hx:=lv_S f .sum toks _ _ hz
    simp only [cmpS2] at h
    split at h
    ·injection h with h;subst h;exact hx
    ·rename_i w hw
     split at h
     ·cases h
     ·rename_i y st2 hy
      injection h with h;subst h
      have k:=lv_S f .sum toks _ (y,st2) hy
      exact (hx.trans (step_may (firstP_is hw))).trans k
  | inner =>
   simp only [pLv] at h
   obtain ⟨z,hz⟩ : ∃ z,pLv f .expr toks (mustP toks [40] st) = z:=⟨_,rfl⟩
   rw [hz] at h
   cases z with
   | none=>cases h
   | some z =>
    obtain ⟨x,st1⟩:=z
    simp only [innS,Option.some.injEq] at h;subst h
    exact ((step_must toks [40] st).trans (lv_S f .expr toks _ (x,st1) hz)).trans (step_must toks [41] st1)
  | plain =>
   simp only [pLv,plainP] at h
   split at h
   ·injection h with h;subst h;exact step_lit _ _
   split at h
   ·rename_i g;injection h with h;subst h;exact step_may g
   split at h
   ·exact lv_S f .inner toks st r h
   split at h
   ·rename_i g
    have g0:=(isP_lt g).2
    obtain ⟨⟨b1,b2,b3⟩,_⟩:=step_bagP h (show st.1 <= st.1 + 1 by omega)
    exact ⟨fun q=>b1 ((step_may g).ok q),fun q=>absurd g0 q,fun _=>b3 g0⟩
   split at h
   ·rename_i g;exact oneS_S (fun r hr=>(step_may g).trans (lv_S f .inner toks _ r hr)) h
   split at h
   ·rename_i g
    injection h with h;subst h
    exact (((step_may g).trans (step_must toks [40] _)).trans (step_kind toks (by decide) _)).trans (step_must toks [41] _)
   split at h
   ·rename_i g
    injection h with h;subst h
    exact (((step_may g).trans (step_must toks [40] _)).trans (step_attr toks _)).trans (step_must toks [41] _)
   ·injection h with h;subst h;exact step_attr _ _
theorem parseE_err (toks : List D) (h : toks.length <= 600) : (parseE toks).2.2 ≠ 0 -> (parseE toks).1 = zeroE /\ ((parseE toks).2.2 = 2 ∨ (parseE toks).2.2 = 11 /\ (parseE toks).2.1 = 0) /\ (parseE toks).2.1 <= toks.length:=by
 obtain ⟨x,st,hp⟩:=expr_tot toks h
 have hs:=(lv_S 10000 .expr toks (0,0) _ hp).ok ⟨.inl rfl,Nat.zero_le _⟩
 simp only at hs
 have he : (endP toks st).2 = 0 ∨ (endP toks st).2 = 2:=by unfold endP;split <;> simp [hs.1]
 have hl : (endP toks st).1 <= toks.length:=by unfold endP;split <;> simp [hs.2]
 unfold parseE
 rw [if_neg (by omega),hp]
 simp only
 split
 ·rename_i g
  intro _
  have g : (endP toks st).2 ≠ 0:=by simpa using g
  exact ⟨rfl,.inl (he.resolve_left g),hl⟩
 ·split
  ·intro _;exact ⟨rfl,.inr ⟨rfl,rfl⟩,Nat.zero_le _⟩
  ·intro q;exact absurd rfl q
theorem parseE_ok {toks : List D} (h : toks.length <= 600) (h0 : (parseE toks).2.2 = 0) : ∃ x,pLv 10000 .expr toks (0,0) = some (x,(toks.length,0)) /\ (parseE toks).1 = x /\ (parseE toks).2.1 = 0 /\ dpt nodeB x <= 12:=by
 obtain ⟨x,st,hp⟩:=expr_tot toks h
 have hs:=(lv_S 10000 .expr toks (0,0) _ hp).ok ⟨.inl rfl,Nat.zero_le _⟩
 simp only at hs
 unfold parseE at h0 ⊢
 rw [if_neg (by omega),hp] at h0 ⊢
 simp only at h0 ⊢
 split at h0
 ·rename_i g
  have g : (endP toks st).2 ≠ 0:=by simpa using g
  exact absurd h0 g
 ·rename_i g
  rw [if_neg g]
  split at h0
  ·cases h0
  ·rename_i g2
   rw [if_neg g2]
   refine ⟨x,?_,rfl,rfl,by omega⟩
   have g : (endP toks st).2 = 0:=by simpa using g
   unfold endP at g
   split at g
   ·cases g
   ·rename_i g3
    have e : st = (toks.length,0):=by
     obtain ⟨a,e⟩:=st
     simp only at g g3 hs
     subst g
     simp only [beq_self_eq_true,Bool.true_and,decide_eq_true_eq] at g3
     congr 1;omega
    rw [e]
end GP
namespace GP
open Go Go.Proofs
set_option maxRecDepth 100000
def sbT (toks : List D) (a b : Nat) : List D:=(toks.take b).drop a
def cnt2 (toks : List D) (a b : Nat) : Nat:=cntP (sbT toks a b)
theorem cntP_app (l m : List D) : cntP (l ++ m) = cntP l + cntP m:=by simp [cntP,List.filter_append]
theorem sbT_add {toks : List D} {a b c : Nat} (h1 : a <= b) (h2 : b <= c) : sbT toks a c = sbT toks a b ++ sbT toks b c:=by
 unfold sbT
 have e : toks.take c = toks.take b ++ (toks.take c).drop b:=by
  have:=(List.take_append_drop b (toks.take c)).symm
  rwa [List.take_take,Nat.min_eq_left h2] at this
 rcases Nat.lt_or_ge (toks.take b).length a with hl | hl
 ·have hb : toks.length < b:=by
   rcases Nat.lt_or_ge toks.length b with h | h
   ·exact h
   ·rw [List.length_take,Nat.min_eq_left h] at hl;omega
  rw [List.drop_eq_nil_of_le (Nat.le_of_lt hl),List.take_of_length_le (by omega : toks.length <= c)]
  rw [List.length_take] at hl
  rw [List.drop_eq_nil_of_le (by omega),List.drop_eq_nil_of_le (by omega)];rfl
 ·conv=>lhs;rw [e]
  rw [List.drop_append_of_le_length hl]
theorem cnt2_add {toks : List D} {a b c : Nat} (h1 : a <= b) (h2 : b <= c) : cnt2 toks a c = cnt2 toks a b + cnt2 toks b c:=by
 unfold cnt2;rw [sbT_add h1 h2,cntP_app]
theorem cnt2_self (toks : List D) (a : Nat) : cnt2 toks a a = 0:=by
 unfold cnt2 sbT
 rw [List.drop_eq_nil_of_le (by rw [List.length_take];omega)];rfl
theorem cnt2_one {toks : List D} {a : Nat} {t : D} (h : toks[a]? = some t) : cnt2 toks a (a + 1) = if pkB t then 1 else 0:=by
 unfold cnt2 sbT
 have hl:=lt_of_get h
 rw [List.take_add_one,h,List.drop_append_of_le_length (by rw [List.length_take];omega),List.drop_eq_nil_of_le (by rw [List.length_take];omega)]
 unfold cntP
 simp only [Option.toList_some,List.nil_append,List.filter_cons,List.filter_nil]
 split <;> rfl
theorem now_at {toks : List D} {st : St} (h : tk (nowS toks st) ≠ 0) : st.2 = 0 /\ toks[st.1]? = some (nowS toks st) /\ formT (nowS toks st) = true:=by
 unfold nowS nowP at h ⊢
 split at h
 ·exact absurd rfl h
 ·rename_i he
  rw [if_neg he]
  split at h
  ·rename_i t ht
   split at h
   ·rename_i hf
    rw [if_pos hf]
    exact ⟨by simpa using he,ht,hf⟩
   ·exact absurd rfl h
  ·exact absurd rfl h
theorem is_at {toks : List D} {st : St} {w : List UInt8} (h : isP toks st w = true) : st.2 = 0 /\ toks[st.1]? = some (nowS toks st) /\ ts (nowS toks st) = w /\ ((tk (nowS toks st) = 1 /\ wordB w = true) ∨ (tk (nowS toks st) = 5 /\ isSign w = true)):=by
 unfold isP at h
 simp only [Bool.and_eq_true,Bool.or_eq_true,beq_iff_eq] at h
 obtain ⟨h1,h2⟩:=h
 obtain ⟨a1,a2,a3⟩:=now_at (toks:=toks) (st:=st) (by omega)
 refine ⟨a1,a2,h2,?_⟩
 unfold formT formI at a3
 rw [h2] at a3
 rcases h1 with h1 | h1
 ·rw [h1] at a3
  simp only [beq_self_eq_true,if_true,Bool.and_eq_true] at a3
  exact .inl ⟨h1,a3.1⟩
 ·rw [h1] at a3
  have : isSign w = true:=by
   revert a3
   simp only [show ((5 : Int) == 1) = false from rfl,show ((5 : Int) == 2) = false from rfl,show ((5 : Int) == 3) = false from rfl,show ((5 : Int) == 4) = false from rfl,Bool.false_eq_true,if_false,beq_self_eq_true,if_true,Bool.and_eq_true]
   exact fun h=>h.1
  exact .inr ⟨h1,this⟩
theorem pk_word {t : D} (h : tk t = 1) : pkB t = ((ts t != wTrue) && (ts t != wFalse)):=by
 unfold pkB;rw [h];simp
theorem pk_sign {t : D} (h : tk t = 5) : pkB t = ((ts t == [46]) || (ts t == [43]) || (ts t == [42]) || (ts t == [60]) || (ts t == [91])):=by
 unfold pkB;rw [h];simp
theorem pk_else {t : D} (h1 : tk t ≠ 1) (h5 : tk t ≠ 5) : pkB t = false:=by
 unfold pkB
 rw [show (tk t == 1) = false by simpa using h1,show (tk t == 5) = false by simpa using h5];rfl
def pkW (w : List UInt8) : Nat:=if isSign w then (if ((w == [46]) || (w == [43]) || (w == [42]) || (w == [60]) || (w == [91])) then 1 else 0) else (if (w != wTrue) && (w != wFalse) then 1 else 0)
theorem word_sign {w : List UInt8} (h : wordB w = true) : isSign w = false:=by
 cases hs : isSign w with
 | false=>rfl
 | true =>
  have : w ∈ signsR:=by
   unfold isSign at hs
   obtain ⟨x,hx,he⟩:=List.any_eq_true.1 hs
   have : x = w:=by simpa using he
   rw [<- this];exact hx
  have key : ∀ w ∈ signsR,wordB w = false:=by decide
  rw [key w this] at h;cases h
theorem cnt_is {toks : List D} {st : St} {w : List UInt8} (h : isP toks st w = true) : cnt2 toks st.1 (st.1 + 1) = pkW w:=by
 obtain ⟨_,h2,h3,h4⟩:=is_at h
 rw [cnt2_one h2]
 unfold pkW
 rcases h4 with ⟨h4,h5⟩ | ⟨h4,h5⟩
 ·rw [pk_word h4,h3,word_sign h5];rfl
 ·rw [pk_sign h4,h3,h5];rfl
theorem must_ok {toks : List D} {w : List UInt8} {st : St} (h : (mustP toks w st).2 = 0) : isP toks st w = true /\ mustP toks w st = (st.1 + 1,0):=by
 unfold mustP at h ⊢
 split at h
 ·rename_i g;rw [if_pos g];exact ⟨g,by simp only at h;rw [h]⟩
 ·exfalso
  unfold failP at h
  split at h
  ·cases h
  ·rename_i g;exact g (by simpa using h)
theorem kind_ok {toks : List D} {k : Int} (hk : k ≠ 0) {st : St} (h : (kindP toks k st).2.2 = 0) : tk (nowS toks st) = k /\ toks[st.1]? = some (nowS toks st) /\ formT (nowS toks st) = true /\ kindP toks k st = (nowS toks st,(st.1 + 1,0)):=by
 unfold kindP at h ⊢
 split at h
 ·exfalso
  unfold failP at h
  split at h
  ·cases h
  ·rename_i g;exact g (by simpa using h)
 ·rename_i g
  rw [if_neg g]
  have e : tk (nowS toks st) = k:=by simpa using g
  obtain ⟨a1,a2,a3⟩:=now_at (toks:=toks) (st:=st) (by omega)
  exact ⟨e,a2,a3,by rw [a1]⟩
theorem name_ok {toks : List D} {st : St} (h : (nameP toks st).2.2 = 0) : tk (nowS toks st) = 1 /\ toks[st.1]? = some (nowS toks st) /\ nameB (nameP toks st).1 = true /\ (nameP toks st).2 = (st.1 + 1,0) /\ (nameP toks st).1 = ts (nowS toks st):=by
 unfold nameP at h ⊢
 split at h
 ·exfalso
  unfold failP at h
  split at h
  ·cases h
  ·rename_i g;exact g (by simpa using h)
 ·rename_i g
  rw [if_neg g]
  simp only [Bool.or_eq_true,not_or,bne_iff_ne,ne_eq,Decidable.not_not,Bool.not_eq_true] at g
  obtain ⟨a1,a2,a3⟩:=now_at (toks:=toks) (st:=st) (by omega)
  refine ⟨g.1,a2,?_,by rw [a1],rfl⟩
  unfold nameB
  rw [<- keptB_in,g.2]
  have:=a3
  unfold formT formI at this
  rw [g.1] at this
  simp only [beq_self_eq_true,if_true,Bool.and_eq_true] at this
  unfold formI
  simp only [beq_self_eq_true,if_true,this.1]
  rfl
theorem one_ok {toks : List D} {ws : List (List UInt8)} {st : St} (h : (oneP toks ws st).2.2 = 0) : isP toks st (oneP toks ws st).1 = true /\ (oneP toks ws st).1 ∈ ws /\ (oneP toks ws st).2 = (st.1 + 1,0):=by
 unfold oneP at h ⊢
 split at h
 ·rename_i w hw
  exact ⟨firstP_is hw,firstP_mem hw,by simp only at h;rw [h]⟩
 ·exfalso
  unfold failP at h
  split at h
  ·cases h
  ·rename_i g;exact g (by simpa using h)
theorem inB_mem {l : List (List UInt8)} {s : List UInt8} (h : s ∈ l) : inB l s = true:=List.any_eq_true.2 ⟨s,h,by simp⟩
theorem nameB_pk {s : List UInt8} (h : nameB s = true) : (s != wTrue) = true /\ (s != wFalse) = true:=by
 unfold nameB at h
 simp only [Bool.and_eq_true,Bool.not_eq_true'] at h
 constructor
 ·cases hx : s != wTrue with
  | true=>rfl
  | false => have : s = wTrue := by simpa using hx
             rw [this] at h;have:=h.2;revert this;decide
 ·cases hx : s != wFalse with
  | true=>rfl
  | false => have : s = wFalse := by simpa using hx
             rw [this] at h;have:=h.2;revert this;decide
theorem attr_ok {toks : List D} {st : St} (h : (attrP toks st).2.2.2 = 0) : inB whoW (attrP toks st).1 = true /\ nameB (attrP toks st).2.1 = true /\ (attrP toks st).2.2 = (st.1 + 3,0) /\ cnt2 toks st.1 (st.1 + 3) = 3:=by
 have hs:=step_name toks (mustP toks [46] (oneP toks whoW st).2)
 have h3 : (nameP toks (mustP toks [46] (oneP toks whoW st).2)).2.2 = 0:=h
 have h2:=hs.e0 h3
 have h1:=(step_must toks [46] (oneP toks whoW st).2).e0 h2
 obtain ⟨a1,a2,a3⟩:=one_ok h1
 obtain ⟨b1,b2⟩:=must_ok h2
 obtain ⟨c1,c2,c3,c4,c5⟩:=name_ok h3
 unfold attrP
 rw [a3] at b1 b2
 rw [a3,b2] at c1 c2 c3 c4 c5 ⊢
 simp only at b1 c1 c2 c3 c4 c5 ⊢
 refine ⟨inB_mem a2,c3,by rw [c4],?_⟩
 rw [cnt2_add (b:=st.1 + 1) (by omega) (by omega),cnt2_add (a:=st.1 + 1) (b:=st.1 + 1 + 1) (by omega) (by omega),cnt_is a1]
 have e2:=cnt_is b1
 simp only at e2
 rw [e2]
 have e3:=cnt2_one c2
 rw [show st.1 + 3 = st.1 + 1 + 1 + 1 by omega,e3,pk_word c1,← c5]
 obtain ⟨n1,n2⟩:=nameB_pk c3
 rw [n1,n2]
 have key : ∀ w ∈ whoW,pkW w = 1:=by decide
 rw [key _ a2]
 rfl
end GP
namespace GP
open Go Go.Proofs
set_option maxRecDepth 100000
theorem same_zero : sameB zeroV zeroV = true:=by decide
theorem fmTop_z {e : D} (hV : eV e = zeroV) (hw : ewho e = []) (hn : ename e = []) (g1 : (eop e == sVal) = false) (g3 : (eop e == sAttr) = false) (g4 : (eop e == sHas) = false) : (eop e == sRole) = false -> fmTop e = true:=by
 intro g5
 unfold fmTop
 rw [if_neg (by rw [g1];decide),hV,same_zero,if_neg (by decide),g3,g4,if_neg (by decide),if_neg (by rw [g5];decide),hw,hn]
 rfl
theorem good_two {op : List UInt8} {a b : D} (ho : op.length <= 2 ^ 47) (h : isOp2 op) (ha : GoodE a) (hb : GoodE b) : GoodE (twoD op a b):=by
 obtain ⟨g1,g2,g3,g4,g5,g6,g7,g8⟩:=op2_not h
 refine goodE_mk ?_ ?_ ?_ ?_ (fmTop_z rfl rfl rfl g1 g3 g4 g5)
 ·exact ⟨_,two_isE ho (isE_le (Nat.le_max_left _ _) ha.t.can) (isE_le (Nat.le_max_right _ _) hb.t.can)⟩
 ·show 0 <= stI op
  unfold isOp2 at h;omega
 ·show (([a,b] : List D).length : Int) = arN op
  rw [op2_ar h];rfl
 ·intro x hx
  have hx : x ∈ [a,b]:=hx
  simp only [List.mem_cons,List.not_mem_nil,or_false] at hx
  rcases hx with rfl | rfl
  ·exact ha
  ·exact hb
theorem tk_twoD {full : Bool} {op : List UInt8} {a b : D} (ho : op.length <= 2 ^ 47) (h : isOp2 op) (ha : GoodE a) (hb : GoodE b) : tkC full (twoD op a b) = parW full (stI (eop a)) (lstS op) (tkC full a) ++ (opTok op :: parW full (stI (eop b)) (stI op + 1) (tkC full b)) :=
 tk_two (good_two ho h ha hb) h
theorem good_one {op : List UInt8} {a : D} (h : op = sSize ∨ op = sNot ∨ op = sNeg) (ha : GoodE a) : GoodE (oneD op a):=by
 have hl : op.length <= 2 ^ 47:=by rcases h with rfl | rfl | rfl <;> decide
 refine goodE_mk ⟨_,one_isE hl ha.t.can⟩ ?_ ?_ ?_ (fmTop_z rfl rfl rfl ?_ ?_ ?_ ?_)
 ·show 0 <= stI op
  rcases h with rfl | rfl | rfl <;> decide
 ·show (1 : Int) = arN op
  rcases h with rfl | rfl | rfl <;> decide
 ·intro x hx
  have hx : x ∈ [a]:=hx
  rw [List.mem_singleton] at hx;subst hx;exact ha
 ·show (op == sVal) = false
  rcases h with rfl | rfl | rfl <;> decide
 ·show (op == sAttr) = false
  rcases h with rfl | rfl | rfl <;> decide
 ·show (op == sHas) = false
  rcases h with rfl | rfl | rfl <;> decide
 ·show (op == sRole) = false
  rcases h with rfl | rfl | rfl <;> decide
theorem good_leaf {op who name : List UInt8} (h : (op = sNow /\ who = [] /\ name = []) ∨ ((op = sAttr ∨ op = sHas) /\ inB whoW who = true /\ nameB name = true) ∨ (op = sRole /\ who = [] /\ formI 3 name 0 = true)) (h1 : who.length <= 2 ^ 47) (h2 : name.length <= 2 ^ 47) : GoodE (leafD op who name):=by
 have hop : op = sNow ∨ op = sAttr ∨ op = sHas ∨ op = sRole:=by
  rcases h with ⟨rfl,_⟩ | ⟨rfl | rfl,_⟩ | ⟨rfl,_⟩ <;> simp
 have hl : op.length <= 2 ^ 47:=by rcases hop with rfl | rfl | rfl | rfl <;> decide
 refine goodE_mk ⟨_,leaf_isE hl h1 h2⟩ ?_ ?_ (fun x hx=>by cases hx) ?_
 ·show 0 <= stI op
  rcases hop with rfl | rfl | rfl | rfl <;> decide
 ·show (0 : Int) = arN op
  rcases hop with rfl | rfl | rfl | rfl <;> decide
 ·show (if op == sVal then valB zeroV && (who == []) && (name == []) else if !sameB zeroV zeroV then false else if (op == sAttr) || (op == sHas) then inB whoW who && nameB name else if op == sRole then (who == []) && formI 3 name 0 else (who == []) && (name == [])) = true
  rcases h with ⟨rfl,rfl,rfl⟩ | ⟨rfl | rfl,h1,h2⟩ | ⟨rfl,rfl,h2⟩
  ·decide
  ·rw [if_neg (by decide),if_neg (by decide),if_pos (by decide),h1,h2];rfl
  ·rw [if_neg (by decide),if_neg (by decide),if_pos (by decide),h1,h2];rfl
  ·rw [if_neg (by decide),if_neg (by decide),if_neg (by decide),if_pos (by decide),h2];rfl
theorem valE_parts {v : D} (h : isVr v) : eop (valE v) = sVal /\ eV (valE v) = v /\ ewho (valE v) = [] /\ ename (valE v) = [] /\ eps (valE v) = []:=by
 obtain ⟨k,i,s,n,l,rfl,_⟩:=isV_elim h.1
 exact ⟨rfl,rfl,rfl,rfl,rfl⟩
theorem good_val {v : D} (hv : isVr v) (h : valB v = true) : GoodE (valE v):=by
 obtain ⟨e1,e2,e3,e4,e5⟩:=valE_parts hv
 refine goodE_mk ⟨_,val_isE hv⟩ (by rw [e1];decide) (by rw [e1,e5];decide) (fun x hx=>by rw [e5] at hx;cases hx) ?_
 unfold fmTop
 rw [e1,e2,e3,e4,if_pos (by decide),h];rfl
theorem tk_valE {full : Bool} {v : D} (hv : isVr v) (h : valB v = true) : tkC full (valE v) = litT v:=by
 obtain ⟨e1,e2,_⟩:=valE_parts hv
 rw [tk_val (good_val hv h) (by rw [e1];decide),e2]
structure Rdd (toks : List D) (s : Int) (x : D) (a b : Nat) : Prop where
 g : GoodE x
 c : cntP (tkC true x) = cnt2 toks a b
 m : (parW false (stI (eop x)) s (tkC false x)).length <= b - a
 l : a < b
theorem parW_f (s s' : Int) (l : List D) : parW false s s' l = if s' <= s then l else tP :: (l ++ [tQ]):=by
 unfold parW
 simp only [Bool.not_false,Bool.true_or,Bool.and_true,decide_eq_true_eq]
theorem parW_mono {s s1 s2 : Int} (h : s1 <= s2) (l : List D) : (parW false s s1 l).length <= (parW false s s2 l).length:=by
 rw [parW_f,parW_f]
 split <;> split <;> simp <;> omega
theorem parW_7 (s s1 : Int) (l : List D) : (parW false s s1 l).length <= l.length + 2:=by
 rw [parW_f];split <;> simp
theorem parW_own {s s' : Int} (h : s' <= s) (l : List D) : parW false s s' l = l:=by rw [parW_f,if_pos h]
theorem cnt_par (full : Bool) (s s' : Int) (l : List D) : cntP (parW full s s' l) = cntP l:=by
 unfold parW
 split
 ·rfl
 ·have e : tP :: (l ++ [tQ]) = [tP] ++ l ++ [tQ]:=by simp
  rw [e,cntP_app,cntP_app]
  show 0 + cntP l + 0 = cntP l
  omega
theorem cntP_cons (t : D) (l : List D) : cntP (t :: l) = (if pkB t then 1 else 0) + cntP l:=by
 unfold cntP
 rw [List.filter_cons]
 split
 ·simp;omega
 ·simp
theorem Rdd.up {toks : List D} {s s2 : Int} {x : D} {a b : Nat} (h : Rdd toks s2 x a b) (hs : s <= s2) : Rdd toks s x a b :=
 ⟨h.g,h.c,Nat.le_trans (parW_mono hs _) h.m,h.l⟩
def ops2 : List (List UInt8):=[wOr,wAnd,[61,61],[33,61],[60],[60,61],[62],[62,61],[105,110],[43],[45],[42]]
theorem ops2_is {op : List UInt8} (h : op ∈ ops2) : isOp2 op /\ op.length <= 2 ^ 47 /\ (if pkB (opTok op) then 1 else 0) = pkW op:=by
 have key : ∀ op ∈ ops2,(stI op = 0 ∨ stI op = 1 ∨ stI op = 3 ∨ stI op = 4 ∨ stI op = 5) /\ op.length <= 2 ^ 47 /\ (if pkB (opTok op) then 1 else 0) = pkW op:=by decide
 exact key op h
theorem Rdd.two {toks : List D} {op : List UInt8} (h : op ∈ ops2) {x y : D} {a b c : Nat} {st : St} (hst : st.1 = b) (hp : isP toks st op = true) (hx : Rdd toks (lstS op) x a b) (hy : Rdd toks (stI op + 1) y (b + 1) c) : Rdd toks (stI op) (twoD op x y) a c:=by
 obtain ⟨h2,hl,hk⟩:=ops2_is h
 have e1:=fun full=>tk_twoD (full:=full) hl h2 hx.g hy.g
 have hlx:=hx.l
 have hly:=hy.l
 refine ⟨good_two hl h2 hx.g hy.g,?_,?_,by omega⟩
 ·rw [e1,cntP_app,cntP_cons,cnt_par,cnt_par,hx.c,hy.c,hk]
  have:=cnt_is hp
  rw [hst] at this
  have q1:=cnt2_add (toks:=toks) (a:=a) (b:=b) (c:=c) (by omega) (by omega)
  have q2:=cnt2_add (toks:=toks) (a:=b) (b:=b + 1) (c:=c) (by omega) (by omega)
  omega
 ·rw [parW_own (show stI op <= stI (eop (twoD op x y)) from Int.le_refl _),e1]
  simp only [List.length_append,List.length_cons]
  have m1:=hx.m
  have m2:=hy.m
  omega
theorem Rdd.not {toks : List D} {x : D} {st : St} {b : Nat} (hp : isP toks st wNot = true) (hx : Rdd toks 2 x (st.1 + 1) b) : Rdd toks 2 (oneD wNot x) st.1 b:=by
 have hg:=good_one (op:=sNot) (.inr (.inl rfl)) hx.g
 have e1:=fun full=>tk_not (full:=full) hg rfl
 have hl:=hx.l
 refine ⟨hg,?_,?_,by omega⟩
 ·show cntP (tkC true (oneD sNot x)) = _
  rw [e1,cntP_cons,cnt_par,show sub0 (oneD sNot x) = x from rfl,hx.c]
  have q1:=cnt2_add (toks:=toks) (a:=st.1) (b:=st.1 + 1) (c:=b) (by omega) (by omega)
  rw [q1,cnt_is hp]
  rfl
 ·show (parW false (stI sNot) 2 (tkC false (oneD sNot x))).length <= _
  rw [parW_own (by decide),e1,show sub0 (oneD sNot x) = x from rfl]
  have m1:=hx.m
  simp only [List.length_cons];omega
theorem Rdd.neg {toks : List D} {x : D} {st : St} {b : Nat} (hp : isP toks st [45] = true) (hx : Rdd toks 6 x (st.1 + 1) b) : Rdd toks 6 (oneD wNeg x) st.1 b:=by
 have hg:=good_one (op:=sNeg) (.inr (.inr rfl)) hx.g
 have e1:=fun full=>tk_neg (full:=full) hg rfl
 have hl:=hx.l
 refine ⟨hg,?_,?_,by omega⟩
 ·show cntP (tkC true (oneD sNeg x)) = _
  rw [e1,cntP_cons,cnt_par,show sub0 (oneD sNeg x) = x from rfl,hx.c]
  have q1:=cnt2_add (toks:=toks) (a:=st.1) (b:=st.1 + 1) (c:=b) (by omega) (by omega)
  rw [q1,cnt_is hp]
  rfl
 ·show (parW false (stI sNeg) 6 (tkC false (oneD sNeg x))).length <= _
  rw [parW_own (by decide),e1,show sub0 (oneD sNeg x) = x from rfl]
  have m1:=hx.m
  simp only [List.length_cons];omega
theorem Rdd.val {toks : List D} {v : D} {a b : Nat} {s : Int} (hs : s <= 7) (hv : isVr v) (h : valB v = true) (hc : cntP (litT v) = cnt2 toks a b) (hm : (litT v).length <= b - a) (hl : a < b) : Rdd toks s (valE v) a b:=by
 have e1:=fun full=>tk_valE (full:=full) hv h
 obtain ⟨e0,_⟩:=valE_parts hv
 refine ⟨good_val hv h,by rw [e1,hc],?_,hl⟩
 rw [e0,parW_own (by rw [show stI sVal = 7 by decide];exact hs),e1];exact hm
theorem litB_2 {v : D} {b : Bool} (h : vk v = 2) : litB v b = (decide (0 <= vi v) || (b && decide (-9223372036854775808 < vi v))):=by
 unfold litB;rw [if_pos (by rw [h];decide)]
theorem litB_o {v : D} {b : Bool} (h : vk v ≠ 2) : litB v b = ((vk v == 1) || (vk v == 4) || ((vk v == 3) && formI 3 (vs v) 0)):=by
 unfold litB;rw [if_neg (by simpa using h)]
theorem valB_o {v : D} (h : vk v ≠ 5) (h1 : one1 v = true) : valB v = litB v false:=by
 have hk : (vk v != 5) = true:=by simpa using h
 unfold valB formedB
 simp only [hk,if_true,h1,Bool.not_true,Bool.false_eq_true,if_false]
theorem lit_num {n : Int} (h : 0 <= n) : valB (num n) = true /\ litT (num n) = [mkT 2 [] n] /\ litB (num n) true = true /\ one1 (num n) = true:=by
 have d : decide (n < 0) = false:=by simp only [decide_eq_false_iff_not];omega
 have d2 : decide (0 <= n) = true:=by simpa using h
 have a : ∀ b,litB (num n) b = true:=fun b=>by rw [litB_2 rfl,show vi (num n) = n from rfl,d2];rfl
 have b : one1 (num n) = true:=rfl
 refine ⟨by rw [valB_o (fun e=>by cases e) b,a],?_,a true,b⟩
 ·show (if decide (n < 0) then [mkT 5 [45] 0,mkT 2 [] (IntKind.i64.wrap (0 - n))] else [mkT 2 [] n]) = _
  rw [d];rfl
theorem lit_neg {n : Int} (h : 0 <= n) (h' : n < 2 ^ 63) : litB (num (IntKind.i64.wrap (0 - n))) true = true /\ one1 (num (IntKind.i64.wrap (0 - n))) = true /\ litT1 (num (IntKind.i64.wrap (0 - n))) = if n = 0 then [mkT 2 [] 0] else [mkT 5 [45] 0,mkT 2 [] n]:=by
 have w : IntKind.i64.wrap (0 - n) = -n:=by rw [show 0 - n = -n by omega];exact wrap_of _ (by omega) (by omega)
 rw [w]
 refine ⟨?_,rfl,?_⟩
 ·rw [litB_2 rfl,show vi (num (-n)) = -n from rfl,show decide (-9223372036854775808 < -n) = true by simp only [decide_eq_true_eq];omega];simp
 ·show (if decide (-n < 0) then [mkT 5 [45] 0,mkT 2 [] (IntKind.i64.wrap (0 - -n))] else [mkT 2 [] (-n)]) = _
  by_cases h0 : n = 0
  ·subst h0;rfl
  ·rw [if_pos (by simp only [decide_eq_true_eq];omega),if_neg h0,show (0 - -n) = n by omega,wrap_of _ (by omega) (by omega)]
theorem lit_text {s : List UInt8} (h : formI 3 s 0 = true) : textV s = .agg [.int .i64 3,.int .i64 0,.str s,.nils] /\ valB (textV s) = true /\ litT (textV s) = [mkT 3 s 0] /\ litB (textV s) true = true /\ one1 (textV s) = true:=by
 have hl : s.length <= 64:=by
  unfold formI at h
  simp only [show ((3 : Int) == 1) = false from rfl,show ((3 : Int) == 2) = false from rfl,Bool.false_eq_true,if_false,beq_self_eq_true,if_true,Bool.and_eq_true,decide_eq_true_eq] at h
  omega
 have e : textV s = .agg [.int .i64 3,.int .i64 0,.str s,.nils]:=by
  unfold textV
  rw [Nat.min_eq_left hl,List.take_length]
 rw [e]
 have a : ∀ b,litB (.agg [.int .i64 3,.int .i64 0,.str s,.nils]) b = true:=fun b=>by
  rw [litB_o (fun e=>by cases e),show vs (.agg [.int .i64 3,.int .i64 0,.str s,.nils]) = s from rfl,h];rfl
 have b : one1 (.agg [.int .i64 3,.int .i64 0,.str s,.nils]) = true:=by
  show ((0 : Int) == 0 && decide ((s.length : Int) <= 64)) = true
  rw [show decide ((s.length : Int) <= 64) = true by simp only [decide_eq_true_eq];omega];rfl
 refine ⟨rfl,?_,rfl,a true,b⟩
 rw [valB_o (fun e=>by cases e) b,a]
theorem lit_time {n : Int} (h : formI 4 [] n = true) : valB (timeV n) = true /\ litT (timeV n) = [mkT 4 [] n] /\ litB (timeV n) true = true /\ one1 (timeV n) = true:=by
 have b : one1 (timeV n) = true:=by
  show (decide (0 <= n) && decide (n <= 1099511627776)) = true
  unfold formI at h
  simp only [show ((4 : Int) == 1) = false from rfl,show ((4 : Int) == 2) = false from rfl,show ((4 : Int) == 3) = false from rfl,Bool.false_eq_true,if_false,beq_self_eq_true,if_true,Bool.true_and] at h
  exact h
 refine ⟨?_,rfl,rfl,b⟩
 rw [valB_o (fun e=>by cases e) b];rfl
theorem lit_truth (b : Bool) : valB (truthV b) = true /\ litT (truthV b) = [mkT 1 (if b then wTrue else wFalse) 0] /\ litB (truthV b) true = true /\ one1 (truthV b) = true:=by
 cases b <;> exact ⟨by decide,rfl,by decide,by decide⟩
theorem lit_ok {toks : List D} {st : St} (h : (literalP toks st).2.1 = true) : valB (literalP toks st).1 = true /\ litB (literalP toks st).1 true = true /\ one1 (literalP toks st).1 = true /\ leaf1 (literalP toks st).1 = true ∧
  litT (literalP toks st).1 = [nowS toks st] /\ cnt2 toks st.1 (st.1 + 1) = 0 /\ (literalP toks st).2.2 = (st.1 + 1,0) /\ pkB (nowS toks st) = false:=by
 have lf : ∀ v : D,valB v = true -> vk v ≠ 5 -> leaf1 v = true:=fun v hv hk=>(valB_dom hv).elim id fun q=>by
  unfold valB at hv
  split at hv
  ·cases hv
  ·rw [if_pos (by simpa using hk)] at hv;exact litB_leaf hv
 have key : ∀ k : Int,k = 2 ∨ k = 3 ∨ k = 4 -> tk (nowS toks st) = k -> st.2 = 0 /\ (∃ s n,nowS toks st = mkT k s n /\ formI k s n = true) /\ cnt2 toks st.1 (st.1 + 1) = 0 /\ pkB (nowS toks st) = false:=fun k hk e=>by
  obtain ⟨a1,a2,a3⟩:=now_at (toks:=toks) (st:=st) (by omega)
  have hp : pkB (nowS toks st) = false:=pk_else (by omega) (by omega)
  refine ⟨a1,?_,by rw [cnt2_one a2,hp];rfl,hp⟩
  unfold formT at a3
  rw [e] at a3
  refine ⟨ts (nowS toks st),tn (nowS toks st),?_,a3⟩
  rw [<- e]
  have hsh : ∀ t : D,tk t ≠ 0 -> t = mkT (tk t) (ts t) (tn t):=fun t ht=>by
   unfold tk at ht
   split at ht
   ·rfl
   ·exact absurd rfl ht
  exact hsh _ (by omega)
 unfold literalP at h ⊢
 split
 ·rename_i g
  obtain ⟨a1,⟨s,n,e,f⟩,c,hp⟩:=key 2 (by simp) (by simpa using g)
  unfold formI at f
  simp only [show ((2 : Int) == 1) = false from rfl,Bool.false_eq_true,if_false,beq_self_eq_true,if_true,Bool.and_eq_true,decide_eq_true_eq,beq_iff_eq] at f
  obtain ⟨rfl,hn⟩:=f
  rw [e,tn_mk,a1]
  obtain ⟨q1,q2,q3,q4⟩:=lit_num hn
  exact ⟨q1,q3,q4,rfl,q2,c,rfl,by rw [<- e];exact hp⟩
 split
 ·rename_i g
  obtain ⟨a1,⟨s,n,e,f⟩,c,hp⟩:=key 3 (by simp) (by simpa using g)
  have hn : n = 0:=by
   unfold formI at f
   simp only [show ((3 : Int) == 1) = false from rfl,show ((3 : Int) == 2) = false from rfl,Bool.false_eq_true,if_false,beq_self_eq_true,if_true,Bool.and_eq_true,beq_iff_eq] at f
   exact f.2
  subst hn
  rw [e,ts_mk,a1]
  obtain ⟨q0,q1,q2,q3,q4⟩:=lit_text f
  exact ⟨q1,q3,q4,by rw [q0];rfl,q2,c,rfl,by rw [<- e];exact hp⟩
 split
 ·rename_i g
  obtain ⟨a1,⟨s,n,e,f⟩,c,hp⟩:=key 4 (by simp) (by simpa using g)
  have hn : s = []:=by
   unfold formI at f
   simp only [show ((4 : Int) == 1) = false from rfl,show ((4 : Int) == 2) = false from rfl,show ((4 : Int) == 3) = false from rfl,Bool.false_eq_true,if_false,beq_self_eq_true,if_true,Bool.and_eq_true,beq_iff_eq] at f
   exact f.1.1
  subst hn
  rw [e,tn_mk,a1]
  obtain ⟨q1,q2,q3,q4⟩:=lit_time f
  exact ⟨q1,q3,q4,rfl,q2,c,rfl,by rw [<- e];exact hp⟩
 split
 ·rename_i g
  have hw : ∀ w,w = wTrue ∨ w = wFalse -> isP toks st w = true -> st.2 = 0 /\ nowS toks st = mkT 1 w 0 /\ cnt2 toks st.1 (st.1 + 1) = 0 /\ pkB (nowS toks st) = false:=fun w hw hp=>by
   obtain ⟨a1,a2,a3,a4⟩:=is_at hp
   have a5 : tk (nowS toks st) = 1:=by
    rcases a4 with ⟨a4,_⟩ | ⟨_,a5⟩
    ·exact a4
    ·exfalso
     rcases hw with rfl | rfl
     ·exact absurd a5 (by decide)
     ·exact absurd a5 (by decide)
   obtain ⟨_,_,b3⟩:=now_at (toks:=toks) (st:=st) (by omega)
   have hz : tn (nowS toks st) = 0:=by
    unfold formT formI at b3
    rw [a5] at b3
    simp only [beq_self_eq_true,if_true,Bool.and_eq_true,beq_iff_eq] at b3
    exact b3.2
   have hsh : ∀ t : D,tk t ≠ 0 -> t = mkT (tk t) (ts t) (tn t):=fun t ht=>by
    unfold tk at ht
    split at ht
    ·rfl
    ·exact absurd rfl ht
   refine ⟨a1,?_,?_,?_⟩
   ·rw [hsh (nowS toks st) (by omega),a5,a3,hz]
   ·rw [cnt_is hp];rcases hw with rfl | rfl <;> decide
   ·rw [pk_word a5,a3];rcases hw with rfl | rfl <;> decide
  rw [Bool.or_eq_true] at g
  rcases g with g | g
  ·obtain ⟨a1,e,c,hp⟩:=hw wTrue (.inl rfl) g
   rw [e,ts_mk,a1]
   obtain ⟨q1,q2,q3,q4⟩:=lit_truth true
   rw [show (wTrue == wTrue) = true by decide]
   exact ⟨q1,q3,q4,rfl,q2,c,rfl,by rw [<- e];exact hp⟩
  ·obtain ⟨a1,e,c,hp⟩:=hw wFalse (.inr rfl) g
   rw [e,ts_mk,a1]
   obtain ⟨q1,q2,q3,q4⟩:=lit_truth false
   rw [show (wFalse == wTrue) = false by decide]
   exact ⟨q1,q3,q4,rfl,q2,c,rfl,by rw [<- e];exact hp⟩
 ·rename_i g1 g2 g3 g4
  rw [if_neg g1,if_neg g2,if_neg g3,if_neg g4] at h;cases h
end GP
namespace GP
open Go Go.Proofs
set_option maxRecDepth 100000
def wL (l : List D) : Nat:=(l.map fun x=>(litT1 x).length + 1).sum
theorem wL_app (l m : List D) : wL (l ++ m) = wL l + wL m:=by simp [wL]
theorem wL_cons (x : D) (l : List D) : wL (x :: l) = (litT1 x).length + 1 + wL l:=by simp [wL]
theorem cmL_len (l : List D) : (cmL litT1 l).length = wL l - 1:=by
 have key : ∀ l : List D,((l.map fun x=>tC :: litT1 x).flatten).length = wL l:=by
  intro l
  induction l with
  | nil=>rfl
  | cons x l ih=>simp only [List.map_cons,List.flatten_cons,List.length_append,List.length_cons,ih,wL_cons]
 simp only [cmL,List.length_drop,key]
theorem litT1_can (x : D) : litT1 (can x) = litT1 x:=by unfold litT1;simp only [can_vk,can_vi,can_vs]
theorem litB_can (x : D) (b : Bool) : litB (can x) b = litB x b:=by unfold litB;simp only [can_vk,can_vi,can_vs]
theorem wL_insU : ∀ (zs : List D) (x : D),wL (insU zs x) <= wL zs + ((litT1 x).length + 1)
 | [],x=>by simp [insU,wL]
 | z :: r,x=>by
  unfold insU
  split
  ·have:=wL_insU r x
   simp only [wL_cons];omega
  ·split
   ·simp only [wL_cons];omega
   ·simp only [wL_cons];omega
theorem wL_bagR (xs : List D) : wL (bagR xs) <= wL xs:=by
 have key : ∀ (l zs : List D),wL ((l.map can).foldl insU zs) <= wL zs + wL l:=by
  intro l
  induction l with
  | nil=>intro zs;simp [wL]
  | cons x l ih =>
   intro zs
   simp only [List.map_cons,List.foldl_cons]
   have h1:=ih (insU zs (can x))
   have h2:=wL_insU zs (can x)
   rw [litT1_can] at h2
   rw [wL_cons];omega
 have:=key xs []
 unfold bagR
 simpa [wL] using this
structure Itm (v : D) : Prop where
 b : litB v true = true
 o : one1 v = true
 l : leaf1 v = true
 r : isVr v
 c : cntP (litT1 v) = 0
theorem leaf1_litT {v : D} (h : leaf1 v = true) : litT v = litT1 v:=by unfold litT;rw [if_pos h]
theorem item_ok {toks : List D} (ht : toks.all tokB = true) {st : St} (h : (itemP toks st).2.2 = 0) : Itm (itemP toks st).1 /\ (litT1 (itemP toks st).1).length <= (itemP toks st).2.1 - st.1 /\ cnt2 toks st.1 (itemP toks st).2.1 = 0 /\ st.1 < (itemP toks st).2.1:=by
 have hr:=item_isVr ht st
 unfold itemP at h hr ⊢
 split
 ·rename_i g
  rw [if_pos g] at h hr
  simp only at h hr ⊢
  obtain ⟨k1,k2,k3,k4⟩:=kind_ok (by decide) h
  simp only at k2 k4
  rw [k4] at hr ⊢
  simp only at hr ⊢
  have hrg:=(now_rng ht (st.1 + 1,st.2)).2
  have hn : 0 <= tn (nowS toks (st.1 + 1,st.2)):=by
   unfold formT formI at k3
   rw [k1] at k3
   simp only [show ((2 : Int) == 1) = false from rfl,Bool.false_eq_true,if_false,beq_self_eq_true,if_true,Bool.and_eq_true,decide_eq_true_eq] at k3
   exact k3.2
  obtain ⟨q1,q2,q3⟩:=lit_neg hn hrg.2
  refine ⟨⟨q1,q2,rfl,hr,?_⟩,?_,?_,by omega⟩
  ·rw [q3];split <;> rfl
  ·rw [q3];split <;> simp <;> omega
  ·rw [cnt2_add (b:=st.1 + 1) (by omega) (by omega),cnt_is g,cnt2_one k2,pk_else (by omega) (by omega)]
   rfl
 ·rename_i g
  rw [if_neg g] at h hr
  split
  ·rename_i g2
   obtain ⟨q1,q2,q3,q4,q5,q6,q7,q8⟩:=lit_ok g2
   rw [leaf1_litT q4] at q5
   refine ⟨⟨q2,q3,q4,?_,?_⟩,?_,?_,?_⟩
   ·exact lit_isVr ht st
   ·show cntP (litT1 (literalP toks st).1) = 0
    rw [q5]
    unfold cntP
    rw [List.filter_cons,q8];rfl
   ·show (litT1 (literalP toks st).1).length <= (literalP toks st).2.2.1 - st.1
    rw [q5,q7];simp
   ·show cnt2 toks st.1 (literalP toks st).2.2.1 = 0
    rw [q7];exact q6
   ·show st.1 < (literalP toks st).2.2.1
    rw [q7];simp
  ·rename_i g2
   rw [if_neg g2] at h
   exfalso
   simp only at h
   unfold failP at h
   split at h
   ·cases h
   ·rename_i g3;exact g3 (by simpa using h)
theorem bagL_ok {toks : List D} (ht : toks.all tokB = true) : ∀ (f : Nat) (out : List D) (st : St) (r : List D × St),bagL toks f out st = some r -> r.2.2 = 0 -> (∀ v ∈ out,Itm v) -> (∀ v ∈ r.1,Itm v) /\ wL r.1 <= wL out + (r.2.1 - st.1) /\ cnt2 toks st.1 r.2.1 = 0 /\ st.1 <= r.2.1 /\ out.length <= r.1.length
 | 0,_,_,_,h,_,_=>by simp [bagL] at h
 | f + 1,out,st,r,h,h0,ho=>by
  simp only [bagL] at h
  split at h
  ·rename_i g
   have s2:=step_bagL toks f _ _ _ h
   have e2:=s2.e0 h0
   obtain ⟨i1,i2,i3,i4⟩:=item_ok ht e2
   obtain ⟨k1,k2,k3,k4,k5⟩:=bagL_ok ht f _ _ r h h0 (fun v hv=>by
    rcases List.mem_append.1 hv with hv | hv
    ·exact ho v hv
    ·rw [List.mem_singleton] at hv;subst hv;exact i1)
   simp only at i2 i3 i4
   refine ⟨k1,?_,?_,by omega,by simp at k5;omega⟩
   ·rw [wL_app,wL_cons] at k2
    simp only [wL,List.map_nil,List.sum_nil,Nat.add_zero] at k2 ⊢
    omega
   ·have q1:=cnt2_add (toks:=toks) (a:=st.1) (b:=st.1 + 1) (c:=r.2.1) (by omega) (by omega)
    have q2:=cnt2_add (toks:=toks) (a:=st.1 + 1) (b:=(itemP toks (st.1 + 1,st.2)).2.1) (c:=r.2.1) (by omega) (by omega)
    have q3:=cnt_is g
    have q4 : pkW [44] = 0:=by decide
    omega
  ·injection h with h;subst h
   exact ⟨ho,by simp,cnt2_self _ _,Nat.le_refl _,Nat.le_refl _⟩
theorem vk0_eq {xs : List D} {k : Int} (h : ∀ x ∈ xs,vk x = k) (hne : xs ≠ []) : vk0 xs = k:=by
 cases xs with
 | nil=>exact absurd rfl hne
 | cons x l=>exact h x (by simp)
theorem bag_formed {xs : List D} (h0 : (bagV xs).2 = 0) (hx : ∀ x ∈ xs,Itm x) (hne : xs ≠ []) : (bagV xs).1 = mkV 5 0 [] false (bagR xs) /\ valB (mkV 5 0 [] false (bagR xs)) = true /\ bagR xs ≠ []:=by
 unfold bagV at h0 ⊢
 split at h0
 ·cases h0
 ·rename_i g1
  split at h0
  ·cases h0
  ·rename_i g2
   split at h0
   ·cases h0
   ·rename_i g3
    rw [if_neg g1,if_neg g2,if_neg g3]
    have hg : good1 xs:=fun x hx'=>(hx x hx').o
    obtain ⟨hr,hm⟩:=bagR_spec hg
    have hkind : ∀ x ∈ xs,vk x ≠ 0 /\ vk x = vk0 xs:=fun x hx'=>by
     have hb : badB xs x = false:=by
      cases hb : badB xs x with
      | false=>rfl
      | true=>exact absurd (List.any_eq_true.2 ⟨x,hx',hb⟩) g2
     unfold badB at hb
     simp only [Bool.or_eq_false_iff,beq_eq_false_iff_ne,bne_eq_false_iff_eq] at hb
     exact ⟨hb.1.1,hb.2⟩
    have hne2 : bagR xs ≠ []:=by
     cases xs with
     | nil=>exact absurd rfl hne
     | cons x l =>
      intro e
      have:=(hm (can x)).2 ⟨x,by simp,rfl⟩
      rw [e] at this;cases this
    have hk2 : ∀ y ∈ bagR xs,vk y = vk0 xs:=fun y hy=>by
     obtain ⟨x,hx',rfl⟩:=(hm y).1 hy
     rw [can_vk];exact (hkind x hx').2
    have hk0:=vk0_eq hk2 hne2
    have hadj : adjB singleD (bagR xs) = true:=by
     unfold adjB
     refine List.all_eq_true.2 fun i hi=>?_
     have hi : i < (bagR xs).length:=by simpa using hi
     have hy:=List.getElem_mem hi
     obtain ⟨x,hx',he⟩:=(hm _).1 hy
     unfold okEl
     rw [List.getElem?_eq_getElem hi]
     simp only
     have o1 : one1 (bagR xs)[i] = true:=by rw [he];exact one1_can (hx x hx').o
     have k1 : (vk (bagR xs)[i] != 0) = true:=by
      have:=(hkind x hx').1
      rw [he,can_vk];simpa using this
     have k2 : (vk (bagR xs)[i] == vk0 (bagR xs)) = true:=by rw [hk0,hk2 _ hy];simp
     rw [o1,k1,k2]
     simp only [Bool.true_and]
     by_cases hz : i = 0
     ·subst hz;rfl
     ·have hp : i - 1 < (bagR xs).length:=by omega
      rw [List.getElem?_eq_getElem hp]
      have:=List.pairwise_iff_getElem.1 hr (i - 1) i hp hi (by omega)
      simp only [Bool.or_eq_true,decide_eq_true_eq]
      exact .inr this
    refine ⟨rfl,?_,hne2⟩
    have hl16 : decide ((16 : Int) < (bagR xs).length) = false:=by simpa using g3
    unfold valB formedB
    simp only [vk_mk,vi_mk,vs_mk,vl_mk]
    rw [show ((5 : Int) != 5) = false from rfl]
    simp only [Bool.false_eq_true,if_false]
    rw [show ((0 : Int) != 0 || ([] : List UInt8) != [] || decide ((16 : Int) < (bagR xs).length)) = false by rw [hl16];rfl]
    simp only [Bool.false_eq_true,if_false,hadj,Bool.not_true,Bool.and_eq_true,decide_eq_true_eq]
    refine ⟨List.all_eq_true.2 fun y hy=>?_,by cases hb : bagR xs with
     | nil=>exact absurd hb hne2
     | cons a l=>simp⟩
    obtain ⟨x,hx',rfl⟩:=(hm y).1 hy
    rw [litB_can];exact (hx x hx').b
theorem cnt_cm {l : List D} (h : ∀ x ∈ l,cntP (litT1 x) = 0) : cntP (cmL litT1 l) = 0:=by
 have key : ∀ l : List D,(∀ x ∈ l,cntP (litT1 x) = 0) -> cntP ((l.map fun x=>tC :: litT1 x).flatten) = 0:=by
  intro l
  induction l with
  | nil=>intro _;rfl
  | cons x l ih =>
   intro h
   simp only [List.map_cons,List.flatten_cons,cntP_app,cntP_cons]
   rw [h x (by simp),ih fun y hy=>h y (by simp [hy])]
   rfl
 have:=key l h
 unfold cmL
 unfold cntP at this ⊢
 have e : ∀ m : List D,(m.filter pkB).length = 0 -> ((m.drop 1).filter pkB).length = 0:=fun m hm=>by
  cases m with
  | nil=>rfl
  | cons a m=>rw [List.filter_cons] at hm;split at hm <;> simp_all
 exact e _ this
theorem bag_ok {toks : List D} (ht : toks.all tokB = true) {f fr : Nat} {st : St} {r : D × St} (h : bagP toks f fr st = some r) (h0 : r.2.2 = 0) :
  ∃ v,r.1 = valE v /\ isVr v /\ valB v = true /\ cnt2 toks st.1 r.2.1 = 0 /\ cntP (litT v) = 1 /\ (litT v).length <= 1 + (r.2.1 - st.1) /\ st.1 < r.2.1:=by
 unfold bagP at h
 split at h
 ·cases h
 ·rename_i out st1 hb
  split at h
  ·rename_i hz
   injection h with h;subst h
   simp only at h0
   rw [h0] at hz;exact absurd hz (by decide)
  ·rename_i hz
   have hz : (mustP toks [93] st1).2 = 0:=by simpa using hz
   injection h with h;subst h
   simp only at h0 ⊢
   split at h0
   ·exfalso
    unfold failP at h0
    rw [hz] at h0
    cases h0
   ·rename_i hv
    rw [if_neg hv]
    have hv : (bagV out).2 = 0:=by simpa using hv
    obtain ⟨m1,m2⟩:=must_ok hz
    have e1:=(step_must toks [93] st1).e0 hz
    have e0:=(step_bagL toks f _ _ _ hb).e0 e1
    obtain ⟨i1,i2,i3,i4⟩:=item_ok ht e0
    obtain ⟨k1,k2,k3,k4,k5⟩:=bagL_ok ht f _ _ _ hb e1 (fun v hv=>by rw [List.mem_singleton] at hv;subst hv;exact i1)
    have hne : out ≠ []:=by intro e;subst e;simp at k5
    obtain ⟨b1,b2,b3⟩:=bag_formed hv k1 hne
    have hw:=wL_bagR out
    have hm:=(bagR_spec (xs:=out) fun x hx=>(k1 x hx).o).2
    refine ⟨_,by rw [b1],by rw [<- b1];exact bagV_isVr fun x hx=>(k1 x hx).r,b2,?_,?_,?_,by rw [m2];simp only at k4 ⊢;omega⟩
    ·rw [m2]
     simp only at k3 k4 ⊢
     have q1:=cnt2_add (toks:=toks) (a:=st.1) (b:=(itemP toks st).2.1) (c:=st1.1 + 1) (by omega) (by omega)
     have q2:=cnt2_add (toks:=toks) (a:=(itemP toks st).2.1) (b:=st1.1) (c:=st1.1 + 1) (by omega) (by omega)
     have q3:=cnt_is m1
     have q4 : pkW [93] = 0:=by decide
     omega
    ·have hz : ∀ x ∈ bagR out,cntP (litT1 x) = 0:=fun y hy=>by
      obtain ⟨x,hx,rfl⟩:=(hm y).1 hy
      rw [litT1_can];exact (k1 x hx).c
     unfold litT leaf1
     simp only [vk_mk,vl_mk]
     rw [if_neg (by decide),cntP_cons,cntP_app,cnt_cm hz]
     rfl
    ·rw [m2]
     simp only at k2 k4 ⊢
     unfold litT leaf1
     simp only [vk_mk,vl_mk]
     rw [if_neg (by decide)]
     simp only [List.length_cons,List.length_append,List.length_nil,cmL_len]
     rw [wL_cons] at k2
     simp only [wL,List.map_nil,List.sum_nil,Nat.add_zero] at k2 hw ⊢
     omega
end GP
namespace GP
open Go Go.Proofs
set_option maxRecDepth 100000
def lvS : Lv -> Int
 | .expr=>0 | .and=>1 | .not=>2 | .cmp=>3 | .sum=>4 | .prod=>5 | .unary=>6 | .plain=>7 | .inner=>7
def RdL (toks : List D) (lv : Lv) (x : D) (a b : Nat) : Prop:=match lv with
 | .inner=>GoodE x /\ cntP (tkC true x) = cnt2 toks a b /\ (tkC false x).length + 2 <= b - a /\ a < b
 | lv=>Rdd toks (lvS lv) x a b
theorem rowL_R {toks : List D} {P : Part} {s : Int} {bs : List (List UInt8)} (hb : ∀ w ∈ bs,w ∈ ops2 /\ stI w = s /\ lstS w = s) (hS : partS P) (hP : ∀ st x st2,P toks st = some (x,st2) -> st2.2 = 0 -> Rdd toks (s + 1) x st.1 st2.1) :
  ∀ (f : Nat) (x : D) (st : St) (y : D) (st2 : St) (a : Nat),rowL toks P bs f x st = some (y,st2) -> st2.2 = 0 -> Rdd toks s x a st.1 -> Rdd toks s y a st2.1
 | 0,_,_,_,_,_,h,_,_=>by simp [rowL] at h
 | f + 1,x,st,y,st2,a,h,h0,hx=>by
  simp only [rowL] at h
  split at h
  ·injection h with h;injection h with h1 h2;subst h1;subst h2;exact hx
  ·split at h
   ·injection h with h;injection h with h1 h2;subst h1;subst h2;exact hx
   ·rename_i w hw
    split at h
    ·cases h
    ·rename_i z st3 hz
     have e3:=(rowL_S hS f _ _ _ h).e0 h0
     obtain ⟨w1,w2,w3⟩:=hb w (firstP_mem hw)
     have hz':=hP _ _ _ hz e3
     have:=Rdd.two w1 rfl (firstP_is hw) (by rw [w3];exact hx) (by rw [w2];exact hz')
     rw [w2] at this
     exact rowL_R hb hS hP f _ st3 y st2 a h h0 this
theorem rowP_R {toks : List D} {P : Part} {s : Int} {bs : List (List UInt8)} (hb : ∀ w ∈ bs,w ∈ ops2 /\ stI w = s /\ lstS w = s) (hS : partS P) (hP : ∀ st x st2,P toks st = some (x,st2) -> st2.2 = 0 -> Rdd toks (s + 1) x st.1 st2.1)
  {f : Nat} {st : St} {y : D} {st2 : St} (h : rowP toks P bs f st = some (y,st2)) (h0 : st2.2 = 0) : Rdd toks s y st.1 st2.1:=by
 unfold rowP at h
 split at h
 ·cases h
 ·rename_i x st1 hx
  have e1:=(rowL_S hS f _ _ _ h).e0 h0
  exact rowL_R hb hS hP f x st1 y st2 st.1 h h0 ((hP _ _ _ hx e1).up (by omega))
theorem lv_R {toks : List D} (ht : toks.all tokB = true) : ∀ (f : Nat) (lv : Lv) (st : St) (x : D) (st2 : St),pLv f lv toks st = some (x,st2) -> st2.2 = 0 -> RdL toks lv x st.1 st2.1
 | 0,_,_,_,_,h,_=>by cases h
 | f + 1,lv,st,x,st2,h,h0=>by
  cases lv with
  | expr=>exact rowP_R (s:=0) (by decide) (lv_S f .and) (fun st x st2 h h0=>lv_R ht f .and st x st2 h h0) h h0
  | and=>exact rowP_R (s:=1) (by decide) (lv_S f .not) (fun st x st2 h h0=>lv_R ht f .not st x st2 h h0) h h0
  | sum=>exact rowP_R (s:=4) (by decide) (lv_S f .prod) (fun st x st2 h h0=>lv_R ht f .prod st x st2 h h0) h h0
  | prod=>exact rowP_R (s:=5) (by decide) (lv_S f .unary) (fun st x st2 h h0=>lv_R ht f .unary st x st2 h h0) h h0
  | not =>
   simp only [pLv] at h
   split at h
   ·rename_i g
    obtain ⟨z,hz⟩ : ∃ z,pLv f .not toks (st.1 + 1,st.2) = z:=⟨_,rfl⟩
    rw [hz] at h
    cases z with
    | none=>cases h
    | some z =>
     obtain ⟨y,st1⟩:=z
     simp only [oneS,Option.some.injEq,Prod.mk.injEq] at h
     obtain ⟨h1,h2⟩:=h
     subst h1;subst h2
     exact Rdd.not g (lv_R ht f .not _ y st1 hz h0)
   ·exact (show Rdd toks 3 x st.1 st2.1 from lv_R ht f .cmp st x st2 h h0).up (by decide)
  | unary =>
   simp only [pLv] at h
   split at h
   ·rename_i g
    obtain ⟨z,hz⟩ : ∃ z,pLv f .unary toks (st.1 + 1,st.2) = z:=⟨_,rfl⟩
    rw [hz] at h
    cases z with
    | none=>cases h
    | some z =>
     obtain ⟨y,st1⟩:=z
     simp only [oneS,Option.some.injEq,Prod.mk.injEq] at h
     obtain ⟨h1,h2⟩:=h
     subst h1;subst h2
     exact Rdd.neg g (lv_R ht f .unary _ y st1 hz h0)
   ·exact (show Rdd toks 7 x st.1 st2.1 from lv_R ht f .plain st x st2 h h0).up (by decide)
  | cmp =>
   simp only [pLv] at h
   obtain ⟨z,hz⟩ : ∃ z,pLv f .sum toks st = z:=⟨_,rfl⟩
   rw [hz] at h
   cases z with
   | none=>cases h
   | some z =>
    obtain ⟨y,st1⟩:=z
    simp only [cmpS2] at h
    split at h
    ·injection h with h;injection h with h1 h2;subst h1;subst h2
     exact (show Rdd toks 4 y st.1 st1.1 from lv_R ht f .sum st y st1 hz h0).up (by decide)
    ·rename_i w hw
     split at h
     ·cases h
     ·rename_i u st3 hu
      injection h with h;injection h with h1 h2;subst h1;subst h2
      have e1:=(is_at (firstP_is hw)).1
      have key : ∀ w ∈ cmpW,w ∈ ops2 /\ stI w = 3 /\ lstS w = 4:=by decide
      obtain ⟨w1,w2,w3⟩:=key w (firstP_mem hw)
      have:=Rdd.two w1 rfl (firstP_is hw) (by rw [w3];exact lv_R ht f .sum st y st1 hz e1) (by rw [w2];exact lv_R ht f .sum _ u st3 hu h0)
      rw [w2] at this
      exact this
  | inner =>
   simp only [pLv] at h
   obtain ⟨z,hz⟩ : ∃ z,pLv f .expr toks (mustP toks [40] st) = z:=⟨_,rfl⟩
   rw [hz] at h
   cases z with
   | none=>cases h
   | some z =>
    obtain ⟨y,st1⟩:=z
    simp only [innS,Option.some.injEq,Prod.mk.injEq] at h
    obtain ⟨h1,h2⟩:=h
    subst h1;subst h2
    obtain ⟨m1,m2⟩:=must_ok h0
    have e1:=(step_must toks [41] st1).e0 h0
    have hR : Rdd toks 0 y (mustP toks [40] st).1 st1.1:=lv_R ht f .expr _ y st1 hz e1
    have e0:=(lv_S f .expr toks _ (y,st1) hz).e0 e1
    obtain ⟨n1,n2⟩:=must_ok e0
    rw [n2] at hR
    rw [m2]
    simp only at hR ⊢
    have hl:=hR.l
    refine ⟨hR.g,?_,?_,by omega⟩
    ·rw [hR.c]
     have q1:=cnt2_add (toks:=toks) (a:=st.1) (b:=st.1 + 1) (c:=st1.1 + 1) (by omega) (by omega)
     have q2:=cnt2_add (toks:=toks) (a:=st.1 + 1) (b:=st1.1) (c:=st1.1 + 1) (by omega) (by omega)
     have q3:=cnt_is m1
     have q4:=cnt_is n1
     have q5 : pkW [40] = 0 /\ pkW [41] = 0:=by decide
     omega
    ·have:=hR.m
     rw [parW_own (by have:=hR.g.parts.1;exact this)] at this
     omega
  | plain =>
   show Rdd toks 7 x st.1 st2.1
   simp only [pLv,plainP] at h
   split at h
   ·rename_i g
    injection h with h;injection h with h1 h2;subst h1;subst h2
    obtain ⟨q1,q2,q3,q4,q5,q6,q7,q8⟩:=lit_ok g
    rw [q7]
    refine Rdd.val (by decide) (lit_isVr ht st) q1 ?_ ?_ (by simp)
    ·rw [q5];simp only;rw [q6];unfold cntP;rw [List.filter_cons,q8];rfl
    ·rw [q5];simp
   split at h
   ·rename_i g
    injection h with h;injection h with h1 h2;subst h1;subst h2
    have hg : GoodE (leafD wNow [] []):=good_leaf (.inl ⟨rfl,rfl,rfl⟩) (by simp) (by simp)
    refine ⟨hg,?_,?_,by simp⟩
    ·rw [tk_now hg rfl];simp only;rw [cnt_is g];rfl
    ·rw [parW_own (show (7 : Int) <= stI (eop (leafD wNow [] [])) from (by decide : (7 : Int) <= stI wNow)),tk_now hg rfl];simp
   split at h
   ·have hI : GoodE x /\ cntP (tkC true x) = cnt2 toks st.1 st2.1 /\ (tkC false x).length + 2 <= st2.1 - st.1 /\ st.1 < st2.1:=lv_R ht f .inner st x st2 h h0
    exact ⟨hI.1,hI.2.1,Nat.le_trans (parW_7 _ _ _) hI.2.2.1,hI.2.2.2⟩
   split at h
   ·rename_i g
    obtain ⟨v,e,hv,h1,h2,h3,h4,h5⟩:=bag_ok ht h h0
    simp only at e h2 h4 h5
    subst e
    refine Rdd.val (by decide) hv h1 ?_ (by omega) (by omega)
    rw [h3,cnt2_add (b:=st.1 + 1) (by omega) (by omega),cnt_is g,h2]
    rfl
   split at h
   ·rename_i g
    obtain ⟨z,hz⟩ : ∃ z,pLv f .inner toks (st.1 + 1,st.2) = z:=⟨_,rfl⟩
    rw [hz] at h
    cases z with
    | none=>cases h
    | some z =>
     obtain ⟨y,st1⟩:=z
     simp only [oneS,Option.some.injEq,Prod.mk.injEq] at h
     obtain ⟨h1,h2⟩:=h
     subst h1;subst h2
     have hI : GoodE y /\ cntP (tkC true y) = cnt2 toks (st.1 + 1) st1.1 /\ (tkC false y).length + 2 <= st1.1 - (st.1 + 1) /\ st.1 + 1 < st1.1:=lv_R ht f .inner _ y st1 hz h0
     obtain ⟨i1,i2,i3,i4⟩:=hI
     have hg:=good_one (op:=sSize) (.inl rfl) i1
     have e1:=fun full=>tk_size (full:=full) hg rfl
     refine ⟨hg,?_,?_,by omega⟩
     ·show cntP (tkC true (oneD sSize y)) = _
      rw [e1,cntP_cons,cntP_cons,cntP_app,show sub0 (oneD sSize y) = y from rfl,i2]
      have q1:=cnt2_add (toks:=toks) (a:=st.1) (b:=st.1 + 1) (c:=st1.1) (by omega) (by omega)
      have q2:=cnt_is g
      have q3 : pkW wSize = 1:=by decide
      show 1 + (0 + (cnt2 toks (st.1 + 1) st1.1 + 0)) = _
      omega
     ·show (parW false (stI sSize) 7 (tkC false (oneD sSize y))).length <= _
      rw [parW_own (by decide),e1,show sub0 (oneD sSize y) = y from rfl]
      simp only [List.length_cons,List.length_append,List.length_nil]
      omega
   split at h
   ·rename_i g
    injection h with h;injection h with h1 h2;subst h1;subst h2
    obtain ⟨m1,m2⟩:=must_ok h0
    have e2:=(step_must toks [41] _).e0 h0
    obtain ⟨k1,k2,k3,k4⟩:=kind_ok (by decide) e2
    have e1:=(step_kind toks (k:=3) (by decide) _).e0 e2
    obtain ⟨n1,n2⟩:=must_ok e1
    rw [n2] at k1 k2 k3 k4
    rw [n2,k4] at m1 m2
    simp only at m1 m2 n1 k2
    rw [n2,k4,m2]
    simp only
    obtain ⟨t,htt⟩ : ∃ t,nowS toks (st.1 + 1 + 1,0) = t:=⟨_,rfl⟩
    have hrg:=(now_rng ht (st.1 + 1 + 1,0)).1
    rw [htt] at k1 k2 k3 hrg ⊢
    have hf : formI 3 (ts t) 0 = true /\ tn t = 0:=by
     unfold formT at k3
     rw [k1] at k3
     have hz : tn t = 0:=by
      unfold formI at k3
      simp only [show ((3 : Int) == 1) = false from rfl,show ((3 : Int) == 2) = false from rfl,Bool.false_eq_true,if_false,beq_self_eq_true,if_true,Bool.and_eq_true,beq_iff_eq] at k3
      exact k3.2
     rw [hz] at k3;exact ⟨k3,hz⟩
    have hg : GoodE (leafD wRole [] (ts t)):=good_leaf (.inr (.inr ⟨rfl,rfl,hf.1⟩)) (by simp) hrg
    have e1:=fun full=>tk_role (full:=full) hg rfl
    refine ⟨hg,?_,?_,by omega⟩
    ·rw [e1]
     have q1:=cnt2_add (toks:=toks) (a:=st.1) (b:=st.1 + 1) (c:=st.1 + 1 + 1 + 1 + 1) (by omega) (by omega)
     have q2:=cnt2_add (toks:=toks) (a:=st.1 + 1) (b:=st.1 + 1 + 1) (c:=st.1 + 1 + 1 + 1 + 1) (by omega) (by omega)
     have q3:=cnt2_add (toks:=toks) (a:=st.1 + 1 + 1) (b:=st.1 + 1 + 1 + 1) (c:=st.1 + 1 + 1 + 1 + 1) (by omega) (by omega)
     have c1:=cnt_is g
     have c2:=cnt_is n1
     have c3:=cnt2_one k2
     have c4:=cnt_is m1
     simp only at c2 c4
     rw [pk_else (by omega) (by omega)] at c3
     simp only [Bool.false_eq_true,if_false] at c3
     have q5 : pkW wRole = 1 /\ pkW [40] = 0 /\ pkW [41] = 0:=by decide
     show 1 = _
     omega
    ·rw [parW_own (show (7 : Int) <= stI (eop (leafD wRole [] (ts t))) from (by decide : (7 : Int) <= stI wRole)),e1]
     simp only [List.length_cons,List.length_nil];omega
   split at h
   ·rename_i g
    injection h with h;injection h with h1 h2;subst h1;subst h2
    obtain ⟨m1,m2⟩:=must_ok h0
    have e2:=(step_must toks [41] _).e0 h0
    have hrg:=attr_rng ht (mustP toks [40] (st.1 + 1,st.2))
    obtain ⟨a1,a2,a3,a4⟩:=attr_ok e2
    have e1:=(step_attr toks _).e0 e2
    obtain ⟨n1,n2⟩:=must_ok e1
    rw [a3] at m1 m2
    rw [n2] at a4 m1 m2
    simp only at m1 m2 n1 a4
    have e9 : (mustP toks [41] (attrP toks (mustP toks [40] (st.1 + 1,st.2))).2.2) = (st.1 + 1 + 1 + 3 + 1,0):=by rw [a3,n2];exact m2
    rw [e9]
    simp only
    obtain ⟨u1,hu1⟩ : ∃ u,(attrP toks (mustP toks [40] (st.1 + 1,st.2))).1 = u:=⟨_,rfl⟩
    obtain ⟨u2,hu2⟩ : ∃ u,(attrP toks (mustP toks [40] (st.1 + 1,st.2))).2.1 = u:=⟨_,rfl⟩
    rw [hu1] at a1 hrg ⊢
    rw [hu2] at a2 hrg ⊢
    have hg : GoodE (leafD wHas u1 u2):=good_leaf (.inr (.inl ⟨.inr rfl,a1,a2⟩)) hrg.1 hrg.2
    have e1:=fun full=>tk_has (full:=full) hg rfl
    obtain ⟨p1,p2⟩:=nameB_pk a2
    refine ⟨hg,?_,?_,by omega⟩
    ·rw [e1,show ewho (leafD wHas u1 u2) = u1 from rfl,show ename (leafD wHas u1 u2) = u2 from rfl]
     have q1:=cnt2_add (toks:=toks) (a:=st.1) (b:=st.1 + 1) (c:=st.1 + 1 + 1 + 3 + 1) (by omega) (by omega)
     have q2:=cnt2_add (toks:=toks) (a:=st.1 + 1) (b:=st.1 + 1 + 1) (c:=st.1 + 1 + 1 + 3 + 1) (by omega) (by omega)
     have q3:=cnt2_add (toks:=toks) (a:=st.1 + 1 + 1) (b:=st.1 + 1 + 1 + 3) (c:=st.1 + 1 + 1 + 3 + 1) (by omega) (by omega)
     have c1:=cnt_is g
     have c2:=cnt_is n1
     have c4:=cnt_is m1
     simp only at c2 c4
     have q5 : pkW wHas = 1 /\ pkW [40] = 0 /\ pkW [41] = 0:=by decide
     have w1 : pkB (mkT 1 u1 0) = true:=by
      have key : ∀ w,w ∈ whoW -> pkB (mkT 1 w 0) = true:=by decide
      obtain ⟨w,hw,he⟩:=List.any_eq_true.1 a1
      have : w = u1:=by simpa using he
      rw [<- this];exact key w hw
     have w2 : pkB (mkT 1 u2 0) = true:=by rw [pk_word rfl,ts_mk,p1,p2];rfl
     simp only [cntP_cons,w1,w2,if_true]
     show 1 + (0 + (1 + (1 + (1 + (0 + 0))))) = _
     omega
    ·rw [parW_own (show (7 : Int) <= stI (eop (leafD wHas u1 u2)) from (by decide : (7 : Int) <= stI wHas)),e1]
     simp only [List.length_cons,List.length_nil];omega
   ·injection h with h;injection h with h1 h2;subst h1;subst h2
    have hrg:=attr_rng ht st
    obtain ⟨a1,a2,a3,a4⟩:=attr_ok h0
    rw [a3]
    simp only
    obtain ⟨u1,hu1⟩ : ∃ u,(attrP toks st).1 = u:=⟨_,rfl⟩
    obtain ⟨u2,hu2⟩ : ∃ u,(attrP toks st).2.1 = u:=⟨_,rfl⟩
    rw [hu1] at a1 hrg ⊢
    rw [hu2] at a2 hrg ⊢
    have hg : GoodE (leafD wAttr u1 u2):=good_leaf (.inr (.inl ⟨.inl rfl,a1,a2⟩)) hrg.1 hrg.2
    have e1:=fun full=>tk_attr (full:=full) hg rfl
    obtain ⟨p1,p2⟩:=nameB_pk a2
    refine ⟨hg,?_,?_,by omega⟩
    ·rw [e1,show ewho (leafD wAttr u1 u2) = u1 from rfl,show ename (leafD wAttr u1 u2) = u2 from rfl,a4]
     have w1 : pkB (mkT 1 u1 0) = true:=by
      have key : ∀ w,w ∈ whoW -> pkB (mkT 1 w 0) = true:=by decide
      obtain ⟨w,hw,he⟩:=List.any_eq_true.1 a1
      have : w = u1:=by simpa using he
      rw [<- this];exact key w hw
     have w2 : pkB (mkT 1 u2 0) = true:=by rw [pk_word rfl,ts_mk,p1,p2];rfl
     simp only [cntP_cons,w1,w2,if_true]
     rfl
    ·rw [parW_own (show (7 : Int) <= stI (eop (leafD wAttr u1 u2)) from (by decide : (7 : Int) <= stI wAttr)),e1]
     simp only [List.length_cons,List.length_nil];omega
end GP
namespace GP
open Go Go.Proofs
set_option maxRecDepth 100000
theorem good_ind {P : D -> Prop} (h : ∀ e,GoodE e -> (∀ x ∈ eps e,P x) -> P e) : ∀ e,GoodE e -> P e:=by
 have key : ∀ (n : Nat) (e : D),isE n e -> GoodE e -> P e:=by
  intro n
  induction n with
  | zero=>intro e he;exact he.elim
  | succ n ih=>intro e he hg;exact h e hg fun x hx=>ih x (isE_eps he x hx) (hg.parts.2.2.1 x hx)
 intro e hg
 obtain ⟨n,hn⟩:=hg.t
 exact key n e hn hg
theorem tokB_mk {k : Int} {s : List UInt8} {n : Int} (h : s.length <= 2 ^ 47) (hk : -(2 ^ 63) <= k /\ k < 2 ^ 63) (hn : -(2 ^ 63) <= n /\ n < 2 ^ 63) : tokB (mkT k s n) = true:=by
 simp only [tokB,mkT,Bool.and_eq_true,decide_eq_true_eq]
 exact ⟨⟨h,hk⟩,hn⟩
theorem wT {s : List UInt8} (h : s.length <= 2 ^ 47) : tokB (mkT 1 s 0) = true:=tokB_mk h (by decide) (by decide)
theorem sT {s : List UInt8} (h : s.length <= 2 ^ 47) : tokB (mkT 5 s 0) = true:=tokB_mk h (by decide) (by decide)
theorem tokB_litT1 {v : D} (h : v.isV = true) (hr : -(2 ^ 63) <= vi v /\ vi v < 2 ^ 63) : (litT1 v).all tokB = true:=by
 obtain ⟨k,i,s,n,l,rfl,hs,_⟩:=isV_elim h
 simp only [vi_mk] at hr
 unfold litT1
 simp only [vk_mk,vi_mk,vs_mk]
 refine List.all_eq_true.2 fun x hx=>?_
 (repeat' split at hx) <;> simp only [List.mem_cons,List.not_mem_nil,or_false] at hx
 ·rw [hx];exact wT (by decide)
 ·rw [hx];exact wT (by decide)
 ·rcases hx with hx | hx
  ·rw [hx];exact sT (by decide)
  ·rw [hx];exact tokB_mk (by simp) (by decide) (wrap_rng _)
 ·rw [hx];exact tokB_mk (by simp) (by decide) hr
 ·rw [hx];exact tokB_mk hs (by decide) (by decide)
 ·rw [hx];exact tokB_mk (by simp) (by decide) hr
theorem tokB_litT {v : D} (h : isVr v) (hb : valB v = true) (hl : ∀ x ∈ vl v,-(2 ^ 63) <= vi x /\ vi x < 2 ^ 63) : (litT v).all tokB = true:=by
 unfold litT
 split
 ·exact tokB_litT1 h.1 h.2
 ·obtain ⟨k,i,s,n,l,rfl,hs,_,hV⟩:=isV_elim h.1
  simp only [vl_mk] at hl ⊢
  refine List.all_eq_true.2 fun x hx=>?_
  simp only [List.mem_cons,List.mem_append,List.not_mem_nil,or_false] at hx
  rcases hx with rfl | hx | rfl
  ·exact sT (by decide)
  ·rcases cmL_mem hx with rfl | ⟨y,hy,hxy⟩
   ·exact sT (by decide)
   ·exact List.all_eq_true.1 (tokB_litT1 (hV y hy) (hl y hy)) x hxy
  ·exact sT (by decide)
def rgE : Nat -> D -> Prop
 | 0,_=>False
 | n + 1,e=>(∀ x ∈ vl (eV e),-(2 ^ 63) <= vi x /\ vi x < 2 ^ 63) /\ ∀ x ∈ eps e,rgE n x
def rgC (e : D) : Prop:=∃ n,rgE n e
theorem rgC.v {e : D} (h : rgC e) : ∀ x ∈ vl (eV e),-(2 ^ 63) <= vi x /\ vi x < 2 ^ 63:=by
 obtain ⟨n,hn⟩:=h
 cases n with
 | zero=>exact hn.elim
 | succ n=>exact hn.1
theorem rgC.p {e : D} (h : rgC e) : ∀ x ∈ eps e,rgC x:=by
 obtain ⟨n,hn⟩:=h
 cases n with
 | zero=>exact hn.elim
 | succ n=>exact fun x hx=>⟨n,hn.2 x hx⟩
theorem isE_len {n : Nat} {e : D} (h : isE n e) : (eop e).length <= 2 ^ 47 /\ (ewho e).length <= 2 ^ 47 /\ (ename e).length <= 2 ^ 47 /\ isVr (eV e):=by
 obtain ⟨op,k,i,t,nl,l,who,name,m,ps,rfl,h1,h2,h3,h4,_⟩:=isE_elim h
 exact ⟨h1,h2,h3,h4⟩
theorem parW_tokB {full : Bool} {s s' : Int} {l : List D} (h : l.all tokB = true) : (parW full s s' l).all tokB = true:=by
 unfold parW
 split
 ·exact h
 ·simp only [List.all_cons,List.all_append,h,List.all_nil,Bool.and_true,Bool.true_and,Bool.and_eq_true]
  exact ⟨sT (by decide),sT (by decide)⟩
theorem tkC_tokB {full : Bool} : ∀ e,GoodE e -> rgC e -> (tkC full e).all tokB = true:=by
 refine good_ind (P:=fun e=>rgC e -> (tkC full e).all tokB = true) fun e hg ih hr=>?_
 obtain ⟨l1,l2,l3,l4⟩:=isE_len hg.t.can
 rcases hg.op with g | g | g | g | g | g | g | g | g
 ·rw [tk_val hg g]
  exact tokB_litT l4 (fmTop_val hg.parts.2.2.2 g).1 hr.v
 ·rw [tk_now hg g];simp only [List.all_cons,List.all_nil,Bool.and_true];exact wT (by decide)
 ·rw [tk_attr hg g];simp only [List.all_cons,List.all_nil,Bool.and_true,Bool.and_eq_true];exact ⟨wT l2,sT (by decide),wT l3⟩
 ·rw [tk_has hg g];simp only [List.all_cons,List.all_nil,Bool.and_true,Bool.and_eq_true]
  exact ⟨wT (by decide),sT (by decide),wT l2,sT (by decide),wT l3,sT (by decide)⟩
 ·rw [tk_role hg g];simp only [List.all_cons,List.all_nil,Bool.and_true,Bool.and_eq_true]
  exact ⟨wT (by decide),sT (by decide),tokB_mk l3 (by decide) (by decide),sT (by decide)⟩
 ·obtain ⟨h1,x,hx,hs⟩:=hg.one (.inl g)
  have hm : sub0 e ∈ eps e:=by rw [hx,hs];simp
  rw [tk_size hg g]
  simp only [List.all_cons,List.all_append,ih _ hm (hr.p _ hm),List.all_nil,Bool.and_true,Bool.true_and,Bool.and_eq_true]
  exact ⟨wT (by decide),sT (by decide),sT (by decide)⟩
 ·obtain ⟨h1,x,hx,hs⟩:=hg.one (.inr (.inl g))
  have hm : sub0 e ∈ eps e:=by rw [hx,hs];simp
  rw [tk_not hg g,List.all_cons,parW_tokB (ih _ hm (hr.p _ hm)),Bool.and_true]
  exact wT (by decide)
 ·obtain ⟨h1,x,hx,hs⟩:=hg.one (.inr (.inr g))
  have hm : sub0 e ∈ eps e:=by rw [hx,hs];simp
  rw [tk_neg hg g,List.all_cons,parW_tokB (ih _ hm (hr.p _ hm)),Bool.and_true]
  exact sT (by decide)
 ·obtain ⟨h0,h1,m0,m1,_⟩:=hg.two g
  rw [tk_two hg g,List.all_append,List.all_cons,parW_tokB (ih _ m0 (hr.p _ m0)),parW_tokB (ih _ m1 (hr.p _ m1)),Bool.and_true,Bool.true_and]
  unfold opTok
  split
  ·exact wT l1
  ·exact sT l1
end GP
namespace GP
open Go Go.Proofs Go.Proofs.YtainhmbnbgonhaaGreatDoor
open Go.ChangeShapes Go.WideShapes Go.ChangeAt Go.RowKit
set_option maxRecDepth 100000
theorem cells29 : Tryz.prog.cellsOf 29 = 4:=by kernel_rfl
theorem cells27 : Tryz.prog.cellsOf 27 = 1:=by kernel_rfl
theorem cells30 : Tryz.prog.cellsOf 30 = 1:=by kernel_rfl
theorem cells32 : Tryz.prog.cellsOf 32 = 8:=by kernel_rfl
theorem bytes29 : 1 <= Tryz.prog.bytesOf 29:=of_decide_eq_true (by kernel_rfl)
theorem bytes32 : 1 <= Tryz.prog.bytesOf 32:=of_decide_eq_true (by kernel_rfl)
def isVq (d : D) : Prop:=isVr d /\ ∀ x ∈ vl d,-(2 ^ 63) <= vi x /\ vi x < 2 ^ 63
theorem isLs_isVq {l : D} (h : isLs isVr l) (k i : Int) (s : List UInt8) (hs : s.length <= 2 ^ 47) (h1 : -(2 ^ 63) <= i) (h2 : i < 2 ^ 63) : isVq (D.agg [.int .i64 k,.int .i64 i,.str s,l]):=by
 obtain ⟨n,xs,rfl,hl,hx⟩:=h
 have hV : (D.agg [.int .i64 k,.int .i64 i,.str s,sliceD n xs]).isV = true:=isV_mk (k:=k) (i:=i) (n:=n) hs hl fun x hq=>(hx x hq).1
 refine ⟨⟨hV,h1,h2⟩,fun x hq=>?_⟩
 have hq : x ∈ vl (mkV k i s n xs):=hq
 rw [vl_mk] at hq
 exact (hx x hq).2
theorem rdV (W : World) : ∀ fuel,Rds Tryz.prog W 29 (fun ds=>isVq (D.agg ds)) fuel /\ Rds Tryz.prog W 27 (isLd isVr) fuel
 | 0=>⟨fun _ _ _ _ _ h _=>by simp [DataW.trod] at h,fun _ _ _ _ _ h _=>by simp [DataW.trod] at h⟩
 | fuel + 1=>by
  obtain ⟨h24,h22⟩:=rdV W fuel
  refine ⟨?_,?_⟩
  ·refine (rds_struct (P:=Tryz.prog) (w:=W) (φs:=[fun ds=>∃ n,ds = [.int .i64 n] /\ IntKind.i64.min <= n /\ n <= IntKind.i64.max,fun ds=>∃ n,ds = [.int .i64 n] /\ IntKind.i64.min <= n /\ n <= IntKind.i64.max,fun ds=>∃ l,ds = [.str l] /\ l.length <= 2 ^ 47,isLd isVr]) Tryz.underlying29 rfl ?_ ?_ ?_).imp ?_
   ·simp only [FldsOf,cells3,cells2,cells9,and_self,and_true,Nat.zero_add,Nat.reduceAdd]
   ·simp only [List.map_cons,List.map_nil,cells3,cells2,cells9,cells27,cells29];rfl
   ·intro i f φ e1 e2
    match i with
    | 0=>simp at e1 e2;subst e1;subst e2;exact rds_int Tryz.underlying3 fuel
    | 1=>simp at e1 e2;subst e1;subst e2;exact rds_int Tryz.underlying2 fuel
    | 2=>simp at e1 e2;subst e1;subst e2;exact rds_string Tryz.underlying9 fuel
    | 3=>simp at e1 e2;subst e1;subst e2;exact h22
    | i + 4=>simp at e1
   ·rintro ds ⟨x1,y1,rfl,⟨k,rfl,_⟩,x2,y2,rfl,⟨i,rfl,i1,i2⟩,x3,y3,rfl,⟨s,rfl,hs⟩,x4,y4,rfl,⟨l,rfl,hl⟩,rfl⟩
    rw [i64min] at i1;rw [i64max] at i2
    exact isLs_isVq hl k i s hs (by omega) (by omega)
  ·exact (rds_slice (P:=Tryz.prog) (w:=W) (mk:=D.agg) (fun _=>rfl) (sz:=4) (by decide) Tryz.underlying27 cells29 bytes29 h24).imp fun ds hd=>isLd_of (fun x (hx : isVq (D.agg x))=>hx.1) hd
theorem isVr_cells {x : List D} (h : isVr (D.agg x)) : ∃ k i s n l,x = [.int .i64 k,.int .i64 i,.str s,sliceD n l] /\ isVr (mkV k i s n l):=by
 obtain ⟨k,i,s,n,l,e,_⟩:=isV_elim h.1
 have : x = [.int .i64 k,.int .i64 i,.str s,sliceD n l]:=by unfold mkV at e;injection e
 subst this
 exact ⟨k,i,s,n,l,rfl,h⟩
def isEq' (n : Nat) (x : D) : Prop:=isE n x /\ rgE n x
theorem isEq'_mono {n : Nat} {x : D} (h : isEq' n x) : isEq' (n + 1) x:=by
 refine ⟨isE_mono h.1,?_⟩
 have key : ∀ (n : Nat) (e : D),rgE n e -> rgE (n + 1) e:=by
  intro n
  induction n with
  | zero=>intro e h;exact h.elim
  | succ n ih=>intro e h;exact ⟨h.1,fun x hx=>ih x (h.2 x hx)⟩
 exact key n x h.2
theorem rdE (W : World) : ∀ fuel,Rds Tryz.prog W 32 (fun ds=>isEq' fuel (D.agg ds)) fuel /\ Rds Tryz.prog W 30 (isLd (isEq' fuel)) fuel
 | 0=>⟨fun _ _ _ _ _ h _=>by simp [DataW.trod] at h,fun _ _ _ _ _ h _=>by simp [DataW.trod] at h⟩
 | fuel + 1=>by
  obtain ⟨hs,hl⟩:=rdE W fuel
  refine ⟨?_,?_⟩
  ·refine (rds_struct (P:=Tryz.prog) (w:=W) (φs:=[fun ds=>∃ l,ds = [.str l] /\ l.length <= 2 ^ 47,fun ds=>isVq (D.agg ds),fun ds=>∃ l,ds = [.str l] /\ l.length <= 2 ^ 47,fun ds=>∃ l,ds = [.str l] /\ l.length <= 2 ^ 47,isLd (isEq' fuel)]) Tryz.underlying32 rfl ?_ ?_ ?_).imp ?_
   ·simp only [FldsOf,cells9,cells29,and_self,and_true,Nat.zero_add,Nat.reduceAdd]
   ·simp only [List.map_cons,List.map_nil,cells9,cells29,cells30,cells32];rfl
   ·intro i f φ e1 e2
    match i with
    | 0=>simp at e1 e2;subst e1;subst e2;exact rds_string Tryz.underlying9 fuel
    | 1=>simp at e1 e2;subst e1;subst e2;exact (rdV W fuel).1
    | 2=>simp at e1 e2;subst e1;subst e2;exact rds_string Tryz.underlying9 fuel
    | 3=>simp at e1 e2;subst e1;subst e2;exact rds_string Tryz.underlying9 fuel
    | 4=>simp at e1 e2;subst e1;subst e2;exact hl
    | i + 5=>simp at e1
   ·rintro ds ⟨x1,y1,rfl,⟨op,rfl,h1⟩,x2,y2,rfl,h2,x3,y3,rfl,⟨who,rfl,h3⟩,x4,y4,rfl,⟨name,rfl,h4⟩,x5,y5,rfl,⟨l,rfl,m,ps,rfl,h5,h6⟩,rfl⟩
    obtain ⟨k,i,s,n,l,rfl,hv⟩:=isVr_cells h2.1
    refine ⟨⟨op,k,i,s,n,l,who,name,m,ps,rfl,h1,h3,h4,hv,h5,fun x hx=>(h6 x hx).1⟩,?_⟩
    show rgE (fuel + 1) (mkE op k i s n l who name m ps)
    refine ⟨?_,?_⟩
    ·rw [eV_mk];exact h2.2
    ·rw [eps_mk];exact fun x hx=>(h6 x hx).2
  ·exact (rds_slice (P:=Tryz.prog) (w:=W) (mk:=D.agg) (fun _=>rfl) (sz:=8) (by decide) Tryz.underlying30 cells32 bytes32 hs).imp fun ds hd=>isLd_of (fun x (hx : isEq' fuel (D.agg x))=>isEq'_mono hx) hd
theorem argE (W : World) : Arg Tryz.prog W 32 (fun d=>∃ n,isE n d /\ rgE n d):=by
 intro H enc v d ps base h1 h2 h3
 obtain ⟨x,k1,ds,rfl,k2⟩:=arg_struct Tryz.underlying32 (φ:=fun ds=>∃ n,isEq' n (D.agg ds)) (fun f=>(rdE W f).1.imp fun ds h=>⟨f,h⟩) H enc v d ps base h1 h2 h3
 exact ⟨_,k1,k2⟩
end GP
namespace GP
open Go Go.Proofs Go.Proofs.YtainhmbnbgonhaaGreatDoor
open Go.ChangeShapes Go.WideShapes Go.ChangeAt Go.RowKit
set_option maxRecDepth 100000
theorem u8min : IntKind.u8.min = 0:=by decide
theorem u8max : IntKind.u8.max = 255:=by decide
theorem argU8 (W : World) : Arg Tryz.prog W 5 (fun d=>∃ a : Nat,d = .int .u8 (a : Int) /\ a < 256):=by
 intro H enc v d ps base h1 h2 h3
 obtain ⟨x,k1,n,e,i1,i2⟩:=arg_one Tryz.underlying5 rfl (φ:=fun ds=>∃ n,ds = [.int .u8 n] /\ IntKind.u8.min <= n /\ n <= IntKind.u8.max) (fun f=>rds_int Tryz.underlying5 f) H enc v d ps base h1 h2 h3
 injection e with e
 rw [u8min] at i1;rw [u8max] at i2
 obtain ⟨a,rfl⟩ : ∃ a : Nat,n = (a : Int):=⟨n.toNat,by omega⟩
 exact ⟨_,k1,a,e,by omega⟩
end GP
namespace GP
open Go Go.Proofs
set_option maxRecDepth 100000
theorem rgE_le {n m : Nat} (h : n <= m) : ∀ {e : D},rgE n e -> rgE m e:=by
 induction h with
 | refl=>exact fun {_} h=>h
 | step _ ih =>
  rename_i m _
  have up : ∀ (n : Nat) (e : D),rgE n e -> rgE (n + 1) e:=by
   intro n
   induction n with
   | zero=>intro e h;exact h.elim
   | succ n ih=>intro e h;exact ⟨h.1,fun x hx=>ih x (h.2 x hx)⟩
  exact fun {e} h=>up m e (ih h)
theorem rg_of {e : D} (h : ∀ x ∈ vl (eV e),-(2 ^ 63) <= vi x /\ vi x < 2 ^ 63) (hp : ∀ x ∈ eps e,rgC x) : rgC e:=by
 have key : ∀ l : List D,(∀ x ∈ l,rgC x) -> ∃ n,∀ x ∈ l,rgE n x:=by
  intro l
  induction l with
  | nil=>intro _;exact ⟨0,fun x hx=>by cases hx⟩
  | cons a l ih =>
   intro h
   obtain ⟨n,hn⟩:=h a (by simp)
   obtain ⟨m,hm⟩:=ih fun x hx=>h x (by simp [hx])
   exact ⟨max n m,fun x hx=>by
    rcases List.mem_cons.1 hx with rfl | hx
    ·exact rgE_le (Nat.le_max_left _ _) hn
    ·exact rgE_le (Nat.le_max_right _ _) (hm x hx)⟩
 obtain ⟨n,hn⟩:=key _ hp
 exact ⟨n + 1,h,hn⟩
theorem rg_two {op : List UInt8} {a b : D} (ha : rgC a) (hb : rgC b) : rgC (twoD op a b):=rg_of (fun x hx=>by cases hx) fun x hx=>by
 have hx : x ∈ [a,b]:=hx
 simp only [List.mem_cons,List.not_mem_nil,or_false] at hx
 rcases hx with rfl | rfl
 ·exact ha
 ·exact hb
theorem rg_one {op : List UInt8} {a : D} (ha : rgC a) : rgC (oneD op a):=rg_of (fun x hx=>by cases hx) fun x hx=>by
 have hx : x ∈ [a]:=hx
 rw [List.mem_singleton] at hx;subst hx;exact ha
theorem rg_leaf (op who name : List UInt8) : rgC (leafD op who name):=rg_of (fun x hx=>by cases hx) fun x hx=>by cases hx
theorem rg_val {v : D} (hv : isVr v) (h : ∀ x ∈ vl v,-(2 ^ 63) <= vi x /\ vi x < 2 ^ 63) : rgC (valE v):=by
 obtain ⟨_,e2,_,_,e5⟩:=valE_parts hv
 exact rg_of (by rw [e2];exact h) (by rw [e5];intro x hx;cases hx)
theorem lit_vl (toks : List D) (st : St) : vl (literalP toks st).1 = []:=by
 unfold literalP;(repeat' split) <;> rfl
theorem bagV_rng {xs : List D} (h : ∀ x ∈ xs,isVr x) : ∀ x ∈ vl (bagV xs).1,-(2 ^ 63) <= vi x /\ vi x < 2 ^ 63:=by
 unfold bagV
 split
 ·intro x hx;cases hx
 split
 ·intro x hx;cases hx
 split
 ·intro x hx;cases hx
 ·rename_i g1 g2 g3
  simp only [Bool.not_eq_false] at g1
  have hg : good1 xs:=fun x hx=>by
   have hf:=List.all_eq_true.1 g1 x hx
   rw [formed_same] at hf
   have hb : badB xs x = false:=by
    cases hb : badB xs x with
    | false=>rfl
    | true=>exact absurd (List.any_eq_true.2 ⟨x,hx,hb⟩) g2
   unfold formedB at hf
   rw [if_pos (by unfold badB at hb;simp only [Bool.or_eq_false_iff,beq_eq_false_iff_ne,ne_eq] at hb;simp [hb.1.2])] at hf
   exact hf
  intro x hx
  simp only [vl_mk] at hx
  obtain ⟨y,hy,rfl⟩:=((bagR_spec hg).2 x).1 hx
  rw [can_vi];exact (h y hy).2
def partG (P : Part) : Prop:=∀ toks st r,toks.all tokB = true -> P toks st = some r -> rgC r.1
theorem rowL_G {P : Part} (hP : partG P) {toks : List D} (ht : toks.all tokB = true) {bs : List (List UInt8)} : ∀ (f : Nat) (x : D) (st : St) (r : D × St),rgC x -> rowL toks P bs f x st = some r -> rgC r.1
 | 0,_,_,_,_,h=>by simp [rowL] at h
 | f + 1,x,st,r,hx,h=>by
  simp only [rowL] at h
  split at h
  ·injection h with h;subst h;exact hx
  ·split at h
   ·injection h with h;subst h;exact hx
   ·split at h
    ·cases h
    ·rename_i y st2 hy
     exact rowL_G hP ht f _ st2 r (rg_two hx (hP toks _ _ ht hy)) h
theorem rowP_G {P : Part} (hP : partG P) {toks : List D} (ht : toks.all tokB = true) {bs : List (List UInt8)} {f : Nat} {st : St} {r : D × St} (h : rowP toks P bs f st = some r) : rgC r.1:=by
 unfold rowP at h
 split at h
 ·cases h
 ·rename_i x st1 hx
  exact rowL_G hP ht f x st1 r (hP toks _ _ ht hx) h
theorem oneS_G {op : List UInt8} {z : Option (D × St)} {r : D × St} (hz : ∀ r,z = some r -> rgC r.1) (h : oneS op z = some r) : rgC r.1:=by
 cases z with
 | none=>cases h
 | some z =>
  obtain ⟨x,st⟩:=z
  simp only [oneS,Option.some.injEq] at h;subst h
  exact rg_one (hz _ rfl)
theorem bagP_G {toks : List D} (ht : toks.all tokB = true) {f fr : Nat} {st : St} {r : D × St} (h : bagP toks f fr st = some r) : rgC r.1:=by
 unfold bagP at h
 split at h
 ·cases h
 ·rename_i out st1 hb
  have hv:=bagL_isVr ht f _ _ _ (fun v hv=>by rw [List.mem_singleton] at hv;subst hv;exact item_isVr ht st) hb
  split at h
  ·injection h with h;subst h
   exact rg_of (fun x hx=>by cases hx) fun x hx=>by cases hx
  ·injection h with h;subst h
   exact rg_val (bagV_isVr hv) (bagV_rng hv)
theorem lv_G : ∀ (f : Nat) (lv : Lv),partG (pLv f lv)
 | 0,_,_,_,_,_,h=>by cases h
 | f + 1,lv,toks,st,r,ht,h=>by
  cases lv with
  | expr=>exact rowP_G (lv_G f .and) ht h
  | and=>exact rowP_G (lv_G f .not) ht h
  | sum=>exact rowP_G (lv_G f .prod) ht h
  | prod=>exact rowP_G (lv_G f .unary) ht h
  | not =>
   simp only [pLv] at h
   split at h
   ·exact oneS_G (fun r hr=>lv_G f .not toks _ r ht hr) h
   ·exact lv_G f .cmp toks st r ht h
  | unary =>
   simp only [pLv] at h
   split at h
   ·exact oneS_G (fun r hr=>lv_G f .unary toks _ r ht hr) h
   ·exact lv_G f .plain toks st r ht h
  | cmp =>
   simp only [pLv] at h
   obtain ⟨z,hz⟩ : ∃ z,pLv f .sum toks st = z:=⟨_,rfl⟩
   rw [hz] at h
   cases z with
   | none=>cases h
   | some z =>
    obtain ⟨x,st1⟩:=z
    have hx:=lv_G f .sum toks _ _ ht hz
    simp only [cmpS2] at h
    split at h
    ·injection h with h;subst h;exact hx
    ·split at h
     ·cases h
     ·rename_i y st2 hy
      injection h with h;subst h
      have k:=lv_G f .sum toks _ (y,st2) ht hy
      exact rg_two hx k
  | inner =>
   simp only [pLv] at h
   obtain ⟨z,hz⟩ : ∃ z,pLv f .expr toks (mustP toks [40] st) = z:=⟨_,rfl⟩
   rw [hz] at h
   cases z with
   | none=>cases h
   | some z =>
    obtain ⟨x,st1⟩:=z
    simp only [innS,Option.some.injEq] at h;subst h
    exact lv_G f .expr toks _ (x,st1) ht hz
  | plain =>
   simp only [pLv,plainP] at h
   split at h
   ·injection h with h;subst h;exact rg_val (lit_isVr ht st) (by rw [lit_vl];intro x hx;cases hx)
   split at h
   ·injection h with h;subst h;exact rg_leaf _ _ _
   split at h
   ·exact lv_G f .inner toks st r ht h
   split at h
   ·exact bagP_G ht h
   split at h
   ·exact oneS_G (fun r hr=>lv_G f .inner toks _ r ht hr) h
   split at h
   ·injection h with h;subst h;exact rg_leaf _ _ _
   split at h
   ·injection h with h;subst h;exact rg_leaf _ _ _
   ·injection h with h;subst h;exact rg_leaf _ _ _
theorem parsed {toks : List D} (ht : toks.all tokB = true) (h : toks.length <= 600) (h0 : (parseE toks).2.2 = 0) : ∃ x,(parseE toks).1 = x /\ (parseE toks).2.1 = 0 /\ isE nodeB x /\ GoodE x /\ rgC x /\ dpt nodeB x <= 12 /\ cntP (tkC true x) = cntP toks /\ (tkC false x).length <= toks.length:=by
 obtain ⟨x,hp,h1,h2,h3⟩:=parseE_ok h h0
 have hR : Rdd toks 0 x 0 toks.length:=lv_R ht 10000 .expr (0,0) x (toks.length,0) hp rfl
 refine ⟨x,h1,h2,lv_isE 10000 .expr toks (0,0) _ ht hp,hR.g,lv_G 10000 .expr toks (0,0) _ ht hp,h3,?_,?_⟩
 ·rw [hR.c]
  unfold cnt2 sbT
  rw [List.take_length,List.drop_zero]
 ·have:=hR.m
  rw [parW_own hR.g.parts.1] at this
  omega
end GP
namespace GP
open Go Go.Proofs
set_option maxRecDepth 100000
theorem tok_cells {xs : List D} (ht : xs.all tokB = true) : xs.all (fun d=>d.cells.length == 3) = true:=by
 rw [List.all_eq_true] at ht ⊢
 intro x hx
 obtain ⟨k,s,n,e,_⟩:=tokB_elim (ht x hx)
 rw [e];rfl
theorem take_tok {xs : List D} (ht : xs.all tokB = true) (K : Nat) : (xs.take K).all tokB = true:=by
 rw [List.all_eq_true] at ht ⊢
 exact fun x hx=>ht x (List.mem_of_mem_take hx)
theorem φparse_of {m : Bool} {xs : List D} (ht : xs.all tokB = true) (hl : xs.length <= 2 ^ 40) : φparse [sliceD m xs] = some (.tup [(parseE xs).1,.int .i64 ((parseE xs).2.1 : Nat),.int .i64 (parseE xs).2.2]):=by
 have hsl : (isSl (sliceD m xs) && (elems (sliceD m xs)).all tokB && decide ((elems (sliceD m xs)).length <= 2 ^ 40)) = true:=by
  simp only [isSl_sliceD,elems_sliceD,ht,Bool.true_and,decide_eq_true_eq];exact hl
 simp only [φparse];rw [if_pos hsl,elems_sliceD]
end GP
