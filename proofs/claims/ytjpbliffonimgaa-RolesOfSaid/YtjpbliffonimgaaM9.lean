import Derived.JoinedOf
import Derived.Laws.IdiomArrays
import Derived.Test.YtjpbliffonimgaaProg
import Derived.Test.YtjpbliffonimgaaRows
import Derived.Test.YtjpbliffonimgaaM5
import Derived.Test.YtjpbliffonimgaaM8
set_option linter.unusedSimpArgs false
set_option linter.unnecessarySimpa false
set_option linter.unusedSectionVars false
namespace GP
open Go Go.Proofs
set_option maxRecDepth 100000
variable [HasG Try.prog]
variable {H B : Hp} {p : Nat} {S : List Nat} {es ms : List Ed}
abbrev St := Int × Sb × Sb
def stD (e : St) : D := .agg [.int .u8 e.1, .str e.2.1, .str e.2.2]
def stS (n : Bool) (l : List St) : D := sliceD n (l.map stD)
theorem stL_erase (l : List St) : D.eraseL (l.map stD) = l.map stD := eraseL_id fun x hx => by
  obtain ⟨e, _, rfl⟩ := List.mem_map.1 hx; rfl
@[go_sem] theorem stS_erase (n : Bool) (l : List St) : (stS n l).erase = stS n l := by unfold stS; rw [erase_sliceD, stL_erase]
@[go_sem] theorem stS_len (n : Bool) (l : List St) : lenD (stS n l) = some l.length := by
  unfold stS; rcases sliceD_cases n (l.map stD) with ⟨e, h⟩ | e <;> rw [e] <;> simp [lenD]
  have : l = [] := by simpa using h
  subst this; rfl
@[go_sem high] theorem stS_ia (n : Bool) (l : List St) (k : IntKind) (i : Nat) : ia 3 (stS n l) (.int k (i : Int)) = (l[i]?).map fun e => .el [.int .u8 e.1, .str e.2.1, .str e.2.2] := by
  unfold stS
  rw [iab_nat]
  simp only [List.getElem?_map]
  cases l[i]? <;> rfl
def stsD : List D → Option (List St)
  | [] => some []
  | .agg [.int .u8 k, .str a, .str b] :: ds => (stsD ds).map fun l => (k, a, b) :: l
  | _ => none
theorem stsD_of : ∀ {xs : List D} {l : List St}, stsD xs = some l → xs = l.map stD
  | [], l, h => by simp [stsD] at h; subst h; rfl
  | x :: xs, l, h => by
    unfold stsD at h
    split at h
    · rename_i e; cases e
    · rename_i k a b ds e
      injection e with e1 e2; subst e1; subst e2
      cases hd : stsD xs with
      | none => rw [hd] at h; cases h
      | some m =>
        rw [hd] at h
        simp only [Option.map_some] at h
        injection h with h; subst h
        rw [stsD_of hd]; rfl
    · cases h
theorem stsD_map : ∀ l : List St, stsD (l.map stD) = some l
  | [] => rfl
  | (k, a, b) :: l => by simp [stsD, stD, stsD_map l]
theorem elems_stS (n : Bool) (l : List St) : elems (stS n l) = l.map stD := elems_sliceD _ _
def okSt (e : St) : Bool := decide (e.2.1.length ≤ 100) && decide (e.2.2.length ≤ 100)
def fewB (l : List St) (n : Int) : Bool := (l.take 300).all okSt && decide ((l.length : Int) ≤ n)
def φ41 : List D → Option D
  | [d, .int .i64 n] => if isSl d = true then (match stsD (elems d) with
    | some l => some (.bool (fewB l n))
    | none => none) else none
  | _ => none
theorem all_take {l : List St} {i : Nat} {e : St} (h : l[i]? = some e) : (l.take (i + 1)).all okSt = ((l.take i).all okSt && okSt e) := by
  rw [List.take_add_one, h, List.all_append]; simp
theorem stS_of {d : D} {l : List St} (h1 : isSl d = true) (h2 : stsD (elems d) = some l) : ∃ n, d = stS n l := by
  obtain ⟨n, hn⟩ := isSl_m h1
  rw [stsD_of h2] at hn
  exact ⟨n, hn⟩
theorem isSl_stS (n : Bool) (l : List St) : isSl (stS n l) = true := by
  unfold stS; rcases sliceD_cases n (l.map stD) with ⟨e, _⟩ | e <;> rw [e] <;> rfl
theorem ok41 : OkAt Try.prog 41 φ41 := by
  refine ok_of (l := []) .nil fn41 fun args r h => ?_
  unfold φ41 at h
  split at h
  · rename_i d n
    split at h
    · rename_i hs
      split at h
      · rename_i l hl
        injection h with h; subst h
        obtain ⟨nn, rfl⟩ := stS_of hs hl
        refine ⟨by simp, by simp [D.cl], fun H T => ?_⟩
        simp +contextual (maxSteps := 10000000) only [c41, go_sem, W_draw]
        refine W_for (fun i s' => s'.t 0 = stS nn l ∧ s'.t 1 = .int .i64 n ∧ s'.t 5 = .int .i64 (i : Int) ∧ s'.H = H ∧ s'.T = T ∧ i ≤ l.length ∧ i ≤ 300 ∧ (l.take i).all okSt = true) l.length
          ⟨0, ?_⟩ (fun i s h => h.2.2.2.2.2.1) ?_ (XL_mono _)
        · simp [upd, argT]
        rintro i ⟨t, B, T'⟩ ⟨r0, r1, r5, rfl, rfl, hi, hi3, hall⟩
        simp only at r0 r1 r5
        by_cases ha : i < l.length
        · have d1 : decide ((i : Int) < l.length) = true := by simpa using ha
          by_cases h3 : i < 300
          · have d2 : decide ((i : Int) < 300) = true := by simp; omega
            have e : l[i]? = some l[i] := by simp [ha]
            obtain ⟨x, hx⟩ : ∃ x, l[i] = x := ⟨_, rfl⟩
            rw [hx] at e
            have et := all_take e
            rw [hall, Bool.true_and] at et
            have hno : okSt x = false → fewB l n = false := fun hno => by
              unfold fewB
              have : (l.take 300).all okSt = false := by
                rw [List.all_eq_false]
                refine ⟨x, ?_, by rw [hno]; simp⟩
                have : (l.take 300)[i]? = some x := by rw [List.getElem?_take_of_lt h3]; exact e
                exact List.mem_of_getElem? this
              rw [this]; rfl
            rcases tf (decide ((x.2.1.length : Int) > 100)) with g | g
            · have := hno (by unfold okSt; simp only [decide_eq_true_eq] at g; simp; intro; omega)
              simp +contextual (maxSteps := 10000000) only [r0, r1, r5, d1, d2, e, g, Option.map_some, this, go_sem, W_draw]
            · rcases tf (decide ((x.2.2.length : Int) > 100)) with g2 | g2
              · have := hno (by unfold okSt; simp only [decide_eq_true_eq] at g2; simp; intro; omega)
                simp +contextual (maxSteps := 10000000) only [r0, r1, r5, d1, d2, e, g, g2, Option.map_some, this, go_sem, W_draw]
              · have : okSt x = true := by unfold okSt; simp only [decide_eq_false_iff_not] at g g2; simp; omega
                rw [this] at et
                simp +contextual (maxSteps := 10000000) only [r0, r1, r5, d1, d2, e, g, g2, Option.map_some, wrap_natY i (by omega), go_sem, W_draw]
                exact ⟨by omega, by omega, et⟩
          · have d2 : decide ((i : Int) < 300) = false := by simp; omega
            have h300 : i = 300 := by omega
            subst h300
            have : fewB l n = decide ((l.length : Int) ≤ n) := by unfold fewB; rw [hall]; rfl
            simp +contextual (maxSteps := 10000000) only [r0, r1, r5, d1, d2, this, go_sem, W_draw]
        · have d1 : decide ((i : Int) < l.length) = false := by simpa using ha
          have : fewB l n = decide ((l.length : Int) ≤ n) := by
            unfold fewB
            have e2 : l.take i = l := List.take_of_length_le (by omega)
            rw [e2] at hall
            have : l.take 300 = l := List.take_of_length_le (by omega)
            rw [this, hall]; rfl
          simp +contextual (maxSteps := 10000000) only [r0, r1, r5, d1, this, go_sem, W_draw]
      · cases h
    · cases h
  · cases h
theorem p41 (n : Bool) (l : List St) (k : Int) : φ41 [stS n l, .int .i64 k] = some (.bool (fewB l k)) := by
  simp only [φ41, elems_stS, stsD_map]
  rw [if_pos (isSl_stS n l)]
end GP
namespace GP
open Go Go.Proofs
set_option maxRecDepth 100000
variable [HasG Try.prog]
variable {H B : Hp} {p : Nat} {S : List Nat} {es ms : List Ed}
theorem RosS.ext (h : RosS H p S es ms) (hE : Ext H B) : RosS B p S es ms := h.fr (Fr.ext [] hE) (by simp)
theorem RosS.new {H B : Hp} {p w : Nat} (h : Ros B p p p w [] []) : RosS B p [p, w] [] [] := by
  obtain ⟨eD, mD, ents, clk, ks, c, r, k⟩ := h
  obtain ⟨l1, l2, _⟩ := k.lts
  exact ⟨fun o ho => by simp at ho; rcases ho with rfl | rfl <;> assumption, p, p, w, by simp, by simp, by simp, by simp, eD, mD, ents, clk, ks, c, r, k⟩
theorem new_S {T : Tk} {Q : Post} (k : ∀ B p S, Ext H B → H.length ≤ p → (∀ o ∈ S, H.length ≤ o) → RosS B p S [] [] → Q (.ptr p 0) B T) : Snd Try.prog 31 [] H T Q :=
  new_snd fun B p w h1 h2 h3 h4 => k B p [p, w] h1 h2 (by simp [h2, h3]) (RosS.new (H := H) h4)
theorem RosS.ros {p : Nat} {S : List Nat} {es ms : List Ed} (h : RosS H p S es ms) {a b : Sb} (ha : a.length ≤ 1000) (hb : b.length ≤ 1000) : φ34 H [.ptr p 0, .str a, .str b] = some (.bool (reachB es a b)) := by
  obtain ⟨_, oe, om, w, _, _, _, _, h⟩ := h
  exact p34 h ha hb
theorem fr_of_new {S : List Nat} {A C : Hp} (hE : Ext H A) (h : ∀ o ∈ S, H.length ≤ o) (hF : Fr S A C) : Ext H C := by
  have hlen := Nat.le_trans hE.ln hF.1
  refine ⟨C.drop H.length, ?_⟩
  refine List.ext_getElem? fun i => ?_
  by_cases hi : i < H.length
  · rw [List.getElem?_append_left hi, hF.2 i (Nat.lt_of_lt_of_le hi hE.ln) (fun hm => by have := h i hm; omega)]
    obtain ⟨L, rfl⟩ := hE
    rw [List.getElem?_append_left hi]
  · rw [List.getElem?_append_right (by omega), List.getElem?_drop]
    congr 1; omega
theorem awake_snd {T : Tk} {Q : Post} (k : ∀ L U, Q (.bool true) (H ++ L) (T ++ U)) : Snd Try.prog 30 [] H T Q := by
  have hM : MonoH [(34, φ34)] := .cons φ34_mono .nil
  refine call_of fn30 (by simp) (W_mono (X := XG Try.prog [31, 32] [] [(34, φ34)] [] []) (XG.X .nil (.cons ok34 .nil) .nil .nil) (fun _ _ h => h) ?_)
  simp +contextual (maxSteps := 10000000) only [c30, XG_eq, go_sem, W_draw]
  refine new_S fun A p S hE hp hS h => ?_
  simp +contextual (maxSteps := 10000000) only [XG_eq, go_sem, W_draw]
  refine join_snd h (by simp) (by simp) (by simp) fun C U hs => ?_
  have e0 : errR [] [] 0 [97] [98] = 0 := by decide
  rw [e0, if_pos rfl] at hs
  obtain ⟨S', h2, hF, hS'⟩ := hs
  have p1 := h2.ros (a := [97]) (b := [98]) (by simp) (by simp)
  have p2 := h2.ros (a := [98]) (b := [97]) (by simp) (by simp)
  have b1 : reachB ([] ++ [([97], [98])]) [97] [98] = true := by decide
  have b2 : reachB ([] ++ [([97], [98])]) [98] [97] = false := by decide
  rw [b1] at p1; rw [b2] at p2
  obtain ⟨L, rfl⟩ := fr_of_new hE hS hF
  rw [e0]
  simp +contextual (maxSteps := 10000000) only [p1, p2, pcallG hM, lookH_cons, lookH_nil, orK_n, go_sem, W_draw]
  exact k _ _
end GP
namespace GP
open Go Go.Proofs
set_option maxRecDepth 100000
variable [HasG Try.prog]
variable {H B : Hp} {p : Nat} {S : List Nat} {es ms : List Ed}
theorem RosS.rs (h : RosS H p S es ms) : es.Nodup ∧ ms.Nodup ∧ es.length ≤ 60 ∧ ms.length ≤ 100 ∧ ∃ c r, Cnt es c r ∧ ∀ a b, reachB es a b = (nmB a && nmB b && decide (0 < c a b)) := by
  obtain ⟨_, oe, om, w, _, _, _, _, eD, mD, ents, clk, ks, c, r, h⟩ := h
  refine ⟨h.en, h.mn, h.el, h.ml, c, r, h.cnt, fun a b => ?_⟩
  rw [h.reach]; rfl
theorem few_of {l : List St} {n : Nat} (hn : n ≤ 300) (h : fewB l n = true) : l.length ≤ n ∧ ∀ x ∈ l, x.2.1.length ≤ 100 ∧ x.2.2.length ≤ 100 := by
  unfold fewB at h
  simp only [Bool.and_eq_true, decide_eq_true_eq] at h
  have hl : l.length ≤ n := by omega
  refine ⟨hl, fun x hx => ?_⟩
  rw [List.take_of_length_le (by omega)] at h
  have := List.all_eq_true.1 h.1 x hx
  unfold okSt at this
  simpa using this
theorem stE_len (E M : List Ed) (k : Int) (a b : Sb) : (stE E M k a b).length ≤ E.length + 1 := by
  unfold stE nxtE
  split
  · split
    · simp
    · split
      · rw [List.length_erase]; split <;> omega
      · omega
  · omega
def Liv (H B : Hp) (T U : Tk) (p : Nat) (S : List Nat) (es ms : List Ed) : Prop := RosS B p S es ms ∧ Ext H B ∧ (∀ o ∈ S, H.length ≤ o) ∧ ExtT T U
theorem Liv.step {T U : Tk} {C : Hp} {U' : Tk} {es' ms' : List Ed} (h : Liv H B T U p S es ms) (hs : Stp B C p S es' ms') : ∃ S', Liv H C T (U ++ U') p S' es' ms' ∧ Fr S B C ∧ ∀ o ∈ S', o ∈ S ∨ B.length ≤ o := by
  obtain ⟨h1, h2, h3, h4⟩ := h
  obtain ⟨S', k1, k2, k3⟩ := hs
  refine ⟨S', ⟨k1, fr_of_new h2 h3 k2, fun o ho => ?_, h4.app U'⟩, k2, k3⟩
  rcases k3 o ho with h' | h'
  · exact h3 o h'
  · exact Nat.le_trans h2.ln h'
def stOk (l : List St) : Bool := l.all fun e => decide (0 ≤ e.1) && decide (e.1 ≤ 255)
end GP
namespace GP
open Go Go.Proofs Go.Proofs.Ytjpbliffonimgaa
open Go.ChangeShapes Go.WideShapes Go.ChangeAt Go.RowKit
set_option maxRecDepth 100000
instance instG : HasG Try.prog := ⟨fun _ _ => True, fun _ _ h => h⟩
theorem own6 : ownKnob Try.prog.godebug = none := by kernel_rfl
theorem laid6 : laidOutB Try.prog = true := by kernel_rfl
theorem rowed6 : mapsRowed Try.prog = true := by kernel_rfl
theorem full6 : ((List.range Try.prog.types.size).all fun t => match Try.prog.underlying t with | some (.slice e) => decide (0 < Try.prog.cellsOf e) | _ => true) = true := by kernel_rfl
theorem cells81 : Try.prog.cellsOf 81 = 3 := by kernel_rfl
theorem cells5 : Try.prog.cellsOf 5 = 1 := by kernel_rfl
theorem cells9 : Try.prog.cellsOf 9 = 1 := by kernel_rfl
theorem bytes81 : 1 ≤ Try.prog.bytesOf 81 := of_decide_eq_true (by kernel_rfl)
theorem u8min : IntKind.u8.min = 0 := by decide
theorem u8max : IntKind.u8.max = 255 := by decide
def isSt (d : D) : Prop := ∃ e : St, d = stD e ∧ 0 ≤ e.1 ∧ e.1 ≤ 255
theorem rdSt (W : World) : ∀ fuel, Rds Try.prog W 81 (fun ds => isSt (D.agg ds)) fuel
  | 0 => fun _ _ _ _ _ h _ => by simp [DataW.trod] at h
  | fuel + 1 => by
    refine (rds_struct (P := Try.prog) (w := W) (φs := [fun ds => ∃ n, ds = [.int .u8 n] ∧ IntKind.u8.min ≤ n ∧ n ≤ IntKind.u8.max, fun ds => ∃ l, ds = [.str l] ∧ l.length ≤ 2 ^ 47, fun ds => ∃ l, ds = [.str l] ∧ l.length ≤ 2 ^ 47]) Try.underlying81 rfl ?_ ?_ ?_).imp ?_
    · simp only [FldsOf, cells5, cells9, and_self, and_true, Nat.zero_add, Nat.reduceAdd]
    · simp only [List.map_cons, List.map_nil, cells5, cells9, cells81]; rfl
    · intro i f φ e1 e2
      match i with
      | 0 => simp at e1 e2; subst e1; subst e2; exact rds_int Try.underlying5 fuel
      | 1 => simp at e1 e2; subst e1; subst e2; exact rds_string Try.underlying9 fuel
      | 2 => simp at e1 e2; subst e1; subst e2; exact rds_string Try.underlying9 fuel
      | i + 3 => simp at e1
    · rintro ds ⟨x1, y1, rfl, ⟨k, rfl, i1, i2⟩, x2, y2, rfl, ⟨s, rfl, hs⟩, x3, y3, rfl, ⟨n, rfl, hn⟩, rfl⟩
      rw [u8min] at i1; rw [u8max] at i2
      exact ⟨(k, s, n), rfl, i1, i2⟩
def isSts (d : D) : Prop := ∃ n l, d = stS n l ∧ stOk l = true
theorem sts_of : ∀ {xs : List (List D)}, (∀ x ∈ xs, isSt (D.agg x)) → ∃ l, xs.map D.agg = l.map stD ∧ stOk l = true
  | [], _ => ⟨[], rfl, rfl⟩
  | x :: xs, h => by
    obtain ⟨e, h1, h2, h3⟩ := h x (by simp)
    obtain ⟨l, h4, h5⟩ := sts_of fun y hy => h y (List.mem_cons_of_mem _ hy)
    exact ⟨e :: l, by simp [h1, h4], by simp only [stOk, List.all_cons, Bool.and_eq_true] at h5 ⊢; exact ⟨by simp [h2, h3], h5⟩⟩
theorem argSts (W : World) : Arg Try.prog W 76 isSts := by
  have h : ∀ fuel, Rds Try.prog W 76 (fun ds => ∃ d, ds = [d] ∧ isSts d) fuel := fun fuel => by
    cases fuel with
    | zero => exact fun _ _ _ _ _ h _ => by simp [DataW.trod] at h
    | succ fuel =>
      refine (rds_slice (P := Try.prog) (w := W) (mk := D.agg) (fun _ => rfl) (sz := 3) (by decide) Try.underlying76 cells81 bytes81 (rdSt W fuel)).imp fun ds hd => ?_
      rcases hd with rfl | ⟨xs, rfl, h1, h2⟩
      · exact ⟨_, rfl, true, [], rfl, rfl⟩
      · obtain ⟨l, h3, h4⟩ := sts_of fun x hx => (h2 x hx).1
        refine ⟨_, rfl, false, l, ?_, h4⟩
        rw [h3]; rfl
  intro H enc v d ps base h1 h2 h3
  obtain ⟨x, k1, l, e, k2⟩ := arg_one Try.underlying76 rfl h H enc v d ps base h1 h2 h3
  injection e with e
  exact ⟨_, k1, e ▸ k2⟩
theorem argStr (W : World) : Arg Try.prog W 9 (fun x => ∃ l, x = .str l ∧ l.length ≤ 2 ^ 47) := by
  intro H enc v d ps base h1 h2 h3
  obtain ⟨x, k1, l, e, hl⟩ := arg_one Try.underlying9 rfl (fun f => rds_string Try.underlying9 f) H enc v d ps base h1 h2 h3
  injection e with e
  exact ⟨_, k1, l, e, hl⟩
end GP
namespace GP
open Go Go.Proofs
open Rd O
set_option maxRecDepth 100000
def c40 : C :=
  (.seq (.reg [⟨(some 4), none, .mv (Ki 0)⟩])
  (.seq (.seq (.reg [⟨(some 5), none, .mv (Ki 0)⟩])
  (.block 0
  (.loop
  (.seq (.seq (.reg [Im 6 5, Im 7 0, ⟨(some 8), none, .lens (t 7)⟩, ⟨(some 9), none, .bin .lss (t 6) (t 8)⟩, Im 10 9, Jm 11 10 true 5, Jm 12 10 true 1, ⟨(some 13), (some (10, true)), .lens (t 12)⟩, ⟨(some 14), (some (10, true)), .bin .lss (t 11) (t 13)⟩, ⟨(some 15), none, .pick (t 10) (t 14) (k (.bool false))⟩])
  (.cond (t 15)
  .skip
  (.exit 0)))
  (.seq (.block 1
  (.seq (.seq (.draw 0 [(Im 18 0, []), (Im 19 5, []), (⟨(some 20), none, .idxs (t 18) (t 19)⟩, []), (Im 21 1, []), (Im 22 5, []), (⟨(some 23), none, .idxs (t 21) (t 22)⟩, []), (⟨(some 24), none, .bin .lss (t 20) (t 23)⟩, [])])
  (.cond (t 24)
  (.seq (.reg [⟨(some 4), none, .mv (k (.int .i64 (-1)))⟩])
  .ret)
  .skip))
  (.seq (.draw 0 [(Im 25 0, []), (Im 26 5, []), (⟨(some 27), none, .idxs (t 25) (t 26)⟩, []), (Im 28 1, []), (Im 29 5, []), (⟨(some 30), none, .idxs (t 28) (t 29)⟩, []), (⟨(some 31), none, .bin .gtr (t 27) (t 30)⟩, [])])
  (.cond (t 31)
  (.seq (.reg [⟨(some 4), none, .mv (Ki 1)⟩])
  .ret)
  .skip))))
  (.reg [Im 16 5, ⟨(some 17), none, .bin .add (t 16) (Ki 1)⟩, Im 5 17]))))))
  (.seq (.seq (.reg [Im 32 0, ⟨(some 33), none, .lens (t 32)⟩, Im 34 1, ⟨(some 35), none, .lens (t 34)⟩, ⟨(some 36), none, .bin .lss (t 33) (t 35)⟩])
  (.cond (t 36)
  (.seq (.reg [⟨(some 4), none, .mv (k (.int .i64 (-1)))⟩])
  .ret)
  .skip))
  (.seq (.seq (.reg [Im 37 0, ⟨(some 38), none, .lens (t 37)⟩, Im 39 1, ⟨(some 40), none, .lens (t 39)⟩, ⟨(some 41), none, .bin .gtr (t 38) (t 40)⟩])
  (.cond (t 41)
  (.seq (.reg [⟨(some 4), none, .mv (Ki 1)⟩])
  .ret)
  .skip))
  (.seq (.reg [⟨(some 4), none, .mv (Ki 0)⟩])
  .ret)))))
theorem fn40 : Fn Go.Proofs.Try.prog 40 42 [.inl 4] c40 :=
  ⟨⟨_, _, Go.Proofs.Try.func40, rfl, by kernel_rfl, Go.Proofs.Try.ntmps40, by kernel_rfl, ⟨fun f => imp.contains f, false, fun _ => false, false⟩, by kernel_rfl⟩⟩
end GP
namespace GP
open Go Go.Proofs
set_option maxRecDepth 100000
variable [HasG Try.prog]
def cmpS : List UInt8 → List UInt8 → Int
  | [], [] => 0
  | [], _ :: _ => -1
  | _ :: _, [] => 1
  | x :: a, y :: b => if x.toNat < y.toNat then -1 else if y.toNat < x.toNat then 1 else cmpS a b
theorem cmpS_lt : ∀ {a b : Sb}, a < b → cmpS a b = -1
  | [], [], h => absurd h (List.lt_irrefl _)
  | [], _ :: _, _ => rfl
  | _ :: _, [], h => absurd h (by simp)
  | x :: a, y :: b, h => by
    rw [List.cons_lt_cons_iff] at h
    unfold cmpS
    rcases h with h | ⟨rfl, h⟩
    · rw [UInt8.lt_iff_toNat_lt] at h
      rw [if_pos h]
    · rw [if_neg (by omega), if_neg (by omega)]
      exact cmpS_lt h
@[go_sem] theorem ixs_nat (s : List UInt8) (k : IntKind) (i : Nat) : ixs (.str s) (.int k (i : Int)) = (s[i]?).map fun b => .int .u8 (b.toNat : Int) := by
  simp [ixs]
def φTexts : List D → Option D
  | [.str a, .str b] => if a.length ≤ 2 ^ 47 ∧ b.length ≤ 2 ^ 47 then some (.int .i64 (cmpS a b)) else none
  | _ => none
theorem ok40 : OkAt Try.prog 40 φTexts := by
  refine ok_of (l := []) Ok.nil fn40 fun args r h => ?_
  unfold φTexts at h
  split at h
  · split at h
    · rename_i a b hl
      injection h with h; subst h
      refine ⟨by simp, by simp [D.cl], fun H T => ?_⟩
      simp +contextual (maxSteps := 10000000) only [c40, go_sem, W_draw]
      refine W_for (fun i s => s.t 0 = .str a ∧ s.t 1 = .str b ∧ s.t 5 = .int .i64 i ∧ s.H = H ∧ s.T = T ∧ i ≤ a.length ∧ i ≤ b.length ∧ cmpS (a.drop i) (b.drop i) = cmpS a b) a.length ⟨0, by simp [upd, argT]⟩ (fun i s h => h.2.2.2.2.2.1) ?_ (XL_mono _)
      rintro i ⟨t, H', T'⟩ ⟨h0, h1, h5, rfl, rfl, hi, hj, hc⟩
      simp only at h0 h1 h5
      by_cases ha : i < a.length
      · by_cases hb : i < b.length
        · have d1 : decide ((i : Int) < a.length) = true := by simpa using ha
          have d2 : decide ((i : Int) < b.length) = true := by simpa using hb
          have e1 : a[i]? = some a[i] := by simp [ha]
          have e2 : b[i]? = some b[i] := by simp [hb]
          rw [List.drop_eq_getElem_cons ha, List.drop_eq_getElem_cons hb, cmpS] at hc
          simp +contextual (maxSteps := 10000000) only [h0, h1, h5, d1, d2, e1, e2, wrap_natY i (by omega), go_sem, W_draw]
          refine ⟨fun h => ?_, fun h => ⟨fun h' => ?_, fun h' => ⟨by omega, by omega, ?_⟩⟩⟩ <;> simp only [decide_eq_true_eq, decide_eq_false_iff_not] at h <;> (try simp only [decide_eq_true_eq, decide_eq_false_iff_not] at h')
          · rw [if_pos (by omega)] at hc; rw [hc]
          · rw [if_neg (by omega), if_pos (by omega)] at hc; rw [hc]
          · rw [if_neg (by omega), if_neg (by omega)] at hc; exact hc
        · have d1 : decide ((i : Int) < a.length) = true := by simpa using ha
          have d2 : decide ((i : Int) < b.length) = false := by simpa using hb
          have d3 : decide ((a.length : Int) < b.length) = false := by simp; omega
          have d4 : decide ((b.length : Int) < a.length) = true := by simp; omega
          rw [List.drop_eq_getElem_cons ha, List.drop_eq_nil_of_le (by omega : b.length ≤ i), cmpS] at hc
          simp +contextual (maxSteps := 10000000) only [h0, h1, h5, d1, d2, d3, d4, ← hc, go_sem, W_draw]
      · have d1 : decide ((i : Int) < a.length) = false := by simpa using ha
        have d3 : decide ((b.length : Int) < a.length) = false := by simp; omega
        rw [List.drop_eq_nil_of_le (by omega : a.length ≤ i)] at hc
        by_cases hb : i < b.length
        · have d4 : decide ((a.length : Int) < b.length) = true := by simp; omega
          rw [List.drop_eq_getElem_cons hb, cmpS] at hc
          simp +contextual (maxSteps := 10000000) only [h0, h1, h5, d1, d3, d4, ← hc, go_sem, W_draw]
        · have d4 : decide ((a.length : Int) < b.length) = false := by simp; omega
          rw [List.drop_eq_nil_of_le (by omega : b.length ≤ i), cmpS] at hc
          simp +contextual (maxSteps := 10000000) only [h0, h1, h5, d1, d3, d4, ← hc, go_sem, W_draw]
    · cases h
  · cases h
def TxM (B : Hp) (d : D) (l : List Sb) : Prop := (d = .nils ∧ l = []) ∨ ∃ o cap X, d = .ms false 1 o 0 l.length cap ∧ B[o]? = some (.row (l.map D.str ++ X))
theorem TxM.len {d : D} {l : List Sb} {B : Hp} (h : TxM B d l) : lenD d = some l.length := by
  rcases h with ⟨rfl, rfl⟩ | ⟨o, cap, X, rfl, _⟩ <;> rfl
theorem TxM.er {d : D} {l : List Sb} {B : Hp} (h : TxM B d l) : d.erase = d := by
  rcases h with ⟨rfl, rfl⟩ | ⟨o, cap, X, rfl, _⟩ <;> rfl
theorem TxM.ext {H B : Hp} {d : D} {l : List Sb} (h : TxM H d l) (hE : Ext H B) : TxM B d l := by
  rcases h with h | ⟨o, cap, X, h1, h2⟩
  · exact .inl h
  · exact .inr ⟨o, cap, X, h1, hE.get h2⟩
theorem TxM.at {d : D} {l : List Sb} {B : Hp} (h : TxM B d l) {i : Nat} {s : Sb} (hs : l[i]? = some s) (k : IntKind) : ∃ o, ia 1 d (.int k (i : Int)) = some (.ptr o i) ∧ ∃ Y, rdAt B (.ptr o i) = some (.str s :: Y) := by
  rcases h with ⟨rfl, rfl⟩ | ⟨o, cap, X, rfl, h2⟩
  · simp at hs
  · exact ⟨o, txs_at h2 hs k⟩
def txM (H : Hp) : D → Option (List Sb)
  | .nils => some []
  | .ms false 1 o 0 n _ => match H[o]? with
    | some (.row cs) => if n ≤ cs.length then strsD (cs.take n) else none
    | _ => none
  | _ => none
theorem TxM.tx {H : Hp} {d : D} {l : List Sb} (h : TxM H d l) : txM H d = some l := by
  rcases h with ⟨rfl, rfl⟩ | ⟨o, cap, X, rfl, h2⟩
  · rfl
  · simp only [txM, h2]
    rw [if_pos (by simp), List.take_left' (by simp), strsD_map]
theorem TxM.of {H : Hp} {d : D} {l : List Sb} (h : txM H d = some l) : TxM H d l := by
  unfold txM at h
  split at h
  · injection h with h; exact .inl ⟨rfl, h.symm⟩
  · rename_i o n cap
    split at h
    · rename_i cs ho
      split at h
      · rename_i hn
        have e := strsD_of h
        have hl : n = l.length := by
          have := congrArg List.length e
          rw [List.length_take, List.length_map] at this; omega
        subst hl
        exact .inr ⟨o, cap, cs.drop l.length, rfl, by rw [ho, ← e, List.take_append_drop]⟩
      · cases h
    · cases h
  · cases h
theorem txM_mono {H H' : Hp} (hl : Hle H H') {d : D} {l : List Sb} (h : txM H d = some l) : txM H' d = some l := by
  have := TxM.of h
  refine TxM.tx ?_
  rcases this with h | ⟨o, cap, X, h1, h2⟩
  · exact .inl h
  · exact .inr ⟨o, cap, X, h1, hl _ _ h2 rfl⟩
def φ56m (H : Hp) : List D → Option D
  | [d, .str s] => match txM H d with
    | some l => if l.length ≤ 2 ^ 40 then some (.bool (l.contains s)) else none
    | none => none
  | _ => none
theorem φ56m_mono : Mo φ56m := by
  intro H H' args r hl h
  unfold φ56m at h ⊢
  split at h
  · rename_i d s
    split at h
    · rename_i l hL
      simp only [txM_mono hl hL]; exact h
    · cases h
  · cases h
theorem ok56m : OkAtH Try.prog 56 φ56m := by
  refine okH_of (l := []) (m := []) .nil .nil fn56 fun H args r h => ?_
  unfold φ56m at h
  split at h
  · rename_i d s
    split at h
    · rename_i l hL
      split at h
      · rename_i hl
        injection h with h; subst h
        refine ⟨by simp, by simp [D.cl], fun T => ?_⟩
        have hT := TxM.of hL
        have hlen := hT.len
        simp +contextual (maxSteps := 10000000) only [c56, go_sem, W_draw]
        refine W_for (fun i s' => s'.t 0 = d ∧ s'.t 1 = .str s ∧ s'.t 5 = .int .i64 (i : Int) ∧ s'.H = H ∧ s'.T = T ∧ i ≤ l.length ∧ (l.take i).contains s = false) l.length
          ⟨0, ?_⟩ (fun i s h => h.2.2.2.2.2.1) ?_ (XM_mono _ _)
        · simp [upd, argT]
        rintro i ⟨t, B, T'⟩ ⟨r0, r1, r5, rfl, rfl, hi, hn⟩
        simp only at r0 r1 r5
        by_cases ha : i < l.length
        · have d1 : decide ((i : Int) < l.length) = true := by simpa using ha
          have e : l[i]? = some l[i] := by simp [ha]
          obtain ⟨x, hx⟩ : ∃ x, l[i] = x := ⟨_, rfl⟩
          rw [hx] at e
          obtain ⟨o, e1, Y, e2⟩ := hT.at e .i64
          by_cases hxs : x = s
          · subst hxs
            have : l.contains x = true := List.contains_iff_mem.2 (List.mem_of_getElem? e)
            simp +contextual (maxSteps := 10000000) only [r0, r1, r5, hlen, d1, e1, e2, this, ld, List.head?_cons, beq_self_eq_true, go_sem, W_draw]
          · have hb : (x == s) = false := by simpa using hxs
            have et : (l.take (i + 1)).contains s = false := by
              rw [List.take_add_one, e]
              simp only [Option.toList_some, List.contains_eq_any_beq, List.any_append, List.any_cons, List.any_nil] at hn ⊢
              rw [hn]; simpa using fun h => hxs h.symm
            simp +contextual (maxSteps := 10000000) only [r0, r1, r5, hlen, d1, e1, e2, hb, ld, List.head?_cons, wrap_natY i (by omega), go_sem, W_draw]
            exact ⟨by omega, et⟩
        · have d1 : decide ((i : Int) < l.length) = false := by simpa using ha
          rw [List.take_of_length_le (by omega)] at hn
          simp +contextual (maxSteps := 10000000) only [r0, r1, r5, hlen, d1, hn, go_sem, W_draw]
      · cases h
    · cases h
  · cases h
end GP
namespace GP
open Go Go.Proofs
set_option maxRecDepth 100000
variable [HasG Try.prog]
structure LsM (ag : Bool) (sz : Nat) (H : Hp) (d : D) (xs : List D) : Prop where
  er : d.erase = d
  len : lenD d = some xs.length
  att : ∀ (i : Nat) x, xs[i]? = some x → ∃ o off row, ia sz d (.int .i64 (i : Int)) = some (.ptr o off) ∧ H[o]? = some (.row row) ∧ ld ag sz (some (row.drop off)) = some x
  el : ∀ x ∈ xs, x.erase = x
  sm : xs.length ≤ 2 ^ 40
variable {ag : Bool} {sz : Nat} {H H' : Hp} {d : D} {xs ys : List D}
theorem LsM.mono (h : LsM ag sz H d xs) (hl : Hle H H') : LsM ag sz H' d xs := ⟨h.er, h.len, fun i x e => by
  obtain ⟨o, off, row, h1, h2, h3⟩ := h.att i x e
  exact ⟨o, off, row, h1, hl _ _ h2 rfl, h3⟩, h.el, h.sm⟩
theorem LsM.uniq (h : LsM ag sz H d xs) (k : LsM ag sz H d ys) : xs = ys := by
  have hl : xs.length = ys.length := by have := h.len; rw [k.len] at this; injection this with this; exact this.symm
  refine List.ext_getElem? fun i => ?_
  by_cases hi : i < xs.length
  · obtain ⟨o, off, row, h1, h2, h3⟩ := h.att i _ (List.getElem?_eq_getElem hi)
    obtain ⟨o', off', row', k1, k2, k3⟩ := k.att i _ (List.getElem?_eq_getElem (by omega))
    rw [h1] at k1; injection k1 with k1; injection k1 with k1 k1'
    subst k1; subst k1'
    rw [h2] at k2; injection k2 with k2; injection k2 with k2
    subst k2
    rw [h3] at k3; injection k3 with k3
    rw [List.getElem?_eq_getElem hi, List.getElem?_eq_getElem (by omega), k3]
  · rw [List.getElem?_eq_none (by omega), List.getElem?_eq_none (by omega)]
open Classical in
noncomputable def φidxM (ag : Bool) (sz : Nat) (f : FuncId) (φf : Hp → List D → Option D) (H : Hp) : List D → Option D
  | [l, .fn g [] cap] => if h : g = f ∧ D.eraseL cap = cap ∧ ∃ xs, LsM ag sz H l xs ∧ ∀ x ∈ xs, ∃ b, φf H (x :: cap) = some (.bool b) then some (.int .i64 (idxP (fun x => isT (φf H (x :: cap))) (Classical.choose h.2.2))) else none
  | _ => none
theorem φidxM_eq {f : FuncId} {φf : Hp → List D → Option D} {cap : List D} (hc : D.eraseL cap = cap) (h : LsM ag sz H d xs) (hb : ∀ x ∈ xs, ∃ b, φf H (x :: cap) = some (.bool b)) : φidxM ag sz f φf H [d, .fn f [] cap] = some (.int .i64 (idxP (fun x => isT (φf H (x :: cap))) xs)) := by
  have hh : f = f ∧ D.eraseL cap = cap ∧ ∃ xs, LsM ag sz H d xs ∧ ∀ x ∈ xs, ∃ b, φf H (x :: cap) = some (.bool b) := ⟨rfl, hc, xs, h, hb⟩
  simp only [φidxM]
  rw [dif_pos hh]
  have := (Classical.choose_spec hh.2.2).1.uniq h
  rw [this]
theorem φidxM_of {f : FuncId} {φf : Hp → List D → Option D} {args : List D} {r : D} (h : φidxM ag sz f φf H args = some r) : ∃ d cap xs, args = [d, .fn f [] cap] ∧ D.eraseL cap = cap ∧ LsM ag sz H d xs ∧ (∀ x ∈ xs, ∃ b, φf H (x :: cap) = some (.bool b)) ∧ r = .int .i64 (idxP (fun x => isT (φf H (x :: cap))) xs) := by
  have h0 := h
  unfold φidxM at h
  split at h
  · rename_i l g cap
    split at h
    · rename_i hc
      obtain ⟨rfl, h2, xs, h3, h4⟩ := hc
      rw [φidxM_eq h2 h3 h4] at h0
      injection h0 with h0
      exact ⟨l, cap, xs, rfl, h2, h3, h4, h0.symm⟩
    · cases h
  · cases h
theorem φidxM_mono {f : FuncId} {φf : Hp → List D → Option D} (hm : Mo φf) : Mo (φidxM ag sz f φf) := by
  intro H H' a r hl h
  obtain ⟨d, cap, xs, rfl, h2, h3, h4, rfl⟩ := φidxM_of h
  rw [φidxM_eq h2 (h3.mono hl) fun x hx => by
    obtain ⟨b, hb⟩ := h4 x hx
    exact ⟨b, hm _ _ _ _ hl hb⟩]
  congr 2
  refine idxP_congr fun x hx => ?_
  obtain ⟨b, hb⟩ := h4 x hx
  rw [hb, hm _ _ _ _ hl hb]
theorem okIdxM {N : FuncId} (hf : Fn Try.prog N 19 [.inl 4] (idxC ag sz)) {f : FuncId} {φf : Hp → List D → Option D} (hφ : OkAtH Try.prog f φf) (hm : Mo φf) : OkAtH Try.prog N (φidxM ag sz f φf) := by
  have M : MonoH [(f, φf)] := .cons hm .nil
  refine okH_of (l := []) (m := [(f, φf)]) .nil (.cons hφ .nil) hf fun H args r h => ?_
  obtain ⟨d, cap, xs, rfl, h3, hL, h4, rfl⟩ := φidxM_of h
  refine ⟨by simp, by simp [D.cl], fun T => ?_⟩
  have hlen := hL.len
  have hsm := hL.sm
  simp +contextual (maxSteps := 10000000) only [idxC, hlen, go_sem, W_draw]
  refine W_for (fun i s => s.t 0 = d ∧ s.t 1 = .fn f [] cap ∧ s.t 6 = d ∧ s.t 7 = .int .i64 xs.length ∧ s.t 8 = .int .i64 i ∧ s.H = H ∧ s.T = T ∧ i ≤ xs.length ∧ ∀ (j : Nat) x, j < i → xs[j]? = some x → isT (φf H (x :: cap)) = false) xs.length ⟨0, by simp [upd, argT]⟩ (fun i s h => h.2.2.2.2.2.2.2.1) ?_ (XM_mono _ _)
  rintro i ⟨t, H', T'⟩ ⟨h0, h1, h6, h7, h8, rfl, rfl, hi, hc⟩
  simp only at h0 h1 h6 h7 h8
  by_cases ha : i < xs.length
  · have d1 : decide ((i : Int) < xs.length) = true := by simpa using ha
    have e : xs[i]? = some xs[i] := by simp [ha]
    obtain ⟨b, hb⟩ := h4 _ (List.getElem_mem ha)
    have her := hL.el _ (List.getElem_mem ha)
    obtain ⟨o, off, row, e1, e2, e3⟩ := hL.att i _ e
    have e4 : rdAt H' (.ptr o off) = some (row.drop off) := by simp only [rdAt, e2]
    generalize xs[i] = x at *
    cases b with
    | true =>
      have hI : idxP (fun x => isT (φf H' (x :: cap))) xs = i := by
        unfold idxP
        rw [findIdx_at e (by rw [hb]; rfl) hc]
      simp +contextual (maxSteps := 10000000) only [h0, h1, h6, h7, h8, d1, e1, e4, e3, her, h3, hb, hI, wrap_natY i (by omega), pcallH M, lookH_cons, lookH_nil, orK_n, go_sem, W_draw]
    | false =>
      have nx : ∀ (j : Nat) x, j < i + 1 → xs[j]? = some x → isT (φf H' (x :: cap)) = false := fun j y hj hy => by
        by_cases hji : j = i
        · subst hji; rw [e] at hy; injection hy with hy; subst hy; rw [hb]; rfl
        · exact hc j y (by omega) hy
      simp +contextual (maxSteps := 10000000) only [h0, h1, h6, h7, h8, d1, e1, e4, e3, her, h3, hb, wrap_natY i (by omega), pcallH M, lookH_cons, lookH_nil, orK_n, go_sem, W_draw]
      exact ⟨by omega, nx⟩
  · have d1 : decide ((i : Int) < xs.length) = false := by simpa using ha
    have hI : idxP (fun x => isT (φf H' (x :: cap))) xs = -1 := by
      unfold idxP
      rw [findIdx_no (fun j y hy => hc j y (by
        rcases Nat.lt_or_ge j i with h' | h'
        · exact h'
        · rw [List.getElem?_eq_none (by omega)] at hy; cases hy) hy)]
    simp +contextual (maxSteps := 10000000) only [h0, h1, h6, h7, h8, d1, hI, go_sem, W_draw]
open Classical in
noncomputable def φcfM (ag : Bool) (sz : Nat) (f : FuncId) (φf : Hp → List D → Option D) (H : Hp) (args : List D) : Option D := match φidxM ag sz f φf H args with
  | some (.int .i64 n) => some (.bool (decide (0 ≤ n)))
  | _ => none
theorem φcfM_mono {f : FuncId} {φf : Hp → List D → Option D} (hm : Mo φf) : Mo (φcfM ag sz f φf) := by
  intro H H' a r hl h
  unfold φcfM at h ⊢
  cases h0 : φidxM ag sz f φf H a with
  | none => rw [h0] at h; cases h
  | some r0 => rw [h0] at h; rw [φidxM_mono hm H H' a r0 hl h0]; exact h
theorem φcfM_eq {f : FuncId} {φf : Hp → List D → Option D} {cap : List D} (hc : D.eraseL cap = cap) (h : LsM ag sz H d xs) (hb : ∀ x ∈ xs, ∃ b, φf H (x :: cap) = some (.bool b)) : φcfM ag sz f φf H [d, .fn f [] cap] = some (.bool (xs.any fun x => isT (φf H (x :: cap)))) := by
  unfold φcfM
  rw [φidxM_eq hc h hb]
  simp only [idxP_any]
theorem okCfM {N M : FuncId} (hf : Fn Try.prog N 9 [.inl 4] (cfC M)) {f : FuncId} {φf : Hp → List D → Option D} (hi : OkAtH Try.prog M (φidxM ag sz f φf)) (hm : Mo φf) : OkAtH Try.prog N (φcfM ag sz f φf) := by
  have MM : MonoH [(M, φidxM ag sz f φf)] := .cons (φidxM_mono hm) .nil
  refine okH_of (l := []) (m := [(M, φidxM ag sz f φf)]) .nil (.cons hi .nil) hf fun H args r h => ?_
  unfold φcfM at h
  split at h
  · rename_i n hn
    injection h with h; subst h
    obtain ⟨d, cap, xs, rfl, h3, hL, h4, e⟩ := φidxM_of hn
    refine ⟨by simp, by simp [D.cl], fun T => ?_⟩
    have her := hL.er
    simp +contextual (maxSteps := 10000000) only [cfC, her, h3, hn, pcallH MM, lookH_cons, lookH_nil, orK_n, eq_self, go_sem, W_draw]
  · cases h
end GP
namespace GP
open Go Go.Proofs
set_option maxRecDepth 100000
variable [HasG Try.prog]
variable {H B : Hp} {p : Nat} {S : List Nat} {es ms : List Ed}
theorem rdAt_mono {H H' : Hp} (hl : Hle H H') {o off : Nat} {cs : List D} (h : rdAt H (.ptr o off) = some cs) : rdAt H' (.ptr o off) = some cs := by
  simp only [rdAt] at h ⊢
  split at h
  · rename_i cs' ho; rw [hl _ _ ho rfl]; exact h
  · cases h
def φ34b (H : Hp) (p : Nat) (b x : Sb) : Option D := match φ34 H [.ptr p 0, .str b, .str x] with
  | some (.bool v) => some (.bool v)
  | _ => none
theorem φ34b_mono {H H' : Hp} (hl : Hle H H') {p : Nat} {b x : Sb} {r : D} (h : φ34b H p b x = some r) : φ34b H' p b x = some r := by
  unfold φ34b at h ⊢
  cases h0 : φ34 H [.ptr p 0, .str b, .str x] with
  | none => rw [h0] at h; cases h
  | some r0 => rw [h0] at h; rw [φ34_mono H H' _ r0 hl h0]; exact h
theorem φ34b_of {H : Hp} {p : Nat} {b x : Sb} {r : D} (h : φ34b H p b x = some r) : ∃ v, r = .bool v ∧ φ34 H [.ptr p 0, .str b, .str x] = some (.bool v) := by
  unfold φ34b at h
  split at h
  · rename_i v hv; injection h with h; exact ⟨v, h.symm, hv⟩
  · cases h
def φ95 (H : Hp) : List D → Option D
  | [.agg [.str a, .str b], .ptr so 0, .ptr ro 0, .ptr xo 0] => match rdAt H (.ptr so 0), rdAt H (.ptr ro 0), rdAt H (.ptr xo 0) with
    | some [.str s], some [.ptr p 0], some [.str x] => if a == s then φ34b H p b x else some (.bool false)
    | _, _, _ => none
  | _ => none
theorem φ95_mono : Mo φ95 := by
  intro H H' args r hl h
  unfold φ95 at h ⊢
  split at h
  · rename_i a b so ro xo
    split at h
    · rename_i s p x h1 h2 h3
      simp only [rdAt_mono hl h1, rdAt_mono hl h2, rdAt_mono hl h3]
      split at h
      · rename_i hc; rw [if_pos hc]; exact φ34b_mono hl h
      · rename_i hc; rw [if_neg hc]; exact h
    · cases h
  · cases h
theorem ok95 : OkAtH Try.prog 95 φ95 := by
  have hM : MonoH [(34, φ34)] := .cons φ34_mono .nil
  refine okH_of (l := []) (m := [(34, φ34)]) .nil (.cons ok34 .nil) fn95 fun H args r h => ?_
  unfold φ95 at h
  split at h
  · rename_i a b so ro xo
    split at h
    · rename_i s p x h1 h2 h3
      have hE : Hle H (H ++ [Ob.row [.str a, .str b]]) := hle_ext (Ext.of _ _)
      have g1 := rdAt_mono hE h1
      have g2 := rdAt_mono hE h2
      have g3 := rdAt_mono hE h3
      split at h
      · rename_i hc
        obtain ⟨v, rfl, hv⟩ := φ34b_of h
        have hv' := φ34_mono H _ _ _ hE hv
        refine ⟨by simp, by simp [D.cl], fun T => ?_⟩
        simp +contextual (maxSteps := 10000000) only [c95, g1, g2, g3, hc, hv', ld, List.head?_cons, pcallH hM, lookH_cons, lookH_nil, orK_n, go_sem, W_draw]
      · rename_i hc
        have hc : (a == s) = false := by simpa using hc
        injection h with h; subst h
        refine ⟨by simp, by simp [D.cl], fun T => ?_⟩
        simp +contextual (maxSteps := 10000000) only [c95, g1, g2, g3, hc, ld, List.head?_cons, go_sem, W_draw]
    · cases h
  · cases h
theorem ok127 : OkAtH Try.prog 127 (φidxM true 2 95 φ95) := okIdxM (ag := true) (sz := 2) fn127 ok95 φ95_mono
theorem ok94 : OkAtH Try.prog 94 (φcfM true 2 95 φ95) := okCfM (M := 127) fn94 ok127 φ95_mono
theorem edsM_Ls {H : Hp} {d : D} {l : List Ed} (h : edsM H d = some l) (hl : l.length ≤ 1000) : LsM true 2 H d (l.map edD) where
  er := edsM_er h
  len := by rw [List.length_map]; exact edsM_len h
  att := fun i x e => by
    rw [List.getElem?_map] at e
    cases he : l[i]? with
    | none => rw [he] at e; cases e
    | some y =>
      rw [he] at e; simp only [Option.map_some] at e; injection e with e; subst e
      rcases edsM_of h with ⟨rfl, rfl⟩ | ⟨o, cap, X, rfl, ho⟩
      · simp at he
      · obtain ⟨o', e1, X', e2⟩ := edsM_at h he .i64
        have ho' : o' = o := by
          simp only [ia] at e1
          split at e1
          · injection e1 with e1; injection e1 with e1 _; exact e1.symm
          · cases e1
        subst ho'
        refine ⟨o', i * 2, _, e1, ho, ?_⟩
        simp only [rdAt, ho] at e2
        injection e2 with e2
        rw [e2]; rfl
  el := fun x hx => by
    obtain ⟨e, _, rfl⟩ := List.mem_map.1 hx; rfl
  sm := by simp; omega
open Classical in
noncomputable def φ93 (H : Hp) : List D → Option D
  | [.str x, .ptr ro 0, .ptr so 0] => match rdAt H (.ptr ro 0), rdAt H (.ptr so 0) with
    | some [.ptr p 0], some [.str s] => match rdAt H (.ptr p 1) with
      | some (mD :: _) => match edsM H mD with
        | some l => if l.length ≤ 1000 ∧ ∀ e ∈ l, ∃ v, φ34 H [.ptr p 0, .str e.2, .str x] = some (.bool v) then some (.bool (!(l.any fun e => e.1 == s && isT (φ34 H [.ptr p 0, .str e.2, .str x])))) else none
        | none => none
      | _ => none
    | _, _ => none
  | _ => none
theorem φ93_mono : Mo φ93 := by
  intro H H' args r hl h
  unfold φ93 at h ⊢
  split at h
  · rename_i x ro so
    split at h
    · rename_i p s h1 h2
      split at h
      · rename_i mD tl h3
        split at h
        · rename_i l h4
          split at h
          · rename_i hc
            simp only [rdAt_mono hl h1, rdAt_mono hl h2, rdAt_mono hl h3, edsM_mono hl h4]
            rw [if_pos ⟨hc.1, fun e he => by
              obtain ⟨v, hv⟩ := hc.2 e he
              exact ⟨v, φ34_mono H H' _ _ hl hv⟩⟩, ← h]
            congr 3
            rw [Bool.eq_iff_iff, List.any_eq_true, List.any_eq_true]
            have key : ∀ e ∈ l, isT (φ34 H' [.ptr p 0, .str e.2, .str x]) = isT (φ34 H [.ptr p 0, .str e.2, .str x]) := fun e he => by
              obtain ⟨v, hv⟩ := hc.2 e he
              rw [hv, φ34_mono H H' _ _ hl hv]
            constructor
            · rintro ⟨e, he, h5⟩; exact ⟨e, he, by rw [key e he] at h5; exact h5⟩
            · rintro ⟨e, he, h5⟩; exact ⟨e, he, by rw [key e he]; exact h5⟩
          · cases h
        · cases h
      · cases h
    · cases h
  · cases h
theorem ok93 : OkAtH Try.prog 93 φ93 := by
  have hM : MonoH [(94, φcfM true 2 95 φ95)] := .cons (φcfM_mono φ95_mono) .nil
  refine okH_of (l := []) (m := [(94, φcfM true 2 95 φ95)]) .nil (.cons ok94 .nil) fn93 fun H args r h => ?_
  unfold φ93 at h
  split at h
  · rename_i x ro so
    split at h
    · rename_i p s h1 h2
      split at h
      · rename_i mD tl h3
        split at h
        · rename_i l h4
          split at h
          · rename_i hc
            injection h with h; subst h
            refine ⟨by simp, by simp [D.cl], fun T => ?_⟩
            have hE : Hle H (H ++ [Ob.row [.str x]]) := hle_ext (Ext.of _ _)
            have g1 := rdAt_mono hE h1
            have g2 := rdAt_mono hE h2
            have g3 := rdAt_mono hE h3
            have g4 := edsM_mono hE h4
            have g5 : rdAt (H ++ [Ob.row [.str x]]) (.ptr H.length 0) = some [.str x] := by simp [rdAt]
            have her := edsM_er h4
            have v : ∀ e ∈ l, ∃ b, φ95 (H ++ [Ob.row [.str x]]) (edD e :: [.ptr so 0, .ptr ro 0, .ptr H.length 0]) = some (.bool b) ∧ b = (e.1 == s && isT (φ34 H [.ptr p 0, .str e.2, .str x])) := fun e he => by
              obtain ⟨v, hv⟩ := hc.2 e he
              simp only [φ95, edD, g1, g2, g5]
              rcases tf (e.1 == s) with c | c
              · rw [if_pos c, c, hv]
                refine ⟨v, ?_, rfl⟩
                unfold φ34b
                rw [φ34_mono H _ _ _ hE hv]
              · rw [if_neg (by rw [c]; simp), c]; exact ⟨false, rfl, rfl⟩
            have p94 := φcfM_eq (f := 95) (φf := φ95) (cap := [.ptr so 0, .ptr ro 0, .ptr H.length 0]) rfl (edsM_Ls g4 hc.1) (fun y hy => by
              obtain ⟨e, he, rfl⟩ := List.mem_map.1 hy
              obtain ⟨b, hb, _⟩ := v e he
              exact ⟨b, hb⟩)
            have ea : ((l.map edD).any fun y => isT (φ95 (H ++ [Ob.row [.str x]]) (y :: [.ptr so 0, .ptr ro 0, .ptr H.length 0]))) = l.any fun e => e.1 == s && isT (φ34 H [.ptr p 0, .str e.2, .str x]) := by
              rw [List.any_map, Bool.eq_iff_iff, List.any_eq_true, List.any_eq_true]
              constructor
              · rintro ⟨e, he, h5⟩
                obtain ⟨b, hb, hb2⟩ := v e he
                simp only [Function.comp] at h5
                rw [hb] at h5
                exact ⟨e, he, by rw [← hb2]; exact h5⟩
              · rintro ⟨e, he, h5⟩
                obtain ⟨b, hb, hb2⟩ := v e he
                refine ⟨e, he, ?_⟩
                simp only [Function.comp]
                rw [hb]; rw [← hb2] at h5; exact h5
            rw [ea] at p94
            simp +contextual (maxSteps := 10000000) only [c93, g1, g2, g3, her, p94, nilc_ptr, ld, List.head?_cons, pcallH hM, lookH_cons, lookH_nil, orK_n, go_sem, W_draw]
          · cases h
        · cases h
      · cases h
    · cases h
  · cases h
end GP
namespace GP
open Go Go.Proofs
set_option maxRecDepth 100000
variable [HasG Try.prog]
theorem ok126m : OkAtH Try.prog 126 (φidxM false 1 93 φ93) := okIdxM (ag := false) (sz := 1) fn126 ok93 φ93_mono
theorem txs_Ls {B : Hp} {o cap : Nat} {l : List Sb} {X : List D} (ho : B[o]? = some (.row (l.map D.str ++ X))) (hl : l.length ≤ 1000) : LsM false 1 B (.ms false 1 o 0 l.length cap) (l.map D.str) where
  er := rfl
  len := by simp [lenD]
  att := fun i x e => by
    rw [List.getElem?_map] at e
    cases he : l[i]? with
    | none => rw [he] at e; cases e
    | some y =>
      rw [he] at e; simp only [Option.map_some] at e; injection e with e; subst e
      obtain ⟨e1, Y, e2⟩ := txs_at (cap := cap) ho he .i64
      refine ⟨o, i, _, e1, ho, ?_⟩
      simp only [rdAt, ho] at e2
      injection e2 with e2
      rw [e2]; rfl
  el := fun x hx => by
    obtain ⟨e, _, rfl⟩ := List.mem_map.1 hx; rfl
  sm := by simp; omega
theorem idxP_spec (p : D → Bool) (xs : List D) : (idxP p xs = -1 ∧ ∀ x ∈ xs, p x = false) ∨ ∃ (i : Nat) (x : D), idxP p xs = (i : Int) ∧ xs[i]? = some x ∧ p x = true ∧ ∀ (j : Nat) y, j < i → xs[j]? = some y → p y = false := by
  unfold idxP
  cases h : xs.findIdx? p with
  | none =>
    rw [List.findIdx?_eq_none_iff] at h
    exact .inl ⟨rfl, fun x hx => by simpa using h x hx⟩
  | some i =>
    rw [List.findIdx?_eq_some_iff_getElem] at h
    obtain ⟨h1, h2, h3⟩ := h
    refine .inr ⟨i, xs[i], rfl, List.getElem?_eq_getElem h1, h2, fun j y hj e => ?_⟩
    have := h3 j hj
    rw [List.getElem?_eq_getElem (by omega)] at e
    injection e with e
    rw [← e]; simpa using this
theorem filter_all {kp : Sb → Bool} {l : List Sb} (h : ∀ x ∈ l, kp x = true) : l.filter kp = l := List.filter_eq_self.2 h
theorem split_at' {l : List Sb} {i : Nat} {e : Sb} (h : l[i]? = some e) : l = l.take i ++ e :: l.drop (i + 1) := by
  have hi : i < l.length := by
    rcases Nat.lt_or_ge i l.length with h' | h'
    · exact h'
    · rw [List.getElem?_eq_none h'] at h; cases h
  rw [List.getElem?_eq_getElem hi] at h; injection h with h
  rw [← h, ← List.drop_eq_getElem_cons hi, List.take_append_drop]
set_option maxHeartbeats 4000000 in
theorem del92_snd {o cap ro so : Nat} {l : List Sb} {X : List D} (kp : Sb → Bool) {H : Hp} {T : Tk} {Q : Post} (ho : H[o]? = some (.row (l.map D.str ++ X))) (hl : l.length ≤ 1000) (hcap : l.length ≤ cap) (hx : ∀ x ∈ l, x.length ≤ 1000)
    (hv : ∀ R, ∀ x ∈ l, φ93 (H.set o (.row R)) [.str x, .ptr ro 0, .ptr so 0] = some (.bool (!kp x)))
    (k : ∀ X', Q (.ms false 1 o 0 (l.filter kp).length cap) (H.set o (.row ((l.filter kp).map D.str ++ X'))) T) :
    Snd Try.prog 92 [.ms false 1 o 0 l.length cap, .fn 93 [] [.ptr ro 0, .ptr so 0]] H T Q := by
  have hM : MonoH [(126, φidxM false 1 93 φ93), (93, φ93)] := .cons (φidxM_mono φ93_mono) (.cons φ93_mono .nil)
  have hX := XG_mono (P := Try.prog) [] [] [(126, φidxM false 1 93 φ93), (93, φ93)] [] []
  refine call_of fn92 (by simp) (W_mono (X := XG Try.prog [] [] [(126, φidxM false 1 93 φ93), (93, φ93)] [] []) (XG.X .nil (.cons ok126m (.cons ok93 .nil)) .nil .nil) (fun _ _ h => h) ?_)
  have hlo := lt_get ho
  have hself : H.set o (.row (l.map D.str ++ X)) = H := by
    refine List.ext_getElem? fun i => ?_
    by_cases hi : i = o
    · subst hi; rw [List.getElem?_set_self hlo, ho]
    · rw [List.getElem?_set_ne (Ne.symm hi)]
  have hv0 := hv (l.map D.str ++ X)
  rw [hself] at hv0
  have p126 := φidxM_eq (ag := false) (sz := 1) (f := 93) (φf := φ93) (cap := [.ptr ro 0, .ptr so 0]) rfl (txs_Ls (cap := cap) ho hl) (fun y hy => by
    obtain ⟨e, he, rfl⟩ := List.mem_map.1 hy
    exact ⟨_, hv0 e he⟩)
  rcases idxP_spec (fun x => isT (φ93 H (x :: [.ptr ro 0, .ptr so 0]))) (l.map D.str) with ⟨hI, hall⟩ | ⟨i, xi, hI, hxi, hpi, hlow⟩
  · rw [hI] at p126
    have hf : l.filter kp = l := filter_all fun x hx => by
      have := hall (.str x) (List.mem_map.2 ⟨x, hx, rfl⟩)
      simp only [hv0 x hx, isT] at this
      simpa using this
    have := k X
    rw [hf, hself] at this
    simp +contextual (maxSteps := 10000000) only [c92, p126, pcallG hM, lookH_cons, lookH_nil, orK_n, orK_s, go_sem, W_draw]
    exact this
  · rw [hI] at p126
    have hil : i < l.length := by
      rcases Nat.lt_or_ge i l.length with h' | h'
      · exact h'
      · rw [List.getElem?_eq_none (by simpa using h')] at hxi; cases hxi
    have hei : l[i]? = some l[i] := List.getElem?_eq_getElem hil
    obtain ⟨xd, hxd⟩ : ∃ x, l[i] = x := ⟨_, rfl⟩
    rw [hxd] at hei
    have hkd : kp xd = false := by
      rw [List.getElem?_map, hei] at hxi
      simp only [Option.map_some] at hxi; injection hxi with hxi
      subst hxi
      rw [hv0 xd (List.mem_of_getElem? hei)] at hpi
      simpa [isT] using hpi
    have hft : (l.take i).filter kp = l.take i := filter_all fun x hx => by
      obtain ⟨j, hj, e⟩ := List.getElem_of_mem hx
      have hji : j < i := by simp at hj; omega
      have e2 : l[j]? = some x := by
        rw [List.getElem_take] at e
        rw [← e]; exact List.getElem?_eq_getElem (by omega)
      have := hlow j (.str x) hji (by rw [List.getElem?_map, e2]; rfl)
      simp only [hv0 x (List.mem_of_getElem? e2), isT] at this
      simpa using this
    have hf1 : (l.take (i + 1)).filter kp = l.take i := by
      rw [List.take_add_one, hei, List.filter_append, hft]
      simp [hkd]
    have d0 : ((i : Int) == -1) = false := by simp
    simp +contextual (maxSteps := 10000000) only [c92, p126, d0, pcallG hM, lookH_cons, lookH_nil, orK_n, orK_s, wrap_natY i (by omega), go_sem, W_draw]
    refine W_for (fun m s' => s'.t 0 = .ms false 1 o 0 l.length cap ∧ s'.t 1 = .fn 93 [] [.ptr ro 0, .ptr so 0] ∧ s'.t 5 = .int .i64 (((l.take (i + 1 + m)).filter kp).length : Int) ∧ s'.t 6 = .int .i64 ((i + 1 + m : Nat) : Int) ∧ (∃ Y : List D, Y.length + ((l.take (i + 1 + m)).filter kp).length = i + 1 + m ∧ Y ≠ [] ∧ s'.H = H.set o (.row (((l.take (i + 1 + m)).filter kp).map D.str ++ (Y ++ ((l.drop (i + 1 + m)).map D.str ++ X))))) ∧ s'.T = T ∧ i + 1 + m ≤ l.length) l.length
      ⟨0, ?_⟩ (fun m s h => by have := h.2.2.2.2.2.2; omega) ?_ hX
    · refine ⟨by simp [upd, argT], by simp [upd, argT], ?_, by simp [upd], ⟨[.str xd], ?_, by simp, ?_⟩, rfl, by omega⟩
      · simp only [Nat.add_zero, hf1, List.length_take]
        rw [Nat.min_eq_left (by omega)]; simp [upd]
      · simp only [Nat.add_zero, hf1, List.length_take]
        rw [Nat.min_eq_left (by omega)]; simp; try omega
      · simp only [Nat.add_zero, hf1]
        have e1 : l.map D.str ++ X = (l.take i).map D.str ++ ([.str xd] ++ ((l.drop (i + 1)).map D.str ++ X)) := by
          conv => lhs; rw [split_at' hei]
          simp
        rw [← e1, hself]
    rintro m ⟨t, B, U⟩ ⟨r0, r1, r5, r6, ⟨Y, hYl, hYn, hB⟩, rfl, hm⟩
    simp only at r0 r1 r5 r6 hB
    obtain ⟨F, hF⟩ : ∃ F, (l.take (i + 1 + m)).filter kp = F := ⟨_, rfl⟩
    rw [hF] at r5 hYl hB
    obtain ⟨q, hq⟩ : ∃ q, i + 1 + m = q := ⟨_, rfl⟩
    have hq1 : i + 1 + (m + 1) = q + 1 := by omega
    rw [hq] at r6 hYl hB hm hF
    rw [hq1]
    by_cases ha : q < l.length
    · have d1 : decide ((q : Int) < l.length) = true := by simpa using ha
      have e : l[q]? = some l[q] := by simp [ha]
      obtain ⟨x, hxx⟩ : ∃ x, l[q] = x := ⟨_, rfl⟩
      rw [hxx] at e
      have hxm := List.mem_of_getElem? e
      have hd : l.drop q = x :: l.drop (q + 1) := by rw [List.drop_eq_getElem_cons ha, hxx]
      have hFn : (l.take (q + 1)).filter kp = F ++ if kp x then [x] else [] := by
        rw [List.take_add_one, e, List.filter_append, hF]
        cases h : kp x <;> simp [h]
      rw [hd] at hB
      have hrow : B[o]? = some (.row (F.map D.str ++ (Y ++ ((x :: l.drop (q + 1)).map D.str ++ X)))) := by rw [hB, List.getElem?_set_self hlo]
      have i1 : ia 1 (.ms false 1 o 0 l.length cap) (.int .i64 (q : Int)) = some (.ptr o q) := by
        simp only [ia]; rw [if_pos ⟨by omega, by omega, trivial⟩]; simp
      have i2 : ia 1 (.ms false 1 o 0 l.length cap) (.int .i64 (F.length : Int)) = some (.ptr o F.length) := by
        simp only [ia]; rw [if_pos ⟨by omega, by omega, trivial⟩]; simp
      have g1 : rdAt B (.ptr o q) = some (.str x :: ((l.drop (q + 1)).map D.str ++ X)) := by
        simp only [rdAt, hrow]
        rw [← List.append_assoc, List.drop_left' (by simp; omega)]; rfl
      have p93 := hv (F.map D.str ++ (Y ++ ((x :: l.drop (q + 1)).map D.str ++ X))) x hxm
      rw [← hB] at p93
      cases hk : kp x with
      | true =>
        rw [hk] at p93 hFn
        simp only [if_true] at hFn
        simp only [Bool.not_true] at p93
        obtain ⟨y, Y', rfl⟩ := List.exists_cons_of_ne_nil hYn
        simp +contextual (maxSteps := 10000000) only [r0, r1, r5, r6, d1, i1, i2, g1, p93, ld, List.head?_cons, pcallG hM, lookH_cons, lookH_nil, orK_n, orK_s, storeK_E hrow, wrap_natY q (by omega), wrap_natY F.length (by omega), go_sem, W_draw]
        refine ⟨by simp, by rw [hFn]; simp, ⟨Y' ++ [.str x], by rw [hFn]; simp at hYl ⊢; omega, by simp, ?_⟩, by omega⟩
        rw [hFn, hB, List.set_set]
        congr 2
        have e1 : F.length = (F.map D.str).length := by simp
        rw [List.take_left' (by simp), ← List.drop_drop, List.drop_left' (by simp)]
        simp
      | false =>
        rw [hk] at p93 hFn
        simp only [Bool.false_eq_true, if_false, List.append_nil] at hFn
        simp only [Bool.not_false] at p93
        simp +contextual (maxSteps := 10000000) only [r0, r1, r5, r6, d1, i1, i2, g1, p93, ld, List.head?_cons, pcallG hM, lookH_cons, lookH_nil, orK_n, orK_s, wrap_natY q (by omega), go_sem, W_draw]
        refine ⟨by rw [hFn], ⟨Y ++ [.str x], by rw [hFn]; simp; omega, by simp, ?_⟩, by omega⟩
        rw [hFn, hB]
        congr 2
        simp
    · have d1 : decide ((q : Int) < l.length) = false := by simpa using ha
      have hql : q = l.length := by omega
      subst hql
      rw [List.take_length] at hF
      rw [List.drop_length, List.map_nil, List.nil_append] at hB
      have hrow : B[o]? = some (.row (F.map D.str ++ (Y ++ X))) := by rw [hB, List.getElem?_set_self hlo]
      have hY1 : 1 ≤ Y.length := by
        cases Y with
        | nil => exact absurd rfl hYn
        | cons => simp
      have s1 : slc 1 (some (F.length : Int)) (some (l.length : Int)) (.ms false 1 o 0 l.length cap) = some (.ms false 1 o F.length (l.length - F.length) (cap - F.length)) := by
        simp only [slc]
        rw [if_pos ⟨by omega, by omega, by omega, by omega, trivial⟩]
        congr 2 <;> simp
      have s2 : slc 1 (some 0) (some (F.length : Int)) (.ms false 1 o 0 l.length cap) = some (.ms false 1 o 0 F.length cap) := by
        simp only [slc]
        rw [if_pos ⟨by omega, by omega, by omega, by omega, trivial⟩]
        simp
      simp +contextual (maxSteps := 10000000) only [r0, r1, r5, r6, d1, s1, s2, go_sem, W_draw]
      simp only [clrK, hrow]
      refine ⟨rfl, by simp; omega, ?_⟩
      simp +contextual (maxSteps := 10000000) only [r0, r1, r5, r6, d1, s1, s2, go_sem, W_draw]
      have := k ((List.replicate (l.length - F.length) [D.str []]).flatten ++ List.drop (F.length + (l.length - F.length) * 1) (List.map D.str F ++ (Y ++ X)))
      rw [hF] at this
      rw [List.take_left' (by simp), hB, List.set_set]
      exact this
theorem del92_nil {ro so : Nat} {H : Hp} {T : Tk} {Q : Post} (k : Q .nils H T) : Snd Try.prog 92 [.nils, .fn 93 [] [.ptr ro 0, .ptr so 0]] H T Q := by
  have hM : MonoH [(126, φidxM false 1 93 φ93), (93, φ93)] := .cons (φidxM_mono φ93_mono) (.cons φ93_mono .nil)
  refine call_of fn92 (by simp) (W_mono (X := XG Try.prog [] [] [(126, φidxM false 1 93 φ93), (93, φ93)] [] []) (XG.X .nil (.cons ok126m (.cons ok93 .nil)) .nil .nil) (fun _ _ h => h) ?_)
  have hL : LsM false 1 H .nils [] := ⟨rfl, rfl, fun i x e => by simp at e, by simp, by simp⟩
  have p126 := φidxM_eq (f := 93) (φf := φ93) (cap := [.ptr ro 0, .ptr so 0]) rfl hL (by simp)
  have hI : idxP (fun x => isT (φ93 H (x :: [.ptr ro 0, .ptr so 0]))) [] = -1 := rfl
  rw [hI] at p126
  simp +contextual (maxSteps := 10000000) only [c92, p126, pcallG hM, lookH_cons, lookH_nil, orK_n, orK_s, go_sem, W_draw]
  exact k
variable {H B : Hp} {p : Nat} {S : List Nat} {es ms : List Ed}
theorem RosS.mok (h : RosS H p S es ms) : ∀ x ∈ ms, x.1.length ≤ 64 ∧ x.2.length ≤ 64 := by
  obtain ⟨_, oe, om, w, _, _, _, _, eD, mD, ents, clk, ks, c, r, h⟩ := h
  exact fun x hx => ⟨nm_len (h.mok x hx).1, nm_len (h.mok x hx).2⟩
theorem p93 (h : RosS B p S es ms) {ro so : Nat} {s x : Sb} (hr : rdAt B (.ptr ro 0) = some [.ptr p 0]) (hs : rdAt B (.ptr so 0) = some [.str s]) (hx : x.length ≤ 1000) : φ93 B [.str x, .ptr ro 0, .ptr so 0] = some (.bool (!hasB es ms s x)) := by
  have hmok := h.mok
  have hros := fun b (hb : b.length ≤ 1000) => h.ros (a := b) (b := x) hb hx
  have hml := h.rs.2.2.2.1
  obtain ⟨_, oe, om, w, _, _, _, _, eD, mD, ents, clk, ks, c, r, hd⟩ := h
  have g1 : rdAt B (.ptr p 1) = some [mD, .mp w] := by simp only [rdAt, hd.row]; rfl
  simp only [φ93, hr, hs, g1, hd.m.eds]
  have hall : ∀ e ∈ ms, φ34 B [.ptr p 0, .str e.2, .str x] = some (.bool (reachB es e.2 x)) := fun e he => hros e.2 (by have := (hmok e he).2; omega)
  rw [if_pos ⟨by omega, fun e he => ⟨_, hall e he⟩⟩]
  congr 3
  unfold hasB
  rw [Bool.eq_iff_iff, List.any_eq_true, List.any_eq_true]
  constructor
  · rintro ⟨e, he, h5⟩; rw [hall e he] at h5; exact ⟨e, he, h5⟩
  · rintro ⟨e, he, h5⟩; refine ⟨e, he, ?_⟩; rw [hall e he]; exact h5
set_option maxHeartbeats 2000000 in
theorem of_snd {s : Sb} {T : Tk} {Q : Post} (h : RosS H p S es ms) (k : ∀ B d U, TxM B d ((namesS (n3 [] es ms)).filter (hasB es ms s)) → Ext H B → Q d B (T ++ U)) : Snd Try.prog 54 [.ptr p 0, .str s] H T Q := by
  refine call_of fn54 (by simp) (W_mono (X := XG Try.prog [67, 92] [] [] [] []) (XG.X .nil .nil .nil .nil) (fun _ _ h => h) ?_)
  have g0 : rdAt (H ++ [Ob.row [.ptr p 0], .row [.str s]]) (.ptr H.length 0) = some [.ptr p 0] := by simp [rdAt]
  have g1 : rdAt (H ++ [Ob.row [.ptr p 0], .row [.str s]]) (.ptr (H.length + 1) 0) = some [.str s] := by simp [rdAt]
  simp +contextual (maxSteps := 10000000) only [c54, XG_eq, g0, ld, List.head?_cons, go_sem, W_draw]
  have hE1 : Ext H (H ++ [Ob.row [.ptr p 0], .row [.str s]]) := Ext.of _ _
  have hl1 : (H ++ [Ob.row [.ptr p 0], .row [.str s]]).length = H.length + 2 := by simp
  obtain ⟨H1, hH1⟩ : ∃ B, H ++ [Ob.row [.ptr p 0], .row [.str s]] = B := ⟨_, rfl⟩
  rw [hH1] at g0 g1 hE1 hl1 ⊢
  have h1 := h.ext hE1
  have hros := h1
  have hrs := h.rs
  obtain ⟨_, oe, om, w, _, _, _, _, eD, mD, ents, clk, ks, c, r, hd⟩ := h1
  refine names_snd' (more := []) hd.row hd.e.eds hd.m.eds (by omega) (by omega) (by simp) (fun e L U => ?_) fun _ L U o cap X ho hcap hor => ?_
  · simp +contextual (maxSteps := 10000000) only [XG_eq, go_sem, W_draw]
    refine del92_nil ?_
    simp +contextual (maxSteps := 10000000) only [go_sem, W_draw]
    refine k _ _ _ (.inl ⟨rfl, ?_⟩) (hE1.app _)
    rw [e]
    have : namesS [] = [] := List.eq_nil_iff_forall_not_mem.2 fun x hx => by have := (names_mem [] x).1 hx; simp at this
    rw [this]; rfl
  · simp +contextual (maxSteps := 10000000) only [XG_eq, go_sem, W_draw]
    have hE2 : Ext H (H1 ++ L) := hE1.app L
    have hlo := lt_get hor
    refine del92_snd (hasB es ms s) hor (hd.nmn (by simp)) hcap (hd.nmlen (by simp)) (fun R x hx => ?_) fun X' => ?_
    · have hF : Fr [o] (H1 ++ L) ((H1 ++ L).set o (.row R)) := ⟨by simp, fun o' _ hn => by rw [List.getElem?_set_ne (fun e => hn (by simp [e]))]⟩
      have h3 := (hros.ext (Ext.of H1 L)).fr hF fun o' ho' hm => by
        rw [List.mem_singleton] at hm
        have := hros.1 o' ho'
        omega
      refine p93 h3 ?_ ?_ (hd.nmlen (l := []) (by simp) x hx)
      · simp only [rdAt] at g0 ⊢
        rw [hF.2 H.length (by rw [List.length_append]; omega) (by simp; omega), List.getElem?_append_left (by omega)]; exact g0
      · simp only [rdAt] at g1 ⊢
        rw [hF.2 (H.length + 1) (by rw [List.length_append]; omega) (by simp; omega), List.getElem?_append_left (by omega)]; exact g1
    · simp +contextual (maxSteps := 10000000) only [go_sem, W_draw]
      exact k _ _ _ (.inr ⟨o, cap, X', rfl, by rw [List.getElem?_set_self hlo]⟩) (hE2.set (by omega) _)
end GP
namespace GP
open Go Go.Proofs
set_option maxRecDepth 100000
variable [HasG Try.prog]
variable {H B : Hp} {p : Nat} {S : List Nat} {es ms : List Ed}
theorem rosR_st (n n2 : Bool) (E M : List Ed) (k : Int) (a b : Sb) : ∃ m m2, rosR n n2 E M k a b = .agg [edS m (stE E M k a b), edS m2 (stM E M k a b)] := by
  unfold rosR stE stM
  by_cases h : errR E M k a b = 0
  · simp only [h, beq_self_eq_true, if_true]
    exact ⟨_, _, rfl⟩
  · have : (errR E M k a b == 0) = false := by simpa using h
    simp only [this, h, if_false, Bool.false_eq_true]
    exact ⟨_, _, rfl⟩
open Classical in
theorem p43 (n n2 : Bool) {E M : List Ed} {k : Int} (a b : Sb) (h1 : E.length ≤ 800) (h2 : M.length ≤ 800) (h3 : E.Nodup) (h4 : M.Nodup) (h5 : 0 ≤ k) : ∃ m m2, φ43 [.agg [edS n E, edS n2 M], .agg [.int .u8 k, .str a, .str b]] = some (.tup [.agg [edS m (stE E M k a b), edS m2 (stM E M k a b)], .int .i64 (errR E M k a b)]) := by
  simp only [φ43, edgesD_S]
  rw [if_pos ⟨h1, h2, h3, h4, h5⟩]
  obtain ⟨m, m2, e⟩ := rosR_st (isNl (edS n E)) (isNl (edS n2 M)) E M k a b
  exact ⟨m, m2, by rw [e]⟩
end GP
namespace GP
open Go Go.Proofs
set_option maxRecDepth 100000
variable [HasG Try.prog]
variable {H B : Hp} {p : Nat} {S : List Nat} {es ms : List Ed}
theorem p55 (n n2 : Bool) (E M : List Ed) (s b : Sb) (h1 : E.length ≤ 900) (h2 : M.length ≤ 900) : φ55 [.agg [edS n E, edS n2 M], .str s, .str b] = some (.bool (hasB E M s b)) := by
  simp only [φ55, edgesD_S]
  rw [if_pos ⟨h1, h2⟩]
theorem RosS.named (h : RosS H p S es ms) {s x : Sb} (hx : hasB es ms s x = true) : x ∈ namesS (n3 [] es ms) := by
  obtain ⟨_, _, _, _, c, r, hc, hr⟩ := h.rs
  unfold hasB at hx
  rw [List.any_eq_true] at hx
  obtain ⟨e, he, h5⟩ := hx
  rw [Bool.and_eq_true] at h5
  have h6 := h5.2
  rw [hr] at h6
  simp only [Bool.and_eq_true, decide_eq_true_eq] at h6
  by_cases hex : e.2 = x
  · exact names_nm.2 (.inr (.inr (List.mem_map.2 ⟨e, he, hex⟩)))
  · by_cases hin : ∃ e' ∈ es, e'.2 = x
    · obtain ⟨e', h7, h8⟩ := hin
      exact names_nm.2 (.inr (.inl ⟨e', h7, .inr h8.symm⟩))
    · have := hc.noin (b := x) (fun e' h7 h8 => hin ⟨e', h7, h8⟩) _ e.2 (Nat.lt_succ_self _) hex
      omega
def ofL (es ms : List Ed) (s : Sb) : List Sb := (namesS (n3 [] es ms)).filter (hasB es ms s)
theorem RosS.of_in (h : RosS H p S es ms) (s x : Sb) : (ofL es ms s).contains x = hasB es ms s x := by
  rw [Bool.eq_iff_iff, List.contains_iff_mem, ofL, List.mem_filter]
  exact ⟨fun h => h.2, fun hx => ⟨h.named hx, hx⟩⟩
theorem of_rise (es ms : List Ed) (s : Sb) : (ofL es ms s).Pairwise (· < ·) := (names_rise _).filter _
theorem of_len (h : RosS H p S es ms) (s : Sb) : (ofL es ms s).length ≤ 1000 ∧ ∀ x ∈ ofL es ms s, x.length ≤ 1000 ∧ hasB es ms s x = true := by
  obtain ⟨_, oe, om, w, _, _, _, _, eD, mD, ents, clk, ks, c, r, hd⟩ := h
  have h1 := hd.nmn (l := []) (by simp)
  have h2 := List.length_filter_le (hasB es ms s) (namesS (n3 [] es ms))
  refine ⟨by unfold ofL; omega, fun x hx => ?_⟩
  unfold ofL at hx
  rw [List.mem_filter] at hx
  exact ⟨hd.nmlen (l := []) (by simp) x hx.1, hx.2⟩
theorem rise_at {l : List Sb} (h : l.Pairwise (· < ·)) {i : Nat} {a b : Sb} (ha : l[i]? = some a) (hb : l[i + 1]? = some b) : a < b := by
  rw [List.pairwise_iff_getElem] at h
  have h1 : i + 1 < l.length := by
    rcases Nat.lt_or_ge (i + 1) l.length with h' | h'
    · exact h'
    · rw [List.getElem?_eq_none h'] at hb; cases hb
  rw [List.getElem?_eq_getElem h1] at hb; injection hb with hb
  rw [List.getElem?_eq_getElem (by omega)] at ha; injection ha with ha
  rw [← ha, ← hb]
  exact h i (i + 1) (by omega) h1 (by omega)
set_option maxHeartbeats 8000000 in
theorem main13 {n : Bool} {l : List St} {a0 : Sb} (hso : stOk l = true) {H : Hp} {T : Tk} {Q : Post} (hQ : ∀ L U, Q (.bool true) (H ++ L) (T ++ U)) : W (Snd Try.prog) c13 (endQ [.inl 4] Q) ⟨argT [stS n l, .str a0], H, T⟩ := by
  have hM : MonoH [(56, φ56m)] := .cons φ56m_mono .nil
  have hX := XG_mono (P := Try.prog) [30, 31, 42, 54] [(41, φ41), (43, φ43), (55, φ55), (40, φTexts)] [(56, φ56m)] [] []
  refine W_mono (X := XG Try.prog [30, 31, 42, 54] [(41, φ41), (43, φ43), (55, φ55), (40, φTexts)] [(56, φ56m)] [] []) (XG.X (.cons ok41 (.cons ok43 (.cons ok55 (.cons ok40 .nil)))) (.cons ok56m .nil) .nil .nil) (fun _ _ h => h) ?_
  have hQ' : ∀ {B : Hp} {U : Tk}, Ext H B → ExtT T U → Q (.bool true) B U := fun h k => by
    obtain ⟨L, rfl⟩ := h; obtain ⟨M, rfl⟩ := k; exact hQ L M
  simp +contextual (maxSteps := 10000000) only [c13, XG_eq, go_sem, W_draw]
  refine awake_snd fun L1 U1 => ?_
  have p41' := p41 n l 60
  rcases tf' (fewB l 60) with hf | hf
  · rw [hf] at p41'
    simp +contextual (maxSteps := 10000000) only [p41', XG_eq, pcallG hM, lookH_cons, lookH_nil, orK_n, orK_s, go_sem, W_draw]
    refine awake_snd fun L2 U2 => ?_
    simp +contextual (maxSteps := 10000000) only [go_sem, W_draw]
    exact hQ _ _
  rw [hf] at p41'
  obtain ⟨hll, hsl⟩ := few_of (n := 60) (by omega) hf
  rcases tf (decide ((100 : Int) < a0.length)) with g0 | g0
  · simp +contextual (maxSteps := 10000000) only [p41', g0, XG_eq, pcallG hM, lookH_cons, lookH_nil, orK_n, orK_s, go_sem, W_draw]
    refine awake_snd fun L2 U2 => ?_
    simp +contextual (maxSteps := 10000000) only [go_sem, W_draw]
    exact hQ _ _
  simp +contextual (maxSteps := 10000000) only [p41', g0, XG_eq, pcallG hM, lookH_cons, lookH_nil, orK_n, orK_s, go_sem, W_draw]
  have la : a0.length ≤ 100 := by simp at g0; omega
  have hE0 : Ext H (H ++ L1) := Ext.of _ _
  refine new_S fun A p S hE hp hS hros => ?_
  have hEA := hE0.trans hE
  have hL : Liv H (A ++ [Ob.row [.nils, .nils]]) T (T ++ U1) p S [] [] := ⟨hros.ext (Ext.of _ _), hEA.app _, fun o ho => Nat.le_trans hE0.ln (hS o ho), ⟨U1, rfl⟩⟩
  have hoA : A.length ∉ S := fun h => by have := hros.1 _ h; omega
  have hHA := hEA.ln
  clear hE hp hS hE0
  simp +contextual (maxSteps := 10000000) only [go_sem, W_draw]
  refine W_for (fun i s' => s'.t 0 = stS n l ∧ s'.t 1 = .str a0 ∧ s'.t 5 = .ptr p 0 ∧ s'.t 6 = .ptr A.length 0 ∧ s'.t 7 = .int .i64 (i : Int) ∧ (∃ S es ms n n2, Liv H s'.H T s'.T p S es ms ∧ es.length ≤ i ∧ s'.H[A.length]? = some (.row [edS n es, edS n2 ms]) ∧ A.length ∉ S) ∧ i ≤ l.length) l.length
    ⟨0, ?_⟩ (fun i s h => h.2.2.2.2.2.2) ?_ hX
  · exact ⟨by simp [upd, argT], by simp [upd, argT], by simp [upd], by simp [upd], by simp [upd], ⟨S, [], [], true, true, hL, by simp, by simp; rfl, hoA⟩, by omega⟩
  obtain ⟨oA, hoA'⟩ : ∃ o, A.length = o := ⟨_, rfl⟩
  rw [hoA'] at hHA ⊢
  clear hL hoA hros hEA
  rintro i ⟨t, B, U⟩ ⟨r0, r1, r5, r6, r7, ⟨S, es, ms, n1, n2, hL, he, hrow, hoS⟩, hi⟩
  simp only at r0 r1 r5 r6 r7 hL hrow
  by_cases ha : i < l.length
  · have d1 : decide ((i : Int) < l.length) = true := by simpa using ha
    have e : l[i]? = some l[i] := by simp [ha]
    obtain ⟨⟨k, a, b⟩, hx⟩ : ∃ x, l[i] = x := ⟨_, rfl⟩
    rw [hx] at e
    have hm := List.mem_of_getElem? e
    have hk := List.all_eq_true.1 hso _ hm
    have hab := hsl _ hm
    simp only [Bool.and_eq_true, decide_eq_true_eq] at hk hab
    simp +contextual (maxSteps := 10000000) only [r0, r1, r5, r6, r7, d1, e, Option.map_some, XG_eq, go_sem, W_draw]
    refine do_snd hL.1 (by omega) (by omega) (by omega) hk.1 hk.2 fun C U' hs => ?_
    obtain ⟨S', hL', hF, hS'⟩ := hL.step (U' := U') hs
    obtain ⟨q1, q2, q3, q4, _⟩ := hL.1.rs
    have hoB := lt_get hrow
    have hoS' : oA ∉ S' := fun h => by
      rcases hS' _ h with h' | h'
      · exact hoS h'
      · omega
    have hrowC : C[oA]? = some (.row [edS n1 es, edS n2 ms]) := by rw [hF.2 oA hoB hoS]; exact hrow
    have hoC := lt_get hrowC
    have gC : ∀ X, rdAt (C ++ X) (.ptr oA 0) = some [edS n1 es, edS n2 ms] := fun X => by simp only [rdAt]; rw [List.getElem?_append_left hoC, hrowC]; rfl
    obtain ⟨m1, m2, p43'⟩ := p43 n1 n2 (k := k) a b (by omega) (by omega) q1 q2 hk.1
    obtain ⟨es', hes⟩ : ∃ x, stE es ms k a b = x := ⟨_, rfl⟩
    obtain ⟨ms', hms⟩ : ∃ x, stM es ms k a b = x := ⟨_, rfl⟩
    have hel := stE_len es ms k a b
    rw [hes, hms] at hL' p43'
    rw [hes] at hel
    simp +contextual (maxSteps := 10000000) only [r0, r1, r5, r6, r7, e, gC, p43', Option.map_some, pcallG hM, lookH_cons, lookH_nil, orK_n, orK_s, storeK_Ea hrowC, List.take_zero, List.nil_append, List.drop_succ_cons, List.drop_zero, wrap_natY i (by omega), go_sem, W_draw]
    have hF2 : Fr [oA] C (C.set oA (.row [edS m1 es', edS m2 ms'])) := ⟨by simp, fun o _ hn => by rw [List.getElem?_set_ne (fun e => hn (by simp [e]))]⟩
    have hr2 := hL'.1.fr hF2 fun o ho hm => by
      rw [List.mem_singleton] at hm
      exact hoS' (hm ▸ ho)
    have hE2 : Ext H (C.set oA (.row [edS m1 es', edS m2 ms'])) := hL'.2.1.set hHA _
    have hrow2 : (C.set oA (.row [edS m1 es', edS m2 ms']))[oA]? = some (.row [edS m1 es', edS m2 ms']) := by rw [List.getElem?_set_self hoC]
    exact ⟨⟨S', es', ms', m1, m2, ⟨hr2.ext (Ext.of _ _), hE2.app _, hL'.2.2.1, hL'.2.2.2⟩, by omega, (Ext.of _ _).get hrow2, hoS'⟩, by omega⟩
  · have d1 : decide ((i : Int) < l.length) = false := by simpa using ha
    obtain ⟨q1, q2, q3, q4, _⟩ := hL.1.rs
    simp +contextual (maxSteps := 10000000) only [r0, r1, r5, r6, r7, d1, XG_eq, go_sem, W_draw]
    refine of_snd hL.1 fun C d U' hV hE => ?_
    have hrosC := hL.1.ext hE
    obtain ⟨V, hVe⟩ : ∃ V, ofL es ms a0 = V := ⟨_, rfl⟩
    have hV' : TxM C d V := by rw [← hVe]; exact hV
    have hVl := of_len hrosC a0
    have hVr := of_rise es ms a0
    have hVi := hrosC.of_in a0
    rw [hVe] at hVl hVr hVi
    have hEC : Ext H C := hL.2.1.trans hE
    have hTC : ExtT T (U ++ U') := hL.2.2.2.app U'
    have hrowC := hE.get hrow
    have gC : rdAt C (.ptr oA 0) = some [edS n1 es, edS n2 ms] := by simp only [rdAt, hrowC]; rfl
    have p5 := fun x => p55 n1 n2 es ms a0 x (by omega) (by omega)
    have hlenV := hV'.len
    have herV := hV'.er
    clear hL hrow hE hV hVe
    simp +contextual (maxSteps := 10000000) only [r0, r1, r5, r6, go_sem, W_draw]
    refine W_for (fun i s' => s'.t 0 = stS n l ∧ s'.t 1 = .str a0 ∧ s'.t 6 = .ptr oA 0 ∧ s'.t 10 = d ∧ s'.t 11 = .int .i64 (i : Int) ∧ s'.H = C ∧ s'.T = U ++ U' ∧ i ≤ V.length) V.length
      ⟨0, ?_⟩ (fun i s h => h.2.2.2.2.2.2.2) ?_ hX
    · exact ⟨by simp [upd, r0], by simp [upd, r1], by simp [upd, r6], by simp [upd], by simp [upd], rfl, rfl, by omega⟩
    clear r0 r1 r5 r6 r7 d1
    rintro v ⟨t, B', U2⟩ ⟨r0, r1, r6, r10, r11, rfl, rfl, hv⟩
    simp only at r0 r1 r6 r10 r11
    by_cases hb : v < V.length
    · have d1 : decide ((v : Int) < V.length) = true := by simpa using hb
      have e : V[v]? = some V[v] := by simp [hb]
      obtain ⟨x, hx⟩ : ∃ x, V[v] = x := ⟨_, rfl⟩
      rw [hx] at e
      obtain ⟨o, i1, Y, i2⟩ := hV'.at e .i64
      have hxx := hVl.2 x (List.mem_of_getElem? e)
      have p5x := p5 x
      rw [hxx.2] at p5x
      cases v with
      | zero =>
        have i1' : ia 1 d (.int .i64 0) = some (.ptr o 0) := i1
        have r11' : t 11 = .int .i64 0 := r11
        have d1' : decide ((0 : Int) < (V.length : Int)) = true := d1
        simp +contextual (maxSteps := 10000000) only [r0, r1, r6, r10, r11', hlenV, d1', i1', i2, gC, p5x, ld, List.head?_cons, pcallG hM, lookH_cons, lookH_nil, orK_n, orK_s, go_sem, W_draw]
        exact ⟨by rw [wrap_inY (by omega) (by omega)]; rfl, by omega⟩
      | succ v' =>
        have e0 : V[v']? = some V[v'] := List.getElem?_eq_getElem (by omega)
        obtain ⟨y, hy⟩ : ∃ x, V[v'] = x := ⟨_, rfl⟩
        rw [hy] at e0
        obtain ⟨o', j1, Y', j2⟩ := hV'.at e0 .i64
        have hyy := hVl.2 y (List.mem_of_getElem? e0)
        have hlt := cmpS_lt (rise_at hVr e0 e)
        have p40 : φTexts [.str y, .str x] = some (.int .i64 (-1)) := by
          simp only [φTexts]; rw [if_pos ⟨by omega, by omega⟩, hlt]
        have w1 : IntKind.i64.wrap (((v' + 1 : Nat) : Int) - 1) = (v' : Int) := by rw [wrap_inY (by omega) (by omega)]; omega
        have d3 : decide ((0 : Int) < ((v' + 1 : Nat) : Int)) = true := by simp
        simp +contextual (maxSteps := 10000000) only [r0, r1, r6, r10, r11, hlenV, d1, d3, i1, i2, j1, j2, w1, gC, p5x, p40, ld, List.head?_cons, pcallG hM, lookH_cons, lookH_nil, orK_n, orK_s, wrap_natY (v' + 1) (by omega), go_sem, W_draw]
        omega
    · have d1 : decide ((v : Int) < V.length) = false := by simpa using hb
      simp +contextual (maxSteps := 10000000) only [r0, r1, r6, r10, r11, hlenV, d1, go_sem, W_draw]
      clear hv hb d1 r11
      refine W_for (fun j s' => s'.t 0 = stS n l ∧ s'.t 1 = .str a0 ∧ s'.t 6 = .ptr oA 0 ∧ s'.t 10 = d ∧ s'.t 12 = .int .i64 (j : Int) ∧ s'.H = B' ∧ ExtT T s'.T ∧ j ≤ l.length) l.length
        ⟨0, ?_⟩ (fun i s h => h.2.2.2.2.2.2.2) ?_ hX
      · exact ⟨by simp [upd, r0], by simp [upd, r1], by simp [upd, r6], by simp [upd, r10], by simp [upd], rfl, hTC, by omega⟩
      clear r0 r1 r6 r10
      rintro j ⟨t, B3, U3⟩ ⟨r0, r1, r6, r10, r12, rfl, hT3, hj⟩
      simp only at r0 r1 r6 r10 r12 hT3
      by_cases hb : j < l.length
      · have d1 : decide ((j : Int) < l.length) = true := by simpa using hb
        have e : l[j]? = some l[j] := by simp [hb]
        obtain ⟨⟨k, a, b⟩, hx⟩ : ∃ x, l[j] = x := ⟨_, rfl⟩
        rw [hx] at e
        simp +contextual (maxSteps := 10000000) only [r0, r1, r6, r10, r12, d1, e, Option.map_some, go_sem, W_draw]
        refine W_for (fun i s' => s'.t 0 = stS n l ∧ s'.t 1 = .str a0 ∧ s'.t 6 = .ptr oA 0 ∧ s'.t 10 = d ∧ s'.t 12 = .int .i64 (j : Int) ∧ s'.t 101 = txS false [a, b] ∧ s'.t 102 = .int .i64 2 ∧ s'.t 103 = .int .i64 (i : Int) ∧ s'.H = B3 ∧ ExtT T s'.T ∧ i ≤ 2) 2
          ⟨0, ?_⟩ (fun i s h => h.2.2.2.2.2.2.2.2.2.2) ?_ hX
        · exact ⟨by simp [upd, r0], by simp [upd, r1], by simp [upd, r6], by simp [upd, r10], by simp [upd, r12], by simp [upd]; rfl, by simp [upd], by simp [upd], rfl, hT3, by omega⟩
        clear r0 r1 r6 r10 r12 hT3
        rintro i2 ⟨t, B4, U4⟩ ⟨r0, r1, r6, r10, r12, r101, r102, r103, rfl, hT4, hi2⟩
        simp only at r0 r1 r6 r10 r12 r101 r102 r103 hT4
        by_cases hc : i2 < 2
        · have d2 : decide ((i2 : Int) < 2) = true := by simp; omega
          obtain ⟨x, hx2, hxl⟩ : ∃ x, [a, b][i2]? = some x ∧ x.length ≤ 1000 := by
            have hab := hsl _ (List.mem_of_getElem? e)
            simp only at hab
            match i2, hc with
            | 0, _ => exact ⟨a, rfl, by omega⟩
            | 1, _ => exact ⟨b, rfl, by omega⟩
          have p56' : φ56m B4 [d, .str x] = some (.bool (hasB es ms a0 x)) := by
            simp only [φ56m, hV'.tx]
            rw [if_pos (by omega), hVi]
          have p5x := p5 x
          rcases tf (hasB es ms a0 x) with g | g
          · rw [g] at p5x p56'
            simp +contextual (maxSteps := 10000000) only [r0, r1, r6, r10, r12, r101, r102, r103, d2, hx2, gC, p5x, p56', herV, Option.map_some, ld, List.head?_cons, pcallG hM, lookH_cons, lookH_nil, orK_n, orK_s, wrap_natY i2 (by omega), go_sem, W_draw]
            exact ⟨hT4, by omega⟩
          · rw [g] at p5x p56'
            simp +contextual (maxSteps := 10000000) only [r0, r1, r6, r10, r12, r101, r102, r103, d2, hx2, gC, p5x, p56', herV, Option.map_some, ld, List.head?_cons, pcallG hM, lookH_cons, lookH_nil, orK_n, orK_s, wrap_natY i2 (by omega), go_sem, W_draw]
            exact ⟨hT4, by omega⟩
        · have d2 : decide ((i2 : Int) < 2) = false := by simp; omega
          simp +contextual (maxSteps := 10000000) only [r0, r1, r6, r10, r12, r101, r102, r103, d2, wrap_natY j (by omega), go_sem, W_draw]
          exact ⟨hT4, by omega⟩
      · have d1 : decide ((j : Int) < l.length) = false := by simpa using hb
        simp +contextual (maxSteps := 10000000) only [r0, r1, r6, r10, r12, d1, go_sem, W_draw]
        exact hQ' hEC hT3
end GP
