import Derived.Ground.SlsfProg
import Derived.Shelf.Lay
import Derived.Shelf.SlSortCmp.WholeK
import Derived.Test.YtjpbliffonimgaaProg
import Derived.Test.YtjpbliffonimgaaM5
import Derived.Test.YtjpbliffonimgaaM6
set_option linter.unusedSimpArgs false
set_option linter.unnecessarySimpa false
set_option linter.unusedSectionVars false
namespace GP
open Go Go.Proofs
open Rd O
set_option maxRecDepth 100000
def c85 : C :=
  (.seq (.reg [Im 5 0, Iz 6 5, Im 4 6])
  (.reg [Im 7 0, Im 8 4, Im 9 4, ⟨(some 10), none, .conv .u64 (t 9)⟩, Ip 11 121 [(t 10)], Im 12 1, Ic 13 120 [(t 7), (Ki 0), (t 8), (t 11), (t 12)]]))
theorem fn85 : Fn Go.Proofs.Try.prog 85 14 [] c85 :=
  ⟨⟨_, _, Go.Proofs.Try.func85, rfl, by kernel_rfl, Go.Proofs.Try.ntmps85, by kernel_rfl, ⟨fun f => imp.contains f, false, fun _ => false, false⟩, by kernel_rfl⟩⟩
def c120 : C :=
  (.seq (.reg [⟨(some 10), none, .mv (k (.bool true))⟩])
  (.seq (.reg [⟨(some 11), none, .mv (k (.bool true))⟩])
  (.block 0
  (.loop
  (.block 1
  (.seq (.reg [Im 21 2, Im 22 1, ⟨(some 23), none, .bin .sub (t 21) (t 22)⟩, Im 12 23])
  (.seq (.seq (.reg [Im 24 12, ⟨(some 25), none, .bin .leq (t 24) (Ki 12)⟩])
  (.cond (t 25)
  (.seq (.reg [Im 26 0, Im 27 1, Im 28 2, Im 29 4, Ic 30 137 [(t 26), (t 27), (t 28), (t 29)]])
  .ret)
  .skip))
  (.seq (.seq (.reg [Im 31 3, ⟨(some 32), none, .bin .eql (t 31) (Ki 0)⟩])
  (.cond (t 32)
  (.seq (.reg [Im 33 0, Im 34 1, Im 35 2, Im 36 4, Ip 37 138 [(t 33), (t 34), (t 35), (t 36)]])
  .ret)
  .skip))
  (.seq (.seq (.reg [Im 38 10, ⟨(some 39), none, .un .not (t 38)⟩])
  (.cond (t 39)
  (.seq (.reg [Im 40 0, Im 41 1, Im 42 2, Im 43 4, Ip 44 139 [(t 40), (t 41), (t 42), (t 43)]])
  (.reg [Im 45 3, ⟨(some 46), none, .bin .sub (t 45) (Ki 1)⟩, Im 3 46]))
  .skip))
  (.seq (.reg [Im 48 0, Im 49 1, Im 50 2, Im 51 4, Ip 52 140 [(t 48), (t 49), (t 50), (t 51)], Im 47 52, Ie 53 0 47, Ie 54 1 47, Im 13 53, Im 14 54])
  (.seq (.seq (.reg [Im 55 14, ⟨(some 56), none, .bin .eql (t 55) (Ki 2)⟩])
  (.cond (t 56)
  (.seq (.reg [Im 57 0, Im 58 1, Im 59 2, Im 60 4, Ip 61 141 [(t 57), (t 58), (t 59), (t 60)]])
  (.seq (.reg [Im 62 2, ⟨(some 63), none, .bin .sub (t 62) (Ki 1)⟩, Im 64 13, Im 65 1, ⟨(some 66), none, .bin .sub (t 64) (t 65)⟩, ⟨(some 67), none, .bin .sub (t 63) (t 66)⟩, Im 13 67])
  (.reg [⟨(some 14), none, .mv (Ki 1)⟩])))
  .skip))
  (.seq (.seq (.reg [Im 68 10, Im 69 68, Jm 70 69 true 11, ⟨(some 71), none, .pick (t 69) (t 70) (k (.bool false))⟩, Im 72 71, Jm 73 72 true 14, ⟨(some 74), (some (72, true)), .bin .eql (t 73) (Ki 1)⟩, ⟨(some 75), none, .pick (t 72) (t 74) (k (.bool false))⟩])
  (.cond (t 75)
  (.seq (.reg [Im 76 0, Im 77 1, Im 78 2, Im 79 4, Ip 80 142 [(t 76), (t 77), (t 78), (t 79)]])
  (.cond (t 80)
  .ret
  .skip))
  .skip))
  (.seq (.seq (.draw 0 [(Im 81 1, []), (⟨(some 82), none, .bin .gtr (t 81) (Ki 0)⟩, []), (Im 83 82, []), (Jm 84 83 true 4, []), (Jm 85 83 true 0, []), (Jm 86 83 true 1, []), (⟨(some 87), (some (83, true)), .bin .sub (t 86) (Ki 1)⟩, []), (⟨(some 88), (some (83, true)), .iaddr 4 (t 85) (t 87)⟩, []), (⟨(some 89), (some (83, true)), .load true 4 (t 88)⟩, []), (Jm 90 83 true 0, []), (Jm 91 83 true 13, []), (⟨(some 92), (some (83, true)), .iaddr 4 (t 90) (t 91)⟩, []), (⟨(some 93), (some (83, true)), .load true 4 (t 92)⟩, []), (⟨(some 94), (some (83, true)), .pcall (t 84) [(t 89), (t 93)]⟩, []), (⟨(some 95), (some (83, true)), .bin .lss (t 94) (Ki 0)⟩, []), (⟨(some 96), (some (83, true)), .un .not (t 95)⟩, []), (⟨(some 97), none, .pick (t 83) (t 96) (k (.bool false))⟩, [])])
  (.cond (t 97)
  (.seq (.reg [Im 98 0, Im 99 1, Im 100 2, Im 101 13, Im 102 4, Ip 103 143 [(t 98), (t 99), (t 100), (t 101), (t 102)], Im 15 103])
  (.seq (.reg [Im 104 15, Im 1 104])
  (.exit 1)))
  .skip))
  (.seq (.reg [Im 106 0, Im 107 1, Im 108 2, Im 109 13, Im 110 4, Ip 111 144 [(t 106), (t 107), (t 108), (t 109), (t 110)], Im 105 111, Ie 112 0 105, Ie 113 1 105, Im 16 112, Im 17 113])
  (.seq (.reg [Im 114 17, Im 11 114])
  (.seq (.reg [Im 115 16, Im 116 1, ⟨(some 117), none, .bin .sub (t 115) (t 116)⟩, Im 118 2, Im 119 16, ⟨(some 120), none, .bin .sub (t 118) (t 119)⟩, Im 18 117, Im 19 120])
  (.seq (.reg [Im 121 12, ⟨(some 122), none, .bin .quo (t 121) (Ki 8)⟩, Im 20 122])
  (.seq (.reg [Im 123 18, Im 124 19, ⟨(some 125), none, .bin .lss (t 123) (t 124)⟩])
  (.cond (t 125)
  (.seq (.reg [Im 126 18, Im 127 20, ⟨(some 128), none, .bin .geq (t 126) (t 127)⟩, Im 10 128])
  (.seq (.reg [Im 129 0, Im 130 1, Im 131 16, Im 132 3, Im 133 4, Ic 134 120 [(t 129), (t 130), (t 131), (t 132), (t 133)]])
  (.reg [Im 135 16, ⟨(some 136), none, .bin .add (t 135) (Ki 1)⟩, Im 1 136])))
  (.seq (.reg [Im 137 19, Im 138 20, ⟨(some 139), none, .bin .geq (t 137) (t 138)⟩, Im 10 139])
  (.seq (.reg [Im 140 0, Im 141 16, ⟨(some 142), none, .bin .add (t 141) (Ki 1)⟩, Im 143 2, Im 144 3, Im 145 4, Ic 146 120 [(t 140), (t 142), (t 143), (t 144), (t 145)]])
  (.reg [Im 147 16, Im 2 147]))))))))))))))))))))))
theorem fn120 : Fn Go.Proofs.Try.prog 120 148 [] c120 :=
  ⟨⟨_, _, Go.Proofs.Try.func120, rfl, by kernel_rfl, Go.Proofs.Try.ntmps120, by kernel_rfl, ⟨fun f => imp.contains f, false, fun _ => false, false⟩, by kernel_rfl⟩⟩
def c137 : C :=
  (.seq (.reg [Im 10 1, ⟨(some 11), none, .bin .add (t 10) (Ki 1)⟩, Im 8 11])
  (.block 0
  (.loop
  (.seq (.seq (.reg [Im 12 8, Im 13 2, ⟨(some 14), none, .bin .lss (t 12) (t 13)⟩])
  (.cond (t 14)
  .skip
  (.exit 0)))
  (.seq (.block 1
  (.seq (.reg [Im 17 8, Im 9 17])
  (.block 2
  (.loop
  (.seq (.seq (.draw 0 [(Im 18 9, []), (Im 19 1, []), (⟨(some 20), none, .bin .gtr (t 18) (t 19)⟩, []), (Im 21 20, []), (Jm 22 21 true 3, []), (Jm 23 21 true 0, []), (Jm 24 21 true 9, []), (⟨(some 25), (some (21, true)), .iaddr 4 (t 23) (t 24)⟩, []), (⟨(some 26), (some (21, true)), .load true 4 (t 25)⟩, []), (Jm 27 21 true 0, []), (Jm 28 21 true 9, []), (⟨(some 29), (some (21, true)), .bin .sub (t 28) (Ki 1)⟩, []), (⟨(some 30), (some (21, true)), .iaddr 4 (t 27) (t 29)⟩, []), (⟨(some 31), (some (21, true)), .load true 4 (t 30)⟩, []), (⟨(some 32), (some (21, true)), .pcall (t 22) [(t 26), (t 31)]⟩, []), (⟨(some 33), (some (21, true)), .bin .lss (t 32) (Ki 0)⟩, []), (⟨(some 34), none, .pick (t 21) (t 33) (k (.bool false))⟩, [])])
  (.cond (t 34)
  .skip
  (.exit 2)))
  (.seq (.block 3
  (.draw 0 [(Im 37 0, []), (Im 38 9, []), (Im 39 0, []), (Im 40 9, []), (⟨(some 41), none, .bin .sub (t 40) (Ki 1)⟩, []), (Im 42 0, []), (Im 43 9, []), (⟨(some 44), none, .bin .sub (t 43) (Ki 1)⟩, []), (⟨(some 45), none, .iaddr 4 (t 42) (t 44)⟩, []), (Ia 46 4 45, []), (Im 47 0, []), (Im 48 9, []), (⟨(some 49), none, .iaddr 4 (t 47) (t 48)⟩, []), (Ia 50 4 49, []), (⟨(some 51), none, .iaddr 4 (t 37) (t 38)⟩, []), (Is 4 51 46, []), (⟨(some 52), none, .iaddr 4 (t 39) (t 41)⟩, []), (Is 4 52 50, [])]))
  (.reg [Im 35 9, ⟨(some 36), none, .bin .sub (t 35) (Ki 1)⟩, Im 9 36])))))))
  (.reg [Im 15 8, ⟨(some 16), none, .bin .add (t 15) (Ki 1)⟩, Im 8 16]))))))
theorem fn137 : Fn Go.Proofs.Try.prog 137 53 [] c137 :=
  ⟨⟨_, _, Go.Proofs.Try.func137, rfl, by kernel_rfl, Go.Proofs.Try.ntmps137, by kernel_rfl, ⟨fun f => imp.contains f, false, fun _ => false, false⟩, by kernel_rfl⟩⟩
end GP
namespace GP
open Go
inductive Frz : D → Hp → D → Hp → Prop where
  | refl (r : D) (H : Hp) : Frz r H r H
  | step {r r2 : D} {H H2 : Hp} (o : Nat) (cs : List D) : H[o]? = some (.row cs) → Frz (r.fz o cs) (H.set o .dead) r2 H2 → Frz r H r2 H2
section
variable {P : Program}
theorem CallPost.frz {c : Cx} {w : World} {Q : Post} {e : Ending} {w' : World}
    (h : CallPost c w (fun r H' T' => ∃ r2 H2, Frz r H' r2 H2 ∧ Q r2 H2 T') e w') : CallPost c w Q e w' := by
  obtain ⟨v, rfl, r, H', T', c', ⟨r2, H2, hf, hq⟩, hrep, hinv, hle, hT', hbel⟩ := h
  suffices ∀ {r H' r2 H2}, Frz r H' r2 H2 → ∀ c' : Cx, Q r2 H2 T' → Rep c' r v → Inv c' w' H' → c.le c' → c'.T = T' → CallPost c w Q (.returned v) w' from this hf c' hq hrep hinv hle hT'
  clear hf hq hrep hinv hle hT'
  intro r H' r2 H2 hf
  induction hf with
  | refl r H => intro c' hq hrep hinv hle hT'; exact ⟨v, rfl, r, H, T', c', hq, hrep, hinv, hle, hT', hbel⟩
  | step o cs ho _ ih =>
    intro c' hq hrep hinv hle hT'
    obtain ⟨vs, hv, hcell⟩ := hinv.row_at ho
    have hM := (hinv.own o _ ho rfl).2.2.2
    exact ih (c'.fz o vs) hq (hrep.fz hv hM) (hinv.fz ho hcell) (hle.trans (fz_le hM)) hT'
def SameOb (x y : Ob) : Prop := x = y ∨ ∃ cs, x = .row cs ∧ y = .row (D.eraseL cs)
def SameH (Hm H1 : Hp) : Prop := Hm.length = H1.length ∧ ∀ (o : Nat) x y, Hm[o]? = some x → H1[o]? = some y → SameOb x y
theorem SameH.refl (H : Hp) : SameH H H := ⟨rfl, fun o x y h h' => by rw [h] at h'; injection h' with h'; exact .inl h'⟩
theorem sameOb_live {x y : Ob} (h : SameOb x y) : x.live = y.live := by
  rcases h with rfl | ⟨cs, rfl, rfl⟩ <;> rfl
def Crs (a b : D) : Prop := ∀ c v, Rep c a v → Rep c b v
theorem Crs.refl (a : D) : Crs a a := fun _ _ h => h
theorem Crs.erase {a b : D} (h : a.erase = b) : Crs a b := fun _ _ hr => h ▸ hr.erase
theorem Crs.trans {a b d : D} (h : Crs a b) (k : Crs b d) : Crs a d := fun c v hr => k c v (h c v hr)
def LeavesE (r0 : D) (H1 : Hp) (T : Tk) : Post := fun r H' T' => ∃ r2 H2, Frz r H' r2 H2 ∧ Crs r2 r0 ∧ (∃ Hm L, H2 = Hm ++ L ∧ SameH Hm H1) ∧ ∃ U, T' = T ++ U
def Closed (H H1 : Hp) (n : Nat) : Prop := H.length ≤ H1.length ∧ ∀ (o : Nat) x cs, H1[o]? = some x → x.cells? = some cs → H[o]? = some x ∨ D.clL H1.length n cs = true
theorem CallPost.forgetE {c : Cx} {w : World} {H H1 : Hp} {T : Tk} {Q : Post} (hi : Inv c w H) (hT : c.T = T) {r0 : D} (hcl : r0.cl H1.length T.length = true) (hC : Closed H H1 T.length) (hQ : Q r0 H1 T) {e : Ending} {w' : World}
    (h : CallPost c w (LeavesE r0 H1 T) e w') : CallPost c w Q e w' := by
  have h := CallPost.frz (Q := fun r2 H2 T' => Crs r2 r0 ∧ (∃ Hm L, H2 = Hm ++ L ∧ SameH Hm H1) ∧ ∃ U, T' = T ++ U) h
  obtain ⟨v, rfl, r, H', T', c', ⟨hr, ⟨Hm, L, rfl, hsl, hs⟩, ⟨U, rfl⟩⟩, hrep, hinv, hle, hT', hbel⟩ := h
  have move : ∀ {d : D} {v : Value}, Rep c' d v → d.cl H1.length T.length = true → Rep { c' with bd := fun o => c'.bd o && decide (o < H1.length), T := T } d v := fun {d v} hr hd =>
    hr.move (n := H1.length) (m := T.length) (c' := { c' with bd := fun o => c'.bd o && decide (o < H1.length), T := T }) (fun _ _ h => h) (fun o ho h => by simp [h, ho]) (fun _ _ => rfl) (fun _ _ => rfl) (Nat.le_refl _) (fun τ hτ => ⟨by simp only; rw [hT', List.getElem?_append_left hτ], rfl⟩) hd
  refine ⟨v, rfl, r0, H1, T, { c' with bd := fun o => c'.bd o && decide (o < H1.length), T := T }, hQ, ?_, ?_, ?_, rfl, hbel⟩
  · exact move (hr _ _ hrep) hcl
  · have hlt : ∀ {o : Nat} {x : Ob}, H1[o]? = some x → o < H1.length := fun {o x} h => by
      rcases Nat.lt_or_ge o H1.length with h' | h'
      · exact h'
      · rw [List.getElem?_eq_none h'] at h; cases h
    have hget : ∀ {o : Nat} {x : Ob}, H1[o]? = some x → ∃ x', (Hm ++ L)[o]? = some x' ∧ SameOb x' x := fun {o x} h => by
      have h1 := hlt h
      have h2 : o < Hm.length := by omega
      refine ⟨Hm[o], by rw [List.getElem?_append_left h2, List.getElem?_eq_getElem h2], hs o _ _ (List.getElem?_eq_getElem h2) h⟩
    have htok : ∀ {τ : Nat} {x}, T[τ]? = some x → c'.T[τ]? = some x := fun {τ x} h => by
      have : τ < T.length := by
        rcases Nat.lt_or_ge τ T.length with h' | h'
        · exact h'
        · rw [List.getElem?_eq_none h'] at h; cases h
      rw [hT', List.getElem?_append_left this]; exact h
    refine ⟨hinv.keep, hinv.low, fun o x cs h hx => ?_, ?_, fun o x h hx => ?_, fun o o' x x' h h' hx hx' he => ?_, fun o es clk h => ?_, fun o m sn se la h => ?_,
      fun τ n z h => hinv.tok τ n z (htok h), fun τ n z o x h h1 hx => ?_, fun τ n z τ' n' z' h h' => hinv.toks τ n z τ' n' z' (htok h) (htok h')⟩
    · obtain ⟨x', g1, g2⟩ := hget h
      have hclosed : D.clL H1.length T.length cs = true := by
        rcases hC.2 o x cs h hx with h0 | h0
        · obtain ⟨vs0, rest0, e0, fr0, q1, q2, q4, q3⟩ := (hi.row o x cs h0 hx).hold
          refine clL_of fun d hd => ?_
          obtain ⟨i, hi', rfl⟩ := List.getElem_of_mem hd
          rw [← hT]
          refine (q2.rep i hi' (by rw [q2.len]; exact hi')).cl fun o ho => ?_
          rcases Nat.lt_or_ge o H.length with h' | h'
          · exact Nat.lt_of_lt_of_le h' hC.1
          · rw [hi.free o (.inl h')] at ho; cases ho
        · exact h0
      obtain ⟨vs, rest, e, fr, k1, k2, k4, k3⟩ : RowAt c' w' (c'.β o) (c'.sz o) cs := by
        rcases g2 with rfl | ⟨cs', rfl, rfl⟩
        · exact hinv.row o _ cs g1 hx
        · simp only [Ob.cells?, Option.some.injEq] at hx
          subst hx
          obtain ⟨vs, rest, e, fr, k1, k2, k4, k3⟩ := hinv.row o _ cs' g1 rfl
          refine ⟨vs, rest, e, fr, k1, ⟨by rw [eraseL_len]; exact k2.len, fun d hd => ?_, fun i a b => ?_⟩, k4, k3⟩
          · rw [eraseL_map] at hd
            obtain ⟨y, hy, rfl⟩ := List.mem_map.1 hd
            rw [erase_one]; exact k2.one y hy
          · have a' : i < cs'.length := by rw [eraseL_len] at a; exact a
            rw [eraseL_get cs' i a']; exact (k2.rep i a' b).erase
      refine ⟨vs, rest, e, fr, k1, ?_, k4, k3⟩
      exact ⟨k2.len, k2.one, fun i a b => move (k2.rep i a b) (clL_mem hclosed _ (List.getElem_mem a))⟩
    · intro o h
      rcases h with h | h
      · have : ¬ o < H1.length := by omega
        simp [this]
      · obtain ⟨x', g1, g2⟩ := hget h
        have : x' = .hole := by rcases g2 with rfl | ⟨cs, rfl, g⟩ <;> first | rfl | cases g
        subst this
        have := hinv.free o (.inr g1)
        simp [this]
    · obtain ⟨x', g1, g2⟩ := hget h
      obtain ⟨q1, q2, q3, q4⟩ := hinv.own o x' g1 (by rw [sameOb_live g2]; exact hx)
      exact ⟨by simp [q1, hlt h], q2, q3, q4⟩
    · obtain ⟨y, g1, g2⟩ := hget h
      obtain ⟨y', g1', g2'⟩ := hget h'
      exact hinv.apart o o' y y' g1 g1' (by rw [sameOb_live g2]; exact hx) (by rw [sameOb_live g2']; exact hx') he
    · obtain ⟨x', g1, g2⟩ := hget h
      have : x' = .map es clk := by rcases g2 with rfl | ⟨cs, rfl, g⟩ <;> first | rfl | cases g
      subst this
      exact hinv.map o es clk g1
    · obtain ⟨x', g1, g2⟩ := hget h
      have : x' = .iter m sn se la := by rcases g2 with rfl | ⟨cs, rfl, g⟩ <;> first | rfl | cases g
      subst this
      have g3 := hinv.iter o m sn se la g1
      exact ⟨fun x hx => ⟨(g3.1 x hx).1, by simp [(g3.1 x hx).2, Nat.lt_trans (g3.1 x hx).1 (hlt h)]⟩, g3.2⟩
    · obtain ⟨x', g1, g2⟩ := hget h1
      exact hinv.tokrow τ n z o x' (htok h) g1 (by rw [sameOb_live g2]; exact hx)
  · refine ⟨hle.M, fun o ho => ?_, fun o ho => hle.β o ho, by simp [hT], fun τ h => by simpa [← hT] using h, fun τ n z h => .inr ⟨n, by simpa [← hT] using h, Nat.le_refl _, fun _ => ?_⟩, hle.B, fun o ho => ?_⟩
    · have : o < H1.length := by
        rcases Nat.lt_or_ge o H.length with h' | h'
        · exact Nat.lt_of_lt_of_le h' hC.1
        · rw [hi.free o (.inl h')] at ho; cases ho
      simp [hle.bd o ho, this]
    · rw [hT] at h
      have hlt : τ < T.length := by
        rcases Nat.lt_or_ge τ T.length with h' | h'
        · exact h'
        · rw [List.getElem?_eq_none h'] at h; cases h
      have h2 : c'.T[τ]? = some (some (n, z)) := by rw [hT', List.getElem?_append_left hlt]; exact h
      rcases hle.tok τ n z (by rw [hT]; exact h) with k | ⟨n', k1, k2, k3⟩
      · rw [k] at h2; cases h2
      · rw [k1] at h2; injection h2 with h2; injection h2 with h2; injection h2 with h2 _
        exact k3 h2
    · exact hle.sz o ho
variable [HasG P]
abbrev FsE := List (FuncId × (Hp → List D → Option (D × Hp)))
def lookE : FsE → Hp → FuncId → List D → Option (D × Hp)
  | [], _, _, _ => none
  | (g, φ) :: l, H, f, a => if f = g then φ H a else lookE l H f a
def inE : FsE → FuncId → Bool
  | [], _ => false
  | (g, _) :: l, f => decide (f = g) || inE l f
theorem lookE_nil (H : Hp) (f : FuncId) (a : List D) : lookE [] H f a = none := id rfl
theorem lookE_cons (g : FuncId) (φ : Hp → List D → Option (D × Hp)) (l : FsE) (H : Hp) (f : FuncId) (a : List D) : lookE ((g, φ) :: l) H f a = if f = g then φ H a else lookE l H f a := id rfl
theorem inE_nil (f : FuncId) : inE [] f = false := id rfl
theorem inE_cons (g : FuncId) (φ : Hp → List D → Option (D × Hp)) (l : FsE) (f : FuncId) : inE ((g, φ) :: l) f = (decide (f = g) || inE l f) := id rfl
theorem lookE_in : ∀ {l : FsE} {H : Hp} {f : FuncId} {a : List D}, inE l f = false → lookE l H f a = none
  | [], _, _, _, _ => rfl
  | (g, φ) :: l, H, f, a, h => by
    simp only [inE, Bool.or_eq_false_iff, decide_eq_false_iff_not] at h
    simp only [lookE]
    rw [if_neg h.1]; exact lookE_in h.2
def XE (l : Fs) (m : FsH) (e : FsE) : Pred := fun f args H T Q => match look l f (D.eraseL args) with
  | some r => Q r H T
  | none => match lookH m H f (D.eraseL args) with
    | some r => Q r H T
    | none => match lookE e H f (D.eraseL args) with
      | some (r, H') => Q r H' T
      | none => False
def OkAtE (P : Program) [HasG P] (f : FuncId) (φ : Hp → List D → Option (D × Hp)) : Prop := ∀ H args r H', φ H args = some (r, H') → ∀ args', D.eraseL args' = args → ∀ T (Q : Post), Q r H' T → Snd P f args' H T Q
def OkE (P : Program) [HasG P] (m : FsE) : Prop := ∀ H f args r H', lookE m H f args = some (r, H') → ∀ args', D.eraseL args' = args → ∀ T (Q : Post), Q r H' T → Snd P f args' H T Q
theorem OkE.nil : OkE P [] := fun _ _ _ _ _ h => by simp [lookE] at h
theorem OkE.cons {f : FuncId} {φ : Hp → List D → Option (D × Hp)} {m : FsE} (h : OkAtE P f φ) (k : OkE P m) : OkE P ((f, φ) :: m) := by
  intro H g args r H' hr
  simp only [lookE] at hr
  split at hr
  · rename_i e; subst e; exact h H args r H' hr
  · exact k H g args r H' hr
theorem XE.X {l : Fs} {m : FsH} {e : FsE} (k : Ok P l) (k' : OkH P m) (k'' : OkE P e) : ∀ f args H T Q Q', (∀ r H T, Q r H T → Q' r H T) → XE l m e f args H T Q → Snd P f args H T Q' := by
  intro f args H T Q Q' hQ h
  unfold XE at h
  split at h
  · rename_i r hr
    exact k f _ r hr args rfl H T Q' (hQ _ _ _ h)
  · split at h
    · rename_i r hr
      exact k' H f _ r hr args rfl T Q' (hQ _ _ _ h)
    · split at h
      · rename_i r H' hr
        exact k'' H f _ r H' hr args rfl T Q' (hQ _ _ _ h)
      · exact h.elim
theorem XE_mono (l : Fs) (m : FsH) (e : FsE) : Mono (XE l m e) := by
  intro f args H T Q Q' hQ h
  unfold XE at h ⊢
  split at h
  · exact hQ _ _ _ h
  · split at h
    · exact hQ _ _ _ h
    · split at h
      · exact hQ _ _ _ h
      · exact h.elim
def pcallN (X : Pred) (args : List D) (K : D → S → Prop) (s : S) (d : D) : Prop := pcallK X args K s d
theorem pcallE {l : Fs} {m : FsH} {e : FsE} (hm : MonoH m) (args : List D) (K : D → S → Prop) (s : S) (f : FuncId) (first cap : List D) :
    pcallK (XE l m e) args K s (.fn f first cap) = if inE e f = true then pcallN (XE l m e) args K s (.fn f first cap) else orK K s (look l f (D.eraseL (first ++ args ++ cap))) (lookH m s.H f (D.eraseL (first ++ args ++ cap))) := by
  cases he : inE e f with
  | true => rfl
  | false =>
    rw [if_neg (by simp)]
    have hx : ∀ a H T Q, XE l m e f a H T Q = XM l m f a H T Q := by
      intro a H T Q
      unfold XE XM
      (rw [lookE_in he]) <;> rfl
    rw [← pcallH hm]
    simp only [pcallK, eq_iff_iff]
    unfold Pure
    simp only [hx]
def orE (Q : Post) (T : Tk) : Option (D × Hp) → Prop
  | some (r, H') => Q r H' T
  | none => False
def orX (Q : Post) (H : Hp) (T : Tk) : Option D → Option D → Option (D × Hp) → Prop
  | some r, _, _ => Q r H T
  | none, some r, _ => Q r H T
  | none, none, x => orE Q T x
theorem XE_eq (l : Fs) (m : FsH) (e : FsE) (f : FuncId) (args : List D) (H : Hp) (T : Tk) (Q : Post) : XE l m e f args H T Q = orX Q H T (look l f (D.eraseL args)) (lookH m H f (D.eraseL args)) (lookE e H f (D.eraseL args)) := by
  unfold XE
  cases look l f (D.eraseL args) with
  | some r => rfl
  | none =>
    cases lookH m H f (D.eraseL args) with
    | some r => rfl
    | none =>
      cases lookE e H f (D.eraseL args) with
      | some x => rfl
      | none => rfl
theorem orX_s (Q : Post) (H : Hp) (T : Tk) (r : D) (x : Option D) (y : Option (D × Hp)) : orX Q H T (some r) x y = Q r H T := id rfl
theorem orX_n (Q : Post) (H : Hp) (T : Tk) (r : D) (y : Option (D × Hp)) : orX Q H T none (some r) y = Q r H T := id rfl
theorem orX_e (Q : Post) (H : Hp) (T : Tk) (y : Option (D × Hp)) : orX Q H T none none y = orE Q T y := id rfl
theorem orE_s (Q : Post) (T : Tk) (r : D) (H' : Hp) : orE Q T (some (r, H')) = Q r H' T := id rfl
theorem Closed.refl (H : Hp) (n : Nat) : Closed H H n := ⟨Nat.le_refl _, fun _ _ _ h _ => .inl h⟩
end
end GP
namespace GP
open Go
theorem tf (b : Bool) : b = true ∨ b = false := by cases b <;> simp
theorem flatD_cons (x : D) (xs : List D) : flatD (x :: xs) = x.cells ++ flatD xs := by simp [flatD]
theorem flatD_append (xs ys : List D) : flatD (xs ++ ys) = flatD xs ++ flatD ys := by simp [flatD]
def isAg (sz : Nat) (xs : List D) : Prop := ∀ x ∈ xs, ∃ l, x = .agg l ∧ l.length = sz
theorem isAg.len {sz : Nat} {xs : List D} (h : isAg sz xs) : ∀ x ∈ xs, x.cells.length = sz := fun x hx => by
  obtain ⟨l, rfl, hl⟩ := h x hx; exact hl
theorem isAg.fit {sz : Nat} {xs : List D} (h : isAg sz xs) : xs.all (fit sz) = true := List.all_eq_true.2 fun x hx => by
  obtain ⟨l, rfl, hl⟩ := h x hx; simp [GP.fit, D.okc, D.cells, hl]
theorem isAg.flat {sz : Nat} {xs : List D} (h : isAg sz xs) : (flatD xs).length = xs.length * sz := flatD_len h.len
theorem isAg.sub {sz : Nat} {xs ys : List D} (h : isAg sz xs) (k : ∀ y ∈ ys, y ∈ xs) : isAg sz ys := fun y hy => h y (k y hy)
theorem isAg.set {sz : Nat} {xs : List D} (h : isAg sz xs) {x : D} (hx : ∃ l, x = .agg l ∧ l.length = sz) (i : Nat) : isAg sz (xs.set i x) := fun y hy => by
  rcases List.mem_or_eq_of_mem_set hy with h' | rfl
  · exact h y h'
  · exact hx
theorem flatD_drop {sz : Nat} : ∀ (xs : List D) (i : Nat), (∀ x ∈ xs, x.cells.length = sz) → (flatD xs).drop (i * sz) = flatD (xs.drop i)
  | [], i, _ => by simp [flatD]
  | x :: xs, 0, _ => by simp
  | x :: xs, i + 1, h => by
    rw [flatD_cons, List.drop_succ_cons, ← flatD_drop xs i (fun y hy => h y (by simp [hy])), show (i + 1) * sz = x.cells.length + i * sz by rw [h x (by simp)]; rw [Nat.add_mul]; omega, ← List.drop_drop, List.drop_left]
theorem flatD_take {sz : Nat} : ∀ (xs : List D) (i : Nat), (∀ x ∈ xs, x.cells.length = sz) → (flatD xs).take (i * sz) = flatD (xs.take i)
  | [], i, _ => by simp [flatD]
  | x :: xs, 0, _ => by simp [flatD]
  | x :: xs, i + 1, h => by
    rw [flatD_cons, List.take_succ_cons, flatD_cons, ← flatD_take xs i (fun y hy => h y (by simp [hy])), show (i + 1) * sz = x.cells.length + i * sz by rw [h x (by simp)]; rw [Nat.add_mul]; omega, List.take_length_add_append]
theorem chunk_flat {sz : Nat} : ∀ (xs : List D) (rest : List D), isAg sz xs → chunk true sz xs.length (flatD xs ++ rest) = xs
  | [], _, _ => rfl
  | x :: xs, rest, h => by
    obtain ⟨l, rfl, hl⟩ := h x (by simp)
    simp only [List.length_cons, chunk, if_true, flatD_cons, D.cells, List.append_assoc]
    rw [List.take_left' hl, List.drop_left' hl, chunk_flat xs rest (h.sub fun y hy => by simp [hy])]
theorem rd_ms {sz : Nat} {xs rest : List D} {H : Hp} {o i off : Nat} {x : D} (ho : H[o]? = some (.row (flatD xs ++ rest))) (h : isAg sz xs) (hx : xs[i]? = some x) (hoff : off = i * sz) : ld true sz (rdAt H (.ptr o off)) = some x := by
  subst hoff
  have hi : i < xs.length := by
    rcases Nat.lt_or_ge i xs.length with h' | h'
    · exact h'
    · rw [List.getElem?_eq_none h'] at hx; cases hx
  obtain ⟨l, rfl, hl⟩ := h x (List.mem_of_getElem? hx)
  have hd : (flatD xs ++ rest).drop (i * sz) = l ++ (flatD (xs.drop (i + 1)) ++ rest) := by
    rw [List.drop_append_of_le_length (by rw [h.flat]; exact Nat.mul_le_mul_right _ (by omega)), flatD_drop xs i h.len]
    have : xs.drop i = xs[i] :: xs.drop (i + 1) := List.drop_eq_getElem_cons hi
    rw [this, flatD_cons]
    have : xs[i] = .agg l := by rw [List.getElem?_eq_getElem hi] at hx; injection hx
    rw [this]; simp [D.cells]
  simp only [rdAt, ho, hd, ld, if_true]
  rw [if_pos (by simp [hl]), List.take_left' hl]
theorem st_ms {sz : Nat} {xs rest : List D} {H : Hp} {t : Nat → D} {T : Tk} {o i off : Nat} {x : D} {K : D → S → Prop} (ho : H[o]? = some (.row (flatD xs ++ rest))) (h : isAg sz xs) (hx : ∃ l, x = .agg l ∧ l.length = sz) (hi : i < xs.length) (hoff : off = i * sz)
    (k : K .top ⟨t, H.set o (.row (flatD (xs.set i x) ++ rest)), T⟩) : storeK sz K ⟨t, H, T⟩ (.ptr o off) x := by
  subst hoff
  obtain ⟨l, rfl, hl⟩ := hx
  have hle : i * sz + sz ≤ xs.length * sz := by
    have := Nat.mul_le_mul_right sz (show i + 1 ≤ xs.length from hi)
    rwa [Nat.add_mul, Nat.one_mul] at this
  simp only [storeK, ho]
  refine ⟨rfl, hl, by simp [h.flat]; omega, ?_⟩
  have e : (flatD xs ++ rest).take (i * sz) ++ D.cells (.agg l) ++ (flatD xs ++ rest).drop (i * sz + sz) = flatD (xs.set i (.agg l)) ++ rest := by
    rw [List.take_append_of_le_length (by rw [h.flat]; omega), List.drop_append_of_le_length (by rw [h.flat]; omega), flatD_take xs i h.len,
      show i * sz + sz = (i + 1) * sz by rw [Nat.add_mul]; omega, flatD_drop xs (i + 1) h.len, List.set_eq_take_append_cons_drop, if_pos hi, flatD_append, flatD_cons]
    simp
  rw [e]; exact k
theorem ia_msN {ag : Bool} {sz o off n cap i : Nat} {k : IntKind} (h : i < n) : ia sz (.ms ag sz o off n cap) (.int k (i : Nat)) = some (.ptr o (off + i * sz)) := by
  have e : ((i : Nat) : Int).toNat = i := by omega
  simp only [ia]
  rw [if_pos (by refine ⟨by omega, by omega, ?_⟩; trivial), e]
theorem slc_msN {ag : Bool} {sz o off n cap l h : Nat} (h1 : l ≤ h) (h2 : h ≤ n) (h3 : l < cap) : slc sz (some ((l : Nat) : Int)) (some ((h : Nat) : Int)) (.ms ag sz o off n cap) = some (.ms ag sz o (off + l * sz) (h - l) (cap - l)) := by
  have e1 : ((l : Nat) : Int).toNat = l := by omega
  have e2 : (((h : Nat) : Int) - ((l : Nat) : Int)).toNat = h - l := by omega
  simp only [slc]
  rw [if_pos (by refine ⟨by omega, by omega, by omega, by omega, ?_⟩; trivial), e1, e2]
theorem slc_ms0 {ag : Bool} {sz o off n cap h : Nat} (h2 : h ≤ n) (h3 : 0 < cap) : slc sz (some (0 : Int)) (some ((h : Nat) : Int)) (.ms ag sz o off n cap) = some (.ms ag sz o off h cap) := by
  have := slc_msN (ag := ag) (sz := sz) (o := o) (off := off) (n := n) (cap := cap) (l := 0) (h := h) (by omega) h2 h3
  simpa using this
theorem clr_ms {sz : Nat} {z xs rest : List D} {H : Hp} {t : Nat → D} {T : Tk} {o q n cap off : Nat} {ag : Bool} {K : D → S → Prop} (ho : H[o]? = some (.row (flatD xs ++ rest))) (h : isAg sz xs) (hz : z.length = sz) (hq : q + n = xs.length) (hoff : off = q * sz)
    (k : ∀ rest', K (.tup []) ⟨t, H.set o (.row (flatD (xs.take q) ++ rest')), T⟩) : clrK z K ⟨t, H, T⟩ (.ms ag sz o off n cap) := by
  subst hoff
  have hle : q * sz + n * sz = xs.length * sz := by rw [← hq, Nat.add_mul]
  simp only [clrK, ho]
  refine ⟨hz.symm, by simp [h.flat]; omega, ?_⟩
  rw [List.take_append_of_le_length (by rw [h.flat]; omega), flatD_take xs q h.len, List.append_assoc]
  exact k _
end GP
namespace GP
open Go
variable {P : Program} [HasG P]
def XU (P : Program) [HasG P] (u : List FuncId) (l : Fs) (m : FsH) (e : FsE) : Pred := fun f a H T Q => if u.contains f = true then Snd P f a H T Q else XE l m e f a H T Q
theorem XU.X {u : List FuncId} {l : Fs} {m : FsH} {e : FsE} (k : Ok P l) (k' : OkH P m) (k'' : OkE P e) : ∀ f args H T Q Q', (∀ r H T, Q r H T → Q' r H T) → XU P u l m e f args H T Q → Snd P f args H T Q' := by
  intro f args H T Q Q' hQ h
  unfold XU at h
  split at h
  · exact Snd.mono _ _ _ _ _ _ hQ h
  · exact XE.X k k' k'' f args H T Q Q' hQ h
theorem XU_mono (u : List FuncId) (l : Fs) (m : FsH) (e : FsE) : Mono (XU P u l m e) := by
  intro f args H T Q Q' hQ h
  unfold XU at h ⊢
  split at h
  · rename_i c; rw [if_pos c]; exact Snd.mono _ _ _ _ _ _ hQ h
  · rename_i c; rw [if_neg c]; exact XE_mono l m e _ _ _ _ _ _ hQ h
theorem XU_eq (u : List FuncId) (l : Fs) (m : FsH) (e : FsE) (f : FuncId) (args : List D) (H : Hp) (T : Tk) (Q : Post) : XU P u l m e f args H T Q = if u.contains f = true then Snd P f args H T Q else orX Q H T (look l f (D.eraseL args)) (lookH m H f (D.eraseL args)) (lookE e H f (D.eraseL args)) := by
  unfold XU
  rw [XE_eq]
theorem pcallU {u : List FuncId} {l : Fs} {m : FsH} {e : FsE} (hm : MonoH m) (args : List D) (K : D → S → Prop) (s : S) (f : FuncId) (first cap : List D) :
    pcallK (XU P u l m e) args K s (.fn f first cap) = if (u.contains f || inE e f) = true then pcallN (XU P u l m e) args K s (.fn f first cap) else orK K s (look l f (D.eraseL (first ++ args ++ cap))) (lookH m s.H f (D.eraseL (first ++ args ++ cap))) := by
  cases hu : u.contains f with
  | true => rfl
  | false =>
    simp only [Bool.false_or]
    have hx : ∀ a H T Q, XU P u l m e f a H T Q = XE l m e f a H T Q := by
      intro a H T Q; unfold XU; rw [hu]; rfl
    cases he : inE e f with
    | true => rfl
    | false =>
      rw [if_neg (by simp)]
      have := pcallE (l := l) (e := e) hm args K s f first cap
      rw [he, if_neg (by simp)] at this
      rw [← this]
      simp only [pcallK, eq_iff_iff]
      unfold Pure
      simp only [hx]
def callQ (K : D → S → Prop) (t : Nat → D) : Post := fun r H T => K r ⟨t, H, T⟩
theorem callK_fn (X : Pred) (args : List D) (K : D → S → Prop) (s : S) (f : FuncId) (first cap : List D) : callK X args K s (.fn f first cap) = X f (first ++ args ++ cap) s.H s.T (callQ K s.t) := id rfl
theorem callQ_eq (K : D → S → Prop) (t : Nat → D) (r : D) (H : Hp) (T : Tk) : callQ K t r H T = K r ⟨t, H, T⟩ := id rfl
def orL (Q : Post) (H : Hp) (T : Tk) : Option D → Prop
  | some r => Q r H T
  | none => False
theorem XL_eq (l : Fs) (f : FuncId) (args : List D) (H : Hp) (T : Tk) (Q : Post) : XL l f args H T Q = orL Q H T (look l f (D.eraseL args)) := by
  unfold XL orL
  cases look l f (D.eraseL args) <;> rfl
theorem orL_s (Q : Post) (H : Hp) (T : Tk) (r : D) : orL Q H T (some r) = Q r H T := id rfl
attribute [go_sem] callK_fn callQ_eq XL_eq orL_s XE_eq orX_s orX_n orX_e orE_s lookE_nil lookE_cons inE_nil inE_cons lookH_nil lookH_cons orK_s orK_n
theorem okEX_of {X : Pred} (hX : ∀ f args H T Q Q', (∀ r H T, Q r H T → Q' r H T) → X f args H T Q → Snd P f args H T Q') {f : FuncId} {n : Nat} {rs : List (Sum Nat (Nat × Bool × Nat))} {cc : C} (hf : Fn P f n rs cc) {φ : Hp → List D → Option (D × Hp)}
    (h : ∀ H args r H1, φ H args = some (r, H1) → args.length ≤ n ∧ r.cl H1.length 0 = true ∧ Closed H H1 0 ∧ ∀ T, W X cc (endQ rs (LeavesE r H1 T)) ⟨argT args, H, T⟩) : OkAtE P f φ := by
  intro H args r H1 hr args' he T Q hQ
  obtain ⟨h1, h2, h4, h3⟩ := h H args r H1 hr
  have hS : Snd P f args H T (LeavesE r H1 T) := call_of hf h1 (W_mono hX (fun _ _ h => h) (h3 T))
  intro c w vs kg k1 k2 k3
  have k3' : Reps c args vs := by rw [← he]; exact k3.erase
  have hcl := D.cl_mono (Nat.le_refl H1.length) (Nat.zero_le T.length) r h2
  have hC : Closed H H1 T.length := ⟨h4.1, fun o x cs a b => (h4.2 o x cs a b).imp id (D.clL_mono (Nat.le_refl _) (Nat.zero_le _) cs)⟩
  rcases hS c w vs kg k1 k2 k3' with ⟨g1, g2⟩ | ⟨v, w', g1, g2⟩
  · exact .inl ⟨g1, g2.mono fun e w' k => CallPost.forgetE k1 k2 hcl hC hQ k⟩
  · exact .inr ⟨v, w', g1, CallPost.forgetE k1 k2 hcl hC hQ g2⟩
theorem okFX_of {X : Pred} (hX : ∀ f args H T Q Q', (∀ r H T, Q r H T → Q' r H T) → X f args H T Q → Snd P f args H T Q') {f : FuncId} {n : Nat} {rs : List (Sum Nat (Nat × Bool × Nat))} {cc : C} (hf : Fn P f n rs cc) {φ : List D → Option D}
    (h : ∀ args r, φ args = some r → args.length ≤ n ∧ r.cl 0 0 = true ∧ ∀ H T, W X cc (endQ rs (LeavesE r H T)) ⟨argT args, H, T⟩) : OkAt P f φ := by
  intro args r hr args' he H T Q hQ
  refine okEX_of hX hf (φ := fun H a => (φ a).map fun r => (r, H)) (fun H a r H1 hr => ?_) H args r H (by simp [hr]) args' he T Q hQ
  cases ha : φ a with
  | none => rw [ha] at hr; cases hr
  | some r' =>
    rw [ha] at hr; simp only [Option.map_some, Option.some.injEq, Prod.mk.injEq] at hr
    obtain ⟨rfl, rfl⟩ := hr
    obtain ⟨h1, h2, h3⟩ := h a r' ha
    exact ⟨h1, D.cl_mono (Nat.zero_le _) (Nat.le_refl _) r' h2, Closed.refl _ _, fun T => h3 H T⟩
theorem Ext.set {H B : Hp} (h : Ext H B) {o : Nat} (ho : H.length ≤ o) (x : Ob) : Ext H (B.set o x) := by
  obtain ⟨L, rfl⟩ := h
  exact ⟨L.set (o - H.length) x, by rw [List.set_append_right _ _ ho]⟩
theorem leavesE_end {r r0 : D} {H B : Hp} {T U : Tk} (hr : Crs r r0) (h : Ext H B) (k : ExtT T U) : LeavesE r0 H T r B U := by
  obtain ⟨L, rfl⟩ := h; obtain ⟨M, rfl⟩ := k
  exact ⟨r, _, .refl _ _, hr, ⟨H, L, rfl, SameH.refl H⟩, M, rfl⟩
theorem leavesE_fz {r r0 : D} {H B : Hp} {T U : Tk} (o : Nat) (cs : List D) (ho : B[o]? = some (.row cs)) (hl : H.length ≤ o) (hr : Crs (r.fz o cs) r0) (h : Ext H B) (k : ExtT T U) : LeavesE r0 H T r B U := by
  obtain ⟨L, e⟩ := h.set hl .dead; obtain ⟨M, rfl⟩ := k
  exact ⟨_, _, .step o cs ho (.refl _ _), hr, ⟨H, L, e, SameH.refl H⟩, M, rfl⟩
@[go_sem] theorem fld_f (off n : Nat) (cs : List D) : fld false off n (.agg cs) = cs[off]? := id rfl
@[go_sem] theorem fld_t (off n : Nat) (cs : List D) : fld true off n (.agg cs) = if off + n ≤ cs.length then some (.agg ((cs.take (off + n)).drop off)) else none := id rfl
end GP
namespace GP
open Go Go.Proofs Go.Sort
section
variable {P : Program}
theorem Inv.grownB {b : Bool} {c : Cx} {w w' : World} {H : Hp} (k : Inv c w H) (hb : Below (b, w.heap.size) w w') : Inv c w' H := by
  have lt : ∀ {a : Addr} {v : Value}, w.cell? a = some v → w'.cell? a = some v := by
    intro a v h
    have hlt : a.block < w.heap.size := by
      rcases Nat.lt_or_ge a.block w.heap.size with h' | h'
      · exact h'
      · simp [World.cell?, Array.getElem?_eq_none h'] at h
    unfold World.cell? at h ⊢
    rw [hb.block _ hlt]; exact h
  refine ⟨fun a v h => lt (k.keep a v h), Nat.le_trans k.low hb.size, ?_, k.free, ?_, k.apart, fun o es clk ho => ⟨(k.map o es clk ho).1, by rw [hb.block _ (k.own o _ ho rfl).2.2.1]; exact (k.map o es clk ho).2⟩, fun o m sn se la ho => (k.iter o m sn se la ho).mono (Cx.le.refl c) rfl (by rw [hb.block _ (k.own o _ ho rfl).2.2.1]), ?_, k.tokrow, k.toks⟩
  · intro o x cs h1 h2
    obtain ⟨vs, rest, e, fr, h, g⟩ := (k.row o x cs h1 h2).hold
    have hlt : c.β o < w.heap.size := by
      rcases Nat.lt_or_ge (c.β o) w.heap.size with h' | h'
      · exact h'
      · rw [Array.getElem?_eq_none h'] at h; cases h
    exact ⟨vs, rest, e, fr, by rw [hb.block _ hlt]; exact h, g⟩
  · intro o x h1 h2
    obtain ⟨a, b, d, e⟩ := k.own o x h1 h2
    exact ⟨a, b, Nat.lt_of_lt_of_le d hb.size, e⟩
  · intro τ n z h
    obtain ⟨a, b, d, e, f⟩ := k.tok τ n z h
    refine ⟨a, Nat.lt_of_lt_of_le b hb.size, d, e, fun j h1 h2 => ?_⟩
    obtain ⟨g1, g2, g3⟩ := f j h1 h2
    have hbl : w'.heap[(c.κ τ).1.block]? = w.heap[(c.κ τ).1.block]? := hb.block _ b
    refine ⟨?_, ?_, g3⟩
    · rw [← g1]; unfold World.cell?; rw [hbl]
    · rw [← g2]; unfold World.frozen?; rw [hbl]
def CxT (w : World) : Cx := { M := w.cell?, β := fun _ => 0, κ := fun _ => (⟨0, 0, none⟩, 0), bd := fun _ => false, T := [], bb := (true, w.heap.size), sz := fun _ => 0 }
theorem invT (w : World) : Inv (CxT w) w [] :=
  ⟨fun _ _ h => h, Nat.le_refl _, fun o x cs h => by simp at h, fun _ _ => rfl, fun o x h => by simp at h, fun o o' x x' h => by simp at h, fun o es clk h => by simp at h, fun o m sn se la h => by simp at h, fun τ n z h => by simp [CxT] at h, fun τ n z o x h => by simp [CxT] at h, fun τ n z τ' n' z' h => by simp [CxT] at h⟩
theorem below_grow_eq {w w' : World} (h : Below (true, w.heap.size) w w') : ∃ q os, w' = grow (w.drewN q) os := by
  refine ⟨w'.drawn - w.drawn, w'.heap.extract w.heap.size w'.heap.size, ?_⟩
  obtain ⟨h1, h2, h3, h4, h5, h6⟩ := h
  have h6 := h6 rfl
  obtain ⟨heap, tape, drawn, os, output⟩ := w
  obtain ⟨heap', tape', drawn', os', output'⟩ := w'
  simp only at h1 h2 h3 h4 h5 h6
  subst h1; subst h2; subst h3
  simp only [grow, World.drewN, World.mk.injEq, and_true, true_and]
  refine ⟨?_, by omega⟩
  apply Array.ext_getElem?
  intro i
  by_cases hi : i < heap.size
  · rw [Array.getElem?_append_left hi]; exact h5 i hi
  · rw [Array.getElem?_append_right (by omega), Array.getElem?_extract]
    by_cases hi2 : i < heap'.size
    · rw [if_pos (by omega)]; congr 1; omega
    · rw [Array.getElem?_eq_none (by omega), if_neg (by omega)]
theorem cell_lt {w : World} {a : Addr} {v : Value} (h : w.cell? a = some v) : a.block < w.heap.size := by
  rcases Nat.lt_or_ge a.block w.heap.size with h' | h'
  · exact h'
  · simp [World.cell?, Array.getElem?_eq_none h'] at h
theorem putCells_set (vs : List Value) : ∀ (w : World) (b off : Nat), putCells w b off vs = w.setCells b off vs := by
  induction vs with
  | nil => intros; rfl
  | cons v vs ih => intro w b off; rw [putCells, ih]; rfl
theorem flatK_list {α : Type} [Inhabited α] (enc : α → List Value) (k : Nat) (hk : ∀ x, (enc x).length = k) (d : Array α) : (flatK enc k d).toList = (d.toList.map enc).flatten := by
  have hl : (d.toList.map enc).flatten.length = d.size * k := by
    rw [flat_len (sz := k) _ (by intro x hx; obtain ⟨y, _, rfl⟩ := List.mem_map.1 hx; exact hk y)]; simp
  apply List.ext_getElem?
  intro t
  by_cases ht : t < d.size * k
  · have k0 : 0 < k := by rcases Nat.eq_zero_or_pos k with h | h; · subst h; simp at ht
                          · exact h
    have hq : t / k < d.size := Nat.div_lt_of_lt_mul (by rw [Nat.mul_comm]; exact ht)
    have hr : t % k < k := Nat.mod_lt _ k0
    have e := get_flatK enc k d t ht
    have e1 : (flatK enc k d).toList[t]? = some (flatK enc k d)[t]! := by
      rw [getElem!_pos (flatK enc k d) t (by simpa using ht)]
      simp [ht]
    have e2 : (d.toList.map enc).flatten[t / k * k + t % k]? = ((d.toList.map enc)[t / k]'(by simpa using hq))[t % k]? :=
      flat_at _ (t / k) (by simpa using hq) (t % k) (by intro x hx; obtain ⟨y, _, rfl⟩ := List.mem_map.1 hx; exact hk y) hr
    rw [Nat.div_add_mod'] at e2
    rw [e1, e, e2, List.getElem_map]
    have hx : d[t / k]! = d.toList[t / k]'(by simpa using hq) := by rw [getElem!_pos d (t / k) hq]; simp
    rw [hx]
    rw [List.getElem?_eq_getElem (by rw [hk]; exact hr), getElem!_pos _ _ (by rw [hk]; exact hr)]
  · rw [List.getElem?_eq_none (by simp; omega), List.getElem?_eq_none (by omega)]
theorem chunk_agg {sz : Nat} : ∀ (n : Nat) (cs : List D), ∀ x ∈ chunk true sz n cs, ∃ l, x = .agg l
  | 0, _, x, h => by simp [chunk] at h
  | n + 1, cs, x, h => by
    simp only [chunk, if_true, List.mem_cons] at h
    rcases h with rfl | h
    · exact ⟨_, rfl⟩
    · exact chunk_agg n _ x h
theorem put_grown {c : Cx} {w : World} {H : Hp} (k : Inv c w H) {o : Nat} {cs ds : List D} {us : List Value} (ho : H[o]? = some (.row cs)) (kc : Cells c ds us) {off : Nat} (h1 : off + ds.length ≤ cs.length) (m : Nat) (os : Array Obj) :
    Inv c (grow ((Sort.ahead w m).setCells (c.β o) off us) os) (H.set o (.row (cs.take off ++ ds ++ cs.drop (off + ds.length)))) ∧ Below c.bb w (grow ((Sort.ahead w m).setCells (c.β o) off us) os) := by
  have k1 : Inv c (Sort.ahead w m) H := Inv.congr (w := w) (w' := Sort.ahead w m) rfl k
  have hf := row_fits k ho rfl
  obtain ⟨_, g2, g3⟩ := put_inv (P := default) k1 ho rfl kc (off := off) (by omega) (by omega)
  rw [putCells_set] at g2 g3
  have hg : ∀ (b : Bool) (x : World), Below (b, x.heap.size) x (grow x os) := fun b x => ⟨rfl, rfl, rfl, by simp, fun i hi => by simp [grow, Array.getElem?_append_left hi], fun _ => Nat.le_refl _⟩
  refine ⟨g2.grownB (hg false _), ?_⟩
  have h0 : Below c.bb w (Sort.ahead w m) := ⟨rfl, rfl, rfl, Nat.le_refl _, fun _ _ => rfl, fun _ => Nat.le_add_right _ _⟩
  exact (h0.trans g3).trans (Below.mono (b := c.bb.1) (hg _ _) g2.low)
variable [inst : HasG P]
theorem sort_snd {ρ : Go.Shelf.Ren} (L : SlLaysF0.n6 P ρ) (k : Nat) (aE : ∀ w, (isAgg (ρ.t 24)).run P w = .ok true w) (zE : ∀ w, (Go.sizeOf (ρ.t 24)).run P w = .ok k w) {f g : FuncId} (hf : ρ.f 6 = f)
    (ef : ∀ args w, (callFunc f args).run P w = .ok (.enter f args) w) (eg : ∀ args w, (callFunc g args).run P w = .ok (.enter g args) w)
    (instB : HasG P) (hB : ∀ c w, @HasG.G P instB c w) {H : Hp} {o off n cap : Nat} {cs : List D} (ho : H[o]? = some (.row cs)) (hn : 0 < n) (hn2 : n < 2 ^ 62) (hlen : off + n * k ≤ cs.length)
    (cf : D → D → Int) (hcl : ∀ x ∈ chunk true k n (cs.drop off), x.cl 0 0 = true)
    (hcmp : ∀ x ∈ chunk true k n (cs.drop off), ∀ y ∈ chunk true k n (cs.drop off), @Snd P instB g [x, y] [] [] (fun r _ _ => r = .int .i64 (cf x y)))
    (hirr : ∀ x ∈ chunk true k n (cs.drop off), ¬ cf x x < 0)
    (htr : ∀ x ∈ chunk true k n (cs.drop off), ∀ y ∈ chunk true k n (cs.drop off), ∀ z ∈ chunk true k n (cs.drop off), cf x y < 0 → cf y z < 0 → cf x z < 0)
    (hnt : ∀ x ∈ chunk true k n (cs.drop off), ∀ y ∈ chunk true k n (cs.drop off), ∀ z ∈ chunk true k n (cs.drop off), ¬ cf x y < 0 → ¬ cf y z < 0 → ¬ cf x z < 0)
    {T : Tk} {Q : Post} (hQ : ∀ ys : List D, ys.Perm (chunk true k n (cs.drop off)) → ys.Pairwise (fun a b => ¬ cf b a < 0) → Q (.tup []) (H.set o (.row (cs.take off ++ flatD ys ++ cs.drop (off + n * k)))) T) :
    @Snd P inst f [.ms true k o off n cap, .fn g [] []] H T Q := by
  intro c w args hg k1 kT kr
  match args, kr.len with
  | [va, vf], _ =>
    have ra := kr.rep 0 (by simp) (by simp)
    have rf := kr.rep 1 (by simp) (by simp)
    simp only [List.getElem_cons_zero, List.getElem_cons_succ] at ra rf
    cases ra with
    | ms _ _ _ _ _ _ rc hb g1 g2 g3 =>
    cases rf with
    | fn _ _ _ vp vq hp hq _ _ =>
    match vp, vq, hp, hq with
    | [], [], _, _ =>
    refine .inl ⟨ef _ _, ?_⟩
    generalize hxs : chunk true k n (cs.drop off) = xs at *
    have hxl : xs.length = n := by rw [← hxs]; exact chunk_len ..
    obtain ⟨vs, rest, e, fr, q1, q2, q4, q3⟩ := (k1.row o _ cs ho rfl).hold
    have hvl : vs.length = cs.length := q2.len
    have hown := k1.own o _ ho rfl
    have hblk : c.β o < w.heap.size := hown.2.2.1
    have hcd : Cells c (cs.drop off) (vs.drop off) := ⟨by simp [q2.len], fun d hd => q2.one d (List.mem_of_mem_drop hd), fun i h h' => by simpa using q2.rep (off + i) (by simp at h; omega) (by simp at h'; omega)⟩
    have ke := chunk_elems (ag := true) (sz := k) (.inl rfl) n _ _ hcd (by simp; omega)
    rw [hxs] at ke
    obtain ⟨vss, hvss⟩ : ∃ v, chunkV k n (vs.drop off) = v := ⟨_, rfl⟩
    rw [hvss] at ke
    have hvssl : vss.length = n := by rw [← hvss]; exact chunkV_len ..
    have hflat : vss.flatten = (vs.drop off).take (n * k) := by rw [← hvss]; exact chunkV_flat ..
    have hvl1 : ∀ v ∈ vss, v.length = k := ke.sz'
    haveI : Inhabited (Fin n) := ⟨⟨0, hn⟩⟩
    let enc : Fin n → List Value := fun i => vss[i.1]'(by rw [hvssl]; exact i.2)
    let el : Fin n → D := fun i => xs[i.1]'(by rw [hxl]; exact i.2)
    have hel : ∀ i, el i ∈ xs := fun i => List.getElem_mem _
    let d : Array (Fin n) := Array.ofFn id
    have hd : d.size = n := by simp [d]
    have hk : ∀ x, (enc x).length = k := fun x => hvl1 _ (List.getElem_mem _)
    have hcells : ∀ i : Fin n, Cells c (el i).cells (enc i) := fun i => ke.el i.1 (by rw [hxl]; exact i.2) (by rw [hvssl]; exact i.2)
    have hone : ∀ x, ∀ v ∈ enc x, v.oneCell' = true := fun x => (hcells x).cell
    have hdE : d.toList.map enc = vss := by
      apply List.ext_getElem
      · simp [d, hvssl]
      · intro i h1 h2
        simp only [d, Array.toList_ofFn, List.getElem_map, List.getElem_ofFn, id, enc]
    have hdX : d.toList.map el = xs := by
      apply List.ext_getElem
      · simp [d, hxl]
      · intro i h1 h2
        simp only [d, Array.toList_ofFn, List.getElem_map, List.getElem_ofFn, id, el]
    have hH : HoldsK enc k w (c.β o) off d := by
      intro t ht
      have ht' : t < n * k := by simpa [hd] using ht
      have hlist := flatK_list enc k hk d
      rw [hdE, hflat] at hlist
      have hg : (flatK enc k d)[t]! = vs[off + t]'(by omega) := by
        have : (flatK enc k d).toList[t]? = some (vs[off + t]'(by omega)) := by
          rw [hlist, List.getElem?_take_of_lt ht', List.getElem?_drop, List.getElem?_eq_getElem]
        rw [getElem!_pos (flatK enc k d) t (by simpa using ht)]
        have h2 : (flatK enc k d).toList[t]? = some ((flatK enc k d)[t]'(by simpa using ht)) := by simp [hd, ht']
        rw [h2] at this; injection this
      rw [hg]
      constructor
      · simp only [World.cell?, q1]
        simp only [Option.isSome_none, Bool.false_eq_true, if_false, List.getElem?_toArray, id]
        rw [List.getElem?_append_left (by omega), List.getElem?_eq_getElem]
      · simp only [World.frozen?, q1]
        have := q3 (off + t) (by omega)
        simpa using this
    have hO : SWO (ltOf fun i j => cf (el i) (el j)) := by
      refine ⟨fun x => ?_, fun x y z h1 h2 => ?_, fun x y z h1 h2 => ?_⟩
      · simp only [ltOf, decide_eq_false_iff_not]; exact hirr _ (hel x)
      · simp only [ltOf, decide_eq_true_eq] at *; exact htr _ (hel x) _ (hel y) _ (hel z) h1 h2
      · simp only [ltOf, decide_eq_false_iff_not] at *; exact hnt _ (hel x) _ (hel y) _ (hel z) h1 h2
    have hL : CmpLays P g #[] enc k (fun i j => cf (el i) (el j)) (c.β o) off d.size w := by
      intro m os dk hdk x y
      generalize hW : sortWorldK enc k w (c.β o) off m dk os = W
      have hM : ∀ a v, c.M a = some v → W.cell? a = some v := by
        intro a v ha
        have h0 := k1.keep a v ha
        have hlt := cell_lt h0
        have hne : a.block ≠ c.β o := by
          intro e
          obtain ⟨b, i, s⟩ := a
          simp only at e; subst e
          cases s with
          | none => rw [hown.2.2.2 i] at ha; cases ha
          | some s => simp [World.cell?, q1] at h0
        rw [← hW]
        unfold sortWorldK
        rw [cell?_grow _ _ _ (by rw [size_putRowK]; exact hlt), cell?_putRowK_other _ _ _ _ _ _ _ hne]
        exact h0
      have rep : ∀ i : Fin n, Rep (CxT W) (el i) (.agg (enc i).toArray) := by
        intro i
        obtain ⟨l, hl⟩ : ∃ l, el i = .agg l := chunk_agg n (cs.drop off) _ (by rw [hxs]; exact hel i)
        have hc := hcells i
        rw [hl] at hc ⊢
        have r0 : Rep c (.agg l) (.agg (enc i).toArray) := .agg l (enc i) hc.len hc.one hc.rep
        have hcl' := hcl _ (hel i)
        rw [hl] at hcl'
        exact r0.move (n := 0) (m := 0) (c' := CxT W) hM (fun o h => by omega) (fun o h => by omega) (fun o h => by omega) (Nat.zero_le _) (fun τ h => by omega) hcl'
      have rr : Reps (CxT W) [el x, el y] [.agg (enc x).toArray, .agg (enc y).toArray] := by
        refine ⟨rfl, fun i h h' => ?_⟩
        match i, h with
        | 0, _ => exact rep x
        | 1, _ => exact rep y
      rcases hcmp _ (hel x) _ (hel y) (CxT W) W _ (hB _ _) (invT W) rfl rr with ⟨_, hc⟩ | ⟨v, w', hc, _⟩
      · refine hc.mono ?_
        rintro e w' ⟨v, rfl, r, H', T', c', hr, hrep, _, _, _, hbel⟩
        subst hr
        cases hrep
        exact ⟨rfl, below_grow_eq hbel⟩
      · rw [eg] at hc; cases hc
    have hS := AnyQ.slices_SortFunc L k aE zE enc hk hone (fun i j => cf (el i) (el j)) hO g #[] (c.β o) off rc d w eg hL hH hblk (by rw [hd]; omega)
    rw [hf, hd] at hS
    refine hS.mono ?_
    rintro e w' ⟨rfl, d', m, os, ⟨hs1, _, hs2⟩, hs3, rfl⟩
    have hd's : d'.size = n := by rw [hs1, hd]
    have hperm : (d'.toList).Perm d.toList := by
      have e1 : d'.extract 0 n = d' := Array.ext (by simp [hd's]) (fun i h1 h2 => by simp)
      have e2 : d.extract 0 n = d := Array.ext (by simp [hd]) (fun i h1 h2 => by simp)
      rw [e1, e2] at hs2; exact hs2
    let ys : List D := d'.toList.map el
    have hys : ys.Perm xs := by rw [← hdX]; exact hperm.map el
    have hyl : ys.length = n := by rw [hys.length_eq, hxl]
    have hflatD : flatD ys = (d'.toList.map (fun i => (el i).cells)).flatten := by simp [flatD, ys, Function.comp_def]
    have hkc : Cells c (flatD ys) (flatK enc k d').toList := by
      rw [flatK_list enc k hk]
      have : Elems c k ys (d'.toList.map enc) := by
        refine ⟨by simp [ys], fun i h h' => ?_, fun x hx => ?_⟩
        · simp only [ys, List.getElem_map]; exact hcells _
        · obtain ⟨i, _, rfl⟩ := List.mem_map.1 hx
          rw [← (hcells i).len]; exact hk i
      exact this.cells
    have hfl : (flatD ys).length = n * k := by
      have := hkc.len
      simp [hd's] at this; exact this.symm
    have hw : sortWorldK enc k w (c.β o) off m d' os = grow ((Sort.ahead w m).setCells (c.β o) off (flatK enc k d').toList) os := by
      unfold sortWorldK
      congr 1
      have hH' : HoldsK enc k (Sort.ahead w m) (c.β o) off d := holdsK_ahead enc k w m (c.β o) off d hH
      have e0 : Sort.putRow id (Sort.ahead w m) (c.β o) off (flatK enc k d) = Sort.ahead w m := putRow_self id _ _ _ _ hH'
      have e1 := setCells_putRow (Sort.ahead w m) (c.β o) off (flatK enc k d').toList 0 (flatK enc k d) (by simp [hd's, hd])
      rw [e0, Nat.add_zero] at e1
      rw [e1]
      unfold putRowK
      congr 1
      apply ext_get!
      · simp [hd's, hd]
      · intro t ht
        rw [get_setMany _ _ _ _ (by simpa [hd, hd's] using ht), if_pos (by simpa using ht)]
        simp only [Nat.sub_zero]
        rw [getElem!_pos (flatK enc k d').toList t (by simpa using ht), getElem!_pos (flatK enc k d') t (by simpa using ht)]
        simp
    rw [hw]
    obtain ⟨z1, z2⟩ := put_grown k1 ho hkc (off := off) (by rw [hfl]; exact hlen) m os
    rw [hfl] at z1
    refine ⟨_, rfl, .tup [], _, T, c, hQ ys hys ?_, .tup [] [] rfl (fun i h => absurd h (by simp)), z1, Cx.le.refl c, kT, z2⟩
    rw [List.pairwise_iff_getElem]
    intro i j hi hj hij
    have hi' : i < n := by rw [← hyl]; exact hi
    have hj' : j < n := by rw [← hyl]; exact hj
    have := hs3 i j (Nat.zero_le _) hij hj'
    simp only [ltOf, decide_eq_false_iff_not] at this
    simp only [ys, List.getElem_map]
    rw [getElem!_pos d' j (by omega), getElem!_pos d' i (by omega)] at this
    simpa using this
end
end GP
namespace Go.Proofs
open Go.Shelf Go.RowKit Go.Lib Go.Sort
shelf_lay_g SlLaysF0.n6 Slsf 6 at Try 85 as Try.sortVal
end Go.Proofs
namespace GP
open Go Go.Proofs
set_option maxRecDepth 100000
variable [HasG Try.prog]
def φeqv : List D → Option D
  | [a, b] => if a.isV = true ∧ b.isV = true ∧ leaf a = true ∧ leaf b = true then some (.bool (ord0 a b == 0)) else none
  | _ => none
theorem ok88 : OkAt Try.prog 88 φeqv := by
  refine ok_of (l := [(86, φOrd dom0 f0)]) (.cons ok86a .nil) fn88 fun args r h => ?_
  unfold φeqv at h
  split at h
  · split at h
    · rename_i a b hab
      injection h with h; subst h
      obtain ⟨ha, hb, hla, hlb⟩ := hab
      have p := ord_leaf ha hb hla hlb
      refine ⟨by simp, by simp [D.cl], fun H T => ?_⟩
      obtain ⟨k1, i1, s1, n1, l1, rfl, z1, y1, hV1⟩ := isV_elim ha
      obtain ⟨k2, i2, s2, n2, l2, rfl, z2, y2, hV2⟩ := isV_elim hb
      have r1 := erase_of_isV hV1
      have r2 := erase_of_isV hV2
      simp only [mkV] at p
      simp +contextual (maxSteps := 10000000) only [c88, mkV, p, r1, r2, go_sem, W_draw]
    · cases h
  · cases h
def φins0 : List D → Option D
  | [.nils, .int .i64 a, .int .i64 b, .fn 86 [] []] => if a = 0 ∧ b = 0 then some (.tup []) else none
  | [.sl none [], .int .i64 a, .int .i64 b, .fn 86 [] []] => if a = 0 ∧ b = 0 then some (.tup []) else none
  | [.ms true 4 _ _ 0 _, .int .i64 a, .int .i64 b, .fn 86 [] []] => if a = 0 ∧ b = 0 then some (.tup []) else none
  | _ => none
theorem ok137 : OkAt Try.prog 137 φins0 := by
  refine ok_of (l := []) .nil fn137 fun args r h => ?_
  unfold φins0 at h
  split at h <;> first | (cases h; done) | skip
  all_goals
    split at h
    · rename_i hab
      obtain ⟨rfl, rfl⟩ := hab
      injection h with h; subst h
      refine ⟨by simp, by simp [D.cl, D.clL], fun H T => ?_⟩
      simp +contextual (maxSteps := 10000000) only [c137, go_sem, W_draw]
      refine W_for (fun i s' => s'.t 8 = .int .i64 1 ∧ s'.t 2 = .int .i64 0 ∧ s'.H = H ∧ s'.T = T ∧ i ≤ 0) 0 ⟨0, by simp [upd, argT, wrap_of]⟩ (fun i s h => h.2.2.2.2) ?_ (XL_mono _)
      rintro i ⟨t, B, T'⟩ ⟨r8, r2, rfl, rfl, hi⟩
      simp only at r8 r2
      have d1 : decide ((1 : Int) < 0) = false := by decide
      simp +contextual (maxSteps := 10000000) only [r8, r2, d1, go_sem, W_draw]
    · cases h
def φpdq0 : List D → Option D
  | [.nils, .int .i64 a, .int .i64 b, .int .i64 _, .fn 86 [] []] => if a = 0 ∧ b = 0 then some (.tup []) else none
  | [.sl none [], .int .i64 a, .int .i64 b, .int .i64 _, .fn 86 [] []] => if a = 0 ∧ b = 0 then some (.tup []) else none
  | [.ms true 4 _ _ 0 _, .int .i64 a, .int .i64 b, .int .i64 _, .fn 86 [] []] => if a = 0 ∧ b = 0 then some (.tup []) else none
  | _ => none
theorem ok120 : OkAt Try.prog 120 φpdq0 := by
  refine ok_of (l := [(137, φins0)]) (.cons ok137 .nil) fn120 fun args r h => ?_
  have p1 : φins0 [.nils, .int .i64 0, .int .i64 0, .fn 86 [] []] = some (.tup []) := rfl
  have p2 : φins0 [.sl none [], .int .i64 0, .int .i64 0, .fn 86 [] []] = some (.tup []) := rfl
  have p3 : ∀ o off cap, φins0 [.ms true 4 o off 0 cap, .int .i64 0, .int .i64 0, .fn 86 [] []] = some (.tup []) := fun _ _ _ => rfl
  have w0 : IntKind.i64.wrap (0 - 0) = 0 := by decide
  have d0 : decide ((0 : Int) ≤ 12) = true := by decide
  unfold φpdq0 at h
  split at h <;> first | (cases h; done) | skip
  all_goals
    split at h
    · rename_i z hab
      obtain ⟨rfl, rfl⟩ := hab
      injection h with h; subst h
      refine ⟨by simp, by simp [D.cl, D.clL], fun H T => ?_⟩
      simp +contextual (maxSteps := 10000000) only [c120, go_sem, W_draw]
      refine W_for (fun i s' => (s'.t 0 = .nils ∨ s'.t 0 = .sl none [] ∨ ∃ o off cap, s'.t 0 = .ms true 4 o off 0 cap) ∧ s'.t 1 = .int .i64 0 ∧ s'.t 2 = .int .i64 0 ∧ s'.t 4 = .fn 86 [] [] ∧ s'.H = H ∧ s'.T = T ∧ i ≤ 0) 0 ⟨0, by simp [upd, argT], by simp [upd, argT], by simp [upd, argT], by simp [upd, argT], rfl, rfl, Nat.le_refl _⟩ (fun i s h => h.2.2.2.2.2.2) ?_ (XL_mono _)
      rintro i ⟨t, B, T'⟩ ⟨r0, r1, r2, r4, rfl, rfl, hi⟩
      simp only at r0 r1 r2 r4
      rcases r0 with r0 | r0 | ⟨o, off, cap, r0⟩
      · simp +contextual (maxSteps := 10000000) only [r0, r1, r2, r4, p1, w0, d0, go_sem, W_draw]
      · simp +contextual (maxSteps := 10000000) only [r0, r1, r2, r4, p2, w0, d0, go_sem, W_draw]
      · simp +contextual (maxSteps := 10000000) only [r0, r1, r2, r4, p3, w0, d0, go_sem, W_draw]
    · cases h
theorem ok_fun {P : Program} [HasG P] {f : FuncId} {φ : List D → Option D} (h : ∀ args r, φ args = some r → ∀ (c : Cx) (w : World) (vs : List Value), Reps c args vs → (callFunc f vs.toArray).run P w = .ok (.enter f vs.toArray) w ∧
      Calls P f vs.toArray w fun e w' => ∃ v, e = .returned v ∧ Rep c r v ∧ w' = w) : OkAt P f φ := by
  intro args r hr args' he H T Q hQ c w vs hg k1 k2 k3
  have k3' : Reps c args vs := by rw [← he]; exact k3.erase
  obtain ⟨g1, g2⟩ := h args r hr c w vs k3'
  refine .inl ⟨g1, g2.mono ?_⟩
  rintro e w' ⟨v, rfl, h1, rfl⟩
  exact ⟨v, rfl, r, H, T, c, hQ, h1, k1, Cx.le.refl c, k2, Below.refl _ _⟩
def φlen0 : List D → Option D
  | [.int .u64 n] => if n = 0 then some (.int .i64 0) else none
  | _ => none
theorem ok121 : OkAt Try.prog 121 φlen0 := by
  refine ok_fun fun args r h c w vs hr => ?_
  unfold φlen0 at h
  split at h
  · split at h
    · rename_i hn
      subst hn
      injection h with h; subst h
      match vs, hr.len with
      | [v], _ =>
        have h1 := hr.rep 0 (by simp) (by simp)
        simp only [List.getElem_cons_zero] at h1
        cases h1
        have e121 : ∀ args w, (callFunc 121 args).run Try.prog w = .ok (.enter 121 args) w := enters_of Try.func121 (by kernel_rfl) rfl
        refine ⟨e121 _ _, ?_⟩
        have := Go.Proofs.Any.bits_Len (SlLaysF0.n15.bits (P := Try.prog) (ρ := Try.sortVal_ren) { Try.sortVal with }) (0 : Int) w (by omega) (by omega)
        refine Calls.mono (show Calls Try.prog 121 _ _ _ from this) ?_
        rintro e w' ⟨rfl, rfl⟩
        exact ⟨_, rfl, .int _ _, rfl⟩
    · cases h
  · cases h
def φsort0 : List D → Option D
  | [.nils, .fn 86 [] []] => some (.tup [])
  | [.sl none [], .fn 86 [] []] => some (.tup [])
  | [.ms true 4 _ _ 0 _, .fn 86 [] []] => some (.tup [])
  | _ => none
theorem ok85 : OkAt Try.prog 85 φsort0 := by
  refine ok_of (l := [(120, φpdq0), (121, φlen0)]) (.cons ok120 (.cons ok121 .nil)) fn85 fun args r h => ?_
  have p1 : φpdq0 [.nils, .int .i64 0, .int .i64 0, .int .i64 0, .fn 86 [] []] = some (.tup []) := rfl
  have p2 : φpdq0 [.sl none [], .int .i64 0, .int .i64 0, .int .i64 0, .fn 86 [] []] = some (.tup []) := rfl
  have p4 : ∀ o off cap, φpdq0 [.ms true 4 o off 0 cap, .int .i64 0, .int .i64 0, .int .i64 0, .fn 86 [] []] = some (.tup []) := fun _ _ _ => rfl
  have p3 : φlen0 [.int .u64 0] = some (.int .i64 0) := rfl
  have w0 : IntKind.u64.wrap 0 = 0 := by decide
  unfold φsort0 at h
  split at h <;> first | (cases h; done) | skip
  all_goals
    injection h with h; subst h
    refine ⟨by simp, by simp [D.cl, D.clL], fun H T => ?_⟩
    simp +contextual (maxSteps := 10000000) only [c85, p1, p2, p3, p4, w0, go_sem, W_draw]
end GP
namespace GP
open Go Go.Proofs
open Rd O
set_option maxRecDepth 100000
def c84m : C :=
  (.seq (.reg [⟨(some 2), none, .mv (k .nils)⟩])
  (.seq (.seq (.reg [⟨(some 3), none, .mv (t 0)⟩, ⟨(some 4), none, .isn false (t 3)⟩])
  (.cond (t 4)
  (.seq (.reg [⟨(some 2), none, .mv (k .nils)⟩])
  .ret)
  .skip))
  (.seq (.reg [⟨(some 5), none, .bslm true 4 []⟩, ⟨(some 6), none, .mv (t 0)⟩, ⟨(some 7), none, .appm true false 4 56 (t 5) (t 6)⟩, ⟨(some 2), none, .mv (t 7)⟩])
  .ret)))
theorem fn84m : Fn Go.Proofs.Try.prog 84 8 [.inl 2] c84m :=
  ⟨⟨_, _, Go.Proofs.Try.func84, rfl, by kernel_rfl, Go.Proofs.Try.ntmps84, by kernel_rfl, ⟨fun f => ([1000003] : List Nat).contains f, true, fun _ => false, false⟩, by kernel_rfl⟩⟩
end GP
namespace GP
open Go Go.Proofs
set_option maxRecDepth 100000
variable [HasG Try.prog]
theorem isV_agg {xs : List D} (h : ∀ x ∈ xs, x.isV = true) : isAg 4 xs := fun x hx => by
  obtain ⟨k, i, s, n, l, rfl, _⟩ := isV_elim (h x hx)
  exact ⟨_, rfl, rfl⟩
theorem clone_snd {xs : List D} {H : Hp} {T : Tk} {Q : Post} (hx : ∀ x ∈ xs, x.isV = true) (hne : xs ≠ []) (hl : xs.length ≤ 2 ^ 40) (k : Q (.ms true 4 (H.length + 1) 0 xs.length xs.length) (H ++ [.dead, .row (flatD xs)]) T) : Snd Try.prog 84 [.sl none xs] H T Q := by
  refine call_of fn84m (by simp) (W_mono (X := XL []) (Ok.X .nil) (fun _ _ h => h) ?_)
  have hf := (isV_agg hx).fit
  cases xs with
  | nil => exact absurd rfl hne
  | cons x r =>
    have e1 : Option.map (fun b => D.bool b) (eq1D Tq.slc (D.sl none (x :: r)) D.nils) = some (.bool false) := rfl
    simp +contextual (maxSteps := 10000000) only [c84m, e1, go_sem, W_draw]
    have ho : (H ++ [Ob.row (flatD [])])[H.length]? = some (.row []) := by simp [flatD]
    have hl' : ¬ (x :: r).length = 0 := by simp
    simp only [appmK, ho]
    refine ⟨hf, trivial, ?_⟩
    rw [if_neg (by simp)]
    refine ⟨by simp, by simp, by simp at hl ⊢; omega, by simp at hl ⊢; omega, ?_⟩
    simp +contextual (maxSteps := 10000000) only [go_sem, W_draw]
    have e : List.set (H ++ [Ob.row (flatD [])]) H.length Ob.dead ++ [Ob.row (flatD (x :: r))] = H ++ [.dead, .row (flatD (x :: r))] := by simp [List.set_append]
    rw [e]
    exact k
theorem set_same {H : Hp} {o : Nat} {x : Ob} (h : H[o]? = some x) : H.set o x = H := by
  apply List.ext_getElem?
  intro i
  rw [List.getElem?_set]
  split
  · rename_i e; subst e
    have : o < H.length := by
      rcases Nat.lt_or_ge o H.length with h' | h'
      · exact h'
      · rw [List.getElem?_eq_none h'] at h; cases h
    rw [if_pos this, h]
  · rfl
def cmpA (p : D) : List D → List D
  | [] => []
  | y :: r => if ord0 y p == 0 then cmpA y r else y :: cmpA y r
def cmpC : List D → List D
  | [] => []
  | x :: r => x :: cmpA x r
theorem cmpA_snoc (y : D) : ∀ (l : List D) (p : D), cmpA p (l ++ [y]) = if ord0 y ((p :: l).getLast (by simp)) == 0 then cmpA p l else cmpA p l ++ [y]
  | [], p => by simp [cmpA]
  | x :: l, p => by
    simp only [List.cons_append, cmpA, cmpA_snoc y l x, List.getLast_cons_cons]
    split <;> split <;> simp_all
theorem cmpC_take {ys : List D} {j : Nat} (h0 : 0 < j) (hj : j < ys.length) {y p : D} (hy : ys[j]? = some y) (hp : ys[j - 1]? = some p) :
    cmpC (ys.take (j + 1)) = if ord0 y p == 0 then cmpC (ys.take j) else cmpC (ys.take j) ++ [y] := by
  cases ys with
  | nil => simp at hj
  | cons x r =>
    obtain ⟨m, rfl⟩ : ∃ m, j = m + 1 := ⟨j - 1, by omega⟩
    simp only [List.length_cons] at hj
    have hm : m < r.length := by omega
    have ey : r[m] = y := by simpa [hm] using hy
    have e1 : r.take (m + 1) = r.take m ++ [y] := by rw [List.take_add_one, List.getElem?_eq_getElem hm, ey]; rfl
    have e2 : (x :: r.take m).getLast (by simp) = p := by
      have : (x :: r).take (m + 1) = x :: r.take m := rfl
      rw [List.getLast_eq_getElem]
      have hp' : (x :: r)[m]? = some p := by simpa using hp
      have : (x :: r.take m)[m]? = some p := by
        rw [← hp', ← List.take_succ_cons, List.getElem?_take_of_lt (by omega)]
      have hl : (x :: r.take m).length - 1 = m := by simp; omega
      rw [List.getElem?_eq_getElem (by simp; omega)] at this
      simp only [hl]
      injection this
    simp only [List.take_succ_cons, cmpC]
    rw [e1, cmpA_snoc, e2]
    split <;> simp
theorem cmpC_step {ys : List D} {j : Nat} (h0 : 0 < j) (hj : j < ys.length) {y p : D} (hy : ys[j]? = some y) (hp : ys[j - 1]? = some p) {S : List D} {i : Nat} (hS : S.length = ys.length) (h1 : S.take i = cmpC (ys.take j)) (h2 : S.drop i = ys.drop i) (hi : (cmpC (ys.take j)).length = i) (hij : i < j)
    (hne : (ord0 y p == 0) = false) : (S.set i y).length = ys.length ∧ (S.set i y).take (i + 1) = cmpC (ys.take (j + 1)) ∧ (S.set i y).drop (i + 1) = ys.drop (i + 1) ∧ (cmpC (ys.take (j + 1))).length = i + 1 := by
  have e := cmpC_take h0 hj hy hp
  rw [hne] at e
  simp only [Bool.false_eq_true, if_false] at e
  refine ⟨by simp [hS], ?_, ?_, by rw [e]; simp [hi]⟩
  · rw [e, ← h1, List.take_add_one, List.take_set_of_le (Nat.le_refl _), List.getElem?_set_self (by omega)]; rfl
  · rw [List.drop_set_of_lt (by omega), ← List.drop_drop, h2, List.drop_drop]
theorem compact_snd {ys rest : List D} {H : Hp} {o cap : Nat} {T : Tk} {Q : Post} (ho : H[o]? = some (.row (flatD ys ++ rest))) (hy : ∀ y ∈ ys, y.isV = true ∧ leaf y = true) (hl : ys.length ≤ 2 ^ 40) (hcap : ys.length ≤ cap)
    (k : ∀ rest', Q (.ms true 4 o 0 (cmpC ys).length cap) (H.set o (.row (flatD (cmpC ys) ++ rest'))) T) : Snd Try.prog 87 [.ms true 4 o 0 ys.length cap, .fn 88 [] []] H T Q := by
  refine call_of fn87 (by simp) (W_mono (X := XL [(88, φeqv)]) (Ok.X (.cons ok88 .nil)) (fun _ _ h => h) ?_)
  have hv : ∀ y ∈ ys, y.isV = true := fun y h => (hy y h).1
  have hag := isV_agg hv
  rcases tf (decide ((ys.length : Int) < 2)) with g | g
  · have hC : cmpC ys = ys := by
      simp only [decide_eq_true_eq] at g
      match ys, g with
      | [], _ => rfl
      | [x], _ => rfl
      | x :: y :: r, g => simp at g; omega
    have k0 := k rest
    rw [hC, set_same ho] at k0
    simp +contextual (maxSteps := 10000000) only [c87, g, go_sem, W_draw]
    exact k0
  · simp only [decide_eq_false_iff_not] at g
    have hd : decide ((ys.length : Int) < 2) = false := by simp only [decide_eq_false_iff_not]; omega
    simp +contextual (maxSteps := 10000000) only [c87, hd, go_sem, W_draw]
    refine W_for (fun i s' => s'.t 0 = .ms true 4 o 0 ys.length cap ∧ s'.t 1 = .fn 88 [] [] ∧ s'.t 5 = .int .i64 ((i + 1 : Nat) : Int) ∧ s'.H = H ∧ s'.T = T ∧ i + 1 ≤ ys.length ∧ cmpC (ys.take (i + 1)) = ys.take (i + 1)) ys.length
      ⟨0, by simp [upd, argT], by simp [upd, argT], by simp [upd, argT], rfl, rfl, by omega, ?_⟩ (fun i s h => by have := h.2.2.2.2.2.1; omega) ?_ (XL_mono _)
    · cases ys with
      | nil => rfl
      | cons x r => rfl
    rintro i ⟨t, B, T'⟩ ⟨r0, r1, r5, rfl, rfl, hi, hC⟩
    simp only at r0 r1 r5 ho k
    by_cases hlt : i + 1 < ys.length
    · have d1 : decide (((i + 1 : Nat) : Int) < ys.length) = true := by simp only [decide_eq_true_eq]; omega
      have ex : ys[i + 1]? = some ys[i + 1] := by simp [hlt]
      have ep : ys[i]? = some ys[i] := by rw [List.getElem?_eq_getElem (by omega)]
      obtain ⟨x, hx⟩ : ∃ x, ys[i + 1] = x := ⟨_, rfl⟩
      obtain ⟨p, hp⟩ : ∃ p, ys[i] = p := ⟨_, rfl⟩
      rw [hx] at ex; rw [hp] at ep
      have l1 := rd_ms (off := (i + 1) * 4) ho hag ex (by omega)
      have l2 := rd_ms (off := i * 4) ho hag ep (by omega)
      have i1 := ia_msN (ag := true) (sz := 4) (o := o) (off := 0) (cap := cap) (k := .i64) hlt
      have i2 := ia_msN (ag := true) (sz := 4) (o := o) (off := 0) (cap := cap) (k := .i64) (show i < ys.length by omega)
      have hxv := hy x (List.mem_of_getElem? ex)
      have hpv := hy p (List.mem_of_getElem? ep)
      have hc : φeqv [x, p] = some (.bool (ord0 x p == 0)) := by simp only [φeqv]; rw [if_pos ⟨hxv.1, hpv.1, hxv.2, hpv.2⟩]
      have w1 : IntKind.i64.wrap (((i + 1 : Nat) : Int) - 1) = (i : Nat) := by rw [show ((i + 1 : Nat) : Int) - 1 = (i : Nat) by omega]; exact wrap_of _ (by omega) (by omega)
      have w2 : IntKind.i64.wrap (((i + 1 : Nat) : Int) + 1) = ((i + 1 + 1 : Nat) : Int) := by rw [show ((i + 1 : Nat) : Int) + 1 = ((i + 1 + 1 : Nat) : Int) by omega]; exact wrap_of _ (by omega) (by omega)
      have er : D.eraseL [x, p] = [x, p] := by
        obtain ⟨k1, j1, s1, n1, m1, rfl, _, _, hV1⟩ := isV_elim hxv.1
        obtain ⟨k2, j2, s2, n2, m2, rfl, _, _, hV2⟩ := isV_elim hpv.1
        exact erase_of_isV (by simp [hxv.1, hpv.1])
      have hstep := cmpC_take (ys := ys) (j := i + 1) (by omega) hlt ex (by simpa using ep)
      rcases tf (ord0 x p == 0) with g0 | g0
      · rw [g0] at hc hstep
        simp only [if_true] at hstep
        have s1 := slc_msN (ag := true) (sz := 4) (o := o) (off := 0) (n := ys.length) (cap := cap) (l := i + 1) (h := ys.length) (by omega) (Nat.le_refl _) (by omega)
        rw [Nat.zero_add] at s1
        simp +contextual (maxSteps := 10000000) only [r0, r1, r5, d1, w1, l1, l2, i1, i2, hc, er, s1, go_sem, W_draw]
        refine W_for (fun m s' => ∃ S q, s'.t 0 = .ms true 4 o 0 ys.length cap ∧ s'.t 1 = .fn 88 [] [] ∧ s'.t 5 = .int .i64 ((q : Nat) : Int) ∧ s'.t 6 = .ms true 4 o ((i + 1) * 4) (ys.length - (i + 1)) (cap - (i + 1)) ∧ s'.t 7 = .int .i64 ((m + 1 : Nat) : Int) ∧ s'.H = B.set o (.row (flatD S ++ rest)) ∧ s'.T = T' ∧
            S.length = ys.length ∧ S.take q = cmpC (ys.take (i + 1 + m + 1)) ∧ S.drop q = ys.drop q ∧ (cmpC (ys.take (i + 1 + m + 1))).length = q ∧ q < i + 1 + m + 1 ∧ i + 1 + m + 1 ≤ ys.length ∧ (∀ y ∈ S, y.isV = true ∧ leaf y = true)) ys.length
          ⟨0, ys, i + 1, by simp [upd, r0], by simp [upd, r1], by simp [upd, r5], by simp [upd], by simp [upd], by rw [set_same ho], rfl, rfl, ?_, rfl, ?_, by omega, by omega, hy⟩ (fun m s h => by obtain ⟨_, _, h⟩ := h; have := h.2.2.2.2.2.2.2.2.2.2.2.2.1; omega) ?_ (XL_mono _)
        · rw [hstep, hC]
        · rw [hstep, hC]; simp; omega
        rintro m ⟨t2, B2, T2⟩ ⟨S, q, r0, r1, r5, r6, r7, rfl, rfl, hS, h1, h2, hq, hqj, hj, hSv⟩
        simp only at r0 r1 r5 r6 r7
        have hagS := isV_agg (fun y h => (hSv y h).1)
        have hoB : o < B.length := by
          rcases Nat.lt_or_ge o B.length with h' | h'
          · exact h'
          · rw [List.getElem?_eq_none h'] at ho; cases ho
        have hB2 : (B.set o (Ob.row (flatD S ++ rest)))[o]? = some (.row (flatD S ++ rest)) := by rw [List.getElem?_set_self hoB]
        have hge : ∀ z, q ≤ z → S[z]? = ys[z]? := fun z hz => by
          have := congrArg (fun l => l[z - q]?) h2
          simp only [List.getElem?_drop] at this
          rwa [show q + (z - q) = z by omega] at this
        by_cases hlt2 : i + 1 + m + 1 < ys.length
        · have d2 : decide (((m + 1 : Nat) : Int) < ((ys.length - (i + 1) : Nat) : Int)) = true := by simp only [decide_eq_true_eq]; omega
          obtain ⟨x, hx2⟩ : ∃ x, ys[i + 1 + m + 1] = x := ⟨_, rfl⟩
          obtain ⟨p, hp2⟩ : ∃ p, ys[i + 1 + m] = p := ⟨_, rfl⟩
          have ex2 : ys[i + 1 + m + 1]? = some x := by rw [List.getElem?_eq_getElem hlt2, hx2]
          have ep2 : ys[i + 1 + m]? = some p := by rw [List.getElem?_eq_getElem (by omega), hp2]
          have exS : S[i + 1 + m + 1]? = some x := by rw [hge _ (by omega)]; exact ex2
          have epS : S[i + 1 + m]? = some p := by rw [hge _ (by omega)]; exact ep2
          have l1 := rd_ms (off := (i + 1) * 4 + (m + 1) * 4) hB2 hagS exS (by omega)
          have l2 := rd_ms (off := (i + 1) * 4 + m * 4) hB2 hagS epS (by omega)
          have i1 := ia_msN (ag := true) (sz := 4) (o := o) (off := (i + 1) * 4) (cap := cap - (i + 1)) (k := .i64) (n := ys.length - (i + 1)) (i := m + 1) (by omega)
          have i2 := ia_msN (ag := true) (sz := 4) (o := o) (off := (i + 1) * 4) (cap := cap - (i + 1)) (k := .i64) (n := ys.length - (i + 1)) (i := m) (by omega)
          have i3 := ia_msN (ag := true) (sz := 4) (o := o) (off := 0) (cap := cap) (k := .i64) (n := ys.length) (i := q) (by omega)
          rw [Nat.zero_add] at i3
          have hxv := hy x (List.mem_of_getElem? ex2)
          have hpv := hy p (List.mem_of_getElem? ep2)
          have hc : φeqv [x, p] = some (.bool (ord0 x p == 0)) := by simp only [φeqv]; rw [if_pos ⟨hxv.1, hpv.1, hxv.2, hpv.2⟩]
          have w1 : IntKind.i64.wrap (((m + 1 : Nat) : Int) - 1) = (m : Nat) := by rw [show ((m + 1 : Nat) : Int) - 1 = (m : Nat) by omega]; exact wrap_of _ (by omega) (by omega)
          have w2 : IntKind.i64.wrap (((m + 1 : Nat) : Int) + 1) = ((m + 1 + 1 : Nat) : Int) := by rw [show ((m + 1 : Nat) : Int) + 1 = ((m + 1 + 1 : Nat) : Int) by omega]; exact wrap_of _ (by omega) (by omega)
          have w3 : IntKind.i64.wrap (((q : Nat) : Int) + 1) = ((q + 1 : Nat) : Int) := by rw [show ((q : Nat) : Int) + 1 = ((q + 1 : Nat) : Int) by omega]; exact wrap_of _ (by omega) (by omega)
          have er : D.eraseL [x, p] = [x, p] := erase_of_isV (by simp [hxv.1, hpv.1])
          have hst := cmpC_take (ys := ys) (j := i + 1 + m + 1) (by omega) hlt2 ex2 (by simpa using ep2)
          rcases tf (ord0 x p == 0) with g1 | g1
          · rw [g1] at hc hst
            simp only [if_true] at hst
            simp +contextual (maxSteps := 10000000) only [r0, r1, r5, r6, r7, d2, w1, w2, l1, l2, i1, i2, i3, hc, er, go_sem, W_draw]
            have ej : i + 1 + (m + 1) + 1 = i + 1 + m + 1 + 1 := by omega
            rw [ej]
            exact ⟨S, q, rfl, rfl, hS, by rw [hst]; exact h1, h2, by rw [hst]; exact hq, by omega, by omega, hSv⟩
          · rw [g1] at hc hst
            have hx4 : ∃ l, x = .agg l ∧ l.length = 4 := isV_agg (xs := [x]) (by simp [hxv.1]) x (by simp)
            simp +contextual (maxSteps := 10000000) only [r0, r1, r5, r6, r7, d2, w1, w2, l1, l2, i1, i2, i3, hc, er, go_sem, W_draw]
            refine st_ms hB2 hagS hx4 (by omega) rfl ?_
            simp +contextual (maxSteps := 10000000) only [r0, r1, r5, r6, r7, w2, w3, go_sem, W_draw]
            have ej : i + 1 + (m + 1) + 1 = i + 1 + m + 1 + 1 := by omega
            rw [ej]
            obtain ⟨c1, c2, c3, c4⟩ := cmpC_step (by omega) hlt2 ex2 (by simpa using ep2) hS h1 h2 hq hqj g1
            refine ⟨S.set q x, q + 1, rfl, by rw [List.set_set], c1, c2, c3, c4, by omega, by omega, fun y h => ?_⟩
            rcases List.mem_or_eq_of_mem_set h with h' | rfl
            · exact hSv y h'
            · exact hxv
        · have d2 : decide (((m + 1 : Nat) : Int) < ((ys.length - (i + 1) : Nat) : Int)) = false := by simp only [decide_eq_false_iff_not]; omega
          have ej : i + 1 + m + 1 = ys.length := by omega
          rw [ej, List.take_length] at h1 hq
          have s2 := slc_msN (ag := true) (sz := 4) (o := o) (off := 0) (n := ys.length) (cap := cap) (l := q) (h := ys.length) (by omega) (Nat.le_refl _) (by omega)
          rw [Nat.zero_add] at s2
          have s3 := slc_ms0 (ag := true) (sz := 4) (o := o) (off := 0) (n := ys.length) (cap := cap) (h := q) (by omega) (by omega)
          simp +contextual (maxSteps := 10000000) only [r0, r1, r5, r6, r7, d2, s2, go_sem, W_draw]
          refine clr_ms hB2 hagS rfl (by omega) rfl (fun rest' => ?_)
          simp +contextual (maxSteps := 10000000) only [r0, r1, r5, s3, go_sem, W_draw]
          rw [h1, List.set_set]
          have k0 := k rest'
          rw [hq] at k0
          exact k0
      · rw [g0] at hc hstep
        simp only [Bool.false_eq_true, if_false] at hstep
        simp +contextual (maxSteps := 10000000) only [r0, r1, r5, d1, w1, l1, l2, i1, i2, hc, er, w2, go_sem, W_draw]
        refine ⟨by omega, ?_⟩
        rw [hstep, hC, List.take_add_one (i := i + 1), ex]; rfl
    · have d1 : decide (((i + 1 : Nat) : Int) < ys.length) = false := by simp only [decide_eq_false_iff_not]; omega
      have e : i + 1 = ys.length := by omega
      have k0 := k rest
      rw [e, List.take_length] at hC
      rw [hC, set_same ho] at k0
      simp +contextual (maxSteps := 10000000) only [r0, r1, r5, d1, go_sem, W_draw]
      exact k0
end GP
namespace GP
open Go Go.Proofs
set_option maxRecDepth 100000
variable [HasG Try.prog]
def can (d : D) : D := mkV (vk d) (vi d) (vs d) false []
theorem can_vk (d : D) : vk (can d) = vk d := by simp [can, vk_mk]
theorem can_vi (d : D) : vi (can d) = vi d := by simp [can, vi_mk]
theorem can_vs (d : D) : vs (can d) = vs d := by simp [can, vs_mk]
theorem can_vl (d : D) : vl (can d) = [] := by simp [can, vl_mk]
theorem can_can (d : D) : can (can d) = can d := by simp only [can, vk_mk, vi_mk, vs_mk]
theorem one1_can {d : D} (h : one1 d = true) : one1 (can d) = true := by
  have hl : (vl d).length = 0 := plain_leaf h
  unfold one1 at h ⊢
  rw [can_vk, can_vi, can_vs, can_vl]
  rw [hl] at h; exact h
theorem single_can (a b : D) : singleD (can a) (can b) = singleD a b := by
  rw [single_lex, single_lex]; simp only [can_vk, can_vi, can_vs]
theorem can_eq {a b : D} (ha : one1 a = true) (hb : one1 b = true) : singleD a b = 0 ↔ can a = can b := by
  rw [single_zero ha hb]
  constructor
  · rintro ⟨h1, h2, h3⟩
    simp only [can, h1, h2, h3]
  · intro h
    have h1 := congrArg vk h; have h2 := congrArg vi h; have h3 := congrArg vs h
    simp only [can_vk, can_vi, can_vs] at h1 h2 h3
    exact ⟨h1, h2, h3⟩
theorem single_self (a : D) : singleD a a = 0 := by
  have := single_anti a a; omega
def rising (l : List D) : Prop := l.Pairwise fun a b => singleD a b < 0
def good1 (l : List D) : Prop := ∀ x ∈ l, one1 x = true
theorem rising_uniq : ∀ (A B : List D), rising A → rising B → (∀ x, x ∈ A ↔ x ∈ B) → A = B
  | [], B, _, _, h => by
    cases B with
    | nil => rfl
    | cons b B => exact absurd ((h b).2 (by simp)) (by simp)
  | a :: A, [], _, _, h => absurd ((h a).1 (by simp)) (by simp)
  | a :: A, b :: B, hA, hB, h => by
    unfold rising at hA hB
    rw [List.pairwise_cons] at hA hB
    have e : a = b := by
      rcases List.mem_cons.1 ((h a).1 (by simp)) with e | h1
      · exact e
      rcases List.mem_cons.1 ((h b).2 (by simp)) with e | h2
      · exact e.symm
      have k1 := hB.1 a h1
      have k2 := hA.1 b h2
      have := single_anti a b
      omega
    subst e
    have nA : a ∉ A := fun hm => by have := hA.1 a hm; rw [single_self] at this; omega
    have nB : a ∉ B := fun hm => by have := hB.1 a hm; rw [single_self] at this; omega
    rw [rising_uniq A B hA.2 hB.2 fun x => ?_]
    have := h x
    constructor
    · intro hx
      rcases List.mem_cons.1 (this.1 (by simp [hx])) with rfl | h1
      · exact absurd hx nA
      · exact h1
    · intro hx
      rcases List.mem_cons.1 (this.2 (by simp [hx])) with rfl | h1
      · exact absurd hx nB
      · exact h1
def insU : List D → D → List D
  | [], x => [x]
  | z :: r, x => if singleD z x < 0 then z :: insU r x else if singleD z x == 0 then z :: r else x :: z :: r
def bagR (xs : List D) : List D := (xs.map can).foldl insU []
theorem insU_mem {x : D} (hx : one1 x = true) (cx : can x = x) : ∀ (zs : List D), good1 zs → (∀ z ∈ zs, can z = z) → ∀ y, y ∈ insU zs x ↔ y ∈ zs ∨ y = x
  | [], _, _, y => by simp [insU]
  | z :: r, hz, cz, y => by
    have ih := insU_mem hx cx r (fun w hw => hz w (by simp [hw])) (fun w hw => cz w (by simp [hw])) y
    unfold insU
    split
    · simp only [List.mem_cons, ih]
      constructor
      · rintro (h | h | h) <;> simp [h]
      · rintro ((h | h) | h) <;> simp [h]
    · split
      · rename_i h0
        have e : z = x := by
          have := (can_eq (hz z (by simp)) hx).1 (by simpa using h0)
          rw [cz z (by simp), cx] at this; exact this
        subst e
        constructor
        · intro h; exact .inl h
        · rintro (h | rfl)
          · exact h
          · simp
      · simp only [List.mem_cons]
        constructor
        · rintro (h | h) <;> simp [h]
        · rintro (h | h) <;> simp [h]
theorem insU_rising {x : D} (hx : one1 x = true) (cx : can x = x) : ∀ (zs : List D), good1 zs → (∀ z ∈ zs, can z = z) → rising zs → rising (insU zs x)
  | [], _, _, _ => by simp [insU, rising]
  | z :: r, hz, cz, h => by
    have hr : good1 r := fun w hw => hz w (by simp [hw])
    have cr : ∀ w ∈ r, can w = w := fun w hw => cz w (by simp [hw])
    unfold rising at h
    rw [List.pairwise_cons] at h
    unfold insU
    split
    · rename_i h0
      refine List.pairwise_cons.2 ⟨fun y hy => ?_, insU_rising hx cx r hr cr h.2⟩
      rcases (insU_mem hx cx r hr cr y).1 hy with hy | rfl
      · exact h.1 y hy
      · exact h0
    · split
      · exact List.pairwise_cons.2 h
      · rename_i h0 h1
        have hlt : singleD x z < 0 := by
          have := single_anti z x
          have h1' : ¬ singleD z x = 0 := by simpa using h1
          omega
        refine List.pairwise_cons.2 ⟨fun y hy => ?_, List.pairwise_cons.2 h⟩
        rcases List.mem_cons.1 hy with rfl | hy
        · exact hlt
        · exact (single_tr x z y).l1 hlt (by have := h.1 y hy; omega)
theorem bag_fold : ∀ (xs zs : List D), good1 xs → (∀ x ∈ xs, can x = x) → good1 zs → (∀ z ∈ zs, can z = z) → rising zs → rising (xs.foldl insU zs) ∧ (∀ y, y ∈ xs.foldl insU zs ↔ y ∈ zs ∨ y ∈ xs)
  | [], zs, _, _, _, _, hr => ⟨hr, by simp⟩
  | x :: xs, zs, hx, cx, hz, cz, hr => by
    have m := insU_mem (hx x (by simp)) (cx x (by simp)) zs hz cz
    have ih := bag_fold xs (insU zs x) (fun w hw => hx w (by simp [hw])) (fun w hw => cx w (by simp [hw])) (fun w hw => by
      rcases (m w).1 hw with h | rfl
      · exact hz w h
      · exact hx w (by simp)) (fun w hw => by
      rcases (m w).1 hw with h | rfl
      · exact cz w h
      · exact cx w (by simp)) (insU_rising (hx x (by simp)) (cx x (by simp)) zs hz cz hr)
    refine ⟨ih.1, fun y => ?_⟩
    rw [List.foldl_cons, ih.2 y, m y, List.mem_cons, or_assoc]
theorem bagR_spec {xs : List D} (h : good1 xs) : rising (bagR xs) ∧ ∀ y, y ∈ bagR xs ↔ ∃ x ∈ xs, y = can x := by
  obtain ⟨h1, h2⟩ := bag_fold (xs.map can) [] (fun x hx => by obtain ⟨y, hy, rfl⟩ := List.mem_map.1 hx; exact one1_can (h y hy)) (fun x hx => by obtain ⟨y, _, rfl⟩ := List.mem_map.1 hx; exact can_can y) (by simp [good1]) (by simp) (by simp [rising])
  refine ⟨h1, fun y => ?_⟩
  rw [bagR, h2 y]
  simp [eq_comm]
theorem cmpA_spec (hs : ∀ a b : D, one1 a = true → one1 b = true → ord0 a b = singleD a b) : ∀ (l : List D) (p : D), one1 p = true → good1 l → (p :: l).Pairwise (fun a b => ¬ singleD b a < 0) →
    (∀ z ∈ cmpA p l, singleD p z < 0) ∧ rising (cmpA p l) ∧ (∀ z ∈ cmpA p l, z ∈ l) ∧ ∀ x ∈ l, singleD p x = 0 ∨ ∃ z ∈ cmpA p l, singleD z x = 0
  | [], p, _, _, _ => by simp [cmpA, rising]
  | y :: l, p, hp, hl, h => by
    have hy := hl y (by simp)
    rw [List.pairwise_cons] at h
    obtain ⟨i1, i2, i3, i4⟩ := cmpA_spec hs l y hy (fun w hw => hl w (by simp [hw])) h.2
    have hyp := h.1 y (by simp)
    have an := single_anti y p
    simp only [cmpA, hs y p hy hp]
    split
    · rename_i h0
      have h0 : singleD y p = 0 := by simpa using h0
      refine ⟨fun z hz => (single_tr p y z).l2 (by omega) (i1 z hz), i2, fun z hz => by simp [i3 z hz], fun x hx => ?_⟩
      rcases List.mem_cons.1 hx with rfl | hx
      · exact .inl (by omega)
      · rcases i4 x hx with h1 | h1
        · exact .inl (by rw [(single_tr p y x).e1 (by omega)]; exact h1)
        · exact .inr h1
    · rename_i h0
      have h0 : ¬ singleD y p = 0 := by simpa using h0
      have hpy : singleD p y < 0 := by omega
      refine ⟨fun z hz => ?_, List.pairwise_cons.2 ⟨i1, i2⟩, fun z hz => ?_, fun x hx => ?_⟩
      · rcases List.mem_cons.1 hz with rfl | hz
        · exact hpy
        · exact (single_tr p y z).l1 hpy (by have := i1 z hz; omega)
      · rcases List.mem_cons.1 hz with rfl | hz
        · simp
        · simp [i3 z hz]
      · rcases List.mem_cons.1 hx with rfl | hx
        · exact .inr ⟨x, by simp, single_self x⟩
        · rcases i4 x hx with h1 | ⟨z, h1, h2⟩
          · exact .inr ⟨y, by simp, h1⟩
          · exact .inr ⟨z, by simp [h1], h2⟩
theorem cmpC_spec (hs : ∀ a b : D, one1 a = true → one1 b = true → ord0 a b = singleD a b) {l : List D} (hl : good1 l) (h : l.Pairwise (fun a b => ¬ singleD b a < 0)) : rising (cmpC l) ∧ (∀ z ∈ cmpC l, z ∈ l) ∧ ∀ x ∈ l, ∃ z ∈ cmpC l, singleD z x = 0 := by
  cases l with
  | nil => simp [cmpC, rising]
  | cons p l =>
    obtain ⟨i1, i2, i3, i4⟩ := cmpA_spec hs l p (hl p (by simp)) (fun w hw => hl w (by simp [hw])) h
    refine ⟨List.pairwise_cons.2 ⟨i1, i2⟩, fun z hz => ?_, fun x hx => ?_⟩
    · rcases List.mem_cons.1 hz with rfl | hz
      · simp
      · simp [i3 z hz]
    · rcases List.mem_cons.1 hx with rfl | hx
      · exact ⟨x, by simp [cmpC], single_self x⟩
      · rcases i4 x hx with h1 | ⟨z, h1, h2⟩
        · exact ⟨p, by simp [cmpC], h1⟩
        · exact ⟨z, by simp [cmpC, h1], h2⟩
theorem ord0_single {a b : D} (ha : one1 a = true) (hb : one1 b = true) : ord0 a b = singleD a b := ord_single ha hb f0
theorem cmpC_bag {xs ys : List D} (hx : good1 xs) (hp : ys.Perm xs) (h : ys.Pairwise (fun a b => ¬ ord0 b a < 0)) : (cmpC ys).map can = bagR xs := by
  have hy : good1 ys := fun y h => hx y (hp.mem_iff.1 h)
  have h' : ys.Pairwise (fun a b => ¬ singleD b a < 0) := h.imp_of_mem fun {a b} ha hb hab => by rw [← ord0_single (hy b hb) (hy a ha)]; exact hab
  obtain ⟨c1, c2, c3⟩ := cmpC_spec (fun a b ha hb => ord0_single ha hb) hy h'
  obtain ⟨b1, b2⟩ := bagR_spec hx
  refine rising_uniq _ _ ?_ b1 fun y => ?_
  · unfold rising at c1 ⊢
    rw [List.pairwise_map]
    exact c1.imp fun {a b} h => by rw [single_can]; exact h
  · rw [b2 y, List.mem_map]
    constructor
    · rintro ⟨z, hz, rfl⟩
      exact ⟨z, hp.mem_iff.1 (c2 z hz), rfl⟩
    · rintro ⟨x, hx', rfl⟩
      obtain ⟨z, hz, h0⟩ := c3 x (hp.mem_iff.2 hx')
      exact ⟨z, hz, (can_eq (hy z (c2 z hz)) (hx x hx')).1 h0⟩
def badB (xs : List D) (v : D) : Bool := (vk v == 0) || (vk v == 5) || (vk v != vk0 xs)
def bagV (xs : List D) : D × Int :=
  if xs.all formedV = false then (zeroV, 1) else if xs.any (badB xs) then (zeroV, 6) else
  if decide ((16 : Int) < (bagR xs).length) then (zeroV, 13) else (mkV 5 0 [] false (bagR xs), 0)
end GP
