import Derived.Test.YtjpbliffonimgaaProg
import Derived.Test.YtjpbliffonimgaaM5
import Derived.Test.YtjpbliffonimgaaM10
set_option linter.unusedSimpArgs false
set_option linter.unnecessarySimpa false
set_option linter.unusedSectionVars false
namespace GP
open Go Go.Proofs
open Rd O
set_option maxRecDepth 100000
def impH : List Nat := [14,16,20,21,23,27,28,62,64,96,103,1000003,39,73]
def c8h : C :=
  (.seq (.reg [⟨(some 5), none, .box (t 2)⟩, ⟨(some 6), none, .mv (k (.bool false))⟩])
  (.seq (.draw 0 [(⟨(some 17), none, .iarr 1 2 (t 5) (k (.int .i64 0))⟩, []), (⟨(some 18), none, .load false 1 (t 17)⟩, []), (⟨(some 19), none, .iarr 1 2 (t 5) (k (.int .i64 1))⟩, []), (⟨(some 20), none, .load false 1 (t 19)⟩, []), (⟨(some 7), none, .mv (t 18)⟩, []), (⟨(some 8), none, .mv (t 20)⟩, [])])
  (.seq (.seq (.reg [⟨(some 21), none, .call (k (.fn 14 [] [])) []⟩, ⟨(some 22), none, .un .not (t 21)⟩, ⟨(some 23), none, .mv (t 22)⟩, ⟨(some 24), (some (23, false)), .mv (t 0)⟩, ⟨(some 25), (some (23, false)), .mv (t 1)⟩, ⟨(some 26), (some (23, false)), .pcall (k (.fn 15 [] [])) [(t 24), (t 25), (k (.int .i64 60))]⟩, ⟨(some 27), (some (23, false)), .un .not (t 26)⟩, ⟨(some 28), none, .pick (t 23) (k (.bool true)) (t 27)⟩, ⟨(some 29), none, .mv (t 28)⟩, ⟨(some 30), (some (29, false)), .mv (t 7)⟩, ⟨(some 31), (some (29, false)), .lens (t 30)⟩, ⟨(some 32), (some (29, false)), .bin .gtr (t 31) (k (.int .i64 200))⟩, ⟨(some 33), none, .pick (t 29) (k (.bool true)) (t 32)⟩, ⟨(some 34), none, .mv (t 33)⟩, ⟨(some 35), (some (34, false)), .mv (t 8)⟩, ⟨(some 36), (some (34, false)), .lens (t 35)⟩, ⟨(some 37), (some (34, false)), .bin .gtr (t 36) (k (.int .i64 200))⟩, ⟨(some 38), none, .pick (t 34) (k (.bool true)) (t 37)⟩])
  (.cond (t 38)
  (.seq (.reg [⟨(some 39), none, .call (k (.fn 14 [] [])) []⟩, ⟨(some 6), none, .mv (t 39)⟩])
  .ret)
  .skip))
  (.seq (.reg [⟨(some 41), none, .mv (t 0)⟩, ⟨(some 42), none, .mv (t 1)⟩, ⟨(some 43), none, .call (k (.fn 16 [] [])) [(t 41), (t 42)]⟩, ⟨(some 40), none, .mv (t 43)⟩, ⟨(some 44), none, .ext 0 (t 40)⟩, ⟨(some 45), none, .ext 1 (t 40)⟩, ⟨(some 10), none, .alloc [.nils, .nils]⟩, ⟨(some 9), none, .mv (t 44)⟩, ⟨none, none, .store 2 (t 10) (t 45)⟩])
  (.seq (.draw 0 [(⟨(some 46), none, .mv (t 9)⟩, []), (⟨(some 47), none, .mv (t 7)⟩, []), (⟨(some 48), none, .mv (t 8)⟩, []), (⟨(some 49), none, .pcall (k (.fn 36 [] [])) [(t 46), (t 47), (t 48)]⟩, []), (⟨(some 50), none, .load true 2 (t 10)⟩, []), (⟨(some 51), none, .mv (t 7)⟩, []), (⟨(some 52), none, .mv (t 8)⟩, []), (⟨(some 53), none, .pcall (k (.fn 37 [] [])) [(t 50), (t 51), (t 52)]⟩, []), (⟨(some 11), none, .mv (t 49)⟩, []), (⟨(some 12), none, .mv (t 53)⟩, [])])
  (.seq (.seq (.reg [⟨(some 54), none, .mv (t 11)⟩, ⟨(some 55), none, .len (t 54)⟩, ⟨(some 56), none, .mv (t 12)⟩, ⟨(some 57), none, .len (t 56)⟩, ⟨(some 58), none, .bin .neq (t 55) (t 57)⟩])
  (.cond (t 58)
  (.seq (.reg [⟨(some 6), none, .mv (k (.bool false))⟩])
  .ret)
  .skip))
  (.seq (.seq (.reg [⟨(some 13), none, .mv (k (.int .i64 0))⟩])
  (.block 0
  (.loop
  (.seq (.seq (.reg [⟨(some 59), none, .mv (t 13)⟩, ⟨(some 60), none, .mv (t 11)⟩, ⟨(some 61), none, .len (t 60)⟩, ⟨(some 62), none, .bin .lss (t 59) (t 61)⟩])
  (.cond (t 62)
  .skip
  (.exit 0)))
  (.seq (.block 1
  (.seq (.draw 0 [(⟨(some 65), none, .mv (t 11)⟩, []), (⟨(some 66), none, .mv (t 13)⟩, []), (⟨(some 67), none, .iaddr 6 (t 65) (t 66)⟩, []), (⟨(some 68), none, .faddr 0 (t 67)⟩, []), (⟨(some 69), none, .load false 1 (t 68)⟩, []), (⟨(some 70), none, .mv (t 12)⟩, []), (⟨(some 71), none, .mv (t 13)⟩, []), (⟨(some 72), none, .iaddr 6 (t 70) (t 71)⟩, []), (⟨(some 73), none, .faddr 0 (t 72)⟩, []), (⟨(some 74), none, .load false 1 (t 73)⟩, []), (⟨(some 75), none, .bin .neq (t 69) (t 74)⟩, []), (⟨(some 76), none, .mv (t 75)⟩, []), (⟨(some 77), (some (76, false)), .mv (t 11)⟩, []), (⟨(some 78), (some (76, false)), .mv (t 13)⟩, []), (⟨(some 79), (some (76, false)), .iaddr 6 (t 77) (t 78)⟩, []), (⟨(some 80), (some (76, false)), .faddr 1 (t 79)⟩, []), (⟨(some 81), (some (76, false)), .load false 1 (t 80)⟩, []), (⟨(some 82), (some (76, false)), .mv (t 12)⟩, []), (⟨(some 83), (some (76, false)), .mv (t 13)⟩, []), (⟨(some 84), (some (76, false)), .iaddr 6 (t 82) (t 83)⟩, []), (⟨(some 85), (some (76, false)), .faddr 1 (t 84)⟩, []), (⟨(some 86), (some (76, false)), .load false 1 (t 85)⟩, []), (⟨(some 87), (some (76, false)), .bin .neq (t 81) (t 86)⟩, []), (⟨(some 88), none, .pick (t 76) (k (.bool true)) (t 87)⟩, []), (⟨(some 89), none, .mv (t 88)⟩, []), (⟨(some 90), (some (89, false)), .mv (t 11)⟩, []), (⟨(some 91), (some (89, false)), .mv (t 13)⟩, []), (⟨(some 92), (some (89, false)), .iaddr 6 (t 90) (t 91)⟩, []), (⟨(some 93), (some (89, false)), .faddr 2 (t 92)⟩, []), (⟨(some 94), (some (89, false)), .load true 4 (t 93)⟩, []), (⟨(some 95), (some (89, false)), .mv (t 12)⟩, []), (⟨(some 96), (some (89, false)), .mv (t 13)⟩, []), (⟨(some 97), (some (89, false)), .iaddr 6 (t 95) (t 96)⟩, []), (⟨(some 98), (some (89, false)), .faddr 2 (t 97)⟩, []), (⟨(some 99), (some (89, false)), .load true 4 (t 98)⟩, []), (⟨(some 100), (some (89, false)), .pcall (k (.fn 38 [] [])) [(t 94), (t 99)]⟩, []), (⟨(some 101), (some (89, false)), .un .not (t 100)⟩, []), (⟨(some 102), none, .pick (t 89) (k (.bool true)) (t 101)⟩, [])])
  (.cond (t 102)
  (.seq (.reg [⟨(some 6), none, .mv (k (.bool false))⟩])
  .ret)
  .skip)))
  (.reg [⟨(some 63), none, .mv (t 13)⟩, ⟨(some 64), none, .bin .add (t 63) (k (.int .i64 1))⟩, ⟨(some 13), none, .mv (t 64)⟩]))))))
  (.seq (.reg [⟨(some 103), none, .mv (t 9)⟩, ⟨(some 104), none, .mv (t 7)⟩, ⟨(some 105), none, .call (k (.fn 39 [] [])) [(t 103), (t 104)]⟩, ⟨(some 14), none, .mv (t 105)⟩])
  (.seq (.reg [⟨(some 15), none, .mv (k (.bool false))⟩])
  (.seq (.seq (.reg [⟨(some 16), none, .mv (k (.int .i64 0))⟩])
  (.block 2
  (.loop
  (.seq (.seq (.reg [⟨(some 106), none, .mv (t 16)⟩, ⟨(some 107), none, .mv (t 14)⟩, ⟨(some 108), none, .len (t 107)⟩, ⟨(some 109), none, .bin .lss (t 106) (t 108)⟩])
  (.cond (t 109)
  .skip
  (.exit 2)))
  (.seq (.block 3
  (.seq (.reg [⟨(some 112), none, .mv (t 15)⟩, ⟨(some 113), none, .mv (t 112)⟩, ⟨(some 114), (some (113, false)), .mv (t 14)⟩, ⟨(some 115), (some (113, false)), .mv (t 16)⟩, ⟨(some 116), (some (113, false)), .iaddr 1 (t 114) (t 115)⟩, ⟨(some 117), (some (113, false)), .load false 1 (t 116)⟩, ⟨(some 118), (some (113, false)), .mv (t 8)⟩, ⟨(some 119), (some (113, false)), .bin .eql (t 117) (t 118)⟩, ⟨(some 120), none, .pick (t 113) (k (.bool true)) (t 119)⟩, ⟨(some 15), none, .mv (t 120)⟩])
  (.seq (.draw 0 [(⟨(some 121), none, .load true 2 (t 10)⟩, []), (⟨(some 122), none, .mv (t 7)⟩, []), (⟨(some 123), none, .mv (t 14)⟩, []), (⟨(some 124), none, .mv (t 16)⟩, []), (⟨(some 125), none, .iaddr 1 (t 123) (t 124)⟩, []), (⟨(some 126), none, .load false 1 (t 125)⟩, []), (⟨(some 127), none, .pcall (k (.fn 37 [] [])) [(t 121), (t 122), (t 126)]⟩, []), (⟨(some 128), none, .len (t 127)⟩, []), (⟨(some 129), none, .bin .eql (t 128) (k (.int .i64 0))⟩, []), (⟨(some 130), none, .mv (t 129)⟩, []), (⟨(some 131), (some (130, false)), .mv (t 16)⟩, []), (⟨(some 132), (some (130, false)), .bin .gtr (t 131) (k (.int .i64 0))⟩, []), (⟨(some 133), (some (130, false)), .mv (t 132)⟩, []), (⟨(some 134), (some (133, true)), .mv (t 14)⟩, []), (⟨(some 135), (some (133, true)), .mv (t 16)⟩, []), (⟨(some 136), (some (133, true)), .bin .sub (t 135) (k (.int .i64 1))⟩, []), (⟨(some 137), (some (133, true)), .iaddr 1 (t 134) (t 136)⟩, []), (⟨(some 138), (some (133, true)), .load false 1 (t 137)⟩, []), (⟨(some 139), (some (133, true)), .mv (t 14)⟩, []), (⟨(some 140), (some (133, true)), .mv (t 16)⟩, []), (⟨(some 141), (some (133, true)), .iaddr 1 (t 139) (t 140)⟩, []), (⟨(some 142), (some (133, true)), .load false 1 (t 141)⟩, []), (⟨(some 143), (some (133, true)), .pcall (k (.fn 40 [] [])) [(t 138), (t 142)]⟩, []), (⟨(some 144), (some (133, true)), .bin .geq (t 143) (k (.int .i64 0))⟩, []), (⟨(some 145), (some (130, false)), .pick (t 133) (t 144) (k (.bool false))⟩, []), (⟨(some 146), none, .pick (t 130) (k (.bool true)) (t 145)⟩, [])])
  (.cond (t 146)
  (.seq (.reg [⟨(some 6), none, .mv (k (.bool false))⟩])
  .ret)
  .skip))))
  (.reg [⟨(some 110), none, .mv (t 16)⟩, ⟨(some 111), none, .bin .add (t 110) (k (.int .i64 1))⟩, ⟨(some 16), none, .mv (t 111)⟩]))))))
  (.seq (.reg [⟨(some 147), none, .mv (t 15)⟩, ⟨(some 148), none, .mv (t 12)⟩, ⟨(some 149), none, .len (t 148)⟩, ⟨(some 150), none, .bin .gtr (t 149) (k (.int .i64 0))⟩, ⟨(some 151), none, .eq1 .bool false (t 147) (t 150)⟩, ⟨(some 6), none, .mv (t 151)⟩])
  .ret)))))))))))
theorem fn8h : Fn Go.Proofs.Try.prog 8 152 [.inl 6] c8h :=
  ⟨⟨_, _, Go.Proofs.Try.func8, rfl, by kernel_rfl, Go.Proofs.Try.ntmps8, by kernel_rfl, ⟨fun f => impH.contains f, false, fun _ => false, false⟩, by kernel_rfl⟩⟩
def c39h : C :=
  (.seq (.reg [⟨(some 4), none, .mv (k .nils)⟩])
  (.seq (.reg [⟨(some 5), none, .mv (k .nils)⟩])
  (.seq (.seq (.reg [⟨(some 8), none, .mv (t 0)⟩, ⟨(some 9), none, .nilc (t 8)⟩, ⟨(some 10), none, .faddr 1 (t 9)⟩, ⟨(some 11), none, .load false 1 (t 10)⟩, ⟨(some 12), none, .len (t 11)⟩, ⟨(some 13), none, .mv (k (.int .i64 0))⟩])
  (.block 0
  (.loop
  (.seq (.reg [⟨(some 14), none, .bin .lss (t 13) (t 12)⟩])
  (.seq (.cond (t 14)
  .skip
  (.exit 0))
  (.seq (.block 1
  (.seq (.reg [⟨(some 15), none, .iaddr 7 (t 11) (t 13)⟩, ⟨(some 16), none, .load true 7 (t 15)⟩, ⟨(some 7), none, .alloc [(.str []), (.str []), (.str []), (.int .i64 0), (.int .i64 0), (.str []), .nils]⟩, ⟨none, none, .store 7 (t 7) (t 16)⟩])
  (.seq (.reg [⟨(some 17), none, .faddr 0 (t 7)⟩, ⟨(some 18), none, .load false 1 (t 17)⟩, ⟨(some 19), none, .mv (t 1)⟩, ⟨(some 20), none, .bin .eql (t 18) (t 19)⟩])
  (.cond (t 20)
  (.reg [⟨(some 21), none, .mv (t 5)⟩, ⟨(some 22), none, .faddr 1 (t 7)⟩, ⟨(some 23), none, .load false 1 (t 22)⟩, ⟨(some 24), none, .bslm false 1 [(t 23)]⟩, ⟨(some 25), none, .appm false false 1 16 (t 21) (t 24)⟩, ⟨(some 5), none, .mv (t 25)⟩])
  .skip))))
  (.reg [⟨(some 26), none, .bin .add (t 13) (k (.int .i64 1))⟩, ⟨(some 13), none, .mv (t 26)⟩])))))))
  (.seq (.reg [⟨(some 27), none, .mv (t 5)⟩, ⟨(some 28), none, .call (k (.fn 73 [] [])) [(t 27)]⟩, ⟨(some 4), none, .mv (t 28)⟩])
  .ret))))
theorem fn39h : Fn Go.Proofs.Try.prog 39 29 [.inl 4] c39h :=
  ⟨⟨_, _, Go.Proofs.Try.func39, rfl, by kernel_rfl, Go.Proofs.Try.ntmps39, by kernel_rfl, ⟨fun f => impH.contains f, true, fun _ => false, false⟩, by kernel_rfl⟩⟩
end GP
namespace GP
open Go Go.Proofs
set_option maxRecDepth 100000
variable [HasG Try.prog]
def nmS (w : List UInt8) (xs : List D) : List Sb := (xs.filter fun x => rwho x == w).map rname
theorem nmS_snoc {w : List UInt8} {xs : List D} {i : Nat} {x : D} (e : xs[i]? = some x) : nmS w (xs.take (i + 1)) = if (rwho x == w) = true then nmS w (xs.take i) ++ [rname x] else nmS w (xs.take i) := by
  unfold nmS
  rw [List.take_add_one, e, List.filter_append, List.map_append]
  cases h : (rwho x == w) <;> simp [h]
theorem nmS_len (w : List UInt8) (xs : List D) : (nmS w xs).length ≤ xs.length := by
  unfold nmS; rw [List.length_map]; exact List.length_filter_le _ _
set_option maxHeartbeats 8000000 in
theorem names39_snd {p : Nat} {S : List Nat} {f : D} {xs : List D} {w : List UInt8} {H : Hp} {T : Tk} {Q : Post} (h : StoS H p S f xs)
    (k0 : nmS w xs = [] → ∀ B, Ext H B → Q .nils B T)
    (k : ∀ B o c X, Ext H B → H.length ≤ o → B[o]? = some (.row ((Lib.compact (nmS w xs)).map D.str ++ X)) → (Lib.compact (nmS w xs)).length ≤ c → Q (.ms false 1 o 0 (Lib.compact (nmS w xs)).length c) B T) : Snd Try.prog 39 [.ptr p 0, .str w] H T Q := by
  have hX := XG_mono (P := Try.prog) [73] [] [] [] []
  refine call_of fn39h (by simp) (W_mono (X := XG Try.prog [73] [] [] [] []) (XG.X .nil .nil .nil .nil) (fun _ _ h => h) ?_)
  obtain ⟨oo, d, hoS, hp, hs⟩ := h.own
  have hag := rows_ag h.rws
  obtain ⟨od, cd, ed, okd, ldd⟩ := hs.cell
  have gp := rdAt_of hp
  have hsrc := hs.src hag
  have hxl := h.len
  simp +contextual (maxSteps := 10000000) only [c39h, gp, ld, List.take_zero, List.nil_append, List.drop_succ_cons, List.drop_zero, List.head?_cons, nilc_ptr, ldd, go_sem, W_draw]
  refine W_for (fun i s' => ∃ d5, s'.t 1 = .str w ∧ s'.t 5 = d5 ∧ s'.t 11 = d ∧ s'.t 12 = .int .i64 xs.length ∧ s'.t 13 = .int .i64 (i : Nat) ∧ Ext H s'.H ∧ s'.T = T ∧ OutS H.length s'.H d5 (nmS w (xs.take i)) ∧ i ≤ xs.length) xs.length
    ⟨0, .nils, by simp [upd, argT], by simp [upd], by simp [upd], by simp [upd], by simp [upd], Ext.refl _, rfl, .inl ⟨rfl, rfl⟩, by omega⟩ (fun i s h => by obtain ⟨_, h⟩ := h; exact h.2.2.2.2.2.2.2.2) ?_ hX
  rintro i ⟨t, B, U⟩ ⟨d5, r1, r5, r11, r12, r13, hE, rfl, hO, hi⟩
  simp only at r1 r5 r11 r12 r13 hE hO
  by_cases hlt : i < xs.length
  · have d1 : decide ((i : Int) < xs.length) = true := by simpa using hlt
    obtain ⟨x, hx⟩ : ∃ x, xs[i] = x := ⟨_, rfl⟩
    have e : xs[i]? = some x := by rw [← hx]; simp [hlt]
    have hxr := h.rws x (List.mem_of_getElem? e)
    obtain ⟨a, ha, hld⟩ := at_of hsrc okd h.rws e
    have hld := hld B (hle_ext hE)
    have hn := nmS_snoc (w := w) e
    have hnl := nmS_len w (xs.take i)
    rw [List.length_take] at hnl
    obtain ⟨r, rfl, hr⟩ := hxr
    have eL := hr.eL
    have hw : rwho (rwD r) = r.who := rfl
    have hnm : rname (rwD r) = r.name := rfl
    rw [hw, hnm] at hn
    simp only [rwD] at hld
    rcases tf (r.who == w) with c | c
    · rw [c] at hn
      rw [if_pos rfl] at hn
      have hsr : ∀ a, appSrcM (B ++ [a, Ob.row (flatD [D.str r.name])]) false 1 (.ms false 1 (B.length + 1) 0 1 1) = some [.str r.name] := fun a => by
        simp [appSrcM, flatD, D.cells]; rfl
      simp +contextual (maxSteps := 10000000) only [r1, r5, r11, r12, r13, d1, ha, hld, eL, c, hsr, go_sem, W_draw]
      refine (hO.ext (Ext.of _ _)).app (hE.app _) r.name (by omega) fun d2 B2 hO2 hE2 => ?_
      rw [← hn] at hO2
      simp +contextual (maxSteps := 10000000) only [r1, r5, r11, r12, r13, wrap_succ i (by omega), go_sem, W_draw]
      first | exact ⟨hE2, hO2, by omega⟩ | exact ⟨_, rfl, hE2, hO2, by omega⟩
    · rw [c] at hn
      rw [if_neg (by decide)] at hn
      simp +contextual (maxSteps := 10000000) only [r1, r5, r11, r12, r13, d1, ha, hld, eL, c, wrap_succ i (by omega), go_sem, W_draw]
      rw [hn]
      first | exact ⟨hE.app _, hO.ext (Ext.of _ _), by omega⟩ | exact ⟨_, rfl, hE.app _, hO.ext (Ext.of _ _), by omega⟩
  · have d1 : decide ((i : Int) < xs.length) = false := by simpa using hlt
    have ei : i = xs.length := by omega
    rw [ei, List.take_length] at hO
    simp +contextual (maxSteps := 10000000) only [r1, r5, r11, r12, r13, d1, XG_eq, go_sem, W_draw]
    rcases hO with ⟨rfl, h0⟩ | ⟨o, c, X, h1, rfl, h3, h4, h5⟩
    · refine compact_nil73 ?_
      simp +contextual (maxSteps := 10000000) only [go_sem, W_draw]
      exact k0 h0 _ hE
    · have hnl := nmS_len w xs
      refine compact_snd73 h3 (by omega) ?_
      simp +contextual (maxSteps := 10000000) only [go_sem, W_draw]
      have hlo := lt_get h3
      refine k _ o c (List.replicate ((nmS w xs).length - (Lib.compact (nmS w xs)).length) (.str []) ++ X) (hE.set h1 _) h1 ?_ (Nat.le_trans (Lib.compact_length_le _) h4)
      rw [List.getElem?_set_self hlo]
      simp [padS]
end GP
namespace GP
open Go Go.Proofs
set_option maxRecDepth 100000
variable [HasG Try.prog]
def keyN (w a : List UInt8) (x : D) : Bool := (rwho x == w) && (rname x == a)
def hasL (w a : List UInt8) (xs : List D) : List D := (xs.filter fun x => keyN w a x).map hadD
def hadW (w : List UInt8) (r : Rw) : D := .agg [.str w, .str r.attr, .int .i64 r.k, .int .i64 r.i, .str r.s, sliceD r.n r.l]
theorem hadD_w {w a : List UInt8} {r : Rw} (h : keyN w a (rwD r) = true) : hadD (rwD r) = hadW w r := by
  unfold keyN at h
  simp only [Bool.and_eq_true, beq_iff_eq] at h
  have : r.who = w := h.1
  rw [← this]; rfl
theorem hasL_snoc {w a : List UInt8} {xs : List D} {i : Nat} {x : D} (e : xs[i]? = some x) : hasL w a (xs.take (i + 1)) = if keyN w a x = true then hasL w a (xs.take i) ++ [hadD x] else hasL w a (xs.take i) := by
  unfold hasL
  rw [List.take_add_one, e, List.filter_append, List.map_append]
  cases h : keyN w a x <;> simp [h]
theorem hasL_len (w a : List UInt8) (xs : List D) : (hasL w a xs).length ≤ xs.length := by
  unfold hasL; rw [List.length_map]; exact List.length_filter_le _ _
theorem hasL_mem {w a : List UInt8} {xs : List D} (hx : ∀ x ∈ xs, isRw x) : ∀ y ∈ hasL w a xs, ∃ r : Rw, r.Ok ∧ y = hadW w r ∧ rwD r ∈ xs := fun y hy => by
  unfold hasL at hy
  obtain ⟨x, h1, rfl⟩ := List.mem_map.1 hy
  obtain ⟨h1, h2⟩ := List.mem_filter.1 h1
  obtain ⟨r, rfl, hr⟩ := hx x h1
  exact ⟨r, hr, hadD_w h2, h1⟩
theorem hasL_fit {w a : List UInt8} {xs : List D} (hx : ∀ x ∈ xs, isRw x) : (hasL w a xs).all (fit 6) = true := List.all_eq_true.2 fun y hy => by
  obtain ⟨r, _, rfl, _⟩ := hasL_mem hx y hy
  simp [fit, hadW, D.cells, D.okc]
theorem hasL_er {w a : List UInt8} {xs : List D} (hx : ∀ x ∈ xs, isRw x) : D.eraseL (hasL w a xs) = hasL w a xs := eraseL_id fun y hy => by
  obtain ⟨r, hr, rfl, _⟩ := hasL_mem hx y hy
  simp only [hadW, D.erase, D.eraseL, erase_sliceD, hr.eL]
theorem hadW_cl {w : List UInt8} {r : Rw} (h : r.Ok) : (hadW w r).cl 0 0 = true := by
  have h1 := isVs_cl (isVs_iff.2 (mkV_erase h.v.1).2.2.2)
  rcases sliceD_cases r.n r.l with ⟨e, _⟩ | e <;> simp [hadW, e, D.cl, D.clL, h1]
theorem clL_ofW : ∀ {l : List D}, (∀ x ∈ l, x.cl 0 0 = true) → D.clL 0 0 l = true
  | [], _ => rfl
  | x :: l, h => by
    have ih : D.clL 0 0 l = true := clL_ofW fun y hy => h y (List.mem_cons_of_mem _ hy)
    simp [D.clL, h x (by simp), ih]
theorem hasL_cl {w a : List UInt8} {xs : List D} (hx : ∀ x ∈ xs, isRw x) : (sliceD true (hasL w a xs)).cl 0 0 = true := by
  have h1 : D.clL 0 0 (hasL w a xs) = true := clL_ofW fun y hy => by
    obtain ⟨r, hr, rfl, _⟩ := hasL_mem hx y hy
    exact hadW_cl hr
  rcases sliceD_cases true (hasL w a xs) with ⟨e, _⟩ | e <;> rw [e] <;> simp [D.cl, h1]
theorem accT_Lg {sz : Nat} {T T' : Tk} {xs : List D} {d : D} (h : accT sz T xs d T') (hn : xs ≠ []) : Lg xs d := by
  rcases h.2 with ⟨h, _⟩ | ⟨i, _, rfl, _⟩
  · exact absurd h hn
  · exact .inr ⟨hn, _, rfl⟩
open Classical in
noncomputable def φ36 (H : Hp) : List D → Option D
  | [.ptr p 0, .str w, .str a] => match getRow H p with
    | some (_, d) => if d.okc = true ∧ d.cells = [d] ∧ d.erase = d then (match φ57 H [d] with
        | some rows => if isLs isRw rows ∧ (elems rows).length ≤ 2 ^ 29 then some (sliceD true (hasL w a (elems rows))) else none
        | none => none) else none
    | none => none
  | _ => none
theorem φ36_mono : Mo φ36 := by
  intro H H' a r hl h
  unfold φ36 at h ⊢
  split at h
  · split at h
    · rename_i e
      rw [getRow_mono hl e]
      simp only
      split at h
      · rename_i hc; rw [if_pos hc]
        split at h
        · rename_i e2
          rw [φ57_mono _ _ _ _ hl e2]
          exact h
        · cases h
      · cases h
    · cases h
  · cases h
set_option maxHeartbeats 4000000 in
theorem ok36 : OkAtH Try.prog 36 φ36 := by
  have hM : MonoH [(57, φ57)] := .cons φ57_mono .nil
  refine okH_of (l := []) (m := [(57, φ57)]) .nil (.cons ok57 .nil) fn36 fun H args rr h => ?_
  unfold φ36 at h
  split at h
  · rename_i p w a
    split at h
    · rename_i fs d e
      split at h
      · rename_i hc
        obtain ⟨h1, h2, h3⟩ := hc
        split at h
        · rename_i rows p57
          split at h
          · rename_i hv
            injection h with h; subst h
            obtain ⟨⟨n, xs, rfl, _, hx⟩, hl⟩ := hv
            rw [elems_sliceD] at hl ⊢
            refine ⟨by simp, hasL_cl hx, fun T => ?_⟩
            have gp := rdAt_of (getRow_row e)
            have exs := rows_er hx
            have lxs : lenD (sliceD n xs) = some xs.length := lenD_sliceD n xs
            simp +contextual (maxSteps := 10000000) only [c36, gp, ld, List.drop_succ_cons, List.drop_zero, List.head?_cons, nilc_ptr, h1, h2, h3, p57, exs, lxs, pcallH hM, lookH_cons, lookH_nil, orK_n, orK_s, go_sem, W_draw]
            refine W_for (fun i s' => ∃ d7, s'.t 1 = .str w ∧ s'.t 2 = .str a ∧ s'.t 7 = d7 ∧ s'.t 14 = sliceD n xs ∧ s'.t 15 = .int .i64 xs.length ∧ s'.t 16 = .int .i64 (i : Nat) ∧ Ext H s'.H ∧ accT 6 T (hasL w a (xs.take i)) d7 s'.T ∧ Lg (hasL w a (xs.take i)) d7 ∧ i ≤ xs.length) xs.length
              ⟨0, .nils, by simp [upd, argT], by simp [upd, argT], by simp [upd], by simp [upd], by simp [upd], by simp [upd], Ext.refl _, accT.nil 6 _ (ExtT.refl _), .inl ⟨rfl, rfl⟩, by omega⟩ (fun i s h => by obtain ⟨_, h⟩ := h; exact h.2.2.2.2.2.2.2.2.2) ?_ (XM_mono _ _)
            rintro i ⟨t, B, U⟩ ⟨d7, r1, r2, r7, r14, r15, r16, hE, hA, hG, hi⟩
            simp only at r1 r2 r7 r14 r15 r16 hE hA
            by_cases hlt : i < xs.length
            · have d1 : decide ((i : Int) < xs.length) = true := by simpa using hlt
              obtain ⟨r, hre, hr⟩ := hx _ (List.getElem_mem hlt)
              have e1 : xs[i]? = some (rwD r) := by rw [← hre]; simp [hlt]
              have hn := hasL_snoc (w := w) (a := a) e1
              have hnl := hasL_len w a (xs.take i)
              rw [List.length_take] at hnl
              have eL := hr.eL
              have e1' := e1
              simp only [rwD] at e1'
              rcases tf (r.who == w) with c1 | c1
              · rcases tf (r.name == a) with c2 | c2
                · have hk : keyN w a (rwD r) = true := by
                    show ((r.who == w) && (r.name == a)) = true
                    rw [c1, c2]; rfl
                  rw [if_pos hk, hadD_w hk] at hn
                  have hfit : [hadW w r].all (fit 6) = true := by simp [fit, hadW, D.cells, D.okc]
                  simp +contextual (maxSteps := 10000000) only [r1, r2, r7, r14, r15, r16, d1, e1', eL, c1, c2, go_sem, W_draw]
                  refine app_accT (xs := hasL w a (xs.take i)) [hadW w r] (hA.app _) hfit (hasL_fit fun x hx' => hx x (List.mem_of_mem_take hx')) (by simp; omega) (by simp; omega) fun d2 T2 hA2 => ?_
                  have hA2 : accT 6 T (hasL w a (xs.take i) ++ [hadW w r]) d2 T2 := hA2
                  rw [← hn] at hA2
                  have hG2 := accT_Lg hA2 (by rw [hn]; simp)
                  simp +contextual (maxSteps := 10000000) only [r1, r2, r7, r14, r15, r16, wrap_succ i (by omega), go_sem, W_draw]
                  first | exact ⟨hE.app _, hA2, hG2, by omega⟩ | exact ⟨_, rfl, hE.app _, hA2, hG2, by omega⟩
                · have hk : keyN w a (rwD r) = false := by
                    show ((r.who == w) && (r.name == a)) = false
                    rw [c1, c2]; rfl
                  rw [if_neg (by rw [hk]; decide)] at hn
                  simp +contextual (maxSteps := 10000000) only [r1, r2, r7, r14, r15, r16, d1, e1', eL, c1, c2, wrap_succ i (by omega), go_sem, W_draw]
                  rw [hn]
                  first | exact ⟨hE.app _, hA, hG, by omega⟩ | exact ⟨_, rfl, hE.app _, hA, hG, by omega⟩
              · have hk : keyN w a (rwD r) = false := by
                  show ((r.who == w) && (r.name == a)) = false
                  rw [c1]; rfl
                rw [if_neg (by rw [hk]; decide)] at hn
                simp +contextual (maxSteps := 10000000) only [r1, r2, r7, r14, r15, r16, d1, e1', eL, c1, wrap_succ i (by omega), go_sem, W_draw]
                rw [hn]
                first | exact ⟨hE.app _, hA, hG, by omega⟩ | exact ⟨_, rfl, hE.app _, hA, hG, by omega⟩
            · have d1 : decide ((i : Int) < xs.length) = false := by simpa using hlt
              have ei : i = xs.length := by omega
              rw [ei, List.take_length] at hA hG
              simp +contextual (maxSteps := 10000000) only [r1, r2, r7, r14, r15, r16, d1, leaves_E hE hA.1, hG.er (hasL_er hx), go_sem, W_draw]
          · cases h
        · cases h
      · cases h
    · cases h
  · cases h
open Classical in
noncomputable def φ37 : List D → Option D
  | [.agg [fs, rows], .str w, .str a] => if isLs isF fs ∧ isLs isRw rows ∧ (elems rows).length ≤ 2 ^ 29 ∧ Ord.Dis ordD (elems rows) then some (sliceD true (hasL w a (Ord.sorted ordD (elems rows)))) else none
  | _ => none
set_option maxHeartbeats 4000000 in
theorem ok37 : OkAt Try.prog 37 φ37 := by
  refine ok_of (l := [(25, φ25)]) (.cons ok25 .nil) fn37 fun args rr h => ?_
  unfold φ37 at h
  split at h
  · rename_i fs rows w a
    split at h
    · rename_i hv
      obtain ⟨hf, hrs, hl, hd⟩ := hv
      have hrs' := hrs
      obtain ⟨n, ms, rfl, _, hx0⟩ := hrs
      injection h with h; subst h
      rw [elems_sliceD] at hl hd ⊢
      have p25 : φ25 [.agg [fs, sliceD n ms]] = some (sliceD true (Ord.sorted ordD ms)) := by
        simp only [φ25]
        rw [if_pos ⟨hf, hrs', by rw [elems_sliceD]; omega, by rw [elems_sliceD]; exact hd⟩, elems_sliceD]
      have hsl := sorted_len hd
      have hx : ∀ x ∈ Ord.sorted ordD ms, isRw x := fun x h => hx0 x ((sorted_mem hd x).1 h)
      obtain ⟨xs, hxs⟩ : ∃ xs, Ord.sorted ordD ms = xs := ⟨_, rfl⟩
      rw [hxs] at p25 hsl hx ⊢
      refine ⟨by simp, hasL_cl hx, fun H T => ?_⟩
      obtain ⟨ef, of, cf⟩ := isF_lc hf
      have em := rows_er hx0
      have exs := rows_er hx
      have lxs : lenD (sliceD true xs) = some xs.length := lenD_sliceD true xs
      have ocm : (sliceD n ms).okc = true ∧ (sliceD n ms).cells = [sliceD n ms] := by
        rcases sliceD_cases n ms with ⟨e, _⟩ | e <;> rw [e] <;> exact ⟨rfl, rfl⟩
      obtain ⟨om, cm⟩ := ocm
      simp +contextual (maxSteps := 10000000) only [c37, ef, of, cf, em, om, cm, p25, exs, lxs, go_sem, W_draw]
      refine W_for (fun i s' => ∃ d7, s'.t 1 = .str w ∧ s'.t 2 = .str a ∧ s'.t 7 = d7 ∧ s'.t 8 = sliceD true xs ∧ s'.t 9 = .int .i64 (i : Nat) ∧ Ext H s'.H ∧ accT 6 T (hasL w a (xs.take i)) d7 s'.T ∧ Lg (hasL w a (xs.take i)) d7 ∧ i ≤ xs.length) xs.length
        ⟨0, .nils, by simp [upd, argT], by simp [upd, argT], by simp [upd], by simp [upd], by simp [upd], Ext.of _ _, accT.nil 6 _ (ExtT.refl _), .inl ⟨rfl, rfl⟩, by omega⟩ (fun i s h => by obtain ⟨_, h⟩ := h; exact h.2.2.2.2.2.2.2.2) ?_ (XL_mono _)
      rintro i ⟨t, B, U⟩ ⟨d7, r1, r2, r7, r8, r9, hE, hA, hG, hi⟩
      simp only at r1 r2 r7 r8 r9 hE hA
      by_cases hlt : i < xs.length
      · have d1 : decide ((i : Int) < xs.length) = true := by simpa using hlt
        obtain ⟨r, hre, hr⟩ := hx _ (List.getElem_mem hlt)
        have e1 : xs[i]? = some (rwD r) := by rw [← hre]; simp [hlt]
        have hn := hasL_snoc (w := w) (a := a) e1
        have hnl := hasL_len w a (xs.take i)
        rw [List.length_take] at hnl
        have eL := hr.eL
        have e1' := e1
        simp only [rwD] at e1'
        rcases tf (r.who == w) with c1 | c1
        · rcases tf (r.name == a) with c2 | c2
          · have hk : keyN w a (rwD r) = true := by
              show ((r.who == w) && (r.name == a)) = true
              rw [c1, c2]; rfl
            rw [if_pos hk, hadD_w hk] at hn
            have hfit : [hadW w r].all (fit 6) = true := by simp [fit, hadW, D.cells, D.okc]
            simp +contextual (maxSteps := 10000000) only [r1, r2, r7, r8, r9, lxs, d1, e1', eL, c1, c2, go_sem, W_draw]
            refine app_accT (xs := hasL w a (xs.take i)) [hadW w r] hA hfit (hasL_fit fun x hx' => hx x (List.mem_of_mem_take hx')) (by simp; omega) (by simp; omega) fun d2 T2 hA2 => ?_
            have hA2 : accT 6 T (hasL w a (xs.take i) ++ [hadW w r]) d2 T2 := hA2
            rw [← hn] at hA2
            have hG2 := accT_Lg hA2 (by rw [hn]; simp)
            simp +contextual (maxSteps := 10000000) only [r1, r2, r7, r8, r9, wrap_succ i (by omega), go_sem, W_draw]
            first | exact ⟨hE, hA2, hG2, by omega⟩ | exact ⟨_, rfl, hE, hA2, hG2, by omega⟩
          · have hk : keyN w a (rwD r) = false := by
              show ((r.who == w) && (r.name == a)) = false
              rw [c1, c2]; rfl
            rw [if_neg (by rw [hk]; decide)] at hn
            simp +contextual (maxSteps := 10000000) only [r1, r2, r7, r8, r9, lxs, d1, e1', eL, c1, c2, wrap_succ i (by omega), go_sem, W_draw]
            rw [hn]
            first | exact ⟨hE, hA, hG, by omega⟩ | exact ⟨_, rfl, hE, hA, hG, by omega⟩
        · have hk : keyN w a (rwD r) = false := by
            show ((r.who == w) && (r.name == a)) = false
            rw [c1]; rfl
          rw [if_neg (by rw [hk]; decide)] at hn
          simp +contextual (maxSteps := 10000000) only [r1, r2, r7, r8, r9, lxs, d1, e1', eL, c1, wrap_succ i (by omega), go_sem, W_draw]
          rw [hn]
          first | exact ⟨hE, hA, hG, by omega⟩ | exact ⟨_, rfl, hE, hA, hG, by omega⟩
      · have d1 : decide ((i : Int) < xs.length) = false := by simpa using hlt
        have ei : i = xs.length := by omega
        rw [ei, List.take_length] at hA hG
        simp +contextual (maxSteps := 10000000) only [r1, r2, r7, r8, r9, lxs, d1, leaves_E hE hA.1, hG.er (hasL_er hx), go_sem, W_draw]
    · cases h
  · cases h
end GP
namespace GP
open Go Go.Proofs
set_option maxRecDepth 100000
variable [HasG Try.prog]
theorem cmpS_lt : ∀ {a b : Sb}, a < b → cmpS a b = -1
  | [], [], h => absurd h (List.lt_irrefl _)
  | [], _ :: _, _ => rfl
  | _ :: _, [], h => absurd h (by simp)
  | x :: a, y :: b, h => by
    rw [List.cons_lt_cons_iff] at h
    unfold cmpS
    rcases h with h | ⟨rfl, h⟩
    · rw [UInt8.lt_iff_toNat_lt] at h
      rw [if_pos h]
    · rw [if_neg (by omega), if_neg (by omega)]
      exact cmpS_lt h
def nmC (w : List UInt8) (xs : List D) : List Sb := Lib.compact (nmS w xs)
theorem nmC_mem (w : List UInt8) (xs : List D) (s : Sb) : s ∈ nmC w xs ↔ ∃ x ∈ xs, rwho x = w ∧ rname x = s := by
  unfold nmC nmS
  rw [cm_mem, List.mem_map]
  constructor
  · rintro ⟨x, h, rfl⟩
    obtain ⟨h1, h2⟩ := List.mem_filter.1 h
    exact ⟨x, h1, by simpa using h2, rfl⟩
  · rintro ⟨x, h1, h2, h3⟩
    exact ⟨x, List.mem_filter.2 ⟨h1, by simpa using h2⟩, h3⟩
theorem nmC_rise {w : List UInt8} {xs : List D} (h : Ris ordD xs) : (nmC w xs).Pairwise (· < ·) := by
  refine cm_rise ?_
  unfold nmS
  rw [List.pairwise_map]
  refine (List.Pairwise.filter _ h).imp_of_mem fun {x y} hx hy hlt => ?_
  have h1 : rwho x = w := by simpa using (List.mem_filter.1 hx).2
  have h2 : rwho y = w := by simpa using (List.mem_filter.1 hy).2
  refine List.not_lt.1 fun hc => ?_
  have h3 := cmpS_lt hc
  have h4 := cmpS_anti (rname y) (rname x)
  rw [h3] at h4
  unfold ordD or3 at hlt
  rw [h1, h2, cmpS_self, h4] at hlt
  simp at hlt
theorem lt_getA {α : Type} {l : List α} {i : Nat} {x : α} (h : l[i]? = some x) : i < l.length := by
  rcases Nat.lt_or_ge i l.length with h' | h'
  · exact h'
  · rw [List.getElem?_eq_none h'] at h; cases h
theorem nmC_at {w : List UInt8} {xs : List D} (h : Ris ordD xs) {i : Nat} {a b : Sb} (ha : (nmC w xs)[i]? = some a) (hb : (nmC w xs)[i + 1]? = some b) : cmpS a b = -1 := by
  have hi : i < (nmC w xs).length := lt_getA ha
  have hj : i + 1 < (nmC w xs).length := lt_getA hb
  rw [List.getElem?_eq_getElem hi] at ha
  rw [List.getElem?_eq_getElem hj] at hb
  injection ha with ha; injection hb with hb
  have := List.pairwise_iff_getElem.1 (nmC_rise (w := w) h) i (i + 1) hi hj (by omega)
  rw [ha, hb] at this
  exact cmpS_lt this
theorem hasL_ne {w a : List UInt8} {xs : List D} : (∃ x ∈ xs, rwho x = w ∧ rname x = a) ↔ hasL w a xs ≠ [] := by
  unfold hasL
  constructor
  · rintro ⟨x, h1, h2, h3⟩ h
    rw [List.map_eq_nil_iff, List.filter_eq_nil_iff] at h
    refine h x h1 ?_
    simp [keyN, h2, h3]
  · intro h
    obtain ⟨y, hy⟩ := List.exists_mem_of_ne_nil _ h
    obtain ⟨x, hx, _⟩ := List.mem_map.1 hy
    obtain ⟨h1, h2⟩ := List.mem_filter.1 hx
    unfold keyN at h2
    simp only [Bool.and_eq_true, beq_iff_eq] at h2
    exact ⟨x, h1, h2⟩
theorem seen_eq (w a : List UInt8) (xs : List D) : (nmC w xs).any (fun s => s == a) = decide ((0 : Int) < ((hasL w a xs).length : Int)) := by
  rw [Bool.eq_iff_iff, List.any_eq_true, decide_eq_true_eq]
  constructor
  · rintro ⟨s, hs, h⟩
    have : s = a := by simpa using h
    subst this
    have := List.length_pos_iff.2 (hasL_ne.1 ((nmC_mem w xs s).1 hs))
    omega
  · intro h
    have : hasL w a xs ≠ [] := List.length_pos_iff.1 (by omega)
    exact ⟨a, (nmC_mem w xs a).2 (hasL_ne.2 this), by simp⟩
theorem StoS.has {H : Hp} {p : Nat} {S : List Nat} {fs : D} {xs : List D} (h : StoS H p S fs xs) (w a : List UInt8) : φ36 H [.ptr p 0, .str w, .str a] = some (sliceD true (hasL w a xs)) := by
  obtain ⟨o, d, _, hp, hs⟩ := h.own
  obtain ⟨od, cd, ed, okd, _⟩ := hs.cell
  have hg : getRow H p = some (fs, d) := by unfold getRow; rw [hp]
  have hl := h.len
  have h57 : φ57 H [d] = some (frzD d xs) := by
    simp only [φ57, hs.src (rows_ag h.rws)]
    rw [if_pos ⟨h.rws, by omega, okd⟩]
  obtain ⟨n, hn⟩ : ∃ n, frzD d xs = sliceD n xs := by
    rcases hs with ⟨rfl, rfl⟩ | ⟨c, X, rfl, _⟩
    · exact ⟨true, rfl⟩
    · exact ⟨false, by simp [frzD, sliceD]⟩
  rw [hn] at h57
  simp only [φ36, hg]
  rw [if_pos ⟨od, cd, ed⟩, h57]
  simp only
  rw [if_pos ⟨⟨n, xs, rfl, by omega, h.rws⟩, by rw [elems_sliceD]; omega⟩, elems_sliceD]
theorem names39b {p : Nat} {S : List Nat} {f : D} {xs : List D} {w : List UInt8} {H : Hp} {T : Tk} {Q : Post} (h : StoS H p S f xs)
    (k : ∀ B d, Ext H B → d.okc = true → d.cells = [d] → lenD d = some (nmC w xs).length → (∀ (i : Nat) s, (nmC w xs)[i]? = some s → ∃ a, ia 1 d (.int .i64 (i : Int)) = some a ∧ ld false 1 (rdAt B a) = some (.str s)) → Q d B T) : Snd Try.prog 39 [.ptr p 0, .str w] H T Q :=
  names39_snd h (fun h0 B hE => k B .nils hE rfl rfl (by unfold nmC; rw [h0]; rfl) (fun i s hs => by unfold nmC at hs; rw [h0] at hs; simp [Lib.compact, Lib.compactUpTo] at hs))
    fun B o c X hE ho hb hc => k B _ hE rfl rfl rfl fun i s hs => by
      have hi := lt_getA hs
      have hi' : i < (Lib.compact (nmS w xs)).length := hi
      refine ⟨.ptr o i, ?_, ?_⟩
      · simp [ia]; omega
      · have : (B[o]? : Option Ob) = some (.row ((Lib.compact (nmS w xs)).map D.str ++ X)) := hb
        simp only [rdAt, this]
        have e : ((Lib.compact (nmS w xs)).map D.str ++ X)[i]? = some (.str s) := by
          rw [List.getElem?_append_left (by simpa using hi'), List.getElem?_map]
          have hs' : (Lib.compact (nmS w xs))[i]? = some s := hs
          rw [hs']; rfl
        simp only [ld]
        show List.head? _ = _
        rw [List.head?_drop, e]
end GP
namespace GP
open Go Go.Proofs
set_option maxRecDepth 100000
variable [HasG Try.prog]
theorem isLs_okc {p : D → Prop} {d : D} (h : isLs p d) : d.okc = true ∧ d.cells = [d] := by
  obtain ⟨n, l, rfl, _⟩ := h
  rcases sliceD_cases n l with ⟨e, _⟩ | e <;> rw [e] <;> exact ⟨rfl, rfl⟩
end GP
namespace GP
open Go Go.Proofs
set_option maxRecDepth 100000
variable [HasG Try.prog]
set_option maxHeartbeats 16000000 in
theorem main8 {n nf : Bool} {ops fl : List D} {w a : List UInt8} (hwl : w.length ≤ 2 ^ 47) (hal0 : a.length ≤ 2 ^ 47) (ho : ∀ x ∈ ops, isO x) (hol : ops.length ≤ 2 ^ 47) (hfl : ∀ x ∈ fl, isF x) (hfll : fl.length ≤ 2 ^ 47) {H : Hp} {T : Tk} {Q : Post} (hQ : ∀ B U, Q (.bool true) B U) :
    W (Snd Try.prog) c8h (endQ [.inl 6] Q) ⟨argT [sliceD nf fl, sliceD n ops, .agg [.str w, .str a]], H, T⟩ := by
  have hM : MonoH [(36, φ36)] := .cons φ36_mono .nil
  have hX := XG_mono (P := Try.prog) [14, 16, 39] [(15, φ15), (37, φ37), (38, φSame), (40, φTexts)] [(36, φ36)] [] []
  refine W_mono (X := XG Try.prog [14, 16, 39] [(15, φ15), (37, φ37), (38, φSame), (40, φTexts)] [(36, φ36)] [] []) (XG.X (.cons ok15 (.cons ok37 (.cons ok38 (.cons ok40 .nil)))) (.cons ok36 .nil) .nil .nil) (fun _ _ h => h) ?_
  have hF0 : isLs isF (sliceD nf fl) := ⟨nf, fl, rfl, hfll, hfl⟩
  have ef0 : D.eraseL fl = fl := eraseL_id fun x h => isF_erase (hfl x h)
  have eo : D.eraseL ops = ops := eraseL_id fun x h => isO_erase (ho x h)
  have p15 : φ15 [sliceD nf fl, sliceD n ops, .int .i64 60] = some (.bool (fewS fl ops 60)) := by
    simp only [φ15]
    rw [if_pos ⟨hF0, n, ops, rfl, hol, ho⟩, elems_sliceD, elems_sliceD]
  simp +contextual (maxSteps := 10000000) only [c8h, XG_eq, go_sem, W_draw]
  obtain ⟨H0, hH0⟩ : ∃ H0, H ++ [Ob.row [D.str w, D.str a]] = H0 := ⟨_, rfl⟩
  rw [hH0]
  refine awake_snd fun B U hE => ?_
  rcases tfB (fewS fl ops 60) with hf | hf
  · rw [hf] at p15
    simp +contextual (maxSteps := 10000000) only [p15, ef0, eo, XG_eq, pcallG hM, lookH_cons, lookH_nil, orK_n, orK_s, go_sem, W_draw]
    refine awake_snd fun B U hE => ?_
    simp +contextual (maxSteps := 10000000) only [go_sem, W_draw]
    exact hQ _ _
  rw [hf] at p15
  obtain ⟨hol2, hfl2, hfo⟩ := few_ops (by omega) hf
  rcases tf (decide ((200 : Int) < (w.length : Int))) with hg | hg
  · simp +contextual (maxSteps := 10000000) only [p15, ef0, eo, hg, XG_eq, pcallG hM, lookH_cons, lookH_nil, orK_n, orK_s, go_sem, W_draw]
    refine awake_snd fun B U hE => ?_
    simp +contextual (maxSteps := 10000000) only [go_sem, W_draw]
    exact hQ _ _
  rcases tf (decide ((200 : Int) < (a.length : Int))) with hga | hga
  · simp +contextual (maxSteps := 10000000) only [p15, ef0, eo, hg, hga, XG_eq, pcallG hM, lookH_cons, lookH_nil, orK_n, orK_s, go_sem, W_draw]
    refine awake_snd fun B U hE => ?_
    simp +contextual (maxSteps := 10000000) only [go_sem, W_draw]
    exact hQ _ _
  simp +contextual (maxSteps := 10000000) only [p15, ef0, eo, hg, hga, XG_eq, pcallG hM, lookH_cons, lookH_nil, orK_n, orK_s, go_sem, W_draw]
  refine made_snd ho (by omega) hfl hfl2 hfo fun B2 p S rD m U2 hst hb hE2 hrd hrm hal hfw => ?_
  obtain ⟨f, hff⟩ : ∃ f, sliceD true (fl.map kindF) = f := ⟨_, rfl⟩
  obtain ⟨xs, hxs⟩ : ∃ xs, runX (fl.map kindF) ops = xs := ⟨_, rfl⟩
  rw [hff, hxs] at hst
  rw [hxs] at hal hfw
  rw [hff]
  obtain ⟨or, cr⟩ := isLs_okc hrd
  obtain ⟨ef, of, cf⟩ := isF_lc hst.hF
  have er : rD.erase = rD := isLs_erase (fun _ => isRw_erase) hrd
  have hsort := hal.sorted ordD_ord
  have hml : m.length ≤ 120 := by rw [← hal.len ordD_ord]; exact hst.len
  have p37 : ∀ b, φ37 [.agg [f, rD], .str w, .str b] = some (sliceD true (hasL w b xs)) := fun b => by
    simp only [φ37]
    rw [if_pos ⟨hst.hF, hrd, by rw [hrm]; omega, by rw [hrm]; exact hal.dis⟩, hrm, hsort]
  have hst2 := hst.fr (Fr.ext [] (Ext.of B2 [Ob.row [f, rD]])) (by simp)
  have bw : (B2 ++ [Ob.row [f, rD]])[B2.length]? = some (.row [f, rD]) := by simp
  obtain ⟨z, hz⟩ : ∃ z, B2.length = z := ⟨_, rfl⟩
  rw [hz] at bw
  obtain ⟨C, hC⟩ : ∃ C, B2 ++ [Ob.row [f, rD]] = C := ⟨_, rfl⟩
  rw [hC] at bw hst2
  have gz := rdAt_of bw
  have p36 := hst2.has w a
  obtain ⟨L, hL⟩ : ∃ L, hasL w a xs = L := ⟨_, rfl⟩
  have lL : lenD (sliceD true L) = some L.length := lenD_sliceD true L
  have p37a := p37 a
  have eL := hasL_er (w := w) (a := a) hst.rws
  have memL := hasL_mem (w := w) (a := a) hst.rws
  rw [hL] at p36 p37a eL memL
  have hxl := hst.len
  simp +contextual (maxSteps := 10000000) only [of, cf, or, cr, XG_eq, go_sem, W_draw]
  rw [hz, hC]
  simp +contextual (maxSteps := 10000000) only [gz, ld, List.drop_zero, List.length_cons, List.length_nil, List.take_succ_cons, List.take_zero, ef, er, p36, p37a, eL, lL, XG_eq, pcallG hM, lookH_cons, lookH_nil, orK_n, orK_s, go_sem, W_draw]
  refine W_for (fun i s' => s'.t 7 = .str w ∧ s'.t 8 = .str a ∧ s'.t 9 = .ptr p 0 ∧ s'.t 10 = .ptr z 0 ∧ s'.t 11 = sliceD true L ∧ s'.t 12 = sliceD true L ∧ s'.t 13 = .int .i64 (i : Nat) ∧ Ext C s'.H ∧ i ≤ L.length) L.length
    ⟨0, by simp [upd], by simp [upd], by simp [upd], by simp [upd], by simp [upd], by simp [upd], by simp [upd], Ext.refl _, by omega⟩ (fun i s h => h.2.2.2.2.2.2.2.2) ?_ hX
  rintro i ⟨t, B3, U3⟩ ⟨r7, r8, r9, r10, r11, r12, r13, hE3, hi⟩
  simp only at r7 r8 r9 r10 r11 r12 r13 hE3
  have hLl : L.length ≤ 120 := by rw [← hL]; exact Nat.le_trans (hasL_len w a xs) hxl
  by_cases hlt : i < L.length
  · have d1 : decide ((i : Int) < L.length) = true := by simpa using hlt
    obtain ⟨r, hr, hy, hmem⟩ := memL _ (List.getElem_mem hlt)
    have e1 : L[i]? = some (hadW w r) := by rw [← hy]; simp [hlt]
    have hfew : few1 r.v = true := hfw _ hmem
    have psame : φSame [.agg [.int .i64 r.k, .int .i64 r.i, .str r.s, sliceD r.n r.l], .agg [.int .i64 r.k, .int .i64 r.i, .str r.s, sliceD r.n r.l]] = some (.bool true) := by
      simp only [φSame]
      have h1 : (D.agg [.int .i64 r.k, .int .i64 r.i, .str r.s, sliceD r.n r.l]).isV = true := hr.v.1
      rw [if_pos ⟨h1, h1⟩]
      have h2 : sameB (D.agg [.int .i64 r.k, .int .i64 r.i, .str r.s, sliceD r.n r.l]) (D.agg [.int .i64 r.k, .int .i64 r.i, .str r.s, sliceD r.n r.l]) = true := same_refl hfew
      rw [h2]
    have erL := hr.eL
    simp only [hadW] at e1
    have b1 : (w != w) = false := by simp
    have b2 : (r.attr != r.attr) = false := by simp
    simp +contextual (maxSteps := 10000000) only [r7, r8, r9, r10, r11, r12, r13, lL, d1, e1, erL, psame, b1, b2, XG_eq, pcallG hM, lookH_cons, lookH_nil, orK_n, orK_s, wrap_succ i (by omega), go_sem, W_draw]
    exact ⟨hE3, by omega⟩
  · have d1 : decide ((i : Int) < L.length) = false := by simpa using hlt
    have ei : i = L.length := by omega
    simp +contextual (maxSteps := 10000000) only [r7, r8, r9, r10, r11, r12, r13, lL, d1, XG_eq, go_sem, W_draw]
    refine names39b (hst2.fr (Fr.ext [] hE3) (by simp)) fun B4 d14 hE4 od cd ld14 hat => ?_
    obtain ⟨N, hN⟩ : ∃ N, nmC w xs = N := ⟨_, rfl⟩
    have hNl : N.length ≤ 120 := by
      rw [← hN]; unfold nmC
      exact Nat.le_trans (Lib.compact_length_le _) (Nat.le_trans (nmS_len w xs) hxl)
    have hseen := seen_eq w a xs
    have hmem := nmC_mem w xs
    have hrise := fun i a b => nmC_at (w := w) hst.ris (i := i) (a := a) (b := b)
    rw [hN] at ld14 hat hseen hmem hrise
    rw [hL] at hseen
    simp +contextual (maxSteps := 10000000) only [od, cd, go_sem, W_draw]
    refine W_for (fun i s' => s'.t 7 = .str w ∧ s'.t 8 = .str a ∧ s'.t 10 = .ptr z 0 ∧ s'.t 12 = sliceD true L ∧ s'.t 14 = d14 ∧ s'.t 15 = .bool ((N.take i).any fun s => s == a) ∧ s'.t 16 = .int .i64 (i : Nat) ∧ s'.H = B4 ∧ i ≤ N.length) N.length
      ⟨0, by simp [upd, r7], by simp [upd, r8], by simp [upd, r10], by simp [upd, r12], by simp [upd], by simp [upd], by simp [upd], rfl, by omega⟩ (fun i s h => h.2.2.2.2.2.2.2.2) ?_ hX
    clear r7 r8 r9 r10 r11 r12 r13
    rintro j ⟨t, B5, U5⟩ ⟨r7, r8, r10, r12, r14, r15, r16, rfl, hj⟩
    simp only at r7 r8 r10 r12 r14 r15 r16
    by_cases hlj : j < N.length
    · have d2 : decide ((j : Int) < N.length) = true := by simpa using hlj
      obtain ⟨s, hs⟩ : ∃ s, N[j]? = some s := ⟨_, List.getElem?_eq_getElem hlj⟩
      obtain ⟨x, hx, hxw, hxn⟩ := (hmem s).1 (List.mem_of_getElem? hs)
      have hne := hasL_ne.1 ⟨x, hx, hxw, hxn⟩
      obtain ⟨aj, ha1, ha2⟩ := hat j s hs
      have bz := hE4.get (hE3.get bw)
      have gz4 := rdAt_of bz
      have hldz : ld true 2 (rdAt B5 (.ptr z 0)) = some (.agg [f, rD]) := by rw [gz4 0]; rfl
      have p37s := p37 s
      have lS : lenD (sliceD true (hasL w s xs)) = some (hasL w s xs).length := lenD_sliceD true _
      have esl : (sliceD true (hasL w s xs)).erase = sliceD true (hasL w s xs) := by rw [erase_sliceD, hasL_er hst.rws]
      have hz0 : (((hasL w s xs).length : Int) == 0) = false := by
        have := List.length_pos_iff.2 hne
        rw [beq_eq_false_iff_ne]; omega
      have hany : ((N.take (j + 1)).any fun s => s == a) = (((N.take j).any fun s => s == a) || (s == a)) := by
        rw [List.take_add_one, hs, List.any_append]; simp
      obtain ⟨sb, hsb⟩ : ∃ b, ((N.take j).any fun s => s == a) = b := ⟨_, rfl⟩
      rw [hsb] at hany r15
      obtain ⟨se, hse⟩ : ∃ b, (s == a) = b := ⟨_, rfl⟩
      rw [hse] at hany
      rcases Nat.eq_zero_or_pos j with hj0 | hj0
      · have d3 : decide ((0 : Int) < (j : Int)) = false := by simp; omega
        cases sb <;> cases se <;> (simp +contextual (maxSteps := 10000000) only [r7, r8, r10, r12, r14, r15, r16, ld14, d2, d3, ha1, ha2, hse, hldz, ef, er, of, cf, or, cr, p37s, lS, esl, hz0, XG_eq, pcallG hM, lookH_cons, lookH_nil, orK_n, orK_s, wrap_succ j (by omega), go_sem, W_draw]; rw [hany]; exact ⟨rfl, by omega⟩)
      · obtain ⟨s0, hs0⟩ : ∃ s, N[j - 1]? = some s := ⟨_, List.getElem?_eq_getElem (by omega)⟩
        obtain ⟨a0, hb1, hb2⟩ := hat (j - 1) s0 hs0
        have hcmp := hrise (j - 1) s0 s hs0 (by rw [Nat.sub_add_cancel hj0]; exact hs)
        have hln : ∀ s, s ∈ N → s.length ≤ 2 ^ 47 := fun s hs => by
          obtain ⟨x, hx, _, rfl⟩ := (hmem s).1 hs
          obtain ⟨r, rfl, hr⟩ := hst.rws x hx
          exact hr.name
        have p40 : φTexts [.str s0, .str s] = some (.int .i64 (-1)) := by
          simp only [φTexts]
          rw [if_pos ⟨hln _ (List.mem_of_getElem? hs0), hln _ (List.mem_of_getElem? hs)⟩, hcmp]
        have d3 : decide ((0 : Int) < (j : Int)) = true := by simp; omega
        have w1 := wrap_pred j (by omega) hj0
        have d4 : decide ((0 : Int) ≤ -1) = false := by decide
        cases sb <;> cases se <;> (simp +contextual (maxSteps := 10000000) only [r7, r8, r10, r12, r14, r15, r16, ld14, d2, d3, ha1, ha2, hse, hldz, ef, er, of, cf, or, cr, p37s, lS, esl, hz0, w1, hb1, hb2, p40, d4, XG_eq, pcallG hM, lookH_cons, lookH_nil, orK_n, orK_s, wrap_succ j (by omega), go_sem, W_draw]; rw [hany]; exact ⟨rfl, by omega⟩)
    · have d2 : decide ((j : Int) < N.length) = false := by simpa using hlj
      have ej : j = N.length := by omega
      rw [ej, List.take_length, hseen] at r15
      obtain ⟨b, hb⟩ : ∃ b, decide ((0 : Int) < (L.length : Int)) = b := ⟨_, rfl⟩
      rw [hb] at r15
      have q1 : eq1D Tq.bool (.bool b) (.bool b) = some true := by cases b <;> rfl
      simp +contextual (maxSteps := 10000000) only [r7, r8, r10, r12, r14, r15, r16, ld14, lL, d2, hb, q1, go_sem, W_draw]
      exact hQ _ _
end GP
