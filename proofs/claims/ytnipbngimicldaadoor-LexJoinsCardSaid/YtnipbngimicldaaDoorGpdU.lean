import Derived.Test.YtnipbngimicldaaDoorGpdJ
import Derived.Test.YtnipbngimicldaaDoorGpdR
set_option linter.unusedSimpArgs false
/- What a row's reading tells of tokens and bytes. -/
namespace GP
open Go Go.Proofs Go.Proofs.YtnipbngimicldaaDoor
open Go.ChangeShapes Go.WideShapes Go.ChangeAt Go.RowKit
set_option maxRecDepth 100000

theorem cells28 : Tryd.prog.cellsOf 28 = 3 := by kernel_rfl
theorem cells3 : Tryd.prog.cellsOf 3 = 1 := by kernel_rfl
theorem cells2 : Tryd.prog.cellsOf 2 = 1 := by kernel_rfl
theorem cells9 : Tryd.prog.cellsOf 9 = 1 := by kernel_rfl
theorem cells5 : Tryd.prog.cellsOf 5 = 1 := by kernel_rfl
theorem bytes28 : 1 ≤ Tryd.prog.bytesOf 28 := of_decide_eq_true (by kernel_rfl)
theorem bytes5 : 1 ≤ Tryd.prog.bytesOf 5 := of_decide_eq_true (by kernel_rfl)
theorem i64min : IntKind.i64.min = -(2 ^ 63) := by decide
theorem i64max : IntKind.i64.max = 2 ^ 63 - 1 := by decide
def isLd (p : D → Prop) (ds : List D) : Prop := ∃ l, ds = [l] ∧ isLs p l
theorem isLd_of {mk : List D → D} {φ : List D → Prop} {p : D → Prop} {sz : Nat} (h : ∀ x, φ x → p (mk x)) {ds : List D} (hd : ds = [.nils] ∨ ∃ xs : List (List D), ds = [.sl none (xs.map mk)] ∧ xs.length ≤ 2 ^ 47 ∧ ∀ x ∈ xs, φ x ∧ x.length = sz) : isLd p ds := by
  rcases hd with rfl | ⟨xs, rfl, h1, h2⟩
  · exact ⟨_, rfl, isLs_nils _⟩
  · refine ⟨_, rfl, false, xs.map mk, rfl, by simpa using h1, fun x hx => ?_⟩
    obtain ⟨y, hy, rfl⟩ := List.mem_map.1 hx
    exact h _ (h2 y hy).1
theorem rdT (W : World) : ∀ fuel, Rds Tryd.prog W 28 (fun ds => isTkR (D.agg ds)) fuel
  | 0 => fun _ _ _ _ _ h _ => by simp [DataW.trod] at h
  | fuel + 1 => by
    refine (rds_struct (P := Tryd.prog) (w := W) (φs := [fun ds => ∃ n, ds = [.int .i64 n] ∧ IntKind.i64.min ≤ n ∧ n ≤ IntKind.i64.max, fun ds => ∃ l, ds = [.str l] ∧ l.length ≤ 2 ^ 47, fun ds => ∃ n, ds = [.int .i64 n] ∧ IntKind.i64.min ≤ n ∧ n ≤ IntKind.i64.max]) Tryd.underlying28 rfl ?_ ?_ ?_).imp ?_
    · simp only [FldsOf, cells3, cells9, cells2, and_self, and_true, Nat.zero_add, Nat.reduceAdd]
    · simp only [List.map_cons, List.map_nil, cells3, cells9, cells2, cells28]; rfl
    · intro i f φ e1 e2
      match i with
      | 0 => simp at e1 e2; subst e1; subst e2; exact rds_int Tryd.underlying3 fuel
      | 1 => simp at e1 e2; subst e1; subst e2; exact rds_string Tryd.underlying9 fuel
      | 2 => simp at e1 e2; subst e1; subst e2; exact rds_int Tryd.underlying2 fuel
      | i + 3 => simp at e1
    · rintro ds ⟨x1, y1, rfl, ⟨k, rfl, _⟩, x2, y2, rfl, ⟨s, rfl, hs⟩, x3, y3, rfl, ⟨n, rfl, i1, i2⟩, rfl⟩
      rw [i64min] at i1; rw [i64max] at i2
      exact ⟨k, s, n, rfl, hs, i1, by omega⟩
theorem argT1 (W : World) : Arg Tryd.prog W 28 isTkR := by
  intro H enc v d ps base h1 h2 h3
  obtain ⟨x, k1, ds, rfl, k2⟩ := arg_struct Tryd.underlying28 (fun f => rdT W f) H enc v d ps base h1 h2 h3
  exact ⟨_, k1, k2⟩
theorem argTs (W : World) : Arg Tryd.prog W 22 (isLs isTkR) := by
  have h : ∀ fuel, Rds Tryd.prog W 22 (isLd isTkR) fuel := fun fuel => by
    cases fuel with
    | zero => exact fun _ _ _ _ _ h _ => by simp [DataW.trod] at h
    | succ fuel => exact (rds_slice (P := Tryd.prog) (w := W) (mk := D.agg) (fun _ => rfl) (sz := 3) (by decide) Tryd.underlying22 cells28 bytes28 (rdT W fuel)).imp fun ds hd => isLd_of (fun x hx => hx) hd
  intro H enc v d ps base h1 h2 h3
  obtain ⟨x, k1, l, e, k2⟩ := arg_one Tryd.underlying22 rfl h H enc v d ps base h1 h2 h3
  injection e with e
  exact ⟨_, k1, e ▸ k2⟩
theorem u8_of {n : Int} (h1 : IntKind.u8.min ≤ n) (h2 : n ≤ IntKind.u8.max) : isU8 (.int .u8 n) := by
  have e1 : IntKind.u8.min = 0 := by decide
  have e2 : IntKind.u8.max = 255 := by decide
  rw [e1] at h1; rw [e2] at h2
  refine ⟨UInt8.ofNat n.toNat, ?_⟩
  have : (UInt8.ofNat n.toNat).toNat = n.toNat := by simp; omega
  rw [this]
  congr 1; omega
theorem argBs (W : World) : Arg Tryd.prog W 23 (isLs isU8) := by
  have h : ∀ fuel, Rds Tryd.prog W 23 (isLd isU8) fuel := fun fuel => by
    cases fuel with
    | zero => exact fun _ _ _ _ _ h _ => by simp [DataW.trod] at h
    | succ fuel =>
      exact (rds_slice (P := Tryd.prog) (w := W) (mk := fun ds => match ds with | [.int .u8 n] => .int .u8 n | ds => .agg ds) (fun ds => by
          split
          · rfl
          · rfl) (sz := 1) (by decide) Tryd.underlying23 cells5 bytes5 (rds_int Tryd.underlying5 fuel)).imp fun ds hd => isLd_of (fun x (hx : ∃ n, x = [.int .u8 n] ∧ IntKind.u8.min ≤ n ∧ n ≤ IntKind.u8.max) => by
            obtain ⟨n, rfl, h1, h2⟩ := hx; exact u8_of h1 h2) hd
  intro H enc v d ps base h1 h2 h3
  obtain ⟨x, k1, l, e, k2⟩ := arg_one Tryd.underlying23 rfl h H enc v d ps base h1 h2 h3
  injection e with e
  exact ⟨_, k1, e ▸ k2⟩
end GP
