import Derived.Test.YtnipbngimicldaaGpbE3
import Derived.Test.YtnipbngimicldaaRows
import Derived.JoinedOf
set_option linter.unusedSimpArgs false
/- What a row's reading tells of values, expressions, facts and scenes. -/
namespace GP
open Go Go.Proofs Go.Proofs.Ytnipbngimicldaa
open Go.ChangeShapes Go.WideShapes Go.ChangeAt Go.RowKit
set_option maxRecDepth 100000

theorem cells29 : Try.prog.cellsOf 29 = 4 := by kernel_rfl
theorem cells3 : Try.prog.cellsOf 3 = 1 := by kernel_rfl
theorem cells4 : Try.prog.cellsOf 4 = 1 := by kernel_rfl
theorem cells2 : Try.prog.cellsOf 2 = 1 := by kernel_rfl
theorem cells9 : Try.prog.cellsOf 9 = 1 := by kernel_rfl
theorem cells27 : Try.prog.cellsOf 27 = 1 := by kernel_rfl
theorem cells30 : Try.prog.cellsOf 30 = 1 := by kernel_rfl
theorem cells22 : Try.prog.cellsOf 22 = 1 := by kernel_rfl
theorem cells33 : Try.prog.cellsOf 33 = 1 := by kernel_rfl
theorem cells32 : Try.prog.cellsOf 32 = 8 := by kernel_rfl
theorem cells35 : Try.prog.cellsOf 35 = 3 := by kernel_rfl
theorem cells49 : Try.prog.cellsOf 49 = 6 := by kernel_rfl
theorem cells60 : Try.prog.cellsOf 60 = 4 := by kernel_rfl
theorem bytes29 : 1 ≤ Try.prog.bytesOf 29 := of_decide_eq_true (by kernel_rfl)
theorem bytes32 : 1 ≤ Try.prog.bytesOf 32 := of_decide_eq_true (by kernel_rfl)
theorem bytes9 : 1 ≤ Try.prog.bytesOf 9 := of_decide_eq_true (by kernel_rfl)
theorem bytes49 : 1 ≤ Try.prog.bytesOf 49 := of_decide_eq_true (by kernel_rfl)
theorem bytes60 : 1 ≤ Try.prog.bytesOf 60 := of_decide_eq_true (by kernel_rfl)

theorem i64min : IntKind.i64.min = -(2 ^ 63) := by decide
theorem i64max : IntKind.i64.max = 2 ^ 63 - 1 := by decide
def isBl (ds : List D) : Prop := ∃ b, ds = [.bool b]
/-- A slice of things of a shape. -/
def isLd (p : D → Prop) (ds : List D) : Prop := ∃ l, ds = [l] ∧ isLs p l
theorem isLd_of {mk : List D → D} {φ : List D → Prop} {p : D → Prop} {sz : Nat} (h : ∀ x, φ x → p (mk x)) {ds : List D} (hd : ds = [.nils] ∨ ∃ xs : List (List D), ds = [.sl none (xs.map mk)] ∧ xs.length ≤ 2 ^ 47 ∧ ∀ x ∈ xs, φ x ∧ x.length = sz) : isLd p ds := by
  rcases hd with rfl | ⟨xs, rfl, h1, h2⟩
  · exact ⟨_, rfl, isLs_nils _⟩
  · refine ⟨_, rfl, false, xs.map mk, rfl, by simpa using h1, fun x hx => ?_⟩
    obtain ⟨y, hy, rfl⟩ := List.mem_map.1 hx
    exact h _ (h2 y hy).1
theorem isLs_isV {l : D} (h : isLs (fun d => d.isV = true) l) (k i : Int) (s : List UInt8) (hs : s.length ≤ 2 ^ 47) : (D.agg [.int .i64 k, .int .i64 i, .str s, l]).isV = true := by
  obtain ⟨n, xs, rfl, h1, h2⟩ := h
  exact isV_mk (k := k) (i := i) (n := n) hs h1 h2
theorem rdV (W : World) : ∀ fuel, Rds Try.prog W 29 (fun ds => isVr (D.agg ds)) fuel ∧ Rds Try.prog W 27 (isLd fun d => d.isV = true) fuel
  | 0 => ⟨fun _ _ _ _ _ h _ => by simp [DataW.trod] at h, fun _ _ _ _ _ h _ => by simp [DataW.trod] at h⟩
  | fuel + 1 => by
    obtain ⟨h24, h22⟩ := rdV W fuel
    refine ⟨?_, ?_⟩
    · refine (rds_struct (P := Try.prog) (w := W) (φs := [fun ds => ∃ n, ds = [.int .i64 n] ∧ IntKind.i64.min ≤ n ∧ n ≤ IntKind.i64.max, fun ds => ∃ n, ds = [.int .i64 n] ∧ IntKind.i64.min ≤ n ∧ n ≤ IntKind.i64.max, fun ds => ∃ l, ds = [.str l] ∧ l.length ≤ 2 ^ 47, isLd fun d => d.isV = true]) Try.underlying29 rfl ?_ ?_ ?_).imp ?_
      · simp only [FldsOf, cells3, cells2, cells9, and_self, and_true, Nat.zero_add, Nat.reduceAdd]
      · simp only [List.map_cons, List.map_nil, cells3, cells2, cells9, cells27, cells29]; rfl
      · intro i f φ e1 e2
        match i with
        | 0 => simp at e1 e2; subst e1; subst e2; exact rds_int Try.underlying3 fuel
        | 1 => simp at e1 e2; subst e1; subst e2; exact rds_int Try.underlying2 fuel
        | 2 => simp at e1 e2; subst e1; subst e2; exact rds_string Try.underlying9 fuel
        | 3 => simp at e1 e2; subst e1; subst e2; exact h22
        | i + 4 => simp at e1
      · rintro ds ⟨x1, y1, rfl, ⟨k, rfl, _⟩, x2, y2, rfl, ⟨i, rfl, i1, i2⟩, x3, y3, rfl, ⟨s, rfl, hs⟩, x4, y4, rfl, ⟨l, rfl, hl⟩, rfl⟩
        rw [i64min] at i1; rw [i64max] at i2
        refine ⟨isLs_isV hl k i s hs, ?_, ?_⟩
        · show -(2 ^ 63) ≤ i; omega
        · show i < 2 ^ 63; omega
    · exact (rds_slice (P := Try.prog) (w := W) (mk := D.agg) (fun _ => rfl) (sz := 4) (by decide) Try.underlying27 cells29 bytes29 h24).imp fun ds hd => isLd_of (fun x (hx : isVr (D.agg x)) => hx.1) hd
theorem argVr (W : World) : Arg Try.prog W 29 isVr := by
  intro H enc v d ps base h1 h2 h3
  obtain ⟨x, k1, ds, rfl, k2⟩ := arg_struct Try.underlying29 (fun f => (rdV W f).1) H enc v d ps base h1 h2 h3
  exact ⟨_, k1, k2⟩

theorem isVr_cells {x : List D} (h : isVr (D.agg x)) : ∃ k i s n l, x = [.int .i64 k, .int .i64 i, .str s, sliceD n l] ∧ isVr (mkV k i s n l) := by
  obtain ⟨k, i, s, n, l, e, _⟩ := isV_elim h.1
  have : x = [.int .i64 k, .int .i64 i, .str s, sliceD n l] := by unfold mkV at e; injection e
  subst this
  exact ⟨k, i, s, n, l, rfl, h⟩
theorem rdE (W : World) : ∀ fuel, Rds Try.prog W 32 (fun ds => isE fuel (D.agg ds)) fuel ∧ Rds Try.prog W 30 (isLd (isE fuel)) fuel
  | 0 => ⟨fun _ _ _ _ _ h _ => by simp [DataW.trod] at h, fun _ _ _ _ _ h _ => by simp [DataW.trod] at h⟩
  | fuel + 1 => by
    obtain ⟨hs, hl⟩ := rdE W fuel
    refine ⟨?_, ?_⟩
    · refine (rds_struct (P := Try.prog) (w := W) (φs := [fun ds => ∃ l, ds = [.str l] ∧ l.length ≤ 2 ^ 47, fun ds => isVr (D.agg ds), fun ds => ∃ l, ds = [.str l] ∧ l.length ≤ 2 ^ 47, fun ds => ∃ l, ds = [.str l] ∧ l.length ≤ 2 ^ 47, isLd (isE fuel)]) Try.underlying32 rfl ?_ ?_ ?_).imp ?_
      · simp only [FldsOf, cells9, cells29, and_self, and_true, Nat.zero_add, Nat.reduceAdd]
      · simp only [List.map_cons, List.map_nil, cells9, cells29, cells30, cells32]; rfl
      · intro i f φ e1 e2
        match i with
        | 0 => simp at e1 e2; subst e1; subst e2; exact rds_string Try.underlying9 fuel
        | 1 => simp at e1 e2; subst e1; subst e2; exact (rdV W fuel).1
        | 2 => simp at e1 e2; subst e1; subst e2; exact rds_string Try.underlying9 fuel
        | 3 => simp at e1 e2; subst e1; subst e2; exact rds_string Try.underlying9 fuel
        | 4 => simp at e1 e2; subst e1; subst e2; exact hl
        | i + 5 => simp at e1
      · rintro ds ⟨x1, y1, rfl, ⟨op, rfl, h1⟩, x2, y2, rfl, h2, x3, y3, rfl, ⟨who, rfl, h3⟩, x4, y4, rfl, ⟨name, rfl, h4⟩, x5, y5, rfl, ⟨l, rfl, m, ps, rfl, h5, h6⟩, rfl⟩
        obtain ⟨k, i, s, n, l, rfl, hv⟩ := isVr_cells h2
        exact ⟨op, k, i, s, n, l, who, name, m, ps, rfl, h1, h3, h4, hv, h5, h6⟩
    · exact (rds_slice (P := Try.prog) (w := W) (mk := D.agg) (fun _ => rfl) (sz := 8) (by decide) Try.underlying30 cells32 bytes32 hs).imp fun ds hd => isLd_of (fun x (hx : isE fuel (D.agg x)) => isE_mono hx) hd
theorem argE (W : World) : Arg Try.prog W 32 (fun d => ∃ n, isE n d) := by
  intro H enc v d ps base h1 h2 h3
  obtain ⟨x, k1, ds, rfl, k2⟩ := arg_struct Try.underlying32 (φ := fun ds => ∃ n, isE n (D.agg ds)) (fun f => (rdE W f).1.imp fun ds h => ⟨f, h⟩) H enc v d ps base h1 h2 h3
  exact ⟨_, k1, k2⟩

theorem rdH (W : World) : ∀ fuel, Rds Try.prog W 49 (fun ds => isH (D.agg ds)) fuel
  | 0 => fun _ _ _ _ _ h _ => by simp [DataW.trod] at h
  | fuel + 1 => by
    refine (rds_struct (P := Try.prog) (w := W) (φs := [fun ds => ∃ l, ds = [.str l] ∧ l.length ≤ 2 ^ 47, fun ds => ∃ l, ds = [.str l] ∧ l.length ≤ 2 ^ 47, fun ds => isVr (D.agg ds)]) Try.underlying49 rfl ?_ ?_ ?_).imp ?_
    · simp only [FldsOf, cells9, cells29, and_self, and_true, Nat.zero_add, Nat.reduceAdd]
    · simp only [List.map_cons, List.map_nil, cells9, cells29, cells49]; rfl
    · intro i f φ e1 e2
      match i with
      | 0 => simp at e1 e2; subst e1; subst e2; exact rds_string Try.underlying9 fuel
      | 1 => simp at e1 e2; subst e1; subst e2; exact rds_string Try.underlying9 fuel
      | 2 => simp at e1 e2; subst e1; subst e2; exact (rdV W fuel).1
      | i + 3 => simp at e1
    · rintro ds ⟨x1, y1, rfl, ⟨who, rfl, h1⟩, x2, y2, rfl, ⟨name, rfl, h2⟩, x3, y3, rfl, h3, rfl⟩
      obtain ⟨k, i, s, n, l, rfl, hv⟩ := isVr_cells h3
      exact ⟨who, name, k, i, s, n, l, rfl, h1, h2, hv⟩
theorem rdS (W : World) : ∀ fuel, Rds Try.prog W 35 (fun ds => isS (D.agg ds)) fuel
  | 0 => fun _ _ _ _ _ h _ => by simp [DataW.trod] at h
  | 1 => by
    refine (rds_struct (P := Try.prog) (w := W) (φs := [fun ds => False, fun ds => False, fun ds => False]) Try.underlying35 rfl ?_ ?_ ?_).imp ?_
    · simp only [FldsOf, cells2, cells22, and_self, and_true, Nat.zero_add, Nat.reduceAdd]
    · simp only [List.map_cons, List.map_nil, cells2, cells22, cells33, cells35]; rfl
    · intro i f φ e1 e2 H enc cs d ps h
      simp [DataW.trod] at h
    · rintro ds ⟨x1, y1, rfl, h, _⟩; exact h.elim
  | fuel + 2 => by
    refine (rds_struct (P := Try.prog) (w := W) (φs := [fun ds => ∃ n, ds = [.int .i64 n] ∧ IntKind.i64.min ≤ n ∧ n ≤ IntKind.i64.max, isLd isTx, isLd isH]) Try.underlying35 rfl ?_ ?_ ?_).imp ?_
    · simp only [FldsOf, cells2, cells22, and_self, and_true, Nat.zero_add, Nat.reduceAdd]
    · simp only [List.map_cons, List.map_nil, cells2, cells22, cells33, cells35]; rfl
    · intro i f φ e1 e2
      match i with
      | 0 => simp at e1 e2; subst e1; subst e2; exact rds_int Try.underlying2 _
      | 1 =>
        simp at e1 e2; subst e1; subst e2
        exact (rds_slice (P := Try.prog) (w := W) (mk := fun ds => match ds with | [.str s] => .str s | ds => .agg ds) (fun ds => by
          split
          · rfl
          · rfl) (sz := 1) (by decide) Try.underlying22 cells9 bytes9 (rds_string Try.underlying9 fuel)).imp fun ds hd => isLd_of (fun x (hx : ∃ l, x = [.str l] ∧ l.length ≤ 2 ^ 47) => by
            obtain ⟨l, rfl, hl⟩ := hx; exact ⟨l, rfl, hl⟩) hd
      | 2 =>
        simp at e1 e2; subst e1; subst e2
        exact (rds_slice (P := Try.prog) (w := W) (mk := D.agg) (fun _ => rfl) (sz := 6) (by decide) Try.underlying33 cells49 bytes49 (rdH W fuel)).imp fun ds hd => isLd_of (fun x hx => hx) hd
      | i + 3 => simp at e1
    · rintro ds ⟨x1, y1, rfl, ⟨k, rfl, i1, i2⟩, x2, y2, rfl, ⟨R, rfl, hR⟩, x3, y3, rfl, ⟨A, rfl, hA⟩, rfl⟩
      refine ⟨k, R, A, rfl, ?_, ?_, hR, hA⟩
      · simpa [vi, IntKind.min, IntKind.bits, IntKind.signed] using i1
      · have : k ≤ 2 ^ 63 - 1 := by simpa [IntKind.max, IntKind.bits, IntKind.signed] using i2
        omega
theorem argS (W : World) : Arg Try.prog W 35 isS := by
  intro H enc v d ps base h1 h2 h3
  obtain ⟨x, k1, ds, rfl, k2⟩ := arg_struct Try.underlying35 (fun f => rdS W f) H enc v d ps base h1 h2 h3
  exact ⟨_, k1, k2⟩
theorem rdF (W : World) : ∀ fuel, Rds Try.prog W 60 (fun ds => isF (D.agg ds)) fuel
  | 0 => fun _ _ _ _ _ h _ => by simp [DataW.trod] at h
  | fuel + 1 => by
    refine (rds_struct (P := Try.prog) (w := W) (φs := [fun ds => ∃ l, ds = [.str l] ∧ l.length ≤ 2 ^ 47, fun ds => ∃ l, ds = [.str l] ∧ l.length ≤ 2 ^ 47, fun ds => ∃ n, ds = [.int .i64 n] ∧ IntKind.i64.min ≤ n ∧ n ≤ IntKind.i64.max, isBl]) Try.underlying60 rfl ?_ ?_ ?_).imp ?_
    · simp only [FldsOf, cells9, cells3, and_self, and_true, Nat.zero_add, Nat.reduceAdd]
    · simp only [List.map_cons, List.map_nil, cells9, cells3, cells4, cells60]; rfl
    · intro i f φ e1 e2
      match i with
      | 0 => simp at e1 e2; subst e1; subst e2; exact rds_string Try.underlying9 fuel
      | 1 => simp at e1 e2; subst e1; subst e2; exact rds_string Try.underlying9 fuel
      | 2 => simp at e1 e2; subst e1; subst e2; exact rds_int Try.underlying3 fuel
      | 3 => simp at e1 e2; subst e1; subst e2; exact rds_bool Try.underlying4 fuel
      | i + 4 => simp at e1
    · rintro ds ⟨x1, y1, rfl, ⟨who, rfl, h1⟩, x2, y2, rfl, ⟨name, rfl, h2⟩, x3, y3, rfl, ⟨k, rfl, i1, i2⟩, x4, y4, rfl, ⟨b, rfl⟩, rfl⟩
      refine ⟨who, name, k, b, rfl, h1, h2, ?_, ?_⟩
      · simpa [vi, IntKind.min, IntKind.bits, IntKind.signed] using i1
      · have : k ≤ 2 ^ 63 - 1 := by simpa [IntKind.max, IntKind.bits, IntKind.signed] using i2
        omega
theorem argF (W : World) : Arg Try.prog W 26 (isLs isF) := by
  have h : ∀ fuel, Rds Try.prog W 26 (isLd isF) fuel := fun fuel => by
    cases fuel with
    | zero => exact fun _ _ _ _ _ h _ => by simp [DataW.trod] at h
    | succ fuel => exact (rds_slice (P := Try.prog) (w := W) (mk := D.agg) (fun _ => rfl) (sz := 4) (by decide) Try.underlying26 cells60 bytes60 (rdF W fuel)).imp fun ds hd => isLd_of (fun x hx => hx) hd
  intro H enc v d ps base h1 h2 h3
  obtain ⟨x, k1, l, e, k2⟩ := arg_one Try.underlying26 rfl h H enc v d ps base h1 h2 h3
  injection e with e
  exact ⟨_, k1, e ▸ k2⟩
end GP
