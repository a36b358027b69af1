import Derived.Shelf.SlSortCmp.WholeK
import Derived.Shelf.Slices.CompactS
import Derived.Shelf.Sort.Plain
import Derived.Test.YtjpbliffonimgaaProg
import Derived.Test.YtjpbliffonimgaaM0
import Derived.Test.YtjpbliffonimgaaM5
set_option linter.unusedSimpArgs false
set_option linter.unnecessarySimpa false
set_option linter.unusedSectionVars false
namespace GP
open Go Go.Proofs
open Rd O
set_option maxRecDepth 100000
def c30 : C :=
  (.seq (.reg [⟨(some 0), none, .mv (k (.bool false))⟩])
  (.seq (.reg [Ic 2 31 [], Im 1 2])
  (.seq (.reg [Im 3 1, ⟨(some 4), none, .eq1 .ptr true (t 3) (k .nilp)⟩, Im 5 4, Jm 6 5 true 1, ⟨(some 7), (some (5, true)), .build [(.str []), (.str [])] [(0, 1, (k (.str [97]))), (1, 1, (k (.str [98])))]⟩, ⟨(some 8), (some (5, true)), .call (k (.fn 32 [] [])) [(t 6), (t 7)]⟩, ⟨(some 9), (some (5, true)), .bin .eql (t 8) (Ki 0)⟩, ⟨(some 10), none, .pick (t 5) (t 9) (k (.bool false))⟩, Im 11 10, Jm 12 11 true 1, ⟨(some 13), (some (11, true)), .pcall (k (.fn 34 [] [])) [(t 12), (k (.str [97])), (k (.str [98]))]⟩, ⟨(some 14), none, .pick (t 11) (t 13) (k (.bool false))⟩, Im 15 14, Jm 16 15 true 1, ⟨(some 17), (some (15, true)), .pcall (k (.fn 34 [] [])) [(t 16), (k (.str [98])), (k (.str [97]))]⟩, ⟨(some 18), (some (15, true)), .un .not (t 17)⟩, ⟨(some 19), none, .pick (t 15) (t 18) (k (.bool false))⟩, Im 0 19])
  .ret)))
theorem fn30 : Fn Go.Proofs.Try.prog 30 20 [.inl 0] c30 :=
  ⟨⟨_, _, Go.Proofs.Try.func30, rfl, by kernel_rfl, Go.Proofs.Try.ntmps30, by kernel_rfl, ⟨fun f => imp.contains f, false, fun _ => false, false⟩, by kernel_rfl⟩⟩
def c31 : C :=
  (.seq (.reg [⟨(some 0), none, .mv (k .nilp)⟩])
  (.seq (.reg [⟨(some 1), none, .mkmap⟩, ⟨(some 2), none, .build [.nils, .nils, .nilm] [(2, 1, (t 1))]⟩, ⟨(some 3), none, .box (t 2)⟩, Im 0 3])
  .ret))
theorem fn31 : Fn Go.Proofs.Try.prog 31 4 [.inl 0] c31 :=
  ⟨⟨_, _, Go.Proofs.Try.func31, rfl, by kernel_rfl, Go.Proofs.Try.ntmps31, by kernel_rfl, ⟨fun f => imp.contains f, false, fun _ => false, false⟩, by kernel_rfl⟩⟩
def c41 : C :=
  (.seq (.reg [⟨(some 4), none, .mv (k (.bool false))⟩])
  (.seq (.seq (.reg [⟨(some 5), none, .mv (Ki 0)⟩])
  (.block 0
  (.loop
  (.seq (.seq (.reg [Im 6 5, Im 7 0, Iz 8 7, ⟨(some 9), none, .bin .lss (t 6) (t 8)⟩, Im 10 9, Jm 11 10 true 5, ⟨(some 12), (some (10, true)), .bin .lss (t 11) (Ki 300)⟩, ⟨(some 13), none, .pick (t 10) (t 12) (k (.bool false))⟩])
  (.cond (t 13)
  .skip
  (.exit 0)))
  (.seq (.block 1
  (.seq (.reg [Im 16 0, Im 17 5, ⟨(some 18), none, .iaddr 3 (t 16) (t 17)⟩, If 19 1 18, Il 20 19, ⟨(some 21), none, .lens (t 20)⟩, ⟨(some 22), none, .bin .gtr (t 21) (Ki 100)⟩, Im 23 22, Jm 24 23 false 0, Jm 25 23 false 5, ⟨(some 26), (some (23, false)), .iaddr 3 (t 24) (t 25)⟩, Jf 27 23 false 2 26, Jl 28 23 false 27, ⟨(some 29), (some (23, false)), .lens (t 28)⟩, ⟨(some 30), (some (23, false)), .bin .gtr (t 29) (Ki 100)⟩, ⟨(some 31), none, .pick (t 23) (k (.bool true)) (t 30)⟩])
  (.cond (t 31)
  (.seq (.reg [⟨(some 4), none, .mv (k (.bool false))⟩])
  .ret)
  .skip)))
  (.reg [Im 14 5, ⟨(some 15), none, .bin .add (t 14) (Ki 1)⟩, Im 5 15]))))))
  (.seq (.reg [Im 32 0, Iz 33 32, Im 34 1, ⟨(some 35), none, .bin .leq (t 33) (t 34)⟩, Im 4 35])
  .ret)))
theorem fn41 : Fn Go.Proofs.Try.prog 41 36 [.inl 4] c41 :=
  ⟨⟨_, _, Go.Proofs.Try.func41, rfl, by kernel_rfl, Go.Proofs.Try.ntmps41, by kernel_rfl, ⟨fun f => imp.contains f, false, fun _ => false, false⟩, by kernel_rfl⟩⟩
def c42 : C :=
  (.seq (.reg [⟨(some 3), none, .box (t 1)⟩, ⟨(some 4), none, .mv (Ki 0)⟩])
  (.seq (.seq (.reg [If 5 0 3, Il 6 5, ⟨(some 7), none, .bin .rem (t 6) (k (.int .u8 4))⟩])
  (.block 0
  (.seq (.reg [⟨(some 9), none, .bin .eql (t 7) (k (.int .u8 0))⟩, Im 8 9])
  (.cond (t 8)
  (.seq (.reg [Im 10 0, If 11 1 3, Il 12 11, If 13 2 3, Il 14 13, ⟨(some 15), none, .build [(.str []), (.str [])] [(0, 1, (t 12)), (1, 1, (t 14))]⟩, Ic 16 32 [(t 10), (t 15)], Im 4 16])
  .ret)
  (.seq (.reg [⟨(some 18), none, .bin .eql (t 7) (k (.int .u8 1))⟩, Im 17 18])
  (.cond (t 17)
  (.seq (.reg [Im 19 0, If 20 1 3, Il 21 20, If 22 2 3, Il 23 22, ⟨(some 24), none, .build [(.str []), (.str [])] [(0, 1, (t 21)), (1, 1, (t 23))]⟩, Ic 25 74 [(t 19), (t 24)], Im 4 25])
  .ret)
  (.seq (.reg [⟨(some 27), none, .bin .eql (t 7) (k (.int .u8 2))⟩, Im 26 27])
  (.cond (t 26)
  (.seq (.reg [Im 28 0, If 29 1 3, Il 30 29, If 31 2 3, Il 32 31, ⟨(some 33), none, .build [(.str []), (.str [])] [(0, 1, (t 30)), (1, 1, (t 32))]⟩, Ic 34 75 [(t 28), (t 33)], Im 4 34])
  .ret)
  .skip))))))))
  (.seq (.reg [Im 35 0, If 36 1 3, Il 37 36, If 38 2 3, Il 39 38, ⟨(some 40), none, .build [(.str []), (.str [])] [(0, 1, (t 37)), (1, 1, (t 39))]⟩, Ic 41 76 [(t 35), (t 40)], Im 4 41])
  .ret)))
theorem fn42 : Fn Go.Proofs.Try.prog 42 42 [.inl 4] c42 :=
  ⟨⟨_, _, Go.Proofs.Try.func42, rfl, by kernel_rfl, Go.Proofs.Try.ntmps42, by kernel_rfl, ⟨fun f => imp.contains f, false, fun _ => false, false⟩, by kernel_rfl⟩⟩
def c47 : C :=
  (.seq (.reg [⟨(some 2), none, .mv (k .nils)⟩])
  (.seq (.reg [Im 3 0, In 4 3, If 5 1 4, Il 6 5, Ic 7 80 [(t 6)], Im 2 7])
  .ret))
theorem fn47 : Fn Go.Proofs.Try.prog 47 8 [.inl 2] c47 :=
  ⟨⟨_, _, Go.Proofs.Try.func47, rfl, by kernel_rfl, Go.Proofs.Try.ntmps47, by kernel_rfl, ⟨fun f => imp.contains f, false, fun _ => false, false⟩, by kernel_rfl⟩⟩
def c69 : C :=
  (.seq (.reg [⟨(some 3), none, .box (t 1)⟩, ⟨(some 4), none, .mv (k (.bool false))⟩])
  (.seq (.reg [Im 5 0, Ia 6 2 3, Ip 7 110 [(t 5), (t 6)], ⟨(some 8), none, .bin .geq (t 7) (Ki 0)⟩, Im 4 8])
  .ret))
theorem fn69 : Fn Go.Proofs.Try.prog 69 9 [.inl 4] c69 :=
  ⟨⟨_, _, Go.Proofs.Try.func69, rfl, by kernel_rfl, Go.Proofs.Try.ntmps69, by kernel_rfl, ⟨fun f => imp.contains f, false, fun _ => false, false⟩, by kernel_rfl⟩⟩
def c71 : C :=
  (.seq (.reg [⟨(some 6), none, .mv (Ki 0)⟩])
  (.seq (.seq (.reg [Im 7 1, Im 8 2, ⟨(some 9), none, .bin .eql (t 7) (t 8)⟩])
  (.cond (t 9)
  (.seq (.reg [⟨(some 6), none, .mv (Ki 1)⟩])
  .ret)
  .skip))
  (.seq (.reg [Im 10 0, Im 11 1, Im 12 2, ⟨(some 13), none, .build [(.str []), (.str [])] [(0, 1, (t 11)), (1, 1, (t 12))]⟩, ⟨(some 14), none, .mget (true, [.str, .str]) (.int .i64 0) false (t 10) (t 13)⟩, Im 6 14])
  .ret)))
theorem fn71 : Fn Go.Proofs.Try.prog 71 15 [.inl 6] c71 :=
  ⟨⟨_, _, Go.Proofs.Try.func71, rfl, by kernel_rfl, Go.Proofs.Try.ntmps71, by kernel_rfl, ⟨fun f => imp.contains f, false, fun _ => false, false⟩, by kernel_rfl⟩⟩
def c110 : C :=
  (.seq (.reg [⟨(some 3), none, .box (t 1)⟩, ⟨(some 4), none, .mv (Ki 0)⟩])
  (.seq (.seq (.reg [Im 6 0, Iz 7 6, ⟨(some 8), none, .mv (Ki 0)⟩])
  (.block 0
  (.loop
  (.seq (.reg [⟨(some 9), none, .bin .lss (t 8) (t 7)⟩])
  (.seq (.cond (t 9)
  .skip
  (.exit 0))
  (.seq (.block 1
  (.seq (.reg [Im 10 8, Im 5 10])
  (.seq (.draw 0 [(Ia 11 2 3, []), (Im 12 0, []), (Im 13 5, []), (⟨(some 14), none, .iaddr 2 (t 12) (t 13)⟩, []), (Ia 15 2 14, []), (⟨(some 16), none, .eqa [.str, .str] false (t 11) (t 15)⟩, [])])
  (.cond (t 16)
  (.seq (.reg [Im 17 5, Im 4 17])
  .ret)
  .skip))))
  (.reg [⟨(some 18), none, .bin .add (t 8) (Ki 1)⟩, Im 8 18])))))))
  (.seq (.reg [⟨(some 4), none, .mv (k (.int .i64 (-1)))⟩])
  .ret)))
theorem fn110 : Fn Go.Proofs.Try.prog 110 19 [.inl 4] c110 :=
  ⟨⟨_, _, Go.Proofs.Try.func110, rfl, by kernel_rfl, Go.Proofs.Try.ntmps110, by kernel_rfl, ⟨fun f => imp.contains f, false, fun _ => false, false⟩, by kernel_rfl⟩⟩
end GP
namespace GP
abbrev Sb := List UInt8
abbrev Ed := Sb × Sb
def ecnt (c : Sb → Sb → Int) (a b : Sb) : List Ed → Int
  | [] => 0
  | e :: E => (if e.1 = a then c e.2 b else 0) + ecnt c a b E
structure Cnt (E : List Ed) (c : Sb → Sb → Int) (r : Sb → Nat) : Prop where
  rank : ∀ e ∈ E, r e.2 < r e.1
  eq : ∀ a b, c a b = if a = b then 1 else ecnt c a b E
variable {E : List Ed} {c : Sb → Sb → Int} {r : Sb → Nat}
theorem ecnt_app (A B : List Ed) (a b : Sb) : ecnt c a b (A ++ B) = ecnt c a b A + ecnt c a b B := by
  induction A with
  | nil => simp [ecnt]
  | cons e A ih => simp only [List.cons_append, ecnt, ih]; omega
theorem ecnt_nn {a b : Sb} : ∀ (E : List Ed), (∀ e ∈ E, e.1 = a → 0 ≤ c e.2 b) → 0 ≤ ecnt c a b E
  | [], _ => by simp [ecnt]
  | e :: E, h => by
    have := ecnt_nn E fun x hx => h x (by simp [hx])
    have := h e (by simp)
    unfold ecnt; split <;> simp_all <;> omega
theorem ecnt_pos {a b : Sb} : ∀ (E : List Ed), (∀ e ∈ E, e.1 = a → 0 ≤ c e.2 b) → ∀ e ∈ E, e.1 = a → c e.2 b ≤ ecnt c a b E
  | x :: E, h, e, he, h1 => by
    have h2 := ecnt_nn E fun x hx => h x (by simp [hx])
    have h3 := h x (by simp)
    unfold ecnt
    rcases List.mem_cons.1 he with rfl | he
    · rw [if_pos h1]; omega
    · have := ecnt_pos E (fun x hx => h x (by simp [hx])) e he h1
      split <;> simp_all <;> omega
theorem ecnt_ne {a b : Sb} : ∀ (E : List Ed), ecnt c a b E ≠ 0 → ∃ e ∈ E, e.1 = a ∧ c e.2 b ≠ 0
  | [], h => by simp [ecnt] at h
  | e :: E, h => by
    unfold ecnt at h
    by_cases h1 : e.1 = a ∧ c e.2 b ≠ 0
    · exact ⟨e, by simp, h1⟩
    · have : ecnt c a b E ≠ 0 := by
        intro h0; rw [h0] at h
        split at h <;> simp_all
      obtain ⟨x, hx, h2⟩ := ecnt_ne E this
      exact ⟨x, by simp [hx], h2⟩
namespace Cnt
theorem nn (h : Cnt E c r) (b : Sb) : ∀ (n : Nat) (a : Sb), r a < n → 0 ≤ c a b
  | 0, a, hn => by omega
  | n + 1, a, hn => by
    rw [h.eq]
    split
    · omega
    · exact ecnt_nn E fun e he h1 => nn h b n e.2 (by have := h.rank e he; rw [h1] at this; omega)
theorem pos (h : Cnt E c r) (a b : Sb) : 0 ≤ c a b := h.nn b _ a (Nat.lt_succ_self _)
theorem self (h : Cnt E c r) (a : Sb) : c a a = 1 := by rw [h.eq, if_pos rfl]
theorem edge (h : Cnt E c r) {e : Ed} (he : e ∈ E) {b : Sb} (hb : c e.2 b ≠ 0) : c e.1 b ≠ 0 := by
  rw [h.eq]
  split
  · omega
  · have := ecnt_pos (a := e.1) (b := b) E (fun x _ _ => h.pos _ _) e he rfl
    have := h.pos e.2 b
    omega
theorem next (h : Cnt E c r) {a b : Sb} (hab : a ≠ b) (hc : c a b ≠ 0) : ∃ e ∈ E, e.1 = a ∧ c e.2 b ≠ 0 := by
  rw [h.eq, if_neg hab] at hc; exact ecnt_ne E hc
theorem fall (h : Cnt E c r) {b : Sb} : ∀ (n : Nat) (a : Sb), r a < n → c a b ≠ 0 → a = b ∨ r b < r a
  | 0, a, hn, _ => by omega
  | n + 1, a, hn, hc => by
    by_cases hab : a = b
    · exact .inl hab
    · obtain ⟨e, he, rfl, h2⟩ := h.next hab hc
      have := h.rank e he
      rcases fall h n e.2 (by omega) h2 with h3 | h3
      · rw [← h3]; exact .inr this
      · exact .inr (by omega)
theorem lt (h : Cnt E c r) {a b : Sb} (hc : c a b ≠ 0) : a = b ∨ r b < r a := h.fall _ a (Nat.lt_succ_self _) hc
theorem tr (h : Cnt E c r) {x b : Sb} (hx : c x b ≠ 0) : ∀ (n : Nat) (a : Sb), r a < n → c a x ≠ 0 → c a b ≠ 0
  | 0, a, hn, _ => by omega
  | n + 1, a, hn, hc => by
    by_cases hax : a = x
    · rw [hax]; exact hx
    · obtain ⟨e, he, rfl, h2⟩ := h.next hax hc
      exact h.edge he (tr h hx n e.2 (by have := h.rank e he; omega) h2)
theorem trans (h : Cnt E c r) {a x b : Sb} (h1 : c a x ≠ 0) (h2 : c x b ≠ 0) : c a b ≠ 0 := h.tr h2 _ a (Nat.lt_succ_self _) h1
theorem noin (h : Cnt E c r) {b : Sb} (hb : ∀ e ∈ E, e.2 ≠ b) : ∀ (n : Nat) (a : Sb), r a < n → a ≠ b → c a b = 0
  | 0, a, hn, _ => by omega
  | n + 1, a, hn, hab => Classical.byContradiction fun hc => by
    obtain ⟨e, he, rfl, h2⟩ := h.next hab hc
    exact h2 (noin h hb n e.2 (by have := h.rank e he; omega) (hb e he))
theorem noout (h : Cnt E c r) {a b : Sb} (ha : ∀ e ∈ E, e.1 ≠ a) (hab : a ≠ b) : c a b = 0 := Classical.byContradiction fun hc => by
  obtain ⟨e, he, h1, _⟩ := h.next hab hc
  exact ha e he h1
end Cnt
theorem ecnt_lin (k : Sb → Int) (s : Sb) (a b : Sb) : ∀ E : List Ed, ecnt (fun a b => c a b + c a s * k b) a b E = ecnt c a b E + ecnt c a s E * k b
  | [] => by simp [ecnt]
  | e :: E => by
    simp only [ecnt, ecnt_lin k s a b E]
    by_cases h : e.1 = a
    · simp only [if_pos h, Int.add_mul]; omega
    · simp only [if_neg h, Int.zero_add]
theorem ecnt_zero {a b : Sb} : ∀ (E : List Ed), (∀ e ∈ E, e.1 = a → c e.2 b = 0) → ecnt c a b E = 0 := fun E h => Classical.byContradiction fun hc => by
  obtain ⟨e, he, h1, h2⟩ := ecnt_ne E hc
  exact h2 (h e he h1)
namespace Cnt
theorem ret (h : Cnt E c r) (s : Sb) : ecnt c s s E = 0 := ecnt_zero E fun e he h1 => Classical.byContradiction fun hc => by
  have := h.rank e he
  rcases h.lt hc with h2 | h2
  · rw [h1, h2] at this; omega
  · rw [h1] at this; omega
theorem add (h : Cnt E c r) {s j : Sb} (hjs : c j s = 0) : ∃ r', Cnt (E ++ [(s, j)]) (fun a b => c a b + c a s * c j b) r' := by
  refine ⟨fun x => r x + if c x s ≠ 0 then r j + 1 else 0, ⟨fun e he => ?_, fun a b => ?_⟩⟩
  · rcases List.mem_append.1 he with he | he
    · have := h.rank e he
      by_cases h1 : c e.2 s ≠ 0
      · rw [if_pos h1, if_pos (h.edge he h1)]; omega
      · rw [if_neg h1]; split <;> omega
    · rw [List.mem_singleton] at he; subst he
      show r j + (if c j s ≠ 0 then _ else _) < r s + (if c s s ≠ 0 then _ else _)
      rw [hjs, h.self]; simp; omega
  · rw [ecnt_app, ecnt_lin (c j) s]
    simp only [ecnt]
    by_cases hab : a = b
    · subst hab
      rw [if_pos rfl, h.self]
      have : c a s * c j a = 0 := by
        by_cases h1 : c a s = 0
        · rw [h1]; simp
        · by_cases h2 : c j a = 0
          · rw [h2]; simp
          · exact absurd hjs (h.trans h2 h1)
      omega
    · rw [if_neg hab]
      have e1 := h.eq a b
      rw [if_neg hab] at e1
      have e3 : c j b + c j s * c j b = c j b := by rw [hjs]; omega
      by_cases has : a = s
      · subst has
        rw [if_pos rfl, e3, e1, h.ret, h.self]; omega
      · have e2 := h.eq a s
        rw [if_neg has] at e2
        rw [if_neg (fun e => has e.symm), e1, ← e2]; omega
theorem del {A B : List Ed} {s j : Sb} (h : Cnt (A ++ (s, j) :: B) c r) : Cnt (A ++ B) (fun a b => c a b - c a s * c j b) r := by
  have hjs : c j s = 0 := Classical.byContradiction fun hc => by
    have := h.rank (s, j) (by simp)
    simp only at this
    rcases h.lt hc with h1 | h1
    · rw [h1] at this; omega
    · omega
  have hmem : ∀ e, e ∈ A ++ B → e ∈ A ++ (s, j) :: B := fun e he => by
    rcases List.mem_append.1 he with he | he <;> simp [he]
  have hsplit : ∀ a b, ecnt c a b (A ++ (s, j) :: B) = ecnt c a b (A ++ B) + if s = a then c j b else 0 := fun a b => by
    simp only [ecnt_app, ecnt]; omega
  refine ⟨fun e he => h.rank e (hmem e he), fun a b => ?_⟩
  have hl : ecnt (fun a b => c a b - c a s * c j b) a b (A ++ B) = ecnt c a b (A ++ B) - ecnt c a s (A ++ B) * c j b := by
    have := ecnt_lin (c := c) (fun b => - c j b) s a b (A ++ B)
    have e : (fun a b => c a b + c a s * - c j b) = (fun a b => c a b - c a s * c j b) := by
      funext a b; rw [Int.mul_neg]; omega
    rw [e] at this
    rw [this, Int.mul_neg]; omega
  rw [hl]
  by_cases hab : a = b
  · subst hab
    rw [if_pos rfl, h.self]
    have : c a s * c j a = 0 := by
      by_cases h1 : c a s = 0
      · rw [h1]; simp
      · by_cases h2 : c j a = 0
        · rw [h2]; simp
        · exact absurd hjs (h.trans h2 h1)
    omega
  · rw [if_neg hab]
    have e1 := h.eq a b
    rw [if_neg hab, hsplit] at e1
    by_cases has : a = s
    · subst has
      have e2 := h.ret a
      rw [hsplit, if_pos rfl, hjs] at e2
      rw [if_pos rfl] at e1
      rw [h.self]
      have : ecnt c a a (A ++ B) = 0 := by omega
      rw [this]; omega
    · have e2 := h.eq a s
      rw [if_neg has, hsplit, if_neg (fun e => has e.symm)] at e2
      rw [if_neg (fun e => has e.symm)] at e1
      rw [e1, e2]; simp
theorem cntP_le {p q : Ed → Bool} (hpq : ∀ e, p e = true → q e = true) (E : List Ed) : E.countP p ≤ E.countP q := List.countP_mono_left fun e _ => hpq e
theorem out_le {n : Nat} {a b : Sb} (hc : ∀ e ∈ E, e.1 = a → c e.2 b ≤ 2 ^ n) : ∀ (F : List Ed), (∀ e ∈ F, e ∈ E) → ecnt c a b F ≤ (F.countP fun e => e.1 == a) * 2 ^ n
  | [], _ => by simp [ecnt]
  | e :: F, h => by
    have ih := out_le hc F fun x hx => h x (by simp [hx])
    have h0 := hc e (h e (by simp))
    unfold ecnt
    by_cases h1 : e.1 = a
    · rw [if_pos h1, List.countP_cons_of_pos (by simpa using h1)]
      have := h0 h1
      rw [Int.natCast_add, Int.add_mul]
      omega
    · rw [if_neg h1, List.countP_cons_of_neg (by simpa using h1)]; omega
theorem bound (h : Cnt E c r) (b : Sb) : ∀ (n : Nat) (a : Sb), r a < n → c a b ≤ 2 ^ (E.countP fun e => decide (r e.1 ≤ r a))
  | 0, a, hn => by omega
  | n + 1, a, hn => by
    rw [h.eq]
    have one : ∀ k : Nat, (1 : Int) ≤ 2 ^ k := fun k => by
      have : (1 : Nat) ≤ 2 ^ k := Nat.one_le_two_pow
      exact_mod_cast this
    split
    · exact one _
    · have key : ∀ e ∈ E, e.1 = a → c e.2 b ≤ 2 ^ (E.countP fun e => decide (r e.1 < r a)) := fun e he h1 => by
        have hr := h.rank e he
        rw [h1] at hr
        have := bound h b n e.2 (by omega)
        refine Int.le_trans this ?_
        have h2 := cntP_le (p := fun x : Ed => decide (r x.1 ≤ r e.2)) (q := fun x : Ed => decide (r x.1 < r a)) (fun x hx => by simp only [decide_eq_true_eq] at hx ⊢; omega) E
        have := Nat.pow_le_pow_right (n := 2) (by omega) h2
        exact_mod_cast this
      have h3 := out_le key E fun e he => he
      refine Int.le_trans h3 ?_
      have h4 : E.countP (fun e => e.1 == a) + E.countP (fun e => decide (r e.1 < r a)) ≤ E.countP (fun e => decide (r e.1 ≤ r a)) := by
        clear h h3 key one bound
        induction E with
        | nil => simp
        | cons e E ih =>
          simp only [List.countP_cons]
          by_cases h1 : e.1 = a
          · subst h1; simp; omega
          · have : (e.1 == a) = false := by simpa using h1
            rw [this]
            by_cases h2 : r e.1 < r a
            · have : r e.1 ≤ r a := by omega
              simp [h2, this]; omega
            · simp only [h2, decide_false, Bool.false_eq_true, if_false]; split <;> omega
      have h5 : ∀ k m : Nat, ((k : Int)) * 2 ^ m ≤ 2 ^ (k + m) := fun k m => by
        have : k * 2 ^ m ≤ 2 ^ (k + m) := by rw [Nat.pow_add]; exact Nat.mul_le_mul_right _ (Nat.le_of_lt Nat.lt_two_pow_self)
        exact_mod_cast this
      refine Int.le_trans (h5 _ _) ?_
      have := Nat.pow_le_pow_right (n := 2) (by omega) h4
      exact_mod_cast this
theorem le (h : Cnt E c r) (a b : Sb) : c a b ≤ 2 ^ E.length := by
  refine Int.le_trans (h.bound b _ a (Nat.lt_succ_self _)) ?_
  have := Nat.pow_le_pow_right (n := 2) (by omega) (List.countP_le_length (p := fun e : Ed => decide (r e.1 ≤ r a)) (l := E))
  exact_mod_cast this
end Cnt
def step1 (x : Sb) : List Sb → List Ed → List Sb
  | out, [] => out
  | out, e :: E => step1 x (if e.1 = x ∧ ¬ e.2 ∈ out then out ++ [e.2] else out) E
def bfs (E : List Ed) : Nat → Nat → List Sb → List Sb
  | 0, _, out => out
  | f + 1, i, out => if i < out.length ∧ i < 1000 then bfs E f (i + 1) (step1 (out.getD i []) out E) else out
theorem step1_spec (x : Sb) : ∀ (F : List Ed) (out : List Sb), ∃ L, step1 x out F = out ++ L ∧ (∀ y ∈ L, (x, y) ∈ F) ∧ (∀ e ∈ F, e.1 = x → e.2 ∈ out ++ L) ∧ (out.Nodup → (out ++ L).Nodup)
  | [], out => ⟨[], by simp [step1], by simp, by simp, by simp⟩
  | e :: F, out => by
    unfold step1
    split
    · rename_i h
      obtain ⟨L, h1, h2, h3, h4⟩ := step1_spec x F (out ++ [e.2])
      refine ⟨e.2 :: L, by rw [h1]; simp, fun y hy => ?_, fun d hd hx => ?_, fun hn => ?_⟩
      · rcases List.mem_cons.1 hy with rfl | hy
        · rw [← h.1]; simp
        · simp [h2 y hy]
      · rcases List.mem_cons.1 hd with rfl | hd
        · simp
        · have := h3 d hd hx; simpa using this
      · have := h4 (List.nodup_append.2 ⟨hn, by simp, fun a ha b hb e' => by rw [List.mem_singleton] at hb; subst hb; subst e'; exact h.2 ha⟩)
        simpa using this
    · rename_i h
      obtain ⟨L, h1, h2, h3, h4⟩ := step1_spec x F out
      refine ⟨L, h1, fun y hy => by simp [h2 y hy], fun d hd hx => ?_, h4⟩
      rcases List.mem_cons.1 hd with rfl | hd
      · have : d.2 ∈ out := Classical.byContradiction fun hn => h ⟨hx, hn⟩
        simp [this]
      · exact h3 d hd hx
theorem nodup_len {l m : List Sb} (hn : l.Nodup) (h : ∀ x ∈ l, x ∈ m) : l.length ≤ m.length := by
  induction l generalizing m with
  | nil => simp
  | cons x l ih =>
    rw [List.nodup_cons] at hn
    have hx := h x (by simp)
    have := ih (m := m.erase x) hn.2 fun y hy => by
      have hyx : y ≠ x := fun e => hn.1 (e ▸ hy)
      exact (List.mem_erase_of_ne hyx).2 (h y (by simp [hy]))
    rw [List.length_erase_of_mem hx] at this
    have : 0 < m.length := List.length_pos_of_mem hx
    simp only [List.length_cons]; omega
theorem bfs_spec (h : Cnt E c r) (a : Sb) (hE : E.length ≤ 900) : ∀ (f i : Nat) (out : List Sb), (∀ x ∈ out, c a x ≠ 0) → a ∈ out → out.Nodup → (∀ x ∈ out, x = a ∨ ∃ e ∈ E, e.2 = x) → (∀ k < i, ∀ x, out[k]? = some x → ∀ e ∈ E, e.1 = x → e.2 ∈ out) → i ≤ out.length → E.length + 2 ≤ f + i →
    ∀ b, b ∈ bfs E f i out ↔ c a b ≠ 0 := by
  intro f
  induction f with
  | zero =>
    intro i out h1 h2 h3 h4 h5 h6 h7
    have := nodup_len (m := a :: E.map (·.2)) h3 fun x hx => by
      rcases h4 x hx with rfl | ⟨e, he, rfl⟩
      · simp
      · exact List.mem_cons_of_mem _ (List.mem_map_of_mem he)
    simp at this; omega
  | succ f ih =>
    intro i out h1 h2 h3 h4 h5 h6 h7 b
    have hlen := nodup_len (m := a :: E.map (·.2)) h3 fun x hx => by
      rcases h4 x hx with rfl | ⟨e, he, rfl⟩
      · simp
      · exact List.mem_cons_of_mem _ (List.mem_map_of_mem he)
    simp only [List.length_cons, List.length_map] at hlen
    unfold bfs
    split
    · rename_i hi
      obtain ⟨L, g1, g2, g3, g4⟩ := step1_spec (out.getD i []) E out
      have hx : out[i]? = some (out.getD i []) := by rw [List.getD_eq_getElem?_getD, List.getElem?_eq_getElem hi.1]; rfl
      rw [g1]
      refine ih (i + 1) (out ++ L) (fun x hx' => ?_) (by simp [h2]) (g4 h3) (fun x hx' => ?_) (fun k hk x hxk e he h1' => ?_) (by simp; omega) (by omega) b
      · rcases List.mem_append.1 hx' with hx' | hx'
        · exact h1 x hx'
        · have hin := g2 x hx'
          exact h.trans (h1 _ (List.mem_of_getElem? hx)) (h.edge (e := (out.getD i [], x)) hin (by rw [h.self]; omega))
      · rcases List.mem_append.1 hx' with hx' | hx'
        · exact h4 x hx'
        · exact .inr ⟨_, g2 x hx', rfl⟩
      · rcases Nat.lt_or_ge k i with hk' | hk'
        · rw [List.getElem?_append_left (by omega)] at hxk
          exact List.mem_append_left _ (h5 k hk' x hxk e he h1')
        · have : k = i := by omega
          subst this
          rw [List.getElem?_append_left hi.1, hx] at hxk
          injection hxk with hxk
          exact g3 e he (by rw [h1', hxk])
    · rename_i hi
      have hil : i = out.length := by omega
      constructor
      · exact h1 b
      · have key : ∀ (n : Nat) (x : Sb), r x < n → x ∈ out → c x b ≠ 0 → b ∈ out := by
          intro n
          induction n with
          | zero => intro x hx; omega
          | succ n ihn =>
            intro x hx hm hc
            by_cases hxb : x = b
            · rw [← hxb]; exact hm
            · obtain ⟨e, he, e1, e2⟩ := h.next hxb hc
              obtain ⟨k, hk, hk2⟩ := List.getElem_of_mem hm
              have hcl := h5 k (by omega) x (by rw [List.getElem?_eq_getElem hk, hk2]) e he e1
              exact ihn e.2 (by have := h.rank e he; rw [e1] at this; omega) hcl e2
        exact key _ a (Nat.lt_succ_self _) h2
theorem reached (h : Cnt E c r) (a : Sb) (hE : E.length ≤ 900) (b : Sb) : b ∈ bfs E (E.length + 2) 0 [a] ↔ c a b ≠ 0 :=
  bfs_spec h a hE _ 0 [a] (fun x hx => by rw [List.mem_singleton] at hx; subst hx; rw [h.self]; omega) (by simp) (by simp) (fun x hx => .inl (by simpa using hx)) (fun k hk => by omega) (by simp) (by omega) b
end GP
namespace GP
open Go
inductive Frz : D → Hp → D → Hp → Prop where
  | refl (r : D) (H : Hp) : Frz r H r H
  | step {r r2 : D} {H H2 : Hp} (o : Nat) (cs : List D) : H[o]? = some (.row cs) → Frz (r.fz o cs) (H.set o .dead) r2 H2 → Frz r H r2 H2
section
variable {P : Program}
def SameOb (x y : Ob) : Prop := x = y ∨ ∃ cs, x = .row cs ∧ y = .row (D.eraseL cs)
def SameH (Hm H1 : Hp) : Prop := Hm.length = H1.length ∧ ∀ (o : Nat) x y, Hm[o]? = some x → H1[o]? = some y → SameOb x y
theorem SameH.refl (H : Hp) : SameH H H := ⟨rfl, fun o x y h h' => by rw [h] at h'; injection h' with h'; exact .inl h'⟩
def Crs (a b : D) : Prop := ∀ c v, Rep c a v → Rep c b v
theorem Crs.refl (a : D) : Crs a a := fun _ _ h => h
theorem Crs.erase {a b : D} (h : a.erase = b) : Crs a b := fun _ _ hr => h ▸ hr.erase
theorem Crs.trans {a b d : D} (h : Crs a b) (k : Crs b d) : Crs a d := fun c v hr => k c v (h c v hr)
def Closed (H H1 : Hp) (n : Nat) : Prop := H.length ≤ H1.length ∧ ∀ (o : Nat) x cs, H1[o]? = some x → x.cells? = some cs → H[o]? = some x ∨ D.clL H1.length n cs = true
variable [HasG P]
abbrev FsE := List (FuncId × (Hp → List D → Option (D × Hp)))
def lookE : FsE → Hp → FuncId → List D → Option (D × Hp)
  | [], _, _, _ => none
  | (g, φ) :: l, H, f, a => if f = g then φ H a else lookE l H f a
def inE : FsE → FuncId → Bool
  | [], _ => false
  | (g, _) :: l, f => decide (f = g) || inE l f
theorem lookE_nil (H : Hp) (f : FuncId) (a : List D) : lookE [] H f a = none := id rfl
theorem lookE_cons (g : FuncId) (φ : Hp → List D → Option (D × Hp)) (l : FsE) (H : Hp) (f : FuncId) (a : List D) : lookE ((g, φ) :: l) H f a = if f = g then φ H a else lookE l H f a := id rfl
theorem inE_nil (f : FuncId) : inE [] f = false := id rfl
theorem inE_cons (g : FuncId) (φ : Hp → List D → Option (D × Hp)) (l : FsE) (f : FuncId) : inE ((g, φ) :: l) f = (decide (f = g) || inE l f) := id rfl
theorem lookE_in : ∀ {l : FsE} {H : Hp} {f : FuncId} {a : List D}, inE l f = false → lookE l H f a = none
  | [], _, _, _, _ => rfl
  | (g, φ) :: l, H, f, a, h => by
    simp only [inE, Bool.or_eq_false_iff, decide_eq_false_iff_not] at h
    simp only [lookE]
    rw [if_neg h.1]; exact lookE_in h.2
def XE (l : Fs) (m : FsH) (e : FsE) : Pred := fun f args H T Q => match look l f (D.eraseL args) with
  | some r => Q r H T
  | none => match lookH m H f (D.eraseL args) with
    | some r => Q r H T
    | none => match lookE e H f (D.eraseL args) with
      | some (r, H') => Q r H' T
      | none => False
def OkAtE (P : Program) [HasG P] (f : FuncId) (φ : Hp → List D → Option (D × Hp)) : Prop := ∀ H args r H', φ H args = some (r, H') → ∀ args', D.eraseL args' = args → ∀ T (Q : Post), Q r H' T → Snd P f args' H T Q
def OkE (P : Program) [HasG P] (m : FsE) : Prop := ∀ H f args r H', lookE m H f args = some (r, H') → ∀ args', D.eraseL args' = args → ∀ T (Q : Post), Q r H' T → Snd P f args' H T Q
theorem OkE.nil : OkE P [] := fun _ _ _ _ _ h => by simp [lookE] at h
theorem OkE.cons {f : FuncId} {φ : Hp → List D → Option (D × Hp)} {m : FsE} (h : OkAtE P f φ) (k : OkE P m) : OkE P ((f, φ) :: m) := by
  intro H g args r H' hr
  simp only [lookE] at hr
  split at hr
  · rename_i e; subst e; exact h H args r H' hr
  · exact k H g args r H' hr
theorem XE.X {l : Fs} {m : FsH} {e : FsE} (k : Ok P l) (k' : OkH P m) (k'' : OkE P e) : ∀ f args H T Q Q', (∀ r H T, Q r H T → Q' r H T) → XE l m e f args H T Q → Snd P f args H T Q' := by
  intro f args H T Q Q' hQ h
  unfold XE at h
  split at h
  · rename_i r hr
    exact k f _ r hr args rfl H T Q' (hQ _ _ _ h)
  · split at h
    · rename_i r hr
      exact k' H f _ r hr args rfl T Q' (hQ _ _ _ h)
    · split at h
      · rename_i r H' hr
        exact k'' H f _ r H' hr args rfl T Q' (hQ _ _ _ h)
      · exact h.elim
def pcallN (X : Pred) (args : List D) (K : D → S → Prop) (s : S) (d : D) : Prop := pcallK X args K s d
theorem pcallE {l : Fs} {m : FsH} {e : FsE} (hm : MonoH m) (args : List D) (K : D → S → Prop) (s : S) (f : FuncId) (first cap : List D) :
    pcallK (XE l m e) args K s (.fn f first cap) = if inE e f = true then pcallN (XE l m e) args K s (.fn f first cap) else orK K s (look l f (D.eraseL (first ++ args ++ cap))) (lookH m s.H f (D.eraseL (first ++ args ++ cap))) := by
  cases he : inE e f with
  | true => rfl
  | false =>
    rw [if_neg (by simp)]
    have hx : ∀ a H T Q, XE l m e f a H T Q = XM l m f a H T Q := by
      intro a H T Q
      unfold XE XM
      (rw [lookE_in he]) <;> rfl
    rw [← pcallH hm]
    simp only [pcallK, eq_iff_iff]
    unfold Pure
    simp only [hx]
def orE (Q : Post) (T : Tk) : Option (D × Hp) → Prop
  | some (r, H') => Q r H' T
  | none => False
def orX (Q : Post) (H : Hp) (T : Tk) : Option D → Option D → Option (D × Hp) → Prop
  | some r, _, _ => Q r H T
  | none, some r, _ => Q r H T
  | none, none, x => orE Q T x
theorem XE_eq (l : Fs) (m : FsH) (e : FsE) (f : FuncId) (args : List D) (H : Hp) (T : Tk) (Q : Post) : XE l m e f args H T Q = orX Q H T (look l f (D.eraseL args)) (lookH m H f (D.eraseL args)) (lookE e H f (D.eraseL args)) := by
  unfold XE
  cases look l f (D.eraseL args) with
  | some r => rfl
  | none =>
    cases lookH m H f (D.eraseL args) with
    | some r => rfl
    | none =>
      cases lookE e H f (D.eraseL args) with
      | some x => rfl
      | none => rfl
theorem orX_s (Q : Post) (H : Hp) (T : Tk) (r : D) (x : Option D) (y : Option (D × Hp)) : orX Q H T (some r) x y = Q r H T := id rfl
theorem orX_n (Q : Post) (H : Hp) (T : Tk) (r : D) (y : Option (D × Hp)) : orX Q H T none (some r) y = Q r H T := id rfl
theorem orX_e (Q : Post) (H : Hp) (T : Tk) (y : Option (D × Hp)) : orX Q H T none none y = orE Q T y := id rfl
theorem orE_s (Q : Post) (T : Tk) (r : D) (H' : Hp) : orE Q T (some (r, H')) = Q r H' T := id rfl
theorem Closed.refl (H : Hp) (n : Nat) : Closed H H n := ⟨Nat.le_refl _, fun _ _ _ h _ => .inl h⟩
end
end GP
namespace GP
open Go Go.Proofs Go.Sort
section
variable {P : Program}
theorem Inv.grownB {b : Bool} {c : Cx} {w w' : World} {H : Hp} (k : Inv c w H) (hb : Below (b, w.heap.size) w w') : Inv c w' H := by
  have lt : ∀ {a : Addr} {v : Value}, w.cell? a = some v → w'.cell? a = some v := by
    intro a v h
    have hlt : a.block < w.heap.size := by
      rcases Nat.lt_or_ge a.block w.heap.size with h' | h'
      · exact h'
      · simp [World.cell?, Array.getElem?_eq_none h'] at h
    unfold World.cell? at h ⊢
    rw [hb.block _ hlt]; exact h
  refine ⟨fun a v h => lt (k.keep a v h), Nat.le_trans k.low hb.size, ?_, k.free, ?_, k.apart, fun o es clk ho => ⟨(k.map o es clk ho).1, by rw [hb.block _ (k.own o _ ho rfl).2.2.1]; exact (k.map o es clk ho).2⟩, fun o m sn se la ho => (k.iter o m sn se la ho).mono (Cx.le.refl c) rfl (by rw [hb.block _ (k.own o _ ho rfl).2.2.1]), ?_, k.tokrow, k.toks⟩
  · intro o x cs h1 h2
    obtain ⟨vs, rest, e, fr, h, g⟩ := (k.row o x cs h1 h2).hold
    have hlt : c.β o < w.heap.size := by
      rcases Nat.lt_or_ge (c.β o) w.heap.size with h' | h'
      · exact h'
      · rw [Array.getElem?_eq_none h'] at h; cases h
    exact ⟨vs, rest, e, fr, by rw [hb.block _ hlt]; exact h, g⟩
  · intro o x h1 h2
    obtain ⟨a, b, d, e⟩ := k.own o x h1 h2
    exact ⟨a, b, Nat.lt_of_lt_of_le d hb.size, e⟩
  · intro τ n z h
    obtain ⟨a, b, d, e, f⟩ := k.tok τ n z h
    refine ⟨a, Nat.lt_of_lt_of_le b hb.size, d, e, fun j h1 h2 => ?_⟩
    obtain ⟨g1, g2, g3⟩ := f j h1 h2
    have hbl : w'.heap[(c.κ τ).1.block]? = w.heap[(c.κ τ).1.block]? := hb.block _ b
    refine ⟨?_, ?_, g3⟩
    · rw [← g1]; unfold World.cell?; rw [hbl]
    · rw [← g2]; unfold World.frozen?; rw [hbl]
theorem putCells_set (vs : List Value) : ∀ (w : World) (b off : Nat), putCells w b off vs = w.setCells b off vs := by
  induction vs with
  | nil => intros; rfl
  | cons v vs ih => intro w b off; rw [putCells, ih]; rfl
theorem put_grown {c : Cx} {w : World} {H : Hp} (k : Inv c w H) {o : Nat} {cs ds : List D} {us : List Value} (ho : H[o]? = some (.row cs)) (kc : Cells c ds us) {off : Nat} (h1 : off + ds.length ≤ cs.length) (m : Nat) (os : Array Obj) :
    Inv c (grow ((Sort.ahead w m).setCells (c.β o) off us) os) (H.set o (.row (cs.take off ++ ds ++ cs.drop (off + ds.length)))) ∧ Below c.bb w (grow ((Sort.ahead w m).setCells (c.β o) off us) os) := by
  have k1 : Inv c (Sort.ahead w m) H := Inv.congr (w := w) (w' := Sort.ahead w m) rfl k
  have hf := row_fits k ho rfl
  obtain ⟨_, g2, g3⟩ := put_inv (P := default) k1 ho rfl kc (off := off) (by omega) (by omega)
  rw [putCells_set] at g2 g3
  have hg : ∀ (b : Bool) (x : World), Below (b, x.heap.size) x (grow x os) := fun b x => ⟨rfl, rfl, rfl, by simp, fun i hi => by simp [grow, Array.getElem?_append_left hi], fun _ => Nat.le_refl _⟩
  refine ⟨g2.grownB (hg false _), ?_⟩
  have h0 : Below c.bb w (Sort.ahead w m) := ⟨rfl, rfl, rfl, Nat.le_refl _, fun _ _ => rfl, fun _ => Nat.le_add_right _ _⟩
  exact (h0.trans g3).trans (Below.mono (b := c.bb.1) (hg _ _) g2.low)
variable [inst : HasG P]
end
end GP
namespace GP
open Go Go.Proofs Go.Sort Go.RowKit
theorem putRow_map {α : Type} [Inhabited α] (enc : α → Value) (W : World) (b off : Nat) (d : Array α) : Sort.putRow enc W b off d = Sort.putRow id W b off (d.map enc) := by
  unfold Sort.putRow
  congr 1
  funext c
  unfold Sort.putCells
  apply Array.ext_getElem?
  intro k
  simp only [Array.getElem?_mapIdx, Array.size_map]
  cases c[k]? with
  | none => rfl
  | some x =>
    simp only [Option.map_some, id]
    by_cases h : off ≤ k ∧ k < off + d.size
    · rw [if_pos h, if_pos h, getElem!_pos d _ (by omega), getElem!_pos _ _ (by simp; omega), Array.getElem_map]
    · rw [if_neg h, if_neg h]
theorem setCells_all (W : World) (b off : Nat) (F vals : List Value) (hl : F.length = vals.length) (h : Holds id W b off F.toArray) : W.setCells b off vals = Sort.putRow id W b off vals.toArray := by
  have e0 : Sort.putRow id W b off F.toArray = W := putRow_self id _ _ _ _ h
  have e1 := setCells_putRow W b off vals 0 F.toArray (by simp [hl])
  rw [e0, Nat.add_zero] at e1
  rw [e1]
  congr 1
  apply ext_get!
  · simp [hl]
  · intro t ht
    rw [get_setMany _ _ _ _ (by simpa [hl] using ht), if_pos (by simpa [hl] using ht)]
    simp only [Nat.sub_zero]
    rw [getElem!_pos vals t (by simpa [hl] using ht), getElem!_pos vals.toArray t (by simpa [hl] using ht)]
    simp
def sortS (l : List (List UInt8)) : List (List UInt8) := l.mergeSort fun x y => decide (x ≤ y)
variable {P : Program} [HasG P]
theorem strs_snd {f : FuncId} (ef : ∀ args w, (callFunc f args).run P w = .ok (.enter f args) w) {H : Hp} {o off cap : Nat} {A B : List D} {l l' : List (List UInt8)} {rd : D} {rv : Nat → Nat → Value}
    (hC : ∀ (blk rc : Nat) (w : World), Holds encStr w blk off l.toArray → blk < w.heap.size → l.length ≤ rc → Calls P f #[.slice (some ⟨blk, off, none⟩) l.length rc] w fun e w' => e = .returned (rv blk rc) ∧ ∃ q os, w' = grow (Sort.putRow encStr (Sort.ahead w q) blk off l'.toArray) os)
    (hsl : l'.length = l.length) (hmem : ∀ s ∈ l', s ∈ l ∨ s = []) (hrv : ∀ (c : Cx) (rc : Nat), c.bd o = true → l.length ≤ cap → cap ≤ rc → off + rc * 1 ≤ c.sz o → Rep c rd (rv (c.β o) rc))
    (ho : H[o]? = some (.row (A ++ l.map D.str ++ B))) (hA : A.length = off) {T : Tk} {Q : Post} (hQ : Q rd (H.set o (.row (A ++ l'.map D.str ++ B))) T) :
    Snd P f [.ms false 1 o off l.length cap] H T Q := by
  intro c w args hg k1 kT kr
  match args, kr.len with
  | [va], _ =>
    have ra := kr.rep 0 (by simp) (by simp)
    simp only [List.getElem_cons_zero] at ra
    cases ra with
    | ms _ _ _ _ _ _ rc hb g1 g2 g3 =>
    refine .inl ⟨ef _ _, ?_⟩
    obtain ⟨vs, rest, e, fr, q1, q2, q4, q3⟩ := (k1.row o _ _ ho rfl).hold
    have hvl : vs.length = off + l.length + B.length := by rw [q2.len]; simp [hA]; omega
    have hown := k1.own o _ ho rfl
    have hblk : c.β o < w.heap.size := hown.2.2.1
    have hv : ∀ j (hj : j < l.length), vs[off + j]? = some (encStr l[j]) := fun j hj => by
      have h1 := q2.rep (off + j) (by simp [hA]; omega) (by omega)
      have e1 : (A ++ l.map D.str ++ B)[off + j]'(by simp [hA]; omega) = .str l[j] := by
        rw [List.getElem_append_left (by simp [hA]; omega), List.getElem_append_right (by omega)]
        simp [hA]
      rw [e1] at h1
      rw [List.getElem?_eq_getElem (by omega)]
      congr 1
      generalize vs[off + j]'(by omega) = u at h1
      cases h1; rfl
    have hH : Holds encStr w (c.β o) off l.toArray := by
      intro j hj
      have hj' : j < l.length := by simpa using hj
      constructor
      · simp only [World.cell?, q1]
        simp only [Option.isSome_none, Bool.false_eq_true, if_false, List.getElem?_toArray, id]
        rw [List.getElem?_append_left (by omega), hv j hj', getElem!_pos l.toArray j (by simpa using hj)]
        simp
      · simp only [World.frozen?, q1]
        have := q3 (off + j) (by omega)
        simpa using this
    have hrep := hrv c rc hb g1 g2 g3
    refine (hC (c.β o) rc w hH hblk (by omega)).mono ?_
    rintro e w' ⟨rfl, m, os, rfl⟩
    have hkc : Cells c (l'.map D.str) (l'.map encStr) := by
      refine ⟨by simp, fun d hd => ?_, fun i h h' => ?_⟩
      · obtain ⟨s, _, rfl⟩ := List.mem_map.1 hd; rfl
      · simp only [List.getElem_map]
        have hs := hmem _ (List.getElem_mem (l := l') (n := i) (by simpa using h))
        rcases hs with hs | hs
        case inr => rw [hs]; exact .str [] (by simp)
        obtain ⟨j, hj, e1⟩ := List.getElem_of_mem hs
        have h1 := q2.rep (off + j) (by simp [hA]; omega) (by omega)
        have e2 : (A ++ l.map D.str ++ B)[off + j]'(by simp [hA]; omega) = .str l[j] := by
          rw [List.getElem_append_left (by simp [hA]; omega), List.getElem_append_right (by omega)]
          simp [hA]
        rw [e2, e1] at h1
        generalize vs[off + j]'(by omega) = u at h1
        cases h1
        rename_i hlen
        exact .str _ hlen
    have hw : Sort.putRow encStr (Sort.ahead w m) (c.β o) off l'.toArray = (Sort.ahead w m).setCells (c.β o) off (l'.map encStr) := by
      rw [setCells_all (F := l.map encStr) _ _ _ _ (by simp [hsl]), putRow_map]
      · simp
      · intro j hj
        have hj' : j < l.length := by simpa using hj
        have h1 := hH j (by simpa using hj')
        rw [getElem!_pos l.toArray j (by simpa using hj')] at h1
        rw [getElem!_pos _ j hj]
        simpa using h1
    show CallPost _ _ _ _ (grow (Sort.putRow encStr (Sort.ahead w m) (c.β o) off l'.toArray) os)
    rw [hw]
    obtain ⟨z1, z2⟩ := put_grown k1 ho hkc (off := off) (by simp [hsl, hA]) m os
    have e3 : (A ++ l.map D.str ++ B).take off ++ l'.map D.str ++ (A ++ l.map D.str ++ B).drop (off + (l'.map D.str).length) = A ++ l'.map D.str ++ B := by
      have : off + (l'.map D.str).length = (A ++ l.map D.str).length := by simp [hA, hsl]
      rw [this, List.drop_left, List.append_assoc A, List.take_left' hA]
    rw [e3] at z1
    exact ⟨_, rfl, rd, _, T, c, hQ, hrep, z1, Cx.le.refl c, kT, z2⟩
theorem sorts_snd {ρ : Go.Shelf.Ren} (L : Go.Proofs.Lays.n190 P ρ) {f : FuncId} (hf : ρ.f 190 = f) (ef : ∀ args w, (callFunc f args).run P w = .ok (.enter f args) w) {H : Hp} {o off cap : Nat} {A B : List D} {l : List (List UInt8)}
    (ho : H[o]? = some (.row (A ++ l.map D.str ++ B))) (hA : A.length = off) (hn2 : l.length < 2 ^ 62) {T : Tk} {Q : Post} (hQ : Q (.tup []) (H.set o (.row (A ++ (sortS l).map D.str ++ B))) T) :
    Snd P f [.ms false 1 o off l.length cap] H T Q :=
  strs_snd ef (rv := fun _ _ => .tuple #[]) (fun blk rc w h1 h2 _ => by have := Any.slices_Sort_string L blk off rc l w h1 h2 (by omega); rwa [hf] at this) (List.length_mergeSort _) (fun s hs => .inl ((List.mergeSort_perm l _).mem_iff.1 hs))
    (fun c rc _ _ _ _ => .tup [] [] rfl fun i h => absurd h (by simp)) ho hA hQ
def padS (l : List (List UInt8)) : List (List UInt8) := Lib.compact l ++ List.replicate (l.length - (Lib.compact l).length) []
theorem compacts_snd {ρ : Go.Shelf.Ren} (L : Go.Proofs.Lays.n194 P ρ) {f : FuncId} (hf : ρ.f 194 = f) (ef : ∀ args w, (callFunc f args).run P w = .ok (.enter f args) w) {H : Hp} {o off cap : Nat} {A B : List D} {l : List (List UInt8)}
    (hc : (Lib.compact l).length ≤ l.length) (hm : ∀ s ∈ Lib.compact l, s ∈ l) (ho : H[o]? = some (.row (A ++ l.map D.str ++ B))) (hA : A.length = off) (hn2 : l.length < 2 ^ 62) {T : Tk} {Q : Post}
    (hQ : Q (.ms false 1 o off (Lib.compact l).length cap) (H.set o (.row (A ++ (padS l).map D.str ++ B))) T) : Snd P f [.ms false 1 o off l.length cap] H T Q :=
  strs_snd ef (rv := fun blk rc => .slice (some ⟨blk, off, none⟩) (Lib.compact l).length rc) (fun blk rc w h1 h2 h3 => by
      have := Any.slices_Compact_string L blk off rc l w h1 (by omega) h3
      rw [hf] at this
      refine this.mono ?_
      rintro e w' ⟨rfl, q, rfl⟩
      have hg : ∀ W : World, grow W #[] = W := fun W => by cases W; simp [grow]
      exact ⟨rfl, q, #[], by rw [hg]; rfl⟩)
    (by simp [padS]; omega) (fun s hs => by
      unfold padS at hs
      rcases List.mem_append.1 hs with h | h
      · exact .inl (hm s h)
      · exact .inr (List.eq_of_mem_replicate h))
    (fun c rc h1 h2 h3 h4 => .ms _ _ _ _ _ _ rc h1 (by omega) h3 h4) ho hA hQ
end GP
namespace GP
open Go.Lib
theorem cmU_sub (d : Array Sb) : ∀ m, ∀ x ∈ compactUpTo d m, ∃ j < m, x = d[j]!
  | 0, x, h => by simp [compactUpTo] at h
  | m + 1, x, h => by
    rw [compactUpTo_succ, List.mem_append] at h
    rcases h with h | h
    · obtain ⟨j, h1, h2⟩ := cmU_sub d m x h
      exact ⟨j, by omega, h2⟩
    · split at h
      · rw [List.mem_singleton] at h; exact ⟨m, by omega, h⟩
      · cases h
theorem cmU_mem (d : Array Sb) : ∀ m j, j < m → d[j]! ∈ compactUpTo d m
  | 0, j, h => by omega
  | m + 1, j, h => by
    rw [compactUpTo_succ, List.mem_append]
    rcases Nat.lt_or_ge j m with h1 | h1
    · exact .inl (cmU_mem d m j h1)
    · have : j = m := by omega
      subst this
      by_cases hk : keeps d j = true
      · rw [if_pos hk]; simp
      · have hk' : j ≠ 0 ∧ d[j]! = d[j - 1]! := by
          unfold keeps at hk
          simp only [decide_eq_true_eq, not_or, Classical.not_not] at hk
          exact hk
        rw [hk'.2]
        exact .inl (cmU_mem d j (j - 1) (by omega))
theorem cm_mem (l : List Sb) (x : Sb) : x ∈ compact l ↔ x ∈ l := by
  unfold compact
  constructor
  · intro h
    obtain ⟨j, h1, rfl⟩ := cmU_sub _ _ x h
    rw [getElem!_pos l.toArray j (by simpa using h1)]
    simp
  · intro h
    obtain ⟨j, hj, rfl⟩ := List.getElem_of_mem h
    have := cmU_mem l.toArray l.length j hj
    rw [getElem!_pos l.toArray j (by simpa using hj)] at this
    simpa using this
theorem cm_rise {l : List Sb} (h : l.Pairwise (· ≤ ·)) : (compact l).Pairwise (· < ·) := by
  have key : ∀ m, m ≤ l.length → (compactUpTo l.toArray m).Pairwise (· < ·) := by
    intro m
    induction m with
    | zero => intro _; simp [compactUpTo]
    | succ m ih =>
      intro hm
      rw [compactUpTo_succ]
      split
      · rename_i hk
        refine List.pairwise_append.2 ⟨ih (by omega), by simp, fun a ha b hb => ?_⟩
        rw [List.mem_singleton] at hb; subst hb
        obtain ⟨j, hj, rfl⟩ := cmU_sub _ _ a ha
        have e1 : l.toArray[m]! = l[m] := by rw [getElem!_pos l.toArray m (by simp; omega)]; simp
        have e2 : ∀ i (hi : i < l.length), l.toArray[i]! = l[i] := fun i hi => by rw [getElem!_pos l.toArray i (by simpa using hi)]; simp
        have h1 : l.toArray[m]! ≠ l.toArray[m - 1]! := by
          unfold keeps at hk
          simp only [decide_eq_true_eq] at hk
          rcases hk with hk | hk
          · omega
          · exact hk
        rw [e1, e2 j (by omega)]
        rw [e1, e2 (m - 1) (by omega)] at h1
        rw [List.pairwise_iff_getElem] at h
        have h2 := h (m - 1) m (by omega) (by omega) (by omega)
        have h3 : l[j]'(by omega) ≤ l[m - 1]'(by omega) := by
          rcases Nat.lt_or_ge j (m - 1) with h4 | h4
          · exact h j (m - 1) (by omega) (by omega) h4
          · have : j = m - 1 := by omega
            subst this; exact List.le_refl _
        have h4 : l[m - 1]'(by omega) < l[m] := by
          rcases Classical.em (l[m - 1]'(by omega) < l[m]) with h5 | h5
          · exact h5
          · exact absurd (List.le_antisymm (List.not_lt.1 h5) h2) h1
        exact List.lt_of_le_of_lt h3 h4
      · simpa using ih (by omega)
  exact key l.length (Nat.le_refl _)
theorem sort_le (l : List Sb) : (sortS l).Pairwise (· ≤ ·) := by
  have := List.pairwise_mergeSort (le := fun x y : Sb => decide (x ≤ y)) (fun a b c h1 h2 => by simp only [decide_eq_true_eq] at *; exact List.le_trans h1 h2) (fun a b => by simp only [Bool.or_eq_true, decide_eq_true_eq]; exact List.le_total a b) l
  unfold sortS
  exact this.imp fun h => by simpa using h
def namesS (l : List Sb) : List Sb := compact (sortS l)
theorem names_mem (l : List Sb) (x : Sb) : x ∈ namesS l ↔ x ∈ l := by rw [namesS, cm_mem]; exact (List.mergeSort_perm l _).mem_iff
theorem names_rise (l : List Sb) : (namesS l).Pairwise (· < ·) := cm_rise (sort_le l)
theorem names_nodup (l : List Sb) : (namesS l).Nodup := (names_rise l).imp fun {a b} h => by rintro rfl; exact List.lt_irrefl _ h
theorem names_len {l m : List Sb} (hn : m.Nodup) (h : ∀ x, x ∈ m ↔ x ∈ l) : (namesS l).length = m.length :=
  Nat.le_antisymm (nodup_len (names_nodup l) fun x hx => (h x).2 ((names_mem l x).1 hx)) (nodup_len hn fun x hx => (names_mem l x).2 ((h x).1 hx))
def once (out : List Sb) (l : List Sb) : List Sb := l.foldl (fun out x => if x ∈ out then out else out ++ [x]) out
theorem once_spec : ∀ (l out : List Sb), out.Nodup → (once out l).Nodup ∧ ∀ x, x ∈ once out l ↔ x ∈ out ∨ x ∈ l
  | [], out, h => ⟨h, by simp [once]⟩
  | y :: l, out, h => by
    simp only [once, List.foldl_cons]
    by_cases hy : y ∈ out
    · rw [if_pos hy]
      obtain ⟨h1, h2⟩ := once_spec l out h
      refine ⟨h1, fun x => (h2 x).trans ?_⟩
      constructor
      · rintro (h | h) <;> simp [h]
      · rintro (h | h)
        · exact .inl h
        · rcases List.mem_cons.1 h with rfl | h
          · exact .inl hy
          · exact .inr h
    · rw [if_neg hy]
      obtain ⟨h1, h2⟩ := once_spec l (out ++ [y]) (List.nodup_append.2 ⟨h, by simp, fun a ha b hb e => by rw [List.mem_singleton] at hb; subst hb; subst e; exact hy ha⟩)
      refine ⟨h1, fun x => (h2 x).trans ?_⟩
      simp [or_assoc]
end GP
namespace GP
open Go
open Rd O
set_option maxRecDepth 100000
variable {P : Program} [HasG P]
@[go_sem high] theorem iab_nat (sz : Nat) (b : Bool) (xs : List D) (k : IntKind) (i : Nat) : ia sz (sliceD b xs) (.int k (i : Int)) = iaE sz xs[i]? := by
  rw [ia_sliceD, if_pos (by omega)]; simp
@[go_sem high] theorem iab_nat' (sz : Nat) (t : Option Nat) (xs : List D) (k : IntKind) (i : Nat) : ia sz (.sl t xs) (.int k (i : Int)) = iaE sz xs[i]? := by
  rw [ia_sl, if_pos (by omega)]; simp
def isLs (p : D → Prop) (d : D) : Prop := ∃ n l, d = sliceD n l ∧ l.length ≤ 2 ^ 47 ∧ ∀ x ∈ l, p x
theorem eraseL_id {l : List D} (h : ∀ x ∈ l, x.erase = x) : D.eraseL l = l := by
  rw [eraseL_map]
  exact (List.map_congr_left h).trans (List.map_id'' (fun _ => rfl) l)
theorem isLs_erase {p : D → Prop} (hp : ∀ x, p x → x.erase = x) {d : D} (h : isLs p d) : d.erase = d := by
  obtain ⟨n, l, rfl, _, hx⟩ := h
  rw [erase_sliceD, eraseL_id fun x hl => hp x (hx x hl)]
theorem wrapIY (a : Int) : IntKind.i64.wrap a = if a % 2 ^ 64 ≥ 2 ^ 63 then a % 2 ^ 64 - 2 ^ 64 else a % 2 ^ 64 := by simp [IntKind.wrap, IntKind.bits, IntKind.signed]
theorem wrap_inY {a : Int} (h1 : -(2 ^ 63) ≤ a) (h2 : a < 2 ^ 63) : IntKind.i64.wrap a = a := by rw [wrapIY]; split <;> omega
theorem wrap_natY (n : Nat) (h : n ≤ 2 ^ 62) : IntKind.i64.wrap ((n : Int) + 1) = ((n + 1 : Nat) : Int) := by
  rw [wrap_inY (by omega) (by omega)]; rfl
structure El (ag : Bool) (sz : Nat) (x : D) : Prop where
  erase : x.erase = x
  len : x.cells.length = sz
  ld : ld ag sz (some x.cells) = some x
theorem El.agg {sz : Nat} {x : D} (h1 : x.erase = x) (h2 : x.cells.length = sz) (h3 : D.agg x.cells = x) : El true sz x :=
  ⟨h1, h2, by simp only [GP.ld, if_true]; rw [if_pos (by omega), List.take_of_length_le (by omega), h3]⟩
def isT : Option D → Bool
  | some (.bool b) => b
  | _ => false
def idxP (p : D → Bool) (l : List D) : Int := match l.findIdx? p with
  | some i => i
  | none => -1
def idxC (ag : Bool) (sz : Nat) : C :=
  (.seq (.reg [⟨(some 4), none, .mv (k (.int .i64 0))⟩])
  (.seq (.seq (.reg [⟨(some 6), none, .mv (t 0)⟩, ⟨(some 7), none, .len (t 6)⟩, ⟨(some 8), none, .mv (k (.int .i64 0))⟩])
  (.block 0
  (.loop
  (.seq (.reg [⟨(some 9), none, .bin .lss (t 8) (t 7)⟩])
  (.seq (.cond (t 9)
  .skip
  (.exit 0))
  (.seq (.block 1
  (.seq (.reg [⟨(some 10), none, .mv (t 8)⟩, ⟨(some 5), none, .mv (t 10)⟩])
  (.seq (.reg [⟨(some 11), none, .mv (t 1)⟩, ⟨(some 12), none, .mv (t 0)⟩, ⟨(some 13), none, .mv (t 5)⟩, ⟨(some 14), none, .iaddr sz (t 12) (t 13)⟩, ⟨(some 15), none, .load ag sz (t 14)⟩, ⟨(some 16), none, .pcall (t 11) [(t 15)]⟩])
  (.cond (t 16)
  (.seq (.reg [⟨(some 17), none, .mv (t 5)⟩, ⟨(some 4), none, .mv (t 17)⟩])
  .ret)
  .skip))))
  (.reg [⟨(some 18), none, .bin .add (t 8) (k (.int .i64 1))⟩, ⟨(some 8), none, .mv (t 18)⟩])))))))
  (.seq (.reg [⟨(some 4), none, .mv (k (.int .i64 (-1)))⟩])
  .ret)))
open Classical in
noncomputable def φidx (f : FuncId) (φf : Hp → List D → Option D) (good : D → Prop) (H : Hp) : List D → Option D
  | [l, .fn g [] cap] => if g = f ∧ isLs good l ∧ D.eraseL cap = cap ∧ ∀ x ∈ elems l, ∃ b, φf H (x :: cap) = some (.bool b) then some (.int .i64 (idxP (fun x => isT (φf H (x :: cap))) (elems l))) else none
  | _ => none
def Mo (φf : Hp → List D → Option D) : Prop := ∀ H H' a r, Hle H H' → φf H a = some r → φf H' a = some r
theorem Mo.const (φ : List D → Option D) : Mo (fun _ => φ) := fun _ _ _ _ _ h => h
theorem OkAt.lift {f : FuncId} {φ : List D → Option D} (h : OkAt P f φ) : OkAtH P f (fun _ => φ) := fun H args r hr args' he T Q hQ => h args r hr args' he H T Q hQ
theorem idxP_congr {p q : D → Bool} {l : List D} (h : ∀ x ∈ l, p x = q x) : idxP p l = idxP q l := by
  unfold idxP
  have : l.findIdx? p = l.findIdx? q := by
    induction l with
    | nil => rfl
    | cons a l ih =>
      simp only [List.findIdx?_cons, h a (by simp), ih (fun x hx => h x (by simp [hx]))]
  rw [this]
theorem φidx_mono {f : FuncId} {φf : Hp → List D → Option D} (hm : Mo φf) (good : D → Prop) : Mo (φidx f φf good) := by
  intro H H' a r hl h
  unfold φidx at h ⊢
  split at h
  · rename_i l g cap
    split at h
    · rename_i hc
      obtain ⟨h1, h2, h3, h4⟩ := hc
      have h4' : ∀ x ∈ elems l, ∃ b, φf H' (x :: cap) = some (.bool b) := fun x hx => by
        obtain ⟨b, hb⟩ := h4 x hx
        exact ⟨b, hm _ _ _ _ hl hb⟩
      rw [if_pos ⟨h1, h2, h3, h4'⟩, ← h]
      congr 2
      refine idxP_congr fun x hx => ?_
      obtain ⟨b, hb⟩ := h4 x hx
      rw [hb, hm _ _ _ _ hl hb]
    · cases h
  · cases h
theorem findIdx_at {p : D → Bool} : ∀ {l : List D} {i : Nat} {x : D}, l[i]? = some x → p x = true → (∀ (j : Nat) y, j < i → l[j]? = some y → p y = false) → l.findIdx? p = some i
  | a :: l, 0, x, h, hp, _ => by simp at h; subst h; simp [List.findIdx?_cons, hp]
  | a :: l, i + 1, x, h, hp, hn => by
    have h0 := hn 0 a (by omega) rfl
    have := findIdx_at (l := l) (i := i) (x := x) (by simpa using h) hp (fun j y hj hy => hn (j + 1) y (by omega) (by simpa using hy))
    simp [List.findIdx?_cons, h0, this]
theorem findIdx_no {p : D → Bool} : ∀ {l : List D}, (∀ (j : Nat) y, l[j]? = some y → p y = false) → l.findIdx? p = none
  | [], _ => rfl
  | a :: l, h => by
    have h0 := h 0 a rfl
    have := findIdx_no (l := l) (fun j y hy => h (j + 1) y (by simpa using hy))
    simp [List.findIdx?_cons, h0, this]
theorem okIdx {ag : Bool} {sz : Nat} {N : FuncId} (hf : Fn P N 19 [.inl 4] (idxC ag sz)) {f : FuncId} {φf : Hp → List D → Option D} (hφ : OkAtH P f φf) (hm : Mo φf) {good : D → Prop} (hg : ∀ x, good x → El ag sz x) : OkAtH P N (φidx f φf good) := by
  have M : MonoH [(f, φf)] := .cons hm .nil
  refine okH_of (l := []) (m := [(f, φf)]) .nil (.cons hφ .nil) hf fun H args r h => ?_
  unfold φidx at h
  split at h
  · rename_i l g cap
    split at h
    · rename_i hc
      obtain ⟨rfl, ⟨n, xs, rfl, hl, hx⟩, h3, h4⟩ := hc
      rw [elems_sliceD] at h h4
      injection h with h; subst h
      refine ⟨by simp, by simp [D.cl], fun T => ?_⟩
      simp +contextual (maxSteps := 10000000) only [idxC, go_sem, W_draw]
      refine W_for (fun i s => s.t 0 = sliceD n xs ∧ s.t 1 = .fn g [] cap ∧ s.t 6 = sliceD n xs ∧ s.t 7 = .int .i64 xs.length ∧ s.t 8 = .int .i64 i ∧ s.H = H ∧ s.T = T ∧ i ≤ xs.length ∧ ∀ (j : Nat) x, j < i → xs[j]? = some x → isT (φf H (x :: cap)) = false) xs.length ⟨0, by simp [upd, argT]⟩ (fun i s h => h.2.2.2.2.2.2.2.1) ?_ (XM_mono _ _)
      rintro i ⟨t, H', T'⟩ ⟨h0, h1, h6, h7, h8, rfl, rfl, hi, hc⟩
      simp only at h0 h1 h6 h7 h8
      by_cases ha : i < xs.length
      · have d1 : decide ((i : Int) < xs.length) = true := by simpa using ha
        have e : xs[i]? = some xs[i] := by simp [ha]
        have hxi := hx _ (List.getElem_mem ha)
        obtain ⟨b, hb⟩ := h4 _ (List.getElem_mem ha)
        have E := hg _ hxi
        generalize xs[i] = x at *
        have hle := E.len
        have hld := E.ld
        have her := E.erase
        cases b with
        | true =>
          have hI : idxP (fun x => isT (φf H' (x :: cap))) xs = i := by
            unfold idxP
            rw [findIdx_at e (by rw [hb]; rfl) hc]
          simp +contextual (maxSteps := 10000000) only [h0, h1, h6, h7, h8, d1, e, hle, hld, her, h3, hb, hI, wrap_natY i (by omega), pcallH M, lookH_cons, lookH_nil, orK_n, go_sem, W_draw]
        | false =>
          have nx : ∀ (j : Nat) x, j < i + 1 → xs[j]? = some x → isT (φf H' (x :: cap)) = false := fun j y hj hy => by
            by_cases hji : j = i
            · subst hji; rw [e] at hy; injection hy with hy; subst hy; rw [hb]; rfl
            · exact hc j y (by omega) hy
          simp +contextual (maxSteps := 10000000) only [h0, h1, h6, h7, h8, d1, e, hle, hld, her, h3, hb, wrap_natY i (by omega), pcallH M, lookH_cons, lookH_nil, orK_n, go_sem, W_draw]
          exact ⟨by omega, nx⟩
      · have d1 : decide ((i : Int) < xs.length) = false := by simpa using ha
        have hI : idxP (fun x => isT (φf H' (x :: cap))) xs = -1 := by
          unfold idxP
          rw [findIdx_no (fun j y hy => hc j y (by
            rcases Nat.lt_or_ge j i with h' | h'
            · exact h'
            · rw [List.getElem?_eq_none (by omega)] at hy; cases hy) hy)]
        simp +contextual (maxSteps := 10000000) only [h0, h1, h6, h7, h8, d1, hI, go_sem, W_draw]
    · cases h
  · cases h
def cfC (g : FuncId) : C :=
  (.seq (.reg [⟨(some 4), none, .mv (k (.bool false))⟩])
  (.seq (.reg [⟨(some 5), none, .mv (t 0)⟩, ⟨(some 6), none, .mv (t 1)⟩, ⟨(some 7), none, .pcall (k (.fn g [] [])) [(t 5), (t 6)]⟩, ⟨(some 8), none, .bin .geq (t 7) (k (.int .i64 0))⟩, ⟨(some 4), none, .mv (t 8)⟩])
  .ret))
open Classical in
noncomputable def φcf (f : FuncId) (φf : Hp → List D → Option D) (good : D → Prop) (H : Hp) : List D → Option D
  | [l, .fn g [] cap] => if g = f ∧ isLs good l ∧ D.eraseL cap = cap ∧ ∀ x ∈ elems l, ∃ b, φf H (x :: cap) = some (.bool b) then some (.bool ((elems l).any (fun x => isT (φf H (x :: cap))))) else none
  | _ => none
theorem idxP_any (p : D → Bool) (l : List D) : decide ((0 : Int) ≤ idxP p l) = l.any p := by
  unfold idxP
  cases h : l.findIdx? p with
  | some i =>
    have : l.any p = true := by
      rw [List.findIdx?_eq_some_iff_getElem] at h
      obtain ⟨h1, h2, _⟩ := h
      exact List.any_eq_true.2 ⟨_, List.getElem_mem h1, h2⟩
    rw [this]; simp
  | none =>
    have : l.any p = false := by
      rw [List.findIdx?_eq_none_iff] at h
      exact List.any_eq_false.2 fun x hx => by simp [h x hx]
    rw [this]; rfl
theorem any_congr' {p q : D → Bool} {l : List D} (h : ∀ x ∈ l, p x = q x) : l.any p = l.any q := by
  induction l with
  | nil => rfl
  | cons a l ih => simp only [List.any_cons, h a (by simp), ih (fun x hx => h x (by simp [hx]))]
theorem φcf_mono {f : FuncId} {φf : Hp → List D → Option D} (hm : Mo φf) (good : D → Prop) : Mo (φcf f φf good) := by
  intro H H' a r hl h
  unfold φcf at h ⊢
  split at h
  · rename_i l g cap
    split at h
    · rename_i hc
      obtain ⟨h1, h2, h3, h4⟩ := hc
      have h4' : ∀ x ∈ elems l, ∃ b, φf H' (x :: cap) = some (.bool b) := fun x hx => by
        obtain ⟨b, hb⟩ := h4 x hx
        exact ⟨b, hm _ _ _ _ hl hb⟩
      rw [if_pos ⟨h1, h2, h3, h4'⟩, ← h]
      congr 2
      refine any_congr' fun x hx => ?_
      obtain ⟨b, hb⟩ := h4 x hx
      rw [hb, hm _ _ _ _ hl hb]
    · cases h
  · cases h
theorem okCf {N M : FuncId} (hf : Fn P N 9 [.inl 4] (cfC M)) {f : FuncId} {φf : Hp → List D → Option D} {good : D → Prop} (hge : ∀ x, good x → x.erase = x) (hi : OkAtH P M (φidx f φf good)) (hm : Mo φf) : OkAtH P N (φcf f φf good) := by
  have MM : MonoH [(M, φidx f φf good)] := .cons (φidx_mono hm good) .nil
  refine okH_of (l := []) (m := [(M, φidx f φf good)]) .nil (.cons hi .nil) hf fun H args r h => ?_
  unfold φcf at h
  split at h
  · rename_i l g cap
    split at h
    · rename_i hc
      have p : φidx f φf good H [l, .fn g [] cap] = some (.int .i64 (idxP (fun x => isT (φf H (x :: cap))) (elems l))) := by
        simp only [φidx]; rw [if_pos hc]
      have a := idxP_any (fun x => isT (φf H (x :: cap))) (elems l)
      obtain ⟨rfl, h2, h3, h4⟩ := hc
      have el := isLs_erase hge h2
      injection h with h; subst h
      refine ⟨by simp, by simp [D.cl], fun T => ?_⟩
      simp +contextual (maxSteps := 10000000) only [cfC, el, h3, p, pcallH MM, lookH_cons, lookH_nil, orK_n, a, go_sem, W_draw]
    · cases h
  · cases h
end GP
namespace GP
open Go
open Rd O
set_option maxRecDepth 100000
variable {P : Program} [HasG P]
def isTx (x : D) : Prop := ∃ w, x = .str w ∧ w.length ≤ 2 ^ 47
theorem isTx_erase {x : D} (h : isTx x) : x.erase = x := by obtain ⟨w, rfl, _⟩ := h; rfl
theorem isTx_El {x : D} (h : isTx x) : El false 1 x := by obtain ⟨w, rfl, _⟩ := h; exact ⟨rfl, rfl, rfl⟩
theorem OkAtH.low {f : FuncId} {φ : List D → Option D} (h : OkAtH P f (fun _ => φ)) : OkAt P f φ := fun args r hr args' he H T Q hQ => h H args r hr args' he T Q hQ
end GP
namespace GP
open Go
def accT (sz : Nat) (T : Tk) (xs : List D) (d : D) (T' : Tk) : Prop := ExtT T T' ∧ ((xs = [] ∧ d = .nils) ∨ ∃ i, T.length ≤ i ∧ d = .sl (some i) xs ∧ T'[i]? = some (some (xs.length, sz)))
theorem accT.nil (sz : Nat) (T : Tk) {T' : Tk} (h : ExtT T T') : accT sz T [] .nils T' := ⟨h, .inl ⟨rfl, rfl⟩⟩
theorem accT.app {sz : Nat} {T T' : Tk} {xs : List D} {d : D} (h : accT sz T xs d T') (L : Tk) : accT sz T xs d (T' ++ L) := by
  obtain ⟨h1, h2⟩ := h
  refine ⟨h1.app L, ?_⟩
  rcases h2 with h2 | ⟨i, h2, h3, h4⟩
  · exact .inl h2
  · refine .inr ⟨i, h2, h3, ?_⟩
    have : i < T'.length := by
      rcases Nat.lt_or_ge i T'.length with h | h
      · exact h
      · rw [List.getElem?_eq_none h] at h4; cases h4
    rw [List.getElem?_append_left this]; exact h4
theorem accT.mk (sz : Nat) (T : Tk) {T' : Tk} (h : ExtT T T') (xs : List D) (L : Tk) : accT sz T xs (.sl (some T'.length) xs) (T' ++ some (xs.length, sz) :: L) := by
  obtain ⟨M, rfl⟩ := h
  refine ⟨⟨M ++ some (xs.length, sz) :: L, by simp⟩, .inr ⟨_, by simp, rfl, by simp⟩⟩
theorem accT.erase {sz : Nat} {T T' : Tk} {xs : List D} {d : D} (h : accT sz T xs d T') (he : D.eraseL xs = xs) (h0 : xs ≠ []) : d.erase = .sl none xs := by
  rcases h.2 with ⟨rfl, rfl⟩ | ⟨i, _, rfl, _⟩
  · exact (h0 rfl).elim
  · simp [D.erase, he]
theorem app_accT {sz bytes : Nat} {K : D → S → Prop} {t : Nat → D} {H : Hp} {T T' : Tk} {xs : List D} {d : D} (ys : List D) (h : accT sz T xs d T') (hy : ys.all (fit sz) = true) (hxs : xs.all (fit sz) = true) (hb : (xs.length + ys.length) * bytes ≤ 2 ^ 47) (hb2 : xs.length + ys.length < 2 ^ 62)
    (k : ∀ d2 T2, accT sz T (xs ++ ys) d2 T2 → K d2 ⟨t, H, T2⟩) : appK sz bytes K ⟨t, H, T'⟩ d (some ys) := by
  obtain ⟨h1, h2⟩ := h
  rcases h2 with ⟨rfl, rfl⟩ | ⟨i, hi, rfl, hT⟩
  · simp only [appK]
    refine ⟨hy, ?_⟩
    simp only [List.nil_append, List.length_nil, Nat.zero_add] at k hb hb2
    split
    · rename_i e; subst e; exact k _ _ (.nil sz T h1)
    · exact ⟨hb, hb2, k _ _ (.mk sz T h1 ys [])⟩
  · simp only [appK]
    refine ⟨hy, hT, hb, hb2, hxs, k _ _ ⟨?_, .inr ⟨i, hi, rfl, ?_⟩⟩⟩
    · obtain ⟨L, rfl⟩ := h1
      exact ⟨L.set (i - T.length) (some (xs.length + ys.length, sz)), by rw [List.set_append_right _ _ hi]⟩
    · have : i < T'.length := by
        rcases Nat.lt_or_ge i T'.length with h | h
        · exact h
        · rw [List.getElem?_eq_none h] at hT; cases hT
      rw [List.getElem?_set_self this]; simp
end GP
namespace GP
open Go
theorem tf (b : Bool) : b = true ∨ b = false := by cases b <;> simp
theorem flatD_cons (x : D) (xs : List D) : flatD (x :: xs) = x.cells ++ flatD xs := by simp [flatD]
def isAg (sz : Nat) (xs : List D) : Prop := ∀ x ∈ xs, ∃ l, x = .agg l ∧ l.length = sz
theorem isAg.len {sz : Nat} {xs : List D} (h : isAg sz xs) : ∀ x ∈ xs, x.cells.length = sz := fun x hx => by
  obtain ⟨l, rfl, hl⟩ := h x hx; exact hl
theorem isAg.fit {sz : Nat} {xs : List D} (h : isAg sz xs) : xs.all (fit sz) = true := List.all_eq_true.2 fun x hx => by
  obtain ⟨l, rfl, hl⟩ := h x hx; simp [GP.fit, D.okc, D.cells, hl]
theorem isAg.sub {sz : Nat} {xs ys : List D} (h : isAg sz xs) (k : ∀ y ∈ ys, y ∈ xs) : isAg sz ys := fun y hy => h y (k y hy)
theorem isAg.set {sz : Nat} {xs : List D} (h : isAg sz xs) {x : D} (hx : ∃ l, x = .agg l ∧ l.length = sz) (i : Nat) : isAg sz (xs.set i x) := fun y hy => by
  rcases List.mem_or_eq_of_mem_set hy with h' | rfl
  · exact h y h'
  · exact hx
theorem chunk_flat {sz : Nat} : ∀ (xs : List D) (rest : List D), isAg sz xs → chunk true sz xs.length (flatD xs ++ rest) = xs
  | [], _, _ => rfl
  | x :: xs, rest, h => by
    obtain ⟨l, rfl, hl⟩ := h x (by simp)
    simp only [List.length_cons, chunk, if_true, flatD_cons, D.cells, List.append_assoc]
    rw [List.take_left' hl, List.drop_left' hl, chunk_flat xs rest (h.sub fun y hy => by simp [hy])]
end GP
namespace GP
open Go
variable {P : Program} [HasG P]
def XU (P : Program) [HasG P] (u : List FuncId) (l : Fs) (m : FsH) (e : FsE) : Pred := fun f a H T Q => if u.contains f = true then Snd P f a H T Q else XE l m e f a H T Q
theorem XU.X {u : List FuncId} {l : Fs} {m : FsH} {e : FsE} (k : Ok P l) (k' : OkH P m) (k'' : OkE P e) : ∀ f args H T Q Q', (∀ r H T, Q r H T → Q' r H T) → XU P u l m e f args H T Q → Snd P f args H T Q' := by
  intro f args H T Q Q' hQ h
  unfold XU at h
  split at h
  · exact Snd.mono _ _ _ _ _ _ hQ h
  · exact XE.X k k' k'' f args H T Q Q' hQ h
def callQ (K : D → S → Prop) (t : Nat → D) : Post := fun r H T => K r ⟨t, H, T⟩
theorem callK_fn (X : Pred) (args : List D) (K : D → S → Prop) (s : S) (f : FuncId) (first cap : List D) : callK X args K s (.fn f first cap) = X f (first ++ args ++ cap) s.H s.T (callQ K s.t) := id rfl
theorem callQ_eq (K : D → S → Prop) (t : Nat → D) (r : D) (H : Hp) (T : Tk) : callQ K t r H T = K r ⟨t, H, T⟩ := id rfl
def orL (Q : Post) (H : Hp) (T : Tk) : Option D → Prop
  | some r => Q r H T
  | none => False
theorem XL_eq (l : Fs) (f : FuncId) (args : List D) (H : Hp) (T : Tk) (Q : Post) : XL l f args H T Q = orL Q H T (look l f (D.eraseL args)) := by
  unfold XL orL
  cases look l f (D.eraseL args) <;> rfl
theorem orL_s (Q : Post) (H : Hp) (T : Tk) (r : D) : orL Q H T (some r) = Q r H T := id rfl
attribute [go_sem] callK_fn callQ_eq XL_eq orL_s XE_eq orX_s orX_n orX_e orE_s lookE_nil lookE_cons inE_nil inE_cons lookH_nil lookH_cons orK_s orK_n
theorem Ext.set {H B : Hp} (h : Ext H B) {o : Nat} (ho : H.length ≤ o) (x : Ob) : Ext H (B.set o x) := by
  obtain ⟨L, rfl⟩ := h
  exact ⟨L.set (o - H.length) x, by rw [List.set_append_right _ _ ho]⟩
@[go_sem] theorem fld_f (off n : Nat) (cs : List D) : fld false off n (.agg cs) = cs[off]? := id rfl
@[go_sem] theorem fld_t (off n : Nat) (cs : List D) : fld true off n (.agg cs) = if off + n ≤ cs.length then some (.agg ((cs.take (off + n)).drop off)) else none := id rfl
end GP
namespace GP
open Go
mutual
def D.ren (σ θ : Nat → Nat) : D → D
  | .sl t xs => .sl (t.map θ) (D.renL σ θ xs)
  | .el cs => .el (D.renL σ θ cs)
  | .agg cs => .agg (D.renL σ θ cs)
  | .tup cs => .tup (D.renL σ θ cs)
  | .fn f a b => .fn f (D.renL σ θ a) (D.renL σ θ b)
  | .ifc t d => .ifc t (D.ren σ θ d)
  | .ptr o off => .ptr (σ o) off
  | .mp o => .mp (σ o)
  | .ms ag z o off n cap => .ms ag z (σ o) off n cap
  | d => d
def D.renL (σ θ : Nat → Nat) : List D → List D
  | [] => []
  | d :: ds => D.ren σ θ d :: D.renL σ θ ds
end
section
variable {σ θ : Nat → Nat}
end
def RenOb (σ θ : Nat → Nat) (x y : Ob) : Prop :=
  (∃ cs cs', x = .row cs ∧ y = .row cs' ∧ cs'.length = cs.length ∧ (∀ d ∈ cs, d.one = true) ∧ ∀ i (h : i < cs.length) (h' : i < cs'.length), Crs cs'[i] ((cs[i]).ren σ θ)) ∨ (x = .dead) ∨ (x = .hole ∧ y = .hole) ∨ ∃ es clk, x = .map es clk ∧ y = .map es clk
structure RenTo (H : Hp) (T : Tk) (r2 : D) (H2 : Hp) (T2 : Tk) (r0 : D) (H1 : Hp) (T1 : Tk) (σ θ : Nat → Nat) : Prop where
  σ0 : ∀ o, o < H.length → σ o = o
  θ0 : ∀ τ, τ < T.length → θ τ = τ
  res : Crs r2 (r0.ren σ θ)
  ob : ∀ (o : Nat) x, H1[o]? = some x → ∃ y, H2[σ o]? = some y ∧ ((y = x ∧ H[o]? = some x) ∨ RenOb σ θ x y)
  σi : ∀ o o', o < H1.length → o' < H1.length → σ o = σ o' → o = o'
  θi : ∀ τ τ', τ < T1.length → τ' < T1.length → θ τ = θ τ' → τ = τ'
  tok : ∀ τ, τ < T1.length → T2[θ τ]? = T1[τ]?
  hl : H.length ≤ H1.length
  tl : T.length ≤ T1.length
section
variable {P : Program}
end
variable {P : Program} [HasG P]
abbrev FsG := List (FuncId × (Hp → Tk → List D → Option (D × Hp × Tk)))
def lookG : FsG → Hp → Tk → FuncId → List D → Option (D × Hp × Tk)
  | [], _, _, _, _ => none
  | (g, φ) :: l, H, T, f, a => if f = g then φ H T a else lookG l H T f a
def inG : FsG → FuncId → Bool
  | [], _ => false
  | (g, _) :: l, f => decide (f = g) || inG l f
@[go_sem] theorem lookG_nil (H : Hp) (T : Tk) (f : FuncId) (a : List D) : lookG [] H T f a = none := id rfl
@[go_sem] theorem lookG_cons (g : FuncId) (φ : Hp → Tk → List D → Option (D × Hp × Tk)) (l : FsG) (H : Hp) (T : Tk) (f : FuncId) (a : List D) : lookG ((g, φ) :: l) H T f a = if f = g then φ H T a else lookG l H T f a := id rfl
@[go_sem] theorem inG_nil (f : FuncId) : inG [] f = false := id rfl
@[go_sem] theorem inG_cons (g : FuncId) (φ : Hp → Tk → List D → Option (D × Hp × Tk)) (l : FsG) (f : FuncId) : inG ((g, φ) :: l) f = (decide (f = g) || inG l f) := id rfl
theorem lookG_in : ∀ {l : FsG} {H : Hp} {T : Tk} {f : FuncId} {a : List D}, inG l f = false → lookG l H T f a = none
  | [], _, _, _, _, _ => rfl
  | (g, φ) :: l, H, T, f, a, h => by
    simp only [inG, Bool.or_eq_false_iff, decide_eq_false_iff_not] at h
    simp only [lookG]
    rw [if_neg h.1]; exact lookG_in h.2
def OkAtG (P : Program) [HasG P] (f : FuncId) (φ : Hp → Tk → List D → Option (D × Hp × Tk)) : Prop := ∀ H T args r H' T', φ H T args = some (r, H', T') → ∀ args', D.eraseL args' = args → ∀ (Q : Post), Q r H' T' → Snd P f args' H T Q
def OkG (P : Program) [HasG P] (m : FsG) : Prop := ∀ H T f args r H' T', lookG m H T f args = some (r, H', T') → ∀ args', D.eraseL args' = args → ∀ (Q : Post), Q r H' T' → Snd P f args' H T Q
theorem OkG.nil : OkG P [] := fun _ _ _ _ _ _ _ h => by simp [lookG] at h
theorem OkG.cons {f : FuncId} {φ : Hp → Tk → List D → Option (D × Hp × Tk)} {m : FsG} (h : OkAtG P f φ) (k : OkG P m) : OkG P ((f, φ) :: m) := by
  intro H T g args r H' T' hr
  simp only [lookG] at hr
  split at hr
  · rename_i e; subst e; exact h H T args r H' T' hr
  · exact k H T g args r H' T' hr
def inU : List FuncId → FuncId → Bool
  | [], _ => false
  | g :: l, f => decide (f = g) || inU l f
@[go_sem] theorem inU_nil (f : FuncId) : inU [] f = false := id rfl
@[go_sem] theorem inU_cons (g : FuncId) (l : List FuncId) (f : FuncId) : inU (g :: l) f = (decide (f = g) || inU l f) := id rfl
def XG (P : Program) [HasG P] (u : List FuncId) (l : Fs) (m : FsH) (e : FsE) (g : FsG) : Pred := fun f a H T Q =>
  if inU u f = true then Snd P f a H T Q else match look l f (D.eraseL a) with
  | some r => Q r H T
  | none => match lookH m H f (D.eraseL a) with
    | some r => Q r H T
    | none => match lookE e H f (D.eraseL a) with
      | some (r, H') => Q r H' T
      | none => match lookG g H T f (D.eraseL a) with
        | some (r, H', T') => Q r H' T'
        | none => False
theorem XG.X {u : List FuncId} {l : Fs} {m : FsH} {e : FsE} {g : FsG} (k : Ok P l) (k' : OkH P m) (k'' : OkE P e) (k3 : OkG P g) : ∀ f args H T Q Q', (∀ r H T, Q r H T → Q' r H T) → XG P u l m e g f args H T Q → Snd P f args H T Q' := by
  intro f args H T Q Q' hQ h
  unfold XG at h
  split at h
  · exact Snd.mono _ _ _ _ _ _ hQ h
  · split at h
    · rename_i r hr
      exact k f _ r hr args rfl H T Q' (hQ _ _ _ h)
    · split at h
      · rename_i r hr
        exact k' H f _ r hr args rfl T Q' (hQ _ _ _ h)
      · split at h
        · rename_i r H' hr
          exact k'' H f _ r H' hr args rfl T Q' (hQ _ _ _ h)
        · split at h
          · rename_i r H' T' hr
            exact k3 H T f _ r H' T' hr args rfl Q' (hQ _ _ _ h)
          · exact h.elim
theorem XG_mono (u : List FuncId) (l : Fs) (m : FsH) (e : FsE) (g : FsG) : Mono (XG P u l m e g) := by
  intro f args H T Q Q' hQ h
  unfold XG at h ⊢
  split at h
  · rename_i c; rw [if_pos c]; exact Snd.mono _ _ _ _ _ _ hQ h
  · rename_i c
    rw [if_neg c]
    split at h
    · exact hQ _ _ _ h
    · split at h
      · exact hQ _ _ _ h
      · split at h
        · exact hQ _ _ _ h
        · split at h
          · exact hQ _ _ _ h
          · exact h.elim
def orG (Q : Post) : Option (D × Hp × Tk) → Prop
  | some (r, H', T') => Q r H' T'
  | none => False
def orY (Q : Post) (H : Hp) (T : Tk) : Option D → Option D → Option (D × Hp) → Option (D × Hp × Tk) → Prop
  | some r, _, _, _ => Q r H T
  | none, some r, _, _ => Q r H T
  | none, none, some (r, H'), _ => Q r H' T
  | none, none, none, x => orG Q x
@[go_sem] theorem XG_eq (u : List FuncId) (l : Fs) (m : FsH) (e : FsE) (g : FsG) (f : FuncId) (args : List D) (H : Hp) (T : Tk) (Q : Post) : XG P u l m e g f args H T Q = if inU u f = true then Snd P f args H T Q else orY Q H T (look l f (D.eraseL args)) (lookH m H f (D.eraseL args)) (lookE e H f (D.eraseL args)) (lookG g H T f (D.eraseL args)) := by
  unfold XG
  congr 1
  cases look l f (D.eraseL args) with
  | some r => rfl
  | none =>
    cases lookH m H f (D.eraseL args) with
    | some r => rfl
    | none =>
      cases lookE e H f (D.eraseL args) with
      | some x => rfl
      | none =>
        cases lookG g H T f (D.eraseL args) with
        | some x => rfl
        | none => rfl
@[go_sem] theorem orY_s (Q : Post) (H : Hp) (T : Tk) (r : D) (x : Option D) (y : Option (D × Hp)) (z : Option (D × Hp × Tk)) : orY Q H T (some r) x y z = Q r H T := id rfl
@[go_sem] theorem orY_n (Q : Post) (H : Hp) (T : Tk) (r : D) (y : Option (D × Hp)) (z : Option (D × Hp × Tk)) : orY Q H T none (some r) y z = Q r H T := id rfl
@[go_sem] theorem orY_e (Q : Post) (H : Hp) (T : Tk) (r : D) (H' : Hp) (z : Option (D × Hp × Tk)) : orY Q H T none none (some (r, H')) z = Q r H' T := id rfl
@[go_sem] theorem orY_g (Q : Post) (H : Hp) (T : Tk) (z : Option (D × Hp × Tk)) : orY Q H T none none none z = orG Q z := id rfl
@[go_sem] theorem orG_s (Q : Post) (r : D) (H' : Hp) (T' : Tk) : orG Q (some (r, H', T')) = Q r H' T' := id rfl
theorem pcallG {u : List FuncId} {l : Fs} {m : FsH} {e : FsE} {g : FsG} (hm : MonoH m) (args : List D) (K : D → S → Prop) (s : S) (f : FuncId) (first cap : List D) :
    pcallK (XG P u l m e g) args K s (.fn f first cap) = if (inU u f || inE e f || inG g f) = true then pcallN (XG P u l m e g) args K s (.fn f first cap) else orK K s (look l f (D.eraseL (first ++ args ++ cap))) (lookH m s.H f (D.eraseL (first ++ args ++ cap))) := by
  cases hu : inU u f with
  | true => rfl
  | false =>
    cases hg : inG g f with
    | true => simp only [Bool.false_or, Bool.or_true, if_true]; rfl
    | false =>
      have hx : ∀ a H T Q, XG P u l m e g f a H T Q = XE l m e f a H T Q := by
        intro a H T Q; unfold XG XE; rw [hu, lookG_in hg]; rfl
      cases he : inE e f with
      | true => rfl
      | false =>
        rw [if_neg (by simp)]
        have := pcallE (l := l) (e := e) hm args K s f first cap
        rw [he, if_neg (by simp)] at this
        rw [← this]
        simp only [pcallK, eq_iff_iff]
        unfold Pure
        simp only [hx]
end GP
namespace GP
open Go
set_option maxRecDepth 100000
variable {P : Program} [HasG P]
open Rd O
theorem isSl_m {d : D} (h : isSl d = true) : ∃ m, d = sliceD m (elems d) := by
  unfold isSl at h
  split at h
  · exact ⟨true, rfl⟩
  · exact ⟨false, rfl⟩
  · cases h
def catD (ls : List D) : List D := (ls.map elems).flatten
structure isCat (sz bytes : Nat) (ls : List D) : Prop where
  l : ls.length ≤ 2 ^ 40
  s : ∀ y ∈ ls, ∃ m xs, y = sliceD m xs
  a : isAg sz (catD ls)
  e : D.eraseL (catD ls) = catD ls
  c : D.clL 0 0 (catD ls) = true
  b : (catD ls).length * bytes ≤ 2 ^ 47
  n : (catD ls).length < 2 ^ 61
end GP
namespace GP
open Go Go.Proofs
set_option maxRecDepth 100000
variable [HasG Try.prog]
def edD (e : Ed) : D := .agg [.str e.1, .str e.2]
def edS (n : Bool) (l : List Ed) : D := sliceD n (l.map edD)
def txS (n : Bool) (l : List Sb) : D := sliceD n (l.map D.str)
theorem edL_erase (l : List Ed) : D.eraseL (l.map edD) = l.map edD := eraseL_id fun x hx => by
  obtain ⟨e, _, rfl⟩ := List.mem_map.1 hx; rfl
theorem txL_erase (l : List Sb) : D.eraseL (l.map D.str) = l.map D.str := eraseL_id fun x hx => by
  obtain ⟨e, _, rfl⟩ := List.mem_map.1 hx; rfl
@[go_sem] theorem edS_erase (n : Bool) (l : List Ed) : (edS n l).erase = edS n l := by unfold edS; rw [erase_sliceD, edL_erase]
@[go_sem] theorem txS_erase (n : Bool) (l : List Sb) : (txS n l).erase = txS n l := by unfold txS; rw [erase_sliceD, txL_erase]
@[go_sem] theorem edS_len (n : Bool) (l : List Ed) : lenD (edS n l) = some l.length := by
  unfold edS; rcases sliceD_cases n (l.map edD) with ⟨e, h⟩ | e <;> rw [e] <;> simp [lenD]
  have : l = [] := by simpa using h
  subst this; rfl
@[go_sem] theorem txS_len (n : Bool) (l : List Sb) : lenD (txS n l) = some l.length := by
  unfold txS; rcases sliceD_cases n (l.map D.str) with ⟨e, h⟩ | e <;> rw [e] <;> simp [lenD]
  have : l = [] := by simpa using h
  subst this; rfl
@[go_sem high] theorem edS_ia (n : Bool) (l : List Ed) (k : IntKind) (i : Nat) : ia 2 (edS n l) (.int k (i : Int)) = (l[i]?).map fun e => .el [.str e.1, .str e.2] := by
  unfold edS
  rw [iab_nat]
  simp only [List.getElem?_map]
  cases l[i]? <;> rfl
@[go_sem high] theorem txS_ia (n : Bool) (l : List Sb) (k : IntKind) (i : Nat) : ia 1 (txS n l) (.int k (i : Int)) = (l[i]?).map fun s => .el [.str s] := by
  unfold txS
  rw [iab_nat]
  simp only [List.getElem?_map]
  cases l[i]? <;> rfl
def nmB (s : Sb) : Bool := decide (0 < s.length) && decide (s.length ≤ 64)
def φ109 : List D → Option D
  | [.str s] => some (.bool (!nmB s))
  | _ => none
theorem ok109 : OkAt Try.prog 109 φ109 := by
  refine ok_of (l := []) .nil fn109 fun args r h => ?_
  unfold φ109 at h
  split at h
  · rename_i s
    injection h with h; subst h
    refine ⟨by simp, by simp [D.cl], fun H T => ?_⟩
    unfold nmB
    rcases tf (decide ((s.length : Int) < 1)) with g | g
    · have g2 : decide (0 < s.length) = false := by simp only [decide_eq_true_eq, decide_eq_false_iff_not] at g ⊢; omega
      simp +contextual (maxSteps := 10000000) only [c109, g, g2, go_sem, W_draw]
    · have g2 : decide (0 < s.length) = true := by simp only [decide_eq_true_eq, decide_eq_false_iff_not] at g ⊢; omega
      rcases tf (decide ((64 : Int) < s.length)) with g3 | g3
      · have g4 : decide (s.length ≤ 64) = false := by simp only [decide_eq_true_eq, decide_eq_false_iff_not] at g3 ⊢; omega
        simp +contextual (maxSteps := 10000000) only [c109, g, g2, g3, g4, go_sem, W_draw]
      · have g4 : decide (s.length ≤ 64) = true := by simp only [decide_eq_true_eq, decide_eq_false_iff_not] at g3 ⊢; omega
        simp +contextual (maxSteps := 10000000) only [c109, g, g2, g3, g4, go_sem, W_draw]
  · cases h
theorem ok126 : OkAtH Try.prog 126 (φidx 109 (fun _ => φ109) isTx) := okIdx (ag := false) (sz := 1) fn126 ok109.lift (Mo.const _) fun _ => isTx_El
theorem ok108 : OkAtH Try.prog 108 (φcf 109 (fun _ => φ109) isTx) := okCf (M := 126) fn108 (fun _ => isTx_erase) ok126 (Mo.const _)
theorem cf109 (H : Hp) (l : List Sb) (hl : l.length ≤ 2 ^ 47) (h : ∀ s ∈ l, s.length ≤ 2 ^ 40) : φcf 109 (fun _ => φ109) isTx H [.sl none (l.map D.str), .fn 109 [] []] = some (.bool (l.any fun s => !nmB s)) := by
  have hc : (109 : Nat) = 109 ∧ isLs isTx (.sl none (l.map D.str)) ∧ D.eraseL [] = [] ∧ ∀ x ∈ elems (.sl none (l.map D.str)), ∃ b, φ109 [x] = some (.bool b) := by
    refine ⟨rfl, ⟨false, _, rfl, by simpa using hl, fun x hx => ?_⟩, rfl, fun x hx => ?_⟩
    · obtain ⟨s, hs, rfl⟩ := List.mem_map.1 hx
      exact ⟨s, rfl, by have := h s hs; omega⟩
    · have hx : x ∈ l.map D.str := hx
      obtain ⟨s, hs, rfl⟩ := List.mem_map.1 hx
      exact ⟨_, rfl⟩
  simp only [φcf]
  rw [if_pos hc]
  have e : elems (.sl none (l.map D.str)) = l.map D.str := rfl
  (rw [e, List.any_map]) <;> rfl
def namedB (l : List Sb) : Bool := l.all nmB
def strsD : List D → Option (List Sb)
  | [] => some []
  | .str s :: r => (strsD r).map (s :: ·)
  | _ => none
def φ68 : List D → Option D
  | [.sl none xs] => match strsD xs with
    | some l => if l.length ≤ 2 ^ 40 ∧ ∀ s ∈ l, s.length ≤ 2 ^ 40 then some (.bool (namedB l)) else none
    | none => none
  | _ => none
theorem strsD_of : ∀ {xs : List D} {l : List Sb}, strsD xs = some l → xs = l.map D.str
  | [], l, h => by simp [strsD] at h; subst h; rfl
  | .str s :: r, l, h => by
    simp only [strsD, Option.map_eq_some_iff] at h
    obtain ⟨l', h1, rfl⟩ := h
    rw [strsD_of h1]; rfl
  | .bool _ :: _, _, h | .int _ _ :: _, _, h | .nilp :: _, _, h | .ptr _ _ :: _, _, h | .el _ :: _, _, h | .nils :: _, _, h | .sl _ _ :: _, _, h | .ms _ _ _ _ _ _ :: _, _, h | .e0 :: _, _, h | .fn _ _ _ :: _, _, h | .nilf :: _, _, h | .mp _ :: _, _, h | .nilm :: _, _, h | .nili :: _, _, h | .ifc _ _ :: _, _, h | .agg _ :: _, _, h | .tup _ :: _, _, h | .top :: _, _, h => by simp [strsD] at h
theorem ok68 : OkAt Try.prog 68 φ68 := by
  have hM : MonoH [(108, φcf 109 (fun _ => φ109) isTx)] := .cons (φcf_mono (Mo.const _) _) .nil
  refine OkAtH.low (okH_of (l := []) (m := [(108, φcf 109 (fun _ => φ109) isTx)]) .nil (.cons ok108 .nil) fn68 fun H args r h => ?_)
  unfold φ68 at h
  split at h
  · rename_i xs
    split at h
    · rename_i l hl
      split at h
      · rename_i hc
        injection h with h; subst h
        have := strsD_of hl; subst this
        refine ⟨by simp, by simp [D.cl], fun T => ?_⟩
        have p := cf109 H l (by omega) hc.2
        have e : (!l.any fun s => !nmB s) = namedB l := by unfold namedB; rw [List.not_any_eq_all_not]; simp
        simp +contextual (maxSteps := 10000000) only [c68, pcallH hM, lookH_cons, lookH_nil, orK_n, txL_erase, p, e, go_sem, W_draw]
      · cases h
    · cases h
  · cases h
end GP
namespace GP
open Go Go.Proofs
set_option maxRecDepth 100000
variable [HasG Try.prog]
def reachL (E : List Ed) (a : Sb) : List Sb := bfs E (E.length + 2) 0 [a]
theorem str_fit (l : List Sb) : (l.map D.str).all (fit 1) = true := List.all_eq_true.2 fun x hx => by
  obtain ⟨s, _, rfl⟩ := List.mem_map.1 hx; rfl
def reachB (E : List Ed) (a b : Sb) : Bool := nmB a && nmB b && (reachL E a).contains b
end GP
namespace GP
open Go Go.Proofs
set_option maxRecDepth 100000
variable [HasG Try.prog]
theorem once_snoc (l : List Sb) (x : Sb) : once [] (l ++ [x]) = if (once [] l).contains x then once [] l else once [] l ++ [x] := by
  unfold once
  rw [List.foldl_append]
  simp only [List.foldl_cons, List.foldl_nil, List.contains_iff_mem]
theorem once_len (l : List Sb) : (once [] l).length ≤ l.length := by
  obtain ⟨h1, h2⟩ := once_spec l [] (by simp)
  exact nodup_len h1 fun x hx => by rcases (h2 x).1 hx with h | h; · cases h
                                    · exact h
def ends (E : List Ed) : List Sb := (E.map fun e => [e.1, e.2]).flatten
def heldL (M : List Ed) : List Sb := M.map (·.2)
def n3 (l : List Sb) (E M : List Ed) : List Sb := l ++ ends E ++ heldL M
def cntR (E M : List Ed) (more : List Sb) : Nat := (once [] (n3 more E M)).length
theorem ends_take {E : List Ed} {i : Nat} {e : Ed} (h : E[i]? = some e) : ends (E.take (i + 1)) = ends (E.take i) ++ [e.1] ++ [e.2] := by
  unfold ends; rw [List.take_add_one, h]; simp
theorem held_take {M : List Ed} {i : Nat} {e : Ed} (h : M[i]? = some e) : heldL (M.take (i + 1)) = heldL (M.take i) ++ [e.2] := by
  unfold heldL; rw [List.take_add_one, h]; simp
theorem ends_len (E : List Ed) : (ends E).length = 2 * E.length := by
  unfold ends; induction E with
  | nil => rfl
  | cons e E ih => simp only [List.map_cons, List.flatten_cons, List.length_append, ih, List.length_cons, List.length_nil]; omega
theorem n3_0 (l : List Sb) : n3 l [] [] = l := by simp [n3, ends, heldL]
theorem n3_2 {l : List Sb} {E : List Ed} {i : Nat} {e : Ed} (h : E[i]? = some e) : n3 l (E.take (i + 1)) [] = n3 l (E.take i) [] ++ [e.1] ++ [e.2] := by simp [n3, ends_take h, heldL]
theorem n3_3 {l : List Sb} {E M : List Ed} {i : Nat} {e : Ed} (h : M[i]? = some e) : n3 l E (M.take (i + 1)) = n3 l E (M.take i) ++ [e.2] := by simp [n3, held_take h]
theorem n3_len (l : List Sb) (E M : List Ed) : (n3 l E M).length = l.length + 2 * E.length + M.length := by simp [n3, ends_len, heldL]; omega
def accN (T : Tk) (l : List Sb) (d : D) (T' : Tk) : Prop := accT 1 T ((once [] l).map D.str) d T'
theorem accN.len {T : Tk} {l : List Sb} {d : D} {T' : Tk} (h : accN T l d T') : lenD d = some (once [] l).length := by
  rcases h.2 with ⟨h0, rfl⟩ | ⟨j, _, rfl, _⟩
  · have : once [] l = [] := by simpa using h0
    rw [this]; rfl
  · simp [lenD]
theorem accN.skip {T : Tk} {l : List Sb} {x : Sb} {d : D} {T' : Tk} (h : accN T l d T') (hx : (once [] l).contains x = true) : accN T (l ++ [x]) d T' := by
  unfold accN; rw [once_snoc, if_pos hx]; exact h
theorem accN.add {T : Tk} {l : List Sb} {x : Sb} {d : D} {T' : Tk} {K : D → S → Prop} {t : Nat → D} {H : Hp} (h : accN T l d T') (hl : l.length ≤ 2 ^ 40) (hx : (once [] l).contains x = false) (k : ∀ d2 T2, accN T (l ++ [x]) d2 T2 → K d2 ⟨t, H, T2⟩) : appK 1 16 K ⟨t, H, T' ++ [some (1, 1)]⟩ d (some [.str x]) := by
  have hn := once_len l
  refine app_accT (sz := 1) (bytes := 16) (T := T) (xs := (once [] l).map D.str) [D.str x] (h.app _) rfl (str_fit _) (by simp; omega) (by simp; omega) fun d2 T2 hA => k d2 T2 ?_
  unfold accN; rw [once_snoc, if_neg (by rw [hx]; simp)]; simpa using hA
end GP
namespace GP
open Go Go.Proofs
set_option maxRecDepth 100000
variable [HasG Try.prog]
def errR (E M : List Ed) (k : Int) (a b : Sb) : Int :=
  if k.tmod 4 == 0 then (if nmB a && nmB b then (if E.contains (a, b) then 9 else if reachB E b a then 10 else if decide (24 < cntR E M [a, b]) then 13 else 0) else 1)
  else if k.tmod 4 == 1 then (if E.contains (a, b) then 0 else 8)
  else if k.tmod 4 == 2 then (if nmB a && nmB b then (if M.contains (a, b) then 9 else if decide (24 < cntR E M [b]) || decide (96 ≤ M.length) then 13 else 0) else 1)
  else (if M.contains (a, b) then 0 else 8)
def nxtE (E : List Ed) (k : Int) (a b : Sb) : List Ed := if k.tmod 4 == 0 then E ++ [(a, b)] else if k.tmod 4 == 1 then E.erase (a, b) else E
def nxtM (M : List Ed) (k : Int) (a b : Sb) : List Ed := if k.tmod 4 == 0 || k.tmod 4 == 1 then M else if k.tmod 4 == 2 then M ++ [(a, b)] else M.erase (a, b)
theorem eq_ed (x e : Ed) : eqCells [.str x.1, .str x.2] [.str e.1, .str e.2] = some (x == e) := by
  simp only [eqCells, eqCell]
  obtain ⟨a, b⟩ := x
  obtain ⟨c, d⟩ := e
  congr 1
  rw [Bool.eq_iff_iff]; simp
theorem ed_fit (l : List Ed) : (l.map edD).all (fit 2) = true := List.all_eq_true.2 fun x hx => by
  obtain ⟨s, _, rfl⟩ := List.mem_map.1 hx; rfl
@[go_sem] theorem edS_src (n : Bool) (l : List Ed) : appSrc false (edS n l) = some (l.map edD) := by
  unfold edS
  rcases sliceD_cases n (l.map edD) with ⟨e, h⟩ | e <;> rw [e]
  · rw [h]; rfl
  · rfl
@[go_sem] theorem edS_cells (n : Bool) (l : List Ed) : (edS n l).cells = [edS n l] := by
  unfold edS
  rcases sliceD_cases n (l.map edD) with ⟨e, h⟩ | e <;> rw [e] <;> rfl
@[go_sem] theorem edS_okc (n : Bool) (l : List Ed) : (edS n l).okc = true := by
  unfold edS
  rcases sliceD_cases n (l.map edD) with ⟨e, h⟩ | e <;> rw [e] <;> rfl
@[go_sem] theorem edS_fit (n : Bool) (l : List Ed) : fit 1 (edS n l) = true := by
  unfold fit; rw [edS_okc, edS_cells]; rfl
end GP
namespace GP
open Go
abbrev Nm := List UInt8 × List UInt8
def keyD (p : Nm) : D := .agg [.str p.1, .str p.2]
abbrev kSS : Bool × List Ck := (true, [.str, .str])
def okNm (p : Nm) : Prop := p.1.length < 2 ^ 62 ∧ p.2.length < 2 ^ 62
theorem kok_key {p : Nm} (h : okNm p) : kok kSS (keyD p) = true := by
  simp [kok, keyD, pu, pu1, cksD, ckD, h.1, h.2]
theorem keq_key (p q : Nm) : keq kSS (keyD p) (keyD q) = some (p == q) := by
  show (if cksD [D.str p.1, .str p.2] [.str, .str] = true then eqCells [D.str p.1, .str p.2] [.str q.1, .str q.2] else none) = some (p == q)
  rw [if_pos (by simp [cksD, ckD])]
  simp only [eqCells, eqCell]
  obtain ⟨a, b⟩ := p
  obtain ⟨c, d⟩ := q
  congr 1
  rw [Bool.eq_iff_iff]
  simp
structure MpS (ps : List Nm) (es : List (D × D × Nat)) (clk : Nat) : Prop where
  k : es.map (fun e => e.1) = ps.map keyD
  v : ∀ x ∈ es, ∃ n : Int, x.2.1 = .int .i64 n
  b : ∀ (i : Nat) e, es[i]? = some e → e.2.2 = i
  c : clk = es.length
theorem MpS.nil : MpS [] [] 0 := ⟨rfl, by simp, by simp, rfl⟩
theorem fnd_no {p : Nm} : ∀ {ps : List Nm} {es : List (D × D × Nat)} (i : Nat), es.map (fun e => e.1) = ps.map keyD → p ∉ ps → fnd kSS (keyD p) es i = some none
  | [], [], _, _, _ => rfl
  | [], _ :: _, _, h, _ => by simp at h
  | _ :: _, [], _, h, _ => by simp at h
  | q :: ps, (k, v, b) :: es, i, h, hp => by
    simp only [List.map_cons, List.cons.injEq] at h
    simp only [List.mem_cons, not_or] at hp
    have hk : k = keyD q := h.1
    have e : (p == q) = false := by simpa using hp.1
    simp only [fnd, hk, keq_key, e]
    exact fnd_no (i + 1) h.2 hp.2
theorem fnd_yes {p : Nm} : ∀ {ps : List Nm} {es : List (D × D × Nat)} (i : Nat), es.map (fun e => e.1) = ps.map keyD → p ∈ ps → ∃ j v b, fnd kSS (keyD p) es i = some (some (i + j, v, b)) ∧ es[j]? = some (keyD p, v, b)
  | [], _, _, _, h => by cases h
  | _ :: _, [], _, h, _ => by simp at h
  | q :: ps, (k, v, b) :: es, i, h, hp => by
    simp only [List.map_cons, List.cons.injEq] at h
    have hk : k = keyD q := h.1
    by_cases e : p = q
    · subst e
      refine ⟨0, v, b, ?_, by simp [hk]⟩
      simp only [fnd, hk, keq_key, beq_self_eq_true, Nat.add_zero]
    · have e' : (p == q) = false := by simpa using e
      have hp : p ∈ ps := by
        rcases List.mem_cons.1 hp with h | h
        · exact absurd h e
        · exact h
      obtain ⟨j, v', b', h1, h2⟩ := fnd_yes (i + 1) h.2 hp
      refine ⟨j + 1, v', b', ?_, by simpa using h2⟩
      simp only [fnd, hk, keq_key, e']
      rw [h1, show i + 1 + j = i + (j + 1) by omega]
theorem setSm {α : Type} {l : List α} {i : Nat} {x : α} (h : l[i]? = some x) : l.set i x = l := by
  apply List.ext_getElem?
  intro j
  by_cases e : i = j
  · subst e
    have : i < l.length := by
      rcases Nat.lt_or_ge i l.length with h' | h'
      · exact h'
      · rw [List.getElem?_eq_none h'] at h; cases h
    rw [List.getElem?_set_self this, h]
  · rw [List.getElem?_set_ne e]
theorem mentK_eq {ks : Bool × List Ck} {zv k : D} {K : D → S → Prop} {t : Nat → D} {B : Hp} {U : Tk} {o clk : Nat} {es : List (D × D × Nat)} (hk : kok ks k = true) (hz : pu zv = true) (ho : B[o]? = some (.map es clk)) {r : Option (Nat × D × Nat)} (hf : fnd ks k es 0 = some r)
    (h : match r with
      | some (i, v, b) => K (.tup [v, .int .i64 (b : Int)]) ⟨t, B.set o (.map (es.set i (k, v, b)) clk), U⟩
      | none => K (.tup [zv, .int .i64 (clk : Int)]) ⟨t, B.set o (.map (es ++ [(k, zv, clk)]) (clk + 1)), U⟩) : mentK ks zv K ⟨t, B, U⟩ (.mp o) k := by
  refine ⟨hk, hz, ?_⟩
  simp only [ho, hf]
  cases r with
  | none => exact h
  | some p => exact h
theorem mstK_eq {K : D → S → Prop} {t : Nat → D} {B : Hp} {U : Tk} {o clk i : Nat} {n : Int} {v : D} {e : D × D × Nat} {es : List (D × D × Nat)} (hv : pu v = true) (ho : B[o]? = some (.map es clk)) (hf : es.findIdx? (fun e => (e.2.2 : Int) == n) = some i) (he : es[i]? = some e)
    (h : K .top ⟨t, B.set o (.map (es.set i (e.1, v, e.2.2)) clk), U⟩) : mstK K ⟨t, B, U⟩ (.mp o) (.int .i64 n) v := by
  refine ⟨hv, ?_⟩
  simp only [ho, hf, he]
  exact h
theorem born_idx {es : List (D × D × Nat)} (hb : ∀ (i : Nat) e, es[i]? = some e → e.2.2 = i) {i : Nat} (hi : i < es.length) : es.findIdx? (fun e => (e.2.2 : Int) == (i : Int)) = some i := by
  rw [List.findIdx?_eq_some_iff_getElem]
  refine ⟨hi, ?_, fun j hj => ?_⟩
  · have := hb i _ (List.getElem?_eq_getElem hi)
    simp [this]
  · have hj' : j < es.length := by omega
    have := hb j _ (List.getElem?_eq_getElem hj')
    simp [this]; omega
theorem MpS.set {ps : List Nm} {es : List (D × D × Nat)} {clk i b : Nat} {k v : D} (h : MpS ps es clk) (he : es[i]? = some (k, v, b)) (n : Int) : MpS ps (es.set i (k, .int .i64 n, b)) clk := by
  refine ⟨?_, fun x hx => ?_, fun j e hj => ?_, by rw [List.length_set]; exact h.c⟩
  · rw [← h.k]
    apply List.ext_getElem?
    intro j
    simp only [List.getElem?_map]
    by_cases e : i = j
    · subst e
      have : i < es.length := by
        rcases Nat.lt_or_ge i es.length with h' | h'
        · exact h'
        · rw [List.getElem?_eq_none h'] at he; cases he
      rw [List.getElem?_set_self this, he]; rfl
    · rw [List.getElem?_set_ne e]
  · rcases List.mem_or_eq_of_mem_set hx with h' | rfl
    · exact h.v x h'
    · exact ⟨n, rfl⟩
  · by_cases e' : i = j
    · subst e'
      have : i < es.length := by
        rcases Nat.lt_or_ge i es.length with h' | h'
        · exact h'
        · rw [List.getElem?_eq_none h'] at he; cases he
      rw [List.getElem?_set_self this] at hj
      injection hj with hj; subst hj
      exact h.b i (k, v, b) he
    · rw [List.getElem?_set_ne e'] at hj
      exact h.b j e hj
theorem MpS.push {ps : List Nm} {es : List (D × D × Nat)} {clk : Nat} (h : MpS ps es clk) (p : Nm) (n : Int) : MpS (ps ++ [p]) (es ++ [(keyD p, .int .i64 n, clk)]) (clk + 1) := by
  refine ⟨by simp [h.k], fun x hx => ?_, fun j e hj => ?_, by simp [h.c]⟩
  · rcases List.mem_append.1 hx with h' | h'
    · exact h.v x h'
    · rw [List.mem_singleton] at h'; subst h'; exact ⟨n, rfl⟩
  · rcases Nat.lt_or_ge j es.length with h' | h'
    · rw [List.getElem?_append_left h'] at hj; exact h.b j e hj
    · rw [List.getElem?_append_right h'] at hj
      have hj' := h.c
      rcases Nat.eq_zero_or_pos (j - es.length) with h0 | h0
      · rw [h0] at hj
        simp only [List.getElem?_cons_zero, Option.some.injEq] at hj
        subst hj
        simp only; omega
      · rw [List.getElem?_eq_none (by simp; omega)] at hj; cases hj
theorem fnd_push {p : Nm} {v : D} {b : Nat} : ∀ {ps : List Nm} {es : List (D × D × Nat)} (i : Nat), es.map (fun e => e.1) = ps.map keyD → p ∉ ps → fnd kSS (keyD p) (es ++ [(keyD p, v, b)]) i = some (some (i + es.length, v, b))
  | [], [], i, _, _ => by simp [fnd, keq_key]
  | [], _ :: _, _, h, _ => by simp at h
  | _ :: _, [], _, h, _ => by simp at h
  | q :: ps, (k, v', b') :: es, i, h, hp => by
    simp only [List.map_cons, List.cons.injEq] at h
    simp only [List.mem_cons, not_or] at hp
    have hk : k = keyD q := h.1
    have e : (p == q) = false := by simpa using hp.1
    simp only [List.cons_append, fnd, hk, keq_key, e]
    rw [fnd_push (i + 1) h.2 hp.2, List.length_cons, show i + 1 + es.length = i + (es.length + 1) by omega]
theorem mget_eq {B : Hp} {o clk : Nat} {es : List (D × D × Nat)} {p : Nm} (ho : okNm p) (hB : B[o]? = some (.map es clk)) {r : Option (Nat × D × Nat)} (hf : fnd kSS (keyD p) es 0 = some r) :
    mgetD B (true, [.str, .str]) (.int .i64 0) false (.mp o) (.agg [.str p.1, .str p.2]) = some (match r with | some (_, v, _) => v | none => .int .i64 0) := by
  have h1 := kok_key ho
  have hf : fnd (true, [.str, .str]) (.agg [.str p.1, .str p.2]) es 0 = some r := hf
  have h1 : kok (true, [.str, .str]) (.agg [.str p.1, .str p.2]) = true := h1
  unfold mgetD
  rw [if_pos h1]
  simp only [entsD, hB, hf]
  cases r with
  | none => rfl
  | some x => rfl
theorem ext_set {H B : Hp} (h : Ext H B) {o : Nat} (ho : H.length ≤ o) (y : Ob) : Ext H (B.set o y) := by
  obtain ⟨L, rfl⟩ := h
  exact ⟨L.set (o - H.length) y, by rw [List.set_append_right _ _ ho]⟩
end GP
namespace GP
open Go Go.Proofs
set_option maxRecDepth 100000
variable [HasG Try.prog]
def pairsD : Nat → List D → Option (List Ed)
  | 0, _ => some []
  | n + 1, .str a :: .str b :: r => (pairsD n r).map ((a, b) :: ·)
  | _, _ => none
def flE (l : List Ed) : List D := (l.map fun e => [D.str e.1, D.str e.2]).flatten
theorem flE_len (l : List Ed) : (flE l).length = l.length * 2 := by
  induction l with
  | nil => rfl
  | cons e l ih => simp only [flE, List.map_cons, List.flatten_cons, List.length_append, List.length_cons, List.length_nil] at ih ⊢; omega
theorem flE_cons (e : Ed) (l : List Ed) : flE (e :: l) = .str e.1 :: .str e.2 :: flE l := rfl
theorem flE_app (l m : List Ed) : flE (l ++ m) = flE l ++ flE m := by simp [flE]
theorem pairsD_fl (l : List Ed) (X : List D) : pairsD l.length (flE l ++ X) = some l := by
  induction l with
  | nil => rfl
  | cons e l ih => simp only [List.length_cons, flE_cons, List.cons_append, pairsD, ih]; rfl
theorem pairsD_of : ∀ {n : Nat} {cs : List D} {l : List Ed}, pairsD n cs = some l → l.length = n ∧ ∃ X, cs = flE l ++ X
  | 0, cs, l, h => by simp [pairsD] at h; subst h; exact ⟨rfl, cs, rfl⟩
  | n + 1, cs, l, h => by
    unfold pairsD at h
    split at h
    · cases ‹n + 1 = 0›
    · rename_i m a b r e
      injection e with e; subst e
      rw [Option.map_eq_some_iff] at h
      obtain ⟨l', h1, rfl⟩ := h
      obtain ⟨h2, X, rfl⟩ := pairsD_of h1
      exact ⟨by simp [h2], X, rfl⟩
    · cases h
def edsM (H : Hp) : D → Option (List Ed)
  | .nils => some []
  | .ms true 2 o 0 n _ => match H[o]? with
    | some (.row cs) => pairsD n cs
    | _ => none
  | _ => none
theorem edsM_of {H : Hp} {d : D} {l : List Ed} (h : edsM H d = some l) : (d = .nils ∧ l = []) ∨ ∃ o cap X, d = .ms true 2 o 0 l.length cap ∧ H[o]? = some (.row (flE l ++ X)) := by
  unfold edsM at h
  split at h
  · injection h with h; exact .inl ⟨rfl, h.symm⟩
  · rename_i o n cap
    split at h
    · rename_i cs hcs
      obtain ⟨h1, X, rfl⟩ := pairsD_of h
      subst h1
      exact .inr ⟨o, cap, X, rfl, hcs⟩
    · cases h
  · cases h
theorem edsM_ms {H : Hp} {o cap : Nat} {l : List Ed} {X : List D} (h : H[o]? = some (.row (flE l ++ X))) : edsM H (.ms true 2 o 0 l.length cap) = some l := by
  simp only [edsM, h]; exact pairsD_fl l X
theorem edsM_mono {H H' : Hp} (hl : Hle H H') {d : D} {l : List Ed} (h : edsM H d = some l) : edsM H' d = some l := by
  rcases edsM_of h with ⟨rfl, rfl⟩ | ⟨o, cap, X, rfl, ho⟩
  · rfl
  · exact edsM_ms (hl o _ ho rfl)
theorem edsM_er {H : Hp} {d : D} {l : List Ed} (h : edsM H d = some l) : d.erase = d := by
  rcases edsM_of h with ⟨rfl, _⟩ | ⟨o, cap, X, rfl, _⟩ <;> rfl
theorem edsM_len {H : Hp} {d : D} {l : List Ed} (h : edsM H d = some l) : lenD d = some l.length := by
  rcases edsM_of h with ⟨rfl, rfl⟩ | ⟨o, cap, X, rfl, _⟩ <;> rfl
theorem flE_drop (l : List Ed) (i : Nat) (X : List D) (hi : i ≤ l.length) : (flE l ++ X).drop (i * 2) = flE (l.drop i) ++ X := by
  have e : flE l = flE (l.take i) ++ flE (l.drop i) := by rw [← flE_app, List.take_append_drop]
  rw [e, List.append_assoc, List.drop_left']
  rw [flE_len, List.length_take]; omega
theorem edsM_at {H : Hp} {d : D} {l : List Ed} (h : edsM H d = some l) {i : Nat} {e : Ed} (he : l[i]? = some e) (k : IntKind) : ∃ o, ia 2 d (.int k (i : Int)) = some (.ptr o (i * 2)) ∧ ∃ X, rdAt H (.ptr o (i * 2)) = some (.str e.1 :: .str e.2 :: X) := by
  have hi : i < l.length := by
    rcases Nat.lt_or_ge i l.length with h' | h'
    · exact h'
    · rw [List.getElem?_eq_none h'] at he; cases he
  rcases edsM_of h with ⟨rfl, rfl⟩ | ⟨o, cap, X, rfl, ho⟩
  · simp at hi
  · refine ⟨o, ?_, flE (l.drop (i + 1)) ++ X, ?_⟩
    · simp only [ia]
      rw [if_pos ⟨by omega, by omega, trivial⟩]; simp
    · have e1 : l.drop i = e :: l.drop (i + 1) := by
        rw [List.getElem?_eq_getElem hi] at he; injection he with he; rw [← he]; exact List.drop_eq_getElem_cons hi
      simp only [rdAt, ho]
      rw [flE_drop l i X (by omega), e1, flE_cons]; rfl
@[go_sem] theorem ld_two (a b : Sb) (X : List D) : ld true 2 (some (.str a :: .str b :: X)) = some (.agg [.str a, .str b]) := by simp [ld]
@[go_sem] theorem nilc_ptr (o f : Nat) : nilcD (.ptr o f) = some (.ptr o f) := id rfl
def idxE (l : List Ed) (e : Ed) : Int := if l.contains e then (l.idxOf e : Int) else -1
def φIdx (H : Hp) : List D → Option D
  | [d, .agg [.str a, .str b]] => match edsM H d with
    | some l => if l.length ≤ 2 ^ 40 then some (.int .i64 (idxE l (a, b))) else none
    | none => none
  | _ => none
theorem φIdx_mono : Mo φIdx := by
  intro H H' args r hl h
  unfold φIdx at h ⊢
  split at h
  · rename_i d a b
    split at h
    · rename_i l hL
      simp only [edsM_mono hl hL]; exact h
    · cases h
  · cases h
theorem idx_lt {l : List Ed} {e : Ed} {i : Nat} {x : Ed} (hx : l[i]? = some x) (hF : ∀ (j : Nat) y, j < i → l[j]? = some y → (e == y) = false) (h : (e == x) = true) : idxE l e = (i : Int) := by
  have hi : i < l.length := by
    rcases Nat.lt_or_ge i l.length with h' | h'
    · exact h'
    · rw [List.getElem?_eq_none h'] at hx; cases hx
  have h0 : e = x := by simpa using h
  subst h0
  have hm : e ∈ l := List.mem_of_getElem? hx
  unfold idxE
  rw [if_pos (by simpa using hm)]
  have h1 := List.idxOf_lt_length_of_mem hm
  have h2 : l[l.idxOf e] = e := List.getElem_idxOf h1
  rcases Nat.lt_trichotomy (l.idxOf e) i with h3 | h3 | h3
  · have := hF _ e h3 (by rw [List.getElem?_eq_getElem h1, h2])
    simp at this
  · rw [h3]
  · have := List.not_of_lt_findIdx (p := (· == e)) (xs := l) (i := i) (by simpa [List.idxOf] using h3)
    rw [List.getElem?_eq_getElem hi] at hx
    injection hx with hx
    simp [hx] at this
theorem idx_no {l : List Ed} {e : Ed} (hF : ∀ (j : Nat) y, j < l.length → l[j]? = some y → (e == y) = false) : idxE l e = -1 := by
  unfold idxE
  rw [if_neg]
  rw [List.contains_iff_mem]
  intro hm
  obtain ⟨j, hj, rfl⟩ := List.getElem_of_mem hm
  have := hF j _ hj (List.getElem?_eq_getElem hj)
  simp at this
theorem okIdxE {N : FuncId} (hf : Fn Try.prog N 19 [.inl 4] c110) : OkAtH Try.prog N φIdx := by
  refine okH_of (l := []) (m := []) .nil .nil hf fun H args r h => ?_
  unfold φIdx at h
  split at h
  · rename_i d a b
    split at h
    · rename_i l hL
      split at h
      · rename_i hl
        injection h with h; subst h
        refine ⟨by simp, by simp [D.cl], fun T => ?_⟩
        have hlen := edsM_len hL
        simp +contextual (maxSteps := 10000000) only [c110, hlen, go_sem, W_draw]
        refine W_for (fun i s' => s'.t 0 = d ∧ s'.t 3 = .ptr H.length 0 ∧ s'.t 6 = d ∧ s'.t 7 = .int .i64 (l.length : Int) ∧ s'.t 8 = .int .i64 (i : Int) ∧ s'.H = H ++ [.row [.str a, .str b]] ∧ s'.T = T ∧ i ≤ l.length ∧ ∀ (j : Nat) y, j < i → l[j]? = some y → ((a, b) == y) = false) l.length ⟨0, ?_⟩ (fun i s h => h.2.2.2.2.2.2.2.1) ?_ (XM_mono _ _)
        · simp [upd, argT, hlen]
        rintro i ⟨t, B, T'⟩ ⟨r0, r3, r6, r7, r8, rfl, rfl, hi, hF⟩
        simp only at r0 r3 r6 r7 r8
        have g3 : rdAt (H ++ [Ob.row [.str a, .str b]]) (.ptr H.length 0) = some [.str a, .str b] := by simp [rdAt]
        by_cases ha : i < l.length
        · have d1 : decide ((i : Int) < l.length) = true := by simpa using ha
          have e : l[i]? = some l[i] := by simp [ha]
          obtain ⟨x, hx⟩ : ∃ x, l[i] = x := ⟨_, rfl⟩
          rw [hx] at e
          have hL' := edsM_mono (H' := H ++ [Ob.row [.str a, .str b]]) (fun o x h _ => by
            rw [List.getElem?_append_left]; exact h
            rcases Nat.lt_or_ge o H.length with h' | h'
            · exact h'
            · rw [List.getElem?_eq_none h'] at h; cases h) hL
          obtain ⟨o, e1, X, e2⟩ := edsM_at hL' e .i64
          have q := eq_ed (a, b) x
          rcases tf ((a, b) == x) with g | g
          · rw [g] at q
            have hI := idx_lt e hF g
            simp +contextual (maxSteps := 10000000) only [r0, r3, r6, r7, r8, g3, d1, e1, e2, q, hI, wrap_natY i (by omega), go_sem, W_draw]
          · rw [g] at q
            have hF' : ∀ (j : Nat) y, j < i + 1 → l[j]? = some y → ((a, b) == y) = false := fun j y hj hy => by
              rcases Nat.lt_or_ge j i with h' | h'
              · exact hF j y h' hy
              · have : j = i := by omega
                subst this; rw [e] at hy; injection hy with hy; subst hy; exact g
            simp +contextual (maxSteps := 10000000) only [r0, r3, r6, r7, r8, g3, d1, e1, e2, q, wrap_natY i (by omega), go_sem, W_draw]
            exact ⟨by omega, hF'⟩
        · have d1 : decide ((i : Int) < l.length) = false := by simpa using ha
          have hI := idx_no (l := l) (e := (a, b)) fun j y hj hy => hF j y (by omega) hy
          simp +contextual (maxSteps := 10000000) only [r0, r3, r6, r7, r8, d1, hI, go_sem, W_draw]
      · cases h
    · cases h
  · cases h
theorem ok110 : OkAtH Try.prog 110 φIdx := okIdxE fn110
theorem ok113 : OkAtH Try.prog 113 φIdx := okIdxE fn113
end GP
namespace GP
open Go Go.Proofs
open Rd O
set_option maxRecDepth 100000
def c72m : C :=
  (.seq (.reg [⟨(some 2), none, .mv (k .nils)⟩])
  (.seq (.seq (.reg [⟨(some 3), none, .mv (t 0)⟩, ⟨(some 4), none, .eq1 .slc false (t 3) (k .nils)⟩])
  (.cond (t 4)
  (.seq (.reg [⟨(some 2), none, .mv (k .nils)⟩])
  .ret)
  .skip))
  (.seq (.reg [⟨(some 5), none, .bslm true 2 []⟩, ⟨(some 6), none, .mv (t 0)⟩, ⟨(some 7), none, .appm true false 2 32 (t 5) (t 6)⟩, ⟨(some 2), none, .mv (t 7)⟩])
  .ret)))
theorem fn72m : Fn Go.Proofs.Try.prog 72 8 [.inl 2] c72m :=
  ⟨⟨_, _, Go.Proofs.Try.func72, rfl, by kernel_rfl, Go.Proofs.Try.ntmps72, by kernel_rfl, ⟨fun f => ([] : List Nat).contains f, true, fun _ => false, false⟩, by kernel_rfl⟩⟩
def c80m : C :=
  (.seq (.reg [⟨(some 2), none, .mv (k .nils)⟩])
  (.seq (.seq (.reg [⟨(some 3), none, .mv (t 0)⟩, ⟨(some 4), none, .eq1 .slc false (t 3) (k .nils)⟩])
  (.cond (t 4)
  (.seq (.reg [⟨(some 2), none, .mv (k .nils)⟩])
  .ret)
  .skip))
  (.seq (.reg [⟨(some 5), none, .bslm true 2 []⟩, ⟨(some 6), none, .mv (t 0)⟩, ⟨(some 7), none, .appm true false 2 32 (t 5) (t 6)⟩, ⟨(some 2), none, .mv (t 7)⟩])
  .ret)))
theorem fn80m : Fn Go.Proofs.Try.prog 80 8 [.inl 2] c80m :=
  ⟨⟨_, _, Go.Proofs.Try.func80, rfl, by kernel_rfl, Go.Proofs.Try.ntmps80, by kernel_rfl, ⟨fun f => ([] : List Nat).contains f, true, fun _ => false, false⟩, by kernel_rfl⟩⟩
def c106m : C :=
  (.seq (.reg [⟨(some 2), none, .mv (k .nils)⟩])
  (.seq (.seq (.reg [⟨(some 3), none, .mv (t 0)⟩, ⟨(some 4), none, .eq1 .slc false (t 3) (k .nils)⟩])
  (.cond (t 4)
  (.seq (.reg [⟨(some 2), none, .mv (k .nils)⟩])
  .ret)
  .skip))
  (.seq (.reg [⟨(some 5), none, .bslm false 1 []⟩, ⟨(some 6), none, .mv (t 0)⟩, ⟨(some 7), none, .appm false false 1 16 (t 5) (t 6)⟩, ⟨(some 2), none, .mv (t 7)⟩])
  .ret)))
theorem fn106m : Fn Go.Proofs.Try.prog 106 8 [.inl 2] c106m :=
  ⟨⟨_, _, Go.Proofs.Try.func106, rfl, by kernel_rfl, Go.Proofs.Try.ntmps106, by kernel_rfl, ⟨fun f => ([] : List Nat).contains f, true, fun _ => false, false⟩, by kernel_rfl⟩⟩
end GP
