import Derived.Ground.NamesProg
import Derived.JoinedOf
import Derived.Laws.IdiomArrays
import Derived.Lib.RowBridge
import Derived.Shelf.Lay
import Derived.Shelf.SlSortCmp.WholeK
import Derived.Shelf.Slices.CompactS
import Derived.Shelf.Sort.Plain
import Derived.Test.YtjpbliffonimgaaRows
import Derived.Test.YtjpbliffonimgaaM5
import Derived.Test.YtjpbliffonimgaaM6
import Derived.Test.YtjpbliffonimgaaM9
set_option linter.unusedSimpArgs false
set_option linter.unnecessarySimpa false
set_option linter.unusedSectionVars false
namespace GP
open Go Go.Proofs
set_option maxRecDepth 100000
variable [HasG Try.prog]
def Fr (S : List Nat) (H B : Hp) : Prop := H.length ≤ B.length ∧ ∀ o, o < H.length → o ∉ S → B[o]? = H[o]?
theorem Fr.refl (S : List Nat) (H : Hp) : Fr S H H := ⟨Nat.le_refl _, fun _ _ _ => rfl⟩
theorem Fr.ext (S : List Nat) {H B : Hp} (h : Ext H B) : Fr S H B := by
  obtain ⟨L, rfl⟩ := h
  exact ⟨by simp, fun o ho _ => List.getElem?_append_left ho⟩
theorem Fr.trans {S S' : List Nat} {A B C : Hp} (h : Fr S A B) (k : Fr S' B C) (hs : ∀ o ∈ S', o ∈ S ∨ A.length ≤ o) : Fr S A C :=
  ⟨Nat.le_trans h.1 k.1, fun o ho hn => by
    rw [k.2 o (Nat.lt_of_lt_of_le ho h.1) fun hm => by
      rcases hs o hm with h' | h'
      · exact hn h'
      · omega]
    exact h.2 o ho hn⟩
theorem lt_get {H : Hp} {i : Nat} {x : Ob} (h : H[i]? = some x) : i < H.length := by
  rcases Nat.lt_or_ge i H.length with h' | h'
  · exact h'
  · rw [List.getElem?_eq_none h'] at h; cases h
def Sr (H : Hp) (o : Nat) (d : D) (xs : List D) : Prop := (d = .nils ∧ xs = []) ∨ ∃ c X, d = .ms true 7 o 0 xs.length c ∧ H[o]? = some (.row (flatD xs ++ X)) ∧ xs.length ≤ c ∧ X.length = (c - xs.length) * 7
theorem Sr.mono {H B : Hp} {o : Nat} {d : D} {xs : List D} (h : Sr H o d xs) (e : d ≠ .nils → B[o]? = H[o]?) : Sr B o d xs := by
  rcases h with ⟨rfl, rfl⟩ | ⟨c, X, rfl, h1, h2, h3⟩
  · exact .inl ⟨rfl, rfl⟩
  · exact .inr ⟨c, X, rfl, by rw [e (by simp)]; exact h1, h2, h3⟩
theorem Sr.cell {H : Hp} {o : Nat} {d : D} {xs : List D} (h : Sr H o d xs) : d.okc = true ∧ d.cells = [d] ∧ d.erase = d ∧ okD d = true ∧ lenD d = some xs.length := by
  rcases h with ⟨rfl, rfl⟩ | ⟨c, X, rfl, _⟩ <;> exact ⟨rfl, rfl, rfl, rfl, rfl⟩
theorem Sr.src {H : Hp} {o : Nat} {d : D} {xs : List D} (h : Sr H o d xs) (hag : isAg 7 xs) : appSrcM H false 7 d = some xs := by
  rcases h with ⟨rfl, rfl⟩ | ⟨c, X, rfl, h1, h2, h3⟩
  · rfl
  · simp only [appSrcM, h1, List.drop_zero]
    rw [if_pos ⟨trivial, trivial, by rw [List.length_append, hag.flat]; omega, .inl trivial⟩, chunk_flat _ _ hag]
theorem F_take {xs X : List D} (h : isAg 7 xs) {i : Nat} (hi : i ≤ xs.length) : (flatD xs ++ X).take (i * 7) = flatD (xs.take i) := by
  rw [List.take_append_of_le_length (by rw [h.flat]; omega), flatD_take xs i h.len]
theorem F_drop {xs X : List D} (h : isAg 7 xs) {i : Nat} (hi : i ≤ xs.length) : (flatD xs ++ X).drop (i * 7) = flatD (xs.drop i) ++ X := by
  rw [List.drop_append_of_le_length (by rw [h.flat]; omega), flatD_drop xs i h.len]
theorem chunk_fit : ∀ (n : Nat) (cs : List D), n * 7 ≤ cs.length → (chunk true 7 n cs).all (fit 7) = true
  | 0, _, _ => rfl
  | n + 1, cs, h => by
    simp only [chunk, List.all_cons, Bool.and_eq_true]
    refine ⟨?_, chunk_fit n _ (by rw [List.length_drop]; omega)⟩
    simp only [if_true, fit, D.okc, D.cells, Bool.true_and, beq_iff_eq, List.length_take]
    omega
theorem chunk_tk {sz : Nat} : ∀ (n m : Nat) (cs : List D), m ≤ n → (chunk true sz n cs).take m = chunk true sz m cs
  | _, 0, _, _ => by simp [chunk]
  | n + 1, m + 1, cs, h => by simp only [chunk, List.take_succ_cons, chunk_tk n m _ (by omega)]
def nlB : D → Bool
  | .nils => true
  | _ => false
set_option maxHeartbeats 8000000 in
theorem ins_snd {d x : D} {xs : List D} {o i : Nat} {H : Hp} {T : Tk} {Q : Post} (hs : Sr H o d xs) (hx : ∀ y ∈ xs, isRw y) (hxr : isRw x) (hl : xs.length ≤ 1000) (hi : i ≤ xs.length)
    (k : ∀ H' o' d', Sr H' o' d' (xs.take i ++ x :: xs.drop i) → d' ≠ .nils → (o' = o ∧ d ≠ .nils ∨ H.length ≤ o') → Fr (if nlB d then [] else [o]) H H' → Q d' H' T) :
    Snd Try.prog 62 [d, .int .i64 (i : Int), .sl none [x]] H T Q := by
  have hM : MonoH [(102, φ102)] := .cons φ102_mono .nil
  refine call_of fn62 (by simp) (W_mono (X := XG Try.prog [103] [] [(102, φ102)] [] []) (XG.X .nil (.cons ok102 .nil) .nil .nil) (fun _ _ h => h) ?_)
  have hag := rows_ag hx
  have hagx : isAg 7 [x] := rows_ag fun y hy => by rw [List.mem_singleton.1 hy]; exact hxr
  have hfx := hagx.fit
  have hFx : (flatD [x]).length = 7 := by rw [hagx.flat]; rfl
  have xer := isRw_erase hxr
  have hfl := hag.flat
  rcases hs with ⟨rfl, rfl⟩ | ⟨c, X, rfl, ho, hc, hX⟩
  · have : i = 0 := by simpa using hi
    subst this
    have e0 : ((0 : Int) == 0) = true := rfl
    have e1 : ((1 : Int) == 0) = false := rfl
    have s0 : slc 7 (some 0) (some 0) .nils = some .nils := rfl
    simp +contextual (maxSteps := 10000000) only [c62, e0, e1, s0, go_sem, W_draw]
    refine ⟨hfx, ?_⟩
    simp only
    rw [if_neg (by simp)]
    refine ⟨by simp, by simp, fun c' X h1 h2 _ => ?_⟩
    simp +contextual (maxSteps := 10000000) only [go_sem, W_draw]
    refine k _ H.length _ (.inr ⟨c', X, rfl, ?_, by simpa using h1, by simpa using h2⟩) (by simp) (.inr (Nat.le_refl _)) (Fr.ext _ (Ext.of _ _))
    simp
  · have hlo := lt_get ho
    obtain ⟨n, hn⟩ : ∃ n, xs.length = n := ⟨_, rfl⟩
    rw [hn] at hl hi hc hX hfl ⊢
    have e1 : ((1 : Int) == 0) = false := rfl
    obtain ⟨dd, hdd⟩ : ∃ dd, slc 7 (some (i : Int)) (some (n : Int)) (.ms true 7 o 0 n c) = some dd := by
      simp only [slc]
      by_cases h : i < c
      · rw [if_pos ⟨by omega, by omega, by omega, by omega, trivial⟩]; exact ⟨_, rfl⟩
      · rw [if_neg (by omega), if_pos ⟨by omega, by omega, by omega, by omega⟩]; exact ⟨_, rfl⟩
    by_cases hin : i = n
    · subst hin
      have en : ((i : Int) == (i : Int)) = true := by simp
      have hins : xs.take i ++ x :: xs.drop i = xs ++ [x] := by rw [List.take_of_length_le (by omega), List.drop_eq_nil_of_le (by omega)]
      rw [hins] at k
      simp +contextual (maxSteps := 10000000) only [c62, e1, hdd, en, go_sem, W_draw]
      refine ⟨hfx, ?_⟩
      simp only [ho]
      refine ⟨trivial, ?_⟩
      simp only [List.length_cons, List.length_nil, Nat.zero_add]
      by_cases hroom : i + 1 ≤ c
      · rw [if_pos hroom]
        refine ⟨by rw [List.length_append, hfl, hX]; omega, ?_⟩
        simp +contextual (maxSteps := 10000000) only [go_sem, W_draw]
        refine k _ o _ (.inr ⟨c, X.drop 7, by simp [hn], ?_, by simp [hn]; omega, by rw [List.length_drop, hX]; simp [hn]; omega⟩) (by simp) (.inl ⟨rfl, by simp⟩) ⟨by simp, fun o' _ hno => ?_⟩
        · rw [List.getElem?_set_self hlo, List.take_left' hfl, show (i + 1) * 7 = i * 7 + 7 by omega, ← List.drop_drop, List.drop_left' hfl, flatD_append, List.append_assoc]
        · simp only [nlB, Bool.false_eq_true, if_false, List.mem_singleton] at hno
          rw [List.getElem?_set_ne (Ne.symm hno)]
      · rw [if_neg hroom]
        refine ⟨trivial, by rw [List.length_append, hfl]; omega, by omega, by omega, fun c' X' h1 h2 _ => ?_⟩
        simp +contextual (maxSteps := 10000000) only [go_sem, W_draw]
        refine k _ H.length _ (.inr ⟨c', X', by simp [hn], ?_, by simp [hn]; omega, by simp [hn, h2]⟩) (by simp) (.inr (Nat.le_refl _)) ⟨by simp, fun o' hlt hno => ?_⟩
        · rw [List.take_left' hfl, flatD_append, List.getElem?_append_right (by simp)]; simp
        · simp only [nlB, Bool.false_eq_true, if_false, List.mem_singleton] at hno
          rw [List.getElem?_append_left (by simpa using hlt), List.getElem?_set_ne (Ne.symm hno)]
    · have hlt : i < n := by omega
      have en : ((i : Int) == (n : Int)) = false := by rw [beq_eq_false_iff_ne]; omega
      have w1 : IntKind.i64.wrap ((n : Int) + 1) = ((n + 1 : Nat) : Int) := by rw [wrap_inY (by omega) (by omega)]; omega
      have w2 : IntKind.i64.wrap ((i : Int) + 1) = ((i + 1 : Nat) : Int) := by rw [wrap_inY (by omega) (by omega)]; omega
      have w3 : IntKind.i64.wrap (((n + 1 : Nat) : Int) - (i : Int)) = ((n + 1 - i : Nat) : Int) := by rw [wrap_inY (by omega) (by omega)]; omega
      have F1 : (flatD xs ++ X).take (i * 7) = flatD (xs.take i) := F_take hag (by omega)
      have F2 : (flatD xs ++ X).drop (i * 7) = flatD (xs.drop i) ++ X := F_drop hag (by omega)
      have F3 : (flatD xs ++ X).take ((i + 1) * 7) = flatD (xs.take (i + 1)) := F_take hag (by omega)
      have agd : isAg 7 (xs.drop i) := hag.sub fun y hy => List.mem_of_mem_drop hy
      have agt : isAg 7 (xs.take i) := hag.sub fun y hy => List.mem_of_mem_take hy
      have hld : (xs.drop i).length = n - i := by rw [List.length_drop]; omega
      have hlt' : (flatD (xs.take i)).length = i * 7 := by rw [agt.flat, List.length_take]; congr 1; omega
      have hldf : (flatD (xs.drop i)).length = (n - i) * 7 := by rw [agd.flat, hld]
      by_cases hroom : n + 1 ≤ c
      · have dr : decide ((c : Int) < ((n + 1 : Nat) : Int)) = false := decide_eq_false (by omega)
        have s1 : slc 7 (some 0) (some ((n + 1 : Nat) : Int)) (.ms true 7 o 0 n c) = some (.ms true 7 o 0 (n + 1) c) := by
          simp only [slc]
          rw [if_neg (by omega), if_neg (by omega), if_pos ⟨by omega, by omega, by omega, by omega, trivial⟩]
          simp
        have s2 := slc_msN (ag := true) (sz := 7) (o := o) (off := 0) (n := n + 1) (cap := c) (l := i + 1) (h := n + 1) (by omega) (Nat.le_refl _) (by omega)
        have s3 := slc_msN (ag := true) (sz := 7) (o := o) (off := 0) (n := n + 1) (cap := c) (l := i) (h := n + 1) (by omega) (Nat.le_refl _) (by omega)
        rw [Nat.zero_add] at s2 s3
        have p102 : φ102 H [.sl none [x], .ms true 7 o ((i + 1) * 7) (n + 1 - (i + 1)) (c - (i + 1))] = some (.bool false) := by
          simp only [φ102]
          rw [if_pos ⟨by obtain ⟨r, rfl, _⟩ := hxr; rfl, _, ho, by rw [List.length_append, hfl, hX]; omega⟩]
        have src : appSrcM H false 7 (.ms true 7 o (i * 7) (n + 1 - i) (c - i)) = some (chunk true 7 (n + 1 - i) (flatD (xs.drop i) ++ X)) := by
          simp only [appSrcM, ho]
          rw [if_pos ⟨trivial, trivial, by rw [List.length_append, hfl, hX]; omega, .inl trivial⟩, F2]
        simp +contextual (maxSteps := 10000000) only [c62, e1, hdd, en, w1, w2, dr, s1, s2, s3, p102, xer, pcallG hM, lookH_cons, lookH_nil, orK_n, orK_s, src, go_sem, W_draw]
        refine ⟨chunk_fit _ _ (by rw [List.length_append, hldf, hX]; omega), ?_⟩
        have em : min (n + 1 - i) (n + 1 - (i + 1)) = n - i := by omega
        have hck : chunk true 7 (n - i) (flatD (xs.drop i) ++ X) = xs.drop i := by rw [← hld]; exact chunk_flat _ _ agd
        simp only [ho, chunk_len]
        rw [em, chunk_tk _ _ _ (by omega), hck, F3, show (i + 1) * 7 + (n - i) * 7 = n * 7 + 7 by omega, ← List.drop_drop, List.drop_left' hfl]
        refine ⟨trivial, by rw [List.length_append, hfl, hX]; omega, ?_⟩
        have agt1 : isAg 7 (xs.take (i + 1)) := hag.sub fun y hy => List.mem_of_mem_take hy
        have hl1 : (flatD (xs.take (i + 1))).length = i * 7 + 7 := by rw [agt1.flat, List.length_take, Nat.min_eq_left (by omega)]; omega
        obtain ⟨R, hR⟩ : ∃ R, flatD (xs.take (i + 1)) ++ flatD (xs.drop i) ++ X.drop 7 = R := ⟨_, rfl⟩
        have R1 : R.take (i * 7) = flatD (xs.take i) := by
          rw [← hR, List.append_assoc, List.take_append_of_le_length (by omega), flatD_take _ i agt1.len, List.take_take, Nat.min_eq_left (by omega)]
        have R2 : R.drop (i * 7 + 7) = flatD (xs.drop i) ++ X.drop 7 := by
          rw [← hR, List.append_assoc, List.drop_left' hl1]
        have Rl : R.length = c * 7 := by
          rw [← hR, List.length_append, List.length_append, hl1, hldf, List.length_drop, hX]; omega
        rw [hR]
        have hg : (H.set o (Ob.row R))[o]? = some (.row R) := List.getElem?_set_self hlo
        simp +contextual (maxSteps := 10000000) only [s3, go_sem, W_draw]
        refine ⟨hfx, ?_⟩
        simp only [hg, List.length_cons, List.length_nil, Nat.zero_add]
        rw [Nat.min_eq_left (by omega : 1 ≤ n + 1 - i), List.take_of_length_le (l := [x]) (i := 1) (by simp), Nat.one_mul, R1, R2]
        refine ⟨trivial, by rw [Rl]; omega, ?_⟩
        simp +contextual (maxSteps := 10000000) only [go_sem, W_draw]
        rw [List.set_set]
        refine k _ o _ (.inr ⟨c, X.drop 7, by simp [hn, hld]; omega, ?_, by simp [hn, hld]; omega, by rw [List.length_drop, hX]; simp [hn, hld]; omega⟩) (by simp) (.inl ⟨rfl, by simp⟩) ⟨by simp, fun o' _ hno => ?_⟩
        · rw [List.getElem?_set_self hlo]
          congr 2
          have : x :: xs.drop i = [x] ++ xs.drop i := rfl
          rw [this, flatD_append, flatD_append]; simp
        · simp only [nlB, Bool.false_eq_true, if_false, List.mem_singleton] at hno
          rw [List.getElem?_set_ne (Ne.symm hno)]
      · have dr : decide ((c : Int) < ((n + 1 : Nat) : Int)) = true := decide_eq_true (by omega)
        have s1 := slc_ms0 (ag := true) (sz := 7) (o := o) (off := 0) (n := n) (cap := c) (h := i) (by omega) (by omega)
        simp +contextual (maxSteps := 10000000) only [c62, e1, hdd, en, w1, w2, w3, dr, s1, go_sem, W_draw]
        have hcn : c = n := by omega
        subst hcn
        refine ⟨by omega, rfl, ?_⟩
        have ei : i + (c + 1 - i) = c + 1 := by omega
        simp only [ho, Int.toNat_natCast, List.drop_zero]
        rw [F1, ei]
        refine ⟨trivial, by omega, by rw [List.length_append, hfl]; omega, by omega, by omega, fun c' hc' => ?_⟩
        obtain ⟨Z, hZ⟩ : ∃ Z, (List.replicate (c' - i) [D.str [], D.str [], D.str [], D.int .i64 0, D.int .i64 0, D.str [], D.nils]).flatten = Z := ⟨_, rfl⟩
        have hZl : Z.length = (c' - i) * 7 := by rw [← hZ]; simp
        rw [hZ]
        have s2 := slc_msN (ag := true) (sz := 7) (o := H.length) (off := 0) (n := c + 1) (cap := c') (l := i) (h := c + 1) (by omega) (Nat.le_refl _) (by omega)
        have s3 := slc_msN (ag := true) (sz := 7) (o := H.length) (off := 0) (n := c + 1) (cap := c') (l := i + 1) (h := c + 1) (by omega) (Nat.le_refl _) (by omega)
        have s4 := slc_msN (ag := true) (sz := 7) (o := o) (off := 0) (n := c) (cap := c) (l := i) (h := c) (by omega) (Nat.le_refl _) (by omega)
        rw [Nat.zero_add] at s2 s3 s4
        have hg : (H ++ [Ob.row (flatD (xs.take i) ++ Z)])[H.length]? = some (.row (flatD (xs.take i) ++ Z)) := by simp
        simp +contextual (maxSteps := 10000000) only [s2, go_sem, W_draw]
        refine ⟨hfx, ?_⟩
        simp only [hg, List.length_cons, List.length_nil, Nat.zero_add]
        rw [Nat.min_eq_left (by omega : 1 ≤ c + 1 - i), List.take_of_length_le (l := [x]) (i := 1) (by simp), Nat.one_mul, List.take_left' hlt', ← List.drop_drop, List.drop_left' hlt']
        refine ⟨trivial, by rw [List.length_append, hlt', hZl]; omega, ?_⟩
        obtain ⟨R, hR⟩ : ∃ R, flatD (xs.take i) ++ flatD [x] ++ Z.drop 7 = R := ⟨_, rfl⟩
        rw [hR]
        have hset : (H ++ [Ob.row (flatD (xs.take i) ++ Z)]).set H.length (Ob.row R) = H ++ [Ob.row R] := by simp
        rw [hset]
        have src : appSrcM (H ++ [Ob.row R]) false 7 (.ms true 7 o (i * 7) (c - i) (c - i)) = some (xs.drop i) := by
          have ho' : (H ++ [Ob.row R])[o]? = some (.row (flatD xs ++ X)) := (Ext.of H _).get ho
          simp only [appSrcM, ho']
          rw [if_pos ⟨trivial, trivial, by rw [List.length_append, hfl]; omega, .inl trivial⟩, F2, ← hld, chunk_flat _ _ agd]
        have hg2 : (H ++ [Ob.row R])[H.length]? = some (.row R) := by simp
        have hl2 : (flatD (xs.take i) ++ flatD [x]).length = (i + 1) * 7 := by rw [List.length_append, hlt', hFx]; omega
        have R1 : R.take ((i + 1) * 7) = flatD (xs.take i) ++ flatD [x] := by rw [← hR, List.take_left' hl2]
        have R2 : R.drop ((i + 1) * 7) = Z.drop 7 := by rw [← hR, List.drop_left' hl2]
        have Rl : R.length = (i + 1) * 7 + ((c' - i) * 7 - 7) := by rw [← hR, List.length_append, hl2, List.length_drop, hZl]
        simp +contextual (maxSteps := 10000000) only [s3, s4, w2, src, go_sem, W_draw]
        refine ⟨agd.fit, ?_⟩
        simp only [hg2, hld]
        rw [Nat.min_eq_left (by omega : c - i ≤ c + 1 - (i + 1)), List.take_of_length_le (by omega : (xs.drop i).length ≤ c - i), R1, ← List.drop_drop, R2, List.drop_drop]
        refine ⟨trivial, by rw [Rl]; omega, ?_⟩
        simp +contextual (maxSteps := 10000000) only [go_sem, W_draw]
        refine k _ H.length _ (.inr ⟨c', Z.drop (7 + (c - i) * 7), by simp [hn, hld]; omega, ?_, by simp [hn, hld]; omega, by rw [List.length_drop, hZl]; simp [hn, hld]; omega⟩) (by simp) (.inr (Nat.le_refl _)) ⟨by simp, fun o' hlt2 hno => ?_⟩
        · rw [List.getElem?_set_self (by simp)]
          congr 2
          have : x :: xs.drop i = [x] ++ xs.drop i := rfl
          rw [this, flatD_append, flatD_append]; simp
        · rw [List.getElem?_set_ne (by omega), List.getElem?_append_left hlt2]
end GP
namespace GP
open Go Go.Proofs
set_option maxRecDepth 100000
variable [HasG Try.prog]
set_option maxHeartbeats 4000000 in
theorem del_snd {d : D} {xs : List D} {o i : Nat} {H : Hp} {T : Tk} {Q : Post} (hs : Sr H o d xs) (hx : ∀ y ∈ xs, isRw y) (hl : xs.length ≤ 1000) (hi : i < xs.length)
    (k : ∀ H' d', Sr H' o d' (xs.take i ++ xs.drop (i + 1)) → d' ≠ .nils → Fr [o] H H' → Q d' H' T) :
    Snd Try.prog 64 [d, .int .i64 (i : Int), .int .i64 ((i + 1 : Nat) : Int)] H T Q := by
  refine call_of fn64 (by simp) (W_mono (X := XL []) (Ok.X .nil) (fun _ _ h => h) ?_)
  have hag := rows_ag hx
  have hfl := hag.flat
  rcases hs with ⟨rfl, rfl⟩ | ⟨c, X, rfl, ho, hc, hX⟩
  · simp at hi
  · have hlo := lt_get ho
    obtain ⟨n, hn⟩ : ∃ n, xs.length = n := ⟨_, rfl⟩
    have F1 : (flatD xs ++ X).take (i * 7) = flatD (xs.take i) := F_take hag (by omega)
    have F2 : (flatD xs ++ X).drop ((i + 1) * 7) = flatD (xs.drop (i + 1)) ++ X := F_drop hag (by omega)
    rw [hn] at hl hi hc hX hfl ⊢
    have agd : isAg 7 (xs.drop (i + 1)) := hag.sub fun y hy => List.mem_of_mem_drop hy
    have agt : isAg 7 (xs.take i) := hag.sub fun y hy => List.mem_of_mem_take hy
    have hld : (xs.drop (i + 1)).length = n - (i + 1) := by rw [List.length_drop]; omega
    have hlt' : (flatD (xs.take i)).length = i * 7 := by rw [agt.flat, List.length_take]; congr 1; omega
    have hldf : (flatD (xs.drop (i + 1))).length = (n - (i + 1)) * 7 := by rw [agd.flat, hld]
    have s3 : slc3 7 (some (i : Int)) (some ((i + 1 : Nat) : Int)) (some (n : Int)) (.ms true 7 o 0 n c) = some (.ms true 7 o (0 + i * 7) 1 (n - i)) := by
      simp only [slc3]
      rw [if_neg (by omega), if_pos ⟨by omega, by omega, by omega, by omega, by omega, trivial⟩]
      have e1 : (((i + 1 : Nat) : Int) - (i : Int)).toNat = 1 := by omega
      have e2 : ((n : Int) - (i : Int)).toNat = n - i := by omega
      rw [e1, e2]; simp
    have s1 := slc_ms0 (ag := true) (sz := 7) (o := o) (off := 0) (n := n) (cap := c) (h := i) (by omega) (by omega)
    obtain ⟨d2, s2, src⟩ : ∃ d2, slc 7 (some ((i + 1 : Nat) : Int)) (some (n : Int)) (.ms true 7 o 0 n c) = some d2 ∧ appSrcM H false 7 d2 = some (xs.drop (i + 1)) := by
      by_cases h : i + 1 < c
      · refine ⟨_, slc_msN (by omega) (by omega) h, ?_⟩
        simp only [appSrcM, ho]
        rw [if_pos ⟨trivial, trivial, by rw [List.length_append, hfl, hX]; omega, .inl trivial⟩, Nat.zero_add, F2, ← hld, chunk_flat _ _ agd]
      · have e : xs.drop (i + 1) = [] := List.drop_eq_nil_of_le (by omega)
        refine ⟨.sl none [], ?_, by rw [e]; rfl⟩
        simp only [slc]
        rw [if_neg (by omega), if_pos ⟨by omega, by omega, by omega, by omega⟩]
    have d1 : ((i : Int) == ((i + 1 : Nat) : Int)) = false := by rw [beq_eq_false_iff_ne]; omega
    have s4 : slc 7 (some (((n - 1 : Nat) : Int))) (some (n : Int)) (.ms true 7 o 0 (n - 1) c) = some (.ms true 7 o (0 + (n - 1) * 7) 1 (c - (n - 1))) := by
      simp only [slc]
      rw [if_neg (by omega), if_neg (by omega), if_pos ⟨by omega, by omega, by omega, by omega, trivial⟩]
      simp; omega
    simp +contextual (maxSteps := 10000000) only [c64, s3, s1, s2, src, d1, go_sem, W_draw]
    refine ⟨agd.fit, ?_⟩
    simp only [ho, hld]
    refine ⟨trivial, ?_⟩
    rw [if_pos (by omega), show i + (n - (i + 1)) = n - 1 by omega]
    simp only [Nat.zero_add]
    rw [F1]
    refine ⟨by rw [List.length_append, hfl, hX]; omega, ?_⟩
    obtain ⟨R, hR⟩ : ∃ R, flatD (xs.take i) ++ flatD (xs.drop (i + 1)) ++ (flatD xs ++ X).drop ((n - 1) * 7) = R := ⟨_, rfl⟩
    have hl2 : (flatD (xs.take i) ++ flatD (xs.drop (i + 1))).length = (n - 1) * 7 := by rw [List.length_append, hlt', hldf]; omega
    have R1 : R.take ((n - 1) * 7) = flatD (xs.take i) ++ flatD (xs.drop (i + 1)) := by rw [← hR, List.take_left' hl2]
    have R2 : R.drop ((n - 1) * 7 + 7) = X := by
      rw [← hR, ← List.drop_drop, List.drop_left' hl2, List.drop_drop, show (n - 1) * 7 + 7 = n * 7 by omega, List.drop_left' hfl]
    have Rl : R.length = c * 7 := by
      rw [← hR, List.length_append, hl2, List.length_drop, List.length_append, hfl, hX]; omega
    rw [hR]
    have hg : (H.set o (Ob.row R))[o]? = some (.row R) := List.getElem?_set_self hlo
    rw [Nat.zero_add] at s4
    simp +contextual (maxSteps := 10000000) only [s4, go_sem, W_draw]
    simp only [clrK, hg]
    refine ⟨rfl, by rw [Rl]; omega, ?_⟩
    simp +contextual (maxSteps := 10000000) only [go_sem, W_draw]
    rw [List.set_set, R1]
    rw [R2]
    have e1 : (List.replicate 1 [D.str [], D.str [], D.str [], D.int .i64 0, D.int .i64 0, D.str [], D.nils]).flatten = [D.str [], D.str [], D.str [], D.int .i64 0, D.int .i64 0, D.str [], D.nils] := rfl
    rw [e1]
    have hlen : (xs.take i ++ xs.drop (i + 1)).length = n - 1 := by rw [List.length_append, List.length_take, hld]; omega
    refine k _ _ (.inr ⟨c, [D.str [], D.str [], D.str [], D.int .i64 0, D.int .i64 0, D.str [], D.nils] ++ X, by rw [hlen], ?_, by omega, by rw [List.length_append, hX, hlen]; simp; omega⟩) (by simp) ⟨by simp, fun o' _ hno => ?_⟩
    · rw [List.getElem?_set_self hlo, flatD_append]
    · rw [List.mem_singleton] at hno
      rw [List.getElem?_set_ne (Ne.symm hno)]
end GP
namespace GP
open Go Go.Proofs
set_option maxRecDepth 100000
variable [HasG Try.prog]
theorem nilc_ptr (o f : Nat) : nilcD (.ptr o f) = some (.ptr o f) := rfl
theorem snd_er {P : Program} [HasG P] {f : FuncId} {args args' : List D} {H : Hp} {T : Tk} {Q : Post} (he : D.eraseL args' = args) (h : Snd P f args H T Q) : Snd P f args' H T Q := fun c w vs hg k1 k2 k3 =>
  h c w vs hg k1 k2 (by rw [← he]; exact k3.erase)
structure StoS (H : Hp) (p : Nat) (S : List Nat) (fs : D) (xs : List D) : Prop where
  low : ∀ o ∈ S, o < H.length
  pS : p ∈ S
  hF : isLs isF fs
  kind : kindsOk (elems fs)
  rws : ∀ x ∈ xs, isRw x
  ris : Ris ordD xs
  len : xs.length ≤ 120
  own : ∃ o d, o ∈ S ∧ H[p]? = some (.row [fs, d]) ∧ Sr H o d xs
theorem Sr.ne {H : Hp} {o p : Nat} {fs d : D} {xs : List D} (h : Sr H o d xs) (hp : H[p]? = some (.row [fs, d])) (hd : d ≠ .nils) (hag : isAg 7 xs) : o ≠ p := by
  rcases h with ⟨rfl, _⟩ | ⟨c, X, rfl, h1, h2, h3⟩
  · exact absurd rfl hd
  · rintro rfl
    rw [h1] at hp
    injection hp with hp; injection hp with hp
    have := congrArg List.length hp
    rw [List.length_append, hag.flat, h3] at this
    simp at this; omega
def Stp (H B : Hp) (p : Nat) (S : List Nat) (fs : D) (xs : List D) : Prop := ∃ S', StoS B p S' fs xs ∧ Fr S H B ∧ ∀ o ∈ S', o ∈ S ∨ H.length ≤ o
theorem StoS.fr {H B : Hp} {p : Nat} {S S2 : List Nat} {fs : D} {xs : List D} (h : StoS H p S fs xs) (hf : Fr S2 H B) (hd : ∀ o ∈ S, o ∉ S2) : StoS B p S fs xs := by
  obtain ⟨o, d, h1, h2, h3⟩ := h.own
  exact { h with low := fun o ho => Nat.lt_of_lt_of_le (h.low o ho) hf.1, own := ⟨o, d, h1, by rw [hf.2 p (h.low p h.pS) (hd p h.pS)]; exact h2, h3.mono fun _ => hf.2 o (h.low o h1) (hd o h1)⟩ }
theorem StoS.stay {H B : Hp} {p : Nat} {S : List Nat} {fs : D} {xs : List D} (h : StoS H p S fs xs) (hE : Ext H B) : Stp H B p S fs xs := ⟨S, h.fr (Fr.ext [] hE) (by simp), Fr.ext S hE, fun o ho => .inl ho⟩
theorem Stp.trans {H B C : Hp} {p : Nat} {S S' : List Nat} {fs : D} {xs : List D} (h : Fr S H B) (h2 : ∀ o ∈ S', o ∈ S ∨ H.length ≤ o) (k : Stp B C p S' fs xs) : Stp H C p S fs xs := by
  obtain ⟨S2, k1, k2, k3⟩ := k
  refine ⟨S2, k1, h.trans k2 h2, fun o ho => ?_⟩
  rcases k3 o ho with h' | h'
  · exact h2 o h'
  · exact .inr (Nat.le_trans h.1 h')
def errP (fs xs : List D) (x : D) : Int := if badR x then 1 else if fitR fs x != 0 then fitR fs x else if !(Ord.has ordD x xs) && decide (120 ≤ xs.length) then 13 else 0
theorem fit_badR {fs : List D} (hk : kindsOk fs) {x : D} (hx : isRw x) (hb : badR x = false) : fitI fs x = fitR fs x := by
  unfold badR at hb
  simp only [Bool.or_eq_false_iff, Bool.not_eq_false', beq_eq_false_iff_ne] at hb
  exact fit_same hk hx hb.1.2 hb.2
theorem cl_fs {fs : D} (h : isLs isF fs) (hl : (elems fs).length ≤ 2 ^ 30) : φcl 4 [fs] = some fs := by
  obtain ⟨n, xs, rfl, _, hx⟩ := h
  rw [elems_sliceD] at hl
  have hc := isLs_cl (fs := .sl none xs) ⟨false, xs, rfl, by omega, hx⟩
  simp only [D.cl] at hc
  have hc : D.clL 0 0 xs = true := by simpa using hc
  have hag : isAg 4 xs := fun y hy => by
    obtain ⟨w, m, kk, b, rfl, _⟩ := hx y hy
    exact ⟨_, rfl, rfl⟩
  rcases sliceD_cases n xs with ⟨e, _⟩ | e
  · rw [e]; rfl
  · rw [e]
    simp only [φcl]
    rw [if_pos ⟨hag.fit, hc, eraseL_id fun x h => isF_erase (hx x h), hl⟩]
theorem new_snd {fs : D} {H : Hp} {T : Tk} {Q : Post} (hf : isLs isF fs) (hk : kindsOk (elems fs)) (hl : (elems fs).length ≤ 2 ^ 30) (k : ∀ B p U, Ext H B → H.length ≤ p → StoS B p [p] fs [] → Q (.ptr p 0) B (T ++ U)) : Snd Try.prog 20 [fs] H T Q := by
  refine call_of fn20 (by simp) (W_mono (X := XL [(58, φcl 4)]) (Ok.X (.cons ok58i .nil)) (fun _ _ h => h) ?_)
  have pc := cl_fs hf hl
  obtain ⟨ef, of, cf⟩ := isF_lc hf
  simp +contextual (maxSteps := 10000000) only [c20, pc, ef, of, cf, go_sem, W_draw]
  rw [← List.append_nil T]
  refine k _ H.length [] (Ext.of _ _) (Nat.le_refl _) { low := by simp, pS := by simp, hF := hf, kind := hk, rws := by simp, ris := by simp [Ris], len := by simp, own := ⟨H.length, .nils, by simp, by simp, .inl ⟨rfl, rfl⟩⟩ }
end GP
namespace GP
open Go Go.Proofs
set_option maxRecDepth 100000
variable [HasG Try.prog]
theorem put_len (x : D) {xs : List D} (hr : Ris ordD xs) : (Ord.put ordD x xs).length = xs.length + if Ord.has ordD x xs then 0 else 1 := by
  have h1 := Ord.pos_le (o := ordD) x xs
  unfold Ord.put
  cases h : Ord.has ordD x xs with
  | true =>
    obtain ⟨h3, _⟩ := (Ord.has_at ordD_ord hr).1 h
    simp; omega
  | false => simp; omega
set_option maxHeartbeats 16000000 in
theorem set_snd {p : Nat} {S : List Nat} {fs : D} {xs : List D} {x : D} {H : Hp} {T : Tk} {Q : Post} (h : StoS H p S fs xs) (hxr : isRw x)
    (k : ∀ B U, Stp H B p S fs (if errP (elems fs) xs x = 0 then Ord.put ordD x xs else xs) → Q (.int .i64 (errP (elems fs) xs x)) B (T ++ U)) :
    Snd Try.prog 21 [.ptr p 0, x] H T Q := by
  have hst := h
  have hX := XG_mono (P := Try.prog) [62] [(53, φFormed), (59, φ59)] [(57, φ57), (60, φ60)] [] []
  have hM : MonoH [(57, φ57), (60, φ60)] := .cons φ57_mono (.cons φ60_mono .nil)
  refine call_of fn21 (by simp) (W_mono (X := XG Try.prog [62] [(53, φFormed), (59, φ59)] [(57, φ57), (60, φ60)] [] []) (XG.X (.cons ok53 (.cons ok59 .nil)) (.cons ok57 (.cons ok60 .nil)) .nil .nil) (fun _ _ h => h) ?_)
  obtain ⟨o, d, hoS, hp, hs⟩ := h.own
  have hag := rows_ag h.rws
  have hxr' := hxr
  obtain ⟨r, rfl, hr⟩ := hxr
  obtain ⟨ef, of, cf⟩ := isF_lc h.hF
  obtain ⟨od, cd, ed, okd, ldd⟩ := hs.cell
  have eL := hr.eL
  have p59 : φ59 [fs, rwD r] = some (.int .i64 (fitI (elems fs) (rwD r))) := by simp only [φ59]; rw [if_pos ⟨h.hF, hxr'⟩]
  have p53 : φFormed [mkV r.k r.i r.s r.n r.l] = some (.bool (formedB r.v)) := by
    have hv1 : (mkV r.k r.i r.s r.n r.l).isV = true := hr.v.1
    simp only [φFormed]; rw [if_pos hv1, formed_same]; rfl
  have hpH := h.low p h.pS
  obtain ⟨B, hB⟩ : ∃ B, H ++ [Ob.row [.str r.who, .str r.name, .str r.attr, .int .i64 r.k, .int .i64 r.i, .str r.s, sliceD r.n r.l]] = B := ⟨_, rfl⟩
  have hE0 : Ext H B := by rw [← hB]; exact Ext.of _ _
  have hBl : B.length = H.length + 1 := by rw [← hB]; simp
  have b3 : B[H.length]? = some (.row [.str r.who, .str r.name, .str r.attr, .int .i64 r.k, .int .i64 r.i, .str r.s, sliceD r.n r.l]) := by rw [← hB]; simp
  have bp : B[p]? = some (.row [fs, d]) := hE0.get hp
  have hsB : Sr B o d xs := hs.mono fun hd => by
    rcases hs with ⟨e, _⟩ | ⟨c, X, _, h1, _⟩
    · exact absurd e hd
    · rw [hE0.get h1, h1]
  have g3 := rdAt_of b3
  have gp := rdAt_of bp
  obtain ⟨e, he⟩ : ∃ e, errP (elems fs) xs (rwD r) = e := ⟨_, rfl⟩
  obtain ⟨zs, hzs⟩ : ∃ zs, Ord.put ordD (rwD r) xs = zs := ⟨_, rfl⟩
  rw [he, hzs] at k
  unfold errP at he
  have hfb := fit_badR h.kind hxr'
  obtain ⟨fi, hfi⟩ : ∃ fi, fitI (elems fs) (rwD r) = fi := ⟨_, rfl⟩
  rw [hfi] at p59 hfb
  obtain ⟨bd, hbd⟩ : ∃ b, badR (rwD r) = b := ⟨_, rfl⟩
  rw [hbd] at he hfb
  have hbd : (((r.who != sSub) && (r.who != sRes)) || (r.name == []) || decide (64 < r.name.length) || !formedB r.v || (r.k == 0)) = bd := hbd
  obtain ⟨fb, hfb'⟩ : ∃ b, formedB r.v = b := ⟨_, rfl⟩
  rw [hfb'] at hbd p53
  have stay : ∀ (B' : Hp), Ext H B' → e ≠ 0 → Stp H B' p S fs (if e = 0 then zs else xs) := fun B' hE hne => by
    rw [if_neg hne]; exact hst.stay hE
  have p57 : φ57 B [.sl none [rwD r]] = some (.sl none [rwD r]) := by
    have hsrc : appSrcM B false 7 (.sl none [rwD r]) = some [rwD r] := rfl
    simp only [φ57, hsrc]
    rw [if_pos ⟨fun y hy => by rw [List.mem_singleton.1 hy]; exact hxr', by simp, rfl⟩]
    rfl
  obtain ⟨q, hq⟩ : ∃ q, Ord.pos ordD (rwD r) xs = q := ⟨_, rfl⟩
  obtain ⟨hb, hhb⟩ : ∃ q, Ord.has ordD (rwD r) xs = q := ⟨_, rfl⟩
  have p60 : φ60 B [d, rwD r, .fn 61 [] []] = some (.tup [.int .i64 (q : Int), .bool hb]) := by
    simp only [φ60, hsB.src hag]
    rw [if_pos ⟨h.rws, hxr', by have := h.len; omega, okd, h.ris⟩, hq, hhb]
  have hat := Ord.has_at ordD_ord (x := rwD r) h.ris
  have hpl := Ord.pos_le (o := ordD) (rwD r) xs
  rw [hq] at hat hpl
  rw [hhb] at hat he
  have hzl := put_len (rwD r) h.ris
  rw [hzs, hhb] at hzl
  have hzm : ∀ z ∈ zs, isRw z := fun z hz => by
    rw [← hzs] at hz
    rcases (Ord.put_mem ordD_ord h.ris z).1 hz with rfl | ⟨h1, _⟩
    · exact hxr'
    · exact h.rws z h1
  have hzr : Ris ordD zs := by rw [← hzs]; exact Ord.put_ris ordD_ord h.ris
  simp only [rwD] at p59 p57 p60
  simp only [mkV] at p53
  unfold c21
  refine W_cut (I := fun s' => s'.t 0 = .ptr p 0 ∧ s'.t 3 = .ptr H.length 0 ∧ s'.H = B ∧ s'.T = T) hX ?_ ?_
  · simp +contextual (maxSteps := 10000000) only [rwD, eL, go_sem, W_draw]
    exact hB
  rintro ⟨t, B', U⟩ ⟨r0, r3, rfl, rfl⟩
  simp only at r0 r3 b3 bp hBl hE0 g3 gp hsB p57 p60
  refine W_cut (I := fun s' => bd = false ∧ s'.t 0 = .ptr p 0 ∧ s'.t 3 = .ptr H.length 0 ∧ s'.H = B' ∧ s'.T = U) hX ?_ ?_
  · have fin : bd = true → Q (.int .i64 1) B' U := fun hh => by
      rw [hh, if_pos rfl] at he
      have := k B' [] (stay B' hE0 (by omega))
      rw [List.append_nil, ← he] at this
      exact this
    have w1 : (r.who != sSub) = (r.who != [115, 117, 98, 106, 101, 99, 116]) := rfl
    have w2 : (r.who != sRes) = (r.who != [114, 101, 115, 111, 117, 114, 99, 101]) := rfl
    rw [w1, w2] at hbd
    have l64 : decide ((64 : Int) < (r.name.length : Int)) = decide (64 < r.name.length) := by rw [Bool.eq_iff_iff, decide_eq_true_eq, decide_eq_true_eq]; omega
    have l1 : decide ((r.name.length : Int) < 1) = (r.name == []) := by
      rw [Bool.eq_iff_iff, decide_eq_true_eq, beq_iff_eq, ← List.length_eq_zero_iff]; omega
    obtain ⟨a, ha⟩ : ∃ a, (r.who != [115, 117, 98, 106, 101, 99, 116]) = a := ⟨_, rfl⟩
    obtain ⟨b, hb'⟩ : ∃ a, (r.who != [114, 101, 115, 111, 117, 114, 99, 101]) = a := ⟨_, rfl⟩
    obtain ⟨nn, hn⟩ : ∃ a, (r.name == []) = a := ⟨_, rfl⟩
    obtain ⟨ll, hll⟩ : ∃ a, decide (64 < r.name.length) = a := ⟨_, rfl⟩
    obtain ⟨k0, hk⟩ : ∃ a, (r.k == 0) = a := ⟨_, rfl⟩
    rw [ha, hb', hn, hll, hk] at hbd
    rw [hll] at l64
    rw [hn] at l1
    cases a <;> cases b <;> cases nn <;> cases ll <;> cases fb <;> cases k0 <;> simp only [Bool.not_true, Bool.not_false, Bool.and_true, Bool.and_false, Bool.or_true, Bool.or_false, Bool.true_and, Bool.false_and, Bool.true_or, Bool.false_or, Bool.and_self, Bool.or_self] at hbd <;>
      simp +contextual (maxSteps := 10000000) only [r0, r3, g3, ld, List.take_zero, List.nil_append, List.drop_succ_cons, List.drop_zero, List.head?_cons, ha, hb', l1, l64, hk, p53, pcallG hM, lookH_cons, lookH_nil, orK_n, orK_s, XG_eq, eL, go_sem, W_draw] <;>
      first | exact fin hbd.symm | exact hbd.symm | (subst hbd; rfl)
  rintro ⟨t, B2, U2⟩ ⟨hb0, r0, r3, rfl, rfl⟩
  simp only at r0 r3 b3 bp hBl hE0 g3 gp hsB p57 p60
  rw [hb0] at he
  have hfe := hfb hb0
  simp only [Bool.false_eq_true, if_false] at he
  obtain ⟨f, hff⟩ : ∃ f, fitR (elems fs) (rwD r) = f := ⟨_, rfl⟩
  rw [hff] at hfe he
  rw [hfe] at p59
  rcases tf (f != 0) with c | c
  · rw [c, if_pos rfl] at he
    have hne : f ≠ 0 := by simpa [bne] using c
    simp +contextual (maxSteps := 10000000) only [r0, r3, g3, gp, ld, List.take_zero, List.nil_append, List.drop_succ_cons, List.drop_zero, List.head?_cons, nilc_ptr, p59, c, pcallG hM, lookH_cons, lookH_nil, orK_n, orK_s, XG_eq, eL, ef, of, cf, go_sem, W_draw]
    have := k B2 [] (stay B2 hE0 (by omega))
    rw [List.append_nil, ← he] at this
    exact this
  rw [c] at he
  simp only [Bool.false_eq_true, if_false] at he
  have hself : B2.set H.length (.row [.str r.who, .str r.name, .str r.attr, .int .i64 r.k, .int .i64 r.i, .str r.s, sliceD r.n r.l]) = B2 := by
    apply List.ext_getElem?
    intro j
    by_cases hj : j = H.length
    · subst hj; rw [List.getElem?_set_self (by omega), b3]
    · rw [List.getElem?_set_ne (Ne.symm hj)]
  cases hb with
  | true =>
    obtain ⟨hqx, _⟩ := hat.1 rfl
    have hoB : o < B2.length := Nat.lt_of_lt_of_le (h.low o hoS) (by omega)
    simp only [Bool.not_true, Bool.false_and, Bool.false_eq_true, if_false] at he
    have hzz : zs = xs.set q (rwD r) := by
      rw [← hzs]
      unfold Ord.put
      rw [hq, hhb, List.set_eq_take_append_cons_drop, if_pos hqx]; rfl
    have hop := fun hd => hs.ne hp hd hag
    rcases hsB with ⟨rfl, hx0⟩ | ⟨c1, X, rfl, ho, hc1, hX⟩
    · subst hx0; simp at hqx
    have hop := hop (by simp)
    have i1 := ia_msN (ag := true) (sz := 7) (o := o) (off := 0) (cap := c1) (k := .i64) hqx
    rw [Nat.zero_add] at i1
    simp +contextual (maxSteps := 10000000) only [r0, r3, g3, gp, ld, List.take_zero, List.nil_append, List.drop_succ_cons, List.drop_zero, List.head?_cons, nilc_ptr, p59, p57, p60, c, pcallG hM, lookH_cons, lookH_nil, orK_n, orK_s, XG_eq, eL, ef, of, cf, storeK_E b3, hself, i1, go_sem, W_draw]
    refine st_ms (rest := X) (xs := xs) (i := q) ho hag ⟨_, rfl, rfl⟩ hqx rfl ?_
    simp +contextual (maxSteps := 10000000) only [go_sem, W_draw]
    have hzl' : zs.length = xs.length := by rw [hzz]; simp
    have := k (B2.set o (.row (flatD (xs.set q (D.agg [.str r.who, .str r.name, .str r.attr, .int .i64 r.k, .int .i64 r.i, .str r.s, sliceD r.n r.l])) ++ X))) [some (1, 7)] (by
      rw [if_pos he.symm]
      refine ⟨S, { h with low := fun o' ho' => ?_, rws := hzm, ris := hzr, len := by rw [hzl']; exact h.len, own := ⟨o, .ms true 7 o 0 xs.length c1, hoS, ?_, .inr ⟨c1, X, by rw [hzl'], ?_, by rw [hzl']; exact hc1, by rw [hzl']; exact hX⟩⟩ }, ⟨?_, fun o' hlt hno => ?_⟩, fun o' ho' => .inl ho'⟩
      · have := h.low o' ho'; simp; omega
      · rw [List.getElem?_set_ne hop]; exact bp
      · rw [List.getElem?_set_self hoB, hzz]; rfl
      · simp; omega
      · rw [List.getElem?_set_ne (fun e => hno (by rw [← e]; exact hoS))]
        obtain ⟨L, hL⟩ := hE0
        rw [hL, List.getElem?_append_left hlt])
    rw [← he] at this
    exact this
  | false =>
    simp only [Bool.not_false, Bool.true_and] at he
    have l120 : decide ((120 : Int) ≤ (xs.length : Int)) = decide (120 ≤ xs.length) := by rw [Bool.eq_iff_iff, decide_eq_true_eq, decide_eq_true_eq]; omega
    rcases tf (decide (120 ≤ xs.length)) with c2 | c2
    · rw [c2, if_pos rfl] at he
      rw [c2] at l120
      simp +contextual (maxSteps := 10000000) only [r0, r3, g3, gp, ld, List.take_zero, List.nil_append, List.drop_succ_cons, List.drop_zero, List.head?_cons, nilc_ptr, p59, p57, p60, c, pcallG hM, lookH_cons, lookH_nil, orK_n, orK_s, XG_eq, eL, ef, of, cf, od, cd, ed, ldd, l120, storeK_E b3, hself, go_sem, W_draw]
      have := k B2 [some (1, 7)] (stay B2 hE0 (by omega))
      rw [← he] at this
      exact this
    · rw [c2] at he l120
      simp only [Bool.false_eq_true, if_false] at he
      simp only [decide_eq_false_iff_not] at c2
      simp +contextual (maxSteps := 10000000) only [r0, r3, g3, gp, ld, List.take_zero, List.nil_append, List.drop_succ_cons, List.drop_zero, List.head?_cons, nilc_ptr, p59, p57, p60, c, pcallG hM, lookH_cons, lookH_nil, orK_n, orK_s, XG_eq, eL, ef, of, cf, od, cd, ed, ldd, l120, storeK_E b3, hself, go_sem, W_draw]
      have hxl := h.len
      refine ins_snd (x := rwD r) hsB h.rws hxr' (by omega) (by omega) fun H' o' d' hs' hn' ho' hF' => ?_
      have hzz : xs.take q ++ rwD r :: xs.drop q = zs := by
        rw [← hzs]
        unfold Ord.put
        rw [hq, hhb]; rfl
      rw [hzz] at hs'
      have hpo : p ∉ (if nlB d then [] else [o]) := fun hm => by
        split at hm
        · cases hm
        · rename_i hd
          rw [List.mem_singleton] at hm
          exact hs.ne hp (by rintro rfl; exact hd rfl) hag hm.symm
      have bp' : H'[p]? = some (.row [fs, d]) := by rw [hF'.2 p (by omega) hpo]; exact bp
      obtain ⟨od', cd', _, _, _⟩ := hs'.cell
      have hpo' : o' ≠ p := by
        rcases ho' with ⟨rfl, hd⟩ | h'
        · exact hs.ne hp hd hag
        · omega
      have hlp := lt_get bp'
      simp +contextual (maxSteps := 10000000) only [r0, nilc_ptr, od', cd', storeK_E bp', List.take_zero, List.nil_append, List.drop_succ_cons, List.drop_zero, List.take_succ_cons, go_sem, W_draw]
      have := k (H'.set p (.row [fs, d'])) [some (1, 7)] (by
        rw [if_pos he.symm]
        have hlo' : d' ≠ .nils → o' < H'.length := fun hd => by
          rcases hs' with ⟨e, _⟩ | ⟨_, _, _, h1, _⟩
          · exact absurd e hd
          · exact lt_get h1
        refine ⟨o' :: S, { h with low := fun o1 ho1 => ?_, pS := List.mem_cons_of_mem _ h.pS, rws := hzm, ris := hzr, len := by rw [hzl]; simp; omega, own := ⟨o', d', by simp, by rw [List.getElem?_set_self hlp], hs'.mono fun hd => by rw [List.getElem?_set_ne (Ne.symm hpo')]⟩ }, ⟨?_, fun o1 hlt hno => ?_⟩, fun o1 ho1 => ?_⟩
        · rw [List.length_set]
          rcases List.mem_cons.1 ho1 with rfl | ho1
          · exact hlo' hn'
          · have := h.low o1 ho1; have := hF'.1; omega
        · rw [List.length_set]; have := hF'.1; omega
        · have h1 : o1 ≠ p := fun e => hno (by rw [e]; exact h.pS)
          rw [List.getElem?_set_ne (Ne.symm h1), hF'.2 o1 (by omega) fun hm => by
            split at hm
            · cases hm
            · rw [List.mem_singleton] at hm; exact hno (by rw [hm]; exact hoS)]
          obtain ⟨L, hL⟩ := hE0
          rw [hL, List.getElem?_append_left hlt]
        · rcases List.mem_cons.1 ho1 with rfl | ho1
          · rcases ho' with ⟨rfl, _⟩ | h'
            · exact .inl hoS
            · exact .inr (by omega)
          · exact .inl ho1)
      rw [← he] at this
      exact this
end GP
namespace GP
open Go Go.Proofs
set_option maxRecDepth 100000
variable [HasG Try.prog]
def errDP (xs : List D) (x : D) : Int := if Ord.has ordD x xs then 0 else 8
set_option maxHeartbeats 8000000 in
theorem drop_snd {p : Nat} {S : List Nat} {fs : D} {xs : List D} {x : D} {H : Hp} {T : Tk} {Q : Post} (h : StoS H p S fs xs) (hxr : isRw x)
    (k : ∀ B U, Stp H B p S fs (if errDP xs x = 0 then Ord.rem ordD x xs else xs) → Q (.int .i64 (errDP xs x)) B (T ++ U)) :
    Snd Try.prog 23 [.ptr p 0, x] H T Q := by
  have hst := h
  have hM : MonoH [(60, φ60)] := .cons φ60_mono .nil
  refine call_of fn23 (by simp) (W_mono (X := XG Try.prog [64] [] [(60, φ60)] [] []) (XG.X .nil (.cons ok60 .nil) .nil .nil) (fun _ _ h => h) ?_)
  obtain ⟨o, d, hoS, hp, hs⟩ := h.own
  have hag := rows_ag h.rws
  have hxr' := hxr
  obtain ⟨r, rfl, hr⟩ := hxr
  obtain ⟨ef, of, cf⟩ := isF_lc h.hF
  obtain ⟨od, cd, ed, okd, ldd⟩ := hs.cell
  have eL := hr.eL
  have hpH := h.low p h.pS
  have hE0 : Ext H (H ++ [Ob.row [.str r.who, .str r.name, .str r.attr, .int .i64 r.k, .int .i64 r.i, .str r.s, sliceD r.n r.l]]) := Ext.of _ _
  have bp := hE0.get hp
  have hsB : Sr (H ++ [Ob.row [.str r.who, .str r.name, .str r.attr, .int .i64 r.k, .int .i64 r.i, .str r.s, sliceD r.n r.l]]) o d xs := hs.mono fun hd => by
    rcases hs with ⟨e, _⟩ | ⟨c, X, _, h1, _⟩
    · exact absurd e hd
    · rw [hE0.get h1, h1]
  have gp := rdAt_of bp
  obtain ⟨e, he⟩ : ∃ e, errDP xs (rwD r) = e := ⟨_, rfl⟩
  obtain ⟨zs, hzs⟩ : ∃ zs, Ord.rem ordD (rwD r) xs = zs := ⟨_, rfl⟩
  rw [he, hzs] at k
  unfold errDP at he
  obtain ⟨q, hq⟩ : ∃ q, Ord.pos ordD (rwD r) xs = q := ⟨_, rfl⟩
  obtain ⟨hb, hhb⟩ : ∃ q, Ord.has ordD (rwD r) xs = q := ⟨_, rfl⟩
  have p60 : φ60 (H ++ [Ob.row [.str r.who, .str r.name, .str r.attr, .int .i64 r.k, .int .i64 r.i, .str r.s, sliceD r.n r.l]]) [d, rwD r, .fn 61 [] []] = some (.tup [.int .i64 (q : Int), .bool hb]) := by
    simp only [φ60, hsB.src hag]
    rw [if_pos ⟨h.rws, hxr', by have := h.len; omega, okd, h.ris⟩, hq, hhb]
  have hat := Ord.has_at ordD_ord (x := rwD r) h.ris
  rw [hq] at hat
  rw [hhb] at hat he
  have hxl := h.len
  simp only [rwD] at p60
  cases hb with
  | false =>
    rw [if_neg (by decide)] at he
    simp +contextual (maxSteps := 10000000) only [c23, rwD, eL, gp, ld, List.take_zero, List.nil_append, List.drop_succ_cons, List.drop_zero, List.head?_cons, nilc_ptr, p60, pcallG hM, lookH_cons, lookH_nil, orK_n, orK_s, XG_eq, ef, of, cf, od, cd, ed, go_sem, W_draw]
    have := k _ [] (by rw [if_neg (by omega)]; exact hst.stay hE0)
    rw [List.append_nil, ← he] at this
    exact this
  | true =>
    rw [if_pos rfl] at he
    obtain ⟨hqx, _⟩ := hat.1 rfl
    have hzz : xs.take q ++ xs.drop (q + 1) = zs := by rw [← hzs]; unfold Ord.rem; rw [hq]
    have hoB := h.low o hoS
    have hzm : ∀ z ∈ zs, isRw z := fun z hz => by
      rw [← hzz] at hz
      rcases List.mem_append.1 hz with h1 | h1
      · exact h.rws z (List.mem_of_mem_take h1)
      · exact h.rws z (List.mem_of_mem_drop h1)
    have hzr : Ris ordD zs := by rw [← hzs]; exact Ord.rem_ris h.ris
    have hzl : zs.length ≤ 120 := by rw [← hzz, List.length_append, List.length_take, List.length_drop]; omega
    simp +contextual (maxSteps := 10000000) only [c23, rwD, eL, gp, ld, List.take_zero, List.nil_append, List.drop_succ_cons, List.drop_zero, List.head?_cons, nilc_ptr, p60, pcallG hM, lookH_cons, lookH_nil, orK_n, orK_s, XG_eq, ef, of, cf, od, cd, ed, wrap_natY q (by omega), go_sem, W_draw]
    refine del_snd hsB h.rws (by omega) hqx fun H' d' hs' hn' hF' => ?_
    rw [hzz] at hs'
    have hop : o ≠ p := hs.ne hp (by
      rcases hs with ⟨rfl, h0⟩ | ⟨c, X, rfl, _⟩
      · subst h0; simp at hqx
      · simp) hag
    have bp' : H'[p]? = some (.row [fs, d]) := by rw [hF'.2 p (by simp; omega) (by simp; exact Ne.symm hop)]; exact bp
    obtain ⟨od', cd', _, _, _⟩ := hs'.cell
    have hlp := lt_get bp'
    simp +contextual (maxSteps := 10000000) only [nilc_ptr, od', cd', storeK_E bp', List.take_zero, List.nil_append, List.drop_succ_cons, List.drop_zero, List.take_succ_cons, go_sem, W_draw]
    have := k (H'.set p (.row [fs, d'])) [] (by
      rw [if_pos he.symm]
      have hl1 := hF'.1
      rw [List.length_append] at hl1
      refine ⟨S, { h with low := fun o1 ho1 => ?_, rws := hzm, ris := hzr, len := hzl, own := ⟨o, d', hoS, by rw [List.getElem?_set_self hlp], hs'.mono fun hd => by rw [List.getElem?_set_ne (Ne.symm hop)]⟩ }, ⟨?_, fun o1 hlt hno => ?_⟩, fun o1 ho1 => .inl ho1⟩
      · have := h.low o1 ho1; rw [List.length_set]; omega
      · rw [List.length_set]; omega
      · rw [List.getElem?_set_ne (fun e => hno (by rw [← e]; exact h.pS)), hF'.2 o1 (by simp; omega) (by simp; rintro rfl; exact hno hoS), List.getElem?_append_left hlt])
    rw [List.append_nil, ← he] at this
    exact this
def getRow (H : Hp) (p : Nat) : Option (D × D) := match H[p]? with
  | some (.row [fs, d]) => some (fs, d)
  | _ => none
theorem getRow_mono {H H' : Hp} (hl : Hle H H') {p : Nat} {r : D × D} (h : getRow H p = some r) : getRow H' p = some r := by
  unfold getRow at h ⊢
  cases ho : H[p]? with
  | none => rw [ho] at h; cases h
  | some x =>
    rw [ho] at h
    have hb : x.blank = false := by
      cases x <;> first | rfl | (simp at h)
    rw [hl p x ho hb]; exact h
theorem getRow_row {H : Hp} {p : Nat} {fs d : D} (h : getRow H p = some (fs, d)) : H[p]? = some (.row [fs, d]) := by
  unfold getRow at h
  split at h
  · rename_i hh; injection h with h; injection h with h1 h2; subst h1; subst h2; exact hh
  · cases h
open Classical in
noncomputable def φ18 (H : Hp) : List D → Option D
  | [.ptr p 0] => match getRow H p with
    | some (_, d) => if d.okc = true ∧ d.cells = [d] ∧ d.erase = d then φ57 H [d] else none
    | none => none
  | _ => none
theorem φ18_mono : Mo φ18 := by
  intro H H' a r hl h
  unfold φ18 at h ⊢
  split at h
  · split at h
    · rename_i e
      rw [getRow_mono hl e]
      simp only
      split at h
      · rename_i hc; rw [if_pos hc]; exact φ57_mono _ _ _ _ hl h
      · cases h
    · cases h
  · cases h
theorem frz_cl {H : Hp} {d r : D} (h : φ57 H [d] = some r) : r.cl 0 0 = true ∧ r.erase = r := by
  unfold φ57 at h
  simp only at h
  split at h
  · rename_i xs hs
    split at h
    · rename_i hc
      injection h with h; subst h
      unfold frzD
      split
      · exact ⟨rfl, rfl⟩
      · exact ⟨by simp [D.cl, isRws_cl hc.1], by simp only [D.erase, rows_er hc.1]⟩
    · cases h
  · cases h
theorem ok18 : OkAtH Try.prog 18 φ18 := by
  have hM : MonoH [(57, φ57)] := .cons φ57_mono .nil
  refine okH_of (l := []) (m := [(57, φ57)]) .nil (.cons ok57 .nil) fn18 fun H args rr h => ?_
  unfold φ18 at h
  split at h
  · rename_i p
    split at h
    · rename_i fs d e
      split at h
      · rename_i hc
        obtain ⟨h1, h2, h3⟩ := hc
        obtain ⟨c1, c2⟩ := frz_cl h
        refine ⟨by simp, c1, fun T => ?_⟩
        have gp := rdAt_of (getRow_row e)
        simp +contextual (maxSteps := 10000000) only [c18, gp, ld, List.drop_succ_cons, List.drop_zero, List.head?_cons, nilc_ptr, h1, h2, h3, h, c2, pcallH hM, lookH_cons, lookH_nil, orK_n, orK_s, go_sem, W_draw]
      · cases h
    · cases h
  · cases h
theorem StoS.rows {H : Hp} {p : Nat} {S : List Nat} {fs : D} {xs : List D} (h : StoS H p S fs xs) : ∃ n, φ18 H [.ptr p 0] = some (sliceD n xs) := by
  obtain ⟨o, d, _, hp, hs⟩ := h.own
  obtain ⟨od, cd, ed, okd, _⟩ := hs.cell
  have hg : getRow H p = some (fs, d) := by unfold getRow; rw [hp]
  have hl := h.len
  have h57 : φ57 H [d] = some (frzD d xs) := by
    simp only [φ57, hs.src (rows_ag h.rws)]
    rw [if_pos ⟨h.rws, by omega, okd⟩]
  simp only [φ18, hg]
  rw [if_pos ⟨od, cd, ed⟩, h57]
  rcases hs with ⟨rfl, rfl⟩ | ⟨c, X, rfl, _⟩
  · exact ⟨true, rfl⟩
  · exact ⟨false, by simp [frzD, sliceD]⟩
end GP
namespace GP
open Go Go.Proofs
set_option maxRecDepth 100000
variable [HasG Try.prog]
theorem tfB (b : Bool) : b = false ∨ b = true := by cases b <;> simp
theorem ext_fr {H B : Hp} (hl : H.length ≤ B.length) (h : ∀ o, o < H.length → B[o]? = H[o]?) : Ext H B := by
  refine ⟨B.drop H.length, ?_⟩
  apply List.ext_getElem?
  intro i
  rcases Nat.lt_or_ge i H.length with h' | h'
  · rw [List.getElem?_append_left h', h i h']
  · rw [List.getElem?_append_right h', List.getElem?_drop]; congr 1; omega
def annR : Rw := ⟨sSub, [97, 110, 110], [97], 2, 5, [], true, []⟩
def annF : D := mkF sSub [97] 2 false
theorem annR_ok : annR.Ok := ⟨by decide, by decide, by decide, ⟨by decide, by decide, by decide⟩, by decide⟩
theorem annF_is : isLs isF (.sl none [annF]) := ⟨false, [annF], rfl, by simp, fun x hx => by
  rw [List.mem_singleton] at hx; subst hx
  exact ⟨sSub, [97], 2, false, rfl, by decide, by decide, by decide, by decide⟩⟩
theorem ann_err : errP [annF] [] (rwD annR) = 0 := by decide
theorem awake_snd {H : Hp} {T : Tk} {Q : Post} (k : ∀ B U, Ext H B → Q (.bool true) B (T ++ U)) : Snd Try.prog 14 [] H T Q := by
  have hM : MonoH [(18, φ18)] := .cons φ18_mono .nil
  refine call_of fn14 (by simp) (W_mono (X := XG Try.prog [20, 21] [] [(18, φ18)] [] []) (XG.X .nil (.cons ok18 .nil) .nil .nil) (fun _ _ h => h) ?_)
  simp +contextual (maxSteps := 10000000) only [c14, XG_eq, go_sem, W_draw]
  refine snd_er (args := [.sl none [annF]]) rfl (new_snd annF_is (fun f hf => ?_) (by simp [elems]) fun B p U hE hp hst => ?_)
  · have : f = annF := by simpa [elems] using hf
    subst this; decide
  have q1 : Option.map (fun b => D.bool (b != true)) (eq1D Tq.ptr (D.ptr p 0) D.nilp) = some (.bool true) := rfl
  have q2 : Option.map (fun b => D.bool !b) (eq1D Tq.ptr (D.ptr p 0) D.nilp) = some (.bool true) := rfl
  simp +contextual (maxSteps := 10000000) only [XG_eq, q1, q2, go_sem, W_draw]
  refine set_snd (x := rwD annR) hst ⟨annR, rfl, annR_ok⟩ fun B2 U2 hS => ?_
  have he : elems (D.sl none [annF]) = [annF] := rfl
  rw [he, ann_err] at hS ⊢
  rw [if_pos rfl] at hS
  obtain ⟨S', h1, h2, h3⟩ := hS
  have hpu : Ord.put ordD (rwD annR) [] = [rwD annR] := rfl
  rw [hpu] at h1
  obtain ⟨n, hr⟩ := h1.rows
  have hl1 : lenD (sliceD n [rwD annR]) = some 1 := by
    rcases sliceD_cases n [rwD annR] with ⟨_, e⟩ | e
    · cases e
    · rw [e]; rfl
  obtain ⟨rd, hrd⟩ : ∃ rd, sliceD n [rwD annR] = rd := ⟨_, rfl⟩
  rw [hrd] at hr hl1
  have hrl : rd.erase = rd := by
    rw [← hrd]
    have : D.eraseL [rwD annR] = [rwD annR] := rfl
    rw [erase_sliceD, this]
  simp +contextual (maxSteps := 10000000) only [hr, hl1, hrl, pcallG hM, lookH_cons, lookH_nil, orK_n, orK_s, XG_eq, go_sem, W_draw]
  have hx : Ext H B2 := by
    refine ext_fr (by have := h2.1; obtain ⟨L, rfl⟩ := hE; simp at this; omega) fun o ho => ?_
    obtain ⟨L, rfl⟩ := hE
    rw [h2.2 o (by simp; omega) (by simp; omega), List.getElem?_append_left ho]
  have := k B2 ((some (1, 4)) :: (U ++ U2)) hx
  simpa using this
def mkO (k : Int) (r : Rw) : D := .agg [.int .u8 k, .str r.who, .str r.name, .str r.attr, .int .i64 r.k, .int .i64 r.i, .str r.s, sliceD r.n r.l]
structure Rw.Ok0 (r : Rw) : Prop where
  who : r.who.length ≤ 2 ^ 47
  name : r.name.length ≤ 2 ^ 47
  attr : r.attr.length ≤ 2 ^ 47
  v : isVr r.v
def isO (d : D) : Prop := ∃ k r, d = mkO k r ∧ 0 ≤ k ∧ k ≤ 255 ∧ r.Ok0
def oR : D → D
  | .agg (_ :: l) => .agg l
  | _ => .top
def oK : D → Int
  | .agg (.int _ k :: _) => k
  | _ => 0
theorem isO_erase {d : D} (h : isO d) : d.erase = d := by
  obtain ⟨k, r, rfl, _, _, h⟩ := h
  have := (mkV_erase h.v.1).1
  simp only [mkO, D.erase, D.eraseL, erase_sliceD, this]
def fewO (d : D) : Bool := decide ((rwho (oR d)).length ≤ 200) && decide ((rname (oR d)).length ≤ 200) && decide ((rattr (oR d)).length ≤ 200) && fewB [rV (oR d)] 1
def fewS (fs ops : List D) (n : Int) : Bool := (ops.take 300).all fewO && decide ((ops.length : Int) ≤ n) && decide ((fs.length : Int) ≤ 12)
open Classical in
noncomputable def φ15 : List D → Option D
  | [fs, ops, .int .i64 n] => if isLs isF fs ∧ isLs isO ops then some (.bool (fewS (elems fs) (elems ops) n)) else none
  | _ => none
set_option maxHeartbeats 4000000 in
theorem ok15 : OkAt Try.prog 15 φ15 := by
  refine ok_of (l := [(49, φFew)]) (.cons ok49 .nil) fn15 fun args rr h => ?_
  unfold φ15 at h
  split at h
  · rename_i fs ops nn
    split at h
    · rename_i hv
      obtain ⟨hf, ⟨n, xs, rfl, hl, hx⟩⟩ := hv
      injection h with h; subst h
      refine ⟨by simp, by simp [D.cl], fun H T => ?_⟩
      obtain ⟨nf, fl, rfl, hfl, hfx⟩ := hf
      rw [elems_sliceD, elems_sliceD]
      have ef : D.eraseL fl = fl := eraseL_id fun x h => isF_erase (hfx x h)
      have ex : D.eraseL xs = xs := eraseL_id fun x h => isO_erase (hx x h)
      simp +contextual (maxSteps := 10000000) only [c15, go_sem, W_draw]
      refine W_for (fun i s' => s'.t 0 = sliceD nf fl ∧ s'.t 1 = sliceD n xs ∧ s'.t 2 = .int .i64 nn ∧ s'.t 7 = .int .i64 (i : Nat) ∧ Ext H s'.H ∧ ExtT T s'.T ∧ i ≤ xs.length ∧ i ≤ 300 ∧ (xs.take i).all fewO = true) 300
        ⟨0, by simp [upd, argT], by simp [upd, argT], by simp [upd, argT], by simp [upd], Ext.refl _, ExtT.refl _, by omega, by omega, by simp⟩ (fun i s h => h.2.2.2.2.2.2.2.1) ?_ (XL_mono _)
      rintro i ⟨t, B, U⟩ ⟨r0, r1, r2, r7, hE, hT, hi, hi3, hc⟩
      simp only at r0 r1 r2 r7 hE hT
      by_cases ha : i < xs.length ∧ i < 300
      · obtain ⟨ha, hb⟩ := ha
        have d1 : decide ((i : Int) < xs.length) = true := by simpa using ha
        have d2 : decide ((i : Int) < 300) = true := by simp; omega
        obtain ⟨k, r, hr, _, _, hok⟩ := hx _ (List.getElem_mem ha)
        have e : xs[i]? = some (mkO k r) := by rw [← hr]; simp [ha]
        have er := (mkV_erase hok.v.1).1
        have hO : fewO (mkO k r) = (decide (r.who.length ≤ 200) && decide (r.name.length ≤ 200) && decide (r.attr.length ≤ 200) && fewB [r.v] 1) := rfl
        have good : fewO (mkO k r) = true → (xs.take (i + 1)).all fewO = true := fun h => by rw [List.take_add_one, e]; simp [hc, h]
        have bad : fewO (mkO k r) = false → fewS fl xs nn = false := fun h => by
          unfold fewS
          have : (xs.take 300).all fewO = false := by
            refine List.all_eq_false.2 ⟨mkO k r, ?_, by rw [h]; decide⟩
            refine List.mem_of_getElem? (i := i) ?_
            rw [List.getElem?_take_of_lt hb, e]
          rw [this]; rfl
        rw [hO] at good bad
        have p49 : φFew [.sl none [mkV r.k r.i r.s r.n r.l], .int .i64 1] = some (.bool (fewB [r.v] 1)) := by
          simp only [φFew]
          have h1 : D.isVs (elems (.sl none [mkV r.k r.i r.s r.n r.l])) = true := isVs_iff.2 fun y hy => by
            have : y = mkV r.k r.i r.s r.n r.l := by simpa [elems] using hy
            rw [this]; exact hok.v.1
          rw [if_pos ⟨rfl, h1, by simp [elems]⟩]; rfl
        obtain ⟨fb, hfb⟩ : ∃ b, fewB [r.v] 1 = b := ⟨_, rfl⟩
        rw [hfb] at p49 good bad
        simp only [mkV] at p49
        have e' := e
        simp only [mkO] at e'
        have l1 : decide ((200 : Int) < (r.who.length : Int)) = !decide (r.who.length ≤ 200) := by rw [Bool.eq_iff_iff]; simp; omega
        have l2 : decide ((200 : Int) < (r.name.length : Int)) = !decide (r.name.length ≤ 200) := by rw [Bool.eq_iff_iff]; simp; omega
        have l3 : decide ((200 : Int) < (r.attr.length : Int)) = !decide (r.attr.length ≤ 200) := by rw [Bool.eq_iff_iff]; simp; omega
        obtain ⟨a1, h1⟩ : ∃ b, decide (r.who.length ≤ 200) = b := ⟨_, rfl⟩
        obtain ⟨a2, h2⟩ : ∃ b, decide (r.name.length ≤ 200) = b := ⟨_, rfl⟩
        obtain ⟨a3, h3⟩ : ∃ b, decide (r.attr.length ≤ 200) = b := ⟨_, rfl⟩
        rw [h1] at l1 good bad; rw [h2] at l2 good bad; rw [h3] at l3 good bad
        cases a1 <;> cases a2 <;> cases a3 <;> cases fb <;> simp only [Bool.not_true, Bool.not_false, Bool.and_true, Bool.and_false, Bool.true_and, Bool.false_and, Bool.and_self, true_implies, Bool.true_eq_false, Bool.false_eq_true, false_implies] at l1 l2 l3 good bad <;>
          simp +contextual (maxSteps := 10000000) only [r0, r1, r2, r7, d1, d2, e', er, l1, l2, l3, p49, hE.ta, hT.ta, hT.t, wrap_succ i (by omega), go_sem, W_draw] <;>
          first | (rw [bad]; exact leaves_Ea hE hT _ ▸ rfl) | (rw [bad]; exact (leaves_Eat hE hT _ _).symm ▸ rfl) | (rw [bad]; simp only [leaves_Ea hE hT, leaves_Eat hE hT]; rfl) | exact ⟨by omega, by omega, good⟩
      · have ht : (xs.take 300).all fewO = true := by
          by_cases hx3 : i < xs.length
          · have : i = 300 := by omega
            rw [← this]; exact hc
          · rw [List.take_of_length_le (by omega)] at hc
            exact List.all_eq_true.2 fun y hy => List.all_eq_true.1 hc y (List.mem_of_mem_take hy)
        have hfs : fewS fl xs nn = (decide ((xs.length : Int) ≤ nn) && decide ((fl.length : Int) ≤ 12)) := by unfold fewS; rw [ht]; rfl
        rw [hfs]
        obtain ⟨b1, hb1⟩ : ∃ b, decide ((xs.length : Int) ≤ nn) = b := ⟨_, rfl⟩
        obtain ⟨b2, hb2⟩ : ∃ b, decide ((fl.length : Int) ≤ 12) = b := ⟨_, rfl⟩
        rw [hb1, hb2]
        by_cases hx3 : i < xs.length
        · have d1 : decide ((i : Int) < xs.length) = true := by simpa using hx3
          have d2 : decide ((i : Int) < 300) = false := by simp; omega
          cases b1 <;> simp +contextual (maxSteps := 10000000) only [r0, r1, r2, r7, d1, d2, hb1, hb2, leaves_E hE hT, go_sem, W_draw] <;> rfl
        · have d1 : decide ((i : Int) < xs.length) = false := by simpa using hx3
          cases b1 <;> simp +contextual (maxSteps := 10000000) only [r0, r1, r2, r7, d1, hb1, hb2, leaves_E hE hT, go_sem, W_draw] <;> rfl
    · cases h
  · cases h
end GP
namespace GP
open Go Go.Proofs
set_option maxRecDepth 100000
variable [HasG Try.prog]
structure Liv (H B : Hp) (p w : Nat) (S : List Nat) (f rD : D) (xs m : List D) : Prop where
  sto : StoS B p S f xs
  wr : B[w]? = some (.row [f, rD])
  hw : w ∉ S
  base : ∀ o ∈ S, H.length ≤ o
  wb : H.length ≤ w
  ext : Ext H B
  rd : isLs isRw rD
  rm : elems rD = m
  al : Ord.Alike ordD xs m
  few : ∀ x ∈ xs, few1 (rV x) = true
theorem err_eq {fs xs m : List D} {x : D} (al : Ord.Alike ordD xs m) : errP fs xs x = errS fs m x := by
  unfold errP errS
  have h1 := al.has x
  have h2 := al.len ordD_ord
  have h3 : (Ord.at_ ordD x m).isNone = !(Ord.has ordD x m) := by
    cases h : Ord.at_ ordD x m with
    | none => rw [Ord.at_none.1 h]; rfl
    | some i => obtain ⟨_, _, h4⟩ := Ord.at_some h; rw [h4]; rfl
  rw [h1, h2, h3]
theorem errD_eq {xs m : List D} {x : D} (al : Ord.Alike ordD xs m) : errDP xs x = errD m x := by
  unfold errDP errD
  have h1 := al.has x
  have h3 : (Ord.at_ ordD x m).isNone = !(Ord.has ordD x m) := by
    cases h : Ord.at_ ordD x m with
    | none => rw [Ord.at_none.1 h]; rfl
    | some i => obtain ⟨_, _, h4⟩ := Ord.at_some h; rw [h4]; rfl
  rw [h1, h3]
  cases Ord.has ordD x m <;> rfl
theorem Liv.step {H B B1 B2 : Hp} {p w : Nat} {S : List Nat} {f rD : D} {xs m xs' : List D} (h : Liv H B p w S f rD xs m) (hE : Ext B B1) (hS : Stp B1 B2 p S f xs') :
    ∃ S', StoS B2 p S' f xs' ∧ B2[w]? = some (.row [f, rD]) ∧ w ∉ S' ∧ (∀ o ∈ S', H.length ≤ o ∧ (o ∈ S ∨ B1.length ≤ o)) ∧ Ext H B2 ∧ (∀ o, o < B1.length → o ∉ S → B2[o]? = B1[o]?) ∧ B1.length ≤ B2.length := by
  obtain ⟨S', k1, k2, k3⟩ := hS
  have hw := lt_get h.wr
  obtain ⟨L, rfl⟩ := hE
  obtain ⟨M, hM⟩ := h.ext
  have hHB : H.length ≤ B.length := by rw [hM]; simp
  refine ⟨S', k1, by rw [k2.2 w (by simp; omega) h.hw, List.getElem?_append_left hw]; exact h.wr, fun hm => ?_, fun o ho => ⟨?_, k3 o ho⟩, ext_fr ?_ fun o ho => ?_, k2.2, k2.1⟩
  · rcases k3 w hm with h' | h'
    · exact h.hw h'
    · simp at h'; omega
  · rcases k3 o ho with h' | h'
    · exact h.base o h'
    · simp at h'; omega
  · have := k2.1; simp at this; omega
  · rw [k2.2 o (by simp; omega) (fun hm => by have := h.base o hm; omega), List.getElem?_append_left (by omega), hM, List.getElem?_append_left ho]
theorem Liv.done {H B2 : Hp} {p w z : Nat} {S' : List Nat} {f rD' : D} {xs' m' : List D} (k1 : StoS B2 p S' f xs') (hw : w < B2.length) (hwS : w ∉ S') (hzS : z ∉ S') (hb : ∀ o ∈ S', H.length ≤ o) (hwb : H.length ≤ w) (hzb : H.length ≤ z) (hx : Ext H B2) (a : Ob)
    (hr : isLs isRw rD') (hm : elems rD' = m') (al : Ord.Alike ordD xs' m') (hf : ∀ x ∈ xs', few1 (rV x) = true) : Liv H ((B2.set z a).set w (.row [f, rD'])) p w S' f rD' xs' m' where
  sto := k1.fr (S2 := [z, w]) ⟨by simp, fun o ho hn => by
    simp only [List.mem_cons, List.not_mem_nil, or_false, not_or] at hn
    rw [List.getElem?_set_ne (Ne.symm hn.2), List.getElem?_set_ne (Ne.symm hn.1)]⟩ fun o ho hm => by
      simp only [List.mem_cons, List.not_mem_nil, or_false] at hm
      rcases hm with rfl | rfl
      · exact hzS ho
      · exact hwS ho
  wr := by rw [List.getElem?_set_self (by simpa using hw)]
  hw := hwS
  base := hb
  wb := hwb
  ext := (hx.set hzb _).set hwb _
  rd := hr
  rm := hm
  al := al
  few := hf
theorem mkO_ok {k : Int} {r : Rw} (h : r.Ok0) (hf : fewO (mkO k r) = true) : r.Ok ∧ few1 r.v = true := by
  have hO : fewO (mkO k r) = (decide (r.who.length ≤ 200) && decide (r.name.length ≤ 200) && decide (r.attr.length ≤ 200) && fewB [r.v] 1) := rfl
  rw [hO] at hf
  simp only [Bool.and_eq_true] at hf
  have h1 : few1 r.v = true := by
    have := hf.2
    unfold fewB at this
    simpa using this
  refine ⟨⟨h.who, h.name, h.attr, h.v, ?_⟩, h1⟩
  unfold few1 at h1
  simp only [Bool.and_eq_true, decide_eq_true_eq] at h1
  have : (vl r.v).length = r.l.length := by show (vl (mkV r.k r.i r.s r.n r.l)).length = _; rw [vl_mk]
  omega
theorem sameEl_of {x y : D} (k : vk x = vk y) (i : vi x = vi y) (s : vs x = vs y) (lx : (vl x).length = 0) (ly : (vl y).length = 0) : sameEl x y = true := by
  simp [sameEl, k, i, s, lx, ly]
theorem same_refl {d : D} (h : few1 d = true) : sameB d d = true := by
  unfold sameB
  rw [if_neg (by simp)]
  refine List.all_eq_true.2 fun i hi => ?_
  have hi : i < (vl d).length := by simpa using hi
  simp only [okSame, List.getElem?_eq_getElem hi]
  simp only [few1, Bool.and_eq_true, List.all_eq_true] at h
  have := h.2 _ (List.getElem_mem hi)
  simp only [leafFew, Bool.and_eq_true, decide_eq_true_eq] at this
  exact sameEl_of rfl rfl rfl this.2 this.2
theorem kinds_ok (fl : List D) : kindsOk (fl.map kindF) := fun f hf => by
  obtain ⟨g, _, rfl⟩ := List.mem_map.1 hf
  exact kindN_rg (fkind g)
theorem put_few {xs : List D} {x : D} (hr : Ris ordD xs) (h : ∀ y ∈ xs, few1 (rV y) = true) (hx : few1 (rV x) = true) : ∀ y ∈ Ord.put ordD x xs, few1 (rV y) = true := fun y hy => by
  rcases (Ord.put_mem ordD_ord hr y).1 hy with rfl | ⟨h1, _⟩
  · exact hx
  · exact h y h1
theorem rem_few {xs : List D} {x : D} (h : ∀ y ∈ xs, few1 (rV y) = true) : ∀ y ∈ Ord.rem ordD x xs, few1 (rV y) = true := fun y hy => by
  unfold Ord.rem at hy
  rcases List.mem_append.1 hy with h1 | h1
  · exact h y (List.mem_of_mem_take h1)
  · exact h y (List.mem_of_mem_drop h1)
end GP
namespace GP
open Go Go.Proofs Go.Proofs.Ytjpbliffonimgaa
open Go.ChangeShapes Go.WideShapes Go.ChangeAt Go.RowKit
set_option maxRecDepth 100000
instance instG : HasG Try.prog := ⟨fun _ _ => True, fun _ _ h => h⟩
theorem own6 : ownKnob Try.prog.godebug = none := by kernel_rfl
theorem laid6 : laidOutB Try.prog = true := by kernel_rfl
theorem rowed6 : mapsRowed Try.prog = true := by kernel_rfl
theorem full6 : ((List.range Try.prog.types.size).all fun t => match Try.prog.underlying t with | some (.slice e) => decide (0 < Try.prog.cellsOf e) | _ => true) = true := by kernel_rfl
theorem cells28 : Try.prog.cellsOf 28 = 4 := by kernel_rfl
theorem cells3 : Try.prog.cellsOf 3 = 1 := by kernel_rfl
theorem cells4 : Try.prog.cellsOf 4 = 1 := by kernel_rfl
theorem cells2 : Try.prog.cellsOf 2 = 1 := by kernel_rfl
theorem cells9 : Try.prog.cellsOf 9 = 1 := by kernel_rfl
theorem cells26 : Try.prog.cellsOf 26 = 1 := by kernel_rfl
theorem cells101 : Try.prog.cellsOf 101 = 4 := by kernel_rfl
theorem cells5 : Try.prog.cellsOf 5 = 1 := by kernel_rfl
theorem cells30 : Try.prog.cellsOf 30 = 7 := by kernel_rfl
theorem cells32 : Try.prog.cellsOf 32 = 8 := by kernel_rfl
theorem bytes28 : 1 ≤ Try.prog.bytesOf 28 := of_decide_eq_true (by kernel_rfl)
theorem bytes101 : 1 ≤ Try.prog.bytesOf 101 := of_decide_eq_true (by kernel_rfl)
theorem bytes32 : 1 ≤ Try.prog.bytesOf 32 := of_decide_eq_true (by kernel_rfl)
theorem u8min : IntKind.u8.min = 0 := by decide
theorem u8max : IntKind.u8.max = 255 := by decide
theorem i64min : IntKind.i64.min = -(2 ^ 63) := by decide
theorem i64max : IntKind.i64.max = 2 ^ 63 - 1 := by decide
def isBl (ds : List D) : Prop := ∃ b, ds = [.bool b]
def isLd (p : D → Prop) (ds : List D) : Prop := ∃ l, ds = [l] ∧ isLs p l
theorem isLd_of {mk : List D → D} {φ : List D → Prop} {p : D → Prop} {sz : Nat} (h : ∀ x, φ x → p (mk x)) {ds : List D} (hd : ds = [.nils] ∨ ∃ xs : List (List D), ds = [.sl none (xs.map mk)] ∧ xs.length ≤ 2 ^ 47 ∧ ∀ x ∈ xs, φ x ∧ x.length = sz) : isLd p ds := by
  rcases hd with rfl | ⟨xs, rfl, h1, h2⟩
  · exact ⟨_, rfl, isLs_nils _⟩
  · refine ⟨_, rfl, false, xs.map mk, rfl, by simpa using h1, fun x hx => ?_⟩
    obtain ⟨y, hy, rfl⟩ := List.mem_map.1 hx
    exact h _ (h2 y hy).1
theorem isLs_isV {l : D} (h : isLs (fun d => d.isV = true) l) (k i : Int) (s : List UInt8) (hs : s.length ≤ 2 ^ 47) : (D.agg [.int .i64 k, .int .i64 i, .str s, l]).isV = true := by
  obtain ⟨n, xs, rfl, h1, h2⟩ := h
  exact isV_mk (k := k) (i := i) (n := n) hs h1 h2
theorem rdV (W : World) : ∀ fuel, Rds Try.prog W 28 (fun ds => isVr (D.agg ds)) fuel ∧ Rds Try.prog W 26 (isLd fun d => d.isV = true) fuel
  | 0 => ⟨fun _ _ _ _ _ h _ => by simp [DataW.trod] at h, fun _ _ _ _ _ h _ => by simp [DataW.trod] at h⟩
  | fuel + 1 => by
    obtain ⟨h24, h22⟩ := rdV W fuel
    refine ⟨?_, ?_⟩
    · refine (rds_struct (P := Try.prog) (w := W) (φs := [fun ds => ∃ n, ds = [.int .i64 n] ∧ IntKind.i64.min ≤ n ∧ n ≤ IntKind.i64.max, fun ds => ∃ n, ds = [.int .i64 n] ∧ IntKind.i64.min ≤ n ∧ n ≤ IntKind.i64.max, fun ds => ∃ l, ds = [.str l] ∧ l.length ≤ 2 ^ 47, isLd fun d => d.isV = true]) Try.underlying28 rfl ?_ ?_ ?_).imp ?_
      · simp only [FldsOf, cells3, cells2, cells9, and_self, and_true, Nat.zero_add, Nat.reduceAdd]
      · simp only [List.map_cons, List.map_nil, cells3, cells2, cells9, cells26, cells28]; rfl
      · intro i f φ e1 e2
        match i with
        | 0 => simp at e1 e2; subst e1; subst e2; exact rds_int Try.underlying3 fuel
        | 1 => simp at e1 e2; subst e1; subst e2; exact rds_int Try.underlying2 fuel
        | 2 => simp at e1 e2; subst e1; subst e2; exact rds_string Try.underlying9 fuel
        | 3 => simp at e1 e2; subst e1; subst e2; exact h22
        | i + 4 => simp at e1
      · rintro ds ⟨x1, y1, rfl, ⟨k, rfl, _⟩, x2, y2, rfl, ⟨i, rfl, i1, i2⟩, x3, y3, rfl, ⟨s, rfl, hs⟩, x4, y4, rfl, ⟨l, rfl, hl⟩, rfl⟩
        rw [i64min] at i1; rw [i64max] at i2
        refine ⟨isLs_isV hl k i s hs, ?_, ?_⟩
        · show -(2 ^ 63) ≤ i; omega
        · show i < 2 ^ 63; omega
    · exact (rds_slice (P := Try.prog) (w := W) (mk := D.agg) (fun _ => rfl) (sz := 4) (by decide) Try.underlying26 cells28 bytes28 h24).imp fun ds hd => isLd_of (fun x (hx : isVr (D.agg x)) => hx.1) hd
theorem isVr_cells {x : List D} (h : isVr (D.agg x)) : ∃ k i s n l, x = [.int .i64 k, .int .i64 i, .str s, sliceD n l] ∧ isVr (mkV k i s n l) := by
  obtain ⟨k, i, s, n, l, e, _⟩ := isV_elim h.1
  have : x = [.int .i64 k, .int .i64 i, .str s, sliceD n l] := by unfold mkV at e; injection e
  subst this
  exact ⟨k, i, s, n, l, rfl, h⟩
theorem rdF (W : World) : ∀ fuel, Rds Try.prog W 101 (fun ds => isF (D.agg ds)) fuel
  | 0 => fun _ _ _ _ _ h _ => by simp [DataW.trod] at h
  | fuel + 1 => by
    refine (rds_struct (P := Try.prog) (w := W) (φs := [fun ds => ∃ l, ds = [.str l] ∧ l.length ≤ 2 ^ 47, fun ds => ∃ l, ds = [.str l] ∧ l.length ≤ 2 ^ 47, fun ds => ∃ n, ds = [.int .i64 n] ∧ IntKind.i64.min ≤ n ∧ n ≤ IntKind.i64.max, isBl]) Try.underlying101 rfl ?_ ?_ ?_).imp ?_
    · simp only [FldsOf, cells9, cells3, and_self, and_true, Nat.zero_add, Nat.reduceAdd]
    · simp only [List.map_cons, List.map_nil, cells9, cells3, cells4, cells101]; rfl
    · intro i f φ e1 e2
      match i with
      | 0 => simp at e1 e2; subst e1; subst e2; exact rds_string Try.underlying9 fuel
      | 1 => simp at e1 e2; subst e1; subst e2; exact rds_string Try.underlying9 fuel
      | 2 => simp at e1 e2; subst e1; subst e2; exact rds_int Try.underlying3 fuel
      | 3 => simp at e1 e2; subst e1; subst e2; exact rds_bool Try.underlying4 fuel
      | i + 4 => simp at e1
    · rintro ds ⟨x1, y1, rfl, ⟨who, rfl, h1⟩, x2, y2, rfl, ⟨name, rfl, h2⟩, x3, y3, rfl, ⟨k, rfl, i1, i2⟩, x4, y4, rfl, ⟨b, rfl⟩, rfl⟩
      refine ⟨who, name, k, b, rfl, h1, h2, ?_, ?_⟩
      · simpa [vi, IntKind.min, IntKind.bits, IntKind.signed] using i1
      · have : k ≤ 2 ^ 63 - 1 := by simpa [IntKind.max, IntKind.bits, IntKind.signed] using i2
        omega
theorem argF (W : World) : Arg Try.prog W 22 (isLs isF) := by
  have h : ∀ fuel, Rds Try.prog W 22 (isLd isF) fuel := fun fuel => by
    cases fuel with
    | zero => exact fun _ _ _ _ _ h _ => by simp [DataW.trod] at h
    | succ fuel => exact (rds_slice (P := Try.prog) (w := W) (mk := D.agg) (fun _ => rfl) (sz := 4) (by decide) Try.underlying22 cells101 bytes101 (rdF W fuel)).imp fun ds hd => isLd_of (fun x hx => hx) hd
  intro H enc v d ps base h1 h2 h3
  obtain ⟨x, k1, l, e, k2⟩ := arg_one Try.underlying22 rfl h H enc v d ps base h1 h2 h3
  injection e with e
  exact ⟨_, k1, e ▸ k2⟩
theorem rdRw (W : World) : ∀ fuel, Rds Try.prog W 30 (fun ds => ∃ r : Rw, r.Ok0 ∧ D.agg ds = rwD r) fuel
  | 0 => fun _ _ _ _ _ h _ => by simp [DataW.trod] at h
  | fuel + 1 => by
    refine (rds_struct (P := Try.prog) (w := W) (φs := [fun ds => ∃ l, ds = [.str l] ∧ l.length ≤ 2 ^ 47, fun ds => ∃ l, ds = [.str l] ∧ l.length ≤ 2 ^ 47, fun ds => ∃ l, ds = [.str l] ∧ l.length ≤ 2 ^ 47, fun ds => isVr (D.agg ds)]) Try.underlying30 rfl ?_ ?_ ?_).imp ?_
    · simp only [FldsOf, cells9, cells28, and_self, and_true, Nat.zero_add, Nat.reduceAdd]
    · simp only [List.map_cons, List.map_nil, cells9, cells28, cells30]; rfl
    · intro i f φ e1 e2
      match i with
      | 0 => simp at e1 e2; subst e1; subst e2; exact rds_string Try.underlying9 fuel
      | 1 => simp at e1 e2; subst e1; subst e2; exact rds_string Try.underlying9 fuel
      | 2 => simp at e1 e2; subst e1; subst e2; exact rds_string Try.underlying9 fuel
      | 3 => simp at e1 e2; subst e1; subst e2; exact (rdV W fuel).1
      | i + 4 => simp at e1
    · rintro ds ⟨x1, y1, rfl, ⟨w, rfl, h1⟩, x2, y2, rfl, ⟨n, rfl, h2⟩, x3, y3, rfl, ⟨a, rfl, h3⟩, x4, y4, rfl, h4, rfl⟩
      obtain ⟨k, i, s, nl, l, rfl, hv⟩ := isVr_cells h4
      exact ⟨⟨w, n, a, k, i, s, nl, l⟩, ⟨h1, h2, h3, hv⟩, rfl⟩
theorem rdO (W : World) : ∀ fuel, Rds Try.prog W 32 (fun ds => isO (D.agg ds)) fuel
  | 0 => fun _ _ _ _ _ h _ => by simp [DataW.trod] at h
  | fuel + 1 => by
    refine (rds_struct (P := Try.prog) (w := W) (φs := [fun ds => ∃ n, ds = [.int .u8 n] ∧ IntKind.u8.min ≤ n ∧ n ≤ IntKind.u8.max, fun ds => ∃ r : Rw, r.Ok0 ∧ D.agg ds = rwD r]) Try.underlying32 rfl ?_ ?_ ?_).imp ?_
    · simp only [FldsOf, cells5, cells30, and_self, and_true, Nat.zero_add, Nat.reduceAdd]
    · simp only [List.map_cons, List.map_nil, cells5, cells30, cells32]; rfl
    · intro i f φ e1 e2
      match i with
      | 0 => simp at e1 e2; subst e1; subst e2; exact rds_int Try.underlying5 fuel
      | 1 => simp at e1 e2; subst e1; subst e2; exact rdRw W fuel
      | i + 2 => simp at e1
    · rintro ds ⟨x1, y1, rfl, ⟨k, rfl, i1, i2⟩, x2, y2, rfl, ⟨r, hr, h2⟩, rfl⟩
      rw [u8min] at i1; rw [u8max] at i2
      injection h2 with h2
      subst h2
      exact ⟨k, r, rfl, i1, i2, hr⟩
theorem argOs (W : World) : Arg Try.prog W 23 (isLs isO) := by
  have h : ∀ fuel, Rds Try.prog W 23 (isLd isO) fuel := fun fuel => by
    cases fuel with
    | zero => exact fun _ _ _ _ _ h _ => by simp [DataW.trod] at h
    | succ fuel => exact (rds_slice (P := Try.prog) (w := W) (mk := D.agg) (fun _ => rfl) (sz := 8) (by decide) Try.underlying23 cells32 bytes32 (rdO W fuel)).imp fun ds hd => isLd_of (fun x hx => hx) hd
  intro H enc v d ps base h1 h2 h3
  obtain ⟨x, k1, l, e, k2⟩ := arg_one Try.underlying23 rfl h H enc v d ps base h1 h2 h3
  injection e with e
  exact ⟨_, k1, e ▸ k2⟩
end GP
namespace GP
open Go Go.Proofs Go.Proofs.Ytjpbliffonimgaa
open Go.ChangeShapes Go.WideShapes Go.ChangeAt Go.RowKit
set_option maxRecDepth 100000
theorem cells66 : Try.prog.cellsOf 66 = 2 := by kernel_rfl
theorem trod_arr2 {H : Type} {enc : TypeId × Value → H} {P : Program} {w : World} {base : Nat} {spare : Nat → Bool} {held : Bool} {t e : TypeId} {fuel : Nat} {c0 c1 : Value} {x : DataW H × List MemPlace} (ht : P.underlying t = some (.array 2 e)) (hce : P.cellsOf e = 1)
    (h : DataW.trod enc P w base spare held fuel t [c0, c1] = some x) :
    ∃ y0 y1 n, x = (.agg [y0.1, y1.1], y0.2 ++ y1.2) ∧ DataW.trod enc P w base spare held n e [c0] = some y0 ∧ DataW.trod enc P w base spare held n e [c1] = some y1 := by
  cases fuel with
  | zero => simp [DataW.trod] at h
  | succ n =>
    unfold DataW.trod at h
    rw [ht] at h
    have r2 : List.range 2 = [0, 1] := rfl
    simp [r2, hce] at h
    obtain ⟨_, h⟩ := h
    cases h0 : DataW.trod enc P w base spare held n e [c0] with
    | none => simp [h0] at h
    | some y0 =>
      cases h1 : DataW.trod enc P w base spare held n e [c1] with
      | none => simp [h0, h1] at h
      | some y1 =>
        simp [h0, h1] at h
        exact ⟨y0, y1, n, h.symm, h0, h1⟩
def isA2 (d : D) : Prop := ∃ w a, d = .agg [.str w, .str a] ∧ w.length ≤ 2 ^ 47 ∧ a.length ≤ 2 ^ 47
theorem argA2 (W : World) : Arg Try.prog W 66 isA2 := by
  intro H enc v d ps base hd hz hok
  simp only [Value.okWide, Try.underlying66] at hok
  obtain ⟨cs, rfl, hsz, _⟩ := hok
  rw [cells66] at hsz
  obtain ⟨fuel, hf⟩ := hd
  obtain ⟨c0, c1, e⟩ : ∃ c0 c1, cs.toList = [c0, c1] := by
    have hl : cs.toList.length = 2 := by simpa using hsz
    match cs.toList, hl with
    | [a, b], _ => exact ⟨a, b, rfl⟩
  have hf' : DataW.trod enc Try.prog W 0 (fun _ => true) true fuel 66 [c0, c1] = some (d, ps) := by
    rw [← e]; exact hf
  obtain ⟨y0, y1, m, hx, h0, h1⟩ := trod_arr2 Try.underlying66 cells9 hf'
  injection hx with hx1 hx2
  have hw : ∀ y ∈ [y0.1, y1.1], ∀ n ∈ y.weights Try.prog 9, n ≤ reachBytes := fun y hy n hn => by
    refine hz n ?_
    rw [hx1]
    simp only [DataW.weights, Try.underlying66]
    exact weightsAll_mem hy n hn
  obtain ⟨ds0, k0, l0, rfl, z0⟩ := rds_string (P := Try.prog) (w := W) Try.underlying9 m H enc [c0] y0.1 y0.2 h0 (hw _ (by simp))
  obtain ⟨ds1, k1, l1, rfl, z1⟩ := rds_string (P := Try.prog) (w := W) Try.underlying9 m H enc [c1] y1.1 y1.2 h1 (hw _ (by simp))
  have q0 := k0.rep 0 (by simp) (by simp)
  have q1 := k1.rep 0 (by simp) (by simp)
  simp only [List.getElem_cons_zero] at q0 q1
  refine ⟨.agg [.str l0, .str l1], ?_, l0, l1, rfl, z0, z1⟩
  have := Rep.agg (c := Cx0 W) [.str l0, .str l1] [c0, c1] rfl (by simp [D.one]) (fun i hi hi' => by
    match i, hi with
    | 0, _ => exact q0
    | 1, _ => exact q1)
  rw [← e] at this
  simpa using this
end GP
namespace GP
open Go Go.Proofs Go.Sort
section
variable {P : Program}
theorem Inv.grownB {b : Bool} {c : Cx} {w w' : World} {H : Hp} (k : Inv c w H) (hb : Below (b, w.heap.size) w w') : Inv c w' H := by
  have lt : ∀ {a : Addr} {v : Value}, w.cell? a = some v → w'.cell? a = some v := by
    intro a v h
    have hlt : a.block < w.heap.size := by
      rcases Nat.lt_or_ge a.block w.heap.size with h' | h'
      · exact h'
      · simp [World.cell?, Array.getElem?_eq_none h'] at h
    unfold World.cell? at h ⊢
    rw [hb.block _ hlt]; exact h
  refine ⟨fun a v h => lt (k.keep a v h), Nat.le_trans k.low hb.size, ?_, k.free, ?_, k.apart, fun o es clk ho => ⟨(k.map o es clk ho).1, by rw [hb.block _ (k.own o _ ho rfl).2.2.1]; exact (k.map o es clk ho).2⟩, fun o m sn se la ho => (k.iter o m sn se la ho).mono (Cx.le.refl c) rfl (by rw [hb.block _ (k.own o _ ho rfl).2.2.1]), ?_, k.tokrow, k.toks⟩
  · intro o x cs h1 h2
    obtain ⟨vs, rest, e, fr, h, g⟩ := (k.row o x cs h1 h2).hold
    have hlt : c.β o < w.heap.size := by
      rcases Nat.lt_or_ge (c.β o) w.heap.size with h' | h'
      · exact h'
      · rw [Array.getElem?_eq_none h'] at h; cases h
    exact ⟨vs, rest, e, fr, by rw [hb.block _ hlt]; exact h, g⟩
  · intro o x h1 h2
    obtain ⟨a, b, d, e⟩ := k.own o x h1 h2
    exact ⟨a, b, Nat.lt_of_lt_of_le d hb.size, e⟩
  · intro τ n z h
    obtain ⟨a, b, d, e, f⟩ := k.tok τ n z h
    refine ⟨a, Nat.lt_of_lt_of_le b hb.size, d, e, fun j h1 h2 => ?_⟩
    obtain ⟨g1, g2, g3⟩ := f j h1 h2
    have hbl : w'.heap[(c.κ τ).1.block]? = w.heap[(c.κ τ).1.block]? := hb.block _ b
    refine ⟨?_, ?_, g3⟩
    · rw [← g1]; unfold World.cell?; rw [hbl]
    · rw [← g2]; unfold World.frozen?; rw [hbl]
theorem putCells_set (vs : List Value) : ∀ (w : World) (b off : Nat), putCells w b off vs = w.setCells b off vs := by
  induction vs with
  | nil => intros; rfl
  | cons v vs ih => intro w b off; rw [putCells, ih]; rfl
theorem put_grown {c : Cx} {w : World} {H : Hp} (k : Inv c w H) {o : Nat} {cs ds : List D} {us : List Value} (ho : H[o]? = some (.row cs)) (kc : Cells c ds us) {off : Nat} (h1 : off + ds.length ≤ cs.length) (m : Nat) (os : Array Obj) :
    Inv c (grow ((Sort.ahead w m).setCells (c.β o) off us) os) (H.set o (.row (cs.take off ++ ds ++ cs.drop (off + ds.length)))) ∧ Below c.bb w (grow ((Sort.ahead w m).setCells (c.β o) off us) os) := by
  have k1 : Inv c (Sort.ahead w m) H := Inv.congr (w := w) (w' := Sort.ahead w m) rfl k
  have hf := row_fits k ho rfl
  obtain ⟨_, g2, g3⟩ := put_inv (P := default) k1 ho rfl kc (off := off) (by omega) (by omega)
  rw [putCells_set] at g2 g3
  have hg : ∀ (b : Bool) (x : World), Below (b, x.heap.size) x (grow x os) := fun b x => ⟨rfl, rfl, rfl, by simp, fun i hi => by simp [grow, Array.getElem?_append_left hi], fun _ => Nat.le_refl _⟩
  refine ⟨g2.grownB (hg false _), ?_⟩
  have h0 : Below c.bb w (Sort.ahead w m) := ⟨rfl, rfl, rfl, Nat.le_refl _, fun _ _ => rfl, fun _ => Nat.le_add_right _ _⟩
  exact (h0.trans g3).trans (Below.mono (b := c.bb.1) (hg _ _) g2.low)
variable [inst : HasG P]
end
end GP
namespace GP
open Go Go.Proofs Go.Sort Go.RowKit
theorem putRow_map {α : Type} [Inhabited α] (enc : α → Value) (W : World) (b off : Nat) (d : Array α) : Sort.putRow enc W b off d = Sort.putRow id W b off (d.map enc) := by
  unfold Sort.putRow
  congr 1
  funext c
  unfold Sort.putCells
  apply Array.ext_getElem?
  intro k
  simp only [Array.getElem?_mapIdx, Array.size_map]
  cases c[k]? with
  | none => rfl
  | some x =>
    simp only [Option.map_some, id]
    by_cases h : off ≤ k ∧ k < off + d.size
    · rw [if_pos h, if_pos h, getElem!_pos d _ (by omega), getElem!_pos _ _ (by simp; omega), Array.getElem_map]
    · rw [if_neg h, if_neg h]
theorem setCells_all (W : World) (b off : Nat) (F vals : List Value) (hl : F.length = vals.length) (h : Holds id W b off F.toArray) : W.setCells b off vals = Sort.putRow id W b off vals.toArray := by
  have e0 : Sort.putRow id W b off F.toArray = W := putRow_self id _ _ _ _ h
  have e1 := setCells_putRow W b off vals 0 F.toArray (by simp [hl])
  rw [e0, Nat.add_zero] at e1
  rw [e1]
  congr 1
  apply ext_get!
  · simp [hl]
  · intro t ht
    rw [get_setMany _ _ _ _ (by simpa [hl] using ht), if_pos (by simpa [hl] using ht)]
    simp only [Nat.sub_zero]
    rw [getElem!_pos vals t (by simpa [hl] using ht), getElem!_pos vals.toArray t (by simpa [hl] using ht)]
    simp
variable {P : Program} [HasG P]
theorem strs_snd {f : FuncId} (ef : ∀ args w, (callFunc f args).run P w = .ok (.enter f args) w) {H : Hp} {o off cap : Nat} {A B : List D} {l l' : List (List UInt8)} {rd : D} {rv : Nat → Nat → Value}
    (hC : ∀ (blk rc : Nat) (w : World), Holds encStr w blk off l.toArray → blk < w.heap.size → l.length ≤ rc → Calls P f #[.slice (some ⟨blk, off, none⟩) l.length rc] w fun e w' => e = .returned (rv blk rc) ∧ ∃ q os, w' = grow (Sort.putRow encStr (Sort.ahead w q) blk off l'.toArray) os)
    (hsl : l'.length = l.length) (hmem : ∀ s ∈ l', s ∈ l ∨ s = []) (hrv : ∀ (c : Cx) (rc : Nat), c.bd o = true → l.length ≤ cap → cap = rc → off + rc * 1 ≤ c.sz o → Rep c rd (rv (c.β o) rc))
    (ho : H[o]? = some (.row (A ++ l.map D.str ++ B))) (hA : A.length = off) {T : Tk} {Q : Post} (hQ : Q rd (H.set o (.row (A ++ l'.map D.str ++ B))) T) :
    Snd P f [.ms false 1 o off l.length cap] H T Q := by
  intro c w args hg k1 kT kr
  match args, kr.len with
  | [va], _ =>
    have ra := kr.rep 0 (by simp) (by simp)
    simp only [List.getElem_cons_zero] at ra
    cases ra with
    | ms _ _ _ _ _ _ rc hb g1 g2 g3 =>
    refine .inl ⟨ef _ _, ?_⟩
    obtain ⟨vs, rest, e, fr, q1, q2, q4, q3⟩ := (k1.row o _ _ ho rfl).hold
    have hvl : vs.length = off + l.length + B.length := by rw [q2.len]; simp [hA]; omega
    have hown := k1.own o _ ho rfl
    have hblk : c.β o < w.heap.size := hown.2.2.1
    have hv : ∀ j (hj : j < l.length), vs[off + j]? = some (encStr l[j]) := fun j hj => by
      have h1 := q2.rep (off + j) (by simp [hA]; omega) (by omega)
      have e1 : (A ++ l.map D.str ++ B)[off + j]'(by simp [hA]; omega) = .str l[j] := by
        rw [List.getElem_append_left (by simp [hA]; omega), List.getElem_append_right (by omega)]
        simp [hA]
      rw [e1] at h1
      rw [List.getElem?_eq_getElem (by omega)]
      congr 1
      generalize vs[off + j]'(by omega) = u at h1
      cases h1; rfl
    have hH : Holds encStr w (c.β o) off l.toArray := by
      intro j hj
      have hj' : j < l.length := by simpa using hj
      constructor
      · simp only [World.cell?, q1]
        simp only [Option.isSome_none, Bool.false_eq_true, if_false, List.getElem?_toArray, id]
        rw [List.getElem?_append_left (by omega), hv j hj', getElem!_pos l.toArray j (by simpa using hj)]
        simp
      · simp only [World.frozen?, q1]
        have := q3 (off + j) (by omega)
        simpa using this
    have hrep := hrv c rc hb g1 g2 g3
    refine (hC (c.β o) rc w hH hblk (by omega)).mono ?_
    rintro e w' ⟨rfl, m, os, rfl⟩
    have hkc : Cells c (l'.map D.str) (l'.map encStr) := by
      refine ⟨by simp, fun d hd => ?_, fun i h h' => ?_⟩
      · obtain ⟨s, _, rfl⟩ := List.mem_map.1 hd; rfl
      · simp only [List.getElem_map]
        have hs := hmem _ (List.getElem_mem (l := l') (n := i) (by simpa using h))
        rcases hs with hs | hs
        case inr => rw [hs]; exact .str [] (by simp)
        obtain ⟨j, hj, e1⟩ := List.getElem_of_mem hs
        have h1 := q2.rep (off + j) (by simp [hA]; omega) (by omega)
        have e2 : (A ++ l.map D.str ++ B)[off + j]'(by simp [hA]; omega) = .str l[j] := by
          rw [List.getElem_append_left (by simp [hA]; omega), List.getElem_append_right (by omega)]
          simp [hA]
        rw [e2, e1] at h1
        generalize vs[off + j]'(by omega) = u at h1
        cases h1
        rename_i hlen
        exact .str _ hlen
    have hw : Sort.putRow encStr (Sort.ahead w m) (c.β o) off l'.toArray = (Sort.ahead w m).setCells (c.β o) off (l'.map encStr) := by
      rw [setCells_all (F := l.map encStr) _ _ _ _ (by simp [hsl]), putRow_map]
      · simp
      · intro j hj
        have hj' : j < l.length := by simpa using hj
        have h1 := hH j (by simpa using hj')
        rw [getElem!_pos l.toArray j (by simpa using hj')] at h1
        rw [getElem!_pos _ j hj]
        simpa using h1
    show CallPost _ _ _ _ (grow (Sort.putRow encStr (Sort.ahead w m) (c.β o) off l'.toArray) os)
    rw [hw]
    obtain ⟨z1, z2⟩ := put_grown k1 ho hkc (off := off) (by simp [hsl, hA]) m os
    have e3 : (A ++ l.map D.str ++ B).take off ++ l'.map D.str ++ (A ++ l.map D.str ++ B).drop (off + (l'.map D.str).length) = A ++ l'.map D.str ++ B := by
      have : off + (l'.map D.str).length = (A ++ l.map D.str).length := by simp [hA, hsl]
      rw [this, List.drop_left, List.append_assoc A, List.take_left' hA]
    rw [e3] at z1
    exact ⟨_, rfl, rd, _, T, c, hQ, hrep, z1, Cx.le.refl c, kT, z2⟩
def padS (l : List (List UInt8)) : List (List UInt8) := Lib.compact l ++ List.replicate (l.length - (Lib.compact l).length) []
theorem compacts_snd {ρ : Go.Shelf.Ren} (L : Go.Proofs.Lays.n194 P ρ) {f : FuncId} (hf : ρ.f 194 = f) (ef : ∀ args w, (callFunc f args).run P w = .ok (.enter f args) w) {H : Hp} {o off cap : Nat} {A B : List D} {l : List (List UInt8)}
    (hc : (Lib.compact l).length ≤ l.length) (hm : ∀ s ∈ Lib.compact l, s ∈ l) (ho : H[o]? = some (.row (A ++ l.map D.str ++ B))) (hA : A.length = off) (hn2 : l.length < 2 ^ 62) {T : Tk} {Q : Post}
    (hQ : Q (.ms false 1 o off (Lib.compact l).length cap) (H.set o (.row (A ++ (padS l).map D.str ++ B))) T) : Snd P f [.ms false 1 o off l.length cap] H T Q :=
  strs_snd ef (rv := fun blk rc => .slice (some ⟨blk, off, none⟩) (Lib.compact l).length rc) (fun blk rc w h1 h2 h3 => by
      have := Any.slices_Compact_string L blk off rc l w h1 (by omega) h3
      rw [hf] at this
      refine this.mono ?_
      rintro e w' ⟨rfl, q, rfl⟩
      have hg : ∀ W : World, grow W #[] = W := fun W => by cases W; simp [grow]
      exact ⟨rfl, q, #[], by rw [hg]; rfl⟩)
    (by simp [padS]; omega) (fun s hs => by
      unfold padS at hs
      rcases List.mem_append.1 hs with h | h
      · exact .inl (hm s h)
      · exact .inr (List.eq_of_mem_replicate h))
    (fun c rc h1 h2 h3 h4 => .ms _ _ _ _ _ _ rc h1 (by omega) h3 h4) ho hA hQ
end GP
namespace GP
open Go.Lib
abbrev Sb := List UInt8
theorem cmU_sub (d : Array Sb) : ∀ m, ∀ x ∈ compactUpTo d m, ∃ j < m, x = d[j]!
  | 0, x, h => by simp [compactUpTo] at h
  | m + 1, x, h => by
    rw [compactUpTo_succ, List.mem_append] at h
    rcases h with h | h
    · obtain ⟨j, h1, h2⟩ := cmU_sub d m x h
      exact ⟨j, by omega, h2⟩
    · split at h
      · rw [List.mem_singleton] at h; exact ⟨m, by omega, h⟩
      · cases h
theorem cmU_mem (d : Array Sb) : ∀ m j, j < m → d[j]! ∈ compactUpTo d m
  | 0, j, h => by omega
  | m + 1, j, h => by
    rw [compactUpTo_succ, List.mem_append]
    rcases Nat.lt_or_ge j m with h1 | h1
    · exact .inl (cmU_mem d m j h1)
    · have : j = m := by omega
      subst this
      by_cases hk : keeps d j = true
      · rw [if_pos hk]; simp
      · have hk' : j ≠ 0 ∧ d[j]! = d[j - 1]! := by
          unfold keeps at hk
          simp only [decide_eq_true_eq, not_or, Classical.not_not] at hk
          exact hk
        rw [hk'.2]
        exact .inl (cmU_mem d j (j - 1) (by omega))
theorem cm_mem (l : List Sb) (x : Sb) : x ∈ compact l ↔ x ∈ l := by
  unfold compact
  constructor
  · intro h
    obtain ⟨j, h1, rfl⟩ := cmU_sub _ _ x h
    rw [getElem!_pos l.toArray j (by simpa using h1)]
    simp
  · intro h
    obtain ⟨j, hj, rfl⟩ := List.getElem_of_mem h
    have := cmU_mem l.toArray l.length j hj
    rw [getElem!_pos l.toArray j (by simpa using hj)] at this
    simpa using this
theorem cm_rise {l : List Sb} (h : l.Pairwise (· ≤ ·)) : (compact l).Pairwise (· < ·) := by
  have key : ∀ m, m ≤ l.length → (compactUpTo l.toArray m).Pairwise (· < ·) := by
    intro m
    induction m with
    | zero => intro _; simp [compactUpTo]
    | succ m ih =>
      intro hm
      rw [compactUpTo_succ]
      split
      · rename_i hk
        refine List.pairwise_append.2 ⟨ih (by omega), by simp, fun a ha b hb => ?_⟩
        rw [List.mem_singleton] at hb; subst hb
        obtain ⟨j, hj, rfl⟩ := cmU_sub _ _ a ha
        have e1 : l.toArray[m]! = l[m] := by rw [getElem!_pos l.toArray m (by simp; omega)]; simp
        have e2 : ∀ i (hi : i < l.length), l.toArray[i]! = l[i] := fun i hi => by rw [getElem!_pos l.toArray i (by simpa using hi)]; simp
        have h1 : l.toArray[m]! ≠ l.toArray[m - 1]! := by
          unfold keeps at hk
          simp only [decide_eq_true_eq] at hk
          rcases hk with hk | hk
          · omega
          · exact hk
        rw [e1, e2 j (by omega)]
        rw [e1, e2 (m - 1) (by omega)] at h1
        rw [List.pairwise_iff_getElem] at h
        have h2 := h (m - 1) m (by omega) (by omega) (by omega)
        have h3 : l[j]'(by omega) ≤ l[m - 1]'(by omega) := by
          rcases Nat.lt_or_ge j (m - 1) with h4 | h4
          · exact h j (m - 1) (by omega) (by omega) h4
          · have : j = m - 1 := by omega
            subst this; exact List.le_refl _
        have h4 : l[m - 1]'(by omega) < l[m] := by
          rcases Classical.em (l[m - 1]'(by omega) < l[m]) with h5 | h5
          · exact h5
          · exact absurd (List.le_antisymm (List.not_lt.1 h5) h2) h1
        exact List.lt_of_le_of_lt h3 h4
      · simpa using ih (by omega)
  exact key l.length (Nat.le_refl _)
end GP
namespace GP
open Go Go.Proofs
set_option maxRecDepth 100000
variable [HasG Try.prog]
theorem few_ops {fl xs : List D} {n : Int} (hn : n ≤ 300) (h : fewS fl xs n = true) : (xs.length : Int) ≤ n ∧ fl.length ≤ 12 ∧ ∀ x ∈ xs, fewO x = true := by
  unfold fewS at h
  simp only [Bool.and_eq_true, decide_eq_true_eq, List.all_eq_true] at h
  refine ⟨h.1.2, by omega, fun x hx => h.1.1 x ?_⟩
  rw [List.take_of_length_le (by omega)]; exact hx
end GP
namespace GP
open Go Go.Proofs
set_option maxRecDepth 100000
variable [HasG Try.prog]
def stepX (f xs : List D) (o : D) : List D := if oK o % 2 == 0 then (if errP f xs (oR o) = 0 then Ord.put ordD (oR o) xs else xs) else (if errDP xs (oR o) = 0 then Ord.rem ordD (oR o) xs else xs)
def runX (f ops : List D) : List D := ops.foldl (stepX f) []
theorem runX_snoc {f ops : List D} {i : Nat} {o : D} (h : ops[i]? = some o) : runX f (ops.take (i + 1)) = stepX f (runX f (ops.take i)) o := by
  unfold runX
  rw [List.take_add_one, h, List.foldl_append]; rfl
theorem Liv.done2 {H B2 L : Hp} {p w : Nat} {S' : List Nat} {f rD' : D} {xs' m' : List D} (k1 : StoS B2 p S' f xs') (hw : w < B2.length) (hwS : w ∉ S') (hb : ∀ o ∈ S', H.length ≤ o) (hwb : H.length ≤ w) (hx : Ext H B2)
    (hr : isLs isRw rD') (hm : elems rD' = m') (al : Ord.Alike ordD xs' m') (hf : ∀ x ∈ xs', few1 (rV x) = true) : Liv H ((B2 ++ L).set w (.row [f, rD'])) p w S' f rD' xs' m' where
  sto := (k1.fr (Fr.ext [] (Ext.of B2 L)) (by simp)).fr (S2 := [w]) ⟨by simp, fun o ho hn => by
    rw [List.mem_singleton] at hn
    rw [List.getElem?_set_ne (Ne.symm hn)]⟩ fun o ho hm => by
      rw [List.mem_singleton] at hm
      subst hm; exact hwS ho
  wr := by rw [List.getElem?_set_self (by simp; omega)]
  hw := hwS
  base := hb
  wb := hwb
  ext := (hx.app L).set hwb _
  rd := hr
  rm := hm
  al := al
  few := hf
set_option maxHeartbeats 16000000 in
theorem made_snd {n nf : Bool} {ops fl : List D} (ho : ∀ x ∈ ops, isO x) (hol : ops.length ≤ 2 ^ 20) (hfl : ∀ x ∈ fl, isF x) (hfll : fl.length ≤ 12) (hfo : ∀ x ∈ ops, fewO x = true) {H : Hp} {T : Tk} {Q : Post}
    (k : ∀ B p S rD m U, StoS B p S (sliceD true (fl.map kindF)) (runX (fl.map kindF) ops) → (∀ o ∈ S, H.length ≤ o) → Ext H B → isLs isRw rD → elems rD = m → Ord.Alike ordD (runX (fl.map kindF) ops) m → (∀ x ∈ runX (fl.map kindF) ops, few1 (rV x) = true) →
      Q (.tup [.ptr p 0, .agg [sliceD true (fl.map kindF), rD]]) B (T ++ U)) :
    Snd Try.prog 16 [sliceD nf fl, sliceD n ops] H T Q := by
  have hM : MonoH [] := .nil
  have hX := XG_mono (P := Try.prog) [20, 21, 23] [(19, φkinds9), (22, φ22), (24, φ24)] [] [] []
  refine call_of fn16 (by simp) (W_mono (X := XG Try.prog [20, 21, 23] [(19, φkinds9), (22, φ22), (24, φ24)] [] [] []) (XG.X (.cons ok19 (.cons ok22 (.cons ok24 .nil))) .nil .nil .nil) (fun _ _ h => h) ?_)
  have hF0 : isLs isF (sliceD nf fl) := ⟨nf, fl, rfl, by omega, hfl⟩
  have ef0 : D.eraseL fl = fl := eraseL_id fun x h => isF_erase (hfl x h)
  have p19 : φkinds9 [sliceD nf fl] = some (sliceD true (fl.map kindF)) := by
    simp only [φkinds9]
    rw [if_pos ⟨hF0, by rw [elems_sliceD]; exact hfll⟩, elems_sliceD]
  have hFk := kinds_isF hF0
  rw [elems_sliceD] at hFk
  obtain ⟨f, hff⟩ : ∃ f, sliceD true (fl.map kindF) = f := ⟨_, rfl⟩
  have hel : elems f = fl.map kindF := by rw [← hff, elems_sliceD]
  rw [hff, ← hel] at k
  rw [hff] at p19 hFk
  have hkk : kindsOk (elems f) := by rw [hel]; exact kinds_ok fl
  have hfln : (elems f).length ≤ 2 ^ 30 := by rw [hel]; simp; omega
  obtain ⟨ef, of, cf⟩ := isF_lc hFk
  simp +contextual (maxSteps := 10000000) only [c16, p19, ef0, XG_eq, pcallG hM, lookH_nil, orK_n, orK_s, go_sem, W_draw]
  obtain ⟨H1, hH1⟩ : ∃ H1, H ++ [Ob.row [.nils, .nils]] = H1 := ⟨_, rfl⟩
  rw [hH1]
  refine new_snd hFk hkk hfln fun B2 p U2 hE2 hp hst => ?_
  simp +contextual (maxSteps := 10000000) only [of, cf, go_sem, W_draw]
  have hp2 := hst.low p (by simp)
  have hHl : H1.length = H.length + 1 := by rw [← hH1]; simp
  obtain ⟨w, hw⟩ : ∃ w, B2.length = w := ⟨_, rfl⟩
  have hL0 : Liv H1 (B2 ++ [Ob.row [f, .nils]]) p w [p] f .nils [] [] :=
    { sto := hst.fr (Fr.ext [] (Ext.of _ _)) (by simp), wr := by rw [← hw]; simp, hw := by simp; omega, base := by simpa using hp, wb := by obtain ⟨L, rfl⟩ := hE2; simp at hw; omega, ext := hE2.app _, rd := isLs_nils _, rm := rfl,
      al := ⟨by simp [Ris], by simp [Ord.Dis], by simp⟩, few := by simp }
  rw [hw]
  refine W_for (fun i s' => ∃ S rD xs m, s'.t 1 = sliceD n ops ∧ s'.t 5 = .ptr H.length 0 ∧ s'.t 7 = .ptr p 0 ∧ s'.t 8 = .ptr w 0 ∧ s'.t 9 = .int .i64 (i : Nat) ∧ Liv H1 s'.H p w S f rD xs m ∧ ExtT T s'.T ∧ xs = runX (elems f) (ops.take i) ∧ i ≤ ops.length) ops.length
    ⟨0, [p], .nils, [], [], by simp [upd, argT], by simp [upd], by simp [upd], by simp [upd], by simp [upd], hL0, ExtT.of _ _, rfl, by omega⟩ (fun i s h => by obtain ⟨_, _, _, _, h⟩ := h; exact h.2.2.2.2.2.2.2.2) ?_ hX
  rintro i ⟨t, B3, U3⟩ ⟨S, rD, xs, m, r1, r5, r7, r8, r9, hL, hT, hxs, hi⟩
  simp only at r1 r5 r7 r8 r9 hL hT
  have hml : m.length ≤ 120 := by rw [← hL.al.len ordD_ord]; exact hL.sto.len
  have hrm := hL.rm
  have er : rD.erase = rD := isLs_erase (fun _ => isRw_erase) hL.rd
  obtain ⟨nr, rl, hrd, _, hrx⟩ := hL.rd
  have oc : rD.okc = true ∧ rD.cells = [rD] := by
    rw [hrd]
    rcases sliceD_cases nr rl with ⟨e, _⟩ | e <;> rw [e] <;> exact ⟨rfl, rfl⟩
  obtain ⟨or, cr⟩ := oc
  have hwl := lt_get hL.wr
  by_cases hlt : i < ops.length
  · have d1 : decide ((i : Int) < ops.length) = true := by simpa using hlt
    obtain ⟨k, r, hr, hk0, hk1, hok0⟩ := ho _ (List.getElem_mem hlt)
    have e : ops[i]? = some (mkO k r) := by rw [← hr]; simp [hlt]
    obtain ⟨hok, hfx⟩ := mkO_ok hok0 (hfo _ (List.mem_of_getElem? e))
    have hxr : isRw (rwD r) := ⟨r, rfl, hok⟩
    have eL := hok.eL
    have e' := e
    simp only [mkO] at e'
    obtain ⟨z, hz⟩ : ∃ z, B3.length = z := ⟨_, rfl⟩
    have hzB : H1.length ≤ z := by obtain ⟨L, hLL⟩ := hL.ext; rw [← hz, hLL]; simp
    have hE9 : Ext B3 B3 := Ext.refl _
    rcases tf (k.tmod 2 == 0) with hev | hev
    · simp +contextual (maxSteps := 10000000) only [r1, r5, r7, r8, r9, d1, e', hev, XG_eq, go_sem, W_draw]
      refine set_snd (x := rwD r) hL.sto hxr fun B4 U4 hS => ?_
      obtain ⟨S', k1, k2, k3, k4, k5, k6, k7⟩ := hL.step hE9 hS
      rw [err_eq hL.al] at k1 ⊢
      have p22 : φ22 [.agg [f, rD], rwD r] = some (.tup [.agg [f, if errS (elems f) m (rwD r) = 0 then .sl none (Ord.set_ ordD (rwD r) m) else rD], .int .i64 (errS (elems f) m (rwD r))]) := by
        simp only [φ22]
        rw [if_pos ⟨hFk, hL.rd, by rw [hrm]; omega, hxr⟩, hrm]
      obtain ⟨en, hen⟩ : ∃ x, errS (elems f) m (rwD r) = x := ⟨_, rfl⟩
      rw [hen] at p22 k1 ⊢
      obtain ⟨rD', hrD'⟩ : ∃ x, (if en = 0 then D.sl none (Ord.set_ ordD (rwD r) m) else rD) = x := ⟨_, rfl⟩
      rw [hrD'] at p22
      have hset : ∀ y ∈ Ord.set_ ordD (rwD r) m, isRw y := fun y hy => by
        rcases set_sub y hy with h' | rfl
        · rw [← hrm, hrd, elems_sliceD] at h'; exact hrx y h'
        · exact hxr
      have hfin : isLs isRw rD' ∧ elems rD' = (if en = 0 then Ord.set_ ordD (rwD r) m else m) ∧ rD'.okc = true ∧ rD'.cells = [rD'] := by
        rw [← hrD']
        split
        · refine ⟨⟨false, Ord.set_ ordD (rwD r) m, rfl, ?_, hset⟩, rfl, rfl, rfl⟩
          have : (Ord.set_ ordD (rwD r) m).length ≤ m.length + 1 := by unfold Ord.set_; split <;> simp
          omega
        · exact ⟨hL.rd, hrm, or, cr⟩
      obtain ⟨q1, q2, q3, q4⟩ := hfin
      have gw := rdAt_of k2
      simp only [rwD] at p22
      have k7' : w < B4.length := lt_get k2
      have bw : ∀ L, (B4 ++ L)[w]? = some (.row [f, rD]) := fun L => by rw [List.getElem?_append_left k7']; exact k2
      have gw2 : ∀ L, rdAt (B4 ++ L) (.ptr w 0) = some [f, rD] := fun L => by simp only [rdAt]; rw [bw]; rfl
      have Lf := Liv.done2 (L := [.row [f, rD']]) k1 k7' k3 (fun o ho => (k4 o ho).1) hL.wb k5 (xs' := if en = 0 then Ord.put ordD (rwD r) xs else xs) (m' := if en = 0 then Ord.set_ ordD (rwD r) m else m) q1 q2 (by
          split
          · exact hL.al.put ordD_ord _
          · exact hL.al) (by
          split
          · exact put_few hL.sto.ris hL.few hfx
          · exact hL.few)
      simp +contextual (maxSteps := 10000000) only [r1, r5, r7, r8, r9, e', gw, ld, List.take_zero, List.nil_append, List.drop_succ_cons, List.drop_zero, List.head?_cons, p22, ef, er, eL, of, cf, q3, q4, gw2, storeK_E (bw _), pcallG hM, lookH_cons, lookH_nil, orK_n, orK_s, XG_eq, wrap_succ i (by omega), go_sem, W_draw]
      have XS : (if en = 0 then Ord.put ordD (rwD r) xs else xs) = runX (elems f) (ops.take (i + 1)) := by
        rw [runX_snoc e, ← hxs]
        unfold stepX
        have h2 : (oK (mkO k r) % 2 == 0) = true := by
          rw [beq_iff_eq] at hev ⊢
          rw [Int.tmod_eq_emod_of_nonneg hk0] at hev
          exact hev
        rw [if_pos h2]
        show _ = if errP (elems f) xs (rwD r) = 0 then Ord.put ordD (rwD r) xs else xs
        rw [err_eq hL.al, hen]
      exact ⟨S', rD', _, _, Lf, hT.app _, XS, by omega⟩
    · simp +contextual (maxSteps := 10000000) only [r1, r5, r7, r8, r9, d1, e', hev, XG_eq, go_sem, W_draw]
      refine drop_snd (x := rwD r) hL.sto hxr fun B4 U4 hS => ?_
      obtain ⟨S', k1, k2, k3, k4, k5, k6, k7⟩ := hL.step hE9 hS
      rw [errD_eq hL.al] at k1 ⊢
      have p24 : φ24 [.agg [f, rD], rwD r] = some (.tup [.agg [f, if errD m (rwD r) = 0 then .sl none (Ord.del_ ordD (rwD r) m) else rD], .int .i64 (errD m (rwD r))]) := by
        simp only [φ24]
        rw [if_pos ⟨hFk, hL.rd, by rw [hrm]; omega, hxr⟩, hrm]
      obtain ⟨en, hen⟩ : ∃ x, errD m (rwD r) = x := ⟨_, rfl⟩
      rw [hen] at p24 k1 ⊢
      obtain ⟨rD', hrD'⟩ : ∃ x, (if en = 0 then D.sl none (Ord.del_ ordD (rwD r) m) else rD) = x := ⟨_, rfl⟩
      rw [hrD'] at p24
      have hset : ∀ y ∈ Ord.del_ ordD (rwD r) m, isRw y := fun y hy => by
        have h' := del_sub y hy
        rw [← hrm, hrd, elems_sliceD] at h'; exact hrx y h'
      have hfin : isLs isRw rD' ∧ elems rD' = (if en = 0 then Ord.del_ ordD (rwD r) m else m) ∧ rD'.okc = true ∧ rD'.cells = [rD'] := by
        rw [← hrD']
        split
        · refine ⟨⟨false, Ord.del_ ordD (rwD r) m, rfl, ?_, hset⟩, rfl, rfl, rfl⟩
          have : (Ord.del_ ordD (rwD r) m).length ≤ m.length := by unfold Ord.del_; split <;> simp <;> omega
          omega
        · exact ⟨hL.rd, hrm, or, cr⟩
      obtain ⟨q1, q2, q3, q4⟩ := hfin
      have gw := rdAt_of k2
      simp only [rwD] at p24
      have k7' : w < B4.length := lt_get k2
      have bw : ∀ L, (B4 ++ L)[w]? = some (.row [f, rD]) := fun L => by rw [List.getElem?_append_left k7']; exact k2
      have gw2 : ∀ L, rdAt (B4 ++ L) (.ptr w 0) = some [f, rD] := fun L => by simp only [rdAt]; rw [bw]; rfl
      have Lf := Liv.done2 (L := [.row [f, rD']]) k1 k7' k3 (fun o ho => (k4 o ho).1) hL.wb k5 (xs' := if en = 0 then Ord.rem ordD (rwD r) xs else xs) (m' := if en = 0 then Ord.del_ ordD (rwD r) m else m) q1 q2 (by
          split
          · rename_i h0
            refine hL.al.rem ordD_ord ?_
            have h1 := errD_eq (x := rwD r) hL.al
            rw [hen, h0] at h1
            unfold errDP at h1
            cases h2 : Ord.has ordD (rwD r) xs with
            | true => rfl
            | false => rw [h2] at h1; simp at h1
          · exact hL.al) (by
          split
          · exact rem_few hL.few
          · exact hL.few)
      simp +contextual (maxSteps := 10000000) only [r1, r5, r7, r8, r9, e', gw, ld, List.take_zero, List.nil_append, List.drop_succ_cons, List.drop_zero, List.head?_cons, p24, ef, er, eL, of, cf, q3, q4, gw2, storeK_E (bw _), pcallG hM, lookH_cons, lookH_nil, orK_n, orK_s, XG_eq, wrap_succ i (by omega), go_sem, W_draw]
      have XS : (if en = 0 then Ord.rem ordD (rwD r) xs else xs) = runX (elems f) (ops.take (i + 1)) := by
        have h2 : (oK (mkO k r) % 2 == 0) = false := by
          rw [beq_eq_false_iff_ne] at hev ⊢
          rw [Int.tmod_eq_emod_of_nonneg hk0] at hev
          exact hev
        have hs2 : stepX (elems f) xs (mkO k r) = if errDP xs (rwD r) = 0 then Ord.rem ordD (rwD r) xs else xs := by
          unfold stepX
          rw [if_neg (by rw [h2]; decide)]; rfl
        rw [runX_snoc e, ← hxs, hs2, errD_eq hL.al, hen]
      exact ⟨S', rD', _, _, Lf, hT.app _, XS, by omega⟩
  · have d1 : decide ((i : Int) < ops.length) = false := by simpa using hlt
    have ei : i = ops.length := by omega
    rw [ei, List.take_length] at hxs
    subst hxs
    have gw := rdAt_of hL.wr
    have b5 : B3[H.length]? = some (.row [.nils, .nils]) := by
      have h1 : H1[H.length]? = some (.row [.nils, .nils]) := by rw [← hH1]; simp
      exact hL.ext.get h1
    have hH3 : Ext H B3 := by
      obtain ⟨L, hLL⟩ := hL.ext
      exact ⟨[Ob.row [.nils, .nils]] ++ L, by rw [hLL, ← hH1, List.append_assoc]⟩
    simp +contextual (maxSteps := 10000000) only [r1, r5, r7, r8, r9, d1, gw, ld, List.take_zero, List.nil_append, List.drop_succ_cons, List.drop_zero, List.head?_cons, of, cf, or, cr, storeK_E b5, rdAt_set0 b5, go_sem, W_draw]
    obtain ⟨U', hU'⟩ := hT
    rw [hU']
    refine k _ p S rD m U' (hL.sto.fr (S2 := [H.length]) ⟨by simp, fun o _ hn => by rw [List.mem_singleton] at hn; rw [List.getElem?_set_ne (Ne.symm hn)]⟩ fun o ho hm => ?_) (fun o ho => by have := hL.base o ho; omega) (hH3.set (Nat.le_refl _) _) ⟨nr, rl, hrd, by assumption, hrx⟩ hrm hL.al hL.few
    rw [List.mem_singleton] at hm
    have := hL.base o ho
    omega
end GP
namespace Go.Proofs
open Go.Shelf Go.RowKit Go.Lib Go.Sort
shelf_lay Lays.n194 Nm 194 at Try as Try.compactT
end Go.Proofs
namespace GP
open Go Go.Proofs Go.Sort
set_option maxRecDepth 100000
variable [HasG Try.prog]
theorem e73 : ∀ args w, (callFunc 73 args).run Try.prog w = .ok (.enter 73 args) w := enters_of Try.func73 (by kernel_rfl) rfl
theorem f73 : Try.compactT_ren.f 194 = 73 := by first | rfl | kernel_rfl
theorem compact_snd73 {H : Hp} {o cap : Nat} {l : List Sb} {X : List D} {T : Tk} {Q : Post} (ho : H[o]? = some (.row (l.map D.str ++ X))) (hn : l.length < 2 ^ 62) (hQ : Q (.ms false 1 o 0 (Lib.compact l).length cap) (H.set o (.row ((padS l).map D.str ++ X))) T) : Snd Try.prog 73 [.ms false 1 o 0 l.length cap] H T Q := by
  have := compacts_snd (P := Try.prog) Try.compactT f73 e73 (H := H) (o := o) (off := 0) (cap := cap) (A := []) (B := X) (l := l) (T := T) (Q := Q) (Lib.compact_length_le l) (fun s hs => (cm_mem l s).1 hs) (by simpa using ho) rfl hn (by simpa using hQ)
  exact this
theorem nil_snd {f : FuncId} {r : D} (ef : ∀ args w, (callFunc f args).run Try.prog w = .ok (.enter f args) w) {v : Value} (h : ∀ w, Calls Try.prog f #[.slice none 0 0] w fun e w' => e = .returned v ∧ w' = w) (hr : ∀ c, Rep c r v) {H : Hp} {T : Tk} {Q : Post} (hQ : Q r H T) : Snd Try.prog f [.nils] H T Q := by
  intro c w vs hg k1 k2 k3
  match vs, k3.len with
  | [u], _ =>
    have h1 := k3.rep 0 (by simp) (by simp)
    simp only [List.getElem_cons_zero] at h1
    cases h1
    refine .inl ⟨ef _ _, (h w).mono ?_⟩
    rintro e w' ⟨rfl, rfl⟩
    exact ⟨_, rfl, r, H, T, c, hQ, hr c, k1, Cx.le.refl c, k2, Below.refl _ _⟩
theorem compact_nil73 {H : Hp} {T : Tk} {Q : Post} (hQ : Q .nils H T) : Snd Try.prog 73 [.nils] H T Q :=
  nil_snd e73 (v := .slice none 0 0) (fun w => by
    have := Any.slices_Compact_string_empty Try.compactT none 0 w
    rw [f73] at this
    exact this.mono fun e w' h => h) (fun c => .nils) hQ
def OutS (n : Nat) (B : Hp) (d : D) (L : List Sb) : Prop := (d = .nils ∧ L = []) ∨ ∃ o c X, n ≤ o ∧ d = .ms false 1 o 0 L.length c ∧ B[o]? = some (.row (L.map D.str ++ X)) ∧ L.length ≤ c ∧ X.length = c - L.length
theorem OutS.ext {n : Nat} {B B' : Hp} {d : D} {L : List Sb} (h : OutS n B d L) (hE : Ext B B') : OutS n B' d L := by
  rcases h with h | ⟨o, c, X, h1, h2, h3, h4⟩
  · exact .inl h
  · exact .inr ⟨o, c, X, h1, h2, hE.get h3, h4⟩
theorem OutS.app {H B : Hp} {d : D} {L : List Sb} {K : D → S → Prop} {t : Nat → D} {U : Tk} (h : OutS H.length B d L) (hE : Ext H B) (y : Sb) (hb : L.length ≤ 2 ^ 30) (k : ∀ d2 B2, OutS H.length B2 d2 (L ++ [y]) → Ext H B2 → K d2 ⟨t, B2, U⟩) :
    appmK false 1 16 K ⟨t, B, U⟩ d (some [.str y]) := by
  refine ⟨rfl, ?_⟩
  have hf : flatD [D.str y] = [.str y] := rfl
  rcases h with ⟨rfl, rfl⟩ | ⟨o, c, X, h1, rfl, h3, h4, h5⟩
  · simp only
    rw [if_neg (by simp)]
    refine ⟨by simp, by simp, fun c' X hc hX _ => ?_⟩
    rw [hf]
    refine k _ _ (.inr ⟨B.length, c', X, by obtain ⟨M, rfl⟩ := hE; simp, rfl, by simp, by simpa using hc, by simpa using hX⟩) (hE.app _)
  · have ho := lt_get h3
    simp only [h3]
    refine ⟨trivial, ?_⟩
    split
    · rename_i hlt
      simp only [List.length_cons, List.length_nil] at hlt
      refine ⟨by simp; omega, ?_⟩
      rw [hf]
      refine k _ _ (.inr ⟨o, c, X.drop 1, h1, by simp, ?_, by simp; omega, by simp; omega⟩) (hE.set h1 _)
      rw [List.getElem?_set_self ho]
      have e1 : (L.map D.str ++ X).take (0 + L.length * 1) = L.map D.str := by rw [List.take_left' (by simp)]
      have e2 : (L.map D.str ++ X).drop (0 + (L.length + 1) * 1) = X.drop 1 := by
        rw [List.drop_append, List.drop_of_length_le (by simp)]; simp
      simp only [List.length_cons, List.length_nil, Nat.zero_add] at e1 e2 ⊢
      rw [e1, e2]
      simp
    · refine ⟨trivial, by simp, by simp; omega, by simp; omega, fun c' X' hc hX _ => ?_⟩
      rw [hf]
      have e1 : (L.map D.str ++ X).take (L.length * 1) = L.map D.str := by rw [List.take_left' (by simp)]
      rw [e1]
      refine k _ _ (.inr ⟨B.length, c', X', by obtain ⟨M, rfl⟩ := hE; simp, ?_, ?_, by simpa using hc, by simpa using hX⟩) ((hE.set h1 _).app _)
      · simp
      · rw [List.getElem?_append_right (by simp)]; simp
theorem OutS.len {n : Nat} {B : Hp} {d : D} {L : List Sb} (h : OutS n B d L) : lenD d = some L.length := by
  rcases h with ⟨rfl, rfl⟩ | ⟨o, _, _, _, rfl, _⟩ <;> rfl
end GP
