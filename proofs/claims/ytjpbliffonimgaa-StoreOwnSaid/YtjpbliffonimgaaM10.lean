import Derived.JoinedOf
import Derived.Laws.IdiomArrays
import Derived.Test.YtjpbliffonimgaaProg
import Derived.Test.YtjpbliffonimgaaRows
import Derived.Test.YtjpbliffonimgaaM5
import Derived.Test.YtjpbliffonimgaaM9
set_option linter.unusedSimpArgs false
set_option linter.unnecessarySimpa false
set_option linter.unusedSectionVars false
namespace GP
open Go Go.Proofs
set_option maxRecDepth 100000
variable [HasG Try.prog]
def Fr (S : List Nat) (H B : Hp) : Prop := H.length ≤ B.length ∧ ∀ o, o < H.length → o ∉ S → B[o]? = H[o]?
theorem Fr.refl (S : List Nat) (H : Hp) : Fr S H H := ⟨Nat.le_refl _, fun _ _ _ => rfl⟩
theorem Fr.ext (S : List Nat) {H B : Hp} (h : Ext H B) : Fr S H B := by
  obtain ⟨L, rfl⟩ := h
  exact ⟨by simp, fun o ho _ => List.getElem?_append_left ho⟩
theorem Fr.trans {S S' : List Nat} {A B C : Hp} (h : Fr S A B) (k : Fr S' B C) (hs : ∀ o ∈ S', o ∈ S ∨ A.length ≤ o) : Fr S A C :=
  ⟨Nat.le_trans h.1 k.1, fun o ho hn => by
    rw [k.2 o (Nat.lt_of_lt_of_le ho h.1) fun hm => by
      rcases hs o hm with h' | h'
      · exact hn h'
      · omega]
    exact h.2 o ho hn⟩
theorem lt_get {H : Hp} {i : Nat} {x : Ob} (h : H[i]? = some x) : i < H.length := by
  rcases Nat.lt_or_ge i H.length with h' | h'
  · exact h'
  · rw [List.getElem?_eq_none h'] at h; cases h
def Sr (H : Hp) (o : Nat) (d : D) (xs : List D) : Prop := (d = .nils ∧ xs = []) ∨ ∃ c X, d = .ms true 7 o 0 xs.length c ∧ H[o]? = some (.row (flatD xs ++ X)) ∧ xs.length ≤ c ∧ X.length = (c - xs.length) * 7
theorem Sr.mono {H B : Hp} {o : Nat} {d : D} {xs : List D} (h : Sr H o d xs) (e : d ≠ .nils → B[o]? = H[o]?) : Sr B o d xs := by
  rcases h with ⟨rfl, rfl⟩ | ⟨c, X, rfl, h1, h2, h3⟩
  · exact .inl ⟨rfl, rfl⟩
  · exact .inr ⟨c, X, rfl, by rw [e (by simp)]; exact h1, h2, h3⟩
theorem Sr.cell {H : Hp} {o : Nat} {d : D} {xs : List D} (h : Sr H o d xs) : d.okc = true ∧ d.cells = [d] ∧ d.erase = d ∧ okD d = true ∧ lenD d = some xs.length := by
  rcases h with ⟨rfl, rfl⟩ | ⟨c, X, rfl, _⟩ <;> exact ⟨rfl, rfl, rfl, rfl, rfl⟩
theorem Sr.src {H : Hp} {o : Nat} {d : D} {xs : List D} (h : Sr H o d xs) (hag : isAg 7 xs) : appSrcM H false 7 d = some xs := by
  rcases h with ⟨rfl, rfl⟩ | ⟨c, X, rfl, h1, h2, h3⟩
  · rfl
  · simp only [appSrcM, h1, List.drop_zero]
    rw [if_pos ⟨trivial, trivial, by rw [List.length_append, hag.flat]; omega, .inl trivial⟩, chunk_flat _ _ hag]
theorem F_take {xs X : List D} (h : isAg 7 xs) {i : Nat} (hi : i ≤ xs.length) : (flatD xs ++ X).take (i * 7) = flatD (xs.take i) := by
  rw [List.take_append_of_le_length (by rw [h.flat]; omega), flatD_take xs i h.len]
theorem F_drop {xs X : List D} (h : isAg 7 xs) {i : Nat} (hi : i ≤ xs.length) : (flatD xs ++ X).drop (i * 7) = flatD (xs.drop i) ++ X := by
  rw [List.drop_append_of_le_length (by rw [h.flat]; omega), flatD_drop xs i h.len]
theorem chunk_fit : ∀ (n : Nat) (cs : List D), n * 7 ≤ cs.length → (chunk true 7 n cs).all (fit 7) = true
  | 0, _, _ => rfl
  | n + 1, cs, h => by
    simp only [chunk, List.all_cons, Bool.and_eq_true]
    refine ⟨?_, chunk_fit n _ (by rw [List.length_drop]; omega)⟩
    simp only [if_true, fit, D.okc, D.cells, Bool.true_and, beq_iff_eq, List.length_take]
    omega
theorem chunk_tk {sz : Nat} : ∀ (n m : Nat) (cs : List D), m ≤ n → (chunk true sz n cs).take m = chunk true sz m cs
  | _, 0, _, _ => by simp [chunk]
  | n + 1, m + 1, cs, h => by simp only [chunk, List.take_succ_cons, chunk_tk n m _ (by omega)]
def nlB : D → Bool
  | .nils => true
  | _ => false
set_option maxHeartbeats 8000000 in
theorem ins_snd {d x : D} {xs : List D} {o i : Nat} {H : Hp} {T : Tk} {Q : Post} (hs : Sr H o d xs) (hx : ∀ y ∈ xs, isRw y) (hxr : isRw x) (hl : xs.length ≤ 1000) (hi : i ≤ xs.length)
    (k : ∀ H' o' d', Sr H' o' d' (xs.take i ++ x :: xs.drop i) → d' ≠ .nils → (o' = o ∧ d ≠ .nils ∨ H.length ≤ o') → Fr (if nlB d then [] else [o]) H H' → Q d' H' T) :
    Snd Try.prog 62 [d, .int .i64 (i : Int), .sl none [x]] H T Q := by
  have hM : MonoH [(102, φ102)] := .cons φ102_mono .nil
  refine call_of fn62 (by simp) (W_mono (X := XG Try.prog [103] [] [(102, φ102)] [] []) (XG.X .nil (.cons ok102 .nil) .nil .nil) (fun _ _ h => h) ?_)
  have hag := rows_ag hx
  have hagx : isAg 7 [x] := rows_ag fun y hy => by rw [List.mem_singleton.1 hy]; exact hxr
  have hfx := hagx.fit
  have hFx : (flatD [x]).length = 7 := by rw [hagx.flat]; rfl
  have xer := isRw_erase hxr
  have hfl := hag.flat
  rcases hs with ⟨rfl, rfl⟩ | ⟨c, X, rfl, ho, hc, hX⟩
  · have : i = 0 := by simpa using hi
    subst this
    have e0 : ((0 : Int) == 0) = true := rfl
    have e1 : ((1 : Int) == 0) = false := rfl
    have s0 : slc 7 (some 0) (some 0) .nils = some .nils := rfl
    simp +contextual (maxSteps := 10000000) only [c62, e0, e1, s0, go_sem, W_draw]
    refine ⟨hfx, ?_⟩
    simp only
    rw [if_neg (by simp)]
    refine ⟨by simp, by simp, fun c' X h1 h2 _ => ?_⟩
    simp +contextual (maxSteps := 10000000) only [go_sem, W_draw]
    refine k _ H.length _ (.inr ⟨c', X, rfl, ?_, by simpa using h1, by simpa using h2⟩) (by simp) (.inr (Nat.le_refl _)) (Fr.ext _ (Ext.of _ _))
    simp
  · have hlo := lt_get ho
    obtain ⟨n, hn⟩ : ∃ n, xs.length = n := ⟨_, rfl⟩
    rw [hn] at hl hi hc hX hfl ⊢
    have e1 : ((1 : Int) == 0) = false := rfl
    obtain ⟨dd, hdd⟩ : ∃ dd, slc 7 (some (i : Int)) (some (n : Int)) (.ms true 7 o 0 n c) = some dd := by
      simp only [slc]
      by_cases h : i < c
      · rw [if_pos ⟨by omega, by omega, by omega, by omega, trivial⟩]; exact ⟨_, rfl⟩
      · rw [if_neg (by omega), if_pos ⟨by omega, by omega, by omega, by omega⟩]; exact ⟨_, rfl⟩
    by_cases hin : i = n
    · subst hin
      have en : ((i : Int) == (i : Int)) = true := by simp
      have hins : xs.take i ++ x :: xs.drop i = xs ++ [x] := by rw [List.take_of_length_le (by omega), List.drop_eq_nil_of_le (by omega)]
      rw [hins] at k
      simp +contextual (maxSteps := 10000000) only [c62, e1, hdd, en, go_sem, W_draw]
      refine ⟨hfx, ?_⟩
      simp only [ho]
      refine ⟨trivial, ?_⟩
      simp only [List.length_cons, List.length_nil, Nat.zero_add]
      by_cases hroom : i + 1 ≤ c
      · rw [if_pos hroom]
        refine ⟨by rw [List.length_append, hfl, hX]; omega, ?_⟩
        simp +contextual (maxSteps := 10000000) only [go_sem, W_draw]
        refine k _ o _ (.inr ⟨c, X.drop 7, by simp [hn], ?_, by simp [hn]; omega, by rw [List.length_drop, hX]; simp [hn]; omega⟩) (by simp) (.inl ⟨rfl, by simp⟩) ⟨by simp, fun o' _ hno => ?_⟩
        · rw [List.getElem?_set_self hlo, List.take_left' hfl, show (i + 1) * 7 = i * 7 + 7 by omega, ← List.drop_drop, List.drop_left' hfl, flatD_append, List.append_assoc]
        · simp only [nlB, Bool.false_eq_true, if_false, List.mem_singleton] at hno
          rw [List.getElem?_set_ne (Ne.symm hno)]
      · rw [if_neg hroom]
        refine ⟨trivial, by rw [List.length_append, hfl]; omega, by omega, by omega, fun c' X' h1 h2 _ => ?_⟩
        simp +contextual (maxSteps := 10000000) only [go_sem, W_draw]
        refine k _ H.length _ (.inr ⟨c', X', by simp [hn], ?_, by simp [hn]; omega, by simp [hn, h2]⟩) (by simp) (.inr (Nat.le_refl _)) ⟨by simp, fun o' hlt hno => ?_⟩
        · rw [List.take_left' hfl, flatD_append, List.getElem?_append_right (by simp)]; simp
        · simp only [nlB, Bool.false_eq_true, if_false, List.mem_singleton] at hno
          rw [List.getElem?_append_left (by simpa using hlt), List.getElem?_set_ne (Ne.symm hno)]
    · have hlt : i < n := by omega
      have en : ((i : Int) == (n : Int)) = false := by rw [beq_eq_false_iff_ne]; omega
      have w1 : IntKind.i64.wrap ((n : Int) + 1) = ((n + 1 : Nat) : Int) := by rw [wrap_inY (by omega) (by omega)]; omega
      have w2 : IntKind.i64.wrap ((i : Int) + 1) = ((i + 1 : Nat) : Int) := by rw [wrap_inY (by omega) (by omega)]; omega
      have w3 : IntKind.i64.wrap (((n + 1 : Nat) : Int) - (i : Int)) = ((n + 1 - i : Nat) : Int) := by rw [wrap_inY (by omega) (by omega)]; omega
      have F1 : (flatD xs ++ X).take (i * 7) = flatD (xs.take i) := F_take hag (by omega)
      have F2 : (flatD xs ++ X).drop (i * 7) = flatD (xs.drop i) ++ X := F_drop hag (by omega)
      have F3 : (flatD xs ++ X).take ((i + 1) * 7) = flatD (xs.take (i + 1)) := F_take hag (by omega)
      have agd : isAg 7 (xs.drop i) := hag.sub fun y hy => List.mem_of_mem_drop hy
      have agt : isAg 7 (xs.take i) := hag.sub fun y hy => List.mem_of_mem_take hy
      have hld : (xs.drop i).length = n - i := by rw [List.length_drop]; omega
      have hlt' : (flatD (xs.take i)).length = i * 7 := by rw [agt.flat, List.length_take]; congr 1; omega
      have hldf : (flatD (xs.drop i)).length = (n - i) * 7 := by rw [agd.flat, hld]
      by_cases hroom : n + 1 ≤ c
      · have dr : decide ((c : Int) < ((n + 1 : Nat) : Int)) = false := decide_eq_false (by omega)
        have s1 : slc 7 (some 0) (some ((n + 1 : Nat) : Int)) (.ms true 7 o 0 n c) = some (.ms true 7 o 0 (n + 1) c) := by
          simp only [slc]
          rw [if_neg (by omega), if_neg (by omega), if_pos ⟨by omega, by omega, by omega, by omega, trivial⟩]
          simp
        have s2 := slc_msN (ag := true) (sz := 7) (o := o) (off := 0) (n := n + 1) (cap := c) (l := i + 1) (h := n + 1) (by omega) (Nat.le_refl _) (by omega)
        have s3 := slc_msN (ag := true) (sz := 7) (o := o) (off := 0) (n := n + 1) (cap := c) (l := i) (h := n + 1) (by omega) (Nat.le_refl _) (by omega)
        rw [Nat.zero_add] at s2 s3
        have p102 : φ102 H [.sl none [x], .ms true 7 o ((i + 1) * 7) (n + 1 - (i + 1)) (c - (i + 1))] = some (.bool false) := by
          simp only [φ102]
          rw [if_pos ⟨by obtain ⟨r, rfl, _⟩ := hxr; rfl, _, ho, by rw [List.length_append, hfl, hX]; omega⟩]
        have src : appSrcM H false 7 (.ms true 7 o (i * 7) (n + 1 - i) (c - i)) = some (chunk true 7 (n + 1 - i) (flatD (xs.drop i) ++ X)) := by
          simp only [appSrcM, ho]
          rw [if_pos ⟨trivial, trivial, by rw [List.length_append, hfl, hX]; omega, .inl trivial⟩, F2]
        simp +contextual (maxSteps := 10000000) only [c62, e1, hdd, en, w1, w2, dr, s1, s2, s3, p102, xer, pcallG hM, lookH_cons, lookH_nil, orK_n, orK_s, src, go_sem, W_draw]
        refine ⟨chunk_fit _ _ (by rw [List.length_append, hldf, hX]; omega), ?_⟩
        have em : min (n + 1 - i) (n + 1 - (i + 1)) = n - i := by omega
        have hck : chunk true 7 (n - i) (flatD (xs.drop i) ++ X) = xs.drop i := by rw [← hld]; exact chunk_flat _ _ agd
        simp only [ho, chunk_len]
        rw [em, chunk_tk _ _ _ (by omega), hck, F3, show (i + 1) * 7 + (n - i) * 7 = n * 7 + 7 by omega, ← List.drop_drop, List.drop_left' hfl]
        refine ⟨trivial, by rw [List.length_append, hfl, hX]; omega, ?_⟩
        have agt1 : isAg 7 (xs.take (i + 1)) := hag.sub fun y hy => List.mem_of_mem_take hy
        have hl1 : (flatD (xs.take (i + 1))).length = i * 7 + 7 := by rw [agt1.flat, List.length_take, Nat.min_eq_left (by omega)]; omega
        obtain ⟨R, hR⟩ : ∃ R, flatD (xs.take (i + 1)) ++ flatD (xs.drop i) ++ X.drop 7 = R := ⟨_, rfl⟩
        have R1 : R.take (i * 7) = flatD (xs.take i) := by
          rw [← hR, List.append_assoc, List.take_append_of_le_length (by omega), flatD_take _ i agt1.len, List.take_take, Nat.min_eq_left (by omega)]
        have R2 : R.drop (i * 7 + 7) = flatD (xs.drop i) ++ X.drop 7 := by
          rw [← hR, List.append_assoc, List.drop_left' hl1]
        have Rl : R.length = c * 7 := by
          rw [← hR, List.length_append, List.length_append, hl1, hldf, List.length_drop, hX]; omega
        rw [hR]
        have hg : (H.set o (Ob.row R))[o]? = some (.row R) := List.getElem?_set_self hlo
        simp +contextual (maxSteps := 10000000) only [s3, go_sem, W_draw]
        refine ⟨hfx, ?_⟩
        simp only [hg, List.length_cons, List.length_nil, Nat.zero_add]
        rw [Nat.min_eq_left (by omega : 1 ≤ n + 1 - i), List.take_of_length_le (l := [x]) (i := 1) (by simp), Nat.one_mul, R1, R2]
        refine ⟨trivial, by rw [Rl]; omega, ?_⟩
        simp +contextual (maxSteps := 10000000) only [go_sem, W_draw]
        rw [List.set_set]
        refine k _ o _ (.inr ⟨c, X.drop 7, by simp [hn, hld]; omega, ?_, by simp [hn, hld]; omega, by rw [List.length_drop, hX]; simp [hn, hld]; omega⟩) (by simp) (.inl ⟨rfl, by simp⟩) ⟨by simp, fun o' _ hno => ?_⟩
        · rw [List.getElem?_set_self hlo]
          congr 2
          have : x :: xs.drop i = [x] ++ xs.drop i := rfl
          rw [this, flatD_append, flatD_append]; simp
        · simp only [nlB, Bool.false_eq_true, if_false, List.mem_singleton] at hno
          rw [List.getElem?_set_ne (Ne.symm hno)]
      · have dr : decide ((c : Int) < ((n + 1 : Nat) : Int)) = true := decide_eq_true (by omega)
        have s1 := slc_ms0 (ag := true) (sz := 7) (o := o) (off := 0) (n := n) (cap := c) (h := i) (by omega) (by omega)
        simp +contextual (maxSteps := 10000000) only [c62, e1, hdd, en, w1, w2, w3, dr, s1, go_sem, W_draw]
        have hcn : c = n := by omega
        subst hcn
        refine ⟨by omega, rfl, ?_⟩
        have ei : i + (c + 1 - i) = c + 1 := by omega
        simp only [ho, Int.toNat_natCast, List.drop_zero]
        rw [F1, ei]
        refine ⟨trivial, by omega, by rw [List.length_append, hfl]; omega, by omega, by omega, fun c' hc' => ?_⟩
        obtain ⟨Z, hZ⟩ : ∃ Z, (List.replicate (c' - i) [D.str [], D.str [], D.str [], D.int .i64 0, D.int .i64 0, D.str [], D.nils]).flatten = Z := ⟨_, rfl⟩
        have hZl : Z.length = (c' - i) * 7 := by rw [← hZ]; simp
        rw [hZ]
        have s2 := slc_msN (ag := true) (sz := 7) (o := H.length) (off := 0) (n := c + 1) (cap := c') (l := i) (h := c + 1) (by omega) (Nat.le_refl _) (by omega)
        have s3 := slc_msN (ag := true) (sz := 7) (o := H.length) (off := 0) (n := c + 1) (cap := c') (l := i + 1) (h := c + 1) (by omega) (Nat.le_refl _) (by omega)
        have s4 := slc_msN (ag := true) (sz := 7) (o := o) (off := 0) (n := c) (cap := c) (l := i) (h := c) (by omega) (Nat.le_refl _) (by omega)
        rw [Nat.zero_add] at s2 s3 s4
        have hg : (H ++ [Ob.row (flatD (xs.take i) ++ Z)])[H.length]? = some (.row (flatD (xs.take i) ++ Z)) := by simp
        simp +contextual (maxSteps := 10000000) only [s2, go_sem, W_draw]
        refine ⟨hfx, ?_⟩
        simp only [hg, List.length_cons, List.length_nil, Nat.zero_add]
        rw [Nat.min_eq_left (by omega : 1 ≤ c + 1 - i), List.take_of_length_le (l := [x]) (i := 1) (by simp), Nat.one_mul, List.take_left' hlt', ← List.drop_drop, List.drop_left' hlt']
        refine ⟨trivial, by rw [List.length_append, hlt', hZl]; omega, ?_⟩
        obtain ⟨R, hR⟩ : ∃ R, flatD (xs.take i) ++ flatD [x] ++ Z.drop 7 = R := ⟨_, rfl⟩
        rw [hR]
        have hset : (H ++ [Ob.row (flatD (xs.take i) ++ Z)]).set H.length (Ob.row R) = H ++ [Ob.row R] := by simp
        rw [hset]
        have src : appSrcM (H ++ [Ob.row R]) false 7 (.ms true 7 o (i * 7) (c - i) (c - i)) = some (xs.drop i) := by
          have ho' : (H ++ [Ob.row R])[o]? = some (.row (flatD xs ++ X)) := (Ext.of H _).get ho
          simp only [appSrcM, ho']
          rw [if_pos ⟨trivial, trivial, by rw [List.length_append, hfl]; omega, .inl trivial⟩, F2, ← hld, chunk_flat _ _ agd]
        have hg2 : (H ++ [Ob.row R])[H.length]? = some (.row R) := by simp
        have hl2 : (flatD (xs.take i) ++ flatD [x]).length = (i + 1) * 7 := by rw [List.length_append, hlt', hFx]; omega
        have R1 : R.take ((i + 1) * 7) = flatD (xs.take i) ++ flatD [x] := by rw [← hR, List.take_left' hl2]
        have R2 : R.drop ((i + 1) * 7) = Z.drop 7 := by rw [← hR, List.drop_left' hl2]
        have Rl : R.length = (i + 1) * 7 + ((c' - i) * 7 - 7) := by rw [← hR, List.length_append, hl2, List.length_drop, hZl]
        simp +contextual (maxSteps := 10000000) only [s3, s4, w2, src, go_sem, W_draw]
        refine ⟨agd.fit, ?_⟩
        simp only [hg2, hld]
        rw [Nat.min_eq_left (by omega : c - i ≤ c + 1 - (i + 1)), List.take_of_length_le (by omega : (xs.drop i).length ≤ c - i), R1, ← List.drop_drop, R2, List.drop_drop]
        refine ⟨trivial, by rw [Rl]; omega, ?_⟩
        simp +contextual (maxSteps := 10000000) only [go_sem, W_draw]
        refine k _ H.length _ (.inr ⟨c', Z.drop (7 + (c - i) * 7), by simp [hn, hld]; omega, ?_, by simp [hn, hld]; omega, by rw [List.length_drop, hZl]; simp [hn, hld]; omega⟩) (by simp) (.inr (Nat.le_refl _)) ⟨by simp, fun o' hlt2 hno => ?_⟩
        · rw [List.getElem?_set_self (by simp)]
          congr 2
          have : x :: xs.drop i = [x] ++ xs.drop i := rfl
          rw [this, flatD_append, flatD_append]; simp
        · rw [List.getElem?_set_ne (by omega), List.getElem?_append_left hlt2]
end GP
namespace GP
open Go Go.Proofs
set_option maxRecDepth 100000
variable [HasG Try.prog]
set_option maxHeartbeats 4000000 in
theorem del_snd {d : D} {xs : List D} {o i : Nat} {H : Hp} {T : Tk} {Q : Post} (hs : Sr H o d xs) (hx : ∀ y ∈ xs, isRw y) (hl : xs.length ≤ 1000) (hi : i < xs.length)
    (k : ∀ H' d', Sr H' o d' (xs.take i ++ xs.drop (i + 1)) → d' ≠ .nils → Fr [o] H H' → Q d' H' T) :
    Snd Try.prog 64 [d, .int .i64 (i : Int), .int .i64 ((i + 1 : Nat) : Int)] H T Q := by
  refine call_of fn64 (by simp) (W_mono (X := XL []) (Ok.X .nil) (fun _ _ h => h) ?_)
  have hag := rows_ag hx
  have hfl := hag.flat
  rcases hs with ⟨rfl, rfl⟩ | ⟨c, X, rfl, ho, hc, hX⟩
  · simp at hi
  · have hlo := lt_get ho
    obtain ⟨n, hn⟩ : ∃ n, xs.length = n := ⟨_, rfl⟩
    have F1 : (flatD xs ++ X).take (i * 7) = flatD (xs.take i) := F_take hag (by omega)
    have F2 : (flatD xs ++ X).drop ((i + 1) * 7) = flatD (xs.drop (i + 1)) ++ X := F_drop hag (by omega)
    rw [hn] at hl hi hc hX hfl ⊢
    have agd : isAg 7 (xs.drop (i + 1)) := hag.sub fun y hy => List.mem_of_mem_drop hy
    have agt : isAg 7 (xs.take i) := hag.sub fun y hy => List.mem_of_mem_take hy
    have hld : (xs.drop (i + 1)).length = n - (i + 1) := by rw [List.length_drop]; omega
    have hlt' : (flatD (xs.take i)).length = i * 7 := by rw [agt.flat, List.length_take]; congr 1; omega
    have hldf : (flatD (xs.drop (i + 1))).length = (n - (i + 1)) * 7 := by rw [agd.flat, hld]
    have s3 : slc3 7 (some (i : Int)) (some ((i + 1 : Nat) : Int)) (some (n : Int)) (.ms true 7 o 0 n c) = some (.ms true 7 o (0 + i * 7) 1 (n - i)) := by
      simp only [slc3]
      rw [if_neg (by omega), if_pos ⟨by omega, by omega, by omega, by omega, by omega, trivial⟩]
      have e1 : (((i + 1 : Nat) : Int) - (i : Int)).toNat = 1 := by omega
      have e2 : ((n : Int) - (i : Int)).toNat = n - i := by omega
      rw [e1, e2]; simp
    have s1 := slc_ms0 (ag := true) (sz := 7) (o := o) (off := 0) (n := n) (cap := c) (h := i) (by omega) (by omega)
    obtain ⟨d2, s2, src⟩ : ∃ d2, slc 7 (some ((i + 1 : Nat) : Int)) (some (n : Int)) (.ms true 7 o 0 n c) = some d2 ∧ appSrcM H false 7 d2 = some (xs.drop (i + 1)) := by
      by_cases h : i + 1 < c
      · refine ⟨_, slc_msN (by omega) (by omega) h, ?_⟩
        simp only [appSrcM, ho]
        rw [if_pos ⟨trivial, trivial, by rw [List.length_append, hfl, hX]; omega, .inl trivial⟩, Nat.zero_add, F2, ← hld, chunk_flat _ _ agd]
      · have e : xs.drop (i + 1) = [] := List.drop_eq_nil_of_le (by omega)
        refine ⟨.sl none [], ?_, by rw [e]; rfl⟩
        simp only [slc]
        rw [if_neg (by omega), if_pos ⟨by omega, by omega, by omega, by omega⟩]
    have d1 : ((i : Int) == ((i + 1 : Nat) : Int)) = false := by rw [beq_eq_false_iff_ne]; omega
    have s4 : slc 7 (some (((n - 1 : Nat) : Int))) (some (n : Int)) (.ms true 7 o 0 (n - 1) c) = some (.ms true 7 o (0 + (n - 1) * 7) 1 (c - (n - 1))) := by
      simp only [slc]
      rw [if_neg (by omega), if_neg (by omega), if_pos ⟨by omega, by omega, by omega, by omega, trivial⟩]
      simp; omega
    simp +contextual (maxSteps := 10000000) only [c64, s3, s1, s2, src, d1, go_sem, W_draw]
    refine ⟨agd.fit, ?_⟩
    simp only [ho, hld]
    refine ⟨trivial, ?_⟩
    rw [if_pos (by omega), show i + (n - (i + 1)) = n - 1 by omega]
    simp only [Nat.zero_add]
    rw [F1]
    refine ⟨by rw [List.length_append, hfl, hX]; omega, ?_⟩
    obtain ⟨R, hR⟩ : ∃ R, flatD (xs.take i) ++ flatD (xs.drop (i + 1)) ++ (flatD xs ++ X).drop ((n - 1) * 7) = R := ⟨_, rfl⟩
    have hl2 : (flatD (xs.take i) ++ flatD (xs.drop (i + 1))).length = (n - 1) * 7 := by rw [List.length_append, hlt', hldf]; omega
    have R1 : R.take ((n - 1) * 7) = flatD (xs.take i) ++ flatD (xs.drop (i + 1)) := by rw [← hR, List.take_left' hl2]
    have R2 : R.drop ((n - 1) * 7 + 7) = X := by
      rw [← hR, ← List.drop_drop, List.drop_left' hl2, List.drop_drop, show (n - 1) * 7 + 7 = n * 7 by omega, List.drop_left' hfl]
    have Rl : R.length = c * 7 := by
      rw [← hR, List.length_append, hl2, List.length_drop, List.length_append, hfl, hX]; omega
    rw [hR]
    have hg : (H.set o (Ob.row R))[o]? = some (.row R) := List.getElem?_set_self hlo
    rw [Nat.zero_add] at s4
    simp +contextual (maxSteps := 10000000) only [s4, go_sem, W_draw]
    simp only [clrK, hg]
    refine ⟨rfl, by rw [Rl]; omega, ?_⟩
    simp +contextual (maxSteps := 10000000) only [go_sem, W_draw]
    rw [List.set_set, R1]
    rw [R2]
    have e1 : (List.replicate 1 [D.str [], D.str [], D.str [], D.int .i64 0, D.int .i64 0, D.str [], D.nils]).flatten = [D.str [], D.str [], D.str [], D.int .i64 0, D.int .i64 0, D.str [], D.nils] := rfl
    rw [e1]
    have hlen : (xs.take i ++ xs.drop (i + 1)).length = n - 1 := by rw [List.length_append, List.length_take, hld]; omega
    refine k _ _ (.inr ⟨c, [D.str [], D.str [], D.str [], D.int .i64 0, D.int .i64 0, D.str [], D.nils] ++ X, by rw [hlen], ?_, by omega, by rw [List.length_append, hX, hlen]; simp; omega⟩) (by simp) ⟨by simp, fun o' _ hno => ?_⟩
    · rw [List.getElem?_set_self hlo, flatD_append]
    · rw [List.mem_singleton] at hno
      rw [List.getElem?_set_ne (Ne.symm hno)]
end GP
namespace GP
open Go Go.Proofs
set_option maxRecDepth 100000
variable [HasG Try.prog]
theorem nilc_ptr (o f : Nat) : nilcD (.ptr o f) = some (.ptr o f) := rfl
theorem snd_er {P : Program} [HasG P] {f : FuncId} {args args' : List D} {H : Hp} {T : Tk} {Q : Post} (he : D.eraseL args' = args) (h : Snd P f args H T Q) : Snd P f args' H T Q := fun c w vs hg k1 k2 k3 =>
  h c w vs hg k1 k2 (by rw [← he]; exact k3.erase)
structure StoS (H : Hp) (p : Nat) (S : List Nat) (fs : D) (xs : List D) : Prop where
  low : ∀ o ∈ S, o < H.length
  pS : p ∈ S
  hF : isLs isF fs
  kind : kindsOk (elems fs)
  rws : ∀ x ∈ xs, isRw x
  ris : Ris ordD xs
  len : xs.length ≤ 120
  own : ∃ o d, o ∈ S ∧ H[p]? = some (.row [fs, d]) ∧ Sr H o d xs
theorem Sr.ne {H : Hp} {o p : Nat} {fs d : D} {xs : List D} (h : Sr H o d xs) (hp : H[p]? = some (.row [fs, d])) (hd : d ≠ .nils) (hag : isAg 7 xs) : o ≠ p := by
  rcases h with ⟨rfl, _⟩ | ⟨c, X, rfl, h1, h2, h3⟩
  · exact absurd rfl hd
  · rintro rfl
    rw [h1] at hp
    injection hp with hp; injection hp with hp
    have := congrArg List.length hp
    rw [List.length_append, hag.flat, h3] at this
    simp at this; omega
def Stp (H B : Hp) (p : Nat) (S : List Nat) (fs : D) (xs : List D) : Prop := ∃ S', StoS B p S' fs xs ∧ Fr S H B ∧ ∀ o ∈ S', o ∈ S ∨ H.length ≤ o
theorem StoS.fr {H B : Hp} {p : Nat} {S S2 : List Nat} {fs : D} {xs : List D} (h : StoS H p S fs xs) (hf : Fr S2 H B) (hd : ∀ o ∈ S, o ∉ S2) : StoS B p S fs xs := by
  obtain ⟨o, d, h1, h2, h3⟩ := h.own
  exact { h with low := fun o ho => Nat.lt_of_lt_of_le (h.low o ho) hf.1, own := ⟨o, d, h1, by rw [hf.2 p (h.low p h.pS) (hd p h.pS)]; exact h2, h3.mono fun _ => hf.2 o (h.low o h1) (hd o h1)⟩ }
theorem StoS.stay {H B : Hp} {p : Nat} {S : List Nat} {fs : D} {xs : List D} (h : StoS H p S fs xs) (hE : Ext H B) : Stp H B p S fs xs := ⟨S, h.fr (Fr.ext [] hE) (by simp), Fr.ext S hE, fun o ho => .inl ho⟩
theorem Stp.trans {H B C : Hp} {p : Nat} {S S' : List Nat} {fs : D} {xs : List D} (h : Fr S H B) (h2 : ∀ o ∈ S', o ∈ S ∨ H.length ≤ o) (k : Stp B C p S' fs xs) : Stp H C p S fs xs := by
  obtain ⟨S2, k1, k2, k3⟩ := k
  refine ⟨S2, k1, h.trans k2 h2, fun o ho => ?_⟩
  rcases k3 o ho with h' | h'
  · exact h2 o h'
  · exact .inr (Nat.le_trans h.1 h')
def errP (fs xs : List D) (x : D) : Int := if badR x then 1 else if fitR fs x != 0 then fitR fs x else if !(Ord.has ordD x xs) && decide (120 ≤ xs.length) then 13 else 0
theorem fit_badR {fs : List D} (hk : kindsOk fs) {x : D} (hx : isRw x) (hb : badR x = false) : fitI fs x = fitR fs x := by
  unfold badR at hb
  simp only [Bool.or_eq_false_iff, Bool.not_eq_false', beq_eq_false_iff_ne] at hb
  exact fit_same hk hx hb.1.2 hb.2
theorem cl_fs {fs : D} (h : isLs isF fs) (hl : (elems fs).length ≤ 2 ^ 30) : φcl 4 [fs] = some fs := by
  obtain ⟨n, xs, rfl, _, hx⟩ := h
  rw [elems_sliceD] at hl
  have hc := isLs_cl (fs := .sl none xs) ⟨false, xs, rfl, by omega, hx⟩
  simp only [D.cl] at hc
  have hc : D.clL 0 0 xs = true := by simpa using hc
  have hag : isAg 4 xs := fun y hy => by
    obtain ⟨w, m, kk, b, rfl, _⟩ := hx y hy
    exact ⟨_, rfl, rfl⟩
  rcases sliceD_cases n xs with ⟨e, _⟩ | e
  · rw [e]; rfl
  · rw [e]
    simp only [φcl]
    rw [if_pos ⟨hag.fit, hc, eraseL_id fun x h => isF_erase (hx x h), hl⟩]
theorem new_snd {fs : D} {H : Hp} {T : Tk} {Q : Post} (hf : isLs isF fs) (hk : kindsOk (elems fs)) (hl : (elems fs).length ≤ 2 ^ 30) (k : ∀ B p U, Ext H B → H.length ≤ p → StoS B p [p] fs [] → Q (.ptr p 0) B (T ++ U)) : Snd Try.prog 20 [fs] H T Q := by
  refine call_of fn20 (by simp) (W_mono (X := XL [(58, φcl 4)]) (Ok.X (.cons ok58i .nil)) (fun _ _ h => h) ?_)
  have pc := cl_fs hf hl
  obtain ⟨ef, of, cf⟩ := isF_lc hf
  simp +contextual (maxSteps := 10000000) only [c20, pc, ef, of, cf, go_sem, W_draw]
  rw [← List.append_nil T]
  refine k _ H.length [] (Ext.of _ _) (Nat.le_refl _) { low := by simp, pS := by simp, hF := hf, kind := hk, rws := by simp, ris := by simp [Ris], len := by simp, own := ⟨H.length, .nils, by simp, by simp, .inl ⟨rfl, rfl⟩⟩ }
end GP
namespace GP
open Go Go.Proofs
set_option maxRecDepth 100000
variable [HasG Try.prog]
theorem put_len (x : D) {xs : List D} (hr : Ris ordD xs) : (Ord.put ordD x xs).length = xs.length + if Ord.has ordD x xs then 0 else 1 := by
  have h1 := Ord.pos_le (o := ordD) x xs
  unfold Ord.put
  cases h : Ord.has ordD x xs with
  | true =>
    obtain ⟨h3, _⟩ := (Ord.has_at ordD_ord hr).1 h
    simp; omega
  | false => simp; omega
set_option maxHeartbeats 16000000 in
theorem set_snd {p : Nat} {S : List Nat} {fs : D} {xs : List D} {x : D} {H : Hp} {T : Tk} {Q : Post} (h : StoS H p S fs xs) (hxr : isRw x)
    (k : ∀ B U, Stp H B p S fs (if errP (elems fs) xs x = 0 then Ord.put ordD x xs else xs) → Q (.int .i64 (errP (elems fs) xs x)) B (T ++ U)) :
    Snd Try.prog 21 [.ptr p 0, x] H T Q := by
  have hst := h
  have hX := XG_mono (P := Try.prog) [62] [(53, φFormed), (59, φ59)] [(57, φ57), (60, φ60)] [] []
  have hM : MonoH [(57, φ57), (60, φ60)] := .cons φ57_mono (.cons φ60_mono .nil)
  refine call_of fn21 (by simp) (W_mono (X := XG Try.prog [62] [(53, φFormed), (59, φ59)] [(57, φ57), (60, φ60)] [] []) (XG.X (.cons ok53 (.cons ok59 .nil)) (.cons ok57 (.cons ok60 .nil)) .nil .nil) (fun _ _ h => h) ?_)
  obtain ⟨o, d, hoS, hp, hs⟩ := h.own
  have hag := rows_ag h.rws
  have hxr' := hxr
  obtain ⟨r, rfl, hr⟩ := hxr
  obtain ⟨ef, of, cf⟩ := isF_lc h.hF
  obtain ⟨od, cd, ed, okd, ldd⟩ := hs.cell
  have eL := hr.eL
  have p59 : φ59 [fs, rwD r] = some (.int .i64 (fitI (elems fs) (rwD r))) := by simp only [φ59]; rw [if_pos ⟨h.hF, hxr'⟩]
  have p53 : φFormed [mkV r.k r.i r.s r.n r.l] = some (.bool (formedB r.v)) := by
    have hv1 : (mkV r.k r.i r.s r.n r.l).isV = true := hr.v.1
    simp only [φFormed]; rw [if_pos hv1, formed_same]; rfl
  have hpH := h.low p h.pS
  obtain ⟨B, hB⟩ : ∃ B, H ++ [Ob.row [.str r.who, .str r.name, .str r.attr, .int .i64 r.k, .int .i64 r.i, .str r.s, sliceD r.n r.l]] = B := ⟨_, rfl⟩
  have hE0 : Ext H B := by rw [← hB]; exact Ext.of _ _
  have hBl : B.length = H.length + 1 := by rw [← hB]; simp
  have b3 : B[H.length]? = some (.row [.str r.who, .str r.name, .str r.attr, .int .i64 r.k, .int .i64 r.i, .str r.s, sliceD r.n r.l]) := by rw [← hB]; simp
  have bp : B[p]? = some (.row [fs, d]) := hE0.get hp
  have hsB : Sr B o d xs := hs.mono fun hd => by
    rcases hs with ⟨e, _⟩ | ⟨c, X, _, h1, _⟩
    · exact absurd e hd
    · rw [hE0.get h1, h1]
  have g3 := rdAt_of b3
  have gp := rdAt_of bp
  obtain ⟨e, he⟩ : ∃ e, errP (elems fs) xs (rwD r) = e := ⟨_, rfl⟩
  obtain ⟨zs, hzs⟩ : ∃ zs, Ord.put ordD (rwD r) xs = zs := ⟨_, rfl⟩
  rw [he, hzs] at k
  unfold errP at he
  have hfb := fit_badR h.kind hxr'
  obtain ⟨fi, hfi⟩ : ∃ fi, fitI (elems fs) (rwD r) = fi := ⟨_, rfl⟩
  rw [hfi] at p59 hfb
  obtain ⟨bd, hbd⟩ : ∃ b, badR (rwD r) = b := ⟨_, rfl⟩
  rw [hbd] at he hfb
  have hbd : (((r.who != sSub) && (r.who != sRes)) || (r.name == []) || decide (64 < r.name.length) || !formedB r.v || (r.k == 0)) = bd := hbd
  obtain ⟨fb, hfb'⟩ : ∃ b, formedB r.v = b := ⟨_, rfl⟩
  rw [hfb'] at hbd p53
  have stay : ∀ (B' : Hp), Ext H B' → e ≠ 0 → Stp H B' p S fs (if e = 0 then zs else xs) := fun B' hE hne => by
    rw [if_neg hne]; exact hst.stay hE
  have p57 : φ57 B [.sl none [rwD r]] = some (.sl none [rwD r]) := by
    have hsrc : appSrcM B false 7 (.sl none [rwD r]) = some [rwD r] := rfl
    simp only [φ57, hsrc]
    rw [if_pos ⟨fun y hy => by rw [List.mem_singleton.1 hy]; exact hxr', by simp, rfl⟩]
    rfl
  obtain ⟨q, hq⟩ : ∃ q, Ord.pos ordD (rwD r) xs = q := ⟨_, rfl⟩
  obtain ⟨hb, hhb⟩ : ∃ q, Ord.has ordD (rwD r) xs = q := ⟨_, rfl⟩
  have p60 : φ60 B [d, rwD r, .fn 61 [] []] = some (.tup [.int .i64 (q : Int), .bool hb]) := by
    simp only [φ60, hsB.src hag]
    rw [if_pos ⟨h.rws, hxr', by have := h.len; omega, okd, h.ris⟩, hq, hhb]
  have hat := Ord.has_at ordD_ord (x := rwD r) h.ris
  have hpl := Ord.pos_le (o := ordD) (rwD r) xs
  rw [hq] at hat hpl
  rw [hhb] at hat he
  have hzl := put_len (rwD r) h.ris
  rw [hzs, hhb] at hzl
  have hzm : ∀ z ∈ zs, isRw z := fun z hz => by
    rw [← hzs] at hz
    rcases (Ord.put_mem ordD_ord h.ris z).1 hz with rfl | ⟨h1, _⟩
    · exact hxr'
    · exact h.rws z h1
  have hzr : Ris ordD zs := by rw [← hzs]; exact Ord.put_ris ordD_ord h.ris
  simp only [rwD] at p59 p57 p60
  simp only [mkV] at p53
  unfold c21
  refine W_cut (I := fun s' => s'.t 0 = .ptr p 0 ∧ s'.t 3 = .ptr H.length 0 ∧ s'.H = B ∧ s'.T = T) hX ?_ ?_
  · simp +contextual (maxSteps := 10000000) only [rwD, eL, go_sem, W_draw]
    exact hB
  rintro ⟨t, B', U⟩ ⟨r0, r3, rfl, rfl⟩
  simp only at r0 r3 b3 bp hBl hE0 g3 gp hsB p57 p60
  refine W_cut (I := fun s' => bd = false ∧ s'.t 0 = .ptr p 0 ∧ s'.t 3 = .ptr H.length 0 ∧ s'.H = B' ∧ s'.T = U) hX ?_ ?_
  · have fin : bd = true → Q (.int .i64 1) B' U := fun hh => by
      rw [hh, if_pos rfl] at he
      have := k B' [] (stay B' hE0 (by omega))
      rw [List.append_nil, ← he] at this
      exact this
    have w1 : (r.who != sSub) = (r.who != [115, 117, 98, 106, 101, 99, 116]) := rfl
    have w2 : (r.who != sRes) = (r.who != [114, 101, 115, 111, 117, 114, 99, 101]) := rfl
    rw [w1, w2] at hbd
    have l64 : decide ((64 : Int) < (r.name.length : Int)) = decide (64 < r.name.length) := by rw [Bool.eq_iff_iff, decide_eq_true_eq, decide_eq_true_eq]; omega
    have l1 : decide ((r.name.length : Int) < 1) = (r.name == []) := by
      rw [Bool.eq_iff_iff, decide_eq_true_eq, beq_iff_eq, ← List.length_eq_zero_iff]; omega
    obtain ⟨a, ha⟩ : ∃ a, (r.who != [115, 117, 98, 106, 101, 99, 116]) = a := ⟨_, rfl⟩
    obtain ⟨b, hb'⟩ : ∃ a, (r.who != [114, 101, 115, 111, 117, 114, 99, 101]) = a := ⟨_, rfl⟩
    obtain ⟨nn, hn⟩ : ∃ a, (r.name == []) = a := ⟨_, rfl⟩
    obtain ⟨ll, hll⟩ : ∃ a, decide (64 < r.name.length) = a := ⟨_, rfl⟩
    obtain ⟨k0, hk⟩ : ∃ a, (r.k == 0) = a := ⟨_, rfl⟩
    rw [ha, hb', hn, hll, hk] at hbd
    rw [hll] at l64
    rw [hn] at l1
    cases a <;> cases b <;> cases nn <;> cases ll <;> cases fb <;> cases k0 <;> simp only [Bool.not_true, Bool.not_false, Bool.and_true, Bool.and_false, Bool.or_true, Bool.or_false, Bool.true_and, Bool.false_and, Bool.true_or, Bool.false_or, Bool.and_self, Bool.or_self] at hbd <;>
      simp +contextual (maxSteps := 10000000) only [r0, r3, g3, ld, List.take_zero, List.nil_append, List.drop_succ_cons, List.drop_zero, List.head?_cons, ha, hb', l1, l64, hk, p53, pcallG hM, lookH_cons, lookH_nil, orK_n, orK_s, XG_eq, eL, go_sem, W_draw] <;>
      first | exact fin hbd.symm | exact hbd.symm | (subst hbd; rfl)
  rintro ⟨t, B2, U2⟩ ⟨hb0, r0, r3, rfl, rfl⟩
  simp only at r0 r3 b3 bp hBl hE0 g3 gp hsB p57 p60
  rw [hb0] at he
  have hfe := hfb hb0
  simp only [Bool.false_eq_true, if_false] at he
  obtain ⟨f, hff⟩ : ∃ f, fitR (elems fs) (rwD r) = f := ⟨_, rfl⟩
  rw [hff] at hfe he
  rw [hfe] at p59
  rcases tf (f != 0) with c | c
  · rw [c, if_pos rfl] at he
    have hne : f ≠ 0 := by simpa [bne] using c
    simp +contextual (maxSteps := 10000000) only [r0, r3, g3, gp, ld, List.take_zero, List.nil_append, List.drop_succ_cons, List.drop_zero, List.head?_cons, nilc_ptr, p59, c, pcallG hM, lookH_cons, lookH_nil, orK_n, orK_s, XG_eq, eL, ef, of, cf, go_sem, W_draw]
    have := k B2 [] (stay B2 hE0 (by omega))
    rw [List.append_nil, ← he] at this
    exact this
  rw [c] at he
  simp only [Bool.false_eq_true, if_false] at he
  have hself : B2.set H.length (.row [.str r.who, .str r.name, .str r.attr, .int .i64 r.k, .int .i64 r.i, .str r.s, sliceD r.n r.l]) = B2 := by
    apply List.ext_getElem?
    intro j
    by_cases hj : j = H.length
    · subst hj; rw [List.getElem?_set_self (by omega), b3]
    · rw [List.getElem?_set_ne (Ne.symm hj)]
  cases hb with
  | true =>
    obtain ⟨hqx, _⟩ := hat.1 rfl
    have hoB : o < B2.length := Nat.lt_of_lt_of_le (h.low o hoS) (by omega)
    simp only [Bool.not_true, Bool.false_and, Bool.false_eq_true, if_false] at he
    have hzz : zs = xs.set q (rwD r) := by
      rw [← hzs]
      unfold Ord.put
      rw [hq, hhb, List.set_eq_take_append_cons_drop, if_pos hqx]; rfl
    have hop := fun hd => hs.ne hp hd hag
    rcases hsB with ⟨rfl, hx0⟩ | ⟨c1, X, rfl, ho, hc1, hX⟩
    · subst hx0; simp at hqx
    have hop := hop (by simp)
    have i1 := ia_msN (ag := true) (sz := 7) (o := o) (off := 0) (cap := c1) (k := .i64) hqx
    rw [Nat.zero_add] at i1
    simp +contextual (maxSteps := 10000000) only [r0, r3, g3, gp, ld, List.take_zero, List.nil_append, List.drop_succ_cons, List.drop_zero, List.head?_cons, nilc_ptr, p59, p57, p60, c, pcallG hM, lookH_cons, lookH_nil, orK_n, orK_s, XG_eq, eL, ef, of, cf, storeK_E b3, hself, i1, go_sem, W_draw]
    refine st_ms (rest := X) (xs := xs) (i := q) ho hag ⟨_, rfl, rfl⟩ hqx rfl ?_
    simp +contextual (maxSteps := 10000000) only [go_sem, W_draw]
    have hzl' : zs.length = xs.length := by rw [hzz]; simp
    have := k (B2.set o (.row (flatD (xs.set q (D.agg [.str r.who, .str r.name, .str r.attr, .int .i64 r.k, .int .i64 r.i, .str r.s, sliceD r.n r.l])) ++ X))) [some (1, 7)] (by
      rw [if_pos he.symm]
      refine ⟨S, { h with low := fun o' ho' => ?_, rws := hzm, ris := hzr, len := by rw [hzl']; exact h.len, own := ⟨o, .ms true 7 o 0 xs.length c1, hoS, ?_, .inr ⟨c1, X, by rw [hzl'], ?_, by rw [hzl']; exact hc1, by rw [hzl']; exact hX⟩⟩ }, ⟨?_, fun o' hlt hno => ?_⟩, fun o' ho' => .inl ho'⟩
      · have := h.low o' ho'; simp; omega
      · rw [List.getElem?_set_ne hop]; exact bp
      · rw [List.getElem?_set_self hoB, hzz]; rfl
      · simp; omega
      · rw [List.getElem?_set_ne (fun e => hno (by rw [← e]; exact hoS))]
        obtain ⟨L, hL⟩ := hE0
        rw [hL, List.getElem?_append_left hlt])
    rw [← he] at this
    exact this
  | false =>
    simp only [Bool.not_false, Bool.true_and] at he
    have l120 : decide ((120 : Int) ≤ (xs.length : Int)) = decide (120 ≤ xs.length) := by rw [Bool.eq_iff_iff, decide_eq_true_eq, decide_eq_true_eq]; omega
    rcases tf (decide (120 ≤ xs.length)) with c2 | c2
    · rw [c2, if_pos rfl] at he
      rw [c2] at l120
      simp +contextual (maxSteps := 10000000) only [r0, r3, g3, gp, ld, List.take_zero, List.nil_append, List.drop_succ_cons, List.drop_zero, List.head?_cons, nilc_ptr, p59, p57, p60, c, pcallG hM, lookH_cons, lookH_nil, orK_n, orK_s, XG_eq, eL, ef, of, cf, od, cd, ed, ldd, l120, storeK_E b3, hself, go_sem, W_draw]
      have := k B2 [some (1, 7)] (stay B2 hE0 (by omega))
      rw [← he] at this
      exact this
    · rw [c2] at he l120
      simp only [Bool.false_eq_true, if_false] at he
      simp only [decide_eq_false_iff_not] at c2
      simp +contextual (maxSteps := 10000000) only [r0, r3, g3, gp, ld, List.take_zero, List.nil_append, List.drop_succ_cons, List.drop_zero, List.head?_cons, nilc_ptr, p59, p57, p60, c, pcallG hM, lookH_cons, lookH_nil, orK_n, orK_s, XG_eq, eL, ef, of, cf, od, cd, ed, ldd, l120, storeK_E b3, hself, go_sem, W_draw]
      have hxl := h.len
      refine ins_snd (x := rwD r) hsB h.rws hxr' (by omega) (by omega) fun H' o' d' hs' hn' ho' hF' => ?_
      have hzz : xs.take q ++ rwD r :: xs.drop q = zs := by
        rw [← hzs]
        unfold Ord.put
        rw [hq, hhb]; rfl
      rw [hzz] at hs'
      have hpo : p ∉ (if nlB d then [] else [o]) := fun hm => by
        split at hm
        · cases hm
        · rename_i hd
          rw [List.mem_singleton] at hm
          exact hs.ne hp (by rintro rfl; exact hd rfl) hag hm.symm
      have bp' : H'[p]? = some (.row [fs, d]) := by rw [hF'.2 p (by omega) hpo]; exact bp
      obtain ⟨od', cd', _, _, _⟩ := hs'.cell
      have hpo' : o' ≠ p := by
        rcases ho' with ⟨rfl, hd⟩ | h'
        · exact hs.ne hp hd hag
        · omega
      have hlp := lt_get bp'
      simp +contextual (maxSteps := 10000000) only [r0, nilc_ptr, od', cd', storeK_E bp', List.take_zero, List.nil_append, List.drop_succ_cons, List.drop_zero, List.take_succ_cons, go_sem, W_draw]
      have := k (H'.set p (.row [fs, d'])) [some (1, 7)] (by
        rw [if_pos he.symm]
        have hlo' : d' ≠ .nils → o' < H'.length := fun hd => by
          rcases hs' with ⟨e, _⟩ | ⟨_, _, _, h1, _⟩
          · exact absurd e hd
          · exact lt_get h1
        refine ⟨o' :: S, { h with low := fun o1 ho1 => ?_, pS := List.mem_cons_of_mem _ h.pS, rws := hzm, ris := hzr, len := by rw [hzl]; simp; omega, own := ⟨o', d', by simp, by rw [List.getElem?_set_self hlp], hs'.mono fun hd => by rw [List.getElem?_set_ne (Ne.symm hpo')]⟩ }, ⟨?_, fun o1 hlt hno => ?_⟩, fun o1 ho1 => ?_⟩
        · rw [List.length_set]
          rcases List.mem_cons.1 ho1 with rfl | ho1
          · exact hlo' hn'
          · have := h.low o1 ho1; have := hF'.1; omega
        · rw [List.length_set]; have := hF'.1; omega
        · have h1 : o1 ≠ p := fun e => hno (by rw [e]; exact h.pS)
          rw [List.getElem?_set_ne (Ne.symm h1), hF'.2 o1 (by omega) fun hm => by
            split at hm
            · cases hm
            · rw [List.mem_singleton] at hm; exact hno (by rw [hm]; exact hoS)]
          obtain ⟨L, hL⟩ := hE0
          rw [hL, List.getElem?_append_left hlt]
        · rcases List.mem_cons.1 ho1 with rfl | ho1
          · rcases ho' with ⟨rfl, _⟩ | h'
            · exact .inl hoS
            · exact .inr (by omega)
          · exact .inl ho1)
      rw [← he] at this
      exact this
end GP
namespace GP
open Go Go.Proofs
set_option maxRecDepth 100000
variable [HasG Try.prog]
def errDP (xs : List D) (x : D) : Int := if Ord.has ordD x xs then 0 else 8
set_option maxHeartbeats 8000000 in
theorem drop_snd {p : Nat} {S : List Nat} {fs : D} {xs : List D} {x : D} {H : Hp} {T : Tk} {Q : Post} (h : StoS H p S fs xs) (hxr : isRw x)
    (k : ∀ B U, Stp H B p S fs (if errDP xs x = 0 then Ord.rem ordD x xs else xs) → Q (.int .i64 (errDP xs x)) B (T ++ U)) :
    Snd Try.prog 23 [.ptr p 0, x] H T Q := by
  have hst := h
  have hM : MonoH [(60, φ60)] := .cons φ60_mono .nil
  refine call_of fn23 (by simp) (W_mono (X := XG Try.prog [64] [] [(60, φ60)] [] []) (XG.X .nil (.cons ok60 .nil) .nil .nil) (fun _ _ h => h) ?_)
  obtain ⟨o, d, hoS, hp, hs⟩ := h.own
  have hag := rows_ag h.rws
  have hxr' := hxr
  obtain ⟨r, rfl, hr⟩ := hxr
  obtain ⟨ef, of, cf⟩ := isF_lc h.hF
  obtain ⟨od, cd, ed, okd, ldd⟩ := hs.cell
  have eL := hr.eL
  have hpH := h.low p h.pS
  have hE0 : Ext H (H ++ [Ob.row [.str r.who, .str r.name, .str r.attr, .int .i64 r.k, .int .i64 r.i, .str r.s, sliceD r.n r.l]]) := Ext.of _ _
  have bp := hE0.get hp
  have hsB : Sr (H ++ [Ob.row [.str r.who, .str r.name, .str r.attr, .int .i64 r.k, .int .i64 r.i, .str r.s, sliceD r.n r.l]]) o d xs := hs.mono fun hd => by
    rcases hs with ⟨e, _⟩ | ⟨c, X, _, h1, _⟩
    · exact absurd e hd
    · rw [hE0.get h1, h1]
  have gp := rdAt_of bp
  obtain ⟨e, he⟩ : ∃ e, errDP xs (rwD r) = e := ⟨_, rfl⟩
  obtain ⟨zs, hzs⟩ : ∃ zs, Ord.rem ordD (rwD r) xs = zs := ⟨_, rfl⟩
  rw [he, hzs] at k
  unfold errDP at he
  obtain ⟨q, hq⟩ : ∃ q, Ord.pos ordD (rwD r) xs = q := ⟨_, rfl⟩
  obtain ⟨hb, hhb⟩ : ∃ q, Ord.has ordD (rwD r) xs = q := ⟨_, rfl⟩
  have p60 : φ60 (H ++ [Ob.row [.str r.who, .str r.name, .str r.attr, .int .i64 r.k, .int .i64 r.i, .str r.s, sliceD r.n r.l]]) [d, rwD r, .fn 61 [] []] = some (.tup [.int .i64 (q : Int), .bool hb]) := by
    simp only [φ60, hsB.src hag]
    rw [if_pos ⟨h.rws, hxr', by have := h.len; omega, okd, h.ris⟩, hq, hhb]
  have hat := Ord.has_at ordD_ord (x := rwD r) h.ris
  rw [hq] at hat
  rw [hhb] at hat he
  have hxl := h.len
  simp only [rwD] at p60
  cases hb with
  | false =>
    rw [if_neg (by decide)] at he
    simp +contextual (maxSteps := 10000000) only [c23, rwD, eL, gp, ld, List.take_zero, List.nil_append, List.drop_succ_cons, List.drop_zero, List.head?_cons, nilc_ptr, p60, pcallG hM, lookH_cons, lookH_nil, orK_n, orK_s, XG_eq, ef, of, cf, od, cd, ed, go_sem, W_draw]
    have := k _ [] (by rw [if_neg (by omega)]; exact hst.stay hE0)
    rw [List.append_nil, ← he] at this
    exact this
  | true =>
    rw [if_pos rfl] at he
    obtain ⟨hqx, _⟩ := hat.1 rfl
    have hzz : xs.take q ++ xs.drop (q + 1) = zs := by rw [← hzs]; unfold Ord.rem; rw [hq]
    have hoB := h.low o hoS
    have hzm : ∀ z ∈ zs, isRw z := fun z hz => by
      rw [← hzz] at hz
      rcases List.mem_append.1 hz with h1 | h1
      · exact h.rws z (List.mem_of_mem_take h1)
      · exact h.rws z (List.mem_of_mem_drop h1)
    have hzr : Ris ordD zs := by rw [← hzs]; exact Ord.rem_ris h.ris
    have hzl : zs.length ≤ 120 := by rw [← hzz, List.length_append, List.length_take, List.length_drop]; omega
    simp +contextual (maxSteps := 10000000) only [c23, rwD, eL, gp, ld, List.take_zero, List.nil_append, List.drop_succ_cons, List.drop_zero, List.head?_cons, nilc_ptr, p60, pcallG hM, lookH_cons, lookH_nil, orK_n, orK_s, XG_eq, ef, of, cf, od, cd, ed, wrap_natY q (by omega), go_sem, W_draw]
    refine del_snd hsB h.rws (by omega) hqx fun H' d' hs' hn' hF' => ?_
    rw [hzz] at hs'
    have hop : o ≠ p := hs.ne hp (by
      rcases hs with ⟨rfl, h0⟩ | ⟨c, X, rfl, _⟩
      · subst h0; simp at hqx
      · simp) hag
    have bp' : H'[p]? = some (.row [fs, d]) := by rw [hF'.2 p (by simp; omega) (by simp; exact Ne.symm hop)]; exact bp
    obtain ⟨od', cd', _, _, _⟩ := hs'.cell
    have hlp := lt_get bp'
    simp +contextual (maxSteps := 10000000) only [nilc_ptr, od', cd', storeK_E bp', List.take_zero, List.nil_append, List.drop_succ_cons, List.drop_zero, List.take_succ_cons, go_sem, W_draw]
    have := k (H'.set p (.row [fs, d'])) [] (by
      rw [if_pos he.symm]
      have hl1 := hF'.1
      rw [List.length_append] at hl1
      refine ⟨S, { h with low := fun o1 ho1 => ?_, rws := hzm, ris := hzr, len := hzl, own := ⟨o, d', hoS, by rw [List.getElem?_set_self hlp], hs'.mono fun hd => by rw [List.getElem?_set_ne (Ne.symm hop)]⟩ }, ⟨?_, fun o1 hlt hno => ?_⟩, fun o1 ho1 => .inl ho1⟩
      · have := h.low o1 ho1; rw [List.length_set]; omega
      · rw [List.length_set]; omega
      · rw [List.getElem?_set_ne (fun e => hno (by rw [← e]; exact h.pS)), hF'.2 o1 (by simp; omega) (by simp; rintro rfl; exact hno hoS), List.getElem?_append_left hlt])
    rw [List.append_nil, ← he] at this
    exact this
def getRow (H : Hp) (p : Nat) : Option (D × D) := match H[p]? with
  | some (.row [fs, d]) => some (fs, d)
  | _ => none
theorem getRow_mono {H H' : Hp} (hl : Hle H H') {p : Nat} {r : D × D} (h : getRow H p = some r) : getRow H' p = some r := by
  unfold getRow at h ⊢
  cases ho : H[p]? with
  | none => rw [ho] at h; cases h
  | some x =>
    rw [ho] at h
    have hb : x.blank = false := by
      cases x <;> first | rfl | (simp at h)
    rw [hl p x ho hb]; exact h
theorem getRow_row {H : Hp} {p : Nat} {fs d : D} (h : getRow H p = some (fs, d)) : H[p]? = some (.row [fs, d]) := by
  unfold getRow at h
  split at h
  · rename_i hh; injection h with h; injection h with h1 h2; subst h1; subst h2; exact hh
  · cases h
open Classical in
noncomputable def φ18 (H : Hp) : List D → Option D
  | [.ptr p 0] => match getRow H p with
    | some (_, d) => if d.okc = true ∧ d.cells = [d] ∧ d.erase = d then φ57 H [d] else none
    | none => none
  | _ => none
theorem φ18_mono : Mo φ18 := by
  intro H H' a r hl h
  unfold φ18 at h ⊢
  split at h
  · split at h
    · rename_i e
      rw [getRow_mono hl e]
      simp only
      split at h
      · rename_i hc; rw [if_pos hc]; exact φ57_mono _ _ _ _ hl h
      · cases h
    · cases h
  · cases h
theorem frz_cl {H : Hp} {d r : D} (h : φ57 H [d] = some r) : r.cl 0 0 = true ∧ r.erase = r := by
  unfold φ57 at h
  simp only at h
  split at h
  · rename_i xs hs
    split at h
    · rename_i hc
      injection h with h; subst h
      unfold frzD
      split
      · exact ⟨rfl, rfl⟩
      · exact ⟨by simp [D.cl, isRws_cl hc.1], by simp only [D.erase, rows_er hc.1]⟩
    · cases h
  · cases h
theorem ok18 : OkAtH Try.prog 18 φ18 := by
  have hM : MonoH [(57, φ57)] := .cons φ57_mono .nil
  refine okH_of (l := []) (m := [(57, φ57)]) .nil (.cons ok57 .nil) fn18 fun H args rr h => ?_
  unfold φ18 at h
  split at h
  · rename_i p
    split at h
    · rename_i fs d e
      split at h
      · rename_i hc
        obtain ⟨h1, h2, h3⟩ := hc
        obtain ⟨c1, c2⟩ := frz_cl h
        refine ⟨by simp, c1, fun T => ?_⟩
        have gp := rdAt_of (getRow_row e)
        simp +contextual (maxSteps := 10000000) only [c18, gp, ld, List.drop_succ_cons, List.drop_zero, List.head?_cons, nilc_ptr, h1, h2, h3, h, c2, pcallH hM, lookH_cons, lookH_nil, orK_n, orK_s, go_sem, W_draw]
      · cases h
    · cases h
  · cases h
theorem StoS.rows {H : Hp} {p : Nat} {S : List Nat} {fs : D} {xs : List D} (h : StoS H p S fs xs) : ∃ n, φ18 H [.ptr p 0] = some (sliceD n xs) := by
  obtain ⟨o, d, _, hp, hs⟩ := h.own
  obtain ⟨od, cd, ed, okd, _⟩ := hs.cell
  have hg : getRow H p = some (fs, d) := by unfold getRow; rw [hp]
  have hl := h.len
  have h57 : φ57 H [d] = some (frzD d xs) := by
    simp only [φ57, hs.src (rows_ag h.rws)]
    rw [if_pos ⟨h.rws, by omega, okd⟩]
  simp only [φ18, hg]
  rw [if_pos ⟨od, cd, ed⟩, h57]
  rcases hs with ⟨rfl, rfl⟩ | ⟨c, X, rfl, _⟩
  · exact ⟨true, rfl⟩
  · exact ⟨false, by simp [frzD, sliceD]⟩
end GP
namespace GP
open Go Go.Proofs
set_option maxRecDepth 100000
variable [HasG Try.prog]
theorem tfB (b : Bool) : b = false ∨ b = true := by cases b <;> simp
theorem ext_fr {H B : Hp} (hl : H.length ≤ B.length) (h : ∀ o, o < H.length → B[o]? = H[o]?) : Ext H B := by
  refine ⟨B.drop H.length, ?_⟩
  apply List.ext_getElem?
  intro i
  rcases Nat.lt_or_ge i H.length with h' | h'
  · rw [List.getElem?_append_left h', h i h']
  · rw [List.getElem?_append_right h', List.getElem?_drop]; congr 1; omega
def annR : Rw := ⟨sSub, [97, 110, 110], [97], 2, 5, [], true, []⟩
def annF : D := mkF sSub [97] 2 false
theorem annR_ok : annR.Ok := ⟨by decide, by decide, by decide, ⟨by decide, by decide, by decide⟩, by decide⟩
theorem annF_is : isLs isF (.sl none [annF]) := ⟨false, [annF], rfl, by simp, fun x hx => by
  rw [List.mem_singleton] at hx; subst hx
  exact ⟨sSub, [97], 2, false, rfl, by decide, by decide, by decide, by decide⟩⟩
theorem ann_err : errP [annF] [] (rwD annR) = 0 := by decide
theorem awake_snd {H : Hp} {T : Tk} {Q : Post} (k : ∀ B U, Ext H B → Q (.bool true) B (T ++ U)) : Snd Try.prog 14 [] H T Q := by
  have hM : MonoH [(18, φ18)] := .cons φ18_mono .nil
  refine call_of fn14 (by simp) (W_mono (X := XG Try.prog [20, 21] [] [(18, φ18)] [] []) (XG.X .nil (.cons ok18 .nil) .nil .nil) (fun _ _ h => h) ?_)
  simp +contextual (maxSteps := 10000000) only [c14, XG_eq, go_sem, W_draw]
  refine snd_er (args := [.sl none [annF]]) rfl (new_snd annF_is (fun f hf => ?_) (by simp [elems]) fun B p U hE hp hst => ?_)
  · have : f = annF := by simpa [elems] using hf
    subst this; decide
  have q1 : Option.map (fun b => D.bool (b != true)) (eq1D Tq.ptr (D.ptr p 0) D.nilp) = some (.bool true) := rfl
  have q2 : Option.map (fun b => D.bool !b) (eq1D Tq.ptr (D.ptr p 0) D.nilp) = some (.bool true) := rfl
  simp +contextual (maxSteps := 10000000) only [XG_eq, q1, q2, go_sem, W_draw]
  refine set_snd (x := rwD annR) hst ⟨annR, rfl, annR_ok⟩ fun B2 U2 hS => ?_
  have he : elems (D.sl none [annF]) = [annF] := rfl
  rw [he, ann_err] at hS ⊢
  rw [if_pos rfl] at hS
  obtain ⟨S', h1, h2, h3⟩ := hS
  have hpu : Ord.put ordD (rwD annR) [] = [rwD annR] := rfl
  rw [hpu] at h1
  obtain ⟨n, hr⟩ := h1.rows
  have hl1 : lenD (sliceD n [rwD annR]) = some 1 := by
    rcases sliceD_cases n [rwD annR] with ⟨_, e⟩ | e
    · cases e
    · rw [e]; rfl
  obtain ⟨rd, hrd⟩ : ∃ rd, sliceD n [rwD annR] = rd := ⟨_, rfl⟩
  rw [hrd] at hr hl1
  have hrl : rd.erase = rd := by
    rw [← hrd]
    have : D.eraseL [rwD annR] = [rwD annR] := rfl
    rw [erase_sliceD, this]
  simp +contextual (maxSteps := 10000000) only [hr, hl1, hrl, pcallG hM, lookH_cons, lookH_nil, orK_n, orK_s, XG_eq, go_sem, W_draw]
  have hx : Ext H B2 := by
    refine ext_fr (by have := h2.1; obtain ⟨L, rfl⟩ := hE; simp at this; omega) fun o ho => ?_
    obtain ⟨L, rfl⟩ := hE
    rw [h2.2 o (by simp; omega) (by simp; omega), List.getElem?_append_left ho]
  have := k B2 ((some (1, 4)) :: (U ++ U2)) hx
  simpa using this
def mkO (k : Int) (r : Rw) : D := .agg [.int .u8 k, .str r.who, .str r.name, .str r.attr, .int .i64 r.k, .int .i64 r.i, .str r.s, sliceD r.n r.l]
structure Rw.Ok0 (r : Rw) : Prop where
  who : r.who.length ≤ 2 ^ 47
  name : r.name.length ≤ 2 ^ 47
  attr : r.attr.length ≤ 2 ^ 47
  v : isVr r.v
def isO (d : D) : Prop := ∃ k r, d = mkO k r ∧ 0 ≤ k ∧ k ≤ 255 ∧ r.Ok0
def oR : D → D
  | .agg (_ :: l) => .agg l
  | _ => .top
def oK : D → Int
  | .agg (.int _ k :: _) => k
  | _ => 0
theorem isO_erase {d : D} (h : isO d) : d.erase = d := by
  obtain ⟨k, r, rfl, _, _, h⟩ := h
  have := (mkV_erase h.v.1).1
  simp only [mkO, D.erase, D.eraseL, erase_sliceD, this]
def fewO (d : D) : Bool := decide ((rwho (oR d)).length ≤ 200) && decide ((rname (oR d)).length ≤ 200) && decide ((rattr (oR d)).length ≤ 200) && fewB [rV (oR d)] 1
def fewS (fs ops : List D) (n : Int) : Bool := (ops.take 300).all fewO && decide ((ops.length : Int) ≤ n) && decide ((fs.length : Int) ≤ 12)
open Classical in
noncomputable def φ15 : List D → Option D
  | [fs, ops, .int .i64 n] => if isLs isF fs ∧ isLs isO ops then some (.bool (fewS (elems fs) (elems ops) n)) else none
  | _ => none
set_option maxHeartbeats 4000000 in
theorem ok15 : OkAt Try.prog 15 φ15 := by
  refine ok_of (l := [(49, φFew)]) (.cons ok49 .nil) fn15 fun args rr h => ?_
  unfold φ15 at h
  split at h
  · rename_i fs ops nn
    split at h
    · rename_i hv
      obtain ⟨hf, ⟨n, xs, rfl, hl, hx⟩⟩ := hv
      injection h with h; subst h
      refine ⟨by simp, by simp [D.cl], fun H T => ?_⟩
      obtain ⟨nf, fl, rfl, hfl, hfx⟩ := hf
      rw [elems_sliceD, elems_sliceD]
      have ef : D.eraseL fl = fl := eraseL_id fun x h => isF_erase (hfx x h)
      have ex : D.eraseL xs = xs := eraseL_id fun x h => isO_erase (hx x h)
      simp +contextual (maxSteps := 10000000) only [c15, go_sem, W_draw]
      refine W_for (fun i s' => s'.t 0 = sliceD nf fl ∧ s'.t 1 = sliceD n xs ∧ s'.t 2 = .int .i64 nn ∧ s'.t 7 = .int .i64 (i : Nat) ∧ Ext H s'.H ∧ ExtT T s'.T ∧ i ≤ xs.length ∧ i ≤ 300 ∧ (xs.take i).all fewO = true) 300
        ⟨0, by simp [upd, argT], by simp [upd, argT], by simp [upd, argT], by simp [upd], Ext.refl _, ExtT.refl _, by omega, by omega, by simp⟩ (fun i s h => h.2.2.2.2.2.2.2.1) ?_ (XL_mono _)
      rintro i ⟨t, B, U⟩ ⟨r0, r1, r2, r7, hE, hT, hi, hi3, hc⟩
      simp only at r0 r1 r2 r7 hE hT
      by_cases ha : i < xs.length ∧ i < 300
      · obtain ⟨ha, hb⟩ := ha
        have d1 : decide ((i : Int) < xs.length) = true := by simpa using ha
        have d2 : decide ((i : Int) < 300) = true := by simp; omega
        obtain ⟨k, r, hr, _, _, hok⟩ := hx _ (List.getElem_mem ha)
        have e : xs[i]? = some (mkO k r) := by rw [← hr]; simp [ha]
        have er := (mkV_erase hok.v.1).1
        have hO : fewO (mkO k r) = (decide (r.who.length ≤ 200) && decide (r.name.length ≤ 200) && decide (r.attr.length ≤ 200) && fewB [r.v] 1) := rfl
        have good : fewO (mkO k r) = true → (xs.take (i + 1)).all fewO = true := fun h => by rw [List.take_add_one, e]; simp [hc, h]
        have bad : fewO (mkO k r) = false → fewS fl xs nn = false := fun h => by
          unfold fewS
          have : (xs.take 300).all fewO = false := by
            refine List.all_eq_false.2 ⟨mkO k r, ?_, by rw [h]; decide⟩
            refine List.mem_of_getElem? (i := i) ?_
            rw [List.getElem?_take_of_lt hb, e]
          rw [this]; rfl
        rw [hO] at good bad
        have p49 : φFew [.sl none [mkV r.k r.i r.s r.n r.l], .int .i64 1] = some (.bool (fewB [r.v] 1)) := by
          simp only [φFew]
          have h1 : D.isVs (elems (.sl none [mkV r.k r.i r.s r.n r.l])) = true := isVs_iff.2 fun y hy => by
            have : y = mkV r.k r.i r.s r.n r.l := by simpa [elems] using hy
            rw [this]; exact hok.v.1
          rw [if_pos ⟨rfl, h1, by simp [elems]⟩]; rfl
        obtain ⟨fb, hfb⟩ : ∃ b, fewB [r.v] 1 = b := ⟨_, rfl⟩
        rw [hfb] at p49 good bad
        simp only [mkV] at p49
        have e' := e
        simp only [mkO] at e'
        have l1 : decide ((200 : Int) < (r.who.length : Int)) = !decide (r.who.length ≤ 200) := by rw [Bool.eq_iff_iff]; simp; omega
        have l2 : decide ((200 : Int) < (r.name.length : Int)) = !decide (r.name.length ≤ 200) := by rw [Bool.eq_iff_iff]; simp; omega
        have l3 : decide ((200 : Int) < (r.attr.length : Int)) = !decide (r.attr.length ≤ 200) := by rw [Bool.eq_iff_iff]; simp; omega
        obtain ⟨a1, h1⟩ : ∃ b, decide (r.who.length ≤ 200) = b := ⟨_, rfl⟩
        obtain ⟨a2, h2⟩ : ∃ b, decide (r.name.length ≤ 200) = b := ⟨_, rfl⟩
        obtain ⟨a3, h3⟩ : ∃ b, decide (r.attr.length ≤ 200) = b := ⟨_, rfl⟩
        rw [h1] at l1 good bad; rw [h2] at l2 good bad; rw [h3] at l3 good bad
        cases a1 <;> cases a2 <;> cases a3 <;> cases fb <;> simp only [Bool.not_true, Bool.not_false, Bool.and_true, Bool.and_false, Bool.true_and, Bool.false_and, Bool.and_self, true_implies, Bool.true_eq_false, Bool.false_eq_true, false_implies] at l1 l2 l3 good bad <;>
          simp +contextual (maxSteps := 10000000) only [r0, r1, r2, r7, d1, d2, e', er, l1, l2, l3, p49, hE.ta, hT.ta, hT.t, wrap_succ i (by omega), go_sem, W_draw] <;>
          first | (rw [bad]; exact leaves_Ea hE hT _ ▸ rfl) | (rw [bad]; exact (leaves_Eat hE hT _ _).symm ▸ rfl) | (rw [bad]; simp only [leaves_Ea hE hT, leaves_Eat hE hT]; rfl) | exact ⟨by omega, by omega, good⟩
      · have ht : (xs.take 300).all fewO = true := by
          by_cases hx3 : i < xs.length
          · have : i = 300 := by omega
            rw [← this]; exact hc
          · rw [List.take_of_length_le (by omega)] at hc
            exact List.all_eq_true.2 fun y hy => List.all_eq_true.1 hc y (List.mem_of_mem_take hy)
        have hfs : fewS fl xs nn = (decide ((xs.length : Int) ≤ nn) && decide ((fl.length : Int) ≤ 12)) := by unfold fewS; rw [ht]; rfl
        rw [hfs]
        obtain ⟨b1, hb1⟩ : ∃ b, decide ((xs.length : Int) ≤ nn) = b := ⟨_, rfl⟩
        obtain ⟨b2, hb2⟩ : ∃ b, decide ((fl.length : Int) ≤ 12) = b := ⟨_, rfl⟩
        rw [hb1, hb2]
        by_cases hx3 : i < xs.length
        · have d1 : decide ((i : Int) < xs.length) = true := by simpa using hx3
          have d2 : decide ((i : Int) < 300) = false := by simp; omega
          cases b1 <;> simp +contextual (maxSteps := 10000000) only [r0, r1, r2, r7, d1, d2, hb1, hb2, leaves_E hE hT, go_sem, W_draw] <;> rfl
        · have d1 : decide ((i : Int) < xs.length) = false := by simpa using hx3
          cases b1 <;> simp +contextual (maxSteps := 10000000) only [r0, r1, r2, r7, d1, hb1, hb2, leaves_E hE hT, go_sem, W_draw] <;> rfl
    · cases h
  · cases h
end GP
namespace GP
open Go Go.Proofs
set_option maxRecDepth 100000
variable [HasG Try.prog]
structure Liv (H B : Hp) (p w : Nat) (S : List Nat) (f rD : D) (xs m : List D) : Prop where
  sto : StoS B p S f xs
  wr : B[w]? = some (.row [f, rD])
  hw : w ∉ S
  base : ∀ o ∈ S, H.length ≤ o
  wb : H.length ≤ w
  ext : Ext H B
  rd : isLs isRw rD
  rm : elems rD = m
  al : Ord.Alike ordD xs m
  few : ∀ x ∈ xs, few1 (rV x) = true
theorem err_eq {fs xs m : List D} {x : D} (al : Ord.Alike ordD xs m) : errP fs xs x = errS fs m x := by
  unfold errP errS
  have h1 := al.has x
  have h2 := al.len ordD_ord
  have h3 : (Ord.at_ ordD x m).isNone = !(Ord.has ordD x m) := by
    cases h : Ord.at_ ordD x m with
    | none => rw [Ord.at_none.1 h]; rfl
    | some i => obtain ⟨_, _, h4⟩ := Ord.at_some h; rw [h4]; rfl
  rw [h1, h2, h3]
theorem errD_eq {xs m : List D} {x : D} (al : Ord.Alike ordD xs m) : errDP xs x = errD m x := by
  unfold errDP errD
  have h1 := al.has x
  have h3 : (Ord.at_ ordD x m).isNone = !(Ord.has ordD x m) := by
    cases h : Ord.at_ ordD x m with
    | none => rw [Ord.at_none.1 h]; rfl
    | some i => obtain ⟨_, _, h4⟩ := Ord.at_some h; rw [h4]; rfl
  rw [h1, h3]
  cases Ord.has ordD x m <;> rfl
theorem Liv.step {H B B1 B2 : Hp} {p w : Nat} {S : List Nat} {f rD : D} {xs m xs' : List D} (h : Liv H B p w S f rD xs m) (hE : Ext B B1) (hS : Stp B1 B2 p S f xs') :
    ∃ S', StoS B2 p S' f xs' ∧ B2[w]? = some (.row [f, rD]) ∧ w ∉ S' ∧ (∀ o ∈ S', H.length ≤ o ∧ (o ∈ S ∨ B1.length ≤ o)) ∧ Ext H B2 ∧ (∀ o, o < B1.length → o ∉ S → B2[o]? = B1[o]?) ∧ B1.length ≤ B2.length := by
  obtain ⟨S', k1, k2, k3⟩ := hS
  have hw := lt_get h.wr
  obtain ⟨L, rfl⟩ := hE
  obtain ⟨M, hM⟩ := h.ext
  have hHB : H.length ≤ B.length := by rw [hM]; simp
  refine ⟨S', k1, by rw [k2.2 w (by simp; omega) h.hw, List.getElem?_append_left hw]; exact h.wr, fun hm => ?_, fun o ho => ⟨?_, k3 o ho⟩, ext_fr ?_ fun o ho => ?_, k2.2, k2.1⟩
  · rcases k3 w hm with h' | h'
    · exact h.hw h'
    · simp at h'; omega
  · rcases k3 o ho with h' | h'
    · exact h.base o h'
    · simp at h'; omega
  · have := k2.1; simp at this; omega
  · rw [k2.2 o (by simp; omega) (fun hm => by have := h.base o hm; omega), List.getElem?_append_left (by omega), hM, List.getElem?_append_left ho]
theorem Liv.done {H B2 : Hp} {p w z : Nat} {S' : List Nat} {f rD' : D} {xs' m' : List D} (k1 : StoS B2 p S' f xs') (hw : w < B2.length) (hwS : w ∉ S') (hzS : z ∉ S') (hb : ∀ o ∈ S', H.length ≤ o) (hwb : H.length ≤ w) (hzb : H.length ≤ z) (hx : Ext H B2) (a : Ob)
    (hr : isLs isRw rD') (hm : elems rD' = m') (al : Ord.Alike ordD xs' m') (hf : ∀ x ∈ xs', few1 (rV x) = true) : Liv H ((B2.set z a).set w (.row [f, rD'])) p w S' f rD' xs' m' where
  sto := k1.fr (S2 := [z, w]) ⟨by simp, fun o ho hn => by
    simp only [List.mem_cons, List.not_mem_nil, or_false, not_or] at hn
    rw [List.getElem?_set_ne (Ne.symm hn.2), List.getElem?_set_ne (Ne.symm hn.1)]⟩ fun o ho hm => by
      simp only [List.mem_cons, List.not_mem_nil, or_false] at hm
      rcases hm with rfl | rfl
      · exact hzS ho
      · exact hwS ho
  wr := by rw [List.getElem?_set_self (by simpa using hw)]
  hw := hwS
  base := hb
  wb := hwb
  ext := (hx.set hzb _).set hwb _
  rd := hr
  rm := hm
  al := al
  few := hf
theorem mkO_ok {k : Int} {r : Rw} (h : r.Ok0) (hf : fewO (mkO k r) = true) : r.Ok ∧ few1 r.v = true := by
  have hO : fewO (mkO k r) = (decide (r.who.length ≤ 200) && decide (r.name.length ≤ 200) && decide (r.attr.length ≤ 200) && fewB [r.v] 1) := rfl
  rw [hO] at hf
  simp only [Bool.and_eq_true] at hf
  have h1 : few1 r.v = true := by
    have := hf.2
    unfold fewB at this
    simpa using this
  refine ⟨⟨h.who, h.name, h.attr, h.v, ?_⟩, h1⟩
  unfold few1 at h1
  simp only [Bool.and_eq_true, decide_eq_true_eq] at h1
  have : (vl r.v).length = r.l.length := by show (vl (mkV r.k r.i r.s r.n r.l)).length = _; rw [vl_mk]
  omega
theorem sameEl_of {x y : D} (k : vk x = vk y) (i : vi x = vi y) (s : vs x = vs y) (lx : (vl x).length = 0) (ly : (vl y).length = 0) : sameEl x y = true := by
  simp [sameEl, k, i, s, lx, ly]
theorem same_refl {d : D} (h : few1 d = true) : sameB d d = true := by
  unfold sameB
  rw [if_neg (by simp)]
  refine List.all_eq_true.2 fun i hi => ?_
  have hi : i < (vl d).length := by simpa using hi
  simp only [okSame, List.getElem?_eq_getElem hi]
  simp only [few1, Bool.and_eq_true, List.all_eq_true] at h
  have := h.2 _ (List.getElem_mem hi)
  simp only [leafFew, Bool.and_eq_true, decide_eq_true_eq] at this
  exact sameEl_of rfl rfl rfl this.2 this.2
theorem sameRs_refl {xs : List D} (h : ∀ x ∈ xs, few1 (rV x) = true) : sameRs xs xs = true := by
  unfold sameRs
  simp only [beq_self_eq_true, Bool.true_and]
  refine List.all_eq_true.2 fun i hi => ?_
  have hi : i < xs.length := by simpa using hi
  simp only [okRow, List.getElem?_eq_getElem hi]
  rw [same_refl (h _ (List.getElem_mem hi))]
  simp [keyB]
theorem kinds_ok (fl : List D) : kindsOk (fl.map kindF) := fun f hf => by
  obtain ⟨g, _, rfl⟩ := List.mem_map.1 hf
  exact kindN_rg (fkind g)
theorem put_few {xs : List D} {x : D} (hr : Ris ordD xs) (h : ∀ y ∈ xs, few1 (rV y) = true) (hx : few1 (rV x) = true) : ∀ y ∈ Ord.put ordD x xs, few1 (rV y) = true := fun y hy => by
  rcases (Ord.put_mem ordD_ord hr y).1 hy with rfl | ⟨h1, _⟩
  · exact hx
  · exact h y h1
theorem rem_few {xs : List D} {x : D} (h : ∀ y ∈ xs, few1 (rV y) = true) : ∀ y ∈ Ord.rem ordD x xs, few1 (rV y) = true := fun y hy => by
  unfold Ord.rem at hy
  rcases List.mem_append.1 hy with h1 | h1
  · exact h y (List.mem_of_mem_take h1)
  · exact h y (List.mem_of_mem_drop h1)
end GP
namespace GP
open Go Go.Proofs Go.Proofs.Ytjpbliffonimgaa
open Go.ChangeShapes Go.WideShapes Go.ChangeAt Go.RowKit
set_option maxRecDepth 100000
instance instG : HasG Try.prog := ⟨fun _ _ => True, fun _ _ h => h⟩
theorem own6 : ownKnob Try.prog.godebug = none := by kernel_rfl
theorem laid6 : laidOutB Try.prog = true := by kernel_rfl
theorem rowed6 : mapsRowed Try.prog = true := by kernel_rfl
theorem full6 : ((List.range Try.prog.types.size).all fun t => match Try.prog.underlying t with | some (.slice e) => decide (0 < Try.prog.cellsOf e) | _ => true) = true := by kernel_rfl
theorem cells28 : Try.prog.cellsOf 28 = 4 := by kernel_rfl
theorem cells3 : Try.prog.cellsOf 3 = 1 := by kernel_rfl
theorem cells4 : Try.prog.cellsOf 4 = 1 := by kernel_rfl
theorem cells2 : Try.prog.cellsOf 2 = 1 := by kernel_rfl
theorem cells9 : Try.prog.cellsOf 9 = 1 := by kernel_rfl
theorem cells26 : Try.prog.cellsOf 26 = 1 := by kernel_rfl
theorem cells101 : Try.prog.cellsOf 101 = 4 := by kernel_rfl
theorem cells5 : Try.prog.cellsOf 5 = 1 := by kernel_rfl
theorem cells30 : Try.prog.cellsOf 30 = 7 := by kernel_rfl
theorem cells32 : Try.prog.cellsOf 32 = 8 := by kernel_rfl
theorem bytes28 : 1 ≤ Try.prog.bytesOf 28 := of_decide_eq_true (by kernel_rfl)
theorem bytes101 : 1 ≤ Try.prog.bytesOf 101 := of_decide_eq_true (by kernel_rfl)
theorem bytes32 : 1 ≤ Try.prog.bytesOf 32 := of_decide_eq_true (by kernel_rfl)
theorem u8min : IntKind.u8.min = 0 := by decide
theorem u8max : IntKind.u8.max = 255 := by decide
theorem i64min : IntKind.i64.min = -(2 ^ 63) := by decide
theorem i64max : IntKind.i64.max = 2 ^ 63 - 1 := by decide
def isBl (ds : List D) : Prop := ∃ b, ds = [.bool b]
def isLd (p : D → Prop) (ds : List D) : Prop := ∃ l, ds = [l] ∧ isLs p l
theorem isLd_of {mk : List D → D} {φ : List D → Prop} {p : D → Prop} {sz : Nat} (h : ∀ x, φ x → p (mk x)) {ds : List D} (hd : ds = [.nils] ∨ ∃ xs : List (List D), ds = [.sl none (xs.map mk)] ∧ xs.length ≤ 2 ^ 47 ∧ ∀ x ∈ xs, φ x ∧ x.length = sz) : isLd p ds := by
  rcases hd with rfl | ⟨xs, rfl, h1, h2⟩
  · exact ⟨_, rfl, isLs_nils _⟩
  · refine ⟨_, rfl, false, xs.map mk, rfl, by simpa using h1, fun x hx => ?_⟩
    obtain ⟨y, hy, rfl⟩ := List.mem_map.1 hx
    exact h _ (h2 y hy).1
theorem isLs_isV {l : D} (h : isLs (fun d => d.isV = true) l) (k i : Int) (s : List UInt8) (hs : s.length ≤ 2 ^ 47) : (D.agg [.int .i64 k, .int .i64 i, .str s, l]).isV = true := by
  obtain ⟨n, xs, rfl, h1, h2⟩ := h
  exact isV_mk (k := k) (i := i) (n := n) hs h1 h2
theorem rdV (W : World) : ∀ fuel, Rds Try.prog W 28 (fun ds => isVr (D.agg ds)) fuel ∧ Rds Try.prog W 26 (isLd fun d => d.isV = true) fuel
  | 0 => ⟨fun _ _ _ _ _ h _ => by simp [DataW.trod] at h, fun _ _ _ _ _ h _ => by simp [DataW.trod] at h⟩
  | fuel + 1 => by
    obtain ⟨h24, h22⟩ := rdV W fuel
    refine ⟨?_, ?_⟩
    · refine (rds_struct (P := Try.prog) (w := W) (φs := [fun ds => ∃ n, ds = [.int .i64 n] ∧ IntKind.i64.min ≤ n ∧ n ≤ IntKind.i64.max, fun ds => ∃ n, ds = [.int .i64 n] ∧ IntKind.i64.min ≤ n ∧ n ≤ IntKind.i64.max, fun ds => ∃ l, ds = [.str l] ∧ l.length ≤ 2 ^ 47, isLd fun d => d.isV = true]) Try.underlying28 rfl ?_ ?_ ?_).imp ?_
      · simp only [FldsOf, cells3, cells2, cells9, and_self, and_true, Nat.zero_add, Nat.reduceAdd]
      · simp only [List.map_cons, List.map_nil, cells3, cells2, cells9, cells26, cells28]; rfl
      · intro i f φ e1 e2
        match i with
        | 0 => simp at e1 e2; subst e1; subst e2; exact rds_int Try.underlying3 fuel
        | 1 => simp at e1 e2; subst e1; subst e2; exact rds_int Try.underlying2 fuel
        | 2 => simp at e1 e2; subst e1; subst e2; exact rds_string Try.underlying9 fuel
        | 3 => simp at e1 e2; subst e1; subst e2; exact h22
        | i + 4 => simp at e1
      · rintro ds ⟨x1, y1, rfl, ⟨k, rfl, _⟩, x2, y2, rfl, ⟨i, rfl, i1, i2⟩, x3, y3, rfl, ⟨s, rfl, hs⟩, x4, y4, rfl, ⟨l, rfl, hl⟩, rfl⟩
        rw [i64min] at i1; rw [i64max] at i2
        refine ⟨isLs_isV hl k i s hs, ?_, ?_⟩
        · show -(2 ^ 63) ≤ i; omega
        · show i < 2 ^ 63; omega
    · exact (rds_slice (P := Try.prog) (w := W) (mk := D.agg) (fun _ => rfl) (sz := 4) (by decide) Try.underlying26 cells28 bytes28 h24).imp fun ds hd => isLd_of (fun x (hx : isVr (D.agg x)) => hx.1) hd
theorem isVr_cells {x : List D} (h : isVr (D.agg x)) : ∃ k i s n l, x = [.int .i64 k, .int .i64 i, .str s, sliceD n l] ∧ isVr (mkV k i s n l) := by
  obtain ⟨k, i, s, n, l, e, _⟩ := isV_elim h.1
  have : x = [.int .i64 k, .int .i64 i, .str s, sliceD n l] := by unfold mkV at e; injection e
  subst this
  exact ⟨k, i, s, n, l, rfl, h⟩
theorem rdF (W : World) : ∀ fuel, Rds Try.prog W 101 (fun ds => isF (D.agg ds)) fuel
  | 0 => fun _ _ _ _ _ h _ => by simp [DataW.trod] at h
  | fuel + 1 => by
    refine (rds_struct (P := Try.prog) (w := W) (φs := [fun ds => ∃ l, ds = [.str l] ∧ l.length ≤ 2 ^ 47, fun ds => ∃ l, ds = [.str l] ∧ l.length ≤ 2 ^ 47, fun ds => ∃ n, ds = [.int .i64 n] ∧ IntKind.i64.min ≤ n ∧ n ≤ IntKind.i64.max, isBl]) Try.underlying101 rfl ?_ ?_ ?_).imp ?_
    · simp only [FldsOf, cells9, cells3, and_self, and_true, Nat.zero_add, Nat.reduceAdd]
    · simp only [List.map_cons, List.map_nil, cells9, cells3, cells4, cells101]; rfl
    · intro i f φ e1 e2
      match i with
      | 0 => simp at e1 e2; subst e1; subst e2; exact rds_string Try.underlying9 fuel
      | 1 => simp at e1 e2; subst e1; subst e2; exact rds_string Try.underlying9 fuel
      | 2 => simp at e1 e2; subst e1; subst e2; exact rds_int Try.underlying3 fuel
      | 3 => simp at e1 e2; subst e1; subst e2; exact rds_bool Try.underlying4 fuel
      | i + 4 => simp at e1
    · rintro ds ⟨x1, y1, rfl, ⟨who, rfl, h1⟩, x2, y2, rfl, ⟨name, rfl, h2⟩, x3, y3, rfl, ⟨k, rfl, i1, i2⟩, x4, y4, rfl, ⟨b, rfl⟩, rfl⟩
      refine ⟨who, name, k, b, rfl, h1, h2, ?_, ?_⟩
      · simpa [vi, IntKind.min, IntKind.bits, IntKind.signed] using i1
      · have : k ≤ 2 ^ 63 - 1 := by simpa [IntKind.max, IntKind.bits, IntKind.signed] using i2
        omega
theorem argF (W : World) : Arg Try.prog W 22 (isLs isF) := by
  have h : ∀ fuel, Rds Try.prog W 22 (isLd isF) fuel := fun fuel => by
    cases fuel with
    | zero => exact fun _ _ _ _ _ h _ => by simp [DataW.trod] at h
    | succ fuel => exact (rds_slice (P := Try.prog) (w := W) (mk := D.agg) (fun _ => rfl) (sz := 4) (by decide) Try.underlying22 cells101 bytes101 (rdF W fuel)).imp fun ds hd => isLd_of (fun x hx => hx) hd
  intro H enc v d ps base h1 h2 h3
  obtain ⟨x, k1, l, e, k2⟩ := arg_one Try.underlying22 rfl h H enc v d ps base h1 h2 h3
  injection e with e
  exact ⟨_, k1, e ▸ k2⟩
theorem rdRw (W : World) : ∀ fuel, Rds Try.prog W 30 (fun ds => ∃ r : Rw, r.Ok0 ∧ D.agg ds = rwD r) fuel
  | 0 => fun _ _ _ _ _ h _ => by simp [DataW.trod] at h
  | fuel + 1 => by
    refine (rds_struct (P := Try.prog) (w := W) (φs := [fun ds => ∃ l, ds = [.str l] ∧ l.length ≤ 2 ^ 47, fun ds => ∃ l, ds = [.str l] ∧ l.length ≤ 2 ^ 47, fun ds => ∃ l, ds = [.str l] ∧ l.length ≤ 2 ^ 47, fun ds => isVr (D.agg ds)]) Try.underlying30 rfl ?_ ?_ ?_).imp ?_
    · simp only [FldsOf, cells9, cells28, and_self, and_true, Nat.zero_add, Nat.reduceAdd]
    · simp only [List.map_cons, List.map_nil, cells9, cells28, cells30]; rfl
    · intro i f φ e1 e2
      match i with
      | 0 => simp at e1 e2; subst e1; subst e2; exact rds_string Try.underlying9 fuel
      | 1 => simp at e1 e2; subst e1; subst e2; exact rds_string Try.underlying9 fuel
      | 2 => simp at e1 e2; subst e1; subst e2; exact rds_string Try.underlying9 fuel
      | 3 => simp at e1 e2; subst e1; subst e2; exact (rdV W fuel).1
      | i + 4 => simp at e1
    · rintro ds ⟨x1, y1, rfl, ⟨w, rfl, h1⟩, x2, y2, rfl, ⟨n, rfl, h2⟩, x3, y3, rfl, ⟨a, rfl, h3⟩, x4, y4, rfl, h4, rfl⟩
      obtain ⟨k, i, s, nl, l, rfl, hv⟩ := isVr_cells h4
      exact ⟨⟨w, n, a, k, i, s, nl, l⟩, ⟨h1, h2, h3, hv⟩, rfl⟩
theorem rdO (W : World) : ∀ fuel, Rds Try.prog W 32 (fun ds => isO (D.agg ds)) fuel
  | 0 => fun _ _ _ _ _ h _ => by simp [DataW.trod] at h
  | fuel + 1 => by
    refine (rds_struct (P := Try.prog) (w := W) (φs := [fun ds => ∃ n, ds = [.int .u8 n] ∧ IntKind.u8.min ≤ n ∧ n ≤ IntKind.u8.max, fun ds => ∃ r : Rw, r.Ok0 ∧ D.agg ds = rwD r]) Try.underlying32 rfl ?_ ?_ ?_).imp ?_
    · simp only [FldsOf, cells5, cells30, and_self, and_true, Nat.zero_add, Nat.reduceAdd]
    · simp only [List.map_cons, List.map_nil, cells5, cells30, cells32]; rfl
    · intro i f φ e1 e2
      match i with
      | 0 => simp at e1 e2; subst e1; subst e2; exact rds_int Try.underlying5 fuel
      | 1 => simp at e1 e2; subst e1; subst e2; exact rdRw W fuel
      | i + 2 => simp at e1
    · rintro ds ⟨x1, y1, rfl, ⟨k, rfl, i1, i2⟩, x2, y2, rfl, ⟨r, hr, h2⟩, rfl⟩
      rw [u8min] at i1; rw [u8max] at i2
      injection h2 with h2
      subst h2
      exact ⟨k, r, rfl, i1, i2, hr⟩
theorem argOs (W : World) : Arg Try.prog W 23 (isLs isO) := by
  have h : ∀ fuel, Rds Try.prog W 23 (isLd isO) fuel := fun fuel => by
    cases fuel with
    | zero => exact fun _ _ _ _ _ h _ => by simp [DataW.trod] at h
    | succ fuel => exact (rds_slice (P := Try.prog) (w := W) (mk := D.agg) (fun _ => rfl) (sz := 8) (by decide) Try.underlying23 cells32 bytes32 (rdO W fuel)).imp fun ds hd => isLd_of (fun x hx => hx) hd
  intro H enc v d ps base h1 h2 h3
  obtain ⟨x, k1, l, e, k2⟩ := arg_one Try.underlying23 rfl h H enc v d ps base h1 h2 h3
  injection e with e
  exact ⟨_, k1, e ▸ k2⟩
end GP
namespace GP
open Go Go.Proofs Go.Proofs.Ytjpbliffonimgaa
open Go.ChangeShapes Go.WideShapes Go.ChangeAt Go.RowKit
set_option maxRecDepth 100000
theorem argO (W : World) : Arg Try.prog W 32 isO := by
  intro H enc v d ps base h1 h2 h3
  obtain ⟨x, k1, ds, rfl, k2⟩ := arg_struct Try.underlying32 (fun f => rdO W f) H enc v d ps base h1 h2 h3
  exact ⟨_, k1, k2⟩
end GP
namespace GP
open Go Go.Proofs
set_option maxRecDepth 100000
variable [HasG Try.prog]
theorem few_ops {fl xs : List D} {n : Int} (hn : n ≤ 300) (h : fewS fl xs n = true) : (xs.length : Int) ≤ n ∧ fl.length ≤ 12 ∧ ∀ x ∈ xs, fewO x = true := by
  unfold fewS at h
  simp only [Bool.and_eq_true, decide_eq_true_eq, List.all_eq_true] at h
  refine ⟨h.1.2, by omega, fun x hx => h.1.1 x ?_⟩
  rw [List.take_of_length_le (by omega)]; exact hx
end GP
namespace GP
open Go Go.Proofs
set_option maxRecDepth 100000
variable [HasG Try.prog]
def stepX (f xs : List D) (o : D) : List D := if oK o % 2 == 0 then (if errP f xs (oR o) = 0 then Ord.put ordD (oR o) xs else xs) else (if errDP xs (oR o) = 0 then Ord.rem ordD (oR o) xs else xs)
def runX (f ops : List D) : List D := ops.foldl (stepX f) []
theorem runX_snoc {f ops : List D} {i : Nat} {o : D} (h : ops[i]? = some o) : runX f (ops.take (i + 1)) = stepX f (runX f (ops.take i)) o := by
  unfold runX
  rw [List.take_add_one, h, List.foldl_append]; rfl
theorem Liv.done2 {H B2 L : Hp} {p w : Nat} {S' : List Nat} {f rD' : D} {xs' m' : List D} (k1 : StoS B2 p S' f xs') (hw : w < B2.length) (hwS : w ∉ S') (hb : ∀ o ∈ S', H.length ≤ o) (hwb : H.length ≤ w) (hx : Ext H B2)
    (hr : isLs isRw rD') (hm : elems rD' = m') (al : Ord.Alike ordD xs' m') (hf : ∀ x ∈ xs', few1 (rV x) = true) : Liv H ((B2 ++ L).set w (.row [f, rD'])) p w S' f rD' xs' m' where
  sto := (k1.fr (Fr.ext [] (Ext.of B2 L)) (by simp)).fr (S2 := [w]) ⟨by simp, fun o ho hn => by
    rw [List.mem_singleton] at hn
    rw [List.getElem?_set_ne (Ne.symm hn)]⟩ fun o ho hm => by
      rw [List.mem_singleton] at hm
      subst hm; exact hwS ho
  wr := by rw [List.getElem?_set_self (by simp; omega)]
  hw := hwS
  base := hb
  wb := hwb
  ext := (hx.app L).set hwb _
  rd := hr
  rm := hm
  al := al
  few := hf
set_option maxHeartbeats 16000000 in
theorem made_snd {n nf : Bool} {ops fl : List D} (ho : ∀ x ∈ ops, isO x) (hol : ops.length ≤ 2 ^ 20) (hfl : ∀ x ∈ fl, isF x) (hfll : fl.length ≤ 12) (hfo : ∀ x ∈ ops, fewO x = true) {H : Hp} {T : Tk} {Q : Post}
    (k : ∀ B p S rD m U, StoS B p S (sliceD true (fl.map kindF)) (runX (fl.map kindF) ops) → (∀ o ∈ S, H.length ≤ o) → Ext H B → isLs isRw rD → elems rD = m → Ord.Alike ordD (runX (fl.map kindF) ops) m → (∀ x ∈ runX (fl.map kindF) ops, few1 (rV x) = true) →
      Q (.tup [.ptr p 0, .agg [sliceD true (fl.map kindF), rD]]) B (T ++ U)) :
    Snd Try.prog 16 [sliceD nf fl, sliceD n ops] H T Q := by
  have hM : MonoH [] := .nil
  have hX := XG_mono (P := Try.prog) [20, 21, 23] [(19, φkinds9), (22, φ22), (24, φ24)] [] [] []
  refine call_of fn16 (by simp) (W_mono (X := XG Try.prog [20, 21, 23] [(19, φkinds9), (22, φ22), (24, φ24)] [] [] []) (XG.X (.cons ok19 (.cons ok22 (.cons ok24 .nil))) .nil .nil .nil) (fun _ _ h => h) ?_)
  have hF0 : isLs isF (sliceD nf fl) := ⟨nf, fl, rfl, by omega, hfl⟩
  have ef0 : D.eraseL fl = fl := eraseL_id fun x h => isF_erase (hfl x h)
  have p19 : φkinds9 [sliceD nf fl] = some (sliceD true (fl.map kindF)) := by
    simp only [φkinds9]
    rw [if_pos ⟨hF0, by rw [elems_sliceD]; exact hfll⟩, elems_sliceD]
  have hFk := kinds_isF hF0
  rw [elems_sliceD] at hFk
  obtain ⟨f, hff⟩ : ∃ f, sliceD true (fl.map kindF) = f := ⟨_, rfl⟩
  have hel : elems f = fl.map kindF := by rw [← hff, elems_sliceD]
  rw [hff, ← hel] at k
  rw [hff] at p19 hFk
  have hkk : kindsOk (elems f) := by rw [hel]; exact kinds_ok fl
  have hfln : (elems f).length ≤ 2 ^ 30 := by rw [hel]; simp; omega
  obtain ⟨ef, of, cf⟩ := isF_lc hFk
  simp +contextual (maxSteps := 10000000) only [c16, p19, ef0, XG_eq, pcallG hM, lookH_nil, orK_n, orK_s, go_sem, W_draw]
  obtain ⟨H1, hH1⟩ : ∃ H1, H ++ [Ob.row [.nils, .nils]] = H1 := ⟨_, rfl⟩
  rw [hH1]
  refine new_snd hFk hkk hfln fun B2 p U2 hE2 hp hst => ?_
  simp +contextual (maxSteps := 10000000) only [of, cf, go_sem, W_draw]
  have hp2 := hst.low p (by simp)
  have hHl : H1.length = H.length + 1 := by rw [← hH1]; simp
  obtain ⟨w, hw⟩ : ∃ w, B2.length = w := ⟨_, rfl⟩
  have hL0 : Liv H1 (B2 ++ [Ob.row [f, .nils]]) p w [p] f .nils [] [] :=
    { sto := hst.fr (Fr.ext [] (Ext.of _ _)) (by simp), wr := by rw [← hw]; simp, hw := by simp; omega, base := by simpa using hp, wb := by obtain ⟨L, rfl⟩ := hE2; simp at hw; omega, ext := hE2.app _, rd := isLs_nils _, rm := rfl,
      al := ⟨by simp [Ris], by simp [Ord.Dis], by simp⟩, few := by simp }
  rw [hw]
  refine W_for (fun i s' => ∃ S rD xs m, s'.t 1 = sliceD n ops ∧ s'.t 5 = .ptr H.length 0 ∧ s'.t 7 = .ptr p 0 ∧ s'.t 8 = .ptr w 0 ∧ s'.t 9 = .int .i64 (i : Nat) ∧ Liv H1 s'.H p w S f rD xs m ∧ ExtT T s'.T ∧ xs = runX (elems f) (ops.take i) ∧ i ≤ ops.length) ops.length
    ⟨0, [p], .nils, [], [], by simp [upd, argT], by simp [upd], by simp [upd], by simp [upd], by simp [upd], hL0, ExtT.of _ _, rfl, by omega⟩ (fun i s h => by obtain ⟨_, _, _, _, h⟩ := h; exact h.2.2.2.2.2.2.2.2) ?_ hX
  rintro i ⟨t, B3, U3⟩ ⟨S, rD, xs, m, r1, r5, r7, r8, r9, hL, hT, hxs, hi⟩
  simp only at r1 r5 r7 r8 r9 hL hT
  have hml : m.length ≤ 120 := by rw [← hL.al.len ordD_ord]; exact hL.sto.len
  have hrm := hL.rm
  have er : rD.erase = rD := isLs_erase (fun _ => isRw_erase) hL.rd
  obtain ⟨nr, rl, hrd, _, hrx⟩ := hL.rd
  have oc : rD.okc = true ∧ rD.cells = [rD] := by
    rw [hrd]
    rcases sliceD_cases nr rl with ⟨e, _⟩ | e <;> rw [e] <;> exact ⟨rfl, rfl⟩
  obtain ⟨or, cr⟩ := oc
  have hwl := lt_get hL.wr
  by_cases hlt : i < ops.length
  · have d1 : decide ((i : Int) < ops.length) = true := by simpa using hlt
    obtain ⟨k, r, hr, hk0, hk1, hok0⟩ := ho _ (List.getElem_mem hlt)
    have e : ops[i]? = some (mkO k r) := by rw [← hr]; simp [hlt]
    obtain ⟨hok, hfx⟩ := mkO_ok hok0 (hfo _ (List.mem_of_getElem? e))
    have hxr : isRw (rwD r) := ⟨r, rfl, hok⟩
    have eL := hok.eL
    have e' := e
    simp only [mkO] at e'
    obtain ⟨z, hz⟩ : ∃ z, B3.length = z := ⟨_, rfl⟩
    have hzB : H1.length ≤ z := by obtain ⟨L, hLL⟩ := hL.ext; rw [← hz, hLL]; simp
    have hE9 : Ext B3 B3 := Ext.refl _
    rcases tf (k.tmod 2 == 0) with hev | hev
    · simp +contextual (maxSteps := 10000000) only [r1, r5, r7, r8, r9, d1, e', hev, XG_eq, go_sem, W_draw]
      refine set_snd (x := rwD r) hL.sto hxr fun B4 U4 hS => ?_
      obtain ⟨S', k1, k2, k3, k4, k5, k6, k7⟩ := hL.step hE9 hS
      rw [err_eq hL.al] at k1 ⊢
      have p22 : φ22 [.agg [f, rD], rwD r] = some (.tup [.agg [f, if errS (elems f) m (rwD r) = 0 then .sl none (Ord.set_ ordD (rwD r) m) else rD], .int .i64 (errS (elems f) m (rwD r))]) := by
        simp only [φ22]
        rw [if_pos ⟨hFk, hL.rd, by rw [hrm]; omega, hxr⟩, hrm]
      obtain ⟨en, hen⟩ : ∃ x, errS (elems f) m (rwD r) = x := ⟨_, rfl⟩
      rw [hen] at p22 k1 ⊢
      obtain ⟨rD', hrD'⟩ : ∃ x, (if en = 0 then D.sl none (Ord.set_ ordD (rwD r) m) else rD) = x := ⟨_, rfl⟩
      rw [hrD'] at p22
      have hset : ∀ y ∈ Ord.set_ ordD (rwD r) m, isRw y := fun y hy => by
        rcases set_sub y hy with h' | rfl
        · rw [← hrm, hrd, elems_sliceD] at h'; exact hrx y h'
        · exact hxr
      have hfin : isLs isRw rD' ∧ elems rD' = (if en = 0 then Ord.set_ ordD (rwD r) m else m) ∧ rD'.okc = true ∧ rD'.cells = [rD'] := by
        rw [← hrD']
        split
        · refine ⟨⟨false, Ord.set_ ordD (rwD r) m, rfl, ?_, hset⟩, rfl, rfl, rfl⟩
          have : (Ord.set_ ordD (rwD r) m).length ≤ m.length + 1 := by unfold Ord.set_; split <;> simp
          omega
        · exact ⟨hL.rd, hrm, or, cr⟩
      obtain ⟨q1, q2, q3, q4⟩ := hfin
      have gw := rdAt_of k2
      simp only [rwD] at p22
      have k7' : w < B4.length := lt_get k2
      have bw : ∀ L, (B4 ++ L)[w]? = some (.row [f, rD]) := fun L => by rw [List.getElem?_append_left k7']; exact k2
      have gw2 : ∀ L, rdAt (B4 ++ L) (.ptr w 0) = some [f, rD] := fun L => by simp only [rdAt]; rw [bw]; rfl
      have Lf := Liv.done2 (L := [.row [f, rD']]) k1 k7' k3 (fun o ho => (k4 o ho).1) hL.wb k5 (xs' := if en = 0 then Ord.put ordD (rwD r) xs else xs) (m' := if en = 0 then Ord.set_ ordD (rwD r) m else m) q1 q2 (by
          split
          · exact hL.al.put ordD_ord _
          · exact hL.al) (by
          split
          · exact put_few hL.sto.ris hL.few hfx
          · exact hL.few)
      simp +contextual (maxSteps := 10000000) only [r1, r5, r7, r8, r9, e', gw, ld, List.take_zero, List.nil_append, List.drop_succ_cons, List.drop_zero, List.head?_cons, p22, ef, er, eL, of, cf, q3, q4, gw2, storeK_E (bw _), pcallG hM, lookH_cons, lookH_nil, orK_n, orK_s, XG_eq, wrap_succ i (by omega), go_sem, W_draw]
      have XS : (if en = 0 then Ord.put ordD (rwD r) xs else xs) = runX (elems f) (ops.take (i + 1)) := by
        rw [runX_snoc e, ← hxs]
        unfold stepX
        have h2 : (oK (mkO k r) % 2 == 0) = true := by
          rw [beq_iff_eq] at hev ⊢
          rw [Int.tmod_eq_emod_of_nonneg hk0] at hev
          exact hev
        rw [if_pos h2]
        show _ = if errP (elems f) xs (rwD r) = 0 then Ord.put ordD (rwD r) xs else xs
        rw [err_eq hL.al, hen]
      exact ⟨S', rD', _, _, Lf, hT.app _, XS, by omega⟩
    · simp +contextual (maxSteps := 10000000) only [r1, r5, r7, r8, r9, d1, e', hev, XG_eq, go_sem, W_draw]
      refine drop_snd (x := rwD r) hL.sto hxr fun B4 U4 hS => ?_
      obtain ⟨S', k1, k2, k3, k4, k5, k6, k7⟩ := hL.step hE9 hS
      rw [errD_eq hL.al] at k1 ⊢
      have p24 : φ24 [.agg [f, rD], rwD r] = some (.tup [.agg [f, if errD m (rwD r) = 0 then .sl none (Ord.del_ ordD (rwD r) m) else rD], .int .i64 (errD m (rwD r))]) := by
        simp only [φ24]
        rw [if_pos ⟨hFk, hL.rd, by rw [hrm]; omega, hxr⟩, hrm]
      obtain ⟨en, hen⟩ : ∃ x, errD m (rwD r) = x := ⟨_, rfl⟩
      rw [hen] at p24 k1 ⊢
      obtain ⟨rD', hrD'⟩ : ∃ x, (if en = 0 then D.sl none (Ord.del_ ordD (rwD r) m) else rD) = x := ⟨_, rfl⟩
      rw [hrD'] at p24
      have hset : ∀ y ∈ Ord.del_ ordD (rwD r) m, isRw y := fun y hy => by
        have h' := del_sub y hy
        rw [← hrm, hrd, elems_sliceD] at h'; exact hrx y h'
      have hfin : isLs isRw rD' ∧ elems rD' = (if en = 0 then Ord.del_ ordD (rwD r) m else m) ∧ rD'.okc = true ∧ rD'.cells = [rD'] := by
        rw [← hrD']
        split
        · refine ⟨⟨false, Ord.del_ ordD (rwD r) m, rfl, ?_, hset⟩, rfl, rfl, rfl⟩
          have : (Ord.del_ ordD (rwD r) m).length ≤ m.length := by unfold Ord.del_; split <;> simp <;> omega
          omega
        · exact ⟨hL.rd, hrm, or, cr⟩
      obtain ⟨q1, q2, q3, q4⟩ := hfin
      have gw := rdAt_of k2
      simp only [rwD] at p24
      have k7' : w < B4.length := lt_get k2
      have bw : ∀ L, (B4 ++ L)[w]? = some (.row [f, rD]) := fun L => by rw [List.getElem?_append_left k7']; exact k2
      have gw2 : ∀ L, rdAt (B4 ++ L) (.ptr w 0) = some [f, rD] := fun L => by simp only [rdAt]; rw [bw]; rfl
      have Lf := Liv.done2 (L := [.row [f, rD']]) k1 k7' k3 (fun o ho => (k4 o ho).1) hL.wb k5 (xs' := if en = 0 then Ord.rem ordD (rwD r) xs else xs) (m' := if en = 0 then Ord.del_ ordD (rwD r) m else m) q1 q2 (by
          split
          · rename_i h0
            refine hL.al.rem ordD_ord ?_
            have h1 := errD_eq (x := rwD r) hL.al
            rw [hen, h0] at h1
            unfold errDP at h1
            cases h2 : Ord.has ordD (rwD r) xs with
            | true => rfl
            | false => rw [h2] at h1; simp at h1
          · exact hL.al) (by
          split
          · exact rem_few hL.few
          · exact hL.few)
      simp +contextual (maxSteps := 10000000) only [r1, r5, r7, r8, r9, e', gw, ld, List.take_zero, List.nil_append, List.drop_succ_cons, List.drop_zero, List.head?_cons, p24, ef, er, eL, of, cf, q3, q4, gw2, storeK_E (bw _), pcallG hM, lookH_cons, lookH_nil, orK_n, orK_s, XG_eq, wrap_succ i (by omega), go_sem, W_draw]
      have XS : (if en = 0 then Ord.rem ordD (rwD r) xs else xs) = runX (elems f) (ops.take (i + 1)) := by
        have h2 : (oK (mkO k r) % 2 == 0) = false := by
          rw [beq_eq_false_iff_ne] at hev ⊢
          rw [Int.tmod_eq_emod_of_nonneg hk0] at hev
          exact hev
        have hs2 : stepX (elems f) xs (mkO k r) = if errDP xs (rwD r) = 0 then Ord.rem ordD (rwD r) xs else xs := by
          unfold stepX
          rw [if_neg (by rw [h2]; decide)]; rfl
        rw [runX_snoc e, ← hxs, hs2, errD_eq hL.al, hen]
      exact ⟨S', rD', _, _, Lf, hT.app _, XS, by omega⟩
  · have d1 : decide ((i : Int) < ops.length) = false := by simpa using hlt
    have ei : i = ops.length := by omega
    rw [ei, List.take_length] at hxs
    subst hxs
    have gw := rdAt_of hL.wr
    have b5 : B3[H.length]? = some (.row [.nils, .nils]) := by
      have h1 : H1[H.length]? = some (.row [.nils, .nils]) := by rw [← hH1]; simp
      exact hL.ext.get h1
    have hH3 : Ext H B3 := by
      obtain ⟨L, hLL⟩ := hL.ext
      exact ⟨[Ob.row [.nils, .nils]] ++ L, by rw [hLL, ← hH1, List.append_assoc]⟩
    simp +contextual (maxSteps := 10000000) only [r1, r5, r7, r8, r9, d1, gw, ld, List.take_zero, List.nil_append, List.drop_succ_cons, List.drop_zero, List.head?_cons, of, cf, or, cr, storeK_E b5, rdAt_set0 b5, go_sem, W_draw]
    obtain ⟨U', hU'⟩ := hT
    rw [hU']
    refine k _ p S rD m U' (hL.sto.fr (S2 := [H.length]) ⟨by simp, fun o _ hn => by rw [List.mem_singleton] at hn; rw [List.getElem?_set_ne (Ne.symm hn)]⟩ fun o ho hm => ?_) (fun o ho => by have := hL.base o ho; omega) (hH3.set (Nat.le_refl _) _) ⟨nr, rl, hrd, by assumption, hrx⟩ hrm hL.al hL.few
    rw [List.mem_singleton] at hm
    have := hL.base o ho
    omega
end GP
namespace GP
open Go Go.Proofs
open Rd O
set_option maxRecDepth 100000
def impO2 : List Nat := [14,16,20,21,23,27,28,62,64,96,103,1000003,18,57,84,1000002]
def impO : List Nat := [14,16,20,21,23,27,28,62,64,96,103,1000003,18,57,84]
def c84m : C :=
  (.seq (.reg [⟨(some 2), none, .mv (k .nils)⟩])
  (.seq (.seq (.reg [⟨(some 3), none, .mv (t 0)⟩, ⟨(some 4), none, .isn false (t 3)⟩])
  (.cond (t 4)
  (.seq (.reg [⟨(some 2), none, .mv (k .nils)⟩])
  .ret)
  .skip))
  (.seq (.reg [⟨(some 5), none, .bslm true 4 []⟩, ⟨(some 6), none, .mv (t 0)⟩, ⟨(some 7), none, .appm true false 4 56 (t 5) (t 6)⟩, ⟨(some 2), none, .mv (t 7)⟩])
  .ret)))
theorem fn84m : Fn Go.Proofs.Try.prog 84 8 [.inl 2] c84m :=
  ⟨⟨_, _, Go.Proofs.Try.func84, rfl, by kernel_rfl, Go.Proofs.Try.ntmps84, by kernel_rfl, ⟨fun f => impO.contains f, true, fun _ => false, false⟩, by kernel_rfl⟩⟩
def c57m : C :=
  (.seq (.reg [⟨(some 2), none, .mv (k .nils)⟩])
  (.seq (.reg [⟨(some 5), none, .mv (t 0)⟩, ⟨(some 6), none, .call (k (.fn 96 [] [])) [(t 5)]⟩, ⟨(some 3), none, .mv (t 6)⟩])
  (.seq (.seq (.reg [⟨(some 7), none, .mv (t 3)⟩, ⟨(some 8), none, .len (t 7)⟩, ⟨(some 9), none, .mv (k (.int .i64 0))⟩])
  (.block 0
  (.loop
  (.seq (.reg [⟨(some 10), none, .bin .lss (t 9) (t 8)⟩])
  (.seq (.cond (t 10)
  .skip
  (.exit 0))
  (.seq (.block 1
  (.seq (.reg [⟨(some 11), none, .mv (t 9)⟩, ⟨(some 4), none, .mv (t 11)⟩])
  (.reg [⟨(some 12), none, .mv (t 3)⟩, ⟨(some 13), none, .mv (t 4)⟩, ⟨(some 14), none, .mv (t 3)⟩, ⟨(some 15), none, .mv (t 4)⟩, ⟨(some 16), none, .iaddr 7 (t 14) (t 15)⟩, ⟨(some 17), none, .faddr 3 (t 16)⟩, ⟨(some 18), none, .faddr 3 (t 17)⟩, ⟨(some 19), none, .load false 1 (t 18)⟩, ⟨(some 20), none, .call (k (.fn 84 [] [])) [(t 19)]⟩, ⟨(some 21), none, .iaddr 7 (t 12) (t 13)⟩, ⟨(some 22), none, .faddr 3 (t 21)⟩, ⟨(some 23), none, .faddr 3 (t 22)⟩, ⟨none, none, .store 1 (t 23) (t 20)⟩])))
  (.reg [⟨(some 24), none, .bin .add (t 9) (k (.int .i64 1))⟩, ⟨(some 9), none, .mv (t 24)⟩])))))))
  (.seq (.reg [⟨(some 25), none, .mv (t 3)⟩, ⟨(some 2), none, .mv (t 25)⟩])
  .ret))))
theorem fn57m : Fn Go.Proofs.Try.prog 57 26 [.inl 2] c57m :=
  ⟨⟨_, _, Go.Proofs.Try.func57, rfl, by kernel_rfl, Go.Proofs.Try.ntmps57, by kernel_rfl, ⟨fun f => impO.contains f, true, fun _ => false, false⟩, by kernel_rfl⟩⟩
def c18m : C :=
  (.seq (.reg [⟨(some 2), none, .mv (k .nils)⟩])
  (.seq (.reg [⟨(some 3), none, .mv (t 0)⟩, ⟨(some 4), none, .nilc (t 3)⟩, ⟨(some 5), none, .faddr 1 (t 4)⟩, ⟨(some 6), none, .load false 1 (t 5)⟩, ⟨(some 7), none, .call (k (.fn 57 [] [])) [(t 6)]⟩, ⟨(some 2), none, .mv (t 7)⟩])
  .ret))
theorem fn18m : Fn Go.Proofs.Try.prog 18 8 [.inl 2] c18m :=
  ⟨⟨_, _, Go.Proofs.Try.func18, rfl, by kernel_rfl, Go.Proofs.Try.ntmps18, by kernel_rfl, ⟨fun f => impO.contains f, true, fun _ => false, false⟩, by kernel_rfl⟩⟩
def c27 : C :=
  (.seq (.reg [⟨(some 2), none, .mv (k .nilp)⟩])
  (.seq (.draw 1 [(Im 3 0, []), (In 4 3, []), (If 5 0 4, []), (Il 6 5, []), (Ip 7 58 [(t 6)], []), (Im 8 0, []), (In 9 8, []), (If 10 1 9, []), (Il 11 10, []), (Ic 12 57 [(t 11)], []), (⟨(some 13), none, .build [.nils, .nils] [(0, 1, (t 7)), (1, 1, (t 12))]⟩, []), (⟨(some 14), none, .box (t 13)⟩, []), (Im 2 14, [])])
  .ret))
theorem fn27 : Fn Go.Proofs.Try.prog 27 15 [.inl 2] c27 :=
  ⟨⟨_, _, Go.Proofs.Try.func27, rfl, by kernel_rfl, Go.Proofs.Try.ntmps27, by kernel_rfl, ⟨fun f => impO2.contains f, false, fun _ => false, false⟩, by kernel_rfl⟩⟩
def c5 : C :=
  (.seq (.reg [⟨(some 5), none, .box (t 2)⟩, ⟨(some 6), none, .mv (k (.bool false))⟩])
  (.seq (.seq (.reg [Ic 14 14 [], ⟨(some 15), none, .un .not (t 14)⟩, Im 16 15, Jm 17 16 false 0, Jm 18 16 false 1, ⟨(some 19), (some (16, false)), .pcall (k (.fn 15 [] [])) [(t 17), (t 18), (Ki 30)]⟩, ⟨(some 20), (some (16, false)), .un .not (t 19)⟩, ⟨(some 21), none, .pick (t 16) (k (.bool true)) (t 20)⟩, Im 22 21, Jm 23 22 false 0, ⟨(some 24), (some (22, false)), .load true 8 (t 5)⟩, ⟨(some 25), (some (22, false)), .bsl 8 [(t 24)]⟩, ⟨(some 26), (some (22, false)), .pcall (k (.fn 15 [] [])) [(t 23), (t 25), (Ki 1)]⟩, ⟨(some 27), (some (22, false)), .un .not (t 26)⟩, ⟨(some 28), none, .pick (t 22) (k (.bool true)) (t 27)⟩])
  (.cond (t 28)
  (.seq (.reg [Ic 29 14 [], Im 6 29])
  .ret)
  .skip))
  (.seq (.reg [Im 31 0, Im 32 1, Ic 33 16 [(t 31), (t 32)], Im 30 33, Ie 34 0 30, Ie 35 1 30, ⟨(some 8), none, .alloc [.nils, .nils]⟩, Im 7 34, Is 2 8 35])
  (.seq (.reg [Im 36 7, Ic 37 18 [(t 36)], Im 9 37])
  (.seq (.reg [Im 38 7, Ic 39 27 [(t 38)], Im 10 39])
  (.seq (.seq (.reg [Im 40 10, ⟨(some 41), none, .eq1 .ptr false (t 40) (k .nilp)⟩])
  (.cond (t 41)
  (.seq (.reg [⟨(some 6), none, .mv (k (.bool false))⟩])
  .ret)
  .skip))
  (.seq (.reg [Im 42 10, If 43 1 5, Ia 44 7 43, Ic 45 21 [(t 42), (t 44)]])
  (.seq (.reg [Im 46 10, If 47 1 5, Ia 48 7 47, Ic 49 23 [(t 46), (t 48)]])
  (.seq (.reg [Im 50 7, Ic 51 18 [(t 50)], Im 11 51])
  (.seq (.seq (.reg [⟨(some 12), none, .mv (Ki 0)⟩])
  (.block 0
  (.loop
  (.seq (.seq (.reg [Im 52 12, Im 53 11, Iz 54 53, ⟨(some 55), none, .bin .lss (t 52) (t 54)⟩])
  (.cond (t 55)
  .skip
  (.exit 0)))
  (.seq (.block 1
  (.seq (.reg [Im 58 11, Im 59 12, ⟨(some 60), none, .iaddr 7 (t 58) (t 59)⟩, If 61 1 60, ⟨none, none, .store 1 (t 61) (k (.str [101, 108, 115, 101]))⟩])
  (.seq (.reg [⟨(some 13), none, .mv (Ki 0)⟩])
  (.block 2
  (.loop
  (.seq (.seq (.reg [Im 62 13, Im 63 11, Im 64 12, ⟨(some 65), none, .iaddr 7 (t 63) (t 64)⟩, If 66 3 65, If 67 3 66, Il 68 67, Iz 69 68, ⟨(some 70), none, .bin .lss (t 62) (t 69)⟩])
  (.cond (t 70)
  .skip
  (.exit 2)))
  (.seq (.block 3
  (.reg [Im 73 11, Im 74 12, ⟨(some 75), none, .iaddr 7 (t 73) (t 74)⟩, If 76 3 75, If 77 3 76, Il 78 77, Im 79 13, ⟨(some 80), none, .iaddr 4 (t 78) (t 79)⟩, If 81 1 80, Il 82 81, ⟨(some 83), none, .bin .add (t 82) (Ki 3)⟩, ⟨(some 84), none, .iaddr 4 (t 78) (t 79)⟩, If 85 1 84, Is 1 85 83]))
  (.reg [Im 71 13, ⟨(some 72), none, .bin .add (t 71) (Ki 1)⟩, Im 13 72]))))))))
  (.reg [Im 56 12, ⟨(some 57), none, .bin .add (t 56) (Ki 1)⟩, Im 12 57]))))))
  (.seq (.reg [Im 86 7, Ic 87 18 [(t 86)], Im 88 9, Ip 89 17 [(t 87), (t 88)], Im 6 89])
  .ret)))))))))))
theorem fn5 : Fn Go.Proofs.Try.prog 5 90 [.inl 6] c5 :=
  ⟨⟨_, _, Go.Proofs.Try.func5, rfl, by kernel_rfl, Go.Proofs.Try.ntmps5, by kernel_rfl, ⟨fun f => impO.contains f, false, fun _ => false, false⟩, by kernel_rfl⟩⟩
end GP
