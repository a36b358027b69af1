import Derived.Test.YtnipbngimicldaaDoorGpdJ
import Derived.Test.YtnipbngimicldaaDoorGpdP
set_option linter.unusedSimpArgs false
/- LexShows. -/
namespace GP
open Go Go.Proofs
set_option maxRecDepth 100000

/-! ### Numbers written out by the library -/
theorem below_grow (w : World) (k : Nat) (os : Array Obj) : Below w.heap.size w (Go.Sort.grow (w.drewN k) os) :=
  ⟨rfl, rfl, rfl, by simp [Go.Sort.grow, World.drewN], fun j hj => by simp [Go.Sort.grow, World.drewN, Array.getElem?_append_left hj]⟩
open Classical in
noncomputable def φfmt : List D → Option D
  | [.int .i64 n, .int .i64 b] => if b = 10 ∧ 0 ≤ n ∧ n < 2 ^ 63 then some (.str (Lib.decDigits n.toNat)) else none
  | _ => none
theorem reps2 {c : Cx} {a b : Int} {vs : List Value} (h : Reps c [.int .i64 a, .int .i64 b] vs) : vs = [.int .i64 a, .int .i64 b] := by
  match vs, h.len with
  | [x, y], _ =>
    have h1 := h.rep 0 (by simp) (by simp)
    have h2 := h.rep 1 (by simp) (by simp)
    simp only [List.getElem_cons_zero, List.getElem_cons_succ] at h1 h2
    cases h1; cases h2; rfl
theorem ok32 : OkAt Tryd.prog 32 φfmt := by
  refine ok_lib fun args r h c w vs hg hr => ?_
  unfold φfmt at h
  split at h
  · rename_i n b
    split at h
    · rename_i hv
      obtain ⟨rfl, h0, h1⟩ := hv
      injection h with h; subst h
      have e := reps2 hr
      subst e
      have e32 : ∀ args w, (callFunc 32 args).run Tryd.prog w = .ok (.enter 32 args) w := enters_of Tryd.func32 (by kernel_rfl) rfl
      refine ⟨e32 _ _, ?_⟩
      obtain ⟨_, htab, _⟩ := hg
      refine (Tryd.format n (by omega) (by omega) w htab).mono ?_
      rintro e w' ⟨rfl, k, os, rfl⟩
      refine ⟨_, rfl, ?_, below_grow w k os⟩
      have : Lib.itoa n = Lib.decDigits n.toNat := by unfold Lib.itoa; rw [if_neg (by omega)]
      rw [this]
      exact .str _ (by have := dd_len (u := n.toNat) (by omega); omega)
    · cases h
  · cases h
theorem app_acc' {K : D → S → Prop} {t : Nat → D} {H : Hp} {T T' : Tk} {out : List UInt8} {d : D} (c : UInt8) {v : Int} (hv : v = (c.toNat : Int)) (h : accB T out d T') (ho : out.length ≤ 2 ^ 40)
    (k : ∀ d2 T2, accB T (out ++ [c]) d2 T2 → K d2 ⟨t, H, T2⟩) : appK 1 1 K ⟨t, H, T' ++ [some (1, 1)]⟩ d (some [.int .u8 v]) := by
  subst hv
  exact app_acc c h ho rfl fun d2 T2 h2 _ => k d2 T2 h2
def φquo : List D → Option D
  | [.str s] => if s.length ≤ 2 ^ 38 then some (.str (34 :: escL s ++ [34])) else none
  | _ => none
set_option maxHeartbeats 8000000 in
theorem ok33 : OkAt Tryd.prog 33 φquo := by
  refine ok_of (l := []) .nil fn33 fun args r h => ?_
  unfold φquo at h
  split at h
  · rename_i s
    split at h
    · rename_i hl
      injection h with h; subst h
      refine ⟨by simp, by simp [D.cl], fun H T => ?_⟩
      simp (config := { contextual := true, maxSteps := 10000000 }) only [c33, go_sem, Nat.reduceAdd, Nat.reduceSub, Nat.reduceMul, Nat.reduceEqDiff, Nat.reduceLeDiff, Nat.reduceLT, Int.reduceToNat, Int.reduceLE, Int.reduceLT, Int.reduceEq, Int.reduceNe, Int.reduceBEq, Int.reduceBNe, Nat.reduceBEq, Nat.reduceBNe, ↓reduceIte, reduceCtorEq, ↓reduceDIte, W_draw]
      refine W_for (fun i s' => s'.t 0 = .str s ∧ s'.t 7 = .int .i64 s.length ∧ s'.t 8 = .int .i64 (i : Nat) ∧ s'.H = H ∧ i ≤ s.length ∧ accB T (34 :: escL (s.take i)) (s'.t 3) s'.T) s.length ⟨0, rfl, rfl, rfl, rfl, by omega, .inr ⟨by simp, [some (1, 1)], 0, rfl, rfl, rfl⟩⟩ (fun i s h => h.2.2.2.2.1) ?_ (XL_mono _)
      rintro i ⟨t, B, T'⟩ ⟨r0, r7, r8, rfl, hi, hA⟩
      simp only at r0 r7 r8 hA
      have hX := accB_ext hA
      have hE := escL_len (s.take i)
      have ht : (s.take i).length ≤ s.length := by simp; omega
      by_cases hlt : i < s.length
      · have d1 : decide (((i : Nat) : Int) < s.length) = true := by simp only [decide_eq_true_eq]; omega
        have ex : s[i]? = some s[i] := by simp [hlt]
        obtain ⟨b, hb⟩ : ∃ b, s[i] = b := ⟨_, rfl⟩
        rw [hb] at ex
        have ix := fun q => ixs_at ex q
        have e1 : ((b.toNat : Int) == 34) = (b == 34) := u8_eq b 34 (by decide)
        have e2 : ((b.toNat : Int) == 92) = (b == 92) := u8_eq b 92 (by decide)
        have tk := escL_take ex
        have wS := wrap_su i (by omega)
        rcases tf (b == 34) with g1 | g1
        · have e : esc1 b = [92, b] := by unfold esc1; rw [g1]; rfl
          rw [e] at tk
          simp (config := { contextual := true, maxSteps := 10000000 }) only [r0, r7, r8, d1, ix, e1, g1, go_sem, Nat.reduceAdd, Nat.reduceSub, Nat.reduceMul, Nat.reduceEqDiff, Nat.reduceLeDiff, Nat.reduceLT, Int.reduceToNat, Int.reduceLE, Int.reduceLT, Int.reduceEq, Int.reduceNe, Int.reduceBEq, Int.reduceBNe, Nat.reduceBEq, Nat.reduceBNe, ↓reduceIte, reduceCtorEq, ↓reduceDIte, W_draw]
          refine app_acc' (92 : UInt8) rfl hA (by simp; omega) fun d2 T2 hA2 => ?_
          simp (config := { contextual := true, maxSteps := 10000000 }) only [r0, r8, ix, go_sem, Nat.reduceAdd, Nat.reduceSub, Nat.reduceMul, Nat.reduceEqDiff, Nat.reduceLeDiff, Nat.reduceLT, Int.reduceToNat, Int.reduceLE, Int.reduceLT, Int.reduceEq, Int.reduceNe, Int.reduceBEq, Int.reduceBNe, Nat.reduceBEq, Nat.reduceBNe, ↓reduceIte, reduceCtorEq, ↓reduceDIte, W_draw]
          refine app_acc' b rfl hA2 (by simp; omega) fun d3 T3 hA3 => ?_
          simp (config := { contextual := true, maxSteps := 10000000 }) only [r0, r7, r8, wS, go_sem, Nat.reduceAdd, Nat.reduceSub, Nat.reduceMul, Nat.reduceEqDiff, Nat.reduceLeDiff, Nat.reduceLT, Int.reduceToNat, Int.reduceLE, Int.reduceLT, Int.reduceEq, Int.reduceNe, Int.reduceBEq, Int.reduceBNe, Nat.reduceBEq, Nat.reduceBNe, ↓reduceIte, reduceCtorEq, ↓reduceDIte, W_draw]
          refine ⟨by omega, ?_⟩
          rw [tk]; simpa using hA3
        rcases tf (b == 92) with g2 | g2
        · have e : esc1 b = [92, b] := by unfold esc1; rw [g1, g2]; rfl
          rw [e] at tk
          simp (config := { contextual := true, maxSteps := 10000000 }) only [r0, r7, r8, d1, ix, e1, e2, g1, g2, go_sem, Nat.reduceAdd, Nat.reduceSub, Nat.reduceMul, Nat.reduceEqDiff, Nat.reduceLeDiff, Nat.reduceLT, Int.reduceToNat, Int.reduceLE, Int.reduceLT, Int.reduceEq, Int.reduceNe, Int.reduceBEq, Int.reduceBNe, Nat.reduceBEq, Nat.reduceBNe, ↓reduceIte, reduceCtorEq, ↓reduceDIte, W_draw]
          refine app_acc' (92 : UInt8) rfl hA (by simp; omega) fun d2 T2 hA2 => ?_
          simp (config := { contextual := true, maxSteps := 10000000 }) only [r0, r8, ix, go_sem, Nat.reduceAdd, Nat.reduceSub, Nat.reduceMul, Nat.reduceEqDiff, Nat.reduceLeDiff, Nat.reduceLT, Int.reduceToNat, Int.reduceLE, Int.reduceLT, Int.reduceEq, Int.reduceNe, Int.reduceBEq, Int.reduceBNe, Nat.reduceBEq, Nat.reduceBNe, ↓reduceIte, reduceCtorEq, ↓reduceDIte, W_draw]
          refine app_acc' b rfl hA2 (by simp; omega) fun d3 T3 hA3 => ?_
          simp (config := { contextual := true, maxSteps := 10000000 }) only [r0, r7, r8, wS, go_sem, Nat.reduceAdd, Nat.reduceSub, Nat.reduceMul, Nat.reduceEqDiff, Nat.reduceLeDiff, Nat.reduceLT, Int.reduceToNat, Int.reduceLE, Int.reduceLT, Int.reduceEq, Int.reduceNe, Int.reduceBEq, Int.reduceBNe, Nat.reduceBEq, Nat.reduceBNe, ↓reduceIte, reduceCtorEq, ↓reduceDIte, W_draw]
          refine ⟨by omega, ?_⟩
          rw [tk]; simpa using hA3
        · have e : esc1 b = [b] := by unfold esc1; rw [g1, g2]; rfl
          rw [e] at tk
          simp (config := { contextual := true, maxSteps := 10000000 }) only [r0, r7, r8, d1, ix, e1, e2, g1, g2, go_sem, Nat.reduceAdd, Nat.reduceSub, Nat.reduceMul, Nat.reduceEqDiff, Nat.reduceLeDiff, Nat.reduceLT, Int.reduceToNat, Int.reduceLE, Int.reduceLT, Int.reduceEq, Int.reduceNe, Int.reduceBEq, Int.reduceBNe, Nat.reduceBEq, Nat.reduceBNe, ↓reduceIte, reduceCtorEq, ↓reduceDIte, W_draw]
          refine app_acc' b rfl hA (by simp; omega) fun d3 T3 hA3 => ?_
          simp (config := { contextual := true, maxSteps := 10000000 }) only [r0, r7, r8, wS, go_sem, Nat.reduceAdd, Nat.reduceSub, Nat.reduceMul, Nat.reduceEqDiff, Nat.reduceLeDiff, Nat.reduceLT, Int.reduceToNat, Int.reduceLE, Int.reduceLT, Int.reduceEq, Int.reduceNe, Int.reduceBEq, Int.reduceBNe, Nat.reduceBEq, Nat.reduceBNe, ↓reduceIte, reduceCtorEq, ↓reduceDIte, W_draw]
          refine ⟨by omega, ?_⟩
          rw [tk]; simpa using hA3
      · have d1 : decide (((i : Nat) : Int) < s.length) = false := by simp only [decide_eq_false_iff_not]; omega
        have ei : i = s.length := by omega
        rw [ei, List.take_length] at hA hE
        simp (config := { contextual := true, maxSteps := 10000000 }) only [r0, r7, r8, d1, go_sem, Nat.reduceAdd, Nat.reduceSub, Nat.reduceMul, Nat.reduceEqDiff, Nat.reduceLeDiff, Nat.reduceLT, Int.reduceToNat, Int.reduceLE, Int.reduceLT, Int.reduceEq, Int.reduceNe, Int.reduceBEq, Int.reduceBNe, Nat.reduceBEq, Nat.reduceBNe, ↓reduceIte, reduceCtorEq, ↓reduceDIte, W_draw]
        refine app_acc' (34 : UInt8) rfl hA (by simp; omega) fun d2 T2 hA2 => ?_
        have hb2 := accB_b2s hA2
        have hX2 := accB_ext hA2
        simp (config := { contextual := true, maxSteps := 10000000 }) only [hb2, leaves_E (Ext.refl B) hX2, go_sem, Nat.reduceAdd, Nat.reduceSub, Nat.reduceMul, Nat.reduceEqDiff, Nat.reduceLeDiff, Nat.reduceLT, Int.reduceToNat, Int.reduceLE, Int.reduceLT, Int.reduceEq, Int.reduceNe, Int.reduceBEq, Int.reduceBNe, Nat.reduceBEq, Nat.reduceBNe, ↓reduceIte, reduceCtorEq, ↓reduceDIte, W_draw]
    · cases h
  · cases h
def φlshow : List D → Option D
  | [.agg [.int .i64 k, .str s, .int .i64 n]] => if s.length ≤ 2 ^ 38 ∧ n < 2 ^ 63 then some (.str (if formI k s n then showP k s n else [])) else none
  | _ => none
set_option maxHeartbeats 8000000 in
theorem ok16 : OkAt Tryd.prog 16 φlshow := by
  refine ok_of (l := [(15, φform), (32, φfmt), (33, φquo)]) (.cons ok15 (.cons ok32 (.cons ok33 .nil))) fn16 fun args r h => ?_
  unfold φlshow at h
  split at h
  · rename_i k s n
    split at h
    · rename_i hv
      obtain ⟨hl, hn⟩ := hv
      injection h with h; subst h
      refine ⟨by simp, by simp [D.cl], fun H T => ?_⟩
      have pf : φform [.agg [.int .i64 k, .str s, .int .i64 n]] = some (.bool (formI k s n)) := by simp only [φform]; rw [if_pos (by omega)]
      have pq : φquo [.str s] = some (.str (34 :: escL s ++ [34])) := by simp only [φquo]; rw [if_pos hl]
      rcases tf (formI k s n) with g | g
      · have hpos := form_pos g
        rw [g] at pf ⊢
        rw [if_pos rfl]
        have pm : k = 2 ∨ k = 4 → φfmt [.int .i64 n, .int .i64 10] = some (.str (Lib.decDigits n.toNat)) := fun h => by
          simp only [φfmt]; rw [if_pos ⟨trivial, hpos h, hn⟩]
        have hd := dd_len (u := n.toNat) (by omega)
        have sa := sadd (a := [64]) (b := Lib.decDigits n.toNat) (by simp; omega)
        unfold showP
        rcases tf (k == 2) with k2 | k2
        · rw [if_pos k2]
          have pm := pm (.inl (by simpa using k2))
          simp (config := { contextual := true, maxSteps := 10000000 }) only [c16, pf, k2, pm, go_sem, Nat.reduceAdd, Nat.reduceSub, Nat.reduceMul, Nat.reduceEqDiff, Nat.reduceLeDiff, Nat.reduceLT, Int.reduceToNat, Int.reduceLE, Int.reduceLT, Int.reduceEq, Int.reduceNe, Int.reduceBEq, Int.reduceBNe, Nat.reduceBEq, Nat.reduceBNe, ↓reduceIte, reduceCtorEq, ↓reduceDIte, W_draw]
        rw [if_neg (by rw [k2]; decide)]
        rcases tf (k == 4) with k4 | k4
        · rw [if_pos k4]
          have pm := pm (.inr (by simpa using k4))
          simp (config := { contextual := true, maxSteps := 10000000 }) only [c16, pf, k2, k4, pm, sa, go_sem, Nat.reduceAdd, Nat.reduceSub, Nat.reduceMul, Nat.reduceEqDiff, Nat.reduceLeDiff, Nat.reduceLT, Int.reduceToNat, Int.reduceLE, Int.reduceLT, Int.reduceEq, Int.reduceNe, Int.reduceBEq, Int.reduceBNe, Nat.reduceBEq, Nat.reduceBNe, ↓reduceIte, reduceCtorEq, ↓reduceDIte, W_draw]
        rw [if_neg (by rw [k4]; decide)]
        rcases tf (k == 3) with k3 | k3
        · rw [if_pos k3]
          simp (config := { contextual := true, maxSteps := 10000000 }) only [c16, pf, k2, k4, k3, pq, go_sem, Nat.reduceAdd, Nat.reduceSub, Nat.reduceMul, Nat.reduceEqDiff, Nat.reduceLeDiff, Nat.reduceLT, Int.reduceToNat, Int.reduceLE, Int.reduceLT, Int.reduceEq, Int.reduceNe, Int.reduceBEq, Int.reduceBNe, Nat.reduceBEq, Nat.reduceBNe, ↓reduceIte, reduceCtorEq, ↓reduceDIte, W_draw]
        · rw [if_neg (by rw [k3]; decide)]
          simp (config := { contextual := true, maxSteps := 10000000 }) only [c16, pf, k2, k4, k3, go_sem, Nat.reduceAdd, Nat.reduceSub, Nat.reduceMul, Nat.reduceEqDiff, Nat.reduceLeDiff, Nat.reduceLT, Int.reduceToNat, Int.reduceLE, Int.reduceLT, Int.reduceEq, Int.reduceNe, Int.reduceBEq, Int.reduceBNe, Nat.reduceBEq, Nat.reduceBNe, ↓reduceIte, reduceCtorEq, ↓reduceDIte, W_draw]
      · rw [g] at pf ⊢
        rw [if_neg (by decide)]
        simp (config := { contextual := true, maxSteps := 10000000 }) only [c16, pf, go_sem, Nat.reduceAdd, Nat.reduceSub, Nat.reduceMul, Nat.reduceEqDiff, Nat.reduceLeDiff, Nat.reduceLT, Int.reduceToNat, Int.reduceLE, Int.reduceLT, Int.reduceEq, Int.reduceNe, Int.reduceBEq, Int.reduceBNe, Nat.reduceBEq, Nat.reduceBNe, ↓reduceIte, reduceCtorEq, ↓reduceDIte, W_draw]
    · cases h
  · cases h

/-! ### LexShows -/
theorem lex_one {k : Int} {s : List UInt8} {n : Int} (g : formI k s n = true) (hn : n < 2 ^ 63) (hl : (showP k s n).length ≤ 4096) : lexP (showP k s n) = ([mkT k s n], 0, 0) := by
  obtain ⟨h1, c, r, h2, h3, h4, h5⟩ := tok_show g hn (.inl rfl)
  rw [List.append_nil] at h1
  have hpos : 0 < (showP k s n).length := by rw [h2]; simp
  have hb : betw (showP k s n) 0 = 0 := by
    unfold betw; rw [List.drop_zero, h2]; simp [gapL, h3, h4, h5]
  unfold lexP
  rw [if_neg (by simp only [decide_eq_true_eq]; omega), hb]
  obtain ⟨m, hm⟩ : ∃ m, (showP k s n).length = m + 1 := ⟨(showP k s n).length - 1, by omega⟩
  have z1 : ((((showP k s n).length : Nat) : Int) == 0) = false := by rw [beq_eq_false_iff_ne]; omega
  have e2 : betw (showP k s n) (showP k s n).length = (showP k s n).length := betw_end (Nat.le_refl _)
  rw [lexF_succ, if_neg (by simp only [decide_eq_true_eq]; omega), tokP_Q hpos, List.drop_zero, h1]
  simp only
  rw [if_neg (by rw [z1]; decide), if_neg (by decide), Nat.zero_add, e2]
  conv => lhs; rw [hm]
  rw [lexF_succ, ← hm, if_pos (by simp)]; rfl
set_option maxHeartbeats 16000000 in
theorem main6 (k : Int) (s : List UInt8) (n : Int) (hs : s.length ≤ 2 ^ 47) (hn : n < 2 ^ 63) (H : Hp) (T : Tk) : W (Snd Tryd.prog) c6 (endQ [.inl 2] (fun r _ _ => r = .bool true)) ⟨argT [mkT k s n], H, T⟩ := by
  refine W_mono (X := XL [(8, φtrueD), (16, φlshow), (15, φform), (10, φform), (12, φlex), (11, φshow)]) (Ok.X (.cons ok8 (.cons ok16 (.cons ok15 (.cons ok10 (.cons ok12 (.cons ok11 .nil))))))) (fun _ _ h => h) ?_
  have p1 : φtrueD [] = some (.bool true) := rfl
  simp only [mkT]
  by_cases h200 : (200 : Int) < s.length
  · have d : decide ((200 : Int) < s.length) = true := by simpa using h200
    simp (config := { contextual := true, maxSteps := 10000000 }) only [c6, p1, d, go_sem, Nat.reduceAdd, Nat.reduceSub, Nat.reduceMul, Nat.reduceEqDiff, Nat.reduceLeDiff, Nat.reduceLT, Int.reduceToNat, Int.reduceLE, Int.reduceLT, Int.reduceEq, Int.reduceNe, Int.reduceBEq, Int.reduceBNe, Nat.reduceBEq, Nat.reduceBNe, ↓reduceIte, reduceCtorEq, ↓reduceDIte, W_draw]
  have d : decide ((200 : Int) < s.length) = false := by simpa using h200
  have pf : φform [.agg [.int .i64 k, .str s, .int .i64 n]] = some (.bool (formI k s n)) := by simp only [φform]; rw [if_pos (by omega)]
  have ps : φlshow [.agg [.int .i64 k, .str s, .int .i64 n]] = some (.str (if formI k s n then showP k s n else [])) := by simp only [φlshow]; rw [if_pos ⟨by omega, hn⟩]
  have eqb : ((true == true) != true) = false := rfl
  rcases tf (formI k s n) with g | g
  · rw [g] at pf ps
    rw [if_pos rfl] at ps
    have hsl := showP_len (k := k) (s := s) (n := n) (by omega) fun _ => hn
    have pl : φlex [.str (showP k s n)] = some (.tup [.sl none [.agg [.int .i64 k, .str s, .int .i64 n]], .int .i64 0, .int .i64 0]) := by
      simp only [φlex]; rw [if_pos (by omega), lex_one g hn (by omega)]; rfl
    have pr : φshow [.agg [.int .i64 k, .str s, .int .i64 n]] = some (.str (showP k s n)) := by
      simp only [φshow]; rw [if_pos ⟨by omega, fun h => ⟨form_pos g h, hn⟩⟩]
    have er := eqa_refl k s n
    have es : (showP k s n == showP k s n) = true := by simp
    simp (config := { contextual := true, maxSteps := 10000000 }) only [c6, p1, d, pf, ps, pl, pr, er, es, go_sem, Nat.reduceAdd, Nat.reduceSub, Nat.reduceMul, Nat.reduceEqDiff, Nat.reduceLeDiff, Nat.reduceLT, Int.reduceToNat, Int.reduceLE, Int.reduceLT, Int.reduceEq, Int.reduceNe, Int.reduceBEq, Int.reduceBNe, Nat.reduceBEq, Nat.reduceBNe, ↓reduceIte, reduceCtorEq, ↓reduceDIte, W_draw]
  · rw [g] at pf ps
    rw [if_neg (by decide)] at ps
    simp (config := { contextual := true, maxSteps := 10000000 }) only [c6, p1, d, pf, ps, go_sem, Nat.reduceAdd, Nat.reduceSub, Nat.reduceMul, Nat.reduceEqDiff, Nat.reduceLeDiff, Nat.reduceLT, Int.reduceToNat, Int.reduceLE, Int.reduceLT, Int.reduceEq, Int.reduceNe, Int.reduceBEq, Int.reduceBNe, Nat.reduceBEq, Nat.reduceBNe, ↓reduceIte, reduceCtorEq, ↓reduceDIte, W_draw]
end GP
