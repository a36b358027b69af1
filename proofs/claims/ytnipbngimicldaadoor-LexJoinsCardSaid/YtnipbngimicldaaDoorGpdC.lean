import Derived.Test.YtnipbngimicldaaDoorGpdY
import Derived.Test.YtnipbngimicldaaDoorGpdO
import Derived.Test.YtnipbngimicldaaDoorGpdP2
set_option linter.unusedSimpArgs false
/- LexJoins. -/
namespace GP
open Go Go.Proofs
set_option maxRecDepth 100000

theorem ok_lib2 {P : Program} [HasG P] {f : FuncId} {φ : List D → Option D}
    (h : ∀ args r, φ args = some r → ∀ (c : Cx) (w : World) (vs : List Value), (∀ a v, c.M a = some v → w.cell? a = some v) → Reps c args vs → (callFunc f vs.toArray).run P w = .ok (.enter f vs.toArray) w ∧
      Calls P f vs.toArray w fun e w' => ∃ v, e = .returned v ∧ Rep c r v ∧ Below w.heap.size w w') : OkAt P f φ := by
  intro args r hr args' he H T Q hQ c w vs hg k1 k2 k3
  have k3' : Reps c args vs := by rw [← he]; exact k3.erase
  obtain ⟨g1, g2⟩ := h args r hr c w vs k1.keep k3'
  refine .inl ⟨g1, g2.mono ?_⟩
  rintro e w' ⟨v, rfl, h1, h2⟩
  exact ⟨v, rfl, r, H, T, c, hQ, h1, k1.grown h2, Cx.le.refl c, k2, h2.mono k1.low⟩
open Classical in
noncomputable def φjoin : List D → Option D
  | [l, .str sep] => if isLs isTx l ∧ (Lib.join ((elems l).map strOf) sep).length ≤ 2 ^ 47 then some (.str (Lib.join ((elems l).map strOf) sep)) else none
  | _ => none
theorem ok34 : OkAt Tryd.prog 34 φjoin := by
  refine ok_lib2 fun args r h c w vs hk hr => ?_
  unfold φjoin at h
  split at h
  · rename_i l sep
    split at h
    · rename_i hv
      obtain ⟨⟨n, xs, rfl, hl, hx⟩, hj⟩ := hv
      injection h with h; subst h
      rw [elems_sliceD] at hj ⊢
      have e34 : ∀ args w, (callFunc 34 args).run Tryd.prog w = .ok (.enter 34 args) w := enters_of Tryd.func34 (by kernel_rfl) rfl
      refine ⟨e34 _ _, ?_⟩
      match vs, hr.len with
      | [v0, v1], _ =>
        have h0 := hr.rep 0 (by simp) (by simp)
        have h1 := hr.rep 1 (by simp) (by simp)
        simp only [List.getElem_cons_zero, List.getElem_cons_succ] at h0 h1
        cases h1 with
        | str _ hsl =>
        have none' : ∀ (a : Option Addr) (cp : Nat), xs = [] → v0 = .slice a 0 cp → Calls Tryd.prog 34 [v0, .string ⟨sep.toArray⟩].toArray w fun e w' => ∃ v, e = .returned v ∧ Rep c (.str (Lib.join (xs.map strOf) sep)) v ∧ Below w.heap.size w w' := fun a cp hxs hv0 => by
          subst hxs; subst hv0
          refine (Tryd.join_none a cp ⟨sep.toArray⟩ w).mono ?_
          rintro e w' ⟨rfl, rfl⟩
          exact ⟨_, rfl, .str [] (by simp), Below.refl _ _⟩
        rcases sliceD_cases n xs with ⟨e1, hnil⟩ | e1
        · rw [e1] at h0
          cases h0
          exact none' none 0 hnil rfl
        · rw [e1] at h0
          cases h0 with
          | sl t _ a cap sz us hlen hb hsz h1 ha hs hM hrep htl ht =>
            by_cases hne : xs = []
            · subst hne; exact none' a cap rfl rfl
            · obtain ⟨b, rfl⟩ := ha hne
              have hsp := hs hne b rfl
              obtain ⟨bk, off, sp⟩ := b
              simp only at hsp; subst hsp
              have sz1 : sz = 1 := by
                cases xs with
                | nil => exact (hne rfl).elim
                | cons x xs =>
                  obtain ⟨s, rfl, _⟩ := hx x (by simp)
                  exact (hsz (.str s) (by simp)).symm
              subst sz1
              have cell : ∀ (j : Nat) (s : List UInt8), xs[j]? = some (.str s) → w.cell? ⟨bk, off + j, none⟩ = some (.string ⟨s.toArray⟩) := fun j s hj => by
                have hjl : j < xs.length := by
                  rcases Nat.lt_or_ge j xs.length with h | h
                  · exact h
                  · rw [List.getElem?_eq_none h] at hj; cases hj
                have hxj : xs[j] = .str s := by simpa [hjl] using hj
                have m := hk _ _ (hM j hjl 0 (by omega) _ rfl)
                have r := hrep j hjl 0 (by rw [hxj]; simp [D.cells])
                simp only [hxj, D.cells, List.getElem_cons_zero] at r
                simp only [Nat.mul_one, Nat.add_zero] at m
                obtain ⟨u, hu⟩ : ∃ u, us j 0 = u := ⟨_, rfl⟩
                rw [hu] at m r
                cases r
                exact m
              have eqj : ((xs.map strOf).map (fun s : List UInt8 => (⟨s.toArray⟩ : ByteArray))).map (fun b : ByteArray => b.data.toList) = xs.map strOf := by
                rw [List.map_map]; exact (List.map_congr_left fun s _ => by simp).trans (List.map_id _)
              have hcl := Tryd.join bk off cap ((xs.map strOf).map fun s => (⟨s.toArray⟩ : ByteArray)) ⟨sep.toArray⟩ w ?_ ?_ (by simp; omega) (by simpa using hlen) (by rw [eqj]; simpa using hj)
              · rw [eqj] at hcl
                simp only [List.length_map] at hcl
                refine hcl.mono ?_
                rintro e w' ⟨rfl, hbl⟩
                refine ⟨_, rfl, ?_, Below.of_kit hbl⟩
                exact .str _ (by omega)
              · intro j x hjx
                rw [List.map_map] at hjx
                simp only [List.getElem?_map, Option.map_eq_some_iff, Function.comp] at hjx
                obtain ⟨d, hd, rfl⟩ := hjx
                obtain ⟨s, rfl, _⟩ := hx d (List.mem_of_getElem? hd)
                exact cell j s hd
              · cases xs with
                | nil => exact (hne rfl).elim
                | cons x xs =>
                  obtain ⟨s, rfl, _⟩ := hx x (by simp)
                  have := cell 0 s rfl
                  rcases Nat.lt_or_ge bk w.heap.size with h | h
                  · exact h
                  · simp [World.cell?, Array.getElem?_eq_none h] at this
    · cases h
  · cases h
end GP
set_option linter.unusedSimpArgs false
/- LexJoins. -/
namespace GP
open Go Go.Proofs
set_option maxRecDepth 100000

def showF (d : D) : List UInt8 := match d with
  | .agg [.int _ k, .str s, .int _ n] => if formI k s n then showP k s n else []
  | _ => []
def strs (xs : List D) (i : Nat) : List D := (xs.take i).map fun d => .str (showF d)
theorem strs_succ {xs : List D} {i : Nat} {x : D} (h : xs[i]? = some x) : strs xs (i + 1) = strs xs i ++ [.str (showF x)] := by
  unfold strs; rw [List.take_add_one, h]; simp
def isSm (d : D) : Prop := ∃ k s n, d = mkT k s n ∧ s.length ≤ 200 ∧ n < 2 ^ 63
theorem showF_len {d : D} (h : isSm d) : (showF d).length ≤ 402 := by
  obtain ⟨k, s, n, rfl, hs, hn⟩ := h
  show (if formI k s n then showP k s n else []).length ≤ 402
  split
  · exact showP_len hs fun _ => hn
  · simp
theorem join_snoc (l : List (List UInt8)) (x sep : List UInt8) : Lib.join (l ++ [x]) sep = if l = [] then x else Lib.join l sep ++ (sep ++ x) := by
  cases l with
  | nil => simp [Lib.join_one]
  | cons y l =>
    rw [if_neg (by simp), List.cons_append, Lib.join_cons, Lib.join_cons]
    simp [Lib.joinTail]
theorem join_len : ∀ (l : List (List UInt8)), (∀ x ∈ l, x.length ≤ 402) → (Lib.join l [32]).length ≤ l.length * 403
  | [], _ => by simp [Lib.join_nil]
  | x :: l, h => by
    rw [Lib.join_cons]
    have hx := h x (by simp)
    have : ∀ (l : List (List UInt8)), (∀ x ∈ l, x.length ≤ 402) → (Lib.joinTail [32] l).length ≤ l.length * 403 := by
      intro l hl
      induction l with
      | nil => simp [Lib.joinTail]
      | cons y l ih =>
        have hy := hl y (by simp)
        have := ih fun z hz => hl z (by simp [hz])
        simp only [Lib.joinTail, List.map_cons, List.flatten_cons, List.length_append, List.length_cons, List.length_nil] at this ⊢; omega
    have := this l fun z hz => h z (by simp [hz])
    simp only [List.length_append, List.length_cons]; omega
def φlj : List D → Option D
  | [l] => some (.str (Lib.join ((elems l).map showF) [32]))
  | _ => none
open Classical in
noncomputable def φljoin : List D → Option D
  | [l] => if isLs isSm l ∧ (elems l).length ≤ 60 then some (.str (Lib.join ((elems l).map showF) [32])) else none
  | _ => none
set_option maxHeartbeats 8000000 in
theorem ok17 : OkAt Tryd.prog 17 φljoin := by
  refine ok_of (l := [(16, φlshow), (34, φjoin)]) (.cons ok16 (.cons ok34 .nil)) fn17 fun args r h => ?_
  unfold φljoin at h
  split at h
  · rename_i l
    split at h
    · rename_i hv
      obtain ⟨⟨b, xs, rfl, hl, hx⟩, h60⟩ := hv
      rw [elems_sliceD] at h60 h
      injection h with h; subst h
      refine ⟨by simp, by simp [D.cl], fun H T => ?_⟩
      have eX : D.eraseL xs = xs := toks_erase fun x h => by obtain ⟨k, s, n, h, _⟩ := hx x h; exact ⟨k, s, n, h⟩
      simp (config := { contextual := true, maxSteps := 10000000 }) only [c17, go_sem, Nat.reduceAdd, Nat.reduceSub, Nat.reduceMul, Nat.reduceEqDiff, Nat.reduceLeDiff, Nat.reduceLT, Int.reduceToNat, Int.reduceLE, Int.reduceLT, Int.reduceEq, Int.reduceNe, Int.reduceBEq, Int.reduceBNe, Nat.reduceBEq, Nat.reduceBNe, ↓reduceIte, reduceCtorEq, ↓reduceDIte, W_draw]
      refine W_for (fun i s' => s'.t 6 = sliceD b xs ∧ s'.t 7 = .int .i64 xs.length ∧ s'.t 8 = .int .i64 (i : Nat) ∧ Ext H s'.H ∧ i ≤ xs.length ∧ accW 1 T (strs xs i) (s'.t 3) s'.T) xs.length ⟨0, rfl, rfl, rfl, Ext.refl H, by omega, .inl ⟨rfl, rfl, rfl⟩⟩ (fun i s h => h.2.2.2.2.1) ?_ (XL_mono _)
      rintro i ⟨t, B, T'⟩ ⟨r6, r7, r8, hE, hi, hA⟩
      simp only at r6 r7 r8 hE hA
      have hX := accW_ext hA
      have hsl : (strs xs i).length = i := by unfold strs; simp; omega
      by_cases hlt : i < xs.length
      · have d1 : decide (((i : Nat) : Int) < xs.length) = true := by simp only [decide_eq_true_eq]; omega
        have ex : xs[i]? = some xs[i] := by simp [hlt]
        have hsm := hx _ (List.getElem_mem hlt)
        obtain ⟨k, s, n, e, hs, hn⟩ := hsm
        rw [e] at ex
        have sc := strs_succ ex
        have eF : showF (mkT k s n) = if formI k s n then showP k s n else [] := rfl
        have ps : φlshow [.agg [.int .i64 k, .str s, .int .i64 n]] = some (.str (showF (mkT k s n))) := by simp only [φlshow]; rw [if_pos ⟨by omega, hn⟩, eF]
        obtain ⟨F, hF⟩ : ∃ F, showF (mkT k s n) = F := ⟨_, rfl⟩
        rw [hF] at ps sc
        simp only [mkT] at ex
        simp (config := { contextual := true, maxSteps := 10000000 }) only [r6, r7, r8, d1, ex, ps, go_sem, Nat.reduceAdd, Nat.reduceSub, Nat.reduceMul, Nat.reduceEqDiff, Nat.reduceLeDiff, Nat.reduceLT, Int.reduceToNat, Int.reduceLE, Int.reduceLT, Int.reduceEq, Int.reduceNe, Int.reduceBEq, Int.reduceBNe, Nat.reduceBEq, Nat.reduceBNe, ↓reduceIte, reduceCtorEq, ↓reduceDIte, W_draw]
        refine app_accW (.str F) hA rfl ?_ (by omega) (by omega) fun d2 T2 hA2 => ?_
        · refine List.all_eq_true.2 fun x hx' => ?_
          unfold strs at hx'
          obtain ⟨y, _, rfl⟩ := List.mem_map.1 hx'
          rfl
        · simp (config := { contextual := true, maxSteps := 10000000 }) only [r6, r7, r8, wrap_su i (by omega), hE.ta, go_sem, Nat.reduceAdd, Nat.reduceSub, Nat.reduceMul, Nat.reduceEqDiff, Nat.reduceLeDiff, Nat.reduceLT, Int.reduceToNat, Int.reduceLE, Int.reduceLT, Int.reduceEq, Int.reduceNe, Int.reduceBEq, Int.reduceBNe, Nat.reduceBEq, Nat.reduceBNe, ↓reduceIte, reduceCtorEq, ↓reduceDIte, W_draw]
          refine ⟨by omega, ?_⟩
          rw [sc]; exact hA2
      · have d1 : decide (((i : Nat) : Int) < xs.length) = false := by simp only [decide_eq_false_iff_not]; omega
        have ei : i = xs.length := by omega
        have eS : strs xs i = xs.map fun d => .str (showF d) := by unfold strs; rw [ei, List.take_length]
        rw [eS] at hA
        have heS : D.eraseL (xs.map fun d => D.str (showF d)) = xs.map fun d => .str (showF d) := eraseL_id fun x h => by
          obtain ⟨y, _, rfl⟩ := List.mem_map.1 h; simp [D.erase]
        have her := accW_erase hA heS
        have eM : (xs.map fun d => D.str (showF d)).map strOf = xs.map showF := by rw [List.map_map]; rfl
        have hj := join_len (xs.map showF) fun x hx' => by
          obtain ⟨y, hy, rfl⟩ := List.mem_map.1 hx'
          exact showF_len (hx y hy)
        rw [List.length_map] at hj
        have pj : φjoin [sliceD true (xs.map fun d => D.str (showF d)), .str [32]] = some (.str (Lib.join (xs.map showF) [32])) := by
          simp only [φjoin]; rw [elems_sliceD, eM, if_pos ⟨⟨true, _, rfl, by simp; omega, fun x hx' => by
            obtain ⟨y, hy, rfl⟩ := List.mem_map.1 hx'
            exact ⟨_, rfl, by have := showF_len (hx y hy); omega⟩⟩, by omega⟩]
        simp (config := { contextual := true, maxSteps := 10000000 }) only [r6, r7, r8, d1, her, pj, leaves_E hE hX, go_sem, Nat.reduceAdd, Nat.reduceSub, Nat.reduceMul, Nat.reduceEqDiff, Nat.reduceLeDiff, Nat.reduceLT, Int.reduceToNat, Int.reduceLE, Int.reduceLT, Int.reduceEq, Int.reduceNe, Int.reduceBEq, Int.reduceBNe, Nat.reduceBEq, Nat.reduceBNe, ↓reduceIte, reduceCtorEq, ↓reduceDIte, W_draw]
    · cases h
  · cases h

/-! ### What is joined is lexed -/
theorem gap1 : gapOk [32] := ⟨⟨32, [], rfl, .inl rfl⟩, fun r => by simp [gapL]⟩
theorem join_text (x : D) (r : List D) : Lib.join ((x :: r).map showD) [32] = showD x ++ textOf (r.map fun d => ([32], d)) [] := by
  rw [List.map_cons, Lib.join_cons]
  congr 1
  unfold Lib.joinTail textOf
  rw [List.append_nil, List.flatMap_map, List.map_map, List.flatMap_def]
  rfl
theorem lex_joined : ∀ (xs : List D), (∀ x ∈ xs, fitT x) → xs.length ≤ 600 → (Lib.join (xs.map showD) [32]).length ≤ 4096 → lexP (Lib.join (xs.map showD) [32]) = (xs, 0, 0)
  | [], _, _, _ => by kernel_rfl
  | x :: r, h, h6, hl => by
    obtain ⟨k, s, n, rfl, hF, hn⟩ := h x (by simp)
    rw [join_text] at hl ⊢
    have hS : showD (mkT k s n) = showP k s n := rfl
    rw [hS] at hl ⊢
    have hp : ∀ q ∈ r.map fun d => (([32] : List UInt8), d), gapOk q.1 ∧ fitT q.2 := fun q hq => by
      obtain ⟨y, hy, rfl⟩ := List.mem_map.1 hq
      exact ⟨gap1, h y (by simp [hy])⟩
    have hrest : okRest (textOf (r.map fun d => (([32] : List UInt8), d)) []) := by
      cases r with
      | nil => exact .inl rfl
      | cons y r => rw [List.map_cons, textOf_cons]; exact .inr ⟨32, _, rfl, .inl rfl⟩
    obtain ⟨h1, c, r2, h2, h3, h4, h5⟩ := tok_show hF hn hrest
    obtain ⟨R, hR⟩ : ∃ R, textOf (r.map fun d => (([32] : List UInt8), d)) [] = R := ⟨_, rfl⟩
    obtain ⟨L, hL⟩ : ∃ L, showP k s n ++ R = L := ⟨_, rfl⟩
    rw [hR] at h1 hl ⊢
    rw [hL] at h1 hl ⊢
    have hpos : 0 < (showP k s n).length := by rw [h2]; simp
    have hLl : L.length = (showP k s n).length + R.length := by rw [← hL]; simp
    have hb : betw L 0 = 0 := by
      unfold betw; rw [List.drop_zero, ← hL, h2]; simp [gapL, h3, h4, h5]
    have z1 : ((((showP k s n).length : Nat) : Int) == 0) = false := by rw [beq_eq_false_iff_ne]; omega
    unfold lexP
    rw [if_neg (by simp only [decide_eq_true_eq]; omega), hb, lexF_succ, if_neg (by simp only [decide_eq_true_eq]; omega), tokP_Q (by omega), List.drop_zero, h1]
    simp only
    rw [if_neg (by rw [z1]; decide), if_neg (by decide), Nat.zero_add]
    have hd : L.drop (showP k s n).length = R := by rw [← hL]; simp
    have hb2 := betw_le (l := L) (a := (showP k s n).length) (by omega)
    rw [lex_items (r.map fun d => (([32] : List UInt8), d)) [] L.length L (showP k s n).length ([] ++ [mkT k s n]) hp (.inl rfl) rfl (by rw [hd, hR]) (by omega) (by omega) (by simp at h6 ⊢; omega)]
    have e : (r.map fun d => (([32] : List UInt8), d)).map (·.2) = r := by
      rw [List.map_map]; exact (List.map_congr_left fun _ _ => rfl).trans (List.map_id r)
    rw [e]; rfl
set_option maxHeartbeats 16000000 in
theorem main7 (xs : List D) (bn : Bool) (hx : ∀ x ∈ xs, isTkR x) (hxl : xs.length ≤ 2 ^ 47) (H : Hp) (T : Tk) :
    W (Snd Tryd.prog) c7 (endQ [.inl 2] (fun r _ _ => r = .bool true)) ⟨argT [sliceD bn xs], H, T⟩ := by
  refine W_mono (X := XL [(8, φtrueD), (9, φfew), (10, φform), (11, φshow), (12, φlex), (13, φsame2), (17, φljoin)]) (Ok.X (.cons ok8 (.cons ok9 (.cons ok10 (.cons ok11 (.cons ok12 (.cons ok13b (.cons ok17 .nil)))))))) (fun _ _ h => h) ?_
  have hTs := isTks (n := bn) hx hxl
  have p1 : φtrueD [] = some (.bool true) := rfl
  have p2 : φfew [sliceD bn xs, .int .i64 60] = some (.bool (fewT xs 60)) := by simp only [φfew]; rw [if_pos hTs, elems_sliceD]
  have eX : D.eraseL xs = xs := toks_erase fun x h => isTkR_tok (hx x h)
  rcases tf (fewT xs 60) with f | f
  · rw [f] at p2
    unfold fewT at f
    simp only [Bool.and_eq_true, decide_eq_true_eq] at f
    obtain ⟨f1, f2⟩ := f
    have f2 : xs.length ≤ 60 := by omega
    have small : ∀ x ∈ xs, (tkS x).length ≤ 200 := fun x h => by
      rw [List.take_of_length_le (by omega)] at f1
      have := List.all_eq_true.1 f1 x h
      simp only [decide_eq_true_eq] at this; omega
    have hsm : ∀ x ∈ xs, isSm x := fun x h => by
      obtain ⟨k, s, m, e, hs, hm0, hm⟩ := hx x h
      have := small x h
      rw [e] at this
      exact ⟨k, s, m, e, this, hm⟩
    simp (config := { contextual := true, maxSteps := 10000000 }) only [c7, p1, eX, p2, go_sem, Nat.reduceAdd, Nat.reduceSub, Nat.reduceMul, Nat.reduceEqDiff, Nat.reduceLeDiff, Nat.reduceLT, Int.reduceToNat, Int.reduceLE, Int.reduceLT, Int.reduceEq, Int.reduceNe, Int.reduceBEq, Int.reduceBNe, Nat.reduceBEq, Nat.reduceBNe, ↓reduceIte, reduceCtorEq, ↓reduceDIte, W_draw]
    refine W_for (fun i s' => s'.t 0 = sliceD bn xs ∧ s'.t 4 = .int .i64 (i : Nat) ∧ s'.t 3 = .str (Lib.join ((xs.take i).map showD) [32]) ∧ i ≤ xs.length ∧ (Lib.join ((xs.take i).map showD) [32]).length ≤ i * 403 ∧ ∀ x ∈ xs.take i, fitT x) xs.length ⟨0, by simp [upd, argT, Lib.join_nil]⟩ (fun i s h => h.2.2.2.1) ?_ (XL_mono _)
    rintro i ⟨t, B, T'⟩ ⟨r0, r4, r3, hi, hlen, hit⟩
    simp only at r0 r4 r3
    by_cases hlt : i < xs.length
    · have d1 : decide (((i : Nat) : Int) < xs.length) = true := by simp only [decide_eq_true_eq]; omega
      have ex : xs[i]? = some xs[i] := by simp [hlt]
      have hss := small _ (List.getElem_mem hlt)
      obtain ⟨k, s, m, e, hs, hm0, hm⟩ := hx _ (List.getElem_mem hlt)
      rw [e] at ex hss
      have hss : s.length ≤ 200 := hss
      have pf : φform [.agg [.int .i64 k, .str s, .int .i64 m]] = some (.bool (formI k s m)) := by simp only [φform]; rw [if_pos (by omega)]
      have tk : xs.take (i + 1) = xs.take i ++ [mkT k s m] := by rw [List.take_add_one, ex]; rfl
      have ex' := ex
      simp only [mkT] at ex'
      rcases tf (formI k s m) with g | g
      · rw [g] at pf
        have psh : φshow [.agg [.int .i64 k, .str s, .int .i64 m]] = some (.str (showP k s m)) := by
          simp only [φshow]; rw [if_pos ⟨by omega, fun h => ⟨form_pos g h, hm⟩⟩]
        have sl := showP_len (k := k) (s := s) (n := m) hss fun _ => hm
        have eD : showD (mkT k s m) = showP k s m := rfl
        have hne : (xs.take i).map showD = [] ↔ i = 0 := by
          rw [List.map_eq_nil_iff, List.take_eq_nil_iff]
          constructor
          · rintro (h | h)
            · exact h
            · rw [h] at hlt; simp at hlt
          · exact .inl
        have jn : Lib.join ((xs.take (i + 1)).map showD) [32] = if i = 0 then showP k s m else Lib.join ((xs.take i).map showD) [32] ++ ([32] ++ showP k s m) := by
          rw [tk, List.map_append, List.map_cons, List.map_nil, join_snoc, eD]
          by_cases h : i = 0
          · rw [if_pos (hne.2 h), if_pos h]
          · rw [if_neg (fun e => h (hne.1 e)), if_neg h]
        have fin2 : ∀ x ∈ xs.take (i + 1), fitT x := fun x hx' => by
          rw [tk] at hx'
          rcases List.mem_append.1 hx' with hx' | hx'
          · exact hit x hx'
          · rw [List.mem_singleton] at hx'; subst hx'; exact ⟨k, s, m, rfl, g, hm⟩
        obtain ⟨J, hJ⟩ : ∃ J, Lib.join ((xs.take i).map showD) [32] = J := ⟨_, rfl⟩
        rw [hJ] at r3 hlen jn
        by_cases h0 : i = 0
        · have d2 : decide ((0 : Int) < (i : Nat)) = false := by simp only [decide_eq_false_iff_not]; omega
          rw [if_pos h0] at jn
          have J0 : J = [] := by
            have : J.length ≤ 0 := by rw [h0] at hlen; omega
            exact List.length_eq_zero_iff.1 (by omega)
          have sa : bin2 .add (.str J) (.str (showP k s m)) = some (.str (Lib.join ((xs.take (i + 1)).map showD) [32])) := by
            rw [sadd (by omega), jn, J0]; rfl
          simp (config := { contextual := true, maxSteps := 10000000 }) only [r0, r4, r3, d1, ex', pf, d2, psh, sa, wrap_su i (by omega), go_sem, Nat.reduceAdd, Nat.reduceSub, Nat.reduceMul, Nat.reduceEqDiff, Nat.reduceLeDiff, Nat.reduceLT, Int.reduceToNat, Int.reduceLE, Int.reduceLT, Int.reduceEq, Int.reduceNe, Int.reduceBEq, Int.reduceBNe, Nat.reduceBEq, Nat.reduceBNe, ↓reduceIte, reduceCtorEq, ↓reduceDIte, W_draw]
          exact ⟨by omega, by rw [jn]; omega, fin2⟩
        · have d2 : decide ((0 : Int) < (i : Nat)) = true := by simp only [decide_eq_true_eq]; omega
          rw [if_neg h0] at jn
          have sa1 := sadd (a := J) (b := [32]) (by simp; omega)
          have sa2 : bin2 .add (.str (J ++ [32])) (.str (showP k s m)) = some (.str (Lib.join ((xs.take (i + 1)).map showD) [32])) := by
            rw [sadd (by simp; omega), jn]; simp
          simp (config := { contextual := true, maxSteps := 10000000 }) only [r0, r4, r3, d1, ex', pf, d2, sa1, psh, sa2, wrap_su i (by omega), go_sem, Nat.reduceAdd, Nat.reduceSub, Nat.reduceMul, Nat.reduceEqDiff, Nat.reduceLeDiff, Nat.reduceLT, Int.reduceToNat, Int.reduceLE, Int.reduceLT, Int.reduceEq, Int.reduceNe, Int.reduceBEq, Int.reduceBNe, Nat.reduceBEq, Nat.reduceBNe, ↓reduceIte, reduceCtorEq, ↓reduceDIte, W_draw]
          exact ⟨by omega, by rw [jn]; simp; omega, fin2⟩
      · rw [g] at pf
        simp (config := { contextual := true, maxSteps := 10000000 }) only [r0, r4, r3, d1, ex', pf, go_sem, Nat.reduceAdd, Nat.reduceSub, Nat.reduceMul, Nat.reduceEqDiff, Nat.reduceLeDiff, Nat.reduceLT, Int.reduceToNat, Int.reduceLE, Int.reduceLT, Int.reduceEq, Int.reduceNe, Int.reduceBEq, Int.reduceBNe, Nat.reduceBEq, Nat.reduceBNe, ↓reduceIte, reduceCtorEq, ↓reduceDIte, W_draw]
    · have d1 : decide (((i : Nat) : Int) < xs.length) = false := by simp only [decide_eq_false_iff_not]; omega
      have ei : i = xs.length := by omega
      have et : xs.take i = xs := by rw [ei, List.take_length]
      rw [et] at r3 hlen hit
      have eF : xs.map showF = xs.map showD := List.map_congr_left fun x hx' => by
        obtain ⟨k, s, n, rfl, hF, _⟩ := hit x hx'
        show (if formI k s n then showP k s n else []) = showP k s n
        rw [hF, if_pos rfl]
      have pj : φljoin [sliceD bn xs] = some (.str (Lib.join (xs.map showD) [32])) := by
        simp only [φljoin]; rw [elems_sliceD, if_pos ⟨⟨bn, xs, rfl, hxl, hsm⟩, f2⟩, eF]
      have hX := lex_joined xs hit (by omega)
      obtain ⟨S, hS⟩ : ∃ S, Lib.join (xs.map showD) [32] = S := ⟨_, rfl⟩
      rw [hS] at r3 hlen pj hX
      have hY := lexP_long (l := S)
      have ne : (S != S) = false := by simp
      by_cases hbig : 4096 < S.length
      · have d2 : decide ((4096 : Int) < S.length) = true := by simp only [decide_eq_true_eq]; omega
        have pl : φlex [.str S] = some (.tup [.nils, .int .i64 0, .int .i64 3]) := by
          simp only [φlex]; rw [if_pos (by omega), hY hbig]; rfl
        simp (config := { contextual := true, maxSteps := 10000000 }) only [r0, r4, r3, d1, eX, pj, ne, pl, d2, go_sem, Nat.reduceAdd, Nat.reduceSub, Nat.reduceMul, Nat.reduceEqDiff, Nat.reduceLeDiff, Nat.reduceLT, Int.reduceToNat, Int.reduceLE, Int.reduceLT, Int.reduceEq, Int.reduceNe, Int.reduceBEq, Int.reduceBNe, Nat.reduceBEq, Nat.reduceBNe, ↓reduceIte, reduceCtorEq, ↓reduceDIte, W_draw]
      · have d2 : decide ((4096 : Int) < S.length) = false := by simp only [decide_eq_false_iff_not]; omega
        have pl : φlex [.str S] = some (.tup [sliceD true xs, .int .i64 0, .int .i64 0]) := by
          simp only [φlex]; rw [if_pos (by omega), hX (by omega)]; rfl
        have ps : φsame2 [sliceD true xs, sliceD bn xs] = some (.bool true) := by
          simp only [φsame2]; rw [if_pos ⟨isTks hx hxl, hTs, by rw [elems_sliceD, elems_sliceD]⟩]
        simp (config := { contextual := true, maxSteps := 10000000 }) only [r0, r4, r3, d1, eX, pj, ne, pl, d2, ps, go_sem, Nat.reduceAdd, Nat.reduceSub, Nat.reduceMul, Nat.reduceEqDiff, Nat.reduceLeDiff, Nat.reduceLT, Int.reduceToNat, Int.reduceLE, Int.reduceLT, Int.reduceEq, Int.reduceNe, Int.reduceBEq, Int.reduceBNe, Nat.reduceBEq, Nat.reduceBNe, ↓reduceIte, reduceCtorEq, ↓reduceDIte, W_draw]
  · rw [f] at p2
    simp (config := { contextual := true, maxSteps := 10000000 }) only [c7, p1, eX, p2, go_sem, Nat.reduceAdd, Nat.reduceSub, Nat.reduceMul, Nat.reduceEqDiff, Nat.reduceLeDiff, Nat.reduceLT, Int.reduceToNat, Int.reduceLE, Int.reduceLT, Int.reduceEq, Int.reduceNe, Int.reduceBEq, Int.reduceBNe, Nat.reduceBEq, Nat.reduceBNe, ↓reduceIte, reduceCtorEq, ↓reduceDIte, W_draw]
end GP
