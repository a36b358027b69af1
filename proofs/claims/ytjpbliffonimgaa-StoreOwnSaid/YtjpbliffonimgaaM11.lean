import Derived.Test.YtjpbliffonimgaaM10
set_option linter.unusedSimpArgs false
set_option linter.unnecessarySimpa false
set_option linter.unusedSectionVars false
namespace GP
open Go Go.Proofs
set_option maxRecDepth 100000
variable [HasG Try.prog]
theorem copy57 {d : D} {xs : List D} {H : Hp} {T : Tk} {Q : Post} (hs : appSrcM H false 7 d = some xs) (hd : okD d = true) (hx : ∀ x ∈ xs, isRw x) (hl : xs.length ≤ 2 ^ 30) (k0 : xs = [] → Q .nils H T)
    (k : ∀ B o c X, Ext H B → H.length ≤ o → B[o]? = some (.row (flatD xs ++ X)) → xs.length ≤ c → X.length = (c - xs.length) * 7 → Q (.ms true 7 o 0 xs.length c) B T) : Snd Try.prog 57 [d] H T Q := by
  have hM : MonoH [] := .nil
  have hX := XG_mono (P := Try.prog) [96] [(84, φcl 4)] [] [] []
  refine call_of fn57 (by simp) (W_mono (X := XG Try.prog [96] [(84, φcl 4)] [] [] []) (XG.X (.cons ok84i .nil) .nil .nil .nil) (fun _ _ h => h) ?_)
  simp +contextual (maxSteps := 10000000) only [c57, XG_eq, go_sem, W_draw]
  refine clone96 hs hd hx hl (fun h0 => ?_) fun B o c X hn hE ho hrow hcc hX2 _ => ?_
  · have d0 : decide ((0 : Int) < 0) = false := rfl
    simp +contextual (maxSteps := 10000000) only [XG_eq, go_sem, W_draw]
    refine W_for (fun i s' => s'.t 3 = .nils ∧ s'.t 8 = .int .i64 0 ∧ s'.t 9 = .int .i64 0 ∧ s'.H = H ∧ s'.T = T ∧ i ≤ 0) 0 ⟨0, by simp [upd], by simp [upd], by simp [upd], rfl, rfl, Nat.le_refl _⟩ (fun i s h => h.2.2.2.2.2) ?_ hX
    rintro i ⟨t, B, U⟩ ⟨r3, r8, r9, rfl, rfl, hi⟩
    simp only at r3 r8 r9
    simp +contextual (maxSteps := 10000000) only [r3, r8, r9, d0, go_sem, W_draw]
    refine k0 ?_
    rcases h0 with rfl | rfl
    · injection hs with hs; exact hs.symm
    · injection hs with hs; exact hs.symm
  · simp +contextual (maxSteps := 10000000) only [XG_eq, go_sem, W_draw]
    have hag := rows_ag hx
    refine W_for (fun i s' => s'.t 3 = .ms true 7 o 0 xs.length c ∧ s'.t 8 = .int .i64 xs.length ∧ s'.t 9 = .int .i64 (i : Nat) ∧ s'.H = B ∧ s'.T = T ∧ i ≤ xs.length) xs.length ⟨0, by simp [upd], by simp [upd], by simp [upd], rfl, rfl, by omega⟩ (fun i s h => h.2.2.2.2.2) ?_ hX
    rintro i ⟨t, B', U⟩ ⟨r3, r8, r9, rfl, rfl, hi⟩
    simp only at r3 r8 r9 hE hrow
    by_cases hlt : i < xs.length
    · have d1 : decide ((i : Int) < xs.length) = true := by simpa using hlt
      obtain ⟨r, hr, hro⟩ := hx _ (List.getElem_mem hlt)
      have e : xs[i]? = some (rwD r) := by rw [← hr]; simp [hlt]
      obtain ⟨tl, hcell⟩ := row_cell (rest := X) hrow hag e
      have p84 := clL_rows hro
      have er := hro.eL
      have i1 := ia_msN (ag := true) (sz := 7) (o := o) (off := 0) (cap := c) (k := .i64) hlt
      rw [Nat.zero_add] at i1
      simp +contextual (maxSteps := 10000000) only [r3, r8, r9, d1, i1, hcell, p84, er, ld, List.head?_cons, XG_eq, pcallG hM, lookH_nil, orK_n, orK_s, go_sem, W_draw]
      refine st_same hcell ?_ ?_ ?_
      · rcases sliceD_cases r.n r.l with ⟨e, _⟩ | e <;> rw [e] <;> rfl
      · rcases sliceD_cases r.n r.l with ⟨e, _⟩ | e <;> rw [e] <;> rfl
      · simp +contextual (maxSteps := 10000000) only [r3, r8, r9, wrap_succ i (by omega), go_sem, W_draw]
        omega
    · have d1 : decide ((i : Int) < xs.length) = false := by simpa using hlt
      simp +contextual (maxSteps := 10000000) only [r3, r8, r9, d1, go_sem, W_draw]
      exact k _ o c X hE ho hrow hcc hX2
set_option maxHeartbeats 4000000 in
theorem clone_snd {p : Nat} {S : List Nat} {f : D} {xs : List D} {H : Hp} {T : Tk} {Q : Post} (h : StoS H p S f xs) (hfl : (elems f).length ≤ 2 ^ 30)
    (k : ∀ B q S', Ext H B → StoS B q S' f xs → (∀ o ∈ S', H.length ≤ o) → Q (.ptr q 0) B T) : Snd Try.prog 27 [.ptr p 0] H T Q := by
  have hM : MonoH [] := .nil
  have hX := XG_mono (P := Try.prog) [57] [(58, φcl 4)] [] [] []
  refine call_of fn27 (by simp) (W_mono (X := XG Try.prog [57] [(58, φcl 4)] [] [] []) (XG.X (.cons ok58i .nil) .nil .nil .nil) (fun _ _ h => h) ?_)
  obtain ⟨oo, d, hoS, hp, hs⟩ := h.own
  have hag := rows_ag h.rws
  obtain ⟨od, cd, ed, okd, ldd⟩ := hs.cell
  have hEh : Ext H (H ++ [Ob.hole]) := Ext.of _ _
  have gp := rdAt_of (hEh.get hp)
  have hsrc := src_mono (hle_ext hEh) (hs.src hag)
  have hxl := h.len
  have pcl := cl_fs h.hF hfl
  obtain ⟨ef, of, cf⟩ := isF_lc h.hF
  simp +contextual (maxSteps := 10000000) only [c27, gp, ld, List.take_zero, List.nil_append, List.drop_succ_cons, List.drop_zero, List.head?_cons, nilc_ptr, pcl, ef, of, cf, XG_eq, pcallG hM, lookH_nil, orK_n, orK_s, go_sem, W_draw]
  refine copy57 hsrc okd h.rws (by omega) (fun h0 => ?_) fun B o c X hE ho hrow hcc hX2 => ?_
  · simp +contextual (maxSteps := 10000000) only [of, cf, go_sem, W_draw]
    subst h0
    refine k _ (H.length + 1) [H.length + 1] (Ext.of _ _) ⟨by simp, by simp, h.hF, h.kind, h.rws, h.ris, h.len, H.length + 1, .nils, by simp, by simp, .inl ⟨rfl, rfl⟩⟩ (by simp)
  · simp +contextual (maxSteps := 10000000) only [of, cf, go_sem, W_draw]
    have hoB := lt_get hrow
    have hHB : H.length + 1 ≤ B.length := by
      obtain ⟨L, rfl⟩ := hE; simp
    refine k _ B.length [B.length, o] ((hEh.trans hE).app _) ⟨fun z hz => ?_, by simp, h.hF, h.kind, h.rws, h.ris, h.len, o, _, by simp, by simp, .inr ⟨c, X, rfl, by rw [List.getElem?_append_left hoB]; exact hrow, hcc, hX2⟩⟩ fun z hz => ?_
    · simp only [List.mem_cons, List.not_mem_nil, or_false] at hz
      rcases hz with rfl | rfl <;> simp <;> omega
    · simp only [List.mem_cons, List.not_mem_nil, or_false] at hz
      simp at ho
      rcases hz with rfl | rfl <;> omega
def InM (base o : Nat) (B : Hp) (v : D) : Prop := v = .nils ∨ ∃ o' m c cs, v = .ms true 4 o' 0 m c ∧ base ≤ o' ∧ o' ≠ o ∧ B[o']? = some (.row cs) ∧ m * 4 ≤ cs.length ∧ m ≤ 2 ^ 30 ∧ ∀ j, j < m → ∃ z, cs[j * 4 + 1]? = some (.int .i64 z)
def Told (base o n : Nat) (B : Hp) : Prop := base ≤ o ∧ ∃ cs, B[o]? = some (.row cs) ∧ n * 7 ≤ cs.length ∧ ∀ i, i < n → ∃ v, cs[i * 7 + 6]? = some v ∧ InM base o B v
theorem appm_new4 {K : D → S → Prop} {t : Nat → D} {U : Tk} {P : Hp} {xs : List D} (hag : isAg 4 xs) (hl : xs.length ≤ 2 ^ 30) (k : ∀ H' o' c' X, Ext P H' → P.length ≤ o' → H'[o']? = some (.row (flatD xs ++ X)) → xs.length ≤ c' → K (.ms true 4 o' 0 xs.length c') ⟨t, H', U⟩) :
    appmK true 4 56 K ⟨t, P ++ [.row []], U⟩ (.ms true 4 P.length 0 0 0) (some xs) := by
  refine ⟨hag.fit, ?_⟩
  have ho : (P ++ [Ob.row []])[P.length]? = some (.row []) := by simp
  simp only [ho]
  refine ⟨trivial, ?_⟩
  by_cases h0 : xs = []
  · subst h0
    rw [if_pos (by simp)]
    refine ⟨by simp, ?_⟩
    refine k _ P.length 0 [] (Ext.set (Ext.of _ _) (Nat.le_refl _) _) (Nat.le_refl _) ?_ (by simp)
    rw [List.getElem?_set_self (by simp)]; simp [flatD]
  · have : 0 < xs.length := List.length_pos_iff.2 h0
    rw [if_neg (by omega)]
    refine ⟨trivial, by simp, by omega, by omega, fun c' X hc hX hX1 => ?_⟩
    rw [Nat.zero_add] at hc hX
    have := k ((P ++ [Ob.row []]).set P.length .dead ++ [.row (flatD xs ++ X)]) (P ++ [Ob.row []]).length c' X ((Ext.set (Ext.of _ _) (Nat.le_refl _) _).app _) (by simp) (by simp) hc
    simpa using this
theorem clone84m {n : Bool} {l : List D} {H : Hp} {T : Tk} {Q : Post} (hag : isAg 4 l) (hl : l.length ≤ 2 ^ 30) (k0 : Q .nils H T)
    (k : ∀ H' o c X, Ext H H' → H.length ≤ o → H'[o]? = some (.row (flatD l ++ X)) → l.length ≤ c → Q (.ms true 4 o 0 l.length c) H' T) : Snd Try.prog 84 [sliceD n l] H T Q := by
  refine call_of fn84m (by simp) (W_mono (X := XL []) (Ok.X .nil) (fun _ _ h => h) ?_)
  rcases sliceD_cases n l with ⟨e, _⟩ | e
  · rw [e]
    simp +contextual (maxSteps := 10000000) only [c84m, go_sem, W_draw]
    exact k0
  · rw [e]
    cases l with
    | nil =>
      simp +contextual (maxSteps := 10000000) only [c84m, go_sem, W_draw]
      refine ⟨k0, ?_⟩
      refine appm_new4 (P := H) (xs := []) hag (by simp) fun H' o' c X h1 h2 h3 h4 => ?_
      simp +contextual (maxSteps := 10000000) only [go_sem, W_draw]
      exact k H' o' c X h1 h2 h3 h4
    | cons y r =>
      simp +contextual (maxSteps := 10000000) only [c84m, go_sem, W_draw]
      refine appm_new4 (P := H) (xs := y :: r) hag hl fun H' o' c X h1 h2 h3 h4 => ?_
      simp +contextual (maxSteps := 10000000) only [go_sem, W_draw]
      exact k H' o' c X h1 h2 h3 h4
theorem drop_at {cs : List D} {i : Nat} {v : D} (h : cs[i]? = some v) : cs.drop i = v :: cs.drop (i + 1) := by
  have hi : i < cs.length := by
    rcases Nat.lt_or_ge i cs.length with h' | h'
    · exact h'
    · rw [List.getElem?_eq_none h'] at h; cases h
  rw [List.getElem?_eq_getElem hi] at h
  injection h with h
  rw [List.drop_eq_getElem_cons hi, h]
theorem rd_cell {H : Hp} {o off : Nat} {cs : List D} {v : D} (ho : H[o]? = some (.row cs)) (h : cs[off]? = some v) : rdAt H (.ptr o off) = some (v :: cs.drop (off + 1)) := by
  simp only [rdAt, ho]; rw [drop_at h]
theorem st_set {K : D → S → Prop} {t : Nat → D} {H : Hp} {T : Tk} {o off : Nat} {v : D} {cs : List D} (ho : H[o]? = some (.row cs)) (hl : off < cs.length) (hv : v.okc = true) (hc : v.cells = [v]) (k : K .top ⟨t, H.set o (.row (cs.set off v)), T⟩) : storeK 1 K ⟨t, H, T⟩ (.ptr o off) v := by
  simp only [storeK, ho]
  refine ⟨hv, by rw [hc]; rfl, by omega, ?_⟩
  have e : cs.set off v = cs.take off ++ v :: cs.drop (off + 1) := by rw [List.set_eq_take_append_cons_drop, if_pos hl]
  rw [e] at k
  rw [hc, List.append_assoc, List.singleton_append]
  exact k
theorem flat_cell : ∀ {l : List D} {X : List D}, (∀ d ∈ l, d.isV = true) → ∀ j, j < l.length → ∃ z, (flatD l ++ X)[j * 4 + 1]? = some (.int .i64 z)
  | [], _, _, j, hj => by simp at hj
  | d :: l, X, hv, j, hj => by
    obtain ⟨k, i, s, n, m, rfl, _⟩ := isV_elim (hv d (by simp))
    have hc : (mkV k i s n m).cells = [.int .i64 k, .int .i64 i, .str s, sliceD n m] := rfl
    rw [flatD_cons, hc]
    cases j with
    | zero => exact ⟨i, rfl⟩
    | succ j =>
      obtain ⟨z, hz⟩ := flat_cell (X := X) (fun d hd => hv d (List.mem_cons_of_mem _ hd)) j (by simpa using hj)
      refine ⟨z, ?_⟩
      have e : (j + 1) * 4 + 1 = (j * 4 + 1) + 4 := by omega
      rw [e]
      exact hz
theorem InM.mono {base o : Nat} {B B' : Hp} {v : D} (h : InM base o B v) (k : ∀ z, z ≠ o → ∀ x, B[z]? = some x → B'[z]? = some x) : InM base o B' v := by
  rcases h with h | ⟨o', m, c, cs, h1, h2, h3, h4, h5, h6⟩
  · exact .inl h
  · exact .inr ⟨o', m, c, cs, h1, h2, h3, k _ h3 _ h4, h5, h6⟩
set_option maxHeartbeats 4000000 in
theorem copy57m {d : D} {xs : List D} {H : Hp} {T : Tk} {Q : Post} (hs : appSrcM H false 7 d = some xs) (hd : okD d = true) (hx : ∀ x ∈ xs, isRw x) (hl : xs.length ≤ 2 ^ 30) (k0 : xs = [] → Q .nils H T)
    (k : ∀ B o c, Ext H B → Told H.length o xs.length B → Q (.ms true 7 o 0 xs.length c) B T) : Snd Try.prog 57 [d] H T Q := by
  have hX := XG_mono (P := Try.prog) [96, 84] [] [] [] []
  refine call_of fn57m (by simp) (W_mono (X := XG Try.prog [96, 84] [] [] [] []) (XG.X .nil .nil .nil .nil) (fun _ _ h => h) ?_)
  simp +contextual (maxSteps := 10000000) only [c57m, XG_eq, go_sem, W_draw]
  refine clone96 hs hd hx hl (fun h0 => ?_) fun B o c X hn hE ho hrow hcc hX2 _ => ?_
  · have d0 : decide ((0 : Int) < 0) = false := rfl
    simp +contextual (maxSteps := 10000000) only [XG_eq, go_sem, W_draw]
    refine W_for (fun i s' => s'.t 3 = .nils ∧ s'.t 8 = .int .i64 0 ∧ s'.t 9 = .int .i64 0 ∧ s'.H = H ∧ s'.T = T ∧ i ≤ 0) 0 ⟨0, by simp [upd], by simp [upd], by simp [upd], rfl, rfl, Nat.le_refl _⟩ (fun i s h => h.2.2.2.2.2) ?_ hX
    rintro i ⟨t, B, U⟩ ⟨r3, r8, r9, rfl, rfl, hi⟩
    simp only at r3 r8 r9
    simp +contextual (maxSteps := 10000000) only [r3, r8, r9, d0, go_sem, W_draw]
    refine k0 ?_
    rcases h0 with rfl | rfl
    · injection hs with hs; exact hs.symm
    · injection hs with hs; exact hs.symm
  · simp +contextual (maxSteps := 10000000) only [XG_eq, go_sem, W_draw]
    have hag := rows_ag hx
    have hcell0 : ∀ j, j < xs.length → ∀ r, xs[j]? = some (rwD r) → (flatD xs ++ X)[j * 7 + 6]? = some (sliceD r.n r.l) := fun j hj r hr => by
      obtain ⟨tl, ht⟩ := row_cell (rest := X) hrow hag hr
      simp only [rdAt, hrow] at ht
      injection ht with ht
      have := congrArg List.head? ht
      rw [List.head?_drop] at this
      exact this
    refine W_for (fun i s' => s'.t 3 = .ms true 7 o 0 xs.length c ∧ s'.t 8 = .int .i64 xs.length ∧ s'.t 9 = .int .i64 (i : Nat) ∧ Ext H s'.H ∧ s'.T = T ∧ i ≤ xs.length ∧ ∃ cs, s'.H[o]? = some (.row cs) ∧ xs.length * 7 ≤ cs.length ∧ (∀ j, j < xs.length → i ≤ j → ∀ r, xs[j]? = some (rwD r) → cs[j * 7 + 6]? = some (sliceD r.n r.l)) ∧ (∀ j, j < i → ∃ v, cs[j * 7 + 6]? = some v ∧ InM H.length o s'.H v)) xs.length
      ⟨0, by simp [upd], by simp [upd], by simp [upd], hE, rfl, by omega, _, hrow, by rw [List.length_append, hag.flat]; omega, fun j hj _ r hr => hcell0 j hj r hr, fun j hj => by omega⟩ (fun i s h => h.2.2.2.2.2.1) ?_ hX
    rintro i ⟨t, B', U⟩ ⟨r3, r8, r9, hE2, rfl, hi, cs, hcs, hcl, hc1, hc2⟩
    simp only at r3 r8 r9 hE2 hcs hc2
    by_cases hlt : i < xs.length
    · have d1 : decide ((i : Int) < xs.length) = true := by simpa using hlt
      obtain ⟨r, hr, hro⟩ := hx _ (List.getElem_mem hlt)
      have e : xs[i]? = some (rwD r) := by rw [← hr]; simp [hlt]
      have hcell := hc1 i hlt (Nat.le_refl _) r e
      have hrd := rd_cell hcs hcell
      have i1 := ia_msN (ag := true) (sz := 7) (o := o) (off := 0) (cap := c) (k := .i64) hlt
      rw [Nat.zero_add] at i1
      have hvv := (mkV_erase hro.v.1).2.2.2
      have hag4 : isAg 4 r.l := fun x hx => by
        obtain ⟨k, i, s, n, l, rfl, _⟩ := isV_elim (hvv x hx)
        exact ⟨_, rfl, rfl⟩
      have oB := lt_get hcs
      have hoff : i * 7 + 6 < cs.length := by omega
      have done : ∀ (B2 : Hp) (v : D), Ext B' B2 → InM H.length o B2 v → Ext H (B2.set o (.row (cs.set (i * 7 + 6) v))) ∧ ∃ cs2, (B2.set o (.row (cs.set (i * 7 + 6) v)))[o]? = some (.row cs2) ∧ xs.length * 7 ≤ cs2.length ∧ (∀ j, j < xs.length → i + 1 ≤ j → ∀ r, xs[j]? = some (rwD r) → cs2[j * 7 + 6]? = some (sliceD r.n r.l)) ∧ (∀ j, j < i + 1 → ∃ u, cs2[j * 7 + 6]? = some u ∧ InM H.length o (B2.set o (.row (cs.set (i * 7 + 6) v))) u) := fun B2 v hB hv => by
        have hmono : ∀ z, z ≠ o → ∀ x, B2[z]? = some x → (B2.set o (.row (cs.set (i * 7 + 6) v)))[z]? = some x := fun z hz x hx => by
          rw [List.getElem?_set_ne (Ne.symm hz)]; exact hx
        have oB2 : o < B2.length := by obtain ⟨L, rfl⟩ := hB; simp; omega
        refine ⟨(hE2.trans hB).set ho _, cs.set (i * 7 + 6) v, by rw [List.getElem?_set_self oB2], by simpa using hcl, fun j hj hij r hr => ?_, fun j hj => ?_⟩
        · rw [List.getElem?_set_ne (by omega)]; exact hc1 j hj (by omega) r hr
        · rcases Nat.lt_or_ge j i with h' | h'
          · obtain ⟨w, hw, hm⟩ := hc2 j h'
            exact ⟨w, by rw [List.getElem?_set_ne (by omega)]; exact hw, (hm.mono fun z _ x hx => hB.get hx).mono hmono⟩
          · have : j = i := by omega
            subst this
            exact ⟨v, by rw [List.getElem?_set_self hoff], hv.mono hmono⟩
      simp +contextual (maxSteps := 10000000) only [r3, r8, r9, d1, i1, hrd, ld, List.head?_cons, XG_eq, go_sem, W_draw]
      refine clone84m hag4 hro.ll ?_ fun B2 o2 c2 X2 hEx ho2 hrow2 hcc2 => ?_
      · obtain ⟨f1, f2⟩ := done B' .nils (Ext.refl _) (.inl rfl)
        simp +contextual (maxSteps := 10000000) only [r3, r8, r9, i1, go_sem, W_draw]
        refine st_set hcs hoff rfl rfl ?_
        simp +contextual (maxSteps := 10000000) only [r3, r8, r9, wrap_succ i (by omega), go_sem, W_draw]
        exact ⟨f1, by omega, f2⟩
      · have hb0 : H.length ≤ B'.length := by obtain ⟨L, rfl⟩ := hE2; simp
        obtain ⟨f1, f2⟩ := done B2 (.ms true 4 o2 0 r.l.length c2) hEx (.inr ⟨o2, _, _, _, rfl, by omega, by omega, hrow2, by rw [List.length_append, hag4.flat]; omega, hro.ll, fun j hj => flat_cell hvv j hj⟩)
        simp +contextual (maxSteps := 10000000) only [r3, r8, r9, i1, go_sem, W_draw]
        refine st_set (hEx.get hcs) hoff rfl rfl ?_
        simp +contextual (maxSteps := 10000000) only [r3, r8, r9, wrap_succ i (by omega), go_sem, W_draw]
        exact ⟨f1, by omega, f2⟩
    · have d1 : decide ((i : Int) < xs.length) = false := by simpa using hlt
      have ei : i = xs.length := by omega
      simp +contextual (maxSteps := 10000000) only [r3, r8, r9, d1, go_sem, W_draw]
      exact k _ o c hE2 ⟨ho, cs, hcs, hcl, fun j hj => hc2 j (by omega)⟩
theorem rows18m {p : Nat} {S : List Nat} {f : D} {xs : List D} {H : Hp} {T : Tk} {Q : Post} (h : StoS H p S f xs) (k0 : xs = [] → Q .nils H T)
    (k : ∀ B o c, Ext H B → Told H.length o xs.length B → Q (.ms true 7 o 0 xs.length c) B T) : Snd Try.prog 18 [.ptr p 0] H T Q := by
  refine call_of fn18m (by simp) (W_mono (X := XG Try.prog [57] [] [] [] []) (XG.X .nil .nil .nil .nil) (fun _ _ h => h) ?_)
  obtain ⟨oo, d, hoS, hp, hs⟩ := h.own
  have hag := rows_ag h.rws
  obtain ⟨od, cd, ed, okd, ldd⟩ := hs.cell
  have gp := rdAt_of hp
  have hxl := h.len
  simp +contextual (maxSteps := 10000000) only [c18m, gp, ld, List.drop_succ_cons, List.drop_zero, List.head?_cons, nilc_ptr, XG_eq, go_sem, W_draw]
  refine copy57m (hs.src hag) okd h.rws (by omega) (fun h0 => ?_) fun B o c hE hT => ?_
  · simp +contextual (maxSteps := 10000000) only [go_sem, W_draw]
    exact k0 h0
  · simp +contextual (maxSteps := 10000000) only [go_sem, W_draw]
    exact k B o c hE hT
end GP
namespace GP
open Go Go.Proofs
set_option maxRecDepth 100000
variable [HasG Try.prog]
theorem isLs_okc {p : D → Prop} {d : D} (h : isLs p d) : d.okc = true ∧ d.cells = [d] := by
  obtain ⟨n, l, rfl, _⟩ := h
  rcases sliceD_cases n l with ⟨e, _⟩ | e <;> rw [e] <;> exact ⟨rfl, rfl⟩
end GP
namespace GP
open Go Go.Proofs
set_option maxRecDepth 100000
variable [HasG Try.prog]
theorem lt_getA' {α : Type} {l : List α} {i : Nat} {x : α} (h : l[i]? = some x) : i < l.length := by
  rcases Nat.lt_or_ge i l.length with h' | h'
  · exact h'
  · rw [List.getElem?_eq_none h'] at h; cases h
theorem Told.name {base o n : Nat} {B : Hp} {cs : List D} {off : Nat} {v : D} (h : Told base o n B) (hcs : B[o]? = some (.row cs)) (ho : off % 7 ≠ 6) : Told base o n (B.set o (.row (cs.set off v))) := by
  obtain ⟨h1, cs', h2, h3, h4⟩ := h
  rw [hcs] at h2
  injection h2 with h2; injection h2 with h2
  subst h2
  refine ⟨h1, _, List.getElem?_set_self (lt_get hcs), by simpa using h3, fun i hi => ?_⟩
  obtain ⟨u, hu, hm⟩ := h4 i hi
  refine ⟨u, by rw [List.getElem?_set_ne (by omega)]; exact hu, hm.mono fun z hz x hx => ?_⟩
  rw [List.getElem?_set_ne (Ne.symm hz)]; exact hx
theorem Told.inner {base o n : Nat} {B : Hp} {cs : List D} {i o' m c : Nat} (h : Told base o n B) (hi : i < n) (hcs : B[o]? = some (.row cs)) (hv : cs[i * 7 + 6]? = some (.ms true 4 o' 0 m c)) (k : Nat) (hk : k < m) :
    ∃ cs', B[o']? = some (.row cs') ∧ k * 4 + 1 < cs'.length ∧ ∃ z, cs'[k * 4 + 1]? = some (.int .i64 z) ∧ True := by
  obtain ⟨h1, cs', h2, h3, h4⟩ := h
  rw [hcs] at h2
  injection h2 with h2; injection h2 with h2
  subst h2
  obtain ⟨u, hu, hm⟩ := h4 i hi
  rw [hv] at hu
  injection hu with hu
  subst hu
  rcases hm with hm | ⟨o2, m2, c2, cs2, e, k1, k2, k3, k4, km, k5⟩
  · cases hm
  · injection e with _ _ e1 _ e2 e3
    subst e1; subst e2
    obtain ⟨z, hz⟩ := k5 k hk
    exact ⟨cs2, k3, by omega, z, hz, trivial⟩
theorem Told.int {base o n : Nat} {B : Hp} {cs : List D} {o' : Nat} (h : Told base o n B) (ho : o' ≠ o) (hcs : B[o']? = some (.row cs)) (k : Nat) (z : Int) : Told base o n (B.set o' (.row (cs.set (k * 4 + 1) (.int .i64 z)))) := by
  obtain ⟨h1, cs', h2, h3, h4⟩ := h
  refine ⟨h1, cs', by rw [List.getElem?_set_ne ho]; exact h2, h3, fun i hi => ?_⟩
  obtain ⟨u, hu, hm⟩ := h4 i hi
  refine ⟨u, hu, ?_⟩
  rcases hm with hm | ⟨o2, m2, c2, cs2, e, k1, k2, k3, k4, km, k5⟩
  · exact .inl hm
  · by_cases h2 : o2 = o'
    · subst h2
      rw [hcs] at k3
      injection k3 with k3; injection k3 with k3
      subst k3
      refine .inr ⟨o2, m2, c2, _, e, k1, k2, List.getElem?_set_self (lt_get hcs), by simpa using k4, km, fun j hj => ?_⟩
      by_cases hjk : j = k
      · subst hjk
        exact ⟨z, List.getElem?_set_self (by have := lt_getA' (k5 j hj).choose_spec; exact this)⟩
      · obtain ⟨y, hy⟩ := k5 j hj
        exact ⟨y, by rw [List.getElem?_set_ne (by omega)]; exact hy⟩
    · exact .inr ⟨o2, m2, c2, cs2, e, k1, k2, by rw [List.getElem?_set_ne (Ne.symm h2)]; exact k3, k4, km, k5⟩
set_option maxHeartbeats 16000000 in
theorem main5 {n nf : Bool} {ops fl : List D} {o : D} (hoo : isO o) (ho : ∀ x ∈ ops, isO x) (hol : ops.length ≤ 2 ^ 47) (hfl : ∀ x ∈ fl, isF x) (hfll : fl.length ≤ 2 ^ 47) {H : Hp} {T : Tk} {Q : Post} (hQ : ∀ B U, Q (.bool true) B U) :
    W (Snd Try.prog) c5 (endQ [.inl 6] Q) ⟨argT [sliceD nf fl, sliceD n ops, o], H, T⟩ := by
  have hM : MonoH [] := .nil
  have hX := XG_mono (P := Try.prog) [14, 16, 18, 27, 21, 23] [(15, φ15), (17, φ17)] [] [] []
  refine W_mono (X := XG Try.prog [14, 16, 18, 27, 21, 23] [(15, φ15), (17, φ17)] [] [] []) (XG.X (.cons ok15 (.cons ok17 .nil)) .nil .nil .nil) (fun _ _ h => h) ?_
  have hF0 : isLs isF (sliceD nf fl) := ⟨nf, fl, rfl, hfll, hfl⟩
  have ef0 : D.eraseL fl = fl := eraseL_id fun x h => isF_erase (hfl x h)
  have eo : D.eraseL ops = ops := eraseL_id fun x h => isO_erase (ho x h)
  have p15 : φ15 [sliceD nf fl, sliceD n ops, .int .i64 30] = some (.bool (fewS fl ops 30)) := by
    simp only [φ15]
    rw [if_pos ⟨hF0, n, ops, rfl, hol, ho⟩, elems_sliceD, elems_sliceD]
  have p15o : φ15 [sliceD nf fl, .sl none [o], .int .i64 1] = some (.bool (fewS fl [o] 1)) := by
    simp only [φ15]
    rw [if_pos ⟨hF0, false, [o], rfl, by simp, fun x hx => by rw [List.mem_singleton] at hx; subst hx; exact hoo⟩, elems_sliceD]; rfl
  have hof := hoo
  obtain ⟨k, r, rfl, hk0, hk1, hok0⟩ := hoo
  have er := (mkV_erase hok0.v.1).1
  simp only [mkO] at p15o
  simp +contextual (maxSteps := 10000000) only [c5, mkO, XG_eq, go_sem, W_draw]
  obtain ⟨R, hR⟩ : ∃ R, [D.int IntKind.u8 k, D.str r.who, D.str r.name, D.str r.attr, D.int IntKind.i64 r.k, D.int IntKind.i64 r.i, D.str r.s, sliceD r.n r.l] = R := ⟨_, rfl⟩
  obtain ⟨b, hb0⟩ : ∃ b, H.length = b := ⟨_, rfl⟩
  obtain ⟨H0, hH0⟩ : ∃ H0, H ++ [Ob.row R] = H0 := ⟨_, rfl⟩
  have h0b : H0[b]? = some (.row R) := by rw [← hH0, ← hb0]; simp
  have h0l : H0.length = b + 1 := by rw [← hH0, ← hb0]; simp
  rw [hR, hH0, hb0]
  have take8 : R.take 8 = R := by rw [← hR]; rfl
  have drop1 : (R.drop 1).take 7 = (rwD r).cells := by rw [← hR]; rfl
  have len8 : R.length = 8 := by rw [← hR]; rfl
  have len8b : (R.length == 8) = true := by rw [len8]; rfl
  refine awake_snd fun B1 U hE1 => ?_
  have l1 : ld true 8 (rdAt B1 (.ptr b 0)) = some (.agg R) := by rw [rdAt_of (hE1.get h0b)]; simp [ld, len8, take8]
  have erR : D.eraseL R = R := by
    have := isO_erase hof
    simp only [mkO, D.erase, D.agg.injEq] at this
    rw [← hR]; exact this
  rw [hR] at p15o
  rcases tfB (fewS fl ops 30) with hf | hf
  · rw [hf] at p15
    simp +contextual (maxSteps := 10000000) only [p15, ef0, eo, XG_eq, pcallG hM, lookH_nil, orK_n, orK_s, go_sem, W_draw]
    refine awake_snd fun B U hE => ?_
    simp +contextual (maxSteps := 10000000) only [go_sem, W_draw]
    exact hQ _ _
  rw [hf] at p15
  have hRO : mkO k r = .agg R := by rw [← hR]; rfl
  rcases tfB (fewS fl [.agg R] 1) with hfo | hfo
  · rw [hfo] at p15o
    simp +contextual (maxSteps := 10000000) only [p15, p15o, ef0, eo, l1, erR, len8b, XG_eq, pcallG hM, lookH_nil, orK_n, orK_s, go_sem, W_draw]
    refine awake_snd fun B U hE => ?_
    simp +contextual (maxSteps := 10000000) only [go_sem, W_draw]
    exact hQ _ _
  rw [hfo] at p15o
  rw [← hRO] at hfo
  obtain ⟨hol2, hfl2, hfo1⟩ := few_ops (by omega) hf
  obtain ⟨_, _, hfo2⟩ := few_ops (by omega) hfo
  obtain ⟨hok, hfx⟩ := mkO_ok (k := k) hok0 (hfo2 (mkO k r) (by simp))
  have hxr : isRw (rwD r) := ⟨r, rfl, hok⟩
  simp +contextual (maxSteps := 10000000) only [p15, p15o, ef0, eo, l1, erR, len8b, XG_eq, pcallG hM, lookH_nil, orK_n, orK_s, go_sem, W_draw]
  refine made_snd ho (by omega) hfl hfl2 hfo1 fun B2 p S rD m U2 hst hb hE2 hrd hrm hal hfw => ?_
  obtain ⟨f, hff⟩ : ∃ f, sliceD true (fl.map kindF) = f := ⟨_, rfl⟩
  obtain ⟨xs, hxs⟩ : ∃ xs, runX (fl.map kindF) ops = xs := ⟨_, rfl⟩
  have hel : elems f = fl.map kindF := by rw [← hff, elems_sliceD]
  have hfln : (elems f).length ≤ 2 ^ 30 := by rw [hel]; simp; omega
  rw [hff, hxs] at hst
  rw [hxs] at hal hfw
  rw [hff]
  obtain ⟨or, cr⟩ := isLs_okc hrd
  obtain ⟨ef, of, cf⟩ := isF_lc hst.hF
  have hst2 := hst.fr (Fr.ext [] (Ext.of B2 [Ob.row [f, rD]])) (by simp)
  have hE3 : Ext H0 (B2 ++ [Ob.row [f, rD]]) := (hE1.trans hE2).app _
  simp +contextual (maxSteps := 10000000) only [of, cf, or, cr, XG_eq, go_sem, W_draw]
  obtain ⟨C, hC⟩ : ∃ C, B2 ++ [Ob.row [f, rD]] = C := ⟨_, rfl⟩
  rw [hC] at hst2 hE3
  rw [hC]
  obtain ⟨n1, p18⟩ := hst2.rows
  have hxl := hst.len
  have exs := rows_er hst.rws
  refine ok18 _ _ _ p18 _ rfl _ _ ?_
  simp +contextual (maxSteps := 10000000) only [XG_eq, go_sem, W_draw]
  refine clone_snd hst2 hfln fun B4 c S' hE4 hc hcb => ?_
  have q1 : Option.map (fun b => D.bool (b != true)) (eq1D Tq.ptr (D.ptr c 0) D.nilp) = some (.bool true) := rfl
  have q2 : Option.map (fun b => D.bool !b) (eq1D Tq.ptr (D.ptr c 0) D.nilp) = some (.bool true) := rfl
  have q3 : eq1D Tq.ptr (D.ptr c 0) D.nilp = some false := rfl
  have ldb : ∀ {B : Hp}, Ext C B → ld true 7 (rdAt B (.ptr b 1)) = some (rwD r) := fun {B} hB => by
    rw [rdAt_of (hB.get (hE3.get h0b))]
    have e7 : 7 ≤ (R.drop 1).length := by rw [List.length_drop, len8]; decide
    simp only [ld, if_true, e7, drop1]; rfl
  have l4 := ldb hE4
  simp +contextual (maxSteps := 10000000) only [q1, q2, q3, l4, XG_eq, go_sem, W_draw]
  refine set_snd (x := rwD r) hc hxr fun B5 U5 hS => ?_
  obtain ⟨S5, hc5, hF5, hS5⟩ := hS
  have hCl4 : C.length ≤ B4.length := by obtain ⟨L, hL⟩ := hE4; rw [hL]; simp
  have hE5 : Ext C B5 := ext_fr (by have := hF5.1; omega) fun o ho => by
    rw [hF5.2 o (by omega) (fun hm => by have := hcb o hm; omega)]
    obtain ⟨L, hL⟩ := hE4; rw [hL, List.getElem?_append_left ho]
  have hcb5 : ∀ o ∈ S5, C.length ≤ o := fun o ho => by
    rcases hS5 o ho with h | h
    · exact hcb o h
    · omega
  have l5 := ldb hE5
  simp +contextual (maxSteps := 10000000) only [l5, XG_eq, go_sem, W_draw]
  refine drop_snd (x := rwD r) hc5 hxr fun B6 U6 hS => ?_
  obtain ⟨S6, hc6, hF6, hS6⟩ := hS
  have hCl5 : C.length ≤ B5.length := by obtain ⟨L, hL⟩ := hE5; rw [hL]; simp
  have hE6 : Ext C B6 := ext_fr (by have := hF6.1; omega) fun o ho => by
    rw [hF6.2 o (by omega) (fun hm => by have := hcb5 o hm; omega)]
    obtain ⟨L, hL⟩ := hE5; rw [hL, List.getElem?_append_left ho]
  simp +contextual (maxSteps := 10000000) only [XG_eq, go_sem, W_draw]
  have p17 : ∀ n4, φ17 [sliceD n4 xs, sliceD n1 xs] = some (.bool true) := fun n4 => by
    simp only [φ17]
    rw [if_pos ⟨⟨n4, xs, rfl, by omega, hst.rws⟩, n1, xs, rfl, by omega, hst.rws⟩, elems_sliceD, elems_sliceD, sameRs_refl hfw]
  have last : ∀ {B : Hp}, Ext C B → ∃ n4, φ18 B [.ptr p 0] = some (sliceD n4 xs) := fun {B} hB => (hst2.fr (Fr.ext [] hB) (by simp)).rows
  refine rows18m (hst2.fr (Fr.ext [] hE6) (by simp)) (fun h0 => ?_) fun B7 o c7 hE7 hT => ?_
  · obtain ⟨n4, p18b⟩ := last hE6
    have p17b := p17 n4
    have d0 : decide ((0 : Int) < 0) = false := rfl
    simp +contextual (maxSteps := 10000000) only [go_sem, W_draw]
    refine W_for (fun i s' => s'.t 7 = .ptr p 0 ∧ s'.t 9 = sliceD n1 xs ∧ s'.t 11 = .nils ∧ s'.t 12 = .int .i64 0 ∧ s'.H = B6 ∧ i ≤ 0) 0 ⟨0, by simp [upd], by simp [upd], by simp [upd], by simp [upd], rfl, Nat.le_refl _⟩ (fun i s h => h.2.2.2.2.2) ?_ hX
    rintro i ⟨t, B, U⟩ ⟨r7, r9, r11, r12, rfl, hi⟩
    simp only at r7 r9 r11 r12
    simp +contextual (maxSteps := 10000000) only [r7, r9, r11, r12, d0, XG_eq, go_sem, W_draw]
    refine ok18 _ _ _ p18b _ rfl _ _ ?_
    simp +contextual (maxSteps := 10000000) only [r9, p17b, exs, XG_eq, pcallG hM, lookH_nil, orK_n, orK_s, go_sem, W_draw]
    exact hQ _ _
  · simp +contextual (maxSteps := 10000000) only [go_sem, W_draw]
    refine W_for (fun i s' => s'.t 7 = .ptr p 0 ∧ s'.t 9 = sliceD n1 xs ∧ s'.t 11 = .ms true 7 o 0 xs.length c7 ∧ s'.t 12 = .int .i64 (i : Nat) ∧ Ext B6 s'.H ∧ Told B6.length o xs.length s'.H ∧ i ≤ xs.length) xs.length
      ⟨0, by simp [upd], by simp [upd], by simp [upd], by simp [upd], hE7, hT, by omega⟩ (fun i s h => h.2.2.2.2.2.2) ?_ hX
    clear hT hE7
    rintro i ⟨t, B, U⟩ ⟨r7, r9, r11, r12, hE8, hT, hi⟩
    simp only at r7 r9 r11 r12 hE8 hT
    by_cases hlt : i < xs.length
    · have d1 : decide ((i : Int) < xs.length) = true := by simpa using hlt
      have i1 := ia_msN (ag := true) (sz := 7) (o := o) (off := 0) (cap := c7) (k := .i64) hlt
      rw [Nat.zero_add] at i1
      obtain ⟨hob, cs, hcs, hcl, hcv⟩ := hT
      have hoff : i * 7 + 1 < cs.length := by omega
      simp +contextual (maxSteps := 10000000) only [r7, r9, r11, r12, d1, i1, go_sem, W_draw]
      refine st_set hcs hoff rfl rfl ?_
      obtain ⟨v, hv, hvM⟩ := hcv i hlt
      have hT2 := Told.name (v := .str [101, 108, 115, 101]) ⟨hob, cs, hcs, hcl, hcv⟩ hcs (off := i * 7 + 1) (by omega)
      have hE9 := hE8.set hob (.row (cs.set (i * 7 + 1) (.str [101, 108, 115, 101])))
      have hcs2 : ∃ cs', (B.set o (.row (cs.set (i * 7 + 1) (.str [101, 108, 115, 101]))))[o]? = some (.row cs') ∧ cs'[i * 7 + 6]? = some v := ⟨_, List.getElem?_set_self (lt_get hcs), by rw [List.getElem?_set_ne (by omega)]; exact hv⟩
      obtain ⟨B9, hB9⟩ : ∃ B9, B.set o (.row (cs.set (i * 7 + 1) (.str [101, 108, 115, 101]))) = B9 := ⟨_, rfl⟩
      rw [hB9] at hT2 hE9 hcs2 ⊢
      rcases hvM with rfl | ⟨o', m', c', cs', rfl, ho1, ho2, _, _, hm30, _⟩
      · have d0 : decide ((0 : Int) < 0) = false := rfl
        simp +contextual (maxSteps := 10000000) only [go_sem, W_draw]
        refine W_for (fun k s' => s'.t 7 = .ptr p 0 ∧ s'.t 9 = sliceD n1 xs ∧ s'.t 11 = .ms true 7 o 0 xs.length c7 ∧ s'.t 12 = .int .i64 (i : Nat) ∧ s'.t 13 = .int .i64 0 ∧ s'.H = B9 ∧ k ≤ 0) 0
          ⟨0, by simp [upd, r7], by simp [upd, r9], by simp [upd, r11], by simp [upd, r12], by simp [upd], rfl, by omega⟩ (fun i s h => h.2.2.2.2.2.2) ?_ hX
        clear r7 r9 r11 r12
        rintro k ⟨t, B10, U⟩ ⟨r7, r9, r11, r12, r13, rfl, hk⟩
        simp only at r7 r9 r11 r12 r13
        obtain ⟨cs', hc1, hc2⟩ := hcs2
        have hrd := rd_cell hc1 hc2
        simp +contextual (maxSteps := 10000000) only [r7, r9, r11, r12, r13, i1, hrd, ld, List.head?_cons, d0, wrap_succ i (by omega), go_sem, W_draw]
        exact ⟨hE9, hT2, by omega⟩
      · simp +contextual (maxSteps := 10000000) only [go_sem, W_draw]
        refine W_for (fun k s' => s'.t 7 = .ptr p 0 ∧ s'.t 9 = sliceD n1 xs ∧ s'.t 11 = .ms true 7 o 0 xs.length c7 ∧ s'.t 12 = .int .i64 (i : Nat) ∧ s'.t 13 = .int .i64 (k : Nat) ∧ Ext B6 s'.H ∧ Told B6.length o xs.length s'.H ∧ (∃ cs', s'.H[o]? = some (.row cs') ∧ cs'[i * 7 + 6]? = some (.ms true 4 o' 0 m' c')) ∧ k ≤ m') m'
          ⟨0, by simp [upd, r7], by simp [upd, r9], by simp [upd, r11], by simp [upd, r12], by simp [upd], hE9, hT2, hcs2, by omega⟩ (fun i s h => h.2.2.2.2.2.2.2.2) ?_ hX
        clear r7 r9 r11 r12 hE9 hT2 hcs2
        rintro k ⟨t, B10, U⟩ ⟨r7, r9, r11, r12, r13, hE9, hT2, hcs2, hk⟩
        simp only at r7 r9 r11 r12 r13 hE9 hT2 hcs2
        have hcs3 := hcs2
        obtain ⟨cs2, hc1, hc2⟩ := hcs2
        have hrd := rd_cell hc1 hc2
        by_cases hlk : k < m'
        · have d2 : decide ((k : Int) < m') = true := by simpa using hlk
          obtain ⟨cs4, h1, h2, z, h3, h4⟩ := hT2.inner hlt hc1 hc2 k hlk
          have i2 := ia_msN (ag := true) (sz := 4) (o := o') (off := 0) (cap := c') (k := .i64) hlk
          rw [Nat.zero_add] at i2
          have hrz := rd_cell h1 h3
          simp +contextual (maxSteps := 10000000) only [r7, r9, r11, r12, r13, i1, i2, hrd, hrz, ld, List.head?_cons, d2, go_sem, W_draw]
          refine st_set h1 h2 rfl rfl ?_
          have hT3 := hT2.int ho2 h1 k (IntKind.i64.wrap (z + 3))
          have hE10 := hE9.set ho1 (.row (cs4.set (k * 4 + 1) (.int .i64 (IntKind.i64.wrap (z + 3)))))
          simp +contextual (maxSteps := 10000000) only [r7, r9, r11, r12, r13, wrap_succ k (by omega), go_sem, W_draw]
          refine ⟨hE10, hT3, ⟨cs2, ?_, hc2⟩, by omega⟩
          rw [List.getElem?_set_ne ho2]; exact hc1
        · have d2 : decide ((k : Int) < m') = false := by simpa using hlk
          simp +contextual (maxSteps := 10000000) only [r7, r9, r11, r12, r13, i1, hrd, ld, List.head?_cons, d2, wrap_succ i (by omega), go_sem, W_draw]
          exact ⟨hE9, hT2, by omega⟩
    · have d1 : decide ((i : Int) < xs.length) = false := by simpa using hlt
      obtain ⟨n4, p18b⟩ := last (hE6.trans hE8)
      have p17b := p17 n4
      simp +contextual (maxSteps := 10000000) only [r7, r9, r11, r12, d1, XG_eq, go_sem, W_draw]
      refine ok18 _ _ _ p18b _ rfl _ _ ?_
      simp +contextual (maxSteps := 10000000) only [r9, p17b, exs, XG_eq, pcallG hM, lookH_nil, orK_n, orK_s, go_sem, W_draw]
      exact hQ _ _
end GP
