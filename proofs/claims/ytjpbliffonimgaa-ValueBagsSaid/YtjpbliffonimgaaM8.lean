import Derived.JoinedOf
import Derived.Laws.IdiomArrays
import Derived.Test.YtjpbliffonimgaaRows
import Derived.Test.YtjpbliffonimgaaM5
import Derived.Test.YtjpbliffonimgaaM6
import Derived.Test.YtjpbliffonimgaaM7
set_option linter.unusedSimpArgs false
set_option linter.unnecessarySimpa false
set_option linter.unusedSectionVars false
namespace GP
open Go Go.Proofs
set_option maxRecDepth 100000
variable [HasG Try.prog]
@[reducible] def anyG (P : Program) : HasG P := ⟨fun _ _ => True, fun _ _ h => h⟩
theorem leaf_cl {x : D} (h : x.isV = true) (hl : leaf x = true) : x.cl 0 0 = true := by
  obtain ⟨k, i, s, n, l, rfl, _⟩ := isV_elim h
  simp only [leaf, vl_mk, List.isEmpty_iff] at hl
  subst hl
  rcases sliceD_cases n [] with ⟨e, _⟩ | e <;> simp [mkV, e, D.cl, D.clL]
theorem sortV_snd {xs rest : List D} {H : Hp} {o cap : Nat} {T : Tk} {Q : Post} (ho : H[o]? = some (.row (flatD xs ++ rest))) (hv : ∀ x ∈ xs, x.isV = true) (h1 : good1 xs) (hn : 0 < xs.length) (hl : xs.length ≤ 2 ^ 40)
    (hQ : ∀ ys, ys.Perm xs → ys.Pairwise (fun a b => ¬ ord0 b a < 0) → Q (.tup []) (H.set o (.row (flatD ys ++ rest))) T) : Snd Try.prog 85 [.ms true 4 o 0 xs.length cap, .fn 86 [] []] H T Q := by
  have hag := isV_agg hv
  have hlf : ∀ x ∈ xs, leaf x = true := fun x hx => by
    have := plain_leaf (h1 x hx)
    simp [leaf, List.length_eq_zero_iff.1 this]
  have hch : chunk true 4 xs.length ((flatD xs ++ rest).drop 0) = xs := by rw [List.drop_zero]; exact chunk_flat xs rest hag
  have eSo : ∀ args w, (callFunc 85 args).run Try.prog w = .ok (.enter 85 args) w := enters_of Try.func85 (by kernel_rfl) rfl
  have eOr : ∀ args w, (callFunc 86 args).run Try.prog w = .ok (.enter 86 args) w := enters_of Try.func86 (by kernel_rfl) rfl
  have an : ∀ x ∈ xs, ∀ y ∈ xs, ord0 x y = singleD x y := fun x hx y hy => ord0_single (h1 x hx) (h1 y hy)
  refine sort_snd (inst := ‹HasG Try.prog›) (P := Try.prog) (f := 85) (g := 86) (ρ := Try.sortVal_ren) Try.sortVal 4 Try.isAgg28 Try.sizeOf28 rfl eSo eOr (anyG _) (fun _ _ => trivial) (off := 0) (cap := cap) ho hn (by omega) (by simp [hag.flat]) ord0 ?_ ?_ ?_ ?_ ?_ ?_
  · rw [hch]; exact fun x hx => leaf_cl (hv x hx) (hlf x hx)
  · rw [hch]
    intro x hx y hy
    have p := ord_leaf (hv x hx) (hv y hy) (hlf x hx) (hlf y hy)
    exact @ok86a (anyG _) _ _ p [x, y] (erase_of_isV (by simp [hv x hx, hv y hy])) [] [] _ rfl
  · rw [hch]; intro x hx; rw [an x hx x hx, single_self]; omega
  · rw [hch]; intro x hx y hy z hz a b
    rw [an x hx y hy] at a; rw [an y hy z hz] at b; rw [an x hx z hz]
    exact (single_tr x y z).l1 a (by omega)
  · rw [hch]; intro x hx y hy z hz a b
    rw [an x hx y hy] at a; rw [an y hy z hz] at b; rw [an x hx z hz]
    have t1 := single_tr z y x
    have a1 := single_anti x y; have a2 := single_anti y z; have a3 := single_anti x z
    have := t1.le (by omega) (by omega)
    omega
  · rw [hch]
    intro ys hp hs
    have hl2 : (flatD ys).length = xs.length * 4 := by rw [(hag.sub fun y hy => hp.mem_iff.1 hy).flat, hp.length_eq]
    have := hQ ys hp hs
    rw [Nat.zero_add, List.take_zero, List.nil_append, List.drop_left' hag.flat]
    exact this
def φBag : List D → Option D
  | [l] => if isSl l = true ∧ D.isVs (elems l) = true ∧ (elems l).length ≤ 2 ^ 40 then some (.tup [(bagV (elems l)).1, .int .i64 (bagV (elems l)).2]) else none
  | _ => none
theorem bag_crs {zs ws : List D} (h : zs.map can = ws) (hv : ∀ z ∈ zs, z.isV = true ∧ leaf z = true) : Crs (.sl none zs) (.sl none ws) := by
  subst h
  intro c v hr
  cases hr with
  | sl _ _ a cap sz us hlen hb hsz h1 ha hs hM hr htl ht =>
    have hcell : ∀ (i : Nat) (hi : i < zs.length), ∃ k j s l, zs[i] = .agg [.int .i64 k, .int .i64 j, .str s, l] ∧ (l = .nils ∨ l = .sl none []) ∧ can zs[i] = .agg [.int .i64 k, .int .i64 j, .str s, .sl none []] := by
      intro i hi
      obtain ⟨hz, hl⟩ := hv _ (List.getElem_mem hi)
      obtain ⟨k, j, s, n, l, e, _⟩ := isV_elim hz
      rw [e] at hl
      simp only [leaf, vl_mk, List.isEmpty_iff] at hl
      subst hl
      refine ⟨k, j, s, sliceD n [], by rw [e]; rfl, ?_, by rw [e]; simp [can, vk_mk, vi_mk, vs_mk]; rfl⟩
      cases n
      · exact .inr rfl
      · exact .inl rfl
    have := Rep.sl (c := c) none (zs.map can) a cap sz us (by simpa using hlen) (by simpa using hb) ?_ ?_ ?_ ?_ ?_ ?_ (fun τ h => by cases h) (fun τ h => by cases h)
    · simpa using this
    · intro x hx
      obtain ⟨z, hz, rfl⟩ := List.mem_map.1 hx
      obtain ⟨i, hi, rfl⟩ := List.getElem_of_mem hz
      obtain ⟨k, j, s, l, e1, _, e2⟩ := hcell i hi
      have := hsz _ (List.getElem_mem hi)
      rw [e1] at this; rw [e2]; simpa [D.cells] using this
    · intro x hx y hy
      obtain ⟨z, hz, rfl⟩ := List.mem_map.1 hx
      obtain ⟨i, hi, rfl⟩ := List.getElem_of_mem hz
      obtain ⟨k, j, s, l, e1, _, e2⟩ := hcell i hi
      rw [e2] at hy
      simp only [D.cells, List.mem_cons, List.not_mem_nil, or_false] at hy
      rcases hy with rfl | rfl | rfl | rfl <;> rfl
    · intro hne; exact ha (by intro e; subst e; exact hne rfl)
    · intro hne; exact hs (by intro e; subst e; exact hne rfl)
    · intro i hi; exact hM i (by simpa using hi)
    · intro i hi j hj
      have hi' : i < zs.length := by simpa using hi
      obtain ⟨k, q, s, l, e1, e3, e2⟩ := hcell i hi'
      have hc : (zs.map can)[i] = .agg [.int .i64 k, .int .i64 q, .str s, .sl none []] := by rw [List.getElem_map]; exact e2
      have hj' : j < (zs[i].cells).length := by rw [e1]; rw [hc] at hj; exact hj
      have h0 := hr i hi' j hj'
      have hjn : j < 4 := by rw [hc] at hj; exact hj
      have ez : ∀ (l' : List D) (h : zs[i].cells = l') (hj2 : j < l'.length), zs[i].cells[j] = l'[j] := fun l' h hj2 => by subst h; rfl
      have ec : ∀ (l' : List D) (h : ((zs.map can)[i]).cells = l') (hj2 : j < l'.length), ((zs.map can)[i]).cells[j] = l'[j] := fun l' h hj2 => by subst h; rfl
      rw [ez [.int .i64 k, .int .i64 q, .str s, l] (by rw [e1]; rfl) hjn] at h0
      rw [ec [.int .i64 k, .int .i64 q, .str s, .sl none []] (by rw [hc]; rfl) hjn]
      match j, hjn, h0 with
      | 0, _, h0 => exact h0
      | 1, _, h0 => exact h0
      | 2, _, h0 => exact h0
      | 3, _, h0 =>
        simp only [List.getElem_cons_succ, List.getElem_cons_zero] at h0 ⊢
        obtain ⟨u, hu⟩ : ∃ u, us i 3 = u := ⟨_, rfl⟩
        rw [hu] at h0 ⊢
        rcases e3 with rfl | rfl
        · cases h0
          exact Rep.sl none [] none 0 0 (fun _ _ => undef) (by simp) (by simp) (by simp) (by simp) (by simp) (by simp) (by simp) (by simp) (by simp) (by simp)
        · exact h0
theorem crs_tup2 {a b : D} (h : Crs a b) (e : Int) : Crs (.tup [a, .int .i64 e]) (.tup [b, .int .i64 e]) := by
  intro c v hr
  cases hr with
  | tup _ us hl hr =>
    match us, hl with
    | [x, y], _ =>
      refine .tup _ _ rfl fun i hi hi' => ?_
      match i, hi with
      | 0, _ => exact h _ _ (hr 0 (by simp) (by simp))
      | 1, _ => exact hr 1 (by simp) (by simp)
theorem crs_bag {a b : D} (h : Crs a b) (ho : b.one = true) (k i : Int) (s : List UInt8) : Crs (.agg [.int .i64 k, .int .i64 i, .str s, a]) (.agg [.int .i64 k, .int .i64 i, .str s, b]) := by
  intro c v hr
  cases hr with
  | agg _ us hl h1 hr =>
    match us, hl with
    | [x, y, z, u], _ =>
      refine .agg _ _ rfl (fun d hd => ?_) fun j hi hi' => ?_
      · simp only [List.mem_cons, List.not_mem_nil, or_false] at hd
        rcases hd with rfl | rfl | rfl | rfl <;> first | rfl | exact ho
      · match j, hi with
        | 0, _ => exact hr 0 (by simp) (by simp)
        | 1, _ => exact hr 1 (by simp) (by simp)
        | 2, _ => exact hr 2 (by simp) (by simp)
        | 3, _ => exact h _ _ (hr 3 (by simp) (by simp))
theorem crs_nils : Crs .nils (.sl none []) := by
  intro c v hr
  cases hr
  exact Rep.sl none [] none 0 0 (fun _ _ => undef) (by simp) (by simp) (by simp) (by simp) (by simp) (by simp) (by simp) (by simp) (by simp) (by simp)
theorem clone_nil {H : Hp} {T : Tk} {Q : Post} (k : Q .nils H T) : Snd Try.prog 84 [.nils] H T Q := by
  refine call_of fn84m (by simp) (W_mono (X := XL []) (Ok.X .nil) (fun _ _ h => h) ?_)
  have e1 : Option.map (fun b => D.bool b) (eq1D Tq.slc .nils D.nils) = some (.bool true) := rfl
  simp +contextual (maxSteps := 10000000) only [c84m, e1, go_sem, W_draw]
  exact k
theorem clone_e0 {H : Hp} {T : Tk} {Q : Post} (k0 : Q .nils H T) (k : Q (.ms true 4 H.length 0 0 0) (H ++ [.row []]) T) : Snd Try.prog 84 [.sl none []] H T Q := by
  refine call_of fn84m (by simp) (W_mono (X := XL []) (Ok.X .nil) (fun _ _ h => h) ?_)
  have ho : (H ++ [Ob.row (flatD [])])[H.length]? = some (.row []) := by simp [flatD]
  simp +contextual (maxSteps := 10000000) only [c84m, go_sem, W_draw]
  refine ⟨k0, ?_⟩
  simp only [appmK, ho]
  refine ⟨by simp, trivial, ?_⟩
  rw [if_pos (by simp)]
  refine ⟨by simp, ?_⟩
  simp +contextual (maxSteps := 10000000) only [go_sem, W_draw]
  have e : List.set (H ++ [Ob.row (flatD [])]) (List.length H) (Ob.row (flatD [])) = H ++ [.row []] := by simp [flatD, List.set_append]
  rw [e]
  exact k
theorem sort_e0 {H : Hp} {T : Tk} {Q : Post} {o : Nat} (k : Q (.tup []) H T) : Snd Try.prog 85 [.ms true 4 o 0 0 0, .fn 86 [] []] H T Q := ok85 _ _ (show φsort0 [.ms true 4 o 0 0 0, .fn 86 [] []] = some (.tup []) from rfl) _ (by simp [D.eraseL, D.erase]) H T Q k
theorem compact_nil {H : Hp} {T : Tk} {Q : Post} (k : Q .nils H T) : Snd Try.prog 87 [.nils, .fn 88 [] []] H T Q := by
  refine call_of fn87 (by simp) (W_mono (X := XL []) (Ok.X .nil) (fun _ _ h => h) ?_)
  have d : decide ((0 : Int) < 2) = true := by decide
  simp +contextual (maxSteps := 10000000) only [c87, d, go_sem, W_draw]
  exact k
theorem sort_nil {H : Hp} {T : Tk} {Q : Post} (k : Q (.tup []) H T) : Snd Try.prog 85 [.nils, .fn 86 [] []] H T Q := ok85 _ _ (show φsort0 [.nils, .fn 86 [] []] = some (.tup []) from rfl) _ (by simp [D.eraseL, D.erase]) H T Q k
theorem bagR_cl (xs : List D) (h : good1 xs) : (mkV 5 0 [] false (bagR xs)).cl 0 0 = true := by
  have : D.clL 0 0 (bagR xs) = true := clL_of fun d hd => by
    obtain ⟨x, _, rfl⟩ := ((bagR_spec h).2 d).1 hd
    rfl
  show D.clL 0 0 [.int .i64 5, .int .i64 0, .str [], sliceD false (bagR xs)] = true
  rcases sliceD_cases false (bagR xs) with ⟨e, _⟩ | e <;> simp [e, D.clL, D.cl, this]
theorem rdAt_set {B : Hp} {o : Nat} {x : Ob} (h : B[o]? = some x) (X : List D) (L : Hp) : rdAt (B.set o (.row X) ++ L) (.ptr o 0) = some X := by
  have hlB : o < B.length := by
    rcases Nat.lt_or_ge o B.length with h' | h'
    · exact h'
    · rw [List.getElem?_eq_none h'] at h; cases h
  simp only [rdAt]
  rw [List.getElem?_append_left (by simpa using hlB), List.getElem?_set_self hlB]
  rfl
theorem rdAt_set0 {B : Hp} {o : Nat} {x : Ob} (h : B[o]? = some x) (X : List D) : rdAt (B.set o (.row X)) (.ptr o 0) = some X := by
  have := rdAt_set h X []
  rwa [List.append_nil] at this
set_option maxHeartbeats 8000000 in
theorem ok50 : OkAt Try.prog 50 φBag := by
  have hM : MonoH [] := .nil
  have u0 : ([84, 85, 87] : List FuncId).contains 53 = false := rfl
  have u1 : ([84, 85, 87] : List FuncId).contains 84 = true := rfl
  have u2 : ([84, 85, 87] : List FuncId).contains 85 = true := rfl
  have u3 : ([84, 85, 87] : List FuncId).contains 87 = true := rfl
  refine okFX_of (X := XU Try.prog [84, 85, 87] [(53, φFormed)] [] []) (XU.X (.cons ok53 .nil) .nil .nil) fn50 fun args r h => ?_
  unfold φBag at h
  split at h
  · rename_i l
    split at h
    · rename_i hc
      obtain ⟨h1, h2, h3⟩ := hc
      injection h with h; subst h
      have hv := isVs_iff.1 h2
      have eL := erase_of_isV hv
      obtain ⟨n, hl⟩ := isSl_elim h1
      obtain ⟨xs, hxs⟩ : ∃ xs, elems l = xs := ⟨_, rfl⟩
      rw [hxs] at h3 hv eL hl ⊢
      subst hl
      clear h1 h2 hxs
      have hcl : ((bagV xs).1).cl 0 0 = true := by
        unfold bagV
        split
        · rfl
        split
        · rfl
        split
        · rfl
        · rename_i g1 g2 _
          simp only [Bool.not_eq_false] at g1
          refine bagR_cl xs fun x hx => ?_
          have f := List.all_eq_true.1 g1 x hx
          have k : ¬ vk x = 5 := fun k => g2 (List.any_eq_true.2 ⟨x, hx, by simp [badB, k]⟩)
          unfold formedV at f
          rwa [if_pos (by simpa using k)] at f
      refine ⟨by simp, by simp [D.cl, D.clL, hcl], fun H T => ?_⟩
      simp +contextual (maxSteps := 10000000) only [c50, go_sem, W_draw]
      refine W_for (fun i s' => s'.t 0 = sliceD n xs ∧ s'.t 2 = .ptr H.length 0 ∧ s'.t 9 = sliceD n xs ∧ s'.t 10 = .int .i64 xs.length ∧ s'.t 11 = .int .i64 (i : Nat) ∧ Ext (H ++ [.row [.int .i64 0, .int .i64 0, .str [], .nils]]) s'.H ∧ s'.T = T ∧ i ≤ xs.length ∧ ∀ (j : Nat) x, j < i → xs[j]? = some x → formedV x = true) xs.length
        ⟨0, by simp [upd, argT], by simp [upd], by simp [upd], by simp [upd], by simp [upd], Ext.refl _, rfl, by omega, fun j x h => by omega⟩ (fun i s h => h.2.2.2.2.2.2.2.1) ?_ (XU_mono _ _ _ _)
      rintro i ⟨t, B, T'⟩ ⟨r0, r2, r9, r10, r11, hE, rfl, hi, hF⟩
      simp only at r0 r2 r9 r10 r11 hE
      have b1 := hE.get (o := H.length) (x := .row [.int .i64 0, .int .i64 0, .str [], .nils]) (by simp)
      have rS : ∀ (X : List D) (L : Hp), rdAt (B.set H.length (.row X) ++ L) (.ptr H.length 0) = some X := rdAt_set b1
      by_cases hlt : i < xs.length
      · have d1 : decide (((i : Nat) : Int) < xs.length) = true := by simp only [decide_eq_true_eq]; omega
        obtain ⟨k1, i1, s1, n1, l1, e1, hs1, hx1, hV1, eL1⟩ := get_isV hv hlt
        have iv : (mkV k1 i1 s1 n1 l1).isV = true := hv _ (List.mem_of_getElem? e1)
        have pf : φFormed [mkV k1 i1 s1 n1 l1] = some (.bool (formedV (mkV k1 i1 s1 n1 l1))) := by simp only [φFormed]; rw [if_pos iv]
        rcases tf (formedV (mkV k1 i1 s1 n1 l1)) with g | g
        · rw [g] at pf
          have hF' : ∀ (j : Nat) x, j < i + 1 → xs[j]? = some x → formedV x = true := fun j x hj hx => by
            rcases Nat.lt_or_ge j i with h' | h'
            · exact hF j x h' hx
            · have : j = i := by omega
              subst this; rw [e1] at hx; injection hx with hx; rw [← hx]; exact g
          simp only [mkV] at pf
          simp +contextual (maxSteps := 10000000) only [r0, r2, r9, r10, r11, d1, e1, mkV, pf, u0, u1, u2, u3, XU_eq, pcallU hM, eL1, wrap_succ i (by omega), go_sem, W_draw]
          exact ⟨hE.app _, by omega, hF'⟩
        · rw [g] at pf
          simp only [mkV] at pf
          have hb : bagV xs = (zeroV, 1) := by
            unfold bagV
            rw [if_pos (Bool.eq_false_iff.2 fun h => by rw [List.all_eq_true.1 h _ (List.mem_of_getElem? e1)] at g; cases g)]
          simp +contextual (maxSteps := 10000000) only [r0, r2, r9, r10, r11, d1, e1, mkV, pf, u0, u1, u2, u3, XU_eq, pcallU hM, eL1, storeK_Ea b1, rS, go_sem, W_draw]
          rw [hb]
          exact leavesE_end (.refl _) ((hE.pre.set (Nat.le_refl _) _).app _) (ExtT.refl _)
      · have d1 : decide (((i : Nat) : Int) < xs.length) = false := by simp only [decide_eq_false_iff_not]; omega
        have hAll : xs.all formedV = true := List.all_eq_true.2 fun x hx => by
          obtain ⟨j, hj, rfl⟩ := List.getElem_of_mem hx
          exact hF j _ (by omega) (by rw [List.getElem?_eq_getElem hj])
        clear hF
        have r0' := r0
        have r2' := r2
        simp +contextual (maxSteps := 10000000) only [r0, r2, r9, r10, r11, d1, u1, u2, u3, XU_eq, go_sem, W_draw]
        clear r0 r2 r9 r10 r11 d1 hlt hi b1 rS
        refine W_for (fun i s' => s'.t 0 = sliceD n xs ∧ s'.t 2 = .ptr H.length 0 ∧ s'.t 20 = sliceD n xs ∧ s'.t 21 = .int .i64 xs.length ∧ s'.t 22 = .int .i64 (i : Nat) ∧ Ext (H ++ [.row [.int .i64 0, .int .i64 0, .str [], .nils]]) s'.H ∧ s'.T = T' ∧ i ≤ xs.length ∧ ∀ (j : Nat) x, j < i → xs[j]? = some x → badB xs x = false) xs.length
          ⟨0, by simp [upd, r0'], by simp [upd, r2'], by simp [upd], by simp [upd], by simp [upd], hE, rfl, by omega, fun j x h => by omega⟩ (fun i s h => h.2.2.2.2.2.2.2.1) ?_ (XU_mono _ _ _ _)
        clear r0' r2' hE
        rintro i ⟨t, B, T2⟩ ⟨r0, r2, r9, r10, r11, hE, rfl, hi, hF⟩
        simp only at r0 r2 r9 r10 r11 hE
        have b1 := hE.get (o := H.length) (x := .row [.int .i64 0, .int .i64 0, .str [], .nils]) (by simp)
        have rS : ∀ (X : List D) (L : Hp), rdAt (B.set H.length (.row X) ++ L) (.ptr H.length 0) = some X := rdAt_set b1
        by_cases hlt : i < xs.length
        · have d1 : decide (((i : Nat) : Int) < xs.length) = true := by simp only [decide_eq_true_eq]; omega
          obtain ⟨k1, i1, s1, n1, l1, e1, hs1, hx1, hV1, eL1⟩ := get_isV hv hlt
          obtain ⟨k0, i0, s0, n0, l0, e0, _⟩ := get_isV hv (show 0 < xs.length by omega)
          have fk := vk0_get e0
          have hbd : badB xs (mkV k1 i1 s1 n1 l1) = ((k1 == 0) || (k1 == 5) || (k1 != k0)) := by simp only [badB, vk_mk, fk]
          have hbad : badB xs (mkV k1 i1 s1 n1 l1) = true → bagV xs = (zeroV, 6) := fun h => by
            unfold bagV
            rw [if_neg (by rw [hAll]; decide), if_pos]
            exact List.any_eq_true.2 ⟨_, List.mem_of_getElem? e1, h⟩
          have hgood : badB xs (mkV k1 i1 s1 n1 l1) = false → ∀ (j : Nat) x, j < i + 1 → xs[j]? = some x → badB xs x = false := fun g j x hj hx => by
            rcases Nat.lt_or_ge j i with h' | h'
            · exact hF j x h' hx
            · have : j = i := by omega
              subst this; rw [e1] at hx; injection hx with hx; rw [← hx]; exact g
          rw [hbd] at hbad hgood
          simp +contextual (maxSteps := 10000000) only [r0, r2, r9, r10, r11, d1, e1, e0, mkV, u0, u1, u2, u3, XU_eq, eL1, wrap_succ i (by omega), storeK_Ea b1, rS, go_sem, W_draw]
          have fin : bagV xs = (zeroV, 6) → LeavesE (D.tup [(bagV xs).fst, D.int IntKind.i64 (bagV xs).snd]) H T2 (D.tup [D.agg [D.int IntKind.i64 0, D.int IntKind.i64 0, D.str [], D.nils], D.int IntKind.i64 6])
              (List.set B (List.length H) (Ob.row [D.int IntKind.i64 0, D.int IntKind.i64 0, D.str [], D.nils]) ++ [Ob.row [D.int IntKind.i64 k1, D.int IntKind.i64 i1, D.str s1, sliceD n1 l1]]) T2 := fun h => by
            rw [h]
            exact leavesE_end (.refl _) ((hE.pre.set (Nat.le_refl _) _).app _) (ExtT.refl _)
          exact ⟨fun q => fin (hbad (by rw [q]; rfl)), fun q1 => ⟨fun q => fin (hbad (by rw [q]; simp)), fun q2 => ⟨fun q => fin (hbad (by rw [q]; simp)), fun q3 => ⟨hE.app _, by omega, hgood (by rw [q1, q2, q3]; rfl)⟩⟩⟩⟩
        · have d1 : decide (((i : Nat) : Int) < xs.length) = false := by simp only [decide_eq_false_iff_not]; omega
          have hAny : xs.any (badB xs) = false := List.any_eq_false.2 fun x hx => by
            obtain ⟨j, hj, rfl⟩ := List.getElem_of_mem hx
            rw [hF j _ (by omega) (by rw [List.getElem?_eq_getElem hj])]; decide
          have h1 : good1 xs := fun x hx => by
            have f := List.all_eq_true.1 hAll x hx
            have g : ¬ (badB xs x = true) := List.any_eq_false.1 hAny x hx
            have k : ¬ vk x = 5 := fun k => g (by simp [badB, k])
            unfold formedV at f
            rwa [if_pos (by simpa using k)] at f
          simp +contextual (maxSteps := 10000000) only [r0, r2, r9, r10, r11, d1, u1, u2, u3, XU_eq, go_sem, W_draw]
          rcases sliceD_cases n xs with ⟨e, hx⟩ | e
          · subst hx
            rw [e]
            refine clone_nil ?_
            simp +contextual (maxSteps := 10000000) only [u1, u2, u3, XU_eq, go_sem, W_draw]
            refine sort_nil ?_
            simp +contextual (maxSteps := 10000000) only [u1, u2, u3, XU_eq, go_sem, W_draw]
            refine compact_nil ?_
            have d2 : decide ((16 : Int) < 0) = false := by decide
            simp +contextual (maxSteps := 10000000) only [u1, u2, u3, XU_eq, r2, d2, storeK_E b1, rdAt_set0 b1, go_sem, W_draw]
            have hb0 : bagV [] = (mkV 5 0 [] false [], 0) := rfl
            rw [hb0]
            exact leavesE_end (crs_tup2 (crs_bag crs_nils rfl 5 0 []) 0) (hE.pre.set (Nat.le_refl _) _) (ExtT.refl _)
          · rw [e]
            by_cases hne : xs = []
            · subst hne
              refine clone_e0 ?_ ?_
              · simp +contextual (maxSteps := 10000000) only [u1, u2, u3, XU_eq, go_sem, W_draw]
                refine sort_nil ?_
                simp +contextual (maxSteps := 10000000) only [u1, u2, u3, XU_eq, go_sem, W_draw]
                refine compact_nil ?_
                have d2 : decide ((16 : Int) < 0) = false := by decide
                simp +contextual (maxSteps := 10000000) only [u1, u2, u3, XU_eq, r2, d2, storeK_E b1, rdAt_set0 b1, go_sem, W_draw]
                have hb0 : bagV [] = (mkV 5 0 [] false [], 0) := rfl
                rw [hb0]
                exact leavesE_end (crs_tup2 (crs_bag crs_nils rfl 5 0 []) 0) (hE.pre.set (Nat.le_refl _) _) (ExtT.refl _)
              simp +contextual (maxSteps := 10000000) only [u1, u2, u3, XU_eq, go_sem, W_draw]
              refine sort_e0 ?_
              have hHB : H.length + 1 ≤ B.length := by
                obtain ⟨L, hL⟩ := hE
                rw [hL]; simp
              simp +contextual (maxSteps := 10000000) only [u1, u2, u3, XU_eq, go_sem, W_draw]
              refine compact_snd (ys := []) (rest := []) (by simp [flatD]) (by simp) (by simp) (by simp) (fun rest' => ?_)
              obtain ⟨B2, hB2⟩ : ∃ B2, List.set (B ++ [Ob.row []]) B.length (Ob.row (flatD (cmpC []) ++ rest')) = B2 := ⟨_, rfl⟩
              have hE2 : Ext (H ++ [.row [.int .i64 0, .int .i64 0, .str [], .nils]]) B2 := by
                rw [← hB2]
                exact (hE.app _).set (by simp; omega) _
              have hO : B2[B.length]? = some (.row rest') := by
                rw [← hB2, List.getElem?_set_self (by simp)]; rfl
              rw [hB2]
              have b2 := hE2.get (o := H.length) (x := .row [.int .i64 0, .int .i64 0, .str [], .nils]) (by simp)
              have d2 : decide ((16 : Int) < ((cmpC ([] : List D)).length : Int)) = false := by decide
              simp +contextual (maxSteps := 10000000) only [u1, u2, u3, XU_eq, r2, d2, storeK_E b2, rdAt_set0 b2, go_sem, W_draw]
              have hb0 : bagV [] = (mkV 5 0 [] false [], 0) := rfl
              rw [hb0]
              refine leavesE_fz B.length rest' (by rw [List.getElem?_set_ne (by omega)]; exact hO) (by omega) ?_ (hE2.pre.set (Nat.le_refl _) _) (ExtT.refl _)
              have efz : D.fz B.length rest' (.tup [.agg [.int .i64 5, .int .i64 0, .str [], .ms true 4 B.length 0 (cmpC []).length 0], .int .i64 0]) = .tup [.agg [.int .i64 5, .int .i64 0, .str [], .sl none []], .int .i64 0] := by
                simp only [D.fz, D.fzL]
                rw [if_pos ⟨trivial, by simp [cmpC], .inl trivial, by simp [cmpC]⟩]
                simp [cmpC, chunk]
              simp only [List.length_nil]
              rw [efz]
              exact .refl _
            refine clone_snd hv hne h3 ?_
            simp +contextual (maxSteps := 10000000) only [u1, u2, u3, XU_eq, go_sem, W_draw]
            have hHB : H.length + 1 ≤ B.length := by
              obtain ⟨L, hL⟩ := hE
              rw [hL]; simp
            refine sortV_snd (rest := []) (by simp) hv h1 (List.length_pos_iff.2 hne) h3 (fun ys hp hs => ?_)
            simp +contextual (maxSteps := 10000000) only [u1, u2, u3, XU_eq, go_sem, W_draw]
            have hyv : ∀ y ∈ ys, y.isV = true ∧ leaf y = true := fun y hy => by
              have hm := hp.mem_iff.1 hy
              have := plain_leaf (h1 y hm)
              exact ⟨hv y hm, by simp [leaf, List.length_eq_zero_iff.1 this]⟩
            have hcan := cmpC_bag h1 hp hs
            have hml : (cmpC ys).length = (bagR xs).length := by rw [← hcan]; simp
            rw [← hp.length_eq]
            refine compact_snd (ys := ys) (rest := []) (by rw [List.getElem?_set_self (by simp)]; simp) hyv (by rw [hp.length_eq]; exact h3) (Nat.le_refl _) (fun rest' => ?_)
            obtain ⟨B2, hB2⟩ : ∃ B2, List.set (List.set (B ++ [Ob.dead, Ob.row (flatD xs)]) (B.length + 1) (Ob.row (flatD ys))) (B.length + 1) (Ob.row (flatD (cmpC ys) ++ rest')) = B2 := ⟨_, rfl⟩
            have hE2 : Ext (H ++ [.row [.int .i64 0, .int .i64 0, .str [], .nils]]) B2 := by
              rw [← hB2]
              exact ((hE.app _).set (by simp; omega) _).set (by simp; omega) _
            have hO : B2[B.length + 1]? = some (.row (flatD (cmpC ys) ++ rest')) := by
              rw [← hB2, List.getElem?_set_self (by simp)]
            rw [hB2]
            have b2 := hE2.get (o := H.length) (x := .row [.int .i64 0, .int .i64 0, .str [], .nils]) (by simp)
            have hA1 : bagV xs = if decide ((16 : Int) < (bagR xs).length) then (zeroV, 13) else (mkV 5 0 [] false (bagR xs), 0) := by
              unfold bagV
              rw [if_neg (by rw [hAll]; decide), if_neg (by rw [hAny]; decide)]
            rw [← hml] at hA1
            rcases tf (decide ((16 : Int) < (cmpC ys).length)) with g | g
            · rw [g, if_pos rfl] at hA1
              simp +contextual (maxSteps := 10000000) only [u1, u2, u3, XU_eq, r2, g, storeK_E b2, rdAt_set0 b2, go_sem, W_draw]
              rw [hA1]
              exact leavesE_end (.refl _) (hE2.pre.set (Nat.le_refl _) _) (ExtT.refl _)
            · rw [g, if_neg (by decide)] at hA1
              simp +contextual (maxSteps := 10000000) only [u1, u2, u3, XU_eq, r2, g, storeK_E b2, rdAt_set0 b2, go_sem, W_draw]
              rw [hA1]
              refine leavesE_fz (B.length + 1) (flatD (cmpC ys) ++ rest') (by rw [List.getElem?_set_ne (by omega)]; exact hO) (by omega) ?_ (hE2.pre.set (Nat.le_refl _) _) (ExtT.refl _)
              have hcv : ∀ z ∈ cmpC ys, z.isV = true ∧ leaf z = true := fun z hz => hyv z ((cmpC_spec (fun a b ha hb => ord0_single ha hb) (fun y hy => h1 y (hp.mem_iff.1 hy)) (hs.imp_of_mem fun {a b} ha hb hab => by rw [← ord0_single (h1 b (hp.mem_iff.1 hb)) (h1 a (hp.mem_iff.1 ha))]; exact hab)).2.1 z hz)
              have hag := isV_agg (fun z hz => (hcv z hz).1)
              have hl16 : ¬ ((16 : Int) < (cmpC ys).length) := by simpa using g
              have efz : D.fz (B.length + 1) (flatD (cmpC ys) ++ rest') (.tup [.agg [.int .i64 5, .int .i64 0, .str [], .ms true 4 (B.length + 1) 0 (cmpC ys).length ys.length], .int .i64 0]) = .tup [.agg [.int .i64 5, .int .i64 0, .str [], .sl none (cmpC ys)], .int .i64 0] := by
                simp only [D.fz, D.fzL]
                rw [if_pos ⟨trivial, by simp [hag.flat], .inl trivial, by omega⟩, List.drop_zero, chunk_flat _ _ hag]
              rw [efz]
              have hne2 : bagR xs ≠ [] := by
                intro e0
                rw [e0] at hml
                cases ys with
                | nil => exact hne (List.Perm.nil_eq hp).symm
                | cons y ys => simp [cmpC] at hml
              have es : sliceD false (bagR xs) = .sl none (bagR xs) := by
                rcases sliceD_cases false (bagR xs) with ⟨_, e1⟩ | e1
                · exact absurd e1 hne2
                · exact e1
              have em : mkV 5 0 [] false (bagR xs) = .agg [.int .i64 5, .int .i64 0, .str [], .sl none (bagR xs)] := by simp only [mkV, es]
              rw [em]
              exact crs_tup2 (crs_bag (bag_crs hcan hcv) rfl 5 0 []) 0
    · cases h
  · cases h
end GP
namespace GP
open Go
open Rd O
set_option maxRecDepth 100000
variable {P : Program} [HasG P]
@[go_sem high] theorem iab_nat (sz : Nat) (b : Bool) (xs : List D) (k : IntKind) (i : Nat) : ia sz (sliceD b xs) (.int k (i : Int)) = iaE sz xs[i]? := by
  rw [ia_sliceD, if_pos (by omega)]; simp
@[go_sem high] theorem iab_nat' (sz : Nat) (t : Option Nat) (xs : List D) (k : IntKind) (i : Nat) : ia sz (.sl t xs) (.int k (i : Int)) = iaE sz xs[i]? := by
  rw [ia_sl, if_pos (by omega)]; simp
structure El (ag : Bool) (sz : Nat) (x : D) : Prop where
  erase : x.erase = x
  len : x.cells.length = sz
  ld : ld ag sz (some x.cells) = some x
theorem El.agg {sz : Nat} {x : D} (h1 : x.erase = x) (h2 : x.cells.length = sz) (h3 : D.agg x.cells = x) : El true sz x :=
  ⟨h1, h2, by simp only [GP.ld, if_true]; rw [if_pos (by omega), List.take_of_length_le (by omega), h3]⟩
def Mo (φf : Hp → List D → Option D) : Prop := ∀ H H' a r, Hle H H' → φf H a = some r → φf H' a = some r
theorem Mo.const (φ : List D → Option D) : Mo (fun _ => φ) := fun _ _ _ _ _ h => h
end GP
namespace GP
open Go
def accT (sz : Nat) (T : Tk) (xs : List D) (d : D) (T' : Tk) : Prop := ExtT T T' ∧ ((xs = [] ∧ d = .nils) ∨ ∃ i, T.length ≤ i ∧ d = .sl (some i) xs ∧ T'[i]? = some (some (xs.length, sz)))
theorem accT.nil (sz : Nat) (T : Tk) {T' : Tk} (h : ExtT T T') : accT sz T [] .nils T' := ⟨h, .inl ⟨rfl, rfl⟩⟩
theorem accT.app {sz : Nat} {T T' : Tk} {xs : List D} {d : D} (h : accT sz T xs d T') (L : Tk) : accT sz T xs d (T' ++ L) := by
  obtain ⟨h1, h2⟩ := h
  refine ⟨h1.app L, ?_⟩
  rcases h2 with h2 | ⟨i, h2, h3, h4⟩
  · exact .inl h2
  · refine .inr ⟨i, h2, h3, ?_⟩
    have : i < T'.length := by
      rcases Nat.lt_or_ge i T'.length with h | h
      · exact h
      · rw [List.getElem?_eq_none h] at h4; cases h4
    rw [List.getElem?_append_left this]; exact h4
theorem accT.mk (sz : Nat) (T : Tk) {T' : Tk} (h : ExtT T T') (xs : List D) (L : Tk) : accT sz T xs (.sl (some T'.length) xs) (T' ++ some (xs.length, sz) :: L) := by
  obtain ⟨M, rfl⟩ := h
  refine ⟨⟨M ++ some (xs.length, sz) :: L, by simp⟩, .inr ⟨_, by simp, rfl, by simp⟩⟩
theorem accT.erase {sz : Nat} {T T' : Tk} {xs : List D} {d : D} (h : accT sz T xs d T') (he : D.eraseL xs = xs) (h0 : xs ≠ []) : d.erase = .sl none xs := by
  rcases h.2 with ⟨rfl, rfl⟩ | ⟨i, _, rfl, _⟩
  · exact (h0 rfl).elim
  · simp [D.erase, he]
theorem app_accT {sz bytes : Nat} {K : D → S → Prop} {t : Nat → D} {H : Hp} {T T' : Tk} {xs : List D} {d : D} (ys : List D) (h : accT sz T xs d T') (hy : ys.all (fit sz) = true) (hxs : xs.all (fit sz) = true) (hb : (xs.length + ys.length) * bytes ≤ 2 ^ 47) (hb2 : xs.length + ys.length < 2 ^ 62)
    (k : ∀ d2 T2, accT sz T (xs ++ ys) d2 T2 → K d2 ⟨t, H, T2⟩) : appK sz bytes K ⟨t, H, T'⟩ d (some ys) := by
  obtain ⟨h1, h2⟩ := h
  rcases h2 with ⟨rfl, rfl⟩ | ⟨i, hi, rfl, hT⟩
  · simp only [appK]
    refine ⟨hy, ?_⟩
    simp only [List.nil_append, List.length_nil, Nat.zero_add] at k hb hb2
    split
    · rename_i e; subst e; exact k _ _ (.nil sz T h1)
    · exact ⟨hb, hb2, k _ _ (.mk sz T h1 ys [])⟩
  · simp only [appK]
    refine ⟨hy, hT, hb, hb2, hxs, k _ _ ⟨?_, .inr ⟨i, hi, rfl, ?_⟩⟩⟩
    · obtain ⟨L, rfl⟩ := h1
      exact ⟨L.set (i - T.length) (some (xs.length + ys.length, sz)), by rw [List.set_append_right _ _ hi]⟩
    · have : i < T'.length := by
        rcases Nat.lt_or_ge i T'.length with h | h
        · exact h
        · rw [List.getElem?_eq_none h] at hT; cases hT
      rw [List.getElem?_set_self this]; simp
end GP
namespace GP
open Go
open Rd O
set_option maxRecDepth 100000
variable {P : Program} [HasG P]
mutual
theorem isV_cl : ∀ {d : D}, d.isV = true → d.cl 0 0 = true
  | d, h => by
    unfold D.isV at h
    split at h
    · simp [D.cl, D.clL]
    · simp only [Bool.and_eq_true] at h
      simp [D.cl, D.clL, isVs_cl h.2]
    · cases h
theorem isVs_cl : ∀ {l : List D}, D.isVs l = true → D.clL 0 0 l = true
  | [], _ => by simp [D.clL]
  | d :: l, h => by
    simp only [D.isVs, Bool.and_eq_true] at h
    simp [D.clL, isV_cl h.1, isVs_cl h.2]
end
theorem OkAtH.low {f : FuncId} {φ : List D → Option D} (h : OkAtH P f (fun _ => φ)) : OkAt P f φ := fun args r hr args' he H T Q hQ => h H args r hr args' he T Q hQ
end GP
namespace GP
open Go Go.Proofs
set_option maxRecDepth 100000
variable [HasG Try.prog]
def bagX (xs : List D) : List D := xs.foldl insU []
theorem insU_can (x : D) : ∀ zs : List D, (insU zs x).map can = insU (zs.map can) (can x)
  | [] => rfl
  | z :: r => by
    simp only [insU, List.map_cons, single_can]
    split
    · rw [List.map_cons, insU_can x r]
    · split <;> rfl
theorem bagX_can (xs : List D) : (bagX xs).map can = bagR xs := by
  have key : ∀ (l zs : List D), (l.foldl insU zs).map can = (l.map can).foldl insU (zs.map can) := by
    intro l
    induction l with
    | nil => intro zs; rfl
    | cons x l ih => intro zs; simp only [List.foldl_cons, List.map_cons, ih, insU_can]
  exact key xs []
theorem bagX_len (xs : List D) : (bagX xs).length = (bagR xs).length := by rw [← bagX_can]; simp
theorem bagX_snoc {xs : List D} {i : Nat} {x : D} (h : xs[i]? = some x) : bagX (xs.take (i + 1)) = insU (bagX (xs.take i)) x := by
  unfold bagX
  rw [List.take_add_one, h, List.foldl_append]; rfl
theorem insU_sub (x : D) : ∀ (zs : List D), ∀ y ∈ insU zs x, y ∈ zs ∨ y = x
  | [], y, h => by simp [insU] at h; exact .inr h
  | z :: r, y, h => by
    unfold insU at h
    split at h
    · rcases List.mem_cons.1 h with rfl | h
      · exact .inl (by simp)
      · rcases insU_sub x r y h with h | h
        · exact .inl (by simp [h])
        · exact .inr h
    · split at h
      · exact .inl h
      · rcases List.mem_cons.1 h with rfl | h
        · exact .inr rfl
        · exact .inl h
theorem bagX_sub (xs : List D) : ∀ y ∈ bagX xs, y ∈ xs := by
  have key : ∀ (l zs : List D), ∀ y ∈ l.foldl insU zs, y ∈ zs ∨ y ∈ l := by
    intro l
    induction l with
    | nil => intro zs y h; exact .inl h
    | cons x l ih =>
      intro zs y h
      rcases ih _ _ h with h | h
      · rcases insU_sub x zs y h with h | rfl
        · exact .inl h
        · exact .inr (by simp)
      · exact .inr (by simp [h])
  intro y h
  rcases key xs [] y h with h | h
  · cases h
  · exact h
theorem insU_le (x : D) : ∀ zs : List D, (insU zs x).length ≤ zs.length + 1
  | [] => by simp [insU]
  | z :: r => by
    have := insU_le x r
    unfold insU
    split
    · simp; omega
    · split <;> simp
theorem bagX_le (xs : List D) : (bagX xs).length ≤ xs.length := by
  have key : ∀ (l zs : List D), (l.foldl insU zs).length ≤ zs.length + l.length := by
    intro l
    induction l with
    | nil => intro zs; simp
    | cons x l ih => intro zs; have h1 := ih (insU zs x); have h2 := insU_le x zs; simp only [List.foldl_cons, List.length_cons]; omega
  have := key xs []
  simpa [bagX] using this
theorem insU_at {x : D} : ∀ {zs : List D} {a : Nat}, a ≤ zs.length → (∀ (j : Nat) z, j < a → zs[j]? = some z → singleD z x < 0) → (∀ z, zs[a]? = some z → ¬ singleD z x < 0) →
    insU zs x = if (match zs[a]? with | some z => singleD z x == 0 | none => false) then zs else zs.take a ++ x :: zs.drop a
  | [], a, h, _, _ => by
    have : a = 0 := by simpa using h
    subst this; rfl
  | z :: r, 0, _, _, h => by
    have := h z rfl
    simp only [insU, if_neg this]
    rfl
  | z :: r, a + 1, hl, h1, h2 => by
    have := h1 0 z (by omega) rfl
    simp only [insU, if_pos this]
    have ih := insU_at (x := x) (zs := r) (a := a) (by simpa using hl) (fun j z hj hz => h1 (j + 1) z (by omega) (by simpa using hz)) (fun z hz => h2 z (by simpa using hz))
    rw [ih]
    simp only [List.getElem?_cons_succ, List.take_succ_cons, List.drop_succ_cons, List.cons_append]
    cases r[a]? with
    | none => rfl
    | some z' =>
      by_cases hh : (singleD z' x == 0) = true
      · simp only [if_pos hh]
      · simp only [if_neg hh]
def bagW (xs : List D) : D × Int := if xs.any (badB xs) then (zeroV, 6) else if decide ((16 : Int) < (bagX xs).length) then (zeroV, 13) else (mkV 5 0 [] true (bagX xs), 0)
def φBagR : List D → Option D
  | [l] => if isSl l = true ∧ D.isVs (elems l) = true ∧ (elems l).length ≤ 2 ^ 30 then some (.tup [(bagW (elems l)).1, .int .i64 (bagW (elems l)).2]) else none
  | _ => none
def Lz (zs : List D) (d : D) : Prop := (zs = [] ∧ d = .nils) ∨ (zs ≠ [] ∧ ∃ tok, d = .sl tok zs)
theorem Lz.len {zs : List D} {d : D} (h : Lz zs d) : lenD d = some zs.length := by
  rcases h with ⟨rfl, rfl⟩ | ⟨_, _, rfl⟩ <;> rfl
theorem Lz.ia {zs : List D} {d : D} (h : Lz zs d) (k : IntKind) (i : Nat) : ia 4 d (.int k (i : Int)) = iaE 4 zs[i]? := by
  rcases h with ⟨rfl, rfl⟩ | ⟨_, _, rfl⟩
  · simp [GP.ia, iaE]
  · rw [ia_nat']
theorem Lz.cell {zs : List D} {d : D} (h : Lz zs d) : d.okc = true ∧ d.cells = [d] := by
  rcases h with ⟨rfl, rfl⟩ | ⟨_, _, rfl⟩ <;> exact ⟨rfl, rfl⟩
theorem Lz.er {zs : List D} {d : D} (h : Lz zs d) (he : D.eraseL zs = zs) : d.erase = sliceD true zs := by
  rcases h with ⟨rfl, rfl⟩ | ⟨hn, _, rfl⟩
  · rfl
  · simp only [D.erase, he]
    rcases sliceD_cases true zs with ⟨_, e⟩ | e
    · exact absurd e hn
    · exact e.symm
theorem Lz.lo {zs : List D} {d : D} (h : Lz zs d) (hz : ∀ z ∈ zs, z.isV = true) {a : Nat} (ha : a ≤ zs.length) : ∃ d1, slc 4 (some 0) (some (a : Int)) d = some d1 ∧ appSrc false d1 = some (zs.take a) := by
  rcases h with ⟨rfl, rfl⟩ | ⟨_, tok, rfl⟩
  · have : a = 0 := by simpa using ha
    subst this
    exact ⟨.nils, rfl, rfl⟩
  · have hc : zs.all (fun d => d.cells.length == 4) = true := List.all_eq_true.2 fun z m => by
      obtain ⟨k, i, s, n, l, rfl, _⟩ := isV_elim (hz z m)
      rfl
    exact ⟨_, by rw [slc_sl, if_pos ⟨by omega, by omega, by omega, hc⟩], by simp [appSrc, subList]⟩
theorem Lz.hi {zs : List D} {d : D} (h : Lz zs d) (hz : ∀ z ∈ zs, z.isV = true) {a : Nat} (ha : a ≤ zs.length) : ∃ d1, slc 4 (some (a : Int)) (some (zs.length : Int)) d = some d1 ∧ appSrc false d1 = some (zs.drop a) := by
  rcases h with ⟨rfl, rfl⟩ | ⟨_, tok, rfl⟩
  · have : a = 0 := by simpa using ha
    subst this
    exact ⟨.nils, rfl, rfl⟩
  · have hc : zs.all (fun d => d.cells.length == 4) = true := List.all_eq_true.2 fun z m => by
      obtain ⟨k, i, s, n, l, rfl, _⟩ := isV_elim (hz z m)
      rfl
    exact ⟨_, by rw [slc_sl, if_pos ⟨by omega, by omega, by omega, hc⟩], by simp [appSrc, subList]⟩
theorem fitV {zs : List D} (hz : ∀ z ∈ zs, z.isV = true) : zs.all (fit 4) = true := (isV_agg hz).fit
theorem p90 {z x : D} (hz : z.isV = true) (hx : x.isV = true) : φsingle [z, x] = some (.int .i64 (singleD z x)) := by
  obtain ⟨k1, i1, s1, n1, l1, rfl, z1, y1, _⟩ := isV_elim hz
  obtain ⟨k2, i2, s2, n2, l2, rfl, z2, y2, _⟩ := isV_elim hx
  simp only [mkV, φsingle]
  have a1 : lenD (sliceD n1 l1) = some l1.length := by rcases sliceD_cases n1 l1 with ⟨e, rfl⟩ | e <;> rw [e] <;> rfl
  have a2 : lenD (sliceD n2 l2) = some l2.length := by rcases sliceD_cases n2 l2 with ⟨e, rfl⟩ | e <;> rw [e] <;> rfl
  rw [if_pos ⟨z1, z2, by rw [a1]; rfl, by rw [a2]; rfl⟩]
  rfl
set_option maxHeartbeats 8000000 in
theorem ok52 : OkAt Try.prog 52 φBagR := by
  refine okFX_of (X := XU Try.prog [] [(90, φsingle)] [] []) (XU.X (.cons ok90 .nil) .nil .nil) fn52 fun args r h => ?_
  have hM : MonoH [] := .nil
  have u0 : ([] : List FuncId).contains 90 = false := rfl
  unfold φBagR at h
  split at h
  · rename_i l
    split at h
    · rename_i hc
      obtain ⟨h1, h2, h3⟩ := hc
      injection h with h; subst h
      have hv := isVs_iff.1 h2
      have eL := erase_of_isV hv
      obtain ⟨n, hl⟩ := isSl_elim h1
      obtain ⟨xs, hxs⟩ : ∃ xs, elems l = xs := ⟨_, rfl⟩
      rw [hxs] at h3 hv eL hl ⊢
      subst hl
      clear h1 h2 hxs
      have hcl : ((bagW xs).1).cl 0 0 = true := by
        unfold bagW
        split
        · rfl
        split
        · rfl
        · have := isVs_cl (isVs_iff.2 fun y hy => hv y (bagX_sub xs y hy))
          rcases sliceD_cases true (bagX xs) with ⟨e, _⟩ | e <;> simp [mkV, e, D.cl, D.clL, this]
      refine ⟨by simp, by simp [D.cl, D.clL, hcl], fun H T => ?_⟩
      simp +contextual (maxSteps := 10000000) only [c52, go_sem, W_draw]
      refine W_for (fun i s' => s'.t 0 = sliceD n xs ∧ s'.t 2 = .ptr H.length 0 ∧ s'.t 4 = .int .i64 (i : Nat) ∧ Ext (H ++ [.row [.int .i64 0, .int .i64 0, .str [], .nils]]) s'.H ∧ s'.T = T ∧ i ≤ xs.length ∧ ∀ (j : Nat) x, j < i → xs[j]? = some x → badB xs x = false) xs.length
        ⟨0, by simp [upd, argT], by simp [upd], by simp [upd], Ext.refl _, rfl, by omega, fun j x h => by omega⟩ (fun i s h => h.2.2.2.2.2.1) ?_ (XU_mono _ _ _ _)
      rintro i ⟨t, B, T2⟩ ⟨r0, r2, r4, hE, rfl, hi, hF⟩
      simp only at r0 r2 r4 hE
      have b1 := hE.get (o := H.length) (x := .row [.int .i64 0, .int .i64 0, .str [], .nils]) (by simp)
      by_cases hlt : i < xs.length
      · have d1 : decide (((i : Nat) : Int) < xs.length) = true := by simp only [decide_eq_true_eq]; omega
        obtain ⟨k1, i1, s1, n1, l1, e1, hs1, hx1, hV1, eL1⟩ := get_isV hv hlt
        obtain ⟨k0, i0, s0, n0, l0, e0, _⟩ := get_isV hv (show 0 < xs.length by omega)
        have fk := vk0_get e0
        have hbd : badB xs (mkV k1 i1 s1 n1 l1) = ((k1 == 0) || (k1 == 5) || (k1 != k0)) := by simp only [badB, vk_mk, fk]
        have hbad : badB xs (mkV k1 i1 s1 n1 l1) = true → bagW xs = (zeroV, 6) := fun h => by
          unfold bagW
          rw [if_pos]
          exact List.any_eq_true.2 ⟨_, List.mem_of_getElem? e1, h⟩
        have hgood : badB xs (mkV k1 i1 s1 n1 l1) = false → ∀ (j : Nat) x, j < i + 1 → xs[j]? = some x → badB xs x = false := fun g j x hj hx => by
          rcases Nat.lt_or_ge j i with h' | h'
          · exact hF j x h' hx
          · have : j = i := by omega
            subst this; rw [e1] at hx; injection hx with hx; rw [← hx]; exact g
        rw [hbd] at hbad hgood
        have fin : bagW xs = (zeroV, 6) → LeavesE (D.tup [(bagW xs).fst, D.int IntKind.i64 (bagW xs).snd]) H T2 (D.tup [D.agg [D.int IntKind.i64 0, D.int IntKind.i64 0, D.str [], D.nils], D.int IntKind.i64 6])
            (List.set B (List.length H) (Ob.row [D.int IntKind.i64 0, D.int IntKind.i64 0, D.str [], D.nils])) T2 := fun h => by
          rw [h]
          exact leavesE_end (.refl _) (hE.pre.set (Nat.le_refl _) _) (ExtT.refl _)
        have cs : ((k1 == 0) = true) ∨ ((k1 == 0) = false ∧ (k1 == 5) = true) ∨ ((k1 == 0) = false ∧ (k1 == 5) = false ∧ (k1 != k0) = true) ∨ ((k1 == 0) = false ∧ (k1 == 5) = false ∧ (k1 != k0) = false) := by
          cases (k1 == 0) <;> cases (k1 == 5) <;> cases (k1 != k0) <;> simp
        rcases cs with q1 | ⟨q1, q2⟩ | ⟨q1, q2, q3⟩ | ⟨q1, q2, q3⟩
        · simp +contextual (maxSteps := 10000000) only [r0, r2, r4, d1, e1, e0, mkV, q1, u0, XU_eq, eL1, storeK_E b1, rdAt_set0 b1, go_sem, W_draw]
          exact fin (hbad (by rw [q1]; rfl))
        · simp +contextual (maxSteps := 10000000) only [r0, r2, r4, d1, e1, e0, mkV, q1, q2, u0, XU_eq, eL1, storeK_E b1, rdAt_set0 b1, go_sem, W_draw]
          exact fin (hbad (by rw [q1, q2]; rfl))
        · simp +contextual (maxSteps := 10000000) only [r0, r2, r4, d1, e1, e0, mkV, q1, q2, q3, u0, XU_eq, eL1, storeK_E b1, rdAt_set0 b1, go_sem, W_draw]
          exact fin (hbad (by rw [q1, q2, q3]; rfl))
        · simp +contextual (maxSteps := 10000000) only [r0, r2, r4, d1, e1, e0, mkV, q1, q2, q3, u0, XU_eq, eL1, wrap_succ i (by omega), go_sem, W_draw]
          exact ⟨hE, by omega, hgood (by rw [q1, q2, q3]; rfl)⟩
      · have d1 : decide (((i : Nat) : Int) < xs.length) = false := by simp only [decide_eq_false_iff_not]; omega
        have hAny : xs.any (badB xs) = false := List.any_eq_false.2 fun x hx => by
          obtain ⟨j, hj, rfl⟩ := List.getElem_of_mem hx
          rw [hF j _ (by omega) (by rw [List.getElem?_eq_getElem hj])]; decide
        simp +contextual (maxSteps := 10000000) only [r0, r2, r4, d1, go_sem, W_draw]
        refine W_for (fun i s' => ∃ d, s'.t 0 = sliceD n xs ∧ s'.t 2 = .ptr H.length 0 ∧ s'.t 5 = .ptr B.length 0 ∧ s'.t 6 = .int .i64 (i : Nat) ∧ s'.H = B ++ [Ob.row [.int .i64 5, .int .i64 0, .str [], d]] ∧ ExtT T2 s'.T ∧ Lz (bagX (xs.take i)) d ∧ i ≤ xs.length) xs.length
          ⟨0, .nils, by simp [upd, r0], by simp [upd, r2], by simp [upd], by simp [upd], rfl, ExtT.refl _, .inl ⟨rfl, rfl⟩, by omega⟩ (fun i s h => by obtain ⟨_, h⟩ := h; exact h.2.2.2.2.2.2.2) ?_ (XU_mono _ _ _ _)
        clear r0 r2 r4 hlt hi d1 hF i
        rintro i ⟨t, B', U⟩ ⟨d, r0, r2, r5, r6, rfl, hT, hL, hi⟩
        simp only at r0 r2 r5 r6 hT
        have hbl : B.length < (B ++ [Ob.row [.int .i64 5, .int .i64 0, .str [], d]]).length := by simp
        obtain ⟨zs, hzs⟩ : ∃ zs, bagX (xs.take i) = zs := ⟨_, rfl⟩
        rw [hzs] at hL
        have hzx : ∀ z ∈ zs, z ∈ xs := fun z hz => List.mem_of_mem_take (bagX_sub _ z (by rw [hzs]; exact hz))
        have hzv : ∀ z ∈ zs, z.isV = true := fun z hz => hv z (hzx z hz)
        have hzl : zs.length ≤ xs.length := by
          have := bagX_le (xs.take i)
          rw [hzs] at this
          simp at this; omega
        have hlen := hL.len
        have hia := hL.ia
        by_cases hlt : i < xs.length
        · have d1 : decide (((i : Nat) : Int) < xs.length) = true := by simp only [decide_eq_true_eq]; omega
          obtain ⟨k1, i1, s1, n1, l1, e1, hs1, hx1, hV1, eL1⟩ := get_isV hv hlt
          have iv : (mkV k1 i1 s1 n1 l1).isV = true := hv _ (List.mem_of_getElem? e1)
          simp +contextual (maxSteps := 10000000) only [r0, r2, r5, r6, d1, go_sem, W_draw]
          refine W_for (fun a s' => s'.t 0 = sliceD n xs ∧ s'.t 2 = .ptr H.length 0 ∧ s'.t 5 = .ptr B.length 0 ∧ s'.t 6 = .int .i64 (i : Nat) ∧ s'.t 7 = .int .i64 (a : Nat) ∧ s'.H = B ++ [Ob.row [.int .i64 5, .int .i64 0, .str [], d]] ∧ s'.T = U ∧ a ≤ zs.length ∧ ∀ (j : Nat) z, j < a → zs[j]? = some z → singleD z (mkV k1 i1 s1 n1 l1) < 0) zs.length
            ⟨0, by simp [upd, r0], by simp [upd, r2], by simp [upd, r5], by simp [upd, r6], by simp [upd], rfl, rfl, by omega, fun j z h => by omega⟩ (fun i s h => h.2.2.2.2.2.2.2.1) ?_ (XU_mono _ _ _ _)
          clear r0 r2 r5 r6
          rintro a ⟨t, B', U'⟩ ⟨q0, q2, q5, q6, q7, rfl, rfl, ha, hlow⟩
          simp only at q0 q2 q5 q6 q7
          obtain ⟨dlo, hl1, b1'⟩ := hL.lo hzv ha
          obtain ⟨dhi, hl2, b2⟩ := hL.hi hzv ha
          by_cases hal : a < zs.length
          · have d2 : decide (((a : Nat) : Int) < zs.length) = true := by simp only [decide_eq_true_eq]; omega
            obtain ⟨k2, i2, s2, n2, l2, e2, hs2, hx2, hV2, eL2⟩ := get_isV hzv hal
            have pS := p90 (hzv _ (List.mem_of_getElem? e2)) iv
            obtain ⟨sv, hsv⟩ : ∃ sv, singleD (mkV k2 i2 s2 n2 l2) (mkV k1 i1 s1 n1 l1) = sv := ⟨_, rfl⟩
            rw [hsv] at pS
            simp only [mkV] at pS
            rcases tf (decide (sv < 0)) with g1 | g1
            · have hlow' : ∀ (j : Nat) z, j < a + 1 → zs[j]? = some z → singleD z (mkV k1 i1 s1 n1 l1) < 0 := fun j z hj hz => by
                rcases Nat.lt_or_ge j a with h' | h'
                · exact hlow j z h' hz
                · have : j = a := by omega
                  subst this; rw [e2] at hz; injection hz with hz; rw [← hz, hsv]; simpa using g1
              simp +contextual (maxSteps := 10000000) only [q0, q2, q5, q6, q7, hlen, hia, d2, e1, e2, mkV, pS, g1, u0, XU_eq, pcallU hM, eL1, eL2, wrap_succ a (by omega), go_sem, W_draw]
              exact ⟨by omega, hlow'⟩
            rcases tf (sv == 0) with g2 | g2
            · simp +contextual (maxSteps := 10000000) only [q0, q2, q5, q6, q7, hlen, hia, d2, e1, e2, mkV, pS, g1, g2, u0, XU_eq, pcallU hM, eL1, eL2, wrap_succ i (by omega), go_sem, W_draw]
              refine ⟨d, rfl, hT, ?_, by omega⟩
              rw [bagX_snoc e1, hzs, insU_at ha hlow (fun z hz => by rw [e2] at hz; injection hz with hz; rw [← hz, hsv]; simpa using g1), e2]
              simp only [hsv, g2, if_true]
              exact hL
            have hat : insU zs (mkV k1 i1 s1 n1 l1) = zs.take a ++ (mkV k1 i1 s1 n1 l1) :: zs.drop a := by
              rw [insU_at ha hlow (fun z hz => by rw [e2] at hz; injection hz with hz; rw [← hz, hsv]; simpa using g1), e2]
              simp only [hsv, g2, Bool.false_eq_true, if_false]
            simp +contextual (maxSteps := 10000000) only [q0, q2, q5, q6, q7, hlen, hia, d2, e1, e2, mkV, pS, g1, g2, u0, XU_eq, pcallU hM, eL1, eL2, hl1, b1', go_sem, W_draw]
            refine app_accT (T := U') (xs := []) (zs.take a) (accT.nil 4 U' (ExtT.refl U')) (fitV fun z h => hzv z (List.mem_of_mem_take h)) rfl (by simp; omega) (by simp; omega) fun d2 T2 hA2 => ?_
            simp +contextual (maxSteps := 10000000) only [q0, q2, q5, q6, q7, e1, mkV, eL1, go_sem, W_draw]
            refine app_accT (sz := 4) (bytes := 56) [mkV k1 i1 s1 n1 l1] (hA2.app _) (fitV fun z h => by rw [List.mem_singleton.1 h]; exact iv) (fitV fun z h => hzv z (List.mem_of_mem_take (by simpa using h))) (by simp; omega) (by simp; omega) fun d3 T3 hA3 => ?_
            simp +contextual (maxSteps := 10000000) only [q0, q2, q5, q6, q7, hlen, hl2, b2, go_sem, W_draw]
            refine app_accT (sz := 4) (bytes := 56) (zs.drop a) hA3 (fitV fun z h => hzv z (List.mem_of_mem_drop h)) (fitV fun z h => ?_) (by simp; omega) (by simp; omega) fun d4 T4 hA4 => ?_
            · simp only [List.nil_append, List.mem_append, List.mem_singleton] at h
              rcases h with h | rfl
              · exact hzv z (List.mem_of_mem_take h)
              · exact iv
            have hLz : Lz (bagX (xs.take (i + 1))) d4 := by
              rw [bagX_snoc e1, hzs, hat]
              rcases hA4.2 with ⟨h0, _⟩ | ⟨tk, _, h0, _⟩
              · simp at h0
              · exact .inr ⟨by simp, some tk, by rw [h0]; simp⟩
            obtain ⟨o1, o2⟩ := hLz.cell
            simp +contextual (maxSteps := 10000000) only [q0, q2, q5, q6, q7, o1, o2, wrap_succ i (by omega), go_sem, W_draw]
            refine ⟨d4, rfl, ?_, hLz, by omega⟩
            obtain ⟨M1, hM1⟩ := hT
            obtain ⟨M2, hM2⟩ := hA4.1
            exact ⟨M1 ++ M2, by rw [hM2]; simp only at hM1; rw [hM1, List.append_assoc]⟩
          · have d2 : decide (((a : Nat) : Int) < zs.length) = false := by simp only [decide_eq_false_iff_not]; omega
            have hat : insU zs (mkV k1 i1 s1 n1 l1) = zs.take a ++ (mkV k1 i1 s1 n1 l1) :: zs.drop a := by
              rw [insU_at ha hlow (fun z hz => by rw [List.getElem?_eq_none (by omega)] at hz; cases hz), List.getElem?_eq_none (by omega)]
              rfl
            simp +contextual (maxSteps := 10000000) only [q0, q2, q5, q6, q7, hlen, hia, d2, e1, mkV, u0, XU_eq, pcallU hM, eL1, hl1, b1', go_sem, W_draw]
            refine app_accT (T := U') (xs := []) (zs.take a) (accT.nil 4 U' (ExtT.refl U')) (fitV fun z h => hzv z (List.mem_of_mem_take h)) rfl (by simp; omega) (by simp; omega) fun d2 T2 hA2 => ?_
            simp +contextual (maxSteps := 10000000) only [q0, q2, q5, q6, q7, e1, mkV, eL1, go_sem, W_draw]
            refine app_accT (sz := 4) (bytes := 56) [mkV k1 i1 s1 n1 l1] (hA2.app _) (fitV fun z h => by rw [List.mem_singleton.1 h]; exact iv) (fitV fun z h => hzv z (List.mem_of_mem_take (by simpa using h))) (by simp; omega) (by simp; omega) fun d3 T3 hA3 => ?_
            simp +contextual (maxSteps := 10000000) only [q0, q2, q5, q6, q7, hlen, hl2, b2, go_sem, W_draw]
            refine app_accT (sz := 4) (bytes := 56) (zs.drop a) hA3 (fitV fun z h => hzv z (List.mem_of_mem_drop h)) (fitV fun z h => ?_) (by simp; omega) (by simp; omega) fun d4 T4 hA4 => ?_
            · simp only [List.nil_append, List.mem_append, List.mem_singleton] at h
              rcases h with h | rfl
              · exact hzv z (List.mem_of_mem_take h)
              · exact iv
            have hLz : Lz (bagX (xs.take (i + 1))) d4 := by
              rw [bagX_snoc e1, hzs, hat]
              rcases hA4.2 with ⟨h0, _⟩ | ⟨tk, _, h0, _⟩
              · simp at h0
              · exact .inr ⟨by simp, some tk, by rw [h0]; simp⟩
            obtain ⟨o1, o2⟩ := hLz.cell
            simp +contextual (maxSteps := 10000000) only [q0, q2, q5, q6, q7, o1, o2, wrap_succ i (by omega), go_sem, W_draw]
            refine ⟨d4, rfl, ?_, hLz, by omega⟩
            obtain ⟨M1, hM1⟩ := hT
            obtain ⟨M2, hM2⟩ := hA4.1
            exact ⟨M1 ++ M2, by rw [hM2]; simp only at hM1; rw [hM1, List.append_assoc]⟩
        · have d1 : decide (((i : Nat) : Int) < xs.length) = false := by simp only [decide_eq_false_iff_not]; omega
          have hxi : xs.take i = xs := List.take_of_length_le (by omega)
          rw [hxi] at hzs
          have hbE : Ext H (B ++ [Ob.row [.int .i64 5, .int .i64 0, .str [], d]]) := hE.pre.app _
          have bb : (B ++ [Ob.row [.int .i64 5, .int .i64 0, .str [], d]])[H.length]? = some (.row [.int .i64 0, .int .i64 0, .str [], .nils]) := (Ext.of B _).get b1
          have eZ : D.eraseL zs = zs := erase_of_isV hzv
          obtain ⟨o1, o2⟩ := hL.cell
          rcases tf (decide ((16 : Int) < zs.length)) with g | g
          · have hb : bagW xs = (zeroV, 13) := by
              unfold bagW
              rw [if_neg (by rw [hAny]; decide), hzs, g, if_pos rfl]
            simp +contextual (maxSteps := 10000000) only [r0, r2, r5, r6, d1, hlen, g, storeK_E bb, rdAt_set0 bb, go_sem, W_draw]
            rw [hb]
            exact leavesE_end (.refl _) (hbE.set (Nat.le_refl _) _) hT
          · have hb : bagW xs = (mkV 5 0 [] true zs, 0) := by
              unfold bagW
              rw [if_neg (by rw [hAny]; decide), hzs, g, if_neg (by decide)]
            simp +contextual (maxSteps := 10000000) only [r0, r2, r5, r6, d1, hlen, g, o1, o2, storeK_E bb, rdAt_set0 bb, go_sem, W_draw]
            rw [hb]
            exact leavesE_end (Crs.erase (by simp only [D.erase, D.eraseL, hL.er eZ, mkV])) (hbE.set (Nat.le_refl _) _) hT
    · cases h
  · cases h
end GP
namespace GP
open Go Go.Proofs
set_option maxRecDepth 100000
variable [HasG Try.prog]
theorem ok116 : OkAt Try.prog 116 φkinds := by
  refine ok_of (l := []) Ok.nil fn116 fun args r h => ?_
  unfold φkinds at h
  split at h
  · injection h with h; subst h
    refine ⟨by simp, by simp [D.cl, D.clL, num], fun H T => ?_⟩
    simp +contextual (maxSteps := 10000000) only [c116, go_sem, W_draw]
  · cases h
theorem ok117 : OkAt Try.prog 117 φnumber := by
  refine ok_of (l := [(83, φNumber)]) (.cons ok83 .nil) fn117 fun args r h => ?_
  unfold φnumber at h
  split at h
  · injection h with h; subst h
    rename_i n ok
    refine ⟨by simp, by cases ok <;> simp [D.cl, D.clL, num, zeroV], fun H T => ?_⟩
    cases ok <;> simp +contextual (maxSteps := 10000000) only [c117, φNumber, num, zeroV, go_sem, W_draw]
  · cases h
theorem ok118 : OkAt Try.prog 118 φsum := by
  refine ok_of (l := []) Ok.nil fn118 fun args r h => ?_
  unfold φsum at h
  split at h
  · injection h with h; subst h
    refine ⟨by simp, by simp [D.cl, D.clL, num], fun H T => ?_⟩
    simp +contextual (maxSteps := 10000000) only [c118, sumB, go_sem, W_draw]
  · cases h
def φAdd23 : List D → Option D
  | [.agg [.int .i64 2, .int .i64 a, .str [], .nils], .agg [.int .i64 2, .int .i64 b, .str [], .nils]] => some (.tup [if sumB a b then num (IntKind.i64.wrap (a + b)) else zeroV, .int .i64 (if sumB a b then 0 else 7)])
  | _ => none
theorem ok82a : OkAt Try.prog 82 φAdd23 := by
  refine ok_of (l := [(53, φformed1), (116, φkinds), (118, φsum), (117, φnumber)]) (.cons ok53a (.cons ok116 (.cons ok118 (.cons ok117 .nil)))) fn82 fun args r h => ?_
  unfold φAdd23 at h
  split at h
  · injection h with h; subst h
    rename_i a b
    refine ⟨by simp, by cases sumB a b <;> simp [D.cl, D.clL, num, zeroV], fun H T => ?_⟩
    cases hq : sumB a b <;> simp +contextual (maxSteps := 10000000) only [c82, φformed1, φkinds, φsum, φnumber, plainB, num, zeroV, hq, go_sem, W_draw]
  · cases h
def φawake : List D → Option D
  | [] => some (.bool true)
  | _ => none
theorem ok48 : OkAt Try.prog 48 φawake := by
  refine ok_of (l := [(53, φformed1), (83, φNumber), (82, φAdd23)]) (.cons ok53a (.cons ok83 (.cons ok82a .nil))) fn48 fun args r h => ?_
  unfold φawake at h
  split at h
  · injection h with h; subst h
    refine ⟨by simp, by simp [D.cl, D.clL, num], fun H T => ?_⟩
    have hq : sumB 2 3 = true := by decide
    have hw : IntKind.i64.wrap (2 + 3) = 5 := by decide
    have hw' : IntKind.i64.wrap 5 = 5 := by decide
    simp +contextual (maxSteps := 10000000) only [c48, φformed1, φNumber, φAdd23, plainB, num, zeroV, hq, hw, hw', Int.reduceAdd, go_sem, W_draw]
  · cases h
end GP
namespace GP
open Go Go.Proofs
set_option maxRecDepth 100000
variable [HasG Try.prog]
theorem tfB (b : Bool) : b = false ∨ b = true := by cases b <;> simp
theorem sameEl_of {x y : D} (h : singleD x y = 0 ∨ x = y ∨ x = can y) (k : vk x = vk y) (i : vi x = vi y) (s : vs x = vs y) (lx : (vl x).length = 0) (ly : (vl y).length = 0) : sameEl x y = true := by
  simp [sameEl, k, i, s, lx, ly]
theorem same_refl {d : D} (h : few1 d = true) : sameB d d = true := by
  unfold sameB
  rw [if_neg (by simp)]
  refine List.all_eq_true.2 fun i hi => ?_
  have hi : i < (vl d).length := by simpa using hi
  simp only [okSame, List.getElem?_eq_getElem hi]
  simp only [few1, Bool.and_eq_true, List.all_eq_true] at h
  have := h.2 _ (List.getElem_mem hi)
  simp only [leafFew, Bool.and_eq_true, decide_eq_true_eq] at this
  exact sameEl_of (.inr (.inl rfl)) rfl rfl rfl this.2 this.2
theorem can_isV {y : D} (h : y.isV = true) : (can y).isV = true := by
  obtain ⟨k, i, s, n, l, rfl, z, _⟩ := isV_elim h
  unfold can mkV sliceD
  simp only [Bool.false_and, Bool.false_eq_true, if_false]
  unfold D.isV
  simp only [vs, List.length_nil, D.isVs, Bool.and_true]
  rw [Bool.and_eq_true]
  exact ⟨decide_eq_true z, by decide⟩
theorem mk_isV {k i : Int} {n : Bool} {l : List D} (hl : ∀ x ∈ l, x.isV = true) (h : l.length ≤ 2 ^ 47) : (mkV k i [] n l).isV = true := by
  unfold mkV
  rcases sliceD_cases n l with ⟨e, _⟩ | e <;> rw [e]
  · rfl
  · simp only [D.isV]
    simp only [List.length_nil, Bool.and_eq_true, decide_eq_true_eq]
    exact ⟨⟨by omega, h⟩, isVs_iff.2 hl⟩
theorem bag_formed {xs : List D} (h : good1 xs) (hb : xs.any (badB xs) = false) (hl : (bagR xs).length ≤ 16) : formedV (mkV 5 0 [] false (bagR xs)) = true := by
  rw [formed_same]
  unfold formedB
  simp only [vk_mk, vi_mk, vs_mk, vl_mk]
  rw [if_neg (by decide), if_neg (by simp; omega)]
  obtain ⟨hr, hm⟩ := bagR_spec h
  have hk : ∀ z ∈ bagR xs, one1 z = true ∧ vk z ≠ 0 ∧ vk z = vk0 xs := fun z hz => by
    obtain ⟨y, hy, rfl⟩ := (hm z).1 hz
    have := List.any_eq_false.1 hb y hy
    simp only [badB, Bool.or_eq_true, beq_iff_eq, bne_iff_ne, not_or, Decidable.not_not] at this
    rw [can_vk]
    exact ⟨one1_can (h y hy), this.1.1, this.2⟩
  have h0 : ∀ z ∈ bagR xs, vk z = vk0 (bagR xs) := by
    cases hR : bagR xs with
    | nil => simp
    | cons w r =>
      rw [hR] at hk
      intro z hz
      rw [(hk z hz).2.2]
      exact (hk w (by simp)).2.2.symm
  refine List.all_eq_true.2 fun i hi => ?_
  have hi : i < (bagR xs).length := by simpa using hi
  simp only [okEl, List.getElem?_eq_getElem hi]
  obtain ⟨k1, k2, k3⟩ := hk _ (List.getElem_mem hi)
  rw [k1, h0 _ (List.getElem_mem hi)]
  have k2' := h0 _ (List.getElem_mem hi)
  rw [k2'] at k2
  simp only [Bool.true_and, beq_self_eq_true, Bool.and_eq_true, bne_iff_ne, Bool.or_eq_true, beq_iff_eq]
  refine ⟨⟨k2, trivial⟩, ?_⟩
  cases i with
  | zero => exact .inl rfl
  | succ i =>
    refine .inr ?_
    simp only [Nat.add_sub_cancel]
    rw [List.getElem?_eq_getElem (by omega)]
    simp only [decide_eq_true_eq]
    exact List.pairwise_iff_getElem.1 hr i (i + 1) (by omega) hi (by omega)
theorem same_bags {xs : List D} (h : good1 xs) : sameB (mkV 5 0 [] false (bagR xs)) (mkV 5 0 [] true (bagX xs)) = true := by
  unfold sameB
  simp only [vk_mk, vi_mk, vs_mk, vl_mk]
  rw [if_neg (by simp [bagX_len])]
  refine List.all_eq_true.2 fun i hi => ?_
  have hi : i < (bagR xs).length := by simpa using hi
  have hi2 : i < (bagX xs).length := by rw [bagX_len]; exact hi
  have e : (bagR xs)[i]? = ((bagX xs)[i]?).map can := by rw [← bagX_can, List.getElem?_map]
  simp only [okSame, e, List.getElem?_eq_getElem hi2, Option.map_some]
  have hy := bagX_sub xs _ (List.getElem_mem hi2)
  have := plain_leaf (h _ hy)
  exact sameEl_of (.inr (.inr rfl)) (can_vk _) (can_vi _) (can_vs _) (by rw [can_vl]; rfl) this
theorem bags {xs : List D} (hv : ∀ x ∈ xs, x.isV = true) (hl : xs.length ≤ 2 ^ 30) (hall : xs.all formedV = true) : ∃ k1 i1 s1 n1 l1 k2 i2 s2 n2 l2 e, bagV xs = (mkV k1 i1 s1 n1 l1, e) ∧ bagW xs = (mkV k2 i2 s2 n2 l2, e) ∧ (mkV k1 i1 s1 n1 l1).isV = true ∧ (mkV k2 i2 s2 n2 l2).isV = true ∧ sameB (mkV k1 i1 s1 n1 l1) (mkV k2 i2 s2 n2 l2) = true ∧ ((e = 0 ∧ formedV (mkV k1 i1 s1 n1 l1) = true) ∨ (e == 0) = false) := by
  have hz : sameB (mkV 0 0 [] true []) (mkV 0 0 [] true []) = true := by decide
  unfold bagV bagW
  rw [if_neg (by rw [hall]; decide)]
  rcases tf (xs.any (badB xs)) with g | g
  · rw [g]
    refine ⟨0, 0, [], true, [], 0, 0, [], true, [], 6, rfl, rfl, rfl, rfl, hz, .inr rfl⟩
  rw [g]
  have h1 : good1 xs := fun x hx => by
    have f := List.all_eq_true.1 hall x hx
    have g' : ¬ (badB xs x = true) := List.any_eq_false.1 g x hx
    have k : ¬ vk x = 5 := fun k => g' (by simp [badB, k])
    unfold formedV at f
    rwa [if_pos (by simpa using k)] at f
  rw [bagX_len]
  have hle := bagX_le xs
  have hlR := bagX_len xs
  rcases tf (decide ((16 : Int) < (bagR xs).length)) with g2 | g2
  · rw [g2]
    refine ⟨0, 0, [], true, [], 0, 0, [], true, [], 13, rfl, rfl, rfl, rfl, hz, .inr rfl⟩
  · rw [g2]
    refine ⟨5, 0, [], false, bagR xs, 5, 0, [], true, bagX xs, 0, rfl, rfl, mk_isV (fun x hx => ?_) (by omega), mk_isV (fun x hx => hv x (bagX_sub xs x hx)) (by omega), same_bags h1, .inl ⟨rfl, bag_formed h1 g (by simp at g2; omega)⟩⟩
    obtain ⟨y, hy, rfl⟩ := ((bagR_spec h1).2 x).1 hx
    exact can_isV (hv y hy)
theorem few_each {xs : List D} {n : Int} (hn : n ≤ 100) (h : fewB xs n = true) : (xs.length : Int) ≤ n ∧ ∀ x ∈ xs, few1 x = true := by
  unfold fewB at h
  simp only [Bool.and_eq_true, decide_eq_true_eq, List.all_eq_true] at h
  refine ⟨h.2, fun x hx => h.1 x ?_⟩
  rw [List.take_of_length_le (by omega)]; exact hx
set_option maxHeartbeats 8000000 in
theorem main12 {n : Bool} {xs : List D} (hv : ∀ x ∈ xs, x.isV = true) (hl : xs.length ≤ 2 ^ 47) {H : Hp} {T : Tk} {Q : Post} (hQ : ∀ B U, Q (.bool true) B U) : W (Snd Try.prog) c12 (endQ [.inl 2] Q) ⟨argT [sliceD n xs], H, T⟩ := by
  have hX := XL_mono [(48, φawake), (49, φFew), (50, φBag), (38, φSame), (51, φformed), (52, φBagR), (53, φFormed)]
  refine W_mono (X := XL [(48, φawake), (49, φFew), (50, φBag), (38, φSame), (51, φformed), (52, φBagR), (53, φFormed)]) (Ok.X (.cons ok48 (.cons ok49 (.cons ok50 (.cons ok38 (.cons ok51 (.cons ok52 (.cons ok53 .nil)))))))) (fun _ _ h => h) ?_
  have eL := erase_of_isV hv
  have p49 : φFew [sliceD n xs, .int .i64 30] = some (.bool (fewB xs 30)) := by
    simp only [φFew]
    rw [if_pos ⟨isSl_sliceD _ _, by rw [elems_sliceD]; exact isVs_iff.2 hv, by rw [elems_sliceD]; exact hl⟩, elems_sliceD]
  rcases tfB (fewB xs 30) with hf | hf
  · rw [hf] at p49
    simp +contextual (maxSteps := 10000000) only [c12, φawake, p49, eL, go_sem, W_draw]
    exact hQ _ _
  rw [hf] at p49
  obtain ⟨hll, hfe⟩ := few_each (by omega) hf
  have hfit := fitV hv
  have p50 : φBag [sliceD n xs] = some (.tup [(bagV xs).1, .int .i64 (bagV xs).2]) := by
    simp only [φBag]
    rw [if_pos ⟨isSl_sliceD _ _, by rw [elems_sliceD]; exact isVs_iff.2 hv, by rw [elems_sliceD]; omega⟩, elems_sliceD]
  have p52 : φBagR [sliceD n xs] = some (.tup [(bagW xs).1, .int .i64 (bagW xs).2]) := by
    simp only [φBagR]
    rw [if_pos ⟨isSl_sliceD _ _, by rw [elems_sliceD]; exact isVs_iff.2 hv, by rw [elems_sliceD]; omega⟩, elems_sliceD]
  have pz : ∃ k1 i1 s1 n1 l1 e, bagV xs = (mkV k1 i1 s1 n1 l1, e) ∧ (mkV k1 i1 s1 n1 l1).isV = true ∧ (xs.all formedV = false → mkV k1 i1 s1 n1 l1 = zeroV ∧ e = 1) ∧ (xs.all formedV = true → ∃ k2 i2 s2 n2 l2, bagW xs = (mkV k2 i2 s2 n2 l2, e) ∧ (mkV k2 i2 s2 n2 l2).isV = true ∧ sameB (mkV k1 i1 s1 n1 l1) (mkV k2 i2 s2 n2 l2) = true ∧ ((e = 0 ∧ formedV (mkV k1 i1 s1 n1 l1) = true) ∨ (e == 0) = false)) := by
    rcases tfB (xs.all formedV) with ha | ha
    · refine ⟨0, 0, [], true, [], 1, by unfold bagV; rw [if_pos ha]; rfl, rfl, fun _ => ⟨rfl, rfl⟩, fun h => by rw [ha] at h; cases h⟩
    · obtain ⟨k1, i1, s1, n1, l1, k2, i2, s2, n2, l2, e, h1, h2, h3, h4, h5, h6⟩ := bags hv (by omega) ha
      exact ⟨k1, i1, s1, n1, l1, e, h1, h3, (fun h => by rw [ha] at h; cases h), fun _ => ⟨k2, i2, s2, n2, l2, h2, h4, h5, h6⟩⟩
  obtain ⟨k1, i1, s1, n1, l1, e, hbv, hiv, hbad, hgood⟩ := pz
  rw [hbv] at p50
  have er1 : D.eraseL [mkV k1 i1 s1 n1 l1] = [mkV k1 i1 s1 n1 l1] := erase_of_isV (by simp [hiv])
  have ez : D.eraseL [zeroV] = [zeroV] := rfl
  simp only [mkV] at p50
  simp +contextual (maxSteps := 10000000) only [c12, φawake, p49, p50, eL, hfit, go_sem, W_draw]
  refine app_accT (T := T) (xs := []) xs ⟨ExtT.of _ _, .inr ⟨T.length, Nat.le_refl _, rfl, by simp⟩⟩ hfit rfl (by simp; omega) (by simp; omega) fun d2 T2 hA => ?_
  have hia : ∀ (k : IntKind) (i : Nat), ia 4 d2 (.int k (i : Int)) = iaE 4 xs[i]? := fun k i => by
    rcases hA.2 with ⟨h0, rfl⟩ | ⟨j, _, rfl, _⟩
    · have : xs = [] := by simpa using h0
      subst this; simp [ia, iaE]
    · rw [List.nil_append, ia_nat']
  simp +contextual (maxSteps := 10000000) only [p50, eL, go_sem, W_draw]
  refine W_for (fun i s' => s'.t 0 = sliceD n xs ∧ s'.t 3 = d2 ∧ s'.t 4 = .ptr H.length 0 ∧ s'.t 5 = .int .i64 e ∧ s'.t 6 = .int .i64 (i : Nat) ∧ s'.H = H ++ [.row [.int .i64 k1, .int .i64 i1, .str s1, sliceD n1 l1]] ∧ s'.T = T2 ∧ i ≤ xs.length) xs.length
    ⟨0, by simp [upd, argT], by simp [upd], by simp [upd], by simp [upd], by simp [upd], rfl, rfl, by omega⟩ (fun i s h => h.2.2.2.2.2.2.2) ?_ hX
  rintro i ⟨t, B, U⟩ ⟨r0, r3, r4, r5, r6, rfl, rfl, hi⟩
  simp only at r0 r3 r4 r5 r6
  by_cases hlt : i < xs.length
  · have d1 : decide (((i : Nat) : Int) < xs.length) = true := by simp only [decide_eq_true_eq]; omega
    obtain ⟨k3, i3, s3, n3, l3, e3, hs3, hx3, hV3, eL3⟩ := get_isV hv hlt
    have iv := hv _ (List.mem_of_getElem? e3)
    have p38 : φSame [mkV k3 i3 s3 n3 l3, mkV k3 i3 s3 n3 l3] = some (.bool true) := by
      simp only [φSame]
      rw [if_pos ⟨iv, iv⟩, same_refl (hfe _ (List.mem_of_getElem? e3))]
    have er3 : D.eraseL [mkV k3 i3 s3 n3 l3, mkV k3 i3 s3 n3 l3] = [mkV k3 i3 s3 n3 l3, mkV k3 i3 s3 n3 l3] := erase_of_isV (by simp [iv])
    simp only [mkV] at p38 er3
    simp +contextual (maxSteps := 10000000) only [r0, r3, r4, r5, r6, d1, e3, hia, mkV, p38, eL3, wrap_succ i (by omega), go_sem, W_draw]
    omega
  · have d1 : decide (((i : Nat) : Int) < xs.length) = false := by simp only [decide_eq_false_iff_not]; omega
    simp +contextual (maxSteps := 10000000) only [r0, r3, r4, r5, r6, d1, go_sem, W_draw]
    refine W_for (fun i s' => s'.t 0 = sliceD n xs ∧ s'.t 4 = .ptr H.length 0 ∧ s'.t 5 = .int .i64 e ∧ s'.t 7 = .int .i64 (i : Nat) ∧ s'.H = H ++ [.row [.int .i64 k1, .int .i64 i1, .str s1, sliceD n1 l1]] ∧ i ≤ xs.length ∧ ∀ (j : Nat) x, j < i → xs[j]? = some x → formedV x = true) xs.length
      ⟨0, by simp [upd, r0], by simp [upd, r4], by simp [upd, r5], by simp [upd], rfl, by omega, fun j x h => by omega⟩ (fun i s h => h.2.2.2.2.2.1) ?_ hX
    clear r0 r3 r4 r5 r6 hlt hi d1
    rintro j ⟨t, B, U2⟩ ⟨r0, r4, r5, r7, rfl, hj, hF⟩
    simp only at r0 r4 r5 r7
    have g0 : ∀ L, rdAt (H ++ [.row [.int .i64 k1, .int .i64 i1, .str s1, sliceD n1 l1]] ++ L) (.ptr H.length 0) = some [.int .i64 k1, .int .i64 i1, .str s1, sliceD n1 l1] := fun L => by simp [rdAt]
    by_cases hlt : j < xs.length
    · have d1 : decide (((j : Nat) : Int) < xs.length) = true := by simp only [decide_eq_true_eq]; omega
      obtain ⟨k3, i3, s3, n3, l3, e3, hs3, hx3, hV3, eL3⟩ := get_isV hv hlt
      have iv := hv _ (List.mem_of_getElem? e3)
      have p51 : φformed [mkV k3 i3 s3 n3 l3] = some (.bool (formedB (mkV k3 i3 s3 n3 l3))) := by
        simp only [φformed]
        rw [if_pos iv]
      rw [← formed_same] at p51
      rcases tf (formedV (mkV k3 i3 s3 n3 l3)) with g | g
      · rw [g] at p51
        have hF' : ∀ (q : Nat) x, q < j + 1 → xs[q]? = some x → formedV x = true := fun q x hq hx => by
          rcases Nat.lt_or_ge q j with h' | h'
          · exact hF q x h' hx
          · have : q = j := by omega
            subst this; rw [e3] at hx; injection hx with hx; rw [← hx]; exact g
        simp only [mkV] at p51
        simp +contextual (maxSteps := 10000000) only [r0, r4, r5, r7, d1, e3, mkV, p51, eL3, wrap_succ j (by omega), go_sem, W_draw]
        exact ⟨by omega, hF'⟩
      · rw [g] at p51
        have ha : xs.all formedV = false := Bool.eq_false_iff.2 fun h => by rw [List.all_eq_true.1 h _ (List.mem_of_getElem? e3)] at g; cases g
        obtain ⟨hz, rfl⟩ := hbad ha
        have p38 : φSame [mkV k1 i1 s1 n1 l1, zeroV] = some (.bool true) := by
          rw [hz]; rfl
        have d5 : ((1 : Int) == 1) = true := rfl
        have er12 : D.eraseL [mkV k1 i1 s1 n1 l1, zeroV] = [mkV k1 i1 s1 n1 l1, zeroV] := erase_of_isV fun d hd => by
          simp only [List.mem_cons, List.not_mem_nil, or_false] at hd
          rcases hd with rfl | rfl
          · exact hiv
          · rfl
        simp only [mkV, zeroV] at p51 p38 er1 er12
        simp +contextual (maxSteps := 10000000) only [r0, r4, r5, r7, d1, e3, mkV, p51, p38, eL3, er1, er12, d5, go_sem, W_draw]
        exact hQ _ _
    · have d1 : decide (((j : Nat) : Int) < xs.length) = false := by simp only [decide_eq_false_iff_not]; omega
      have ha : xs.all formedV = true := List.all_eq_true.2 fun x hx => by
        obtain ⟨q, hq, rfl⟩ := List.getElem_of_mem hx
        exact hF q _ (by omega) (by rw [List.getElem?_eq_getElem hq])
      obtain ⟨k2, i2, s2, n2, l2, hbw, iw, hsm, hfin⟩ := hgood ha
      rw [hbw] at p52
      have er2 : D.eraseL [mkV k1 i1 s1 n1 l1, mkV k2 i2 s2 n2 l2] = [mkV k1 i1 s1 n1 l1, mkV k2 i2 s2 n2 l2] := erase_of_isV (by simp [hiv, iw])
      have p38 : φSame [mkV k1 i1 s1 n1 l1, mkV k2 i2 s2 n2 l2] = some (.bool true) := by
        simp only [φSame]
        rw [if_pos ⟨hiv, iw⟩, hsm]
      have d6 : (e == e) = true := by simp
      simp only [mkV] at p52 p38 er1 er2
      rcases hfin with ⟨rfl, hf0⟩ | hf0
      · have p53 : φFormed [mkV k1 i1 s1 n1 l1] = some (.bool true) := by
          simp only [φFormed]
          rw [if_pos hiv, hf0]
        have d7 : ((0 : Int) != 0) = false := rfl
        simp only [mkV] at p53
        simp +contextual (maxSteps := 10000000) only [r0, r4, r5, r7, d1, p52, p38, p53, eL, er1, er2, d6, d7, go_sem, W_draw]
        exact hQ _ _
      · have d7 : (e != 0) = true := by simpa [bne] using hf0
        simp +contextual (maxSteps := 10000000) only [r0, r4, r5, r7, d1, p52, p38, eL, er1, er2, d6, d7, go_sem, W_draw]
        exact hQ _ _
end GP
namespace GP
open Go Go.Proofs Go.Proofs.Ytjpbliffonimgaa
open Go.ChangeShapes Go.WideShapes Go.ChangeAt Go.RowKit
set_option maxRecDepth 100000
instance instG : HasG Try.prog := ⟨fun _ _ => True, fun _ _ h => h⟩
theorem own6 : ownKnob Try.prog.godebug = none := by kernel_rfl
theorem laid6 : laidOutB Try.prog = true := by kernel_rfl
theorem rowed6 : mapsRowed Try.prog = true := by kernel_rfl
theorem full6 : ((List.range Try.prog.types.size).all fun t => match Try.prog.underlying t with | some (.slice e) => decide (0 < Try.prog.cellsOf e) | _ => true) = true := by kernel_rfl
theorem cells9 : Try.prog.cellsOf 9 = 1 := by kernel_rfl
theorem cells28 : Try.prog.cellsOf 28 = 4 := by kernel_rfl
theorem cells3 : Try.prog.cellsOf 3 = 1 := by kernel_rfl
theorem cells2 : Try.prog.cellsOf 2 = 1 := by kernel_rfl
theorem cells26 : Try.prog.cellsOf 26 = 1 := by kernel_rfl
theorem bytes28 : 1 ≤ Try.prog.bytesOf 28 := of_decide_eq_true (by kernel_rfl)
def isL (ds : List D) : Prop := ∃ l, ds = [l] ∧ (l = .nils ∨ ∃ xs, l = .sl none xs ∧ xs.length ≤ 2 ^ 47 ∧ ∀ x ∈ xs, x.isV = true)
theorem rdV (W : World) : ∀ fuel, Rds Try.prog W 28 (fun ds => (D.agg ds).isV = true) fuel ∧ Rds Try.prog W 26 isL fuel
  | 0 => ⟨fun _ _ _ _ _ h _ => by simp [DataW.trod] at h, fun _ _ _ _ _ h _ => by simp [DataW.trod] at h⟩
  | fuel + 1 => by
    obtain ⟨h28, h26⟩ := rdV W fuel
    refine ⟨?_, ?_⟩
    · refine (rds_struct (P := Try.prog) (w := W) (φs := [fun ds => ∃ n, ds = [.int .i64 n] ∧ IntKind.i64.min ≤ n ∧ n ≤ IntKind.i64.max, fun ds => ∃ n, ds = [.int .i64 n] ∧ IntKind.i64.min ≤ n ∧ n ≤ IntKind.i64.max, fun ds => ∃ l, ds = [.str l] ∧ l.length ≤ 2 ^ 47, isL]) Try.underlying28 rfl ?_ ?_ ?_).imp ?_
      · simp only [FldsOf, cells3, cells2, cells9, and_self, and_true, Nat.zero_add, Nat.reduceAdd]
      · simp only [List.map_cons, List.map_nil, cells3, cells2, cells9, cells26, cells28]; rfl
      · intro i f φ e1 e2
        match i with
        | 0 => simp at e1 e2; subst e1; subst e2; exact rds_int Try.underlying3 fuel
        | 1 => simp at e1 e2; subst e1; subst e2; exact rds_int Try.underlying2 fuel
        | 2 => simp at e1 e2; subst e1; subst e2; exact rds_string Try.underlying9 fuel
        | 3 => simp at e1 e2; subst e1; subst e2; exact h26
        | i + 4 => simp at e1
      · rintro ds ⟨x1, y1, rfl, ⟨k, rfl, _⟩, x2, y2, rfl, ⟨i, rfl, _⟩, x3, y3, rfl, ⟨s, rfl, hs⟩, x4, y4, rfl, ⟨l, rfl, hl⟩, rfl⟩
        rcases hl with rfl | ⟨xs, rfl, h1, h2⟩
        · simp [D.isV, hs]
        · simp [D.isV, hs, h1, isVs_iff.2 h2]
    · refine (rds_slice (P := Try.prog) (w := W) (mk := D.agg) (fun _ => rfl) (sz := 4) (by decide) Try.underlying26 cells28 bytes28 h28).imp ?_
      rintro ds (rfl | ⟨xs, rfl, h1, h2⟩)
      · exact ⟨_, rfl, .inl rfl⟩
      · refine ⟨_, rfl, .inr ⟨_, rfl, by simpa using h1, fun x hx => ?_⟩⟩
        obtain ⟨y, hy, rfl⟩ := List.mem_map.1 hx
        exact (h2 y hy).1
def isVS (d : D) : Prop := ∃ n xs, d = sliceD n xs ∧ xs.length ≤ 2 ^ 47 ∧ ∀ x ∈ xs, x.isV = true
theorem argVs (W : World) : Arg Try.prog W 26 isVS := by
  have h : ∀ fuel, Rds Try.prog W 26 (fun ds => ∃ d, ds = [d] ∧ isVS d) fuel := fun fuel => by
    refine ((rdV W fuel).2).imp fun ds hd => ?_
    obtain ⟨l, rfl, rfl | ⟨xs, rfl, h1, h2⟩⟩ := hd
    · exact ⟨_, rfl, true, [], rfl, by simp, by simp⟩
    · exact ⟨_, rfl, false, xs, rfl, h1, h2⟩
  intro H enc v d ps base h1 h2 h3
  obtain ⟨x, k1, l, e, k2⟩ := arg_one Try.underlying26 rfl h H enc v d ps base h1 h2 h3
  injection e with e
  exact ⟨_, k1, e ▸ k2⟩
end GP
