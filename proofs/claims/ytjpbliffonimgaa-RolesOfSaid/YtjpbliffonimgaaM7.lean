import Derived.Ground.NamesProg
import Derived.Lib.RowBridge
import Derived.Shelf.Lay
import Derived.Shelf.Slices.In.SortNone
import Derived.Test.YtjpbliffonimgaaProg
import Derived.Test.YtjpbliffonimgaaM5
import Derived.Test.YtjpbliffonimgaaM6
set_option linter.unusedSimpArgs false
set_option linter.unnecessarySimpa false
set_option linter.unusedSectionVars false
namespace GP
open Go Go.Proofs
set_option maxRecDepth 100000
variable [HasG Try.prog]
def edsD : List D → Option (List Ed)
  | [] => some []
  | .agg [.str a, .str b] :: r => (edsD r).map ((a, b) :: ·)
  | _ => none
theorem edsD_of : ∀ {xs : List D} {l : List Ed}, edsD xs = some l → xs = l.map edD := by
  intro xs
  induction xs with
  | nil => intro l h; simp [edsD] at h; subst h; rfl
  | cons x r ih =>
    intro l h
    unfold edsD at h
    split at h
    · cases ‹_ :: _ = []›
    · rename_i a b r' e
      injection e with e1 e2
      subst e1; subst e2
      rw [Option.map_eq_some_iff] at h
      obtain ⟨l', h1, rfl⟩ := h
      rw [ih h1]; rfl
    · cases h
theorem edsD_map : ∀ l : List Ed, edsD (l.map edD) = some l
  | [] => rfl
  | e :: l => by
    obtain ⟨a, b⟩ := e
    simp only [List.map_cons, edD, edsD]
    rw [edsD_map l]; rfl
theorem elems_edS (n : Bool) (l : List Ed) : elems (edS n l) = l.map edD := elems_sliceD _ _
theorem isSl_edS (n : Bool) (l : List Ed) : isSl (edS n l) = true := by
  unfold edS; rcases sliceD_cases n (l.map edD) with ⟨e, _⟩ | e <;> rw [e] <;> rfl
theorem edS_of {d : D} {l : List Ed} (h1 : isSl d = true) (h2 : edsD (elems d) = some l) : ∃ n, d = edS n l := by
  obtain ⟨n, hn⟩ := isSl_m h1
  rw [edsD_of h2] at hn
  exact ⟨n, hn⟩
def edgesD (d : D) : Option (List Ed) := if isSl d = true then edsD (elems d) else none
theorem edgesD_S (n : Bool) (l : List Ed) : edgesD (edS n l) = some l := by unfold edgesD; rw [if_pos (isSl_edS n l), elems_edS, edsD_map]
theorem edgesD_of {d : D} {l : List Ed} (h : edgesD d = some l) : ∃ n, d = edS n l := by
  unfold edgesD at h
  split at h
  · rename_i h1; exact edS_of h1 h
  · cases h
def reachL (E : List Ed) (a : Sb) : List Sb := bfs E (E.length + 2) 0 [a]
def φ79 : List D → Option D
  | [.agg [d, m], .str a] => match edgesD d with
    | some E => if E.length ≤ 900 then some (txS false (reachL E a)) else none
    | none => none
  | _ => none
theorem step1_grow (x : Sb) (F : List Ed) (out : List Sb) : ∃ L, step1 x out F = out ++ L := by
  obtain ⟨L, h, _⟩ := step1_spec x F out
  exact ⟨L, h⟩
theorem str_fit (l : List Sb) : (l.map D.str).all (fit 1) = true := List.all_eq_true.2 fun x hx => by
  obtain ⟨s, _, rfl⟩ := List.mem_map.1 hx; rfl
set_option maxHeartbeats 1000000 in
theorem ok79 : OkAt Try.prog 79 φ79 := by
  refine ok_of (l := [(56, φ56)]) (.cons ok56 .nil) fn79 fun args r h => ?_
  unfold φ79 at h
  split at h
  · rename_i d m a
    split at h
    · rename_i E hE
      split at h
      · rename_i hl
        injection h with h; subst h
        obtain ⟨n, rfl⟩ := edgesD_of hE
        refine ⟨by simp, ?_, fun H T => ?_⟩
        · show D.clL 0 0 ((reachL E a).map D.str) = true
          exact clL_of fun d hd => by obtain ⟨s, _, rfl⟩ := List.mem_map.1 hd; rfl
        simp +contextual (maxSteps := 10000000) only [c79, go_sem, W_draw]
        refine W_for (fun i s' => ∃ out, s'.t 2 = .ptr H.length 0 ∧ s'.t 6 = .int .i64 (i : Int) ∧ s'.H = H ++ [.row [edS n E, m]] ∧ accT 1 T (out.map D.str) (s'.t 5) s'.T ∧ out ≠ [] ∧ i ≤ out.length ∧ out.Nodup ∧ (∀ x ∈ out, x = a ∨ ∃ e ∈ E, e.2 = x) ∧ bfs E (E.length + 2 - i) i out = reachL E a ∧ i ≤ E.length + 1) (E.length + 1)
          ⟨0, [a], by simp [upd], by simp [upd], rfl, by simpa [upd] using accT.mk 1 T (ExtT.refl T) [D.str a] [], by simp, by simp, by simp, by simp, rfl, by omega⟩ (fun i s h => by obtain ⟨_, h⟩ := h; exact h.2.2.2.2.2.2.2.2.2) ?_ (XL_mono _)
        rintro i ⟨t, B, T'⟩ ⟨out, r2, r6, rfl, hA, hne, hi, hnd, hmm, hb, hiE⟩
        simp only at r2 r6 hA
        have hlen := nodup_len (m := a :: E.map (·.2)) hnd fun x hx => by
          rcases hmm x hx with rfl | ⟨e, he, rfl⟩
          · simp
          · exact List.mem_cons_of_mem _ (List.mem_map_of_mem he)
        simp only [List.length_cons, List.length_map] at hlen
        obtain ⟨d5, hd5⟩ : ∃ d, t 5 = d := ⟨_, rfl⟩
        rw [hd5] at hA
        have l5 : lenD d5 = some out.length := by
          rcases hA.2 with ⟨h0, _⟩ | ⟨j, _, rfl, _⟩
          · exact absurd (by simpa using h0) hne
          · simp [lenD]
        by_cases ha : i < out.length
        · have d1 : decide ((i : Int) < out.length) = true := by simpa using ha
          have d2 : decide ((i : Int) < 1000) = true := by simp only [decide_eq_true_eq]; omega
          have hx : out[i]? = some out[i] := by simp [ha]
          obtain ⟨x, hxe⟩ : ∃ x, out[i] = x := ⟨_, rfl⟩
          rw [hxe] at hx
          obtain ⟨OUT, hO⟩ : ∃ O, step1 x out E = O := ⟨_, rfl⟩
          have hnext : bfs E (E.length + 2 - (i + 1)) (i + 1) OUT = reachL E a := by
            rw [← hb, show E.length + 2 - i = (E.length + 2 - (i + 1)) + 1 by omega, bfs, if_pos ⟨ha, by omega⟩, List.getD_eq_getElem?_getD, hx, Option.getD_some, hO]
          obtain ⟨L0, g1, g2, g3, g4⟩ := step1_spec x E out
          rw [hO] at g1
          have hOn : OUT.Nodup := by rw [g1]; exact g4 hnd
          have hOm : ∀ y ∈ OUT, y = a ∨ ∃ e ∈ E, e.2 = y := fun y hy => by
            rw [g1, List.mem_append] at hy
            rcases hy with hy | hy
            · exact hmm y hy
            · exact .inr ⟨_, g2 y hy, rfl⟩
          have hOlen := nodup_len (m := a :: E.map (·.2)) hOn fun x hx => by
            rcases hOm x hx with rfl | ⟨e, he, rfl⟩
            · simp
            · exact List.mem_cons_of_mem _ (List.mem_map_of_mem he)
          simp only [List.length_cons, List.length_map] at hOlen
          simp +contextual (maxSteps := 10000000) only [r2, r6, hd5, l5, d1, d2, go_sem, W_draw]
          refine W_for (fun k s' => ∃ ok, s'.t 2 = .ptr H.length 0 ∧ s'.t 6 = .int .i64 (i : Int) ∧ s'.t 7 = .int .i64 (k : Int) ∧ s'.H = H ++ [.row [edS n E, m]] ∧ accT 1 T (ok.map D.str) (s'.t 5) s'.T ∧ ok[i]? = some x ∧ step1 x ok (E.drop k) = OUT ∧ k ≤ E.length) E.length
            ⟨0, out, by simp [upd, r2], by simp [upd, r6], by simp [upd], rfl, by simpa [upd, hd5] using hA, hx, hO, by omega⟩ (fun k s h => by obtain ⟨_, h⟩ := h; exact h.2.2.2.2.2.2.2) ?_ (XL_mono _)
          clear hA hd5 r2 r6 l5
          rintro k ⟨t, B, T2⟩ ⟨ok, r2, r6, r7, rfl, hA, hx, hS, hk⟩
          simp only at r2 r6 r7 hA
          obtain ⟨d5, hd5⟩ : ∃ d, t 5 = d := ⟨_, rfl⟩
          rw [hd5] at hA
          obtain ⟨L1, hL1⟩ := step1_grow x (E.drop k) ok
          rw [hS] at hL1
          have hok : ok.length ≤ E.length + 1 := by rw [hL1, List.length_append] at hOlen; omega
          have hokne : ok ≠ [] := by rintro rfl; simp at hx
          have hik : i < ok.length := by
            rcases Nat.lt_or_ge i ok.length with h' | h'
            · exact h'
            · rw [List.getElem?_eq_none h'] at hx; cases hx
          obtain ⟨j5, hj5, hd5', hT5⟩ : ∃ j, T.length ≤ j ∧ d5 = .sl (some j) (ok.map D.str) ∧ T2[j]? = some (some ((ok.map D.str).length, 1)) := by
            rcases hA.2 with ⟨h0, _⟩ | h
            · exact absurd (by simpa using h0) hokne
            · exact h
          have i5 : ia 1 d5 (.int .i64 (i : Int)) = some (.el [.str x]) := by
            rw [hd5', iab_nat']; simp [hx, iaE, D.cells]
          have e5 : d5.erase = txS false ok := by rw [hd5']; simp [D.erase, txS, sliceD, txL_erase]
          by_cases hkE : k < E.length
          · have d3 : decide ((k : Int) < E.length) = true := by simpa using hkE
            have hek : E[k]? = some E[k] := by simp [hkE]
            obtain ⟨e, hee⟩ : ∃ e, E[k] = e := ⟨_, rfl⟩
            rw [hee] at hek
            have hdr : E.drop k = e :: E.drop (k + 1) := by rw [← hee]; exact List.drop_eq_getElem_cons hkE
            rw [hdr] at hS
            have p := p56 false ok e.2 (by omega)
            rcases tf (e.1 == x) with g | g
            · have g' : e.1 = x := by simpa using g
              rcases tf (ok.contains e.2) with g0 | g0
              · have hS' : step1 x ok (E.drop (k + 1)) = OUT := by
                  rw [← hS, step1, if_neg (fun h => h.2 (by simpa using g0))]
                simp +contextual (maxSteps := 10000000) only [r2, r6, r7, hd5, i5, e5, d3, hek, g, g0, p, Option.map_some, wrap_natY k (by omega), go_sem, W_draw]
                exact ⟨ok, hA, hx, hS', by omega⟩
              · have hn : ¬ e.2 ∈ ok := by simpa using g0
                have hS' : step1 x (ok ++ [e.2]) (E.drop (k + 1)) = OUT := by
                  rw [← hS, step1, if_pos ⟨g', hn⟩]
                have hA2 := hA.app [some (1, 1)]
                simp +contextual (maxSteps := 10000000) only [r2, r6, r7, hd5, i5, e5, d3, hek, g, g0, p, Option.map_some, wrap_natY k (by omega), go_sem, W_draw]
                refine app_accT (sz := 1) (bytes := 16) (T := T) (xs := ok.map D.str) [D.str e.2] hA2 rfl (str_fit ok) (by simp; omega) (by simp; omega) fun d2 T3 hA3 => ?_
                simp +contextual (maxSteps := 10000000) only [r2, r6, r7, wrap_natY k (by omega), go_sem, W_draw]
                refine ⟨ok ++ [e.2], by simpa using hA3, ?_, hS', by omega⟩
                rw [List.getElem?_append_left hik]
                exact hx
            · have hS' : step1 x ok (E.drop (k + 1)) = OUT := by
                rw [← hS, step1, if_neg (fun h => by rw [h.1] at g; simp at g)]
              simp +contextual (maxSteps := 10000000) only [r2, r6, r7, hd5, i5, e5, d3, hek, g, p, Option.map_some, wrap_natY k (by omega), go_sem, W_draw]
              exact ⟨ok, hA, hx, hS', by omega⟩
          · have hkE : k = E.length := by omega
            subst hkE
            have d3 : decide ((E.length : Int) < E.length) = false := by simp
            rw [List.drop_length, step1] at hS
            subst hS
            simp +contextual (maxSteps := 10000000) only [r2, r6, r7, hd5, d3, wrap_natY i (by omega), go_sem, W_draw]
            exact ⟨ok, hA, hokne, by omega, hOn, hOm, hnext, by omega⟩
        · have d1 : decide ((i : Int) < out.length) = false := by simpa using ha
          have hfin : out = reachL E a := by
            rw [← hb]
            cases hf : E.length + 2 - i with
            | zero => rfl
            | succ f => rw [bfs, if_neg (fun h => ha h.1)]
          simp +contextual (maxSteps := 10000000) only [r2, r6, hd5, l5, d1, leaves_Ea (Ext.refl H) hA.1, go_sem, W_draw]
          rcases hA.2 with ⟨h0, _⟩ | ⟨j, _, rfl, _⟩
          · exact absurd (by simpa using h0) hne
          · rw [← hfin]; simp [D.erase, txS, sliceD, txL_erase]
      · cases h
    · cases h
  · cases h
theorem p79 (n : Bool) (E : List Ed) (m : D) (a : Sb) (h : E.length ≤ 900) : φ79 [.agg [edS n E, m], .str a] = some (txS false (reachL E a)) := by
  simp only [φ79, edgesD_S]
  rw [if_pos h]
theorem reach_len (E : List Ed) (a : Sb) (h : E.length ≤ 900) : (reachL E a).length ≤ E.length + 1 := by
  have key : ∀ (f i : Nat) (out : List Sb), out.Nodup → (∀ x ∈ out, x = a ∨ ∃ e ∈ E, e.2 = x) → (bfs E f i out).length ≤ E.length + 1 := by
    intro f
    induction f with
    | zero =>
      intro i out h1 h2
      have := nodup_len (m := a :: E.map (·.2)) h1 fun x hx => by
        rcases h2 x hx with rfl | ⟨e, he, rfl⟩
        · simp
        · exact List.mem_cons_of_mem _ (List.mem_map_of_mem he)
      simpa [bfs] using this
    | succ f ih =>
      intro i out h1 h2
      unfold bfs
      split
      · obtain ⟨L, g1, g2, g3, g4⟩ := step1_spec (out.getD i []) E out
        rw [g1]
        exact ih _ _ (g4 h1) fun x hx => by
          rcases List.mem_append.1 hx with hx | hx
          · exact h2 x hx
          · exact .inr ⟨_, g2 x hx, rfl⟩
      · have := nodup_len (m := a :: E.map (·.2)) h1 fun x hx => by
          rcases h2 x hx with rfl | ⟨e, he, rfl⟩
          · simp
          · exact List.mem_cons_of_mem _ (List.mem_map_of_mem he)
        simpa using this
  exact key _ _ _ (by simp) (by simp)
def reachB (E : List Ed) (a b : Sb) : Bool := nmB a && nmB b && (reachL E a).contains b
def φ45 : List D → Option D
  | [.agg [d, m], .str a, .str b] => match edgesD d with
    | some E => if E.length ≤ 900 then some (.bool (reachB E a b)) else none
    | none => none
  | _ => none
theorem ok45 : OkAt Try.prog 45 φ45 := by
  refine ok_of (l := [(77, φ77), (79, φ79), (56, φ56)]) (.cons ok77 (.cons ok79 (.cons ok56 .nil))) fn45 fun args r h => ?_
  unfold φ45 at h
  split at h
  · rename_i d m a b
    split at h
    · rename_i E hE
      split at h
      · rename_i hl
        injection h with h; subst h
        obtain ⟨n, rfl⟩ := edgesD_of hE
        refine ⟨by simp, by simp [D.cl], fun H T => ?_⟩
        have p1 : φ77 [.str a] = some (.bool (nmB a)) := rfl
        have p2 : φ77 [.str b] = some (.bool (nmB b)) := rfl
        have p3 := fun m' => p79 n E m' a hl
        have p4 := p56 false (reachL E a) b (by have := reach_len E a hl; omega)
        unfold reachB
        rcases tf (nmB a) with g | g
        · rcases tf (nmB b) with g2 | g2
          · simp +contextual (maxSteps := 10000000) only [c45, p1, p2, p3, p4, g, g2, go_sem, W_draw]
          · simp +contextual (maxSteps := 10000000) only [c45, p1, p2, g, g2, go_sem, W_draw]
        · simp +contextual (maxSteps := 10000000) only [c45, p1, g, go_sem, W_draw]
      · cases h
    · cases h
  · cases h
theorem p45 (n : Bool) (E : List Ed) (m : D) (a b : Sb) (h : E.length ≤ 900) : φ45 [.agg [edS n E, m], .str a, .str b] = some (.bool (reachB E a b)) := by
  simp only [φ45, edgesD_S]
  rw [if_pos h]
def hasB (E M : List Ed) (s b : Sb) : Bool := M.any fun e => e.1 == s && reachB E e.2 b
def φ55 : List D → Option D
  | [.agg [d, m], .str s, .str b] => match edgesD d, edgesD m with
    | some E, some M => if E.length ≤ 900 ∧ M.length ≤ 900 then some (.bool (hasB E M s b)) else none
    | _, _ => none
  | _ => none
theorem ok55 : OkAt Try.prog 55 φ55 := by
  refine ok_of (l := [(45, φ45)]) (.cons ok45 .nil) fn55 fun args r h => ?_
  unfold φ55 at h
  split at h
  · rename_i d m s b
    split at h
    · rename_i E M hE hM
      split at h
      · rename_i hl
        injection h with h; subst h
        obtain ⟨n, rfl⟩ := edgesD_of hE
        obtain ⟨n2, rfl⟩ := edgesD_of hM
        refine ⟨by simp, by simp [D.cl], fun H T => ?_⟩
        simp +contextual (maxSteps := 10000000) only [c55, go_sem, W_draw]
        refine W_for (fun i s' => s'.t 3 = .ptr H.length 0 ∧ s'.t 1 = .str s ∧ s'.t 2 = .str b ∧ s'.t 7 = .int .i64 (i : Int) ∧ s'.H = H ++ [.row [edS n E, edS n2 M]] ∧ s'.T = T ∧ i ≤ M.length ∧ ∀ (j : Nat) x, j < i → M[j]? = some x → (x.1 == s && reachB E x.2 b) = false) M.length ⟨0, by simp [upd, argT]⟩ (fun i s h => h.2.2.2.2.2.2.1) ?_ (XL_mono _)
        rintro i ⟨t, B, T'⟩ ⟨r3, r1, r2, r7, rfl, rfl, hi, hF⟩
        simp only at r3 r1 r2 r7
        by_cases ha : i < M.length
        · have d1 : decide ((i : Int) < M.length) = true := by simpa using ha
          have e : M[i]? = some M[i] := by simp [ha]
          obtain ⟨x, hx⟩ : ∃ x, M[i] = x := ⟨_, rfl⟩
          rw [hx] at e
          have hmem : x ∈ M := by rw [← hx]; exact List.getElem_mem ha
          have p := p45 n E (edS n2 M) x.2 b hl.1
          have hF' : (x.1 == s && reachB E x.2 b) = false → ∀ (j : Nat) x, j < i + 1 → M[j]? = some x → (x.1 == s && reachB E x.2 b) = false := fun h j y hj hy => by
            rcases Nat.lt_or_ge j i with h' | h'
            · exact hF j y h' hy
            · have : j = i := by omega
              subst this; rw [e] at hy; injection hy with hy; subst hy; exact h
          rcases tf (x.1 == s) with g | g
          · rcases tf (reachB E x.2 b) with g2 | g2
            · have hI : hasB E M s b = true := List.any_eq_true.2 ⟨x, hmem, by rw [g, g2]; rfl⟩
              simp +contextual (maxSteps := 10000000) only [r3, r1, r2, r7, d1, e, g, g2, p, hI, Option.map_some, go_sem, W_draw]
            · have hF' := hF' (by rw [g2]; simp)
              simp +contextual (maxSteps := 10000000) only [r3, r1, r2, r7, d1, e, g, g2, p, Option.map_some, wrap_natY i (by omega), go_sem, W_draw]
              exact ⟨by omega, hF'⟩
          · have hF' := hF' (by rw [g]; simp)
            simp +contextual (maxSteps := 10000000) only [r3, r1, r2, r7, d1, e, g, Option.map_some, wrap_natY i (by omega), go_sem, W_draw]
            exact ⟨by omega, hF'⟩
        · have d1 : decide ((i : Int) < M.length) = false := by simpa using ha
          have hI : hasB E M s b = false := by
            unfold hasB
            rw [List.any_eq_false]
            intro x hm
            obtain ⟨j, hj, rfl⟩ := List.getElem_of_mem hm
            rw [hF j _ (by omega) (List.getElem?_eq_getElem hj)]; simp
          simp +contextual (maxSteps := 10000000) only [r3, r1, r2, r7, d1, hI, go_sem, W_draw]
      · cases h
    · cases h
  · cases h
end GP
namespace GP
open Go Go.Proofs
set_option maxRecDepth 100000
variable [HasG Try.prog]
theorem once_snoc (l : List Sb) (x : Sb) : once [] (l ++ [x]) = if (once [] l).contains x then once [] l else once [] l ++ [x] := by
  unfold once
  rw [List.foldl_append]
  simp only [List.foldl_cons, List.foldl_nil, List.contains_iff_mem]
theorem once_len (l : List Sb) : (once [] l).length ≤ l.length := by
  obtain ⟨h1, h2⟩ := once_spec l [] (by simp)
  exact nodup_len h1 fun x hx => by rcases (h2 x).1 hx with h | h; · cases h
                                    · exact h
def ends (E : List Ed) : List Sb := (E.map fun e => [e.1, e.2]).flatten
def heldL (M : List Ed) : List Sb := M.map (·.2)
def n3 (l : List Sb) (E M : List Ed) : List Sb := l ++ ends E ++ heldL M
def cntR (E M : List Ed) (more : List Sb) : Nat := (once [] (n3 more E M)).length
theorem ends_take {E : List Ed} {i : Nat} {e : Ed} (h : E[i]? = some e) : ends (E.take (i + 1)) = ends (E.take i) ++ [e.1] ++ [e.2] := by
  unfold ends; rw [List.take_add_one, h]; simp
theorem held_take {M : List Ed} {i : Nat} {e : Ed} (h : M[i]? = some e) : heldL (M.take (i + 1)) = heldL (M.take i) ++ [e.2] := by
  unfold heldL; rw [List.take_add_one, h]; simp
theorem ends_len (E : List Ed) : (ends E).length = 2 * E.length := by
  unfold ends; induction E with
  | nil => rfl
  | cons e E ih => simp only [List.map_cons, List.flatten_cons, List.length_append, ih, List.length_cons, List.length_nil]; omega
theorem n3_0 (l : List Sb) : n3 l [] [] = l := by simp [n3, ends, heldL]
theorem n3_1 {l : List Sb} {i : Nat} {x : Sb} (h : l[i]? = some x) : n3 (l.take (i + 1)) [] [] = n3 (l.take i) [] [] ++ [x] := by rw [n3_0, n3_0, List.take_add_one, h]; rfl
theorem n3_2 {l : List Sb} {E : List Ed} {i : Nat} {e : Ed} (h : E[i]? = some e) : n3 l (E.take (i + 1)) [] = n3 l (E.take i) [] ++ [e.1] ++ [e.2] := by simp [n3, ends_take h, heldL]
theorem n3_3 {l : List Sb} {E M : List Ed} {i : Nat} {e : Ed} (h : M[i]? = some e) : n3 l E (M.take (i + 1)) = n3 l E (M.take i) ++ [e.2] := by simp [n3, held_take h]
theorem n3_len (l : List Sb) (E M : List Ed) : (n3 l E M).length = l.length + 2 * E.length + M.length := by simp [n3, ends_len, heldL]; omega
def φ78 : List D → Option D
  | [.agg [d, m], .sl none xs] => match edgesD d, edgesD m, strsD xs with
    | some E, some M, some l => if E.length ≤ 900 ∧ M.length ≤ 900 ∧ l.length ≤ 900 then some (.int .i64 (cntR E M l : Int)) else none
    | _, _, _ => none
  | _ => none
def accN (T : Tk) (l : List Sb) (d : D) (T' : Tk) : Prop := accT 1 T ((once [] l).map D.str) d T'
theorem accN.er {T : Tk} {l : List Sb} {d : D} {T' : Tk} (h : accN T l d T') : ∃ n, d.erase = txS n (once [] l) := by
  rcases h.2 with ⟨h0, rfl⟩ | ⟨j, _, rfl, _⟩
  · have : once [] l = [] := by simpa using h0
    exact ⟨true, by rw [this]; rfl⟩
  · exact ⟨false, by simp [D.erase, txS, sliceD, txL_erase]⟩
theorem accN.len {T : Tk} {l : List Sb} {d : D} {T' : Tk} (h : accN T l d T') : lenD d = some (once [] l).length := by
  rcases h.2 with ⟨h0, rfl⟩ | ⟨j, _, rfl, _⟩
  · have : once [] l = [] := by simpa using h0
    rw [this]; rfl
  · simp [lenD]
theorem accN.skip {T : Tk} {l : List Sb} {x : Sb} {d : D} {T' : Tk} (h : accN T l d T') (hx : (once [] l).contains x = true) : accN T (l ++ [x]) d T' := by
  unfold accN; rw [once_snoc, if_pos hx]; exact h
theorem accN.add {T : Tk} {l : List Sb} {x : Sb} {d : D} {T' : Tk} {K : D → S → Prop} {t : Nat → D} {H : Hp} (h : accN T l d T') (hl : l.length ≤ 2 ^ 40) (hx : (once [] l).contains x = false) (k : ∀ d2 T2, accN T (l ++ [x]) d2 T2 → K d2 ⟨t, H, T2⟩) : appK 1 16 K ⟨t, H, T' ++ [some (1, 1)]⟩ d (some [.str x]) := by
  have hn := once_len l
  refine app_accT (sz := 1) (bytes := 16) (T := T) (xs := (once [] l).map D.str) [D.str x] (h.app _) rfl (str_fit _) (by simp; omega) (by simp; omega) fun d2 T2 hA => k d2 T2 ?_
  unfold accN; rw [once_snoc, if_neg (by rw [hx]; simp)]; simpa using hA
set_option maxHeartbeats 2000000 in
theorem ok78 : OkAt Try.prog 78 φ78 := by
  refine ok_of (l := [(56, φ56)]) (.cons ok56 .nil) fn78 fun args r h => ?_
  unfold φ78 at h
  split at h
  · rename_i d m xs
    split at h
    · rename_i E M l hE hM hL
      split at h
      · rename_i hl
        obtain ⟨l1, l2, l3⟩ := hl
        injection h with h; subst h
        obtain ⟨n, rfl⟩ := edgesD_of hE
        obtain ⟨n2, rfl⟩ := edgesD_of hM
        have := strsD_of hL; subst this
        change _ ∧ _ ∧ ∀ H T, W _ _ _ ⟨argT [_, txS false l], H, T⟩
        refine ⟨by simp, by simp [D.cl], fun H T => ?_⟩
        simp +contextual (maxSteps := 10000000) only [c78, go_sem, W_draw]
        refine W_for (fun i s' => s'.t 1 = txS false l ∧ s'.t 2 = .ptr H.length 0 ∧ s'.t 6 = .int .i64 (i : Int) ∧ s'.H = H ++ [.row [edS n E, edS n2 M]] ∧ i ≤ l.length ∧ accN T (n3 (l.take i) [] []) (s'.t 5) s'.T) l.length ⟨0, by simp [upd, argT], by simp [upd], by simp [upd], rfl, by omega, by simpa [upd, once, accN, n3_0] using accT.nil 1 T (ExtT.refl T)⟩ (fun i s h => h.2.2.2.2.1) ?_ (XL_mono _)
        rintro i ⟨t, B, T1⟩ ⟨r1, r2, r6, rfl, hi, hA⟩
        simp only at r1 r2 r6 hA
        obtain ⟨d5, hd5⟩ : ∃ d, t 5 = d := ⟨_, rfl⟩
        rw [hd5] at hA
        by_cases ha : i < l.length
        · have d1 : decide ((i : Int) < l.length) = true := by simpa using ha
          have e : l[i]? = some l[i] := by simp [ha]
          obtain ⟨x, hx⟩ : ∃ x, l[i] = x := ⟨_, rfl⟩
          rw [hx] at e
          have et := n3_1 e
          have ol2 := n3_len (l.take i) [] []
          obtain ⟨L, hL⟩ : ∃ L, n3 (l.take i) [] [] = L := ⟨_, rfl⟩
          rw [hL] at hA et ol2
          simp only [List.length_take, List.length_nil] at ol2
          have ol := once_len L
          obtain ⟨ne, e5⟩ := hA.er
          have p := p56 ne (once [] L) x (by omega)
          rcases tf ((once [] L).contains x) with g | g
          · have hA2 := hA.skip g
            rw [← et] at hA2
            simp +contextual (maxSteps := 10000000) only [r1, r2, r6, hd5, e5, d1, e, g, p, Option.map_some, wrap_natY i (by omega), go_sem, W_draw]
            exact ⟨by omega, hA2⟩
          · simp +contextual (maxSteps := 10000000) only [r1, r2, r6, hd5, e5, d1, e, g, p, Option.map_some, wrap_natY i (by omega), go_sem, W_draw]
            refine hA.add (by omega) g fun d2 T2 hA2 => ?_
            rw [← et] at hA2
            simp +contextual (maxSteps := 10000000) only [r1, r2, r6, wrap_natY i (by omega), go_sem, W_draw]
            exact ⟨by omega, hA2⟩
        · have d1 : decide ((i : Int) < l.length) = false := by simpa using ha
          have hil : l.take i = l := List.take_of_length_le (by omega)
          rw [hil] at hA
          simp +contextual (maxSteps := 10000000) only [r1, r2, r6, hd5, d1, go_sem, W_draw]
          clear hi ha d1 hil r6
          refine W_for (fun i s' => s'.t 2 = .ptr H.length 0 ∧ s'.t 7 = .int .i64 (i : Int) ∧ s'.H = H ++ [.row [edS n E, edS n2 M]] ∧ i ≤ E.length ∧ accN T (n3 l (E.take i) []) (s'.t 5) s'.T) E.length ⟨0, by simp [upd, r2], by simp [upd], rfl, by omega, by simpa [upd, hd5] using hA⟩ (fun i s h => h.2.2.2.1) ?_ (XL_mono _)
          clear hA hd5 r1 r2
          rintro i ⟨t, B, T1⟩ ⟨r2, r7, rfl, hi, hA⟩
          simp only at r2 r7 hA
          obtain ⟨d5, hd5⟩ : ∃ d, t 5 = d := ⟨_, rfl⟩
          rw [hd5] at hA
          by_cases ha : i < E.length
          · have d1 : decide ((i : Int) < E.length) = true := by simpa using ha
            have e : E[i]? = some E[i] := by simp [ha]
            obtain ⟨x, hx⟩ : ∃ x, E[i] = x := ⟨_, rfl⟩
            rw [hx] at e
            have et := n3_2 (l := l) e
            have ol2 := n3_len l (E.take i) []
            obtain ⟨L, hL⟩ : ∃ L, n3 l (E.take i) [] = L := ⟨_, rfl⟩
            rw [hL] at hA et ol2
            simp only [List.length_take, List.length_nil] at ol2
            have oL2 : (L ++ [x.1]).length = L.length + 1 := by simp
            have hsk : ∀ d T', accN T L d T' → (once [] L).contains x.1 = true → accN T (L ++ [x.1]) d T' := fun _ _ h g => h.skip g
            have had : ∀ {d : D} {T' : Tk} {K : D → S → Prop} {t : Nat → D} {H : Hp}, accN T L d T' → (once [] L).contains x.1 = false → (∀ d2 T2, accN T (L ++ [x.1]) d2 T2 → K d2 ⟨t, H, T2⟩) → appK 1 16 K ⟨t, H, T' ++ [some (1, 1)]⟩ d (some [.str x.1]) := fun h g k => h.add (by omega) g k
            obtain ⟨L2, hL2⟩ : ∃ L2, L ++ [x.1] = L2 := ⟨_, rfl⟩
            rw [hL2] at et oL2 hsk
            simp only [hL2] at had
            have ol := once_len L
            have on2 := once_len L2
            obtain ⟨ne, e5⟩ := hA.er
            have p := p56 ne (once [] L) x.1 (by omega)
            rcases tf ((once [] L).contains x.1) with g | g
            · have hA2 := hsk _ _ hA g
              obtain ⟨ne2, e52⟩ := hA2.er
              have p2 := p56 ne2 (once [] L2) x.2 (by omega)
              rw [← e52] at p2
              rw [← e5] at p
              rcases tf ((once [] L2).contains x.2) with g2 | g2
              · have hA3 := hA2.skip g2
                rw [← et] at hA3
                simp +contextual (maxSteps := 10000000) only [r2, r7, hd5, d1, e, p, p2, g, g2, Option.map_some, wrap_natY i (by omega), go_sem, W_draw]
                exact ⟨by omega, hA3⟩
              · simp +contextual (maxSteps := 10000000) only [r2, r7, hd5, d1, e, p, p2, g, g2, Option.map_some, wrap_natY i (by omega), go_sem, W_draw]
                refine hA2.add (by omega) g2 fun d2 T2 hA3 => ?_
                rw [← et] at hA3
                simp +contextual (maxSteps := 10000000) only [r2, r7, wrap_natY i (by omega), go_sem, W_draw]
                exact ⟨by omega, hA3⟩
            · simp +contextual (maxSteps := 10000000) only [r2, r7, hd5, d1, e, e5, p, g, Option.map_some, go_sem, W_draw]
              refine had hA g fun d2 T2 hA2 => ?_
              obtain ⟨ne2, e52⟩ := hA2.er
              have p2 := p56 ne2 (once [] L2) x.2 (by omega)
              rcases tf ((once [] L2).contains x.2) with g2 | g2
              · have hA3 := hA2.skip g2
                rw [← et] at hA3
                simp +contextual (maxSteps := 10000000) only [r2, r7, d1, e, e52, p2, g2, Option.map_some, wrap_natY i (by omega), go_sem, W_draw]
                exact ⟨by omega, hA3⟩
              · simp +contextual (maxSteps := 10000000) only [r2, r7, d1, e, e52, p2, g2, Option.map_some, wrap_natY i (by omega), go_sem, W_draw]
                refine hA2.add (by omega) g2 fun d3 T3 hA3 => ?_
                rw [← et] at hA3
                simp +contextual (maxSteps := 10000000) only [r2, r7, wrap_natY i (by omega), go_sem, W_draw]
                exact ⟨by omega, hA3⟩
          · have d1 : decide ((i : Int) < E.length) = false := by simpa using ha
            have hil : E.take i = E := List.take_of_length_le (by omega)
            rw [hil] at hA
            simp +contextual (maxSteps := 10000000) only [r2, r7, hd5, d1, go_sem, W_draw]
            clear hi ha d1 hil r7
            refine W_for (fun i s' => s'.t 2 = .ptr H.length 0 ∧ s'.t 8 = .int .i64 (i : Int) ∧ s'.H = H ++ [.row [edS n E, edS n2 M]] ∧ i ≤ M.length ∧ accN T (n3 l E (M.take i)) (s'.t 5) s'.T) M.length ⟨0, by simp [upd, r2], by simp [upd], rfl, by omega, by simpa [upd, hd5] using hA⟩ (fun i s h => h.2.2.2.1) ?_ (XL_mono _)
            clear hA hd5 r2
            rintro i ⟨t, B, T1⟩ ⟨r2, r8, rfl, hi, hA⟩
            simp only at r2 r8 hA
            obtain ⟨d5, hd5⟩ : ∃ d, t 5 = d := ⟨_, rfl⟩
            rw [hd5] at hA
            by_cases ha : i < M.length
            · have d1 : decide ((i : Int) < M.length) = true := by simpa using ha
              have e : M[i]? = some M[i] := by simp [ha]
              obtain ⟨x, hx⟩ : ∃ x, M[i] = x := ⟨_, rfl⟩
              rw [hx] at e
              have et := n3_3 (l := l) (E := E) e
              have ol2 := n3_len l E (M.take i)
              obtain ⟨L, hL⟩ : ∃ L, n3 l E (M.take i) = L := ⟨_, rfl⟩
              rw [hL] at hA et ol2
              simp only [List.length_take] at ol2
              have ol := once_len L
              obtain ⟨ne, e5⟩ := hA.er
              have p := p56 ne (once [] L) x.2 (by omega)
              rcases tf ((once [] L).contains x.2) with g | g
              · have hA2 := hA.skip g
                rw [← et] at hA2
                simp +contextual (maxSteps := 10000000) only [r2, r8, hd5, e5, d1, e, g, p, Option.map_some, wrap_natY i (by omega), go_sem, W_draw]
                exact ⟨by omega, hA2⟩
              · simp +contextual (maxSteps := 10000000) only [r2, r8, hd5, e5, d1, e, g, p, Option.map_some, wrap_natY i (by omega), go_sem, W_draw]
                refine hA.add (by omega) g fun d2 T2 hA2 => ?_
                rw [← et] at hA2
                simp +contextual (maxSteps := 10000000) only [r2, r8, wrap_natY i (by omega), go_sem, W_draw]
                exact ⟨by omega, hA2⟩
            · have d1 : decide ((i : Int) < M.length) = false := by simpa using ha
              have hil : M.take i = M := List.take_of_length_le (by omega)
              rw [hil] at hA
              have l5 := hA.len
              simp +contextual (maxSteps := 10000000) only [r2, r8, hd5, d1, l5, leaves_Ea (Ext.refl H) hA.1, go_sem, W_draw]
              rfl
      · cases h
    · cases h
  · cases h
theorem p78 (n n2 : Bool) (E M : List Ed) (l : List Sb) (h : E.length ≤ 900 ∧ M.length ≤ 900 ∧ l.length ≤ 900) : φ78 [.agg [edS n E, edS n2 M], .sl none (l.map D.str)] = some (.int .i64 (cntR E M l : Int)) := by
  simp only [φ78, edgesD_S, strsD_map]
  rw [if_pos h]
end GP
namespace GP
open Go Go.Proofs
set_option maxRecDepth 100000
variable [HasG Try.prog]
def errR (E M : List Ed) (k : Int) (a b : Sb) : Int :=
  if k.tmod 4 == 0 then (if nmB a && nmB b then (if E.contains (a, b) then 9 else if reachB E b a then 10 else if decide (24 < cntR E M [a, b]) then 13 else 0) else 1)
  else if k.tmod 4 == 1 then (if E.contains (a, b) then 0 else 8)
  else if k.tmod 4 == 2 then (if nmB a && nmB b then (if M.contains (a, b) then 9 else if decide (24 < cntR E M [b]) || decide (96 ≤ M.length) then 13 else 0) else 1)
  else (if M.contains (a, b) then 0 else 8)
def nxtE (E : List Ed) (k : Int) (a b : Sb) : List Ed := if k.tmod 4 == 0 then E ++ [(a, b)] else if k.tmod 4 == 1 then E.erase (a, b) else E
def nxtM (M : List Ed) (k : Int) (a b : Sb) : List Ed := if k.tmod 4 == 0 || k.tmod 4 == 1 then M else if k.tmod 4 == 2 then M ++ [(a, b)] else M.erase (a, b)
def rosR (n n2 : Bool) (E M : List Ed) (k : Int) (a b : Sb) : D :=
  if errR E M k a b == 0 then .agg [edS (n && !(k.tmod 4 == 0 || k.tmod 4 == 1)) (nxtE E k a b), edS (n2 && (k.tmod 4 == 0 || k.tmod 4 == 1)) (nxtM M k a b)] else .agg [edS n E, edS n2 M]
def isNl : D → Bool
  | .nils => true
  | _ => false
open Classical in
noncomputable def φ43 : List D → Option D
  | [.agg [d, m], .agg [.int .u8 k, .str a, .str b]] => match edgesD d, edgesD m with
    | some E, some M => if E.length ≤ 800 ∧ M.length ≤ 800 ∧ E.Nodup ∧ M.Nodup ∧ 0 ≤ k then some (.tup [rosR (isNl d) (isNl m) E M k a b, .int .i64 (errR E M k a b)]) else none
    | _, _ => none
  | _ => none
theorem isNl_S (n : Bool) (l : List Ed) : edS (isNl (edS n l)) l = edS n l := by
  unfold edS
  rcases sliceD_cases n (l.map edD) with ⟨e, h⟩ | e <;> rw [e]
  · rw [h]; rfl
  · rfl
theorem mem_take_next {l : List Ed} {i : Nat} {x e : Ed} (h : l[i]? = some x) : e ∈ l.take (i + 1) ↔ e ∈ l.take i ∨ e = x := by
  rw [List.take_add_one, h]; simp
def lastI (l : List Ed) (e : Ed) (i : Nat) : Int := if e ∈ l.take i then (l.idxOf e : Int) else -1
theorem lastI_next {l : List Ed} (hn : l.Nodup) {i : Nat} {x e : Ed} (h : l[i]? = some x) : lastI l e (i + 1) = if x == e then (i : Int) else lastI l e i := by
  unfold lastI
  by_cases hx : x = e
  · subst hx
    have hi : i < l.length := by
      rcases Nat.lt_or_ge i l.length with h' | h'
      · exact h'
      · rw [List.getElem?_eq_none h'] at h; cases h
    rw [if_pos ((mem_take_next h).2 (.inr rfl)), if_pos (by simp)]
    have : l[i] = x := by rw [List.getElem?_eq_getElem hi] at h; injection h
    rw [← this, hn.idxOf_getElem]
  · have e1 : (x == e) = false := by simpa using hx
    rw [e1]
    simp only [Bool.false_eq_true, if_false]
    congr 1
    rw [mem_take_next h]
    exact propext ⟨fun h => h.resolve_right fun h' => hx h'.symm, .inl⟩
theorem lastI_end (l : List Ed) (e : Ed) : lastI l e l.length = if l.contains e then (l.idxOf e : Int) else -1 := by
  unfold lastI
  rw [List.take_length]
  simp only [List.contains_iff_mem]
theorem eq_ed (x e : Ed) : eqCells [.str x.1, .str x.2] [.str e.1, .str e.2] = some (x == e) := by
  simp only [eqCells, eqCell]
  obtain ⟨a, b⟩ := x
  obtain ⟨c, d⟩ := e
  congr 1
  rw [Bool.eq_iff_iff]; simp
theorem ed_fit (l : List Ed) : (l.map edD).all (fit 2) = true := List.all_eq_true.2 fun x hx => by
  obtain ⟨s, _, rfl⟩ := List.mem_map.1 hx; rfl
theorem ed_cells (l : List Ed) : (l.map edD).all (fun d => d.cells.length == 2) = true := List.all_eq_true.2 fun x hx => by
  obtain ⟨s, _, rfl⟩ := List.mem_map.1 hx; rfl
theorem app_e0 {sz bytes : Nat} {K : D → S → Prop} {t : Nat → D} {H : Hp} {U : Tk} (l : List D) (hf : l.all (fit sz) = true) (hb : l.length * bytes ≤ 2 ^ 47) (hl : l.length < 2 ^ 62) (k0 : l = [] → K .e0 ⟨t, H, U⟩) (k1 : l ≠ [] → K (.sl (some U.length) l) ⟨t, H, U ++ [some (l.length, sz)]⟩) :
    appK sz bytes K ⟨t, H, U⟩ .e0 (some l) := by
  refine ⟨hf, ?_⟩
  simp only
  split
  · rename_i h; exact k0 h
  · rename_i h; exact ⟨hb, hl, k1 h⟩
theorem app_tk {sz bytes τ : Nat} {K : D → S → Prop} {t : Nat → D} {H : Hp} {U : Tk} (xs ys : List D) (hT : U[τ]? = some (some (xs.length, sz))) (hf : ys.all (fit sz) = true) (hx : xs.all (fit sz) = true) (hb : (xs.length + ys.length) * bytes ≤ 2 ^ 47) (hl : xs.length + ys.length < 2 ^ 62)
    (k : K (.sl (some τ) (xs ++ ys)) ⟨t, H, U.set τ (some (xs.length + ys.length, sz))⟩) : appK sz bytes K ⟨t, H, U⟩ (.sl (some τ) xs) (some ys) := ⟨hf, hT, hb, hl, hx, k⟩
@[go_sem] theorem edS_src (n : Bool) (l : List Ed) : appSrc false (edS n l) = some (l.map edD) := by
  unfold edS
  rcases sliceD_cases n (l.map edD) with ⟨e, h⟩ | e <;> rw [e]
  · rw [h]; rfl
  · rfl
theorem edS_cl (n : Bool) (l : List Ed) : (edS n l).cl 0 0 = true := by
  have : D.clL 0 0 (l.map edD) = true := clL_of fun d hd => by obtain ⟨s, _, rfl⟩ := List.mem_map.1 hd; rfl
  unfold edS
  rcases sliceD_cases n (l.map edD) with ⟨e, h⟩ | e <;> rw [e] <;> simp [D.cl, this]
theorem rosR_cl (n n2 : Bool) (E M : List Ed) (k : Int) (a b : Sb) : (rosR n n2 E M k a b).cl 0 0 = true := by
  unfold rosR
  split <;> simp [D.cl, D.clL, edS_cl]
theorem slc_ed0 (n : Bool) (E : List Ed) {i : Nat} (hi : i < E.length) : slc 2 (some 0) (some (i : Int)) (edS n E) = some (.sl none ((E.take i).map edD)) := by
  unfold edS
  rcases sliceD_cases n (E.map edD) with ⟨e, h⟩ | e <;> rw [e]
  · have : E = [] := by simpa using h
    subst this; simp at hi
  · simp only [slc, List.length_map]
    rw [if_pos ⟨by omega, by omega, by omega, ed_cells E⟩, if_neg (by omega)]
    simp [subList, List.map_take]
theorem slc_ed1 (n : Bool) (E : List Ed) {i : Nat} (hi : i < E.length) : slc 2 (some ((i + 1 : Nat) : Int)) (some (E.length : Int)) (edS n E) = some (.sl none ((E.drop (i + 1)).map edD)) := by
  unfold edS
  rcases sliceD_cases n (E.map edD) with ⟨e, h⟩ | e <;> rw [e]
  · have : E = [] := by simpa using h
    subst this; simp at hi
  · simp only [slc, List.length_map]
    rw [if_pos ⟨by omega, by omega, by omega, ed_cells E⟩, if_neg (by omega)]
    simp only [subList, Int.toNat_natCast]
    rw [List.take_of_length_le (by simp), List.map_drop]
@[go_sem] theorem edS_cells (n : Bool) (l : List Ed) : (edS n l).cells = [edS n l] := by
  unfold edS
  rcases sliceD_cases n (l.map edD) with ⟨e, h⟩ | e <;> rw [e] <;> rfl
@[go_sem] theorem edS_okc (n : Bool) (l : List Ed) : (edS n l).okc = true := by
  unfold edS
  rcases sliceD_cases n (l.map edD) with ⟨e, h⟩ | e <;> rw [e] <;> rfl
@[go_sem] theorem edS_fit (n : Bool) (l : List Ed) : fit 1 (edS n l) = true := by
  unfold fit; rw [edS_okc, edS_cells]; rfl
theorem er_two (l m : List Ed) : D.sl none (D.eraseL (l.map edD ++ m.map edD)) = edS false (l ++ m) := by
  rw [← List.map_append, edL_erase]; rfl
theorem er_app (l : List Ed) (e : Ed) : D.sl none (D.eraseL (l.map edD ++ [edD e])) = edS false (l ++ [e]) := er_two l [e]
theorem er_one (e : Ed) : D.sl none [(edD e).erase] = edS false [e] := rfl
end GP
namespace GP
open Go Go.Proofs
set_option maxRecDepth 100000
variable [HasG Try.prog]
set_option maxHeartbeats 2000000 in
theorem ok43 : OkAt Try.prog 43 φ43 := by
  refine ok_of (l := [(77, φ77), (45, φ45), (78, φ78)]) (.cons ok77 (.cons ok45 (.cons ok78 .nil))) fn43 fun args r h => ?_
  unfold φ43 at h
  split at h
  · rename_i d m k a b
    split at h
    · rename_i E M hE hM
      split at h
      · rename_i hl
        obtain ⟨l1, l2, l3, l4, l5⟩ := hl
        injection h with h; subst h
        obtain ⟨n', rfl⟩ := edgesD_of hE
        obtain ⟨n2', rfl⟩ := edgesD_of hM
        obtain ⟨n, hn⟩ : ∃ n, isNl (edS n' E) = n := ⟨_, rfl⟩
        obtain ⟨n2, hn2⟩ : ∃ n, isNl (edS n2' M) = n := ⟨_, rfl⟩
        have s1 := isNl_S n' E
        have s2 := isNl_S n2' M
        rw [hn] at s1; rw [hn2] at s2
        rw [hn, hn2, ← s1, ← s2]
        clear hn hn2 s1 s2 hE hM
        refine ⟨by simp, ?_, fun H T => ?_⟩
        · simp [D.cl, D.clL, rosR_cl]
        simp +contextual (maxSteps := 10000000) only [c43, go_sem, W_draw]
        obtain ⟨R, hR⟩ : ∃ R, R = [Ob.row [edS n E, edS n2 M], .row [.int .u8 k, .str a, .str b], .row [.nils, .nils], .row [.str a, .str b], .row [.str a, .str b]] := ⟨_, rfl⟩
        refine W_for (fun i s' => s'.t 2 = .ptr H.length 0 ∧ s'.t 3 = .ptr (H.length + 1) 0 ∧ s'.t 4 = .ptr (H.length + 2) 0 ∧ s'.t 6 = .ptr (H.length + 3) 0 ∧ s'.t 7 = .ptr (H.length + 4) 0 ∧ s'.t 8 = .int .i64 (lastI E (a, b) i) ∧ s'.t 9 = .int .i64 (-1) ∧ s'.t 10 = .int .i64 (i : Int) ∧ s'.H = H ++ R ∧ s'.T = T ∧ i ≤ E.length) E.length
          ⟨0, by simp [upd], by simp [upd], by simp [upd], by simp [upd], by simp [upd], by simp [upd, lastI], by simp [upd], by simp [upd], by simp [hR], rfl, by omega⟩ (fun i s h => h.2.2.2.2.2.2.2.2.2.2) ?_ (XL_mono _)
        rintro i ⟨t, B, T'⟩ ⟨r2, r3, r4, r6, r7, r8, r9, r10, rfl, rfl, hi⟩
        simp only at r2 r3 r4 r6 r7 r8 r9 r10
        have g0 : rdAt (H ++ R) (.ptr H.length 0) = some [edS n E, edS n2 M] := by simp [rdAt, hR]
        have g1 : rdAt (H ++ R) (.ptr (H.length + 1) 0) = some [.int .u8 k, .str a, .str b] := by simp [rdAt, hR]
        have g11 : rdAt (H ++ R) (.ptr (H.length + 1) 1) = some [.str a, .str b] := by simp [rdAt, hR]
        have g12 : rdAt (H ++ R) (.ptr (H.length + 1) 2) = some [.str b] := by simp [rdAt, hR]
        have g01 : rdAt (H ++ R) (.ptr H.length 1) = some [edS n2 M] := by simp [rdAt, hR]
        have g3 : rdAt (H ++ R) (.ptr (H.length + 3) 0) = some [.str a, .str b] := by simp [rdAt, hR]
        have g4 : rdAt (H ++ R) (.ptr (H.length + 4) 0) = some [.str a, .str b] := by simp [rdAt, hR]
        by_cases ha : i < E.length
        · have d1 : decide ((i : Int) < E.length) = true := by simpa using ha
          have e : E[i]? = some E[i] := by simp [ha]
          obtain ⟨x, hx⟩ : ∃ x, E[i] = x := ⟨_, rfl⟩
          rw [hx] at e
          have q := eq_ed x (a, b)
          have nx := lastI_next (e := (a, b)) l3 e
          rcases tf (x == (a, b)) with g | g
          · rw [g] at q nx
            simp +contextual (maxSteps := 10000000) only [r2, r3, r4, r6, r7, r8, r9, r10, g0, g3, d1, e, q, Option.map_some, wrap_natY i (by omega), go_sem, W_draw]
            exact ⟨by rw [nx]; rfl, by omega⟩
          · rw [g] at q nx
            simp +contextual (maxSteps := 10000000) only [r2, r3, r4, r6, r7, r8, r9, r10, g0, g3, d1, e, q, Option.map_some, wrap_natY i (by omega), go_sem, W_draw]
            exact ⟨by rw [nx]; rfl, by omega⟩
        · have d1 : decide ((i : Int) < E.length) = false := by simpa using ha
          have hiE : i = E.length := by omega
          subst hiE
          rw [lastI_end] at r8
          simp +contextual (maxSteps := 10000000) only [r2, r3, r4, r6, r7, r8, r9, r10, g0, d1, go_sem, W_draw]
          clear hi ha d1 r10
          refine W_for (fun i s' => s'.t 2 = .ptr H.length 0 ∧ s'.t 3 = .ptr (H.length + 1) 0 ∧ s'.t 4 = .ptr (H.length + 2) 0 ∧ s'.t 6 = .ptr (H.length + 3) 0 ∧ s'.t 7 = .ptr (H.length + 4) 0 ∧ s'.t 8 = .int .i64 (if E.contains (a, b) = true then (E.idxOf (a, b) : Int) else -1) ∧ s'.t 9 = .int .i64 (lastI M (a, b) i) ∧ s'.t 11 = .int .i64 (i : Int) ∧ s'.H = H ++ R ∧ s'.T = T' ∧ i ≤ M.length) M.length
            ⟨0, by simp [upd, r2], by simp [upd, r3], by simp [upd, r4], by simp [upd, r6], by simp [upd, r7], by simp [upd, r8], by simp [upd, lastI, r9], by simp [upd], rfl, rfl, by omega⟩ (fun i s h => h.2.2.2.2.2.2.2.2.2.2) ?_ (XL_mono _)
          clear r2 r3 r4 r6 r7 r8 r9
          rintro i ⟨t, B, T'⟩ ⟨r2, r3, r4, r6, r7, r8, r9, r11, rfl, rfl, hi⟩
          simp only at r2 r3 r4 r6 r7 r8 r9 r11
          by_cases ha : i < M.length
          · have d1 : decide ((i : Int) < M.length) = true := by simpa using ha
            have e : M[i]? = some M[i] := by simp [ha]
            obtain ⟨x, hx⟩ : ∃ x, M[i] = x := ⟨_, rfl⟩
            rw [hx] at e
            have q := eq_ed x (a, b)
            have nx := lastI_next (e := (a, b)) l4 e
            rcases tf (x == (a, b)) with g | g
            · rw [g] at q nx
              simp +contextual (maxSteps := 10000000) only [r2, r3, r4, r6, r7, r8, r9, r11, g01, g4, d1, e, q, Option.map_some, wrap_natY i (by omega), go_sem, W_draw]
              exact ⟨by rw [nx]; rfl, by omega⟩
            · rw [g] at q nx
              simp +contextual (maxSteps := 10000000) only [r2, r3, r4, r6, r7, r8, r9, r11, g01, g4, d1, e, q, Option.map_some, wrap_natY i (by omega), go_sem, W_draw]
              exact ⟨by rw [nx]; rfl, by omega⟩
          · have d1 : decide ((i : Int) < M.length) = false := by simpa using ha
            have hiE : i = M.length := by omega
            subst hiE
            rw [lastI_end] at r9
            have p1 : φ77 [.str a] = some (.bool (nmB a)) := rfl
            have p2 : φ77 [.str b] = some (.bool (nmB b)) := rfl
            have p3 := p45 n E (edS n2 M) b a (by omega)
            have p4 := p78 n n2 E M [a, b] ⟨by omega, by omega, by simp⟩
            have p5 := p78 n n2 E M [b] ⟨by omega, by omega, by simp⟩
            simp only [List.map_cons, List.map_nil] at p4 p5
            have st4 : ∀ (K : D → S → Prop) (t : Nat → D) (U : Tk) (v : D), storeK 2 K ⟨t, H ++ R, U⟩ (.ptr (H.length + 2) 0) v = (v.okc = true ∧ v.cells.length = 2 ∧ K .top ⟨t, H ++ R.set 2 (.row v.cells), U⟩) := fun K t U v => by
              have ho : (H ++ R)[H.length + 2]? = some (.row [.nils, .nils]) := by simp [hR]
              rw [storeK_E ho]
              have e : ∀ y, (H ++ R).set (H.length + 2) y = H ++ R.set 2 y := fun y => by rw [List.set_append_right _ _ (by omega)]; congr 2; omega
              simp only [e]
              rw [eq_iff_iff]
              constructor
              · rintro ⟨h1, h2, _, h3⟩
                refine ⟨h1, h2, ?_⟩
                simpa [h2] using h3
              · rintro ⟨h1, h2, h3⟩
                refine ⟨h1, h2, by simp, ?_⟩
                simpa [h2] using h3
            have rd4 : ∀ X, rdAt (H ++ R.set 2 (.row X)) (.ptr (H.length + 2) 0) = some X := fun X => by simp [rdAt, hR]
            have leavesR : ∀ (r0 r : D) (L : Hp) (U : Tk), Leaves r0 H T' r (H ++ L) (T' ++ U) = (r.erase = r0) := fun r0 r L U => leaves_E (Ext.of H L) (ExtT.of T' U)
            have leavesR0 : ∀ (r0 r : D) (L : Hp), Leaves r0 H T' r (H ++ L) T' = (r.erase = r0) := fun r0 r L => leaves_E (Ext.of H L) (ExtT.refl T')
            have cE1 : E.contains (a, b) = true → t 8 = .int .i64 (E.idxOf (a, b) : Int) ∧ E.idxOf (a, b) < E.length := fun h => ⟨by rw [r8, if_pos h], List.idxOf_lt_length_of_mem (List.contains_iff_mem.1 h)⟩
            have cE0 : E.contains (a, b) = false → t 8 = .int .i64 (-1) := fun h => by rw [r8, if_neg (by rw [h]; simp)]
            have cM1 : M.contains (a, b) = true → t 9 = .int .i64 (M.idxOf (a, b) : Int) ∧ M.idxOf (a, b) < M.length := fun h => ⟨by rw [r9, if_pos h], List.idxOf_lt_length_of_mem (List.contains_iff_mem.1 h)⟩
            have cM0 : M.contains (a, b) = false → t 9 = .int .i64 (-1) := fun h => by rw [r9, if_neg (by rw [h]; simp)]
            have dp : ∀ n : Nat, decide ((0 : Int) ≤ (n : Int)) = true := fun n => by simp
            have dp2 : ∀ n : Nat, decide ((n : Int) < 0) = false := fun n => by simp
            have dn : decide ((0 : Int) ≤ -1) = false := by decide
            have dn2 : decide ((-1 : Int) < 0) = true := by decide
            have setT1 : ∀ (L : Tk) (j : Nat) x, (T' ++ L).set (T'.length + j) x = T' ++ L.set j x := fun L j x => by rw [List.set_append_right _ _ (by omega)]; congr 2; omega
            have setT0 : ∀ (L : Tk) x, (T' ++ L).set T'.length x = T' ++ L.set 0 x := fun L x => setT1 L 0 x
            clear r8
            rcases tf (k.tmod 4 == 0) with k0 | k0
            · rcases tf (nmB a) with ga | ga
              · rcases tf (nmB b) with gb | gb
                · rcases tf (E.contains (a, b)) with gE | gE
                  · have r8 := (cE1 gE).1
                    have er : errR E M k a b = 9 := by unfold errR; simp only [k0, ga, gb, gE, Bool.and_true, Bool.true_and, Bool.false_and, Bool.and_false, if_true, Bool.false_eq_true, if_false, Bool.or_true, Bool.true_or, Bool.or_false, Bool.false_or]
                    have ro : rosR n n2 E M k a b = .agg [edS n E, edS n2 M] := by unfold rosR; rw [er]; rfl
                    rw [er, ro]
                    simp +contextual (maxSteps := 10000000) only [r2, r3, r4, r6, r7, r11, g01, g3, g4, g1, g11, g12, g0, d1, st4, rd4, Option.map_some, leavesR, leavesR0, setT0, setT1, r8, r9, p1, p2, k0, ga, gb, dp, go_sem, W_draw]
                  · have r8 := cE0 gE
                    rcases tf (reachB E b a) with gR | gR
                    · skip
                      have er : errR E M k a b = 10 := by unfold errR; simp only [k0, ga, gb, gE, gR, Bool.and_true, Bool.true_and, Bool.false_and, Bool.and_false, if_true, Bool.false_eq_true, if_false, Bool.or_true, Bool.true_or, Bool.or_false, Bool.false_or]
                      have ro : rosR n n2 E M k a b = .agg [edS n E, edS n2 M] := by unfold rosR; rw [er]; rfl
                      rw [er, ro]
                      simp +contextual (maxSteps := 10000000) only [r2, r3, r4, r6, r7, r11, g01, g3, g4, g1, g11, g12, g0, d1, st4, rd4, Option.map_some, leavesR, leavesR0, setT0, setT1, r8, r9, p1, p2, p3, k0, ga, gb, gR, dn, go_sem, W_draw]
                    · rcases tf (decide (24 < cntR E M [a, b])) with gd | gd
                      · have gc : decide ((24 : Int) < (cntR E M [a, b] : Int)) = true := by simp only [decide_eq_true_eq] at gd ⊢; omega
                        have er : errR E M k a b = 13 := by unfold errR; simp only [k0, ga, gb, gE, gR, gd, Bool.and_true, Bool.true_and, Bool.false_and, Bool.and_false, if_true, Bool.false_eq_true, if_false, Bool.or_true, Bool.true_or, Bool.or_false, Bool.false_or]
                        have ro : rosR n n2 E M k a b = .agg [edS n E, edS n2 M] := by unfold rosR; rw [er]; rfl
                        rw [er, ro]
                        simp +contextual (maxSteps := 10000000) only [r2, r3, r4, r6, r7, r11, g01, g3, g4, g1, g11, g12, g0, d1, st4, rd4, Option.map_some, leavesR, leavesR0, setT0, setT1, r8, r9, p1, p2, p3, p4, k0, ga, gb, gR, gc, dn, go_sem, W_draw]
                      · have gc : decide ((24 : Int) < (cntR E M [a, b] : Int)) = false := by simp only [decide_eq_false_iff_not] at gd ⊢; omega
                        have er : errR E M k a b = 0 := by unfold errR; simp only [k0, ga, gb, gE, gR, gd, Bool.and_true, Bool.true_and, Bool.false_and, Bool.and_false, if_true, Bool.false_eq_true, if_false, Bool.or_true, Bool.true_or, Bool.or_false, Bool.false_or]
                        have ro : rosR n n2 E M k a b = .agg [edS false (E ++ [(a, b)]), edS n2 M] := by unfold rosR nxtE nxtM; rw [er]; simp only [k0, beq_self_eq_true, Bool.not_true, Bool.not_false, Bool.and_true, Bool.true_and, Bool.false_and, Bool.and_false, if_true, Bool.false_eq_true, if_false, Bool.or_true, Bool.true_or, Bool.or_false, Bool.false_or]
                        rw [er, ro]
                        simp +contextual (maxSteps := 10000000) only [r2, r3, r4, r6, r7, r11, g01, g3, g4, g1, g11, g12, g0, d1, st4, rd4, Option.map_some, leavesR, leavesR0, setT0, setT1, r8, r9, p1, p2, p3, p4, k0, ga, gb, gR, gc, dn, go_sem, W_draw]
                        refine app_e0 (E.map edD) (ed_fit _) (by simp; omega) (by simp; omega) (fun h0 => ?_) (fun h0 => ?_)
                        · have h0 : E = [] := by simpa using h0
                          simp +contextual (maxSteps := 10000000) only [r2, r3, r4, r6, r7, r11, g01, g3, g4, g1, g11, g12, g0, d1, st4, rd4, Option.map_some, leavesR, leavesR0, setT0, setT1, p1, go_sem, W_draw]
                          refine app_e0 [edD (a, b)] rfl (by simp) (by simp) (fun h => by cases h) fun _ => ?_
                          simp +contextual (maxSteps := 10000000) only [r2, r3, r4, r6, r7, r11, g01, g3, g4, g1, g11, g12, g0, d1, st4, rd4, Option.map_some, leavesR, leavesR0, setT0, setT1, p1, go_sem, W_draw]
                          rw [h0, er_one]; rfl
                        · skip
                          simp +contextual (maxSteps := 10000000) only [r2, r3, r4, r6, r7, r11, g01, g3, g4, g1, g11, g12, g0, d1, st4, rd4, Option.map_some, leavesR, leavesR0, setT0, setT1, p1, go_sem, W_draw]
                          refine app_tk (E.map edD) [edD (a, b)] ?_ rfl (ed_fit _) ?_ ?_ ?_
                          · simp
                          · simp; omega
                          · simp; omega
                          simp +contextual (maxSteps := 10000000) only [r2, r3, r4, r6, r7, r11, g01, g3, g4, g1, g11, g12, g0, d1, st4, rd4, Option.map_some, leavesR, leavesR0, setT0, setT1, p1, go_sem, W_draw]
                          rw [er_app]
                · skip
                  have er : errR E M k a b = 1 := by unfold errR; simp only [k0, ga, gb, Bool.and_true, Bool.true_and, Bool.false_and, Bool.and_false, if_true, Bool.false_eq_true, if_false, Bool.or_true, Bool.true_or, Bool.or_false, Bool.false_or]
                  have ro : rosR n n2 E M k a b = .agg [edS n E, edS n2 M] := by unfold rosR; rw [er]; rfl
                  rw [er, ro]
                  simp +contextual (maxSteps := 10000000) only [r2, r3, r4, r6, r7, r11, g01, g3, g4, g1, g11, g12, g0, d1, st4, rd4, Option.map_some, leavesR, leavesR0, setT0, setT1, r9, p1, p2, k0, ga, gb, go_sem, W_draw]
              · skip
                have er : errR E M k a b = 1 := by unfold errR; simp only [k0, ga, Bool.and_true, Bool.true_and, Bool.false_and, Bool.and_false, if_true, Bool.false_eq_true, if_false, Bool.or_true, Bool.true_or, Bool.or_false, Bool.false_or]
                have ro : rosR n n2 E M k a b = .agg [edS n E, edS n2 M] := by unfold rosR; rw [er]; rfl
                rw [er, ro]
                simp +contextual (maxSteps := 10000000) only [r2, r3, r4, r6, r7, r11, g01, g3, g4, g1, g11, g12, g0, d1, st4, rd4, Option.map_some, leavesR, leavesR0, setT0, setT1, r9, p1, p2, k0, ga, go_sem, W_draw]
            · rcases tf (k.tmod 4 == 1) with k1 | k1
              · rcases tf (nmB a) with ga | ga
                · rcases tf (E.contains (a, b)) with gX | gX
                  · obtain ⟨r8, hI⟩ := cE1 gX
                    obtain ⟨i, hi⟩ : ∃ i, E.idxOf (a, b) = i := ⟨_, rfl⟩
                    rw [hi] at r8 hI
                    have hE2 : E.erase (a, b) = E.take i ++ E.drop (i + 1) := by rw [List.erase_eq_eraseIdx_of_idxOf hi, List.eraseIdx_eq_take_drop_succ]
                    have er : errR E M k a b = 0 := by unfold errR; simp only [k0, k1, gX, Bool.and_true, Bool.true_and, Bool.false_and, Bool.and_false, if_true, Bool.false_eq_true, if_false, Bool.or_true, Bool.true_or, Bool.or_false, Bool.false_or]
                    have ro : rosR n n2 E M k a b = .agg [edS false (E.erase (a, b)), edS n2 M] := by unfold rosR nxtE nxtM; rw [er]; simp only [k0, k1, beq_self_eq_true, Bool.not_true, Bool.not_false, Bool.and_true, Bool.true_and, Bool.false_and, Bool.and_false, if_true, Bool.false_eq_true, if_false, Bool.or_true, Bool.true_or, Bool.or_false, Bool.false_or]
                    rw [er, ro]
                    rw [hE2]
                    have s1 := slc_ed0 n E hI
                    have s2 := slc_ed1 n E hI
                    simp +contextual (maxSteps := 10000000) only [r2, r3, r4, r6, r7, r11, g01, g3, g4, g1, g11, g12, g0, d1, st4, rd4, Option.map_some, leavesR, leavesR0, setT0, setT1, r8, r9, k0, k1, p1, p2, ga, dp2, s1, s2, wrap_natY i (by omega), go_sem, W_draw]
                    refine app_tk [] ((E.take i).map edD) ?_ (ed_fit _) rfl ?_ ?_ ?_
                    · simp
                    · simp; omega
                    · simp; omega
                    simp +contextual (maxSteps := 10000000) only [r2, r3, r4, r6, r7, r11, g01, g3, g4, g1, g11, g12, g0, d1, st4, rd4, Option.map_some, leavesR, leavesR0, setT0, setT1, r8, r9, k0, k1, p1, p2, ga, dp2, s1, s2, wrap_natY i (by omega), List.nil_append, List.length_nil, Nat.zero_add, go_sem, W_draw]
                    refine app_tk ((E.take i).map edD) ((E.drop (i + 1)).map edD) ?_ (ed_fit _) (ed_fit _) ?_ ?_ ?_
                    · simp
                    · simp; omega
                    · simp; omega
                    simp +contextual (maxSteps := 10000000) only [r2, r3, r4, r6, r7, r11, g01, g3, g4, g1, g11, g12, g0, d1, st4, rd4, Option.map_some, leavesR, leavesR0, setT0, setT1, r8, r9, k0, k1, p1, p2, ga, dp2, s1, s2, wrap_natY i (by omega), go_sem, W_draw]
                    rw [er_two]
                  · have r8 := cE0 gX
                    have er : errR E M k a b = 8 := by unfold errR; simp only [k0, k1, gX, Bool.and_true, Bool.true_and, Bool.false_and, Bool.and_false, if_true, Bool.false_eq_true, if_false, Bool.or_true, Bool.true_or, Bool.or_false, Bool.false_or]
                    have ro : rosR n n2 E M k a b = .agg [edS n E, edS n2 M] := by unfold rosR; rw [er]; rfl
                    rw [er, ro]
                    simp +contextual (maxSteps := 10000000) only [r2, r3, r4, r6, r7, r11, g01, g3, g4, g1, g11, g12, g0, d1, st4, rd4, Option.map_some, leavesR, leavesR0, setT0, setT1, r8, r9, k0, k1, p1, p2, ga, dn2, go_sem, W_draw]
                · rcases tf (E.contains (a, b)) with gX | gX
                  · obtain ⟨r8, hI⟩ := cE1 gX
                    obtain ⟨i, hi⟩ : ∃ i, E.idxOf (a, b) = i := ⟨_, rfl⟩
                    rw [hi] at r8 hI
                    have hE2 : E.erase (a, b) = E.take i ++ E.drop (i + 1) := by rw [List.erase_eq_eraseIdx_of_idxOf hi, List.eraseIdx_eq_take_drop_succ]
                    have er : errR E M k a b = 0 := by unfold errR; simp only [k0, k1, gX, Bool.and_true, Bool.true_and, Bool.false_and, Bool.and_false, if_true, Bool.false_eq_true, if_false, Bool.or_true, Bool.true_or, Bool.or_false, Bool.false_or]
                    have ro : rosR n n2 E M k a b = .agg [edS false (E.erase (a, b)), edS n2 M] := by unfold rosR nxtE nxtM; rw [er]; simp only [k0, k1, beq_self_eq_true, Bool.not_true, Bool.not_false, Bool.and_true, Bool.true_and, Bool.false_and, Bool.and_false, if_true, Bool.false_eq_true, if_false, Bool.or_true, Bool.true_or, Bool.or_false, Bool.false_or]
                    rw [er, ro]
                    rw [hE2]
                    have s1 := slc_ed0 n E hI
                    have s2 := slc_ed1 n E hI
                    simp +contextual (maxSteps := 10000000) only [r2, r3, r4, r6, r7, r11, g01, g3, g4, g1, g11, g12, g0, d1, st4, rd4, Option.map_some, leavesR, leavesR0, setT0, setT1, r8, r9, k0, k1, p1, p2, ga, dp2, s1, s2, wrap_natY i (by omega), go_sem, W_draw]
                    refine app_tk [] ((E.take i).map edD) ?_ (ed_fit _) rfl ?_ ?_ ?_
                    · simp
                    · simp; omega
                    · simp; omega
                    simp +contextual (maxSteps := 10000000) only [r2, r3, r4, r6, r7, r11, g01, g3, g4, g1, g11, g12, g0, d1, st4, rd4, Option.map_some, leavesR, leavesR0, setT0, setT1, r8, r9, k0, k1, p1, p2, ga, dp2, s1, s2, wrap_natY i (by omega), List.nil_append, List.length_nil, Nat.zero_add, go_sem, W_draw]
                    refine app_tk ((E.take i).map edD) ((E.drop (i + 1)).map edD) ?_ (ed_fit _) (ed_fit _) ?_ ?_ ?_
                    · simp
                    · simp; omega
                    · simp; omega
                    simp +contextual (maxSteps := 10000000) only [r2, r3, r4, r6, r7, r11, g01, g3, g4, g1, g11, g12, g0, d1, st4, rd4, Option.map_some, leavesR, leavesR0, setT0, setT1, r8, r9, k0, k1, p1, p2, ga, dp2, s1, s2, wrap_natY i (by omega), go_sem, W_draw]
                    rw [er_two]
                  · have r8 := cE0 gX
                    have er : errR E M k a b = 8 := by unfold errR; simp only [k0, k1, gX, Bool.and_true, Bool.true_and, Bool.false_and, Bool.and_false, if_true, Bool.false_eq_true, if_false, Bool.or_true, Bool.true_or, Bool.or_false, Bool.false_or]
                    have ro : rosR n n2 E M k a b = .agg [edS n E, edS n2 M] := by unfold rosR; rw [er]; rfl
                    rw [er, ro]
                    simp +contextual (maxSteps := 10000000) only [r2, r3, r4, r6, r7, r11, g01, g3, g4, g1, g11, g12, g0, d1, st4, rd4, Option.map_some, leavesR, leavesR0, setT0, setT1, r8, r9, k0, k1, p1, p2, ga, dn2, go_sem, W_draw]
              · rcases tf (k.tmod 4 == 2) with k2 | k2
                · rcases tf (nmB a) with ga | ga
                  · rcases tf (nmB b) with gb | gb
                    · rcases tf (M.contains (a, b)) with gX | gX
                      · have r9 := (cM1 gX).1
                        have er : errR E M k a b = 9 := by unfold errR; simp only [k0, k1, k2, ga, gb, gX, Bool.and_true, Bool.true_and, Bool.false_and, Bool.and_false, if_true, Bool.false_eq_true, if_false, Bool.or_true, Bool.true_or, Bool.or_false, Bool.false_or]
                        have ro : rosR n n2 E M k a b = .agg [edS n E, edS n2 M] := by unfold rosR; rw [er]; rfl
                        rw [er, ro]
                        simp +contextual (maxSteps := 10000000) only [r2, r3, r4, r6, r7, r11, g01, g3, g4, g1, g11, g12, g0, d1, st4, rd4, Option.map_some, leavesR, leavesR0, setT0, setT1, r9, p1, p2, k0, k1, k2, ga, gb, dp, go_sem, W_draw]
                      · have r9 := cM0 gX
                        rcases tf (decide (24 < cntR E M [b])) with gd | gd
                        · have gc : decide ((24 : Int) < (cntR E M [b] : Int)) = true := by simp only [decide_eq_true_eq] at gd ⊢; omega
                          have er : errR E M k a b = 13 := by unfold errR; simp only [k0, k1, k2, ga, gb, gX, gd, Bool.and_true, Bool.true_and, Bool.false_and, Bool.and_false, if_true, Bool.false_eq_true, if_false, Bool.or_true, Bool.true_or, Bool.or_false, Bool.false_or]
                          have ro : rosR n n2 E M k a b = .agg [edS n E, edS n2 M] := by unfold rosR; rw [er]; rfl
                          rw [er, ro]
                          simp +contextual (maxSteps := 10000000) only [r2, r3, r4, r6, r7, r11, g01, g3, g4, g1, g11, g12, g0, d1, st4, rd4, Option.map_some, leavesR, leavesR0, setT0, setT1, r9, p1, p2, p5, k0, k1, k2, ga, gb, gc, dn, go_sem, W_draw]
                        · have gc : decide ((24 : Int) < (cntR E M [b] : Int)) = false := by simp only [decide_eq_false_iff_not] at gd ⊢; omega
                          rcases tf (decide (96 ≤ M.length)) with gm | gm
                          · have gm2 : decide ((96 : Int) ≤ (M.length : Int)) = true := by simp only [decide_eq_true_eq] at gm ⊢; omega
                            have er : errR E M k a b = 13 := by unfold errR; simp only [k0, k1, k2, ga, gb, gX, gd, gm, Bool.and_true, Bool.true_and, Bool.false_and, Bool.and_false, if_true, Bool.false_eq_true, if_false, Bool.or_true, Bool.true_or, Bool.or_false, Bool.false_or]
                            have ro : rosR n n2 E M k a b = .agg [edS n E, edS n2 M] := by unfold rosR; rw [er]; rfl
                            rw [er, ro]
                            simp +contextual (maxSteps := 10000000) only [r2, r3, r4, r6, r7, r11, g01, g3, g4, g1, g11, g12, g0, d1, st4, rd4, Option.map_some, leavesR, leavesR0, setT0, setT1, r9, p1, p2, p5, k0, k1, k2, ga, gb, gc, gm2, dn, go_sem, W_draw]
                          · have gm2 : decide ((96 : Int) ≤ (M.length : Int)) = false := by simp only [decide_eq_false_iff_not] at gm ⊢; omega
                            have er : errR E M k a b = 0 := by unfold errR; simp only [k0, k1, k2, ga, gb, gX, gd, gm, Bool.and_true, Bool.true_and, Bool.false_and, Bool.and_false, if_true, Bool.false_eq_true, if_false, Bool.or_true, Bool.true_or, Bool.or_false, Bool.false_or]
                            have ro : rosR n n2 E M k a b = .agg [edS n E, edS false (M ++ [(a, b)])] := by unfold rosR nxtE nxtM; rw [er]; simp only [k0, k1, k2, beq_self_eq_true, Bool.not_true, Bool.not_false, Bool.and_true, Bool.true_and, Bool.false_and, Bool.and_false, if_true, Bool.false_eq_true, if_false, Bool.or_true, Bool.true_or, Bool.or_false, Bool.false_or]
                            rw [er, ro]
                            simp +contextual (maxSteps := 10000000) only [r2, r3, r4, r6, r7, r11, g01, g3, g4, g1, g11, g12, g0, d1, st4, rd4, Option.map_some, leavesR, leavesR0, setT0, setT1, r9, p1, p2, p5, k0, k1, k2, ga, gb, gc, gm2, dn, go_sem, W_draw]
                            refine app_e0 (M.map edD) (ed_fit _) (by simp; omega) (by simp; omega) (fun h0 => ?_) (fun h0 => ?_)
                            · have h0 : M = [] := by simpa using h0
                              simp +contextual (maxSteps := 10000000) only [r2, r3, r4, r6, r7, r11, g01, g3, g4, g1, g11, g12, g0, d1, st4, rd4, Option.map_some, leavesR, leavesR0, setT0, setT1, p1, go_sem, W_draw]
                              refine app_e0 [edD (a, b)] rfl (by simp) (by simp) (fun h => by cases h) fun _ => ?_
                              simp +contextual (maxSteps := 10000000) only [r2, r3, r4, r6, r7, r11, g01, g3, g4, g1, g11, g12, g0, d1, st4, rd4, Option.map_some, leavesR, leavesR0, setT0, setT1, p1, go_sem, W_draw]
                              rw [h0, er_one]; rfl
                            · skip
                              simp +contextual (maxSteps := 10000000) only [r2, r3, r4, r6, r7, r11, g01, g3, g4, g1, g11, g12, g0, d1, st4, rd4, Option.map_some, leavesR, leavesR0, setT0, setT1, p1, go_sem, W_draw]
                              refine app_tk (M.map edD) [edD (a, b)] ?_ rfl (ed_fit _) ?_ ?_ ?_
                              · simp
                              · simp; omega
                              · simp; omega
                              simp +contextual (maxSteps := 10000000) only [r2, r3, r4, r6, r7, r11, g01, g3, g4, g1, g11, g12, g0, d1, st4, rd4, Option.map_some, leavesR, leavesR0, setT0, setT1, p1, go_sem, W_draw]
                              rw [er_app]
                    · skip
                      have er : errR E M k a b = 1 := by unfold errR; simp only [k0, k1, k2, ga, gb, Bool.and_true, Bool.true_and, Bool.false_and, Bool.and_false, if_true, Bool.false_eq_true, if_false, Bool.or_true, Bool.true_or, Bool.or_false, Bool.false_or]
                      have ro : rosR n n2 E M k a b = .agg [edS n E, edS n2 M] := by unfold rosR; rw [er]; rfl
                      rw [er, ro]
                      simp +contextual (maxSteps := 10000000) only [r2, r3, r4, r6, r7, r11, g01, g3, g4, g1, g11, g12, g0, d1, st4, rd4, Option.map_some, leavesR, leavesR0, setT0, setT1, r9, p1, p2, k0, k1, k2, ga, gb, go_sem, W_draw]
                  · skip
                    have er : errR E M k a b = 1 := by unfold errR; simp only [k0, k1, k2, ga, Bool.and_true, Bool.true_and, Bool.false_and, Bool.and_false, if_true, Bool.false_eq_true, if_false, Bool.or_true, Bool.true_or, Bool.or_false, Bool.false_or]
                    have ro : rosR n n2 E M k a b = .agg [edS n E, edS n2 M] := by unfold rosR; rw [er]; rfl
                    rw [er, ro]
                    simp +contextual (maxSteps := 10000000) only [r2, r3, r4, r6, r7, r11, g01, g3, g4, g1, g11, g12, g0, d1, st4, rd4, Option.map_some, leavesR, leavesR0, setT0, setT1, r9, p1, p2, k0, k1, k2, ga, go_sem, W_draw]
                · rcases tf (nmB a) with ga | ga
                  · rcases tf (M.contains (a, b)) with gX | gX
                    · obtain ⟨r9, hI⟩ := cM1 gX
                      obtain ⟨i, hi⟩ : ∃ i, M.idxOf (a, b) = i := ⟨_, rfl⟩
                      rw [hi] at r9 hI
                      have hE2 : M.erase (a, b) = M.take i ++ M.drop (i + 1) := by rw [List.erase_eq_eraseIdx_of_idxOf hi, List.eraseIdx_eq_take_drop_succ]
                      have er : errR E M k a b = 0 := by unfold errR; simp only [k0, k1, k2, gX, Bool.and_true, Bool.true_and, Bool.false_and, Bool.and_false, if_true, Bool.false_eq_true, if_false, Bool.or_true, Bool.true_or, Bool.or_false, Bool.false_or]
                      have ro : rosR n n2 E M k a b = .agg [edS n E, edS false (M.erase (a, b))] := by unfold rosR nxtE nxtM; rw [er]; simp only [k0, k1, k2, beq_self_eq_true, Bool.not_true, Bool.not_false, Bool.and_true, Bool.true_and, Bool.false_and, Bool.and_false, if_true, Bool.false_eq_true, if_false, Bool.or_true, Bool.true_or, Bool.or_false, Bool.false_or]
                      rw [er, ro]
                      rw [hE2]
                      have s1 := slc_ed0 n2 M hI
                      have s2 := slc_ed1 n2 M hI
                      simp +contextual (maxSteps := 10000000) only [r2, r3, r4, r6, r7, r11, g01, g3, g4, g1, g11, g12, g0, d1, st4, rd4, Option.map_some, leavesR, leavesR0, setT0, setT1, r9, k0, k1, k2, p1, p2, ga, dp2, s1, s2, wrap_natY i (by omega), go_sem, W_draw]
                      refine app_tk [] ((M.take i).map edD) ?_ (ed_fit _) rfl ?_ ?_ ?_
                      · simp
                      · simp; omega
                      · simp; omega
                      simp +contextual (maxSteps := 10000000) only [r2, r3, r4, r6, r7, r11, g01, g3, g4, g1, g11, g12, g0, d1, st4, rd4, Option.map_some, leavesR, leavesR0, setT0, setT1, r9, k0, k1, k2, p1, p2, ga, dp2, s1, s2, wrap_natY i (by omega), List.nil_append, List.length_nil, Nat.zero_add, go_sem, W_draw]
                      refine app_tk ((M.take i).map edD) ((M.drop (i + 1)).map edD) ?_ (ed_fit _) (ed_fit _) ?_ ?_ ?_
                      · simp
                      · simp; omega
                      · simp; omega
                      simp +contextual (maxSteps := 10000000) only [r2, r3, r4, r6, r7, r11, g01, g3, g4, g1, g11, g12, g0, d1, st4, rd4, Option.map_some, leavesR, leavesR0, setT0, setT1, r9, k0, k1, k2, p1, p2, ga, dp2, s1, s2, wrap_natY i (by omega), go_sem, W_draw]
                      rw [er_two]
                    · have r9 := cM0 gX
                      have er : errR E M k a b = 8 := by unfold errR; simp only [k0, k1, k2, gX, Bool.and_true, Bool.true_and, Bool.false_and, Bool.and_false, if_true, Bool.false_eq_true, if_false, Bool.or_true, Bool.true_or, Bool.or_false, Bool.false_or]
                      have ro : rosR n n2 E M k a b = .agg [edS n E, edS n2 M] := by unfold rosR; rw [er]; rfl
                      rw [er, ro]
                      simp +contextual (maxSteps := 10000000) only [r2, r3, r4, r6, r7, r11, g01, g3, g4, g1, g11, g12, g0, d1, st4, rd4, Option.map_some, leavesR, leavesR0, setT0, setT1, r9, r9, k0, k1, k2, p1, p2, ga, dn2, go_sem, W_draw]
                  · rcases tf (M.contains (a, b)) with gX | gX
                    · obtain ⟨r9, hI⟩ := cM1 gX
                      obtain ⟨i, hi⟩ : ∃ i, M.idxOf (a, b) = i := ⟨_, rfl⟩
                      rw [hi] at r9 hI
                      have hE2 : M.erase (a, b) = M.take i ++ M.drop (i + 1) := by rw [List.erase_eq_eraseIdx_of_idxOf hi, List.eraseIdx_eq_take_drop_succ]
                      have er : errR E M k a b = 0 := by unfold errR; simp only [k0, k1, k2, gX, Bool.and_true, Bool.true_and, Bool.false_and, Bool.and_false, if_true, Bool.false_eq_true, if_false, Bool.or_true, Bool.true_or, Bool.or_false, Bool.false_or]
                      have ro : rosR n n2 E M k a b = .agg [edS n E, edS false (M.erase (a, b))] := by unfold rosR nxtE nxtM; rw [er]; simp only [k0, k1, k2, beq_self_eq_true, Bool.not_true, Bool.not_false, Bool.and_true, Bool.true_and, Bool.false_and, Bool.and_false, if_true, Bool.false_eq_true, if_false, Bool.or_true, Bool.true_or, Bool.or_false, Bool.false_or]
                      rw [er, ro]
                      rw [hE2]
                      have s1 := slc_ed0 n2 M hI
                      have s2 := slc_ed1 n2 M hI
                      simp +contextual (maxSteps := 10000000) only [r2, r3, r4, r6, r7, r11, g01, g3, g4, g1, g11, g12, g0, d1, st4, rd4, Option.map_some, leavesR, leavesR0, setT0, setT1, r9, k0, k1, k2, p1, p2, ga, dp2, s1, s2, wrap_natY i (by omega), go_sem, W_draw]
                      refine app_tk [] ((M.take i).map edD) ?_ (ed_fit _) rfl ?_ ?_ ?_
                      · simp
                      · simp; omega
                      · simp; omega
                      simp +contextual (maxSteps := 10000000) only [r2, r3, r4, r6, r7, r11, g01, g3, g4, g1, g11, g12, g0, d1, st4, rd4, Option.map_some, leavesR, leavesR0, setT0, setT1, r9, k0, k1, k2, p1, p2, ga, dp2, s1, s2, wrap_natY i (by omega), List.nil_append, List.length_nil, Nat.zero_add, go_sem, W_draw]
                      refine app_tk ((M.take i).map edD) ((M.drop (i + 1)).map edD) ?_ (ed_fit _) (ed_fit _) ?_ ?_ ?_
                      · simp
                      · simp; omega
                      · simp; omega
                      simp +contextual (maxSteps := 10000000) only [r2, r3, r4, r6, r7, r11, g01, g3, g4, g1, g11, g12, g0, d1, st4, rd4, Option.map_some, leavesR, leavesR0, setT0, setT1, r9, k0, k1, k2, p1, p2, ga, dp2, s1, s2, wrap_natY i (by omega), go_sem, W_draw]
                      rw [er_two]
                    · have r9 := cM0 gX
                      have er : errR E M k a b = 8 := by unfold errR; simp only [k0, k1, k2, gX, Bool.and_true, Bool.true_and, Bool.false_and, Bool.and_false, if_true, Bool.false_eq_true, if_false, Bool.or_true, Bool.true_or, Bool.or_false, Bool.false_or]
                      have ro : rosR n n2 E M k a b = .agg [edS n E, edS n2 M] := by unfold rosR; rw [er]; rfl
                      rw [er, ro]
                      simp +contextual (maxSteps := 10000000) only [r2, r3, r4, r6, r7, r11, g01, g3, g4, g1, g11, g12, g0, d1, st4, rd4, Option.map_some, leavesR, leavesR0, setT0, setT1, r9, r9, k0, k1, k2, p1, p2, ga, dn2, go_sem, W_draw]
      · cases h
    · cases h
  · cases h
end GP
namespace GP
open Go
abbrev Nm := List UInt8 × List UInt8
def keyD (p : Nm) : D := .agg [.str p.1, .str p.2]
abbrev kSS : Bool × List Ck := (true, [.str, .str])
def okNm (p : Nm) : Prop := p.1.length < 2 ^ 62 ∧ p.2.length < 2 ^ 62
theorem kok_key {p : Nm} (h : okNm p) : kok kSS (keyD p) = true := by
  simp [kok, keyD, pu, pu1, cksD, ckD, h.1, h.2]
theorem keq_key (p q : Nm) : keq kSS (keyD p) (keyD q) = some (p == q) := by
  show (if cksD [D.str p.1, .str p.2] [.str, .str] = true then eqCells [D.str p.1, .str p.2] [.str q.1, .str q.2] else none) = some (p == q)
  rw [if_pos (by simp [cksD, ckD])]
  simp only [eqCells, eqCell]
  obtain ⟨a, b⟩ := p
  obtain ⟨c, d⟩ := q
  congr 1
  rw [Bool.eq_iff_iff]
  simp
structure MpS (ps : List Nm) (es : List (D × D × Nat)) (clk : Nat) : Prop where
  k : es.map (fun e => e.1) = ps.map keyD
  v : ∀ x ∈ es, ∃ n : Int, x.2.1 = .int .i64 n
  b : ∀ (i : Nat) e, es[i]? = some e → e.2.2 = i
  c : clk = es.length
theorem MpS.nil : MpS [] [] 0 := ⟨rfl, by simp, by simp, rfl⟩
theorem fnd_no {p : Nm} : ∀ {ps : List Nm} {es : List (D × D × Nat)} (i : Nat), es.map (fun e => e.1) = ps.map keyD → p ∉ ps → fnd kSS (keyD p) es i = some none
  | [], [], _, _, _ => rfl
  | [], _ :: _, _, h, _ => by simp at h
  | _ :: _, [], _, h, _ => by simp at h
  | q :: ps, (k, v, b) :: es, i, h, hp => by
    simp only [List.map_cons, List.cons.injEq] at h
    simp only [List.mem_cons, not_or] at hp
    have hk : k = keyD q := h.1
    have e : (p == q) = false := by simpa using hp.1
    simp only [fnd, hk, keq_key, e]
    exact fnd_no (i + 1) h.2 hp.2
theorem fnd_yes {p : Nm} : ∀ {ps : List Nm} {es : List (D × D × Nat)} (i : Nat), es.map (fun e => e.1) = ps.map keyD → p ∈ ps → ∃ j v b, fnd kSS (keyD p) es i = some (some (i + j, v, b)) ∧ es[j]? = some (keyD p, v, b)
  | [], _, _, _, h => by cases h
  | _ :: _, [], _, h, _ => by simp at h
  | q :: ps, (k, v, b) :: es, i, h, hp => by
    simp only [List.map_cons, List.cons.injEq] at h
    have hk : k = keyD q := h.1
    by_cases e : p = q
    · subst e
      refine ⟨0, v, b, ?_, by simp [hk]⟩
      simp only [fnd, hk, keq_key, beq_self_eq_true, Nat.add_zero]
    · have e' : (p == q) = false := by simpa using e
      have hp : p ∈ ps := by
        rcases List.mem_cons.1 hp with h | h
        · exact absurd h e
        · exact h
      obtain ⟨j, v', b', h1, h2⟩ := fnd_yes (i + 1) h.2 hp
      refine ⟨j + 1, v', b', ?_, by simpa using h2⟩
      simp only [fnd, hk, keq_key, e']
      rw [h1, show i + 1 + j = i + (j + 1) by omega]
theorem setSm {α : Type} {l : List α} {i : Nat} {x : α} (h : l[i]? = some x) : l.set i x = l := by
  apply List.ext_getElem?
  intro j
  by_cases e : i = j
  · subst e
    have : i < l.length := by
      rcases Nat.lt_or_ge i l.length with h' | h'
      · exact h'
      · rw [List.getElem?_eq_none h'] at h; cases h
    rw [List.getElem?_set_self this, h]
  · rw [List.getElem?_set_ne e]
theorem mentK_eq {ks : Bool × List Ck} {zv k : D} {K : D → S → Prop} {t : Nat → D} {B : Hp} {U : Tk} {o clk : Nat} {es : List (D × D × Nat)} (hk : kok ks k = true) (hz : pu zv = true) (ho : B[o]? = some (.map es clk)) {r : Option (Nat × D × Nat)} (hf : fnd ks k es 0 = some r)
    (h : match r with
      | some (i, v, b) => K (.tup [v, .int .i64 (b : Int)]) ⟨t, B.set o (.map (es.set i (k, v, b)) clk), U⟩
      | none => K (.tup [zv, .int .i64 (clk : Int)]) ⟨t, B.set o (.map (es ++ [(k, zv, clk)]) (clk + 1)), U⟩) : mentK ks zv K ⟨t, B, U⟩ (.mp o) k := by
  refine ⟨hk, hz, ?_⟩
  simp only [ho, hf]
  cases r with
  | none => exact h
  | some p => exact h
theorem mstK_eq {K : D → S → Prop} {t : Nat → D} {B : Hp} {U : Tk} {o clk i : Nat} {n : Int} {v : D} {e : D × D × Nat} {es : List (D × D × Nat)} (hv : pu v = true) (ho : B[o]? = some (.map es clk)) (hf : es.findIdx? (fun e => (e.2.2 : Int) == n) = some i) (he : es[i]? = some e)
    (h : K .top ⟨t, B.set o (.map (es.set i (e.1, v, e.2.2)) clk), U⟩) : mstK K ⟨t, B, U⟩ (.mp o) (.int .i64 n) v := by
  refine ⟨hv, ?_⟩
  simp only [ho, hf, he]
  exact h
theorem born_idx {es : List (D × D × Nat)} (hb : ∀ (i : Nat) e, es[i]? = some e → e.2.2 = i) {i : Nat} (hi : i < es.length) : es.findIdx? (fun e => (e.2.2 : Int) == (i : Int)) = some i := by
  rw [List.findIdx?_eq_some_iff_getElem]
  refine ⟨hi, ?_, fun j hj => ?_⟩
  · have := hb i _ (List.getElem?_eq_getElem hi)
    simp [this]
  · have hj' : j < es.length := by omega
    have := hb j _ (List.getElem?_eq_getElem hj')
    simp [this]; omega
theorem MpS.set {ps : List Nm} {es : List (D × D × Nat)} {clk i b : Nat} {k v : D} (h : MpS ps es clk) (he : es[i]? = some (k, v, b)) (n : Int) : MpS ps (es.set i (k, .int .i64 n, b)) clk := by
  refine ⟨?_, fun x hx => ?_, fun j e hj => ?_, by rw [List.length_set]; exact h.c⟩
  · rw [← h.k]
    apply List.ext_getElem?
    intro j
    simp only [List.getElem?_map]
    by_cases e : i = j
    · subst e
      have : i < es.length := by
        rcases Nat.lt_or_ge i es.length with h' | h'
        · exact h'
        · rw [List.getElem?_eq_none h'] at he; cases he
      rw [List.getElem?_set_self this, he]; rfl
    · rw [List.getElem?_set_ne e]
  · rcases List.mem_or_eq_of_mem_set hx with h' | rfl
    · exact h.v x h'
    · exact ⟨n, rfl⟩
  · by_cases e' : i = j
    · subst e'
      have : i < es.length := by
        rcases Nat.lt_or_ge i es.length with h' | h'
        · exact h'
        · rw [List.getElem?_eq_none h'] at he; cases he
      rw [List.getElem?_set_self this] at hj
      injection hj with hj; subst hj
      exact h.b i (k, v, b) he
    · rw [List.getElem?_set_ne e'] at hj
      exact h.b j e hj
theorem MpS.push {ps : List Nm} {es : List (D × D × Nat)} {clk : Nat} (h : MpS ps es clk) (p : Nm) (n : Int) : MpS (ps ++ [p]) (es ++ [(keyD p, .int .i64 n, clk)]) (clk + 1) := by
  refine ⟨by simp [h.k], fun x hx => ?_, fun j e hj => ?_, by simp [h.c]⟩
  · rcases List.mem_append.1 hx with h' | h'
    · exact h.v x h'
    · rw [List.mem_singleton] at h'; subst h'; exact ⟨n, rfl⟩
  · rcases Nat.lt_or_ge j es.length with h' | h'
    · rw [List.getElem?_append_left h'] at hj; exact h.b j e hj
    · rw [List.getElem?_append_right h'] at hj
      have hj' := h.c
      rcases Nat.eq_zero_or_pos (j - es.length) with h0 | h0
      · rw [h0] at hj
        simp only [List.getElem?_cons_zero, Option.some.injEq] at hj
        subst hj
        simp only; omega
      · rw [List.getElem?_eq_none (by simp; omega)] at hj; cases hj
theorem fnd_push {p : Nm} {v : D} {b : Nat} : ∀ {ps : List Nm} {es : List (D × D × Nat)} (i : Nat), es.map (fun e => e.1) = ps.map keyD → p ∉ ps → fnd kSS (keyD p) (es ++ [(keyD p, v, b)]) i = some (some (i + es.length, v, b))
  | [], [], i, _, _ => by simp [fnd, keq_key]
  | [], _ :: _, _, h, _ => by simp at h
  | _ :: _, [], _, h, _ => by simp at h
  | q :: ps, (k, v', b') :: es, i, h, hp => by
    simp only [List.map_cons, List.cons.injEq] at h
    simp only [List.mem_cons, not_or] at hp
    have hk : k = keyD q := h.1
    have e : (p == q) = false := by simpa using hp.1
    simp only [List.cons_append, fnd, hk, keq_key, e]
    rw [fnd_push (i + 1) h.2 hp.2, List.length_cons, show i + 1 + es.length = i + (es.length + 1) by omega]
theorem mget_eq {B : Hp} {o clk : Nat} {es : List (D × D × Nat)} {p : Nm} (ho : okNm p) (hB : B[o]? = some (.map es clk)) {r : Option (Nat × D × Nat)} (hf : fnd kSS (keyD p) es 0 = some r) :
    mgetD B (true, [.str, .str]) (.int .i64 0) false (.mp o) (.agg [.str p.1, .str p.2]) = some (match r with | some (_, v, _) => v | none => .int .i64 0) := by
  have h1 := kok_key ho
  have hf : fnd (true, [.str, .str]) (.agg [.str p.1, .str p.2]) es 0 = some r := hf
  have h1 : kok (true, [.str, .str]) (.agg [.str p.1, .str p.2]) = true := h1
  unfold mgetD
  rw [if_pos h1]
  simp only [entsD, hB, hf]
  cases r with
  | none => rfl
  | some x => rfl
theorem ext_set {H B : Hp} (h : Ext H B) {o : Nat} (ho : H.length ≤ o) (y : Ob) : Ext H (B.set o y) := by
  obtain ⟨L, rfl⟩ := h
  exact ⟨L.set (o - H.length) y, by rw [List.set_append_right _ _ ho]⟩
end GP
namespace GP
open Go Go.Proofs
set_option maxRecDepth 100000
variable [HasG Try.prog]
def pairsD : Nat → List D → Option (List Ed)
  | 0, _ => some []
  | n + 1, .str a :: .str b :: r => (pairsD n r).map ((a, b) :: ·)
  | _, _ => none
def flE (l : List Ed) : List D := (l.map fun e => [D.str e.1, D.str e.2]).flatten
theorem flE_len (l : List Ed) : (flE l).length = l.length * 2 := by
  induction l with
  | nil => rfl
  | cons e l ih => simp only [flE, List.map_cons, List.flatten_cons, List.length_append, List.length_cons, List.length_nil] at ih ⊢; omega
theorem flE_cons (e : Ed) (l : List Ed) : flE (e :: l) = .str e.1 :: .str e.2 :: flE l := rfl
theorem flE_app (l m : List Ed) : flE (l ++ m) = flE l ++ flE m := by simp [flE]
theorem pairsD_fl (l : List Ed) (X : List D) : pairsD l.length (flE l ++ X) = some l := by
  induction l with
  | nil => rfl
  | cons e l ih => simp only [List.length_cons, flE_cons, List.cons_append, pairsD, ih]; rfl
theorem pairsD_of : ∀ {n : Nat} {cs : List D} {l : List Ed}, pairsD n cs = some l → l.length = n ∧ ∃ X, cs = flE l ++ X
  | 0, cs, l, h => by simp [pairsD] at h; subst h; exact ⟨rfl, cs, rfl⟩
  | n + 1, cs, l, h => by
    unfold pairsD at h
    split at h
    · cases ‹n + 1 = 0›
    · rename_i m a b r e
      injection e with e; subst e
      rw [Option.map_eq_some_iff] at h
      obtain ⟨l', h1, rfl⟩ := h
      obtain ⟨h2, X, rfl⟩ := pairsD_of h1
      exact ⟨by simp [h2], X, rfl⟩
    · cases h
def edsM (H : Hp) : D → Option (List Ed)
  | .nils => some []
  | .ms true 2 o 0 n _ => match H[o]? with
    | some (.row cs) => pairsD n cs
    | _ => none
  | _ => none
theorem edsM_of {H : Hp} {d : D} {l : List Ed} (h : edsM H d = some l) : (d = .nils ∧ l = []) ∨ ∃ o cap X, d = .ms true 2 o 0 l.length cap ∧ H[o]? = some (.row (flE l ++ X)) := by
  unfold edsM at h
  split at h
  · injection h with h; exact .inl ⟨rfl, h.symm⟩
  · rename_i o n cap
    split at h
    · rename_i cs hcs
      obtain ⟨h1, X, rfl⟩ := pairsD_of h
      subst h1
      exact .inr ⟨o, cap, X, rfl, hcs⟩
    · cases h
  · cases h
theorem edsM_ms {H : Hp} {o cap : Nat} {l : List Ed} {X : List D} (h : H[o]? = some (.row (flE l ++ X))) : edsM H (.ms true 2 o 0 l.length cap) = some l := by
  simp only [edsM, h]; exact pairsD_fl l X
theorem edsM_mono {H H' : Hp} (hl : Hle H H') {d : D} {l : List Ed} (h : edsM H d = some l) : edsM H' d = some l := by
  rcases edsM_of h with ⟨rfl, rfl⟩ | ⟨o, cap, X, rfl, ho⟩
  · rfl
  · exact edsM_ms (hl o _ ho rfl)
theorem edsM_er {H : Hp} {d : D} {l : List Ed} (h : edsM H d = some l) : d.erase = d := by
  rcases edsM_of h with ⟨rfl, _⟩ | ⟨o, cap, X, rfl, _⟩ <;> rfl
theorem edsM_len {H : Hp} {d : D} {l : List Ed} (h : edsM H d = some l) : lenD d = some l.length := by
  rcases edsM_of h with ⟨rfl, rfl⟩ | ⟨o, cap, X, rfl, _⟩ <;> rfl
theorem flE_drop (l : List Ed) (i : Nat) (X : List D) (hi : i ≤ l.length) : (flE l ++ X).drop (i * 2) = flE (l.drop i) ++ X := by
  have e : flE l = flE (l.take i) ++ flE (l.drop i) := by rw [← flE_app, List.take_append_drop]
  rw [e, List.append_assoc, List.drop_left']
  rw [flE_len, List.length_take]; omega
theorem edsM_at {H : Hp} {d : D} {l : List Ed} (h : edsM H d = some l) {i : Nat} {e : Ed} (he : l[i]? = some e) (k : IntKind) : ∃ o, ia 2 d (.int k (i : Int)) = some (.ptr o (i * 2)) ∧ ∃ X, rdAt H (.ptr o (i * 2)) = some (.str e.1 :: .str e.2 :: X) := by
  have hi : i < l.length := by
    rcases Nat.lt_or_ge i l.length with h' | h'
    · exact h'
    · rw [List.getElem?_eq_none h'] at he; cases he
  rcases edsM_of h with ⟨rfl, rfl⟩ | ⟨o, cap, X, rfl, ho⟩
  · simp at hi
  · refine ⟨o, ?_, flE (l.drop (i + 1)) ++ X, ?_⟩
    · simp only [ia]
      rw [if_pos ⟨by omega, by omega, trivial⟩]; simp
    · have e1 : l.drop i = e :: l.drop (i + 1) := by
        rw [List.getElem?_eq_getElem hi] at he; injection he with he; rw [← he]; exact List.drop_eq_getElem_cons hi
      simp only [rdAt, ho]
      rw [flE_drop l i X (by omega), e1, flE_cons]; rfl
@[go_sem] theorem ld_two (a b : Sb) (X : List D) : ld true 2 (some (.str a :: .str b :: X)) = some (.agg [.str a, .str b]) := by simp [ld]
@[go_sem] theorem nilc_ptr (o f : Nat) : nilcD (.ptr o f) = some (.ptr o f) := id rfl
def idxE (l : List Ed) (e : Ed) : Int := if l.contains e then (l.idxOf e : Int) else -1
def φIdx (H : Hp) : List D → Option D
  | [d, .agg [.str a, .str b]] => match edsM H d with
    | some l => if l.length ≤ 2 ^ 40 then some (.int .i64 (idxE l (a, b))) else none
    | none => none
  | _ => none
theorem φIdx_mono : Mo φIdx := by
  intro H H' args r hl h
  unfold φIdx at h ⊢
  split at h
  · rename_i d a b
    split at h
    · rename_i l hL
      simp only [edsM_mono hl hL]; exact h
    · cases h
  · cases h
theorem idx_lt {l : List Ed} {e : Ed} {i : Nat} {x : Ed} (hx : l[i]? = some x) (hF : ∀ (j : Nat) y, j < i → l[j]? = some y → (e == y) = false) (h : (e == x) = true) : idxE l e = (i : Int) := by
  have hi : i < l.length := by
    rcases Nat.lt_or_ge i l.length with h' | h'
    · exact h'
    · rw [List.getElem?_eq_none h'] at hx; cases hx
  have h0 : e = x := by simpa using h
  subst h0
  have hm : e ∈ l := List.mem_of_getElem? hx
  unfold idxE
  rw [if_pos (by simpa using hm)]
  have h1 := List.idxOf_lt_length_of_mem hm
  have h2 : l[l.idxOf e] = e := List.getElem_idxOf h1
  rcases Nat.lt_trichotomy (l.idxOf e) i with h3 | h3 | h3
  · have := hF _ e h3 (by rw [List.getElem?_eq_getElem h1, h2])
    simp at this
  · rw [h3]
  · have := List.not_of_lt_findIdx (p := (· == e)) (xs := l) (i := i) (by simpa [List.idxOf] using h3)
    rw [List.getElem?_eq_getElem hi] at hx
    injection hx with hx
    simp [hx] at this
theorem idx_no {l : List Ed} {e : Ed} (hF : ∀ (j : Nat) y, j < l.length → l[j]? = some y → (e == y) = false) : idxE l e = -1 := by
  unfold idxE
  rw [if_neg]
  rw [List.contains_iff_mem]
  intro hm
  obtain ⟨j, hj, rfl⟩ := List.getElem_of_mem hm
  have := hF j _ hj (List.getElem?_eq_getElem hj)
  simp at this
theorem okIdxE {N : FuncId} (hf : Fn Try.prog N 19 [.inl 4] c110) : OkAtH Try.prog N φIdx := by
  refine okH_of (l := []) (m := []) .nil .nil hf fun H args r h => ?_
  unfold φIdx at h
  split at h
  · rename_i d a b
    split at h
    · rename_i l hL
      split at h
      · rename_i hl
        injection h with h; subst h
        refine ⟨by simp, by simp [D.cl], fun T => ?_⟩
        have hlen := edsM_len hL
        simp +contextual (maxSteps := 10000000) only [c110, hlen, go_sem, W_draw]
        refine W_for (fun i s' => s'.t 0 = d ∧ s'.t 3 = .ptr H.length 0 ∧ s'.t 6 = d ∧ s'.t 7 = .int .i64 (l.length : Int) ∧ s'.t 8 = .int .i64 (i : Int) ∧ s'.H = H ++ [.row [.str a, .str b]] ∧ s'.T = T ∧ i ≤ l.length ∧ ∀ (j : Nat) y, j < i → l[j]? = some y → ((a, b) == y) = false) l.length ⟨0, ?_⟩ (fun i s h => h.2.2.2.2.2.2.2.1) ?_ (XM_mono _ _)
        · simp [upd, argT, hlen]
        rintro i ⟨t, B, T'⟩ ⟨r0, r3, r6, r7, r8, rfl, rfl, hi, hF⟩
        simp only at r0 r3 r6 r7 r8
        have g3 : rdAt (H ++ [Ob.row [.str a, .str b]]) (.ptr H.length 0) = some [.str a, .str b] := by simp [rdAt]
        by_cases ha : i < l.length
        · have d1 : decide ((i : Int) < l.length) = true := by simpa using ha
          have e : l[i]? = some l[i] := by simp [ha]
          obtain ⟨x, hx⟩ : ∃ x, l[i] = x := ⟨_, rfl⟩
          rw [hx] at e
          have hL' := edsM_mono (H' := H ++ [Ob.row [.str a, .str b]]) (fun o x h _ => by
            rw [List.getElem?_append_left]; exact h
            rcases Nat.lt_or_ge o H.length with h' | h'
            · exact h'
            · rw [List.getElem?_eq_none h'] at h; cases h) hL
          obtain ⟨o, e1, X, e2⟩ := edsM_at hL' e .i64
          have q := eq_ed (a, b) x
          rcases tf ((a, b) == x) with g | g
          · rw [g] at q
            have hI := idx_lt e hF g
            simp +contextual (maxSteps := 10000000) only [r0, r3, r6, r7, r8, g3, d1, e1, e2, q, hI, wrap_natY i (by omega), go_sem, W_draw]
          · rw [g] at q
            have hF' : ∀ (j : Nat) y, j < i + 1 → l[j]? = some y → ((a, b) == y) = false := fun j y hj hy => by
              rcases Nat.lt_or_ge j i with h' | h'
              · exact hF j y h' hy
              · have : j = i := by omega
                subst this; rw [e] at hy; injection hy with hy; subst hy; exact g
            simp +contextual (maxSteps := 10000000) only [r0, r3, r6, r7, r8, g3, d1, e1, e2, q, wrap_natY i (by omega), go_sem, W_draw]
            exact ⟨by omega, hF'⟩
        · have d1 : decide ((i : Int) < l.length) = false := by simpa using ha
          have hI := idx_no (l := l) (e := (a, b)) fun j y hj hy => hF j y (by omega) hy
          simp +contextual (maxSteps := 10000000) only [r0, r3, r6, r7, r8, d1, hI, go_sem, W_draw]
      · cases h
    · cases h
  · cases h
theorem ok110 : OkAtH Try.prog 110 φIdx := okIdxE fn110
theorem ok113 : OkAtH Try.prog 113 φIdx := okIdxE fn113
end GP
namespace GP
open Go Go.Proofs
open Rd O
set_option maxRecDepth 100000
def c106m : C :=
  (.seq (.reg [⟨(some 2), none, .mv (k .nils)⟩])
  (.seq (.seq (.reg [⟨(some 3), none, .mv (t 0)⟩, ⟨(some 4), none, .eq1 .slc false (t 3) (k .nils)⟩])
  (.cond (t 4)
  (.seq (.reg [⟨(some 2), none, .mv (k .nils)⟩])
  .ret)
  .skip))
  (.seq (.reg [⟨(some 5), none, .bslm false 1 []⟩, ⟨(some 6), none, .mv (t 0)⟩, ⟨(some 7), none, .appm false false 1 16 (t 5) (t 6)⟩, ⟨(some 2), none, .mv (t 7)⟩])
  .ret)))
theorem fn106m : Fn Go.Proofs.Try.prog 106 8 [.inl 2] c106m :=
  ⟨⟨_, _, Go.Proofs.Try.func106, rfl, by kernel_rfl, Go.Proofs.Try.ntmps106, by kernel_rfl, ⟨fun f => ([] : List Nat).contains f, true, fun _ => false, false⟩, by kernel_rfl⟩⟩
end GP
namespace GP
open Go Go.Proofs
open Rd O
set_option maxRecDepth 100000
def cloneC (ag : Bool) (sz bytes : Nat) : C :=
  (.seq (.reg [⟨(some 2), none, .mv (k .nils)⟩])
  (.seq (.seq (.reg [⟨(some 3), none, .mv (t 0)⟩, ⟨(some 4), none, .eq1 .slc false (t 3) (k .nils)⟩])
  (.cond (t 4)
  (.seq (.reg [⟨(some 2), none, .mv (k .nils)⟩])
  .ret)
  .skip))
  (.seq (.reg [⟨(some 5), none, .bslm ag sz []⟩, ⟨(some 6), none, .mv (t 0)⟩, ⟨(some 7), none, .appm ag false sz bytes (t 5) (t 6)⟩, ⟨(some 2), none, .mv (t 7)⟩])
  .ret)))
section
variable {P : Program} [HasG P] {N : FuncId} {ag : Bool} {sz bytes : Nat}
theorem clone_nils (hf : Fn P N 8 [.inl 2] (cloneC ag sz bytes)) {H : Hp} {T : Tk} {Q : Post} (k : Q .nils H T) : Snd P N [.nils] H T Q := by
  refine call_of hf (by simp) (W_mono (X := XL []) (Ok.X .nil) (fun _ _ h => h) ?_)
  have e1 : Option.map (fun b => D.bool b) (eq1D Tq.slc .nils D.nils) = some (.bool true) := rfl
  simp +contextual (maxSteps := 10000000) only [cloneC, e1, go_sem, W_draw]
  exact k
theorem clone_some (hf : Fn P N 8 [.inl 2] (cloneC ag sz bytes)) {d : D} {ys : List D} {H : Hp} {T : Tk} {Q : Post} (hn : eq1D .slc d .nils = some false) (hs : ∀ L, appSrcM (H ++ L) false sz d = some ys) (hfit : ys.all (fit sz) = true) (hb : ys.length * bytes ≤ 2 ^ 47) (hl : ys.length < 2 ^ 62)
    (k : ∀ L o, H.length ≤ o → (H ++ L)[o]? = some (.row (flatD ys)) → Q (.ms ag sz o 0 ys.length ys.length) (H ++ L) T) : Snd P N [d] H T Q := by
  refine call_of hf (by simp) (W_mono (X := XL []) (Ok.X .nil) (fun _ _ h => h) ?_)
  have e1 : Option.map (fun b => D.bool b) (eq1D Tq.slc d D.nils) = some (.bool false) := by rw [hn]; rfl
  simp +contextual (maxSteps := 10000000) only [cloneC, e1, hs, go_sem, W_draw]
  have ho : (H ++ [Ob.row (flatD [])])[H.length]? = some (.row []) := by simp [flatD]
  simp only [appmK, ho]
  refine ⟨hfit, trivial, ?_⟩
  split
  · rename_i h0
    have h0 : ys = [] := List.eq_nil_of_length_eq_zero (by simpa using h0)
    subst h0
    refine ⟨by simp, ?_⟩
    simp +contextual (maxSteps := 10000000) only [go_sem, W_draw]
    have := k [.row []] H.length (Nat.le_refl _) (by simp [flatD])
    simpa [flatD] using this
  · rename_i h0
    refine ⟨trivial, by simp, by simpa using hb, by simpa using hl, ?_⟩
    simp +contextual (maxSteps := 10000000) only [go_sem, W_draw]
    have := k [.dead, .row (flatD ys)] (H.length + 1) (by omega) (by simp)
    simpa [flatD, List.set_append] using this
end
variable [HasG Try.prog]
theorem flat_ed (l : List Ed) : flatD (l.map edD) = flE l := by simp [flatD, flE, Function.comp_def, edD, D.cells]
theorem chunk_fl (l : List Ed) (X : List D) : chunk true 2 l.length (flE l ++ X) = l.map edD := by
  rw [← flat_ed, ← List.length_map (f := edD)]
  exact chunk_flat _ _ fun x hx => by obtain ⟨e, _, rfl⟩ := List.mem_map.1 hx; exact ⟨_, rfl, rfl⟩
theorem fn106c : Fn Try.prog 106 8 [.inl 2] (cloneC false 1 16) := fn106m
end GP
namespace GP
open Go Go.Proofs
set_option maxRecDepth 100000
variable [HasG Try.prog]
theorem delE_snd {N : FuncId} (hf : Fn Try.prog N 33 [.inl 6] c111) {l : List Ed} {X : List D} {o cap i : Nat} {H : Hp} {T : Tk} {Q : Post} (ho : H[o]? = some (.row (flE l ++ X))) (hcap : (flE l ++ X).length = cap * 2) (hl : l.length ≤ 2 ^ 40) (hi : i < l.length)
    (k : Q (.ms true 2 o 0 (l.length - 1) cap) (H.set o (.row (flE (l.take i ++ l.drop (i + 1)) ++ (.str [] :: .str [] :: X)))) T) : Snd Try.prog N [.ms true 2 o 0 l.length cap, .int .i64 (i : Int), .int .i64 ((i + 1 : Nat) : Int)] H T Q := by
  refine call_of hf (by simp) (W_mono (X := XL []) (Ok.X .nil) (fun _ _ h => h) ?_)
  have hlo : o < H.length := by
    rcases Nat.lt_or_ge o H.length with h' | h'
    · exact h'
    · rw [List.getElem?_eq_none h'] at ho; cases ho
  rw [List.length_append, flE_len] at hcap
  have hc : l.length ≤ cap := by omega
  obtain ⟨n, hn⟩ : ∃ n, l.length = n := ⟨_, rfl⟩
  have s3 : slc3 2 (some (i : Int)) (some ((i + 1 : Nat) : Int)) (some (n : Int)) (.ms true 2 o 0 n cap) = some (.ms true 2 o (0 + i * 2) 1 (n - i)) := by
    simp only [slc3]
    rw [if_neg (by omega), if_pos ⟨by omega, by omega, by omega, by omega, by omega, trivial⟩]
    have e1 : (((i + 1 : Nat) : Int) - (i : Int)).toNat = 1 := by omega
    have e2 : ((n : Int) - (i : Int)).toNat = n - i := by omega
    rw [e1, e2]; simp
  have s1 : slc 2 (some 0) (some (i : Int)) (.ms true 2 o 0 n cap) = some (.ms true 2 o 0 i cap) := by
    simp only [slc]
    rw [if_pos ⟨by omega, by omega, by omega, by omega, trivial⟩]
    simp
  have src : ∃ d2, slc 2 (some ((i + 1 : Nat) : Int)) (some (n : Int)) (.ms true 2 o 0 n cap) = some d2 ∧ appSrcM H false 2 d2 = some ((l.drop (i + 1)).map edD) := by
    by_cases h : i + 1 < cap
    · refine ⟨.ms true 2 o ((i + 1) * 2) (n - (i + 1)) (cap - (i + 1)), ?_, ?_⟩
      · simp only [slc]
        rw [if_pos ⟨by omega, by omega, by omega, by omega, trivial⟩]
        simp; omega
      · simp only [appSrcM, ho]
        rw [if_pos ⟨trivial, trivial, by rw [List.length_append, flE_len]; omega, by simp⟩, flE_drop l (i + 1) X (by omega)]
        have : n - (i + 1) = (l.drop (i + 1)).length := by simp [hn]
        rw [this, chunk_fl]
    · have e : l.drop (i + 1) = [] := List.drop_eq_nil_of_le (by omega)
      refine ⟨.sl none [], ?_, by rw [e]; rfl⟩
      simp only [slc]
      rw [if_neg (by omega), if_pos ⟨by omega, by omega, by omega, by omega⟩]
  obtain ⟨d2, s2, src⟩ := src
  have d1 : ((i : Int) == ((i + 1 : Nat) : Int)) = false := by rw [beq_eq_false_iff_ne]; omega
  obtain ⟨R, hR⟩ : ∃ R, flE l ++ X = R := ⟨_, rfl⟩
  have hRl : R.length = cap * 2 := by rw [← hR, List.length_append, flE_len]; exact hcap
  rw [hR] at ho
  have hnew : R.take (0 + i * 2) ++ flatD ((l.drop (i + 1)).map edD) ++ R.drop (0 + (i + ((l.drop (i + 1)).map edD).length) * 2) = flE (l.take i ++ l.drop (i + 1)) ++ (R.drop ((n - 1) * 2)) := by
    rw [flat_ed, flE_app, ← hR]
    congr 1
    · congr 1
      have e : flE l = flE (l.take i) ++ flE (l.drop i) := by rw [← flE_app, List.take_append_drop]
      rw [e, List.append_assoc, List.take_left']
      rw [flE_len, List.length_take]; omega
    · congr 1; simp; omega
  have hRd : R.drop (n * 2) = X := by
    rw [← hR]; exact List.drop_left' (by rw [flE_len, hn])
  obtain ⟨R2, hR2⟩ : ∃ R2, flE (l.take i ++ l.drop (i + 1)) ++ (R.drop ((n - 1) * 2)) = R2 := ⟨_, rfl⟩
  have hl2 : (flE (l.take i ++ l.drop (i + 1))).length = (n - 1) * 2 := by rw [flE_len]; simp; omega
  have hfin : R2.take ((n - 1) * 2) ++ ([.str [], .str []] ++ R2.drop ((n - 1) * 2 + 2)) = flE (l.take i ++ l.drop (i + 1)) ++ (.str [] :: .str [] :: X) := by
    obtain ⟨F, hF⟩ : ∃ F, flE (l.take i ++ l.drop (i + 1)) = F := ⟨_, rfl⟩
    rw [hF] at hl2 hR2 ⊢
    have e3 : (F ++ R.drop ((n - 1) * 2)).drop ((n - 1) * 2 + 2) = X := by
      rw [← List.drop_drop, List.drop_left' hl2, List.drop_drop, show (n - 1) * 2 + 2 = n * 2 by omega, hRd]
    rw [← hR2, e3, List.take_left' hl2]
    rfl
  have s4 : slc 2 (some (((n - 1 : Nat) : Int))) (some (n : Int)) (.ms true 2 o 0 (n - 1) cap) = some (.ms true 2 o (0 + (n - 1) * 2) 1 (cap - (n - 1))) := by
    simp only [slc]
    rw [if_neg (by omega), if_neg (by omega), if_pos ⟨by omega, by omega, by omega, by omega, trivial⟩]
    simp; omega
  rw [hn]
  simp +contextual (maxSteps := 10000000) only [c111, s3, s1, s2, src, d1, go_sem, W_draw]
  have hlen : i + ((l.drop (i + 1)).map edD).length = n - 1 := by simp; omega
  refine ⟨ed_fit _, ?_⟩
  simp only [ho]
  refine ⟨trivial, ?_⟩
  rw [if_pos (by omega)]
  refine ⟨by omega, ?_⟩
  rw [hnew, hR2, hlen]
  have ho2 : (H.set o (Ob.row R2))[o]? = some (.row R2) := by simp [hlo]
  simp +contextual (maxSteps := 10000000) only [s4, go_sem, W_draw]
  simp only [clrK, ho2]
  refine ⟨rfl, ?_, ?_⟩
  · rw [← hR2, List.length_append, hl2, List.length_drop, hRl]; omega
  · simp +contextual (maxSteps := 10000000) only [go_sem, W_draw]
    rw [hn] at k
    have e1 : (List.replicate 1 [D.str [], D.str []]).flatten = [.str [], .str []] := rfl
    rw [e1, hfin, List.set_set]
    exact k
end GP
namespace Go.Proofs
open Go.Shelf Go.RowKit Go.Lib Go.Sort
shelf_lay Lays.n190 Nm 190 at Try as Try.sortT
shelf_lay Lays.n194 Nm 194 at Try as Try.compactT
end Go.Proofs
namespace GP
open Go Go.Proofs Go.Sort
set_option maxRecDepth 100000
variable [HasG Try.prog]
theorem e107 : ∀ args w, (callFunc 107 args).run Try.prog w = .ok (.enter 107 args) w := enters_of Try.func107 (by kernel_rfl) rfl
theorem e73 : ∀ args w, (callFunc 73 args).run Try.prog w = .ok (.enter 73 args) w := enters_of Try.func73 (by kernel_rfl) rfl
theorem f107 : Try.sortT_ren.f 190 = 107 := by first | rfl | kernel_rfl
theorem f73 : Try.compactT_ren.f 194 = 73 := by first | rfl | kernel_rfl
theorem sort_snd107 {H : Hp} {o cap : Nat} {l : List Sb} {T : Tk} {Q : Post} (ho : H[o]? = some (.row (l.map D.str))) (hn : l.length < 2 ^ 62) (hQ : Q (.tup []) (H.set o (.row ((sortS l).map D.str))) T) : Snd Try.prog 107 [.ms false 1 o 0 l.length cap] H T Q := by
  have := sorts_snd (P := Try.prog) Try.sortT f107 e107 (H := H) (o := o) (off := 0) (cap := cap) (A := []) (B := []) (l := l) (T := T) (Q := Q) (by simpa using ho) rfl hn (by simpa using hQ)
  exact this
theorem compact_snd73 {H : Hp} {o cap : Nat} {l : List Sb} {T : Tk} {Q : Post} (ho : H[o]? = some (.row (l.map D.str))) (hn : l.length < 2 ^ 62) (hQ : Q (.ms false 1 o 0 (Lib.compact l).length cap) (H.set o (.row ((padS l).map D.str))) T) : Snd Try.prog 73 [.ms false 1 o 0 l.length cap] H T Q := by
  have := compacts_snd (P := Try.prog) Try.compactT f73 e73 (H := H) (o := o) (off := 0) (cap := cap) (A := []) (B := []) (l := l) (T := T) (Q := Q) (Lib.compact_length_le l) (fun s hs => (cm_mem l s).1 hs) (by simpa using ho) rfl hn (by simpa using hQ)
  exact this
theorem nil_snd {f : FuncId} {r : D} (ef : ∀ args w, (callFunc f args).run Try.prog w = .ok (.enter f args) w) {v : Value} (h : ∀ w, Calls Try.prog f #[.slice none 0 0] w fun e w' => e = .returned v ∧ w' = w) (hr : ∀ c, Rep c r v) {H : Hp} {T : Tk} {Q : Post} (hQ : Q r H T) : Snd Try.prog f [.nils] H T Q := by
  intro c w vs hg k1 k2 k3
  match vs, k3.len with
  | [u], _ =>
    have h1 := k3.rep 0 (by simp) (by simp)
    simp only [List.getElem_cons_zero] at h1
    cases h1
    refine .inl ⟨ef _ _, (h w).mono ?_⟩
    rintro e w' ⟨rfl, rfl⟩
    exact ⟨_, rfl, r, H, T, c, hQ, hr c, k1, Cx.le.refl c, k2, Below.refl _ _⟩
theorem sort_nil107 {H : Hp} {T : Tk} {Q : Post} (hQ : Q (.tup []) H T) : Snd Try.prog 107 [.nils] H T Q :=
  nil_snd e107 (v := .tuple #[]) (fun w => by
    have := Any.slices_Sort_string_none Try.sortT none 0 w
    rw [f107] at this
    exact this.mono fun e w' h => h) (fun c => .tup [] [] rfl fun i h => absurd h (by simp)) hQ
theorem compact_nil73 {H : Hp} {T : Tk} {Q : Post} (hQ : Q .nils H T) : Snd Try.prog 73 [.nils] H T Q :=
  nil_snd e73 (v := .slice none 0 0) (fun w => by
    have := Any.slices_Compact_string_empty Try.compactT none 0 w
    rw [f73] at this
    exact this.mono fun e w' h => h) (fun c => .nils) hQ
end GP
