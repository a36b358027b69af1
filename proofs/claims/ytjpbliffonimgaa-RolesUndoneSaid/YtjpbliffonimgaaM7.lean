import Derived.Ground.NamesProg
import Derived.Lib.RowBridge
import Derived.Shelf.Lay
import Derived.Shelf.Slices.In.SortNone
import Derived.Test.YtjpbliffonimgaaM6
set_option linter.unusedSimpArgs false
set_option linter.unnecessarySimpa false
set_option linter.unusedSectionVars false
namespace GP
open Go Go.Proofs
open Rd O
set_option maxRecDepth 100000
def cloneC (ag : Bool) (sz bytes : Nat) : C :=
  (.seq (.reg [⟨(some 2), none, .mv (k .nils)⟩])
  (.seq (.seq (.reg [⟨(some 3), none, .mv (t 0)⟩, ⟨(some 4), none, .eq1 .slc false (t 3) (k .nils)⟩])
  (.cond (t 4)
  (.seq (.reg [⟨(some 2), none, .mv (k .nils)⟩])
  .ret)
  .skip))
  (.seq (.reg [⟨(some 5), none, .bslm ag sz []⟩, ⟨(some 6), none, .mv (t 0)⟩, ⟨(some 7), none, .appm ag false sz bytes (t 5) (t 6)⟩, ⟨(some 2), none, .mv (t 7)⟩])
  .ret)))
section
variable {P : Program} [HasG P] {N : FuncId} {ag : Bool} {sz bytes : Nat}
theorem clone_nils (hf : Fn P N 8 [.inl 2] (cloneC ag sz bytes)) {H : Hp} {T : Tk} {Q : Post} (k : Q .nils H T) : Snd P N [.nils] H T Q := by
  refine call_of hf (by simp) (W_mono (X := XL []) (Ok.X .nil) (fun _ _ h => h) ?_)
  have e1 : Option.map (fun b => D.bool b) (eq1D Tq.slc .nils D.nils) = some (.bool true) := rfl
  simp +contextual (maxSteps := 10000000) only [cloneC, e1, go_sem, W_draw]
  exact k
theorem clone_some (hf : Fn P N 8 [.inl 2] (cloneC ag sz bytes)) {d : D} {ys : List D} {H : Hp} {T : Tk} {Q : Post} (hn : eq1D .slc d .nils = some false) (hs : ∀ L, appSrcM (H ++ L) false sz d = some ys) (hfit : ys.all (fit sz) = true) (hb : ys.length * bytes ≤ 2 ^ 47) (hl : ys.length < 2 ^ 62)
    (k : ∀ L o, H.length ≤ o → (H ++ L)[o]? = some (.row (flatD ys)) → Q (.ms ag sz o 0 ys.length ys.length) (H ++ L) T) : Snd P N [d] H T Q := by
  refine call_of hf (by simp) (W_mono (X := XL []) (Ok.X .nil) (fun _ _ h => h) ?_)
  have e1 : Option.map (fun b => D.bool b) (eq1D Tq.slc d D.nils) = some (.bool false) := by rw [hn]; rfl
  simp +contextual (maxSteps := 10000000) only [cloneC, e1, hs, go_sem, W_draw]
  have ho : (H ++ [Ob.row (flatD [])])[H.length]? = some (.row []) := by simp [flatD]
  simp only [appmK, ho]
  refine ⟨hfit, trivial, ?_⟩
  split
  · rename_i h0
    have h0 : ys = [] := List.eq_nil_of_length_eq_zero (by simpa using h0)
    subst h0
    refine ⟨by simp, ?_⟩
    simp +contextual (maxSteps := 10000000) only [go_sem, W_draw]
    have := k [.row []] H.length (Nat.le_refl _) (by simp [flatD])
    simpa [flatD] using this
  · rename_i h0
    refine ⟨trivial, by simp, by simpa using hb, by simpa using hl, ?_⟩
    simp +contextual (maxSteps := 10000000) only [go_sem, W_draw]
    have := k [.dead, .row (flatD ys)] (H.length + 1) (by omega) (by simp)
    simpa [flatD, List.set_append] using this
end
variable [HasG Try.prog]
theorem flat_ed (l : List Ed) : flatD (l.map edD) = flE l := by simp [flatD, flE, Function.comp_def, edD, D.cells]
theorem chunk_fl (l : List Ed) (X : List D) : chunk true 2 l.length (flE l ++ X) = l.map edD := by
  rw [← flat_ed, ← List.length_map (f := edD)]
  exact chunk_flat _ _ fun x hx => by obtain ⟨e, _, rfl⟩ := List.mem_map.1 hx; exact ⟨_, rfl, rfl⟩
theorem edsM_src {H : Hp} {d : D} {l : List Ed} (h : edsM H d = some l) (L : Hp) : appSrcM (H ++ L) false 2 d = some (l.map edD) := by
  rcases edsM_of h with ⟨rfl, rfl⟩ | ⟨o, cap, X, rfl, ho⟩
  · rfl
  · have ho' : (H ++ L)[o]? = some (.row (flE l ++ X)) := (Ext.of H L).get ho
    simp only [appSrcM, ho', List.drop_zero]
    rw [if_pos ⟨trivial, trivial, by rw [List.length_append, flE_len]; omega, by simp⟩, chunk_fl]
theorem cloneE_snd {N : FuncId} (hf : Fn Try.prog N 8 [.inl 2] (cloneC true 2 32)) {d : D} {l : List Ed} {H : Hp} {T : Tk} {Q : Post} (h : edsM H d = some l) (hl : l.length ≤ 2 ^ 40) (hn : d = .nils → Q .nils H T)
    (k : ∀ L o, H.length ≤ o → (H ++ L)[o]? = some (.row (flE l)) → Q (.ms true 2 o 0 l.length l.length) (H ++ L) T) : Snd Try.prog N [d] H T Q := by
  rcases edsM_of h with ⟨rfl, rfl⟩ | ⟨o, cap, X, rfl, ho⟩
  · exact clone_nils hf (hn rfl)
  · refine clone_some hf rfl (edsM_src h) (ed_fit l) (by simp; omega) (by simp; omega) fun L o h1 h2 => ?_
    rw [flat_ed] at h2
    simpa using k L o h1 h2
theorem fn72c : Fn Try.prog 72 8 [.inl 2] (cloneC true 2 32) := fn72m
theorem fn80c : Fn Try.prog 80 8 [.inl 2] (cloneC true 2 32) := fn80m
theorem fn106c : Fn Try.prog 106 8 [.inl 2] (cloneC false 1 16) := fn106m
end GP
namespace GP
open Go Go.Proofs
set_option maxRecDepth 100000
variable [HasG Try.prog]
theorem delE_snd {N : FuncId} (hf : Fn Try.prog N 33 [.inl 6] c111) {l : List Ed} {X : List D} {o cap i : Nat} {H : Hp} {T : Tk} {Q : Post} (ho : H[o]? = some (.row (flE l ++ X))) (hcap : (flE l ++ X).length = cap * 2) (hl : l.length ≤ 2 ^ 40) (hi : i < l.length)
    (k : Q (.ms true 2 o 0 (l.length - 1) cap) (H.set o (.row (flE (l.take i ++ l.drop (i + 1)) ++ (.str [] :: .str [] :: X)))) T) : Snd Try.prog N [.ms true 2 o 0 l.length cap, .int .i64 (i : Int), .int .i64 ((i + 1 : Nat) : Int)] H T Q := by
  refine call_of hf (by simp) (W_mono (X := XL []) (Ok.X .nil) (fun _ _ h => h) ?_)
  have hlo : o < H.length := by
    rcases Nat.lt_or_ge o H.length with h' | h'
    · exact h'
    · rw [List.getElem?_eq_none h'] at ho; cases ho
  rw [List.length_append, flE_len] at hcap
  have hc : l.length ≤ cap := by omega
  obtain ⟨n, hn⟩ : ∃ n, l.length = n := ⟨_, rfl⟩
  have s3 : slc3 2 (some (i : Int)) (some ((i + 1 : Nat) : Int)) (some (n : Int)) (.ms true 2 o 0 n cap) = some (.ms true 2 o (0 + i * 2) 1 (n - i)) := by
    simp only [slc3]
    rw [if_neg (by omega), if_pos ⟨by omega, by omega, by omega, by omega, by omega, trivial⟩]
    have e1 : (((i + 1 : Nat) : Int) - (i : Int)).toNat = 1 := by omega
    have e2 : ((n : Int) - (i : Int)).toNat = n - i := by omega
    rw [e1, e2]; simp
  have s1 : slc 2 (some 0) (some (i : Int)) (.ms true 2 o 0 n cap) = some (.ms true 2 o 0 i cap) := by
    simp only [slc]
    rw [if_pos ⟨by omega, by omega, by omega, by omega, trivial⟩]
    simp
  have src : ∃ d2, slc 2 (some ((i + 1 : Nat) : Int)) (some (n : Int)) (.ms true 2 o 0 n cap) = some d2 ∧ appSrcM H false 2 d2 = some ((l.drop (i + 1)).map edD) := by
    by_cases h : i + 1 < cap
    · refine ⟨.ms true 2 o ((i + 1) * 2) (n - (i + 1)) (cap - (i + 1)), ?_, ?_⟩
      · simp only [slc]
        rw [if_pos ⟨by omega, by omega, by omega, by omega, trivial⟩]
        simp; omega
      · simp only [appSrcM, ho]
        rw [if_pos ⟨trivial, trivial, by rw [List.length_append, flE_len]; omega, by simp⟩, flE_drop l (i + 1) X (by omega)]
        have : n - (i + 1) = (l.drop (i + 1)).length := by simp [hn]
        rw [this, chunk_fl]
    · have e : l.drop (i + 1) = [] := List.drop_eq_nil_of_le (by omega)
      refine ⟨.sl none [], ?_, by rw [e]; rfl⟩
      simp only [slc]
      rw [if_neg (by omega), if_pos ⟨by omega, by omega, by omega, by omega⟩]
  obtain ⟨d2, s2, src⟩ := src
  have d1 : ((i : Int) == ((i + 1 : Nat) : Int)) = false := by rw [beq_eq_false_iff_ne]; omega
  obtain ⟨R, hR⟩ : ∃ R, flE l ++ X = R := ⟨_, rfl⟩
  have hRl : R.length = cap * 2 := by rw [← hR, List.length_append, flE_len]; exact hcap
  rw [hR] at ho
  have hnew : R.take (0 + i * 2) ++ flatD ((l.drop (i + 1)).map edD) ++ R.drop (0 + (i + ((l.drop (i + 1)).map edD).length) * 2) = flE (l.take i ++ l.drop (i + 1)) ++ (R.drop ((n - 1) * 2)) := by
    rw [flat_ed, flE_app, ← hR]
    congr 1
    · congr 1
      have e : flE l = flE (l.take i) ++ flE (l.drop i) := by rw [← flE_app, List.take_append_drop]
      rw [e, List.append_assoc, List.take_left']
      rw [flE_len, List.length_take]; omega
    · congr 1; simp; omega
  have hRd : R.drop (n * 2) = X := by
    rw [← hR]; exact List.drop_left' (by rw [flE_len, hn])
  obtain ⟨R2, hR2⟩ : ∃ R2, flE (l.take i ++ l.drop (i + 1)) ++ (R.drop ((n - 1) * 2)) = R2 := ⟨_, rfl⟩
  have hl2 : (flE (l.take i ++ l.drop (i + 1))).length = (n - 1) * 2 := by rw [flE_len]; simp; omega
  have hfin : R2.take ((n - 1) * 2) ++ ([.str [], .str []] ++ R2.drop ((n - 1) * 2 + 2)) = flE (l.take i ++ l.drop (i + 1)) ++ (.str [] :: .str [] :: X) := by
    obtain ⟨F, hF⟩ : ∃ F, flE (l.take i ++ l.drop (i + 1)) = F := ⟨_, rfl⟩
    rw [hF] at hl2 hR2 ⊢
    have e3 : (F ++ R.drop ((n - 1) * 2)).drop ((n - 1) * 2 + 2) = X := by
      rw [← List.drop_drop, List.drop_left' hl2, List.drop_drop, show (n - 1) * 2 + 2 = n * 2 by omega, hRd]
    rw [← hR2, e3, List.take_left' hl2]
    rfl
  have s4 : slc 2 (some (((n - 1 : Nat) : Int))) (some (n : Int)) (.ms true 2 o 0 (n - 1) cap) = some (.ms true 2 o (0 + (n - 1) * 2) 1 (cap - (n - 1))) := by
    simp only [slc]
    rw [if_neg (by omega), if_neg (by omega), if_pos ⟨by omega, by omega, by omega, by omega, trivial⟩]
    simp; omega
  rw [hn]
  simp +contextual (maxSteps := 10000000) only [c111, s3, s1, s2, src, d1, go_sem, W_draw]
  have hlen : i + ((l.drop (i + 1)).map edD).length = n - 1 := by simp; omega
  refine ⟨ed_fit _, ?_⟩
  simp only [ho]
  refine ⟨trivial, ?_⟩
  rw [if_pos (by omega)]
  refine ⟨by omega, ?_⟩
  rw [hnew, hR2, hlen]
  have ho2 : (H.set o (Ob.row R2))[o]? = some (.row R2) := by simp [hlo]
  simp +contextual (maxSteps := 10000000) only [s4, go_sem, W_draw]
  simp only [clrK, ho2]
  refine ⟨rfl, ?_, ?_⟩
  · rw [← hR2, List.length_append, hl2, List.length_drop, hRl]; omega
  · simp +contextual (maxSteps := 10000000) only [go_sem, W_draw]
    rw [hn] at k
    have e1 : (List.replicate 1 [D.str [], D.str []]).flatten = [.str [], .str []] := rfl
    rw [e1, hfin, List.set_set]
    exact k
end GP
namespace Go.Proofs
open Go.Shelf Go.RowKit Go.Lib Go.Sort
shelf_lay Lays.n190 Nm 190 at Try as Try.sortT
shelf_lay Lays.n194 Nm 194 at Try as Try.compactT
end Go.Proofs
namespace GP
open Go Go.Proofs Go.Sort
set_option maxRecDepth 100000
variable [HasG Try.prog]
theorem e107 : ∀ args w, (callFunc 107 args).run Try.prog w = .ok (.enter 107 args) w := enters_of Try.func107 (by kernel_rfl) rfl
theorem e73 : ∀ args w, (callFunc 73 args).run Try.prog w = .ok (.enter 73 args) w := enters_of Try.func73 (by kernel_rfl) rfl
theorem f107 : Try.sortT_ren.f 190 = 107 := by first | rfl | kernel_rfl
theorem f73 : Try.compactT_ren.f 194 = 73 := by first | rfl | kernel_rfl
theorem sort_snd107 {H : Hp} {o cap : Nat} {l : List Sb} {T : Tk} {Q : Post} (ho : H[o]? = some (.row (l.map D.str))) (hn : l.length < 2 ^ 62) (hQ : Q (.tup []) (H.set o (.row ((sortS l).map D.str))) T) : Snd Try.prog 107 [.ms false 1 o 0 l.length cap] H T Q := by
  have := sorts_snd (P := Try.prog) Try.sortT f107 e107 (H := H) (o := o) (off := 0) (cap := cap) (A := []) (B := []) (l := l) (T := T) (Q := Q) (by simpa using ho) rfl hn (by simpa using hQ)
  exact this
theorem compact_snd73 {H : Hp} {o cap : Nat} {l : List Sb} {T : Tk} {Q : Post} (ho : H[o]? = some (.row (l.map D.str))) (hn : l.length < 2 ^ 62) (hQ : Q (.ms false 1 o 0 (Lib.compact l).length cap) (H.set o (.row ((padS l).map D.str))) T) : Snd Try.prog 73 [.ms false 1 o 0 l.length cap] H T Q := by
  have := compacts_snd (P := Try.prog) Try.compactT f73 e73 (H := H) (o := o) (off := 0) (cap := cap) (A := []) (B := []) (l := l) (T := T) (Q := Q) (Lib.compact_length_le l) (fun s hs => (cm_mem l s).1 hs) (by simpa using ho) rfl hn (by simpa using hQ)
  exact this
theorem nil_snd {f : FuncId} {r : D} (ef : ∀ args w, (callFunc f args).run Try.prog w = .ok (.enter f args) w) {v : Value} (h : ∀ w, Calls Try.prog f #[.slice none 0 0] w fun e w' => e = .returned v ∧ w' = w) (hr : ∀ c, Rep c r v) {H : Hp} {T : Tk} {Q : Post} (hQ : Q r H T) : Snd Try.prog f [.nils] H T Q := by
  intro c w vs hg k1 k2 k3
  match vs, k3.len with
  | [u], _ =>
    have h1 := k3.rep 0 (by simp) (by simp)
    simp only [List.getElem_cons_zero] at h1
    cases h1
    refine .inl ⟨ef _ _, (h w).mono ?_⟩
    rintro e w' ⟨rfl, rfl⟩
    exact ⟨_, rfl, r, H, T, c, hQ, hr c, k1, Cx.le.refl c, k2, Below.refl _ _⟩
theorem sort_nil107 {H : Hp} {T : Tk} {Q : Post} (hQ : Q (.tup []) H T) : Snd Try.prog 107 [.nils] H T Q :=
  nil_snd e107 (v := .tuple #[]) (fun w => by
    have := Any.slices_Sort_string_none Try.sortT none 0 w
    rw [f107] at this
    exact this.mono fun e w' h => h) (fun c => .tup [] [] rfl fun i h => absurd h (by simp)) hQ
theorem compact_nil73 {H : Hp} {T : Tk} {Q : Post} (hQ : Q .nils H T) : Snd Try.prog 73 [.nils] H T Q :=
  nil_snd e73 (v := .slice none 0 0) (fun w => by
    have := Any.slices_Compact_string_empty Try.compactT none 0 w
    rw [f73] at this
    exact this.mono fun e w' h => h) (fun c => .nils) hQ
end GP
namespace GP
open Go Go.Proofs
set_option maxRecDepth 100000
variable [HasG Try.prog]
def OutM (n : Nat) (B : Hp) (d : D) (L : List Sb) : Prop := (d = .nils ∧ L = []) ∨ ∃ o, n ≤ o ∧ d = .ms false 1 o 0 L.length L.length ∧ B[o]? = some (.row (L.map D.str)) ∧ L ≠ []
theorem OutM.ext {n : Nat} {B : Hp} {d : D} {L : List Sb} (h : OutM n B d L) (X : Hp) : OutM n (B ++ X) d L := by
  rcases h with h | ⟨o, h1, h2, h3, h4⟩
  · exact .inl h
  · exact .inr ⟨o, h1, h2, (Ext.of B X).get h3, h4⟩
theorem flat_str (l : List Sb) : flatD (l.map D.str) = l.map D.str := by
  induction l with
  | nil => rfl
  | cons x l ih => simp only [flatD, List.map_cons, List.flatten_cons, D.cells] at ih ⊢; rw [ih]; rfl
theorem OutM.app {H B : Hp} {d : D} {L : List Sb} {K : D → S → Prop} {t : Nat → D} {U : Tk} (h : OutM H.length B d L) (hE : Ext H B) (ys : List Sb) (hy : ys ≠ []) (hb : L.length + ys.length ≤ 2 ^ 40) (k : ∀ d2 B2, OutM H.length B2 d2 (L ++ ys) → Ext H B2 → K d2 ⟨t, B2, U⟩) :
    appmK false 1 16 K ⟨t, B, U⟩ d (some (ys.map D.str)) := by
  refine ⟨str_fit ys, ?_⟩
  rcases h with ⟨rfl, rfl⟩ | ⟨o, h1, rfl, h3, h4⟩
  · simp only
    rw [if_neg (by simpa using hy)]
    refine ⟨by simp at hb ⊢; omega, by simp at hb ⊢; omega, ?_⟩
    rw [flat_str, List.length_map]
    exact k _ _ (.inr ⟨B.length, by obtain ⟨M, rfl⟩ := hE; simp, rfl, by simp, by simpa using hy⟩) (hE.app _)
  · simp only [h3]
    have hy0 : 0 < ys.length := List.length_pos_iff.2 hy
    refine ⟨trivial, ?_⟩
    rw [if_neg (by rw [List.length_map]; omega)]
    refine ⟨trivial, by simp, by rw [List.length_map]; omega, by rw [List.length_map]; omega, ?_⟩
    rw [flat_str, List.length_map, ← List.map_append, ← List.length_append]
    refine k _ _ (.inr ⟨B.length, by obtain ⟨M, rfl⟩ := hE; simp, rfl, ?_, by simp [hy]⟩) ((ext_set hE h1 _).app _)
    rw [List.getElem?_append_right (by simp)]; simp
theorem OutM.len {n : Nat} {B : Hp} {d : D} {L : List Sb} (h : OutM n B d L) : lenD d = some L.length := by
  rcases h with ⟨rfl, rfl⟩ | ⟨o, _, rfl, _⟩ <;> rfl
theorem hle_ext {H B : Hp} (h : Ext H B) : Hle H B := fun _ _ h1 _ => h.get h1
def moreD (l : List Sb) : D := if l = [] then .nils else .sl none (l.map D.str)
theorem clone_more {H : Hp} {T : Tk} {Q : Post} (l : List Sb) (hl : l.length ≤ 100) (k : ∀ d L, OutM H.length (H ++ L) d l → Q d (H ++ L) T) : Snd Try.prog 106 [moreD l] H T Q := by
  unfold moreD
  split
  · rename_i h; subst h
    refine clone_nils fn106c ?_
    have := k .nils [] (.inl ⟨rfl, rfl⟩)
    simpa using this
  · rename_i h
    cases l with
    | nil => exact absurd rfl h
    | cons x r =>
      refine clone_some fn106c (ys := (x :: r).map D.str) rfl (fun _ => rfl) (str_fit _) (by simp at hl ⊢; omega) (by simp at hl ⊢; omega) fun L o h1 h2 => ?_
      rw [flat_str] at h2
      rw [List.length_map]
      exact k _ L (.inr ⟨o, h1, rfl, h2, by simp⟩)
set_option maxHeartbeats 2000000 in
theorem names_snd' {p : Nat} {eD mD w : D} {es ms : List Ed} {more : List Sb} {H : Hp} {T : Tk} {Q : Post} (hp : H[p]? = some (.row [eD, mD, w])) (he : edsM H eD = some es) (hm : edsM H mD = some ms) (l1 : es.length ≤ 900) (l2 : ms.length ≤ 900) (l3 : more.length ≤ 100)
    (k0 : n3 more es ms = [] → ∀ L U, Q .nils (H ++ L) (T ++ U))
    (k : n3 more es ms ≠ [] → ∀ L U o cap X, H.length ≤ o → (namesS (n3 more es ms)).length ≤ cap → (H ++ L)[o]? = some (.row ((namesS (n3 more es ms)).map D.str ++ X)) → Q (.ms false 1 o 0 (namesS (n3 more es ms)).length cap) (H ++ L) (T ++ U)) :
    Snd Try.prog 67 [.ptr p 0, moreD more] H T Q := by
  have hX := XG_mono (P := Try.prog) [106, 107, 73] [] [] [] []
  refine call_of fn67 (by simp) (W_mono (X := XG Try.prog [106, 107, 73] [] [] [] []) (XG.X .nil .nil .nil .nil) (fun _ _ h => h) ?_)
  simp +contextual (maxSteps := 10000000) only [c67, XG_eq, go_sem, W_draw]
  refine clone_more more l3 fun d5 L0 hO => ?_
  have hE0 : Ext H (H ++ L0) := Ext.of _ _
  obtain ⟨B, hB⟩ : ∃ B, H ++ L0 = B := ⟨_, rfl⟩
  rw [hB] at hO hE0 ⊢
  have g0 := rdAt_E (hE0.get hp) 0
  have e0 := edsM_len he
  have c0 := fun (X : List D) => List.drop_zero (l := X)
  simp only [List.drop_zero] at g0
  simp +contextual (maxSteps := 10000000) only [g0, e0, XG_eq, go_sem, W_draw]
  refine W_for (fun i s' => s'.t 0 = .ptr p 0 ∧ s'.t 15 = eD ∧ s'.t 16 = .int .i64 (es.length : Int) ∧ s'.t 17 = .int .i64 (i : Int) ∧ Ext H s'.H ∧ ExtT T s'.T ∧ OutM H.length s'.H (s'.t 5) (n3 more (es.take i) []) ∧ i ≤ es.length) es.length
    ⟨0, ?_⟩ (fun i s h => h.2.2.2.2.2.2.2) ?_ hX
  · exact ⟨by simp [upd, argT], by simp [upd], by simp [upd], by simp [upd], hE0, ExtT.refl T, by simpa [upd, n3_0] using hO, by omega⟩
  clear hO hE0 g0 hB
  rintro i ⟨t, B, U⟩ ⟨r0, r15, r16, r17, hE, hT, hO, hi⟩
  simp only at r0 r15 r16 r17 hE hT hO
  obtain ⟨d5, hd5⟩ : ∃ d, t 5 = d := ⟨_, rfl⟩
  rw [hd5] at hO
  by_cases ha : i < es.length
  · have d1 : decide ((i : Int) < es.length) = true := by simpa using ha
    have e : es[i]? = some es[i] := by simp [ha]
    obtain ⟨x, hx⟩ : ∃ x, es[i] = x := ⟨_, rfl⟩
    rw [hx] at e
    obtain ⟨o, e1, X, e2⟩ := edsM_at (edsM_mono (hle_ext hE) he) e .i64
    have et := n3_2 (l := more) e
    have ol2 := n3_len more (es.take i) []
    obtain ⟨Ln, hL⟩ : ∃ L, n3 more (es.take i) [] = L := ⟨_, rfl⟩
    rw [hL] at hO et ol2
    simp only [List.length_take, List.length_nil] at ol2
    simp +contextual (maxSteps := 10000000) only [r0, r15, r16, r17, hd5, d1, e1, e2, go_sem, W_draw]
    refine (hO.ext _).app (hE.app _) [x.1, x.2] (by simp) (by simp; omega) fun d6 B2 hO2 hE2 => ?_
    rw [show Ln ++ [x.1, x.2] = n3 more (es.take (i + 1)) [] by rw [et]; simp] at hO2
    have hT2 := fun X => hT.app X
    simp +contextual (maxSteps := 10000000) only [r0, r15, r16, r17, wrap_natY i (by omega), go_sem, W_draw]
    exact ⟨hE2, hT2 _, hO2, by omega⟩
  · have d1 : decide ((i : Int) < es.length) = false := by simpa using ha
    have hil : es.take i = es := List.take_of_length_le (by omega)
    rw [hil] at hO
    have g1 := rdAt_E (hE.get hp) 1
    simp only [List.drop_succ_cons, List.drop_zero] at g1
    have e1 := edsM_len hm
    simp +contextual (maxSteps := 10000000) only [r0, r15, r16, r17, hd5, d1, g1, e1, go_sem, W_draw]
    clear hi ha d1 hil r15 r16 r17
    refine W_for (fun i s' => s'.t 0 = .ptr p 0 ∧ s'.t 32 = mD ∧ s'.t 33 = .int .i64 (ms.length : Int) ∧ s'.t 34 = .int .i64 (i : Int) ∧ Ext H s'.H ∧ ExtT T s'.T ∧ OutM H.length s'.H (s'.t 5) (n3 more es (ms.take i)) ∧ i ≤ ms.length) ms.length
      ⟨0, ?_⟩ (fun i s h => h.2.2.2.2.2.2.2) ?_ hX
    · exact ⟨by simp [upd, r0], by simp [upd], by simp [upd], by simp [upd], hE, hT, by simpa [upd, hd5, heldL] using hO, by omega⟩
    clear hO hE hT hd5 g1 r0
    rintro i ⟨t, B, U⟩ ⟨r0, r32, r33, r34, hE, hT, hO, hi⟩
    simp only at r0 r32 r33 r34 hE hT hO
    obtain ⟨d5, hd5⟩ : ∃ d, t 5 = d := ⟨_, rfl⟩
    rw [hd5] at hO
    by_cases ha : i < ms.length
    · have d1 : decide ((i : Int) < ms.length) = true := by simpa using ha
      have e : ms[i]? = some ms[i] := by simp [ha]
      obtain ⟨x, hx⟩ : ∃ x, ms[i] = x := ⟨_, rfl⟩
      rw [hx] at e
      obtain ⟨o, e1, X, e2⟩ := edsM_at (edsM_mono (hle_ext hE) hm) e .i64
      have et := n3_3 (l := more) (E := es) e
      have ol2 := n3_len more es (ms.take i)
      obtain ⟨Ln, hL⟩ : ∃ L, n3 more es (ms.take i) = L := ⟨_, rfl⟩
      rw [hL] at hO et ol2
      simp only [List.length_take] at ol2
      simp +contextual (maxSteps := 10000000) only [r0, r32, r33, r34, hd5, d1, e1, e2, go_sem, W_draw]
      refine (hO.ext _).app (hE.app _) [x.2] (by simp) (by simp; omega) fun d6 B2 hO2 hE2 => ?_
      rw [show Ln ++ [x.2] = n3 more es (ms.take (i + 1)) by rw [et]] at hO2
      have hT2 := fun X => hT.app X
      simp +contextual (maxSteps := 10000000) only [r0, r32, r33, r34, wrap_natY i (by omega), go_sem, W_draw]
      exact ⟨hE2, hT2 _, hO2, by omega⟩
    · have d1 : decide ((i : Int) < ms.length) = false := by simpa using ha
      have hil : ms.take i = ms := List.take_of_length_le (by omega)
      rw [hil] at hO
      have ol2 := n3_len more es ms
      obtain ⟨N, hN⟩ : ∃ N, n3 more es ms = N := ⟨_, rfl⟩
      rw [hN] at hO k0 k ol2
      obtain ⟨LB, rfl⟩ := hE
      obtain ⟨LT, rfl⟩ := hT
      rcases hO with ⟨rfl, rfl⟩ | ⟨o, h1, rfl, h3, hne⟩
      · simp +contextual (maxSteps := 10000000) only [r0, r32, r33, r34, hd5, d1, XG_eq, go_sem, W_draw]
        refine sort_nil107 ?_
        simp +contextual (maxSteps := 10000000) only [hd5, XG_eq, go_sem, W_draw]
        refine compact_nil73 ?_
        simp +contextual (maxSteps := 10000000) only [go_sem, W_draw]
        exact k0 rfl _ _
      · simp +contextual (maxSteps := 10000000) only [r0, r32, r33, r34, hd5, d1, XG_eq, go_sem, W_draw]
        refine sort_snd107 h3 (by omega) ?_
        have hlo : o < (H ++ LB).length := by
          rcases Nat.lt_or_ge o (H ++ LB).length with h' | h'
          · exact h'
          · rw [List.getElem?_eq_none h'] at h3; cases h3
        have sl : (sortS N).length = N.length := List.length_mergeSort _
        simp +contextual (maxSteps := 10000000) only [hd5, XG_eq, go_sem, W_draw]
        rw [← sl]
        refine compact_snd73 (l := sortS N) (by rw [List.getElem?_set_self hlo]) (by omega) ?_
        simp +contextual (maxSteps := 10000000) only [go_sem, W_draw]
        rw [List.set_set, List.set_append_right _ _ h1]
        refine k hne _ _ o (sortS N).length (List.replicate ((sortS N).length - (Lib.compact (sortS N)).length) (.str [])) h1 (by rw [sl]; exact nodup_len (names_nodup N) fun x hx => (names_mem N x).1 hx) ?_
        rw [← List.set_append_right _ _ h1, List.getElem?_set_self hlo]
        simp [padS, namesS]
theorem names_snd {p : Nat} {eD mD w : D} {es ms : List Ed} {more : List Sb} {H : Hp} {T : Tk} {Q : Post} (hp : H[p]? = some (.row [eD, mD, w])) (he : edsM H eD = some es) (hm : edsM H mD = some ms) (l1 : es.length ≤ 900) (l2 : ms.length ≤ 900) (l3 : more.length ≤ 100)
    (k0 : n3 more es ms = [] → ∀ L U, Q .nils (H ++ L) (T ++ U))
    (k : n3 more es ms ≠ [] → ∀ L U o cap X, H.length ≤ o → (H ++ L)[o]? = some (.row ((namesS (n3 more es ms)).map D.str ++ X)) → Q (.ms false 1 o 0 (namesS (n3 more es ms)).length cap) (H ++ L) (T ++ U)) :
    Snd Try.prog 67 [.ptr p 0, moreD more] H T Q :=
  names_snd' hp he hm l1 l2 l3 k0 fun e L U o cap X h1 _ h2 => k e L U o cap X h1 h2
end GP
namespace GP
open Go Go.Proofs
set_option maxRecDepth 100000
variable [HasG Try.prog]
@[go_sem] theorem erase_mp (o : Nat) : (D.mp o).erase = .mp o := id rfl
def mval (es : List (D × D × Nat)) (p : Nm) : Int := match fnd kSS (keyD p) es 0 with
  | some (some (_, .int .i64 v, _)) => v
  | _ => 0
def cntM (es : List (D × D × Nat)) (a b : Sb) : Int := if a = b then 1 else mval es (a, b)
theorem fnd_ps (p : Nm) {ps : List Nm} {es : List (D × D × Nat)} {clk : Nat} (hM : MpS ps es clk) : (p ∉ ps ∧ fnd kSS (keyD p) es 0 = some none ∧ mval es p = 0) ∨ ∃ (j : Nat) (v : Int), fnd kSS (keyD p) es 0 = some (some (j, .int .i64 v, j)) ∧ es[j]? = some (keyD p, .int .i64 v, j) ∧ mval es p = v ∧ j < es.length ∧ p ∈ ps := by
  by_cases hp : p ∈ ps
  · obtain ⟨j, v, b, h1, h2⟩ := fnd_yes 0 hM.k hp
    obtain ⟨n, hn⟩ := hM.v _ (List.mem_of_getElem? h2)
    have hb := hM.b j _ h2
    simp only at hn hb
    subst hn; subst hb
    rw [Nat.zero_add] at h1
    refine .inr ⟨b, n, h1, h2, by unfold mval; rw [h1], ?_, hp⟩
    rcases Nat.lt_or_ge b es.length with h' | h'
    · exact h'
    · rw [List.getElem?_eq_none h'] at h2; cases h2
  · have := fnd_no 0 hM.k hp
    exact .inl ⟨hp, this, by unfold mval; rw [this]⟩
theorem fnd_set (q p : Nm) (v v' : D) (b : Nat) : ∀ (ps : List Nm) (es : List (D × D × Nat)) (i j : Nat), es.map (fun e => e.1) = ps.map keyD → es[j]? = some (keyD p, v, b) → q ≠ p →
    fnd kSS (keyD q) (es.set j (keyD p, v', b)) i = fnd kSS (keyD q) es i
  | [], [], _, _, _, h, _ => by simp at h
  | [], _ :: _, _, _, h, _, _ => by simp at h
  | _ :: _, [], _, _, h, _, _ => by simp at h
  | x :: ps, (k, w, c) :: es, i, 0, h, hj, hq => by
    simp only [List.getElem?_cons_zero, Option.some.injEq, Prod.mk.injEq] at hj
    obtain ⟨rfl, rfl, rfl⟩ := hj
    have e : (q == p) = false := by simpa using hq
    simp only [List.set_cons_zero, fnd, keq_key, e]
  | x :: ps, (k, w, c) :: es, i, j + 1, h, hj, hq => by
    simp only [List.map_cons, List.cons.injEq] at h
    have hk : k = keyD x := h.1
    simp only [List.set_cons_succ, fnd, hk, keq_key]
    rw [fnd_set q p v v' b ps es (i + 1) j h.2 (by simpa using hj) hq]
theorem fnd_app (q p : Nm) (v : D) (b : Nat) (hq : q ≠ p) : ∀ (ps : List Nm) (es : List (D × D × Nat)) (i : Nat), es.map (fun e => e.1) = ps.map keyD →
    fnd kSS (keyD q) (es ++ [(keyD p, v, b)]) i = fnd kSS (keyD q) es i
  | [], [], _, _ => by
    have e : (q == p) = false := by simpa using hq
    simp [fnd, keq_key, e]
  | [], _ :: _, _, h => by simp at h
  | _ :: _, [], _, h => by simp at h
  | x :: ps, (k, w, c) :: es, i, h => by
    simp only [List.map_cons, List.cons.injEq] at h
    have hk : k = keyD x := h.1
    simp only [List.cons_append, fnd, hk, keq_key]
    rw [fnd_app q p v b hq ps es (i + 1) h.2]
theorem fnd_set_self (p : Nm) (v v' : D) (b : Nat) : ∀ (ps : List Nm) (es : List (D × D × Nat)) (i j : Nat), es.map (fun e => e.1) = ps.map keyD → fnd kSS (keyD p) es i = some (some (i + j, v, b)) → fnd kSS (keyD p) (es.set j (keyD p, v', b)) i = some (some (i + j, v', b))
  | [], [], _, _, _, h => by simp [fnd] at h
  | [], _ :: _, _, _, h, _ => by simp at h
  | _ :: _, [], _, _, h, _ => by simp at h
  | x :: ps, (k, w, c) :: es, i, j, h, hf => by
    simp only [List.map_cons, List.cons.injEq] at h
    have hk : k = keyD x := h.1
    simp only [fnd, hk, keq_key] at hf
    by_cases e : p = x
    · subst e
      simp only [beq_self_eq_true, Option.some.injEq, Prod.mk.injEq] at hf
      obtain ⟨h1, rfl, rfl⟩ := hf
      have : j = 0 := by omega
      subst this
      simp only [List.set_cons_zero, fnd, keq_key, beq_self_eq_true, Nat.add_zero]
    · have e' : (p == x) = false := by simpa using e
      rw [e'] at hf
      simp only at hf
      cases j with
      | zero =>
        exfalso
        have : ∀ (es : List (D × D × Nat)) (a : Nat) r, fnd kSS (keyD p) es a = some (some r) → a ≤ r.1 := fun es => by
          induction es with
          | nil => intro a r h; simp [fnd] at h
          | cons y es ih =>
            intro a r h
            obtain ⟨k', w', c'⟩ := y
            simp only [fnd] at h
            split at h
            · injection h with h; injection h with h; subst h; exact Nat.le_refl _
            · have := ih _ _ h; omega
            · cases h
        have := this _ _ _ hf
        simp at this
        omega
      | succ j =>
        simp only [List.set_cons_succ, fnd, hk, keq_key, e']
        have := fnd_set_self p v v' b ps es (i + 1) j h.2 (by rw [hf]; congr 3; omega)
        rw [this]; congr 3; omega
theorem mval_set {ps : List Nm} {es : List (D × D × Nat)} {clk : Nat} (hM : MpS ps es clk) {p : Nm} {j : Nat} {v : Int} (hf : fnd kSS (keyD p) es 0 = some (some (j, .int .i64 v, j))) (hj : es[j]? = some (keyD p, .int .i64 v, j)) (n : Int) (q : Nm) :
    mval (es.set j (keyD p, .int .i64 n, j)) q = if q = p then n else mval es q := by
  by_cases h : q = p
  · rw [if_pos h]; subst h
    unfold mval
    have := fnd_set_self q (.int .i64 v) (.int .i64 n) j ps es 0 j hM.k (by rw [Nat.zero_add]; exact hf)
    rw [this]
  · rw [if_neg h]; unfold mval
    rw [fnd_set q p (.int .i64 v) (.int .i64 n) j ps es 0 j hM.k hj h]
theorem mval_push {ps : List Nm} {es : List (D × D × Nat)} {clk : Nat} (hM : MpS ps es clk) {p : Nm} (hp : p ∉ ps) (n : Int) (b : Nat) (q : Nm) :
    mval (es ++ [(keyD p, .int .i64 n, b)]) q = if q = p then n else mval es q := by
  by_cases h : q = p
  · rw [if_pos h]; subst h
    unfold mval
    rw [fnd_push 0 hM.k hp]
  · rw [if_neg h]; unfold mval
    rw [fnd_app q p _ b h ps es 0 hM.k]
def φ71 (H : Hp) : List D → Option D
  | [d, .str a, .str b] => if a = b then some (.int .i64 1) else match mgetD H (true, [.str, .str]) (.int .i64 0) false d (.agg [.str a, .str b]) with
    | some (.int .i64 v) => some (.int .i64 v)
    | _ => none
  | _ => none
theorem entsD_mono {H H' : Hp} (hl : Hle H H') {d : D} {es : List (D × D × Nat)} (h : entsD H d = some es) : entsD H' d = some es := by
  unfold entsD at h ⊢
  split at h
  · exact h
  · split at h
    · rename_i o es' clk ho
      rw [hl _ _ ho rfl]; exact h
    · cases h
  · cases h
theorem φ71_mono : Mo φ71 := by
  intro H H' args r hl h
  unfold φ71 at h ⊢
  split at h
  · rename_i d a b
    split at h
    · rename_i e; rw [if_pos e]; exact h
    · rename_i e
      rw [if_neg e]
      split at h
      · rename_i v hv
        have : mgetD H' (true, [.str, .str]) (.int .i64 0) false d (.agg [.str a, .str b]) = some (.int .i64 v) := by
          unfold mgetD at hv ⊢
          split at hv
          · rename_i hk
            rw [if_pos hk]
            split at hv
            · rename_i es hes; simp only [entsD_mono hl hes]; exact hv
            · cases hv
          · cases hv
        rw [this]; exact h
      · cases h
  · cases h
theorem ok71 : OkAtH Try.prog 71 φ71 := by
  refine okH_of (l := []) (m := []) .nil .nil fn71 fun H args r h => ?_
  unfold φ71 at h
  split at h
  · rename_i d a b
    split at h
    · rename_i e; subst e
      injection h with h; subst h
      refine ⟨by simp, by simp [D.cl], fun T => ?_⟩
      have e1 : (a == a) = true := by simp
      simp +contextual (maxSteps := 10000000) only [c71, e1, go_sem, W_draw]
    · rename_i e
      split at h
      · rename_i v hv
        injection h with h; subst h
        refine ⟨by simp, by simp [D.cl], fun T => ?_⟩
        have e1 : (a == b) = false := by simpa using e
        have hp : pu (D.int .i64 0) = true := rfl
        simp +contextual (maxSteps := 10000000) only [c71, e1, hv, hp, go_sem, W_draw]
      · cases h
  · cases h
theorem p71 {H : Hp} {w clk : Nat} {es : List (D × D × Nat)} {ks : List Nm} (hw : H[w]? = some (.map es clk)) (hM : MpS ks es clk) {a b : Sb} (h : okNm (a, b)) : φ71 H [.mp w, .str a, .str b] = some (.int .i64 (cntM es a b)) := by
  simp only [φ71]
  unfold cntM
  split
  · rfl
  · rcases fnd_ps (a, b) hM with ⟨_, h1, h2⟩ | ⟨j, v, h1, _, h2, _⟩
    · rw [mget_eq h hw h1, h2]
    · rw [mget_eq h hw h1, h2]
end GP
namespace GP
open Go Go.Proofs
set_option maxRecDepth 100000
variable [HasG Try.prog]
def entsP (f : Nm → Int) (P : List Nm) : List (D × D × Nat) := P.zipIdx.map fun p => (keyD p.1, .int .i64 (f p.1), p.2)
theorem entsP_snoc (f : Nm → Int) (P : List Nm) (p : Nm) : entsP f (P ++ [p]) = entsP f P ++ [(keyD p, .int .i64 (f p), P.length)] := by
  simp [entsP, List.zipIdx_append]
theorem entsP_keys (f : Nm → Int) (P : List Nm) : (entsP f P).map (fun e => e.1) = P.map keyD := by
  unfold entsP
  rw [List.map_map]
  have : ((fun e : D × D × Nat => e.1) ∘ fun p : Nm × Nat => (keyD p.1, D.int .i64 (f p.1), p.2)) = keyD ∘ Prod.fst := rfl
  rw [this, ← List.map_map]; simp
theorem entsP_get (f : Nm → Int) (P : List Nm) (i : Nat) : (entsP f P)[i]? = (P[i]?).map fun p => (keyD p, .int .i64 (f p), i) := by
  unfold entsP
  rw [List.getElem?_map, List.getElem?_zipIdx]
  cases P[i]? <;> simp
theorem entsP_len (f : Nm → Int) (P : List Nm) : (entsP f P).length = P.length := by simp [entsP]
theorem entsP_mem {f : Nm → Int} {P : List Nm} {e : D × D × Nat} (h : e ∈ entsP f P) : ∃ i p, P[i]? = some p ∧ e = (keyD p, .int .i64 (f p), i) := by
  obtain ⟨i, hi, he⟩ := List.getElem_of_mem h
  have := entsP_get f P i
  rw [List.getElem?_eq_getElem hi, he] at this
  cases hp : P[i]? with
  | none => rw [hp] at this; cases this
  | some p => rw [hp] at this; injection this with this; exact ⟨i, p, hp, this⟩
def prs (l m : List Sb) : List Nm := (l.map fun a => m.map fun b => (a, b)).flatten
theorem prs_take {l m : List Sb} {i : Nat} {a : Sb} (h : l[i]? = some a) : prs (l.take (i + 1)) m = prs (l.take i) m ++ m.map fun b => (a, b) := by
  unfold prs; rw [List.take_add_one, h]; simp
theorem prs_mem {l m : List Sb} {p : Nm} : p ∈ prs l m ↔ p.1 ∈ l ∧ p.2 ∈ m := by
  obtain ⟨a, b⟩ := p
  unfold prs
  simp only [List.mem_flatten, List.mem_map]
  constructor
  · rintro ⟨_, ⟨x, hx, rfl⟩, h⟩
    obtain ⟨y, hy, e⟩ := List.mem_map.1 h
    injection e with e1 e2
    subst e1; subst e2
    exact ⟨hx, hy⟩
  · rintro ⟨h1, h2⟩
    exact ⟨_, ⟨a, h1, rfl⟩, List.mem_map.2 ⟨b, h2, rfl⟩⟩
theorem prs_new {l : List Sb} (hn : l.Nodup) {i k : Nat} {a b : Sb} (ha : l[i]? = some a) (hb : l[k]? = some b) : (a, b) ∉ prs (l.take i) l ++ (l.take k).map fun b => (a, b) := by
  have key : ∀ {j : Nat} {x : Sb}, l[j]? = some x → x ∉ l.take j := fun {j x} hx hm => by
    obtain ⟨j', hj', e⟩ := List.getElem_of_mem hm
    rw [List.length_take] at hj'
    rw [List.getElem_take] at e
    have hj : j < l.length := by
      rcases Nat.lt_or_ge j l.length with h' | h'
      · exact h'
      · rw [List.getElem?_eq_none h'] at hx; cases hx
    rw [List.getElem?_eq_getElem hj] at hx
    injection hx with hx
    have h1 := hn.idxOf_getElem j' (by omega)
    have h2 := hn.idxOf_getElem j hj
    rw [e] at h1; rw [hx] at h2
    omega
  rw [List.mem_append]
  rintro (h | h)
  · exact key ha (prs_mem.1 h).1
  · obtain ⟨y, hy, e⟩ := List.mem_map.1 h
    injection e with _ e2
    subst e2
    exact key hb hy
theorem entD_at {B : Hp} {o m : Nat} {since : Nat} {seen : List Nat} {P : List Nm} {f : Nm → Int} {i : Nat} {p : Nm} (hi : B[o]? = some (.iter (some m) since (seen ++ [i]) P.length)) (hm : B[m]? = some (.map (entsP f P) P.length)) (hp : P[i]? = some p) : entD B (.ptr o 0) = some (.tup [keyD p, .int .i64 (f p)]) := by
  have hf : (entsP f P).find? (fun e => e.2.2 == i) = some (keyD p, .int .i64 (f p), i) := by
    have hip : i < (entsP f P).length := by
      rw [entsP_len]
      rcases Nat.lt_or_ge i P.length with h' | h'
      · exact h'
      · rw [List.getElem?_eq_none h'] at hp; cases hp
    have hg : (entsP f P)[i] = (keyD p, .int .i64 (f p), i) := by
      have := entsP_get f P i
      rw [List.getElem?_eq_getElem hip, hp] at this
      injection this
    rw [List.find?_eq_some_iff_getElem]
    refine ⟨by simp, i, hip, hg, fun j hj => ?_⟩
    have := entsP_get f P j
    rw [List.getElem?_eq_getElem (by omega)] at this
    cases hpj : P[j]? with
    | none => rw [hpj] at this; cases this
    | some q => rw [hpj] at this; injection this with this; rw [this]; simp; omega
  simp only [entD, hi, hm]
  simp [hf]
end GP
namespace GP
open Go Go.Proofs
set_option maxRecDepth 100000
variable [HasG Try.prog]
theorem txs_at {B : Hp} {o cap : Nat} {l : List Sb} {X : List D} (ho : B[o]? = some (.row (l.map D.str ++ X))) {i : Nat} {s : Sb} (hs : l[i]? = some s) (k : IntKind) : ia 1 (.ms false 1 o 0 l.length cap) (.int k (i : Int)) = some (.ptr o i) ∧ ∃ Y, rdAt B (.ptr o i) = some (.str s :: Y) := by
  have hi : i < l.length := by
    rcases Nat.lt_or_ge i l.length with h' | h'
    · exact h'
    · rw [List.getElem?_eq_none h'] at hs; cases hs
  refine ⟨?_, (l.drop (i + 1)).map D.str ++ X, ?_⟩
  · simp only [ia]
    rw [if_pos ⟨by omega, by omega, trivial⟩]; simp
  · simp only [rdAt, ho]
    have e1 : l = l.take i ++ s :: l.drop (i + 1) := by
      rw [List.getElem?_eq_getElem hi] at hs; injection hs with hs
      rw [← hs, ← List.drop_eq_getElem_cons hi, List.take_append_drop]
    have e2 : l.map D.str ++ X = (l.take i).map D.str ++ (.str s :: ((l.drop (i + 1)).map D.str ++ X)) := by
      conv => lhs; rw [e1]
      simp
    rw [e2, List.drop_left']
    simp; omega
theorem mputK_new {K : D → S → Prop} {t : Nat → D} {B : Hp} {U : Tk} {o clk : Nat} {es : List (D × D × Nat)} {p : Nm} {v : D} (hk : okNm p) (hv : pu v = true) (ho : B[o]? = some (.map es clk)) (hf : fnd kSS (keyD p) es 0 = some none)
    (h : K .top ⟨t, B.set o (.map (es ++ [(keyD p, v, clk)]) (clk + 1)), U⟩) : mputK kSS K ⟨t, B, U⟩ (.mp o) (keyD p) v := by
  refine ⟨kok_key hk, hv, ?_⟩
  simp only [ho, hf]
  exact h
structure Added (H : Hp) (w : Nat) (es : List (D × D × Nat)) (g : Nm → Int) (B : Hp) : Prop where
  fr : ∀ o, o < H.length → o ≠ w → B[o]? = H[o]?
  len : H.length ≤ B.length
  mp : ∃ es' clk' ks, B[w]? = some (.map es' clk') ∧ MpS ks es' clk' ∧ ∀ p, mval es' p = mval es p + g p
theorem Added.push {H B : Hp} {w : Nat} {es : List (D × D × Nat)} {g : Nm → Int} (h : Added H w es g B) (hw : w < H.length) (X : Hp) : Added H w es g (B ++ X) := by
  obtain ⟨h1, h2, es', clk', ks, h3, h4, h5⟩ := h
  refine ⟨fun o ho hne => ?_, by rw [List.length_append]; omega, es', clk', ks, ?_, h4, h5⟩
  · rw [List.getElem?_append_left (by omega)]; exact h1 o ho hne
  · rw [List.getElem?_append_left (by omega)]; exact h3
theorem Added.set {H B : Hp} {w : Nat} {es : List (D × D × Nat)} {g : Nm → Int} (h : Added H w es g B) (hw : w < H.length) {o : Nat} (ho : H.length ≤ o) (x : Ob) : Added H w es g (B.set o x) := by
  obtain ⟨h1, h2, es', clk', ks, h3, h4, h5⟩ := h
  refine ⟨fun o' ho' hne => ?_, by rw [List.length_set]; omega, es', clk', ks, ?_, h4, h5⟩
  · rw [List.getElem?_set_ne (by omega)]; exact h1 o' ho' hne
  · rw [List.getElem?_set_ne (by omega)]; exact h3
theorem rngK_mp {K : D → S → Prop} {t : Nat → D} {B : Hp} {U : Tk} {o clk : Nat} {es : List (D × D × Nat)} (ho : B[o]? = some (.map es clk)) : rngK K ⟨t, B, U⟩ (.mp o) = K (.ptr B.length 0) ⟨t, B ++ [.iter (some o) clk [] clk], U⟩ := by
  simp only [rngK, ho]
theorem nxtK_of {K : D → S → Prop} {t : Nat → D} {B : Hp} {U : Tk} {o m : Nat} {seen : List Nat} {f : Nm → Int} {P : List Nm} (ho : B[o]? = some (.iter (some m) P.length seen P.length)) (hm : B[m]? = some (.map (entsP f P) P.length))
    (h0 : (∀ i < P.length, i ∈ seen) → K (.tup [.bool false]) ⟨t, B, U⟩) (h1 : ∀ i p, P[i]? = some p → i ∉ seen → K (.tup [.bool true, keyD p, .int .i64 (f p)]) ⟨t, B.set o (.iter (some m) P.length (seen ++ [i]) P.length), U⟩) : nxtK K ⟨t, B, U⟩ (.ptr o 0) := by
  have lt : ∀ {i : Nat} {p : Nm}, P[i]? = some p → i < P.length := fun {i p} h => by
    rcases Nat.lt_or_ge i P.length with h' | h'
    · exact h'
    · rw [List.getElem?_eq_none h'] at h; cases h
  simp only [nxtK, ho, hm]
  refine ⟨fun e he => ?_, Nat.le_refl _, fun h => h0 fun i hi => ?_, fun e he hn => ?_⟩
  · obtain ⟨i, p, h, rfl⟩ := entsP_mem he; exact lt h
  · have := entsP_get f P i
    rw [List.getElem?_eq_getElem hi] at this
    exact h _ (List.mem_of_getElem? this)
  · obtain ⟨i, p, h, rfl⟩ := entsP_mem he
    exact h1 i p h hn
theorem nodupN_le : ∀ {n : Nat} {l : List Nat}, l.Nodup → (∀ x ∈ l, x < n) → l.length ≤ n
  | 0, l, _, h => by
    cases l with
    | nil => simp
    | cons x l => exact absurd (h x (by simp)) (by omega)
  | n + 1, l, hn, h => by
    by_cases hm : n ∈ l
    · have h1 := nodupN_le (n := n) (hn.erase n) fun x hx => by
        have h2 := (List.Nodup.mem_erase_iff hn).1 hx
        have := h x h2.2
        have := h2.1
        omega
      rw [List.length_erase_of_mem hm] at h1
      omega
    · have := nodupN_le (n := n) hn fun x hx => by
        have := h x hx
        have : x ≠ n := fun e => hm (e ▸ hx)
        omega
      omega
def gSeen (f : Nm → Int) (P : List Nm) (sg : Int) (seen : List Nat) (p : Nm) : Int := if ∃ i ∈ seen, P[i]? = some p then sg * f p else 0
theorem gSeen_next {f : Nm → Int} {P : List Nm} {sg : Int} {seen : List Nat} (hP : P.Nodup) {i : Nat} {p : Nm} (hp : P[i]? = some p) (hi : i ∉ seen) (q : Nm) : gSeen f P sg (seen ++ [i]) q = gSeen f P sg seen q + if q = p then sg * f p else 0 := by
  have lt : ∀ {i : Nat} {p : Nm}, P[i]? = some p → i < P.length := fun {i p} h => by
    rcases Nat.lt_or_ge i P.length with h' | h'
    · exact h'
    · rw [List.getElem?_eq_none h'] at h; cases h
  unfold gSeen
  by_cases hq : q = p
  · subst hq
    have h1 : ∃ k ∈ seen ++ [i], P[k]? = some q := ⟨i, by simp, hp⟩
    have h2 : ¬ ∃ k ∈ seen, P[k]? = some q := by
      rintro ⟨k, hk, e⟩
      have a1 := hP.idxOf_getElem i (lt hp)
      have a2 := hP.idxOf_getElem k (lt e)
      rw [List.getElem?_eq_getElem (lt hp)] at hp
      rw [List.getElem?_eq_getElem (lt e)] at e
      injection hp with hp; injection e with e
      rw [hp] at a1; rw [e] at a2
      exact hi (by rw [← a1, a2]; exact hk)
    rw [if_pos h1, if_neg h2, if_pos rfl]; omega
  · rw [if_neg hq, Int.add_zero]
    have : (∃ k ∈ seen ++ [i], P[k]? = some q) ↔ ∃ k ∈ seen, P[k]? = some q := by
      constructor
      · rintro ⟨k, hk, e⟩
        rcases List.mem_append.1 hk with hk | hk
        · exact ⟨k, hk, e⟩
        · rw [List.mem_singleton] at hk; subst hk
          rw [hp] at e; injection e with e; exact absurd e.symm hq
      · rintro ⟨k, hk, e⟩; exact ⟨k, by simp [hk], e⟩
    simp only [this]
theorem Added.congr {H B : Hp} {w : Nat} {es : List (D × D × Nat)} {g g' : Nm → Int} (h : Added H w es g B) (e : ∀ p, g p = g' p) : Added H w es g' B := by
  obtain ⟨h1, h2, es', clk', ks, h3, h4, h5⟩ := h
  exact ⟨h1, h2, es', clk', ks, h3, h4, fun p => by rw [h5, e]⟩
set_option maxHeartbeats 4000000 in
theorem add_snd {w o cap clk : Nat} {es : List (D × D × Nat)} {ks : List Nm} {s j : Sb} {sg : Int} {l : List Sb} {X : List D} {H : Hp} {T : Tk} {Q : Post} (hw : H[w]? = some (.map es clk)) (hM : MpS ks es clk) (ho : H[o]? = some (.row (l.map D.str ++ X)))
    (hn : l.Nodup) (hl : l.length ≤ 1000) (hs : s.length ≤ 1000) (hj : j.length ≤ 1000) (hx : ∀ x ∈ l, x.length ≤ 1000) (hsg : sg = 1 ∨ sg = -1)
    (hb : ∀ a ∈ l, ∀ b ∈ l, 0 ≤ cntM es a s * cntM es j b ∧ cntM es a s * cntM es j b ≤ 2 ^ 61 ∧ 0 ≤ mval es (a, b) ∧ mval es (a, b) ≤ 2 ^ 61)
    (kQ : ∀ L U, Added H w es (fun p => if p.1 ∈ l ∧ p.2 ∈ l then sg * (cntM es p.1 s * cntM es j p.2) else 0) L → Q (.tup []) L (T ++ U)) :
    Snd Try.prog 70 [.mp w, .agg [.str s, .str j], .int .i64 sg, .ms false 1 o 0 l.length cap] H T Q := by
  have hM71 : MonoH [(71, φ71)] := .cons φ71_mono .nil
  have hX := XG_mono (P := Try.prog) [] [] [(71, φ71)] [] []
  refine call_of fn70 (by simp) (W_mono (X := XG Try.prog [] [] [(71, φ71)] [] []) (XG.X .nil (.cons ok71 .nil) .nil .nil) (fun _ _ h => h) ?_)
  have hlt : ∀ {i : Nat} {x : Ob}, H[i]? = some x → i < H.length := fun {i x} h => by
    rcases Nat.lt_or_ge i H.length with h' | h'
    · exact h'
    · rw [List.getElem?_eq_none h'] at h; cases h
  obtain ⟨f, hf⟩ : ∃ f : Nm → Int, f = fun p => cntM es p.1 s * cntM es j p.2 := ⟨_, rfl⟩
  simp +contextual (maxSteps := 10000000) only [c70, go_sem, W_draw]
  refine W_for (fun i s' => s'.t 0 = .mp w ∧ s'.t 2 = .int .i64 sg ∧ s'.t 3 = .ms false 1 o 0 l.length cap ∧ s'.t 5 = .ptr H.length 0 ∧ s'.t 8 = .mp (H.length + 1) ∧ s'.t 16 = .ms false 1 o 0 l.length cap ∧ s'.t 17 = .int .i64 (l.length : Int) ∧ s'.t 18 = .int .i64 (i : Int) ∧ s'.H = H ++ [.row [.str s, .str j], .map (entsP f (prs (l.take i) l)) (prs (l.take i) l).length] ∧ s'.T = T ∧ i ≤ l.length) l.length
    ⟨0, ?_⟩ (fun i s h => h.2.2.2.2.2.2.2.2.2.2) ?_ hX
  · simp [upd, argT, prs, entsP]
  rintro i ⟨t, B, T'⟩ ⟨r0, r2, r3, r5, r8, r16, r17, r18, rfl, rfl, hi⟩
  simp only at r0 r2 r3 r5 r8 r16 r17 r18
  by_cases ha : i < l.length
  · have d1 : decide ((i : Int) < l.length) = true := by simpa using ha
    have ea : l[i]? = some l[i] := by simp [ha]
    obtain ⟨a, hae⟩ : ∃ x, l[i] = x := ⟨_, rfl⟩
    have ham : a ∈ l := by rw [← hae]; exact List.getElem_mem ha
    rw [hae] at ea
    obtain ⟨P0, hP0⟩ : ∃ P, prs (l.take i) l = P := ⟨_, rfl⟩
    rw [hP0]
    obtain ⟨q1, Y, q2⟩ := txs_at (cap := cap) ((Ext.of H [.row [.str s, .str j], .map (entsP f P0) P0.length]).get ho) ea .i64
    simp +contextual (maxSteps := 10000000) only [r0, r2, r3, r5, r8, r16, r17, r18, d1, q1, q2, ld, List.head?_cons, go_sem, W_draw]
    refine W_for (fun k s' => s'.t 0 = .mp w ∧ s'.t 2 = .int .i64 sg ∧ s'.t 3 = .ms false 1 o 0 l.length cap ∧ s'.t 5 = .ptr H.length 0 ∧ s'.t 8 = .mp (H.length + 1) ∧ s'.t 16 = .ms false 1 o 0 l.length cap ∧ s'.t 17 = .int .i64 (l.length : Int) ∧ s'.t 18 = .int .i64 (i : Int) ∧ s'.t 10 = .str a ∧ s'.t 22 = .ms false 1 o 0 l.length cap ∧ s'.t 23 = .int .i64 (l.length : Int) ∧ s'.t 24 = .int .i64 (k : Int) ∧
        s'.H = H ++ [.row [.str s, .str j], .map (entsP f (P0 ++ (l.take k).map fun b => (a, b))) (P0 ++ (l.take k).map fun b => (a, b)).length] ∧ s'.T = T' ∧ k ≤ l.length) l.length
      ⟨0, ?_⟩ (fun i s h => h.2.2.2.2.2.2.2.2.2.2.2.2.2.2) ?_ hX
    · simp [upd, r0, r2, r3, r5, r8, r16, r17, r18]
    clear r0 r2 r3 r5 r8 r16 r17 r18 q1 q2
    rintro k ⟨t, B, T'⟩ ⟨r0, r2, r3, r5, r8, r16, r17, r18, r10, r22, r23, r24, rfl, rfl, hk⟩
    simp only at r0 r2 r3 r5 r8 r16 r17 r18 r10 r22 r23 r24
    by_cases hb' : k < l.length
    · have d2 : decide ((k : Int) < l.length) = true := by simpa using hb'
      have eb : l[k]? = some l[k] := by simp [hb']
      obtain ⟨b, hbe⟩ : ∃ x, l[k] = x := ⟨_, rfl⟩
      have hbm : b ∈ l := by rw [← hbe]; exact List.getElem_mem hb'
      rw [hbe] at eb
      have hnew := prs_new hn ea eb
      rw [hP0] at hnew
      have enext : P0 ++ (l.take (k + 1)).map (fun b => (a, b)) = P0 ++ (l.take k).map (fun b => (a, b)) ++ [(a, b)] := by rw [List.take_add_one, eb]; simp
      rw [enext]
      obtain ⟨P1, hP1⟩ : ∃ P, P0 ++ (l.take k).map (fun b => (a, b)) = P := ⟨_, rfl⟩
      rw [hP1] at hnew ⊢
      have hon : okNm (a, b) := ⟨by have := hx a ham; simp only; omega, by have := hx b hbm; simp only; omega⟩
      obtain ⟨R, hR⟩ : ∃ R : Hp, R = [.row [.str s, .str j], .map (entsP f P1) P1.length] := ⟨_, rfl⟩
      rw [← hR]
      have hwB : (H ++ R)[w]? = some (.map es clk) := (Ext.of H R).get hw
      obtain ⟨q1, Y, q2⟩ := txs_at (cap := cap) ((Ext.of H R).get ho) eb .i64
      have p1 := p71 hwB hM (a := a) (b := s) ⟨hon.1, by simp only; omega⟩
      have p2 := p71 hwB hM (a := j) (b := b) ⟨by simp only; omega, hon.2⟩
      have g5 : rdAt (H ++ R) (.ptr H.length 0) = some [.str s, .str j] := by simp [rdAt, hR]
      have g51 : rdAt (H ++ R) (.ptr H.length 1) = some [.str j] := by simp [rdAt, hR]
      have hbb := hb a ham b hbm
      have hwr : IntKind.i64.wrap (cntM es a s * cntM es j b) = f (a, b) := by rw [hf]; exact wrap_inY (by omega) (by omega)
      have hm8 : (H ++ R)[H.length + 1]? = some (.map (entsP f P1) P1.length) := by simp [hR]
      simp +contextual (maxSteps := 10000000) only [r0, r2, r3, r5, r8, r16, r17, r18, r10, r22, r23, r24, d2, q1, q2, g5, g51, p1, p2, hwr, ld, List.head?_cons, pcallG hM71, lookH_cons, lookH_nil, orK_n, go_sem, W_draw]
      refine mputK_new (p := (a, b)) (v := .int .i64 (f (a, b))) hon rfl hm8 (fnd_no 0 (entsP_keys f P1) hnew) ?_
      simp +contextual (maxSteps := 10000000) only [r0, r2, r3, r5, r8, r16, r17, r18, r10, r22, r23, r24, wrap_natY k (by omega), go_sem, W_draw]
      refine ⟨?_, by omega⟩
      rw [hR, List.set_append_right _ _ (by omega)]
      have e1 : H.length + 1 - H.length = 1 := by omega
      rw [e1, entsP_snoc]
      rfl
    · have d2 : decide ((k : Int) < l.length) = false := by simpa using hb'
      have hkl : l.take k = l := List.take_of_length_le (by omega)
      rw [hkl]
      have hnx : P0 ++ l.map (fun b => (a, b)) = prs (l.take (i + 1)) l := by rw [prs_take ea, hP0]
      simp +contextual (maxSteps := 10000000) only [r0, r2, r3, r5, r8, r16, r17, r18, r10, r22, r23, r24, d2, hnx, wrap_natY i (by omega), go_sem, W_draw]
      omega
  · have d1 : decide ((i : Int) < l.length) = false := by simpa using ha
    have hil : l.take i = l := List.take_of_length_le (by omega)
    rw [hil]
    obtain ⟨P, hP⟩ : ∃ P, prs l l = P := ⟨_, rfl⟩
    rw [hP]
    have hPn : P.Nodup := by
      rw [← hP]
      have key : ∀ (m : List Sb), m.Nodup → (prs m l).Nodup := by
        intro m
        induction m with
        | nil => intro _; simp [prs]
        | cons a m ih =>
          intro hm
          rw [List.nodup_cons] at hm
          have : prs (a :: m) l = l.map (fun b => (a, b)) ++ prs m l := by simp [prs]
          rw [this, List.nodup_append]
          refine ⟨?_, ih hm.2, fun x hx y hy e => ?_⟩
          · exact List.pairwise_map.2 (hn.imp fun h e => h (by injection e))
          · subst e
            obtain ⟨z, _, rfl⟩ := List.mem_map.1 hx
            exact hm.1 (prs_mem.1 hy).1
      exact key l hn
    have hPm : ∀ p, p ∈ P ↔ p.1 ∈ l ∧ p.2 ∈ l := fun p => by rw [← hP]; exact prs_mem
    obtain ⟨R, hR⟩ : ∃ R : Hp, R = [.row [.str s, .str j], .map (entsP f P) P.length] := ⟨_, rfl⟩
    rw [← hR]
    have hm8 : (H ++ R)[H.length + 1]? = some (.map (entsP f P) P.length) := by simp [hR]
    have hwl := hlt hw
    have hA0 : Added H w es (gSeen f P sg []) (H ++ R) := ⟨fun o ho _ => by rw [List.getElem?_append_left ho], by simp, es, clk, ks, by rw [List.getElem?_append_left hwl]; exact hw, hM, fun p => by simp [gSeen]⟩
    have hRl : (H ++ R).length = H.length + 2 := by simp [hR]
    simp +contextual (maxSteps := 10000000) only [r0, r2, r3, r5, r8, r16, r17, r18, d1, rngK_mp hm8, hRl, go_sem, W_draw]
    clear hi ha d1 r3 r5 r16 r17 r18
    refine W_for (fun i s' => s'.t 0 = .mp w ∧ s'.t 2 = .int .i64 sg ∧ s'.t 46 = .ptr (H.length + 2) 0 ∧ ∃ seen, Added H w es (gSeen f P sg seen) s'.H ∧ s'.H[H.length + 1]? = some (.map (entsP f P) P.length) ∧ s'.H[H.length + 2]? = some (.iter (some (H.length + 1)) P.length seen P.length) ∧ seen.Nodup ∧ (∀ x ∈ seen, x < P.length) ∧ seen.length = i ∧ s'.T = T') P.length
      ⟨0, ?_⟩ (fun i s h => ?_) ?_ hX
    · refine ⟨by simp [upd, r0], by simp [upd, r2], by simp [upd], [], ?_, ?_, ?_, by simp, by simp, rfl, rfl⟩
      all_goals simp only
      all_goals rw [← List.append_assoc]
      · exact hA0.push hwl _
      · rw [List.getElem?_append_left (by omega)]; exact hm8
      · rw [List.getElem?_append_right (by omega), hRl]; simp
    · obtain ⟨_, _, _, seen, _, _, _, h1, h2, rfl, _⟩ := h
      have := nodupN_le h1 h2
      exact this
    rintro i ⟨t, B, T2⟩ ⟨r0, r2, r46, seen, hA, hm, hit, hsn, hsl, rfl, rfl⟩
    simp only at r0 r2 r46 hA hm hit
    simp +contextual (maxSteps := 10000000) only [r0, r2, r46, go_sem, W_draw]
    refine nxtK_of hit hm (fun hall => ?_) (fun i p hp hi => ?_)
    · simp +contextual (maxSteps := 10000000) only [go_sem, W_draw]
      refine kQ B [] ?_ |> fun h => by simpa using h
      refine hA.congr fun p => ?_
      unfold gSeen
      by_cases hp : p.1 ∈ l ∧ p.2 ∈ l
      · obtain ⟨k, hk, hkp⟩ := List.getElem_of_mem ((hPm p).2 hp)
        rw [if_pos hp, if_pos ⟨k, hall k hk, by rw [List.getElem?_eq_getElem hk, hkp]⟩, hf]
      · rw [if_neg hp, if_neg]
        rintro ⟨k, _, e⟩
        exact hp ((hPm p).1 (List.mem_of_getElem? e))
    · have hpm := (hPm p).1 (List.mem_of_getElem? hp)
      have hon : okNm p := ⟨by have := hx _ hpm.1; omega, by have := hx _ hpm.2; omega⟩
      have hbb := hb p.1 hpm.1 p.2 hpm.2
      have hfp : f p = cntM es p.1 s * cntM es j p.2 := by rw [hf]
      rw [← hfp] at hbb
      have hiP : i < P.length := by
        rcases Nat.lt_or_ge i P.length with h' | h'
        · exact h'
        · rw [List.getElem?_eq_none h'] at hp; cases hp
      have hlB : H.length + 2 < B.length := by
        rcases Nat.lt_or_ge (H.length + 2) B.length with h' | h'
        · exact h'
        · rw [List.getElem?_eq_none h'] at hit; cases hit
      have hg := gSeen_next (f := f) (sg := sg) hPn hp hi
      have hsn2 : (seen ++ [i]).Nodup := List.nodup_append.2 ⟨hsn, by simp, fun a ha b hb e => by rw [List.mem_singleton] at hb; subst hb; subst e; exact hi ha⟩
      have hsl2 : ∀ x ∈ seen ++ [i], x < P.length := fun x hx => by
        rcases List.mem_append.1 hx with hx | hx
        · exact hsl x hx
        · rw [List.mem_singleton] at hx; subst hx; exact hiP
      have hA2 := hA.set hwl (o := H.length + 2) (by omega) (.iter (some (H.length + 1)) P.length (seen ++ [i]) P.length)
      obtain ⟨B2, hB2⟩ : ∃ B2, B.set (H.length + 2) (.iter (some (H.length + 1)) P.length (seen ++ [i]) P.length) = B2 := ⟨_, rfl⟩
      have hm2 : B2[H.length + 1]? = some (.map (entsP f P) P.length) := by rw [← hB2, List.getElem?_set_ne (by omega)]; exact hm
      have hit2 : B2[H.length + 2]? = some (.iter (some (H.length + 1)) P.length (seen ++ [i]) P.length) := by rw [← hB2, List.getElem?_set_self hlB]
      rw [hB2] at hA2 ⊢
      have hent := entD_at hit2 hm2 hp
      have hlB2 : H.length + 2 < B2.length := by rw [← hB2, List.length_set]; exact hlB
      have hA3 := hA2.push hwl [.row [.str p.1, .str p.2]]
      have hm3 : (B2 ++ [Ob.row [.str p.1, .str p.2]])[H.length + 1]? = some (.map (entsP f P) P.length) := by rw [List.getElem?_append_left (by omega)]; exact hm2
      have hit3 : (B2 ++ [Ob.row [.str p.1, .str p.2]])[H.length + 2]? = some (.iter (some (H.length + 1)) P.length (seen ++ [i]) P.length) := by rw [List.getElem?_append_left (by omega)]; exact hit2
      clear hA hA2 hm hit hB2 hlB
      have kd : keyD p = .agg [.str p.1, .str p.2] := rfl
      by_cases hz : f p = 0
      · have d1 : ((0 : Int) != 0) = false := by decide
        simp +contextual (maxSteps := 10000000) only [r0, r2, r46, hent, kd, hz, d1, go_sem, W_draw]
        refine ⟨seen ++ [i], hA3.congr fun q => ?_, hm3, hit3, hsn2, hsl2, by simp⟩
        rw [hg q]; split
        · rw [hz]; omega
        · omega
      · have d1 : (f p != 0) = true := by simpa using hz
        obtain ⟨fr3, len3, es3, clk3, ks3, hw3, hM3, hv3⟩ := hA3
        obtain ⟨B3, hB3⟩ : ∃ B3, B2 ++ [Ob.row [.str p.1, .str p.2]] = B3 := ⟨_, rfl⟩
        have g13 : rdAt B3 (.ptr B2.length 0) = some [.str p.1, .str p.2] := by rw [← hB3]; simp [rdAt]
        have hset13 : B2 ++ [Ob.row [.str p.1, .str p.2]] = B3 := hB3
        have hp0 : pu (D.int .i64 0) = true := rfl
        have hgp : gSeen f P sg seen p = 0 := by
          have h1 := hg p
          rw [if_pos rfl] at h1
          have h2 : gSeen f P sg (seen ++ [i]) p = sg * f p := if_pos ⟨i, by simp, hp⟩
          omega
        have hvp := hv3 p
        rw [hgp, Int.add_zero] at hvp
        have hpp : mval es p = mval es (p.1, p.2) := rfl
        have hsw : IntKind.i64.wrap (sg * f p) = sg * f p := by rcases hsg with h | h <;> rw [h] <;> exact wrap_inY (by omega) (by omega)
        have hsw2 : IntKind.i64.wrap (mval es3 p + sg * f p) = mval es3 p + sg * f p := by rw [hvp]; rcases hsg with h | h <;> rw [h] <;> exact wrap_inY (by omega) (by omega)
        rw [hB3] at fr3 len3 hw3 hm3 hit3
        have hwl3 : w < B3.length := by omega
        have fin : ∀ es4 clk4 ks4, MpS ks4 es4 clk4 → (∀ q, mval es4 q = if q = p then mval es3 p + sg * f p else mval es3 q) → Added H w es (gSeen f P sg (seen ++ [i])) (B3.set w (.map es4 clk4)) := fun es4 clk4 ks4 h1 h2 =>
          ⟨fun o ho hne => by rw [List.getElem?_set_ne (Ne.symm hne)]; exact fr3 o ho hne, by rw [List.length_set]; exact len3, es4, clk4, ks4, List.getElem?_set_self hwl3, h1, fun q => by
            rw [h2 q, hg q]
            split
            · rename_i e; subst e; rw [hvp, hgp]; omega
            · rw [hv3 q]; omega⟩
        have hm4 : ∀ y, (B3.set w y)[H.length + 1]? = some (.map (entsP f P) P.length) := fun y => by rw [List.getElem?_set_ne (by omega)]; exact hm3
        have hit4 : ∀ y, (B3.set w y)[H.length + 2]? = some (.iter (some (H.length + 1)) P.length (seen ++ [i]) P.length) := fun y => by rw [List.getElem?_set_ne (by omega)]; exact hit3
        rcases fnd_ps p hM3 with ⟨hpk, h1, h2⟩ | ⟨q, v, h1, h3, h2, h4, _⟩
        · have hmg := mget_eq hon hw3 h1
          simp only at hmg
          have hM4 := hM3.push p 0
          have hf4 := fnd_push (p := p) (v := .int .i64 0) (b := clk3) 0 hM3.k hpk
          have hw4 : (B3.set w (.map (es3 ++ [(keyD p, .int .i64 0, clk3)]) (clk3 + 1)))[w]? = some (.map (es3 ++ [(keyD p, .int .i64 0, clk3)]) (clk3 + 1)) := List.getElem?_set_self hwl3
          have hmg4 := mget_eq hon hw4 hf4
          simp only at hmg4
          have hcl := hM3.c
          have hidx := born_idx hM4.b (i := clk3) (by simp; omega)
          have hlast : (es3 ++ [(keyD p, D.int .i64 0, clk3)])[clk3]? = some (keyD p, .int .i64 0, clk3) := by
            rw [List.getElem?_append_right (by omega), hcl]; simp
          rw [h2] at hsw2
          simp +contextual (maxSteps := 10000000) only [r0, r2, r46, hent, kd, d1, hset13, g13, hp0, hmg, hsw, hsw2, go_sem, W_draw]
          refine mentK_eq (zv := .int .i64 0) (kok_key hon) rfl hw3 h1 ?_
          simp only
          obtain ⟨B4, hB4⟩ : ∃ B4, B3.set w (.map (es3 ++ [(keyD p, .int .i64 0, clk3)]) (clk3 + 1)) = B4 := ⟨_, rfl⟩
          have hB4' : B3.set w (.map (es3 ++ [(.agg [.str p.1, .str p.2], .int .i64 0, clk3)]) (clk3 + 1)) = B4 := hB4
          rw [hB4] at hmg4 hw4
          rw [hB4']
          simp +contextual (maxSteps := 10000000) only [r0, r2, r46, hp0, hmg4, go_sem, W_draw]
          refine mstK_eq rfl hw4 hidx hlast ?_
          have hset4 : ∀ y, B4.set w y = B3.set w y := fun y => by rw [← hB4, List.set_set]
          rw [hset4]
          simp +contextual (maxSteps := 10000000) only [r0, r2, r46, go_sem, W_draw]
          refine ⟨seen ++ [i], fin _ _ _ (hM4.set hlast _) fun q => ?_, hm4 _, hit4 _, hsn2, hsl2, by simp⟩
          have := mval_set hM4 (p := p) (j := clk3) (v := 0) (by rw [hf4]; congr 3; omega) hlast (0 + sg * f p) q
          rw [h2, this]
          split
          · rfl
          · exact mval_push hM3 hpk 0 clk3 q |>.trans (if_neg (by assumption))
        · have hmg := mget_eq hon hw3 h1
          simp only at hmg
          rw [h2] at hsw2
          simp +contextual (maxSteps := 10000000) only [r0, r2, r46, hent, kd, d1, hset13, g13, hp0, hmg, hsw, hsw2, go_sem, W_draw]
          refine mentK_eq (zv := .int .i64 0) (kok_key hon) rfl hw3 h1 ?_
          simp only
          have h3' : es3[q]? = some (D.agg [.str p.1, .str p.2], .int .i64 v, q) := h3
          rw [setSm h3', setSm hw3]
          simp +contextual (maxSteps := 10000000) only [r0, r2, r46, hp0, hmg, go_sem, W_draw]
          refine mstK_eq rfl hw3 (born_idx hM3.b h4) h3 ?_
          simp +contextual (maxSteps := 10000000) only [r0, r2, r46, go_sem, W_draw]
          refine ⟨seen ++ [i], fin _ _ _ (hM3.set h3 _) fun q' => ?_, hm4 _, hit4 _, hsn2, hsl2, by simp⟩
          rw [h2]
          exact mval_set hM3 h1 h3 _ q'
end GP
namespace GP
open Go Go.Proofs
set_option maxRecDepth 100000
variable [HasG Try.prog]
def φCon (H : Hp) : List D → Option D
  | [d, .agg [.str a, .str b]] => match edsM H d with
    | some l => if l.length ≤ 2 ^ 40 then some (.bool (l.contains (a, b))) else none
    | none => none
  | _ => none
theorem φCon_mono : Mo φCon := by
  intro H H' args r hl h
  unfold φCon at h ⊢
  split at h
  · rename_i d a b
    split at h
    · rename_i l hL
      simp only [edsM_mono hl hL]; exact h
    · cases h
  · cases h
theorem idxE_ge (l : List Ed) (e : Ed) : decide ((0 : Int) ≤ idxE l e) = l.contains e := by
  unfold idxE
  cases h : l.contains e with
  | true => simp
  | false => rw [if_neg (by simp)]; rfl
def conC2 (g : FuncId) : C :=
  (.seq (.reg [⟨(some 3), none, .box (.t 1)⟩, ⟨(some 4), none, .mv (.k (.bool false))⟩])
  (.seq (.reg [⟨(some 5), none, .mv (.t 0)⟩, ⟨(some 6), none, .load true 2 (.t 3)⟩, ⟨(some 7), none, .pcall (.k (.fn g [] [])) [(.t 5), (.t 6)]⟩, ⟨(some 8), none, .bin .geq (.t 7) (.k (.int .i64 0))⟩, ⟨(some 4), none, .mv (.t 8)⟩])
  .ret))
theorem okConE {N M : FuncId} (hi : OkAtH Try.prog M φIdx) (hf : Fn Try.prog N 9 [.inl 4] (conC2 M)) : OkAtH Try.prog N φCon := by
  have hM : MonoH [(M, φIdx)] := .cons φIdx_mono .nil
  refine okH_of (l := []) (m := [(M, φIdx)]) .nil (.cons hi .nil) hf fun H args r h => ?_
  unfold φCon at h
  split at h
  · rename_i d a b
    split at h
    · rename_i l hL
      split at h
      · rename_i hl
        injection h with h; subst h
        refine ⟨by simp, by simp [D.cl], fun T => ?_⟩
        have her := edsM_er hL
        have p : φIdx (H ++ [Ob.row [.str a, .str b]]) [d, .agg [.str a, .str b]] = some (.int .i64 (idxE l (a, b))) := by
          simp only [φIdx, edsM_mono (hle_ext (Ext.of H _)) hL]
          rw [if_pos hl]
        have q := idxE_ge l (a, b)
        simp +contextual (maxSteps := 10000000) only [conC2, her, p, q, pcallH hM, lookH_cons, lookH_nil, orK_n, eq_self, go_sem, W_draw]
      · cases h
    · cases h
  · cases h
theorem ok69 : OkAtH Try.prog 69 φCon := okConE ok110 fn69
theorem ok112 : OkAtH Try.prog 112 φCon := okConE ok113 fn112
def φ34 (H : Hp) : List D → Option D
  | [.ptr p 0, .str a, .str b] => if a.length ≤ 2 ^ 40 ∧ b.length ≤ 2 ^ 40 then
      (if nmB a && nmB b then (match rdAt H (.ptr p 2) with
        | some [.mp w] => (match φ71 H [.mp w, .str a, .str b] with
          | some (.int .i64 v) => some (.bool (decide (0 < v)))
          | _ => none)
        | _ => none)
      else some (.bool false)) else none
  | _ => none
theorem φ34_mono : Mo φ34 := by
  intro H H' args r hl h
  unfold φ34 at h ⊢
  split at h
  · rename_i p a b
    split at h
    · rename_i hc
      rw [if_pos hc]
      split at h
      · rename_i hn
        rw [if_pos hn]
        split at h
        · rename_i w hw
          have : rdAt H' (.ptr p 2) = some [.mp w] := by
            simp only [rdAt] at hw ⊢
            split at hw
            · rename_i cs ho; rw [hl _ _ ho rfl]; exact hw
            · cases hw
          rw [this]
          simp only
          split at h
          · rename_i v hv
            rw [φ71_mono H H' _ _ hl hv]; exact h
          · cases h
        · cases h
      · rename_i hn; rw [if_neg hn]; exact h
    · cases h
  · cases h
theorem ok34 : OkAtH Try.prog 34 φ34 := by
  have hM : MonoH [(71, φ71)] := .cons φ71_mono .nil
  refine okH_of (l := [(68, φ68)]) (m := [(71, φ71)]) (.cons ok68 .nil) (.cons ok71 .nil) fn34 fun H args r h => ?_
  unfold φ34 at h
  split at h
  · rename_i p a b
    split at h
    · rename_i hc
      have p1 : φ68 [.sl none [.str a, .str b]] = some (.bool (nmB a && nmB b)) := by
        simp only [φ68, strsD, Option.map_some]
        rw [if_pos ⟨by simp, by simp [hc.1, hc.2]⟩]
        simp [namedB]
      split at h
      · rename_i hn
        split at h
        · rename_i w hw
          split at h
          · rename_i v hv
            injection h with h; subst h
            refine ⟨by simp, by simp [D.cl], fun T => ?_⟩
            rw [hn] at p1
            simp +contextual (maxSteps := 10000000) only [c34, p1, hw, hv, nilc_ptr, ld, List.head?_cons, pcallH hM, lookH_cons, lookH_nil, orK_n, orK_s, eq_self, go_sem, W_draw]
          · cases h
        · cases h
      · rename_i hn
        injection h with h; subst h
        refine ⟨by simp, by simp [D.cl], fun T => ?_⟩
        have hn : (nmB a && nmB b) = false := by simpa using hn
        rw [hn] at p1
        simp +contextual (maxSteps := 10000000) only [c34, p1, pcallH hM, lookH_cons, lookH_nil, orK_n, orK_s, eq_self, go_sem, W_draw]
    · cases h
  · cases h
def Sl (H : Hp) (o : Nat) (d : D) (l : List Ed) : Prop := (d = .nils ∧ l = []) ∨ ∃ cap X, d = .ms true 2 o 0 l.length cap ∧ H[o]? = some (.row (flE l ++ X)) ∧ (flE l ++ X).length = cap * 2
theorem Sl.eds {H : Hp} {o : Nat} {d : D} {l : List Ed} (h : Sl H o d l) : edsM H d = some l := by
  rcases h with ⟨rfl, rfl⟩ | ⟨cap, X, rfl, h1, h2⟩
  · rfl
  · exact edsM_ms h1
theorem Sl.mono {H H' : Hp} {o : Nat} {d : D} {l : List Ed} (h : Sl H o d l) (e : d ≠ .nils → H'[o]? = H[o]?) : Sl H' o d l := by
  rcases h with h | ⟨cap, X, rfl, h1, h2⟩
  · exact .inl h
  · exact .inr ⟨cap, X, rfl, by rw [e (by simp)]; exact h1, h2⟩
structure RosD (H : Hp) (p oe om w : Nat) (es ms : List Ed) (eD mD : D) (ents : List (D × D × Nat)) (clk : Nat) (ks : List Nm) (c : Sb → Sb → Int) (r : Sb → Nat) : Prop where
  row : H[p]? = some (.row [eD, mD, .mp w])
  e : Sl H oe eD es
  m : Sl H om mD ms
  ne : eD = .nils ∨ mD = .nils ∨ oe ≠ om
  mp : H[w]? = some (.map ents clk)
  ks : MpS ks ents clk
  cnt : Cnt es c r
  val : ∀ a b, mval ents (a, b) = if a = b then 0 else c a b
  en : es.Nodup
  mn : ms.Nodup
  eok : ∀ x ∈ es, nmB x.1 = true ∧ nmB x.2 = true
  mok : ∀ x ∈ ms, nmB x.1 = true ∧ nmB x.2 = true
  el : es.length ≤ 60
  ml : ms.length ≤ 100
def Ros (H : Hp) (p oe om w : Nat) (es ms : List Ed) : Prop := ∃ eD mD ents clk ks c r, RosD H p oe om w es ms eD mD ents clk ks c r
theorem nm_len {s : Sb} (h : nmB s = true) : s.length ≤ 64 := by
  unfold nmB at h; simp only [Bool.and_eq_true, decide_eq_true_eq] at h; exact h.2
theorem RosD.cntM {H : Hp} {p oe om w : Nat} {es ms : List Ed} {eD mD : D} {ents : List (D × D × Nat)} {clk : Nat} {ks : List Nm} {c : Sb → Sb → Int} {r : Sb → Nat} (h : RosD H p oe om w es ms eD mD ents clk ks c r) (a b : Sb) : cntM ents a b = c a b := by
  unfold GP.cntM
  split
  · rename_i e; subst e; exact (h.cnt.self a).symm
  · rename_i e; rw [h.val a b, if_neg e]
theorem RosD.reach {H : Hp} {p oe om w : Nat} {es ms : List Ed} {eD mD : D} {ents : List (D × D × Nat)} {clk : Nat} {ks : List Nm} {c : Sb → Sb → Int} {r : Sb → Nat} (h : RosD H p oe om w es ms eD mD ents clk ks c r) (a b : Sb) : decide (0 < c a b) = (reachL es a).contains b := by
  have h1 := reached h.cnt a (by have := h.el; omega) b
  have h2 := h.cnt.pos a b
  rw [Bool.eq_iff_iff, decide_eq_true_eq, List.contains_iff_mem]
  unfold reachL
  rw [h1]
  omega
theorem p34 {H : Hp} {p oe om w : Nat} {es ms : List Ed} (h : Ros H p oe om w es ms) {a b : Sb} (ha : a.length ≤ 1000) (hb : b.length ≤ 1000) : φ34 H [.ptr p 0, .str a, .str b] = some (.bool (reachB es a b)) := by
  obtain ⟨eD, mD, ents, clk, ks, c, r, h⟩ := h
  simp only [φ34]
  rw [if_pos ⟨by omega, by omega⟩]
  unfold reachB
  split
  · rename_i hn
    have e1 : rdAt H (.ptr p 2) = some [.mp w] := by simp [rdAt, h.row]
    rw [e1]
    simp only
    rw [p71 h.mp h.ks ⟨by simp only; omega, by simp only; omega⟩]
    simp only
    rw [h.cntM, h.reach, hn, Bool.true_and]
  · rename_i hn
    have hn : (nmB a && nmB b) = false := by simpa using hn
    rw [hn]; rfl
end GP
namespace GP
open Go Go.Proofs
set_option maxRecDepth 100000
variable [HasG Try.prog]
theorem snd_er {P : Program} [HasG P] {f : FuncId} {args args' : List D} {H : Hp} {T : Tk} {Q : Post} (he : D.eraseL args' = args) (h : Snd P f args H T Q) : Snd P f args' H T Q := fun c w vs hg k1 k2 k3 =>
  h c w vs hg k1 k2 (by rw [← he]; exact k3.erase)
theorem lt_get {H : Hp} {i : Nat} {x : Ob} (h : H[i]? = some x) : i < H.length := by
  rcases Nat.lt_or_ge i H.length with h' | h'
  · exact h'
  · rw [List.getElem?_eq_none h'] at h; cases h
def Fr (S : List Nat) (H B : Hp) : Prop := H.length ≤ B.length ∧ ∀ o, o < H.length → o ∉ S → B[o]? = H[o]?
theorem Fr.refl (S : List Nat) (H : Hp) : Fr S H H := ⟨Nat.le_refl _, fun _ _ _ => rfl⟩
theorem Fr.ext (S : List Nat) {H B : Hp} (h : Ext H B) : Fr S H B := by
  obtain ⟨L, rfl⟩ := h
  exact ⟨by simp, fun o ho _ => List.getElem?_append_left ho⟩
theorem Fr.trans {S S' : List Nat} {A B C : Hp} (h : Fr S A B) (k : Fr S' B C) (hs : ∀ o ∈ S', o ∈ S ∨ A.length ≤ o) : Fr S A C :=
  ⟨Nat.le_trans h.1 k.1, fun o ho hn => by
    rw [k.2 o (Nat.lt_of_lt_of_le ho h.1) fun hm => by
      rcases hs o hm with h' | h'
      · exact hn h'
      · omega]
    exact h.2 o ho hn⟩
variable {H B : Hp} {p oe om w : Nat} {es ms : List Ed} {eD mD : D} {ents : List (D × D × Nat)} {clk : Nat} {ks : List Nm} {c : Sb → Sb → Int} {r : Sb → Nat}
theorem RosD.lts (h : RosD H p oe om w es ms eD mD ents clk ks c r) : p < H.length ∧ w < H.length ∧ p ≠ w ∧ (eD ≠ .nils → oe < H.length ∧ oe ≠ p ∧ oe ≠ w) ∧ (mD ≠ .nils → om < H.length ∧ om ≠ p ∧ om ≠ w) := by
  have key : ∀ {o : Nat} {d : D} {l : List Ed}, Sl H o d l → d ≠ .nils → o < H.length ∧ o ≠ p ∧ o ≠ w := fun {o d l} hs hd => by
    rcases hs with ⟨rfl, _⟩ | ⟨cap, X, rfl, h1, h2⟩
    · exact absurd rfl hd
    · refine ⟨lt_get h1, fun e => ?_, fun e => ?_⟩
      · subst e
        have := h.row
        rw [h1] at this
        injection this with this; injection this with this
        rw [this] at h2; simp at h2; omega
      · subst e
        have := h.mp
        rw [h1] at this; cases this
  refine ⟨lt_get h.row, lt_get h.mp, fun e => ?_, key h.e, key h.m⟩
  have h1 := h.row
  rw [e, h.mp] at h1; cases h1
theorem RosD.mono (h : RosD H p oe om w es ms eD mD ents clk ks c r) (e1 : B[p]? = H[p]?) (e2 : eD ≠ .nils → B[oe]? = H[oe]?) (e3 : mD ≠ .nils → B[om]? = H[om]?) (e4 : B[w]? = H[w]?) : RosD B p oe om w es ms eD mD ents clk ks c r :=
  { h with row := by rw [e1]; exact h.row, e := h.e.mono e2, m := h.m.mono e3, mp := by rw [e4]; exact h.mp }
theorem RosD.fr {S : List Nat} (h : RosD H p oe om w es ms eD mD ents clk ks c r) (hf : Fr S H B) (h1 : p ∉ S) (h2 : oe ∉ S) (h3 : om ∉ S) (h4 : w ∉ S) : RosD B p oe om w es ms eD mD ents clk ks c r := by
  obtain ⟨l1, l2, _, l3, l4⟩ := h.lts
  exact h.mono (hf.2 p l1 h1) (fun h => hf.2 oe (l3 h).1 h2) (fun h => hf.2 om (l4 h).1 h3) (hf.2 w l2 h4)
theorem RosD.ext (h : RosD H p oe om w es ms eD mD ents clk ks c r) (hE : Ext H B) : RosD B p oe om w es ms eD mD ents clk ks c r := h.fr (Fr.ext [] hE) (by simp) (by simp) (by simp) (by simp)
theorem Ros.fr {S : List Nat} (h : Ros H p oe om w es ms) (hf : Fr S H B) (h1 : p ∉ S) (h2 : oe ∉ S) (h3 : om ∉ S) (h4 : w ∉ S) : Ros B p oe om w es ms := by
  obtain ⟨eD, mD, ents, clk, ks, c, r, h⟩ := h
  exact ⟨eD, mD, ents, clk, ks, c, r, h.fr hf h1 h2 h3 h4⟩
@[go_sem] theorem okc_mp (o : Nat) : (D.mp o).okc = true := rfl
@[go_sem] theorem cells_mp (o : Nat) : (D.mp o).cells = [.mp o] := rfl
def nlB : D → Bool
  | .nils => true
  | _ => false
theorem new_snd {T : Tk} {Q : Post} (k : ∀ B p w, Ext H B → H.length ≤ p → H.length ≤ w → Ros B p p p w [] [] → Q (.ptr p 0) B T) : Snd Try.prog 31 [] H T Q := by
  refine call_of fn31 (by simp) (W_mono (X := XL []) (Ok.X .nil) (fun _ _ h => h) ?_)
  simp +contextual (maxSteps := 10000000) only [c31, go_sem, W_draw]
  refine k _ (H.length + 1) H.length (Ext.of _ _) (by omega) (Nat.le_refl _) ⟨.nils, .nils, [], 0, [], fun a b => if a = b then 1 else 0, fun _ => 0, ?_⟩
  exact { row := by simp, e := .inl ⟨rfl, rfl⟩, m := .inl ⟨rfl, rfl⟩, ne := .inl rfl, mp := by simp, ks := MpS.nil, cnt := ⟨by simp, fun a b => by simp [ecnt]⟩, val := fun a b => by simp [mval, fnd], en := by simp, mn := by simp, eok := by simp, mok := by simp, el := by simp, ml := by simp }
theorem appE {K : D → S → Prop} {t : Nat → D} {U : Tk} {o : Nat} {d : D} {l : List Ed} (h : Sl B o d l) (e : Ed) (hl : l.length ≤ 1000) (k : ∀ B' o' d', Sl B' o' d' (l ++ [e]) → d' ≠ .nils → (o' = o ∧ d ≠ .nils ∨ o' = B.length) → Fr (if nlB d then [] else [o]) B B' → K d' ⟨t, B', U⟩) :
    appmK true 2 32 K ⟨t, B, U⟩ d (some [.agg [.str e.1, .str e.2]]) := by
  refine ⟨rfl, ?_⟩
  rcases h with ⟨rfl, rfl⟩ | ⟨cap, X, rfl, h1, h2⟩
  · simp only
    rw [if_neg (by simp)]
    refine ⟨by simp, by simp, k _ B.length _ (.inr ⟨1, [], rfl, by simp [flE, flatD, D.cells], by simp [flE]⟩) (by simp) (.inr rfl) (Fr.ext _ (Ext.of _ _))⟩
  · have hcl : l.length ≤ cap := by rw [List.length_append, flE_len] at h2; omega
    have hlo := lt_get h1
    simp only [h1]
    refine ⟨trivial, ?_⟩
    simp only [List.length_cons, List.length_nil, Nat.zero_add]
    by_cases hc : l.length + 1 ≤ cap
    · rw [if_pos hc]
      refine ⟨by omega, ?_⟩
      have e1 : (flE l ++ X).take (l.length * 2) ++ flatD [.agg [.str e.1, .str e.2]] ++ (flE l ++ X).drop ((l.length + 1) * 2) = flE (l ++ [e]) ++ X.drop 2 := by
        rw [List.take_left' (flE_len l), flE_app, show (l.length + 1) * 2 = l.length * 2 + 2 by omega, ← List.drop_drop, List.drop_left' (flE_len l)]
        simp [flE, flatD, D.cells]
      rw [e1]
      refine k _ o _ (.inr ⟨cap, X.drop 2, by simp, by simp [hlo], ?_⟩) (by simp) (.inl ⟨rfl, by simp⟩) ⟨by simp, fun o' _ hn => ?_⟩
      · rw [List.length_append, flE_len] at h2 ⊢; simp; omega
      · simp only [nlB, Bool.false_eq_true, if_false, List.mem_singleton] at hn
        rw [List.getElem?_set_ne (Ne.symm hn)]
    · rw [if_neg hc]
      have hX : X = [] := by
        rw [List.length_append, flE_len] at h2
        exact List.eq_nil_of_length_eq_zero (by omega)
      subst hX
      refine ⟨trivial, by simp [flE_len], by omega, by omega, ?_⟩
      refine k _ B.length _ (.inr ⟨l.length + 1, [], by simp, ?_, by simp [flE_len]⟩) (by simp) (.inr rfl) ⟨by simp, fun o' ho hn => ?_⟩
      · rw [List.getElem?_append_right (by simp)]; simp [flE, flatD, D.cells]
      · simp only [nlB, Bool.false_eq_true, if_false, List.mem_singleton] at hn
        rw [List.getElem?_append_left (by simpa using ho), List.getElem?_set_ne (Ne.symm hn)]
theorem Cnt.prod0 {E : List Ed} (h : Cnt E c r) {s j : Sb} (hjs : c j s = 0) (a : Sb) : c a s * c j a = 0 := by
  by_cases h1 : c a s = 0
  · rw [h1]; simp
  · by_cases h2 : c j a = 0
    · rw [h2]; simp
    · exact absurd hjs (h.trans h2 h1)
theorem pow_le60 {n : Nat} (h : n ≤ 60) : (2 : Int) ^ n ≤ 2 ^ 60 := by
  have := Nat.pow_le_pow_right (n := 2) (by omega) h
  exact_mod_cast this
theorem cntR_names (es ms : List Ed) (more : List Sb) : (namesS (n3 more es ms)).length = cntR es ms more := by
  obtain ⟨h1, h2⟩ := once_spec (n3 more es ms) [] (by simp)
  exact names_len h1 fun x => by rw [h2 x]; simp
end GP
namespace GP
open Go Go.Proofs
set_option maxRecDepth 100000
variable [HasG Try.prog]
theorem Sl.cell {H : Hp} {o : Nat} {d : D} {l : List Ed} (h : Sl H o d l) (hn : d ≠ .nils) : d.okc = true ∧ d.cells = [d] := by
  rcases h with ⟨rfl, _⟩ | ⟨cap, X, rfl, _⟩
  · exact absurd rfl hn
  · exact ⟨rfl, rfl⟩
theorem Ext.ln {H B : Hp} (h : Ext H B) : H.length ≤ B.length := by obtain ⟨L, rfl⟩ := h; simp
def RosS (H : Hp) (p : Nat) (S : List Nat) (es ms : List Ed) : Prop := (∀ o ∈ S, o < H.length) ∧ ∃ oe om w, p ∈ S ∧ oe ∈ S ∧ om ∈ S ∧ w ∈ S ∧ Ros H p oe om w es ms
def Stp (H B : Hp) (p : Nat) (S : List Nat) (es ms : List Ed) : Prop := ∃ S', RosS B p S' es ms ∧ Fr S H B ∧ ∀ o ∈ S', o ∈ S ∨ H.length ≤ o
variable {H B : Hp} {p oe om w : Nat} {S : List Nat} {es ms : List Ed} {eD mD : D} {ents : List (D × D × Nat)} {clk : Nat} {ks : List Nm} {c : Sb → Sb → Int} {r : Sb → Nat}
theorem RosS.fr {S2 : List Nat} (h : RosS H p S es ms) (hf : Fr S2 H B) (hd : ∀ o ∈ S, o ∉ S2) : RosS B p S es ms := by
  obtain ⟨h1, oe, om, w, k1, k2, k3, k4, k⟩ := h
  exact ⟨fun o ho => Nat.lt_of_lt_of_le (h1 o ho) hf.1, oe, om, w, k1, k2, k3, k4, k.fr hf (hd _ k1) (hd _ k2) (hd _ k3) (hd _ k4)⟩
theorem RosS.stay (h : RosS H p S es ms) (hE : Ext H B) : Stp H B p S es ms := ⟨S, h.fr (Fr.ext [] hE) (by simp), Fr.ext S hE, fun o ho => .inl ho⟩
theorem Stp.trans {C : Hp} {S : List Nat} {es ms : List Ed} (h : Fr S H B) (hs : ∀ o ∈ S, o < H.length) {S' : List Nat} (h2 : ∀ o ∈ S', o ∈ S ∨ H.length ≤ o) (k : Stp B C p S' es ms) : Stp H C p S es ms := by
  obtain ⟨S2, k1, k2, k3⟩ := k
  refine ⟨S2, k1, h.trans k2 h2, fun o ho => ?_⟩
  rcases k3 o ho with h' | h'
  · exact h2 o h'
  · exact .inr (Nat.le_trans h.1 h')
theorem RosS.make (h : RosD B p oe om w es ms eD mD ents clk ks c r) (hf : Fr S H B) (hp : p ∈ S) (hw : w ∈ S) (he : eD ≠ .nils → oe ∈ S ∨ H.length ≤ oe) (hm : mD ≠ .nils → om ∈ S ∨ H.length ≤ om) (hS : ∀ o ∈ S, o < H.length) : Stp H B p S es ms := by
  obtain ⟨l1, l2, l3, l4, l5⟩ := h.lts
  refine ⟨[p, w, if nlB eD then p else oe, if nlB mD then p else om], ⟨?_, if nlB eD then p else oe, if nlB mD then p else om, w, by simp, by simp, by simp, by simp, eD, mD, ents, clk, ks, c, r, ?_⟩, hf, ?_⟩
  · intro o ho
    simp only [List.mem_cons, List.not_mem_nil, or_false] at ho
    rcases ho with rfl | rfl | rfl | rfl
    · exact l1
    · exact l2
    · split
      · exact l1
      · rename_i hn; exact (l4 (by rintro rfl; exact hn rfl)).1
    · split
      · exact l1
      · rename_i hn; exact (l5 (by rintro rfl; exact hn rfl)).1
  · refine { h with e := ?_, m := ?_, ne := ?_ }
    · split
      · rename_i hn
        rcases h.e with ⟨rfl, rfl⟩ | ⟨cap, X, rfl, _⟩
        · exact .inl ⟨rfl, rfl⟩
        · simp [nlB] at hn
      · exact h.e
    · split
      · rename_i hn
        rcases h.m with ⟨rfl, rfl⟩ | ⟨cap, X, rfl, _⟩
        · exact .inl ⟨rfl, rfl⟩
        · simp [nlB] at hn
      · exact h.m
    · rcases h.e with ⟨rfl, _⟩ | ⟨cap, X, rfl, _⟩
      · exact .inl rfl
      · rcases h.m with ⟨rfl, _⟩ | ⟨cap', X', rfl, _⟩
        · exact .inr (.inl rfl)
        · simpa [nlB] using h.ne
  · intro o ho
    simp only [List.mem_cons, List.not_mem_nil, or_false] at ho
    rcases ho with rfl | rfl | rfl | rfl
    · exact .inl hp
    · exact .inl hw
    · split
      · exact .inl hp
      · rename_i hn; exact he (by rintro rfl; exact hn rfl)
    · split
      · exact .inl hp
      · rename_i hn; exact hm (by rintro rfl; exact hn rfl)
theorem tf' (b : Bool) : b = false ∨ b = true := by cases b <;> simp
theorem n3_ne {s j : Sb} : n3 [s, j] es ms ≠ [] := by simp [n3]
theorem names_nm {l : List Sb} {x : Sb} : x ∈ namesS (n3 l es ms) ↔ x ∈ l ∨ (∃ e ∈ es, x = e.1 ∨ x = e.2) ∨ x ∈ ms.map (·.2) := by
  rw [names_mem]
  simp only [n3, heldL, List.mem_append, ends, List.mem_flatten, List.mem_map]
  constructor
  · rintro ((h | ⟨m, ⟨e, he, rfl⟩, hx⟩) | h)
    · exact .inl h
    · simp only [List.mem_cons, List.not_mem_nil, or_false] at hx
      exact .inr (.inl ⟨e, he, hx⟩)
    · exact .inr (.inr h)
  · rintro (h | ⟨e, he, hx⟩ | h)
    · exact .inl (.inl h)
    · exact .inl (.inr ⟨_, ⟨e, he, rfl⟩, by simpa using hx⟩)
    · exact .inr h
theorem Cnt.out0 (h : Cnt es c r) {L : List Sb} (hL : ∀ e ∈ es, e.1 ∈ L ∧ e.2 ∈ L) {s j a b : Sb} (hs : s ∈ L) (hj : j ∈ L) (hab : ¬ (a ∈ L ∧ b ∈ L)) : c a s * c j b = 0 := by
  by_cases ha : a ∈ L
  · have hb : b ∉ L := fun h => hab ⟨ha, h⟩
    have : c j b = 0 := h.noin (fun e he e' => hb (by rw [← e']; exact (hL e he).2)) _ j (Nat.lt_succ_self _) (fun e' => hb (by rw [← e']; exact hj))
    rw [this]; simp
  · have : c a s = 0 := h.noout (fun e he e' => ha (by rw [← e']; exact (hL e he).1)) (fun e' => ha (by rw [e']; exact hs))
    rw [this]; simp
theorem errR_0 (E M : List Ed) (a b : Sb) : errR E M 0 a b = if nmB a && nmB b then (if E.contains (a, b) then 9 else if reachB E b a then 10 else if decide (24 < cntR E M [a, b]) then 13 else 0) else 1 := rfl
theorem errR_1 (E M : List Ed) (a b : Sb) : errR E M 1 a b = if E.contains (a, b) then 0 else 8 := rfl
theorem errR_2 (E M : List Ed) (a b : Sb) : errR E M 2 a b = if nmB a && nmB b then (if M.contains (a, b) then 9 else if decide (24 < cntR E M [b]) || decide (96 ≤ M.length) then 13 else 0) else 1 := rfl
theorem errR_3 (E M : List Ed) (a b : Sb) : errR E M 3 a b = if M.contains (a, b) then 0 else 8 := rfl
theorem pN {a b : Sb} (ha : a.length ≤ 1000) (hb : b.length ≤ 1000) : φ68 [.sl none [.str a, .str b]] = some (.bool (nmB a && nmB b)) := by
  simp only [φ68, strsD, Option.map_some]
  rw [if_pos ⟨by simp, by simp; omega⟩]
  simp [namedB]
theorem pC {d : D} {l : List Ed} (h : edsM H d = some l) (hl : l.length ≤ 1000) (a b : Sb) : φCon H [d, .agg [.str a, .str b]] = some (.bool (l.contains (a, b))) := by
  simp only [φCon, h]
  rw [if_pos (by omega)]
theorem RosD.nmlen (h : RosD H p oe om w es ms eD mD ents clk ks c r) {l : List Sb} (hl : ∀ x ∈ l, x.length ≤ 1000) : ∀ x ∈ namesS (n3 l es ms), x.length ≤ 1000 := fun x hx => by
  rcases names_nm.1 hx with h' | ⟨e, he, h'⟩ | h'
  · exact hl x h'
  · have := h.eok e he
    rcases h' with rfl | rfl
    · have := nm_len this.1; omega
    · have := nm_len this.2; omega
  · obtain ⟨e, he, rfl⟩ := List.mem_map.1 h'
    have := nm_len (h.mok e he).2; omega
theorem RosD.nmn (h : RosD H p oe om w es ms eD mD ents clk ks c r) {l : List Sb} (hl : l.length ≤ 10) : (namesS (n3 l es ms)).length ≤ 1000 := by
  have h1 := cntR_names es ms l
  have h2 := once_len (n3 l es ms)
  have h3 := n3_len l es ms
  have := h.el
  have := h.ml
  unfold cntR at h1
  omega
theorem RosD.nmends (_h : RosD H p oe om w es ms eD mD ents clk ks c r) (l : List Sb) : ∀ e ∈ es, e.1 ∈ namesS (n3 l es ms) ∧ e.2 ∈ namesS (n3 l es ms) := fun e he => ⟨names_nm.2 (.inr (.inl ⟨e, he, .inl rfl⟩)), names_nm.2 (.inr (.inl ⟨e, he, .inr rfl⟩))⟩
theorem RosD.mv0 (h : RosD H p oe om w es ms eD mD ents clk ks c r) (a b : Sb) : 0 ≤ mval ents (a, b) ∧ mval ents (a, b) ≤ 2 ^ 60 := by
  rw [h.val]
  split
  · exact ⟨Int.le_refl _, by decide⟩
  · exact ⟨h.cnt.pos a b, Int.le_trans (h.cnt.le a b) (pow_le60 h.el)⟩
set_option maxHeartbeats 4000000 in
theorem join_snd {s j : Sb} {T : Tk} {Q : Post} (h : RosS H p S es ms) (hl : es.length < 60) (hs : s.length ≤ 1000) (hj : j.length ≤ 1000)
    (k : ∀ B U, Stp H B p S (if errR es ms 0 s j = 0 then es ++ [(s, j)] else es) ms → Q (.int .i64 (errR es ms 0 s j)) B (T ++ U)) :
    Snd Try.prog 32 [.ptr p 0, .agg [.str s, .str j]] H T Q := by
  have hr := h
  obtain ⟨hS, oe, om, w, k1, k2, k3, k4, eD, mD, ents, clk, ks, c, r, h⟩ := h
  have hM : MonoH [(69, φCon), (34, φ34)] := .cons φCon_mono (.cons φ34_mono .nil)
  refine call_of fn32 (by simp) (W_mono (X := XG Try.prog [67, 70] [(68, φ68)] [(69, φCon), (34, φ34)] [] []) (XG.X (.cons ok68 .nil) (.cons ok69 (.cons ok34 .nil)) .nil .nil) (fun _ _ h => h) ?_)
  simp +contextual (maxSteps := 10000000) only [c32, XG_eq, go_sem, W_draw]
  have hp1 := (Ext.of H [Ob.row [.str s, .str j]]).get h.row
  have hE1 : Ext H (H ++ [Ob.row [.str s, .str j]]) := Ext.of _ _
  refine snd_er (by rfl) (names_snd (more := [s, j]) (hE1.get h.row) (edsM_mono (hle_ext hE1) h.e.eds) (edsM_mono (hle_ext hE1) h.m.eds) (by have := h.el; omega) (by have := h.ml; omega) (by simp) (fun e => absurd e n3_ne) fun _ L U o cap X ho hor => ?_)
  have hE : Ext H (H ++ [Ob.row [.str s, .str j]] ++ L) := by rw [List.append_assoc]; exact Ext.of _ _
  have g0 : rdAt (H ++ [Ob.row [.str s, .str j]] ++ L) (.ptr H.length 0) = some [.str s, .str j] := by simp [rdAt]
  have g1 : rdAt (H ++ [Ob.row [.str s, .str j]] ++ L) (.ptr H.length 1) = some [.str j] := by simp [rdAt]
  obtain ⟨B, hB⟩ : ∃ B, H ++ [Ob.row [.str s, .str j]] ++ L = B := ⟨_, rfl⟩
  rw [hB] at hor hE g0 g1 ⊢
  have h2 := h.ext hE
  have gp0 : rdAt B (.ptr p 0) = some [eD, mD, .mp w] := by simp [rdAt, h2.row]
  have gp2 : rdAt B (.ptr p 2) = some [.mp w] := by simp [rdAt, h2.row]
  have p1 := pN hs hj
  have p2 := pC h2.e.eds (by have := h.el; omega) s j
  have p3 := p34 (H := B) (a := j) (b := s) ⟨eD, mD, ents, clk, ks, c, r, h2⟩ hj hs
  have her := edsM_er h2.e.eds
  have kk := k
  rw [errR_0] at k
  rcases tf' (nmB s && nmB j) with c1 | c1
  · rw [c1] at p1 k
    simp +contextual (maxSteps := 10000000) only [g0, g1, p1, pcallG hM, lookH_cons, lookH_nil, orK_n, nilc_ptr, ld, List.head?_cons, go_sem, W_draw]
    exact k _ _ (hr.stay hE)
  rw [c1] at p1 k
  simp only [if_true] at k
  rcases tf (es.contains (s, j)) with c2 | c2
  · rw [c2] at p2 k
    simp +contextual (maxSteps := 10000000) only [g0, g1, gp0, p1, p2, her, pcallG hM, lookH_cons, lookH_nil, orK_n, nilc_ptr, ld, List.head?_cons, go_sem, W_draw]
    exact k _ _ (hr.stay hE)
  rw [c2] at p2 k
  simp only [Bool.false_eq_true, if_false] at k
  rcases tf (reachB es j s) with c3 | c3
  · rw [c3] at p3 k
    simp +contextual (maxSteps := 10000000) only [g0, g1, gp0, p1, p2, p3, her, pcallG hM, lookH_cons, lookH_nil, orK_n, nilc_ptr, ld, List.head?_cons, go_sem, W_draw]
    exact k _ _ (hr.stay hE)
  rw [c3] at p3 k
  simp only [Bool.false_eq_true, if_false] at k
  have hcr := cntR_names es ms [s, j]
  have q4 : decide (((namesS (n3 [s, j] es ms)).length : Int) > 24) = decide (24 < cntR es ms [s, j]) := by
    rw [hcr]; rw [Bool.eq_iff_iff, decide_eq_true_eq, decide_eq_true_eq]; omega
  rcases tf (decide (24 < cntR es ms [s, j])) with c4 | c4
  · rw [c4] at q4 k
    simp +contextual (maxSteps := 10000000) only [g0, g1, gp0, p1, p2, p3, q4, her, pcallG hM, lookH_cons, lookH_nil, orK_n, nilc_ptr, ld, List.head?_cons, go_sem, W_draw]
    exact k _ _ (hr.stay hE)
  rw [c4] at q4 k
  simp +contextual (maxSteps := 10000000) only [g0, g1, gp0, gp2, p1, p2, p3, q4, her, pcallG hM, lookH_cons, lookH_nil, orK_n, nilc_ptr, ld, List.head?_cons, XG_eq, go_sem, W_draw]
  have hjs : c j s = 0 := by
    have h1 := h.reach j s
    have h3 := h.cnt.pos j s
    have : (reachL es j).contains s = false := by
      unfold reachB at c3
      rw [Bool.and_comm (nmB s)] at c1
      rw [c1] at c3; simpa using c3
    rw [this, decide_eq_false_iff_not] at h1
    omega
  obtain ⟨r', hc'⟩ := h.cnt.add hjs
  have hpr : ∀ a b, 0 ≤ c a s * c j b ∧ c a s * c j b ≤ 2 ^ 60 := fun a b => by
    have h1 := h.cnt.pos a s
    have h2 := h.cnt.pos j b
    have h3 := h.cnt.pos a b
    have h4 : c a b + c a s * c j b ≤ 2 ^ (es ++ [(s, j)]).length := hc'.le a b
    have h5 := pow_le60 (n := (es ++ [(s, j)]).length) (by simp; omega)
    exact ⟨Int.mul_nonneg h1 h2, by omega⟩
  have hnm := n3_ne (es := es) (ms := ms) (s := s) (j := j)
  obtain ⟨N, hN⟩ : ∃ N, namesS (n3 [s, j] es ms) = N := ⟨_, rfl⟩
  have n1 := names_nodup (n3 [s, j] es ms)
  have n2 := h.nmn (l := [s, j]) (by simp)
  have n3' := h.nmlen (l := [s, j]) (by simp [hs, hj])
  have n4 := h.nmends [s, j]
  have n5 : s ∈ namesS (n3 [s, j] es ms) := names_nm.2 (.inl (by simp))
  have n6 : j ∈ namesS (n3 [s, j] es ms) := names_nm.2 (.inl (by simp))
  rw [hN] at n1 n2 n3' n4 n5 n6 hor ⊢
  refine add_snd h2.mp h2.ks hor n1 n2 hs hj n3' (.inl rfl) (fun a _ b _ => ?_) fun B2 U2 hA => ?_
  · rw [h2.cntM, h2.cntM]
    have q1 := hpr a b
    have q2 := h2.mv0 a b
    exact ⟨q1.1, by omega, q2.1, by omega⟩
  have hpB := lt_get h2.row
  have hw' : w < H.length := (h.lts).2.1
  obtain ⟨l1, l2, l3, l4, l5⟩ := h2.lts
  have m0 : rdAt B2 (.ptr H.length 0) = some [.str s, .str j] := by
    simp only [rdAt] at g0 ⊢
    rw [hA.fr H.length (by rw [← hB]; simp) (by omega)]; exact g0
  have mp : B2[p]? = some (.row [eD, mD, .mp w]) := by rw [hA.fr p hpB l3]; exact h2.row
  have mp0 : rdAt B2 (.ptr p 0) = some [eD, mD, .mp w] := by simp [rdAt, mp]
  have me : Sl B2 oe eD es := h2.e.mono fun hn => hA.fr oe (l4 hn).1 (l4 hn).2.2
  have mm : Sl B2 om mD ms := h2.m.mono fun hn => hA.fr om (l5 hn).1 (l5 hn).2.2
  simp +contextual (maxSteps := 10000000) only [m0, mp0, nilc_ptr, ld, List.head?_cons, go_sem, W_draw]
  refine appE me (s, j) (by omega) fun B3 oe' d' hd hdn ho' hF => ?_
  have lB := hA.len
  have hoe : eD ≠ .nils → oe ≠ p ∧ oe ≠ w ∧ oe < B.length := fun hn => ⟨(l4 hn).2.1, (l4 hn).2.2, (l4 hn).1⟩
  have hoe' : oe' ≠ p ∧ oe' ≠ w := by
    rcases ho' with ⟨rfl, hn⟩ | rfl
    · exact ⟨(hoe hn).1, (hoe hn).2.1⟩
    · exact ⟨by omega, by omega⟩
  have nin : ∀ x, x < B2.length → (eD ≠ .nils → x ≠ oe) → B3[x]? = B2[x]? := fun x hx hn => hF.2 x hx fun hm => by
    split at hm
    · simp at hm
    · rename_i hb
      rw [List.mem_singleton] at hm
      exact hn (by rintro rfl; exact hb rfl) hm
  have mp3 : B3[p]? = some (.row [eD, mD, .mp w]) := by rw [nin p (by omega) fun hn => Ne.symm (hoe hn).1]; exact mp
  obtain ⟨ents', clk', ks', hm, hk, hv⟩ := hA.mp
  have mw3 : B3[w]? = some (.map ents' clk') := by rw [nin w (by omega) fun hn => Ne.symm (hoe hn).2.1]; exact hm
  have lp3 := lt_get mp3
  obtain ⟨o1, o2⟩ := hd.cell hdn
  simp +contextual (maxSteps := 10000000) only [storeK_E mp3, o1, o2, List.take_zero, List.nil_append, List.drop_succ_cons, List.drop_zero, go_sem, W_draw]
  have e0 : errR es ms 0 s j = 0 := by rw [errR_0, c1, c2, c3, c4]; rfl
  rw [e0, if_pos rfl] at kk
  refine kk _ _ (RosS.make (oe := oe') (om := om) (eD := d') (mD := mD) (w := w) (r := r') { row := ?_, e := hd.mono fun _ => ?_, m := mm.mono fun hn => ?_, ne := ?_, mp := ?_, ks := hk, cnt := hc', val := fun a b => ?_, en := ?_, mn := h.mn, eok := fun x hx => ?_, mok := h.mok, el := by simp; omega, ml := h.ml } ⟨?_, fun x hx hn => ?_⟩ k1 k4 (fun _ => ?_) (fun _ => .inl k3) hS)
  · simp [lp3]
  · rw [List.getElem?_set_ne (Ne.symm hoe'.1)]
  · rw [List.getElem?_set_ne (Ne.symm (l5 hn).2.1)]
    refine nin om (by have := (l5 hn).1; omega) fun he => ?_
    rcases h.ne with h' | h' | h'
    · exact absurd h' he
    · exact absurd h' hn
    · exact Ne.symm h'
  · rcases h.ne with h' | h' | h'
    · rcases ho' with ⟨_, hn⟩ | rfl
      · exact absurd h' hn
      · by_cases hn : mD = .nils
        · exact .inr (.inl hn)
        · exact .inr (.inr (by have := (l5 hn).1; omega))
    · exact .inr (.inl h')
    · rcases ho' with ⟨rfl, hn⟩ | rfl
      · exact .inr (.inr h')
      · by_cases hn : mD = .nils
        · exact .inr (.inl hn)
        · exact .inr (.inr (by have := (l5 hn).1; omega))
  · rw [List.getElem?_set_ne l3]; exact mw3
  · rw [hv, h2.val, h2.cntM, h2.cntM]
    by_cases hab : a = b
    · subst hab
      simp [h.cnt.prod0 hjs]
    · rw [if_neg hab, if_neg hab]
      by_cases hin : a ∈ N ∧ b ∈ N
      · simp [hin]
      · simp only [hin, if_false, h.cnt.out0 n4 n5 n6 hin]
  · refine List.nodup_append.2 ⟨h.en, by simp, fun x hx y hy e => ?_⟩
    rw [List.mem_singleton] at hy
    subst hy; subst e
    rw [List.contains_iff_mem.2 hx] at c2; cases c2
  · rcases List.mem_append.1 hx with hx | hx
    · exact h.eok x hx
    · rw [List.mem_singleton] at hx; subst hx
      simpa [Bool.and_eq_true] using c1
  · have := hE.ln; have := hF.1; simp; omega
  · have lh := hE.ln
    rw [List.getElem?_set_ne (fun e => hn (by rw [← e]; exact k1)), nin x (by omega) (fun _ e => hn (by rw [e]; exact k2)), hA.fr x (by omega) (fun e => hn (by rw [e]; exact k4))]
    obtain ⟨Y, hY⟩ := hE
    rw [hY, List.getElem?_append_left hx]
  · rcases ho' with ⟨rfl, _⟩ | rfl
    · exact .inl k2
    · exact .inr (by have := hE.ln; omega)
end GP
namespace GP
open Go Go.Proofs
set_option maxRecDepth 100000
variable [HasG Try.prog]
variable {H B : Hp} {p oe om w : Nat} {S : List Nat} {es ms : List Ed} {eD mD : D} {ents : List (D × D × Nat)} {clk : Nat} {ks : List Nm} {c : Sb → Sb → Int} {r : Sb → Nat}
theorem pI {d : D} {l : List Ed} (h : edsM H d = some l) (hl : l.length ≤ 1000) (a b : Sb) : φIdx H [d, .agg [.str a, .str b]] = some (.int .i64 (idxE l (a, b))) := by
  simp only [φIdx, h]
  rw [if_pos (by omega)]
theorem idx_in {l : List Ed} {e : Ed} (h : l.contains e = true) : ∃ i : Nat, i < l.length ∧ idxE l e = (i : Int) ∧ l[i]? = some e ∧ l.erase e = l.take i ++ l.drop (i + 1) := by
  have hm := List.contains_iff_mem.1 h
  have hi := List.idxOf_lt_length_of_mem hm
  refine ⟨l.idxOf e, hi, by unfold idxE; rw [if_pos h], ?_, ?_⟩
  · rw [List.getElem?_eq_getElem hi, List.getElem_idxOf hi]
  · rw [List.erase_eq_eraseIdx_of_idxOf rfl, List.eraseIdx_eq_take_drop_succ]
theorem split_at {l : List Ed} {i : Nat} {e : Ed} (h : l[i]? = some e) : l = l.take i ++ e :: l.drop (i + 1) := by
  have hi : i < l.length := by
    rcases Nat.lt_or_ge i l.length with h' | h'
    · exact h'
    · rw [List.getElem?_eq_none h'] at h; cases h
  rw [List.getElem?_eq_getElem hi] at h; injection h with h
  rw [← h, ← List.drop_eq_getElem_cons hi, List.take_append_drop]
set_option maxHeartbeats 4000000 in
theorem part_snd {s j : Sb} {T : Tk} {Q : Post} (h : RosS H p S es ms) (hs : s.length ≤ 1000) (hj : j.length ≤ 1000)
    (k : ∀ B U, Stp H B p S (if errR es ms 1 s j = 0 then es.erase (s, j) else es) ms → Q (.int .i64 (errR es ms 1 s j)) B (T ++ U)) :
    Snd Try.prog 74 [.ptr p 0, .agg [.str s, .str j]] H T Q := by
  have hr := h
  obtain ⟨hS, oe, om, w, k1, k2, k3, k4, eD, mD, ents, clk, ks, c, r, h⟩ := h
  have hM : MonoH [(110, φIdx)] := .cons φIdx_mono .nil
  refine call_of fn74 (by simp) (W_mono (X := XG Try.prog [67, 70, 111] [] [(110, φIdx)] [] []) (XG.X .nil (.cons ok110 .nil) .nil .nil) (fun _ _ h => h) ?_)
  have hE1 : Ext H (H ++ [Ob.row [.str s, .str j]]) := Ext.of _ _
  have g0 : rdAt (H ++ [Ob.row [.str s, .str j]]) (.ptr H.length 0) = some [.str s, .str j] := by simp [rdAt]
  have h1 := h.ext hE1
  have gp0 : rdAt (H ++ [Ob.row [.str s, .str j]]) (.ptr p 0) = some [eD, mD, .mp w] := by simp only [rdAt, h1.row]; rfl
  have gp2 : rdAt (H ++ [Ob.row [.str s, .str j]]) (.ptr p 2) = some [.mp w] := by simp only [rdAt, h1.row]; rfl
  have her := edsM_er h.e.eds
  have p2 := pI h1.e.eds (by have := h.el; omega) s j
  have kk := k
  rw [errR_1] at k
  rcases tf' (es.contains (s, j)) with c1 | c1
  · have e1 : idxE es (s, j) = -1 := by unfold idxE; rw [c1]; rfl
    rw [e1] at p2
    rw [c1] at k
    simp +contextual (maxSteps := 10000000) only [c74, XG_eq, g0, gp0, p2, her, pcallG hM, lookH_cons, lookH_nil, orK_n, nilc_ptr, ld, List.head?_cons, go_sem, W_draw]
    rw [← List.append_nil T]
    exact k _ [] (hr.stay hE1)
  obtain ⟨i, hi, e1, hat, her2⟩ := idx_in c1
  rw [e1] at p2
  have d1 : decide ((i : Int) < 0) = false := by simp
  simp +contextual (maxSteps := 10000000) only [c74, XG_eq, g0, gp0, gp2, p2, d1, her, pcallG hM, lookH_cons, lookH_nil, orK_n, nilc_ptr, ld, List.head?_cons, go_sem, W_draw]
  have hne : n3 [] es ms ≠ [] := by
    intro e
    have := n3_len [] es ms
    rw [e] at this
    simp at this; omega
  have hB1 : H ++ [Ob.row [.str s, .str j]] = H ++ [Ob.row [.str s, .str j]] := rfl
  obtain ⟨H1, hH1⟩ : ∃ B, H ++ [Ob.row [.str s, .str j]] = B := ⟨_, rfl⟩
  have hH1l : H.length < H1.length := by rw [← hH1]; simp
  rw [hH1] at hE1 g0 h1 gp0 gp2 p2 ⊢
  clear hB1
  refine names_snd (more := []) h1.row h1.e.eds h1.m.eds (by have := h.el; omega) (by have := h.ml; omega) (by simp) (fun e => absurd e hne) fun _ L U o cap X ho hor => ?_
  have hE : Ext H (H1 ++ L) := hE1.trans (Ext.of _ _)
  have g0' : rdAt (H1 ++ L) (.ptr H.length 0) = some [.str s, .str j] := by
    simp only [rdAt] at g0 ⊢
    rw [List.getElem?_append_left (by omega)]; exact g0
  obtain ⟨B, hB⟩ : ∃ B, H1 ++ L = B := ⟨_, rfl⟩
  rw [hB] at hor hE g0' ⊢
  have h2 := h.ext hE
  have gq0 : rdAt B (.ptr p 0) = some [eD, mD, .mp w] := by simp [rdAt, h2.row]
  have gq2 : rdAt B (.ptr p 2) = some [.mp w] := by simp [rdAt, h2.row]
  simp +contextual (maxSteps := 10000000) only [g0', gq0, gq2, nilc_ptr, ld, List.head?_cons, XG_eq, go_sem, W_draw]
  obtain ⟨N, hN⟩ : ∃ N, namesS (n3 [] es ms) = N := ⟨_, rfl⟩
  have n1 := names_nodup (n3 [] es ms)
  have n2 := h.nmn (l := []) (by simp)
  have n3' := h.nmlen (l := []) (by simp)
  have n4 := h.nmends []
  have hmem : (s, j) ∈ es := List.contains_iff_mem.1 c1
  have n5 : s ∈ namesS (n3 [] es ms) := (n4 _ hmem).1
  have n6 : j ∈ namesS (n3 [] es ms) := (n4 _ hmem).2
  rw [hN] at n1 n2 n3' n4 n5 n6 hor ⊢
  have hjs : c j s = 0 := Classical.byContradiction fun hc => by
    have h1 := h.cnt.rank _ hmem
    simp only at h1
    rcases h.cnt.lt hc with h2 | h2
    · rw [h2] at h1; omega
    · omega
  have hc' : Cnt (es.take i ++ es.drop (i + 1)) (fun a b => c a b - c a s * c j b) r := by
    have h1 := h.cnt
    rw [split_at hat] at h1
    exact h1.del
  have hpr : ∀ a b, 0 ≤ c a s * c j b ∧ c a s * c j b ≤ 2 ^ 60 := fun a b => by
    have h1 := h.cnt.pos a s
    have h2 := h.cnt.pos j b
    have h3 := h.cnt.le a b
    have h4 : 0 ≤ c a b - c a s * c j b := hc'.pos a b
    have h5 := pow_le60 h.el
    exact ⟨Int.mul_nonneg h1 h2, by omega⟩
  refine add_snd h2.mp h2.ks hor n1 n2 hs hj n3' (.inr rfl) (fun a _ b _ => ?_) fun B2 U2 hA => ?_
  · rw [h2.cntM, h2.cntM]
    have q1 := hpr a b
    have q2 := h2.mv0 a b
    exact ⟨q1.1, by omega, q2.1, by omega⟩
  have hpB := lt_get h2.row
  obtain ⟨l1, l2, l3, l4, l5⟩ := h2.lts
  have mp : B2[p]? = some (.row [eD, mD, .mp w]) := by rw [hA.fr p hpB l3]; exact h2.row
  have mp0 : rdAt B2 (.ptr p 0) = some [eD, mD, .mp w] := by simp [rdAt, mp]
  have hene : eD ≠ .nils := by
    rintro rfl
    rcases h.e with ⟨_, h'⟩ | ⟨_, _, h', _⟩
    · rw [h'] at hmem; simp at hmem
    · cases h'
  have me : Sl B2 oe eD es := h2.e.mono fun hn => hA.fr oe (l4 hn).1 (l4 hn).2.2
  have mm : Sl B2 om mD ms := h2.m.mono fun hn => hA.fr om (l5 hn).1 (l5 hn).2.2
  obtain ⟨ents', clk', ks', hm, hk, hv⟩ := hA.mp
  have hll := h.el
  rcases me with ⟨e, _⟩ | ⟨cap2, X2, e, ho2, hc2⟩
  · exact absurd e hene
  subst e
  obtain ⟨q1, q2, q3⟩ := l4 hene
  have hel : (es.take i ++ es.drop (i + 1)).length = es.length - 1 := by simp; omega
  simp +contextual (maxSteps := 10000000) only [mp0, nilc_ptr, ld, List.head?_cons, wrap_natY i (by omega), XG_eq, go_sem, W_draw]
  refine delE_snd fn111 ho2 hc2 (by omega) hi ?_
  have lB := hA.len
  have lo2 := lt_get ho2
  have mp3 : (B2.set oe (.row (flE (es.take i ++ es.drop (i + 1)) ++ (.str [] :: .str [] :: X2))))[p]? = some (.row [.ms true 2 oe 0 es.length cap2, mD, .mp w]) := by rw [List.getElem?_set_ne q2]; exact mp
  simp +contextual (maxSteps := 10000000) only [storeK_E mp3, List.take_zero, List.nil_append, List.drop_succ_cons, List.drop_zero, go_sem, W_draw]
  have e0 : errR es ms 1 s j = 0 := by rw [errR_1, c1]; rfl
  rw [e0, if_pos rfl, her2] at kk
  refine kk _ _ (RosS.make (oe := oe) (om := om) (eD := .ms true 2 oe 0 (es.length - 1) cap2) (mD := mD) (w := w) (r := r) { row := ?_, e := .inr ⟨cap2, .str [] :: .str [] :: X2, by rw [hel], ?_, ?_⟩, m := mm.mono fun hn => ?_, ne := ?_, mp := ?_, ks := hk, cnt := hc', val := fun a b => ?_, en := ?_, mn := h.mn, eok := fun x hx => ?_, mok := h.mok, el := by rw [hel]; omega, ml := h.ml } ⟨?_, fun x hx hn => ?_⟩ k1 k4 (fun _ => .inl k2) (fun _ => .inl k3) hS)
  · rw [List.getElem?_set_self (by simp; omega)]
  · rw [List.getElem?_set_ne (Ne.symm q2)]; simp [lo2]
  · rw [List.length_append, flE_len] at hc2 ⊢
    rw [hel]; simp; omega
  · rw [List.getElem?_set_ne (Ne.symm (l5 hn).2.1), List.getElem?_set_ne]
    rcases h.ne with h' | h' | h'
    · exact absurd h' hene
    · exact absurd h' hn
    · exact h'
  · rcases h.ne with h' | h' | h'
    · exact absurd h' hene
    · exact .inr (.inl h')
    · exact .inr (.inr h')
  · rw [List.getElem?_set_ne l3, List.getElem?_set_ne q3]; exact hm
  · rw [hv, h2.val, h2.cntM, h2.cntM]
    by_cases hab : a = b
    · subst hab
      simp [h.cnt.prod0 hjs]
    · rw [if_neg hab, if_neg hab]
      by_cases hin : a ∈ N ∧ b ∈ N
      · simp only [hin, and_self, if_true]; omega
      · simp only [hin, if_false, h.cnt.out0 n4 n5 n6 hin]; omega
  · rw [← her2]; exact h.en.erase _
  · rw [← her2] at hx; exact h.eok x (List.mem_of_mem_erase hx)
  · have := hE.ln; simp; omega
  · have lh := hE.ln
    rw [List.getElem?_set_ne (fun e => hn (by rw [← e]; exact k1)), List.getElem?_set_ne (fun e => hn (by rw [← e]; exact k2)), hA.fr x (by omega) (fun e => hn (by rw [e]; exact k4))]
    obtain ⟨Y, hY⟩ := hE
    rw [hY, List.getElem?_append_left hx]
end GP
