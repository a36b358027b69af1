import Derived.Test.YtnipbngimicldaaDoorGpV
/- Pure functions: what a call answers, as a plain function of its arguments. -/
namespace GP
open Go


theorem eraseL_len : ∀ (l : List D), (D.eraseL l).length = l.length
  | [] => by simp [D.eraseL]
  | d :: l => by simp [D.eraseL, eraseL_len l]

theorem eraseL_get : ∀ (l : List D) (i : Nat) (h : i < l.length) (h' : i < (D.eraseL l).length), (D.eraseL l)[i] = (l[i]).erase
  | d :: l, 0, h, h' => by simp [D.eraseL]
  | d :: l, i + 1, h, h' => by
    simp only [D.eraseL, List.getElem_cons_succ]
    exact eraseL_get l i _ _

theorem eraseL_map (l : List D) : D.eraseL l = l.map D.erase := by
  induction l with
  | nil => simp [D.eraseL]
  | cons d l ih => simp [D.eraseL, ih]

theorem erase_one (d : D) : d.erase.one = d.one := by cases d <;> simp [D.erase, D.one]
theorem erase_cells (d : D) : d.erase.cells = D.eraseL d.cells := by cases d <;> simp [D.erase, D.cells, D.eraseL]

theorem Rep.erase {c : Cx} {d : D} {v : Value} (h : Rep c d v) : Rep c d.erase v := by
  induction h with
  | bool b => simpa [D.erase] using Rep.bool b
  | int k n => simpa [D.erase] using Rep.int k n
  | str l h => simpa [D.erase] using Rep.str l h
  | nilp => simpa [D.erase] using Rep.nilp
  | ptr o off h => simpa [D.erase] using Rep.ptr o off h
  | el cs a vs ha h1 hM _ ih =>
    simp only [D.erase]
    refine Rep.el _ a vs ha ?_ (fun i hi => hM i (by simpa [eraseL_len] using hi)) (fun i hi => ?_)
    · intro d hd
      rw [eraseL_map] at hd
      obtain ⟨x, hx, rfl⟩ := List.mem_map.1 hd
      rw [erase_one]; exact h1 x hx
    · have hi' : i < cs.length := by simpa [eraseL_len] using hi
      rw [eraseL_get cs i hi']
      exact ih i hi'
  | nils => simpa [D.erase] using Rep.nils
  | ms ag z o off len cap rc h h1 h2 h3 => simpa [D.erase] using Rep.ms ag z o off len cap rc h h1 h2 h3
  | e0 a =>
    simp only [D.erase]
    exact Rep.sl none [] a 0 0 (fun _ _ => undef) (by simp) (by simp) (by simp) (by simp) (by simp) (by simp) (by simp) (by simp) (by simp) (by simp)
  | sl t xs a cap sz vs hlen hb hsz h1 ha hs hM _ htl ht ih =>
    simp only [D.erase]
    have hl := eraseL_len xs
    rw [← hl]
    refine Rep.sl none (D.eraseL xs) a cap sz vs (by omega) (by omega) ?_ ?_ ?_ ?_ ?_ ?_ (fun τ h => by cases h) (fun τ h => by cases h)
    · intro x hx
      rw [eraseL_map] at hx
      obtain ⟨y, hy, rfl⟩ := List.mem_map.1 hx
      rw [erase_cells, eraseL_len]; exact hsz y hy
    · intro x hx y hy
      rw [eraseL_map] at hx
      obtain ⟨z, hz, rfl⟩ := List.mem_map.1 hx
      rw [erase_cells, eraseL_map] at hy
      obtain ⟨u, hu, rfl⟩ := List.mem_map.1 hy
      rw [erase_one]; exact h1 z hz u hu
    · intro hne
      exact ha (by intro e; subst e; exact hne (by simp [D.eraseL]))
    · intro hne
      exact hs (by intro e; subst e; exact hne (by simp [D.eraseL]))
    · intro i hi j hj b hb
      exact hM i (by omega) j hj b hb
    · intro i hi j hj
      have hi' : i < xs.length := by omega
      have e1 : (D.eraseL xs)[i].cells = D.eraseL (xs[i].cells) := by rw [eraseL_get xs i hi', erase_cells]
      have hj' : j < (xs[i].cells).length := by rw [e1, eraseL_len] at hj; exact hj
      have e2 : ((D.eraseL xs)[i].cells)[j] = ((xs[i].cells)[j]).erase := by
        have := eraseL_get (xs[i].cells) j hj' (by rw [eraseL_len]; exact hj')
        rw [← this]; congr 1
      rw [e2]
      exact ih i hi' j hj'
  | fn f p q vp vq hp hq _ _ ih1 ih2 =>
    simp only [D.erase]
    refine Rep.fn f _ _ vp vq (by rw [eraseL_len]; exact hp) (by rw [eraseL_len]; exact hq) (fun i h h' => ?_) (fun i h h' => ?_)
    · have hi : i < p.length := by rw [eraseL_len] at h; exact h
      rw [eraseL_get p i hi]; exact ih1 i hi h'
    · have hi : i < q.length := by rw [eraseL_len] at h; exact h
      rw [eraseL_get q i hi]; exact ih2 i hi h'
  | nilf => simpa [D.erase] using Rep.nilf
  | mp o h => simpa [D.erase] using Rep.mp o h
  | nilm => simpa [D.erase] using Rep.nilm
  | nili => simpa [D.erase] using Rep.nili
  | ifc t d v _ ih => simp only [D.erase]; exact Rep.ifc t _ v ih
  | agg cs vs hl h1 _ ih =>
    simp only [D.erase]
    refine Rep.agg _ vs (by rw [eraseL_len]; exact hl) ?_ (fun i h h' => ?_)
    · intro d hd
      rw [eraseL_map] at hd
      obtain ⟨x, hx, rfl⟩ := List.mem_map.1 hd
      rw [erase_one]; exact h1 x hx
    · have hi : i < cs.length := by rw [eraseL_len] at h; exact h
      rw [eraseL_get cs i hi]; exact ih i hi h'
  | tup cs vs hl _ ih =>
    simp only [D.erase]
    refine Rep.tup _ vs (by rw [eraseL_len]; exact hl) (fun i h h' => ?_)
    have hi : i < cs.length := by rw [eraseL_len] at h; exact h
    rw [eraseL_get cs i hi]; exact ih i hi h'
  | top v => simpa [D.erase] using Rep.top v

theorem Reps.erase {c : Cx} {ds : List D} {vs : List Value} (h : Reps c ds vs) : Reps c (D.eraseL ds) vs :=
  ⟨by rw [eraseL_len]; exact h.len, fun i hi hi' => by
    have hi2 : i < ds.length := by rw [eraseL_len] at hi; exact hi
    rw [eraseL_get ds i hi2]; exact (h.rep i hi2 hi').erase⟩

mutual
/-- Of the machine's own memory and tokens only the first n and m are met. -/
def D.cl (n m : Nat) : D → Bool
  | .sl t xs => (match t with | none => true | some τ => decide (τ < m)) && D.clL n m xs
  | .el cs => D.clL n m cs
  | .agg cs => D.clL n m cs
  | .tup cs => D.clL n m cs
  | .fn _ a b => D.clL n m a && D.clL n m b
  | .ifc _ d => D.cl n m d
  | .ptr o _ => decide (o < n)
  | .mp o => decide (o < n)
  | .ms _ _ o _ _ _ => decide (o < n)
  | _ => true
def D.clL (n m : Nat) : List D → Bool
  | [] => true
  | d :: ds => D.cl n m d && D.clL n m ds
end

theorem clL_mem {n m : Nat} : ∀ {l : List D}, D.clL n m l = true → ∀ d ∈ l, d.cl n m = true
  | d :: l, h, x, hx => by
    simp only [D.clL, Bool.and_eq_true] at h
    rcases List.mem_cons.1 hx with rfl | hx
    · exact h.1
    · exact clL_mem h.2 x hx

theorem clL_of {n m : Nat} : ∀ {l : List D}, (∀ d ∈ l, d.cl n m = true) → D.clL n m l = true
  | [], _ => by simp [D.clL]
  | d :: l, h => by
    simp only [D.clL, Bool.and_eq_true]
    exact ⟨h d (by simp), clL_of fun x hx => h x (by simp [hx])⟩

theorem cl_cells {n m : Nat} {d : D} (h : d.cl n m = true) : ∀ x ∈ d.cells, x.cl n m = true := by
  intro x hx
  cases d <;> simp only [D.cells, List.mem_singleton] at hx <;> first
    | (subst hx; exact h)
    | (simp only [D.cl] at h; exact clL_mem h x hx)

theorem cl_of_cells {n m : Nat} {d : D} (hone : d.okc = true) (h : ∀ x ∈ d.cells, x.cl n m = true) : d.cl n m = true := by
  cases d with
  | agg cs => simp only [D.cells] at h; simp only [D.cl]; exact clL_of h
  | tup => simp [D.okc] at hone
  | top => simp [D.okc] at hone
  | _ => exact h _ (by simp [D.cells])

theorem Rep.move {c c' : Cx} {n m : Nat} {d : D} {v : Value} (h : Rep c d v) (hM : ∀ a v, c.M a = some v → c'.M a = some v) (hbd : ∀ o, o < n → c.bd o = true → c'.bd o = true) (hβ : ∀ o, o < n → c'.β o = c.β o) (hsz : ∀ o, o < n → c'.sz o = c.sz o)
    (hm : m ≤ c'.T.length) (hT : ∀ τ, τ < m → c'.T[τ]? = c.T[τ]? ∧ c'.κ τ = c.κ τ) (hd : d.cl n m = true) : Rep c' d v := by
  induction h with
  | bool b => exact .bool b
  | int k n => exact .int k n
  | str l h => exact .str l h
  | nilp => exact .nilp
  | ptr o off h =>
    simp only [D.cl, decide_eq_true_eq] at hd
    rw [← hβ o hd]; exact .ptr o off (hbd o hd h)
  | ms ag z o off len cap rc h h1 h2 h3 =>
    simp only [D.cl, decide_eq_true_eq] at hd
    rw [← hβ o hd]; exact .ms ag z o off len cap rc (hbd o hd h) h1 h2 (by rw [hsz o hd]; exact h3)
  | e0 a => exact .e0 a
  | el cs a vs ha h1 hM' _ ih =>
    simp only [D.cl] at hd
    exact .el cs a vs ha h1 (fun i hi => hM _ _ (hM' i hi)) (fun i hi => ih i hi (clL_mem hd _ (List.getElem_mem hi)))
  | nils => exact .nils
  | sl t xs a cap sz vs hlen hb hsz h1 ha hs hM' _ htl ht ih =>
    simp only [D.cl, Bool.and_eq_true] at hd
    obtain ⟨hτ, hd⟩ := hd
    refine .sl t xs a cap sz vs hlen hb hsz h1 ha hs (fun i hi j hj b hb => hM _ _ (hM' i hi j hj b hb)) (fun i hi j hj => ih i hi j hj (cl_cells (clL_mem hd _ (List.getElem_mem hi)) _ (List.getElem_mem hj))) ?_ ?_
    · rintro τ rfl
      simp only [decide_eq_true_eq] at hτ
      omega
    · rintro τ rfl n' z' hn
      simp only [decide_eq_true_eq] at hτ
      obtain ⟨e1, e2⟩ := hT τ hτ
      rw [e1] at hn
      rw [e2]
      exact ht τ rfl n' z' hn
  | fn f p q vp vq hp hq _ _ ih1 ih2 =>
    simp only [D.cl, Bool.and_eq_true] at hd
    exact .fn f p q vp vq hp hq (fun i h h' => ih1 i h h' (clL_mem hd.1 _ (List.getElem_mem h))) (fun i h h' => ih2 i h h' (clL_mem hd.2 _ (List.getElem_mem h)))
  | nilf => exact .nilf
  | mp o h =>
    simp only [D.cl, decide_eq_true_eq] at hd
    rw [← hβ o hd]; exact .mp o (hbd o hd h)
  | nilm => exact .nilm
  | nili => exact .nili
  | ifc t d v _ ih => exact .ifc t d v (ih (by simpa only [D.cl] using hd))
  | agg cs vs hl h1 _ ih =>
    simp only [D.cl] at hd
    exact .agg cs vs hl h1 (fun i h h' => ih i h h' (clL_mem hd _ (List.getElem_mem h)))
  | tup cs vs hl _ ih =>
    simp only [D.cl] at hd
    exact .tup cs vs hl (fun i h h' => ih i h h' (clL_mem hd _ (List.getElem_mem h)))
  | top v => exact .top v

theorem Rep.cl {c : Cx} {n : Nat} {d : D} {v : Value} (h : Rep c d v) (hn : ∀ o, c.bd o = true → o < n) : d.cl n c.T.length = true := by
  induction h with
  | ptr o off h => simp [D.cl, hn o h]
  | mp o h => simp [D.cl, hn o h]
  | ms ag z o off len cap rc h h1 h2 h3 => simp [D.cl, hn o h]
  | el cs a vs ha h1 hM' _ ih =>
    simp only [D.cl]
    refine clL_of fun d hd => ?_
    obtain ⟨i, hi, rfl⟩ := List.getElem_of_mem hd
    exact ih i hi
  | sl t xs a cap sz vs hlen hb hsz h1 ha hs hM' _ htl ht ih =>
    simp only [D.cl, Bool.and_eq_true]
    refine ⟨?_, clL_of fun d hd => ?_⟩
    · cases t with
      | none => rfl
      | some τ => simpa using htl τ rfl
    · obtain ⟨i, hi, rfl⟩ := List.getElem_of_mem hd
      have hcell : ∀ x ∈ xs[i].cells, x.cl n c.T.length = true := fun x hx => by
        obtain ⟨j, hj, rfl⟩ := List.getElem_of_mem hx
        exact ih i hi j hj
      cases hx : xs[i] with
      | agg cs => rw [hx] at hcell; simp only [D.cl]; exact clL_of hcell
      | _ => rw [hx] at hcell; exact hcell _ (by simp [D.cells])
  | fn f p q vp vq hp hq _ _ ih1 ih2 =>
    simp only [D.cl, Bool.and_eq_true]
    refine ⟨clL_of fun d hd => ?_, clL_of fun d hd => ?_⟩
    · obtain ⟨i, hi, rfl⟩ := List.getElem_of_mem hd
      exact ih1 i hi (by omega)
    · obtain ⟨i, hi, rfl⟩ := List.getElem_of_mem hd
      exact ih2 i hi (by omega)
  | ifc t d v _ ih => simpa only [D.cl] using ih
  | agg cs vs hl h1 _ ih =>
    simp only [D.cl]
    refine clL_of fun d hd => ?_
    obtain ⟨i, hi, rfl⟩ := List.getElem_of_mem hd
    exact ih i hi (by omega)
  | tup cs vs hl _ ih =>
    simp only [D.cl]
    refine clL_of fun d hd => ?_
    obtain ⟨i, hi, rfl⟩ := List.getElem_of_mem hd
    exact ih i hi (by omega)
  | _ => simp [D.cl]

section
variable {P : Program}

/-- What a call made of its own is forgotten. -/
theorem CallPost.forget {c : Cx} {w : World} {H : Hp} {T : Tk} {Q : Post} (hi : Inv c w H) (hT : c.T = T) {r0 : D} (hcl : r0.cl H.length T.length = true) (hQ : Q r0 H T) {e : Ending} {w' : World}
    (h : CallPost c w (fun r H' T' => r.erase = r0 ∧ (∃ L, H' = H ++ L) ∧ ∃ U, T' = T ++ U) e w') : CallPost c w Q e w' := by
  obtain ⟨v, rfl, r, H', T', c', ⟨hr, ⟨L, rfl⟩, ⟨U, rfl⟩⟩, hrep, hinv, hle, hT', hbel⟩ := h
  have move : ∀ {d : D} {v : Value}, Rep c' d v → d.cl H.length T.length = true → Rep { c' with bd := fun o => c'.bd o && decide (o < H.length), T := T } d v := fun {d v} hr hd =>
    hr.move (n := H.length) (m := T.length) (c' := { c' with bd := fun o => c'.bd o && decide (o < H.length), T := T }) (fun _ _ h => h) (fun o ho h => by simp [h, ho]) (fun _ _ => rfl) (fun _ _ => rfl) (Nat.le_refl _) (fun τ hτ => ⟨by simp only; rw [hT', List.getElem?_append_left hτ], rfl⟩) hd
  refine ⟨v, rfl, r0, H, T, { c' with bd := fun o => c'.bd o && decide (o < H.length), T := T }, hQ, ?_, ?_, ?_, rfl, hbel⟩
  · rw [← hr] at hcl ⊢
    exact move hrep.erase hcl
  · have hget : ∀ {o : Nat} {x : Ob}, H[o]? = some x → (H ++ L)[o]? = some x := fun {o x} h => by
      have : o < H.length := by
        rcases Nat.lt_or_ge o H.length with h' | h'
        · exact h'
        · rw [List.getElem?_eq_none h'] at h; cases h
      rw [List.getElem?_append_left this]; exact h
    have hlt : ∀ {o : Nat} {x : Ob}, H[o]? = some x → o < H.length := fun {o x} h => by
      rcases Nat.lt_or_ge o H.length with h' | h'
      · exact h'
      · rw [List.getElem?_eq_none h'] at h; cases h
    have htok : ∀ {τ : Nat} {x}, T[τ]? = some x → c'.T[τ]? = some x := fun {τ x} h => by
      have : τ < T.length := by
        rcases Nat.lt_or_ge τ T.length with h' | h'
        · exact h'
        · rw [List.getElem?_eq_none h'] at h; cases h
      rw [hT', List.getElem?_append_left this]; exact h
    refine ⟨hinv.keep, hinv.low, fun o x cs h hx => ?_, ?_, fun o x h hx => ?_, fun o o' x x' h h' hx hx' he => hinv.apart o o' x x' (hget h) (hget h') hx hx' he, fun o es h => hinv.map o es (hget h), fun o m l h => hinv.iter o m l (hget h),
      fun τ n z h => hinv.tok τ n z (htok h), fun τ n z o x h h1 hx => hinv.tokrow τ n z o x (htok h) (hget h1) hx, fun τ n z τ' n' z' h h' => hinv.toks τ n z τ' n' z' (htok h) (htok h')⟩
    · obtain ⟨vs, rest, e, fr, k1, k2, k4, k3⟩ := hinv.row o x cs (hget h) hx
      refine ⟨vs, rest, e, fr, k1, ?_, k4, k3⟩
      have hi2 := hi.row o x cs h hx
      obtain ⟨vs0, rest0, e0, fr0, q1, q2, q4, q3⟩ := hi2
      refine ⟨k2.len, k2.one, fun i a b => move (k2.rep i a b) ?_⟩
      rw [← hT]
      refine (q2.rep i a (by rw [q2.len]; exact a)).cl fun o ho => ?_
      rcases Nat.lt_or_ge o H.length with h' | h'
      · exact h'
      · rw [hi.free o (.inl h')] at ho; cases ho
    · intro o h
      rcases h with h | h
      · have : ¬ o < H.length := by omega
        simp [this]
      · have := hinv.free o (.inr (hget h))
        simp [this]
    · obtain ⟨g1, g2, g3, g4⟩ := hinv.own o x (hget h) hx
      exact ⟨by simp [g1, hlt h], g2, g3, g4⟩
  · refine ⟨hle.M, fun o ho => ?_, fun o ho => hle.β o ho, by simp [hT], fun τ h => by simpa [← hT] using h, fun τ n z h => .inr ⟨n, by simpa [← hT] using h, Nat.le_refl _, fun _ => ?_⟩, hle.B, fun o ho => ?_⟩
    · have : o < H.length := by
        rcases Nat.lt_or_ge o H.length with h' | h'
        · exact h'
        · rw [hi.free o (.inl h')] at ho; cases ho
      simp [hle.bd o ho, this]
    · rw [hT] at h
      have hlt : τ < T.length := by
        rcases Nat.lt_or_ge τ T.length with h' | h'
        · exact h'
        · rw [List.getElem?_eq_none h'] at h; cases h
      have h2 : c'.T[τ]? = some (some (n, z)) := by rw [hT', List.getElem?_append_left hlt]; exact h
      rcases hle.tok τ n z (by rw [hT]; exact h) with k | ⟨n', k1, k2, k3⟩
      · rw [k] at h2; cases h2
      · rw [k1] at h2; injection h2 with h2; injection h2 with h2; injection h2 with h2 _
        exact k3 h2
    · exact hle.sz o ho
end
end GP
