import Derived.Test.YtnipbngimicldaaDoorGpK
/- Mutable rows: appends, literals, copies, clears, makes. -/
namespace GP
open Go
variable {P : Program} {c : Cx} {w : World} {H : Hp}

def chunkV (sz : Nat) : Nat → List Value → List (List Value)
  | 0, _ => []
  | n + 1, vs => vs.take sz :: chunkV sz n (vs.drop sz)

theorem chunk_len (ag : Bool) (sz : Nat) : ∀ (n : Nat) (cs : List D), (chunk ag sz n cs).length = n
  | 0, _ => rfl
  | n + 1, cs => by simp [chunk, chunk_len ag sz n]

theorem chunkV_len (sz : Nat) : ∀ (n : Nat) (cs : List Value), (chunkV sz n cs).length = n
  | 0, _ => rfl
  | n + 1, cs => by simp [chunkV, chunkV_len sz n]

theorem chunkV_flat (sz : Nat) : ∀ (n : Nat) (vs : List Value), (chunkV sz n vs).flatten = vs.take (n * sz)
  | 0, _ => by simp [chunkV]
  | n + 1, vs => by
    simp only [chunkV, List.flatten_cons, chunkV_flat sz n]
    rw [Nat.add_mul, Nat.one_mul, Nat.add_comm, List.take_add]

theorem chunk_elems {ag : Bool} {sz : Nat} (hag : ag = true ∨ sz = 1) : ∀ (n : Nat) (cs : List D) (vs : List Value), Cells c cs vs → n * sz ≤ cs.length → Elems c sz (chunk ag sz n cs) (chunkV sz n vs)
  | 0, cs, vs, _, _ => ⟨rfl, fun i h _ => absurd h (by simp [chunk]), fun x hx => by simp [chunk] at hx⟩
  | n + 1, cs, vs, k, hl => by
    rw [Nat.add_mul, Nat.one_mul] at hl
    have ih := chunk_elems hag n (cs.drop sz) (vs.drop sz) (k.drop sz) (by simp; omega)
    have h0 : Cells c (D.cells (if ag then .agg (cs.take sz) else cs.headD .top)) (vs.take sz) ∧ (D.cells (if ag then .agg (cs.take sz) else cs.headD .top)).length = sz := by
      cases ag with
      | true => exact ⟨by simpa [D.cells] using k.take sz, by simp [D.cells]; omega⟩
      | false =>
        have h1 : sz = 1 := by simpa using hag
        subst h1
        cases cs with
        | nil => simp at hl
        | cons d cs =>
          have hone := k.one d (by simp)
          have hc : d.cells = [d] := by cases d <;> simp_all [D.one, D.cells]
          have kt := k.take 1
          simp only [List.take_succ_cons, List.take_zero] at kt
          simp only [Bool.false_eq_true, if_false, List.headD_cons, hc]
          exact ⟨kt, rfl⟩
    refine ⟨by simp [chunk, chunkV, chunk_len, chunkV_len], fun i h h' => ?_, fun x hx => ?_⟩
    · cases i with
      | zero => exact h0.1
      | succ i => exact ih.el i (by simpa [chunk] using h) (by simpa [chunkV] using h')
    · simp only [chunk, List.mem_cons] at hx
      rcases hx with rfl | hx
      · exact h0.2
      · exact ih.sz x hx

theorem Elems.cells {sz : Nat} : ∀ {xs : List D} {vss : List (List Value)}, Elems c sz xs vss → Cells c (flatD xs) vss.flatten
  | [], vss, k => by
    have : vss = [] := by have := k.len; simpa using this
    subst this
    exact ⟨rfl, by simp [flatD], fun i h _ => absurd h (by simp [flatD])⟩
  | x :: xs, [], k => by have := k.len; simp at this
  | x :: xs, v :: vss, k => by
    have k' : Elems c sz xs vss := ⟨by have := k.len; simpa using this, fun i h h' => k.el (i + 1) (by simpa using h) (by simpa using h'), fun y hy => k.sz y (by simp [hy])⟩
    have h0 := k.el 0 (by simp) (by simp)
    have := h0.append k'.cells
    simpa [flatD] using this

theorem flatD_len {sz : Nat} {xs : List D} (h : ∀ x ∈ xs, x.cells.length = sz) : (flatD xs).length = xs.length * sz := by
  induction xs with
  | nil => simp [flatD]
  | cons x xs ih =>
    have := ih (fun y hy => h y (by simp [hy]))
    simp only [flatD, List.map_cons, List.flatten_cons, List.length_append, List.length_cons] at this ⊢
    rw [h x (by simp), this, Nat.add_mul]; omega

theorem Elems.take {sz : Nat} {xs : List D} {vss : List (List Value)} (k : Elems c sz xs vss) (m : Nat) : Elems c sz (xs.take m) (vss.take m) :=
  ⟨by simp [k.len], fun i h h' => by simpa using k.el i (by simp at h; omega) (by simp at h'; omega), fun x hx => k.sz x (List.mem_of_mem_take hx)⟩

/-- The elements of a source, in the world. -/
theorem src_soundM (k : Inv c w H) {sz : Nat} {y : D} {vy : Value} (hy : Rep c y vy) {ys : List D} {st : Bool} (h : appSrcM H st sz y = some ys) (hf : ys.all (fit sz) = true) (hbyte : ∀ l, y = .str l → sz = 1) :
    ∃ vss, Elems c sz ys vss ∧ (∀ w', (Builtin.lenOf vy).run P w' = .ok ys.length w') ∧ (∀ w', w'.heap = w.heap → (Builtin.firstCells sz ys.length vy).run P w' = .ok vss.flatten.toArray w') := by
  cases y with
  | ms ag z o off n cap =>
    simp only [appSrcM] at h
    split at h
    · rename_i cs hcs
      split at h
      · rename_i hc
        obtain ⟨rfl, rfl, h3, h4⟩ := hc
        injection h with h; subst h
        cases hy with
        | ms _ _ _ _ _ _ rc hbd h1 h2 h3' =>
          obtain ⟨vs, rest, e, fr, g1, g2, g4, g3⟩ := (k.row o _ cs hcs rfl).hold
          have hvl := g2.len
          have he := chunk_elems (c := c) h4 n (cs.drop off) (vs.drop off) (g2.drop off) (by simp; omega)
          refine ⟨_, he, fun w' => by simp [Builtin.lenOf, chunk_len], fun w' hw' => ?_⟩
          rw [chunk_len]
          have hfl : (chunkV z n (vs.drop off)).flatten.length = n * z := by rw [chunkV_flat]; simp; omega
          refine run_firstCells_some w' z n ⟨c.β o, off, none⟩ n rc _ hfl (fun j v hj => ?_)
          rw [Addr.add_eq _ rfl, cell?_heap hw']
          simp only [World.cell?, g1]
          rw [chunkV_flat] at hj
          have hlt : j < n * z := by
            rcases Nat.lt_or_ge j (n * z) with h' | h'
            · exact h'
            · rw [List.getElem?_eq_none (by simp; omega)] at hj; cases hj
          rw [List.getElem?_take_of_lt hlt, List.getElem?_drop] at hj
          simp only [List.getElem?_toArray]
          rw [List.getElem?_append_left (by omega)]
          exact hj
      · cases h
    · cases h
  | _ => exact src_sound (st := st) k hy h hf hbyte

theorem fit_elems_sz {sz : Nat} {xs : List D} (h : xs.all (fit sz) = true) : (flatD xs).length = xs.length * sz := flatD_len (fit_sz h)

theorem push_ne {H : Hp} {x : Ob} : ∀ o', o' ≠ H.length → (H ++ [x])[o']? = H[o']? := fun o' h => push_other _ _ o' h

/-- A new mutable row, made by an append that grows. -/
theorem grow_ms (_k : Inv c w H) {st xt e : TypeId} {sz bytes : Nat} (ht : sliceOf P st = some e) (hxt : appT P xt = true) (hsz : tsz P e = some sz) (hby : tbytes P e = some bytes) (ty : TypeId) {base : Option Addr} {sLen sCap : Nat} {vy : Value} {H1 : Hp}
    (k1 : Inv c w.drew H1) {cs : List D} {vs : List Value} (hcs : Cells c cs vs) (hcl : cs.length = sLen * sz) {ys : List D} {vss : List (List Value)} (hy : Elems c sz ys vss) (hl : ∀ w', (Builtin.lenOf vy).run P w' = .ok ys.length w') (hg : sCap < sLen + ys.length) (hneed : sLen + ys.length < 2 ^ 62)
    (hbig : (sLen + ys.length) * bytes ≤ 2 ^ 47) {z : List D} (hz : tz P e = some z) (hzl : z.length = sz)
    (hold : (Builtin.firstCells sz sLen (.slice base sLen sCap)).run P w.drew = .ok vs.toArray w.drew) (hnew : (Builtin.firstCells sz ys.length vy).run P w.drew = .ok vss.flatten.toArray w.drew) {T : Tk} (hT : c.T = T) (ag : Bool) :
    Yld c w (H1 ++ [.row (cs ++ flatD ys)]) T (.ms ag sz H1.length 0 (sLen + ys.length) (sLen + ys.length)) ((Builtin.append_ #[st, xt] ty #[.slice base sLen sCap, vy]).run P w) := by
  obtain ⟨cap, rest, h1, h2, h3⟩ := app_grow (w := w) ht hxt hsz hby ty base sLen sCap vy hl hg (by omega) hbig hz hzl hold hnew
  rw [h3]
  have hyl := flatD_len hy.sz
  have hk : Cells c (cs ++ flatD ys) (vs ++ vss.flatten) := hcs.append hy.cells
  have hkl := hk.len
  have := new_ms k1 rest e hk (k1.free H1.length (.inl (Nat.le_refl _))) (H' := H1 ++ [.row (cs ++ flatD ys)]) (push_at _ _) (fun o' h => push_other _ _ o' h) hT (ag := ag) (sz := sz) (n := sLen + ys.length) (cap := sLen + ys.length) (rc := cap)
    (Nat.le_refl _) h1 (by
      rw [hkl, List.length_append, hcl, hyl, h2, ← Nat.add_mul, ← Nat.add_mul]
      exact Nat.mul_le_mul_right _ (by omega))
  have e1 : (vs ++ vss.flatten ++ rest).toArray = vs.toArray ++ vss.flatten.toArray ++ rest.toArray := by simp
  rw [e1] at this
  exact this.drew

theorem appm_sound (k : Inv c w H) {st xt e : TypeId} {sz bytes : Nat} (ht : sliceOf P st = some e) (hxt : appT P xt = true) (hsz : tsz P e = some sz) (hby : tbytes P e = some bytes) {z : List D} (hz : tz P e = some z) (hzl : z.length = sz)
    (ty : TypeId) {x y : D} {vx vy : Value} (hx : Rep c x vx) (hy : Rep c y vy) {str : Bool} (hstr : ∀ l, y = .str l → str = true → sz = 1) {s : S} (hsH : s.H = H) (hsT : c.T = s.T) {K : D → S → Prop} (ag : Bool)
    (h : appmK ag sz bytes K s x (appSrcM s.H str sz y)) :
    ∃ d s', K d s' ∧ s'.t = s.t ∧ Yld c w s'.H s'.T d ((Builtin.append_ #[st, xt] ty #[vx, vy]).run P w) := by
  subst hsH
  unfold appmK at h
  split at h
  · exact h.elim
  · rename_i ys hys
    obtain ⟨hfy, h⟩ := h
    obtain ⟨vss, ky, hl, hfirst⟩ := src_soundM (P := P) k hy hys hfy (fun l hl => by
      subst hl
      cases str
      · simp [appSrcM, appSrc] at hys
      · exact hstr l rfl rfl)
    have c0 : Cells c [] [] := ⟨rfl, by simp, fun i h _ => absurd h (by simp)⟩
    have hyl := flatD_len ky.sz
    split at h
    · cases hx
      split at h
      · rename_i h0
        subst h0
        have e0 : vss = [] := by have := ky.len; simpa using this
        subst e0
        refine ⟨.nils, s, h, rfl, ?_⟩
        rw [app_nils0 ht hxt hsz ty vy hl (by simpa using hfirst w rfl)]
        exact ⟨_, c, w, rfl, Rep.nils, k, Cx.le.refl c, hsT, Below.refl _ _⟩
      · rename_i h0
        obtain ⟨h1, h2, h3⟩ := h
        have hpos : 0 < ys.length := by cases ys with | nil => exact absurd rfl h0 | cons => simp
        refine ⟨_, _, h3, rfl, ?_⟩
        have := grow_ms (P := P) k ht hxt hsz hby ty (base := none) (sLen := 0) (sCap := 0) k.drew c0 (by simp) ky hl (by simpa using hpos) (by simpa using h2) (by simpa using h1) hz hzl (by simp [Builtin.firstCells]) (hfirst _ rfl) hsT ag
        simpa using this
    · cases hx with
      | e0 a =>
      split at h
      · rename_i h0
        subst h0
        have e0 : vss = [] := by have := ky.len; simpa using this
        subst e0
        refine ⟨.e0, s, h, rfl, ?_⟩
        rw [app_fit ht hxt hsz ty a 0 0 vy hl (Nat.le_refl _) (by simpa using hfirst w rfl) (w' := w) (fun b h => by simp [storeCells]) (fun _ => rfl)]
        exact ⟨_, c, w, rfl, Rep.e0 a, k, Cx.le.refl c, hsT, Below.refl _ _⟩
      · rename_i h0
        obtain ⟨h1, h2, h3⟩ := h
        have hpos : 0 < ys.length := by cases ys with | nil => exact absurd rfl h0 | cons => simp
        refine ⟨_, _, h3, rfl, ?_⟩
        have := grow_ms (P := P) k ht hxt hsz hby ty (base := a) (sLen := 0) (sCap := 0) k.drew c0 (by simp) ky hl (by simpa using hpos) (by simpa using h2) (by simpa using h1) hz hzl (by cases a <;> simp [Builtin.firstCells, loadCells, loadCellsFrom]) (hfirst _ rfl) hsT ag
        simpa using this
    · rename_i g z' o off n cap
      split at h
      · rename_i cs hcs
        obtain ⟨rfl, h⟩ := h
        cases hx with
        | ms _ _ _ _ _ _ rc hbd q1 q2 q3 =>
        obtain ⟨vs, rest, e', fr, g1, g2, g4, g3⟩ := (k.row o _ cs hcs rfl).hold
        have hvl := g2.len
        have hadd : ∀ m, Addr.add ⟨c.β o, off, none⟩ m = ⟨c.β o, off + m, none⟩ := fun m => Addr.add_eq _ rfl _
        have inplace : n + ys.length ≤ rc → off + n * z' ≤ cs.length →
            Yld c w (s.H.set o (.row (cs.take (off + n * z') ++ flatD ys ++ cs.drop (off + n * z' + (flatD ys).length)))) s.T (.ms g z' o off (n + ys.length) (max cap (n + ys.length))) ((Builtin.append_ #[st, xt] ty #[.slice (some ⟨c.β o, off, none⟩) n rc, vy]).run P w) := by
          intro hfit hoff
          have hle : (n + ys.length) * z' ≤ rc * z' := Nat.mul_le_mul_right _ hfit
          rw [Nat.add_mul] at hle
          obtain ⟨p1, p2, p3⟩ := put_inv (P := P) k hcs rfl ky.cells (off := off + n * z') hoff (by rw [hyl]; omega)
          rw [app_fit ht hxt hsz ty _ n rc vy hl hfit (hfirst w rfl) (fun a ha => by injection ha with ha; subst ha; rw [hadd]; simpa using p1) (fun h => by cases h)]
          exact ⟨_, c, _, rfl, Rep.ms g z' o off _ _ rc hbd (by omega) (by omega) q3, p2, Cx.le.refl c, hsT, p3⟩
        split at h
        · rename_i hfit
          obtain ⟨h1, h2⟩ := h
          have hle : n * z' ≤ cap * z' := Nat.mul_le_mul_right _ q1
          have := inplace (by omega) (by omega)
          rw [hyl] at this
          rw [show off + n * z' + ys.length * z' = off + (n + ys.length) * z' by rw [Nat.add_mul]; omega, show max cap (n + ys.length) = cap by omega] at this
          exact ⟨_, _, h2, rfl, this⟩
        · rename_i hfit
          obtain ⟨h1, h2, h3, h4, h5⟩ := h
          subst h1
          refine ⟨_, _, h5, rfl, ?_⟩
          by_cases hrc : n + ys.length ≤ rc
          · obtain ⟨v, c', w', e1, e2, e3, e4, e5, e6⟩ := inplace hrc (by omega)
            have e0' : cs.take (0 + n * z') ++ flatD ys ++ cs.drop (0 + n * z' + (flatD ys).length) = cs ++ flatD ys := by
              rw [List.take_of_length_le (by omega), List.drop_eq_nil_of_le (by omega), List.append_nil]
            rw [e0'] at e3
            have hlt : o < s.H.length := by
              rcases Nat.lt_or_ge o s.H.length with h' | h'
              · exact h'
              · rw [List.getElem?_eq_none h'] at hcs; cases hcs
            obtain ⟨r1, r2⟩ := rename_inv e3 (o := o) (x := .row (cs ++ flatD ys)) (by simp [hlt]) rfl
            rw [List.set_set, List.length_set] at r1
            rw [List.length_set] at r2
            refine ⟨v, _, w', e1, ?_, r1, e4.trans r2, e5, e6⟩
            rw [show max cap (n + ys.length) = n + ys.length by omega] at e2
            cases e2 with
            | ms _ _ _ _ _ _ rc' hbd' q1' q2' q3' =>
              have hbd2 : (bindC c' s.H.length (c'.β o) (c'.sz o)).bd s.H.length = true := by show updB _ _ _ = _; unfold updB; rw [if_pos rfl]
              have hβ2 : (bindC c' s.H.length (c'.β o) (c'.sz o)).β s.H.length = c'.β o := by show updN _ _ _ _ = _; unfold updN; rw [if_pos rfl]
              have hz2 : (bindC c' s.H.length (c'.β o) (c'.sz o)).sz s.H.length = c'.sz o := by show updN _ _ _ _ = _; unfold updN; rw [if_pos rfl]
              have := Rep.ms (c := bindC c' s.H.length (c'.β o) (c'.sz o)) g z' s.H.length 0 (n + ys.length) (n + ys.length) rc' hbd2 (Nat.le_refl _) q2' (by rw [hz2]; exact q3')
              rwa [hβ2] at this
          · have := grow_ms (P := P) k ht hxt hsz hby ty (base := some ⟨c.β o, 0, none⟩) (sLen := n) (sCap := rc) (kill_inv k.drew o) g2 h2 ky hl (by omega) h4 h3 hz hzl
              (run_firstCells_some w.drew z' n _ n rc vs (by omega) (fun j v hj => by
                rw [Addr.add_eq _ rfl]
                have hj' : j < vs.length := by
                  rcases Nat.lt_or_ge j vs.length with h' | h'
                  · exact h'
                  · rw [List.getElem?_eq_none h'] at hj; cases hj
                have e1 : w.drew.heap[c.β o]? = some (.cells (vs ++ rest).toArray e' fr) := g1
                simp only [World.cell?, e1, Nat.zero_add, List.getElem?_toArray]
                rw [List.getElem?_append_left hj']; exact hj)) (hfirst _ rfl) hsT g
            rw [List.length_set] at this
            exact this
      · exact h.elim
    · exact h.elim

theorem copy_sound (k : Inv c w H) {dt st e : TypeId} {sz : Nat} (ht : sliceOf P dt = some e) (hsz : tsz P e = some sz) (ty : TypeId) {x y : D} {vx vy : Value} (hx : Rep c x vx) (hy : Rep c y vy) {s : S} (hsH : s.H = H) (hsT : c.T = s.T) {K : D → S → Prop}
    (h : copyK sz K s x (appSrcM s.H false sz y)) :
    ∃ d s', K d s' ∧ s'.t = s.t ∧ Yld c w s'.H s'.T d ((Builtin.copy_ #[dt, st] ty #[vx, vy]).run P w) := by
  subst hsH
  unfold copyK at h
  split at h
  · exact h.elim
  · rename_i ys hys
    obtain ⟨hfy, h⟩ := h
    obtain ⟨vss, ky, hl, hfirst⟩ := src_soundM (P := P) k hy hys hfy (fun l hl => by
      subst hl
      simp [appSrcM, appSrc] at hys)
    have part : ∀ m, m ≤ ys.length → (Builtin.firstCells sz m vy).run P w = .ok (vss.take m).flatten.toArray w := by
      intro m hm
      have hf := hfirst w rfl
      have hvl := flat_len vss ky.sz'
      rw [ky.len] at hvl
      have htl := flat_len (vss.take m) (fun v hv => ky.sz' v (List.mem_of_mem_take hv))
      rw [List.length_take, ky.len, Nat.min_eq_left hm] at htl
      have hpre : ∀ (j : Nat) v, (vss.take m).flatten[j]? = some v → vss.flatten[j]? = some v := by
        intro j v hj
        have e : vss.flatten = (vss.take m).flatten ++ (vss.drop m).flatten := by rw [← List.flatten_append, List.take_append_drop]
        rw [e, List.getElem?_append_left]
        · exact hj
        · rcases Nat.lt_or_ge j (vss.take m).flatten.length with h' | h'
          · exact h'
          · rw [List.getElem?_eq_none h'] at hj; cases hj
      cases hy with
      | nils => have : ys = [] := by simpa [appSrcM, appSrc] using hys.symm
                subst this
                have : vss = [] := by have := ky.len; simpa using this
                subst this
                simp [Builtin.firstCells]
      | e0 a => have : ys = [] := by simpa [appSrcM, appSrc] using hys.symm
                subst this
                have hm0 : m = 0 := by simpa using hm
                subst hm0
                cases a <;> simp [Builtin.firstCells, loadCells, loadCellsFrom]
      | sl t xs a cap sz' vs hlen hb hszs h1 ha hs hM hr htl' ht' =>
        have e : ys = xs := by simpa [appSrcM, appSrc] using hys.symm
        subst e
        cases a with
        | none =>
          cases ys with
          | nil => simp only [List.length_nil] at hm; have hm0 : m = 0 := by omega
                   subst hm0; simp [Builtin.firstCells]
          | cons y ys => obtain ⟨b, hb⟩ := ha (by simp); cases hb
        | some b =>
          obtain ⟨a', cap', uss, e1, e2, e3, e4, e5, e6, e7⟩ := sl_elems k (Rep.sl t ys (some b) cap sz' vs hlen hb hszs h1 ha hs hM hr htl' ht') (fit_sz hfy)
          injection e1 with e1 _ e1'
          subst e1
          have hu : uss.flatten = vss.flatten := by
            have := run_firstCells_some (P := P) w sz ys.length b ys.length cap uss.flatten e7 (fun j v hj => (e6 b rfl j v hj).1)
            rw [hf] at this
            injection this with this
            exact (congrArg Array.toList this).symm
          exact run_firstCells_some w sz m b ys.length cap _ htl (fun j v hj => (e6 b rfl j v (by rw [hu]; exact hpre j v hj)).1)
      | ms ag z o off n cap rc hbd q1 q2 q3 =>
        simp only [appSrcM] at hys
        split at hys
        · rename_i cs hcs
          split at hys
          · rename_i hc
            obtain ⟨_, rfl, h3, h4⟩ := hc
            injection hys with hys; subst hys
            obtain ⟨vs, rest, e', fr, g1, g2, g4, g3⟩ := (k.row o _ cs hcs rfl).hold
            rw [chunk_len] at hm hf
            have hvl' := g2.len
            have hmz : m * z ≤ n * z := Nat.mul_le_mul_right _ hm
            have hf2 := run_firstCells_some (P := P) w z n ⟨c.β o, off, none⟩ n rc ((vs.drop off).take (n * z)) (by simp; omega) (fun j v hj => by
              rw [Addr.add_eq _ rfl]
              have hlt : j < n * z := by
                rcases Nat.lt_or_ge j (n * z) with h' | h'
                · exact h'
                · rw [List.getElem?_eq_none (by simp; omega)] at hj; cases hj
              rw [List.getElem?_take_of_lt hlt, List.getElem?_drop] at hj
              simp only [World.cell?, g1, List.getElem?_toArray]
              rw [List.getElem?_append_left (by omega)]
              exact hj)
            rw [hf] at hf2
            injection hf2 with hf2
            have hu : vss.flatten = (vs.drop off).take (n * z) := congrArg Array.toList hf2
            refine run_firstCells_some w z m ⟨c.β o, off, none⟩ n rc _ htl (fun j v hj => ?_)
            rw [Addr.add_eq _ rfl]
            have hj := hpre j v hj
            rw [hu] at hj
            have hlt : j < n * z := by
              rcases Nat.lt_or_ge j (n * z) with h' | h'
              · exact h'
              · rw [List.getElem?_eq_none (by simp; omega)] at hj; cases hj
            rw [List.getElem?_take_of_lt hlt, List.getElem?_drop] at hj
            simp only [World.cell?, g1, List.getElem?_toArray]
            rw [List.getElem?_append_left (by omega)]
            exact hj
          · cases hys
        · cases hys
      | _ => simp [appSrcM, appSrc] at hys
    have zero : ∀ (a : Option Addr) (cap : Nat), vx = .slice a 0 cap → (Builtin.copy_ #[dt, st] ty #[vx, vy]).run P w = .ok (.int .i64 0) w := by
      intro a cap hv
      subst hv
      have h0 := part 0 (Nat.zero_le _)
      simp only [List.take_zero, List.flatten_nil] at h0
      cases a <;> simp [Builtin.copy_, run_underlying (sliceOf_eq ht), hl, run_size hsz, h0, storeCells, goInt]
    split at h
    · cases hx
      exact ⟨_, s, h, rfl, by rw [zero none 0 rfl]; exact ⟨_, c, w, rfl, Rep.int _ _, k, Cx.le.refl c, hsT, Below.refl _ _⟩⟩
    · cases hx with
      | e0 a => exact ⟨_, s, h, rfl, by rw [zero a 0 rfl]; exact ⟨_, c, w, rfl, Rep.int _ _, k, Cx.le.refl c, hsT, Below.refl _ _⟩⟩
    · cases hx with
      | sl t xs a cap sz' vs hlen hb hszs h1 ha hs hM hr htl' ht' => exact ⟨_, s, h, rfl, by rw [zero a cap rfl]; exact ⟨_, c, w, rfl, Rep.int _ _, k, Cx.le.refl c, hsT, Below.refl _ _⟩⟩
    · rename_i g z' o off n cap
      split at h
      · rename_i cs hcs
        obtain ⟨rfl, h2, h3⟩ := h
        cases hx with
        | ms _ _ _ _ _ _ rc hbd q1 q2 q3 =>
        refine ⟨_, _, h3, rfl, ?_⟩
        have hm := part (min ys.length n) (Nat.min_le_left _ _)
        have ke := ky.take (min ys.length n)
        have hkl := flatD_len ke.sz
        rw [List.length_take, Nat.min_eq_left (Nat.min_le_left _ _)] at hkl
        have hle : min ys.length n * z' ≤ n * z' := Nat.mul_le_mul_right _ (Nat.min_le_right _ _)
        have hfit := row_fits k hcs rfl
        obtain ⟨p1, p2, p3⟩ := put_inv (P := P) k hcs rfl ke.cells (off := off) (by omega) (by rw [hkl]; omega)
        rw [hkl] at p2
        have hrun : (Builtin.copy_ #[dt, st] ty #[.slice (some ⟨c.β o, off, none⟩) n rc, vy]).run P w = .ok (.int .i64 (min ys.length n : Nat)) (putCells w (c.β o) off (vss.take (min ys.length n)).flatten) := by
          have e1 : Nat.min ys.length n = min ys.length n := rfl
          simp [Builtin.copy_, run_underlying (sliceOf_eq ht), hl, run_size hsz, e1, hm, p1, goInt]
        rw [hrun]
        exact ⟨_, c, _, rfl, Rep.int _ _, p2, Cx.le.refl c, hsT, p3⟩
      · exact h.elim
    · exact h.elim

theorem rep_flat {z : List D} {vs : List Value} (k : Cells c z vs) : ∀ n, Cells c (List.replicate n z).flatten (List.replicate n vs).flatten
  | 0 => ⟨rfl, by simp, fun i h _ => absurd h (by simp)⟩
  | n + 1 => by
    simp only [List.replicate_succ, List.flatten_cons]
    exact k.append (rep_flat k n)

theorem zeroCells_eq (z : Array Value) (n : Nat) : (Builtin.zeroCells z n).toList = (List.replicate n z.toList).flatten := by
  unfold Builtin.zeroCells
  apply List.ext_getElem?
  intro i
  rcases Nat.lt_or_ge i (n * z.size) with hi | hi
  · have hpos : 0 < z.size := by
      rcases Nat.eq_zero_or_pos z.size with h | h
      · rw [h] at hi; simp at hi
      · exact h
    have h1 : i / z.size < n := Nat.div_lt_of_lt_mul (by rw [Nat.mul_comm]; exact hi)
    have h2 : i % z.size < z.size := Nat.mod_lt _ hpos
    have h3 : (List.replicate n z.toList).flatten[i / z.size * z.size + i % z.size]? = z.toList[i % z.size]? := by
      have := flat_at (sz := z.size) (List.replicate n z.toList) (i / z.size) (by simpa using h1) (i % z.size) (fun x hx => by rw [List.eq_of_mem_replicate hx]; simp) h2
      rw [this]; simp
    have h4 : i / z.size * z.size + i % z.size = i := by rw [Nat.mul_comm]; exact Nat.div_add_mod i z.size
    rw [h4] at h3
    rw [h3]
    simp [hi, h2]
  · have hl : (List.replicate n z.toList).flatten.length = n * z.size := by simp
    rw [List.getElem?_eq_none (by simpa using hi), List.getElem?_eq_none (by rw [hl]; exact hi)]

theorem clr_sound (k : Inv c w H) {t e : TypeId} {z : List D} (ht : sliceOf P t = some e) (hz : tz P e = some z) (ty : TypeId) {x : D} {vx : Value} (hx : Rep c x vx) {s : S} (hsH : s.H = H) (hsT : c.T = s.T) {K : D → S → Prop} (h : clrK z K s x) :
    ∃ d s', K d s' ∧ s'.t = s.t ∧ Yld c w s'.H s'.T d ((Builtin.clear_ #[t] ty #[vx]).run P w) := by
  subst hsH
  obtain ⟨zv, z1, z2⟩ := run_zero (P := P) hz c
  have ru := run_underlying (P := P) (w := w) (sliceOf_eq ht)
  have tupR : Rep c (.tup []) (.tuple #[]) := Rep.tup [] [] rfl (fun i h _ => absurd h (by simp))
  have zero : ∀ (a : Option Addr) (cap : Nat), vx = .slice a 0 cap → (Builtin.clear_ #[t] ty #[vx]).run P w = .ok (.tuple #[]) w := by
    intro a cap hv
    subst hv
    cases a <;> simp [Builtin.clear_, ru]
  unfold clrK at h
  split at h
  · cases hx
    exact ⟨_, s, h, rfl, by rw [zero none 0 rfl]; exact ⟨_, c, w, rfl, tupR, k, Cx.le.refl c, hsT, Below.refl _ _⟩⟩
  · cases hx with
    | e0 a => exact ⟨_, s, h, rfl, by rw [zero a 0 rfl]; exact ⟨_, c, w, rfl, tupR, k, Cx.le.refl c, hsT, Below.refl _ _⟩⟩
  · cases hx with
    | sl t xs a cap sz' vs hlen hb hszs h1 ha hs hM hr htl' ht' => exact ⟨_, s, h, rfl, by rw [zero a cap rfl]; exact ⟨_, c, w, rfl, tupR, k, Cx.le.refl c, hsT, Below.refl _ _⟩⟩
  · rename_i g sz o off n cap
    split at h
    · rename_i cs hcs
      obtain ⟨rfl, h2, h3⟩ := h
      cases hx with
      | ms _ _ _ _ _ _ rc hbd q1 q2 q3 =>
      refine ⟨_, _, h3, rfl, ?_⟩
      have hfl : (List.replicate n z).flatten.length = n * z.length := by simp
      have hfit := row_fits k hcs rfl
      obtain ⟨p1, p2, p3⟩ := put_inv (P := P) k hcs rfl (rep_flat z2 n) (off := off) (by omega) (by rw [hfl]; omega)
      rw [hfl] at p2
      have hrun : ∃ w', (Builtin.clear_ #[t] ty #[.slice (some ⟨c.β o, off, none⟩) n rc]).run P w = .ok (.tuple #[]) w' ∧ w' = putCells w (c.β o) off (List.replicate n zv.cells.toList).flatten := by
        cases n with
        | zero => exact ⟨w, by simp [Builtin.clear_, ru], by simp [putCells]⟩
        | succ n =>
          refine ⟨_, ?_, rfl⟩
          simp [Builtin.clear_, ru, z1, zeroCells_eq, p1]
      obtain ⟨w', e1, e2⟩ := hrun
      subst e2
      rw [e1]
      exact ⟨_, c, _, rfl, tupR, p2, Cx.le.refl c, hsT, p3⟩
    · exact h.elim
  · exact h.elim

theorem mkm_sound (k : Inv c w H) {t e : TypeId} {z : List D} {sz bytes : Nat} (ht : sliceOf P t = some e) (hsz : tsz P e = some sz) (hby : tbytes P e = some bytes) (hz : tz P e = some z) {x y : D} {vx vy : Value} (hx : Rep c x vx) (hy : Rep c y vy) {s : S} (hsH : s.H = H) (hsT : c.T = s.T) {K : D → S → Prop} {ag : Bool}
    (h : mkmK ag sz bytes z K s x y) :
    ∃ d s', K d s' ∧ s'.t = s.t ∧ Yld c w s'.H s'.T d ((Instr.makeSlice t vx vy).run P w) := by
  subst hsH
  obtain ⟨zv, z1, z2⟩ := run_zero (P := P) hz c
  obtain ⟨i, hi, hib⟩ := run_bytes hby
  unfold mkmK at h
  split at h
  · rename_i ka a kb b
    obtain ⟨h1, h2, h3, h4, h5, h6⟩ := h
    cases hx; cases hy
    refine ⟨_, _, h6, rfl, ?_⟩
    have wa : IntKind.i64.wrap a = a := by simp [IntKind.wrap, IntKind.bits, IntKind.signed]; omega
    have wb : IntKind.i64.wrap b = b := by simp [IntKind.wrap, IntKind.bits, IntKind.signed]; omega
    have hzs : zv.cells.size = sz := by have := z2.len; simp at this; omega
    have hrun : (Instr.makeSlice t (.int ka a) (.int kb b)).run P w = .ok (.slice (some ⟨w.heap.size, 0, none⟩) a.toNat b.toNat) (w.alloc (.cells (List.replicate b.toNat zv.cells.toList).flatten.toArray e)) := by
      have hb0 : ¬ b < 0 := by omega
      have ha0 : ¬ a < 0 := by omega
      have hab : ¬ b < a := by omega
      have hbig : ¬ (281474976710656 : Int) < i.bytes * b := by rw [hib, Int.mul_comm]; omega
      have hze : ((Array.range (b.toNat * sz)).map (fun j => (if b.toNat * sz = 0 then #[] else zv.cells)[j % (if b.toNat * sz = 0 then #[] else zv.cells).size]!)) = (List.replicate b.toNat zv.cells.toList).flatten.toArray := by
        apply Array.toList_inj.1
        by_cases h0 : b.toNat * sz = 0
        · have : (List.replicate b.toNat zv.cells.toList).flatten.length = 0 := by simp [hzs, h0]
          have : (List.replicate b.toNat zv.cells.toList).flatten = [] := List.length_eq_zero_iff.1 this
          rw [this, h0]; simp
        · simp only [h0, if_false]
          have := zeroCells_eq zv.cells b.toNat
          unfold Builtin.zeroCells at this
          rw [hzs] at this
          simp only [hzs]
          exact this
      have has : ∀ (n : Nat) (w : World), (askRoom n).run P w = .ok () w := fun n w => by unfold askRoom; split <;> rfl
      by_cases h0 : b.toNat * sz = 0
      · simp only [h0, if_true] at hze
        simp [Instr.makeSlice, run_underlying (sliceOf_eq ht), hi, asInt, asIntOf, wa, wb, hb0, ha0, hab, hbig, has, run_size hsz, h0, newRow]
        rw [← hze]; simp
      · simp only [h0, if_false] at hze
        simp [Instr.makeSlice, run_underlying (sliceOf_eq ht), hi, asInt, asIntOf, wa, wb, hb0, ha0, hab, hbig, has, run_size hsz, h0, z1, newRow]
        rw [← hze]
    rw [hrun]
    have hr := rep_flat z2 b.toNat
    have := new_ms k [] e hr (k.free s.H.length (.inl (Nat.le_refl _))) (H' := s.H ++ [.row (List.replicate b.toNat z).flatten]) (push_at _ _) (fun o' h => push_other _ _ o' h) hsT (ag := ag) (sz := sz) (n := a.toNat) (cap := b.toNat) (rc := b.toNat)
      (by omega) (Nat.le_refl _) (by rw [hr.len]; simp [h5])
    rw [List.append_nil] at this
    exact this
  · exact h.elim

end GP
