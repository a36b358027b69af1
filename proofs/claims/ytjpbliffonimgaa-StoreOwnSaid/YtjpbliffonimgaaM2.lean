import Derived.BigFrame
import Derived.Test.YtjpbliffonimgaaM1
set_option linter.unusedSimpArgs false
set_option linter.unnecessarySimpa false
set_option linter.unusedSectionVars false
namespace GP
open Go
variable {P : Program} {c : Cx} {w : World} {H : Hp}
def chunkV (sz : Nat) : Nat → List Value → List (List Value)
  | 0, _ => []
  | n + 1, vs => vs.take sz :: chunkV sz n (vs.drop sz)
theorem chunk_len (ag : Bool) (sz : Nat) : ∀ (n : Nat) (cs : List D), (chunk ag sz n cs).length = n
  | 0, _ => rfl
  | n + 1, cs => by simp [chunk, chunk_len ag sz n]
theorem chunkV_len (sz : Nat) : ∀ (n : Nat) (cs : List Value), (chunkV sz n cs).length = n
  | 0, _ => rfl
  | n + 1, cs => by simp [chunkV, chunkV_len sz n]
theorem chunkV_flat (sz : Nat) : ∀ (n : Nat) (vs : List Value), (chunkV sz n vs).flatten = vs.take (n * sz)
  | 0, _ => by simp [chunkV]
  | n + 1, vs => by
    simp only [chunkV, List.flatten_cons, chunkV_flat sz n]
    rw [Nat.add_mul, Nat.one_mul, Nat.add_comm, List.take_add]
theorem chunk_elems {ag : Bool} {sz : Nat} (hag : ag = true ∨ sz = 1) : ∀ (n : Nat) (cs : List D) (vs : List Value), Cells c cs vs → n * sz ≤ cs.length → Elems c sz (chunk ag sz n cs) (chunkV sz n vs)
  | 0, cs, vs, _, _ => ⟨rfl, fun i h _ => absurd h (by simp [chunk]), fun x hx => by simp [chunk] at hx⟩
  | n + 1, cs, vs, k, hl => by
    rw [Nat.add_mul, Nat.one_mul] at hl
    have ih := chunk_elems hag n (cs.drop sz) (vs.drop sz) (k.drop sz) (by simp; omega)
    have h0 : Cells c (D.cells (if ag then .agg (cs.take sz) else cs.headD .top)) (vs.take sz) ∧ (D.cells (if ag then .agg (cs.take sz) else cs.headD .top)).length = sz := by
      cases ag with
      | true => exact ⟨by simpa [D.cells] using k.take sz, by simp [D.cells]; omega⟩
      | false =>
        have h1 : sz = 1 := by simpa using hag
        subst h1
        cases cs with
        | nil => simp at hl
        | cons d cs =>
          have hone := k.one d (by simp)
          have hc : d.cells = [d] := by cases d <;> simp_all [D.one, D.cells]
          have kt := k.take 1
          simp only [List.take_succ_cons, List.take_zero] at kt
          simp only [Bool.false_eq_true, if_false, List.headD_cons, hc]
          exact ⟨kt, rfl⟩
    refine ⟨by simp [chunk, chunkV, chunk_len, chunkV_len], fun i h h' => ?_, fun x hx => ?_⟩
    · cases i with
      | zero => exact h0.1
      | succ i => exact ih.el i (by simpa [chunk] using h) (by simpa [chunkV] using h')
    · simp only [chunk, List.mem_cons] at hx
      rcases hx with rfl | hx
      · exact h0.2
      · exact ih.sz x hx
theorem Elems.cells {sz : Nat} : ∀ {xs : List D} {vss : List (List Value)}, Elems c sz xs vss → Cells c (flatD xs) vss.flatten
  | [], vss, k => by
    have : vss = [] := by have := k.len; simpa using this
    subst this
    exact ⟨rfl, by simp [flatD], fun i h _ => absurd h (by simp [flatD])⟩
  | x :: xs, [], k => by have := k.len; simp at this
  | x :: xs, v :: vss, k => by
    have k' : Elems c sz xs vss := ⟨by have := k.len; simpa using this, fun i h h' => k.el (i + 1) (by simpa using h) (by simpa using h'), fun y hy => k.sz y (by simp [hy])⟩
    have h0 := k.el 0 (by simp) (by simp)
    have := h0.append k'.cells
    simpa [flatD] using this
theorem flatD_len {sz : Nat} {xs : List D} (h : ∀ x ∈ xs, x.cells.length = sz) : (flatD xs).length = xs.length * sz := by
  induction xs with
  | nil => simp [flatD]
  | cons x xs ih =>
    have := ih (fun y hy => h y (by simp [hy]))
    simp only [flatD, List.map_cons, List.flatten_cons, List.length_append, List.length_cons] at this ⊢
    rw [h x (by simp), this, Nat.add_mul]; omega
theorem Elems.take {sz : Nat} {xs : List D} {vss : List (List Value)} (k : Elems c sz xs vss) (m : Nat) : Elems c sz (xs.take m) (vss.take m) :=
  ⟨by simp [k.len], fun i h h' => by simpa using k.el i (by simp at h; omega) (by simp at h'; omega), fun x hx => k.sz x (List.mem_of_mem_take hx)⟩
theorem src_soundM (k : Inv c w H) {sz : Nat} {y : D} {vy : Value} (hy : Rep c y vy) {ys : List D} {st : Bool} (h : appSrcM H st sz y = some ys) (hf : ys.all (fit sz) = true) (hbyte : ∀ l, y = .str l → sz = 1) :
    ∃ vss, Elems c sz ys vss ∧ (∀ w', (Builtin.lenOf vy).run P w' = .ok ys.length w') ∧ (∀ w', w'.heap = w.heap → (Builtin.firstCells sz ys.length vy).run P w' = .ok vss.flatten.toArray w') := by
  cases y with
  | ms ag z o off n cap =>
    simp only [appSrcM] at h
    split at h
    · rename_i cs hcs
      split at h
      · rename_i hc
        obtain ⟨rfl, rfl, h3, h4⟩ := hc
        injection h with h; subst h
        cases hy with
        | ms _ _ _ _ _ _ rc hbd h1 h2 h3' =>
          obtain ⟨vs, rest, e, fr, g1, g2, g4, g3⟩ := (k.row o _ cs hcs rfl).hold
          have hvl := g2.len
          have he := chunk_elems (c := c) h4 n (cs.drop off) (vs.drop off) (g2.drop off) (by simp; omega)
          refine ⟨_, he, fun w' => by simp [Builtin.lenOf, chunk_len], fun w' hw' => ?_⟩
          rw [chunk_len]
          have hfl : (chunkV z n (vs.drop off)).flatten.length = n * z := by rw [chunkV_flat]; simp; omega
          refine run_firstCells_some w' z n ⟨c.β o, off, none⟩ n rc _ hfl (fun j v hj => ?_)
          rw [Addr.add_eq _ rfl, cell?_heap hw']
          simp only [World.cell?, g1]
          rw [chunkV_flat] at hj
          have hlt : j < n * z := by
            rcases Nat.lt_or_ge j (n * z) with h' | h'
            · exact h'
            · rw [List.getElem?_eq_none (by simp; omega)] at hj; cases hj
          rw [List.getElem?_take_of_lt hlt, List.getElem?_drop] at hj
          simp only [List.getElem?_toArray]
          rw [List.getElem?_append_left (by omega)]
          exact hj
      · cases h
    · cases h
  | _ => exact src_sound (st := st) k hy h hf hbyte
theorem rep_flat {z : List D} {vs : List Value} (k : Cells c z vs) : ∀ n, Cells c (List.replicate n z).flatten (List.replicate n vs).flatten
  | 0 => ⟨rfl, by simp, fun i h _ => absurd h (by simp)⟩
  | n + 1 => by
    simp only [List.replicate_succ, List.flatten_cons]
    exact k.append (rep_flat k n)
theorem zeroCells_eq (z : Array Value) (n : Nat) : (Builtin.zeroCells z n).toList = (List.replicate n z.toList).flatten := by
  unfold Builtin.zeroCells
  apply List.ext_getElem?
  intro i
  rcases Nat.lt_or_ge i (n * z.size) with hi | hi
  · have hpos : 0 < z.size := by
      rcases Nat.eq_zero_or_pos z.size with h | h
      · rw [h] at hi; simp at hi
      · exact h
    have h1 : i / z.size < n := Nat.div_lt_of_lt_mul (by rw [Nat.mul_comm]; exact hi)
    have h2 : i % z.size < z.size := Nat.mod_lt _ hpos
    have h3 : (List.replicate n z.toList).flatten[i / z.size * z.size + i % z.size]? = z.toList[i % z.size]? := by
      have := flat_at (sz := z.size) (List.replicate n z.toList) (i / z.size) (by simpa using h1) (i % z.size) (fun x hx => by rw [List.eq_of_mem_replicate hx]; simp) h2
      rw [this]; simp
    have h4 : i / z.size * z.size + i % z.size = i := by rw [Nat.mul_comm]; exact Nat.div_add_mod i z.size
    rw [h4] at h3
    rw [h3]
    simp [hi, h2]
  · have hl : (List.replicate n z.toList).flatten.length = n * z.size := by simp
    rw [List.getElem?_eq_none (by simpa using hi), List.getElem?_eq_none (by rw [hl]; exact hi)]
theorem app_grow2 {st xt e : TypeId} {sz bytes : Nat} (ht : sliceOf P st = some e) (hxt : appT P xt = true) (hsz : tsz P e = some sz) (hby : tbytes P e = some bytes) (ty : TypeId) (base : Option Addr) (sLen sCap : Nat) (vy : Value) {n : Nat}
    (hl : ∀ w', (Builtin.lenOf vy).run P w' = .ok n w') (hg : sCap < sLen + n) (hneed : sLen + n < 2 ^ 63) (hbig : (sLen + n) * bytes ≤ 2 ^ 47) {z : List D} (hz : tz P e = some z) (hzl : z.length = sz) {old new : Array Value}
    (hold : (Builtin.firstCells sz sLen (.slice base sLen sCap)).run P w.drew = .ok old w.drew) (hnew : (Builtin.firstCells sz n vy).run P w.drew = .ok new w.drew) (c : Cx) :
    ∃ (cap : Nat) (rest : List Value), sLen + n ≤ cap ∧ rest.length = (cap - (sLen + n)) * sz ∧ Cells c (List.replicate (cap - (sLen + n)) z).flatten rest ∧
      (Builtin.append_ #[st, xt] ty #[.slice base sLen sCap, vy]).run P w = .ok (.slice (some ⟨w.heap.size, 0, none⟩) (sLen + n) cap) (w.drew.alloc (.cells (old ++ new ++ rest.toArray) e)) := by
  obtain ⟨zv, z1, z2⟩ := run_zero (P := P) hz c
  obtain ⟨i, hi, hib⟩ := run_bytes hby
  refine ⟨grownCap w (sLen + n) sCap e, (Builtin.zeroCells zv.cells (grownCap w (sLen + n) sCap e - (sLen + n))).toList, ?_, ?_, ?_, ?_⟩
  · simp [grownCap, Question.cut]
  · have : zv.cells.size = sz := by have := z2.len; simp at this; omega
    simp [Builtin.zeroCells, this]
  · rw [zeroCells_eq]; exact rep_flat z2 _
  · have hn : ¬ (sLen + n ≤ sCap) := by omega
    have h63 : ¬ (9223372036854775807 < ((sLen : Int) + (n : Int))) := by omega
    have h48 : ¬ (281474976710656 < Builtin.nextslicecap (sLen + n) sCap * i.bytes) := by
      have := growslice_fits (need := sLen + n) (old := sCap) (bytes := bytes) hg (by simpa using hbig)
      rw [hib]; omega
    rcases appT_ok hxt with hd | ⟨e', hd⟩ <;>
      simp [Builtin.append_, run_underlying (sliceOf_eq ht), run_size hsz, run_underlying hd, hl, hn, h63, h48, hi, Question.forced, hold, hnew, z1, newRow, grownCap]
theorem grow_ms (_k : Inv c w H) {st xt e : TypeId} {sz bytes : Nat} (ht : sliceOf P st = some e) (hxt : appT P xt = true) (hsz : tsz P e = some sz) (hby : tbytes P e = some bytes) (ty : TypeId) {base : Option Addr} {sLen sCap : Nat} {vy : Value} {H1 : Hp}
    (k1 : Inv c w.drew H1) {cs : List D} {vs : List Value} (hcs : Cells c cs vs) (hcl : cs.length = sLen * sz) {ys : List D} {vss : List (List Value)} (hy : Elems c sz ys vss) (hl : ∀ w', (Builtin.lenOf vy).run P w' = .ok ys.length w') (hg : sCap < sLen + ys.length) (hneed : sLen + ys.length < 2 ^ 62)
    (hbig : (sLen + ys.length) * bytes ≤ 2 ^ 47) {z : List D} (hz : tz P e = some z) (hzl : z.length = sz)
    (hold : (Builtin.firstCells sz sLen (.slice base sLen sCap)).run P w.drew = .ok vs.toArray w.drew) (hnew : (Builtin.firstCells sz ys.length vy).run P w.drew = .ok vss.flatten.toArray w.drew) {T : Tk} (hT : c.T = T) (ag : Bool) :
    ∃ c' X, sLen + ys.length ≤ c' ∧ X.length = (c' - (sLen + ys.length)) * sz ∧ (∀ d ∈ X, d.one = true) ∧ Yld c w (H1 ++ [.row (cs ++ flatD ys ++ X)]) T (.ms ag sz H1.length 0 (sLen + ys.length) c') ((Builtin.append_ #[st, xt] ty #[.slice base sLen sCap, vy]).run P w) := by
  obtain ⟨cap, rest, h1, h2, h4, h3⟩ := app_grow2 (w := w) ht hxt hsz hby ty base sLen sCap vy hl hg (by omega) hbig hz hzl hold hnew c
  rw [h3]
  have hyl := flatD_len hy.sz
  have hk : Cells c (cs ++ flatD ys ++ (List.replicate (cap - (sLen + ys.length)) z).flatten) (vs ++ vss.flatten ++ rest) := (hcs.append hy.cells).append h4
  have hkl := hk.len
  have hXl : (List.replicate (cap - (sLen + ys.length)) z).flatten.length = (cap - (sLen + ys.length)) * sz := by simp [hzl]
  refine ⟨cap, _, h1, hXl, h4.one, ?_⟩
  have := new_ms k1 [] e hk (k1.free H1.length (.inl (Nat.le_refl _))) (H' := H1 ++ [.row (cs ++ flatD ys ++ (List.replicate (cap - (sLen + ys.length)) z).flatten)]) (push_at _ _) (fun o' h => push_other _ _ o' h) hT (ag := ag) (sz := sz) (n := sLen + ys.length) (cap := cap) (rc := cap)
    h1 rfl (by
      rw [hkl, List.length_append, List.length_append, hcl, hyl, hXl, ← Nat.add_mul, ← Nat.add_mul, List.length_nil, Nat.add_zero]
      exact Nat.mul_le_mul_right _ (by omega))
  have e1 : (vs ++ vss.flatten ++ rest ++ []).toArray = vs.toArray ++ vss.flatten.toArray ++ rest.toArray := by simp
  rw [e1] at this
  exact this.drew
theorem appm_sound (k : Inv c w H) {st xt e : TypeId} {sz bytes : Nat} (ht : sliceOf P st = some e) (hxt : appT P xt = true) (hsz : tsz P e = some sz) (hby : tbytes P e = some bytes) {z : List D} (hz : tz P e = some z) (hzl : z.length = sz)
    (ty : TypeId) {x y : D} {vx vy : Value} (hx : Rep c x vx) (hy : Rep c y vy) {str : Bool} (hstr : ∀ l, y = .str l → str = true → sz = 1) {s : S} (hsH : s.H = H) (hsT : c.T = s.T) {K : D → S → Prop} (ag : Bool)
    (h : appmK ag sz bytes K s x (appSrcM s.H str sz y)) :
    ∃ d s', K d s' ∧ s'.t = s.t ∧ Yld c w s'.H s'.T d ((Builtin.append_ #[st, xt] ty #[vx, vy]).run P w) := by
  subst hsH
  unfold appmK at h
  split at h
  · exact h.elim
  · rename_i ys hys
    obtain ⟨hfy, h⟩ := h
    obtain ⟨vss, ky, hl, hfirst⟩ := src_soundM (P := P) k hy hys hfy (fun l hl => by
      subst hl
      cases str
      · simp [appSrcM, appSrc] at hys
      · exact hstr l rfl rfl)
    have c0 : Cells c [] [] := ⟨rfl, by simp, fun i h _ => absurd h (by simp)⟩
    have hyl := flatD_len ky.sz
    split at h
    · cases hx
      split at h
      · rename_i h0
        subst h0
        have e0 : vss = [] := by have := ky.len; simpa using this
        subst e0
        refine ⟨.nils, s, h, rfl, ?_⟩
        rw [app_nils0 ht hxt hsz ty vy hl (by simpa using hfirst w rfl)]
        exact ⟨_, c, w, rfl, Rep.nils, k, Cx.le.refl c, hsT, Below.refl _ _⟩
      · rename_i h0
        obtain ⟨h1, h2, h3⟩ := h
        have hpos : 0 < ys.length := by cases ys with | nil => exact absurd rfl h0 | cons => simp
        obtain ⟨c', X, x1, x2, x3, this⟩ := grow_ms (P := P) k ht hxt hsz hby ty (base := none) (sLen := 0) (sCap := 0) k.drew c0 (by simp) ky hl (by simpa using hpos) (by simpa using h2) (by simpa using h1) hz hzl (by simp [Builtin.firstCells]) (hfirst _ rfl) hsT ag
        refine ⟨_, _, h3 c' X (by simpa using x1) (by simpa using x2) x3, rfl, ?_⟩
        simpa using this
    · cases hx with
      | e0 a =>
      split at h
      · rename_i h0
        subst h0
        have e0 : vss = [] := by have := ky.len; simpa using this
        subst e0
        refine ⟨.e0, s, h, rfl, ?_⟩
        rw [app_fit ht hxt hsz ty a 0 0 vy hl (Nat.le_refl _) (by simpa using hfirst w rfl) (w' := w) (fun b h => by simp [storeCells]) (fun _ => rfl)]
        exact ⟨_, c, w, rfl, Rep.e0 a, k, Cx.le.refl c, hsT, Below.refl _ _⟩
      · rename_i h0
        obtain ⟨h1, h2, h3⟩ := h
        have hpos : 0 < ys.length := by cases ys with | nil => exact absurd rfl h0 | cons => simp
        obtain ⟨c', X, x1, x2, x3, this⟩ := grow_ms (P := P) k ht hxt hsz hby ty (base := a) (sLen := 0) (sCap := 0) k.drew c0 (by simp) ky hl (by simpa using hpos) (by simpa using h2) (by simpa using h1) hz hzl (by cases a <;> simp [Builtin.firstCells, loadCells, loadCellsFrom]) (hfirst _ rfl) hsT ag
        refine ⟨_, _, h3 c' X (by simpa using x1) (by simpa using x2) x3, rfl, ?_⟩
        simpa using this
    · rename_i g z' o off n cap
      split at h
      · rename_i cs hcs
        obtain ⟨rfl, h⟩ := h
        cases hx with
        | ms _ _ _ _ _ _ rc hbd q1 q2 q3 =>
        obtain ⟨vs, rest, e', fr, g1, g2, g4, g3⟩ := (k.row o _ cs hcs rfl).hold
        have hvl := g2.len
        have hadd : ∀ m, Addr.add ⟨c.β o, off, none⟩ m = ⟨c.β o, off + m, none⟩ := fun m => Addr.add_eq _ rfl _
        have inplace : n + ys.length ≤ rc → off + n * z' ≤ cs.length →
            Yld c w (s.H.set o (.row (cs.take (off + n * z') ++ flatD ys ++ cs.drop (off + n * z' + (flatD ys).length)))) s.T (.ms g z' o off (n + ys.length) (max cap (n + ys.length))) ((Builtin.append_ #[st, xt] ty #[.slice (some ⟨c.β o, off, none⟩) n rc, vy]).run P w) := by
          intro hfit hoff
          have hle : (n + ys.length) * z' ≤ rc * z' := Nat.mul_le_mul_right _ hfit
          rw [Nat.add_mul] at hle
          obtain ⟨p1, p2, p3⟩ := put_inv (P := P) k hcs rfl ky.cells (off := off + n * z') hoff (by rw [hyl]; omega)
          rw [app_fit ht hxt hsz ty _ n rc vy hl hfit (hfirst w rfl) (fun a ha => by injection ha with ha; subst ha; rw [hadd]; simpa using p1) (fun h => by cases h)]
          exact ⟨_, c, _, rfl, Rep.ms g z' o off _ _ rc hbd (by omega) (by omega) q3, p2, Cx.le.refl c, hsT, p3⟩
        split at h
        · rename_i hfit
          obtain ⟨h1, h2⟩ := h
          have hle : n * z' ≤ cap * z' := Nat.mul_le_mul_right _ q1
          have := inplace (by omega) (by omega)
          rw [hyl] at this
          rw [show off + n * z' + ys.length * z' = off + (n + ys.length) * z' by rw [Nat.add_mul]; omega, show max cap (n + ys.length) = cap by omega] at this
          exact ⟨_, _, h2, rfl, this⟩
        · rename_i hfit
          obtain ⟨h1, h2, h3, h4, h5⟩ := h
          subst h1
          subst q2
          have hvt : (vs.take (n * z')).length = n * z' := by rw [List.length_take]; omega
          obtain ⟨c', X, x1, x2, x3, this⟩ := grow_ms (P := P) k ht hxt hsz hby ty (base := some ⟨c.β o, 0, none⟩) (sLen := n) (sCap := cap) (kill_inv k.drew o) (g2.take (n * z')) (by rw [List.length_take]; omega) ky hl (by omega) h4 h3 hz hzl
              (run_firstCells_some w.drew z' n _ n cap (vs.take (n * z')) (by omega) (fun j v hj => by
                rw [Addr.add_eq _ rfl]
                have hj' : j < (vs.take (n * z')).length := by
                  rcases Nat.lt_or_ge j (vs.take (n * z')).length with h' | h'
                  · exact h'
                  · rw [List.getElem?_eq_none h'] at hj; cases hj
                have e1 : w.drew.heap[c.β o]? = some (.cells (vs ++ rest).toArray e' fr) := g1
                simp only [World.cell?, e1, Nat.zero_add, List.getElem?_toArray]
                rw [List.getElem?_take_of_lt (by omega)] at hj
                rw [List.getElem?_append_left (by omega)]; exact hj)) (hfirst _ rfl) hsT g
          rw [List.length_set] at this
          exact ⟨_, _, h5 c' X x1 x2 x3, rfl, this⟩
      · exact h.elim
    · exact h.elim
theorem copy_sound (k : Inv c w H) {dt st e : TypeId} {sz : Nat} (ht : sliceOf P dt = some e) (hsz : tsz P e = some sz) (ty : TypeId) {x y : D} {vx vy : Value} (hx : Rep c x vx) (hy : Rep c y vy) {s : S} (hsH : s.H = H) (hsT : c.T = s.T) {K : D → S → Prop}
    (h : copyK sz K s x (appSrcM s.H false sz y)) :
    ∃ d s', K d s' ∧ s'.t = s.t ∧ Yld c w s'.H s'.T d ((Builtin.copy_ #[dt, st] ty #[vx, vy]).run P w) := by
  subst hsH
  unfold copyK at h
  split at h
  · exact h.elim
  · rename_i ys hys
    obtain ⟨hfy, h⟩ := h
    obtain ⟨vss, ky, hl, hfirst⟩ := src_soundM (P := P) k hy hys hfy (fun l hl => by
      subst hl
      simp [appSrcM, appSrc] at hys)
    have part : ∀ m, m ≤ ys.length → (Builtin.firstCells sz m vy).run P w = .ok (vss.take m).flatten.toArray w := by
      intro m hm
      have hf := hfirst w rfl
      have hvl := flat_len vss ky.sz'
      rw [ky.len] at hvl
      have htl := flat_len (vss.take m) (fun v hv => ky.sz' v (List.mem_of_mem_take hv))
      rw [List.length_take, ky.len, Nat.min_eq_left hm] at htl
      have hpre : ∀ (j : Nat) v, (vss.take m).flatten[j]? = some v → vss.flatten[j]? = some v := by
        intro j v hj
        have e : vss.flatten = (vss.take m).flatten ++ (vss.drop m).flatten := by rw [← List.flatten_append, List.take_append_drop]
        rw [e, List.getElem?_append_left]
        · exact hj
        · rcases Nat.lt_or_ge j (vss.take m).flatten.length with h' | h'
          · exact h'
          · rw [List.getElem?_eq_none h'] at hj; cases hj
      cases hy with
      | nils => have : ys = [] := by simpa [appSrcM, appSrc] using hys.symm
                subst this
                have : vss = [] := by have := ky.len; simpa using this
                subst this
                simp [Builtin.firstCells]
      | e0 a => have : ys = [] := by simpa [appSrcM, appSrc] using hys.symm
                subst this
                have hm0 : m = 0 := by simpa using hm
                subst hm0
                cases a <;> simp [Builtin.firstCells, loadCells, loadCellsFrom]
      | sl t xs a cap sz' vs hlen hb hszs h1 ha hs hM hr htl' ht' =>
        have e : ys = xs := by simpa [appSrcM, appSrc] using hys.symm
        subst e
        cases a with
        | none =>
          cases ys with
          | nil => simp only [List.length_nil] at hm; have hm0 : m = 0 := by omega
                   subst hm0; simp [Builtin.firstCells]
          | cons y ys => obtain ⟨b, hb⟩ := ha (by simp); cases hb
        | some b =>
          obtain ⟨a', cap', uss, e1, e2, e3, e4, e5, e6, e7⟩ := sl_elems k (Rep.sl t ys (some b) cap sz' vs hlen hb hszs h1 ha hs hM hr htl' ht') (fit_sz hfy)
          injection e1 with e1 _ e1'
          subst e1
          have hu : uss.flatten = vss.flatten := by
            have := run_firstCells_some (P := P) w sz ys.length b ys.length cap uss.flatten e7 (fun j v hj => (e6 b rfl j v hj).1)
            rw [hf] at this
            injection this with this
            exact (congrArg Array.toList this).symm
          exact run_firstCells_some w sz m b ys.length cap _ htl (fun j v hj => (e6 b rfl j v (by rw [hu]; exact hpre j v hj)).1)
      | ms ag z o off n cap rc hbd q1 q2 q3 =>
        simp only [appSrcM] at hys
        split at hys
        · rename_i cs hcs
          split at hys
          · rename_i hc
            obtain ⟨_, rfl, h3, h4⟩ := hc
            injection hys with hys; subst hys
            obtain ⟨vs, rest, e', fr, g1, g2, g4, g3⟩ := (k.row o _ cs hcs rfl).hold
            rw [chunk_len] at hm hf
            have hvl' := g2.len
            have hmz : m * z ≤ n * z := Nat.mul_le_mul_right _ hm
            have hf2 := run_firstCells_some (P := P) w z n ⟨c.β o, off, none⟩ n rc ((vs.drop off).take (n * z)) (by simp; omega) (fun j v hj => by
              rw [Addr.add_eq _ rfl]
              have hlt : j < n * z := by
                rcases Nat.lt_or_ge j (n * z) with h' | h'
                · exact h'
                · rw [List.getElem?_eq_none (by simp; omega)] at hj; cases hj
              rw [List.getElem?_take_of_lt hlt, List.getElem?_drop] at hj
              simp only [World.cell?, g1, List.getElem?_toArray]
              rw [List.getElem?_append_left (by omega)]
              exact hj)
            rw [hf] at hf2
            injection hf2 with hf2
            have hu : vss.flatten = (vs.drop off).take (n * z) := congrArg Array.toList hf2
            refine run_firstCells_some w z m ⟨c.β o, off, none⟩ n rc _ htl (fun j v hj => ?_)
            rw [Addr.add_eq _ rfl]
            have hj := hpre j v hj
            rw [hu] at hj
            have hlt : j < n * z := by
              rcases Nat.lt_or_ge j (n * z) with h' | h'
              · exact h'
              · rw [List.getElem?_eq_none (by simp; omega)] at hj; cases hj
            rw [List.getElem?_take_of_lt hlt, List.getElem?_drop] at hj
            simp only [World.cell?, g1, List.getElem?_toArray]
            rw [List.getElem?_append_left (by omega)]
            exact hj
          · cases hys
        · cases hys
      | _ => simp [appSrcM, appSrc] at hys
    have zero : ∀ (a : Option Addr) (cap : Nat), vx = .slice a 0 cap → (Builtin.copy_ #[dt, st] ty #[vx, vy]).run P w = .ok (.int .i64 0) w := by
      intro a cap hv
      subst hv
      have h0 := part 0 (Nat.zero_le _)
      simp only [List.take_zero, List.flatten_nil] at h0
      cases a <;> simp [Builtin.copy_, run_underlying (sliceOf_eq ht), hl, run_size hsz, h0, storeCells, goInt]
    split at h
    · cases hx
      exact ⟨_, s, h, rfl, by rw [zero none 0 rfl]; exact ⟨_, c, w, rfl, Rep.int _ _, k, Cx.le.refl c, hsT, Below.refl _ _⟩⟩
    · cases hx with
      | e0 a => exact ⟨_, s, h, rfl, by rw [zero a 0 rfl]; exact ⟨_, c, w, rfl, Rep.int _ _, k, Cx.le.refl c, hsT, Below.refl _ _⟩⟩
    · cases hx with
      | sl t xs a cap sz' vs hlen hb hszs h1 ha hs hM hr htl' ht' => exact ⟨_, s, h, rfl, by rw [zero a cap rfl]; exact ⟨_, c, w, rfl, Rep.int _ _, k, Cx.le.refl c, hsT, Below.refl _ _⟩⟩
    · rename_i g z' o off n cap
      split at h
      · rename_i cs hcs
        obtain ⟨rfl, h2, h3⟩ := h
        cases hx with
        | ms _ _ _ _ _ _ rc hbd q1 q2 q3 =>
        refine ⟨_, _, h3, rfl, ?_⟩
        have hm := part (min ys.length n) (Nat.min_le_left _ _)
        have ke := ky.take (min ys.length n)
        have hkl := flatD_len ke.sz
        rw [List.length_take, Nat.min_eq_left (Nat.min_le_left _ _)] at hkl
        have hle : min ys.length n * z' ≤ n * z' := Nat.mul_le_mul_right _ (Nat.min_le_right _ _)
        have hfit := row_fits k hcs rfl
        obtain ⟨p1, p2, p3⟩ := put_inv (P := P) k hcs rfl ke.cells (off := off) (by omega) (by rw [hkl]; omega)
        rw [hkl] at p2
        have hrun : (Builtin.copy_ #[dt, st] ty #[.slice (some ⟨c.β o, off, none⟩) n rc, vy]).run P w = .ok (.int .i64 (min ys.length n : Nat)) (putCells w (c.β o) off (vss.take (min ys.length n)).flatten) := by
          have e1 : Nat.min ys.length n = min ys.length n := rfl
          simp [Builtin.copy_, run_underlying (sliceOf_eq ht), hl, run_size hsz, e1, hm, p1, goInt]
        rw [hrun]
        exact ⟨_, c, _, rfl, Rep.int _ _, p2, Cx.le.refl c, hsT, p3⟩
      · exact h.elim
    · exact h.elim
theorem clr_sound (k : Inv c w H) {t e : TypeId} {z : List D} (ht : sliceOf P t = some e) (hz : tz P e = some z) (ty : TypeId) {x : D} {vx : Value} (hx : Rep c x vx) {s : S} (hsH : s.H = H) (hsT : c.T = s.T) {K : D → S → Prop} (h : clrK z K s x) :
    ∃ d s', K d s' ∧ s'.t = s.t ∧ Yld c w s'.H s'.T d ((Builtin.clear_ #[t] ty #[vx]).run P w) := by
  subst hsH
  obtain ⟨zv, z1, z2⟩ := run_zero (P := P) hz c
  have ru := run_underlying (P := P) (w := w) (sliceOf_eq ht)
  have tupR : Rep c (.tup []) (.tuple #[]) := Rep.tup [] [] rfl (fun i h _ => absurd h (by simp))
  have zero : ∀ (a : Option Addr) (cap : Nat), vx = .slice a 0 cap → (Builtin.clear_ #[t] ty #[vx]).run P w = .ok (.tuple #[]) w := by
    intro a cap hv
    subst hv
    cases a <;> simp [Builtin.clear_, ru]
  unfold clrK at h
  split at h
  · cases hx
    exact ⟨_, s, h, rfl, by rw [zero none 0 rfl]; exact ⟨_, c, w, rfl, tupR, k, Cx.le.refl c, hsT, Below.refl _ _⟩⟩
  · cases hx with
    | e0 a => exact ⟨_, s, h, rfl, by rw [zero a 0 rfl]; exact ⟨_, c, w, rfl, tupR, k, Cx.le.refl c, hsT, Below.refl _ _⟩⟩
  · cases hx with
    | sl t xs a cap sz' vs hlen hb hszs h1 ha hs hM hr htl' ht' => exact ⟨_, s, h, rfl, by rw [zero a cap rfl]; exact ⟨_, c, w, rfl, tupR, k, Cx.le.refl c, hsT, Below.refl _ _⟩⟩
  · rename_i g sz o off n cap
    split at h
    · rename_i cs hcs
      obtain ⟨rfl, h2, h3⟩ := h
      cases hx with
      | ms _ _ _ _ _ _ rc hbd q1 q2 q3 =>
      refine ⟨_, _, h3, rfl, ?_⟩
      have hfl : (List.replicate n z).flatten.length = n * z.length := by simp
      have hfit := row_fits k hcs rfl
      obtain ⟨p1, p2, p3⟩ := put_inv (P := P) k hcs rfl (rep_flat z2 n) (off := off) (by omega) (by rw [hfl]; omega)
      rw [hfl] at p2
      have hrun : ∃ w', (Builtin.clear_ #[t] ty #[.slice (some ⟨c.β o, off, none⟩) n rc]).run P w = .ok (.tuple #[]) w' ∧ w' = putCells w (c.β o) off (List.replicate n zv.cells.toList).flatten := by
        cases n with
        | zero => exact ⟨w, by simp [Builtin.clear_, ru], by simp [putCells]⟩
        | succ n =>
          refine ⟨_, ?_, rfl⟩
          simp [Builtin.clear_, ru, z1, zeroCells_eq, p1]
      obtain ⟨w', e1, e2⟩ := hrun
      subst e2
      rw [e1]
      exact ⟨_, c, _, rfl, tupR, p2, Cx.le.refl c, hsT, p3⟩
    · exact h.elim
  · exact h.elim
theorem appz_run {st xt e : TypeId} {z : List D} {sz bytes : Nat} {ki : IntKind} (ht : sliceOf P st = some e) (hxt : P.underlying xt = some (.int ki)) (hsz : tsz P e = some sz) (hby : tbytes P e = some bytes) (hz : tz P e = some z) (hzl : z.length = sz) (ty : TypeId) {base : Option Addr} {sLen sCap m : Nat} (ka : IntKind)
    (hm : 0 < m) (hg : sCap < sLen + m) (hneed : sLen + m < 2 ^ 62) (hbig : (sLen + m) * bytes ≤ 2 ^ 47) {old : Array Value} (hold : (Builtin.firstCells sz sLen (.slice base sLen sCap)).run P w.drew = .ok old w.drew) (c : Cx) :
    ∃ (cap : Nat) (rest : List Value), sLen + m ≤ cap ∧ Cells c (List.replicate (cap - sLen) z).flatten rest ∧
      (Builtin.append_ #[st, xt] ty #[.slice base sLen sCap, .int ka (m : Int)]).run P w = .ok (.slice (some ⟨w.heap.size, 0, none⟩) (sLen + m) cap) (w.drew.alloc (.cells (old.toList ++ rest).toArray e)) := by
  obtain ⟨zv, z1, z2⟩ := run_zero (P := P) hz c
  obtain ⟨i, hi, hib⟩ := run_bytes hby
  have wa : IntKind.i64.wrap (m : Int) = (m : Int) := by simp [IntKind.wrap, IntKind.bits, IntKind.signed]; omega
  have hzs : zv.cells.size = sz := by have := z2.len; simp at this; omega
  have hmb : m * bytes ≤ (sLen + m) * bytes := Nat.mul_le_mul_right _ (by omega)
  have hcap : sLen + m ≤ grownCap w (sLen + m) sCap e := by simp [grownCap, Question.cut]
  refine ⟨grownCap w (sLen + m) sCap e, (Builtin.zeroCells zv.cells m).toList ++ (Builtin.zeroCells zv.cells (grownCap w (sLen + m) sCap e - (sLen + m))).toList, hcap, ?_, ?_⟩
  · rw [zeroCells_eq, zeroCells_eq, ← List.flatten_append, List.replicate_append_replicate]
    have : m + (grownCap w (sLen + m) sCap e - (sLen + m)) = grownCap w (sLen + m) sCap e - sLen := by omega
    rw [this]
    exact rep_flat z2 _
  · have hn : ¬ (sLen + m ≤ sCap) := by omega
    have ha : ¬ ((m : Int) < 0) := by omega
    have h63 : ¬ (9223372036854775807 < ((sLen : Int) + (m : Int))) := by omega
    have hbg : ¬ (281474976710656 : Int) < (m : Int) * i.bytes := by
      rw [hib]
      have : ((m * bytes : Nat) : Int) ≤ 2 ^ 47 := by omega
      rw [Int.natCast_mul] at this
      omega
    have h48 : ¬ (281474976710656 < Builtin.nextslicecap (sLen + m) sCap * i.bytes) := by
      have := growslice_fits (need := sLen + m) (old := sCap) (bytes := bytes) hg (by omega)
      rw [hib]; omega
    have hcells : (old.toList ++ ((Builtin.zeroCells zv.cells m).toList ++ (Builtin.zeroCells zv.cells (grownCap w (sLen + m) sCap e - (sLen + m))).toList)).toArray = old ++ Builtin.zeroCells zv.cells m ++ Builtin.zeroCells zv.cells (grownCap w (sLen + m) sCap e - (sLen + m)) := by simp
    rw [hcells]
    by_cases hs0 : m * sz = 0
    · have hz0 : Builtin.zeroCells zv.cells m = #[] := by
        apply Array.toList_inj.1
        apply List.eq_nil_of_length_eq_zero
        simp only [Array.length_toList, Builtin.zeroCells, Array.size_map, Array.size_range, hzs]; exact hs0
      rw [hz0]
      simp [Builtin.append_, run_underlying (sliceOf_eq ht), run_size hsz, run_underlying hxt, asInt, asIntOf, wa, hn, ha, h63, hbg, h48, hi, Question.forced, hold, z1, newRow, grownCap, hs0]
    · simp [Builtin.append_, run_underlying (sliceOf_eq ht), run_size hsz, run_underlying hxt, asInt, asIntOf, wa, hn, ha, h63, hbg, h48, hi, Question.forced, hold, z1, newRow, grownCap, hs0]
theorem appz_sound (k : Inv c w H) {st xt e : TypeId} {z : List D} {sz bytes : Nat} {ki : IntKind} (ht : sliceOf P st = some e) (hxt : P.underlying xt = some (.int ki)) (hsz : tsz P e = some sz) (hby : tbytes P e = some bytes) (hz : tz P e = some z) (ty : TypeId) {x y : D} {vx vy : Value} (hx : Rep c x vx) (hy : Rep c y vy) {s : S} (hsH : s.H = H) (hsT : c.T = s.T) {K : D → S → Prop} {ag : Bool}
    (h : appzK ag sz bytes z K s x y) :
    ∃ d s', K d s' ∧ s'.t = s.t ∧ Yld c w s'.H s'.T d ((Builtin.append_ #[st, xt] ty #[vx, vy]).run P w) := by
  subst hsH
  unfold appzK at h
  split at h
  · rename_i ka n
    obtain ⟨h1, h4, h⟩ := h
    cases hy
    obtain ⟨m, rfl⟩ : ∃ m : Nat, n = (m : Int) := ⟨n.toNat, by omega⟩
    rw [Int.toNat_natCast] at h
    have emp : ∀ base, vx = .slice base 0 0 → ((m : Int) * bytes ≤ 2 ^ 47 ∧ (m : Int) < 2 ^ 62 ∧ ∀ c', m ≤ c' → K (.ms ag sz s.H.length 0 m c') ⟨s.t, s.H ++ [.row (List.replicate c' z).flatten], s.T⟩) →
        ∃ d s', K d s' ∧ s'.t = s.t ∧ Yld c w s'.H s'.T d ((Builtin.append_ #[st, xt] ty #[vx, .int ka (m : Int)]).run P w) := by
      rintro base rfl ⟨h2, h3, h5⟩
      have hm2 : (0 + m) * bytes ≤ 2 ^ 47 := by
        have : ((m * bytes : Nat) : Int) ≤ 2 ^ 47 := by rw [Int.natCast_mul]; exact h2
        rw [Nat.zero_add]; omega
      have hold : (Builtin.firstCells sz 0 (.slice base 0 0)).run P w.drew = .ok #[] w.drew := by
        cases base <;> simp [Builtin.firstCells, loadCells, loadCellsFrom]
      obtain ⟨cap, rest, g1, g2, g3⟩ := appz_run (w := w) ht hxt hsz hby hz h4 ty ka (by omega) (by omega) (by omega) hm2 hold c
      rw [Nat.zero_add] at g1 g3
      rw [Nat.sub_zero] at g2
      refine ⟨_, _, h5 cap g1, rfl, ?_⟩
      rw [g3]
      have k1 := k.drew
      have := new_ms k1 [] e g2 (k1.free s.H.length (.inl (Nat.le_refl _))) (H' := s.H ++ [.row (List.replicate cap z).flatten]) (push_at _ _) (fun o' h => push_other _ _ o' h) hsT (ag := ag) (sz := sz) (n := m) (cap := cap) (rc := cap)
        g1 rfl (by rw [g2.len]; simp [h4])
      have e1 : (#[] : Array Value).toList ++ rest = rest ++ [] := by simp
      rw [e1]
      exact this.drew
    split at h
    · cases hx; exact emp none rfl h
    · cases hx with
      | e0 a => exact emp a rfl h
    · rename_i g z' o off n cap
      split at h
      · rename_i cs hcs
        obtain ⟨rfl, h5, h6, h7, h8, h9⟩ := h
        cases hx with
        | ms _ _ _ _ _ _ rc hbd q1 q2 q3 =>
        subst q2
        obtain ⟨vs, rest0, e', fr, g1, g2, g4, g3⟩ := (k.row o _ cs hcs rfl).hold
        have hvl := g2.len
        have hvt : ((vs.drop off).take (n * z')).length = n * z' := by rw [List.length_take, List.length_drop]; omega
        have hold : (Builtin.firstCells z' n (.slice (some ⟨c.β o, off, none⟩) n cap)).run P w.drew = .ok ((vs.drop off).take (n * z')).toArray w.drew :=
          run_firstCells_some w.drew z' n _ n cap ((vs.drop off).take (n * z')) hvt (fun j v hj => by
            rw [Addr.add_eq _ rfl]
            have hj' : j < n * z' := by
              rcases Nat.lt_or_ge j (n * z') with h' | h'
              · exact h'
              · rw [List.getElem?_eq_none (by omega)] at hj; cases hj
            have e1 : w.drew.heap[c.β o]? = some (.cells (vs ++ rest0).toArray e' fr) := g1
            simp only [World.cell?, e1, List.getElem?_toArray]
            rw [List.getElem?_take_of_lt hj', List.getElem?_drop] at hj
            rw [List.getElem?_append_left (by omega)]; exact hj)
        obtain ⟨c', rest, f1, f2, f3⟩ := appz_run (w := w) ht hxt hsz hby hz h4 ty ka (by omega) h5 h8 h7 hold c
        refine ⟨_, _, h9 c' f1, rfl, ?_⟩
        rw [f3]
        have k1 := k.drew
        have hk : Cells c ((cs.drop off).take (n * z') ++ (List.replicate (c' - n) z).flatten) ((vs.drop off).take (n * z') ++ rest) := ((g2.drop off).take (n * z')).append f2
        have := new_ms k1 [] e hk (k1.free s.H.length (.inl (Nat.le_refl _))) (H' := s.H ++ [.row ((cs.drop off).take (n * z') ++ (List.replicate (c' - n) z).flatten)]) (push_at _ _) (fun o' h => push_other _ _ o' h) hsT (ag := g) (sz := z') (n := n + m) (cap := c') (rc := c')
          f1 rfl (by
            rw [List.length_append, hvt, f2.len]
            simp only [List.length_flatten, List.map_replicate, List.sum_replicate_nat, h4, List.length_nil, Nat.add_zero]
            rw [← Nat.add_mul]
            exact Nat.mul_le_mul_right _ (by omega))
        have e1 : ((vs.drop off).take (n * z')).toArray.toList ++ rest = (vs.drop off).take (n * z') ++ rest ++ [] := by simp
        rw [e1]
        exact this.drew
      · exact h.elim
    · exact h.elim
  · exact h.elim
theorem mkm_sound (k : Inv c w H) {t e : TypeId} {z : List D} {sz bytes : Nat} (ht : sliceOf P t = some e) (hsz : tsz P e = some sz) (hby : tbytes P e = some bytes) (hz : tz P e = some z) {x y : D} {vx vy : Value} (hx : Rep c x vx) (hy : Rep c y vy) {s : S} (hsH : s.H = H) (hsT : c.T = s.T) {K : D → S → Prop} {ag : Bool}
    (h : mkmK ag sz bytes z K s x y) :
    ∃ d s', K d s' ∧ s'.t = s.t ∧ Yld c w s'.H s'.T d ((Instr.makeSlice t vx vy).run P w) := by
  subst hsH
  obtain ⟨zv, z1, z2⟩ := run_zero (P := P) hz c
  obtain ⟨i, hi, hib⟩ := run_bytes hby
  unfold mkmK at h
  split at h
  · rename_i ka a kb b
    obtain ⟨h1, h2, h3, h4, h5, h6⟩ := h
    cases hx; cases hy
    refine ⟨_, _, h6, rfl, ?_⟩
    have wa : IntKind.i64.wrap a = a := by simp [IntKind.wrap, IntKind.bits, IntKind.signed]; omega
    have wb : IntKind.i64.wrap b = b := by simp [IntKind.wrap, IntKind.bits, IntKind.signed]; omega
    have hzs : zv.cells.size = sz := by have := z2.len; simp at this; omega
    have hrun : (Instr.makeSlice t (.int ka a) (.int kb b)).run P w = .ok (.slice (some ⟨w.heap.size, 0, none⟩) a.toNat b.toNat) (w.alloc (.cells (List.replicate b.toNat zv.cells.toList).flatten.toArray e)) := by
      have hb0 : ¬ b < 0 := by omega
      have ha0 : ¬ a < 0 := by omega
      have hab : ¬ b < a := by omega
      have hbig : ¬ (281474976710656 : Int) < i.bytes * b := by rw [hib, Int.mul_comm]; omega
      have hze : ((Array.range (b.toNat * sz)).map (fun j => (if b.toNat * sz = 0 then #[] else zv.cells)[j % (if b.toNat * sz = 0 then #[] else zv.cells).size]!)) = (List.replicate b.toNat zv.cells.toList).flatten.toArray := by
        apply Array.toList_inj.1
        by_cases h0 : b.toNat * sz = 0
        · have : (List.replicate b.toNat zv.cells.toList).flatten.length = 0 := by simp [hzs, h0]
          have : (List.replicate b.toNat zv.cells.toList).flatten = [] := List.length_eq_zero_iff.1 this
          rw [this, h0]; simp
        · simp only [h0, if_false]
          have := zeroCells_eq zv.cells b.toNat
          unfold Builtin.zeroCells at this
          rw [hzs] at this
          simp only [hzs]
          exact this
      have has : ∀ (n : Nat) (w : World), (askRoom n).run P w = .ok () w := fun n w => by unfold askRoom; split <;> rfl
      by_cases h0 : b.toNat * sz = 0
      · simp only [h0, if_true] at hze
        simp [Instr.makeSlice, run_underlying (sliceOf_eq ht), hi, asInt, asIntOf, wa, wb, hb0, ha0, hab, hbig, has, run_size hsz, h0, newRow]
        rw [← hze]; simp
      · simp only [h0, if_false] at hze
        simp [Instr.makeSlice, run_underlying (sliceOf_eq ht), hi, asInt, asIntOf, wa, wb, hb0, ha0, hab, hbig, has, run_size hsz, h0, z1, newRow]
        rw [← hze]
    rw [hrun]
    have hr := rep_flat z2 b.toNat
    have := new_ms k [] e hr (k.free s.H.length (.inl (Nat.le_refl _))) (H' := s.H ++ [.row (List.replicate b.toNat z).flatten]) (push_at _ _) (fun o' h => push_other _ _ o' h) hsT (ag := ag) (sz := sz) (n := a.toNat) (cap := b.toNat) (rc := b.toNat)
      (by omega) rfl (by rw [hr.len]; simp [h5])
    rw [List.append_nil] at this
    exact this
  · exact h.elim
end GP
namespace GP
open Go
variable {P : Program} {c : Cx} {w : World} {H : Hp}
def fzM (c : Cx) (o : Nat) (vs : List Value) : Addr → Option Value := fun a => if a.block = c.β o ∧ a.spot = none then vs[a.off]? else c.M a
def Cx.fz (c : Cx) (o : Nat) (vs : List Value) : Cx := { c with M := fzM c o vs }
theorem fzM_other {c : Cx} {o : Nat} {vs : List Value} {a : Addr} (h : a.block ≠ c.β o) : fzM c o vs a = c.M a := by
  unfold fzM; rw [if_neg (fun k => h k.1)]
theorem fzM_at (c : Cx) (o : Nat) (vs : List Value) (i : Nat) : fzM c o vs ⟨c.β o, i, none⟩ = vs[i]? := by
  unfold fzM; rw [if_pos ⟨rfl, rfl⟩]
theorem fz_le {o : Nat} {vs : List Value} (h : ∀ i, c.M ⟨c.β o, i, none⟩ = none) : c.le (c.fz o vs) := by
  refine ⟨fun a v ha => ?_, fun _ h => h, fun _ _ => rfl, Nat.le_refl _, fun _ h => h, fun _ n _ h => .inr ⟨n, h, Nat.le_refl _, fun _ => rfl⟩, rfl, fun _ _ => rfl⟩
  show fzM c o vs a = some v
  unfold fzM
  split
  · rename_i hc
    obtain ⟨b, i, s⟩ := a
    obtain ⟨h1, h2⟩ := hc
    simp only at h1 h2; subst h1; subst h2
    rw [h i] at ha; cases ha
  · exact ha
theorem set_get_ne {H : Hp} {o o' : Nat} {x y : Ob} (h : (H.set o x)[o']? = some y) (hx : y ≠ x) : o' ≠ o ∧ H[o']? = some y := by
  by_cases e : o = o'
  · subst e
    rw [List.getElem?_set] at h
    split at h
    · split at h
      · injection h with h; exact absurd h.symm hx
      · cases h
    · rename_i hne; exact absurd rfl hne
  · rw [List.getElem?_set_ne e] at h
    exact ⟨fun k => e k.symm, h⟩
theorem Inv.row_at (k : Inv c w H) {o : Nat} {cs : List D} (h : H[o]? = some (.row cs)) : ∃ vs, Cells c cs vs ∧ ∀ (i : Nat) u, vs[i]? = some u → w.cell? ⟨c.β o, i, none⟩ = some u := by
  obtain ⟨a, vs, h1, h2, h3, h4⟩ := read_at k (Rep.ptr o 0 (k.own o _ h rfl).1) (cs := cs) (by simp [rdAt, h])
  injection h1 with h1; injection h1 with h1; subst h1
  refine ⟨vs, h3, fun i u hu => ?_⟩
  have := h4 i u hu
  rw [Addr.add_eq _ rfl] at this
  simpa using this
theorem Inv.fz (k : Inv c w H) {o : Nat} {cs : List D} (h : H[o]? = some (.row cs)) {vs : List Value} (hv : ∀ (i : Nat) u, vs[i]? = some u → w.cell? ⟨c.β o, i, none⟩ = some u) : Inv (c.fz o vs) w (H.set o .dead) := by
  obtain ⟨hb, hB, hw, hM⟩ := k.own o _ h rfl
  have hle := fz_le (vs := vs) hM
  have get : ∀ {o' : Nat} {x : Ob}, (H.set o .dead)[o']? = some x → x.live = true → o' ≠ o ∧ H[o']? = some x := fun hg hx => set_get_ne hg (fun e => by subst e; simp [Ob.live] at hx)
  have hne : ∀ {o' : Nat} {x : Ob}, H[o']? = some x → x.live = true → o' ≠ o → c.β o' ≠ c.β o := fun hg hx hn e => hn (k.apart _ _ _ _ hg h hx rfl e)
  refine ⟨fun a v ha => ?_, k.low, fun o' x cs' hg hx => ?_, fun o' hf => ?_, fun o' x hg hx => ?_, fun o' o'' x x' hg hg' hx hx' => ?_, fun o' es clk hg => ?_, fun o' m sn se la hg => ?_, fun τ n z ht => ?_, fun τ n z o' x ht hg hx => ?_, k.toks⟩
  · change fzM c o vs a = some v at ha
    unfold fzM at ha
    split at ha
    · rename_i hc
      obtain ⟨b, i, s⟩ := a
      obtain ⟨h1, h2⟩ := hc
      simp only at h1 h2 ha; subst h1; subst h2
      exact hv i v ha
    · exact k.keep a v ha
  · have hlv : x.live = true := by cases x <;> simp [Ob.cells?] at hx <;> rfl
    obtain ⟨h1, h2⟩ := get hg hlv
    obtain ⟨us, rest, e, fr, g1, g2, g3, g4⟩ := (k.row o' x cs' h2 hx).hold
    exact ⟨us, rest, e, fr, g1, g2.mono hle, g3, g4⟩
  · rcases hf with hf | hf
    · exact k.free o' (.inl (by simpa using hf))
    · obtain ⟨_, h2⟩ := set_get_ne hf (by simp)
      exact k.free o' (.inr h2)
  · obtain ⟨h1, h2⟩ := get hg hx
    obtain ⟨g1, g2, g3, g4⟩ := k.own o' x h2 hx
    refine ⟨g1, g2, g3, fun i => ?_⟩
    show fzM c o vs _ = none
    rw [fzM_other (hne h2 hx h1)]; exact g4 i
  · obtain ⟨_, h2⟩ := get hg hx
    obtain ⟨_, h3⟩ := get hg' hx'
    exact k.apart _ _ _ _ h2 h3 hx hx'
  · exact k.map o' es clk (set_get_ne hg (by simp)).2
  · exact (k.iter o' m sn se la (set_get_ne hg (by simp)).2).mono hle rfl rfl
  · obtain ⟨g1, g2, g3, g4, g5⟩ := k.tok τ n z ht
    refine ⟨g1, g2, g3, g4, fun j h1 h2 => ?_⟩
    obtain ⟨q1, q2, q3⟩ := g5 j h1 h2
    refine ⟨q1, q2, ?_⟩
    show fzM c o vs ⟨(c.κ τ).1.block, (c.κ τ).1.off + j, none⟩ = none
    rw [fzM_other (a := ⟨(c.κ τ).1.block, (c.κ τ).1.off + j, none⟩) (fun e => k.tokrow τ n z o _ ht h rfl e.symm)]; exact q3
  · obtain ⟨_, h2⟩ := get hg hx
    exact k.tokrow τ n z o' x ht h2 hx
theorem rep_fz {ag : Bool} {z o off n cap : Nat} {v : Value} (hr : Rep c (.ms ag z o off n cap) v) {cs : List D} {vs : List Value} (hc : Cells c cs vs) (hM : ∀ i, c.M ⟨c.β o, i, none⟩ = none) (h1 : off + n * z ≤ cs.length) (h2 : ag = true ∨ z = 1) (h3 : n < 2 ^ 62) :
    Rep (c.fz o vs) (.sl none (chunk ag z n (cs.drop off))) v := by
  cases hr with
  | ms _ _ _ _ _ _ rc hb g1 g2 g3 =>
    have hle := fz_le (vs := vs) hM
    have hcd : Cells (c.fz o vs) (cs.drop off) (vs.drop off) := by
      have := hc.mono hle
      exact ⟨by simp [this.len], fun d hd => this.one d (List.mem_of_mem_drop hd), fun i h h' => by simpa using this.rep (off + i) (by simp at h; omega) (by simp at h'; omega)⟩
    have ke := chunk_elems h2 n _ _ hcd (by simp; omega)
    have hl := chunk_len ag z n (cs.drop off)
    have hvl : vs.length = cs.length := hc.len
    have := rep_sl_of ke (a := ⟨c.β o, off, none⟩) (cap := rc) rfl (by omega) (by omega) (fun j hj => ?_) none (fun τ h => by cases h) (fun τ h => by cases h)
    · rw [hl] at this; exact this
    · rw [hl] at hj
      show fzM c o vs ⟨c.β o, off + j, none⟩ = _
      rw [fzM_at, chunkV_flat, List.getElem?_take_of_lt (by omega), List.getElem?_drop]
mutual
def D.fz (o : Nat) (cs : List D) : D → D
  | .ms ag z o' off n cap => if o' = o ∧ off + n * z ≤ cs.length ∧ (ag = true ∨ z = 1) ∧ n < 2 ^ 62 then .sl none (chunk ag z n (cs.drop off)) else .ms ag z o' off n cap
  | .sl t xs => .sl t (D.fzL o cs xs)
  | .el ds => .el (D.fzL o cs ds)
  | .agg ds => .agg (D.fzL o cs ds)
  | .tup ds => .tup (D.fzL o cs ds)
  | .fn f a b => .fn f (D.fzL o cs a) (D.fzL o cs b)
  | .ifc t d => .ifc t (D.fz o cs d)
  | d => d
def D.fzL (o : Nat) (cs : List D) : List D → List D
  | [] => []
  | d :: ds => D.fz o cs d :: D.fzL o cs ds
end
section
variable {o : Nat} {cs : List D}
theorem fzL_len : ∀ (l : List D), (D.fzL o cs l).length = l.length
  | [] => by simp [D.fzL]
  | d :: l => by simp [D.fzL, fzL_len l]
theorem fzL_get : ∀ (l : List D) (i : Nat) (h : i < l.length) (h' : i < (D.fzL o cs l).length), (D.fzL o cs l)[i] = (l[i]).fz o cs
  | d :: l, 0, h, h' => by simp [D.fzL]
  | d :: l, i + 1, h, h' => by
    simp only [D.fzL, List.getElem_cons_succ]
    exact fzL_get l i _ _
theorem fzL_map (l : List D) : D.fzL o cs l = l.map (D.fz o cs) := by
  induction l with
  | nil => simp [D.fzL]
  | cons d l ih => simp [D.fzL, ih]
theorem fz_one (d : D) : (d.fz o cs).one = d.one := by
  cases d with
  | ms ag z o' off n cap =>
    simp only [D.fz]
    by_cases h : o' = o ∧ off + n * z ≤ cs.length ∧ (ag = true ∨ z = 1) ∧ n < 2 ^ 62
    · rw [if_pos h]; rfl
    · rw [if_neg h]
  | _ => simp only [D.fz, D.one]
theorem fz_cells (d : D) : (d.fz o cs).cells = D.fzL o cs d.cells := by
  cases d with
  | ms ag z o' off n cap =>
    simp only [D.fz]
    by_cases h : o' = o ∧ off + n * z ≤ cs.length ∧ (ag = true ∨ z = 1) ∧ n < 2 ^ 62
    · rw [if_pos h]; simp only [D.cells, D.fzL, D.fz]; rw [if_pos h]
    · rw [if_neg h]; simp only [D.cells, D.fzL, D.fz]; rw [if_neg h]
  | _ => simp only [D.fz, D.cells, D.fzL]
theorem Rep.fz {vs : List Value} (hc : Cells c cs vs) (hM : ∀ i, c.M ⟨c.β o, i, none⟩ = none) {d : D} {v : Value} (h : Rep c d v) : Rep (c.fz o vs) (d.fz o cs) v := by
  have hle := fz_le (vs := vs) hM
  induction h with
  | bool b => simpa [D.fz] using Rep.bool b
  | int k n => simpa [D.fz] using Rep.int k n
  | str l h => simpa [D.fz] using Rep.str l h
  | nilp => simpa [D.fz] using Rep.nilp
  | ptr o off h => simpa [D.fz] using (Rep.ptr o off h).mono hle
  | el ds a us ha h1 hM' _ ih =>
    simp only [D.fz]
    refine Rep.el _ a us ha ?_ (fun i hi => hle.M _ _ (hM' i (by simpa [fzL_len] using hi))) (fun i hi => ?_)
    · intro d hd
      rw [fzL_map] at hd
      obtain ⟨x, hx, rfl⟩ := List.mem_map.1 hd
      rw [fz_one]; exact h1 x hx
    · have hi' : i < ds.length := by simpa [fzL_len] using hi
      rw [fzL_get ds i hi']
      exact ih i hi'
  | nils => simpa [D.fz] using Rep.nils
  | ms ag z o' off len cap rc h h1 h2 h3 =>
    have hm := Rep.ms (c := c) ag z o' off len cap rc h h1 h2 h3
    simp only [D.fz]
    split
    · rename_i hq
      obtain ⟨rfl, q1, q2, q3⟩ := hq
      exact rep_fz hm hc hM q1 q2 q3
    · exact hm.mono hle
  | e0 a => simpa [D.fz] using Rep.e0 a
  | sl t xs a cap sz us hlen hb hsz h1 ha hs hM' _ htl ht ih =>
    simp only [D.fz]
    have hl := fzL_len (o := o) (cs := cs) xs
    rw [← hl]
    refine Rep.sl t (D.fzL o cs xs) a cap sz us (by omega) (by omega) ?_ ?_ ?_ ?_ ?_ ?_ htl (fun τ h n z h' => by rw [hl]; exact ht τ h n z h')
    · intro x hx
      rw [fzL_map] at hx
      obtain ⟨y, hy, rfl⟩ := List.mem_map.1 hx
      rw [fz_cells, fzL_len]; exact hsz y hy
    · intro x hx y hy
      rw [fzL_map] at hx
      obtain ⟨z, hz, rfl⟩ := List.mem_map.1 hx
      rw [fz_cells, fzL_map] at hy
      obtain ⟨u, hu, rfl⟩ := List.mem_map.1 hy
      rw [fz_one]; exact h1 z hz u hu
    · intro hne
      exact ha (by intro e; subst e; exact hne (by simp [D.fzL]))
    · intro hne
      exact hs (by intro e; subst e; exact hne (by simp [D.fzL]))
    · intro i hi j hj b hb
      exact hle.M _ _ (hM' i (by omega) j hj b hb)
    · intro i hi j hj
      have hi' : i < xs.length := by omega
      have e1 : (D.fzL o cs xs)[i].cells = D.fzL o cs (xs[i].cells) := by rw [fzL_get xs i hi', fz_cells]
      have hj' : j < (xs[i].cells).length := by rw [e1, fzL_len] at hj; exact hj
      have e2 : ((D.fzL o cs xs)[i].cells)[j] = ((xs[i].cells)[j]).fz o cs := by
        have := fzL_get (o := o) (cs := cs) (xs[i].cells) j hj' (by rw [fzL_len]; exact hj')
        rw [← this]; congr 1
      rw [e2]
      exact ih i hi' j hj'
  | fn f p q vp vq hp hq _ _ ih1 ih2 =>
    simp only [D.fz]
    refine Rep.fn f _ _ vp vq (by rw [fzL_len]; exact hp) (by rw [fzL_len]; exact hq) (fun i h h' => ?_) (fun i h h' => ?_)
    · have hi : i < p.length := by rw [fzL_len] at h; exact h
      rw [fzL_get p i hi]; exact ih1 i hi h'
    · have hi : i < q.length := by rw [fzL_len] at h; exact h
      rw [fzL_get q i hi]; exact ih2 i hi h'
  | nilf => simpa [D.fz] using Rep.nilf
  | mp o h => simpa [D.fz] using (Rep.mp o h).mono hle
  | nilm => simpa [D.fz] using Rep.nilm
  | nili => simpa [D.fz] using Rep.nili
  | ifc t d v _ ih => simp only [D.fz]; exact Rep.ifc t _ v ih
  | agg ds us hl h1 _ ih =>
    simp only [D.fz]
    refine Rep.agg _ us (by rw [fzL_len]; exact hl) ?_ (fun i h h' => ?_)
    · intro d hd
      rw [fzL_map] at hd
      obtain ⟨x, hx, rfl⟩ := List.mem_map.1 hd
      rw [fz_one]; exact h1 x hx
    · have hi : i < ds.length := by rw [fzL_len] at h; exact h
      rw [fzL_get ds i hi]; exact ih i hi h'
  | tup ds us hl _ ih =>
    simp only [D.fz]
    refine Rep.tup _ us (by rw [fzL_len]; exact hl) (fun i h h' => ?_)
    have hi : i < ds.length := by rw [fzL_len] at h; exact h
    rw [fzL_get ds i hi]; exact ih i hi h'
  | top v => simpa [D.fz] using Rep.top v
end
theorem b2m_sound {src dst e : TypeId} (hs : P.underlying src = some (.slice e)) (he : P.underlying e = some (.int .u8)) (hd : P.underlying dst = some .string) (hi : Inv c w H) {x r : D} {v : Value} (hx : Rep c x v)
    (h : b2mD H x = some r) : ∃ u, (Go.convert src dst v).run P w = .ok u w ∧ Rep c r u := by
  unfold b2mD at h
  split at h
  · rename_i ag z o off n cap
    split at h
    · rename_i cs ho
      split at h
      · rename_i hc
        obtain ⟨h1, h2, h3, h4⟩ := hc
        injection h with h; subst h
        obtain ⟨vs, hv, hcell⟩ := hi.row_at ho
        have hM := (hi.own o _ ho rfl).2.2.2
        obtain ⟨u, e1, e2⟩ := b2s_sound (P := P) hs he hd (hi.fz ho hcell) (rep_fz hx hv hM (by rw [h1]; omega) (.inr h1) h4) (r := .str ((chunk ag z n (cs.drop off)).map unbyte)) (by simp only [b2sD]; rw [if_pos h3])
        refine ⟨u, e1, ?_⟩
        cases e2 with
        | str _ hl => exact Rep.str _ hl
      · cases h
    · cases h
  · exact b2s_sound hs he hd hi hx h
end GP
namespace GP
open Go
variable {P : Program} {c : Cx} {w : World} {H : Hp}
theorem fresh_slr (k : Inv c w H) {sz : Nat} {xs : List D} {vss : List (List Value)} (hk : Elems c sz xs vss) (e : TypeId) (fr : Nat × Nat) (hb : xs.length < 2 ^ 62) (rest : List Value) {cap : Nat} (hcap : xs.length ≤ cap) {T : Tk} (hT : c.T = T) :
    Yld c w H T (.sl none xs) (.ok (.slice (some ⟨w.heap.size, 0, none⟩) xs.length cap) (w.alloc (.cells (vss.flatten ++ rest).toArray e fr))) := by
  have hle := fresh_le k (vss.flatten ++ rest) vss.flatten.length
  refine ⟨_, { c with M := freshM c.M w.heap.size (vss.flatten ++ rest) vss.flatten.length }, _, rfl, ?_, k.fresh _ e fr _, hle, hT, Below.of_alloc w _ k.low⟩
  refine rep_sl_of (hk.mono hle) rfl hcap hb (fun j hj => ?_) none (fun τ h => by cases h) (fun τ h => by cases h)
  have : j < vss.flatten.length := by rw [flat_len vss hk.sz', hk.len]; exact hj
  show freshM _ _ _ _ _ = _
  simp only [Nat.zero_add]
  rw [freshM_at this, List.getElem?_append_left this]
theorem freeze_new (w : World) (arr : Array Value) (e : TypeId) : (w.alloc (.cells arr e)).freeze ⟨w.heap.size, arr.size, none⟩ 1 = w.alloc (.cells arr e (arr.size, arr.size + 1)) := by
  unfold World.freeze
  rw [if_neg (by decide)]
  show ({ w.alloc (.cells arr e) with heap := _ } : World) = { w with heap := _ }
  have : ∀ f : Obj → Obj, (w.heap.push (.cells arr e)).modify w.heap.size f = w.heap.push (f (.cells arr e)) := by
    intro f
    apply Array.ext_getElem?
    intro i
    rw [Array.getElem?_modify]
    by_cases h : w.heap.size = i
    · subst h; simp
    · rw [if_neg h]
      simp only [Array.getElem?_push]
      rw [if_neg (Ne.symm h), if_neg (Ne.symm h)]
  show World.mk ((w.heap.push (.cells arr e)).modify w.heap.size _) _ _ _ _ = World.mk _ _ _ _ _
  rw [this]
  rfl
theorem run_s2b {src dst e : TypeId} (hs : P.underlying src = some .string) (hd : P.underlying dst = some (.slice e)) (he : P.underlying e = some (.int .u8)) (l : List UInt8) :
    ∃ cap, l.length ≤ cap ∧ (Go.convert src dst (.string ⟨l.toArray⟩)).run P w =
      .ok (.slice (some ⟨w.heap.size, 0, none⟩) l.length cap) (w.drew.alloc (.cells ((l.map fun b : UInt8 => Value.int .u8 b.toNat) ++ List.replicate (cap - l.length) (Value.int .u8 0)).toArray e
        (((l.map fun b : UInt8 => Value.int .u8 b.toNat) ++ List.replicate (cap - l.length) (Value.int .u8 0)).toArray.size, ((l.map fun b : UInt8 => Value.int .u8 b.toNat) ++ List.replicate (cap - l.length) (Value.int .u8 0)).toArray.size + 1))) := by
  refine ⟨grownCap w l.length 0 e, by simp [grownCap, Question.cut], ?_⟩
  have e1 : (Array.map (fun b : UInt8 => Value.int .u8 b.toNat) l.toArray ++ Array.replicate (grownCap w l.length 0 e - l.length) (Value.int .u8 0)) =
      ((l.map fun b : UInt8 => Value.int .u8 b.toNat) ++ List.replicate (grownCap w l.length 0 e - l.length) (Value.int .u8 0)).toArray := by
    apply Array.toList_inj.1; simp
  have hc : (choose (.appendCap l.length 0 e)).run P w = .ok (grownCap w l.length 0 e) w.drew := by simp [Question.forced, grownCap]
  simp only [Go.convert, Sem.run_bind, run_underlying hs, run_underlying hd, run_underlying he, Result.andThen_ok, Conv.stringToBytes, size_mk, hc, newRow, run_newObj, Sem.run_pure, World.alloc_eq, e1, markStringish, run_shape]
  have hsh : (w.drew.alloc (.cells ((l.map fun b : UInt8 => Value.int .u8 b.toNat) ++ List.replicate (grownCap w l.length 0 e - l.length) (Value.int .u8 0)).toArray e)).shape? w.drew.heap.size =
      some (e, ((l.map fun b : UInt8 => Value.int .u8 b.toNat) ++ List.replicate (grownCap w l.length 0 e - l.length) (Value.int .u8 0)).toArray.size) := by
    unfold World.shape?
    rw [alloc_new]
  rw [hsh]
  simp only [run_freeze, Result.andThen_ok]
  rw [freeze_new]
  rfl
theorem byte_elems (l : List UInt8) : Elems c 1 (byteD l) (l.map fun b => [Value.int .u8 b.toNat]) := by
  refine ⟨by simp [byteD], fun i h h' => ⟨by simp [byteD, D.cells], by simp [byteD, D.cells, D.one], fun j hj hj' => ?_⟩, fun x hx => ?_⟩
  · simp [byteD, D.cells] at hj ⊢
    subst hj
    exact Rep.int _ _
  · simp only [byteD, List.mem_map] at hx
    obtain ⟨b, _, rfl⟩ := hx
    rfl
theorem byte_flat (l : List UInt8) : (l.map fun b => [Value.int .u8 b.toNat]).flatten = l.map fun b => Value.int .u8 b.toNat := by
  induction l with
  | nil => rfl
  | cons b l ih => simpa using ih
theorem s2bq_sound (k : Inv c w H) {src dst e : TypeId} (hs : P.underlying src = some .string) (hd : P.underlying dst = some (.slice e)) (he : P.underlying e = some (.int .u8)) {l : List UInt8} {v : Value} (hx : Rep c (.str l) v) {T : Tk} (hT : c.T = T) :
    Yld c w H T (.sl none (byteD l)) ((Go.convert src dst v).run P w) := by
  cases hx with
  | str _ hl =>
    obtain ⟨cap, h1, h2⟩ := run_s2b (P := P) (w := w) hs hd he l
    rw [h2]
    have := fresh_slr k.drew (byte_elems l) e (((l.map fun b : UInt8 => Value.int .u8 b.toNat) ++ List.replicate (cap - l.length) (Value.int .u8 0)).toArray.size, ((l.map fun b : UInt8 => Value.int .u8 b.toNat) ++ List.replicate (cap - l.length) (Value.int .u8 0)).toArray.size + 1)
      (by simpa [byteD] using hl) (List.replicate (cap - l.length) (.int .u8 0)) (cap := cap) (by simpa [byteD] using h1) hT
    rw [byte_flat] at this
    simpa [byteD] using this.drew
theorem s2b_sound (k : Inv c w H) {src dst e : TypeId} (hs : P.underlying src = some .string) (hd : P.underlying dst = some (.slice e)) (he : P.underlying e = some (.int .u8)) {l : List UInt8} {v : Value} (hx : Rep c (.str l) v) {T : Tk} (hT : c.T = T) :
    Yld c w H (T ++ [some (l.length, 1)]) (.sl (some T.length) (byteD l)) ((Go.convert src dst v).run P w) := by
  cases hx with
  | str _ hl =>
    obtain ⟨cap, h1, h2⟩ := run_s2b (P := P) (w := w) hs hd he l
    rw [h2]
    have := fresh_tok k.drew (byte_elems l) e (by simpa [byteD] using hl) (List.replicate (cap - l.length) (.int .u8 0))
      (((l.map fun b : UInt8 => Value.int .u8 b.toNat) ++ List.replicate (cap - l.length) (Value.int .u8 0)).toArray.size, ((l.map fun b : UInt8 => Value.int .u8 b.toNat) ++ List.replicate (cap - l.length) (Value.int .u8 0)).toArray.size + 1)
      (fun i hi => by rw [byte_flat] at hi; simp at hi ⊢; omega) (cap := cap) (by simpa [byteD] using h1) (by rw [byte_flat]; simp; omega) (τ := T.length) (T' := T ++ [some (l.length, 1)]) (by simp [byteD]) (fun h => by rw [hT] at h; omega)
      (fun j hj => by
        rw [hT]
        rcases Nat.lt_or_ge j T.length with h' | h'
        · rw [List.getElem?_append_left h']
        · rw [List.getElem?_eq_none (by simp; omega), List.getElem?_eq_none h']) (by rw [hT]; simp)
    rw [byte_flat] at this
    simpa [byteD] using this.drew
def optRd : Option Operand → Option (Option Rd)
  | none => some none
  | some x => match cRd x with
    | some r => some (some r)
    | none => none
theorem optRd_ok {oo : Option Operand} {o : Option Rd} (h : optRd oo = some o) : o = none ∧ oo = none ∨ ∃ r x, o = some r ∧ oo = some x ∧ cRd x = some r := by
  cases oo with
  | none => simp [optRd] at h; exact .inl ⟨h.symm, rfl⟩
  | some x =>
    simp only [optRd] at h
    split at h
    · rename_i r hr; injection h with h; exact .inr ⟨r, x, h.symm, rfl, hr⟩
    · cases h
def cParts (place : Nat → Option (Nat × Nat)) : List (Nat × Operand) → Option (List (Nat × Nat × Rd))
  | [] => some []
  | (i, x) :: ps => match place i, cRd x, cParts place ps with
    | some (off, sz), some r, some rs => some ((off, sz, r) :: rs)
    | _, _, _ => none
def fieldPlaces (P : Program) (fs : Array Field) : Nat → Option (Nat × Nat) := fun i => match fs[i]? with
  | some f => match tsz P f.type with
    | some n => some (f.offset, n)
    | none => none
  | none => none
def isInt8 (P : Program) (t : TypeId) : Bool := match P.underlying t with | some (.int .u8) => true | _ => false
def isStr (P : Program) (t : TypeId) : Bool := match P.underlying t with | some .string => true | _ => false
def intOf (P : Program) (t : TypeId) : Option IntKind := match P.underlying t with | some (.int k) => some k | _ => none
theorem isInt8_ok {t : TypeId} (h : isInt8 P t = true) : P.underlying t = some (.int .u8) := by unfold isInt8 at h; split at h <;> simp_all
theorem isStr_ok {t : TypeId} (h : isStr P t = true) : P.underlying t = some .string := by unfold isStr at h; split at h <;> simp_all
theorem intOf_ok {t : TypeId} {k : IntKind} (h : intOf P t = some k) : P.underlying t = some (.int k) := by unfold intOf at h; split at h <;> simp_all
def cConv (P : Program) (mu dr : Bool) (src dst : TypeId) (r : Rd) : Option O :=
  match intOf P dst with
  | some k => if (P.underlying src).isSome then some (.conv k r) else none
  | none =>
    if isStr P dst then
      if isStr P src then some (.mvs r) else
      match sliceOf P src with
      | some e => if isInt8 P e then some (if mu then .b2m r else .b2s r) else none
      | none => none
    else if isStr P src then
      match sliceOf P dst with
      | some e => if isInt8 P e then some (if dr then .s2bq r else .s2b r) else none
      | none => none
    else none
def idxs? (l : List (Nat × Operand)) (n : Nat) : Bool := l.map (·.1) == List.range n
def mapOf (P : Program) (t : TypeId) : Option (TypeId × TypeId) := match P.underlying t with
  | some (.map k e) => some (k, e)
  | _ => none
theorem mapOf_ok {t k e : TypeId} (h : mapOf P t = some (k, e)) : P.underlying t = some (.map k e) := by unfold mapOf at h; split at h <;> simp_all
def keyKs (P : Program) (kt : TypeId) : Option (Bool × List Ck) := match ckOf P kt with
  | some k => some (false, [k])
  | none => match cks P kt with
    | some ks => some (true, ks)
    | none => none
def zero1 (P : Program) (t : TypeId) : Option D := match P.info? t with
  | some i => match i.zero with
    | some v => match cval1 v with
      | some z => if pu1 z then some z else none
      | none => none
    | none => none
  | none => none
theorem run_zero1 {t : TypeId} {z : D} (h : zero1 P t = some z) (c : Cx) (w : World) : pu z = true ∧ ∃ v : Value, (zeroValue t).run P w = .ok v w ∧ Rep c z v := by
  unfold zero1 at h
  split at h
  · rename_i i hi
    split at h
    · rename_i v hz
      split at h
      · rename_i z' hv
        split at h
        · rename_i hp
          injection h with h; subst h
          obtain ⟨r1, r2⟩ := cval1_rep hv c
          refine ⟨?_, v, by simp [zeroValue, run_info hi, hz], r1⟩
          cases z' <;> simp [pu1] at hp <;> simp [pu, pu1, hp]
        · cases h
      · cases h
    · cases h
  · cases h
structure Hn where
  imp : FuncId → Bool
  mu : Bool
  own : FuncId → Bool
  lit : Bool
structure Pl where
  pos : Nat
  fill : Option Nat
  re : Bool
def isInt (P : Program) (t : TypeId) : Bool := match P.underlying t with
  | some (.int _) => true
  | _ => false
theorem isInt_ok {t : TypeId} (h : isInt P t = true) : ∃ k, P.underlying t = some (.int k) := by
  unfold isInt at h
  split at h
  · exact ⟨_, by assumption⟩
  · cases h
def cBuiltin (P : Program) (mu : Bool) (b : Builtin) (ats : List TypeId) (rs : List Rd) : Option O :=
  match b, ats, rs with
  | .len, [t], [x] => if isStr P t then some (.lens x) else if (sliceOf P t).isSome then some (.len x) else if (mapOf P t).isSome then some (.mlen x) else none
  | .cap, [t], [x] => if (sliceOf P t).isSome then some (.capz x) else none
  | .min, _, [x, y] => some (.mn x y)
  | .max, _, [x, y] => some (.mx x y)
  | .append, [st, xt], [x, y] =>
    match sliceOf P st with
    | some e => match tsz P e, tbytes P e, tz P e with
      | some sz, some by_, some z => if isInt P xt && (z.length == sz) then some (.appz (tag P e == some true) sz by_ z x y) else if appT P xt && (z.length == sz) && (!isStr P xt || sz == 1) then some (if mu then .appm (tag P e == some true) (isStr P xt) sz by_ x y else .app (isStr P xt) sz by_ x y) else none
      | _, _, _ => none
    | none => none
  | .copy, [dt, _], [x, y] => match sliceOf P dt with
    | some e => match tsz P e with
      | some sz => some (.copy sz x y)
      | none => none
    | none => none
  | .clear, [t], [x] => match sliceOf P t with
    | some e => match tz P e with
      | some z => some (.clr z x)
      | none => none
    | none => none
  | _, _, _ => none
def isNl : Rd → Bool
  | .k .nils => true
  | _ => false
def cOp (P : Program) (imp : Hn) (dr : Bool) (j : Pl) : Op → Option O
  | .move x | .assign x => match cRd x with | some r => some (.mv r) | none => none
  | .pick c a b => match cRd c, cRd a, cRd b with
    | some c, some a, some b => some (.pick c a b)
    | _, _, _ => none
  | .alloc t => match tz P t with
    | some z => some (if dr then (match j.fill with | some _ => .rawAt j.pos z | none => .allocAt j.pos z) else .alloc z)
    | none => none
  | .box _ x => match cRd x with
    | some r => some (if dr && !imp.imp 1000002 then .boxAt j.pos r else .box r)
    | none => none
  | .build t ps => match tz P t with
    | some z => match structOf P t, arrayOf P t with
      | some fs, _ => match cParts (fieldPlaces P fs) ps.toList with
        | some l => if (List.range fs.size).all (fun i => (fieldPlaces P fs i).isSome) then some (.build z l) else none
        | none => none
      | none, some (_, e) => match tsz P e with
        | some sz => match cParts (fun i => some (i * sz, sz)) ps.toList with
          | some l => some (.build z l)
          | none => none
        | none => none
      | none, none => none
    | none => none
  | .buildSlice t n ps => match sliceOf P t with
    | some e => match tsz P e, cRds (ps.toList.map (·.2)) with
      | some sz, some rs => if idxs? ps.toList n && (tz P e).isSome && decide (n * sz ≤ 2 ^ 24) && decide (n ≤ 2 ^ 24) then some (if (dr && !j.re) then .bslq sz rs else if imp.mu && !imp.imp 1000001 then .bslm (tag P e == some true) sz rs else .bsl sz rs) else none
      | _, _ => none
    | none => none
  | .load t x => match tag P t, tsz P t, cRd x with
    | some ag, some n, some r => some (.load ag n r)
    | _, _, _ => none
  | .store t x v => match tsz P t, cRd x, cRd v with
    | some n, some r, some q => some (match j.fill with | some m => .fillAt m n r q | none => .store n r q)
    | _, _, _ => none
  | .nilCheck x => match cRd x with | some r => some (.nilc r) | none => none
  | .binOp op t x y _ => match cRd x, cRd y with
    | some r, some q =>
      if op == .eql || op == .neq then
        match cks P t with
        | some ks => some (.eqa ks (op == .neq) r q)
        | none => match tqOf P t with
          | some k => if imp.imp 1000003 && k == .slc && isNl q then some (.isn (op == .neq) r) else if isConstOp y || k != .ifc then some (.eq1 k (op == .neq) r q) else none
          | none => some (.bin op r q)
      else some (.bin op r q)
    | _, _ => none
  | .unOp op _ x => match cRd x with | some r => some (.un op r) | none => none
  | .convert src dst x => match cRd x with | some r => cConv P imp.mu dr src dst r | none => none
  | .makeFunc (.func f) first cap => match cRds first.toList, cRds cap.toList with
    | some a, some b => some (.mkfn f a b)
    | _, _ => none
  | .slice t x lo hi none => match cRd x, optRd lo, optRd hi with
    | some r, some l, some h => if isStr P t then some (.subs r l h) else match sliceOf P t with
      | some e => match tsz P e with
        | some sz => some (.sls sz r l h)
        | none => none
      | none => none
    | _, _, _ => none
  | .slice t x lo hi (some m) => match cRd x, optRd lo, optRd hi, cRd m with
    | some r, some l, some (some h), some q => match sliceOf P t with
      | some e => match tsz P e with
        | some sz => some (.sls3 sz r l (some h) (some q))
        | none => none
      | none => none
    | _, _, _, _ => none
  | .makeSlice t n m => match cRd n, cRd m with
    | some r, some q => match sliceOf P t with
      | some e => match tsz P e, tbytes P e, tz P e with
        | some sz, some by_, some z => some (.mkm (tag P e == some true) sz by_ z r q)
        | _, _, _ => none
      | none => none
    | _, _ => none
  | .fieldAddr t x k => match structOf P t, cRd x with
    | some fs, some r => match fs[k]? with
      | some f => match tsz P f.type with
        | some (n + 1) => some (.faddr f.offset r)
        | _ => none
      | none => none
    | _, _ => none
  | .field t x k => match structOf P t, cRd x with
    | some fs, some r => match fs[k]? with
      | some f => match tag P f.type, tsz P f.type with
        | some ag, some n => some (.field ag f.offset n r)
        | _, _ => none
      | none => none
    | _, _ => none
  | .indexAddr t x i => match cRd x, cRd i with
    | some r, some q => match sliceOf P t, arrayOf P t with
      | some e, _ => match tsz P e with
        | some sz => some (.iaddr sz r q)
        | none => none
      | none, some (len, e) => match tsz P e with
        | some sz => some (.iarr sz len r q)
        | none => none
      | none, none => none
    | _, _ => none
  | .index t x i => match cRd x, cRd i with
    | some r, some q => if isStr P t then some (.idxs r q) else match arrayOf P t with
      | some (len, e) => match tsz P e, tag P e with
        | some sz, some ag => some (.idxa ag sz len r q)
        | _, _ => none
      | none => none
    | _, _ => none
  | .extract x k => match cRd x with | some r => some (.ext k r) | none => none
  | .makeMap t none => if dr then none else if (mapOf P t).isSome then some .mkmap else none
  | .lookup t m k ok => match mapOf P t, cRd m, cRd k with
    | some (kt, et), some r, some q => match keyKs P kt, zero1 P et with
      | some ks, some z => some (.mget ks z ok r q)
      | _, _ => none
    | _, _, _ => none
  | .mapUpdate t m k v => match mapOf P t, cRd m, cRd k, cRd v with
    | some (kt, _), some r, some q, some p => match keyKs P kt with
      | some ks => some (.mput ks r q p)
      | none => none
    | _, _, _, _ => none
  | .mapEntry t m k => match mapOf P t, cRd m, cRd k with
    | some (kt, et), some r, some q => match keyKs P kt, zero1 P et with
      | some ks, some z => some (.ment ks z r q)
      | _, _ => none
    | _, _, _ => none
  | .range t x => if dr then none else if (mapOf P t).isSome then match cRd x with | some r => some (.rng r) | none => none else none
  | .next x b => if dr || b then none else match cRd x with | some r => some (.nxt r) | none => none
  | .entry x => match cRd x with | some r => some (.ent r) | none => none
  | .entryStore _ m b v => match cRd m, cRd b, cRd v with
    | some r, some q, some p => some (.mst r q p)
    | _, _, _ => none
  | .call { callee := .builtin b, args, argTypes } => match cRds args.toList with
    | some rs => cBuiltin P imp.mu b argTypes.toList rs
    | none => none
  | .call { callee := .value f, args, .. } => match cRd f, cRds args.toList with
    | some r, some rs => some (match f with
      | .func g => if imp.imp g || (!dr && imp.own g) then .call r rs else .pcall r rs
      | _ => if imp.mu && imp.imp 1000000 then .call r rs else .pcall r rs)
    | _, _ => none
  | _ => none
def Res (c : Cx) (w : World) (s : S) (K : D → S → Prop) (v : Value) (w' : World) : Prop :=
  ∃ d s' c', K d s' ∧ s'.t = s.t ∧ Rep c' d v ∧ Inv c' w' s'.H ∧ c.le c' ∧ c'.T = s'.T ∧ Below c.bb w w'
def CallPost (c : Cx) (w : World) (Q : Post) (e : Ending) (w' : World) : Prop :=
  ∃ v, e = .returned v ∧ ∃ r H' T' c', Q r H' T' ∧ Rep c' r v ∧ Inv c' w' H' ∧ c.le c' ∧ c'.T = T' ∧ Below c.bb w w'
class HasG (P : Program) where
  G : Cx → World → Prop
  mono : ∀ {c c' : Cx} {w w' : World}, c.le c' → Below c.bb w w' → G c w → G c' w'
def Snd (P : Program) [HasG P] : Pred := fun f args H T Q => ∀ (c : Cx) (w : World) (vs : List Value), HasG.G P c w → Inv c w H → c.T = T → Reps c args vs →
  ((callFunc f vs.toArray).run P w = .ok (.enter f vs.toArray) w ∧ Calls P f vs.toArray w (CallPost c w Q)) ∨
  ∃ v w', (callFunc f vs.toArray).run P w = .ok (.value v) w' ∧ CallPost c w Q (.returned v) w'
theorem Res.of_yld {c : Cx} {w : World} {s s' : S} {K : D → S → Prop} {d : D} {v : Value} {w' : World} (h : Yld c w s'.H s'.T d (.ok v w')) (hk : K d s') (ht : s'.t = s.t) : Res c w s K v w' := by
  obtain ⟨v', c', w'', e, h1, h2, h3, h4, h5⟩ := h
  injection e with e1 e2
  subst e1; subst e2
  exact ⟨d, s', c', hk, ht, h1, h2, h3, h4, h5⟩
theorem Yld.ok {c : Cx} {w : World} {H' : Hp} {T' : Tk} {d : D} {r : Result Value} (h : Yld c w H' T' d r) : ∃ v w', r = .ok v w' := let ⟨v, _, w', e, _⟩ := h; ⟨v, w', e⟩
theorem Res.quiet {c : Cx} {w : World} {s : S} {a : Act} (hs : Sim c s a w) {K : D → S → Prop} {d : D} {v : Value} (hk : K d s) (hr : Rep c d v) : Res c w s K v w :=
  ⟨d, s, c, hk, rfl, hr, hs.inv, Cx.le.refl c, hs.T, Below.refl _ _⟩
end GP
namespace GP
open Go
variable {P : Program} {X : Pred} {imp : Hn} {dr : Bool} {j : Pl} {c : Cx} {s : S} {a : Act} {w : World} {K : D → S → Prop}
def OpGoes (P : Program) (o : Oper) (a : Act) (c : Cx) (w : World) (s : S) (K : D → S → Prop) : Prop :=
  (∃ v w', (execOp a.eval o).run P w = .ok (.value v) w' ∧ Res c w s K v w') ∨
  (∃ w', (execOp a.eval o).run P w = .ok .skip w' ∧ Res c w s K undef w') ∨
  (∃ f args, (execOp a.eval o).run P w = .ok (.enter f args) w ∧ Calls P f args w (fun e w' => ∃ v, e = .returned v ∧ Res c w s K v w'))
theorem goes_val {o : Oper} {m : Sem Value} (he : execOp a.eval o = do pure (.value (← m))) {v : Value} {w' : World} (hm : m.run P w = .ok v w') (hr : Res c w s K v w') : OpGoes P o a c w s K :=
  .inl ⟨v, w', by rw [he]; simp [hm], hr⟩
theorem goes_quiet {o : Oper} {m : Sem Value} (hs : Sim c s a w) (he : execOp a.eval o = do pure (.value (← m))) {d : D} (hk : K d s) (h : ∃ u, m.run P w = .ok u w ∧ Rep c d u) : OpGoes P o a c w s K := by
  obtain ⟨u, h1, h2⟩ := h
  exact goes_val he h1 (.quiet hs hk h2)
theorem goes_yld {o : Oper} {m : Sem Value} (he : execOp a.eval o = do pure (.value (← m))) {d : D} {s' : S} (hk : K d s') (ht : s'.t = s.t) (h : Yld c w s'.H s'.T d (m.run P w)) : OpGoes P o a c w s K := by
  obtain ⟨v, w', e⟩ := h.ok
  rw [e] at h
  exact goes_val he e (.of_yld h hk ht)
theorem K1_ok {o : Option D} (h : K1 K s o) : ∃ d, o = some d ∧ K d s := by
  cases o with
  | none => exact h.elim
  | some d => exact ⟨d, rfl, h⟩
theorem call_sound [HasG P] (hX : ∀ f args H T Q, X f args H T Q → Snd P f args H T Q) {dst : Option Tmp} {f : Operand} {args : Array Operand} {ats : Array TypeId} {ty : TypeId} {pos : String} {after : Array Edge} {guard : Option (Nat × Bool)}
    (hG : HasG.G P c w) (hs : Sim c s a w) {r : Rd} {rs : List Rd} (hf : cRd f = some r) (hargs : cRds args.toList = some rs) {g : FuncId} {first cap : List D} (hr : s.ev r = .fn g first cap) {Q : Post}
    (hQ : X g (first ++ rs.map s.ev ++ cap) s.H s.T Q) (hK : ∀ d H T, Q d H T → K d ⟨s.t, H, T⟩) :
    OpGoes P ⟨dst, .call { callee := .value f, args, argTypes := ats }, ty, pos, after, guard⟩ a c w s K := by
  have hrf := cRd_rep hf hs.fr
  rw [hr] at hrf
  have hra := cRds_rep hargs hs.fr
  generalize hv : a.eval f = vf at hrf
  cases hrf with
  | fn _ _ _ vp vq hp hq hpr hqr =>
    have hreps : Reps c (first ++ rs.map s.ev ++ cap) (vp ++ args.toList.map a.eval ++ vq) := (Reps.append ⟨hp, hpr⟩ hra).append ⟨hq, hqr⟩
    have hres : ∀ m, (execOp a.eval ⟨dst, .call { callee := .value f, args, argTypes := ats }, ty, pos, after, guard⟩).run P w = m ↔ (callFunc g (vp ++ args.toList.map a.eval ++ vq).toArray).run P w = m := by
      intro m
      have : (vp.toArray ++ args.map a.eval ++ vq.toArray) = (vp ++ args.toList.map a.eval ++ vq).toArray := by
        apply Array.toList_inj.1; simp
      simp only [execOp, resolve, hv, Deferred.ofValue, pure_bind, invoke, this]
    have hpost : ∀ v w', CallPost c w Q (.returned v) w' → Res c w s K v w' := by
      rintro v w' ⟨v', e, r', H', T', c', h1, h2, h3, h4, h5, h6⟩
      injection e with e; subst e
      exact ⟨r', ⟨s.t, H', T'⟩, c', hK _ _ _ h1, rfl, h2, h3, h4, h5, h6⟩
    rcases hX _ _ _ _ _ hQ c w _ hG hs.inv hs.T hreps with ⟨h1, h2⟩ | ⟨v, w', h1, h2⟩
    · refine .inr (.inr ⟨g, _, (hres _).2 h1, h2.mono ?_⟩)
      rintro e w' hp
      obtain ⟨v, rfl, _⟩ := id hp
      exact ⟨v, rfl, hpost v w' hp⟩
    · exact .inl ⟨v, w', (hres _).2 h1, hpost v w' h2⟩
theorem parts_rep {place : Nat → Option (Nat × Nat)} (hf : FR c s.t a) : ∀ {ps : List (Nat × Operand)} {l : List (Nat × Nat × Rd)}, cParts place ps = some l → (l.all fun p => (s.ev p.2.2).okc) = true →
    PartsRep c place (l.map fun p => (p.1, p.2.1, s.ev p.2.2)) (ps.map fun p => (p.1, a.eval p.2))
  | [], l, h, _ => by simp [cParts] at h; subst h; exact .nil
  | (i, x) :: ps, l, h, hk => by
    simp only [cParts] at h
    split at h
    · rename_i off sz r rs h1 h2 h3
      injection h with h; subst h
      simp only [List.all_cons, Bool.and_eq_true] at hk
      exact .cons h1 (cRd_rep h2 hf) hk.1 (parts_rep hf h3 hk.2)
    · cases h
theorem build_struct {t : TypeId} {fs : Array Field} {z r : List D} (ht : structOf P t = some fs) (hz : tz P t = some z) {ps : List (Nat × Value)} {l : List (Nat × Nat × D)} (hp : PartsRep c (fieldPlaces P fs) l ps)
    (hall : (List.range fs.size).all (fun i => (fieldPlaces P fs i).isSome) = true) (ha : (l.all fun p => p.2.2.cells.length == p.2.1) = true) (hr : fillD z (l.map fun p => (p.1, p.2.2.cells)) = some r) :
    ∃ u, (Instr.build t ps.toArray).run P w = .ok u w ∧ Rep c (.agg r) u := by
  obtain ⟨zv, z1, z2⟩ := run_zero (P := P) hz c
  obtain ⟨cs', h1, h2⟩ := fill_sound hp z2 ha hr
  have hm : ∀ l : List Field, (∀ f ∈ l, ∃ n, tsz P f.type = some n) → (l.mapM (fun f => do pure (f.offset, ← Go.sizeOf f.type) : Field → Sem (Nat × Nat))).run P w = .ok (l.map fun f => (f.offset, (tsz P f.type).getD 0)) w := by
    intro l
    induction l with
    | nil => intro _; simp
    | cons f l ih =>
      intro h
      obtain ⟨n, hn⟩ := h f (by simp)
      have ih' := ih (fun g hg => h g (by simp [hg]))
      simp only [List.mapM_cons, Sem.run_bind, run_size hn, Result.andThen_ok, Sem.run_pure, ih', List.map_cons, hn, Option.getD_some]
  have hfs : ∀ f ∈ fs.toList, ∃ n, tsz P f.type = some n := by
    intro f hf
    obtain ⟨i, hi, rfl⟩ := List.getElem_of_mem hf
    have hi' : i < fs.size := by simpa using hi
    have := List.all_eq_true.1 hall i (by simpa using hi')
    simp only [fieldPlaces, Array.getElem?_eq_getElem hi'] at this
    have e : fs.toList[i] = fs[i] := by simp
    rw [e]
    cases hn : tsz P (fs[i]).type with
    | none => rw [hn] at this; cases this
    | some n => exact ⟨n, rfl⟩
  have hplace : (fun i => (fs.toList.map fun f => (f.offset, (tsz P f.type).getD 0)).toArray[i]?) = fieldPlaces P fs := by
    funext i
    simp only [fieldPlaces]
    rcases Nat.lt_or_ge i fs.size with hi | hi
    · obtain ⟨n, hn⟩ := hfs fs[i] (by simp)
      simp [Array.getElem?_eq_getElem hi, hn]
    · simp [Array.getElem?_eq_none hi]
  refine ⟨.agg cs', ?_, Rep.agg _ _ h2.len h2.one h2.rep⟩
  have hm' := hm fs.toList hfs
  have : (fs.mapM (fun f => do pure (f.offset, ← Go.sizeOf f.type) : Field → Sem (Nat × Nat))).run P w = .ok (fs.toList.map fun f => (f.offset, (tsz P f.type).getD 0)).toArray w := by
    rw [Array.mapM_eq_mapM_toList]
    rw [Sem.run_map]
    simp only [hm', Result.andThen_ok]
  simp only [Instr.build, Sem.run_bind, z1, Result.andThen_ok, run_underlying (structOf_eq ht), this]
  rw [hplace, h1]
  simp
theorem build_array {t e : TypeId} {len sz : Nat} {z r : List D} (ht : arrayOf P t = some (len, e)) (hsz : tsz P e = some sz) (hz : tz P t = some z) {ps : List (Nat × Value)} {l : List (Nat × Nat × D)} (hp : PartsRep c (fun i => some (i * sz, sz)) l ps)
    (ha : (l.all fun p => p.2.2.cells.length == p.2.1) = true) (hr : fillD z (l.map fun p => (p.1, p.2.2.cells)) = some r) :
    ∃ u, (Instr.build t ps.toArray).run P w = .ok u w ∧ Rep c (.agg r) u := by
  obtain ⟨zv, z1, z2⟩ := run_zero (P := P) hz c
  obtain ⟨cs', h1, h2⟩ := fill_sound hp z2 ha hr
  refine ⟨.agg cs', ?_, Rep.agg _ _ h2.len h2.one h2.rep⟩
  simp only [Instr.build, Sem.run_bind, z1, Result.andThen_ok, run_underlying (arrayOf_eq ht), run_size hsz]
  rw [h1]
  simp
end GP
