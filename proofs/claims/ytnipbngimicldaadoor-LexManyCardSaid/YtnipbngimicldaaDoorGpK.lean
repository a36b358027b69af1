import Derived.Test.YtnipbngimicldaaDoorGpJ
/- append. -/
namespace GP
open Go

variable {P : Program} {c : Cx} {w : World} {H : Hp}

def putM (M : Addr → Option Value) (b off : Nat) (vs : List Value) : Addr → Option Value :=
  fun a => if a.block = b ∧ a.spot = none ∧ off ≤ a.off ∧ a.off < off + vs.length then vs[a.off - off]? else M a

theorem putCells_cell {b : Nat} : ∀ (vs : List Value) (off : Nat) (w : World) (x : Addr), (∀ j, j < vs.length → (w.cell? ⟨b, off + j, none⟩).isSome = true) →
    (putCells w b off vs).cell? x = if x.block = b ∧ x.spot = none ∧ off ≤ x.off ∧ x.off < off + vs.length then vs[x.off - off]? else w.cell? x
  | [], off, w, x, _ => by
    rw [putCells, if_neg]
    simp only [List.length_nil]
    omega
  | v :: vs, off, w, x, h => by
    have h0 := h 0 (by simp)
    simp only [Nat.add_zero] at h0
    obtain ⟨u, hu⟩ := Option.isSome_iff_exists.1 h0
    have ih := putCells_cell vs (off + 1) (w.setCell ⟨b, off, none⟩ v) x (fun j hj => by
      rw [World.cell?_setCell_other]
      · have := h (j + 1) (by simp; omega)
        rwa [show off + (j + 1) = off + 1 + j by omega] at this
      · intro e; injection e with _ e; omega)
    rw [putCells, ih]
    obtain ⟨xb, xo, xs⟩ := x
    simp only [List.length_cons]
    by_cases h1 : xb = b ∧ xs = none ∧ off + 1 ≤ xo ∧ xo < off + 1 + vs.length
    · obtain ⟨q1, q2, q3, q4⟩ := h1
      rw [if_pos ⟨q1, q2, q3, q4⟩, if_pos ⟨q1, q2, by omega, by omega⟩]
      rw [show xo - off = (xo - (off + 1)) + 1 by omega, List.getElem?_cons_succ]
    · rw [if_neg h1]
      by_cases h2 : xb = b ∧ xs = none ∧ off ≤ xo ∧ xo < off + (vs.length + 1)
      · rw [if_pos h2]
        obtain ⟨rfl, rfl, h3, h4⟩ := h2
        have : xo = off := by
          rcases Nat.lt_or_ge off xo with h' | h'
          · exact absurd ⟨rfl, rfl, by omega, by omega⟩ h1
          · omega
        subst this
        simp [World.cell?_setCell_same _ _ _ hu]
      · rw [if_neg h2, World.cell?_setCell_other]
        intro e
        injection e with e1 e2 e3
        exact h2 ⟨e1.symm, e3.symm, by omega, by omega⟩

theorem putCells_frozen {b : Nat} : ∀ (vs : List Value) (off : Nat) (w : World) (x : Addr), (putCells w b off vs).frozen? x = w.frozen? x
  | [], _, _, _ => rfl
  | v :: vs, off, w, x => by rw [putCells, putCells_frozen vs, World.frozen?_setCell]

/-- An append in place. -/
theorem adv_tok (k : Inv c w H) {sz : Nat} {xs ys : List D} {τ : Nat} (hT : c.T[τ]? = some (some (xs.length, sz))) {vx : Value} (hx : Rep c (.sl (some τ) xs) vx) (hfx : ∀ x ∈ xs, x.cells.length = sz)
    {vss : List (List Value)} (hy : Elems c sz ys vss) (hb : xs.length + ys.length < 2 ^ 62) (hfit : xs.length + ys.length ≤ (c.κ τ).2) :
    vx = .slice (some (c.κ τ).1) xs.length (c.κ τ).2 ∧
    (storeCells ((c.κ τ).1.add (xs.length * sz)) vss.flatten).run P w = .ok () (putCells w (c.κ τ).1.block ((c.κ τ).1.off + xs.length * sz) vss.flatten) ∧
    Yld c w H (c.T.set τ (some (xs.length + ys.length, sz))) (.sl (some τ) (xs ++ ys))
      (.ok (.slice (some (c.κ τ).1) (xs.length + ys.length) (c.κ τ).2) (putCells w (c.κ τ).1.block ((c.κ τ).1.off + xs.length * sz) vss.flatten)) := by
  obtain ⟨t1, t2, t3, t4, t5⟩ := k.tok τ _ _ hT
  obtain ⟨a, cap, uss, rfl, hcap, hkx, hs, ha, hcell, hul⟩ := sl_elems k hx hfx
  have hlink : a = some (c.κ τ).1 ∧ cap = (c.κ τ).2 := by
    cases hx with
    | sl _ _ _ _ sz' vs hlen hb' hsz0 h1 ha' hs' hM hr htl ht' => exact (ht' τ rfl _ _ hT).2 rfl
  obtain ⟨rfl, rfl⟩ := hlink
  have hfl : vss.flatten.length = ys.length * sz := by rw [flat_len vss hy.sz', hy.len]
  generalize hb0 : (c.κ τ).1.block = b0 at *
  generalize ho0 : (c.κ τ).1.off = o0 at *
  have hrange : ∀ j, j < vss.flatten.length → xs.length * sz ≤ xs.length * sz + j ∧ xs.length * sz + j < (c.κ τ).2 * sz := fun j hj => by
    have : (xs.length + ys.length) * sz ≤ (c.κ τ).2 * sz := Nat.mul_le_mul_right _ hfit
    rw [Nat.add_mul] at this
    omega
  have hcells : ∀ j, j < vss.flatten.length → (w.cell? ⟨b0, o0 + xs.length * sz + j, none⟩).isSome = true ∧ w.frozen? ⟨b0, o0 + xs.length * sz + j, none⟩ = false ∧ c.M ⟨b0, o0 + xs.length * sz + j, none⟩ = none := fun j hj => by
    obtain ⟨r1, r2⟩ := hrange j hj
    have := t5 _ r1 r2
    rwa [← Nat.add_assoc] at this
  have hone : ∀ v ∈ vss.flatten, v.oneCell' = true := by
    intro v hv
    obtain ⟨l, hl, hv⟩ := List.mem_flatten.1 hv
    obtain ⟨i, hi, rfl⟩ := List.getElem_of_mem hl
    exact (hy.el i (by rw [← hy.len]; exact hi) hi).cell v hv
  have hstore := run_storeCells (P := P) (b := b0) (o := o0 + xs.length * sz) vss.flatten 0 w (fun j hj => ⟨by simpa using (hcells j hj).1, by simpa using (hcells j hj).2.1⟩) hone
  simp only [Nat.add_zero] at hstore
  have hadd : (c.κ τ).1.add (xs.length * sz) = ⟨b0, o0 + xs.length * sz, none⟩ := by rw [Addr.add_eq _ t3, hb0, ho0]
  refine ⟨rfl, by rw [hadd]; exact hstore, ?_⟩
  -- the new context
  obtain ⟨p1, p2, p3, p4, p5⟩ := putCells_same (b := b0) vss.flatten (o0 + xs.length * sz) w
  have hcl := putCells_cell (b := b0) vss.flatten (o0 + xs.length * sz) w
  have hcl' := fun x => hcl x (fun j hj => (hcells j hj).1)
  have hne : ∀ b', b' ≠ b0 → (putCells w b0 (o0 + xs.length * sz) vss.flatten).heap[b']? = w.heap[b']? := fun b' h => putCells_ne h _ _ _
  let c' : Cx := { c with M := putM c.M b0 (o0 + xs.length * sz) vss.flatten, T := c.T.set τ (some (xs.length + ys.length, sz)) }
  have hτl : τ < c.T.length := by
    rcases Nat.lt_or_ge τ c.T.length with h' | h'
    · exact h'
    · rw [List.getElem?_eq_none h'] at hT; cases hT
  have hTτ : c'.T[τ]? = some (some (xs.length + ys.length, sz)) := by show (c.T.set _ _)[τ]? = _; simp [hτl]
  have hTne : ∀ j, j ≠ τ → c'.T[j]? = c.T[j]? := fun j h => by show (c.T.set _ _)[j]? = _; rw [List.getElem?_set_ne (Ne.symm h)]
  have hM1 : ∀ x v, c.M x = some v → c'.M x = some v := fun x v hx => by
    show putM _ _ _ _ x = _
    unfold putM
    rw [if_neg]; exact hx
    rintro ⟨h1, h2, h3, h4⟩
    have := (hcells (x.off - (o0 + xs.length * sz)) (by omega)).2.2
    rw [show o0 + xs.length * sz + (x.off - (o0 + xs.length * sz)) = x.off by omega] at this
    obtain ⟨xb, xo, xsp⟩ := x
    simp only at h1 h2
    subst h1; subst h2
    rw [this] at hx; cases hx
  have hMne : ∀ x : Addr, x.block ≠ b0 → c'.M x = c.M x := fun x h => by
    show putM _ _ _ _ x = _
    unfold putM
    rw [if_neg]; exact fun h' => h h'.1
  have hle : c.le c' := by
    refine ⟨hM1, fun _ h => h, fun _ _ => rfl, by show _ ≤ (c.T.set _ _).length; simp, fun j hj => ?_, fun j n z hj => ?_, rfl, fun _ _ => rfl⟩
    · by_cases e' : j = τ
      · subst e'; rw [hT] at hj; cases hj
      · rw [hTne j e']; exact hj
    · by_cases e' : j = τ
      · subst e'
        rw [hT] at hj; injection hj with hj; injection hj with hj; injection hj with e1 e2
        subst e1; subst e2
        exact .inr ⟨_, hTτ, Nat.le_add_right _ _, fun _ => rfl⟩
      · exact .inr ⟨n, by rw [hTne j e']; exact hj, Nat.le_refl _, fun _ => rfl⟩
  have hrowb : ∀ (o : Nat) x, H[o]? = some x → x.live = true → c.β o ≠ b0 := fun o x ho hx => by
    have := k.tokrow τ _ _ o x hT ho hx
    rwa [hb0] at this
  have kinv : Inv c' (putCells w b0 (o0 + xs.length * sz) vss.flatten) H := by
    refine ⟨?_, by rw [p1]; exact k.low, ?_, k.free, ?_, k.apart, k.map, k.iter, ?_, ?_, ?_⟩
    · intro x v hx
      rw [hcl' x]
      change putM c.M b0 (o0 + xs.length * sz) vss.flatten x = some v at hx
      unfold putM at hx
      split at hx
      · rename_i hc; rw [if_pos hc]; exact hx
      · rename_i hc; rw [if_neg hc]; exact k.keep x v hx
    · intro o x cs ho hx
      exact (k.row o x cs ho hx).mono hle (hne _ (hrowb o _ ho (Ob.live_of_cells hx)))
    · intro o x ho hx
      obtain ⟨h0, h1, h2, h3⟩ := k.own o x ho hx
      refine ⟨h0, h1, by rw [p1]; exact h2, fun i => ?_⟩
      have := hMne ⟨c.β o, i, none⟩ (hrowb o x ho hx)
      exact this.trans (h3 i)
    · intro j n z hj
      by_cases e' : j = τ
      · subst e'
        rw [hTτ] at hj; injection hj with hj; injection hj with hj; injection hj with e1 e2
        subst e1; subst e2
        show c.B ≤ (c.κ j).1.block ∧ _
        rw [hb0, ho0]
        refine ⟨t1, by rw [p1]; exact t2, t3, hfit, fun i h1 h2 => ?_⟩
        have hge : xs.length * sz ≤ i := by rw [Nat.add_mul] at h1; omega
        obtain ⟨g1, g2, g3⟩ := t5 i hge h2
        have hout : ¬ (b0 = b0 ∧ (none : Option Nat) = none ∧ o0 + xs.length * sz ≤ o0 + i ∧ o0 + i < o0 + xs.length * sz + vss.flatten.length) := by
          rw [Nat.add_mul] at h1
          omega
        refine ⟨?_, ?_, ?_⟩
        · have := hcl' ⟨b0, o0 + i, none⟩
          rw [if_neg hout] at this
          rw [this]; exact g1
        · rw [putCells_frozen]; exact g2
        · show putM _ _ _ _ _ = none
          unfold putM
          rw [if_neg hout]; exact g3
      · rw [hTne j e'] at hj
        obtain ⟨h1, h2, h3, h4, h5⟩ := k.tok j n z hj
        have hbj : (c.κ j).1.block ≠ b0 := fun e => e' (k.toks j n z τ _ _ hj hT (by rw [e, hb0]))
        refine ⟨h1, by rw [p1]; exact h2, h3, h4, fun i a b => ?_⟩
        obtain ⟨g1, g2, g3⟩ := h5 i a b
        refine ⟨?_, by rw [putCells_frozen]; exact g2, ?_⟩
        · have := hcl' ⟨(c.κ j).1.block, (c.κ j).1.off + i, none⟩
          rw [if_neg (fun h => hbj h.1)] at this
          exact (congrArg Option.isSome this).trans g1
        · exact (hMne ⟨(c.κ j).1.block, (c.κ j).1.off + i, none⟩ hbj).trans g3
    · intro j n z o x hj ho hxl
      by_cases e' : j = τ
      · subst e'; exact k.tokrow j _ _ o x hT ho hxl
      · rw [hTne j e'] at hj; exact k.tokrow j n z o x hj ho hxl
    · intro j n z j' n' z' hj hj' he
      have key : ∀ i m q, c'.T[i]? = some (some (m, q)) → ∃ m' q', c.T[i]? = some (some (m', q')) := fun i m q hi => by
        by_cases e' : i = τ
        · subst e'; exact ⟨_, _, hT⟩
        · rw [hTne i e'] at hi; exact ⟨_, _, hi⟩
      obtain ⟨_, _, g1⟩ := key j n z hj
      obtain ⟨_, _, g2⟩ := key j' n' z' hj'
      exact k.toks j _ _ j' _ _ g1 g2 he
  refine ⟨_, c', _, rfl, ?_, kinv, hle, rfl, ⟨p2, p3, p4, by rw [p1]; exact Nat.le_refl _, fun i hi => hne i (by omega)⟩⟩
  have hlen : (xs ++ ys).length = xs.length + ys.length := by simp
  have hflat : (uss ++ vss).flatten = uss.flatten ++ vss.flatten := by simp
  rw [← hlen]
  refine rep_sl_of ((hkx.mono hle).append (hy.mono hle)) t3 (by rw [hlen]; exact hfit) (by rw [hlen]; exact hb) (fun j hj => ?_) (some τ) (fun τ' h => by injection h with h; subst h; show τ < (c.T.set _ _).length; simpa using hτl) (fun τ' h n z hn => ?_)
  · rw [hflat, hb0, ho0]
    by_cases hjx : j < xs.length * sz
    · rw [List.getElem?_append_left (by omega)]
      have hju : j < uss.flatten.length := by omega
      have := (hcell _ rfl j _ (List.getElem?_eq_getElem hju)).2
      rw [Addr.add_eq _ t3, hb0, ho0] at this
      rw [List.getElem?_eq_getElem hju]
      exact hM1 _ _ this
    · rw [List.getElem?_append_right (by omega), hul]
      rw [hlen, Nat.add_mul] at hj
      show putM _ _ _ _ _ = _
      unfold putM
      rw [if_pos ⟨rfl, rfl, by simp only; omega, by simp only; omega⟩]
      simp only
      rw [show o0 + j - (o0 + xs.length * sz) = j - xs.length * sz by omega]
  · injection h with h; subst h
    rw [hTτ] at hn; injection hn with hn; injection hn with hn; injection hn with e1 e2
    subst e1
    rw [hlen]
    exact ⟨Nat.le_refl _, fun _ => ⟨rfl, rfl⟩⟩

def tbytes (P : Program) (t : TypeId) : Option Nat := (P.info? t).map (·.bytes)

theorem run_bytes {t : TypeId} {n : Nat} (h : tbytes P t = some n) : ∃ i, (∀ w, (typeInfo t).run P w = .ok i w) ∧ i.bytes = n := by
  unfold tbytes at h
  cases hi : P.info? t with
  | none => rw [hi] at h; cases h
  | some i => rw [hi] at h; injection h with h; exact ⟨i, fun w => by simp [typeInfo, hi], h⟩

/-- The second operand's type, at an append. -/
def appT (P : Program) (t : TypeId) : Bool := match P.underlying t with | some .string | some (.slice _) => true | _ => false

theorem appT_ok {t : TypeId} (h : appT P t = true) : P.underlying t = some .string ∨ ∃ e, P.underlying t = some (.slice e) := by
  unfold appT at h
  split at h
  · rename_i hu; exact .inl hu
  · rename_i e hu; exact .inr ⟨e, hu⟩
  · cases h

theorem app_fit {st xt e : TypeId} {sz : Nat} (ht : sliceOf P st = some e) (hxt : appT P xt = true) (hsz : tsz P e = some sz) (ty : TypeId) (base : Option Addr) (sLen sCap : Nat) (vy : Value) {n : Nat}
    (hl : ∀ w', (Builtin.lenOf vy).run P w' = .ok n w') (hfit : sLen + n ≤ sCap) {new : Array Value} (hnew : (Builtin.firstCells sz n vy).run P w = .ok new w) {w' : World}
    (hst : ∀ a, base = some a → (storeCells (a.add (sLen * sz)) new.toList).run P w = .ok () w') (hnone : base = none → w' = w) :
    (Builtin.append_ #[st, xt] ty #[.slice base sLen sCap, vy]).run P w = .ok (.slice base (sLen + n) sCap) w' := by
  cases base with
  | none =>
    have := hnone rfl
    subst this
    rcases appT_ok hxt with hd | ⟨e', hd⟩ <;>
      simp [Builtin.append_, run_underlying (sliceOf_eq ht), run_size hsz, run_underlying hd, hl, hfit, hnew]
  | some a =>
    rcases appT_ok hxt with hd | ⟨e', hd⟩ <;>
      simp [Builtin.append_, run_underlying (sliceOf_eq ht), run_size hsz, run_underlying hd, hl, hfit, hnew, hst a rfl]

theorem app_grow {st xt e : TypeId} {sz bytes : Nat} (ht : sliceOf P st = some e) (hxt : appT P xt = true) (hsz : tsz P e = some sz) (hby : tbytes P e = some bytes) (ty : TypeId) (base : Option Addr) (sLen sCap : Nat) (vy : Value) {n : Nat}
    (hl : ∀ w', (Builtin.lenOf vy).run P w' = .ok n w') (hg : sCap < sLen + n) (hneed : sLen + n < 2 ^ 63) (hbig : (sLen + n) * bytes ≤ 2 ^ 47) {z : List D} (hz : tz P e = some z) (hzl : z.length = sz) {old new : Array Value}
    (hold : (Builtin.firstCells sz sLen (.slice base sLen sCap)).run P w.drew = .ok old w.drew) (hnew : (Builtin.firstCells sz n vy).run P w.drew = .ok new w.drew) :
    ∃ (cap : Nat) (rest : List Value), sLen + n ≤ cap ∧ rest.length = (cap - (sLen + n)) * sz ∧
      (Builtin.append_ #[st, xt] ty #[.slice base sLen sCap, vy]).run P w = .ok (.slice (some ⟨w.heap.size, 0, none⟩) (sLen + n) cap) (w.drew.alloc (.cells (old ++ new ++ rest.toArray) e)) := by
  obtain ⟨zv, z1, z2⟩ := run_zero (P := P) hz (c := ⟨fun _ => none, id, fun _ => default, fun _ => false, [], 0, fun _ => 0⟩)
  obtain ⟨i, hi, hib⟩ := run_bytes hby
  refine ⟨grownCap w (sLen + n) sCap e, (Builtin.zeroCells zv.cells (grownCap w (sLen + n) sCap e - (sLen + n))).toList, ?_, ?_, ?_⟩
  · simp [grownCap, Question.cut]
  · have : zv.cells.size = sz := by have := z2.len; simp at this; omega
    simp [Builtin.zeroCells, this]
  · have hn : ¬ (sLen + n ≤ sCap) := by omega
    have h63 : ¬ (9223372036854775807 < ((sLen : Int) + (n : Int))) := by omega
    have h48 : ¬ (281474976710656 < Builtin.nextslicecap (sLen + n) sCap * i.bytes) := by
      have := growslice_fits (need := sLen + n) (old := sCap) (bytes := bytes) hg (by simpa using hbig)
      rw [hib]; omega
    rcases appT_ok hxt with hd | ⟨e', hd⟩ <;>
      simp [Builtin.append_, run_underlying (sliceOf_eq ht), run_size hsz, run_underlying hd, hl, hn, h63, h48, hi, Question.forced, hold, hnew, z1, newRow, grownCap]

theorem app_nils0 {st xt e : TypeId} {sz : Nat} (ht : sliceOf P st = some e) (hxt : appT P xt = true) (hsz : tsz P e = some sz) (ty : TypeId) (vy : Value)
    (hl : ∀ w', (Builtin.lenOf vy).run P w' = .ok 0 w') (hnew : (Builtin.firstCells sz 0 vy).run P w = .ok #[] w) :
    (Builtin.append_ #[st, xt] ty #[.slice none 0 0, vy]).run P w = .ok (.slice none 0 0) w :=
  app_fit ht hxt hsz ty none 0 0 vy hl (Nat.le_refl _) hnew (fun a h => by cases h) (fun _ => rfl)

theorem grow_yld (k : Inv c w H) {st xt e : TypeId} {sz bytes : Nat} (ht : sliceOf P st = some e) (hxt : appT P xt = true) (hsz : tsz P e = some sz) (hby : tbytes P e = some bytes) (ty : TypeId) {base : Option Addr} {sCap : Nat} {vy : Value}
    {xs ys : List D} {uss vss : List (List Value)} (hx : Elems c sz xs uss) (hy : Elems c sz ys vss) (hl : ∀ w', (Builtin.lenOf vy).run P w' = .ok ys.length w') (hg : sCap < xs.length + ys.length) (hneed : xs.length + ys.length < 2 ^ 62)
    (hbig : (xs.length + ys.length) * bytes ≤ 2 ^ 47) {z : List D} (hz : tz P e = some z) (hzl : z.length = sz)
    (hold : (Builtin.firstCells sz xs.length (.slice base xs.length sCap)).run P w.drew = .ok uss.flatten.toArray w.drew) (hnew : (Builtin.firstCells sz ys.length vy).run P w.drew = .ok vss.flatten.toArray w.drew)
    {τ : Nat} {T' : Tk} (hτ : T'[τ]? = some (some (xs.length + ys.length, sz))) (hol : τ < c.T.length → ∃ n, c.T[τ]? = some (some (n, sz)) ∧ n < xs.length + ys.length) (hne : ∀ τ', τ' ≠ τ → T'[τ']? = c.T[τ']?) (hlen : c.T.length ≤ T'.length) :
    Yld c w H T' (.sl (some τ) (xs ++ ys)) ((Builtin.append_ #[st, xt] ty #[.slice base xs.length sCap, vy]).run P w) := by
  obtain ⟨cap, rest, h1, h2, h3⟩ := app_grow (w := w) ht hxt hsz hby ty base xs.length sCap vy hl hg (by omega) hbig hz hzl hold hnew
  rw [h3]
  have hk := hx.append hy
  have hfl : (uss ++ vss).flatten.length = (xs.length + ys.length) * sz := by
    rw [flat_len _ hk.sz', List.length_append, hx.len, hy.len]
  have hl' : (xs ++ ys).length = xs.length + ys.length := by simp
  have := fresh_tok k.drew hk e (by rw [hl']; exact hneed) rest (0, 0) (fun i _ => by simp) (cap := cap) (by rw [hl']; exact h1) (by
      rw [hfl, h2, ← Nat.add_mul]
      exact Nat.mul_le_mul_right _ (by omega)) (τ := τ) (T' := T') (by rw [hl']; exact hτ) (by rw [hl']; exact hol) hne hlen
  have e1 : ((uss ++ vss).flatten ++ rest).toArray = uss.flatten.toArray ++ vss.flatten.toArray ++ rest.toArray := by simp
  rw [e1, hl'] at this
  exact this.drew

theorem app_sound (k : Inv c w H) {st xt e : TypeId} {sz bytes : Nat} (ht : sliceOf P st = some e) (hxt : appT P xt = true) (hsz : tsz P e = some sz) (hby : tbytes P e = some bytes) {z : List D} (hz : tz P e = some z) (hzl : z.length = sz)
    (ty : TypeId) {x y : D} {vx vy : Value} (hx : Rep c x vx) (hy : Rep c y vy) {str : Bool} (hstr : ∀ l, y = .str l → str = true → sz = 1) {s : S} (hsH : s.H = H) (hsT : c.T = s.T) {K : D → S → Prop}
    (h : appK sz bytes K s x (appSrc str y)) :
    ∃ d s', K d s' ∧ s'.t = s.t ∧ Yld c w s'.H s'.T d ((Builtin.append_ #[st, xt] ty #[vx, vy]).run P w) := by
  subst hsH
  unfold appK at h
  split at h
  · exact h.elim
  · rename_i ys hys
    obtain ⟨hfy, h⟩ := h
    obtain ⟨vss, ky, hl, hfirst⟩ := src_sound (P := P) k hy hys hfy (fun l hl => by
      subst hl
      cases str
      · simp [appSrc] at hys
      · exact hstr l rfl rfl)
    split at h
    · cases hx
      split at h
      · rename_i h0
        subst h0
        have e0 : vss = [] := by have := ky.len; simpa using this
        subst e0
        refine ⟨.nils, s, h, rfl, ?_⟩
        rw [app_nils0 ht hxt hsz ty vy hl (by simpa using hfirst w rfl)]
        exact ⟨_, c, w, rfl, Rep.nils, k, Cx.le.refl c, hsT, Below.refl _ _⟩
      · rename_i h0
        obtain ⟨h1, h2, h3⟩ := h
        have hpos : 0 < ys.length := by cases ys with | nil => exact absurd rfl h0 | cons => simp
        refine ⟨_, _, h3, rfl, ?_⟩
        have hx0 : Elems c sz [] [] := ⟨rfl, fun i h _ => absurd h (by simp), fun x hx => by cases hx⟩
        have := grow_yld (P := P) k ht hxt hsz hby ty (base := none) (sCap := 0) hx0 ky hl (by simpa using hpos) (by simpa using h2) (by simpa using h1) hz hzl (by simp [Builtin.firstCells]) (hfirst _ rfl)
          (τ := s.T.length) (T' := s.T ++ [some (ys.length, sz)]) (by simp) (fun h => by rw [hsT] at h; omega) (fun j hj => by
            rw [hsT]
            rcases Nat.lt_or_ge j s.T.length with h' | h'
            · rw [List.getElem?_append_left h']
            · rw [List.getElem?_eq_none (by simp; omega), List.getElem?_eq_none h']) (by rw [hsT]; simp)
        simpa using this
    · cases hx with
      | e0 a =>
      split at h
      · rename_i h0
        subst h0
        have e0 : vss = [] := by have := ky.len; simpa using this
        subst e0
        refine ⟨.e0, s, h, rfl, ?_⟩
        rw [app_fit ht hxt hsz ty a 0 0 vy hl (Nat.le_refl _) (by simpa using hfirst w rfl) (w' := w) (fun b h => by simp [storeCells]) (fun _ => rfl)]
        exact ⟨_, c, w, rfl, Rep.e0 a, k, Cx.le.refl c, hsT, Below.refl _ _⟩
      · rename_i h0
        obtain ⟨h1, h2, h3⟩ := h
        have hpos : 0 < ys.length := by cases ys with | nil => exact absurd rfl h0 | cons => simp
        refine ⟨_, _, h3, rfl, ?_⟩
        have hx0 : Elems c sz [] [] := ⟨rfl, fun i h _ => absurd h (by simp), fun x hx => by cases hx⟩
        have := grow_yld (P := P) k ht hxt hsz hby ty (base := a) (sCap := 0) hx0 ky hl (by simpa using hpos) (by simpa using h2) (by simpa using h1) hz hzl (by cases a <;> simp [Builtin.firstCells, loadCells, loadCellsFrom]) (hfirst _ rfl)
          (τ := s.T.length) (T' := s.T ++ [some (ys.length, sz)]) (by simp) (fun h => by rw [hsT] at h; omega) (fun j hj => by
            rw [hsT]
            rcases Nat.lt_or_ge j s.T.length with h' | h'
            · rw [List.getElem?_append_left h']
            · rw [List.getElem?_eq_none (by simp; omega), List.getElem?_eq_none h']) (by rw [hsT]; simp)
        simpa using this
    · rename_i τ xs
      obtain ⟨h1, h2, h3, h4, h5⟩ := h
      refine ⟨_, _, h5, rfl, ?_⟩
      have hT : c.T[τ]? = some (some (xs.length, sz)) := by rw [hsT]; exact h1
      obtain ⟨a, cap, uss, rfl, hcap, hkx, hsp, ha, hcell, hul⟩ := sl_elems k hx (fit_sz h4)
      by_cases hfit : xs.length + ys.length ≤ (c.κ τ).2
      · obtain ⟨e1, e2, e3⟩ := adv_tok (P := P) k hT hx (fit_sz h4) ky h3 hfit
        injection e1 with e1 e1' e1''
        subst e1; subst e1''
        rw [app_fit ht hxt hsz ty _ _ _ vy hl hfit (hfirst w rfl) (fun a ha => by injection ha with ha; subst ha; simpa using e2) (fun h => by cases h)]
        rw [← hsT]
        exact e3
      · have hlink : a = some (c.κ τ).1 ∧ cap = (c.κ τ).2 := by
          cases hx with
          | sl _ _ _ _ sz' vs hlen hb' hsz0 h1 ha' hs' hM hr htl ht' => exact (ht' τ rfl _ _ hT).2 rfl
        obtain ⟨rfl, rfl⟩ := hlink
        refine grow_yld (P := P) k ht hxt hsz hby ty hkx ky hl (by omega) h3 h2 hz hzl ?_ (hfirst _ rfl) ?_ (fun _ => ⟨_, hT, ?_⟩) ?_ ?_
        · exact run_firstCells_some w.drew sz xs.length _ xs.length _ uss.flatten hul (fun j v hj => (hcell _ rfl j v hj).1)
        · have : τ < s.T.length := by
            rcases Nat.lt_or_ge τ s.T.length with h' | h'
            · exact h'
            · rw [List.getElem?_eq_none h'] at h1; cases h1
          simp [this]
        · have := (k.tok τ _ _ hT).2.2.2.1
          omega
        · intro j hj; rw [hsT, List.getElem?_set_ne (Ne.symm hj)]
        · rw [hsT]; simp
    · exact h.elim

end GP
