import Derived.Test.YtnipbngimicldaaDoorGpD
import Derived.ChangeKeysEq
/- Soundness of the quiet operations that make no memory, continued. -/
namespace GP
open Go
variable {P : Program} {c : Cx} {w : World} {H : Hp}

/-- A type of one cell of plain data. -/
def flat1 (P : Program) (t : TypeId) : Bool :=
  match P.underlying t with
  | some (.int _) | some .string | some .bool => true
  | _ => false

theorem tag_flat {t : TypeId} (h : flat1 P t = true) : tag P t = some false := by
  unfold flat1 at h
  unfold tag
  split at h <;> simp_all

theorem eqCell_sound {x y : D} {vx vy : Value} (hx : Rep c x vx) (hy : Rep c y vy) {b : Bool} (h : eqCell x y = some b) {t : TypeId} (ht : flat1 P t = true) (d : Nat)
    (hk : ∀ k, P.underlying t = some (.int k) → ∃ k' n, x = .int k' n) (hs : P.underlying t = some .string → ∃ l, x = .str l) (hb : P.underlying t = some .bool → ∃ l, x = .bool l) :
    (Op.equalIn (d + 1) t vx vy).run P w = .ok b w := by
  unfold flat1 at ht
  split at ht
  case h_1 k hu =>
    obtain ⟨k1, n1, rfl⟩ := hk k hu
    cases hx
    cases hy <;> simp [eqCell] at h
    rename_i k2 n2
    obtain ⟨hkk, rfl⟩ := h
    subst hkk
    exact run_equalIn_int w d t _ _ _ _ hu
  case h_2 hu =>
    obtain ⟨l, rfl⟩ := hs hu
    cases hx
    cases hy <;> simp [eqCell] at h
    subst h
    rw [run_equalIn_string w d t _ _ hu, toList_mk, toList_mk]
  case h_3 hu =>
    obtain ⟨l, rfl⟩ := hb hu
    cases hx
    cases hy <;> simp [eqCell] at h
    subst h
    exact run_equalIn_bool' w d t _ _ hu
  · cases ht

/-- Does a cell's shape fit a flat type? -/
def fitsT (P : Program) (t : TypeId) : D → Bool
  | .int _ _ => match P.underlying t with | some (.int _) => true | _ => false
  | .str _ => match P.underlying t with | some .string => true | _ => false
  | .bool _ => match P.underlying t with | some .bool => true | _ => false
  | _ => false

def ckOf (P : Program) (t : TypeId) : Option Ck :=
  match P.underlying t with
  | some (.int _) => some .int
  | some .string => some .str
  | some .bool => some .bool
  | _ => none

theorem eqCell_ck {x y : D} {vx vy : Value} (hx : Rep c x vx) (hy : Rep c y vy) {b : Bool} (h : eqCell x y = some b) {t : TypeId} {k : Ck} (ht : ckOf P t = some k) (hk : ckD x = some k) (d : Nat) :
    (Op.equalIn (d + 1) t vx vy).run P w = .ok b w := by
  unfold ckOf at ht
  split at ht <;> first | cases ht | (injection ht with ht; subst ht)
  · rename_i hu
    cases x <;> simp [ckD] at hk
    cases hx
    cases hy <;> simp [eqCell] at h
    obtain ⟨hkk, rfl⟩ := h
    subst hkk
    exact run_equalIn_int w d t _ _ _ _ hu
  · rename_i hu
    cases x <;> simp [ckD] at hk
    cases hx
    cases hy <;> simp [eqCell] at h
    subst h
    rw [run_equalIn_string w d t _ _ hu, toList_mk, toList_mk]
  · rename_i hu
    cases x <;> simp [ckD] at hk
    cases hx
    cases hy <;> simp [eqCell] at h
    subst h
    exact run_equalIn_bool' w d t _ _ hu

theorem tag_ck {t : TypeId} {k : Ck} (h : ckOf P t = some k) : tag P t = some false := by
  unfold ckOf at h
  unfold tag
  split at h <;> simp_all

/-- The kinds that a struct's, or an array's, cells have, one by one. -/
def cksF (P : Program) : Nat → List Field → Option (List Ck)
  | _, [] => some []
  | i, f :: fs => if f.name != "_" && f.offset == i then
      match ckOf P f.type, cksF P (i + 1) fs with
      | some k, some ks => some (k :: ks)
      | _, _ => none
    else none

def cks (P : Program) (t : TypeId) : Option (List Ck) :=
  match P.underlying t with
  | some (.struct fs) => if !P.stoodInHeld t && !P.eqGuardType P.depth t then cksF P 0 fs.toList else none
  | some (.array n e) => if !P.eqGuardType P.depth t && (tsz P e == some 1) then (ckOf P e).map (List.replicate n) else none
  | _ => none

theorem fields_sound (d : Nat) (vx vy : List Value) : ∀ (fs : List Field) (ks : List Ck) (i : Nat) (xs ys : List D) (b : Bool), cksF P i fs = some ks → Cells c xs (vx.drop i) → Cells c ys (vy.drop i) → cksD xs ks = true →
    eqCells xs ys = some b → (Op.eqFields (d + 1) vx.toArray vy.toArray fs).run P w = .ok b w
  | [], ks, i, xs, ys, b, h1, hx, hy, hk, h => by
    simp [cksF] at h1; subst h1
    cases xs with
    | nil =>
      cases ys with
      | nil => simp [eqCells] at h; subst h; simp [Op.eqFields]
      | cons y ys => simp [eqCells] at h
    | cons x xs => simp [cksD] at hk
  | f :: fs, ks, i, xs, ys, b, h1, hx, hy, hk, h => by
    simp only [cksF] at h1
    split at h1
    · rename_i hn
      simp at hn
      split at h1
      · rename_i k ks' e1 e2
        injection h1 with h1; subst h1
        cases xs with
        | nil => simp [cksD] at hk
        | cons x xs =>
          cases ys with
          | nil => simp [eqCells] at h
          | cons y ys =>
            simp only [cksD, Bool.and_eq_true, beq_iff_eq] at hk
            simp only [eqCells] at h
            split at h
            · rename_i p q e3 e4
              injection h with h; subst h
              have lx : i < vx.length := by have := hx.len; simp at this; omega
              have ly : i < vy.length := by have := hy.len; simp at this; omega
              have rx : Rep c x vx[i] := by have := hx.rep 0 (by simp) (by rw [hx.len]; simp); simpa using this
              have ry : Rep c y vy[i] := by have := hy.rep 0 (by simp) (by rw [hy.len]; simp); simpa using this
              have hx' : Cells c xs (vx.drop (i + 1)) := by have := hx.drop 1; simpa [List.drop_drop] using this
              have hy' : Cells c ys (vy.drop (i + 1)) := by have := hy.drop 1; simpa [List.drop_drop] using this
              have px : (part f.type vx.toArray f.offset).run P w = .ok vx[i] w := by simp [part, run_isAgg (tag_ck e1), hn.2, lx]
              have py : (part f.type vy.toArray f.offset).run P w = .ok vy[i] w := by simp [part, run_isAgg (tag_ck e1), hn.2, ly]
              have ih := fields_sound d vx vy fs ks' (i + 1) xs ys q e2 hx' hy' hk.2 e4
              simp only [Op.eqFields]
              rw [if_pos hn.1]
              simp only [Sem.run_bind, px, py, Result.andThen_ok, eqCell_ck rx ry e3 e1 hk.1 d]
              cases p
              · simp
              · simpa using ih
            · cases h
      · cases h1
    · cases h1

theorem items_sound (d : Nat) {e : TypeId} {k : Ck} (he : ckOf P e = some k) (hsz : tsz P e = some 1) (vx vy : List Value) : ∀ (m i : Nat) (xs ys : List D) (b : Bool), Cells c xs (vx.drop i) → Cells c ys (vy.drop i) →
    cksD xs (List.replicate m k) = true → eqCells xs ys = some b → (Op.eqItems (d + 1) e 1 vx.toArray vy.toArray (List.range' i m)).run P w = .ok b w
  | 0, i, xs, ys, b, hx, hy, hk, h => by
    cases xs with
    | nil =>
      cases ys with
      | nil => simp [eqCells] at h; subst h; simp [Op.eqItems]
      | cons y ys => simp [eqCells] at h
    | cons x xs => simp [cksD] at hk
  | m + 1, i, xs, ys, b, hx, hy, hk, h => by
    cases xs with
    | nil => simp [cksD, List.replicate_succ] at hk
    | cons x xs =>
      cases ys with
      | nil => simp [eqCells] at h
      | cons y ys =>
        simp only [List.replicate_succ, cksD, Bool.and_eq_true, beq_iff_eq] at hk
        simp only [eqCells] at h
        split at h
        · rename_i p q e3 e4
          injection h with h; subst h
          have lx : i < vx.length := by have := hx.len; simp at this; omega
          have ly : i < vy.length := by have := hy.len; simp at this; omega
          have rx : Rep c x vx[i] := by have := hx.rep 0 (by simp) (by rw [hx.len]; simp); simpa using this
          have ry : Rep c y vy[i] := by have := hy.rep 0 (by simp) (by rw [hy.len]; simp); simpa using this
          have hx' : Cells c xs (vx.drop (i + 1)) := by have := hx.drop 1; simpa [List.drop_drop] using this
          have hy' : Cells c ys (vy.drop (i + 1)) := by have := hy.drop 1; simpa [List.drop_drop] using this
          have px : (part e vx.toArray (i * 1)).run P w = .ok vx[i] w := by simp [part, run_isAgg (tag_ck he), lx]
          have py : (part e vy.toArray (i * 1)).run P w = .ok vy[i] w := by simp [part, run_isAgg (tag_ck he), ly]
          have ih := items_sound d he hsz vx vy m (i + 1) xs ys q hx' hy' hk.2 e4
          simp only [List.range'_succ, Op.eqItems, Sem.run_bind, px, py, Result.andThen_ok, eqCell_ck rx ry e3 he hk.1 d]
          cases p
          · simp
          · simpa using ih
        · cases h

theorem eqa_sound {t : TypeId} {ks : List Ck} (ht : cks P t = some ks) {x y : D} {vx vy : Value} (hx : Rep c x vx) (hy : Rep c y vy) {xs ys : List D} (ex : x = .agg xs) (ey : y = .agg ys) (hk : cksD xs ks = true) {b : Bool}
    (h : eqCells xs ys = some b) (neg : Bool) (ox oy : Operand) :
    (do eqGuard (if neg then .neq else .eql) t ox oy vx vy; Go.binOp (if neg then .neq else .eql) t vx vy : Sem Value).run P w = .ok (.bool (b != neg)) w := by
  subst ex; subst ey
  cases hx with
  | agg _ vx hl h1 hr =>
    cases hy with
    | agg _ vy hl' h1' hr' =>
      have kx : Cells c xs vx := ⟨hl, h1, hr⟩
      have ky : Cells c ys vy := ⟨hl', h1', hr'⟩
      have main : P.eqGuardType P.depth t = false ∧ (Op.equalIn 10000 t (.agg vx.toArray) (.agg vy.toArray)).run P w = .ok b w := by
        unfold cks at ht
        split at ht
        · rename_i fs hu
          split at ht
          · rename_i hg
            simp at hg
            refine ⟨hg.2, ?_⟩
            have hf : P.fieldsOf t = fs := by simp [Program.fieldsOf, hu]
            rw [show (10000 : Nat) = 9999 + 1 from rfl, run_equalIn_struct w 9999 t _ _ (by rw [hf]; exact hu) hg.1, hf]
            exact fields_sound 9998 vx vy fs.toList ks 0 xs ys b ht (by simpa using kx) (by simpa using ky) hk h
          · cases ht
        · rename_i n e hu
          split at ht
          · rename_i hg
            simp at hg
            refine ⟨hg.1, ?_⟩
            cases hc : ckOf P e with
            | none => rw [hc] at ht; cases ht
            | some k =>
              rw [hc] at ht; injection ht with ht; subst ht
              obtain ⟨i, hi⟩ : ∃ i, P.info? e = some i := by
                have := hg.2
                unfold tsz at this
                cases hi : P.info? e with
                | none => rw [hi] at this; cases this
                | some i => exact ⟨i, rfl⟩
              have hcell : P.cellsOf e = 1 := by
                have := hg.2
                unfold tsz at this
                rw [hi] at this; injection this with this
                simp [Program.cellsOf, hi, this]
              rw [show (10000 : Nat) = 9999 + 1 from rfl, run_equalIn_array (P := P) w 9999 vx.toArray vy.toArray hu hi, hcell, List.range_eq_range']
              exact items_sound 9998 hc hg.2 vx vy n 0 xs ys b (by simpa using kx) (by simpa using ky) hk h
          · cases ht
        · cases ht
      obtain ⟨m1, m2⟩ := main
      cases neg
      · have := run_eqGuard_agg (P := P) w .eql t ox oy vx.toArray vy.toArray m1
        simp [this, run_eql_struct, m2]
      · have := run_eqGuard_agg (P := P) w .neq t ox oy vx.toArray vy.toArray m1
        simp [this, run_neq_struct, m2]

end GP
