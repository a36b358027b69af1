import Derived.Test.YtnipbngimicldaaDoorGpB
/- The compiler from the model's code to the slim code: operations. -/
namespace GP
open Go

def cval1 : Value → Option D
  | .bool b => some (.bool b)
  | .int k n => some (.int k n)
  | .string s => if s.data.toList.length < 2 ^ 62 then some (.str s.data.toList) else none
  | .pointer none => some .nilp
  | .slice none 0 0 => some .nils
  | .map none => some .nilm
  | .nilFunc => some .nilf
  | .nilIface => some .nili
  | _ => none

def cvalL : List Value → Option (List D)
  | [] => some []
  | v :: vs => match cval1 v, cvalL vs with
    | some d, some ds => some (d :: ds)
    | _, _ => none

def cval : Value → Option D
  | .agg cs => (cvalL cs.toList).map .agg
  | v => cval1 v

def cRd : Operand → Option Rd
  | .tmp t => some (.t t)
  | .const v => (cval v).map .k
  | .func f => some (.k (.fn f [] []))
  | .global _ => none

def cRds : List Operand → Option (List Rd)
  | [] => some []
  | x :: xs => match cRd x, cRds xs with
    | some r, some rs => some (r :: rs)
    | _, _ => none

def tsz (P : Program) (t : TypeId) : Option Nat := (P.info? t).map (·.size)
def tag (P : Program) (t : TypeId) : Option Bool := (P.underlying t).map fun d => match d with | .struct _ | .array _ _ => true | _ => false
def tz (P : Program) (t : TypeId) : Option (List D) :=
  match P.info? t with
  | some i => match i.zero with
    | some z => (cval z).map (·.cells)
    | none => none
  | none => none

theorem cval1_rep {v : Value} {d : D} (h : cval1 v = some d) (c : Cx) : Rep c d v ∧ d.one = true := by
  unfold cval1 at h
  split at h
  case h_3 s =>
    split at h
    · rename_i hl
      injection h with h; subst h
      exact ⟨Rep.str _ hl, rfl⟩
    · cases h
  all_goals first
    | (injection h with h; subst h; refine ⟨?_, rfl⟩; constructor)
    | cases h

theorem cvalL_rep : ∀ {vs : List Value} {ds : List D}, cvalL vs = some ds → ∀ c : Cx, Cells c ds vs
  | [], ds, h, c => by simp [cvalL] at h; subst h; exact ⟨rfl, by simp, fun i h _ => absurd h (by simp)⟩
  | v :: vs, ds, h, c => by
    simp only [cvalL] at h
    split at h
    · rename_i d ds' h1 h2
      injection h with h; subst h
      have k := cvalL_rep h2 c
      obtain ⟨r1, r2⟩ := cval1_rep h1 c
      refine ⟨by simp [k.len], ?_, ?_⟩
      · intro x hx
        cases hx with
        | head => exact r2
        | tail _ hx => exact k.one x hx
      · intro i hi hi'
        cases i with
        | zero => exact r1
        | succ i => exact k.rep i (by simpa using hi) (by simpa using hi')
    · cases h

theorem cval_rep {v : Value} {d : D} (h : cval v = some d) (c : Cx) : Rep c d v ∧ d.okc = true := by
  unfold cval at h
  split at h
  · rename_i cs
    cases hl : cvalL cs.toList with
    | none => rw [hl] at h; cases h
    | some ds =>
      rw [hl] at h
      injection h with h; subst h
      have k := cvalL_rep hl c
      exact ⟨Rep.agg ds cs.toList k.len k.one k.rep, rfl⟩
  · obtain ⟨r1, r2⟩ := cval1_rep h c
    refine ⟨r1, ?_⟩
    cases d <;> simp_all [D.one, D.okc]

theorem cRd_rep {x : Operand} {r : Rd} (h : cRd x = some r) {c : Cx} {s : S} {a : Act} (hf : FR c s.t a) : Rep c (s.ev r) (a.eval x) := by
  cases x with
  | tmp t => simp [cRd] at h; subst h; exact hf t
  | const v =>
    simp only [cRd] at h
    cases hc : cval v with
    | none => rw [hc] at h; cases h
    | some d => rw [hc] at h; injection h with h; subst h; exact (cval_rep hc c).1
  | func f => simp [cRd] at h; subst h; exact Rep.fn f [] [] [] [] rfl rfl (fun i h _ => absurd h (by simp)) (fun i h _ => absurd h (by simp))
  | global g => simp [cRd] at h

theorem cRds_rep : ∀ {xs : List Operand} {rs : List Rd}, cRds xs = some rs → ∀ {c : Cx} {s : S} {a : Act}, FR c s.t a → Reps c (rs.map s.ev) (xs.map a.eval)
  | [], rs, h, c, s, a, hf => by simp [cRds] at h; subst h; exact Reps.nil
  | x :: xs, rs, h, c, s, a, hf => by
    simp only [cRds] at h
    split at h
    · rename_i r rs' h1 h2
      injection h with h; subst h
      have k := cRds_rep h2 hf
      refine ⟨by simp [← k.len], fun i hi hi' => ?_⟩
      cases i with
      | zero => exact cRd_rep h1 hf
      | succ i => exact k.rep i (by simpa using hi) (by simpa using hi')
    · cases h

theorem Addr.add_eq (a : Addr) (h : a.spot = none) (i : Nat) : a.add i = ⟨a.block, a.off + i, none⟩ := by
  obtain ⟨b, o, s⟩ := a
  simp only at h
  subst h
  unfold Addr.add
  split
  · rename_i h0; simp [h0]
  · rfl

/-- What is read at an address. -/
theorem read_at {c : Cx} {w : World} {H : Hp} (hi : Inv c w H) {d : D} {v : Value} (hr : Rep c d v) {cs : List D} (h : rdAt H d = some cs) :
    ∃ (a : Addr) (vs : List Value), v = .pointer (some a) ∧ a.spot = none ∧ Cells c cs vs ∧ ∀ (i : Nat) u, vs[i]? = some u → w.cell? (a.add i) = some u := by
  cases hr with
  | el cs' a vs ha h1 hM hr =>
    simp [rdAt] at h; subst h
    refine ⟨a, (List.range cs'.length).map vs, rfl, ha, ⟨by simp, h1, fun i h h' => by simpa using hr i h⟩, ?_⟩
    intro i u hu
    have hlt : i < cs'.length := by
      rcases Nat.lt_or_ge i cs'.length with h' | h'
      · exact h'
      · rw [List.getElem?_eq_none (by simpa using h')] at hu; cases hu
    rw [List.getElem?_map, List.getElem?_range hlt] at hu
    injection hu with hu; subst hu
    rw [Addr.add_eq a ha]
    exact hi.keep _ _ (hM i hlt)
  | ptr o off ho =>
    simp only [rdAt] at h
    split at h
    · rename_i cs' hH
      injection h with h; subst h
      obtain ⟨vs, rest, e, fr, h1, h2, h4, h3⟩ := (hi.row o _ cs' hH rfl).hold
      refine ⟨⟨c.β o, off, none⟩, vs.drop off, rfl, rfl, ⟨by simp [h2.len], fun d hd => h2.one d (List.mem_of_mem_drop hd), fun i h h' => by simpa using h2.rep (off + i) (by simp at h; omega) (by simp at h'; omega)⟩, ?_⟩
      intro i u hu
      rw [Addr.add_eq _ rfl]
      simp only [World.cell?, h1]
      rw [List.getElem?_drop] at hu
      have hlt : off + i < vs.length := by
        rcases Nat.lt_or_ge (off + i) vs.length with h' | h'
        · exact h'
        · rw [List.getElem?_eq_none h'] at hu; cases hu
      simp only [List.getElem?_toArray]
      rw [List.getElem?_append_left hlt]; exact hu
    · cases h
  | _ => simp [rdAt] at h

variable {P : Program}

theorem run_info {t : TypeId} {i : TypeInfo} (h : P.info? t = some i) (w : World) : (typeInfo t).run P w = .ok i w := by simp [typeInfo, h]
theorem run_size {t : TypeId} {n : Nat} (h : tsz P t = some n) (w : World) : (Go.sizeOf t).run P w = .ok n w := by
  unfold tsz at h
  cases hi : P.info? t with
  | none => rw [hi] at h; cases h
  | some i => rw [hi] at h; injection h with h; simp [Go.sizeOf, run_info hi, h]
theorem run_isAgg {t : TypeId} {b : Bool} (h : tag P t = some b) (w : World) : (isAgg t).run P w = .ok b w := by
  unfold tag at h
  cases hu : P.underlying t with
  | none => rw [hu] at h; cases h
  | some d =>
    rw [hu] at h; injection h with h
    subst h
    cases d <;> simp [isAgg, run_underlying hu]
theorem run_zero {t : TypeId} {z : List D} (h : tz P t = some z) (c : Cx) : ∃ v : Value, (∀ w, (zeroValue t).run P w = .ok v w) ∧ Cells c z v.cells.toList := by
  unfold tz at h
  split at h
  · rename_i i hi
    split at h
    · rename_i v hz
      cases hc : cval v with
      | none => rw [hc] at h; cases h
      | some d =>
        rw [hc] at h; injection h with h; subst h
        obtain ⟨r1, r2⟩ := cval_rep hc c
        exact ⟨v, fun w => by simp [zeroValue, run_info hi, hz], r1.cells r2⟩
    · cases h
  · cases h

theorem Cells.take {c : Cx} {ds : List D} {vs : List Value} (k : Cells c ds vs) (n : Nat) : Cells c (ds.take n) (vs.take n) :=
  ⟨by simp [k.len], fun d hd => k.one d (List.mem_of_mem_take hd), fun i h h' => by simpa using k.rep i (by simp at h; omega) (by simp at h'; omega)⟩
theorem Cells.drop {c : Cx} {ds : List D} {vs : List Value} (k : Cells c ds vs) (n : Nat) : Cells c (ds.drop n) (vs.drop n) :=
  ⟨by simp [k.len], fun d hd => k.one d (List.mem_of_mem_drop hd), fun i h h' => by simpa using k.rep (n + i) (by simp at h; omega) (by simp at h'; omega)⟩
theorem Cells.append {c : Cx} {d1 d2 : List D} {v1 v2 : List Value} (h1 : Cells c d1 v1) (h2 : Cells c d2 v2) : Cells c (d1 ++ d2) (v1 ++ v2) := by
  have := Reps.append ⟨h1.len, h1.rep⟩ ⟨h2.len, h2.rep⟩
  refine ⟨this.len, fun d hd => ?_, this.rep⟩
  rcases List.mem_append.1 hd with h | h
  · exact h1.one d h
  · exact h2.one d h

theorem load_sound {c : Cx} {w : World} {H : Hp} (hi : Inv c w H) {d r : D} {v : Value} (hr : Rep c d v) {t : TypeId} {ag : Bool} {n : Nat} (h1 : tag P t = some ag) (h2 : tsz P t = some n)
    (h : ld ag n (rdAt H d) = some r) : ∃ u, (Instr.loadAt t v).run P w = .ok u w ∧ Rep c r u := by
  cases hrd : rdAt H d with
  | none => rw [hrd] at h; cases h
  | some cs =>
    rw [hrd] at h
    obtain ⟨a, vs, rfl, ha, k, hcell⟩ := read_at hi hr hrd
    cases ag with
    | true =>
      simp only [ld, if_true] at h
      split at h
      · rename_i hn
        injection h with h; subst h
        refine ⟨.agg (vs.take n).toArray, ?_, ?_⟩
        · have hl : (vs.take n).length = n := by rw [List.length_take, k.len]; omega
          have := run_loadCells_list (P := P) w a (vs.take n) (fun j u hu => hcell j u (by
            rcases Nat.lt_or_ge j n with h' | h'
            · rwa [List.getElem?_take_of_lt h'] at hu
            · rw [List.getElem?_eq_none (by omega)] at hu; cases hu))
          rw [hl] at this
          simp [Instr.loadAt, Instr.sureAddr, loadVar, run_isAgg h1, run_size h2, this]
        · have k' := k.take n
          exact Rep.agg _ _ k'.len k'.one k'.rep
      · cases h
    | false =>
      simp only [ld, Bool.false_eq_true, if_false] at h
      cases cs with
      | nil => cases h
      | cons x cs =>
        injection h with h; subst h
        cases vs with
        | nil => have := k.len; simp at this
        | cons u us =>
          refine ⟨u, ?_, k.rep 0 (by simp) (by simp)⟩
          have := hcell 0 u rfl
          simp [Addr.add] at this
          simp [Instr.loadAt, Instr.sureAddr, loadVar, run_isAgg h1, this]

end GP
