import Derived.Test.YtnipbngimicldaaDoorGpF
/- Aggregates built of parts; bytes to strings. -/
namespace GP
open Go
variable {P : Program} {c : Cx} {w : World} {H : Hp}

theorem setAll (off : Nat) : ∀ (vs : List Value) (k : Nat) (cs : Array Value), off + k + vs.length ≤ cs.size →
    ((vs.zipIdx k).foldl (fun cs (p : Value × Nat) => cs.setIfInBounds (off + p.2) p.1) cs).toList = cs.toList.take (off + k) ++ vs ++ cs.toList.drop (off + k + vs.length)
  | [], k, cs, h => by simp
  | v :: vs, k, cs, h => by
    simp only [List.zipIdx_cons, List.foldl_cons]
    have h' : off + (k + 1) + vs.length ≤ (cs.setIfInBounds (off + k) v).size := by simp at h ⊢; omega
    rw [setAll off vs (k + 1) _ h']
    simp only [Array.toList_setIfInBounds, List.length_cons] at h ⊢
    have hl : off + k < cs.toList.length := by simp; omega
    rw [show off + (k + 1) = (off + k) + 1 by omega, List.take_succ_eq_append_getElem (by simp; omega), List.take_set_of_le (by omega)]
    rw [List.drop_set_of_lt (by omega)]
    simp only [List.getElem_set_self, List.append_assoc, List.cons_append, List.nil_append]
    congr 4
    omega

theorem fill_one (off : Nat) (vs : Array Value) (cs : Array Value) (h : off + vs.size ≤ cs.size) :
    (vs.zipIdx.foldl (fun cs (p : Value × Nat) => cs.setIfInBounds (off + p.2) p.1) cs).toList = cs.toList.take off ++ vs.toList ++ cs.toList.drop (off + vs.size) := by
  rw [← Array.foldl_toList, Array.toList_zipIdx]
  have := setAll off vs.toList 0 cs (by simpa using h)
  simpa using this

/-- Parts: (offset, size, abstract value), as values. -/
inductive PartsRep (c : Cx) (place : Nat → Option (Nat × Nat)) : List (Nat × Nat × D) → List (Nat × Value) → Prop where
  | nil : PartsRep c place [] []
  | cons {off sz i : Nat} {d : D} {v : Value} {l m} (hp : place i = some (off, sz)) (hr : Rep c d v) (hk : d.okc = true) (h : PartsRep c place l m) : PartsRep c place ((off, sz, d) :: l) ((i, v) :: m)

theorem fill_sound {place : Nat → Option (Nat × Nat)} {l : List (Nat × Nat × D)} {m : List (Nat × Value)} (h : PartsRep c place l m) :
    ∀ {z : List D} {cs : Array Value} {r : List D}, Cells c z cs.toList → (l.all fun p => p.2.2.cells.length == p.2.1) = true → fillD z (l.map fun p => (p.1, p.2.2.cells)) = some r →
    ∃ cs', Instr.fill place cs m = some cs' ∧ Cells c r cs'.toList := by
  induction h with
  | nil => intro z cs r hz _ h; simp [fillD] at h; subst h; exact ⟨cs, rfl, hz⟩
  | @cons off sz i d v l m hp hr hk _ ih =>
    intro z cs r hz ha h
    simp only [List.all_cons, Bool.and_eq_true, beq_iff_eq] at ha
    simp only [List.map_cons, fillD] at h
    split at h
    · rename_i hle
      have kc := hr.cells hk
      have hvs : v.cells.size = sz := by have := kc.len; simp at this; rw [this]; exact ha.1
      have hcs : cs.size = z.length := by have := hz.len; simpa using this
      have hsz : off + v.cells.size ≤ cs.size := by rw [hvs, hcs, ← ha.1]; exact hle
      have e := fill_one off v.cells cs hsz
      have hz' : Cells c (z.take off ++ d.cells ++ z.drop (off + d.cells.length)) (v.cells.zipIdx.foldl (fun cs (p : Value × Nat) => cs.setIfInBounds (off + p.2) p.1) cs).toList := by
        rw [e]
        have hl : v.cells.size = d.cells.length := by rw [hvs, ha.1]
        rw [hl]
        exact ((hz.take off).append kc).append (hz.drop _)
      obtain ⟨cs', e1, e2⟩ := ih hz' ha.2 h
      refine ⟨cs', ?_, e2⟩
      simp only [Instr.fill, hp]
      rw [if_neg (by simp [hvs]; rw [← hvs]; exact hsz)]
      exact e1
    · cases h

theorem unbyte_ok {d : D} {v : Value} (hr : Rep c d v) (h : isByte d = true) : ∃ n : Int, v = .int .u8 n ∧ unbyte d = UInt8.ofNat n.toNat := by
  cases hr <;> simp [isByte] at h
  rename_i k n
  cases k <;> simp at h
  exact ⟨n, rfl, rfl⟩

theorem foldl_push (ns : List Int) : ∀ b : ByteArray, (ns.foldl (fun r n => r.push (UInt8.ofNat n.toNat)) b).data.toList = b.data.toList ++ ns.map (fun n => UInt8.ofNat n.toNat) := by
  induction ns with
  | nil => intro b; simp
  | cons n ns ih => intro b; simp only [List.foldl_cons, ih]; simp [ByteArray.push]

theorem b2s_sound {src dst e : TypeId} (hs : P.underlying src = some (.slice e)) (he : P.underlying e = some (.int .u8)) (hd : P.underlying dst = some .string) (hi : Inv c w H) {x r : D} {v : Value} (hx : Rep c x v)
    (h : b2sD x = some r) : ∃ u, (Go.convert src dst v).run P w = .ok u w ∧ Rep c r u := by
  cases hx with
  | nils =>
    simp [b2sD] at h; subst h
    refine ⟨.string ⟨#[]⟩, ?_, Rep.str [] (by decide)⟩
    simp [Go.convert, run_underlying hs, run_underlying he, run_underlying hd, Conv.bytesToString]; rfl
  | e0 a =>
    simp [b2sD] at h; subst h
    refine ⟨.string ⟨#[]⟩, ?_, Rep.str [] (by decide)⟩
    cases a with
    | none => simp [Go.convert, run_underlying hs, run_underlying he, run_underlying hd, Conv.bytesToString]; rfl
    | some b =>
      have hb := run_bytesToString (P := P) w b 0 0 [] (by simp [loadCells, loadCellsFrom])
      simp only [List.foldl_nil] at hb
      simp [Go.convert, run_underlying hs, run_underlying he, run_underlying hd, hb]; rfl
  | sl t xs a cap sz vs hlen hb hsz h1 ha hsp hM hr htl ht' =>
    simp only [b2sD] at h
    split at h
    · rename_i hall
      injection h with h; subst h
      cases hxs : xs with
      | nil =>
        subst hxs
        refine ⟨.string ⟨#[]⟩, ?_, Rep.str [] (by decide)⟩
        cases a with
        | none => simp [Go.convert, run_underlying hs, run_underlying he, run_underlying hd, Conv.bytesToString]; rfl
        | some b =>
          have hb := run_bytesToString (P := P) w b 0 cap [] (by simp [loadCells, loadCellsFrom])
          simp only [List.foldl_nil] at hb
          simp [Go.convert, run_underlying hs, run_underlying he, run_underlying hd, hb]; rfl
      | cons x0 xs0 =>
        rw [← hxs]
        obtain ⟨b, rfl⟩ := ha (by rw [hxs]; simp)
        have hb' := hsp (by rw [hxs]; simp) b rfl
        have hcell : ∀ x ∈ xs, x.cells = [x] := by
          intro x hx
          have := List.all_eq_true.1 hall x hx
          cases x <;> simp [isByte] at this <;> rfl
        have hsz1 : sz = 1 := by
          have hm : x0 ∈ xs := by rw [hxs]; simp
          rw [← hsz x0 hm, hcell x0 hm]; rfl
        subst hsz1
        have hrx : ∀ i (hi : i < xs.length), Rep c xs[i] (vs i 0) := by
          intro i hi
          have hc := hcell _ (List.getElem_mem hi)
          have hlt : 0 < (xs[i].cells).length := by rw [hc]; simp
          have := hr i hi 0 hlt
          simpa [hc] using this
        let ns : List Int := (List.range xs.length).map fun i => match vs i 0 with | .int _ n => n | _ => 0
        have hns : ∀ i (hi : i < xs.length), vs i 0 = .int .u8 (ns.getD i 0) ∧ unbyte xs[i] = UInt8.ofNat (ns.getD i 0).toNat := by
          intro i hi
          obtain ⟨n, e1, e2⟩ := unbyte_ok (hrx i hi) (List.all_eq_true.1 hall _ (List.getElem_mem hi))
          have : ns.getD i 0 = n := by simp [ns, hi, e1]
          rw [this]; exact ⟨e1, e2⟩
        have hload : (loadCells b xs.length).run P w = .ok (ns.map (Value.int .u8)).toArray w := by
          have hl : (ns.map (Value.int .u8)).length = xs.length := by simp [ns]
          have := run_loadCells_list (P := P) w b (ns.map (Value.int .u8)) (fun j u hu => ?_)
          · rw [hl] at this; exact this
          · have hj : j < xs.length := by
              rcases Nat.lt_or_ge j xs.length with h' | h'
              · exact h'
              · rw [List.getElem?_eq_none (by rw [hl]; exact h')] at hu; cases hu
            rw [Addr.add_eq b hb']
            have := hi.keep _ _ (hM j hj 0 (by omega) b rfl)
            simp only [Nat.mul_one, Nat.add_zero] at this
            rw [this, (hns j hj).1]
            rw [List.getElem?_map] at hu
            have hjn : j < ns.length := by simp [ns, hj]
            rw [List.getElem?_eq_getElem hjn] at hu
            simp only [Option.map_some, Option.some.injEq] at hu
            rw [← hu]
            simp [List.getD, List.getElem?_eq_getElem hjn]
        have hrun := run_bytesToString (P := P) w b xs.length cap ns hload
        refine ⟨.string (ns.foldl (fun r n => r.push (UInt8.ofNat n.toNat)) ByteArray.empty), ?_, ?_⟩
        · simp [Go.convert, run_underlying hs, run_underlying he, run_underlying hd, hrun]
        · have e := foldl_push ns ByteArray.empty
          have e2 : (ns.foldl (fun r n => r.push (UInt8.ofNat n.toNat)) ByteArray.empty) = ⟨(xs.map unbyte).toArray⟩ := by
            apply ByteArray.ext
            apply Array.toList_inj.1
            rw [e]
            simp only [ByteArray.data_empty, Array.toList_empty, List.nil_append]
            apply List.ext_getElem
            · simp [ns]
            · intro i h1 h2
              simp only [List.getElem_map]
              have hi : i < xs.length := by simp [ns] at h1; exact h1
              have := (hns i hi).2
              have hin : i < ns.length := by simpa using h1
              simp only [List.getD, List.getElem?_eq_getElem hin, Option.getD_some] at this
              simp [this]
          rw [e2]
          exact Rep.str _ (by simpa using hb)
    · cases h
  | _ => simp [b2sD] at h

end GP
