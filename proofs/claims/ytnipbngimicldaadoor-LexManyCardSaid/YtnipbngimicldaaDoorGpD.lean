import Derived.Test.YtnipbngimicldaaDoorGpC
import Derived.Laws.BytesString
/- Soundness of the quiet operations that make no memory. -/
namespace GP
open Go
variable {P : Program} {c : Cx} {w : World} {H : Hp}

theorem fa_sound {off : Nat} {d r : D} {v : Value} (hr : Rep c d v) (h : fa off d = some r) : ∃ a : Addr, v = .pointer (some a) ∧ a.spot = none ∧ Rep c r (.pointer (some ⟨a.block, a.off + off, none⟩)) := by
  cases hr with
  | el cs a vs ha h1 hM hr =>
    simp [fa] at h; subst h
    refine ⟨a, rfl, ha, Rep.el (cs.drop off) _ (fun i => vs (off + i)) rfl (fun d hd => h1 d (List.mem_of_mem_drop hd)) (fun i hi => ?_) (fun i hi => ?_)⟩
    · have := hM (off + i) (by simp at hi; omega)
      simpa [Nat.add_assoc] using this
    · simpa using hr (off + i) (by simp at hi; omega)
  | ptr o f ho => simp [fa] at h; subst h; exact ⟨_, rfl, rfl, Rep.ptr o (f + off) ho⟩
  | _ => simp [fa] at h

def structOf (P : Program) (t : TypeId) : Option (Array Field) := match P.underlying t with | some (.struct fs) => some fs | _ => none
def sliceOf (P : Program) (t : TypeId) : Option TypeId := match P.underlying t with | some (.slice e) => some e | _ => none
def arrayOf (P : Program) (t : TypeId) : Option (Nat × TypeId) := match P.underlying t with | some (.array n e) => some (n, e) | _ => none
theorem structOf_eq {t : TypeId} {fs : Array Field} (h : structOf P t = some fs) : P.underlying t = some (.struct fs) := by unfold structOf at h; split at h <;> simp_all
theorem sliceOf_eq {t e : TypeId} (h : sliceOf P t = some e) : P.underlying t = some (.slice e) := by unfold sliceOf at h; split at h <;> simp_all
theorem arrayOf_eq {t e : TypeId} {n : Nat} (h : arrayOf P t = some (n, e)) : P.underlying t = some (.array n e) := by unfold arrayOf at h; split at h <;> simp_all

theorem faddr_sound {t : TypeId} {fs : Array Field} {k : Nat} {f : Field} {n : Nat} (ht : structOf P t = some fs) (hf : fs[k]? = some f) (hn : tsz P f.type = some n) (h0 : n ≠ 0)
    {d r : D} {v : Value} (hr : Rep c d v) (h : fa f.offset d = some r) : ∃ u, (Instr.fieldAt t v k).run P w = .ok u w ∧ Rep c r u := by
  obtain ⟨a, rfl, ha, hrep⟩ := fa_sound hr h
  refine ⟨_, ?_, hrep⟩
  simp [Instr.fieldAt, run_underlying (structOf_eq ht), hf, Instr.sureAddr, fieldPlace, run_size hn, h0, Addr.add_eq a ha]

theorem sub_drop_take {α : Type} (l : List α) (lo hi : Nat) : subList l lo hi = (l.drop lo).take (hi - lo) := by
  unfold subList; rw [List.drop_take]

theorem Cells.sub {ds : List D} {vs : List Value} (k : Cells c ds vs) (lo hi : Nat) : Cells c (subList ds lo hi) (subList vs lo hi) := by
  unfold subList; exact (k.take hi).drop lo

theorem part_sound {t : TypeId} {ag : Bool} {n off : Nat} (h1 : tag P t = some ag) (h2 : tsz P t = some n) {ds : List D} {vs : List Value} (k : Cells c ds vs) {r : D} (h : partD ag off n ds = some r) :
    ∃ u, (part t vs.toArray off).run P w = .ok u w ∧ Rep c r u := by
  cases ag with
  | true =>
    simp only [partD, if_true] at h
    split at h
    · rename_i hle
      injection h with h; subst h
      have k' := k.sub off (off + n)
      refine ⟨.agg (subList vs off (off + n)).toArray, ?_, Rep.agg _ _ k'.len k'.one k'.rep⟩
      simp [part, run_isAgg h1, run_size h2, subList, List.extract_toArray, List.extract_eq_take_drop, List.drop_take]
    · cases h
  | false =>
    simp only [partD, Bool.false_eq_true, if_false] at h
    have hlt : off < ds.length := by
      rcases Nat.lt_or_ge off ds.length with h' | h'
      · exact h'
      · rw [List.getElem?_eq_none h'] at h; cases h
    rw [List.getElem?_eq_getElem hlt] at h
    injection h with h; subst h
    have hlt' : off < vs.length := by rw [k.len]; exact hlt
    refine ⟨vs[off], ?_, k.rep off hlt hlt'⟩
    simp [part, run_isAgg h1, hlt']

theorem field_sound {t : TypeId} {fs : Array Field} {k : Nat} {f : Field} {ag : Bool} {n : Nat} (ht : structOf P t = some fs) (hf : fs[k]? = some f) (h1 : tag P f.type = some ag) (h2 : tsz P f.type = some n)
    {d r : D} {v : Value} (hr : Rep c d v) (h : fld ag f.offset n d = some r) : ∃ u, (Instr.field t v k).run P w = .ok u w ∧ Rep c r u := by
  cases hr with
  | agg cs vs hl h1' hr =>
    simp only [fld] at h
    obtain ⟨u, e1, e2⟩ := part_sound (w := w) h1 h2 ⟨hl, h1', hr⟩ h
    exact ⟨u, by simp [Instr.field, run_underlying (structOf_eq ht), hf, asAgg, e1], e2⟩
  | _ => simp [fld] at h

theorem iaddr_ms {t e : TypeId} {sz : Nat} (ht : sliceOf P t = some e) (hn : tsz P e = some sz) {ag : Bool} {z o off len cap : Nat} {n : Int} {k : IntKind} {vx : Value} (hx : Rep c (.ms ag z o off len cap) vx) (h0 : 0 ≤ n) (hlt : n < len) (hz : z = sz) :
    ∃ u, (Instr.indexAt t vx (.int k n)).run P w = .ok u w ∧ Rep c (.ptr o (off + n.toNat * sz)) u := by
  cases hx with
  | ms _ _ _ _ _ _ rc hbd h1 h2 h3 =>
    refine ⟨.pointer (some ⟨c.β o, off + n.toNat * sz, none⟩), ?_, Rep.ptr o _ hbd⟩
    have hadd : Addr.add ⟨c.β o, off, none⟩ (n.toNat * sz) = ⟨c.β o, off + n.toNat * sz, none⟩ := Addr.add_eq _ rfl _
    simp [Instr.indexAt, asIntOf, run_underlying (sliceOf_eq ht), h0, hlt, run_size hn, hadd]

theorem iaddr_sound {t e : TypeId} {sz : Nat} (ht : sliceOf P t = some e) (hn : tsz P e = some sz) {x i r : D} {vx vi : Value} (hx : Rep c x vx) (hi : Rep c i vi) (h : ia sz x i = some r) :
    ∃ u, (Instr.indexAt t vx vi).run P w = .ok u w ∧ Rep c r u := by
  cases hx with
  | sl τ xs a cap sz' vs hlen hb hsz h1 ha hs hM hr htl ht' =>
    cases hi with
    | int k n =>
      simp only [ia] at h
      split at h
      · rename_i h0
        cases hg : xs[n.toNat]? with
        | none => rw [hg] at h; cases h
        | some d =>
          rw [hg] at h
          simp only [iaE] at h
          split at h
          · rename_i hd
            injection h with h; subst h
            have hlt : n.toNat < xs.length := by
              rcases Nat.lt_or_ge n.toNat xs.length with h' | h'
              · exact h'
              · rw [List.getElem?_eq_none h'] at hg; cases hg
            rw [List.getElem?_eq_getElem hlt] at hg
            injection hg with hg; subst hg
            obtain ⟨b, rfl⟩ := ha (by intro h'; subst h'; simp at hlt)
            have hbs := hs (by intro h'; subst h'; simp at hlt) b rfl
            have hszs : sz' = sz := by rw [← hd, hsz _ (List.getElem_mem hlt)]
            subst hszs
            have hnn : n < (xs.length : Int) := by omega
            refine ⟨.pointer (some (b.add (n.toNat * sz'))), ?_, ?_⟩
            · simp [Instr.indexAt, asIntOf, run_underlying (sliceOf_eq ht), h0, hnn, run_size hn]
            · rw [Addr.add_eq b hbs]
              refine Rep.el _ _ (fun j => vs n.toNat j) rfl (h1 _ (List.getElem_mem hlt)) (fun j hj => ?_) (fun j hj => hr n.toNat hlt j hj)
              exact hM n.toNat hlt j (by rw [hd] at hj; exact hj) b rfl
          · cases h
      · cases h
    | _ => simp [ia] at h
  | ms ag z o off len cap rc hbd h1 h2 h3 =>
    cases hi with
    | int k n =>
      simp only [ia] at h
      split at h
      · rename_i h0
        injection h with h; subst h
        exact iaddr_ms ht hn (Rep.ms ag z o off len cap rc hbd h1 h2 h3) h0.1 h0.2.1 h0.2.2
      · cases h
    | _ => simp [ia] at h
  | _ => simp [ia] at h

theorem iarr_sound {t e : TypeId} {sz len : Nat} (ht : arrayOf P t = some (len, e)) (hn : tsz P e = some sz) {x i r : D} {vx vi : Value} (hx : Rep c x vx) (hi : Rep c i vi) (h : iarrD sz len x i = some r) :
    ∃ u, (Instr.indexAt t vx vi).run P w = .ok u w ∧ Rep c r u := by
  cases hi with
  | int k n =>
    simp only [iarrD] at h
    split at h
    · rename_i h0
      obtain ⟨a, rfl, ha, hrep⟩ := fa_sound hx h
      refine ⟨.pointer (some (a.add (n.toNat * sz))), ?_, by rw [Addr.add_eq a ha]; exact hrep⟩
      simp [Instr.indexAt, asIntOf, run_underlying (arrayOf_eq ht), h0.1, h0.2, run_size hn, Instr.sureAddr]
    · cases h
  | _ => simp [iarrD] at h

theorem idxa_sound {t e : TypeId} {sz len : Nat} {ag : Bool} (ht : arrayOf P t = some (len, e)) (hn : tsz P e = some sz) (hg : tag P e = some ag) {x i r : D} {vx vi : Value} (hx : Rep c x vx) (hi : Rep c i vi) (h : ixa ag sz len x i = some r) :
    ∃ u, (Instr.index t vx vi).run P w = .ok u w ∧ Rep c r u := by
  cases hx with
  | agg cs vs hl h1 hr =>
    cases hi with
    | int k n =>
      simp only [ixa] at h
      split at h
      · rename_i h0
        obtain ⟨u, e1, e2⟩ := part_sound (w := w) hg hn ⟨hl, h1, hr⟩ h
        exact ⟨u, by simp [Instr.index, asIntOf, run_underlying (arrayOf_eq ht), h0.1, h0.2, run_size hn, e1], e2⟩
      · cases h
    | _ => simp [ixa] at h
  | _ => simp [ixa] at h

theorem idxs_sound {t : TypeId} (ht : P.underlying t = some .string) {x i r : D} {vx vi : Value} (hx : Rep c x vx) (hi : Rep c i vi) (h : ixs x i = some r) :
    ∃ u, (Instr.index t vx vi).run P w = .ok u w ∧ Rep c r u := by
  cases hx with
  | str l hl =>
    cases hi with
    | int k n =>
      simp only [ixs] at h
      split at h
      · rename_i h0
        cases hg : l[n.toNat]? with
        | none => rw [hg] at h; cases h
        | some b =>
          rw [hg] at h; injection h with h; subst h
          refine ⟨.int .u8 b.toNat, ?_, Rep.int _ _⟩
          have hlt : n.toNat < l.length := by
            rcases Nat.lt_or_ge n.toNat l.length with h' | h'
            · exact h'
            · rw [List.getElem?_eq_none h'] at hg; cases hg
          have hgb : (⟨l.toArray⟩ : ByteArray)[n.toNat]? = some b := by
            rw [List.getElem?_eq_getElem hlt] at hg
            injection hg with hg
            have hs : n.toNat < (⟨l.toArray⟩ : ByteArray).size := by simpa [ByteArray.size] using hlt
            rw [getElem?_pos (⟨l.toArray⟩ : ByteArray) n.toNat hs]
            congr 1
          simp [Instr.index, asIntOf, run_underlying ht, h0, hgb]
      · cases h
    | _ => simp [ixs] at h
  | _ => simp [ixs] at h

theorem ext_sound {k : Nat} {x r : D} {v : Value} (hx : Rep c x v) (h : extD k x = some r) : ∃ u, (Instr.extract v k).run P w = .ok u w ∧ Rep c r u := by
  cases hx with
  | tup cs vs hl hr =>
    simp only [extD] at h
    have hlt : k < cs.length := by
      rcases Nat.lt_or_ge k cs.length with h' | h'
      · exact h'
      · rw [List.getElem?_eq_none h'] at h; cases h
    rw [List.getElem?_eq_getElem hlt] at h
    injection h with h; subst h
    have hlt' : k < vs.length := by rw [hl]; exact hlt
    exact ⟨vs[k], by simp [Instr.extract, hlt'], hr k hlt hlt'⟩
  | _ => simp [extD] at h

theorem toList_mk (l : List UInt8) : (⟨l.toArray⟩ : ByteArray).toList = l := by rw [ByteArray.toList_eq]
theorem size_mk (l : List UInt8) : (⟨l.toArray⟩ : ByteArray).size = l.length := by simp [ByteArray.size]
theorem append_mk (a b : List UInt8) : (⟨a.toArray⟩ : ByteArray) ++ ⟨b.toArray⟩ = ⟨(a ++ b).toArray⟩ := by
  apply ByteArray.ext
  simp [ByteArray.data_append]
theorem extract_mk (l : List UInt8) (lo hi : Nat) : (⟨l.toArray⟩ : ByteArray).extract lo hi = ⟨(subList l lo hi).toArray⟩ := by
  apply ByteArray.ext
  simp [ByteArray.data_extract, subList, List.extract_toArray, List.extract_eq_take_drop, List.drop_take]

theorem bin_sound {op : BinOp} {t : TypeId} {ox oy : Operand} {x y r : D} {vx vy : Value} (hx : Rep c x vx) (hy : Rep c y vy) (h : bin2 op x y = some r) :
    ∃ u, (do eqGuard op t ox oy vx vy; Go.binOp op t vx vy : Sem Value).run P w = .ok u w ∧ Rep c r u := by
  cases hx with
  | int k a =>
    cases hy with
    | int k' b =>
      have hg : (eqGuard op t ox oy (.int k a) (.int k' b)).run P w = .ok () w := by
        unfold eqGuard; cases op <;> simp
      simp only [bin2] at h
      by_cases hs : isShift op = true
      · rw [if_pos hs] at h
        unfold shOp at h
        split at h
        · cases h
        · rename_i hb
          cases op <;> simp [isShift] at hs <;> simp only [Option.some.injEq] at h <;> subst h <;>
            exact ⟨_, by simp [hg, Go.binOp, Op.shift, hb]; try rfl, Rep.int _ _⟩
      · rw [if_neg hs] at h
        split at h
        · rename_i hk
          subst hk
          cases op <;> simp [isShift] at hs <;> simp only [intOp] at h
          case quo =>
            split at h
            · cases h
            · rename_i hb
              simp only [Option.some.injEq] at h; subst h
              exact ⟨_, by simp only [Sem.run_bind, hg, Result.andThen_ok, Go.binOp, ne_eq, not_true_eq_false, if_false, Op.intDiv, if_neg hb]; rfl, Rep.int _ _⟩
          case rem =>
            split at h
            · cases h
            · rename_i hb
              simp only [Option.some.injEq] at h; subst h
              exact ⟨_, by simp only [Sem.run_bind, hg, Result.andThen_ok, Go.binOp, ne_eq, not_true_eq_false, if_false, Op.intDiv, if_neg hb]; rfl, Rep.int _ _⟩
          all_goals first
            | (simp only [Option.some.injEq] at h; subst h
               exact ⟨_, by simp only [Sem.run_bind, hg, Result.andThen_ok, Go.binOp, ne_eq, not_true_eq_false, if_false, Op.intArith, Op.intBits, Op.intCmp]; rfl, by constructor⟩)
            | cases h
        · cases h
    | _ => simp [bin2] at h
  | str a ha =>
    cases hy with
    | str b hb =>
      have hg : (eqGuard op t ox oy (.string ⟨a.toArray⟩) (.string ⟨b.toArray⟩)).run P w = .ok () w := by
        unfold eqGuard; cases op <;> simp
      simp only [bin2] at h
      cases op <;> simp only [strOp] at h
      case add =>
        split at h
        · rename_i hl
          simp only [Option.some.injEq] at h; subst h
          refine ⟨.string ⟨(a ++ b).toArray⟩, ?_, Rep.str _ (by simpa using hl)⟩
          have : ¬ ((((⟨a.toArray⟩ : ByteArray).size + (⟨b.toArray⟩ : ByteArray).size : Nat) : Int) > IntKind.i64.max) := by
            rw [size_mk, size_mk]
            have e : IntKind.i64.max = 9223372036854775807 := rfl
            rw [e]; omega
          simp only [Sem.run_bind, hg, Result.andThen_ok, Go.binOp, Op.stringOp]
          rw [if_neg this, append_mk]; rfl
        · cases h
      all_goals first
        | (simp only [Option.some.injEq] at h; subst h
           exact ⟨_, by simp only [Sem.run_bind, hg, Result.andThen_ok, Go.binOp, Op.stringOp, toList_mk]; rfl, by constructor⟩)
        | cases h
    | _ => simp [bin2] at h
  | _ => simp [bin2] at h

theorem un_sound {op : UnOp} {x r : D} {v : Value} (hx : Rep c x v) (h : un1 op x = some r) : ∃ u, (Op.unary op v).run P w = .ok u w ∧ Rep c r u := by
  cases hx with
  | bool b => cases op <;> simp [un1] at h; subst h; exact ⟨_, rfl, Rep.bool _⟩
  | int k n =>
    cases op <;> simp only [un1, Option.some.injEq, reduceCtorEq] at h
    · subst h; exact ⟨_, by simp only [Op.unary, Op.intArith, Int.zero_sub]; rfl, Rep.int _ _⟩
    · simp only [intOp, Option.some.injEq] at h; subst h; exact ⟨_, by simp only [Op.unary, Op.intBits]; rfl, Rep.int _ _⟩
  | _ => simp [un1] at h

theorem conv_sound {src dst : TypeId} {k : IntKind} (hs : (P.underlying src).isSome = true) (hd : P.underlying dst = some (.int k)) {n : Int} {k' : IntKind} :
    (Go.convert src dst (.int k' n)).run P w = .ok (.int k (k.wrap n)) w := by
  obtain ⟨d, hd'⟩ := Option.isSome_iff_exists.mp hs
  simp [Go.convert, run_underlying hd', run_underlying hd, Conv.intToInt]

end GP
