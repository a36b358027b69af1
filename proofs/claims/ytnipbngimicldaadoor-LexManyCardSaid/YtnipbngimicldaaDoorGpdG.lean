import Derived.Test.YtnipbngimicldaaDoorGpYe
import Derived.Test.YtnipbngimicldaaDoorGpYu
import Derived.Test.YtnipbngimicldaaDoorGpdc0
import Derived.Test.YtnipbngimicldaaDoorGpdc0
import Derived.Test.YtnipbngimicldaaDoorGpdc0
import Derived.Lib.ItoaNum
import Derived.Lib.LaidTab
/- What this program's calls know of its package variables: the table of powers of ten, and that an error stands in one. -/
namespace GP
open Go Go.Proofs

theorem gPow : Tryd.prog.globalNamed "internal/strconv.uint64pow10" = some 0 := by kernel_rfl
def Vars (c : Cx) (w : World) : Prop := 4 ≤ c.B ∧ Lib.TabIs Tryd.prog w "internal/strconv.uint64pow10" .u64 Lib.pow10Tab ∧ ∃ te pe, w.cell? ⟨3, 0, none⟩ = some (.iface te pe)
theorem Vars.mono {c c' : Cx} {w w' : World} (hle : c.le c') (hb : Below c.B w w') (h : Vars c w) : Vars c' w' := by
  obtain ⟨h1, h2, te, pe, h3⟩ := h
  refine ⟨by rw [hle.B]; exact h1, ?_, te, pe, ?_⟩
  · unfold Lib.TabIs World.var? at h2 ⊢
    rw [gPow] at h2 ⊢
    simp only [Option.bind_some] at h2 ⊢
    rw [hb.block 0 (by omega)]; exact h2
  · unfold World.cell? at h3 ⊢
    rw [hb.block 3 (by omega)]; exact h3
instance hasG : HasG Tryd.prog := ⟨Vars, Vars.mono⟩

/-- What a memory that grows keeps. -/
theorem Inv.grown {c : Cx} {w w' : World} {H : Hp} (k : Inv c w H) (hb : Below w.heap.size w w') : Inv c w' H := by
  have lt : ∀ {a : Addr} {v : Value}, w.cell? a = some v → w'.cell? a = some v := by
    intro a v h
    have hlt : a.block < w.heap.size := by
      rcases Nat.lt_or_ge a.block w.heap.size with h' | h'
      · exact h'
      · simp [World.cell?, Array.getElem?_eq_none h'] at h
    unfold World.cell? at h ⊢
    rw [hb.block _ hlt]; exact h
  refine ⟨fun a v h => lt (k.keep a v h), Nat.le_trans k.low hb.size, ?_, k.free, ?_, k.apart, k.map, k.iter, ?_, k.tokrow, k.toks⟩
  · intro o x cs h1 h2
    obtain ⟨vs, rest, e, fr, h, g⟩ := (k.row o x cs h1 h2).hold
    have hlt : c.β o < w.heap.size := by
      rcases Nat.lt_or_ge (c.β o) w.heap.size with h' | h'
      · exact h'
      · rw [Array.getElem?_eq_none h'] at h; cases h
    exact ⟨vs, rest, e, fr, by rw [hb.block _ hlt]; exact h, g⟩
  · intro o x h1 h2
    obtain ⟨a, b, d, e⟩ := k.own o x h1 h2
    exact ⟨a, b, Nat.lt_of_lt_of_le d hb.size, e⟩
  · intro τ n z h
    obtain ⟨a, b, d, e, f⟩ := k.tok τ n z h
    refine ⟨a, Nat.lt_of_lt_of_le b hb.size, d, e, fun j h1 h2 => ?_⟩
    obtain ⟨g1, g2, g3⟩ := f j h1 h2
    have hbl : w'.heap[(c.κ τ).1.block]? = w.heap[(c.κ τ).1.block]? := hb.block _ b
    refine ⟨?_, ?_, g3⟩
    · rw [← g1]; unfold World.cell?; rw [hbl]
    · rw [← g2]; unfold World.frozen?; rw [hbl]
/-- A library's contract is one of the machine's: it leaves the memory, and lays new. -/
theorem ok_lib {P : Program} [HasG P] {f : FuncId} {φ : List D → Option D}
    (h : ∀ args r, φ args = some r → ∀ (c : Cx) (w : World) (vs : List Value), HasG.G P c w → Reps c args vs → (callFunc f vs.toArray).run P w = .ok (.enter f vs.toArray) w ∧
      Calls P f vs.toArray w fun e w' => ∃ v, e = .returned v ∧ Rep c r v ∧ Below w.heap.size w w') : OkAt P f φ := by
  intro args r hr args' he H T Q hQ c w vs hg k1 k2 k3
  have k3' : Reps c args vs := by rw [← he]; exact k3.erase
  obtain ⟨g1, g2⟩ := h args r hr c w vs hg k3'
  refine .inl ⟨g1, g2.mono ?_⟩
  rintro e w' ⟨v, rfl, h1, h2⟩
  exact ⟨v, rfl, r, H, T, c, hQ, h1, k1.grown h2, Cx.le.refl c, k2, h2.mono k1.low⟩
end GP
