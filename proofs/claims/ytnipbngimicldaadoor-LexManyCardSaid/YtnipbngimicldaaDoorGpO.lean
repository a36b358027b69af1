import Derived.Test.YtnipbngimicldaaDoorGpN
import Derived.Deep.LoopGhost
/- Soundness of instructions, regions that keep their order, and code. -/
namespace GP
open Go

variable {P : Program} {X : Pred} {imp : Hn} {dr : Bool} {j : Pl} {c : Cx} {s : S} {a : Act} {w : World} {K : D → S → Prop}

theorem op_sound [HasG P] (hX : ∀ f args H T Q, X f args H T Q → Snd P f args H T Q) {o : Oper} {oo : O} (h : cOp P imp dr j o.op = some oo) (hG : HasG.G P c w) (hs : Sim c s a w) (hW : WO X oo s K) : OpGoes P o a c w s K := by
  cases ho : o.op with
  | move x =>
    have h' := h
    rw [ho] at h'
    simp only [cOp] at h'
    split at h'
    · rename_i r hr
      injection h' with h'; subst h'
      change K (s.ev r) s at hW
      refine .inl ⟨a.eval x, w, ?_, .quiet hs hW (cRd_rep hr hs.fr)⟩
      unfold execOp; simp only [ho]; rfl
    · cases h'
  | assign x =>
    have h' := h
    rw [ho] at h'
    simp only [cOp] at h'
    split at h'
    · rename_i r hr
      injection h' with h'; subst h'
      change K (s.ev r) s at hW
      refine .inl ⟨a.eval x, w, ?_, .quiet hs hW (cRd_rep hr hs.fr)⟩
      unfold execOp; simp only [ho]; rfl
    · cases h'
  | pick x y z =>
    have h' := h
    rw [ho] at h'
    simp only [cOp] at h'
    split at h'
    · rename_i r q p hr hq hp
      injection h' with h'; subst h'
      obtain ⟨d, hd, hW⟩ := K1_ok hW
      simp only [qv] at hd
      split at hd
      · rename_i t hev
        injection hd with hd; subst hd
        have h1 := cRd_rep hr hs.fr
        rw [hev] at h1
        have h2 := cRd_rep hq hs.fr
        have h3 := cRd_rep hp hs.fr
        have hb : a.eval x = .bool t := by
          generalize a.eval x = v at h1
          cases h1; rfl
        refine .inl ⟨if t then a.eval y else a.eval z, w, ?_, .quiet hs hW (by cases t; exact h3; exact h2)⟩
        unfold execOp; simp only [ho, hb]; simp [asBool]
      · cases hd
    · cases h'
  | alloc t => exact op_alloc ho h hs hW
  | box t x => exact op_box ho h hs hW
  | build t ps => exact op_build ho h hs hW
  | buildSlice t n ps => exact op_bsl ho h hs hW
  | load t x => exact op_load ho h hs hW
  | store t x v => exact op_store ho h hs hW
  | nilCheck x =>
    have h' := h
    rw [ho] at h'
    simp only [cOp] at h'
    split at h'
    · rename_i r hr
      injection h' with h'; subst h'
      obtain ⟨d, hd, hW⟩ := K1_ok hW
      have h1 := cRd_rep hr hs.fr
      have key : ∀ v, a.eval x = v → Rep c (s.ev r) v → (execOp a.eval o).run P w = .ok (.value v) w ∧ d = s.ev r := by
        intro v hv hrep
        have hd' : nilcD (s.ev r) = some d := hd
        generalize s.ev r = e at *
        cases hrep <;> simp [nilcD] at hd'
        all_goals
          refine ⟨?_, hd'.symm⟩
          unfold execOp
          simp only [ho, hv]
          rfl
      obtain ⟨k1, k2⟩ := key _ rfl h1
      exact .inl ⟨_, w, k1, .quiet hs hW (by rw [k2]; exact h1)⟩
    · cases h'
  | binOp op t x y t' => exact op_bin ho h hs hW
  | unOp op t x =>
    have h' := h
    rw [ho] at h'
    simp only [cOp] at h'
    split at h'
    · rename_i r hr
      injection h' with h'; subst h'
      obtain ⟨d, hd, hW⟩ := K1_ok hW
      have he : execOp a.eval o = (do pure (.value (← Op.unary op (a.eval x)))) := by unfold execOp; simp only [ho]
      exact goes_quiet hs he hW (un_sound (cRd_rep hr hs.fr) hd)
    · cases h'
  | convert src dst x => exact op_conv ho h hs hW
  | makeFunc fn first cap =>
    have h' := h
    rw [ho] at h'
    cases fn with
    | func f =>
      simp only [cOp] at h'
      split at h'
      · rename_i p q hp hq
        injection h' with h'; subst h'
        change K (.fn f (p.map s.ev) (q.map s.ev)) s at hW
        have h1 := cRds_rep hp hs.fr
        have h2 := cRds_rep hq hs.fr
        refine .inl ⟨.func (.func f) (first.map a.eval) (cap.map a.eval), w, ?_, .quiet hs hW ?_⟩
        · unfold execOp; simp only [ho]; rfl
        · have := Rep.fn (c := c) f (p.map s.ev) (q.map s.ev) (first.toList.map a.eval) (cap.toList.map a.eval) h1.len h2.len h1.rep h2.rep
          have e1 : (first.toList.map a.eval).toArray = first.map a.eval := by apply Array.toList_inj.1; simp
          have e2 : (cap.toList.map a.eval).toArray = cap.map a.eval := by apply Array.toList_inj.1; simp
          rwa [e1, e2] at this
      · cases h'
    | _ => simp [cOp] at h'
  | slice t x lo hi mx => exact op_slice ho h hs hW
  | makeSlice t x y => exact op_make ho h hs hW
  | fieldAddr t x k => exact op_faddr ho h hs hW
  | field t x k => exact op_field ho h hs hW
  | indexAddr t x i => exact op_iaddr ho h hs hW
  | index t x i => exact op_index ho h hs hW
  | extract x k =>
    have h' := h
    rw [ho] at h'
    simp only [cOp] at h'
    split at h'
    · rename_i r hr
      injection h' with h'; subst h'
      obtain ⟨d, hd, hW⟩ := K1_ok hW
      have he : execOp a.eval o = (do pure (.value (← Instr.extract (a.eval x) k))) := by unfold execOp; simp only [ho]
      exact goes_quiet hs he hW (ext_sound (cRd_rep hr hs.fr) hd)
    · cases h'
  | call cl =>
    obtain ⟨callee, args, ats⟩ := cl
    cases callee with
    | builtin b => exact op_builtin ho h hs hW
    | invoke r m => rw [ho] at h; simp [cOp] at h
    | value f =>
      rw [ho] at h
      simp only [cOp] at h
      split at h
      · rename_i r rs hr hrs
        injection h with h
        obtain ⟨dst, op, ty, pos, after, guard⟩ := o
        simp only at ho
        subst ho
        have pc : ∀ oo', oo' = O.pcall r rs → WO X oo' s K → OpGoes P ⟨dst, .call { callee := .value f, args, argTypes := ats }, ty, pos, after, guard⟩ a c w s K := by
          intro oo' e hW
          subst e
          change pcallK X (rs.map s.ev) K s (s.ev r) at hW
          unfold pcallK at hW
          split at hW
          · rename_i g first cap hev
            obtain ⟨d, hp, hk⟩ := hW
            exact call_sound hX hG hs hr hrs hev (Q := fun d' H T => d' = d ∧ H = s.H ∧ T = s.T) (hp s.H s.T _ (fun _ _ h _ => h) ⟨rfl, rfl, rfl⟩)
              (fun d' H T hh => by obtain ⟨rfl, rfl, rfl⟩ := hh; exact hk)
          · exact hW.elim
        cases f with
        | func g =>
          simp only at h
          split at h
          · subst h
            change callK X (rs.map s.ev) K s (s.ev r) at hW
            unfold callK at hW
            split at hW
            · rename_i g' first cap hev
              exact call_sound hX hG hs hr hrs hev hW (fun d H T h => h)
            · exact hW.elim
          · exact pc oo h.symm hW
        | _ => exact pc oo h.symm hW
      · cases h
  | _ => rw [ho] at h; simp [cOp] at h

/-! ### Instructions -/
def dstOk (n : Nat) : Option Nat → Bool
  | some d => decide (d < n)
  | none => true

def cI (P : Program) (imp : Hn) (dr : Bool) (j : Pl) (ops : Array Oper) (n : Nat) (o : Oper) : Option I :=
  match cOp P imp dr j o.op with
  | none => none
  | some oo =>
    if dstOk n o.dst then
      match o.guard with
      | none => some ⟨o.dst, none, oo⟩
      | some (g, want) => match (ops[g]?).bind (·.dst) with
        | some d => some ⟨o.dst, some (d, want), oo⟩
        | none => none
    else none

theorem Res.next {v : Value} {w' : World} {K : S → Prop} {d : Option Nat} (hs : Sim c s a w) (hd : ∀ i, d = some i → i < a.tmps.size) (h : Res c w s (fun v s' => K (s'.put d v)) v w') :
    ∃ s' c', K s' ∧ Sim c' s' (a.put d v) w' ∧ c.le c' ∧ Below c.B w w' := by
  obtain ⟨e, s', c', hk, ht, hr, hi, hle, hT, hb⟩ := h
  refine ⟨s'.put d e, c', hk, ?_, hle, hb⟩
  have hfr : FR c' s'.t a := by rw [ht]; exact hs.fr.mono hle
  cases d with
  | none => exact ⟨hT, hi, hfr⟩
  | some i => exact ⟨hT, hi, hfr.put hr (hd i rfl)⟩

/-- What follows an instruction in the model. -/
def Nx (n : Nat) (c0 : Cx) (w0 : World) (K : S → Prop) (a' : Act) (w' : World) : Prop := ∃ s' c', K s' ∧ Sim c' s' a' w' ∧ c0.le c' ∧ Below c0.B w0 w' ∧ a'.tmps.size = n ∧ a'.defers = []

theorem put_size (a : Act) (d : Option Nat) (v : Value) : (a.put d v).tmps.size = a.tmps.size ∧ (a.put d v).defers = a.defers := by
  cases d <;> simp [Act.put]

theorem instr_sound [HasG P] (hX : ∀ f args H T Q, X f args H T Q → Snd P f args H T Q) {ops : Array Oper} {n i : Nat} {o : Oper} {ii : I} (ho : ops[i]? = some o) (h : cI P imp dr j ops n o = some ii) {c0 : Cx} {w0 : World}
    (hG : HasG.G P c0 w0) (hs : Sim c s a w) (hle : c0.le c) (hb : Below c0.B w0 w) (hn : a.tmps.size = n) (hd : a.defers = []) {K : S → Prop} (hW : WI X ii s K) {Q : Exit → Act → World → Prop} {K' : Act → World → Prop} (hK : ∀ a' w', Nx n c0 w0 K a' w' → K' a' w') :
    wpOp P ops Q i K' a w := by
  unfold cI at h
  split at h
  · cases h
  · rename_i oo hoo
    split at h
    · rename_i hdst
      have hdst' : ∀ k, o.dst = some k → k < a.tmps.size := by
        intro k hk
        rw [hk] at hdst
        rw [hn]; simpa [dstOk] using hdst
      have run : WO X oo s (fun v s' => K (s'.put o.dst v)) → o.wp P a w K' Q := by
        intro hW
        have goes := op_sound hX hoo (HasG.mono hle hb hG) hs hW
        have fin : ∀ v w', Res c w s (fun v s' => K (s'.put o.dst v)) v w' → K' (a.put o.dst v) w' := by
          intro v w' hr
          obtain ⟨s', c', k1, k2, k3, k4⟩ := hr.next hs hdst'
          obtain ⟨p1, p2⟩ := put_size a o.dst v
          exact hK _ _ ⟨s', c', k1, k2, hle.trans k3, hb.trans (by rw [← hle.B]; exact k4), by rw [p1, hn], by rw [p2, hd]⟩
        rcases goes with ⟨v, w', e, hr⟩ | ⟨w', e, hr⟩ | ⟨f, args, e, hr⟩
        · unfold Oper.wp; rw [e]; exact fin v w' hr
        · unfold Oper.wp; rw [e]; exact fin _ w' hr
        · unfold Oper.wp; rw [e]
          refine Calls.mono hr ?_
          rintro e' w' ⟨v, rfl, hr⟩
          exact fin v w' hr
      unfold wpOp
      simp only [ho]
      split at h
      · rename_i hg
        injection h with h; subst h
        have hwant : Region.wanted o (yielded ops a.tmps) = true := by simp [Region.wanted, hg]
        rw [if_pos hwant]
        exact .inl (run hW)
      · rename_i g want hg
        split at h
        · rename_i d hdg
          injection h with h; subst h
          change WIk X o.dst oo s K (gd s (some (d, want))) at hW
          unfold gd at hW
          simp only at hW
          have hrg := hs.fr d
          split at hW
          · rename_i b hb'
            rw [hb'] at hrg
            have hy : yielded ops a.tmps g = some b := by
              unfold yielded
              simp only [hdg]
              generalize hv : a.tmps.getD d undef = v at hrg
              cases hrg
              simp only [Array.getD_eq_getD_getElem?] at hv
              cases ht : a.tmps[d]? with
              | none => rw [ht] at hv; simp [undef] at hv
              | some x => rw [ht] at hv; simp at hv; subst hv; simp [ht]
            by_cases hbw : b = want
            · subst hbw
              have hwant : Region.wanted o (yielded ops a.tmps) = true := by simp [Region.wanted, hg, hy]
              rw [if_pos hwant]
              simp only [beq_self_eq_true] at hW
              exact .inl (run hW)
            · have hwant : ¬ Region.wanted o (yielded ops a.tmps) = true := by simp [Region.wanted, hg, hy, hbw]
              rw [if_neg hwant]
              have : (b == want) = false := by simpa using hbw
              rw [this] at hW
              obtain ⟨p1, p2⟩ := put_size a o.dst undef
              refine hK _ _ ⟨s.put o.dst (.tup []), c, hW, ?_, hle, hb, by rw [p1, hn], by rw [p2, hd]⟩
              cases hdd : o.dst with
              | none => exact hs
              | some k => exact ⟨hs.T, hs.inv, hs.fr.put (Rep.tup [] [] rfl (fun i h => absurd h (by simp))) (hdst' k hdd)⟩
          · rename_i hb'
            rw [hb'] at hrg
            have hy : yielded ops a.tmps g = none := by
              unfold yielded
              simp only [hdg]
              generalize hv : a.tmps.getD d undef = v at hrg
              cases hrg with
              | tup cs vs hl hr =>
                have : vs = [] := by simpa using hl
                subst this
                simp only [Array.getD_eq_getD_getElem?] at hv
                cases ht : a.tmps[d]? with
                | none => simp [ht]
                | some x => rw [ht] at hv; simp at hv; subst hv; simp [ht]
            have hwant : ¬ Region.wanted o (yielded ops a.tmps) = true := by simp [Region.wanted, hg, hy]
            rw [if_neg hwant]
            obtain ⟨p1, p2⟩ := put_size a o.dst undef
            refine hK _ _ ⟨s.put o.dst (.tup []), c, hW, ?_, hle, hb, by rw [p1, hn], by rw [p2, hd]⟩
            cases hdd : o.dst with
            | none => exact hs
            | some k => exact ⟨hs.T, hs.inv, hs.fr.put (Rep.tup [] [] rfl (fun i h => absurd h (by simp))) (hdst' k hdd)⟩
          · exact hW.elim
        · cases h
    · cases h

end GP
