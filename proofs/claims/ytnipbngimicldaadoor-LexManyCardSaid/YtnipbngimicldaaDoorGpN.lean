import Derived.Test.YtnipbngimicldaaDoorGpM
/- Soundness of one operation: all of them. -/
namespace GP
open Go

variable {P : Program} {X : Pred} {imp : Hn} {dr : Bool} {j : Pl} {c : Cx} {s : S} {a : Act} {w : World} {K : D → S → Prop}

theorem atK_ok {i : Nat} {z : List D} {o : Option Ob} (h : atK K s i z o) : o = some .hole ∧ K (.ptr i 0) ⟨s.t, s.H.set i (.row z), s.T⟩ := by
  unfold atK at h
  split at h
  · exact ⟨rfl, h⟩
  · exact h.elim

theorem rawK_ok {i : Nat} {z : List D} {o : Option Ob} (h : rawK K s i z o) : o = some .hole ∧ K (.ptr i 0) ⟨s.t, s.H.set i (.raw z), s.T⟩ := by
  unfold rawK at h
  split at h
  · exact ⟨rfl, h⟩
  · exact h.elim

theorem fillK_ok {i n : Nat} {a v : D} {o : Option Ob} (h : fillK K s i n a v o) : ∃ z, o = some (.raw z) ∧ a = .ptr i 0 ∧ z.length = n ∧ v.okc = true ∧ v.cells.length = n ∧ K .top ⟨s.t, s.H.set i (.row v.cells), s.T⟩ := by
  unfold fillK at h
  split at h
  · exact ⟨_, rfl, h⟩
  · exact h.elim

theorem goes_push (hs : Sim c s a w) {o : Oper} {e : TypeId} {m : Sem Value} (he : execOp a.eval o = do pure (.value (← m))) {cs : List D} {vs : List Value} (hc : Cells c cs vs)
    (hm : m.run P w = .ok (.pointer (some ⟨w.heap.size, 0, none⟩)) (w.alloc (.cells vs.toArray e))) (hk : K (.ptr s.H.length 0) ⟨s.t, s.H ++ [.row cs], s.T⟩) : OpGoes P o a c w s K := by
  have := new_row hs.inv (e := e) hc (o := s.H.length) (hs.inv.free _ (.inl (Nat.le_refl _))) (H' := s.H ++ [.row cs]) (push_at _ _) rfl (fun o h => push_other _ _ o h) hs.T
  rw [← hm] at this
  exact goes_yld he hk rfl this

theorem goes_set (hs : Sim c s a w) {o : Oper} {e : TypeId} {m : Sem Value} (he : execOp a.eval o = do pure (.value (← m))) {cs : List D} {vs : List Value} (hc : Cells c cs vs)
    (hm : m.run P w = .ok (.pointer (some ⟨w.heap.size, 0, none⟩)) (w.alloc (.cells vs.toArray e))) {i : Nat} (hi : s.H[i]? = some .hole) {x0 : Ob} (hx0 : x0.cells? = some cs) (hk : K (.ptr i 0) ⟨s.t, s.H.set i x0, s.T⟩) : OpGoes P o a c w s K := by
  have hlt : i < s.H.length := by
    rcases Nat.lt_or_ge i s.H.length with h' | h'
    · exact h'
    · rw [List.getElem?_eq_none h'] at hi; cases hi
  have := new_row hs.inv (e := e) hc (o := i) (hs.inv.free _ (.inr hi)) (H' := s.H.set i x0) (by simp [hlt]) hx0 (fun o h => by rw [List.getElem?_set_ne (Ne.symm h)]) hs.T
  rw [← hm] at this
  exact goes_yld he hk rfl this

theorem op_alloc {o : Oper} {t : TypeId} (ho : o.op = .alloc t) {oo : O} (h : cOp P imp dr j o.op = some oo) (hs : Sim c s a w) (hW : WO X oo s K) : OpGoes P o a c w s K := by
  rw [ho] at h
  simp only [cOp] at h
  split at h
  · rename_i z hz
    injection h with h; subst h
    obtain ⟨zv, z1, z2⟩ := run_zero (P := P) hz c
    have he : execOp a.eval o = (do pure (.value (← Instr.alloc t true (.tuple #[])))) := by unfold execOp; simp only [ho]
    have hm : (Instr.alloc t true (.tuple #[])).run P w = .ok (.pointer (some ⟨w.heap.size, 0, none⟩)) (w.alloc (.cells zv.cells.toList.toArray t)) := by
      simp [Instr.alloc, z1, newVar, newRow]
    cases dr
    · exact goes_push hs he z2 hm hW
    · simp only [if_true] at hW
      split at hW
      · obtain ⟨h1, h2⟩ := rawK_ok hW.2
        exact goes_set hs he z2 hm h1 rfl h2
      · obtain ⟨h1, h2⟩ := atK_ok hW
        exact goes_set hs he z2 hm h1 rfl h2
  · cases h

theorem op_box {o : Oper} {t : TypeId} {x : Operand} (ho : o.op = .box t x) {oo : O} (h : cOp P imp dr j o.op = some oo) (hs : Sim c s a w) (hW : WO X oo s K) : OpGoes P o a c w s K := by
  rw [ho] at h
  simp only [cOp] at h
  split at h
  · rename_i r hr
    injection h with h; subst h
    have hrep := cRd_rep hr hs.fr
    have he : execOp a.eval o = (do pure (.value (← Instr.box t (a.eval x)))) := by unfold execOp; simp only [ho]
    have hm : (Instr.box t (a.eval x)).run P w = .ok (.pointer (some ⟨w.heap.size, 0, none⟩)) (w.alloc (.cells (a.eval x).cells.toList.toArray t)) := by
      simp [Instr.box, newVar, newRow]
    cases dr
    · obtain ⟨hk, hW⟩ := hW
      exact goes_push hs he (hrep.cells hk) hm hW
    · obtain ⟨hk, hW⟩ := hW
      obtain ⟨h1, h2⟩ := atK_ok hW
      exact goes_set hs he (hrep.cells hk) hm h1 rfl h2
  · cases h

theorem op_bsl {o : Oper} {t : TypeId} {n : Nat} {ps : Array (Nat × Operand)} (ho : o.op = .buildSlice t n ps) {oo : O} (h : cOp P imp dr j o.op = some oo) (hs : Sim c s a w) (hW : WO X oo s K) : OpGoes P o a c w s K := by
  rw [ho] at h
  simp only [cOp] at h
  split at h
  · rename_i e ht
    split at h
    · rename_i sz rs hsz hrs
      split at h
      · rename_i hc
        simp only [Bool.and_eq_true, decide_eq_true_eq] at hc
        obtain ⟨⟨⟨hidx, hz⟩, hsmall⟩, hn⟩ := hc
        injection h with h
        have hreps := cRds_rep hrs hs.fr
        have hlen : ps.toList.length = n := by
          simp only [idxs?, beq_iff_eq] at hidx
          have := congrArg List.length hidx
          simpa using this
        have hrl : rs.length = n := by have := hreps.len; simp at this; rw [← this]; simpa using hlen
        have hparts : (ps.map fun (i, x) => (i, a.eval x)) = (((ps.toList.map (·.2)).map a.eval).zipIdx 0 |>.map fun p => (p.2, p.1)).toArray := by
          apply Array.toList_inj.1
          simp only [Array.toList_map]
          simp only [idxs?, beq_iff_eq] at hidx
          apply List.ext_getElem
          · simp
          · intro i h1 h2
            have hi : i < ps.toList.length := by simpa using h1
            have : (ps.toList.map (·.1))[i]'(by simpa using hi) = i := by simp only [hidx]; simp
            simp only [List.getElem_map] at this
            have this : ps[i].1 = i := by simpa using this
            simp [this]
        have he : execOp a.eval o = (do pure (.value (← Instr.buildSlice t n (((ps.toList.map (·.2)).map a.eval).zipIdx 0 |>.map fun p => (p.2, p.1)).toArray))) := by
          unfold execOp; simp only [ho, hparts]
        have key : ∀ (hf : (rs.map s.ev).all (fit sz) = true), (Instr.buildSlice t n (((ps.toList.map (·.2)).map a.eval).zipIdx 0 |>.map fun p => (p.2, p.1)).toArray).run P w =
            .ok (.slice (some ⟨w.heap.size, 0, none⟩) n n) (w.alloc (.cells (((ps.toList.map (·.2)).map a.eval).map fun v => v.cells.toList).flatten.toArray e)) ∧ Elems c sz (rs.map s.ev) (((ps.toList.map (·.2)).map a.eval).map fun v => v.cells.toList) := by
          intro hf
          have hel := hreps.elems hf
          have hvl : ((ps.toList.map (·.2)).map a.eval).length = n := by simpa using hlen
          have := run_bsl (P := P) (w := w) ht hsz hz ((ps.toList.map (·.2)).map a.eval) (fun v hv => by
            have := hel.sz' v.cells.toList (List.mem_map.2 ⟨v, hv, rfl⟩)
            simpa using this) (by rw [hvl]; exact hsmall) c
          rw [hvl] at this
          exact ⟨this, hel⟩
        have hl62 : (rs.map s.ev).length < 2 ^ 62 := by simp only [List.length_map, hrl]; omega
        have hxl : (rs.map s.ev).length = n := by simp [hrl]
        cases dr
        · simp only [Bool.false_eq_true, if_false] at h
          split at h
          · subst h
            obtain ⟨hf, hW⟩ := hW
            obtain ⟨k1, k2⟩ := key hf
            have := new_ms hs.inv [] e k2.cells (hs.inv.free s.H.length (.inl (Nat.le_refl _))) (H' := s.H ++ [.row (flatD (rs.map s.ev))]) (push_at _ _) (fun o' h => push_other _ _ o' h) hs.T (ag := tag P e == some true) (sz := sz) (n := n) (cap := n) (rc := n)
              (Nat.le_refl _) (Nat.le_refl _) (by rw [flat_len _ k2.sz', k2.len, hxl]; simp)
            rw [List.append_nil, ← k1] at this
            rw [hrl] at hW
            exact goes_yld he hW rfl this
          subst h
          obtain ⟨hf, hW⟩ := hW
          obtain ⟨k1, k2⟩ := key hf
          have := fresh_tok hs.inv k2 e hl62 [] (0, 0) (fun i _ => by simp) (cap := n) (by rw [hxl]; exact Nat.le_refl _) (by rw [flat_len _ k2.sz', k2.len, hxl]; simp) (τ := s.T.length) (T' := s.T ++ [some (rs.length, sz)])
            (by simp) (fun h => by rw [hs.T] at h; omega) (fun j hj => by
              rw [hs.T]
              rcases Nat.lt_or_ge j s.T.length with h' | h'
              · rw [List.getElem?_append_left h']
              · rw [List.getElem?_eq_none (by simp; omega), List.getElem?_eq_none h']) (by rw [hs.T]; simp)
          rw [List.append_nil, hxl, ← k1] at this
          exact goes_yld he hW rfl this
        · simp only [if_true] at h; subst h
          obtain ⟨d, hd, hW⟩ := K1_ok hW
          simp only [qv] at hd
          split at hd
          · rename_i hf
            injection hd with hd; subst hd
            obtain ⟨k1, k2⟩ := key hf
            have := fresh_slq hs.inv k2 e hl62 hs.T
            rw [hxl, ← k1] at this
            exact goes_yld he hW rfl this
          · cases hd
      · cases h
    · cases h
  · cases h

theorem op_store {o : Oper} {t : TypeId} {x v : Operand} (ho : o.op = .store t x v) {oo : O} (h : cOp P imp dr j o.op = some oo) (hs : Sim c s a w) (hW : WO X oo s K) : OpGoes P o a c w s K := by
  rw [ho] at h
  simp only [cOp] at h
  split at h
  · rename_i n r q hn hr hq
    injection h with h
    split at h
    · subst h
      obtain ⟨_, hW⟩ := hW
      change fillK K s _ n (s.ev r) (s.ev q) _ at hW
      obtain ⟨z, hz, ha, hzl, h1, h2, hk⟩ := fillK_ok hW
      obtain ⟨w', e1, e2, e3⟩ := store_any (P := P) hs.inv hn (cRd_rep hr hs.fr) (cRd_rep hq hs.fr) ha hz rfl h1 h2 (by omega)
      rw [List.take_zero, List.nil_append, List.drop_eq_nil_of_le (by omega), List.append_nil] at e2
      refine .inr (.inl ⟨w', ?_, ⟨_, _, c, hk, rfl, Rep.top _, e2, Cx.le.refl c, hs.T, e3⟩⟩)
      unfold execOp
      simp [ho, e1]
    · subst h
      change storeK n K s (s.ev r) (s.ev q) at hW
      unfold storeK at hW
      split at hW
      · rename_i o' off hev
        split at hW
        · rename_i cs hH
          obtain ⟨h1, h2, h3, hk⟩ := hW
          obtain ⟨w', e1, e2, e3⟩ := store_sound (P := P) hs.inv hn (cRd_rep hr hs.fr) (cRd_rep hq hs.fr) hev hH h1 h2 h3
          refine .inr (.inl ⟨w', ?_, ⟨_, _, c, hk, rfl, Rep.top _, e2, Cx.le.refl c, hs.T, e3⟩⟩)
          unfold execOp
          simp [ho, e1]
        · exact hW.elim
      · exact hW.elim
  · cases h

theorem op_build {o : Oper} {t : TypeId} {ps : Array (Nat × Operand)} (ho : o.op = .build t ps) {oo : O} (h : cOp P imp dr j o.op = some oo) (hs : Sim c s a w) (hW : WO X oo s K) : OpGoes P o a c w s K := by
  rw [ho] at h
  have he : execOp a.eval o = (do pure (.value (← Instr.build t (ps.toList.map fun p => (p.1, a.eval p.2)).toArray))) := by
    unfold execOp; simp only [ho]
    congr 2
    apply Array.toList_inj.1
    simp
  simp only [cOp] at h
  split at h
  · rename_i z hz
    split at h
    · rename_i fs _ ht
      split at h
      · rename_i l hl
        split at h
        · rename_i hall
          injection h with h; subst h
          obtain ⟨d, hd, hW⟩ := K1_ok hW
          simp only [qv, buildD] at hd
          split at hd
          · rename_i hfit
            have hok : (l.all fun p => (s.ev p.2.2).okc) = true := List.all_eq_true.2 fun p hp => by
              have := List.all_eq_true.1 hfit _ (List.mem_map.2 ⟨p, hp, rfl⟩)
              simp only [fit, Bool.and_eq_true] at this
              exact this.1
            have hsz : ((l.map fun p => (p.1, p.2.1, s.ev p.2.2)).all fun p => p.2.2.cells.length == p.2.1) = true := List.all_eq_true.2 fun p hp => by
              have := List.all_eq_true.1 hfit p hp
              simp only [fit, Bool.and_eq_true] at this
              exact this.2
            cases hfd : fillD z ((l.map fun p => (p.1, p.2.1, s.ev p.2.2)).map fun p => (p.1, p.2.2.cells)) with
            | none => rw [hfd] at hd; cases hd
            | some r =>
              rw [hfd] at hd; injection hd with hd; subst hd
              exact goes_quiet hs he hW (build_struct (P := P) (w := w) ht hz (parts_rep hs.fr hl hok) hall hsz hfd)
          · cases hd
        · cases h
      · cases h
    · rename_i len e _ ht
      split at h
      · rename_i sz hsz0
        split at h
        · rename_i l hl
          injection h with h; subst h
          obtain ⟨d, hd, hW⟩ := K1_ok hW
          simp only [qv, buildD] at hd
          split at hd
          · rename_i hfit
            have hok : (l.all fun p => (s.ev p.2.2).okc) = true := List.all_eq_true.2 fun p hp => by
              have := List.all_eq_true.1 hfit _ (List.mem_map.2 ⟨p, hp, rfl⟩)
              simp only [fit, Bool.and_eq_true] at this
              exact this.1
            have hsz : ((l.map fun p => (p.1, p.2.1, s.ev p.2.2)).all fun p => p.2.2.cells.length == p.2.1) = true := List.all_eq_true.2 fun p hp => by
              have := List.all_eq_true.1 hfit p hp
              simp only [fit, Bool.and_eq_true] at this
              exact this.2
            cases hfd : fillD z ((l.map fun p => (p.1, p.2.1, s.ev p.2.2)).map fun p => (p.1, p.2.2.cells)) with
            | none => rw [hfd] at hd; cases hd
            | some r =>
              rw [hfd] at hd; injection hd with hd; subst hd
              exact goes_quiet hs he hW (build_array (P := P) (w := w) ht hsz0 hz (parts_rep hs.fr hl hok) hsz hfd)
          · cases hd
        · cases h
      · cases h
    · cases h
  · cases h

theorem op_bin {o : Oper} {op : BinOp} {t t' : TypeId} {x y : Operand} (ho : o.op = .binOp op t x y t') {oo : O} (h : cOp P imp dr j o.op = some oo) (hs : Sim c s a w) (hW : WO X oo s K) : OpGoes P o a c w s K := by
  rw [ho] at h
  have he : execOp a.eval o = (do pure (.value (← (do eqGuard op t x y (a.eval x) (a.eval y); Go.binOp op t (a.eval x) (a.eval y) : Sem Value)))) := by unfold execOp; simp only [ho]
  simp only [cOp] at h
  split at h
  · rename_i r q hr hq
    have hxr := cRd_rep hr hs.fr
    have hyr := cRd_rep hq hs.fr
    have plain : ∀ oo', some (O.bin op r q) = some oo' → WO X oo' s K → OpGoes P o a c w s K := by
      intro oo' h' hW'
      injection h' with h'; subst h'
      obtain ⟨d, hd, hW'⟩ := K1_ok hW'
      exact goes_quiet hs he hW' (bin_sound hxr hyr hd)
    split at h
    · rename_i hop
      have hneg : op = (if (op == BinOp.neq) = true then BinOp.neq else .eql) := by
        simp only [Bool.or_eq_true, beq_iff_eq] at hop
        rcases hop with h | h <;> subst h <;> rfl
      split at h
      · rename_i ks hks
        injection h with h; subst h
        obtain ⟨d, hd, hW⟩ := K1_ok hW
        simp only [qv] at hd
        unfold eqaD at hd
        split at hd
        · rename_i xs ys e1 e2
          split at hd
          · rename_i hk
            cases hb : eqCells xs ys with
            | none => rw [hb] at hd; cases hd
            | some b =>
              rw [hb] at hd; injection hd with hd; subst hd
              refine goes_quiet hs he hW ⟨_, ?_, Rep.bool _⟩
              have := eqa_sound (P := P) (w := w) hks hxr hyr e1 e2 hk hb (op == .neq) x y
              rw [← hneg] at this
              exact this
          · cases hd
        · cases hd
      · split at h
        · rename_i k hk
          split at h
          · rename_i hc
            injection h with h; subst h
            obtain ⟨d, hd, hW⟩ := K1_ok hW
            simp only [qv] at hd
            cases hb : eq1D k (s.ev r) (s.ev q) with
            | none => rw [hb] at hd; cases hd
            | some b =>
              rw [hb] at hd; injection hd with hd; subst hd
              refine goes_quiet hs he hW ⟨_, ?_, Rep.bool _⟩
              have := eq1_sound (P := P) (w := w) hk hxr hyr hb (op == .neq) x y (fun e => by subst e; simpa using hc)
              rw [← hneg] at this
              exact this
          · cases h
        · exact plain oo h hW
    · exact plain oo h hW
  · cases h

theorem op_conv {o : Oper} {src dst : TypeId} {x : Operand} (ho : o.op = .convert src dst x) {oo : O} (h : cOp P imp dr j o.op = some oo) (hs : Sim c s a w) (hW : WO X oo s K) : OpGoes P o a c w s K := by
  rw [ho] at h
  have he : execOp a.eval o = (do pure (.value (← Go.convert src dst (a.eval x)))) := by unfold execOp; simp only [ho]
  simp only [cOp] at h
  split at h
  · rename_i r hr
    have hxr := cRd_rep hr hs.fr
    unfold cConv at h
    split at h
    · rename_i k hk
      split at h
      · rename_i hsrc
        injection h with h; subst h
        obtain ⟨d, hd, hW⟩ := K1_ok hW
        simp only [qv] at hd
        split at hd
        · rename_i k' n hev
          injection hd with hd; subst hd
          rw [hev] at hxr
          generalize a.eval x = v at *
          cases hxr
          exact goes_quiet hs he hW ⟨_, conv_sound hsrc (intOf_ok hk), Rep.int _ _⟩
        · cases hd
      · cases h
    · split at h
      · rename_i hds
        split at h
        · rename_i hss
          injection h with h; subst h
          obtain ⟨d, hd, hW⟩ := K1_ok hW
          simp only [qv] at hd
          split at hd
          · rename_i l hev
            injection hd with hd; subst hd
            rw [hev] at hxr
            generalize a.eval x = v at *
            refine goes_quiet hs he hW ⟨v, ?_, hxr⟩
            cases hxr
            simp [Go.convert, run_underlying (isStr_ok hss), run_underlying (isStr_ok hds)]
          · cases hd
        · split at h
          · rename_i e hsl
            split at h
            · rename_i h8
              injection h with h
              split at h
              · subst h
                obtain ⟨d, hd, hW⟩ := K1_ok hW
                exact goes_quiet hs he hW (b2m_sound (sliceOf_eq hsl) (isInt8_ok h8) (isStr_ok hds) hs.inv hxr hd)
              · subst h
                obtain ⟨d, hd, hW⟩ := K1_ok hW
                exact goes_quiet hs he hW (b2s_sound (sliceOf_eq hsl) (isInt8_ok h8) (isStr_ok hds) hs.inv hxr hd)
            · cases h
          · cases h
      · split at h
        · rename_i hss
          split at h
          · rename_i e hsl
            split at h
            · rename_i h8
              cases dr
              · simp only [Bool.false_eq_true, if_false] at h
                injection h with h; subst h
                change s2bK K s (s.ev r) at hW
                unfold s2bK at hW
                split at hW
                · rename_i l hev
                  rw [hev] at hxr
                  exact goes_yld he hW rfl (s2b_sound (P := P) hs.inv (isStr_ok hss) (sliceOf_eq hsl) (isInt8_ok h8) hxr hs.T)
                · exact hW.elim
              · simp only [if_true] at h
                injection h with h; subst h
                obtain ⟨d, hd, hW⟩ := K1_ok hW
                simp only [qv] at hd
                split at hd
                · rename_i l hev
                  injection hd with hd; subst hd
                  rw [hev] at hxr
                  exact goes_yld he hW rfl (s2bq_sound (P := P) hs.inv (isStr_ok hss) (sliceOf_eq hsl) (isInt8_ok h8) hxr hs.T)
                · cases hd
            · cases h
          · cases h
        · cases h
  · cases h

theorem op_slice {o : Oper} {t : TypeId} {x : Operand} {lo hi mx : Option Operand} (ho : o.op = .slice t x lo hi mx) {oo : O} (h : cOp P imp dr j o.op = some oo) (hs : Sim c s a w) (hW : WO X oo s K) : OpGoes P o a c w s K := by
  rw [ho] at h
  cases mx with
  | some m =>
    have he : execOp a.eval o = (do pure (.value (← Instr.sliceAt t (a.eval x) (lo.map a.eval) (hi.map a.eval) ((some m).map a.eval)))) := by unfold execOp; simp only [ho]
    simp only [cOp] at h
    split at h
    · rename_i r l p q hr hl hp hq
      split at h
      · rename_i e hsl
        split at h
        · rename_i sz hsz
          injection h with h; subst h
          obtain ⟨d, hd, hW⟩ := K1_ok hW
          simp only [qv] at hd
          split at hd
          · rename_i n hn
            have hhi : ∃ r x, some p = some r ∧ hi = some x ∧ cRd x = some r := by
              rcases optRd_ok hp with ⟨e, _⟩ | ⟨r', x', e1, e2, e3⟩
              · cases e
              · exact ⟨r', x', e1, e2, e3⟩
            exact goes_quiet hs he hW (sls3_sound hsl hsz hs.fr (optRd_ok hl) hhi ⟨q, m, rfl, rfl, hq⟩ (cRd_rep hr hs.fr) hn hd)
          · cases hd
        · cases h
      · cases h
    · cases h
  | none =>
    have he : execOp a.eval o = (do pure (.value (← Instr.sliceAt t (a.eval x) (lo.map a.eval) (hi.map a.eval) none))) := by unfold execOp; simp only [ho]; rfl
    simp only [cOp] at h
    split at h
    · rename_i r l q hr hl hq
      have hxr := cRd_rep hr hs.fr
      split at h
      · rename_i hst
        injection h with h; subst h
        obtain ⟨d, hd, hW⟩ := K1_ok hW
        simp only [qv] at hd
        split at hd
        · rename_i n hn
          exact goes_quiet hs he hW (subs_sound (isStr_ok hst) hs.fr (optRd_ok hl) (optRd_ok hq) hxr hn hd)
        · cases hd
      · split at h
        · rename_i e hsl
          split at h
          · rename_i sz hsz
            injection h with h; subst h
            obtain ⟨d, hd, hW⟩ := K1_ok hW
            simp only [qv] at hd
            split at hd
            · rename_i n hn
              exact goes_quiet hs he hW (sls_sound hsl hsz hs.fr (optRd_ok hl) (optRd_ok hq) hxr hn hd)
            · cases hd
          · cases h
        · cases h
    · cases h

theorem op_make {o : Oper} {t : TypeId} {x y : Operand} (ho : o.op = .makeSlice t x y) {oo : O} (h : cOp P imp dr j o.op = some oo) (hs : Sim c s a w) (hW : WO X oo s K) : OpGoes P o a c w s K := by
  rw [ho] at h
  have he : execOp a.eval o = (do pure (.value (← Instr.makeSlice t (a.eval x) (a.eval y)))) := by unfold execOp; simp only [ho]
  simp only [cOp] at h
  split at h
  · rename_i r q hr hq
    split at h
    · rename_i e hsl
      split at h
      · rename_i sz by_ z hsz hby hz
        split at h
        · cases h
        · injection h with h; subst h
          obtain ⟨d, s', hk, ht, hy⟩ := mkm_sound (P := P) hs.inv hsl hsz hby hz (cRd_rep hr hs.fr) (cRd_rep hq hs.fr) rfl hs.T hW
          exact goes_yld he hk ht hy
      · cases h
    · cases h
  · cases h

theorem op_index {o : Oper} {t : TypeId} {x i : Operand} (ho : o.op = .index t x i) {oo : O} (h : cOp P imp dr j o.op = some oo) (hs : Sim c s a w) (hW : WO X oo s K) : OpGoes P o a c w s K := by
  rw [ho] at h
  have he : execOp a.eval o = (do pure (.value (← Instr.index t (a.eval x) (a.eval i)))) := by unfold execOp; simp only [ho]
  simp only [cOp] at h
  split at h
  · rename_i r q hr hq
    have hxr := cRd_rep hr hs.fr
    have hir := cRd_rep hq hs.fr
    split at h
    · rename_i hst
      injection h with h; subst h
      obtain ⟨d, hd, hW⟩ := K1_ok hW
      exact goes_quiet hs he hW (idxs_sound (isStr_ok hst) hxr hir hd)
    · split at h
      · rename_i len e ha
        split at h
        · rename_i sz ag hsz hag
          injection h with h; subst h
          obtain ⟨d, hd, hW⟩ := K1_ok hW
          exact goes_quiet hs he hW (idxa_sound ha hsz hag hxr hir hd)
        · cases h
      · cases h
  · cases h

theorem op_iaddr {o : Oper} {t : TypeId} {x i : Operand} (ho : o.op = .indexAddr t x i) {oo : O} (h : cOp P imp dr j o.op = some oo) (hs : Sim c s a w) (hW : WO X oo s K) : OpGoes P o a c w s K := by
  rw [ho] at h
  have he : execOp a.eval o = (do pure (.value (← Instr.indexAt t (a.eval x) (a.eval i)))) := by unfold execOp; simp only [ho]
  simp only [cOp] at h
  split at h
  · rename_i r q hr hq
    have hxr := cRd_rep hr hs.fr
    have hir := cRd_rep hq hs.fr
    split at h
    · rename_i e _ hsl
      split at h
      · rename_i sz hsz
        injection h with h; subst h
        obtain ⟨d, hd, hW⟩ := K1_ok hW
        exact goes_quiet hs he hW (iaddr_sound hsl hsz hxr hir hd)
      · cases h
    · rename_i len e _ ha
      split at h
      · rename_i sz hsz
        injection h with h; subst h
        obtain ⟨d, hd, hW⟩ := K1_ok hW
        exact goes_quiet hs he hW (iarr_sound ha hsz hxr hir hd)
      · cases h
    · cases h
  · cases h

theorem op_faddr {o : Oper} {t : TypeId} {x : Operand} {k : Nat} (ho : o.op = .fieldAddr t x k) {oo : O} (h : cOp P imp dr j o.op = some oo) (hs : Sim c s a w) (hW : WO X oo s K) : OpGoes P o a c w s K := by
  rw [ho] at h
  have he : execOp a.eval o = (do pure (.value (← Instr.fieldAt t (a.eval x) k))) := by unfold execOp; simp only [ho]
  simp only [cOp] at h
  split at h
  · rename_i fs r ht hr
    have hxr := cRd_rep hr hs.fr
    split at h
    · rename_i f hf
      split at h
      · rename_i n hn
        injection h with h; subst h
        obtain ⟨d, hd, hW⟩ := K1_ok hW
        exact goes_quiet hs he hW (faddr_sound ht hf hn (by omega) hxr hd)
      · cases h
    · cases h
  · cases h

theorem op_field {o : Oper} {t : TypeId} {x : Operand} {k : Nat} (ho : o.op = .field t x k) {oo : O} (h : cOp P imp dr j o.op = some oo) (hs : Sim c s a w) (hW : WO X oo s K) : OpGoes P o a c w s K := by
  rw [ho] at h
  have he : execOp a.eval o = (do pure (.value (← Instr.field t (a.eval x) k))) := by unfold execOp; simp only [ho]
  simp only [cOp] at h
  split at h
  · rename_i fs r ht hr
    have hxr := cRd_rep hr hs.fr
    split at h
    · rename_i f hf
      split at h
      · rename_i ag n hag hn
        injection h with h; subst h
        obtain ⟨d, hd, hW⟩ := K1_ok hW
        exact goes_quiet hs he hW (field_sound ht hf hag hn hxr hd)
      · cases h
    · cases h
  · cases h

theorem op_load {o : Oper} {t : TypeId} {x : Operand} (ho : o.op = .load t x) {oo : O} (h : cOp P imp dr j o.op = some oo) (hs : Sim c s a w) (hW : WO X oo s K) : OpGoes P o a c w s K := by
  rw [ho] at h
  have he : execOp a.eval o = (do pure (.value (← Instr.loadAt t (a.eval x)))) := by unfold execOp; simp only [ho]
  simp only [cOp] at h
  split at h
  · rename_i ag n r hag hn hr
    injection h with h; subst h
    obtain ⟨d, hd, hW⟩ := K1_ok hW
    exact goes_quiet hs he hW (load_sound hs.inv (cRd_rep hr hs.fr) hag hn hd)
  · cases h

theorem execOp_b (ρ : Operand → Value) (dst : Option Tmp) (b : Builtin) (xs : Array Operand) (ats : Array TypeId) (ty : TypeId) (pos : String) (after : Array Edge) (guard : Option (Nat × Bool)) :
    execOp ρ { dst, op := .call { callee := .builtin b, args := xs, argTypes := ats }, type := ty, pos, after, guard } = Go.builtin b ats ty (xs.map fun | .const _ => true | _ => false) (xs.map ρ) := rfl
theorem b_len (ats : Array TypeId) (ty : TypeId) (cs : Array Bool) (args : Array Value) : Go.builtin .len ats ty cs args = (do pure (.value (← Builtin.len_ ats ty args))) := rfl
theorem b_min (ats : Array TypeId) (ty : TypeId) (cs : Array Bool) (args : Array Value) : Go.builtin .min ats ty cs args = (do pure (.value (← Builtin.min_ ats ty args))) := rfl
theorem b_max (ats : Array TypeId) (ty : TypeId) (cs : Array Bool) (args : Array Value) : Go.builtin .max ats ty cs args = (do pure (.value (← Builtin.max_ ats ty args))) := rfl
theorem b_append (ats : Array TypeId) (ty : TypeId) (cs : Array Bool) (args : Array Value) : Go.builtin .append ats ty cs args = (do pure (.value (← Builtin.append_ ats ty args))) := rfl

theorem b_copy (ats : Array TypeId) (ty : TypeId) (cs : Array Bool) (args : Array Value) : Go.builtin .copy ats ty cs args = (do pure (.value (← Builtin.copy_ ats ty args))) := rfl
theorem b_clear (ats : Array TypeId) (ty : TypeId) (cs : Array Bool) (args : Array Value) : Go.builtin .clear ats ty cs args = (do pure (.value (← Builtin.clear_ ats ty args))) := rfl

theorem two_args {args : Array Operand} {x y : Rd} (hreps : Reps c ([x, y].map s.ev) (args.toList.map a.eval)) : ∃ v u, args.map a.eval = #[v, u] ∧ Rep c (s.ev x) v ∧ Rep c (s.ev y) u := by
  have hl := hreps.len
  simp at hl
  obtain ⟨v, u, hv⟩ : ∃ v u, args.toList = [v, u] := by
    have hl' : args.toList.length = 2 := by simpa using hl
    match h : args.toList, hl' with
    | [v, u], _ => exact ⟨v, u, rfl⟩
  have h0 := hreps.rep 0 (by simp) (by simp [hv])
  have h1 := hreps.rep 1 (by simp) (by simp [hv])
  exact ⟨a.eval v, a.eval u, by apply Array.toList_inj.1; simp [hv], by simpa [hv] using h0, by simpa [hv] using h1⟩

theorem op_builtin {o : Oper} {b : Builtin} {args : Array Operand} {ats : Array TypeId} (ho : o.op = .call { callee := .builtin b, args, argTypes := ats }) {oo : O} (h : cOp P imp dr j o.op = some oo) (hs : Sim c s a w) (hW : WO X oo s K) : OpGoes P o a c w s K := by
  rw [ho] at h
  obtain ⟨dst, op, ty, pos, after, guard⟩ := o
  simp only at ho
  subst ho
  have he := execOp_b a.eval dst b args ats ty pos after guard
  simp only [cOp] at h
  split at h
  · rename_i rs hrs
    have hreps := cRds_rep hrs hs.fr
    unfold cBuiltin at h
    split at h
    · -- len
      rename_i t x hats
      have hargs : ∃ v, args.map a.eval = #[v] ∧ Rep c (s.ev x) v := by
        have hl := hreps.len
        simp at hl
        obtain ⟨v, hv⟩ : ∃ v, args.toList = [v] := List.length_eq_one_iff.1 (by simpa using hl)
        have := hreps.rep 0 (by simp) (by simp [hv])
        refine ⟨a.eval v, by apply Array.toList_inj.1; simp [hv], by simpa [hv] using this⟩
      obtain ⟨v, hv, hrep⟩ := hargs
      have hat : ats = #[t] := by apply Array.toList_inj.1; simpa using hats
      subst hat
      rw [hv, b_len] at he
      split at h
      · rename_i hst
        injection h with h; subst h
        obtain ⟨d, hd, hW⟩ := K1_ok hW
        simp only [qv] at hd
        cases hn : strLen (s.ev x) with
        | none => rw [hn] at hd; cases hd
        | some n =>
          rw [hn] at hd; injection hd with hd; subst hd
          exact goes_quiet hs he hW ⟨_, lens_sound (isStr_ok hst) hrep hn ty, Rep.int _ _⟩
      · split at h
        · rename_i hsl
          obtain ⟨e, hsl⟩ := Option.isSome_iff_exists.1 hsl
          injection h with h; subst h
          obtain ⟨d, hd, hW⟩ := K1_ok hW
          simp only [qv] at hd
          cases hn : lenD (s.ev x) with
          | none => rw [hn] at hd; cases hd
          | some n =>
            rw [hn] at hd; injection hd with hd; subst hd
            exact goes_quiet hs he hW ⟨_, len_sound hsl hrep hn ty, Rep.int _ _⟩
        · cases h
    · rename_i x y
      obtain ⟨v, u, hv, hrep, hrep'⟩ := two_args hreps
      rw [hv, b_min] at he
      injection h with h; subst h
      obtain ⟨d, hd, hW⟩ := K1_ok hW
      exact goes_quiet hs he hW (mn_sound hrep hrep' hd)
    · rename_i x y
      obtain ⟨v, u, hv, hrep, hrep'⟩ := two_args hreps
      rw [hv, b_max] at he
      injection h with h; subst h
      obtain ⟨d, hd, hW⟩ := K1_ok hW
      exact goes_quiet hs he hW (mx_sound hrep hrep' hd)
    · rename_i st xt x y hats
      obtain ⟨v, u, hv, hrep, hrep'⟩ := two_args hreps
      rw [hv, b_append] at he
      have hat : ats = #[st, xt] := by apply Array.toList_inj.1; simpa using hats
      subst hat
      split at h
      · rename_i e hsl
        split at h
        · rename_i sz by_ z hsz hby hz
          split at h
          · rename_i hc
            simp only [Bool.and_eq_true, beq_iff_eq, Bool.or_eq_true, Bool.not_eq_true'] at hc
            obtain ⟨⟨h1, h2⟩, h3⟩ := hc
            injection h with h
            have hstr : ∀ l, s.ev y = .str l → isStr P xt = true → sz = 1 := by
              intro l hl hst
              rcases h3 with h3 | h3
              · rw [hst] at h3; cases h3
              · exact h3
            split at h
            · subst h
              obtain ⟨d, s', hk, ht, hy⟩ := appm_sound (P := P) hs.inv hsl h1 hsz hby hz h2 ty hrep hrep' hstr rfl hs.T _ hW
              exact goes_yld he hk ht hy
            subst h
            obtain ⟨d, s', hk, ht, hy⟩ := app_sound (P := P) hs.inv hsl h1 hsz hby hz h2 ty hrep hrep' hstr rfl hs.T hW
            exact goes_yld he hk ht hy
          · cases h
        · cases h
      · cases h
    · rename_i dt st x y hats
      obtain ⟨v, u, hv, hrep, hrep'⟩ := two_args hreps
      rw [hv, b_copy] at he
      have hat : ats = #[dt, st] := by apply Array.toList_inj.1; simpa using hats
      subst hat
      split at h
      · rename_i e hsl
        split at h
        · rename_i sz hsz
          injection h with h; subst h
          obtain ⟨d, s', hk, ht, hy⟩ := copy_sound (P := P) (st := st) hs.inv hsl hsz ty hrep hrep' rfl hs.T hW
          exact goes_yld he hk ht hy
        · cases h
      · cases h
    · rename_i t x hats
      have hargs : ∃ v, args.map a.eval = #[v] ∧ Rep c (s.ev x) v := by
        have hl := hreps.len
        simp at hl
        obtain ⟨v, hv⟩ : ∃ v, args.toList = [v] := List.length_eq_one_iff.1 (by simpa using hl)
        have := hreps.rep 0 (by simp) (by simp [hv])
        refine ⟨a.eval v, by apply Array.toList_inj.1; simp [hv], by simpa [hv] using this⟩
      obtain ⟨v, hv, hrep⟩ := hargs
      have hat : ats = #[t] := by apply Array.toList_inj.1; simpa using hats
      subst hat
      rw [hv, b_clear] at he
      split at h
      · rename_i e hsl
        split at h
        · rename_i z hz
          injection h with h; subst h
          obtain ⟨d, s', hk, ht, hy⟩ := clr_sound (P := P) hs.inv hsl hz ty hrep rfl hs.T hW
          exact goes_yld he hk ht hy
        · cases h
      · cases h
    · cases h
  · cases h

end GP
