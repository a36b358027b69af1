import Derived.Deep.LoopGhost
import Derived.MapKept
import Derived.Maps.RangeRun
import Derived.WideKeyRuns
import Derived.Test.YtjpbliffonimgaaM2
set_option linter.unusedSimpArgs false
set_option linter.unnecessarySimpa false
set_option linter.unusedSectionVars false
namespace GP
open Go
variable {P : Program} {X : Pred} {imp : Hn} {dr : Bool} {j : Pl} {c : Cx} {s : S} {a : Act} {w : World} {K : D → S → Prop}
theorem atK_ok {i : Nat} {z : List D} {o : Option Ob} (h : atK K s i z o) : o = some .hole ∧ K (.ptr i 0) ⟨s.t, s.H.set i (.row z), s.T⟩ := by
  unfold atK at h
  split at h
  · exact ⟨rfl, h⟩
  · exact h.elim
theorem rawK_ok {i : Nat} {z : List D} {o : Option Ob} (h : rawK K s i z o) : o = some .hole ∧ K (.ptr i 0) ⟨s.t, s.H.set i (.raw z), s.T⟩ := by
  unfold rawK at h
  split at h
  · exact ⟨rfl, h⟩
  · exact h.elim
theorem fillK_ok {i n : Nat} {a v : D} {o : Option Ob} (h : fillK K s i n a v o) : ∃ z, o = some (.raw z) ∧ a = .ptr i 0 ∧ z.length = n ∧ v.okc = true ∧ v.cells.length = n ∧ K .top ⟨s.t, s.H.set i (.row v.cells), s.T⟩ := by
  unfold fillK at h
  split at h
  · exact ⟨_, rfl, h⟩
  · exact h.elim
theorem goes_push (hs : Sim c s a w) {o : Oper} {e : TypeId} {m : Sem Value} (he : execOp a.eval o = do pure (.value (← m))) {cs : List D} {vs : List Value} (hc : Cells c cs vs)
    (hm : m.run P w = .ok (.pointer (some ⟨w.heap.size, 0, none⟩)) (w.alloc (.cells vs.toArray e))) (hk : K (.ptr s.H.length 0) ⟨s.t, s.H ++ [.row cs], s.T⟩) : OpGoes P o a c w s K := by
  have := new_row hs.inv (e := e) hc (o := s.H.length) (hs.inv.free _ (.inl (Nat.le_refl _))) (H' := s.H ++ [.row cs]) (push_at _ _) rfl (fun o h => push_other _ _ o h) hs.T
  rw [← hm] at this
  exact goes_yld he hk rfl this
theorem goes_set (hs : Sim c s a w) {o : Oper} {e : TypeId} {m : Sem Value} (he : execOp a.eval o = do pure (.value (← m))) {cs : List D} {vs : List Value} (hc : Cells c cs vs)
    (hm : m.run P w = .ok (.pointer (some ⟨w.heap.size, 0, none⟩)) (w.alloc (.cells vs.toArray e))) {i : Nat} (hi : s.H[i]? = some .hole) {x0 : Ob} (hx0 : x0.cells? = some cs) (hk : K (.ptr i 0) ⟨s.t, s.H.set i x0, s.T⟩) : OpGoes P o a c w s K := by
  have hlt : i < s.H.length := by
    rcases Nat.lt_or_ge i s.H.length with h' | h'
    · exact h'
    · rw [List.getElem?_eq_none h'] at hi; cases hi
  have := new_row hs.inv (e := e) hc (o := i) (hs.inv.free _ (.inr hi)) (H' := s.H.set i x0) (by simp [hlt]) hx0 (fun o h => by rw [List.getElem?_set_ne (Ne.symm h)]) hs.T
  rw [← hm] at this
  exact goes_yld he hk rfl this
theorem op_alloc {o : Oper} {t : TypeId} (ho : o.op = .alloc t) {oo : O} (h : cOp P imp dr j o.op = some oo) (hs : Sim c s a w) (hW : WO X oo s K) : OpGoes P o a c w s K := by
  rw [ho] at h
  simp only [cOp] at h
  split at h
  · rename_i z hz
    injection h with h; subst h
    obtain ⟨zv, z1, z2⟩ := run_zero (P := P) hz c
    have he : execOp a.eval o = (do pure (.value (← Instr.alloc t true (.tuple #[])))) := by unfold execOp; simp only [ho]
    have hm : (Instr.alloc t true (.tuple #[])).run P w = .ok (.pointer (some ⟨w.heap.size, 0, none⟩)) (w.alloc (.cells zv.cells.toList.toArray t)) := by
      simp [Instr.alloc, z1, newVar, newRow]
    cases dr
    · exact goes_push hs he z2 hm hW
    · simp only [if_true] at hW
      split at hW
      · obtain ⟨h1, h2⟩ := rawK_ok hW.2
        exact goes_set hs he z2 hm h1 rfl h2
      · obtain ⟨h1, h2⟩ := atK_ok hW
        exact goes_set hs he z2 hm h1 rfl h2
  · cases h
theorem op_box {o : Oper} {t : TypeId} {x : Operand} (ho : o.op = .box t x) {oo : O} (h : cOp P imp dr j o.op = some oo) (hs : Sim c s a w) (hW : WO X oo s K) : OpGoes P o a c w s K := by
  rw [ho] at h
  simp only [cOp] at h
  split at h
  · rename_i r hr
    injection h with h; subst h
    have hrep := cRd_rep hr hs.fr
    have he : execOp a.eval o = (do pure (.value (← Instr.box t (a.eval x)))) := by unfold execOp; simp only [ho]
    have hm : (Instr.box t (a.eval x)).run P w = .ok (.pointer (some ⟨w.heap.size, 0, none⟩)) (w.alloc (.cells (a.eval x).cells.toList.toArray t)) := by
      simp [Instr.box, newVar, newRow]
    generalize hdb : (dr && !imp.imp 1000002) = db at hW
    cases db
    · obtain ⟨hk, hW⟩ := hW
      exact goes_push hs he (hrep.cells hk) hm hW
    · obtain ⟨hk, hW⟩ := hW
      obtain ⟨h1, h2⟩ := atK_ok hW
      exact goes_set hs he (hrep.cells hk) hm h1 rfl h2
  · cases h
theorem op_bsl {o : Oper} {t : TypeId} {n : Nat} {ps : Array (Nat × Operand)} (ho : o.op = .buildSlice t n ps) {oo : O} (h : cOp P imp dr j o.op = some oo) (hs : Sim c s a w) (hW : WO X oo s K) : OpGoes P o a c w s K := by
  rw [ho] at h
  simp only [cOp] at h
  split at h
  · rename_i e ht
    split at h
    · rename_i sz rs hsz hrs
      split at h
      · rename_i hc
        simp only [Bool.and_eq_true, decide_eq_true_eq] at hc
        obtain ⟨⟨⟨hidx, hz⟩, hsmall⟩, hn⟩ := hc
        injection h with h
        have hreps := cRds_rep hrs hs.fr
        have hlen : ps.toList.length = n := by
          simp only [idxs?, beq_iff_eq] at hidx
          have := congrArg List.length hidx
          simpa using this
        have hrl : rs.length = n := by have := hreps.len; simp at this; rw [← this]; simpa using hlen
        have hparts : (ps.map fun (i, x) => (i, a.eval x)) = (((ps.toList.map (·.2)).map a.eval).zipIdx 0 |>.map fun p => (p.2, p.1)).toArray := by
          apply Array.toList_inj.1
          simp only [Array.toList_map]
          simp only [idxs?, beq_iff_eq] at hidx
          apply List.ext_getElem
          · simp
          · intro i h1 h2
            have hi : i < ps.toList.length := by simpa using h1
            have : (ps.toList.map (·.1))[i]'(by simpa using hi) = i := by simp only [hidx]; simp
            simp only [List.getElem_map] at this
            have this : ps[i].1 = i := by simpa using this
            simp [this]
        have he : execOp a.eval o = (do pure (.value (← Instr.buildSlice t n (((ps.toList.map (·.2)).map a.eval).zipIdx 0 |>.map fun p => (p.2, p.1)).toArray))) := by
          unfold execOp; simp only [ho, hparts]
        have key : ∀ (hf : (rs.map s.ev).all (fit sz) = true), (Instr.buildSlice t n (((ps.toList.map (·.2)).map a.eval).zipIdx 0 |>.map fun p => (p.2, p.1)).toArray).run P w =
            .ok (.slice (some ⟨w.heap.size, 0, none⟩) n n) (w.alloc (.cells (((ps.toList.map (·.2)).map a.eval).map fun v => v.cells.toList).flatten.toArray e)) ∧ Elems c sz (rs.map s.ev) (((ps.toList.map (·.2)).map a.eval).map fun v => v.cells.toList) := by
          intro hf
          have hel := hreps.elems hf
          have hvl : ((ps.toList.map (·.2)).map a.eval).length = n := by simpa using hlen
          have := run_bsl (P := P) (w := w) ht hsz hz ((ps.toList.map (·.2)).map a.eval) (fun v hv => by
            have := hel.sz' v.cells.toList (List.mem_map.2 ⟨v, hv, rfl⟩)
            simpa using this) (by rw [hvl]; exact hsmall) c
          rw [hvl] at this
          exact ⟨this, hel⟩
        have hl62 : (rs.map s.ev).length < 2 ^ 62 := by simp only [List.length_map, hrl]; omega
        have hxl : (rs.map s.ev).length = n := by simp [hrl]
        cases hdr : (dr && !j.re)
        · rw [hdr] at h
          simp only [Bool.false_eq_true, if_false] at h
          split at h
          · subst h
            obtain ⟨hf, hW⟩ := hW
            obtain ⟨k1, k2⟩ := key hf
            have := new_ms hs.inv [] e k2.cells (hs.inv.free s.H.length (.inl (Nat.le_refl _))) (H' := s.H ++ [.row (flatD (rs.map s.ev))]) (push_at _ _) (fun o' h => push_other _ _ o' h) hs.T (ag := tag P e == some true) (sz := sz) (n := n) (cap := n) (rc := n)
              (Nat.le_refl _) rfl (by rw [flat_len _ k2.sz', k2.len, hxl]; simp)
            rw [List.append_nil, ← k1] at this
            rw [hrl] at hW
            exact goes_yld he hW rfl this
          subst h
          obtain ⟨hf, hW⟩ := hW
          obtain ⟨k1, k2⟩ := key hf
          have := fresh_tok hs.inv k2 e hl62 [] (0, 0) (fun i _ => by simp) (cap := n) (by rw [hxl]; exact Nat.le_refl _) (by rw [flat_len _ k2.sz', k2.len, hxl]; simp) (τ := s.T.length) (T' := s.T ++ [some (rs.length, sz)])
            (by simp) (fun h => by rw [hs.T] at h; omega) (fun j hj => by
              rw [hs.T]
              rcases Nat.lt_or_ge j s.T.length with h' | h'
              · rw [List.getElem?_append_left h']
              · rw [List.getElem?_eq_none (by simp; omega), List.getElem?_eq_none h']) (by rw [hs.T]; simp)
          rw [List.append_nil, hxl, ← k1] at this
          exact goes_yld he hW rfl this
        · rw [hdr] at h
          simp only [if_true] at h; subst h
          obtain ⟨d, hd, hW⟩ := K1_ok hW
          simp only [qv] at hd
          split at hd
          · rename_i hf
            injection hd with hd; subst hd
            obtain ⟨k1, k2⟩ := key hf
            have := fresh_slq hs.inv k2 e hl62 hs.T
            rw [hxl, ← k1] at this
            exact goes_yld he hW rfl this
          · cases hd
      · cases h
    · cases h
  · cases h
theorem op_store {o : Oper} {t : TypeId} {x v : Operand} (ho : o.op = .store t x v) {oo : O} (h : cOp P imp dr j o.op = some oo) (hs : Sim c s a w) (hW : WO X oo s K) : OpGoes P o a c w s K := by
  rw [ho] at h
  simp only [cOp] at h
  split at h
  · rename_i n r q hn hr hq
    injection h with h
    split at h
    · subst h
      obtain ⟨_, hW⟩ := hW
      change fillK K s _ n (s.ev r) (s.ev q) _ at hW
      obtain ⟨z, hz, ha, hzl, h1, h2, hk⟩ := fillK_ok hW
      obtain ⟨w', e1, e2, e3⟩ := store_any (P := P) hs.inv hn (cRd_rep hr hs.fr) (cRd_rep hq hs.fr) ha hz rfl h1 h2 (by omega)
      rw [List.take_zero, List.nil_append, List.drop_eq_nil_of_le (by omega), List.append_nil] at e2
      refine .inr (.inl ⟨w', ?_, ⟨_, _, c, hk, rfl, Rep.top _, e2, Cx.le.refl c, hs.T, e3⟩⟩)
      unfold execOp
      simp [ho, e1]
    · subst h
      change storeK n K s (s.ev r) (s.ev q) at hW
      unfold storeK at hW
      split at hW
      · rename_i o' off hev
        split at hW
        · rename_i cs hH
          obtain ⟨h1, h2, h3, hk⟩ := hW
          obtain ⟨w', e1, e2, e3⟩ := store_sound (P := P) hs.inv hn (cRd_rep hr hs.fr) (cRd_rep hq hs.fr) hev hH h1 h2 h3
          refine .inr (.inl ⟨w', ?_, ⟨_, _, c, hk, rfl, Rep.top _, e2, Cx.le.refl c, hs.T, e3⟩⟩)
          unfold execOp
          simp [ho, e1]
        · exact hW.elim
      · exact hW.elim
  · cases h
theorem op_build {o : Oper} {t : TypeId} {ps : Array (Nat × Operand)} (ho : o.op = .build t ps) {oo : O} (h : cOp P imp dr j o.op = some oo) (hs : Sim c s a w) (hW : WO X oo s K) : OpGoes P o a c w s K := by
  rw [ho] at h
  have he : execOp a.eval o = (do pure (.value (← Instr.build t (ps.toList.map fun p => (p.1, a.eval p.2)).toArray))) := by
    unfold execOp; simp only [ho]
    congr 2
    apply Array.toList_inj.1
    simp
  simp only [cOp] at h
  split at h
  · rename_i z hz
    split at h
    · rename_i fs _ ht
      split at h
      · rename_i l hl
        split at h
        · rename_i hall
          injection h with h; subst h
          obtain ⟨d, hd, hW⟩ := K1_ok hW
          simp only [qv, buildD] at hd
          split at hd
          · rename_i hfit
            have hok : (l.all fun p => (s.ev p.2.2).okc) = true := List.all_eq_true.2 fun p hp => by
              have := List.all_eq_true.1 hfit _ (List.mem_map.2 ⟨p, hp, rfl⟩)
              simp only [fit, Bool.and_eq_true] at this
              exact this.1
            have hsz : ((l.map fun p => (p.1, p.2.1, s.ev p.2.2)).all fun p => p.2.2.cells.length == p.2.1) = true := List.all_eq_true.2 fun p hp => by
              have := List.all_eq_true.1 hfit p hp
              simp only [fit, Bool.and_eq_true] at this
              exact this.2
            cases hfd : fillD z ((l.map fun p => (p.1, p.2.1, s.ev p.2.2)).map fun p => (p.1, p.2.2.cells)) with
            | none => rw [hfd] at hd; cases hd
            | some r =>
              rw [hfd] at hd; injection hd with hd; subst hd
              exact goes_quiet hs he hW (build_struct (P := P) (w := w) ht hz (parts_rep hs.fr hl hok) hall hsz hfd)
          · cases hd
        · cases h
      · cases h
    · rename_i len e _ ht
      split at h
      · rename_i sz hsz0
        split at h
        · rename_i l hl
          injection h with h; subst h
          obtain ⟨d, hd, hW⟩ := K1_ok hW
          simp only [qv, buildD] at hd
          split at hd
          · rename_i hfit
            have hok : (l.all fun p => (s.ev p.2.2).okc) = true := List.all_eq_true.2 fun p hp => by
              have := List.all_eq_true.1 hfit _ (List.mem_map.2 ⟨p, hp, rfl⟩)
              simp only [fit, Bool.and_eq_true] at this
              exact this.1
            have hsz : ((l.map fun p => (p.1, p.2.1, s.ev p.2.2)).all fun p => p.2.2.cells.length == p.2.1) = true := List.all_eq_true.2 fun p hp => by
              have := List.all_eq_true.1 hfit p hp
              simp only [fit, Bool.and_eq_true] at this
              exact this.2
            cases hfd : fillD z ((l.map fun p => (p.1, p.2.1, s.ev p.2.2)).map fun p => (p.1, p.2.2.cells)) with
            | none => rw [hfd] at hd; cases hd
            | some r =>
              rw [hfd] at hd; injection hd with hd; subst hd
              exact goes_quiet hs he hW (build_array (P := P) (w := w) ht hsz0 hz (parts_rep hs.fr hl hok) hsz hfd)
          · cases hd
        · cases h
      · cases h
    · cases h
  · cases h
theorem op_bin {o : Oper} {op : BinOp} {t t' : TypeId} {x y : Operand} (ho : o.op = .binOp op t x y t') {oo : O} (h : cOp P imp dr j o.op = some oo) (hs : Sim c s a w) (hW : WO X oo s K) : OpGoes P o a c w s K := by
  rw [ho] at h
  have he : execOp a.eval o = (do pure (.value (← (do eqGuard op t x y (a.eval x) (a.eval y); Go.binOp op t (a.eval x) (a.eval y) : Sem Value)))) := by unfold execOp; simp only [ho]
  simp only [cOp] at h
  split at h
  · rename_i r q hr hq
    have hxr := cRd_rep hr hs.fr
    have hyr := cRd_rep hq hs.fr
    have plain : ∀ oo', some (O.bin op r q) = some oo' → WO X oo' s K → OpGoes P o a c w s K := by
      intro oo' h' hW'
      injection h' with h'; subst h'
      obtain ⟨d, hd, hW'⟩ := K1_ok hW'
      exact goes_quiet hs he hW' (bin_sound hxr hyr hd)
    split at h
    · rename_i hop
      have hneg : op = (if (op == BinOp.neq) = true then BinOp.neq else .eql) := by
        simp only [Bool.or_eq_true, beq_iff_eq] at hop
        rcases hop with h | h <;> subst h <;> rfl
      split at h
      · rename_i ks hks
        injection h with h; subst h
        obtain ⟨d, hd, hW⟩ := K1_ok hW
        simp only [qv] at hd
        unfold eqaD at hd
        split at hd
        · rename_i xs ys e1 e2
          split at hd
          · rename_i hk
            cases hb : eqCells xs ys with
            | none => rw [hb] at hd; cases hd
            | some b =>
              rw [hb] at hd; injection hd with hd; subst hd
              refine goes_quiet hs he hW ⟨_, ?_, Rep.bool _⟩
              have := eqa_sound (P := P) (w := w) hks hxr hyr e1 e2 hk hb (op == .neq) x y
              rw [← hneg] at this
              exact this
          · cases hd
        · cases hd
      · split at h
        · rename_i k hk
          split at h
          · rename_i hz
            injection h with h; subst h
            simp only [Bool.and_eq_true, beq_iff_eq] at hz
            obtain ⟨⟨_, hz1⟩, hz2⟩ := hz
            subst hz1
            have hq : q = .k .nils := by
              unfold isNl at hz2
              split at hz2
              · rfl
              · cases hz2
            subst hq
            have hyr' : Rep c .nils (a.eval y) := hyr
            have key : ∀ b : Bool, K (.bool (b != (op == .neq))) s → (do eqGuard op t x y (a.eval x) (a.eval y); Go.binOp op t (a.eval x) (a.eval y) : Sem Value).run P w = .ok (.bool (b != (op == .neq))) w → OpGoes P o a c w s K := fun b hK hr => goes_quiet hs he hK ⟨_, hr, Rep.bool _⟩
            have hyv : a.eval y = .slice none 0 0 := by
              generalize a.eval y = v at hyr'
              cases hyr'; rfl
            have hWx : isnK (op == .neq) K s (s.ev r) := hW
            have both : ∀ (u : Option Addr) (i j : Nat), a.eval x = .slice u i j → K (.bool (true != (op == .neq))) s → K (.bool (false != (op == .neq))) s → OpGoes P o a c w s K := fun u i j e k1 k2 => by
              cases u with
              | none =>
                refine key true k1 ?_
                rw [e, hyv]
                have := isn_run (P := P) (w := w) (i := i) (j := j) (b := true) (u := none) hk rfl (op == .neq) x y
                rw [← hneg] at this
                exact this
              | some u =>
                refine key false k2 ?_
                rw [e, hyv]
                have := isn_run (P := P) (w := w) (i := i) (j := j) (b := false) (u := some u) hk rfl (op == .neq) x y
                rw [← hneg] at this
                exact this
            cases hxd : s.ev r with
            | nils =>
              rw [hxd] at hWx hxr
              refine key true hWx ?_
              have := eq1_sound (P := P) (w := w) hk hxr hyr' (b := true) rfl (op == .neq) x y (fun e => by cases e)
              rw [← hneg] at this
              exact this
            | ms ag z o' off n cap =>
              rw [hxd] at hWx hxr
              refine key false hWx ?_
              have := eq1_sound (P := P) (w := w) hk hxr hyr' (b := false) rfl (op == .neq) x y (fun e => by cases e)
              rw [← hneg] at this
              exact this
            | e0 =>
              rw [hxd] at hWx hxr
              obtain ⟨k1, k2⟩ := hWx
              have : ∃ u, a.eval x = .slice u 0 0 := by
                generalize a.eval x = v at hxr
                cases hxr
                exact ⟨_, rfl⟩
              obtain ⟨u, hu⟩ := this
              exact both u 0 0 hu k1 k2
            | sl τ xs =>
              rw [hxd] at hWx hxr
              cases xs with
              | nil =>
                obtain ⟨k1, k2⟩ := hWx
                have : ∃ u j, a.eval x = .slice u 0 j := by
                  generalize a.eval x = v at hxr
                  cases hxr
                  exact ⟨_, _, rfl⟩
                obtain ⟨u, j, hu⟩ := this
                exact both u 0 j hu k1 k2
              | cons y' xs =>
                refine key false hWx ?_
                have := eq1_sound (P := P) (w := w) hk hxr hyr' (b := false) rfl (op == .neq) x y (fun e => by cases e)
                rw [← hneg] at this
                exact this
            | _ => rw [hxd] at hWx; exact hWx.elim
          split at h
          · rename_i hc
            injection h with h; subst h
            obtain ⟨d, hd, hW⟩ := K1_ok hW
            simp only [qv] at hd
            cases hb : eq1D k (s.ev r) (s.ev q) with
            | none => rw [hb] at hd; cases hd
            | some b =>
              rw [hb] at hd; injection hd with hd; subst hd
              refine goes_quiet hs he hW ⟨_, ?_, Rep.bool _⟩
              have := eq1_sound (P := P) (w := w) hk hxr hyr hb (op == .neq) x y (fun e => by subst e; simpa using hc)
              rw [← hneg] at this
              exact this
          · cases h
        · exact plain oo h hW
    · exact plain oo h hW
  · cases h
theorem op_conv {o : Oper} {src dst : TypeId} {x : Operand} (ho : o.op = .convert src dst x) {oo : O} (h : cOp P imp dr j o.op = some oo) (hs : Sim c s a w) (hW : WO X oo s K) : OpGoes P o a c w s K := by
  rw [ho] at h
  have he : execOp a.eval o = (do pure (.value (← Go.convert src dst (a.eval x)))) := by unfold execOp; simp only [ho]
  simp only [cOp] at h
  split at h
  · rename_i r hr
    have hxr := cRd_rep hr hs.fr
    unfold cConv at h
    split at h
    · rename_i k hk
      split at h
      · rename_i hsrc
        injection h with h; subst h
        obtain ⟨d, hd, hW⟩ := K1_ok hW
        simp only [qv] at hd
        split at hd
        · rename_i k' n hev
          injection hd with hd; subst hd
          rw [hev] at hxr
          generalize a.eval x = v at *
          cases hxr
          exact goes_quiet hs he hW ⟨_, conv_sound hsrc (intOf_ok hk), Rep.int _ _⟩
        · cases hd
      · cases h
    · split at h
      · rename_i hds
        split at h
        · rename_i hss
          injection h with h; subst h
          obtain ⟨d, hd, hW⟩ := K1_ok hW
          simp only [qv] at hd
          split at hd
          · rename_i l hev
            injection hd with hd; subst hd
            rw [hev] at hxr
            generalize a.eval x = v at *
            refine goes_quiet hs he hW ⟨v, ?_, hxr⟩
            cases hxr
            simp [Go.convert, run_underlying (isStr_ok hss), run_underlying (isStr_ok hds)]
          · cases hd
        · split at h
          · rename_i e hsl
            split at h
            · rename_i h8
              injection h with h
              split at h
              · subst h
                obtain ⟨d, hd, hW⟩ := K1_ok hW
                exact goes_quiet hs he hW (b2m_sound (sliceOf_eq hsl) (isInt8_ok h8) (isStr_ok hds) hs.inv hxr hd)
              · subst h
                obtain ⟨d, hd, hW⟩ := K1_ok hW
                exact goes_quiet hs he hW (b2s_sound (sliceOf_eq hsl) (isInt8_ok h8) (isStr_ok hds) hs.inv hxr hd)
            · cases h
          · cases h
      · split at h
        · rename_i hss
          split at h
          · rename_i e hsl
            split at h
            · rename_i h8
              cases dr
              · simp only [Bool.false_eq_true, if_false] at h
                injection h with h; subst h
                change s2bK K s (s.ev r) at hW
                unfold s2bK at hW
                split at hW
                · rename_i l hev
                  rw [hev] at hxr
                  exact goes_yld he hW rfl (s2b_sound (P := P) hs.inv (isStr_ok hss) (sliceOf_eq hsl) (isInt8_ok h8) hxr hs.T)
                · exact hW.elim
              · simp only [if_true] at h
                injection h with h; subst h
                obtain ⟨d, hd, hW⟩ := K1_ok hW
                simp only [qv] at hd
                split at hd
                · rename_i l hev
                  injection hd with hd; subst hd
                  rw [hev] at hxr
                  exact goes_yld he hW rfl (s2bq_sound (P := P) hs.inv (isStr_ok hss) (sliceOf_eq hsl) (isInt8_ok h8) hxr hs.T)
                · cases hd
            · cases h
          · cases h
        · cases h
  · cases h
theorem op_slice {o : Oper} {t : TypeId} {x : Operand} {lo hi mx : Option Operand} (ho : o.op = .slice t x lo hi mx) {oo : O} (h : cOp P imp dr j o.op = some oo) (hs : Sim c s a w) (hW : WO X oo s K) : OpGoes P o a c w s K := by
  rw [ho] at h
  cases mx with
  | some m =>
    have he : execOp a.eval o = (do pure (.value (← Instr.sliceAt t (a.eval x) (lo.map a.eval) (hi.map a.eval) ((some m).map a.eval)))) := by unfold execOp; simp only [ho]
    simp only [cOp] at h
    split at h
    · rename_i r l p q hr hl hp hq
      split at h
      · rename_i e hsl
        split at h
        · rename_i sz hsz
          injection h with h; subst h
          obtain ⟨d, hd, hW⟩ := K1_ok hW
          simp only [qv] at hd
          split at hd
          · rename_i n hn
            have hhi : ∃ r x, some p = some r ∧ hi = some x ∧ cRd x = some r := by
              rcases optRd_ok hp with ⟨e, _⟩ | ⟨r', x', e1, e2, e3⟩
              · cases e
              · exact ⟨r', x', e1, e2, e3⟩
            exact goes_quiet hs he hW (sls3_sound hsl hsz hs.fr (optRd_ok hl) hhi ⟨q, m, rfl, rfl, hq⟩ (cRd_rep hr hs.fr) hn hd)
          · cases hd
        · cases h
      · cases h
    · cases h
  | none =>
    have he : execOp a.eval o = (do pure (.value (← Instr.sliceAt t (a.eval x) (lo.map a.eval) (hi.map a.eval) none))) := by unfold execOp; simp only [ho]; rfl
    simp only [cOp] at h
    split at h
    · rename_i r l q hr hl hq
      have hxr := cRd_rep hr hs.fr
      split at h
      · rename_i hst
        injection h with h; subst h
        obtain ⟨d, hd, hW⟩ := K1_ok hW
        simp only [qv] at hd
        split at hd
        · rename_i n hn
          exact goes_quiet hs he hW (subs_sound (isStr_ok hst) hs.fr (optRd_ok hl) (optRd_ok hq) hxr hn hd)
        · cases hd
      · split at h
        · rename_i e hsl
          split at h
          · rename_i sz hsz
            injection h with h; subst h
            obtain ⟨d, hd, hW⟩ := K1_ok hW
            simp only [qv] at hd
            split at hd
            · rename_i n hn
              exact goes_quiet hs he hW (sls_sound hsl hsz hs.fr (optRd_ok hl) (optRd_ok hq) hxr hn hd)
            · cases hd
          · cases h
        · cases h
    · cases h
theorem op_make {o : Oper} {t : TypeId} {x y : Operand} (ho : o.op = .makeSlice t x y) {oo : O} (h : cOp P imp dr j o.op = some oo) (hs : Sim c s a w) (hW : WO X oo s K) : OpGoes P o a c w s K := by
  rw [ho] at h
  have he : execOp a.eval o = (do pure (.value (← Instr.makeSlice t (a.eval x) (a.eval y)))) := by unfold execOp; simp only [ho]
  simp only [cOp] at h
  split at h
  · rename_i r q hr hq
    split at h
    · rename_i e hsl
      split at h
      · rename_i sz by_ z hsz hby hz
        injection h with h; subst h
        obtain ⟨d, s', hk, ht, hy⟩ := mkm_sound (P := P) hs.inv hsl hsz hby hz (cRd_rep hr hs.fr) (cRd_rep hq hs.fr) rfl hs.T hW
        exact goes_yld he hk ht hy
      · cases h
    · cases h
  · cases h
theorem op_index {o : Oper} {t : TypeId} {x i : Operand} (ho : o.op = .index t x i) {oo : O} (h : cOp P imp dr j o.op = some oo) (hs : Sim c s a w) (hW : WO X oo s K) : OpGoes P o a c w s K := by
  rw [ho] at h
  have he : execOp a.eval o = (do pure (.value (← Instr.index t (a.eval x) (a.eval i)))) := by unfold execOp; simp only [ho]
  simp only [cOp] at h
  split at h
  · rename_i r q hr hq
    have hxr := cRd_rep hr hs.fr
    have hir := cRd_rep hq hs.fr
    split at h
    · rename_i hst
      injection h with h; subst h
      obtain ⟨d, hd, hW⟩ := K1_ok hW
      exact goes_quiet hs he hW (idxs_sound (isStr_ok hst) hxr hir hd)
    · split at h
      · rename_i len e ha
        split at h
        · rename_i sz ag hsz hag
          injection h with h; subst h
          obtain ⟨d, hd, hW⟩ := K1_ok hW
          exact goes_quiet hs he hW (idxa_sound ha hsz hag hxr hir hd)
        · cases h
      · cases h
  · cases h
theorem op_iaddr {o : Oper} {t : TypeId} {x i : Operand} (ho : o.op = .indexAddr t x i) {oo : O} (h : cOp P imp dr j o.op = some oo) (hs : Sim c s a w) (hW : WO X oo s K) : OpGoes P o a c w s K := by
  rw [ho] at h
  have he : execOp a.eval o = (do pure (.value (← Instr.indexAt t (a.eval x) (a.eval i)))) := by unfold execOp; simp only [ho]
  simp only [cOp] at h
  split at h
  · rename_i r q hr hq
    have hxr := cRd_rep hr hs.fr
    have hir := cRd_rep hq hs.fr
    split at h
    · rename_i e _ hsl
      split at h
      · rename_i sz hsz
        injection h with h; subst h
        obtain ⟨d, hd, hW⟩ := K1_ok hW
        exact goes_quiet hs he hW (iaddr_sound hsl hsz hxr hir hd)
      · cases h
    · rename_i len e _ ha
      split at h
      · rename_i sz hsz
        injection h with h; subst h
        obtain ⟨d, hd, hW⟩ := K1_ok hW
        exact goes_quiet hs he hW (iarr_sound ha hsz hxr hir hd)
      · cases h
    · cases h
  · cases h
theorem op_faddr {o : Oper} {t : TypeId} {x : Operand} {k : Nat} (ho : o.op = .fieldAddr t x k) {oo : O} (h : cOp P imp dr j o.op = some oo) (hs : Sim c s a w) (hW : WO X oo s K) : OpGoes P o a c w s K := by
  rw [ho] at h
  have he : execOp a.eval o = (do pure (.value (← Instr.fieldAt t (a.eval x) k))) := by unfold execOp; simp only [ho]
  simp only [cOp] at h
  split at h
  · rename_i fs r ht hr
    have hxr := cRd_rep hr hs.fr
    split at h
    · rename_i f hf
      split at h
      · rename_i n hn
        injection h with h; subst h
        obtain ⟨d, hd, hW⟩ := K1_ok hW
        exact goes_quiet hs he hW (faddr_sound ht hf hn (by omega) hxr hd)
      · cases h
    · cases h
  · cases h
theorem op_field {o : Oper} {t : TypeId} {x : Operand} {k : Nat} (ho : o.op = .field t x k) {oo : O} (h : cOp P imp dr j o.op = some oo) (hs : Sim c s a w) (hW : WO X oo s K) : OpGoes P o a c w s K := by
  rw [ho] at h
  have he : execOp a.eval o = (do pure (.value (← Instr.field t (a.eval x) k))) := by unfold execOp; simp only [ho]
  simp only [cOp] at h
  split at h
  · rename_i fs r ht hr
    have hxr := cRd_rep hr hs.fr
    split at h
    · rename_i f hf
      split at h
      · rename_i ag n hag hn
        injection h with h; subst h
        obtain ⟨d, hd, hW⟩ := K1_ok hW
        exact goes_quiet hs he hW (field_sound ht hf hag hn hxr hd)
      · cases h
    · cases h
  · cases h
theorem op_load {o : Oper} {t : TypeId} {x : Operand} (ho : o.op = .load t x) {oo : O} (h : cOp P imp dr j o.op = some oo) (hs : Sim c s a w) (hW : WO X oo s K) : OpGoes P o a c w s K := by
  rw [ho] at h
  have he : execOp a.eval o = (do pure (.value (← Instr.loadAt t (a.eval x)))) := by unfold execOp; simp only [ho]
  simp only [cOp] at h
  split at h
  · rename_i ag n r hag hn hr
    injection h with h; subst h
    obtain ⟨d, hd, hW⟩ := K1_ok hW
    exact goes_quiet hs he hW (load_sound hs.inv (cRd_rep hr hs.fr) hag hn hd)
  · cases h
theorem execOp_b (ρ : Operand → Value) (dst : Option Tmp) (b : Builtin) (xs : Array Operand) (ats : Array TypeId) (ty : TypeId) (pos : String) (after : Array Edge) (guard : Option (Nat × Bool)) :
    execOp ρ { dst, op := .call { callee := .builtin b, args := xs, argTypes := ats }, type := ty, pos, after, guard } = Go.builtin b ats ty (xs.map fun | .const _ => true | _ => false) (xs.map ρ) := rfl
theorem b_len (ats : Array TypeId) (ty : TypeId) (cs : Array Bool) (args : Array Value) : Go.builtin .len ats ty cs args = (do pure (.value (← Builtin.len_ ats ty args))) := rfl
theorem b_cap (ats : Array TypeId) (ty : TypeId) (cs : Array Bool) (args : Array Value) : Go.builtin .cap ats ty cs args = (do pure (.value (← Builtin.cap_ ats ty args))) := rfl
theorem b_min (ats : Array TypeId) (ty : TypeId) (cs : Array Bool) (args : Array Value) : Go.builtin .min ats ty cs args = (do pure (.value (← Builtin.min_ ats ty args))) := rfl
theorem b_max (ats : Array TypeId) (ty : TypeId) (cs : Array Bool) (args : Array Value) : Go.builtin .max ats ty cs args = (do pure (.value (← Builtin.max_ ats ty args))) := rfl
theorem b_append (ats : Array TypeId) (ty : TypeId) (cs : Array Bool) (args : Array Value) : Go.builtin .append ats ty cs args = (do pure (.value (← Builtin.append_ ats ty args))) := rfl
theorem b_copy (ats : Array TypeId) (ty : TypeId) (cs : Array Bool) (args : Array Value) : Go.builtin .copy ats ty cs args = (do pure (.value (← Builtin.copy_ ats ty args))) := rfl
theorem b_clear (ats : Array TypeId) (ty : TypeId) (cs : Array Bool) (args : Array Value) : Go.builtin .clear ats ty cs args = (do pure (.value (← Builtin.clear_ ats ty args))) := rfl
theorem two_args {args : Array Operand} {x y : Rd} (hreps : Reps c ([x, y].map s.ev) (args.toList.map a.eval)) : ∃ v u, args.map a.eval = #[v, u] ∧ Rep c (s.ev x) v ∧ Rep c (s.ev y) u := by
  have hl := hreps.len
  simp at hl
  obtain ⟨v, u, hv⟩ : ∃ v u, args.toList = [v, u] := by
    have hl' : args.toList.length = 2 := by simpa using hl
    match h : args.toList, hl' with
    | [v, u], _ => exact ⟨v, u, rfl⟩
  have h0 := hreps.rep 0 (by simp) (by simp [hv])
  have h1 := hreps.rep 1 (by simp) (by simp [hv])
  exact ⟨a.eval v, a.eval u, by apply Array.toList_inj.1; simp [hv], by simpa [hv] using h0, by simpa [hv] using h1⟩
theorem maplen_sound {c : Cx} {w : World} {H : Hp} (k : Inv c w H) {t kt et : TypeId} (hu : P.underlying t = some (.map kt et)) {d : D} {es : List (D × D × Nat)} (h : entsD H d = some es) {v : Value} (hr : Rep c d v) (ty : TypeId) :
    (Builtin.len_ #[t] ty #[v]).run P w = .ok (.int .i64 (es.length : Int)) w := by
  unfold entsD at h
  split at h
  · injection h with h; subst h
    cases hr
    simp [Builtin.len_, run_underlying hu, goInt]
  · rename_i o
    split at h
    · rename_i es' clk ho
      injection h with h; subst h
      obtain ⟨_, g2⟩ := k.map o _ _ ho
      cases hr
      have : (getObj (c.β o)).run P w = .ok (.map (List.map entV es').toArray clk) w := by simp [getObj, Sem.run, g2]
      simp [Builtin.len_, run_underlying hu, this, goInt]
    · cases h
  · cases h
theorem op_builtin {o : Oper} {b : Builtin} {args : Array Operand} {ats : Array TypeId} (ho : o.op = .call { callee := .builtin b, args, argTypes := ats }) {oo : O} (h : cOp P imp dr j o.op = some oo) (hs : Sim c s a w) (hW : WO X oo s K) : OpGoes P o a c w s K := by
  rw [ho] at h
  obtain ⟨dst, op, ty, pos, after, guard⟩ := o
  simp only at ho
  subst ho
  have he := execOp_b a.eval dst b args ats ty pos after guard
  simp only [cOp] at h
  split at h
  · rename_i rs hrs
    have hreps := cRds_rep hrs hs.fr
    unfold cBuiltin at h
    split at h
    · -- len
      rename_i t x hats
      have hargs : ∃ v, args.map a.eval = #[v] ∧ Rep c (s.ev x) v := by
        have hl := hreps.len
        simp at hl
        obtain ⟨v, hv⟩ : ∃ v, args.toList = [v] := List.length_eq_one_iff.1 (by simpa using hl)
        have := hreps.rep 0 (by simp) (by simp [hv])
        refine ⟨a.eval v, by apply Array.toList_inj.1; simp [hv], by simpa [hv] using this⟩
      obtain ⟨v, hv, hrep⟩ := hargs
      have hat : ats = #[t] := by apply Array.toList_inj.1; simpa using hats
      subst hat
      rw [hv, b_len] at he
      split at h
      · rename_i hst
        injection h with h; subst h
        obtain ⟨d, hd, hW⟩ := K1_ok hW
        simp only [qv] at hd
        cases hn : strLen (s.ev x) with
        | none => rw [hn] at hd; cases hd
        | some n =>
          rw [hn] at hd; injection hd with hd; subst hd
          exact goes_quiet hs he hW ⟨_, lens_sound (isStr_ok hst) hrep hn ty, Rep.int _ _⟩
      · split at h
        · rename_i hsl
          obtain ⟨e, hsl⟩ := Option.isSome_iff_exists.1 hsl
          injection h with h; subst h
          obtain ⟨d, hd, hW⟩ := K1_ok hW
          simp only [qv] at hd
          cases hn : lenD (s.ev x) with
          | none => rw [hn] at hd; cases hd
          | some n =>
            rw [hn] at hd; injection hd with hd; subst hd
            exact goes_quiet hs he hW ⟨_, len_sound hsl hrep hn ty, Rep.int _ _⟩
        · split at h
          · rename_i hm
            obtain ⟨⟨kt, et⟩, hm⟩ := Option.isSome_iff_exists.1 hm
            injection h with h; subst h
            obtain ⟨d, hd, hW⟩ := K1_ok hW
            simp only [qv] at hd
            cases hes : entsD s.H (s.ev x) with
            | none => rw [hes] at hd; cases hd
            | some es =>
              rw [hes] at hd; injection hd with hd; subst hd
              exact goes_quiet hs he hW ⟨_, maplen_sound hs.inv (mapOf_ok hm) hes hrep ty, Rep.int _ _⟩
          · cases h
    · -- cap
      rename_i t x hats
      have hargs : ∃ v, args.map a.eval = #[v] ∧ Rep c (s.ev x) v := by
        have hl := hreps.len
        simp at hl
        obtain ⟨v, hv⟩ : ∃ v, args.toList = [v] := List.length_eq_one_iff.1 (by simpa using hl)
        have := hreps.rep 0 (by simp) (by simp [hv])
        refine ⟨a.eval v, by apply Array.toList_inj.1; simp [hv], by simpa [hv] using this⟩
      obtain ⟨v, hv, hrep⟩ := hargs
      have hat : ats = #[t] := by apply Array.toList_inj.1; simpa using hats
      subst hat
      rw [hv, b_cap] at he
      split at h
      · rename_i hsl
        obtain ⟨e, hsl⟩ := Option.isSome_iff_exists.1 hsl
        injection h with h; subst h
        obtain ⟨d, hd, hW⟩ := K1_ok hW
        simp only [qv] at hd
        cases hn : capD (s.ev x) with
        | none => rw [hn] at hd; cases hd
        | some n =>
          rw [hn] at hd; injection hd with hd; subst hd
          exact goes_quiet hs he hW ⟨_, cap_sound hsl hrep hn ty, Rep.int _ _⟩
      · cases h
    · rename_i x y
      obtain ⟨v, u, hv, hrep, hrep'⟩ := two_args hreps
      rw [hv, b_min] at he
      injection h with h; subst h
      obtain ⟨d, hd, hW⟩ := K1_ok hW
      exact goes_quiet hs he hW (mn_sound hrep hrep' hd)
    · rename_i x y
      obtain ⟨v, u, hv, hrep, hrep'⟩ := two_args hreps
      rw [hv, b_max] at he
      injection h with h; subst h
      obtain ⟨d, hd, hW⟩ := K1_ok hW
      exact goes_quiet hs he hW (mx_sound hrep hrep' hd)
    · rename_i st xt x y hats
      obtain ⟨v, u, hv, hrep, hrep'⟩ := two_args hreps
      rw [hv, b_append] at he
      have hat : ats = #[st, xt] := by apply Array.toList_inj.1; simpa using hats
      subst hat
      split at h
      · rename_i e hsl
        split at h
        · rename_i sz by_ z hsz hby hz
          split at h
          · rename_i hc
            simp only [Bool.and_eq_true, beq_iff_eq] at hc
            obtain ⟨ki, hki⟩ := isInt_ok hc.1
            injection h with h; subst h
            obtain ⟨d, s', hk, ht, hy⟩ := appz_sound (P := P) hs.inv hsl hki hsz hby hz ty hrep hrep' rfl hs.T hW
            exact goes_yld he hk ht hy
          split at h
          · rename_i hc
            simp only [Bool.and_eq_true, beq_iff_eq, Bool.or_eq_true, Bool.not_eq_true'] at hc
            obtain ⟨⟨h1, h2⟩, h3⟩ := hc
            injection h with h
            have hstr : ∀ l, s.ev y = .str l → isStr P xt = true → sz = 1 := by
              intro l hl hst
              rcases h3 with h3 | h3
              · rw [hst] at h3; cases h3
              · exact h3
            split at h
            · subst h
              obtain ⟨d, s', hk, ht, hy⟩ := appm_sound (P := P) hs.inv hsl h1 hsz hby hz h2 ty hrep hrep' hstr rfl hs.T _ hW
              exact goes_yld he hk ht hy
            subst h
            obtain ⟨d, s', hk, ht, hy⟩ := app_sound (P := P) hs.inv hsl h1 hsz hby hz h2 ty hrep hrep' hstr rfl hs.T hW
            exact goes_yld he hk ht hy
          · cases h
        · cases h
      · cases h
    · rename_i dt st x y hats
      obtain ⟨v, u, hv, hrep, hrep'⟩ := two_args hreps
      rw [hv, b_copy] at he
      have hat : ats = #[dt, st] := by apply Array.toList_inj.1; simpa using hats
      subst hat
      split at h
      · rename_i e hsl
        split at h
        · rename_i sz hsz
          injection h with h; subst h
          obtain ⟨d, s', hk, ht, hy⟩ := copy_sound (P := P) (st := st) hs.inv hsl hsz ty hrep hrep' rfl hs.T hW
          exact goes_yld he hk ht hy
        · cases h
      · cases h
    · rename_i t x hats
      have hargs : ∃ v, args.map a.eval = #[v] ∧ Rep c (s.ev x) v := by
        have hl := hreps.len
        simp at hl
        obtain ⟨v, hv⟩ : ∃ v, args.toList = [v] := List.length_eq_one_iff.1 (by simpa using hl)
        have := hreps.rep 0 (by simp) (by simp [hv])
        refine ⟨a.eval v, by apply Array.toList_inj.1; simp [hv], by simpa [hv] using this⟩
      obtain ⟨v, hv, hrep⟩ := hargs
      have hat : ats = #[t] := by apply Array.toList_inj.1; simpa using hats
      subst hat
      rw [hv, b_clear] at he
      split at h
      · rename_i e hsl
        split at h
        · rename_i z hz
          injection h with h; subst h
          obtain ⟨d, s', hk, ht, hy⟩ := clr_sound (P := P) hs.inv hsl hz ty hrep rfl hs.T hW
          exact goes_yld he hk ht hy
        · cases h
      · cases h
    · cases h
  · cases h
end GP
namespace GP
open Go
variable {P : Program} {X : Pred} {c : Cx} {w : World} {H : Hp}
def ObIs (c : Cx) (o : Nat) (x : Ob) (b : Obj) : Prop := match x with
  | .map es clk => (∀ x ∈ es, pu x.1 = true ∧ pu x.2.1 = true) ∧ b = .map (es.map entV).toArray clk
  | .iter m sn se la => (∀ x, m = some x → x < o ∧ c.bd x = true) ∧ b = .mapIter (m.map c.β) sn se.toArray la
  | _ => False
theorem ObIs.cells {o : Nat} {x : Ob} {b : Obj} (h : ObIs c o x b) : x.cells? = none ∧ x.live = true ∧ x ≠ .hole ∧ ∀ a e f, b ≠ .cells a e f := by
  cases x <;> first | exact h.elim | (refine ⟨rfl, rfl, by simp, fun a e f g => ?_⟩; rw [h.2] at g; cases g)
theorem Inv.newob (k : Inv c w H) (nn : Nat) {o : Nat} (hf : c.bd o = false) {H' : Hp} {x0 : Ob} {b0 : Obj} (hx : ObIs c o x0 b0) (h0 : H'[o]? = some x0) (hH : ∀ o', o' ≠ o → H'[o']? = H[o']?) :
    Inv (bindC c o w.heap.size nn) (w.alloc b0) H' := by
  obtain ⟨hc0, _, hnh, _⟩ := hx.cells
  have hle := bind_le (c := c) (o := o) (b := w.heap.size) (n := nn) hf
  have hβ : ∀ o', o' ≠ o → (bindC c o w.heap.size nn).β o' = c.β o' := fun o' h => by show updN _ _ _ _ = _; unfold updN; rw [if_neg h]
  have hβ0 : (bindC c o w.heap.size nn).β o = w.heap.size := by show updN _ _ _ _ = _; unfold updN; rw [if_pos rfl]
  have hz : ∀ o', o' ≠ o → (bindC c o w.heap.size nn).sz o' = c.sz o' := fun o' h => by show updN _ _ _ _ = _; unfold updN; rw [if_neg h]
  have hz0 : (bindC c o w.heap.size nn).sz o = nn := by show updN _ _ _ _ = _; unfold updN; rw [if_pos rfl]
  have hb : ∀ o', o' ≠ o → (bindC c o w.heap.size nn).bd o' = c.bd o' := fun o' h => by show updB _ _ _ = _; unfold updB; rw [if_neg h]
  have hb0 : (bindC c o w.heap.size nn).bd o = true := by show updB _ _ _ = _; unfold updB; rw [if_pos rfl]
  have hMnew : ∀ i, c.M ⟨w.heap.size, i, none⟩ = none := fun i => by
    cases hm : c.M ⟨w.heap.size, i, none⟩ with
    | none => rfl
    | some v => have := k.M_lt hm; simp at this
  have hlow := k.low
  refine ⟨?_, ?_, ?_, ?_, ?_, ?_, ?_, ?_, ?_, ?_, ?_⟩
  · intro a v h
    have h' : c.M a = some v := h
    rw [World.cell?_alloc_lt _ _ _ (k.M_lt h')]
    exact k.keep a v h'
  · rw [World.size_alloc]; exact Nat.le_succ_of_le k.low
  · intro o' x' cs' ho' hx'
    by_cases e' : o' = o
    · subst e'
      rw [h0] at ho'; injection ho' with ho'; subst ho'; rw [hc0] at hx'; cases hx'
    · rw [hH o' e'] at ho'
      rw [hβ o' e', hz o' e']
      exact (k.row o' x' cs' ho' hx').mono hle (alloc_heap (k.own o' _ ho' (Ob.live_of_cells hx')).2.2.1)
  · intro o' ho'
    by_cases e' : o' = o
    · subst e'
      rcases ho' with h | h
      · rw [List.getElem?_eq_none h] at h0; cases h0
      · rw [h0] at h; injection h with h; exact (hnh h).elim
    · rw [hb o' e']
      refine k.free o' ?_
      rcases ho' with h | h
      · refine .inl ?_
        have := hH o' e'
        rw [List.getElem?_eq_none h] at this
        exact List.getElem?_eq_none_iff.1 this.symm
      · exact .inr (by rw [← hH o' e']; exact h)
  · intro o' x ho' hx
    by_cases e' : o' = o
    · subst e'
      rw [hβ0, World.size_alloc]
      exact ⟨hb0, k.low, Nat.lt_succ_self _, hMnew⟩
    · rw [hH o' e'] at ho'
      obtain ⟨h1, h2, h3, h4⟩ := k.own o' x ho' hx
      rw [hβ o' e', hb o' e', World.size_alloc]
      exact ⟨h1, h2, Nat.lt_succ_of_lt h3, h4⟩
  · intro o1 o2 x1 x2 g1 g2 l1 l2 he
    by_cases e1 : o1 = o <;> by_cases e2 : o2 = o
    · rw [e1, e2]
    · subst e1
      rw [hβ0, hβ o2 e2] at he
      rw [hH o2 e2] at g2
      have := (k.own o2 x2 g2 l2).2.2.1
      omega
    · subst e2
      rw [hβ0, hβ o1 e1] at he
      rw [hH o1 e1] at g1
      have := (k.own o1 x1 g1 l1).2.2.1
      omega
    · rw [hβ o1 e1, hβ o2 e2] at he
      rw [hH o1 e1] at g1
      rw [hH o2 e2] at g2
      exact k.apart o1 o2 x1 x2 g1 g2 l1 l2 he
  · intro o' es clk h
    by_cases e' : o' = o
    · subst e'
      rw [h0] at h; injection h with h; subst h
      rw [hβ0, hx.2]
      exact ⟨hx.1, alloc_new w _⟩
    · rw [hH o' e'] at h
      obtain ⟨g1, g2⟩ := k.map o' es clk h
      rw [hβ o' e']
      exact ⟨g1, (alloc_heap (k.own o' _ h rfl).2.2.1).trans g2⟩
  · intro o' m sn se la h
    by_cases e' : o' = o
    · subst e'; rw [h0] at h; injection h with h; subst h
      obtain ⟨g1, g2⟩ := hx
      refine ⟨fun x e => ⟨(g1 x e).1, hle.bd x (g1 x e).2⟩, ?_⟩
      rw [hβ0, g2, alloc_new]
      cases m with
      | none => rfl
      | some x => simp only [Option.map_some, hle.β x (g1 x rfl).2]
    · rw [hH o' e'] at h; exact (k.iter o' m sn se la h).mono hle (hβ o' e') (alloc_heap (k.own o' _ h rfl).2.2.1)
  · intro τ m z hτ
    obtain ⟨h1, h2, h3, h4, h5⟩ := k.tok τ m z hτ
    refine ⟨h1, by rw [World.size_alloc]; exact Nat.lt_succ_of_lt h2, h3, h4, fun j a b => ?_⟩
    obtain ⟨g1, g2, g3⟩ := h5 j a b
    refine ⟨?_, ?_, g3⟩
    · have := World.cell?_alloc_lt w b0 ⟨(c.κ τ).1.block, (c.κ τ).1.off + j, none⟩ h2
      exact (congrArg Option.isSome this).trans g1
    · have := World.frozen?_alloc_old w b0 ⟨(c.κ τ).1.block, (c.κ τ).1.off + j, none⟩ (Nat.ne_of_lt h2)
      exact this.trans g2
  · intro τ m z o' x hτ ho' hx
    by_cases e' : o' = o
    · subst e'
      rw [hβ0]
      exact Nat.ne_of_gt (k.tok τ m z hτ).2.1
    · rw [hH o' e'] at ho'
      rw [hβ o' e']
      exact k.tokrow τ m z o' x hτ ho' hx
  · exact k.toks
theorem Inv.newmap (k : Inv c w H) (nn : Nat) {o : Nat} (hf : c.bd o = false) {H' : Hp} (h0 : H'[o]? = some (.map [] 0)) (hH : ∀ o', o' ≠ o → H'[o']? = H[o']?) :
    Inv (bindC c o w.heap.size nn) (w.alloc (.map #[] 0)) H' := k.newob nn hf (x0 := .map [] 0) ⟨by simp, rfl⟩ h0 hH
theorem new_map (k : Inv c w H) {T : Tk} (hT : c.T = T) : Yld c w (H ++ [.map [] 0]) T (.mp H.length) (.ok (.map (some w.heap.size)) (w.alloc (.map #[] 0))) := by
  have hf := k.free H.length (.inl (Nat.le_refl _))
  refine ⟨_, bindC c H.length w.heap.size 0, _, rfl, ?_, k.newmap 0 hf (push_at _ _) (fun o h => push_other _ _ o h), bind_le hf, hT, Below.of_alloc w _ k.low⟩
  have : Rep (bindC c H.length w.heap.size 0) (.mp H.length) (.map (some ((bindC c H.length w.heap.size 0).β H.length))) := Rep.mp _ (by show updB _ _ _ = _; unfold updB; rw [if_pos rfl])
  have hβ0 : (bindC c H.length w.heap.size 0).β H.length = w.heap.size := by show updN _ _ _ _ = _; unfold updN; rw [if_pos rfl]
  rwa [hβ0] at this
def setObjW (w : World) (b : Nat) (o : Obj) : World := { w with heap := w.heap.setIfInBounds b o }
theorem setob (k : Inv c w H) {o : Nat} {x1 : Ob} {b1 : Obj} (ho : H[o]? = some x1) (hx1 : ObIs c o x1 b1) (m2 : w.heap[c.β o]? = some b1) {x2 : Ob} {b2 : Obj} (hx2 : ObIs c o x2 b2) :
    Inv c (setObjW w (c.β o) b2) (H.set o x2) ∧ Below c.bb w (setObjW w (c.β o) b2) := by
  obtain ⟨_, hl1, _, hc1⟩ := hx1.cells
  obtain ⟨hc2, _, hn2, _⟩ := hx2.cells
  obtain ⟨k0, k1, k2, k3⟩ := k.own o _ ho hl1
  obtain ⟨s1, s2⟩ := MapKept.heap_set (o' := b2) m2
  have hlt : o < H.length := by
    rcases Nat.lt_or_ge o H.length with h' | h'
    · exact h'
    · rw [List.getElem?_eq_none h'] at ho; cases ho
  have hHo : (H.set o x2)[o]? = some x2 := by simp [hlt]
  have hHne : ∀ o', o' ≠ o → (H.set o x2)[o']? = H[o']? := fun o' h => by rw [List.getElem?_set_ne (Ne.symm h)]
  have hsz : (setObjW w (c.β o) b2).heap.size = w.heap.size := by simp [setObjW]
  have hcell : ∀ a : Addr, a.block ≠ c.β o → (setObjW w (c.β o) b2).cell? a = w.cell? a := fun a h => by
    have := s2 a.block h
    simp only [World.cell?, setObjW, this]
  have hfroz : ∀ a : Addr, a.block ≠ c.β o → (setObjW w (c.β o) b2).frozen? a = w.frozen? a := fun a h => by
    have := s2 a.block h
    simp only [World.frozen?, setObjW, this]
  have key : ∀ (o' : Nat) (y : Ob), (H.set o x2)[o']? = some y → y.live = true → ∃ x' : Ob, H[o']? = some x' ∧ x'.live = true := fun o' y h l => by
    by_cases e' : o' = o
    · subst e'; exact ⟨_, ho, hl1⟩
    · rw [hHne o' e'] at h; exact ⟨y, h, l⟩
  refine ⟨⟨?_, by rw [hsz]; exact k.low, ?_, ?_, ?_, ?_, ?_, ?_, ?_, ?_, k.toks⟩, ?_⟩
  · intro a v ha
    have hc := k.keep a v ha
    have hne : a.block ≠ c.β o := fun e => by
      simp only [World.cell?, e, m2] at hc
      split at hc
      · rename_i q; injection q with q; exact hc1 _ _ _ q
      · cases hc
    rw [hcell a hne]; exact hc
  · intro o' x cs h hx
    by_cases e' : o' = o
    · subst e'; rw [hHo] at h; injection h with h; subst h; rw [hc2] at hx; cases hx
    · rw [hHne o' e'] at h
      have hb := fun e => e' (k.apart o' o _ _ h ho (Ob.live_of_cells hx) hl1 e)
      exact (k.row o' x cs h hx).mono (Cx.le.refl c) (s2 _ hb)
  · intro o' h
    refine k.free o' ?_
    rcases h with h | h
    · exact .inl (by simpa using h)
    · by_cases e' : o' = o
      · subst e'; rw [hHo] at h; injection h with h; exact (hn2 h).elim
      · rw [hHne o' e'] at h; exact .inr h
  · intro o' x h hx
    rw [hsz]
    by_cases e' : o' = o
    · subst e'; exact ⟨k0, k1, k2, k3⟩
    · rw [hHne o' e'] at h; exact k.own o' x h hx
  · intro o1 o2 x1 x2 h1' h2' l1 l2 he
    obtain ⟨y1, a1, b1⟩ := key o1 x1 h1' l1
    obtain ⟨y2, a2, b2⟩ := key o2 x2 h2' l2
    exact k.apart o1 o2 y1 y2 a1 a2 b1 b2 he
  · intro o' es2 clk2 h
    by_cases e' : o' = o
    · subst e'
      rw [hHo] at h; injection h with h; subst h
      refine ⟨hx2.1, ?_⟩
      rw [← hx2.2]; exact s1
    · rw [hHne o' e'] at h
      obtain ⟨g1, g2⟩ := k.map o' es2 clk2 h
      have hb := fun e => e' (k.apart o' o _ _ h ho rfl hl1 e)
      exact ⟨g1, (s2 _ hb).trans g2⟩
  · intro o' m sn se la h
    by_cases e' : o' = o
    · subst e'; rw [hHo] at h; injection h with h; subst h
      refine ⟨hx2.1, ?_⟩
      rw [← hx2.2]; exact s1
    · rw [hHne o' e'] at h; exact (k.iter o' m sn se la h).mono (Cx.le.refl c) rfl (s2 _ fun e => e' (k.apart o' o _ _ h ho rfl hl1 e))
  · intro τ m z hτ
    obtain ⟨h1, h2, h3, h4, h5⟩ := k.tok τ m z hτ
    have hb : (c.κ τ).1.block ≠ c.β o := fun e => k.tokrow τ m z o _ hτ ho hl1 e.symm
    refine ⟨h1, by rw [hsz]; exact h2, h3, h4, fun j a b => ?_⟩
    obtain ⟨z1, z2, z3⟩ := h5 j a b
    exact ⟨(congrArg Option.isSome (hcell ⟨(c.κ τ).1.block, (c.κ τ).1.off + j, none⟩ hb)).trans z1, (hfroz ⟨(c.κ τ).1.block, (c.κ τ).1.off + j, none⟩ hb).trans z2, z3⟩
  · intro τ m z o' x hτ h hx
    by_cases e' : o' = o
    · subst e'; exact k.tokrow τ m z o' _ hτ ho hl1
    · rw [hHne o' e'] at h; exact k.tokrow τ m z o' x hτ h hx
  · exact ⟨rfl, rfl, rfl, by rw [hsz]; exact Nat.le_refl _, fun i hi => s2 i (fun e => by have hi' : i < c.B := hi; omega), fun _ => Nat.le_refl _⟩
theorem setmap (k : Inv c w H) {o : Nat} {es : List (D × D × Nat)} {clk : Nat} (ho : H[o]? = some (.map es clk)) (es' : List (D × D × Nat)) (clk' : Nat) (hp : ∀ x ∈ es', pu x.1 = true ∧ pu x.2.1 = true) :
    Inv c (setObjW w (c.β o) (.map (es'.map entV).toArray clk')) (H.set o (.map es' clk')) ∧ Below c.bb w (setObjW w (c.β o) (.map (es'.map entV).toArray clk')) :=
  setob k ho (x1 := .map es clk) ⟨(k.map o es clk ho).1, rfl⟩ (k.map o es clk ho).2 (x2 := .map es' clk') ⟨hp, rfl⟩
end GP
namespace GP
open Go
variable {P : Program} {c : Cx} {w : World} {H : Hp}
theorem eqIn_sound {t : TypeId} {ks : List Ck} (ht : cks P t = some ks) {xs ys : List D} {vx vy : List Value} (kx : Cells c xs vx) (ky : Cells c ys vy) (hk : cksD xs ks = true) {b : Bool}
    (h : eqCells xs ys = some b) : (Op.equal t (.agg vx.toArray) (.agg vy.toArray)).run P w = .ok b w := by
  show (Op.equalIn 10000 t (.agg vx.toArray) (.agg vy.toArray)).run P w = .ok b w
  unfold cks at ht
  split at ht
  · rename_i fs hu
    split at ht
    · rename_i hg
      simp at hg
      have hf : P.fieldsOf t = fs := by simp [Program.fieldsOf, hu]
      rw [show (10000 : Nat) = 9999 + 1 from rfl, run_equalIn_struct w 9999 t _ _ (by rw [hf]; exact hu) hg.1, hf]
      exact fields_sound 9998 vx vy fs.toList ks 0 xs ys b ht (by simpa using kx) (by simpa using ky) hk h
    · cases ht
  · rename_i n e hu
    split at ht
    · rename_i hg
      simp at hg
      cases hc : ckOf P e with
      | none => rw [hc] at ht; cases ht
      | some k =>
        rw [hc] at ht; injection ht with ht; subst ht
        obtain ⟨i, hi⟩ : ∃ i, P.info? e = some i := by
          have := hg.2
          unfold tsz at this
          cases hi : P.info? e with
          | none => rw [hi] at this; cases this
          | some i => exact ⟨i, rfl⟩
        have hcell : P.cellsOf e = 1 := by
          have := hg.2
          unfold tsz at this
          rw [hi] at this; injection this with this
          simp [Program.cellsOf, hi, this]
        rw [show (10000 : Nat) = 9999 + 1 from rfl, run_equalIn_array (P := P) w 9999 vx.toArray vy.toArray hu hi, hcell, List.range_eq_range']
        exact items_sound 9998 hc hg.2 vx vy n 0 xs ys b (by simpa using kx) (by simpa using ky) hk h
    · cases ht
  · cases ht
theorem cells_pu (c : Cx) {xs : List D} (h : xs.all pu1 = true) : Cells c xs (xs.map vOf1) := by
  simp only [List.all_eq_true] at h
  refine ⟨by simp, fun d hd => (rep_pu1 c (h d hd)).2, fun i hi hi' => ?_⟩
  simp only [List.getElem_map]
  exact (rep_pu1 c (h _ (List.getElem_mem hi))).1
theorem ck_under {t : TypeId} {k : Ck} (h : ckOf P t = some k) : ∃ d, P.underlying t = some d ∧ ((k = .int ∧ ∃ q, d = .int q) ∨ (k = .str ∧ d = .string) ∨ (k = .bool ∧ d = .bool)) := by
  unfold ckOf at h
  split at h <;> first | cases h | (injection h with h; subst h)
  · rename_i hu; exact ⟨_, hu, .inl ⟨rfl, _, rfl⟩⟩
  · rename_i hu; exact ⟨_, hu, .inr (.inl ⟨rfl, rfl⟩)⟩
  · rename_i hu; exact ⟨_, hu, .inr (.inr ⟨rfl, rfl⟩)⟩
theorem check1 {t : TypeId} {k : Ck} (h : ckOf P t = some k) (em : Bool) (n : Nat) (v : Value) : (Instr.checkKey em (n + 1) t v).run P w = .ok () w := by
  obtain ⟨d, hu, hd⟩ := ck_under h
  rcases hd with ⟨_, q, rfl⟩ | ⟨_, rfl⟩ | ⟨_, rfl⟩ <;> simp [Instr.checkKey, run_underlying hu]
theorem forIn_ok {α : Type} {body : α → PUnit → Sem (ForInStep PUnit)} : ∀ (l : List α), (∀ x ∈ l, (body x ⟨⟩).run P w = .ok (.yield ⟨⟩) w) → (forIn l PUnit.unit body).run P w = .ok ⟨⟩ w
  | [], _ => by simp
  | x :: l, h => by
    simp only [List.forIn_cons, Sem.run_bind, h x (by simp), Result.andThen_ok]
    exact forIn_ok l fun y hy => h y (by simp [hy])
theorem cksF_mem : ∀ (fs : List Field) (ks : List Ck) (i : Nat), cksF P i fs = some ks → ∀ f ∈ fs, f.name ≠ "_" ∧ (∃ k, ckOf P f.type = some k) ∧ f.offset < i + ks.length
  | [], _, _, _, _, hf => by cases hf
  | g :: fs, ks, i, h, f, hf => by
    simp only [cksF] at h
    split at h
    · rename_i hn
      simp at hn
      split at h
      · rename_i k ks' e1 e2
        injection h with h; subst h
        rcases List.mem_cons.1 hf with rfl | hf
        · exact ⟨hn.1, ⟨k, e1⟩, by rw [hn.2]; simp⟩
        · obtain ⟨h1, h2, h3⟩ := cksF_mem fs ks' (i + 1) e2 f hf
          exact ⟨h1, h2, by simp; omega⟩
      · cases h
    · cases h
theorem cksD_len : ∀ {xs : List D} {ks : List Ck}, cksD xs ks = true → xs.length = ks.length
  | [], [], _ => rfl
  | [], _ :: _, h => by simp [cksD] at h
  | _ :: _, [], h => by simp [cksD] at h
  | _ :: xs, _ :: ks, h => by
    simp only [cksD, Bool.and_eq_true] at h
    simp [cksD_len h.2]
theorem check_sound {kt : TypeId} {ks : Bool × List Ck} (hk : keyKs P kt = some ks) {k : D} (hok : kok ks k = true) (em : Bool) (n : Nat) : (Instr.checkKey em (n + 2) kt (vOf k)).run P w = .ok () w := by
  unfold keyKs at hk
  split at hk
  · rename_i q hq
    exact check1 hq em (n + 1) _
  · split at hk
    · rename_i l hl
      injection hk with hk; subst hk
      unfold kok at hok
      simp only [Bool.and_eq_true] at hok
      obtain ⟨hp, hok⟩ := hok
      cases k with
      | agg xs =>
        simp only at hok
        have hlen := cksD_len hok
        have hv : vOf (.agg xs) = .agg (xs.map vOf1).toArray := rfl
        rw [hv]
        unfold cks at hl
        split at hl
        · rename_i fs hu
          split at hl
          · rw [show n + 2 = (n + 1) + 1 from rfl, Instr.checkKey]
            simp only [Sem.run_bind, run_underlying hu, Result.andThen_ok]
            rw [← Array.forIn_toList, forIn_ok _ fun f hf => ?_]
            · simp
            · obtain ⟨h1, ⟨q, h2⟩, h3⟩ := cksF_mem _ _ _ hl f hf
              have lx : f.offset < (xs.map vOf1).length := by simp [hlen]; omega
              have px : (part f.type (xs.map vOf1).toArray f.offset).run P w = .ok (xs.map vOf1)[f.offset] w := by simp [part, run_isAgg (tag_ck h2)]; simp at lx; simp [lx]
              simp only [h1, ne_eq, not_false_eq_true, if_true, Sem.run_bind, px, Result.andThen_ok, check1 h2, Sem.run_pure]
          · cases hl
        · rename_i m e hu
          split at hl
          · rename_i hg
            simp at hg
            cases hc : ckOf P e with
            | none => rw [hc] at hl; cases hl
            | some q =>
              rw [hc] at hl; injection hl with hl; subst hl
              obtain ⟨i, hi, hs⟩ : ∃ i, P.info? e = some i ∧ P.cellsOf e = 1 := by
                have := hg.2
                unfold tsz at this
                cases hi : P.info? e with
                | none => rw [hi] at this; cases this
                | some i => rw [hi] at this; injection this with this; exact ⟨i, rfl, by simp [Program.cellsOf, hi, this]⟩
              rw [show n + 2 = (n + 1) + 1 from rfl, Instr.checkKey]
              simp only [Sem.run_bind, run_underlying hu, Result.andThen_ok]
              simp only [Std.Legacy.Range.forIn_eq_forIn_range', Std.Legacy.Range.size, Nat.sub_zero, Nat.add_one_sub_one, Nat.div_one]
              rw [forIn_ok _ fun j hj => ?_]
              · simp
              · simp only [List.mem_range'_1] at hj
                have lx : j < xs.length := by simp at hlen; omega
                have px : (part e (xs.map vOf1).toArray (j * 1)).run P w = .ok (vOf1 xs[j]) w := by simp [part, run_isAgg (tag_ck hc), lx]
                simp only [Sem.run_bind, run_sizeOf w hi, hs, Result.andThen_ok, px, check1 hc, Sem.run_pure]
          · cases hl
        · cases hl
      | _ => simp at hok
    · cases hk
def fndV (r : Option (Nat × D × Nat)) : Option (Nat × Value) := r.map fun p => (p.1, vOf p.2.1)
theorem now_sound {q : Ck} {kd : TypeDesc} (hd : (q = .int ∧ ∃ j, kd = .int j) ∨ (q = .str ∧ kd = .string) ∨ (q = .bool ∧ kd = .bool)) {k : D} : ∀ (es : List (D × D × Nat)) (i : Nat) (r : Option (Nat × D × Nat)), fnd (false, [q]) k es i = some r →
    Instr.findNow kd (vOf k) (es.map entV) i = some (fndV r)
  | [], i, r, h => by simp [fnd] at h; subst h; rfl
  | (k', v, b) :: es, i, r, h => by
    simp only [fnd] at h
    have key : ∀ x, keq (false, [q]) k k' = some x → Instr.sameNow kd (vOf k) (vOf k') = some x := by
      intro x hx
      unfold keq at hx
      simp only at hx
      split at hx
      · rename_i hc
        simp only [cksD, Bool.and_eq_true, beq_iff_eq, and_true] at hc
        rcases hd with ⟨rfl, j, rfl⟩ | ⟨rfl, rfl⟩ | ⟨rfl, rfl⟩ <;> cases k <;> simp [ckD] at hc <;> cases k' <;> simp [eqCell] at hx
        · obtain ⟨h1, h2⟩ := hx
          subst h1; simp [Instr.sameNow, vOf, vOf1, ← h2]
        · subst hx
          simp only [Instr.sameNow, vOf, vOf1]
          congr 1
          rename_i a b
          show ((⟨a.toArray⟩ : ByteArray) == ⟨b.toArray⟩) = (a == b)
          rw [Bool.eq_iff_iff, MapKept.bytes_beq]
          simp
        · subst hx; simp [Instr.sameNow, vOf, vOf1]
      · cases hx
    simp only [List.map_cons, Instr.findNow, entV]
    split at h
    · rename_i hx
      injection h with h; subst h
      rw [key _ hx]; rfl
    · rename_i hx
      rw [key _ hx]
      exact now_sound hd es (i + 1) r h
    · cases h
theorem ask_sound {kt : TypeId} {ks : List Ck} (ht : cks P kt = some ks) {xs : List D} (hx : xs.all pu1 = true) : ∀ (es : List (D × D × Nat)) (i : Nat) (r : Option (Nat × D × Nat)), (∀ x ∈ es, pu x.1 = true ∧ pu x.2.1 = true) → fnd (true, ks) (.agg xs) es i = some r →
    (Instr.findAsking kt (vOf (.agg xs)) (es.map entV) i).run P w = .ok (fndV r) w
  | [], i, r, hp, h => by simp [fnd] at h; subst h; simp [Instr.findAsking, fndV]
  | (k', v, b) :: es, i, r, hp, h => by
    simp only [fnd] at h
    have hk' := (hp (k', v, b) (by simp)).1
    simp only at hk'
    have key : ∀ x, keq (true, ks) (.agg xs) k' = some x → (Op.equal kt (vOf (.agg xs)) (vOf k')).run P w = .ok x w := by
      intro x hx'
      unfold keq at hx'
      cases k' with
      | agg ys =>
        simp only at hx'
        split at hx'
        · rename_i hc
          have c0 : Cx := ⟨fun _ => none, fun _ => 0, fun _ => (⟨0, 0, none⟩, 0), fun _ => false, [], (false, 0), fun _ => 0⟩
          exact eqIn_sound ht (cells_pu c0 hx) (cells_pu c0 hk') hc hx'
        · cases hx'
      | _ => simp at hx'
    simp only [List.map_cons, Instr.findAsking, entV, Sem.run_bind]
    split at h
    · rename_i hx'
      injection h with h; subst h
      rw [key _ hx']; simp [fndV]
    · rename_i hx'
      rw [key _ hx']
      simp only [Result.andThen_ok, Bool.false_eq_true, if_false]
      exact ask_sound ht hx es (i + 1) r (fun x hx => hp x (by simp [hx])) h
    · cases h
theorem find_sound {kt : TypeId} {ks : Bool × List Ck} (hk : keyKs P kt = some ks) {k : D} (hok : kok ks k = true) {es : List (D × D × Nat)} {r : Option (Nat × D × Nat)} (hp : ∀ x ∈ es, pu x.1 = true ∧ pu x.2.1 = true) (h : fnd ks k es 0 = some r) :
    (Instr.findKey kt (vOf k) (es.map entV)).run P w = .ok (fndV r) w := by
  unfold keyKs at hk
  split at hk
  · rename_i q hq
    injection hk with hk; subst hk
    obtain ⟨d, hu, hd⟩ := ck_under hq
    exact MapKept.run_findKey hu (now_sound hd es 0 r h)
  · split at hk
    · rename_i l hl
      injection hk with hk; subst hk
      unfold kok at hok
      simp only [Bool.and_eq_true] at hok
      obtain ⟨hpk, hok⟩ := hok
      cases k with
      | agg xs =>
        have hw : (match P.underlying kt with | some (.array _ _) | some (.struct _) => true | _ => false) = true := by
          unfold cks at hl
          split at hl
          · rename_i hu; rw [hu]
          · rename_i hu; rw [hu]
          · cases hl
        rw [run_findKey_eq w hw]
        exact ask_sound hl hpk es 0 r hp h
      | _ => simp at hok
    · cases hk
end GP
namespace GP
open Go
variable {P : Program} {X : Pred} {imp : Hn} {dr : Bool} {j : Pl} {c : Cx} {s : S} {a : Act} {w : World} {K : D → S → Prop}
theorem fnd_get {ks : Bool × List Ck} {k : D} : ∀ {es : List (D × D × Nat)} {i0 i b : Nat} {v : D}, fnd ks k es i0 = some (some (i, v, b)) → i0 ≤ i ∧ ∃ k', es[i - i0]? = some (k', v, b) ∧ keq ks k k' = some true
  | [], _, _, _, _, h => by simp [fnd] at h
  | (k', v', b') :: es, i0, i, b, v, h => by
    simp only [fnd] at h
    split at h
    · rename_i hk
      injection h with h; injection h with h; injection h with h1 h2; injection h2 with h2 h3
      subst h1; subst h2; subst h3
      exact ⟨Nat.le_refl _, k', by simp, hk⟩
    · obtain ⟨h1, k2, h2, h3⟩ := fnd_get h
      refine ⟨by omega, k2, ?_, h3⟩
      rw [show i - i0 = (i - (i0 + 1)) + 1 by omega]
      simpa using h2
    · cases h
theorem eqCell_same {x y : D} (h : eqCell x y = some true) (n : Nat) : Instr.sameBits n (vOf1 y) (vOf1 x) = true := by
  cases x <;> cases y <;> simp [eqCell] at h
  · subst h; cases n <;> simp [vOf1, Instr.sameBits]
  · obtain ⟨h1, h2⟩ := h
    subst h1; subst h2; cases n <;> simp [vOf1, Instr.sameBits]
  · subst h
    have : ∀ b : ByteArray, (b == b) = true := fun b => (MapKept.bytes_beq b b).2 rfl
    cases n <;> simp [vOf1, Instr.sameBits, this]
theorem eqCells_same (n : Nat) : ∀ {xs ys : List D}, eqCells xs ys = some true → xs.length = ys.length ∧ ((ys.map vOf1).zip (xs.map vOf1)).all (fun (x, y) => Instr.sameBits n x y) = true
  | [], [], _ => ⟨rfl, rfl⟩
  | [], _ :: _, h => by simp [eqCells] at h
  | _ :: _, [], h => by simp [eqCells] at h
  | x :: xs, y :: ys, h => by
    simp only [eqCells] at h
    split at h
    · rename_i p q hp hq
      injection h with h
      simp only [Bool.and_eq_true] at h
      obtain ⟨h1, h2⟩ := h
      subst h1; subst h2
      obtain ⟨i1, i2⟩ := eqCells_same n hq
      refine ⟨by simp [i1], ?_⟩
      simp only [List.map_cons, List.zip_cons_cons, List.all_cons, eqCell_same hp, i2, Bool.and_self]
    · cases h
theorem keq_same {ks : Bool × List Ck} {k k' : D} (h : keq ks k k' = some true) : Instr.sameBits 10000 (vOf k') (vOf k) = true := by
  obtain ⟨ag, ks⟩ := ks
  cases ag with
  | true =>
    cases k with
    | agg xs =>
      cases k' with
      | agg ys =>
        have h : (if cksD xs ks = true then eqCells xs ys else none) = some true := h
        split at h
        · obtain ⟨h1, h2⟩ := eqCells_same 9999 h
          show (((ys.map vOf1).toArray.size == (xs.map vOf1).toArray.size) && ((ys.map vOf1).toArray.toList.zip (xs.map vOf1).toArray.toList).all fun (x, y) => Instr.sameBits 9999 x y) = true
          simp only [List.size_toArray, List.length_map, h1, beq_self_eq_true, Bool.true_and]
          exact h2
        · cases h
      | _ => simp [keq] at h
    | _ => simp [keq] at h
  | false =>
    have h : (if cksD [k] ks = true then eqCell k k' else none) = some true := h
    split at h
    · cases k <;> cases k' <;> simp [eqCell] at h
      · subst h; simp [vOf, vOf1, Instr.sameBits]
      · obtain ⟨h1, h2⟩ := h
        subst h1; subst h2; simp [vOf, vOf1, Instr.sameBits]
      · subst h
        have : ∀ b : ByteArray, (b == b) = true := fun b => (MapKept.bytes_beq b b).2 rfl
        simp [vOf, vOf1, Instr.sameBits, this]
    · cases h
theorem kok_pu {ks : Bool × List Ck} {k : D} (h : kok ks k = true) : pu k = true := by
  unfold kok at h
  simp only [Bool.and_eq_true] at h
  exact h.1
theorem set_ents {es : List (D × D × Nat)} {i b : Nat} {k k' v v' : D} (h : es[i]? = some (k', v', b)) : (es.map entV).toArray.modify i (fun e => { e with key := vOf k, val := vOf v }) = ((es.set i (k, v, b)).map entV).toArray := by
  apply Array.ext_getElem?
  intro j
  rw [Array.getElem?_modify]
  simp only [List.getElem?_toArray, List.getElem?_map]
  by_cases e : i = j
  · subst e
    have : i < es.length := by
      rcases Nat.lt_or_ge i es.length with h' | h'
      · exact h'
      · rw [List.getElem?_eq_none h'] at h; cases h
    rw [if_pos rfl, h, List.getElem?_set_self this]
    rfl
  · rw [if_neg e, List.getElem?_set_ne e]
theorem push_ents (es : List (D × D × Nat)) (k v : D) (b : Nat) : (es.map entV).toArray.push { key := vOf k, val := vOf v, born := b } = ((es ++ [(k, v, b)]).map entV).toArray := by
  simp [entV]
theorem pu_set {es : List (D × D × Nat)} (hp : ∀ x ∈ es, pu x.1 = true ∧ pu x.2.1 = true) {i b : Nat} {k v : D} (hk : pu k = true) (hv : pu v = true) : ∀ x ∈ es.set i (k, v, b), pu x.1 = true ∧ pu x.2.1 = true := fun x hx => by
  rcases List.mem_or_eq_of_mem_set hx with h | rfl
  · exact hp x h
  · exact ⟨hk, hv⟩
theorem pu_push {es : List (D × D × Nat)} (hp : ∀ x ∈ es, pu x.1 = true ∧ pu x.2.1 = true) {b : Nat} {k v : D} (hk : pu k = true) (hv : pu v = true) : ∀ x ∈ es ++ [(k, v, b)], pu x.1 = true ∧ pu x.2.1 = true := fun x hx => by
  rcases List.mem_append.1 hx with h | h
  · exact hp x h
  · rw [List.mem_singleton] at h; subst h; exact ⟨hk, hv⟩
theorem mp_rep {o : Nat} {v : Value} (h : Rep c (.mp o) v) : v = .map (some (c.β o)) := by cases h; rfl
theorem op_mkmap {o : Oper} {t : TypeId} {r : Option Operand} (ho : o.op = .makeMap t r) {oo : O} (h : cOp P imp dr j o.op = some oo) (hs : Sim c s a w) (hW : WO X oo s K) : OpGoes P o a c w s K := by
  rw [ho] at h
  have he : execOp a.eval o = (do pure (.value (← Instr.makeMap t (r.map a.eval)))) := by unfold execOp; simp only [ho]
  cases r with
  | some r => simp [cOp] at h
  | none =>
    simp only [cOp] at h
    split at h
    · cases h
    · split at h
      · injection h with h; subst h
        have hm : (Instr.makeMap t none).run P w = .ok (.map (some w.heap.size)) (w.alloc (.map #[] 0)) := by simp [Instr.makeMap]
        change K (.mp s.H.length) ⟨s.t, s.H ++ [.map [] 0], s.T⟩ at hW
        refine goes_yld he (d := .mp s.H.length) (s' := ⟨s.t, s.H ++ [.map [] 0], s.T⟩) hW rfl ?_
        simp only [Option.map_none, hm]
        exact new_map hs.inv hs.T
      · cases h
theorem op_lookup {o : Oper} {t : TypeId} {x y : Operand} {ok : Bool} (ho : o.op = .lookup t x y ok) {oo : O} (h : cOp P imp dr j o.op = some oo) (hs : Sim c s a w) (hW : WO X oo s K) : OpGoes P o a c w s K := by
  rw [ho] at h
  have he : execOp a.eval o = (do pure (.value (← Instr.lookup t (a.eval x) (a.eval y) ok))) := by unfold execOp; simp only [ho]
  simp only [cOp] at h
  split at h
  · rename_i kt et r q hm hr hq
    split at h
    · rename_i ks z hks hz
      injection h with h; subst h
      obtain ⟨d, hd, hW⟩ := K1_ok hW
      simp only [qv] at hd
      have hpz : pu z = true := by
        cases hq' : pu z with
        | true => rfl
        | false => rw [hq'] at hd; simp at hd
      rw [if_pos hpz] at hd
      unfold mgetD at hd
      split at hd
      · rename_i hok
        have hu := mapOf_ok hm
        have rk := pu_rep (kok_pu hok) (cRd_rep hq hs.fr)
        have rx := cRd_rep hr hs.fr
        obtain ⟨_, zv, hzv, rz⟩ := run_zero1 hz c w
        have tup : ∀ (e : D) (v : Value) (b : Bool), Rep c e v → Rep c (.tup [e, .bool b]) (.tuple #[v, .bool b]) := fun e v b hr => by
          refine Rep.tup [e, .bool b] [v, .bool b] rfl fun i hi hi' => ?_
          match i, hi with
          | 0, _ => exact hr
          | 1, _ => exact .bool _
        have chk : ∀ em, (Instr.checkKey em 10000 kt (a.eval y)).run P w = .ok () w := fun em => by
          rw [rk]; exact check_sound (P := P) (w := w) hks hok em 9998
        have go : ∀ es, entsD s.H (s.ev r) = some es → (∀ x ∈ es, pu x.1 = true ∧ pu x.2.1 = true) ∧ ((a.eval x = .map none ∧ es = []) ∨ ∃ b clk, a.eval x = .map (some b) ∧ w.heap[b]? = some (.map (es.map entV).toArray clk)) := by
          intro es hes
          unfold entsD at hes
          split at hes
          · rename_i hev
            injection hes with hes; subst hes
            rw [hev] at rx
            refine ⟨by simp, .inl ⟨?_, rfl⟩⟩
            generalize a.eval x = v at rx
            cases rx; rfl
          · rename_i o' hev
            rw [hev] at rx
            split at hes
            · rename_i es' clk ho'
              injection hes with hes; subst hes
              obtain ⟨g1, g2⟩ := hs.inv.map o' _ _ ho'
              exact ⟨g1, .inr ⟨c.β o', clk, mp_rep rx, g2⟩⟩
            · cases hes
          · cases hes
        split at hd
        · rename_i es hes
          obtain ⟨hp, hx⟩ := go es hes
          have hd2 : ∃ r0, fnd ks (s.ev q) es 0 = some r0 ∧ (match r0 with | some (_, v, _) => some (if ok then D.tup [v, .bool true] else v) | none => some (if ok then .tup [z, .bool false] else z)) = some d := by
            split at hd
            · rename_i i v b hf; exact ⟨_, hf, hd⟩
            · rename_i hf; exact ⟨_, hf, hd⟩
            · cases hd
          obtain ⟨r0, hf, hd2⟩ := hd2
          have hfs := find_sound (P := P) (w := w) hks hok hp hf
          rw [← rk] at hfs
          cases r0 with
          | some p =>
            obtain ⟨i, v, b⟩ := p
            obtain ⟨_, k', g1, _⟩ := fnd_get hf
            have hv := (hp _ (List.mem_of_getElem? g1)).2
            simp only at hd2 hv
            injection hd2 with hd2
            refine goes_quiet hs he hW ⟨if ok then .tuple #[vOf v, .bool true] else vOf v, ?_, ?_⟩
            · unfold Instr.lookup
              rcases hx with ⟨hx, rfl⟩ | ⟨b, clk, hx, hb⟩
              · simp at g1
              · simp [hx, run_underlying hu, MapKept.run_getObj_map hb, chk, hfs, fndV]
            · cases ok with
              | true => subst hd2; exact tup _ _ _ (rep_pu c hv)
              | false => subst hd2; exact rep_pu c hv
          | none =>
            simp only at hd2
            injection hd2 with hd2
            refine goes_quiet hs he hW ⟨if ok then .tuple #[zv, .bool false] else zv, ?_, ?_⟩
            · unfold Instr.lookup
              rcases hx with ⟨hx, rfl⟩ | ⟨b, clk, hx, hb⟩
              · simp only [List.map_nil] at hfs
                simp [hx, run_underlying hu, chk, hfs, fndV, hzv]
              · simp [hx, run_underlying hu, MapKept.run_getObj_map hb, chk, hfs, fndV, hzv]
            · cases ok with
              | true => subst hd2; exact tup _ _ _ rz
              | false => subst hd2; exact rz
        · cases hd
      · cases hd
    · cases h
  · cases h
theorem get_key {es : List (D × D × Nat)} {i b : Nat} {k' v : D} (h : es[i]? = some (k', v, b)) (d : Value) : ((((es.map entV).toArray[i]?).map (·.key)).getD d) = vOf k' := by
  simp [h, entV]
theorem op_mput {o : Oper} {t : TypeId} {x y z : Operand} (ho : o.op = .mapUpdate t x y z) {oo : O} (h : cOp P imp dr j o.op = some oo) (hs : Sim c s a w) (hW : WO X oo s K) : OpGoes P o a c w s K := by
  rw [ho] at h
  have he : execOp a.eval o = (do Instr.mapUpdate t (a.eval x) (a.eval y) (a.eval z); pure .skip) := by unfold execOp; simp only [ho]
  simp only [cOp] at h
  split at h
  · rename_i kt et r q p hm hr hq hp
    split at h
    · rename_i ks hks
      injection h with h; subst h
      obtain ⟨hok, hpv, hW⟩ := hW
      have hu := mapOf_ok hm
      have rk := pu_rep (kok_pu hok) (cRd_rep hq hs.fr)
      have rv := pu_rep hpv (cRd_rep hp hs.fr)
      have rx := cRd_rep hr hs.fr
      have chk : ∀ em, (Instr.checkKey em 10000 kt (a.eval y)).run P w = .ok () w := fun em => by
        rw [rk]; exact check_sound (P := P) (w := w) hks hok em 9998
      split at hW
      · rename_i o' hev
        rw [hev] at rx
        have rx := mp_rep rx
        split at hW
        · rename_i es clk hH
          obtain ⟨hpu, hb⟩ := hs.inv.map o' _ _ hH
          split at hW
          · rename_i i v0 b hf
            have hfs := find_sound (P := P) (w := w) hks hok hpu hf
            rw [← rk] at hfs
            obtain ⟨_, k', g1, g2⟩ := fnd_get hf
            simp only [Nat.sub_zero] at g1
            have hsb := keq_same g2
            obtain ⟨e2, e3⟩ := setmap hs.inv hH (es.set i (s.ev q, s.ev p, b)) clk (pu_set hpu (kok_pu hok) hpv)
            refine .inr (.inl ⟨_, ?_, ⟨_, _, c, hW, rfl, Rep.top _, e2, Cx.le.refl c, hs.T, e3⟩⟩)
            rw [he]
            have hset := set_ents (k := s.ev q) (v := s.ev p) g1
            have hkey := get_key g1 (a.eval y)
            unfold Instr.mapUpdate
            simp only [Sem.run_bind, run_underlying hu, Result.andThen_ok, rx, MapKept.run_getObj_map hb, chk, hfs, fndV, Option.map_some, hkey]
            unfold Instr.keyThatStays
            rw [rk, rv, hsb]
            simp only [if_true, Sem.run_pure, Sem.run_bind, Result.andThen_ok, hset, MapKept.run_setObj_map _ hb]
            rfl
          · rename_i hf
            have hfs := find_sound (P := P) (w := w) hks hok hpu hf
            rw [← rk] at hfs
            obtain ⟨e2, e3⟩ := setmap hs.inv hH (es ++ [(s.ev q, s.ev p, clk)]) (clk + 1) (pu_push hpu (kok_pu hok) hpv)
            refine .inr (.inl ⟨_, ?_, ⟨_, _, c, hW, rfl, Rep.top _, e2, Cx.le.refl c, hs.T, e3⟩⟩)
            rw [he]
            have hpush := push_ents es (s.ev q) (s.ev p) clk
            unfold Instr.mapUpdate
            simp only [Sem.run_bind, run_underlying hu, Result.andThen_ok, rx, MapKept.run_getObj_map hb, chk, hfs, fndV, Option.map_none]
            rw [rk, rv, hpush]
            simp only [Sem.run_pure, Result.andThen_ok, MapKept.run_setObj_map _ hb]
            rfl
          · exact hW.elim
        · exact hW.elim
      · exact hW.elim
    · cases h
  · cases h
theorem rep_pair {e : D} {v : Value} (n : Int) (h : Rep c e v) : Rep c (.tup [e, .int .i64 n]) (.tuple #[v, .int .i64 n]) := by
  refine Rep.tup [e, .int .i64 n] [v, .int .i64 n] rfl fun i hi hi' => ?_
  match i, hi with
  | 0, _ => exact h
  | 1, _ => exact .int _ _
theorem set_key {es : List (D × D × Nat)} {i b : Nat} {k k' v : D} (h : es[i]? = some (k', v, b)) : (es.map entV).toArray.modify i (fun e => { e with key := vOf k }) = ((es.set i (k, v, b)).map entV).toArray := by
  rw [← set_ents (v := v) h]
  apply Array.ext_getElem?
  intro j
  rw [Array.getElem?_modify, Array.getElem?_modify]
  by_cases e : i = j
  · subst e
    simp only [if_true, List.getElem?_toArray, List.getElem?_map, h]
    rfl
  · rw [if_neg e, if_neg e]
theorem get_born {es : List (D × D × Nat)} {i b : Nat} {k' v : D} (h : es[i]? = some (k', v, b)) : ((((es.map entV).toArray[i]?).map (fun x => (x.born : Int))).getD 0) = (b : Int) := by
  simp [h, entV]
theorem op_ment {o : Oper} {t : TypeId} {x y : Operand} (ho : o.op = .mapEntry t x y) {oo : O} (h : cOp P imp dr j o.op = some oo) (hs : Sim c s a w) (hW : WO X oo s K) : OpGoes P o a c w s K := by
  rw [ho] at h
  have he : execOp a.eval o = (do pure (.value (← Instr.mapEntry t (a.eval x) (a.eval y)))) := by unfold execOp; simp only [ho]
  simp only [cOp] at h
  split at h
  · rename_i kt et r q hm hr hq
    split at h
    · rename_i ks z hks hz
      injection h with h; subst h
      obtain ⟨hok, hpv, hW⟩ := hW
      have hu := mapOf_ok hm
      have rk := pu_rep (kok_pu hok) (cRd_rep hq hs.fr)
      have rx := cRd_rep hr hs.fr
      obtain ⟨_, zv, hzv, rz⟩ := run_zero1 hz c w
      have rzv := pu_rep hpv rz
      have chk : ∀ em, (Instr.checkKey em 10000 kt (a.eval y)).run P w = .ok () w := fun em => by
        rw [rk]; exact check_sound (P := P) (w := w) hks hok em 9998
      split at hW
      · rename_i o' hev
        rw [hev] at rx
        have rx := mp_rep rx
        split at hW
        · rename_i es clk hH
          obtain ⟨hpu, hb⟩ := hs.inv.map o' _ _ hH
          split at hW
          · rename_i i v0 b hf
            have hfs := find_sound (P := P) (w := w) hks hok hpu hf
            rw [← rk] at hfs
            obtain ⟨_, k', g1, g2⟩ := fnd_get hf
            simp only [Nat.sub_zero] at g1
            have hsb := keq_same g2
            have hv0 := (hpu _ (List.mem_of_getElem? g1)).2
            obtain ⟨e2, e3⟩ := setmap hs.inv hH (es.set i (s.ev q, v0, b)) clk (pu_set hpu (kok_pu hok) hv0)
            have hset := set_key (k := s.ev q) g1
            have hkey := get_key g1 (a.eval y)
            have hborn := get_born g1
            refine goes_val he (v := .tuple #[vOf v0, .int .i64 (b : Int)]) (w' := setObjW w (c.β o') (.map ((es.set i (s.ev q, v0, b)).map entV).toArray clk)) ?_ ⟨_, _, c, hW, rfl, rep_pair _ (rep_pu c hv0), e2, Cx.le.refl c, hs.T, e3⟩
            unfold Instr.mapEntry
            simp only [Sem.run_bind, run_underlying hu, Result.andThen_ok, rx, MapKept.run_getObj_map hb, chk, hfs, fndV, Option.map_some, hkey]
            unfold Instr.keyThatStays
            rw [rk, hsb]
            simp only [if_true, Sem.run_pure, Sem.run_bind, Result.andThen_ok, hset, MapKept.run_setObj_map _ hb, hborn]
            rfl
          · rename_i hf
            have hfs := find_sound (P := P) (w := w) hks hok hpu hf
            rw [← rk] at hfs
            obtain ⟨e2, e3⟩ := setmap hs.inv hH (es ++ [(s.ev q, z, clk)]) (clk + 1) (pu_push hpu (kok_pu hok) hpv)
            have hpush := push_ents es (s.ev q) z clk
            refine goes_val he (v := .tuple #[vOf z, .int .i64 (clk : Int)]) (w' := setObjW w (c.β o') (.map ((es ++ [(s.ev q, z, clk)]).map entV).toArray (clk + 1))) ?_ ⟨_, _, c, hW, rfl, rep_pair _ (rep_pu c hpv), e2, Cx.le.refl c, hs.T, e3⟩
            unfold Instr.mapEntry
            simp only [Sem.run_bind, run_underlying hu, Result.andThen_ok, rx, MapKept.run_getObj_map hb, chk, hfs, fndV, Option.map_none, hzv]
            rw [rk, rzv, hpush]
            simp only [Sem.run_pure, Result.andThen_ok, MapKept.run_setObj_map _ hb]
            rfl
          · exact hW.elim
        · exact hW.elim
      · exact hW.elim
    · cases h
  · cases h
theorem set_val {es : List (D × D × Nat)} {i : Nat} {e : D × D × Nat} {v : D} (h : es[i]? = some e) : (es.map entV).toArray.modify i (fun e => { e with val := vOf v }) = ((es.set i (e.1, v, e.2.2)).map entV).toArray := by
  obtain ⟨k', v', b⟩ := e
  rw [← set_ents (k := k') (v := v) h]
  apply Array.ext_getElem?
  intro j
  rw [Array.getElem?_modify, Array.getElem?_modify]
  by_cases e : i = j
  · subst e
    simp only [if_true, List.getElem?_toArray, List.getElem?_map, h]
    rfl
  · rw [if_neg e, if_neg e]
theorem op_mst {o : Oper} {t : TypeId} {x y z : Operand} (ho : o.op = .entryStore t x y z) {oo : O} (h : cOp P imp dr j o.op = some oo) (hs : Sim c s a w) (hW : WO X oo s K) : OpGoes P o a c w s K := by
  rw [ho] at h
  have he : execOp a.eval o = (do Instr.entryStore t (a.eval x) (a.eval y) (a.eval z); pure .skip) := by unfold execOp; simp only [ho]
  simp only [cOp] at h
  split at h
  · rename_i r q p hr hq hp
    injection h with h; subst h
    obtain ⟨hpv, hW⟩ := hW
    have rv := pu_rep hpv (cRd_rep hp hs.fr)
    have rx := cRd_rep hr hs.fr
    have rq := cRd_rep hq hs.fr
    split at hW
    · rename_i o' kd n hev hq'
      rw [hev] at rx
      rw [hq'] at rq
      have rx := mp_rep rx
      have rq : a.eval y = .int kd n := by generalize a.eval y = u at rq; cases rq; rfl
      split at hW
      · rename_i es clk hH
        obtain ⟨hpu, hb⟩ := hs.inv.map o' _ _ hH
        split at hW
        · rename_i i hi
          split at hW
          · rename_i e hei
            have hie := hpu _ (List.mem_of_getElem? hei)
            obtain ⟨e2, e3⟩ := setmap hs.inv hH (es.set i (e.1, s.ev p, e.2.2)) clk (pu_set hpu hie.1 hpv)
            refine .inr (.inl ⟨_, ?_, ⟨_, _, c, hW, rfl, Rep.top _, e2, Cx.le.refl c, hs.T, e3⟩⟩)
            rw [he]
            have hset := set_val (v := s.ev p) hei
            have hfi : (es.map entV).toArray.findIdx? (fun e => (e.born : Int) == n) = some i := by
              rw [List.findIdx?_toArray, List.findIdx?_map]
              exact hi
            unfold Instr.entryStore
            simp only [rx, rq, Sem.run_bind, MapKept.run_getObj_map hb, Result.andThen_ok, asInt, asIntOf, Sem.run_pure, hfi]
            rw [rv, hset]
            simp only [MapKept.run_setObj_map _ hb, Result.andThen_ok]
            rfl
          · exact hW.elim
        · exact hW.elim
      · exact hW.elim
    · exact hW.elim
  · cases h
theorem new_iter {H : Hp} (k : Inv c w H) {T : Tk} (hT : c.T = T) {m : Option Nat} {sn : Nat} (hm : ∀ x, m = some x → x < H.length ∧ c.bd x = true) :
    Yld c w (H ++ [.iter m sn [] sn]) T (.ptr H.length 0) (.ok (.pointer (some ⟨w.heap.size, 0, none⟩)) (w.alloc (.mapIter (m.map c.β) sn #[] sn))) := by
  have hf := k.free H.length (.inl (Nat.le_refl _))
  refine ⟨_, bindC c H.length w.heap.size 0, _, rfl, ?_, k.newob 0 hf (x0 := .iter m sn [] sn) ⟨hm, rfl⟩ (push_at _ _) (fun o h => push_other _ _ o h), bind_le hf, hT, Below.of_alloc w _ k.low⟩
  have : Rep (bindC c H.length w.heap.size 0) (.ptr H.length 0) (.pointer (some ⟨(bindC c H.length w.heap.size 0).β H.length, 0, none⟩)) := Rep.ptr _ _ (by show updB _ _ _ = _; unfold updB; rw [if_pos rfl])
  have hβ0 : (bindC c H.length w.heap.size 0).β H.length = w.heap.size := by show updN _ _ _ _ = _; unfold updN; rw [if_pos rfl]
  rwa [hβ0] at this
theorem op_range {o : Oper} {t : TypeId} {x : Operand} (ho : o.op = .range t x) {oo : O} (h : cOp P imp dr j o.op = some oo) (hs : Sim c s a w) (hW : WO X oo s K) : OpGoes P o a c w s K := by
  rw [ho] at h
  have he : execOp a.eval o = (do pure (.value (← Instr.range t (a.eval x)))) := by unfold execOp; simp only [ho]
  simp only [cOp] at h
  split at h
  · cases h
  · split at h
    · rename_i hm
      obtain ⟨⟨kt, et⟩, hm⟩ := Option.isSome_iff_exists.1 hm
      have hu := mapOf_ok hm
      split at h
      · rename_i r hr
        injection h with h; subst h
        change rngK K s (s.ev r) at hW
        have rx := cRd_rep hr hs.fr
        unfold rngK at hW
        split at hW
        · rename_i hev
          rw [hev] at rx
          have rx : a.eval x = .map none := by generalize a.eval x = v at rx; cases rx; rfl
          refine goes_yld he (s' := ⟨s.t, s.H ++ [.iter none 0 [] 0], s.T⟩) hW rfl ?_
          have := new_iter (sn := 0) hs.inv hs.T (m := none) (fun x h => by cases h)
          unfold Instr.range
          simp only [Sem.run_bind, run_underlying hu, Result.andThen_ok, rx, Sem.run_pure, run_newObj]
          exact this
        · rename_i o' hev
          rw [hev] at rx
          have rx := mp_rep rx
          split at hW
          · rename_i es clk hH
            obtain ⟨_, hb⟩ := hs.inv.map o' _ _ hH
            have hb0 := (hs.inv.own o' _ hH rfl).1
            refine goes_yld he (s' := ⟨s.t, s.H ++ [.iter (some o') clk [] clk], s.T⟩) hW rfl ?_
            have := new_iter (sn := clk) hs.inv hs.T (m := some o') (fun x h => by injection h with h; subst h; exact ⟨(by rcases Nat.lt_or_ge o' s.H.length with h' | h'; exact h'; rw [List.getElem?_eq_none h'] at hH; cases hH), hb0⟩)
            unfold Instr.range
            simp only [Sem.run_bind, run_underlying hu, Result.andThen_ok, rx, MapKept.run_getObj_map hb, Sem.run_pure, run_newObj]
            exact this
          · exact hW.elim
        · exact hW.elim
      · cases h
    · cases h
theorem rep_ok (b : Bool) (l : List (D × Value)) (h : ∀ p ∈ l, Rep c p.1 p.2) : Rep c (.tup (.bool b :: l.map (·.1))) (.tuple (Value.bool b :: l.map (·.2)).toArray) := by
  refine Rep.tup (.bool b :: l.map (·.1)) (Value.bool b :: l.map (·.2)) (by simp) fun i hi hi' => ?_
  cases i with
  | zero => exact .bool b
  | succ i => simp only [List.getElem_cons_succ, List.getElem_map]; exact h _ (List.getElem_mem _)
theorem op_next {o : Oper} {x : Operand} {b : Bool} (ho : o.op = .next x b) {oo : O} (h : cOp P imp dr j o.op = some oo) (hs : Sim c s a w) (hW : WO X oo s K) : OpGoes P o a c w s K := by
  rw [ho] at h
  have he : execOp a.eval o = (do pure (.value (← Instr.next (a.eval x) b o.type))) := by unfold execOp; simp only [ho]
  simp only [cOp] at h
  split at h
  · cases h
  · rename_i hdb
    have hb : b = false := by cases b <;> simp_all
    subst hb
    split at h
    · rename_i r hr
      injection h with h; subst h
      change nxtK K s (s.ev r) at hW
      have rx := cRd_rep hr hs.fr
      unfold nxtK at hW
      split at hW
      · rename_i o' hev
        rw [hev] at rx
        have rx : a.eval x = .pointer (some ⟨c.β o', 0, none⟩) := by generalize a.eval x = v at rx; cases rx; rfl
        split at hW
        · rename_i sn se la hH
          have hi := (hs.inv.iter o' _ _ _ _ hH).2
          refine goes_quiet hs he hW ⟨.tuple #[.bool false], ?_, rep_ok false [] (by simp)⟩
          rw [rx]
          simp only [Instr.next, getObj, Sem.run_bind, Sem.run, hi, Result.andThen, Option.map_none, Sem.run_pure]
        · rename_i m sn se la hH
          obtain ⟨hi1, hi2⟩ := hs.inv.iter o' _ _ _ _ hH
          split at hW
          · rename_i es clk hM
            obtain ⟨h1, h2, h3, h4⟩ := hW
            obtain ⟨hpu, hb⟩ := hs.inv.map m _ _ hM
            rcases run_next_at (P := P) w o.type (c.β o') (c.β m) sn la se.toArray (es.map entV).toArray clk hi2 hb (by simp only [List.mem_map]; rintro y ⟨e, g, rfl⟩; exact h1 e g) h2 with ⟨g1, g2⟩ | ⟨e0, g1, w1, g2, g3⟩
            · refine goes_quiet hs he (h3 fun e hm => ?_) ⟨_, by rw [rx]; exact g2, rep_ok false [] (by simp)⟩
              refine Classical.byContradiction fun hn => ?_
              have : entV e ∈ leftOf (es.map entV).toArray se.toArray := by
                unfold leftOf
                rw [Array.mem_filter]
                refine ⟨by simp only [List.mem_toArray]; exact List.mem_map_of_mem hm, ?_⟩
                simpa [entV] using hn
              rw [Array.eq_empty_of_size_eq_zero g1] at this
              simp at this
            · obtain ⟨g4, g5⟩ := mem_left g1
              simp only [List.mem_map] at g4
              obtain ⟨e, hm, rfl⟩ := g4
              have hn : ¬ e.2.2 ∈ se := by simpa [entV] using g5
              have hk := h4 e hm hn
              have hi0 : Inv c w1 s.H := by
                rcases g2 with rfl | rfl
                · exact hs.inv
                · exact hs.inv.drew
              have hb1 : Below c.bb w w1 := by
                rcases g2 with rfl | rfl
                · exact Below.refl _ _
                · exact (Below.refl _ _).drew
              have hw1 : w1.heap = w.heap := by rcases g2 with rfl | rfl <;> rfl
              obtain ⟨e2, e3⟩ := setob hi0 hH (x1 := .iter (some m) sn se la) ⟨hi1, rfl⟩ (by rw [hw1]; exact hi2) (x2 := .iter (some m) sn (se ++ [e.2.2]) clk) ⟨hi1, rfl⟩
              refine goes_val he (by rw [rx]; exact g3) ⟨_, _, c, hk, rfl, ?_, ?_, Cx.le.refl c, hs.T, hb1.trans ?_⟩
              · exact rep_ok true [(e.1, vOf e.1), (e.2.1, vOf e.2.1)] (by
                  intro p hp
                  simp only [List.mem_cons, List.not_mem_nil, or_false] at hp
                  rcases hp with rfl | rfl
                  · exact rep_pu c (hpu e hm).1
                  · exact rep_pu c (hpu e hm).2)
              · simpa [setObjW, ChangeMaps.setBlock, entV] using e2
              · simpa [setObjW, ChangeMaps.setBlock, entV] using e3
          · exact hW.elim
        · exact hW.elim
      · exact hW.elim
    · cases h
theorem op_entry {o : Oper} {x : Operand} (ho : o.op = .entry x) {oo : O} (h : cOp P imp dr j o.op = some oo) (hs : Sim c s a w) (hW : WO X oo s K) : OpGoes P o a c w s K := by
  rw [ho] at h
  have he : execOp a.eval o = (do pure (.value (← Instr.entry (a.eval x)))) := by unfold execOp; simp only [ho]
  simp only [cOp] at h
  split at h
  · rename_i r hr
    injection h with h; subst h
    obtain ⟨d, hd, hW⟩ := K1_ok hW
    simp only [qv] at hd
    have rx := cRd_rep hr hs.fr
    unfold entD at hd
    split at hd
    · rename_i o' hev
      rw [hev] at rx
      have rx : a.eval x = .pointer (some ⟨c.β o', 0, none⟩) := by generalize a.eval x = v at rx; cases rx; rfl
      split at hd
      · rename_i m sn se la hH
        obtain ⟨_, hi2⟩ := hs.inv.iter o' _ _ _ _ hH
        split at hd
        · rename_i es clk b hM hb'
          obtain ⟨hpu, hb⟩ := hs.inv.map m _ _ hM
          split at hd
          · rename_i hcl
            subst hcl
            rw [Option.map_eq_some_iff] at hd
            obtain ⟨e, hf, rfl⟩ := hd
            have hm := List.mem_of_find?_eq_some hf
            have hf2 : (es.map entV).toArray.find? (fun e => e.born == b) = some (entV e) := by
              rw [List.find?_toArray, List.find?_map]
              show Option.map entV (es.find? fun e => e.2.2 == b) = _
              rw [hf]; rfl
            have hbk : se.toArray.back? = some b := by rw [List.back?_toArray]; exact hb'
            refine goes_quiet hs he hW ⟨.tuple #[vOf e.1, vOf e.2.1], ?_, ?_⟩
            · rw [rx]
              simp only [Instr.entry, getObj, Sem.run_bind, Sem.run, hi2, hb, Result.andThen, Option.map_some, hbk, bne_self_eq_false, Bool.false_eq_true, if_false, hf2]
              rfl
            · refine Rep.tup [e.1, e.2.1] [vOf e.1, vOf e.2.1] rfl fun i hi hi' => ?_
              match i, hi with
              | 0, _ => exact rep_pu c (hpu e hm).1
              | 1, _ => exact rep_pu c (hpu e hm).2
          · cases hd
        · cases hd
      · cases hd
    · cases hd
  · cases h
end GP
namespace GP
open Go
variable {P : Program} {X : Pred} {imp : Hn} {dr : Bool} {j : Pl} {c : Cx} {s : S} {a : Act} {w : World} {K : D → S → Prop}
theorem op_sound [HasG P] (hX : ∀ f args H T Q, X f args H T Q → Snd P f args H T Q) {o : Oper} {oo : O} (h : cOp P imp dr j o.op = some oo) (hG : HasG.G P c w) (hs : Sim c s a w) (hW : WO X oo s K) : OpGoes P o a c w s K := by
  cases ho : o.op with
  | move x =>
    have h' := h
    rw [ho] at h'
    simp only [cOp] at h'
    split at h'
    · rename_i r hr
      injection h' with h'; subst h'
      change K (s.ev r) s at hW
      refine .inl ⟨a.eval x, w, ?_, .quiet hs hW (cRd_rep hr hs.fr)⟩
      unfold execOp; simp only [ho]; rfl
    · cases h'
  | assign x =>
    have h' := h
    rw [ho] at h'
    simp only [cOp] at h'
    split at h'
    · rename_i r hr
      injection h' with h'; subst h'
      change K (s.ev r) s at hW
      refine .inl ⟨a.eval x, w, ?_, .quiet hs hW (cRd_rep hr hs.fr)⟩
      unfold execOp; simp only [ho]; rfl
    · cases h'
  | pick x y z =>
    have h' := h
    rw [ho] at h'
    simp only [cOp] at h'
    split at h'
    · rename_i r q p hr hq hp
      injection h' with h'; subst h'
      obtain ⟨d, hd, hW⟩ := K1_ok hW
      simp only [qv] at hd
      split at hd
      · rename_i t hev
        injection hd with hd; subst hd
        have h1 := cRd_rep hr hs.fr
        rw [hev] at h1
        have h2 := cRd_rep hq hs.fr
        have h3 := cRd_rep hp hs.fr
        have hb : a.eval x = .bool t := by
          generalize a.eval x = v at h1
          cases h1; rfl
        refine .inl ⟨if t then a.eval y else a.eval z, w, ?_, .quiet hs hW (by cases t; exact h3; exact h2)⟩
        unfold execOp; simp only [ho, hb]; simp [asBool]
      · cases hd
    · cases h'
  | alloc t => exact op_alloc ho h hs hW
  | box t x => exact op_box ho h hs hW
  | build t ps => exact op_build ho h hs hW
  | buildSlice t n ps => exact op_bsl ho h hs hW
  | load t x => exact op_load ho h hs hW
  | store t x v => exact op_store ho h hs hW
  | nilCheck x =>
    have h' := h
    rw [ho] at h'
    simp only [cOp] at h'
    split at h'
    · rename_i r hr
      injection h' with h'; subst h'
      obtain ⟨d, hd, hW⟩ := K1_ok hW
      have h1 := cRd_rep hr hs.fr
      have key : ∀ v, a.eval x = v → Rep c (s.ev r) v → (execOp a.eval o).run P w = .ok (.value v) w ∧ d = s.ev r := by
        intro v hv hrep
        have hd' : nilcD (s.ev r) = some d := hd
        generalize s.ev r = e at *
        cases hrep <;> simp [nilcD] at hd'
        all_goals
          refine ⟨?_, hd'.symm⟩
          unfold execOp
          simp only [ho, hv]
          rfl
      obtain ⟨k1, k2⟩ := key _ rfl h1
      exact .inl ⟨_, w, k1, .quiet hs hW (by rw [k2]; exact h1)⟩
    · cases h'
  | binOp op t x y t' => exact op_bin ho h hs hW
  | unOp op t x =>
    have h' := h
    rw [ho] at h'
    simp only [cOp] at h'
    split at h'
    · rename_i r hr
      injection h' with h'; subst h'
      obtain ⟨d, hd, hW⟩ := K1_ok hW
      have he : execOp a.eval o = (do pure (.value (← Op.unary op (a.eval x)))) := by unfold execOp; simp only [ho]
      exact goes_quiet hs he hW (un_sound (cRd_rep hr hs.fr) hd)
    · cases h'
  | convert src dst x => exact op_conv ho h hs hW
  | makeFunc fn first cap =>
    have h' := h
    rw [ho] at h'
    cases fn with
    | func f =>
      simp only [cOp] at h'
      split at h'
      · rename_i p q hp hq
        injection h' with h'; subst h'
        change K (.fn f (p.map s.ev) (q.map s.ev)) s at hW
        have h1 := cRds_rep hp hs.fr
        have h2 := cRds_rep hq hs.fr
        refine .inl ⟨.func (.func f) (first.map a.eval) (cap.map a.eval), w, ?_, .quiet hs hW ?_⟩
        · unfold execOp; simp only [ho]; rfl
        · have := Rep.fn (c := c) f (p.map s.ev) (q.map s.ev) (first.toList.map a.eval) (cap.toList.map a.eval) h1.len h2.len h1.rep h2.rep
          have e1 : (first.toList.map a.eval).toArray = first.map a.eval := by apply Array.toList_inj.1; simp
          have e2 : (cap.toList.map a.eval).toArray = cap.map a.eval := by apply Array.toList_inj.1; simp
          rwa [e1, e2] at this
      · cases h'
    | _ => simp [cOp] at h'
  | slice t x lo hi mx => exact op_slice ho h hs hW
  | makeSlice t x y => exact op_make ho h hs hW
  | fieldAddr t x k => exact op_faddr ho h hs hW
  | field t x k => exact op_field ho h hs hW
  | indexAddr t x i => exact op_iaddr ho h hs hW
  | index t x i => exact op_index ho h hs hW
  | extract x k =>
    have h' := h
    rw [ho] at h'
    simp only [cOp] at h'
    split at h'
    · rename_i r hr
      injection h' with h'; subst h'
      obtain ⟨d, hd, hW⟩ := K1_ok hW
      have he : execOp a.eval o = (do pure (.value (← Instr.extract (a.eval x) k))) := by unfold execOp; simp only [ho]
      exact goes_quiet hs he hW (ext_sound (cRd_rep hr hs.fr) hd)
    · cases h'
  | makeMap t r => exact op_mkmap ho h hs hW
  | lookup t x y ok => exact op_lookup ho h hs hW
  | mapUpdate t x y z => exact op_mput ho h hs hW
  | mapEntry t x y => exact op_ment ho h hs hW
  | entryStore t x y z => exact op_mst ho h hs hW
  | range t x => exact op_range ho h hs hW
  | next x b => exact op_next ho h hs hW
  | entry x => exact op_entry ho h hs hW
  | call cl =>
    obtain ⟨callee, args, ats⟩ := cl
    cases callee with
    | builtin b => exact op_builtin ho h hs hW
    | invoke r m => rw [ho] at h; simp [cOp] at h
    | value f =>
      rw [ho] at h
      simp only [cOp] at h
      split at h
      · rename_i r rs hr hrs
        injection h with h
        obtain ⟨dst, op, ty, pos, after, guard⟩ := o
        simp only at ho
        subst ho
        have pc : ∀ oo', oo' = O.pcall r rs → WO X oo' s K → OpGoes P ⟨dst, .call { callee := .value f, args, argTypes := ats }, ty, pos, after, guard⟩ a c w s K := by
          intro oo' e hW
          subst e
          change pcallK X (rs.map s.ev) K s (s.ev r) at hW
          unfold pcallK at hW
          split at hW
          · rename_i g first cap hev
            obtain ⟨d, hp, hk⟩ := hW
            exact call_sound hX hG hs hr hrs hev (Q := fun d' H T => d' = d ∧ H = s.H ∧ T = s.T) (hp s.H s.T _ (fun _ _ h _ => h) ⟨rfl, rfl, rfl⟩)
              (fun d' H T hh => by obtain ⟨rfl, rfl, rfl⟩ := hh; exact hk)
          · exact hW.elim
        have cc : ∀ oo', oo' = O.call r rs → WO X oo' s K → OpGoes P ⟨dst, .call { callee := .value f, args, argTypes := ats }, ty, pos, after, guard⟩ a c w s K := by
          intro oo' e hW
          subst e
          change callK X (rs.map s.ev) K s (s.ev r) at hW
          unfold callK at hW
          split at hW
          · rename_i g' first cap hev
            exact call_sound hX hG hs hr hrs hev hW (fun d H T h => h)
          · exact hW.elim
        cases f with
        | func g =>
          simp only at h
          split at h
          · exact cc oo h.symm hW
          · exact pc oo h.symm hW
        | _ =>
          simp only at h
          split at h
          · exact cc oo h.symm hW
          · exact pc oo h.symm hW
      · cases h
  | _ => rw [ho] at h; simp [cOp] at h
def dstOk (n : Nat) : Option Nat → Bool
  | some d => decide (d < n)
  | none => true
def cI (P : Program) (imp : Hn) (dr : Bool) (j : Pl) (ops : Array Oper) (n : Nat) (o : Oper) : Option I :=
  match cOp P imp dr j o.op with
  | none => none
  | some oo =>
    if dstOk n o.dst then
      match o.guard with
      | none => some ⟨o.dst, none, oo⟩
      | some (g, want) => match (ops[g]?).bind (·.dst) with
        | some d => some ⟨o.dst, some (d, want), oo⟩
        | none => none
    else none
theorem Res.next {v : Value} {w' : World} {K : S → Prop} {d : Option Nat} (hs : Sim c s a w) (hd : ∀ i, d = some i → i < a.tmps.size) (h : Res c w s (fun v s' => K (s'.put d v)) v w') :
    ∃ s' c', K s' ∧ Sim c' s' (a.put d v) w' ∧ c.le c' ∧ Below c.bb w w' := by
  obtain ⟨e, s', c', hk, ht, hr, hi, hle, hT, hb⟩ := h
  refine ⟨s'.put d e, c', hk, ?_, hle, hb⟩
  have hfr : FR c' s'.t a := by rw [ht]; exact hs.fr.mono hle
  cases d with
  | none => exact ⟨hT, hi, hfr⟩
  | some i => exact ⟨hT, hi, hfr.put hr (hd i rfl)⟩
def Nx (n : Nat) (c0 : Cx) (w0 : World) (K : S → Prop) (a' : Act) (w' : World) : Prop := ∃ s' c', K s' ∧ Sim c' s' a' w' ∧ c0.le c' ∧ Below c0.bb w0 w' ∧ a'.tmps.size = n ∧ a'.defers = []
theorem put_size (a : Act) (d : Option Nat) (v : Value) : (a.put d v).tmps.size = a.tmps.size ∧ (a.put d v).defers = a.defers := by
  cases d <;> simp [Act.put]
theorem instr_sound [HasG P] (hX : ∀ f args H T Q, X f args H T Q → Snd P f args H T Q) {ops : Array Oper} {n i : Nat} {o : Oper} {ii : I} (ho : ops[i]? = some o) (h : cI P imp dr j ops n o = some ii) {c0 : Cx} {w0 : World}
    (hG : HasG.G P c0 w0) (hs : Sim c s a w) (hle : c0.le c) (hb : Below c0.bb w0 w) (hn : a.tmps.size = n) (hd : a.defers = []) {K : S → Prop} (hW : WI X ii s K) {Q : Exit → Act → World → Prop} {K' : Act → World → Prop} (hK : ∀ a' w', Nx n c0 w0 K a' w' → K' a' w') :
    wpOp P ops Q i K' a w := by
  unfold cI at h
  split at h
  · cases h
  · rename_i oo hoo
    split at h
    · rename_i hdst
      have hdst' : ∀ k, o.dst = some k → k < a.tmps.size := by
        intro k hk
        rw [hk] at hdst
        rw [hn]; simpa [dstOk] using hdst
      have run : WO X oo s (fun v s' => K (s'.put o.dst v)) → o.wp P a w K' Q := by
        intro hW
        have goes := op_sound hX hoo (HasG.mono hle hb hG) hs hW
        have fin : ∀ v w', Res c w s (fun v s' => K (s'.put o.dst v)) v w' → K' (a.put o.dst v) w' := by
          intro v w' hr
          obtain ⟨s', c', k1, k2, k3, k4⟩ := hr.next hs hdst'
          obtain ⟨p1, p2⟩ := put_size a o.dst v
          exact hK _ _ ⟨s', c', k1, k2, hle.trans k3, hb.trans (by rw [← hle.B]; exact k4), by rw [p1, hn], by rw [p2, hd]⟩
        rcases goes with ⟨v, w', e, hr⟩ | ⟨w', e, hr⟩ | ⟨f, args, e, hr⟩
        · unfold Oper.wp; rw [e]; exact fin v w' hr
        · unfold Oper.wp; rw [e]; exact fin _ w' hr
        · unfold Oper.wp; rw [e]
          refine Calls.mono hr ?_
          rintro e' w' ⟨v, rfl, hr⟩
          exact fin v w' hr
      unfold wpOp
      simp only [ho]
      split at h
      · rename_i hg
        injection h with h; subst h
        have hwant : Region.wanted o (yielded ops a.tmps) = true := by simp [Region.wanted, hg]
        rw [if_pos hwant]
        exact .inl (run hW)
      · rename_i g want hg
        split at h
        · rename_i d hdg
          injection h with h; subst h
          change WIk X o.dst oo s K (gd s (some (d, want))) at hW
          unfold gd at hW
          simp only at hW
          have hrg := hs.fr d
          split at hW
          · rename_i b hb'
            rw [hb'] at hrg
            have hy : yielded ops a.tmps g = some b := by
              unfold yielded
              simp only [hdg]
              generalize hv : a.tmps.getD d undef = v at hrg
              cases hrg
              simp only [Array.getD_eq_getD_getElem?] at hv
              cases ht : a.tmps[d]? with
              | none => rw [ht] at hv; simp [undef] at hv
              | some x => rw [ht] at hv; simp at hv; subst hv; simp [ht]
            by_cases hbw : b = want
            · subst hbw
              have hwant : Region.wanted o (yielded ops a.tmps) = true := by simp [Region.wanted, hg, hy]
              rw [if_pos hwant]
              simp only [beq_self_eq_true] at hW
              exact .inl (run hW)
            · have hwant : ¬ Region.wanted o (yielded ops a.tmps) = true := by simp [Region.wanted, hg, hy, hbw]
              rw [if_neg hwant]
              have : (b == want) = false := by simpa using hbw
              rw [this] at hW
              obtain ⟨p1, p2⟩ := put_size a o.dst undef
              refine hK _ _ ⟨s.put o.dst (.tup []), c, hW, ?_, hle, hb, by rw [p1, hn], by rw [p2, hd]⟩
              cases hdd : o.dst with
              | none => exact hs
              | some k => exact ⟨hs.T, hs.inv, hs.fr.put (Rep.tup [] [] rfl (fun i h => absurd h (by simp))) (hdst' k hdd)⟩
          · rename_i hb'
            rw [hb'] at hrg
            have hy : yielded ops a.tmps g = none := by
              unfold yielded
              simp only [hdg]
              generalize hv : a.tmps.getD d undef = v at hrg
              cases hrg with
              | tup cs vs hl hr =>
                have : vs = [] := by simpa using hl
                subst this
                simp only [Array.getD_eq_getD_getElem?] at hv
                cases ht : a.tmps[d]? with
                | none => simp [ht]
                | some x => rw [ht] at hv; simp at hv; subst hv; simp [ht]
            have hwant : ¬ Region.wanted o (yielded ops a.tmps) = true := by simp [Region.wanted, hg, hy]
            rw [if_neg hwant]
            obtain ⟨p1, p2⟩ := put_size a o.dst undef
            refine hK _ _ ⟨s.put o.dst (.tup []), c, hW, ?_, hle, hb, by rw [p1, hn], by rw [p2, hd]⟩
            cases hdd : o.dst with
            | none => exact hs
            | some k => exact ⟨hs.T, hs.inv, hs.fr.put (Rep.tup [] [] rfl (fun i h => absurd h (by simp))) (hdst' k hdd)⟩
          · exact hW.elim
        · cases h
    · cases h
end GP
