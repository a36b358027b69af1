import Derived.Test.YtnipbngimicldaaDoorGpX
namespace GP
open Go (IntKind BinOp UnOp FuncId TypeId)

/-- A slice that is read only. -/
def sliceD (n : Bool) (xs : List D) : D := if n && xs.isEmpty then .nils else .sl none xs

section
variable {X : Pred} {s : S} {K : D → S → Prop} {Q : Ex → S → Prop} {R : S → Prop}

theorem sliceD_cases (n : Bool) (xs : List D) : (sliceD n xs = .nils ∧ xs = []) ∨ sliceD n xs = .sl none xs := by
  unfold sliceD
  cases n <;> cases xs <;> simp

@[go_sem] theorem upd_at (t : Nat → D) (i j : Nat) (d : D) : upd t i d j = if j = i then d else t j := id rfl
@[go_sem] theorem argT_0 (a : D) (l : List D) : argT (a :: l) 0 = a := id rfl
@[go_sem] theorem argT_s (a : D) (l : List D) (i : Nat) : argT (a :: l) (i + 1) = argT l i := id rfl
@[go_sem] theorem argT_n (i : Nat) : argT [] i = .top := id rfl
@[go_sem] theorem ev_t (i : Nat) : S.ev s (.t i) = s.t i := id rfl
@[go_sem] theorem ev_k (d : D) : S.ev s (.k d) = d := id rfl
@[go_sem] theorem put_some (i : Nat) (v : D) : S.put s (some i) v = ⟨upd s.t i v, s.H, s.T⟩ := id rfl
@[go_sem] theorem put_none (v : D) : S.put s none v = s := id rfl
@[go_sem] theorem rdAt_el (H : Hp) (cs : List D) : rdAt H (.el cs) = some cs := id rfl
@[go_sem] theorem rdAt_ptr_app (B L : Hp) (n off : Nat) : rdAt (B ++ L) (.ptr (B.length + n) off) = rdAt L (.ptr n off) := by
  have : (B ++ L)[B.length + n]? = L[n]? := by rw [List.getElem?_append_right (by omega)]; congr 1; omega
  simp only [rdAt, this]
@[go_sem] theorem rdAt_ptr_app0 (B L : Hp) (off : Nat) : rdAt (B ++ L) (.ptr B.length off) = rdAt L (.ptr 0 off) := rdAt_ptr_app B L 0 off
@[go_sem] theorem rdAt_z (cs : List D) (L : Hp) (off : Nat) : rdAt (.row cs :: L) (.ptr 0 off) = some (cs.drop off) := id rfl
@[go_sem] theorem rdAt_s (x : Ob) (L : Hp) (n off : Nat) : rdAt (x :: L) (.ptr (n + 1) off) = rdAt L (.ptr n off) := id rfl
@[go_sem] theorem ld_t (n : Nat) (cs : List D) : ld true n (some cs) = if n ≤ cs.length then some (.agg (cs.take n)) else none := id rfl
@[go_sem] theorem ld_f (n : Nat) (c : D) (cs : List D) : ld false n (some (c :: cs)) = some c := id rfl
@[go_sem] theorem K1_some (d : D) : K1 K s (some d) = K d s := id rfl
@[go_sem] theorem K1_none : K1 K s none = False := id rfl
@[go_sem] theorem seqK_n (f : S → Prop) : seqK f Q .normal s = f s := id rfl
@[go_sem] theorem seqK_e (f : S → Prop) (i : Nat) : seqK f Q (.exit i) s = Q (.exit i) s := id rfl
@[go_sem] theorem seqK_r (f : S → Prop) : seqK f Q .ret s = Q .ret s := id rfl
@[go_sem] theorem blkK_n (i : Nat) : blkK i Q .normal s = Q .normal s := id rfl
@[go_sem] theorem blkK_e (i j : Nat) : blkK i Q (.exit j) s = if j = i then Q .normal s else Q (.exit j) s := id rfl
@[go_sem] theorem blkK_r (i : Nat) : blkK i Q .ret s = Q .ret s := id rfl
@[go_sem] theorem W_skip : W X .skip Q s = Q .normal s := by simp only [W]
@[go_sem] theorem W_reg (is : List I) : W X (.reg is) Q s = Wr X is (Q .normal) s := by simp only [W]
def holes : Nat → Hp
  | 0 => []
  | n + 1 => .hole :: holes n
theorem holes_eq : ∀ n, List.replicate n Ob.hole = holes n
  | 0 => rfl
  | n + 1 => by rw [List.replicate_succ, holes_eq n]; rfl
@[go_sem] theorem holes_0 : holes 0 = [] := id rfl
@[go_sem] theorem holes_s (n : Nat) : holes (n + 1) = .hole :: holes n := id rfl
@[go_sem] theorem W_draw0 (is : List (I × List I)) : W X (.draw 0 is) Q s = Wd X is (Q .normal) s := by simp [W]
theorem W_draw (n : Nat) (is : List (I × List I)) : W X (.draw n is) Q s = Wd X is (Q .normal) ⟨s.t, s.H ++ holes n, s.T⟩ := by simp only [W, holes_eq]
@[go_sem] theorem W_seq (a b : C) : W X (.seq a b) Q s = W X a (seqK (W X b Q) Q) s := by simp only [W]
@[go_sem] theorem W_block (i : Nat) (c : C) : W X (.block i c) Q s = W X c (blkK i Q) s := by simp only [W]
@[go_sem] theorem W_exit (i : Nat) : W X (.exit i) Q s = Q (.exit i) s := by simp only [W]
@[go_sem] theorem W_ret : W X .ret Q s = Q .ret s := by simp only [W]
theorem W_loop (c : C) : W X (.loop c) Q s = ∃ (Iv : S → Prop) (μ : S → Nat), Iv s ∧ ∀ s, Iv s → W X c (seqK (fun s' => Iv s' ∧ μ s' < μ s) Q) s := by simp only [W]
def condK (X : Pred) (Q : Ex → S → Prop) (s : S) (a b : C) : D → Prop
  | .bool t => if t then W X a Q s else W X b Q s
  | _ => False
@[go_sem] theorem W_cond (c : Rd) (a b : C) : W X (.cond c a b) Q s = condK X Q s a b (s.ev c) := by simp only [W]; rfl
@[go_sem high] theorem condK_tt (a b : C) : condK X Q s a b (.bool true) = W X a Q s := id rfl
@[go_sem high] theorem condK_ff (a b : C) : condK X Q s a b (.bool false) = W X b Q s := id rfl
@[go_sem low] theorem condK_b (a b : C) (t : Bool) : condK X Q s a b (.bool t) = ((t = true → W X a Q s) ∧ (t = false → W X b Q s)) := by cases t <;> simp [condK]
@[go_sem] theorem Wr_nil : Wr X [] R s = R s := by simp only [Wr]
@[go_sem] theorem Wr_cons (i : I) (is : List I) : Wr X (i :: is) R s = WI X i s (Wr X is R) := by simp only [Wr]
@[go_sem] theorem Wd_nil : Wd X [] R s = R s := by simp only [Wd]
@[go_sem] theorem Wd_cons0 (i : I) (is : List (I × List I)) : Wd X ((i, []) :: is) R s = WI X i s (Wd X is R) := by simp [Wd, stillAll]
@[go_sem] theorem stillAll_nil : stillAll X [] s = True := id rfl
@[go_sem] theorem stillAll_cons (i : I) (is : List I) : stillAll X (i :: is) s = (still X i s ∧ stillAll X is s) := id rfl
/-- What comes behind an instruction, by name. -/
def Kp (d : Option Nat) (K : S → Prop) (v : D) (s : S) : Prop := K (s.put d v)
def Ka (X : Pred) (js : List I) (K : S → Prop) (s : S) : Prop := stillAll X js s ∧ K s
def Ke (u v : D) (_ : S) : Prop := v = u
@[go_sem] theorem Kp_ap (d : Option Nat) (K : S → Prop) (v : D) : Kp d K v s = K (s.put d v) := id rfl
@[go_sem] theorem Ka_ap (js : List I) (K : S → Prop) : Ka X js K s = (stillAll X js s ∧ K s) := id rfl
@[go_sem] theorem Ke_ap (u v : D) : Ke u v s = (v = u) := id rfl
@[go_sem] theorem Wd_cons (i j : I) (js : List I) (is : List (I × List I)) : Wd X ((i, j :: js) :: is) R s = WI X i s (Ka X (j :: js) (Wd X is R)) := by
  have : Ka X (j :: js) (Wd X is R) = fun s' => stillAll X (j :: js) s' ∧ Wd X is R s' := rfl
  rw [this]; simp only [Wd]
def gdD (w : Bool) : D → Option Bool
  | .bool b => some (b == w)
  | .tup [] => some false
  | _ => none
@[go_sem] theorem gdD_u (w : Bool) : gdD w (.tup []) = some false := id rfl
@[go_sem] theorem gdD_tt : gdD true (.bool true) = some true := id rfl
@[go_sem] theorem gdD_tf : gdD true (.bool false) = some false := id rfl
@[go_sem] theorem gdD_ft : gdD false (.bool true) = some false := id rfl
@[go_sem] theorem gdD_ff : gdD false (.bool false) = some true := id rfl
@[go_sem] theorem WI_n (d : Option Nat) (o : O) (K : S → Prop) : WI X ⟨d, none, o⟩ s K = WO X o s (Kp d K) := id rfl
@[go_sem] theorem WI_g (d : Option Nat) (g : Nat) (w : Bool) (o : O) (K : S → Prop) : WI X ⟨d, some (g, w), o⟩ s K = WIk X d o s K (gdD w (s.t g)) := id rfl
@[go_sem] theorem WIk_t (d : Option Nat) (o : O) (K : S → Prop) : WIk X d o s K (some true) = WO X o s (Kp d K) := id rfl
@[go_sem] theorem WIk_f (d : Option Nat) (o : O) (K : S → Prop) : WIk X d o s K (some false) = K (s.put d (.tup [])) := id rfl
@[go_sem low] theorem WIk_bt (d : Option Nat) (o : O) (K : S → Prop) (b : Bool) : WIk X d o s K (gdD true (.bool b)) = ((b = true → WO X o s (Kp d K)) ∧ (b = false → K (s.put d (.tup [])))) := by cases b <;> simp [gdD, WIk] <;> rfl
@[go_sem low] theorem WIk_bf (d : Option Nat) (o : O) (K : S → Prop) (b : Bool) : WIk X d o s K (gdD false (.bool b)) = ((b = true → K (s.put d (.tup []))) ∧ (b = false → WO X o s (Kp d K))) := by cases b <;> simp [gdD, WIk] <;> rfl
def stK (X : Pred) (s : S) (o : O) (d : Nat) : Option Bool → Prop
  | some true => WO X o s (Ke (s.t d))
  | _ => True
@[go_sem] theorem still_n (d : Nat) (o : O) : still X ⟨some d, none, o⟩ s = WO X o s (Ke (s.t d)) := id rfl
@[go_sem] theorem still_g (d : Nat) (g : Nat) (w : Bool) (o : O) : still X ⟨some d, some (g, w), o⟩ s = stK X s o d (gdD w (s.t g)) := by
  unfold still stK
  have : gd s (some (g, w)) = gdD w (s.t g) := by
    simp only [gd]
    unfold gdD
    split <;> simp_all
  rw [this]
  cases gdD w (s.t g) with
  | none => rfl
  | some b => cases b <;> rfl
@[go_sem] theorem stK_t (o : O) (d : Nat) : stK X s o d (some true) = WO X o s (Ke (s.t d)) := id rfl
@[go_sem] theorem stK_f (o : O) (d : Nat) : stK X s o d (some false) = True := id rfl
@[go_sem] theorem WO_mv (x : Rd) : WO X (.mv x) s K = K (s.ev x) s := id rfl
def strK (K : D → S → Prop) (s : S) : D → Prop
  | .str l => K (.str l) s
  | _ => False
@[go_sem] theorem WO_mvs (x : Rd) : WO X (.mvs x) s K = strK K s (s.ev x) := by
  simp only [WO, qv, strK]
  cases s.ev x <;> rfl
@[go_sem] theorem strK_s (l : List UInt8) : strK K s (.str l) = K (.str l) s := id rfl
def pickK (K : D → S → Prop) (s : S) (a b : D) : D → Prop
  | .bool t => K (if t then a else b) s
  | _ => False
@[go_sem] theorem WO_pick (c a b : Rd) : WO X (.pick c a b) s K = pickK K s (s.ev a) (s.ev b) (s.ev c) := by
  simp only [WO, qv, pickK]
  cases s.ev c <;> rfl
@[go_sem] theorem pickK_tt (a b : D) : pickK K s a b (.bool true) = K a s := id rfl
@[go_sem] theorem pickK_ff (a b : D) : pickK K s a b (.bool false) = K b s := id rfl
@[go_sem] theorem WO_alloc (z : List D) : WO X (.alloc z) s K = K (.ptr s.H.length 0) ⟨s.t, s.H ++ [.row z], s.T⟩ := id rfl
@[go_sem] theorem WO_box (x : Rd) : WO X (.box x) s K = ((s.ev x).okc = true ∧ K (.ptr s.H.length 0) ⟨s.t, s.H ++ [.row (s.ev x).cells], s.T⟩) := id rfl
@[go_sem] theorem WO_build (z : List D) (ps : List (Nat × Nat × Rd)) : WO X (.build z ps) s K = K1 K s (buildD z (ps.map fun p => (p.1, p.2.1, s.ev p.2.2))) := id rfl
@[go_sem] theorem WO_bsl (sz : Nat) (xs : List Rd) : WO X (.bsl sz xs) s K = ((xs.map s.ev).all (fit sz) = true ∧ K (.sl (some s.T.length) (xs.map s.ev)) ⟨s.t, s.H, s.T ++ [some (xs.length, sz)]⟩) := id rfl
@[go_sem] theorem WO_bslq0 (sz : Nat) : WO X (.bslq sz []) s K = K .e0 s := by
  show K1 K s (if (List.map s.ev []).all (fit sz) then some (slq (List.map s.ev [])) else none) = _
  rw [if_pos (by rfl)]; rfl
@[go_sem] theorem WO_bslq1 (sz : Nat) (x : Rd) (xs : List Rd) : WO X (.bslq sz (x :: xs)) s K = K1 K s (if ((x :: xs).map s.ev).all (fit sz) then some (.sl none ((x :: xs).map s.ev)) else none) := id rfl
@[go_sem] theorem WO_load (ag : Bool) (n : Nat) (a : Rd) : WO X (.load ag n a) s K = K1 K s (ld ag n (rdAt s.H (s.ev a))) := id rfl
@[go_sem] theorem WO_store (n : Nat) (a v : Rd) : WO X (.store n a v) s K = storeK n K s (s.ev a) (s.ev v) := id rfl
def putRow (n off : Nat) (v : D) : List Ob → Nat → Option (List Ob)
  | [], _ => none
  | .row cs :: L, 0 => if v.okc = true ∧ v.cells.length = n ∧ off + n ≤ cs.length then some (.row (cs.take off ++ v.cells ++ cs.drop (off + n)) :: L) else none
  | _ :: _, 0 => none
  | x :: L, i + 1 => (putRow n off v L i).map (x :: ·)
def putK (K : D → S → Prop) (t : Nat → D) (B : Hp) (T : Tk) : Option (List Ob) → Prop
  | some L => K .top ⟨t, B ++ L, T⟩
  | none => False
theorem putRow_iff {n off : Nat} {v : D} (t : Nat → D) (T : Tk) (B : Hp) : ∀ (L : Hp) (i : Nat), storeK n K ⟨t, B ++ L, T⟩ (.ptr (B.length + i) off) v = putK K t B T (putRow n off v L i) := by
  have hg : ∀ (L : Hp) (i : Nat), (B ++ L)[B.length + i]? = L[i]? := fun L i => by rw [List.getElem?_append_right (by omega)]; congr 1; omega
  have hs : ∀ (L : Hp) (i : Nat) x, (B ++ L).set (B.length + i) x = B ++ L.set i x := fun L i x => by rw [List.set_append_right _ _ (by omega)]; congr 2; omega
  intro L i
  simp only [storeK, hg, hs]
  suffices h : ∀ (L : Hp) (i : Nat) (B' : Hp), (match L[i]? with
      | some (.row cs) => v.okc = true ∧ v.cells.length = n ∧ off + n ≤ cs.length ∧ K .top ⟨t, B' ++ L.set i (.row (cs.take off ++ v.cells ++ cs.drop (off + n))), T⟩
      | _ => False) = putK K t B' T (putRow n off v L i) from h L i B
  intro L
  induction L with
  | nil => intro i B'; simp [putRow, putK]
  | cons x L ih =>
    intro i B'
    cases i with
    | zero =>
      cases x with
      | row cs =>
        simp only [putRow, List.getElem?_cons_zero, List.set_cons_zero]
        split
        · rename_i h; simp [putK, h.1, h.2.1, h.2.2]
        · rename_i h
          simp only [putK, eq_iff_iff, iff_false]
          exact fun k => h ⟨k.1, k.2.1, k.2.2.1⟩
      | _ => simp [putRow, putK]
    | succ i =>
      have := ih i (B' ++ [x])
      simp only [List.getElem?_cons_succ, List.set_cons_succ]
      have e3 : ∀ y : Hp, (B' ++ [x]) ++ y = B' ++ x :: y := fun y => by simp
      simp only [e3] at this
      rw [this]
      have e : putRow n off v (x :: L) (i + 1) = (putRow n off v L i).map (x :: ·) := by cases x <;> rfl
      rw [e]
      cases putRow n off v L i with
      | none => rfl
      | some L' => simp [putK]
@[go_sem] theorem storeK_ptr (t : Nat → D) (T : Tk) (B L : Hp) (n i off : Nat) (v : D) : storeK n K ⟨t, B ++ L, T⟩ (.ptr (B.length + i) off) v = putK K t B T (putRow n off v L i) := putRow_iff t T B L i
@[go_sem] theorem storeK_ptr0 (t : Nat → D) (T : Tk) (B L : Hp) (n off : Nat) (v : D) : storeK n K ⟨t, B ++ L, T⟩ (.ptr B.length off) v = putK K t B T (putRow n off v L 0) := putRow_iff t T B L 0
@[go_sem] theorem putRow_z (n off : Nat) (v : D) (cs : List D) (L : Hp) : putRow n off v (.row cs :: L) 0 = if v.okc = true ∧ v.cells.length = n ∧ off + n ≤ cs.length then some (.row (cs.take off ++ v.cells ++ cs.drop (off + n)) :: L) else none := id rfl
@[go_sem] theorem putRow_s (n off : Nat) (v : D) (x : Ob) (L : Hp) (i : Nat) : putRow n off v (x :: L) (i + 1) = (putRow n off v L i).map (x :: ·) := by cases x <;> rfl
@[go_sem] theorem putK_s (t : Nat → D) (B L : Hp) (T : Tk) : putK K t B T (some L) = K .top ⟨t, B ++ L, T⟩ := id rfl
@[go_sem] theorem WO_nilc (x : Rd) : WO X (.nilc x) s K = K1 K s (nilcD (s.ev x)) := id rfl
@[go_sem] theorem WO_bin (op : BinOp) (x y : Rd) : WO X (.bin op x y) s K = K1 K s (bin2 op (s.ev x) (s.ev y)) := id rfl
@[go_sem] theorem WO_eqa (ks : List Ck) (neg : Bool) (x y : Rd) : WO X (.eqa ks neg x y) s K = K1 K s (eqaD ks neg (s.ev x) (s.ev y)) := id rfl
@[go_sem] theorem WO_eq1 (q : Tq) (neg : Bool) (x y : Rd) : WO X (.eq1 q neg x y) s K = K1 K s ((eq1D q (s.ev x) (s.ev y)).map fun b => .bool (b != neg)) := id rfl
@[go_sem] theorem WO_un (op : UnOp) (x : Rd) : WO X (.un op x) s K = K1 K s (un1 op (s.ev x)) := id rfl
def convK (k : IntKind) (K : D → S → Prop) (s : S) : D → Prop
  | .int _ n => K (.int k (k.wrap n)) s
  | _ => False
@[go_sem] theorem WO_conv (k : IntKind) (x : Rd) : WO X (.conv k x) s K = convK k K s (s.ev x) := by
  simp only [WO, qv, convK]
  cases s.ev x <;> rfl
@[go_sem] theorem convK_i (k k' : IntKind) (n : Int) : convK k K s (.int k' n) = K (.int k (k.wrap n)) s := id rfl
@[go_sem] theorem WO_faddr (off : Nat) (x : Rd) : WO X (.faddr off x) s K = K1 K s (fa off (s.ev x)) := id rfl
@[go_sem] theorem WO_field (ag : Bool) (off n : Nat) (x : Rd) : WO X (.field ag off n x) s K = K1 K s (fld ag off n (s.ev x)) := id rfl
@[go_sem] theorem WO_iaddr (sz : Nat) (x i : Rd) : WO X (.iaddr sz x i) s K = K1 K s (ia sz (s.ev x) (s.ev i)) := id rfl
@[go_sem] theorem WO_idxs (x i : Rd) : WO X (.idxs x i) s K = K1 K s (ixs (s.ev x) (s.ev i)) := id rfl
@[go_sem] theorem WO_idxa (ag : Bool) (sz len : Nat) (x i : Rd) : WO X (.idxa ag sz len x i) s K = K1 K s (ixa ag sz len (s.ev x) (s.ev i)) := id rfl
@[go_sem] theorem WO_ext (i : Nat) (x : Rd) : WO X (.ext i x) s K = K1 K s (extD i (s.ev x)) := id rfl
@[go_sem] theorem extD_t (i : Nat) (vs : List D) : extD i (.tup vs) = vs[i]? := id rfl
@[go_sem] theorem WO_mkfn (f : FuncId) (first cap : List Rd) : WO X (.mkfn f first cap) s K = K (.fn f (first.map s.ev) (cap.map s.ev)) s := id rfl
def lenK (K : D → S → Prop) (s : S) : Option Nat → Prop
  | some n => K (.int .i64 (n : Int)) s
  | none => False
@[go_sem] theorem lenK_s (n : Nat) : lenK K s (some n) = K (.int .i64 (n : Int)) s := id rfl
@[go_sem] theorem WO_len (x : Rd) : WO X (.len x) s K = lenK K s (lenD (s.ev x)) := by
  simp only [WO, qv]
  cases lenD (s.ev x) <;> rfl
@[go_sem] theorem WO_lens (x : Rd) : WO X (.lens x) s K = lenK K s (strLen (s.ev x)) := by
  simp only [WO, qv]
  cases strLen (s.ev x) <;> rfl
@[go_sem] theorem WO_mn (a b : Rd) : WO X (.mn a b) s K = K1 K s (mn2 (s.ev a) (s.ev b)) := id rfl
@[go_sem] theorem WO_mx (a b : Rd) : WO X (.mx a b) s K = K1 K s (mx2 (s.ev a) (s.ev b)) := id rfl
@[go_sem] theorem mn2_i (k : IntKind) (a b : Int) : mn2 (.int k a) (.int k b) = some (.int k (if b < a then b else a)) := id rfl
@[go_sem] theorem mx2_i (k : IntKind) (a b : Int) : mx2 (.int k a) (.int k b) = some (.int k (if b > a then b else a)) := id rfl
def subK (K : D → S → Prop) (s : S) (lo hi : Option Rd) : D → Prop
  | .str l => K1 K s (sub (optN s 0 lo) (optN s l.length hi) (.str l))
  | _ => False
@[go_sem] theorem WO_subs (x : Rd) (lo hi : Option Rd) : WO X (.subs x lo hi) s K = subK K s lo hi (s.ev x) := by
  simp only [WO, qv, subK]
  cases s.ev x <;> rfl
@[go_sem] theorem subK_s (lo hi : Option Rd) (l : List UInt8) : subK K s lo hi (.str l) = K1 K s (sub (optN s 0 lo) (optN s l.length hi) (.str l)) := id rfl
def intO : D → Option Int
  | .int _ n => some n
  | _ => none
@[go_sem] theorem optN_n (d : Nat) : optN s d none = some (d : Int) := id rfl
@[go_sem high] theorem optN_0 : optN s 0 none = some 0 := id rfl
@[go_sem] theorem optN_s (d : Nat) (r : Rd) : optN s d (some r) = intO (s.ev r) := id rfl
@[go_sem] theorem intO_i (k : IntKind) (n : Int) : intO (.int k n) = some n := id rfl
theorem sub_s (l h : Int) (b : List UInt8) : sub (some l) (some h) (.str b) = if 0 ≤ l ∧ l ≤ h ∧ h ≤ b.length then some (.str (subList b l.toNat h.toNat)) else none := rfl
@[go_sem] theorem WO_pcall (f : Rd) (args : List Rd) : WO X (.pcall f args) s K = pcallK X (args.map s.ev) K s (s.ev f) := id rfl
@[go_sem] theorem WO_call (f : Rd) (args : List Rd) : WO X (.call f args) s K = callK X (args.map s.ev) K s (s.ev f) := id rfl
@[go_sem] theorem pcallK_fn (l : Fs) (args : List D) (f : FuncId) (first cap : List D) : pcallK (XL l) args K s (.fn f first cap) = K1 K s (look l f (D.eraseL (first ++ args ++ cap))) := by
  simp only [pcallK, eq_iff_iff]
  constructor
  · rintro ⟨r, h1, h2⟩
    have := h1 s.H s.T (fun r' _ _ => r' = r) (fun _ _ h _ => h) rfl
    unfold XL at this
    split at this
    · rename_i r' hr; subst this; rw [hr]; exact h2
    · exact this.elim
  · intro h
    cases hr : look l f (D.eraseL (first ++ args ++ cap)) with
    | none => rw [hr] at h; exact h.elim
    | some r =>
      rw [hr] at h
      refine ⟨r, fun H' T' Q' _ hQ => ?_, h⟩
      unfold XL
      rw [hr]; exact hQ
@[go_sem] theorem look_nil (f : FuncId) (a : List D) : look [] f a = none := id rfl
@[go_sem] theorem look_cons (g : FuncId) (φ : List D → Option D) (l : Fs) (f : FuncId) (a : List D) : look ((g, φ) :: l) f a = if f = g then φ a else look l f a := id rfl
@[go_sem] theorem eraseL_n : D.eraseL [] = [] := by simp [D.eraseL]
@[go_sem] theorem eraseL_c (d : D) (l : List D) : D.eraseL (d :: l) = d.erase :: D.eraseL l := by simp [D.eraseL]
@[go_sem] theorem erase_bool (b : Bool) : (D.bool b).erase = .bool b := by simp [D.erase]
@[go_sem] theorem erase_int (k : IntKind) (n : Int) : (D.int k n).erase = .int k n := by simp [D.erase]
@[go_sem] theorem erase_str (l : List UInt8) : (D.str l).erase = .str l := by simp [D.erase]
@[go_sem] theorem erase_nils : D.nils.erase = .nils := by simp [D.erase]
@[go_sem] theorem erase_nilp : D.nilp.erase = .nilp := by simp [D.erase]
@[go_sem] theorem erase_nilf : D.nilf.erase = .nilf := by simp [D.erase]
@[go_sem] theorem erase_nili : D.nili.erase = .nili := by simp [D.erase]
@[go_sem] theorem erase_agg (cs : List D) : (D.agg cs).erase = .agg (D.eraseL cs) := by simp [D.erase]
@[go_sem] theorem erase_tup (cs : List D) : (D.tup cs).erase = .tup (D.eraseL cs) := by simp [D.erase]
@[go_sem] theorem erase_sl (t : Option Nat) (cs : List D) : (D.sl t cs).erase = .sl none (D.eraseL cs) := by simp [D.erase]
@[go_sem] theorem erase_fn (f : FuncId) (a b : List D) : (D.fn f a b).erase = .fn f (D.eraseL a) (D.eraseL b) := by simp [D.erase]
@[go_sem] theorem erase_ifc (t : TypeId) (d : D) : (D.ifc t d).erase = .ifc t d.erase := by simp [D.erase]
@[go_sem] theorem erase_sliceD (n : Bool) (xs : List D) : (sliceD n xs).erase = sliceD n (D.eraseL xs) := by
  unfold sliceD
  cases n <;> cases xs <;> simp [D.erase, D.eraseL]
@[go_sem] theorem lenD_nils : lenD .nils = some 0 := id rfl
@[go_sem] theorem lenD_sl (t : Option Nat) (xs : List D) : lenD (.sl t xs) = some xs.length := id rfl
@[go_sem] theorem lenD_sliceD (n : Bool) (xs : List D) : lenD (sliceD n xs) = some xs.length := by
  rcases sliceD_cases n xs with ⟨h, rfl⟩ | h <;> rw [h] <;> rfl
@[go_sem] theorem strLen_s (l : List UInt8) : strLen (.str l) = some l.length := id rfl
@[go_sem] theorem okc_agg (cs : List D) : (D.agg cs).okc = true := id rfl
@[go_sem] theorem okc_int (k : IntKind) (n : Int) : (D.int k n).okc = true := id rfl
@[go_sem] theorem okc_str (l : List UInt8) : (D.str l).okc = true := id rfl
@[go_sem] theorem okc_bool (b : Bool) : (D.bool b).okc = true := id rfl
@[go_sem] theorem okc_sl (t : Option Nat) (xs : List D) : (D.sl t xs).okc = true := id rfl
@[go_sem] theorem okc_nils : D.nils.okc = true := id rfl
@[go_sem] theorem okc_sliceD (n : Bool) (xs : List D) : (sliceD n xs).okc = true := by
  rcases sliceD_cases n xs with ⟨h, _⟩ | h <;> rw [h] <;> rfl
@[go_sem] theorem cells_agg (cs : List D) : (D.agg cs).cells = cs := id rfl
@[go_sem] theorem cells_int (k : IntKind) (n : Int) : (D.int k n).cells = [.int k n] := id rfl
@[go_sem] theorem cells_str (l : List UInt8) : (D.str l).cells = [.str l] := id rfl
@[go_sem] theorem cells_bool (b : Bool) : (D.bool b).cells = [.bool b] := id rfl
@[go_sem] theorem cells_sl (t : Option Nat) (xs : List D) : (D.sl t xs).cells = [.sl t xs] := id rfl
@[go_sem] theorem cells_nils : D.nils.cells = [.nils] := id rfl
@[go_sem] theorem cells_sliceD (n : Bool) (xs : List D) : (sliceD n xs).cells = [sliceD n xs] := by
  rcases sliceD_cases n xs with ⟨h, _⟩ | h <;> rw [h] <;> rfl
@[go_sem] theorem cells_fn (f : FuncId) (a b : List D) : (D.fn f a b).cells = [.fn f a b] := id rfl
@[go_sem] theorem fa_el (off : Nat) (cs : List D) : fa off (.el cs) = some (.el (cs.drop off)) := id rfl
@[go_sem] theorem fa_ptr (off o f : Nat) : fa off (.ptr o f) = some (.ptr o (f + off)) := id rfl
@[go_sem] theorem un1_not (b : Bool) : un1 .not (.bool b) = some (.bool (!b)) := id rfl
@[go_sem] theorem un1_neg (k : IntKind) (n : Int) : un1 .neg (.int k n) = some (.int k (k.wrap (0 - n))) := id rfl
@[go_sem] theorem bin_eql (k : IntKind) (a b : Int) : bin2 .eql (.int k a) (.int k b) = some (.bool (a == b)) := by simp [bin2, isShift, intOp]
@[go_sem] theorem bin_neq (k : IntKind) (a b : Int) : bin2 .neq (.int k a) (.int k b) = some (.bool (a != b)) := by simp [bin2, isShift, intOp]
@[go_sem] theorem bin_lss (k : IntKind) (a b : Int) : bin2 .lss (.int k a) (.int k b) = some (.bool (decide (a < b))) := by simp [bin2, isShift, intOp]
@[go_sem] theorem bin_leq (k : IntKind) (a b : Int) : bin2 .leq (.int k a) (.int k b) = some (.bool (decide (a ≤ b))) := by simp [bin2, isShift, intOp]
@[go_sem] theorem bin_gtr (k : IntKind) (a b : Int) : bin2 .gtr (.int k a) (.int k b) = some (.bool (decide (b < a))) := by simp [bin2, isShift, intOp]
@[go_sem] theorem bin_geq (k : IntKind) (a b : Int) : bin2 .geq (.int k a) (.int k b) = some (.bool (decide (b ≤ a))) := by simp [bin2, isShift, intOp]
@[go_sem] theorem bin_add (k : IntKind) (a b : Int) : bin2 .add (.int k a) (.int k b) = some (.int k (k.wrap (a + b))) := by simp [bin2, isShift, intOp]
@[go_sem] theorem bin_sub (k : IntKind) (a b : Int) : bin2 .sub (.int k a) (.int k b) = some (.int k (k.wrap (a - b))) := by simp [bin2, isShift, intOp]
@[go_sem] theorem bin_mul (k : IntKind) (a b : Int) : bin2 .mul (.int k a) (.int k b) = some (.int k (k.wrap (a * b))) := by simp [bin2, isShift, intOp]
@[go_sem] theorem bin_rem (k : IntKind) (a b : Int) : bin2 .rem (.int k a) (.int k b) = if b = 0 then none else some (.int k (a.tmod b)) := by simp [bin2, isShift, intOp]
@[go_sem] theorem bin_quo (k : IntKind) (a b : Int) : bin2 .quo (.int k a) (.int k b) = if b = 0 then none else some (.int k (k.wrap (a.tdiv b))) := by simp [bin2, isShift, intOp]
@[go_sem] theorem bin_seql (a b : List UInt8) : bin2 .eql (.str a) (.str b) = some (.bool (a == b)) := id rfl
@[go_sem] theorem bin_sneq (a b : List UInt8) : bin2 .neq (.str a) (.str b) = some (.bool (a != b)) := id rfl
@[go_sem] theorem bin_slss (a b : List UInt8) : bin2 .lss (.str a) (.str b) = some (.bool (bytesLess a b)) := id rfl
@[go_sem] theorem eq1_bool (a b : Bool) : eq1D .bool (.bool a) (.bool b) = some (a == b) := id rfl
@[go_sem] theorem eq1_nils : eq1D .slc .nils .nils = some true := id rfl
@[go_sem] theorem eqaD_a (ks : List Ck) (neg : Bool) (xs ys : List D) : eqaD ks neg (.agg xs) (.agg ys) = if cksD xs ks then (eqCells xs ys).map (fun b => .bool (b != neg)) else none := id rfl
@[go_sem] theorem cksD_n : cksD [] [] = true := id rfl
@[go_sem] theorem cksD_i (k : IntKind) (n : Int) (ds : List D) (ks : List Ck) : cksD (.int k n :: ds) (.int :: ks) = cksD ds ks := by simp [cksD, ckD]
@[go_sem] theorem cksD_s (l : List UInt8) (ds : List D) (ks : List Ck) : cksD (.str l :: ds) (.str :: ks) = cksD ds ks := by simp [cksD, ckD]
@[go_sem] theorem cksD_b (b : Bool) (ds : List D) (ks : List Ck) : cksD (.bool b :: ds) (.bool :: ks) = cksD ds ks := by simp [cksD, ckD]
def andO : Bool → Option Bool → Option Bool
  | p, some q => some (p && q)
  | _, none => none
@[go_sem] theorem eqCells_n : eqCells [] [] = some true := id rfl
@[go_sem] theorem eqCells_i (k : IntKind) (a b : Int) (as bs : List D) : eqCells (.int k a :: as) (.int k b :: bs) = andO (a == b) (eqCells as bs) := by
  simp only [eqCells, eqCell, if_true]
  cases eqCells as bs <;> rfl
@[go_sem] theorem eqCells_s (a b : List UInt8) (as bs : List D) : eqCells (.str a :: as) (.str b :: bs) = andO (a == b) (eqCells as bs) := by
  simp only [eqCells, eqCell]
  cases eqCells as bs <;> rfl
@[go_sem] theorem eqCells_b (a b : Bool) (as bs : List D) : eqCells (.bool a :: as) (.bool b :: bs) = andO (a == b) (eqCells as bs) := by
  simp only [eqCells, eqCell]
  cases eqCells as bs <;> rfl
@[go_sem] theorem andO_s (p q : Bool) : andO p (some q) = some (p && q) := id rfl
@[go_sem] theorem buildD_n (z : List D) : buildD z [] = some (.agg z) := id rfl
@[go_sem] theorem buildD_c (z : List D) (off sz : Nat) (d : D) (ps : List (Nat × Nat × D)) : buildD z ((off, sz, d) :: ps) = if d.okc = true ∧ d.cells.length = sz ∧ off + d.cells.length ≤ z.length then buildD (z.take off ++ d.cells ++ z.drop (off + d.cells.length)) ps else none := by
  simp only [buildD, List.all_cons, List.map_cons, fillD, fit, Bool.and_eq_true, beq_iff_eq]
  by_cases h1 : d.okc = true <;> by_cases h2 : d.cells.length = sz <;> by_cases h3 : off + d.cells.length ≤ z.length <;> by_cases hq : (ps.all fun p => p.2.2.okc && p.2.2.cells.length == p.2.1) = true <;>
    simp only [h1, h2, h3, hq, and_self, and_true, true_and, and_false, false_and, if_true, if_false, Option.map_none] <;> (first | rfl | (simp only [← h2, h3, if_true, if_false, Option.map_none]; done) | simp)
@[go_sem] theorem ia_sl (sz : Nat) (t : Option Nat) (xs : List D) (k : IntKind) (n : Int) : ia sz (.sl t xs) (.int k n) = if 0 ≤ n then iaE sz xs[n.toNat]? else none := id rfl
@[go_sem] theorem ia_sliceD (sz : Nat) (b : Bool) (xs : List D) (k : IntKind) (n : Int) : ia sz (sliceD b xs) (.int k n) = if 0 ≤ n then iaE sz xs[n.toNat]? else none := by
  rcases sliceD_cases b xs with ⟨h, rfl⟩ | h <;> rw [h]
  · simp [ia, iaE]
  · rfl
@[go_sem] theorem iaE_s (sz : Nat) (d : D) : iaE sz (some d) = if d.cells.length = sz then some (.el d.cells) else none := id rfl
@[go_sem] theorem fit_eq (sz : Nat) (d : D) : fit sz d = (d.okc && d.cells.length == sz) := id rfl

/-! ### The end -/
variable {Q0 : Post}
@[go_sem] theorem endQ_n (rs : List (Sum Nat (Nat × Bool × Nat))) : endQ rs Q0 .normal s = retK rs Q0 s := id rfl
@[go_sem] theorem endQ_r (rs : List (Sum Nat (Nat × Bool × Nat))) : endQ rs Q0 .ret s = retK rs Q0 s := id rfl
def retO (Q0 : Post) (s : S) : Option (List D) → Prop
  | some ds => Q0 (retD ds) s.H s.T
  | none => False
def consO : Option D → Option (List D) → Option (List D)
  | some d, some ds => some (d :: ds)
  | _, _ => none
@[go_sem] theorem retK_eq (rs : List (Sum Nat (Nat × Bool × Nat))) : retK rs Q0 s = retO Q0 s (resL rs s) := by
  simp only [retK, retO]
  cases resL rs s <;> rfl
@[go_sem] theorem resL_n : resL [] s = some [] := id rfl
@[go_sem] theorem resL_l (t : Nat) (l : List (Sum Nat (Nat × Bool × Nat))) : resL (.inl t :: l) s = consO (some (s.t t)) (resL l s) := by
  simp only [resL]
  cases resL l s <;> rfl
@[go_sem] theorem resL_r (x n : Nat) (ag : Bool) (l : List (Sum Nat (Nat × Bool × Nat))) : resL (.inr (x, ag, n) :: l) s = consO (ld ag n (rdAt s.H (s.t x))) (resL l s) := by
  simp only [resL]
  cases ld ag n (rdAt s.H (s.t x)) <;> cases resL l s <;> rfl
@[go_sem] theorem consO_s (d : D) (ds : List D) : consO (some d) (some ds) = some (d :: ds) := id rfl
@[go_sem] theorem retO_s (ds : List D) : retO Q0 s (some ds) = Q0 (retD ds) s.H s.T := id rfl
@[go_sem] theorem retD_1 (d : D) : retD [d] = d := id rfl
@[go_sem] theorem retD_0 : retD [] = .tup [] := id rfl
@[go_sem] theorem retD_2 (d e : D) (ds : List D) : retD (d :: e :: ds) = .tup (d :: e :: ds) := id rfl
@[go_sem] theorem leaves_1 (r r0 : D) (H : Hp) (T : Tk) : Leaves r0 H T r H T = (r.erase = r0) := by
  simp [Leaves]
@[go_sem] theorem leaves_2 (r r0 : D) (H L : Hp) (T : Tk) : Leaves r0 H T r (H ++ L) T = (r.erase = r0) := by
  simp [Leaves]
@[go_sem] theorem leaves_3 (r r0 : D) (H : Hp) (T U : Tk) : Leaves r0 H T r H (T ++ U) = (r.erase = r0) := by
  simp [Leaves]
@[go_sem] theorem leaves_4 (r r0 : D) (H L : Hp) (T U : Tk) : Leaves r0 H T r (H ++ L) (T ++ U) = (r.erase = r0) := by
  simp [Leaves]
/-! ### Places of a region that draws -/
def atPut (o : Hp) (x : Ob) : Nat → Option Hp
  | 0 => match o with | .hole :: L => some (x :: L) | _ => none
  | i + 1 => match o with | y :: L => (atPut L x i).map (y :: ·) | [] => none
@[go_sem] theorem atPut_z (x : Ob) (L : Hp) : atPut (.hole :: L) x 0 = some (x :: L) := id rfl
@[go_sem] theorem atPut_s (x y : Ob) (L : Hp) (i : Nat) : atPut (y :: L) x (i + 1) = (atPut L x i).map (y :: ·) := id rfl
def atQ (K : D → S → Prop) (t : Nat → D) (B : Hp) (T : Tk) (i : Nat) : Option Hp → Prop
  | some L => K (.ptr (B.length + i) 0) ⟨t, B ++ L, T⟩
  | none => False
@[go_sem] theorem atQ_s (t : Nat → D) (B L : Hp) (T : Tk) (i : Nat) : atQ K t B T i (some L) = K (.ptr (B.length + i) 0) ⟨t, B ++ L, T⟩ := id rfl
theorem atPut_eq (x : Ob) : ∀ (L : Hp) (i : Nat), atPut L x i = match L[i]? with | some .hole => some (L.set i x) | _ => none
  | [], 0 => by simp [atPut]
  | [], i + 1 => by simp [atPut]
  | y :: L, 0 => by cases y <;> simp [atPut]
  | y :: L, i + 1 => by
    simp only [atPut, atPut_eq x L i, List.getElem?_cons_succ, List.set_cons_succ]
    cases L[i]? with
    | none => rfl
    | some z => cases z <;> rfl
theorem app_get {α : Type} (B L : List α) (i : Nat) : (B ++ L)[B.length + i]? = L[i]? := by rw [List.getElem?_append_right (by omega)]; congr 1; omega
theorem app_set {α : Type} (B L : List α) (i : Nat) (x : α) : (B ++ L).set (B.length + i) x = B ++ L.set i x := by rw [List.set_append_right _ _ (by omega)]; congr 2; omega
theorem app_at {α : Type} (B L : List α) {j : Nat} (h : j ≤ L.length) : (B ++ L).length - j = B.length + (L.length - j) := by simp; omega
def farK (p : Prop) : Prop := p
theorem atK_app (t : Nat → D) (B L : Hp) (T : Tk) (z : List D) (i : Nat) : atK K ⟨t, B ++ L, T⟩ (B.length + i) z (B ++ L)[B.length + i]? = atQ K t B T i (atPut L (.row z) i) := by
  rw [app_get, atPut_eq]
  cases h : L[i]? with
  | none => simp [atK, atQ]
  | some x => cases x <;> simp [atK, atQ, app_set]
theorem rawK_app (t : Nat → D) (B L : Hp) (T : Tk) (z : List D) (i : Nat) : rawK K ⟨t, B ++ L, T⟩ (B.length + i) z (B ++ L)[B.length + i]? = atQ K t B T i (atPut L (.raw z) i) := by
  rw [app_get, atPut_eq]
  cases h : L[i]? with
  | none => simp [rawK, atQ]
  | some x => cases x <;> simp [rawK, atQ, app_set]
@[go_sem] theorem WO_allocAt (t : Nat → D) (B L : Hp) (T : Tk) (j : Nat) (z : List D) : WO X (.allocAt j z) ⟨t, B ++ L, T⟩ K = if j ≤ L.length then atQ K t B T (L.length - j) (atPut L (.row z) (L.length - j)) else farK (WO X (.allocAt j z) ⟨t, B ++ L, T⟩ K) := by
  split
  · rename_i h
    rw [← atK_app]
    show atK K ⟨t, B ++ L, T⟩ ((B ++ L).length - j) z (B ++ L)[(B ++ L).length - j]? = _
    rw [app_at B L h]
  · rfl
@[go_sem] theorem WO_boxAt (t : Nat → D) (B L : Hp) (T : Tk) (j : Nat) (x : Rd) : WO X (.boxAt j x) ⟨t, B ++ L, T⟩ K = if j ≤ L.length then ((S.ev ⟨t, B ++ L, T⟩ x).okc = true ∧ atQ K t B T (L.length - j) (atPut L (.row (S.ev ⟨t, B ++ L, T⟩ x).cells) (L.length - j))) else farK (WO X (.boxAt j x) ⟨t, B ++ L, T⟩ K) := by
  split
  · rename_i h
    rw [← atK_app]
    show (_ ∧ atK K ⟨t, B ++ L, T⟩ ((B ++ L).length - j) _ (B ++ L)[(B ++ L).length - j]?) = _
    rw [app_at B L h]
  · rfl
@[go_sem] theorem WO_rawAt (t : Nat → D) (B L : Hp) (T : Tk) (j : Nat) (z : List D) : WO X (.rawAt j z) ⟨t, B ++ L, T⟩ K = if j ≤ L.length then atQ K t B T (L.length - j) (atPut L (.raw z) (L.length - j)) else farK (WO X (.rawAt j z) ⟨t, B ++ L, T⟩ K) := by
  split
  · rename_i h
    rw [← rawK_app]
    show (j ≤ (B ++ L).length ∧ rawK K ⟨t, B ++ L, T⟩ ((B ++ L).length - j) z (B ++ L)[(B ++ L).length - j]?) = _
    rw [app_at B L h]
    have : j ≤ (B ++ L).length := by simp; omega
    simp only [this, true_and]
  · rfl
def fillPut (n : Nat) (v : D) : Hp → Nat → Option Hp
  | .raw z :: L, 0 => if z.length = n ∧ v.okc = true ∧ v.cells.length = n then some (.row v.cells :: L) else none
  | y :: L, i + 1 => (fillPut n v L i).map (y :: ·)
  | _, _ => none
@[go_sem] theorem fillPut_z (n : Nat) (v : D) (z : List D) (L : Hp) : fillPut n v (.raw z :: L) 0 = if z.length = n ∧ v.okc = true ∧ v.cells.length = n then some (.row v.cells :: L) else none := id rfl
@[go_sem] theorem fillPut_s (n : Nat) (v : D) (y : Ob) (L : Hp) (i : Nat) : fillPut n v (y :: L) (i + 1) = (fillPut n v L i).map (y :: ·) := by cases y <;> rfl
def fillQ (K : D → S → Prop) (t : Nat → D) (B : Hp) (T : Tk) : Option Hp → Prop
  | some L => K .top ⟨t, B ++ L, T⟩
  | none => False
@[go_sem] theorem fillQ_s (t : Nat → D) (B L : Hp) (T : Tk) : fillQ K t B T (some L) = K .top ⟨t, B ++ L, T⟩ := id rfl
theorem fillPut_iff (t : Nat → D) (B : Hp) (T : Tk) (n : Nat) (v : D) : ∀ (L : Hp) (i : Nat), fillQ K t B T (fillPut n v L i) ↔ ∃ z, L[i]? = some (.raw z) ∧ z.length = n ∧ v.okc = true ∧ v.cells.length = n ∧ K .top ⟨t, B ++ L.set i (.row v.cells), T⟩
  | [], 0 => by simp [fillPut, fillQ]
  | [], i + 1 => by simp [fillPut, fillQ]
  | y :: L, 0 => by
    cases y <;> simp [fillPut, fillQ]
    rename_i z
    by_cases h : z.length = n ∧ v.okc = true ∧ v.cells.length = n
    · rw [if_pos h]; simp [h.1, h.2.1, h.2.2]
    · rw [if_neg h]
      simp only [false_iff]
      exact fun k => h ⟨k.1, k.2.1, k.2.2.1⟩
  | y :: L, i + 1 => by
    have := fillPut_iff t (B ++ [y]) T n v L i
    simp only [List.append_assoc, List.singleton_append] at this
    simp only [List.getElem?_cons_succ, List.set_cons_succ]
    rw [← this, fillPut_s]
    cases fillPut n v L i <;> simp [fillQ]
def fillA (i : Nat) (p : Prop) : D → Prop
  | .ptr o 0 => if o = i then p else False
  | _ => False
@[go_sem] theorem fillA_p (i : Nat) (p : Prop) : fillA i p (.ptr i 0) = p := by simp [fillA]
@[go_sem] theorem WO_fillAt (t : Nat → D) (B L : Hp) (T : Tk) (j n : Nat) (a v : Rd) : WO X (.fillAt j n a v) ⟨t, B ++ L, T⟩ K = if j ≤ L.length then fillA (B.length + (L.length - j)) (fillQ K t B T (fillPut n (S.ev ⟨t, B ++ L, T⟩ v) L (L.length - j))) (S.ev ⟨t, B ++ L, T⟩ a) else farK (WO X (.fillAt j n a v) ⟨t, B ++ L, T⟩ K) := by
  split
  · rename_i h
    show (j ≤ (B ++ L).length ∧ fillK K ⟨t, B ++ L, T⟩ ((B ++ L).length - j) n _ _ (B ++ L)[(B ++ L).length - j]?) = _
    rw [app_at B L h]
    have hj : j ≤ (B ++ L).length := by simp; omega
    simp only [hj, true_and, eq_iff_iff]
    generalize S.ev ⟨t, B ++ L, T⟩ a = a
    generalize S.ev ⟨t, B ++ L, T⟩ v = v
    rw [app_get]
    constructor
    · intro k
      obtain ⟨z, h1, h2, h3, h4, h5, h6⟩ := fillK_ok k
      subst h2
      simp only [fillA, if_true]
      exact (fillPut_iff t B T n v L _).2 ⟨z, h1, h3, h4, h5, by simpa only [app_set] using h6⟩
    · intro k
      unfold fillA at k
      split at k
      · split at k
        · rename_i e; subst e
          obtain ⟨z, h1, h3, h4, h5, h6⟩ := (fillPut_iff t B T n v L _).1 k
          rw [h1]
          exact ⟨rfl, h3, h4, h5, by simpa only [app_set] using h6⟩
        · exact k.elim
      · exact k.elim
  · rfl

/-! ### Slices, appends -/
def slsK (K : D → S → Prop) (s : S) (sz : Nat) (lo hi : Option Rd) (x : D) : Option Nat → Prop
  | some n => K1 K s (slc sz (optN s 0 lo) (optN s n hi) x)
  | none => False
@[go_sem] theorem WO_sls (sz : Nat) (x : Rd) (lo hi : Option Rd) : WO X (.sls sz x lo hi) s K = slsK K s sz lo hi (s.ev x) (lenD (s.ev x)) := by
  simp only [WO, qv]
  cases lenD (s.ev x) <;> rfl
@[go_sem] theorem slsK_s (sz : Nat) (lo hi : Option Rd) (x : D) (n : Nat) : slsK K s sz lo hi x (some n) = K1 K s (slc sz (optN s 0 lo) (optN s n hi) x) := id rfl
def sls3K (K : D → S → Prop) (s : S) (sz : Nat) (lo hi mx : Option Rd) (x : D) : Option Nat → Prop
  | some n => K1 K s (slc3 sz (optN s 0 lo) (optN s n hi) (optN s n mx) x)
  | none => False
@[go_sem] theorem WO_sls3 (sz : Nat) (x : Rd) (lo hi mx : Option Rd) : WO X (.sls3 sz x lo hi mx) s K = sls3K K s sz lo hi mx (s.ev x) (lenD (s.ev x)) := by
  simp only [WO, qv]
  cases lenD (s.ev x) <;> rfl
@[go_sem] theorem sls3K_s (sz : Nat) (lo hi mx : Option Rd) (x : D) (n : Nat) : sls3K K s sz lo hi mx x (some n) = K1 K s (slc3 sz (optN s 0 lo) (optN s n hi) (optN s n mx) x) := id rfl
theorem slc_nils (sz : Nat) (l h : Int) : slc sz (some l) (some h) .nils = if l = 0 ∧ h = 0 then some .nils else none := rfl
theorem slc_sl (sz : Nat) (t : Option Nat) (xs : List D) (l h : Int) : slc sz (some l) (some h) (.sl t xs) = if 0 ≤ l ∧ l ≤ h ∧ h ≤ xs.length ∧ xs.all (fun d => d.cells.length == sz) = true then some (.sl (if l = 0 ∧ h = xs.length then t else none) (subList xs l.toNat h.toNat)) else none := rfl
theorem slc_ms (sz : Nat) (ag : Bool) (z o off n cap : Nat) (l h : Int) : slc sz (some l) (some h) (.ms ag z o off n cap) = if 0 ≤ l ∧ l ≤ h ∧ h ≤ n ∧ l < cap ∧ z = sz then some (.ms ag z o (off + l.toNat * sz) (h - l).toNat (cap - l.toNat)) else if 0 ≤ l ∧ l ≤ h ∧ h ≤ n ∧ h = l then some (.sl none []) else none := rfl
theorem slc3_nils (sz : Nat) (l h m : Int) : slc3 sz (some l) (some h) (some m) .nils = if l = 0 ∧ h = 0 ∧ m = 0 then some .nils else none := rfl
theorem slc3_sl (sz : Nat) (t : Option Nat) (xs : List D) (l h m : Int) : slc3 sz (some l) (some h) (some m) (.sl t xs) = if 0 ≤ l ∧ l = h ∧ h = m ∧ m ≤ xs.length then some .e0 else none := rfl
theorem slc3_ms (sz : Nat) (ag : Bool) (z o off n cap : Nat) (l h m : Int) : slc3 sz (some l) (some h) (some m) (.ms ag z o off n cap) = if 0 ≤ l ∧ l = h ∧ h = m ∧ m ≤ n then some .e0 else if 0 ≤ l ∧ l ≤ h ∧ h ≤ m ∧ m ≤ n ∧ l < m ∧ z = sz then some (.ms ag z o (off + l.toNat * sz) (h - l).toNat (m - l).toNat) else none := rfl
@[go_sem] theorem WO_app (st : Bool) (sz bytes : Nat) (x y : Rd) : WO X (.app st sz bytes x y) s K = appK sz bytes K s (s.ev x) (appSrc st (s.ev y)) := id rfl
@[go_sem] theorem WO_appm (ag st : Bool) (sz bytes : Nat) (x y : Rd) : WO X (.appm ag st sz bytes x y) s K = appmK ag sz bytes K s (s.ev x) (appSrcM s.H st sz (s.ev y)) := id rfl
@[go_sem] theorem WO_bslm (ag : Bool) (sz : Nat) (xs : List Rd) : WO X (.bslm ag sz xs) s K = ((xs.map s.ev).all (fit sz) = true ∧ K (.ms ag sz s.H.length 0 xs.length xs.length) ⟨s.t, s.H ++ [.row (flatD (xs.map s.ev))], s.T⟩) := id rfl
@[go_sem] theorem WO_copy (sz : Nat) (x y : Rd) : WO X (.copy sz x y) s K = copyK sz K s (s.ev x) (appSrcM s.H false sz (s.ev y)) := id rfl
@[go_sem] theorem WO_clr (z : List D) (x : Rd) : WO X (.clr z x) s K = clrK z K s (s.ev x) := id rfl
@[go_sem] theorem WO_mkm (ag : Bool) (sz bytes : Nat) (z : List D) (n m : Rd) : WO X (.mkm ag sz bytes z n m) s K = mkmK ag sz bytes z K s (s.ev n) (s.ev m) := id rfl
@[go_sem] theorem WO_s2b (x : Rd) : WO X (.s2b x) s K = s2bK K s (s.ev x) := id rfl
@[go_sem] theorem s2bK_s (l : List UInt8) : s2bK K s (.str l) = K (.sl (some s.T.length) (byteD l)) ⟨s.t, s.H, s.T ++ [some (l.length, 1)]⟩ := id rfl
@[go_sem] theorem WO_b2m (x : Rd) : WO X (.b2m x) s K = K1 K s (b2mD s.H (s.ev x)) := id rfl
@[go_sem] theorem WO_b2s (x : Rd) : WO X (.b2s x) s K = K1 K s (b2sD (s.ev x)) := id rfl
@[go_sem] theorem appSrc_nils : appSrc false .nils = some [] := id rfl
@[go_sem] theorem appSrc_sl (t : Option Nat) (xs : List D) : appSrc false (.sl t xs) = some xs := id rfl
@[go_sem] theorem appSrc_str (l : List UInt8) : appSrc true (.str l) = some (byteD l) := id rfl
@[go_sem] theorem appSrc_sliceD (n : Bool) (xs : List D) : appSrc false (sliceD n xs) = some xs := by
  rcases sliceD_cases n xs with ⟨h, rfl⟩ | h <;> rw [h] <;> rfl
@[go_sem] theorem appSrcM_nils (H : Hp) (sz : Nat) : appSrcM H false sz .nils = some [] := id rfl
@[go_sem] theorem appSrcM_sl (H : Hp) (sz : Nat) (t : Option Nat) (xs : List D) : appSrcM H false sz (.sl t xs) = some xs := id rfl
@[go_sem] theorem appSrcM_sliceD (H : Hp) (sz : Nat) (n : Bool) (xs : List D) : appSrcM H false sz (sliceD n xs) = some xs := by
  rcases sliceD_cases n xs with ⟨h, rfl⟩ | h <;> rw [h] <;> rfl
theorem appK_nils (sz bytes : Nat) (ys : List D) : appK sz bytes K s .nils (some ys) = (ys.all (fit sz) = true ∧ if ys = [] then K .nils s else (ys.length * bytes ≤ 2 ^ 47 ∧ ys.length < 2 ^ 62 ∧ K (.sl (some s.T.length) ys) ⟨s.t, s.H, s.T ++ [some (ys.length, sz)]⟩)) := rfl
@[go_sem] theorem appK_nils1 (sz bytes : Nat) (y : D) (ys : List D) : appK sz bytes K s .nils (some (y :: ys)) = ((y :: ys).all (fit sz) = true ∧ (y :: ys).length * bytes ≤ 2 ^ 47 ∧ (y :: ys).length < 2 ^ 62 ∧ K (.sl (some s.T.length) (y :: ys)) ⟨s.t, s.H, s.T ++ [some ((y :: ys).length, sz)]⟩) := by
  rw [appK_nils, if_neg (by simp)]
@[go_sem] theorem appK_nils0 (sz bytes : Nat) : appK sz bytes K s .nils (some []) = K .nils s := by
  rw [appK_nils, if_pos rfl]; simp
@[go_sem] theorem appSrc_e0 : appSrc false .e0 = some [] := id rfl
theorem appK_e0 (sz bytes : Nat) (ys : List D) : appK sz bytes K s .e0 (some ys) = (ys.all (fit sz) = true ∧ if ys = [] then K .e0 s else (ys.length * bytes ≤ 2 ^ 47 ∧ ys.length < 2 ^ 62 ∧ K (.sl (some s.T.length) ys) ⟨s.t, s.H, s.T ++ [some (ys.length, sz)]⟩)) := rfl
theorem appK_tok (sz bytes : Nat) (t : Nat → D) (H : Hp) (B L : Tk) (n : Nat) (xs ys : List D) : appK sz bytes K ⟨t, H, B ++ L⟩ (.sl (some (B.length + n)) xs) (some ys) =
    (ys.all (fit sz) = true ∧ L[n]? = some (some (xs.length, sz)) ∧ (xs.length + ys.length) * bytes ≤ 2 ^ 47 ∧ xs.length + ys.length < 2 ^ 62 ∧ xs.all (fit sz) = true ∧ K (.sl (some (B.length + n)) (xs ++ ys)) ⟨t, H, B ++ L.set n (some (xs.length + ys.length, sz))⟩) := by
  simp only [appK, app_get, app_set]
theorem appK_tok0 (sz bytes : Nat) (t : Nat → D) (H : Hp) (B L : Tk) (xs ys : List D) : appK sz bytes K ⟨t, H, B ++ L⟩ (.sl (some B.length) xs) (some ys) =
    (ys.all (fit sz) = true ∧ L[0]? = some (some (xs.length, sz)) ∧ (xs.length + ys.length) * bytes ≤ 2 ^ 47 ∧ xs.length + ys.length < 2 ^ 62 ∧ xs.all (fit sz) = true ∧ K (.sl (some B.length) (xs ++ ys)) ⟨t, H, B ++ L.set 0 (some (xs.length + ys.length, sz))⟩) := appK_tok sz bytes t H B L 0 xs ys
@[go_sem] theorem lenD_e0 : lenD .e0 = some 0 := id rfl
@[go_sem] theorem lenD_ms (ag : Bool) (z o off n cap : Nat) : lenD (.ms ag z o off n cap) = some n := id rfl
@[go_sem] theorem erase_e0 : D.e0.erase = .sl none [] := by simp [D.erase]
@[go_sem] theorem erase_ptr (o off : Nat) : (D.ptr o off).erase = .ptr o off := by simp [D.erase]
@[go_sem] theorem erase_ms (ag : Bool) (z o off n cap : Nat) : (D.ms ag z o off n cap).erase = .ms ag z o off n cap := by simp [D.erase]
@[go_sem] theorem okc_ms (ag : Bool) (z o off n cap : Nat) : (D.ms ag z o off n cap).okc = true := id rfl
@[go_sem] theorem okc_ptr (o off : Nat) : (D.ptr o off).okc = true := id rfl
@[go_sem] theorem okc_fn (f : FuncId) (a b : List D) : (D.fn f a b).okc = true := id rfl
@[go_sem] theorem okc_e0 : D.e0.okc = true := id rfl
@[go_sem] theorem cells_ms (ag : Bool) (z o off n cap : Nat) : (D.ms ag z o off n cap).cells = [.ms ag z o off n cap] := id rfl
@[go_sem] theorem cells_ptr (o off : Nat) : (D.ptr o off).cells = [.ptr o off] := id rfl
@[go_sem] theorem cells_e0 : D.e0.cells = [.e0] := id rfl
@[go_sem] theorem ia_ms (sz : Nat) (ag : Bool) (z o off len cap : Nat) (k : IntKind) (n : Int) : ia sz (.ms ag z o off len cap) (.int k n) = if 0 ≤ n ∧ n < len ∧ z = sz then some (.ptr o (off + n.toNat * sz)) else none := id rfl
@[go_sem] theorem iarrD_i (sz len : Nat) (x : D) (k : IntKind) (n : Int) : iarrD sz len x (.int k n) = if 0 ≤ n ∧ n < len then fa (n.toNat * sz) x else none := id rfl
@[go_sem] theorem WO_iarr (sz len : Nat) (x i : Rd) : WO X (.iarr sz len x i) s K = K1 K s (iarrD sz len (s.ev x) (s.ev i)) := id rfl
end
attribute [go_sem] List.map_cons List.map_nil List.append_assoc List.cons_append List.nil_append List.append_nil List.length_append List.length_cons List.length_nil List.take_zero List.take_succ_cons List.take_nil List.drop_zero List.drop_succ_cons List.drop_nil Nat.zero_add Nat.add_zero Option.map_some Option.map_none true_and and_true false_and and_false and_self Bool.true_eq_false Bool.false_eq_true Bool.not_true Bool.not_false Bool.not_eq_true' Bool.not_eq_false' Bool.true_and Bool.and_true Bool.false_and Bool.and_false Bool.true_or Bool.or_true Bool.false_or Bool.or_false Bool.bne_true Bool.bne_false Bool.true_bne Bool.false_bne Bool.true_beq Bool.false_beq Bool.not_not decide_true decide_false false_implies true_implies implies_true forall_const List.all_cons List.all_nil beq_self_eq_true bne_self_eq_false Nat.zero_le Nat.le_refl List.getElem?_cons_zero List.getElem?_cons_succ List.isEmpty_nil List.isEmpty_cons Int.cast_ofNat_Int Int.toNat_zero
end GP
