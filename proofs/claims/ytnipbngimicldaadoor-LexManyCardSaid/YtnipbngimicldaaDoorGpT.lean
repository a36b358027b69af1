import Derived.Test.YtnipbngimicldaaDoorGpR
/- Code and calls. -/
namespace GP
open Go

variable {P : Program} {imp : Hn}

/-! ### A region that draws its order -/
def isAlloc : Op → Bool
  | .alloc _ | .box _ _ => true
  | _ => false

def countA (ops : Array Oper) (i : Nat) : Nat := ((List.range i).filter fun k => match ops[k]? with | some o => isAlloc o.op | none => false).length

def heff : O → Bool
  | .store _ _ _ | .call _ _ | .appm _ _ _ _ _ _ | .bslm _ _ _ | .copy _ _ _ | .clr _ _ | .mkm _ _ _ _ _ _ => true
  | _ => false

/-- Which store fills a place that nobody else looks at: of an operation, the number of the one that makes the place. -/
def fillsOf (ops : Array Oper) (xs : List I) (i : Nat) : Option Nat :=
  match ops[i]? with
  | some o =>
    match o.op with
    | .alloc _ => match o.dst, o.guard with
      | some d, none => match (List.range ops.size).filter (fun k => (xs.getD k default).looks.contains d) with
        | [k] => match xs.getD k default with
          | ⟨_, none, .store _ (.t d') v⟩ => if d' == d && (match v with | .t e => e != d | .k _ => true) then some i else none
          | _ => none
        | _ => none
      | _, _ => none
    | .store _ (.tmp d) _ => (List.range ops.size).find? (fun k => match ops[k]? with
      | some a => (match a.op with | .alloc _ => true | _ => false) && a.dst == some d
      | none => false)
    | _ => none
  | none => none

def plOf (ops : Array Oper) (fl : Nat → Option Nat) (na i : Nat) : Pl := ⟨na - countA ops i, (fl i).map fun k => na - countA ops k⟩

def cIsD (P : Program) (imp : Hn) (ops : Array Oper) (fl : Nat → Option Nat) (n na : Nat) : List Nat → Option (List I)
  | [] => some []
  | i :: is => match ops[i]? with
    | some o => match cI P imp true (plOf ops fl na i) ops n o, cIsD P imp ops fl n na is with
      | some x, some xs => some (x :: xs)
      | _, _ => none
    | none => none

theorem cIsD_get {ops : Array Oper} {fl : Nat → Option Nat} {n na : Nat} : ∀ {is : List Nat} {xs : List I}, cIsD P imp ops fl n na is = some xs → ∀ (k i : Nat), is[k]? = some i → ∃ o x, ops[i]? = some o ∧ xs[k]? = some x ∧ cI P imp true (plOf ops fl na i) ops n o = some x
  | [], xs, h, k, i, hk => by simp at hk
  | j :: is, xs, h, k, i, hk => by
    simp only [cIsD] at h
    split at h
    · rename_i o ho
      split at h
      · rename_i x xs' h1 h2
        injection h with h; subst h
        cases k with
        | zero => simp at hk; subst hk; exact ⟨o, x, ho, rfl, h1⟩
        | succ k => exact cIsD_get h2 k i (by simpa using hk)
      · cases h
    · cases h

def refOrd (ops : Array Oper) (sl : Nat → I) : Nat → Array Bool → List Nat
  | 0, _ => []
  | f + 1, listed =>
    let r := ready ops listed
    match r.find? (fun i => isQuiet (sl i).o) with
    | some i => i :: refOrd ops sl f (listed.setIfInBounds i true)
    | none => match r.find? (fun i => (atOf (sl i)).isSome) with
      | some i => i :: refOrd ops sl f (listed.setIfInBounds i true)
      | none => match r with
        | i :: _ => i :: refOrd ops sl f (listed.setIfInBounds i true)
        | [] => []

def stOf (ops : Array Oper) (bef : Array Nat) (sl : Nat → I) (i : Nat) : List Nat :=
  if heff (sl i).o then (List.range ops.size).filter fun k => k != i && isQuiet (sl k).o && isHdep (sl k).o && !(bef.getD i 0).testBit k && !(bef.getD k 0).testBit i else []

def cDraw1 (P : Program) (imp : Hn) (n : Nat) (ops : Array Oper) (fl : Nat → Option Nat) : Option (Nat × List (I × List I)) :=
  let na := countA ops ops.size
  match cIsD P imp ops fl n na (List.range ops.size) with
  | none => none
  | some xs =>
    let sl := fun i => xs.getD i default
    let bef := Region.before ops
    let st := stOf ops bef sl
    let ord := refOrd ops sl ops.size (Array.replicate ops.size false)
    if chk ops sl st ord (Array.replicate ops.size false) && (ord.length == ops.size) && P.follows .mixedOrders then some (na, ord.map fun i => (sl i, (st i).map sl)) else none

/-- Which pairs of an allocation and a store are taken for one filling: those of which the other half agrees. -/
def pairs (ops : Array Oper) (xs : List I) : List (Option Nat) :=
  let fs := (List.range ops.size).map (fillsOf ops xs)
  (List.range ops.size).map fun i => match fs.getD i none with
    | some k => match fs.getD k none with
      | some _ => some k
      | none => none
    | none => none

/-- With the pairs first, then without. -/
def cDraw (P : Program) (imp : Hn) (n : Nat) (ops : Array Oper) : Option (Nat × List (I × List I)) :=
  match cIsD P imp ops (fun _ => none) n (countA ops ops.size) (List.range ops.size) with
  | none => none
  | some xs =>
    let fl := pairs ops xs
    if fl.any Option.isSome then match cDraw1 P imp n ops (fun i => fl.getD i none) with
      | some r => some r
      | none => cDraw1 P imp n ops (fun _ => none)
    else cDraw1 P imp n ops (fun _ => none)

theorem any_sound [HasG P] {ops : Array Oper} {fl : Nat → Option Nat} {n na : Nat} {sl : Nat → I} {st : Nat → List Nat} (hsl : ∀ i o, ops[i]? = some o → cI P imp true (plOf ops fl na i) ops n o = some (sl i)) {R : S → Prop} {c0 : Cx} {w0 : World} {Q : Exit → Act → World → Prop}
    (hG : HasG.G P c0 w0) (hR : ∀ a' w', Nx n c0 w0 R a' w' → Q .normal a' w') : ∀ (fuel : Nat) (listed : Array Bool) (c : Cx) (s : S) (a : Act) (w : World), WAny (Snd P) ops sl st R fuel listed s → Sim c s a w → c0.le c → Below c0.B w0 w → a.tmps.size = n → a.defers = [] →
    wpAny P .any ops Q fuel listed a w
  | 0, listed, c, s, a, w, h, hs, hle, hb, hn, hd => ⟨h.1, hR _ _ ⟨s, c, h.2, hs, hle, hb, hn, hd⟩⟩
  | fuel + 1, listed, c, s, a, w, h, hs, hle, hb, hn, hd => by
    refine ⟨fun h0 => hR _ _ ⟨s, c, h.1 h0, hs, hle, hb, hn, hd⟩, fun i hi => ?_⟩
    have hW := h.2 i hi
    obtain ⟨_, o, ho, _⟩ := mem_ready.1 hi
    refine instr_sound (X := Snd P) (fun _ _ _ _ _ h => h) ho (hsl i o ho) hG hs hle hb hn hd hW ?_
    rintro a' w' ⟨s', c', k1, k2, k3, k4, k5, k6⟩
    exact any_sound hsl hG hR fuel _ c' s' a' w' k1.2 k2 k3 k4 k5 k6

theorem Inv.holes {c : Cx} {w : World} {H : Hp} (k : Inv c w H) (na : Nat) : Inv c w (H ++ List.replicate na .hole) := by
  have key : ∀ (o : Nat) x, (H ++ List.replicate na Ob.hole)[o]? = some x → H[o]? = some x ∨ x = .hole := by
    intro o x h
    rcases Nat.lt_or_ge o H.length with h' | h'
    · rw [List.getElem?_append_left h'] at h; exact .inl h
    · rw [List.getElem?_append_right h'] at h
      exact .inr (List.eq_of_mem_replicate (List.mem_of_getElem? h))
  refine ⟨k.keep, k.low, ?_, ?_, ?_, ?_, ?_, ?_, k.tok, ?_, k.toks⟩
  · intro o x cs h hx
    rcases key o _ h with h | h
    · exact k.row o x cs h hx
    · subst h; cases hx
  · intro o h
    refine k.free o ?_
    rcases h with h | h
    · exact .inl (by simp at h; omega)
    · rcases Nat.lt_or_ge o H.length with h' | h'
      · rw [List.getElem?_append_left h'] at h; exact .inr h
      · exact .inl h'
  · intro o x h hx
    rcases key o _ h with h | h
    · exact k.own o x h hx
    · subst h; cases hx
  · intro o o' x x' h h' hx hx' he
    rcases key o _ h with h | h
    · rcases key o' _ h' with h' | h'
      · exact k.apart o o' x x' h h' hx hx' he
      · subst h'; cases hx'
    · subst h; cases hx
  · intro o es h
    rcases key o _ h with h | h
    · exact k.map o es h
    · cases h
  · intro o m l h
    rcases key o _ h with h | h
    · exact k.iter o m l h
    · cases h
  · intro τ n z o x hτ h hx
    rcases key o _ h with h | h
    · exact k.tokrow τ n z o x hτ h hx
    · subst h; cases hx

theorem draw1_sound [HasG P] {id n : Nat} {ops : Array Oper} {fl : Nat → Option Nat} {na : Nat} {js : List (I × List I)} (h : cDraw1 P imp n ops fl = some (na, js)) {R : S → Prop} {c0 c : Cx} {w0 w : World} {s : S} {a : Act} {Q : Exit → Act → World → Prop}
    (hG : HasG.G P c0 w0) (hR : ∀ a' w', Nx n c0 w0 R a' w' → Q .normal a' w') (hW : Wd (Snd P) js R ⟨s.t, s.H ++ List.replicate na .hole, s.T⟩) (hs : Sim c s a w) (hle : c0.le c) (hb : Below c0.B w0 w) (hn : a.tmps.size = n) (hd : a.defers = []) :
    (Code.region id ops true).wp P Q a w := by
  unfold cDraw1 at h
  simp only at h
  split at h
  · cases h
  · rename_i xs hxs
    split at h
    · rename_i hc
      simp only [Bool.and_eq_true, beq_iff_eq] at hc
      obtain ⟨⟨h1, h2⟩, h3⟩ := hc
      injection h with h; injection h with e1 e2
      subst e1; subst e2
      refine wp_region_any h3 ?_
      have := chk_sound (X := Snd P) (R := R) Snd.mono _ _ _ h1 hW
      rw [h2] at this
      refine any_sound (P := P) (imp := imp) (fl := fl) (na := countA ops ops.size) ?_ hG hR _ _ c _ a _ this ⟨hs.T, Inv.congr (w := w) (w' := { w with drawn := w.drawn + 1 }) rfl (hs.inv.holes _), hs.fr⟩ hle (hb.trans (Below.refl _ _).drew) hn hd
      intro i o ho
      have hlt : i < ops.size := by
        rcases Nat.lt_or_ge i ops.size with h' | h'
        · exact h'
        · simp [Array.getElem?_eq_none h'] at ho
      obtain ⟨o', x, g1, g2, g3⟩ := cIsD_get hxs i i (by simp [hlt])
      rw [ho] at g1; injection g1 with g1; subst g1
      rw [g3]
      simp [List.getD, g2]
    · cases h

theorem draw_sound [HasG P] {id n : Nat} {ops : Array Oper} {na : Nat} {js : List (I × List I)} (h : cDraw P imp n ops = some (na, js)) {R : S → Prop} {c0 c : Cx} {w0 w : World} {s : S} {a : Act} {Q : Exit → Act → World → Prop}
    (hG : HasG.G P c0 w0) (hR : ∀ a' w', Nx n c0 w0 R a' w' → Q .normal a' w') (hW : Wd (Snd P) js R ⟨s.t, s.H ++ List.replicate na .hole, s.T⟩) (hs : Sim c s a w) (hle : c0.le c) (hb : Below c0.B w0 w) (hn : a.tmps.size = n) (hd : a.defers = []) :
    (Code.region id ops true).wp P Q a w := by
  unfold cDraw at h
  split at h
  · cases h
  · rename_i xs hxs
    simp only at h
    split at h
    · split at h
      · rename_i r hr
        injection h with h; subst h
        exact draw1_sound hr hG hR hW hs hle hb hn hd
      · exact draw1_sound h hG hR hW hs hle hb hn hd
    · exact draw1_sound h hG hR hW hs hle hb hn hd

/-! ### Code -/
def cIs (P : Program) (imp : Hn) (ops : Array Oper) (n : Nat) : List Nat → Option (List I)
  | [] => some []
  | i :: is => match ops[i]? with
    | some o => match cI P imp false ⟨0, none⟩ ops n o, cIs P imp ops n is with
      | some x, some xs => some (x :: xs)
      | _, _ => none
    | none => none

def cCode (P : Program) (imp : Hn) (n : Nat) : Code → Option C
  | .skip => some .skip
  | .region _ ops dr => if dr then match cDraw P imp n ops with
      | some (na, js) => some (.draw na js)
      | none => none
    else match cIs P imp ops n (List.range ops.size) with
      | some is => some (.reg is)
      | none => none
  | .seq a b => match cCode P imp n a, cCode P imp n b with
    | some x, some y => some (.seq x y)
    | _, _ => none
  | .cond c a b => match cRd c, cCode P imp n a, cCode P imp n b with
    | some r, some x, some y => some (.cond r x y)
    | _, _, _ => none
  | .block i c => match cCode P imp n c with
    | some x => some (.block i x)
    | none => none
  | .loop c => match cCode P imp n c with
    | some x => some (.loop x)
    | none => none
  | .exit i => some (.exit i)
  | .ret => some .ret
  | _ => none

theorem ops_sound [HasG P] {ops : Array Oper} {n : Nat} {R : S → Prop} {c0 : Cx} {w0 : World} {Q : Exit → Act → World → Prop} (hG : HasG.G P c0 w0) (hR : ∀ a' w', Nx n c0 w0 R a' w' → Q .normal a' w') : ∀ (l : List Nat) (is : List I), cIs P imp ops n l = some is →
    ∀ (c : Cx) (s : S) (a : Act) (w : World), Wr (Snd P) is R s → Sim c s a w → c0.le c → Below c0.B w0 w → a.tmps.size = n → a.defers = [] → wpOps P ops Q l a w
  | [], is, h, c, s, a, w, hW, hs, hle, hb, hn, hd => by
    simp [cIs] at h; subst h
    exact hR _ _ ⟨s, c, hW, hs, hle, hb, hn, hd⟩
  | i :: l, is, h, c, s, a, w, hW, hs, hle, hb, hn, hd => by
    simp only [cIs] at h
    split at h
    · rename_i o ho
      split at h
      · rename_i x xs h1 h2
        injection h with h; subst h
        rw [wpOps_cons]
        refine instr_sound (X := Snd P) (fun _ _ _ _ _ h => h) ho h1 hG hs hle hb hn hd hW ?_
        rintro a' w' ⟨s', c', k1, k2, k3, k4, k5, k6⟩
        exact ops_sound hG hR l xs h2 c' s' a' w' k1 k2 k3 k4 k5 k6
      · cases h
    · cases h

def exQ (Q : Ex → S → Prop) : Exit → S → Prop
  | .normal, s => Q .normal s
  | .exit i, s => Q (.exit i) s
  | .ret, s => Q .ret s
  | _, _ => False

def QC (n : Nat) (c0 : Cx) (w0 : World) (Q : Ex → S → Prop) (e : Exit) (a' : Act) (w' : World) : Prop := Nx n c0 w0 (exQ Q e) a' w'

theorem W_sound [HasG P] {n : Nat} : ∀ (code : Code) (cc : C), cCode P imp n code = some cc → ∀ (c0 : Cx) (w0 : World) (_ : HasG.G P c0 w0) (c : Cx) (s : S) (a : Act) (w : World) (Q : Ex → S → Prop), W (Snd P) cc Q s → Sim c s a w → c0.le c → Below c0.B w0 w → a.tmps.size = n → a.defers = [] →
    code.wp P (QC n c0 w0 Q) a w := by
  intro code
  induction code with
  | skip =>
    intro cc h c0 w0 hG c s a w Q hW hs hle hb hn hd
    simp [cCode] at h; subst h
    exact wp_skip ⟨s, c, hW, hs, hle, hb, hn, hd⟩
  | region id ops dr =>
    intro cc h c0 w0 hG c s a w Q hW hs hle hb hn hd
    simp only [cCode] at h
    cases dr with
    | true =>
      simp only [if_true] at h
      split at h
      · rename_i na js hdr
        injection h with h; subst h
        exact draw_sound (P := P) (imp := imp) hdr (R := Q .normal) hG (fun a' w' h => h) (by simpa only [W] using hW) hs hle hb hn hd
      · cases h
    | false =>
      simp only [Bool.false_eq_true, if_false] at h
      split at h
      · rename_i is his
        injection h with h; subst h
        exact wp_region (ops_sound (P := P) (imp := imp) (R := Q .normal) hG (fun a' w' h => h) _ is his c s a w (by simpa only [W] using hW) hs hle hb hn hd)
      · cases h
  | seq x y ihx ihy =>
    intro cc h c0 w0 hG c s a w Q hW hs hle hb hn hd
    simp only [cCode] at h
    split at h
    · rename_i cx cy hx hy
      injection h with h; subst h
      simp only [W] at hW
      refine wp_seq (wp_mono (ihx cx hx c0 w0 hG c s a w _ hW hs hle hb hn hd) ?_)
      rintro e a' w' ⟨s', c', k1, k2, k3, k4, k5, k6⟩
      cases e with
      | normal => exact ihy cy hy c0 w0 hG c' s' a' w' Q k1 k2 k3 k4 k5 k6
      | exit i => exact ⟨s', c', k1, k2, k3, k4, k5, k6⟩
      | ret => exact ⟨s', c', k1, k2, k3, k4, k5, k6⟩
      | goto l => exact k1.elim
      | panic ch => exact k1.elim
      | outgrown => exact k1.elim
    · cases h
  | cond x y z ihy ihz =>
    intro cc h c0 w0 hG c s a w Q hW hs hle hb hn hd
    simp only [cCode] at h
    split at h
    · rename_i r cy cz hr hy hz
      injection h with h; subst h
      simp only [W] at hW
      split at hW
      · rename_i t ht
        have hrep := cRd_rep hr hs.fr
        rw [ht] at hrep
        have hv : a.eval x = .bool t := by
          generalize a.eval x = v at hrep
          cases hrep; rfl
        refine wp_cond hv ?_
        cases t
        · exact ihz cz hz c0 w0 hG c s a w Q hW hs hle hb hn hd
        · exact ihy cy hy c0 w0 hG c s a w Q hW hs hle hb hn hd
      · exact hW.elim
    · cases h
  | block i x ih =>
    intro cc h c0 w0 hG c s a w Q hW hs hle hb hn hd
    simp only [cCode] at h
    split at h
    · rename_i cx hx
      injection h with h; subst h
      simp only [W] at hW
      refine wp_block (wp_mono (ih cx hx c0 w0 hG c s a w _ hW hs hle hb hn hd) ?_)
      rintro e a' w' ⟨s', c', k1, k2, k3, k4, k5, k6⟩
      cases e with
      | normal => exact ⟨s', c', k1, k2, k3, k4, k5, k6⟩
      | exit j =>
        simp only [exQ, blkK] at k1
        simp only [Exit.inBlock]
        split
        · rename_i e; rw [if_pos e] at k1; exact ⟨s', c', k1, k2, k3, k4, k5, k6⟩
        · rename_i e; rw [if_neg e] at k1; exact ⟨s', c', k1, k2, k3, k4, k5, k6⟩
      | ret => exact ⟨s', c', k1, k2, k3, k4, k5, k6⟩
      | goto l => exact k1.elim
      | panic ch => exact k1.elim
      | outgrown => exact k1.elim
    · cases h
  | loop x ih =>
    intro cc h c0 w0 hG c s a w Q hW hs hle hb hn hd
    simp only [cCode] at h
    split at h
    · rename_i cx hx
      injection h with h; subst h
      simp only [W] at hW
      obtain ⟨Iv, μ, h0, hround⟩ := hW
      refine wp_loop_ghost (fun k a' w' => Nx n c0 w0 (fun s' => Iv s' ∧ μ s' = k) a' w') (μ s) ⟨s, c, ⟨h0, rfl⟩, hs, hle, hb, hn, hd⟩ ?_
      rintro k a1 w1 ⟨s1, c1, ⟨g1, g2⟩, g3, g4, g5, g6, g7⟩
      refine wp_mono (ih cx hx c0 w0 hG c1 s1 a1 w1 _ (hround s1 g1) g3 g4 g5 g6 g7) ?_
      rintro e a' w' ⟨s', c', k1, k2, k3, k4, k5, k6⟩
      cases e with
      | normal => exact ⟨μ s', by rw [← g2]; exact k1.2, s', c', ⟨k1.1, rfl⟩, k2, k3, k4, k5, k6⟩
      | exit j => exact ⟨s', c', k1, k2, k3, k4, k5, k6⟩
      | ret => exact ⟨s', c', k1, k2, k3, k4, k5, k6⟩
      | goto l => exact k1.elim
      | panic ch => exact k1.elim
      | outgrown => exact k1.elim
    · cases h
  | exit i =>
    intro cc h c0 w0 hG c s a w Q hW hs hle hb hn hd
    simp [cCode] at h; subst h
    exact wp_exit ⟨s, c, hW, hs, hle, hb, hn, hd⟩
  | ret =>
    intro cc h c0 w0 hG c s a w Q hW hs hle hb hn hd
    simp [cCode] at h; subst h
    exact wp_ret ⟨s, c, hW, hs, hle, hb, hn, hd⟩
  | _ => intro cc h; simp [cCode] at h

/-! ### Calls -/
def resL : List (Sum Nat (Nat × Bool × Nat)) → S → Option (List D)
  | [], _ => some []
  | .inl t :: l, s => match resL l s with
    | some ds => some (s.t t :: ds)
    | none => none
  | .inr (x, ag, n) :: l, s => match ld ag n (rdAt s.H (s.t x)), resL l s with
    | some d, some ds => some (d :: ds)
    | _, _ => none

def cRes (P : Program) : List ResultVar → Option (List (Sum Nat (Nat × Bool × Nat)))
  | [] => some []
  | .tmp t :: l => match cRes P l with
    | some rs => some (.inl t :: rs)
    | none => none
  | .cell x t :: l => match tag P t, tsz P t, cRes P l with
    | some ag, some n, some rs => some (.inr (x, ag, n) :: rs)
    | _, _, _ => none

def retD : List D → D
  | [d] => d
  | ds => .tup ds

def retK (rs : List (Sum Nat (Nat × Bool × Nat))) (Q : Post) (s : S) : Prop :=
  match resL rs s with
  | some ds => Q (retD ds) s.H s.T
  | none => False

/-- What a call's body leaves. -/
def endQ (rs : List (Sum Nat (Nat × Bool × Nat))) (Q : Post) : Ex → S → Prop
  | .normal, s | .ret, s => retK rs Q s
  | _, _ => False

def argT (args : List D) : Nat → D := fun i => (args[i]?).getD .top

structure Fn (P : Program) (f : FuncId) (n : Nat) (rs : List (Sum Nat (Nat × Bool × Nat))) (cc : C) : Prop where
  ok : ∃ fn code, P.funcs[f]? = some fn ∧ fn.body = some code ∧ (fn.name == "runtime.NumGoroutine") = false ∧ fn.ntmps = n ∧ cRes P fn.results.toList = some rs ∧ ∃ imp, cCode P imp n code = some cc

theorem res_sound {c : Cx} {s : S} {a : Act} {w : World} (hs : Sim c s a w) : ∀ {l : List ResultVar} {rs : List (Sum Nat (Nat × Bool × Nat))} {ds : List D}, cRes P l = some rs → resL rs s = some ds →
    ∃ vs, (l.mapM (fun r => match r with | .tmp t => pure (a.tmps.getD t undef) | .cell x t => do loadVar t (← asAddr (a.tmps.getD x undef)) : ResultVar → Sem Value)).run P w = .ok vs w ∧ Reps c ds vs
  | [], rs, ds, h1, h2 => by
    simp [cRes] at h1; subst h1
    simp [resL] at h2; subst h2
    exact ⟨[], by simp, Reps.nil⟩
  | .tmp t :: l, rs, ds, h1, h2 => by
    simp only [cRes] at h1
    split at h1
    · rename_i rs' h3
      injection h1 with h1; subst h1
      simp only [resL] at h2
      split at h2
      · rename_i ds' h4
        injection h2 with h2; subst h2
        obtain ⟨vs, e1, e2⟩ := res_sound hs h3 h4
        refine ⟨a.tmps.getD t undef :: vs, ?_, ?_⟩
        · simp only [List.mapM_cons, Sem.run_bind, Sem.run_pure, Result.andThen_ok, e1]
        · refine ⟨by simp [e2.len], fun i h h' => ?_⟩
          cases i with
          | zero => exact hs.fr t
          | succ i => exact e2.rep i (by simpa using h) (by simpa using h')
      · cases h2
    · cases h1
  | .cell x t :: l, rs, ds, h1, h2 => by
    simp only [cRes] at h1
    split at h1
    · rename_i ag n rs' h5 h6 h3
      injection h1 with h1; subst h1
      simp only [resL] at h2
      split at h2
      · rename_i d ds' h7 h4
        injection h2 with h2; subst h2
        obtain ⟨vs, e1, e2⟩ := res_sound hs h3 h4
        obtain ⟨u, e3, e4⟩ := load_sound (P := P) hs.inv (hs.fr x) h5 h6 h7
        have hp : ∃ p, a.tmps.getD x undef = .pointer (some p) := by
          cases hrd : rdAt s.H (s.t x) with
          | none => rw [hrd] at h7; cases h7
          | some cs =>
            obtain ⟨p, _, hp, _⟩ := read_at hs.inv (hs.fr x) hrd
            exact ⟨p, hp⟩
        obtain ⟨p, hp⟩ := hp
        have hq : (asAddr (a.tmps.getD x undef)).run P w = .ok p w := by rw [hp]; rfl
        rw [hp] at e3
        have e3' : (loadVar t p).run P w = .ok u w := by simpa [Instr.loadAt, Instr.sureAddr] using e3
        refine ⟨u :: vs, ?_, ?_⟩
        · simp only [List.mapM_cons, Sem.run_bind, hq, Sem.run_pure, Result.andThen_ok, e3', e1]
        · refine ⟨by simp [e2.len], fun i h h' => ?_⟩
          cases i with
          | zero => exact e4
          | succ i => exact e2.rep i (by simpa using h) (by simpa using h')
      · cases h2
    · cases h1

/-- A call, by its body. -/
theorem call_body [HasG P] {f : FuncId} {n : Nat} {rs : List (Sum Nat (Nat × Bool × Nat))} {cc : C} (hf : Fn P f n rs cc) {args : List D} (hlen : args.length ≤ n) {H : Hp} {T : Tk} {Q : Post} (hW : W (Snd P) cc (endQ rs Q) ⟨argT args, H, T⟩) :
    ∀ (c : Cx) (w : World) (vs : List Value), HasG.G P c w → Inv c w H → c.T = T → Reps c args vs → (callFunc f vs.toArray).run P w = .ok (.enter f vs.toArray) w ∧ Calls P f vs.toArray w (CallPost c w Q) := by
  obtain ⟨fn, code, h1, h2, h3, h4, h5, imp, h6⟩ := hf.ok
  intro c w vs hg hi hT hr
  refine ⟨?_, ?_⟩
  · have h3' : ¬ fn.name = "runtime.NumGoroutine" := by simpa using h3
    simp [callFunc, h1, h2, h3']
  · refine calls_of_wp h1 h2 ?_
    have hvl : vs.length ≤ n := by rw [hr.len]; exact hlen
    have hsz : (vs.toArray ++ Array.replicate (fn.ntmps - vs.toArray.size) undef).size = n := by simp [h4]; omega
    have hs : Sim c ⟨argT args, H, T⟩ { tmps := vs.toArray ++ Array.replicate (fn.ntmps - vs.toArray.size) undef, defers := [] } w := by
      refine ⟨hT, hi, fun i => ?_⟩
      simp only [argT]
      rcases Nat.lt_or_ge i args.length with h' | h'
      · have h'' : i < vs.length := by rw [hr.len]; exact h'
        have := hr.rep i h' h''
        simp only [List.getElem?_eq_getElem h', Option.getD_some]
        rw [Array.getD_eq_getD_getElem?, Array.getElem?_append_left (by simpa using h'')]
        simpa [h''] using this
      · rw [List.getElem?_eq_none h']
        exact .top _
    refine wp_mono (W_sound (P := P) (imp := imp) code cc (by rw [h4] at *; exact h6) c w hg c _ _ w _ hW hs (Cx.le.refl c) (Below.refl _ _) hsz rfl) ?_
    rintro e a' w' ⟨s', c', k1, k2, k3, k4, k5, k6⟩
    have fin : retK rs Q s' → ∃ v, (results fn a'.tmps).run P w' = .ok v w' ∧ CallPost c w Q (.returned v) w' := by
      intro hret
      unfold retK at hret
      split at hret
      · rename_i ds hds
        obtain ⟨us, e1, e2⟩ := res_sound (P := P) k2 h5 hds
        have hm : (fn.results.mapM (fun r => match r with | .tmp t => pure (a'.tmps.getD t undef) | .cell x t => do loadVar t (← asAddr (a'.tmps.getD x undef)) : ResultVar → Sem Value)).run P w' = .ok us.toArray w' := by
          rw [Array.mapM_eq_mapM_toList, Sem.run_map, e1]; rfl
        refine ⟨if h : us.toArray.size = 1 then us.toArray[0] else .tuple us.toArray, ?_, _, rfl, _, s'.H, s'.T, c', hret, ?_, k2.inv, k3, k2.T, k4⟩
        · unfold results
          simp only [Sem.run_bind, Sem.run_pure]
          exact (congrArg (fun r => Result.andThen r _) hm)
        · have hl := e2.len
          match ds, us, hl with
          | [d], [u], _ =>
            have := e2.rep 0 (by simp) (by simp)
            simpa [retD] using this
          | [], [], _ => exact Rep.tup [] [] rfl e2.rep
          | d :: d' :: ds, u :: u' :: us, hl =>
            have hne : ¬ ((u :: u' :: us).toArray.size = 1) := by simp
            rw [dif_neg hne]
            exact Rep.tup _ _ hl e2.rep
      · exact hret.elim
    cases e with
    | normal => exact ⟨k6, fin k1⟩
    | ret => exact ⟨k6, fin k1⟩
    | exit i => exact k1.elim
    | goto l => exact k1.elim
    | panic ch => exact k1.elim
    | outgrown => exact k1.elim

theorem call_of [HasG P] {f : FuncId} {n : Nat} {rs : List (Sum Nat (Nat × Bool × Nat))} {cc : C} (hf : Fn P f n rs cc) {args : List D} (hlen : args.length ≤ n) {H : Hp} {T : Tk} {Q : Post} (hW : W (Snd P) cc (endQ rs Q) ⟨argT args, H, T⟩) : Snd P f args H T Q :=
  fun c w vs hg h1 h2 h3 => .inl (call_body hf hlen hW c w vs hg h1 h2 h3)

end GP
