import Derived.Test.YtnipbngimicldaaDoorGpFz
import Derived.BigFrame
/- Strings to bytes; the compiler of operations. -/
namespace GP
open Go

variable {P : Program} {c : Cx} {w : World} {H : Hp}

theorem fresh_slr (k : Inv c w H) {sz : Nat} {xs : List D} {vss : List (List Value)} (hk : Elems c sz xs vss) (e : TypeId) (fr : Nat × Nat) (hb : xs.length < 2 ^ 62) (rest : List Value) {cap : Nat} (hcap : xs.length ≤ cap) {T : Tk} (hT : c.T = T) :
    Yld c w H T (.sl none xs) (.ok (.slice (some ⟨w.heap.size, 0, none⟩) xs.length cap) (w.alloc (.cells (vss.flatten ++ rest).toArray e fr))) := by
  have hle := fresh_le k (vss.flatten ++ rest) vss.flatten.length
  refine ⟨_, { c with M := freshM c.M w.heap.size (vss.flatten ++ rest) vss.flatten.length }, _, rfl, ?_, k.fresh _ e fr _, hle, hT, Below.of_alloc w _ k.low⟩
  refine rep_sl_of (hk.mono hle) rfl hcap hb (fun j hj => ?_) none (fun τ h => by cases h) (fun τ h => by cases h)
  have : j < vss.flatten.length := by rw [flat_len vss hk.sz', hk.len]; exact hj
  show freshM _ _ _ _ _ = _
  simp only [Nat.zero_add]
  rw [freshM_at this, List.getElem?_append_left this]

theorem freeze_new (w : World) (arr : Array Value) (e : TypeId) : (w.alloc (.cells arr e)).freeze ⟨w.heap.size, arr.size, none⟩ 1 = w.alloc (.cells arr e (arr.size, arr.size + 1)) := by
  unfold World.freeze
  rw [if_neg (by decide)]
  show ({ w.alloc (.cells arr e) with heap := _ } : World) = { w with heap := _ }
  have : ∀ f : Obj → Obj, (w.heap.push (.cells arr e)).modify w.heap.size f = w.heap.push (f (.cells arr e)) := by
    intro f
    apply Array.ext_getElem?
    intro i
    rw [Array.getElem?_modify]
    by_cases h : w.heap.size = i
    · subst h; simp
    · rw [if_neg h]
      simp only [Array.getElem?_push]
      rw [if_neg (Ne.symm h), if_neg (Ne.symm h)]
  show World.mk ((w.heap.push (.cells arr e)).modify w.heap.size _) _ _ _ _ = World.mk _ _ _ _ _
  rw [this]
  rfl

theorem run_s2b {src dst e : TypeId} (hs : P.underlying src = some .string) (hd : P.underlying dst = some (.slice e)) (he : P.underlying e = some (.int .u8)) (l : List UInt8) :
    ∃ cap, l.length ≤ cap ∧ (Go.convert src dst (.string ⟨l.toArray⟩)).run P w =
      .ok (.slice (some ⟨w.heap.size, 0, none⟩) l.length cap) (w.drew.alloc (.cells ((l.map fun b : UInt8 => Value.int .u8 b.toNat) ++ List.replicate (cap - l.length) (Value.int .u8 0)).toArray e
        (((l.map fun b : UInt8 => Value.int .u8 b.toNat) ++ List.replicate (cap - l.length) (Value.int .u8 0)).toArray.size, ((l.map fun b : UInt8 => Value.int .u8 b.toNat) ++ List.replicate (cap - l.length) (Value.int .u8 0)).toArray.size + 1))) := by
  refine ⟨grownCap w l.length 0 e, by simp [grownCap, Question.cut], ?_⟩
  have e1 : (Array.map (fun b : UInt8 => Value.int .u8 b.toNat) l.toArray ++ Array.replicate (grownCap w l.length 0 e - l.length) (Value.int .u8 0)) =
      ((l.map fun b : UInt8 => Value.int .u8 b.toNat) ++ List.replicate (grownCap w l.length 0 e - l.length) (Value.int .u8 0)).toArray := by
    apply Array.toList_inj.1; simp
  have hc : (choose (.appendCap l.length 0 e)).run P w = .ok (grownCap w l.length 0 e) w.drew := by simp [Question.forced, grownCap]
  simp only [Go.convert, Sem.run_bind, run_underlying hs, run_underlying hd, run_underlying he, Result.andThen_ok, Conv.stringToBytes, size_mk, hc, newRow, run_newObj, Sem.run_pure, World.alloc_eq, e1, markStringish, run_shape]
  have hsh : (w.drew.alloc (.cells ((l.map fun b : UInt8 => Value.int .u8 b.toNat) ++ List.replicate (grownCap w l.length 0 e - l.length) (Value.int .u8 0)).toArray e)).shape? w.drew.heap.size =
      some (e, ((l.map fun b : UInt8 => Value.int .u8 b.toNat) ++ List.replicate (grownCap w l.length 0 e - l.length) (Value.int .u8 0)).toArray.size) := by
    unfold World.shape?
    rw [alloc_new]
  rw [hsh]
  simp only [run_freeze, Result.andThen_ok]
  rw [freeze_new]
  rfl

theorem byte_elems (l : List UInt8) : Elems c 1 (byteD l) (l.map fun b => [Value.int .u8 b.toNat]) := by
  refine ⟨by simp [byteD], fun i h h' => ⟨by simp [byteD, D.cells], by simp [byteD, D.cells, D.one], fun j hj hj' => ?_⟩, fun x hx => ?_⟩
  · simp [byteD, D.cells] at hj ⊢
    subst hj
    exact Rep.int _ _
  · simp only [byteD, List.mem_map] at hx
    obtain ⟨b, _, rfl⟩ := hx
    rfl

theorem byte_flat (l : List UInt8) : (l.map fun b => [Value.int .u8 b.toNat]).flatten = l.map fun b => Value.int .u8 b.toNat := by
  induction l with
  | nil => rfl
  | cons b l ih => simpa using ih

theorem s2bq_sound (k : Inv c w H) {src dst e : TypeId} (hs : P.underlying src = some .string) (hd : P.underlying dst = some (.slice e)) (he : P.underlying e = some (.int .u8)) {l : List UInt8} {v : Value} (hx : Rep c (.str l) v) {T : Tk} (hT : c.T = T) :
    Yld c w H T (.sl none (byteD l)) ((Go.convert src dst v).run P w) := by
  cases hx with
  | str _ hl =>
    obtain ⟨cap, h1, h2⟩ := run_s2b (P := P) (w := w) hs hd he l
    rw [h2]
    have := fresh_slr k.drew (byte_elems l) e (((l.map fun b : UInt8 => Value.int .u8 b.toNat) ++ List.replicate (cap - l.length) (Value.int .u8 0)).toArray.size, ((l.map fun b : UInt8 => Value.int .u8 b.toNat) ++ List.replicate (cap - l.length) (Value.int .u8 0)).toArray.size + 1)
      (by simpa [byteD] using hl) (List.replicate (cap - l.length) (.int .u8 0)) (cap := cap) (by simpa [byteD] using h1) hT
    rw [byte_flat] at this
    simpa [byteD] using this.drew

theorem s2b_sound (k : Inv c w H) {src dst e : TypeId} (hs : P.underlying src = some .string) (hd : P.underlying dst = some (.slice e)) (he : P.underlying e = some (.int .u8)) {l : List UInt8} {v : Value} (hx : Rep c (.str l) v) {T : Tk} (hT : c.T = T) :
    Yld c w H (T ++ [some (l.length, 1)]) (.sl (some T.length) (byteD l)) ((Go.convert src dst v).run P w) := by
  cases hx with
  | str _ hl =>
    obtain ⟨cap, h1, h2⟩ := run_s2b (P := P) (w := w) hs hd he l
    rw [h2]
    have := fresh_tok k.drew (byte_elems l) e (by simpa [byteD] using hl) (List.replicate (cap - l.length) (.int .u8 0))
      (((l.map fun b : UInt8 => Value.int .u8 b.toNat) ++ List.replicate (cap - l.length) (Value.int .u8 0)).toArray.size, ((l.map fun b : UInt8 => Value.int .u8 b.toNat) ++ List.replicate (cap - l.length) (Value.int .u8 0)).toArray.size + 1)
      (fun i hi => by rw [byte_flat] at hi; simp at hi ⊢; omega) (cap := cap) (by simpa [byteD] using h1) (by rw [byte_flat]; simp; omega) (τ := T.length) (T' := T ++ [some (l.length, 1)]) (by simp [byteD]) (fun h => by rw [hT] at h; omega)
      (fun j hj => by
        rw [hT]
        rcases Nat.lt_or_ge j T.length with h' | h'
        · rw [List.getElem?_append_left h']
        · rw [List.getElem?_eq_none (by simp; omega), List.getElem?_eq_none h']) (by rw [hT]; simp)
    rw [byte_flat] at this
    simpa [byteD] using this.drew

/-! ### The compiler, operation by operation -/
def optRd : Option Operand → Option (Option Rd)
  | none => some none
  | some x => match cRd x with
    | some r => some (some r)
    | none => none

theorem optRd_ok {oo : Option Operand} {o : Option Rd} (h : optRd oo = some o) : o = none ∧ oo = none ∨ ∃ r x, o = some r ∧ oo = some x ∧ cRd x = some r := by
  cases oo with
  | none => simp [optRd] at h; exact .inl ⟨h.symm, rfl⟩
  | some x =>
    simp only [optRd] at h
    split at h
    · rename_i r hr; injection h with h; exact .inr ⟨r, x, h.symm, rfl, hr⟩
    · cases h

def cParts (place : Nat → Option (Nat × Nat)) : List (Nat × Operand) → Option (List (Nat × Nat × Rd))
  | [] => some []
  | (i, x) :: ps => match place i, cRd x, cParts place ps with
    | some (off, sz), some r, some rs => some ((off, sz, r) :: rs)
    | _, _, _ => none

def fieldPlaces (P : Program) (fs : Array Field) : Nat → Option (Nat × Nat) := fun i => match fs[i]? with
  | some f => match tsz P f.type with
    | some n => some (f.offset, n)
    | none => none
  | none => none

def isInt8 (P : Program) (t : TypeId) : Bool := match P.underlying t with | some (.int .u8) => true | _ => false
def isStr (P : Program) (t : TypeId) : Bool := match P.underlying t with | some .string => true | _ => false
def intOf (P : Program) (t : TypeId) : Option IntKind := match P.underlying t with | some (.int k) => some k | _ => none

theorem isInt8_ok {t : TypeId} (h : isInt8 P t = true) : P.underlying t = some (.int .u8) := by unfold isInt8 at h; split at h <;> simp_all
theorem isStr_ok {t : TypeId} (h : isStr P t = true) : P.underlying t = some .string := by unfold isStr at h; split at h <;> simp_all
theorem intOf_ok {t : TypeId} {k : IntKind} (h : intOf P t = some k) : P.underlying t = some (.int k) := by unfold intOf at h; split at h <;> simp_all

def cConv (P : Program) (mu dr : Bool) (src dst : TypeId) (r : Rd) : Option O :=
  match intOf P dst with
  | some k => if (P.underlying src).isSome then some (.conv k r) else none
  | none =>
    if isStr P dst then
      if isStr P src then some (.mvs r) else
      match sliceOf P src with
      | some e => if isInt8 P e then some (if mu then .b2m r else .b2s r) else none
      | none => none
    else if isStr P src then
      match sliceOf P dst with
      | some e => if isInt8 P e then some (if dr then .s2bq r else .s2b r) else none
      | none => none
    else none

def idxs? (l : List (Nat × Operand)) (n : Nat) : Bool := l.map (·.1) == List.range n

/-- How a text is to be turned: which calls change memory; whether new rows are mutable. -/
structure Hn where
  imp : FuncId → Bool
  mu : Bool

/-- An operation's place among those of a region that draws; of a store, the place that it fills. -/
structure Pl where
  pos : Nat
  fill : Option Nat

def cBuiltin (P : Program) (mu : Bool) (b : Builtin) (ats : List TypeId) (rs : List Rd) : Option O :=
  match b, ats, rs with
  | .len, [t], [x] => if isStr P t then some (.lens x) else if (sliceOf P t).isSome then some (.len x) else none
  | .min, _, [x, y] => some (.mn x y)
  | .max, _, [x, y] => some (.mx x y)
  | .append, [st, xt], [x, y] =>
    match sliceOf P st with
    | some e => match tsz P e, tbytes P e, tz P e with
      | some sz, some by_, some z => if appT P xt && (z.length == sz) && (!isStr P xt || sz == 1) then some (if mu then .appm (tag P e == some true) (isStr P xt) sz by_ x y else .app (isStr P xt) sz by_ x y) else none
      | _, _, _ => none
    | none => none
  | .copy, [dt, _], [x, y] => match sliceOf P dt with
    | some e => match tsz P e with
      | some sz => some (.copy sz x y)
      | none => none
    | none => none
  | .clear, [t], [x] => match sliceOf P t with
    | some e => match tz P e with
      | some z => some (.clr z x)
      | none => none
    | none => none
  | _, _, _ => none

def cOp (P : Program) (imp : Hn) (dr : Bool) (j : Pl) : Op → Option O
  | .move x | .assign x => match cRd x with | some r => some (.mv r) | none => none
  | .pick c a b => match cRd c, cRd a, cRd b with
    | some c, some a, some b => some (.pick c a b)
    | _, _, _ => none
  | .alloc t => match tz P t with
    | some z => some (if dr then (match j.fill with | some _ => .rawAt j.pos z | none => .allocAt j.pos z) else .alloc z)
    | none => none
  | .box _ x => match cRd x with
    | some r => some (if dr then .boxAt j.pos r else .box r)
    | none => none
  | .build t ps => match tz P t with
    | some z => match structOf P t, arrayOf P t with
      | some fs, _ => match cParts (fieldPlaces P fs) ps.toList with
        | some l => if (List.range fs.size).all (fun i => (fieldPlaces P fs i).isSome) then some (.build z l) else none
        | none => none
      | none, some (_, e) => match tsz P e with
        | some sz => match cParts (fun i => some (i * sz, sz)) ps.toList with
          | some l => some (.build z l)
          | none => none
        | none => none
      | none, none => none
    | none => none
  | .buildSlice t n ps => match sliceOf P t with
    | some e => match tsz P e, cRds (ps.toList.map (·.2)) with
      | some sz, some rs => if idxs? ps.toList n && (tz P e).isSome && decide (n * sz ≤ 2 ^ 24) && decide (n ≤ 2 ^ 24) then some (if dr then .bslq sz rs else if imp.mu then .bslm (tag P e == some true) sz rs else .bsl sz rs) else none
      | _, _ => none
    | none => none
  | .load t x => match tag P t, tsz P t, cRd x with
    | some ag, some n, some r => some (.load ag n r)
    | _, _, _ => none
  | .store t x v => match tsz P t, cRd x, cRd v with
    | some n, some r, some q => some (match j.fill with | some m => .fillAt m n r q | none => .store n r q)
    | _, _, _ => none
  | .nilCheck x => match cRd x with | some r => some (.nilc r) | none => none
  | .binOp op t x y _ => match cRd x, cRd y with
    | some r, some q =>
      if op == .eql || op == .neq then
        match cks P t with
        | some ks => some (.eqa ks (op == .neq) r q)
        | none => match tqOf P t with
          | some k => if isConstOp y || k != .ifc then some (.eq1 k (op == .neq) r q) else none
          | none => some (.bin op r q)
      else some (.bin op r q)
    | _, _ => none
  | .unOp op _ x => match cRd x with | some r => some (.un op r) | none => none
  | .convert src dst x => match cRd x with | some r => cConv P imp.mu dr src dst r | none => none
  | .makeFunc (.func f) first cap => match cRds first.toList, cRds cap.toList with
    | some a, some b => some (.mkfn f a b)
    | _, _ => none
  | .slice t x lo hi none => match cRd x, optRd lo, optRd hi with
    | some r, some l, some h => if isStr P t then some (.subs r l h) else match sliceOf P t with
      | some e => match tsz P e with
        | some sz => some (.sls sz r l h)
        | none => none
      | none => none
    | _, _, _ => none
  | .slice t x lo hi (some m) => match cRd x, optRd lo, optRd hi, cRd m with
    | some r, some l, some (some h), some q => match sliceOf P t with
      | some e => match tsz P e with
        | some sz => some (.sls3 sz r l (some h) (some q))
        | none => none
      | none => none
    | _, _, _, _ => none
  | .makeSlice t n m => match cRd n, cRd m with
    | some r, some q => match sliceOf P t with
      | some e => match tsz P e, tbytes P e, tz P e with
        | some sz, some by_, some z => if dr then none else some (.mkm (tag P e == some true) sz by_ z r q)
        | _, _, _ => none
      | none => none
    | _, _ => none
  | .fieldAddr t x k => match structOf P t, cRd x with
    | some fs, some r => match fs[k]? with
      | some f => match tsz P f.type with
        | some (n + 1) => some (.faddr f.offset r)
        | _ => none
      | none => none
    | _, _ => none
  | .field t x k => match structOf P t, cRd x with
    | some fs, some r => match fs[k]? with
      | some f => match tag P f.type, tsz P f.type with
        | some ag, some n => some (.field ag f.offset n r)
        | _, _ => none
      | none => none
    | _, _ => none
  | .indexAddr t x i => match cRd x, cRd i with
    | some r, some q => match sliceOf P t, arrayOf P t with
      | some e, _ => match tsz P e with
        | some sz => some (.iaddr sz r q)
        | none => none
      | none, some (len, e) => match tsz P e with
        | some sz => some (.iarr sz len r q)
        | none => none
      | none, none => none
    | _, _ => none
  | .index t x i => match cRd x, cRd i with
    | some r, some q => if isStr P t then some (.idxs r q) else match arrayOf P t with
      | some (len, e) => match tsz P e, tag P e with
        | some sz, some ag => some (.idxa ag sz len r q)
        | _, _ => none
      | none => none
    | _, _ => none
  | .extract x k => match cRd x with | some r => some (.ext k r) | none => none
  | .call { callee := .builtin b, args, argTypes } => match cRds args.toList with
    | some rs => cBuiltin P imp.mu b argTypes.toList rs
    | none => none
  | .call { callee := .value f, args, .. } => match cRd f, cRds args.toList with
    | some r, some rs => some (match f with
      | .func g => if imp.imp g then .call r rs else .pcall r rs
      | _ => .pcall r rs)
    | _, _ => none
  | _ => none

/-- What an operation leaves. -/
def Res (c : Cx) (w : World) (s : S) (K : D → S → Prop) (v : Value) (w' : World) : Prop :=
  ∃ d s' c', K d s' ∧ s'.t = s.t ∧ Rep c' d v ∧ Inv c' w' s'.H ∧ c.le c' ∧ c'.T = s'.T ∧ Below c.B w w'

def CallPost (c : Cx) (w : World) (Q : Post) (e : Ending) (w' : World) : Prop :=
  ∃ v, e = .returned v ∧ ∃ r H' T' c', Q r H' T' ∧ Rep c' r v ∧ Inv c' w' H' ∧ c.le c' ∧ c'.T = T' ∧ Below c.B w w'

/-- What is known of the memory in which all calls run (package-level variables). -/
class HasG (P : Program) where
  G : Cx → World → Prop
  mono : ∀ {c c' : Cx} {w w' : World}, c.le c' → Below c.B w w' → G c w → G c' w'

/-- What it means, in the model, that a call leaves Q. -/
def Snd (P : Program) [HasG P] : Pred := fun f args H T Q => ∀ (c : Cx) (w : World) (vs : List Value), HasG.G P c w → Inv c w H → c.T = T → Reps c args vs →
  ((callFunc f vs.toArray).run P w = .ok (.enter f vs.toArray) w ∧ Calls P f vs.toArray w (CallPost c w Q)) ∨
  ∃ v w', (callFunc f vs.toArray).run P w = .ok (.value v) w' ∧ CallPost c w Q (.returned v) w'

theorem Res.of_yld {c : Cx} {w : World} {s s' : S} {K : D → S → Prop} {d : D} {v : Value} {w' : World} (h : Yld c w s'.H s'.T d (.ok v w')) (hk : K d s') (ht : s'.t = s.t) : Res c w s K v w' := by
  obtain ⟨v', c', w'', e, h1, h2, h3, h4, h5⟩ := h
  injection e with e1 e2
  subst e1; subst e2
  exact ⟨d, s', c', hk, ht, h1, h2, h3, h4, h5⟩

theorem Yld.ok {c : Cx} {w : World} {H' : Hp} {T' : Tk} {d : D} {r : Result Value} (h : Yld c w H' T' d r) : ∃ v w', r = .ok v w' := let ⟨v, _, w', e, _⟩ := h; ⟨v, w', e⟩

theorem Res.quiet {c : Cx} {w : World} {s : S} {a : Act} (hs : Sim c s a w) {K : D → S → Prop} {d : D} {v : Value} (hk : K d s) (hr : Rep c d v) : Res c w s K v w :=
  ⟨d, s, c, hk, rfl, hr, hs.inv, Cx.le.refl c, hs.T, Below.refl _ _⟩

end GP
