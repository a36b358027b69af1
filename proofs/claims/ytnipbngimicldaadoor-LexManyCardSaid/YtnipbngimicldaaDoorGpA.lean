import Derived.Deep.Quiet
/- The abstract machine: values D, slim code C, the predicate transformer W. -/
namespace GP
open Go (IntKind BinOp UnOp FuncId TypeId Value Program Code Op Oper Operand TypeDesc TypeInfo Builtin Callee)

inductive D where
  | bool (b : Bool)
  | int (k : IntKind) (n : Int)
  | str (s : List UInt8)
  | nilp
  | ptr (o : Nat) (off : Nat)
  | el (cs : List D)
  | nils
  | sl (t : Option Nat) (xs : List D)
  | ms (ag : Bool) (sz o off len cap : Nat)
  | e0
  | fn (f : FuncId) (first cap : List D)
  | nilf
  | mp (o : Nat)
  | nilm
  | nili
  | ifc (t : TypeId) (d : D)
  | agg (cs : List D)
  | tup (vs : List D)
  | top
  deriving Inhabited

def D.cells : D → List D
  | .agg cs => cs
  | d => [d]

def D.one : D → Bool
  | .agg _ | .tup _ | .top => false
  | _ => true

inductive Ob where
  | row (cs : List D)
  | raw (cs : List D)
  | dead
  | hole
  | map (es : List (D × D))
  | iter (m : Option Nat) (todo : List D)
  deriving Inhabited

/-- What nobody can read. -/
def Ob.blank : Ob → Bool
  | .raw _ | .dead | .hole => true
  | _ => false

/-- The cells that lie in an object's block. -/
def Ob.cells? : Ob → Option (List D)
  | .row cs | .raw cs => some cs
  | _ => none

abbrev Hp := List Ob
abbrev Tk := List (Option (Nat × Nat))
abbrev Post := D → Hp → Tk → Prop
abbrev Pred := FuncId → List D → Hp → Tk → Post → Prop

inductive Rd where
  | t (i : Nat)
  | k (d : D)
  deriving Inhabited

/-- The kinds of the cells of a flat aggregate. -/
inductive Ck where
  | int | str | bool
  deriving DecidableEq, Inhabited

/-- The kinds of types whose values are held against one another one cell at a time. -/
inductive Tq where
  | bool | ptr | slc | ifc | mp | fn
  deriving DecidableEq, Inhabited

inductive O where
  | mv (x : Rd)
  | mvs (x : Rd)
  | pick (c a b : Rd)
  | alloc (z : List D)
  | allocAt (j : Nat) (z : List D)
  | rawAt (j : Nat) (z : List D)
  | fillAt (j n : Nat) (a v : Rd)
  | box (x : Rd)
  | boxAt (j : Nat) (x : Rd)
  | build (z : List D) (parts : List (Nat × Nat × Rd))
  | bsl (sz : Nat) (xs : List Rd)
  | bslq (sz : Nat) (xs : List Rd)
  | load (ag : Bool) (n : Nat) (a : Rd)
  | store (n : Nat) (a v : Rd)
  | nilc (x : Rd)
  | bin (op : BinOp) (x y : Rd)
  | eqa (ks : List Ck) (neg : Bool) (x y : Rd)
  | eq1 (q : Tq) (neg : Bool) (x y : Rd)
  | un (op : UnOp) (x : Rd)
  | conv (k : IntKind) (x : Rd)
  | s2b (x : Rd)
  | s2bq (x : Rd)
  | b2s (x : Rd)
  | b2m (x : Rd)
  | mkfn (f : FuncId) (first cap : List Rd)
  | sls (sz : Nat) (x : Rd) (lo hi : Option Rd)
  | sls3 (sz : Nat) (x : Rd) (lo hi mx : Option Rd)
  | subs (x : Rd) (lo hi : Option Rd)
  | faddr (off : Nat) (x : Rd)
  | field (ag : Bool) (off n : Nat) (x : Rd)
  | iaddr (sz : Nat) (x i : Rd)
  | iarr (sz len : Nat) (x i : Rd)
  | idxs (x i : Rd)
  | idxa (ag : Bool) (sz len : Nat) (x i : Rd)
  | ext (i : Nat) (x : Rd)
  | call (f : Rd) (args : List Rd)
  | pcall (f : Rd) (args : List Rd)
  | len (x : Rd)
  | lens (x : Rd)
  | app (st : Bool) (sz bytes : Nat) (x y : Rd)
  | appm (ag st : Bool) (sz bytes : Nat) (x y : Rd)
  | bslm (ag : Bool) (sz : Nat) (xs : List Rd)
  | copy (sz : Nat) (x y : Rd)
  | clr (z : List D) (x : Rd)
  | mkm (ag : Bool) (sz bytes : Nat) (z : List D) (n m : Rd)
  | mn (a b : Rd)
  | mx (a b : Rd)
  deriving Inhabited

structure I where
  d : Option Nat
  g : Option (Nat × Bool)
  o : O
  deriving Inhabited

inductive C where
  | skip
  | reg (is : List I)
  | draw (na : Nat) (is : List (I × List I))
  | seq (a b : C)
  | cond (c : Rd) (a b : C)
  | block (id : Nat) (c : C)
  | loop (c : C)
  | exit (id : Nat)
  | ret
  deriving Inhabited

structure S where
  t : Nat → D
  H : Hp
  T : Tk

def upd (t : Nat → D) (i : Nat) (d : D) : Nat → D := fun j => if j = i then d else t j

inductive Ex where
  | normal | exit (id : Nat) | ret

def S.ev (s : S) : Rd → D
  | .t i => s.t i
  | .k d => d

def S.put (s : S) (d : Option Nat) (v : D) : S :=
  match d with
  | some i => ⟨upd s.t i v, s.H, s.T⟩
  | none => s

/-- The cells from an address on. -/
def rdAt (H : Hp) : D → Option (List D)
  | .el cs => some cs
  | .ptr o off => match H[o]? with | some (.row cs) => some (cs.drop off) | _ => none
  | _ => none

def ld (ag : Bool) (n : Nat) : Option (List D) → Option D
  | none => none
  | some cs => if ag then (if n ≤ cs.length then some (.agg (cs.take n)) else none) else cs.head?

def bytesLess : List UInt8 → List UInt8 → Bool := Go.Op.bytesLess

def intOp (op : BinOp) (k : IntKind) (a b : Int) : Option D :=
  match op with
  | .add => some (.int k (k.wrap (a + b)))
  | .sub => some (.int k (k.wrap (a - b)))
  | .mul => some (.int k (k.wrap (a * b)))
  | .quo => if b = 0 then none else some (.int k (k.wrap (a.tdiv b)))
  | .rem => if b = 0 then none else some (.int k (a.tmod b))
  | .eql => some (.bool (a == b))
  | .neq => some (.bool (a != b))
  | .lss => some (.bool (decide (a < b)))
  | .leq => some (.bool (decide (a ≤ b)))
  | .gtr => some (.bool (decide (b < a)))
  | .geq => some (.bool (decide (b ≤ a)))
  | .and => some (.int k (k.wrap (BitVec.ofInt k.bits a &&& BitVec.ofInt k.bits b).toNat))
  | .or => some (.int k (k.wrap (BitVec.ofInt k.bits a ||| BitVec.ofInt k.bits b).toNat))
  | .xor => some (.int k (k.wrap (BitVec.ofInt k.bits a ^^^ BitVec.ofInt k.bits b).toNat))
  | .andNot => some (.int k (k.wrap (BitVec.ofInt k.bits a &&& ~~~ BitVec.ofInt k.bits b).toNat))
  | _ => none

def shOp (op : BinOp) (k : IntKind) (a b : Int) : Option D :=
  if b < 0 then none else
  match op with
  | .shl => some (.int k (k.wrap (a * 2 ^ (min b.toNat k.bits))))
  | .shr => some (.int k (a.fdiv (2 ^ (min b.toNat k.bits))))
  | _ => none

def strOp (op : BinOp) (a b : List UInt8) : Option D :=
  match op with
  | .add => if a.length + b.length < 2 ^ 62 then some (.str (a ++ b)) else none
  | .eql => some (.bool (a == b))
  | .neq => some (.bool (a != b))
  | .lss => some (.bool (bytesLess a b))
  | .leq => some (.bool (bytesLess a b || a == b))
  | .gtr => some (.bool (!(bytesLess a b || a == b)))
  | .geq => some (.bool (!bytesLess a b))
  | _ => none

def isShift : BinOp → Bool
  | .shl | .shr => true
  | _ => false

def bin2 (op : BinOp) (x y : D) : Option D :=
  match x, y with
  | .int k a, .int k' b => if isShift op then shOp op k a b else if k = k' then intOp op k a b else none
  | .str a, .str b => strOp op a b
  | _, _ => none

def eq1D (q : Tq) (x y : D) : Option Bool :=
  match q, x, y with
  | .bool, .bool a, .bool b => some (a == b)
  | .ptr, .nilp, .nilp | .ifc, .nili, .nili | .slc, .nils, .nils | .mp, .nilm, .nilm | .fn, .nilf, .nilf => some true
  | .ptr, .ptr _ _, .nilp | .ptr, .el _, .nilp | .ifc, .ifc _ _, .nili | .mp, .mp _, .nilm | .fn, .fn _ _ _, .nilf | .slc, .sl _ (_ :: _), .nils | .slc, .ms _ _ _ _ _ _, .nils => some false
  | _, _, _ => none

/-- Equality of cells of plain data. -/
def eqCell : D → D → Option Bool
  | .int k a, .int k' b => if k = k' then some (a == b) else none
  | .str a, .str b => some (a == b)
  | .bool a, .bool b => some (a == b)
  | _, _ => none

def eqCells : List D → List D → Option Bool
  | [], [] => some true
  | a :: as, b :: bs => match eqCell a b, eqCells as bs with
    | some p, some q => some (p && q)
    | _, _ => none
  | _, _ => none

def ckD : D → Option Ck
  | .int _ _ => some .int
  | .str _ => some .str
  | .bool _ => some .bool
  | _ => none

def cksD : List D → List Ck → Bool
  | [], [] => true
  | d :: ds, k :: ks => ckD d == some k && cksD ds ks
  | _, _ => false

def eqaD (ks : List Ck) (neg : Bool) : D → D → Option D
  | .agg xs, .agg ys => if cksD xs ks then (eqCells xs ys).map fun b => .bool (b != neg) else none
  | _, _ => none

def un1 (op : UnOp) : D → Option D
  | .bool b => (match op with | .not => some (.bool (!b)) | _ => none)
  | .int k n => (match op with
      | .neg => some (.int k (k.wrap (0 - n)))
      | .xor => intOp .xor k (if k.signed then -1 else k.max) n
      | _ => none)
  | _ => none

def D.okc : D → Bool
  | .tup _ | .top => false
  | _ => true

def fit (sz : Nat) (d : D) : Bool := d.okc && d.cells.length == sz

def fillD (cells : List D) : List (Nat × List D) → Option (List D)
  | [] => some cells
  | (off, v) :: rest => if off + v.length ≤ cells.length then fillD (cells.take off ++ v ++ cells.drop (off + v.length)) rest else none

def buildD (z : List D) (parts : List (Nat × Nat × D)) : Option D :=
  if parts.all (fun p => fit p.2.1 p.2.2) then (fillD z (parts.map fun p => (p.1, p.2.2.cells))).map .agg else none

def optN (s : S) (dflt : Nat) : Option Rd → Option Int
  | none => some dflt
  | some r => match s.ev r with | .int _ n => some n | _ => none

def subList {α : Type} (l : List α) (lo hi : Nat) : List α := (l.take hi).drop lo

def slc (sz : Nat) (lo hi : Option Int) : D → Option D
  | .nils => match lo, hi with
    | some l, some h => if l = 0 ∧ h = 0 then some .nils else none
    | _, _ => none
  | .sl t xs => match lo, hi with
    | some l, some h => if 0 ≤ l ∧ l ≤ h ∧ h ≤ xs.length ∧ xs.all (fun d => d.cells.length == sz) = true then some (.sl (if l = 0 ∧ h = xs.length then t else none) (subList xs l.toNat h.toNat)) else none
    | _, _ => none
  | .e0 => match lo, hi with
    | some l, some h => if l = 0 ∧ h = 0 then some .e0 else none
    | _, _ => none
  | .ms ag z o off n cap => match lo, hi with
    | some l, some h => if 0 ≤ l ∧ l ≤ h ∧ h ≤ n ∧ l < cap ∧ z = sz then some (.ms ag z o (off + l.toNat * sz) (h - l).toNat (cap - l.toNat)) else
        if 0 ≤ l ∧ l ≤ h ∧ h ≤ n ∧ h = l then some (.sl none []) else none
    | _, _ => none
  | _ => none

/-- A slice with three bounds. -/
def slc3 (sz : Nat) (lo hi mx : Option Int) : D → Option D
  | .nils => match lo, hi, mx with
    | some l, some h, some m => if l = 0 ∧ h = 0 ∧ m = 0 then some .nils else none
    | _, _, _ => none
  | .e0 => match lo, hi, mx with
    | some l, some h, some m => if l = 0 ∧ h = 0 ∧ m = 0 then some .e0 else none
    | _, _, _ => none
  | .sl _ xs => match lo, hi, mx with
    | some l, some h, some m => if 0 ≤ l ∧ l = h ∧ h = m ∧ m ≤ xs.length then some .e0 else none
    | _, _, _ => none
  | .ms ag z o off n cap => match lo, hi, mx with
    | some l, some h, some m => if 0 ≤ l ∧ l = h ∧ h = m ∧ m ≤ n then some .e0 else
        if 0 ≤ l ∧ l ≤ h ∧ h ≤ m ∧ m ≤ n ∧ l < m ∧ z = sz then some (.ms ag z o (off + l.toNat * sz) (h - l).toNat (m - l).toNat) else none
    | _, _, _ => none
  | _ => none

def sub (lo hi : Option Int) : D → Option D
  | .str s => match lo, hi with
    | some l, some h => if 0 ≤ l ∧ l ≤ h ∧ h ≤ s.length then some (.str (subList s l.toNat h.toNat)) else none
    | _, _ => none
  | _ => none

def strLen : D → Option Nat
  | .str s => some s.length
  | _ => none

def lenD : D → Option Nat
  | .nils | .e0 => some 0
  | .sl _ xs => some xs.length
  | .ms _ _ _ _ n _ => some n
  | _ => none

def fa (off : Nat) : D → Option D
  | .el cs => some (.el (cs.drop off))
  | .ptr o f => some (.ptr o (f + off))
  | _ => none

def iaE (sz : Nat) : Option D → Option D
  | some d => if d.cells.length = sz then some (.el d.cells) else none
  | none => none

def ia (sz : Nat) (x i : D) : Option D :=
  match x, i with
  | .sl _ xs, .int _ n => if 0 ≤ n then iaE sz xs[n.toNat]? else none
  | .ms _ z o off len _, .int _ n => if 0 ≤ n ∧ n < len ∧ z = sz then some (.ptr o (off + n.toNat * sz)) else none
  | _, _ => none

/-- An element's address in an array behind an address. -/
def iarrD (sz len : Nat) (x i : D) : Option D :=
  match i with
  | .int _ n => if 0 ≤ n ∧ n < len then fa (n.toNat * sz) x else none
  | _ => none

def partD (ag : Bool) (off n : Nat) (cs : List D) : Option D :=
  if ag then (if off + n ≤ cs.length then some (.agg (subList cs off (off + n))) else none) else cs[off]?

def fld (ag : Bool) (off n : Nat) : D → Option D
  | .agg cs => partD ag off n cs
  | _ => none

def ixs (x i : D) : Option D :=
  match x, i with
  | .str s, .int _ n => if 0 ≤ n then (s[n.toNat]?).map fun b => .int .u8 b.toNat else none
  | _, _ => none

def ixa (ag : Bool) (sz len : Nat) (x i : D) : Option D :=
  match x, i with
  | .agg cs, .int _ n => if 0 ≤ n ∧ n < len then partD ag (n.toNat * sz) sz cs else none
  | _, _ => none

def extD (i : Nat) : D → Option D
  | .tup vs => vs[i]?
  | _ => none

def mn2 (x y : D) : Option D := match x, y with | .int k a, .int _ b => some (.int k (if b < a then b else a)) | _, _ => none
def mx2 (x y : D) : Option D := match x, y with | .int k a, .int _ b => some (.int k (if b > a then b else a)) | _, _ => none

def byteD (l : List UInt8) : List D := l.map fun b => .int .u8 b.toNat
def unbyte : D → UInt8
  | .int _ n => UInt8.ofNat n.toNat
  | _ => 0
def isByte : D → Bool
  | .int .u8 n => decide (0 ≤ n ∧ n < 256)
  | _ => false

/-- What an append takes from its second operand (st: a string). -/
def appSrc (st : Bool) : D → Option (List D)
  | .nils | .e0 => if st then none else some []
  | .sl _ xs => if st then none else some xs
  | .str s => if st then some (byteD s) else none
  | _ => none

def nilcD : D → Option D
  | .ptr o f => some (.ptr o f)
  | .el cs => some (.el cs)
  | .fn f a b => some (.fn f a b)
  | _ => none

/-- Cells, cut into elements. -/
def chunk (ag : Bool) (sz : Nat) : Nat → List D → List D
  | 0, _ => []
  | n + 1, cs => (if ag then .agg (cs.take sz) else cs.headD .top) :: chunk ag sz n (cs.drop sz)

/-- The elements of a slice, mutable ones too. -/
def appSrcM (H : Hp) (st : Bool) (sz : Nat) : D → Option (List D)
  | .ms ag z o off n _ => match H[o]? with
    | some (.row cs) => if st = false ∧ z = sz ∧ off + n * sz ≤ cs.length ∧ (ag = true ∨ sz = 1) then some (chunk ag sz n (cs.drop off)) else none
    | _ => none
  | d => appSrc st d

def flatD (xs : List D) : List D := (xs.map D.cells).flatten

def b2sD : D → Option D
  | .nils | .e0 => some (.str [])
  | .sl _ xs => if xs.all isByte then some (.str (xs.map unbyte)) else none
  | _ => none

/-- The string of bytes, in a mutable row too. -/
def b2mD (H : Hp) : D → Option D
  | .ms ag z o off n _ => match H[o]? with
    | some (.row cs) => if z = 1 ∧ off + n ≤ cs.length ∧ (chunk ag z n (cs.drop off)).all isByte = true ∧ n < 2 ^ 62 then some (.str ((chunk ag z n (cs.drop off)).map unbyte)) else none
    | _ => none
  | d => b2sD d

/-- H is in H', but for what is dead. -/
def Hle (H H' : Hp) : Prop := ∀ (o : Nat) (x : Ob), H[o]? = some x → x.blank = false → H'[o]? = some x

def Pure (X : Pred) (H : Hp) (f : FuncId) (args : List D) (r : D) : Prop := ∀ H' T' (Q : Post), Hle H H' → Q r H' T' → X f args H' T' Q

def K1 (K : D → S → Prop) (s : S) : Option D → Prop
  | some d => K d s
  | none => False

mutual
def D.erase : D → D
  | .sl _ xs => .sl none (D.eraseL xs)
  | .e0 => .sl none []
  | .el cs => .el (D.eraseL cs)
  | .agg cs => .agg (D.eraseL cs)
  | .tup cs => .tup (D.eraseL cs)
  | .fn f a b => .fn f (D.eraseL a) (D.eraseL b)
  | .ifc t d => .ifc t d.erase
  | d => d
def D.eraseL : List D → List D
  | [] => []
  | d :: ds => d.erase :: D.eraseL ds
end

def appK (sz bytes : Nat) (K : D → S → Prop) (s : S) (x : D) (ys : Option (List D)) : Prop :=
  match ys with
  | none => False
  | some ys =>
    ys.all (fit sz) = true ∧
    match x with
    | .nils => if ys = [] then K .nils s else
        (ys.length * bytes ≤ 2 ^ 47 ∧ ys.length < 2 ^ 62 ∧ K (.sl (some s.T.length) ys) ⟨s.t, s.H, s.T ++ [some (ys.length, sz)]⟩)
    | .e0 => if ys = [] then K .e0 s else
        (ys.length * bytes ≤ 2 ^ 47 ∧ ys.length < 2 ^ 62 ∧ K (.sl (some s.T.length) ys) ⟨s.t, s.H, s.T ++ [some (ys.length, sz)]⟩)
    | .sl (some t) xs =>
        s.T[t]? = some (some (xs.length, sz)) ∧ (xs.length + ys.length) * bytes ≤ 2 ^ 47 ∧ xs.length + ys.length < 2 ^ 62 ∧ xs.all (fit sz) = true ∧
        K (.sl (some t) (xs ++ ys)) ⟨s.t, s.H, s.T.set t (some (xs.length + ys.length, sz))⟩
    | _ => False

/-- An append that makes a mutable row, or goes on in one. -/
def appmK (ag : Bool) (sz bytes : Nat) (K : D → S → Prop) (s : S) (x : D) (ys : Option (List D)) : Prop :=
  match ys with
  | none => False
  | some ys =>
    ys.all (fit sz) = true ∧
    match x with
    | .nils | .e0 => if ys = [] then K x s else
        (ys.length * bytes ≤ 2 ^ 47 ∧ ys.length < 2 ^ 62 ∧ K (.ms ag sz s.H.length 0 ys.length ys.length) ⟨s.t, s.H ++ [.row (flatD ys)], s.T⟩)
    | .ms g z o off n cap => match s.H[o]? with
      | some (.row cs) => z = sz ∧ if n + ys.length ≤ cap then (off + cap * sz ≤ cs.length ∧ K (.ms g z o off (n + ys.length) cap) ⟨s.t, s.H.set o (.row (cs.take (off + n * sz) ++ flatD ys ++ cs.drop (off + (n + ys.length) * sz))), s.T⟩)
          else (off = 0 ∧ cs.length = n * sz ∧ (n + ys.length) * bytes ≤ 2 ^ 47 ∧ n + ys.length < 2 ^ 62 ∧ K (.ms g z s.H.length 0 (n + ys.length) (n + ys.length)) ⟨s.t, s.H.set o .dead ++ [.row (cs ++ flatD ys)], s.T⟩)
      | _ => False
    | _ => False

def copyK (sz : Nat) (K : D → S → Prop) (s : S) (x : D) (ys : Option (List D)) : Prop :=
  match ys with
  | none => False
  | some ys =>
    ys.all (fit sz) = true ∧
    match x with
    | .nils | .e0 => K (.int .i64 0) s
    | .sl _ [] => K (.int .i64 0) s
    | .ms _ z o off n _ => match s.H[o]? with
      | some (.row cs) => z = sz ∧ off + n * sz ≤ cs.length ∧ K (.int .i64 (min ys.length n : Nat)) ⟨s.t, s.H.set o (.row (cs.take off ++ flatD (ys.take (min ys.length n)) ++ cs.drop (off + min ys.length n * sz))), s.T⟩
      | _ => False
    | _ => False

def clrK (z : List D) (K : D → S → Prop) (s : S) : D → Prop
  | .nils | .e0 => K (.tup []) s
  | .sl _ [] => K (.tup []) s
  | .ms _ sz o off n _ => match s.H[o]? with
    | some (.row cs) => sz = z.length ∧ off + n * sz ≤ cs.length ∧ K (.tup []) ⟨s.t, s.H.set o (.row (cs.take off ++ (List.replicate n z).flatten ++ cs.drop (off + n * sz))), s.T⟩
    | _ => False
  | _ => False

def mkmK (ag : Bool) (sz bytes : Nat) (z : List D) (K : D → S → Prop) (s : S) (n m : D) : Prop :=
  match n, m with
  | .int _ a, .int _ b => 0 ≤ a ∧ a ≤ b ∧ b * bytes ≤ 2 ^ 47 ∧ b < 2 ^ 62 ∧ z.length = sz ∧ K (.ms ag sz s.H.length 0 a.toNat b.toNat) ⟨s.t, s.H ++ [.row (List.replicate b.toNat z).flatten], s.T⟩
  | _, _ => False

def s2bK (K : D → S → Prop) (s : S) : D → Prop
  | .str l => K (.sl (some s.T.length) (byteD l)) ⟨s.t, s.H, s.T ++ [some (l.length, 1)]⟩
  | _ => False

def callK (X : Pred) (args : List D) (K : D → S → Prop) (s : S) : D → Prop
  | .fn f first cap => X f (first ++ args ++ cap) s.H s.T (fun r H T => K r ⟨s.t, H, T⟩)
  | _ => False

def pcallK (X : Pred) (args : List D) (K : D → S → Prop) (s : S) : D → Prop
  | .fn f first cap => ∃ r, Pure X s.H f (first ++ args ++ cap) r ∧ K r s
  | _ => False

def storeK (n : Nat) (K : D → S → Prop) (s : S) (a v : D) : Prop :=
  match a with
  | .ptr o off => match s.H[o]? with
    | some (.row cs) => v.okc = true ∧ v.cells.length = n ∧ off + n ≤ cs.length ∧ K .top ⟨s.t, s.H.set o (.row (cs.take off ++ v.cells ++ cs.drop (off + n))), s.T⟩
    | _ => False
  | _ => False

/-- A slice made in a drawn region. -/
def slq : List D → D
  | [] => .e0
  | x :: xs => .sl none (x :: xs)
/-- The value of a quiet operation (one that reads, and changes nothing). -/
def qv (s : S) : O → Option D
  | .mv x => some (s.ev x)
  | .mvs x => (match s.ev x with | .str l => some (.str l) | _ => none)
  | .pick c a b => (match s.ev c with | .bool t => some (if t then s.ev a else s.ev b) | _ => none)
  | .build z parts => buildD z (parts.map fun p => (p.1, p.2.1, s.ev p.2.2))
  | .bslq sz xs => if (xs.map s.ev).all (fit sz) then some (slq (xs.map s.ev)) else none
  | .load ag n a => ld ag n (rdAt s.H (s.ev a))
  | .nilc x => nilcD (s.ev x)
  | .bin op x y => bin2 op (s.ev x) (s.ev y)
  | .eqa ks neg x y => eqaD ks neg (s.ev x) (s.ev y)
  | .eq1 q neg x y => (eq1D q (s.ev x) (s.ev y)).map fun b => .bool (b != neg)
  | .un op x => un1 op (s.ev x)
  | .conv k x => (match s.ev x with | .int _ n => some (.int k (k.wrap n)) | _ => none)
  | .s2bq x => (match s.ev x with | .str l => some (.sl none (byteD l)) | _ => none)
  | .b2s x => b2sD (s.ev x)
  | .mkfn f first cap => some (.fn f (first.map s.ev) (cap.map s.ev))
  | .sls sz x lo hi => (match lenD (s.ev x) with | some n => slc sz (optN s 0 lo) (optN s n hi) (s.ev x) | none => none)
  | .sls3 sz x lo hi mx => (match lenD (s.ev x) with | some n => slc3 sz (optN s 0 lo) (optN s n hi) (optN s n mx) (s.ev x) | none => none)
  | .subs x lo hi => (match strLen (s.ev x) with | some n => sub (optN s 0 lo) (optN s n hi) (s.ev x) | none => none)
  | .faddr off x => fa off (s.ev x)
  | .field ag off n x => fld ag off n (s.ev x)
  | .iaddr sz x i => ia sz (s.ev x) (s.ev i)
  | .iarr sz len x i => iarrD sz len (s.ev x) (s.ev i)
  | .idxs x i => ixs (s.ev x) (s.ev i)
  | .idxa ag sz len x i => ixa ag sz len (s.ev x) (s.ev i)
  | .ext i x => extD i (s.ev x)
  | .len x => (lenD (s.ev x)).map fun n => .int .i64 n
  | .lens x => (strLen (s.ev x)).map fun n => .int .i64 n
  | .mn a b => mn2 (s.ev a) (s.ev b)
  | .mx a b => mx2 (s.ev a) (s.ev b)
  | _ => none

def atK (K : D → S → Prop) (s : S) (i : Nat) (z : List D) : Option Ob → Prop
  | some .hole => K (.ptr i 0) ⟨s.t, s.H.set i (.row z), s.T⟩
  | _ => False

def rawK (K : D → S → Prop) (s : S) (i : Nat) (z : List D) : Option Ob → Prop
  | some .hole => K (.ptr i 0) ⟨s.t, s.H.set i (.raw z), s.T⟩
  | _ => False

def fillK (K : D → S → Prop) (s : S) (i n : Nat) (a v : D) : Option Ob → Prop
  | some (.raw z) => a = .ptr i 0 ∧ z.length = n ∧ v.okc = true ∧ v.cells.length = n ∧ K .top ⟨s.t, s.H.set i (.row v.cells), s.T⟩
  | _ => False

def WO (X : Pred) (o : O) (s : S) (K : D → S → Prop) : Prop :=
  match o with
  | .alloc z => K (.ptr s.H.length 0) ⟨s.t, s.H ++ [.row z], s.T⟩
  | .allocAt j z => atK K s (s.H.length - j) z s.H[s.H.length - j]?
  | .rawAt j z => j ≤ s.H.length ∧ rawK K s (s.H.length - j) z s.H[s.H.length - j]?
  | .fillAt j n a v => j ≤ s.H.length ∧ fillK K s (s.H.length - j) n (s.ev a) (s.ev v) s.H[s.H.length - j]?
  | .box x => (s.ev x).okc = true ∧ K (.ptr s.H.length 0) ⟨s.t, s.H ++ [.row (s.ev x).cells], s.T⟩
  | .boxAt j x => (s.ev x).okc = true ∧ atK K s (s.H.length - j) (s.ev x).cells s.H[s.H.length - j]?
  | .bsl sz xs => (xs.map s.ev).all (fit sz) = true ∧ K (.sl (some s.T.length) (xs.map s.ev)) ⟨s.t, s.H, s.T ++ [some (xs.length, sz)]⟩
  | .store n a v => storeK n K s (s.ev a) (s.ev v)
  | .s2b x => s2bK K s (s.ev x)
  | .b2m x => K1 K s (b2mD s.H (s.ev x))
  | .call f args => callK X (args.map s.ev) K s (s.ev f)
  | .pcall f args => pcallK X (args.map s.ev) K s (s.ev f)
  | .app st sz bytes x y => appK sz bytes K s (s.ev x) (appSrc st (s.ev y))
  | .appm ag st sz bytes x y => appmK ag sz bytes K s (s.ev x) (appSrcM s.H st sz (s.ev y))
  | .bslm ag sz xs => (xs.map s.ev).all (fit sz) = true ∧ K (.ms ag sz s.H.length 0 xs.length xs.length) ⟨s.t, s.H ++ [.row (flatD (xs.map s.ev))], s.T⟩
  | .copy sz x y => copyK sz K s (s.ev x) (appSrcM s.H false sz (s.ev y))
  | .clr z x => clrK z K s (s.ev x)
  | .mkm ag sz bytes z n m => mkmK ag sz bytes z K s (s.ev n) (s.ev m)
  | o => K1 K s (qv s o)

def gd (s : S) : Option (Nat × Bool) → Option Bool
  | none => some true
  | some (g, w) => match s.t g with | .bool b => some (b == w) | .tup [] => some false | _ => none

def WIk (X : Pred) (d : Option Nat) (o : O) (s : S) (K : S → Prop) : Option Bool → Prop
  | some true => WO X o s (fun v s' => K (s'.put d v))
  | some false => K (s.put d (.tup []))
  | none => False

/-- One instruction. -/
def WI (X : Pred) (i : I) (s : S) (K : S → Prop) : Prop := WIk X i.d i.o s K (gd s i.g)

def Wr (X : Pred) : List I → (S → Prop) → S → Prop
  | [], Q, s => Q s
  | i :: is, Q, s => WI X i s (Wr X is Q)

/-- A quiet instruction that came ahead still yields what it yielded. -/
def still (X : Pred) (i : I) (s : S) : Prop :=
  match gd s i.g, i.d with
  | some true, some d => WO X i.o s (fun v _ => v = s.t d)
  | _, _ => True

def stillAll (X : Pred) : List I → S → Prop
  | [], _ => True
  | i :: is, s => still X i s ∧ stillAll X is s

def Wd (X : Pred) : List (I × List I) → (S → Prop) → S → Prop
  | [], Q, s => Q s
  | (i, re) :: is, Q, s => WI X i s (fun s' => stillAll X re s' ∧ Wd X is Q s')

def seqK (f : S → Prop) (Q : Ex → S → Prop) : Ex → S → Prop
  | .normal, s => f s
  | .exit id, s => Q (.exit id) s
  | .ret, s => Q .ret s
def blkK (id : Nat) (Q : Ex → S → Prop) : Ex → S → Prop
  | .normal, s => Q .normal s
  | .exit j, s => if j = id then Q .normal s else Q (.exit j) s
  | .ret, s => Q .ret s

def W (X : Pred) : C → (Ex → S → Prop) → S → Prop
  | .skip, Q, s => Q .normal s
  | .reg is, Q, s => Wr X is (Q .normal) s
  | .draw na is, Q, s => Wd X is (Q .normal) ⟨s.t, s.H ++ List.replicate na .hole, s.T⟩
  | .seq a b, Q, s => W X a (seqK (W X b Q) Q) s
  | .cond c a b, Q, s => (match s.ev c with | .bool t => if t then W X a Q s else W X b Q s | _ => False)
  | .block id c, Q, s => W X c (blkK id Q) s
  | .loop c, Q, s => ∃ (Iv : S → Prop) (μ : S → Nat), Iv s ∧ ∀ s, Iv s → W X c (seqK (fun s' => Iv s' ∧ μ s' < μ s) Q) s
  | .exit id, Q, s => Q (.exit id) s
  | .ret, Q, s => Q .ret s

end GP
