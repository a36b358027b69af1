import Derived.Below
import Derived.ChangeKeysEq
import Derived.Deep.Quiet
import Derived.Laws.Append
import Derived.Laws.BytesString
import Derived.Laws.StructEq
set_option linter.unusedSimpArgs false
set_option linter.unnecessarySimpa false
set_option linter.unusedSectionVars false
namespace GP
open Go (IntKind BinOp UnOp FuncId TypeId Value Program Code Op Oper Operand TypeDesc TypeInfo Builtin Callee)
inductive D where
  | bool (b : Bool)
  | int (k : IntKind) (n : Int)
  | str (s : List UInt8)
  | nilp
  | ptr (o : Nat) (off : Nat)
  | el (cs : List D)
  | nils
  | sl (t : Option Nat) (xs : List D)
  | ms (ag : Bool) (sz o off len cap : Nat)
  | e0
  | fn (f : FuncId) (first cap : List D)
  | nilf
  | mp (o : Nat)
  | nilm
  | nili
  | ifc (t : TypeId) (d : D)
  | agg (cs : List D)
  | tup (vs : List D)
  | top
  deriving Inhabited
def D.cells : D → List D
  | .agg cs => cs
  | d => [d]
def D.one : D → Bool
  | .agg _ | .tup _ | .top => false
  | _ => true
inductive Ob where
  | row (cs : List D)
  | raw (cs : List D)
  | dead
  | hole
  | map (es : List (D × D × Nat)) (clk : Nat)
  | iter (m : Option Nat) (since : Nat) (seen : List Nat) (last : Nat)
  deriving Inhabited
def Ob.blank : Ob → Bool
  | .raw _ | .dead | .hole => true
  | _ => false
def Ob.cells? : Ob → Option (List D)
  | .row cs | .raw cs => some cs
  | _ => none
abbrev Hp := List Ob
abbrev Tk := List (Option (Nat × Nat))
abbrev Post := D → Hp → Tk → Prop
abbrev Pred := FuncId → List D → Hp → Tk → Post → Prop
inductive Rd where
  | t (i : Nat)
  | k (d : D)
  deriving Inhabited
inductive Ck where
  | int | str | bool
  deriving DecidableEq, Inhabited
inductive Tq where
  | bool | ptr | slc | ifc | mp | fn
  deriving DecidableEq, Inhabited
inductive O where
  | mv (x : Rd)
  | mvs (x : Rd)
  | pick (c a b : Rd)
  | alloc (z : List D)
  | allocAt (j : Nat) (z : List D)
  | rawAt (j : Nat) (z : List D)
  | fillAt (j n : Nat) (a v : Rd)
  | box (x : Rd)
  | boxAt (j : Nat) (x : Rd)
  | build (z : List D) (parts : List (Nat × Nat × Rd))
  | bsl (sz : Nat) (xs : List Rd)
  | bslq (sz : Nat) (xs : List Rd)
  | load (ag : Bool) (n : Nat) (a : Rd)
  | store (n : Nat) (a v : Rd)
  | nilc (x : Rd)
  | bin (op : BinOp) (x y : Rd)
  | eqa (ks : List Ck) (neg : Bool) (x y : Rd)
  | eq1 (q : Tq) (neg : Bool) (x y : Rd)
  /-- Is a slice nil? Of an empty one both are thinkable. -/
  | isn (neg : Bool) (x : Rd)
  | un (op : UnOp) (x : Rd)
  | conv (k : IntKind) (x : Rd)
  | s2b (x : Rd)
  | s2bq (x : Rd)
  | b2s (x : Rd)
  | b2m (x : Rd)
  | mkfn (f : FuncId) (first cap : List Rd)
  | sls (sz : Nat) (x : Rd) (lo hi : Option Rd)
  | sls3 (sz : Nat) (x : Rd) (lo hi mx : Option Rd)
  | subs (x : Rd) (lo hi : Option Rd)
  | faddr (off : Nat) (x : Rd)
  | field (ag : Bool) (off n : Nat) (x : Rd)
  | iaddr (sz : Nat) (x i : Rd)
  | iarr (sz len : Nat) (x i : Rd)
  | idxs (x i : Rd)
  | idxa (ag : Bool) (sz len : Nat) (x i : Rd)
  | ext (i : Nat) (x : Rd)
  | call (f : Rd) (args : List Rd)
  | pcall (f : Rd) (args : List Rd)
  | len (x : Rd)
  | capz (x : Rd)
  | lens (x : Rd)
  | app (st : Bool) (sz bytes : Nat) (x y : Rd)
  | appm (ag st : Bool) (sz bytes : Nat) (x y : Rd)
  | bslm (ag : Bool) (sz : Nat) (xs : List Rd)
  | copy (sz : Nat) (x y : Rd)
  | clr (z : List D) (x : Rd)
  | mkm (ag : Bool) (sz bytes : Nat) (z : List D) (n m : Rd)
  | appz (ag : Bool) (sz bytes : Nat) (z : List D) (x y : Rd)
  | mn (a b : Rd)
  | mx (a b : Rd)
  | mkmap
  | mlen (x : Rd)
  | mget (ks : Bool × List Ck) (zv : D) (ok : Bool) (m k : Rd)
  | mput (ks : Bool × List Ck) (m k v : Rd)
  | ment (ks : Bool × List Ck) (zv : D) (m k : Rd)
  | mst (m b v : Rd)
  | rng (x : Rd)
  | nxt (x : Rd)
  | ent (x : Rd)
  deriving Inhabited
structure I where
  d : Option Nat
  g : Option (Nat × Bool)
  o : O
  deriving Inhabited
inductive C where
  | skip
  | reg (is : List I)
  | draw (na : Nat) (is : List (I × List I))
  | seq (a b : C)
  | cond (c : Rd) (a b : C)
  | block (id : Nat) (c : C)
  | loop (c : C)
  | exit (id : Nat)
  | ret
  | stop
  deriving Inhabited
structure S where
  t : Nat → D
  H : Hp
  T : Tk
def upd (t : Nat → D) (i : Nat) (d : D) : Nat → D := fun j => if j = i then d else t j
inductive Ex where
  | normal | exit (id : Nat) | ret
def S.ev (s : S) : Rd → D
  | .t i => s.t i
  | .k d => d
def S.put (s : S) (d : Option Nat) (v : D) : S :=
  match d with
  | some i => ⟨upd s.t i v, s.H, s.T⟩
  | none => s
def rdAt (H : Hp) : D → Option (List D)
  | .el cs => some cs
  | .ptr o off => match H[o]? with | some (.row cs) => some (cs.drop off) | _ => none
  | _ => none
def ld (ag : Bool) (n : Nat) : Option (List D) → Option D
  | none => none
  | some cs => if ag then (if n ≤ cs.length then some (.agg (cs.take n)) else none) else cs.head?
def bytesLess : List UInt8 → List UInt8 → Bool := Go.Op.bytesLess
def intOp (op : BinOp) (k : IntKind) (a b : Int) : Option D :=
  match op with
  | .add => some (.int k (k.wrap (a + b)))
  | .sub => some (.int k (k.wrap (a - b)))
  | .mul => some (.int k (k.wrap (a * b)))
  | .quo => if b = 0 then none else some (.int k (k.wrap (a.tdiv b)))
  | .rem => if b = 0 then none else some (.int k (a.tmod b))
  | .eql => some (.bool (a == b))
  | .neq => some (.bool (a != b))
  | .lss => some (.bool (decide (a < b)))
  | .leq => some (.bool (decide (a ≤ b)))
  | .gtr => some (.bool (decide (b < a)))
  | .geq => some (.bool (decide (b ≤ a)))
  | .and => some (.int k (k.wrap (BitVec.ofInt k.bits a &&& BitVec.ofInt k.bits b).toNat))
  | .or => some (.int k (k.wrap (BitVec.ofInt k.bits a ||| BitVec.ofInt k.bits b).toNat))
  | .xor => some (.int k (k.wrap (BitVec.ofInt k.bits a ^^^ BitVec.ofInt k.bits b).toNat))
  | .andNot => some (.int k (k.wrap (BitVec.ofInt k.bits a &&& ~~~ BitVec.ofInt k.bits b).toNat))
  | _ => none
def shOp (op : BinOp) (k : IntKind) (a b : Int) : Option D :=
  if b < 0 then none else
  match op with
  | .shl => some (.int k (k.wrap (a * 2 ^ (min b.toNat k.bits))))
  | .shr => some (.int k (a.fdiv (2 ^ (min b.toNat k.bits))))
  | _ => none
def strOp (op : BinOp) (a b : List UInt8) : Option D :=
  match op with
  | .add => if a.length + b.length < 2 ^ 62 then some (.str (a ++ b)) else none
  | .eql => some (.bool (a == b))
  | .neq => some (.bool (a != b))
  | .lss => some (.bool (bytesLess a b))
  | .leq => some (.bool (bytesLess a b || a == b))
  | .gtr => some (.bool (!(bytesLess a b || a == b)))
  | .geq => some (.bool (!bytesLess a b))
  | _ => none
def isShift : BinOp → Bool
  | .shl | .shr => true
  | _ => false
def bin2 (op : BinOp) (x y : D) : Option D :=
  match x, y with
  | .int k a, .int k' b => if isShift op then shOp op k a b else if k = k' then intOp op k a b else none
  | .str a, .str b => strOp op a b
  | _, _ => none
def eq1D (q : Tq) (x y : D) : Option Bool :=
  match q, x, y with
  | .bool, .bool a, .bool b => some (a == b)
  | .ptr, .nilp, .nilp | .ifc, .nili, .nili | .slc, .nils, .nils | .mp, .nilm, .nilm | .fn, .nilf, .nilf => some true
  | .ptr, .ptr _ _, .nilp | .ptr, .el _, .nilp | .ifc, .ifc _ _, .nili | .mp, .mp _, .nilm | .fn, .fn _ _ _, .nilf | .slc, .sl _ (_ :: _), .nils | .slc, .ms _ _ _ _ _ _, .nils => some false
  | _, _, _ => none
def eqCell : D → D → Option Bool
  | .int k a, .int k' b => if k = k' then some (a == b) else none
  | .str a, .str b => some (a == b)
  | .bool a, .bool b => some (a == b)
  | _, _ => none
def eqCells : List D → List D → Option Bool
  | [], [] => some true
  | a :: aS, b :: bs => match eqCell a b, eqCells aS bs with
    | some p, some q => some (p && q)
    | _, _ => none
  | _, _ => none
def ckD : D → Option Ck
  | .int _ _ => some .int
  | .str _ => some .str
  | .bool _ => some .bool
  | _ => none
def cksD : List D → List Ck → Bool
  | [], [] => true
  | d :: ds, k :: ks => ckD d == some k && cksD ds ks
  | _, _ => false
def eqaD (ks : List Ck) (neg : Bool) : D → D → Option D
  | .agg xs, .agg ys => if cksD xs ks then (eqCells xs ys).map fun b => .bool (b != neg) else none
  | _, _ => none
def un1 (op : UnOp) : D → Option D
  | .bool b => (match op with | .not => some (.bool (!b)) | _ => none)
  | .int k n => (match op with
      | .neg => some (.int k (k.wrap (0 - n)))
      | .xor => intOp .xor k (if k.signed then -1 else k.max) n
      | _ => none)
  | _ => none
def D.okc : D → Bool
  | .tup _ | .top => false
  | _ => true
def fit (sz : Nat) (d : D) : Bool := d.okc && d.cells.length == sz
def fillD (cells : List D) : List (Nat × List D) → Option (List D)
  | [] => some cells
  | (off, v) :: rest => if off + v.length ≤ cells.length then fillD (cells.take off ++ v ++ cells.drop (off + v.length)) rest else none
def buildD (z : List D) (parts : List (Nat × Nat × D)) : Option D :=
  if parts.all (fun p => fit p.2.1 p.2.2) then (fillD z (parts.map fun p => (p.1, p.2.2.cells))).map .agg else none
def optN (s : S) (dflt : Nat) : Option Rd → Option Int
  | none => some dflt
  | some r => match s.ev r with | .int _ n => some n | _ => none
def subList {α : Type} (l : List α) (lo hi : Nat) : List α := (l.take hi).drop lo
def slc (sz : Nat) (lo hi : Option Int) : D → Option D
  | .nils => match lo, hi with
    | some l, some h => if l = 0 ∧ h = 0 then some .nils else none
    | _, _ => none
  | .sl t xs => match lo, hi with
    | some l, some h => if 0 ≤ l ∧ l ≤ h ∧ h ≤ xs.length ∧ xs.all (fun d => d.cells.length == sz) = true then some (.sl (if l = 0 ∧ h = xs.length then t else none) (subList xs l.toNat h.toNat)) else none
    | _, _ => none
  | .e0 => match lo, hi with
    | some l, some h => if l = 0 ∧ h = 0 then some .e0 else none
    | _, _ => none
  | .ms ag z o off n cap => match lo, hi with
    | some l, some h => if 0 ≤ l ∧ l ≤ h ∧ h ≤ n ∧ l < cap ∧ z = sz then some (.ms ag z o (off + l.toNat * sz) (h - l).toNat (cap - l.toNat)) else
        if 0 ≤ l ∧ l ≤ h ∧ h ≤ n ∧ h = l then some (.sl none []) else
        if 0 ≤ l ∧ l ≤ h ∧ h ≤ cap ∧ l < cap ∧ z = sz then some (.ms ag z o (off + l.toNat * sz) (h - l).toNat (cap - l.toNat)) else none
    | _, _ => none
  | _ => none
def slc3 (sz : Nat) (lo hi mx : Option Int) : D → Option D
  | .nils => match lo, hi, mx with
    | some l, some h, some m => if l = 0 ∧ h = 0 ∧ m = 0 then some .nils else none
    | _, _, _ => none
  | .e0 => match lo, hi, mx with
    | some l, some h, some m => if l = 0 ∧ h = 0 ∧ m = 0 then some .e0 else none
    | _, _, _ => none
  | .sl _ xs => match lo, hi, mx with
    | some l, some h, some m => if 0 ≤ l ∧ l = h ∧ h = m ∧ m ≤ xs.length then some .e0 else none
    | _, _, _ => none
  | .ms ag z o off n cap => match lo, hi, mx with
    | some l, some h, some m => if 0 ≤ l ∧ l = h ∧ h = m ∧ m ≤ n then some .e0 else
        if 0 ≤ l ∧ l ≤ h ∧ h ≤ m ∧ m ≤ n ∧ l < m ∧ z = sz then some (.ms ag z o (off + l.toNat * sz) (h - l).toNat (m - l).toNat) else none
    | _, _, _ => none
  | _ => none
def sub (lo hi : Option Int) : D → Option D
  | .str s => match lo, hi with
    | some l, some h => if 0 ≤ l ∧ l ≤ h ∧ h ≤ s.length then some (.str (subList s l.toNat h.toNat)) else none
    | _, _ => none
  | _ => none
def strLen : D → Option Nat
  | .str s => some s.length
  | _ => none
def lenD : D → Option Nat
  | .nils | .e0 => some 0
  | .sl _ xs => some xs.length
  | .ms _ _ _ _ n _ => some n
  | _ => none
def capD : D → Option Nat
  | .nils | .e0 => some 0
  | .ms _ _ _ _ _ cap => some cap
  | _ => none
def fa (off : Nat) : D → Option D
  | .el cs => some (.el (cs.drop off))
  | .ptr o f => some (.ptr o (f + off))
  | _ => none
def iaE (sz : Nat) : Option D → Option D
  | some d => if d.cells.length = sz then some (.el d.cells) else none
  | none => none
def ia (sz : Nat) (x i : D) : Option D :=
  match x, i with
  | .sl _ xs, .int _ n => if 0 ≤ n then iaE sz xs[n.toNat]? else none
  | .ms _ z o off len _, .int _ n => if 0 ≤ n ∧ n < len ∧ z = sz then some (.ptr o (off + n.toNat * sz)) else none
  | _, _ => none
def iarrD (sz len : Nat) (x i : D) : Option D :=
  match i with
  | .int _ n => if 0 ≤ n ∧ n < len then fa (n.toNat * sz) x else none
  | _ => none
def partD (ag : Bool) (off n : Nat) (cs : List D) : Option D :=
  if ag then (if off + n ≤ cs.length then some (.agg (subList cs off (off + n))) else none) else cs[off]?
def fld (ag : Bool) (off n : Nat) : D → Option D
  | .agg cs => partD ag off n cs
  | _ => none
def ixs (x i : D) : Option D :=
  match x, i with
  | .str s, .int _ n => if 0 ≤ n then (s[n.toNat]?).map fun b => .int .u8 b.toNat else none
  | _, _ => none
def ixa (ag : Bool) (sz len : Nat) (x i : D) : Option D :=
  match x, i with
  | .agg cs, .int _ n => if 0 ≤ n ∧ n < len then partD ag (n.toNat * sz) sz cs else none
  | _, _ => none
def extD (i : Nat) : D → Option D
  | .tup vs => vs[i]?
  | _ => none
def mn2 (x y : D) : Option D := match x, y with | .int k a, .int _ b => some (.int k (if b < a then b else a)) | _, _ => none
def mx2 (x y : D) : Option D := match x, y with | .int k a, .int _ b => some (.int k (if b > a then b else a)) | _, _ => none
def byteD (l : List UInt8) : List D := l.map fun b => .int .u8 b.toNat
def unbyte : D → UInt8
  | .int _ n => UInt8.ofNat n.toNat
  | _ => 0
def isByte : D → Bool
  | .int .u8 n => decide (0 ≤ n ∧ n < 256)
  | _ => false
def appSrc (st : Bool) : D → Option (List D)
  | .nils | .e0 => if st then none else some []
  | .sl _ xs => if st then none else some xs
  | .str s => if st then some (byteD s) else none
  | _ => none
def nilcD : D → Option D
  | .ptr o f => some (.ptr o f)
  | .el cs => some (.el cs)
  | .fn f a b => some (.fn f a b)
  | _ => none
def chunk (ag : Bool) (sz : Nat) : Nat → List D → List D
  | 0, _ => []
  | n + 1, cs => (if ag then .agg (cs.take sz) else cs.headD .top) :: chunk ag sz n (cs.drop sz)
def appSrcM (H : Hp) (st : Bool) (sz : Nat) : D → Option (List D)
  | .ms ag z o off n _ => match H[o]? with
    | some (.row cs) => if st = false ∧ z = sz ∧ off + n * sz ≤ cs.length ∧ (ag = true ∨ sz = 1) then some (chunk ag sz n (cs.drop off)) else none
    | _ => none
  | d => appSrc st d
def flatD (xs : List D) : List D := (xs.map D.cells).flatten
def b2sD : D → Option D
  | .nils | .e0 => some (.str [])
  | .sl _ xs => if xs.all isByte then some (.str (xs.map unbyte)) else none
  | _ => none
def b2mD (H : Hp) : D → Option D
  | .ms ag z o off n _ => match H[o]? with
    | some (.row cs) => if z = 1 ∧ off + n ≤ cs.length ∧ (chunk ag z n (cs.drop off)).all isByte = true ∧ n < 2 ^ 62 then some (.str ((chunk ag z n (cs.drop off)).map unbyte)) else none
    | _ => none
  | d => b2sD d
def Hle (H H' : Hp) : Prop := ∀ (o : Nat) (x : Ob), H[o]? = some x → x.blank = false → H'[o]? = some x
def Pure (X : Pred) (H : Hp) (f : FuncId) (args : List D) (r : D) : Prop := ∀ H' T' (Q : Post), Hle H H' → Q r H' T' → X f args H' T' Q
def K1 (K : D → S → Prop) (s : S) : Option D → Prop
  | some d => K d s
  | none => False
mutual
def D.erase : D → D
  | .sl _ xs => .sl none (D.eraseL xs)
  | .e0 => .sl none []
  | .el cs => .el (D.eraseL cs)
  | .agg cs => .agg (D.eraseL cs)
  | .tup cs => .tup (D.eraseL cs)
  | .fn f a b => .fn f (D.eraseL a) (D.eraseL b)
  | .ifc t d => .ifc t d.erase
  | d => d
def D.eraseL : List D → List D
  | [] => []
  | d :: ds => d.erase :: D.eraseL ds
end
def appK (sz bytes : Nat) (K : D → S → Prop) (s : S) (x : D) (ys : Option (List D)) : Prop :=
  match ys with
  | none => False
  | some ys =>
    ys.all (fit sz) = true ∧
    match x with
    | .nils => if ys = [] then K .nils s else
        (ys.length * bytes ≤ 2 ^ 47 ∧ ys.length < 2 ^ 62 ∧ K (.sl (some s.T.length) ys) ⟨s.t, s.H, s.T ++ [some (ys.length, sz)]⟩)
    | .e0 => if ys = [] then K .e0 s else
        (ys.length * bytes ≤ 2 ^ 47 ∧ ys.length < 2 ^ 62 ∧ K (.sl (some s.T.length) ys) ⟨s.t, s.H, s.T ++ [some (ys.length, sz)]⟩)
    | .sl (some t) xs =>
        s.T[t]? = some (some (xs.length, sz)) ∧ (xs.length + ys.length) * bytes ≤ 2 ^ 47 ∧ xs.length + ys.length < 2 ^ 62 ∧ xs.all (fit sz) = true ∧
        K (.sl (some t) (xs ++ ys)) ⟨s.t, s.H, s.T.set t (some (xs.length + ys.length, sz))⟩
    | _ => False
def appmK (ag : Bool) (sz bytes : Nat) (K : D → S → Prop) (s : S) (x : D) (ys : Option (List D)) : Prop :=
  match ys with
  | none => False
  | some ys =>
    ys.all (fit sz) = true ∧
    match x with
    | .nils | .e0 => if ys = [] then K x s else
        (ys.length * bytes ≤ 2 ^ 47 ∧ ys.length < 2 ^ 62 ∧ ∀ c' X, ys.length ≤ c' → X.length = (c' - ys.length) * sz → (∀ d ∈ X, d.one = true) → K (.ms ag sz s.H.length 0 ys.length c') ⟨s.t, s.H ++ [.row (flatD ys ++ X)], s.T⟩)
    | .ms g z o off n cap => match s.H[o]? with
      | some (.row cs) => z = sz ∧ if n + ys.length ≤ cap then (off + cap * sz ≤ cs.length ∧ K (.ms g z o off (n + ys.length) cap) ⟨s.t, s.H.set o (.row (cs.take (off + n * sz) ++ flatD ys ++ cs.drop (off + (n + ys.length) * sz))), s.T⟩)
          else (off = 0 ∧ n * sz ≤ cs.length ∧ (n + ys.length) * bytes ≤ 2 ^ 47 ∧ n + ys.length < 2 ^ 62 ∧ ∀ c' X, n + ys.length ≤ c' → X.length = (c' - (n + ys.length)) * sz → (∀ d ∈ X, d.one = true) → K (.ms g z s.H.length 0 (n + ys.length) c') ⟨s.t, s.H.set o .dead ++ [.row (cs.take (n * sz) ++ flatD ys ++ X)], s.T⟩)
      | _ => False
    | _ => False
def copyK (sz : Nat) (K : D → S → Prop) (s : S) (x : D) (ys : Option (List D)) : Prop :=
  match ys with
  | none => False
  | some ys =>
    ys.all (fit sz) = true ∧
    match x with
    | .nils | .e0 => K (.int .i64 0) s
    | .sl _ [] => K (.int .i64 0) s
    | .ms _ z o off n _ => match s.H[o]? with
      | some (.row cs) => z = sz ∧ off + n * sz ≤ cs.length ∧ K (.int .i64 (min ys.length n : Nat)) ⟨s.t, s.H.set o (.row (cs.take off ++ flatD (ys.take (min ys.length n)) ++ cs.drop (off + min ys.length n * sz))), s.T⟩
      | _ => False
    | _ => False
def clrK (z : List D) (K : D → S → Prop) (s : S) : D → Prop
  | .nils | .e0 => K (.tup []) s
  | .sl _ [] => K (.tup []) s
  | .ms _ sz o off n _ => match s.H[o]? with
    | some (.row cs) => sz = z.length ∧ off + n * sz ≤ cs.length ∧ K (.tup []) ⟨s.t, s.H.set o (.row (cs.take off ++ (List.replicate n z).flatten ++ cs.drop (off + n * sz))), s.T⟩
    | _ => False
  | _ => False
def mkmK (ag : Bool) (sz bytes : Nat) (z : List D) (K : D → S → Prop) (s : S) (n m : D) : Prop :=
  match n, m with
  | .int _ a, .int _ b => 0 ≤ a ∧ a ≤ b ∧ b * bytes ≤ 2 ^ 47 ∧ b < 2 ^ 62 ∧ z.length = sz ∧ K (.ms ag sz s.H.length 0 a.toNat b.toNat) ⟨s.t, s.H ++ [.row (List.replicate b.toNat z).flatten], s.T⟩
  | _, _ => False
def appzK (ag : Bool) (sz bytes : Nat) (z : List D) (K : D → S → Prop) (s : S) (x y : D) : Prop :=
  match y with
  | .int _ n => 0 < n ∧ z.length = sz ∧ match x with
    | .nils | .e0 => n * bytes ≤ 2 ^ 47 ∧ n < 2 ^ 62 ∧ ∀ c', n.toNat ≤ c' → K (.ms ag sz s.H.length 0 n.toNat c') ⟨s.t, s.H ++ [.row (List.replicate c' z).flatten], s.T⟩
    | .ms g z' o off m cap => match s.H[o]? with
      | some (.row cs) => z' = sz ∧ cap < m + n.toNat ∧ off + m * sz ≤ cs.length ∧ (m + n.toNat) * bytes ≤ 2 ^ 47 ∧ m + n.toNat < 2 ^ 62 ∧ ∀ c', m + n.toNat ≤ c' → K (.ms g z' s.H.length 0 (m + n.toNat) c') ⟨s.t, s.H ++ [.row ((cs.drop off).take (m * sz) ++ (List.replicate (c' - m) z).flatten)], s.T⟩
      | _ => False
    | _ => False
  | _ => False
def s2bK (K : D → S → Prop) (s : S) : D → Prop
  | .str l => K (.sl (some s.T.length) (byteD l)) ⟨s.t, s.H, s.T ++ [some (l.length, 1)]⟩
  | _ => False
def callK (X : Pred) (args : List D) (K : D → S → Prop) (s : S) : D → Prop
  | .fn f first cap => X f (first ++ args ++ cap) s.H s.T (fun r H T => K r ⟨s.t, H, T⟩)
  | _ => False
def pcallK (X : Pred) (args : List D) (K : D → S → Prop) (s : S) : D → Prop
  | .fn f first cap => ∃ r, Pure X s.H f (first ++ args ++ cap) r ∧ K r s
  | _ => False
def storeK (n : Nat) (K : D → S → Prop) (s : S) (a v : D) : Prop :=
  match a with
  | .ptr o off => match s.H[o]? with
    | some (.row cs) => v.okc = true ∧ v.cells.length = n ∧ off + n ≤ cs.length ∧ K .top ⟨s.t, s.H.set o (.row (cs.take off ++ v.cells ++ cs.drop (off + n))), s.T⟩
    | _ => False
  | _ => False
def pu1 : D → Bool
  | .int _ _ | .bool _ => true
  | .str l => decide (l.length < 2 ^ 62)
  | _ => false
def pu : D → Bool
  | .agg cs => cs.all pu1
  | d => pu1 d
def kok (ks : Bool × List Ck) (a : D) : Bool := pu a && match ks.1, a with
  | true, .agg xs => cksD xs ks.2
  | true, _ => false
  | false, d => cksD [d] ks.2
def keq (ks : Bool × List Ck) (a b : D) : Option Bool := match ks.1, a, b with
  | true, .agg xs, .agg ys => if cksD xs ks.2 then eqCells xs ys else none
  | true, _, _ => none
  | false, a, b => if cksD [a] ks.2 then eqCell a b else none
def fnd (ks : Bool × List Ck) (k : D) : List (D × D × Nat) → Nat → Option (Option (Nat × D × Nat))
  | [], _ => some none
  | (k', v, b) :: es, i => match keq ks k k' with
    | some true => some (some (i, v, b))
    | some false => fnd ks k es (i + 1)
    | none => none
def entsD (H : Hp) : D → Option (List (D × D × Nat))
  | .nilm => some []
  | .mp o => (match H[o]? with | some (.map es _) => some es | _ => none)
  | _ => none
def mgetD (H : Hp) (ks : Bool × List Ck) (zv : D) (ok : Bool) (m k : D) : Option D :=
  if kok ks k then (match entsD H m with
    | some es => (match fnd ks k es 0 with
      | some (some (_, v, _)) => some (if ok then .tup [v, .bool true] else v)
      | some none => some (if ok then .tup [zv, .bool false] else zv)
      | none => none)
    | none => none) else none
def entD (H : Hp) : D → Option D
  | .ptr o 0 => (match H[o]? with
    | some (.iter (some m) _ seen last) => (match H[m]?, seen.getLast? with
      | some (.map es clk), some b => if clk = last then (es.find? fun e => e.2.2 == b).map fun e => .tup [e.1, e.2.1] else none
      | _, _ => none)
    | _ => none)
  | _ => none
def slq : List D → D
  | [] => .e0
  | x :: xs => .sl none (x :: xs)
def qv (s : S) : O → Option D
  | .mv x => some (s.ev x)
  | .mvs x => (match s.ev x with | .str l => some (.str l) | _ => none)
  | .pick c a b => (match s.ev c with | .bool t => some (if t then s.ev a else s.ev b) | _ => none)
  | .build z parts => buildD z (parts.map fun p => (p.1, p.2.1, s.ev p.2.2))
  | .bslq sz xs => if (xs.map s.ev).all (fit sz) then some (slq (xs.map s.ev)) else none
  | .load ag n a => ld ag n (rdAt s.H (s.ev a))
  | .nilc x => nilcD (s.ev x)
  | .bin op x y => bin2 op (s.ev x) (s.ev y)
  | .eqa ks neg x y => eqaD ks neg (s.ev x) (s.ev y)
  | .eq1 q neg x y => (eq1D q (s.ev x) (s.ev y)).map fun b => .bool (b != neg)
  | .un op x => un1 op (s.ev x)
  | .conv k x => (match s.ev x with | .int _ n => some (.int k (k.wrap n)) | _ => none)
  | .s2bq x => (match s.ev x with | .str l => some (.sl none (byteD l)) | _ => none)
  | .b2s x => b2sD (s.ev x)
  | .mkfn f first cap => some (.fn f (first.map s.ev) (cap.map s.ev))
  | .sls sz x lo hi => (match lenD (s.ev x) with | some n => slc sz (optN s 0 lo) (optN s n hi) (s.ev x) | none => none)
  | .sls3 sz x lo hi mx => (match lenD (s.ev x) with | some n => slc3 sz (optN s 0 lo) (optN s n hi) (optN s n mx) (s.ev x) | none => none)
  | .subs x lo hi => (match strLen (s.ev x) with | some n => sub (optN s 0 lo) (optN s n hi) (s.ev x) | none => none)
  | .faddr off x => fa off (s.ev x)
  | .field ag off n x => fld ag off n (s.ev x)
  | .iaddr sz x i => ia sz (s.ev x) (s.ev i)
  | .iarr sz len x i => iarrD sz len (s.ev x) (s.ev i)
  | .idxs x i => ixs (s.ev x) (s.ev i)
  | .idxa ag sz len x i => ixa ag sz len (s.ev x) (s.ev i)
  | .ext i x => extD i (s.ev x)
  | .len x => (lenD (s.ev x)).map fun n => .int .i64 n
  | .capz x => (capD (s.ev x)).map fun n => .int .i64 n
  | .lens x => (strLen (s.ev x)).map fun n => .int .i64 n
  | .mn a b => mn2 (s.ev a) (s.ev b)
  | .mx a b => mx2 (s.ev a) (s.ev b)
  | .mlen x => (entsD s.H (s.ev x)).map fun es => .int .i64 (es.length : Int)
  | .ent x => entD s.H (s.ev x)
  | .mget ks zv ok m k => if pu zv then mgetD s.H ks zv ok (s.ev m) (s.ev k) else none
  | _ => none
def mputK (ks : Bool × List Ck) (K : D → S → Prop) (s : S) (m k v : D) : Prop :=
  kok ks k = true ∧ pu v = true ∧ match m with
  | .mp o => (match s.H[o]? with
    | some (.map es clk) => (match fnd ks k es 0 with
      | some (some (i, _, b)) => K .top ⟨s.t, s.H.set o (.map (es.set i (k, v, b)) clk), s.T⟩
      | some none => K .top ⟨s.t, s.H.set o (.map (es ++ [(k, v, clk)]) (clk + 1)), s.T⟩
      | none => False)
    | _ => False)
  | _ => False
def mentK (ks : Bool × List Ck) (zv : D) (K : D → S → Prop) (s : S) (m k : D) : Prop :=
  kok ks k = true ∧ pu zv = true ∧ match m with
  | .mp o => (match s.H[o]? with
    | some (.map es clk) => (match fnd ks k es 0 with
      | some (some (i, v, b)) => K (.tup [v, .int .i64 (b : Int)]) ⟨s.t, s.H.set o (.map (es.set i (k, v, b)) clk), s.T⟩
      | some none => K (.tup [zv, .int .i64 (clk : Int)]) ⟨s.t, s.H.set o (.map (es ++ [(k, zv, clk)]) (clk + 1)), s.T⟩
      | none => False)
    | _ => False)
  | _ => False
def mstK (K : D → S → Prop) (s : S) (m b v : D) : Prop :=
  pu v = true ∧ match m, b with
  | .mp o, .int _ n => (match s.H[o]? with
    | some (.map es clk) => (match es.findIdx? (fun e => (e.2.2 : Int) == n) with
      | some i => (match es[i]? with
        | some e => K .top ⟨s.t, s.H.set o (.map (es.set i (e.1, v, e.2.2)) clk), s.T⟩
        | none => False)
      | none => False)
    | _ => False)
  | _, _ => False
def rngK (K : D → S → Prop) (s : S) : D → Prop
  | .nilm => K (.ptr s.H.length 0) ⟨s.t, s.H ++ [.iter none 0 [] 0], s.T⟩
  | .mp o => (match s.H[o]? with
    | some (.map _ clk) => K (.ptr s.H.length 0) ⟨s.t, s.H ++ [.iter (some o) clk [] clk], s.T⟩
    | _ => False)
  | _ => False
def nxtK (K : D → S → Prop) (s : S) : D → Prop
  | .ptr o 0 => (match s.H[o]? with
    | some (.iter none _ _ _) => K (.tup [.bool false]) s
    | some (.iter (some m) since seen last) => (match s.H[m]? with
      | some (.map es clk) => (∀ e ∈ es, e.2.2 < since) ∧ since ≤ last ∧ ((∀ e ∈ es, e.2.2 ∈ seen) → K (.tup [.bool false]) s) ∧
          (∀ e ∈ es, ¬ e.2.2 ∈ seen → K (.tup [.bool true, e.1, e.2.1]) ⟨s.t, s.H.set o (.iter (some m) since (seen ++ [e.2.2]) clk), s.T⟩)
      | _ => False)
    | _ => False)
  | _ => False
def atK (K : D → S → Prop) (s : S) (i : Nat) (z : List D) : Option Ob → Prop
  | some .hole => K (.ptr i 0) ⟨s.t, s.H.set i (.row z), s.T⟩
  | _ => False
def rawK (K : D → S → Prop) (s : S) (i : Nat) (z : List D) : Option Ob → Prop
  | some .hole => K (.ptr i 0) ⟨s.t, s.H.set i (.raw z), s.T⟩
  | _ => False
def fillK (K : D → S → Prop) (s : S) (i n : Nat) (a v : D) : Option Ob → Prop
  | some (.raw z) => a = .ptr i 0 ∧ z.length = n ∧ v.okc = true ∧ v.cells.length = n ∧ K .top ⟨s.t, s.H.set i (.row v.cells), s.T⟩
  | _ => False
def isnK (neg : Bool) (K : D → S → Prop) (s : S) : D → Prop
  | .nils => K (.bool (true != neg)) s
  | .sl _ (_ :: _) => K (.bool (false != neg)) s
  | .ms _ _ _ _ _ _ => K (.bool (false != neg)) s
  | .sl _ [] => K (.bool (true != neg)) s ∧ K (.bool (false != neg)) s
  | .e0 => K (.bool (true != neg)) s ∧ K (.bool (false != neg)) s
  | _ => False
def WO (X : Pred) (o : O) (s : S) (K : D → S → Prop) : Prop :=
  match o with
  | .isn neg x => isnK neg K s (s.ev x)
  | .alloc z => K (.ptr s.H.length 0) ⟨s.t, s.H ++ [.row z], s.T⟩
  | .allocAt j z => atK K s (s.H.length - j) z s.H[s.H.length - j]?
  | .rawAt j z => j ≤ s.H.length ∧ rawK K s (s.H.length - j) z s.H[s.H.length - j]?
  | .fillAt j n a v => j ≤ s.H.length ∧ fillK K s (s.H.length - j) n (s.ev a) (s.ev v) s.H[s.H.length - j]?
  | .box x => (s.ev x).okc = true ∧ K (.ptr s.H.length 0) ⟨s.t, s.H ++ [.row (s.ev x).cells], s.T⟩
  | .boxAt j x => (s.ev x).okc = true ∧ atK K s (s.H.length - j) (s.ev x).cells s.H[s.H.length - j]?
  | .bsl sz xs => (xs.map s.ev).all (fit sz) = true ∧ K (.sl (some s.T.length) (xs.map s.ev)) ⟨s.t, s.H, s.T ++ [some (xs.length, sz)]⟩
  | .store n a v => storeK n K s (s.ev a) (s.ev v)
  | .s2b x => s2bK K s (s.ev x)
  | .b2m x => K1 K s (b2mD s.H (s.ev x))
  | .call f args => callK X (args.map s.ev) K s (s.ev f)
  | .pcall f args => pcallK X (args.map s.ev) K s (s.ev f)
  | .app st sz bytes x y => appK sz bytes K s (s.ev x) (appSrc st (s.ev y))
  | .appm ag st sz bytes x y => appmK ag sz bytes K s (s.ev x) (appSrcM s.H st sz (s.ev y))
  | .bslm ag sz xs => (xs.map s.ev).all (fit sz) = true ∧ K (.ms ag sz s.H.length 0 xs.length xs.length) ⟨s.t, s.H ++ [.row (flatD (xs.map s.ev))], s.T⟩
  | .copy sz x y => copyK sz K s (s.ev x) (appSrcM s.H false sz (s.ev y))
  | .clr z x => clrK z K s (s.ev x)
  | .mkm ag sz bytes z n m => mkmK ag sz bytes z K s (s.ev n) (s.ev m)
  | .appz ag sz bytes z x y => appzK ag sz bytes z K s (s.ev x) (s.ev y)
  | .mkmap => K (.mp s.H.length) ⟨s.t, s.H ++ [.map [] 0], s.T⟩
  | .mput ks m k v => mputK ks K s (s.ev m) (s.ev k) (s.ev v)
  | .ment ks zv m k => mentK ks zv K s (s.ev m) (s.ev k)
  | .mst m b v => mstK K s (s.ev m) (s.ev b) (s.ev v)
  | .rng x => rngK K s (s.ev x)
  | .nxt x => nxtK K s (s.ev x)
  | o => K1 K s (qv s o)
def gd (s : S) : Option (Nat × Bool) → Option Bool
  | none => some true
  | some (g, w) => match s.t g with | .bool b => some (b == w) | .tup [] => some false | _ => none
def WIk (X : Pred) (d : Option Nat) (o : O) (s : S) (K : S → Prop) : Option Bool → Prop
  | some true => WO X o s (fun v s' => K (s'.put d v))
  | some false => K (s.put d (.tup []))
  | none => False
def WI (X : Pred) (i : I) (s : S) (K : S → Prop) : Prop := WIk X i.d i.o s K (gd s i.g)
def Wr (X : Pred) : List I → (S → Prop) → S → Prop
  | [], Q, s => Q s
  | i :: is, Q, s => WI X i s (Wr X is Q)
def still (X : Pred) (i : I) (s : S) : Prop :=
  match gd s i.g, i.d with
  | some true, some d => WO X i.o s (fun v _ => v = s.t d)
  | _, _ => True
def stillAll (X : Pred) : List I → S → Prop
  | [], _ => True
  | i :: is, s => still X i s ∧ stillAll X is s
def Wd (X : Pred) : List (I × List I) → (S → Prop) → S → Prop
  | [], Q, s => Q s
  | (i, re) :: is, Q, s => WI X i s (fun s' => stillAll X re s' ∧ Wd X is Q s')
def seqK (f : S → Prop) (Q : Ex → S → Prop) : Ex → S → Prop
  | .normal, s => f s
  | .exit id, s => Q (.exit id) s
  | .ret, s => Q .ret s
def blkK (id : Nat) (Q : Ex → S → Prop) : Ex → S → Prop
  | .normal, s => Q .normal s
  | .exit j, s => if j = id then Q .normal s else Q (.exit j) s
  | .ret, s => Q .ret s
def W (X : Pred) : C → (Ex → S → Prop) → S → Prop
  | .skip, Q, s => Q .normal s
  | .reg is, Q, s => Wr X is (Q .normal) s
  | .draw na is, Q, s => Wd X is (Q .normal) ⟨s.t, s.H ++ List.replicate na .hole, s.T⟩
  | .seq a b, Q, s => W X a (seqK (W X b Q) Q) s
  | .cond c a b, Q, s => (match s.ev c with | .bool t => if t then W X a Q s else W X b Q s | _ => False)
  | .block id c, Q, s => W X c (blkK id Q) s
  | .loop c, Q, s => ∃ (Iv : S → Prop) (μ : S → Nat), Iv s ∧ ∀ s, Iv s → W X c (seqK (fun s' => Iv s' ∧ μ s' < μ s) Q) s
  | .exit id, Q, s => Q (.exit id) s
  | .ret, Q, s => Q .ret s
  | .stop, _, _ => False
end GP
namespace GP
@[reducible] def Im (d x : Nat) : I := ⟨some d, none, .mv (.t x)⟩
@[reducible] def In (d x : Nat) : I := ⟨some d, none, .nilc (.t x)⟩
@[reducible] def If (d o x : Nat) : I := ⟨some d, none, .faddr o (.t x)⟩
@[reducible] def Il (d x : Nat) : I := ⟨some d, none, .load false 1 (.t x)⟩
@[reducible] def Ia (d n x : Nat) : I := ⟨some d, none, .load true n (.t x)⟩
@[reducible] def Ic (d f : Nat) (l : List Rd) : I := ⟨some d, none, .call (.k (.fn f [] [])) l⟩
@[reducible] def Ip (d f : Nat) (l : List Rd) : I := ⟨some d, none, .pcall (.k (.fn f [] [])) l⟩
@[reducible] def Ie (d n x : Nat) : I := ⟨some d, none, .ext n (.t x)⟩
@[reducible] def Iz (d x : Nat) : I := ⟨some d, none, .len (.t x)⟩
@[reducible] def Is (n x y : Nat) : I := ⟨none, none, .store n (.t x) (.t y)⟩
@[reducible] def Jm (d g : Nat) (b : Bool) (x : Nat) : I := ⟨some d, some (g, b), .mv (.t x)⟩
@[reducible] def Jf (d g : Nat) (b : Bool) (o x : Nat) : I := ⟨some d, some (g, b), .faddr o (.t x)⟩
@[reducible] def Jl (d g : Nat) (b : Bool) (x : Nat) : I := ⟨some d, some (g, b), .load false 1 (.t x)⟩
@[reducible] def Ki (n : Int) : Rd := .k (.int .i64 n)
end GP
namespace GP
open Go
structure Below (B : Bool × Nat) (w w' : World) : Prop where
  os : w'.os = w.os
  tape : w'.tape = w.tape
  output : w'.output = w.output
  size : w.heap.size ≤ w'.heap.size
  block : ∀ k, k < B.2 → w'.heap[k]? = w.heap[k]?
  drawn : B.1 = true → w.drawn ≤ w'.drawn
theorem Below.refl (B : Bool × Nat) (w : World) : Below B w w := ⟨rfl, rfl, rfl, Nat.le_refl _, fun _ _ => rfl, fun _ => Nat.le_refl _⟩
theorem Below.trans {B : Bool × Nat} {a b c : World} (h : Below B a b) (k : Below B b c) : Below B a c :=
  ⟨k.os.trans h.os, k.tape.trans h.tape, k.output.trans h.output, Nat.le_trans h.size k.size, fun i hi => (k.block i hi).trans (h.block i hi), fun e => Nat.le_trans (h.drawn e) (k.drawn e)⟩
theorem Below.mono {b : Bool} {B B' : Nat} {w w' : World} (h : Below (b, B) w w') (hB : B' ≤ B) : Below (b, B') w w' := ⟨h.os, h.tape, h.output, h.size, fun k hk => h.block k (Nat.lt_of_lt_of_le hk hB), h.drawn⟩
theorem Below.drew {B : Bool × Nat} {a w : World} (h : Below B a w) : Below B a w.drew := ⟨h.os, h.tape, h.output, h.size, h.block, fun e => Nat.le_succ_of_le (h.drawn e)⟩
theorem Below.alloc {B : Bool × Nat} {a w : World} (h : Below B a w) (hB : B.2 ≤ w.heap.size) (o : Obj) : Below B a (w.alloc o) :=
  h.trans ⟨rfl, rfl, rfl, by simp, fun k hk => RowKit.Below.heap_alloc _ _ _ (by omega), fun _ => Nat.le_refl _⟩
theorem Below.kit {B : Bool × Nat} {w w' : World} (h : Below B w w') : RowKit.Below B.2 w w' := ⟨h.os, h.tape, h.output, h.size, h.block⟩
structure Cx where
  M : Addr → Option Value
  β : Nat → Nat
  κ : Nat → Addr × Nat
  bd : Nat → Bool
  T : Tk
  bb : Bool × Nat
  sz : Nat → Nat
abbrev Cx.B (c : Cx) : Nat := c.bb.2
inductive Rep (c : Cx) : D → Value → Prop where
  | bool (b : Bool) : Rep c (.bool b) (.bool b)
  | int (k : IntKind) (n : Int) : Rep c (.int k n) (.int k n)
  | str (l : List UInt8) (h : l.length < 2 ^ 62) : Rep c (.str l) (.string ⟨l.toArray⟩)
  | nilp : Rep c .nilp (.pointer none)
  | ptr (o off : Nat) (h : c.bd o = true) : Rep c (.ptr o off) (.pointer (some ⟨c.β o, off, none⟩))
  | el (cs : List D) (a : Addr) (vs : Nat → Value) (ha : a.spot = none) (h1 : ∀ d ∈ cs, d.one = true)
      (hM : ∀ i, i < cs.length → c.M ⟨a.block, a.off + i, none⟩ = some (vs i)) (hr : ∀ i (h : i < cs.length), Rep c cs[i] (vs i)) : Rep c (.el cs) (.pointer (some a))
  | nils : Rep c .nils (.slice none 0 0)
  | sl (t : Option Nat) (xs : List D) (a : Option Addr) (cap sz : Nat) (vs : Nat → Nat → Value) (hlen : xs.length ≤ cap) (hb : xs.length < 2 ^ 62)
      (hsz : ∀ x ∈ xs, x.cells.length = sz) (h1 : ∀ x ∈ xs, ∀ y ∈ x.cells, y.one = true) (ha : xs ≠ [] → ∃ b, a = some b) (hs : xs ≠ [] → ∀ b, a = some b → b.spot = none)
      (hM : ∀ i, i < xs.length → ∀ j, j < sz → ∀ b, a = some b → c.M ⟨b.block, b.off + i * sz + j, none⟩ = some (vs i j))
      (hr : ∀ i (h : i < xs.length) j (hj : j < (xs[i].cells).length), Rep c (xs[i].cells)[j] (vs i j))
      (htl : ∀ τ, t = some τ → τ < c.T.length)
      (ht : ∀ τ, t = some τ → ∀ n z, c.T[τ]? = some (some (n, z)) → xs.length ≤ n ∧ (xs.length = n → a = some (c.κ τ).1 ∧ cap = (c.κ τ).2)) :
      Rep c (.sl t xs) (.slice a xs.length cap)
  | ms (ag : Bool) (z o off len cap rc : Nat) (h : c.bd o = true) (h1 : len ≤ cap) (h2 : cap = rc) (h3 : off + rc * z ≤ c.sz o) : Rep c (.ms ag z o off len cap) (.slice (some ⟨c.β o, off, none⟩) len rc)
  | e0 (a : Option Addr) : Rep c .e0 (.slice a 0 0)
  | fn (f : FuncId) (p q : List D) (vp vq : List Value) (hp : vp.length = p.length) (hq : vq.length = q.length)
      (hpr : ∀ i (h : i < p.length) (h' : i < vp.length), Rep c p[i] vp[i]) (hqr : ∀ i (h : i < q.length) (h' : i < vq.length), Rep c q[i] vq[i]) :
      Rep c (.fn f p q) (.func (.func f) vp.toArray vq.toArray)
  | nilf : Rep c .nilf .nilFunc
  | mp (o : Nat) (h : c.bd o = true) : Rep c (.mp o) (.map (some (c.β o)))
  | nilm : Rep c .nilm (.map none)
  | nili : Rep c .nili .nilIface
  | ifc (t : TypeId) (d : D) (v : Value) (h : Rep c d v) : Rep c (.ifc t d) (.iface t v)
  | agg (cs : List D) (vs : List Value) (hl : vs.length = cs.length) (h1 : ∀ d ∈ cs, d.one = true) (hr : ∀ i (h : i < cs.length) (h' : i < vs.length), Rep c cs[i] vs[i]) :
      Rep c (.agg cs) (.agg vs.toArray)
  | tup (cs : List D) (vs : List Value) (hl : vs.length = cs.length) (hr : ∀ i (h : i < cs.length) (h' : i < vs.length), Rep c cs[i] vs[i]) :
      Rep c (.tup cs) (.tuple vs.toArray)
  | top (v : Value) : Rep c .top v
structure Cx.le (c c' : Cx) : Prop where
  M : ∀ a v, c.M a = some v → c'.M a = some v
  bd : ∀ o, c.bd o = true → c'.bd o = true
  β : ∀ o, c.bd o = true → c'.β o = c.β o
  T : c.T.length ≤ c'.T.length
  dead : ∀ τ : Nat, c.T[τ]? = some none → c'.T[τ]? = some none
  tok : ∀ (τ n z : Nat), c.T[τ]? = some (some (n, z)) → c'.T[τ]? = some none ∨ ∃ n', c'.T[τ]? = some (some (n', z)) ∧ n ≤ n' ∧ (n' = n → c'.κ τ = c.κ τ)
  B : c'.bb = c.bb
  sz : ∀ o, c.bd o = true → c'.sz o = c.sz o
theorem Cx.le.refl (c : Cx) : c.le c := ⟨fun _ _ h => h, fun _ h => h, fun _ _ => rfl, Nat.le_refl _, fun _ h => h, fun _ n _ h => .inr ⟨n, h, Nat.le_refl _, fun _ => rfl⟩, rfl, fun _ _ => rfl⟩
theorem Cx.le.trans {a b c : Cx} (h : a.le b) (k : b.le c) : a.le c where
  M := fun x v hx => k.M x v (h.M x v hx)
  bd := fun o ho => k.bd o (h.bd o ho)
  β := fun o ho => (k.β o (h.bd o ho)).trans (h.β o ho)
  T := Nat.le_trans h.T k.T
  dead := fun τ hτ => k.dead τ (h.dead τ hτ)
  tok := fun τ n z hτ => by
    rcases h.tok τ n z hτ with h1 | ⟨n', h1, h2, h3⟩
    · exact .inl (k.dead τ h1)
    · rcases k.tok τ n' z h1 with k1 | ⟨n'', k1, k2, k3⟩
      · exact .inl k1
      · exact .inr ⟨n'', k1, Nat.le_trans h2 k2, fun e => by
          have e1 : n' = n := by omega
          rw [k3 (by omega), h3 e1]⟩
  B := k.B.trans h.B
  sz := fun o ho => (k.sz o (h.bd o ho)).trans (h.sz o ho)
theorem Rep.mono {c c' : Cx} (h : c.le c') {d : D} {v : Value} (hr : Rep c d v) : Rep c' d v := by
  induction hr with
  | bool b => exact .bool b
  | int k n => exact .int k n
  | str l h => exact .str l h
  | nilp => exact .nilp
  | ptr o off ho => rw [← h.β o ho]; exact .ptr o off (h.bd o ho)
  | el cs a vs ha h1 hM _ ih => exact .el cs a vs ha h1 (fun i hi => h.M _ _ (hM i hi)) ih
  | nils => exact .nils
  | sl t xs a cap sz vs hlen hb hsz h1 ha hs hM _ htl ht ih =>
    refine .sl t xs a cap sz vs hlen hb hsz h1 ha hs (fun i hi j hj b hb => h.M _ _ (hM i hi j hj b hb)) ih (fun τ hτ => Nat.lt_of_lt_of_le (htl τ hτ) h.T) ?_
    intro τ hτ n z hn
    have hlt := htl τ hτ
    cases hold : c.T[τ]? with
    | none => simp at hold; omega
    | some x =>
      cases x with
      | none => rw [h.dead τ hold] at hn; cases hn
      | some p =>
        obtain ⟨n0, z0⟩ := p
        obtain ⟨g1, g2⟩ := ht τ hτ n0 z0 hold
        rcases h.tok τ n0 z0 hold with h3 | ⟨n', h3, h4, h5⟩
        · rw [h3] at hn; cases hn
        · rw [h3] at hn
          injection hn with hn; injection hn with hn; injection hn with hn1 hn2
          subst hn1
          refine ⟨by omega, fun e => ?_⟩
          have e1 : n' = n0 := by omega
          rw [h5 e1]
          exact g2 (by omega)
  | ms ag z o off len cap rc ho h1 h2 h3 => rw [← h.β o ho]; exact .ms ag z o off len cap rc (h.bd o ho) h1 h2 (by rw [h.sz o ho]; exact h3)
  | e0 a => exact .e0 a
  | fn f p q vp vq hp hq _ _ ih1 ih2 => exact .fn f p q vp vq hp hq ih1 ih2
  | nilf => exact .nilf
  | mp o ho => rw [← h.β o ho]; exact .mp o (h.bd o ho)
  | nilm => exact .nilm
  | nili => exact .nili
  | ifc t d v _ ih => exact .ifc t d v ih
  | agg cs vs hl h1 _ ih => exact .agg cs vs hl h1 ih
  | tup cs vs hl _ ih => exact .tup cs vs hl ih
  | top v => exact .top v
theorem Rep.oneCell {c : Cx} {d : D} {v : Value} (h : Rep c d v) (h1 : d.one = true) : v.oneCell' = true := by
  cases h <;> simp [D.one, Value.oneCell'] at *
structure Cells (c : Cx) (ds : List D) (vs : List Value) : Prop where
  len : vs.length = ds.length
  one : ∀ d ∈ ds, d.one = true
  rep : ∀ i (h : i < ds.length) (h' : i < vs.length), Rep c ds[i] vs[i]
theorem Cells.mono {c c' : Cx} (h : c.le c') {ds : List D} {vs : List Value} (k : Cells c ds vs) : Cells c' ds vs := ⟨k.len, k.one, fun i h1 h2 => (k.rep i h1 h2).mono h⟩
theorem Cells.cell {c : Cx} {ds : List D} {vs : List Value} (k : Cells c ds vs) : ∀ v ∈ vs, v.oneCell' = true := by
  intro v hv
  obtain ⟨i, hi, rfl⟩ := List.getElem_of_mem hv
  have hi' : i < ds.length := by rw [← k.len]; exact hi
  exact (k.rep i hi' hi).oneCell (k.one _ (List.getElem_mem hi'))
theorem Rep.cells {c : Cx} {d : D} {v : Value} (h : Rep c d v) (hk : d.okc = true) : Cells c d.cells v.cells.toList := by
  cases h with
  | agg cs vs hl h1 hr => exact ⟨by simpa [Value.cells, D.cells] using hl, by simpa [D.cells] using h1, fun i h h' => hr i h h'⟩
  | tup => simp [D.okc] at hk
  | top => simp [D.okc] at hk
  | _ =>
    refine ⟨by simp [Value.cells, D.cells], by simp [D.cells, D.one], fun i h h' => ?_⟩
    have hi : i = 0 := by simp [D.cells] at h; omega
    subst hi
    simp only [D.cells, Value.cells, List.getElem_cons_zero]
    first
      | (constructor <;> assumption)
      | exact .bool _
      | exact .int _ _
      | exact .nilp
      | exact .e0 _
      | exact .nils
      | exact .nilf
      | exact .nilm
      | exact .nili
structure Reps (c : Cx) (ds : List D) (vs : List Value) : Prop where
  len : vs.length = ds.length
  rep : ∀ i (h : i < ds.length) (h' : i < vs.length), Rep c ds[i] vs[i]
theorem Reps.mono {c c' : Cx} (h : c.le c') {ds : List D} {vs : List Value} (k : Reps c ds vs) : Reps c' ds vs := ⟨k.len, fun i h1 h2 => (k.rep i h1 h2).mono h⟩
theorem Reps.append {c : Cx} {d1 d2 : List D} {v1 v2 : List Value} (h1 : Reps c d1 v1) (h2 : Reps c d2 v2) : Reps c (d1 ++ d2) (v1 ++ v2) := by
  refine ⟨by simp [h1.len, h2.len], fun i h h' => ?_⟩
  by_cases hi : i < d1.length
  · rw [List.getElem_append_left hi, List.getElem_append_left (by rw [h1.len]; exact hi)]
    exact h1.rep i _ _
  · rw [List.getElem_append_right (by omega), List.getElem_append_right (by rw [h1.len]; omega)]
    have := h2.rep (i - d1.length) (by simp at h; omega) (by simp [h1.len, h2.len] at h' ⊢; omega)
    simpa [h1.len] using this
theorem Reps.nil {c : Cx} : Reps c [] [] := ⟨rfl, fun i h _ => absurd h (by simp)⟩
theorem Reps.map {c : Cx} {α : Type} (l : List α) (f : α → D) (g : α → Value) (h : ∀ x ∈ l, Rep c (f x) (g x)) : Reps c (l.map f) (l.map g) :=
  ⟨by simp, fun i h1 h2 => by simpa using h _ (List.getElem_mem _)⟩
def Ob.live : Ob → Bool
  | .dead | .hole => false
  | _ => true
def vOf1 : D → Value
  | .int k n => .int k n
  | .str l => .string ⟨l.toArray⟩
  | .bool b => .bool b
  | _ => .bool false
def vOf : D → Value
  | .agg cs => .agg (cs.map vOf1).toArray
  | d => vOf1 d
def entV (e : D × D × Nat) : MapEntry := { key := vOf e.1, val := vOf e.2.1, born := e.2.2 }
theorem rep_pu1 (c : Cx) {d : D} (h : pu1 d = true) : Rep c d (vOf1 d) ∧ d.one = true := by
  cases d <;> simp [pu1] at h
  · exact ⟨.bool _, rfl⟩
  · exact ⟨.int _ _, rfl⟩
  · exact ⟨.str _ h, rfl⟩
theorem rep_pu (c : Cx) {d : D} (h : pu d = true) : Rep c d (vOf d) := by
  cases d with
  | agg cs =>
    simp only [pu, List.all_eq_true] at h
    refine .agg cs (cs.map vOf1) (by simp) (fun d hd => (rep_pu1 c (h d hd)).2) (fun i hi hi' => ?_)
    simp only [List.getElem_map]
    exact (rep_pu1 c (h _ (List.getElem_mem hi))).1
  | bool b => exact .bool b
  | int k n => exact .int k n
  | str l => exact .str l (by simpa [pu, pu1] using h)
  | _ => simp [pu, pu1] at h
theorem pu1_rep {c : Cx} {d : D} {v : Value} (h : pu1 d = true) (hr : Rep c d v) : v = vOf1 d := by
  cases d <;> simp [pu1] at h <;> cases hr <;> rfl
theorem pu_rep {c : Cx} {d : D} {v : Value} (h : pu d = true) (hr : Rep c d v) : v = vOf d := by
  cases d with
  | agg cs =>
    simp only [pu, List.all_eq_true] at h
    cases hr with
    | agg _ vs hl h1 hr =>
      show Value.agg _ = Value.agg _
      congr 2
      refine List.ext_getElem (by simp [hl]) fun i hi hi' => ?_
      simp only [List.getElem_map]
      have hi2 : i < cs.length := by omega
      exact pu1_rep (h _ (List.getElem_mem hi2)) (hr i hi2 hi)
  | bool b => cases hr; rfl
  | int k n => cases hr; rfl
  | str l => cases hr; rfl
  | _ => simp [pu, pu1] at h
structure RowAt (c : Cx) (w : World) (b n : Nat) (cs : List D) : Prop where
  hold : ∃ (vs rest : List Value) (e : TypeId) (fr : Nat × Nat), w.heap[b]? = some (.cells (vs ++ rest).toArray e fr) ∧ Cells c cs vs ∧ vs.length + rest.length = n ∧ ∀ i, i ≤ n → ¬ (fr.1 ≤ i ∧ i < fr.2)
def ItOk (c : Cx) (w : World) (o : Nat) (m : Option Nat) (sn : Nat) (se : List Nat) (la : Nat) : Prop :=
  (∀ x, m = some x → x < o ∧ c.bd x = true) ∧ w.heap[c.β o]? = some (.mapIter (m.map c.β) sn se.toArray la)
theorem ItOk.mono {c c' : Cx} {w w' : World} {o : Nat} {m : Option Nat} {sn la : Nat} {se : List Nat} (h : ItOk c w o m sn se la) (hle : c.le c') (hβ : c'.β o = c.β o) (hw : w'.heap[c.β o]? = w.heap[c.β o]?) : ItOk c' w' o m sn se la := by
  refine ⟨fun x hx => ⟨(h.1 x hx).1, hle.bd x (h.1 x hx).2⟩, ?_⟩
  rw [hβ, hw, h.2]
  cases m with
  | none => rfl
  | some x => simp only [Option.map_some, hle.β x (h.1 x rfl).2]
structure Inv (c : Cx) (w : World) (H : Hp) : Prop where
  keep : ∀ a v, c.M a = some v → w.cell? a = some v
  low : c.B ≤ w.heap.size
  row : ∀ (o : Nat) x cs, H[o]? = some x → x.cells? = some cs → RowAt c w (c.β o) (c.sz o) cs
  free : ∀ o, (H.length ≤ o ∨ H[o]? = some .hole) → c.bd o = false
  own : ∀ (o : Nat) x, H[o]? = some x → x.live = true → c.bd o = true ∧ c.B ≤ c.β o ∧ c.β o < w.heap.size ∧ ∀ i, c.M ⟨c.β o, i, none⟩ = none
  apart : ∀ (o o' : Nat) x x', H[o]? = some x → H[o']? = some x' → x.live = true → x'.live = true → c.β o = c.β o' → o = o'
  map : ∀ (o : Nat) es clk, H[o]? = some (.map es clk) → (∀ x ∈ es, pu x.1 = true ∧ pu x.2.1 = true) ∧ w.heap[c.β o]? = some (.map (es.map entV).toArray clk)
  iter : ∀ (o : Nat) m sn se la, H[o]? = some (.iter m sn se la) → ItOk c w o m sn se la
  tok : ∀ (τ n z : Nat), c.T[τ]? = some (some (n, z)) → c.B ≤ (c.κ τ).1.block ∧ (c.κ τ).1.block < w.heap.size ∧ (c.κ τ).1.spot = none ∧ n ≤ (c.κ τ).2 ∧
    ∀ j, n * z ≤ j → j < (c.κ τ).2 * z → (w.cell? ⟨(c.κ τ).1.block, (c.κ τ).1.off + j, none⟩).isSome = true ∧ w.frozen? ⟨(c.κ τ).1.block, (c.κ τ).1.off + j, none⟩ = false ∧
      c.M ⟨(c.κ τ).1.block, (c.κ τ).1.off + j, none⟩ = none
  tokrow : ∀ (τ n z o : Nat) x, c.T[τ]? = some (some (n, z)) → H[o]? = some x → x.live = true → c.β o ≠ (c.κ τ).1.block
  toks : ∀ (τ n z τ' n' z' : Nat), c.T[τ]? = some (some (n, z)) → c.T[τ']? = some (some (n', z')) → (c.κ τ).1.block = (c.κ τ').1.block → τ = τ'
def FR (c : Cx) (t : Nat → D) (a : Act) : Prop := ∀ i, Rep c (t i) (a.tmps.getD i undef)
structure Sim (c : Cx) (s : S) (a : Act) (w : World) : Prop where
  T : c.T = s.T
  inv : Inv c w s.H
  fr : FR c s.t a
theorem FR.mono {c c' : Cx} (h : c.le c') {t : Nat → D} {a : Act} (k : FR c t a) : FR c' t a := fun i => (k i).mono h
theorem FR.put {c : Cx} {t : Nat → D} {a : Act} (k : FR c t a) {i : Nat} {d : D} {v : Value} (hr : Rep c d v) (hi : i < a.tmps.size) : FR c (upd t i d) (a.put (some i) v) := by
  intro j
  simp only [upd, Act.put]
  by_cases h : j = i
  · subst h; simpa [hi] using hr
  · rw [if_neg h]
    have := k j
    simpa [Array.getElem?_setIfInBounds_ne (Ne.symm h)] using this
end GP
namespace GP
open Go
def cval1 : Value → Option D
  | .bool b => some (.bool b)
  | .int k n => some (.int k n)
  | .string s => if s.data.toList.length < 2 ^ 62 then some (.str s.data.toList) else none
  | .pointer none => some .nilp
  | .slice none 0 0 => some .nils
  | .map none => some .nilm
  | .nilFunc => some .nilf
  | .nilIface => some .nili
  | _ => none
def cvalL : List Value → Option (List D)
  | [] => some []
  | v :: vs => match cval1 v, cvalL vs with
    | some d, some ds => some (d :: ds)
    | _, _ => none
def cval : Value → Option D
  | .agg cs => (cvalL cs.toList).map .agg
  | v => cval1 v
def cRd : Operand → Option Rd
  | .tmp t => some (.t t)
  | .const v => (cval v).map .k
  | .func f => some (.k (.fn f [] []))
  | .global _ => none
def cRds : List Operand → Option (List Rd)
  | [] => some []
  | x :: xs => match cRd x, cRds xs with
    | some r, some rs => some (r :: rs)
    | _, _ => none
def tsz (P : Program) (t : TypeId) : Option Nat := (P.info? t).map (·.size)
def tag (P : Program) (t : TypeId) : Option Bool := (P.underlying t).map fun d => match d with | .struct _ | .array _ _ => true | _ => false
def tz (P : Program) (t : TypeId) : Option (List D) :=
  match P.info? t with
  | some i => match i.zero with
    | some z => (cval z).map (·.cells)
    | none => none
  | none => none
theorem cval1_rep {v : Value} {d : D} (h : cval1 v = some d) (c : Cx) : Rep c d v ∧ d.one = true := by
  unfold cval1 at h
  split at h
  case h_3 s =>
    split at h
    · rename_i hl
      injection h with h; subst h
      exact ⟨Rep.str _ hl, rfl⟩
    · cases h
  all_goals first
    | (injection h with h; subst h; refine ⟨?_, rfl⟩; constructor)
    | cases h
theorem cvalL_rep : ∀ {vs : List Value} {ds : List D}, cvalL vs = some ds → ∀ c : Cx, Cells c ds vs
  | [], ds, h, c => by simp [cvalL] at h; subst h; exact ⟨rfl, by simp, fun i h _ => absurd h (by simp)⟩
  | v :: vs, ds, h, c => by
    simp only [cvalL] at h
    split at h
    · rename_i d ds' h1 h2
      injection h with h; subst h
      have k := cvalL_rep h2 c
      obtain ⟨r1, r2⟩ := cval1_rep h1 c
      refine ⟨by simp [k.len], ?_, ?_⟩
      · intro x hx
        cases hx with
        | head => exact r2
        | tail _ hx => exact k.one x hx
      · intro i hi hi'
        cases i with
        | zero => exact r1
        | succ i => exact k.rep i (by simpa using hi) (by simpa using hi')
    · cases h
theorem cval_rep {v : Value} {d : D} (h : cval v = some d) (c : Cx) : Rep c d v ∧ d.okc = true := by
  unfold cval at h
  split at h
  · rename_i cs
    cases hl : cvalL cs.toList with
    | none => rw [hl] at h; cases h
    | some ds =>
      rw [hl] at h
      injection h with h; subst h
      have k := cvalL_rep hl c
      exact ⟨Rep.agg ds cs.toList k.len k.one k.rep, rfl⟩
  · obtain ⟨r1, r2⟩ := cval1_rep h c
    refine ⟨r1, ?_⟩
    cases d <;> simp_all [D.one, D.okc]
theorem cRd_rep {x : Operand} {r : Rd} (h : cRd x = some r) {c : Cx} {s : S} {a : Act} (hf : FR c s.t a) : Rep c (s.ev r) (a.eval x) := by
  cases x with
  | tmp t => simp [cRd] at h; subst h; exact hf t
  | const v =>
    simp only [cRd] at h
    cases hc : cval v with
    | none => rw [hc] at h; cases h
    | some d => rw [hc] at h; injection h with h; subst h; exact (cval_rep hc c).1
  | func f => simp [cRd] at h; subst h; exact Rep.fn f [] [] [] [] rfl rfl (fun i h _ => absurd h (by simp)) (fun i h _ => absurd h (by simp))
  | global g => simp [cRd] at h
theorem cRds_rep : ∀ {xs : List Operand} {rs : List Rd}, cRds xs = some rs → ∀ {c : Cx} {s : S} {a : Act}, FR c s.t a → Reps c (rs.map s.ev) (xs.map a.eval)
  | [], rs, h, c, s, a, hf => by simp [cRds] at h; subst h; exact Reps.nil
  | x :: xs, rs, h, c, s, a, hf => by
    simp only [cRds] at h
    split at h
    · rename_i r rs' h1 h2
      injection h with h; subst h
      have k := cRds_rep h2 hf
      refine ⟨by simp [← k.len], fun i hi hi' => ?_⟩
      cases i with
      | zero => exact cRd_rep h1 hf
      | succ i => exact k.rep i (by simpa using hi) (by simpa using hi')
    · cases h
theorem Addr.add_eq (a : Addr) (h : a.spot = none) (i : Nat) : a.add i = ⟨a.block, a.off + i, none⟩ := by
  obtain ⟨b, o, s⟩ := a
  simp only at h
  subst h
  unfold Addr.add
  split
  · rename_i h0; simp [h0]
  · rfl
theorem read_at {c : Cx} {w : World} {H : Hp} (hi : Inv c w H) {d : D} {v : Value} (hr : Rep c d v) {cs : List D} (h : rdAt H d = some cs) :
    ∃ (a : Addr) (vs : List Value), v = .pointer (some a) ∧ a.spot = none ∧ Cells c cs vs ∧ ∀ (i : Nat) u, vs[i]? = some u → w.cell? (a.add i) = some u := by
  cases hr with
  | el cs' a vs ha h1 hM hr =>
    simp [rdAt] at h; subst h
    refine ⟨a, (List.range cs'.length).map vs, rfl, ha, ⟨by simp, h1, fun i h h' => by simpa using hr i h⟩, ?_⟩
    intro i u hu
    have hlt : i < cs'.length := by
      rcases Nat.lt_or_ge i cs'.length with h' | h'
      · exact h'
      · rw [List.getElem?_eq_none (by simpa using h')] at hu; cases hu
    rw [List.getElem?_map, List.getElem?_range hlt] at hu
    injection hu with hu; subst hu
    rw [Addr.add_eq a ha]
    exact hi.keep _ _ (hM i hlt)
  | ptr o off ho =>
    simp only [rdAt] at h
    split at h
    · rename_i cs' hH
      injection h with h; subst h
      obtain ⟨vs, rest, e, fr, h1, h2, h4, h3⟩ := (hi.row o _ cs' hH rfl).hold
      refine ⟨⟨c.β o, off, none⟩, vs.drop off, rfl, rfl, ⟨by simp [h2.len], fun d hd => h2.one d (List.mem_of_mem_drop hd), fun i h h' => by simpa using h2.rep (off + i) (by simp at h; omega) (by simp at h'; omega)⟩, ?_⟩
      intro i u hu
      rw [Addr.add_eq _ rfl]
      simp only [World.cell?, h1]
      rw [List.getElem?_drop] at hu
      have hlt : off + i < vs.length := by
        rcases Nat.lt_or_ge (off + i) vs.length with h' | h'
        · exact h'
        · rw [List.getElem?_eq_none h'] at hu; cases hu
      simp only [List.getElem?_toArray]
      rw [List.getElem?_append_left hlt]; exact hu
    · cases h
  | _ => simp [rdAt] at h
variable {P : Program}
theorem run_info {t : TypeId} {i : TypeInfo} (h : P.info? t = some i) (w : World) : (typeInfo t).run P w = .ok i w := by simp [typeInfo, h]
theorem run_size {t : TypeId} {n : Nat} (h : tsz P t = some n) (w : World) : (Go.sizeOf t).run P w = .ok n w := by
  unfold tsz at h
  cases hi : P.info? t with
  | none => rw [hi] at h; cases h
  | some i => rw [hi] at h; injection h with h; simp [Go.sizeOf, run_info hi, h]
theorem run_isAgg {t : TypeId} {b : Bool} (h : tag P t = some b) (w : World) : (isAgg t).run P w = .ok b w := by
  unfold tag at h
  cases hu : P.underlying t with
  | none => rw [hu] at h; cases h
  | some d =>
    rw [hu] at h; injection h with h
    subst h
    cases d <;> simp [isAgg, run_underlying hu]
theorem run_zero {t : TypeId} {z : List D} (h : tz P t = some z) (c : Cx) : ∃ v : Value, (∀ w, (zeroValue t).run P w = .ok v w) ∧ Cells c z v.cells.toList := by
  unfold tz at h
  split at h
  · rename_i i hi
    split at h
    · rename_i v hz
      cases hc : cval v with
      | none => rw [hc] at h; cases h
      | some d =>
        rw [hc] at h; injection h with h; subst h
        obtain ⟨r1, r2⟩ := cval_rep hc c
        exact ⟨v, fun w => by simp [zeroValue, run_info hi, hz], r1.cells r2⟩
    · cases h
  · cases h
theorem Cells.take {c : Cx} {ds : List D} {vs : List Value} (k : Cells c ds vs) (n : Nat) : Cells c (ds.take n) (vs.take n) :=
  ⟨by simp [k.len], fun d hd => k.one d (List.mem_of_mem_take hd), fun i h h' => by simpa using k.rep i (by simp at h; omega) (by simp at h'; omega)⟩
theorem Cells.drop {c : Cx} {ds : List D} {vs : List Value} (k : Cells c ds vs) (n : Nat) : Cells c (ds.drop n) (vs.drop n) :=
  ⟨by simp [k.len], fun d hd => k.one d (List.mem_of_mem_drop hd), fun i h h' => by simpa using k.rep (n + i) (by simp at h; omega) (by simp at h'; omega)⟩
theorem Cells.append {c : Cx} {d1 d2 : List D} {v1 v2 : List Value} (h1 : Cells c d1 v1) (h2 : Cells c d2 v2) : Cells c (d1 ++ d2) (v1 ++ v2) := by
  have := Reps.append ⟨h1.len, h1.rep⟩ ⟨h2.len, h2.rep⟩
  refine ⟨this.len, fun d hd => ?_, this.rep⟩
  rcases List.mem_append.1 hd with h | h
  · exact h1.one d h
  · exact h2.one d h
theorem load_sound {c : Cx} {w : World} {H : Hp} (hi : Inv c w H) {d r : D} {v : Value} (hr : Rep c d v) {t : TypeId} {ag : Bool} {n : Nat} (h1 : tag P t = some ag) (h2 : tsz P t = some n)
    (h : ld ag n (rdAt H d) = some r) : ∃ u, (Instr.loadAt t v).run P w = .ok u w ∧ Rep c r u := by
  cases hrd : rdAt H d with
  | none => rw [hrd] at h; cases h
  | some cs =>
    rw [hrd] at h
    obtain ⟨a, vs, rfl, ha, k, hcell⟩ := read_at hi hr hrd
    cases ag with
    | true =>
      simp only [ld, if_true] at h
      split at h
      · rename_i hn
        injection h with h; subst h
        refine ⟨.agg (vs.take n).toArray, ?_, ?_⟩
        · have hl : (vs.take n).length = n := by rw [List.length_take, k.len]; omega
          have := run_loadCells_list (P := P) w a (vs.take n) (fun j u hu => hcell j u (by
            rcases Nat.lt_or_ge j n with h' | h'
            · rwa [List.getElem?_take_of_lt h'] at hu
            · rw [List.getElem?_eq_none (by omega)] at hu; cases hu))
          rw [hl] at this
          simp [Instr.loadAt, Instr.sureAddr, loadVar, run_isAgg h1, run_size h2, this]
        · have k' := k.take n
          exact Rep.agg _ _ k'.len k'.one k'.rep
      · cases h
    | false =>
      simp only [ld, Bool.false_eq_true, if_false] at h
      cases cs with
      | nil => cases h
      | cons x cs =>
        injection h with h; subst h
        cases vs with
        | nil => have := k.len; simp at this
        | cons u us =>
          refine ⟨u, ?_, k.rep 0 (by simp) (by simp)⟩
          have := hcell 0 u rfl
          simp [Addr.add] at this
          simp [Instr.loadAt, Instr.sureAddr, loadVar, run_isAgg h1, this]
end GP
namespace GP
open Go
variable {P : Program} {c : Cx} {w : World} {H : Hp}
theorem fa_sound {off : Nat} {d r : D} {v : Value} (hr : Rep c d v) (h : fa off d = some r) : ∃ a : Addr, v = .pointer (some a) ∧ a.spot = none ∧ Rep c r (.pointer (some ⟨a.block, a.off + off, none⟩)) := by
  cases hr with
  | el cs a vs ha h1 hM hr =>
    simp [fa] at h; subst h
    refine ⟨a, rfl, ha, Rep.el (cs.drop off) _ (fun i => vs (off + i)) rfl (fun d hd => h1 d (List.mem_of_mem_drop hd)) (fun i hi => ?_) (fun i hi => ?_)⟩
    · have := hM (off + i) (by simp at hi; omega)
      simpa [Nat.add_assoc] using this
    · simpa using hr (off + i) (by simp at hi; omega)
  | ptr o f ho => simp [fa] at h; subst h; exact ⟨_, rfl, rfl, Rep.ptr o (f + off) ho⟩
  | _ => simp [fa] at h
def structOf (P : Program) (t : TypeId) : Option (Array Field) := match P.underlying t with | some (.struct fs) => some fs | _ => none
def sliceOf (P : Program) (t : TypeId) : Option TypeId := match P.underlying t with | some (.slice e) => some e | _ => none
def arrayOf (P : Program) (t : TypeId) : Option (Nat × TypeId) := match P.underlying t with | some (.array n e) => some (n, e) | _ => none
theorem structOf_eq {t : TypeId} {fs : Array Field} (h : structOf P t = some fs) : P.underlying t = some (.struct fs) := by unfold structOf at h; split at h <;> simp_all
theorem sliceOf_eq {t e : TypeId} (h : sliceOf P t = some e) : P.underlying t = some (.slice e) := by unfold sliceOf at h; split at h <;> simp_all
theorem arrayOf_eq {t e : TypeId} {n : Nat} (h : arrayOf P t = some (n, e)) : P.underlying t = some (.array n e) := by unfold arrayOf at h; split at h <;> simp_all
theorem faddr_sound {t : TypeId} {fs : Array Field} {k : Nat} {f : Field} {n : Nat} (ht : structOf P t = some fs) (hf : fs[k]? = some f) (hn : tsz P f.type = some n) (h0 : n ≠ 0)
    {d r : D} {v : Value} (hr : Rep c d v) (h : fa f.offset d = some r) : ∃ u, (Instr.fieldAt t v k).run P w = .ok u w ∧ Rep c r u := by
  obtain ⟨a, rfl, ha, hrep⟩ := fa_sound hr h
  refine ⟨_, ?_, hrep⟩
  simp [Instr.fieldAt, run_underlying (structOf_eq ht), hf, Instr.sureAddr, fieldPlace, run_size hn, h0, Addr.add_eq a ha]
theorem Cells.sub {ds : List D} {vs : List Value} (k : Cells c ds vs) (lo hi : Nat) : Cells c (subList ds lo hi) (subList vs lo hi) := by
  unfold subList; exact (k.take hi).drop lo
theorem part_sound {t : TypeId} {ag : Bool} {n off : Nat} (h1 : tag P t = some ag) (h2 : tsz P t = some n) {ds : List D} {vs : List Value} (k : Cells c ds vs) {r : D} (h : partD ag off n ds = some r) :
    ∃ u, (part t vs.toArray off).run P w = .ok u w ∧ Rep c r u := by
  cases ag with
  | true =>
    simp only [partD, if_true] at h
    split at h
    · rename_i hle
      injection h with h; subst h
      have k' := k.sub off (off + n)
      refine ⟨.agg (subList vs off (off + n)).toArray, ?_, Rep.agg _ _ k'.len k'.one k'.rep⟩
      simp [part, run_isAgg h1, run_size h2, subList, List.extract_toArray, List.extract_eq_take_drop, List.drop_take]
    · cases h
  | false =>
    simp only [partD, Bool.false_eq_true, if_false] at h
    have hlt : off < ds.length := by
      rcases Nat.lt_or_ge off ds.length with h' | h'
      · exact h'
      · rw [List.getElem?_eq_none h'] at h; cases h
    rw [List.getElem?_eq_getElem hlt] at h
    injection h with h; subst h
    have hlt' : off < vs.length := by rw [k.len]; exact hlt
    refine ⟨vs[off], ?_, k.rep off hlt hlt'⟩
    simp [part, run_isAgg h1, hlt']
theorem field_sound {t : TypeId} {fs : Array Field} {k : Nat} {f : Field} {ag : Bool} {n : Nat} (ht : structOf P t = some fs) (hf : fs[k]? = some f) (h1 : tag P f.type = some ag) (h2 : tsz P f.type = some n)
    {d r : D} {v : Value} (hr : Rep c d v) (h : fld ag f.offset n d = some r) : ∃ u, (Instr.field t v k).run P w = .ok u w ∧ Rep c r u := by
  cases hr with
  | agg cs vs hl h1' hr =>
    simp only [fld] at h
    obtain ⟨u, e1, e2⟩ := part_sound (w := w) h1 h2 ⟨hl, h1', hr⟩ h
    exact ⟨u, by simp [Instr.field, run_underlying (structOf_eq ht), hf, asAgg, e1], e2⟩
  | _ => simp [fld] at h
theorem iaddr_ms {t e : TypeId} {sz : Nat} (ht : sliceOf P t = some e) (hn : tsz P e = some sz) {ag : Bool} {z o off len cap : Nat} {n : Int} {k : IntKind} {vx : Value} (hx : Rep c (.ms ag z o off len cap) vx) (h0 : 0 ≤ n) (hlt : n < len) (hz : z = sz) :
    ∃ u, (Instr.indexAt t vx (.int k n)).run P w = .ok u w ∧ Rep c (.ptr o (off + n.toNat * sz)) u := by
  cases hx with
  | ms _ _ _ _ _ _ rc hbd h1 h2 h3 =>
    refine ⟨.pointer (some ⟨c.β o, off + n.toNat * sz, none⟩), ?_, Rep.ptr o _ hbd⟩
    have hadd : Addr.add ⟨c.β o, off, none⟩ (n.toNat * sz) = ⟨c.β o, off + n.toNat * sz, none⟩ := Addr.add_eq _ rfl _
    simp [Instr.indexAt, asIntOf, run_underlying (sliceOf_eq ht), h0, hlt, run_size hn, hadd]
theorem iaddr_sound {t e : TypeId} {sz : Nat} (ht : sliceOf P t = some e) (hn : tsz P e = some sz) {x i r : D} {vx vi : Value} (hx : Rep c x vx) (hi : Rep c i vi) (h : ia sz x i = some r) :
    ∃ u, (Instr.indexAt t vx vi).run P w = .ok u w ∧ Rep c r u := by
  cases hx with
  | sl τ xs a cap sz' vs hlen hb hsz h1 ha hs hM hr htl ht' =>
    cases hi with
    | int k n =>
      simp only [ia] at h
      split at h
      · rename_i h0
        cases hg : xs[n.toNat]? with
        | none => rw [hg] at h; cases h
        | some d =>
          rw [hg] at h
          simp only [iaE] at h
          split at h
          · rename_i hd
            injection h with h; subst h
            have hlt : n.toNat < xs.length := by
              rcases Nat.lt_or_ge n.toNat xs.length with h' | h'
              · exact h'
              · rw [List.getElem?_eq_none h'] at hg; cases hg
            rw [List.getElem?_eq_getElem hlt] at hg
            injection hg with hg; subst hg
            obtain ⟨b, rfl⟩ := ha (by intro h'; subst h'; simp at hlt)
            have hbs := hs (by intro h'; subst h'; simp at hlt) b rfl
            have hszs : sz' = sz := by rw [← hd, hsz _ (List.getElem_mem hlt)]
            subst hszs
            have hnn : n < (xs.length : Int) := by omega
            refine ⟨.pointer (some (b.add (n.toNat * sz'))), ?_, ?_⟩
            · simp [Instr.indexAt, asIntOf, run_underlying (sliceOf_eq ht), h0, hnn, run_size hn]
            · rw [Addr.add_eq b hbs]
              refine Rep.el _ _ (fun j => vs n.toNat j) rfl (h1 _ (List.getElem_mem hlt)) (fun j hj => ?_) (fun j hj => hr n.toNat hlt j hj)
              exact hM n.toNat hlt j (by rw [hd] at hj; exact hj) b rfl
          · cases h
      · cases h
    | _ => simp [ia] at h
  | ms ag z o off len cap rc hbd h1 h2 h3 =>
    cases hi with
    | int k n =>
      simp only [ia] at h
      split at h
      · rename_i h0
        injection h with h; subst h
        exact iaddr_ms ht hn (Rep.ms ag z o off len cap rc hbd h1 h2 h3) h0.1 h0.2.1 h0.2.2
      · cases h
    | _ => simp [ia] at h
  | _ => simp [ia] at h
theorem iarr_sound {t e : TypeId} {sz len : Nat} (ht : arrayOf P t = some (len, e)) (hn : tsz P e = some sz) {x i r : D} {vx vi : Value} (hx : Rep c x vx) (hi : Rep c i vi) (h : iarrD sz len x i = some r) :
    ∃ u, (Instr.indexAt t vx vi).run P w = .ok u w ∧ Rep c r u := by
  cases hi with
  | int k n =>
    simp only [iarrD] at h
    split at h
    · rename_i h0
      obtain ⟨a, rfl, ha, hrep⟩ := fa_sound hx h
      refine ⟨.pointer (some (a.add (n.toNat * sz))), ?_, by rw [Addr.add_eq a ha]; exact hrep⟩
      simp [Instr.indexAt, asIntOf, run_underlying (arrayOf_eq ht), h0.1, h0.2, run_size hn, Instr.sureAddr]
    · cases h
  | _ => simp [iarrD] at h
theorem idxa_sound {t e : TypeId} {sz len : Nat} {ag : Bool} (ht : arrayOf P t = some (len, e)) (hn : tsz P e = some sz) (hg : tag P e = some ag) {x i r : D} {vx vi : Value} (hx : Rep c x vx) (hi : Rep c i vi) (h : ixa ag sz len x i = some r) :
    ∃ u, (Instr.index t vx vi).run P w = .ok u w ∧ Rep c r u := by
  cases hx with
  | agg cs vs hl h1 hr =>
    cases hi with
    | int k n =>
      simp only [ixa] at h
      split at h
      · rename_i h0
        obtain ⟨u, e1, e2⟩ := part_sound (w := w) hg hn ⟨hl, h1, hr⟩ h
        exact ⟨u, by simp [Instr.index, asIntOf, run_underlying (arrayOf_eq ht), h0.1, h0.2, run_size hn, e1], e2⟩
      · cases h
    | _ => simp [ixa] at h
  | _ => simp [ixa] at h
theorem idxs_sound {t : TypeId} (ht : P.underlying t = some .string) {x i r : D} {vx vi : Value} (hx : Rep c x vx) (hi : Rep c i vi) (h : ixs x i = some r) :
    ∃ u, (Instr.index t vx vi).run P w = .ok u w ∧ Rep c r u := by
  cases hx with
  | str l hl =>
    cases hi with
    | int k n =>
      simp only [ixs] at h
      split at h
      · rename_i h0
        cases hg : l[n.toNat]? with
        | none => rw [hg] at h; cases h
        | some b =>
          rw [hg] at h; injection h with h; subst h
          refine ⟨.int .u8 b.toNat, ?_, Rep.int _ _⟩
          have hlt : n.toNat < l.length := by
            rcases Nat.lt_or_ge n.toNat l.length with h' | h'
            · exact h'
            · rw [List.getElem?_eq_none h'] at hg; cases hg
          have hgb : (⟨l.toArray⟩ : ByteArray)[n.toNat]? = some b := by
            rw [List.getElem?_eq_getElem hlt] at hg
            injection hg with hg
            have hs : n.toNat < (⟨l.toArray⟩ : ByteArray).size := by simpa [ByteArray.size] using hlt
            rw [getElem?_pos (⟨l.toArray⟩ : ByteArray) n.toNat hs]
            congr 1
          simp [Instr.index, asIntOf, run_underlying ht, h0, hgb]
      · cases h
    | _ => simp [ixs] at h
  | _ => simp [ixs] at h
theorem ext_sound {k : Nat} {x r : D} {v : Value} (hx : Rep c x v) (h : extD k x = some r) : ∃ u, (Instr.extract v k).run P w = .ok u w ∧ Rep c r u := by
  cases hx with
  | tup cs vs hl hr =>
    simp only [extD] at h
    have hlt : k < cs.length := by
      rcases Nat.lt_or_ge k cs.length with h' | h'
      · exact h'
      · rw [List.getElem?_eq_none h'] at h; cases h
    rw [List.getElem?_eq_getElem hlt] at h
    injection h with h; subst h
    have hlt' : k < vs.length := by rw [hl]; exact hlt
    exact ⟨vs[k], by simp [Instr.extract, hlt'], hr k hlt hlt'⟩
  | _ => simp [extD] at h
theorem toList_mk (l : List UInt8) : (⟨l.toArray⟩ : ByteArray).toList = l := by rw [ByteArray.toList_eq]
theorem size_mk (l : List UInt8) : (⟨l.toArray⟩ : ByteArray).size = l.length := by simp [ByteArray.size]
theorem append_mk (a b : List UInt8) : (⟨a.toArray⟩ : ByteArray) ++ ⟨b.toArray⟩ = ⟨(a ++ b).toArray⟩ := by
  apply ByteArray.ext
  simp [ByteArray.data_append]
theorem extract_mk (l : List UInt8) (lo hi : Nat) : (⟨l.toArray⟩ : ByteArray).extract lo hi = ⟨(subList l lo hi).toArray⟩ := by
  apply ByteArray.ext
  simp [ByteArray.data_extract, subList, List.extract_toArray, List.extract_eq_take_drop, List.drop_take]
theorem bin_sound {op : BinOp} {t : TypeId} {ox oy : Operand} {x y r : D} {vx vy : Value} (hx : Rep c x vx) (hy : Rep c y vy) (h : bin2 op x y = some r) :
    ∃ u, (do eqGuard op t ox oy vx vy; Go.binOp op t vx vy : Sem Value).run P w = .ok u w ∧ Rep c r u := by
  cases hx with
  | int k a =>
    cases hy with
    | int k' b =>
      have hg : (eqGuard op t ox oy (.int k a) (.int k' b)).run P w = .ok () w := by
        unfold eqGuard; cases op <;> simp
      simp only [bin2] at h
      by_cases hs : isShift op = true
      · rw [if_pos hs] at h
        unfold shOp at h
        split at h
        · cases h
        · rename_i hb
          cases op <;> simp [isShift] at hs <;> simp only [Option.some.injEq] at h <;> subst h <;>
            exact ⟨_, by simp [hg, Go.binOp, Op.shift, hb]; try rfl, Rep.int _ _⟩
      · rw [if_neg hs] at h
        split at h
        · rename_i hk
          subst hk
          cases op <;> simp [isShift] at hs <;> simp only [intOp] at h
          case quo =>
            split at h
            · cases h
            · rename_i hb
              simp only [Option.some.injEq] at h; subst h
              exact ⟨_, by simp only [Sem.run_bind, hg, Result.andThen_ok, Go.binOp, ne_eq, not_true_eq_false, if_false, Op.intDiv, if_neg hb]; rfl, Rep.int _ _⟩
          case rem =>
            split at h
            · cases h
            · rename_i hb
              simp only [Option.some.injEq] at h; subst h
              exact ⟨_, by simp only [Sem.run_bind, hg, Result.andThen_ok, Go.binOp, ne_eq, not_true_eq_false, if_false, Op.intDiv, if_neg hb]; rfl, Rep.int _ _⟩
          all_goals first
            | (simp only [Option.some.injEq] at h; subst h
               exact ⟨_, by simp only [Sem.run_bind, hg, Result.andThen_ok, Go.binOp, ne_eq, not_true_eq_false, if_false, Op.intArith, Op.intBits, Op.intCmp]; rfl, by constructor⟩)
            | cases h
        · cases h
    | _ => simp [bin2] at h
  | str a ha =>
    cases hy with
    | str b hb =>
      have hg : (eqGuard op t ox oy (.string ⟨a.toArray⟩) (.string ⟨b.toArray⟩)).run P w = .ok () w := by
        unfold eqGuard; cases op <;> simp
      simp only [bin2] at h
      cases op <;> simp only [strOp] at h
      case add =>
        split at h
        · rename_i hl
          simp only [Option.some.injEq] at h; subst h
          refine ⟨.string ⟨(a ++ b).toArray⟩, ?_, Rep.str _ (by simpa using hl)⟩
          have : ¬ ((((⟨a.toArray⟩ : ByteArray).size + (⟨b.toArray⟩ : ByteArray).size : Nat) : Int) > IntKind.i64.max) := by
            rw [size_mk, size_mk]
            have e : IntKind.i64.max = 9223372036854775807 := rfl
            rw [e]; omega
          simp only [Sem.run_bind, hg, Result.andThen_ok, Go.binOp, Op.stringOp]
          rw [if_neg this, append_mk]; rfl
        · cases h
      all_goals first
        | (simp only [Option.some.injEq] at h; subst h
           exact ⟨_, by simp only [Sem.run_bind, hg, Result.andThen_ok, Go.binOp, Op.stringOp, toList_mk]; rfl, by constructor⟩)
        | cases h
    | _ => simp [bin2] at h
  | _ => simp [bin2] at h
theorem un_sound {op : UnOp} {x r : D} {v : Value} (hx : Rep c x v) (h : un1 op x = some r) : ∃ u, (Op.unary op v).run P w = .ok u w ∧ Rep c r u := by
  cases hx with
  | bool b => cases op <;> simp [un1] at h; subst h; exact ⟨_, rfl, Rep.bool _⟩
  | int k n =>
    cases op <;> simp only [un1, Option.some.injEq, reduceCtorEq] at h
    · subst h; exact ⟨_, by simp only [Op.unary, Op.intArith, Int.zero_sub]; rfl, Rep.int _ _⟩
    · simp only [intOp, Option.some.injEq] at h; subst h; exact ⟨_, by simp only [Op.unary, Op.intBits]; rfl, Rep.int _ _⟩
  | _ => simp [un1] at h
theorem conv_sound {src dst : TypeId} {k : IntKind} (hs : (P.underlying src).isSome = true) (hd : P.underlying dst = some (.int k)) {n : Int} {k' : IntKind} :
    (Go.convert src dst (.int k' n)).run P w = .ok (.int k (k.wrap n)) w := by
  obtain ⟨d, hd'⟩ := Option.isSome_iff_exists.mp hs
  simp [Go.convert, run_underlying hd', run_underlying hd, Conv.intToInt]
end GP
namespace GP
open Go
variable {P : Program} {c : Cx} {w : World} {H : Hp}
def ckOf (P : Program) (t : TypeId) : Option Ck :=
  match P.underlying t with
  | some (.int _) => some .int
  | some .string => some .str
  | some .bool => some .bool
  | _ => none
theorem eqCell_ck {x y : D} {vx vy : Value} (hx : Rep c x vx) (hy : Rep c y vy) {b : Bool} (h : eqCell x y = some b) {t : TypeId} {k : Ck} (ht : ckOf P t = some k) (hk : ckD x = some k) (d : Nat) :
    (Op.equalIn (d + 1) t vx vy).run P w = .ok b w := by
  unfold ckOf at ht
  split at ht <;> first | cases ht | (injection ht with ht; subst ht)
  · rename_i hu
    cases x <;> simp [ckD] at hk
    cases hx
    cases hy <;> simp [eqCell] at h
    obtain ⟨hkk, rfl⟩ := h
    subst hkk
    exact run_equalIn_int w d t _ _ _ _ hu
  · rename_i hu
    cases x <;> simp [ckD] at hk
    cases hx
    cases hy <;> simp [eqCell] at h
    subst h
    rw [run_equalIn_string w d t _ _ hu, toList_mk, toList_mk]
  · rename_i hu
    cases x <;> simp [ckD] at hk
    cases hx
    cases hy <;> simp [eqCell] at h
    subst h
    exact run_equalIn_bool' w d t _ _ hu
theorem tag_ck {t : TypeId} {k : Ck} (h : ckOf P t = some k) : tag P t = some false := by
  unfold ckOf at h
  unfold tag
  split at h <;> simp_all
def cksF (P : Program) : Nat → List Field → Option (List Ck)
  | _, [] => some []
  | i, f :: fs => if f.name != "_" && f.offset == i then
      match ckOf P f.type, cksF P (i + 1) fs with
      | some k, some ks => some (k :: ks)
      | _, _ => none
    else none
def cks (P : Program) (t : TypeId) : Option (List Ck) :=
  match P.underlying t with
  | some (.struct fs) => if !P.stoodInHeld t && !P.eqGuardType P.depth t then cksF P 0 fs.toList else none
  | some (.array n e) => if !P.eqGuardType P.depth t && (tsz P e == some 1) then (ckOf P e).map (List.replicate n) else none
  | _ => none
theorem fields_sound (d : Nat) (vx vy : List Value) : ∀ (fs : List Field) (ks : List Ck) (i : Nat) (xs ys : List D) (b : Bool), cksF P i fs = some ks → Cells c xs (vx.drop i) → Cells c ys (vy.drop i) → cksD xs ks = true →
    eqCells xs ys = some b → (Op.eqFields (d + 1) vx.toArray vy.toArray fs).run P w = .ok b w
  | [], ks, i, xs, ys, b, h1, hx, hy, hk, h => by
    simp [cksF] at h1; subst h1
    cases xs with
    | nil =>
      cases ys with
      | nil => simp [eqCells] at h; subst h; simp [Op.eqFields]
      | cons y ys => simp [eqCells] at h
    | cons x xs => simp [cksD] at hk
  | f :: fs, ks, i, xs, ys, b, h1, hx, hy, hk, h => by
    simp only [cksF] at h1
    split at h1
    · rename_i hn
      simp at hn
      split at h1
      · rename_i k ks' e1 e2
        injection h1 with h1; subst h1
        cases xs with
        | nil => simp [cksD] at hk
        | cons x xs =>
          cases ys with
          | nil => simp [eqCells] at h
          | cons y ys =>
            simp only [cksD, Bool.and_eq_true, beq_iff_eq] at hk
            simp only [eqCells] at h
            split at h
            · rename_i p q e3 e4
              injection h with h; subst h
              have lx : i < vx.length := by have := hx.len; simp at this; omega
              have ly : i < vy.length := by have := hy.len; simp at this; omega
              have rx : Rep c x vx[i] := by have := hx.rep 0 (by simp) (by rw [hx.len]; simp); simpa using this
              have ry : Rep c y vy[i] := by have := hy.rep 0 (by simp) (by rw [hy.len]; simp); simpa using this
              have hx' : Cells c xs (vx.drop (i + 1)) := by have := hx.drop 1; simpa [List.drop_drop] using this
              have hy' : Cells c ys (vy.drop (i + 1)) := by have := hy.drop 1; simpa [List.drop_drop] using this
              have px : (part f.type vx.toArray f.offset).run P w = .ok vx[i] w := by simp [part, run_isAgg (tag_ck e1), hn.2, lx]
              have py : (part f.type vy.toArray f.offset).run P w = .ok vy[i] w := by simp [part, run_isAgg (tag_ck e1), hn.2, ly]
              have ih := fields_sound d vx vy fs ks' (i + 1) xs ys q e2 hx' hy' hk.2 e4
              simp only [Op.eqFields]
              rw [if_pos hn.1]
              simp only [Sem.run_bind, px, py, Result.andThen_ok, eqCell_ck rx ry e3 e1 hk.1 d]
              cases p
              · simp
              · simpa using ih
            · cases h
      · cases h1
    · cases h1
theorem items_sound (d : Nat) {e : TypeId} {k : Ck} (he : ckOf P e = some k) (hsz : tsz P e = some 1) (vx vy : List Value) : ∀ (m i : Nat) (xs ys : List D) (b : Bool), Cells c xs (vx.drop i) → Cells c ys (vy.drop i) →
    cksD xs (List.replicate m k) = true → eqCells xs ys = some b → (Op.eqItems (d + 1) e 1 vx.toArray vy.toArray (List.range' i m)).run P w = .ok b w
  | 0, i, xs, ys, b, hx, hy, hk, h => by
    cases xs with
    | nil =>
      cases ys with
      | nil => simp [eqCells] at h; subst h; simp [Op.eqItems]
      | cons y ys => simp [eqCells] at h
    | cons x xs => simp [cksD] at hk
  | m + 1, i, xs, ys, b, hx, hy, hk, h => by
    cases xs with
    | nil => simp [cksD, List.replicate_succ] at hk
    | cons x xs =>
      cases ys with
      | nil => simp [eqCells] at h
      | cons y ys =>
        simp only [List.replicate_succ, cksD, Bool.and_eq_true, beq_iff_eq] at hk
        simp only [eqCells] at h
        split at h
        · rename_i p q e3 e4
          injection h with h; subst h
          have lx : i < vx.length := by have := hx.len; simp at this; omega
          have ly : i < vy.length := by have := hy.len; simp at this; omega
          have rx : Rep c x vx[i] := by have := hx.rep 0 (by simp) (by rw [hx.len]; simp); simpa using this
          have ry : Rep c y vy[i] := by have := hy.rep 0 (by simp) (by rw [hy.len]; simp); simpa using this
          have hx' : Cells c xs (vx.drop (i + 1)) := by have := hx.drop 1; simpa [List.drop_drop] using this
          have hy' : Cells c ys (vy.drop (i + 1)) := by have := hy.drop 1; simpa [List.drop_drop] using this
          have px : (part e vx.toArray (i * 1)).run P w = .ok vx[i] w := by simp [part, run_isAgg (tag_ck he), lx]
          have py : (part e vy.toArray (i * 1)).run P w = .ok vy[i] w := by simp [part, run_isAgg (tag_ck he), ly]
          have ih := items_sound d he hsz vx vy m (i + 1) xs ys q hx' hy' hk.2 e4
          simp only [List.range'_succ, Op.eqItems, Sem.run_bind, px, py, Result.andThen_ok, eqCell_ck rx ry e3 he hk.1 d]
          cases p
          · simp
          · simpa using ih
        · cases h
theorem eqa_sound {t : TypeId} {ks : List Ck} (ht : cks P t = some ks) {x y : D} {vx vy : Value} (hx : Rep c x vx) (hy : Rep c y vy) {xs ys : List D} (ex : x = .agg xs) (ey : y = .agg ys) (hk : cksD xs ks = true) {b : Bool}
    (h : eqCells xs ys = some b) (neg : Bool) (ox oy : Operand) :
    (do eqGuard (if neg then .neq else .eql) t ox oy vx vy; Go.binOp (if neg then .neq else .eql) t vx vy : Sem Value).run P w = .ok (.bool (b != neg)) w := by
  subst ex; subst ey
  cases hx with
  | agg _ vx hl h1 hr =>
    cases hy with
    | agg _ vy hl' h1' hr' =>
      have kx : Cells c xs vx := ⟨hl, h1, hr⟩
      have ky : Cells c ys vy := ⟨hl', h1', hr'⟩
      have main : P.eqGuardType P.depth t = false ∧ (Op.equalIn 10000 t (.agg vx.toArray) (.agg vy.toArray)).run P w = .ok b w := by
        unfold cks at ht
        split at ht
        · rename_i fs hu
          split at ht
          · rename_i hg
            simp at hg
            refine ⟨hg.2, ?_⟩
            have hf : P.fieldsOf t = fs := by simp [Program.fieldsOf, hu]
            rw [show (10000 : Nat) = 9999 + 1 from rfl, run_equalIn_struct w 9999 t _ _ (by rw [hf]; exact hu) hg.1, hf]
            exact fields_sound 9998 vx vy fs.toList ks 0 xs ys b ht (by simpa using kx) (by simpa using ky) hk h
          · cases ht
        · rename_i n e hu
          split at ht
          · rename_i hg
            simp at hg
            refine ⟨hg.1, ?_⟩
            cases hc : ckOf P e with
            | none => rw [hc] at ht; cases ht
            | some k =>
              rw [hc] at ht; injection ht with ht; subst ht
              obtain ⟨i, hi⟩ : ∃ i, P.info? e = some i := by
                have := hg.2
                unfold tsz at this
                cases hi : P.info? e with
                | none => rw [hi] at this; cases this
                | some i => exact ⟨i, rfl⟩
              have hcell : P.cellsOf e = 1 := by
                have := hg.2
                unfold tsz at this
                rw [hi] at this; injection this with this
                simp [Program.cellsOf, hi, this]
              rw [show (10000 : Nat) = 9999 + 1 from rfl, run_equalIn_array (P := P) w 9999 vx.toArray vy.toArray hu hi, hcell, List.range_eq_range']
              exact items_sound 9998 hc hg.2 vx vy n 0 xs ys b (by simpa using kx) (by simpa using ky) hk h
          · cases ht
        · cases ht
      obtain ⟨m1, m2⟩ := main
      cases neg
      · have := run_eqGuard_agg (P := P) w .eql t ox oy vx.toArray vy.toArray m1
        simp [this, run_eql_struct, m2]
      · have := run_eqGuard_agg (P := P) w .neq t ox oy vx.toArray vy.toArray m1
        simp [this, run_neq_struct, m2]
end GP
namespace GP
open Go
variable {P : Program} {c : Cx} {w : World} {H : Hp}
def tqOf (P : Program) (t : TypeId) : Option Tq :=
  match P.underlying t with
  | some .bool => some .bool
  | some (.pointer _) => some .ptr
  | some (.slice _) => some .slc
  | some (.interface _) => some .ifc
  | some (.map _ _) => some .mp
  | some (.func _ _ _) => some .fn
  | _ => none
def isConstOp : Operand → Bool
  | .const _ => true
  | _ => false
theorem eq_run {t : TypeId} {vx vy : Value} {b neg : Bool} {ox oy : Operand} (hg : ∀ op, (eqGuard op t ox oy vx vy).run P w = .ok () w) (he : ∀ d, (Op.equalIn (d + 1) t vx vy).run P w = .ok b w)
    (h1 : Go.binOp .eql t vx vy = do pure (.bool (← Op.equal t vx vy))) (h2 : Go.binOp .neq t vx vy = do pure (.bool (!(← Op.equal t vx vy)))) :
    (do eqGuard (if neg then .neq else .eql) t ox oy vx vy; Go.binOp (if neg then .neq else .eql) t vx vy : Sem Value).run P w = .ok (.bool (b != neg)) w := by
  have he' : (Op.equal t vx vy).run P w = .ok b w := he 9999
  cases neg
  · simp only [Bool.false_eq_true, if_false, Sem.run_bind, hg, Result.andThen_ok, h1, he']
    simp
  · simp only [if_true, Sem.run_bind, hg, Result.andThen_ok, h2, he']
    simp
theorem guard_bool (op : BinOp) (t : TypeId) (ox oy : Operand) (a b : Bool) : (eqGuard op t ox oy (.bool a) (.bool b)).run P w = .ok () w := by cases op <;> rfl
theorem guard_ptr (op : BinOp) (t : TypeId) (ox oy : Operand) (a b : Option Addr) : (eqGuard op t ox oy (.pointer a) (.pointer b)).run P w = .ok () w := by cases op <;> rfl
theorem guard_slc (op : BinOp) (t : TypeId) (ox oy : Operand) (a b : Option Addr) (i j k l : Nat) : (eqGuard op t ox oy (.slice a i j) (.slice b k l)).run P w = .ok () w := by cases op <;> rfl
theorem guard_map (op : BinOp) (t : TypeId) (ox oy : Operand) (a b : Option Nat) : (eqGuard op t ox oy (.map a) (.map b)).run P w = .ok () w := by cases op <;> rfl
theorem guard_nf (op : BinOp) (t : TypeId) (ox oy : Operand) : (eqGuard op t ox oy .nilFunc .nilFunc).run P w = .ok () w := by cases op <;> rfl
theorem guard_fn (op : BinOp) (t : TypeId) (ox oy : Operand) (f : Fn) (a b : Array Value) : (eqGuard op t ox oy (.func f a b) .nilFunc).run P w = .ok () w := by cases op <;> rfl
theorem guard_ifc (op : BinOp) (t : TypeId) (ox oy : Operand) (u : TypeId) (a : Value) : (eqGuard op t ox oy (.iface u a) .nilIface).run P w = .ok () w := by cases op <;> rfl
theorem guard_nili (op : BinOp) (t : TypeId) (ox : Operand) (v : Value) : (eqGuard op t ox (.const v) .nilIface .nilIface).run P w = .ok () w := by cases op <;> simp [eqGuard]
theorem eq1_sound {t : TypeId} {q : Tq} (ht : tqOf P t = some q) {x y : D} {vx vy : Value} (hx : Rep c x vx) (hy : Rep c y vy) {b : Bool} (h : eq1D q x y = some b) (neg : Bool) (ox oy : Operand) (hc : q = .ifc → isConstOp oy = true) :
    (do eqGuard (if neg then .neq else .eql) t ox oy vx vy; Go.binOp (if neg then .neq else .eql) t vx vy : Sem Value).run P w = .ok (.bool (b != neg)) w := by
  unfold eq1D at h
  split at h <;> first | cases h | (injection h with h; subst h)
  all_goals
    unfold tqOf at ht
    split at ht <;> first | cases ht | skip
    rename_i hu
    cases hx; cases hy
  · exact eq_run (fun op => guard_bool op _ _ _ _ _) (fun d => by simp only [Op.equalIn, Sem.run_bind, run_underlying hu, Result.andThen_ok]; rfl) rfl rfl
  · exact eq_run (fun op => guard_ptr op _ _ _ _ _) (fun d => by simp only [Op.equalIn, Sem.run_bind, run_underlying hu, Result.andThen_ok]; rfl) rfl rfl
  · have hc' := hc rfl
    cases oy <;> simp [isConstOp] at hc'
    exact eq_run (fun op => guard_nili op _ _ _) (fun d => by simp only [Op.equalIn, Sem.run_bind, run_underlying hu, Result.andThen_ok]; rfl) rfl rfl
  · exact eq_run (fun op => guard_slc op _ _ _ _ _ _ _ _ _) (fun d => by simp only [Op.equalIn, Sem.run_bind, run_underlying hu, Result.andThen_ok]; rfl) rfl rfl
  · exact eq_run (fun op => guard_map op _ _ _ _ _) (fun d => by simp only [Op.equalIn, Sem.run_bind, run_underlying hu, Result.andThen_ok]; rfl) rfl rfl
  · exact eq_run (fun op => guard_nf op _ _ _) (fun d => by simp only [Op.equalIn, Sem.run_bind, run_underlying hu, Result.andThen_ok]; rfl) rfl rfl
  · exact eq_run (fun op => guard_ptr op _ _ _ _ _) (fun d => by simp only [Op.equalIn, Sem.run_bind, run_underlying hu, Result.andThen_ok]; rfl) rfl rfl
  · exact eq_run (fun op => guard_ptr op _ _ _ _ _) (fun d => by simp only [Op.equalIn, Sem.run_bind, run_underlying hu, Result.andThen_ok]; rfl) rfl rfl
  · exact eq_run (fun op => guard_ifc op _ _ _ _ _) (fun d => by simp only [Op.equalIn, Sem.run_bind, run_underlying hu, Result.andThen_ok]; rfl) rfl rfl
  · exact eq_run (fun op => guard_map op _ _ _ _ _) (fun d => by simp only [Op.equalIn, Sem.run_bind, run_underlying hu, Result.andThen_ok]; rfl) rfl rfl
  · exact eq_run (fun op => guard_fn op _ _ _ _ _ _) (fun d => by simp only [Op.equalIn, Sem.run_bind, run_underlying hu, Result.andThen_ok]; rfl) rfl rfl
  · rename_i h1 ha _ hM hr ht'
    obtain ⟨b', rfl⟩ := ha (List.cons_ne_nil _ _)
    exact eq_run (fun op => guard_slc op _ _ _ _ _ _ _ _ _) (fun d => by simp only [Op.equalIn, Sem.run_bind, run_underlying hu, Result.andThen_ok]; rfl) rfl rfl
  · exact eq_run (fun op => guard_slc op _ _ _ _ _ _ _ _ _) (fun d => by simp only [Op.equalIn, Sem.run_bind, run_underlying hu, Result.andThen_ok]; rfl) rfl rfl
theorem isn_run {t : TypeId} (ht : tqOf P t = some .slc) {u : Option Addr} {i j : Nat} {b : Bool} (hb : u.isNone = b) (neg : Bool) (ox oy : Operand) :
    (do eqGuard (if neg then .neq else .eql) t ox oy (.slice u i j) (.slice none 0 0); Go.binOp (if neg then .neq else .eql) t (.slice u i j) (.slice none 0 0) : Sem Value).run P w = .ok (.bool (b != neg)) w := by
  unfold tqOf at ht
  split at ht <;> first | cases ht | skip
  rename_i hu
  cases u with
  | none => subst hb; exact eq_run (fun op => guard_slc op _ _ _ _ _ _ _ _ _) (fun d => by simp only [Op.equalIn, Sem.run_bind, run_underlying hu, Result.andThen_ok]; rfl) rfl rfl
  | some u => subst hb; exact eq_run (fun op => guard_slc op _ _ _ _ _ _ _ _ _) (fun d => by simp only [Op.equalIn, Sem.run_bind, run_underlying hu, Result.andThen_ok]; rfl) rfl rfl
theorem len_sound {t e : TypeId} (ht : sliceOf P t = some e) {x : D} {v : Value} {n : Nat} (hx : Rep c x v) (h : lenD x = some n) (ty : TypeId) : (Builtin.len_ #[t] ty #[v]).run P w = .ok (.int .i64 n) w := by
  have ht := sliceOf_eq ht
  cases hx with
  | nils => simp [lenD] at h; subst h; simp [Builtin.len_, run_underlying ht, goInt]
  | sl => simp [lenD] at h; subst h; simp [Builtin.len_, run_underlying ht, goInt]
  | ms => simp [lenD] at h; subst h; simp [Builtin.len_, run_underlying ht, goInt]
  | e0 => simp [lenD] at h; subst h; simp [Builtin.len_, run_underlying ht, goInt]
  | _ => simp [lenD] at h
theorem cap_sound {t e : TypeId} (ht : sliceOf P t = some e) {x : D} {v : Value} {n : Nat} (hx : Rep c x v) (h : capD x = some n) (ty : TypeId) : (Builtin.cap_ #[t] ty #[v]).run P w = .ok (.int .i64 n) w := by
  have ht := sliceOf_eq ht
  cases hx with
  | nils => simp [capD] at h; subst h; simp [Builtin.cap_, run_underlying ht, goInt]
  | e0 => simp [capD] at h; subst h; simp [Builtin.cap_, run_underlying ht, goInt]
  | ms _ _ _ _ _ _ rc hbd q1 q2 q3 => simp [capD] at h; subst h; subst q2; simp [Builtin.cap_, run_underlying ht, goInt]
  | _ => simp [capD] at h
theorem lens_sound {t : TypeId} (ht : P.underlying t = some .string) {x : D} {v : Value} {n : Nat} (hx : Rep c x v) (h : strLen x = some n) (ty : TypeId) : (Builtin.len_ #[t] ty #[v]).run P w = .ok (.int .i64 n) w := by
  cases hx with
  | str l => simp [strLen] at h; subst h; simp only [Builtin.len_]; simp [run_underlying ht, goInt, size_mk]
  | _ => simp [strLen] at h
theorem mn_sound {ats : Array TypeId} {ty : TypeId} {x y r : D} {vx vy : Value} (hx : Rep c x vx) (hy : Rep c y vy) (h : mn2 x y = some r) : ∃ u, (Builtin.min_ ats ty #[vx, vy]).run P w = .ok u w ∧ Rep c r u := by
  unfold mn2 at h
  split at h <;> first | cases h | (injection h with h; subst h)
  cases hx; cases hy
  exact ⟨_, by simp [Builtin.min_, Builtin.min2, List.foldlM]; try rfl, Rep.int _ _⟩
theorem mx_sound {ats : Array TypeId} {ty : TypeId} {x y r : D} {vx vy : Value} (hx : Rep c x vx) (hy : Rep c y vy) (h : mx2 x y = some r) : ∃ u, (Builtin.max_ ats ty #[vx, vy]).run P w = .ok u w ∧ Rep c r u := by
  unfold mx2 at h
  split at h <;> first | cases h | (injection h with h; subst h)
  cases hx; cases hy
  exact ⟨_, by simp [Builtin.max_, Builtin.max2, List.foldlM]; try rfl, Rep.int _ _⟩
theorem bound_sound {vi : Value} {i : Int} {k : IntKind} (hv : vi = .int k i) {y : Nat} (h0 : 0 ≤ i) (h1 : i ≤ y) (code : BoundsCode) : (Instr.sliceBound vi y code).run P w = .ok i.toNat w := by
  subst hv
  simp [Instr.sliceBound, asIntOf, h0, h1]
theorem optN_sound {s : S} {a : Act} (hf : FR c s.t a) {dflt : Nat} {o : Option Rd} {oo : Option Operand} (ho : o = none ∧ oo = none ∨ ∃ r x, o = some r ∧ oo = some x ∧ cRd x = some r) {i : Int} (h : optN s dflt o = some i) :
    (o = none ∧ oo = none ∧ i = dflt) ∨ ∃ x k, oo = some x ∧ a.eval x = .int k i ∧ o ≠ none := by
  rcases ho with ⟨rfl, rfl⟩ | ⟨r, x, rfl, rfl, hx⟩
  · simp [optN] at h; exact .inl ⟨rfl, rfl, h.symm⟩
  · have hr := cRd_rep hx hf
    simp only [optN] at h
    split at h
    · rename_i k n he
      injection h with h; subst h
      rw [he] at hr
      refine .inr ⟨x, k, rfl, ?_, by simp⟩
      generalize a.eval x = v at hr
      cases hr
      rfl
    · cases h
theorem bounds_sound {s : S} {a : Act} (hf : FR c s.t a) {isSlice : Bool} {len cap : Nat} {lo hi : Option Rd} {olo ohi : Option Operand}
    (hlo : lo = none ∧ olo = none ∨ ∃ r x, lo = some r ∧ olo = some x ∧ cRd x = some r) (hhi : hi = none ∧ ohi = none ∨ ∃ r x, hi = some r ∧ ohi = some x ∧ cRd x = some r)
    {l h : Int} (el : optN s 0 lo = some l) (eh : optN s len hi = some h) (h0 : 0 ≤ l) (h1 : l ≤ h) (h2 : h ≤ cap) (hc : len ≤ cap) :
    (Instr.sliceBounds isSlice len cap (olo.map a.eval) (ohi.map a.eval) none).run P w = .ok (l.toNat, h.toNat, cap) w := by
  rcases optN_sound hf hlo el with ⟨-, rfl, rfl⟩ | ⟨x, k, rfl, ex, -⟩ <;> rcases optN_sound hf hhi eh with ⟨-, rfl, rfl⟩ | ⟨y, k', rfl, ey, -⟩
  · simp [Instr.sliceBounds]
  · simp [Instr.sliceBounds, bound_sound (P := P) (w := w) ey (by omega) (show h ≤ (cap : Int) by omega)]
  · have hb := bound_sound (P := P) (w := w) (y := len) ex h0 (by omega) .sliceB
    simp [Instr.sliceBounds, hb]
  · have hb2 : (if isSlice = true then BoundsCode.sliceAcap else .sliceAlen) = (if isSlice = true then BoundsCode.sliceAcap else .sliceAlen) := rfl
    have hb := bound_sound (P := P) (w := w) (y := h.toNat) ex h0 (by omega) .sliceB
    simp [Instr.sliceBounds, bound_sound (P := P) (w := w) ey (by omega) (show h ≤ (cap : Int) by omega), hb]
theorem bounds3_sound {s : S} {a : Act} (hf : FR c s.t a) {len cap : Nat} {lo hi mx : Option Rd} {olo ohi omx : Option Operand}
    (hlo : lo = none ∧ olo = none ∨ ∃ r x, lo = some r ∧ olo = some x ∧ cRd x = some r) (hhi : ∃ r x, hi = some r ∧ ohi = some x ∧ cRd x = some r) (hmx : ∃ r x, mx = some r ∧ omx = some x ∧ cRd x = some r)
    {l h m : Int} (el : optN s 0 lo = some l) (eh : optN s len hi = some h) (em : optN s len mx = some m) (h0 : 0 ≤ l) (h1 : l ≤ h) (h2 : h ≤ m) (hc : m ≤ cap) :
    (Instr.sliceBounds true len cap (olo.map a.eval) (ohi.map a.eval) (omx.map a.eval)).run P w = .ok (l.toNat, h.toNat, m.toNat) w := by
  obtain ⟨rh, xh, rfl, rfl, hxh⟩ := hhi
  obtain ⟨rm, xm, rfl, rfl, hxm⟩ := hmx
  rcases optN_sound hf (.inr ⟨rh, xh, rfl, rfl, hxh⟩) eh with ⟨e, _⟩ | ⟨y, k', ey, ey', -⟩
  · cases e
  rcases optN_sound hf (.inr ⟨rm, xm, rfl, rfl, hxm⟩) em with ⟨e, _⟩ | ⟨z, k'', ez, ez', -⟩
  · cases e
  injection ey with ey; subst ey
  injection ez with ez; subst ez
  have b1 := bound_sound (P := P) (w := w) (y := cap) ez' (by omega) hc .slice3Acap
  have b2 := bound_sound (P := P) (w := w) (y := m.toNat) ey' (by omega) (by omega) .slice3B
  rcases optN_sound hf hlo el with ⟨-, rfl, rfl⟩ | ⟨x, k, rfl, ex, -⟩
  · simp [Instr.sliceBounds, b1, b2]
  · have b3 := bound_sound (P := P) (w := w) (y := h.toNat) ex h0 (by omega) .slice3C
    simp [Instr.sliceBounds, b1, b2, b3]
theorem subs_sound {t : TypeId} (ht : P.underlying t = some .string) {s : S} {a : Act} (hf : FR c s.t a) {lo hi : Option Rd} {olo ohi : Option Operand}
    (hlo : lo = none ∧ olo = none ∨ ∃ r x, lo = some r ∧ olo = some x ∧ cRd x = some r) (hhi : hi = none ∧ ohi = none ∨ ∃ r x, hi = some r ∧ ohi = some x ∧ cRd x = some r)
    {x r : D} {v : Value} {n : Nat} (hx : Rep c x v) (hn : strLen x = some n) (h : sub (optN s 0 lo) (optN s n hi) x = some r) :
    ∃ u, (Instr.sliceAt t v (olo.map a.eval) (ohi.map a.eval) none).run P w = .ok u w ∧ Rep c r u := by
  cases hx with
  | str l hl =>
    simp [strLen] at hn; subst hn
    simp only [sub] at h
    split at h
    · rename_i lo' hi' e1 e2
      split at h
      · rename_i hc
        injection h with h; subst h
        have hb := bounds_sound (P := P) (w := w) hf (isSlice := false) (cap := l.length) hlo hhi e1 e2 hc.1 hc.2.1 hc.2.2 (Nat.le_refl _)
        refine ⟨.string ⟨(subList l lo'.toNat hi'.toNat).toArray⟩, ?_, Rep.str _ (by unfold subList; simp; omega)⟩
        simp [Instr.sliceAt, run_underlying ht, Instr.slice, size_mk, hb, extract_mk]
      · cases h
    · cases h
  | _ => simp [strLen] at hn
theorem sls_sound {t e : TypeId} {sz : Nat} (ht : sliceOf P t = some e) (hsz : tsz P e = some sz) {s : S} {a : Act} (hf : FR c s.t a) {lo hi : Option Rd} {olo ohi : Option Operand}
    (hlo : lo = none ∧ olo = none ∨ ∃ r x, lo = some r ∧ olo = some x ∧ cRd x = some r) (hhi : hi = none ∧ ohi = none ∨ ∃ r x, hi = some r ∧ ohi = some x ∧ cRd x = some r)
    {x r : D} {v : Value} {n : Nat} (hx : Rep c x v) (hn : lenD x = some n) (h : slc sz (optN s 0 lo) (optN s n hi) x = some r) :
    ∃ u, (Instr.sliceAt t v (olo.map a.eval) (ohi.map a.eval) none).run P w = .ok u w ∧ Rep c r u := by
  have ht := sliceOf_eq ht
  cases hx with
  | nils =>
    simp [lenD] at hn; subst hn
    simp only [slc] at h
    split at h
    · rename_i lo' hi' e1 e2
      split at h
      · rename_i hc
        obtain ⟨rfl, rfl⟩ := hc
        injection h with h; subst h
        have hb := bounds_sound (P := P) (w := w) hf (isSlice := true) (cap := 0) hlo hhi e1 e2 (by omega) (by omega) (by omega) (Nat.le_refl _)
        exact ⟨.slice none 0 0, by simp [Instr.sliceAt, run_underlying ht, Instr.slice, hb, run_size hsz], Rep.nils⟩
      · cases h
    · cases h
  | sl τ xs b cap sz' vs hlen hb hszs h1 ha hs hM hr htl ht' =>
    simp [lenD] at hn; subst hn
    simp only [slc] at h
    split at h
    · rename_i lo' hi' e1 e2
      split at h
      · rename_i hc
        obtain ⟨c0, c1, c2, c3⟩ := hc
        injection h with h; subst h
        have hbs := bounds_sound (P := P) (w := w) hf (isSlice := true) (cap := cap) hlo hhi e1 e2 c0 c1 (by omega) hlen
        have hlen' : (subList xs lo'.toNat hi'.toNat).length = hi'.toNat - lo'.toNat := by unfold subList; simp; omega
        refine ⟨.slice (if cap = lo'.toNat then b else b.map (·.add (lo'.toNat * sz))) (hi'.toNat - lo'.toNat) (cap - lo'.toNat), ?_, ?_⟩
        · simp [Instr.sliceAt, run_underlying ht, Instr.slice, hbs, run_size hsz]
        · by_cases hw : lo' = 0 ∧ hi' = xs.length
          · obtain ⟨rfl, rfl⟩ := hw
            have e : subList xs (0 : Int).toNat (xs.length : Int).toNat = xs := by simp [subList]
            have e3 : (if cap = (0 : Int).toNat then b else b.map (·.add ((0 : Int).toNat * sz))) = b := by
              split
              · rfl
              · cases b <;> simp [Addr.add]
            rw [e, e3]
            simpa using Rep.sl τ xs b cap sz' vs hlen hb hszs h1 ha hs hM hr htl ht'
          · rw [if_neg hw]
            rw [← hlen']
            have hget : ∀ i (hi : i < (subList xs lo'.toNat hi'.toNat).length), (subList xs lo'.toNat hi'.toNat)[i] = xs[lo'.toNat + i]'(by rw [hlen'] at hi; omega) := by
              intro i hi
              simp [subList]
            have hmem : ∀ x ∈ subList xs lo'.toNat hi'.toNat, x ∈ xs := fun x hx => List.mem_of_mem_take (List.mem_of_mem_drop hx)
            refine Rep.sl none _ _ _ sz' (fun i j => vs (lo'.toNat + i) j) (by rw [hlen']; omega) (by rw [hlen']; omega) (fun x hx => hszs x (hmem x hx)) (fun x hx => h1 x (hmem x hx)) ?_ ?_ ?_ ?_ (fun τ h => by cases h) (fun τ h => by cases h)
            · intro hne
              have hxs : xs ≠ [] := by intro e; subst e; exact hne (by simp [subList])
              obtain ⟨b', rfl⟩ := ha hxs
              split
              · exact ⟨_, rfl⟩
              · exact ⟨_, rfl⟩
            · intro hne b' hb'
              have hxs : xs ≠ [] := by intro e; subst e; exact hne (by simp [subList])
              split at hb'
              · exact hs hxs b' hb'
              · cases b with
                | none => cases hb'
                | some b0 =>
                  simp only [Option.map_some, Option.some.injEq] at hb'
                  rw [Addr.add_eq b0 (hs hxs b0 rfl)] at hb'
                  subst hb'; rfl
            · intro i hi j hj b' hb'
              rw [hlen'] at hi
              have hcap : ¬ cap = lo'.toNat := by omega
              have hxs' : xs ≠ [] := fun e => by
                have : xs.length = 0 := by rw [e]; rfl
                omega
              rw [if_neg hcap] at hb'
              cases b with
              | none => cases hb'
              | some b0 =>
                simp only [Option.map_some, Option.some.injEq] at hb'
                rw [Addr.add_eq b0 (hs hxs' b0 rfl)] at hb'
                subst hb'
                have hsz2 : sz' = sz := by
                  have hm : xs[lo'.toNat + i]'(by omega) ∈ xs := List.getElem_mem _
                  have := List.all_eq_true.1 c3 _ hm
                  rw [hszs _ hm] at this
                  simpa using this
                have := hM (lo'.toNat + i) (by omega) j hj b0 rfl
                rw [hsz2] at this
                simp only
                rw [← this]
                congr 2
                rw [hsz2, Nat.add_mul]; omega
            · intro i hi j hj
              have := hr (lo'.toNat + i) (by rw [hlen'] at hi; omega) j (by rw [hget i hi] at hj; exact hj)
              simp only [hget i hi]
              exact this
      · cases h
    · cases h
  | e0 a =>
    simp [lenD] at hn; subst hn
    simp only [slc] at h
    split at h
    · rename_i lo' hi' e1 e2
      split at h
      · rename_i hc
        obtain ⟨rfl, rfl⟩ := hc
        injection h with h; subst h
        have hb := bounds_sound (P := P) (w := w) hf (isSlice := true) (cap := 0) hlo hhi e1 e2 (by omega) (by omega) (by omega) (Nat.le_refl _)
        exact ⟨.slice a 0 0, by simp [Instr.sliceAt, run_underlying ht, Instr.slice, hb, run_size hsz], Rep.e0 a⟩
      · cases h
    · cases h
  | ms ag z o off len cap rc hbd h1 h2 h3 =>
    simp [lenD] at hn; subst hn
    simp only [slc] at h
    split at h
    · rename_i lo' hi' e1 e2
      split at h
      · rename_i hc
        obtain ⟨c0, c1, c2, c3, rfl⟩ := hc
        injection h with h; subst h
        have hb := bounds_sound (P := P) (w := w) hf (isSlice := true) (cap := rc) hlo hhi e1 e2 c0 c1 (by omega) (by omega)
        have hne : ¬ rc = lo'.toNat := by omega
        have hadd : Addr.add ⟨c.β o, off, none⟩ (lo'.toNat * z) = ⟨c.β o, off + lo'.toNat * z, none⟩ := Addr.add_eq _ rfl _
        refine ⟨.slice (some ⟨c.β o, off + lo'.toNat * z, none⟩) (hi'.toNat - lo'.toNat) (rc - lo'.toNat), ?_, ?_⟩
        · simp [Instr.sliceAt, run_underlying ht, Instr.slice, hb, run_size hsz, hne, hadd]
        · have e3 : (hi' - lo').toNat = hi'.toNat - lo'.toNat := by omega
          rw [e3]
          refine Rep.ms ag z o _ _ _ _ hbd (by omega) (by omega) ?_
          have : lo'.toNat * z + (rc - lo'.toNat) * z = rc * z := by rw [← Nat.add_mul]; congr 1; omega
          omega
      · split at h
        · rename_i hc
          obtain ⟨c0, c1, c2, rfl⟩ := hc
          injection h with h; subst h
          have hb := bounds_sound (P := P) (w := w) hf (isSlice := true) (cap := rc) hlo hhi e1 e2 c0 c1 (by omega) (by omega)
          refine ⟨.slice (if rc = hi'.toNat then some ⟨c.β o, off, none⟩ else some (Addr.add ⟨c.β o, off, none⟩ (hi'.toNat * sz))) 0 (rc - hi'.toNat), ?_, ?_⟩
          · simp [Instr.sliceAt, run_underlying ht, Instr.slice, hb, run_size hsz]
          · exact Rep.sl none [] _ _ 0 (fun _ _ => undef) (by simp) (by simp) (by simp) (by simp) (by simp) (by simp) (by simp) (by simp) (by simp) (by simp)
        · split at h
          · rename_i hc
            obtain ⟨c0, c1, c2, c3, rfl⟩ := hc
            injection h with h; subst h
            have hb := bounds_sound (P := P) (w := w) hf (isSlice := true) (cap := rc) hlo hhi e1 e2 c0 c1 (by omega) (by omega)
            have hne : ¬ rc = lo'.toNat := by omega
            have hadd : Addr.add ⟨c.β o, off, none⟩ (lo'.toNat * z) = ⟨c.β o, off + lo'.toNat * z, none⟩ := Addr.add_eq _ rfl _
            refine ⟨.slice (some ⟨c.β o, off + lo'.toNat * z, none⟩) (hi'.toNat - lo'.toNat) (rc - lo'.toNat), ?_, ?_⟩
            · simp [Instr.sliceAt, run_underlying ht, Instr.slice, hb, run_size hsz, hne, hadd]
            · have e3 : (hi' - lo').toNat = hi'.toNat - lo'.toNat := by omega
              rw [e3]
              refine Rep.ms ag z o _ _ _ _ hbd (by omega) (by omega) ?_
              have : lo'.toNat * z + (rc - lo'.toNat) * z = rc * z := by rw [← Nat.add_mul]; congr 1; omega
              omega
          · cases h
    · cases h
  | _ => simp [lenD] at hn
theorem sls3_sound {t e : TypeId} {sz : Nat} (ht : sliceOf P t = some e) (hsz : tsz P e = some sz) {s : S} {a : Act} (hf : FR c s.t a) {lo hi mx : Option Rd} {olo ohi omx : Option Operand}
    (hlo : lo = none ∧ olo = none ∨ ∃ r x, lo = some r ∧ olo = some x ∧ cRd x = some r) (hhi : ∃ r x, hi = some r ∧ ohi = some x ∧ cRd x = some r) (hmx : ∃ r x, mx = some r ∧ omx = some x ∧ cRd x = some r)
    {x r : D} {v : Value} {n : Nat} (hx : Rep c x v) (hn : lenD x = some n) (h : slc3 sz (optN s 0 lo) (optN s n hi) (optN s n mx) x = some r) :
    ∃ u, (Instr.sliceAt t v (olo.map a.eval) (ohi.map a.eval) (omx.map a.eval)).run P w = .ok u w ∧ Rep c r u := by
  have ht := sliceOf_eq ht
  cases hx with
  | nils =>
    simp [lenD] at hn; subst hn
    simp only [slc3] at h
    split at h
    · rename_i lo' hi' mx' e1 e2 e3
      split at h
      · rename_i hc
        obtain ⟨rfl, rfl, rfl⟩ := hc
        injection h with h; subst h
        have hb := bounds3_sound (P := P) (w := w) hf (cap := 0) hlo hhi hmx e1 e2 e3 (by omega) (by omega) (by omega) (by omega)
        exact ⟨.slice none 0 0, by simp [Instr.sliceAt, run_underlying ht, Instr.slice, hb, run_size hsz], Rep.nils⟩
      · cases h
    · cases h
  | e0 b =>
    simp [lenD] at hn; subst hn
    simp only [slc3] at h
    split at h
    · rename_i lo' hi' mx' e1 e2 e3
      split at h
      · rename_i hc
        obtain ⟨rfl, rfl, rfl⟩ := hc
        injection h with h; subst h
        have hb := bounds3_sound (P := P) (w := w) hf (cap := 0) hlo hhi hmx e1 e2 e3 (by omega) (by omega) (by omega) (by omega)
        exact ⟨.slice b 0 0, by simp [Instr.sliceAt, run_underlying ht, Instr.slice, hb, run_size hsz], Rep.e0 b⟩
      · cases h
    · cases h
  | sl τ xs b cap sz' vs hlen hb' hszs h1 ha hs hM hr htl ht' =>
    simp [lenD] at hn; subst hn
    simp only [slc3] at h
    split at h
    · rename_i lo' hi' mx' e1 e2 e3
      split at h
      · rename_i hc
        obtain ⟨c0, rfl, rfl, c3⟩ := hc
        injection h with h; subst h
        have hb := bounds3_sound (P := P) (w := w) hf (cap := cap) hlo hhi hmx e1 e2 e3 c0 (by omega) (by omega) (by omega)
        exact ⟨.slice b 0 0, by simp [Instr.sliceAt, run_underlying ht, Instr.slice, hb, run_size hsz], Rep.e0 b⟩
      · cases h
    · cases h
  | ms ag z o off len cap rc hbd h1 h2 h3 =>
    simp [lenD] at hn; subst hn
    simp only [slc3] at h
    split at h
    · rename_i lo' hi' mx' e1 e2 e3
      split at h
      · rename_i hc
        obtain ⟨c0, rfl, rfl, c3⟩ := hc
        injection h with h; subst h
        have hb := bounds3_sound (P := P) (w := w) hf (cap := rc) hlo hhi hmx e1 e2 e3 c0 (by omega) (by omega) (by omega)
        exact ⟨.slice (some ⟨c.β o, off, none⟩) 0 0, by simp [Instr.sliceAt, run_underlying ht, Instr.slice, hb, run_size hsz], Rep.e0 _⟩
      · split at h
        · rename_i hc
          obtain ⟨c0, c1, c2, c3, c4, rfl⟩ := hc
          injection h with h; subst h
          have hb := bounds3_sound (P := P) (w := w) hf (cap := rc) hlo hhi hmx e1 e2 e3 c0 c1 c2 (by omega)
          have hne : ¬ mx'.toNat = lo'.toNat := by omega
          have hadd : Addr.add ⟨c.β o, off, none⟩ (lo'.toNat * z) = ⟨c.β o, off + lo'.toNat * z, none⟩ := Addr.add_eq _ rfl _
          refine ⟨.slice (some ⟨c.β o, off + lo'.toNat * z, none⟩) (hi'.toNat - lo'.toNat) (mx'.toNat - lo'.toNat), ?_, ?_⟩
          · simp [Instr.sliceAt, run_underlying ht, Instr.slice, hb, run_size hsz, hne, hadd]
          · have q1 : (hi' - lo').toNat = hi'.toNat - lo'.toNat := by omega
            have q2 : (mx' - lo').toNat = mx'.toNat - lo'.toNat := by omega
            rw [q1, q2]
            refine Rep.ms ag z o _ _ _ _ hbd (by omega) (by omega) ?_
            have q3 : lo'.toNat * z + (mx'.toNat - lo'.toNat) * z = mx'.toNat * z := by rw [← Nat.add_mul]; congr 1; omega
            have q4 : mx'.toNat * z ≤ rc * z := Nat.mul_le_mul_right _ (by omega)
            omega
        · cases h
    · cases h
  | _ => simp [lenD] at hn
end GP
