/- THE PURE READING OF A GO FUNCTION, 1: pure values, what it means that a value reads as one, pure states, and what one operation does to them. Nothing of a program stands here. -/
import Derived.WalkKit
import Derived.Laws.StructEq
set_option linter.unusedVariables false
set_option linter.unusedSimpArgs false
namespace PG
open Go Go.RowKit

/-- Pure values: a slice is the list of its cells, a pointer to what is never written again is the list of the cells from there on. -/
inductive PV where
  | int (k : IntKind) (n : Int)
  | bool (b : Bool)
  | str (s : ByteArray)
  | agg (cs : List PV)
  | tuple (vs : List PV)
  | lst (n : Nat) (cs : List PV)
  | nn (n : Nat) (cs : List PV)
  | ref (cs : List PV)
  | clo (f : FuncId) (caps : List PV)
  deriving Inhabited

def PV.cells : PV → Option (List PV)
  | .agg cs => some cs
  | .tuple _ => none
  | v => some [v]

/-- A value reads as a pure value, through the cells that 'g' lets see. -/
inductive Rep (g : Addr → Option Value) : PV → Value → Prop where
  | int (k : IntKind) (n : Int) : Rep g (.int k n) (.int k n)
  | bool (b : Bool) : Rep g (.bool b) (.bool b)
  | str (s : ByteArray) : Rep g (.str s) (.string s)
  | agg (cs : List PV) (xs : Array Value) (hl : xs.size = cs.length) (h1 : ∀ (j : Nat) x, xs[j]? = some x → x.oneCell' = true)
      (h : ∀ (j : Nat) c x, cs[j]? = some c → xs[j]? = some x → Rep g c x) : Rep g (.agg cs) (.agg xs)
  | tuple (vs : List PV) (xs : Array Value) (hl : xs.size = vs.length)
      (h : ∀ (j : Nat) c x, vs[j]? = some c → xs[j]? = some x → Rep g c x) : Rep g (.tuple vs) (.tuple xs)
  | nil : Rep g (.lst 0 []) (.slice none 0 0)
  | lst (a : Addr) (n cap : Nat) (cs : List PV) (xs : List Value) (hn : n ≤ cap) (hc : cap ≤ maxLen) (hl : xs.length = cs.length)
      (h1 : ∀ (j : Nat) x, xs[j]? = some x → x.oneCell' = true) (hm : ∀ (j : Nat) x, xs[j]? = some x → g (a.add j) = some x)
      (h : ∀ (j : Nat) c x, cs[j]? = some c → xs[j]? = some x → Rep g c x) : Rep g (.lst n cs) (.slice (some a) n cap)
  | ref (a : Addr) (cs : List PV) (xs : List Value) (hl : xs.length = cs.length)
      (h1 : ∀ (j : Nat) x, xs[j]? = some x → x.oneCell' = true) (hm : ∀ (j : Nat) x, xs[j]? = some x → g (a.add j) = some x)
      (h : ∀ (j : Nat) c x, cs[j]? = some c → xs[j]? = some x → Rep g c x) : Rep g (.ref cs) (.pointer (some a))
  | nn (a : Addr) (n cap : Nat) (cs : List PV) (h : Rep g (.lst n cs) (.slice (some a) n cap)) : Rep g (.nn n cs) (.slice (some a) n cap)
  | clo (f : FuncId) (caps : List PV) (xs : Array Value) (hl : xs.size = caps.length)
      (h : ∀ (j : Nat) c x, caps[j]? = some c → xs[j]? = some x → Rep g c x) : Rep g (.clo f caps) (.func (.func f) #[] xs)

theorem Rep.mono {g g' : Addr → Option Value} (hg : ∀ a x, g a = some x → g' a = some x) {p : PV} {v : Value} (h : Rep g p v) : Rep g' p v := by
  induction h with
  | int k n => exact .int k n
  | bool b => exact .bool b
  | str s => exact .str s
  | agg cs xs hl h1 _ ih => exact .agg cs xs hl h1 ih
  | tuple vs xs hl _ ih => exact .tuple vs xs hl ih
  | nil => exact .nil
  | lst a n cap cs xs hn hc hl h1 hm _ ih => exact .lst a n cap cs xs hn hc hl h1 (fun j x hx => hg _ _ (hm j x hx)) ih
  | ref a cs xs hl h1 hm _ ih => exact .ref a cs xs hl h1 (fun j x hx => hg _ _ (hm j x hx)) ih
  | nn a n cap cs _ ih => exact .nn a n cap cs ih
  | clo f caps xs hl _ ih => exact .clo f caps xs hl ih

/-- The cells of a world that are protected. -/
noncomputable def rd (w : World) (Pr : Nat → Nat → Prop) : Addr → Option Value := fun a => open Classical in if Pr a.block a.off then w.cell? a else none

theorem rd_some {w : World} {Pr : Nat → Nat → Prop} {a : Addr} {x : Value} : rd w Pr a = some x ↔ Pr a.block a.off ∧ w.cell? a = some x := by
  unfold rd
  by_cases h : Pr a.block a.off <;> simp [h]

theorem rd_le {w w' : World} {Pr Pr' : Nat → Nat → Prop} (h : ∀ a x, Pr a.block a.off → w.cell? a = some x → Pr' a.block a.off ∧ w'.cell? a = some x) :
    ∀ a x, rd w Pr a = some x → rd w' Pr' a = some x := fun a x hx => by
  rw [rd_some] at hx ⊢
  exact h a x hx.1 hx.2

/-- The program; what the listed package-level variables hold; which functions may write what they are handed. -/
structure PE where
  P : Program
  G : Nat → Option (List PV)
  mu : Nat → Bool

/-! ### States -/
/-- What a slot holds: a pure value; the literal nil slice; a slice that is this call's own row number k; some of its elements as a slice; a pointer into this call's own block number k; nothing that is known. -/
inductive SV where
  | val (v : PV)
  | nil
  | row (k : Nat)
  | ptr (k off : Nat)
  | sub (k off n : Nat)
  | junk
  deriving Inhabited

/-- A block of the call's own: a variable; a row (of n elements of type e, sz cells each). -/
inductive Bk where
  | box (cs : List PV)
  | row (e : TypeId) (sz n : Nat) (cs : List PV)
  deriving Inhabited

def Bk.cells : Bk → List PV
  | .box cs => cs
  | .row _ _ _ cs => cs

def Bk.with (b : Bk) (cs : List PV) : Bk :=
  match b with
  | .box _ => .box cs
  | .row e s n _ => .row e s n cs

/-- The pure state: slots, and blocks of the call's own (true: it may be read by others: never written again). -/
structure PS where
  τ : Nat → Option SV
  σ : Nat → Option (Bk × Bool)

/-- An operand with what stands behind it. -/
inductive RV where
  | val (v : PV)
  | nil
  | row (k : Nat) (b : Bk)
  | ptr (k off : Nat) (b : Bk)
  | sub (k off n : Nat) (b : Bk)
  deriving Inhabited

def cst : Value → Option PV
  | .int k n => some (.int k n)
  | .bool b => some (.bool b)
  | .string s => some (.str s)
  | _ => none

def constSV : Value → Option SV
  | .slice none 0 0 => some .nil
  | .nilFunc => some .junk
  | v => (cst v).map .val

def opSV (E : PE) (τ : Nat → Option SV) : Operand → Option SV
  | .tmp t => τ t
  | .const v => constSV v
  | .global g => (E.G g).map fun cs => .val (.ref cs)
  | .func f => some (.val (.clo f []))

def resSV (σ : Nat → Option (Bk × Bool)) : SV → Option RV
  | .val v => some (.val v)
  | .nil => some .nil
  | .row k => (σ k).map fun b => .row k b.1
  | .ptr k o => (σ k).map fun b => .ptr k o b.1
  | .sub k o n => (σ k).map fun b => .sub k o n b.1
  | .junk => none

def res (E : PE) (τ : Nat → Option SV) (σ : Nat → Option (Bk × Bool)) (x : Operand) : Option RV := (opSV E τ x).bind (resSV σ)

/-- What is handed over to others: a pure value, and the blocks that are never written again from then on. -/
def close : RV → Option (PV × List Nat)
  | .val v => some (v, [])
  | .nil => some (.lst 0 [], [])
  | .row k (.row _ _ n cs) => some (.lst n cs, [k])
  | .row _ (.box _) => none
  | .ptr k off b => some (.ref (b.cells.drop off), [k])
  | .sub k off n (.row _ s _ cs) => if off + n * s ≤ cs.length then some (.lst n ((cs.drop off).take (n * s)), [k]) else none
  | .sub .. => none

/-- An operand's handle again. -/
def RV.sv : RV → SV
  | .val v => .val v
  | .nil => .nil
  | .row k _ => .row k
  | .ptr k o _ => .ptr k o
  | .sub k o n _ => .sub k o n

def allSome {α : Type} : List (Option α) → Option (List α)
  | [] => some []
  | none :: _ => none
  | some x :: l => match allSome l with
    | some r => some (x :: r)
    | none => none

def closeL : List (Option RV) → Option (List PV × List Nat)
  | [] => some ([], [])
  | none :: _ => none
  | some r :: rest => match close r, closeL rest with
    | some (v, f), some (vs, fs) => some (v :: vs, f ++ fs)
    | _, _ => none

/-! ### Types, in short -/
inductive LK where
  | bool
  | int (k : IntKind)
  | str
  | struct (fs : List (Nat × TypeId))
  | array (n : Nat) (e : TypeId)
  | slice (e : TypeId)
  | one
  | none
  deriving Inhabited

def lkOf : Option TypeDesc → LK
  | some .bool => .bool
  | some (.int k) => .int k
  | some .string => .str
  | some (.struct fs) => .struct (fs.toList.map fun f => (f.offset, f.type))
  | some (.array n e) => .array n e
  | some (.slice e) => .slice e
  | some _ => .one
  | none => .none

def lk (P : Program) (t : TypeId) : LK := lkOf (P.underlying t)
def sz (P : Program) (t : TypeId) : Option Nat := (P.info? t).map (·.size)
def byt (P : Program) (t : TypeId) : Nat := ((P.info? t).map (·.bytes)).getD 0
def zcell : Value → Option PV
  | .slice none 0 0 => some (.lst 0 [])
  | v => cst v
def zcells (v : Value) : Option (List PV) := v.cells.toList.mapM zcell
def zr (P : Program) (t : TypeId) : Option (List PV) := ((P.info? t).bind (·.zero)).bind zcells

/-- The part of cells that a variable of this type takes. -/
def partPV (P : Program) (t : TypeId) (cs : List PV) (off : Nat) : Option PV :=
  match lk P t with
  | .struct _ | .array _ _ => match sz P t with
    | some n => if off + n ≤ cs.length then some (.agg ((cs.drop off).take n)) else none
    | none => none
  | .none => none
  | _ => cs[off]?

def setCells (cs : List PV) (off : Nat) : List PV → List PV
  | [] => cs
  | v :: vs => setCells (cs.set off v) (off + 1) vs

def fillPV (place : Nat → Option (Nat × Nat)) (cs : List PV) : List (Nat × PV) → Option (List PV)
  | [] => some cs
  | (i, v) :: rest => match place i, v.cells with
    | some (off, n), some vs => if vs.length ≠ n ∨ off + vs.length > cs.length then none else fillPV place (setCells cs off vs) rest
    | _, _ => none

def placesL (P : Program) : List (Nat × TypeId) → Option (List (Nat × Nat))
  | [] => some []
  | (off, t) :: r => match sz P t, placesL P r with
    | some n, some l => some ((off, n) :: l)
    | _, _ => none

/-- Where a struct's fields lie, and how many cells each takes. -/
def places (P : Program) (t : TypeId) : Option (List (Nat × Nat)) :=
  match lk P t with
  | .struct fs => placesL P fs
  | _ => none

/-- So many zero elements. -/
def zrow (z : List PV) (n : Nat) : List PV :=
  match z with
  | [c] => List.replicate n c
  | _ => (List.range (n * z.length)).map fun i => z.getD (i % z.length) (.bool false)

/-! ### Operators -/
def pint (op : BinOp) (k : IntKind) (x y : Int) : Option PV :=
  match op with
  | .add => some (.int k (k.wrap (x + y)))
  | .sub => some (.int k (k.wrap (x - y)))
  | .mul => some (.int k (k.wrap (x * y)))
  | .quo => if y = 0 then none else some (.int k (k.wrap (x.tdiv y)))
  | .rem => if y = 0 then none else some (.int k (x.tmod y))
  | .and => some (.int k (bits .and k x y))
  | .or => some (.int k (bits .or k x y))
  | .xor => some (.int k (bits .xor k x y))
  | .andNot => some (.int k (bits .andNot k x y))
  | .eql => some (.bool (decide (x = y)))
  | .neq => some (.bool (decide (x ≠ y)))
  | .lss => some (.bool (decide (x < y)))
  | .leq => some (.bool (decide (x ≤ y)))
  | .gtr => some (.bool (decide (x > y)))
  | .geq => some (.bool (decide (x ≥ y)))
  | _ => none

def pshift (op : BinOp) (k : IntKind) (x y : Int) : Option PV :=
  if y < 0 then none else
  match op with
  | .shl => some (.int k (k.wrap (x * 2 ^ (min y.toNat k.bits))))
  | .shr => some (.int k (x.fdiv (2 ^ (min y.toNat k.bits))))
  | _ => none

def isShift : BinOp → Bool
  | .shl | .shr => true
  | _ => false

def pstr (op : BinOp) (a b : ByteArray) : Option PV :=
  match op with
  | .add => if a.size + b.size ≤ maxLen then some (.str (a ++ b)) else none
  | .eql => some (.bool (decide (a = b)))
  | .neq => some (.bool (decide (a ≠ b)))
  | _ => none

/-- Cells that are compared one by one: integers, bools, texts. -/
def eqCell (P : Program) (t : TypeId) : PV → PV → Option Bool
  | .int k x, .int k' y => match lk P t with
    | .int _ => if k = k' then some (decide (x = y)) else none
    | _ => none
  | .bool x, .bool y => match lk P t with
    | .bool => some (x == y)
    | _ => none
  | .str x, .str y => match lk P t with
    | .str => some (decide (x = y))
    | _ => none
  | _, _ => none

def eqCells (P : Program) : List TypeId → List PV → List PV → Option Bool
  | [], _, _ => some true
  | t :: ts, a :: as, b :: bs => match eqCell P t a b, eqCells P ts as bs with
    | some x, some y => some (x && y)
    | _, _ => none
  | _, _, _ => none

def flatFs : Nat → List Field → Bool
  | _, [] => true
  | i, f :: fs => f.name != "_" && f.offset == i && flatFs (i + 1) fs

/-- A struct whose fields are one cell each, none of them blank. -/
def flat (P : Program) (t : TypeId) : Bool :=
  !P.stoodInHeld t && flatFs 0 (P.fieldsOf t).toList && !P.eqGuardType P.depth t

def fieldTypes (P : Program) (t : TypeId) : List TypeId :=
  match lk P t with
  | .struct fs => fs.map (·.2)
  | _ => []

def isStruct (P : Program) (t : TypeId) : Bool :=
  match lk P t with
  | .struct _ => true
  | _ => false

def pbin (P : Program) (op : BinOp) (xT : TypeId) : PV → PV → Option PV
  | .int k x, .int k' y => if isShift op then pshift op k x y else if k = k' then pint op k x y else none
  | .str a, .str b => pstr op a b
  | .bool a, .bool b => match op with
    | .eql => match lk P xT with | .bool => some (.bool (a == b)) | _ => none
    | .neq => match lk P xT with | .bool => some (.bool (a != b)) | _ => none
    | _ => none
  | .agg as, .agg bs => if flat P xT ∧ isStruct P xT then match op with
    | .eql => (eqCells P (fieldTypes P xT) as bs).map .bool
    | .neq => (eqCells P (fieldTypes P xT) as bs).map fun b => .bool (!b)
    | _ => none
    else none
  | _, _ => none

def pun (op : UnOp) : PV → Option PV
  | .bool b => match op with | .not => some (.bool (!b)) | _ => none
  | .int k x => match op with
    | .neg => some (.int k (k.wrap (0 - x)))
    | .xor => some (.int k (bits .xor k (if k.signed then -1 else k.max) x))
    | _ => none
  | _ => none

def pconv (P : Program) (dst : TypeId) : PV → Option PV
  | .int _ n => match lk P dst with
    | .int k => some (.int k (k.wrap n))
    | _ => none
  | .str s => match lk P dst with
    | .str => some (.str s)
    | _ => none
  | _ => none

def svPV : Option SV → Option PV
  | some (.val v) => some v
  | _ => none

/-- A slice against the literal nil, where it is known. -/
def nilCmp (P : Program) (op : BinOp) (t : TypeId) (x y : Option SV) : Option SV :=
  match lk P t, x, y with
  | .slice _, some (.val (.nn _ _)), some .nil => match op with
    | .eql => some (.val (.bool false))
    | .neq => some (.val (.bool true))
    | _ => none
  | .slice _, some .nil, some .nil => match op with
    | .eql => some (.val (.bool true))
    | .neq => some (.val (.bool false))
    | _ => none
  | _, _, _ => none

/-- Operations that look at no block: what they leave, out of what their operands' slots hold. -/
def stepA (E : PE) (op : Op) (ρ : Operand → Option SV) : Option SV :=
  match op with
  | .move x => match ρ x with
    | some .junk => none
    | v => v
  | .assign x => ρ x
  | .pick c a b => match svPV (ρ c) with
    | some (.bool true) => match ρ a with
      | some (.val v) => some (.val v)
      | _ => none
    | some (.bool false) => match ρ b with
      | some (.val v) => some (.val v)
      | _ => none
    | _ => none
  | .binOp op t x y _ => match svPV (ρ x), svPV (ρ y) with
    | some a, some b => (pbin E.P op t a b).map .val
    | _, _ => nilCmp E.P op t (ρ x) (ρ y)
  | .unOp op _ x => match svPV (ρ x) with
    | some a => (pun op a).map .val
    | none => none
  | .convert src dst x => match svPV (ρ x), lk E.P src with
    | some a, .int _ => (pconv E.P dst a).map .val
    | some a, .str => (pconv E.P dst a).map .val
    | _, _ => none
  | .extract x i => match svPV (ρ x) with
    | some (.tuple vs) => (vs[i]?).map .val
    | _ => none
  | .field t x i => match svPV (ρ x), lk E.P t with
    | some (.agg cs), .struct fs => match fs[i]? with
      | some (off, ft) => (partPV E.P ft cs off).map .val
      | none => none
    | _, _ => none
  | .fieldAddr t x i => match lk E.P t with
    | .struct fs => match fs[i]? with
      | some (off, ft) => match sz E.P ft with
        | some 0 => none
        | some _ => match ρ x with
          | some (.ptr k o) => some (.ptr k (o + off))
          | some (.val (.ref cs)) => some (.val (.ref (cs.drop off)))
          | _ => none
        | none => none
      | none => none
    | _ => none
  | .index t x i => match svPV (ρ x), svPV (ρ i), lk E.P t with
    | some (.str s), some (.int _ n), .str => if h : 0 ≤ n ∧ n.toNat < s.size then some (.val (.int .u8 (s[n.toNat]'h.2).toNat)) else none
    | _, _, _ => none
  | _ => none

def isA : Op → Bool
  | .move _ | .assign _ | .pick .. | .binOp .. | .unOp .. | .convert .. | .extract .. | .field .. | .fieldAddr .. | .index .. => true
  | _ => false

inductive Out where
  | val (v : SV)
  | new (b : Bk)
  | st (k : Nat) (b : Bk)
  | app (k : Option Nat) (b : Bk)
  | call (f : FuncId) (args : List PV)
  | inl (f : FuncId) (args : List SV)

def rvPV : Option RV → Option PV
  | some (.val v) => some v
  | _ => none

def rvInt (r : Option RV) : Option Int :=
  match r with
  | some (.val (.int _ n)) => some n
  | _ => none

/-- A slice's number of elements and its cells, whosever it is. -/
def rvSlice : Option RV → Option (Nat × List PV)
  | some (.val (.lst n cs)) => some (n, cs)
  | some (.val (.nn n cs)) => some (n, cs)
  | some .nil => some (0, [])
  | some (.row _ (.row _ _ n cs)) => some (n, cs)
  | some (.sub _ o n (.row _ s _ cs)) => if o + n * s ≤ cs.length then some (n, (cs.drop o).take (n * s)) else none
  | _ => none

def frzOf : Option RV → List Nat
  | some (.row k _) => [k]
  | some (.ptr k _ _) => [k]
  | some (.sub k _ _ _) => [k]
  | _ => []

def bound (lo : Option (Option RV)) (d : Int) : Option Int :=
  match lo with
  | none => some d
  | some r => rvInt r

def maxL : List (Option RV) → Option (IntKind × Int)
  | [] => none
  | [some (.val (.int k n))] => some (k, n)
  | some (.val (.int k n)) :: rest => match maxL rest with
    | some (_, m) => some (k, max n m)
    | none => none
  | _ => none

def pmax2 (mx : Bool) : Option RV → Option RV → Option PV
  | some (.val (.int k x)), some (.val (.int _ y)) => some (.int k (if mx then max x y else min x y))
  | _, _ => none

def pbuiltin (E : PE) (b : Builtin) (ts : List TypeId) (args : List (Option RV)) : Option (Out × List Nat) :=
  match b, ts, args with
  | .len, [t], [x] => match lk E.P t, x with
    | .slice _, some (.val (.lst n _)) => some (.val (.val (.int .i64 n)), [])
    | .slice _, some .nil => some (.val (.val (.int .i64 0)), [])
    | .slice _, some (.row _ (.row _ _ n _)) => some (.val (.val (.int .i64 n)), [])
    | .slice _, some (.sub _ _ n _) => some (.val (.val (.int .i64 n)), [])
    | .str, some (.val (.str s)) => some (.val (.val (.int .i64 s.size)), [])
    | .array n _, _ => some (.val (.val (.int .i64 n)), [])
    | _, _ => none
  | .max, _, [x, y] => (pmax2 true x y).map fun v => (.val (.val v), [])
  | .min, _, [x, y] => (pmax2 false x y).map fun v => (.val (.val v), [])
  | .append, [t, t'], [x, y] => if t ≠ t' then none else match lk E.P t with
    | .slice e => match sz E.P e, zr E.P e, rvSlice y with
      | some m, some z, some (n', ys) =>
        if m = 0 ∨ z.length ≠ m ∨ ys.length ≠ n' * m then none else
        match x with
        | some .nil => if n' ≤ maxLen ∧ n' * byt E.P e ≤ 140737488355328 then some (.app none (.row e m n' ys), frzOf y) else none
        | some (.row k (.row e' m' n xs)) => if e' = e ∧ m' = m ∧ n + n' ≤ maxLen ∧ (n + n') * byt E.P e ≤ 140737488355328 ∧ k ∉ frzOf y then
            some (.app (some k) (.row e m (n + n') (xs ++ ys)), frzOf y) else none
        | _ => none
      | _, _, _ => none
    | _ => none
  | _, _, _ => none

/-- The other operations: what they leave, out of what stands behind their operands. -/
def stepR (E : PE) (op : Op) (ρ : Operand → Option RV) : Option (Out × List Nat) :=
  match op with
  | .alloc t => (zr E.P t).map fun cs => (.new (.box cs), [])
  | .box _ x => match ρ x with
    | some r => match close r with
      | some (v, f) => match v.cells with
        | some vs => some (.new (.box vs), f)
        | none => none
      | none => none
    | none => none
  | .build t parts => match closeL (parts.toList.map fun p => ρ p.2), zr E.P t, places E.P t with
    | some (vs, f), some z, some pl => match fillPV (fun i => pl[i]?) z ((parts.toList.map (·.1)).zip vs) with
      | some cs => some (.val (.val (.agg cs)), f)
      | none => none
    | _, _, _ => none
  | .buildSlice t len parts => match closeL (parts.toList.map fun p => ρ p.2), lk E.P t with
    | some (vs, f), .slice e => match sz E.P e, zr E.P e with
      | some n, some z => if n = 0 ∨ z.length ≠ n ∨ len * n > 16777216 then none else
        match fillPV (fun i => some (i * n, n)) (zrow z len) ((parts.toList.map (·.1)).zip vs) with
        | some cs => some (.new (.row e n len cs), f)
        | none => none
      | _, _ => none
    | _, _ => none
  | .load t x => match ρ x with
    | some (.ptr _ off b) => (partPV E.P t b.cells off).map fun v => (.val (.val v), [])
    | some (.val (.ref cs)) => (partPV E.P t cs 0).map fun v => (.val (.val v), [])
    | _ => none
  | .store t x y => match ρ x, ρ y with
    | some (.ptr k off b), some r => match close r, sz E.P t with
      | some (v, f), some n => match v.cells with
        | some vs => if vs.length ≠ n ∨ off + n > b.cells.length ∨ k ∈ f then none else some (.st k (b.with (setCells b.cells off vs)), f)
        | none => none
      | _, _ => none
    | _, _ => none
  | .nilCheck x => match ρ x with
    | some (.ptr k o _) => some (.val (.ptr k o), [])
    | some (.val (.ref cs)) => some (.val (.val (.ref cs)), [])
    | some (.val (.clo f cs)) => some (.val (.val (.clo f cs)), [])
    | _ => none
  | .makeFunc (.func f) first captured => if first.size ≠ 0 then none else
    match closeL (captured.toList.map ρ) with
    | some (vs, fz) => some (.val (.val (.clo f vs)), fz)
    | none => none
  | .makeSlice t l c => match lk E.P t, rvInt (ρ l), rvInt (ρ c) with
    | .slice e, some n, some m => match sz E.P e, zr E.P e with
      | some s, some z => if n = m ∧ 0 ≤ n ∧ n ≤ 9223372036854775807 ∧ byt E.P e * n ≤ 140737488355328 ∧ s ≠ 0 ∧ z.length = s then
          some (.new (.row e s n.toNat (zrow z n.toNat)), []) else none
      | _, _ => none
    | _, _, _ => none
  | .slice t x lo hi none => match lk E.P t with
    | .slice e => match sz E.P e with
      | some s => match ρ x with
        | some (.row k (.row _ _ n _)) => match bound (lo.map ρ) 0, bound (hi.map ρ) n with
          | some l, some h => if 0 ≤ l ∧ l < h ∧ h ≤ n then some (.val (.sub k (l.toNat * s) (h.toNat - l.toNat)), []) else none
          | _, _ => none
        | some (.sub k o n _) => match bound (lo.map ρ) 0, bound (hi.map ρ) n with
          | some l, some h => if 0 ≤ l ∧ l < h ∧ h ≤ n then some (.val (.sub k (o + l.toNat * s) (h.toNat - l.toNat)), []) else none
          | _, _ => none
        | some (.val v) => match rvSlice (some (.val v)) with
          | some (n, cs) => match bound (lo.map ρ) 0, bound (hi.map ρ) n with
            | some l, some h => if 0 ≤ l ∧ l ≤ h ∧ h ≤ n ∧ cs.length = n * s then
                some (.val (.val (.lst (h.toNat - l.toNat) ((cs.drop (l.toNat * s)).take ((h.toNat - l.toNat) * s)))), []) else none
            | _, _ => none
          | none => none
        | some .nil => match bound (lo.map ρ) 0, bound (hi.map ρ) 0 with
          | some l, some h => if 0 ≤ l ∧ l ≤ h ∧ h ≤ 0 then some (.val .nil, []) else none
          | _, _ => none
        | _ => none
      | none => none
    | .str => match rvPV (ρ x) with
      | some (.str b) => match bound (lo.map ρ) 0, bound (hi.map ρ) b.size with
        | some l, some h => if 0 ≤ l ∧ l ≤ h ∧ h ≤ b.size then some (.val (.val (.str (b.extract l.toNat h.toNat))), []) else none
        | _, _ => none
      | _ => none
    | _ => none
  | .indexAddr t x i => match rvInt (ρ i), lk E.P t with
    | some n, .slice e => match sz E.P e with
      | some s => match ρ x with
        | some (.val (.lst m cs)) => if 0 ≤ n ∧ n < m then some (.val (.val (.ref (cs.drop (n.toNat * s)))), []) else none
        | some (.row k (.row _ _ m _)) => if 0 ≤ n ∧ n < m then some (.val (.ptr k (n.toNat * s)), []) else none
        | some (.sub k o m _) => if 0 ≤ n ∧ n < m then some (.val (.ptr k (o + n.toNat * s)), []) else none
        | _ => none
      | none => none
    | some n, .array m e => match sz E.P e with
      | some s => match ρ x with
        | some (.ptr k o _) => if 0 ≤ n ∧ n < m then some (.val (.ptr k (o + n.toNat * s)), []) else none
        | some (.val (.ref cs)) => if 0 ≤ n ∧ n < m then some (.val (.val (.ref (cs.drop (n.toNat * s)))), []) else none
        | _ => none
      | none => none
    | _, _ => none
  | .call c => match c.callee with
    | .builtin b => pbuiltin E b c.argTypes.toList (c.args.toList.map ρ)
    | .value f => match ρ f with
      | some (.val (.clo g caps)) => if E.mu g = true then
          match f, allSome (c.args.toList.map ρ) with
          | .func _, some rs => some (.inl g (rs.map RV.sv), [])
          | _, _ => none
        else match closeL (c.args.toList.map ρ) with
        | some (vs, fz) => some (.call g (vs ++ caps), fz)
        | none => none
      | _ => none
    | _ => none
  | _ => none
end PG
