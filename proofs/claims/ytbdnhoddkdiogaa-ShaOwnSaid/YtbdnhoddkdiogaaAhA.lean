/- AHI, part A: typed pure data, cells, rows, heaps of what a call owns. No world, no program in sight. -/
import Derived.WalkKit
set_option linter.unusedSimpArgs false
set_option linter.unusedVariables false
namespace Go.Proofs.Ytbdnhoddkdiogaa
open Go.RowKit

/-- Kinds of pure data. -/
inductive Ty where
  | i (k : IntKind) | bo | st | f (k : FloatKind) | sl (e : Ty) | pr (a b : Ty) | ar (n : Nat) (e : Ty)
  deriving DecidableEq
@[reducible] def Ty.D : Ty → Type
  | .i _ => Int | .bo => Bool | .st => ByteArray | .f _ => Nat | .sl e => List e.D | .pr a b => a.D × b.D | .ar _ e => List e.D
/-- How many cells. -/
def Ty.sz : Ty → Nat
  | .i _ => 1 | .bo => 1 | .st => 1 | .f _ => 1 | .sl _ => 1 | .pr a b => a.sz + b.sz | .ar n e => n * e.sz
/-- What one cell holds: a plain value; an empty slice without room; a pointer into a block of the call's own (element i of e cells, cell j of it); a slice of such a block; a slice, or a pointer, into memory that is not written any more; a closure over variables of the call's own. -/
inductive CV where
  | v (x : Value) | e0 | ptr (id i e j : Nat) | sl (id o len e : Nat) | rs (t : Ty) (xs : List t.D) | rp (t : Ty) (xs : List t.D) (i j : Nat) | fn (f : FuncId) (ids : List Nat)
/-- A row of cells: written out, or typed. -/
inductive Row where
  | raw (l : List CV) | ty (t : Ty) (xs : List t.D)
/-- What a slot holds. -/
inductive AV where
  | c (x : CV) | agg (r : Row) | tup (l : List AV)
abbrev Hp := List (Option Row)
def Row.size : Row → Nat
  | .raw l => l.length | .ty t xs => xs.length * t.sz
abbrev ci (k : IntKind) (n : Int) : CV := .v (.int k n)
abbrev cb (x : Bool) : CV := .v (.bool x)

/-- Cell j of a typed thing. -/
def enc : (t : Ty) → t.D → Nat → Option CV
  | .i k, n, j => if j = 0 then some (.v (.int k n)) else none
  | .bo, x, j => if j = 0 then some (.v (.bool x)) else none
  | .st, x, j => if j = 0 then some (.v (.string x)) else none
  | .f k, n, j => if j = 0 then some (.v (.float k n)) else none
  | .sl e, xs, j => if j = 0 then some (.rs e xs) else none
  | .pr a b, x, j => if j < a.sz then enc a x.1 j else enc b x.2 (j - a.sz)
  | .ar _ e, xs, j => match xs[j / e.sz]? with | some x => enc e x (j % e.sz) | none => none
/-- All its cells. -/
def encL : (t : Ty) → t.D → List CV
  | .i k, n => [.v (.int k n)] | .bo, x => [.v (.bool x)] | .st, x => [.v (.string x)] | .f k, n => [.v (.float k n)] | .sl e, xs => [.rs e xs]
  | .pr a b, x => encL a x.1 ++ encL b x.2 | .ar _ e, xs => xs.flatMap (encL e)
/-- What a cell says of a thing of one cell. -/
def leaf : (t : Ty) → CV → Option t.D
  | .i k, .v (.int k' n) => if k = k' then some n else none
  | .bo, .v (.bool x) => some x
  | .st, .v (.string x) => some x
  | .f k, .v (.float k' n) => if k = k' then some n else none
  | .sl e, .rs e' xs => if h : e' = e then some (h ▸ xs) else none
  | .sl _, .v (.slice none 0 0) => some []
  | .sl _, .e0 => some []
  | _, _ => none
/-- A typed thing with cell j written. -/
def setD : (t : Ty) → t.D → Nat → CV → Option t.D
  | .i k, _, j, c => if j = 0 then leaf (.i k) c else none
  | .bo, _, j, c => if j = 0 then leaf .bo c else none
  | .st, _, j, c => if j = 0 then leaf .st c else none
  | .f k, _, j, c => if j = 0 then leaf (.f k) c else none
  | .sl e, _, j, c => if j = 0 then leaf (.sl e) c else none
  | .pr a b, x, j, c => if j < a.sz then (setD a x.1 j c).map fun y => (y, x.2) else (setD b x.2 (j - a.sz) c).map fun y => (x.1, y)
  | .ar _ e, xs, j, c => match xs[j / e.sz]? with | some x => (setD e x (j % e.sz) c).map fun y => xs.set (j / e.sz) y | none => none
/-- Things of n cells one behind the other. -/
def decF {α : Type} (f : List CV → Option α) (sz : Nat) : Nat → List CV → Option (List α)
  | 0, l => if l.length = 0 then some [] else none
  | n + 1, l => match f (l.take sz), decF f sz n (l.drop sz) with | some x, some xs => some (x :: xs) | _, _ => none
/-- A typed thing out of its cells. -/
def decD : (t : Ty) → List CV → Option t.D
  | .i k, l => match l with | [c] => leaf (.i k) c | _ => none
  | .bo, l => match l with | [c] => leaf .bo c | _ => none
  | .st, l => match l with | [c] => leaf .st c | _ => none
  | .f k, l => match l with | [c] => leaf (.f k) c | _ => none
  | .sl e, l => match l with | [c] => leaf (.sl e) c | _ => none
  | .pr a b, l => match decD a (l.take a.sz), decD b (l.drop a.sz) with | some x, some y => some (x, y) | _, _ => none
  | .ar n e, l => decF (decD e) e.sz n l
/-- Things one behind the other out of their cells. -/
def decs (t : Ty) (n : Nat) (l : List CV) : Option (List t.D) := decF (decD t) t.sz n l
/-- One typed thing as a row: an array as the row of its elements. -/
def oneRow : (t : Ty) → t.D → Row
  | .ar _ e, xs => .ty e xs
  | .i k, x => .ty (.i k) [x] | .bo, x => .ty .bo [x] | .st, x => .ty .st [x] | .f k, x => .ty (.f k) [x] | .sl e, x => .ty (.sl e) [x] | .pr a b, x => .ty (.pr a b) [x]
/-- n cells from cell j on. -/
def subD : (t : Ty) → t.D → Nat → Nat → Option Row
  | .pr a b, x, j, n =>
    if j + n ≤ a.sz then (if j = 0 ∧ n = a.sz then some (oneRow a x.1) else subD a x.1 j n)
    else if a.sz ≤ j then (if j = a.sz ∧ n = b.sz then some (oneRow b x.2) else subD b x.2 (j - a.sz) n) else none
  | _, _, _, _ => none
/-- The row as things of that type. -/
def Row.as (t : Ty) : Row → Option (List t.D)
  | .ty t' xs => if h : t' = t then some (h ▸ xs) else none
  | .raw l => if t.sz = 0 then none else decs t (l.length / t.sz) l
theorem Row.as_ty (t : Ty) (xs : List t.D) : Row.as t (.ty t xs) = some xs := by simp [Row.as]
def single? {α : Type} : Option (List α) → Option α
  | some [x] => some x | _ => none
/-- One thing out of a row. -/
def Row.one : (t : Ty) → Row → Option t.D
  | .ar n e, r => match r.as e with | some xs => if xs.length = n then some xs else none | none => none
  | .i k, r => single? (r.as (.i k))
  | .bo, r => single? (r.as .bo)
  | .st, r => single? (r.as .st)
  | .f k, r => single? (r.as (.f k))
  | .sl e, r => single? (r.as (.sl e))
  | .pr a b, r => single? (r.as (.pr a b))

/-- Cell j of element i (elements of e cells). -/
def Row.at0 : Row → Nat → Nat → Nat → Option CV
  | .raw l, i, e, j => l[i * e + j]?
  | .ty t xs, i, e, j => if e = t.sz then (match xs[i]? with | some x => enc t x j | none => none) else none
/-- n cells from there on. -/
def Row.sub0 : Row → Nat → Nat → Nat → Nat → Option Row
  | .raw l, i, e, j, n => if i * e + j + n ≤ l.length then some (.raw ((l.drop (i * e + j)).take n)) else none
  | .ty t xs, i, e, j, n =>
    if e = t.sz ∧ j = 0 ∧ n = t.sz then (match xs[i]? with | some x => some (oneRow t x) | none => none)
    else if i = 0 ∧ j = 0 ∧ n = xs.length * t.sz then some (.ty t xs)
    else if e = t.sz then (match xs[i]? with | some x => subD t x j n | none => none) else none
def Row.cells : Row → List CV
  | .raw l => l | .ty t xs => xs.flatMap (encL t)
/-- With one cell written. -/
def Row.put0 : Row → Nat → Nat → Nat → CV → Option Row
  | .raw l, i, e, j, c => if i * e + j < l.length then some (.raw (l.set (i * e + j) c)) else none
  | .ty t xs, i, e, j, c => if e = t.sz then (match xs[i]? with | some x => (setD t x j c).map fun y => .ty t (xs.set i y) | none => none) else none
/-- With a row of cells written. -/
def Row.puts0 : Row → Nat → Nat → Nat → Row → Option Row
  | .raw l, i, e, j, r => if i = 0 ∧ j = 0 ∧ r.size = l.length then some r else match r with
    | .raw l' => if i * e + j + l'.length ≤ l.length then some (.raw (l.take (i * e + j) ++ l' ++ l.drop (i * e + j + l'.length))) else none
    | .ty _ _ => none
  | .ty t xs, i, e, j, r => if i = 0 ∧ j = 0 ∧ r.size = xs.length * t.sz then some r
    else if e = t.sz ∧ j = 0 ∧ i < xs.length then (Row.one t r).map fun y => .ty t (xs.set i y) else none
/-- At the row's beginning the width of its elements does not count. -/
def Row.eN : Row → Nat → Nat → Nat
  | .raw _, _, e => e
  | .ty t _, i, e => if i = 0 then t.sz else e
def Row.at (r : Row) (i e j : Nat) : Option CV := r.at0 i (r.eN i e) j
def Row.sub (r : Row) (i e j n : Nat) : Option Row := r.sub0 i (r.eN i e) j n
def Row.put (r : Row) (i e j : Nat) (c : CV) : Option Row := r.put0 i (r.eN i e) j c
def Row.puts (r : Row) (i e j : Nat) (q : Row) : Option Row := r.puts0 i (r.eN i e) j q
/-- So many elements of e cells from element o on. -/
def Row.part : Row → Nat → Nat → Nat → Option Row
  | .raw l, o, n, e => if (o + n) * e ≤ l.length then some (.raw ((l.drop (o * e)).take (n * e))) else none
  | .ty t xs, o, n, e => if e = t.sz then (if o = 0 ∧ n = xs.length then some (.ty t xs) else if o + n ≤ xs.length then some (.ty t ((xs.drop o).take n)) else none) else none
/-- A row behind another one. -/
def Row.app : Row → Row → Option Row
  | .raw [], r => some r
  | .ty t xs, r => match r.as t with | some ys => some (.ty t (xs ++ ys)) | none => none
  | .raw l, .raw l' => some (.raw (l ++ l'))
  | .raw l, .ty t ys => match (Row.raw l).as t with | some xs => some (.ty t (xs ++ ys)) | none => none
/-- Elements written over others. -/
def Row.over : Row → Nat → Nat → Row → Option Row
  | .ty t xs, o, n, r => match r.as t with | some ys => if o + n ≤ xs.length ∧ ys.length = n then some (.ty t (xs.take o ++ ys ++ xs.drop (o + n))) else none | none => none
  | .raw _, _, _, _ => none
end Go.Proofs.Ytbdnhoddkdiogaa
