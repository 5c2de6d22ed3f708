import Derived.WalkKit
import Derived.Deep.MidRow
import Derived.Below
import Derived.Laws.NewBlocks
import Derived.Deep.Upon
import Derived.BigFrame
import Derived.Laws.Slices
import Derived.Laws.MakeOwn
import Derived.Great.BuildSlice
import Derived.Deep.AppendSrc
import Derived.Laws.Tables
import Derived.Laws.StructEq
import Derived.Laws.Small
import Derived.Laws.Entries
import Derived.WalkSpells
section
set_option linter.unusedSimpArgs false
set_option linter.unusedVariables false
/- AHI, part A: typed pure data, cells, rows, heaps of what a call owns. No world, no program in sight. -/
namespace Go.Proofs.Ytcnoooodnmjdmaa
open Go.RowKit

/-- Kinds of pure data. -/
inductive Ty where
  | i (k : IntKind) | bo | st | f (k : FloatKind) | sl (e : Ty) | pr (a b : Ty) | ar (n : Nat) (e : Ty)
  deriving DecidableEq
@[reducible] def Ty.D : Ty → Type
  | .i _ => Int | .bo => Bool | .st => ByteArray | .f _ => Nat | .sl e => List e.D | .pr a b => a.D × b.D | .ar _ e => List e.D
/-- How many cells. -/
def Ty.sz : Ty → Nat
  | .i _ => 1 | .bo => 1 | .st => 1 | .f _ => 1 | .sl _ => 1 | .pr a b => a.sz + b.sz | .ar n e => n * e.sz
/-- What one cell holds: a plain value; an empty slice without room; a pointer into a block of the call's own (element i of e cells, cell j of it); a slice of such a block; a slice, or a pointer, into memory that is not written any more; a closure over variables of the call's own. -/
inductive CV where
  | v (x : Value) | e0 | ptr (id i e j : Nat) | sl (id o len e : Nat) | rs (t : Ty) (xs : List t.D) | rp (t : Ty) (xs : List t.D) (i j : Nat) | fn (f : FuncId) (ids : List Nat) | ub
/-- A row of cells: written out, or typed. -/
inductive Row where
  | raw (l : List CV) | ty (t : Ty) (xs : List t.D)
/-- What a slot holds. -/
inductive AV where
  | c (x : CV) | agg (r : Row) | tup (l : List AV)
abbrev Hp := List (Option Row)
def Row.size : Row → Nat
  | .raw l => l.length | .ty t xs => xs.length * t.sz
abbrev ci (k : IntKind) (n : Int) : CV := .v (.int k n)
abbrev cb (x : Bool) : CV := .v (.bool x)

/-- Cell j of a typed thing. -/
def enc : (t : Ty) → t.D → Nat → Option CV
  | .i k, n, j => if j = 0 then some (.v (.int k n)) else none
  | .bo, x, j => if j = 0 then some (.v (.bool x)) else none
  | .st, x, j => if j = 0 then some (.v (.string x)) else none
  | .f k, n, j => if j = 0 then some (.v (.float k n)) else none
  | .sl e, xs, j => if j = 0 then some (.rs e xs) else none
  | .pr a b, x, j => if j < a.sz then enc a x.1 j else enc b x.2 (j - a.sz)
  | .ar _ e, xs, j => match xs[j / e.sz]? with | some x => enc e x (j % e.sz) | none => none
/-- All its cells. -/
def encL : (t : Ty) → t.D → List CV
  | .i k, n => [.v (.int k n)] | .bo, x => [.v (.bool x)] | .st, x => [.v (.string x)] | .f k, n => [.v (.float k n)] | .sl e, xs => [.rs e xs]
  | .pr a b, x => encL a x.1 ++ encL b x.2 | .ar _ e, xs => xs.flatMap (encL e)
/-- What a cell says of a thing of one cell. -/
def leaf : (t : Ty) → CV → Option t.D
  | .i k, .v (.int k' n) => if k = k' then some n else none
  | .bo, .v (.bool x) => some x
  | .st, .v (.string x) => some x
  | .f k, .v (.float k' n) => if k = k' then some n else none
  | .sl e, .rs e' xs => if h : e' = e then some (h ▸ xs) else none
  | .sl _, .v (.slice none 0 0) => some []
  | .sl _, .e0 => some []
  | _, _ => none
/-- A typed thing with cell j written. -/
def setD : (t : Ty) → t.D → Nat → CV → Option t.D
  | .i k, _, j, c => if j = 0 then leaf (.i k) c else none
  | .bo, _, j, c => if j = 0 then leaf .bo c else none
  | .st, _, j, c => if j = 0 then leaf .st c else none
  | .f k, _, j, c => if j = 0 then leaf (.f k) c else none
  | .sl e, _, j, c => if j = 0 then leaf (.sl e) c else none
  | .pr a b, x, j, c => if j < a.sz then (setD a x.1 j c).map fun y => (y, x.2) else (setD b x.2 (j - a.sz) c).map fun y => (x.1, y)
  | .ar _ e, xs, j, c => match xs[j / e.sz]? with | some x => (setD e x (j % e.sz) c).map fun y => xs.set (j / e.sz) y | none => none
/-- Things of n cells one behind the other. -/
def decF {α : Type} (f : List CV → Option α) (sz : Nat) : Nat → List CV → Option (List α)
  | 0, l => if l.length = 0 then some [] else none
  | n + 1, l => match f (l.take sz), decF f sz n (l.drop sz) with | some x, some xs => some (x :: xs) | _, _ => none
/-- A typed thing out of its cells. -/
def decD : (t : Ty) → List CV → Option t.D
  | .i k, l => match l with | [c] => leaf (.i k) c | _ => none
  | .bo, l => match l with | [c] => leaf .bo c | _ => none
  | .st, l => match l with | [c] => leaf .st c | _ => none
  | .f k, l => match l with | [c] => leaf (.f k) c | _ => none
  | .sl e, l => match l with | [c] => leaf (.sl e) c | _ => none
  | .pr a b, l => match decD a (l.take a.sz), decD b (l.drop a.sz) with | some x, some y => some (x, y) | _, _ => none
  | .ar n e, l => decF (decD e) e.sz n l
/-- Things one behind the other out of their cells. -/
def decs (t : Ty) (n : Nat) (l : List CV) : Option (List t.D) := decF (decD t) t.sz n l
/-- One typed thing as a row: an array as the row of its elements. -/
def oneRow : (t : Ty) → t.D → Row
  | .ar _ e, xs => .ty e xs
  | .i k, x => .ty (.i k) [x] | .bo, x => .ty .bo [x] | .st, x => .ty .st [x] | .f k, x => .ty (.f k) [x] | .sl e, x => .ty (.sl e) [x] | .pr a b, x => .ty (.pr a b) [x]
/-- n cells from cell j on. -/
def subD : (t : Ty) → t.D → Nat → Nat → Option Row
  | .pr a b, x, j, n =>
    if j + n ≤ a.sz then (if j = 0 ∧ n = a.sz then some (oneRow a x.1) else subD a x.1 j n)
    else if a.sz ≤ j then (if j = a.sz ∧ n = b.sz then some (oneRow b x.2) else subD b x.2 (j - a.sz) n) else none
  | _, _, _, _ => none
/-- The row as things of that type. -/
def Row.as (t : Ty) : Row → Option (List t.D)
  | .ty t' xs => if h : t' = t then some (h ▸ xs) else none
  | .raw l => if t.sz = 0 then none else decs t (l.length / t.sz) l
theorem Row.as_ty (t : Ty) (xs : List t.D) : Row.as t (.ty t xs) = some xs := by simp [Row.as]
def single? {α : Type} : Option (List α) → Option α
  | some [x] => some x | _ => none
/-- One thing out of a row. -/
def Row.one : (t : Ty) → Row → Option t.D
  | .ar n e, r => match r.as e with | some xs => if xs.length = n then some xs else none | none => none
  | .i k, r => single? (r.as (.i k))
  | .bo, r => single? (r.as .bo)
  | .st, r => single? (r.as .st)
  | .f k, r => single? (r.as (.f k))
  | .sl e, r => single? (r.as (.sl e))
  | .pr a b, r => single? (r.as (.pr a b))

/-- Cell j of element i (elements of e cells). -/
def Row.at0 : Row → Nat → Nat → Nat → Option CV
  | .raw l, i, e, j => l[i * e + j]?
  | .ty t xs, i, e, j => if e = t.sz then (match xs[i]? with | some x => enc t x j | none => none) else match xs with | [x] => enc t x (i * e + j) | _ => none
/-- n cells from there on. -/
def Row.sub0 : Row → Nat → Nat → Nat → Nat → Option Row
  | .raw l, i, e, j, n => if i * e + j + n ≤ l.length then some (.raw ((l.drop (i * e + j)).take n)) else none
  | .ty t xs, i, e, j, n =>
    if e = t.sz ∧ j = 0 ∧ n = t.sz then (match xs[i]? with | some x => some (oneRow t x) | none => none)
    else if i = 0 ∧ j = 0 ∧ n = xs.length * t.sz then some (.ty t xs)
    else if e = t.sz then (match xs[i]? with | some x => subD t x j n | none => none) else none
def Row.cells : Row → List CV
  | .raw l => l | .ty t xs => xs.flatMap (encL t)
/-- With one cell written. -/
def Row.put0 : Row → Nat → Nat → Nat → CV → Option Row
  | .raw l, i, e, j, c => if i * e + j < l.length then some (.raw (l.set (i * e + j) c)) else none
  | .ty t xs, i, e, j, c => if e = t.sz then (match xs[i]? with | some x => (setD t x j c).map fun y => .ty t (xs.set i y) | none => none) else match xs with | [x] => (setD t x (i * e + j) c).map fun y => .ty t [y] | _ => none
/-- With a row of cells written. -/
def Row.puts0 : Row → Nat → Nat → Nat → Row → Option Row
  | .raw l, i, e, j, r => if i = 0 ∧ j = 0 ∧ r.size = l.length then some r else match r with
    | .raw l' => if i * e + j + l'.length ≤ l.length then some (.raw (l.take (i * e + j) ++ l' ++ l.drop (i * e + j + l'.length))) else none
    | .ty _ _ => none
  | .ty t xs, i, e, j, r => if i = 0 ∧ j = 0 ∧ r.size = xs.length * t.sz then some r
    else if e = t.sz ∧ j = 0 ∧ i < xs.length then (Row.one t r).map fun y => .ty t (xs.set i y) else none
/-- At the row's beginning the width of its elements does not count. -/
def Row.eN : Row → Nat → Nat → Nat
  | .raw _, _, e => e
  | .ty t _, i, e => if i = 0 then t.sz else e
def Row.at (r : Row) (i e j : Nat) : Option CV := r.at0 i (r.eN i e) j
def Row.sub (r : Row) (i e j n : Nat) : Option Row := r.sub0 i (r.eN i e) j n
def Row.put (r : Row) (i e j : Nat) (c : CV) : Option Row := r.put0 i (r.eN i e) j c
def Row.puts (r : Row) (i e j : Nat) (q : Row) : Option Row := r.puts0 i (r.eN i e) j q
/-- So many elements of e cells from element o on. -/
def Row.part : Row → Nat → Nat → Nat → Option Row
  | .raw l, o, n, e => if (o + n) * e ≤ l.length then some (.raw ((l.drop (o * e)).take (n * e))) else none
  | .ty t xs, o, n, e => if e = t.sz then (if o = 0 ∧ n = xs.length then some (.ty t xs) else if o + n ≤ xs.length then some (.ty t ((xs.drop o).take n)) else none) else none
/-- A row behind another one. -/
def Row.app : Row → Row → Option Row
  | .raw [], r => some r
  | .ty t xs, r => match r.as t with | some ys => some (.ty t (xs ++ ys)) | none => none
  | .raw l, .raw l' => some (.raw (l ++ l'))
  | .raw l, .ty t ys => match (Row.raw l).as t with | some xs => some (.ty t (xs ++ ys)) | none => none
/-- Elements written over others. -/
def Row.over : Row → Nat → Nat → Row → Option Row
  | .ty t xs, o, n, r => match r.as t with | some ys => if o + n ≤ xs.length ∧ ys.length = n then some (.ty t (xs.take o ++ ys ++ xs.drop (o + n))) else none | none => none
  | .raw _, _, _, _ => none
end Go.Proofs.Ytcnoooodnmjdmaa
end
section
set_option linter.unusedSimpArgs false
set_option linter.unusedVariables false
/- AHI, part B: what rows and cells say of a world. -/
namespace Go.Proofs.Ytcnoooodnmjdmaa
open Go.RowKit

abbrev Cells := Nat → Option Value
/-- A typed thing lies in these cells. -/
def RepD (w : World) (own : Nat → Prop) : (t : Ty) → t.D → Cells → Prop
  | .i k, n, g => g 0 = some (.int k n)
  | .bo, x, g => g 0 = some (.bool x)
  | .st, x, g => g 0 = some (.string x)
  | .f k, n, g => g 0 = some (.float k n)
  | .sl e, xs, g => ∃ v, g 0 = some v ∧ ((xs = [] ∧ ∃ a c, v = .slice a 0 c) ∨ ∃ b off c, v = .slice (some ⟨b, off, none⟩) xs.length c ∧ xs.length ≤ c ∧ c ≤ maxLen ∧ ¬ own b ∧ b < w.heap.size ∧
      ∀ (i : Nat) x, xs[i]? = some x → RepD w own e x (fun j => w.cell? ⟨b, off + i * e.sz + j, none⟩))
  | .pr a b, x, g => RepD w own a x.1 g ∧ RepD w own b x.2 (fun j => g (a.sz + j))
  | .ar n e, xs, g => xs.length = n ∧ ∀ (i : Nat) x, xs[i]? = some x → RepD w own e x (fun j => g (i * e.sz + j))
def RepSl (w : World) (own : Nat → Prop) (e : Ty) (xs : List e.D) (v : Value) : Prop :=
  (xs = [] ∧ ∃ a c, v = .slice a 0 c) ∨ ∃ b off c, v = .slice (some ⟨b, off, none⟩) xs.length c ∧ xs.length ≤ c ∧ c ≤ maxLen ∧ ¬ own b ∧ b < w.heap.size ∧
      ∀ (i : Nat) x, xs[i]? = some x → RepD w own e x (fun j => w.cell? ⟨b, off + i * e.sz + j, none⟩)
theorem RepD_sl {w : World} {own : Nat → Prop} {e : Ty} {xs : List e.D} {g : Cells} : RepD w own (.sl e) xs g ↔ ∃ v, g 0 = some v ∧ RepSl w own e xs v := Iff.rfl
abbrev Sg := Nat → Option (Nat × Nat × Nat)
/-- A cell's value. -/
def Rep (w : World) (own : Nat → Prop) (σ : Sg) : CV → Value → Prop
  | .v x, y => y = x ∧ x.oneCell' = true
  | .e0, y => ∃ a, y = .slice a 0 0
  | .ptr id i e j, y => ∃ b base ext, σ id = some (b, base, ext) ∧ y = .pointer (some ⟨b, base + (i * e + j), none⟩)
  | .sl id o len e, y => (len = 0 ∧ ∃ a, y = .slice a 0 0) ∨ ∃ b base ext c, σ id = some (b, base, ext) ∧ y = .slice (some ⟨b, base + o * e, none⟩) len c ∧ len ≤ c ∧ c ≤ maxLen ∧ base + (o + c) * e ≤ ext
  | .rs t xs, y => RepSl w own t xs y
  | .rp t xs i j, y => ∃ b off, y = .pointer (some ⟨b, off + (i * t.sz + j), none⟩) ∧ ¬ own b ∧ b < w.heap.size ∧ ∀ (i : Nat) x, xs[i]? = some x → RepD w own t x (fun j => w.cell? ⟨b, off + i * t.sz + j, none⟩)
  | .fn f ids, y => ∃ ps : List Value, y = .func (.func f) #[] ps.toArray ∧ ps.length = ids.length ∧ ∀ (k : Nat) id, ids[k]? = some id → ∃ b base ext, σ id = some (b, base, ext) ∧ ps[k]? = some (.pointer (some ⟨b, base, none⟩))
  | .ub, y => ∃ b, y = .bool b
def RowRep (w : World) (own : Nat → Prop) (σ : Sg) : Row → Cells → Prop
  | .raw l, g => ∀ (i : Nat) c, l[i]? = some c → ∃ v, g i = some v ∧ Rep w own σ c v
  | .ty t xs, g => ∀ (i : Nat) x, xs[i]? = some x → RepD w own t x (fun j => g (i * t.sz + j))
def Rep1 (w : World) (own : Nat → Prop) (σ : Sg) : AV → Value → Prop
  | .c x, y => Rep w own σ x y
  | .agg r, y => ∃ vs : List Value, y = .agg vs.toArray ∧ vs.length = r.size ∧ RowRep w own σ r (fun i => vs[i]?)
  | .tup _, _ => False
def RepA (w : World) (own : Nat → Prop) (σ : Sg) : AV → Value → Prop
  | .tup l, y => ∃ vs : List Value, y = .tuple vs.toArray ∧ vs.length = l.length ∧ ∀ (i : Nat) a, l[i]? = some a → ∃ v, vs[i]? = some v ∧ Rep1 w own σ a v
  | .c x, y => Rep w own σ x y
  | .agg r, y => ∃ vs : List Value, y = .agg vs.toArray ∧ vs.length = r.size ∧ RowRep w own σ r (fun i => vs[i]?)
theorem Rep1.toA {w own σ a v} (h : Rep1 w own σ a v) : RepA w own σ a v := by cases a <;> first | exact h | exact h.elim

section
variable {w w' : World} {own own' : Nat → Prop} {σ σ' : Sg}
/-- What a call leaves: what it does not own, and was there, is as it was. -/
structure Keeps (w : World) (own : Nat → Prop) (w' : World) (own' : Nat → Prop) : Prop where
  size : w.heap.size ≤ w'.heap.size
  block : ∀ b, b < w.heap.size → ¬ own b → w'.heap[b]? = w.heap[b]?
  own : ∀ b, own' b → own b ∨ w.heap.size ≤ b
theorem Keeps.cell (h : Keeps w own w' own') {b off : Nat} (hb : b < w.heap.size) (ho : ¬ own b) : w'.cell? ⟨b, off, none⟩ = w.cell? ⟨b, off, none⟩ :=
  World.cell?_of_block (w := w) (h.block b hb ho)
theorem Keeps.refl : Keeps w own w own := ⟨Nat.le_refl _, fun _ _ _ => rfl, fun _ h => .inl h⟩
theorem RepD.mono (hk : Keeps w own w' own') : ∀ {t : Ty} {x : t.D} {g g' : Cells}, (∀ j v, g j = some v → g' j = some v) → RepD w own t x g → RepD w' own' t x g'
  | .i _, _, _, _, hg, h => hg _ _ h
  | .bo, _, _, _, hg, h => hg _ _ h
  | .st, _, _, _, hg, h => hg _ _ h
  | .f _, _, _, _, hg, h => hg _ _ h
  | .sl e, _, _, _, hg, ⟨v, h0, h⟩ => ⟨v, hg _ _ h0, h.imp id fun ⟨b, off, c, h1, h2, h3, h4, h5, h6⟩ =>
      ⟨b, off, c, h1, h2, h3, fun hb => (hk.own b hb).elim h4 (fun h' => by omega), Nat.lt_of_lt_of_le h5 hk.size, fun i x hx => RepD.mono hk (fun j v hv => by rw [hk.cell h5 h4]; exact hv) (h6 i x hx)⟩⟩
  | .pr a b, _, _, _, hg, ⟨h1, h2⟩ => ⟨RepD.mono hk hg h1, RepD.mono hk (fun j v hv => hg _ _ hv) h2⟩
  | .ar n e, _, _, _, hg, ⟨h1, h2⟩ => ⟨h1, fun i x hx => RepD.mono hk (fun j v hv => hg _ _ hv) (h2 i x hx)⟩
theorem RepSl.mono (hk : Keeps w own w' own') {e : Ty} {xs : List e.D} {v : Value} (h : RepSl w own e xs v) : RepSl w' own' e xs v := by
  have : RepD w own (.sl e) xs (fun _ => some v) := ⟨v, rfl, h⟩
  obtain ⟨u, hu, h'⟩ := RepD.mono hk (g' := fun _ => some v) (fun _ _ h => h) this
  cases hu
  exact h'
theorem RepD.cells {t : Ty} {x : t.D} {g g' : Cells} (hg : ∀ j v, g j = some v → g' j = some v) (h : RepD w own t x g) : RepD w own t x g' := RepD.mono Keeps.refl hg h
/-- Only the thing's own cells count. -/
theorem RepD.only : ∀ {t : Ty} {x : t.D} {g g' : Cells}, (∀ j v, j < t.sz → g j = some v → g' j = some v) → RepD w own t x g → RepD w own t x g'
  | .i _, _, _, _, hg, h => hg _ _ (by simp [Ty.sz]) h
  | .bo, _, _, _, hg, h => hg _ _ (by simp [Ty.sz]) h
  | .st, _, _, _, hg, h => hg _ _ (by simp [Ty.sz]) h
  | .f _, _, _, _, hg, h => hg _ _ (by simp [Ty.sz]) h
  | .sl e, _, _, _, hg, ⟨v, h0, h⟩ => ⟨v, hg _ _ (by simp [Ty.sz]) h0, h⟩
  | .pr a b, _, _, _, hg, ⟨h1, h2⟩ => ⟨RepD.only (fun j v hj => hg _ _ (by simp [Ty.sz]; omega)) h1, RepD.only (fun j v hj hv => hg _ _ (by simp [Ty.sz]; omega) hv) h2⟩
  | .ar n e, xs, g, g', hg, ⟨h1, h2⟩ => ⟨h1, fun i x hx => RepD.only (fun j v hj hv => hg _ _ (by
      have hi : i < n := by obtain ⟨hi, _⟩ := List.getElem?_eq_some_iff.1 hx; omega
      simp only [Ty.sz]
      calc i * e.sz + j < i * e.sz + e.sz := by omega
        _ = (i + 1) * e.sz := by rw [Nat.add_mul, Nat.one_mul]
        _ ≤ n * e.sz := Nat.mul_le_mul_right _ hi) hv) (h2 i x hx)⟩
theorem Rep.mono (hk : Keeps w own w' own') (hs : ∀ id x, σ id = some x → σ' id = some x) {c : CV} {v : Value} (h : Rep w own σ c v) : Rep w' own' σ' c v := by
  cases c with
  | v x => exact h
  | e0 => exact h
  | ptr id i e j => obtain ⟨b, base, ext, h1, h2⟩ := h; exact ⟨b, base, ext, hs _ _ h1, h2⟩
  | sl id o len e => exact h.imp (fun h => h) fun ⟨b, base, ext, c, h1, h2⟩ => ⟨b, base, ext, c, hs _ _ h1, h2⟩
  | rs t xs => exact RepSl.mono hk h
  | rp t xs i j =>
    obtain ⟨b, off, h1, h2, h3, h4⟩ := h
    exact ⟨b, off, h1, fun hb => (hk.own b hb).elim h2 (fun h' => by omega), Nat.lt_of_lt_of_le h3 hk.size, fun i x hx => RepD.mono hk (fun j v hv => by rw [hk.cell h3 h2]; exact hv) (h4 i x hx)⟩
  | fn f ids => obtain ⟨ps, h1, h2, h3⟩ := h; exact ⟨ps, h1, h2, fun k id hk' => by obtain ⟨b, base, ext, h4, h5⟩ := h3 k id hk'; exact ⟨b, base, ext, hs _ _ h4, h5⟩⟩
  | ub => exact h
theorem RowRep.mono (hk : Keeps w own w' own') (hs : ∀ id x, σ id = some x → σ' id = some x) {r : Row} {g g' : Cells} (hg : ∀ j v, g j = some v → g' j = some v) (h : RowRep w own σ r g) : RowRep w' own' σ' r g' := by
  cases r with
  | raw l => exact fun i c hc => by obtain ⟨v, h1, h2⟩ := h i c hc; exact ⟨v, hg _ _ h1, h2.mono hk hs⟩
  | ty t xs => exact fun i x hx => RepD.mono hk (fun j v hv => hg _ _ hv) (h i x hx)
theorem RowRep.only {r : Row} {g g' : Cells} (hg : ∀ j v, j < r.size → g j = some v → g' j = some v) (h : RowRep w own σ r g) : RowRep w own σ r g' := by
  cases r with
  | raw l => exact fun i c hc => by obtain ⟨v, h1, h2⟩ := h i c hc; exact ⟨v, hg _ _ (List.getElem?_eq_some_iff.1 hc).1 h1, h2⟩
  | ty t xs => exact fun i x hx => RepD.only (fun j v hj hv => hg _ _ (by
      have hi : i < xs.length := (List.getElem?_eq_some_iff.1 hx).1
      simp only [Row.size]
      calc i * t.sz + j < i * t.sz + t.sz := by omega
        _ = (i + 1) * t.sz := by rw [Nat.add_mul, Nat.one_mul]
        _ ≤ xs.length * t.sz := Nat.mul_le_mul_right _ hi) hv) (h i x hx)
theorem Rep1.mono (hk : Keeps w own w' own') (hs : ∀ id x, σ id = some x → σ' id = some x) {a : AV} {v : Value} (h : Rep1 w own σ a v) : Rep1 w' own' σ' a v := by
  cases a with
  | c x => exact Rep.mono hk hs h
  | agg r => obtain ⟨vs, h1, h2, h3⟩ := h; exact ⟨vs, h1, h2, h3.mono hk hs (fun _ _ h => h)⟩
  | tup l => exact h
theorem RepA.mono (hk : Keeps w own w' own') (hs : ∀ id x, σ id = some x → σ' id = some x) {a : AV} {v : Value} (h : RepA w own σ a v) : RepA w' own' σ' a v := by
  cases a with
  | c x => exact Rep.mono hk hs h
  | agg r => obtain ⟨vs, h1, h2, h3⟩ := h; exact ⟨vs, h1, h2, h3.mono hk hs (fun _ _ h => h)⟩
  | tup l => obtain ⟨vs, h1, h2, h3⟩ := h; exact ⟨vs, h1, h2, fun i a ha => by obtain ⟨v, h4, h5⟩ := h3 i a ha; exact ⟨v, h4, h5.mono hk hs⟩⟩

/-! ### What the functions on rows say -/
theorem mul_add_lt {i n e j : Nat} (hi : i < n) (hj : j < e) : i * e + j < n * e :=
  calc i * e + j < i * e + e := by omega
    _ = (i + 1) * e := by rw [Nat.add_mul, Nat.one_mul]
    _ ≤ n * e := Nat.mul_le_mul_right _ hi
theorem enc_rep : ∀ {t : Ty} {x : t.D} {g : Cells} {j : Nat} {c : CV}, RepD w own t x g → enc t x j = some c → ∃ v, g j = some v ∧ Rep w own σ c v
  | .i k, n, g, j, c, h, he => by
    simp only [enc] at he; split at he
    · cases he; subst j; exact ⟨_, h, rfl, rfl⟩
    · cases he
  | .bo, n, g, j, c, h, he => by
    simp only [enc] at he; split at he
    · cases he; subst j; exact ⟨_, h, rfl, rfl⟩
    · cases he
  | .st, n, g, j, c, h, he => by
    simp only [enc] at he; split at he
    · cases he; subst j; exact ⟨_, h, rfl, rfl⟩
    · cases he
  | .f _, n, g, j, c, h, he => by
    simp only [enc] at he; split at he
    · cases he; subst j; exact ⟨_, h, rfl, rfl⟩
    · cases he
  | .sl e, n, g, j, c, h, he => by
    simp only [enc] at he; split at he
    · cases he; subst j; obtain ⟨v, h1, h2⟩ := h; exact ⟨v, h1, h2⟩
    · cases he
  | .pr a b, x, g, j, c, h, he => by
    simp only [enc] at he; split at he
    · exact enc_rep h.1 he
    · rename_i hlt
      obtain ⟨v, h1, h2⟩ := enc_rep h.2 he
      exact ⟨v, by rwa [show a.sz + (j - a.sz) = j by omega] at h1, h2⟩
  | .ar n e, xs, g, j, c, h, he => by
    simp only [enc] at he; split at he
    · rename_i x hx
      obtain ⟨v, h1, h2⟩ := enc_rep (h.2 _ x hx) he
      refine ⟨v, ?_, h2⟩
      rwa [show j / e.sz * e.sz + j % e.sz = j from by rw [Nat.mul_comm]; exact Nat.div_add_mod _ _] at h1
    · cases he
theorem RepSl_cast {e e' : Ty} (h : e' = e) {xs : List e'.D} {v : Value} (hr : RepSl w own e' xs v) : RepSl w own e (h ▸ xs) v := by subst h; exact hr
/-- Kinds of one cell. -/
def Ty.isLeaf : Ty → Bool
  | .pr _ _ => false | .ar _ _ => false | _ => true
theorem leaf_rep {t : Ty} {c : CV} {x : t.D} {v : Value} {g : Cells} (he : leaf t c = some x) (hr : Rep w own σ c v) (hg : g 0 = some v) : RepD w own t x g := by
  unfold leaf at he
  split at he
  · split at he
    · rename_i hk; cases he; obtain ⟨rfl, -⟩ := hr; subst hk; exact hg
    · cases he
  · cases he; obtain ⟨rfl, -⟩ := hr; exact hg
  · cases he; obtain ⟨rfl, -⟩ := hr; exact hg
  · split at he
    · rename_i hk; cases he; obtain ⟨rfl, -⟩ := hr; subst hk; exact hg
    · cases he
  · split at he
    · rename_i hk; cases he; exact ⟨v, hg, RepSl_cast hk hr⟩
    · cases he
  · cases he; obtain ⟨rfl, -⟩ := hr; exact ⟨_, hg, .inl ⟨rfl, _, _, rfl⟩⟩
  · cases he; obtain ⟨a, rfl⟩ := hr; exact ⟨_, hg, .inl ⟨rfl, _, _, rfl⟩⟩
  · cases he
theorem if0 {α : Type} {j : Nat} {x : Option α} {y : α} (h : (if j = 0 then x else none) = some y) : j = 0 ∧ x = some y := by
  split at h
  · exact ⟨‹_›, h⟩
  · cases h
theorem setD_lt : ∀ {t : Ty} {x y : t.D} {j : Nat} {c : CV} {g : Cells}, RepD w own t x g → setD t x j c = some y → j < t.sz
  | .i k, _, _, j, c, _, h, he => by obtain ⟨rfl, -⟩ := if0 he; simp [Ty.sz]
  | .bo, _, _, j, c, _, h, he => by obtain ⟨rfl, -⟩ := if0 he; simp [Ty.sz]
  | .st, _, _, j, c, _, h, he => by obtain ⟨rfl, -⟩ := if0 he; simp [Ty.sz]
  | .f _, _, _, j, c, _, h, he => by obtain ⟨rfl, -⟩ := if0 he; simp [Ty.sz]
  | .sl e, _, _, j, c, _, h, he => by obtain ⟨rfl, -⟩ := if0 he; simp [Ty.sz]
  | .pr a b, x, y, j, c, g, h, he => by
    simp only [setD] at he
    split at he
    · simp [Ty.sz]; omega
    · obtain ⟨z, hz, -⟩ := Option.map_eq_some_iff.1 he
      have := setD_lt h.2 hz
      simp [Ty.sz]; omega
  | .ar n e, xs, y, j, c, g, h, he => by
    simp only [setD] at he
    split at he
    · rename_i x hx
      obtain ⟨z, hz, -⟩ := Option.map_eq_some_iff.1 he
      have h1 := setD_lt (h.2 _ x hx) hz
      have hi : j / e.sz < n := by obtain ⟨hi, _⟩ := List.getElem?_eq_some_iff.1 hx; rw [← h.1]; exact hi
      have := mul_add_lt hi h1
      rwa [show j / e.sz * e.sz + j % e.sz = j from by rw [Nat.mul_comm]; exact Nat.div_add_mod _ _] at this
    · cases he
theorem setD_rep : ∀ {t : Ty} {x y : t.D} {g g' : Cells} {j : Nat} {c : CV} {v : Value}, RepD w own t x g → setD t x j c = some y → Rep w own σ c v → g' j = some v → (∀ k, k ≠ j → g' k = g k) → RepD w own t y g'
  | .i k, _, y, g, g', j, c, v, h, he, hr, h1, h2 => by obtain ⟨rfl, he⟩ := if0 he; exact leaf_rep he hr h1
  | .bo, _, y, g, g', j, c, v, h, he, hr, h1, h2 => by obtain ⟨rfl, he⟩ := if0 he; exact leaf_rep he hr h1
  | .st, _, y, g, g', j, c, v, h, he, hr, h1, h2 => by obtain ⟨rfl, he⟩ := if0 he; exact leaf_rep he hr h1
  | .f k, _, y, g, g', j, c, v, h, he, hr, h1, h2 => by obtain ⟨rfl, he⟩ := if0 he; exact leaf_rep he hr h1
  | .sl e, _, y, g, g', j, c, v, h, he, hr, h1, h2 => by obtain ⟨rfl, he⟩ := if0 he; exact leaf_rep he hr h1
  | .pr a b, x, y, g, g', j, c, v, h, he, hr, h1, h2 => by
    simp only [setD] at he
    split at he
    · rename_i hlt
      obtain ⟨z, hz, rfl⟩ := Option.map_eq_some_iff.1 he
      exact ⟨setD_rep h.1 hz hr h1 h2, RepD.cells (fun k u hu => by rw [h2 _ (by omega)]; exact hu) h.2⟩
    · rename_i hlt
      obtain ⟨z, hz, rfl⟩ := Option.map_eq_some_iff.1 he
      refine ⟨RepD.only (fun k u hk hu => by rw [h2 _ (by omega)]; exact hu) h.1, setD_rep h.2 hz hr ?_ ?_⟩
      · show g' (a.sz + (j - a.sz)) = _
        rw [show a.sz + (j - a.sz) = j by omega]; exact h1
      · exact fun k hk => h2 _ (by omega)
  | .ar n e, xs, y, g, g', j, c, v, h, he, hr, h1, h2 => by
    simp only [setD] at he
    split at he
    · rename_i x hx
      obtain ⟨z, hz, rfl⟩ := Option.map_eq_some_iff.1 he
      have hjj : j / e.sz * e.sz + j % e.sz = j := by rw [Nat.mul_comm]; exact Nat.div_add_mod _ _
      have hlt := setD_lt (h.2 _ x hx) hz
      refine ⟨by rw [List.length_set]; exact h.1, fun i u hu => ?_⟩
      by_cases hi : j / e.sz = i
      · subst hi
        have hil : j / e.sz < xs.length := (List.getElem?_eq_some_iff.1 hx).1
        rw [List.getElem?_set_self hil] at hu
        cases hu
        refine setD_rep (h.2 _ x hx) hz hr ?_ ?_
        · show g' (j / e.sz * e.sz + j % e.sz) = _
          rw [hjj]; exact h1
        · exact fun k hk => h2 _ (by omega)
      · rw [List.getElem?_set_ne hi] at hu
        refine RepD.only (fun k u' hk hu' => ?_) (h.2 i u hu)
        have hne : i * e.sz + k ≠ j := fun heq => hi (by
          rw [← heq, Nat.mul_comm, Nat.mul_add_div (by omega), Nat.div_eq_of_lt hk]; rfl)
        show g' (i * e.sz + k) = _
        rw [h2 _ hne]; exact hu'
    · cases he
theorem one_of {α : Type} {l : List CV} {f : CV → Option α} {y : α} (h : (match l with | [c] => f c | _ => none) = some y) : ∃ c, l = [c] ∧ f c = some y := by
  split at h
  · exact ⟨_, rfl, h⟩
  · cases h
theorem decF_len {α : Type} {f : List CV → Option α} {sz : Nat} (hf : ∀ l x, f l = some x → l.length = sz) : ∀ {n : Nat} {l : List CV} {xs : List α}, decF f sz n l = some xs → xs.length = n ∧ l.length = n * sz
  | 0, l, xs, h => by
    simp only [decF] at h
    split at h
    · rename_i h0; cases h; exact ⟨rfl, by simp [h0]⟩
    · cases h
  | n + 1, l, xs, h => by
    simp only [decF] at h
    split at h
    · rename_i x ys h1 h2
      cases h
      have e1 := hf _ _ h1
      obtain ⟨e2, e3⟩ := decF_len hf h2
      rw [List.length_take] at e1
      rw [List.length_drop] at e3
      exact ⟨by simp [e2], by rw [Nat.add_mul]; omega⟩
    · cases h
theorem decD_len : ∀ {t : Ty} {l : List CV} {x : t.D}, decD t l = some x → l.length = t.sz := by
  intro t
  induction t with
  | i k => intro l x h; obtain ⟨c, rfl, -⟩ := one_of h; rfl
  | bo => intro l x h; obtain ⟨c, rfl, -⟩ := one_of h; rfl
  | st => intro l x h; obtain ⟨c, rfl, -⟩ := one_of h; rfl
  | f k => intro l x h; obtain ⟨c, rfl, -⟩ := one_of h; rfl
  | sl e => intro l x h; obtain ⟨c, rfl, -⟩ := one_of h; rfl
  | ar n e ih => intro l x h; exact (decF_len (fun _ _ h => ih h) h).2
  | pr a b iha ihb =>
    intro l x h
    simp only [decD] at h
    split at h
    · rename_i x y h1 h2
      have e1 := iha h1
      have e2 := ihb h2
      rw [List.length_take] at e1
      rw [List.length_drop] at e2
      simp [Ty.sz]; omega
    · cases h
theorem RepD.there : ∀ {t : Ty} {x : t.D} {g : Cells}, RepD w own t x g → ∀ j, j < t.sz → ∃ v, g j = some v ∧ v.oneCell' = true
  | .i k, n, g, h, j, hj => by simp only [Ty.sz] at hj; obtain rfl : j = 0 := (by omega); exact ⟨_, h, rfl⟩
  | .bo, n, g, h, j, hj => by simp only [Ty.sz] at hj; obtain rfl : j = 0 := (by omega); exact ⟨_, h, rfl⟩
  | .st, n, g, h, j, hj => by simp only [Ty.sz] at hj; obtain rfl : j = 0 := (by omega); exact ⟨_, h, rfl⟩
  | .f k, n, g, h, j, hj => by simp only [Ty.sz] at hj; obtain rfl : j = 0 := (by omega); exact ⟨_, h, rfl⟩
  | .sl e, n, g, h, j, hj => by
    simp only [Ty.sz] at hj; obtain rfl : j = 0 := by omega
    obtain ⟨v, h1, h2⟩ := h
    refine ⟨v, h1, ?_⟩
    rcases h2 with ⟨-, a, c, rfl⟩ | ⟨b, off, c, rfl, -⟩ <;> rfl
  | .pr a b, x, g, h, j, hj => by
    simp only [Ty.sz] at hj
    by_cases hlt : j < a.sz
    · exact RepD.there h.1 j hlt
    · obtain ⟨v, h1, h2⟩ := RepD.there h.2 (j - a.sz) (by omega)
      exact ⟨v, by rwa [show a.sz + (j - a.sz) = j by omega] at h1, h2⟩
  | .ar n e, xs, g, h, j, hj => by
    simp only [Ty.sz] at hj
    have he : 0 < e.sz := by
      rcases Nat.eq_zero_or_pos e.sz with h0 | h0
      · rw [h0] at hj; simp at hj
      · exact h0
    have hi : j / e.sz < xs.length := by rw [h.1]; exact (Nat.div_lt_iff_lt_mul he).2 hj
    obtain ⟨v, h1, h2⟩ := RepD.there (h.2 (j / e.sz) _ (List.getElem?_eq_getElem hi)) (j % e.sz) (Nat.mod_lt _ he)
    exact ⟨v, by rwa [show j / e.sz * e.sz + j % e.sz = j from by rw [Nat.mul_comm]; exact Nat.div_add_mod _ _] at h1, h2⟩
theorem Rep.one {c : CV} {v : Value} (h : Rep w own σ c v) : v.oneCell' = true := by
  cases c with
  | v x => obtain ⟨rfl, h⟩ := h; exact h
  | e0 => obtain ⟨a, rfl⟩ := h; rfl
  | ptr id i e j => obtain ⟨b, base, ext, -, rfl⟩ := h; rfl
  | sl id o len e => rcases h with ⟨-, a, rfl⟩ | ⟨b, base, ext, c, -, rfl, -⟩ <;> rfl
  | rs t xs => rcases h with ⟨-, a, c, rfl⟩ | ⟨b, off, c, rfl, -⟩ <;> rfl
  | rp t xs i j => obtain ⟨b, off, rfl, -⟩ := h; rfl
  | fn f ids => obtain ⟨ps, rfl, -⟩ := h; rfl
  | ub => obtain ⟨b, rfl⟩ := h; rfl
theorem RowRep.there {r : Row} {g : Cells} (h : RowRep w own σ r g) : ∀ j, j < r.size → ∃ v, g j = some v ∧ v.oneCell' = true := by
  cases r with
  | raw l => exact fun j hj => by obtain ⟨v, h1, h2⟩ := h j _ (List.getElem?_eq_getElem hj); exact ⟨v, h1, h2.one⟩
  | ty t xs =>
    intro j hj
    simp only [Row.size] at hj
    have he : 0 < t.sz := by
      rcases Nat.eq_zero_or_pos t.sz with h0 | h0
      · rw [h0] at hj; simp at hj
      · exact h0
    have hi : j / t.sz < xs.length := (Nat.div_lt_iff_lt_mul he).2 hj
    obtain ⟨v, h1, h2⟩ := RepD.there (h (j / t.sz) _ (List.getElem?_eq_getElem hi)) (j % t.sz) (Nat.mod_lt _ he)
    exact ⟨v, by rwa [show j / t.sz * t.sz + j % t.sz = j from by rw [Nat.mul_comm]; exact Nat.div_add_mod _ _] at h1, h2⟩
/-- The cells as a list. -/
theorem RowRep.list {r : Row} {g : Cells} (h : RowRep w own σ r g) : ∃ vs : List Value, vs.length = r.size ∧ (∀ (j : Nat) v, vs[j]? = some v → g j = some v) ∧ (∀ v ∈ vs, v.oneCell' = true) ∧ RowRep w own σ r (fun j => vs[j]?) := by
  refine ⟨(List.range r.size).map fun j => (g j).getD undef, by simp, fun j v hv => ?_, fun v hv => ?_, RowRep.only (fun j v hj hv => ?_) h⟩
  · rw [List.getElem?_map] at hv
    obtain ⟨k, hk, rfl⟩ := Option.map_eq_some_iff.1 hv
    obtain ⟨hl, hk⟩ := List.getElem?_eq_some_iff.1 hk
    rw [List.getElem_range] at hk
    subst hk
    obtain ⟨v, h1, -⟩ := h.there j (by simpa using hl)
    rw [h1]; rfl
  · obtain ⟨j, hj, rfl⟩ := List.mem_map.1 hv
    obtain ⟨v, h1, h2⟩ := h.there j (by simpa using hj)
    rw [h1]; exact h2
  · rw [List.getElem?_map, List.getElem?_range hj, Option.map_some, hv]; rfl
/-- Cells one behind the other, from cell o on. -/
def LRep (w : World) (own : Nat → Prop) (σ : Sg) (l : List CV) (g : Cells) : Prop := ∀ (i : Nat) c, l[i]? = some c → ∃ v, g i = some v ∧ Rep w own σ c v
theorem LRep.take {l : List CV} {g : Cells} (h : LRep w own σ l g) (n : Nat) : LRep w own σ (l.take n) g := fun i c hc => by
  rw [List.getElem?_take] at hc
  split at hc
  · exact h i c hc
  · cases hc
theorem LRep.drop {l : List CV} {g : Cells} (h : LRep w own σ l g) (n : Nat) : LRep w own σ (l.drop n) (fun j => g (n + j)) := fun i c hc => by
  rw [List.getElem?_drop] at hc
  exact h _ c hc
theorem LRep.append {l l' : List CV} {g : Cells} (h : LRep w own σ l g) (h' : LRep w own σ l' (fun j => g (l.length + j))) : LRep w own σ (l ++ l') g := fun i c hc => by
  by_cases hi : i < l.length
  · rw [List.getElem?_append_left hi] at hc; exact h i c hc
  · rw [List.getElem?_append_right (by omega)] at hc
    obtain ⟨v, h1, h2⟩ := h' _ c hc
    have h1' : g (l.length + (i - l.length)) = some v := h1
    exact ⟨v, by rwa [show l.length + (i - l.length) = i by omega] at h1', h2⟩
theorem decF_rep {t : Ty} {f : List CV → Option t.D} (hlen : ∀ l x, f l = some x → l.length = t.sz) (hf : ∀ {l : List CV} {x : t.D} {g : Cells}, LRep w own σ l g → f l = some x → RepD w own t x g) :
    ∀ {n : Nat} {l : List CV} {xs : List t.D} {g : Cells}, LRep w own σ l g → decF f t.sz n l = some xs → ∀ (i : Nat) x, xs[i]? = some x → RepD w own t x (fun j => g (i * t.sz + j))
  | 0, l, xs, g, hl, h => by
    simp only [decF] at h
    split at h
    · cases h; exact fun i x hx => by simp at hx
    · cases h
  | n + 1, l, xs, g, hl, h => by
    simp only [decF] at h
    split at h
    · rename_i x ys h1 h2
      cases h
      intro i z hz
      cases i with
      | zero => simp at hz; subst hz; exact RepD.cells (fun j v hv => by simpa using hv) (hf (hl.take _) h1)
      | succ i => exact RepD.cells (fun j v hv => by rw [Nat.add_mul, Nat.one_mul, show i * t.sz + t.sz + j = t.sz + (i * t.sz + j) by omega]; exact hv) (decF_rep hlen hf (hl.drop _) h2 i z (by simpa using hz))
    · cases h
theorem decD_rep : ∀ {t : Ty} {l : List CV} {x : t.D} {g : Cells}, LRep w own σ l g → decD t l = some x → RepD w own t x g := by
  intro t
  induction t with
  | i k => intro l x g hl h; obtain ⟨c, rfl, h⟩ := one_of h; obtain ⟨v, h1, h2⟩ := hl 0 c rfl; exact leaf_rep h h2 h1
  | bo => intro l x g hl h; obtain ⟨c, rfl, h⟩ := one_of h; obtain ⟨v, h1, h2⟩ := hl 0 c rfl; exact leaf_rep h h2 h1
  | st => intro l x g hl h; obtain ⟨c, rfl, h⟩ := one_of h; obtain ⟨v, h1, h2⟩ := hl 0 c rfl; exact leaf_rep h h2 h1
  | f k => intro l x g hl h; obtain ⟨c, rfl, h⟩ := one_of h; obtain ⟨v, h1, h2⟩ := hl 0 c rfl; exact leaf_rep h h2 h1
  | sl e => intro l x g hl h; obtain ⟨c, rfl, h⟩ := one_of h; obtain ⟨v, h1, h2⟩ := hl 0 c rfl; exact leaf_rep h h2 h1
  | ar n e ih => intro l x g hl h; exact ⟨(decF_len (fun _ _ h => decD_len h) h).1, decF_rep (fun _ _ h => decD_len h) (fun hl h => ih hl h) hl h⟩
  | pr a b iha ihb =>
    intro l x g hl h
    simp only [decD] at h
    split at h
    · rename_i x y h1 h2
      cases h
      exact ⟨iha (hl.take _) h1, ihb (hl.drop _) h2⟩
    · cases h
theorem decs_rep {t : Ty} {n : Nat} {l : List CV} {xs : List t.D} {g : Cells} (hl : LRep w own σ l g) (h : decs t n l = some xs) : xs.length = n ∧ l.length = n * t.sz ∧ ∀ (i : Nat) x, xs[i]? = some x → RepD w own t x (fun j => g (i * t.sz + j)) :=
  ⟨(decF_len (fun _ _ h => decD_len h) h).1, (decF_len (fun _ _ h => decD_len h) h).2, decF_rep (fun _ _ h => decD_len h) (fun hl h => decD_rep hl h) hl h⟩
theorem one_list {t : Ty} {x : t.D} {g : Cells} (h : RepD w own t x g) : ∀ (i : Nat) y, [x][i]? = some y → RepD w own t y (fun j => g (i * t.sz + j)) := fun i y hy => by
  cases i with
  | zero => simp at hy; subst hy; exact RepD.cells (fun j v hv => by simpa using hv) h
  | succ i => simp at hy
theorem oneRow_rep : ∀ {t : Ty} {x : t.D} {g : Cells}, RepD w own t x g → RowRep w own σ (oneRow t x) g ∧ (oneRow t x).size = t.sz
  | .i k, _, _, h => ⟨one_list h, by simp [oneRow, Row.size]⟩
  | .bo, _, _, h => ⟨one_list h, by simp [oneRow, Row.size]⟩
  | .st, _, _, h => ⟨one_list h, by simp [oneRow, Row.size]⟩
  | .f k, _, _, h => ⟨one_list h, by simp [oneRow, Row.size]⟩
  | .sl e, _, _, h => ⟨one_list h, by simp [oneRow, Row.size]⟩
  | .pr a b, _, _, h => ⟨one_list h, by simp [oneRow, Row.size]⟩
  | .ar n e, xs, _, h => ⟨h.2, by simp only [oneRow, Row.size, Ty.sz, h.1]⟩
theorem subD_rep : ∀ {t : Ty} {x : t.D} {g : Cells} {j n : Nat} {r : Row}, RepD w own t x g → subD t x j n = some r → RowRep w own σ r (fun k => g (j + k)) ∧ r.size = n ∧ j + n ≤ t.sz := by
  intro t
  induction t with
  | i k => intro x g j n r h he; cases he
  | bo => intro x g j n r h he; cases he
  | st => intro x g j n r h he; cases he
  | f k => intro x g j n r h he; cases he
  | sl e => intro x g j n r h he; cases he
  | ar m e => intro x g j n r h he; cases he
  | pr a b iha ihb =>
    intro x g j n r h he
    simp only [subD] at he
    split at he
    · split at he
      · rename_i h0
        cases he
        obtain ⟨rfl, rfl⟩ := h0
        obtain ⟨h1, h2⟩ := oneRow_rep (σ := σ) h.1
        exact ⟨RowRep.only (fun k v _ hv => by simpa using hv) h1, h2, by simp [Ty.sz]⟩
      · obtain ⟨h1, h2, h3⟩ := iha h.1 he
        exact ⟨h1, h2, by simp only [Ty.sz]; omega⟩
    · split at he
      · rename_i hle
        split at he
        · rename_i h0
          cases he
          obtain ⟨rfl, rfl⟩ := h0
          obtain ⟨h1, h2⟩ := oneRow_rep (σ := σ) h.2
          exact ⟨h1, h2, by simp [Ty.sz]⟩
        · obtain ⟨h1, h2, h3⟩ := ihb h.2 he
          exact ⟨RowRep.only (fun k v _ hv => by rw [show j + k = a.sz + (j - a.sz + k) by omega]; exact hv) h1, h2, by simp only [Ty.sz]; omega⟩
      · cases he
theorem cast_len {t t' : Ty} (h : t' = t) (xs : List t'.D) : (h ▸ xs : List t.D).length = xs.length := by subst h; rfl
theorem as_rep {t : Ty} {r : Row} {xs : List t.D} {g : Cells} (hr : RowRep w own σ r g) (h : r.as t = some xs) : (∀ (i : Nat) x, xs[i]? = some x → RepD w own t x (fun j => g (i * t.sz + j))) ∧ r.size = xs.length * t.sz := by
  cases r with
  | ty t' ys =>
    simp only [Row.as] at h
    split at h
    · rename_i ht; subst ht; cases h; exact ⟨hr, rfl⟩
    · cases h
  | raw l =>
    simp only [Row.as] at h
    split at h
    · cases h
    · obtain ⟨h1, h2, h3⟩ := decs_rep hr h
      exact ⟨h3, by rw [h1]; exact h2⟩
theorem single {t : Ty} {r : Row} {x : t.D} {g : Cells} (hr : RowRep w own σ r g) (h : single? (r.as t) = some x) : RepD w own t x g ∧ r.size = t.sz := by
  unfold single? at h
  split at h
  · rename_i y hy
    cases h
    obtain ⟨h1, h2⟩ := as_rep hr hy
    exact ⟨RepD.cells (fun j v hv => by simpa using hv) (h1 0 x rfl), by simpa using h2⟩
  · cases h
theorem rowOne_rep : ∀ {t : Ty} {r : Row} {x : t.D} {g : Cells}, RowRep w own σ r g → Row.one t r = some x → RepD w own t x g ∧ r.size = t.sz
  | .i k, _, _, _, hr, h => single hr h
  | .bo, _, _, _, hr, h => single hr h
  | .st, _, _, _, hr, h => single hr h
  | .f k, _, _, _, hr, h => single hr h
  | .sl e, _, _, _, hr, h => single hr h
  | .pr a b, _, _, _, hr, h => single hr h
  | .ar n e, r, x, g, hr, h => by
    simp only [Row.one] at h
    split at h
    · rename_i xs hxs
      split at h
      · cases h
        obtain ⟨h1, h2⟩ := as_rep hr hxs
        exact ⟨⟨‹_›, h1⟩, by rw [h2]; simp only [Ty.sz]; rw [‹x.length = n›]⟩
      · cases h
    · cases h
theorem at0_rep {r : Row} {i e j : Nat} {c : CV} {g : Cells} (hr : RowRep w own σ r g) (h : r.at0 i e j = some c) : ∃ v, g (i * e + j) = some v ∧ Rep w own σ c v := by
  cases r with
  | raw l => exact hr _ c h
  | ty t xs =>
    simp only [Row.at0] at h
    split at h
    · rename_i he
      subst he
      split at h
      · rename_i x hx
        obtain ⟨v, h1, h2⟩ := enc_rep (σ := σ) (hr i x hx) h
        exact ⟨v, h1, h2⟩
      · cases h
    · split at h
      · rename_i x
        obtain ⟨v, h1, h2⟩ := enc_rep (σ := σ) (hr 0 x rfl) h
        exact ⟨v, by simpa using h1, h2⟩
      · cases h
theorem sub0_rep {r r' : Row} {i e j n : Nat} {g : Cells} (hr : RowRep w own σ r g) (h : r.sub0 i e j n = some r') : RowRep w own σ r' (fun k => g (i * e + j + k)) ∧ r'.size = n ∧ i * e + j + n ≤ r.size := by
  cases r with
  | raw l =>
    simp only [Row.sub0] at h
    split at h
    · cases h
      exact ⟨(LRep.drop hr _).take _, by simp only [Row.size, List.length_take, List.length_drop]; omega, ‹_›⟩
    · cases h
  | ty t xs =>
    have lt_le : ∀ {k m : Nat}, k < xs.length → m ≤ t.sz → k * t.sz + m ≤ xs.length * t.sz := fun {k m} hk hm => by
      have := Nat.mul_le_mul_right t.sz (show k + 1 ≤ xs.length from hk)
      rw [Nat.add_mul, Nat.one_mul] at this; omega
    simp only [Row.sub0] at h
    split at h
    · rename_i h0
      obtain ⟨rfl, rfl, rfl⟩ := h0
      split at h
      · rename_i x hx
        cases h
        obtain ⟨h1, h2⟩ := oneRow_rep (σ := σ) (hr i x hx)
        exact ⟨h1, h2, lt_le (List.getElem?_eq_some_iff.1 hx).1 (Nat.le_refl _)⟩
      · cases h
    · split at h
      · rename_i h0
        cases h
        obtain ⟨rfl, rfl, rfl⟩ := h0
        exact ⟨RowRep.only (fun k v _ hv => by simpa using hv) hr, rfl, by simp [Row.size]⟩
      · split at h
        · rename_i he
          subst he
          split at h
          · rename_i x hx
            obtain ⟨h1, h2, h3⟩ := subD_rep (σ := σ) (hr i x hx) h
            exact ⟨RowRep.only (fun k v _ hv => by rw [Nat.add_assoc]; exact hv) h1, h2, by rw [Nat.add_assoc]; exact lt_le (List.getElem?_eq_some_iff.1 hx).1 h3⟩
          · cases h
        · cases h
theorem put0_rep {r r' : Row} {i e j : Nat} {c : CV} {v : Value} {g g' : Cells} (hr : RowRep w own σ r g) (h : r.put0 i e j c = some r') (hc : Rep w own σ c v) (h1 : g' (i * e + j) = some v) (h2 : ∀ k, k ≠ i * e + j → g' k = g k) :
    RowRep w own σ r' g' ∧ r'.size = r.size ∧ i * e + j < r.size := by
  cases r with
  | raw l =>
    simp only [Row.put0] at h
    split at h
    · rename_i hlt
      cases h
      refine ⟨fun k d hd => ?_, by simp [Row.size], hlt⟩
      by_cases hk : i * e + j = k
      · subst hk
        rw [List.getElem?_set_self hlt] at hd
        cases hd
        exact ⟨v, h1, hc⟩
      · rw [List.getElem?_set_ne hk] at hd
        rw [h2 k (fun h => hk h.symm)]
        exact hr k d hd
    · cases h
  | ty t xs =>
    simp only [Row.put0] at h
    split at h
    · rename_i he
      subst he
      split at h
      · rename_i x hx
        obtain ⟨y, hy, rfl⟩ := Option.map_eq_some_iff.1 h
        have hi : i < xs.length := (List.getElem?_eq_some_iff.1 hx).1
        have hj := setD_lt (hr i x hx) hy
        refine ⟨fun k z hz => ?_, by simp [Row.size], mul_add_lt hi hj⟩
        by_cases hk : i = k
        · subst hk
          rw [List.getElem?_set_self hi] at hz
          cases hz
          exact setD_rep (hr i x hx) hy hc h1 (fun k hk => h2 _ (by omega))
        · rw [List.getElem?_set_ne hk] at hz
          refine RepD.only (fun m u hm hu => ?_) (hr k z hz)
          have hne : k * t.sz + m ≠ i * t.sz + j := fun heq => hk (by
            have e1 : (k * t.sz + m) / t.sz = k := by rw [Nat.mul_comm, Nat.mul_add_div (by omega), Nat.div_eq_of_lt hm]; rfl
            have e2 : (i * t.sz + j) / t.sz = i := by rw [Nat.mul_comm, Nat.mul_add_div (by omega), Nat.div_eq_of_lt hj]; rfl
            rw [← e1, ← e2, heq])
          show g' (k * t.sz + m) = _
          rw [h2 _ hne]; exact hu
      · cases h
    · split at h
      · rename_i x
        obtain ⟨y, hy, rfl⟩ := Option.map_eq_some_iff.1 h
        have hx := hr 0 x rfl
        have hj := setD_lt hx hy
        refine ⟨fun k z hz => ?_, rfl, by simpa [Row.size] using hj⟩
        cases k with
        | zero =>
          cases hz
          exact setD_rep hx hy hc (by simpa using h1) (fun k hk => h2 _ (by omega))
        | succ k => simp at hz
      · cases h
theorem puts0_rep {r r' q : Row} {i e j : Nat} {g g' : Cells} (hr : RowRep w own σ r g) (h : r.puts0 i e j q = some r') (hq : RowRep w own σ q (fun k => g' (i * e + j + k))) (h2 : ∀ k, k < i * e + j ∨ i * e + j + q.size ≤ k → g' k = g k) :
    RowRep w own σ r' g' ∧ r'.size = r.size ∧ i * e + j + q.size ≤ r.size := by
  have whole : i = 0 ∧ j = 0 ∧ q.size = r.size → r' = q → RowRep w own σ r' g' ∧ r'.size = r.size ∧ i * e + j + q.size ≤ r.size := fun h0 hq' => by
    obtain ⟨rfl, rfl, h3⟩ := h0
    subst hq'
    exact ⟨RowRep.only (fun k v _ hv => by simpa using hv) hq, h3, by simp [h3]⟩
  cases r with
  | raw l =>
    simp only [Row.puts0] at h
    split at h
    · rename_i h0; cases h; exact whole h0 rfl
    · split at h
      · rename_i l' _
        split at h
        · rename_i hle
          cases h
          refine ⟨?_, by simp only [Row.size, List.length_append, List.length_take, List.length_drop]; omega, hle⟩
          have ht : (l.take (i * e + j)).length = i * e + j := by rw [List.length_take]; omega
          rw [List.append_assoc]
          refine LRep.append (fun k c hc => ?_) (LRep.append ?_ (fun k c hc => ?_))
          · have hk : k < i * e + j := by have := (List.getElem?_eq_some_iff.1 hc).1; omega
            rw [h2 k (.inl hk)]
            exact LRep.take hr _ k c hc
          · rw [ht]; exact hq
          · rw [ht]
            simp only
            rw [h2 _ (.inr (by simp only [Row.size]; omega))]
            have := LRep.drop hr (i * e + j + l'.length) k c hc
            simpa only [Nat.add_assoc] using this
        · cases h
      · cases h
  | ty t xs =>
    simp only [Row.puts0] at h
    split at h
    · rename_i h0; cases h; exact whole h0 rfl
    · split at h
      · rename_i h0
        obtain ⟨rfl, rfl, hi⟩ := h0
        obtain ⟨y, hy, rfl⟩ := Option.map_eq_some_iff.1 h
        obtain ⟨hy1, hy2⟩ := rowOne_rep hq hy
        have hle : i * t.sz + t.sz ≤ xs.length * t.sz := by
          have := Nat.mul_le_mul_right t.sz (show i + 1 ≤ xs.length from hi)
          rwa [Nat.add_mul, Nat.one_mul] at this
        refine ⟨fun k z hz => ?_, by simp [Row.size], by rw [hy2]; simpa [Row.size] using hle⟩
        by_cases hk : i = k
        · subst hk
          rw [List.getElem?_set_self hi] at hz
          cases hz
          exact hy1
        · rw [List.getElem?_set_ne hk] at hz
          refine RepD.only (fun m u hm hu => ?_) (hr k z hz)
          show g' (k * t.sz + m) = _
          rw [h2 _ ?_]
          · exact hu
          · rw [hy2]
            rcases Nat.lt_or_ge k i with hki | hki
            · left
              have := mul_add_lt hki hm
              omega
            · right
              have := Nat.mul_le_mul_right t.sz (show i + 1 ≤ k by omega)
              rw [Nat.add_mul, Nat.one_mul] at this
              omega
      · cases h
theorem Row.eN_mul (r : Row) (i e : Nat) : i * r.eN i e = i * e := by
  cases r with
  | raw l => rfl
  | ty t xs =>
    simp only [Row.eN]
    split
    · rename_i h; subst h; simp
    · rfl
theorem at_rep {r : Row} {i e j : Nat} {c : CV} {g : Cells} (hr : RowRep w own σ r g) (h : r.at i e j = some c) : ∃ v, g (i * e + j) = some v ∧ Rep w own σ c v := by
  have := at0_rep hr h; rwa [Row.eN_mul] at this
theorem sub_rep {r r' : Row} {i e j n : Nat} {g : Cells} (hr : RowRep w own σ r g) (h : r.sub i e j n = some r') : RowRep w own σ r' (fun k => g (i * e + j + k)) ∧ r'.size = n ∧ i * e + j + n ≤ r.size := by
  have := sub0_rep hr h; rwa [Row.eN_mul] at this
theorem put_rep {r r' : Row} {i e j : Nat} {c : CV} {v : Value} {g g' : Cells} (hr : RowRep w own σ r g) (h : r.put i e j c = some r') (hc : Rep w own σ c v) (h1 : g' (i * e + j) = some v) (h2 : ∀ k, k ≠ i * e + j → g' k = g k) :
    RowRep w own σ r' g' ∧ r'.size = r.size ∧ i * e + j < r.size := by
  have := put0_rep (g' := g') hr h hc (by rw [Row.eN_mul]; exact h1) (fun k hk => h2 k (by rw [Row.eN_mul] at hk; exact hk)); rwa [Row.eN_mul] at this
theorem puts_rep {r r' q : Row} {i e j : Nat} {g g' : Cells} (hr : RowRep w own σ r g) (h : r.puts i e j q = some r') (hq : RowRep w own σ q (fun k => g' (i * e + j + k))) (h2 : ∀ k, k < i * e + j ∨ i * e + j + q.size ≤ k → g' k = g k) :
    RowRep w own σ r' g' ∧ r'.size = r.size ∧ i * e + j + q.size ≤ r.size := by
  have := puts0_rep (g' := g') hr h (by rw [Row.eN_mul]; exact hq) (fun k hk => h2 k (by rw [Row.eN_mul] at hk; exact hk)); rwa [Row.eN_mul] at this
theorem part_rep {r r' : Row} {o n e : Nat} {g : Cells} (hr : RowRep w own σ r g) (h : r.part o n e = some r') : RowRep w own σ r' (fun k => g (o * e + k)) ∧ r'.size = n * e ∧ (o + n) * e ≤ r.size := by
  cases r with
  | raw l =>
    simp only [Row.part] at h
    split at h
    · rename_i hle
      cases h
      rw [Nat.add_mul] at hle
      exact ⟨(LRep.drop hr _).take _, by simp only [Row.size, List.length_take, List.length_drop]; omega, by rw [Nat.add_mul]; exact hle⟩
    · cases h
  | ty t xs =>
    simp only [Row.part] at h
    split at h
    · rename_i he
      subst he
      split at h
      · rename_i h0
        cases h
        obtain ⟨rfl, rfl⟩ := h0
        exact ⟨RowRep.only (fun k v _ hv => by simpa using hv) hr, rfl, by simp [Row.size]⟩
      · split at h
        · rename_i hle
          cases h
          refine ⟨fun i x hx => ?_, by simp only [Row.size, List.length_take, List.length_drop]; rw [Nat.min_eq_left (by omega)], Nat.mul_le_mul_right _ hle⟩
          rw [List.getElem?_take] at hx
          split at hx
          · rw [List.getElem?_drop] at hx
            refine RepD.cells (fun j v hv => ?_) (hr _ x hx)
            show g (o * t.sz + (i * t.sz + j)) = _
            rw [← Nat.add_assoc, ← Nat.add_mul]; exact hv
          · cases hx
        · cases h
    · cases h
theorem list_append_rep {t : Ty} {xs ys : List t.D} {g : Cells} (h1 : ∀ (i : Nat) x, xs[i]? = some x → RepD w own t x (fun j => g (i * t.sz + j))) (h2 : ∀ (i : Nat) x, ys[i]? = some x → RepD w own t x (fun j => g (xs.length * t.sz + (i * t.sz + j)))) :
    ∀ (i : Nat) x, (xs ++ ys)[i]? = some x → RepD w own t x (fun j => g (i * t.sz + j)) := fun i x hx => by
  by_cases hi : i < xs.length
  · rw [List.getElem?_append_left hi] at hx; exact h1 i x hx
  · rw [List.getElem?_append_right (by omega)] at hx
    refine RepD.cells (fun j v hv => ?_) (h2 _ x hx)
    rw [← Nat.add_assoc, ← Nat.add_mul, show xs.length + (i - xs.length) = i by omega] at hv; exact hv
theorem app_rep {r q r' : Row} {g : Cells} (hr : RowRep w own σ r g) (h : r.app q = some r') (hq : RowRep w own σ q (fun k => g (r.size + k))) : RowRep w own σ r' g ∧ r'.size = r.size + q.size := by
  unfold Row.app at h
  split at h
  · cases h; exact ⟨RowRep.only (fun k v _ hv => by simpa [Row.size] using hv) hq, by simp [Row.size]⟩
  · rename_i t xs
    split at h
    · rename_i ys hys
      cases h
      obtain ⟨h1, h2⟩ := as_rep hq hys
      exact ⟨list_append_rep hr h1, by rw [h2]; simp only [Row.size, List.length_append, Nat.add_mul]⟩
    · cases h
  · cases h; exact ⟨LRep.append hr hq, by simp [Row.size]⟩
  · rename_i l t ys _
    split at h
    · rename_i xs hxs
      cases h
      obtain ⟨h1, h2⟩ := as_rep hr hxs
      exact ⟨list_append_rep h1 (fun i x hx => RepD.cells (fun j v hv => by rw [← h2]; exact hv) (hq i x hx)), by rw [h2]; simp only [Row.size, List.length_append, Nat.add_mul]⟩
    · cases h
theorem over_rep {q r' : Row} {o n : Nat} {t : Ty} {xs : List t.D} {g g' : Cells} (hr : RowRep w own σ (.ty t xs) g) (h : (Row.ty t xs).over o n q = some r') (hq : RowRep w own σ q (fun k => g' (o * t.sz + k))) (h2 : ∀ k, k < o * t.sz ∨ o * t.sz + q.size ≤ k → g' k = g k) :
    RowRep w own σ r' g' ∧ r'.size = xs.length * t.sz ∧ q.size = n * t.sz ∧ o + n ≤ xs.length := by
  simp only [Row.over] at h
  split at h
  · rename_i ys hys
    split at h
    · rename_i h0
      cases h
      obtain ⟨hle, hn⟩ := h0
      obtain ⟨q1, q2⟩ := as_rep hq hys
      have hto : (xs.take o).length = o := by rw [List.length_take]; omega
      refine ⟨list_append_rep (list_append_rep (fun i x hx => ?_) (fun i x hx => ?_)) (fun i x hx => ?_), by simp only [Row.size, List.length_append, List.length_take, List.length_drop]; congr 1; omega, by rw [q2, hn], hle⟩
      · rw [List.getElem?_take] at hx
        split at hx
        · rename_i hio
          refine RepD.only (fun j v hj hv => ?_) (hr i x hx)
          show g' (i * t.sz + j) = _
          rw [h2 _ (.inl (mul_add_lt hio hj))]; exact hv
        · cases hx
      · rw [hto]; exact q1 i x hx
      · rw [List.length_append, hto, hn]
        rw [List.getElem?_drop] at hx
        refine RepD.cells (fun j v hv => ?_) (hr _ x hx)
        rw [h2 _ (.inr ?_)]
        · rw [← Nat.add_assoc, ← Nat.add_mul]; exact hv
        · rw [q2, hn, ← Nat.add_mul]; omega
    · cases h
  · cases h
end
end Go.Proofs.Ytcnoooodnmjdmaa
end
section
set_option linter.unusedSimpArgs false
set_option linter.unusedVariables false
/- AHI, part C: heaps of what a call owns, and worlds. -/
namespace Go.Proofs.Ytcnoooodnmjdmaa
open Go.RowKit

theorem size_setCells (b : Nat) : ∀ (vs : List Value) (o : Nat) (w : World), (w.setCells b o vs).heap.size = w.heap.size
  | [], _, _ => rfl
  | v :: vs, o, w => by rw [World.setCells, size_setCells b vs (o + 1)]; simp [World.setCell]
theorem tape_setCells (b : Nat) : ∀ (vs : List Value) (o : Nat) (w : World), (w.setCells b o vs).tape = w.tape
  | [], _, _ => rfl
  | v :: vs, o, w => by rw [World.setCells, tape_setCells b vs (o + 1)]; rfl
/-- The blocks that are the call's own. -/
def ownB (σ : Sg) (H : Hp) (b : Nat) : Prop := ∃ (id : Nat) (r : Row) (x : Nat × Nat), H[id]? = some (some r) ∧ σ id = some (b, x)
/-- The blocks that nobody else may lean on: the call's own, and those of others. -/
def own (X : Nat → Prop) (σ : Sg) (H : Hp) (b : Nat) : Prop := ownB σ H b ∨ X b
def RowOk (w : World) (own : Nat → Prop) (σ : Sg) (id : Nat) (r : Row) : Prop :=
  σ id = none ∨ ∃ b base ext, σ id = some (b, base, ext) ∧ b < w.heap.size ∧ base + r.size ≤ ext ∧ (∀ k, k < ext → (w.cell? ⟨b, k, none⟩).isSome = true ∧ w.frozen? ⟨b, k, none⟩ = false) ∧ RowRep w own σ r (fun k => w.cell? ⟨b, base + k, none⟩)
structure HeapRep (X : Nat → Prop) (σ : Sg) (H : Hp) (w : World) : Prop where
  dom : ∀ id, H.length ≤ id → σ id = none
  row : ∀ id r, H[id]? = some (some r) → RowOk w (own X σ H) σ id r
  xlt : ∀ b, X b → b < w.heap.size
  xdis : ∀ b, X b → ¬ ownB σ H b
  inj : ∀ id id' r r' b x x', H[id]? = some (some r) → H[id']? = some (some r') → σ id = some (b, x) → σ id' = some (b, x') → id = id'
structure Step (σ : Sg) (H : Hp) (w : World) (σ' : Sg) (H' : Hp) (w' : World) : Prop where
  os : w'.os = w.os
  tape : w'.tape = w.tape
  output : w'.output = w.output
  keeps : Keeps w (ownB σ H) w' (ownB σ' H')
  ext : ∀ id x, σ id = some x → σ' id = some x
  len : H.length ≤ H'.length
  same : ∀ id, id < H.length → σ' id = σ id
theorem Keeps.trans {a b c : World} {o p q : Nat → Prop} (h : Keeps a o b p) (k : Keeps b p c q) : Keeps a o c q :=
  ⟨Nat.le_trans h.size k.size, fun i hi ho => (k.block i (Nat.lt_of_lt_of_le hi h.size) (fun hp => (h.own i hp).elim ho (fun h' => by omega))).trans (h.block i hi ho),
    fun i hq => (k.own i hq).elim (fun hp => h.own i hp) (fun h' => .inr (Nat.le_trans h.size h'))⟩
theorem Step.refl (σ : Sg) (H : Hp) (w : World) : Step σ H w σ H w := ⟨rfl, rfl, rfl, Keeps.refl, fun _ _ h => h, Nat.le_refl _, fun _ _ => rfl⟩
theorem Step.trans {σ σ' σ'' : Sg} {H H' H'' : Hp} {w w' w'' : World} (h : Step σ H w σ' H' w') (k : Step σ' H' w' σ'' H'' w'') : Step σ H w σ'' H'' w'' :=
  ⟨k.os.trans h.os, k.tape.trans h.tape, k.output.trans h.output, h.keeps.trans k.keeps, fun id x hx => k.ext _ _ (h.ext _ _ hx), Nat.le_trans h.len k.len, fun id hid => (k.same id (Nat.lt_of_lt_of_le hid h.len)).trans (h.same id hid)⟩
section
variable {X : Nat → Prop} {σ σ' : Sg} {H H' : Hp} {w w' : World}
theorem keepsX (hk : Keeps w (ownB σ H) w' (ownB σ' H')) : Keeps w (own X σ H) w' (own X σ' H') :=
  ⟨hk.size, fun b hb hn => hk.block b hb (fun h => hn (.inl h)), fun b hb => hb.elim (fun h => (hk.own b h).imp .inl (fun h => h)) (fun h => .inl (.inr h))⟩
theorem RepA.step (hs : Step σ H w σ' H' w') {a : AV} {v : Value} (h : RepA w (own X σ H) σ a v) : RepA w' (own X σ' H') σ' a v := h.mono (keepsX hs.keeps) hs.ext
theorem Rep1.step (hs : Step σ H w σ' H' w') {a : AV} {v : Value} (h : Rep1 w (own X σ H) σ a v) : Rep1 w' (own X σ' H') σ' a v := h.mono (keepsX hs.keeps) hs.ext
theorem Rep.step (hs : Step σ H w σ' H' w') {a : CV} {v : Value} (h : Rep w (own X σ H) σ a v) : Rep w' (own X σ' H') σ' a v := h.mono (keepsX hs.keeps) hs.ext
theorem HeapRep.lt (h : HeapRep X σ H w) {id : Nat} {x : Nat × Nat × Nat} (hx : σ id = some x) : id < H.length := by
  rcases Nat.lt_or_ge id H.length with h' | h'
  · exact h'
  · rw [h.dom id h'] at hx; cases hx
theorem HeapRep.own_lt (h : HeapRep X σ H w) {b : Nat} (hb : ownB σ H b) : b < w.heap.size := by
  obtain ⟨id, r, x, h1, h2⟩ := hb
  rcases h.row id r h1 with h3 | ⟨b', base, ext, h3, h4, -⟩
  · rw [h3] at h2; cases h2
  · rw [h3] at h2; cases h2; exact h4
/-- The next heap: each live row is as it was, or is shown anew. -/
theorem HeapRep.next (h : HeapRep X σ H w) (hk : Keeps w (ownB σ H) w' (ownB σ' H')) (hs : ∀ id x, σ id = some x → σ' id = some x) (dom : ∀ id, H'.length ≤ id → σ' id = none)
    (rows : ∀ (id : Nat) r, H'[id]? = some (some r) → (H[id]? = some (some r) ∧ (σ id = none → σ' id = none) ∧ ∀ b x, σ id = some (b, x) → w'.heap[b]? = w.heap[b]?) ∨ RowOk w' (own X σ' H') σ' id r)
    (inj : ∀ (id id' : Nat) r r' b x x', H'[id]? = some (some r) → H'[id']? = some (some r') → σ' id = some (b, x) → σ' id' = some (b, x') → id = id') : HeapRep X σ' H' w' := by
  refine ⟨dom, fun id r hr => ?_, fun b hb => Nat.lt_of_lt_of_le (h.xlt b hb) hk.size, fun b hb ho => (hk.own b ho).elim (h.xdis b hb) (fun h' => by have := h.xlt b hb; omega), inj⟩
  rcases rows id r hr with ⟨h1, h2, h3⟩ | h1
  · rcases h.row id r h1 with h5 | ⟨b, base, ext, h4, h5, h6, h7, h8⟩
    · exact .inl (h2 h5)
    · have hb := h3 b _ h4
      have hc : ∀ k, w'.cell? ⟨b, k, none⟩ = w.cell? ⟨b, k, none⟩ := fun k => World.cell?_of_block (w := w) hb
      have hf : ∀ k, w'.frozen? ⟨b, k, none⟩ = w.frozen? ⟨b, k, none⟩ := fun k => World.frozen?_of_block (w := w) hb
      exact .inr ⟨b, base, ext, hs _ _ h4, Nat.lt_of_lt_of_le h5 hk.size, h6, fun k hk' => by rw [hc, hf]; exact h7 k hk', h8.mono (keepsX hk) hs (fun j v hv => by rw [hc]; exact hv)⟩
  · exact h1
def upd (σ : Sg) (n : Nat) (x : Nat × Nat × Nat) : Sg := fun id => if id = n then some x else σ id
theorem upd_same (σ : Sg) (n : Nat) (x : Nat × Nat × Nat) : upd σ n x n = some x := if_pos rfl
theorem upd_ne (σ : Sg) {n id : Nat} (x : Nat × Nat × Nat) (h : id ≠ n) : upd σ n x id = σ id := if_neg h
theorem upd_ext (h : HeapRep X σ H w) (x : Nat × Nat × Nat) : ∀ id y, σ id = some y → upd σ H.length x id = some y := fun id y hy => by
  rw [upd_ne]
  · exact hy
  · exact Nat.ne_of_lt (h.lt hy)
theorem snoc_cases {α : Type} {l : List α} {a b : α} {i : Nat} (h : (l ++ [a])[i]? = some b) : (i < l.length ∧ l[i]? = some b) ∨ (i = l.length ∧ b = a) := by
  by_cases hi : i < l.length
  · exact .inl ⟨hi, by rwa [List.getElem?_append_left hi] at h⟩
  · rw [List.getElem?_append_right (by omega)] at h
    right
    have : i - l.length = 0 := by
      rcases Nat.eq_zero_or_pos (i - l.length) with h0 | h0
      · exact h0
      · rw [List.getElem?_eq_none (by simp; omega)] at h; cases h
    rw [this] at h
    exact ⟨by omega, by simpa using h.symm⟩
/-- A draw. -/
theorem HeapRep.drew (h : HeapRep X σ H w) : HeapRep X σ H w.drew ∧ Step σ H w σ H w.drew := by
  have hk : Keeps w (ownB σ H) w.drew (ownB σ H) := ⟨Nat.le_refl _, fun _ _ _ => rfl, fun _ h => .inl h⟩
  exact ⟨h.next hk (fun _ _ h => h) h.dom (fun id r hr => .inl ⟨hr, fun h => h, fun _ _ _ => rfl⟩) h.inj, ⟨rfl, rfl, rfl, hk, fun _ _ h => h, Nat.le_refl _, fun _ _ => rfl⟩⟩
/-- A new block. -/
theorem HeapRep.alloc (h : HeapRep X σ H w) (cs : Array Value) (elem : TypeId) (r : Row) (hsz : r.size ≤ cs.size) (hr : RowRep w (own X σ H) σ r (fun k => cs[k]?)) :
    HeapRep X (upd σ H.length (w.heap.size, 0, cs.size)) (H ++ [some r]) (w.alloc (.cells cs elem)) ∧ Step σ H w (upd σ H.length (w.heap.size, 0, cs.size)) (H ++ [some r]) (w.alloc (.cells cs elem)) := by
  have ho : ∀ b, ownB (upd σ H.length (w.heap.size, 0, cs.size)) (H ++ [some r]) b → ownB σ H b ∨ w.heap.size ≤ b := fun b ⟨id, r', x, h1, h2⟩ => by
    rcases snoc_cases h1 with ⟨hi, h1⟩ | ⟨rfl, h1⟩
    · rw [upd_ne _ _ (by omega)] at h2; exact .inl ⟨id, r', x, h1, h2⟩
    · rw [upd_same] at h2; cases h2; exact .inr (Nat.le_refl _)
  have hk : Keeps w (ownB σ H) (w.alloc (.cells cs elem)) (ownB (upd σ H.length (w.heap.size, 0, cs.size)) (H ++ [some r])) :=
    ⟨by simp, fun b hb _ => Below.heap_alloc _ _ _ hb, ho⟩
  have he := upd_ext h (w.heap.size, 0, cs.size)
  refine ⟨h.next hk he (fun id hid => ?_) (fun id r' hr' => ?_) (fun id id' r1 r2 b x x' h1 h2 h3 h4 => ?_), ⟨rfl, rfl, rfl, hk, he, by simp, fun id hid => upd_ne _ _ (Nat.ne_of_lt hid)⟩⟩
  · rw [List.length_append] at hid
    rw [upd_ne _ _ (by simp at hid; omega)]
    exact h.dom id (by simp at hid; omega)
  · rcases snoc_cases hr' with ⟨hi, hr'⟩ | ⟨rfl, hq'⟩
    · refine .inl ⟨hr', fun h' => by rw [upd_ne _ _ (by omega)]; exact h', fun b x hb => Below.heap_alloc _ _ _ (h.own_lt ⟨id, r', x, hr', hb⟩)⟩
    · obtain rfl : r' = r := by simpa using hq'
      refine .inr (.inr ⟨w.heap.size, 0, cs.size, upd_same _ _ _, by simp, by omega, fun k hk' => ?_, hr.mono (keepsX hk) he (fun j v hv => ?_)⟩)
      · rw [World.cell?_alloc_at _ _ _ _ rfl, World.frozen?_alloc_at _ _ _ _ rfl]
        simp [hk']
      · rw [World.cell?_alloc_at _ _ _ _ rfl, Nat.zero_add]; exact hv
  · rcases snoc_cases h1 with ⟨hi, h1⟩ | ⟨rfl, h1⟩ <;> rcases snoc_cases h2 with ⟨hi', h2⟩ | ⟨rfl, h2⟩
    · rw [upd_ne _ _ (by omega)] at h3 h4; exact h.inj id id' r1 r2 b x x' h1 h2 h3 h4
    · rw [upd_ne _ _ (by omega)] at h3; rw [upd_same] at h4; cases h4
      have := h.own_lt ⟨id, r1, x, h1, h3⟩
      omega
    · rw [upd_ne _ _ (by omega)] at h4; rw [upd_same] at h3; cases h3
      have := h.own_lt ⟨id', r2, x', h2, h4⟩
      omega
    · rfl
/-- A row without cells, that lies nowhere. -/
theorem HeapRep.nowhere (h : HeapRep X σ H w) (r : Row) : HeapRep X σ (H ++ [some r]) w ∧ Step σ H w σ (H ++ [some r]) w := by
  have ho : ∀ b, ownB σ (H ++ [some r]) b → ownB σ H b ∨ w.heap.size ≤ b := fun b ⟨id, r', x, h1, h2⟩ => by
    rcases snoc_cases h1 with ⟨hi, h1⟩ | ⟨rfl, h1⟩
    · exact .inl ⟨id, r', x, h1, h2⟩
    · rw [h.dom _ (Nat.le_refl _)] at h2; cases h2
  have hk : Keeps w (ownB σ H) w (ownB σ (H ++ [some r])) := ⟨Nat.le_refl _, fun _ _ _ => rfl, ho⟩
  refine ⟨h.next hk (fun _ _ h => h) (fun id hid => h.dom id (by simp at hid; omega)) (fun id r' hr' => ?_) (fun id id' r1 r2 b x x' h1 h2 h3 h4 => ?_), ⟨rfl, rfl, rfl, hk, fun _ _ h => h, by simp, fun _ _ => rfl⟩⟩
  · rcases snoc_cases hr' with ⟨hi, hr'⟩ | ⟨rfl, hq'⟩
    · exact .inl ⟨hr', fun h => h, fun _ _ _ => rfl⟩
    · obtain rfl : r' = r := by simpa using hq'
      exact .inr (.inl (h.dom _ (Nat.le_refl _)))
  · rcases snoc_cases h1 with ⟨hi, h1⟩ | ⟨rfl, h1⟩
    · rcases snoc_cases h2 with ⟨hi', h2⟩ | ⟨rfl, h2⟩
      · exact h.inj id id' r1 r2 b x x' h1 h2 h3 h4
      · rw [h.dom _ (Nat.le_refl _)] at h4; cases h4
    · rw [h.dom _ (Nat.le_refl _)] at h3; cases h3
theorem set_cases {H : Hp} {id k : Nat} {x y : Option Row} (h : (H.set id x)[k]? = some y) : (k = id ∧ y = x ∧ id < H.length) ∨ (k ≠ id ∧ H[k]? = some y) := by
  by_cases hk : id = k
  · subst hk
    by_cases hi : id < H.length
    · rw [List.getElem?_set_self hi] at h; exact .inl ⟨rfl, by simpa using h.symm, hi⟩
    · rw [List.getElem?_eq_none (by simp; omega)] at h; cases h
  · rw [List.getElem?_set_ne hk] at h; exact .inr ⟨fun e => hk e.symm, h⟩
/-- Cells of a block of the call's own are written. -/
theorem HeapRep.write (h : HeapRep X σ H w) {id : Nat} {r r' : Row} {b base ext : Nat} (hid : H[id]? = some (some r)) (hb : σ id = some (b, base, ext)) (o : Nat) (vs : List Value) (hle : o + vs.length ≤ ext) (hsz : base + r'.size ≤ ext)
    (hr : ∀ own', (∀ b, own' b ↔ own X σ H b) → RowRep (w.setCells b o vs) own' σ r' (fun k => (w.setCells b o vs).cell? ⟨b, base + k, none⟩)) :
    HeapRep X σ (H.set id (some r')) (w.setCells b o vs) ∧ Step σ H w σ (H.set id (some r')) (w.setCells b o vs) := by
  have hil : id < H.length := (List.getElem?_eq_some_iff.1 hid).1
  have ho : ∀ c, ownB σ (H.set id (some r')) c ↔ ownB σ H c := fun c => by
    constructor
    · rintro ⟨k, q, x, h1, h2⟩
      rcases set_cases h1 with ⟨rfl, h1, -⟩ | ⟨hk, h1⟩
      · exact ⟨k, r, x, hid, h2⟩
      · exact ⟨k, q, x, h1, h2⟩
    · rintro ⟨k, q, x, h1, h2⟩
      by_cases hk : id = k
      · subst hk; exact ⟨id, r', x, List.getElem?_set_self hil, h2⟩
      · exact ⟨k, q, x, by rw [List.getElem?_set_ne hk]; exact h1, h2⟩
  have hbo : ownB σ H b := ⟨id, r, _, hid, hb⟩
  have hbl := h.own_lt hbo
  have hkb := World.keptBut_setCells b (may := fun _ => True) vs o w (fun _ _ => trivial)
  have hblk : ∀ c, c < w.heap.size → c ≠ b → (w.setCells b o vs).heap[c]? = w.heap[c]? := fun c hc hne => World.heap_setCells_other w b o vs hc hne
  have hk : Keeps w (ownB σ H) (w.setCells b o vs) (ownB σ (H.set id (some r'))) :=
    ⟨by rw [size_setCells]; exact Nat.le_refl _, fun c hc hno => hblk c hc (fun e => hno (e ▸ hbo)), fun c hc => .inl ((ho c).1 hc)⟩
  have htape := tape_setCells b vs o w
  refine ⟨h.next hk (fun _ _ h => h) (fun k hk => h.dom k (by simpa using hk)) (fun k q hq => ?_) (fun k k' q q' c x x' h1 h2 h3 h4 => ?_), ⟨hkb.1, htape, hkb.2.1, hk, fun _ _ h => h, by simp, fun _ _ => rfl⟩⟩
  · rcases set_cases hq with ⟨rfl, h1, -⟩ | ⟨hne, h1⟩
    · cases h1
      obtain h5 | ⟨b', base', ext', h4, h5, h6, h7, h8⟩ := h.row k r hid
      · rw [h5] at hb; cases hb
      · rw [hb] at h4; cases h4
        refine .inr (.inr ⟨b, base, ext, hb, by rw [size_setCells]; exact hbl, hsz, fun j hj => ⟨World.isSome_setCells b vs o w _ (h7 j hj).1, by rw [World.frozen?_setCells]; exact (h7 j hj).2⟩, hr _ (fun c => or_congr (ho c) Iff.rfl)⟩)
    · refine .inl ⟨h1, fun h => h, fun c x hc => hblk c (h.own_lt ⟨k, q, x, h1, hc⟩) (fun e => hne ?_)⟩
      subst e
      exact h.inj k id q r c x _ h1 hid hc hb
  · rcases set_cases h1 with ⟨rfl, g1, -⟩ | ⟨hne, g1⟩ <;> rcases set_cases h2 with ⟨e2, g2, -⟩ | ⟨hne', g2⟩
    · exact e2.symm
    · exact h.inj k k' r q' c x x' hid g2 h3 h4
    · subst e2; exact h.inj k k' q r c x x' g1 hid h3 h4
    · exact h.inj k k' q q' c x x' g1 g2 h3 h4
/-- A row is forgotten. -/
theorem HeapRep.kill (h : HeapRep X σ H w) (id : Nat) : HeapRep X σ (H.set id none) w ∧ Step σ H w σ (H.set id none) w := by
  have ho : ∀ c, ownB σ (H.set id none) c → ownB σ H c ∨ w.heap.size ≤ c := fun c ⟨k, q, x, h1, h2⟩ => by
    rcases set_cases h1 with ⟨rfl, h1, -⟩ | ⟨hk, h1⟩
    · cases h1
    · exact .inl ⟨k, q, x, h1, h2⟩
  have hk : Keeps w (ownB σ H) w (ownB σ (H.set id none)) := ⟨Nat.le_refl _, fun _ _ _ => rfl, ho⟩
  refine ⟨h.next hk (fun _ _ h => h) (fun k hk => h.dom k (by simpa using hk)) (fun k q hq => ?_) (fun k k' q q' c x x' h1 h2 h3 h4 => ?_), ⟨rfl, rfl, rfl, hk, fun _ _ h => h, by simp, fun _ _ => rfl⟩⟩
  · rcases set_cases hq with ⟨rfl, h1, -⟩ | ⟨hne, h1⟩
    · cases h1
    · exact .inl ⟨h1, fun h => h, fun _ _ _ => rfl⟩
  · rcases set_cases h1 with ⟨rfl, h1, -⟩ | ⟨hne, h1⟩
    · cases h1
    · rcases set_cases h2 with ⟨rfl, h2, -⟩ | ⟨hne', h2⟩
      · cases h2
      · exact h.inj k k' q q' c x x' h1 h2 h3 h4
/-- A row goes on under a new number, from some cell on. -/
theorem HeapRep.rename (h : HeapRep X σ H w) {id : Nat} {r r' : Row} {b base ext base' : Nat} (hid : H[id]? = some (some r)) (hb : σ id = some (b, base, ext)) (hsz : base' + r'.size ≤ ext)
    (hr : RowRep w (own X σ H) σ r' (fun k => w.cell? ⟨b, base' + k, none⟩)) :
    HeapRep X (upd σ H.length (b, base', ext)) (H.set id none ++ [some r']) w ∧ Step σ H w (upd σ H.length (b, base', ext)) (H.set id none ++ [some r']) w := by
  have hbo : ownB σ H b := ⟨id, r, _, hid, hb⟩
  have hlen : (H.set id none).length = H.length := by simp
  have ho : ∀ c, ownB (upd σ H.length (b, base', ext)) (H.set id none ++ [some r']) c → ownB σ H c ∨ w.heap.size ≤ c := fun c ⟨k, q, x, h1, h2⟩ => by
    rcases snoc_cases h1 with ⟨hi, h1⟩ | ⟨rfl, h1⟩
    · rw [upd_ne _ _ (by omega)] at h2
      rcases set_cases h1 with ⟨rfl, h1, -⟩ | ⟨hk, h1⟩
      · cases h1
      · exact .inl ⟨k, q, x, h1, h2⟩
    · rw [hlen, upd_same] at h2; cases h2; exact .inl hbo
  have hk : Keeps w (ownB σ H) w (ownB (upd σ H.length (b, base', ext)) (H.set id none ++ [some r'])) := ⟨Nat.le_refl _, fun _ _ _ => rfl, ho⟩
  have he := upd_ext h (b, base', ext)
  refine ⟨h.next hk he (fun k hk => ?_) (fun k q hq => ?_) (fun k k' q q' c x x' h1 h2 h3 h4 => ?_), ⟨rfl, rfl, rfl, hk, he, by simp, fun id hid => upd_ne _ _ (Nat.ne_of_lt hid)⟩⟩
  · rw [List.length_append, hlen] at hk
    rw [upd_ne _ _ (by simp at hk; omega)]
    exact h.dom k (by simp at hk; omega)
  · rcases snoc_cases hq with ⟨hi, hq⟩ | ⟨rfl, hq'⟩
    · rcases set_cases hq with ⟨rfl, h1, -⟩ | ⟨hne, h1⟩
      · cases h1
      · exact .inl ⟨h1, fun h => by rw [upd_ne _ _ (by omega)]; exact h, fun _ _ _ => rfl⟩
    · obtain rfl : q = r' := by simpa using hq'
      rcases h.row id r hid with h5 | ⟨b', base'', ext', h4, h5, h6, h7, h8⟩
      · rw [h5] at hb; cases hb
      · rw [hb] at h4; cases h4
        exact .inr (.inr ⟨b, base', ext, by rw [hlen]; exact upd_same _ _ _, h5, hsz, h7, hr.mono (keepsX hk) he (fun _ _ h => h)⟩)
  · rcases snoc_cases h1 with ⟨hi, h1⟩ | ⟨rfl, h1⟩ <;> rcases snoc_cases h2 with ⟨hi', h2⟩ | ⟨rfl, h2⟩
    · rw [upd_ne _ _ (by omega)] at h3 h4
      rcases set_cases h1 with ⟨rfl, h1, -⟩ | ⟨hne, h1⟩
      · cases h1
      · rcases set_cases h2 with ⟨rfl, h2, -⟩ | ⟨hne', h2⟩
        · cases h2
        · exact h.inj k k' q q' c x x' h1 h2 h3 h4
    · rw [upd_ne _ _ (by omega)] at h3; rw [hlen, upd_same] at h4; cases h4
      rcases set_cases h1 with ⟨rfl, h1, -⟩ | ⟨hne, h1⟩
      · cases h1
      · exact (hne (h.inj k id q r _ x _ h1 hid h3 hb)).elim
    · rw [upd_ne _ _ (by omega)] at h4; rw [hlen, upd_same] at h3; cases h3
      rcases set_cases h2 with ⟨rfl, h2, -⟩ | ⟨hne, h2⟩
      · cases h2
      · exact (hne (h.inj k' id q' r _ x' _ h2 hid h4 hb)).elim
    · rfl
end
end Go.Proofs.Ytcnoooodnmjdmaa
end
section
set_option linter.unusedSimpArgs false
set_option linter.unusedVariables false
/- AHI, part D: the operations on frames and heaps of what a call owns. No world. -/
namespace Go.Proofs.Ytcnoooodnmjdmaa
open Go.RowKit

structure St where
  n : Nat
  env : List (Nat × AV)
  H : Hp
def look : List (Nat × AV) → Nat → Option AV
  | [], _ => none
  | (k, a) :: l, t => if k = t then some a else look l t
def lay : List (Nat × AV) → Nat → AV → List (Nat × AV)
  | [], t, a => [(t, a)]
  | (k, b) :: l, t, a => if t < k then (t, a) :: (k, b) :: l else if k = t then (t, a) :: l else (k, b) :: lay l t a
theorem look_lay (t s : Nat) (a : AV) : ∀ (l : List (Nat × AV)), look (lay l t a) s = if s = t then some a else look l s
  | [] => by simp [lay, look, eq_comm]
  | (k, b) :: l => by
    simp only [lay]
    split
    · simp [look, eq_comm]
    · split
      · rename_i h; subst h
        simp only [look]
        by_cases h : k = s
        · subst h; simp
        · have h' : ¬ s = k := fun e => h e.symm
          simp [h, h']
      · simp only [look, look_lay t s a l]
        by_cases h : k = s
        · subst h; simp_all
        · simp [h]
def constAV (v : Value) : Option AV :=
  if v.oneCell' = true then some (.c (.v v)) else match v with
    | .agg cs => if cs.toList.all (·.oneCell') = true then some (.agg (.raw (cs.toList.map .v))) else none
    | _ => none
def ev (s : St) : Operand → Option AV
  | .tmp t => look s.env t
  | .const v => constAV v
  | .func f => some (.c (.v (.func (.func f) #[] #[])))
  | .global _ => none

/-! ### The program's tables -/
def tsz (P : Program) (t : TypeId) : Option Nat := (P.info? t).map (·.size)
/-- How many cells, how many bytes; how many cells the zero has. -/
def tq (P : Program) (t : TypeId) : Option (Nat × Nat × Option Nat) := (P.info? t).map fun i => (i.size, i.bytes, i.zero.map (·.cells.size))
/-- The pure kind of a type. -/
def tyOf (P : Program) : Nat → TypeId → Option Ty
  | 0, _ => none
  | n + 1, t => match P.underlying t with
    | some (.int k) => some (.i k) | some .bool => some .bo | some .string => some .st | some (.float k) => some (.f k)
    | some (.slice e) => (tyOf P n e).map .sl
    | some (.array m e) => (tyOf P n e).map (.ar m)
    | some (.struct fs) => (fs.toList.mapM fun f => tyOf P n f.type).bind fun l => match l.reverse with | [] => none | x :: r => some (r.foldl (fun b a => .pr a b) x)
    | _ => none
abbrev ty (P : Program) (t : TypeId) : Option Ty := tyOf P 12 t
/-- A closed value as a row. -/
def valRow (v : Value) : Option Row := if v.cells.toList.all (·.oneCell') = true then some (.raw (v.cells.toList.map .v)) else none
/-- The cells of a type's zero. -/
def zcells (P : Program) (t : TypeId) : Option (List CV) :=
  match (P.info? t).bind (·.zero) with
  | none => none
  | some z => match valRow z with | some (.raw l) => some l | _ => none
/-- The row of a type's zero; an array of plain things is typed. -/
def zrow (P : Program) (t : TypeId) : Option Row :=
  match (P.info? t).bind (·.zero) with
  | none => none
  | some z => match valRow z with
    | none => none
    | some r => match P.underlying t with
      | some (.array _ e) => (match tyOf P 1 e with | some k => (match r.as k with | some xs => some (.ty k xs) | none => some r) | none => some r)
      | some (.struct _) => if 80 < z.cells.size then (match ty P t with | some k => (match r.as k with | some xs => some (.ty k xs) | none => some r) | none => some r) else some r
      | _ => some r
/-- Where a struct's field lies, and its type. -/
def fo (P : Program) (t : TypeId) (f : Nat) : Option (Nat × TypeId) :=
  match P.underlying t with | some (.struct fs) => (fs[f]?).map fun f => (f.offset, f.type) | _ => none

/-! ### Plain values -/
def val? {α : Type} : Sem α → Option α
  | .pure a => some a | _ => none
/-- A value of one cell. -/
def oneV : Option Value → Option Value
  | some z => if z.oneCell' = true then some z else none | none => none
def vbin (op : BinOp) : Value → Value → Option Value
  | .int k a, .int k' b => oneV (val? (binOp op 0 (.int k a) (.int k' b)))
  | .float k a, .float k' b => oneV (val? (binOp op 0 (.float k a) (.float k' b)))
  | .string a, .string b => oneV (val? (binOp op 0 (.string a) (.string b)))
  | _, _ => none
def vun (op : UnOp) : Value → Option Value
  | .int k a => oneV (val? (Op.unary op (.int k a)))
  | .float k a => oneV (val? (Op.unary op (.float k a)))
  | .bool b => oneV (val? (Op.unary op (.bool b)))
  | _ => none
def isNilP : CV → Bool
  | .v (.pointer none) => true | _ => false
def isNilS : CV → Bool
  | .v (.slice none 0 0) => true | _ => false
def isNilF : CV → Bool
  | .v .nilFunc => true | _ => false
def ptrNil : CV → Option Bool
  | .v (.pointer p) => some p.isNone | .ptr _ _ _ _ => some false | .rp _ _ _ _ => some false | _ => none
def slNil : CV → Option Bool
  | .v (.slice none 0 0) => some true | .sl _ _ len _ => if 0 < len then some false else none | .rs _ xs => if 0 < xs.length then some false else none | _ => none
def fnNil : CV → Option Bool
  | .v .nilFunc => some true | .v (.func _ _ _) => some false | .fn _ _ => some false | _ => none
def vAV : AV → Option Value
  | .c (.v x) => some x | _ => none
def Ty.beq : (t : Ty) → t.D → t.D → Option Bool
  | .i _, x, y => some (x == y) | .bo, x, y => some (x == y) | .st, x, y => some (x == y)
  | .ar _ (.i _), xs, ys => some (xs == ys)
  | .pr a b, x, y => match Ty.beq a x.1 y.1, Ty.beq b x.2 y.2 with | some p, some q => some (p && q) | _, _ => none
  | _, _, _ => none
/-! ### Memory -/
def AV.row : AV → Option Row
  | .c x => some (.raw [x]) | .agg r => some r | .tup _ => none
def AV.one (t : Ty) : AV → Option t.D
  | .c x => if t.sz = 1 then leaf t x else none
  | .agg r => Row.one t r
  | .tup _ => none
def hrow (H : Hp) (id : Nat) : Option Row := match H[id]? with | some (some r) => some r | _ => none
def isRowT : TypeDesc → Bool
  | .struct _ => true | .array _ _ => true | _ => false
/-- Load. -/
def aload (P : Program) (H : Hp) (t : TypeId) : AV → Option AV
  | .c (.ptr id i e j) => match hrow H id, P.underlying t with
    | some r, some d => if isRowT d = true then (match tsz P t with | some n => (r.sub i e j n).map .agg | none => none) else (r.at i e j).map .c
    | _, _ => none
  | .c (.rp t' xs i j) => match P.underlying t with
    | some d => if isRowT d = true then (match tsz P t with | some n => ((Row.ty t' xs).sub i t'.sz j n).map .agg | none => none) else ((Row.ty t' xs).at i t'.sz j).map .c
    | none => none
  | _ => none
/-- Store. -/
def astore (P : Program) (H : Hp) (t : TypeId) : AV → AV → Option Hp
  | .c (.ptr id i e j), .c x => match hrow H id, tsz P t with
    | some r, some n => if n = 1 then (r.put i e j x).map fun r' => H.set id (some r') else none
    | _, _ => none
  | .c (.ptr id i e j), .agg q => match hrow H id, tsz P t with
    | some r, some n => if q.size = n then (r.puts i e j q).map fun r' => H.set id (some r') else none
    | _, _ => none
  | _, _ => none
/-- A string's bytes. -/
def strI (s : ByteArray) : List Int := s.data.toList.map fun b => (b.toNat : Int)
/-- A slice's own row of elements; what else can be read as one. -/
def elems (H : Hp) (n : Nat) : AV → Option (Nat × Row)
  | .c (.sl id o len e) => if e = n then (match hrow H id with | some r => (r.part o len e).map fun q => (len, q) | none => none) else none
  | .c (.rs t xs) => if t.sz = n then some (xs.length, .ty t xs) else none
  | .c (.v (.slice none 0 0)) => some (0, .raw [])
  | .c .e0 => some (0, .raw [])
  | .c (.v (.string s)) => if n = 1 then some (s.size, .ty (.i .u8) (strI s)) else none
  | _ => none
def slOrStr (P : Program) (t : TypeId) : Bool := match P.underlying t with | some (.slice _) => true | some .string => true | _ => false
abbrev LIM : Nat := 4294967296
abbrev LIB : Nat := 140737488355328
/-- Append. -/
def aappend (P : Program) (H : Hp) (t : TypeId) (s x : AV) : Option (AV × Hp) :=
  match P.underlying t with
  | some (.slice el) => match tq P el with
    | some (n, by_, z) => if 0 < n ∧ by_ ≤ 32768 ∧ z = some n then
        match elems H n x with
        | some (m, q) => (match s with
          | .c (.sl id o len e) => if e = n then (match hrow H id with
              | some r => match r.part o len e with
                | some p => match p.app q with
                  | some r' => if len + m ≤ LIB ∧ (len + m) * by_ ≤ LIB then some (.c (.sl H.length 0 (len + m) n), H.set id none ++ [some r']) else none
                  | none => none
                | none => none
              | none => none) else none
          | .c (.v (.slice none 0 0)) => if m ≤ LIB ∧ m * by_ ≤ LIB then some (.c (.sl H.length 0 m n), H ++ [some q]) else none
          | .c .e0 => if m ≤ LIB ∧ m * by_ ≤ LIB then some (.c (.sl H.length 0 m n), H ++ [some q]) else none
          | _ => none)
        | none => none
      else none
    | none => none
  | _ => none
/-- Copy. -/
def acopy (P : Program) (H : Hp) (t : TypeId) (d x : AV) : Option (AV × Hp) :=
  match P.underlying t with
  | some (.slice el) => match tsz P el with
    | some 1 => match d, elems H 1 x with
      | .c (.sl id o len e), some (m, q) => match hrow H id with
        | some (.ty t' xs) => if e = 1 ∧ t'.sz = 1 then match q.part 0 (min m len) 1 with
          | some p => match (Row.ty t' xs).over o (min m len) p with
            | some r' => some (.c (.v (.int .i64 ((min m len : Nat) : Int))), H.set id (some r'))
            | none => none
          | none => none else none
        | _ => none
      | _, _ => none
    | _ => none
  | _ => none
/-- Clear. -/
def aclear (P : Program) (H : Hp) (t : TypeId) (x : AV) : Option (AV × Hp) :=
  match P.underlying t, x with
  | some (.slice el), .c (.sl id o len e) => match tsz P el, zrow P el, ty P el with
    | some n, some zr, some k => match Row.one k zr, hrow H id with
      | some y, some r => if e = n ∧ k.sz = n ∧ 0 < n then (match r.over o len (.ty k (List.replicate len y)) with
        | some r' => some (.tup [], H.set id (some r'))
        | none => none) else none
      | _, _ => none
    | _, _, _ => none
  | _, _ => none
def alen (H : Hp) : AV → Option Nat
  | .c (.sl _ _ len _) => some len | .c (.rs _ xs) => some xs.length | .c (.v (.slice none 0 0)) => some 0 | .c .e0 => some 0 | .c (.v (.string s)) => some s.size | _ => none
def alenS : AV → Option Nat
  | .c (.sl _ _ len _) => some len | .c (.rs _ xs) => some xs.length | .c (.v (.slice none 0 0)) => some 0 | .c .e0 => some 0 | _ => none
def natI : AV → Option Int
  | .c (.v (.int _ n)) => some n | _ => none
/-- An element's address. -/
def aindexAddr (P : Program) (t : TypeId) (x ix : AV) : Option AV :=
  match P.underlying t, natI ix with
  | some (.slice el), some i => match tsz P el with
    | some n => match x with
      | .c (.sl id o len e) => if e = n ∧ 0 ≤ i ∧ i < (len : Int) then some (.c (.ptr id (o + i.toNat) e 0)) else none
      | .c (.rs t' xs) => if t'.sz = n ∧ 0 ≤ i ∧ i < (xs.length : Int) then some (.c (.rp t' xs i.toNat 0)) else none
      | _ => none
    | none => none
  | some (.array m el), some i => match tsz P el with
    | some n => if 0 ≤ i ∧ i < (m : Int) then match x with
      | .c (.ptr id 0 _ j) => some (.c (.ptr id i.toNat n j))
      | .c (.rp t' xs i' j) => some (.c (.rp t' xs i' (j + i.toNat * n)))
      | _ => none else none
    | none => none
  | _, _ => none
def afieldAddr (P : Program) (t : TypeId) (x : AV) (f : Nat) : Option AV :=
  match fo P t f with
  | some (off, ft) => if (tsz P ft).getD 0 = 0 then none else match x with
    | .c (.ptr id i e j) => some (.c (.ptr id i e (j + off)))
    | .c (.rp t' xs i j) => some (.c (.rp t' xs i (j + off)))
    | _ => none
  | none => none
/-- Part n cells from cell off on of a struct or an array by value. -/
def apart (P : Program) (t : TypeId) (r : Row) (i e off : Nat) : Option AV :=
  match P.underlying t with
  | some d => if isRowT d = true then (match tsz P t with | some n => (r.sub i e off n).map .agg | none => none) else (r.at i e off).map .c
  | none => none
def afield (P : Program) (t : TypeId) (x : AV) (f : Nat) : Option AV :=
  match fo P t f, x with
  | some (off, ft), .agg (.ty t' [y]) => apart P ft (.ty t' [y]) 0 t'.sz off
  | some (off, ft), .agg (.raw l) => apart P ft (.raw l) 0 1 off
  | _, _ => none
def aindex (P : Program) (t : TypeId) (x ix : AV) : Option AV :=
  match P.underlying t, natI ix, x with
  | some (.array m el), some i, .agg r => match tsz P el with
    | some n => if 0 ≤ i ∧ i < (m : Int) then apart P el r i.toNat n 0 else none
    | none => none
  | some .string, some i, .c (.v (.string s)) => if 0 ≤ i then (match s[i.toNat]? with | some b => some (.c (.v (.int .u8 b.toNat))) | none => none) else none
  | _, _, _ => none
/-- A bound of a slice expression; none where there is none. -/
def bound (d : Nat) : Option AV → Option Nat
  | none => some d
  | some a => match natI a with | some i => if 0 ≤ i then some i.toNat else none | none => none
def aslice (P : Program) (H : Hp) (t : TypeId) (x : AV) (lo hi : Option AV) : Option AV :=
  match P.underlying t with
  | some (.array m el) => match tsz P el, bound 0 lo, bound m hi with
    | some n, some l, some h => if l ≤ h ∧ h ≤ m ∧ m ≤ LIM then match x with
      | .c (.ptr id 0 _ 0) => match hrow H id with
        | some r => if m * n ≤ r.size then some (.c (.sl id l (h - l) n)) else none
        | none => none
      | .c (.rp (.ar m' e') xs i 0) => if e'.sz = n ∧ m' = m then (match xs[i]? with | some ys => some (.c (.rs e' ((ys.drop l).take (h - l)))) | none => none) else none
      | _ => none else none
    | _, _, _ => none
  | some (.slice el) => match tsz P el, alen [] x with
    | some n, some len => match bound 0 lo, bound len hi with
      | some l, some h => if l ≤ h ∧ h ≤ len then match x with
        | .c (.sl id o len e) => if e = n then some (.c (.sl id (o + l) (h - l) e)) else none
        | .c (.rs t' xs) => if t'.sz = n then some (.c (.rs t' ((xs.drop l).take (h - l)))) else none
        | .c (.v (.slice none 0 0)) => some x
        | .c .e0 => some x
        | _ => none else none
      | _, _ => none
    | _, _ => none
  | some .string => match x with
    | .c (.v (.string s)) => match bound 0 lo, bound s.size hi with
      | some l, some h => if l ≤ h ∧ h ≤ s.size then some (.c (.v (.string (s.extract l h)))) else none
      | _, _ => none
    | _ => none
  | _ => none
/-- With the third bound: nothing without room ('s[:0:0]'), or up to the second one. -/
def aslice3 (P : Program) (t : TypeId) (x : AV) (lo hi mx : Option AV) : Option AV :=
  match P.underlying t with
  | some (.slice el) => match tsz P el, alenS x with
    | some n, some len => match bound 0 lo, bound 0 hi, bound 0 mx with
      | some l, some h, some m => if l ≤ h ∧ h ≤ m ∧ m ≤ len then (if l = m then (if hi.isSome = true ∧ mx.isSome = true then some (.c .e0) else none) else match x with
        | .c (.sl id o len e) => if e = n ∧ hi.isSome = true ∧ mx.isSome = true then some (.c (.sl id (o + l) (h - l) e)) else none
        | _ => none) else none
      | _, _, _ => none
    | _, _ => none
  | _ => none
/-- Make. -/
def amake (P : Program) (H : Hp) (t : TypeId) (l c : AV) : Option (AV × Hp) :=
  match P.underlying t, natI l, natI c with
  | some (.slice el), some a, some b => match tq P el with
    | some (n, by_, z) => if 0 ≤ a ∧ a ≤ b ∧ b ≤ LIM ∧ 0 < n ∧ by_ ≤ 32768 ∧ z = some n then
        match zrow P el with
        | some zr => match ty P el with
          | some k => (match Row.one k zr with | some y => some (.c (.sl H.length 0 a.toNat n), H ++ [some (.ty k (List.replicate b.toNat y))]) | none => none)
          | none => none
        | none => none
      else none
    | none => none
  | _, _, _ => none
/-- A value that is no tuple. -/
def ev1 (s : St) (x : Operand) : Option AV := match ev s x with | some (.tup _) => none | r => r
/-- The parts of a literal, in order. -/
def allParts (s : St) : Nat → List (Nat × Operand) → Option (List AV)
  | _, [] => some []
  | k, (i, x) :: l => if i = k then (match ev1 s x, allParts s (k + 1) l with | some a, some r => some (a :: r) | _, _ => none) else none
def AV.ones (t : Ty) : List AV → Option (List t.D)
  | [] => some []
  | a :: l => match AV.one t a, AV.ones t l with | some x, some xs => some (x :: xs) | _, _ => none
def AV.cells : List AV → List CV
  | [] => []
  | .c x :: l => x :: AV.cells l
  | .agg r :: l => r.cells ++ AV.cells l
  | .tup _ :: l => AV.cells l
/-- Each is of n cells. -/
def AV.allSz (n : Nat) : List AV → Bool
  | [] => true | a :: l => decide ((AV.cells [a]).length = n) && AV.allSz n l
def abuild0 (P : Program) (s : St) (t : TypeId) : Option (AV × Hp) :=
  match P.underlying t with
  | some (.slice el) => match tq P el, ty P el with
    | some (n, _, _), some k => if 0 < n then some (.c (.sl s.H.length 0 0 n), s.H ++ [some (.ty k [])]) else none
    | _, _ => none
  | _ => none
def abuildSlice (P : Program) (s : St) (t : TypeId) (len : Nat) (parts : List (Nat × Operand)) : Option (AV × Hp) :=
  if len = 0 ∧ parts.length = 0 then abuild0 P s t else
  match P.underlying t with
  | some (.slice el) => match tq P el, allParts s 0 parts with
    | some (n, _, z), some l => if z = some n ∧ l.length = len ∧ 0 < len ∧ 0 < n ∧ len * n ≤ 16777216 then
        match (match ty P el with | some k => if k.sz = n then (AV.ones k l).map (Row.ty k) else none | none => none) with
        | some r => some (.c (.sl s.H.length 0 len n), s.H ++ [some r])
        | none => if AV.allSz n l = true then some (.c (.sl s.H.length 0 len n), s.H ++ [some (.raw (AV.cells l))]) else none
      else none
    | _, _ => none
  | _ => none
/-- Cells with parts written. -/
def fillL (place : Nat → Option (Nat × Nat)) (cells : List CV) : List (Nat × AV) → Option (List CV)
  | [] => some cells
  | (i, a) :: l => match place i with
    | some (off, size) => if (AV.cells [a]).length = size ∧ off + size ≤ cells.length then fillL place (cells.take off ++ AV.cells [a] ++ cells.drop (off + size)) l else none
    | none => none
def evParts (s : St) : List (Nat × Operand) → Option (List (Nat × AV))
  | [] => some []
  | (i, x) :: l => match ev1 s x, evParts s l with | some a, some r => some ((i, a) :: r) | _, _ => none
/-- Where a struct's fields lie. -/
def stq (P : Program) (t : TypeId) : Option (List (Nat × Nat)) :=
  match P.underlying t with | some (.struct fs) => fs.toList.mapM (fun f => (P.info? f.type).map fun i => (f.offset, i.size)) | _ => none
/-- A struct's or an array's literal. -/
def abuild (P : Program) (s : St) (t : TypeId) (parts : List (Nat × Operand)) : Option AV :=
  match zcells P t, evParts s parts with
  | some Z, some l => match P.underlying t with
    | some (.struct _) => match stq P t with
      | some places => (fillL (fun i => places[i]?) Z l).map fun L => .agg (.raw L)
      | none => none
    | some (.array _ e) => match tsz P e with
      | some n => match fillL (fun i => some (i * n, n)) Z l with
        | some L => match tyOf P 1 e with
          | some k => (match (Row.raw L).as k with | some xs => some (.agg (.ty k xs)) | none => some (.agg (.raw L)))
          | none => some (.agg (.raw L))
        | none => none
      | none => none
    | _ => none
  | _, _ => none
/-! ### Operators -/
def eqg (P : Program) (t : TypeId) : Bool := P.eqGuardType P.depth t
/-- A struct's field of one plain cell. -/
def fkind (P : Program) (f : Field) : Option (Nat × Ty) := if f.name = "_" then none else match P.underlying f.type with
  | some (.int k) => some (f.offset, .i k) | some .bool => some (f.offset, .bo) | _ => none
def fkinds (P : Program) : List Field → Option (List (Nat × Ty))
  | [] => some []
  | f :: l => match fkind P f, fkinds P l with | some x, some xs => some (x :: xs) | _, _ => none
/-- The fields of a struct of plain cells. -/
def eqfs (P : Program) (t : TypeId) : Option (List (Nat × Ty)) :=
  if eqg P t = false ∧ P.stoodInHeld t = false then match P.underlying t with | some (.struct fs) => fkinds P fs.toList | _ => none else none
def cellOf : Row → Nat → Option CV
  | .raw l, o => l[o]? | .ty t [y], o => enc t y o | _, _ => none
def ceq : Ty → CV → CV → Option Bool
  | .i _, .v (.int k1 a), .v (.int k2 b) => if k1 = k2 then some (a == b) else none
  | .bo, .v (.bool a), .v (.bool b) => some (a == b)
  | _, _, _ => none
def aeqL (r q : Row) : List (Nat × Ty) → Option Bool
  | [] => some true
  | (o, T) :: l => match cellOf r o, cellOf q o with
    | some c, some d => (match ceq T c d, aeqL r q l with | some z, some y => some (z && y) | _, _ => none)
    | _, _ => none
/-- Two rows of numbers. -/
def aeqRow0 (P : Program) (t : TypeId) (r q : Row) : Option Bool :=
  if eqg P t = true then none else match P.underlying t with
  | some (.array m e) => match P.underlying e, tsz P e with
    | some (.int k), some 1 => match r.as (.i k), q.as (.i k) with
      | some xs, some ys => if xs.length = m ∧ ys.length = m then some (xs == ys) else none
      | _, _ => none
    | _, _ => none
  | _ => none
def aeqRow (P : Program) (t : TypeId) (r q : Row) : Option Bool :=
  match P.underlying t with
  | some (.struct _) => (match eqfs P t with | some l => aeqL r q l | none => none)
  | _ => aeqRow0 P t r q
def aeq (P : Program) (t : TypeId) (x y : AV) : Option Bool :=
  match x, y with
  | .c (.v (.bool p)), .c (.v (.bool q)) => match P.underlying t with | some .bool => some (p == q) | _ => none
  | .agg r, .agg q => aeqRow P t r q
  | .c a, .c b => match P.underlying t with
    | some (.pointer _) => if isNilP b = true then ptrNil a else if isNilP a = true then ptrNil b else none
    | some (.slice _) => if isNilS b = true then slNil a else none
    | some (.func _ _ _) => if isNilF b = true then fnNil a else none
    | _ => none
  | _, _ => none
/-- A slice's comparison with nil that isn't known. -/
def aub (P : Program) (t : TypeId) (x y : AV) : Bool :=
  match x, y with
  | .c a, .c b => match P.underlying t with
    | some (.slice _) => isNilS b && (match a with | .sl _ _ _ _ => true | .rs _ _ => true | .e0 => true | _ => false)
    | _ => false
  | _, _ => false
/-- An equality's answer, known or not. -/
def aeqU (P : Program) (t : TypeId) (f : Bool → Bool) (x y : AV) : Option AV :=
  match aeq P t x y with
  | some b => some (.c (.v (.bool (f b))))
  | none => if aub P t x y = true then some (.c .ub) else none
def abin (P : Program) (op : BinOp) (t : TypeId) (x y : AV) : Option AV :=
  match op with
  | .eql => match vAV x, vAV y with
    | some u, some v => (match vbin .eql u v with | some z => some (.c (.v z)) | none => aeqU P t (fun b => b) x y)
    | _, _ => aeqU P t (fun b => b) x y
  | .neq => match vAV x, vAV y with
    | some u, some v => (match vbin .neq u v with | some z => some (.c (.v z)) | none => aeqU P t (fun b => !b) x y)
    | _, _ => aeqU P t (fun b => !b) x y
  | op => match vAV x, vAV y with
    | some u, some v => (vbin op u v).map fun z => .c (.v z)
    | _, _ => none
def aun (op : UnOp) (x : AV) : Option AV := match vAV x with | some u => (vun op u).map fun z => .c (.v z) | none => none
def aconv (P : Program) (src dst : TypeId) (x : AV) : Option AV :=
  match P.underlying src, P.underlying dst, vAV x with
  | some _, some (.int k), some (.int _ n) => some (.c (.v (.int k (k.wrap n))))
  | some _, some .string, some (.string u) => some (.c (.v (.string u)))
  | _, _, _ => none
end Go.Proofs.Ytcnoooodnmjdmaa
end
section
set_option linter.unusedSimpArgs false
set_option linter.unusedVariables false
/- AHI, part E: the operations are what the model does: values, memory. -/
namespace Go.Proofs.Ytcnoooodnmjdmaa
open Go.RowKit

def EnvRep (X : Nat → Prop) (σ : Sg) (s : St) (a : Act) (w : World) (T : Nat → Prop) : Prop := ∀ t x, T t → look s.env t = some x → ∃ v, a.tmps[t]? = some v ∧ RepA w (own X σ s.H) σ x v
/-- What an operation leaves: a value, a heap. -/
def Post (X : Nat → Prop) (σ : Sg) (H : Hp) (w : World) (x : AV) (H' : Hp) (v : Value) (w' : World) : Prop :=
  ∃ σ', RepA w' (own X σ' H') σ' x v ∧ HeapRep X σ' H' w' ∧ Step σ H w σ' H' w'
section
variable {P : Program} {X : Nat → Prop} {σ : Sg} {s : St} {H : Hp} {a : Act} {w : World}
theorem Post.same {x : AV} {v : Value} (h : HeapRep X σ H w) (hr : RepA w (own X σ H) σ x v) : Post X σ H w x H v w := ⟨σ, hr, h, Step.refl _ _ _⟩
theorem LRep_map_v {own : Nat → Prop} {l : List Value} (h : l.all (·.oneCell') = true) : LRep w own σ (l.map .v) (fun k => l[k]?) := fun i c hc => by
  rw [List.getElem?_map] at hc
  obtain ⟨v, hv, rfl⟩ := Option.map_eq_some_iff.1 hc
  exact ⟨v, hv, rfl, List.all_eq_true.1 h v (List.mem_of_getElem? hv)⟩
theorem constAV_rep {own : Nat → Prop} {v : Value} {x : AV} (h : constAV v = some x) : RepA w own σ x v := by
  unfold constAV at h
  split at h
  · cases h; exact ⟨rfl, ‹_›⟩
  · split at h
    · rename_i cs _
      split at h
      · cases h
        rename_i hc
        exact ⟨cs.toList, rfl, by simp [Row.size], LRep_map_v hc⟩
      · cases h
    · cases h
theorem ev_rep {T : Nat → Prop} (he : EnvRep X σ s a w T) {x : Operand} {y : AV} (hT : ∀ t, x = .tmp t → T t) (h : ev s x = some y) : RepA w (own X σ s.H) σ y (a.eval x) := by
  cases x with
  | tmp t =>
    obtain ⟨v, h1, h2⟩ := he t y (hT t rfl) h
    have : a.eval (.tmp t) = v := by simp [Act.eval, Array.getD_eq_getD_getElem?, h1]
    rw [this]; exact h2
  | const v => exact constAV_rep h
  | global g => cases h
  | func f => cases h; exact ⟨rfl, rfl⟩
theorem valRow_rep {own : Nat → Prop} {v : Value} {r : Row} (h : valRow v = some r) : RowRep w own σ r (fun k => v.cells[k]?) ∧ r.size = v.cells.size := by
  unfold valRow at h
  split at h
  · rename_i hc
    cases h
    exact ⟨fun i c hc' => by
      obtain ⟨u, h1, h2⟩ := LRep_map_v (σ := σ) (own := own) (w := w) hc i c hc'
      exact ⟨u, by simpa using h1, h2⟩, by simp [Row.size]⟩
  · cases h
theorem zrow_rep {own : Nat → Prop} {t : TypeId} {r : Row} (h : zrow P t = some r) : ∃ i z, P.info? t = some i ∧ i.zero = some z ∧ RowRep w own σ r (fun k => z.cells[k]?) ∧ r.size = z.cells.size := by
  unfold zrow at h
  split at h
  · cases h
  · rename_i z hz
    obtain ⟨i, hi, hz⟩ := Option.bind_eq_some_iff.1 hz
    refine ⟨i, z, hi, hz, ?_⟩
    split at h
    · cases h
    · rename_i r' hr'
      have hv := valRow_rep (σ := σ) (own := own) (w := w) hr'
      split at h
      · split at h
        · split at h
          · rename_i xs hxs
            cases h
            obtain ⟨h1, h2⟩ := as_rep hv.1 hxs
            exact ⟨h1, h2.symm.trans hv.2⟩
          · cases h; exact hv
        · cases h; exact hv
      · split at h
        · split at h
          · split at h
            · rename_i xs hxs
              cases h
              obtain ⟨h1, h2⟩ := as_rep hv.1 hxs
              exact ⟨h1, h2.symm.trans hv.2⟩
            · cases h; exact hv
          · cases h; exact hv
        · cases h; exact hv
      · cases h; exact hv
theorem s_alloc (hh : HeapRep X σ H w) {t : TypeId} {r : Row} (h : zrow P t = some r) :
    ∃ v w', (Instr.alloc t true (.tuple #[])).run P w = .ok v w' ∧ Post X σ H w (.c (.ptr H.length 0 1 0)) (H ++ [some r]) v w' := by
  obtain ⟨i, z, hi, hz, h1, h2⟩ := zrow_rep (σ := σ) (own := own X σ H) (w := w) h
  obtain ⟨h3, h4⟩ := hh.alloc z.cells t r (by omega) h1
  refine ⟨.pointer (some ⟨w.heap.size, 0, none⟩), w.alloc (.cells z.cells t), ?_, _, ?_, h3, h4⟩
  · simp [Instr.alloc, zeroValue, typeInfo, hi, hz, newVar, newRow]
  · exact ⟨_, _, _, upd_same _ _ _, rfl⟩
theorem row_rep {own : Nat → Prop} {x : AV} {v : Value} {r : Row} (h : x.row = some r) (hx : RepA w own σ x v) : RowRep w own σ r (fun k => v.cells[k]?) ∧ r.size = v.cells.size := by
  cases x with
  | c c =>
    cases h
    have h1 := Rep.one hx
    have hc : v.cells = #[v] := by cases v <;> first | rfl | cases h1
    rw [hc]
    refine ⟨fun i d hd => ?_, rfl⟩
    cases i with
    | zero => cases hd; exact ⟨v, rfl, hx⟩
    | succ i => simp at hd
  | agg q =>
    cases h
    obtain ⟨vs, rfl, h1, h2⟩ := hx
    exact ⟨RowRep.only (fun j v _ hv => by simpa [Value.cells] using hv) h2, by simp [Value.cells, h1]⟩
  | tup l => cases h
theorem s_box (hh : HeapRep X σ H w) {t : TypeId} {x : AV} {v : Value} {r : Row} (h : x.row = some r) (hx : RepA w (own X σ H) σ x v) :
    ∃ u w', (Instr.box t v).run P w = .ok u w' ∧ Post X σ H w (.c (.ptr H.length 0 1 0)) (H ++ [some r]) u w' := by
  obtain ⟨h1, h2⟩ := row_rep h hx
  obtain ⟨h3, h4⟩ := hh.alloc v.cells t r (by omega) h1
  refine ⟨.pointer (some ⟨w.heap.size, 0, none⟩), w.alloc (.cells v.cells t), ?_, _, ?_, h3, h4⟩
  · simp [Instr.box, newVar, newRow]
  · exact ⟨_, _, _, upd_same _ _ _, rfl⟩
theorem hrow_some {id : Nat} {r : Row} (h : hrow H id = some r) : H[id]? = some (some r) := by
  unfold hrow at h
  split at h
  · cases h; assumption
  · cases h
theorem sure_ptr (b o : Nat) : (Instr.sureAddr (.pointer (some ⟨b, o, none⟩))).run P w = .ok ⟨b, o, none⟩ w := rfl
theorem run_loadAt_plain {t : TypeId} {d : TypeDesc} {b o : Nat} {v : Value} (hu : P.underlying t = some d) (hd : isRowT d = false) (hv : w.cell? ⟨b, o, none⟩ = some v) :
    (Instr.loadAt t (.pointer (some ⟨b, o, none⟩))).run P w = .ok v w := by
  have ha : (isAgg t).run P w = .ok false w := by
    unfold isAgg
    rw [Sem.run_bind, run_underlying hu w]
    cases d <;> simp_all [isRowT]
  simp [Instr.loadAt, Instr.sureAddr, loadVar, Sem.run_bind, ha, load, Sem.run, hv]
theorem run_loadAt_row {own : Nat → Prop} {t : TypeId} {d : TypeDesc} {n b o : Nat} {r : Row} (hu : P.underlying t = some d) (hd : isRowT d = true) (hn : tsz P t = some n) (hr : RowRep w own σ r (fun k => w.cell? ⟨b, o + k, none⟩)) (hs : r.size = n) :
    ∃ v, (Instr.loadAt t (.pointer (some ⟨b, o, none⟩))).run P w = .ok v w ∧ RepA w own σ (.agg r) v := by
  obtain ⟨vs, h1, h2, h3, h4⟩ := hr.list
  refine ⟨_, run_loadAt_mid (P := P) w b o t vs d (fun j v hv => h2 j v hv) hu (by cases d <;> simp_all [isRowT, TypeDesc.isRow]) ?_, vs, rfl, h1, h4⟩
  rw [h1, hs]; exact hn
theorem s_load (hh : HeapRep X σ H w) {t : TypeId} {x r : AV} {y : Value} (h : aload P H t x = some r) (hx : RepA w (own X σ H) σ x y) :
    ∃ v, (Instr.loadAt t y).run P w = .ok v w ∧ RepA w (own X σ H) σ r v := by
  unfold aload at h
  split at h
  · rename_i id i e j
    split at h
    · rename_i q d hq hu
      obtain ⟨b, base, ext, hs, rfl⟩ := hx
      rcases hh.row id q (hrow_some hq) with h0 | ⟨b', base', ext', hs', hb, hle, hcell, hrow⟩
      · rw [h0] at hs; cases hs
      · rw [hs] at hs'; cases hs'
        split at h
        · rename_i hd
          split at h
          · rename_i n hn
            obtain ⟨r', hr', rfl⟩ := Option.map_eq_some_iff.1 h
            obtain ⟨h1, h2, h3⟩ := sub_rep hrow hr'
            exact run_loadAt_row hu hd hn (RowRep.only (fun k v _ hv => by rw [Nat.add_assoc]; exact hv) h1) h2
          · cases h
        · rename_i hd
          obtain ⟨c, hc, rfl⟩ := Option.map_eq_some_iff.1 h
          obtain ⟨v, h1, h2⟩ := at_rep hrow hc
          exact ⟨v, run_loadAt_plain hu (by simpa using hd) h1, h2⟩
    · cases h
  · rename_i t' xs i j
    split at h
    · rename_i d hu
      obtain ⟨b, off, rfl, hb, hlt, hxs⟩ := hx
      have hrow : RowRep w (own X σ H) σ (.ty t' xs) (fun k => w.cell? ⟨b, off + k, none⟩) := fun i x hi => RepD.cells (fun j v hv => by show w.cell? ⟨b, off + (i * t'.sz + j), none⟩ = _; rw [← Nat.add_assoc]; exact hv) (hxs i x hi)
      split at h
      · rename_i hd
        split at h
        · rename_i n hn
          obtain ⟨r', hr', rfl⟩ := Option.map_eq_some_iff.1 h
          obtain ⟨h1, h2, h3⟩ := sub_rep hrow hr'
          exact run_loadAt_row hu hd hn (RowRep.only (fun k v _ hv => by rw [Nat.add_assoc]; exact hv) h1) h2
        · cases h
      · rename_i hd
        obtain ⟨c, hc, rfl⟩ := Option.map_eq_some_iff.1 h
        obtain ⟨v, h1, h2⟩ := at_rep hrow hc
        exact ⟨v, run_loadAt_plain hu (by simpa using hd) h1, h2⟩
    · cases h
  · cases h
theorem setCells_cell (b : Nat) {vs : List Value} {o : Nat} (ht : w.there b o vs.length) (k : Nat) : (w.setCells b o vs).cell? ⟨b, k, none⟩ = if o ≤ k ∧ k < o + vs.length then vs[k - o]? else w.cell? ⟨b, k, none⟩ := by
  by_cases hk : o ≤ k ∧ k < o + vs.length
  · rw [if_pos hk]
    have := World.cell?_setCells_in b vs o w (fun j hj => (ht j hj).1) (k - o) (by omega)
    rw [show o + (k - o) = k by omega] at this
    rw [this, List.getElem?_eq_getElem]
  · rw [if_neg hk]
    exact World.cell?_setCells_out b vs o w _ (fun _ _ => by show k < o ∨ o + vs.length ≤ k; omega)
/-- Cells of a live row are written: the general store. -/
theorem HeapRep.puts (hh : HeapRep X σ H w) {id : Nat} {q q' : Row} {b base ext : Nat} (hid : H[id]? = some (some q)) (hs : σ id = some (b, base, ext)) (o : Nat) (vs : List Value) (hle : o + vs.length ≤ q.size) (hsz : q'.size = q.size)
    (hr : ∀ (ow : Nat → Prop) (w' : World) (g' : Cells), (∀ b, ow b ↔ own X σ H b) → (∀ {c : CV} {v : Value}, Rep w (own X σ H) σ c v → Rep w' ow σ c v) → (∀ {r : Row} {g g' : Cells}, (∀ j v, g j = some v → g' j = some v) → RowRep w (own X σ H) σ r g → RowRep w' ow σ r g') →
      RowRep w' ow σ q (fun k => w.cell? ⟨b, base + k, none⟩) → (∀ k, o ≤ k → k < o + vs.length → g' k = vs[k - o]?) → (∀ k, k < o ∨ o + vs.length ≤ k → g' k = w.cell? ⟨b, base + k, none⟩) → RowRep w' ow σ q' g') :
    w.there b (base + o) vs.length ∧ HeapRep X σ (H.set id (some q')) (w.setCells b (base + o) vs) ∧ Step σ H w σ (H.set id (some q')) (w.setCells b (base + o) vs) := by
  rcases hh.row id q hid with h0 | ⟨b', base', ext', hs', hb, hle', hcell, hrow⟩
  · rw [h0] at hs; cases hs
  · rw [hs] at hs'; cases hs'
    have ht : w.there b (base + o) vs.length := fun j hj => hcell _ (by omega)
    refine ⟨ht, hh.write hid hs (base + o) vs (by omega) (by omega) fun own' ho => ?_⟩
    have hbo : ownB σ H b := ⟨id, q, _, hid, hs⟩
    have hk : Keeps w (own X σ H) (w.setCells b (base + o) vs) own' := ⟨by rw [size_setCells]; exact Nat.le_refl _, fun c hc hno => World.heap_setCells_other w b _ vs hc (fun e => hno (.inl (e ▸ hbo))), fun c hc => .inl ((ho c).1 hc)⟩
    refine hr own' _ _ ho (fun h => h.mono hk (fun _ _ h => h)) (fun hg h => h.mono hk (fun _ _ h => h) hg) (hrow.mono hk (fun _ _ h => h) (fun _ _ h => h)) (fun k h1 h2 => ?_) (fun k h1 => ?_)
    · rw [setCells_cell b ht, if_pos (by omega), show base + k - (base + o) = k - o by omega]
    · rw [setCells_cell b ht, if_neg (by omega)]
theorem s_store (hh : HeapRep X σ H w) {t : TypeId} {x y : AV} {u v : Value} {H' : Hp} (h : astore P H t x y = some H') (hx : RepA w (own X σ H) σ x u) (hy : RepA w (own X σ H) σ y v) :
    ∃ w', (Instr.storeAt t u v).run P w = .ok () w' ∧ HeapRep X σ H' w' ∧ Step σ H w σ H' w' := by
  unfold astore at h
  split at h
  · rename_i id i e j c
    split at h
    · rename_i q n hq hn
      split at h
      · rename_i hn1
        subst hn1
        obtain ⟨q', hq', rfl⟩ := Option.map_eq_some_iff.1 h
        obtain ⟨b, base, ext, hs, rfl⟩ := hx
        have h1 := Rep.one hy
        have hlt : i * e + j < q.size ∧ q'.size = q.size := by
          rcases hh.row id q (hrow_some hq) with h0 | ⟨b', base', ext', hs', hb, hle', hcell, hrow⟩
          · rw [h0] at hs; cases hs
          · have := put_rep (g' := fun k => if k = i * e + j then some v else w.cell? ⟨b', base' + k, none⟩) hrow hq' hy (by simp) (fun k hk => by simp [hk])
            exact ⟨this.2.2, this.2.1⟩
        obtain ⟨ht, h2, h3⟩ := hh.puts (hrow_some hq) hs (i * e + j) [v] (by simp; omega) hlt.2 (fun own w' g' ho hrep hrow' hq0 g1 g2 =>
          (put_rep hq0 hq' (hrep hy) (by have := g1 (i * e + j) (Nat.le_refl _) (by simp); simpa using this) (fun k hk => g2 k (by simp; omega))).1)
        refine ⟨_, ?_, h2, h3⟩
        have hst := run_storeCells_cells (P := P) b (base + (i * e + j)) [v] 0 w (fun k hk => by simpa using (ht k hk).1) (fun k hk => by simpa using (ht k hk).2) (by simpa using h1)
        have hcv : v.cells = #[v] := by cases v <;> first | rfl | cases h1
        obtain ⟨ti, hti, hti2⟩ := Option.map_eq_some_iff.1 hn
        simp only [Nat.add_zero] at hst
        simp [Instr.storeAt, Instr.sureAddr, storeVar, hcv, sizeOf, typeInfo, hti, hti2, hst]
      · cases h
    · cases h
  · rename_i id i e j r
    split at h
    · rename_i q n hq hn
      split at h
      · rename_i hn1
        subst hn1
        obtain ⟨q', hq', rfl⟩ := Option.map_eq_some_iff.1 h
        obtain ⟨b, base, ext, hs, rfl⟩ := hx
        obtain ⟨vs, rfl, hvl, hvr⟩ := hy
        have hone : ∀ v ∈ vs, v.oneCell' = true := fun v hv => by
          obtain ⟨k, hk, rfl⟩ := List.mem_iff_getElem.1 hv
          obtain ⟨u, h1, h2⟩ := hvr.there k (by omega)
          rw [List.getElem?_eq_getElem hk] at h1; cases h1; exact h2
        have hlt : i * e + j + r.size ≤ q.size ∧ q'.size = q.size := by
          rcases hh.row id q (hrow_some hq) with h0 | ⟨b', base', ext', hs', hb, hle', hcell, hrow⟩
          · rw [h0] at hs; cases hs
          · have := puts_rep (g' := fun k => if i * e + j ≤ k ∧ k < i * e + j + r.size then vs[k - (i * e + j)]? else w.cell? ⟨b', base' + k, none⟩) hrow hq'
              (RowRep.only (fun k v hk hv => by rw [if_pos (by omega), show i * e + j + k - (i * e + j) = k by omega]; exact hv) hvr) (fun k hk => by rw [if_neg (by omega)])
            exact ⟨this.2.2, this.2.1⟩
        obtain ⟨ht, h2, h3⟩ := hh.puts (hrow_some hq) hs (i * e + j) vs (by omega) hlt.2 (fun own w' g' ho hrep hrow' hq0 g1 g2 =>
          (puts_rep hq0 hq' (RowRep.only (fun k v hk hv => by rw [g1 _ (by omega) (by omega), show i * e + j + k - (i * e + j) = k by omega]; exact hv) (hrow' (fun _ _ h => h) hvr)) (fun k hk => g2 k (by omega))).1)
        refine ⟨_, ?_, h2, h3⟩
        have := run_storeAt_mid (P := P) w b (base + (i * e + j)) t vs.toArray (by simpa using ht) (by simp only [List.size_toArray]; rw [hvl]; exact hn) (all_oneCell_toArray hone)
        simpa using this
      · cases h
    · cases h
  · cases h
theorem add_addr (b off k : Nat) : (⟨b, off, none⟩ : Addr).add k = ⟨b, off + k, none⟩ := Addr.add_mid b off k
theorem strI_rep {own : Nat → Prop} (u : ByteArray) : RowRep w own σ (.ty (.i .u8) (strI u)) (fun k => (byteCells u)[k]?) := fun i x hx => by
  unfold strI at hx
  rw [List.getElem?_map] at hx
  obtain ⟨b, hb, rfl⟩ := Option.map_eq_some_iff.1 hx
  show (byteCells u)[i * 1 + 0]? = _
  unfold byteCells
  rw [List.getElem?_map, Nat.mul_one, Nat.add_zero, hb]; rfl
/-- What a slice (or a string) yields that is appended, or copied. -/
theorem elems_rep (hh : HeapRep X σ H w) {n m : Nat} {x : AV} {q : Row} {y : Value} {tx : TypeId} (h : elems H n x = some (m, q)) (hk : slOrStr P tx = true) (hx : RepA w (own X σ H) σ x y) (hstr : ∀ u, x = .c (.v (.string u)) → P.underlying tx = some .string) :
    ∃ news, Src P n tx y m news w ∧ RowRep w (own X σ H) σ q (fun k => news[k]?) ∧ q.size = m * n := by
  have hkind : (∃ e', P.underlying tx = some (.slice e')) ∨ P.underlying tx = some .string := by
    unfold slOrStr at hk
    split at hk
    · exact .inl ⟨_, ‹_›⟩
    · exact .inr ‹_›
    · cases hk
  have empty : ∀ a c, Src P n tx (.slice a 0 c) 0 [] w := fun a c => by
    have hl : ∀ (w' : World) (x : Addr), (loadCells x 0).run P w' = .ok #[] w' := fun w' x => by simpa using run_loadCells_list (P := P) w' x [] (by simp)
    refine ⟨hkind, fun _ => rfl, ?_, ?_, by simp, fun _ h => by cases h⟩ <;> cases a <;> simp [Builtin.firstCells, hl]
  have slice : ∀ b off c (r : Row), r.size = m * n → RowRep w (own X σ H) σ r (fun k => w.cell? ⟨b, off + k, none⟩) → ∃ news, Src P n tx (.slice (some ⟨b, off, none⟩) m c) m news w ∧ RowRep w (own X σ H) σ r (fun k => news[k]?) ∧ r.size = m * n := fun b off c r hs hr => by
    obtain ⟨vs, h1, h2, h3, h4⟩ := hr.list
    refine ⟨vs, ⟨hkind, fun _ => rfl, run_firstCells_some w n m _ m c vs (h1.trans hs) (fun j v hv => by rw [add_addr]; exact h2 j v hv), run_firstCells_some w.drew n m _ m c vs (h1.trans hs) (fun j v hv => by rw [add_addr]; exact h2 j v hv), h1.trans hs, h3⟩, h4, hs⟩
  unfold elems at h
  split at h
  · rename_i id o len e
    split at h
    · rename_i he; subst he
      split at h
      · rename_i r hr
        obtain ⟨q', hq, heq⟩ := Option.map_eq_some_iff.1 h
        cases heq
        have nil : m = 0 → ∀ a, y = .slice a 0 0 → ∃ news, Src P e tx y m news w ∧ RowRep w (own X σ H) σ q (fun k => news[k]?) ∧ q.size = m * e := fun h0 a hy => by
          subst h0; subst hy
          have hqs : q.size = 0 := by
            cases r with
            | raw l =>
              simp only [Row.part] at hq
              split at hq
              · cases hq; simp [Row.size]
              · cases hq
            | ty t xs =>
              simp only [Row.part] at hq
              split at hq
              · split at hq
                · rename_i h0; cases hq; simp [Row.size, ← h0.2]
                · split at hq
                  · cases hq; simp [Row.size]
                  · cases hq
              · cases hq
          refine ⟨[], empty _ _, ?_, by simp [hqs]⟩
          cases q with
          | raw l => intro i c hc; simp only [Row.size] at hqs; rw [List.getElem?_eq_none (by omega)] at hc; cases hc
          | ty t xs =>
            intro i x hx
            have hi : i < xs.length := (List.getElem?_eq_some_iff.1 hx).1
            simp only [Row.size] at hqs
            cases r with
            | raw l => simp only [Row.part] at hq; split at hq <;> cases hq
            | ty t' xs' =>
              simp only [Row.part] at hq
              split at hq
              · split at hq
                · rename_i h0
                  cases hq
                  omega
                · split at hq
                  · cases hq
                    simp at hi
                  · cases hq
              · cases hq
        rcases hx with ⟨h0, a, rfl⟩ | ⟨b, base, ext, c, hs, rfl, hlc, hc, hext⟩
        · exact nil h0 a rfl
        · rcases hh.row id r (hrow_some hr) with h0 | ⟨b', base', ext', hs', hb, hle, hcell, hrow⟩
          · rw [h0] at hs; cases hs
          · rw [hs] at hs'; cases hs'
            obtain ⟨h1, h2, h3⟩ := part_rep hrow hq
            exact slice b (base + o * e) c q h2 (RowRep.only (fun k v _ hv => by rw [Nat.add_assoc]; exact hv) h1)
      · cases h
    · cases h
  · rename_i t xs
    split at h
    · rename_i ht; subst ht
      cases h
      rcases hx with ⟨rfl, a, c, rfl⟩ | ⟨b, off, c, rfl, hlc, hc, hb, hlt, hxs⟩
      · exact ⟨[], empty _ _, fun i x hx => by simp at hx, by simp [Row.size]⟩
      · exact slice b off c _ rfl (fun i x hx => RepD.cells (fun j v hv => by show w.cell? ⟨b, off + (i * t.sz + j), none⟩ = _; rw [← Nat.add_assoc]; exact hv) (hxs i x hx))
    · cases h
  · cases h; obtain ⟨rfl, -⟩ := hx; exact ⟨[], empty _ _, fun i c hc => by simp at hc, by simp [Row.size]⟩
  · cases h; obtain ⟨a, rfl⟩ := hx; exact ⟨[], empty _ _, fun i c hc => by simp at hc, by simp [Row.size]⟩
  · rename_i u
    split at h
    · rename_i h1; subst h1
      cases h
      obtain ⟨rfl, -⟩ := hx
      refine ⟨byteCells u, Src.ofString w (hstr u rfl) u, strI_rep u, ?_⟩
      show (strI u).length * 1 = u.size * 1
      unfold strI
      rw [List.length_map, Array.length_toList]; rfl
    · cases h
  · cases h
end
end Go.Proofs.Ytcnoooodnmjdmaa
end
section
set_option linter.unusedSimpArgs false
set_option linter.unusedVariables false
/- AHI, part F: append, copy, make, literals, slices, elements are what the model does. -/
namespace Go.Proofs.Ytcnoooodnmjdmaa
open Go.RowKit
section
variable {P : Program} {X : Nat → Prop} {σ : Sg} {s : St} {H : Hp} {a : Act} {w : World}
theorem tq_some {t : TypeId} {n by_ : Nat} {z : Option Nat} (h : tq P t = some (n, by_, z)) : ∃ i, P.info? t = some i ∧ i.size = n ∧ i.bytes = by_ ∧ i.zero.map (·.cells.size) = z := by
  obtain ⟨i, hi, he⟩ := Option.map_eq_some_iff.1 h
  simp only [Prod.mk.injEq] at he
  exact ⟨i, hi, he.1, he.2.1, he.2.2⟩
theorem rowRep_append {own : Nat → Prop} {r : Row} {l l' : List Value} (h : RowRep w own σ r (fun k => l[k]?)) : RowRep w own σ r (fun k => (l ++ l')[k]?) :=
  RowRep.only (fun k v hk hv => by rw [List.getElem?_append_left (List.getElem?_eq_some_iff.1 hv).1]; exact hv) h
/-- A new block with rows one behind the other, and zeros. -/
theorem grown (hh : HeapRep X σ H w) {H0 : Hp} (hk : HeapRep X σ H0 w ∧ Step σ H w σ H0 w) (hlen : H0.length = H.length) {p q r' : Row} {olds news : List Value} {n len m : Nat} {zc : Array Value} {e : TypeId} (C : Nat)
    (hp : RowRep w (own X σ H) σ p (fun k => olds[k]?)) (hps : p.size = len * n) (hol : olds.length = len * n) (hq : RowRep w (own X σ H) σ q (fun k => news[k]?)) (hqs : q.size = m * n) (hnl : news.length = m * n) (happ : p.app q = some r') (hz : zc.size = n) (hC : len + m ≤ C) (hC2 : C ≤ maxLen) :
    Post X σ H w (.c (.sl H.length 0 (len + m) n)) (H0 ++ [some r']) (.slice (some ⟨w.heap.size, 0, none⟩) (len + m) C) (w.drew.alloc (.cells ((olds ++ news).toArray ++ Builtin.zeroCells zc (C - (len + m))) e)) := by
  obtain ⟨k1, k2⟩ := hk
  obtain ⟨d1, d2⟩ := k1.drew
  have hall := k2.trans d2
  have hsz : ((olds ++ news).toArray ++ Builtin.zeroCells zc (C - (len + m))).size = C * n := by
    simp only [Array.size_append, List.size_toArray, size_zeroCells, hz, List.length_append, hol, hnl, ← Nat.add_mul]
    congr 1; omega
  have hrow : RowRep w.drew (own X σ H0) σ r' (fun k => ((olds ++ news).toArray ++ Builtin.zeroCells zc (C - (len + m)))[k]?) := by
    have hp' := hp.mono (keepsX hall.keeps) hall.ext (g' := fun k => olds[k]?) (fun _ _ h => h)
    have hq' := hq.mono (keepsX hall.keeps) hall.ext (g' := fun k => news[k]?) (fun _ _ h => h)
    refine RowRep.only (fun k v hk hv => ?_) (app_rep (g := fun k => (olds ++ news)[k]?) (rowRep_append hp') happ (RowRep.only (fun k v hk hv => by
      show (olds ++ news)[p.size + k]? = some v
      rw [List.getElem?_append_right (by omega), show p.size + k - olds.length = k by omega]; exact hv) hq')).1
    rw [Array.getElem?_append_left (by simpa using (List.getElem?_eq_some_iff.1 hv).1)]
    simpa using hv
  have hr's : r'.size = (len + m) * n := by
    have := (app_rep (g := fun k => (olds ++ news)[k]?) (rowRep_append hp) happ (RowRep.only (fun k v hk hv => by
      show (olds ++ news)[p.size + k]? = some v
      rw [List.getElem?_append_right (by omega), show p.size + k - olds.length = k by omega]; exact hv) hq)).2
    rw [this, hps, hqs, Nat.add_mul]
  obtain ⟨h3, h4⟩ := d1.alloc _ e r' (by rw [hsz, hr's]; exact Nat.mul_le_mul_right _ hC) hrow
  refine ⟨_, .inr ⟨w.heap.size, 0, C * n, C, ?_, by simp, hC, hC2, by simp⟩, h3, hall.trans h4⟩
  rw [← hlen, hsz]; exact upd_same _ _ _
theorem s_append (hh : HeapRep X σ H w) {t tx ty : TypeId} {x y r : AV} {H' : Hp} {u v : Value} (h : aappend P H t x y = some (r, H')) (hk : slOrStr P tx = true) (hstr : ∀ u, y = .c (.v (.string u)) → P.underlying tx = some .string)
    (hx : RepA w (own X σ H) σ x u) (hy : RepA w (own X σ H) σ y v) :
    ∃ v' w', (Builtin.append_ #[t, tx] ty #[u, v]).run P w = .ok v' w' ∧ Post X σ H w r H' v' w' := by
  unfold aappend at h
  split at h
  · rename_i el hu
    split at h
    · rename_i n by_ z hq
      obtain ⟨i, hi, hi1, hi2, hi3⟩ := tq_some hq
      split at h
      · rename_i h0
        obtain ⟨hn0, hby, rfl⟩ := h0
        obtain ⟨zv, hzv, hzs⟩ := Option.map_eq_some_iff.1 hi3
        split at h
        · rename_i m q hel
          obtain ⟨news, hsrc, hqr, hqs⟩ := elems_rep hh hel hk hy hstr
          have hnl := hsrc.newsLen
          subst hi1
          have fit : ∀ {need old : Nat}, old < need → need ≤ LIB ∧ need * by_ ≤ LIB → Builtin.nextslicecap need old * i.bytes ≤ 281474976710656 := fun {need old} h1 h2 => growslice_fits h1 (by
            rw [hi2]; exact h2.2)
          have hl0 : ∀ (w' : World) (a : Option Addr), (Builtin.firstCells i.size 0 (.slice a 0 0)).run P w' = .ok #[] w' := fun w' a => by
            have hl : ∀ (x : Addr), (loadCells x 0).run P w' = .ok #[] w' := fun x => by simpa using run_loadCells_list (P := P) w' x [] (by simp)
            cases a <;> simp [Builtin.firstCells, hl]
          -- onto nothing
          have onto0 : ∀ (ao : Option Addr) (p r' : Row) (H0 : Hp), (HeapRep X σ H0 w ∧ Step σ H w σ H0 w) → H0.length = H.length → p.size = 0 → RowRep w (own X σ H) σ p (fun k => ([] : List Value)[k]?) → p.app q = some r' → m ≤ LIB ∧ m * by_ ≤ LIB →
              ∃ v' w', (Builtin.append_ #[t, tx] ty #[.slice ao 0 0, v]).run P w = .ok v' w' ∧ Post X σ H w (.c (.sl H.length 0 (0 + m) i.size)) (H0 ++ [some r']) v' w' := fun ao p r' H0 hk0 hlen hp0 hp happ hm => by
            rcases Nat.eq_zero_or_pos m with hm0 | hm0
            · subst hm0
              have hnews : news = [] := List.eq_nil_of_length_eq_zero (by omega)
              subst hnews
              refine ⟨_, _, run_append_nothing w t tx ty el i hu hi ao 0 0 (Nat.le_refl _) v hsrc, ?_⟩
              have hr's : r'.size = 0 := by
                have := (app_rep (g := fun k => ([] : List Value)[k]?) hp happ (RowRep.only (fun k v hk hv => by simp at hv) hqr)).2
                rw [this, hp0, hqs]; simp
              obtain ⟨k3, k4⟩ := hk0.1.nowhere r'
              exact ⟨σ, .inl ⟨rfl, _, rfl⟩, k3, hk0.2.trans k4⟩
            · refine ⟨_, _, run_append_grow_src w t tx ty el i zv hu hi hzv ao 0 0 [] (hl0 _ _) v m news hsrc (by omega) (by have := hm.1; simp only [LIB] at this; omega) (fit (by omega) (by rw [Nat.zero_add]; exact hm)), ?_⟩
              exact grown hh hk0 hlen _ hp (by simp [hp0]) (by simp) hqr hqs hnl happ hzs (grownCap_ge _ _ _ _) (grownCap_le_maxLen _ _ _ _ (by have := hm.1; simp only [LIB] at this; simp only [maxLen]; omega))
          split at h
          · rename_i id o len e
            split at h
            · rename_i he; subst he
              split at h
              · rename_i q0 hq0
                split at h
                · rename_i p hp
                  split at h
                  · rename_i r' hr'
                    split at h
                    · rename_i hlim
                      cases h
                      rcases hx with ⟨rfl, ao, rfl⟩ | ⟨b, base, ext, c, hs, rfl, hlc, hc, hext⟩
                      · have hp0 : p.size = 0 ∧ RowRep w (own X σ H) σ p (fun k => ([] : List Value)[k]?) := by
                          cases q0 with
                          | raw l =>
                            simp only [Row.part] at hp
                            split at hp
                            · cases hp; exact ⟨by simp [Row.size], fun j c hc => by simp at hc⟩
                            · cases hp
                          | ty tt xs =>
                            simp only [Row.part] at hp
                            split at hp
                            · split at hp
                              · rename_i h0
                                cases hp
                                have : xs = [] := List.eq_nil_of_length_eq_zero h0.2.symm
                                subst this
                                exact ⟨by simp [Row.size], fun j c hc => by simp at hc⟩
                              · split at hp
                                · cases hp; exact ⟨by simp [Row.size], fun j c hc => by simp at hc⟩
                                · cases hp
                            · cases hp
                        exact onto0 ao p r' _ (hh.kill id) (by simp) hp0.1 hp0.2 hr' (by rw [Nat.zero_add] at hlim; exact hlim)
                      · rcases hh.row id q0 (hrow_some hq0) with h0 | ⟨b', base', ext', hs', hb, hle, hcell, hrow⟩
                        · rw [h0] at hs; cases hs
                        · rw [hs] at hs'; cases hs'
                          obtain ⟨p1, p2, p3⟩ := part_rep hrow hp
                          have p1' : RowRep w (own X σ H) σ p (fun k => w.cell? ⟨b, base + o * i.size + k, none⟩) := RowRep.only (fun k v _ hv => by rw [Nat.add_assoc]; exact hv) p1
                          by_cases hroom : len + m ≤ c
                          · have hext' : base + o * i.size + c * i.size ≤ ext := by rw [Nat.add_mul] at hext; omega
                            have hmc : (len + m) * i.size ≤ c * i.size := Nat.mul_le_mul_right _ hroom
                            rw [Nat.add_mul] at hmc
                            have hthere : ∀ j, j < news.length → (w.cell? ⟨b, base + o * i.size + len * i.size + j, none⟩).isSome = true ∧ w.frozen? ⟨b, base + o * i.size + len * i.size + j, none⟩ = false := fun j hj => hcell _ (by omega)
                            refine ⟨_, _, run_append_room_src w t tx ty el i hu hi b (base + o * i.size) len c v m news hsrc hroom (fun j hj => (hthere j hj).1) (fun j hj => (hthere j hj).2), ?_⟩
                            obtain ⟨w1, w2⟩ := hh.write (r' := .raw []) (hrow_some hq0) hs (base + o * i.size + len * i.size) news (by omega) (by simp [Row.size]; omega) (fun own' ho i c hc => by simp at hc)
                            have hid1 : (H.set id (some (.raw [])))[id]? = some (some (.raw [])) := List.getElem?_set_self (List.getElem?_eq_some_iff.1 (hrow_some hq0)).1
                            have hcell1 : ∀ k, (w.setCells b (base + o * i.size + len * i.size) news).cell? ⟨b, base + o * i.size + k, none⟩ = if len * i.size ≤ k ∧ k < len * i.size + news.length then news[k - len * i.size]? else w.cell? ⟨b, base + o * i.size + k, none⟩ := fun k => by
                              rw [setCells_cell b hthere]
                              by_cases hk : len * i.size ≤ k ∧ k < len * i.size + news.length
                              · rw [if_pos (by omega), if_pos hk]; congr 1; omega
                              · rw [if_neg (by omega), if_neg hk]
                            have happ := app_rep (g := fun k => (w.setCells b (base + o * i.size + len * i.size) news).cell? ⟨b, base + o * i.size + k, none⟩)
                              ((p1'.mono (keepsX w2.keeps) w2.ext (fun _ _ h => h)).only (fun k v hk hv => by show World.cell? _ _ = _; rw [hcell1, if_neg (by omega)]; exact hv)) hr'
                              ((hqr.mono (keepsX w2.keeps) w2.ext (fun _ _ h => h)).only (fun k v hk hv => by show World.cell? _ _ = _; rw [hcell1, if_pos (by omega), show p.size + k - len * i.size = k by omega]; exact hv))
                            obtain ⟨r1, r2⟩ := w1.rename (base' := base + o * i.size) hid1 hs (by rw [happ.2, p2, hqs]; omega) happ.1
                            rw [List.set_set] at r1 r2
                            simp only [List.length_set] at r1 r2
                            exact ⟨_, .inr ⟨b, base + o * i.size, ext, c, upd_same _ _ _, by simp, hroom, hc, by rw [Nat.zero_add]; omega⟩, r1, w2.trans r2⟩
                          · obtain ⟨olds, o1, o2, o3, o4⟩ := p1'.list
                            have hold := run_firstCells_some (P := P) w.drew i.size len ⟨b, base + o * i.size, none⟩ len c olds (o1.trans p2) (fun j v hv => by rw [add_addr]; exact o2 j v hv)
                            refine ⟨_, _, run_append_grow_src w t tx ty el i zv hu hi hzv _ len c olds hold v m news hsrc (by omega) (by have := hlim.1; simp only [LIB] at this; omega) (fit (by omega) hlim), ?_⟩
                            exact grown hh (hh.kill id) (by simp) _ o4 p2 (o1.trans p2) hqr hqs hnl hr' hzs (grownCap_ge _ _ _ _) (grownCap_le_maxLen _ _ _ _ (by have := hlim.1; simp only [LIB] at this; simp only [maxLen]; omega))
                    · cases h
                  · cases h
                · cases h
              · cases h
            · cases h
          · split at h
            · rename_i hlim
              cases h
              obtain ⟨rfl, -⟩ := hx
              have := onto0 none (.raw []) q H ⟨hh, Step.refl _ _ _⟩ rfl rfl (fun j c hc => by simp at hc) rfl hlim
              simpa using this
            · cases h
          · split at h
            · rename_i hlim
              cases h
              obtain ⟨ao, rfl⟩ := hx
              have := onto0 ao (.raw []) q H ⟨hh, Step.refl _ _ _⟩ rfl rfl (fun j c hc => by simp at hc) rfl hlim
              simpa using this
            · cases h
          · cases h
        · cases h
      · cases h
    · cases h
  · cases h
theorem tsz_some {t : TypeId} {n : Nat} (h : tsz P t = some n) : ∃ i, P.info? t = some i ∧ i.size = n := Option.map_eq_some_iff.1 h
theorem s_indexAddr {t : TypeId} {x ix r : AV} {u v : Value} {own : Nat → Prop} (h : aindexAddr P t x ix = some r) (hx : RepA w own σ x u) (hi : RepA w own σ ix v) : ∃ v', (Instr.indexAt t u v).run P w = .ok v' w ∧ RepA w own σ r v' := by
  have hint : ∀ n, natI ix = some n → ∃ k, v = .int k n := fun n hn => by
    unfold natI at hn
    split at hn
    · cases hn; obtain ⟨rfl, -⟩ := hi; exact ⟨_, rfl⟩
    · cases hn
  unfold aindexAddr at h
  split at h
  · rename_i el i hu hn
    obtain ⟨k, rfl⟩ := hint i hn
    split at h
    · rename_i n hsz
      obtain ⟨ti, hti, hts⟩ := tsz_some hsz
      split at h
      · rename_i id o len e
        split at h
        · rename_i hc
          cases h
          obtain ⟨rfl, h0, h1⟩ := hc
          rcases hx with ⟨h2, a, rfl⟩ | ⟨b, base, ext, c, hs, rfl, hlc, hcm, hext⟩
          · omega
          · refine ⟨.pointer (some ⟨b, base + o * e + i.toNat * e, none⟩), ?_, b, base, ext, hs, ?_⟩
            · simp [Instr.indexAt, asIntOf, Sem.run_bind, run_underlying hu, sizeOf, typeInfo, hti, hts, h0, h1, Addr.add_mid]
            · rw [Nat.add_zero, Nat.add_mul, Nat.add_assoc]
        · cases h
      · rename_i t' xs
        split at h
        · rename_i hc
          cases h
          obtain ⟨rfl, h0, h1⟩ := hc
          rcases hx with ⟨rfl, a, c, rfl⟩ | ⟨b, off, c, rfl, hlc, hcm, hb, hlt, hxs⟩
          · simp at h1; omega
          · refine ⟨.pointer (some ⟨b, off + i.toNat * t'.sz, none⟩), ?_, b, off, by rw [Nat.add_zero], hb, hlt, hxs⟩
            simp [Instr.indexAt, asIntOf, Sem.run_bind, run_underlying hu, sizeOf, typeInfo, hti, hts, h0, h1, Addr.add_mid]
        · cases h
      · cases h
    · cases h
  · rename_i m el i hu hn
    obtain ⟨k, rfl⟩ := hint i hn
    split at h
    · rename_i n hsz
      obtain ⟨ti, hti, hts⟩ := tsz_some hsz
      split at h
      · rename_i hc
        obtain ⟨h0, h1⟩ := hc
        split at h
        · rename_i id e j
          cases h
          obtain ⟨b, base, ext, hs, rfl⟩ := hx
          refine ⟨.pointer (some ⟨b, base + (0 * e + j) + i.toNat * n, none⟩), ?_, b, base, ext, hs, ?_⟩
          · simp [Instr.indexAt, asIntOf, Sem.run_bind, run_underlying hu, sizeOf, typeInfo, hti, hts, h0, h1, Addr.add_mid, Instr.sureAddr]
          · rw [Nat.zero_mul, Nat.zero_add, Nat.add_assoc, Nat.add_comm j]
        · rename_i t' xs i' j
          cases h
          obtain ⟨b, off, rfl, hb, hlt, hxs⟩ := hx
          refine ⟨.pointer (some ⟨b, off + (i' * t'.sz + j) + i.toNat * n, none⟩), ?_, b, off, ?_, hb, hlt, hxs⟩
          · simp [Instr.indexAt, asIntOf, Sem.run_bind, run_underlying hu, sizeOf, typeInfo, hti, hts, h0, h1, Addr.add_mid, Instr.sureAddr]
          · rw [Nat.add_assoc, Nat.add_assoc]
        · cases h
      · cases h
    · cases h
  · cases h
theorem fo_some {t : TypeId} {f off : Nat} {ft : TypeId} (h : fo P t f = some (off, ft)) : ∃ fs fd, P.underlying t = some (.struct fs) ∧ fs[f]? = some fd ∧ fd.offset = off ∧ fd.type = ft := by
  unfold fo at h
  split at h
  · rename_i fs hu
    obtain ⟨fd, hf, he⟩ := Option.map_eq_some_iff.1 h
    simp only [Prod.mk.injEq] at he
    exact ⟨fs, fd, hu, hf, he.1, he.2⟩
  · cases h
theorem s_fieldAddr {t : TypeId} {x r : AV} {f : Nat} {u : Value} {own : Nat → Prop} (h : afieldAddr P t x f = some r) (hx : RepA w own σ x u) : ∃ v', (Instr.fieldAt t u f).run P w = .ok v' w ∧ RepA w own σ r v' := by
  unfold afieldAddr at h
  split at h
  · rename_i off ft hfo
    obtain ⟨fs, fd, hu, hf, rfl, rfl⟩ := fo_some hfo
    split at h
    · cases h
    · rename_i hz
      have ⟨ti, hti, hts⟩ : ∃ ti, P.info? fd.type = some ti ∧ ¬ ti.size = 0 := by
        cases hq : P.info? fd.type with
        | none => simp [tsz, hq] at hz
        | some ti => exact ⟨ti, rfl, by simpa [tsz, hq] using hz⟩
      have go : ∀ b o, (Instr.fieldAt t (.pointer (some ⟨b, o, none⟩)) f).run P w = .ok (.pointer (some ⟨b, o + fd.offset, none⟩)) w := fun b o => by
        simp [Instr.fieldAt, Sem.run_bind, run_underlying hu, hf, Instr.sureAddr, fieldPlace, sizeOf, typeInfo, hti, hts, Addr.add_mid]
      split at h
      · cases h
        obtain ⟨b, base, ext, hs, rfl⟩ := hx
        exact ⟨_, go _ _, b, base, ext, hs, by rw [Nat.add_assoc, Nat.add_assoc]⟩
      · cases h
        obtain ⟨b, o, rfl, hb, hlt, hxs⟩ := hx
        exact ⟨_, go _ _, b, o, by rw [Nat.add_assoc, Nat.add_assoc], hb, hlt, hxs⟩
      · cases h
  · cases h
/-- A part of a value. -/
theorem run_part_agg {own : Nat → Prop} {t : TypeId} {r : Row} {x : AV} {vs : List Value} {i e off : Nat} (h : apart P t r i e off = some x) (hr : RowRep w own σ r (fun k => vs[k]?)) (hvl : vs.length = r.size) :
    ∃ v, (part t vs.toArray (i * e + off)).run P w = .ok v w ∧ RepA w own σ x v := by
  unfold apart at h
  split at h
  · rename_i d hu
    split at h
    · rename_i hd
      have ha : (isAgg t).run P w = .ok true w := by
        unfold isAgg
        rw [Sem.run_bind, run_underlying hu w]
        cases d <;> simp_all [isRowT]
      split at h
      · rename_i n hn
        obtain ⟨ti, hti, hts⟩ := tsz_some hn
        obtain ⟨r', hr', rfl⟩ := Option.map_eq_some_iff.1 h
        obtain ⟨h1, h2, h3⟩ := sub_rep hr hr'
        refine ⟨.agg ((vs.drop (i * e + off)).take n).toArray, ?_, _, rfl, ?_, RowRep.only (fun k v hk hv => ?_) h1⟩
        · simp [part, Sem.run_bind, ha, sizeOf, typeInfo, hti, hts]
        · rw [List.length_take, List.length_drop, h2]; omega
        · rw [List.getElem?_take, if_pos (by omega), List.getElem?_drop]; exact hv
      · cases h
    · rename_i hd
      have ha : (isAgg t).run P w = .ok false w := by
        unfold isAgg
        rw [Sem.run_bind, run_underlying hu w]
        cases d <;> simp_all [isRowT]
      obtain ⟨c, hc, rfl⟩ := Option.map_eq_some_iff.1 h
      obtain ⟨v, h1, h2⟩ := at_rep hr hc
      have h1' : vs[i * e + off]? = some v := h1
      exact ⟨v, by simp [part, Sem.run_bind, ha, h1'], h2⟩
  · cases h
theorem s_field {t : TypeId} {x r : AV} {f : Nat} {u : Value} {own : Nat → Prop} (h : afield P t x f = some r) (hx : RepA w own σ x u) : ∃ v', (Instr.field t u f).run P w = .ok v' w ∧ RepA w own σ r v' := by
  unfold afield at h
  split at h
  · rename_i off ft t' y hfo
    obtain ⟨fs, fd, hu, hf, rfl, rfl⟩ := fo_some hfo
    obtain ⟨vs, rfl, h1, h2⟩ := hx
    obtain ⟨v, h3, h4⟩ := run_part_agg h h2 h1
    refine ⟨v, ?_, h4⟩
    rw [Nat.zero_mul, Nat.zero_add] at h3
    simp [Instr.field, Sem.run_bind, run_underlying hu, hf, asAgg, h3]
  · rename_i off ft l hfo
    obtain ⟨fs, fd, hu, hf, rfl, rfl⟩ := fo_some hfo
    obtain ⟨vs, rfl, h1, h2⟩ := hx
    obtain ⟨v, h3, h4⟩ := run_part_agg h h2 h1
    refine ⟨v, ?_, h4⟩
    rw [Nat.zero_mul, Nat.zero_add] at h3
    simp [Instr.field, Sem.run_bind, run_underlying hu, hf, asAgg, h3]
  · cases h
theorem s_index {t : TypeId} {x ix r : AV} {u v : Value} {own : Nat → Prop} (h : aindex P t x ix = some r) (hx : RepA w own σ x u) (hi : RepA w own σ ix v) : ∃ v', (Instr.index t u v).run P w = .ok v' w ∧ RepA w own σ r v' := by
  have hint : ∀ n, natI ix = some n → ∃ k, v = .int k n := fun n hn => by
    unfold natI at hn
    split at hn
    · cases hn; obtain ⟨rfl, -⟩ := hi; exact ⟨_, rfl⟩
    · cases hn
  unfold aindex at h
  split at h
  · rename_i m el i q hu hn
    obtain ⟨k, rfl⟩ := hint i hn
    split at h
    · rename_i n hsz
      obtain ⟨ti, hti, hts⟩ := tsz_some hsz
      split at h
      · rename_i hc
        obtain ⟨vs, rfl, h1, h2⟩ := hx
        obtain ⟨v, h3, h4⟩ := run_part_agg h h2 h1
        rw [Nat.add_zero] at h3
        exact ⟨v, by simp [Instr.index, asIntOf, Sem.run_bind, run_underlying hu, hc.1, hc.2, sizeOf, typeInfo, hti, hts, h3], h4⟩
      · cases h
    · cases h
  · rename_i i q hu hn
    obtain ⟨k, rfl⟩ := hint i hn
    split at h
    · rename_i h0
      split at h
      · rename_i b hb
        cases h
        obtain ⟨rfl, -⟩ := hx
        exact ⟨.int .u8 b.toNat, by simp [Instr.index, asIntOf, Sem.run_bind, run_underlying hu, h0, hb], rfl, rfl⟩
      · cases h
    · cases h
  · cases h
/-- A value that may be lacking. -/
def ORep (w : World) (own : Nat → Prop) (σ : Sg) : Option AV → Option Value → Prop
  | none, none => True | some x, some v => RepA w own σ x v | _, _ => False
theorem run_bound {own : Nat → Prop} {x : AV} {v : Value} {d n y : Nat} {code : BoundsCode} (hx : RepA w own σ x v) (h : bound d (some x) = some n) (hle : n ≤ y) : (Instr.sliceBound v y code).run P w = .ok n w := by
  simp only [bound] at h
  split at h
  · rename_i i hi
    unfold natI at hi
    split at hi
    · cases hi
      obtain ⟨rfl, -⟩ := hx
      split at h
      · rename_i h0
        cases h
        have : i ≤ (y : Int) := by omega
        simp [Instr.sliceBound, asIntOf, Sem.run_bind, h0, this]
      · cases h
    · cases hi
  · cases h
theorem run_bounds {own : Nat → Prop} {lo hi : Option AV} {u v : Option Value} {b : Bool} {len cap l h : Nat} (hu : ORep w own σ lo u) (hv : ORep w own σ hi v) (h1 : bound 0 lo = some l) (h2 : bound len hi = some h) (hlh : l ≤ h) (hl : h ≤ len) (hc : len ≤ cap) :
    (Instr.sliceBounds b len cap u v none).run P w = .ok (l, h, cap) w := by
  unfold Instr.sliceBounds
  cases lo with
  | none =>
    cases u with
    | some _ => exact hu.elim
    | none =>
      simp only [bound, Option.some.injEq] at h1; subst h1
      cases hi with
      | none =>
        cases v with
        | some _ => exact hv.elim
        | none => simp only [bound, Option.some.injEq] at h2; subst h2; simp [Sem.run_bind]
      | some x =>
        cases v with
        | none => exact hv.elim
        | some y => simp [Sem.run_bind, run_bound (P := P) (y := cap) hv h2 (by omega)]
  | some z =>
    cases u with
    | none => exact hu.elim
    | some u =>
      cases hi with
      | none =>
        cases v with
        | some _ => exact hv.elim
        | none => simp only [bound, Option.some.injEq] at h2; subst h2; simp [Sem.run_bind, run_bound (P := P) hu h1 hlh]
      | some x =>
        cases v with
        | none => exact hv.elim
        | some y => simp [Sem.run_bind, run_bound (P := P) (y := cap) hv h2 (by omega), run_bound (P := P) hu h1 hlh]
theorem alen_rep {own : Nat → Prop} {H0 : Hp} {x : AV} {u : Value} {len : Nat} (h : alen H0 x = some len) (hx : RepA w own σ x u) : (∃ a c, u = .slice a len c ∧ len ≤ c) ∨ ∃ t, u = .string t ∧ x = .c (.v (.string t)) := by
  unfold alen at h
  split at h
  · cases h
    rcases hx with ⟨rfl, a, rfl⟩ | ⟨b, base, ext, c, hs, rfl, hlc, -⟩
    · exact .inl ⟨_, _, rfl, Nat.le_refl _⟩
    · exact .inl ⟨_, _, rfl, hlc⟩
  · cases h
    rcases hx with ⟨rfl, a, c, rfl⟩ | ⟨b, off, c, rfl, hlc, -⟩
    · exact .inl ⟨_, _, rfl, Nat.zero_le _⟩
    · exact .inl ⟨_, _, rfl, hlc⟩
  · cases h; obtain ⟨rfl, -⟩ := hx; exact .inl ⟨_, _, rfl, Nat.le_refl _⟩
  · cases h; obtain ⟨a, rfl⟩ := hx; exact .inl ⟨_, _, rfl, Nat.le_refl _⟩
  · cases h; obtain ⟨rfl, -⟩ := hx; exact .inr ⟨_, rfl, rfl⟩
  · cases h
theorem alenS_rep {own : Nat → Prop} {x : AV} {u : Value} {len : Nat} (h : alenS x = some len) (hx : RepA w own σ x u) : ∃ a c, u = .slice a len c ∧ len ≤ c := by
  unfold alenS at h
  split at h
  · cases h
    rcases hx with ⟨rfl, a, rfl⟩ | ⟨b, base, ext, c, hs, rfl, hlc, -⟩
    · exact ⟨_, _, rfl, Nat.le_refl _⟩
    · exact ⟨_, _, rfl, hlc⟩
  · cases h
    rcases hx with ⟨rfl, a, c, rfl⟩ | ⟨b, off, c, rfl, hlc, -⟩
    · exact ⟨_, _, rfl, Nat.zero_le _⟩
    · exact ⟨_, _, rfl, hlc⟩
  · cases h; obtain ⟨rfl, -⟩ := hx; exact ⟨_, _, rfl, Nat.le_refl _⟩
  · cases h; obtain ⟨a, rfl⟩ := hx; exact ⟨_, _, rfl, Nat.le_refl _⟩
  · cases h
theorem s_slice (hh : HeapRep X σ H w) {t : TypeId} {x r : AV} {lo hi : Option AV} {u : Value} {v1 v2 : Option Value} (h : aslice P H t x lo hi = some r) (hx : RepA w (own X σ H) σ x u) (hlo : ORep w (own X σ H) σ lo v1) (hhi : ORep w (own X σ H) σ hi v2) :
    ∃ v', (Instr.sliceAt t u v1 v2 none).run P w = .ok v' w ∧ RepA w (own X σ H) σ r v' := by
  unfold aslice at h
  split at h
  · rename_i m el hu
    split at h
    · rename_i n l hb hsz h1 h2
      obtain ⟨ti, hti, hts⟩ := tsz_some hsz
      split at h
      · rename_i hc
        obtain ⟨c1, c2, c3⟩ := hc
        split at h
        · rename_i id e
          split at h
          · rename_i q hq
            split at h
            · rename_i hqs
              cases h
              obtain ⟨b, base, ext, hs, rfl⟩ := hx
              rcases hh.row id q (hrow_some hq) with h0 | ⟨b', base', ext', hs', hb', hle, hcell, hrow⟩
              · rw [h0] at hs; cases hs
              · rw [hs] at hs'; cases hs'
                have hrb := run_bounds (P := P) (b := false) (cap := m) hlo hhi h1 h2 c1 c2 (Nat.le_refl _)
                refine ⟨.slice (some (if m = l then ⟨b, base + (0 * e + 0), none⟩ else ⟨b, base + (0 * e + 0) + l * n, none⟩)) (hb - l) (m - l), ?_, ?_⟩
                · simp [Instr.sliceAt, Instr.sureAddr, Sem.run_bind, run_underlying hu, hrb, sizeOf, typeInfo, hti, hts, Addr.add_mid]
                · by_cases hml : m = l
                  · left
                    exact ⟨by omega, _, by rw [if_pos hml, show hb - l = 0 by omega, show m - l = 0 by omega]⟩
                  · right
                    rw [if_neg hml]
                    refine ⟨b, base, ext, m - l, hs, by simp, by omega, by simp only [LIM] at c3; simp only [maxLen]; omega, ?_⟩
                    rw [show l + (m - l) = m by omega]; omega
            · cases h
          · cases h
        · rename_i m' e' xs i
          split at h
          · rename_i he
            obtain ⟨rfl, rfl⟩ := he
            split at h
            · rename_i ys hys
              cases h
              obtain ⟨b, off, rfl, hbo, hlt, hxs⟩ := hx
              obtain ⟨yl, yr⟩ := hxs i ys hys
              have hrb := run_bounds (P := P) (b := false) (cap := m') hlo hhi h1 h2 c1 c2 (Nat.le_refl _)
              refine ⟨.slice (some (if m' = l then ⟨b, off + (i * (Ty.ar m' e').sz + 0), none⟩ else ⟨b, off + (i * (Ty.ar m' e').sz + 0) + l * e'.sz, none⟩)) (hb - l) (m' - l), ?_, ?_⟩
              · simp [Instr.sliceAt, Instr.sureAddr, Sem.run_bind, run_underlying hu, hrb, sizeOf, typeInfo, hti, hts, Addr.add_mid]
              · have hlen : ((ys.drop l).take (hb - l)).length = hb - l := by rw [List.length_take, List.length_drop]; omega
                by_cases hml : m' = l
                · left
                  exact ⟨List.length_eq_zero_iff.1 (by rw [hlen]; omega), _, _, by rw [if_pos hml, show hb - l = 0 by omega]⟩
                · right
                  rw [if_neg hml]
                  refine ⟨b, off + (i * (Ty.ar m' e').sz + 0) + l * e'.sz, m' - l, by rw [hlen], by rw [hlen]; omega, by simp only [LIM] at c3; simp only [maxLen]; omega, hbo, hlt, fun k x hk => ?_⟩
                  rw [List.getElem?_take] at hk
                  split at hk
                  · rw [List.getElem?_drop] at hk
                    refine RepD.cells (fun j v hv => ?_) (yr _ x hk)
                    rw [← hv]; congr 2; rw [Nat.add_mul]; omega
                  · cases hk
            · cases h
          · cases h
        · cases h
      · cases h
    · cases h
  · rename_i el hu
    split at h
    · rename_i n len hsz hal
      obtain ⟨ti, hti, hts⟩ := tsz_some hsz
      split at h
      · rename_i l hb h1 h2
        split at h
        · rename_i hc
          obtain ⟨c1, c2⟩ := hc
          have go : ∀ ao cap, len ≤ cap → (Instr.sliceAt t (.slice ao len cap) v1 v2 none).run P w = .ok (.slice (if cap = l then ao else ao.map (·.add (l * n))) (hb - l) (cap - l)) w := fun ao cap hcap => by
            have hrb := run_bounds (P := P) (b := true) (cap := cap) hlo hhi h1 h2 c1 c2 hcap
            simp [Instr.sliceAt, Instr.slice, Sem.run_bind, run_underlying hu, hrb, sizeOf, typeInfo, hti, hts]
          split at h
          · rename_i id o len' e
            split at h
            · rename_i he; subst he
              cases h
              cases hal
              rcases hx with ⟨h0, ao, rfl⟩ | ⟨b, base, ext, c, hs, rfl, hlc, hcm, hext⟩
              · subst h0
                refine ⟨_, go ao 0 (Nat.le_refl _), .inl ⟨by omega, ao, ?_⟩⟩
                rw [if_pos (by omega), show hb - l = 0 by omega, Nat.zero_sub]
              · refine ⟨_, go _ c hlc, ?_⟩
                by_cases hml : c = l
                · left
                  exact ⟨by omega, _, by rw [if_pos hml, show hb - l = 0 by omega, show c - l = 0 by omega]⟩
                · right
                  rw [if_neg hml]
                  refine ⟨b, base, ext, c - l, hs, by simp [Addr.add_mid, Nat.add_mul, Nat.add_assoc], by omega, by omega, ?_⟩
                  rw [show o + l + (c - l) = o + c by omega]; exact hext
            · cases h
          · rename_i t' xs
            split at h
            · rename_i he; subst he
              cases h
              cases hal
              rcases hx with ⟨rfl, ao, c, rfl⟩ | ⟨b, off, c, rfl, hlc, hcm, hbo, hlt, hxs⟩
              · have e0 : hb - l = 0 := by simp at c2; omega
                exact ⟨_, go ao c (Nat.zero_le _), .inl ⟨by simp, (if c = l then ao else ao.map (·.add (l * t'.sz))), c - l, by rw [e0]⟩⟩
              · refine ⟨_, go _ c hlc, ?_⟩
                by_cases hml : c = l
                · left
                  exact ⟨by simp; omega, _, _, by rw [if_pos hml, show hb - l = 0 by omega, show c - l = 0 by omega]⟩
                · right
                  rw [if_neg hml]
                  have hlen : ((xs.drop l).take (hb - l)).length = hb - l := by rw [List.length_take, List.length_drop]; omega
                  refine ⟨b, off + l * t'.sz, c - l, by simp [Addr.add_mid, hlen], by omega, by omega, hbo, hlt, fun i x hi => ?_⟩
                  rw [List.getElem?_take] at hi
                  split at hi
                  · rw [List.getElem?_drop] at hi
                    refine RepD.cells (fun j v hv => ?_) (hxs _ x hi)
                    rw [show off + l * t'.sz + i * t'.sz + j = off + (l + i) * t'.sz + j by rw [Nat.add_mul]; omega]; exact hv
                  · cases hi
            · cases h
          · cases h
            cases hal
            obtain ⟨rfl, -⟩ := hx
            refine ⟨_, go none 0 (Nat.le_refl _), ?_⟩
            rw [show hb - l = 0 by omega, Nat.zero_sub]
            exact ⟨by split <;> rfl, rfl⟩
          · cases h
            cases hal
            obtain ⟨ao, rfl⟩ := hx
            refine ⟨_, go ao 0 (Nat.le_refl _), ao, ?_⟩
            rw [if_pos (by omega), show hb - l = 0 by omega, Nat.zero_sub]
          · cases h
        · cases h
      · cases h
    · cases h
  · rename_i hu
    split at h
    · rename_i q
      split at h
      · rename_i l hb h1 h2
        split at h
        · rename_i hc
          cases h
          obtain ⟨rfl, -⟩ := hx
          have hrb := run_bounds (P := P) (b := false) (cap := q.size) hlo hhi h1 h2 hc.1 hc.2 (Nat.le_refl _)
          exact ⟨.string (q.extract l hb), by simp [Instr.sliceAt, Instr.slice, Sem.run_bind, run_underlying hu, hrb], rfl, rfl⟩
        · cases h
      · cases h
    · cases h
  · cases h
theorem s_make (hh : HeapRep X σ H w) {t : TypeId} {l c r : AV} {u v : Value} {H' : Hp} (h : amake P H t l c = some (r, H')) (hl : RepA w (own X σ H) σ l u) (hc : RepA w (own X σ H) σ c v) :
    ∃ v' w', (Instr.makeSlice t u v).run P w = .ok v' w' ∧ Post X σ H w r H' v' w' := by
  have hint : ∀ {x : AV} {u : Value} n, natI x = some n → RepA w (own X σ H) σ x u → ∃ k, u = .int k n := fun n hn hi => by
    unfold natI at hn
    split at hn
    · cases hn; obtain ⟨rfl, -⟩ := hi; exact ⟨_, rfl⟩
    · cases hn
  unfold amake at h
  split at h
  · rename_i el a b hu ha hb
    obtain ⟨k1, rfl⟩ := hint a ha hl
    obtain ⟨k2, rfl⟩ := hint b hb hc
    split at h
    · rename_i n by_ z hq
      obtain ⟨i, hi, rfl, rfl, hzz⟩ := tq_some hq
      split at h
      · rename_i hcond
        obtain ⟨c0, c1, c2, c3, c4, rfl⟩ := hcond
        obtain ⟨zv, hzv, hzs⟩ := Option.map_eq_some_iff.1 hzz
        split at h
        · rename_i zr hzr
          split at h
          · rename_i k hk
            split at h
            · rename_i y hy
              cases h
              obtain ⟨i', z', hi', hz', hr1, hr2⟩ := zrow_rep (σ := σ) (own := own X σ H) (w := w) hzr
              rw [hi] at hi'; cases hi'
              rw [hzv] at hz'; cases hz'
              obtain ⟨hy1, hy2⟩ := rowOne_rep hr1 hy
              have hks : k.sz = i.size := by omega
              have hb2 : (i.bytes : Int) * b ≤ 281474976710656 := by
                have : (i.bytes : Int) * b ≤ 32768 * 4294967296 := Int.mul_le_mul (by omega) (by simp only [LIM] at c2; omega) (by omega) (by omega)
                omega
              obtain ⟨h3, h4⟩ := hh.alloc (madeCells zv.cells (b.toNat * i.size)) el (.ty k (List.replicate b.toNat y)) (by rw [size_madeCells]; simp [Row.size, hks]) (fun j x hj => by
                rw [List.getElem?_replicate] at hj
                split at hj
                · cases hj
                  rename_i hjb
                  refine RepD.only (fun m v hm hv => ?_) hy1
                  have hlt : j * k.sz + m < b.toNat * i.size := by rw [← hks]; exact mul_add_lt hjb hm
                  have hmm : (j * k.sz + m) % zv.cells.size = m := by rw [hzs, ← hks, Nat.mul_comm, Nat.mul_add_mod]; exact Nat.mod_eq_of_lt hm
                  show (madeCells zv.cells (b.toNat * i.size))[j * k.sz + m]? = some v
                  unfold madeCells
                  rw [Array.getElem?_map, Array.getElem?_range, if_pos hlt, Option.map_some, hmm]
                  have hmz : m < zv.cells.size := by omega
                  rw [Array.getElem?_eq_getElem hmz] at hv
                  rw [getElem!_pos zv.cells m hmz]; exact hv
                · cases hj)
              refine ⟨_, _, run_make w t el i zv hu hi hzv k1 k2 a b c0 c1 hb2 (by simp only [LIM] at c2; omega), _, .inr ⟨w.heap.size, 0, _, b.toNat, upd_same _ _ _, by simp, by omega, by simp only [LIM] at c2; simp only [maxLen]; omega, by rw [size_madeCells]; simp⟩, h3, h4⟩
            · cases h
          · cases h
        · cases h
      · cases h
    · cases h
  · cases h
theorem s_slice3 (hh : HeapRep X σ H w) {t : TypeId} {x r : AV} {lo hi mx : Option AV} {u : Value} {v1 v2 v3 : Option Value} (h : aslice3 P t x lo hi mx = some r) (hx : RepA w (own X σ H) σ x u) (hlo : ORep w (own X σ H) σ lo v1) (hhi : ORep w (own X σ H) σ hi v2) (hmx : ORep w (own X σ H) σ mx v3) :
    ∃ v', (Instr.sliceAt t u v1 v2 v3).run P w = .ok v' w ∧ RepA w (own X σ H) σ r v' := by
  unfold aslice3 at h
  split at h
  · rename_i el hu
    split at h
    · rename_i n len hsz hal
      obtain ⟨ti, hti, hts⟩ := tsz_some hsz
      split at h
      · rename_i l hb m h1 h2 h3
        split at h
        · rename_i hc
          obtain ⟨c1, c2, c3⟩ := hc
          have bds : hi.isSome = true → mx.isSome = true → ∀ ao cap, len ≤ cap → (Instr.sliceAt t (.slice ao len cap) v1 v2 v3).run P w = .ok (.slice (if m = l then ao else ao.map (·.add (l * n))) (hb - l) (m - l)) w := fun e1 e2 ao cap hcap => by
            obtain ⟨xh, rfl⟩ := Option.isSome_iff_exists.1 e1
            obtain ⟨xm, rfl⟩ := Option.isSome_iff_exists.1 e2
            cases v2 with
            | none => exact hhi.elim
            | some v2 =>
              cases v3 with
              | none => exact hmx.elim
              | some v3 =>
                have hh2 : bound len (some xh) = some hb := h2
                have r2 := fun y code (hy : hb ≤ y) => run_bound (P := P) (y := y) (code := code) (w := w) hhi h2 hy
                have r3 := fun y code (hy : m ≤ y) => run_bound (P := P) (y := y) (code := code) (w := w) hmx h3 hy
                cases lo with
                | none =>
                  cases v1 with
                  | some _ => exact hlo.elim
                  | none =>
                    simp only [bound, Option.some.injEq] at h1; subst h1
                    simp [Instr.sliceAt, Instr.slice, Instr.sliceBounds, Sem.run_bind, run_underlying hu, r3 cap .slice3Acap (by omega), r2 m .slice3B c2, sizeOf, typeInfo, hti, hts]
                | some z =>
                  cases v1 with
                  | none => exact hlo.elim
                  | some v1 =>
                    simp [Instr.sliceAt, Instr.slice, Instr.sliceBounds, Sem.run_bind, run_underlying hu, r3 cap .slice3Acap (by omega), r2 m .slice3B c2, run_bound (P := P) (w := w) (code := .slice3C) hlo h1 c1, sizeOf, typeInfo, hti, hts]
          split at h
          · rename_i hlm
            split at h
            · rename_i hs
              cases h
              obtain ⟨ao, c, rfl, hc'⟩ := alenS_rep hal hx
              refine ⟨_, bds hs.1 hs.2 ao c hc', ao, ?_⟩
              rw [if_pos hlm.symm, show hb - l = 0 by omega, show m - l = 0 by omega]
            · cases h
          · rename_i hlm
            split at h
            · rename_i id o len' e
              split at h
              · rename_i hs
                obtain ⟨rfl, hs1, hs2⟩ := hs
                cases h
                cases hal
                rcases hx with ⟨h0, ao, rfl⟩ | ⟨b, base, ext, c, hs, rfl, hlc, hcm, hext⟩
                · omega
                · refine ⟨_, bds hs1 hs2 _ c hlc, .inr ?_⟩
                  rw [if_neg (fun h => hlm h.symm)]
                  refine ⟨b, base, ext, m - l, hs, by simp [Addr.add_mid, Nat.add_mul, Nat.add_assoc], by omega, by omega, ?_⟩
                  have : (o + l + (m - l)) * e ≤ (o + c) * e := Nat.mul_le_mul_right _ (by omega)
                  omega
              · cases h
            · cases h
        · cases h
      · cases h
    · cases h
  · cases h
/-! ### Literals -/
theorem LRep.mono {own own' : Nat → Prop} {w' : World} {σ' : Sg} {l : List CV} {g g' : Cells} (hk : Keeps w own w' own') (hs : ∀ id x, σ id = some x → σ' id = some x) (hg : ∀ j v, g j = some v → g' j = some v) (h : LRep w own σ l g) : LRep w' own' σ' l g' :=
  fun i c hc => by obtain ⟨v, h1, h2⟩ := h i c hc; exact ⟨v, hg _ _ h1, h2.mono hk hs⟩
theorem LRep.cells {own : Nat → Prop} {l : List CV} {g g' : Cells} (hg : ∀ j v, j < l.length → g j = some v → g' j = some v) (h : LRep w own σ l g) : LRep w own σ l g' :=
  fun i c hc => by obtain ⟨v, h1, h2⟩ := h i c hc; exact ⟨v, hg _ _ (List.getElem?_eq_some_iff.1 hc).1 h1, h2⟩
theorem LRep.flat {own : Nat → Prop} {α : Type} {f : α → List CV} {n : Nat} : ∀ {xs : List α} {g : Cells}, (∀ (i : Nat) x, xs[i]? = some x → (f x).length = n ∧ LRep w own σ (f x) (fun j => g (i * n + j))) → LRep w own σ (xs.flatMap f) g ∧ (xs.flatMap f).length = xs.length * n
  | [], g, h => ⟨fun i c hc => by simp at hc, by simp⟩
  | x :: xs, g, h => by
    obtain ⟨h1, h2⟩ := h 0 x rfl
    obtain ⟨h3, h4⟩ := LRep.flat (xs := xs) (g := fun j => g (n + j)) (fun i y hy => by
      obtain ⟨e1, e2⟩ := h (i + 1) y (by simpa using hy)
      exact ⟨e1, e2.cells (fun j v _ hv => by show g (n + (i * n + j)) = _; rw [Nat.add_mul, Nat.one_mul] at hv; rw [← Nat.add_assoc, Nat.add_comm n]; exact hv)⟩)
    rw [List.flatMap_cons]
    exact ⟨LRep.append (h2.cells (fun j v _ hv => by simpa using hv)) (by rw [h1]; exact h3), by rw [List.length_append, h1, h4, List.length_cons, Nat.add_mul]; omega⟩
theorem encL_rep {own : Nat → Prop} : ∀ {t : Ty} {x : t.D} {g : Cells}, RepD w own t x g → (encL t x).length = t.sz ∧ LRep w own σ (encL t x) g
  | .i k, n, g, h => ⟨rfl, fun i c hc => by cases i with | zero => cases hc; exact ⟨_, h, rfl, rfl⟩ | succ i => simp [encL] at hc⟩
  | .bo, n, g, h => ⟨rfl, fun i c hc => by cases i with | zero => cases hc; exact ⟨_, h, rfl, rfl⟩ | succ i => simp [encL] at hc⟩
  | .st, n, g, h => ⟨rfl, fun i c hc => by cases i with | zero => cases hc; exact ⟨_, h, rfl, rfl⟩ | succ i => simp [encL] at hc⟩
  | .f k, n, g, h => ⟨rfl, fun i c hc => by cases i with | zero => cases hc; exact ⟨_, h, rfl, rfl⟩ | succ i => simp [encL] at hc⟩
  | .sl e, n, g, h => ⟨rfl, fun i c hc => by cases i with | zero => cases hc; exact h | succ i => simp [encL] at hc⟩
  | .pr a b, x, g, h => by
    obtain ⟨h1, h2⟩ := encL_rep h.1
    obtain ⟨h3, h4⟩ := encL_rep h.2
    exact ⟨by simp only [encL, List.length_append, h1, h3, Ty.sz], LRep.append h2 (by rw [h1]; exact h4)⟩
  | .ar n e, xs, g, h => by
    obtain ⟨h1, h2⟩ := LRep.flat (n := e.sz) (f := encL e) (g := g) (fun i x hx => encL_rep (h.2 i x hx))
    exact ⟨by rw [show encL (.ar n e) xs = xs.flatMap (encL e) from rfl, h2, h.1]; rfl, h1⟩
theorem cells_rep {own : Nat → Prop} {r : Row} {g : Cells} (h : RowRep w own σ r g) : r.cells.length = r.size ∧ LRep w own σ r.cells g := by
  cases r with
  | raw l => exact ⟨rfl, h⟩
  | ty t xs =>
    obtain ⟨h1, h2⟩ := LRep.flat (n := t.sz) (f := encL t) (g := g) (fun i x hx => encL_rep (h i x hx))
    exact ⟨h2, h1⟩
theorem av_cells {own : Nat → Prop} {x : AV} {v : Value} (hx : Rep1 w own σ x v) : LRep w own σ (AV.cells [x]) (fun k => v.cells[k]?) ∧ (AV.cells [x]).length = v.cells.size := by
  cases x with
  | c c =>
    have h1 := row_rep (x := .c c) rfl hx
    exact ⟨h1.1, h1.2⟩
  | agg r =>
    have h1 := row_rep (x := .agg r) rfl hx
    have h2 := cells_rep h1.1
    exact ⟨by simpa [AV.cells] using h2.2, by simp only [AV.cells, List.append_nil]; rw [h2.1, h1.2]⟩
  | tup l => exact hx.elim
theorem one_rep1 {own : Nat → Prop} {t : Ty} {x : AV} {y : t.D} {v : Value} (h : AV.one t x = some y) (hx : RepA w own σ x v) : RepD w own t y (fun k => v.cells[k]?) ∧ v.cells.size = t.sz := by
  cases x with
  | c c =>
    have h1 := row_rep (x := .c c) rfl hx
    simp only [AV.one] at h
    split at h
    · rename_i hs
      obtain ⟨u, h2, h3⟩ := h1.1 0 c rfl
      exact ⟨leaf_rep h h3 h2, by rw [hs, ← h1.2]; rfl⟩
    · cases h
  | agg r =>
    have h1 := row_rep (x := .agg r) rfl hx
    obtain ⟨h2, h3⟩ := rowOne_rep h1.1 h
    exact ⟨h2, by rw [← h1.2, h3]⟩
  | tup l => cases h
end
end Go.Proofs.Ytcnoooodnmjdmaa
end
section
set_option linter.unusedSimpArgs false
set_option linter.unusedVariables false
/- AHI, part G: literals, operators, conversions, copy, length are what the model does. -/
namespace Go.Proofs.Ytcnoooodnmjdmaa
open Go.RowKit
section
variable {P : Program} {X : Nat → Prop} {σ : Sg} {s : St} {H : Hp} {a : Act} {w : World}
theorem ev1_rep {T : Nat → Prop} (he : EnvRep X σ s a w T) {x : Operand} {y : AV} (hT : ∀ t, x = .tmp t → T t) (h : ev1 s x = some y) : Rep1 w (own X σ s.H) σ y (a.eval x) := by
  unfold ev1 at h
  split at h
  · cases h
  · rename_i r hr
    have := ev_rep he hT h
    cases y with
    | c c => exact this
    | agg r => exact this
    | tup l => exact (hr l h).elim
theorem cells_cons (x : AV) (l : List AV) : AV.cells (x :: l) = AV.cells [x] ++ AV.cells l := by
  cases x <;> simp [AV.cells]
theorem cells_flat : ∀ (l : List AV), AV.cells l = l.flatMap fun x => AV.cells [x]
  | [] => rfl
  | x :: l => by rw [cells_cons, cells_flat l, List.flatMap_cons]
theorem allParts_rep {T : Nat → Prop} (he : EnvRep X σ s a w T) : ∀ {l : List (Nat × Operand)} {k : Nat} {xs : List AV}, (∀ i t, (i, Operand.tmp t) ∈ l → T t) → allParts s k l = some xs →
    l.map (fun x => (x.1, a.eval x.2)) = ((l.map fun x => a.eval x.2).zipIdx k).map (fun x => (x.2, x.1)) ∧ xs.length = l.length ∧ ∀ (i : Nat) x, xs[i]? = some x → ∃ v, (l.map fun x => a.eval x.2)[i]? = some v ∧ Rep1 w (own X σ s.H) σ x v
  | [], k, xs, hT, h => by cases h; exact ⟨rfl, rfl, fun i x hx => by simp at hx⟩
  | (i, x) :: l, k, xs, hT, h => by
    simp only [allParts] at h
    split at h
    · rename_i hik; subst hik
      split at h
      · rename_i y ys hy hys
        cases h
        obtain ⟨h1, h2, h3⟩ := allParts_rep he (fun j t ht => hT j t (List.mem_cons_of_mem _ ht)) hys
        refine ⟨by simp only [List.map_cons, List.zipIdx_cons, h1], by simp [h2], fun j z hz => ?_⟩
        cases j with
        | zero => cases hz; exact ⟨_, rfl, ev1_rep he (fun t ht => hT i t (ht ▸ List.mem_cons_self ..)) hy⟩
        | succ j => exact h3 j z (by simpa using hz)
      · cases h
    · cases h
theorem ones_rep {t : Ty} : ∀ {l : List AV} {xs : List t.D}, AV.ones t l = some xs → xs.length = l.length ∧ ∀ (i : Nat) x, xs[i]? = some x → ∃ y, l[i]? = some y ∧ AV.one t y = some x
  | [], xs, h => by cases h; exact ⟨rfl, fun i x hx => by simp at hx⟩
  | y :: l, xs, h => by
    simp only [AV.ones] at h
    split at h
    · rename_i x ys hx hys
      cases h
      obtain ⟨h1, h2⟩ := ones_rep hys
      refine ⟨by simp [h1], fun i z hz => ?_⟩
      cases i with
      | zero => cases hz; exact ⟨y, rfl, hx⟩
      | succ i => exact h2 i z (by simpa using hz)
    · cases h
theorem allSz_spec {n : Nat} : ∀ {l : List AV}, AV.allSz n l = true → ∀ x ∈ l, (AV.cells [x]).length = n
  | [], _, x, hx => by cases hx
  | y :: l, h, x, hx => by
    simp only [AV.allSz, Bool.and_eq_true, decide_eq_true_eq] at h
    cases hx with
    | head => exact h.1
    | tail _ hx => exact allSz_spec h.2 x hx
theorem flat_len {n : Nat} : ∀ (vs : List Value), (∀ v ∈ vs, v.cells.size = n) → (vs.flatMap fun v => v.cells.toList).length = vs.length * n
  | [], _ => by simp
  | v :: vs, h => by
    rw [List.flatMap_cons, List.length_append, flat_len vs (fun u hu => h u (List.mem_cons_of_mem _ hu)), Array.length_toList, h v (List.mem_cons_self ..), List.length_cons, Nat.add_mul]
    omega
theorem s_buildSlice {T : Nat → Prop} (he : EnvRep X σ s a w T) (hh : HeapRep X σ s.H w) {t : TypeId} {len : Nat} {parts : Array (Nat × Operand)} {r : AV} {H' : Hp} (hT : ∀ i t, (i, Operand.tmp t) ∈ parts.toList → T t) (h : abuildSlice P s t len parts.toList = some (r, H')) :
    ∃ v w', (Instr.buildSlice t len (parts.map fun (i, x) => (i, a.eval x))).run P w = .ok v w' ∧ Post X σ s.H w r H' v w' := by
  unfold abuildSlice at h
  split at h
  · rename_i h00
    obtain ⟨rfl, hp0⟩ := h00
    unfold abuild0 at h
    split at h
    · rename_i el hu
      split at h
      · rename_i n by_ z k hq hk
        obtain ⟨i, hi, rfl, -, hz⟩ := tq_some hq
        split at h
        · cases h
          have hp : parts.toList = [] := List.eq_nil_of_length_eq_zero hp0
          have hp' : parts = #[] := by apply Array.ext'; simpa using hp
          subst hp'
          have hrun : (Instr.buildSlice t 0 #[]).run P w = .ok (.slice (some ⟨w.heap.size, 0, none⟩) 0 0) (w.alloc (.cells #[] el)) := by
            simp [Instr.buildSlice, run_underlying hu, sizeOf, typeInfo, hi, newRow, Instr.fill]
            congr 2
            apply Array.ext'
            simp
          obtain ⟨g1, g2⟩ := hh.alloc #[] el (.ty k []) (by simp [Row.size]) (fun i x hx => by simp at hx)
          exact ⟨_, _, (by simpa using hrun), _, .inl ⟨rfl, _, rfl⟩, g1, g2⟩
        · cases h
      · cases h
    · cases h
  split at h
  · rename_i el hu
    split at h
    · rename_i n by_ z l hq hl
      obtain ⟨i, hi, rfl, -, hz⟩ := tq_some hq
      split at h
      · rename_i hc
        obtain ⟨rfl, hlen, h0, h1, h2⟩ := hc
        obtain ⟨zv, hzv, hzs⟩ := Option.map_eq_some_iff.1 hz
        obtain ⟨p1, p2, p3⟩ := allParts_rep he hT hl
        have hvl : (parts.toList.map fun x => a.eval x.2).length = len := by rw [List.length_map, ← p2, hlen]
        have main : ∀ (rr : Row), (∀ (j : Nat) v, (parts.toList.map fun x => a.eval x.2)[j]? = some v → v.cells.size = i.size) → rr.size = len * i.size →
            RowRep w (own X σ s.H) σ rr (fun k => ((parts.toList.map fun x => a.eval x.2).flatMap fun v => v.cells.toList)[k]?) →
            ∃ v w', (Instr.buildSlice t len (parts.map fun (i, x) => (i, a.eval x))).run P w = .ok v w' ∧ Post X σ s.H w (.c (.sl s.H.length 0 len i.size)) (s.H ++ [some rr]) v w' := fun rr hsz hrs hrr => by
          have hsz' : ∀ v ∈ (parts.toList.map fun x => a.eval x.2), v.cells.size = i.size := fun v hv => by
            obtain ⟨j, hj⟩ := List.mem_iff_getElem?.1 hv
            exact hsz j v hj
          have hfill := Great.fill_whole (s := i.size) h1 (parts.toList.map fun x => a.eval x.2) ((Array.range (len * i.size)).map (zv.cells[· % zv.cells.size]!)) hsz' (by rw [hvl]; simp)
          have hpl : (parts.map fun (x : Nat × Operand) => (x.1, a.eval x.2)).toList = ((parts.toList.map fun x => a.eval x.2).zipIdx 0).map fun x => (x.2, x.1) := by rw [Array.toList_map]; exact p1
          have hrun := run_buildSlice (P := P) w t el len (parts.map fun (x : Nat × Operand) => (x.1, a.eval x.2)) _ i zv hu hi hzv (by omega) (by have := Nat.mul_pos h0 h1; omega) (by rw [hpl]; exact hfill)
          have hfl : ((parts.toList.map fun x => a.eval x.2).flatMap fun v => v.cells.toList).length = len * i.size := by
            rw [flat_len _ hsz', hvl]
          obtain ⟨g1, g2⟩ := hh.alloc ((parts.toList.map fun x => a.eval x.2).flatMap fun v => v.cells.toList).toArray el rr (by simp [hrs, hfl]) (RowRep.only (fun k v _ hv => by simpa using hv) hrr)
          refine ⟨_, _, hrun, _, .inr ⟨w.heap.size, 0, _, len, upd_same _ _ _, by simp, Nat.le_refl _, ?_, by simp [hfl]⟩, g1, g2⟩
          have : len * 1 ≤ len * i.size := Nat.mul_le_mul_left _ h1
          simp only [maxLen]; omega
        split at h
        · rename_i rr hrr
          cases h
          split at hrr
          · rename_i k hk
            split at hrr
            · rename_i hks
              obtain ⟨xs, hxs, rfl⟩ := Option.map_eq_some_iff.1 hrr
              obtain ⟨o1, o2⟩ := ones_rep hxs
              have hrep : ∀ (j : Nat) x, xs[j]? = some x → ∃ v, (parts.toList.map fun x => a.eval x.2)[j]? = some v ∧ RepD w (own X σ s.H) k x (fun m => v.cells[m]?) ∧ v.cells.size = k.sz := fun j x hx => by
                obtain ⟨y, hy, hyx⟩ := o2 j x hx
                obtain ⟨v, hv, hr⟩ := p3 j y hy
                exact ⟨v, hv, one_rep1 hyx hr.toA⟩
              have hsz : ∀ (j : Nat) v, (parts.toList.map fun x => a.eval x.2)[j]? = some v → v.cells.size = i.size := fun j v hv => by
                have hj : j < xs.length := by rw [o1, hlen, ← hvl]; exact (List.getElem?_eq_some_iff.1 hv).1
                obtain ⟨v', hv', -, e⟩ := hrep j _ (List.getElem?_eq_getElem hj)
                rw [hv] at hv'; cases hv'; rw [e, hks]
              refine main _ hsz (by simp only [Row.size]; rw [o1, hlen, hks]) (fun j x hx => ?_)
              obtain ⟨v, hv, hd, e⟩ := hrep j x hx
              refine RepD.only (fun m u hm hu => ?_) hd
              have hg := Great.flat_get (s := i.size) h1 (parts.toList.map fun x => a.eval x.2) (fun v hv => by obtain ⟨q, hq⟩ := List.mem_iff_getElem?.1 hv; exact hsz q v hq) (j * k.sz + m)
              rw [← hks] at hg
              have e1 : (j * k.sz + m) / k.sz = j := by rw [Nat.mul_comm, Nat.mul_add_div (by omega), Nat.div_eq_of_lt hm]; rfl
              have e2 : (j * k.sz + m) % k.sz = m := by rw [Nat.mul_comm, Nat.mul_add_mod]; exact Nat.mod_eq_of_lt hm
              show _[j * k.sz + m]? = _
              rw [hg, e1, e2, hv]; exact hu
            · cases hrr
          · cases hrr
        · split at h
          · rename_i hsz0
            cases h
            have hcell := allSz_spec hsz0
            have hsz : ∀ (j : Nat) v, (parts.toList.map fun x => a.eval x.2)[j]? = some v → v.cells.size = i.size := fun j v hv => by
              have hj : j < l.length := by rw [hlen, ← hvl]; exact (List.getElem?_eq_some_iff.1 hv).1
              obtain ⟨v', hv', hr⟩ := p3 j _ (List.getElem?_eq_getElem hj)
              rw [hv] at hv'; cases hv'
              rw [← (av_cells hr).2]; exact hcell _ (List.getElem_mem hj)
            have hfl := LRep.flat (n := i.size) (f := fun x => AV.cells [x]) (xs := l) (w := w) (σ := σ) (own := own X σ s.H) (g := fun k => ((parts.toList.map fun x => a.eval x.2).flatMap fun v => v.cells.toList)[k]?) (fun j x hx => by
              obtain ⟨v, hv, hr⟩ := p3 j x hx
              refine ⟨hcell x (List.mem_of_getElem? hx), (av_cells hr).1.cells (fun m u hm hu => ?_)⟩
              have hm' : m < i.size := by rw [hcell x (List.mem_of_getElem? hx)] at hm; exact hm
              have hg := Great.flat_get (s := i.size) h1 (parts.toList.map fun x => a.eval x.2) (fun v hv => by obtain ⟨q, hq⟩ := List.mem_iff_getElem?.1 hv; exact hsz q v hq) (j * i.size + m)
              have e1 : (j * i.size + m) / i.size = j := by rw [Nat.mul_comm, Nat.mul_add_div (by omega), Nat.div_eq_of_lt hm']; rfl
              have e2 : (j * i.size + m) % i.size = m := by rw [Nat.mul_comm, Nat.mul_add_mod]; exact Nat.mod_eq_of_lt hm'
              show _[j * i.size + m]? = _
              rw [hg, e1, e2, hv]; exact hu)
            rw [cells_flat]
            exact main _ hsz (by simp only [Row.size]; rw [hfl.2, hlen]) hfl.1
          · cases h
      · cases h
    · cases h
  · cases h
theorem evParts_rep {T : Nat → Prop} (he : EnvRep X σ s a w T) : ∀ {l : List (Nat × Operand)} {xs : List (Nat × AV)}, (∀ i t, (i, Operand.tmp t) ∈ l → T t) → evParts s l = some xs → xs.length = l.length ∧ ∀ (i : Nat) j x, xs[i]? = some (j, x) → ∃ o, l[i]? = some (j, o) ∧ Rep1 w (own X σ s.H) σ x (a.eval o)
  | [], xs, hT, h => by cases h; exact ⟨rfl, fun i j x hx => by simp at hx⟩
  | (i, x) :: l, xs, hT, h => by
    simp only [evParts] at h
    split at h
    · rename_i y ys hy hys
      cases h
      obtain ⟨h1, h2⟩ := evParts_rep he (fun j t ht => hT j t (List.mem_cons_of_mem _ ht)) hys
      refine ⟨by simp [h1], fun j k z hz => ?_⟩
      cases j with
      | zero => cases hz; exact ⟨x, rfl, ev1_rep he (fun t ht => hT i t (ht ▸ List.mem_cons_self ..)) hy⟩
      | succ j => exact h2 j k z (by simpa using hz)
    · cases h
theorem fillL_rep {own : Nat → Prop} {place : Nat → Option (Nat × Nat)} : ∀ {xs : List (Nat × AV)} {vs : List (Nat × Value)} {cells L : List CV} {cs : Array Value}, LRep w own σ cells (fun k => cs[k]?) → cells.length = cs.size → fillL place cells xs = some L →
    xs.length = vs.length → (∀ (i : Nat) j x, xs[i]? = some (j, x) → ∃ v, vs[i]? = some (j, v) ∧ Rep1 w own σ x v) → ∃ out, Instr.fill place cs vs = some out ∧ LRep w own σ L (fun k => out[k]?) ∧ L.length = out.size
  | [], vs, cells, L, cs, hc, hs, h, hl, hv => by
    cases h
    have : vs = [] := List.eq_nil_of_length_eq_zero (by simpa using hl.symm)
    subst this
    exact ⟨cs, rfl, hc, hs⟩
  | (i, x) :: xs, vs, cells, L, cs, hc, hs, h, hl, hv => by
    cases vs with
    | nil => simp at hl
    | cons p vs =>
      obtain ⟨v, hv0, hr⟩ := hv 0 i x rfl
      simp only [List.getElem?_cons_zero, Option.some.injEq] at hv0
      subst hv0
      simp only [fillL] at h
      split at h
      · rename_i off size hp
        split at h
        · rename_i hcond
          obtain ⟨e1, e2⟩ := hcond
          obtain ⟨a1, a2⟩ := av_cells hr
          obtain ⟨g1, g2⟩ := Great.foldl_set off v.cells.toList 0 cs
          have hto : (cells.take off).length = off := by rw [List.length_take]; omega
          have hnew : LRep w own σ (cells.take off ++ AV.cells [x] ++ cells.drop (off + size)) (fun k => ((v.cells.toList.zipIdx 0).foldl (fun cs (x : Value × Nat) => cs.setIfInBounds (off + x.2) x.1) cs)[k]?) := by
            rw [List.append_assoc]
            refine LRep.append ((hc.take off).cells (fun k u hk hu => ?_)) (LRep.append (a1.cells (fun k u hk hu => ?_)) ((hc.drop (off + size)).cells (fun k u hk hu => ?_)))
            · rw [g2 k, if_neg (by omega)]; exact hu
            · have hlt : off + k < cs.size := by omega
              show _[(cells.take off).length + k]? = _
              rw [hto, g2, if_pos ⟨by omega, by rw [Array.length_toList]; omega, hlt⟩, Nat.add_zero, show off + k - off = k by omega, Array.getElem?_toList]; exact hu
            · show _[(cells.take off).length + ((AV.cells [x]).length + k)]? = _
              rw [hto, e1, g2, if_neg (by rw [Array.length_toList]; omega), ← Nat.add_assoc]; exact hu
          obtain ⟨out, f1, f2, f3⟩ := fillL_rep (vs := vs) hnew (by rw [g1]; simp only [List.length_append, hto, e1, List.length_drop]; omega) h (by simpa using hl) (fun j k z hz => hv (j + 1) k z (by simpa using hz))
          refine ⟨out, ?_, f2, f3⟩
          unfold Instr.fill
          simp only [hp]
          rw [if_neg (by simp; omega), ← f1]
          congr 1
          rw [← Array.foldl_toList, Array.toList_zipIdx]
        · cases h
      · cases h
theorem zcells_rep {own : Nat → Prop} {t : TypeId} {Z : List CV} (h : zcells P t = some Z) : ∃ i z, P.info? t = some i ∧ i.zero = some z ∧ LRep w own σ Z (fun k => z.cells[k]?) ∧ Z.length = z.cells.size := by
  unfold zcells at h
  split at h
  · cases h
  · rename_i z hz
    obtain ⟨i, hi, hz⟩ := Option.bind_eq_some_iff.1 hz
    split at h
    · rename_i l hl
      cases h
      have := valRow_rep (σ := σ) (own := own) (w := w) hl
      exact ⟨i, z, hi, hz, this.1, this.2⟩
    · cases h
theorem s_build {T : Nat → Prop} (he : EnvRep X σ s a w T) {t : TypeId} {parts : Array (Nat × Operand)} {r : AV} (hT : ∀ i t, (i, Operand.tmp t) ∈ parts.toList → T t) (h : abuild P s t parts.toList = some r) :
    ∃ v, (Instr.build t (parts.map fun (i, x) => (i, a.eval x))).run P w = .ok v w ∧ RepA w (own X σ s.H) σ r v := by
  unfold abuild at h
  split at h
  · rename_i Z l hZ hl
    obtain ⟨i, z, hi, hz, z1, z2⟩ := zcells_rep (σ := σ) (own := own X σ s.H) (w := w) hZ
    obtain ⟨e1, e2⟩ := evParts_rep he hT hl
    have fill := fun (place : Nat → Option (Nat × Nat)) (L : List CV) (hf : fillL place Z l = some L) => fillL_rep (vs := parts.toList.map fun x => (x.1, a.eval x.2)) z1 z2 hf (by rw [List.length_map]; exact e1) (fun j k x hx => by
      obtain ⟨o, ho, hr⟩ := e2 j k x hx
      exact ⟨a.eval o, by rw [List.getElem?_map, ho]; rfl, hr⟩)
    have hpl : (parts.map fun (x : Nat × Operand) => (x.1, a.eval x.2)).toList = parts.toList.map fun x => (x.1, a.eval x.2) := by rw [Array.toList_map]
    split at h
    · rename_i fs hu
      split at h
      · rename_i places hp
        obtain ⟨L, hL, rfl⟩ := Option.map_eq_some_iff.1 h
        obtain ⟨out, f1, f2, f3⟩ := fill _ L hL
        have hp' : fs.toList.mapM (fun f => (P.info? f.type).map fun i => (f.offset, i.size)) = some places := by
          unfold stq at hp; rw [hu] at hp; exact hp
        refine ⟨.agg out, run_build w t _ out ?_, out.toList, by simp, by rw [Array.length_toList]; exact f3.symm, f2.cells (fun k v _ hv => by simpa using hv)⟩
        unfold Program.built
        rw [hi, hu]
        simp only [hz, hp', hpl]
        rw [← f1]
        congr 1
        funext k
        simp
      · cases h
    · rename_i m e hu
      split at h
      · rename_i n hn
        obtain ⟨ti, hti, rfl⟩ := tsz_some hn
        split at h
        · rename_i L hL
          obtain ⟨out, f1, f2, f3⟩ := fill _ L hL
          have hrun : (Instr.build t (parts.map fun (x : Nat × Operand) => (x.1, a.eval x.2))).run P w = .ok (.agg out) w := by
            refine run_build w t _ out ?_
            unfold Program.built
            rw [hi, hu]
            simp only [hz, hti, hpl]
            exact f1
          have hraw : RepA w (own X σ s.H) σ (.agg (.raw L)) (.agg out) := ⟨out.toList, by simp, by rw [Array.length_toList]; exact f3.symm, f2.cells (fun k v _ hv => by simpa using hv)⟩
          split at h
          · split at h
            · rename_i xs hxs
              cases h
              obtain ⟨q1, q2⟩ := as_rep (g := fun k => out[k]?) (r := .raw L) f2 hxs
              exact ⟨_, hrun, out.toList, by simp, by rw [Array.length_toList]; exact f3.symm.trans q2, RowRep.only (r := .ty _ xs) (fun k v _ hv => by simpa using hv) q1⟩
            · cases h; exact ⟨_, hrun, hraw⟩
          · cases h; exact ⟨_, hrun, hraw⟩
        · cases h
      · cases h
    · cases h
  · cases h
end
end Go.Proofs.Ytcnoooodnmjdmaa
end
section
set_option linter.unusedSimpArgs false
set_option linter.unusedVariables false
/- AHI, part H: operators, conversions, length, copy are what the model does. -/
namespace Go.Proofs.Ytcnoooodnmjdmaa
open Go.RowKit
section
variable {P : Program} {X : Nat → Prop} {σ : Sg} {s : St} {H : Hp} {a : Act} {w : World}
theorem val?_run {α : Type} {m : Sem α} {x : α} (h : val? m = some x) : m.run P w = .ok x w := by
  cases m <;> first | cases h | skip
  rfl
theorem oneV_some {x : Option Value} {z : Value} (h : oneV x = some z) : x = some z ∧ z.oneCell' = true := by
  unfold oneV at h
  split at h
  · split at h
    · cases h; exact ⟨rfl, ‹_›⟩
    · cases h
  · cases h
theorem bin_ints (op : BinOp) (t : TypeId) (k k' : IntKind) (a b : Int) : binOp op t (.int k a) (.int k' b) = binOp op 0 (.int k a) (.int k' b) := by cases op <;> rfl
theorem bin_floats (op : BinOp) (t : TypeId) (k k' : FloatKind) (a b : Nat) : binOp op t (.float k a) (.float k' b) = binOp op 0 (.float k a) (.float k' b) := by cases op <;> rfl
theorem bin_strings (op : BinOp) (t : TypeId) (a b : ByteArray) : binOp op t (.string a) (.string b) = binOp op 0 (.string a) (.string b) := by cases op <;> rfl
theorem vbin_run {op : BinOp} {t : TypeId} {xo yo : Operand} {u v z : Value} (h : vbin op u v = some z) : (do eqGuard op t xo yo u v; binOp op t u v : Sem Value).run P w = .ok z w ∧ z.oneCell' = true := by
  have guard : ∀ {u v : Value}, (match u, v with | .int _ _, .int _ _ => true | .float _ _, .float _ _ => true | .string _, .string _ => true | _, _ => false) = true → (eqGuard op t xo yo u v).run P w = .ok () w := fun {u v} hg => by
    cases u <;> cases v <;> first | cases hg | skip
    all_goals cases op <;> rfl
  unfold vbin at h
  split at h
  · obtain ⟨h1, h2⟩ := oneV_some h
    rw [← bin_ints op t] at h1
    refine ⟨?_, h2⟩
    rw [Sem.run_bind, guard rfl]
    exact val?_run h1
  · obtain ⟨h1, h2⟩ := oneV_some h
    rw [← bin_floats op t] at h1
    refine ⟨?_, h2⟩
    rw [Sem.run_bind, guard rfl]
    exact val?_run h1
  · obtain ⟨h1, h2⟩ := oneV_some h
    rw [← bin_strings op t] at h1
    refine ⟨?_, h2⟩
    rw [Sem.run_bind, guard rfl]
    exact val?_run h1
  · cases h
theorem all_range_eqK : ∀ (xs ys : List Int), xs.length = ys.length → ((List.range xs.length).all fun i => xs.getD i 0 == ys.getD i 0) = (xs == ys)
  | [], [], _ => rfl
  | x :: xs, y :: ys, h => by
    have ih := all_range_eqK xs ys (by simpa using h)
    rw [List.length_cons, List.range_succ_eq_map, List.all_cons, List.all_map]
    simp only [List.getD_cons_zero, Function.comp_def, List.getD_cons_succ, ih]
    simp [List.cons_beq_cons]
  | [], _ :: _, h => by simp at h
  | _ :: _, [], h => by simp at h
theorem run_equalIn_intsK (d : Nat) (t e : TypeId) (n : Nat) (k : IntKind) (ht : P.underlying t = some (.array n e)) (he : P.underlying e = some (.int k)) (hsz : ∀ w, (sizeOf e).run P w = .ok 1 w)
    (xs ys : List Int) (hx : xs.length = n) (hy : ys.length = n) (w : World) :
    (Op.equalIn (d + 2) t (.agg (xs.map (Value.int k)).toArray) (.agg (ys.map (Value.int k)).toArray)).run P w = .ok (xs == ys) w := by
  rw [← all_range_eqK xs ys (hx.trans hy.symm), hx, List.range_eq_range', Op.equalIn]
  simp only [Sem.run_bind, run_underlying ht, Result.andThen_ok, hsz, Std.Legacy.Range.forIn_eq_forIn_range', Std.Legacy.Range.size, Nat.sub_zero, Nat.add_sub_cancel, Nat.div_one]
  have hl : ∀ i ∈ List.range' 0 n 1, i < n := fun i hi => by simpa using (List.mem_range'_1.1 hi).2
  generalize List.range' 0 n 1 = l at hl ⊢
  induction l with
  | nil => simp
  | cons i l ih =>
    have hi : i < n := hl i (by simp)
    have px : (part e (xs.map (Value.int k)).toArray (i * 1)).run P w = .ok (.int k (xs.getD i 0)) w := by
      simp [part, isAgg, run_underlying he, List.getD, List.getElem?_eq_getElem (show i < xs.length by omega)]
    have py : (part e (ys.map (Value.int k)).toArray (i * 1)).run P w = .ok (.int k (ys.getD i 0)) w := by
      simp [part, isAgg, run_underlying he, List.getD, List.getElem?_eq_getElem (show i < ys.length by omega)]
    have pe : (Op.equalIn (d + 1) e (.int k (xs.getD i 0)) (.int k (ys.getD i 0))).run P w = .ok (xs.getD i 0 == ys.getD i 0) w := run_equalIn_int w d e k k _ _ he
    simp only [List.forIn_cons, Sem.run_bind, px, py, pe, Result.andThen_ok, List.all_cons]
    cases hb : (xs.getD i 0 == ys.getD i 0)
    · simp
    · simp only [Bool.not_true, Bool.false_eq_true, if_false, Sem.run_pure, Result.andThen_ok, Bool.true_and]
      exact ih fun j hj => hl j (by simp [hj])
theorem eqIn_bool (d : Nat) {t : TypeId} (hu : P.underlying t = some .bool) (p q : Bool) : (Op.equalIn (d + 1) t (.bool p) (.bool q)).run P w = .ok (p == q) w := by
  rw [Op.equalIn]; simp [Sem.run_bind, run_underlying hu]
theorem eqIn_ptr (d : Nat) {t el : TypeId} (hu : P.underlying t = some (.pointer el)) (p q : Option Addr) (hpq : p = none ∨ q = none) : (Op.equalIn (d + 1) t (.pointer p) (.pointer q)).run P w = .ok (p.isNone && q.isNone) w := by
  rw [Op.equalIn]
  rcases hpq with rfl | rfl
  · simp [Sem.run_bind, run_underlying hu]
  · cases p <;> simp [Sem.run_bind, run_underlying hu]
theorem eqIn_sl (d : Nat) {t el : TypeId} (hu : P.underlying t = some (.slice el)) (p : Option Addr) (n c : Nat) : (Op.equalIn (d + 1) t (.slice p n c) (.slice none 0 0)).run P w = .ok p.isNone w := by
  rw [Op.equalIn]
  cases p <;> simp [Sem.run_bind, run_underlying hu]
theorem eqIn_fn0 (d : Nat) {t : TypeId} {ps rs : Array TypeId} {vr : Bool} (hu : P.underlying t = some (.func ps rs vr)) : (Op.equalIn (d + 1) t .nilFunc .nilFunc).run P w = .ok true w := by
  rw [Op.equalIn]; simp [Sem.run_bind, run_underlying hu]
theorem eqIn_fn1 (d : Nat) {t : TypeId} {ps rs : Array TypeId} {vr : Bool} (hu : P.underlying t = some (.func ps rs vr)) (f : Fn) (xs ys : Array Value) : (Op.equalIn (d + 1) t (.func f xs ys) .nilFunc).run P w = .ok false w := by
  rw [Op.equalIn]; simp [Sem.run_bind, run_underlying hu]
theorem ints_of_row {own : Nat → Prop} {k : IntKind} {r : Row} {vs : List Value} {xs : List Int} (h : RowRep w own σ r (fun i => vs[i]?)) (hs : vs.length = r.size) (has : r.as (.i k) = some xs) : vs = xs.map (Value.int k) := by
  obtain ⟨h1, h2⟩ := as_rep h has
  have hl : vs.length = xs.length := by rw [hs, h2]; simp [Ty.sz]
  refine List.ext_getElem? fun i => ?_
  rw [List.getElem?_map]
  by_cases hi : i < xs.length
  · have h3 : vs[i * 1 + 0]? = some (.int k xs[i]) := h1 i _ (List.getElem?_eq_getElem hi)
    rw [Nat.mul_one, Nat.add_zero] at h3
    rw [h3, List.getElem?_eq_getElem hi]; rfl
  · rw [List.getElem?_eq_none (by omega), List.getElem?_eq_none (by omega)]; rfl
theorem fkinds_cons {f : Field} {l : List Field} {xs : List (Nat × Ty)} (h : fkinds P (f :: l) = some xs) : ∃ x r, xs = x :: r ∧ fkind P f = some x ∧ fkinds P l = some r := by
  simp only [fkinds] at h
  split at h
  · rename_i x r h1 h2; cases h; exact ⟨x, r, rfl, h1, h2⟩
  · cases h
theorem eqfs_some {t : TypeId} {l : List (Nat × Ty)} (h : eqfs P t = some l) : eqg P t = false ∧ P.stoodInHeld t = false ∧ ∃ fs, P.underlying t = some (.struct fs) ∧ fkinds P fs.toList = some l := by
  unfold eqfs at h
  split at h
  · rename_i hc
    split at h
    · rename_i fs hu; exact ⟨hc.1, hc.2, fs, hu, h⟩
    · cases h
  · cases h
theorem cellOf_rep {own : Nat → Prop} {r : Row} {vs : List Value} {o : Nat} {c : CV} (h : RowRep w own σ r (fun i => vs[i]?)) (hs : vs.length = r.size) (hc : cellOf r o = some c) : ∃ v, vs[o]? = some v ∧ Rep w own σ c v := by
  cases r with
  | raw l => exact h o c hc
  | ty t xs =>
    match xs, h, hc with
    | [y], h, hc =>
      have h0 := h 0 y rfl
      obtain ⟨v, h1, h2⟩ := enc_rep (σ := σ) h0 hc
      exact ⟨v, by simpa using h1, h2⟩
theorem ceq_i {k : IntKind} {c d : CV} {z : Bool} (h : ceq (.i k) c d = some z) : ∃ k1 a b, c = .v (.int k1 a) ∧ d = .v (.int k1 b) ∧ z = (a == b) := by
  unfold ceq at h
  split at h
  · split at h
    · rename_i hk; subst hk; cases h; exact ⟨_, _, _, rfl, rfl, rfl⟩
    · cases h
  · rename_i h0; cases h0
  · cases h
theorem ceq_b {c d : CV} {z : Bool} (h : ceq .bo c d = some z) : ∃ a b, c = .v (.bool a) ∧ d = .v (.bool b) ∧ z = (a == b) := by
  unfold ceq at h
  split at h
  · rename_i h0; cases h0
  · cases h; exact ⟨_, _, rfl, rfl, rfl⟩
  · cases h
theorem aeqL_cons {r q : Row} {o : Nat} {T : Ty} {l : List (Nat × Ty)} {b : Bool} (h : aeqL r q ((o, T) :: l) = some b) : ∃ c d z y, cellOf r o = some c ∧ cellOf q o = some d ∧ ceq T c d = some z ∧ aeqL r q l = some y ∧ b = (z && y) := by
  simp only [aeqL] at h
  split at h
  · rename_i c d h1 h2
    split at h
    · rename_i z y h3 h4; cases h; exact ⟨c, d, z, y, h1, h2, h3, h4, rfl⟩
    · cases h
  · cases h
theorem eqL_run {own : Nat → Prop} {r q : Row} {vs us : List Value} (hr : RowRep w own σ r (fun i => vs[i]?)) (hs : vs.length = r.size) (hq : RowRep w own σ q (fun i => us[i]?)) (hs' : us.length = q.size) :
    ∀ (fs : List Field) (l : List (Nat × Ty)) (b : Bool), fkinds P fs = some l → aeqL r q l = some b → (Op.eqFields 9999 vs.toArray us.toArray fs).run P w = .ok b w
  | [], l, b, h, hb => by cases h; cases hb; rfl
  | f :: fs, l, b, h, hb => by
    obtain ⟨⟨o, T⟩, l', rfl, h1, h2⟩ := fkinds_cons h
    unfold fkind at h1
    split at h1
    · cases h1
    · rename_i hn
      have pt : ∀ {vs : List Value} {v : Value} {d : TypeDesc}, P.underlying f.type = some d → (∀ n e, d ≠ .array n e) → (∀ g, d ≠ .struct g) → vs[f.offset]? = some v → (part f.type vs.toArray f.offset).run P w = .ok v w := fun {vs v d} hu ha hst hv => by
        have hi := (List.getElem?_eq_some_iff.1 hv).1
        cases d <;> first | exact (ha _ _ rfl).elim | exact (hst _ rfl).elim | skip
        all_goals simp [part, isAgg, run_underlying hu, hv]
      have step : ∀ {u v : Value} {z y : Bool}, (part f.type vs.toArray f.offset).run P w = .ok u w → (part f.type us.toArray f.offset).run P w = .ok v w → (Op.equalIn 9999 f.type u v).run P w = .ok z w → (Op.eqFields 9999 vs.toArray us.toArray fs).run P w = .ok y w → (Op.eqFields 9999 vs.toArray us.toArray (f :: fs)).run P w = .ok (z && y) w := fun {u v z y} a1 a2 a3 a4 => by
        simp only [Op.eqFields, if_pos hn, Sem.run_bind, a1, a2, a3, Result.andThen_ok]
        cases z <;> simp [a4]
      obtain ⟨c, d, z, y, c1, c2, c3, c4, rfl⟩ := aeqL_cons hb
      split at h1
      · rename_i k hu
        cases h1
        obtain ⟨k1, a, b', rfl, rfl, rfl⟩ := ceq_i c3
        obtain ⟨v, g1, rfl, -⟩ := cellOf_rep hr hs c1
        obtain ⟨u, g2, rfl, -⟩ := cellOf_rep hq hs' c2
        exact step (pt hu (by simp) (by simp) g1) (pt hu (by simp) (by simp) g2) (run_equalIn_int w 9998 f.type k1 k a b' hu) (eqL_run hr hs hq hs' fs l' y h2 c4)
      · rename_i hu
        cases h1
        obtain ⟨a, b', rfl, rfl, rfl⟩ := ceq_b c3
        obtain ⟨v, g1, rfl, -⟩ := cellOf_rep hr hs c1
        obtain ⟨u, g2, rfl, -⟩ := cellOf_rep hq hs' c2
        exact step (pt hu (by simp) (by simp) g1) (pt hu (by simp) (by simp) g2) (eqIn_bool 9998 hu a b') (eqL_run hr hs hq hs' fs l' y h2 c4)
      · cases h1
theorem aeq_run {own : Nat → Prop} {op : BinOp} (hop : op = .eql ∨ op = .neq) {t : TypeId} {xo yo : Operand} {x y : AV} {u v : Value} {b : Bool} (h : aeq P t x y = some b) (hx : RepA w own σ x u) (hy : RepA w own σ y v) :
    (do eqGuard op t xo yo u v; binOp op t u v : Sem Value).run P w = .ok (.bool (if op = .eql then b else !b)) w := by
  have fin : ∀ {u v : Value}, (eqGuard op t xo yo u v).run P w = .ok () w → (Op.equal t u v).run P w = .ok b w → (∀ op', (op' = .eql → binOp op' t u v = (do pure (.bool (← Op.equal t u v)))) ∧ (op' = .neq → binOp op' t u v = (do pure (.bool (!(← Op.equal t u v)))))) →
      (do eqGuard op t xo yo u v; binOp op t u v : Sem Value).run P w = .ok (.bool (if op = .eql then b else !b)) w := fun {u v} hg he hb => by
    rw [Sem.run_bind, hg, Result.andThen_ok]
    rcases hop with rfl | rfl
    · rw [(hb _).1 rfl, Sem.run_bind, he]; rfl
    · rw [(hb _).2 rfl, Sem.run_bind, he]; rfl
  unfold aeq at h
  split at h
  · split at h
    · rename_i hu
      cases h
      obtain ⟨rfl, -⟩ := hx
      obtain ⟨rfl, -⟩ := hy
      refine fin (by rcases hop with rfl | rfl <;> rfl) ?_ (fun op' => ⟨fun h => by subst h; rfl, fun h => by subst h; rfl⟩)
      exact eqIn_bool 9999 hu _ _
    · cases h
  · rename_i r q
    obtain ⟨vs, rfl, h1, h2⟩ := hx
    obtain ⟨us, rfl, h3, h4⟩ := hy
    unfold aeqRow at h
    split at h
    · rename_i fs hu
      split at h
      · rename_i l hl
        obtain ⟨e1, e2, fs', e3, e4⟩ := eqfs_some hl
        rw [hu] at e3
        obtain rfl : fs = fs' := by injection e3 with e3; injection e3
        have hF : P.fieldsOf t = fs := by simp [Program.fieldsOf, hu]
        refine fin ?_ ?_ (fun op' => ⟨fun h => by subst h; rfl, fun h => by subst h; rfl⟩)
        · have hg' : P.eqGuardType P.depth t = false := by simpa [eqg] using e1
          rcases hop with rfl | rfl <;> simp [eqGuard, Sem.run_bind, program, Sem.run, hg']
        · show (Op.equalIn (9999 + 1) t _ _).run P w = _
          rw [run_equalIn_struct (P := P) w 9999 t _ _ (by rw [hF]; exact hu) e2, hF]
          exact eqL_run h2 h1 h4 h3 fs.toList l b e4 h
      · cases h
    rename_i hns
    unfold aeqRow0 at h
    split at h
    · cases h
    · rename_i hg
      split at h
      · rename_i m e hu
        split at h
        · rename_i k he hsz
          split at h
          · rename_i xs ys hxs hys
            split at h
            · rename_i hl
              cases h
              obtain rfl := ints_of_row h2 h1 hxs
              obtain rfl := ints_of_row h4 h3 hys
              obtain ⟨ti, hti, hts⟩ := tsz_some hsz
              refine fin ?_ (run_equalIn_intsK (P := P) 9998 t e m k hu he (fun w => by simp [sizeOf, typeInfo, hti, hts]) xs ys hl.1 hl.2 w) (fun op' => ⟨fun h => by subst h; rfl, fun h => by subst h; rfl⟩)
              have hg' : P.eqGuardType P.depth t = false := by simpa [eqg] using hg
              rcases hop with rfl | rfl <;> simp [eqGuard, Sem.run_bind, program, Sem.run, hg']
            · cases h
          · cases h
        · cases h
      · cases h
  · rename_i ca cb' _
    split at h
    · rename_i el hu
      have np : ∀ {c : CV} {v : Value}, isNilP c = true → Rep w own σ c v → v = .pointer none := fun {c v} hn hr => by
        unfold isNilP at hn
        split at hn
        · obtain ⟨rfl, -⟩ := hr; rfl
        · cases hn
      have pn : ∀ {c : CV} {v : Value}, ptrNil c = some b → Rep w own σ c v → ∃ p, v = .pointer p ∧ b = p.isNone := fun {c v} hn hr => by
        unfold ptrNil at hn
        split at hn
        · cases hn; obtain ⟨rfl, -⟩ := hr; exact ⟨_, rfl, rfl⟩
        · cases hn; obtain ⟨bb, base, ext, -, rfl⟩ := hr; exact ⟨_, rfl, rfl⟩
        · cases hn; obtain ⟨bb, off, rfl, -⟩ := hr; exact ⟨_, rfl, rfl⟩
        · cases hn
      have go : ∀ p q, u = .pointer p → v = .pointer q → (p = none ∨ q = none) → b = (p.isNone && q.isNone) → (do eqGuard op t xo yo u v; binOp op t u v : Sem Value).run P w = .ok (.bool (if op = .eql then b else !b)) w := fun p q hp hq hpq hb => by
        subst hp hq
        refine fin (by rcases hop with rfl | rfl <;> rfl) ?_ (fun op' => ⟨fun h => by subst h; rfl, fun h => by subst h; rfl⟩)
        subst hb
        exact eqIn_ptr 9999 hu p q hpq
      split at h
      · rename_i hb
        obtain ⟨p, hp, rfl⟩ := pn h hx
        exact go p none hp (np hb hy) (.inr rfl) (by simp)
      · split at h
        · rename_i hb
          obtain ⟨p, hp, rfl⟩ := pn h hy
          exact go none p (np hb hx) hp (.inl rfl) (by simp)
        · cases h
    · rename_i el hu
      split at h
      · rename_i hb
        have hv : v = .slice none 0 0 := by
          unfold isNilS at hb
          split at hb
          · obtain ⟨rfl, -⟩ := hy; rfl
          · cases hb
        have hs : ∃ p n c, u = .slice p n c ∧ b = p.isNone := by
          unfold slNil at h
          split at h
          · cases h; obtain ⟨rfl, -⟩ := hx; exact ⟨_, _, _, rfl, rfl⟩
          · split at h
            · rename_i hl
              cases h
              rcases hx with ⟨h0, -⟩ | ⟨bb, base, ext, c, -, rfl, -⟩
              · omega
              · exact ⟨_, _, _, rfl, rfl⟩
            · cases h
          · split at h
            · rename_i hl
              cases h
              rcases hx with ⟨rfl, -⟩ | ⟨bb, off, c, rfl, -⟩
              · simp at hl
              · exact ⟨_, _, _, rfl, rfl⟩
            · cases h
          · cases h
        obtain ⟨p, n, c, rfl, rfl⟩ := hs
        subst hv
        refine fin (by rcases hop with rfl | rfl <;> rfl) ?_ (fun op' => ⟨fun h => by subst h; rfl, fun h => by subst h; rfl⟩)
        exact eqIn_sl 9999 hu p n c
      · cases h
    · rename_i ps rs vr hu
      split at h
      · rename_i hb
        have hv : v = .nilFunc := by
          unfold isNilF at hb
          split at hb
          · obtain ⟨rfl, -⟩ := hy; rfl
          · cases hb
        subst hv
        have hs : (u = .nilFunc ∧ b = true) ∨ ∃ f xs ys, u = .func f xs ys ∧ b = false := by
          unfold fnNil at h
          split at h
          · cases h; obtain ⟨rfl, -⟩ := hx; exact .inl ⟨rfl, rfl⟩
          · cases h; obtain ⟨rfl, -⟩ := hx; exact .inr ⟨_, _, _, rfl, rfl⟩
          · cases h; obtain ⟨ps, rfl, -⟩ := hx; exact .inr ⟨_, _, _, rfl, rfl⟩
          · cases h
        rcases hs with ⟨rfl, rfl⟩ | ⟨f, xs, ys, rfl, rfl⟩
        · refine fin (by rcases hop with rfl | rfl <;> rfl) ?_ (fun op' => ⟨fun h => by subst h; rfl, fun h => by subst h; rfl⟩)
          exact eqIn_fn0 9999 hu
        · refine fin (by rcases hop with rfl | rfl <;> rfl) ?_ (fun op' => ⟨fun h => by subst h; rfl, fun h => by subst h; rfl⟩)
          exact eqIn_fn1 9999 hu f xs ys
      · cases h
    · cases h
  · cases h
theorem aeqU_run {own : Nat → Prop} {op : BinOp} {f : Bool → Bool} (hop : (op = .eql ∧ f = fun b => b) ∨ (op = .neq ∧ f = fun b => !b)) {t : TypeId} {xo yo : Operand} {x y r : AV} {u v : Value} (h : aeqU P t f x y = some r) (hx : RepA w own σ x u) (hy : RepA w own σ y v) :
    ∃ z, (do eqGuard op t xo yo u v; binOp op t u v : Sem Value).run P w = .ok z w ∧ RepA w own σ r z := by
  unfold aeqU at h
  split at h
  · rename_i b hb
    cases h
    refine ⟨_, aeq_run (hop.imp (·.1) (·.1)) hb hx hy, ?_, rfl⟩
    rcases hop with ⟨rfl, rfl⟩ | ⟨rfl, rfl⟩ <;> simp
  · split at h
    · rename_i hub
      cases h
      unfold aub at hub
      split at hub
      · rename_i ca cb'
        split at hub
        · rename_i el hu
          simp only [Bool.and_eq_true] at hub
          obtain ⟨hb, ha⟩ := hub
          have hv : v = .slice none 0 0 := by
            unfold isNilS at hb
            split at hb
            · obtain ⟨rfl, -⟩ := hy; rfl
            · cases hb
          have hs : ∃ p n c, u = .slice p n c := by
            split at ha
            · rcases hx with ⟨-, a, rfl⟩ | ⟨_, _, _, _, -, rfl, -⟩ <;> exact ⟨_, _, _, rfl⟩
            · rcases hx with ⟨-, a, c, rfl⟩ | ⟨_, _, _, rfl, -⟩ <;> exact ⟨_, _, _, rfl⟩
            · obtain ⟨a, rfl⟩ := hx; exact ⟨_, _, _, rfl⟩
            · cases ha
          obtain ⟨p, n, c, rfl⟩ := hs
          subst hv
          have he : (Op.equal t (.slice p n c) (.slice none 0 0)).run P w = .ok p.isNone w := eqIn_sl 9999 hu p n c
          rcases hop with ⟨rfl, -⟩ | ⟨rfl, -⟩
          · refine ⟨.bool p.isNone, ?_, _, rfl⟩
            rw [Sem.run_bind, show (eqGuard .eql t xo yo (.slice p n c) (.slice none 0 0)).run P w = .ok () w from rfl, Result.andThen_ok]
            show (do pure (.bool (← Op.equal t (.slice p n c) (.slice none 0 0))) : Sem Value).run P w = _
            rw [Sem.run_bind, he]; rfl
          · refine ⟨.bool (!p.isNone), ?_, _, rfl⟩
            rw [Sem.run_bind, show (eqGuard .neq t xo yo (.slice p n c) (.slice none 0 0)).run P w = .ok () w from rfl, Result.andThen_ok]
            show (do pure (.bool (!(← Op.equal t (.slice p n c) (.slice none 0 0)))) : Sem Value).run P w = _
            rw [Sem.run_bind, he]; rfl
        · cases hub
      · cases hub
    · cases h
theorem vAV_rep {own : Nat → Prop} {x : AV} {u v : Value} (h : vAV x = some u) (hx : RepA w own σ x v) : v = u := by
  unfold vAV at h
  split at h
  · cases h; exact hx.1
  · cases h
theorem s_bin {own : Nat → Prop} {op : BinOp} {t : TypeId} {xo yo : Operand} {x y r : AV} {u v : Value} (h : abin P op t x y = some r) (hx : RepA w own σ x u) (hy : RepA w own σ y v) :
    ∃ z, (do eqGuard op t xo yo u v; binOp op t u v : Sem Value).run P w = .ok z w ∧ RepA w own σ r z := by
  have viaV : ∀ {u' v' z : Value}, vAV x = some u' → vAV y = some v' → vbin op u' v' = some z → ∃ z', (do eqGuard op t xo yo u v; binOp op t u v : Sem Value).run P w = .ok z' w ∧ RepA w own σ (.c (.v z)) z' := fun {u' v' z} h1 h2 h3 => by
    obtain rfl := vAV_rep h1 hx
    obtain rfl := vAV_rep h2 hy
    obtain ⟨h4, h5⟩ := vbin_run (P := P) (w := w) (t := t) (xo := xo) (yo := yo) h3
    exact ⟨_, h4, rfl, h5⟩
  unfold abin at h
  split at h
  · split at h
    · rename_i u' v' h1 h2
      split at h
      · rename_i z hz
        cases h
        exact viaV h1 h2 hz
      · obtain ⟨z, h1, h2⟩ := aeqU_run (op := .eql) (xo := xo) (yo := yo) (.inl ⟨rfl, rfl⟩) h hx hy
        exact ⟨z, h1, h2⟩
    · obtain ⟨z, h1, h2⟩ := aeqU_run (op := .eql) (xo := xo) (yo := yo) (.inl ⟨rfl, rfl⟩) h hx hy
      exact ⟨z, h1, h2⟩
  · split at h
    · rename_i u' v' h1 h2
      split at h
      · rename_i z hz
        cases h
        exact viaV h1 h2 hz
      · obtain ⟨z, h1, h2⟩ := aeqU_run (op := .neq) (xo := xo) (yo := yo) (.inr ⟨rfl, rfl⟩) h hx hy
        exact ⟨z, h1, h2⟩
    · obtain ⟨z, h1, h2⟩ := aeqU_run (op := .neq) (xo := xo) (yo := yo) (.inr ⟨rfl, rfl⟩) h hx hy
      exact ⟨z, h1, h2⟩
  · split at h
    · rename_i u' v' h1 h2
      obtain ⟨z, hz, rfl⟩ := Option.map_eq_some_iff.1 h
      exact viaV h1 h2 hz
    · cases h
theorem s_un {own : Nat → Prop} {op : UnOp} {x r : AV} {u : Value} (h : aun op x = some r) (hx : RepA w own σ x u) : ∃ z, (Op.unary op u).run P w = .ok z w ∧ RepA w own σ r z := by
  unfold aun at h
  split at h
  · rename_i u' hu
    obtain rfl := vAV_rep hu hx
    obtain ⟨z, hz, rfl⟩ := Option.map_eq_some_iff.1 h
    unfold vun at hz
    split at hz <;> first | cases hz | skip
    all_goals
      obtain ⟨h1, h2⟩ := oneV_some hz
      exact ⟨z, val?_run h1, rfl, h2⟩
  · cases h
theorem s_conv {own : Nat → Prop} {src dst : TypeId} {x r : AV} {u : Value} (h : aconv P src dst x = some r) (hx : RepA w own σ x u) : ∃ z, (convert src dst u).run P w = .ok z w ∧ RepA w own σ r z := by
  unfold aconv at h
  split at h
  · rename_i ds k kk n hs hd hv
    cases h
    obtain rfl := vAV_rep hv hx
    exact ⟨.int k (k.wrap n), by simp [convert, Sem.run_bind, run_underlying hs, run_underlying hd, Conv.intToInt], rfl, rfl⟩
  · rename_i ds q hs hd hv
    cases h
    obtain rfl := vAV_rep hv hx
    exact ⟨.string q, by simp [convert, Sem.run_bind, run_underlying hs, run_underlying hd], rfl, rfl⟩
  · cases h
theorem part0_size {r q : Row} {o e : Nat} (h : r.part o 0 e = some q) : q.size = 0 := by
  cases r with
  | raw l =>
    simp only [Row.part] at h
    split at h
    · cases h; simp [Row.size]
    · cases h
  | ty t xs =>
    simp only [Row.part] at h
    split at h
    · split at h
      · rename_i h0; cases h; simp [Row.size, ← h0.2]
      · split at h
        · cases h; simp [Row.size]
        · cases h
    · cases h
/-- Where a slice's elements lie. -/
theorem elems_addr (hh : HeapRep X σ H w) {n m : Nat} {x : AV} {q : Row} {y : Value} (h : elems H n x = some (m, q)) (hns : ∀ u, x ≠ .c (.v (.string u))) (hx : RepA w (own X σ H) σ x y) :
    q.size = m * n ∧ ∃ a c, y = .slice a m c ∧ m ≤ c ∧ (m = 0 ∨ ∃ b off, a = some ⟨b, off, none⟩ ∧ RowRep w (own X σ H) σ q (fun k => w.cell? ⟨b, off + k, none⟩)) := by
  unfold elems at h
  split at h
  · rename_i id o len e
    split at h
    · rename_i he; subst he
      split at h
      · rename_i r hr
        obtain ⟨q', hq, heq⟩ := Option.map_eq_some_iff.1 h
        cases heq
        rcases hx with ⟨rfl, a, rfl⟩ | ⟨b, base, ext, c, hs, rfl, hlc, hc, hext⟩
        · exact ⟨by rw [part0_size hq]; simp, a, 0, rfl, Nat.le_refl _, .inl rfl⟩
        · rcases hh.row id r (hrow_some hr) with h0 | ⟨b', base', ext', hs', hb, hle, hcell, hrow⟩
          · rw [h0] at hs; cases hs
          · rw [hs] at hs'; cases hs'
            obtain ⟨h1, h2, h3⟩ := part_rep hrow hq
            exact ⟨h2, _, c, rfl, hlc, .inr ⟨b, base + o * e, rfl, RowRep.only (fun k v _ hv => by rw [Nat.add_assoc]; exact hv) h1⟩⟩
      · cases h
    · cases h
  · rename_i t xs
    split at h
    · rename_i ht; subst ht
      cases h
      rcases hx with ⟨rfl, a, c, rfl⟩ | ⟨b, off, c, rfl, hlc, hc, hb, hlt, hxs⟩
      · exact ⟨by simp [Row.size], a, c, rfl, Nat.zero_le _, .inl rfl⟩
      · exact ⟨rfl, _, c, rfl, hlc, .inr ⟨b, off, rfl, fun i x hx => RepD.cells (fun j v hv => by show w.cell? ⟨b, off + (i * t.sz + j), none⟩ = _; rw [← Nat.add_assoc]; exact hv) (hxs i x hx)⟩⟩
    · cases h
  · cases h; obtain ⟨rfl, -⟩ := hx; exact ⟨by simp [Row.size], _, _, rfl, Nat.le_refl _, .inl rfl⟩
  · cases h; obtain ⟨a, rfl⟩ := hx; exact ⟨by simp [Row.size], _, _, rfl, Nat.le_refl _, .inl rfl⟩
  · rename_i u; exact (hns u rfl).elim
  · cases h
theorem s_copy (hh : HeapRep X σ H w) {t tx ty : TypeId} {x y r : AV} {u v : Value} {H' : Hp} (h : acopy P H t x y = some (r, H')) (hns : ∀ u, y ≠ .c (.v (.string u))) (hx : RepA w (own X σ H) σ x u) (hy : RepA w (own X σ H) σ y v) :
    ∃ v' w', (Builtin.copy_ #[t, tx] ty #[u, v]).run P w = .ok v' w' ∧ Post X σ H w r H' v' w' := by
  unfold acopy at h
  split at h
  · rename_i el hu
    split at h
    · rename_i hsz
      split at h
      · rename_i id o len e m q hel
        split at h
        · rename_i t' xs hr
          split at h
          · rename_i hc
            obtain ⟨rfl, ht1⟩ := hc
            split at h
            · rename_i p hp
              split at h
              · rename_i r' hr'
                cases h
                obtain ⟨q1, a, c, rfl, hmc, q2⟩ := elems_addr hh hel hns hy
                have hid := hrow_some hr
                have none0 : min m len = 0 → ∀ d n c, u = .slice d len n → ∃ v' w', (Builtin.copy_ #[t, tx] ty #[u, .slice a m c]).run P w = .ok v' w' ∧ Post X σ H w (.c (.v (.int .i64 ((min m len : Nat) : Int)))) (H.set id (some r')) v' w' := fun h0 d n c hu' => by
                  subst hu'
                  refine ⟨_, _, run_copy_none (P := P) w t tx ty el d a len n m c hu (by obtain ⟨ti, hti, hts⟩ := tsz_some hsz; simp [hti, hts]) h0, ?_⟩
                  have hsame : H.set id (some r') = H := by
                    have hr2 : r' = .ty t' xs := by
                      rw [h0] at hp hr'
                      have hps := part0_size hp
                      simp only [Row.over] at hr'
                      split at hr'
                      · rename_i ys hys
                        split at hr'
                        · rename_i hy0
                          cases hr'
                          have : ys = [] := List.eq_nil_of_length_eq_zero hy0.2
                          subst this
                          simp
                        · cases hr'
                      · cases hr'
                    subst hr2
                    refine List.ext_getElem? fun k => ?_
                    by_cases hk : id = k
                    · subst hk; rw [List.getElem?_set_self (List.getElem?_eq_some_iff.1 hid).1, hid]
                    · rw [List.getElem?_set_ne hk]
                  rw [hsame, h0]
                  exact Post.same hh ⟨rfl, rfl⟩
                rcases hx with ⟨rfl, d, rfl⟩ | ⟨b, base, ext, cd, hs, rfl, hlc, hcm, hext⟩
                · exact none0 (by omega) d 0 c rfl
                · by_cases h0 : min m len = 0
                  · exact none0 h0 _ _ _ rfl
                  · rcases q2 with hm0 | ⟨b2, off, rfl, q2⟩
                    · omega
                    · obtain ⟨p1, p2, p3⟩ := part_rep q2 hp
                      obtain ⟨vs, v1, v2, v3, v4⟩ := p1.list
                      have hvl : vs.length = min m len := by rw [v1, p2, Nat.mul_one]
                      have hrow0 : RowRep w (own X σ H) σ (.ty t' xs) (fun k => w.cell? ⟨b, base + k, none⟩) := by
                        rcases hh.row id _ hid with h0 | ⟨b', base', ext', hs', hb, hle', hcell, hrow⟩
                        · rw [h0] at hs; cases hs
                        · rw [hs] at hs'; cases hs'; exact hrow
                      have hov := over_rep (g' := fun k => if o ≤ k ∧ k < o + vs.length then vs[k - o]? else w.cell? ⟨b, base + k, none⟩) hrow0 hr'
                        (RowRep.only (fun k v hk hv => by rw [ht1, Nat.mul_one, if_pos (by omega), show o + k - o = k by omega]; exact hv) v4) (fun k hk => by rw [ht1, Nat.mul_one] at hk; rw [if_neg (by omega)])
                      have hqs : (Row.ty t' xs).size = xs.length := by simp [Row.size, ht1]
                      obtain ⟨s1, s2, s3⟩ := hh.puts hid hs o vs (by rw [hqs, hvl]; exact hov.2.2.2) (by rw [hov.2.1]; rfl) (fun ow w' g' ho hrep hrow' hq0 g1 g2 =>
                        (over_rep hq0 hr' (RowRep.only (fun k v hk hv => by rw [ht1, Nat.mul_one, g1 _ (by omega) (by omega), show o + k - o = k by omega]; exact hv) (hrow' (fun _ _ h => h) v4)) (fun k hk => g2 k (by rw [ht1, Nat.mul_one] at hk; omega))).1)
                      have hrun := run_copy_cells (P := P) w t tx ty el b (base + o * 1) len cd ⟨b2, off, none⟩ m c vs hu (by obtain ⟨ti, hti, hts⟩ := tsz_some hsz; simp [hti, hts]) hvl
                        (fun j v hv => by rw [add_addr]; have := v2 j v hv; simpa using this) (fun j hj => by rw [Nat.mul_one]; exact (s1 j hj).1) (fun j hj => by rw [Nat.mul_one]; exact (s1 j hj).2) v3
                      rw [Nat.mul_one] at hrun
                      refine ⟨_, _, by rw [Nat.mul_one]; exact hrun, σ, ?_, s2, s3⟩
                      rw [hvl]; exact ⟨rfl, rfl⟩
              · cases h
            · cases h
          · cases h
        · cases h
      · cases h
    · cases h
  · cases h
theorem over_zero {r r' : Row} {o : Nat} {k : Ty} (h : r.over o 0 (.ty k []) = some r') : r' = r := by
  cases r with
  | raw l => cases h
  | ty t xs =>
    simp only [Row.over] at h
    split at h
    · rename_i ys hys
      split at h
      · rename_i hy0
        cases h
        have : ys = [] := List.eq_nil_of_length_eq_zero hy0.2
        subst this
        simp
      · cases h
    · cases h
theorem zero_cells {z : Array Value} {k : Ty} {y : k.D} {n len : Nat} {own : Nat → Prop} (hz : z.size = n) (hk : k.sz = n) (h0 : 0 < n) (hy : RepD w own k y (fun j => z[j]?)) :
    RowRep w own σ (.ty k (List.replicate len y)) (fun j => (Builtin.zeroCells z len).toList[j]?) := fun i x hx => by
  rw [List.getElem?_replicate] at hx
  split at hx
  · cases hx
    rename_i hi
    refine RepD.only (fun m v hm hv => ?_) hy
    have hlt : i * k.sz + m < len * z.size := by rw [hz, ← hk]; exact mul_add_lt hi hm
    have hmm : (i * k.sz + m) % z.size = m := by rw [hz, ← hk, Nat.mul_comm, Nat.mul_add_mod]; exact Nat.mod_eq_of_lt hm
    have hmz : m < z.size := by omega
    show (Builtin.zeroCells z len).toList[i * k.sz + m]? = some v
    unfold Builtin.zeroCells
    rw [Array.getElem?_toList, Array.getElem?_map, Array.getElem?_range, if_pos hlt, Option.map_some, hmm]
    rw [Array.getElem?_eq_getElem hmz] at hv
    rw [getElem!_pos z m hmz]; exact hv
  · cases hx
theorem s_clear (hh : HeapRep X σ H w) {t ty : TypeId} {x r : AV} {u : Value} {H' : Hp} (h : aclear P H t x = some (r, H')) (hx : RepA w (own X σ H) σ x u) :
    ∃ v' w', (Builtin.clear_ #[t] ty #[u]).run P w = .ok v' w' ∧ Post X σ H w r H' v' w' := by
  unfold aclear at h
  split at h
  · rename_i el id o len e hu
    split at h
    · rename_i n zr k hsz hzr hk
      split at h
      · rename_i y r hy hr
        split at h
        · rename_i hc
          obtain ⟨rfl, hkn, h0⟩ := hc
          split at h
          · rename_i r' hr'
            cases h
            have hid := hrow_some hr
            obtain ⟨i', z', hi', hz', hr1, hr2⟩ := zrow_rep (σ := σ) (own := own X σ H) (w := w) hzr
            obtain ⟨hy1, hy2⟩ := rowOne_rep hr1 hy
            have zrun : ∀ w, (zeroValue el).run P w = .ok z' w := fun w => by simp [zeroValue, typeInfo, hi', hz']
            have hzs : z'.cells.size = e := by rw [← hr2, hy2, hkn]
            have none0 : len = 0 → ∀ d c, u = .slice d len c → ∃ v' w', (Builtin.clear_ #[t] ty #[u]).run P w = .ok v' w' ∧ Post X σ H w (.tup []) (H.set id (some r')) v' w' := fun hl d c hu' => by
              subst hl hu'
              refine ⟨.tuple #[], w, by cases d <;> simp [Builtin.clear_, Sem.run_bind, run_underlying hu], ?_⟩
              have hsame : H.set id (some r') = H := by
                rw [over_zero hr']
                refine List.ext_getElem? fun k => ?_
                by_cases hk : id = k
                · subst hk; rw [List.getElem?_set_self (List.getElem?_eq_some_iff.1 hid).1, hid]
                · rw [List.getElem?_set_ne hk]
              rw [hsame]
              exact Post.same hh ⟨[], by simp, rfl, fun i a ha => by simp at ha⟩
            rcases hx with ⟨rfl, d, rfl⟩ | ⟨b, base, ext, cd, hs, rfl, hlc, hcm, hext⟩
            · exact none0 rfl d 0 rfl
            · by_cases hl0 : len = 0
              · exact none0 hl0 _ _ rfl
              · have hrow0 : RowRep w (own X σ H) σ r (fun k => w.cell? ⟨b, base + k, none⟩) := by
                  rcases hh.row id _ hid with h0 | ⟨b', base', ext', hs', hb, hle', hcell, hrow⟩
                  · rw [h0] at hs; cases hs
                  · rw [hs] at hs'; cases hs'; exact hrow
                cases r with
                | raw l => cases hr'
                | ty t' xs =>
                have hvs := zero_cells (w := w) (σ := σ) (len := len) (own := own X σ H) hzs hkn h0 hy1
                have hvl : (Builtin.zeroCells z'.cells len).toList.length = len * e := by rw [Array.length_toList, size_zeroCells, hzs]
                have hone : ∀ v ∈ (Builtin.zeroCells z'.cells len).toList, v.oneCell' = true := fun v hv => by
                  obtain ⟨j, hj, rfl⟩ := List.getElem_of_mem hv
                  obtain ⟨v', h1, h2⟩ := RowRep.there hvs j (by simp only [Row.size, List.length_replicate]; rw [hkn]; omega)
                  simp only [List.getElem?_eq_getElem hj, Option.some.injEq] at h1
                  rw [h1]; exact h2
                have ht' : t'.sz = e ∧ o + len ≤ xs.length ∧ r'.size = xs.length * t'.sz := by
                  have h1 := hr'
                  simp only [Row.over] at h1
                  split at h1
                  · rename_i ys hys
                    split at h1
                    · rename_i hyl
                      cases h1
                      have : k = t' := by
                        simp only [Row.as] at hys
                        split at hys
                        · assumption
                        · cases hys
                      subst this
                      refine ⟨hkn, hyl.1, ?_⟩
                      simp only [Row.size, List.length_append, List.length_take, List.length_drop, hyl.2]
                      congr 1; omega
                    · cases h1
                  · cases h1
                obtain ⟨ht1, ht2, ht3⟩ := ht'
                have hle2 : o * e + len * e ≤ xs.length * e := by rw [← Nat.add_mul]; exact Nat.mul_le_mul_right _ ht2
                obtain ⟨s1, s2, s3⟩ := hh.puts (q' := r') hid hs (o * e) (Builtin.zeroCells z'.cells len).toList (by rw [hvl]; simp only [Row.size]; rw [ht1]; exact hle2) (by rw [ht3]; rfl) (fun ow w' g' ho hrep hrow' hq0 g1 g2 => by
                  refine (over_rep (g' := g') hq0 hr' (RowRep.only (fun m v hm hv => ?_) (hrow' (fun _ _ h => h) hvs)) (fun m hm => ?_)).1
                  · simp only [Row.size, List.length_replicate] at hm
                    rw [hkn] at hm
                    rw [ht1, g1 _ (by omega) (by rw [hvl]; omega), show o * e + m - o * e = m by omega]; exact hv
                  · simp only [Row.size, List.length_replicate] at hm
                    rw [hkn, ht1] at hm
                    exact g2 m (by rw [hvl]; exact hm))
                have hst := run_storeCells_cells (P := P) b (base + o * e) (Builtin.zeroCells z'.cells len).toList 0 w (fun j hj => by rw [Nat.add_zero]; exact (s1 j hj).1) (fun j hj => by rw [Nat.add_zero]; exact (s1 j hj).2) hone
                rw [Nat.add_zero] at hst
                refine ⟨.tuple #[], _, ?_, σ, ⟨[], by simp, rfl, fun i a ha => by simp at ha⟩, s2, s3⟩
                obtain ⟨m, rfl⟩ : ∃ m, len = m + 1 := ⟨len - 1, by omega⟩
                simp [Builtin.clear_, Sem.run_bind, run_underlying hu, zrun, hst]
          · cases h
        · cases h
      · cases h
    · cases h
  · cases h
/-- A string as bytes: read-only ones. -/
def abytes (P : Program) (src dst : TypeId) (x : AV) : Option AV :=
  match P.underlying src, P.underlying dst, x with
  | some .string, some (.slice el), .c (.v (.string u)) => match P.underlying el with
    | some (.int .u8) => if u.size ≤ 1000000 then some (.c (.rs (.i .u8) (strI u))) else none
    | _ => none
  | _, _, _ => none
theorem HeapRep.other (h : HeapRep X σ H w) (o : Obj) : HeapRep X σ H (w.alloc o) ∧ Step σ H w σ H (w.alloc o) := by
  have hk : Keeps w (ownB σ H) (w.alloc o) (ownB σ H) := ⟨by simp, fun b hb _ => Below.heap_alloc _ _ _ hb, fun _ h => .inl h⟩
  exact ⟨h.next hk (fun _ _ h => h) h.dom (fun id r hr => .inl ⟨hr, fun h => h, fun b x hb => Below.heap_alloc _ _ _ (h.own_lt ⟨id, r, x, hr, hb⟩)⟩) h.inj, ⟨rfl, rfl, rfl, hk, fun _ _ h => h, Nat.le_refl _, fun _ _ => rfl⟩⟩
theorem s_bytes (hh : HeapRep X σ H w) {src dst : TypeId} {x r : AV} {u : Value} (h : abytes P src dst x = some r) (hx : RepA w (own X σ H) σ x u) : ∃ v' w', (convert src dst u).run P w = .ok v' w' ∧ Post X σ H w r H v' w' := by
  unfold abytes at h
  split at h
  · rename_i el s hs hd
    split at h
    · rename_i he
      split at h
      · rename_i hsz
        cases h
        obtain ⟨rfl, -⟩ := hx
        obtain ⟨d1, d2⟩ := hh.drew
        obtain ⟨a1, a2⟩ := d1.other (.cells (bytesRow s (grownCap w s.size 0 el)) el ((bytesRow s (grownCap w s.size 0 el)).size, (bytesRow s (grownCap w s.size 0 el)).size + 1))
        have hC := grownCap_ge w s.size 0 el
        have hC2 := grownCap_le_maxLen w s.size 0 el (by simp only [maxLen]; omega)
        refine ⟨_, _, run_bytes_of_string w src dst el s hs hd he, σ, ?_, a1, d2.trans a2⟩
        have hl : (strI s).length = s.size := by unfold strI; rw [List.length_map, Array.length_toList]; rfl
        refine .inr ⟨w.heap.size, 0, _, by rw [hl], by rw [hl]; exact hC, hC2, ?_, by simp, fun i x hx => ?_⟩
        · rintro (ho | ho)
          · exact Nat.lt_irrefl _ (hh.own_lt ho)
          · exact Nat.lt_irrefl _ (hh.xlt _ ho)
        · show (w.drew.alloc _).cell? ⟨w.heap.size, 0 + i * 1 + 0, none⟩ = some (.int .u8 x)
          have hi := (List.getElem?_eq_some_iff.1 hx).1
          have hn : ∀ o : Obj, (w.drew.alloc o).heap[w.heap.size]? = some o := fun o => by show (w.heap.push o)[w.heap.size]? = some o; simp
          simp only [World.cell?, hn, Nat.zero_add, Nat.add_zero, Nat.mul_one]
          unfold strI at hx
          rw [List.getElem?_map] at hx
          obtain ⟨b, hb, rfl⟩ := Option.map_eq_some_iff.1 hx
          have hb' : s.data[i]? = some b := by rw [← Array.getElem?_toList]; exact hb
          unfold bytesRow
          rw [Array.getElem?_append_left (by rw [Array.size_map]; have := (Array.getElem?_eq_some_iff.1 hb').1; omega)]
          simp [hb']
      · cases h
    · cases h
  · cases h
/-- Bytes of the call's own turned to their own type: the run-time's mark behind the last cell; from then on they are only read. -/
def aself (P : Program) (H : Hp) (src dst : TypeId) (x : AV) : Option (AV × Hp) :=
  if src = dst then match P.underlying dst, x with
  | some (.slice el), .c (.sl id o len e) => match P.underlying el, hrow H id with
    | some (.int .u8), some (.ty (.i .u8) xs) => if e = 1 ∧ o + len ≤ xs.length ∧ 0 < len then some (.c (.rs (.i .u8) ((xs.drop o).take len)), H.set id none) else none
    | _, _ => none
  | _, _ => none
  else none
theorem freeze_other (w : World) (a : Addr) (n b : Nat) (h : b ≠ a.block) : (w.freeze a n).heap[b]? = w.heap[b]? := by
  unfold World.freeze
  split
  · rfl
  · show (w.heap.modify a.block _)[b]? = _
    rw [Array.getElem?_modify, if_neg (fun e => h e.symm)]
theorem freeze_cell (w : World) (a : Addr) (n : Nat) (p : Addr) : (w.freeze a n).cell? p = w.cell? p := by
  unfold World.freeze
  split
  · rfl
  · unfold World.cell?
    simp only [Array.getElem?_modify]
    by_cases e : a.block = p.block
    · rw [if_pos e]
      cases hq : w.heap[p.block]? with
      | none => simp
      | some q => cases q <;> simp
    · rw [if_neg e]
theorem s_self (hh : HeapRep X σ H w) {src dst : TypeId} {x r : AV} {H' : Hp} {u : Value} (h : aself P H src dst x = some (r, H')) (hx : RepA w (own X σ H) σ x u) : ∃ v' w', (convert src dst u).run P w = .ok v' w' ∧ Post X σ H w r H' v' w' := by
  unfold aself at h
  split at h
  · rename_i he
    subst he
    split at h
    · rename_i el id o len e hs
      split at h
      · rename_i xs hel hr
        split at h
        · rename_i hc
          obtain ⟨rfl, hb, hpos⟩ := hc
          cases h
          have hid := hrow_some hr
          rcases hx with ⟨rfl, a, rfl⟩ | ⟨b, base, ext, c, hsg, rfl, hlc, hcm, hext⟩
          · exact absurd hpos (by decide)
          rcases hh.row id _ hid with h0 | ⟨b', base', ext', h5, h6, h7, h8, h9⟩
          · rw [h0] at hsg; cases hsg
          rw [hsg] at h5; cases h5
          obtain ⟨cs, ce, cf, hblk⟩ : ∃ cs ce cf, w.heap[b]? = some (.cells cs ce cf) := by
            have h10 := (h8 0 (by omega)).1
            unfold World.cell? at h10
            split at h10
            · rename_i c e r hc; exact ⟨_, _, _, hc⟩
            · cases h10
          have hsh : w.shape? b = some (ce, cs.size) := by unfold World.shape?; rw [hblk]
          have ho : ∀ q, ownB σ (H.set id none) q → ownB σ H q ∧ q ≠ b := fun q => by
            rintro ⟨k, r, y, g1, g2⟩
            rcases set_cases g1 with ⟨rfl, g1, -⟩ | ⟨hk, g1⟩
            · cases g1
            · refine ⟨⟨k, r, y, g1, g2⟩, ?_⟩
              rintro rfl
              exact hk (hh.inj k id r _ q y _ g1 hid g2 hsg)
          have hob : ownB σ H b := ⟨id, _, _, hid, hsg⟩
          have hsz : (w.freeze ⟨b, cs.size, none⟩ 1).heap.size = w.heap.size := by unfold World.freeze; rw [if_neg (by decide)]; exact Array.size_modify ..
          have hk : Keeps w (ownB σ H) (w.freeze ⟨b, cs.size, none⟩ 1) (ownB σ (H.set id none)) := ⟨Nat.le_of_eq hsz.symm, fun q hq hn => freeze_other _ _ _ _ (fun e => hn (e ▸ hob)), fun q hq => .inl (ho q hq).1⟩
          refine ⟨.slice (some ⟨b, base + o * 1, none⟩) len c, w.freeze ⟨b, cs.size, none⟩ 1, ?_, σ, ?_, ?_, ?_⟩
          · simp [convert, run_underlying hs, run_underlying hel, markStringish, hsh]
          · have hl : ((xs.drop o).take len).length = len := by rw [List.length_take, List.length_drop]; omega
            refine .inr ⟨b, base + o * 1, c, by rw [hl], by rw [hl]; exact hlc, hcm, ?_, by rw [hsz]; exact h6, fun i x hx => ?_⟩
            · rintro (g | g)
              · exact (ho b g).2 rfl
              · exact hh.xdis b g hob
            · rw [List.getElem?_take] at hx
              split at hx
              · rw [List.getElem?_drop] at hx
                have g := h9 (o + i) x hx
                show (w.freeze _ _).cell? ⟨b, base + o * 1 + i * 1 + 0, none⟩ = _
                rw [freeze_cell]
                have g' : w.cell? ⟨b, base + ((o + i) * 1 + 0), none⟩ = some (.int .u8 x) := g
                rw [← g']; congr 2; omega
              · cases hx
          · refine hh.next hk (fun _ _ h => h) (fun k hk => hh.dom k (by simpa using hk)) (fun k q hq => ?_) (fun k k' q q' c x x' h1 h2 h3 h4 => ?_)
            · rcases set_cases hq with ⟨rfl, h1, -⟩ | ⟨hne, h1⟩
              · cases h1
              · exact .inl ⟨h1, fun h => h, fun b2 x hb2 => freeze_other _ _ _ _ (fun e => by
                have e' : b2 = b := e
                subst e'
                exact hne (hh.inj k id q _ b2 x _ h1 hid hb2 hsg))⟩
            · rcases set_cases h1 with ⟨rfl, h1, -⟩ | ⟨hk, h1⟩
              · cases h1
              · rcases set_cases h2 with ⟨rfl, h2, -⟩ | ⟨hk', h2⟩
                · cases h2
                · exact hh.inj k k' q q' c x x' h1 h2 h3 h4
          · refine ⟨?_, ?_, ?_, hk, fun _ _ h => h, by simp, fun _ _ => rfl⟩ <;> (unfold World.freeze; rw [if_neg (by decide)])
        · cases h
      · cases h
    · cases h
  · cases h
/-- Length, by the argument's type. -/
def alenT (P : Program) (t : TypeId) (x : AV) : Option Nat :=
  match P.underlying t with
  | some (.slice _) => alenS x
  | some .string => (match x with | .c (.v (.string u)) => some u.size | _ => none)
  | some (.array n _) => some n
  | some (.pointer arr) => (match P.underlying arr with | some (.array n _) => some n | _ => none)
  | _ => none
theorem s_len {own : Nat → Prop} {t ty : TypeId} {x : AV} {u : Value} {n : Nat} (h : alenT P t x = some n) (hx : RepA w own σ x u) : (Builtin.len_ #[t] ty #[u]).run P w = .ok (.int .i64 (n : Int)) w := by
  unfold alenT at h
  split at h
  · rename_i el hu
    obtain ⟨a, c, rfl, -⟩ := alenS_rep h hx
    simp [Builtin.len_, Sem.run_bind, run_underlying hu, goInt]
  · rename_i hu
    split at h
    · cases h
      obtain ⟨rfl, -⟩ := hx
      simp [Builtin.len_, Sem.run_bind, run_underlying hu, goInt]
    · cases h
  · rename_i m el hu
    cases h
    simp [Builtin.len_, Sem.run_bind, run_underlying hu, goInt]
  · rename_i arr hu
    split at h
    · rename_i m el hu2
      cases h
      simp [Builtin.len_, Sem.run_bind, run_underlying hu, run_underlying hu2, goInt]
    · cases h
  · cases h
end
end Go.Proofs.Ytcnoooodnmjdmaa
end
