/- AHI, part D: the operations on frames and heaps of what a call owns. No world. -/
import Derived.Test.YtbdnhoddkdiogaaAhC
import Derived.BigFrame
set_option linter.unusedSimpArgs false
set_option linter.unusedVariables false
namespace Go.Proofs.Ytbdnhoddkdiogaa
open Go.RowKit

structure St where
  n : Nat
  env : List (Nat × AV)
  H : Hp
def look : List (Nat × AV) → Nat → Option AV
  | [], _ => none
  | (k, a) :: l, t => if k = t then some a else look l t
def lay : List (Nat × AV) → Nat → AV → List (Nat × AV)
  | [], t, a => [(t, a)]
  | (k, b) :: l, t, a => if t < k then (t, a) :: (k, b) :: l else if k = t then (t, a) :: l else (k, b) :: lay l t a
theorem look_lay (t s : Nat) (a : AV) : ∀ (l : List (Nat × AV)), look (lay l t a) s = if s = t then some a else look l s
  | [] => by simp [lay, look, eq_comm]
  | (k, b) :: l => by
    simp only [lay]
    split
    · simp [look, eq_comm]
    · split
      · rename_i h; subst h
        simp only [look]
        by_cases h : k = s
        · subst h; simp
        · have h' : ¬ s = k := fun e => h e.symm
          simp [h, h']
      · simp only [look, look_lay t s a l]
        by_cases h : k = s
        · subst h; simp_all
        · simp [h]
def constAV (v : Value) : Option AV :=
  if v.oneCell' = true then some (.c (.v v)) else match v with
    | .agg cs => if cs.toList.all (·.oneCell') = true then some (.agg (.raw (cs.toList.map .v))) else none
    | _ => none
def ev (s : St) : Operand → Option AV
  | .tmp t => look s.env t
  | .const v => constAV v
  | .func f => some (.c (.v (.func (.func f) #[] #[])))
  | .global _ => none

/-! ### The program's tables -/
def tsz (P : Program) (t : TypeId) : Option Nat := (P.info? t).map (·.size)
/-- How many cells, how many bytes; how many cells the zero has. -/
def tq (P : Program) (t : TypeId) : Option (Nat × Nat × Option Nat) := (P.info? t).map fun i => (i.size, i.bytes, i.zero.map (·.cells.size))
/-- The pure kind of a type. -/
def tyOf (P : Program) : Nat → TypeId → Option Ty
  | 0, _ => none
  | n + 1, t => match P.underlying t with
    | some (.int k) => some (.i k) | some .bool => some .bo | some .string => some .st | some (.float k) => some (.f k)
    | some (.slice e) => (tyOf P n e).map .sl
    | some (.array m e) => (tyOf P n e).map (.ar m)
    | some (.struct fs) => (fs.toList.mapM fun f => tyOf P n f.type).bind fun l => match l.reverse with | [] => none | x :: r => some (r.foldl (fun b a => .pr a b) x)
    | _ => none
abbrev ty (P : Program) (t : TypeId) : Option Ty := tyOf P 12 t
/-- A closed value as a row. -/
def valRow (v : Value) : Option Row := if v.cells.toList.all (·.oneCell') = true then some (.raw (v.cells.toList.map .v)) else none
/-- The cells of a type's zero. -/
def zcells (P : Program) (t : TypeId) : Option (List CV) :=
  match (P.info? t).bind (·.zero) with
  | none => none
  | some z => match valRow z with | some (.raw l) => some l | _ => none
/-- The row of a type's zero; an array of plain things is typed. -/
def zrow (P : Program) (t : TypeId) : Option Row :=
  match (P.info? t).bind (·.zero) with
  | none => none
  | some z => match valRow z with
    | none => none
    | some r => match P.underlying t with
      | some (.array _ e) => (match tyOf P 1 e with | some k => (match r.as k with | some xs => some (.ty k xs) | none => some r) | none => some r)
      | _ => some r
/-- Where a struct's field lies, and its type. -/
def fo (P : Program) (t : TypeId) (f : Nat) : Option (Nat × TypeId) :=
  match P.underlying t with | some (.struct fs) => (fs[f]?).map fun f => (f.offset, f.type) | _ => none

/-! ### Plain values -/
def val? {α : Type} : Sem α → Option α
  | .pure a => some a | _ => none
/-- A value of one cell. -/
def oneV : Option Value → Option Value
  | some z => if z.oneCell' = true then some z else none | none => none
def vbin (op : BinOp) : Value → Value → Option Value
  | .int k a, .int k' b => oneV (val? (binOp op 0 (.int k a) (.int k' b)))
  | .float k a, .float k' b => oneV (val? (binOp op 0 (.float k a) (.float k' b)))
  | .string a, .string b => oneV (val? (binOp op 0 (.string a) (.string b)))
  | _, _ => none
def vun (op : UnOp) : Value → Option Value
  | .int k a => oneV (val? (Op.unary op (.int k a)))
  | .float k a => oneV (val? (Op.unary op (.float k a)))
  | .bool b => oneV (val? (Op.unary op (.bool b)))
  | _ => none
def isNilP : CV → Bool
  | .v (.pointer none) => true | _ => false
def isNilS : CV → Bool
  | .v (.slice none 0 0) => true | _ => false
def isNilF : CV → Bool
  | .v .nilFunc => true | _ => false
def ptrNil : CV → Option Bool
  | .v (.pointer p) => some p.isNone | .ptr _ _ _ _ => some false | .rp _ _ _ _ => some false | _ => none
def slNil : CV → Option Bool
  | .v (.slice none 0 0) => some true | .sl _ _ len _ => if 0 < len then some false else none | .rs _ xs => if 0 < xs.length then some false else none | _ => none
def fnNil : CV → Option Bool
  | .v .nilFunc => some true | .v (.func _ _ _) => some false | .fn _ _ => some false | _ => none
def vAV : AV → Option Value
  | .c (.v x) => some x | _ => none
def Ty.beq : (t : Ty) → t.D → t.D → Option Bool
  | .i _, x, y => some (x == y) | .bo, x, y => some (x == y) | .st, x, y => some (x == y)
  | .ar _ (.i _), xs, ys => some (xs == ys)
  | .pr a b, x, y => match Ty.beq a x.1 y.1, Ty.beq b x.2 y.2 with | some p, some q => some (p && q) | _, _ => none
  | _, _, _ => none
/-! ### Memory -/
def AV.row : AV → Option Row
  | .c x => some (.raw [x]) | .agg r => some r | .tup _ => none
def AV.one (t : Ty) : AV → Option t.D
  | .c x => if t.sz = 1 then leaf t x else none
  | .agg r => Row.one t r
  | .tup _ => none
def hrow (H : Hp) (id : Nat) : Option Row := match H[id]? with | some (some r) => some r | _ => none
def isRowT : TypeDesc → Bool
  | .struct _ => true | .array _ _ => true | _ => false
/-- Load. -/
def aload (P : Program) (H : Hp) (t : TypeId) : AV → Option AV
  | .c (.ptr id i e j) => match hrow H id, P.underlying t with
    | some r, some d => if isRowT d = true then (match tsz P t with | some n => (r.sub i e j n).map .agg | none => none) else (r.at i e j).map .c
    | _, _ => none
  | .c (.rp t' xs i j) => match P.underlying t with
    | some d => if isRowT d = true then (match tsz P t with | some n => ((Row.ty t' xs).sub i t'.sz j n).map .agg | none => none) else ((Row.ty t' xs).at i t'.sz j).map .c
    | none => none
  | _ => none
/-- Store. -/
def astore (P : Program) (H : Hp) (t : TypeId) : AV → AV → Option Hp
  | .c (.ptr id i e j), .c x => match hrow H id, tsz P t with
    | some r, some n => if n = 1 then (r.put i e j x).map fun r' => H.set id (some r') else none
    | _, _ => none
  | .c (.ptr id i e j), .agg q => match hrow H id, tsz P t with
    | some r, some n => if q.size = n then (r.puts i e j q).map fun r' => H.set id (some r') else none
    | _, _ => none
  | _, _ => none
/-- A string's bytes. -/
def strI (s : ByteArray) : List Int := s.data.toList.map fun b => (b.toNat : Int)
/-- A slice's own row of elements; what else can be read as one. -/
def elems (H : Hp) (n : Nat) : AV → Option (Nat × Row)
  | .c (.sl id o len e) => if e = n then (match hrow H id with | some r => (r.part o len e).map fun q => (len, q) | none => none) else none
  | .c (.rs t xs) => if t.sz = n then some (xs.length, .ty t xs) else none
  | .c (.v (.slice none 0 0)) => some (0, .raw [])
  | .c .e0 => some (0, .raw [])
  | .c (.v (.string s)) => if n = 1 then some (s.size, .ty (.i .u8) (strI s)) else none
  | _ => none
def slOrStr (P : Program) (t : TypeId) : Bool := match P.underlying t with | some (.slice _) => true | some .string => true | _ => false
abbrev LIM : Nat := 4294967296
/-- Append. -/
def aappend (P : Program) (H : Hp) (t : TypeId) (s x : AV) : Option (AV × Hp) :=
  match P.underlying t with
  | some (.slice el) => match tq P el with
    | some (n, by_, z) => if 0 < n ∧ by_ ≤ 32768 ∧ z = some n then
        match elems H n x with
        | some (m, q) => (match s with
          | .c (.sl id o len e) => if e = n then (match hrow H id with
              | some r => match r.part o len e with
                | some p => match p.app q with
                  | some r' => if len + m ≤ LIM then some (.c (.sl H.length 0 (len + m) n), H.set id none ++ [some r']) else none
                  | none => none
                | none => none
              | none => none) else none
          | .c (.v (.slice none 0 0)) => if m ≤ LIM then some (.c (.sl H.length 0 m n), H ++ [some q]) else none
          | .c .e0 => if m ≤ LIM then some (.c (.sl H.length 0 m n), H ++ [some q]) else none
          | _ => none)
        | none => none
      else none
    | none => none
  | _ => none
/-- Copy. -/
def acopy (P : Program) (H : Hp) (t : TypeId) (d x : AV) : Option (AV × Hp) :=
  match P.underlying t with
  | some (.slice el) => match tsz P el with
    | some 1 => match d, elems H 1 x with
      | .c (.sl id o len e), some (m, q) => match hrow H id with
        | some (.ty t' xs) => if e = 1 ∧ t'.sz = 1 then match q.part 0 (min m len) 1 with
          | some p => match (Row.ty t' xs).over o (min m len) p with
            | some r' => some (.c (.v (.int .i64 ((min m len : Nat) : Int))), H.set id (some r'))
            | none => none
          | none => none else none
        | _ => none
      | _, _ => none
    | _ => none
  | _ => none
def alen (H : Hp) : AV → Option Nat
  | .c (.sl _ _ len _) => some len | .c (.rs _ xs) => some xs.length | .c (.v (.slice none 0 0)) => some 0 | .c .e0 => some 0 | .c (.v (.string s)) => some s.size | _ => none
def alenS : AV → Option Nat
  | .c (.sl _ _ len _) => some len | .c (.rs _ xs) => some xs.length | .c (.v (.slice none 0 0)) => some 0 | .c .e0 => some 0 | _ => none
def natI : AV → Option Int
  | .c (.v (.int _ n)) => some n | _ => none
/-- An element's address. -/
def aindexAddr (P : Program) (t : TypeId) (x ix : AV) : Option AV :=
  match P.underlying t, natI ix with
  | some (.slice el), some i => match tsz P el with
    | some n => match x with
      | .c (.sl id o len e) => if e = n ∧ 0 ≤ i ∧ i < (len : Int) then some (.c (.ptr id (o + i.toNat) e 0)) else none
      | .c (.rs t' xs) => if t'.sz = n ∧ 0 ≤ i ∧ i < (xs.length : Int) then some (.c (.rp t' xs i.toNat 0)) else none
      | _ => none
    | none => none
  | some (.array m el), some i => match tsz P el with
    | some n => if 0 ≤ i ∧ i < (m : Int) then match x with
      | .c (.ptr id 0 _ j) => some (.c (.ptr id i.toNat n j))
      | .c (.rp t' xs i' j) => some (.c (.rp t' xs i' (j + i.toNat * n)))
      | _ => none else none
    | none => none
  | _, _ => none
def afieldAddr (P : Program) (t : TypeId) (x : AV) (f : Nat) : Option AV :=
  match fo P t f with
  | some (off, ft) => if (tsz P ft).getD 0 = 0 then none else match x with
    | .c (.ptr id i e j) => some (.c (.ptr id i e (j + off)))
    | .c (.rp t' xs i j) => some (.c (.rp t' xs i (j + off)))
    | _ => none
  | none => none
/-- Part n cells from cell off on of a struct or an array by value. -/
def apart (P : Program) (t : TypeId) (r : Row) (i e off : Nat) : Option AV :=
  match P.underlying t with
  | some d => if isRowT d = true then (match tsz P t with | some n => (r.sub i e off n).map .agg | none => none) else (r.at i e off).map .c
  | none => none
def afield (P : Program) (t : TypeId) (x : AV) (f : Nat) : Option AV :=
  match fo P t f, x with
  | some (off, ft), .agg (.ty t' [y]) => apart P ft (.ty t' [y]) 0 t'.sz off
  | some (off, ft), .agg (.raw l) => apart P ft (.raw l) 0 1 off
  | _, _ => none
def aindex (P : Program) (t : TypeId) (x ix : AV) : Option AV :=
  match P.underlying t, natI ix, x with
  | some (.array m el), some i, .agg r => match tsz P el with
    | some n => if 0 ≤ i ∧ i < (m : Int) then apart P el r i.toNat n 0 else none
    | none => none
  | some .string, some i, .c (.v (.string s)) => if 0 ≤ i then (match s[i.toNat]? with | some b => some (.c (.v (.int .u8 b.toNat))) | none => none) else none
  | _, _, _ => none
/-- A bound of a slice expression; none where there is none. -/
def bound (d : Nat) : Option AV → Option Nat
  | none => some d
  | some a => match natI a with | some i => if 0 ≤ i then some i.toNat else none | none => none
def aslice (P : Program) (H : Hp) (t : TypeId) (x : AV) (lo hi : Option AV) : Option AV :=
  match P.underlying t with
  | some (.array m el) => match tsz P el, bound 0 lo, bound m hi with
    | some n, some l, some h => if l ≤ h ∧ h ≤ m ∧ m ≤ LIM then match x with
      | .c (.ptr id 0 _ 0) => match hrow H id with
        | some r => if m * n ≤ r.size then some (.c (.sl id l (h - l) n)) else none
        | none => none
      | _ => none else none
    | _, _, _ => none
  | some (.slice el) => match tsz P el, alen [] x with
    | some n, some len => match bound 0 lo, bound len hi with
      | some l, some h => if l ≤ h ∧ h ≤ len then match x with
        | .c (.sl id o len e) => if e = n then some (.c (.sl id (o + l) (h - l) e)) else none
        | .c (.rs t' xs) => if t'.sz = n then some (.c (.rs t' ((xs.drop l).take (h - l)))) else none
        | .c (.v (.slice none 0 0)) => some x
        | .c .e0 => some x
        | _ => none else none
      | _, _ => none
    | _, _ => none
  | some .string => match x with
    | .c (.v (.string s)) => match bound 0 lo, bound s.size hi with
      | some l, some h => if l ≤ h ∧ h ≤ s.size then some (.c (.v (.string (s.extract l h)))) else none
      | _, _ => none
    | _ => none
  | _ => none
/-- With the third bound: nothing without room ('s[:0:0]'), or up to the second one. -/
def aslice3 (P : Program) (t : TypeId) (x : AV) (lo hi mx : Option AV) : Option AV :=
  match P.underlying t with
  | some (.slice el) => match tsz P el, alenS x with
    | some n, some len => match bound 0 lo, bound 0 hi, bound 0 mx with
      | some l, some h, some m => if l ≤ h ∧ h ≤ m ∧ m ≤ len then (if l = m then (if hi.isSome = true ∧ mx.isSome = true then some (.c .e0) else none) else match x with
        | .c (.sl id o len e) => if e = n ∧ hi.isSome = true ∧ mx.isSome = true then some (.c (.sl id (o + l) (h - l) e)) else none
        | _ => none) else none
      | _, _, _ => none
    | _, _ => none
  | _ => none
/-- Make. -/
def amake (P : Program) (H : Hp) (t : TypeId) (l c : AV) : Option (AV × Hp) :=
  match P.underlying t, natI l, natI c with
  | some (.slice el), some a, some b => match tq P el with
    | some (n, by_, z) => if 0 ≤ a ∧ a ≤ b ∧ b ≤ LIM ∧ 0 < n ∧ by_ ≤ 32768 ∧ z = some n then
        match zrow P el with
        | some zr => match ty P el with
          | some k => (match Row.one k zr with | some y => some (.c (.sl H.length 0 a.toNat n), H ++ [some (.ty k (List.replicate b.toNat y))]) | none => none)
          | none => none
        | none => none
      else none
    | none => none
  | _, _, _ => none
/-- A value that is no tuple. -/
def ev1 (s : St) (x : Operand) : Option AV := match ev s x with | some (.tup _) => none | r => r
/-- The parts of a literal, in order. -/
def allParts (s : St) : Nat → List (Nat × Operand) → Option (List AV)
  | _, [] => some []
  | k, (i, x) :: l => if i = k then (match ev1 s x, allParts s (k + 1) l with | some a, some r => some (a :: r) | _, _ => none) else none
def AV.ones (t : Ty) : List AV → Option (List t.D)
  | [] => some []
  | a :: l => match AV.one t a, AV.ones t l with | some x, some xs => some (x :: xs) | _, _ => none
def AV.cells : List AV → List CV
  | [] => []
  | .c x :: l => x :: AV.cells l
  | .agg r :: l => r.cells ++ AV.cells l
  | .tup _ :: l => AV.cells l
/-- Each is of n cells. -/
def AV.allSz (n : Nat) : List AV → Bool
  | [] => true | a :: l => decide ((AV.cells [a]).length = n) && AV.allSz n l
def abuild0 (P : Program) (s : St) (t : TypeId) : Option (AV × Hp) :=
  match P.underlying t with
  | some (.slice el) => match tq P el, ty P el with
    | some (n, _, _), some k => if 0 < n then some (.c (.sl s.H.length 0 0 n), s.H ++ [some (.ty k [])]) else none
    | _, _ => none
  | _ => none
def abuildSlice (P : Program) (s : St) (t : TypeId) (len : Nat) (parts : List (Nat × Operand)) : Option (AV × Hp) :=
  if len = 0 ∧ parts.length = 0 then abuild0 P s t else
  match P.underlying t with
  | some (.slice el) => match tq P el, allParts s 0 parts with
    | some (n, _, z), some l => if z = some n ∧ l.length = len ∧ 0 < len ∧ 0 < n ∧ len * n ≤ 16777216 then
        match (match ty P el with | some k => if k.sz = n then (AV.ones k l).map (Row.ty k) else none | none => none) with
        | some r => some (.c (.sl s.H.length 0 len n), s.H ++ [some r])
        | none => if AV.allSz n l = true then some (.c (.sl s.H.length 0 len n), s.H ++ [some (.raw (AV.cells l))]) else none
      else none
    | _, _ => none
  | _ => none
/-- Cells with parts written. -/
def fillL (place : Nat → Option (Nat × Nat)) (cells : List CV) : List (Nat × AV) → Option (List CV)
  | [] => some cells
  | (i, a) :: l => match place i with
    | some (off, size) => if (AV.cells [a]).length = size ∧ off + size ≤ cells.length then fillL place (cells.take off ++ AV.cells [a] ++ cells.drop (off + size)) l else none
    | none => none
def evParts (s : St) : List (Nat × Operand) → Option (List (Nat × AV))
  | [] => some []
  | (i, x) :: l => match ev1 s x, evParts s l with | some a, some r => some ((i, a) :: r) | _, _ => none
/-- Where a struct's fields lie. -/
def stq (P : Program) (t : TypeId) : Option (List (Nat × Nat)) :=
  match P.underlying t with | some (.struct fs) => fs.toList.mapM (fun f => (P.info? f.type).map fun i => (f.offset, i.size)) | _ => none
/-- A struct's or an array's literal. -/
def abuild (P : Program) (s : St) (t : TypeId) (parts : List (Nat × Operand)) : Option AV :=
  match zcells P t, evParts s parts with
  | some Z, some l => match P.underlying t with
    | some (.struct _) => match stq P t with
      | some places => (fillL (fun i => places[i]?) Z l).map fun L => .agg (.raw L)
      | none => none
    | some (.array _ e) => match tsz P e with
      | some n => match fillL (fun i => some (i * n, n)) Z l with
        | some L => match tyOf P 1 e with
          | some k => (match (Row.raw L).as k with | some xs => some (.agg (.ty k xs)) | none => some (.agg (.raw L)))
          | none => some (.agg (.raw L))
        | none => none
      | none => none
    | _ => none
  | _, _ => none
/-! ### Operators -/
def eqg (P : Program) (t : TypeId) : Bool := P.eqGuardType P.depth t
/-- Two rows of numbers. -/
def aeqRow (P : Program) (t : TypeId) (r q : Row) : Option Bool :=
  if eqg P t = true then none else match P.underlying t with
  | some (.array m e) => match P.underlying e, tsz P e with
    | some (.int k), some 1 => match r.as (.i k), q.as (.i k) with
      | some xs, some ys => if xs.length = m ∧ ys.length = m then some (xs == ys) else none
      | _, _ => none
    | _, _ => none
  | _ => none
def aeq (P : Program) (t : TypeId) (x y : AV) : Option Bool :=
  match x, y with
  | .c (.v (.bool p)), .c (.v (.bool q)) => match P.underlying t with | some .bool => some (p == q) | _ => none
  | .agg r, .agg q => aeqRow P t r q
  | .c a, .c b => match P.underlying t with
    | some (.pointer _) => if isNilP b = true then ptrNil a else if isNilP a = true then ptrNil b else none
    | some (.slice _) => if isNilS b = true then slNil a else none
    | some (.func _ _ _) => if isNilF b = true then fnNil a else none
    | _ => none
  | _, _ => none
def abin (P : Program) (op : BinOp) (t : TypeId) (x y : AV) : Option AV :=
  match op with
  | .eql => match vAV x, vAV y with
    | some u, some v => (match vbin .eql u v with | some z => some (.c (.v z)) | none => (aeq P t x y).map fun b => .c (.v (.bool b)))
    | _, _ => (aeq P t x y).map fun b => .c (.v (.bool b))
  | .neq => match vAV x, vAV y with
    | some u, some v => (match vbin .neq u v with | some z => some (.c (.v z)) | none => (aeq P t x y).map fun b => .c (.v (.bool !b)))
    | _, _ => (aeq P t x y).map fun b => .c (.v (.bool !b))
  | op => match vAV x, vAV y with
    | some u, some v => (vbin op u v).map fun z => .c (.v z)
    | _, _ => none
def aun (op : UnOp) (x : AV) : Option AV := match vAV x with | some u => (vun op u).map fun z => .c (.v z) | none => none
def aconv (P : Program) (src dst : TypeId) (x : AV) : Option AV :=
  match P.underlying src, P.underlying dst, vAV x with
  | some _, some (.int k), some (.int _ n) => some (.c (.v (.int k (k.wrap n))))
  | some _, some .string, some (.string u) => some (.c (.v (.string u)))
  | _, _, _ => none
end Go.Proofs.Ytbdnhoddkdiogaa
