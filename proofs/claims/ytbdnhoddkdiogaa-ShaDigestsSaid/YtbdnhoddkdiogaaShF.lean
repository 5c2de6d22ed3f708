/- Where the blocks of the document's digest stand; operations against a frame that is a letter. No program in sight. -/
import Derived.Test.YtbdnhoddkdiogaaShG
import Derived.Test.YtbdnhoddkdiogaaShR
import Derived.Test.YtbdnhoddkdiogaaShO
import Derived.Deep.QuietTactic
import Derived.BigQuiet
import Derived.Laws.BitsAllLaws
set_option linter.unusedSimpArgs false
set_option linter.unusedVariables false
namespace Go.Proofs.Ytbdnhoddkdiogaa
open Go.RowKit

section
variable {P : Program} {ops : Array Oper} {S : World → Prop} {o : Oper} {v : Value} {a : Act}
/-! A frame that is a letter: what a slot holds behind a put. -/
theorem size_put (A : Act) (i : Nat) (u : Value) : (A.put (some i) u).tmps.size = A.tmps.size := by simp [Act.put]
theorem eval_put (A : Act) (i j : Nat) (u : Value) : (A.put (some i) u).eval (.tmp j) = if i = j then (if i < A.tmps.size then u else undef) else A.eval (.tmp j) := by
  simp only [Act.put, Act.eval]
  by_cases h : i = j
  · subst h
    rw [if_pos rfl]
    by_cases h2 : i < A.tmps.size
    · rw [if_pos h2]; simp [Array.getD, h2]
    · rw [if_neg h2]; simp [Array.getD, h2]
  · rw [if_neg h]
    simp [Array.getElem?_setIfInBounds, h]
theorem put_lit (l : List Value) (ds : List Deferred) (i : Nat) (v : Value) : (Act.mk l.toArray ds).put (some i) v = Act.mk (l.set i v).toArray ds := by simp [Act.put]
theorem eval_const' (A : Act) (c : Value) : A.eval (.const c) = c := rfl
theorem wpAnyE_takeD {Q : Exit → Act → World → Prop} {md : Region.Mode} {n : Nat} {i d : Nat} {oi : Oper} {v : Value} {fuel : Nat} {listed : Array Bool} {a : Act} {w : World} (hi : ops[i]? = some oi)
    (hs : Region.noSelect ops = true) (hf : Region.free md ops listed i = true) (hr : (Region.ready md ops listed).contains i = true)
    (hwait : Region.waitsFor md ops n i = true) (hin : i ≠ n) (hn : listed.getD n true = false) (hd : oi.dst = some d)
    (hQ : ∀ c a w, Q (.panic c) (a.put (some d) v) w → Q (.panic c) a w) (hy : YieldsIf P ops S oi v a) (hS : S w)
    (h : wpAnyE P md ops Q S n fuel (listed.setIfInBounds i true) (a.put (some d) v) w) : wpAnyE P md ops Q S n (fuel + 1) listed a w :=
  wpAnyE_take hi hs hf hr hwait hin hn (by rw [hd]; exact hQ) hy hS (by rw [hd]; exact h)
/-- An operation over one operand, in any frame that holds it. -/
theorem yields1 (x : Operand) (u : Value) (hg : Region.wanted o (yielded ops a.tmps) = true) (e : a.eval x = u) (h : ∀ A : Act, A.eval x = u → ∀ W, S W → (execOp A.eval o).run P W = .ok (.value v) W) : YieldsIf P ops S o v a :=
  .inl ⟨hg, fun W hW => h a e W hW⟩
theorem yields2 (x y : Operand) (u t : Value) (hg : Region.wanted o (yielded ops a.tmps) = true) (e : a.eval x = u) (e2 : a.eval y = t) (h : ∀ A : Act, A.eval x = u → A.eval y = t → ∀ W, S W → (execOp A.eval o).run P W = .ok (.value v) W) : YieldsIf P ops S o v a :=
  .inl ⟨hg, fun W hW => h a e e2 W hW⟩
theorem yieldsMove (x : Operand) (hg : Region.wanted o (yielded ops a.tmps) = true) (ho : o.op = .move x) (e : a.eval x = v) : YieldsIf P ops S o v a :=
  .inl ⟨hg, fun W _ => by rw [BigFrame.run_move x ho, e]⟩
theorem yieldsIdx (t e : TypeId) (x y : Operand) (g off n c : Nat) (i : Nat) (hg : Region.wanted o (yielded ops a.tmps) = true) (ho : o.op = .indexAddr t x y) (ex : a.eval x = .slice (some ⟨g, off, none⟩) n c) (ey : a.eval y = .int .i64 (i : Int)) (hi : i < n)
    (ht : P.underlying t = some (.slice e)) (hs : ∀ w, (sizeOf e).run P w = .ok 1 w) (hv : v = .pointer (some ⟨g, off + i, none⟩)) : YieldsIf P ops S o v a :=
  .inl ⟨hg, fun W _ => by
    have he : P.elem t = e := by simp [Program.elem, ht]
    have h2 := run_indexAt_slice (P := P) W t ⟨g, off, none⟩ n c .i64 (i : Int) (by rw [he]; exact ht)
    have ha : (⟨g, off, none⟩ : Addr).add i = ⟨g, off + i, none⟩ := by
      by_cases h0 : i = 0
      · subst h0; simp [Addr.add]
      · simp [Addr.add, h0]
    rw [he, if_pos ⟨by omega, by omega⟩, hs, Result.andThen_ok, Int.toNat_natCast, Nat.mul_one, ha] at h2
    unfold execOp
    simp only [ho, ex, ey, Sem.run_bind, h2, Result.andThen_ok, Sem.run_pure, hv]⟩
theorem yieldsLoad (t : TypeId) (k : IntKind) (x : Operand) (g i : Nat) (z : Int) (hg : Region.wanted o (yielded ops a.tmps) = true) (ho : o.op = .load t x) (ex : a.eval x = .pointer (some ⟨g, i, none⟩)) (ht : P.underlying t = some (.int k))
    (hc : ∀ W, S W → W.cell? ⟨g, i, none⟩ = some (.int k z)) (hv : v = .int k z) : YieldsIf P ops S o v a :=
  .inl ⟨hg, fun W hW => by
    have h3 := hc W hW
    unfold execOp
    simp only [ho, ex, Instr.loadAt, Instr.sureAddr, Sem.run_bind, Sem.run_pure, Result.andThen_ok]
    simp [loadVar, isAgg, run_underlying ht, h3, hv]⟩
theorem yieldsBin (op : BinOp) (t t2 : TypeId) (x y : Operand) (u u2 : Value) (hg : Region.wanted o (yielded ops a.tmps) = true) (ho : o.op = .binOp op t x y t2) (ex : a.eval x = u) (ey : a.eval y = u2) (he : ∀ W, (eqGuard op t x y u u2).run P W = .ok () W)
    (hr : ∀ W, (binOp op t u u2).run P W = .ok v W) : YieldsIf P ops S o v a :=
  .inl ⟨hg, fun W _ => by
    unfold execOp
    simp only [ho, ex, ey, Sem.run_bind, he, hr, Result.andThen_ok, Sem.run_pure]⟩
theorem yieldsConv (s d : TypeId) (x : Operand) (u : Value) (hg : Region.wanted o (yielded ops a.tmps) = true) (ho : o.op = .convert s d x) (ex : a.eval x = u)
    (hr : ∀ W, (convert s d u).run P W = .ok v W) : YieldsIf P ops S o v a :=
  .inl ⟨hg, fun W _ => by
    unfold execOp
    simp only [ho, ex, Sem.run_bind, hr, Result.andThen_ok, Sem.run_pure]⟩
end

section
variable {P : Program}
theorem guardInt (op : BinOp) (t : TypeId) (x y : Operand) (k : IntKind) (n : Int) (v : Value) (W : World) : (eqGuard op t x y (.int k n) v).run P W = .ok () W := by rw [eqGuard_at_int]; rfl
theorem run_or32 (t : TypeId) (a b r : Int) (h : bits .or .u32 a b = r) (W : World) : (binOp .or t (.int .u32 a) (.int .u32 b)).run P W = .ok (.int .u32 r) W := by
  subst h; simp [go_sem]
theorem run_xor32 (t : TypeId) (a b r : Int) (h : bits .xor .u32 a b = r) (W : World) : (binOp .xor t (.int .u32 a) (.int .u32 b)).run P W = .ok (.int .u32 r) W := by
  subst h; simp [go_sem]
theorem run_and32 (t : TypeId) (a b r : Int) (h : bits .and .u32 a b = r) (W : World) : (binOp .and t (.int .u32 a) (.int .u32 b)).run P W = .ok (.int .u32 r) W := by
  subst h; simp [go_sem]
theorem run_add32 (t : TypeId) (a b : Int) (W : World) : (binOp .add t (.int .u32 a) (.int .u32 b)).run P W = .ok (.int .u32 ((a + b) % 4294967296)) W := by
  have e : IntKind.u32.wrap (a + b) = (a + b) % 4294967296 := by unfold IntKind.wrap; simp [IntKind.signed, IntKind.bits]
  simp [go_sem, e]
theorem run_addI (t : TypeId) (a b r : Int) (h : a + b = r) (h1 : -9223372036854775808 ≤ r) (h2 : r ≤ 9223372036854775807) (W : World) : (binOp .add t (.int .i64 a) (.int .i64 b)).run P W = .ok (.int .i64 r) W := by
  have e : IntKind.i64.wrap (a + b) = r := by rw [h]; exact IntWalk.i64_in _ (by omega)
  simp [go_sem, e]
theorem run_subI (t : TypeId) (a b r : Int) (h : a - b = r) (h1 : -9223372036854775808 ≤ r) (h2 : r ≤ 9223372036854775807) (W : World) : (binOp .sub t (.int .i64 a) (.int .i64 b)).run P W = .ok (.int .i64 r) W := by
  have e : IntKind.i64.wrap (a - b) = r := by rw [h]; exact IntWalk.i64_in _ (by omega)
  simp [go_sem, e]
theorem run_shl32 (t : TypeId) (y r : Int) (n : Nat) (h : y * 2 ^ n % 4294967296 = r) (hn : n < 32) (W : World) : (binOp .shl t (.int .u32 y) (.int .u64 (n : Int))).run P W = .ok (.int .u32 r) W := by
  subst h
  have : n ≤ 32 := by omega
  have e : IntKind.u32.wrap (y * 2 ^ n) = y * 2 ^ n % 4294967296 := by unfold IntKind.wrap; simp [IntKind.signed, IntKind.bits]
  simp [go_sem, Nat.min_eq_left this, e]
theorem run_shr32 (t : TypeId) (y r : Int) (n : Nat) (h : y / 2 ^ n = r) (hn : n < 32) (W : World) : (binOp .shr t (.int .u32 y) (.int .u64 (n : Int))).run P W = .ok (.int .u32 r) W := by
  subst h
  have : n ≤ 32 := by omega
  simp [go_sem, Nat.min_eq_left this]
theorem run_conv8 (s d : TypeId) (y : Int) (hs : P.underlying s = some (.int .u8)) (hd : P.underlying d = some (.int .u32)) (h0 : 0 ≤ y) (h1 : y < 256) (W : World) : (convert s d (.int .u8 y)).run P W = .ok (.int .u32 y) W := by
  have e : IntKind.u32.wrap y = y := by unfold IntKind.wrap; simp [IntKind.signed, IntKind.bits]; omega
  rw [run_convert_int W s d .u8 y (by rw [hs]; rfl) (by simp [Program.intKind, hd])]
  simp [Program.intKind, hd, e]
end
/-- What stands in unlike bits: or is a sum. -/
theorem or_sum (k a b : Nat) (h1 : (2 ^ k * a : Nat) < 4294967296) (h2 : b < 2 ^ k) (h3 : b < 4294967296) : bits .or .u32 ((2 ^ k * a : Nat) : Int) (b : Int) = ((2 ^ k * a + b : Nat) : Int) := by
  rw [u32_or _ _ (by omega) (by omega) (by omega) (by omega), Int.toNat_natCast, Int.toNat_natCast, Nat.two_pow_add_eq_or_of_lt h2]
theorem or_24 (x y : Int) (h1 : 0 ≤ x) (h2 : x < 256) (h3 : 0 ≤ y) (h4 : y < 256) : bits .or .u32 (x * 16777216) (y * 65536) = x * 16777216 + y * 65536 := by
  obtain ⟨a, rfl⟩ := Int.eq_ofNat_of_zero_le h1
  obtain ⟨b, rfl⟩ := Int.eq_ofNat_of_zero_le h3
  have := or_sum 24 a (b * 65536) (by omega) (by omega) (by omega)
  simp only [Nat.reducePow] at this
  rw [show ((a : Int) * 16777216) = ((16777216 * a : Nat) : Int) by omega, show ((b : Int) * 65536) = ((b * 65536 : Nat) : Int) by omega, this]
  omega
theorem or_16 (x y : Int) (h1 : 0 ≤ x) (h2 : x < 65536) (h3 : 0 ≤ y) (h4 : y < 256) : bits .or .u32 (x * 65536) (y * 256) = x * 65536 + y * 256 := by
  obtain ⟨a, rfl⟩ := Int.eq_ofNat_of_zero_le h1
  obtain ⟨b, rfl⟩ := Int.eq_ofNat_of_zero_le h3
  have := or_sum 16 a (b * 256) (by omega) (by omega) (by omega)
  simp only [Nat.reducePow] at this
  rw [show ((a : Int) * 65536) = ((65536 * a : Nat) : Int) by omega, show ((b : Int) * 256) = ((b * 256 : Nat) : Int) by omega, this]
  omega
theorem or_8 (x y : Int) (h1 : 0 ≤ x) (h2 : x < 16777216) (h3 : 0 ≤ y) (h4 : y < 256) : bits .or .u32 (x * 256) y = x * 256 + y := by
  obtain ⟨a, rfl⟩ := Int.eq_ofNat_of_zero_le h1
  obtain ⟨b, rfl⟩ := Int.eq_ofNat_of_zero_le h3
  have := or_sum 8 a b (by omega) (by omega) (by omega)
  simp only [Nat.reducePow] at this
  rw [show ((a : Int) * 256) = ((256 * a : Nat) : Int) by omega, this]
  omega

/-- A code's frame behind a letter; what is known of it. -/
theorem frame_letter {P : Program} {c : Code} {Q : Exit → Act → World → Prop} {a : Act} {w : World} (C : Act → Prop) (hC : C a) (h : ∀ A, C A → A = a → Code.wp P c Q A w) : Code.wp P c Q a w := h a hC rfl

/-- The words' block, the constants' row, the text's row, the result's block. -/
structure RefRel (T E : Nat) (w : World) (g4 g5 g7 : Nat) (t : List Int) (wr : World) (hs : List Int) : Prop where
  h4 : ∃ cur, wr.heap[g4]? = some (.cells cur E (0, 0)) ∧ ∀ i, i < 8 → cur[i]? = some (.int .u32 (hs.getD i 0))
  k5 : ∀ i, i < 64 → wr.cell? ⟨g5, i, none⟩ = some (.int .u32 (Sha.rounds.getD i 0))
  t7 : ∀ i, i < t.length → wr.cell? ⟨g7, i, none⟩ = some (.int .u8 (t.getD i 0))
  zero : wr.heap[w.heap.size]? = some (.cells (Sha.bytes (List.replicate 32 0)) T (0, 0))
  below : Below w.heap.size w wr
  lo : w.heap.size < g4
  hi4 : g4 < wr.heap.size
  hi5 : g5 < wr.heap.size
  hi7 : g7 < wr.heap.size
  ne5 : g5 ≠ g4
  ne7 : g7 ≠ g4
section
variable {T E : Nat} {w wr w' : World} {g4 g5 g7 : Nat} {t hs : List Int}
theorem RefRel.past (h : RefRel T E w g4 g5 g7 t wr hs) (hb : Below wr.heap.size wr w') : RefRel T E w g4 g5 g7 t w' hs := by
  obtain ⟨cur, h1, h2⟩ := h.h4
  refine ⟨⟨cur, (hb.block _ h.hi4).trans h1, h2⟩, fun i hi => (hb.cell (by exact h.hi5)).trans (h.k5 i hi), fun i hi => (hb.cell (by exact h.hi7)).trans (h.t7 i hi), (hb.block _ (Nat.lt_trans h.lo h.hi4)).trans h.zero,
    h.below.trans (hb.mono h.below.size), h.lo, Nat.lt_of_lt_of_le h.hi4 hb.size, Nat.lt_of_lt_of_le h.hi5 hb.size, Nat.lt_of_lt_of_le h.hi7 hb.size, h.ne5, h.ne7⟩
theorem RefRel.cell4 (h : RefRel T E w g4 g5 g7 t wr hs) (i : Nat) (hi : i < 8) : wr.cell? ⟨g4, i, none⟩ = some (.int .u32 (hs.getD i 0)) := by
  obtain ⟨cur, h1, h2⟩ := h.h4
  rw [cell_of_row _ _ i _ _ _ h1, h2 i hi]
theorem RefRel.free4 (h : RefRel T E w g4 g5 g7 t wr hs) (i : Nat) : wr.frozen? ⟨g4, i, none⟩ = false := by
  obtain ⟨cur, h1, _⟩ := h.h4
  exact frozen_of_row _ _ i _ _ h1
theorem RefRel.set (h : RefRel T E w g4 g5 g7 t wr hs) (i : Nat) (hi : i < hs.length) (v : Int) : RefRel T E w g4 g5 g7 t (wr.setCell ⟨g4, i, none⟩ (.int .u32 v)) (hs.set i v) := by
  obtain ⟨cur, h1, h2⟩ := h.h4
  have hlo := h.lo
  have o5 : ∀ j, (wr.setCell ⟨g4, i, none⟩ (.int .u32 v)).cell? ⟨g5, j, none⟩ = wr.cell? ⟨g5, j, none⟩ := fun j => World.cell?_of_block (w := wr) (heap_setCell_other _ _ _ _ (by exact h.ne5))
  have o7 : ∀ j, (wr.setCell ⟨g4, i, none⟩ (.int .u32 v)).cell? ⟨g7, j, none⟩ = wr.cell? ⟨g7, j, none⟩ := fun j => World.cell?_of_block (w := wr) (heap_setCell_other _ _ _ _ (by exact h.ne7))
  refine ⟨⟨cur.setIfInBounds i (.int .u32 v), heap_setCell_same _ _ _ _ _ _ h1, fun j hj => ?_⟩, fun j hj => (o5 j).trans (h.k5 j hj), fun j hj => (o7 j).trans (h.t7 j hj),
    (heap_setCell_other _ _ _ _ (by show w.heap.size ≠ g4; omega)).trans h.zero, h.below.setCell (by show _ ≤ g4; omega) _, h.lo, by simpa using h.hi4, by simpa using h.hi5, by simpa using h.hi7, h.ne5, h.ne7⟩
  have h3 := h2 j hj
  by_cases e : i = j
  · subst e
    have hlt : i < cur.size := by
      rcases Nat.lt_or_ge i cur.size with h' | h'
      · exact h'
      · rw [Array.getElem?_eq_none h'] at h3; cases h3
    simp [hlt, hi]
  · rw [Array.getElem?_setIfInBounds, if_neg e, h3, List.getD_eq_getElem?_getD, List.getD_eq_getElem?_getD, List.getElem?_set, if_neg e]
end
/-- A row of eight words, somewhere above. -/
structure Eight (w2 wr : World) (g : Nat) (hs : List Int) : Prop where
  cell : ∀ i, i < 8 → wr.cell? ⟨g, i, none⟩ = some (.int .u32 (hs.getD i 0))
  lt : g < wr.heap.size
  below : Below w2.heap.size w2 wr
theorem Eight.past {w2 wr w' : World} {g : Nat} {hs : List Int} (h : Eight w2 wr g hs) (hb : Below wr.heap.size wr w') : Eight w2 w' g hs :=
  ⟨fun i hi => (hb.cell (by exact h.lt)).trans (h.cell i hi), Nat.lt_of_lt_of_le h.lt hb.size, h.below.trans (hb.mono h.below.size)⟩
/-- While the bytes come out: the words' block, the bytes' block, the result's block. -/
structure OutRel (T E : Nat) (w : World) (g4 B : Nat) (l : List Int) (wr : World) (hs : List Int) : Prop where
  h4 : ∃ cur, wr.heap[g4]? = some (.cells cur E (0, 0)) ∧ ∀ i, i < 8 → cur[i]? = some (.int .u32 (hs.getD i 0))
  out : wr.heap[B]? = some (.cells (Sha.bytes l) T (0, 0))
  zero : wr.heap[w.heap.size]? = some (.cells (Sha.bytes (List.replicate 32 0)) T (0, 0))
  below : Below w.heap.size w wr
  lo : w.heap.size < B
  ne : g4 ≠ B
section
variable {T E : Nat} {w wr : World} {g4 B : Nat} {l hs : List Int}
theorem OutRel.cell4 (h : OutRel T E w g4 B l wr hs) (i : Nat) (hi : i < 8) : wr.cell? ⟨g4, i, none⟩ = some (.int .u32 (hs.getD i 0)) := by
  obtain ⟨cur, h1, h2⟩ := h.h4
  rw [cell_of_row _ _ i _ _ _ h1, h2 i hi]
theorem OutRel.cellB (h : OutRel T E w g4 B l wr hs) (i : Nat) (hi : i < l.length) : wr.cell? ⟨B, i, none⟩ = some (.int .u8 (l.getD i 0)) := by
  rw [cell_of_row _ _ i _ _ _ h.out, bytes_get l i hi]
theorem OutRel.freeB (h : OutRel T E w g4 B l wr hs) (i : Nat) : wr.frozen? ⟨B, i, none⟩ = false := frozen_of_row _ _ i _ _ h.out
theorem OutRel.set (h : OutRel T E w g4 B l wr hs) (i : Nat) (v : Int) : OutRel T E w g4 B (l.set i v) (wr.setCell ⟨B, i, none⟩ (.int .u8 v)) hs := by
  obtain ⟨cur, h1, h2⟩ := h.h4
  have hlo := h.lo
  exact ⟨⟨cur, (heap_setCell_other _ _ _ _ (by exact h.ne)).trans h1, h2⟩, by rw [heap_setCell_same _ _ _ _ _ _ h.out, bytes_set], (heap_setCell_other _ _ _ _ (by show w.heap.size ≠ B; omega)).trans h.zero, h.below.setCell (by show _ ≤ B; omega) _, h.lo, h.ne⟩
end
theorem add_turned (a b : List Int) : Sha.add a b = Sha.add b a := by
  unfold Sha.add
  apply List.map_congr_left
  intro i _
  rw [Int.add_comm]
end Go.Proofs.Ytbdnhoddkdiogaa
