/- Slices of bytes: what an argument holds, what the call owns, an append of bytes. No program in sight. -/
import Derived.WalkKit
import Derived.Laws.OwnMore
import Derived.OwnWalk
import Derived.Deep.MidRow
import Derived.Test.YtbdnhoddkdiogaaShQ
import Derived.Test.YtbdnhoddkdiogaaShL
set_option linter.unusedSimpArgs false
set_option linter.unusedVariables false
namespace Go.Proofs.Ytbdnhoddkdiogaa
open Go.RowKit

/-- The value is a slice whose bytes are these; or nil. -/
def HoldsB (w : World) (v : Value) (xs : List Int) : Prop :=
  ((∃ a c, v = .slice a 0 c) ∧ xs = []) ∨ ∃ g off cap, v = .slice (some ⟨g, off, none⟩) xs.length cap ∧ xs.length ≤ cap ∧ cap ≤ 9223372036854775807 ∧ xs.length ≤ 140737488351232 ∧ g < w.heap.size ∧
    ∀ i, i < xs.length → w.cell? ⟨g, off + i, none⟩ = some (.int .u8 (xs.getD i 0))

/-- The value is a slice of the call's own, whose bytes are these. -/
def OwnB (E base : Nat) (w : World) (v : Value) (xs : List Int) : Prop := w.ownsRow base E 1 v xs.length (xs.map (Value.int .u8))

theorem u8_one (xs : List Int) : ∀ u ∈ xs.map (Value.int .u8), u.oneCell' = true := by
  intro u hu
  simp only [List.mem_map] at hu
  obtain ⟨a, _, rfl⟩ := hu
  rfl

theorem wpList_append_u8 {P : Program} (w : World) {ops : Array Oper} {rest : List Oper} {o : Oper} {a : Act} {Q : Exit → Act → World → Prop} (hgd : o.guard = none) (s x : Operand) (t : TypeId)
    (ho : o.op = .call { callee := .builtin .append, args := #[s, x], argTypes := #[t, t] })
    (base : Nat) (e : TypeId) (ht : P.underlying t = some (.slice e)) (hi : ∃ i, P.info? e = some i ∧ i.zero = some (.int .u8 0) ∧ i.size = 1 ∧ i.bytes = 1)
    (v : Value) (xs : List Int) (hs : a.eval s = v) (hown : OwnB e base w v xs)
    (g off c : Nat) (news : List Int) (hx : a.eval x = .slice (some ⟨g, off, none⟩) news.length c) (hnews : ∀ j, j < news.length → w.cell? ⟨g, off + j, none⟩ = some (.int .u8 (news.getD j 0)))
    (hn : xs.length + news.length ≤ 140737488351232) (hbase : base ≤ w.heap.size)
    (h : ∀ v' w', OwnB e base w' v' (xs ++ news) → w.grownBy w' v.ownBlock → (v' = .slice none 0 0 ↔ v = .slice none 0 0 ∧ news.length = 0) → wpList P ops Q rest (a.put o.dst v') w') : wpList P ops Q (o :: rest) a w := by
  obtain ⟨i, hi, hz0, hz1, hz2⟩ := hi
  refine wpList_append_own w hgd s x t ho base e i (.int .u8 0) 1 1 ht hi hz0 hz1 hz2 rfl (by decide) v xs.length (xs.map (Value.int .u8)) hs hown ⟨g, off, none⟩ news.length c (news.map (Value.int .u8)) hx
    (by simp) ?_ (u8_one _) (by unfold maxLen; omega) (by omega) hbase ?_
  · intro j u hj
    rw [List.getElem?_map] at hj
    cases hg : news[j]? with
    | none => rw [hg] at hj; simp at hj
    | some y =>
      rw [hg] at hj
      simp only [Option.map_some, Option.some.injEq] at hj
      obtain ⟨hlt, hy⟩ := List.getElem?_eq_some_iff.1 hg
      have := hnews j hlt
      rw [List.getD_eq_getElem?_getD, hg] at this
      rw [← hj]
      have hy' : (⟨g, off, none⟩ : Addr).add j = ⟨g, off + j, none⟩ := by
        by_cases h0 : j = 0
        · subst h0; simp [Addr.add]
        · simp [Addr.add, h0]
      rw [hy']
      simpa using this
  · intro v' w' h1 h2 h3
    refine h v' w' ?_ h2 h3
    unfold OwnB
    rw [List.length_append, List.map_append]
    exact h1

/-- An append of nothing, wherever that lies. -/
theorem wpList_append_u8_0 {P : Program} (w : World) {ops : Array Oper} {rest : List Oper} {o : Oper} {a : Act} {Q : Exit → Act → World → Prop} (hgd : o.guard = none) (s x : Operand) (t : TypeId)
    (ho : o.op = .call { callee := .builtin .append, args := #[s, x], argTypes := #[t, t] })
    (base : Nat) (e : TypeId) (ht : P.underlying t = some (.slice e)) (hi : ∃ i, P.info? e = some i ∧ i.zero = some (.int .u8 0) ∧ i.size = 1 ∧ i.bytes = 1)
    (v : Value) (xs : List Int) (hs : a.eval s = v) (hown : OwnB e base w v xs)
    (A : Addr) (c : Nat) (hx : a.eval x = .slice (some A) 0 c)
    (hn : xs.length ≤ 140737488351232) (hbase : base ≤ w.heap.size)
    (h : ∀ v' w', OwnB e base w' v' xs → w.grownBy w' v.ownBlock → (v' = .slice none 0 0 ↔ v = .slice none 0 0) → wpList P ops Q rest (a.put o.dst v') w') : wpList P ops Q (o :: rest) a w := by
  obtain ⟨i, hi, hz0, hz1, hz2⟩ := hi
  refine wpList_append_own w hgd s x t ho base e i (.int .u8 0) 1 1 ht hi hz0 hz1 hz2 rfl (by decide) v xs.length (xs.map (Value.int .u8)) hs hown A 0 c [] hx
    rfl (fun j u hj => by simp at hj) (by simp) (by unfold maxLen; omega) (by omega) hbase fun v' w' h1 h2 h3 => ?_
  refine h v' w' ?_ h2 (by simpa using h3)
  unfold OwnB
  simpa using h1
theorem HoldsB.below {w w' : World} {v : Value} {xs : List Int} (h : HoldsB w v xs) (hb : Below w.heap.size w w') : HoldsB w' v xs := by
  rcases h with h | ⟨g, off, cap, h1, h2, h3, h4, h5, h6⟩
  · exact .inl h
  · exact .inr ⟨g, off, cap, h1, h2, h3, h4, Nat.lt_of_lt_of_le h5 hb.size, fun i hi => (hb.cell (by exact h5)).trans (h6 i hi)⟩
theorem HoldsB.alloc {w : World} {v : Value} {xs : List Int} (h : HoldsB w v xs) (o : Obj) : HoldsB (w.alloc o) v xs :=
  h.below ((Below.refl _ _).alloc (Nat.le_refl _) _)
theorem HoldsB.shape {w : World} {v : Value} {xs : List Int} (h : HoldsB w v xs) : ∃ a cap, v = .slice a xs.length cap := by
  rcases h with ⟨⟨a, c, rfl⟩, rfl⟩ | ⟨g, off, cap, h1, _⟩
  · exact ⟨a, c, rfl⟩
  · exact ⟨_, _, h1⟩
/-- A slice that the call builds, above one block of its own that stays as it was made. -/
structure OfRel (E T : Nat) (zs : Array Value) (w wr : World) (v : Value) (xs : List Int) : Prop where
  own : OwnB E (w.heap.size + 1) wr v xs
  cell : wr.heap[w.heap.size]? = some (.cells zs T (0, 0))
  below : Below w.heap.size w wr
theorem OwnB.mono {E base base' : Nat} {w : World} {v : Value} {xs : List Int} (h : OwnB E base w v xs) (hb : base' ≤ base) : OwnB E base' w v xs := by
  unfold OwnB World.ownsRow at *
  refine ⟨h.1, ?_⟩
  rcases h.2 with h' | ⟨g, cap, cur, h1, h2, h3⟩
  · exact .inl h'
  · exact .inr ⟨g, cap, cur, h1, Nat.le_trans hb h2, h3⟩
theorem OwnB.alloc {E base : Nat} {w : World} {v : Value} {xs : List Int} (h : OwnB E base w v xs) (o : Obj) : OwnB E base (w.alloc o) v xs := World.ownsRow.alloc h o
theorem OwnB.shape {E base : Nat} {w : World} {v : Value} {xs : List Int} (h : OwnB E base w v xs) : ∃ a cap, v = .slice a xs.length cap := by
  rcases h.2 with ⟨rfl, h0⟩ | ⟨g, cap, cur, h1, _⟩
  · exact ⟨none, 0, by rw [h0]⟩
  · exact ⟨_, _, h1⟩
theorem OfRel.step {E T : Nat} {zs : Array Value} {w wr w' : World} {v v' : Value} {xs ys : List Int} (h : OfRel E T zs w wr v xs) (o : Obj) (hown : OwnB E (w.heap.size + 1) w' v' ys)
    (hg : (wr.alloc o).grownBy w' v.ownBlock) : OfRel E T zs w w' v' ys := by
  have hlt : w.heap.size < wr.heap.size := by
    rcases Nat.lt_or_ge w.heap.size wr.heap.size with h' | h'
    · exact h'
    · have := h.cell
      rw [Array.getElem?_eq_none h'] at this
      simp at this
  have hne : ∀ k, v.ownBlock = some k → w.heap.size + 1 ≤ k := fun k hk => (World.ownsRow.lt h.own k hk).1
  refine ⟨hown, ?_, ?_⟩
  · rw [hg.block _ (by simp; omega) (fun e => by have := hne _ e.symm; omega), Below.heap_alloc _ _ _ hlt]
    exact h.cell
  · exact (h.below.alloc (by omega) o).grown hg (by simp; omega) (fun k hk => by have := hne k hk; omega)
theorem OfRel.lt {E T : Nat} {zs : Array Value} {w wr : World} {v : Value} {xs : List Int} (h : OfRel E T zs w wr v xs) : w.heap.size < wr.heap.size := by
  rcases Nat.lt_or_ge w.heap.size wr.heap.size with h' | h'
  · exact h'
  · have := h.cell
    rw [Array.getElem?_eq_none h'] at this
    simp at this
/-- What is owned lies in one block, and reads as it is. -/
theorem OwnB.reads {E base : Nat} {w : World} {v : Value} {xs : List Int} (h : OwnB E base w v xs) (h0 : 0 < xs.length) :
    ∃ g cap, v = .slice (some ⟨g, 0, none⟩) xs.length cap ∧ base ≤ g ∧ g < w.heap.size ∧ xs.length ≤ cap ∧ cap ≤ 9223372036854775807 ∧ ∀ i, i < xs.length → w.cell? ⟨g, i, none⟩ = some (.int .u8 (xs.getD i 0)) := by
  have h' := h
  rcases h.2 with ⟨_, h1⟩ | ⟨g, cap, cur, rfl, h2, h3, h4, h5, h6, h7⟩
  · omega
  · refine ⟨g, cap, rfl, h2, (World.ownsRow.lt h' g rfl).2, h4, h5, fun i hi => ?_⟩
    rw [World.ownsRow.cellAt h' i (by omega), List.getElem?_map, List.getElem?_eq_getElem hi, List.getD_eq_getElem?_getD, List.getElem?_eq_getElem hi]
    rfl
/-- What the call owns is held, too. -/
theorem OwnB.holds {E base : Nat} {w : World} {v : Value} {xs : List Int} (h : OwnB E base w v xs) (hl : xs.length ≤ 140737488351232) (hn : xs = [] → v = .slice none 0 0) : HoldsB w v xs := by
  by_cases h0 : 0 < xs.length
  · obtain ⟨g, cap, rfl, _, h2, h3, h4, h5⟩ := h.reads h0
    exact .inr ⟨g, 0, cap, rfl, h3, h4, hl, h2, fun i hi => by rw [Nat.zero_add]; exact h5 i hi⟩
  · have hx : xs = [] := List.eq_nil_of_length_eq_zero (by omega)
    exact .inl ⟨⟨_, _, hn hx⟩, hx⟩
theorem OfRel.past {E T : Nat} {zs : Array Value} {w wr w' : World} {v : Value} {xs : List Int} (h : OfRel E T zs w wr v xs) (hb : Below wr.heap.size wr w') : OfRel E T zs w w' v xs := by
  refine ⟨World.ownsRow.kept h.own ⟨hb.os, hb.tape, hb.output, hb.size, fun k hk _ => hb.block k hk⟩ (row := none) ?_, (hb.block _ h.lt).trans h.cell, h.below.trans (hb.mono (by have := h.lt; omega))⟩
  cases hv : v.ownBlock with
  | none => exact .inl rfl
  | some k => exact .inr (by simp)
theorem rangeAt_block {w : World} {b : Nat} {C : Array Value} {t : TypeId} {fr : Nat × Nat} (hb : w.heap[b]? = some (.cells C t fr)) : w.rangeAt b 0 C.toList := fun j v hv => by
  rw [cell_of_row w b (0 + j) C t fr hb]
  simpa using hv
theorem there_block {w : World} {b : Nat} {C : Array Value} {t : TypeId} (hb : w.heap[b]? = some (.cells C t (0, 0))) (n : Nat) (hn : n ≤ C.size) : w.there b 0 n := fun j hj => by
  rw [cell_of_row w b (0 + j) C t _ hb]
  refine ⟨by simp; omega, frozen_of_row w b (0 + j) C t hb⟩
theorem of_length_eight {l : List Int} (h : l.length = 8) : ∃ a b c d e f g x, l = [a, b, c, d, e, f, g, x] := by
  match l, h with
  | [a, b, c, d, e, f, g, x], _ => exact ⟨a, b, c, d, e, f, g, x, rfl⟩
/-- Where the blocks of a digest's loop stand: the text's, the words', the constants', the result's. -/
structure BlockRel (T5 T6 T2 : Nat) (rs : List Int) (w : World) (g H : Nat) (t : List Int) (wr : World) (hs : List Int) : Prop where
  text : ∀ i, i < t.length → wr.cell? ⟨g, i, none⟩ = some (.int .u8 (t.getD i 0))
  h5 : wr.heap[H]? = some (.cells (Sha.words hs) T5 (0, 0))
  h6 : wr.heap[H + 1]? = some (.cells (Sha.words rs) T6 (0, 0))
  cell : wr.heap[w.heap.size]? = some (.cells (Sha.bytes (List.replicate 32 0)) T2 (0, 0))
  below : Below w.heap.size w wr
  lo : w.heap.size < g
  hi : g < H
  size : H + 1 < wr.heap.size
section
variable {T5 T6 T2 : Nat} {rs : List Int} {w wr w' : World} {g H : Nat} {t hs : List Int}
theorem BlockRel.past (h : BlockRel T5 T6 T2 rs w g H t wr hs) (hb : Below wr.heap.size wr w') : BlockRel T5 T6 T2 rs w g H t w' hs :=
  ⟨fun i hi => (hb.cell (by have := h.hi; have := h.size; show g < _; omega)).trans (h.text i hi), (hb.block _ (by have := h.size; omega)).trans h.h5, (hb.block _ h.size).trans h.h6,
    (hb.block _ (by have := h.lo; have := h.hi; have := h.size; omega)).trans h.cell, h.below.trans (hb.mono h.below.size), h.lo, h.hi, Nat.lt_of_lt_of_le h.size hb.size⟩
theorem BlockRel.drew (h : BlockRel T5 T6 T2 rs w g H t wr hs) : BlockRel T5 T6 T2 rs w g H t wr.drew hs := h.past (Below.refl _ _).drew
theorem BlockRel.row (h : BlockRel T5 T6 T2 rs w g H t wr hs) (hs' : List Int) : BlockRel T5 T6 T2 rs w g H t (wr.setRow H (Sha.words hs')) hs' := by
  have h1 := h.lo
  have h2 := h.hi
  refine ⟨fun i hi => ?_, setRow_heap _ _ _ _ _ _ h.h5, (setRow_other _ _ _ _ (by omega)).trans h.h6, (setRow_other _ _ _ _ (by omega)).trans h.cell, h.below.trans ⟨rfl, rfl, rfl, by simp, fun k hk => setRow_other _ H k _ (by omega)⟩, h1, h2, by simpa using h.size⟩
  rw [World.cell?_of_block (w := wr) (setRow_other _ _ _ _ (by show g ≠ H; omega))]
  exact h.text i hi
theorem BlockRel.all (h : BlockRel T5 T6 T2 rs w g H t wr hs) (h8 : hs.length = 8) : BlockRel T5 T6 T2 rs w g H t wr hs ∧ wr.rangeAt H 0 (Sha.words hs).toList ∧ wr.rangeAt (H + 1) 0 (Sha.words rs).toList ∧ wr.there H 0 8 :=
  ⟨h, rangeAt_block h.h5, rangeAt_block h.h6, there_block h.h5 8 (by rw [Sha.words_size, h8]; exact Nat.le_refl _)⟩
theorem BlockRel.cellAt (h : BlockRel T5 T6 T2 rs w g H t wr hs) (i : Nat) (hi : i < hs.length) : wr.cell? ⟨H, i, none⟩ = some (.int .u32 (hs.getD i 0)) := by
  rw [cell_of_row wr H i _ _ _ h.h5, Sha.words_get hs i hi]
theorem BlockRel.free (h : BlockRel T5 T6 T2 rs w g H t wr hs) (i : Nat) : wr.frozen? ⟨H, i, none⟩ = false := frozen_of_row wr H i _ _ h.h5
theorem BlockRel.set (h : BlockRel T5 T6 T2 rs w g H t wr hs) (i : Nat) (v : Int) : BlockRel T5 T6 T2 rs w g H t (wr.setCell ⟨H, i, none⟩ (.int .u32 v)) (hs.set i v) := by
  have h1 := h.lo
  have h2 := h.hi
  refine ⟨fun j hj => ?_, by rw [heap_setCell_same _ _ _ _ _ _ h.h5, Sha.words_set], (heap_setCell_other _ _ _ _ (by show _ ≠ H; omega)).trans h.h6, (heap_setCell_other _ _ _ _ (by show _ ≠ H; omega)).trans h.cell, h.below.setCell (by show _ ≤ H; omega) _, h1, h2, by simpa using h.size⟩
  rw [World.cell?_of_block (w := wr) (heap_setCell_other _ _ _ _ (by show g ≠ H; omega))]
  exact h.text j hj
theorem BlockRel.all8 {a0 a1 a2 a3 a4 a5 a6 a7 : Int} {l6 : List Value} (h : BlockRel T5 T6 T2 rs w g H t wr [a0, a1, a2, a3, a4, a5, a6, a7]) (hl6 : l6 = (Sha.words rs).toList) :
    BlockRel T5 T6 T2 rs w g H t wr [a0, a1, a2, a3, a4, a5, a6, a7] ∧ wr.rangeAt (H + 1) 0 l6 ∧
    wr.cell? ⟨H, 0, none⟩ = some (.int .u32 a0) ∧ wr.cell? ⟨H, 1, none⟩ = some (.int .u32 a1) ∧ wr.cell? ⟨H, 2, none⟩ = some (.int .u32 a2) ∧ wr.cell? ⟨H, 3, none⟩ = some (.int .u32 a3) ∧
    wr.cell? ⟨H, 4, none⟩ = some (.int .u32 a4) ∧ wr.cell? ⟨H, 5, none⟩ = some (.int .u32 a5) ∧ wr.cell? ⟨H, 6, none⟩ = some (.int .u32 a6) ∧ wr.cell? ⟨H, 7, none⟩ = some (.int .u32 a7) ∧
    wr.frozen? ⟨H, 0, none⟩ = false ∧ wr.frozen? ⟨H, 1, none⟩ = false ∧ wr.frozen? ⟨H, 2, none⟩ = false ∧ wr.frozen? ⟨H, 3, none⟩ = false ∧
    wr.frozen? ⟨H, 4, none⟩ = false ∧ wr.frozen? ⟨H, 5, none⟩ = false ∧ wr.frozen? ⟨H, 6, none⟩ = false ∧ wr.frozen? ⟨H, 7, none⟩ = false :=
  ⟨h, hl6 ▸ rangeAt_block h.h6, h.cellAt 0 (by simp), h.cellAt 1 (by simp), h.cellAt 2 (by simp), h.cellAt 3 (by simp), h.cellAt 4 (by simp), h.cellAt 5 (by simp), h.cellAt 6 (by simp), h.cellAt 7 (by simp),
    h.free 0, h.free 1, h.free 2, h.free 3, h.free 4, h.free 5, h.free 6, h.free 7⟩
end
/-- Block B's cells are these bytes, block Z's are zs; below the call's own blocks all is as it was. -/
structure ArrB (T : Nat) (zs : Array Value) (w wr : World) (Z B : Nat) (l : List Int) : Prop where
  heap : wr.heap[B]? = some (.cells (Sha.bytes l) T (0, 0))
  zero : wr.heap[Z]? = some (.cells zs T (0, 0))
  ne : Z ≠ B
  below : Below w.heap.size w wr
  le : w.heap.size ≤ B
section
variable {T : Nat} {zs : Array Value} {w wr : World} {Z B : Nat} {l : List Int}
theorem bytes_get (l : List Int) (i : Nat) (h : i < l.length) : (Sha.bytes l)[i]? = some (.int .u8 (l.getD i 0)) := by
  simp [Sha.bytes, h]
theorem bytes_set (l : List Int) (i : Nat) (v : Int) : (Sha.bytes l).setIfInBounds i (.int .u8 v) = Sha.bytes (l.set i v) := by
  simp [Sha.bytes, List.map_set]
theorem ArrB.cell (h : ArrB T zs w wr Z B l) (i : Nat) (hi : i < l.length) : wr.cell? ⟨B, i, none⟩ = some (.int .u8 (l.getD i 0)) := by
  rw [cell_of_row wr B i _ _ _ h.heap, bytes_get l i hi]
theorem ArrB.frozen (h : ArrB T zs w wr Z B l) (i : Nat) : wr.frozen? ⟨B, i, none⟩ = false := frozen_of_row wr B i _ _ h.heap
theorem ArrB.set (h : ArrB T zs w wr Z B l) (i : Nat) (v : Int) : ArrB T zs w (wr.setCell ⟨B, i, none⟩ (.int .u8 v)) Z B (l.set i v) :=
  ⟨by rw [heap_setCell_same _ _ _ _ _ _ h.heap, bytes_set], by rw [heap_setCell_other _ _ _ _ h.ne]; exact h.zero, h.ne, h.below.setCell h.le _, h.le⟩
end
end Go.Proofs.Ytbdnhoddkdiogaa
