/- Rows of whole numbers of the call's own: read, appended to, two at once. No program in sight. -/
import Derived.Test.YtbdnhoddkdiogaaShB
import Derived.Maps.AppendAt
import Derived.Laws.AppendOwnNone
set_option linter.unusedSimpArgs false
set_option linter.unusedVariables false
namespace Go.Proofs.Ytbdnhoddkdiogaa
open Go.RowKit

/-- The value is a slice of the call's own, whose numbers are these. -/
def OwnK (k : IntKind) (E base : Nat) (w : World) (v : Value) (xs : List Int) : Prop := w.ownsRow base E 1 v xs.length (xs.map (Value.int k))

theorem num_one (k : IntKind) (xs : List Int) : ∀ u ∈ xs.map (Value.int k), u.oneCell' = true := by
  intro u hu
  simp only [List.mem_map] at hu
  obtain ⟨a, _, rfl⟩ := hu
  rfl

theorem wpList_append_k {P : Program} (w : World) {ops : Array Oper} {rest : List Oper} {o : Oper} {a : Act} {Q : Exit → Act → World → Prop} (hgd : o.guard = none) (s x : Operand) (t : TypeId)
    (ho : o.op = .call { callee := .builtin .append, args := #[s, x], argTypes := #[t, t] })
    (k : IntKind) (base : Nat) (e : TypeId) (bytes : Nat) (ht : P.underlying t = some (.slice e)) (hi : ∃ i, P.info? e = some i ∧ i.zero = some (.int k 0) ∧ i.size = 1 ∧ i.bytes = bytes)
    (v : Value) (xs : List Int) (hs : a.eval s = v) (hown : OwnK k e base w v xs)
    (g off c : Nat) (news : List Int) (hx : a.eval x = .slice (some ⟨g, off, none⟩) news.length c) (hnews : ∀ j, j < news.length → w.cell? ⟨g, off + j, none⟩ = some (.int k (news.getD j 0)))
    (hn : (xs.length + news.length) * bytes ≤ 140737488351232) (hn2 : xs.length + news.length ≤ 140737488351232) (hbase : base ≤ w.heap.size)
    (h : ∀ v' w', OwnK k e base w' v' (xs ++ news) → w.grownBy w' v.ownBlock → (v'.ownBlock = v.ownBlock ∨ v'.ownBlock = some w.heap.size) → wpList P ops Q rest (a.put o.dst v') w') : wpList P ops Q (o :: rest) a w := by
  obtain ⟨i, hi, hz0, hz1, hz2⟩ := hi
  refine wpList_append_own_at w hgd s x t ho base e i (.int k 0) 1 bytes ht hi hz0 hz1 hz2 rfl (by decide) v xs.length (xs.map (Value.int k)) hs hown ⟨g, off, none⟩ news.length c (news.map (Value.int k)) hx
    (by simp) ?_ (num_one k _) (by unfold maxLen; omega) (by omega) hbase ?_
  · intro j u hj
    rw [List.getElem?_map] at hj
    cases hg : news[j]? with
    | none => rw [hg] at hj; simp at hj
    | some y =>
      rw [hg] at hj
      simp only [Option.map_some, Option.some.injEq] at hj
      obtain ⟨hlt, hy⟩ := List.getElem?_eq_some_iff.1 hg
      have := hnews j hlt
      rw [List.getD_eq_getElem?_getD, hg] at this
      rw [← hj]
      have hy' : (⟨g, off, none⟩ : Addr).add j = ⟨g, off + j, none⟩ := by
        by_cases h0 : j = 0
        · subst h0; simp [Addr.add]
        · simp [Addr.add, h0]
      rw [hy']
      simpa using this
  · intro v' w' h1 h2 _ h4
    refine h v' w' ?_ h2 h4
    unfold OwnK
    rw [List.length_append, List.map_append]
    exact h1

/-- The same as one step; what was read stays as it was. -/
theorem step_append_k {P : Program} (w : World) {o : Oper} {a : Act} {K : Act → World → Prop} {Q : Exit → Act → World → Prop} {ops : Array Oper} {X : Prop} (hg : Region.wanted o (yielded ops a.tmps) = true) (s x : Operand) (t : TypeId)
    (ho : o.op = .call { callee := .builtin .append, args := #[s, x], argTypes := #[t, t] })
    (k : IntKind) (base : Nat) (e : TypeId) (bytes : Nat) (ht : P.underlying t = some (.slice e)) (hi : ∃ i, P.info? e = some i ∧ i.zero = some (.int k 0) ∧ i.size = 1 ∧ i.bytes = bytes)
    (v : Value) (xs : List Int) (hs : a.eval s = v) (hown : OwnK k e base w v xs)
    (g off c : Nat) (news : List Int) (hx : a.eval x = .slice (some ⟨g, off, none⟩) news.length c) (hnews : ∀ j, j < news.length → w.cell? ⟨g, off + j, none⟩ = some (.int k (news.getD j 0)))
    (hn : (xs.length + news.length) * bytes ≤ 140737488351232) (hn2 : xs.length + news.length ≤ 140737488351232) (hbase : base ≤ w.heap.size) (hne : 0 < news.length)
    (h : ∀ v' w', OwnK k e base w' v' (xs ++ news) → w.grownBy w' v.ownBlock → (∀ g0 c0, v = .slice (some ⟨g0, 0, none⟩) xs.length c0 → ∀ j, j < xs.length → w'.cell? ⟨g0, j, none⟩ = some (.int k (xs.getD j 0))) → K (a.put o.dst v') w') :
    if Region.wanted o (yielded ops a.tmps) = true then Oper.wp P o a w K Q else X := by
  obtain ⟨i, hi, hz0, hz1, hz2⟩ := hi
  have hnews' : ∀ j u, (news.map (Value.int k))[j]? = some u → w.cell? ((⟨g, off, none⟩ : Addr).add j) = some u := by
    intro j u hj
    rw [List.getElem?_map] at hj
    cases hg : news[j]? with
    | none => rw [hg] at hj; simp at hj
    | some y =>
      rw [hg] at hj
      simp only [Option.map_some, Option.some.injEq] at hj
      obtain ⟨hlt, hy⟩ := List.getElem?_eq_some_iff.1 hg
      have := hnews j hlt
      rw [List.getD_eq_getElem?_getD, hg] at this
      rw [← hj]
      have hy' : (⟨g, off, none⟩ : Addr).add j = ⟨g, off + j, none⟩ := by
        by_cases h0 : j = 0
        · subst h0; simp [Addr.add]
        · simp [Addr.add, h0]
      rw [hy']
      simpa using this
  obtain ⟨v', w', hr, h2, h3, _, h5⟩ := run_append_own_at (P := P) w base t o.type e i (.int k 0) 1 bytes ht hi hz0 hz1 hz2 rfl (by decide) v xs.length (xs.map (Value.int k)) hown ⟨g, off, none⟩ news.length c (news.map (Value.int k))
    (by simp) hnews' (num_one k _) (by unfold maxLen; omega) (by omega) hbase
  have h2' : OwnK k e base w' v' (xs ++ news) := by
    unfold OwnK
    rw [List.length_append, List.map_append]
    exact h2
  have hkeep : ∀ g0 c0, v = .slice (some ⟨g0, 0, none⟩) xs.length c0 → ∀ j, j < xs.length → w'.cell? ⟨g0, j, none⟩ = some (.int k (xs.getD j 0)) := by
    intro g0 c0 hv j hj
    subst hv
    have hold : ∀ j, j < xs.length → w.cell? ⟨g0, j, none⟩ = some (.int k (xs.getD j 0)) := fun j hj => by
      rw [World.ownsRow.cellAt hown j (by omega), List.getElem?_map, List.getElem?_eq_getElem hj, List.getD_eq_getElem?_getD, List.getElem?_eq_getElem hj]
      rfl
    rcases h5 with h5 | h5
    · obtain ⟨a1, c1, hv1⟩ : ∃ a1 c1, v' = .slice a1 (xs ++ news).length c1 := by
        rcases h2'.2 with ⟨rfl, h0⟩ | ⟨g, cap, cur, h1, _⟩
        · exact ⟨none, 0, by rw [h0]⟩
        · exact ⟨_, _, h1⟩
      rcases h2'.2 with ⟨rfl, h0⟩ | ⟨g1, cap1, cur1, rfl, _⟩
      · rw [List.length_append] at h0; omega
      · have hg1 : g1 = g0 := by simpa [Value.ownBlock] using h5
        subst hg1
        have := World.ownsRow.cellAt h2' j (by rw [List.length_append]; omega)
        rw [this, List.getElem?_map, List.getElem?_append_left hj, List.getElem?_eq_getElem hj, List.getD_eq_getElem?_getD, List.getElem?_eq_getElem hj]
        rfl
    · by_cases hroom : c0 < xs.length + news.length
      · have hb : i.bytes = bytes := hz2
        have hr2 := run_append_grow (P := P) w t o.type e i (.int k 0) ht hi hz0 ⟨g0, 0, none⟩ xs.length c0 (xs.map (Value.int k)) (by simp [hz1]) (fun j u hj => by
          have hjl : j < xs.length := by
            rcases Nat.lt_or_ge j xs.length with h' | h'
            · exact h'
            · rw [List.getElem?_eq_none (by simpa using h')] at hj; cases hj
          have hy' : (⟨g0, 0, none⟩ : Addr).add j = ⟨g0, j, none⟩ := by
            by_cases h0 : j = 0
            · subst h0; simp [Addr.add]
            · simp [Addr.add, h0]
          rw [hy', hold j hjl]
          rw [List.getElem?_map, List.getElem?_eq_getElem hjl] at hj
          rw [List.getD_eq_getElem?_getD, List.getElem?_eq_getElem hjl]
          simpa using hj) ⟨g, off, none⟩ news.length c (news.map (Value.int k)) (by simp [hz1]) hnews' hroom (by omega) (growslice_fits hroom (by rw [hb]; omega))
        rw [hr2] at hr
        simp only [Result.ok.injEq] at hr
        obtain ⟨_, rfl⟩ := hr
        have hlt := (World.ownsRow.lt hown g0 rfl).2
        exact (World.cell?_of_block (w := w) (Below.heap_alloc w.drew _ g0 hlt)).trans (hold j hj)
      · exfalso
        have h6 := World.ownsRow.lt h2' _ h5
        rcases hown.2 with ⟨h7, _⟩ | ⟨g1, cap, cur, he, hbg, hgg, hnc, hcm, hcs, htake⟩
        · simp at h7
        · simp only [Value.slice.injEq, Option.some.injEq, Addr.mk.injEq] at he
          obtain ⟨⟨rfl, _⟩, _, rfl⟩ := he
          have hr2 := run_append_room (P := P) w t o.type e i ht hi g0 xs.length c0 cur hgg ⟨g, off, none⟩ news.length c (news.map (Value.int k)) (by simp [hz1]) hnews' (num_one k _) (by omega) (by simp [hz1]; omega)
          rw [hr2] at hr
          simp only [Result.ok.injEq] at hr
          obtain ⟨rfl, _⟩ := hr
          simp [Value.ownBlock] at h5
          have := (World.ownsRow.lt hown g0 rfl).2
          omega
  rw [if_pos hg]
  unfold Oper.wp execOp
  simp only [ho, resolve, invoke, builtin, Sem.run_bind, Sem.run_pure, Result.andThen_ok, List.map_toArray, List.map_cons, List.map_nil, hs, hx, hr]
  exact h v' w' h2' h3 hkeep

section
variable {k : IntKind} {E base base' : Nat} {w w' : World} {v : Value} {xs : List Int}
theorem OwnK.mono (h : OwnK k E base w v xs) (hb : base' ≤ base) : OwnK k E base' w v xs := by
  unfold OwnK World.ownsRow at *
  refine ⟨h.1, ?_⟩
  rcases h.2 with h' | ⟨g, cap, cur, h1, h2, h3⟩
  · exact .inl h'
  · exact .inr ⟨g, cap, cur, h1, Nat.le_trans hb h2, h3⟩
theorem OwnK.alloc (h : OwnK k E base w v xs) (o : Obj) : OwnK k E base (w.alloc o) v xs := World.ownsRow.alloc h o
theorem OwnK.shape (h : OwnK k E base w v xs) : ∃ a cap, v = .slice a xs.length cap := by
  rcases h.2 with ⟨rfl, h0⟩ | ⟨g, cap, cur, h1, _⟩
  · exact ⟨none, 0, by rw [h0]⟩
  · exact ⟨_, _, h1⟩
theorem OwnK.nil (k : IntKind) (E base : Nat) (w : World) : OwnK k E base w (.slice none 0 0) [] := ⟨rfl, .inl ⟨rfl, rfl⟩⟩
theorem OwnK.reads (h : OwnK k E base w v xs) (h0 : 0 < xs.length) :
    ∃ g cap, v = .slice (some ⟨g, 0, none⟩) xs.length cap ∧ base ≤ g ∧ g < w.heap.size ∧ xs.length ≤ cap ∧ cap ≤ 9223372036854775807 ∧ ∀ i, i < xs.length → w.cell? ⟨g, i, none⟩ = some (.int k (xs.getD i 0)) := by
  have h' := h
  rcases h.2 with ⟨_, h1⟩ | ⟨g, cap, cur, rfl, h2, h3, h4, h5, h6, h7⟩
  · omega
  · refine ⟨g, cap, rfl, h2, (World.ownsRow.lt h' g rfl).2, h4, h5, fun i hi => ?_⟩
    rw [World.ownsRow.cellAt h' i (by omega), List.getElem?_map, List.getElem?_eq_getElem hi, List.getD_eq_getElem?_getD, List.getElem?_eq_getElem hi]
    rfl
/-- What is owned is a whole block, not frozen. -/
theorem OwnK.block (h : OwnK k E base w v xs) (h0 : 0 < xs.length) :
    ∃ g cap cur, v = .slice (some ⟨g, 0, none⟩) xs.length cap ∧ base ≤ g ∧ g < w.heap.size ∧ w.heap[g]? = some (.cells cur E (0, 0)) ∧ ∀ i, i < xs.length → cur[i]? = some (.int k (xs.getD i 0)) := by
  have h' := h
  rcases h.2 with ⟨_, h1⟩ | ⟨g, cap, cur, rfl, h2, h3, h4, h5, h6, h7⟩
  · omega
  · refine ⟨g, cap, cur, rfl, h2, (World.ownsRow.lt h' g rfl).2, h3, fun i hi => ?_⟩
    have := World.ownsRow.cellAt h' i (by omega)
    rw [List.getElem?_map, List.getElem?_eq_getElem hi] at this
    rw [cell_of_row _ _ i _ _ _ h3] at this
    rw [this, List.getD_eq_getElem?_getD, List.getElem?_eq_getElem hi]
    rfl
theorem OwnK.past (h : OwnK k E base w v xs) (hb : Below w.heap.size w w') : OwnK k E base w' v xs := by
  refine World.ownsRow.kept h ⟨hb.os, hb.tape, hb.output, hb.size, fun j hj _ => hb.block j hj⟩ (row := none) ?_
  cases hv : v.ownBlock with
  | none => exact .inl rfl
  | some j => exact .inr (by simp)
end

/-- Two rows, no two of one block; below them all is as it was. -/
structure Rows2 (E : Nat) (w2 wr : World) (v4 v5 : Value) (l4 l5 : List Int) : Prop where
  h4 : OwnK .u32 E w2.heap.size wr v4 l4
  h5 : OwnK .u32 E w2.heap.size wr v5 l5
  ne : ∀ j, v4.ownBlock = some j → v5.ownBlock ≠ some j
  below : Below w2.heap.size w2 wr
section
variable {E : Nat} {w2 wr w' : World} {v4 v5 v' : Value} {l4 l5 ys : List Int}
theorem Rows2.symm (h : Rows2 E w2 wr v4 v5 l4 l5) : Rows2 E w2 wr v5 v4 l5 l4 := ⟨h.h5, h.h4, fun j h1 h2 => h.ne j h2 h1, h.below⟩
theorem Rows2.past (h : Rows2 E w2 wr v4 v5 l4 l5) (hb : Below wr.heap.size wr w') : Rows2 E w2 w' v4 v5 l4 l5 := ⟨h.h4.past hb, h.h5.past hb, h.ne, h.below.trans (hb.mono h.below.size)⟩
theorem Rows2.app (h : Rows2 E w2 wr v4 v5 l4 l5) (o : Obj) (hown : OwnK .u32 E w2.heap.size w' v' ys) (hg : (wr.alloc o).grownBy w' v4.ownBlock) (hat : v'.ownBlock = v4.ownBlock ∨ v'.ownBlock = some (wr.alloc o).heap.size) :
    Rows2 E w2 w' v' v5 ys l5 := by
  have hl5 := h.h5
  have hne : ∀ j, v4.ownBlock = some j → w2.heap.size ≤ j := fun j hj => (World.ownsRow.lt h.h4 j hj).1
  refine ⟨hown, ?_, ?_, (h.below.alloc h.below.size o).grown hg (by simp; have := h.below.size; omega) hne⟩
  · refine World.ownsRow.kept (hl5.alloc o) hg ?_
    cases hv : v5.ownBlock with
    | none => exact .inl rfl
    | some j => exact .inr (fun e => h.ne j e.symm hv)
  · intro j hj hj5
    rcases hat with hat | hat
    · exact h.ne j (hat ▸ hj) hj5
    · have h5 := (World.ownsRow.lt hl5 j hj5).2
      rw [hat] at hj
      simp at hj
      omega
end
/-- An append of what a slice of bytes holds; it may be nil. -/
theorem wpList_append_holds {P : Program} (w : World) {ops : Array Oper} {rest : List Oper} {o : Oper} {a : Act} {Q : Exit → Act → World → Prop} (hgd : o.guard = none) (s x : Operand) (t : TypeId)
    (ho : o.op = .call { callee := .builtin .append, args := #[s, x], argTypes := #[t, t] })
    (base : Nat) (e : TypeId) (ht : P.underlying t = some (.slice e)) (hi : ∃ i, P.info? e = some i ∧ i.zero = some (.int .u8 0) ∧ i.size = 1 ∧ i.bytes = 1)
    (v : Value) (xs : List Int) (hs : a.eval s = v) (hown : OwnK .u8 e base w v xs)
    (vx : Value) (news : List Int) (hx : a.eval x = vx) (hh : HoldsB w vx news)
    (hn : xs.length + news.length ≤ 140737488351232) (hbase : base ≤ w.heap.size)
    (h : ∀ v' w', OwnK .u8 e base w' v' (xs ++ news) → w.grownBy w' v.ownBlock → (v'.ownBlock = v.ownBlock ∨ v'.ownBlock = some w.heap.size) → wpList P ops Q rest (a.put o.dst v') w') : wpList P ops Q (o :: rest) a w := by
  rcases hh with ⟨rfl, rfl⟩ | ⟨g, off, cap, rfl, h1, h2, h3, h4, h5⟩
  · obtain ⟨i, hi, _⟩ := hi
    refine wpList_append_own_none hgd s x t ho base e i 1 ht hi v xs.length _ hs hown hx (h v w ?_ ⟨rfl, rfl, rfl, Nat.le_refl _, fun _ _ _ => rfl⟩ (.inl rfl))
    rw [List.append_nil]; exact hown
  · exact wpList_append_k w hgd s x t ho .u8 base e 1 ht hi v xs hs hown g off cap news hx h5 (by omega) hn hbase h

/-- A row above a world; below it all is as it was there. -/
structure RowK (k : IntKind) (E : Nat) (w2 wr : World) (v : Value) (l : List Int) : Prop where
  own : OwnK k E w2.heap.size wr v l
  below : Below w2.heap.size w2 wr
section
variable {k : IntKind} {E : Nat} {w2 wr w' : World} {v v' : Value} {l ys : List Int}
theorem RowK.past (h : RowK k E w2 wr v l) (hb : Below wr.heap.size wr w') : RowK k E w2 w' v l := ⟨h.own.past hb, h.below.trans (hb.mono h.below.size)⟩
theorem RowK.app (h : RowK k E w2 wr v l) (o : Obj) (hown : OwnK k E w2.heap.size w' v' ys) (hg : (wr.alloc o).grownBy w' v.ownBlock) : RowK k E w2 w' v' ys :=
  ⟨hown, (h.below.alloc h.below.size o).grown hg (by simp; have := h.below.size; omega) (fun j hj => (World.ownsRow.lt h.own j hj).1)⟩
theorem RowK.app0 (h : RowK k E w2 wr v l) (hown : OwnK k E w2.heap.size w' v' ys) (hg : wr.grownBy w' v.ownBlock) : RowK k E w2 w' v' ys :=
  ⟨hown, h.below.grown hg h.below.size (fun j hj => (World.ownsRow.lt h.own j hj).1)⟩
theorem RowK.nil (k : IntKind) (E : Nat) (w : World) : RowK k E w w (.slice none 0 0) [] := ⟨OwnK.nil _ _ _ _, Below.refl _ _⟩
theorem RowK.lit (k : IntKind) (E : Nat) (w : World) (xs : List Int) (h : xs.length ≤ 140737488351232) : RowK k E w (w.alloc (.cells (xs.map (Value.int k)).toArray E)) (.slice (some ⟨w.heap.size, 0, none⟩) xs.length xs.length) xs :=
  ⟨World.ownsRow_lit w _ xs.length (Nat.le_refl _) (by unfold maxLen; omega) (by simp), (Below.refl _ _).alloc (Nat.le_refl _) _⟩
end
end Go.Proofs.Ytbdnhoddkdiogaa
