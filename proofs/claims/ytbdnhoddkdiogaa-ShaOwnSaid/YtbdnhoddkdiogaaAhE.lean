/- AHI, part E: the operations are what the model does: values, memory. -/
import Derived.Test.YtbdnhoddkdiogaaAhD
import Derived.Laws.Slices
import Derived.Laws.MakeOwn
import Derived.Great.BuildSlice
import Derived.Deep.AppendSrc
import Derived.Deep.Upon
set_option linter.unusedSimpArgs false
set_option linter.unusedVariables false
namespace Go.Proofs.Ytbdnhoddkdiogaa
open Go.RowKit

def EnvRep (X : Nat → Prop) (σ : Sg) (s : St) (a : Act) (w : World) (T : Nat → Prop) : Prop := ∀ t x, T t → look s.env t = some x → ∃ v, a.tmps[t]? = some v ∧ RepA w (own X σ s.H) σ x v
/-- What an operation leaves: a value, a heap. -/
def Post (X : Nat → Prop) (σ : Sg) (H : Hp) (w : World) (x : AV) (H' : Hp) (v : Value) (w' : World) : Prop :=
  ∃ σ', RepA w' (own X σ' H') σ' x v ∧ HeapRep X σ' H' w' ∧ Step σ H w σ' H' w'
section
variable {P : Program} {X : Nat → Prop} {σ : Sg} {s : St} {H : Hp} {a : Act} {w : World}
theorem Post.same {x : AV} {v : Value} (h : HeapRep X σ H w) (hr : RepA w (own X σ H) σ x v) : Post X σ H w x H v w := ⟨σ, hr, h, Step.refl _ _ _⟩
theorem LRep_map_v {own : Nat → Prop} {l : List Value} (h : l.all (·.oneCell') = true) : LRep w own σ (l.map .v) (fun k => l[k]?) := fun i c hc => by
  rw [List.getElem?_map] at hc
  obtain ⟨v, hv, rfl⟩ := Option.map_eq_some_iff.1 hc
  exact ⟨v, hv, rfl, List.all_eq_true.1 h v (List.mem_of_getElem? hv)⟩
theorem constAV_rep {own : Nat → Prop} {v : Value} {x : AV} (h : constAV v = some x) : RepA w own σ x v := by
  unfold constAV at h
  split at h
  · cases h; exact ⟨rfl, ‹_›⟩
  · split at h
    · rename_i cs _
      split at h
      · cases h
        rename_i hc
        exact ⟨cs.toList, rfl, by simp [Row.size], LRep_map_v hc⟩
      · cases h
    · cases h
theorem ev_rep {T : Nat → Prop} (he : EnvRep X σ s a w T) {x : Operand} {y : AV} (hT : ∀ t, x = .tmp t → T t) (h : ev s x = some y) : RepA w (own X σ s.H) σ y (a.eval x) := by
  cases x with
  | tmp t =>
    obtain ⟨v, h1, h2⟩ := he t y (hT t rfl) h
    have : a.eval (.tmp t) = v := by simp [Act.eval, Array.getD_eq_getD_getElem?, h1]
    rw [this]; exact h2
  | const v => exact constAV_rep h
  | global g => cases h
  | func f => cases h; exact ⟨rfl, rfl⟩
theorem valRow_rep {own : Nat → Prop} {v : Value} {r : Row} (h : valRow v = some r) : RowRep w own σ r (fun k => v.cells[k]?) ∧ r.size = v.cells.size := by
  unfold valRow at h
  split at h
  · rename_i hc
    cases h
    exact ⟨fun i c hc' => by
      obtain ⟨u, h1, h2⟩ := LRep_map_v (σ := σ) (own := own) (w := w) hc i c hc'
      exact ⟨u, by simpa using h1, h2⟩, by simp [Row.size]⟩
  · cases h
theorem zrow_rep {own : Nat → Prop} {t : TypeId} {r : Row} (h : zrow P t = some r) : ∃ i z, P.info? t = some i ∧ i.zero = some z ∧ RowRep w own σ r (fun k => z.cells[k]?) ∧ r.size = z.cells.size := by
  unfold zrow at h
  split at h
  · cases h
  · rename_i z hz
    obtain ⟨i, hi, hz⟩ := Option.bind_eq_some_iff.1 hz
    refine ⟨i, z, hi, hz, ?_⟩
    split at h
    · cases h
    · rename_i r' hr'
      have hv := valRow_rep (σ := σ) (own := own) (w := w) hr'
      split at h
      · split at h
        · split at h
          · rename_i xs hxs
            cases h
            obtain ⟨h1, h2⟩ := as_rep hv.1 hxs
            exact ⟨h1, h2.symm.trans hv.2⟩
          · cases h; exact hv
        · cases h; exact hv
      · cases h; exact hv
theorem s_alloc (hh : HeapRep X σ H w) {t : TypeId} {r : Row} (h : zrow P t = some r) :
    ∃ v w', (Instr.alloc t true (.tuple #[])).run P w = .ok v w' ∧ Post X σ H w (.c (.ptr H.length 0 1 0)) (H ++ [some r]) v w' := by
  obtain ⟨i, z, hi, hz, h1, h2⟩ := zrow_rep (σ := σ) (own := own X σ H) (w := w) h
  obtain ⟨h3, h4⟩ := hh.alloc z.cells t r (by omega) h1
  refine ⟨.pointer (some ⟨w.heap.size, 0, none⟩), w.alloc (.cells z.cells t), ?_, _, ?_, h3, h4⟩
  · simp [Instr.alloc, zeroValue, typeInfo, hi, hz, newVar, newRow]
  · exact ⟨_, _, _, upd_same _ _ _, rfl⟩
theorem row_rep {own : Nat → Prop} {x : AV} {v : Value} {r : Row} (h : x.row = some r) (hx : RepA w own σ x v) : RowRep w own σ r (fun k => v.cells[k]?) ∧ r.size = v.cells.size := by
  cases x with
  | c c =>
    cases h
    have h1 := Rep.one hx
    have hc : v.cells = #[v] := by cases v <;> first | rfl | cases h1
    rw [hc]
    refine ⟨fun i d hd => ?_, rfl⟩
    cases i with
    | zero => cases hd; exact ⟨v, rfl, hx⟩
    | succ i => simp at hd
  | agg q =>
    cases h
    obtain ⟨vs, rfl, h1, h2⟩ := hx
    exact ⟨RowRep.only (fun j v _ hv => by simpa [Value.cells] using hv) h2, by simp [Value.cells, h1]⟩
  | tup l => cases h
theorem s_box (hh : HeapRep X σ H w) {t : TypeId} {x : AV} {v : Value} {r : Row} (h : x.row = some r) (hx : RepA w (own X σ H) σ x v) :
    ∃ u w', (Instr.box t v).run P w = .ok u w' ∧ Post X σ H w (.c (.ptr H.length 0 1 0)) (H ++ [some r]) u w' := by
  obtain ⟨h1, h2⟩ := row_rep h hx
  obtain ⟨h3, h4⟩ := hh.alloc v.cells t r (by omega) h1
  refine ⟨.pointer (some ⟨w.heap.size, 0, none⟩), w.alloc (.cells v.cells t), ?_, _, ?_, h3, h4⟩
  · simp [Instr.box, newVar, newRow]
  · exact ⟨_, _, _, upd_same _ _ _, rfl⟩
theorem hrow_some {id : Nat} {r : Row} (h : hrow H id = some r) : H[id]? = some (some r) := by
  unfold hrow at h
  split at h
  · cases h; assumption
  · cases h
theorem sure_ptr (b o : Nat) : (Instr.sureAddr (.pointer (some ⟨b, o, none⟩))).run P w = .ok ⟨b, o, none⟩ w := rfl
theorem run_loadAt_plain {t : TypeId} {d : TypeDesc} {b o : Nat} {v : Value} (hu : P.underlying t = some d) (hd : isRowT d = false) (hv : w.cell? ⟨b, o, none⟩ = some v) :
    (Instr.loadAt t (.pointer (some ⟨b, o, none⟩))).run P w = .ok v w := by
  have ha : (isAgg t).run P w = .ok false w := by
    unfold isAgg
    rw [Sem.run_bind, run_underlying hu w]
    cases d <;> simp_all [isRowT]
  simp [Instr.loadAt, Instr.sureAddr, loadVar, Sem.run_bind, ha, load, Sem.run, hv]
theorem run_loadAt_row {own : Nat → Prop} {t : TypeId} {d : TypeDesc} {n b o : Nat} {r : Row} (hu : P.underlying t = some d) (hd : isRowT d = true) (hn : tsz P t = some n) (hr : RowRep w own σ r (fun k => w.cell? ⟨b, o + k, none⟩)) (hs : r.size = n) :
    ∃ v, (Instr.loadAt t (.pointer (some ⟨b, o, none⟩))).run P w = .ok v w ∧ RepA w own σ (.agg r) v := by
  obtain ⟨vs, h1, h2, h3, h4⟩ := hr.list
  refine ⟨_, run_loadAt_mid (P := P) w b o t vs d (fun j v hv => h2 j v hv) hu (by cases d <;> simp_all [isRowT, TypeDesc.isRow]) ?_, vs, rfl, h1, h4⟩
  rw [h1, hs]; exact hn
theorem s_load (hh : HeapRep X σ H w) {t : TypeId} {x r : AV} {y : Value} (h : aload P H t x = some r) (hx : RepA w (own X σ H) σ x y) :
    ∃ v, (Instr.loadAt t y).run P w = .ok v w ∧ RepA w (own X σ H) σ r v := by
  unfold aload at h
  split at h
  · rename_i id i e j
    split at h
    · rename_i q d hq hu
      obtain ⟨b, base, ext, hs, rfl⟩ := hx
      rcases hh.row id q (hrow_some hq) with h0 | ⟨b', base', ext', hs', hb, hle, hcell, hrow⟩
      · rw [h0] at hs; cases hs
      · rw [hs] at hs'; cases hs'
        split at h
        · rename_i hd
          split at h
          · rename_i n hn
            obtain ⟨r', hr', rfl⟩ := Option.map_eq_some_iff.1 h
            obtain ⟨h1, h2, h3⟩ := sub_rep hrow hr'
            exact run_loadAt_row hu hd hn (RowRep.only (fun k v _ hv => by rw [Nat.add_assoc]; exact hv) h1) h2
          · cases h
        · rename_i hd
          obtain ⟨c, hc, rfl⟩ := Option.map_eq_some_iff.1 h
          obtain ⟨v, h1, h2⟩ := at_rep hrow hc
          exact ⟨v, run_loadAt_plain hu (by simpa using hd) h1, h2⟩
    · cases h
  · rename_i t' xs i j
    split at h
    · rename_i d hu
      obtain ⟨b, off, rfl, hb, hlt, hxs⟩ := hx
      have hrow : RowRep w (own X σ H) σ (.ty t' xs) (fun k => w.cell? ⟨b, off + k, none⟩) := fun i x hi => RepD.cells (fun j v hv => by show w.cell? ⟨b, off + (i * t'.sz + j), none⟩ = _; rw [← Nat.add_assoc]; exact hv) (hxs i x hi)
      split at h
      · rename_i hd
        split at h
        · rename_i n hn
          obtain ⟨r', hr', rfl⟩ := Option.map_eq_some_iff.1 h
          obtain ⟨h1, h2, h3⟩ := sub_rep hrow hr'
          exact run_loadAt_row hu hd hn (RowRep.only (fun k v _ hv => by rw [Nat.add_assoc]; exact hv) h1) h2
        · cases h
      · rename_i hd
        obtain ⟨c, hc, rfl⟩ := Option.map_eq_some_iff.1 h
        obtain ⟨v, h1, h2⟩ := at_rep hrow hc
        exact ⟨v, run_loadAt_plain hu (by simpa using hd) h1, h2⟩
    · cases h
  · cases h
theorem setCells_cell (b : Nat) {vs : List Value} {o : Nat} (ht : w.there b o vs.length) (k : Nat) : (w.setCells b o vs).cell? ⟨b, k, none⟩ = if o ≤ k ∧ k < o + vs.length then vs[k - o]? else w.cell? ⟨b, k, none⟩ := by
  by_cases hk : o ≤ k ∧ k < o + vs.length
  · rw [if_pos hk]
    have := World.cell?_setCells_in b vs o w (fun j hj => (ht j hj).1) (k - o) (by omega)
    rw [show o + (k - o) = k by omega] at this
    rw [this, List.getElem?_eq_getElem]
  · rw [if_neg hk]
    exact World.cell?_setCells_out b vs o w _ (fun _ _ => by show k < o ∨ o + vs.length ≤ k; omega)
/-- Cells of a live row are written: the general store. -/
theorem HeapRep.puts (hh : HeapRep X σ H w) {id : Nat} {q q' : Row} {b base ext : Nat} (hid : H[id]? = some (some q)) (hs : σ id = some (b, base, ext)) (o : Nat) (vs : List Value) (hle : o + vs.length ≤ q.size) (hsz : q'.size = q.size)
    (hr : ∀ (ow : Nat → Prop) (w' : World) (g' : Cells), (∀ b, ow b ↔ own X σ H b) → (∀ {c : CV} {v : Value}, Rep w (own X σ H) σ c v → Rep w' ow σ c v) → (∀ {r : Row} {g g' : Cells}, (∀ j v, g j = some v → g' j = some v) → RowRep w (own X σ H) σ r g → RowRep w' ow σ r g') →
      RowRep w' ow σ q (fun k => w.cell? ⟨b, base + k, none⟩) → (∀ k, o ≤ k → k < o + vs.length → g' k = vs[k - o]?) → (∀ k, k < o ∨ o + vs.length ≤ k → g' k = w.cell? ⟨b, base + k, none⟩) → RowRep w' ow σ q' g') :
    w.there b (base + o) vs.length ∧ HeapRep X σ (H.set id (some q')) (w.setCells b (base + o) vs) ∧ Step σ H w σ (H.set id (some q')) (w.setCells b (base + o) vs) := by
  rcases hh.row id q hid with h0 | ⟨b', base', ext', hs', hb, hle', hcell, hrow⟩
  · rw [h0] at hs; cases hs
  · rw [hs] at hs'; cases hs'
    have ht : w.there b (base + o) vs.length := fun j hj => hcell _ (by omega)
    refine ⟨ht, hh.write hid hs (base + o) vs (by omega) (by omega) fun own' ho => ?_⟩
    have hbo : ownB σ H b := ⟨id, q, _, hid, hs⟩
    have hk : Keeps w (own X σ H) (w.setCells b (base + o) vs) own' := ⟨by rw [size_setCells]; exact Nat.le_refl _, fun c hc hno => World.heap_setCells_other w b _ vs hc (fun e => hno (.inl (e ▸ hbo))), fun c hc => .inl ((ho c).1 hc)⟩
    refine hr own' _ _ ho (fun h => h.mono hk (fun _ _ h => h)) (fun hg h => h.mono hk (fun _ _ h => h) hg) (hrow.mono hk (fun _ _ h => h) (fun _ _ h => h)) (fun k h1 h2 => ?_) (fun k h1 => ?_)
    · rw [setCells_cell b ht, if_pos (by omega), show base + k - (base + o) = k - o by omega]
    · rw [setCells_cell b ht, if_neg (by omega)]
theorem s_store (hh : HeapRep X σ H w) {t : TypeId} {x y : AV} {u v : Value} {H' : Hp} (h : astore P H t x y = some H') (hx : RepA w (own X σ H) σ x u) (hy : RepA w (own X σ H) σ y v) :
    ∃ w', (Instr.storeAt t u v).run P w = .ok () w' ∧ HeapRep X σ H' w' ∧ Step σ H w σ H' w' := by
  unfold astore at h
  split at h
  · rename_i id i e j c
    split at h
    · rename_i q n hq hn
      split at h
      · rename_i hn1
        subst hn1
        obtain ⟨q', hq', rfl⟩ := Option.map_eq_some_iff.1 h
        obtain ⟨b, base, ext, hs, rfl⟩ := hx
        have h1 := Rep.one hy
        have hlt : i * e + j < q.size ∧ q'.size = q.size := by
          rcases hh.row id q (hrow_some hq) with h0 | ⟨b', base', ext', hs', hb, hle', hcell, hrow⟩
          · rw [h0] at hs; cases hs
          · have := put_rep (g' := fun k => if k = i * e + j then some v else w.cell? ⟨b', base' + k, none⟩) hrow hq' hy (by simp) (fun k hk => by simp [hk])
            exact ⟨this.2.2, this.2.1⟩
        obtain ⟨ht, h2, h3⟩ := hh.puts (hrow_some hq) hs (i * e + j) [v] (by simp; omega) hlt.2 (fun own w' g' ho hrep hrow' hq0 g1 g2 =>
          (put_rep hq0 hq' (hrep hy) (by have := g1 (i * e + j) (Nat.le_refl _) (by simp); simpa using this) (fun k hk => g2 k (by simp; omega))).1)
        refine ⟨_, ?_, h2, h3⟩
        have hst := run_storeCells_cells (P := P) b (base + (i * e + j)) [v] 0 w (fun k hk => by simpa using (ht k hk).1) (fun k hk => by simpa using (ht k hk).2) (by simpa using h1)
        have hcv : v.cells = #[v] := by cases v <;> first | rfl | cases h1
        obtain ⟨ti, hti, hti2⟩ := Option.map_eq_some_iff.1 hn
        simp only [Nat.add_zero] at hst
        simp [Instr.storeAt, Instr.sureAddr, storeVar, hcv, sizeOf, typeInfo, hti, hti2, hst]
      · cases h
    · cases h
  · rename_i id i e j r
    split at h
    · rename_i q n hq hn
      split at h
      · rename_i hn1
        subst hn1
        obtain ⟨q', hq', rfl⟩ := Option.map_eq_some_iff.1 h
        obtain ⟨b, base, ext, hs, rfl⟩ := hx
        obtain ⟨vs, rfl, hvl, hvr⟩ := hy
        have hone : ∀ v ∈ vs, v.oneCell' = true := fun v hv => by
          obtain ⟨k, hk, rfl⟩ := List.mem_iff_getElem.1 hv
          obtain ⟨u, h1, h2⟩ := hvr.there k (by omega)
          rw [List.getElem?_eq_getElem hk] at h1; cases h1; exact h2
        have hlt : i * e + j + r.size ≤ q.size ∧ q'.size = q.size := by
          rcases hh.row id q (hrow_some hq) with h0 | ⟨b', base', ext', hs', hb, hle', hcell, hrow⟩
          · rw [h0] at hs; cases hs
          · have := puts_rep (g' := fun k => if i * e + j ≤ k ∧ k < i * e + j + r.size then vs[k - (i * e + j)]? else w.cell? ⟨b', base' + k, none⟩) hrow hq'
              (RowRep.only (fun k v hk hv => by rw [if_pos (by omega), show i * e + j + k - (i * e + j) = k by omega]; exact hv) hvr) (fun k hk => by rw [if_neg (by omega)])
            exact ⟨this.2.2, this.2.1⟩
        obtain ⟨ht, h2, h3⟩ := hh.puts (hrow_some hq) hs (i * e + j) vs (by omega) hlt.2 (fun own w' g' ho hrep hrow' hq0 g1 g2 =>
          (puts_rep hq0 hq' (RowRep.only (fun k v hk hv => by rw [g1 _ (by omega) (by omega), show i * e + j + k - (i * e + j) = k by omega]; exact hv) (hrow' (fun _ _ h => h) hvr)) (fun k hk => g2 k (by omega))).1)
        refine ⟨_, ?_, h2, h3⟩
        have := run_storeAt_mid (P := P) w b (base + (i * e + j)) t vs.toArray (by simpa using ht) (by simp only [List.size_toArray]; rw [hvl]; exact hn) (all_oneCell_toArray hone)
        simpa using this
      · cases h
    · cases h
  · cases h
theorem add_addr (b off k : Nat) : (⟨b, off, none⟩ : Addr).add k = ⟨b, off + k, none⟩ := Addr.add_mid b off k
theorem strI_rep {own : Nat → Prop} (u : ByteArray) : RowRep w own σ (.ty (.i .u8) (strI u)) (fun k => (byteCells u)[k]?) := fun i x hx => by
  unfold strI at hx
  rw [List.getElem?_map] at hx
  obtain ⟨b, hb, rfl⟩ := Option.map_eq_some_iff.1 hx
  show (byteCells u)[i * 1 + 0]? = _
  unfold byteCells
  rw [List.getElem?_map, Nat.mul_one, Nat.add_zero, hb]; rfl
/-- What a slice (or a string) yields that is appended, or copied. -/
theorem elems_rep (hh : HeapRep X σ H w) {n m : Nat} {x : AV} {q : Row} {y : Value} {tx : TypeId} (h : elems H n x = some (m, q)) (hk : slOrStr P tx = true) (hx : RepA w (own X σ H) σ x y) (hstr : ∀ u, x = .c (.v (.string u)) → P.underlying tx = some .string) :
    ∃ news, Src P n tx y m news w ∧ RowRep w (own X σ H) σ q (fun k => news[k]?) ∧ q.size = m * n := by
  have hkind : (∃ e', P.underlying tx = some (.slice e')) ∨ P.underlying tx = some .string := by
    unfold slOrStr at hk
    split at hk
    · exact .inl ⟨_, ‹_›⟩
    · exact .inr ‹_›
    · cases hk
  have empty : ∀ a c, Src P n tx (.slice a 0 c) 0 [] w := fun a c => by
    have hl : ∀ (w' : World) (x : Addr), (loadCells x 0).run P w' = .ok #[] w' := fun w' x => by simpa using run_loadCells_list (P := P) w' x [] (by simp)
    refine ⟨hkind, fun _ => rfl, ?_, ?_, by simp, fun _ h => by cases h⟩ <;> cases a <;> simp [Builtin.firstCells, hl]
  have slice : ∀ b off c (r : Row), r.size = m * n → RowRep w (own X σ H) σ r (fun k => w.cell? ⟨b, off + k, none⟩) → ∃ news, Src P n tx (.slice (some ⟨b, off, none⟩) m c) m news w ∧ RowRep w (own X σ H) σ r (fun k => news[k]?) ∧ r.size = m * n := fun b off c r hs hr => by
    obtain ⟨vs, h1, h2, h3, h4⟩ := hr.list
    refine ⟨vs, ⟨hkind, fun _ => rfl, run_firstCells_some w n m _ m c vs (h1.trans hs) (fun j v hv => by rw [add_addr]; exact h2 j v hv), run_firstCells_some w.drew n m _ m c vs (h1.trans hs) (fun j v hv => by rw [add_addr]; exact h2 j v hv), h1.trans hs, h3⟩, h4, hs⟩
  unfold elems at h
  split at h
  · rename_i id o len e
    split at h
    · rename_i he; subst he
      split at h
      · rename_i r hr
        obtain ⟨q', hq, heq⟩ := Option.map_eq_some_iff.1 h
        cases heq
        have nil : m = 0 → ∀ a, y = .slice a 0 0 → ∃ news, Src P e tx y m news w ∧ RowRep w (own X σ H) σ q (fun k => news[k]?) ∧ q.size = m * e := fun h0 a hy => by
          subst h0; subst hy
          have hqs : q.size = 0 := by
            cases r with
            | raw l =>
              simp only [Row.part] at hq
              split at hq
              · cases hq; simp [Row.size]
              · cases hq
            | ty t xs =>
              simp only [Row.part] at hq
              split at hq
              · split at hq
                · rename_i h0; cases hq; simp [Row.size, ← h0.2]
                · split at hq
                  · cases hq; simp [Row.size]
                  · cases hq
              · cases hq
          refine ⟨[], empty _ _, ?_, by simp [hqs]⟩
          cases q with
          | raw l => intro i c hc; simp only [Row.size] at hqs; rw [List.getElem?_eq_none (by omega)] at hc; cases hc
          | ty t xs =>
            intro i x hx
            have hi : i < xs.length := (List.getElem?_eq_some_iff.1 hx).1
            simp only [Row.size] at hqs
            cases r with
            | raw l => simp only [Row.part] at hq; split at hq <;> cases hq
            | ty t' xs' =>
              simp only [Row.part] at hq
              split at hq
              · split at hq
                · rename_i h0
                  cases hq
                  omega
                · split at hq
                  · cases hq
                    simp at hi
                  · cases hq
              · cases hq
        rcases hx with ⟨h0, a, rfl⟩ | ⟨b, base, ext, c, hs, rfl, hlc, hc, hext⟩
        · exact nil h0 a rfl
        · rcases hh.row id r (hrow_some hr) with h0 | ⟨b', base', ext', hs', hb, hle, hcell, hrow⟩
          · rw [h0] at hs; cases hs
          · rw [hs] at hs'; cases hs'
            obtain ⟨h1, h2, h3⟩ := part_rep hrow hq
            exact slice b (base + o * e) c q h2 (RowRep.only (fun k v _ hv => by rw [Nat.add_assoc]; exact hv) h1)
      · cases h
    · cases h
  · rename_i t xs
    split at h
    · rename_i ht; subst ht
      cases h
      rcases hx with ⟨rfl, a, c, rfl⟩ | ⟨b, off, c, rfl, hlc, hc, hb, hlt, hxs⟩
      · exact ⟨[], empty _ _, fun i x hx => by simp at hx, by simp [Row.size]⟩
      · exact slice b off c _ rfl (fun i x hx => RepD.cells (fun j v hv => by show w.cell? ⟨b, off + (i * t.sz + j), none⟩ = _; rw [← Nat.add_assoc]; exact hv) (hxs i x hx))
    · cases h
  · cases h; obtain ⟨rfl, -⟩ := hx; exact ⟨[], empty _ _, fun i c hc => by simp at hc, by simp [Row.size]⟩
  · cases h; obtain ⟨a, rfl⟩ := hx; exact ⟨[], empty _ _, fun i c hc => by simp at hc, by simp [Row.size]⟩
  · rename_i u
    split at h
    · rename_i h1; subst h1
      cases h
      obtain ⟨rfl, -⟩ := hx
      refine ⟨byteCells u, Src.ofString w (hstr u rfl) u, strI_rep u, ?_⟩
      show (strI u).length * 1 = u.size * 1
      unfold strI
      rw [List.length_map, Array.length_toList]; rfl
    · cases h
  · cases h
end
end Go.Proofs.Ytbdnhoddkdiogaa
