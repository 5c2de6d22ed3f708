/- AHI, part B: what rows and cells say of a world. -/
import Derived.Test.YtbdnhoddkdiogaaAhA
import Derived.Deep.MidRow
set_option linter.unusedSimpArgs false
set_option linter.unusedVariables false
namespace Go.Proofs.Ytbdnhoddkdiogaa
open Go.RowKit

abbrev Cells := Nat → Option Value
/-- A typed thing lies in these cells. -/
def RepD (w : World) (own : Nat → Prop) : (t : Ty) → t.D → Cells → Prop
  | .i k, n, g => g 0 = some (.int k n)
  | .bo, x, g => g 0 = some (.bool x)
  | .st, x, g => g 0 = some (.string x)
  | .f k, n, g => g 0 = some (.float k n)
  | .sl e, xs, g => ∃ v, g 0 = some v ∧ ((xs = [] ∧ ∃ a c, v = .slice a 0 c) ∨ ∃ b off c, v = .slice (some ⟨b, off, none⟩) xs.length c ∧ xs.length ≤ c ∧ c ≤ maxLen ∧ ¬ own b ∧ b < w.heap.size ∧
      ∀ (i : Nat) x, xs[i]? = some x → RepD w own e x (fun j => w.cell? ⟨b, off + i * e.sz + j, none⟩))
  | .pr a b, x, g => RepD w own a x.1 g ∧ RepD w own b x.2 (fun j => g (a.sz + j))
  | .ar n e, xs, g => xs.length = n ∧ ∀ (i : Nat) x, xs[i]? = some x → RepD w own e x (fun j => g (i * e.sz + j))
def RepSl (w : World) (own : Nat → Prop) (e : Ty) (xs : List e.D) (v : Value) : Prop :=
  (xs = [] ∧ ∃ a c, v = .slice a 0 c) ∨ ∃ b off c, v = .slice (some ⟨b, off, none⟩) xs.length c ∧ xs.length ≤ c ∧ c ≤ maxLen ∧ ¬ own b ∧ b < w.heap.size ∧
      ∀ (i : Nat) x, xs[i]? = some x → RepD w own e x (fun j => w.cell? ⟨b, off + i * e.sz + j, none⟩)
theorem RepD_sl {w : World} {own : Nat → Prop} {e : Ty} {xs : List e.D} {g : Cells} : RepD w own (.sl e) xs g ↔ ∃ v, g 0 = some v ∧ RepSl w own e xs v := Iff.rfl
abbrev Sg := Nat → Option (Nat × Nat × Nat)
/-- A cell's value. -/
def Rep (w : World) (own : Nat → Prop) (σ : Sg) : CV → Value → Prop
  | .v x, y => y = x ∧ x.oneCell' = true
  | .e0, y => ∃ a, y = .slice a 0 0
  | .ptr id i e j, y => ∃ b base ext, σ id = some (b, base, ext) ∧ y = .pointer (some ⟨b, base + (i * e + j), none⟩)
  | .sl id o len e, y => (len = 0 ∧ ∃ a, y = .slice a 0 0) ∨ ∃ b base ext c, σ id = some (b, base, ext) ∧ y = .slice (some ⟨b, base + o * e, none⟩) len c ∧ len ≤ c ∧ c ≤ maxLen ∧ base + (o + c) * e ≤ ext
  | .rs t xs, y => RepSl w own t xs y
  | .rp t xs i j, y => ∃ b off, y = .pointer (some ⟨b, off + (i * t.sz + j), none⟩) ∧ ¬ own b ∧ b < w.heap.size ∧ ∀ (i : Nat) x, xs[i]? = some x → RepD w own t x (fun j => w.cell? ⟨b, off + i * t.sz + j, none⟩)
  | .fn f ids, y => ∃ ps : List Value, y = .func (.func f) #[] ps.toArray ∧ ps.length = ids.length ∧ ∀ (k : Nat) id, ids[k]? = some id → ∃ b base ext, σ id = some (b, base, ext) ∧ ps[k]? = some (.pointer (some ⟨b, base, none⟩))
def RowRep (w : World) (own : Nat → Prop) (σ : Sg) : Row → Cells → Prop
  | .raw l, g => ∀ (i : Nat) c, l[i]? = some c → ∃ v, g i = some v ∧ Rep w own σ c v
  | .ty t xs, g => ∀ (i : Nat) x, xs[i]? = some x → RepD w own t x (fun j => g (i * t.sz + j))
def Rep1 (w : World) (own : Nat → Prop) (σ : Sg) : AV → Value → Prop
  | .c x, y => Rep w own σ x y
  | .agg r, y => ∃ vs : List Value, y = .agg vs.toArray ∧ vs.length = r.size ∧ RowRep w own σ r (fun i => vs[i]?)
  | .tup _, _ => False
def RepA (w : World) (own : Nat → Prop) (σ : Sg) : AV → Value → Prop
  | .tup l, y => ∃ vs : List Value, y = .tuple vs.toArray ∧ vs.length = l.length ∧ ∀ (i : Nat) a, l[i]? = some a → ∃ v, vs[i]? = some v ∧ Rep1 w own σ a v
  | .c x, y => Rep w own σ x y
  | .agg r, y => ∃ vs : List Value, y = .agg vs.toArray ∧ vs.length = r.size ∧ RowRep w own σ r (fun i => vs[i]?)
theorem Rep1.toA {w own σ a v} (h : Rep1 w own σ a v) : RepA w own σ a v := by cases a <;> first | exact h | exact h.elim

section
variable {w w' : World} {own own' : Nat → Prop} {σ σ' : Sg}
/-- What a call leaves: what it does not own, and was there, is as it was. -/
structure Keeps (w : World) (own : Nat → Prop) (w' : World) (own' : Nat → Prop) : Prop where
  size : w.heap.size ≤ w'.heap.size
  block : ∀ b, b < w.heap.size → ¬ own b → w'.heap[b]? = w.heap[b]?
  own : ∀ b, own' b → own b ∨ w.heap.size ≤ b
theorem Keeps.cell (h : Keeps w own w' own') {b off : Nat} (hb : b < w.heap.size) (ho : ¬ own b) : w'.cell? ⟨b, off, none⟩ = w.cell? ⟨b, off, none⟩ :=
  World.cell?_of_block (w := w) (h.block b hb ho)
theorem Keeps.refl : Keeps w own w own := ⟨Nat.le_refl _, fun _ _ _ => rfl, fun _ h => .inl h⟩
theorem RepD.mono (hk : Keeps w own w' own') : ∀ {t : Ty} {x : t.D} {g g' : Cells}, (∀ j v, g j = some v → g' j = some v) → RepD w own t x g → RepD w' own' t x g'
  | .i _, _, _, _, hg, h => hg _ _ h
  | .bo, _, _, _, hg, h => hg _ _ h
  | .st, _, _, _, hg, h => hg _ _ h
  | .f _, _, _, _, hg, h => hg _ _ h
  | .sl e, _, _, _, hg, ⟨v, h0, h⟩ => ⟨v, hg _ _ h0, h.imp id fun ⟨b, off, c, h1, h2, h3, h4, h5, h6⟩ =>
      ⟨b, off, c, h1, h2, h3, fun hb => (hk.own b hb).elim h4 (fun h' => by omega), Nat.lt_of_lt_of_le h5 hk.size, fun i x hx => RepD.mono hk (fun j v hv => by rw [hk.cell h5 h4]; exact hv) (h6 i x hx)⟩⟩
  | .pr a b, _, _, _, hg, ⟨h1, h2⟩ => ⟨RepD.mono hk hg h1, RepD.mono hk (fun j v hv => hg _ _ hv) h2⟩
  | .ar n e, _, _, _, hg, ⟨h1, h2⟩ => ⟨h1, fun i x hx => RepD.mono hk (fun j v hv => hg _ _ hv) (h2 i x hx)⟩
theorem RepSl.mono (hk : Keeps w own w' own') {e : Ty} {xs : List e.D} {v : Value} (h : RepSl w own e xs v) : RepSl w' own' e xs v := by
  have : RepD w own (.sl e) xs (fun _ => some v) := ⟨v, rfl, h⟩
  obtain ⟨u, hu, h'⟩ := RepD.mono hk (g' := fun _ => some v) (fun _ _ h => h) this
  cases hu
  exact h'
theorem RepD.cells {t : Ty} {x : t.D} {g g' : Cells} (hg : ∀ j v, g j = some v → g' j = some v) (h : RepD w own t x g) : RepD w own t x g' := RepD.mono Keeps.refl hg h
/-- Only the thing's own cells count. -/
theorem RepD.only : ∀ {t : Ty} {x : t.D} {g g' : Cells}, (∀ j v, j < t.sz → g j = some v → g' j = some v) → RepD w own t x g → RepD w own t x g'
  | .i _, _, _, _, hg, h => hg _ _ (by simp [Ty.sz]) h
  | .bo, _, _, _, hg, h => hg _ _ (by simp [Ty.sz]) h
  | .st, _, _, _, hg, h => hg _ _ (by simp [Ty.sz]) h
  | .f _, _, _, _, hg, h => hg _ _ (by simp [Ty.sz]) h
  | .sl e, _, _, _, hg, ⟨v, h0, h⟩ => ⟨v, hg _ _ (by simp [Ty.sz]) h0, h⟩
  | .pr a b, _, _, _, hg, ⟨h1, h2⟩ => ⟨RepD.only (fun j v hj => hg _ _ (by simp [Ty.sz]; omega)) h1, RepD.only (fun j v hj hv => hg _ _ (by simp [Ty.sz]; omega) hv) h2⟩
  | .ar n e, xs, g, g', hg, ⟨h1, h2⟩ => ⟨h1, fun i x hx => RepD.only (fun j v hj hv => hg _ _ (by
      have hi : i < n := by obtain ⟨hi, _⟩ := List.getElem?_eq_some_iff.1 hx; omega
      simp only [Ty.sz]
      calc i * e.sz + j < i * e.sz + e.sz := by omega
        _ = (i + 1) * e.sz := by rw [Nat.add_mul, Nat.one_mul]
        _ ≤ n * e.sz := Nat.mul_le_mul_right _ hi) hv) (h2 i x hx)⟩
theorem Rep.mono (hk : Keeps w own w' own') (hs : ∀ id x, σ id = some x → σ' id = some x) {c : CV} {v : Value} (h : Rep w own σ c v) : Rep w' own' σ' c v := by
  cases c with
  | v x => exact h
  | e0 => exact h
  | ptr id i e j => obtain ⟨b, base, ext, h1, h2⟩ := h; exact ⟨b, base, ext, hs _ _ h1, h2⟩
  | sl id o len e => exact h.imp (fun h => h) fun ⟨b, base, ext, c, h1, h2⟩ => ⟨b, base, ext, c, hs _ _ h1, h2⟩
  | rs t xs => exact RepSl.mono hk h
  | rp t xs i j =>
    obtain ⟨b, off, h1, h2, h3, h4⟩ := h
    exact ⟨b, off, h1, fun hb => (hk.own b hb).elim h2 (fun h' => by omega), Nat.lt_of_lt_of_le h3 hk.size, fun i x hx => RepD.mono hk (fun j v hv => by rw [hk.cell h3 h2]; exact hv) (h4 i x hx)⟩
  | fn f ids => obtain ⟨ps, h1, h2, h3⟩ := h; exact ⟨ps, h1, h2, fun k id hk' => by obtain ⟨b, base, ext, h4, h5⟩ := h3 k id hk'; exact ⟨b, base, ext, hs _ _ h4, h5⟩⟩
theorem RowRep.mono (hk : Keeps w own w' own') (hs : ∀ id x, σ id = some x → σ' id = some x) {r : Row} {g g' : Cells} (hg : ∀ j v, g j = some v → g' j = some v) (h : RowRep w own σ r g) : RowRep w' own' σ' r g' := by
  cases r with
  | raw l => exact fun i c hc => by obtain ⟨v, h1, h2⟩ := h i c hc; exact ⟨v, hg _ _ h1, h2.mono hk hs⟩
  | ty t xs => exact fun i x hx => RepD.mono hk (fun j v hv => hg _ _ hv) (h i x hx)
theorem RowRep.only {r : Row} {g g' : Cells} (hg : ∀ j v, j < r.size → g j = some v → g' j = some v) (h : RowRep w own σ r g) : RowRep w own σ r g' := by
  cases r with
  | raw l => exact fun i c hc => by obtain ⟨v, h1, h2⟩ := h i c hc; exact ⟨v, hg _ _ (List.getElem?_eq_some_iff.1 hc).1 h1, h2⟩
  | ty t xs => exact fun i x hx => RepD.only (fun j v hj hv => hg _ _ (by
      have hi : i < xs.length := (List.getElem?_eq_some_iff.1 hx).1
      simp only [Row.size]
      calc i * t.sz + j < i * t.sz + t.sz := by omega
        _ = (i + 1) * t.sz := by rw [Nat.add_mul, Nat.one_mul]
        _ ≤ xs.length * t.sz := Nat.mul_le_mul_right _ hi) hv) (h i x hx)
theorem Rep1.mono (hk : Keeps w own w' own') (hs : ∀ id x, σ id = some x → σ' id = some x) {a : AV} {v : Value} (h : Rep1 w own σ a v) : Rep1 w' own' σ' a v := by
  cases a with
  | c x => exact Rep.mono hk hs h
  | agg r => obtain ⟨vs, h1, h2, h3⟩ := h; exact ⟨vs, h1, h2, h3.mono hk hs (fun _ _ h => h)⟩
  | tup l => exact h
theorem RepA.mono (hk : Keeps w own w' own') (hs : ∀ id x, σ id = some x → σ' id = some x) {a : AV} {v : Value} (h : RepA w own σ a v) : RepA w' own' σ' a v := by
  cases a with
  | c x => exact Rep.mono hk hs h
  | agg r => obtain ⟨vs, h1, h2, h3⟩ := h; exact ⟨vs, h1, h2, h3.mono hk hs (fun _ _ h => h)⟩
  | tup l => obtain ⟨vs, h1, h2, h3⟩ := h; exact ⟨vs, h1, h2, fun i a ha => by obtain ⟨v, h4, h5⟩ := h3 i a ha; exact ⟨v, h4, h5.mono hk hs⟩⟩

/-! ### What the functions on rows say -/
theorem mul_add_lt {i n e j : Nat} (hi : i < n) (hj : j < e) : i * e + j < n * e :=
  calc i * e + j < i * e + e := by omega
    _ = (i + 1) * e := by rw [Nat.add_mul, Nat.one_mul]
    _ ≤ n * e := Nat.mul_le_mul_right _ hi
theorem enc_rep : ∀ {t : Ty} {x : t.D} {g : Cells} {j : Nat} {c : CV}, RepD w own t x g → enc t x j = some c → ∃ v, g j = some v ∧ Rep w own σ c v
  | .i k, n, g, j, c, h, he => by
    simp only [enc] at he; split at he
    · cases he; subst j; exact ⟨_, h, rfl, rfl⟩
    · cases he
  | .bo, n, g, j, c, h, he => by
    simp only [enc] at he; split at he
    · cases he; subst j; exact ⟨_, h, rfl, rfl⟩
    · cases he
  | .st, n, g, j, c, h, he => by
    simp only [enc] at he; split at he
    · cases he; subst j; exact ⟨_, h, rfl, rfl⟩
    · cases he
  | .f _, n, g, j, c, h, he => by
    simp only [enc] at he; split at he
    · cases he; subst j; exact ⟨_, h, rfl, rfl⟩
    · cases he
  | .sl e, n, g, j, c, h, he => by
    simp only [enc] at he; split at he
    · cases he; subst j; obtain ⟨v, h1, h2⟩ := h; exact ⟨v, h1, h2⟩
    · cases he
  | .pr a b, x, g, j, c, h, he => by
    simp only [enc] at he; split at he
    · exact enc_rep h.1 he
    · rename_i hlt
      obtain ⟨v, h1, h2⟩ := enc_rep h.2 he
      exact ⟨v, by rwa [show a.sz + (j - a.sz) = j by omega] at h1, h2⟩
  | .ar n e, xs, g, j, c, h, he => by
    simp only [enc] at he; split at he
    · rename_i x hx
      obtain ⟨v, h1, h2⟩ := enc_rep (h.2 _ x hx) he
      refine ⟨v, ?_, h2⟩
      rwa [show j / e.sz * e.sz + j % e.sz = j from by rw [Nat.mul_comm]; exact Nat.div_add_mod _ _] at h1
    · cases he
theorem RepSl_cast {e e' : Ty} (h : e' = e) {xs : List e'.D} {v : Value} (hr : RepSl w own e' xs v) : RepSl w own e (h ▸ xs) v := by subst h; exact hr
/-- Kinds of one cell. -/
def Ty.isLeaf : Ty → Bool
  | .pr _ _ => false | .ar _ _ => false | _ => true
theorem leaf_rep {t : Ty} {c : CV} {x : t.D} {v : Value} {g : Cells} (he : leaf t c = some x) (hr : Rep w own σ c v) (hg : g 0 = some v) : RepD w own t x g := by
  unfold leaf at he
  split at he
  · split at he
    · rename_i hk; cases he; obtain ⟨rfl, -⟩ := hr; subst hk; exact hg
    · cases he
  · cases he; obtain ⟨rfl, -⟩ := hr; exact hg
  · cases he; obtain ⟨rfl, -⟩ := hr; exact hg
  · split at he
    · rename_i hk; cases he; obtain ⟨rfl, -⟩ := hr; subst hk; exact hg
    · cases he
  · split at he
    · rename_i hk; cases he; exact ⟨v, hg, RepSl_cast hk hr⟩
    · cases he
  · cases he; obtain ⟨rfl, -⟩ := hr; exact ⟨_, hg, .inl ⟨rfl, _, _, rfl⟩⟩
  · cases he; obtain ⟨a, rfl⟩ := hr; exact ⟨_, hg, .inl ⟨rfl, _, _, rfl⟩⟩
  · cases he
theorem if0 {α : Type} {j : Nat} {x : Option α} {y : α} (h : (if j = 0 then x else none) = some y) : j = 0 ∧ x = some y := by
  split at h
  · exact ⟨‹_›, h⟩
  · cases h
theorem setD_lt : ∀ {t : Ty} {x y : t.D} {j : Nat} {c : CV} {g : Cells}, RepD w own t x g → setD t x j c = some y → j < t.sz
  | .i k, _, _, j, c, _, h, he => by obtain ⟨rfl, -⟩ := if0 he; simp [Ty.sz]
  | .bo, _, _, j, c, _, h, he => by obtain ⟨rfl, -⟩ := if0 he; simp [Ty.sz]
  | .st, _, _, j, c, _, h, he => by obtain ⟨rfl, -⟩ := if0 he; simp [Ty.sz]
  | .f _, _, _, j, c, _, h, he => by obtain ⟨rfl, -⟩ := if0 he; simp [Ty.sz]
  | .sl e, _, _, j, c, _, h, he => by obtain ⟨rfl, -⟩ := if0 he; simp [Ty.sz]
  | .pr a b, x, y, j, c, g, h, he => by
    simp only [setD] at he
    split at he
    · simp [Ty.sz]; omega
    · obtain ⟨z, hz, -⟩ := Option.map_eq_some_iff.1 he
      have := setD_lt h.2 hz
      simp [Ty.sz]; omega
  | .ar n e, xs, y, j, c, g, h, he => by
    simp only [setD] at he
    split at he
    · rename_i x hx
      obtain ⟨z, hz, -⟩ := Option.map_eq_some_iff.1 he
      have h1 := setD_lt (h.2 _ x hx) hz
      have hi : j / e.sz < n := by obtain ⟨hi, _⟩ := List.getElem?_eq_some_iff.1 hx; rw [← h.1]; exact hi
      have := mul_add_lt hi h1
      rwa [show j / e.sz * e.sz + j % e.sz = j from by rw [Nat.mul_comm]; exact Nat.div_add_mod _ _] at this
    · cases he
theorem setD_rep : ∀ {t : Ty} {x y : t.D} {g g' : Cells} {j : Nat} {c : CV} {v : Value}, RepD w own t x g → setD t x j c = some y → Rep w own σ c v → g' j = some v → (∀ k, k ≠ j → g' k = g k) → RepD w own t y g'
  | .i k, _, y, g, g', j, c, v, h, he, hr, h1, h2 => by obtain ⟨rfl, he⟩ := if0 he; exact leaf_rep he hr h1
  | .bo, _, y, g, g', j, c, v, h, he, hr, h1, h2 => by obtain ⟨rfl, he⟩ := if0 he; exact leaf_rep he hr h1
  | .st, _, y, g, g', j, c, v, h, he, hr, h1, h2 => by obtain ⟨rfl, he⟩ := if0 he; exact leaf_rep he hr h1
  | .f k, _, y, g, g', j, c, v, h, he, hr, h1, h2 => by obtain ⟨rfl, he⟩ := if0 he; exact leaf_rep he hr h1
  | .sl e, _, y, g, g', j, c, v, h, he, hr, h1, h2 => by obtain ⟨rfl, he⟩ := if0 he; exact leaf_rep he hr h1
  | .pr a b, x, y, g, g', j, c, v, h, he, hr, h1, h2 => by
    simp only [setD] at he
    split at he
    · rename_i hlt
      obtain ⟨z, hz, rfl⟩ := Option.map_eq_some_iff.1 he
      exact ⟨setD_rep h.1 hz hr h1 h2, RepD.cells (fun k u hu => by rw [h2 _ (by omega)]; exact hu) h.2⟩
    · rename_i hlt
      obtain ⟨z, hz, rfl⟩ := Option.map_eq_some_iff.1 he
      refine ⟨RepD.only (fun k u hk hu => by rw [h2 _ (by omega)]; exact hu) h.1, setD_rep h.2 hz hr ?_ ?_⟩
      · show g' (a.sz + (j - a.sz)) = _
        rw [show a.sz + (j - a.sz) = j by omega]; exact h1
      · exact fun k hk => h2 _ (by omega)
  | .ar n e, xs, y, g, g', j, c, v, h, he, hr, h1, h2 => by
    simp only [setD] at he
    split at he
    · rename_i x hx
      obtain ⟨z, hz, rfl⟩ := Option.map_eq_some_iff.1 he
      have hjj : j / e.sz * e.sz + j % e.sz = j := by rw [Nat.mul_comm]; exact Nat.div_add_mod _ _
      have hlt := setD_lt (h.2 _ x hx) hz
      refine ⟨by rw [List.length_set]; exact h.1, fun i u hu => ?_⟩
      by_cases hi : j / e.sz = i
      · subst hi
        have hil : j / e.sz < xs.length := (List.getElem?_eq_some_iff.1 hx).1
        rw [List.getElem?_set_self hil] at hu
        cases hu
        refine setD_rep (h.2 _ x hx) hz hr ?_ ?_
        · show g' (j / e.sz * e.sz + j % e.sz) = _
          rw [hjj]; exact h1
        · exact fun k hk => h2 _ (by omega)
      · rw [List.getElem?_set_ne hi] at hu
        refine RepD.only (fun k u' hk hu' => ?_) (h.2 i u hu)
        have hne : i * e.sz + k ≠ j := fun heq => hi (by
          rw [← heq, Nat.mul_comm, Nat.mul_add_div (by omega), Nat.div_eq_of_lt hk]; rfl)
        show g' (i * e.sz + k) = _
        rw [h2 _ hne]; exact hu'
    · cases he
theorem one_of {α : Type} {l : List CV} {f : CV → Option α} {y : α} (h : (match l with | [c] => f c | _ => none) = some y) : ∃ c, l = [c] ∧ f c = some y := by
  split at h
  · exact ⟨_, rfl, h⟩
  · cases h
theorem decF_len {α : Type} {f : List CV → Option α} {sz : Nat} (hf : ∀ l x, f l = some x → l.length = sz) : ∀ {n : Nat} {l : List CV} {xs : List α}, decF f sz n l = some xs → xs.length = n ∧ l.length = n * sz
  | 0, l, xs, h => by
    simp only [decF] at h
    split at h
    · rename_i h0; cases h; exact ⟨rfl, by simp [h0]⟩
    · cases h
  | n + 1, l, xs, h => by
    simp only [decF] at h
    split at h
    · rename_i x ys h1 h2
      cases h
      have e1 := hf _ _ h1
      obtain ⟨e2, e3⟩ := decF_len hf h2
      rw [List.length_take] at e1
      rw [List.length_drop] at e3
      exact ⟨by simp [e2], by rw [Nat.add_mul]; omega⟩
    · cases h
theorem decD_len : ∀ {t : Ty} {l : List CV} {x : t.D}, decD t l = some x → l.length = t.sz := by
  intro t
  induction t with
  | i k => intro l x h; obtain ⟨c, rfl, -⟩ := one_of h; rfl
  | bo => intro l x h; obtain ⟨c, rfl, -⟩ := one_of h; rfl
  | st => intro l x h; obtain ⟨c, rfl, -⟩ := one_of h; rfl
  | f k => intro l x h; obtain ⟨c, rfl, -⟩ := one_of h; rfl
  | sl e => intro l x h; obtain ⟨c, rfl, -⟩ := one_of h; rfl
  | ar n e ih => intro l x h; exact (decF_len (fun _ _ h => ih h) h).2
  | pr a b iha ihb =>
    intro l x h
    simp only [decD] at h
    split at h
    · rename_i x y h1 h2
      have e1 := iha h1
      have e2 := ihb h2
      rw [List.length_take] at e1
      rw [List.length_drop] at e2
      simp [Ty.sz]; omega
    · cases h
theorem RepD.there : ∀ {t : Ty} {x : t.D} {g : Cells}, RepD w own t x g → ∀ j, j < t.sz → ∃ v, g j = some v ∧ v.oneCell' = true
  | .i k, n, g, h, j, hj => by simp only [Ty.sz] at hj; obtain rfl : j = 0 := (by omega); exact ⟨_, h, rfl⟩
  | .bo, n, g, h, j, hj => by simp only [Ty.sz] at hj; obtain rfl : j = 0 := (by omega); exact ⟨_, h, rfl⟩
  | .st, n, g, h, j, hj => by simp only [Ty.sz] at hj; obtain rfl : j = 0 := (by omega); exact ⟨_, h, rfl⟩
  | .f k, n, g, h, j, hj => by simp only [Ty.sz] at hj; obtain rfl : j = 0 := (by omega); exact ⟨_, h, rfl⟩
  | .sl e, n, g, h, j, hj => by
    simp only [Ty.sz] at hj; obtain rfl : j = 0 := by omega
    obtain ⟨v, h1, h2⟩ := h
    refine ⟨v, h1, ?_⟩
    rcases h2 with ⟨-, a, c, rfl⟩ | ⟨b, off, c, rfl, -⟩ <;> rfl
  | .pr a b, x, g, h, j, hj => by
    simp only [Ty.sz] at hj
    by_cases hlt : j < a.sz
    · exact RepD.there h.1 j hlt
    · obtain ⟨v, h1, h2⟩ := RepD.there h.2 (j - a.sz) (by omega)
      exact ⟨v, by rwa [show a.sz + (j - a.sz) = j by omega] at h1, h2⟩
  | .ar n e, xs, g, h, j, hj => by
    simp only [Ty.sz] at hj
    have he : 0 < e.sz := by
      rcases Nat.eq_zero_or_pos e.sz with h0 | h0
      · rw [h0] at hj; simp at hj
      · exact h0
    have hi : j / e.sz < xs.length := by rw [h.1]; exact (Nat.div_lt_iff_lt_mul he).2 hj
    obtain ⟨v, h1, h2⟩ := RepD.there (h.2 (j / e.sz) _ (List.getElem?_eq_getElem hi)) (j % e.sz) (Nat.mod_lt _ he)
    exact ⟨v, by rwa [show j / e.sz * e.sz + j % e.sz = j from by rw [Nat.mul_comm]; exact Nat.div_add_mod _ _] at h1, h2⟩
theorem Rep.one {c : CV} {v : Value} (h : Rep w own σ c v) : v.oneCell' = true := by
  cases c with
  | v x => obtain ⟨rfl, h⟩ := h; exact h
  | e0 => obtain ⟨a, rfl⟩ := h; rfl
  | ptr id i e j => obtain ⟨b, base, ext, -, rfl⟩ := h; rfl
  | sl id o len e => rcases h with ⟨-, a, rfl⟩ | ⟨b, base, ext, c, -, rfl, -⟩ <;> rfl
  | rs t xs => rcases h with ⟨-, a, c, rfl⟩ | ⟨b, off, c, rfl, -⟩ <;> rfl
  | rp t xs i j => obtain ⟨b, off, rfl, -⟩ := h; rfl
  | fn f ids => obtain ⟨ps, rfl, -⟩ := h; rfl
theorem RowRep.there {r : Row} {g : Cells} (h : RowRep w own σ r g) : ∀ j, j < r.size → ∃ v, g j = some v ∧ v.oneCell' = true := by
  cases r with
  | raw l => exact fun j hj => by obtain ⟨v, h1, h2⟩ := h j _ (List.getElem?_eq_getElem hj); exact ⟨v, h1, h2.one⟩
  | ty t xs =>
    intro j hj
    simp only [Row.size] at hj
    have he : 0 < t.sz := by
      rcases Nat.eq_zero_or_pos t.sz with h0 | h0
      · rw [h0] at hj; simp at hj
      · exact h0
    have hi : j / t.sz < xs.length := (Nat.div_lt_iff_lt_mul he).2 hj
    obtain ⟨v, h1, h2⟩ := RepD.there (h (j / t.sz) _ (List.getElem?_eq_getElem hi)) (j % t.sz) (Nat.mod_lt _ he)
    exact ⟨v, by rwa [show j / t.sz * t.sz + j % t.sz = j from by rw [Nat.mul_comm]; exact Nat.div_add_mod _ _] at h1, h2⟩
/-- The cells as a list. -/
theorem RowRep.list {r : Row} {g : Cells} (h : RowRep w own σ r g) : ∃ vs : List Value, vs.length = r.size ∧ (∀ (j : Nat) v, vs[j]? = some v → g j = some v) ∧ (∀ v ∈ vs, v.oneCell' = true) ∧ RowRep w own σ r (fun j => vs[j]?) := by
  refine ⟨(List.range r.size).map fun j => (g j).getD undef, by simp, fun j v hv => ?_, fun v hv => ?_, RowRep.only (fun j v hj hv => ?_) h⟩
  · rw [List.getElem?_map] at hv
    obtain ⟨k, hk, rfl⟩ := Option.map_eq_some_iff.1 hv
    obtain ⟨hl, hk⟩ := List.getElem?_eq_some_iff.1 hk
    rw [List.getElem_range] at hk
    subst hk
    obtain ⟨v, h1, -⟩ := h.there j (by simpa using hl)
    rw [h1]; rfl
  · obtain ⟨j, hj, rfl⟩ := List.mem_map.1 hv
    obtain ⟨v, h1, h2⟩ := h.there j (by simpa using hj)
    rw [h1]; exact h2
  · rw [List.getElem?_map, List.getElem?_range hj, Option.map_some, hv]; rfl
/-- Cells one behind the other, from cell o on. -/
def LRep (w : World) (own : Nat → Prop) (σ : Sg) (l : List CV) (g : Cells) : Prop := ∀ (i : Nat) c, l[i]? = some c → ∃ v, g i = some v ∧ Rep w own σ c v
theorem LRep.take {l : List CV} {g : Cells} (h : LRep w own σ l g) (n : Nat) : LRep w own σ (l.take n) g := fun i c hc => by
  rw [List.getElem?_take] at hc
  split at hc
  · exact h i c hc
  · cases hc
theorem LRep.drop {l : List CV} {g : Cells} (h : LRep w own σ l g) (n : Nat) : LRep w own σ (l.drop n) (fun j => g (n + j)) := fun i c hc => by
  rw [List.getElem?_drop] at hc
  exact h _ c hc
theorem LRep.append {l l' : List CV} {g : Cells} (h : LRep w own σ l g) (h' : LRep w own σ l' (fun j => g (l.length + j))) : LRep w own σ (l ++ l') g := fun i c hc => by
  by_cases hi : i < l.length
  · rw [List.getElem?_append_left hi] at hc; exact h i c hc
  · rw [List.getElem?_append_right (by omega)] at hc
    obtain ⟨v, h1, h2⟩ := h' _ c hc
    have h1' : g (l.length + (i - l.length)) = some v := h1
    exact ⟨v, by rwa [show l.length + (i - l.length) = i by omega] at h1', h2⟩
theorem decF_rep {t : Ty} {f : List CV → Option t.D} (hlen : ∀ l x, f l = some x → l.length = t.sz) (hf : ∀ {l : List CV} {x : t.D} {g : Cells}, LRep w own σ l g → f l = some x → RepD w own t x g) :
    ∀ {n : Nat} {l : List CV} {xs : List t.D} {g : Cells}, LRep w own σ l g → decF f t.sz n l = some xs → ∀ (i : Nat) x, xs[i]? = some x → RepD w own t x (fun j => g (i * t.sz + j))
  | 0, l, xs, g, hl, h => by
    simp only [decF] at h
    split at h
    · cases h; exact fun i x hx => by simp at hx
    · cases h
  | n + 1, l, xs, g, hl, h => by
    simp only [decF] at h
    split at h
    · rename_i x ys h1 h2
      cases h
      intro i z hz
      cases i with
      | zero => simp at hz; subst hz; exact RepD.cells (fun j v hv => by simpa using hv) (hf (hl.take _) h1)
      | succ i => exact RepD.cells (fun j v hv => by rw [Nat.add_mul, Nat.one_mul, show i * t.sz + t.sz + j = t.sz + (i * t.sz + j) by omega]; exact hv) (decF_rep hlen hf (hl.drop _) h2 i z (by simpa using hz))
    · cases h
theorem decD_rep : ∀ {t : Ty} {l : List CV} {x : t.D} {g : Cells}, LRep w own σ l g → decD t l = some x → RepD w own t x g := by
  intro t
  induction t with
  | i k => intro l x g hl h; obtain ⟨c, rfl, h⟩ := one_of h; obtain ⟨v, h1, h2⟩ := hl 0 c rfl; exact leaf_rep h h2 h1
  | bo => intro l x g hl h; obtain ⟨c, rfl, h⟩ := one_of h; obtain ⟨v, h1, h2⟩ := hl 0 c rfl; exact leaf_rep h h2 h1
  | st => intro l x g hl h; obtain ⟨c, rfl, h⟩ := one_of h; obtain ⟨v, h1, h2⟩ := hl 0 c rfl; exact leaf_rep h h2 h1
  | f k => intro l x g hl h; obtain ⟨c, rfl, h⟩ := one_of h; obtain ⟨v, h1, h2⟩ := hl 0 c rfl; exact leaf_rep h h2 h1
  | sl e => intro l x g hl h; obtain ⟨c, rfl, h⟩ := one_of h; obtain ⟨v, h1, h2⟩ := hl 0 c rfl; exact leaf_rep h h2 h1
  | ar n e ih => intro l x g hl h; exact ⟨(decF_len (fun _ _ h => decD_len h) h).1, decF_rep (fun _ _ h => decD_len h) (fun hl h => ih hl h) hl h⟩
  | pr a b iha ihb =>
    intro l x g hl h
    simp only [decD] at h
    split at h
    · rename_i x y h1 h2
      cases h
      exact ⟨iha (hl.take _) h1, ihb (hl.drop _) h2⟩
    · cases h
theorem decs_rep {t : Ty} {n : Nat} {l : List CV} {xs : List t.D} {g : Cells} (hl : LRep w own σ l g) (h : decs t n l = some xs) : xs.length = n ∧ l.length = n * t.sz ∧ ∀ (i : Nat) x, xs[i]? = some x → RepD w own t x (fun j => g (i * t.sz + j)) :=
  ⟨(decF_len (fun _ _ h => decD_len h) h).1, (decF_len (fun _ _ h => decD_len h) h).2, decF_rep (fun _ _ h => decD_len h) (fun hl h => decD_rep hl h) hl h⟩
theorem one_list {t : Ty} {x : t.D} {g : Cells} (h : RepD w own t x g) : ∀ (i : Nat) y, [x][i]? = some y → RepD w own t y (fun j => g (i * t.sz + j)) := fun i y hy => by
  cases i with
  | zero => simp at hy; subst hy; exact RepD.cells (fun j v hv => by simpa using hv) h
  | succ i => simp at hy
theorem oneRow_rep : ∀ {t : Ty} {x : t.D} {g : Cells}, RepD w own t x g → RowRep w own σ (oneRow t x) g ∧ (oneRow t x).size = t.sz
  | .i k, _, _, h => ⟨one_list h, by simp [oneRow, Row.size]⟩
  | .bo, _, _, h => ⟨one_list h, by simp [oneRow, Row.size]⟩
  | .st, _, _, h => ⟨one_list h, by simp [oneRow, Row.size]⟩
  | .f k, _, _, h => ⟨one_list h, by simp [oneRow, Row.size]⟩
  | .sl e, _, _, h => ⟨one_list h, by simp [oneRow, Row.size]⟩
  | .pr a b, _, _, h => ⟨one_list h, by simp [oneRow, Row.size]⟩
  | .ar n e, xs, _, h => ⟨h.2, by simp only [oneRow, Row.size, Ty.sz, h.1]⟩
theorem subD_rep : ∀ {t : Ty} {x : t.D} {g : Cells} {j n : Nat} {r : Row}, RepD w own t x g → subD t x j n = some r → RowRep w own σ r (fun k => g (j + k)) ∧ r.size = n ∧ j + n ≤ t.sz := by
  intro t
  induction t with
  | i k => intro x g j n r h he; cases he
  | bo => intro x g j n r h he; cases he
  | st => intro x g j n r h he; cases he
  | f k => intro x g j n r h he; cases he
  | sl e => intro x g j n r h he; cases he
  | ar m e => intro x g j n r h he; cases he
  | pr a b iha ihb =>
    intro x g j n r h he
    simp only [subD] at he
    split at he
    · split at he
      · rename_i h0
        cases he
        obtain ⟨rfl, rfl⟩ := h0
        obtain ⟨h1, h2⟩ := oneRow_rep (σ := σ) h.1
        exact ⟨RowRep.only (fun k v _ hv => by simpa using hv) h1, h2, by simp [Ty.sz]⟩
      · obtain ⟨h1, h2, h3⟩ := iha h.1 he
        exact ⟨h1, h2, by simp only [Ty.sz]; omega⟩
    · split at he
      · rename_i hle
        split at he
        · rename_i h0
          cases he
          obtain ⟨rfl, rfl⟩ := h0
          obtain ⟨h1, h2⟩ := oneRow_rep (σ := σ) h.2
          exact ⟨h1, h2, by simp [Ty.sz]⟩
        · obtain ⟨h1, h2, h3⟩ := ihb h.2 he
          exact ⟨RowRep.only (fun k v _ hv => by rw [show j + k = a.sz + (j - a.sz + k) by omega]; exact hv) h1, h2, by simp only [Ty.sz]; omega⟩
      · cases he
theorem cast_len {t t' : Ty} (h : t' = t) (xs : List t'.D) : (h ▸ xs : List t.D).length = xs.length := by subst h; rfl
theorem as_rep {t : Ty} {r : Row} {xs : List t.D} {g : Cells} (hr : RowRep w own σ r g) (h : r.as t = some xs) : (∀ (i : Nat) x, xs[i]? = some x → RepD w own t x (fun j => g (i * t.sz + j))) ∧ r.size = xs.length * t.sz := by
  cases r with
  | ty t' ys =>
    simp only [Row.as] at h
    split at h
    · rename_i ht; subst ht; cases h; exact ⟨hr, rfl⟩
    · cases h
  | raw l =>
    simp only [Row.as] at h
    split at h
    · cases h
    · obtain ⟨h1, h2, h3⟩ := decs_rep hr h
      exact ⟨h3, by rw [h1]; exact h2⟩
theorem single {t : Ty} {r : Row} {x : t.D} {g : Cells} (hr : RowRep w own σ r g) (h : single? (r.as t) = some x) : RepD w own t x g ∧ r.size = t.sz := by
  unfold single? at h
  split at h
  · rename_i y hy
    cases h
    obtain ⟨h1, h2⟩ := as_rep hr hy
    exact ⟨RepD.cells (fun j v hv => by simpa using hv) (h1 0 x rfl), by simpa using h2⟩
  · cases h
theorem rowOne_rep : ∀ {t : Ty} {r : Row} {x : t.D} {g : Cells}, RowRep w own σ r g → Row.one t r = some x → RepD w own t x g ∧ r.size = t.sz
  | .i k, _, _, _, hr, h => single hr h
  | .bo, _, _, _, hr, h => single hr h
  | .st, _, _, _, hr, h => single hr h
  | .f k, _, _, _, hr, h => single hr h
  | .sl e, _, _, _, hr, h => single hr h
  | .pr a b, _, _, _, hr, h => single hr h
  | .ar n e, r, x, g, hr, h => by
    simp only [Row.one] at h
    split at h
    · rename_i xs hxs
      split at h
      · cases h
        obtain ⟨h1, h2⟩ := as_rep hr hxs
        exact ⟨⟨‹_›, h1⟩, by rw [h2]; simp only [Ty.sz]; rw [‹x.length = n›]⟩
      · cases h
    · cases h
theorem at0_rep {r : Row} {i e j : Nat} {c : CV} {g : Cells} (hr : RowRep w own σ r g) (h : r.at0 i e j = some c) : ∃ v, g (i * e + j) = some v ∧ Rep w own σ c v := by
  cases r with
  | raw l => exact hr _ c h
  | ty t xs =>
    simp only [Row.at0] at h
    split at h
    · rename_i he
      subst he
      split at h
      · rename_i x hx
        obtain ⟨v, h1, h2⟩ := enc_rep (σ := σ) (hr i x hx) h
        exact ⟨v, h1, h2⟩
      · cases h
    · cases h
theorem sub0_rep {r r' : Row} {i e j n : Nat} {g : Cells} (hr : RowRep w own σ r g) (h : r.sub0 i e j n = some r') : RowRep w own σ r' (fun k => g (i * e + j + k)) ∧ r'.size = n ∧ i * e + j + n ≤ r.size := by
  cases r with
  | raw l =>
    simp only [Row.sub0] at h
    split at h
    · cases h
      exact ⟨(LRep.drop hr _).take _, by simp only [Row.size, List.length_take, List.length_drop]; omega, ‹_›⟩
    · cases h
  | ty t xs =>
    have lt_le : ∀ {k m : Nat}, k < xs.length → m ≤ t.sz → k * t.sz + m ≤ xs.length * t.sz := fun {k m} hk hm => by
      have := Nat.mul_le_mul_right t.sz (show k + 1 ≤ xs.length from hk)
      rw [Nat.add_mul, Nat.one_mul] at this; omega
    simp only [Row.sub0] at h
    split at h
    · rename_i h0
      obtain ⟨rfl, rfl, rfl⟩ := h0
      split at h
      · rename_i x hx
        cases h
        obtain ⟨h1, h2⟩ := oneRow_rep (σ := σ) (hr i x hx)
        exact ⟨h1, h2, lt_le (List.getElem?_eq_some_iff.1 hx).1 (Nat.le_refl _)⟩
      · cases h
    · split at h
      · rename_i h0
        cases h
        obtain ⟨rfl, rfl, rfl⟩ := h0
        exact ⟨RowRep.only (fun k v _ hv => by simpa using hv) hr, rfl, by simp [Row.size]⟩
      · split at h
        · rename_i he
          subst he
          split at h
          · rename_i x hx
            obtain ⟨h1, h2, h3⟩ := subD_rep (σ := σ) (hr i x hx) h
            exact ⟨RowRep.only (fun k v _ hv => by rw [Nat.add_assoc]; exact hv) h1, h2, by rw [Nat.add_assoc]; exact lt_le (List.getElem?_eq_some_iff.1 hx).1 h3⟩
          · cases h
        · cases h
theorem put0_rep {r r' : Row} {i e j : Nat} {c : CV} {v : Value} {g g' : Cells} (hr : RowRep w own σ r g) (h : r.put0 i e j c = some r') (hc : Rep w own σ c v) (h1 : g' (i * e + j) = some v) (h2 : ∀ k, k ≠ i * e + j → g' k = g k) :
    RowRep w own σ r' g' ∧ r'.size = r.size ∧ i * e + j < r.size := by
  cases r with
  | raw l =>
    simp only [Row.put0] at h
    split at h
    · rename_i hlt
      cases h
      refine ⟨fun k d hd => ?_, by simp [Row.size], hlt⟩
      by_cases hk : i * e + j = k
      · subst hk
        rw [List.getElem?_set_self hlt] at hd
        cases hd
        exact ⟨v, h1, hc⟩
      · rw [List.getElem?_set_ne hk] at hd
        rw [h2 k (fun h => hk h.symm)]
        exact hr k d hd
    · cases h
  | ty t xs =>
    simp only [Row.put0] at h
    split at h
    · rename_i he
      subst he
      split at h
      · rename_i x hx
        obtain ⟨y, hy, rfl⟩ := Option.map_eq_some_iff.1 h
        have hi : i < xs.length := (List.getElem?_eq_some_iff.1 hx).1
        have hj := setD_lt (hr i x hx) hy
        refine ⟨fun k z hz => ?_, by simp [Row.size], mul_add_lt hi hj⟩
        by_cases hk : i = k
        · subst hk
          rw [List.getElem?_set_self hi] at hz
          cases hz
          exact setD_rep (hr i x hx) hy hc h1 (fun k hk => h2 _ (by omega))
        · rw [List.getElem?_set_ne hk] at hz
          refine RepD.only (fun m u hm hu => ?_) (hr k z hz)
          have hne : k * t.sz + m ≠ i * t.sz + j := fun heq => hk (by
            have e1 : (k * t.sz + m) / t.sz = k := by rw [Nat.mul_comm, Nat.mul_add_div (by omega), Nat.div_eq_of_lt hm]; rfl
            have e2 : (i * t.sz + j) / t.sz = i := by rw [Nat.mul_comm, Nat.mul_add_div (by omega), Nat.div_eq_of_lt hj]; rfl
            rw [← e1, ← e2, heq])
          show g' (k * t.sz + m) = _
          rw [h2 _ hne]; exact hu
      · cases h
    · cases h
theorem puts0_rep {r r' q : Row} {i e j : Nat} {g g' : Cells} (hr : RowRep w own σ r g) (h : r.puts0 i e j q = some r') (hq : RowRep w own σ q (fun k => g' (i * e + j + k))) (h2 : ∀ k, k < i * e + j ∨ i * e + j + q.size ≤ k → g' k = g k) :
    RowRep w own σ r' g' ∧ r'.size = r.size ∧ i * e + j + q.size ≤ r.size := by
  have whole : i = 0 ∧ j = 0 ∧ q.size = r.size → r' = q → RowRep w own σ r' g' ∧ r'.size = r.size ∧ i * e + j + q.size ≤ r.size := fun h0 hq' => by
    obtain ⟨rfl, rfl, h3⟩ := h0
    subst hq'
    exact ⟨RowRep.only (fun k v _ hv => by simpa using hv) hq, h3, by simp [h3]⟩
  cases r with
  | raw l =>
    simp only [Row.puts0] at h
    split at h
    · rename_i h0; cases h; exact whole h0 rfl
    · split at h
      · rename_i l' _
        split at h
        · rename_i hle
          cases h
          refine ⟨?_, by simp only [Row.size, List.length_append, List.length_take, List.length_drop]; omega, hle⟩
          have ht : (l.take (i * e + j)).length = i * e + j := by rw [List.length_take]; omega
          rw [List.append_assoc]
          refine LRep.append (fun k c hc => ?_) (LRep.append ?_ (fun k c hc => ?_))
          · have hk : k < i * e + j := by have := (List.getElem?_eq_some_iff.1 hc).1; omega
            rw [h2 k (.inl hk)]
            exact LRep.take hr _ k c hc
          · rw [ht]; exact hq
          · rw [ht]
            simp only
            rw [h2 _ (.inr (by simp only [Row.size]; omega))]
            have := LRep.drop hr (i * e + j + l'.length) k c hc
            simpa only [Nat.add_assoc] using this
        · cases h
      · cases h
  | ty t xs =>
    simp only [Row.puts0] at h
    split at h
    · rename_i h0; cases h; exact whole h0 rfl
    · split at h
      · rename_i h0
        obtain ⟨rfl, rfl, hi⟩ := h0
        obtain ⟨y, hy, rfl⟩ := Option.map_eq_some_iff.1 h
        obtain ⟨hy1, hy2⟩ := rowOne_rep hq hy
        have hle : i * t.sz + t.sz ≤ xs.length * t.sz := by
          have := Nat.mul_le_mul_right t.sz (show i + 1 ≤ xs.length from hi)
          rwa [Nat.add_mul, Nat.one_mul] at this
        refine ⟨fun k z hz => ?_, by simp [Row.size], by rw [hy2]; simpa [Row.size] using hle⟩
        by_cases hk : i = k
        · subst hk
          rw [List.getElem?_set_self hi] at hz
          cases hz
          exact hy1
        · rw [List.getElem?_set_ne hk] at hz
          refine RepD.only (fun m u hm hu => ?_) (hr k z hz)
          show g' (k * t.sz + m) = _
          rw [h2 _ ?_]
          · exact hu
          · rw [hy2]
            rcases Nat.lt_or_ge k i with hki | hki
            · left
              have := mul_add_lt hki hm
              omega
            · right
              have := Nat.mul_le_mul_right t.sz (show i + 1 ≤ k by omega)
              rw [Nat.add_mul, Nat.one_mul] at this
              omega
      · cases h
theorem Row.eN_mul (r : Row) (i e : Nat) : i * r.eN i e = i * e := by
  cases r with
  | raw l => rfl
  | ty t xs =>
    simp only [Row.eN]
    split
    · rename_i h; subst h; simp
    · rfl
theorem at_rep {r : Row} {i e j : Nat} {c : CV} {g : Cells} (hr : RowRep w own σ r g) (h : r.at i e j = some c) : ∃ v, g (i * e + j) = some v ∧ Rep w own σ c v := by
  have := at0_rep hr h; rwa [Row.eN_mul] at this
theorem sub_rep {r r' : Row} {i e j n : Nat} {g : Cells} (hr : RowRep w own σ r g) (h : r.sub i e j n = some r') : RowRep w own σ r' (fun k => g (i * e + j + k)) ∧ r'.size = n ∧ i * e + j + n ≤ r.size := by
  have := sub0_rep hr h; rwa [Row.eN_mul] at this
theorem put_rep {r r' : Row} {i e j : Nat} {c : CV} {v : Value} {g g' : Cells} (hr : RowRep w own σ r g) (h : r.put i e j c = some r') (hc : Rep w own σ c v) (h1 : g' (i * e + j) = some v) (h2 : ∀ k, k ≠ i * e + j → g' k = g k) :
    RowRep w own σ r' g' ∧ r'.size = r.size ∧ i * e + j < r.size := by
  have := put0_rep (g' := g') hr h hc (by rw [Row.eN_mul]; exact h1) (fun k hk => h2 k (by rw [Row.eN_mul] at hk; exact hk)); rwa [Row.eN_mul] at this
theorem puts_rep {r r' q : Row} {i e j : Nat} {g g' : Cells} (hr : RowRep w own σ r g) (h : r.puts i e j q = some r') (hq : RowRep w own σ q (fun k => g' (i * e + j + k))) (h2 : ∀ k, k < i * e + j ∨ i * e + j + q.size ≤ k → g' k = g k) :
    RowRep w own σ r' g' ∧ r'.size = r.size ∧ i * e + j + q.size ≤ r.size := by
  have := puts0_rep (g' := g') hr h (by rw [Row.eN_mul]; exact hq) (fun k hk => h2 k (by rw [Row.eN_mul] at hk; exact hk)); rwa [Row.eN_mul] at this
theorem part_rep {r r' : Row} {o n e : Nat} {g : Cells} (hr : RowRep w own σ r g) (h : r.part o n e = some r') : RowRep w own σ r' (fun k => g (o * e + k)) ∧ r'.size = n * e ∧ (o + n) * e ≤ r.size := by
  cases r with
  | raw l =>
    simp only [Row.part] at h
    split at h
    · rename_i hle
      cases h
      rw [Nat.add_mul] at hle
      exact ⟨(LRep.drop hr _).take _, by simp only [Row.size, List.length_take, List.length_drop]; omega, by rw [Nat.add_mul]; exact hle⟩
    · cases h
  | ty t xs =>
    simp only [Row.part] at h
    split at h
    · rename_i he
      subst he
      split at h
      · rename_i h0
        cases h
        obtain ⟨rfl, rfl⟩ := h0
        exact ⟨RowRep.only (fun k v _ hv => by simpa using hv) hr, rfl, by simp [Row.size]⟩
      · split at h
        · rename_i hle
          cases h
          refine ⟨fun i x hx => ?_, by simp only [Row.size, List.length_take, List.length_drop]; rw [Nat.min_eq_left (by omega)], Nat.mul_le_mul_right _ hle⟩
          rw [List.getElem?_take] at hx
          split at hx
          · rw [List.getElem?_drop] at hx
            refine RepD.cells (fun j v hv => ?_) (hr _ x hx)
            show g (o * t.sz + (i * t.sz + j)) = _
            rw [← Nat.add_assoc, ← Nat.add_mul]; exact hv
          · cases hx
        · cases h
    · cases h
theorem list_append_rep {t : Ty} {xs ys : List t.D} {g : Cells} (h1 : ∀ (i : Nat) x, xs[i]? = some x → RepD w own t x (fun j => g (i * t.sz + j))) (h2 : ∀ (i : Nat) x, ys[i]? = some x → RepD w own t x (fun j => g (xs.length * t.sz + (i * t.sz + j)))) :
    ∀ (i : Nat) x, (xs ++ ys)[i]? = some x → RepD w own t x (fun j => g (i * t.sz + j)) := fun i x hx => by
  by_cases hi : i < xs.length
  · rw [List.getElem?_append_left hi] at hx; exact h1 i x hx
  · rw [List.getElem?_append_right (by omega)] at hx
    refine RepD.cells (fun j v hv => ?_) (h2 _ x hx)
    rw [← Nat.add_assoc, ← Nat.add_mul, show xs.length + (i - xs.length) = i by omega] at hv; exact hv
theorem app_rep {r q r' : Row} {g : Cells} (hr : RowRep w own σ r g) (h : r.app q = some r') (hq : RowRep w own σ q (fun k => g (r.size + k))) : RowRep w own σ r' g ∧ r'.size = r.size + q.size := by
  unfold Row.app at h
  split at h
  · cases h; exact ⟨RowRep.only (fun k v _ hv => by simpa [Row.size] using hv) hq, by simp [Row.size]⟩
  · rename_i t xs
    split at h
    · rename_i ys hys
      cases h
      obtain ⟨h1, h2⟩ := as_rep hq hys
      exact ⟨list_append_rep hr h1, by rw [h2]; simp only [Row.size, List.length_append, Nat.add_mul]⟩
    · cases h
  · cases h; exact ⟨LRep.append hr hq, by simp [Row.size]⟩
  · rename_i l t ys _
    split at h
    · rename_i xs hxs
      cases h
      obtain ⟨h1, h2⟩ := as_rep hr hxs
      exact ⟨list_append_rep h1 (fun i x hx => RepD.cells (fun j v hv => by rw [← h2]; exact hv) (hq i x hx)), by rw [h2]; simp only [Row.size, List.length_append, Nat.add_mul]⟩
    · cases h
theorem over_rep {q r' : Row} {o n : Nat} {t : Ty} {xs : List t.D} {g g' : Cells} (hr : RowRep w own σ (.ty t xs) g) (h : (Row.ty t xs).over o n q = some r') (hq : RowRep w own σ q (fun k => g' (o * t.sz + k))) (h2 : ∀ k, k < o * t.sz ∨ o * t.sz + q.size ≤ k → g' k = g k) :
    RowRep w own σ r' g' ∧ r'.size = xs.length * t.sz ∧ q.size = n * t.sz ∧ o + n ≤ xs.length := by
  simp only [Row.over] at h
  split at h
  · rename_i ys hys
    split at h
    · rename_i h0
      cases h
      obtain ⟨hle, hn⟩ := h0
      obtain ⟨q1, q2⟩ := as_rep hq hys
      have hto : (xs.take o).length = o := by rw [List.length_take]; omega
      refine ⟨list_append_rep (list_append_rep (fun i x hx => ?_) (fun i x hx => ?_)) (fun i x hx => ?_), by simp only [Row.size, List.length_append, List.length_take, List.length_drop]; congr 1; omega, by rw [q2, hn], hle⟩
      · rw [List.getElem?_take] at hx
        split at hx
        · rename_i hio
          refine RepD.only (fun j v hj hv => ?_) (hr i x hx)
          show g' (i * t.sz + j) = _
          rw [h2 _ (.inl (mul_add_lt hio hj))]; exact hv
        · cases hx
      · rw [hto]; exact q1 i x hx
      · rw [List.length_append, hto, hn]
        rw [List.getElem?_drop] at hx
        refine RepD.cells (fun j v hv => ?_) (hr _ x hx)
        rw [h2 _ (.inr ?_)]
        · rw [← Nat.add_assoc, ← Nat.add_mul]; exact hv
        · rw [q2, hn, ← Nat.add_mul]; omega
    · cases h
  · cases h
end
end Go.Proofs.Ytbdnhoddkdiogaa
