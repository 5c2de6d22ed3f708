/- AHI, part N: a part of a heap handed on under other numbers (the frame), and some rows lent to be read. -/
import Derived.Test.YtbdnhoddkdiogaaAhM
set_option linter.unusedSimpArgs false
set_option linter.unusedVariables false
namespace Go.Proofs.Ytbdnhoddkdiogaa
open Go.RowKit

def CV.mapId (f : Nat → Nat) : CV → CV
  | .ptr id i e j => .ptr (f id) i e j
  | .sl id o len e => .sl (f id) o len e
  | .fn g ids => .fn g (ids.map f)
  | c => c
def Row.mapId (f : Nat → Nat) : Row → Row
  | .raw l => .raw (l.map (CV.mapId f))
  | .ty t xs => .ty t xs
def AV.map1 (f : Nat → Nat) : AV → AV
  | .c x => .c (x.mapId f)
  | .agg r => .agg (r.mapId f)
  | .tup l => .tup l
def AV.mapId (f : Nat → Nat) : AV → AV
  | .tup l => .tup (l.map (AV.map1 f))
  | .c x => .c (x.mapId f)
  | .agg r => .agg (r.mapId f)
/-- Without slices and pointers into memory that is not written. -/
def Ty.flat : Ty → Bool
  | .sl _ => false | .pr a b => a.flat && b.flat | .ar _ e => e.flat | _ => true
def CV.flat : CV → Bool
  | .rs _ _ => false | .rp _ _ _ _ => false | _ => true
def Row.flat : Row → Bool
  | .raw l => l.all CV.flat | .ty t _ => t.flat
def AV.flat1 : AV → Bool
  | .c x => x.flat | .agg r => r.flat | .tup _ => true
def AV.flat : AV → Bool
  | .c x => x.flat | .agg r => r.flat | .tup l => l.all AV.flat1
section
variable {P : Program} {X : Nat → Prop} {σ σ' τ : Sg} {s s' : St} {H H' C C' L L' : Hp} {a : Act} {w w' : World} {B : Nat} {f : Nat → Nat} {o o' Z : Nat → Prop}
theorem RepD.flat (o o' : Nat → Prop) : ∀ {t : Ty} {x : t.D} {g : Cells}, t.flat = true → RepD w o t x g → RepD w o' t x g
  | .i _, _, _, _, h => h
  | .bo, _, _, _, h => h
  | .st, _, _, _, h => h
  | .f _, _, _, _, h => h
  | .sl _, _, _, hf, _ => by cases hf
  | .pr a b, _, _, hf, ⟨h1, h2⟩ => by
    simp only [Ty.flat, Bool.and_eq_true] at hf
    exact ⟨RepD.flat o o' hf.1 h1, RepD.flat o o' hf.2 h2⟩
  | .ar n e, _, _, hf, ⟨h1, h2⟩ => ⟨h1, fun i x hx => RepD.flat o o' (t := e) hf (h2 i x hx)⟩
/-- Under other numbers; of what is owned only flat things may know less. -/
theorem Rep.map (hs : ∀ id x, σ id = some x → τ (f id) = some x) {c : CV} {v : Value} (ho : c.flat = true ∨ ∀ b, o' b → o b) (h : Rep w o σ c v) : Rep w o' τ (c.mapId f) v := by
  cases c with
  | v x => exact h
  | e0 => exact h
  | ptr id i e j => obtain ⟨b, base, ext, h1, h2⟩ := h; exact ⟨b, base, ext, hs _ _ h1, h2⟩
  | sl id k len e => exact h.imp (fun h => h) fun ⟨b, base, ext, c, h1, h2⟩ => ⟨b, base, ext, c, hs _ _ h1, h2⟩
  | rs t xs =>
    rcases ho with ho | ho
    · cases ho
    · exact RepSl.mono (w := w) (own := o) ⟨Nat.le_refl _, fun _ _ _ => rfl, fun b hb => .inl (ho b hb)⟩ h
  | rp t xs i j =>
    rcases ho with ho | ho
    · cases ho
    · exact Rep.mono (σ := σ) (σ' := σ) (c := .rp t xs i j) (w := w) (own := o) ⟨Nat.le_refl _, fun _ _ _ => rfl, fun b hb => .inl (ho b hb)⟩ (fun _ _ h => h) h
  | fn g ids =>
    obtain ⟨ps, h1, h2, h3⟩ := h
    refine ⟨ps, h1, by rw [h2, List.length_map], fun k id hk => ?_⟩
    rw [List.getElem?_map] at hk
    obtain ⟨i, hi, rfl⟩ := Option.map_eq_some_iff.1 hk
    obtain ⟨b, base, ext, h4, h5⟩ := h3 k i hi
    exact ⟨b, base, ext, hs _ _ h4, h5⟩
theorem RowRep.map (hs : ∀ id x, σ id = some x → τ (f id) = some x) {r : Row} {g : Cells} (ho : r.flat = true ∨ ∀ b, o' b → o b) (h : RowRep w o σ r g) : RowRep w o' τ (r.mapId f) g := by
  cases r with
  | raw l =>
    intro i c hc
    rw [List.getElem?_map] at hc
    obtain ⟨d, hd, rfl⟩ := Option.map_eq_some_iff.1 hc
    obtain ⟨v, h1, h2⟩ := h i d hd
    exact ⟨v, h1, h2.map hs (ho.imp (fun ho => List.all_eq_true.1 ho d (List.mem_of_getElem? hd)) (fun h => h))⟩
  | ty t xs =>
    intro i x hx
    rcases ho with ho | ho
    · exact RepD.flat o o' ho (h i x hx)
    · exact RepD.mono (w := w) (own := o) ⟨Nat.le_refl _, fun _ _ _ => rfl, fun b hb => .inl (ho b hb)⟩ (fun _ _ h => h) (h i x hx)
theorem Row.size_map (r : Row) : (r.mapId f).size = r.size := by cases r <;> simp [Row.mapId, Row.size]
theorem Rep1.map (hs : ∀ id x, σ id = some x → τ (f id) = some x) {x : AV} {v : Value} (ho : x.flat1 = true ∨ ∀ b, o' b → o b) (h : Rep1 w o σ x v) : Rep1 w o' τ (x.map1 f) v := by
  cases x with
  | c c => exact Rep.map hs ho h
  | agg r => obtain ⟨vs, h1, h2, h3⟩ := h; exact ⟨vs, h1, h2.trans (Row.size_map r).symm, h3.map hs ho⟩
  | tup l => exact h
theorem RepA.map (hs : ∀ id x, σ id = some x → τ (f id) = some x) {x : AV} {v : Value} (ho : x.flat = true ∨ ∀ b, o' b → o b) (h : RepA w o σ x v) : RepA w o' τ (x.mapId f) v := by
  cases x with
  | c c => exact Rep.map hs ho h
  | agg r => obtain ⟨vs, h1, h2, h3⟩ := h; exact ⟨vs, h1, h2.trans (Row.size_map r).symm, h3.map hs ho⟩
  | tup l =>
    obtain ⟨vs, h1, h2, h3⟩ := h
    refine ⟨vs, h1, by rw [h2, List.length_map], fun i y hy => ?_⟩
    rw [List.getElem?_map] at hy
    obtain ⟨z, hz, rfl⟩ := Option.map_eq_some_iff.1 hy
    obtain ⟨v, h4, h5⟩ := h3 i z hz
    exact ⟨v, h4, h5.map hs (ho.imp (fun ho => List.all_eq_true.1 ho z (List.mem_of_getElem? hz)) (fun h => h))⟩
/-- Back: what is said under the other numbers. -/
theorem Rep.unmap {c : CV} {v : Value} (ho : ∀ b, o' b → o b) (h : Rep w o σ (c.mapId f) v) : Rep w o' (fun i => σ (f i)) c v := by
  cases c with
  | v x => exact h
  | e0 => exact h
  | ptr id i e j => exact h
  | sl id k len e => exact h
  | rs t xs => exact RepSl.mono (w := w) (own := o) ⟨Nat.le_refl _, fun _ _ _ => rfl, fun b hb => .inl (ho b hb)⟩ h
  | rp t xs i j => exact Rep.mono (σ := σ) (σ' := σ) (c := .rp t xs i j) (w := w) (own := o) ⟨Nat.le_refl _, fun _ _ _ => rfl, fun b hb => .inl (ho b hb)⟩ (fun _ _ h => h) h
  | fn g ids =>
    obtain ⟨ps, h1, h2, h3⟩ := h
    refine ⟨ps, h1, by rw [h2, List.length_map], fun k id hk => ?_⟩
    exact h3 k (f id) (by rw [List.getElem?_map, hk]; rfl)
theorem RowRep.unmap {r : Row} {g : Cells} (ho : ∀ b, o' b → o b) (h : RowRep w o σ (r.mapId f) g) : RowRep w o' (fun i => σ (f i)) r g := by
  cases r with
  | raw l =>
    intro i c hc
    obtain ⟨v, h1, h2⟩ := h i (c.mapId f) (by show (l.map _)[i]? = _; rw [List.getElem?_map, hc]; rfl)
    exact ⟨v, h1, h2.unmap ho⟩
  | ty t xs => exact fun i x hx => RepD.mono (w := w) (own := o) ⟨Nat.le_refl _, fun _ _ _ => rfl, fun b hb => .inl (ho b hb)⟩ (fun _ _ h => h) (h i x hx)
theorem Rep1.unmap {x : AV} {v : Value} (ho : ∀ b, o' b → o b) (h : Rep1 w o σ (x.map1 f) v) : Rep1 w o' (fun i => σ (f i)) x v := by
  cases x with
  | c c => exact Rep.unmap ho h
  | agg r => obtain ⟨vs, h1, h2, h3⟩ := h; exact ⟨vs, h1, h2.trans (Row.size_map r), h3.unmap ho⟩
  | tup l => exact h
/-- Whether the part has that row. -/
def liveAt (L : Hp) (i : Nat) : Prop := ∃ q, L[i]? = some (some q)
/-- The others' blocks, as the part sees them: Z are the rows that are lent. -/
def others (X : Nat → Prop) (σ : Sg) (C L : Hp) (f : Nat → Nat) (Z : Nat → Prop) (b : Nat) : Prop :=
  X b ∨ ∃ id r x, C[id]? = some (some r) ∧ σ id = some (b, x) ∧ (∀ i, f i = id → ¬ liveAt L i) ∧ ¬ Z id
/-- A part of the heap. -/
structure Part (σ : Sg) (C L : Hp) (f : Nat → Nat) (Z : Nat → Prop) : Prop where
  inj : ∀ i j, f i = f j → i = j
  row : ∀ i q, L[i]? = some (some q) → σ (f i) = none ∨ C[f i]? = some (some (q.mapId f))
  fresh : ∀ i, L.length ≤ i → σ (f i) = none
  lent : ∀ i, liveAt L i → ¬ Z (f i)
theorem Part.owns (hp : Part σ C L f Z) (b : Nat) : own (others X σ C L f Z) (fun i => σ (f i)) L b ↔ own X σ C b ∧ (X b ∨ ∃ id r x, C[id]? = some (some r) ∧ σ id = some (b, x) ∧ ¬ Z id) := by
  constructor
  · rintro (⟨i, q, x, h1, h2⟩ | h | ⟨id, r, x, h1, h2, -, h3⟩)
    · have hr : C[f i]? = some (some (q.mapId f)) := (hp.row i q h1).resolve_left (fun h => by simp only at h2; rw [h] at h2; cases h2)
      exact ⟨.inl ⟨f i, _, x, hr, h2⟩, .inr ⟨f i, _, x, hr, h2, hp.lent i ⟨q, h1⟩⟩⟩
    · exact ⟨.inr h, .inl h⟩
    · exact ⟨.inl ⟨id, r, x, h1, h2⟩, .inr ⟨id, r, x, h1, h2, h3⟩⟩
  · rintro ⟨-, h | ⟨id, r, x, h1, h2, h3⟩⟩
    · exact .inr (.inl h)
    · by_cases h : ∃ i, f i = id ∧ liveAt L i
      · obtain ⟨i, rfl, q, hq⟩ := h
        exact .inl ⟨i, q, x, hq, h2⟩
      · exact .inr (.inr ⟨id, r, x, h1, h2, fun i hi hl => h ⟨i, hi, hl⟩, h3⟩)
theorem Part.le (hp : Part σ C L f Z) (b : Nat) (h : Go.Proofs.Ytbdnhoddkdiogaa.own (others X σ C L f Z) (fun i => σ (f i)) L b) : Go.Proofs.Ytbdnhoddkdiogaa.own X σ C b := ((hp.owns b).1 h).1
theorem Part.heap (hp : Part σ C L f Z) (hh : HeapRep X σ C w) : HeapRep (others X σ C L f Z) (fun i => σ (f i)) L w := by
  refine ⟨fun i hi => hp.fresh i hi, fun i q hq => ?_, fun b hb => ?_, fun b hb => ?_, fun i j q q' b x x' h1 h2 h3 h4 => ?_⟩
  · rcases hp.row i q hq with h | h
    · exact .inl h
    · rcases hh.row (f i) _ h with h1 | ⟨b, base, ext, h1, h2, h3, h4, h5⟩
      · exact .inl h1
      · exact .inr ⟨b, base, ext, h1, h2, by rw [Row.size_map] at h3; exact h3, h4, h5.unmap hp.le⟩
  · rcases hb with hb | ⟨id, r, x, h1, h2, -⟩
    · exact hh.xlt b hb
    · exact hh.own_lt ⟨id, r, x, h1, h2⟩
  · rintro ⟨i, q, x, h1, h2⟩
    have hr : C[f i]? = some (some (q.mapId f)) := (hp.row i q h1).resolve_left (fun h => by simp only at h2; rw [h] at h2; cases h2)
    rcases hb with hb | ⟨id, r, y, h3, h4, h5, -⟩
    · exact hh.xdis b hb ⟨f i, _, x, hr, h2⟩
    · exact h5 i (hh.inj _ _ _ _ _ _ _ hr h3 h2 h4) ⟨q, h1⟩
  · have hr : C[f i]? = some (some (q.mapId f)) := (hp.row i q h1).resolve_left (fun h => by rw [h] at h3; cases h3)
    have hr' : C[f j]? = some (some (q'.mapId f)) := (hp.row j q' h2).resolve_left (fun h => by rw [h] at h4; cases h4)
    exact hp.inj i j (hh.inj _ _ _ _ _ _ _ hr hr' h3 h4)
open Classical in
/-- The numbers afterwards. -/
noncomputable def sgAfter (σ σ' : Sg) (f : Nat → Nat) (n : Nat) : Sg := fun id => if h : ∃ i, f i = id ∧ i < n then σ' h.choose else σ id
theorem sgAfter_at (hp : Part σ C L f Z) {n i : Nat} (hi : i < n) : sgAfter σ σ' f n (f i) = σ' i := by
  unfold sgAfter
  have h : ∃ j, f j = f i ∧ j < n := ⟨i, rfl, hi⟩
  rw [dif_pos h, hp.inj _ _ h.choose_spec.1]
theorem sgAfter_else {n id : Nat} (h : ∀ i, f i = id → n ≤ i) : sgAfter σ σ' f n id = σ id := by
  unfold sgAfter
  rw [dif_neg]
  rintro ⟨i, h1, h2⟩
  have := h i h1
  omega
/-- The heap afterwards. -/
structure PartOut (C L : Hp) (f : Nat → Nat) (L' C' : Hp) : Prop where
  len : C.length ≤ C'.length
  lt : ∀ i, i < L'.length → f i < C'.length
  row : ∀ id r, C'[id]? = some (some r) → (∃ i q, f i = id ∧ L'[i]? = some (some q) ∧ r = q.mapId f) ∨ (C[id]? = some (some r) ∧ ∀ i, f i = id → i < L.length ∧ ¬ liveAt L i)
theorem Part.out (hp : Part σ C L f Z) (hh : HeapRep X σ C w) (ho : PartOut C L f L' C') (hst : Step (fun i => σ (f i)) L w σ' L' w') (hh' : HeapRep (others X σ C L f Z) σ' L' w')
    (hZ : (∀ id, ¬ Z id) ∨ ∀ (i : Nat) (q : Row), L'[i]? = some (some q) → q.flat = true) :
    ∃ τ, HeapRep X τ C' w' ∧ (∀ id x, σ id = some x → τ id = some x) ∧ Keeps w (ownB σ C) w' (ownB τ C') ∧ (∀ i, τ (f i) = σ' i) ∧ (∀ id, (∀ i, f i = id → i < L.length ∨ L'.length ≤ i) → τ id = σ id) ∧
      (∀ x v, RepA w' (own (others X σ C L f Z) σ' L') σ' x v → ((∀ id, ¬ Z id) ∨ x.flat = true) → RepA w' (own X τ C') τ (x.mapId f) v) := by
  have hf : ∀ i, sgAfter σ σ' f L'.length (f i) = σ' i := fun i => by
    rcases Nat.lt_or_ge i L'.length with hi | hi
    · exact sgAfter_at hp hi
    · rw [sgAfter_else (fun j hj => by rw [hp.inj _ _ hj]; exact hi), hh'.dom i hi]
      exact hp.fresh i (Nat.le_trans hst.len hi)
  have hold : ∀ id, (∀ i, f i = id → i < L.length ∨ L'.length ≤ i) → sgAfter σ σ' f L'.length id = σ id := fun id h => by
    by_cases hx : ∃ i, f i = id ∧ i < L'.length
    · obtain ⟨i, rfl, hi⟩ := hx
      rw [hf i]
      rcases h i rfl with h | h
      · exact hst.same i h
      · omega
    · exact sgAfter_else (fun i hi => Nat.le_of_not_lt fun h' => hx ⟨i, hi, h'⟩)
  have hext : ∀ id x, σ id = some x → sgAfter σ σ' f L'.length id = some x := fun id x hx => by
    rw [hold id, hx]
    intro i hi
    rcases Nat.lt_or_ge i L.length with h | h
    · exact .inl h
    · subst hi; rw [hp.fresh i h] at hx; cases hx
  -- whose block is
  have hown : ∀ b, ownB (sgAfter σ σ' f L'.length) C' b → ownB σ' L' b ∨ ∃ id r x, C[id]? = some (some r) ∧ σ id = some (b, x) ∧ ∀ i, f i = id → ¬ liveAt L i := fun b ⟨id, r, x, h1, h2⟩ => by
    rcases ho.row id r h1 with ⟨i, q, rfl, h3, rfl⟩ | ⟨h3, h4⟩
    · rw [hf] at h2; exact .inl ⟨i, q, x, h3, h2⟩
    · rw [hold id (fun i hi => .inl (h4 i hi).1)] at h2
      exact .inr ⟨id, r, x, h3, h2, fun i hi => (h4 i hi).2⟩
  have hle : ∀ b, ownB (fun i => σ (f i)) L b → ownB σ C b := fun b ⟨i, q, x, h1, h2⟩ => by
    have hr : C[f i]? = some (some (q.mapId f)) := (hp.row i q h1).resolve_left (fun h => by simp only at h2; rw [h] at h2; cases h2)
    exact ⟨f i, _, x, hr, h2⟩
  have hk : Keeps w (ownB σ C) w' (ownB (sgAfter σ σ' f L'.length) C') := by
    refine ⟨hst.keeps.size, fun b hb hn => hst.keeps.block b hb (fun h => hn (hle b h)), fun b hb => ?_⟩
    rcases hown b hb with h | ⟨id, r, x, h1, h2, -⟩
    · exact (hst.keeps.own b h).imp (hle b) (fun h => h)
    · exact .inl ⟨id, r, x, h1, h2⟩
  -- what is owned now, was, or is new, or is the part's
  have hle' : (∀ id, ¬ Z id) → ∀ b, own X (sgAfter σ σ' f L'.length) C' b → own (others X σ C L f Z) σ' L' b := fun hz b hb => by
    rcases hb with hb | hb
    · rcases hown b hb with h | ⟨id, r, x, h1, h2, h3⟩
      · exact .inl h
      · exact .inr (.inr ⟨id, r, x, h1, h2, h3, hz id⟩)
    · exact .inr (.inl hb)
  have hmap : ∀ id x, σ' id = some x → sgAfter σ σ' f L'.length (f id) = some x := fun id x hx => by rw [hf]; exact hx
  refine ⟨_, hh.next hk hext (fun id hid => ?_) (fun id r hr => ?_) (fun id id' r r' b x x' h1 h2 h3 h4 => ?_), hext, hk, hf, hold, fun x v hx hz => hx.map hmap (hz.elim (fun hz => .inr (hle' hz)) .inl)⟩
  · rw [hold id (fun i hi => Or.inr (Nat.le_of_not_lt fun h' => by have := ho.lt i h'; omega))]
    exact hh.dom id (Nat.le_trans ho.len hid)
  · rcases ho.row id r hr with ⟨i, q, rfl, h1, rfl⟩ | ⟨h1, h2⟩
    · right
      rcases hh'.row i q h1 with h3 | ⟨b, base, ext, h3, h4, h5, h6, h7⟩
      · exact .inl (by rw [hf]; exact h3)
      · refine .inr ⟨b, base, ext, by rw [hf]; exact h3, h4, by rw [Row.size_map]; exact h5, h6, h7.map hmap ?_⟩
        rcases hZ with hz | hz
        · exact .inr (hle' hz)
        · exact .inl (hz i q h1)
    · left
      have hs : sgAfter σ σ' f L'.length id = σ id := hold id (fun i hi => .inl (h2 i hi).1)
      refine ⟨h1, fun h => by rw [hs]; exact h, fun b x hb => ?_⟩
      have hlt := hh.own_lt ⟨id, r, x, h1, hb⟩
      refine hst.keeps.block b hlt fun ⟨i, q, y, h3, h4⟩ => ?_
      have hr' : C[f i]? = some (some (q.mapId f)) := (hp.row i q h3).resolve_left (fun h => by simp only at h4; rw [h] at h4; cases h4)
      exact (h2 i (hh.inj _ _ _ _ _ _ _ hr' h1 h4 hb)).2 ⟨q, h3⟩
  · -- two rows of one block
    have two : ∀ (id id' : Nat) r r' b x x', C'[id]? = some (some r) → C'[id']? = some (some r') → sgAfter σ σ' f L'.length id = some (b, x) → sgAfter σ σ' f L'.length id' = some (b, x') →
        (∃ i q, f i = id ∧ L'[i]? = some (some q) ∧ r = q.mapId f) → (C[id']? = some (some r') ∧ ∀ i, f i = id' → i < L.length ∧ ¬ liveAt L i) → id = id' := fun id id' r r' b x x' g1 g2 g3 g4 ⟨i, q, hi, hq, _⟩ ⟨g5, g6⟩ => by
      subst hi
      rw [hf] at g3
      rw [hold id' (fun i hi => .inl (g6 i hi).1)] at g4
      have hb := hst.keeps.own b ⟨i, q, x, hq, g3⟩
      rcases hb with ⟨j, q', y, g7, g8⟩ | hb
      · have hr' : C[f j]? = some (some (q'.mapId f)) := (hp.row j q' g7).resolve_left (fun h => by simp only at g8; rw [h] at g8; cases g8)
        exact ((g6 j (hh.inj _ _ _ _ _ _ _ hr' g5 g8 g4)).2 ⟨q', g7⟩).elim
      · have := hh.own_lt ⟨id', r', x', g5, g4⟩; omega
    rcases ho.row id r h1 with ⟨i, q, hi, hq, e⟩ | h5 <;> rcases ho.row id' r' h2 with ⟨j, q', hj, hq', e'⟩ | h6
    · subst hi hj
      rw [hf] at h3 h4
      rw [hh'.inj i j q q' b x x' hq hq' h3 h4]
    · exact two id id' r r' b x x' h1 h2 h3 h4 ⟨i, q, hi, hq, e⟩ h6
    · exact (two id' id r' r b x' x h2 h1 h4 h3 ⟨j, q', hj, hq', e'⟩ h5).symm
    · rw [hold id (fun i hi => .inl (h5.2 i hi).1)] at h3
      rw [hold id' (fun i hi => .inl (h6.2 i hi).1)] at h4
      exact hh.inj _ _ _ _ _ _ _ h5.1 h6.1 h3 h4
end
end Go.Proofs.Ytbdnhoddkdiogaa
