/- AHI, part C: heaps of what a call owns, and worlds. -/
import Derived.Test.YtbdnhoddkdiogaaAhB
import Derived.Below
import Derived.Laws.NewBlocks
import Derived.Deep.Upon
set_option linter.unusedSimpArgs false
set_option linter.unusedVariables false
namespace Go.Proofs.Ytbdnhoddkdiogaa
open Go.RowKit

theorem size_setCells (b : Nat) : ∀ (vs : List Value) (o : Nat) (w : World), (w.setCells b o vs).heap.size = w.heap.size
  | [], _, _ => rfl
  | v :: vs, o, w => by rw [World.setCells, size_setCells b vs (o + 1)]; simp [World.setCell]
theorem tape_setCells (b : Nat) : ∀ (vs : List Value) (o : Nat) (w : World), (w.setCells b o vs).tape = w.tape
  | [], _, _ => rfl
  | v :: vs, o, w => by rw [World.setCells, tape_setCells b vs (o + 1)]; rfl
/-- The blocks that are the call's own. -/
def ownB (σ : Sg) (H : Hp) (b : Nat) : Prop := ∃ (id : Nat) (r : Row) (x : Nat × Nat), H[id]? = some (some r) ∧ σ id = some (b, x)
/-- The blocks that nobody else may lean on: the call's own, and those of others. -/
def own (X : Nat → Prop) (σ : Sg) (H : Hp) (b : Nat) : Prop := ownB σ H b ∨ X b
def RowOk (w : World) (own : Nat → Prop) (σ : Sg) (id : Nat) (r : Row) : Prop :=
  σ id = none ∨ ∃ b base ext, σ id = some (b, base, ext) ∧ b < w.heap.size ∧ base + r.size ≤ ext ∧ (∀ k, k < ext → (w.cell? ⟨b, k, none⟩).isSome = true ∧ w.frozen? ⟨b, k, none⟩ = false) ∧ RowRep w own σ r (fun k => w.cell? ⟨b, base + k, none⟩)
structure HeapRep (X : Nat → Prop) (σ : Sg) (H : Hp) (w : World) : Prop where
  dom : ∀ id, H.length ≤ id → σ id = none
  row : ∀ id r, H[id]? = some (some r) → RowOk w (own X σ H) σ id r
  xlt : ∀ b, X b → b < w.heap.size
  xdis : ∀ b, X b → ¬ ownB σ H b
  inj : ∀ id id' r r' b x x', H[id]? = some (some r) → H[id']? = some (some r') → σ id = some (b, x) → σ id' = some (b, x') → id = id'
structure Step (σ : Sg) (H : Hp) (w : World) (σ' : Sg) (H' : Hp) (w' : World) : Prop where
  os : w'.os = w.os
  tape : w'.tape = w.tape
  output : w'.output = w.output
  keeps : Keeps w (ownB σ H) w' (ownB σ' H')
  ext : ∀ id x, σ id = some x → σ' id = some x
  len : H.length ≤ H'.length
  same : ∀ id, id < H.length → σ' id = σ id
theorem Keeps.trans {a b c : World} {o p q : Nat → Prop} (h : Keeps a o b p) (k : Keeps b p c q) : Keeps a o c q :=
  ⟨Nat.le_trans h.size k.size, fun i hi ho => (k.block i (Nat.lt_of_lt_of_le hi h.size) (fun hp => (h.own i hp).elim ho (fun h' => by omega))).trans (h.block i hi ho),
    fun i hq => (k.own i hq).elim (fun hp => h.own i hp) (fun h' => .inr (Nat.le_trans h.size h'))⟩
theorem Step.refl (σ : Sg) (H : Hp) (w : World) : Step σ H w σ H w := ⟨rfl, rfl, rfl, Keeps.refl, fun _ _ h => h, Nat.le_refl _, fun _ _ => rfl⟩
theorem Step.trans {σ σ' σ'' : Sg} {H H' H'' : Hp} {w w' w'' : World} (h : Step σ H w σ' H' w') (k : Step σ' H' w' σ'' H'' w'') : Step σ H w σ'' H'' w'' :=
  ⟨k.os.trans h.os, k.tape.trans h.tape, k.output.trans h.output, h.keeps.trans k.keeps, fun id x hx => k.ext _ _ (h.ext _ _ hx), Nat.le_trans h.len k.len, fun id hid => (k.same id (Nat.lt_of_lt_of_le hid h.len)).trans (h.same id hid)⟩
section
variable {X : Nat → Prop} {σ σ' : Sg} {H H' : Hp} {w w' : World}
theorem keepsX (hk : Keeps w (ownB σ H) w' (ownB σ' H')) : Keeps w (own X σ H) w' (own X σ' H') :=
  ⟨hk.size, fun b hb hn => hk.block b hb (fun h => hn (.inl h)), fun b hb => hb.elim (fun h => (hk.own b h).imp .inl (fun h => h)) (fun h => .inl (.inr h))⟩
theorem RepA.step (hs : Step σ H w σ' H' w') {a : AV} {v : Value} (h : RepA w (own X σ H) σ a v) : RepA w' (own X σ' H') σ' a v := h.mono (keepsX hs.keeps) hs.ext
theorem Rep1.step (hs : Step σ H w σ' H' w') {a : AV} {v : Value} (h : Rep1 w (own X σ H) σ a v) : Rep1 w' (own X σ' H') σ' a v := h.mono (keepsX hs.keeps) hs.ext
theorem Rep.step (hs : Step σ H w σ' H' w') {a : CV} {v : Value} (h : Rep w (own X σ H) σ a v) : Rep w' (own X σ' H') σ' a v := h.mono (keepsX hs.keeps) hs.ext
theorem HeapRep.lt (h : HeapRep X σ H w) {id : Nat} {x : Nat × Nat × Nat} (hx : σ id = some x) : id < H.length := by
  rcases Nat.lt_or_ge id H.length with h' | h'
  · exact h'
  · rw [h.dom id h'] at hx; cases hx
theorem HeapRep.own_lt (h : HeapRep X σ H w) {b : Nat} (hb : ownB σ H b) : b < w.heap.size := by
  obtain ⟨id, r, x, h1, h2⟩ := hb
  rcases h.row id r h1 with h3 | ⟨b', base, ext, h3, h4, -⟩
  · rw [h3] at h2; cases h2
  · rw [h3] at h2; cases h2; exact h4
/-- The next heap: each live row is as it was, or is shown anew. -/
theorem HeapRep.next (h : HeapRep X σ H w) (hk : Keeps w (ownB σ H) w' (ownB σ' H')) (hs : ∀ id x, σ id = some x → σ' id = some x) (dom : ∀ id, H'.length ≤ id → σ' id = none)
    (rows : ∀ (id : Nat) r, H'[id]? = some (some r) → (H[id]? = some (some r) ∧ (σ id = none → σ' id = none) ∧ ∀ b x, σ id = some (b, x) → w'.heap[b]? = w.heap[b]?) ∨ RowOk w' (own X σ' H') σ' id r)
    (inj : ∀ (id id' : Nat) r r' b x x', H'[id]? = some (some r) → H'[id']? = some (some r') → σ' id = some (b, x) → σ' id' = some (b, x') → id = id') : HeapRep X σ' H' w' := by
  refine ⟨dom, fun id r hr => ?_, fun b hb => Nat.lt_of_lt_of_le (h.xlt b hb) hk.size, fun b hb ho => (hk.own b ho).elim (h.xdis b hb) (fun h' => by have := h.xlt b hb; omega), inj⟩
  rcases rows id r hr with ⟨h1, h2, h3⟩ | h1
  · rcases h.row id r h1 with h5 | ⟨b, base, ext, h4, h5, h6, h7, h8⟩
    · exact .inl (h2 h5)
    · have hb := h3 b _ h4
      have hc : ∀ k, w'.cell? ⟨b, k, none⟩ = w.cell? ⟨b, k, none⟩ := fun k => World.cell?_of_block (w := w) hb
      have hf : ∀ k, w'.frozen? ⟨b, k, none⟩ = w.frozen? ⟨b, k, none⟩ := fun k => World.frozen?_of_block (w := w) hb
      exact .inr ⟨b, base, ext, hs _ _ h4, Nat.lt_of_lt_of_le h5 hk.size, h6, fun k hk' => by rw [hc, hf]; exact h7 k hk', h8.mono (keepsX hk) hs (fun j v hv => by rw [hc]; exact hv)⟩
  · exact h1
def upd (σ : Sg) (n : Nat) (x : Nat × Nat × Nat) : Sg := fun id => if id = n then some x else σ id
theorem upd_same (σ : Sg) (n : Nat) (x : Nat × Nat × Nat) : upd σ n x n = some x := if_pos rfl
theorem upd_ne (σ : Sg) {n id : Nat} (x : Nat × Nat × Nat) (h : id ≠ n) : upd σ n x id = σ id := if_neg h
theorem upd_ext (h : HeapRep X σ H w) (x : Nat × Nat × Nat) : ∀ id y, σ id = some y → upd σ H.length x id = some y := fun id y hy => by
  rw [upd_ne]
  · exact hy
  · exact Nat.ne_of_lt (h.lt hy)
theorem snoc_cases {α : Type} {l : List α} {a b : α} {i : Nat} (h : (l ++ [a])[i]? = some b) : (i < l.length ∧ l[i]? = some b) ∨ (i = l.length ∧ b = a) := by
  by_cases hi : i < l.length
  · exact .inl ⟨hi, by rwa [List.getElem?_append_left hi] at h⟩
  · rw [List.getElem?_append_right (by omega)] at h
    right
    have : i - l.length = 0 := by
      rcases Nat.eq_zero_or_pos (i - l.length) with h0 | h0
      · exact h0
      · rw [List.getElem?_eq_none (by simp; omega)] at h; cases h
    rw [this] at h
    exact ⟨by omega, by simpa using h.symm⟩
/-- A draw. -/
theorem HeapRep.drew (h : HeapRep X σ H w) : HeapRep X σ H w.drew ∧ Step σ H w σ H w.drew := by
  have hk : Keeps w (ownB σ H) w.drew (ownB σ H) := ⟨Nat.le_refl _, fun _ _ _ => rfl, fun _ h => .inl h⟩
  exact ⟨h.next hk (fun _ _ h => h) h.dom (fun id r hr => .inl ⟨hr, fun h => h, fun _ _ _ => rfl⟩) h.inj, ⟨rfl, rfl, rfl, hk, fun _ _ h => h, Nat.le_refl _, fun _ _ => rfl⟩⟩
/-- A new block. -/
theorem HeapRep.alloc (h : HeapRep X σ H w) (cs : Array Value) (elem : TypeId) (r : Row) (hsz : r.size ≤ cs.size) (hr : RowRep w (own X σ H) σ r (fun k => cs[k]?)) :
    HeapRep X (upd σ H.length (w.heap.size, 0, cs.size)) (H ++ [some r]) (w.alloc (.cells cs elem)) ∧ Step σ H w (upd σ H.length (w.heap.size, 0, cs.size)) (H ++ [some r]) (w.alloc (.cells cs elem)) := by
  have ho : ∀ b, ownB (upd σ H.length (w.heap.size, 0, cs.size)) (H ++ [some r]) b → ownB σ H b ∨ w.heap.size ≤ b := fun b ⟨id, r', x, h1, h2⟩ => by
    rcases snoc_cases h1 with ⟨hi, h1⟩ | ⟨rfl, h1⟩
    · rw [upd_ne _ _ (by omega)] at h2; exact .inl ⟨id, r', x, h1, h2⟩
    · rw [upd_same] at h2; cases h2; exact .inr (Nat.le_refl _)
  have hk : Keeps w (ownB σ H) (w.alloc (.cells cs elem)) (ownB (upd σ H.length (w.heap.size, 0, cs.size)) (H ++ [some r])) :=
    ⟨by simp, fun b hb _ => Below.heap_alloc _ _ _ hb, ho⟩
  have he := upd_ext h (w.heap.size, 0, cs.size)
  refine ⟨h.next hk he (fun id hid => ?_) (fun id r' hr' => ?_) (fun id id' r1 r2 b x x' h1 h2 h3 h4 => ?_), ⟨rfl, rfl, rfl, hk, he, by simp, fun id hid => upd_ne _ _ (Nat.ne_of_lt hid)⟩⟩
  · rw [List.length_append] at hid
    rw [upd_ne _ _ (by simp at hid; omega)]
    exact h.dom id (by simp at hid; omega)
  · rcases snoc_cases hr' with ⟨hi, hr'⟩ | ⟨rfl, hq'⟩
    · refine .inl ⟨hr', fun h' => by rw [upd_ne _ _ (by omega)]; exact h', fun b x hb => Below.heap_alloc _ _ _ (h.own_lt ⟨id, r', x, hr', hb⟩)⟩
    · obtain rfl : r' = r := by simpa using hq'
      refine .inr (.inr ⟨w.heap.size, 0, cs.size, upd_same _ _ _, by simp, by omega, fun k hk' => ?_, hr.mono (keepsX hk) he (fun j v hv => ?_)⟩)
      · rw [World.cell?_alloc_at _ _ _ _ rfl, World.frozen?_alloc_at _ _ _ _ rfl]
        simp [hk']
      · rw [World.cell?_alloc_at _ _ _ _ rfl, Nat.zero_add]; exact hv
  · rcases snoc_cases h1 with ⟨hi, h1⟩ | ⟨rfl, h1⟩ <;> rcases snoc_cases h2 with ⟨hi', h2⟩ | ⟨rfl, h2⟩
    · rw [upd_ne _ _ (by omega)] at h3 h4; exact h.inj id id' r1 r2 b x x' h1 h2 h3 h4
    · rw [upd_ne _ _ (by omega)] at h3; rw [upd_same] at h4; cases h4
      have := h.own_lt ⟨id, r1, x, h1, h3⟩
      omega
    · rw [upd_ne _ _ (by omega)] at h4; rw [upd_same] at h3; cases h3
      have := h.own_lt ⟨id', r2, x', h2, h4⟩
      omega
    · rfl
/-- A row without cells, that lies nowhere. -/
theorem HeapRep.nowhere (h : HeapRep X σ H w) (r : Row) : HeapRep X σ (H ++ [some r]) w ∧ Step σ H w σ (H ++ [some r]) w := by
  have ho : ∀ b, ownB σ (H ++ [some r]) b → ownB σ H b ∨ w.heap.size ≤ b := fun b ⟨id, r', x, h1, h2⟩ => by
    rcases snoc_cases h1 with ⟨hi, h1⟩ | ⟨rfl, h1⟩
    · exact .inl ⟨id, r', x, h1, h2⟩
    · rw [h.dom _ (Nat.le_refl _)] at h2; cases h2
  have hk : Keeps w (ownB σ H) w (ownB σ (H ++ [some r])) := ⟨Nat.le_refl _, fun _ _ _ => rfl, ho⟩
  refine ⟨h.next hk (fun _ _ h => h) (fun id hid => h.dom id (by simp at hid; omega)) (fun id r' hr' => ?_) (fun id id' r1 r2 b x x' h1 h2 h3 h4 => ?_), ⟨rfl, rfl, rfl, hk, fun _ _ h => h, by simp, fun _ _ => rfl⟩⟩
  · rcases snoc_cases hr' with ⟨hi, hr'⟩ | ⟨rfl, hq'⟩
    · exact .inl ⟨hr', fun h => h, fun _ _ _ => rfl⟩
    · obtain rfl : r' = r := by simpa using hq'
      exact .inr (.inl (h.dom _ (Nat.le_refl _)))
  · rcases snoc_cases h1 with ⟨hi, h1⟩ | ⟨rfl, h1⟩
    · rcases snoc_cases h2 with ⟨hi', h2⟩ | ⟨rfl, h2⟩
      · exact h.inj id id' r1 r2 b x x' h1 h2 h3 h4
      · rw [h.dom _ (Nat.le_refl _)] at h4; cases h4
    · rw [h.dom _ (Nat.le_refl _)] at h3; cases h3
theorem set_cases {H : Hp} {id k : Nat} {x y : Option Row} (h : (H.set id x)[k]? = some y) : (k = id ∧ y = x ∧ id < H.length) ∨ (k ≠ id ∧ H[k]? = some y) := by
  by_cases hk : id = k
  · subst hk
    by_cases hi : id < H.length
    · rw [List.getElem?_set_self hi] at h; exact .inl ⟨rfl, by simpa using h.symm, hi⟩
    · rw [List.getElem?_eq_none (by simp; omega)] at h; cases h
  · rw [List.getElem?_set_ne hk] at h; exact .inr ⟨fun e => hk e.symm, h⟩
/-- Cells of a block of the call's own are written. -/
theorem HeapRep.write (h : HeapRep X σ H w) {id : Nat} {r r' : Row} {b base ext : Nat} (hid : H[id]? = some (some r)) (hb : σ id = some (b, base, ext)) (o : Nat) (vs : List Value) (hle : o + vs.length ≤ ext) (hsz : base + r'.size ≤ ext)
    (hr : ∀ own', (∀ b, own' b ↔ own X σ H b) → RowRep (w.setCells b o vs) own' σ r' (fun k => (w.setCells b o vs).cell? ⟨b, base + k, none⟩)) :
    HeapRep X σ (H.set id (some r')) (w.setCells b o vs) ∧ Step σ H w σ (H.set id (some r')) (w.setCells b o vs) := by
  have hil : id < H.length := (List.getElem?_eq_some_iff.1 hid).1
  have ho : ∀ c, ownB σ (H.set id (some r')) c ↔ ownB σ H c := fun c => by
    constructor
    · rintro ⟨k, q, x, h1, h2⟩
      rcases set_cases h1 with ⟨rfl, h1, -⟩ | ⟨hk, h1⟩
      · exact ⟨k, r, x, hid, h2⟩
      · exact ⟨k, q, x, h1, h2⟩
    · rintro ⟨k, q, x, h1, h2⟩
      by_cases hk : id = k
      · subst hk; exact ⟨id, r', x, List.getElem?_set_self hil, h2⟩
      · exact ⟨k, q, x, by rw [List.getElem?_set_ne hk]; exact h1, h2⟩
  have hbo : ownB σ H b := ⟨id, r, _, hid, hb⟩
  have hbl := h.own_lt hbo
  have hkb := World.keptBut_setCells b (may := fun _ => True) vs o w (fun _ _ => trivial)
  have hblk : ∀ c, c < w.heap.size → c ≠ b → (w.setCells b o vs).heap[c]? = w.heap[c]? := fun c hc hne => World.heap_setCells_other w b o vs hc hne
  have hk : Keeps w (ownB σ H) (w.setCells b o vs) (ownB σ (H.set id (some r'))) :=
    ⟨by rw [size_setCells]; exact Nat.le_refl _, fun c hc hno => hblk c hc (fun e => hno (e ▸ hbo)), fun c hc => .inl ((ho c).1 hc)⟩
  have htape := tape_setCells b vs o w
  refine ⟨h.next hk (fun _ _ h => h) (fun k hk => h.dom k (by simpa using hk)) (fun k q hq => ?_) (fun k k' q q' c x x' h1 h2 h3 h4 => ?_), ⟨hkb.1, htape, hkb.2.1, hk, fun _ _ h => h, by simp, fun _ _ => rfl⟩⟩
  · rcases set_cases hq with ⟨rfl, h1, -⟩ | ⟨hne, h1⟩
    · cases h1
      obtain h5 | ⟨b', base', ext', h4, h5, h6, h7, h8⟩ := h.row k r hid
      · rw [h5] at hb; cases hb
      · rw [hb] at h4; cases h4
        refine .inr (.inr ⟨b, base, ext, hb, by rw [size_setCells]; exact hbl, hsz, fun j hj => ⟨World.isSome_setCells b vs o w _ (h7 j hj).1, by rw [World.frozen?_setCells]; exact (h7 j hj).2⟩, hr _ (fun c => or_congr (ho c) Iff.rfl)⟩)
    · refine .inl ⟨h1, fun h => h, fun c x hc => hblk c (h.own_lt ⟨k, q, x, h1, hc⟩) (fun e => hne ?_)⟩
      subst e
      exact h.inj k id q r c x _ h1 hid hc hb
  · rcases set_cases h1 with ⟨rfl, g1, -⟩ | ⟨hne, g1⟩ <;> rcases set_cases h2 with ⟨e2, g2, -⟩ | ⟨hne', g2⟩
    · exact e2.symm
    · exact h.inj k k' r q' c x x' hid g2 h3 h4
    · subst e2; exact h.inj k k' q r c x x' g1 hid h3 h4
    · exact h.inj k k' q q' c x x' g1 g2 h3 h4
/-- A row is forgotten. -/
theorem HeapRep.kill (h : HeapRep X σ H w) (id : Nat) : HeapRep X σ (H.set id none) w ∧ Step σ H w σ (H.set id none) w := by
  have ho : ∀ c, ownB σ (H.set id none) c → ownB σ H c ∨ w.heap.size ≤ c := fun c ⟨k, q, x, h1, h2⟩ => by
    rcases set_cases h1 with ⟨rfl, h1, -⟩ | ⟨hk, h1⟩
    · cases h1
    · exact .inl ⟨k, q, x, h1, h2⟩
  have hk : Keeps w (ownB σ H) w (ownB σ (H.set id none)) := ⟨Nat.le_refl _, fun _ _ _ => rfl, ho⟩
  refine ⟨h.next hk (fun _ _ h => h) (fun k hk => h.dom k (by simpa using hk)) (fun k q hq => ?_) (fun k k' q q' c x x' h1 h2 h3 h4 => ?_), ⟨rfl, rfl, rfl, hk, fun _ _ h => h, by simp, fun _ _ => rfl⟩⟩
  · rcases set_cases hq with ⟨rfl, h1, -⟩ | ⟨hne, h1⟩
    · cases h1
    · exact .inl ⟨h1, fun h => h, fun _ _ _ => rfl⟩
  · rcases set_cases h1 with ⟨rfl, h1, -⟩ | ⟨hne, h1⟩
    · cases h1
    · rcases set_cases h2 with ⟨rfl, h2, -⟩ | ⟨hne', h2⟩
      · cases h2
      · exact h.inj k k' q q' c x x' h1 h2 h3 h4
/-- A row goes on under a new number, from some cell on. -/
theorem HeapRep.rename (h : HeapRep X σ H w) {id : Nat} {r r' : Row} {b base ext base' : Nat} (hid : H[id]? = some (some r)) (hb : σ id = some (b, base, ext)) (hsz : base' + r'.size ≤ ext)
    (hr : RowRep w (own X σ H) σ r' (fun k => w.cell? ⟨b, base' + k, none⟩)) :
    HeapRep X (upd σ H.length (b, base', ext)) (H.set id none ++ [some r']) w ∧ Step σ H w (upd σ H.length (b, base', ext)) (H.set id none ++ [some r']) w := by
  have hbo : ownB σ H b := ⟨id, r, _, hid, hb⟩
  have hlen : (H.set id none).length = H.length := by simp
  have ho : ∀ c, ownB (upd σ H.length (b, base', ext)) (H.set id none ++ [some r']) c → ownB σ H c ∨ w.heap.size ≤ c := fun c ⟨k, q, x, h1, h2⟩ => by
    rcases snoc_cases h1 with ⟨hi, h1⟩ | ⟨rfl, h1⟩
    · rw [upd_ne _ _ (by omega)] at h2
      rcases set_cases h1 with ⟨rfl, h1, -⟩ | ⟨hk, h1⟩
      · cases h1
      · exact .inl ⟨k, q, x, h1, h2⟩
    · rw [hlen, upd_same] at h2; cases h2; exact .inl hbo
  have hk : Keeps w (ownB σ H) w (ownB (upd σ H.length (b, base', ext)) (H.set id none ++ [some r'])) := ⟨Nat.le_refl _, fun _ _ _ => rfl, ho⟩
  have he := upd_ext h (b, base', ext)
  refine ⟨h.next hk he (fun k hk => ?_) (fun k q hq => ?_) (fun k k' q q' c x x' h1 h2 h3 h4 => ?_), ⟨rfl, rfl, rfl, hk, he, by simp, fun id hid => upd_ne _ _ (Nat.ne_of_lt hid)⟩⟩
  · rw [List.length_append, hlen] at hk
    rw [upd_ne _ _ (by simp at hk; omega)]
    exact h.dom k (by simp at hk; omega)
  · rcases snoc_cases hq with ⟨hi, hq⟩ | ⟨rfl, hq'⟩
    · rcases set_cases hq with ⟨rfl, h1, -⟩ | ⟨hne, h1⟩
      · cases h1
      · exact .inl ⟨h1, fun h => by rw [upd_ne _ _ (by omega)]; exact h, fun _ _ _ => rfl⟩
    · obtain rfl : q = r' := by simpa using hq'
      rcases h.row id r hid with h5 | ⟨b', base'', ext', h4, h5, h6, h7, h8⟩
      · rw [h5] at hb; cases hb
      · rw [hb] at h4; cases h4
        exact .inr (.inr ⟨b, base', ext, by rw [hlen]; exact upd_same _ _ _, h5, hsz, h7, hr.mono (keepsX hk) he (fun _ _ h => h)⟩)
  · rcases snoc_cases h1 with ⟨hi, h1⟩ | ⟨rfl, h1⟩ <;> rcases snoc_cases h2 with ⟨hi', h2⟩ | ⟨rfl, h2⟩
    · rw [upd_ne _ _ (by omega)] at h3 h4
      rcases set_cases h1 with ⟨rfl, h1, -⟩ | ⟨hne, h1⟩
      · cases h1
      · rcases set_cases h2 with ⟨rfl, h2, -⟩ | ⟨hne', h2⟩
        · cases h2
        · exact h.inj k k' q q' c x x' h1 h2 h3 h4
    · rw [upd_ne _ _ (by omega)] at h3; rw [hlen, upd_same] at h4; cases h4
      rcases set_cases h1 with ⟨rfl, h1, -⟩ | ⟨hne, h1⟩
      · cases h1
      · exact (hne (h.inj k id q r _ x _ h1 hid h3 hb)).elim
    · rw [upd_ne _ _ (by omega)] at h4; rw [hlen, upd_same] at h3; cases h3
      rcases set_cases h2 with ⟨rfl, h2, -⟩ | ⟨hne, h2⟩
      · cases h2
      · exact (hne (h.inj k' id q' r _ x' _ h2 hid h4 hb)).elim
    · rfl
end
end Go.Proofs.Ytbdnhoddkdiogaa
