/- AHI, part S: contracts at any heap: rows handed on under other numbers, rows lent to be read. -/
import Derived.Test.YtbdnhoddkdiogaaAhR
set_option linter.unusedSimpArgs false
set_option linter.unusedVariables false
namespace Go.Proofs.Ytbdnhoddkdiogaa
open Go.RowKit

/-- A thing out of cells, deep: slices of the call's own are read through. -/
def vdec (H : Hp) : (t : Ty) → List CV → Option t.D
  | .i k, l => match l with | [c] => leaf (.i k) c | _ => none
  | .bo, l => match l with | [c] => leaf .bo c | _ => none
  | .st, l => match l with | [c] => leaf .st c | _ => none
  | .f k, l => match l with | [c] => leaf (.f k) c | _ => none
  | .sl e, l => match l with
    | [.sl id o len n] => if n = e.sz ∧ 0 < n then (match hrow H id with
      | some r => (match r.part o len n with
        | some (.ty t ys) => if h : t = e then some (h ▸ ys) else none
        | some (.raw cs) => decF (vdec H e) e.sz len cs
        | none => none)
      | none => none) else none
    | [c] => leaf (.sl e) c
    | _ => none
  | .pr a b, l => match vdec H a (l.take a.sz), vdec H b (l.drop a.sz) with | some x, some y => some (x, y) | _, _ => none
  | .ar n e, l => decF (vdec H e) e.sz n l
def view (H : Hp) (t : Ty) : AV → Option t.D
  | .c c => if t.sz = 1 ∧ t.isLeaf = true then vdec H t [c] else none
  | .agg r => if t.isLeaf = true then none else match Row.one t r with
    | some x => some x
    | none => match r with | .raw l => vdec H t l | .ty _ _ => none
  | .tup _ => none
/-- A thing as it is handed on to be read. -/
def ro : (t : Ty) → t.D → AV
  | .i k, n => .c (ci k n) | .bo, x => .c (cb x) | .st, x => .c (.v (.string x)) | .f k, x => .c (.v (.float k x)) | .sl e, xs => .c (.rs e xs) | .ar _ e, xs => .agg (.ty e xs) | .pr a b, x => .agg (.ty (.pr a b) [x])
section
variable {P : Program} {X : Nat → Prop} {σ σ' τ : Sg} {s s' : St} {H H' C C' L L' : Hp} {a : Act} {w w' : World} {B : Nat} {f : Nat → Nat} {o o' Z : Nat → Prop}
theorem RepD.less (ho : ∀ b, o' b → o b) {t : Ty} {x : t.D} {g : Cells} (h : RepD w o t x g) : RepD w o' t x g :=
  RepD.mono (w := w) (own := o) ⟨Nat.le_refl _, fun _ _ _ => rfl, fun b hb => .inl (ho b hb)⟩ (fun _ _ h => h) h
theorem Rep.less (ho : ∀ b, o' b → o b) {c : CV} {v : Value} (h : Rep w o σ c v) : Rep w o' σ c v :=
  Rep.mono (w := w) (own := o) ⟨Nat.le_refl _, fun _ _ _ => rfl, fun b hb => .inl (ho b hb)⟩ (fun _ _ h => h) h
theorem part_size {r p : Row} {o n e : Nat} (h : r.part o n e = some p) : p.size = n * e ∧ ∀ t ys, p = .ty t ys → t.sz = e := by
  cases r with
  | raw l =>
    simp only [Row.part] at h
    split at h
    · rename_i hle
      cases h
      refine ⟨?_, fun t ys h => by cases h⟩
      rw [Nat.add_mul] at hle
      simp only [Row.size, List.length_take, List.length_drop]
      omega
    · cases h
  | ty t xs =>
    simp only [Row.part] at h
    split at h
    · rename_i he
      split at h
      · rename_i h0
        cases h
        exact ⟨by simp only [Row.size]; rw [h0.2, he], fun t ys h => by cases h; exact he.symm⟩
      · split at h
        · cases h
          refine ⟨?_, fun t ys h => by cases h; exact he.symm⟩
          simp only [Row.size, List.length_take, List.length_drop]
          rw [he, Nat.min_eq_left (by omega)]
        · cases h
    · cases h
theorem vdec_len : ∀ {t : Ty} {l : List CV} {x : t.D}, vdec H t l = some x → l.length = t.sz
  | .i _, l, x, h => by simp only [vdec] at h; split at h <;> first | rfl | cases h
  | .bo, l, x, h => by simp only [vdec] at h; split at h <;> first | rfl | cases h
  | .st, l, x, h => by simp only [vdec] at h; split at h <;> first | rfl | cases h
  | .f _, l, x, h => by simp only [vdec] at h; split at h <;> first | rfl | cases h
  | .sl _, l, x, h => by
    simp only [vdec] at h
    split at h
    · rfl
    · rfl
    · cases h
  | .pr a b, l, x, h => by
    simp only [vdec] at h
    split at h
    · rename_i y z hy hz
      have h1 := vdec_len hy
      have h2 := vdec_len hz
      rw [List.length_take] at h1
      rw [List.length_drop] at h2
      simp only [Ty.sz]
      omega
    · cases h
  | .ar n e, l, x, h => (decF_len (f := vdec H e) (sz := e.sz) (fun l x h => vdec_len h) h).2
theorem decF_repD {t : Ty} {f : List CV → Option t.D} (hlen : ∀ l x, f l = some x → l.length = t.sz) (hf : ∀ {l : List CV} {x : t.D} {g : Cells}, LRep w o σ l g → f l = some x → RepD w o' t x g) :
    ∀ {n : Nat} {l : List CV} {xs : List t.D} {g : Cells}, LRep w o σ l g → decF f t.sz n l = some xs → ∀ (i : Nat) x, xs[i]? = some x → RepD w o' t x (fun j => g (i * t.sz + j))
  | 0, l, xs, g, hl, h, i, x, hx => by
    simp only [decF] at h
    split at h
    · cases h; simp at hx
    · cases h
  | n + 1, l, xs, g, hl, h, i, x, hx => by
    simp only [decF] at h
    split at h
    · rename_i y ys hy hys
      cases h
      cases i with
      | zero =>
        cases hx
        rw [Nat.zero_mul]
        simpa using hf (hl.take t.sz) hy
      | succ i =>
        have := decF_repD hlen hf (hl.drop t.sz) hys i x (by simpa using hx)
        have e : (fun j => g ((i + 1) * t.sz + j)) = fun j => g (t.sz + (i * t.sz + j)) := by funext j; congr 1; rw [Nat.add_mul]; omega
        rw [e]; exact this
    · cases h
/-- What is read through, as others see it. -/
theorem vdec_rep (hh : HeapRep X σ H w) (ho : ∀ b, o b → X b) : ∀ {t : Ty} {l : List CV} {x : t.D} {g : Cells}, LRep w (own X σ H) σ l g → vdec H t l = some x → RepD w o t x g
  | .i _, l, x, g, hl, h => by
    simp only [vdec] at h; split at h
    · obtain ⟨v, h1, h2⟩ := hl 0 _ rfl; exact RepD.less (fun b hb => .inr (ho b hb)) (leaf_rep h h2 h1)
    · cases h
  | .bo, l, x, g, hl, h => by
    simp only [vdec] at h; split at h
    · obtain ⟨v, h1, h2⟩ := hl 0 _ rfl; exact RepD.less (fun b hb => .inr (ho b hb)) (leaf_rep h h2 h1)
    · cases h
  | .st, l, x, g, hl, h => by
    simp only [vdec] at h; split at h
    · obtain ⟨v, h1, h2⟩ := hl 0 _ rfl; exact RepD.less (fun b hb => .inr (ho b hb)) (leaf_rep h h2 h1)
    · cases h
  | .f _, l, x, g, hl, h => by
    simp only [vdec] at h; split at h
    · obtain ⟨v, h1, h2⟩ := hl 0 _ rfl; exact RepD.less (fun b hb => .inr (ho b hb)) (leaf_rep h h2 h1)
    · cases h
  | .sl e, l, x, g, hl, h => by
    simp only [vdec] at h
    split at h
    · rename_i id k len n
      obtain ⟨v, h1, h2⟩ := hl 0 _ rfl
      split at h
      · rename_i hn
        obtain ⟨rfl, hn0⟩ := hn
        split at h
        · rename_i r hr
          have hrow := hrow_some hr
          -- the elements, wherever they lie
          have key : ∀ p, r.part k len e.sz = some p → (∀ {g : Cells}, RowRep w (own X σ H) σ p g → x.length = len ∧ ∀ (i : Nat) y, x[i]? = some y → RepD w o e y (fun j => g (i * e.sz + j))) → RepD w o (.sl e) x g := fun p hp hcell => by
            refine ⟨v, h1, ?_⟩
            rcases h2 with ⟨hl0, ad, rfl⟩ | ⟨b, base, ext, c, hs, rfl, hlc, hcm, hext⟩
            · left
              obtain ⟨hxl, -⟩ := hcell (g := fun _ => none) (by
                -- nothing is there
                have : p.size = 0 := by
                  rw [(part_size hp).1, hl0, Nat.zero_mul]
                cases p with
                | raw l' => intro i c hc; simp only [Row.size] at this; have := List.length_eq_zero_iff.1 this; subst this; simp at hc
                | ty t' ys =>
                  intro i y hy
                  simp only [Row.size] at this
                  rcases Nat.mul_eq_zero.1 this with h0 | h0
                  · rw [List.length_eq_zero_iff.1 h0] at hy; simp at hy
                  · exact absurd h0 (by
                      have := (part_size hp).2 _ _ rfl
                      omega))
              exact ⟨List.length_eq_zero_iff.1 (hxl.trans hl0), ad, 0, rfl⟩
            · right
              rcases hh.row id r hrow with h0 | ⟨b', base', ext', h5, h6, h7, h8, h9⟩
              · rw [h0] at hs; cases hs
              · rw [hs] at h5; cases h5
                obtain ⟨q1, q2, q3⟩ := part_rep h9 hp
                obtain ⟨hxl, hx⟩ := hcell q1
                refine ⟨b, base + k * e.sz, c, by rw [hxl], by omega, hcm, fun hb => hh.xdis b (ho b hb) ⟨id, r, _, hrow, hs⟩, h6, fun i y hy => RepD.cells (fun j v hv => ?_) (hx i y hy)⟩
                rw [← hv]; congr 2; omega
          split at h
          · rename_i t ys hp
            split at h
            · rename_i ht
              subst ht
              cases h
              refine key _ hp fun {g} hg => ⟨?_, fun i y hy => RepD.less (fun b hb => .inr (ho b hb)) (hg i y hy)⟩
              have := (part_size hp).1
              simp only [Row.size] at this
              exact Nat.eq_of_mul_eq_mul_right hn0 this
            · cases h
          · rename_i cs hp
            refine key _ hp fun {g} hg => ⟨(decF_len (f := vdec H e) (fun l x h => vdec_len h) h).1, fun i y hy => decF_repD (fun l x h => vdec_len h) (fun hl h => vdec_rep hh ho hl h) hg h i y hy⟩
          · cases h
        · cases h
      · cases h
    · obtain ⟨v, h1, h2⟩ := hl 0 _ rfl; exact RepD.less (fun b hb => .inr (ho b hb)) (leaf_rep h h2 h1)
    · cases h
  | .pr a b, l, x, g, hl, h => by
    simp only [vdec] at h
    split at h
    · rename_i y z hy hz
      cases h
      exact ⟨vdec_rep hh ho (hl.take a.sz) hy, vdec_rep hh ho (hl.drop a.sz) hz⟩
    · cases h
  | .ar n e, l, x, g, hl, h => ⟨(decF_len (f := vdec H e) (sz := e.sz) (fun l x h => vdec_len h) h).1, fun i y hy => decF_repD (fun l x h => vdec_len h) (fun hl h => vdec_rep hh ho hl h) hl h i y hy⟩
end
end Go.Proofs.Ytbdnhoddkdiogaa
