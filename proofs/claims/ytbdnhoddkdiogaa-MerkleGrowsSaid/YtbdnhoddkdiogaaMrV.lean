/- What a call owns, while others turn what is not its own; what a function that ends in a state tells. -/
import Derived.Test.YtbdnhoddkdiogaaMrL
import Derived.Test.YtbdnhoddkdiogaaMrR
set_option linter.unusedSimpArgs false
set_option linter.unusedVariables false
namespace Go.Proofs.Ytbdnhoddkdiogaa
open Go.RowKit Go
section
variable {P : Program} {X : Nat → Prop} {σ σ' : Sg} {s : St} {H H' : Hp} {a : Act} {w w' W W' : World} {o o' : Nat → Prop}
theorem RepD.flatw : ∀ {t : Ty} {x : t.D} {g : Cells}, t.flat = true → RepD w o t x g → RepD w' o' t x g
  | .i _, _, _, _, h => h
  | .bo, _, _, _, h => h
  | .st, _, _, _, h => h
  | .f _, _, _, _, h => h
  | .sl _, _, _, hf, _ => by cases hf
  | .pr a b, _, _, hf, ⟨h1, h2⟩ => by
    simp only [Ty.flat, Bool.and_eq_true] at hf
    exact ⟨RepD.flatw hf.1 h1, RepD.flatw hf.2 h2⟩
  | .ar n e, _, _, hf, ⟨h1, h2⟩ => ⟨h1, fun i x hx => RepD.flatw (t := e) hf (h2 i x hx)⟩
theorem Rep.flatw {c : CV} {v : Value} (hf : c.flat = true) (h : Rep w o σ c v) : Rep w' o' σ c v := by
  cases c with
  | rs t xs => cases hf
  | rp t xs i j => cases hf
  | _ => exact h
theorem RowRep.flatw {r : Row} {g : Cells} (hf : r.flat = true) (h : RowRep w o σ r g) : RowRep w' o' σ r g := by
  cases r with
  | raw l =>
    intro i c hc
    obtain ⟨v, h1, h2⟩ := h i c hc
    exact ⟨v, h1, h2.flatw (List.all_eq_true.1 hf c (List.mem_of_getElem? hc))⟩
  | ty t xs => exact fun i x hx => RepD.flatw hf (h i x hx)
theorem Rep1.flatw {x : AV} {v : Value} (hf : x.flat1 = true) (h : Rep1 w o σ x v) : Rep1 w' o' σ x v := by
  cases x with
  | c x => exact Rep.flatw hf h
  | agg r => obtain ⟨vs, h1, h2, h3⟩ := h; exact ⟨vs, h1, h2, h3.flatw hf⟩
  | tup l => exact h.elim
theorem RepA.flatw {x : AV} {v : Value} (hf : x.flat = true) (h : RepA w o σ x v) : RepA w' o' σ x v := by
  cases x with
  | c x => exact Rep.flatw hf h
  | agg r => obtain ⟨vs, h1, h2, h3⟩ := h; exact ⟨vs, h1, h2, h3.flatw hf⟩
  | tup l =>
    obtain ⟨vs, h1, h2, h3⟩ := h
    exact ⟨vs, h1, h2, fun i a ha => by
      obtain ⟨v, g1, g2⟩ := h3 i a ha
      exact ⟨v, g1, g2.flatw (List.all_eq_true.1 hf a (List.mem_of_getElem? ha))⟩⟩
theorem HeapRep.still (hh : HeapRep X σ H w) (hf : flatH H = true) (hsz : w.heap.size ≤ W.heap.size) (hb : ∀ b, ownB σ H b → W.heap[b]? = w.heap[b]?) : HeapRep X σ H W := by
  refine ⟨hh.dom, fun id r hr => ?_, fun b hx => Nat.lt_of_lt_of_le (hh.xlt b hx) hsz, hh.xdis, hh.inj⟩
  rcases hh.row id r hr with h0 | ⟨b, base, ext, h1, h2, h3, h4, h5⟩
  · exact .inl h0
  · have hbb := hb b ⟨id, r, _, hr, h1⟩
    have hfr := flatH_spec hf r (List.mem_of_getElem? hr)
    refine .inr ⟨b, base, ext, h1, Nat.lt_of_lt_of_le h2 hsz, h3, fun k hk => by rw [World.cell?_of_block (w := w) hbb, World.frozen?_of_block (w := w) hbb]; exact h4 k hk, ?_⟩
    have e : (fun k => W.cell? ⟨b, base + k, none⟩) = fun k => w.cell? ⟨b, base + k, none⟩ := funext fun k => World.cell?_of_block (w := w) hbb
    rw [e]
    exact h5.flatw hfr
def flatE (l : List (Nat × AV)) : Bool := l.all fun p => p.2.flat
theorem flatE_spec : ∀ {l : List (Nat × AV)}, flatE l = true → ∀ t x, look l t = some x → x.flat = true
  | [], _, t, x, h => by cases h
  | (k, b) :: l, hf, t, x, h => by
    simp only [flatE, List.all_cons, Bool.and_eq_true] at hf
    unfold look at h
    split at h
    · cases h; exact hf.1
    · exact flatE_spec hf.2 t x h
theorem StRep.still (hs : StRep X σ s a w) (hf : flatH s.H = true) (he : flatE s.env = true) (hsz : w.heap.size ≤ W.heap.size) (hb : ∀ b, ownB σ s.H b → W.heap[b]? = w.heap[b]?) : StRep X σ s a W :=
  ⟨hs.size, hs.defers, fun t x ht hx => let ⟨v, h1, h2⟩ := hs.env t x ht hx; ⟨v, h1, h2.flatw (flatE_spec he t x hx)⟩, hs.heap.still hf hsz hb⟩
theorem own_cells (hh : HeapRep X σ H W) (hpos : ∀ (i : Nat) (r : Row), H[i]? = some (some r) → 0 < r.size) {b : Nat} (hb : ownB σ H b) : ∃ c e r, W.heap[b]? = some (.cells c e r) := by
  obtain ⟨id, r, x, h1, h2⟩ := hb
  rcases hh.row id _ h1 with h0 | ⟨b', base, ext, g1, g2, g3, g4, g5⟩
  · rw [h0] at h2; cases h2
  · rw [g1] at h2
    cases h2
    have hs : 0 < ext := by have := hpos id r h1; omega
    obtain ⟨v, hv⟩ := Option.isSome_iff_exists.1 (g4 0 hs).1
    exact cells_of hv
theorem keepsOthers (hh : HeapRep X σ H W) (hpos : ∀ (i : Nat) (r : Row), H[i]? = some (some r) → 0 < r.size) (hst : Step σ H W σ' H' W') : KeepsOthers W W' :=
  ⟨hst.keeps.size, fun k o ho hc => by
    have hk := (Array.getElem?_eq_some_iff.1 ho).1
    rw [hst.keeps.block k hk (fun hown => by
      obtain ⟨c, e, r, h1⟩ := own_cells hh hpos hown
      rw [ho] at h1; cases h1; cases hc)]
    exact ho⟩
/-- A world in which but one block of an elder one has turned. -/
structure Side (w W : World) (b2 : Nat) : Prop where
  os : W.os = w.os
  tape : W.tape = w.tape
  output : W.output = w.output
  size : w.heap.size ≤ W.heap.size
  block : ∀ b, b < w.heap.size → b ≠ b2 → W.heap[b]? = w.heap[b]?
theorem Side.refl (w : World) (b2 : Nat) : Side w w b2 := ⟨rfl, rfl, rfl, Nat.le_refl _, fun _ _ _ => rfl⟩
theorem Side.step {b2 : Nat} (h : Side w W b2) (ho : ∀ b, ownB σ H b → b = b2 ∨ w.heap.size ≤ b) (hst : Step σ H W σ' H' W') : Side w W' b2 :=
  ⟨hst.os.trans h.os, hst.tape.trans h.tape, hst.output.trans h.output, Nat.le_trans h.size hst.keeps.size, fun b hb hne => (hst.keeps.block b (Nat.lt_of_lt_of_le hb h.size) (fun hown => by rcases ho b hown with e | e <;> omega)).trans (h.block b hb hne)⟩
theorem Side.grown {b2 : Nat} (h : Side w W b2) {row : Option Nat} (hg : W.grownBy W' row) (hr : ∀ r, row = some r → w.heap.size ≤ r) : Side w W' b2 :=
  ⟨hg.os.trans h.os, hg.tape.trans h.tape, hg.output.trans h.output, Nat.le_trans h.size hg.size, fun b hb hne => (hg.block b (Nat.lt_of_lt_of_le hb h.size) (fun e => by have := hr b e.symm; omega)).trans (h.block b hb hne)⟩
theorem ends_post {fn : Func} {σ0 : Sg} {H0 : Hp} {w0 : World} {ρ : List Nat} {xs : List AV} {r : AV} (hh : HeapRep X σ0 H0 w0) (hs : StRep X σ s a w) (hst : StepB H0.length σ0 H0 w0 σ s.H w) (h1 : aresult P s fn.results.toList = some xs) (h2 : (tupled xs).ren ρ = some r) (h3 : gcH ρ s.H ρ = some H')
    (hn : nodupB ρ = true) (hB : firstB H0.length ρ = true) (hl : H0.length ≤ ρ.length) : ∃ v, (results fn a.tmps).run P w = .ok v w ∧ Post X σ0 H0 w0 r H' v w := by
  obtain ⟨v, hr, hx⟩ := results_run hs h1
  obtain ⟨g1, g2⟩ := gc_heap hs.heap h3 hn
  refine ⟨v, hr, rsg ρ σ, renAV_rep g2 h2 hx, g1, hst.os, hst.tape, hst.output, ⟨hst.keeps.size, hst.keeps.block, fun b hb => ?_⟩, fun id x hx => ?_, ?_, fun id hid => ?_⟩
  · obtain ⟨i, q, x, h4, h5⟩ := hb
    obtain ⟨id, q', h6, h7, -⟩ := (gcH_spec h3).2 i q h4
    unfold rsg at h5
    rw [h6] at h5
    exact hst.keeps.own b ⟨id, q', x, h7, h5⟩
  · have hid := hh.lt hx
    unfold rsg
    rw [firstB_spec hB id hid]
    exact hst.ext id hid x hx
  · rw [(gcH_spec h3).1]; exact hl
  · unfold rsg
    rw [firstB_spec hB id hid]
    exact (hst.same (Nat.le_refl _)).2 id hid
/-- The fold over what comes from the end on. -/
def accG {D : Type} (B : D → D → D) (z : D) (zs : List D) (d : D) (pre : List Nat) : D := pre.foldl (fun acc i => B ((zs[i]?).getD z) acc) d
theorem accG_snoc {D : Type} (B : D → D → D) (z : D) (zs : List D) (d : D) (pre : List Nat) (i : Nat) : accG B z zs d (pre ++ [i]) = B ((zs[i]?).getD z) (accG B z zs d pre) := by unfold accG; rw [List.foldl_append]; rfl
end
end Go.Proofs.Ytbdnhoddkdiogaa
