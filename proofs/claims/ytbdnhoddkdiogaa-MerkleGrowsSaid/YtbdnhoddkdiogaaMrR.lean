/- A range over a function whose loop variable is laid anew in each round: the assignment may turn the world, too. Rounds end at their end alone. -/
import Derived.Test.YtbdnhoddkdiogaaMrI
set_option linter.unusedSimpArgs false
set_option linter.unusedVariables false
namespace Go.Proofs.Ytbdnhoddkdiogaa
open Go.RowKit Go
section
variable {P : Program} {n : Nat}
theorem range_rounds {α : Type} {g : Operand} {ps : Array Tmp} {assign body : Code} {Q : Exit → Act → World → Prop} {a : Act} {w : World} {gf : Nat} {lb : Array Value} {encs : α → Array Value} {Kp : World → World → Prop} {S Sp : List α → Prop} {N : Nat}
    (h1 : 1 ≤ n) (hg : a.eval g = .func (.func gf) #[] lb) (eg : ∀ args w, (callFunc gf args).run P w = .ok (.enter gf args) w) (hseq : SeqStopsK Fence.wide (n - 1) P gf lb encs Kp S Sp N w) (hps : ∀ x, (encs x).size = ps.size)
    (hKt : ∀ {A B C : World}, Kp A B → Kp B C → Kp A C) (hKb : ∀ (W : World) (l : Nat) (o o' : Obj), w.heap.size ≤ l → W.heap[l]? = some o → o.isCells = false → Kp W (W.putObj l o'))
    (I : List α → World → Prop) (I2 : List α × α × Act → World → Prop) (hI : OwnFrom w.heap.size I) (hI2 : OwnFrom w.heap.size I2) (h0 : I [] w)
    (hassign : ∀ (l : Nat) (pre : List α) (x : α) (W : World), I pre W → pre.length < N →
      assign.wpIn (Fence.wide.inRound l) (n - 1 - 1) P (Exit.then (fun a2 W2 => KeepsOthers W W2 ∧ Kp W W2 ∧ I2 (pre, x, a2) W2) (fun _ _ _ => False)) { tmps := (ps.zip (encs x)).foldl (fun t (p, v) => t.setIfInBounds p v) a.tmps, defers := [] } W)
    (hbody : ∀ (l : Nat) (pre : List α) (x : α) (a2 : Act) (W : World), I2 (pre, x, a2) W → body.wpIn (Fence.wide.inRound l) (n - 1 - 1) P (fun e _ W2 => e = .normal ∧ KeepsOthers W W2 ∧ Kp W W2 ∧ I (pre ++ [x]) W2) a2 W)
    (hdone : ∀ (D : Nat) (xs : List α) (W : World), w.heap.size ≤ D → S xs → I xs W → W.heap[D]? = some (.deferred (some [])) → Q .normal { a with defers := { target := .collected D, args := #[] } :: a.defers } W) :
    (Code.rangeFunc g ps assign body).wp P Q a w := by
  refine (wpIn_wide (n := n)).1 (wpIn_rangeFunc fun fn hfn => ?_)
  -- the record of the rounds, and the block for what they defer
  obtain ⟨rec, hrec⟩ : ∃ rec : LoopState → Option Code → Loop, rec = fun st pe => { state := st, pending := pe, fn, tmps := a.tmps, params := ps, assign, body, defers := w.heap.size } := ⟨_, rfl⟩
  obtain ⟨W1, hW1⟩ : ∃ W1, (w.alloc (.deferred (some []))).alloc (.loop (rec .ready none)) = W1 := ⟨_, rfl⟩
  have hsz : W1.heap.size = w.heap.size + 1 + 1 := by rw [← hW1]; simp
  have hL1 : W1.heap[w.heap.size + 1]? = some (.loop (rec .ready none)) := by
    have := World.alloc_heap_new (w.alloc (.deferred (some []))) (.loop (rec .ready none))
    rw [World.size_alloc] at this; rw [← hW1]; exact this
  have hK1 : W1.heap[w.heap.size]? = some (.deferred (some [])) := by rw [← hW1]; exact (Below.heap_alloc _ _ _ (by simp)).trans (World.alloc_heap_new w _)
  have hI1 : I [] W1 := by rw [← hW1]; exact hI.alloc _ (hI.alloc _ h0)
  have hb1 : Below w.heap.size w W1 := by
    rw [← hW1]; exact (((Below.refl _ w).alloc (Nat.le_refl _) _).alloc (by simp) _)
  refine ⟨w.heap.size + 1, [{ target := .collected w.heap.size, args := #[] }], W1, { target := .fn (.func gf) lb, args := #[.func (.yield (w.heap.size + 1)) #[] #[]] }, W1, gf, #[.func (.yield (w.heap.size + 1)) #[] #[]] ++ lb, W1,
    ?enter, ?target, fun _ _ => trivial, ?invoke, fun _ => h1, ?iterate⟩
  case enter => rw [← hW1, hrec]; exact run_enterLoop_outer _ _ _ _ _
  case target => simp only [resolve, hg]; simp [go_sem]
  case invoke => simp [invoke, go_sem, eg]
  case iterate =>
    have far : ∀ {A B : World} {row : Option Nat}, (∀ r, row = some r → W1.heap.size ≤ r ∧ ∃ o : Obj, A.heap[r]? = some o ∧ o.isWalk = true) → ∀ r, row = some r → w.heap.size ≤ r ∧ ∃ o : Obj, A.heap[r]? = some o ∧ o.isCells = false :=
      fun hr r e => by
        obtain ⟨hB, o, ho, hw⟩ := hr r e
        exact ⟨by omega, o, ho, Obj.not_cells_of_walk hw⟩
    refine (hseq (w.heap.size + 1) (fun pre W => I pre W ∧ W.heap[w.heap.size + 1]? = some (.loop (rec .ready none)) ∧ W.heap[w.heap.size]? = some (.deferred (some []))) (fun _ _ => False) W1 hb1
      (fun s A B row hs hg' hr => ⟨hI s A B row hs.1 hg' (far (B := B) hr), (grownBy_keeps hg' (fun r e => (hr r e).2) hs.2.1 rfl).trans hs.2.1, (grownBy_keeps hg' (fun r e => (hr r e).2) hs.2.2 rfl).trans hs.2.2⟩)
      (fun _ _ _ _ hs _ _ => hs) ?round ⟨hI1, hL1, hK1⟩).mono ?_
    case round =>
      rintro pre x W ⟨hi, hl, hk⟩ hlen
      have hy := run_yield (P := P) (args := encs x) hl (by rw [hrec]; exact hps x)
      rw [hrec] at hy
      refine ⟨fn, _, assign, body, hy, roundIn_of_wpIn hfn (wpIn_mono (hassign _ pre x W hi hlen) ?_)⟩
      rintro e a2 W2 hp
      cases e with
      | normal =>
        obtain ⟨ko2, kp2, hi2⟩ := hp
        have hl2 := ko2.same _ _ hl rfl
        have hk2 := ko2.same _ _ hk rfl
        have hlt2 := (Array.getElem?_eq_some_iff.1 hl2).1
        refine ⟨_, run_beginRound hl2 (by rw [hrec]), ?_⟩
        obtain ⟨W3, hW3⟩ : ∃ W3, W2.putObj (w.heap.size + 1) (.loop { rec .ready none with state := .busy }) = W3 := ⟨_, rfl⟩
        have hl3 : W3.heap[w.heap.size + 1]? = some (.loop { rec .ready none with state := .busy }) := by rw [← hW3]; exact World.putObj_heap_same hlt2
        have hk3 : W3.heap[w.heap.size]? = some (.deferred (some [])) := by rw [← hW3]; exact (World.putObj_heap_other (by omega)).trans hk2
        have kp3 : Kp W2 W3 := by rw [← hW3]; exact hKb _ _ _ _ (by omega) hl2 rfl
        have hi3 : I2 (pre, x, a2) W3 := by rw [← hW3]; exact hI2.putObj _ hi2 (by omega) hl2 rfl
        show body.wpIn _ _ P _ a2 (W2.putObj (w.heap.size + 1) (.loop { rec .ready none with state := .busy }))
        rw [hW3]
        refine wpIn_mono (hbody _ pre x a2 W3 hi3) ?_
        rintro e a4 W4 ⟨rfl, ko4, kp4, hi4⟩
        have hl4 := ko4.same _ _ hl3 rfl
        have hk4 := ko4.same _ _ hk3 rfl
        have hlt4 := (Array.getElem?_eq_some_iff.1 hl4).1
        have hr := run_endRound (P := P) none hl4
        rw [hrec] at hr hl4 ⊢
        exact ⟨_, _, hr, .inl ⟨rfl, ⟨hI.putObj _ hi4 (by omega) hl4 rfl, World.putObj_heap_same hlt4, (World.putObj_heap_other (by omega)).trans hk4⟩, hKt (hKt kp2 (hKt kp3 kp4)) (hKb _ _ _ _ (by omega) hl4 rfl)⟩⟩
      | exit id => exact hp.elim
      | goto l => exact hp.elim
      | ret => exact hp.elim
      | panic ch => exact hp.elim
      | outgrown => exact hp.elim
    · rintro e W2 ⟨⟨v, rfl⟩, (⟨xs, hS, hi, hl, hk⟩ | ⟨pre, hSp, hf⟩)⟩
      · refine ⟨none, _, by have := run_endLoop (P := P) hl (by rw [hrec]; simp); rw [hrec] at this; exact this, ?_⟩
        exact hdone _ xs _ (Nat.le_refl _) hS (hI.putObj _ hi (by omega) hl rfl) ((World.putObj_heap_other (by omega)).trans hk)
      · exact hf.elim
end
end Go.Proofs.Ytbdnhoddkdiogaa
