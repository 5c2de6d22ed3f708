/- AHI, more rules: a scope in which the run jumps back to one label. -/
import Derived.Test.YtcnoooodnmjdmaaAi5
import Derived.ScopeJumps
set_option linter.unusedSimpArgs false
set_option linter.unusedVariables false
namespace Go.Proofs.Ytcnoooodnmjdmaa
open Go.RowKit
theorem least {p : Nat → Prop} (h : ∃ n, p n) : ∃ m, p m ∧ ∀ k, p k → m ≤ k := by
  obtain ⟨n, hn⟩ := h
  induction n using Nat.strongRecOn with
  | _ n ih =>
    by_cases hk : ∃ k, k < n ∧ p k
    · obtain ⟨k, h1, h2⟩ := hk; exact ih k h1 h2
    · exact ⟨n, hn, fun k h => Nat.le_of_not_lt fun hlt => hk ⟨k, hlt, h⟩⟩
section
variable {P : Program} {B : Nat} {s s' : St}
def gotoQ (l : Nat) (J : St → Prop) (Q : Exit → St → Prop) : Exit → St → Prop
  | .goto l', s => l' = l ∧ J s
  | e, s => Q e s
theorem AWP.goto {l : Nat} {Q : Exit → St → Prop} (h : Q (.goto l) s) : AWP P B (.goto l) Q s := fun X σ a w hs => wp_goto ⟨σ, s, h, hs, StepB.refl _ _ _ _⟩
theorem AWP.seqLabel {l : Nat} {d : Code} {Q : Exit → St → Prop} (h : AWP P B d Q s) : AWP P B (.seq (.label l) d) Q s := AWP.seq (AWP.label h)
open Classical in
theorem AWP.scopeP {α : Type} {c R : Code} {Q : Exit → St → Prop} (l : Nat) (st : α → St) (I : α → Prop) (μ : α → Nat) (hf : findLabel c l = some (.seq .skip R))
    (pass : ∀ a, I a → AWP P B R (gotoQ l (fun s' => ∃ a', Ghost B s' (st a') ∧ I a' ∧ μ a' < μ a) Q) (st a))
    (first : (∀ a s', Ghost B s' (st a) → I a → AWP P B R (gotoQ l (fun s' => ∃ a', Ghost B s' (st a') ∧ I a') Q) s') → AWP P B c (gotoQ l (fun s' => ∃ a', Ghost B s' (st a') ∧ I a') Q) s) : AWP P B (.scope c) Q s := fun X σ a w hs => by
  -- what holds at a jump, and by which measure
  let J : Nat → Act → World → Prop := fun n a' w' => ∃ p σ', μ p = n ∧ I p ∧ StRep X σ' (st p) a' w' ∧ StepB B σ s.H w σ' (st p).H w'
  let M : Act → World → Nat := fun a' w' => if h : ∃ n, J n a' w' then (least h).choose else 0
  have hM : ∀ {n : Nat} {a' : Act} {w' : World}, J n a' w' → J (M a' w') a' w' ∧ M a' w' ≤ n := fun {n a' w'} h => by
    have hex : ∃ n, J n a' w' := ⟨n, h⟩
    have e : M a' w' = (least hex).choose := dif_pos hex
    rw [e]
    exact ⟨(least hex).choose_spec.1, (least hex).choose_spec.2 n h⟩
  refine wp_scope_jumps l (fun a' w' => ∃ n, J n a' w') M hf (wp_mono (first (fun p s1 hg hp => AWP.ghost hg (AWP.mono (fun e s2 h => ?_) (pass p hp))) X σ a w hs) ?_) (fun a1 w1 ⟨n, hn⟩ => ?_)
  · cases e with
    | goto l' => exact ⟨h.1, let ⟨p', h1, h2, _⟩ := h.2; ⟨p', h1, h2⟩⟩
    | _ => exact h
  · rintro e a' w' ⟨σ1, s1, h1, h2, h3⟩
    cases e with
    | goto l' =>
      obtain ⟨rfl, p', hg, hp⟩ := h1
      obtain ⟨σ2, h4, h5⟩ := hg X σ1 a' w' h2
      exact ⟨rfl, μ p', p', σ2, rfl, hp, h4, h3.trans h5⟩
    | _ => exact ⟨σ1, s1, h1, h2, h3⟩
  · obtain ⟨⟨p, σ1, hp, hI, h2, h3⟩, -⟩ := hM hn
    refine wp_seq (wp_mono (show Code.skip.wp P (fun e a' w' => e = .normal ∧ a' = a1 ∧ w' = w1) a1 w1 from wp_skip ⟨rfl, rfl, rfl⟩) ?_)
    rintro e a2 w2 ⟨rfl, rfl, rfl⟩
    refine wp_mono (pass p hI X σ1 a2 w2 h2) ?_
    rintro e a' w' ⟨σ2, s2, g1, g2, g3⟩
    cases e with
    | goto l' =>
      obtain ⟨rfl, p', hg, hp', hlt⟩ := g1
      obtain ⟨σ3, h4, h5⟩ := hg X σ2 a' w' g2
      have hj : J (μ p') a' w' := ⟨p', σ3, rfl, hp', h4, h3.trans (g3.trans h5)⟩
      exact ⟨rfl, ⟨_, hj⟩, Nat.lt_of_le_of_lt (hM hj).2 (by rw [← hp]; exact hlt)⟩
    | _ => exact ⟨σ2, s2, g1, g2, h3.trans g3⟩
end
end Go.Proofs.Ytcnoooodnmjdmaa
