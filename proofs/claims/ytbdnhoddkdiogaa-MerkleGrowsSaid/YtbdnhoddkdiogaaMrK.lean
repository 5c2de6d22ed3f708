import Derived.Test.YtbdnhoddkdiogaaAi2
import Derived.Test.YtbdnhoddkdiogaaMrJ
import Derived.RangeFuncFrom
set_option linter.unusedSimpArgs false
set_option linter.unusedVariables false
namespace Go.Proofs.Ytbdnhoddkdiogaa
open Go.RowKit Go
/-- A region that AHI evaluates, inside a round of a range over a function. -/
theorem region_round {P : Program} {X : Nat → Prop} {σ : Sg} {s s' : St} {a : Act} {w : World} {Γ : Gam} (hΓ : GamOk P Γ) {id n l : Nat} {ops : Array Oper} (h : aops P Γ ops.toList ops.toList s = some s') (hd : ∀ o ∈ ops.toList, ∀ c, o.op ≠ .defer c) (hs : StRep X σ s a w) {Q : Exit → Act → World → Prop}
    (hq : ∀ σ' a' w', StRep X σ' s' a' w' → Step σ s.H w σ' s'.H w' → Q .normal a' w') : (Code.region id ops false).wpIn (Fence.wide.inRound l) n P Q a w := by
  have h1 : wpList P ops (fun e a w => e = .normal ∧ Q .normal a w) ops.toList a w := wpList_sound hΓ h hs fun σ' a' w' r1 r2 => ⟨rfl, hq σ' a' w' r1 r2⟩
  have h2 := wpListIn_plain_round (n := n) (l := l) (by rintro ⟨a, w, e, -⟩; cases e) hd h1
  exact wpIn_mono (wpIn_region_list h2) fun {e a w} ⟨he, hq⟩ => by subst he; exact hq
end Go.Proofs.Ytbdnhoddkdiogaa
