/- AHI, part L: the walk as a function of the code. -/
import Derived.Test.YtbdnhoddkdiogaaAhK
set_option linter.unusedSimpArgs false
set_option linter.unusedVariables false
namespace Go.Proofs.Ytbdnhoddkdiogaa
open Go.RowKit

/-- The walk: what is to be shown of the states in which code ends. Loops, and regions that draw their order, are left. -/
def aw (P : Program) (Γ : Gam) (B : Nat) (K : List Nat) : Code → (Exit → St → Prop) → St → Prop
  | .skip, Q, s => Q .normal s
  | .label _, Q, s => Q .normal s
  | .region id ops draw, Q, s => match draw with
    | true => AWP P B (.region id ops true) Q s
    | false => match aops P Γ ops.toList ops.toList s with | some s' => Q .normal (trim K s') | none => False
  | .seq a b, Q, s => aw P Γ B K a (thenQ (aw P Γ B K b Q) Q) s
  | .cond c x y, Q, s => match testB s c with | some b => (b = true → aw P Γ B K x Q s) ∧ (b = false → aw P Γ B K y Q s) | none => False
  | .block id c, Q, s => aw P Γ B K c (blockQ id Q) s
  | .exit id, Q, s => Q (.exit id) s
  | .ret, Q, s => Q .ret s
  | c, Q, s => AWP P B c Q s
section
variable {P : Program} {Γ : Gam} {B : Nat} {K : List Nat}
theorem aw_sound (hΓ : GamOk P Γ) : ∀ {c : Code} {Q : Exit → St → Prop} {s : St}, aw P Γ B K c Q s → AWP P B c Q s := by
  intro c
  induction c with
  | skip => intro Q s h; exact AWP.skip h
  | label l => intro Q s h; exact AWP.label h
  | region id ops draw =>
    intro Q s h
    cases draw with
    | true => exact h
    | false =>
      simp only [aw] at h
      split at h
      · rename_i s' hs'
        -- the trimmed state stands behind the region
        exact fun X σ a w hs => wp_region_list (wpList_sound hΓ hs' hs fun σ' a' w' h1 h2 => ⟨σ', trim K s', h, h1.trim K, h2.toB⟩)
      · exact h.elim
  | seq a b iha ihb =>
    intro Q s h
    exact AWP.seq (AWP.mono (fun e s h => by cases e <;> first | exact ihb h | exact h) (iha h))
  | cond c x y ihx ihy =>
    intro Q s h
    simp only [aw] at h
    split at h
    · rename_i b hb
      exact AWP.cond hb (fun e => ihx (h.1 e)) (fun e => ihy (h.2 e))
    · exact h.elim
  | block id c ih => intro Q s h; exact AWP.block (ih h)
  | exit id => intro Q s h; exact AWP.exit h
  | ret => intro Q s h; exact AWP.ret h
  | loop c _ => intro Q s h; exact h
  | rangeFunc f p x y _ _ => intro Q s h; exact h
  | scope c _ => intro Q s h; exact h
  | goto l => intro Q s h; exact h
  | refuse w => intro Q s h; exact h
end
end Go.Proofs.Ytbdnhoddkdiogaa
