/- What was shown of a call by other means, as a contract over AHI. -/
import Derived.Test.YtbdnhoddkdiogaaAhX
import Derived.Test.YtbdnhoddkdiogaaShB
set_option linter.unusedSimpArgs false
set_option linter.unusedVariables false
namespace Go.Proofs.Ytbdnhoddkdiogaa
open Go.RowKit
theorem bridge {P : Program} {g : FuncId} {al : List AV} {r : AV} {v : Value} (hc : callable P g = true) (hr : ∀ w own σ, RepA w own σ r v)
    (h : ∀ (own : Nat → Prop) (σ : Sg) (w : World) (vs : List Value), vs.length = al.length → (∀ (i : Nat) x, al[i]? = some x → ∃ v, vs[i]? = some v ∧ Rep1 w own σ x v) → Calls P g vs.toArray w (fun e w' => e = .returned v ∧ Below w.heap.size w w')) :
    CallOk P g al [] r [] := by
  refine ⟨hc, fun X σ w vs hh hl hv => (h _ σ w vs hl hv).mono fun e w' ⟨he, hb⟩ => ⟨v, he, σ, hr _ _ _, ?_, ?_⟩⟩
  · exact ⟨hh.dom, fun id r h => by simp at h, fun b hx => Nat.lt_of_lt_of_le (hh.xlt b hx) hb.size, fun b hx ho => by obtain ⟨id, r, x, h, _⟩ := ho; simp at h, fun id id' r r' b x x' h => by simp at h⟩
  · exact ⟨hb.os, hb.tape, hb.output, ⟨hb.size, fun b hlt _ => hb.block b hlt, fun b ho => by obtain ⟨id, r, x, h, _⟩ := ho; simp at h⟩, fun _ _ h => h, Nat.le_refl _, fun _ _ => rfl⟩
theorem holds_of_rs {w : World} {own : Nat → Prop} {xs : List Int} {v : Value} (h : RepSl w own (.i .u8) xs v) (hl : xs.length ≤ 140737488351232) : HoldsB w v xs := by
  rcases h with ⟨rfl, a, c, rfl⟩ | ⟨b, off, c, rfl, h1, h2, _, h4, h5⟩
  · exact .inl ⟨⟨a, c, rfl⟩, rfl⟩
  · refine .inr ⟨b, off, c, rfl, h1, by unfold maxLen at h2; omega, hl, h4, fun i hi => ?_⟩
    have := h5 i _ (List.getElem?_eq_getElem hi)
    have h6 : w.cell? ⟨b, off + i * 1 + 0, none⟩ = some (.int .u8 xs[i]) := this
    rw [show off + i = off + i * 1 + 0 by omega, h6, List.getD_eq_getElem?_getD, List.getElem?_eq_getElem hi]; rfl
/-- A digest as a value. -/
theorem digest_rep (xs : List Int) (w : World) (own : Nat → Prop) (σ : Sg) : RepA w own σ (.agg (.ty (.i .u8) xs)) (.agg (Sha.bytes xs)) := by
  refine ⟨xs.map (Value.int .u8), by simp [Sha.bytes], by simp [Row.size, Ty.sz], fun i x hx => ?_⟩
  have : (xs.map (Value.int .u8))[i * 1 + 0]? = some (.int .u8 x) := by rw [Nat.mul_one, Nat.add_zero, List.getElem?_map, hx]; rfl
  exact this
/-- Bytes. -/
def bytesOk (xs : List Int) : Prop := ∀ x ∈ xs, 0 ≤ x ∧ x < 256
instance (xs : List Int) : Decidable (bytesOk xs) := inferInstanceAs (Decidable (∀ x ∈ xs, 0 ≤ x ∧ x < 256))
theorem wf_bytes {xs : List Int} (h : wfD (.sl (.i .u8)) xs) : bytesOk xs := fun x hx => wf_u8 (h.2 x hx)
theorem rep_rs {w : World} {own : Nat → Prop} {σ : Sg} {xs : List Int} {al : List AV} {vs : List Value} {j : Nat} (h : ∀ (i : Nat) x, al[i]? = some x → ∃ v, vs[i]? = some v ∧ Rep1 w own σ x v) (hj : al[j]? = some (.c (.rs (.i .u8) xs))) : ∃ v, vs[j]? = some v ∧ RepSl w own (.i .u8) xs v := h j _ hj
end Go.Proofs.Ytbdnhoddkdiogaa
