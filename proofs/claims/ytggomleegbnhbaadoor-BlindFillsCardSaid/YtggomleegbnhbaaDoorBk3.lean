import Derived.Test.YtggomleegbnhbaaDoorBk2
set_option linter.unusedSimpArgs false
set_option linter.unusedVariables false
namespace Go.Proofs.YtggomleegbnhbaaDoor
open Go.RowKit
set_option maxRecDepth 100000
theorem eval_c (zs : List Int) (x : Int) (hz : bytesOk zs) (hx : byteOk x) (hl : zs.length < 4000000000) : CallOk Tryd.prog 34 [.c (.ptr 0 0 1 0), .c (.rs (.i .u8) zs), .c (ci .u8 x)] FH (.c (ci .u8 (evalF zs x))) FH := by
  refine ⟨by kernel_rfl, fun X σ w vs hh hlen hargs => ?_⟩
  match vs, hlen with
  | [v0, v1, v2], _ =>
  obtain ⟨u0, e0, r0⟩ := hargs 0 _ rfl
  obtain ⟨u1, e1, r1⟩ := hargs 1 _ rfl
  obtain ⟨u2, e2, r2⟩ := hargs 2 _ rfl
  cases e0; cases e1; cases e2
  obtain ⟨rfl, -⟩ := r2
  have r0' := r0
  obtain ⟨b0, base, ext, g1, rfl⟩ := r0'
  have go : ∀ (sa : Option Addr) (slen scap b : Nat), v1 = .slice sa slen scap → Bytes b w (.slice sa slen scap) zs → (zs ≠ [] → b < w.heap.size ∧ ¬ ownB σ FH b) → Calls Tryd.prog 34 [.pointer (some ⟨b0, base + (0 * 1 + 0), none⟩), v1, .int .u8 x].toArray w (fun e w' => ∃ v, e = .returned v ∧ Post X σ FH w (.c (ci .u8 (evalF zs x))) FH v w') := fun sa slen scap b hv hs hb => by
    subst hv
    refine (eval_in zs x hz hx hl X σ w _ sa slen scap b hh r0 hs hb).mono ?_
    rintro e W ⟨rfl, hk⟩
    exact ⟨_, rfl, σ, ⟨rfl, rfl⟩, hk.heap, hk.step⟩
  rcases r1 with ⟨rfl, a, c, rfl⟩ | ⟨b, off, c, rfl, h1, h2, h3, h4, h5⟩
  · exact go _ _ _ 0 rfl (.inl ⟨rfl, _, _, rfl⟩) (fun h => (h rfl).elim)
  · refine go _ _ _ b rfl (.inr ⟨off, c, rfl, fun j hj => ?_⟩) (fun _ => ⟨h4, fun ho => h3 (.inl ho)⟩)
    have h6 : w.cell? ⟨b, off + j * 1 + 0, none⟩ = some (.int .u8 zs[j]) := h5 j zs[j] (List.getElem?_eq_getElem hj)
    rw [List.getElem?_eq_getElem hj]
    simpa using h6
instance (l : List Int) : Decidable (bytesOk l) := inferInstanceAs (Decidable (∀ x ∈ l, byteOk x))
def E34 : Entry := withE FT [.sl (.i .u8), .i .u8] (fun l d => l = [Tab] ∧ bytesOk d.1 ∧ byteOk d.2.1 ∧ d.1.length < 4000000000) (fun l d => .c (ci .u8 (evalF d.1 d.2.1))) (fun _ _ => [])
theorem E34_ok : EntryOk Tryd.prog 34 E34 := withE_ok rfl (fun _ _ => rfl) (fun _ _ => rfl) fun l d hc => by
  obtain ⟨rfl, h1, h2, h3⟩ := hc
  exact eval_c d.1 d.2.1 h1 h2 h3
attribute [go_sem] E34
theorem awake_c : CallOk Tryd.prog 4 [] [] (.c (cb true)) [] := closed_true (Gam.cons_ok E12_ok (Gam.cons_ok E34_ok (Gam.cons_ok E18_ok (Gam.cons_ok E33_ok (Gam.nil_ok _))))) (by kernel_rfl) (m := 600) (n := 20) (by kernel_rfl)
abbrev c4 : Prop := True
abbrev r4 : AV := .c (cb true)
abbrev L4 : Hp := []
def E4 : Entry := pureN [] (fun d => c4 ) (fun d => r4 ) (fun d => L4 )
set_option maxRecDepth 100000 in
set_option maxHeartbeats 4000000 in
theorem K4 (hc : c4) : CallOk Tryd.prog 4 [] [] (r4) (L4) := by
  exact awake_c
theorem E4_ok : EntryOk Tryd.prog 4 E4 := pureN_ok (fun d hc => K4 hc) (fun _ => rfl) (fun _ => rfl)
attribute [go_sem] E4 c4 r4 L4
end Go.Proofs.YtggomleegbnhbaaDoor
