/- The row of MerkleBinds: for every input that can be read the law returns true; each argument reads afterwards as before. -/
import Derived.Test.YtbdnhoddkdiogaaRows
import Derived.Test.YtbdnhoddkdiogaaMrb
import Derived.Test.YtbdnhoddkdiogaaAi3
import Derived.WalkKit
import Derived.ProofKit
import Derived.OpenShut
import Derived.ShutString
import Derived.ChangeOld
import Derived.Below
import Derived.SizedLaws
import Derived.Laws.Cover2
namespace Go.Proofs.Ytbdnhoddkdiogaa.merkleBinds
open Go.ChangeShapes Go.WideShapes Go.ChangeAt Go.RowKit
set_option linter.unusedVariables false
theorem own : ownKnob Try.prog.godebug = none := by kernel_rfl
theorem laidOut : laidOutB Try.prog = true := by kernel_rfl
set_option maxRecDepth 100000 in
theorem lifted (os : Os) (started : os.Started) (H : Type) (enc : TypeId × Value → H) :
    ReturnsInHanded {} Try.checked os 12 .any (Rows.merkleBindsSpec.pre6 enc Try.prog Try.f12 Rows.merkleBindsRow.domain false) (Rows.merkleBindsSpec.post enc Try.prog Try.f12 false true false false) := by
  refine returnsInHanded_of_change_sized (C := Try.checked) own started (by kernel_rfl) Try.func12
    (ChangeSpec.witness6 (enc := enc) (C := Try.checked) false ⟨#[], #[.slice none 0 0, .slice none 0 0, .slice none 0 0, .int .i64 0, .slice none 0 0, .bool false], []⟩ 8 (by kernel_rfl) (by kernel_rfl) (by kernel_rfl) (by kernel_rfl)) ?_
  intro W base args ds gs before hval0 hW hcnd hsz0 _
  have hval : ∀ (j : Nat) t v, Try.f12.params[j]? = some t → args[j]? = some v → Value.okWide Try.prog W .any base t v := hval0
  have hW' := hW
  obtain ⟨p, q, hA0, hV, rfl, hfz, hnd⟩ := hW
  have hA : DataW.TrodAll enc Try.prog W 0 (fun _ => true) true Try.f12.params.toList args.toList ds p := hA0
  rw [Try.params12] at hA hval
  obtain ⟨v0, vs0, d0, ds0, p0, q0, hargs, rfl, rfl, h0, r0⟩ := trodAll_cons hA
  obtain ⟨v1, vs1, d1, ds1, p1, q1, rfl, rfl, rfl, h1, r1⟩ := trodAll_cons r0
  obtain ⟨v2, vs2, d2, ds2, p2, q2, rfl, rfl, rfl, h2, r2⟩ := trodAll_cons r1
  obtain ⟨v3, vs3, d3, ds3, p3, q3, rfl, rfl, rfl, h3, r3⟩ := trodAll_cons r2
  obtain ⟨v4, vs4, d4, ds4, p4, q4, rfl, rfl, rfl, h4, r4⟩ := trodAll_cons r3
  obtain ⟨v5, vs5, d5, ds5, p5, q5, rfl, rfl, rfl, h5, r5⟩ := trodAll_cons r4
  obtain ⟨rfl, rfl, rfl⟩ := trodAll_nil r5
  obtain rfl : args = #[v0, v1, v2, v3, v4, v5] := by cases args; simp_all
  obtain ⟨rfl, rfl⟩ := trodVars_none hV
  have hz := hsz0
  rw [Try.params12] at hz
  have z0 := weightsEach_at (i := 0) hz rfl rfl
  have z1 := weightsEach_at (i := 1) hz rfl rfl
  have z2 := weightsEach_at (i := 2) hz rfl rfl
  have z3 := weightsEach_at (i := 3) hz rfl rfl
  have z4 := weightsEach_at (i := 4) hz rfl rfl
  have z5 := weightsEach_at (i := 5) hz rfl rfl
  have lt0 : ∀ x ∈ p0, x.block < W.heap.size := by obtain ⟨m, hm⟩ := h0; exact DataW.trod_lt m _ _ _ hm
  obtain ⟨x0, g0, w0⟩ := openP 12 (T := (.sl (.sl (.i .u8)))) (by kernel_rfl) (hval 0 32 v0 rfl rfl) h0 z0
  have lt1 : ∀ x ∈ p1, x.block < W.heap.size := by obtain ⟨m, hm⟩ := h1; exact DataW.trod_lt m _ _ _ hm
  obtain ⟨x1, g1, w1⟩ := openP 12 (T := (.sl (.sl (.i .u8)))) (by kernel_rfl) (hval 1 32 v1 rfl rfl) h1 z1
  have lt2 : ∀ x ∈ p2, x.block < W.heap.size := by obtain ⟨m, hm⟩ := h2; exact DataW.trod_lt m _ _ _ hm
  obtain ⟨x2, g2, w2⟩ := openP 12 (T := (.sl (.i .u8))) (by kernel_rfl) (hval 2 22 v2 rfl rfl) h2 z2
  have lt3 : ∀ x ∈ p3, x.block < W.heap.size := by obtain ⟨m, hm⟩ := h3; exact DataW.trod_lt m _ _ _ hm
  obtain ⟨x3, g3, w3⟩ := openP 12 (T := (.i .i64)) (by kernel_rfl) (hval 3 3 v3 rfl rfl) h3 z3
  have lt4 : ∀ x ∈ p4, x.block < W.heap.size := by obtain ⟨m, hm⟩ := h4; exact DataW.trod_lt m _ _ _ hm
  obtain ⟨x4, g4, w4⟩ := openP 12 (T := (.sl (.ar 32 (.i .u8)))) (by kernel_rfl) (hval 4 38 v4 rfl rfl) h4 z4
  have lt5 : ∀ x ∈ p5, x.block < W.heap.size := by obtain ⟨m, hm⟩ := h5; exact DataW.trod_lt m _ _ _ hm
  obtain ⟨x5, g5, w5⟩ := openP 12 (T := .bo) (by kernel_rfl) (hval 5 4 v5 rfl rfl) h5 z5
  clear hA0 hval0 hsz0
  refine (lawOk (ts := [(.sl (.sl (.i .u8))), (.sl (.sl (.i .u8))), (.sl (.i .u8)), (.i .i64), (.sl (.ar 32 (.i .u8))), .bo]) (d := ⟨x0, x1, x2, x3, x4, x5, ()⟩) (vs := [v0, v1, v2, v3, v4, v5]) (K12 x0 x1 x2 x3 x4 x5 w0 w1 w2 w3 w4 w5) ⟨g0, g1, g2, g3, g4, g5, trivial⟩).mono fun e W' ⟨he, bel⟩ => ?_
  subst he
  exact ⟨_, rfl, _, _, _, [], _, [], hW', trodAll_mk1 (shut_bool Try.underlying4 _), (trodAll_cons_mk (Below.trod laidOut (by kernel_rfl) (of_decide_eq_true (by kernel_rfl)) h0 bel lt0) (trodAll_cons_mk (Below.trod laidOut (by kernel_rfl) (of_decide_eq_true (by kernel_rfl)) h1 bel lt1) (trodAll_cons_mk (Below.trod laidOut (by kernel_rfl) (of_decide_eq_true (by kernel_rfl)) h2 bel lt2) (trodAll_cons_mk (Below.trod laidOut (by kernel_rfl) (of_decide_eq_true (by kernel_rfl)) h3 bel lt3) (trodAll_cons_mk (Below.trod laidOut (by kernel_rfl) (of_decide_eq_true (by kernel_rfl)) h4 bel lt4) (trodAll_cons_mk (Below.trod laidOut (by kernel_rfl) (of_decide_eq_true (by kernel_rfl)) h5 bel lt5) trodAll_mk0)))))), rfl, bel.frame _, fun h => by cases h⟩
theorem over : Rows.merkleBindsRow.holds Try.pinned (OpenSpec.ofChange Rows.merkleBindsSpec) :=
  OpenClaim.holds_of_wide 12 Try.f12 rfl rfl rfl rfl rfl rfl rfl ⟨rfl, rfl, rfl, rfl, rfl⟩ rfl rfl rfl rfl rfl (by kernel_rfl) Try.func12 (by kernel_rfl)
    (of_decide_eq_true (by kernel_rfl)) (by unfold Func.isWrapper; first | (rw [if_pos (by decide +kernel)]; kernel_rfl) | (rw [if_neg (by decide +kernel)]; exact ⟨rfl, rfl⟩))
    (fun os started H enc _ => lifted os started H enc)
end Go.Proofs.Ytbdnhoddkdiogaa.merkleBinds
namespace Go.Proofs.Ytbdnhoddkdiogaa
theorem merkleBinds_holds : Rows.MerkleBindsSaid := merkleBinds.over
#print axioms merkleBinds_holds
end Go.Proofs.Ytbdnhoddkdiogaa
