/- The walk of ShaHexes. -/
import Derived.Test.YtbdnhoddkdiogaaSh8
import Derived.Test.YtbdnhoddkdiogaaShK
set_option linter.unusedSimpArgs false
set_option linter.unusedVariables false
namespace Go.Proofs.Ytbdnhoddkdiogaa
open Go.RowKit

set_option maxRecDepth 100000 in
set_option maxHeartbeats 4000000 in
theorem shaHexes_row (A : List Int) (hA : A.length = 32) (bA : ∀ x ∈ A, 0 ≤ x ∧ x < 256) (B : List Int) (hB : B.length = 32) (bB : ∀ x ∈ B, 0 ≤ x ∧ x < 256) (w : World) :
    Calls Try.prog 6 #[.agg (Sha.bytes A), .agg (Sha.bytes B)] w fun e w' => e = .returned (.bool true) ∧ Below w.heap.size w w' := by
  have BA := Lib.hid bA
  have BB := Lib.hid bB
  have hsA : (Try.prog.info? 25).map (·.size) = some (Sha.bytes A).size := by rw [Sha.bytes_size, hA]; kernel_rfl
  have hsB : (Try.prog.info? 25).map (·.size) = some (Sha.bytes B).size := by rw [Sha.bytes_size, hB]; kernel_rfl
  have HSA := Lib.hid hsA
  have HSB := Lib.hid hsB
  have HE := Lib.hid (hex_eq A B bA bB)
  clear bA bB hsA hsB
  go_enter Try.func6, Try.ntmps6
  go_wp2_with (go_at_call 15; refine (awake_any _).mono ?_; rintro e w1 ⟨rfl, hb1⟩; replace hb1 := Lib.hid hb1)
  have hw1 : w1.heap[w.heap.size]? = some (.cells (Sha.bytes A) 25 (0, 0)) := (hb1.out.block _ (by simp; omega)).trans (heap_alloc2_old _ _ _)
  have hw2 : w1.heap[w.heap.size + 1]? = some (.cells (Sha.bytes B) 25 (0, 0)) := (hb1.out.block _ (by simp)).trans (heap_alloc2_new _ _ _)
  have hlt : w.heap.size + 1 < w1.heap.size := by have := hb1.out.size; simp at this; omega
  have HW1 := Lib.hid hw1
  have HW2 := Lib.hid hw2
  clear hw1 hw2
  have h1 : ∀ w', Below w1.heap.size w1 w' → w'.heap[w.heap.size]? = some (.cells (Sha.bytes A) 25 (0, 0)) := fun w' hb => (hb.block _ (by omega)).trans HW1.out
  have h2 : ∀ w', Below w1.heap.size w1 w' → w'.heap[w.heap.size + 1]? = some (.cells (Sha.bytes B) 25 (0, 0)) := fun w' hb => (hb.block _ hlt).trans HW2.out
  refine wp_region_quietB (by kernel_rfl) (by kernel_rfl) ?_
  refine BigFrame.wpQuiet_want (by rfl) (fun K hK => quiet_load_row _ _ rfl w.heap.size rfl _ (Sha.bytes A) _ _ h1 Try.underlying25 rfl HSA.out (hK _ ?_))
  try clear hK K
  simp only [Act.put, List.setIfInBounds_toArray, List.set_cons_zero, List.set_cons_succ]
  refine BigFrame.wpQuiet_want (by rfl) (fun K hK => quiet_call 18 #[.agg (Sha.bytes A)] (.string (strOfNums (Sha.hexs A))) (fun W => by go_simp) (fun W _ => hex_any A hA BA.out W) (hK _ ?_))
  try clear hK K
  simp only [Act.put, List.setIfInBounds_toArray, List.set_cons_zero, List.set_cons_succ]
  refine BigFrame.wpQuiet_want (by rfl) (fun K hK => quiet_load_row _ _ rfl (w.heap.size + 1) rfl _ (Sha.bytes B) _ _ h2 Try.underlying25 rfl HSB.out (hK _ ?_))
  try clear hK K
  simp only [Act.put, List.setIfInBounds_toArray, List.set_cons_zero, List.set_cons_succ]
  refine BigFrame.wpQuiet_want (by rfl) (fun K hK => quiet_call 18 #[.agg (Sha.bytes B)] (.string (strOfNums (Sha.hexs B))) (fun W => by go_simp) (fun W _ => hex_any B hB BB.out W) (hK _ ?_))
  try clear hK K
  simp only [Act.put, List.setIfInBounds_toArray, List.set_cons_zero, List.set_cons_succ]
  refine BigFrame.wpQuiet_want (by rfl) (fun K hK => quiet_run (.bool (A == B)) (fun W _ => by go_simp; exact HE.out) (hK _ ?_))
  try clear hK K
  simp only [Act.put, List.setIfInBounds_toArray, List.set_cons_zero, List.set_cons_succ]
  refine BigFrame.wpQuiet_want (by rfl) (fun K hK => quiet_load_row _ _ rfl w.heap.size rfl _ (Sha.bytes A) _ _ h1 Try.underlying25 rfl HSA.out (hK _ ?_))
  try clear hK K
  simp only [Act.put, List.setIfInBounds_toArray, List.set_cons_zero, List.set_cons_succ]
  refine BigFrame.wpQuiet_want (by rfl) (fun K hK => quiet_load_row _ _ rfl (w.heap.size + 1) rfl _ (Sha.bytes B) _ _ h2 Try.underlying25 rfl HSB.out (hK _ ?_))
  try clear hK K
  simp only [Act.put, List.setIfInBounds_toArray, List.set_cons_zero, List.set_cons_succ]
  refine BigFrame.wpQuiet_want (by rfl) (fun K hK => quiet_bin .eql _ _ _ _ rfl _ _ (.bool (A == B)) rfl rfl (fun W => by go_simp) (fun W => run_eql_bytesI _ _ 32 Try.underlying25 Try.underlying5 Try.sizeOf5 A B hA hB W) (hK _ ?_))
  try clear hK K
  simp only [Act.put, List.setIfInBounds_toArray, List.set_cons_zero, List.set_cons_succ]
  refine BigFrame.wpQuiet_want (by rfl) (fun K hK => quiet_run (.bool true) (fun W _ => by go_simp) (hK _ ?_))
  try clear hK K
  simp only [Act.put, List.setIfInBounds_toArray, List.set_cons_zero, List.set_cons_succ]
  refine BigFrame.wpQuiet_want (by rfl) (fun K hK => BigFrame.quiet_assign _ rfl (hK _ ?_))
  try clear hK K
  simp only [Act.put, List.setIfInBounds_toArray, List.set_cons_zero, List.set_cons_succ]
  refine wpQuiet_nil ?_
  intro w2 hb2
  have HB2 := Lib.hid hb2
  clear hb2
  go_wp2
  go_ret
  exact ⟨rfl, (((((Below.refl _ _).alloc (Nat.le_refl _) _).alloc (by simp) _)).trans (hb1.out.mono (by simp; omega))).trans (HB2.out.mono (by omega))⟩
end Go.Proofs.Ytbdnhoddkdiogaa
