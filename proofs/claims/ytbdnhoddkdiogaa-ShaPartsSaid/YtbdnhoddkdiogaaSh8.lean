/- The contract of the law's awake. -/
import Derived.Test.YtbdnhoddkdiogaaSh7
import Derived.Test.YtbdnhoddkdiogaaShA
import Derived.Lib.SlBytesConst
set_option linter.unusedSimpArgs false
set_option linter.unusedVariables false
namespace Go.Proofs.Ytbdnhoddkdiogaa
open Go.RowKit

def digOne : List Int := 1 :: List.replicate 31 0
def digTwo : List Int := 2 :: List.replicate 31 0

set_option maxRecDepth 100000 in
set_option maxHeartbeats 4000000 in
theorem awake_any (w : World) : Calls Try.prog 15 #[] w fun e w' => e = .returned (.bool true) ∧ Below w.heap.size w w' := by
  have hcv := Lib.run_convert_bytes_const (P := Try.prog) w 22 5 #[.int .u8 97, .int .u8 98, .int .u8 99] 3 3 Try.underlying22 Try.underlying5
  have hh : HoldsB (w.alloc (.cells #[.int .u8 97, .int .u8 98, .int .u8 99] 5 (3, 4))) (.slice (some ⟨w.heap.size, 0, none⟩) 3 3) [97, 98, 99] := by
    refine .inr ⟨w.heap.size, 0, 3, rfl, by simp, by omega, by simp, by simp, fun i hi => ?_⟩
    rw [cell_of_row _ _ (0 + i) _ _ _ (heap_alloc_new _ _)]
    have hi' : i = 0 ∨ i = 1 ∨ i = 2 := by simp at hi; omega
    rcases hi' with rfl | rfl | rfl <;> rfl
  have HH := Lib.hid hh
  have e1 : strOfNums (Sha.hexs Sha.abcDigest) = ⟨#[98, 97, 55, 56, 49, 54, 98, 102, 56, 102, 48, 49, 99, 102, 101, 97, 52, 49, 52, 49, 52, 48, 100, 101, 53, 100, 97, 101, 50, 50, 50, 51, 98, 48, 48, 51, 54, 49, 97, 51, 57, 54, 49, 55, 55, 97, 57, 99, 98, 52, 49, 48, 102, 102, 54, 49, 102, 50, 48, 48, 49, 53, 97, 100]⟩ := by
    rw [Sha.abc_hex]; rfl
  have E1 := Lib.hid e1
  have l1 : lessB digOne digTwo = true := by decide +kernel
  clear hh e1
  go_enter Try.func15, Try.ntmps15
  go_wp2_with (first | (go_at_call 16; refine (of_any _ [97, 98, 99] _ HH.out (by decide) (by simp)).mono ?_; rintro e w1 ⟨rfl, hb1⟩; rw [Sha.abc_of]; replace hb1 := Lib.hid hb1) | (go_at_call 18; refine (hex_any Sha.abcDigest rfl (by decide +kernel) _).mono ?_; rintro e w2 ⟨rfl, hb2⟩; rw [E1.out]; replace hb2 := Lib.hid hb2) | (go_at_call 19; refine (less_any digOne digTwo rfl rfl _).mono ?_; rintro e w3 ⟨rfl, hb3⟩; rw [l1]; replace hb3 := Lib.hid hb3))
  go_ret
  exact ⟨rfl, ((((Below.refl _ _).alloc (Nat.le_refl _) _).trans (hb1.out.mono (by simp))).trans (hb2.out.mono (by have := hb1.out.size; simp at this; omega))).trans (hb3.out.mono (by have := hb1.out.size; have := hb2.out.size; simp at *; omega))⟩
end Go.Proofs.Ytbdnhoddkdiogaa
