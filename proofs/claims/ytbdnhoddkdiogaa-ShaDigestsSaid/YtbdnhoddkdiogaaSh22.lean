/- The walk of ShaDigests. -/
import Derived.Test.YtbdnhoddkdiogaaSh21
import Derived.Test.YtbdnhoddkdiogaaSh8
import Derived.Test.YtbdnhoddkdiogaaShK
set_option linter.unusedSimpArgs false
set_option linter.unusedVariables false
namespace Go.Proofs.Ytbdnhoddkdiogaa
open Go.RowKit

theorem of_digest (xs : List Int) : (Sha.of xs).length = 32 := Sha.outs_length _ _

set_option maxRecDepth 100000 in
set_option maxHeartbeats 4000000 in
theorem shaDigests_row (w : World) (v : Value) (xs : List Int) (hv : HoldsB w v xs) (hb : ∀ x ∈ xs, 0 ≤ x ∧ x < 256) :
    Calls Try.prog 3 #[v] w fun e w' => e = .returned (.bool true) ∧ Below w.heap.size w w' := by
  have HV := Lib.hid hv
  obtain ⟨a, cap, rfl⟩ := hv.shape
  have HB := Lib.hid hb
  clear hv hb
  by_cases h300 : xs.length ≤ 300
  · have hgt : decide ((xs.length : Int) > 300) = false := by simp; omega
    have hgt2 : decide ((300 : Int) < (xs.length : Int)) = false := by simp; omega
    have hE : ∀ W, (binOp .eql 25 (.agg (Sha.bytes (Sha.of xs))) (.agg (Sha.bytes (Sha.of xs)))).run Try.prog W = .ok (.bool true) W := fun W => by
      have := run_eql_bytesI (P := Try.prog) _ _ 32 Try.underlying25 Try.underlying5 Try.sizeOf5 (Sha.of xs) (Sha.of xs) (of_digest xs) (of_digest xs) W
      rw [beq_self_eq_true] at this
      exact this
    obtain ⟨D, hD⟩ : ∃ D, D = Sha.of xs := ⟨_, rfl⟩
    have o1 := fun w hv => of_any (.slice a xs.length cap) xs w hv HB.out (by omega)
    have o2 := fun w hv => refOf_any (.slice a xs.length cap) xs w hv HB.out (by omega)
    rw [← hD] at hE o1 o2
    have O1 := Lib.hid o1
    have O2 := Lib.hid o2
    clear hD o1 o2
    go_enter Try.func3, Try.ntmps3
    go_wp2_with (first | (go_at_call 15; refine (awake_any _).mono ?_; rintro e w1 ⟨rfl, hb1⟩; replace hb1 := Lib.hid hb1) | (go_at_call 16; refine (O1.out _ (HV.out.below hb1.out)).mono ?_; rintro e w2 ⟨rfl, hb2⟩; replace hb2 := Lib.hid (hb1.out.trans (hb2.mono hb1.out.size))) | (go_at_call 17; refine (O2.out _ (HV.out.below hb2.out)).mono ?_; rintro e w3 ⟨rfl, hb3⟩; replace hb3 := Lib.hid (hb2.out.trans (hb3.mono hb2.out.size))))
    go_ret
    exact ⟨rfl, hb3.out⟩
  · have hgt : decide ((xs.length : Int) > 300) = true := by simp; omega
    have hgt2 : decide ((300 : Int) < (xs.length : Int)) = true := by simp; omega
    go_enter Try.func3, Try.ntmps3
    go_wp2_with (go_at_call 15; refine (awake_any _).mono ?_; rintro e w1 ⟨rfl, hb1⟩; replace hb1 := Lib.hid hb1)
    go_ret
    rename_i w0 hb0
    exact ⟨rfl, hb0.out.trans (hb1.out.mono hb0.out.size)⟩
end Go.Proofs.Ytbdnhoddkdiogaa
