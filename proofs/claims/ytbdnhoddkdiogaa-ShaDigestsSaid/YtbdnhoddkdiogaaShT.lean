/- The document's turning: the same as the program's. -/
import Derived.Test.YtbdnhoddkdiogaaSh5
set_option linter.unusedSimpArgs false
set_option linter.unusedVariables false
namespace Go.Proofs.Ytbdnhoddkdiogaa
open Go.RowKit

theorem or_turned (a b : Int) (h1 : 0 ≤ a) (h2 : a < 4294967296) (h3 : 0 ≤ b) (h4 : b < 4294967296) : bits .or .u32 a b = bits .or .u32 b a := by
  rw [u32_or a b h1 h2 h3 h4, u32_or b a h3 h4 h1 h2, Nat.or_comm]

theorem rturn2 (x : Int) (_hx : 0 ≤ x) (_hx2 : x < 4294967296) (w : World) :
    Calls Try.prog 46 #[.int .u32 x, .int .u64 2] w fun e w' => e = .returned (.int .u32 (Sha.rot 1073741824 4 x)) ∧ w = w' := by
  have hr : Sha.rot 1073741824 4 x = bits .or .u32 (x / 4) (x * 1073741824 % 4294967296) := or_turned _ _ (by omega) (by omega) (by omega) (by omega)
  have HR := Lib.hid hr
  clear hr
  go_enter Try.func46, Try.ntmps46
  go_wp2
  go_ret
  exact ⟨by rw [HR.out]; rfl, rfl⟩
theorem rturn6 (x : Int) (_hx : 0 ≤ x) (_hx2 : x < 4294967296) (w : World) :
    Calls Try.prog 46 #[.int .u32 x, .int .u64 6] w fun e w' => e = .returned (.int .u32 (Sha.rot 67108864 64 x)) ∧ w = w' := by
  have hr : Sha.rot 67108864 64 x = bits .or .u32 (x / 64) (x * 67108864 % 4294967296) := or_turned _ _ (by omega) (by omega) (by omega) (by omega)
  have HR := Lib.hid hr
  clear hr
  go_enter Try.func46, Try.ntmps46
  go_wp2
  go_ret
  exact ⟨by rw [HR.out]; rfl, rfl⟩
theorem rturn7 (x : Int) (_hx : 0 ≤ x) (_hx2 : x < 4294967296) (w : World) :
    Calls Try.prog 46 #[.int .u32 x, .int .u64 7] w fun e w' => e = .returned (.int .u32 (Sha.rot 33554432 128 x)) ∧ w = w' := by
  have hr : Sha.rot 33554432 128 x = bits .or .u32 (x / 128) (x * 33554432 % 4294967296) := or_turned _ _ (by omega) (by omega) (by omega) (by omega)
  have HR := Lib.hid hr
  clear hr
  go_enter Try.func46, Try.ntmps46
  go_wp2
  go_ret
  exact ⟨by rw [HR.out]; rfl, rfl⟩
theorem rturn11 (x : Int) (_hx : 0 ≤ x) (_hx2 : x < 4294967296) (w : World) :
    Calls Try.prog 46 #[.int .u32 x, .int .u64 11] w fun e w' => e = .returned (.int .u32 (Sha.rot 2097152 2048 x)) ∧ w = w' := by
  have hr : Sha.rot 2097152 2048 x = bits .or .u32 (x / 2048) (x * 2097152 % 4294967296) := or_turned _ _ (by omega) (by omega) (by omega) (by omega)
  have HR := Lib.hid hr
  clear hr
  go_enter Try.func46, Try.ntmps46
  go_wp2
  go_ret
  exact ⟨by rw [HR.out]; rfl, rfl⟩
theorem rturn13 (x : Int) (_hx : 0 ≤ x) (_hx2 : x < 4294967296) (w : World) :
    Calls Try.prog 46 #[.int .u32 x, .int .u64 13] w fun e w' => e = .returned (.int .u32 (Sha.rot 524288 8192 x)) ∧ w = w' := by
  have hr : Sha.rot 524288 8192 x = bits .or .u32 (x / 8192) (x * 524288 % 4294967296) := or_turned _ _ (by omega) (by omega) (by omega) (by omega)
  have HR := Lib.hid hr
  clear hr
  go_enter Try.func46, Try.ntmps46
  go_wp2
  go_ret
  exact ⟨by rw [HR.out]; rfl, rfl⟩
theorem rturn17 (x : Int) (_hx : 0 ≤ x) (_hx2 : x < 4294967296) (w : World) :
    Calls Try.prog 46 #[.int .u32 x, .int .u64 17] w fun e w' => e = .returned (.int .u32 (Sha.rot 32768 131072 x)) ∧ w = w' := by
  have hr : Sha.rot 32768 131072 x = bits .or .u32 (x / 131072) (x * 32768 % 4294967296) := or_turned _ _ (by omega) (by omega) (by omega) (by omega)
  have HR := Lib.hid hr
  clear hr
  go_enter Try.func46, Try.ntmps46
  go_wp2
  go_ret
  exact ⟨by rw [HR.out]; rfl, rfl⟩
theorem rturn18 (x : Int) (_hx : 0 ≤ x) (_hx2 : x < 4294967296) (w : World) :
    Calls Try.prog 46 #[.int .u32 x, .int .u64 18] w fun e w' => e = .returned (.int .u32 (Sha.rot 16384 262144 x)) ∧ w = w' := by
  have hr : Sha.rot 16384 262144 x = bits .or .u32 (x / 262144) (x * 16384 % 4294967296) := or_turned _ _ (by omega) (by omega) (by omega) (by omega)
  have HR := Lib.hid hr
  clear hr
  go_enter Try.func46, Try.ntmps46
  go_wp2
  go_ret
  exact ⟨by rw [HR.out]; rfl, rfl⟩
theorem rturn19 (x : Int) (_hx : 0 ≤ x) (_hx2 : x < 4294967296) (w : World) :
    Calls Try.prog 46 #[.int .u32 x, .int .u64 19] w fun e w' => e = .returned (.int .u32 (Sha.rot 8192 524288 x)) ∧ w = w' := by
  have hr : Sha.rot 8192 524288 x = bits .or .u32 (x / 524288) (x * 8192 % 4294967296) := or_turned _ _ (by omega) (by omega) (by omega) (by omega)
  have HR := Lib.hid hr
  clear hr
  go_enter Try.func46, Try.ntmps46
  go_wp2
  go_ret
  exact ⟨by rw [HR.out]; rfl, rfl⟩
theorem rturn22 (x : Int) (_hx : 0 ≤ x) (_hx2 : x < 4294967296) (w : World) :
    Calls Try.prog 46 #[.int .u32 x, .int .u64 22] w fun e w' => e = .returned (.int .u32 (Sha.rot 1024 4194304 x)) ∧ w = w' := by
  have hr : Sha.rot 1024 4194304 x = bits .or .u32 (x / 4194304) (x * 1024 % 4294967296) := or_turned _ _ (by omega) (by omega) (by omega) (by omega)
  have HR := Lib.hid hr
  clear hr
  go_enter Try.func46, Try.ntmps46
  go_wp2
  go_ret
  exact ⟨by rw [HR.out]; rfl, rfl⟩
theorem rturn25 (x : Int) (_hx : 0 ≤ x) (_hx2 : x < 4294967296) (w : World) :
    Calls Try.prog 46 #[.int .u32 x, .int .u64 25] w fun e w' => e = .returned (.int .u32 (Sha.rot 128 33554432 x)) ∧ w = w' := by
  have hr : Sha.rot 128 33554432 x = bits .or .u32 (x / 33554432) (x * 128 % 4294967296) := or_turned _ _ (by omega) (by omega) (by omega) (by omega)
  have HR := Lib.hid hr
  clear hr
  go_enter Try.func46, Try.ntmps46
  go_wp2
  go_ret
  exact ⟨by rw [HR.out]; rfl, rfl⟩
end Go.Proofs.Ytbdnhoddkdiogaa
