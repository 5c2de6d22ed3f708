/- The contracts of the small functions of package score and its reference. No condition. -/
import Derived.Test.YtljehdiplfpjoaaRows
import Derived.WalkKit
import Derived.WalkSpells
import Derived.WalkLawsBesides
namespace Go.Proofs.Ytljehdiplfpjoaa
open Go.RowKit

def fNaN (x : Nat) : Bool := FloatKind.f64.format.order x x != some .eq
def fSign (x : Nat) : Bool := decide (wrap64 (x : Int) < 0)
def fAbs (x : Nat) : Nat := (bits .andNot .u64 (x : Int) 9223372036854775808).toNat

theorem float64bits_run (b : Nat) (w : World) : (callFunc 35 #[.float .f64 b]).run Try.prog w = .ok (.value (.int .u64 b)) w := by
  rw [run_callFunc_extern (e := Extern.MathFloatBits.float64bits) Try.func35 (by kernel_rfl) (by kernel_rfl) (by kernel_rfl) (by kernel_rfl)]
  rfl
theorem float64frombits_run (n : Int) (w : World) : (callFunc 34 #[.int .u64 n]).run Try.prog w = .ok (.value (.float .f64 n.toNat)) w := by
  rw [run_callFunc_extern (e := Extern.MathFloatBits.float64frombits) Try.func34 (by kernel_rfl) (by kernel_rfl) (by kernel_rfl) (by kernel_rfl)]
  rfl

theorem isNaN_any (x : Nat) (w : World) :
    Calls Try.prog 26 #[.float .f64 x] w fun e w' => e = .returned (.bool (fNaN x)) ∧ w = w' := by
  go_enter Try.func26, Try.ntmps26
  go_wp2
  all_goals (go_ret; exact ⟨rfl, rfl⟩)

theorem signbit_any (x : Nat) (w : World) :
    Calls Try.prog 33 #[.float .f64 x] w fun e w' => e = .returned (.bool (fSign x)) ∧ w = w' := by
  have hd := float64bits_run x
  go_enter Try.func33, Try.ntmps33
  go_wp2
  go_ret
  exact ⟨rfl, rfl⟩

theorem abs_any (x : Nat) (w : World) :
    Calls Try.prog 27 #[.float .f64 x] w fun e w' => e = .returned (.float .f64 (fAbs x)) ∧ w = w' := by
  have hd := float64bits_run x
  have hf := float64frombits_run
  go_enter Try.func27, Try.ntmps27
  go_wp2
  go_ret
  exact ⟨rfl, rfl⟩

theorem refNaN_any (x : Nat) (w : World) :
    Calls Try.prog 14 #[.float .f64 x] w fun e w' => e = .returned (.bool (fNaN x)) ∧ w = w' := by
  go_enter Try.func14, Try.ntmps14
  go_wp2
  all_goals (go_ret; exact ⟨rfl, rfl⟩)

def fCmp (a b : Nat) : Int :=
  if fNaN a then (if fNaN b then 0 else 1) else if fNaN b then -1 else
  if FloatKind.f64.format.order a b == some .lt then -1 else if FloatKind.f64.format.order a b == some .gt then 1 else
  if fSign a == fSign b then 0 else if fSign a then -1 else 1

theorem compare_any (a b : Nat) (w : World) :
    Calls Try.prog 25 #[.float .f64 a, .float .f64 b] w fun e w' => e = .returned (.int .i64 (fCmp a b)) ∧ w = w' := by
  rcases ha : fNaN a <;> rcases hb : fNaN b <;> rcases hl : (FloatKind.f64.format.order a b == some .lt) <;> rcases hg : (FloatKind.f64.format.order a b == some .gt) <;> rcases hsa : fSign a <;> rcases hsb : fSign b
  all_goals
    go_enter Try.func25, Try.ntmps25
    go_wp2_with (first | (go_at_call 26; refine (isNaN_any _ _).mono ?_; rintro e w' ⟨rfl, rfl⟩) | (go_at_call 33; refine (signbit_any _ _).mono ?_; rintro e w' ⟨rfl, rfl⟩))
    go_ret
    exact ⟨by simp [fCmp, ha, hb, hl, hg, hsa, hsb], rfl⟩

def fLess (a b : Nat) : Bool := decide (fCmp a b < 0)
def fSame (a b : Nat) : Bool := fCmp a b == 0

theorem less_any (a b : Nat) (w : World) :
    Calls Try.prog 10 #[.float .f64 a, .float .f64 b] w fun e w' => e = .returned (.bool (fLess a b)) ∧ w = w' := by
  go_enter Try.func10, Try.ntmps10
  go_wp2_with ((go_at_call 25; refine (compare_any _ _ _).mono ?_; rintro e w' ⟨rfl, rfl⟩))
  go_ret
  exact ⟨rfl, rfl⟩

theorem same_any (a b : Nat) (w : World) :
    Calls Try.prog 11 #[.float .f64 a, .float .f64 b] w fun e w' => e = .returned (.bool (fSame a b)) ∧ w = w' := by
  go_enter Try.func11, Try.ntmps11
  go_wp2_with ((go_at_call 25; refine (compare_any _ _ _).mono ?_; rintro e w' ⟨rfl, rfl⟩))
  go_ret
  exact ⟨rfl, rfl⟩

def fClamp (x l h : Nat) : Nat := if fNaN x then l else if fLess x l then l else if fLess h x then h else x

theorem clamp_any (x l h : Nat) (w : World) :
    Calls Try.prog 19 #[.float .f64 x, .float .f64 l, .float .f64 h] w fun e w' => e = .returned (.float .f64 (fClamp x l h)) ∧ w = w' := by
  rcases ha : fNaN x <;> rcases hb : fLess x l <;> rcases hl : fLess h x
  all_goals
    go_enter Try.func19, Try.ntmps19
    go_wp2_with (first | (go_at_call 26; refine (isNaN_any _ _).mono ?_; rintro e w' ⟨rfl, rfl⟩) | (go_at_call 10; refine (less_any _ _ _).mono ?_; rintro e w' ⟨rfl, rfl⟩))
    go_ret
    exact ⟨by simp [fClamp, ha, hb, hl], rfl⟩

end Go.Proofs.Ytljehdiplfpjoaa
