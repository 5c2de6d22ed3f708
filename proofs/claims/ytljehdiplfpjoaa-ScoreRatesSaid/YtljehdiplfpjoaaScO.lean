/- Plain law: rates stand in one order. No condition. -/
import Derived.Test.YtljehdiplfpjoaaSc2
namespace Go.Proofs.Ytljehdiplfpjoaa
open Go.RowKit

def sg (x : Nat) : Bool := x / 9223372036854775808 % 2 == 1
theorem fNaN_eq (x : Nat) : fNaN x = Fl.isN x := Fl.nan_iff x
theorem fSign_eq (x : Nat) : fSign x = sg x := by
  unfold fSign sg wrap64
  rw [Bool.eq_iff_iff, decide_eq_true_eq, beq_iff_eq]
  omega
/-- Where a float stands among all of them. -/
def T (x : Nat) : Int := if Fl.isN x then 2 * Fl.big + 2 else 2 * Fl.K x + (if sg x then 0 else 1)
theorem K_le (x : Nat) (h : Fl.isN x = false) : -Fl.big ≤ Fl.K x ∧ Fl.K x ≤ Fl.big := by
  have hb := Fl.big_pos
  unfold Fl.isN at h
  unfold Fl.K
  rcases Fl.read_cases x with ⟨s, m, e, hx, h1, h2, h3, _⟩ | ⟨s, hx, _⟩ | ⟨s, t, hx⟩ <;> rw [hx] at h ⊢
  · have := Fl.key_lt s m e h2 h3
    omega
  · cases s <;> simp [Fl.key, Fl.sgn] <;> omega
  · simp [Ieee.Datum.isNaN] at h
theorem T_lt (x : Nat) (h : Fl.isN x = false) : T x < 2 * Fl.big + 2 := by
  have := K_le x h
  unfold T
  rw [h]
  cases sg x <;> simp <;> omega
theorem cmp_T (a b : Nat) : fCmp a b = if T a < T b then -1 else if T a = T b then 0 else 1 := by
  unfold fCmp
  rw [fNaN_eq, fNaN_eq, fSign_eq, fSign_eq]
  have e1 : (FloatKind.f64.format.order a b == some .lt) = _ := Fl.lt_iff a b
  have e2 : (FloatKind.f64.format.order a b == some .gt) = _ := Fl.gt_iff a b
  rw [e1, e2]
  rcases ha : Fl.isN a <;> rcases hb : Fl.isN b
  · have ta : T a = 2 * Fl.K a + (if sg a then 0 else 1) := by unfold T; rw [ha]; simp
    have tb : T b = 2 * Fl.K b + (if sg b then 0 else 1) := by unfold T; rw [hb]; simp
    rw [ta, tb]
    generalize Fl.K a = p
    generalize Fl.K b = q
    rcases sg a <;> rcases sg b <;> simp only [Bool.false_eq_true, if_false, if_true, Bool.not_false, Bool.and_self, Bool.true_and, decide_eq_true_eq, beq_self_eq_true] <;> (repeat' split) <;> first | rfl | (exfalso; omega) | (exfalso; simp_all; done)
  · have := T_lt a ha
    have tb : T b = 2 * Fl.big + 2 := by unfold T; rw [hb]; simp
    rw [tb]
    simp [this]
  · have := T_lt b hb
    have ta : T a = 2 * Fl.big + 2 := by unfold T; rw [ha]; simp
    rw [ta]
    simp
    omega
  · have ta : T a = 2 * Fl.big + 2 := by unfold T; rw [ha]; simp
    have tb : T b = 2 * Fl.big + 2 := by unfold T; rw [hb]; simp
    rw [ta, tb]
    simp
theorem less_T (a b : Nat) : fLess a b = decide (T a < T b) := by
  unfold fLess
  rw [cmp_T]
  by_cases h : T a < T b
  · simp [h]
  · by_cases g : T a = T b <;> simp [h, g]
theorem same_T (a b : Nat) : fSame a b = decide (T a = T b) := by
  unfold fSame
  rw [cmp_T]
  by_cases h : T a < T b
  · simp [h]; omega
  · by_cases g : T a = T b <;> simp [h, g]

end Go.Proofs.Ytljehdiplfpjoaa
