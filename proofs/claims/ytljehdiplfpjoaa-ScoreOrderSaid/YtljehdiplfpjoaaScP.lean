/- ScoreOrder: rates are in order, all of them: of two just one is ahead, or they are one; what is ahead of what is ahead is. No condition. -/
import Derived.Test.YtljehdiplfpjoaaScO
namespace Go.Proofs.Ytljehdiplfpjoaa
open Go.RowKit

set_option maxRecDepth 100000 in
set_option maxHeartbeats 4000000 in
theorem scoreOrder_walk (a b c : Nat) (w : World) :
    Calls Try.prog 3 #[.float .f64 a, .float .f64 b, .float .f64 c] w fun e w' => e = .returned (.bool true) ∧ w = w' := by
  have xaa : fLess a a = false := by rw [less_T]; simp
  have saa : fSame a a = true := by rw [same_T]; simp
  rcases (show T a < T b ∨ T b < T a ∨ T a = T b by omega) with h | h | h
  · have h1 : fLess a b = true := by rw [less_T]; simp; omega
    have h2 : fLess b a = false := by rw [less_T]; simp; omega
    have h3 : fSame a b = false := by rw [same_T]; simp; omega
    rcases h4 : fLess b c
    · clear h
      go_enter Try.func3, Try.ntmps3
      go_wp2_with (first | (go_at_call 9; refine (awake_any _).mono ?_; rintro e w' ⟨rfl, rfl⟩) | (go_at_call 10; refine (less_any _ _ _).mono ?_; rintro e w' ⟨rfl, rfl⟩) | (go_at_call 11; refine (same_any _ _ _).mono ?_; rintro e w' ⟨rfl, rfl⟩))
      go_ret
      exact ⟨rfl, rfl⟩
    · have h5 : fLess a c = true := by rw [less_T] at h4 ⊢; simp at h4 ⊢; omega
      clear h
      go_enter Try.func3, Try.ntmps3
      go_wp2_with (first | (go_at_call 9; refine (awake_any _).mono ?_; rintro e w' ⟨rfl, rfl⟩) | (go_at_call 10; refine (less_any _ _ _).mono ?_; rintro e w' ⟨rfl, rfl⟩) | (go_at_call 11; refine (same_any _ _ _).mono ?_; rintro e w' ⟨rfl, rfl⟩))
      go_ret
      exact ⟨rfl, rfl⟩
  · have h1 : fLess a b = false := by rw [less_T]; simp; omega
    have h2 : fLess b a = true := by rw [less_T]; simp; omega
    have h3 : fSame a b = false := by rw [same_T]; simp; omega
    clear h
    go_enter Try.func3, Try.ntmps3
    go_wp2_with (first | (go_at_call 9; refine (awake_any _).mono ?_; rintro e w' ⟨rfl, rfl⟩) | (go_at_call 10; refine (less_any _ _ _).mono ?_; rintro e w' ⟨rfl, rfl⟩) | (go_at_call 11; refine (same_any _ _ _).mono ?_; rintro e w' ⟨rfl, rfl⟩))
    go_ret
    exact ⟨rfl, rfl⟩
  · have h1 : fLess a b = false := by rw [less_T]; simp; omega
    have h2 : fLess b a = false := by rw [less_T]; simp; omega
    have h3 : fSame a b = true := by rw [same_T]; simp; omega
    have h8 : fLess a c = fLess b c := by rw [less_T, less_T, h]
    rcases h6 : fSame b c
    · clear h
      go_enter Try.func3, Try.ntmps3
      go_wp2_with (first | (go_at_call 9; refine (awake_any _).mono ?_; rintro e w' ⟨rfl, rfl⟩) | (go_at_call 10; refine (less_any _ _ _).mono ?_; rintro e w' ⟨rfl, rfl⟩) | (go_at_call 11; refine (same_any _ _ _).mono ?_; rintro e w' ⟨rfl, rfl⟩))
      go_ret
      exact ⟨rfl, rfl⟩
    · have h7 : fSame a c = true := by rw [same_T] at h6 ⊢; simp at h6 ⊢; omega
      clear h
      go_enter Try.func3, Try.ntmps3
      go_wp2_with (first | (go_at_call 9; refine (awake_any _).mono ?_; rintro e w' ⟨rfl, rfl⟩) | (go_at_call 10; refine (less_any _ _ _).mono ?_; rintro e w' ⟨rfl, rfl⟩) | (go_at_call 11; refine (same_any _ _ _).mono ?_; rintro e w' ⟨rfl, rfl⟩))
      go_ret
      exact ⟨rfl, rfl⟩

theorem scoreOrder_row (a : Nat) (_ : (Lit.float .f64 a).wf = true) (b : Nat) (_ : (Lit.float .f64 b).wf = true) (c : Nat) (_ : (Lit.float .f64 c).wf = true) (w : World) :
    Calls Try.prog 3 #[.float .f64 a, .float .f64 b, .float .f64 c] w fun e w' => e = .returned (.bool true) ∧ Below w.heap.size w w' :=
  (scoreOrder_walk a b c w).mono fun _ _ ⟨he, hw⟩ => ⟨he, hw ▸ Below.refl _ _⟩

end Go.Proofs.Ytljehdiplfpjoaa
