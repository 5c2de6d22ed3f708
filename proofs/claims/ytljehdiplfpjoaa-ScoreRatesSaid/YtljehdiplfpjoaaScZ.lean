/- ScoreTells: the program's order, rate, rounding and holding are the document's. The words fit 64 bits. -/
import Derived.Test.YtljehdiplfpjoaaScY
namespace Go.Proofs.Ytljehdiplfpjoaa
open Go.RowKit Ieee

theorem same_self (a : Nat) : fSame a a = true := by rw [same_T]; simp
theorem rate_same (f b : Int) (r r' : Nat) (h : RateIs f b r) (h' : RateIs f b r') : fSame r r' = true := by
  rcases h with h | ⟨h, hn⟩ <;> rcases h' with h' | ⟨h', hn'⟩
  · rw [h] at h'; cases h'; exact same_self r
  · rw [h] at h'; cases h'
  · rw [h] at h'; cases h'
  · rw [same_T]
    rw [nan_T] at hn hn'
    simp at hn hn' ⊢
    omega
theorem below_drewN {B : Nat} {w w' : World} (n : Nat) (h : Below B w w') : Below B w (w'.drewN n) := by
  induction n with
  | zero => exact h
  | succ n ih => exact ih.drew

set_option maxRecDepth 100000 in
set_option maxHeartbeats 4000000 in
theorem scoreTells_row (a : Nat) (ha : (Lit.float .f64 a).wf = true) (b : Nat) (_ : (Lit.float .f64 b).wf = true) (c : Nat) (_ : (Lit.float .f64 c).wf = true) (fee : Int) (_ : (Lit.int .u64 fee).wf = true) (bytes : Int) (_ : (Lit.int .i64 bytes).wf = true) (w : World) :
    Calls Try.prog 6 #[.float .f64 a, .float .f64 b, .float .f64 c, .int .u64 fee, .int .i64 bytes] w fun e w' => e = .returned (.bool true) ∧ Below w.heap.size w w' := by
  have c1 := fun (w : World) => round_any a (float_wf ha) w
  have c2 := fun (w : World) => refRound_any a w
  obtain ⟨n0, hn0⟩ : ∃ n, n = (if rOk a then rI a else 0) := ⟨_, rfl⟩
  obtain ⟨o0, ho0⟩ : ∃ n, n = rOk a := ⟨_, rfl⟩
  rw [← hn0, ← ho0] at c1 c2
  have C1 := Lib.hid c1
  have C2 := Lib.hid c2
  have s1 := same_self (fClamp a b c)
  clear c1 c2 hn0 ho0
  go_enter Try.func6, Try.ntmps6
  go_wp2_with (first | (go_at_call 9; refine (awake_any _).mono ?_; rintro e w' ⟨rfl, rfl⟩) | (go_at_call 12; refine (C1.out _).mono ?_; rintro e w' ⟨rfl, rfl⟩) | (go_at_call 15; refine (C2.out _).mono ?_; rintro e w' ⟨rfl, rfl⟩) | (go_at_call 10; refine (less_any _ _ _).mono ?_; rintro e w' ⟨rfl, rfl⟩) | (go_at_call 16; refine (refLess_any _ _ _).mono ?_; rintro e w' ⟨rfl, rfl⟩) | (go_at_call 11; refine (same_any _ _ _).mono ?_; rintro e w' ⟨rfl, rfl⟩) | (go_at_call 17; refine (refSame_any _ _ _).mono ?_; rintro e w' ⟨rfl, rfl⟩))
  refine (rate_any fee bytes _).mono ?_
  rintro e w' ⟨r, m, rfl, rfl, hr⟩
  have HR := Lib.hid hr
  clear hr
  go_wp2_with fail
  refine (refRate_any fee bytes _).mono ?_
  rintro e w' ⟨r', m', rfl, rfl, hr⟩
  have s2 := rate_same _ _ _ _ HR.out hr
  clear hr
  go_wp2_with (first | (go_at_call 17; refine (refSame_any _ _ _).mono ?_; rintro e w' ⟨rfl, rfl⟩) | (go_at_call 19; refine (clamp_any _ _ _ _).mono ?_; rintro e w' ⟨rfl, rfl⟩) | (go_at_call 20; refine (refClamp_any _ _ _ _).mono ?_; rintro e w' ⟨rfl, rfl⟩))
  go_ret
  exact ⟨rfl, by repeat (first | exact Below.refl _ _ | apply below_drewN)⟩

end Go.Proofs.Ytljehdiplfpjoaa
