/- ScoreRates: the walk. -/
import Derived.Test.YtljehdiplfpjoaaScT
import Derived.Test.YtljehdiplfpjoaaScV
import Derived.Test.YtljehdiplfpjoaaScZ
namespace Go.Proofs.Ytljehdiplfpjoaa
open Go.RowKit Ieee

theorem rate_pos (f n : Nat) (hf : f ≤ 18446744073709551616) (hn : 0 < n) (hn2 : n ≤ 65536) (F N : Int) (hF : F = f) (hN : N = n) (w : World) :
    Calls Try.prog 13 #[.int .u64 F, .int .i64 N] w fun e w' => e = .returned (.float .f64 (double.word false (fR f n))) ∧ w = w' := by
  subst hF hN
  have := rate_word f n false hf hn hn2
  simp only [Bool.false_eq_true, if_false] at this
  exact rate_some _ _ _ w this
theorem rate_neg (f n : Nat) (hf : f ≤ 18446744073709551616) (hn : 0 < n) (hn2 : n ≤ 65536) (F N : Int) (hF : F = f) (hN : N = -(n : Int)) (w : World) :
    Calls Try.prog 13 #[.int .u64 F, .int .i64 N] w fun e w' => e = .returned (.float .f64 (double.word true (fR f n))) ∧ w = w' := by
  subst hF hN
  have := rate_word f n true hf hn hn2
  simp only [if_true] at this
  exact rate_some _ _ _ w this

theorem rate_none (f : Nat) (h1 : 0 < f) (h2 : f ≤ 18446744073709551616) (F : Int) (hF : F = f) (w : World) :
    Calls Try.prog 13 #[.int .u64 F, .int .i64 0] w fun e w' => e = .returned (.float .f64 9218868437227405312) ∧ w = w' := by
  subst hF
  refine rate_some _ _ _ w ?_
  have hA := fA_le f h2
  obtain ⟨m, e, hm, e1, e2, e3, hv⟩ := mg_lt (fA f) (by omega)
  have hr1 : double.read (floatOfInt .f64 (f : Int)) = .number false m e := by
    rw [fA_word, Fl.read_word _ _ (by omega)]; exact hm
  have hr2 : double.read (floatOfInt .f64 0) = .number false 0 (-1074) := by decide
  have hm0 : m ≠ 0 := by
    intro h; subst h
    have hval : Fl.H ≤ Fl.units 0 e := by
      rw [← hv, ← val_one, ← fA_one]
      exact val_mono _ _ (fA_mono 1 f (by omega)) (by omega)
    unfold Fl.units at hval
    rw [Nat.zero_mul] at hval
    have := Fl.H_pos
    omega
  show double.div _ _ = _
  unfold Format.div
  rw [hr1, hr2]
  simp only [Datum.quotient, if_neg hm0, if_true, Option.map_some]
  rfl
theorem rate_zero (w : World) (C : Nat) :
    Calls Try.prog 13 #[.int .u64 0, .int .i64 0] w fun e w' => ∃ r n, e = .returned (.float .f64 r) ∧ w' = w.drewN n ∧ Hid (fNaN r = true) ∧ Hid ((FloatKind.f64.format.order r C == some .gt) = false) := by
  refine (rate_any 0 0 w).mono ?_
  rintro e w' ⟨r, n, rfl, rfl, hr⟩
  have hn : floatBits .quo .f64 (floatOfInt .f64 0) (floatOfInt .f64 0) = none := by decide
  have hN : fNaN r = true := by
    rcases hr with hr | ⟨_, hr⟩
    · rw [hn] at hr; cases hr
    · exact hr
  refine ⟨r, n, rfl, rfl, hN, ?_⟩
  have : (FloatKind.f64.format.order r C == some .gt) = _ := Fl.gt_iff r C
  show _ = _
  rw [this]
  rw [fNaN_eq] at hN
  rw [hN]; rfl

theorem u64_wf {n : Int} (h : (Lit.int .u64 n).wf = true) : 0 ≤ n ∧ n ≤ 18446744073709551615 := by
  have : IntKind.u64.min ≤ n ∧ n ≤ IntKind.u64.max := by simpa [Lit.wf] using h
  exact this
theorem u16_wf {n : Int} (h : (Lit.int .u16 n).wf = true) : 0 ≤ n ∧ n ≤ 65535 := by
  have : IntKind.u16.min ≤ n ∧ n ≤ IntKind.u16.max := by simpa [Lit.wf] using h
  exact this

/-- 'it returns this float'. -/
def Gives (F N : Int) (r : Nat) : Prop := ∀ w : World, Calls Try.prog 13 #[.int .u64 F, .int .i64 N] w fun e w' => e = .returned (.float .f64 r) ∧ w = w'

set_option maxRecDepth 100000 in
set_option maxHeartbeats 4000000 in
theorem rates_one (a b n m : Int) (ha : 0 ≤ a) (ha2 : a ≤ 18446744073709551615) (_hb : 0 ≤ b) (_hb2 : b ≤ 18446744073709551615) (hn : 0 ≤ n) (hn2 : n ≤ 65535) (hm : 0 ≤ m) (hm2 : m ≤ 65535)
    (X Y F M Z : Nat) (c1 : Gives (if b < a then b else a) (n + 1) X) (c2 : Gives (if a < b then b else a) (n + 1) Y) (c3 : Gives a ((if m < n then m else n) + 1) F) (c4 : Gives a ((if n < m then m else n) + 1) M)
    (c5 : 0 < a → Gives a 0 9218868437227405312) (c6 : Gives a (-1 - n) Z)
    (e1 : fLess Y X = false) (e2 : fLess F M = false) (e3 : fLess Z 18318360957983683996 = false) (w : World) :
    Calls Try.prog 5 #[.int .u64 a, .int .u64 b, .int .u16 n, .int .u16 m] w fun e w' => e = .returned (.bool true) ∧ Below w.heap.size w w' := by
  have h1 : (FloatKind.f64.format.order 9218868437227405312 9094988921128908188 == some .gt) = true := by decide
  have h2 : (FloatKind.f64.format.order 9218868437227405312 9218868437227405312 == some .eq) = true := by decide
  have h3 := fun (w : World) => run_float_arith (P := Try.prog) w .mul 22 .f64 9218868437227405312 4611686018427387904 9218868437227405312 (by decide)
  by_cases ka : 0 < a
  · have c5 := c5 ka
    by_cases k1 : b < a <;> by_cases k2 : m < n <;> by_cases k3 : n < m <;> (first | (exfalso; omega) | skip)
    all_goals
      first | rw [if_pos k1] at c1 | rw [if_neg k1] at c1
      first | rw [if_pos k2] at c3 | rw [if_neg k2] at c3
      first | rw [if_pos k3] at c4 | rw [if_neg k3] at c4
    all_goals by_cases k4 : a < b <;> (first | (exfalso; omega) | skip)
    all_goals
      first | rw [if_pos k4] at c2 | rw [if_neg k4] at c2
      go_enter Try.func5, Try.ntmps5
      go_wp2_with ((go_at_call 9; refine (awake_any _).mono ?_; rintro e w' ⟨rfl, rfl⟩))
      refine (c1 _).mono ?_; rintro e w' ⟨rfl, rfl⟩
      go_wp2_with fail
      refine (c2 _).mono ?_; rintro e w' ⟨rfl, rfl⟩
      go_wp2_with fail
      refine (c3 _).mono ?_; rintro e w' ⟨rfl, rfl⟩
      go_wp2_with fail
      refine (c4 _).mono ?_; rintro e w' ⟨rfl, rfl⟩
      go_wp2_with fail
      refine (c5 _).mono ?_; rintro e w' ⟨rfl, rfl⟩
      go_wp2_with ((go_at_call 10; refine (less_any _ _ _).mono ?_; rintro e w' ⟨rfl, rfl⟩))
      refine (c6 _).mono ?_; rintro e w' ⟨rfl, rfl⟩
      go_wp2_with ((go_at_call 10; refine (less_any _ _ _).mono ?_; rintro e w' ⟨rfl, rfl⟩))
      go_ret
      exact ⟨rfl, Below.refl _ _⟩
  · obtain rfl : a = 0 := by omega
    clear c5
    by_cases k2 : m < n <;> by_cases k3 : n < m <;> (first | (exfalso; omega) | skip)
    all_goals
      rw [if_neg (by omega)] at c1
      first | rw [if_pos k2] at c3 | rw [if_neg k2] at c3
      first | rw [if_pos k3] at c4 | rw [if_neg k3] at c4
    all_goals by_cases k4 : 0 < b
    all_goals
      first | rw [if_pos k4] at c2 | rw [if_neg k4] at c2
      go_enter Try.func5, Try.ntmps5
      go_wp2_with ((go_at_call 9; refine (awake_any _).mono ?_; rintro e w' ⟨rfl, rfl⟩))
      refine (c1 _).mono ?_; rintro e w' ⟨rfl, rfl⟩
      go_wp2_with fail
      refine (c2 _).mono ?_; rintro e w' ⟨rfl, rfl⟩
      go_wp2_with fail
      refine (c3 _).mono ?_; rintro e w' ⟨rfl, rfl⟩
      go_wp2_with fail
      refine (c4 _).mono ?_; rintro e w' ⟨rfl, rfl⟩
      go_wp2_with fail
      refine (rate_zero _ 9094988921128908188).mono ?_
      rintro e w' ⟨r, k, rfl, rfl, hr1, hr2⟩
      have hr1 := hr1.out
      have hr2 := hr2.out
      go_wp2_with (first | (go_at_call 10; refine (less_any _ _ _).mono ?_; rintro e w' ⟨rfl, rfl⟩) | (go_at_call 14; refine (refNaN_any _ _).mono ?_; rintro e w' ⟨rfl, rfl⟩))
      refine (c6 _).mono ?_; rintro e w' ⟨rfl, rfl⟩
      go_wp2_with ((go_at_call 10; refine (less_any _ _ _).mono ?_; rintro e w' ⟨rfl, rfl⟩))
      go_ret
      exact ⟨rfl, below_drewN _ (Below.refl _ _)⟩

theorem scoreRates_row (a : Int) (ha : (Lit.int .u64 a).wf = true) (b : Int) (hb : (Lit.int .u64 b).wf = true) (n : Int) (hn : (Lit.int .u16 n).wf = true) (m : Int) (hm : (Lit.int .u16 m).wf = true) (w : World) :
    Calls Try.prog 5 #[.int .u64 a, .int .u64 b, .int .u16 n, .int .u16 m] w fun e w' => e = .returned (.bool true) ∧ Below w.heap.size w w' := by
  obtain ⟨a1, a2⟩ := u64_wf ha
  obtain ⟨b1, b2⟩ := u64_wf hb
  obtain ⟨n1, n2⟩ := u16_wf hn
  obtain ⟨m1, m2⟩ := u16_wf hm
  have pos : ∀ (F N : Int), 0 ≤ F → F ≤ 18446744073709551615 → 1 ≤ N → N ≤ 65536 → Gives F N (double.word false (fR F.toNat N.toNat)) := by
    intro F N f1 f2 n1 n2 w
    exact rate_pos F.toNat N.toNat (by omega) (by omega) (by omega) F N (by omega) (by omega) w
  refine rates_one a b n m a1 a2 b1 b2 n1 n2 m1 m2 _ _ _ _ (double.word true (fR a.toNat (n + 1).toNat)) (pos _ _ (by split <;> omega) (by split <;> omega) (by omega) (by omega)) (pos _ _ (by split <;> omega) (by split <;> omega) (by omega) (by omega))
    (pos _ _ a1 a2 (by split <;> omega) (by split <;> omega)) (pos _ _ a1 a2 (by split <;> omega) (by split <;> omega)) (fun h w => rate_none a.toNat (by omega) (by omega) a (by omega) w)
    (fun w => rate_neg a.toNat (n + 1).toNat (by omega) (by omega) (by omega) a (-1 - n) (by omega) (by omega) w) ?_ ?_ ?_ w
  · exact less_word _ _ (fR_fee _ _ _ (by split <;> split <;> omega) (by split <;> omega) (by omega)) (fR_le _ _)
  · exact less_word _ _ (fR_bytes _ _ _ (by split <;> split <;> omega) (by split <;> omega)) (fR_le _ _)
  · have e : (18318360957983683996 : Nat) = double.word true 9094988921128908188 := by
      unfold Format.word; rw [Fl.signWeight_eq]; rfl
    rw [e]
    exact less_word_neg _ _ (fR_top _ _ (by omega) (by omega)) (by decide)

end Go.Proofs.Ytljehdiplfpjoaa
