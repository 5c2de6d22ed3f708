/- ScoreRounds: the walk. The rate's word fits 64 bits, the whole number 32. -/
import Derived.Test.YtljehdiplfpjoaaScU
namespace Go.Proofs.Ytljehdiplfpjoaa
open Go.RowKit Ieee

theorem round_yes (x : Nat) (hx : x < 18446744073709551616) (n : Int) (ho : rOk x = true) (hn : rI x = n) (w : World) :
    Calls Try.prog 12 #[.float .f64 x] w fun e w' => e = .returned (.tuple #[.int .i64 n, .bool true]) ∧ w = w' := by
  have := round_any x hx w
  rw [ho, hn] at this
  exact this
theorem round_no (x : Nat) (hx : x < 18446744073709551616) (ho : rOk x = false) (w : World) :
    Calls Try.prog 12 #[.float .f64 x] w fun e w' => e = .returned (.tuple #[.int .i64 0, .bool false]) ∧ w = w' := by
  have := round_any x hx w
  rw [ho] at this
  exact this

theorem rOk_neg (x : Nat) (hx : x < 18446744073709551616) : rOk (fNeg x) = rOk x := by
  unfold rOk; rw [neg_nan x hx, neg_K x hx, Int.natAbs_neg]
theorem rI_neg (x : Nat) (hx : x < 18446744073709551616) : rI (fNeg x) = - rI x := by
  unfold rI; rw [neg_K x hx, Int.natAbs_neg]
  by_cases h0 : Fl.K x = 0
  · rw [h0]; simp [rnd_zero]
  · by_cases h : Fl.K x < 0
    · rw [if_neg (by omega), if_pos h]; omega
    · rw [if_pos (by omega), if_neg h]; omega
theorem whole_round (n : Int) (h1 : -9007199254740992 ≤ n) (h2 : n ≤ 9007199254740992) : rOk (floatOfInt .f64 n) = true ∧ rI (floatOfInt .f64 n) = n := by
  obtain ⟨m, e, _, _, hN, hK⟩ := whole_K n h1 h2
  have hab : (Fl.K (floatOfInt .f64 n)).natAbs = n.natAbs * Fl.H := by rw [hK, Int.natAbs_mul]; rfl
  constructor
  · unfold rOk
    rw [hN, hab]
    have : n.natAbs * Fl.H ≤ lim := Nat.mul_le_mul_right _ (by omega)
    simp [this]
  · unfold rI
    rw [hab, rnd_whole, hK]
    have hp := Fl.H_pos
    by_cases h : n < 0
    · have : n * (Fl.H : Int) < 0 := Int.mul_neg_of_neg_of_pos h (by omega)
      rw [if_pos this]; omega
    · have : 0 ≤ n * (Fl.H : Int) := Int.mul_nonneg (by omega) (by omega)
      rw [if_neg (by omega)]; omega

theorem le_K (a b : Nat) (ha : Fl.isN a = false) (hb : Fl.isN b = false) : (FloatKind.f64.format.order a b == some .lt || FloatKind.f64.format.order a b == some .eq) = decide (Fl.K a ≤ Fl.K b) := by
  have h1 : (FloatKind.f64.format.order a b == some .lt) = _ := Fl.lt_iff a b
  have h2 : (FloatKind.f64.format.order a b == some .eq) = _ := Fl.eq_iff a b
  rw [h1, h2, ha, hb, Bool.eq_iff_iff]
  simp; omega
theorem ge_K (a b : Nat) (ha : Fl.isN a = false) (hb : Fl.isN b = false) : (FloatKind.f64.format.order a b == some .gt || FloatKind.f64.format.order a b == some .eq) = decide (Fl.K b ≤ Fl.K a) := by
  have h1 : (FloatKind.f64.format.order a b == some .gt) = _ := Fl.gt_iff a b
  have h2 : (FloatKind.f64.format.order a b == some .eq) = _ := Fl.eq_iff a b
  rw [h1, h2, ha, hb, Bool.eq_iff_iff]
  simp; omega
theorem ne_K (a b : Nat) (ha : Fl.isN a = false) (hb : Fl.isN b = false) : (FloatKind.f64.format.order a b != some .eq) = !decide (Fl.K a = Fl.K b) := by
  have h2 : (FloatKind.f64.format.order a b == some .eq) = _ := Fl.eq_iff a b
  rw [bne, h2, ha, hb]; simp

set_option maxRecDepth 100000 in
set_option maxHeartbeats 4000000 in
theorem scoreRounds_no (x : Nat) (hx : x < 18446744073709551616) (n : Int) (h1 : -2147483648 ≤ n) (h2 : n ≤ 2147483647) (ho : rOk x = false) (w : World) :
    Calls Try.prog 4 #[.float .f64 x, .int .i32 n] w fun e w' => e = .returned (.bool true) ∧ w = w' := by
  have ho2 : rOk (fNeg x) = false := (rOk_neg x hx).trans ho
  have hx2 : fNeg x < 18446744073709551616 := neg_lt x hx
  have hneg : ∀ w, (Op.unary .neg (.float .f64 x)).run Try.prog w = .ok (.float .f64 (fNeg x)) w := fun _ => rfl
  obtain ⟨hw1, hw2⟩ := whole_round n (by omega) (by omega)
  have hor : (FloatKind.f64.format.order x 14069245235905429504 == some .gt || FloatKind.f64.format.order x 14069245235905429504 == some .eq) = false ∨
      (FloatKind.f64.format.order x 4845873199050653696 == some .lt || FloatKind.f64.format.order x 4845873199050653696 == some .eq) = false := by
    rcases hN : Fl.isN x
    · rw [le_K _ _ hN (by decide), ge_K _ _ hN (by decide), K_lim, K_mlim]
      unfold rOk at ho
      rw [hN] at ho
      simp at ho ⊢
      omega
    · left
      show (double.order x _ == some .gt || double.order x _ == some .eq) = false
      rw [Fl.gt_iff, Fl.eq_iff, hN]; rfl
  have HW := Lib.hid hw2
  have HO := Lib.hid ho
  have HO2 := Lib.hid ho2
  have HW1 := Lib.hid hw1
  clear hw2 ho ho2 hw1
  rcases hor with hg | hl
  · go_enter Try.func4, Try.ntmps4
    go_wp2_with ((go_at_call 9; refine (awake_any _).mono ?_; rintro e w' ⟨rfl, rfl⟩))
    refine (round_no _ hx HO.out _).mono ?_; rintro e w' ⟨rfl, rfl⟩
    go_wp2_with fail
    refine (round_no _ hx2 HO2.out _).mono ?_; rintro e w' ⟨rfl, rfl⟩
    go_wp2_with fail
    refine (round_yes _ (floatOfInt_lt _) n HW1.out HW.out _).mono ?_; rintro e w' ⟨rfl, rfl⟩
    go_wp2_with fail
    go_ret
    exact ⟨rfl, rfl⟩
  · rcases hg : (FloatKind.f64.format.order x 14069245235905429504 == some .gt || FloatKind.f64.format.order x 14069245235905429504 == some .eq)
    all_goals
      go_enter Try.func4, Try.ntmps4
      go_wp2_with ((go_at_call 9; refine (awake_any _).mono ?_; rintro e w' ⟨rfl, rfl⟩))
      refine (round_no _ hx HO.out _).mono ?_; rintro e w' ⟨rfl, rfl⟩
      go_wp2_with fail
      refine (round_no _ hx2 HO2.out _).mono ?_; rintro e w' ⟨rfl, rfl⟩
      go_wp2_with fail
      refine (round_yes _ (floatOfInt_lt _) n HW1.out HW.out _).mono ?_; rintro e w' ⟨rfl, rfl⟩
      go_wp2_with fail
      go_ret
      exact ⟨rfl, rfl⟩

set_option maxRecDepth 100000 in
set_option maxHeartbeats 4000000 in
theorem scoreRounds_yes (x : Nat) (hx : x < 18446744073709551616) (n : Int) (h1 : -2147483648 ≤ n) (h2 : n ≤ 2147483647) (k : Int) (hk1 : -9007199254740992 ≤ k) (hk2 : k ≤ 9007199254740992)
    (HO : Hid (rOk x = true)) (HO2 : Hid (rOk (fNeg x) = true)) (HI : Hid (rI x = k)) (HI2 : Hid (rI (fNeg x) = - k)) (HW1 : Hid (rOk (floatOfInt .f64 n) = true)) (HW : Hid (rI (floatOfInt .f64 n) = n))
    (d : Nat) (hd : floatBits .sub .f64 x (floatOfInt .f64 k) = some d)
    (hle : (FloatKind.f64.format.order d 4602678819172646912 == some .lt || FloatKind.f64.format.order d 4602678819172646912 == some .eq) = true)
    (hge : (FloatKind.f64.format.order d 13826050856027422720 == some .gt || FloatKind.f64.format.order d 13826050856027422720 == some .eq) = true)
    (b1 b2 : Bool) (hn1 : (FloatKind.f64.format.order d 4602678819172646912 != some .eq) = b1) (hn2 : (FloatKind.f64.format.order d 13826050856027422720 != some .eq) = b2)
    (hev : (b1 && b2) = true ∨ (k.tmod 2 == 0) = true) (w : World) :
    Calls Try.prog 4 #[.float .f64 x, .int .i32 n] w fun e w' => e = .returned (.bool true) ∧ w = w' := by
  have hx2 : fNeg x < 18446744073709551616 := neg_lt x hx
  have hneg : ∀ w, (Op.unary .neg (.float .f64 x)).run Try.prog w = .ok (.float .f64 (fNeg x)) w := fun _ => rfl
  have hsub := fun (w : World) => run_float_arith (P := Try.prog) w .sub 22 .f64 _ _ d hd
  clear hd
  rcases hev with hev | hev
  · obtain ⟨rfl, rfl⟩ : b1 = true ∧ b2 = true := by simpa using hev
    clear hev
    go_enter Try.func4, Try.ntmps4
    go_wp2_with ((go_at_call 9; refine (awake_any _).mono ?_; rintro e w' ⟨rfl, rfl⟩))
    refine (round_yes _ hx k HO.out HI.out _).mono ?_; rintro e w' ⟨rfl, rfl⟩
    go_wp2_with fail
    refine (round_yes _ hx2 (-k) HO2.out HI2.out _).mono ?_; rintro e w' ⟨rfl, rfl⟩
    go_wp2_with fail
    refine (round_yes _ (floatOfInt_lt _) n HW1.out HW.out _).mono ?_; rintro e w' ⟨rfl, rfl⟩
    go_wp2_with fail
    go_ret
    exact ⟨rfl, rfl⟩
  · rcases b1 <;> rcases b2
    all_goals
      go_enter Try.func4, Try.ntmps4
      go_wp2_with ((go_at_call 9; refine (awake_any _).mono ?_; rintro e w' ⟨rfl, rfl⟩))
      refine (round_yes _ hx k HO.out HI.out _).mono ?_; rintro e w' ⟨rfl, rfl⟩
      go_wp2_with fail
      refine (round_yes _ hx2 (-k) HO2.out HI2.out _).mono ?_; rintro e w' ⟨rfl, rfl⟩
      go_wp2_with fail
      refine (round_yes _ (floatOfInt_lt _) n HW1.out HW.out _).mono ?_; rintro e w' ⟨rfl, rfl⟩
      go_wp2_with fail
      go_ret
      exact ⟨rfl, rfl⟩

theorem float_wf {a : Nat} (h : (Lit.float .f64 a).wf = true) : a < 18446744073709551616 := by
  simpa [Lit.wf] using h
theorem i32_wf {n : Int} (h : (Lit.int .i32 n).wf = true) : -2147483648 ≤ n ∧ n ≤ 2147483647 := by
  have : IntKind.i32.min ≤ n ∧ n ≤ IntKind.i32.max := by simpa [Lit.wf] using h
  exact this

theorem scoreRounds_row (x : Nat) (hx0 : (Lit.float .f64 x).wf = true) (n : Int) (hn0 : (Lit.int .i32 n).wf = true) (w : World) :
    Calls Try.prog 4 #[.float .f64 x, .int .i32 n] w fun e w' => e = .returned (.bool true) ∧ Below w.heap.size w w' := by
  have hx := float_wf hx0
  obtain ⟨h1, h2⟩ := i32_wf hn0
  rcases ho : rOk x
  · exact (scoreRounds_no x hx n h1 h2 ho w).mono fun _ _ ⟨he, hw⟩ => ⟨he, hw ▸ Below.refl _ _⟩
  · have hN : Fl.isN x = false := by unfold rOk at ho; simp at ho; exact ho.1
    have hK : (Fl.K x).natAbs ≤ lim := by unfold rOk at ho; simp at ho; exact ho.2
    obtain ⟨_, b1, b2⟩ := fRnd_eq x hN hK
    obtain ⟨hw1, hw2⟩ := whole_round n (by omega) (by omega)
    obtain ⟨d, hd, hdN, hdK⟩ := left_exact x hN hK
    have hnear := rnd_near (Fl.K x).natAbs
    have hc := Fl.lim_units _ hK
    have key : -(hf : Int) ≤ Fl.K d ∧ Fl.K d ≤ hf ∧ (Fl.K d = hf ∨ Fl.K d = -(hf : Int) → (rI x).tmod 2 = 0) := by
      rw [hdK]
      unfold rI
      have e1 : ∀ a : Int, a * ((Fl.rnd (Fl.K x).natAbs : Nat) : Int) * (Fl.H : Int) = a * ((Fl.rnd (Fl.K x).natAbs * Fl.H : Nat) : Int) := by
        intro a; rw [Int.natCast_mul, Int.mul_assoc]
      rw [e1]
      generalize hq : Fl.rnd (Fl.K x).natAbs * Fl.H = q at *
      generalize Fl.rnd (Fl.K x).natAbs = c at *
      have hm : ∀ a : Int, (a = 1 ∨ a = -1) → c % 2 = 0 → (a * (c : Int)).tmod 2 = 0 := by
        intro a ha h
        exact Int.tmod_eq_zero_of_dvd (by rcases ha with rfl | rfl <;> omega)
      by_cases hs : Fl.K x < 0
      · simp only [hs, if_true]
        refine ⟨by omega, by omega, fun h => hm _ (.inr rfl) ?_⟩
        omega
      · simp only [hs, if_false]
        refine ⟨by omega, by omega, fun h => hm _ (.inl rfl) ?_⟩
        omega
    obtain ⟨g1, g2, g3⟩ := key
    refine (scoreRounds_yes x hx n h1 h2 (rI x) b1 b2 ho ((rOk_neg x hx).trans ho) rfl (rI_neg x hx) hw1 hw2 d hd ?_ ?_ _ _ rfl rfl ?_ w).mono fun _ _ ⟨he, hw⟩ => ⟨he, hw ▸ Below.refl _ _⟩
    · rw [le_K _ _ hdN (by decide), K_half]; simpa using g2
    · rw [ge_K _ _ hdN (by decide), K_mhalf]; simpa using g1
    · rw [ne_K _ _ hdN (by decide), ne_K _ _ hdN (by decide), K_half, K_mhalf]
      by_cases e1 : Fl.K d = hf
      · right; rw [beq_iff_eq]; exact g3 (.inl e1)
      · by_cases e2 : Fl.K d = -(hf : Int)
        · right; rw [beq_iff_eq]; exact g3 (.inr e2)
        · left; simp [e1, e2]

end Go.Proofs.Ytljehdiplfpjoaa
