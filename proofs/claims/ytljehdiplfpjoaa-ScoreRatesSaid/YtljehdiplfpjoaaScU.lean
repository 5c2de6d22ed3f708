/- ScoreRounds: what is rounded is next to the rate, and even where two are as near. The rate's word fits 64 bits, the whole number 32. -/
import Derived.Test.YtljehdiplfpjoaaScS
namespace Go.Proofs.Ytljehdiplfpjoaa
open Go.RowKit Ieee

/-- Half a unit. -/
def hf : Nat := 2 ^ (Fl.HE - 1)
theorem H_hf : Fl.H = 2 * hf := by
  unfold Fl.H hf
  rw [Nat.mul_comm, ← Nat.pow_succ]
  congr 1
  have := Fl.HE_eq
  omega
theorem hf_pos : 0 < hf := Nat.two_pow_pos _
theorem K_half : Fl.K 4602678819172646912 = hf := by
  have : double.read 4602678819172646912 = .number false 4503599627370496 (-53) := by decide
  unfold Fl.K
  rw [this, Fl.key_num]
  have e : Fl.units 4503599627370496 (-53) = hf := by
    unfold Fl.units hf
    rw [show (4503599627370496 : Nat) = 2 ^ 52 by decide, ← Nat.pow_add]
    congr 1
    have := Fl.HE_eq
    omega
  rw [e]; simp [Fl.sgn]
theorem K_mhalf : Fl.K 13826050856027422720 = -(hf : Int) := by
  have e : Fl.K 13826050856027422720 = - Fl.K 4602678819172646912 := by
    have h := neg_K 4602678819172646912 (by decide)
    rwa [show fNeg 4602678819172646912 = 13826050856027422720 by decide] at h
  rw [e, K_half]
theorem K_mlim : Fl.K 14069245235905429504 = -(lim : Int) := by
  have h := neg_K 4845873199050653696 (by decide)
  rw [show fNeg 4845873199050653696 = 14069245235905429504 by decide, K_lim] at h
  exact h

theorem whole_K (n : Int) (h1 : -9007199254740992 ≤ n) (h2 : n ≤ 9007199254740992) :
    ∃ m e, double.read (floatOfInt .f64 n) = .number (decide (n < 0)) m e ∧ -1074 ≤ e ∧ Fl.isN (floatOfInt .f64 n) = false ∧ Fl.K (floatOfInt .f64 n) = n * Fl.H := by
  obtain ⟨m, e, h3, h4, _, _, h5⟩ := Fl.whole_read (decide (n < 0)) n.natAbs (by omega)
  have hr : double.read (floatOfInt .f64 n) = .number (decide (n < 0)) m e := h3
  refine ⟨m, e, hr, h4, by unfold Fl.isN; rw [hr]; rfl, ?_⟩
  unfold Fl.K
  rw [hr, Fl.key_num, h5]
  by_cases h : n < 0
  · simp only [h, decide_true, Fl.sgn, if_true]
    rw [Int.natCast_mul, show ((n.natAbs : Nat) : Int) = -n by omega, Int.neg_mul, Int.neg_mul, Int.one_mul, Int.neg_neg]
  · simp only [h, decide_false, Fl.sgn, Bool.false_eq_true, if_false]
    rw [Int.natCast_mul, show ((n.natAbs : Nat) : Int) = n by omega, Int.one_mul]

theorem floatOfInt_lt (n : Int) : floatOfInt .f64 n < 18446744073709551616 := double.nearest_lt _ _ _

theorem rnd_whole (c : Nat) : Fl.rnd (c * Fl.H) = c := by
  unfold Fl.rnd
  have := Fl.H_pos
  rw [Nat.mul_div_cancel _ this, Nat.mul_mod_left, if_neg (by omega), Nat.add_zero]

/-- How far a rounded magnitude is from what it was. -/
theorem rnd_near (V : Nat) : (Fl.rnd V * Fl.H ≤ V ∧ V - Fl.rnd V * Fl.H ≤ hf ∧ (V - Fl.rnd V * Fl.H = hf → Fl.rnd V % 2 = 0)) ∨
    (V < Fl.rnd V * Fl.H ∧ Fl.rnd V * Fl.H - V ≤ hf ∧ (Fl.rnd V * Fl.H - V = hf → Fl.rnd V % 2 = 0)) := by
  have hH := H_hf
  have hp := hf_pos
  have hd := Nat.div_add_mod V Fl.H
  have hm := Nat.mod_lt V Fl.H_pos
  unfold Fl.rnd
  generalize V / Fl.H = t at *
  generalize V % Fl.H = r at *
  have ht : (t + 1) * Fl.H = Fl.H * t + Fl.H := by rw [Nat.add_mul, Nat.one_mul, Nat.mul_comm]
  have ht0 : (t + 0) * Fl.H = Fl.H * t := by rw [Nat.add_zero, Nat.mul_comm]
  generalize Fl.H * t = q at *
  split
  · rw [ht]; right; omega
  · rw [ht0]; left; omega

theorem K_read_sgn (x : Nat) (s : Bool) (m : Nat) (e : Int) (h : double.read x = .number s m e) : Fl.K x = Fl.sgn s * (Fl.units m e : Int) := by
  unfold Fl.K; rw [h, Fl.key_num]

/-- What is left of a rate beside its whole number. -/
theorem left_exact (x : Nat) (hn : Fl.isN x = false) (h : (Fl.K x).natAbs ≤ lim) :
    ∃ d, floatBits .sub .f64 x (floatOfInt .f64 (rI x)) = some d ∧ Fl.isN d = false ∧ Fl.K d = Fl.K x - rI x * Fl.H := by
  obtain ⟨s, m, e, hx, h1, h2, h3, hK⟩ := near_read x hn h
  obtain ⟨_, b1, b2⟩ := fRnd_eq x hn h
  obtain ⟨m', e', hy, h1', _, hKy⟩ := whole_K (rI x) b1 b2
  have hV : (Fl.K x).natAbs = Fl.units m e := by rw [hK]; cases s <;> simp [Fl.sgn]
  have hD : (Fl.K x - rI x * Fl.H).natAbs = if Fl.rnd (Fl.units m e) * Fl.H ≤ Fl.units m e then Fl.units m e - Fl.rnd (Fl.units m e) * Fl.H else Fl.rnd (Fl.units m e) * Fl.H - Fl.units m e := by
    unfold rI
    rw [hV]
    have e1 : ∀ a : Int, a * ((Fl.rnd (Fl.units m e) : Nat) : Int) * (Fl.H : Int) = a * ((Fl.rnd (Fl.units m e) * Fl.H : Nat) : Int) := by
      intro a; rw [Int.natCast_mul, Int.mul_assoc]
    rw [e1]
    generalize Fl.rnd (Fl.units m e) * Fl.H = q
    generalize Fl.units m e = v at *
    by_cases c : Fl.K x < 0
    · rw [if_pos c]; split <;> omega
    · rw [if_neg c]; split <;> omega
  obtain ⟨k, t, hk, hk2, ht⟩ : ∃ k t, (Fl.K x - rI x * Fl.H).natAbs = k * 2 ^ t ∧ k < 2 ^ 53 ∧ t ≤ 2045 := by
    rw [hD]
    have h53 : (2 : Nat) ^ 53 = 9007199254740992 := by decide
    rw [h53]
    by_cases he : 0 ≤ e
    · rw [Fl.units_pos m e he, rnd_whole]
      exact ⟨0, 0, by simp, by omega, by omega⟩
    · have hs := Fl.H_split (-e).toNat (by omega)
      have hu := Fl.units_neg m e h1 (by omega)
      have hdv := Fl.units_div m e h1
      have hmd := Fl.units_mod m e h1
      have hnear := rnd_near (Fl.units m e)
      refine ⟨if Fl.rnd (Fl.units m e) * Fl.H ≤ Fl.units m e then m - Fl.rnd (Fl.units m e) * 2 ^ (-e).toNat else Fl.rnd (Fl.units m e) * 2 ^ (-e).toNat - m, 1074 - (-e).toNat, ?_, ?_, by omega⟩
      · have eq : Fl.rnd (Fl.units m e) * Fl.H = Fl.rnd (Fl.units m e) * 2 ^ (-e).toNat * 2 ^ (1074 - (-e).toNat) := by rw [hs, Nat.mul_assoc]
        rw [eq]
        generalize Fl.rnd (Fl.units m e) * 2 ^ (-e).toNat = g
        rw [hu]
        generalize 2 ^ (1074 - (-e).toNat) = u
        split
        · rw [Nat.sub_mul]
        · rw [Nat.sub_mul]
      · split
        · omega
        · rename_i hlt
          have hp := Nat.two_pow_pos (1074 - (-e).toNat)
          have eq : Fl.rnd (Fl.units m e) * Fl.H = Fl.rnd (Fl.units m e) * 2 ^ (-e).toNat * 2 ^ (1074 - (-e).toNat) := by rw [hs, Nat.mul_assoc]
          have hge : Fl.rnd (Fl.units m e) * Fl.H ≤ 2 * Fl.units m e := by
            have hH := H_hf
            have hm := Nat.div_add_mod (Fl.units m e) Fl.H
            have hml := Nat.mod_lt (Fl.units m e) Fl.H_pos
            unfold Fl.rnd at hlt ⊢
            generalize Fl.units m e / Fl.H = t at *
            generalize Fl.units m e % Fl.H = r at *
            have ht1 : (t + 1) * Fl.H = Fl.H * t + Fl.H := by rw [Nat.add_mul, Nat.one_mul, Nat.mul_comm]
            have ht0 : (t + 0) * Fl.H = Fl.H * t := by rw [Nat.add_zero, Nat.mul_comm]
            generalize Fl.H * t = q at *
            by_cases c : Fl.H < 2 * r ∨ (Fl.H = 2 * r ∧ t % 2 = 1)
            · rw [if_pos c, ht1]; omega
            · rw [if_neg c, ht0]; omega
          rw [eq] at hge
          have hge2 : Fl.rnd (Fl.units m e) * 2 ^ (-e).toNat * 2 ^ (1074 - (-e).toNat) ≤ 2 * m * 2 ^ (1074 - (-e).toNat) := by
            rw [Nat.mul_assoc 2 m, ← hu]; exact hge
          have := Nat.le_of_mul_le_mul_right hge2 hp
          omega
  have hxs : Fl.K x - Fl.K (floatOfInt .f64 (rI x)) = Fl.K x - rI x * Fl.H := by rw [hKy]
  obtain ⟨r, r1, r2, r3⟩ := Fl.sub_exact x _ _ _ _ _ _ _ hx hy h1 h1' k t _ hxs hk hk2 ht
  exact ⟨r, r1, r2, r3⟩

end Go.Proofs.Ytljehdiplfpjoaa
