/- Plain law: what is exact of 64-bit floats. No program in sight. -/
import Derived.Test.YtljehdiplfpjoaaScF
namespace Go.Proofs.Ytljehdiplfpjoaa.Fl
open Ieee

theorem cut_even (s : Bool) (n drop : Nat) :
    Toward.even.cut s n drop = n / 2 ^ drop + (if 2 ^ drop < 2 * (n % 2 ^ drop) ∨ (2 ^ drop = 2 * (n % 2 ^ drop) ∧ n / 2 ^ drop % 2 = 1) then 1 else 0) := by
  unfold Toward.cut
  by_cases h : drop ≤ n.log2 + 2
  · rw [Nat.min_eq_left h, Nat.one_shiftLeft]
    simp only
    congr 1
    by_cases c : 2 ^ drop < 2 * (n % 2 ^ drop) ∨ (2 ^ drop = 2 * (n % 2 ^ drop) ∧ n / 2 ^ drop % 2 = 1)
    · rw [if_pos c]
      have : (decide (2 ^ drop < 2 * (n % 2 ^ drop)) || (2 ^ drop == 2 * (n % 2 ^ drop) && n / 2 ^ drop % 2 == 1)) = true := by
        rcases c with c | ⟨c, d⟩
        · simp [c]
        · simp only [Bool.or_eq_true, Bool.and_eq_true, beq_iff_eq]; exact .inr ⟨c, d⟩
      rw [this]; rfl
    · rw [if_neg c]
      have : (decide (2 ^ drop < 2 * (n % 2 ^ drop)) || (2 ^ drop == 2 * (n % 2 ^ drop) && n / 2 ^ drop % 2 == 1)) = false := by
        rw [Bool.eq_false_iff]
        intro hc
        apply c
        simpa using hc
      rw [this]; rfl
  · rw [Nat.min_eq_right (by omega), Nat.one_shiftLeft]
    have h1 : n < 2 ^ (n.log2 + 1) := Nat.lt_log2_self
    have h2 : 2 ^ (n.log2 + 2) = 2 * 2 ^ (n.log2 + 1) := by rw [Nat.pow_succ]; omega
    have h3 : 2 ^ (n.log2 + 2) ≤ 2 ^ drop := Nat.pow_le_pow_right (by decide) (by omega)
    have d1 : n / 2 ^ (n.log2 + 2) = 0 := Nat.div_eq_of_lt (by omega)
    have d2 : n % 2 ^ (n.log2 + 2) = n := Nat.mod_eq_of_lt (by omega)
    have d3 : n / 2 ^ drop = 0 := Nat.div_eq_of_lt (by omega)
    have d4 : n % 2 ^ drop = n := Nat.mod_eq_of_lt (by omega)
    simp only [d1, d2, d3, d4]
    rw [if_neg (by omega)]
    have : (decide (2 ^ (n.log2 + 2) < 2 * n) || (2 ^ (n.log2 + 2) == 2 * n && 0 % 2 == 1)) = false := by simp; omega
    rw [this]; rfl

theorem cut_zero (s : Bool) (n drop : Nat) : Toward.zero.cut s n drop = n / 2 ^ drop := by
  unfold Toward.cut
  by_cases h : drop ≤ n.log2 + 2
  · rw [Nat.min_eq_left h, Nat.one_shiftLeft]; simp
  · rw [Nat.min_eq_right (by omega), Nat.one_shiftLeft]
    have h1 : n < 2 ^ (n.log2 + 1) := Nat.lt_log2_self
    have h2 : 2 ^ (n.log2 + 2) = 2 * 2 ^ (n.log2 + 1) := by rw [Nat.pow_succ]; omega
    have h3 : 2 ^ (n.log2 + 2) ≤ 2 ^ drop := Nat.pow_le_pow_right (by decide) (by omega)
    have d1 : n / 2 ^ (n.log2 + 2) = 0 := Nat.div_eq_of_lt (by omega)
    have d3 : n / 2 ^ drop = 0 := Nat.div_eq_of_lt (by omega)
    simp [d1, d3]

theorem read_word (s : Bool) (r : Nat) (h : r < 9223372036854775808) :
    double.read (double.word s r) = if r < 4503599627370496 then .number s r (-1074)
      else if r < 9218868437227405312 then .number s (4503599627370496 + r % 4503599627370496) (-1074 + (r / 4503599627370496 - 1 : Nat))
      else if r = 9218868437227405312 then .infinity s else .nan s (r - 9218868437227405312) := by
  unfold Format.read Format.word
  simp only [binade_eq, infRung_eq, signWeight_eq, leastPlace_eq]
  cases s
  · have h1 : (r / 9223372036854775808 % 2 == 1) = false := by rw [beq_eq_false_iff_ne]; omega
    have h2 : r % 9223372036854775808 = r := by omega
    simp only [h1, h2, Bool.false_eq_true, if_false]
  · have h1 : ((9223372036854775808 + r) / 9223372036854775808 % 2 == 1) = true := by rw [beq_iff_eq]; omega
    have h2 : (9223372036854775808 + r) % 9223372036854775808 = r := by omega
    simp only [h1, h2, if_true]

/-- What a float can hold is held. -/
theorem nearest_read (s : Bool) (mag : Nat) (p : Int) (k t : Nat) (hp : -1074 ≤ p) (hk : k < 2 ^ 53) (ht : t ≤ 2045) (hv : mag * 2 ^ (p + 1074).toNat = k * 2 ^ t) :
    ∃ m e, double.read (double.nearest s mag p) = .number s m e ∧ -1074 ≤ e ∧ e ≤ 971 ∧ m < 9007199254740992 ∧ m * 2 ^ (e + 1074).toNat = k * 2 ^ t := by
  unfold Format.nearest
  by_cases h0 : mag = 0
  · rw [if_pos h0, read_word s 0 (by omega)]
    exact ⟨0, -1074, rfl, by omega, by omega, by omega, by rw [← hv, h0]; simp⟩
  · rw [if_neg h0]
    have hL1 : 2 ^ mag.log2 ≤ mag := Nat.log2_self_le h0
    have hL2 : mag < 2 ^ (mag.log2 + 1) := Nat.lt_log2_self
    generalize mag.log2 = L at *
    have hfr : ((double.fractionBits : Nat) : Int) = 52 := rfl
    simp only [leastPlace_eq, binade_eq, infRung_eq, hfr]
    generalize hlast : max (p + (L : Int) - 52) (-1074) = last
    obtain ⟨kept, hcut, hval, hlt, hge⟩ : ∃ kept, Toward.even.cut s (mag <<< (p - last).toNat) (last - p).toNat = kept ∧
        kept * 2 ^ (last + 1074).toNat = k * 2 ^ t ∧ kept < 2 ^ 53 ∧ (last = -1074 ∨ 2 ^ 52 ≤ kept) := by
      by_cases hc : last ≤ p
      · refine ⟨_, rfl, ?_⟩
        have e0 : (last - p).toNat = 0 := by omega
        rw [e0, cut_even, Nat.shiftLeft_eq]
        have e1 : (p + 1074).toNat = (p - last).toNat + (last + 1074).toNat := by omega
        generalize (p - last).toNat = a at *
        simp only [Nat.pow_zero, Nat.div_one, Nat.mod_one]
        rw [if_neg (by omega), Nat.add_zero]
        refine ⟨?_, ?_, ?_⟩
        · rw [← hv, e1, Nat.pow_add, Nat.mul_assoc]
        · have : mag * 2 ^ a < 2 ^ (L + 1) * 2 ^ a := Nat.mul_lt_mul_of_pos_right hL2 (Nat.two_pow_pos _)
          rw [← Nat.pow_add] at this
          exact Nat.lt_of_lt_of_le this (Nat.pow_le_pow_right (by decide) (by omega))
        · by_cases hm : last = -1074
          · exact .inl hm
          · right
            have : 2 ^ L * 2 ^ a ≤ mag * 2 ^ a := Nat.mul_le_mul_right _ hL1
            rw [← Nat.pow_add] at this
            exact Nat.le_trans (Nat.pow_le_pow_right (by decide) (by omega)) this
      · obtain ⟨d, hd⟩ : ∃ d : Nat, (last - p).toNat = d := ⟨_, rfl⟩
        have e0 : (p - last).toNat = 0 := by omega
        have e1 : (last + 1074).toNat = d + (p + 1074).toNat := by omega
        have eL : L = 52 + d := by omega
        rw [hd, e0, cut_even, Nat.shiftLeft_eq, Nat.pow_zero, Nat.mul_one, e1]
        generalize (p + 1074).toNat = q at *
        have hq : q < t := by
          rcases Nat.lt_or_ge q t with h | h
          · exact h
          · exfalso
            have e : mag * 2 ^ q = mag * 2 ^ (q - t) * 2 ^ t := by rw [Nat.mul_assoc, ← Nat.pow_add]; congr 2; omega
            rw [e] at hv
            have := Nat.eq_of_mul_eq_mul_right (Nat.two_pow_pos _) hv
            have h2 : mag * 1 ≤ mag * 2 ^ (q - t) := Nat.mul_le_mul_left _ (Nat.two_pow_pos _)
            have h3 : 2 ^ 53 ≤ 2 ^ L := Nat.pow_le_pow_right (by decide) (by omega)
            omega
        have hm : mag = k * 2 ^ (t - q) := by
          have e : k * 2 ^ t = k * 2 ^ (t - q) * 2 ^ q := by rw [Nat.mul_assoc, ← Nat.pow_add]; congr 2; omega
          rw [e] at hv
          exact Nat.eq_of_mul_eq_mul_right (Nat.two_pow_pos _) hv
        have hdu : d ≤ t - q := by
          have h1 : k * 2 ^ (t - q) < 2 ^ 53 * 2 ^ (t - q) := Nat.mul_lt_mul_of_pos_right hk (Nat.two_pow_pos _)
          rw [← Nat.pow_add, ← hm] at h1
          have h2 : 2 ^ L < 2 ^ (53 + (t - q)) := Nat.lt_of_le_of_lt hL1 h1
          have := (Nat.pow_lt_pow_iff_right (by decide : 1 < 2)).1 h2
          omega
        have hm2 : mag = k * 2 ^ (t - q - d) * 2 ^ d := by rw [hm, Nat.mul_assoc, ← Nat.pow_add]; congr 2; omega
        have hd1 : mag / 2 ^ d = k * 2 ^ (t - q - d) := by rw [hm2]; exact Nat.mul_div_cancel _ (Nat.two_pow_pos _)
        have hd2 : mag % 2 ^ d = 0 := by rw [hm2]; exact Nat.mul_mod_left _ _
        have hp2 := Nat.two_pow_pos d
        refine ⟨_, rfl, ?_⟩
        rw [hd1, hd2, if_neg (by omega), Nat.add_zero]
        refine ⟨?_, ?_, .inr ?_⟩
        · rw [Nat.pow_add, ← Nat.mul_assoc, ← hm2]; exact hv
        · have h1 : k * 2 ^ (t - q - d) * 2 ^ d < 2 ^ 53 * 2 ^ d := by
            rw [← hm2, ← Nat.pow_add]; rw [eL] at hL2
            exact Nat.lt_of_lt_of_le hL2 (Nat.pow_le_pow_right (by decide) (by omega))
          exact Nat.lt_of_mul_lt_mul_right h1
        · have h1 : 2 ^ 52 * 2 ^ d ≤ k * 2 ^ (t - q - d) * 2 ^ d := by
            rw [← hm2, ← Nat.pow_add]; rw [eL] at hL1
            exact hL1
          exact Nat.le_of_mul_le_mul_right h1 (Nat.two_pow_pos _)
    rw [hcut]
    have hlo : -1074 ≤ last := by omega
    have hhi : last ≤ 971 := by
      rcases hge with h | h
      · omega
      · have h1 : 2 ^ 52 * 2 ^ (last + 1074).toNat ≤ kept * 2 ^ (last + 1074).toNat := Nat.mul_le_mul_right _ h
        have h2 : k * 2 ^ t < 2 ^ 53 * 2 ^ t := Nat.mul_lt_mul_of_pos_right hk (Nat.two_pow_pos _)
        rw [hval] at h1
        have h3 : 2 ^ 52 * 2 ^ (last + 1074).toNat < 2 ^ 53 * 2 ^ t := Nat.lt_of_le_of_lt h1 h2
        rw [← Nat.pow_add, ← Nat.pow_add] at h3
        have := (Nat.pow_lt_pow_iff_right (by decide : 1 < 2)).1 h3
        omega
    have e2 : (last - -1074).toNat = (last + 1074).toNat := by omega
    rw [e2]
    clear hcut hlast hL1 hL2 hv
    have h53 : (2 : Nat) ^ 53 = 9007199254740992 := by decide
    have h52 : (2 : Nat) ^ 52 = 4503599627370496 := by decide
    rw [h53] at hlt; rw [h52] at hge
    have hE : ((last + 1074).toNat : Int) = last + 1074 := by omega
    generalize hEE : (last + 1074).toNat = E at *
    rw [Nat.min_eq_left (by omega), read_word _ _ (by omega)]
    by_cases hs : E * 4503599627370496 + kept < 4503599627370496
    · rw [if_pos hs]
      have : E = 0 := by omega
      subst this
      exact ⟨_, _, rfl, by omega, by omega, by omega, by rw [← hval]; simp⟩
    · rw [if_neg hs, if_pos (by omega)]
      have a1 : (E * 4503599627370496 + kept) / 4503599627370496 = E + 1 := by omega
      have a2 : 4503599627370496 + (E * 4503599627370496 + kept) % 4503599627370496 = kept := by omega
      rw [a1, a2]
      refine ⟨_, _, rfl, by omega, by omega, by omega, ?_⟩
      have a3 : ((-1074 : Int) + ((E + 1 - 1 : Nat) : Int) + 1074).toNat = E := by omega
      rw [a3]; exact hval

end Go.Proofs.Ytljehdiplfpjoaa.Fl
