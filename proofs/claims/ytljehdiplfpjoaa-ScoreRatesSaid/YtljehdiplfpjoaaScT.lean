/- Plain law of Rate: which word it is, and that it rises with the fee and falls with the bytes. -/
import Derived.Test.YtljehdiplfpjoaaScQ
import Derived.Test.YtljehdiplfpjoaaScU
namespace Go.Proofs.Ytljehdiplfpjoaa
open Go.RowKit Ieee

def inf : Nat := 9218868437227405312
def val (r : Nat) : Nat := (Fl.key (mg false r)).toNat

theorem mg_lt (r : Nat) (h : r < 9218868437227405312) : ∃ m e, mg false r = .number false m e ∧ -1074 ≤ e ∧ e ≤ 971 ∧ m < 9007199254740992 ∧ val r = Fl.units m e := by
  unfold val mg
  by_cases c : r < 4503599627370496
  · rw [if_pos c]
    exact ⟨_, _, rfl, by omega, by omega, by omega, by rw [Fl.key_num]; simp [Fl.sgn]⟩
  · rw [if_neg c, if_pos h]
    exact ⟨_, _, rfl, by omega, by omega, by omega, by rw [Fl.key_num]; simp [Fl.sgn]⟩

theorem val_step (r : Nat) (h : r + 1 < 9218868437227405312) : val r ≤ val (r + 1) := by
  have k : ∀ r, r < 9218868437227405312 → val r = if r < 4503599627370496 then r else (4503599627370496 + r % 4503599627370496) * 2 ^ (r / 4503599627370496 - 1) := by
    intro r hr
    unfold val mg
    by_cases c : r < 4503599627370496
    · rw [if_pos c, if_pos c, Fl.key_num]
      unfold Fl.units
      simp [Fl.sgn]
    · rw [if_neg c, if_neg c, if_pos hr, Fl.key_num]
      unfold Fl.units
      have : ((-1074 : Int) + ((r / 4503599627370496 - 1 : Nat) : Int) + 1074).toNat = r / 4503599627370496 - 1 := by omega
      rw [this]; unfold Fl.sgn; simp only [Bool.false_eq_true, if_false, Int.one_mul, Int.toNat_natCast]
  rw [k r (by omega), k (r + 1) h]
  by_cases c1 : r + 1 < 4503599627370496
  · rw [if_pos (by omega), if_pos c1]; omega
  · rw [if_neg c1]
    by_cases c2 : r < 4503599627370496
    · have : r = 4503599627370495 := by omega
      subst this
      decide
    · rw [if_neg c2]
      by_cases c3 : r % 4503599627370496 + 1 < 4503599627370496
      · have e1 : (r + 1) / 4503599627370496 = r / 4503599627370496 := by omega
        rw [e1]
        exact Nat.mul_le_mul_right _ (by omega)
      · have e1 : (r + 1) / 4503599627370496 - 1 = r / 4503599627370496 - 1 + 1 := by omega
        rw [e1, Nat.pow_succ, Nat.mul_comm (2 ^ _) 2, ← Nat.mul_assoc]
        exact Nat.mul_le_mul_right _ (by omega)

theorem val_mono (a b : Nat) (h : a ≤ b) (hb : b < 9218868437227405312) : val a ≤ val b := by
  obtain ⟨d, rfl⟩ : ∃ d, b = a + d := ⟨b - a, by omega⟩
  clear h
  induction d with
  | zero => exact Nat.le_refl _
  | succ d ih => exact Nat.le_trans (ih (by omega)) (val_step (a + d) hb)

theorem key_val (r : Nat) : Fl.key (mg false r) = (val r : Int) := by
  have := key_mg_pos r
  unfold val; omega

theorem key_mono (a b : Nat) (h : a ≤ b) (hb : b ≤ 9218868437227405312) : Fl.key (mg false a) ≤ Fl.key (mg false b) := by
  by_cases c : b < 9218868437227405312
  · rw [key_val, key_val]
    exact_mod_cast val_mono a b h c
  · have : b = 9218868437227405312 := by omega
    subst this
    have e : Fl.key (mg false 9218868437227405312) = Fl.big := by
      unfold mg
      rw [if_neg (by omega), if_neg (by omega), if_pos rfl]
      simp [Fl.key, Fl.sgn]
    rw [e]
    by_cases c2 : a < 9218868437227405312
    · obtain ⟨m, e', hm, h1, h2, h3, _⟩ := mg_lt a c2
      rw [hm]
      exact Int.le_of_lt (Fl.key_lt false m e' h2 h3).2
    · have : a = 9218868437227405312 := by omega
      subst this
      rw [e]; exact Int.le_refl _

/-- Words: their key, sign, place among all. -/
theorem word_lt (s : Bool) (r : Nat) (h : r ≤ 9218868437227405312) : double.word s r < 18446744073709551616 := by
  unfold Format.word
  rw [Fl.signWeight_eq]
  cases s <;> simp <;> omega
theorem word_sg (s : Bool) (r : Nat) (h : r ≤ 9218868437227405312) : sg (double.word s r) = s := by
  unfold sg Format.word
  rw [Fl.signWeight_eq]
  cases s <;> simp <;> omega
theorem word_nan (s : Bool) (r : Nat) (h : r ≤ 9218868437227405312) : Fl.isN (double.word s r) = false := by
  unfold Fl.isN
  rw [Fl.read_word s r (by omega)]
  split
  · rfl
  · split
    · rfl
    · rw [if_pos (by omega)]; rfl
theorem word_K (s : Bool) (r : Nat) (h : r ≤ 9218868437227405312) : Fl.K (double.word s r) = Fl.sgn s * Fl.key (mg false r) := by
  rw [← key_mg]
  unfold Fl.K
  rw [Fl.read_word s r (by omega)]; rfl
theorem word_T (s : Bool) (r : Nat) (h : r ≤ 9218868437227405312) : T (double.word s r) = if s then -2 * Fl.key (mg false r) else 2 * Fl.key (mg false r) + 1 := by
  unfold T
  rw [word_nan s r h, word_K s r h, word_sg s r h]
  cases s <;> simp [Fl.sgn] <;> omega
theorem less_word (a b : Nat) (h : a ≤ b) (hb : b ≤ 9218868437227405312) : fLess (double.word false b) (double.word false a) = false := by
  rw [less_T, word_T _ _ hb, word_T _ _ (by omega)]
  have := key_mono a b h hb
  simp; omega
theorem less_word_neg (a b : Nat) (h : a ≤ b) (hb : b ≤ 9218868437227405312) : fLess (double.word true a) (double.word true b) = false := by
  rw [less_T, word_T _ _ hb, word_T _ _ (by omega)]
  have := key_mono a b h hb
  simp; omega

/-- The rung of a whole number as a float. -/
def fA (f : Nat) : Nat := Fl.rungQ (f * Fl.H) 1
theorem fA_word (f : Nat) : floatOfInt .f64 (f : Int) = double.word false (fA f) := by
  show double.nearest (decide ((f : Int) < 0)) (f : Int).natAbs 0 = _
  have : decide ((f : Int) < 0) = false := by simp
  rw [this, Int.natAbs_natCast, Fl.nearest_rung _ _ _ (by decide)]
  unfold fA Fl.H
  rw [show ((0 : Int) + 1074).toNat = Fl.HE by rw [Fl.HE_eq]; rfl]
theorem fA_top : fA 18446744073709551616 = 4895412794951729152 := by
  have h := fA_word 18446744073709551616
  have e : floatOfInt .f64 ((18446744073709551616 : Nat) : Int) = 4895412794951729152 := by decide
  rw [e] at h
  unfold Format.word at h
  simp at h
  exact h.symm
theorem fA_mono (a b : Nat) (h : a ≤ b) : fA a ≤ fA b := Fl.rungQ_mono _ _ _ _ (by decide) (by decide) (by
  rw [Nat.mul_one, Nat.mul_one]; exact Nat.mul_le_mul_right _ h)
theorem fA_le (f : Nat) (h : f ≤ 18446744073709551616) : fA f ≤ 4895412794951729152 := by
  rw [← fA_top]; exact fA_mono _ _ h
theorem fA_zero : fA 0 = 0 := by
  have h := fA_word 0
  have e : floatOfInt .f64 ((0 : Nat) : Int) = 0 := by decide
  rw [e] at h
  unfold Format.word at h
  simp at h
  exact h.symm
theorem fA_one : fA 1 = 4607182418800017408 := by
  have h := fA_word 1
  have e : floatOfInt .f64 ((1 : Nat) : Int) = 4607182418800017408 := by decide
  rw [e] at h
  unfold Format.word at h
  simp at h
  exact h.symm
theorem val_zero : val 0 = 0 := by unfold val mg; simp [Fl.key]
theorem val_one : val 4607182418800017408 = Fl.H := by
  unfold val
  have : mg false 4607182418800017408 = .number false 4503599627370496 (-52) := by decide
  rw [this, Fl.key_num]
  have e : Fl.units 4503599627370496 (-52) = Fl.H := by
    unfold Fl.units Fl.H
    rw [show (4503599627370496 : Nat) = 2 ^ 52 by decide, ← Nat.pow_add]
    congr 1
    have := Fl.HE_eq
    omega
  rw [e]; simp [Fl.sgn]

/-- The rung of a rate. -/
def fR (f n : Nat) : Nat := Fl.rungQ (val (fA f)) n
theorem fR_le (f n : Nat) : fR f n ≤ 9218868437227405312 := Nat.min_le_right _ _
theorem fR_fee (a b n : Nat) (h : a ≤ b) (hb : b ≤ 18446744073709551616) (hn : 0 < n) : fR a n ≤ fR b n :=
  Fl.rungQ_mono _ _ _ _ hn hn (Nat.mul_le_mul_right _ (val_mono _ _ (fA_mono a b h) (by have := fA_le b hb; omega)))
theorem fR_bytes (a n m : Nat) (h : n ≤ m) (hn : 0 < n) : fR a m ≤ fR a n :=
  Fl.rungQ_mono _ _ _ _ (by omega) hn (Nat.mul_le_mul_left _ h)
theorem fR_top (f n : Nat) (h : f ≤ 18446744073709551616) (hn : 0 < n) : fR f n ≤ 9094988921128908188 := by
  have h1 := fR_fee f 18446744073709551616 n h (Nat.le_refl _) hn
  have h2 := fR_bytes 18446744073709551616 1 n hn (by decide)
  have h4 : val (fA 18446744073709551616) = 18446744073709551616 * Fl.H := by
    rw [fA_top]
    unfold val
    have : mg false 4895412794951729152 = .number false 4503599627370496 12 := by decide
    rw [this, Fl.key_num, Fl.units_pos _ _ (by decide)]
    simp [Fl.sgn]
    omega
  have h3 : fR 18446744073709551616 1 = fA 18446744073709551616 := congrArg (fun v => Fl.rungQ v 1) h4
  rw [h3, fA_top] at h2
  omega

set_option maxRecDepth 100000 in
theorem rate_word (f n : Nat) (s : Bool) (hf : f ≤ 18446744073709551616) (hn : 0 < n) (hn2 : n ≤ 65536) :
    floatBits .quo .f64 (floatOfInt .f64 (f : Int)) (floatOfInt .f64 (if s then -(n : Int) else n)) = some (double.word s (fR f n)) := by
  have hA := fA_le f hf
  obtain ⟨m, e, hm, e1, e2, e3, hv⟩ := mg_lt (fA f) (by omega)
  have hr1 : double.read (floatOfInt .f64 (f : Int)) = .number false m e := by
    rw [fA_word, Fl.read_word _ _ (by omega)]; exact hm
  obtain ⟨nb, jb, hr2, j1, j2, j3, hu⟩ := Fl.whole_read s n (by omega)
  have hr3 : double.read (floatOfInt .f64 (if s then -(n : Int) else n)) = .number s nb jb := by
    rw [← hr2]
    show double.read (double.nearest _ _ 0) = _
    cases s
    · have : decide ((if (false : Bool) = true then -(n : Int) else n) < 0) = false := by simp
      rw [this]; simp
    · have : decide ((if (true : Bool) = true then -(n : Int) else n) < 0) = true := by simp; omega
      rw [this]; simp
  have hH := Fl.H_pos
  have hnb : nb ≠ 0 := by
    intro h0
    subst h0
    unfold Fl.units at hu
    rw [Nat.zero_mul] at hu
    have := Nat.mul_pos hn hH
    omega
  show double.div _ _ = _
  unfold Format.div
  rw [hr1, hr3]
  simp only [Datum.quotient, if_neg hnb, Option.map_some]
  congr 1
  show double.nearest _ _ _ = _
  rw [Bool.false_xor]
  by_cases h0 : f = 0
  · subst h0
    have hm0 : m = 0 := by
      rw [fA_zero, val_zero] at hv
      unfold Fl.units at hv
      have := Nat.two_pow_pos (e + 1074).toNat
      rcases Nat.mul_eq_zero.1 hv.symm with h | h
      · exact h
      · omega
    subst hm0
    have hz : 2 * ((0 <<< (double.fractionBits + 2 + nb.log2 - Nat.log2 0)) / nb) + ((0 <<< (double.fractionBits + 2 + nb.log2 - Nat.log2 0)) % nb != 0).toNat = 0 := by
      rw [Nat.zero_shiftLeft]; simp
    rw [hz]
    have hR : fR 0 n = 0 := by
      unfold fR
      rw [fA_zero, val_zero]
      have hl : Fl.lift 0 n = 0 := by unfold Fl.lift; simp
      have hr : Fl.rne 0 (n * 2 ^ 0) = 0 := by unfold Fl.rne; simp
      unfold Fl.rungQ
      rw [hl, hr, Nat.zero_mul, Nat.zero_add, Nat.zero_min]
    rw [hR]
    unfold Format.nearest
    rw [if_pos rfl]
  · have hval : Fl.H ≤ Fl.units m e := by
      rw [← hv, ← val_one, ← fA_one]
      exact val_mono _ _ (fA_mono 1 f (by omega)) (by omega)
    have hm0 : m ≠ 0 := by
      intro h; subst h
      unfold Fl.units at hval
      rw [Nat.zero_mul] at hval
      omega
    have he : -52 ≤ e := by
      have h1 : Fl.units m e < 2 ^ 53 * 2 ^ (e + 1074).toNat := by
        unfold Fl.units
        exact Nat.mul_lt_mul_of_pos_right (by rw [show (2 : Nat) ^ 53 = 9007199254740992 by decide]; exact e3) (Nat.two_pow_pos _)
      have h2 := Nat.lt_of_le_of_lt hval h1
      unfold Fl.H at h2
      rw [← Nat.pow_add] at h2
      have := (Nat.pow_lt_pow_iff_right (by decide : 1 < 2)).1 h2
      have := Fl.HE_eq
      omega
    have hj : jb ≤ 17 := by
      have h1 : 2 ^ (jb + 1074).toNat ≤ Fl.units nb jb := by
        unfold Fl.units
        have := Nat.mul_le_mul_right (2 ^ (jb + 1074).toNat) (show 1 ≤ nb by omega)
        omega
      have h2 : n * Fl.H ≤ 2 ^ 16 * Fl.H := Nat.mul_le_mul_right _ (by rw [show (2 : Nat) ^ 16 = 65536 by decide]; exact hn2)
      rw [hu] at h1
      have h3 := Nat.le_trans h1 h2
      unfold Fl.H at h3
      rw [← Nat.pow_add] at h3
      have := (Nat.pow_le_pow_iff_right (by decide : 1 < 2)).1 h3
      have := Fl.HE_eq
      omega
    have hfb : double.fractionBits = 52 := rfl
    rw [hfb]
    have lm1 := Nat.log2_self_le hm0
    have lm2 : m.log2 < 53 := by rw [Nat.log2_lt hm0]; rw [show (2 : Nat) ^ 53 = 9007199254740992 by decide]; exact e3
    have ln1 := Nat.lt_log2_self (n := nb)
    have ln2 : nb.log2 < 53 := by rw [Nat.log2_lt hnb]; rw [show (2 : Nat) ^ 53 = 9007199254740992 by decide]; exact j3
    generalize m.log2 = lm at *
    generalize nb.log2 = ln at *
    obtain ⟨more, hmore⟩ : ∃ k, k = 52 + 2 + ln - lm := ⟨_, rfl⟩
    rw [← hmore, Nat.shiftLeft_eq]
    have hp : -1074 ≤ e - jb - (more : Int) - 1 := by omega
    rw [Fl.nearest_rung _ _ _ hp]
    have hq : 2 ^ 53 ≤ m * 2 ^ more / nb := by
      rw [Nat.le_div_iff_mul_le (by omega)]
      have h1 : 2 ^ lm * 2 ^ more ≤ m * 2 ^ more := Nat.mul_le_mul_right _ lm1
      rw [← Nat.pow_add] at h1
      have h2 : 2 ^ 53 * nb ≤ 2 ^ 53 * 2 ^ (ln + 1) := Nat.mul_le_mul_left _ (by omega)
      rw [← Nat.pow_add] at h2
      have h3 : 2 ^ (53 + (ln + 1)) ≤ 2 ^ (lm + more) := Nat.pow_le_pow_right (by decide) (by omega)
      omega
    rw [Fl.sticky _ _ _ (by omega) hq]
    refine congrArg (double.word s) ?_
    unfold fR
    rw [hv]
    refine Fl.rungQ_eq _ _ _ _ (by omega) hn ?_
    have hu2 : nb * 2 ^ (jb + 1074).toNat = n * 2 ^ Fl.HE := hu
    unfold Fl.units
    have a1 : 2 * (m * 2 ^ more) * 2 ^ (e - jb - (more : Int) - 1 + 1074).toNat = m * 2 ^ (e - jb + 1074).toNat := by
      have : (e - jb + 1074).toNat = 1 + more + (e - jb - (more : Int) - 1 + 1074).toNat := by omega
      rw [this, Nat.pow_add, Nat.pow_add, Nat.pow_one]
      ac_rfl
    rw [a1]
    have hHE := Nat.two_pow_pos Fl.HE
    refine Nat.eq_of_mul_eq_mul_right hHE ?_
    have a2 : m * 2 ^ (e - jb + 1074).toNat * n * 2 ^ Fl.HE = m * 2 ^ (e - jb + 1074).toNat * (n * 2 ^ Fl.HE) := by ac_rfl
    rw [a2, ← hu2]
    have a3 : m * 2 ^ (e - jb + 1074).toNat * (nb * 2 ^ (jb + 1074).toNat) = m * nb * 2 ^ ((e - jb + 1074).toNat + (jb + 1074).toNat) := by rw [Nat.pow_add]; ac_rfl
    have a4 : m * 2 ^ (e + 1074).toNat * nb * 2 ^ Fl.HE = m * nb * 2 ^ ((e + 1074).toNat + Fl.HE) := by rw [Nat.pow_add]; ac_rfl
    rw [a3, a4]
    congr 2
    have := Fl.HE_eq
    omega

end Go.Proofs.Ytljehdiplfpjoaa
