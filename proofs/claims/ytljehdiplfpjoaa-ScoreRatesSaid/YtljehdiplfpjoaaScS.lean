/- Plain law of package score's Round: what it answers, in units of the least place. -/
import Derived.Test.YtljehdiplfpjoaaScR
import Derived.Test.YtljehdiplfpjoaaScO
namespace Go.Proofs.Ytljehdiplfpjoaa
open Go.RowKit Ieee

def mg (s : Bool) (r : Nat) : Datum := if r < 4503599627370496 then .number s r (-1074)
      else if r < 9218868437227405312 then .number s (4503599627370496 + r % 4503599627370496) (-1074 + (r / 4503599627370496 - 1 : Nat))
      else if r = 9218868437227405312 then .infinity s else .nan s (r - 9218868437227405312)

theorem word_of (x : Nat) (h : x < 18446744073709551616) : x = double.word (sg x) (x % 9223372036854775808) := by
  unfold Format.word sg
  rw [Fl.signWeight_eq]
  by_cases c : x / 9223372036854775808 % 2 = 1
  · rw [beq_iff_eq.2 c]; simp; omega
  · rw [beq_eq_false_iff_ne.2 c]; simp; omega
theorem read_of (x : Nat) (h : x < 18446744073709551616) : double.read x = mg (sg x) (x % 9223372036854775808) := by
  conv => lhs; rw [word_of x h]
  exact Fl.read_word _ _ (by omega)
theorem abs_eq (x : Nat) (h : x < 18446744073709551616) : fAbs x = x % 9223372036854775808 := by
  unfold fAbs
  have := Go.u64_andNot_nat x 9223372036854775808 h (by decide)
  rw [show ((9223372036854775808 : Nat) : Int) = 9223372036854775808 from rfl] at this
  rw [this, Int.toNat_natCast, show 18446744073709551615 - 9223372036854775808 = 2 ^ 63 - 1 by decide, Nat.and_two_pow_sub_one_eq_mod]
theorem read_abs (x : Nat) (h : x < 18446744073709551616) : double.read (fAbs x) = mg false (x % 9223372036854775808) := by
  rw [abs_eq x h]
  exact Fl.read_word false _ (by omega)
theorem xor_top (r : Nat) (h : r < 9223372036854775808) : r ^^^ 9223372036854775808 = 9223372036854775808 + r := by
  have e : 9223372036854775808 + r = 9223372036854775808 ||| r := by
    have := Nat.two_pow_add_eq_or_of_lt (i := 63) (b := r) (by omega) 1
    simpa using this
  rw [e]
  apply Nat.eq_of_testBit_eq
  intro i
  rw [Nat.testBit_xor, Nat.testBit_or, show (9223372036854775808 : Nat) = 2 ^ 63 by decide, Nat.testBit_two_pow]
  by_cases hi : 63 = i
  · subst hi
    have : r.testBit 63 = false := Nat.testBit_lt_two_pow (by omega)
    rw [this]; rfl
  · simp [hi]
def fNeg (x : Nat) : Nat := Op.negFloat .f64 x
theorem neg_word (s : Bool) (r : Nat) (hr : r < 9223372036854775808) : Op.negFloat .f64 (double.word s r) = double.word (!s) r := by
  unfold Op.negFloat
  rw [show 2 ^ (FloatKind.f64.format.exponentBits + FloatKind.f64.format.fractionBits) = 9223372036854775808 by decide]
  unfold Format.word
  rw [Fl.signWeight_eq]
  cases s
  · simp [xor_top r hr]
  · simp only [if_true, Bool.not_true, Bool.false_eq_true, if_false]
    rw [← xor_top r hr, Nat.xor_assoc, Nat.xor_self, Nat.xor_zero]
theorem read_neg (x : Nat) (h : x < 18446744073709551616) : double.read (fNeg x) = mg (!sg x) (x % 9223372036854775808) := by
  have hw := word_of x h
  have hr : x % 9223372036854775808 < 9223372036854775808 := Nat.mod_lt _ (by decide)
  rw [show fNeg x = double.word (!sg x) (x % 9223372036854775808) from (congrArg (Op.negFloat .f64) hw).trans (neg_word _ _ hr)]
  exact Fl.read_word _ _ hr

theorem nan_mg (s t : Bool) (r : Nat) : (mg s r).isNaN = (mg t r).isNaN := by
  unfold mg; split <;> (try split) <;> (try split) <;> rfl
theorem key_mg (s : Bool) (r : Nat) : Fl.key (mg s r) = Fl.sgn s * Fl.key (mg false r) := by
  unfold mg; split <;> (try split) <;> (try split) <;> simp [Fl.key, Fl.sgn]
theorem key_mg_pos (r : Nat) : 0 ≤ Fl.key (mg false r) := by
  have hb := Fl.big_pos
  unfold mg
  split
  · exact Int.mul_nonneg (by decide) (Int.mul_nonneg (Int.natCast_nonneg _) (Int.pow_nonneg (by decide)))
  · split
    · exact Int.mul_nonneg (by decide) (Int.mul_nonneg (Int.natCast_nonneg _) (Int.pow_nonneg (by decide)))
    · split
      · exact Int.mul_nonneg (by decide) (by omega)
      · exact Int.le_refl 0

theorem abs_nan (x : Nat) (h : x < 18446744073709551616) : Fl.isN (fAbs x) = Fl.isN x := by
  unfold Fl.isN; rw [read_abs x h, read_of x h]; exact nan_mg _ _ _
theorem abs_K (x : Nat) (h : x < 18446744073709551616) : Fl.K (fAbs x) = ((Fl.K x).natAbs : Int) := by
  unfold Fl.K; rw [read_abs x h, read_of x h, key_mg (sg x)]
  have := key_mg_pos (x % 9223372036854775808)
  cases sg x <;> simp [Fl.sgn] <;> omega
theorem neg_nan (x : Nat) (h : x < 18446744073709551616) : Fl.isN (fNeg x) = Fl.isN x := by
  unfold Fl.isN; rw [read_neg x h, read_of x h]; exact nan_mg _ _ _
theorem neg_K (x : Nat) (h : x < 18446744073709551616) : Fl.K (fNeg x) = - Fl.K x := by
  unfold Fl.K; rw [read_neg x h, read_of x h, key_mg (sg x), key_mg (!sg x)]
  cases sg x <;> simp [Fl.sgn]
theorem neg_lt (x : Nat) (h : x < 18446744073709551616) : fNeg x < 18446744073709551616 := by
  unfold fNeg Op.negFloat
  rw [show 2 ^ (FloatKind.f64.format.exponentBits + FloatKind.f64.format.fractionBits) = 9223372036854775808 by decide]
  exact Nat.xor_lt_two_pow (n := 64) h (by decide)

def lim : Nat := 9007199254740992 * Fl.H
theorem K_lim : Fl.K 4845873199050653696 = lim := by
  have : double.read 4845873199050653696 = .number false 4503599627370496 1 := by decide
  unfold Fl.K lim
  rw [this, Fl.key_num, Fl.units_pos _ _ (by decide)]
  simp [Fl.sgn]
theorem lim_lt_big : (lim : Int) < Fl.big := by
  have h := Fl.le_big (53 + Fl.HE + 1) (by have := Fl.HE_eq; omega)
  have e : lim < 2 ^ (53 + Fl.HE + 1) := by
    have : lim = 2 ^ (53 + Fl.HE) := by unfold lim Fl.H; rw [Nat.pow_add]
    rw [this]
    exact Nat.pow_lt_pow_right (by decide) (by omega)
  exact Int.lt_of_lt_of_le (by exact_mod_cast e) h

/-- A rate near enough: sign, magnitude, place. -/
theorem near_read (x : Nat) (hn : Fl.isN x = false) (h : (Fl.K x).natAbs ≤ lim) :
    ∃ s m e, double.read x = .number s m e ∧ -1074 ≤ e ∧ e ≤ 971 ∧ m < 9007199254740992 ∧ Fl.K x = Fl.sgn s * (Fl.units m e : Int) := by
  have hb := lim_lt_big
  rcases Fl.read_cases x with ⟨s, m, e, hx, h1, h2, h3, _⟩ | ⟨s, hx, _⟩ | ⟨s, t, hx⟩
  · exact ⟨s, m, e, hx, h1, h2, h3, by unfold Fl.K; rw [hx, Fl.key_num]⟩
  · exfalso
    unfold Fl.K at h
    rw [hx] at h
    cases s <;> simp [Fl.key, Fl.sgn] at h <;> omega
  · unfold Fl.isN at hn; rw [hx] at hn; cases hn

def rI (x : Nat) : Int := (if Fl.K x < 0 then -1 else 1) * (Fl.rnd (Fl.K x).natAbs : Int)
def rOk (x : Nat) : Bool := !Fl.isN x && decide ((Fl.K x).natAbs ≤ lim)

theorem rnd_zero : Fl.rnd 0 = 0 := by unfold Fl.rnd; simp

theorem fRnd_eq (x : Nat) (hn : Fl.isN x = false) (h : (Fl.K x).natAbs ≤ lim) : fRnd x = some (rI x) ∧ -9007199254740992 ≤ rI x ∧ rI x ≤ 9007199254740992 := by
  obtain ⟨s, m, e, hx, h1, h2, h3, hK⟩ := near_read x hn h
  have hV : (Fl.K x).natAbs = Fl.units m e := by rw [hK]; cases s <;> simp [Fl.sgn]
  have hc := Fl.lim_units (Fl.K x).natAbs h
  have hr : rI x = Fl.sgn s * (Fl.rnd (Fl.K x).natAbs : Int) := by
    unfold rI
    rw [hK]
    cases s
    · simp only [Fl.sgn, Bool.false_eq_true, if_false]
      rw [if_neg (by omega)]
    · simp only [Fl.sgn, if_true]
      by_cases h0 : Fl.units m e = 0
      · rw [h0]; simp [rnd_zero]
      · rw [if_pos (by omega)]
  have hb : -9007199254740992 ≤ rI x ∧ rI x ≤ 9007199254740992 := by
    rw [hr]; cases s <;> simp [Fl.sgn] <;> omega
  refine ⟨?_, hb⟩
  unfold fRnd fEven floatToIntVal
  have e1 : FloatKind.f64.decode x = .number s m e := hx
  rw [e1]
  have e2 : (Datum.number s m e).integral .even = .number s (Fl.rnd (Fl.K x).natAbs) 0 := by
    unfold Datum.integral
    simp only
    rw [Fl.cut_even_units s m e h1 (by omega), hV]
  rw [e2]
  have e3 : FloatKind.f64.decode (FloatKind.f64.encode (.number s (Fl.rnd (Fl.K x).natAbs) 0)) = double.read (double.nearest s (Fl.rnd (Fl.K x).natAbs) 0) := rfl
  rw [e3, Fl.whole_back s _ hc, ← hr]
  simp only
  rw [if_pos ⟨by show (-9223372036854775808 : Int) ≤ _; omega, by show _ ≤ (9223372036854775807 : Int); omega⟩]

theorem round_any (x : Nat) (hx : x < 18446744073709551616) (w : World) :
    Calls Try.prog 12 #[.float .f64 x] w fun e w' => e = .returned (.tuple #[.int .i64 (if rOk x then rI x else 0), .bool (rOk x)]) ∧ w = w' := by
  have eA : (FloatKind.f64.format.order (fAbs x) 4845873199050653696 == some .gt) = (!Fl.isN x && decide (lim < (Fl.K x).natAbs)) := by
    have : (double.order (fAbs x) 4845873199050653696 == some .gt) = _ := Fl.gt_iff _ _
    rw [abs_nan x hx, abs_K x hx, K_lim] at this
    show (double.order (fAbs x) 4845873199050653696 == some .gt) = _
    rw [this, show Fl.isN 4845873199050653696 = false by decide]
    simp
  rcases hN : Fl.isN x
  · by_cases h : (Fl.K x).natAbs ≤ lim
    · have ho : rOk x = true := by unfold rOk; rw [hN]; simp [h]
      rw [ho]
      refine (round_fits x (rI x) w (by rw [fNaN_eq, hN]) (by rw [eA, hN]; simp; omega) (fRnd_eq x hN h).1)
    · have ho : rOk x = false := by unfold rOk; rw [hN]; simp; omega
      rw [ho]
      exact round_out x w (by rw [eA, hN, fNaN_eq, hN]; simp; omega)
  · have ho : rOk x = false := by unfold rOk; rw [hN]; rfl
    rw [ho]
    exact round_out x w (by rw [fNaN_eq, hN]; rfl)

end Go.Proofs.Ytljehdiplfpjoaa
