/- Plain law: how 64-bit floats stand to each other, as whole numbers. No program in sight. -/
import Derived.Laws.FloatArith
namespace Go.Proofs.Ytljehdiplfpjoaa.Fl
open Ieee

theorem binade_eq : double.binade = 4503599627370496 := by decide
theorem infRung_eq : double.infRung = 9218868437227405312 := by decide
theorem signWeight_eq : double.signWeight = 9223372036854775808 := by decide
theorem leastPlace_eq : double.leastPlace = -1074 := by decide

def sgn (s : Bool) : Int := if s then -1 else 1
theorem signed_eq (s : Bool) (m k : Nat) : signed s m k = sgn s * ((m : Int) * 2 ^ k) := by
  unfold signed sgn
  rw [Nat.shiftLeft_eq]
  cases s <;> simp

theorem read_cases (x : Nat) :
    (∃ s m e, double.read x = .number s m e ∧ -1074 ≤ e ∧ e ≤ 971 ∧ m < 9007199254740992 ∧ s = (x / 9223372036854775808 % 2 == 1)) ∨
    (∃ s, double.read x = .infinity s ∧ s = (x / 9223372036854775808 % 2 == 1)) ∨ (∃ s t, double.read x = .nan s t) := by
  unfold Format.read
  simp only [binade_eq, infRung_eq, signWeight_eq, leastPlace_eq]
  split
  · exact .inl ⟨_, _, _, rfl, by omega, by omega, by omega, rfl⟩
  · split
    · refine .inl ⟨_, _, _, rfl, by omega, ?_, by omega, rfl⟩
      omega
    · split
      · exact .inr (.inl ⟨_, rfl, rfl⟩)
      · exact .inr (.inr ⟨_, _, rfl⟩)

theorem pow_mono (a b : Nat) (h : a ≤ b) : (2 : Int) ^ a ≤ 2 ^ b := by
  exact_mod_cast Nat.pow_le_pow_right (by decide : 0 < 2) h
def bigE : Nat := 2100
def big : Int := 2 ^ bigE
theorem big_pos : 0 < big := by unfold big; exact Int.pow_pos (by decide)
theorem le_big (a : Nat) (h : a ≤ 2100) : (2 : Int) ^ a ≤ big := pow_mono a bigE h
def key : Datum → Int
  | .number s m e => sgn s * ((m : Int) * 2 ^ (e + 1074).toNat)
  | .infinity s => sgn s * big
  | .nan .. => 0

theorem compare_scale (a b c : Int) (hc : 0 < c) : compare (a * c) (b * c) = compare a b := by
  show compareOfLessAndEq _ _ = compareOfLessAndEq _ _
  unfold compareOfLessAndEq
  have h1 : (a * c < b * c) ↔ a < b := Int.mul_lt_mul_right hc
  have h2 : (a * c = b * c) ↔ a = b := ⟨fun h => Int.eq_of_mul_eq_mul_right (by omega) h, fun h => by rw [h]⟩
  simp only [h1, h2]

theorem order_num (s t : Bool) (m n : Nat) (i j : Int) (hi : -1074 ≤ i) (hj : -1074 ≤ j) :
    Datum.order (.number s m i) (.number t n j) = some (compare (key (.number s m i)) (key (.number t n j))) := by
  have step : ∀ (s : Bool) (m : Nat) (i b : Int), -1074 ≤ b → b ≤ i → key (.number s m i) = signed s m (i - b).toNat * 2 ^ (b + 1074).toNat := by
    intro s m i b h1 h2
    have e : (i + 1074).toNat = (i - b).toNat + (b + 1074).toNat := by omega
    simp only [key, signed_eq]
    rw [e, Int.pow_add, Int.mul_assoc, Int.mul_assoc]
  simp only [Datum.order]
  rw [step s m i (min i j) (by omega) (by omega), step t n j (min i j) (by omega) (by omega), compare_scale _ _ _ (Int.pow_pos (by decide))]

theorem key_lt (s : Bool) (m : Nat) (e : Int) (h1 : e ≤ 971) (hm : m < 9007199254740992) : -big < key (.number s m e) ∧ key (.number s m e) < big := by
  have hp : (2 : Int) ^ (e + 1074).toNat ≤ 2 ^ 2045 := pow_mono _ 2045 (by omega)
  have h0 : (0 : Int) < 2 ^ (e + 1074).toNat := Int.pow_pos (by decide)
  have hb : (m : Int) * 2 ^ (e + 1074).toNat < big := by
    have a1 : (m : Int) * 2 ^ (e + 1074).toNat ≤ (m : Int) * 2 ^ 2045 := Int.mul_le_mul_of_nonneg_left hp (by omega)
    have a2 : (m : Int) * 2 ^ 2045 < 2 ^ 53 * 2 ^ 2045 := Int.mul_lt_mul_of_pos_right (by omega) (Int.pow_pos (by decide))
    have a3 : (2 : Int) ^ 53 * 2 ^ 2045 ≤ big := by
      rw [← Int.pow_add]
      exact le_big _ (by decide)
    generalize (m : Int) * 2 ^ (e + 1074).toNat = q at *
    generalize (m : Int) * 2 ^ 2045 = q2 at *
    generalize (2 : Int) ^ 53 * 2 ^ 2045 = q3 at *
    omega
  have hn : 0 ≤ (m : Int) * 2 ^ (e + 1074).toNat := Int.mul_nonneg (by omega) (by omega)
  have := big_pos
  generalize hq : (m : Int) * 2 ^ (e + 1074).toNat = q at *
  cases s <;> simp only [key, sgn, hq] <;> constructor <;> simp <;> omega

def isN (x : Nat) : Bool := (double.read x).isNaN
def K (x : Nat) : Int := key (double.read x)

theorem cmpI (a b : Int) : compare a b = if a < b then .lt else if a = b then .eq else .gt := rfl

theorem order_eq (x y : Nat) : double.order x y = if isN x || isN y then none else some (compare (K x) (K y)) := by
  unfold Format.order isN K
  have hb := big_pos
  rcases read_cases x with ⟨s, m, e, hx, h1, h2, h3, _⟩ | ⟨s, hx, _⟩ | ⟨s, t, hx⟩ <;> rcases read_cases y with ⟨s', m', e', hy, g1, g2, g3, _⟩ | ⟨s', hy, _⟩ | ⟨s', t', hy⟩ <;> rw [hx, hy]
  · rw [order_num _ _ _ _ _ _ h1 g1]; simp [Datum.isNaN]
  · have := key_lt s m e h2 h3
    generalize hk : key (.number s m e) = k at *
    cases s'
    · simp only [Datum.order, Datum.isNaN, cmpI]; simp only [key, sgn]; simp; split <;> (try split) <;> first | rfl | omega
    · simp only [Datum.order, Datum.isNaN, cmpI]; simp only [key, sgn]; simp; split <;> (try split) <;> first | rfl | omega
  · simp [Datum.order, Datum.isNaN]
  · have := key_lt s' m' e' g2 g3
    generalize hk : key (.number s' m' e') = k at *
    cases s
    · simp only [Datum.order, Datum.isNaN, cmpI]; simp only [key, sgn]; simp; split <;> (try split) <;> first | rfl | omega
    · simp only [Datum.order, Datum.isNaN, cmpI]; simp only [key, sgn]; simp; split <;> (try split) <;> first | rfl | omega
  · cases s <;> cases s' <;> simp only [Datum.order, Datum.isNaN, key, sgn, cmpI] <;> generalize big = bg at * <;> simp
    · rw [if_neg (by omega), if_neg (by omega)]; decide
    · rw [if_pos (by omega)]; decide
  · simp [Datum.order, Datum.isNaN]
  · simp [Datum.order, Datum.isNaN]
  · simp [Datum.order, Datum.isNaN]
  · simp [Datum.order, Datum.isNaN]

theorem nan_iff (x : Nat) : (double.order x x != some .eq) = isN x := by
  rw [order_eq]
  cases isN x <;> simp
theorem lt_iff (x y : Nat) : (double.order x y == some .lt) = (!isN x && !isN y && decide (K x < K y)) := by
  rw [order_eq]
  generalize K x = a; generalize K y = b
  cases isN x <;> cases isN y <;> simp [cmpI]
  by_cases h : a < b
  · simp [h]
  · by_cases g : a = b <;> simp [h, g]
theorem gt_iff (x y : Nat) : (double.order x y == some .gt) = (!isN x && !isN y && decide (K y < K x)) := by
  rw [order_eq]
  generalize K x = a; generalize K y = b
  cases isN x <;> cases isN y <;> simp [cmpI]
  by_cases h : a < b
  · simp [h]; omega
  · by_cases g : a = b
    · simp [g]
    · have : b < a := by omega
      simp [h, g, this]
theorem eq_iff (x y : Nat) : (double.order x y == some .eq) = (!isN x && !isN y && decide (K x = K y)) := by
  rw [order_eq]
  generalize K x = a; generalize K y = b
  cases isN x <;> cases isN y <;> simp [cmpI]
  by_cases h : a < b
  · simp [h]; omega
  · by_cases g : a = b <;> simp [h, g]

end Go.Proofs.Ytljehdiplfpjoaa.Fl
