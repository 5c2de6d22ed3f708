import Derived.KernelRfl
set_option linter.unusedSimpArgs false
set_option linter.unusedVariables false
namespace Go.Proofs.Ytbdnhoddkdiogaa
/-! The ones of a number below 2^24, as math/bits counts them. Plain Lean. -/
namespace Ones
def chk (f : Nat → Bool) : Nat → Bool
  | 0 => true
  | n + 1 => chk f n && f n
theorem chk_at {f : Nat → Bool} : ∀ {n : Nat}, chk f n = true → ∀ i, i < n → f i = true
  | n + 1, h, i, hi => by
    rw [chk, Bool.and_eq_true] at h
    by_cases e : i = n
    · subst e; exact h.2
    · exact chk_at h.1 i (by omega)
theorem and_cut (k u v m : Nat) (hu : u < 2 ^ k) : (u + 2 ^ k * v) &&& m = (u &&& (m % 2 ^ k)) + 2 ^ k * (v &&& (m / 2 ^ k)) := by
  have h1 : ((u + 2 ^ k * v) &&& m) % 2 ^ k = u &&& (m % 2 ^ k) := by
    rw [Nat.and_mod_two_pow, Nat.add_mul_mod_self_left, Nat.mod_eq_of_lt hu]
  have h2 : ((u + 2 ^ k * v) &&& m) / 2 ^ k = v &&& (m / 2 ^ k) := by
    rw [Nat.and_div_two_pow, Nat.add_mul_div_left _ _ (Nat.two_pow_pos k), Nat.div_eq_of_lt hu, Nat.zero_add]
  have := Nat.mod_add_div ((u + 2 ^ k * v) &&& m) (2 ^ k)
  rw [h1, h2] at this
  exact this.symm
def s1 (m x : Nat) : Nat := ((x / 2) &&& m) + (x &&& m)
def s2 (m x : Nat) : Nat := ((x / 4) &&& m) + (x &&& m)
theorem low1 : ∀ a e, a < 256 → e < 2 → ((a / 2 + 128 * e) &&& 85) = ((a / 2) &&& 85) := by
  have h : chk (fun a => chk (fun e => Nat.beq ((a / 2 + 128 * e) &&& 85) ((a / 2) &&& 85)) 2) 256 = true := by decide +kernel
  intro a e ha he
  exact Nat.eq_of_beq_eq_true (chk_at (chk_at h a ha) e he)
theorem low2 : ∀ a e, a < 256 → e < 4 → ((a / 4 + 64 * e) &&& 51) = ((a / 4) &&& 51) := by
  have h : chk (fun a => chk (fun e => Nat.beq ((a / 4 + 64 * e) &&& 51) ((a / 4) &&& 51)) 4) 256 = true := by decide +kernel
  intro a e ha he
  exact Nat.eq_of_beq_eq_true (chk_at (chk_at h a ha) e he)
theorem s1_cut (m a y : Nat) (ha : a < 256) (hm : m % 256 = 85) : s1 m (a + 256 * y) = s1 85 a + 256 * s1 (m / 256) y := by
  have e : (a + 256 * y) / 2 = (a / 2 + 128 * (y % 2)) + 2 ^ 8 * (y / 2) := by omega
  have h1 := and_cut 8 (a / 2 + 128 * (y % 2)) (y / 2) m (by omega)
  have h2 := and_cut 8 a y m (by omega)
  unfold s1
  rw [e, h1, show a + 256 * y = a + 2 ^ 8 * y by omega, h2, show m % 2 ^ 8 = 85 from hm, low1 a _ ha (by omega), show m / 2 ^ 8 = m / 256 from rfl]
  omega
theorem s2_cut (m a y : Nat) (ha : a < 256) (hm : m % 256 = 51) : s2 m (a + 256 * y) = s2 51 a + 256 * s2 (m / 256) y := by
  have e : (a + 256 * y) / 4 = (a / 4 + 64 * (y % 4)) + 2 ^ 8 * (y / 4) := by omega
  have h1 := and_cut 8 (a / 4 + 64 * (y % 4)) (y / 4) m (by omega)
  have h2 := and_cut 8 a y m (by omega)
  unfold s2
  rw [e, h1, show a + 256 * y = a + 2 ^ 8 * y by omega, h2, show m % 2 ^ 8 = 51 from hm, low2 a _ ha (by omega), show m / 2 ^ 8 = m / 256 from rfl]
  omega
/-- The ones, one by one. -/
def ones : Nat → Nat → Nat
  | 0, _ => 0
  | f + 1, x => x % 2 + ones f (x / 2)
def q (a : Nat) : Nat := s2 51 (s1 85 a)
theorem q_facts : ∀ a, a < 256 → s1 85 a < 256 ∧ q a / 16 ≤ 4 ∧ q a % 16 ≤ 4 ∧ q a / 16 + q a % 16 = ones 8 a := by
  have h : chk (fun a => Nat.ble (s1 85 a) 255 && Nat.ble (q a / 16) 4 && Nat.ble (q a % 16) 4 && Nat.beq (q a / 16 + q a % 16) (ones 8 a)) 256 = true := by decide +kernel
  intro a ha
  have := chk_at h a ha
  simp only [Bool.and_eq_true] at this
  obtain ⟨⟨⟨h1, h2⟩, h3⟩, h4⟩ := this
  have h1 := Nat.le_of_ble_eq_true h1
  exact ⟨by omega, Nat.le_of_ble_eq_true h2, Nat.le_of_ble_eq_true h3, Nat.eq_of_beq_eq_true h4⟩
theorem small_and (u m : Nat) (hu : u < 16) : u &&& 15 = u := by
  have := Nat.and_two_pow_sub_one_eq_mod u 4
  rw [show 2 ^ 4 - 1 = 15 from rfl, Nat.mod_eq_of_lt (by omega)] at this
  exact this
def M5 : Nat := 6148914691236517205
def M3 : Nat := 3689348814741910323
def MF : Nat := 1085102592571150095
/-- What math/bits does, up to the sums of bytes. -/
def bytesOf (n : Nat) : Nat := ((s2 M3 (s1 M5 n) / 16) + s2 M3 (s1 M5 n)) &&& MF
theorem s2_zero (m : Nat) : s2 m 0 = 0 := by simp [s2]
theorem s1_zero (m : Nat) : s1 m 0 = 0 := by simp [s1]
theorem pairs_eq (a b c : Nat) (ha : a < 256) (hb : b < 256) (hc : c < 256) : s2 M3 (s1 M5 (a + 256 * (b + 256 * c))) = q a + 256 * (q b + 256 * q c) := by
  have fa := (q_facts a ha).1
  have fb := (q_facts b hb).1
  have fc := (q_facts c hc).1
  have e1 : s1 M5 (a + 256 * (b + 256 * c)) = s1 85 a + 256 * (s1 85 b + 256 * s1 85 c) := by
    rw [s1_cut M5 a _ ha (by decide), s1_cut (M5 / 256) b c hb (by decide)]
    have : s1 (M5 / 256 / 256) c = s1 85 c := by
      have := s1_cut (M5 / 256 / 256) c 0 hc (by decide)
      rw [s1_zero] at this
      simpa using this
    rw [this]
  rw [e1, s2_cut M3 _ _ fa (by decide), s2_cut (M3 / 256) _ _ fb (by decide)]
  have : s2 (M3 / 256 / 256) (s1 85 c) = s2 51 (s1 85 c) := by
    have := s2_cut (M3 / 256 / 256) (s1 85 c) 0 fc (by decide)
    rw [s2_zero] at this
    simpa using this
  rw [this]; rfl
theorem bytes_eq (a b c : Nat) (ha : a < 256) (hb : b < 256) (hc : c < 256) : bytesOf (a + 256 * (b + 256 * c)) = ones 8 a + 256 * (ones 8 b + 256 * ones 8 c) := by
  obtain ⟨-, a1, a2, a3⟩ := q_facts a ha
  obtain ⟨-, b1, b2, b3⟩ := q_facts b hb
  obtain ⟨-, c1, c2, c3⟩ := q_facts c hc
  unfold bytesOf
  rw [pairs_eq a b c ha hb hc, ← a3, ← b3, ← c3]
  generalize q a = A at *
  generalize q b = B at *
  generalize q c = C at *
  have e : (A + 256 * (B + 256 * C)) / 16 + (A + 256 * (B + 256 * C)) = (A / 16 + A % 16) + 2 ^ 4 * ((A / 16 + B % 16) + 2 ^ 4 * ((B / 16 + B % 16) + 2 ^ 4 * ((B / 16 + C % 16) + 2 ^ 4 * ((C / 16 + C % 16) + 2 ^ 4 * (C / 16 + 2 ^ 4 * 0))))) := by omega
  rw [e, and_cut 4 _ _ _ (by omega), and_cut 4 _ _ _ (by omega), and_cut 4 _ _ _ (by omega), and_cut 4 _ _ _ (by omega), and_cut 4 _ _ _ (by omega), and_cut 4 _ _ _ (by omega)]
  rw [show MF % 2 ^ 4 = 15 from rfl, show MF / 2 ^ 4 % 2 ^ 4 = 0 from rfl, show MF / 2 ^ 4 / 2 ^ 4 % 2 ^ 4 = 15 from rfl, show MF / 2 ^ 4 / 2 ^ 4 / 2 ^ 4 % 2 ^ 4 = 0 from rfl, show MF / 2 ^ 4 / 2 ^ 4 / 2 ^ 4 / 2 ^ 4 % 2 ^ 4 = 15 from rfl, show MF / 2 ^ 4 / 2 ^ 4 / 2 ^ 4 / 2 ^ 4 / 2 ^ 4 % 2 ^ 4 = 0 from rfl]
  rw [small_and _ 0 (by omega), small_and _ 0 (by omega), small_and _ 0 (by omega)]
  simp only [Nat.and_zero, Nat.zero_and]
  omega
theorem ones_le : ∀ f x, ones f x ≤ f
  | 0, _ => Nat.le_refl _
  | f + 1, x => by have := ones_le f (x / 2); unfold ones; omega
theorem ones_add : ∀ (f g x : Nat), ones (f + g) x = ones f x + ones g (x / 2 ^ f)
  | 0, g, x => by simp [ones]
  | f + 1, g, x => by
    rw [show f + 1 + g = (f + g) + 1 by omega]
    show x % 2 + ones (f + g) (x / 2) = x % 2 + ones f (x / 2) + ones g (x / 2 ^ (f + 1))
    rw [ones_add f g (x / 2), Nat.div_div_eq_div_mul, show 2 * 2 ^ f = 2 ^ (f + 1) by rw [Nat.pow_succ, Nat.mul_comm], Nat.add_assoc]
theorem ones_mod : ∀ (f x : Nat), ones f (x % 2 ^ f) = ones f x
  | 0, x => rfl
  | f + 1, x => by
    show x % 2 ^ (f + 1) % 2 + ones f (x % 2 ^ (f + 1) / 2) = x % 2 + ones f (x / 2)
    have e1 : x % 2 ^ (f + 1) % 2 = x % 2 := Nat.mod_mod_of_dvd x ⟨2 ^ f, by rw [Nat.pow_succ, Nat.mul_comm]⟩
    have e2 : x % 2 ^ (f + 1) / 2 = (x / 2) % 2 ^ f := by
      rw [Nat.pow_succ, Nat.mul_comm, Nat.mod_mul_right_div_self]
    rw [e1, e2, ones_mod f (x / 2)]
/-- All of it. -/
def count (n : Nat) : Nat :=
  let x := bytesOf n
  let x := x + x / 256
  let x := x + x / 65536
  let x := x + x / 4294967296
  x &&& 127
theorem count_eq (n : Nat) (h : n < 16777216) : count n = ones 24 n := by
  obtain ⟨a, ha⟩ : ∃ a, n % 256 = a := ⟨_, rfl⟩
  obtain ⟨b, hb⟩ : ∃ b, n / 256 % 256 = b := ⟨_, rfl⟩
  obtain ⟨c, hc⟩ : ∃ c, n / 65536 = c := ⟨_, rfl⟩
  have en : n = a + 256 * (b + 256 * c) := by omega
  have hx := bytes_eq a b c (by omega) (by omega) (by omega)
  rw [← en] at hx
  have l1 := ones_le 8 a
  have l2 := ones_le 8 b
  have l3 := ones_le 8 c
  have ho : ones 24 n = ones 8 a + ones 8 b + ones 8 c := by
    rw [show 24 = 8 + (8 + 8) from rfl, ones_add, ones_add, ← ha, ← hb, ← hc, show (256 : Nat) = 2 ^ 8 from rfl, ones_mod, ones_mod, Nat.div_div_eq_div_mul, show (2 : Nat) ^ 8 * 2 ^ 8 = 65536 from rfl, Nat.add_assoc]
  rw [ho]
  show ((bytesOf n + bytesOf n / 256 + (bytesOf n + bytesOf n / 256) / 65536) + (bytesOf n + bytesOf n / 256 + (bytesOf n + bytesOf n / 256) / 65536) / 4294967296) &&& (2 ^ 7 - 1) = _
  rw [hx, Nat.and_two_pow_sub_one_eq_mod]
  clear hx ho
  generalize ones 8 a = A at *
  generalize ones 8 b = B at *
  generalize ones 8 c = C at *
  have d1 : (A + 256 * (B + 256 * C)) / 256 = B + 256 * C := by omega
  rw [d1]
  have d2 : (A + 256 * (B + 256 * C) + (B + 256 * C)) / 65536 = C := by omega
  rw [d2]
  have d3 : (A + 256 * (B + 256 * C) + (B + 256 * C) + C) / 4294967296 = 0 := by omega
  rw [d3]
  omega
end Ones
end Go.Proofs.Ytbdnhoddkdiogaa
