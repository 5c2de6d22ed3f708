/- Plain law: a quotient of floats rises with what is divided and falls with what divides. No program in sight. -/
import Derived.Test.YtljehdiplfpjoaaScS
namespace Go.Proofs.Ytljehdiplfpjoaa.Fl
open Ieee

/-- N / g to the nearest whole number, the even one between two. -/
def rne (N g : Nat) : Nat := N / g + (if g < 2 * (N % g) ∨ (g = 2 * (N % g) ∧ N / g % 2 = 1) then 1 else 0)

theorem rne_scale (N g c : Nat) (hc : 0 < c) : rne (N * c) (g * c) = rne N g := by
  unfold rne
  rw [Nat.mul_div_mul_right _ _ hc, Nat.mul_mod_mul_right, ← cut_aux _ _ _ _ hc]

theorem rne_mono (N1 g1 N2 g2 : Nat) (h1 : 0 < g1) (h2 : 0 < g2) (h : N1 * g2 ≤ N2 * g1) : rne N1 g1 ≤ rne N2 g2 := by
  have d1 := Nat.div_add_mod N1 g1
  have d2 := Nat.div_add_mod N2 g2
  have m1 := Nat.mod_lt N1 h1
  have m2 := Nat.mod_lt N2 h2
  have ht : N1 / g1 ≤ N2 / g2 := by
    rw [Nat.le_div_iff_mul_le h2]
    have a : N1 / g1 * g2 * g1 ≤ N2 * g1 := by
      refine Nat.le_trans ?_ h
      rw [Nat.mul_right_comm]
      exact Nat.mul_le_mul_right _ (Nat.div_mul_le_self _ _)
    exact Nat.le_of_mul_le_mul_right a h1
  unfold rne
  by_cases hlt : N1 / g1 < N2 / g2
  · split <;> split <;> omega
  · have heq : N1 / g1 = N2 / g2 := by omega
    have hr : N1 % g1 * g2 ≤ N2 % g2 * g1 := by
      have a : (g1 * (N1 / g1) + N1 % g1) * g2 ≤ (g2 * (N2 / g2) + N2 % g2) * g1 := by rw [d1, d2]; exact h
      rw [heq, Nat.add_mul, Nat.add_mul] at a
      have b : g1 * (N2 / g2) * g2 = g2 * (N2 / g2) * g1 := by rw [Nat.mul_right_comm, Nat.mul_comm g1 g2, Nat.mul_right_comm]
      omega
    rw [heq]
    generalize N2 / g2 = t at *
    generalize N1 % g1 = r1 at *
    generalize N2 % g2 = r2 at *
    by_cases c1 : g1 < 2 * r1 ∨ (g1 = 2 * r1 ∧ t % 2 = 1)
    · have c2 : g2 < 2 * r2 ∨ (g2 = 2 * r2 ∧ t % 2 = 1) := by
        have e1 : 2 * r1 * g2 ≤ 2 * r2 * g1 := by rw [Nat.mul_assoc, Nat.mul_assoc]; omega
        rcases c1 with c | ⟨c, o⟩
        · left
          have : g1 * g2 < 2 * r1 * g2 := Nat.mul_lt_mul_of_pos_right c h2
          have : g2 * g1 < 2 * r2 * g1 := by rw [Nat.mul_comm g2 g1]; omega
          exact Nat.lt_of_mul_lt_mul_right this
        · have : g2 * g1 ≤ 2 * r2 * g1 := by rw [Nat.mul_comm g2 g1]; rw [← c] at e1; exact e1
          have := Nat.le_of_mul_le_mul_right this h1
          omega
      rw [if_pos c1, if_pos c2]; omega
    · rw [if_neg c1]; omega

/-- Which rung a magnitude N / G (in units) comes to. -/
def lift (N G : Nat) : Nat := (N / G).log2 - 52
def rungQ (N G : Nat) : Nat := min (lift N G * 4503599627370496 + rne N (G * 2 ^ lift N G)) 9218868437227405312

theorem min_mono (a b c : Nat) (h : a ≤ b) : min a c ≤ min b c := by omega

theorem log2_mono {a b : Nat} (h : a ≤ b) : a.log2 ≤ b.log2 := by
  by_cases ha : a = 0
  · rw [ha]; simp
  · rw [Nat.le_log2 (by omega)]
    exact Nat.le_trans (Nat.log2_self_le ha) h

theorem div_mono (N1 G1 N2 G2 : Nat) (h1 : 0 < G1) (h2 : 0 < G2) (h : N1 * G2 ≤ N2 * G1) : N1 / G1 ≤ N2 / G2 := by
  rw [Nat.le_div_iff_mul_le h2]
  have a : N1 / G1 * G2 * G1 ≤ N2 * G1 := by
    refine Nat.le_trans ?_ h
    rw [Nat.mul_right_comm]
    exact Nat.mul_le_mul_right _ (Nat.div_mul_le_self _ _)
  exact Nat.le_of_mul_le_mul_right a h1

theorem rne_le (N g k : Nat) (hg : 0 < g) (h : N < k * g) : rne N g ≤ k := by
  have : N / g < k := by rw [Nat.div_lt_iff_lt_mul hg]; exact h
  unfold rne; split <;> omega
theorem le_rne (N g k : Nat) (hg : 0 < g) (h : k * g ≤ N) : k ≤ rne N g := by
  have : k ≤ N / g := by rw [Nat.le_div_iff_mul_le hg]; exact h
  unfold rne; omega

theorem rungQ_mono (N1 G1 N2 G2 : Nat) (h1 : 0 < G1) (h2 : 0 < G2) (h : N1 * G2 ≤ N2 * G1) : rungQ N1 G1 ≤ rungQ N2 G2 := by
  have hl : lift N1 G1 ≤ lift N2 G2 := by
    unfold lift
    have := log2_mono (div_mono N1 G1 N2 G2 h1 h2 h)
    omega
  have p1 := Nat.two_pow_pos (lift N1 G1)
  have p2 := Nat.two_pow_pos (lift N2 G2)
  have q1 : 0 < G1 * 2 ^ lift N1 G1 := Nat.mul_pos h1 p1
  have q2 : 0 < G2 * 2 ^ lift N2 G2 := Nat.mul_pos h2 p2
  unfold rungQ
  refine min_mono _ _ _ ?_
  by_cases he : lift N1 G1 = lift N2 G2
  · have hr : rne N1 (G1 * 2 ^ lift N1 G1) ≤ rne N2 (G2 * 2 ^ lift N2 G2) := by
      refine rne_mono _ _ _ _ q1 q2 ?_
      rw [he, ← Nat.mul_assoc, ← Nat.mul_assoc]
      exact Nat.mul_le_mul_right _ h
    rw [he] at hr ⊢
    exact Nat.add_le_add_left hr _
  · have hlt : lift N1 G1 < lift N2 G2 := by omega
    have b1 : rne N1 (G1 * 2 ^ lift N1 G1) ≤ 2 ^ 53 := by
      refine rne_le _ _ _ q1 ?_
      have a : N1 / G1 < 2 ^ ((N1 / G1).log2 + 1) := Nat.lt_log2_self
      have b : 2 ^ ((N1 / G1).log2 + 1) ≤ 2 ^ 53 * 2 ^ lift N1 G1 := by
        rw [← Nat.pow_add]
        exact Nat.pow_le_pow_right (by decide) (by unfold lift; omega)
      have c : N1 / G1 < 2 ^ 53 * 2 ^ lift N1 G1 := Nat.lt_of_lt_of_le a b
      rw [Nat.div_lt_iff_lt_mul h1] at c
      rw [Nat.mul_comm G1, ← Nat.mul_assoc]
      exact c
    have b2 : 2 ^ 52 ≤ rne N2 (G2 * 2 ^ lift N2 G2) := by
      refine le_rne _ _ _ q2 ?_
      have hn : N2 / G2 ≠ 0 := by
        intro h0
        have : lift N2 G2 = 0 := by unfold lift; rw [h0]; simp
        omega
      have a := Nat.log2_self_le hn
      have b : 2 ^ 52 * 2 ^ lift N2 G2 = 2 ^ (N2 / G2).log2 := by
        rw [← Nat.pow_add]; congr 1
        have : 0 < lift N2 G2 := by omega
        unfold lift at this ⊢; omega
      rw [← b, Nat.le_div_iff_mul_le h2] at a
      rw [Nat.mul_comm G2, ← Nat.mul_assoc]
      exact a
    rw [show (2 : Nat) ^ 53 = 9007199254740992 by decide] at b1
    rw [show (2 : Nat) ^ 52 = 4503599627370496 by decide] at b2
    omega

theorem rungQ_eq (N1 G1 N2 G2 : Nat) (h1 : 0 < G1) (h2 : 0 < G2) (h : N1 * G2 = N2 * G1) : rungQ N1 G1 = rungQ N2 G2 :=
  Nat.le_antisymm (rungQ_mono _ _ _ _ h1 h2 (by omega)) (rungQ_mono _ _ _ _ h2 h1 (by omega))

theorem log2_mul (m k : Nat) (h : m ≠ 0) : (m * 2 ^ k).log2 = m.log2 + k := by
  have hp := Nat.two_pow_pos k
  have h0 : m * 2 ^ k ≠ 0 := Nat.mul_ne_zero h (by omega)
  rw [Nat.log2_eq_iff h0]
  have a := Nat.log2_self_le h
  have b : m < 2 ^ (m.log2 + 1) := Nat.lt_log2_self
  constructor
  · rw [Nat.pow_add]; exact Nat.mul_le_mul_right _ a
  · rw [show m.log2 + k + 1 = m.log2 + 1 + k by omega, Nat.pow_add]; exact Nat.mul_lt_mul_of_pos_right b hp

/-- What the nearest float's rung is. -/
theorem nearest_rung (s : Bool) (mag : Nat) (p : Int) (hp : -1074 ≤ p) : double.nearest s mag p = double.word s (rungQ (mag * 2 ^ (p + 1074).toNat) 1) := by
  by_cases h0 : mag = 0
  · subst h0
    have hl : lift (0 * 2 ^ (p + 1074).toNat) 1 = 0 := by unfold lift; simp
    have hr : rne (0 * 2 ^ (p + 1074).toNat) (1 * 2 ^ 0) = 0 := by unfold rne; simp
    unfold Format.nearest
    rw [if_pos rfl]
    unfold rungQ
    rw [hl, hr, Nat.zero_mul, Nat.zero_add, Nat.zero_min]
  · unfold Format.nearest
    rw [if_neg h0]
    have hfr : ((double.fractionBits : Nat) : Int) = 52 := rfl
    simp only [leastPlace_eq, binade_eq, infRung_eq, hfr]
    have hl : lift (mag * 2 ^ (p + 1074).toNat) 1 = (max (p + (mag.log2 : Int) - 52) (-1074) + 1074).toNat := by
      unfold lift
      rw [Nat.div_one, log2_mul _ _ h0]
      omega
    unfold rungQ
    rw [hl]
    generalize hlast : max (p + (mag.log2 : Int) - 52) (-1074) = last
    have e1 : (last - -1074).toNat = (last + 1074).toNat := by omega
    have hcut : Toward.even.cut s (mag <<< (p - last).toNat) (last - p).toNat = rne (mag * 2 ^ (p + 1074).toNat) (1 * 2 ^ (last + 1074).toNat) := by
      rw [cut_even]
      show rne (mag <<< (p - last).toNat) (2 ^ (last - p).toNat) = _
      rw [Nat.shiftLeft_eq, Nat.one_mul]
      have q := Nat.two_pow_pos
      by_cases hc : last ≤ p
      · rw [show (last - p).toNat = 0 by omega, Nat.pow_zero]
        have e2 : (p + 1074).toNat = (p - last).toNat + (last + 1074).toNat := by omega
        rw [e2, Nat.pow_add, ← Nat.mul_assoc]
        have := rne_scale (mag * 2 ^ (p - last).toNat) 1 _ (q (last + 1074).toNat)
        rw [Nat.one_mul] at this
        exact this.symm
      · rw [show (p - last).toNat = 0 by omega, Nat.pow_zero, Nat.mul_one]
        have e2 : (last + 1074).toNat = (last - p).toNat + (p + 1074).toNat := by omega
        rw [e2, Nat.pow_add, rne_scale _ _ _ (q _)]
    rw [e1, hcut]

/-- The half digit that tells whether anything is left stands for what is left. -/
theorem sticky (D n k : Nat) (hn : 0 < n) (hf : 2 ^ 53 ≤ D / n) :
    rungQ ((2 * (D / n) + (D % n != 0).toNat) * 2 ^ k) 1 = rungQ (2 * D * 2 ^ k) n := by
  have hd := Nat.div_add_mod D n
  have hm := Nat.mod_lt D hn
  generalize hfv : D / n = f at *
  generalize D % n = r at *
  obtain ⟨S, hS⟩ : ∃ S, S = 2 * f + (r != 0).toNat := ⟨_, rfl⟩
  rw [← hS]
  have hS1 : 2 * f ≤ S ∧ S ≤ 2 * f + 1 := by rw [hS]; cases (r != 0) <;> simp
  -- an even number stands to S as to 2 D / n
  have cmp : ∀ E, (2 * E ≤ S ↔ 2 * E * n ≤ 2 * D) := by
    intro E
    constructor
    · intro h
      have : E ≤ f := by omega
      have : E * n ≤ f * n := Nat.mul_le_mul_right _ this
      rw [Nat.mul_comm f n] at this
      rw [Nat.mul_assoc]; omega
    · intro h
      have h' : E * n ≤ D := by rw [Nat.mul_assoc] at h; omega
      have : E ≤ D / n := by rw [Nat.le_div_iff_mul_le hn]; exact h'
      rw [hfv] at this
      omega
  have cmq : ∀ E, (S = 2 * E ↔ 2 * D = 2 * E * n) := by
    intro E
    constructor
    · intro h
      have hr : r = 0 := by
        by_cases h0 : r = 0
        · exact h0
        · rw [show (r != 0) = true by simpa using h0] at hS; simp at hS; omega
      subst hr
      have : f = E := by rw [hS] at h; simp at h; omega
      subst this
      rw [Nat.mul_assoc, Nat.mul_comm f n]; omega
    · intro h
      have hE : D = E * n := by rw [Nat.mul_assoc] at h; omega
      have h1 : D / n = E := by rw [hE]; exact Nat.mul_div_cancel _ hn
      have h2 : r = 0 := by
        rw [hfv] at h1; subst h1
        rw [Nat.mul_comm f n] at hE; omega
      rw [hS, h2]; rw [hfv] at h1; rw [h1]; rfl
  have hS54 : 2 ^ 54 ≤ S := by
    have : (2 : Nat) ^ 54 = 2 * 2 ^ 53 := by decide
    omega
  have hS0 : S ≠ 0 := by have := Nat.two_pow_pos 54; omega
  have hL0 : 54 ≤ S.log2 := by rw [Nat.le_log2 hS0]; exact hS54
  obtain ⟨L, hL⟩ : ∃ L, S.log2 = L + 1 := ⟨S.log2 - 1, by omega⟩
  have hL54 : 53 ≤ L := by omega
  have hlo : 2 ^ (L + 1) ≤ S := by rw [← hL]; exact Nat.log2_self_le hS0
  have hhi : S < 2 ^ (L + 2) := by have := Nat.lt_log2_self (n := S); rw [hL] at this; exact this
  have tlo : 2 ^ (L + 1) * n ≤ 2 * D := by
    have := (cmp (2 ^ L)).1 (by rw [Nat.pow_succ] at hlo; omega)
    rw [Nat.pow_succ, Nat.mul_comm (2 ^ L)]; exact this
  have thi : 2 * D < 2 ^ (L + 2) * n := by
    have : ¬ (2 * 2 ^ (L + 1) * n ≤ 2 * D) := fun h => by
      have := (cmp (2 ^ (L + 1))).2 h
      rw [Nat.pow_succ 2 (L + 1)] at hhi; omega
    rw [Nat.pow_succ 2 (L + 1), Nat.mul_comm (2 ^ (L + 1))]; omega
  have hk := Nat.two_pow_pos k
  have l1 : lift (S * 2 ^ k) 1 = L + 1 + k - 52 := by unfold lift; rw [Nat.div_one, log2_mul _ _ hS0, hL]
  have l2 : lift (2 * D * 2 ^ k) n = L + 1 + k - 52 := by
    unfold lift
    have hne : 2 * D * 2 ^ k / n ≠ 0 := by
      have : 1 ≤ 2 * D * 2 ^ k / n := by
        rw [Nat.le_div_iff_mul_le hn, Nat.one_mul]
        have a : n ≤ 2 ^ (L + 1) * n := by
          have := Nat.mul_le_mul_right n (Nat.two_pow_pos (L + 1)); omega
        have b : 2 * D ≤ 2 * D * 2 ^ k := Nat.le_mul_of_pos_right _ hk
        omega
      omega
    have : (2 * D * 2 ^ k / n).log2 = L + 1 + k := by
      rw [Nat.log2_eq_iff hne]
      constructor
      · rw [Nat.le_div_iff_mul_le hn, Nat.pow_add, Nat.mul_right_comm]
        exact Nat.mul_le_mul_right _ tlo
      · rw [Nat.div_lt_iff_lt_mul hn, show L + 1 + k + 1 = L + 2 + k by omega, Nat.pow_add, Nat.mul_right_comm (2 ^ (L + 2))]
        exact Nat.mul_lt_mul_of_pos_right thi hk
    rw [this]
  unfold rungQ
  rw [l1, l2]
  congr 2
  obtain ⟨d, hd2⟩ : ∃ d, L + 1 + k - 52 = d + 2 + k := ⟨L + 1 - 52 - 2, by omega⟩
  rw [hd2, Nat.one_mul, Nat.pow_add 2 (d + 2) k, rne_scale _ _ _ hk, ← Nat.mul_assoc, rne_scale _ _ _ hk]
  -- both are rounded to a multiple of 4 times a power
  have hg : (2 : Nat) ^ (d + 2) = 4 * 2 ^ d := by rw [Nat.pow_add, Nat.mul_comm]
  have hdp := Nat.two_pow_pos d
  rw [hg]
  generalize 2 ^ d = g at *
  -- the quotients are one
  have e : ∀ x, x * (4 * g) = 2 * (x * 2 * g) := by
    intro x
    rw [show 4 * g = 2 * (2 * g) by omega]
    ac_rfl
  have q1 : S / (4 * g) = 2 * D / (n * (4 * g)) := by
    apply Nat.le_antisymm
    · rw [Nat.le_div_iff_mul_le (Nat.mul_pos hn (by omega))]
      have h := Nat.div_mul_le_self S (4 * g)
      rw [e] at h
      have := (cmp _).1 h
      rw [← e] at this
      rw [Nat.mul_comm n, ← Nat.mul_assoc]; exact this
    · rw [Nat.le_div_iff_mul_le (by omega)]
      have h := Nat.div_mul_le_self (2 * D) (n * (4 * g))
      generalize 2 * D / (n * (4 * g)) = x at *
      rw [Nat.mul_comm n, ← Nat.mul_assoc, e] at h
      rw [e]
      exact (cmp _).2 h

  unfold rne
  rw [← q1]
  have m1 := Nat.div_add_mod S (4 * g)
  have m2 := Nat.div_add_mod (2 * D) (n * (4 * g))
  rw [← q1] at m2
  generalize S / (4 * g) = t at *
  generalize S % (4 * g) = r1 at *
  generalize 2 * D % (n * (4 * g)) = r2 at *
  -- the remainders stand alike to the half
  have eT : 4 * g * t = 2 * (2 * g * t) := by rw [show 4 * g = 2 * (2 * g) by omega, Nat.mul_assoc]
  have eN : n * (4 * g) * t = 4 * g * t * n := by rw [Nat.mul_comm n, Nat.mul_right_comm]
  have x2 : 2 * (2 * g * t + g) * n = n * (4 * g) * t + 2 * g * n := by
    rw [eN, eT, Nat.mul_add, Nat.add_mul]
  have x3 : n * (4 * g) = 2 * (2 * g * n) := by rw [Nat.mul_comm n, show 4 * g = 2 * (2 * g) by omega, Nat.mul_assoc]
  have y1 : (4 * g = 2 * r1) ↔ (S = 2 * (2 * g * t + g)) := by omega
  have y2 : (4 * g ≤ 2 * r1) ↔ (2 * (2 * g * t + g) ≤ S) := by omega
  have z1 := cmq (2 * g * t + g)
  have z2 := cmp (2 * g * t + g)
  rw [x2] at z1 z2
  have c1 : (4 * g = 2 * r1) ↔ (n * (4 * g) = 2 * r2) := by
    rw [y1, z1]
    clear y1 y2 z1 z2 cmp cmq eT eN x2
    generalize n * (4 * g) * t = Q at *
    generalize n * (4 * g) = P at *
    generalize 2 * g * n = R at *
    omega
  have c2 : (4 * g ≤ 2 * r1) ↔ (n * (4 * g) ≤ 2 * r2) := by
    rw [y2, z2]
    clear y1 y2 z1 z2 cmp cmq eT eN x2
    generalize n * (4 * g) * t = Q at *
    generalize n * (4 * g) = P at *
    generalize 2 * g * n = R at *
    omega
  have c3 : (4 * g < 2 * r1 ∨ (4 * g = 2 * r1 ∧ t % 2 = 1)) ↔ (n * (4 * g) < 2 * r2 ∨ (n * (4 * g) = 2 * r2 ∧ t % 2 = 1)) := by omega
  by_cases c : 4 * g < 2 * r1 ∨ (4 * g = 2 * r1 ∧ t % 2 = 1)
  · rw [if_pos c, if_pos (c3.1 c)]
  · rw [if_neg c, if_neg (fun h => c (c3.2 h))]

end Go.Proofs.Ytljehdiplfpjoaa.Fl
