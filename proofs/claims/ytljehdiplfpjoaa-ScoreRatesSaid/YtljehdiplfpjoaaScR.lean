/- Plain law: rounding a float to a whole number, and what is left. No program in sight. -/
import Derived.Test.YtljehdiplfpjoaaScG
import Derived.Laws.BitsAllLaws
namespace Go.Proofs.Ytljehdiplfpjoaa.Fl
open Ieee

@[irreducible] def HE : Nat := 1074
theorem HE_eq : HE = 1074 := by unfold HE; rfl
def H : Nat := 2 ^ HE
theorem H_pos : 0 < H := Nat.two_pow_pos _
theorem H_split (d : Nat) (h : d ≤ 1074) : H = 2 ^ d * 2 ^ (1074 - d) := by
  unfold H
  rw [← Nat.pow_add, show HE = d + (1074 - d) by have := HE_eq; omega]
theorem cut_aux (t r g u : Nat) (hp : 0 < u) :
    (if g < 2 * r ∨ (g = 2 * r ∧ t % 2 = 1) then 1 else 0) = (if g * u < 2 * (r * u) ∨ (g * u = 2 * (r * u) ∧ t % 2 = 1) then 1 else 0) := by
  have a1 : (g < 2 * r) ↔ (g * u < 2 * (r * u)) := by
    rw [← Nat.mul_assoc]; exact (Nat.mul_lt_mul_right hp).symm
  have a2 : (g = 2 * r) ↔ (g * u = 2 * (r * u)) := by
    rw [← Nat.mul_assoc]; exact ⟨fun h => by rw [h], fun h => Nat.eq_of_mul_eq_mul_right hp h⟩
  by_cases c : g < 2 * r ∨ (g = 2 * r ∧ t % 2 = 1)
  · rw [if_pos c, if_pos (by rw [← a1, ← a2]; exact c)]
  · rw [if_neg c, if_neg (by rw [← a1, ← a2]; exact c)]

/-- To the nearest whole number of H's, the even one between two. -/
def rnd (V : Nat) : Nat := V / H + (if H < 2 * (V % H) ∨ (H = 2 * (V % H) ∧ V / H % 2 = 1) then 1 else 0)

/-- A magnitude in units of the least place. -/
def units (m : Nat) (e : Int) : Nat := m * 2 ^ (e + 1074).toNat
theorem key_num (s : Bool) (m : Nat) (e : Int) : key (.number s m e) = sgn s * (units m e : Int) := by
  simp only [key, units, Int.natCast_mul, Int.natCast_pow]; rfl

theorem units_pos (m : Nat) (e : Int) (he : 0 ≤ e) : units m e = m * 2 ^ e.toNat * H := by
  unfold units H
  rw [show (e + 1074).toNat = e.toNat + HE by have := HE_eq; omega, Nat.pow_add, Nat.mul_assoc]
theorem units_neg (m : Nat) (e : Int) (h1 : -1074 ≤ e) (he : e < 0) : units m e = m * 2 ^ (1074 - (-e).toNat) := by
  unfold units
  rw [show (e + 1074).toNat = 1074 - (-e).toNat by omega]

theorem units_div (m : Nat) (e : Int) (h1 : -1074 ≤ e) : (m <<< e.toNat) / 2 ^ (-e).toNat = units m e / H := by
  rw [Nat.shiftLeft_eq]
  by_cases he : 0 ≤ e
  · rw [units_pos m e he, show (-e).toNat = 0 by omega, Nat.pow_zero, Nat.div_one, Nat.mul_div_cancel _ H_pos]
  · rw [units_neg m e h1 (by omega), H_split (-e).toNat (by omega), show e.toNat = 0 by omega, Nat.pow_zero, Nat.mul_one, Nat.mul_div_mul_right _ _ (Nat.two_pow_pos _)]
theorem units_mod (m : Nat) (e : Int) (h1 : -1074 ≤ e) : (m <<< e.toNat) % 2 ^ (-e).toNat * 2 ^ (1074 - (-e).toNat) = units m e % H := by
  rw [Nat.shiftLeft_eq]
  by_cases he : 0 ≤ e
  · rw [units_pos m e he, show (-e).toNat = 0 by omega, Nat.pow_zero, Nat.mod_one, Nat.mul_mod_left]
    generalize 2 ^ (1074 - 0) = z
    exact Nat.zero_mul z
  · rw [units_neg m e h1 (by omega), H_split (-e).toNat (by omega), show e.toNat = 0 by omega, Nat.pow_zero, Nat.mul_one, Nat.mul_mod_mul_right]

theorem cut_even_units (s : Bool) (m : Nat) (e : Int) (h1 : -1074 ≤ e) (h2 : (-e).toNat ≤ 1074) : Toward.even.cut s (m <<< e.toNat) (-e).toNat = rnd (units m e) := by
  rw [cut_even]
  unfold rnd
  rw [← units_div m e h1, ← units_mod m e h1]
  rw [H_split (-e).toNat h2]
  congr 1
  exact cut_aux _ _ _ _ (Nat.two_pow_pos _)

theorem cut_zero_units (s : Bool) (m : Nat) (e : Int) (h1 : -1074 ≤ e) : Toward.zero.cut s (m <<< e.toNat) (-e).toNat = units m e / H := by
  rw [cut_zero, units_div m e h1]

theorem toInt_zero (s : Bool) (m : Nat) (e : Int) (h1 : -1074 ≤ e) : (Datum.number s m e).toInt .zero = some (sgn s * ((units m e / H : Nat) : Int)) := by
  unfold Datum.toInt Datum.integral
  simp only
  rw [cut_zero_units s m e h1, signed_eq]
  simp

theorem lim_units (V : Nat) (h : V ≤ 9007199254740992 * H) : rnd V ≤ 9007199254740992 := by
  unfold rnd
  have hH := H_pos
  have hd := Nat.div_add_mod V H
  have hm := Nat.mod_lt V hH
  have h1 : V / H ≤ 9007199254740992 := by
    have := Nat.div_le_div_right (c := H) h
    rwa [Nat.mul_div_cancel _ hH] at this
  by_cases h2 : V / H = 9007199254740992
  · have : V % H = 0 := by
      rw [h2, Nat.mul_comm] at hd
      omega
    rw [this, if_neg (by omega)]; omega
  · split <;> omega

/-- A whole number that is held: what stands there. -/
theorem whole_read (s : Bool) (c : Nat) (h : c ≤ 9007199254740992) : ∃ m e, double.read (double.nearest s c 0) = .number s m e ∧ -1074 ≤ e ∧ e ≤ 971 ∧ m < 9007199254740992 ∧ units m e = c * H := by
  by_cases hc : c = 9007199254740992
  · subst hc
    have h53 : (9007199254740992 : Nat) = 2 ^ 53 := by decide
    obtain ⟨m, e, h1, h2, h3, h4, h5⟩ := nearest_read s 9007199254740992 0 1 (53 + HE) (by omega) (by decide) (by have := HE_eq; omega) (by
      rw [show ((0 : Int) + 1074).toNat = HE by rw [HE_eq]; rfl, Nat.pow_add, ← h53, Nat.one_mul])
    refine ⟨m, e, h1, h2, h3, h4, ?_⟩
    unfold units H
    rw [h5, Nat.pow_add, ← h53, Nat.one_mul]
  · obtain ⟨m, e, h1, h2, h3, h4, h5⟩ := nearest_read s c 0 c HE (by omega) (by
      rw [show (2 : Nat) ^ 53 = 9007199254740992 by decide]; omega) (by have := HE_eq; omega) (by rw [show ((0 : Int) + 1074).toNat = HE by rw [HE_eq]; rfl])
    exact ⟨m, e, h1, h2, h3, h4, by unfold units H; rw [h5]⟩

theorem whole_back (s : Bool) (c : Nat) (h : c ≤ 9007199254740992) : (double.read (double.nearest s c 0)).toInt .zero = some (sgn s * (c : Int)) := by
  obtain ⟨m, e, h1, h2, _, _, h5⟩ := whole_read s c h
  rw [h1, toInt_zero s m e h2, h5, Nat.mul_div_cancel _ H_pos]

/-- A difference that a float can hold is what the subtraction gives. -/
theorem sub_exact (x y : Nat) (sx sy : Bool) (mx my : Nat) (ex ey : Int) (hx : double.read x = .number sx mx ex) (hy : double.read y = .number sy my ey) (bx : -1074 ≤ ex) (bY : -1074 ≤ ey)
    (k t : Nat) (D : Int) (hD : K x - K y = D) (hk : D.natAbs = k * 2 ^ t) (hk2 : k < 2 ^ 53) (ht : t ≤ 2045) :
    ∃ r, double.sub x y = some r ∧ isN r = false ∧ K r = D := by
  unfold Format.sub
  rw [hx, hy]
  simp only [Datum.opposite, Datum.sum, Option.map_some]
  obtain ⟨base, hbase⟩ : ∃ b, b = min ex ey := ⟨_, rfl⟩
  rw [← hbase]
  generalize htot : signed sx mx (ex - base).toNat + signed (!sy) my (ey - base).toNat = total
  have hb : -1074 ≤ base := by omega
  have e1 : (ex + 1074).toNat = (ex - base).toNat + (base + 1074).toNat := by omega
  have e2 : (ey + 1074).toNat = (ey - base).toNat + (base + 1074).toNat := by omega
  have hv : total * 2 ^ (base + 1074).toNat = D := by
    rw [← hD, ← htot]
    unfold K
    rw [hx, hy]
    simp only [key, signed_eq]
    rw [e1, e2, Int.pow_add, Int.pow_add]
    have : sgn (!sy) = - sgn sy := by cases sy <;> rfl
    rw [this]
    generalize (2 : Int) ^ (base + 1074).toNat = u
    generalize (2 : Int) ^ (ex - base).toNat = v
    generalize (2 : Int) ^ (ey - base).toNat = w
    rw [Int.add_mul, Int.neg_mul, Int.neg_mul]
    simp only [Int.mul_assoc]
    omega
  have habs : total.natAbs * 2 ^ (base + 1074).toNat = k * 2 ^ t := by
    rw [← hk, ← hv, Int.natAbs_mul]
    congr 1
  refine ⟨_, rfl, ?_⟩
  unfold Format.write
  obtain ⟨m, e, h1, h2, h3, h4, h5⟩ := nearest_read (if total = 0 then sx && !sy else decide (total < 0)) total.natAbs base k t hb hk2 ht habs
  simp only
  unfold isN K
  rw [h1]
  refine ⟨rfl, ?_⟩
  rw [key_num]
  unfold units
  rw [h5, ← hk]
  by_cases h0 : total = 0
  · have : D = 0 := by rw [← hv, h0, Int.zero_mul]
    rw [this]; simp
  · rw [if_neg h0]
    have hp : (0 : Int) < 2 ^ (base + 1074).toNat := Int.pow_pos (by decide)
    by_cases hn : total < 0
    · have : D < 0 := by rw [← hv]; exact Int.mul_neg_of_neg_of_pos hn hp
      simp only [hn, decide_true, sgn, if_true]
      omega
    · have : 0 ≤ D := by rw [← hv]; exact Int.mul_nonneg (by omega) (by omega)
      simp only [hn, decide_false, sgn, Bool.false_eq_true, if_false]
      omega

end Go.Proofs.Ytljehdiplfpjoaa.Fl
