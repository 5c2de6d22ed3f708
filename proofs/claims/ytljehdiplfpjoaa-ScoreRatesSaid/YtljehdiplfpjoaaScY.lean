/- The contract of the reference's Round: it answers what the program's Round does. The word fits 64 bits. -/
import Derived.Test.YtljehdiplfpjoaaScX
namespace Go.Proofs.Ytljehdiplfpjoaa
open Go.RowKit Ieee

def tI (x : Nat) : Int := (if Fl.K x < 0 then -1 else 1) * ((Fl.K x).natAbs / Fl.H : Nat)

theorem trunc_eq (x : Nat) (hn : Fl.isN x = false) (h : (Fl.K x).natAbs ≤ lim) : floatToIntVal .f64 x .i64 = some (tI x) ∧ -9007199254740992 ≤ tI x ∧ tI x ≤ 9007199254740992 := by
  obtain ⟨s, m, e, hx, h1, h2, h3, hK⟩ := near_read x hn h
  have hV : (Fl.K x).natAbs = Fl.units m e := by rw [hK]; cases s <;> simp [Fl.sgn]
  have hc : (Fl.K x).natAbs / Fl.H ≤ 9007199254740992 := by
    have := Nat.div_le_div_right (c := Fl.H) h
    unfold lim at this
    rwa [Nat.mul_div_cancel _ Fl.H_pos] at this
  have hr : tI x = Fl.sgn s * (((Fl.K x).natAbs / Fl.H : Nat) : Int) := by
    unfold tI
    rw [hV]
    cases s
    · rw [hK]; simp only [Fl.sgn, Bool.false_eq_true, if_false]
      rw [if_neg (by omega)]
    · simp only [Fl.sgn, if_true]
      by_cases h0 : Fl.units m e = 0
      · rw [h0]; simp
      · rw [if_pos (by rw [hK]; simp only [Fl.sgn, if_true]; omega)]
  have hb : -9007199254740992 ≤ tI x ∧ tI x ≤ 9007199254740992 := by
    rw [hr]
    generalize (Fl.K x).natAbs / Fl.H = q at *
    cases s <;> simp [Fl.sgn] <;> omega
  refine ⟨?_, hb⟩
  unfold floatToIntVal
  have e1 : FloatKind.f64.decode x = .number s m e := hx
  rw [e1, Fl.toInt_zero s m e h1, ← hV, ← hr]
  simp only
  rw [if_pos ⟨by show (-9223372036854775808 : Int) ≤ _; omega, by show _ ≤ (9223372036854775807 : Int); omega⟩]

theorem left_trunc (x : Nat) (hn : Fl.isN x = false) (h : (Fl.K x).natAbs ≤ lim) :
    ∃ d, floatBits .sub .f64 x (floatOfInt .f64 (tI x)) = some d ∧ Fl.isN d = false ∧ Fl.K d = (if Fl.K x < 0 then -1 else 1) * (((Fl.K x).natAbs % Fl.H : Nat) : Int) := by
  obtain ⟨s, m, e, hx, h1, h2, h3, hK⟩ := near_read x hn h
  obtain ⟨_, b1, b2⟩ := trunc_eq x hn h
  obtain ⟨m', e', hy, h1', _, hKy⟩ := whole_K (tI x) b1 b2
  have hV : (Fl.K x).natAbs = Fl.units m e := by rw [hK]; cases s <;> simp [Fl.sgn]
  have hD : Fl.K x - Fl.K (floatOfInt .f64 (tI x)) = (if Fl.K x < 0 then -1 else 1) * (((Fl.K x).natAbs % Fl.H : Nat) : Int) := by
    rw [hKy]
    unfold tI
    have hdm := Nat.div_add_mod (Fl.K x).natAbs Fl.H
    have e1 : ∀ a : Int, a * (((Fl.K x).natAbs / Fl.H : Nat) : Int) * (Fl.H : Int) = a * ((Fl.H * ((Fl.K x).natAbs / Fl.H) : Nat) : Int) := by
      intro a; rw [Int.natCast_mul, Int.mul_assoc, Int.mul_comm (Fl.H : Int)]
    rw [e1]
    generalize Fl.H * ((Fl.K x).natAbs / Fl.H) = q at *
    generalize (Fl.K x).natAbs % Fl.H = r at *
    by_cases c : Fl.K x < 0
    · rw [if_pos c]; omega
    · rw [if_neg c]; omega
  obtain ⟨r, r1, r2, r3⟩ := Fl.sub_exact x _ _ _ _ _ _ _ hx hy h1 h1' ((m <<< e.toNat) % 2 ^ (-e).toNat) (1074 - (-e).toNat) _ hD (by
    rw [Int.natAbs_mul, Int.natAbs_natCast, show (if Fl.K x < 0 then (-1 : Int) else 1).natAbs = 1 by split <;> rfl, Nat.one_mul, hV]
    exact (Fl.units_mod m e h1).symm) (by
    have h53 : (2 : Nat) ^ 53 = 9007199254740992 := by decide
    rw [h53]
    by_cases he : 0 ≤ e
    · rw [show (-e).toNat = 0 by omega, Nat.pow_zero, Nat.mod_one]; omega
    · rw [show e.toNat = 0 by omega, Nat.shiftLeft_zero]
      exact Nat.lt_of_le_of_lt (Nat.mod_le _ _) h3) (by omega)
  exact ⟨r, r1, r2, r3⟩

set_option maxRecDepth 100000 in
set_option maxHeartbeats 4000000 in
theorem refRound_one (x : Nat) (n : Int) (hn1 : -9007199254740992 ≤ n) (hn2 : n ≤ 9007199254740992) (d : Nat) (hN : fNaN x = false) (ho1 : (FloatKind.f64.format.order x 4845873199050653696 == some .gt) = false) (ho2 : (FloatKind.f64.format.order x 14069245235905429504 == some .lt) = false)
    (ht : floatToIntVal .f64 x .i64 = some n) (hd : floatBits .sub .f64 x (floatOfInt .f64 n) = some d) (g1 g2 g3 g4 od : Bool)
    (h1 : (FloatKind.f64.format.order d 4602678819172646912 == some .gt) = g1) (h2 : (FloatKind.f64.format.order d 4602678819172646912 == some .eq) = g2)
    (h3 : (FloatKind.f64.format.order d 13826050856027422720 == some .lt) = g3) (h4 : (FloatKind.f64.format.order d 13826050856027422720 == some .eq) = g4) (h5 : (n.tmod 2 != 0) = od) (w : World) :
    Calls Try.prog 15 #[.float .f64 x] w fun e w' => e = .returned (.tuple #[.int .i64 (if g1 || (g2 && od) then n + 1 else if g3 || (g4 && od) then n - 1 else n), .bool true]) ∧ w = w' := by
  have hneg : ∀ w, (Op.unary .neg (.float .f64 4845873199050653696)).run Try.prog w = .ok (.float .f64 14069245235905429504) w := fun _ => by kernel_rfl
  have hsub := fun (w : World) => run_float_arith (P := Try.prog) w .sub 22 .f64 _ _ d hd
  have hc := fun (w : World) => run_convert_float_int (P := Try.prog) w 22 3 .f64 .i64 _ n (by rw [Try.underlying22]; rfl) Try.underlying3 ht
  clear hd ht
  rcases g1 <;> rcases g2 <;> rcases od <;> rcases g3 <;> rcases g4
  all_goals
    go_enter Try.func15, Try.ntmps15
    go_wp2_with ((go_at_call 14; refine (refNaN_any _ _).mono ?_; rintro e w' ⟨rfl, rfl⟩))
    go_ret2
    exact ⟨rfl, rfl⟩

theorem refRound_out (x : Nat) (h : (fNaN x || (FloatKind.f64.format.order x 4845873199050653696 == some .gt) || (FloatKind.f64.format.order x 14069245235905429504 == some .lt)) = true) (w : World) :
    Calls Try.prog 15 #[.float .f64 x] w fun e w' => e = .returned (.tuple #[.int .i64 0, .bool false]) ∧ w = w' := by
  have hneg : ∀ w, (Op.unary .neg (.float .f64 4845873199050653696)).run Try.prog w = .ok (.float .f64 14069245235905429504) w := fun _ => by kernel_rfl
  rcases h1 : fNaN x <;> rcases h2 : (FloatKind.f64.format.order x 4845873199050653696 == some .gt) <;> rcases h3 : (FloatKind.f64.format.order x 14069245235905429504 == some .lt) <;> rw [h1, h2, h3] at h <;> (first | (cases h; done) | skip)
  all_goals
    clear h
    go_enter Try.func15, Try.ntmps15
    go_wp2_with ((go_at_call 14; refine (refNaN_any _ _).mono ?_; rintro e w' ⟨rfl, rfl⟩))
    go_ret2
    exact ⟨rfl, rfl⟩

theorem lt_K (a b : Nat) (ha : Fl.isN a = false) (hb : Fl.isN b = false) : (FloatKind.f64.format.order a b == some .lt) = decide (Fl.K a < Fl.K b) := by
  have h1 : (FloatKind.f64.format.order a b == some .lt) = _ := Fl.lt_iff a b
  rw [h1, ha, hb]; simp
theorem gt_K (a b : Nat) (ha : Fl.isN a = false) (hb : Fl.isN b = false) : (FloatKind.f64.format.order a b == some .gt) = decide (Fl.K b < Fl.K a) := by
  have h1 : (FloatKind.f64.format.order a b == some .gt) = _ := Fl.gt_iff a b
  rw [h1, ha, hb]; simp
theorem eq_K (a b : Nat) (ha : Fl.isN a = false) (hb : Fl.isN b = false) : (FloatKind.f64.format.order a b == some .eq) = decide (Fl.K a = Fl.K b) := by
  have h1 : (FloatKind.f64.format.order a b == some .eq) = _ := Fl.eq_iff a b
  rw [h1, ha, hb]; simp

theorem refRound_any (x : Nat) (w : World) :
    Calls Try.prog 15 #[.float .f64 x] w fun e w' => e = .returned (.tuple #[.int .i64 (if rOk x then rI x else 0), .bool (rOk x)]) ∧ w = w' := by
  rcases hN : Fl.isN x
  · have o1 := gt_K x 4845873199050653696 hN (by decide)
    have o2 := lt_K x 14069245235905429504 hN (by decide)
    rw [K_lim] at o1
    rw [K_mlim] at o2
    by_cases hK : (Fl.K x).natAbs ≤ lim
    · have ho : rOk x = true := by unfold rOk; rw [hN]; simp [hK]
      obtain ⟨ht, b1, b2⟩ := trunc_eq x hN hK
      obtain ⟨d, hd, dN, dK⟩ := left_trunc x hN hK
      have := refRound_one x (tI x) b1 b2 d (by rw [fNaN_eq, hN]) (by rw [o1]; simp; omega) (by rw [o2]; simp; omega) ht hd _ _ _ _ _ rfl rfl rfl rfl rfl w
      rw [ho]
      simp only [if_true]
      have e : (if (FloatKind.f64.format.order d 4602678819172646912 == some .gt) || ((FloatKind.f64.format.order d 4602678819172646912 == some .eq) && ((tI x).tmod 2 != 0)) then tI x + 1
          else if (FloatKind.f64.format.order d 13826050856027422720 == some .lt) || ((FloatKind.f64.format.order d 13826050856027422720 == some .eq) && ((tI x).tmod 2 != 0)) then tI x - 1 else tI x) = rI x := by
        rw [gt_K _ _ dN (by decide), eq_K _ _ dN (by decide), lt_K _ _ dN (by decide), eq_K _ _ dN (by decide), K_half, K_mhalf, dK]
        have hH := H_hf
        have hp := hf_pos
        have hm := Nat.mod_lt (Fl.K x).natAbs Fl.H_pos
        unfold rI tI Fl.rnd
        generalize (Fl.K x).natAbs / Fl.H = t
        generalize (Fl.K x).natAbs % Fl.H = r at *
        have od : ∀ a : Int, (a = 1 ∨ a = -1) → ((a * (t : Int)).tmod 2 != 0) = decide (t % 2 = 1) := by
          intro a ha
          rw [Bool.eq_iff_iff, bne_iff_ne, decide_eq_true_eq]
          constructor
          · intro h
            rcases (show t % 2 = 0 ∨ t % 2 = 1 by omega) with c | c
            · exact absurd (Int.tmod_eq_zero_of_dvd (by rcases ha with rfl | rfl <;> omega)) h
            · exact c
          · intro h h0
            have := Int.dvd_of_tmod_eq_zero h0
            rcases ha with rfl | rfl <;> omega
        by_cases hs : Fl.K x < 0
        · simp only [hs, if_true]
          rw [od _ (.inr rfl)]
          simp only [Bool.or_eq_true, Bool.and_eq_true, decide_eq_true_eq]
          (repeat' split) <;> omega
        · simp only [hs, if_false]
          rw [od _ (.inl rfl)]
          simp only [Bool.or_eq_true, Bool.and_eq_true, decide_eq_true_eq]
          (repeat' split) <;> omega
      rw [e] at this
      exact this
    · have ho : rOk x = false := by unfold rOk; rw [hN]; simp; omega
      rw [ho]
      refine refRound_out x ?_ w
      rw [o1, o2]; simp; omega
  · have ho : rOk x = false := by unfold rOk; rw [hN]; rfl
    rw [ho]
    exact refRound_out x (by rw [fNaN_eq, hN]; rfl) w

end Go.Proofs.Ytljehdiplfpjoaa
