/- The contracts of the reference's order, and the walk of ScoreClamps. The words fit 64 bits. -/
import Derived.Test.YtljehdiplfpjoaaScV
namespace Go.Proofs.Ytljehdiplfpjoaa
open Go.RowKit Ieee

theorem K_zero : Fl.K 0 = 0 := by
  have : double.read 0 = .number false 0 (-1074) := by decide
  unfold Fl.K; rw [this]; simp [Fl.key]
theorem zero_iff (x : Nat) : (FloatKind.f64.format.order x 0 == some .eq) = (!Fl.isN x && decide (Fl.K x = 0)) := by
  show (double.order x 0 == some .eq) = _
  rw [Fl.eq_iff, K_zero, show Fl.isN 0 = false by decide]; simp

theorem quo_zero (x : Nat) (hn : Fl.isN x = false) (hK : Fl.K x = 0) :
    floatBits .quo .f64 4607182418800017408 x = some (if sg x then 18442240474082181120 else 9218868437227405312) := by
  have h1 : double.read 4607182418800017408 = .number false 4503599627370496 (-52) := by decide
  have hb := Fl.big_pos
  obtain ⟨m, e, hr, h0⟩ : ∃ m e, double.read x = .number (sg x) m e ∧ m = 0 := by
    rcases Fl.read_cases x with ⟨s, m, e, hx, _, _, _, hs⟩ | ⟨s, hx, _⟩ | ⟨s, t, hx⟩
    · refine ⟨m, e, by rw [hx, hs]; rfl, ?_⟩
      unfold Fl.K at hK
      rw [hx, Fl.key_num] at hK
      have hu : Fl.units m e = 0 := by cases s <;> simp [Fl.sgn] at hK <;> exact hK
      unfold Fl.units at hu
      rcases Nat.mul_eq_zero.1 hu with h | h
      · exact h
      · exact absurd h (by have := Nat.two_pow_pos (e + 1074).toNat; omega)
    · unfold Fl.K at hK; rw [hx] at hK
      cases s <;> simp [Fl.key, Fl.sgn] at hK <;> omega
    · unfold Fl.isN at hn; rw [hx] at hn; cases hn
  subst h0
  show double.div 4607182418800017408 x = _
  unfold Format.div
  rw [h1, hr]
  cases sg x <;> rfl

def fBelow (x : Nat) : Bool := !Fl.isN x && decide (Fl.K x = 0) && sg x
theorem below_any (x : Nat) (w : World) :
    Calls Try.prog 29 #[.float .f64 x] w fun e w' => e = .returned (.bool (fBelow x)) ∧ w = w' := by
  rcases hz : (FloatKind.f64.format.order x 0 == some .eq)
  · have hf : fBelow x = false := by unfold fBelow; rw [← zero_iff, hz]; rfl
    rw [hf]
    go_enter Try.func29, Try.ntmps29
    go_wp2
    go_ret
    exact ⟨rfl, rfl⟩
  · have hz2 := hz
    rw [zero_iff] at hz2
    have hn : Fl.isN x = false := by simp at hz2; exact hz2.1
    have hK : Fl.K x = 0 := by simp at hz2; exact hz2.2
    have hf : fBelow x = sg x := by unfold fBelow; rw [hn, hK]; simp
    rw [hf]
    have hq0 := quo_zero x hn hK
    clear hz2 hn hK hf
    rcases hs : sg x
    · rw [hs] at hq0
      have hq := fun (w : World) => run_float_arith (P := Try.prog) w .quo 22 .f64 _ _ _ hq0
      simp only [Bool.false_eq_true, if_false] at hq
      have hl : (FloatKind.f64.format.order 9218868437227405312 0 == some .lt) = false := by decide
      clear hq0
      go_enter Try.func29, Try.ntmps29
      go_wp2
      go_ret
      exact ⟨rfl, rfl⟩
    · rw [hs] at hq0
      have hq := fun (w : World) => run_float_arith (P := Try.prog) w .quo 22 .f64 _ _ _ hq0
      simp only [if_true] at hq
      have hl : (FloatKind.f64.format.order 18442240474082181120 0 == some .lt) = true := by decide
      clear hq0
      go_enter Try.func29, Try.ntmps29
      go_wp2
      go_ret
      exact ⟨rfl, rfl⟩

theorem sg_of_K (x : Nat) (hn : Fl.isN x = false) (h : Fl.K x ≠ 0) : sg x = decide (Fl.K x < 0) := by
  have hb := Fl.big_pos
  rcases Fl.read_cases x with ⟨s, m, e, hx, _, _, _, hs⟩ | ⟨s, hx, hs⟩ | ⟨s, t, hx⟩
  · have : sg x = s := by rw [hs]; rfl
    rw [this]
    unfold Fl.K at h ⊢
    rw [hx, Fl.key_num] at h ⊢
    cases s <;> simp [Fl.sgn] at h ⊢ <;> omega
  · have : sg x = s := by rw [hs]; rfl
    rw [this]
    unfold Fl.K at h ⊢
    rw [hx] at h ⊢
    cases s <;> simp [Fl.sgn, Fl.key] at h ⊢ <;> omega
  · unfold Fl.isN at hn; rw [hx] at hn; cases hn

theorem refLess_val (a b : Nat) (ha : Fl.isN a = false) (hb : Fl.isN b = false) :
    fLess a b = if Fl.K a = 0 ∧ Fl.K b = 0 then sg a && !sg b else decide (Fl.K a < Fl.K b) := by
  rw [less_T]
  have ta : T a = 2 * Fl.K a + (if sg a then 0 else 1) := by unfold T; rw [ha]; simp
  have tb : T b = 2 * Fl.K b + (if sg b then 0 else 1) := by unfold T; rw [hb]; simp
  rw [ta, tb]
  by_cases h : Fl.K a = 0 ∧ Fl.K b = 0
  · rw [if_pos h, h.1, h.2]
    cases sg a <;> cases sg b <;> decide
  · rw [if_neg h, Bool.eq_iff_iff, decide_eq_true_eq, decide_eq_true_eq]
    by_cases hk : Fl.K a = Fl.K b
    · have h1 := sg_of_K a ha (by omega)
      have h2 := sg_of_K b hb (by omega)
      rw [h1, h2, hk]; simp
    · cases sg a <;> cases sg b <;> simp <;> omega

theorem refLess_any (a b : Nat) (w : World) :
    Calls Try.prog 16 #[.float .f64 a, .float .f64 b] w fun e w' => e = .returned (.bool (fLess a b)) ∧ w = w' := by
  rcases ha : fNaN a <;> rcases hb : fNaN b
  · have ha' := ha
    have hb' := hb
    rw [fNaN_eq] at ha' hb'
    have hv := refLess_val a b ha' hb'
    have hl : (FloatKind.f64.format.order a b == some .lt) = decide (Fl.K a < Fl.K b) := by
      have : (FloatKind.f64.format.order a b == some .lt) = _ := Fl.lt_iff a b
      rw [this, ha', hb']; simp
    rcases hza : (FloatKind.f64.format.order a 0 == some .eq)
    · have hk : Fl.K a ≠ 0 := by rw [zero_iff, ha'] at hza; simpa using hza
      have hv2 : fLess a b = (FloatKind.f64.format.order a b == some .lt) := by rw [hv, if_neg (fun h => hk h.1), hl]
      rw [hv2]
      clear hv hl hv2 hk ha' hb'
      go_enter Try.func16, Try.ntmps16
      go_wp2_with ((go_at_call 14; refine (refNaN_any _ _).mono ?_; rintro e w' ⟨rfl, rfl⟩))
      go_ret
      exact ⟨rfl, rfl⟩
    · rcases hzb : (FloatKind.f64.format.order b 0 == some .eq)
      · have hk : Fl.K b ≠ 0 := by rw [zero_iff, hb'] at hzb; simpa using hzb
        have hv2 : fLess a b = (FloatKind.f64.format.order a b == some .lt) := by rw [hv, if_neg (fun h => hk h.2), hl]
        rw [hv2]
        clear hv hl hv2 hk ha' hb'
        go_enter Try.func16, Try.ntmps16
        go_wp2_with ((go_at_call 14; refine (refNaN_any _ _).mono ?_; rintro e w' ⟨rfl, rfl⟩))
        go_ret
        exact ⟨rfl, rfl⟩
      · have hka : Fl.K a = 0 := by rw [zero_iff, ha'] at hza; simpa using hza
        have hkb : Fl.K b = 0 := by rw [zero_iff, hb'] at hzb; simpa using hzb
        have fa : fBelow a = sg a := by unfold fBelow; rw [ha', hka]; simp
        have fb : fBelow b = sg b := by unfold fBelow; rw [hb', hkb]; simp
        have hv2 : fLess a b = (fBelow a && !fBelow b) := by rw [hv, if_pos ⟨hka, hkb⟩, fa, fb]
        rw [hv2]
        clear hv hl hv2 ha' hb' hka hkb fa fb
        rcases h1 : fBelow a <;> rcases h2 : fBelow b
        all_goals
          go_enter Try.func16, Try.ntmps16
          go_wp2_with (first | (go_at_call 14; refine (refNaN_any _ _).mono ?_; rintro e w' ⟨rfl, rfl⟩) | (go_at_call 29; refine (below_any _ _).mono ?_; rintro e w' ⟨rfl, rfl⟩))
          go_ret
          exact ⟨rfl, rfl⟩
  all_goals
    have hv : fLess a b = !fNaN a := by unfold fLess fCmp; rw [ha, hb]; rfl
    rw [hv, ha]
    clear hv
    go_enter Try.func16, Try.ntmps16
    go_wp2_with ((go_at_call 14; refine (refNaN_any _ _).mono ?_; rintro e w' ⟨rfl, rfl⟩))
    go_ret
    exact ⟨rfl, rfl⟩

theorem refSame_any (a b : Nat) (w : World) :
    Calls Try.prog 17 #[.float .f64 a, .float .f64 b] w fun e w' => e = .returned (.bool (fSame a b)) ∧ w = w' := by
  have hv : fSame a b = (!fLess a b && !fLess b a) := by
    rw [less_T, less_T, same_T, Bool.eq_iff_iff]; simp; omega
  rw [hv]
  clear hv
  rcases h1 : fLess a b <;> rcases h2 : fLess b a
  all_goals
    go_enter Try.func17, Try.ntmps17
    go_wp2_with ((go_at_call 16; refine (refLess_any _ _ _).mono ?_; rintro e w' ⟨rfl, rfl⟩))
    go_ret
    exact ⟨rfl, rfl⟩

theorem refClamp_any (x l h : Nat) (w : World) :
    Calls Try.prog 20 #[.float .f64 x, .float .f64 l, .float .f64 h] w fun e w' => e = .returned (.float .f64 (fClamp x l h)) ∧ w = w' := by
  rcases ha : fNaN x <;> rcases hb : fLess x l <;> rcases hl : fLess h x
  all_goals
    go_enter Try.func20, Try.ntmps20
    go_wp2_with (first | (go_at_call 14; refine (refNaN_any _ _).mono ?_; rintro e w' ⟨rfl, rfl⟩) | (go_at_call 16; refine (refLess_any _ _ _).mono ?_; rintro e w' ⟨rfl, rfl⟩))
    go_ret
    exact ⟨by simp [fClamp, ha, hb, hl], rfl⟩

end Go.Proofs.Ytljehdiplfpjoaa
