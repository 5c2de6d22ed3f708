/- ScoreClamps: what is held between two rates is between them, is one of the three, and held once more it stays. No condition. -/
import Derived.Test.YtljehdiplfpjoaaScW
namespace Go.Proofs.Ytljehdiplfpjoaa
open Go.RowKit Ieee

theorem nan_T (x : Nat) : fNaN x = decide (T x = 2 * Fl.big + 2) := by
  rw [fNaN_eq]
  rcases h : Fl.isN x
  · have := T_lt x h
    simp; omega
  · unfold T; rw [h]; simp
theorem le_T (x : Nat) : T x ≤ 2 * Fl.big + 2 := by
  rcases h : Fl.isN x
  · have := T_lt x h; omega
  · unfold T; rw [h]; simp

set_option maxRecDepth 100000 in
set_option maxHeartbeats 4000000 in
theorem clamps_out (x l h : Nat) (hc : (fLess h l || fNaN l || fNaN h) = true) (w : World) :
    Calls Try.prog 7 #[.float .f64 x, .float .f64 l, .float .f64 h] w fun e w' => e = .returned (.bool true) ∧ w = w' := by
  rcases h1 : fLess h l <;> rcases h2 : fNaN l <;> rcases h3 : fNaN h <;> rw [h1, h2, h3] at hc <;> (first | (cases hc; done) | skip)
  all_goals
    clear hc
    go_enter Try.func7, Try.ntmps7
    go_wp2_with (first | (go_at_call 9; refine (awake_any _).mono ?_; rintro e w' ⟨rfl, rfl⟩) | (go_at_call 16; refine (refLess_any _ _ _).mono ?_; rintro e w' ⟨rfl, rfl⟩) | (go_at_call 14; refine (refNaN_any _ _).mono ?_; rintro e w' ⟨rfl, rfl⟩))
    go_ret
    exact ⟨rfl, rfl⟩

set_option maxRecDepth 100000 in
set_option maxHeartbeats 4000000 in
theorem clamps_in (x l h y z : Nat) (g1 : fLess h l = false) (g2 : fNaN l = false) (g3 : fNaN h = false) (hy : fClamp x l h = y) (hz : fClamp y l h = z)
    (e1 : fLess y l = false) (e2 : fLess h y = false) (p q r : Bool) (e3 : fSame y x = p) (e4 : fSame y l = q) (e5 : fSame y h = r) (e6 : fSame z y = true)
    (s t v : Bool) (e7 : fLess x l = s) (e8 : fLess h x = t) (e9 : fNaN x = false ∨ t = true) (e10 : fSame x y = v)
    (hc : (p = true ∧ s = false ∧ t = false ∧ v = true) ∨ (p = false ∧ q = true ∧ s = true) ∨ (p = false ∧ q = true ∧ s = false ∧ t = true) ∨ (p = false ∧ q = false ∧ r = true ∧ s = false ∧ t = true)) (w : World) :
    Calls Try.prog 7 #[.float .f64 x, .float .f64 l, .float .f64 h] w fun e w' => e = .returned (.bool true) ∧ w = w' := by
  have HY := Lib.hid hy
  have HZ := Lib.hid hz
  clear hy hz
  have cl1 := fun (w : World) => clamp_any x l h w
  have cl2 := fun (w : World) => clamp_any y l h w
  rw [HY.out] at cl1
  rw [HZ.out] at cl2
  have CL1 := Lib.hid cl1
  have CL2 := Lib.hid cl2
  clear cl1 cl2
  rcases hc with ⟨rfl, rfl, rfl, rfl⟩ | ⟨rfl, rfl, rfl⟩ | ⟨rfl, rfl, rfl, rfl⟩ | ⟨rfl, rfl, rfl, rfl, rfl⟩
  case inl => 
    have e9 : fNaN x = false := by simpa using e9
    go_enter Try.func7, Try.ntmps7
    go_wp2_with (first | (go_at_call 9; refine (awake_any _).mono ?_; rintro e w' ⟨rfl, rfl⟩) | (go_at_call 16; refine (refLess_any _ _ _).mono ?_; rintro e w' ⟨rfl, rfl⟩) | (go_at_call 14; refine (refNaN_any _ _).mono ?_; rintro e w' ⟨rfl, rfl⟩))
    refine (CL1.out _).mono ?_; rintro e w' ⟨rfl, rfl⟩
    go_wp2_with (first | (go_at_call 17; refine (refSame_any _ _ _).mono ?_; rintro e w' ⟨rfl, rfl⟩) | (go_at_call 16; refine (refLess_any _ _ _).mono ?_; rintro e w' ⟨rfl, rfl⟩) | (go_at_call 14; refine (refNaN_any _ _).mono ?_; rintro e w' ⟨rfl, rfl⟩))
    refine (CL2.out _).mono ?_; rintro e w' ⟨rfl, rfl⟩
    go_wp2_with (first | (go_at_call 17; refine (refSame_any _ _ _).mono ?_; rintro e w' ⟨rfl, rfl⟩) | (go_at_call 16; refine (refLess_any _ _ _).mono ?_; rintro e w' ⟨rfl, rfl⟩) | (go_at_call 14; refine (refNaN_any _ _).mono ?_; rintro e w' ⟨rfl, rfl⟩))
    go_ret
    exact ⟨rfl, rfl⟩
  all_goals
    clear e9
    go_enter Try.func7, Try.ntmps7
    go_wp2_with (first | (go_at_call 9; refine (awake_any _).mono ?_; rintro e w' ⟨rfl, rfl⟩) | (go_at_call 16; refine (refLess_any _ _ _).mono ?_; rintro e w' ⟨rfl, rfl⟩) | (go_at_call 14; refine (refNaN_any _ _).mono ?_; rintro e w' ⟨rfl, rfl⟩))
    refine (CL1.out _).mono ?_; rintro e w' ⟨rfl, rfl⟩
    go_wp2_with (first | (go_at_call 17; refine (refSame_any _ _ _).mono ?_; rintro e w' ⟨rfl, rfl⟩) | (go_at_call 16; refine (refLess_any _ _ _).mono ?_; rintro e w' ⟨rfl, rfl⟩) | (go_at_call 14; refine (refNaN_any _ _).mono ?_; rintro e w' ⟨rfl, rfl⟩))
    refine (CL2.out _).mono ?_; rintro e w' ⟨rfl, rfl⟩
    go_wp2_with (first | (go_at_call 17; refine (refSame_any _ _ _).mono ?_; rintro e w' ⟨rfl, rfl⟩) | (go_at_call 16; refine (refLess_any _ _ _).mono ?_; rintro e w' ⟨rfl, rfl⟩) | (go_at_call 14; refine (refNaN_any _ _).mono ?_; rintro e w' ⟨rfl, rfl⟩))
    go_ret
    exact ⟨rfl, rfl⟩

theorem scoreClamps_row (x : Nat) (_ : (Lit.float .f64 x).wf = true) (l : Nat) (_ : (Lit.float .f64 l).wf = true) (h : Nat) (_ : (Lit.float .f64 h).wf = true) (w : World) :
    Calls Try.prog 7 #[.float .f64 x, .float .f64 l, .float .f64 h] w fun e w' => e = .returned (.bool true) ∧ Below w.heap.size w w' := by
  have fin : ∀ (e : Ending) (w' : World), (e = .returned (.bool true) ∧ w = w') → e = .returned (.bool true) ∧ Below w.heap.size w w' := fun _ _ ⟨he, hw⟩ => ⟨he, hw ▸ Below.refl _ _⟩
  rcases hc : (fLess h l || fNaN l || fNaN h)
  · have g : fLess h l = false ∧ fNaN l = false ∧ fNaN h = false := by simpa [and_assoc] using hc
    obtain ⟨g1, g2, g3⟩ := g
    have hle := le_T x
    have hn := nan_T x
    have k1 : T l ≤ T h := by rw [less_T] at g1; simpa using g1
    have k2 : T l < 2 * Fl.big + 2 := by have := le_T l; rw [nan_T] at g2; simp at g2; omega
    have k3 : T h < 2 * Fl.big + 2 := by have := le_T h; rw [nan_T] at g3; simp at g3; omega
    have cl : ∀ y, fClamp y l h = if T y = 2 * Fl.big + 2 then l else if T y < T l then l else if T h < T y then h else y := by
      intro y; unfold fClamp; rw [nan_T, less_T, less_T]; simp
    rcases (show T x = 2 * Fl.big + 2 ∨ T x < T l ∨ (T l ≤ T x ∧ T h < T x ∧ T x < 2 * Fl.big + 2) ∨ (T l ≤ T x ∧ T x ≤ T h) by omega) with c | c | c | c
    · refine (clamps_in x l h l l g1 g2 g3 (by rw [cl, if_pos c]) (by rw [cl, if_neg (by omega), if_neg (by omega), if_neg (by omega)]) ?_ ?_ _ _ _ rfl rfl rfl ?_ _ _ _ rfl rfl ?_ rfl ?_ w).mono fin
      all_goals simp only [less_T, same_T, nan_T, decide_eq_true_eq, decide_eq_false_iff_not]
      all_goals first | omega | (simp; omega)
    · refine (clamps_in x l h l l g1 g2 g3 (by rw [cl, if_neg (by omega), if_pos c]) (by rw [cl, if_neg (by omega), if_neg (by omega), if_neg (by omega)]) ?_ ?_ _ _ _ rfl rfl rfl ?_ _ _ _ rfl rfl ?_ rfl ?_ w).mono fin
      all_goals simp only [less_T, same_T, nan_T, decide_eq_true_eq, decide_eq_false_iff_not]
      all_goals first | omega | (simp; omega)
    · refine (clamps_in x l h h h g1 g2 g3 (by rw [cl, if_neg (by omega), if_neg (by omega), if_pos (by omega)]) (by rw [cl, if_neg (by omega), if_neg (by omega), if_neg (by omega)]) ?_ ?_ _ _ _ rfl rfl rfl ?_ _ _ _ rfl rfl ?_ rfl ?_ w).mono fin
      all_goals simp only [less_T, same_T, nan_T, decide_eq_true_eq, decide_eq_false_iff_not]
      all_goals first | omega | (simp; omega)
    · refine (clamps_in x l h x x g1 g2 g3 (by rw [cl, if_neg (by omega), if_neg (by omega), if_neg (by omega)]) (by rw [cl, if_neg (by omega), if_neg (by omega), if_neg (by omega)]) ?_ ?_ _ _ _ rfl rfl rfl ?_ _ _ _ rfl rfl ?_ rfl ?_ w).mono fin
      all_goals simp only [less_T, same_T, nan_T, decide_eq_true_eq, decide_eq_false_iff_not]
      all_goals first | omega | (simp; omega)
  · exact (clamps_out x l h hc w).mono fin

end Go.Proofs.Ytljehdiplfpjoaa
