/- The contracts of Rate, Round and of what is asked first of the program. No condition. -/
import Derived.Test.YtljehdiplfpjoaaSc1
import Derived.Test.YtljehdiplfpjoaaScG
import Derived.Lib.Hide
namespace Go.Proofs.Ytljehdiplfpjoaa
open Go.RowKit

def nanOf (t : Nat) : Nat := (t % 2) * 2 ^ 63 + 0x7ff0000000000000 + 1 + (t / 2) % (2 ^ 52 - 1)
theorem nanOf_nan (t : Nat) : fNaN (nanOf t) = true := by
  show (Ieee.double.order _ _ != some .eq) = true
  rw [Fl.nan_iff]
  unfold Fl.isN nanOf
  have h : Ieee.double.read ((t % 2) * 2 ^ 63 + 0x7ff0000000000000 + 1 + (t / 2) % (2 ^ 52 - 1)) = Ieee.double.read (Ieee.double.word (t % 2 == 1) (0x7ff0000000000000 + 1 + (t / 2) % (2 ^ 52 - 1))) := by
    congr 1
    unfold Ieee.Format.word
    rw [Fl.signWeight_eq]
    rcases (show t % 2 = 0 ∨ t % 2 = 1 by omega) with h | h <;> rw [h] <;> simp <;> omega
  rw [h, Fl.read_word _ _ (by omega), if_neg (by omega), if_neg (by omega), if_neg (by omega)]
  rfl
theorem run_quo_none (t : Nat) (x y : Nat) (h : floatBits .quo .f64 x y = none) (w : World) :
    (binOp .quo t (.float .f64 x) (.float .f64 y)).run Try.prog w = .ok (.float .f64 (nanOf (w.tape w.drawn (.nanBits .f64 x y)))) w.drew := by
  have h' : FloatKind.f64.format.div x y = none := h
  simp only [binOp, Op.floatArith, h']
  rfl

def RateIs (fee bytes : Int) (r : Nat) : Prop :=
  floatBits .quo .f64 (floatOfInt .f64 fee) (floatOfInt .f64 bytes) = some r ∨ (floatBits .quo .f64 (floatOfInt .f64 fee) (floatOfInt .f64 bytes) = none ∧ fNaN r = true)

theorem rate_some (fee bytes : Int) (r : Nat) (w : World) (h : floatBits .quo .f64 (floatOfInt .f64 fee) (floatOfInt .f64 bytes) = some r) :
    Calls Try.prog 13 #[.int .u64 fee, .int .i64 bytes] w fun e w' => e = .returned (.float .f64 r) ∧ w = w' := by
  have hq := fun (w : World) => run_float_arith (P := Try.prog) w .quo 22 .f64 _ _ r h
  clear h
  go_enter Try.func13, Try.ntmps13
  go_wp2
  go_ret
  exact ⟨rfl, rfl⟩

def SomeRate (fee bytes : Int) (w : World) (e : Ending) (w' : World) : Prop := ∃ r n, e = .returned (.float .f64 r) ∧ w' = w.drewN n ∧ RateIs fee bytes r

theorem rate_any (fee bytes : Int) (w : World) :
    Calls Try.prog 13 #[.int .u64 fee, .int .i64 bytes] w (SomeRate fee bytes w) := by
  rcases h : floatBits .quo .f64 (floatOfInt .f64 fee) (floatOfInt .f64 bytes) with _ | r
  · have hq := fun (w : World) => run_quo_none 22 _ _ h w
    have H := Lib.hid h
    clear h
    go_enter Try.func13, Try.ntmps13
    go_wp2
    go_ret
    exact ⟨_, 1, rfl, rfl, .inr ⟨H.out, nanOf_nan _⟩⟩
  · exact (rate_some fee bytes r w h).mono fun e w' ⟨he, hw⟩ => ⟨r, 0, he, hw.symm, .inl h⟩

theorem refRate_any (fee bytes : Int) (w : World) :
    Calls Try.prog 18 #[.int .u64 fee, .int .i64 bytes] w (SomeRate fee bytes w) := by
  rcases h : floatBits .quo .f64 (floatOfInt .f64 fee) (floatOfInt .f64 bytes) with _ | r
  · have hq := fun (w : World) => run_quo_none 22 _ _ h w
    have H := Lib.hid h
    clear h
    go_enter Try.func18, Try.ntmps18
    go_wp2
    go_ret
    exact ⟨_, 1, rfl, rfl, .inr ⟨H.out, nanOf_nan _⟩⟩
  · have hq := fun (w : World) => run_float_arith (P := Try.prog) w .quo 22 .f64 _ _ r h
    have H := Lib.hid h
    clear h
    go_enter Try.func18, Try.ntmps18
    go_wp2
    go_ret
    exact ⟨_, 0, rfl, rfl, .inl H.out⟩

def fEven (x : Nat) : Nat := FloatKind.f64.encode ((FloatKind.f64.decode x).integral .even)
def fRnd (x : Nat) : Option Int := floatToIntVal .f64 (fEven x) .i64

def evenBody (x : Nat) : Sem Value :=
  match FloatKind.f64.decode x with
  | .nan s t =>
    if FloatKind.f64.format.quiet t = t then pure (.float .f64 x) else do
    let kept ← choose (.extern "math.Floor,Ceil,Trunc,RoundToEven.signallingNaN kept" 2)
    pure (.float .f64 (if kept == 1 then x else FloatKind.f64.encode (.nan s (FloatKind.f64.format.quiet t))))
  | d => pure (.float .f64 (FloatKind.f64.encode (d.integral .even)))

theorem roundEven_run (x : Nat) (h : fNaN x = false) (w : World) : (callFunc 28 #[.float .f64 x]).run Try.prog w = .ok (.value (.float .f64 (fEven x))) w := by
  rw [run_callFunc_extern (e := Extern.MathFloor.toIntegral "math.RoundToEven" .even) Try.func28 (by kernel_rfl) (by kernel_rfl) (by kernel_rfl) (by kernel_rfl)]
  have hn : (FloatKind.f64.decode x).isNaN = false := by
    have : (Ieee.double.order x x != some .eq) = false := h
    rwa [Fl.nan_iff] at this
  change (Sem.run Try.prog (evenBody x) w).andThen _ = _
  unfold evenBody fEven
  cases hd : FloatKind.f64.decode x with
  | nan s t => rw [hd] at hn; simp [Ieee.Datum.isNaN] at hn
  | number s m e => rfl
  | infinity s => rfl

theorem round_fits (x : Nat) (n : Int) (w : World) (hN : fNaN x = false) (hA : (FloatKind.f64.format.order (fAbs x) 4845873199050653696 == some .gt) = false) (hr : fRnd x = some n) :
    Calls Try.prog 12 #[.float .f64 x] w fun e w' => e = .returned (.tuple #[.int .i64 n, .bool true]) ∧ w = w' := by
  have he := roundEven_run x hN
  have hc := fun (w : World) => run_convert_float_int (P := Try.prog) w 22 3 .f64 .i64 _ n (by rw [Try.underlying22]; rfl) Try.underlying3 hr
  clear hr
  go_enter Try.func12, Try.ntmps12
  go_wp2_with (first | (go_at_call 26; refine (isNaN_any _ _).mono ?_; rintro e w' ⟨rfl, rfl⟩) | (go_at_call 27; refine (abs_any _ _).mono ?_; rintro e w' ⟨rfl, rfl⟩))
  go_ret2
  exact ⟨rfl, rfl⟩

theorem round_out (x : Nat) (w : World) (h : (fNaN x || (FloatKind.f64.format.order (fAbs x) 4845873199050653696 == some .gt)) = true) :
    Calls Try.prog 12 #[.float .f64 x] w fun e w' => e = .returned (.tuple #[.int .i64 0, .bool false]) ∧ w = w' := by
  rcases hN : fNaN x <;> rcases hA : (FloatKind.f64.format.order (fAbs x) 4845873199050653696 == some .gt) <;> rw [hN, hA] at h
  · cases h
  all_goals
    clear h
    go_enter Try.func12, Try.ntmps12
    go_wp2_with (first | (go_at_call 26; refine (isNaN_any _ _).mono ?_; rintro e w' ⟨rfl, rfl⟩) | (go_at_call 27; refine (abs_any _ _).mono ?_; rintro e w' ⟨rfl, rfl⟩))
    go_ret2
    exact ⟨rfl, rfl⟩

theorem awake_any (w : World) : Calls Try.prog 9 #[] w fun e w' => e = .returned (.bool true) ∧ w = w' := by
  have h1 : fLess 4607182418800017408 4611686018427387904 = true := by kernel_rfl
  have h2 : fLess 4611686018427387904 4607182418800017408 = false := by kernel_rfl
  have h3 : fSame 4607182418800017408 4611686018427387904 = false := by kernel_rfl
  have h4 : (FloatKind.f64.format.order 4609434218613702656 4609434218613702656 == some .eq) = true := by kernel_rfl
  go_enter Try.func9, Try.ntmps9
  go_wp2_with (first | (go_at_call 12; refine (round_fits _ 2 _ (by kernel_rfl) (by kernel_rfl) (by kernel_rfl)).mono ?_; rintro e w' ⟨rfl, rfl⟩) | (go_at_call 10; refine (less_any _ _ _).mono ?_; rintro e w' ⟨rfl, rfl⟩) | (go_at_call 11; refine (same_any _ _ _).mono ?_; rintro e w' ⟨rfl, rfl⟩) | (go_at_call 13; refine (rate_some 3 2 4609434218613702656 _ (by kernel_rfl)).mono ?_; rintro e w' ⟨rfl, rfl⟩))
  go_ret
  exact ⟨rfl, rfl⟩

end Go.Proofs.Ytljehdiplfpjoaa
