import Derived.Test.YtggomleegbnhbaaBl7
set_option linter.unusedSimpArgs false
set_option linter.unusedVariables false
namespace Go.Proofs.Ytggomleegbnhbaa
open Go.RowKit
/-! The field's laws, from its tables. -/
set_option maxRecDepth 1000000
def allB (f : Nat → Bool) : Nat → Bool
  | 0 => true
  | n + 1 => allB f n && f n
theorem allB_at {f : Nat → Bool} : ∀ {n : Nat}, allB f n = true → ∀ i, i < n → f i = true
  | n + 1, h, i, hi => by
    rw [allB, Bool.and_eq_true] at h
    by_cases e : i = n
    · subst e; exact h.2
    · exact allB_at h.1 i (by omega)
def exN (i : Nat) : Nat := (ex i).toNat
def stepN (x : Nat) : Nat := if x < 128 then x ^^^ (2 * x) else x ^^^ (2 * x) ^^^ 283
theorem stepN_lin : ∀ a b, a < 256 → b < 256 → stepN (a ^^^ b) = stepN a ^^^ stepN b := by
  have h : allB (fun a => allB (fun b => Nat.beq (stepN (a ^^^ b)) (stepN a ^^^ stepN b)) 256) 256 = true := by decide +kernel
  intro a b ha hb
  exact Nat.eq_of_beq_eq_true (allB_at (allB_at h a ha) b hb)
theorem exN_facts : ∀ i, i < 509 → exN (i + 1) = stepN (exN i) := by
  have h : allB (fun i => Nat.beq (exN (i + 1)) (stepN (exN i))) 509 = true := by decide +kernel
  intro i hi; exact Nat.eq_of_beq_eq_true (allB_at h i hi)
theorem exN_mod : ∀ i, i < 510 → exN i = exN (i % 255) := by
  have h : allB (fun i => Nat.beq (exN i) (exN (i % 255))) 510 = true := by decide +kernel
  intro i hi; exact Nat.eq_of_beq_eq_true (allB_at h i hi)
theorem lg_exN : ∀ i, i < 510 → lg (exN i) = i % 255 := by
  have h : allB (fun i => Nat.beq (lg (exN i)) (i % 255)) 510 = true := by decide +kernel
  intro i hi; exact Nat.eq_of_beq_eq_true (allB_at h i hi)
theorem exN_pos : ∀ i, i < 510 → exN i ≠ 0 ∧ exN i < 256 := by
  have h : allB (fun i => Nat.ble 1 (exN i) && Nat.ble (exN i) 255) 510 = true := by decide +kernel
  intro i hi
  have := allB_at h i hi
  rw [Bool.and_eq_true] at this
  have h1 := Nat.le_of_ble_eq_true this.1
  have h2 := Nat.le_of_ble_eq_true this.2
  exact ⟨by omega, by omega⟩
theorem exN_lg : ∀ a, a < 256 → a ≠ 0 → exN (lg a) = a := by
  have h : allB (fun a => Nat.beq a 0 || Nat.beq (exN (lg a)) a) 256 = true := by decide +kernel
  intro a ha h0
  have := allB_at h a ha
  rw [Bool.or_eq_true] at this
  rcases this with h1 | h1
  · exact (h0 (Nat.eq_of_beq_eq_true h1)).elim
  · exact Nat.eq_of_beq_eq_true h1
theorem lg_le {a : Nat} (h : a < 256) : lg a ≤ 254 := (lg_at h).2
def mulX (a b : Nat) : Nat := if a = 0 ∨ b = 0 then 0 else exN (lg a + lg b)
theorem mulX_lt {a b : Nat} (ha : a < 256) (hb : b < 256) : mulX a b < 256 := by
  have := lg_le ha; have := lg_le hb
  unfold mulX; split
  · omega
  · exact (exN_pos _ (by omega)).2
theorem mulX_comm (a b : Nat) : mulX a b = mulX b a := by
  unfold mulX
  by_cases h1 : a = 0 <;> by_cases h2 : b = 0 <;> simp [h1, h2, Nat.add_comm]
theorem mulX_ne {a b : Nat} (ha : a < 256) (hb : b < 256) (h1 : a ≠ 0) (h2 : b ≠ 0) : mulX a b ≠ 0 := by
  have := lg_le ha; have := lg_le hb
  unfold mulX; rw [if_neg (by omega)]; exact (exN_pos _ (by omega)).1
theorem mulX_assoc {a b c : Nat} (ha : a < 256) (hb : b < 256) (hc : c < 256) : mulX (mulX a b) c = mulX a (mulX b c) := by
  by_cases h1 : a = 0
  · subst h1; simp [mulX]
  by_cases h2 : b = 0
  · subst h2; simp [mulX]
  by_cases h3 : c = 0
  · subst h3; simp [mulX]
  have la := lg_le ha; have lb := lg_le hb; have lc := lg_le hc
  have n1 := mulX_ne ha hb h1 h2
  have n2 := mulX_ne hb hc h2 h3
  have e1 : mulX a b = exN (lg a + lg b) := by unfold mulX; rw [if_neg (by omega)]
  have e2 : mulX b c = exN (lg b + lg c) := by unfold mulX; rw [if_neg (by omega)]
  have e3 : mulX (mulX a b) c = exN (lg (mulX a b) + lg c) := by rw [mulX, if_neg (by omega)]
  have e4 : mulX a (mulX b c) = exN (lg a + lg (mulX b c)) := by rw [mulX, if_neg (by omega)]
  rw [e3, e4, e1, e2, lg_exN _ (by omega), lg_exN _ (by omega), exN_mod _ (by omega), exN_mod (lg a + _) (by omega)]
  congr 1; omega
theorem mulX_one {a : Nat} (ha : a < 256) : mulX 1 a = a := by
  by_cases h : a = 0
  · subst h; simp [mulX]
  · have e : lg 1 = 0 := by decide +kernel
    unfold mulX; rw [if_neg (by omega), e, Nat.zero_add, exN_lg a ha h]
def pwM (i : Nat) (b : Nat) : Nat := if b = 0 then 0 else exN (i + lg b)
theorem pwM_lt {i b : Nat} (hi : i ≤ 254) (hb : b < 256) : pwM i b < 256 := by
  have := lg_le hb
  unfold pwM; split
  · omega
  · exact (exN_pos _ (by omega)).2
theorem pwM_step {i b : Nat} (hi : i < 254) (hb : b < 256) : pwM (i + 1) b = stepN (pwM i b) := by
  have := lg_le hb
  unfold pwM; split
  · rfl
  · rw [show i + 1 + lg b = (i + lg b) + 1 by omega, exN_facts _ (by omega)]
theorem pwM_lin {b c : Nat} (hb : b < 256) (hc : c < 256) : ∀ i, i ≤ 254 → pwM i (b ^^^ c) = pwM i b ^^^ pwM i c
  | 0, _ => by
    have e : ∀ x, x < 256 → pwM 0 x = x := fun x hx => by
      unfold pwM; split
      · omega
      · rw [Nat.zero_add, exN_lg x hx (by assumption)]
    rw [e b hb, e c hc, e _ (xor_lt b c hb hc)]
  | i + 1, h => by
    rw [pwM_step (by omega) (xor_lt b c hb hc), pwM_step (by omega) hb, pwM_step (by omega) hc, pwM_lin hb hc i (by omega), stepN_lin _ _ (pwM_lt (by omega) hb) (pwM_lt (by omega) hc)]
theorem mulX_xor {a b c : Nat} (ha : a < 256) (hb : b < 256) (hc : c < 256) : mulX a (b ^^^ c) = mulX a b ^^^ mulX a c := by
  by_cases h : a = 0
  · subst h; simp [mulX]
  · have e : ∀ x, mulX a x = pwM (lg a) x := fun x => by unfold mulX pwM; by_cases hx : x = 0 <;> simp [h, hx]
    rw [e, e, e, pwM_lin hb hc _ (lg_le ha)]
def divX (a b : Nat) : Nat := if b = 0 ∨ a = 0 then 0 else exN (lg a + 255 - lg b)
theorem divX_mul {a b : Nat} (ha : a < 256) (hb : b < 256) (h : b ≠ 0) : mulX b (divX a b) = a := by
  by_cases h0 : a = 0
  · subst h0; simp [divX, mulX]
  have la := lg_le ha; have lb := lg_le hb
  have e : divX a b = exN (lg a + 255 - lg b) := by unfold divX; rw [if_neg (by omega)]
  have n := exN_pos (lg a + 255 - lg b) (by omega)
  rw [e, mulX, if_neg (by omega), lg_exN _ (by omega), exN_mod _ (by omega)]
  have e2 : (lg b + (lg a + 255 - lg b) % 255) % 255 = lg a := by omega
  rw [e2, exN_lg a ha h0]
end Go.Proofs.Ytggomleegbnhbaa
