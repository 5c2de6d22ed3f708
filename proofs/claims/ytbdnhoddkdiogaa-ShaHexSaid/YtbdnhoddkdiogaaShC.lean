/- Plain lists: which of two rows of bytes is ahead. No program in sight. -/
import Derived.Test.YtbdnhoddkdiogaaShH
import Derived.Lib.Bytealg
set_option linter.unusedSimpArgs false
set_option linter.unusedVariables false
namespace Go.Proofs.Ytbdnhoddkdiogaa
open Go.RowKit

def lex : List Int → List Int → Bool
  | a :: x, b :: y => if a = b then lex x y else decide (a < b)
  | _, _ => false

theorem lex_self : ∀ a : List Int, lex a a = false
  | [] => rfl
  | x :: a => by simp [lex, lex_self a]
theorem lex_asymm : ∀ a b : List Int, lex a b = true → lex b a = false
  | [], [], h => by simp [lex] at h
  | [], _ :: _, h => by simp [lex] at h
  | _ :: _, [], h => by simp [lex] at h
  | x :: a, y :: b, h => by
    unfold lex at h ⊢
    by_cases e : x = y
    · rw [if_pos e] at h; rw [if_pos e.symm]; exact lex_asymm a b h
    · rw [if_neg e] at h; rw [if_neg (fun h' => e h'.symm)]
      simp at h ⊢; omega
theorem lex_total : ∀ a b : List Int, a.length = b.length → lex a b = false → lex b a = false → a = b
  | [], [], _, _, _ => rfl
  | [], _ :: _, h, _, _ => by simp at h
  | _ :: _, [], h, _, _ => by simp at h
  | x :: a, y :: b, h, h1, h2 => by
    unfold lex at h1 h2
    by_cases e : x = y
    · rw [if_pos e] at h1; rw [if_pos e.symm] at h2
      rw [e, lex_total a b (by simpa using h) h1 h2]
    · rw [if_neg e] at h1; rw [if_neg (fun h' => e h'.symm)] at h2
      simp at h1 h2; omega
theorem lex_trans : ∀ a b c : List Int, lex a b = true → lex b c = true → lex a c = true
  | [], _, _, h, _ => by simp [lex] at h
  | _ :: _, [], _, h, _ => by simp [lex] at h
  | _ :: _, _ :: _, [], _, h => by simp [lex] at h
  | x :: a, y :: b, z :: c, h1, h2 => by
    unfold lex at h1 h2 ⊢
    by_cases e1 : x = y
    · rw [if_pos e1] at h1
      by_cases e2 : y = z
      · rw [if_pos e2] at h2; rw [if_pos (e1.trans e2)]; exact lex_trans a b c h1 h2
      · rw [if_neg e2] at h2; rw [if_neg (by rw [e1]; exact e2), e1]; exact h2
    · rw [if_neg e1] at h1
      by_cases e2 : y = z
      · rw [if_neg (by rw [← e2]; exact e1), ← e2]; exact h1
      · rw [if_neg e2] at h2
        simp at h1 h2
        rw [if_neg (by omega)]; simp; omega
theorem lex_drop : ∀ (a b : List Int) (k : Nat) (h1 : k < a.length) (h2 : k < b.length), lex (a.drop k) (b.drop k) = if a.getD k 0 = b.getD k 0 then lex (a.drop (k + 1)) (b.drop (k + 1)) else decide (a.getD k 0 < b.getD k 0) := by
  intro a b k h1 h2
  rw [List.drop_eq_getElem_cons h1, List.drop_eq_getElem_cons h2, List.getD_eq_getElem?_getD, List.getD_eq_getElem?_getD, List.getElem?_eq_getElem h1, List.getElem?_eq_getElem h2]
  rfl

theorem u8_lt (x y : Int) (hx : 0 ≤ x ∧ x < 256) (hy : 0 ≤ y ∧ y < 256) : (UInt8.ofNat x.toNat < UInt8.ofNat y.toNat) ↔ x < y := by
  rw [UInt8.lt_iff_toNat_lt, UInt8.toNat_ofNat', UInt8.toNat_ofNat']
  omega
theorem u8_eq (x y : Int) (hx : 0 ≤ x ∧ x < 256) (hy : 0 ≤ y ∧ y < 256) : (UInt8.ofNat x.toNat = UInt8.ofNat y.toNat) ↔ x = y := by
  constructor
  · intro h
    have h1 := congrArg UInt8.toNat h
    rw [UInt8.toNat_ofNat', UInt8.toNat_ofNat'] at h1
    omega
  · intro h; rw [h]

theorem bytesOf_cons (x : Int) (l : List Int) : Lib.bytesOf (x :: l) = UInt8.ofNat x.toNat :: Lib.bytesOf l := rfl

theorem compare_lex : ∀ a b : List Int, a.length = b.length → (∀ x ∈ a, 0 ≤ x ∧ x < 256) → (∀ x ∈ b, 0 ≤ x ∧ x < 256) → decide (Lib.compareBytes (Lib.bytesOf a) (Lib.bytesOf b) < 0) = lex a b
  | [], [], _, _, _ => rfl
  | [], _ :: _, h, _, _ => by simp at h
  | _ :: _, [], h, _, _ => by simp at h
  | x :: a, y :: b, h, ha, hb => by
    have hx := ha x (by simp)
    have hy := hb y (by simp)
    have ih := compare_lex a b (by simpa using h) (fun z hz => ha z (by simp [hz])) (fun z hz => hb z (by simp [hz]))
    rw [bytesOf_cons, bytesOf_cons]
    unfold Lib.compareBytes lex
    by_cases e : x = y
    · rw [if_pos e, if_neg (by rw [u8_lt x y hx hy]; omega), if_neg (by rw [u8_lt y x hy hx]; omega)]
      exact ih
    · rw [if_neg e]
      by_cases l : x < y
      · rw [if_pos (by rw [u8_lt x y hx hy]; exact l)]; simp [l]
      · rw [if_neg (by rw [u8_lt x y hx hy]; exact l), if_pos (by rw [u8_lt y x hy hx]; omega)]; simp [l]

theorem bytesLess_lex : ∀ a b : List Int, a.length = b.length → (∀ x ∈ a, 0 ≤ x ∧ x < 256) → (∀ x ∈ b, 0 ≤ x ∧ x < 256) → Op.bytesLess (Lib.bytesOf a) (Lib.bytesOf b) = lex a b
  | [], [], _, _, _ => rfl
  | [], _ :: _, h, _, _ => by simp at h
  | _ :: _, [], h, _, _ => by simp at h
  | x :: a, y :: b, h, ha, hb => by
    have hx := ha x (by simp)
    have hy := hb y (by simp)
    have ih := bytesLess_lex a b (by simpa using h) (fun z hz => ha z (by simp [hz])) (fun z hz => hb z (by simp [hz]))
    rw [bytesOf_cons, bytesOf_cons]
    unfold Op.bytesLess lex
    rw [ih]
    by_cases e : x = y
    · rw [if_pos e, e]
      have : ¬ UInt8.ofNat y.toNat < UInt8.ofNat y.toNat := by rw [u8_lt y y hy hy]; omega
      simp [this]
    · have h2 : ¬ UInt8.ofNat x.toNat = UInt8.ofNat y.toNat := by rw [u8_eq x y hx hy]; exact e
      rw [if_neg e, beq_eq_false_iff_ne.mpr h2]
      simp only [Bool.false_and, Bool.or_false]
      exact decide_eq_decide.2 (u8_lt x y hx hy)

theorem dig_lt (a b : Int) (ha : 0 ≤ a ∧ a < 16) (hb : 0 ≤ b ∧ b < 16) : Sha.dig a < Sha.dig b ↔ a < b := by
  unfold Sha.dig; split <;> split <;> omega

theorem lex_hexs : ∀ a b : List Int, a.length = b.length → (∀ x ∈ a, 0 ≤ x ∧ x < 256) → (∀ x ∈ b, 0 ≤ x ∧ x < 256) → lex (Sha.hexs a) (Sha.hexs b) = lex a b
  | [], [], _, _, _ => rfl
  | [], _ :: _, h, _, _ => by simp at h
  | _ :: _, [], h, _, _ => by simp at h
  | x :: a, y :: b, h, ha, hb => by
    have hx := ha x (by simp)
    have hy := hb y (by simp)
    have ih := lex_hexs a b (by simpa using h) (fun z hz => ha z (by simp [hz])) (fun z hz => hb z (by simp [hz]))
    rw [Sha.hexs_cons, Sha.hexs_cons]
    simp only [lex]
    rw [ih]
    have k1 := dig_lt (x / 16) (y / 16) (by omega) (by omega)
    have k2 := dig_lt (x % 16) (y % 16) (by omega) (by omega)
    by_cases e1 : Sha.dig (x / 16) = Sha.dig (y / 16)
    · have f1 := Sha.dig_inj _ _ (by omega) (by omega) e1
      rw [if_pos e1]
      by_cases e2 : Sha.dig (x % 16) = Sha.dig (y % 16)
      · have f2 := Sha.dig_inj _ _ (by omega) (by omega) e2
        rw [if_pos e2, if_pos (by omega)]
      · have f2 : ¬ x % 16 = y % 16 := fun h => e2 (by rw [h])
        rw [if_neg e2, if_neg (by omega)]
        exact decide_eq_decide.2 (k2.trans (by omega))
    · have f1 : ¬ x / 16 = y / 16 := fun h => e1 (by rw [h])
      rw [if_neg e1, if_neg (by omega)]
      exact decide_eq_decide.2 (k1.trans (by omega))

theorem hex_less (A B : List Int) (h : A.length = B.length) (hA : ∀ x ∈ A, 0 ≤ x ∧ x < 256) (hB : ∀ x ∈ B, 0 ≤ x ∧ x < 256) : Op.bytesLess (strOfNums (Sha.hexs A)).toList (strOfNums (Sha.hexs B)).toList = lex A B := by
  rw [Lib.strOfNums_toList, Lib.strOfNums_toList]
  have k : ∀ l : List Int, (∀ x ∈ l, 0 ≤ x ∧ x < 256) → ∀ y ∈ Sha.hexs l, 0 ≤ y ∧ y < 256 := fun l hl y hy => by
    have := Sha.hexs_bound l hl y hy
    omega
  rw [bytesLess_lex _ _ (by rw [Sha.hexs_length, Sha.hexs_length, h]) (k A hA) (k B hB), lex_hexs A B h hA hB]
end Go.Proofs.Ytbdnhoddkdiogaa
