import Derived.Test.YtggomleegbnhbaaBf0
set_option linter.unusedSimpArgs false
set_option linter.unusedVariables false
namespace Go.Proofs.Ytggomleegbnhbaa
open Go.RowKit
/-! At bytes. -/
theorem exN_int {i : Nat} (h : i < 510) : ex i = (exN i : Int) := by unfold exN; rw [Int.toNat_of_nonneg (ex_at h).2.1]
theorem mulT_nat {a b : Nat} (ha : a < 256) (hb : b < 256) : mulT (a : Int) (b : Int) = (mulX a b : Int) := by
  have := lg_le ha; have := lg_le hb
  show mulN a b = _
  unfold mulN mulX
  split
  · rfl
  · exact exN_int (by omega)
theorem divT_nat {a b : Nat} (ha : a < 256) (hb : b < 256) : divT (a : Int) (b : Int) = (divX a b : Int) := by
  have := lg_le ha; have := lg_le hb
  show divN a b = _
  unfold divN divX
  split
  · rfl
  · exact exN_int (by omega)
theorem byte_nat {a : Int} (h : byteOk a) : ∃ n : Nat, a = (n : Int) ∧ n < 256 := ⟨a.toNat, by have := h.1; omega, by have := h.1; have := h.2; omega⟩
theorem mulT_comm {a b : Int} (ha : byteOk a) (hb : byteOk b) : mulT a b = mulT b a := by
  obtain ⟨a, rfl, ka⟩ := byte_nat ha
  obtain ⟨b, rfl, kb⟩ := byte_nat hb
  rw [mulT_nat ka kb, mulT_nat kb ka, mulX_comm]
theorem mulT_assoc {a b c : Int} (ha : byteOk a) (hb : byteOk b) (hc : byteOk c) : mulT (mulT a b) c = mulT a (mulT b c) := by
  obtain ⟨a, rfl, ka⟩ := byte_nat ha
  obtain ⟨b, rfl, kb⟩ := byte_nat hb
  obtain ⟨c, rfl, kc⟩ := byte_nat hc
  rw [mulT_nat ka kb, mulT_nat kb kc, mulT_nat (mulX_lt ka kb) kc, mulT_nat ka (mulX_lt kb kc), mulX_assoc ka kb kc]
theorem mulT_bx {a b c : Int} (ha : byteOk a) (hb : byteOk b) (hc : byteOk c) : mulT a (bx b c) = bx (mulT a b) (mulT a c) := by
  obtain ⟨a, rfl, ka⟩ := byte_nat ha
  obtain ⟨b, rfl, kb⟩ := byte_nat hb
  obtain ⟨c, rfl, kc⟩ := byte_nat hc
  rw [bits_nat b c kb kc, mulT_nat ka kb, mulT_nat ka kc, mulT_nat ka (xor_lt b c kb kc), bits_nat _ _ (mulX_lt ka kb) (mulX_lt ka kc), mulX_xor ka kb kc]
theorem bx_mulT {a b c : Int} (ha : byteOk a) (hb : byteOk b) (hc : byteOk c) : mulT (bx a b) c = bx (mulT a c) (mulT b c) := by
  rw [mulT_comm (bx_ok ha hb) hc, mulT_bx hc ha hb, mulT_comm hc ha, mulT_comm hc hb]
theorem ok0 : byteOk 0 := by decide
theorem ok1 : byteOk 1 := by decide
theorem zero_mulT {a : Int} : mulT 0 a = 0 := by show mulN 0 _ = 0; simp [mulN]
theorem mulT_zero {a : Int} : mulT a 0 = 0 := by show mulN _ 0 = 0; simp [mulN]
theorem one_mulT {a : Int} (ha : byteOk a) : mulT 1 a = a := by
  obtain ⟨a, rfl, ka⟩ := byte_nat ha
  rw [show (1 : Int) = ((1 : Nat) : Int) from rfl, mulT_nat (by omega) ka, mulX_one ka]
theorem mulT_one {a : Int} (ha : byteOk a) : mulT a 1 = a := by rw [mulT_comm ha ok1, one_mulT ha]
theorem mulT_ne {a b : Int} (ha : byteOk a) (hb : byteOk b) (h1 : a ≠ 0) (h2 : b ≠ 0) : mulT a b ≠ 0 := by
  obtain ⟨a, rfl, ka⟩ := byte_nat ha
  obtain ⟨b, rfl, kb⟩ := byte_nat hb
  rw [mulT_nat ka kb]
  have := mulX_ne ka kb (by omega) (by omega)
  omega
theorem mulT_div {a b : Int} (ha : byteOk a) (hb : byteOk b) (h : b ≠ 0) : mulT b (divT a b) = a := by
  obtain ⟨a, rfl, ka⟩ := byte_nat ha
  obtain ⟨b, rfl, kb⟩ := byte_nat hb
  have hd : divX a b < 256 := by
    have := lg_le ka; have := lg_le kb
    unfold divX; split
    · omega
    · exact (exN_pos _ (by omega)).2
  rw [divT_nat ka kb, mulT_nat kb hd, divX_mul ka kb (by omega)]
theorem zero_bx {a : Int} (ha : byteOk a) : bx 0 a = a := by rw [bx_comm ok0 ha, bx_zero ha]
theorem bx_eq_zero {a b : Int} (ha : byteOk a) (hb : byteOk b) (h : bx a b = 0) : a = b := by
  have := bx_cancel ha hb
  rw [h, zero_bx hb] at this; exact this.symm
end Go.Proofs.Ytggomleegbnhbaa
