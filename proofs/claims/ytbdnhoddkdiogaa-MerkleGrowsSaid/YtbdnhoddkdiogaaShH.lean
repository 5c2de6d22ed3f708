/- Plain lists: a digest's text. No program in sight. -/
import Derived.WalkKit
import Derived.Lib.Bytes
import Derived.Test.YtbdnhoddkdiogaaShQ
set_option linter.unusedSimpArgs false
set_option linter.unusedVariables false
namespace Go.Proofs.Ytbdnhoddkdiogaa

namespace Sha
def dig (n : Int) : Int := if n < 10 then 48 + n else 87 + n
def hexs (l : List Int) : List Int := l.flatMap fun x => [dig (x / 16), dig (x % 16)]
theorem hexs_snoc (l : List Int) (x : Int) : hexs (l ++ [x]) = hexs l ++ [dig (x / 16), dig (x % 16)] := by simp [hexs]
theorem hexs_length (l : List Int) : (hexs l).length = 2 * l.length := by
  induction l with
  | nil => rfl
  | cons x l ih => simp [hexs] at ih ⊢; omega
theorem hexs_take_succ (l : List Int) (i : Nat) (h : i < l.length) : hexs (l.take (i + 1)) = hexs (l.take i) ++ [dig (l.getD i 0 / 16), dig (l.getD i 0 % 16)] := by
  rw [List.take_add_one, List.getElem?_eq_getElem h, Option.toList_some, hexs_snoc, List.getD_eq_getElem?_getD, List.getElem?_eq_getElem h]
  rfl
theorem getD_bound8 {l : List Int} (hb : ∀ x ∈ l, 0 ≤ x ∧ x < 256) (i : Nat) (h : i < l.length) : 0 ≤ l.getD i 0 ∧ l.getD i 0 < 256 := by
  rw [List.getD_eq_getElem?_getD, List.getElem?_eq_getElem h]
  exact hb _ (List.getElem_mem h)
theorem dig_bound (n : Int) (h0 : 0 ≤ n) (h1 : n < 16) : 48 ≤ dig n ∧ dig n < 103 := by
  unfold dig; split <;> omega
theorem hexs_bound (l : List Int) (h : ∀ x ∈ l, 0 ≤ x ∧ x < 256) : ∀ y ∈ hexs l, 48 ≤ y ∧ y < 103 := by
  intro y hy
  simp only [hexs, List.mem_flatMap, List.mem_cons, List.not_mem_nil, or_false] at hy
  obtain ⟨x, hx, hy⟩ := hy
  have := h x hx
  rcases hy with rfl | rfl
  · exact dig_bound _ (by omega) (by omega)
  · exact dig_bound _ (by omega) (by omega)
theorem dig_inj (a b : Int) (ha : 0 ≤ a ∧ a < 16) (hb : 0 ≤ b ∧ b < 16) (h : dig a = dig b) : a = b := by
  unfold dig at h; split at h <;> split at h <;> omega
theorem hexs_cons (x : Int) (l : List Int) : hexs (x :: l) = dig (x / 16) :: dig (x % 16) :: hexs l := rfl
theorem hexs_inj : ∀ (a b : List Int), (∀ x ∈ a, 0 ≤ x ∧ x < 256) → (∀ x ∈ b, 0 ≤ x ∧ x < 256) → hexs a = hexs b → a = b
  | [], [], _, _, _ => rfl
  | [], y :: b, _, _, h => by rw [hexs_cons] at h; cases h
  | x :: a, [], _, _, h => by rw [hexs_cons] at h; cases h
  | x :: a, y :: b, ha, hb, h => by
    rw [hexs_cons, hexs_cons] at h
    simp only [List.cons.injEq] at h
    obtain ⟨h1, h2, h3⟩ := h
    have hx := ha x (by simp)
    have hy := hb y (by simp)
    have e1 := dig_inj _ _ (by omega) (by omega) h1
    have e2 := dig_inj _ _ (by omega) (by omega) h2
    have e : x = y := by omega
    rw [e, hexs_inj a b (fun z hz => ha z (by simp [hz])) (fun z hz => hb z (by simp [hz])) h3]
end Sha

theorem and15 (x : Int) (h0 : 0 ≤ x) (h1 : x < 256) : bits .and .u8 x 15 = x % 16 := by
  rw [u8_and x 15 h0 h1 (by decide) (by decide), show ((15 : Int).toNat) = 2 ^ 4 - 1 from rfl, Nat.and_two_pow_sub_one_eq_mod]
  omega
theorem digit_at (i : Int) (h0 : 0 ≤ i) (h1 : i < 16) (hi : i.toNat < (⟨#[48, 49, 50, 51, 52, 53, 54, 55, 56, 57, 97, 98, 99, 100, 101, 102]⟩ : ByteArray).size) :
    (((⟨#[48, 49, 50, 51, 52, 53, 54, 55, 56, 57, 97, 98, 99, 100, 101, 102]⟩ : ByteArray)[i.toNat]'hi).toNat : Int) = Sha.dig i := by
  obtain ⟨n, rfl⟩ := Int.eq_ofNat_of_zero_le h0
  have hn : n = 0 ∨ n = 1 ∨ n = 2 ∨ n = 3 ∨ n = 4 ∨ n = 5 ∨ n = 6 ∨ n = 7 ∨ n = 8 ∨ n = 9 ∨ n = 10 ∨ n = 11 ∨ n = 12 ∨ n = 13 ∨ n = 14 ∨ n = 15 := by omega
  rcases hn with rfl | rfl | rfl | rfl | rfl | rfl | rfl | rfl | rfl | rfl | rfl | rfl | rfl | rfl | rfl | rfl <;> rfl
theorem index_digits {P : Program} (w : World) (t : TypeId) (k : IntKind) (i : Int) (h : P.underlying t = some .string) (h0 : 0 ≤ i) (h1 : i < 16) :
    (Instr.index t (.string ⟨#[48, 49, 50, 51, 52, 53, 54, 55, 56, 57, 97, 98, 99, 100, 101, 102]⟩) (.int k i)).run P w = .ok (.int .u8 (Sha.dig i)) w := by
  rw [run_index_string w t _ k i h]
  obtain ⟨n, rfl⟩ := Int.eq_ofNat_of_zero_le h0
  have hn : n = 0 ∨ n = 1 ∨ n = 2 ∨ n = 3 ∨ n = 4 ∨ n = 5 ∨ n = 6 ∨ n = 7 ∨ n = 8 ∨ n = 9 ∨ n = 10 ∨ n = 11 ∨ n = 12 ∨ n = 13 ∨ n = 14 ∨ n = 15 := by omega
  rcases hn with rfl | rfl | rfl | rfl | rfl | rfl | rfl | rfl | rfl | rfl | rfl | rfl | rfl | rfl | rfl | rfl <;> rfl
/-- Numbers below 256 and their bytes. -/
theorem bytesOf_inj : ∀ (a b : List Int), (∀ x ∈ a, 0 ≤ x ∧ x < 256) → (∀ x ∈ b, 0 ≤ x ∧ x < 256) → Lib.bytesOf a = Lib.bytesOf b → a = b
  | [], [], _, _, _ => rfl
  | [], y :: b, _, _, h => by simp [Lib.bytesOf] at h
  | x :: a, [], _, _, h => by simp [Lib.bytesOf] at h
  | x :: a, y :: b, ha, hb, h => by
    have h : UInt8.ofNat x.toNat = UInt8.ofNat y.toNat ∧ Lib.bytesOf a = Lib.bytesOf b := by simpa [Lib.bytesOf] using h
    have hx := ha x (by simp)
    have hy := hb y (by simp)
    have e : x = y := by
      have h1 := congrArg UInt8.toNat h.1
      rw [UInt8.toNat_ofNat', UInt8.toNat_ofNat'] at h1
      omega
    rw [e, bytesOf_inj a b (fun z hz => ha z (by simp [hz])) (fun z hz => hb z (by simp [hz])) h.2]
theorem hex_eq (A B : List Int) (hA : ∀ x ∈ A, 0 ≤ x ∧ x < 256) (hB : ∀ x ∈ B, 0 ≤ x ∧ x < 256) : ((strOfNums (Sha.hexs A)).toList == (strOfNums (Sha.hexs B)).toList) = (A == B) := by
  rw [Lib.strOfNums_toList, Lib.strOfNums_toList]
  have k : ∀ l : List Int, (∀ x ∈ l, 0 ≤ x ∧ x < 256) → ∀ y ∈ Sha.hexs l, 0 ≤ y ∧ y < 256 := fun l hl y hy => by
    have := Sha.hexs_bound l hl y hy
    omega
  by_cases h : A = B
  · subst h; simp
  · have h2 : ¬ Lib.bytesOf (Sha.hexs A) = Lib.bytesOf (Sha.hexs B) := fun he => h (Sha.hexs_inj A B hA hB (bytesOf_inj _ _ (k A hA) (k B hB) he))
    rw [beq_eq_false_iff_ne.mpr h2, beq_eq_false_iff_ne.mpr h]
end Go.Proofs.Ytbdnhoddkdiogaa
