/- Plain law: steps of the lists that the walks of package sha go through. -/
import Derived.Test.YtbdnhoddkdiogaaShP
namespace Go.Proofs.Ytbdnhoddkdiogaa.Sha
open Go.RowKit

theorem words_get (l : List Int) (i : Nat) (h : i < l.length) : (words l)[i]? = some (.int .u32 (l.getD i 0)) := by
  simp [words, h]
theorem words_set (l : List Int) (i : Nat) (v : Int) : (words l).setIfInBounds i (.int .u32 v) = words (l.set i v) := by
  simp [words, List.map_set]
theorem pad_length (l : List Int) (n : Nat) (h : l.length ≤ n) : (pad l n).length = n := by simp [pad]; omega
theorem pad_set (l : List Int) (n : Nat) (v : Int) (h : l.length < n) : (pad l n).set l.length v = pad (l ++ [v]) n := by
  unfold pad
  obtain ⟨d, hd⟩ : ∃ d, n - l.length = d + 1 := ⟨n - l.length - 1, by omega⟩
  have h2 : n - (l ++ [v]).length = d := by simp; omega
  rw [hd, h2, List.set_append_right _ _ (Nat.le_refl _), Nat.sub_self, List.replicate_succ]
  simp
theorem pad_get_lt (l : List Int) (n i : Nat) (h : i < l.length) : (pad l n).getD i 0 = l.getD i 0 := by
  simp [pad, List.getElem?_append_left h]
theorem pad_get_ge (l : List Int) (n i : Nat) (h : l.length ≤ i) : (pad l n).getD i 0 = 0 := by
  simp only [pad, List.getD_eq_getElem?_getD, List.getElem?_append_right h, List.getElem?_replicate]
  split <;> rfl
theorem pad_set_zero (l : List Int) (n i : Nat) (h : l.length ≤ i) : (pad l n).set i 0 = pad l n := by
  apply List.ext_getElem?
  intro j
  rw [List.getElem?_set]
  split
  · rename_i e
    subst e
    split
    · rename_i hl
      have := pad_get_ge l n i h
      rw [List.getD_eq_getElem?_getD, List.getElem?_eq_getElem hl] at this
      rw [List.getElem?_eq_getElem hl]
      simpa using this.symm
    · rename_i hl
      rw [List.getElem?_eq_none (by omega)]
  · rfl

/-- The bytes of a word, so many of them. -/
def acc (xs : List Int) (i : Nat) : Nat → Int
  | 0 => 0
  | j + 1 => acc xs i j * 256 + xs.getD (4 * i + j) 0
theorem acc_four (xs : List Int) (i : Nat) : acc xs i 4 = word xs i := by simp [acc, word]
theorem acc_bound (xs : List Int) (hb : ∀ i, 0 ≤ xs.getD i 0 ∧ xs.getD i 0 < 256) (i j : Nat) (h : j ≤ 4) : 0 ≤ acc xs i j ∧ acc xs i j < 256 ^ j := by
  have h0 := hb (4 * i)
  have h1 := hb (4 * i + 1)
  have h2 := hb (4 * i + 2)
  have h3 := hb (4 * i + 3)
  rcases (show j = 0 ∨ j = 1 ∨ j = 2 ∨ j = 3 ∨ j = 4 by omega) with rfl | rfl | rfl | rfl | rfl <;> simp [acc] at * <;> omega
theorem or_byte (v x : Int) (hv : 0 ≤ v) (hv2 : v < 16777216) (hx : 0 ≤ x) (hx2 : x < 256) : bits .or .u32 (v * 256) x = v * 256 + x := by
  obtain ⟨a, rfl⟩ := Int.eq_ofNat_of_zero_le hv
  obtain ⟨b, rfl⟩ := Int.eq_ofNat_of_zero_le hx
  have e : ((a : Int) * 256) = ((a * 256 : Nat) : Int) := by omega
  rw [e, Go.u32_or_nat _ _ (by omega) (by omega)]
  have : a * 256 ||| b = a * 256 + b := by
    have := Nat.two_pow_add_eq_or_of_lt (i := 8) (b := b) (by omega) a
    rw [show (2 : Nat) ^ 8 = 256 by decide, Nat.mul_comm] at this
    exact this.symm
  rw [this]; simp

theorem next_bound (xs l : List Int) (hb : ∀ i, 0 ≤ xs.getD i 0 ∧ xs.getD i 0 < 256) (i : Nat) : 0 ≤ next xs l i ∧ next xs l i < 4294967296 := by
  unfold next
  split
  · have := acc_bound xs hb i 4 (by omega)
    rw [acc_four] at this
    omega
  · omega
theorem sched_bound (xs : List Int) (hb : ∀ i, 0 ≤ xs.getD i 0 ∧ xs.getD i 0 < 256) (n i : Nat) : 0 ≤ (sched xs n).getD i 0 ∧ (sched xs n).getD i 0 < 4294967296 := by
  induction n with
  | zero => simp [sched]
  | succ n ih =>
    simp only [sched, List.getD_eq_getElem?_getD, List.getElem?_append] at ih ⊢
    split
    · exact ih
    · have := next_bound xs (sched xs n) hb n
      rcases hc : i - (sched xs n).length with _ | j
      · simpa using this
      · simp

theorem mixed_length (h wl kl : List Int) (h8 : h.length = 8) (n : Nat) : (mixed h wl kl n).length = 8 := by
  cases n with
  | zero => exact h8
  | succ n => rfl
theorem mixed_bound (h wl kl : List Int) (hb : ∀ x ∈ h, 0 ≤ x ∧ x < 4294967296) (n : Nat) : ∀ x ∈ mixed h wl kl n, 0 ≤ x ∧ x < 4294967296 := by
  induction n with
  | zero => exact hb
  | succ n ih =>
    have g : ∀ i, 0 ≤ (mixed h wl kl n).getD i 0 ∧ (mixed h wl kl n).getD i 0 < 4294967296 := by
      intro i
      rw [List.getD_eq_getElem?_getD]
      rcases hi : (mixed h wl kl n)[i]? with _ | v
      · simp
      · exact ih v (List.mem_of_getElem? hi)
    intro x hx
    simp only [mixed, step, List.mem_cons, List.not_mem_nil, or_false] at hx
    rcases hx with rfl | rfl | rfl | rfl | rfl | rfl | rfl | rfl
    · omega
    · exact g 0
    · exact g 1
    · exact g 2
    · omega
    · exact g 4
    · exact g 5
    · exact g 6
theorem getD_bound {l : List Int} (hb : ∀ x ∈ l, 0 ≤ x ∧ x < 4294967296) (i : Nat) (h : i < l.length) : 0 ≤ l.getD i 0 ∧ l.getD i 0 < 4294967296 := by
  rw [List.getD_eq_getElem?_getD, List.getElem?_eq_getElem h]
  exact hb _ (List.getElem_mem h)

/-- The first n words added, the others as they were. -/
def adds (s k0 : List Int) : Nat → List Int
  | 0 => s
  | n + 1 => (adds s k0 n).set n ((s.getD n 0 + k0.getD n 0) % 4294967296)
theorem adds_length (s k0 : List Int) (n : Nat) : (adds s k0 n).length = s.length := by
  induction n with
  | zero => rfl
  | succ n ih => simp [adds, ih]
theorem adds_getD (s k0 : List Int) (n i : Nat) (h : n ≤ i) : (adds s k0 n).getD i 0 = s.getD i 0 := by
  induction n with
  | zero => rfl
  | succ n ih =>
    rw [adds, List.getD_eq_getElem?_getD, List.getElem?_set_ne (by omega), ← List.getD_eq_getElem?_getD]
    exact ih (by omega)
theorem adds_eight (s k0 : List Int) (h : s.length = 8) : adds s k0 8 = add s k0 := by
  obtain ⟨a, b, c, d, e, f, g, x, rfl⟩ : ∃ a b c d e f g x, s = [a, b, c, d, e, f, g, x] := by
    match s, h with
    | [a, b, c, d, e, f, g, x], _ => exact ⟨a, b, c, d, e, f, g, x, rfl⟩
  rfl
theorem words_eight (a b c d e f g x : Int) : (words [a, b, c, d, e, f, g, x]).size = 8 := rfl

end Go.Proofs.Ytbdnhoddkdiogaa.Sha
