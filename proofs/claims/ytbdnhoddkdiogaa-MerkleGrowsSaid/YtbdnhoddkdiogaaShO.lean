/- Plain law: the digest of bytes, on lists of numbers. No program in sight. -/
import Derived.Test.YtbdnhoddkdiogaaShQ
namespace Go.Proofs.Ytbdnhoddkdiogaa.Sha
open Go.RowKit

/-- So many zeros stand behind the mark. -/
def zeros (n : Nat) : Nat := (119 - n % 64) % 64
/-- Byte j of the length in bits, the highest first. -/
def lenByte (n j : Nat) : Int := (n : Int) * 8 / 2 ^ (8 * (7 - j)) % 256
def lenBytes (n : Nat) : Nat → List Int
  | 0 => []
  | j + 1 => lenBytes n j ++ [lenByte n j]
def front (xs : List Int) (k : Nat) : List Int := xs ++ [128] ++ List.replicate k 0
def text (xs : List Int) : List Int := front xs (zeros xs.length) ++ lenBytes xs.length 8
def hashes (t : List Int) : Nat → List Int
  | 0 => start
  | m + 1 => mix (hashes t m) (hashes t m) (sched (t.drop (64 * m)) 64) rounds
/-- Byte q of the words. -/
def outByte (h : List Int) (q : Nat) : Int := h.getD (q / 4) 0 / 2 ^ (24 - 8 * (q % 4)) % 256
def outs (h : List Int) : Nat → List Int
  | 0 => []
  | q + 1 => outs h q ++ [outByte h q]
def of (xs : List Int) : List Int := outs (hashes (text xs) ((text xs).length / 64)) 32

theorem front_length (xs : List Int) (k : Nat) : (front xs k).length = xs.length + 1 + k := by simp [front]; omega
theorem lenBytes_length (n j : Nat) : (lenBytes n j).length = j := by
  induction j with
  | zero => rfl
  | succ j ih => simp [lenBytes, ih]
theorem outs_length (h : List Int) (q : Nat) : (outs h q).length = q := by
  induction q with
  | zero => rfl
  | succ q ih => simp [outs, ih]
theorem text_length (xs : List Int) : (text xs).length = xs.length + 9 + zeros xs.length := by
  simp [text, front_length, lenBytes_length]; omega
theorem text_blocks (xs : List Int) : (text xs).length % 64 = 0 := by
  rw [text_length]; unfold zeros; omega
theorem front_succ (xs : List Int) (k : Nat) : front xs (k + 1) = front xs k ++ [0] := by
  simp [front, List.replicate_succ']
theorem front_bound (xs : List Int) (hb : ∀ x ∈ xs, 0 ≤ x ∧ x < 256) (k : Nat) : ∀ x ∈ front xs k, 0 ≤ x ∧ x < 256 := by
  intro x hx
  simp only [front, List.mem_append, List.mem_replicate, List.mem_cons, List.not_mem_nil, or_false] at hx
  rcases hx with (h | h) | ⟨_, h⟩
  · exact hb x h
  · omega
  · omega
theorem lenBytes_bound (n j : Nat) : ∀ x ∈ lenBytes n j, 0 ≤ x ∧ x < 256 := by
  induction j with
  | zero => intro x hx; simp [lenBytes] at hx
  | succ j ih =>
    intro x hx
    simp only [lenBytes, List.mem_append, List.mem_cons, List.not_mem_nil, or_false] at hx
    rcases hx with h | rfl
    · exact ih x h
    · unfold lenByte; omega
theorem text_bound (xs : List Int) (hb : ∀ x ∈ xs, 0 ≤ x ∧ x < 256) : ∀ x ∈ text xs, 0 ≤ x ∧ x < 256 := by
  intro x hx
  simp only [text, List.mem_append] at hx
  rcases hx with h | h
  · exact front_bound xs hb _ x h
  · exact lenBytes_bound _ _ x h
theorem getD_byte {l : List Int} (hb : ∀ x ∈ l, 0 ≤ x ∧ x < 256) (i : Nat) : 0 ≤ l.getD i 0 ∧ l.getD i 0 < 256 := by
  by_cases h : i < l.length
  · rw [List.getD_eq_getElem?_getD, List.getElem?_eq_getElem h]
    exact hb _ (List.getElem_mem h)
  · rw [List.getD_eq_getElem?_getD, List.getElem?_eq_none (by omega)]
    simp
theorem drop_getD (l : List Int) (k i : Nat) : (l.drop k).getD i 0 = l.getD (k + i) 0 := by
  simp [List.getD_eq_getElem?_getD, List.getElem?_drop]
theorem add_length (a b : List Int) : (add a b).length = 8 := by simp [add]
theorem add_bound (a b : List Int) : ∀ x ∈ add a b, 0 ≤ x ∧ x < 4294967296 := by
  intro x hx
  simp only [add, List.mem_map] at hx
  obtain ⟨i, _, rfl⟩ := hx
  omega
theorem hashes_length (t : List Int) (m : Nat) : (hashes t m).length = 8 := by
  cases m with
  | zero => rfl
  | succ m => exact add_length _ _
theorem hashes_bound (t : List Int) (m : Nat) : ∀ x ∈ hashes t m, 0 ≤ x ∧ x < 4294967296 := by
  cases m with
  | zero => exact (by decide : ∀ x ∈ start, 0 ≤ x ∧ x < 4294967296)
  | succ m => exact add_bound _ _
theorem of_length (xs : List Int) : (of xs).length = 32 := outs_length _ _
theorem outs_bound (h : List Int) (q : Nat) : ∀ x ∈ outs h q, 0 ≤ x ∧ x < 256 := by
  induction q with
  | zero => intro x hx; simp [outs] at hx
  | succ q ih =>
    intro x hx
    simp only [outs, List.mem_append, List.mem_cons, List.not_mem_nil, or_false] at hx
    rcases hx with h | rfl
    · exact ih x h
    · unfold outByte; omega
theorem of_bound (xs : List Int) : ∀ x ∈ of xs, 0 ≤ x ∧ x < 256 := outs_bound _ _
end Go.Proofs.Ytbdnhoddkdiogaa.Sha
