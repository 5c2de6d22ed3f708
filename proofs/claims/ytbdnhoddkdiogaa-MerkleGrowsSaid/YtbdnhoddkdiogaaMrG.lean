import Derived.KernelRfl
set_option linter.unusedSimpArgs false
set_option linter.unusedVariables false
namespace Go.Proofs.Ytbdnhoddkdiogaa
/-! Peaks of a list of nodes; grown by one; the root out of them. Plain Lean, no program. -/
namespace Grow
def sp (n : Nat) : Nat := 2 ^ Nat.log2 (n - 1)
theorem sp_spec (n : Nat) (h : 2 ≤ n) : 1 ≤ sp n ∧ sp n < n ∧ n ≤ 2 * sp n := by
  have h0 : n - 1 ≠ 0 := by omega
  have h1 := Nat.log2_self_le h0
  have h2 := Nat.lt_log2_self (n := n - 1)
  unfold sp
  rw [Nat.pow_succ] at h2
  exact ⟨Nat.one_le_two_pow, by omega, by omega⟩
theorem sp_unique {n a : Nat} (h : 2 ≤ n) (h1 : 2 ^ a < n) (h2 : n ≤ 2 * 2 ^ a) : sp n = 2 ^ a := by
  obtain ⟨-, s1, s2⟩ := sp_spec n h
  unfold sp at *
  generalize Nat.log2 (n - 1) = b at *
  rcases Nat.lt_trichotomy a b with hab | hab | hab
  · have := Nat.pow_le_pow_right (n := 2) (by decide) hab
    rw [Nat.pow_succ] at this; omega
  · rw [hab]
  · have := Nat.pow_le_pow_right (n := 2) (by decide) hab
    rw [Nat.pow_succ] at this; omega
theorem sp_two (n : Nat) (h : 2 ≤ n) : sp (2 * n) = 2 * sp n := by
  obtain ⟨-, s1, s2⟩ := sp_spec n h
  have e : 2 * sp n = 2 ^ (Nat.log2 (n - 1) + 1) := by rw [Nat.pow_succ, Nat.mul_comm]; rfl
  rw [e]
  exact sp_unique (by omega) (by rw [← e]; omega) (by rw [← e]; omega)
theorem sp_odd (n : Nat) (h : 1 ≤ n) : sp (2 * n + 1) = 2 * sp (n + 1) := by
  obtain ⟨-, s1, s2⟩ := sp_spec (n + 1) (by omega)
  have e : 2 * sp (n + 1) = 2 ^ (Nat.log2 (n + 1 - 1) + 1) := by rw [Nat.pow_succ, Nat.mul_comm]; rfl
  rw [e]
  exact sp_unique (by omega) (by rw [← e]; omega) (by rw [← e]; omega)
theorem sp_odd' (n : Nat) (h : 1 ≤ n) : sp (2 * n + 2) = 2 * sp (n + 1) := sp_two (n + 1) (by omega)
theorem sp_stay {n : Nat} (h : 2 ≤ n) (h1 : sp (n + 1) < n) : sp n = sp (n + 1) := by
  obtain ⟨-, s1, s2⟩ := sp_spec (n + 1) (by omega)
  exact sp_unique h h1 (by show n ≤ 2 * sp (n + 1); omega)
section
variable {D : Type} (B : D → D → D) (z : D)
/-- The root of nodes. -/
def root : Nat → List D → D
  | 0, _ => z
  | f + 1, l => if l.length ≤ 1 then l.headD z else B (root f (l.take (sp l.length))) (root f (l.drop (sp l.length)))
theorem root_fuel : ∀ (f g : Nat) (l : List D), l.length ≤ f → l.length ≤ g → root B z f l = root B z g l
  | 0, 0, _, _, _ => rfl
  | 0, g + 1, l, h, _ => by
    rw [List.eq_nil_of_length_eq_zero (Nat.le_zero.1 h)]; rfl
  | f + 1, 0, l, _, h => by
    rw [List.eq_nil_of_length_eq_zero (Nat.le_zero.1 h)]; rfl
  | f + 1, g + 1, l, h, h' => by
    unfold root
    by_cases h1 : l.length ≤ 1
    · rw [if_pos h1, if_pos h1]
    · obtain ⟨s0, s1, s2⟩ := sp_spec l.length (by omega)
      rw [if_neg h1, if_neg h1, root_fuel f g _ (by rw [List.length_take]; omega) (by rw [List.length_take]; omega), root_fuel f g _ (by rw [List.length_drop]; omega) (by rw [List.length_drop]; omega)]
def R (l : List D) : D := root B z l.length l
theorem R_one (d : D) : R B z [d] = d := rfl
theorem R_two {l : List D} (h : 2 ≤ l.length) : R B z l = B (R B z (l.take (sp l.length))) (R B z (l.drop (sp l.length))) := by
  obtain ⟨s0, s1, s2⟩ := sp_spec l.length h
  obtain ⟨f, hf⟩ : ∃ f, l.length = f + 1 := ⟨l.length - 1, by omega⟩
  have e : R B z l = root B z (f + 1) l := by unfold R; rw [hf]
  rw [e, root, if_neg (by omega)]
  unfold R
  rw [root_fuel B z f _ _ (by rw [List.length_take]; omega) (Nat.le_refl _), root_fuel B z f _ _ (by rw [List.length_drop]; omega) (Nat.le_refl _)]
/-- Nodes two by two. -/
def pair : List D → List D
  | a :: b :: l => B a b :: pair l
  | _ => []
theorem pair_len : ∀ l : List D, (pair B l).length = l.length / 2
  | [] => by simp [pair]
  | [_] => by simp [pair]
  | a :: b :: l => by simp only [pair, List.length_cons, pair_len l]; omega
theorem pair_take : ∀ (k : Nat) (l : List D), pair B (l.take (2 * k)) = (pair B l).take k
  | 0, l => by simp [pair]
  | k + 1, [] => by simp [pair]
  | k + 1, [a] => by
    rw [show 2 * (k + 1) = 2 * k + 1 + 1 by omega]; simp [pair]
  | k + 1, a :: b :: l => by
    rw [show 2 * (k + 1) = 2 * k + 1 + 1 by omega, List.take_succ_cons, List.take_succ_cons]
    simp only [pair, List.take_succ_cons, pair_take k l]
theorem pair_drop : ∀ (k : Nat) (l : List D), pair B (l.drop (2 * k)) = (pair B l).drop k
  | 0, l => by simp
  | k + 1, [] => by simp [pair]
  | k + 1, [a] => by
    rw [show 2 * (k + 1) = 2 * k + 1 + 1 by omega]; simp [pair]
  | k + 1, a :: b :: l => by
    rw [show 2 * (k + 1) = 2 * k + 1 + 1 by omega, List.drop_succ_cons, List.drop_succ_cons]
    simp only [pair, List.drop_succ_cons, pair_drop k l]
theorem R_pair : ∀ (n : Nat) (l : List D), 1 ≤ n → l.length = 2 * n → R B z l = R B z (pair B l)
  | n, l, hn, hl => by
    by_cases h1 : n = 1
    · subst h1
      match l, hl with
      | [a, b], _ => rfl
    · obtain ⟨s0, s1, s2⟩ := sp_spec n (by omega)
      have pl : (pair B l).length = n := by rw [pair_len, hl]; omega
      rw [R_two B z (by omega), R_two (l := pair B l) B z (by omega), pl, hl, sp_two n (by omega), ← pair_take, ← pair_drop,
        R_pair (sp n) (l.take (2 * sp n)) s0 (by rw [List.length_take]; omega), R_pair (n - sp n) (l.drop (2 * sp n)) (by omega) (by rw [List.length_drop]; omega)]
termination_by n => n
/-- Peaks. -/
def peaksN : Nat → List D → List D
  | 0, _ => []
  | f + 1, l => if l.length = 0 then [] else R B z (l.take (sp (l.length + 1))) :: peaksN f (l.drop (sp (l.length + 1)))
theorem peaks_fuel : ∀ (f g : Nat) (l : List D), l.length ≤ f → l.length ≤ g → peaksN B z f l = peaksN B z g l
  | 0, 0, _, _, _ => rfl
  | 0, g + 1, l, h, _ => by
    rw [List.eq_nil_of_length_eq_zero (Nat.le_zero.1 h)]; rfl
  | f + 1, 0, l, _, h => by
    rw [List.eq_nil_of_length_eq_zero (Nat.le_zero.1 h)]; rfl
  | f + 1, g + 1, l, h, h' => by
    unfold peaksN
    by_cases h1 : l.length = 0
    · rw [if_pos h1, if_pos h1]
    · obtain ⟨s0, s1, s2⟩ := sp_spec (l.length + 1) (by omega)
      rw [if_neg h1, if_neg h1, peaks_fuel f g _ (by rw [List.length_drop]; omega) (by rw [List.length_drop]; omega)]
def P (l : List D) : List D := peaksN B z l.length l
theorem P_nil : P B z ([] : List D) = [] := rfl
theorem P_cons {l : List D} (h : 1 ≤ l.length) : P B z l = R B z (l.take (sp (l.length + 1))) :: P B z (l.drop (sp (l.length + 1))) := by
  obtain ⟨s0, s1, s2⟩ := sp_spec (l.length + 1) (by omega)
  obtain ⟨f, hf⟩ : ∃ f, l.length = f + 1 := ⟨l.length - 1, by omega⟩
  have e : P B z l = peaksN B z (f + 1) l := by unfold P; rw [hf]
  rw [e, peaksN, if_neg (by omega)]
  unfold P
  rw [peaks_fuel B z f _ _ (by rw [List.length_drop]; omega) (Nat.le_refl _)]
theorem P_ne {l : List D} (h : 1 ≤ l.length) : P B z l ≠ [] := by rw [P_cons B z h]; exact List.cons_ne_nil _ _
theorem P_one (d : D) : P B z [d] = [d] := by
  rw [P_cons B z (by simp)]; rfl
/-- Of an even number of nodes the peaks are those of the pairs; an odd one stands alone. -/
theorem P_pair : ∀ (n : Nat) (l : List D), l.length = 2 * n → P B z l = P B z (pair B l)
  | n, l, hl => by
    by_cases h0 : n = 0
    · subst h0
      rw [List.eq_nil_of_length_eq_zero hl]; rfl
    · have pl : (pair B l).length = n := by rw [pair_len, hl]; omega
      obtain ⟨s0, s1, s2⟩ := sp_spec (n + 1) (by omega)
      rw [P_cons B z (by omega), P_cons (l := pair B l) B z (by omega), pl, hl, sp_odd n (by omega), ← pair_take, ← pair_drop,
        R_pair B z (sp (n + 1)) _ s0 (by rw [List.length_take]; omega), P_pair (n - sp (n + 1)) _ (by rw [List.length_drop]; omega)]
termination_by n => n
theorem P_last : ∀ (n : Nat) (l : List D) (d : D), l.length = 2 * n → P B z (l ++ [d]) = P B z (pair B l) ++ [d]
  | n, l, d, hl => by
    by_cases h0 : n = 0
    · subst h0
      rw [List.eq_nil_of_length_eq_zero hl]; exact P_one B z d
    · have pl : (pair B l).length = n := by rw [pair_len, hl]; omega
      obtain ⟨s0, s1, s2⟩ := sp_spec (n + 1) (by omega)
      have ll : (l ++ [d]).length = 2 * n + 1 := by simp [hl]
      rw [P_cons B z (by omega), P_cons (l := pair B l) B z (by omega), pl, ll, sp_odd' n (by omega), ← pair_take, ← pair_drop,
        List.take_append_of_le_length (by omega), List.drop_append_of_le_length (by omega),
        R_pair B z (sp (n + 1)) _ s0 (by rw [List.length_take]; omega), P_last (n - sp (n + 1)) _ d (by rw [List.length_drop]; omega)]
      rfl
termination_by n => n
theorem pair_snoc : ∀ (n : Nat) (l : List D) (a b : D), l.length = 2 * n → pair B (l ++ [a] ++ [b]) = pair B l ++ [B a b]
  | 0, l, a, b, h => by rw [List.eq_nil_of_length_eq_zero h]; rfl
  | n + 1, [], a, b, h => by simp at h
  | n + 1, [_], a, b, h => by simp at h; omega
  | n + 1, x :: y :: l, a, b, h => by
    have ih := pair_snoc n l a b (by simp at h; omega)
    show B x y :: pair B (l ++ [a] ++ [b]) = _
    rw [ih]; rfl
/-- The counter's way: what is odd takes the last peak in. -/
def grow : Nat → List D → Nat → D → List D
  | 0, ps, _, d => ps ++ [d]
  | f + 1, ps, n, d => if n % 2 = 1 then grow f ps.dropLast (n / 2) (B (ps.getLastD z) d) else ps ++ [d]
theorem grow_P : ∀ (f : Nat) (l : List D) (d : D), l.length ≤ f → grow B z f (P B z l) l.length d = P B z (l ++ [d])
  | 0, l, d, h => by
    rw [List.eq_nil_of_length_eq_zero (Nat.le_zero.1 h)]; exact (P_one B z d).symm
  | f + 1, l, d, h => by
    unfold grow
    by_cases h1 : l.length % 2 = 1
    · rw [if_pos h1]
      obtain ⟨q, hq⟩ : ∃ q, l.length = 2 * q + 1 := ⟨l.length / 2, by omega⟩
      have hne : l ≠ [] := fun e => by rw [e] at hq; simp at hq
      have e := List.dropLast_concat_getLast hne
      generalize hes : l.dropLast = es at e
      generalize l.getLast hne = p at e
      have esl : es.length = 2 * q := by rw [← hes, List.length_dropLast]; omega
      rw [← e, P_last B z q es p esl, List.dropLast_concat, List.getLastD_concat]
      have pl : (pair B es).length = q := by rw [pair_len, esl]; omega
      have ih := grow_P f (pair B es) (B p d) (by omega)
      rw [show (es ++ [p]).length / 2 = (pair B es).length by rw [pl]; simp [esl]; omega, ih, ← pair_snoc B q es p d esl,
        ← P_pair B z (q + 1) _ (by simp [esl]; omega)]
    · rw [if_neg h1]
      obtain ⟨q, hq⟩ : ∃ q, l.length = 2 * q := ⟨l.length / 2, by omega⟩
      rw [P_last B z q l d hq, P_pair B z q l hq]
/-- The root out of the peaks, from their end on. -/
def back : List D → D
  | [] => z
  | [d] => d
  | d :: l => B d (back l)
theorem back_P : ∀ (n : Nat) (l : List D), l.length = n → 1 ≤ n → back B z (P B z l) = R B z l
  | n, l, hl, hn => by
    rw [P_cons B z (by omega)]
    obtain ⟨s0, s1, s2⟩ := sp_spec (l.length + 1) (by omega)
    by_cases h1 : sp (l.length + 1) = l.length
    · rw [h1, List.drop_length, List.take_length]; rfl
    · have h2 : sp (l.length + 1) < l.length := by omega
      have e := sp_stay (n := l.length) (by omega) h2
      have ih := back_P (l.length - sp (l.length + 1)) (l.drop (sp (l.length + 1))) List.length_drop (by omega)
      have hne := P_ne B z (l := l.drop (sp (l.length + 1))) (by rw [List.length_drop]; omega)
      have bc : ∀ (d : D) (k : List D), k ≠ [] → back B z (d :: k) = B d (back B z k) := fun d k hk => by
        cases k with
        | nil => exact (hk rfl).elim
        | cons _ _ => rfl
      rw [bc _ _ hne, ih, R_two B z (l := l) (by omega), e]
termination_by n => n
end
end Grow
end Go.Proofs.Ytbdnhoddkdiogaa
