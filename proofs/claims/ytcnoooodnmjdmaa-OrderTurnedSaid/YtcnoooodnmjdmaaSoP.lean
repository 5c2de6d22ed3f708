/- Stable sorting in plain lists: insertion, merging, rotating, and what the steps of a merge in place come to. No program in sight. -/
import Derived.Test.YtcnoooodnmjdmaaAi5
set_option linter.unusedSimpArgs false
set_option linter.unusedVariables false
namespace Go.Proofs.Ytcnoooodnmjdmaa.Sorts
section
variable {α : Type} {lt : α → α → Bool}
/-- What is asked of an order: of what isn't ahead of what isn't ahead, none is ahead; none is ahead of what is ahead of it. -/
structure Weak (lt : α → α → Bool) : Prop where
  asym : ∀ a b, lt a b = true → lt b a = false
  neg : ∀ a b c, lt a b = false → lt b c = false → lt a c = false
theorem Weak.irr (h : Weak lt) (a : α) : lt a a = false := by
  cases e : lt a a
  · rfl
  · have := h.asym a a e; rw [e] at this; cases this
theorem Weak.trans (h : Weak lt) {a b c : α} (h1 : lt a b = true) (h2 : lt b c = true) : lt a c = true := by
  cases e : lt a c
  · have := h.neg a c b e (h.asym b c h2)
    rw [h1] at this; cases this
  · rfl
/-- One more, behind what it isn't ahead of. -/
def ins (lt : α → α → Bool) (x : α) : List α → List α
  | [] => [x]
  | y :: l => if lt x y = true then x :: y :: l else y :: ins lt x l
def mergeF (lt : α → α → Bool) (l r : List α) : List α := r.foldl (fun acc x => ins lt x acc) l
def sortF (lt : α → α → Bool) (l : List α) : List α := mergeF lt [] l
/-- None is ahead of one ahead of it. -/
abbrev Up (lt : α → α → Bool) (l : List α) : Prop := l.Pairwise fun a b => lt b a = false
theorem ins_len (x : α) : ∀ l : List α, (ins lt x l).length = l.length + 1
  | [] => rfl
  | y :: l => by unfold ins; split <;> simp [ins_len x l]
theorem mergeF_len : ∀ (r l : List α), (mergeF lt l r).length = l.length + r.length
  | [], l => rfl
  | x :: r, l => by show (mergeF lt (ins lt x l) r).length = _; rw [mergeF_len r, ins_len]; simp; omega
theorem sortF_len (l : List α) : (sortF lt l).length = l.length := by unfold sortF; rw [mergeF_len]; simp
theorem ins_mem {x z : α} : ∀ {l : List α}, z ∈ ins lt x l ↔ z = x ∨ z ∈ l
  | [] => by simp [ins]
  | y :: l => by
    unfold ins
    split
    · simp
    · simp only [List.mem_cons, ins_mem (l := l)]
      constructor
      · rintro (h | h | h)
        · exact .inr (.inl h)
        · exact .inl h
        · exact .inr (.inr h)
      · rintro (h | h | h)
        · exact .inr (.inl h)
        · exact .inl h
        · exact .inr (.inr h)
theorem mergeF_mem {z : α} : ∀ {r l : List α}, z ∈ mergeF lt l r ↔ z ∈ l ∨ z ∈ r
  | [], l => by simp [mergeF]
  | x :: r, l => by
    show z ∈ mergeF lt (ins lt x l) r ↔ _
    rw [mergeF_mem, ins_mem]
    simp only [List.mem_cons]
    constructor
    · rintro ((h | h) | h)
      · exact .inr (.inl h)
      · exact .inl h
      · exact .inr (.inr h)
    · rintro (h | h | h)
      · exact .inl (.inr h)
      · exact .inl (.inl h)
      · exact .inr h
theorem sortF_mem {z : α} {l : List α} : z ∈ sortF lt l ↔ z ∈ l := by unfold sortF; rw [mergeF_mem]; simp
theorem ins_perm (x : α) : ∀ l : List α, (ins lt x l).Perm (x :: l)
  | [] => List.Perm.refl _
  | y :: l => by
    unfold ins
    split
    · exact List.Perm.refl _
    · exact ((ins_perm x l).cons y).trans (List.Perm.swap x y l)
theorem mergeF_perm : ∀ (r l : List α), (mergeF lt l r).Perm (l ++ r)
  | [], l => by simp [mergeF]
  | x :: r, l => by
    show (mergeF lt (ins lt x l) r).Perm _
    exact (mergeF_perm r _).trans (((ins_perm x l).append_right r).trans (by simpa using (List.perm_middle (l₁ := l) (l₂ := r) (a := x)).symm))
theorem sortF_perm (l : List α) : (sortF lt l).Perm l := by simpa [sortF] using mergeF_perm (lt := lt) l []
theorem ins_up (h : Weak lt) {x : α} : ∀ {l : List α}, Up lt l → Up lt (ins lt x l)
  | [], _ => by simp [ins]
  | y :: l, hu => by
    have h1 := List.pairwise_cons.1 hu
    unfold ins
    split
    · rename_i e
      refine List.pairwise_cons.2 ⟨fun z hz => ?_, hu⟩
      rcases List.mem_cons.1 hz with rfl | hz
      · exact h.asym _ _ e
      · exact h.neg _ _ _ (h1.1 z hz) (h.asym _ _ e)
    · rename_i e
      refine List.pairwise_cons.2 ⟨fun z hz => ?_, ins_up h h1.2⟩
      rcases ins_mem.1 hz with rfl | hz
      · simpa using e
      · exact h1.1 z hz
theorem mergeF_up (h : Weak lt) : ∀ {r l : List α}, Up lt l → Up lt (mergeF lt l r)
  | [], _, hl => hl
  | x :: r, l, hl => mergeF_up h (r := r) (ins_up h hl)
theorem sortF_up (h : Weak lt) (l : List α) : Up lt (sortF lt l) := mergeF_up h List.Pairwise.nil
/-! ### Parts -/
theorem ins_left {x : α} {B : List α} (hB : ∀ z ∈ B, lt x z = true) : ∀ A : List α, ins lt x (A ++ B) = ins lt x A ++ B
  | [] => by
    cases B with
    | nil => rfl
    | cons z B => simp [ins, hB z (by simp)]
  | y :: A => by
    show ins lt x (y :: (A ++ B)) = _
    unfold ins
    split
    · rfl
    · rw [ins_left hB A]; rfl
theorem ins_right {x : α} {B : List α} : ∀ {A : List α}, (∀ z ∈ A, lt x z = false) → ins lt x (A ++ B) = A ++ ins lt x B
  | [], _ => rfl
  | y :: A, h => by
    show ins lt x (y :: (A ++ B)) = _
    rw [ins, if_neg (by rw [h y (by simp)]; simp), ins_right (A := A) fun z hz => h z (by simp [hz])]; rfl
theorem ins_at {x : α} {A B : List α} (hA : ∀ z ∈ A, lt x z = false) (hB : ∀ z, B.head? = some z → lt x z = true) : ins lt x (A ++ B) = A ++ x :: B := by
  rw [ins_right hA]
  cases B with
  | nil => rfl
  | cons z B => rw [ins, if_pos (hB z rfl)]
theorem merge_left {B : List α} : ∀ {r A : List α}, (∀ y ∈ r, ∀ z ∈ B, lt y z = true) → mergeF lt (A ++ B) r = mergeF lt A r ++ B
  | [], _, _ => rfl
  | y :: r, A, h => by
    show mergeF lt (ins lt y (A ++ B)) r = mergeF lt (ins lt y A) r ++ B
    rw [ins_left (h y (by simp)), merge_left fun y hy => h y (by simp [hy])]
theorem merge_right {A : List α} : ∀ {r B : List α}, (∀ y ∈ r, ∀ z ∈ A, lt y z = false) → mergeF lt (A ++ B) r = A ++ mergeF lt B r
  | [], _, _ => rfl
  | y :: r, B, h => by
    show mergeF lt (ins lt y (A ++ B)) r = A ++ mergeF lt (ins lt y B) r
    rw [ins_right (h y (by simp)), merge_right fun y hy => h y (by simp [hy])]
theorem mergeF_app (l r s : List α) : mergeF lt l (r ++ s) = mergeF lt (mergeF lt l r) s := by unfold mergeF; rw [List.foldl_append]
/-- THE STEP OF A MERGE IN PLACE. -/
theorem merge_cut {l1 l2 r1 r2 : List α} (hr : Up lt (r1 ++ r2)) (h1 : ∀ x ∈ l1, ∀ y ∈ r2, lt y x = false) (h2 : ∀ y ∈ r1, ∀ z ∈ l2, lt y z = true) :
    mergeF lt (l1 ++ l2) (r1 ++ r2) = mergeF lt l1 r1 ++ mergeF lt l2 r2 := by
  rw [mergeF_app, merge_left h2, merge_right]
  intro y hy z hz
  rcases mergeF_mem.1 hz with hz | hz
  · exact h1 z hz y hy
  · exact (List.pairwise_append.1 hr).2.2 z hz y hy
theorem merge_nil {r : List α} (hr : Up lt r) : mergeF lt [] r = r := by
  suffices h : ∀ (r A : List α), Up lt (A ++ r) → mergeF lt A r = A ++ r by simpa using h r [] (by simpa using hr)
  intro r
  induction r with
  | nil => intro A _; simp [mergeF]
  | cons y r ih =>
    intro A hA
    show mergeF lt (ins lt y A) r = _
    have e : ins lt y A = A ++ [y] := by
      have := ins_right (lt := lt) (x := y) (A := A) (B := []) fun z hz => (List.pairwise_append.1 hA).2.2 z hz y (by simp)
      rw [List.append_nil] at this
      exact this
    rw [e, ih (A ++ [y]) (by simpa using hA)]; simp
theorem merge_one {x : α} {R1 R2 : List α} (hr : Up lt (R1 ++ R2)) (h1 : ∀ y ∈ R1, lt y x = true) (h2 : ∀ y ∈ R2, lt y x = false) : mergeF lt [x] (R1 ++ R2) = R1 ++ x :: R2 := by
  have e := merge_cut (lt := lt) (l1 := []) (l2 := [x]) hr (by simp) (fun y hy z hz => by simp at hz; subst hz; exact h1 y hy)
  have hr2 := (List.pairwise_append.1 hr).2.1
  have e2 := merge_cut (lt := lt) (l1 := [x]) (l2 := []) (r1 := []) (r2 := R2) (by simpa using hr2) (fun z hz y hy => by simp at hz; subst hz; exact h2 y hy) (by simp)
  rw [List.append_nil, List.nil_append] at e2
  rw [List.nil_append] at e
  rw [e, e2, merge_nil (List.pairwise_append.1 hr).1, merge_nil hr2]
  simp [mergeF]
theorem ins_comm (h : Weak lt) {y z : α} (hyz : lt y z = true) : ∀ A : List α, ins lt z (ins lt y A) = ins lt y (ins lt z A)
  | [] => by simp [ins, hyz, h.asym _ _ hyz]
  | a :: A => by
    have hzy := h.asym _ _ hyz
    by_cases h1 : lt z a = true
    · have h2 := h.trans hyz h1
      simp [ins, h1, h2, hyz, hzy]
    · by_cases h2 : lt y a = true
      · simp [ins, h1, h2, hyz, hzy]
      · simp [ins, h1, h2, ins_comm h hyz A]
theorem merge_ins_swap (h : Weak lt) {y : α} : ∀ {B A : List α}, (∀ z ∈ B, lt y z = true) → mergeF lt (ins lt y A) B = ins lt y (mergeF lt A B)
  | [], _, _ => rfl
  | z :: B, A, hB => by
    show mergeF lt (ins lt z (ins lt y A)) B = ins lt y (mergeF lt (ins lt z A) B)
    rw [ins_comm h (hB z (by simp)), merge_ins_swap h fun z hz => hB z (by simp [hz])]
theorem merge_ins (h : Weak lt) {y : α} {A : List α} : ∀ {B : List α}, Up lt B → mergeF lt A (ins lt y B) = ins lt y (mergeF lt A B) := by
  suffices hs : ∀ (B A : List α), Up lt B → mergeF lt A (ins lt y B) = ins lt y (mergeF lt A B) from fun {B} hB => hs B A hB
  intro B
  induction B with
  | nil => intro A _; rfl
  | cons z B ih =>
    intro A hB
    have hz := List.pairwise_cons.1 hB
    by_cases e : lt y z = true
    · rw [ins, if_pos e]
      show mergeF lt (ins lt y A) (z :: B) = _
      refine merge_ins_swap h fun x hx => ?_
      rcases List.mem_cons.1 hx with rfl | hx
      · exact e
      · cases e2 : lt y x
        · have := h.neg _ _ _ e2 (hz.1 x hx); rw [e] at this; cases this
        · rfl
    · rw [ins, if_neg e]
      show mergeF lt (ins lt z A) (ins lt y B) = ins lt y (mergeF lt (ins lt z A) B)
      exact ih _ hz.2
theorem merge_sort (h : Weak lt) (A : List α) : ∀ r : List α, mergeF lt A (sortF lt r) = mergeF lt A r := by
  suffices hs : ∀ (r acc A : List α), Up lt acc → mergeF lt A (mergeF lt acc r) = mergeF lt (mergeF lt A acc) r from fun r => by
    have := hs r [] A List.Pairwise.nil; simpa [sortF, mergeF] using this
  intro r
  induction r with
  | nil => intro acc A _; rfl
  | cons y r ih =>
    intro acc A hacc
    show mergeF lt A (mergeF lt (ins lt y acc) r) = mergeF lt (ins lt y (mergeF lt A acc)) r
    rw [ih _ _ (ins_up h hacc), merge_ins h hacc]
theorem sort_app (h : Weak lt) (l r : List α) : sortF lt (l ++ r) = mergeF lt (sortF lt l) (sortF lt r) := by
  rw [merge_sort h]; unfold sortF; rw [mergeF_app]
theorem sort_snoc (l : List α) (x : α) : sortF lt (l ++ [x]) = ins lt x (sortF lt l) := by unfold sortF; rw [mergeF_app]; rfl
theorem sort_up {l : List α} (h : Up lt l) : sortF lt l = l := merge_nil h
/-! ### Searching -/
theorem cut_right (h : Weak lt) {L : List α} (hL : Up lt L) {y : α} {i : Nat} (hi : i ≤ L.length) (h1 : ∀ (_ : 0 < i) z, L[i - 1]? = some z → lt y z = false) (h2 : ∀ z, L[i]? = some z → lt y z = true) : ins lt y L = L.take i ++ y :: L.drop i := by
  have e := ins_at (lt := lt) (x := y) (A := L.take i) (B := L.drop i) (fun z hz => by
    obtain ⟨k, hk, rfl⟩ := List.getElem_of_mem hz
    rw [List.length_take] at hk
    rw [List.getElem_take]
    have h3 := h1 (by omega) L[i - 1] (List.getElem?_eq_getElem (by omega))
    by_cases hki : k = i - 1
    · subst hki; exact h3
    · have := List.pairwise_iff_getElem.1 hL k (i - 1) (by omega) (by omega) (by omega)
      exact h.neg _ _ _ h3 this) (fun z hz => h2 z (by rw [List.head?_drop] at hz; exact hz))
  rw [List.take_append_drop] at e
  exact e
theorem cut_left (h : Weak lt) {R : List α} (hR : Up lt R) {x : α} {i : Nat} (hi : i ≤ R.length) (h1 : ∀ (_ : 0 < i) z, R[i - 1]? = some z → lt z x = true) (h2 : ∀ z, R[i]? = some z → lt z x = false) : mergeF lt [x] R = R.take i ++ x :: R.drop i := by
  have e := merge_one (lt := lt) (x := x) (R1 := R.take i) (R2 := R.drop i) (by rw [List.take_append_drop]; exact hR) (fun z hz => by
    obtain ⟨k, hk, rfl⟩ := List.getElem_of_mem hz
    rw [List.length_take] at hk
    rw [List.getElem_take]
    have h3 := h1 (by omega) R[i - 1] (List.getElem?_eq_getElem (by omega))
    by_cases hki : k = i - 1
    · subst hki; exact h3
    · have h4 := List.pairwise_iff_getElem.1 hR k (i - 1) (by omega) (by omega) (by omega)
      cases e5 : lt R[k] x
      · have := h.neg _ _ _ h4 e5
        rw [h3] at this; cases this
      · rfl) (fun z hz => by
    obtain ⟨k, hk, rfl⟩ := List.getElem_of_mem hz
    rw [List.length_drop] at hk
    rw [List.getElem_drop]
    have h3 := h2 R[i] (List.getElem?_eq_getElem (by omega))
    by_cases hk0 : k = 0
    · subst hk0; simpa using h3
    · have h4 := List.pairwise_iff_getElem.1 hR i (i + k) (by omega) (by omega) (by omega)
      exact h.neg _ _ _ h4 h3)
  rw [List.take_append_drop] at e
  exact e
end
end Go.Proofs.Ytcnoooodnmjdmaa.Sorts
