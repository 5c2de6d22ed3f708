/- Plain law: a binary heap, on lists. No program in sight. -/
import Derived.RowKit
import Derived.Laws.BitsAllLaws
set_option linter.unusedSimpArgs false
set_option linter.unusedVariables false
namespace Go.Proofs.Ytonhglodnmoadaa.HeapLaw
variable {α : Type}
/-- An element written where another one stood. -/
theorem set_perm : ∀ (l : List α) (i : Nat) (a b : α), l[i]? = some a → (a :: l.set i b).Perm (b :: l)
  | [], i, a, b, h => by simp at h
  | x :: l, 0, a, b, h => by simp at h; subst h; exact List.Perm.swap _ _ _
  | x :: l, i + 1, a, b, h => by
    have ih := set_perm l i a b (by simpa using h)
    rw [List.set_cons_succ]
    exact (List.Perm.swap x a _).trans ((ih.cons x).trans (List.Perm.swap b x _))
def swp (l : List α) (i j : Nat) : List α := match l[i]?, l[j]? with | some a, some b => (l.set i b).set j a | _, _ => l
theorem swp_len (l : List α) (i j : Nat) : (swp l i j).length = l.length := by unfold swp; split <;> simp
theorem swp_perm (l : List α) (i j : Nat) : (swp l i j).Perm l := by
  unfold swp
  split
  · rename_i a b ha hb
    have h1 := set_perm l i a b ha
    have hl : (l.set i b)[j]? = some b := by
      by_cases h : i = j
      · subst h; rw [List.getElem?_set_self (List.getElem?_eq_some_iff.1 ha).1]
      · rw [List.getElem?_set_ne h, hb]
    have h2 := set_perm (l.set i b) j b a hl
    exact List.Perm.cons_inv (h2.trans h1)
  · exact List.Perm.refl _
theorem swp_at {l : List α} {i j : Nat} {a b : α} (ha : l[i]? = some a) (hb : l[j]? = some b) (k : Nat) : (swp l i j)[k]? = if k = j then some a else if k = i then some b else l[k]? := by
  have hi := (List.getElem?_eq_some_iff.1 ha).1
  have hj := (List.getElem?_eq_some_iff.1 hb).1
  unfold swp
  rw [ha, hb]
  simp only
  by_cases h : k = j
  · subst h; rw [if_pos rfl, List.getElem?_set_self (by simpa using hj)]
  · rw [if_neg h, List.getElem?_set_ne (fun e => h e.symm)]
    by_cases h2 : k = i
    · subst h2; rw [if_pos rfl, List.getElem?_set_self hi]
    · rw [if_neg h2, List.getElem?_set_ne (fun e => h2 e.symm)]

/-- An order: what is ahead of what. -/
structure Ord (lt : α → α → Bool) : Prop where
  irr : ∀ a, lt a a = false
  trans : ∀ a b c, lt a b = true → lt b c = true → lt a c = true
  neg : ∀ a b c, lt a b = false → lt b c = false → lt a c = false
variable {lt : α → α → Bool}
/-- No child of a place from m on is ahead of its parent, but for the children of one place. -/
def But (lt : α → α → Bool) (m : Nat) (p : Nat → Prop) (l : List α) : Prop := ∀ i a b, 0 < i → m ≤ (i - 1) / 2 → ¬ p ((i - 1) / 2) → l[i]? = some a → l[(i - 1) / 2]? = some b → lt a b = false
def Heap (lt : α → α → Bool) (m : Nat) (l : List α) : Prop := But lt m (fun _ => False) l
/-- Of two children, and the place itself, the first one. -/
def least (lt : α → α → Bool) (l : List α) (at_ : Nat) : Nat :=
  let k := match l[2 * at_ + 1]?, l[at_]? with | some a, some b => if lt a b then 2 * at_ + 1 else at_ | _, _ => at_
  match l[2 * at_ + 2]?, l[k]? with | some a, some b => if lt a b then 2 * at_ + 2 else k | _, _ => k
def down (lt : α → α → Bool) : Nat → List α → Nat → List α
  | 0, l, _ => l
  | f + 1, l, at_ => if least lt l at_ = at_ then l else down lt f (swp l at_ (least lt l at_)) (least lt l at_)
theorem down_len (lt : α → α → Bool) : ∀ f (l : List α) k, (down lt f l k).length = l.length
  | 0, _, _ => rfl
  | f + 1, l, k => by unfold down; split; rfl; rw [down_len lt f, swp_len]
theorem down_perm (lt : α → α → Bool) : ∀ f (l : List α) k, (down lt f l k).Perm l
  | 0, _, _ => List.Perm.refl _
  | f + 1, l, k => by unfold down; split; exact List.Perm.refl _; exact (down_perm lt f _ _).trans (swp_perm _ _ _)
/-- What the least of them is. -/
theorem least_spec (ho : Ord lt) (l : List α) (k : Nat) (x : α) (hx : l[k]? = some x) :
    (least lt l k = k ∧ (∀ a, l[2 * k + 1]? = some a → lt a x = false) ∧ ∀ a, l[2 * k + 2]? = some a → lt a x = false) ∨
    ∃ y, (least lt l k = 2 * k + 1 ∨ least lt l k = 2 * k + 2) ∧ l[least lt l k]? = some y ∧ lt y x = true ∧ (∀ a, l[2 * k + 1]? = some a → lt a y = false) ∧ ∀ a, l[2 * k + 2]? = some a → lt a y = false := by
  unfold least
  rw [hx]
  cases h1 : l[2 * k + 1]? with
  | none =>
    simp only [h1]
    cases h2 : l[2 * k + 2]? with
    | none => left; rw [hx]; exact ⟨rfl, by simp, by simp⟩
    | some b =>
      have := (List.getElem?_eq_some_iff.1 h2).1
      have := List.getElem?_eq_none_iff.1 h1
      omega
  | some a =>
    simp only
    by_cases ha : lt a x = true
    · rw [if_pos ha]
      cases h2 : l[2 * k + 2]? with
      | none => right; rw [h1]; exact ⟨a, .inl rfl, rfl, ha, fun c hc => by cases hc; exact ho.irr _, by simp⟩
      | some b =>
        rw [h1]
        simp only
        by_cases hb : lt b a = true
        · rw [if_pos hb]
          right
          refine ⟨b, .inr rfl, h2, ho.trans _ _ _ hb ha, fun c hc => ?_, fun c hc => by cases hc; exact ho.irr _⟩
          cases hc
          cases hab : lt a b with
          | false => rfl
          | true => have := ho.trans _ _ _ hab hb; rw [ho.irr] at this; cases this
        · rw [if_neg hb]
          right
          exact ⟨a, .inl rfl, h1, ha, fun c hc => by cases hc; exact ho.irr _, fun c hc => by cases hc; simpa using hb⟩
    · rw [if_neg ha]
      cases h2 : l[2 * k + 2]? with
      | none => left; rw [hx]; exact ⟨rfl, fun c hc => by cases hc; simpa using ha, by simp⟩
      | some b =>
        rw [hx]
        simp only
        by_cases hb : lt b x = true
        · rw [if_pos hb]
          right
          refine ⟨b, .inr rfl, h2, hb, fun c hc => ?_, fun c hc => by cases hc; exact ho.irr _⟩
          cases hc
          cases hab : lt a b with
          | false => rfl
          | true => have := ho.trans _ _ _ hab hb; exact (ha this).elim
        · rw [if_neg hb]
          left
          exact ⟨rfl, fun c hc => by cases hc; simpa using ha, fun c hc => by cases hc; simpa using hb⟩
/-- An entry sinks to its place. -/
theorem down_heap (ho : Ord lt) (m : Nat) : ∀ (f : Nat) (l : List α) (k : Nat), l.length ≤ k + f → m ≤ k → k < l.length → But lt m (· = k) l →
    (0 < k → m ≤ (k - 1) / 2 → ∀ i a b, 0 < i → (i - 1) / 2 = k → l[i]? = some a → l[(k - 1) / 2]? = some b → lt a b = false) → Heap lt m (down lt f l k)
  | 0, l, k, hf, _, hk, _, _ => by omega
  | f + 1, l, k, hf, hm, hk, hb, hg => by
    obtain ⟨x, hx⟩ : ∃ x, l[k]? = some x := ⟨_, List.getElem?_eq_getElem hk⟩
    unfold down
    rcases least_spec ho l k x hx with ⟨h1, h2, h3⟩ | ⟨y, h1, h2, h3, h4, h5⟩
    · rw [if_pos h1]
      intro i a b hi hmi _ ha hbb
      by_cases hp : (i - 1) / 2 = k
      · rw [hp, hx] at hbb; cases hbb
        rcases (show i = 2 * k + 1 ∨ i = 2 * k + 2 by omega) with rfl | rfl
        · exact h2 a ha
        · exact h3 a ha
      · exact hb i a b hi hmi hp ha hbb
    · generalize hj : least lt l k = j at *
      have hjk : j ≠ k := by omega
      rw [if_neg hjk]
      have hjl := (List.getElem?_eq_some_iff.1 h2).1
      have sw := fun q => swp_at (l := l) hx h2 q
      refine down_heap ho m f _ j (by rw [swp_len]; omega) (by omega) (by rw [swp_len]; exact hjl) ?_ ?_
      · intro i a b hi hmi hp ha hbb
        rw [sw] at ha hbb
        by_cases hpk : (i - 1) / 2 = k
        · rw [hpk, if_neg (fun e => hjk e.symm), if_pos rfl] at hbb; cases hbb
          rcases (show i = 2 * k + 1 ∨ i = 2 * k + 2 by omega) with rfl | rfl
          · by_cases e : 2 * k + 1 = j
            · rw [if_pos e] at ha; cases ha
              cases hxy : lt x y with
              | false => rfl
              | true => have := ho.trans _ _ _ hxy h3; rw [ho.irr] at this; cases this
            · rw [if_neg e, if_neg (by omega)] at ha; exact h4 a ha
          · by_cases e : 2 * k + 2 = j
            · rw [if_pos e] at ha; cases ha
              cases hxy : lt x y with
              | false => rfl
              | true => have := ho.trans _ _ _ hxy h3; rw [ho.irr] at this; cases this
            · rw [if_neg e, if_neg (by omega)] at ha; exact h5 a ha
        · rw [if_neg hp, if_neg hpk] at hbb
          by_cases hij : i = j
          · exfalso; apply hpk; subst hij; rcases h1 with h1 | h1 <;> omega
          · rw [if_neg hij] at ha
            by_cases hik : i = k
            · subst hik
              rw [if_pos rfl] at ha; cases ha
              exact hg hi hmi j _ _ (by omega) (by rcases h1 with h1 | h1 <;> omega) h2 hbb
            · rw [if_neg hik] at ha
              exact hb i a b hi hmi hpk ha hbb
      · intro hj0 hmj i a b hi hp ha hbb
        have ejk : (j - 1) / 2 = k := by rcases h1 with h1 | h1 <;> omega
        rw [sw] at ha hbb
        rw [ejk, if_neg (fun e => hjk e.symm), if_pos rfl] at hbb; cases hbb
        rw [if_neg (by omega), if_neg (by omega)] at ha
        exact hb i a y hi (by omega) (by omega) ha (by rw [hp]; exact h2)
/-- The place above is not behind. -/
def up (lt : α → α → Bool) : Nat → List α → Nat → List α
  | 0, l, _ => l
  | f + 1, l, k => if k = 0 then l else match l[k]?, l[(k - 1) / 2]? with
    | some a, some b => if lt a b then up lt f (swp l k ((k - 1) / 2)) ((k - 1) / 2) else l
    | _, _ => l
theorem up_fuel (lt : α → α → Bool) : ∀ (f g : Nat) (l : List α) (k : Nat), k < f → k < g → up lt f l k = up lt g l k
  | 0, g, l, k, h, _ => absurd h (Nat.not_lt_zero _)
  | f + 1, 0, l, k, _, h => absurd h (Nat.not_lt_zero _)
  | f + 1, g + 1, l, k, h1, h2 => by
    unfold up
    split
    · rfl
    · rename_i hk
      split
      · split
        · exact up_fuel lt f g _ _ (by omega) (by omega)
        · rfl
      · rfl
theorem up_len (lt : α → α → Bool) : ∀ f (l : List α) k, (up lt f l k).length = l.length
  | 0, _, _ => rfl
  | f + 1, l, k => by
    unfold up
    split
    · rfl
    · split
      · split
        · rw [up_len lt f, swp_len]
        · rfl
      · rfl
theorem up_perm (lt : α → α → Bool) : ∀ f (l : List α) k, (up lt f l k).Perm l
  | 0, _, _ => List.Perm.refl _
  | f + 1, l, k => by
    unfold up
    split
    · exact List.Perm.refl _
    · split
      · split
        · exact (up_perm lt f _ _).trans (swp_perm _ _ _)
        · exact List.Perm.refl _
      · exact List.Perm.refl _
/-- An entry rises to its place. -/
theorem up_heap (ho : Ord lt) : ∀ (f : Nat) (l : List α) (k : Nat), k < f → k < l.length → (∀ i a b, 0 < i → i ≠ k → l[i]? = some a → l[(i - 1) / 2]? = some b → lt a b = false) →
    (0 < k → ∀ i a b, 0 < i → (i - 1) / 2 = k → l[i]? = some a → l[(k - 1) / 2]? = some b → lt a b = false) → Heap lt 0 (up lt f l k)
  | 0, l, k, hf, _, _, _ => by omega
  | f + 1, l, k, hf, hk, hb, hg => by
    obtain ⟨x, hx⟩ : ∃ x, l[k]? = some x := ⟨_, List.getElem?_eq_getElem hk⟩
    unfold up
    by_cases h0 : k = 0
    · rw [if_pos h0]
      intro i a b hi _ _ ha hbb
      exact hb i a b hi (by omega) ha hbb
    · rw [if_neg h0]
      obtain ⟨y, hy⟩ : ∃ y, l[(k - 1) / 2]? = some y := ⟨_, List.getElem?_eq_getElem (by omega)⟩
      rw [hx, hy]
      simp only
      by_cases hxy : lt x y = true
      · rw [if_pos hxy]
        have sw := fun q => swp_at (l := l) hx hy q
        refine up_heap ho f _ ((k - 1) / 2) (by omega) (by rw [swp_len]; omega) ?_ ?_
        · intro i a b hi hik ha hbb
          rw [sw] at ha hbb
          rw [if_neg hik] at ha
          by_cases e : i = k
          · subst e
            rw [if_pos rfl] at ha; cases ha
            rw [if_pos rfl] at hbb; cases hbb
            cases hyx : lt y x with
            | false => rfl
            | true => have := ho.trans _ _ _ hyx hxy; rw [ho.irr] at this; cases this
          · rw [if_neg e] at ha
            by_cases hp : (i - 1) / 2 = (k - 1) / 2
            · rw [if_pos hp] at hbb; cases hbb
              have h1 := hb i a y hi e ha (by rw [hp]; exact hy)
              cases hax : lt a x with
              | false => rfl
              | true => have := ho.trans _ _ _ hax hxy; rw [h1] at this; cases this
            · rw [if_neg hp] at hbb
              by_cases hp2 : (i - 1) / 2 = k
              · rw [if_pos hp2] at hbb; cases hbb
                exact hg (by omega) i a y hi hp2 ha hy
              · rw [if_neg hp2] at hbb
                exact hb i a b hi e ha hbb
        · intro hp0 i a b hi hp ha hbb
          rw [sw] at ha hbb
          rw [if_neg (by omega), if_neg (by omega)] at hbb
          have g := hb ((k - 1) / 2) y b hp0 (by omega) hy hbb
          by_cases e : i = k
          · subst e
            rw [if_neg (by omega), if_pos rfl] at ha; cases ha
            exact g
          · rw [if_neg (by omega), if_neg e] at ha
            exact ho.neg _ _ _ (hb i a y hi e ha (by rw [hp]; exact hy)) g
      · rw [if_neg hxy]
        intro i a b hi _ _ ha hbb
        by_cases e : i = k
        · subst e
          rw [hx] at ha; cases ha
          rw [hy] at hbb; cases hbb
          simpa using hxy
        · exact hb i a b hi e ha hbb
/-- The top is not behind any. -/
theorem heap_top (ho : Ord lt) (l : List α) (h : Heap lt 0 l) (t : α) (ht : l[0]? = some t) : ∀ (n i : Nat) (a : α), i ≤ n → l[i]? = some a → lt a t = false
  | n, 0, a, _, ha => by rw [ht] at ha; cases ha; exact ho.irr _
  | 0, i + 1, a, hn, _ => by omega
  | n + 1, i + 1, a, hn, ha => by
    have hil := (List.getElem?_eq_some_iff.1 ha).1
    obtain ⟨b, hb⟩ : ∃ b, l[i / 2]? = some b := ⟨_, List.getElem?_eq_getElem (by omega)⟩
    have h1 := heap_top ho l h t ht n (i / 2) b (by omega) hb
    exact ho.neg _ _ _ (h (i + 1) a b (by omega) (Nat.zero_le _) (fun h => h) ha (by simpa using hb)) h1

/-- Taken from the top. -/
def pop (lt : α → α → Bool) (l : List α) : List α := match l[l.length - 1]? with
  | some z => down lt l.length ((l.set 0 z).take (l.length - 1)) 0
  | none => l
def push (lt : α → α → Bool) (l : List α) (x : α) : List α := up lt (l.length + 1) (l ++ [x]) l.length
theorem pop_perm (lt : α → α → Bool) (l : List α) (t : α) (ht : l[0]? = some t) : (t :: pop lt l).Perm l := by
  have h0 := (List.getElem?_eq_some_iff.1 ht).1
  obtain ⟨z, hz⟩ : ∃ z, l[l.length - 1]? = some z := ⟨_, List.getElem?_eq_getElem (by omega)⟩
  unfold pop
  rw [hz]
  simp only
  refine ((down_perm lt _ _ _).cons t).trans ?_
  have hl : l = l.take (l.length - 1) ++ [z] := by
    have h1 := List.take_add_one (l := l) (i := l.length - 1)
    rw [hz, show l.length - 1 + 1 = l.length by omega, List.take_length] at h1
    simpa using h1
  by_cases h1 : l.length = 1
  · match l, h1 with
    | [x], _ => simp at ht; subst ht; simp
  · rw [List.take_set]
    have h2 : (l.take (l.length - 1))[0]? = some t := by rw [List.getElem?_take_of_lt (by omega)]; exact ht
    refine (set_perm _ 0 t z h2).trans ?_
    conv => rhs; rw [hl]
    exact (List.perm_append_singleton z _).symm
theorem pop_heap (ho : Ord lt) (l : List α) (h : Heap lt 0 l) (t : α) (ht : l[0]? = some t) : Heap lt 0 (pop lt l) := by
  have h0 := (List.getElem?_eq_some_iff.1 ht).1
  obtain ⟨z, hz⟩ : ∃ z, l[l.length - 1]? = some z := ⟨_, List.getElem?_eq_getElem (by omega)⟩
  unfold pop
  rw [hz]
  simp only
  by_cases h1 : l.length = 1
  · intro i a b hi _ _ ha _
    have := (List.getElem?_eq_some_iff.1 ha).1
    rw [down_len, List.length_take, h1] at this
    omega
  · have hlen : ((l.set 0 z).take (l.length - 1)).length = l.length - 1 := by rw [List.length_take, List.length_set]; omega
    refine down_heap ho 0 _ _ 0 (by omega) (Nat.le_refl _) (by omega) ?_ (fun h => absurd h (Nat.lt_irrefl _))
    intro i a b hi _ hp ha hb
    have hi1 := (List.getElem?_eq_some_iff.1 ha).1
    rw [List.getElem?_take_of_lt (by omega), List.getElem?_set_ne (by omega)] at ha
    rw [List.getElem?_take_of_lt (by omega), List.getElem?_set_ne (by omega)] at hb
    exact h i a b hi (Nat.zero_le _) (fun h => h) ha hb
theorem push_perm (lt : α → α → Bool) (l : List α) (x : α) : (push lt l x).Perm (x :: l) := (up_perm lt _ _ _).trans (List.perm_append_singleton x l)
theorem push_heap (ho : Ord lt) (l : List α) (h : Heap lt 0 l) (x : α) : Heap lt 0 (push lt l x) := by
  unfold push
  refine up_heap ho _ _ _ (by omega) (by simp) ?_ ?_
  · intro i a b hi hk ha hb
    have hi1 := (List.getElem?_eq_some_iff.1 ha).1
    simp only [List.length_append, List.length_cons, List.length_nil] at hi1
    rw [List.getElem?_append_left (by omega)] at ha
    rw [List.getElem?_append_left (by omega)] at hb
    exact h i a b hi (Nat.zero_le _) (fun h => h) ha hb
  · intro _ i a b hi hp ha _
    have hi1 := (List.getElem?_eq_some_iff.1 ha).1
    simp only [List.length_append, List.length_cons, List.length_nil] at hi1
    omega
/-- From the last place to the first one: each sinks. -/
def heapify (lt : α → α → Bool) : Nat → List α → List α
  | 0, l => l
  | m + 1, l => heapify lt m (down lt (l.length + 1) l m)
theorem heapify_perm (lt : α → α → Bool) : ∀ m (l : List α), (heapify lt m l).Perm l
  | 0, _ => List.Perm.refl _
  | m + 1, l => (heapify_perm lt m _).trans (down_perm lt _ _ _)
theorem heapify_heap (ho : Ord lt) : ∀ m (l : List α), m ≤ l.length → Heap lt m l → Heap lt 0 (heapify lt m l)
  | 0, l, _, h => h
  | m + 1, l, hm, h => by
    unfold heapify
    refine heapify_heap ho m _ (by rw [down_len]; omega) (down_heap ho m _ l m (by omega) (Nat.le_refl _) (by omega) ?_ (fun h1 h2 => by omega))
    intro i a b hi hmi hp ha hb
    exact h i a b hi (by omega) (fun h => h) ha hb
theorem heap_end (lt : α → α → Bool) (l : List α) : Heap lt l.length l := fun i a b hi hm _ ha _ => by
  have := (List.getElem?_eq_some_iff.1 ha).1
  omega
/-- In order, and the same things: what is kept of a heap. -/
structure Keeps (lt : α → α → Bool) (l w : List α) : Prop where
  heap : Heap lt 0 l
  perm : l.Perm w
  sorted : w.Pairwise (fun a b => lt a b = true)
theorem Keeps.top (ho : Ord lt) {l w : List α} (h : Keeps lt l w) : l[0]? = w[0]? := by
  cases w with
  | nil => have := h.perm.length_eq; rw [List.length_eq_zero_iff.1 this]
  | cons x w =>
    have hl := h.perm.length_eq
    obtain ⟨t, ht⟩ : ∃ t, l[0]? = some t := ⟨_, List.getElem?_eq_getElem (by simp at hl; omega)⟩
    rw [ht]
    have hx : x ∈ l := h.perm.mem_iff.2 (by simp)
    obtain ⟨i, hi, hix⟩ := List.getElem_of_mem hx
    have h1 := heap_top ho l h.heap t ht i i x (Nat.le_refl _) (by rw [List.getElem?_eq_getElem hi, hix])
    have h2 : t ∈ x :: w := h.perm.mem_iff.1 (List.mem_of_getElem? ht)
    rcases List.mem_cons.1 h2 with rfl | h2
    · rfl
    · have := (List.pairwise_cons.1 h.sorted).1 t h2
      rw [h1] at this; cases this
theorem Keeps.pop (ho : Ord lt) {l w : List α} {t : α} (h : Keeps lt l (t :: w)) : Keeps lt (Go.Proofs.Ytonhglodnmoadaa.HeapLaw.pop lt l) w := by
  have ht : l[0]? = some t := h.top ho
  exact ⟨pop_heap ho l h.heap t ht, ((pop_perm lt l t ht).trans h.perm).cons_inv, (List.pairwise_cons.1 h.sorted).2⟩
theorem Keeps.push (ho : Ord lt) {l a b : List α} {x : α} (h : Keeps lt l (a ++ b)) (ha : ∀ y ∈ a, lt y x = true) (hb : ∀ y ∈ b, lt x y = true) : Keeps lt (Go.Proofs.Ytonhglodnmoadaa.HeapLaw.push lt l x) (a ++ x :: b) := by
  refine ⟨push_heap ho l h.heap x, (push_perm lt l x).trans ((h.perm.cons x).trans List.perm_middle.symm), ?_⟩
  have hs := List.pairwise_append.1 h.sorted
  refine List.pairwise_append.2 ⟨hs.1, List.pairwise_cons.2 ⟨hb, hs.2.1⟩, fun y hy z hz => ?_⟩
  rcases List.mem_cons.1 hz with rfl | hz
  · exact ha y hy
  · exact hs.2.2 y hy z hz
theorem Keeps.drop (ho : Ord lt) {l w : List α} (h : Keeps lt l w) (p : α → Bool) : Keeps lt (heapify lt (l.filter p).length (l.filter p)) (w.filter p) :=
  ⟨heapify_heap ho _ _ (Nat.le_refl _) (heap_end lt _), (heapify_perm lt _ _).trans (h.perm.filter p), h.sorted.filter p⟩
theorem Keeps.nil (lt : α → α → Bool) : Keeps lt [] [] := ⟨fun i a b _ _ _ ha => by simp at ha, List.Perm.refl _, List.Pairwise.nil⟩
/-- Things in an order by keys, and, where keys are one, by when they came. -/
def byKey {T : Type} (key : T → Int) (a b : T × Int) : Bool := decide (key a.1 < key b.1) || (!decide (key b.1 < key a.1) && decide (a.2 < b.2))
theorem byKey_iff {T : Type} (key : T → Int) (a b : T × Int) : byKey key a b = true ↔ key a.1 < key b.1 ∨ (key a.1 ≤ key b.1 ∧ a.2 < b.2) := by
  unfold byKey; simp
theorem byKey_not {T : Type} (key : T → Int) (a b : T × Int) : byKey key a b = false ↔ ¬ (key a.1 < key b.1 ∨ (key a.1 ≤ key b.1 ∧ a.2 < b.2)) := by
  rw [← byKey_iff]; simp
theorem byKey_ord {T : Type} (key : T → Int) : Ord (byKey key) :=
  ⟨fun a => by rw [byKey_not]; omega, fun a b c h1 h2 => by rw [byKey_iff] at *; omega, fun a b c h1 h2 => by rw [byKey_not] at *; omega⟩
/-! Sums of all bits: in any order. -/
open Go Go.RowKit
def xr (a b : Int) : Int := bits .xor .i64 a b
theorem wrap64 (n : Int) : (IntKind.i64.wrap n) % 18446744073709551616 = n % 18446744073709551616 := by
  simp only [IntKind.wrap, IntKind.signed, IntKind.bits]
  simp
  split <;> omega
theorem ofInt_wrap (n : Int) : BitVec.ofInt 64 (IntKind.i64.wrap n) = BitVec.ofInt 64 n := by
  apply BitVec.eq_of_toNat_eq
  rw [BitVec.toNat_ofInt, BitVec.toNat_ofInt]
  have e : ((2 ^ 64 : Nat) : Int) = 18446744073709551616 := by decide
  rw [e, wrap64]
theorem xr_eq (a b : Int) : xr a b = IntKind.i64.wrap (((BitVec.ofInt 64 a ^^^ BitVec.ofInt 64 b).toNat : Nat) : Int) := rfl
theorem ofInt_xr (a b : Int) : BitVec.ofInt 64 (xr a b) = BitVec.ofInt 64 a ^^^ BitVec.ofInt 64 b := by
  rw [xr_eq, ofInt_wrap]
  apply BitVec.eq_of_toNat_eq
  rw [BitVec.ofInt_natCast, BitVec.toNat_ofNat, Nat.mod_eq_of_lt (BitVec.isLt _)]
theorem xr_comm (a b : Int) : xr a b = xr b a := by rw [xr_eq, xr_eq, BitVec.xor_comm]
theorem xr_assoc (a b c : Int) : xr (xr a b) c = xr a (xr b c) := by
  rw [xr_eq (xr a b) c, xr_eq a (xr b c), ofInt_xr, ofInt_xr, BitVec.xor_assoc]
theorem xr_right (a b c : Int) : xr (xr a b) c = xr (xr a c) b := by rw [xr_assoc, xr_comm b c, ← xr_assoc]
theorem fold_perm {l k : List Int} (h : l.Perm k) : ∀ z, l.foldl xr z = k.foldl xr z := by
  induction h with
  | nil => intro z; rfl
  | cons x _ ih => intro z; exact ih _
  | swap x y l => intro z; simp only [List.foldl_cons]; rw [xr_right]
  | trans _ _ ih1 ih2 => intro z; rw [ih1, ih2]
/-- All, one after the other. -/
def popAll (lt : α → α → Bool) : Nat → List α → List α
  | 0, _ => []
  | f + 1, l => match l[0]? with | none => [] | some t => t :: popAll lt f (Go.Proofs.Ytonhglodnmoadaa.HeapLaw.pop lt l)
theorem popAll_keeps (ho : Ord lt) : ∀ (w l : List α) (f : Nat), w.length ≤ f → Keeps lt l w → popAll lt f l = w
  | [], l, f, _, h => by
    have : l = [] := List.length_eq_zero_iff.1 (by have := h.perm.length_eq; simpa using this)
    subst this
    cases f <;> rfl
  | t :: w, l, 0, hf, h => by simp at hf
  | t :: w, l, f + 1, hf, h => by
    have ht : l[0]? = some t := h.top ho
    unfold popAll
    rw [ht]
    simp only
    rw [popAll_keeps ho w _ f (by simpa using hf) (h.pop ho)]
theorem pop_len (l : List α) (h : 0 < l.length) : (Go.Proofs.Ytonhglodnmoadaa.HeapLaw.pop lt l).length = l.length - 1 := by
  obtain ⟨z, hz⟩ : ∃ z, l[l.length - 1]? = some z := ⟨_, List.getElem?_eq_getElem (by omega)⟩
  unfold Go.Proofs.Ytonhglodnmoadaa.HeapLaw.pop
  rw [hz]
  simp only
  rw [down_len, List.length_take, List.length_set]; omega
theorem push_len (l : List α) (x : α) : (Go.Proofs.Ytonhglodnmoadaa.HeapLaw.push lt l x).length = l.length + 1 := by unfold Go.Proofs.Ytonhglodnmoadaa.HeapLaw.push; rw [up_len]; simp
/-- One step of sinking. -/
theorem down_stop (l : List α) (k f : Nat) (h : least lt l k = k) : down lt (f + 1) l k = l := by unfold down; rw [if_pos h]
theorem down_go (l : List α) (k f : Nat) (h : least lt l k ≠ k) : down lt (f + 1) l k = down lt f (swp l k (least lt l k)) (least lt l k) := by rw [down, if_neg h]
def nxt (lt : α → α → Bool) (l : List α) (c k : Nat) : Nat := match l[k]?, l[c]? with | some a, some b => if lt a b then k else c | _, _ => c
theorem least_nxt (lt : α → α → Bool) (l : List α) (k : Nat) : least lt l k = nxt lt l (nxt lt l k (2 * k + 1)) (2 * k + 2) := rfl
theorem nxt_lt (l : List α) (c k : Nat) (hc : c < l.length) : nxt lt l c k < l.length := by
  unfold nxt
  split
  · rename_i h _
    split
    · exact (List.getElem?_eq_some_iff.1 h).1
    · exact hc
  · exact hc
theorem nxt_none (l : List α) (c k : Nat) (h : l.length ≤ k) : nxt lt l c k = c := by
  unfold nxt; rw [List.getElem?_eq_none h]
theorem nxt_some {l : List α} {c k : Nat} {a b : α} (ha : l[k]? = some a) (hb : l[c]? = some b) : nxt lt l c k = if lt a b then k else c := by
  unfold nxt; rw [ha, hb]
theorem least_lt (l : List α) (k : Nat) (hk : k < l.length) : least lt l k < l.length := by
  rw [least_nxt]; exact nxt_lt _ _ _ (nxt_lt _ _ _ hk)
theorem up_stop (l : List α) (f : Nat) : up lt (f + 1) l 0 = l := by unfold up; rw [if_pos rfl]
theorem up_step (l : List α) (k f : Nat) (a b : α) (hk : k ≠ 0) (ha : l[k]? = some a) (hb : l[(k - 1) / 2]? = some b) : up lt (f + 1) l k = if lt a b then up lt f (swp l k ((k - 1) / 2)) ((k - 1) / 2) else l := by
  rw [up, if_neg hk, ha, hb]
theorem swp_eq {l : List α} {i j : Nat} {a b : α} (ha : l[i]? = some a) (hb : l[j]? = some b) : swp l i j = (l.set i b).set j a := by unfold swp; rw [ha, hb]
/-! The document's list. -/
def putK {T : Type} (key : T → Int) (x : T) (l : List T) : Nat → Nat
  | 0 => 0
  | k + 1 => match l[k]? with | some y => if key x < key y then putK key x l k else k + 1 | none => k + 1
def putF {T : Type} (key : T → Int) (l : List T) (x : T) : List T := l.take (putK key x l l.length) ++ x :: l.drop (putK key x l l.length)
theorem putK_spec {T : Type} (key : T → Int) (x : T) (l : List T) : ∀ k, k ≤ l.length → (∀ i y, k ≤ i → l[i]? = some y → key x < key y) →
    putK key x l k ≤ k ∧ (∀ i y, putK key x l k ≤ i → l[i]? = some y → key x < key y) ∧ ∀ i y, i + 1 = putK key x l k → l[i]? = some y → ¬ key x < key y
  | 0, _, h => ⟨Nat.le_refl _, h, fun i y hi => by simp [putK] at hi⟩
  | k + 1, hk, h => by
    obtain ⟨z, hz⟩ : ∃ z, l[k]? = some z := ⟨_, List.getElem?_eq_getElem (by omega)⟩
    unfold putK
    rw [hz]
    simp only
    split
    · rename_i hlt
      obtain ⟨g1, g2, g3⟩ := putK_spec key x l k (by omega) (fun i y hi hy => by
        by_cases e : i = k
        · subst e; rw [hz] at hy; cases hy; exact hlt
        · exact h i y (by omega) hy)
      exact ⟨by omega, g2, g3⟩
    · rename_i hlt
      refine ⟨Nat.le_refl _, h, fun i y hi hy => ?_⟩
      have : i = k := by omega
      subst this; rw [hz] at hy; cases hy; exact hlt
theorem sorted_at {α : Type} {r : α → α → Prop} {l : List α} (h : l.Pairwise r) {i j : Nat} {a b : α} (hij : i < j) (ha : l[i]? = some a) (hb : l[j]? = some b) : r a b := by
  obtain ⟨hi, rfl⟩ := List.getElem?_eq_some_iff.1 ha
  obtain ⟨hj, rfl⟩ := List.getElem?_eq_some_iff.1 hb
  exact List.pairwise_iff_getElem.1 h i j hi hj hij
/-- What is put in goes to its place. -/
theorem Keeps.put {T : Type} (key : T → Int) {l w : List (T × Int)} {x : T} {n : Int} (h : Keeps (byKey key) l w) (hn : ∀ y ∈ w, y.2 < n) :
    ∃ w', Keeps (byKey key) (Go.Proofs.Ytonhglodnmoadaa.HeapLaw.push (byKey key) l (x, n)) w' ∧ w'.map (·.1) = putF key (w.map (·.1)) x ∧ ∀ y ∈ w', y.2 < n + 1 := by
  obtain ⟨g1, g2, g3⟩ := putK_spec key x (w.map (·.1)) (w.map (·.1)).length (Nat.le_refl _) (fun i y hi hy => by
    have := (List.getElem?_eq_some_iff.1 hy).1; omega)
  unfold putF
  generalize putK key x (w.map (·.1)) (w.map (·.1)).length = k at *
  rw [List.length_map] at g1
  have hw : w = w.take k ++ w.drop k := (List.take_append_drop k w).symm
  refine ⟨w.take k ++ (x, n) :: w.drop k, Keeps.push (byKey_ord key) (by rw [← hw]; exact h) (fun y hy => ?_) (fun y hy => ?_), by simp [List.map_take, List.map_drop], fun y hy => ?_⟩
  · obtain ⟨i, hi, e⟩ := List.getElem_of_mem hy
    have hik : i < k := by rw [List.length_take] at hi; omega
    have hwi : w[i]? = some y := by rw [← e, List.getElem_take]; exact List.getElem?_eq_getElem _
    obtain ⟨z, hz⟩ : ∃ z, w[k - 1]? = some z := ⟨_, List.getElem?_eq_getElem (by omega)⟩
    have h3 := g3 (k - 1) z.1 (by omega) (by rw [List.getElem?_map, hz]; rfl)
    have hyn := hn y (List.mem_of_getElem? hwi)
    rw [byKey_iff]
    show key y.1 < key x ∨ (key y.1 ≤ key x ∧ y.2 < n)
    by_cases e2 : i = k - 1
    · subst e2; rw [hz] at hwi; cases hwi; exact .inr ⟨by omega, hyn⟩
    · have := sorted_at h.sorted (show i < k - 1 by omega) hwi hz
      rw [byKey_iff] at this
      exact .inr ⟨by omega, hyn⟩
  · obtain ⟨i, hi, e⟩ := List.getElem_of_mem hy
    have hwi : w[k + i]? = some y := by rw [← e, List.getElem_drop]; exact List.getElem?_eq_getElem _
    rw [byKey_iff]
    exact .inl (g2 (k + i) y.1 (by omega) (by rw [List.getElem?_map, hwi]; rfl))
  · rcases List.mem_append.1 hy with hy | hy
    · have := hn y (List.mem_of_mem_take hy); omega
    · rcases List.mem_cons.1 hy with rfl | hy
      · show n < n + 1; omega
      · have := hn y (List.mem_of_mem_drop hy); omega
/-- Where all keys are one, things come as they were put in. -/
theorem putF_same {T : Type} (key : T → Int) (l : List T) (x : T) (h : ∀ y ∈ l, key y ≤ key x) : putF key l x = l ++ [x] := by
  have : putK key x l l.length = l.length := by
    cases hl : l.length with
    | zero => rfl
    | succ k =>
      obtain ⟨z, hz⟩ : ∃ z, l[k]? = some z := ⟨_, List.getElem?_eq_getElem (by omega)⟩
      have := h z (List.mem_of_getElem? hz)
      unfold putK; rw [hz]; simp only; rw [if_neg (by omega)]
  unfold putF; rw [this]; simp
end Go.Proofs.Ytonhglodnmoadaa.HeapLaw
