/- Ranges of a list that are sorted, merged, turned and swapped in place. No program in sight. -/
import Derived.Test.YtcnoooodnmjdmaaSoP
set_option linter.unusedSimpArgs false
set_option linter.unusedVariables false
namespace Go.Proofs.Ytcnoooodnmjdmaa.Sorts
section
variable {α : Type} {lt : α → α → Bool}
/-- From a up to b. -/
def seg (xs : List α) (a b : Nat) : List α := (xs.drop a).take (b - a)
theorem seg_at (xs : List α) (a b k : Nat) : (seg xs a b)[k]? = if k < b - a then xs[a + k]? else none := by
  unfold seg; rw [List.getElem?_take]; split
  · rw [List.getElem?_drop]
  · rfl
theorem seg_len {xs : List α} {a b : Nat} (h : b ≤ xs.length) : (seg xs a b).length = b - a := by unfold seg; rw [List.length_take, List.length_drop]; omega
theorem seg_self (xs : List α) (a : Nat) : seg xs a a = [] := by unfold seg; simp
theorem seg_all (xs : List α) : seg xs 0 xs.length = xs := by unfold seg; simp
theorem seg_mem {xs : List α} {a b : Nat} {z : α} (h : z ∈ seg xs a b) : z ∈ xs := List.mem_of_mem_drop (List.mem_of_mem_take h)
theorem seg_app {xs : List α} {a m b : Nat} (h1 : a ≤ m) (h2 : m ≤ b) : seg xs a m ++ seg xs m b = seg xs a b := by
  unfold seg
  have e : xs.drop m = (xs.drop a).drop (m - a) := by rw [List.drop_drop]; congr 1; omega
  rw [e, show b - a = (m - a) + (b - m) by omega, List.take_add]
theorem seg_split {xs : List α} {a b : Nat} (h1 : a ≤ b) : xs = xs.take a ++ (seg xs a b ++ xs.drop b) := by
  unfold seg
  have e : xs.drop b = (xs.drop a).drop (b - a) := by rw [List.drop_drop]; congr 1; omega
  rw [e, List.take_append_drop, List.take_append_drop]
theorem seg_one {xs : List α} {a : Nat} {x : α} (h : xs[a]? = some x) : seg xs a (a + 1) = [x] := by
  refine List.ext_getElem? fun k => ?_
  rw [seg_at]
  by_cases hk : k = 0
  · subst hk; rw [if_pos (by omega), Nat.add_zero, h]; rfl
  · rw [if_neg (by omega), List.getElem?_eq_none]; simp; omega
theorem seg_put (p m s : List α) (a b : Nat) (ha : p.length = a) (hb : a + m.length = b) : seg (p ++ (m ++ s)) a b = m := by
  subst ha; subst hb
  unfold seg
  rw [List.drop_left, Nat.add_sub_cancel_left, List.take_left]
/-- What lies elsewhere. -/
theorem put_at {xs m : List α} {a b : Nat} (h1 : a ≤ b) (h2 : b ≤ xs.length) (hm : m.length = b - a) (k : Nat) : (xs.take a ++ (m ++ xs.drop b))[k]? = if a ≤ k ∧ k < b then m[k - a]? else xs[k]? := by
  have e1 : (xs.take a).length = a := by rw [List.length_take]; omega
  rw [List.getElem?_append]
  split
  · rename_i h
    rw [e1] at h
    rw [if_neg (by omega), List.getElem?_take, if_pos h]
  · rename_i h
    rw [e1] at h
    rw [e1, List.getElem?_append]
    split
    · rw [if_pos (by omega)]
    · rw [if_neg (by omega), List.getElem?_drop, hm]; congr 1; omega
theorem put_len {xs m : List α} {a b : Nat} (h1 : a ≤ b) (h2 : b ≤ xs.length) (hm : m.length = b - a) : (xs.take a ++ (m ++ xs.drop b)).length = xs.length := by
  simp only [List.length_append, List.length_take, List.length_drop, hm]; omega
theorem put_seg {xs m : List α} {a b c d : Nat} (h1 : a ≤ b) (h2 : b ≤ xs.length) (hm : m.length = b - a) (h : d ≤ a ∨ b ≤ c) : seg (xs.take a ++ (m ++ xs.drop b)) c d = seg xs c d := by
  refine List.ext_getElem? fun k => ?_
  rw [seg_at, seg_at]
  split
  · rw [put_at h1 h2 hm, if_neg (by omega)]
  · rfl
theorem put_same {xs m : List α} {a b : Nat} (h1 : a ≤ b) (h2 : b ≤ xs.length) (hm : m.length = b - a) : seg (xs.take a ++ (m ++ xs.drop b)) a b = m :=
  seg_put _ _ _ _ _ (by rw [List.length_take]; omega) (by omega)
theorem put_put {xs m m' : List α} {a b : Nat} (h1 : a ≤ b) (h2 : b ≤ xs.length) (hm : m.length = b - a) : (xs.take a ++ (m ++ xs.drop b)).take a ++ (m' ++ (xs.take a ++ (m ++ xs.drop b)).drop b) = xs.take a ++ (m' ++ xs.drop b) := by
  have e1 : (xs.take a).length = a := by rw [List.length_take]; omega
  rw [List.take_append_of_le_length (by omega), List.take_take, Nat.min_self, List.drop_append, e1, List.drop_append, List.drop_eq_nil_of_le (as := xs.take a) (by omega), List.drop_eq_nil_of_le (as := m) (by omega), hm, List.drop_drop]
  simp only [List.nil_append]
  congr 3; omega
/-! ### Sorted, merged, turned, swapped ranges -/
def insR (lt : α → α → Bool) (xs : List α) (a b : Nat) : List α := xs.take a ++ (sortF lt (seg xs a b) ++ xs.drop b)
def symR (lt : α → α → Bool) (xs : List α) (a m b : Nat) : List α := xs.take a ++ (mergeF lt (seg xs a m) (seg xs m b) ++ xs.drop b)
def rotR (xs : List α) (a m b : Nat) : List α := xs.take a ++ ((seg xs m b ++ seg xs a m) ++ xs.drop b)
def swR (xs : List α) (a b n : Nat) : List α := xs.take a ++ ((seg xs b (b + n) ++ (seg xs (a + n) b ++ seg xs a (a + n))) ++ xs.drop (b + n))
/-- While two ranges are swapped. -/
def Sw (xs : List α) (a b i : Nat) (ys : List α) : Prop := ys.length = xs.length ∧ ∀ k, ys[k]? = if a ≤ k ∧ k < a + i then xs[k - a + b]? else if b ≤ k ∧ k < b + i then xs[k - b + a]? else xs[k]?
theorem Sw.zero (xs : List α) (a b : Nat) : Sw xs a b 0 xs := ⟨rfl, fun k => by rw [if_neg (by omega), if_neg (by omega)]⟩
theorem Sw.at {xs ys : List α} {a b i : Nat} (h : Sw xs a b i ys) (h1 : a + i < b) : ys[a + i]? = xs[a + i]? ∧ ys[b + i]? = xs[b + i]? :=
  ⟨by rw [h.2, if_neg (by omega), if_neg (by omega)], by rw [h.2, if_neg (by omega), if_neg (by omega)]⟩
theorem Sw.next {xs ys : List α} {a b i : Nat} {u v : α} (h : Sw xs a b i ys) (h1 : a + i < b) (h2 : b + i < xs.length) (hu : xs[a + i]? = some u) (hv : xs[b + i]? = some v) : Sw xs a b (i + 1) ((ys.set (a + i) v).set (b + i) u) := by
  refine ⟨by simp [h.1], fun k => ?_⟩
  have hl := h.1
  rw [List.getElem?_set]
  split
  · rename_i e; subst e
    rw [if_pos (by simp; omega), if_neg (by omega), if_pos (by omega), ← hu]; congr 1; omega
  · rename_i e
    rw [List.getElem?_set]
    split
    · rename_i e2; subst e2
      rw [if_pos (by omega), if_pos (by omega), ← hv]; congr 1; omega
    · rename_i e2
      rw [h.2]
      by_cases c1 : a ≤ k ∧ k < a + i
      · rw [if_pos c1, if_pos (by omega)]
      · rw [if_neg c1, if_neg (show ¬ (a ≤ k ∧ k < a + (i + 1)) by omega)]
        by_cases c2 : b ≤ k ∧ k < b + i
        · rw [if_pos c2, if_pos (by omega)]
        · rw [if_neg c2, if_neg (by omega)]
theorem Sw.end {xs ys : List α} {a b n : Nat} (h : Sw xs a b n ys) (h1 : a + n ≤ b) (h2 : b + n ≤ xs.length) : ys = swR xs a b n := by
  refine List.ext_getElem? fun k => ?_
  have e1 : (seg xs b (b + n)).length = n := by rw [seg_len (by omega)]; omega
  have e2 : (seg xs (a + n) b).length = b - (a + n) := by rw [seg_len (by omega)]
  have e3 : (seg xs a (a + n)).length = n := by rw [seg_len (by omega)]; omega
  unfold swR
  rw [put_at (by omega) h2 (by simp only [List.length_append, e1, e2, e3]; omega), h.2]
  by_cases c : a ≤ k ∧ k < b + n
  · rw [if_pos c, List.getElem?_append, e1]
    by_cases c1 : k - a < n
    · rw [if_pos c1, if_pos (by omega), seg_at, if_pos (by omega)]; congr 1; omega
    · rw [if_neg c1, if_neg (by omega), List.getElem?_append, e2]
      by_cases c2 : k - a - n < b - (a + n)
      · rw [if_pos c2, if_neg (by omega), seg_at, if_pos c2]; congr 1; omega
      · rw [if_neg c2, if_pos (by omega), seg_at, if_pos (by omega)]; congr 1; omega
  · rw [if_neg c, if_neg (by omega), if_neg (by omega)]
theorem swR_len {xs : List α} {a b n : Nat} (h1 : a + n ≤ b) (h2 : b + n ≤ xs.length) : (swR xs a b n).length = xs.length := by
  unfold swR; refine put_len (by omega) h2 ?_
  simp only [List.length_append, seg_len (show b + n ≤ xs.length from h2), seg_len (show b ≤ xs.length by omega), seg_len (show a + n ≤ xs.length by omega)]; omega
theorem swR_parts (p u m v s : List α) {a b n : Nat} (ha : p.length = a) (hu : u.length = n) (hv : v.length = n) (hb : a + n + m.length = b) : swR (p ++ (u ++ (m ++ (v ++ s)))) a b n = p ++ (v ++ (m ++ (u ++ s))) := by
  unfold swR
  have e1 : seg (p ++ (u ++ (m ++ (v ++ s)))) b (b + n) = v := by
    have := seg_put (p ++ (u ++ m)) v s b (b + n) (by simp; omega) (by omega)
    simpa using this
  have e2 : seg (p ++ (u ++ (m ++ (v ++ s)))) (a + n) b = m := by
    have := seg_put (p ++ u) m (v ++ s) (a + n) b (by simp; omega) (by omega)
    simpa using this
  have e3 : seg (p ++ (u ++ (m ++ (v ++ s)))) a (a + n) = u := by
    have := seg_put p u (m ++ (v ++ s)) a (a + n) ha (by omega)
    simpa using this
  rw [e1, e2, e3, List.take_append_of_le_length (by omega), List.take_of_length_le (by omega)]
  have e4 : (p ++ (u ++ (m ++ (v ++ s)))).drop (b + n) = s := by
    have : p ++ (u ++ (m ++ (v ++ s))) = (p ++ (u ++ (m ++ v))) ++ s := by simp
    rw [this, List.drop_left' (by simp; omega)]
  rw [e4]; simp
/-- While a range is turned: what lies ahead and behind is right; of the rest so many, then so many, change places. -/
def Rt (xs : List α) (a m b i j : Nat) (ys : List α) : Prop :=
  ∃ p u v s, ys = p ++ (u ++ (v ++ s)) ∧ u.length = i ∧ v.length = j ∧ p.length + i = m ∧ rotR xs a m b = p ++ (v ++ (u ++ s))
theorem Rt.start {xs : List α} {a m b : Nat} (h1 : a ≤ m) (h2 : m ≤ b) (h3 : b ≤ xs.length) : Rt xs a m b (m - a) (b - m) xs :=
  ⟨xs.take a, seg xs a m, seg xs m b, xs.drop b, by
    rw [← List.append_assoc (seg xs a m), seg_app h1 h2]; exact seg_split (by omega), seg_len (by omega), seg_len h3, by rw [List.length_take]; omega, by unfold rotR; simp⟩
theorem Rt.len {xs ys : List α} {a m b i j : Nat} (h : Rt xs a m b i j ys) : i ≤ m ∧ m + j ≤ ys.length := by
  obtain ⟨p, u, v, s, rfl, rfl, rfl, h1, -⟩ := h
  simp only [List.length_append]; omega
theorem Rt.more {xs ys : List α} {a m b i j : Nat} (h : Rt xs a m b i j ys) (hij : j < i) : Rt xs a m b (i - j) j (swR ys (m - i) m j) := by
  obtain ⟨p, u, v, s, rfl, hu, hv, h1, h2⟩ := h
  refine ⟨p ++ v, u.drop j, u.take j, s, ?_, by rw [List.length_drop]; omega, by rw [List.length_take]; omega, by simp; omega, ?_⟩
  · have := swR_parts p (u.take j) (u.drop j) v s (a := m - i) (b := m) (n := j) (by omega) (by rw [List.length_take]; omega) hv (by rw [List.length_drop]; omega)
    rw [← List.append_assoc (u.take j), List.take_append_drop] at this
    rw [this]; simp
  · rw [h2, ← List.append_assoc (u.take j), List.take_append_drop]; simp
theorem Rt.less {xs ys : List α} {a m b i j : Nat} (h : Rt xs a m b i j ys) (hij : i < j) : Rt xs a m b i (j - i) (swR ys (m - i) (m + j - i) i) := by
  obtain ⟨p, u, v, s, rfl, hu, hv, h1, h2⟩ := h
  refine ⟨p, v.drop (j - i), v.take (j - i), u ++ s, ?_, by rw [List.length_drop]; omega, by rw [List.length_take]; omega, by omega, ?_⟩
  · have := swR_parts p u (v.take (j - i)) (v.drop (j - i)) s (a := m - i) (b := m + j - i) (n := i) (by omega) hu (by rw [List.length_drop]; omega) (by rw [List.length_take]; omega)
    rw [← List.append_assoc (v.take (j - i)), List.take_append_drop] at this
    rw [this]
  · rw [h2, ← List.append_assoc (v.take (j - i)), List.take_append_drop]
theorem Rt.end {xs ys : List α} {a m b i : Nat} (h : Rt xs a m b i i ys) : swR ys (m - i) m i = rotR xs a m b := by
  obtain ⟨p, u, v, s, rfl, hu, hv, h1, h2⟩ := h
  have := swR_parts p u [] v s (a := m - i) (b := m) (n := i) (by omega) hu hv (by simp; omega)
  simp only [List.nil_append] at this
  rw [this, h2]
theorem rotR_len {xs : List α} {a m b : Nat} (h1 : a ≤ m) (h2 : m ≤ b) (h3 : b ≤ xs.length) : (rotR xs a m b).length = xs.length := by
  unfold rotR; refine put_len (by omega) h3 ?_
  rw [List.length_append, seg_len h3, seg_len (by omega)]; omega
/-! ### One that goes down to its place -/
def Bump (xs : List α) (m k : Nat) (ys : List α) : Prop := ys.length = xs.length ∧ ∀ i, ys[i]? = if i < k then xs[i]? else if i = k then xs[m]? else if i ≤ m then xs[i - 1]? else xs[i]?
theorem Bump.start (xs : List α) (m : Nat) : Bump xs m m xs := ⟨rfl, fun i => by
  by_cases h1 : i < m
  · rw [if_pos h1]
  · rw [if_neg h1]
    by_cases h2 : i = m
    · rw [if_pos h2, h2]
    · rw [if_neg h2, if_neg (by omega)]⟩
theorem Bump.at {xs ys : List α} {m k : Nat} (h : Bump xs m k ys) (hk : 0 < k) : ys[k]? = xs[m]? ∧ ys[k - 1]? = xs[k - 1]? := ⟨by rw [h.2, if_neg (by omega), if_pos rfl], by rw [h.2, if_pos (by omega)]⟩
theorem Bump.next {xs ys : List α} {m k : Nat} {y z : α} (h : Bump xs m k ys) (hk : 0 < k) (hkm : k ≤ m) (hm : m < xs.length) (hy : xs[m]? = some y) (hz : xs[k - 1]? = some z) : Bump xs m (k - 1) ((ys.set k z).set (k - 1) y) := by
  refine ⟨by simp [h.1], fun i => ?_⟩
  have hl := h.1
  rw [List.getElem?_set]
  split
  · rename_i e
    subst e
    rw [if_pos (by simp; omega), if_neg (by omega), if_pos rfl, hy]
  · rename_i e
    rw [List.getElem?_set]
    split
    · rename_i e2; subst e2
      rw [if_pos (by omega), if_neg (by omega), if_neg (by omega), if_pos hkm, hz]
    · rename_i e2
      rw [h.2]
      by_cases c1 : i < k - 1
      · rw [if_pos (by omega), if_pos c1]
      · rw [if_neg (show ¬ i < k by omega), if_neg c1, if_neg (show ¬ i = k by omega), if_neg (show ¬ i = k - 1 by omega)]
theorem Bump.end {xs ys : List α} {m k : Nat} {y : α} (h : Bump xs m k ys) (hkm : k ≤ m) (hm : m < xs.length) (hy : xs[m]? = some y) : ys = xs.take k ++ ((y :: seg xs k m) ++ xs.drop (m + 1)) := by
  refine List.ext_getElem? fun i => ?_
  rw [put_at (by omega) (by omega) (by rw [List.length_cons, seg_len (by omega)]; omega), h.2]
  by_cases c : k ≤ i ∧ i < m + 1
  · rw [if_pos c, if_neg (by omega)]
    by_cases c1 : i = k
    · subst c1; rw [if_pos rfl, Nat.sub_self, hy]; rfl
    · rw [if_neg c1, if_pos (by omega)]
      obtain ⟨d, rfl⟩ : ∃ d, i = k + 1 + d := ⟨i - k - 1, by omega⟩
      rw [show k + 1 + d - k = d + 1 by omega, List.getElem?_cons_succ, seg_at, if_pos (by omega)]; congr 1; omega
  · rw [if_neg c]
    by_cases c1 : i < k
    · rw [if_pos c1]
    · rw [if_neg c1, if_neg (by omega), if_neg (by omega)]
/-! ### One that goes up to its place -/
def Lift (xs : List α) (a k : Nat) (ys : List α) : Prop := ys.length = xs.length ∧ ∀ i, ys[i]? = if i < a then xs[i]? else if i < k then xs[i + 1]? else if i = k then xs[a]? else xs[i]?
theorem Lift.start (xs : List α) (a : Nat) : Lift xs a a xs := ⟨rfl, fun i => by
  by_cases h1 : i < a
  · rw [if_pos h1]
  · rw [if_neg h1, if_neg h1]
    by_cases h2 : i = a
    · rw [if_pos h2, h2]
    · rw [if_neg h2]⟩
theorem Lift.at {xs ys : List α} {a k : Nat} (h : Lift xs a k ys) (hk : a ≤ k) : ys[k]? = xs[a]? ∧ ys[k + 1]? = xs[k + 1]? := ⟨by rw [h.2, if_neg (by omega), if_neg (by omega), if_pos rfl], by rw [h.2, if_neg (by omega), if_neg (by omega), if_neg (by omega)]⟩
theorem Lift.next {xs ys : List α} {a k : Nat} {x z : α} (h : Lift xs a k ys) (hk : a ≤ k) (hl : k + 1 < xs.length) (hx : xs[a]? = some x) (hz : xs[k + 1]? = some z) : Lift xs a (k + 1) ((ys.set k z).set (k + 1) x) := by
  refine ⟨by simp [h.1], fun i => ?_⟩
  have hyl := h.1
  rw [List.getElem?_set]
  split
  · rename_i e; subst e
    rw [if_pos (by simp; omega), if_neg (by omega), if_neg (by omega), if_pos rfl, hx]
  · rename_i e
    rw [List.getElem?_set]
    split
    · rename_i e2; subst e2
      rw [if_pos (by omega), if_neg (by omega), if_pos (by omega), hz]
    · rename_i e2
      rw [h.2]
      by_cases c1 : i < a
      · rw [if_pos c1, if_pos c1]
      · rw [if_neg c1, if_neg c1]
        by_cases c2 : i < k
        · rw [if_pos c2, if_pos (by omega)]
        · rw [if_neg c2, if_neg (show ¬ i < k + 1 by omega), if_neg (show ¬ i = k by omega), if_neg (show ¬ i = k + 1 by omega)]
theorem Lift.end {xs ys : List α} {a k : Nat} {x : α} (h : Lift xs a k ys) (hk : a ≤ k) (hl : k < xs.length) (hx : xs[a]? = some x) : ys = xs.take a ++ ((seg xs (a + 1) (k + 1) ++ [x]) ++ xs.drop (k + 1)) := by
  refine List.ext_getElem? fun i => ?_
  rw [put_at (by omega) (by omega) (by rw [List.length_append, seg_len (by omega)]; simp; omega), h.2]
  by_cases c : a ≤ i ∧ i < k + 1
  · rw [if_pos c, if_neg (by omega), List.getElem?_append, seg_len (by omega)]
    by_cases c1 : i < k
    · rw [if_pos c1, if_pos (by omega), seg_at, if_pos (by omega)]; congr 1; omega
    · have : i = k := by omega
      subst this
      rw [if_neg c1, if_pos rfl, if_neg (by omega), hx, show i - a - (i + 1 - (a + 1)) = 0 by omega]; rfl
  · rw [if_neg c]
    by_cases c1 : i < a
    · rw [if_pos c1]
    · rw [if_neg c1, if_neg (by omega), if_neg (by omega)]
end
end Go.Proofs.Ytcnoooodnmjdmaa.Sorts
