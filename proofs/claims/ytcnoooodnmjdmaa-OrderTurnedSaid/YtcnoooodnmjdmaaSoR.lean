/- The steps of stable sorting in place: what they come to. No program in sight. -/
import Derived.Test.YtcnoooodnmjdmaaSoQ
set_option linter.unusedSimpArgs false
set_option linter.unusedVariables false
namespace Go.Proofs.Ytcnoooodnmjdmaa.Sorts
section
variable {α : Type} {lt : α → α → Bool}
theorem insR_len {xs : List α} {a b : Nat} (h1 : a ≤ b) (h2 : b ≤ xs.length) : (insR lt xs a b).length = xs.length := put_len h1 h2 (by rw [sortF_len, seg_len h2])
theorem symR_len {xs : List α} {a m b : Nat} (h1 : a ≤ m) (h2 : m ≤ b) (h3 : b ≤ xs.length) : (symR lt xs a m b).length = xs.length :=
  put_len (by omega) h3 (by rw [mergeF_len, seg_len h3, seg_len (by omega)]; omega)
theorem insR_one {xs : List α} {a : Nat} : insR lt xs a (a + 1) = xs := by
  unfold insR
  by_cases h : a < xs.length
  · rw [seg_one (List.getElem?_eq_getElem h)]
    have e := seg_split (xs := xs) (a := a) (b := a + 1) (by omega)
    rw [seg_one (List.getElem?_eq_getElem h)] at e
    exact e.symm
  · have e : seg xs a (a + 1) = [] := by unfold seg; rw [List.drop_eq_nil_of_le (by omega)]; simp
    rw [e, List.take_of_length_le (by omega), List.drop_eq_nil_of_le (by omega)]; simp [sortF, mergeF]
theorem insR_none {xs : List α} {a : Nat} : insR lt xs a a = xs := by unfold insR; rw [seg_self]; simp [sortF, mergeF]
theorem insR_at {xs : List α} {a i : Nat} (h1 : a ≤ i) (h2 : i < xs.length) : (insR lt xs a i)[i]? = xs[i]? := by
  unfold insR; rw [put_at h1 (by omega) (by rw [sortF_len, seg_len (by omega)]), if_neg (by omega)]
theorem insR_step (h : Weak lt) {xs ys : List α} {a i k : Nat} {y : α} (hak : a ≤ k) (hki : k ≤ i) (hi : i < xs.length) (hy : xs[i]? = some y) (hb : Bump (insR lt xs a i) i k ys)
    (h1 : a < k → ∀ z, (insR lt xs a i)[k - 1]? = some z → lt y z = false) (h2 : k < i → ∀ z, (insR lt xs a i)[k]? = some z → lt y z = true) : ys = insR lt xs a (i + 1) := by
  have hds : (insR lt xs a i)[i]? = some y := by rw [insR_at (by omega) hi, hy]
  have e := hb.end hki (by rw [insR_len (by omega) (by omega)]; exact hi) hds
  have hS : (sortF lt (seg xs a i)).length = i - a := by rw [sortF_len, seg_len (by omega)]
  have at' : ∀ j, (insR lt xs a i)[j]? = if a ≤ j ∧ j < i then (sortF lt (seg xs a i))[j - a]? else xs[j]? := fun j => by
    unfold insR; rw [put_at (by omega) (by omega) hS]
  have e2 := cut_right h (sortF_up h (seg xs a i)) (y := y) (i := k - a) (by omega) (fun hk z hz => h1 (by omega) z (by rw [at', if_pos (by omega), ← hz]; congr 1; omega)) (fun z hz => by
    by_cases hk : k < i
    · exact h2 hk z (by rw [at', if_pos (by omega), hz])
    · rw [List.getElem?_eq_none (by omega)] at hz; cases hz)
  have e3 : seg xs a (i + 1) = seg xs a i ++ [y] := by rw [← seg_app (show a ≤ i by omega) (show i ≤ i + 1 by omega), seg_one hy]
  rw [e]
  have hpl : (xs.take a).length = a := by rw [List.length_take]; omega
  have e4 : (insR lt xs a i).take k = xs.take a ++ (sortF lt (seg xs a i)).take (k - a) := by
    unfold insR
    rw [List.take_append, hpl, List.take_of_length_le (by omega), List.take_append, hS, show k - a - (i - a) = 0 by omega]; simp
  have e5 : seg (insR lt xs a i) k i = (sortF lt (seg xs a i)).drop (k - a) := by
    refine List.ext_getElem? fun j => ?_
    rw [seg_at, List.getElem?_drop]
    split
    · rw [at', if_pos (by omega)]; congr 1; omega
    · rw [List.getElem?_eq_none (by omega)]
  have e6 : (insR lt xs a i).drop (i + 1) = xs.drop (i + 1) := by
    refine List.ext_getElem? fun j => ?_
    rw [List.getElem?_drop, List.getElem?_drop, at', if_neg (by omega)]
  rw [e4, e5, e6]
  unfold insR
  rw [e3, sort_snoc, e2]
  simp
/-! ### A merge in place -/
theorem pair_le (h : Weak lt) {l : List α} (hl : Up lt l) {i j : Nat} {x y : α} (hij : i ≤ j) (hx : l[i]? = some x) (hy : l[j]? = some y) : lt y x = false := by
  by_cases e : i = j
  · subst e; rw [hx] at hy; cases hy; exact h.irr x
  · obtain ⟨hi, rfl⟩ := List.getElem?_eq_some_iff.1 hx
    obtain ⟨hj, rfl⟩ := List.getElem?_eq_some_iff.1 hy
    exact List.pairwise_iff_getElem.1 hl i j hi hj (by omega)
theorem seg_le (h : Weak lt) {xs : List α} {a b : Nat} (hu : Up lt (seg xs a b)) {i j : Nat} {x y : α} (ha : a ≤ i) (hij : i ≤ j) (hj : j < b) (hx : xs[i]? = some x) (hy : xs[j]? = some y) : lt y x = false :=
  pair_le h hu (i := i - a) (j := j - a) (by omega) (by rw [seg_at, if_pos (by omega), ← hx]; congr 1; omega) (by rw [seg_at, if_pos (by omega), ← hy]; congr 1; omega)
theorem sym_low (h : Weak lt) {xs ys : List α} {a m b i : Nat} {x : α} (hm : m = a + 1) (hmi : m ≤ i) (hib : i ≤ b) (hbl : b ≤ xs.length) (hx : xs[a]? = some x) (hu : Up lt (seg xs m b))
    (h1 : m < i → ∀ z, xs[i - 1]? = some z → lt z x = true) (h2 : i < b → ∀ z, xs[i]? = some z → lt z x = false) (hl : Lift xs a (i - 1) ys) : ys = symR lt xs a m b := by
  subst hm
  have e := hl.end (by omega) (by omega) hx
  rw [show i - 1 + 1 = i by omega] at e
  have e2 := cut_left h hu (x := x) (i := i - (a + 1)) (by rw [seg_len hbl]; omega) (fun hk z hz => h1 (by omega) z (by rw [seg_at, if_pos (by omega)] at hz; rw [← hz]; congr 1; omega)) (fun z hz => by
    rw [seg_at] at hz
    split at hz
    · exact h2 (by omega) z (by rw [← hz]; congr 1; omega)
    · cases hz)
  unfold symR
  rw [seg_one hx, e2, e]
  have e3 : (seg xs (a + 1) b).take (i - (a + 1)) = seg xs (a + 1) i := by
    unfold seg; rw [List.take_take]; congr 1; omega
  have e4 : (seg xs (a + 1) b).drop (i - (a + 1)) ++ xs.drop b = xs.drop i := by
    rw [← seg_app (show a + 1 ≤ i by omega) hib, List.drop_left' (by rw [seg_len (by omega)])]
    unfold seg
    have : xs.drop b = (xs.drop i).drop (b - i) := by rw [List.drop_drop]; congr 1; omega
    rw [this, List.take_append_drop]
  rw [e3, ← e4]; simp
theorem sym_high (h : Weak lt) {xs ys : List α} {a m b i : Nat} {y : α} (hb : b = m + 1) (hai : a ≤ i) (him : i ≤ m) (hbl : b ≤ xs.length) (hy : xs[m]? = some y) (hu : Up lt (seg xs a m))
    (h1 : a < i → ∀ z, xs[i - 1]? = some z → lt y z = false) (h2 : i < m → ∀ z, xs[i]? = some z → lt y z = true) (hl : Bump xs m i ys) : ys = symR lt xs a m b := by
  subst hb
  have e := hl.end him (by omega) hy
  have e2 := cut_right h hu (y := y) (i := i - a) (by rw [seg_len (by omega)]; omega) (fun hk z hz => h1 (by omega) z (by rw [seg_at, if_pos (by omega)] at hz; rw [← hz]; congr 1; omega)) (fun z hz => by
    rw [seg_at] at hz
    split at hz
    · exact h2 (by omega) z (by rw [← hz]; congr 1; omega)
    · cases hz)
  unfold symR
  rw [seg_one hy]
  show ys = xs.take a ++ (ins lt y (seg xs a m) ++ _)
  rw [e2, e]
  have e3 : xs.take a ++ (seg xs a m).take (i - a) = xs.take i := by
    unfold seg; rw [List.take_take, Nat.min_eq_left (by omega), show i = a + (i - a) by omega, List.take_add, show a + (i - a) - a = i - a by omega]
  have e4 : (seg xs a m).drop (i - a) = seg xs i m := by
    rw [← seg_app hai him, List.drop_left' (by rw [seg_len (by omega)])]
  rw [e4, ← e3]; simp
theorem seg_get {xs : List α} {a b : Nat} {z : α} (h : z ∈ seg xs a b) : ∃ i, a ≤ i ∧ i < b ∧ xs[i]? = some z := by
  obtain ⟨k, hk⟩ := List.mem_iff_getElem?.1 h
  rw [seg_at] at hk
  split at hk
  · exact ⟨a + k, by omega, by omega, hk⟩
  · cases hk
/-- What the search finds. -/
theorem sym_found (h : Weak lt) {xs : List α} {a m b mid s s0 r0 : Nat} (ham : a ≤ m) (hmb : m ≤ b) (hbl : b ≤ xs.length) (hu1 : Up lt (seg xs a m)) (hu2 : Up lt (seg xs m b))
    (h0 : (mid < m ∧ s0 = mid + m - b ∧ b ≤ mid + m ∧ r0 = mid) ∨ (m ≤ mid ∧ s0 = a ∧ r0 = m)) (hmid : a ≤ mid ∧ mid ≤ b ∧ (mid = a + (b - a) / 2)) (hs : s0 ≤ s ∧ s ≤ r0)
    (h1 : s0 < s → ∀ u v, xs[mid + m - s]? = some u → xs[s - 1]? = some v → lt u v = false) (h2 : s < r0 → ∀ u v, xs[mid + m - 1 - s]? = some u → xs[s]? = some v → lt u v = true) :
    (a ≤ s ∧ s ≤ m ∧ m ≤ mid + m - s ∧ mid + m - s ≤ b) ∧ (∀ x ∈ seg xs a s, ∀ y ∈ seg xs (mid + m - s) b, lt y x = false) ∧ (∀ y ∈ seg xs m (mid + m - s), ∀ z ∈ seg xs s m, lt y z = true) := by
  have hr : a ≤ s ∧ s ≤ m ∧ m ≤ mid + m - s ∧ mid + m - s ≤ b := by omega
  refine ⟨hr, fun x hx y hy => ?_, fun y hy z hz => ?_⟩
  · obtain ⟨i, i1, i2, i3⟩ := seg_get hx
    obtain ⟨j, j1, j2, j3⟩ := seg_get hy
    have hs0 : s0 < s := by omega
    obtain ⟨u, hu⟩ : ∃ u, xs[mid + m - s]? = some u := ⟨_, List.getElem?_eq_getElem (by omega)⟩
    obtain ⟨v, hv⟩ : ∃ v, xs[s - 1]? = some v := ⟨_, List.getElem?_eq_getElem (by omega)⟩
    have g1 := h1 hs0 u v hu hv
    have g2 := seg_le h hu1 i1 (show i ≤ s - 1 by omega) (by omega) i3 hv
    have g3 := seg_le h hu2 hr.2.2.1 j1 j2 hu j3
    exact h.neg _ _ _ g3 (h.neg _ _ _ g1 g2)
  · obtain ⟨i, i1, i2, i3⟩ := seg_get hy
    obtain ⟨j, j1, j2, j3⟩ := seg_get hz
    have hs0 : s < r0 := by omega
    obtain ⟨u, hu⟩ : ∃ u, xs[mid + m - 1 - s]? = some u := ⟨_, List.getElem?_eq_getElem (by omega)⟩
    obtain ⟨v, hv⟩ : ∃ v, xs[s]? = some v := ⟨_, List.getElem?_eq_getElem (by omega)⟩
    have g1 := h2 hs0 u v hu hv
    have g2 := seg_le h hu2 i1 (show i ≤ mid + m - 1 - s by omega) (by omega) i3 hu
    have g3 := seg_le h hu1 hr.1 j1 j2 hv j3
    cases e : lt y z
    · have := h.neg _ _ _ (h.neg _ _ _ g2 e) g3
      rw [g1] at this; cases this
    · rfl
theorem rotR_triv {xs : List α} {s m e : Nat} (h1 : s ≤ m) (h2 : m ≤ e) (h : s = m ∨ m = e) : rotR xs s m e = xs := by
  unfold rotR
  rcases h with rfl | rfl
  · rw [seg_self, List.append_nil]; exact (seg_split h2).symm
  · rw [seg_self, List.nil_append]; exact (seg_split h1).symm
theorem symR_triv {xs : List α} {a s e : Nat} (h1 : a ≤ s) (h2 : s ≤ e) (hu1 : Up lt (seg xs a s)) (hu2 : Up lt (seg xs s e)) (h : a = s ∨ s = e) : symR lt xs a s e = xs := by
  unfold symR
  rcases h with rfl | rfl
  · rw [seg_self, merge_nil hu2]; exact (seg_split h2).symm
  · rw [seg_self]; exact (seg_split h1).symm
/-- The three ranges behind the turn. -/
theorem rot_segs {xs : List α} {a m b s e mid : Nat} (h1 : a ≤ s) (h2 : s ≤ m) (h3 : m ≤ e) (h4 : e ≤ b) (hbl : b ≤ xs.length) (hmid : mid + m = e + s) :
    seg (rotR xs s m e) a s = seg xs a s ∧ seg (rotR xs s m e) s mid = seg xs m e ∧ seg (rotR xs s m e) mid e = seg xs s m ∧ seg (rotR xs s m e) e b = seg xs e b ∧ (rotR xs s m e).length = xs.length := by
  have hl : (seg xs m e ++ seg xs s m).length = e - s := by rw [List.length_append, seg_len (by omega), seg_len (by omega)]; omega
  refine ⟨put_seg (by omega) (by omega) hl (by omega), ?_, ?_, put_seg (by omega) (by omega) hl (by omega), rotR_len h2 h3 (by omega)⟩
  · unfold rotR
    rw [List.append_assoc]
    exact seg_put _ _ _ _ _ (by rw [List.length_take]; omega) (by rw [seg_len (by omega)]; omega)
  · unfold rotR
    rw [List.append_assoc, ← List.append_assoc (xs.take s)]
    exact seg_put _ _ _ _ _ (by rw [List.length_append, List.length_take, seg_len (by omega)]; omega) (by rw [seg_len (by omega)]; omega)
theorem up_seg {xs : List α} {a b c d : Nat} (h : Up lt (seg xs a b)) (h1 : a ≤ c) (h2 : d ≤ b) : Up lt (seg xs c d) := by
  refine List.Pairwise.sublist ?_ h
  unfold seg
  have e : xs.drop c = (xs.drop a).drop (c - a) := by rw [List.drop_drop]; congr 1; omega
  rw [e]
  refine List.Sublist.trans ?_ (List.drop_sublist (c - a) ((xs.drop a).take (b - a)))
  rw [List.drop_take]
  exact (List.take_prefix_take_left (by omega)).sublist
theorem sym_final {xs : List α} {a m b s e mid : Nat} (h1 : a ≤ s) (h2 : s ≤ m) (h3 : m ≤ e) (h4 : e ≤ b) (hbl : b ≤ xs.length) (hmid : mid + m = e + s) (hu2 : Up lt (seg xs m b))
    (hA : ∀ x ∈ seg xs a s, ∀ y ∈ seg xs e b, lt y x = false) (hB : ∀ y ∈ seg xs m e, ∀ z ∈ seg xs s m, lt y z = true) :
    symR lt (symR lt (rotR xs s m e) a s mid) mid e b = symR lt xs a m b := by
  obtain ⟨g1, g2, g3, g4, g5⟩ := rot_segs h1 h2 h3 h4 hbl hmid
  have hc := merge_cut (lt := lt) (l1 := seg xs a s) (l2 := seg xs s m) (r1 := seg xs m e) (r2 := seg xs e b) (by rw [seg_app h3 h4]; exact hu2) hA hB
  rw [seg_app h1 h2, seg_app h3 h4] at hc
  obtain ⟨ys, hys⟩ : ∃ ys, rotR xs s m e = ys := ⟨_, rfl⟩
  have hm1 : (mergeF lt (seg ys a s) (seg ys s mid)).length = mid - a := by rw [← hys, g1, g2, mergeF_len, seg_len (by omega), seg_len (by omega)]; omega
  have hml : mid ≤ ys.length := by rw [← hys, g5]; omega
  have k1 : seg (symR lt ys a s mid) mid e = seg ys mid e := put_seg (by omega) hml hm1 (by omega)
  have k2 : seg (symR lt ys a s mid) e b = seg ys e b := put_seg (by omega) hml hm1 (by omega)
  rw [hys]
  have ea : ys.take a = xs.take a := by
    refine List.ext_getElem? fun k => ?_
    rw [List.getElem?_take, List.getElem?_take]
    split
    · rw [← hys]; unfold rotR; rw [put_at (by omega) (by omega) (by rw [List.length_append, seg_len (by omega), seg_len (by omega)]; omega), if_neg (by omega)]
    · rfl
  have eb : ys.drop b = xs.drop b := by
    refine List.ext_getElem? fun k => ?_
    rw [List.getElem?_drop, List.getElem?_drop, ← hys]
    unfold rotR; rw [put_at (by omega) (by omega) (by rw [List.length_append, seg_len (by omega), seg_len (by omega)]; omega), if_neg (by omega)]
  unfold symR at k1 k2 ⊢
  rw [hc, k1, k2]
  subst hys
  rw [g1, g2, g3, g4, ea]
  have hpl : (xs.take a).length = a := by rw [List.length_take]; omega
  rw [g1, g2] at hm1
  have et : (xs.take a ++ (mergeF lt (seg xs a s) (seg xs m e) ++ (rotR xs s m e).drop mid)).take mid = xs.take a ++ mergeF lt (seg xs a s) (seg xs m e) := by
    rw [← List.append_assoc, List.take_left' (by rw [List.length_append]; omega)]
  have ed : (xs.take a ++ (mergeF lt (seg xs a s) (seg xs m e) ++ (rotR xs s m e).drop mid)).drop b = xs.drop b := by
    rw [← List.append_assoc, List.drop_append, List.drop_eq_nil_of_le (by rw [List.length_append]; omega), List.length_append, List.nil_append, List.drop_drop, ← eb]; congr 1; omega
  rw [et, ed]; simp
/-! ### Blocks -/
def M (bs c : Nat) : Prop := ∃ j, c = j * bs
theorem M.zero (bs : Nat) : M bs 0 := ⟨0, by simp⟩
theorem M.next {bs c : Nat} (h : M bs c) : M bs (c + bs) := by obtain ⟨j, rfl⟩ := h; exact ⟨j + 1, (Nat.succ_mul j bs).symm⟩
theorem M.below {bs c a : Nat} (hc : M bs c) (ha : M bs a) (h : c < a) : c + bs ≤ a := by
  obtain ⟨j, rfl⟩ := hc
  obtain ⟨i, rfl⟩ := ha
  have : j < i := Nat.lt_of_mul_lt_mul_right h
  rw [← Nat.succ_mul]
  exact Nat.mul_le_mul_right bs this
theorem M.half {bs c : Nat} (h : M (bs * 2) c) : M bs c := by obtain ⟨j, rfl⟩ := h; exact ⟨j * 2, by rw [Nat.mul_assoc, Nat.mul_comm 2 bs]⟩
/-- A range is sorted. -/
def SR (lt : α → α → Bool) (xs ys : List α) (c d : Nat) : Prop := seg ys c d = sortF lt (seg xs c d)
def Blk (lt : α → α → Bool) (xs ys : List α) (bs : Nat) : Prop := ys.length = xs.length ∧ ∀ c, M bs c → c < xs.length → SR lt xs ys c (min xs.length (c + bs))
/-- While blocks are sorted. -/
def BlkA (lt : α → α → Bool) (xs ys : List α) (bs a : Nat) : Prop := (ys.length = xs.length ∧ M bs a ∧ a ≤ xs.length) ∧ (∀ c, M bs c → c < a → SR lt xs ys c (c + bs)) ∧ ∀ k, a ≤ k → ys[k]? = xs[k]?
theorem BlkA.start (xs : List α) (bs : Nat) : BlkA lt xs xs bs 0 := ⟨⟨rfl, M.zero _, Nat.zero_le _⟩, fun c _ hc => absurd hc (Nat.not_lt_zero _), fun _ _ => rfl⟩
theorem BlkA.same {xs ys : List α} {bs a d : Nat} (h : BlkA lt xs ys bs a) : seg ys a d = seg xs a d := by
  refine List.ext_getElem? fun k => ?_
  rw [seg_at, seg_at, h.2.2 _ (by omega)]
theorem BlkA.next {xs ys : List α} {bs a : Nat} (h : BlkA lt xs ys bs a) (hb : 0 < bs) (hn : a + bs ≤ xs.length) : BlkA lt xs (insR lt ys a (a + bs)) bs (a + bs) := by
  have hl := h.1.1
  have hm : (sortF lt (seg ys a (a + bs))).length = a + bs - a := by rw [sortF_len, seg_len (by omega)]
  refine ⟨⟨by rw [insR_len (by omega) (by omega), hl], h.1.2.1.next, hn⟩, fun c hc hca => ?_, fun k hk => ?_⟩
  · unfold SR insR
    by_cases e : c = a
    · subst e; rw [put_same (by omega) (by omega) hm, h.same]
    · have h1 : c < a := by
        rcases Nat.lt_or_ge c a with h1 | h1
        · exact h1
        · have := h.1.2.1.below hc (by omega); omega
      have h2 := hc.below h.1.2.1 h1
      rw [put_seg (by omega) (by omega) hm (by omega)]
      exact h.2.1 c hc h1
  · unfold insR; rw [put_at (by omega) (by omega) hm, if_neg (by omega)]; exact h.2.2 k (by omega)
theorem BlkA.end {xs ys : List α} {bs a : Nat} (h : BlkA lt xs ys bs a) (hb : 0 < bs) (hn : xs.length < a + bs) : Blk lt xs (insR lt ys a xs.length) bs := by
  have hl := h.1.1
  have ha := h.1.2.2
  have hm : (sortF lt (seg ys a xs.length)).length = xs.length - a := by rw [sortF_len, seg_len (by omega)]
  refine ⟨by rw [insR_len ha (by omega), hl], fun c hc hcn => ?_⟩
  unfold SR insR
  by_cases h1 : c < a
  · have h2 := hc.below h.1.2.1 h1
    rw [Nat.min_eq_right (by omega), put_seg ha (by omega) hm (by omega)]
    exact h.2.1 c hc h1
  · by_cases e : c = a
    · subst e; rw [Nat.min_eq_left (by omega), put_same ha (by omega) hm, h.same]
    · have := h.1.2.1.below hc (by omega); omega
/-- While blocks are merged, two by two. -/
def BlkM (lt : α → α → Bool) (xs ys : List α) (bs a : Nat) : Prop := (ys.length = xs.length ∧ M (bs * 2) a ∧ a ≤ xs.length) ∧ (∀ c, M (bs * 2) c → c < a → SR lt xs ys c (c + bs * 2)) ∧ ∀ c, M bs c → a ≤ c → c < xs.length → SR lt xs ys c (min xs.length (c + bs))
theorem BlkM.start {xs ys : List α} {bs : Nat} (h : Blk lt xs ys bs) : BlkM lt xs ys bs 0 := ⟨⟨h.1, M.zero _, Nat.zero_le _⟩, fun c _ hc => absurd hc (Nat.not_lt_zero _), fun c hc _ hn => h.2 c hc hn⟩
theorem BlkM.ups (hw : Weak lt) {xs ys : List α} {bs a b : Nat} (h : BlkM lt xs ys bs a) (hb : 0 < bs) (h1 : a + bs < xs.length) (h2 : b = min xs.length (a + bs * 2)) :
    Up lt (seg ys a (a + bs)) ∧ Up lt (seg ys (a + bs) b) ∧ mergeF lt (seg ys a (a + bs)) (seg ys (a + bs) b) = sortF lt (seg xs a b) := by
  have e1 := h.2.2 a h.1.2.1.half (Nat.le_refl _) (by omega)
  have e2 := h.2.2 (a + bs) h.1.2.1.half.next (by omega) h1
  rw [Nat.min_eq_right (by omega)] at e1
  rw [show min xs.length (a + bs + bs) = b by omega] at e2
  unfold SR at e1 e2
  rw [e1, e2]
  refine ⟨sortF_up hw _, sortF_up hw _, ?_⟩
  rw [← sort_app hw, seg_app (by omega) (by omega)]
theorem BlkM.next (hw : Weak lt) {xs ys : List α} {bs a : Nat} (h : BlkM lt xs ys bs a) (hb : 0 < bs) (hn : a + bs * 2 ≤ xs.length) : BlkM lt xs (symR lt ys a (a + bs) (a + bs * 2)) bs (a + bs * 2) := by
  have hl := h.1.1
  obtain ⟨-, -, e⟩ := h.ups hw hb (by omega) (b := a + bs * 2) (by omega)
  have hm : (mergeF lt (seg ys a (a + bs)) (seg ys (a + bs) (a + bs * 2))).length = a + bs * 2 - a := by rw [mergeF_len, seg_len (by omega), seg_len (by omega)]; omega
  refine ⟨⟨by rw [symR_len (by omega) (by omega) (by omega), hl], h.1.2.1.next, hn⟩, fun c hc hca => ?_, fun c hc h1 h2 => ?_⟩
  · unfold SR symR
    by_cases e1 : c = a
    · subst e1; rw [put_same (by omega) (by omega) hm, e]
    · have h1 : c < a := by
        rcases Nat.lt_or_ge c a with h1 | h1
        · exact h1
        · have := h.1.2.1.below hc (by omega); omega
      have h2 := hc.below h.1.2.1 h1
      rw [put_seg (by omega) (by omega) hm (by omega)]
      exact h.2.1 c hc h1
  · unfold SR symR
    rw [put_seg (by omega) (by omega) hm (by omega)]
    exact h.2.2 c hc (by omega) h2
theorem BlkM.end (hw : Weak lt) {xs ys : List α} {bs a : Nat} (h : BlkM lt xs ys bs a) (hb : 0 < bs) (hn : xs.length < a + bs * 2) :
    Blk lt xs (if a + bs < xs.length then symR lt ys a (a + bs) xs.length else ys) (bs * 2) := by
  have hl := h.1.1
  have ha := h.1.2.2
  have other : ∀ c, M (bs * 2) c → c < xs.length → c < a ∨ c = a := fun c hc hcn => by
    rcases Nat.lt_trichotomy c a with h1 | h1 | h1
    · exact .inl h1
    · exact .inr h1
    · have := h.1.2.1.below hc h1; omega
  split
  · rename_i h1
    obtain ⟨-, -, e⟩ := h.ups hw hb h1 (b := xs.length) (by omega)
    have hm : (mergeF lt (seg ys a (a + bs)) (seg ys (a + bs) xs.length)).length = xs.length - a := by rw [mergeF_len, seg_len (by omega), seg_len (by omega)]; omega
    refine ⟨by rw [symR_len (by omega) (by omega) (by omega), hl], fun c hc hcn => ?_⟩
    unfold SR symR
    rcases other c hc hcn with h2 | rfl
    · have h3 := hc.below h.1.2.1 h2
      rw [Nat.min_eq_right (by omega), put_seg (by omega) (by omega) hm (by omega)]
      exact h.2.1 c hc h2
    · rw [Nat.min_eq_left (by omega), put_same (by omega) (by omega) hm, e]
  · rename_i h1
    refine ⟨hl, fun c hc hcn => ?_⟩
    rcases other c hc hcn with h2 | rfl
    · have h3 := hc.below h.1.2.1 h2
      rw [Nat.min_eq_right (by omega)]
      exact h.2.1 c hc h2
    · have := h.2.2 c hc.half (Nat.le_refl _) hcn
      rwa [Nat.min_eq_left (by omega)] at this ⊢
theorem Blk.sorted {xs ys : List α} {bs : Nat} (h : Blk lt xs ys bs) (hb : xs.length ≤ bs) : ys = sortF lt xs := by
  by_cases hn : xs.length = 0
  · rw [List.length_eq_zero_iff.1 hn]; exact List.length_eq_zero_iff.1 (h.1.trans hn)
  · have := h.2 0 (M.zero _) (by omega)
    unfold SR at this
    rw [show min xs.length (0 + bs) = xs.length by omega, seg_all] at this
    rw [← this, ← h.1, seg_all]
end
end Go.Proofs.Ytcnoooodnmjdmaa.Sorts
