import Derived.Test.YtbdnhoddkdiogaaMr2
set_option linter.unusedSimpArgs false
set_option linter.unusedVariables false
namespace Go.Proofs.Ytbdnhoddkdiogaa
open Go.RowKit
/-! A root binds its list: what is digested, on lists of numbers. -/
def topF (l : List (List Int)) : List Int := if l.length = 0 then [] else if l.length = 1 then 0 :: l.headD [] else 1 :: (rootF (l.take (splitN l.length)) ++ rootF (l.drop (splitN l.length)))
theorem rootF_top (l : List (List Int)) : rootF l = dg (topF l) := by
  unfold topF
  split
  · rename_i h; rw [rootF_0 l h]
  · split
    · rename_i h; rw [rootF_1 l h]; rfl
    · rw [rootF_2 l (by omega)]; rfl
def innerN : Nat → List (List Int) → List (List Int)
  | 0, _ => [[]]
  | n + 1, l => if l.length = 0 then [[]] else if l.length = 1 then [0 :: l.headD []] else innerN n (l.take (splitN l.length)) ++ innerN n (l.drop (splitN l.length)) ++ [1 :: (rootF (l.take (splitN l.length)) ++ rootF (l.drop (splitN l.length)))]
def innerF (l : List (List Int)) : List (List Int) := innerN l.length l
theorem innerN_fuel : ∀ (n m : Nat) (l : List (List Int)), l.length ≤ n → l.length ≤ m → innerN n l = innerN m l := fun n => by
  induction n with
  | zero =>
    intro m l h1 h2
    have : l.length = 0 := by omega
    cases m with
    | zero => rfl
    | succ m => unfold innerN; rw [if_pos this]
  | succ n ih =>
    intro m l h1 h2
    cases m with
    | zero => have : l.length = 0 := by omega
              unfold innerN; rw [if_pos this]
    | succ m =>
      unfold innerN
      split
      · rfl
      · split
        · rfl
        · have sp := splitN_spec l.length (by omega)
          rw [ih m (l.take (splitN l.length)) (by rw [List.length_take]; omega) (by rw [List.length_take]; omega), ih m (l.drop (splitN l.length)) (by rw [List.length_drop]; omega) (by rw [List.length_drop]; omega)]
theorem innerF_0 (l : List (List Int)) (h : l.length = 0) : innerF l = [[]] := by unfold innerF; rw [h]; rfl
theorem innerF_1 (l : List (List Int)) (h : l.length = 1) : innerF l = [0 :: l.headD []] := by unfold innerF; rw [h, innerN, if_neg (by omega), if_pos h]
theorem innerF_2 (l : List (List Int)) (h : 2 ≤ l.length) : innerF l = innerF (l.take (splitN l.length)) ++ innerF (l.drop (splitN l.length)) ++ [1 :: (rootF (l.take (splitN l.length)) ++ rootF (l.drop (splitN l.length)))] := by
  have sp := splitN_spec l.length h
  obtain ⟨n, hn⟩ : ∃ n, l.length = n + 1 := ⟨l.length - 1, by omega⟩
  have e : innerF l = innerN (n + 1) l := by unfold innerF; rw [hn]
  rw [e, innerN, if_neg (by omega), if_neg (by omega)]
  unfold innerF
  rw [innerN_fuel n _ (l.take (splitN l.length)) (by rw [List.length_take]; omega) (Nat.le_refl _), innerN_fuel n _ (l.drop (splitN l.length)) (by rw [List.length_drop]; omega) (Nat.le_refl _)]
theorem top_inner (l : List (List Int)) : topF l ∈ innerF l := by
  unfold topF
  split
  · rename_i h; rw [innerF_0 l h]; simp
  · split
    · rename_i h; rw [innerF_1 l h]; simp
    · rw [innerF_2 l (by omega)]; simp
/-- Among things two unlike ones have one digest. -/
def Clash (a b : List (List Int)) : Prop := ∃ x ∈ a, ∃ y ∈ b, dg x = dg y ∧ x ≠ y
theorem Clash.mono {a b a' b' : List (List Int)} (h : Clash a b) (ha : ∀ x ∈ a, x ∈ a') (hb : ∀ x ∈ b, x ∈ b') : Clash a' b' := by
  obtain ⟨x, hx, y, hy, h⟩ := h; exact ⟨x, ha x hx, y, hb y hy, h⟩
theorem inner_take (l : List (List Int)) (h : 2 ≤ l.length) : ∀ x ∈ innerF (l.take (splitN l.length)), x ∈ innerF l := fun x hx => by rw [innerF_2 l h]; simp [hx]
theorem inner_drop (l : List (List Int)) (h : 2 ≤ l.length) : ∀ x ∈ innerF (l.drop (splitN l.length)), x ∈ innerF l := fun x hx => by rw [innerF_2 l h]; simp [hx]
theorem append_32 {a b c d : List Int} (ha : a.length = 32) (hc : c.length = 32) (h : a ++ b = c ++ d) : a = c ∧ b = d := List.append_inj h (by rw [ha, hc])
theorem head_1 (l : List (List Int)) (h : l.length = 1) : l = [l.headD []] := by
  match l, h with
  | [x], _ => rfl
theorem binds : ∀ (n : Nat) (l k : List (List Int)), l.length ≤ n → rootF l = rootF k → l = k ∨ Clash (innerF l) (innerF k) := fun n => by
  induction n with
  | zero =>
    intro l k hl h
    by_cases ht : topF l = topF k
    · have h0 : l.length = 0 := by omega
      have e : topF l = [] := by unfold topF; rw [if_pos h0]
      rw [e] at ht
      left
      have hk : k.length = 0 := by
        rcases Nat.eq_zero_or_pos k.length with h1 | h1
        · exact h1
        · unfold topF at ht
          rw [if_neg (by omega)] at ht
          split at ht <;> cases ht
      rw [List.length_eq_zero_iff.1 h0, List.length_eq_zero_iff.1 hk]
    · exact .inr ⟨_, top_inner l, _, top_inner k, by rw [← rootF_top, ← rootF_top, h], ht⟩
  | succ n ih =>
    intro l k hl h
    by_cases ht : topF l = topF k
    · by_cases h0 : l.length = 0
      · have e : topF l = [] := by unfold topF; rw [if_pos h0]
        rw [e] at ht
        left
        have hk : k.length = 0 := by
          rcases Nat.eq_zero_or_pos k.length with h1 | h1
          · exact h1
          · unfold topF at ht
            rw [if_neg (by omega)] at ht
            split at ht <;> cases ht
        rw [List.length_eq_zero_iff.1 h0, List.length_eq_zero_iff.1 hk]
      · by_cases h1 : l.length = 1
        · have e : topF l = 0 :: l.headD [] := by unfold topF; rw [if_neg h0, if_pos h1]
          rw [e] at ht
          left
          unfold topF at ht
          split at ht
          · cases ht
          · split at ht
            · rename_i k1
              rw [head_1 l h1, head_1 k k1]
              simp only [List.cons.injEq] at ht
              rw [ht.2]
            · simp at ht
        · have e : topF l = 1 :: (rootF (l.take (splitN l.length)) ++ rootF (l.drop (splitN l.length))) := by unfold topF; rw [if_neg h0, if_neg h1]
          rw [e] at ht
          unfold topF at ht
          split at ht
          · cases ht
          · split at ht
            · simp at ht
            · rename_i k0 k1
              simp only [List.cons.injEq, true_and] at ht
              obtain ⟨g1, g2⟩ := append_32 (rootF_len _) (rootF_len _) ht
              have sp := splitN_spec l.length (by omega)
              rcases ih (l.take (splitN l.length)) (k.take (splitN k.length)) (by rw [List.length_take]; omega) g1 with e1 | c1
              · rcases ih (l.drop (splitN l.length)) (k.drop (splitN k.length)) (by rw [List.length_drop]; omega) g2 with e2 | c2
                · left
                  rw [← List.take_append_drop (splitN l.length) l, e1, e2, List.take_append_drop]
                · exact .inr (c2.mono (inner_drop l (by omega)) (inner_drop k (by omega)))
              · exact .inr (c1.mono (inner_take l (by omega)) (inner_take k (by omega)))
    · exact .inr ⟨_, top_inner l, _, top_inner k, by rw [← rootF_top, ← rootF_top, h], ht⟩
/-- What is digested where a text is put together with a proof; what comes of it. -/
def pathN : Nat → List Int → Int → Nat → List (List Int) → List Int × List (List Int)
  | 0, t, _, _, _ => (leafF t, [0 :: t])
  | n + 1, t, a, m, p => if m ≤ 1 then (leafF t, [0 :: t]) else
    if a < (splitN m : Int) then (bothF (pathN n t a (splitN m) (p.take n)).1 (p.getD n []), (pathN n t a (splitN m) (p.take n)).2 ++ [1 :: ((pathN n t a (splitN m) (p.take n)).1 ++ p.getD n [])])
    else (bothF (p.getD n []) (pathN n t (a - (splitN m : Int)) (m - splitN m) (p.take n)).1, (pathN n t (a - (splitN m : Int)) (m - splitN m) (p.take n)).2 ++ [1 :: (p.getD n [] ++ (pathN n t (a - (splitN m : Int)) (m - splitN m) (p.take n)).1)])
def pathF (t : List Int) (a : Int) (m : Nat) (p : List (List Int)) : List Int × List (List Int) := pathN p.length t a m p
theorem pathF_0 (t : List Int) (a : Int) (m : Nat) (p : List (List Int)) (h : m ≤ 1 ∨ p.length = 0) : pathF t a m p = (leafF t, [0 :: t]) := by
  unfold pathF
  cases hp : p.length with
  | zero => rfl
  | succ n => rw [pathN, if_pos (by omega)]
theorem pathF_2 (t : List Int) (a : Int) (m n : Nat) (p : List (List Int)) (hp : p.length = n + 1) (h : 2 ≤ m) : pathF t a m p =
    if a < (splitN m : Int) then (bothF (pathF t a (splitN m) (p.take n)).1 (p.getD n []), (pathF t a (splitN m) (p.take n)).2 ++ [1 :: ((pathF t a (splitN m) (p.take n)).1 ++ p.getD n [])])
    else (bothF (p.getD n []) (pathF t (a - (splitN m : Int)) (m - splitN m) (p.take n)).1, (pathF t (a - (splitN m : Int)) (m - splitN m) (p.take n)).2 ++ [1 :: (p.getD n [] ++ (pathF t (a - (splitN m : Int)) (m - splitN m) (p.take n)).1)]) := by
  have hl : (p.take n).length = n := by rw [List.length_take]; omega
  unfold pathF
  rw [hp, hl, pathN, if_neg (by omega)]
theorem path_lift (t : List Int) : ∀ (n : Nat) (p : List (List Int)) (a m : Nat), p.length = n → 1 ≤ m → (pathF t (a : Int) m p).1 = (liftF (leafF t) a m p).1 := fun n => by
  induction n with
  | zero =>
    intro p a m hp hm
    rw [pathF_0 t a m p (.inr hp), liftF_0 _ a m p hp]
  | succ n ih =>
    intro p a m hp hm
    by_cases h1 : m = 1
    · rw [pathF_0 t a m p (.inl (by omega)), liftF_1 _ a m p h1]
    · have sp := splitN_spec m (by omega)
      have hl : (p.take n).length = n := by rw [List.length_take]; omega
      rw [pathF_2 t a m n p hp (by omega), liftF_2 _ a m n p hp h1]
      by_cases hs : a < splitN m
      · rw [if_pos (by omega), if_pos hs]
        simp only
        rw [ih (p.take n) a (splitN m) hl (by omega)]
      · rw [if_neg (by omega), if_neg hs]
        simp only
        rw [show (a : Int) - (splitN m : Int) = ((a - splitN m : Nat) : Int) by omega, ih (p.take n) (a - splitN m) (m - splitN m) hl (by omega)]
/-- What the path ends with. -/
def endF (t : List Int) (a : Int) (m : Nat) (p : List (List Int)) : List Int := (pathF t a m p).2.getLastD []
theorem path_end (t : List Int) (a : Int) (m : Nat) (p : List (List Int)) : (pathF t a m p).1 = dg (endF t a m p) ∧ endF t a m p ∈ (pathF t a m p).2 := by
  unfold endF
  by_cases h : m ≤ 1 ∨ p.length = 0
  · rw [pathF_0 t a m p h]; exact ⟨rfl, by simp⟩
  · obtain ⟨n, hn⟩ : ∃ n, p.length = n + 1 := ⟨p.length - 1, by omega⟩
    rw [pathF_2 t a m n p hn (by omega)]
    split
    · exact ⟨by simp [bothF], by simp⟩
    · exact ⟨by simp [bothF], by simp⟩
theorem path_len (t : List Int) (a : Int) (m : Nat) (p : List (List Int)) : (pathF t a m p).1.length = 32 := by rw [(path_end t a m p).1, dg_len]
theorem path_binds (t : List Int) : ∀ (n : Nat) (l : List (List Int)) (a : Nat) (p : List (List Int)), l.length ≤ n → a < l.length → (∀ d ∈ p, d.length = 32) → p.length = (dirsF a l.length).length → (pathF t (a : Int) l.length p).1 = rootF l →
    t = l.getD a [] ∨ Clash (pathF t (a : Int) l.length p).2 (innerF l) := fun n => by
  induction n with
  | zero => intro l a p hl ha; omega
  | succ n ih =>
    intro l a p hl ha hd hp hr
    by_cases ht : endF t a l.length p = topF l
    · by_cases h1 : l.length = 1
      · left
        unfold endF at ht
        rw [pathF_0 t a l.length p (.inl (by omega))] at ht
        unfold topF at ht
        rw [if_neg (by omega), if_pos h1] at ht
        simp only [List.getLastD_cons, List.getLastD_nil, List.cons.injEq, true_and] at ht
        rw [ht, show a = 0 by omega]
        match l, h1 with
        | [x], _ => rfl
      · have sp := splitN_spec l.length (by omega)
        rw [dirsF_2 a l.length (by omega)] at hp
        have l1 : (l.take (splitN l.length)).length = splitN l.length := by rw [List.length_take]; omega
        have l2 : (l.drop (splitN l.length)).length = l.length - splitN l.length := by rw [List.length_drop]
        by_cases hs : a < splitN l.length
        · rw [if_neg (by omega)] at hp
          simp only [List.length_cons] at hp
          obtain ⟨q, hq⟩ : ∃ q, p[(dirsF a (splitN l.length)).length]? = some q := ⟨_, List.getElem?_eq_getElem (by omega)⟩
          have e := pathF_2 t a l.length _ p hp (by omega)
          rw [if_pos (by omega)] at e
          unfold endF at ht
          unfold topF at ht
          rw [if_neg (by omega), if_neg h1, e] at ht
          simp only [List.getLastD_concat, List.cons.injEq, true_and] at ht
          obtain ⟨g1, g2⟩ := append_32 (path_len _ _ _ _) (rootF_len _) ht
          rcases ih (l.take (splitN l.length)) a (p.take (dirsF a (splitN l.length)).length) (by omega) (by omega) (fun d hd' => hd d (List.mem_of_mem_take hd')) (by rw [l1, List.length_take]; omega) (by rw [l1]; exact g1) with e1 | c1
          · left; rw [e1, List.getD_eq_getElem?_getD, List.getD_eq_getElem?_getD, List.getElem?_take_of_lt hs]
          · right
            rw [l1] at c1
            refine c1.mono (fun x hx => by rw [e]; simp [hx]) (inner_take l (by omega))
        · rw [if_pos (by omega)] at hp
          simp only [List.length_cons] at hp
          obtain ⟨q, hq⟩ : ∃ q, p[(dirsF (a - splitN l.length) (l.length - splitN l.length)).length]? = some q := ⟨_, List.getElem?_eq_getElem (by omega)⟩
          have hq32 : q.length = 32 := hd q (List.mem_of_getElem? hq)
          have gq : p.getD (dirsF (a - splitN l.length) (l.length - splitN l.length)).length [] = q := by rw [List.getD_eq_getElem?_getD, hq]; rfl
          have e := pathF_2 t a l.length _ p hp (by omega)
          rw [if_neg (by omega), gq, show (a : Int) - (splitN l.length : Int) = ((a - splitN l.length : Nat) : Int) by omega] at e
          unfold endF at ht
          unfold topF at ht
          rw [if_neg (by omega), if_neg h1, e] at ht
          simp only [List.getLastD_concat, List.cons.injEq, true_and] at ht
          obtain ⟨g1, g2⟩ := append_32 hq32 (rootF_len _) ht
          rcases ih (l.drop (splitN l.length)) (a - splitN l.length) (p.take (dirsF (a - splitN l.length) (l.length - splitN l.length)).length) (by omega) (by omega) (fun d hd' => hd d (List.mem_of_mem_take hd')) (by rw [l2, List.length_take]; omega) (by rw [l2]; exact g2) with e1 | c1
          · left; rw [e1, List.getD_eq_getElem?_getD, List.getD_eq_getElem?_getD, List.getElem?_drop, show splitN l.length + (a - splitN l.length) = a by omega]
          · right
            rw [l2] at c1
            refine c1.mono (fun x hx => by rw [e]; simp [hx]) (inner_drop l (by omega))
    · exact .inr ⟨_, (path_end t a l.length p).2, _, top_inner l, by rw [← (path_end t a l.length p).1, hr, rootF_top], ht⟩
/-- What is shown by a root stands there. -/
theorem shows_binds (l : List (List Int)) (t : List Int) (a : Int) (p : List (List Int)) (hd : digestsOk p) (h : showsF (rootF l) t a l.length p = true) : (0 ≤ a ∧ a < l.length) ∧ (t = l.getD a.toNat [] ∨ Clash (pathF t a l.length p).2 (innerF l)) := by
  unfold showsF at h
  split at h
  · rename_i hr
    split at h
    · rename_i hl
      obtain ⟨b, rfl⟩ := Int.eq_ofNat_of_zero_le hr.1
      rw [Int.toNat_natCast, Int.toNat_natCast] at hl h
      refine ⟨⟨by omega, by omega⟩, ?_⟩
      rw [Int.toNat_natCast]
      refine path_binds t l.length l b p (Nat.le_refl _) (by omega) (fun d hd' => (hd d hd').2) hl.symm ?_
      rw [path_lift t p.length p b l.length rfl (by omega), (lift_shows (leafF t) p.length p b l.length rfl (by omega)).2 hl]
      exact of_decide_eq_true h
    · cases h
  · cases h
/-- With one text changed its place has the proof that it had. -/
theorem beside_set (x : List Int) : ∀ (n : Nat) (l : List (List Int)) (k : Nat), l.length ≤ n → k < l.length → besideF (l.set k x) k = besideF l k := fun n => by
  induction n with
  | zero => intro l k hl hk; omega
  | succ n ih =>
    intro l k hl hk
    by_cases h1 : l.length ≤ 1
    · rw [besideF_1 l k h1, besideF_1 _ k (by rw [List.length_set]; exact h1)]
    · have sp := splitN_spec l.length (by omega)
      rw [besideF_2 l k (by omega), besideF_2 (l.set k x) k (by rw [List.length_set]; omega), List.length_set]
      by_cases hs : k < splitN l.length
      · rw [if_pos hs, if_pos hs, List.drop_set_of_lt hs, List.take_set, ih (l.take (splitN l.length)) k (by rw [List.length_take]; omega) (by rw [List.length_take]; omega)]
      · rw [if_neg hs, if_neg hs, List.drop_set, if_neg hs, ih (l.drop (splitN l.length)) (k - splitN l.length) (by rw [List.length_drop]; omega) (by rw [List.length_drop]; omega)]
        congr 2
        rw [List.take_set_of_le (by omega)]
/-- Is there a clash among things? -/
def hit (all : List (List Int)) (i j : Nat) : Bool := decide (dg (all.getD i []) = dg (all.getD j [])) && !decide (all.getD i [] = all.getD j [])
def clashB (all : List (List Int)) : Bool := (List.range all.length).any fun i => (List.range i).any fun j => hit all i j
theorem hit_turned (all : List (List Int)) (i j : Nat) (h : hit all i j = true) : hit all j i = true := by
  unfold hit at *
  simp only [Bool.and_eq_true, decide_eq_true_eq, Bool.not_eq_true', decide_eq_false_iff_not] at *
  exact ⟨h.1.symm, fun e => h.2 e.symm⟩
theorem clash_hit {a b all : List (List Int)} (h : Clash a b) (ha : ∀ x ∈ a, x ∈ all) (hb : ∀ x ∈ b, x ∈ all) : clashB all = true := by
  obtain ⟨x, hx, y, hy, h1, h2⟩ := h
  obtain ⟨i, hi, ei⟩ := List.getElem_of_mem (ha x hx)
  obtain ⟨j, hj, ej⟩ := List.getElem_of_mem (hb y hy)
  have gi : all.getD i [] = x := by rw [List.getD_eq_getElem?_getD, List.getElem?_eq_getElem hi, ei]; rfl
  have gj : all.getD j [] = y := by rw [List.getD_eq_getElem?_getD, List.getElem?_eq_getElem hj, ej]; rfl
  have hh : hit all i j = true := by
    unfold hit; rw [gi, gj]; simp [h1, h2]
  unfold clashB
  rcases Nat.lt_trichotomy i j with h3 | h3 | h3
  · exact List.any_eq_true.2 ⟨j, List.mem_range.2 hj, List.any_eq_true.2 ⟨i, List.mem_range.2 h3, hit_turned all i j hh⟩⟩
  · subst h3; rw [gi] at gj; exact (h2 gj).elim
  · exact List.any_eq_true.2 ⟨i, List.mem_range.2 hi, List.any_eq_true.2 ⟨j, List.mem_range.2 h3, hh⟩⟩
end Go.Proofs.Ytbdnhoddkdiogaa
