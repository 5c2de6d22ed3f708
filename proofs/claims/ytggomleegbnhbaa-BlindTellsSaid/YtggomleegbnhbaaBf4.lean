import Derived.Test.YtggomleegbnhbaaBf3
set_option linter.unusedSimpArgs false
set_option linter.unusedVariables false
namespace Go.Proofs.Ytggomleegbnhbaa
open Go.RowKit
/-! A polynomial of few coefficients has few zeros. -/
def quo (x : Int) : List Int → List Int
  | [] => []
  | [_] => []
  | _ :: b :: a => evalF (b :: a) x :: quo x (b :: a)
theorem quo_len (x : Int) : ∀ p, (quo x p).length = p.length - 1
  | [] => rfl
  | [_] => rfl
  | _ :: b :: a => by
    show (quo x (b :: a)).length + 1 = _
    rw [quo_len x (b :: a)]; simp
theorem quo_ok {x : Int} (hx : byteOk x) : ∀ {p : List Int}, bytesOk p → bytesOk (quo x p)
  | [], _ => fun y hy => (List.not_mem_nil hy).elim
  | [_], _ => fun y hy => (List.not_mem_nil hy).elim
  | c :: b :: a, h => fun y hy => by
    rcases List.mem_cons.1 hy with rfl | hy
    · exact evalF_ok hx (tl_ok h)
    · exact quo_ok hx (tl_ok h) y hy
theorem quo_eval {x r : Int} (hx : byteOk x) (hr : byteOk r) : ∀ {p : List Int}, bytesOk p → evalF p r = bx (mulT (evalF (quo x p) r) (bx r x)) (evalF p x)
  | [], _ => by
    show 0 = bx (mulT 0 (bx r x)) 0
    rw [zero_mulT]; rfl
  | [c], h => by
    show bx (mulT 0 r) c = bx (mulT 0 (bx r x)) (bx (mulT 0 x) c)
    rw [zero_mulT, zero_mulT, zero_mulT, zero_bx (bx_ok ok0 (hd_ok h))]
  | c :: b :: a, h => by
    have ih := quo_eval hx hr (tl_ok h)
    have ha := tl_ok h
    have hc := hd_ok h
    show bx (mulT (evalF (b :: a) r) r) c = bx (mulT (bx (mulT (evalF (quo x (b :: a)) r) r) (evalF (b :: a) x)) (bx r x)) (bx (mulT (evalF (b :: a) x) x) c)
    rw [ih]
    have hq := evalF_ok hr (quo_ok hx ha)
    have he := evalF_ok hx ha
    generalize evalF (quo x (b :: a)) r = Q at hq
    generalize evalF (b :: a) x = e at he
    have hs := bx_ok hr hx
    have q1 := mulT_ok hq hs
    have q2 := mulT_ok hq hr
    rw [bx_mulT q1 he hr, bx_mulT q2 he hs, mulT_bx he hr hx, mulT_assoc hq hs hr, mulT_comm hs hr, ← mulT_assoc hq hr hs]
    have a1 := mulT_ok q2 hs
    have a2 := mulT_ok he hr
    have a3 := mulT_ok he hx
    rw [bx_assoc a1 (bx_ok a2 a3) (bx_ok a3 hc), bx_assoc a2 a3 (bx_ok a3 hc), ← bx_assoc a3 a3 hc, bx_self a3, zero_bx hc, ← bx_assoc a1 a2 hc]
theorem quo_zero {x : Int} (hx : byteOk x) : ∀ {p : List Int}, bytesOk p → (∀ c ∈ quo x p, c = 0) → evalF p x = 0 → ∀ c ∈ p, c = 0
  | [], _, _, _ => fun c hc => (List.not_mem_nil hc).elim
  | [d], h, _, he => fun c hc => by
    rw [List.mem_singleton.1 hc]
    rwa [eval_one (hd_ok h)] at he
  | d :: b :: a, h, hq, he => fun c hc => by
    have e0 : evalF (b :: a) x = 0 := hq _ List.mem_cons_self
    rw [eval_cons, e0, zero_mulT, zero_bx (hd_ok h)] at he
    rcases List.mem_cons.1 hc with rfl | hc
    · exact he
    · exact quo_zero hx (tl_ok h) (fun y hy => hq y (List.mem_cons_of_mem _ hy)) e0 c hc
theorem roots : ∀ (n : Nat) (p xs : List Int), bytesOk p → p.length ≤ n → xs.length = n → xs.Nodup → (∀ x ∈ xs, byteOk x ∧ evalF p x = 0) → ∀ c ∈ p, c = 0
  | 0, p, _, _, hp, _, _, _ => fun c hc => by
    rw [List.eq_nil_of_length_eq_zero (Nat.le_zero.1 hp)] at hc; exact (List.not_mem_nil hc).elim
  | n + 1, p, [], _, _, hl, _, _ => by cases hl
  | n + 1, p, x :: xs, hb, hp, hl, hn, hr => by
    obtain ⟨n1, n2⟩ := List.nodup_cons.1 hn
    obtain ⟨hx, ex⟩ := hr x List.mem_cons_self
    refine quo_zero hx hb (roots n _ xs (quo_ok hx hb) (by rw [quo_len]; omega) (by simpa using hl) n2 fun y hy => ?_) ex
    obtain ⟨hy1, ey⟩ := hr y (List.mem_cons_of_mem _ hy)
    refine ⟨hy1, ?_⟩
    have e := quo_eval hx hy1 hb
    have hq := evalF_ok hy1 (quo_ok hx hb)
    rw [ey, ex, bx_zero (mulT_ok hq (bx_ok hy1 hx))] at e
    rcases Classical.em (evalF (quo x p) y = 0) with h0 | h0
    · exact h0
    · exact (mulT_ne hq (bx_ok hy1 hx) h0 (fun hz => n1 (by rw [← bx_eq_zero hy1 hx hz]; exact hy)) e.symm).elim
theorem trim_trim : ∀ l, trimF (trimF l) = trimF l
  | [] => rfl
  | x :: l => by
    rw [trimF_cons]
    by_cases h : trimF l = []
    · rw [if_pos h]
      split
      · rfl
      · rename_i hx; rw [trimF_cons]; show (if ([] : List Int) = [] then (if x = 0 then [] else [x]) else _) = _; rw [if_pos rfl, if_neg hx]
    · rw [if_neg h, trimF_cons, trim_trim l, if_neg h]
theorem same_at {L S : List Int} (hL : bytesOk L) (hS : bytesOk S) (hl : S.length ≤ L.length) (tL : trimF L = L) {n : Nat} (hn : L.length ≤ n) {xs : List Int} (xl : xs.length = n) (xn : xs.Nodup) (hx : ∀ x ∈ xs, byteOk x ∧ evalF L x = evalF S x) : L = S := by
  have hz := roots n (sealN L S S.length) xs (sealN_ok' hL hS _) (by rw [sealN_len]; exact hn) xl xn fun x h => by
    obtain ⟨h1, h2⟩ := hx x h
    exact ⟨h1, by rw [eval_sealN h1 hL hS _ hl, sumF_all h1 hS, h2, bx_self (evalF_ok h1 hS)]⟩
  have at_ : ∀ i, i < L.length → (sealN L S S.length)[i]?.getD 0 = 0 := fun i hi => by
    have hi' : i < (sealN L S S.length).length := by rw [sealN_len]; exact hi
    rw [List.getElem?_eq_getElem hi']; exact hz _ (List.getElem_mem hi')
  have hlen : L.length ≤ S.length := by
    have := trimF_le (l := L) (n := S.length) fun k hk => by
      by_cases h : k < L.length
      · have := at_ k h
        rw [sealN_at L S _ k hl, if_neg (by omega)] at this
        exact this
      · rw [List.getElem?_eq_none (by omega)]; rfl
    rwa [tL] at this
  refine ext_getD (by omega) fun p hp => ?_
  have := at_ p hp
  rw [sealN_at L S _ p hl, if_pos (by omega), Option.getD_some] at this
  exact bx_eq_zero (gd_ok hL p) (gd_ok hS p) this
/-! The document's way through points. -/
def addR (a b : List Int) : List Int := trimF (sealN (sealN (List.replicate (max a.length b.length) 0) a a.length) b b.length)
theorem zeros_ok (n : Nat) : bytesOk (List.replicate n 0) := fun x hx => by rw [(List.mem_replicate.1 hx).2]; exact ok0
theorem addR_ok {a b : List Int} (ha : bytesOk a) (hb : bytesOk b) : bytesOk (addR a b) := trimF_ok (sealN_ok' (sealN_ok' (zeros_ok _) ha _) hb _)
theorem addR_len (a b : List Int) {n : Nat} (ha : a.length ≤ n) (hb : b.length ≤ n) : (addR a b).length ≤ n := by
  refine Nat.le_trans (trimF_len _) ?_
  rw [sealN_len, sealN_len, List.length_replicate]; omega
theorem eval_addR {r : Int} {a b : List Int} (hr : byteOk r) (ha : bytesOk a) (hb : bytesOk b) : evalF (addR a b) r = bx (evalF a r) (evalF b r) := by
  have z := zeros_ok (max a.length b.length)
  unfold addR
  rw [eval_trim hr (sealN_ok' (sealN_ok' z ha _) hb _), eval_sealN hr (sealN_ok' z ha _) hb _ (by rw [sealN_len, List.length_replicate]; omega), eval_sealN hr z ha _ (by rw [List.length_replicate]; omega), sumF_all hr ha, sumF_all hr hb, eval_zeros, zero_bx (evalF_ok hr ha)]
def oneStep (l : List (Int × Int)) (i k : Nat) (o : List Int) : List Int :=
  if k = i then o else mulP o [mulT (ptX l k) (divT 1 (bx (ptX l i) (ptX l k))), divT 1 (bx (ptX l i) (ptX l k))]
def oneN (l : List (Int × Int)) (i : Nat) : Nat → List Int
  | 0 => [ptY l i]
  | k + 1 => oneStep l i k (oneN l i k)
def thR (l : List (Int × Int)) : Nat → List Int
  | 0 => []
  | i + 1 => addR (thR l i) (oneN l i l.length)
theorem inv_ok {l : List (Int × Int)} (h : ptsOk l) (i k : Nat) : byteOk (divT 1 (bx (ptX l i) (ptX l k))) := divT_ok ok1 (bx_ok (ptX_ok h i) (ptX_ok h k))
theorem oneN_ok {l : List (Int × Int)} (h : ptsOk l) (i : Nat) : ∀ k, bytesOk (oneN l i k)
  | 0 => one_ok (ptY_ok h i)
  | k + 1 => by
    unfold oneN oneStep; split
    · exact oneN_ok h i k
    · exact mulP_ok (oneN_ok h i k) (two_ok (mulT_ok (ptX_ok h k) (inv_ok h i k)) (inv_ok h i k))
theorem oneN_len (l : List (Int × Int)) (i : Nat) : ∀ k, (oneN l i k).length ≤ if k ≤ i then k + 1 else k
  | 0 => by simp [oneN]
  | k + 1 => by
    have ih := oneN_len l i k
    unfold oneN oneStep
    split
    · rename_i e; subst e; rw [if_pos (Nat.le_refl _)] at ih; rw [if_neg (by omega)]; exact ih
    · rename_i e
      refine Nat.le_trans (mulP_len _ _) ?_
      simp only [List.length_cons, List.length_nil]
      split at ih <;> split <;> omega
theorem thR_ok {l : List (Int × Int)} (h : ptsOk l) : ∀ i, bytesOk (thR l i)
  | 0 => fun y hy => (List.not_mem_nil hy).elim
  | i + 1 => addR_ok (thR_ok h i) (oneN_ok h i _)
theorem thR_len (l : List (Int × Int)) : ∀ i, i ≤ l.length → (thR l i).length ≤ l.length
  | 0, _ => Nat.zero_le _
  | i + 1, hi => addR_len _ _ (thR_len l i (by omega)) (by have := oneN_len l i l.length; rw [if_neg (by omega)] at this; exact this)
theorem eval_two {r x d : Int} (hr : byteOk r) (hx : byteOk x) (hd : byteOk d) : evalF [mulT x d, d] r = mulT (bx r x) d := by
  show bx (mulT (bx (mulT 0 r) d) r) (mulT x d) = _
  rw [zero_mulT, zero_bx hd, bx_mulT hr hx hd, mulT_comm hd hr]
theorem one_self {l : List (Int × Int)} (h : ptsOk l) (nd : ∀ i j, i < l.length → j < l.length → i ≠ j → ptX l i ≠ ptX l j) {i : Nat} (hi : i < l.length) : ∀ k, k ≤ l.length → evalF (oneN l i k) (ptX l i) = ptY l i
  | 0, _ => eval_one (ptY_ok h i)
  | k + 1, hk => by
    have ih := one_self h nd hi k (by omega)
    unfold oneN oneStep; split
    · exact ih
    · rename_i e
      have hx := ptX_ok h i
      have hk' := ptX_ok h k
      have hd := inv_ok h i k
      have hne : bx (ptX l i) (ptX l k) ≠ 0 := fun hz => nd i k hi (by omega) (fun e' => e e'.symm) (bx_eq_zero hx hk' hz)
      rw [eval_mulP hx (oneN_ok h i k) (two_ok (mulT_ok hk' hd) hd), eval_two hx hk' hd, mulT_div ok1 (bx_ok hx hk') hne, ih, mulT_one (ptY_ok h i)]
theorem one_other {l : List (Int × Int)} (h : ptsOk l) {i m : Nat} (hm : m ≠ i) : ∀ k, m < k → evalF (oneN l i k) (ptX l m) = 0
  | k + 1, hk => by
    have hx := ptX_ok h m
    have hk' := ptX_ok h k
    have hd := inv_ok h i k
    unfold oneN oneStep; split
    · rename_i e; exact one_other h hm k (by omega)
    · rw [eval_mulP hx (oneN_ok h i k) (two_ok (mulT_ok hk' hd) hd), eval_two hx hk' hd]
      by_cases e : m = k
      · subst e; rw [bx_self hx, zero_mulT, mulT_zero]
      · rw [one_other h hm k (by omega), zero_mulT]
theorem thR_at {l : List (Int × Int)} (h : ptsOk l) (nd : ∀ i j, i < l.length → j < l.length → i ≠ j → ptX l i ≠ ptX l j) {m : Nat} (hm : m < l.length) : ∀ i, i ≤ l.length → evalF (thR l i) (ptX l m) = if m < i then ptY l m else 0
  | 0, _ => by rw [if_neg (by omega)]; rfl
  | i + 1, hi => by
    have hx := ptX_ok h m
    unfold thR
    rw [eval_addR hx (thR_ok h i) (oneN_ok h i _), thR_at h nd hm i (by omega)]
    by_cases e : m = i
    · subst e
      rw [if_neg (by omega), if_pos (by omega), one_self h nd hm _ (Nat.le_refl _), zero_bx (ptY_ok h m)]
    · rw [one_other h e _ hm]
      by_cases e2 : m < i
      · rw [if_pos e2, if_pos (by omega), bx_zero (ptY_ok h m)]
      · rw [if_neg e2, if_neg (by omega)]; rfl
theorem thN_trim (l : List (Int × Int)) : ∀ i, trimF (thN l i).1 = (thN l i).1
  | 0 => rfl
  | i + 1 => by
    show trimF (addP _ _) = addP _ _
    unfold addP; split <;> exact trim_trim _
theorem thR_trim (l : List (Int × Int)) : ∀ i, trimF (thR l i) = thR l i
  | 0 => rfl
  | i + 1 => trim_trim _
theorem thR_thN {l : List (Int × Int)} (h : ptsOk l) (ht : twiceF l = false) : thR l l.length = (thN l l.length).1 := by
  have nd1 := twice_false h ht
  have nd : ∀ i j, i < l.length → j < l.length → i ≠ j → ptX l i ≠ ptX l j := fun i j hi hj hij => by
    rcases Nat.lt_or_gt_of_ne hij with h1 | h1
    · exact nd1 j i hj h1
    · exact fun e => nd1 i j hi h1 e.symm
  have eq : ∀ x ∈ l.map (·.1), byteOk x ∧ evalF (thR l l.length) x = evalF (thN l l.length).1 x := fun x hx => by
    obtain ⟨p, hp, rfl⟩ := List.mem_map.1 hx
    obtain ⟨m, hm, rfl⟩ := List.getElem_of_mem hp
    have e : l[m].1 = ptX l m := by unfold ptX; rw [List.getElem?_eq_getElem hm]; rfl
    rw [e, thR_at h nd hm _ (Nat.le_refl _), if_pos hm, thru_at h nd1 _ (Nat.le_refl _) m hm]
    exact ⟨ptX_ok h m, rfl⟩
  have xn : (l.map (·.1)).Nodup := List.pairwise_iff_getElem.2 fun i j hi hj hij => by
    rw [List.length_map] at hi hj
    have := nd i j hi hj (by omega)
    unfold ptX at this
    rw [List.getElem?_eq_getElem hi, List.getElem?_eq_getElem hj] at this
    simpa using this
  have l1 := thR_len l l.length (Nat.le_refl _)
  have l2 := (thN_len l l.length).1
  have o1 := thR_ok h l.length
  have o2 := (thN_ok h l.length).1
  by_cases hl : (thN l l.length).1.length ≤ (thR l l.length).length
  · exact same_at o1 o2 hl (thR_trim _ _) l1 (by simp) xn eq
  · exact (same_at o2 o1 (by omega) (thN_trim _ _) l2 (by simp) xn fun x hx => ⟨(eq x hx).1, (eq x hx).2.symm⟩).symm
end Go.Proofs.Ytggomleegbnhbaa
