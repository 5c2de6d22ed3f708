import Derived.Test.YtbdnhoddkdiogaaMrQ
import Derived.Test.YtbdnhoddkdiogaaMrV
set_option linter.unusedSimpArgs false
set_option linter.unusedVariables false
namespace Go.Proofs.Ytbdnhoddkdiogaa
open Go.RowKit Go
theorem back_cons {D : Type} (B : D → D → D) (z x : D) : ∀ l : List D, l ≠ [] → Grow.back B z (x :: l) = B x (Grow.back B z l)
  | [], h => absurd rfl h
  | y :: l, _ => rfl
theorem accG_rev {D : Type} (B : D → D → D) (z z' : D) (d : D) (zs : List (List Int)) (ys : List D) (hl : zs.length = ys.length) : ∀ k, k ≤ zs.length → accG B z' ys d (rev zs k) = Grow.back B z (ys.drop (ys.length - k) ++ [d])
  | 0, _ => by rw [Nat.sub_zero, List.drop_length]; rfl
  | k + 1, h => by
    rw [rev_succ, accG_snoc, accG_rev B z z' d zs ys hl k (by omega)]
    have hi : ys.length - (k + 1) < ys.length := by omega
    rw [List.drop_eq_getElem_cons hi, show ys.length - (k + 1) + 1 = ys.length - k by omega, show zs.length - 1 - k = ys.length - (k + 1) by omega, List.getElem?_eq_getElem hi, List.cons_append, back_cons]
    · rfl
    · simp
abbrev zd : List Int := List.replicate 32 0
/-- A digest as a value. -/
theorem digestA_rep {w : World} {o : Nat → Prop} {σ : Sg} (x : List Int) : RepA w o σ (.agg (.ty (.i .u8) x)) (.agg (x.map (Value.int .u8)).toArray) := by
  refine ⟨x.map (Value.int .u8), rfl, by simp [Row.size, Ty.sz], fun i n hn => ?_⟩
  show (x.map (Value.int .u8))[i * 1 + 0]? = _
  rw [Nat.mul_one, Nat.add_zero, List.getElem?_map, hn]; rfl
theorem zip2 {α β : Type} (a b : α) (u v : β) : #[a, b].zip #[u, v] = #[(a, u), (b, v)] := by
  apply Array.toList_inj.1
  simp
theorem fold2 {α : Type} (i j : Nat) (u v : α) (t : Array α) : (#[i, j].zip #[u, v]).foldl (fun t (p, v) => t.setIfInBounds p v) t = (t.setIfInBounds i u).setIfInBounds j v := by
  rw [zip2]; simp
theorem set2_at {t : Array Value} {u v : Value} {i j k : Nat} : ((t.setIfInBounds i u).setIfInBounds j v)[k]? = if j = k ∧ k < t.size then some v else if i = k ∧ k < t.size then some u else t[k]? := by
  rw [Array.getElem?_setIfInBounds, Array.getElem?_setIfInBounds]
  simp only [Array.size_setIfInBounds]
  by_cases h1 : j = k
  · subst h1
    by_cases h2 : j < t.size
    · simp [h2]
    · simp [h2]
  · by_cases h2 : i = k
    · subst h2
      by_cases h3 : i < t.size
      · simp [h1, h3]
      · simp [h1, h3]
    · simp [h1, h2]
end Go.Proofs.Ytbdnhoddkdiogaa
