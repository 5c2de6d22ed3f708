import Derived.Test.YtbdnhoddkdiogaaMrP
set_option linter.unusedSimpArgs false
set_option linter.unusedVariables false
namespace Go.Proofs.Ytbdnhoddkdiogaa
open Go.RowKit
/-! What Grow tells (plain law). -/
theorem P_ones {D : Type} (B : D → D → D) (z : D) : ∀ (f : Nat) (l : List D), l.length < 2 ^ f → (Grow.P B z l).length = Ones.ones f l.length
  | 0, l, h => by
    have h0 : l.length = 0 := by simpa using h
    rw [List.eq_nil_of_length_eq_zero h0]; rfl
  | f + 1, l, h => by
    rw [Nat.pow_succ] at h
    show _ = l.length % 2 + Ones.ones f (l.length / 2)
    by_cases h1 : l.length % 2 = 1
    · obtain ⟨q, hq⟩ : ∃ q, l.length = 2 * q + 1 := ⟨l.length / 2, by omega⟩
      have hne : l ≠ [] := fun e => by rw [e] at hq; simp at hq
      have e := List.dropLast_concat_getLast hne
      generalize hes : l.dropLast = es at e
      generalize l.getLast hne = p at e
      have esl : es.length = 2 * q := by rw [← hes, List.length_dropLast]; omega
      have pl : (Grow.pair B es).length = q := by rw [Grow.pair_len, esl]; omega
      rw [← e, Grow.P_last B z q es p esl, List.length_append, P_ones B z f _ (by rw [pl]; omega), pl]
      simp only [List.length_append, List.length_cons, List.length_nil, esl]
      rw [show (2 * q + (0 + 1)) % 2 = 1 by omega, show (2 * q + (0 + 1)) / 2 = q by omega]; omega
    · obtain ⟨q, hq⟩ : ∃ q, l.length = 2 * q := ⟨l.length / 2, by omega⟩
      have pl : (Grow.pair B l).length = q := by rw [Grow.pair_len, hq]; omega
      rw [Grow.P_pair B z q l hq, P_ones B z f _ (by rw [pl]; omega), pl, hq, show 2 * q % 2 = 0 by omega, show 2 * q / 2 = q by omega]; omega
theorem ones_stop : ∀ (f g x : Nat), x < 2 ^ f → f ≤ g → Ones.ones g x = Ones.ones f x := fun f g x hx hg => by
  obtain ⟨d, rfl⟩ := Nat.exists_eq_add_of_le hg
  have z : ∀ d, Ones.ones d 0 = 0 := fun d => by induction d with
    | zero => rfl
    | succ d ih => show 0 % 2 + Ones.ones d (0 / 2) = 0; rw [Nat.zero_div, ih]
  rw [Ones.ones_add, Nat.div_eq_of_lt hx, z, Nat.add_zero]
def growF (ps : List (List Int)) (m : Int) (x : List Int) : List (List Int) × List Int :=
  if m < 0 ∨ 1048576 < m ∨ Ones.ones 24 m.toNat ≠ ps.length then ([], List.replicate 32 0)
  else (Grow.grow bothF (dg []) m.toNat ps m.toNat (leafF x), Grow.back bothF (dg []) (Grow.grow bothF (dg []) m.toNat ps m.toNat (leafF x)))
theorem growF_peaks {l : List (List Int)} {i : Nat} {x : List Int} (hi : l[i]? = some x) (hb : i ≤ 1048576) : growF (peaksF (l.take i)) (i : Int) x = (peaksF (l.take (i + 1)), rootF (l.take (i + 1))) := by
  have hil := (List.getElem?_eq_some_iff.1 hi).1
  have tl : (l.take i).length = i := by rw [List.length_take]; omega
  have ml : ((l.take i).map leafF).length = i := by rw [List.length_map, tl]
  have po : (peaksF (l.take i)).length = Ones.ones 24 i := by
    unfold peaksF; rw [P_ones bothF (dg []) 24 _ (by rw [ml]; exact Nat.lt_of_le_of_lt hb (by decide)), ml]
  unfold growF
  rw [if_neg (by rw [po, Int.toNat_natCast]; omega), Int.toNat_natCast]
  have g := Grow.grow_P bothF (dg []) i ((l.take i).map leafF) (leafF x) (by omega)
  rw [ml] at g
  have et : l.take (i + 1) = l.take i ++ [x] := by rw [List.take_add_one, hi]; rfl
  have ep : peaksF (l.take (i + 1)) = Grow.grow bothF (dg []) i (peaksF (l.take i)) i (leafF x) := by
    unfold peaksF; rw [et, List.map_append]; exact g.symm
  rw [← ep]
  have bl : (l.take (i + 1)).length = i + 1 := by rw [List.length_take]; omega
  have br : Grow.back bothF (dg []) (peaksF (l.take (i + 1))) = rootF (l.take (i + 1)) := by
    unfold peaksF; rw [Grow.back_P bothF (dg []) (i + 1) _ (by rw [List.length_map, bl]) (by omega), rootF_R (i + 1) _ bl (by omega)]
  rw [br]
theorem grow_ne {D : Type} (B : D → D → D) (z : D) : ∀ (f : Nat) (ps : List D) (n : Nat) (d : D), 0 < (Grow.grow B z f ps n d).length
  | 0, ps, n, d => by simp [Grow.grow]
  | f + 1, ps, n, d => by
    unfold Grow.grow; split
    · exact grow_ne B z f _ _ _
    · simp
theorem growF_bad {ps : List (List Int)} {m : Int} {x : List Int} (h : m < 0 ∨ 1048576 < m ∨ Ones.ones 24 m.toNat ≠ ps.length) : growF ps m x = ([], List.replicate 32 0) := by unfold growF; rw [if_pos h]
theorem growF_pos {ps : List (List Int)} {m : Int} {x : List Int} (h : ¬ (m < 0 ∨ 1048576 < m ∨ Ones.ones 24 m.toNat ≠ ps.length)) : 0 < (growF ps m x).1.length := by unfold growF; rw [if_neg h]; exact grow_ne _ _ _ _ _ _
end Go.Proofs.Ytbdnhoddkdiogaa
