/- AHI, part P: a region that draws its order, whichever it draws. -/
import Derived.Test.YtbdnhoddkdiogaaAhO
set_option linter.unusedSimpArgs false
set_option linter.unusedVariables false
namespace Go.Proofs.Ytbdnhoddkdiogaa
open Go.RowKit

section
variable {P : Program} {Γ : Gam} {X : Nat → Prop} {σ σ' τ : Sg} {s s' : St} {H H' C C' L L' : Hp} {a : Act} {w w' : World} {B : Nat} {f : Nat → Nat} {o o' : Nat → Prop}
theorem RepA.unmap {x : AV} {v : Value} (ho : ∀ b, o' b → o b) (h : RepA w o σ (x.mapId f) v) : RepA w o' (fun i => σ (f i)) x v := by
  cases x with
  | c c => exact Rep.unmap ho h
  | agg r => obtain ⟨vs, h1, h2, h3⟩ := h; exact ⟨vs, h1, h2.trans (Row.size_map r), h3.unmap ho⟩
  | tup l =>
    obtain ⟨vs, h1, h2, h3⟩ := h
    refine ⟨vs, h1, by rw [h2, List.length_map], fun i y hy => ?_⟩
    obtain ⟨v, h4, h5⟩ := h3 i (y.map1 f) (by rw [List.getElem?_map, hy]; rfl)
    exact ⟨v, h4, h5.unmap ho⟩
/-- What the state's values and rows name is there. -/
structure Low (s : St) : Prop where
  env : ∀ t x, look s.env t = some x → x.under s.H.length = true
  row : ∀ (i : Nat) r, s.H[i]? = some (some r) → r.under s.H.length = true
theorem astep_len {ops : List Oper} {o : Oper} {p : Pl} (h : astep P Γ ops o p s s') : s'.n = s.n ∧ s'.H.length = s.H.length + p.n ∧ (∀ t, o.dst ≠ some t → look s'.env t = look s.env t) := by
  rcases h with ⟨-, x, H', -, -, h2, -, -, h5⟩ | ⟨-, h2, h5⟩
  · obtain ⟨e1, e2, e3, e4⟩ := put_H h5
    exact ⟨e2, by rw [e1, mergeH_len _ _ _ _ (by omega), h2], e3⟩
  · obtain ⟨e1, e2, e3, e4⟩ := put_H h5
    exact ⟨e2, by rw [e1, h2]; rfl, e3⟩
theorem astep_row {ops : List Oper} {o : Oper} {p : Pl} (h : astep P Γ ops o p s s') {id : Nat} (hid : id < s.H.length) (hm : p.q = true ∨ id ∉ p.m) : s'.H[id]? = s.H[id]? := by
  rcases h with ⟨-, x, H', -, -, h2, -, -, h5⟩ | ⟨-, h2, h5⟩
  · obtain ⟨e1, e2, e3, e4⟩ := put_H h5
    rw [e1, mergeH_at _ _ _ _ (by omega), if_pos]
    refine ⟨hid, ?_⟩
    unfold Pl.w
    rcases hm with hm | hm
    · simp [hm]
    · split <;> simp [hm]
  · obtain ⟨e1, e2, e3, e4⟩ := put_H h5
    rw [e1]
theorem astep_low {ops : List Oper} {o : Oper} {p : Pl} (h : astep P Γ ops o p s s') (hl : Low s) : Low s' := by
  obtain ⟨g1, g2, g3⟩ := astep_len h
  have hle : s.H.length ≤ s'.H.length := by omega
  rcases h with ⟨-, x, H', -, -, h2, h3, h4, h5⟩ | ⟨-, h2, h5⟩
  · obtain ⟨e1, e2, e3, e4⟩ := put_H h5
    have hlen : s'.H.length = H'.length := by omega
    refine ⟨fun t y hy => ?_, fun i r hr => ?_⟩
    · by_cases ht : o.dst = some t
      · rw [(e4 t ht).2] at hy; cases hy; rw [hlen]; exact h3
      · rw [e3 t ht] at hy; exact AV.under_mono hle (hl.env t y hy)
    · rw [e1, mergeH_at _ _ _ _ (by omega)] at hr
      split at hr
      · exact Row.under_mono hle (hl.row i r hr)
      · rw [hlen]; exact underH_at h4 i r hr
  · obtain ⟨e1, e2, e3, e4⟩ := put_H h5
    refine ⟨fun t y hy => ?_, fun i r hr => ?_⟩
    · by_cases ht : o.dst = some t
      · rw [(e4 t ht).2] at hy; cases hy; rfl
      · rw [e3 t ht] at hy; exact AV.under_mono hle (hl.env t y hy)
    · rw [e1] at hr; exact Row.under_mono hle (hl.row i r hr)
theorem infs_len (ops : Array Oper) : ∀ {l : List Oper} {pl : List Pl} {lo : Nat} {A : List (List Nat)}, l.length = pl.length → (infs ops lo A l pl).length = l.length
  | [], [], _, _, _ => rfl
  | [], _ :: _, _, _, h => by simp at h
  | _ :: _, [], _, _, h => by simp at h
  | o :: l, p :: pl, lo, A, h => by simp only [infs, List.length_cons]; rw [infs_len ops (by simpa using h)]
theorem infs_at (ops : Array Oper) {os : List Oper} : ∀ {l : List Oper} {pl : List Pl} {lo : Nat} {A : List (List Nat)} {S : Nat → St}, (∀ i o p, l[i]? = some o → pl[i]? = some p → astep P Γ os o p (S i) (S (i + 1))) → (S 0).H.length = lo → ∀ i o p, l[i]? = some o → pl[i]? = some p →
    ∃ x, (infs ops lo A l pl)[i]? = some x ∧ x.rd = o.looksAt ops ∧ x.d = o.dst ∧ x.m = p.m ∧ x.q = p.q ∧ x.lo = (S i).H.length ∧ x.hi = (S (i + 1)).H.length ∧ x.dir = direct o
  | [], _, _, _, S, hS, h0, i, o, p, ho, hp => by simp at ho
  | _ :: _, [], _, _, S, hS, h0, i, o, p, ho, hp => by simp at hp
  | o' :: l, p' :: pl, lo, A, S, hS, h0, i, o, p, ho, hp => by
    have h1 := (astep_len (hS 0 o' p' rfl rfl)).2.1
    cases i with
    | zero =>
      cases ho; cases hp
      exact ⟨_, rfl, rfl, rfl, rfl, rfl, h0.symm, by rw [h1, h0], rfl⟩
    | succ i =>
      obtain ⟨x, hx, h⟩ := infs_at ops (S := fun i => S (i + 1)) (lo := lo + p'.n) (A := A ++ [direct o' ++ (direct o').flatMap fun k => A.getD k []]) (fun i o p ho hp => hS (i + 1) o p (by simpa using ho) (by simpa using hp)) (by rw [h1, h0]) i o p (by simpa using ho) (by simpa using hp)
      exact ⟨x, hx, h⟩
/-- A place: a slot, or a row. -/
abbrev Loc := Nat ⊕ Nat
def wrs (x : Inf) : Loc → Prop
  | .inl t => x.d = some t
  | .inr id => (x.q = false ∧ id ∈ x.m) ∨ (x.lo ≤ id ∧ id < x.hi)
def tch (x : Inf) : Loc → Prop
  | .inl t => t ∈ x.rd ∨ x.d = some t
  | .inr id => id ∈ x.m ∨ (x.lo ≤ id ∧ id < x.hi)
theorem wrs_tch {x : Inf} {loc : Loc} (h : wrs x loc) : tch x loc := by
  cases loc with
  | inl t => exact .inr h
  | inr id => exact h.imp (·.2) (fun h => h)
theorem confl_spec {x y : Inf} (h : x.confl y = false) (h' : y.confl x = false) (hd : ∀ id, x.lo ≤ id → id < x.hi → y.lo ≤ id → id < y.hi → False) {loc : Loc} (hw : wrs x loc) (ht : tch y loc) : False := by
  simp only [Inf.confl, Bool.or_eq_false_iff] at h h'
  obtain ⟨⟨h1, h2⟩, h3⟩ := h
  obtain ⟨⟨h4, h5⟩, h6⟩ := h'
  cases loc with
  | inl t =>
    simp only [wrs] at hw
    rw [hw] at h1
    simp only [Bool.or_eq_false_iff] at h1
    rcases ht with ht | ht
    · simp [ht] at h1
    · simp [ht] at h1
  | inr id =>
    rcases hw with ⟨hq, hm⟩ | ⟨hl, hh⟩
    · rcases ht with ht | ⟨hl', hh'⟩
      · simp only [hq, Bool.not_false, Bool.true_and, List.any_eq_false] at h2
        exact h2 id hm (by simpa using ht)
      · simp only [List.any_eq_false] at h6
        exact h6 id hm (by simp [hl', hh'])
    · rcases ht with ht | ⟨hl', hh'⟩
      · simp only [List.any_eq_false] at h3
        exact h3 id ht (by simp [hl, hh])
      · exact hd id hl hh hl' hh'
/-- What the order of a region says. -/
structure Ord (m : Nat) (I : Nat → Inf) : Prop where
  dir : ∀ i, i < m → ∀ k ∈ (I i).dir, k < i
  anc : ∀ i, i < m → ∀ k ∈ (I i).anc, k ∈ (I i).dir ∨ ∃ j ∈ (I i).dir, k ∈ (I j).anc
  low : ∀ i, i < m → ∀ id ∈ (I i).m, id < (I i).lo
  ord : ∀ i k loc, i < m → k < i → (wrs (I k) loc ∧ tch (I i) loc) ∨ (wrs (I i) loc ∧ tch (I k) loc) → k ∈ (I i).anc
theorem ord_of {l : List Inf} {I : Nat → Inf} (hI : ∀ i, i < l.length → l[i]? = some (I i)) (hmono : ∀ i k, i < l.length → k < i → (I k).hi ≤ (I i).lo) (h : pairsOk l = true) : Ord l.length I := by
  unfold pairsOk at h
  rw [List.all_eq_true] at h
  have h' : ∀ i, i < l.length → _ := fun i hi => h i (List.mem_range.2 hi)
  have key : ∀ i, i < l.length → (∀ k ∈ (I i).dir, k < i) ∧ (∀ k ∈ (I i).anc, k ∈ (I i).dir ∨ ∃ j ∈ (I i).dir, k ∈ (I j).anc) ∧ (∀ id ∈ (I i).m, id < (I i).lo) ∧ ∀ k, k < i → k ∈ (I i).anc ∨ ((I k).confl (I i) = false ∧ (I i).confl (I k) = false) := fun i hi => by
    have hx := h' i hi
    rw [hI i hi] at hx
    simp only [Bool.and_eq_true, List.all_eq_true, decide_eq_true_eq, Bool.or_eq_true] at hx
    obtain ⟨⟨⟨g1, g2⟩, g3⟩, g4⟩ := hx
    refine ⟨g1, fun k hk => ?_, g3, fun k hk => ?_⟩
    · rcases g2 k hk with g | g
      · exact .inl (by simpa using g)
      · obtain ⟨j, hj, hjk⟩ := List.any_eq_true.1 g
        rw [hI j (Nat.lt_trans (g1 j hj) hi)] at hjk
        exact .inr ⟨j, hj, by simpa using hjk⟩
    · have := g4 k (List.mem_range.2 hk)
      rw [hI k (Nat.lt_trans hk hi)] at this
      simp only [Bool.or_eq_true, Bool.and_eq_true, Bool.not_eq_true'] at this
      rcases this with g | ⟨g5, g6⟩
      · exact .inl (by simpa using g)
      · exact .inr ⟨g6, g5⟩
  refine ⟨fun i hi => (key i hi).1, fun i hi => (key i hi).2.1, fun i hi => (key i hi).2.2.1, fun i k loc hi hk hor => ?_⟩
  rcases (key i hi).2.2.2 k hk with g | ⟨g1, g2⟩
  · exact g
  · exfalso
    have := hmono i k hi hk
    rcases hor with ⟨h1, h2⟩ | ⟨h1, h2⟩
    · exact confl_spec g1 g2 (fun id a1 a2 a3 a4 => by omega) h1 h2
    · exact confl_spec g2 g1 (fun id a1 a2 a3 a4 => by omega) h1 h2
theorem guard_rep' {T : Nat → Prop} (h : EnvRep X σ s a w T) {ops : Array Oper} {o : Oper} {b : Bool} (hT : ∀ t, t ∈ o.looksAt ops → T t) (hg : aguard ops.toList s o = some b) : Region.wanted o (yielded ops a.tmps) = b := by
  unfold aguard at hg
  unfold Region.wanted
  split at hg
  · rename_i h0; cases hg; simp [h0]
  · rename_i j want h0
    simp only [h0]
    split at hg
    · rename_i q hq
      split at hg
      · rename_i d hd
        have hq' : ops[j]? = some q := by simpa using hq
        have hTd : T d := hT d (List.mem_append_right _ (by simp [h0, hq', hd]))
        split at hg
        · rename_i c hc
          cases hg
          obtain ⟨v, h1, h2⟩ := h d _ hTd hc
          obtain ⟨rfl, -⟩ := h2
          simp [yielded, hq', hd, h1]
        · rename_i hc
          cases hg
          obtain ⟨v, h1, h2⟩ := h d _ hTd hc
          obtain ⟨vs, rfl, -⟩ := h2
          simp [yielded, hq', hd, h1]
        · cases hg
      · cases hg
    · cases hg
end
end Go.Proofs.Ytbdnhoddkdiogaa
