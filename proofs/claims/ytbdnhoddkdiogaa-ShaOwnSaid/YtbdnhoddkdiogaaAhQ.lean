/- AHI, part Q: a region that draws its order: the proof. -/
import Derived.Test.YtbdnhoddkdiogaaAhP
set_option linter.unusedSimpArgs false
set_option linter.unusedVariables false
namespace Go.Proofs.Ytbdnhoddkdiogaa
open Go.RowKit

theorem HeapRep.pad {X : Nat → Prop} {σ : Sg} {H : Hp} {w : World} (h : HeapRep X σ H w) (k : Nat) : HeapRep X σ (H ++ List.replicate k none) w ∧ Keeps w (ownB σ H) w (ownB σ (H ++ List.replicate k none)) := by
  have hr : ∀ (id : Nat) r, (H ++ List.replicate k none)[id]? = some (some r) → H[id]? = some (some r) := fun id r hr => by
    by_cases hi : id < H.length
    · rwa [List.getElem?_append_left hi] at hr
    · rw [List.getElem?_append_right (by omega), List.getElem?_replicate] at hr
      split at hr <;> cases hr
  have ho : ∀ b, ownB σ (H ++ List.replicate k none) b → ownB σ H b := fun b ⟨id, r, x, h1, h2⟩ => ⟨id, r, x, hr id r h1, h2⟩
  have hk : Keeps w (ownB σ H) w (ownB σ (H ++ List.replicate k none)) := ⟨Nat.le_refl _, fun _ _ _ => rfl, fun b hb => .inl (ho b hb)⟩
  exact ⟨h.next hk (fun _ _ h => h) (fun id hid => h.dom id (by simp at hid; omega)) (fun id r h1 => .inl ⟨hr id r h1, fun h => h, fun _ _ _ => rfl⟩) (fun id id' r r' b x x' h1 h2 h3 h4 => h.inj id id' r r' b x x' (hr _ _ h1) (hr _ _ h2) h3 h4), hk⟩
section
variable {P : Program} {Γ : Gam} {X : Nat → Prop} {s : St} {B : Nat}
/-- A run in index order. -/
structure Run (P : Program) (Γ : Gam) (ops : Array Oper) (pl : List Pl) (S : Nat → St) (I : Nat → Inf) : Prop where
  step : ∀ i o p, ops[i]? = some o → pl[i]? = some p → astep P Γ ops.toList o p (S i) (S (i + 1))
  low : Low (S 0)
  len : ops.size = pl.length
  inf : ∀ i o p, ops[i]? = some o → pl[i]? = some p → (I i).rd = o.looksAt ops ∧ (I i).d = o.dst ∧ (I i).m = p.m ∧ (I i).q = p.q ∧ (I i).lo = (S i).H.length ∧ (I i).hi = (S (i + 1)).H.length ∧ (I i).dir = direct o
  ord : Ord ops.size I
section
variable {ops : Array Oper} {pl : List Pl} {S : Nat → St} {I : Nat → Inf}
theorem Run.at (hr : Run P Γ ops pl S I) {i : Nat} (hi : i < ops.size) : ∃ o p, ops[i]? = some o ∧ pl[i]? = some p :=
  ⟨ops[i], pl[i]'(hr.len ▸ hi), Array.getElem?_eq_getElem hi, List.getElem?_eq_getElem (hr.len ▸ hi)⟩
theorem Run.lows (hr : Run P Γ ops pl S I) : ∀ i, i ≤ ops.size → Low (S i)
  | 0, _ => hr.low
  | i + 1, h => by
    obtain ⟨o, p, ho, hp⟩ := hr.at (i := i) (by omega)
    exact astep_low (hr.step i o p ho hp) (hr.lows i (by omega))
theorem Run.n (hr : Run P Γ ops pl S I) : ∀ i, i ≤ ops.size → (S i).n = (S 0).n
  | 0, _ => rfl
  | i + 1, h => by
    obtain ⟨o, p, ho, hp⟩ := hr.at (i := i) (by omega)
    rw [(astep_len (hr.step i o p ho hp)).1, hr.n i (by omega)]
theorem Run.mono (hr : Run P Γ ops pl S I) {i : Nat} : ∀ {j : Nat}, i ≤ j → j ≤ ops.size → (S i).H.length ≤ (S j).H.length
  | 0, h, _ => by rw [Nat.le_zero.1 h]; exact Nat.le_refl _
  | j + 1, h, hj => by
    rcases Nat.lt_or_ge j i with h1 | h1
    · rw [show i = j + 1 by omega]; exact Nat.le_refl _
    · obtain ⟨o, p, ho, hp⟩ := hr.at (i := j) (by omega)
      have := (astep_len (hr.step j o p ho hp)).2.1
      have := hr.mono h1 (by omega)
      omega
/-- What is not written stays. -/
theorem Run.slot (hr : Run P Γ ops pl S I) {t u : Nat} : ∀ {v : Nat}, u ≤ v → v ≤ ops.size → (∀ k, u ≤ k → k < v → ¬ wrs (I k) (.inl t)) → look (S v).env t = look (S u).env t
  | 0, h, _, _ => by rw [Nat.le_zero.1 h]
  | v + 1, h, hv, hn => by
    rcases Nat.lt_or_ge v u with h1 | h1
    · rw [show u = v + 1 by omega]
    · obtain ⟨o, p, ho, hp⟩ := hr.at (i := v) (by omega)
      rw [(astep_len (hr.step v o p ho hp)).2.2 t (fun e => hn v h1 (by omega) (by show (I v).d = _; rw [(hr.inf v o p ho hp).2.1]; exact e))]
      exact hr.slot h1 (by omega) fun k a b => hn k a (by omega)
theorem Run.heap (hr : Run P Γ ops pl S I) {id u : Nat} : ∀ {v : Nat}, u ≤ v → v ≤ ops.size → (∀ k, u ≤ k → k < v → ¬ wrs (I k) (.inr id)) → ((S v).H[id]?).join = ((S u).H[id]?).join
  | 0, h, _, _ => by rw [Nat.le_zero.1 h]
  | v + 1, h, hv, hn => by
    rcases Nat.lt_or_ge v u with h1 | h1
    · rw [show u = v + 1 by omega]
    · obtain ⟨o, p, ho, hp⟩ := hr.at (i := v) (by omega)
      have hst := hr.step v o p ho hp
      obtain ⟨-, -, e3, e4, e5, e6, -⟩ := hr.inf v o p ho hp
      have hnw := hn v h1 (by omega)
      rw [← hr.heap h1 (by omega) (fun k a b => hn k a (by omega))]
      rcases Nat.lt_or_ge id (S v).H.length with h2 | h2
      · rw [astep_row hst h2]
        cases hq : p.q with
        | true => exact .inl rfl
        | false => exact .inr fun hm => hnw (.inl ⟨by rw [e4]; exact hq, by rw [e3]; exact hm⟩)
      · have h3 : (S (v + 1)).H.length ≤ id := Nat.le_of_not_lt fun h3 => hnw (.inr ⟨by rw [e5]; exact h2, by rw [e6]; exact h3⟩)
        rw [List.getElem?_eq_none h3, List.getElem?_eq_none h2]
abbrev dn (l : Array Bool) (k : Nat) : Prop := l.getD k false = true
/-- Between the operations. -/
structure Inv (X : Nat → Prop) (ops : Array Oper) (S : Nat → St) (I : Nat → Inf) (σ0 : Sg) (w0 : World) (l : Array Bool) (ver : Loc → Nat) (σ : Sg) (C : Hp) (a : Act) (w : World) : Prop where
  size : l.size = ops.size
  closed : ∀ i, i < ops.size → dn l i → ∀ k ∈ (I i).anc, dn l k
  v1 : ∀ loc k, k < ops.size → dn l k → wrs (I k) loc → k < ver loc
  v2 : ∀ loc, ver loc = 0 ∨ ∃ k, k < ops.size ∧ dn l k ∧ wrs (I k) loc ∧ ver loc = k + 1
  clen : C.length = (S ops.size).H.length
  ccon : ∀ id, id < (S ops.size).H.length → C[id]? = some (((S (ver (.inr id))).H[id]?).join)
  heap : HeapRep X σ C w
  slots : ∀ t x, look (S (ver (.inl t))).env t = some x → ∃ v, a.tmps[t]? = some v ∧ RepA w (own X σ C) σ x v
  dom : ∀ id y, σ id = some y → id < (S 0).H.length ∨ ∃ k, k < ops.size ∧ dn l k ∧ (S k).H.length ≤ id ∧ id < (S (k + 1)).H.length
  tmps : a.tmps.size = (S 0).n
  defers : a.defers = []
  os : w.os = w0.os
  tape : w.tape = w0.tape
  output : w.output = w0.output
  keeps : Keeps w0 (ownB σ0 (S 0).H) w (ownB σ C)
  same : ∀ id, id < (S 0).H.length → σ id = σ0 id
section
variable {σ0 σ : Sg} {w0 w : World} {l : Array Bool} {ver : Loc → Nat} {C : Hp} {a : Act}
theorem Inv.ver_le (hv : Inv X ops S I σ0 w0 l ver σ C a w) (hr : Run P Γ ops pl S I) {i : Nat} (hi : i < ops.size) (hn : ¬ dn l i) (hanc : ∀ k ∈ (I i).anc, dn l k) {loc : Loc} (ht : tch (I i) loc) :
    ver loc ≤ i ∧ ∀ k, ver loc ≤ k → k < i → ¬ wrs (I k) loc := by
  refine ⟨?_, fun k hk hki hw => ?_⟩
  · rcases hv.v2 loc with h | ⟨k, hk, hd, hw, he⟩
    · omega
    · rcases Nat.lt_trichotomy k i with h | h | h
      · omega
      · subst h; exact (hn hd).elim
      · exact (hn (hv.closed k hk hd i (hr.ord.ord k i loc hk h (.inr ⟨hw, ht⟩)))).elim
  · have := hanc k (hr.ord.ord i k loc hi hki (.inl ⟨hw, ht⟩))
    have := hv.v1 loc k (by omega) this hw
    omega
theorem Inv.slot_at (hv : Inv X ops S I σ0 w0 l ver σ C a w) (hr : Run P Γ ops pl S I) {i : Nat} (hi : i < ops.size) (hn : ¬ dn l i) (hanc : ∀ k ∈ (I i).anc, dn l k) {t : Nat} (ht : tch (I i) (.inl t)) :
    look (S i).env t = look (S (ver (.inl t))).env t := by
  obtain ⟨h1, h2⟩ := hv.ver_le hr hi hn hanc ht
  exact hr.slot h1 (by omega) h2
theorem Inv.row_at (hv : Inv X ops S I σ0 w0 l ver σ C a w) (hr : Run P Γ ops pl S I) {i : Nat} (hi : i < ops.size) (hn : ¬ dn l i) (hanc : ∀ k ∈ (I i).anc, dn l k) {id : Nat} (ht : tch (I i) (.inr id)) :
    ((S i).H[id]?).join = ((S (ver (.inr id))).H[id]?).join := by
  obtain ⟨h1, h2⟩ := hv.ver_le hr hi hn hanc ht
  exact hr.heap h1 (by omega) h2
theorem dn_set {l : Array Bool} {i k : Nat} (hi : i < l.size) : dn (l.setIfInBounds i true) k ↔ k = i ∨ dn l k := by
  by_cases h : k = i
  · subst h; simp [dn, hi]
  · have : i ≠ k := fun e => h e.symm
    simp [dn, Array.getElem?_setIfInBounds_ne this, h]
theorem join_some {α : Type} {x : Option (Option α)} {y : α} (h : x.join = some y) : x = some (some y) := by
  cases x with
  | none => cases h
  | some z => rw [show (some z).join = z from rfl] at h; rw [h]
open Classical in
/-- The versions behind an operation. -/
noncomputable def verAfter (I : Nat → Inf) (i : Nat) (ver : Loc → Nat) (loc : Loc) : Nat := if wrs (I i) loc then i + 1 else ver loc
theorem Inv.vers (hv : Inv X ops S I σ0 w0 l ver σ C a w) (hr : Run P Γ ops pl S I) {i : Nat} (hi : i < ops.size) (hn : ¬ dn l i) (hanc : ∀ k ∈ (I i).anc, dn l k) :
    (∀ j, j < ops.size → dn (l.setIfInBounds i true) j → ∀ k ∈ (I j).anc, dn (l.setIfInBounds i true) k) ∧
    (∀ loc k, k < ops.size → dn (l.setIfInBounds i true) k → wrs (I k) loc → k < verAfter I i ver loc) ∧
    (∀ loc, verAfter I i ver loc = 0 ∨ ∃ k, k < ops.size ∧ dn (l.setIfInBounds i true) k ∧ wrs (I k) loc ∧ verAfter I i ver loc = k + 1) := by
  have hil : i < l.size := by rw [hv.size]; exact hi
  refine ⟨fun j hj hd k hk => (dn_set hil).2 (.inr ?_), fun loc k hk hd hw => ?_, fun loc => ?_⟩
  · rcases (dn_set hil).1 hd with rfl | hd
    · exact hanc k hk
    · exact hv.closed j hj hd k hk
  · unfold verAfter
    rcases (dn_set hil).1 hd with rfl | hd
    · rw [if_pos hw]; omega
    · split
      · rename_i hwi
        have := hv.v1 loc k hk hd hw
        have := (hv.ver_le hr hi hn hanc (wrs_tch hwi)).1
        omega
      · exact hv.v1 loc k hk hd hw
  · unfold verAfter
    split
    · rename_i hwi; exact .inr ⟨i, hi, (dn_set hil).2 (.inl rfl), hwi, rfl⟩
    · rcases hv.v2 loc with h | ⟨k, hk, hd, hw, he⟩
      · exact .inl h
      · exact .inr ⟨k, hk, (dn_set hil).2 (.inr hd), hw, he⟩
/-- An operation, wherever it comes. -/
theorem Inv.op (hΓ : GamOk P Γ) (hv : Inv X ops S I σ0 w0 l ver σ C a w) (hr : Run P Γ ops pl S I) {i : Nat} {o : Oper} (ho : ops[i]? = some o) (hn : ¬ dn l i) (hdir : ∀ k ∈ direct o, dn l k) {Q : Exit → Act → World → Prop} {K : Act → World → Prop}
    (hK : ∀ ver' σ' C' a' w', Inv X ops S I σ0 w0 (l.setIfInBounds i true) ver' σ' C' a' w' → K a' w') : wpOp P ops Q i K a w := by
  have hi : i < ops.size := (Array.getElem?_eq_some_iff.1 ho).1
  have hil : i < l.size := by rw [hv.size]; exact hi
  obtain ⟨o', p, ho', hp⟩ := hr.at hi
  rw [ho] at ho'; cases ho'
  obtain ⟨e1, e2, e3, e4, e5, e6, e7⟩ := hr.inf i o p ho hp
  have hanc : ∀ k ∈ (I i).anc, dn l k := fun k hk => by
    rcases hr.ord.anc i hi k hk with h | ⟨j, hj, hk'⟩
    · rw [e7] at h; exact hdir k h
    · have hj' := hj
      rw [e7] at hj'
      exact hv.closed j (Nat.lt_trans (hr.ord.dir i hi j hj) hi) (hdir j hj') k hk'
  have hlow := hr.lows i (Nat.le_of_lt hi)
  have hst := hr.step i o p ho hp
  obtain ⟨g1, g2, g3⟩ := astep_len hst
  have hNM : (S (i + 1)).H.length ≤ (S ops.size).H.length := hr.mono (by omega) (by omega)
  have h0 : (S 0).H.length ≤ (S i).H.length := hr.mono (by omega) (by omega)
  obtain ⟨c1, c2, c3⟩ := hv.vers hr hi hn hanc
  unfold wpOp
  simp only [ho]
  -- the slots that it looks at
  have hlook : ∀ t x, t ∈ o.looksAt ops → look (S i).env t = some x → ∃ v, a.tmps[t]? = some v ∧ RepA w (own X σ C) σ x v := fun t x ht hx => by
    rw [hv.slot_at hr hi hn hanc (.inl (by rw [e1]; exact ht))] at hx
    exact hv.slots t x hx
  have hdomT : ∀ k, dn l k → dn (l.setIfInBounds i true) k := fun k hk => (dn_set hil).2 (.inr hk)
  rcases hst with ⟨hg, x, H', hx, hq, hlen, hux, huH, hput⟩ | ⟨hg, hp0, hput⟩
  · -- the rows that it needs, under their numbers
    obtain ⟨p1, p2, p3, p4⟩ := put_H hput
    have hhi : (S (i + 1)).H.length = H'.length := by omega
    let f : Nat → Nat := fun j => if j < H'.length then j else C.length + j
    have hfid : ∀ j, j < H'.length → f j = j := fun j hj => if_pos hj
    have hfge : ∀ j, H'.length ≤ j → f j = C.length + j := fun j hj => if_neg (by omega)
    have hCl : H'.length ≤ C.length := by rw [hv.clen]; omega
    have hinj : ∀ j k, f j = f k → j = k := fun j k e => by
      rcases Nat.lt_or_ge j H'.length with h1 | h1 <;> rcases Nat.lt_or_ge k H'.length with h2 | h2
      · rw [hfid j h1, hfid k h2] at e; exact e
      · rw [hfid j h1, hfge k h2] at e; omega
      · rw [hfge j h1, hfid k h2] at e; omega
      · rw [hfge j h1, hfge k h2] at e; omega
    have hlenL : (maskH p.m 0 (S i).H).length = (S i).H.length := maskH_len _ _ _
    have hLrow : ∀ (j : Nat) q, (maskH p.m 0 (S i).H)[j]? = some (some q) → j ∈ p.m ∧ (S i).H[j]? = some (some q) ∧ C[j]? = some (some q) := fun j q hj => by
      rw [maskH_at, Nat.zero_add] at hj
      split at hj
      · rename_i hm
        have hm' : j ∈ p.m := by simpa using hm
        have hjl := (List.getElem?_eq_some_iff.1 hj).1
        refine ⟨hm', hj, ?_⟩
        rw [hv.ccon j (by omega), ← hv.row_at hr hi hn hanc (.inl (by rw [e3]; exact hm')), hj]
        rfl
      · obtain ⟨y, hy, hy'⟩ := Option.map_eq_some_iff.1 hj; cases hy'
    have hpart : Part σ C (maskH p.m 0 (S i).H) f (fun _ => False) := by
      refine ⟨hinj, fun j q hj => .inr ?_, fun j hj => ?_, fun _ _ h => h⟩
      · obtain ⟨h1, h2, h3⟩ := hLrow j q hj
        have hjl := (List.getElem?_eq_some_iff.1 h2).1
        rw [hfid j (by omega), Row.under_map (n := (S i).H.length) (fun k hk => hfid k (by omega)) (hlow.row j q h2)]
        exact h3
      · rw [hlenL] at hj
        rcases Nat.lt_or_ge j H'.length with h1 | h1
        · rw [hfid j h1]
          cases hs : σ j with
          | none => rfl
          | some y =>
            rcases hv.dom j y hs with h2 | ⟨k, hk, hd, h2, h3⟩
            · omega
            · rcases Nat.lt_trichotomy k i with h4 | h4 | h4
              · have := hr.mono (i := k + 1) (j := i) (by omega) (by omega); omega
              · subst h4; exact (hn hd).elim
              · have := hr.mono (i := i + 1) (j := k) (by omega) (by omega); omega
        · rw [hfge j h1]; exact hv.heap.dom _ (by omega)
    have hheap := hpart.heap hv.heap
    have henv : EnvRep (others X σ C (maskH p.m 0 (S i).H) f (fun _ => False)) (fun j => σ (f j)) ⟨(S i).n, (S i).env, maskH p.m 0 (S i).H⟩ a w (fun t => t ∈ o.looksAt ops) := fun t y ht hy => by
      obtain ⟨v, h1, h2⟩ := hlook t y ht hy
      refine ⟨v, h1, RepA.unmap hpart.le ?_⟩
      rw [AV.under_map (n := (S i).H.length) (fun k hk => hfid k (by omega)) (hlow.env t y hy)]
      exact h2
    have hwant : Region.wanted o (yielded ops a.tmps) = true := guard_rep' (s := ⟨(S i).n, (S i).env, maskH p.m 0 (S i).H⟩) henv (fun _ h => h) hg
    rw [if_pos hwant]
    left
    refine op_sound hΓ hx (fun t y ht hy => henv t y (List.mem_append_left _ (List.mem_filterMap.2 ⟨.tmp t, by simpa using ht, rfl⟩)) hy) hheap fun v w' ⟨σ', q1, q2, q3⟩ => ?_
    let wr : Nat → Bool := fun id => (!p.q && p.m.contains id) || (decide ((S i).H.length ≤ id) && decide (id < (S (i + 1)).H.length))
    have hwr : ∀ id, wr id = true ↔ wrs (I i) (.inr id) := fun id => by
      simp only [wr, wrs, e3, e4, e5, e6, Bool.or_eq_true, Bool.and_eq_true, Bool.not_eq_true', decide_eq_true_eq, List.contains_eq_mem]
    let C' : Hp := (List.range C.length).map fun id => if wr id = true then (H'[id]?).join else (C[id]?).join
    have hC'len : C'.length = C.length := by simp [C']
    have hC' : ∀ id, id < C.length → C'[id]? = some (if wr id = true then (H'[id]?).join else (C[id]?).join) := fun id hid => by
      simp only [C', List.getElem?_map, List.getElem?_range hid, Option.map_some]
    have hrowS : ∀ id, wr id = true → ((S (i + 1)).H[id]?) = H'[id]? := fun id hid => by
      rw [p1, mergeH_at _ _ _ _ (by omega), if_neg]
      rintro ⟨h1, h2⟩
      simp only [wr, Bool.or_eq_true, Bool.and_eq_true, Bool.not_eq_true', decide_eq_true_eq] at hid
      rcases hid with ⟨h3, h4⟩ | ⟨h3, h4⟩
      · unfold Pl.w at h2; rw [h3, Nat.zero_add] at h2; simp only [Bool.false_eq_true, if_false] at h2; rw [h4] at h2; cases h2
      · omega
    have hout : PartOut C (maskH p.m 0 (S i).H) f H' C' := by
      refine ⟨by rw [hC'len]; exact Nat.le_refl _, fun j hj => by rw [hfid j hj, hC'len]; omega, fun id r hr' => ?_⟩
      have hid : id < C.length := by rw [← hC'len]; exact (List.getElem?_eq_some_iff.1 hr').1
      rw [hC' id hid] at hr'
      have left : H'[id]? = some (some r) → ∃ j q, f j = id ∧ H'[j]? = some (some q) ∧ r = q.mapId f := fun h => by
        have hl := (List.getElem?_eq_some_iff.1 h).1
        exact ⟨id, r, hfid id hl, h, (Row.under_map (n := H'.length) hfid (underH_at huH id r h)).symm⟩
      split at hr'
      · exact .inl (left (join_some (by simpa using hr')))
      · rename_i hnw
        have hc : C[id]? = some (some r) := join_some (by simpa using hr')
        by_cases hm : id ∈ p.m
        · left
          have hq' : p.q = true := by
            cases hqq : p.q with
            | true => rfl
            | false => exfalso; apply hnw; simp [wr, hqq, hm]
          have hml : id < (S i).H.length := by have := hr.ord.low i hi id (by rw [e3]; exact hm); omega
          apply left
          have h1 : (H'.take (S i).H.length)[id]? = H'[id]? := by rw [List.getElem?_take, if_pos hml]
          rw [← h1, hq hq', maskH_at, Nat.zero_add, if_pos (by simpa using hm)]
          have h2 := hv.ccon id (by omega)
          rw [← hv.row_at hr hi hn hanc (.inl (by rw [e3]; exact hm)), hc] at h2
          exact join_some (by simpa using h2.symm)
        · right
          refine ⟨hc, fun j hj => ?_⟩
          have hjl : j < H'.length := Nat.lt_of_not_le fun h => by rw [hfge j h] at hj; omega
          rw [hfid j hjl] at hj
          subst hj
          have hlo : j < (S i).H.length := Nat.lt_of_not_le fun h => by
            apply hnw; simp only [wr, Bool.or_eq_true, Bool.and_eq_true, decide_eq_true_eq]; right; exact ⟨h, by omega⟩
          exact ⟨by rw [hlenL]; exact hlo, fun ⟨q, hq'⟩ => hm (hLrow j q hq').1⟩
    obtain ⟨τ, t1, t2, t3, t4, t5, t6⟩ := hpart.out hv.heap hout q3 q2 (.inl fun _ h => h)
    have hxm : x.mapId f = x := AV.under_map hfid hux
    have hτ : ∀ id, ¬ ((S i).H.length ≤ id ∧ id < H'.length) → τ id = σ id := fun id h => t5 id fun j hj => by
      rw [hlenL]
      rcases Nat.lt_or_ge j H'.length with h1 | h1
      · rw [hfid j h1] at hj; subst hj; left; omega
      · exact .inr h1
    refine hK (verAfter I i ver) τ C' (a.put o.dst v) w' ⟨by simp [hv.size], c1, c2, c3, by rw [hC'len]; exact hv.clen, fun id hid => ?_, t1, fun t y hy => ?_, fun id y hy => ?_, ?_, ?_, q3.os.trans hv.os, q3.tape.trans hv.tape, q3.output.trans hv.output, hv.keeps.trans t3, fun id hid => ?_⟩
    · rw [hC' id (by rw [hv.clen]; exact hid)]
      unfold verAfter
      by_cases h : wr id = true
      · rw [if_pos h, if_pos ((hwr id).1 h), hrowS id h]
      · rw [if_neg h, if_neg (fun h' => h ((hwr id).2 h')), hv.ccon id hid]; rfl
    · unfold verAfter at hy
      by_cases hd : o.dst = some t
      · rw [if_pos (by show (I i).d = _; rw [e2]; exact hd), (p4 t hd).2] at hy
        cases hy
        refine ⟨v, ?_, ?_⟩
        · have : t < a.tmps.size := by rw [hv.tmps, ← hr.n i (Nat.le_of_lt hi)]; exact (p4 t hd).1
          simp [Act.put, hd, this]
        · rw [← hxm]; exact t6 x v q1 (.inl fun _ h => h)
      · rw [if_neg (by show ¬ (I i).d = _; rw [e2]; exact hd)] at hy
        obtain ⟨u, h1, h2⟩ := hv.slots t y hy
        refine ⟨u, ?_, h2.mono (keepsX t3) t2⟩
        cases hdd : o.dst with
        | none => exact h1
        | some d =>
          have hne : d ≠ t := fun e => hd (by rw [hdd, e])
          simp only [Act.put]; rw [Array.getElem?_setIfInBounds_ne hne]; exact h1
    · by_cases h : (S i).H.length ≤ id ∧ id < H'.length
      · exact .inr ⟨i, hi, (dn_set hil).2 (.inl rfl), h.1, by omega⟩
      · rw [hτ id h] at hy
        exact (hv.dom id y hy).imp (fun h => h) fun ⟨k, h1, h2, h3⟩ => ⟨k, h1, hdomT k h2, h3⟩
    · cases o.dst <;> simp [Act.put, hv.tmps]
    · cases hdd : o.dst <;> simp [Act.put, hv.defers]
    · rw [hτ id (by omega)]; exact hv.same id hid
  · -- it is passed by
    obtain ⟨p1, p2, p3, p4⟩ := put_H hput
    have hwant : Region.wanted o (yielded ops a.tmps) = false := guard_rep' (X := X) (σ := σ) (s := ⟨(S i).n, (S i).env, C⟩) (T := fun t => t ∈ o.looksAt ops) (fun t y ht hy => hlook t y ht hy) (fun _ h => h) hg
    rw [if_neg (by rw [hwant]; simp)]
    refine hK (verAfter I i ver) σ C (a.put o.dst undef) w ⟨by simp [hv.size], c1, c2, c3, hv.clen, fun id hid => ?_, hv.heap, fun t y hy => ?_, fun id y hy => ?_, ?_, ?_, hv.os, hv.tape, hv.output, hv.keeps, hv.same⟩
    · unfold verAfter
      split
      · rename_i hw
        rw [p1, hv.ccon id hid, ← hv.row_at hr hi hn hanc (wrs_tch hw)]
      · exact hv.ccon id hid
    · unfold verAfter at hy
      by_cases hd : o.dst = some t
      · rw [if_pos (by show (I i).d = _; rw [e2]; exact hd), (p4 t hd).2] at hy
        cases hy
        refine ⟨undef, ?_, ⟨[], rfl, rfl, fun i a ha => by simp at ha⟩⟩
        have : t < a.tmps.size := by rw [hv.tmps, ← hr.n i (Nat.le_of_lt hi)]; exact (p4 t hd).1
        simp [Act.put, hd, this]
      · rw [if_neg (by show ¬ (I i).d = _; rw [e2]; exact hd)] at hy
        obtain ⟨u, h1, h2⟩ := hv.slots t y hy
        refine ⟨u, ?_, h2⟩
        cases hdd : o.dst with
        | none => exact h1
        | some d =>
          have hne : d ≠ t := fun e => hd (by rw [hdd, e])
          simp only [Act.put]; rw [Array.getElem?_setIfInBounds_ne hne]; exact h1
    · exact (hv.dom id y hy).imp (fun h => h) fun ⟨k, h1, h2, h3⟩ => ⟨k, h1, hdomT k h2, h3⟩
    · cases o.dst <;> simp [Act.put, hv.tmps]
    · cases hdd : o.dst <;> simp [Act.put, hv.defers]
end
end
end
end Go.Proofs.Ytbdnhoddkdiogaa
