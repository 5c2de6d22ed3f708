/- AHI, part T: contracts at any heap. -/
import Derived.Test.YtbdnhoddkdiogaaAhS
set_option linter.unusedSimpArgs false
set_option linter.unusedVariables false
namespace Go.Proofs.Ytbdnhoddkdiogaa
open Go.RowKit

section
variable {P : Program} {X : Nat → Prop} {σ σ' τ : Sg} {s s' : St} {H H' C C' L L' : Hp} {a : Act} {w w' : World} {B : Nat} {f : Nat → Nat} {o o' Z : Nat → Prop}
theorem view_rep (hh : HeapRep X σ H w) (ho : ∀ b, o b → X b) {t : Ty} {x : AV} {d : t.D} {v : Value} (h : view H t x = some d) (hr : Rep1 w (own X σ H) σ x v) : Rep1 w o τ (ro t d) v := by
  have hag : ∀ {r : Row} {vs : List Value}, vs.length = t.sz → RepD w o t d (fun i => vs[i]?) → t.isLeaf = false → Rep1 w o τ (ro t d) (.agg vs.toArray) := fun {r vs} hl hd hf => by
    cases t with
    | pr a b => exact ⟨vs, rfl, by simp [Row.size, hl], fun i y hy => one_list hd i y hy⟩
    | ar n e => exact ⟨vs, rfl, by rw [hl]; simp only [Row.size, Ty.sz]; rw [hd.1], hd.2⟩
    | _ => cases hf
  cases x with
  | c c =>
    simp only [view] at h
    split at h
    · rename_i ht
      have := vdec_rep hh ho (g := fun _ => some v) (fun i c' hc => by
        cases i with
        | zero => cases hc; exact ⟨v, rfl, hr⟩
        | succ i => simp at hc) h
      cases t with
      | i k => have e : some v = some _ := this; cases e; exact ⟨rfl, rfl⟩
      | bo => have e : some v = some _ := this; cases e; exact ⟨rfl, rfl⟩
      | st => have e : some v = some _ := this; cases e; exact ⟨rfl, rfl⟩
      | f k => have e : some v = some _ := this; cases e; exact ⟨rfl, rfl⟩
      | sl e => obtain ⟨u, hu, h1⟩ := this; cases hu; exact h1
      | pr a b => cases ht.2
      | ar n e => cases ht.2
    · cases h
  | agg r =>
    simp only [view] at h
    split at h
    · cases h
    · rename_i hf
      have hf : t.isLeaf = false := by simpa using hf
      obtain ⟨vs, rfl, h2, h3⟩ := hr
      split at h
      · rename_i y hy
        cases h
        obtain ⟨h4, h5⟩ := rowOne_rep h3 hy
        exact hag (r := r) (h2.trans h5) (RepD.less (fun b hb => .inr (ho b hb)) h4) hf
      · split at h
        · rename_i l h0
          exact hag (r := .raw l) (h2.trans (vdec_len h)) (vdec_rep hh ho h3 h) hf
        · cases h
  | tup l => cases hr
/-- A contract at another heap: a part of it under other numbers; Z is lent. -/
theorem callFrame {g : FuncId} {al args : List AV} {r : AV} (h : CallOk P g al L r L') (f : Nat → Nat) (Z : Nat → Prop) (hinj : ∀ i j, f i = f j → i = j) (hrow : ∀ (i : Nat) q, L[i]? = some (some q) → C[f i]? = some (some (q.mapId f))) (hge : ∀ i, L.length ≤ i → C.length ≤ f i)
    (hZl : ∀ i, liveAt L i → ¬ Z (f i)) (hlen : args.length = al.length)
    (hargs : ∀ (i : Nat) y, al[i]? = some y → ∃ x, args[i]? = some x ∧ ∀ X σ w v, HeapRep X σ C w → Part σ C L f Z → Rep1 w (own X σ C) σ x v → Rep1 w (own (others X σ C L f Z) (fun i => σ (f i)) L) (fun i => σ (f i)) y v)
    (hout : PartOut C L f L' C') (hlt : C.length ≤ C'.length) (hZ : (∀ id, ¬ Z id) ∨ ((∀ (i : Nat) (q : Row), L'[i]? = some (some q) → q.flat = true) ∧ r.flat = true)) : CallOk P g args C (r.mapId f) C' := by
  refine ⟨h.1, fun X σ w vs hh hvl hv => ?_⟩
  have hp : Part σ C L f Z := ⟨hinj, fun i q hq => .inr (hrow i q hq), fun i hi => hh.dom _ (hge i hi), hZl⟩
  refine (h.2 (others X σ C L f Z) (fun i => σ (f i)) w vs (hp.heap hh) (by omega) (fun i y hy => ?_)).mono fun e w' ⟨v, he, σ', q1, q2, q3⟩ => ⟨v, he, ?_⟩
  · obtain ⟨x, hx, hxr⟩ := hargs i y hy
    obtain ⟨v, h1, h2⟩ := hv i x hx
    exact ⟨v, h1, hxr X σ w v hh hp h2⟩
  · obtain ⟨τ, t1, t2, t3, t4, t5, t6⟩ := hp.out hh hout q3 q2 (hZ.imp (fun h => h) (·.1))
    refine ⟨τ, t6 r v q1 (hZ.imp (fun h => h) (·.2)), t1, q3.os, q3.tape, q3.output, t3, t2, hlt, fun id hid => t5 id fun i hi => ?_⟩
    left
    apply Nat.lt_of_not_le
    intro hle
    have := hge i hle
    omega
theorem getElem?_append_map (C L' : Hp) (k : Option Row → Option Row) {id : Nat} {y : Option Row} (h : (C ++ L'.map k)[id]? = some y) : C[id]? = some y ∨ ∃ i x, id = C.length + i ∧ L'[i]? = some x ∧ y = k x := by
  rcases Nat.lt_or_ge id C.length with h1 | h1
  · rw [List.getElem?_append_left h1] at h; exact .inl h
  · rw [List.getElem?_append_right h1, List.getElem?_map] at h
    obtain ⟨x, hx, rfl⟩ := Option.map_eq_some_iff.1 h
    exact .inr ⟨id - C.length, x, by omega, hx, rfl⟩
/-- What is handed on is only read. -/
theorem lendOk {g : FuncId} {al args : List AV} {r : AV} (h : CallOk P g al [] r L') (hlen : args.length = al.length) (hargs : ∀ (i : Nat) y, al[i]? = some y → ∃ x t d, args[i]? = some x ∧ view C t x = some d ∧ y = ro t d)
    (hf : r.flat = true) (hL : ∀ q, some q ∈ L' → q.flat = true) : CallOk P g args C (r.mapId (C.length + ·)) (C ++ L'.map (Option.map (Row.mapId (C.length + ·)))) := by
  refine callFrame h (C.length + ·) (fun _ => True) (fun i j e => by omega) (fun i q hq => by simp at hq) (fun i _ => Nat.le_add_right _ _) (fun i ⟨q, hq⟩ => by simp at hq) hlen (fun i y hy => ?_) ⟨by simp, fun i hi => by simp; omega, fun id q hq => ?_⟩ (by simp) (.inr ⟨fun i q hq => hL q (List.mem_of_getElem? hq), hf⟩)
  · obtain ⟨x, t, d, h1, h2, rfl⟩ := hargs i y hy
    refine ⟨x, h1, fun X σ w v hh hp hr => view_rep hh (fun b hb => ?_) h2 hr⟩
    rcases hb with ⟨i, q, y, hq, -⟩ | hb | ⟨id, q, y, -, -, -, hz⟩
    · simp at hq
    · exact hb
    · exact (hz trivial).elim
  · rcases getElem?_append_map C L' _ hq with h1 | ⟨i, x, rfl, hx, hy⟩
    · right
      refine ⟨h1, fun i hi => ?_⟩
      have := (List.getElem?_eq_some_iff.1 h1).1
      omega
    · left
      obtain ⟨q', rfl, rfl⟩ := Option.map_eq_some_iff.1 hy.symm
      exact ⟨i, q', rfl, hx, rfl⟩
theorem lend1 {g : FuncId} (t : Ty) {d : t.D} {r x : AV} (h : CallOk P g [ro t d] [] r L') (hv : view C t x = some d) (hf : r.flat = true) (hL : ∀ q, some q ∈ L' → q.flat = true) : CallOk P g [x] C (r.mapId (C.length + ·)) (C ++ L'.map (Option.map (Row.mapId (C.length + ·)))) :=
  lendOk h rfl (fun i y hy => by
    match i, hy with
    | 0, hy => cases hy; exact ⟨x, t, d, rfl, hv, rfl⟩) hf hL
theorem lend2 {g : FuncId} (t t' : Ty) {d : t.D} {d' : t'.D} {r x x' : AV} (h : CallOk P g [ro t d, ro t' d'] [] r L') (hv : view C t x = some d) (hv' : view C t' x' = some d') (hf : r.flat = true) (hL : ∀ q, some q ∈ L' → q.flat = true) :
    CallOk P g [x, x'] C (r.mapId (C.length + ·)) (C ++ L'.map (Option.map (Row.mapId (C.length + ·)))) :=
  lendOk h rfl (fun i y hy => by
    match i, hy with
    | 0, hy => cases hy; exact ⟨x, t, d, rfl, hv, rfl⟩
    | 1, hy => cases hy; exact ⟨x', t', d', rfl, hv', rfl⟩) hf hL
theorem lend3 {g : FuncId} (t t' t'' : Ty) {d : t.D} {d' : t'.D} {d'' : t''.D} {r x x' x'' : AV} (h : CallOk P g [ro t d, ro t' d', ro t'' d''] [] r L') (hv : view C t x = some d) (hv' : view C t' x' = some d') (hv'' : view C t'' x'' = some d'') (hf : r.flat = true) (hL : ∀ q, some q ∈ L' → q.flat = true) :
    CallOk P g [x, x', x''] C (r.mapId (C.length + ·)) (C ++ L'.map (Option.map (Row.mapId (C.length + ·)))) :=
  lendOk h rfl (fun i y hy => by
    match i, hy with
    | 0, hy => cases hy; exact ⟨x, t, d, rfl, hv, rfl⟩
    | 1, hy => cases hy; exact ⟨x', t', d', rfl, hv', rfl⟩
    | 2, hy => cases hy; exact ⟨x'', t'', d'', rfl, hv'', rfl⟩) hf hL
/-! ### Rows of the call's own handed on -/
def ats (ρ : List Nat) (n i : Nat) : Nat := if h : i < ρ.length then ρ[i] else n + (i - ρ.length)
/-- The rows written back, new ones behind. -/
def patch (f : Nat → Nat) : List Nat → Hp → Hp → Hp
  | [], L', C => C ++ L'.map (Option.map (Row.mapId f))
  | id :: ρ, x :: L', C => patch f ρ L' (C.set id (x.map (Row.mapId f)))
  | _ :: _, [], C => C
def dead (ρ : List Nat) (C : Hp) : Hp := ρ.foldl (fun C id => C.set id none) C
theorem dead_len : ∀ (ρ : List Nat) (C : Hp), (dead ρ C).length = C.length
  | [], C => rfl
  | id :: ρ, C => by show (dead ρ (C.set id none)).length = _; rw [dead_len ρ]; simp
theorem dead_at : ∀ (ρ : List Nat) (C : Hp) (id : Nat) (r : Row), (dead ρ C)[id]? = some (some r) ↔ C[id]? = some (some r) ∧ id ∉ ρ
  | [], C, id, r => by simp [dead]
  | j :: ρ, C, id, r => by
    show (dead ρ (C.set j none))[id]? = _ ↔ _
    rw [dead_at ρ]
    by_cases h : j = id
    · subst h
      constructor
      · rintro ⟨h1, -⟩
        rcases set_cases h1 with ⟨-, h2, -⟩ | ⟨h2, -⟩
        · cases h2
        · exact (h2 rfl).elim
      · rintro ⟨-, h1⟩; simp at h1
    · rw [List.getElem?_set_ne h]
      have : id ≠ j := fun e => h e.symm
      simp [this]
theorem patch_spec (f : Nat → Nat) : ∀ {ρ : List Nat} {L' C : Hp}, ρ.length ≤ L'.length → nodupB ρ = true → (∀ id ∈ ρ, id < C.length) →
    C.length ≤ (patch f ρ L' C).length ∧ (patch f ρ L' C).length = C.length + (L'.length - ρ.length) ∧ ∀ (id : Nat) y, (patch f ρ L' C)[id]? = some y → (C[id]? = some y ∧ id ∉ ρ) ∨ (∃ (i : Nat) (x : Option Row), ρ[i]? = some id ∧ L'[i]? = some x ∧ y = x.map (Row.mapId f)) ∨ (∃ (i : Nat) (x : Option Row), ρ.length ≤ i ∧ id = C.length + (i - ρ.length) ∧ L'[i]? = some x ∧ y = x.map (Row.mapId f))
  | [], L', C, _, _, _ => by
    refine ⟨by simp [patch], by simp [patch], fun id y hy => ?_⟩
    rcases getElem?_append_map C L' _ hy with h1 | ⟨i, x, rfl, hx, hy⟩
    · exact .inl ⟨h1, by simp⟩
    · exact .inr (.inr ⟨i, x, Nat.zero_le _, rfl, hx, hy⟩)
  | id :: ρ, [], C, h, _, _ => by simp at h
  | j :: ρ, z :: L', C, h, hn, hl => by
    simp only [nodupB, Bool.and_eq_true, Bool.not_eq_true', List.contains_eq_mem, decide_eq_false_iff_not] at hn
    obtain ⟨h1, h2, h3⟩ := patch_spec f (ρ := ρ) (L' := L') (C := C.set j (z.map (Row.mapId f))) (by simpa using h) hn.2 (fun id hid => by simpa using hl id (List.mem_cons_of_mem _ hid))
    rw [List.length_set] at h1 h2
    refine ⟨h1, by show (patch f ρ L' _).length = _; rw [h2]; simp, fun id y hy => ?_⟩
    rcases h3 id y hy with ⟨h4, h5⟩ | ⟨i, x, h4, h5, h6⟩ | ⟨i, x, h4, h5, h6, h7⟩
    · rcases set_cases h4 with ⟨rfl, h6, -⟩ | ⟨h6, h7⟩
      · exact .inr (.inl ⟨0, z, rfl, rfl, h6⟩)
      · exact .inl ⟨h7, by simp [h6, h5]⟩
    · exact .inr (.inl ⟨i + 1, x, by simpa using h4, by simpa using h5, h6⟩)
    · rw [List.length_set] at h5
      exact .inr (.inr ⟨i + 1, x, by simpa using h4, by simp only [List.length_cons]; omega, by simpa using h6, h7⟩)
theorem Row.map_self (r : Row) : r.mapId (fun i => i) = r := by
  have hc : ∀ c : CV, c.mapId (fun i => i) = c := fun c => by cases c <;> simp [CV.mapId]
  cases r with
  | raw l => simp only [Row.mapId, Row.raw.injEq]; exact (List.map_congr_left fun c _ => hc c).trans (List.map_id _)
  | ty t xs => rfl
/-- An argument: under the other numbers, or lent to be read (no row that is handed on). -/
def ArgOk (C : Hp) (ρ : List Nat) (f : Nat → Nat) (x y : AV) : Prop := x = y.map1 f ∨ ∃ (t : Ty) (d : t.D), view (dead ρ C) t x = some d ∧ y = ro t d
theorem frameG {g : FuncId} {al args : List AV} {r : AV} (ρ : List Nat) (Z : Nat → Prop) (hZρ : ∀ id ∈ ρ, ¬ Z id) (h : CallOk P g al L r L') (hL : L.length = ρ.length) (hLL : L.length ≤ L'.length) (hnd : nodupB ρ = true) (hρ : ∀ id ∈ ρ, id < C.length)
    (hrow : ∀ (i : Nat) q, L[i]? = some (some q) → C[ats ρ C.length i]? = some (some (q.mapId (ats ρ C.length))))
    (hlen : args.length = al.length)
    (hargs : ∀ (i : Nat) y, al[i]? = some y → ∃ x, args[i]? = some x ∧ ∀ X σ w v, HeapRep X σ C w → Part σ C L (ats ρ C.length) Z → Rep1 w (own X σ C) σ x v → Rep1 w (own (others X σ C L (ats ρ C.length) Z) (fun i => σ (ats ρ C.length i)) L) (fun i => σ (ats ρ C.length i)) y v)
    (hZ : (∀ id, ¬ Z id) ∨ ((∀ (i : Nat) (q : Row), L'[i]? = some (some q) → q.flat = true) ∧ r.flat = true)) : CallOk P g args C (r.mapId (ats ρ C.length)) (patch (ats ρ C.length) ρ L' C) := by
  have hat : ∀ (i : Nat) id, ρ[i]? = some id → ats ρ C.length i = id := fun i id hi => by
    obtain ⟨h1, h2⟩ := List.getElem?_eq_some_iff.1 hi
    unfold ats; rw [dif_pos h1]; exact h2
  have hge : ∀ i, ρ.length ≤ i → ats ρ C.length i = C.length + (i - ρ.length) := fun i hi => by unfold ats; rw [dif_neg (by omega)]
  have hin : ∀ i, i < ρ.length → ats ρ C.length i ∈ ρ := fun i hi => by unfold ats; rw [dif_pos hi]; exact List.getElem_mem _
  have hinj : ∀ i j, ats ρ C.length i = ats ρ C.length j → i = j := fun i j e => by
    rcases Nat.lt_or_ge i ρ.length with h1 | h1 <;> rcases Nat.lt_or_ge j ρ.length with h2 | h2
    · have a1 : ρ[i]? = some ρ[i] := List.getElem?_eq_getElem h1
      have a2 : ρ[j]? = some ρ[j] := List.getElem?_eq_getElem h2
      rw [hat i _ a1, hat j _ a2] at e
      exact nodupB_spec hnd i j _ a1 (by rw [e]; exact a2)
    · have := hρ _ (hin i h1); rw [e, hge j h2] at this; omega
    · have := hρ _ (hin j h2); rw [← e, hge i h1] at this; omega
    · rw [hge i h1, hge j h2] at e; omega
  obtain ⟨s1, s2, s3⟩ := patch_spec (ats ρ C.length) (ρ := ρ) (L' := L') (C := C) (by omega) hnd hρ
  refine callFrame h (ats ρ C.length) Z hinj hrow (fun i hi => by rw [hge i (by omega)]; omega) (fun i ⟨q, hq⟩ => hZρ _ (hin i (by rw [← hL]; exact (List.getElem?_eq_some_iff.1 hq).1))) hlen hargs ⟨s1, fun i hi => ?_, fun id q hq => ?_⟩ s1 hZ
  · rw [s2]
    rcases Nat.lt_or_ge i ρ.length with h1 | h1
    · have := hρ _ (hin i h1); omega
    · rw [hge i h1]; omega
  · rcases s3 id _ hq with ⟨h1, h2⟩ | ⟨i, x, h1, h2, h3⟩ | ⟨i, x, h1, h2, h3, h4⟩
    · right
      refine ⟨h1, fun i hi => ?_⟩
      have hid := (List.getElem?_eq_some_iff.1 h1).1
      rcases Nat.lt_or_ge i ρ.length with h3 | h3
      · exact (h2 (hi ▸ hin i h3)).elim
      · rw [hge i h3] at hi; omega
    · obtain ⟨q', rfl, rfl⟩ := Option.map_eq_some_iff.1 h3.symm
      exact .inl ⟨i, q', hat i id h1, h2, rfl⟩
    · obtain ⟨q', rfl, rfl⟩ := Option.map_eq_some_iff.1 h4.symm
      exact .inl ⟨i, q', by rw [hge i h1, h2], h3, rfl⟩
/-- Rows handed on; all else may be lent; what comes is flat. -/
theorem frameOk {g : FuncId} {al args : List AV} {r : AV} (ρ : List Nat) (h : CallOk P g al L r L') (hL : L.length = ρ.length) (hLL : L.length ≤ L'.length) (hnd : nodupB ρ = true) (hρ : ∀ id ∈ ρ, id < C.length)
    (hrow : ∀ (i : Nat) q, L[i]? = some (some q) → C[ats ρ C.length i]? = some (some (q.mapId (ats ρ C.length))))
    (hlen : args.length = al.length) (hargs : ∀ (i : Nat) y, al[i]? = some y → ∃ x, args[i]? = some x ∧ ArgOk C ρ (ats ρ C.length) x y)
    (hf : r.flat = true) (hfl : ∀ q, some q ∈ L' → q.flat = true) : CallOk P g args C (r.mapId (ats ρ C.length)) (patch (ats ρ C.length) ρ L' C) :=
  frameG ρ (fun id => id ∉ ρ) (fun id h1 h2 => h2 h1) h hL hLL hnd hρ hrow hlen (fun i y hy => by
    obtain ⟨x, hx, hxy⟩ := hargs i y hy
    refine ⟨x, hx, fun X σ w v hh hp hr => ?_⟩
    rcases hxy with rfl | ⟨t, d, h1, rfl⟩
    · exact Rep1.unmap hp.le hr
    · -- what is lent: the rows handed on are others' to it
      have hpd : Part σ C (dead ρ C) (fun i => i) (fun _ => False) := ⟨fun _ _ e => e, fun i q hq => .inr (by rw [Row.map_self]; exact ((dead_at ρ C i q).1 hq).1), fun i hi => hh.dom i (by rw [dead_len] at hi; exact hi), fun _ _ h => h⟩
      refine view_rep (σ := σ) (hpd.heap hh) (fun b hb => ?_) h1 (Rep1.mono (w := w) (own := own X σ C) ⟨Nat.le_refl _, fun _ _ _ => rfl, fun b hb => .inl (hpd.le b hb)⟩ (fun _ _ h => h) hr)
      rcases ((hp.owns b).1 hb).2 with hb | ⟨id, q, y, g1, g2, g3⟩
      · exact .inl hb
      · refine .inr ⟨id, q, y, g1, g2, fun i hi ⟨q', hq'⟩ => ?_, fun h => h⟩
        subst hi
        exact ((dead_at ρ C i q').1 hq').2 (Classical.not_not.1 g3)) (.inr ⟨fun i q hq => hfl q (List.mem_of_getElem? hq), hf⟩)
/-- Rows handed on; nothing is lent. -/
theorem frameOk0 {g : FuncId} {al args : List AV} {r : AV} (ρ : List Nat) (h : CallOk P g al L r L') (hL : L.length = ρ.length) (hLL : L.length ≤ L'.length) (hnd : nodupB ρ = true) (hρ : ∀ id ∈ ρ, id < C.length)
    (hrow : ∀ (i : Nat) q, L[i]? = some (some q) → C[ats ρ C.length i]? = some (some (q.mapId (ats ρ C.length))))
    (hlen : args.length = al.length) (hargs : ∀ (i : Nat) y, al[i]? = some y → args[i]? = some (y.map1 (ats ρ C.length))) : CallOk P g args C (r.mapId (ats ρ C.length)) (patch (ats ρ C.length) ρ L' C) :=
  frameG ρ (fun _ => False) (fun _ _ h => h) h hL hLL hnd hρ hrow hlen (fun i y hy => ⟨_, hargs i y hy, fun X σ w v hh hp hr => Rep1.unmap hp.le hr⟩) (.inl fun _ h => h)
end
end Go.Proofs.Ytbdnhoddkdiogaa
