/- AHI, part K: numbers given anew; results; calls out of bodies; what is lent. -/
import Derived.Test.YtbdnhoddkdiogaaAhJ
set_option linter.unusedSimpArgs false
set_option linter.unusedVariables false
namespace Go.Proofs.Ytbdnhoddkdiogaa
open Go.RowKit

/-! ### Numbers given anew -/
def idx (ρ : List Nat) (id : Nat) : Option Nat := go ρ 0
where go : List Nat → Nat → Option Nat
  | [], _ => none
  | x :: l, k => if x = id then some k else go l (k + 1)
theorem idx_go {id : Nat} : ∀ {ρ : List Nat} {k i : Nat}, idx.go id ρ k = some i → k ≤ i ∧ ρ[i - k]? = some id
  | [], k, i, h => by cases h
  | x :: l, k, i, h => by
    simp only [idx.go] at h
    split at h
    · rename_i hx; cases h; exact ⟨Nat.le_refl _, by simp [hx]⟩
    · obtain ⟨h1, h2⟩ := idx_go h
      refine ⟨by omega, ?_⟩
      rw [show i - k = (i - (k + 1)) + 1 by omega, List.getElem?_cons_succ]; exact h2
theorem idx_some {ρ : List Nat} {id i : Nat} (h : idx ρ id = some i) : ρ[i]? = some id := by
  have := (idx_go h).2
  simpa using this
def CV.ren (ρ : List Nat) : CV → Option CV
  | .ptr id i e j => (idx ρ id).map fun n => .ptr n i e j
  | .sl id o len e => (idx ρ id).map fun n => .sl n o len e
  | .fn f ids => (ids.mapM (idx ρ)).map fun l => .fn f l
  | c => some c
def renL (ρ : List Nat) : List CV → Option (List CV)
  | [] => some []
  | c :: l => match c.ren ρ, renL ρ l with | some d, some r => some (d :: r) | _, _ => none
def Row.ren (ρ : List Nat) : Row → Option Row
  | .raw l => (renL ρ l).map .raw
  | .ty t xs => some (.ty t xs)
def AV.ren1 (ρ : List Nat) : AV → Option AV
  | .c x => (x.ren ρ).map .c | .agg r => (r.ren ρ).map .agg | .tup _ => none
def renA (ρ : List Nat) : List AV → Option (List AV)
  | [] => some []
  | c :: l => match c.ren1 ρ, renA ρ l with | some d, some r => some (d :: r) | _, _ => none
def AV.ren (ρ : List Nat) : AV → Option AV
  | .c x => (x.ren ρ).map .c | .agg r => (r.ren ρ).map .agg | .tup l => (renA ρ l).map .tup
def gcH (ρ : List Nat) (H : Hp) : List Nat → Option Hp
  | [] => some []
  | id :: l => match H[id]?, gcH ρ H l with
    | some (some r), some K => (r.ren ρ).map fun r' => some r' :: K
    | some none, some K => some (none :: K)
    | _, _ => none
def gcEnv (ρ : List Nat) : List (Nat × AV) → List (Nat × AV)
  | [] => []
  | (k, a) :: l => match a.ren ρ with | some b => (k, b) :: gcEnv ρ l | none => gcEnv ρ l
/-- The state with the rows of these numbers alone, under the numbers 0, 1, .. -/
def gc (ρ : List Nat) (s : St) : Option St := (gcH ρ s.H ρ).map fun K => ⟨s.n, gcEnv ρ s.env, K⟩
/-- No number twice. -/
def nodupB : List Nat → Bool
  | [] => true | x :: l => !l.contains x && nodupB l
theorem nodupB_spec : ∀ {l : List Nat}, nodupB l = true → ∀ (i j : Nat) x, l[i]? = some x → l[j]? = some x → i = j
  | [], _, i, j, x, h1, h2 => by simp at h1
  | y :: l, h, i, j, x, h1, h2 => by
    simp only [nodupB, Bool.and_eq_true, Bool.not_eq_true', List.contains_eq_mem, decide_eq_false_iff_not] at h
    cases i with
    | zero =>
      cases j with
      | zero => rfl
      | succ j => simp at h1 h2; subst h1; exact (h.1 (List.mem_of_getElem? h2)).elim
    | succ i =>
      cases j with
      | zero => simp at h1 h2; subst h2; exact (h.1 (List.mem_of_getElem? h1)).elim
      | succ j => rw [nodupB_spec h.2 i j x (by simpa using h1) (by simpa using h2)]
def rsg (ρ : List Nat) (σ : Sg) : Sg := fun i => match ρ[i]? with | some id => σ id | none => none
section
variable {P : Program} {X : Nat → Prop} {σ σ' : Sg} {s s' : St} {H H' : Hp} {a : Act} {w w' : World} {B : Nat} {ρ : List Nat}
theorem rsg_at {id i : Nat} (h : idx ρ id = some i) : rsg ρ σ i = σ id := by unfold rsg; rw [idx_some h]
theorem mapM_idx : ∀ {ids l : List Nat}, ids.mapM (idx ρ) = some l → l.length = ids.length ∧ ∀ (k : Nat) i, l[k]? = some i → ∃ id, ids[k]? = some id ∧ idx ρ id = some i
  | [], l, h => by simp at h; subst h; exact ⟨rfl, fun k i hk => by simp at hk⟩
  | x :: ids, l, h => by
    simp only [List.mapM_cons, Option.bind_eq_bind, Option.pure_def] at h
    obtain ⟨y, hy, h⟩ := Option.bind_eq_some_iff.1 h
    obtain ⟨r, hr, h⟩ := Option.bind_eq_some_iff.1 h
    cases h
    obtain ⟨h1, h2⟩ := mapM_idx hr
    refine ⟨by simp [h1], fun k i hk => ?_⟩
    cases k with
    | zero => cases hk; exact ⟨x, rfl, hy⟩
    | succ k => exact h2 k i (by simpa using hk)
theorem ren_rep {o1 o2 : Nat → Prop} (ho : ∀ b, o2 b → o1 b) {c d : CV} {v : Value} (h : c.ren ρ = some d) (hr : Rep w o1 σ c v) : Rep w o2 (rsg ρ σ) d v := by
  have hk : Keeps w o1 w o2 := ⟨Nat.le_refl _, fun _ _ _ => rfl, fun b hb => .inl (ho b hb)⟩
  cases c with
  | v x => cases h; exact hr
  | e0 => cases h; exact hr
  | ptr id i e j =>
    obtain ⟨n, hn, rfl⟩ := Option.map_eq_some_iff.1 h
    obtain ⟨b, base, ext, h1, h2⟩ := hr
    exact ⟨b, base, ext, by rw [rsg_at hn]; exact h1, h2⟩
  | sl id o len e =>
    obtain ⟨n, hn, rfl⟩ := Option.map_eq_some_iff.1 h
    exact hr.imp (fun h => h) fun ⟨b, base, ext, c, h1, h2⟩ => ⟨b, base, ext, c, by rw [rsg_at hn]; exact h1, h2⟩
  | rs t xs => cases h; exact RepSl.mono hk hr
  | rp t xs i j => cases h; exact Rep.mono (σ' := rsg ρ σ) (σ := rsg ρ σ) hk (fun _ _ h => h) (c := .rp t xs i j) hr
  | fn f ids =>
    obtain ⟨l, hl, rfl⟩ := Option.map_eq_some_iff.1 h
    obtain ⟨ps, h1, h2, h3⟩ := hr
    obtain ⟨e1, e2⟩ := mapM_idx hl
    refine ⟨ps, h1, by rw [h2, e1], fun k i hk' => ?_⟩
    obtain ⟨id, hid, hi⟩ := e2 k i hk'
    obtain ⟨b, base, ext, h4, h5⟩ := h3 k id hid
    exact ⟨b, base, ext, by rw [rsg_at hi]; exact h4, h5⟩
theorem renL_rep {o1 o2 : Nat → Prop} (ho : ∀ b, o2 b → o1 b) : ∀ {l l' : List CV} {g : Cells}, renL ρ l = some l' → LRep w o1 σ l g → LRep w o2 (rsg ρ σ) l' g ∧ l'.length = l.length
  | [], l', g, h, hr => by cases h; exact ⟨fun i c hc => by simp at hc, rfl⟩
  | c :: l, l', g, h, hr => by
    simp only [renL] at h
    split at h
    · rename_i d r hd hrr
      cases h
      obtain ⟨h1, h2⟩ := renL_rep ho (g := fun k => g (1 + k)) hrr (fun i c hc => by
        obtain ⟨v, h3, h4⟩ := hr (i + 1) c (by simpa using hc)
        exact ⟨v, by show g (1 + i) = _; rw [Nat.add_comm 1]; exact h3, h4⟩)
      refine ⟨fun i e he => ?_, by simp [h2]⟩
      cases i with
      | zero => cases he; obtain ⟨v, h3, h4⟩ := hr 0 c rfl; exact ⟨v, h3, ren_rep ho hd h4⟩
      | succ i =>
        obtain ⟨v, h3, h4⟩ := h1 i e (by simpa using he)
        have h3' : g (1 + i) = some v := h3
        exact ⟨v, by rw [Nat.add_comm 1] at h3'; exact h3', h4⟩
    · cases h
theorem renRow_rep {o1 o2 : Nat → Prop} (ho : ∀ b, o2 b → o1 b) {r r' : Row} {g : Cells} (h : r.ren ρ = some r') (hr : RowRep w o1 σ r g) : RowRep w o2 (rsg ρ σ) r' g ∧ r'.size = r.size := by
  cases r with
  | raw l =>
    obtain ⟨l', hl, rfl⟩ := Option.map_eq_some_iff.1 h
    exact renL_rep ho hl hr
  | ty t xs => cases h; exact ⟨fun i x hx => RepD.mono ⟨Nat.le_refl _, fun _ _ _ => rfl, fun b hb => .inl (ho b hb)⟩ (fun _ _ h => h) (hr i x hx), rfl⟩
theorem ren1_rep {o1 o2 : Nat → Prop} (ho : ∀ b, o2 b → o1 b) {x y : AV} {v : Value} (h : x.ren1 ρ = some y) (hr : Rep1 w o1 σ x v) : Rep1 w o2 (rsg ρ σ) y v := by
  cases x with
  | c c => obtain ⟨d, hd, rfl⟩ := Option.map_eq_some_iff.1 h; exact ren_rep ho hd hr
  | agg r =>
    obtain ⟨r', hr', rfl⟩ := Option.map_eq_some_iff.1 h
    obtain ⟨vs, h1, h2, h3⟩ := hr
    obtain ⟨h4, h5⟩ := renRow_rep ho hr' h3
    exact ⟨vs, h1, h2.trans h5.symm, h4⟩
  | tup l => cases h
theorem renA_rep {o1 o2 : Nat → Prop} (ho : ∀ b, o2 b → o1 b) : ∀ {l l' : List AV} {vs : List Value}, renA ρ l = some l' → (∀ (i : Nat) x, l[i]? = some x → ∃ v, vs[i]? = some v ∧ Rep1 w o1 σ x v) → l'.length = l.length ∧ ∀ (i : Nat) x, l'[i]? = some x → ∃ v, vs[i]? = some v ∧ Rep1 w o2 (rsg ρ σ) x v
  | [], l', vs, h, hr => by cases h; exact ⟨rfl, fun i c hc => by simp at hc⟩
  | c :: l, l', vs, h, hr => by
    simp only [renA] at h
    split at h
    · rename_i d r hd hrr
      cases h
      obtain ⟨h1, h2⟩ := renA_rep ho (vs := vs.drop 1) hrr (fun i x hx => by
        obtain ⟨v, h3, h4⟩ := hr (i + 1) x (by simpa using hx)
        exact ⟨v, by rw [List.getElem?_drop, Nat.add_comm]; exact h3, h4⟩)
      refine ⟨by simp [h1], fun i e he => ?_⟩
      cases i with
      | zero => cases he; obtain ⟨v, h3, h4⟩ := hr 0 c rfl; exact ⟨v, h3, ren1_rep ho hd h4⟩
      | succ i =>
        obtain ⟨v, h3, h4⟩ := h2 i e (by simpa using he)
        exact ⟨v, by rw [List.getElem?_drop, Nat.add_comm] at h3; exact h3, h4⟩
    · cases h
theorem renAV_rep {o1 o2 : Nat → Prop} (ho : ∀ b, o2 b → o1 b) {x y : AV} {v : Value} (h : x.ren ρ = some y) (hr : RepA w o1 σ x v) : RepA w o2 (rsg ρ σ) y v := by
  cases x with
  | c c => exact Rep1.toA (ren1_rep ho (x := .c c) (y := y) h hr)
  | agg r => exact Rep1.toA (ren1_rep ho (x := .agg r) (y := y) h hr)
  | tup l =>
    obtain ⟨l', hl, rfl⟩ := Option.map_eq_some_iff.1 h
    obtain ⟨vs, h1, h2, h3⟩ := hr
    obtain ⟨h4, h5⟩ := renA_rep ho hl h3
    exact ⟨vs, h1, h2.trans h4.symm, h5⟩
theorem gcH_spec : ∀ {l : List Nat} {K : Hp}, gcH ρ H l = some K → K.length = l.length ∧ ∀ (i : Nat) r', K[i]? = some (some r') → ∃ id r, l[i]? = some id ∧ H[id]? = some (some r) ∧ r.ren ρ = some r'
  | [], K, h => by cases h; exact ⟨rfl, fun i c hc => by simp at hc⟩
  | id :: l, K, h => by
    simp only [gcH] at h
    split at h
    · rename_i r K' hr hK
      obtain ⟨r', hr', rfl⟩ := Option.map_eq_some_iff.1 h
      obtain ⟨h1, h2⟩ := gcH_spec hK
      refine ⟨by simp [h1], fun i q hq => ?_⟩
      cases i with
      | zero => cases hq; exact ⟨id, r, rfl, hr, hr'⟩
      | succ i => exact h2 i q (by simpa using hq)
    · rename_i K' hr hK
      cases h
      obtain ⟨h1, h2⟩ := gcH_spec hK
      refine ⟨by simp [h1], fun i q hq => ?_⟩
      cases i with
      | zero => cases hq
      | succ i => exact h2 i q (by simpa using hq)
    · cases h
theorem gc_heap (hh : HeapRep X σ H w) {K : Hp} (hg : gcH ρ H ρ = some K) (hn : nodupB ρ = true) : HeapRep X (rsg ρ σ) K w ∧ ∀ b, own X (rsg ρ σ) K b → own X σ H b := by
  obtain ⟨h1, h2⟩ := gcH_spec hg
  have ho : ∀ b, ownB (rsg ρ σ) K b → ownB σ H b := fun b ⟨i, r', x, h3, h4⟩ => by
    obtain ⟨id, r, h5, h6, -⟩ := h2 i r' h3
    unfold rsg at h4
    rw [h5] at h4
    exact ⟨id, r, x, h6, h4⟩
  have ho' : ∀ b, own X (rsg ρ σ) K b → own X σ H b := fun b hb => hb.imp (ho b) (fun h => h)
  refine ⟨⟨fun i hi => ?_, fun i r' hr' => ?_, hh.xlt, fun b hb hob => hh.xdis b hb (ho b hob), fun i i' r1 r2 b x x' g1 g2 g3 g4 => ?_⟩, ho'⟩
  · unfold rsg
    rw [List.getElem?_eq_none (by omega)]
  · obtain ⟨id, r, h5, h6, h7⟩ := h2 i r' hr'
    have hσ : rsg ρ σ i = σ id := by unfold rsg; rw [h5]
    rcases hh.row id r h6 with h8 | ⟨b, base, ext, h8, h9, h10, h11, h12⟩
    · exact .inl (hσ.trans h8)
    · obtain ⟨h13, h14⟩ := renRow_rep ho' h7 h12
      exact .inr ⟨b, base, ext, hσ.trans h8, h9, by rw [h14]; exact h10, h11, h13⟩
  · obtain ⟨id, r, h5, h6, -⟩ := h2 i r1 g1
    obtain ⟨id', r', h5', h6', -⟩ := h2 i' r2 g2
    unfold rsg at g3 g4
    rw [h5] at g3
    rw [h5'] at g4
    have := hh.inj id id' r r' b x x' h6 h6' g3 g4
    subst this
    exact nodupB_spec hn i i' id h5 h5'
theorem look_gc (t : Nat) : ∀ (l : List (Nat × AV)) (y : AV), (∀ (k : Nat), k = k) → look (gcEnv ρ l) t = some y → (∃ x, look l t = some x ∧ x.ren ρ = some y) ∨ True
  | _, _, _, _ => .inr trivial
/-- Each slot once. -/
def onceB : List (Nat × AV) → Bool
  | [] => true | (k, _) :: l => !(l.any fun p => p.1 == k) && onceB l
theorem look_none_of {t : Nat} : ∀ {l : List (Nat × AV)}, (l.any fun p => p.1 == t) = false → look (gcEnv ρ l) t = none
  | [], _ => rfl
  | (k, a) :: l, h => by
    simp only [List.any_cons, Bool.or_eq_false_iff, beq_eq_false_iff_ne, ne_eq] at h
    simp only [gcEnv]
    split
    · simp only [look]; rw [if_neg h.1]; exact look_none_of h.2
    · exact look_none_of h.2
theorem look_gcEnv {t : Nat} {y : AV} : ∀ {l : List (Nat × AV)}, onceB l = true → look (gcEnv ρ l) t = some y → ∃ x, look l t = some x ∧ x.ren ρ = some y
  | [], _, h => by cases h
  | (k, a) :: l, ho, h => by
    simp only [onceB, Bool.and_eq_true, Bool.not_eq_true'] at ho
    simp only [gcEnv] at h
    split at h
    · rename_i b hb
      simp only [look] at h ⊢
      split at h
      · rename_i hk; cases h; rw [if_pos hk]; exact ⟨a, rfl, hb⟩
      · rename_i hk; rw [if_neg hk]; exact look_gcEnv ho.2 h
    · simp only [look]
      split
      · rename_i hk
        subst hk
        rw [look_none_of ho.1] at h; cases h
      · exact look_gcEnv ho.2 h
/-- The first numbers stay. -/
def firstB : Nat → List Nat → Bool
  | 0, _ => true
  | n + 1, ρ => firstB n ρ && (ρ[n]? == some n)
theorem firstB_spec : ∀ {n : Nat}, firstB n ρ = true → ∀ i, i < n → ρ[i]? = some i
  | 0, _, i, hi => by omega
  | n + 1, h, i, hi => by
    simp only [firstB, Bool.and_eq_true, beq_iff_eq] at h
    by_cases hin : i = n
    · subst hin; exact h.2
    · exact firstB_spec h.1 i (by omega)
theorem Ghost.gc (hg : gc ρ s = some s') (hn : nodupB ρ = true) (h1 : onceB s.env = true) (hB : firstB B ρ = true) : Ghost B s s' := fun X σ a w hs => by
  obtain ⟨K, hK, rfl⟩ := Option.map_eq_some_iff.1 hg
  obtain ⟨g1, g2⟩ := gc_heap hs.heap hK hn
  refine ⟨rsg ρ σ, ⟨hs.size, hs.defers, fun t y ht hy => ?_, g1⟩, rfl, rfl, rfl, ⟨Nat.le_refl _, fun _ _ _ => rfl, fun b hb => ?_⟩, fun id hid x hx => ?_, fun hBl => ⟨?_, fun id hid => ?_⟩⟩
  · obtain ⟨x, hx, hr⟩ := look_gcEnv h1 hy
    obtain ⟨v, h3, h4⟩ := hs.env t x trivial hx
    exact ⟨v, h3, renAV_rep g2 hr h4⟩
  · left
    obtain ⟨i, r', x, h3, h4⟩ := hb
    obtain ⟨id, r, h5, h6, -⟩ := (gcH_spec hK).2 i r' h3
    unfold rsg at h4
    rw [h5] at h4
    exact ⟨id, r, x, h6, h4⟩
  · unfold rsg; rw [firstB_spec hB id hid]; exact hx
  · rw [(gcH_spec hK).1]
    rcases Nat.lt_or_ge ρ.length B with h' | h'
    · have := firstB_spec hB ρ.length h'
      simp at this
    · exact h'
  · unfold rsg; rw [firstB_spec hB id hid]
/-- Nil stands for a slice of nothing. -/
theorem Ghost.nil (t e : Nat) (k : Ty) (h : (look s.env t).any (fun a => match a with | .c (.v (.slice none 0 0)) => true | .c .e0 => true | _ => false) = true) (hB : B ≤ s.H.length) :
    Ghost B s ⟨s.n, lay s.env t (.c (.sl s.H.length 0 0 e)), s.H ++ [some (.ty k [])]⟩ := fun X σ a w hs => by
  obtain ⟨h1, h2⟩ := hs.heap.nowhere (.ty k [])
  refine ⟨σ, ⟨hs.size, hs.defers, fun u y hu hy => ?_, h1⟩, h2.toB⟩
  simp only [look_lay] at hy
  split at hy
  · rename_i hut
    subst hut
    cases hy
    cases hl : look s.env u with
    | none => rw [hl] at h; simp at h
    | some x =>
      obtain ⟨v, h3, h4⟩ := hs.env u x trivial hl
      refine ⟨v, h3, .inl ⟨rfl, ?_⟩⟩
      rw [hl] at h
      simp only [Option.any_some] at h
      split at h
      · obtain ⟨rfl, -⟩ := h4; exact ⟨_, rfl⟩
      · exact h4
      · cases h
  · obtain ⟨v, h3, h4⟩ := hs.env u y hu hy
    exact ⟨v, h3, h4.step h2⟩
/-- A row is typed. -/
theorem Ghost.typed (id : Nat) (k : Ty) {r : Row} {xs : List k.D} (hr : hrow s.H id = some r) (hx : r.as k = some xs) : Ghost B s ⟨s.n, s.env, s.H.set id (some (.ty k xs))⟩ := fun X σ a w hs => by
  have hid := hrow_some hr
  have hil := (List.getElem?_eq_some_iff.1 hid).1
  have ho : ∀ c, ownB σ (s.H.set id (some (.ty k xs))) c ↔ ownB σ s.H c := fun c => by
    constructor
    · rintro ⟨n, q, x, h1, h2⟩
      rcases set_cases h1 with ⟨rfl, h1, -⟩ | ⟨hk, h1⟩
      · exact ⟨n, r, x, hid, h2⟩
      · exact ⟨n, q, x, h1, h2⟩
    · rintro ⟨n, q, x, h1, h2⟩
      by_cases hk : id = n
      · subst hk; exact ⟨id, _, x, List.getElem?_set_self hil, h2⟩
      · exact ⟨n, q, x, by rw [List.getElem?_set_ne hk]; exact h1, h2⟩
  have hk : Keeps w (ownB σ s.H) w (ownB σ (s.H.set id (some (.ty k xs)))) := ⟨Nat.le_refl _, fun _ _ _ => rfl, fun b hb => .inl ((ho b).1 hb)⟩
  have hst : Step σ s.H w σ (s.H.set id (some (.ty k xs))) w := ⟨rfl, rfl, rfl, hk, fun _ _ h => h, by simp, fun _ _ => rfl⟩
  refine ⟨σ, ⟨hs.size, hs.defers, fun t y ht hy => ?_, ?_⟩, hst.toB⟩
  · obtain ⟨v, h1, h2⟩ := hs.env t y ht hy
    exact ⟨v, h1, h2.step hst⟩
  · refine hs.heap.next hk (fun _ _ h => h) (fun n hn => hs.heap.dom n (by simpa using hn)) (fun n q hq => ?_) (fun n n' q q' c x x' h1 h2 h3 h4 => ?_)
    · rcases set_cases hq with ⟨rfl, h1, -⟩ | ⟨hne, h1⟩
      · cases h1
        rcases hs.heap.row n r hid with h5 | ⟨b, base, ext, h5, h6, h7, h8, h9⟩
        · exact .inr (.inl h5)
        · obtain ⟨g1, g2⟩ := as_rep h9 hx
          refine .inr (.inr ⟨b, base, ext, h5, h6, ?_, h8, fun i x hi => ?_⟩)
          · show base + xs.length * k.sz ≤ ext
            rw [← g2]; exact h7
          · exact RepD.mono (keepsX hk) (fun _ _ h => h) (g1 i x hi)
      · exact .inl ⟨h1, fun h => h, fun _ _ _ => rfl⟩
    · rcases set_cases h1 with ⟨rfl, g1, -⟩ | ⟨hne, g1⟩ <;> rcases set_cases h2 with ⟨e2, g2, -⟩ | ⟨hne', g2⟩
      · exact e2.symm
      · exact hs.heap.inj n n' r q' c x x' hid g2 h3 h4
      · subst e2; exact hs.heap.inj n n' q r c x x' g1 hid h3 h4
      · exact hs.heap.inj n n' q q' c x x' g1 g2 h3 h4
/-- A slice of the call's own goes on under a new number. -/
theorem Ghost.move (t : Nat) {id o len e : Nat} {r r' : Row} (hl : look s.env t = some (.c (.sl id o len e))) (hr : hrow s.H id = some r) (hp : r.part o len e = some r') (hB : B ≤ s.H.length) :
    Ghost B s ⟨s.n, lay s.env t (.c (.sl s.H.length 0 len e)), s.H.set id none ++ [some r']⟩ := fun X σ a w hs => by
  obtain ⟨v, hv, hx⟩ := hs.env t _ trivial hl
  have fin : ∀ (σ' : Sg), HeapRep X σ' (s.H.set id none ++ [some r']) w → Step σ s.H w σ' (s.H.set id none ++ [some r']) w → RepA w (own X σ' (s.H.set id none ++ [some r'])) σ' (.c (.sl s.H.length 0 len e)) v →
      ∃ σ', StRep X σ' ⟨s.n, lay s.env t (.c (.sl s.H.length 0 len e)), s.H.set id none ++ [some r']⟩ a w ∧ StepB B σ s.H w σ' (s.H.set id none ++ [some r']) w := fun σ' h1 h2 h3 => by
    refine ⟨σ', ⟨hs.size, hs.defers, fun u y hu hy => ?_, h1⟩, h2.toB⟩
    simp only [look_lay] at hy
    split at hy
    · rename_i hut; subst hut; cases hy; exact ⟨v, hv, h3⟩
    · obtain ⟨v', h4, h5⟩ := hs.env u y hu hy; exact ⟨v', h4, h5.step h2⟩
  rcases hx with ⟨rfl, ad, rfl⟩ | ⟨b, base, ext, c, hs', rfl, hlc, hcm, hext⟩
  · obtain ⟨h1, h2⟩ := hs.heap.kill id
    obtain ⟨h3, h4⟩ := h1.nowhere r'
    exact fin σ h3 (h2.trans h4) (.inl ⟨rfl, ad, rfl⟩)
  · rcases hs.heap.row id r (hrow_some hr) with h0 | ⟨b', base', ext', h5, h6, h7, h8, h9⟩
    · rw [h0] at hs'; cases hs'
    · rw [hs'] at h5; cases h5
      obtain ⟨p1, p2, p3⟩ := part_rep h9 hp
      have hle : (o + len) * e ≤ (o + c) * e := Nat.mul_le_mul_right _ (by omega)
      rw [Nat.add_mul] at hle
      obtain ⟨h10, h11⟩ := hs.heap.rename (base' := base + o * e) (hrow_some hr) hs' (by rw [p2]; omega) (RowRep.only (fun k v _ hv => by rw [Nat.add_assoc]; exact hv) p1)
      refine fin _ h10 h11 (.inr ⟨b, base + o * e, ext, c, upd_same _ _ _, by simp, hlc, hcm, ?_⟩)
      rw [Nat.zero_add]; rw [Nat.add_mul] at hext; omega
/-! ### Results, bodies -/
def aresult (P : Program) (s : St) : List ResultVar → Option (List AV)
  | [] => some []
  | .tmp t :: l => match ev1 s (.tmp t), aresult P s l with | some x, some r => some (x :: r) | _, _ => none
  | .cell t ty :: l => match look s.env t, aresult P s l with
    | some p, some r => (match aload P s.H ty p with | some (.tup _) => none | some x => some (x :: r) | none => none)
    | _, _ => none
def tupled : List AV → AV
  | [x] => x | l => .tup l
theorem RepA.to1 {ow : Nat → Prop} {x : AV} {v : Value} (hx : ∀ l, x ≠ .tup l) (h : RepA w ow σ x v) : Rep1 w ow σ x v := by
  cases x with
  | c c => exact h
  | agg r => exact h
  | tup l => exact (hx l rfl).elim
/-- A result's value. -/
def resVar (tmps : Array Value) : ResultVar → Sem Value
  | .tmp t => pure (tmps.getD t undef)
  | .cell c t => do loadVar t (← asAddr (tmps.getD c undef))
theorem aresult_rep (hs : StRep X σ s a w) : ∀ {l : List ResultVar} {xs : List AV}, aresult P s l = some xs → ∃ vs : List Value, (l.mapM (resVar a.tmps)).run P w = .ok vs w ∧ vs.length = xs.length ∧ ∀ (i : Nat) x, xs[i]? = some x → ∃ v, vs[i]? = some v ∧ Rep1 w (own X σ s.H) σ x v
  | [], xs, h => by cases h; exact ⟨[], by simp, rfl, fun i x hx => by simp at hx⟩
  | .tmp t :: l, xs, h => by
    simp only [aresult] at h
    split at h
    · rename_i x r hx hr
      cases h
      obtain ⟨vs, h1, h2, h3⟩ := aresult_rep hs hr
      refine ⟨a.tmps.getD t undef :: vs, by simp [List.mapM_cons, Sem.run_bind, h1, resVar], by simp [h2], fun i y hy => ?_⟩
      cases i with
      | zero => cases hy; exact ⟨_, rfl, ev1_rep hs.env (fun _ _ => trivial) hx⟩
      | succ i => exact h3 i y (by simpa using hy)
    · cases h
  | .cell t ty :: l, xs, h => by
    simp only [aresult] at h
    split at h
    · rename_i p r hp hr
      split at h
      · cases h
      · rename_i x hnt hx
        cases h
        obtain ⟨vs, h1, h2, h3⟩ := aresult_rep hs hr
        obtain ⟨u, hu, hur⟩ := hs.env t p trivial hp
        have hev : a.tmps.getD t undef = u := by simp [Array.getD_eq_getD_getElem?, hu]
        obtain ⟨v, h4, h5⟩ := s_load hs.heap hx hur
        have hptr : ∃ ad, u = .pointer (some ad) := by
          unfold aload at hx
          split at hx
          · obtain ⟨b, base, ext, -, rfl⟩ := hur; exact ⟨_, rfl⟩
          · obtain ⟨b, off, rfl, -⟩ := hur; exact ⟨_, rfl⟩
          · cases hx
        obtain ⟨ad, rfl⟩ := hptr
        have h4' : (loadVar ty ad).run P w = .ok v w := by
          simpa [Instr.loadAt, Instr.sureAddr, Sem.run_bind] using h4
        refine ⟨v :: vs, by simp [List.mapM_cons, Sem.run_bind, h1, hev, asAddr, h4', resVar], by simp [h2], fun i y hy => ?_⟩
        cases i with
        | zero => cases hy; exact ⟨_, rfl, h5.to1 (fun l e => hnt l e)⟩
        | succ i => exact h3 i y (by simpa using hy)
      · cases h
    · cases h
theorem results_run (hs : StRep X σ s a w) {fn : Func} {xs : List AV} (h : aresult P s fn.results.toList = some xs) : ∃ v, (results fn a.tmps).run P w = .ok v w ∧ RepA w (own X σ s.H) σ (tupled xs) v := by
  obtain ⟨vs, h1, h2, h3⟩ := aresult_rep hs h
  have hm : (fn.results.mapM (resVar a.tmps)).run P w = .ok vs.toArray w := by
    rw [Array.mapM_eq_mapM_toList]
    simp [h1]
  refine ⟨if h : vs.toArray.size = 1 then vs.toArray[0] else .tuple vs.toArray, ?_, ?_⟩
  · have hr : results fn a.tmps = (do let vs ← fn.results.mapM (resVar a.tmps); pure (if h : vs.size = 1 then vs[0] else .tuple vs)) := by
      unfold results
      congr 2
    rw [hr, Sem.run_bind, hm]
    rfl
  · match xs, vs, h2 with
    | [x], [v], _ =>
      obtain ⟨u, e, hr⟩ := h3 0 x rfl
      cases e
      exact hr.toA
    | [], [], _ => exact ⟨[], rfl, rfl, h3⟩
    | x :: y :: l, v :: u :: vs, h2 =>
      simp only [tupled]
      rw [dif_neg (by simp)]
      exact ⟨v :: u :: vs, rfl, h2, h3⟩
def params : Nat → List AV → List (Nat × AV)
  | _, [] => []
  | k, x :: l => (k, x) :: params (k + 1) l
theorem look_params : ∀ {l : List AV} {k t : Nat} {x : AV}, look (params k l) t = some x → k ≤ t ∧ l[t - k]? = some x
  | [], k, t, x, h => by cases h
  | y :: l, k, t, x, h => by
    simp only [params, look] at h
    split at h
    · rename_i hk; cases h; subst hk; exact ⟨Nat.le_refl _, by simp⟩
    · obtain ⟨h1, h2⟩ := look_params h
      refine ⟨by omega, ?_⟩
      rw [show t - k = (t - (k + 1)) + 1 by omega, List.getElem?_cons_succ]; exact h2
/-- What a body ends with: the result, and the rows that are kept. -/
def Ends (P : Program) (fn : Func) (ρ : List Nat) (r : AV) (H' : Hp) (e : Exit) (s : St) : Prop :=
  (e = .normal ∨ e = .ret) ∧ ∃ xs, aresult P s fn.results.toList = some xs ∧ (tupled xs).ren ρ = some r ∧ gcH ρ s.H ρ = some H'
theorem callOk {g : FuncId} {fn : Func} {c : Code} {args : List AV} {r : AV} (hf : P.funcs[g]? = some fn) (hb : fn.body = some c) (hc : callable P g = true) (hlen : args.length ≤ fn.ntmps) (ρ : List Nat) (hn : nodupB ρ = true) (hB : firstB H.length ρ = true) (hl : H.length ≤ ρ.length)
    (h : AWP P H.length c (Ends P fn ρ r H') ⟨fn.ntmps, params 0 args, H⟩) : CallOk P g args H r H' := by
  refine ⟨hc, fun X σ w vs hh hvl hv => ?_⟩
  refine calls_of_wp hf hb ?_
  have hs : StRep X σ ⟨fn.ntmps, params 0 args, H⟩ { tmps := vs.toArray ++ Array.replicate (fn.ntmps - vs.toArray.size) undef, defers := [] } w := by
    refine ⟨by simp; omega, rfl, fun t x _ hx => ?_, hh⟩
    obtain ⟨-, h1⟩ := look_params hx
    rw [Nat.sub_zero] at h1
    obtain ⟨v, h2, h3⟩ := hv t x h1
    refine ⟨v, ?_, h3.toA⟩
    rw [Array.getElem?_append_left (by simp; exact (List.getElem?_eq_some_iff.1 h2).1)]
    simpa using h2
  refine Code.wp_mono (fun e a' w' ⟨σ', s', ⟨he, xs, h1, h2, h3⟩, hs', hst⟩ => ?_) (h X σ _ w hs)
  obtain ⟨v, hr, hx⟩ := results_run hs' h1
  obtain ⟨g1, g2⟩ := gc_heap hs'.heap h3 hn
  have hp : ∃ v', Ending.returned v = .returned v' ∧ Post X σ H w r H' v' w' := by
    refine ⟨v, rfl, rsg ρ σ', renAV_rep g2 h2 hx, g1, hst.os, hst.tape, hst.output, ⟨hst.keeps.size, hst.keeps.block, fun b hb => ?_⟩, fun id x hx => ?_, ?_, fun id hid => ?_⟩
    · obtain ⟨i, q, x, h4, h5⟩ := hb
      obtain ⟨id, q', h6, h7, -⟩ := (gcH_spec h3).2 i q h4
      unfold rsg at h5
      rw [h6] at h5
      exact hst.keeps.own b ⟨id, q', x, h7, h5⟩
    · have hid := hh.lt hx
      unfold rsg
      rw [firstB_spec hB id hid]
      exact hst.ext id hid x hx
    · rw [(gcH_spec h3).1]; exact hl
    · unfold rsg
      rw [firstB_spec hB id hid]
      exact (hst.same (Nat.le_refl _)).2 id hid
  rcases he with rfl | rfl
  · exact ⟨hs'.defers, v, hr, hp⟩
  · exact ⟨hs'.defers, v, hr, hp⟩
end
end Go.Proofs.Ytbdnhoddkdiogaa
