/- AHI, part O: a region that draws its order. Each operation is run on the rows that it needs; what is written is ordered with what is read. -/
import Derived.Test.YtbdnhoddkdiogaaAhN
import Derived.Orders
set_option linter.unusedSimpArgs false
set_option linter.unusedVariables false
namespace Go.Proofs.Ytbdnhoddkdiogaa
open Go.RowKit

/-- An operation's plan: the rows that it needs; whether it leaves them; how many it makes. -/
structure Pl where
  m : List Nat
  q : Bool
  n : Nat
def CV.under (n : Nat) : CV → Bool
  | .ptr id _ _ _ => decide (id < n) | .sl id _ _ _ => decide (id < n) | .fn _ ids => ids.all fun id => decide (id < n) | _ => true
def Row.under (n : Nat) : Row → Bool
  | .raw l => l.all (CV.under n) | .ty _ _ => true
def AV.under1 (n : Nat) : AV → Bool
  | .c x => x.under n | .agg r => r.under n | .tup _ => true
def AV.under (n : Nat) : AV → Bool
  | .c x => x.under n | .agg r => r.under n | .tup l => l.all (AV.under1 n)
def underH (n : Nat) : Hp → Bool
  | [] => true | some r :: l => r.under n && underH n l | none :: l => underH n l
def underE (n : Nat) : List (Nat × AV) → Bool
  | [] => true | (_, x) :: l => x.under n && underE n l
def maskH (M : List Nat) : Nat → Hp → Hp
  | _, [] => []
  | k, x :: l => (if M.contains k then x else none) :: maskH M (k + 1) l
def mergeH (M : List Nat) : Nat → Hp → Hp → Hp
  | _, [], ys => ys
  | k, x :: l, y :: ys => (if M.contains k then y else x) :: mergeH M (k + 1) l ys
  | _, x :: l, [] => x :: l
def Pl.w (p : Pl) : List Nat := if p.q then [] else p.m
/-- One operation. -/
def astep (P : Program) (Γ : Gam) (ops : List Oper) (o : Oper) (p : Pl) (s s' : St) : Prop :=
  (aguard ops s o = some true ∧ ∃ x H', aop P Γ ⟨s.n, s.env, maskH p.m 0 s.H⟩ o.op = some (x, H') ∧ (p.q = true → H'.take s.H.length = maskH p.m 0 s.H) ∧ H'.length = s.H.length + p.n ∧
    x.under H'.length = true ∧ underH H'.length H' = true ∧ put s o.dst x (mergeH p.w 0 s.H H') = some s') ∨
  (aguard ops s o = some false ∧ p.n = 0 ∧ put s o.dst (.tup []) s.H = some s')
/-- The operations one behind the other. -/
def arun (P : Program) (Γ : Gam) (ops : List Oper) : List Oper → List Pl → St → (St → Prop) → Prop
  | [], [], s, Q => Q s
  | o :: l, p :: pl, s, Q => match aguard ops s o with
    | some true => (match aop P Γ ⟨s.n, s.env, maskH p.m 0 s.H⟩ o.op with
      | some (x, H') => (p.q = true → H'.take s.H.length = maskH p.m 0 s.H) ∧ H'.length = s.H.length + p.n ∧ x.under H'.length = true ∧ underH H'.length H' = true ∧
        (match put s o.dst x (mergeH p.w 0 s.H H') with | some s' => arun P Γ ops l pl s' Q | none => False)
      | none => False)
    | some false => p.n = 0 ∧ (match put s o.dst (.tup []) s.H with | some s' => arun P Γ ops l pl s' Q | none => False)
    | none => False
  | _, _, _, _ => False
/-- What is to be known of an operation ahead. -/
structure Inf where
  rd : List Nat
  d : Option Nat
  m : List Nat
  q : Bool
  lo : Nat
  hi : Nat
  dir : List Nat
  anc : List Nat
def direct (o : Oper) : List Nat := (o.after.toList.filter (Region.binds .any)).map (·.on)
def infs (ops : Array Oper) : Nat → List (List Nat) → List Oper → List Pl → List Inf
  | lo, A, o :: l, p :: pl => ⟨o.looksAt ops, o.dst, p.m, p.q, lo, lo + p.n, direct o, direct o ++ (direct o).flatMap fun k => A.getD k []⟩ ::
    infs ops (lo + p.n) (A ++ [direct o ++ (direct o).flatMap fun k => A.getD k []]) l pl
  | _, _, _, _ => []
def Inf.confl (x y : Inf) : Bool :=
  (match x.d with | some t => y.rd.contains t || y.d == some t | none => false) || (!x.q && x.m.any fun id => y.m.contains id) || y.m.any fun id => decide (x.lo ≤ id) && decide (id < x.hi)
def pairsOk (l : List Inf) : Bool :=
  (List.range l.length).all fun i => match l[i]? with
    | none => false
    | some x => x.dir.all (fun k => decide (k < i)) && x.anc.all (fun a => x.dir.contains a || x.dir.any fun k => match l[k]? with | some y => y.anc.contains a | none => false) && x.m.all (fun id => decide (id < x.lo)) &&
      (List.range i).all fun k => match l[k]? with
        | none => false
        | some y => x.anc.contains k || (!x.confl y && !y.confl x)
def drawnOk (ops : Array Oper) (pl : List Pl) (lo : Nat) : Bool := decide (ops.size = pl.length) && pairsOk (infs ops lo [] ops.toList pl)

section
variable {P : Program} {Γ : Gam} {X : Nat → Prop} {σ σ' τ : Sg} {s s' : St} {H H' C C' L L' : Hp} {a : Act} {w w' : World} {B : Nat}
theorem CV.under_map {n : Nat} {f : Nat → Nat} (hf : ∀ i, i < n → f i = i) {c : CV} (h : c.under n = true) : c.mapId f = c := by
  cases c with
  | ptr id i e j => simp only [CV.under, decide_eq_true_eq] at h; simp [CV.mapId, hf id h]
  | sl id i e j => simp only [CV.under, decide_eq_true_eq] at h; simp [CV.mapId, hf id h]
  | fn g ids =>
    simp only [CV.under, List.all_eq_true, decide_eq_true_eq] at h
    simp only [CV.mapId, CV.fn.injEq, true_and]
    exact (List.map_congr_left fun i hi => hf i (h i hi)).trans (List.map_id _)
  | _ => rfl
theorem Row.under_map {n : Nat} {f : Nat → Nat} (hf : ∀ i, i < n → f i = i) {r : Row} (h : r.under n = true) : r.mapId f = r := by
  cases r with
  | raw l =>
    simp only [Row.under, List.all_eq_true] at h
    simp only [Row.mapId, Row.raw.injEq]
    exact (List.map_congr_left fun c hc => CV.under_map hf (h c hc)).trans (List.map_id _)
  | ty t xs => rfl
theorem AV.under1_map {n : Nat} {f : Nat → Nat} (hf : ∀ i, i < n → f i = i) {x : AV} (h : x.under1 n = true) : x.map1 f = x := by
  cases x with
  | c c => simp only [AV.under1] at h; simp [AV.map1, CV.under_map hf h]
  | agg r => simp only [AV.under1] at h; simp [AV.map1, Row.under_map hf h]
  | tup l => rfl
theorem AV.under_map {n : Nat} {f : Nat → Nat} (hf : ∀ i, i < n → f i = i) {x : AV} (h : x.under n = true) : x.mapId f = x := by
  cases x with
  | c c => simp only [AV.under] at h; simp [AV.mapId, CV.under_map hf h]
  | agg r => simp only [AV.under] at h; simp [AV.mapId, Row.under_map hf h]
  | tup l =>
    simp only [AV.under, List.all_eq_true] at h
    simp only [AV.mapId, AV.tup.injEq]
    exact (List.map_congr_left fun c hc => AV.under1_map hf (h c hc)).trans (List.map_id _)
theorem CV.under_mono {n m : Nat} (hn : n ≤ m) {c : CV} (h : c.under n = true) : c.under m = true := by
  cases c with
  | ptr id i e j => simp only [CV.under, decide_eq_true_eq] at h ⊢; omega
  | sl id i e j => simp only [CV.under, decide_eq_true_eq] at h ⊢; omega
  | fn g ids => simp only [CV.under, List.all_eq_true, decide_eq_true_eq] at h ⊢; exact fun i hi => Nat.lt_of_lt_of_le (h i hi) hn
  | _ => rfl
theorem Row.under_mono {n m : Nat} (hn : n ≤ m) {r : Row} (h : r.under n = true) : r.under m = true := by
  cases r with
  | raw l => simp only [Row.under, List.all_eq_true] at h ⊢; exact fun c hc => CV.under_mono hn (h c hc)
  | ty t xs => rfl
theorem AV.under_mono {n m : Nat} (hn : n ≤ m) {x : AV} (h : x.under n = true) : x.under m = true := by
  cases x with
  | c c => exact CV.under_mono hn h
  | agg r => exact Row.under_mono hn h
  | tup l =>
    simp only [AV.under, List.all_eq_true] at h ⊢
    refine fun c hc => ?_
    have := h c hc
    cases c with
    | c c => exact CV.under_mono hn this
    | agg r => exact Row.under_mono hn this
    | tup l => rfl
theorem underH_at {n : Nat} : ∀ {H : Hp}, underH n H = true → ∀ (i : Nat) r, H[i]? = some (some r) → r.under n = true
  | [], _, i, r, hr => by simp at hr
  | some q :: l, h, i, r, hr => by
    simp only [underH, Bool.and_eq_true] at h
    cases i with
    | zero => simp at hr; subst hr; exact h.1
    | succ i => exact underH_at h.2 i r (by simpa using hr)
  | none :: l, h, i, r, hr => by
    simp only [underH] at h
    cases i with
    | zero => simp at hr
    | succ i => exact underH_at h i r (by simpa using hr)
theorem underE_at {n : Nat} : ∀ {l : List (Nat × AV)}, underE n l = true → ∀ t x, look l t = some x → x.under n = true
  | [], _, t, x, h => by cases h
  | (k, y) :: l, hb, t, x, h => by
    simp only [underE, Bool.and_eq_true] at hb
    simp only [look] at h
    split at h
    · cases h; exact hb.1
    · exact underE_at hb.2 t x h
theorem maskH_len (M : List Nat) : ∀ (k : Nat) (H : Hp), (maskH M k H).length = H.length
  | _, [] => rfl
  | k, x :: l => by simp [maskH, maskH_len M (k + 1) l]
theorem maskH_at (M : List Nat) : ∀ (k : Nat) (H : Hp) (i : Nat), (maskH M k H)[i]? = if M.contains (k + i) then H[i]? else (H[i]?).map fun _ => none
  | k, [], i => by simp [maskH]
  | k, x :: l, 0 => by simp only [maskH, List.getElem?_cons_zero, Nat.add_zero, Option.map_some]; split <;> rfl
  | k, x :: l, i + 1 => by
    simp only [maskH, List.getElem?_cons_succ]
    rw [maskH_at M (k + 1) l i, show k + 1 + i = k + (i + 1) by omega]
theorem mergeH_at (M : List Nat) : ∀ (k : Nat) (H H' : Hp), H.length ≤ H'.length → ∀ i, (mergeH M k H H')[i]? = if i < H.length ∧ M.contains (k + i) = false then H[i]? else H'[i]?
  | k, [], ys, _, i => by simp [mergeH]
  | k, x :: l, [], h, i => by simp at h
  | k, x :: l, y :: ys, h, 0 => by by_cases hm : k ∈ M <;> simp [mergeH, hm]
  | k, x :: l, y :: ys, h, i + 1 => by
    simp only [mergeH, List.getElem?_cons_succ, List.length_cons]
    rw [mergeH_at M (k + 1) l ys (by simpa using h) i, show k + 1 + i = k + (i + 1) by omega]
    simp only [Nat.add_lt_add_iff_right]
theorem mergeH_len (M : List Nat) : ∀ (k : Nat) (H H' : Hp), H.length ≤ H'.length → (mergeH M k H H').length = H'.length
  | k, [], ys, _ => rfl
  | k, x :: l, [], h => by simp at h
  | k, x :: l, y :: ys, h => by simp [mergeH, mergeH_len M (k + 1) l ys (by simpa using h)]
theorem put_H {dst : Option Tmp} {x : AV} (h : put s dst x H' = some s') : s'.H = H' ∧ s'.n = s.n ∧ (∀ t, dst ≠ some t → look s'.env t = look s.env t) ∧ (∀ t, dst = some t → t < s.n ∧ look s'.env t = some x) := by
  unfold put at h
  split at h
  · cases h; exact ⟨rfl, rfl, fun _ _ => rfl, fun t ht => by cases ht⟩
  · rename_i d
    split at h
    · rename_i hd
      cases h
      refine ⟨rfl, rfl, fun t ht => ?_, fun t ht => ?_⟩
      · rw [look_lay, if_neg (fun e => ht (by rw [e]))]
      · cases ht; exact ⟨hd, by rw [look_lay, if_pos rfl]⟩
    · cases h
theorem arun_states {ops : List Oper} {Q : St → Prop} : ∀ {l : List Oper} {pl : List Pl} {s : St}, arun P Γ ops l pl s Q →
    ∃ S : Nat → St, S 0 = s ∧ (∀ i o p, l[i]? = some o → pl[i]? = some p → astep P Γ ops o p (S i) (S (i + 1))) ∧ Q (S l.length)
  | [], [], s, h => ⟨fun _ => s, rfl, fun i o p ho => by simp at ho, h⟩
  | [], p :: pl, s, h => by simp [arun] at h
  | o :: l, [], s, h => by simp [arun] at h
  | o :: l, p :: pl, s, h => by
    simp only [arun] at h
    have step : ∀ s', astep P Γ ops o p s s' → arun P Γ ops l pl s' Q → ∃ S : Nat → St, S 0 = s ∧ (∀ i o' p', (o :: l)[i]? = some o' → (p :: pl)[i]? = some p' → astep P Γ ops o' p' (S i) (S (i + 1))) ∧ Q (S (o :: l).length) := fun s' h1 h2 => by
      obtain ⟨S, h3, h4, h5⟩ := arun_states h2
      refine ⟨fun | 0 => s | i + 1 => S i, rfl, fun i o' p' ho hp => ?_, h5⟩
      cases i with
      | zero => cases ho; cases hp; show astep P Γ ops o p s (S 0); rw [h3]; exact h1
      | succ i => exact h4 i o' p' (by simpa using ho) (by simpa using hp)
    split at h
    · rename_i hg
      split at h
      · rename_i x H' hx
        obtain ⟨h1, h2, h3, h4, h5⟩ := h
        split at h5
        · rename_i s' hs'; exact step s' (.inl ⟨hg, x, H', hx, h1, h2, h3, h4, hs'⟩) h5
        · exact h5.elim
      · exact h.elim
    · rename_i hg
      obtain ⟨h1, h2⟩ := h
      split at h2
      · rename_i s' hs'; exact step s' (.inr ⟨hg, h1, hs'⟩) h2
      · exact h2.elim
    · exact h.elim
end
end Go.Proofs.Ytbdnhoddkdiogaa
