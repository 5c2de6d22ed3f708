/- AHI, part X: what comes in, opened: a thing of any kind; a law that is called. -/
import Derived.Test.YtbdnhoddkdiogaaAhW
import Derived.OpenShut
import Derived.ChangeArms
import Derived.Deep.Matrix
import Derived.Below
set_option linter.unusedSimpArgs false
set_option linter.unusedVariables false
namespace Go.Proofs.Ytbdnhoddkdiogaa
open Go.RowKit Go.ChangeShapes Go.WideShapes

def okFs (q : TypeId → Ty → Bool) (sz : TypeId → Nat) : List Field → Nat → Ty → Bool
  | [], _, _ => false
  | [f], o, T => decide (f.offset = o) && decide (sz f.type = T.sz) && q f.type T
  | f :: fs, o, .pr A B => decide (f.offset = o) && decide (sz f.type = A.sz) && q f.type A && okFs q sz fs (o + A.sz) B
  | _, _, _ => false
/-- A type of the program is of that kind. -/
def okTy (P : Program) : Nat → TypeId → Ty → Bool
  | 0, _, _ => false
  | n + 1, t, T => match P.underlying t with
    | some (.int k) => (match T with | .i k' => decide (k = k') | _ => false)
    | some .bool => (match T with | .bo => true | _ => false)
    | some .string => (match T with | .st => true | _ => false)
    | some (.float k) => (match T with | .f k' => decide (k = k') | _ => false)
    | some (.slice e) => (match T with | .sl E => okTy P n e E && decide (P.cellsOf e = E.sz) && decide (0 < E.sz) | _ => false)
    | some (.array m e) => (match T with | .ar m' E => decide (m = m') && okTy P n e E && decide (P.cellsOf e = E.sz) && decide (P.cellsOf t = m * E.sz) | _ => false)
    | some (.struct fs) => okFs (okTy P n) P.cellsOf fs.toList 0 T && decide (P.cellsOf t = T.sz)
    | _ => false
/-- Numbers lie in their kinds. -/
def wfD : (t : Ty) → t.D → Prop
  | .i k, n => (Lit.int k n).wf = true
  | .bo, _ => True
  | .st, s => s.size ≤ maxLen
  | .f k, n => (Lit.float k n).wf = true
  | .sl e, xs => xs.length ≤ maxLen ∧ ∀ x ∈ xs, wfD e x
  | .pr a b, x => wfD a x.1 ∧ wfD b x.2
  | .ar n e, xs => xs.length = n ∧ ∀ x ∈ xs, wfD e x
abbrev no : Nat → Prop := fun _ => False
section
variable {H : Type} {enc : TypeId × Value → H} {P : Program} {w : World} {base : Nat} {spare : Nat → Bool} {held : Bool}
theorem trod_float {k : FloatKind} {fuel : Nat} {t : TypeId} {cs : List Value} {x : DataW H × List MemPlace} (ht : P.underlying t = some (.float k)) (h : DataW.trod enc P w base spare held fuel t cs = some x) : ∃ n, cs = [.float k n] ∧ (Lit.float k n).wf = true := by
  cases fuel with
  | zero => simp [DataW.trod] at h
  | succ n =>
    unfold DataW.trod at h
    rw [ht] at h
    split at h <;> simp_all
theorem chooseLt {α : Type} {n : Nat} {p : Nat → α → Prop} (h : ∀ i, i < n → ∃ d, p i d) [Nonempty α] : ∃ D : Nat → α, ∀ i, i < n → p i (D i) :=
  ⟨fun i => if hi : i < n then (h i hi).choose else Classical.choice inferInstance, fun i hi => by simp only [dif_pos hi]; exact (h i hi).choose_spec⟩
theorem Ty.inh : ∀ t : Ty, Nonempty t.D
  | .i _ => ⟨(0 : Int)⟩ | .bo => ⟨true⟩ | .st => ⟨(⟨#[]⟩ : ByteArray)⟩ | .f _ => ⟨(0 : Nat)⟩ | .sl _ => ⟨[]⟩ | .ar _ _ => ⟨[]⟩
  | .pr a b => by obtain ⟨x⟩ := Ty.inh a; obtain ⟨y⟩ := Ty.inh b; exact ⟨(x, y)⟩
theorem mapM_len {α β : Type} {f : α → Option β} : ∀ {l : List α} {ys : List β}, l.mapM f = some ys → ys.length = l.length ∧ ∀ (i : Nat) x, l[i]? = some x → ∃ y, f x = some y ∧ ys[i]? = some y
  | [], ys, h => by simp at h; subst h; exact ⟨rfl, fun i x hx => by simp at hx⟩
  | a :: l, ys, h => by
    simp only [List.mapM_cons, Option.bind_eq_bind, Option.bind_eq_some_iff, Option.pure_def, Option.some.injEq] at h
    obtain ⟨b, hb, bs, hbs, rfl⟩ := h
    obtain ⟨h1, h2⟩ := mapM_len hbs
    refine ⟨by simp [h1], fun i x hx => ?_⟩
    cases i with
    | zero => cases hx; exact ⟨b, hb, rfl⟩
    | succ i => exact h2 i x (by simpa using hx)
theorem cells_at {a : Addr} {n : Nat} {cs : List Value} (h : w.cells? base a n = some cs) : cs.length = n ∧ ∀ (j : Nat) v, cs[j]? = some v → w.cell? (a.add j) = some v := by
  unfold World.cells? at h
  split at h
  · obtain ⟨h1, h2⟩ := mapM_len h
    simp at h1
    refine ⟨h1, fun j v hv => ?_⟩
    have hj : j < n := by rw [← h1]; exact (List.getElem?_eq_some_iff.1 hv).1
    obtain ⟨y, hy, hy2⟩ := h2 j j (by simp [hj])
    rw [hv] at hy2; cases hy2; exact hy
  · cases h
theorem spot_of {a : Addr} {v : Value} (h : w.cell? a = some v) : a.spot = none ∧ a.block < w.heap.size := by
  unfold World.cell? at h
  split at h
  · rename_i c _ _ hb
    split at h
    · cases h
    · rename_i hs
      refine ⟨by simpa using hs, ?_⟩
      rcases Nat.lt_or_ge a.block w.heap.size with h' | h'
      · exact h'
      · rw [Array.getElem?_eq_none h'] at hb; cases hb
  · cases h
theorem openD : ∀ (n : Nat) {t : TypeId} {T : Ty}, okTy P n t T = true → ∀ {fuel : Nat} {cs : List Value} {x : DataW H × List MemPlace}, DataW.trod enc P w base spare held fuel t cs = some x →
    ∃ d : T.D, RepD w no T d (fun j => cs[j]?) ∧ cs.length = T.sz ∧ wfD T d := by
  intro n
  induction n with
  | zero => intro t T h; simp [okTy] at h
  | succ n ih =>
    intro t T hT fuel cs x h
    unfold okTy at hT
    split at hT
    · rename_i k ht
      split at hT
      · rename_i k'
        have hk := of_decide_eq_true hT
        subst hk
        obtain ⟨m, rfl, -, hw⟩ := DataW.trod_int ht h
        exact ⟨m, rfl, rfl, hw⟩
      · cases hT
    · rename_i ht
      split at hT
      · obtain ⟨b, rfl, -⟩ := DataW.trod_bool ht h
        exact ⟨b, rfl, rfl, trivial⟩
      · cases hT
    · rename_i ht
      split at hT
      · obtain ⟨s, rfl, -, hs⟩ := DataW.trod_string ht h
        exact ⟨s, rfl, rfl, hs⟩
      · cases hT
    · rename_i k ht
      split at hT
      · have hk := of_decide_eq_true hT
        subst hk
        obtain ⟨m, rfl, hw⟩ := trod_float ht h
        exact ⟨m, rfl, rfl, hw⟩
      · cases hT
    · rename_i e ht
      split at hT
      · rename_i E
        simp only [Bool.and_eq_true, decide_eq_true_eq] at hT
        obtain ⟨⟨hE, hce⟩, hpos⟩ := hT
        rcases DataW.trod_slice ht h with ⟨rfl, -⟩ | ⟨a, len, cap, elems, rest, m, rfl, rfl, -, hb, hl, hc, hel, hget, -, -⟩
        · exact ⟨[], ⟨_, rfl, .inl ⟨rfl, _, _, rfl⟩⟩, rfl, by simp, by simp⟩
        · have each : ∀ i, i < len → ∃ d : E.D, RepD w no E d (fun j => w.cell? ((a.add (i * E.sz)).add j)) ∧ wfD E d ∧ ∃ v, w.cell? ((a.add (i * E.sz)).add 0) = some v := fun i hi => by
            have h1 := hget i hi
            rw [hce, List.getElem?_eq_getElem (by omega)] at h1
            obtain ⟨cs', h2, h3⟩ := Option.bind_eq_some_iff.1 h1
            obtain ⟨d, h4, h5, h6⟩ := ih hE h3
            obtain ⟨h7, h8⟩ := cells_at h2
            refine ⟨d, h4.cells h8, h6, ?_⟩
            exact ⟨cs'[0], h8 0 _ (List.getElem?_eq_getElem (by omega))⟩
          by_cases h0 : len = 0
          · subst h0
            exact ⟨[], ⟨_, rfl, .inl ⟨rfl, _, _, rfl⟩⟩, rfl, by simp, by simp⟩
          · obtain ⟨_, -, -, v0, hv0⟩ := each 0 (by omega)
            have ha : (a.add (0 * E.sz)).add 0 = a := by simp [Addr.add]
            rw [ha] at hv0
            obtain ⟨hsp, hlt⟩ := spot_of hv0
            haveI := Ty.inh E
            obtain ⟨D, hD⟩ := chooseLt each
            have hadd : ∀ i j, (a.add (i * E.sz)).add j = ⟨a.block, a.off + i * E.sz + j, none⟩ := fun i j => by
              obtain ⟨b, off, sp⟩ := a
              simp only at hsp
              subst hsp
              unfold Addr.add
              split <;> split <;> simp_all
            have ha' : a = ⟨a.block, a.off, none⟩ := by obtain ⟨b, off, sp⟩ := a; simp only at hsp; subst hsp; rfl
            refine ⟨(List.range len).map D, ⟨_, rfl, .inr ⟨a.block, a.off, cap, by rw [← ha']; simp, by simpa using hl, hc, fun h => h, hlt, fun i y hy => ?_⟩⟩, rfl, by simp; omega, fun y hy => ?_⟩
            · rw [List.getElem?_map] at hy
              obtain ⟨i', hi', rfl⟩ := Option.map_eq_some_iff.1 hy
              have hi2 : i < len := by have := (List.getElem?_eq_some_iff.1 hi').1; simpa using this
              have : i' = i := by rw [List.getElem?_range hi2] at hi'; exact (Option.some.inj hi').symm
              subst this
              have := (hD i' hi2).1
              simp only [hadd] at this
              exact this
            · obtain ⟨i, hi, rfl⟩ := List.mem_map.1 hy
              exact (hD i (by simpa using hi)).2.1
      · cases hT
    · rename_i m e ht
      split at hT
      · rename_i m' E
        simp only [Bool.and_eq_true, decide_eq_true_eq] at hT
        obtain ⟨⟨⟨rfl, hE⟩, hce⟩, hct⟩ := hT
        obtain ⟨xs, k, rfl, -, hcl, hxl, hget⟩ := DataW.trod_array ht h
        have each : ∀ i, i < m → ∃ d : E.D, RepD w no E d (fun j => cs[i * E.sz + j]?) ∧ wfD E d := fun i hi => by
          have h1 := hget i hi
          rw [hce, List.getElem?_eq_getElem (by omega)] at h1
          obtain ⟨d, h4, h5, h6⟩ := ih hE h1
          refine ⟨d, h4.cells fun j v hv => ?_, h6⟩
          rw [List.getElem?_take] at hv
          split at hv
          · rw [List.getElem?_drop] at hv; exact hv
          · cases hv
        haveI := Ty.inh E
        obtain ⟨D, hD⟩ := chooseLt each
        refine ⟨(List.range m).map D, ⟨by simp, fun i y hy => ?_⟩, by rw [hcl, hct]; rfl, by simp, fun y hy => ?_⟩
        · rw [List.getElem?_map] at hy
          obtain ⟨i', hi', rfl⟩ := Option.map_eq_some_iff.1 hy
          have hi2 : i < m := by have := (List.getElem?_eq_some_iff.1 hi').1; simpa using this
          have : i' = i := by rw [List.getElem?_range hi2] at hi'; exact (Option.some.inj hi').symm
          subst this
          exact (hD i' hi2).1
        · obtain ⟨i, hi, rfl⟩ := List.mem_map.1 hy
          exact (hD i (by simpa using hi)).2
      · cases hT
    · rename_i fs ht
      simp only [Bool.and_eq_true, decide_eq_true_eq] at hT
      obtain ⟨hF, hct⟩ := hT
      obtain ⟨xs, k, rfl, -, hcl, hxl, hget⟩ := DataW.trod_struct ht h
      have one : ∀ (f : Field) (A : Ty) (i : Nat), fs.toList[i]? = some f → okTy P n f.type A = true → P.cellsOf f.type = A.sz → ∃ d : A.D, RepD w no A d (fun j => cs[f.offset + j]?) ∧ wfD A d := fun f A i hf hA hs => by
        have hf' : fs[i]? = some f := by simpa using hf
        have h1 := hget i f hf'
        have hi : i < xs.length := by rw [hxl]; exact (Array.getElem?_eq_some_iff.1 hf').1
        rw [hs, List.getElem?_eq_getElem hi] at h1
        obtain ⟨d, h4, h5, h6⟩ := ih hA h1
        refine ⟨d, h4.cells fun j v hv => ?_, h6⟩
        rw [List.getElem?_take] at hv
        split at hv
        · rw [List.getElem?_drop] at hv; exact hv
        · cases hv
      have key : ∀ (l : List Field) (o i0 : Nat) (T : Ty), okFs (okTy P n) P.cellsOf l o T = true → (∀ j, fs.toList[i0 + j]? = l[j]?) → ∃ d : T.D, RepD w no T d (fun j => cs[o + j]?) ∧ wfD T d := by
        intro l
        induction l with
        | nil => intro o i0 T h; simp [okFs] at h
        | cons f l ihl =>
          intro o i0 T h hat
          cases l with
          | nil =>
            simp only [okFs, Bool.and_eq_true, decide_eq_true_eq] at h
            obtain ⟨⟨rfl, hs⟩, hq⟩ := h
            exact one f T i0 (by simpa using hat 0) hq hs
          | cons f' l =>
            cases T with
            | pr A B =>
              simp only [okFs, Bool.and_eq_true, decide_eq_true_eq] at h
              obtain ⟨⟨⟨rfl, hs⟩, hq⟩, hr⟩ := h
              obtain ⟨a, ha, wa⟩ := one f A i0 (by simpa using hat 0) hq hs
              obtain ⟨b, hb, wb⟩ := ihl _ (i0 + 1) B hr (fun j => by have := hat (j + 1); rw [List.getElem?_cons_succ] at this; rw [← this]; congr 1; omega)
              exact ⟨(a, b), ⟨ha, by simpa [Nat.add_assoc] using hb⟩, wa, wb⟩
            | _ => simp [okFs] at h
      obtain ⟨d, hd, hw⟩ := key fs.toList 0 0 T hF (fun j => by simp)
      exact ⟨d, by simpa using hd, by rw [hcl, hct], hw⟩
    · cases hT
/-- A parameter. -/
theorem openP (n : Nat) {t : TypeId} {T : Ty} (hT : (okTy P n t T && (match P.underlying t with | some (.struct _) => !T.isLeaf | _ => true)) = true) {r : Reach} {b0 : Nat} {v : Value} {d : DataW H} {ps : List MemPlace} (hval : Value.okWide P w r b0 t v) (h : DataW.Trod enc P w base spare held t v d ps) :
    ∃ x : T.D, Rep1 w no (fun _ => none) (ro T x) v ∧ wfD T x := by
  rw [Bool.and_eq_true] at hT
  obtain ⟨hT, hS⟩ := hT
  obtain ⟨fuel, hf⟩ := h
  obtain ⟨x, hr, hl, hw⟩ := openD n hT hf
  refine ⟨x, ?_, hw⟩
  cases n with
  | zero => simp [okTy] at hT
  | succ n =>
  have leafv : (∀ fs, P.underlying t ≠ some (.struct fs)) → (∀ m e, P.underlying t ≠ some (.array m e)) → v.cells.toList = [v] := fun h1 h2 => by
    have hc : Cell.okWide P w r b0 t v := by
      unfold Value.okWide at hval
      split at hval
      · rename_i fs hh; exact (h1 fs hh).elim
      · rename_i m e hh; exact (h2 m e hh).elim
      · exact hval
    cases v with
    | agg cs =>
      exfalso
      unfold Cell.okWide at hc
      split at hc <;> first | (rename_i hh _; cases hh; done) | skip
      all_goals first | (unfold Cell.ok at hc; split at hc <;> simp_all; done) | simp_all
    | _ => rfl
  have aggv : ∀ {m : Nat}, ((∃ fs, P.underlying t = some (.struct fs)) ∨ ∃ k e, P.underlying t = some (.array k e)) → ∃ cs, v = .agg cs := fun h1 => by
    unfold Value.okWide at hval
    split at hval
    · obtain ⟨cs, e, -⟩ := hval; exact ⟨cs, e⟩
    · obtain ⟨cs, e, -⟩ := hval; exact ⟨cs, e⟩
    · rename_i h2 h3
      rcases h1 with ⟨fs, h1⟩ | ⟨k, e, h1⟩
      · exact (h2 fs h1).elim
      · exact (h3 k e h1).elim
  unfold okTy at hT
  split at hT
  · rename_i k ht
    rw [leafv (by simp [ht]) (by simp [ht])] at hr
    cases T <;> simp at hT
    subst hT
    have : some v = some (Value.int k x) := hr
    cases this
    exact ⟨rfl, rfl⟩
  · rename_i ht
    rw [leafv (by simp [ht]) (by simp [ht])] at hr
    cases T <;> simp at hT
    have : some v = some (Value.bool x) := hr
    cases this
    exact ⟨rfl, rfl⟩
  · rename_i ht
    rw [leafv (by simp [ht]) (by simp [ht])] at hr
    cases T <;> simp at hT
    have : some v = some (Value.string x) := hr
    cases this
    exact ⟨rfl, rfl⟩
  · rename_i k ht
    rw [leafv (by simp [ht]) (by simp [ht])] at hr
    cases T <;> simp at hT
    subst hT
    have : some v = some (Value.float k x) := hr
    cases this
    exact ⟨rfl, rfl⟩
  · rename_i e ht
    rw [leafv (by simp [ht]) (by simp [ht])] at hr
    cases T <;> simp at hT
    obtain ⟨v', hv', hs⟩ := hr
    cases hv'
    exact hs
  · rename_i m e ht
    obtain ⟨cs, rfl⟩ := aggv (m := 0) (.inr ⟨m, e, ht⟩)
    simp only [Value.cells] at hr hl
    cases T <;> simp at hT
    exact ⟨cs.toList, by simp, by simpa [Row.size, Ty.sz, hr.1] using hl, fun i y hy => by simpa using hr.2 i y hy⟩
  · rename_i fs ht
    obtain ⟨cs, rfl⟩ := aggv (m := 0) (.inl ⟨fs, ht⟩)
    simp only [Value.cells] at hr hl
    rw [ht] at hS
    cases T with
    | pr A B =>
      refine ⟨cs.toList, by simp, by simpa [Row.size] using hl, fun i y hy => ?_⟩
      cases i with
      | zero => cases hy; simpa using hr
      | succ i => simp at hy
    | ar m E => exact ⟨cs.toList, by simp, by simpa [Row.size, Ty.sz, hr.1] using hl, fun i y hy => by simpa using hr.2 i y hy⟩
    | _ => simp [Ty.isLeaf] at hS
  · cases hT
end
def repAll (w : World) : (ts : List Ty) → Ds ts → List Value → Prop
  | [], _, [] => True
  | t :: ts, d, v :: vs => Rep1 w no (fun _ => none) (ro t d.1) v ∧ repAll w ts d.2 vs
  | _, _, _ => False
theorem repAll_at {w : World} : ∀ {ts : List Ty} {d : Ds ts} {vs : List Value}, repAll w ts d vs → vs.length = (ros ts d).length ∧ ∀ (i : Nat) y, (ros ts d)[i]? = some y → ∃ v, vs[i]? = some v ∧ Rep1 w no (fun _ => none) y v
  | [], _, [], _ => ⟨rfl, fun i y hy => by simp [ros] at hy⟩
  | [], _, _ :: _, h => h.elim
  | _ :: _, _, [], h => h.elim
  | t :: ts, d, v :: vs, h => by
    obtain ⟨h1, h2⟩ := repAll_at h.2
    refine ⟨by simp [ros, h1], fun i y hy => ?_⟩
    cases i with
    | zero => simp only [ros, List.getElem?_cons_zero, Option.some.injEq] at hy; subst hy; exact ⟨v, rfl, h.1⟩
    | succ i => simp only [ros, List.getElem?_cons_succ] at hy; exact h2 i y hy
/-- A law, called with things that can be read. -/
theorem lawOk {P : Program} {g : FuncId} {ts : List Ty} {d : Ds ts} {vs : List Value} {w : World} (hc : CallOk P g (ros ts d) [] (.c (cb true)) []) (hr : repAll w ts d vs) :
    Calls P g vs.toArray w fun e w' => e = .returned (.bool true) ∧ Below w.heap.size w w' := by
  obtain ⟨h1, h2⟩ := repAll_at hr
  have hno : own no (fun _ => none) [] = no := by
    funext b
    apply propext
    constructor
    · rintro (⟨id, r, x, h, -⟩ | h)
      · simp at h
      · exact h
    · exact fun h => h.elim
  have hh : HeapRep no (fun _ => none) [] w := ⟨fun _ _ => rfl, fun id r h => by simp at h, fun b h => h.elim, fun b h => h.elim, fun id id' r r' b x x' h => by simp at h⟩
  refine (hc.2 no (fun _ => none) w vs hh h1 (fun i x hx => (by rw [hno]; exact h2 i x hx))).mono fun e w' ⟨v, he, σ', h3, _, h5⟩ => ?_
  obtain ⟨rfl, -⟩ := h3
  refine ⟨he, h5.os, h5.tape, h5.output, h5.keeps.size, fun k hk => h5.keeps.block k hk fun ⟨id, r, x, h, _⟩ => (by simp at h)⟩
theorem wf_u64 {n : Int} (h : wfD (.i .u64) n) : 0 ≤ n ∧ n < 18446744073709551616 := by simp [wfD, Lit.wf, IntKind.min, IntKind.max, IntKind.signed, IntKind.bits] at h; omega
theorem wf_u32 {n : Int} (h : wfD (.i .u32) n) : 0 ≤ n ∧ n < 4294967296 := by simp [wfD, Lit.wf, IntKind.min, IntKind.max, IntKind.signed, IntKind.bits] at h; omega
theorem wf_u16 {n : Int} (h : wfD (.i .u16) n) : 0 ≤ n ∧ n < 65536 := by simp [wfD, Lit.wf, IntKind.min, IntKind.max, IntKind.signed, IntKind.bits] at h; omega
theorem wf_u8 {n : Int} (h : wfD (.i .u8) n) : 0 ≤ n ∧ n < 256 := by simp [wfD, Lit.wf, IntKind.min, IntKind.max, IntKind.signed, IntKind.bits] at h; omega
theorem wf_i64 {n : Int} (h : wfD (.i .i64) n) : -9223372036854775808 ≤ n ∧ n < 9223372036854775808 := by simp [wfD, Lit.wf, IntKind.min, IntKind.max, IntKind.signed, IntKind.bits] at h; omega
theorem wf_i8 {n : Int} (h : wfD (.i .i8) n) : -128 ≤ n ∧ n < 128 := by simp [wfD, Lit.wf, IntKind.min, IntKind.max, IntKind.signed, IntKind.bits] at h; omega
end Go.Proofs.Ytbdnhoddkdiogaa
