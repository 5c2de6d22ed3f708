import Derived.Test.YtcnoooodnmjdmaaAi1
import Derived.Lib.AppendZeros
import Derived.Laws.Entries
import Derived.Orders
section
set_option linter.unusedSimpArgs false
set_option linter.unusedVariables false
/- AHI, part I: an operation, a call, are what the model does. -/
namespace Go.Proofs.Ytcnoooodnmjdmaa
open Go.RowKit

/-! ### Slices of the call's own that are frozen: from then on they are only read -/
def fzC (H : Hp) : CV → CV
  | .sl id o len e => match hrow H id with
    | some (.ty t xs) => if e = t.sz ∧ o + len ≤ xs.length then .rs t ((xs.drop o).take len) else .sl id o len e
    | _ => .sl id o len e
  | c => c
def fzI (H : Hp) : CV → List Nat
  | .sl id o len e => match hrow H id with
    | some (.ty t xs) => if e = t.sz ∧ o + len ≤ xs.length then [id] else []
    | _ => []
  | _ => []
def kills (l : List Nat) (H : Hp) : Hp := l.foldl (fun H id => H.set id none) H
theorem kills_len : ∀ (l : List Nat) (H : Hp), (kills l H).length = H.length
  | [], H => rfl
  | id :: l, H => by show (kills l (H.set id none)).length = _; rw [kills_len l]; simp
theorem kills_at : ∀ (l : List Nat) (H : Hp) (id : Nat) (r : Row), (kills l H)[id]? = some (some r) ↔ H[id]? = some (some r) ∧ id ∉ l
  | [], H, id, r => by simp [kills]
  | j :: l, H, id, r => by
    show (kills l (H.set j none))[id]? = _ ↔ _
    rw [kills_at l]
    by_cases h : j = id
    · subst h
      constructor
      · rintro ⟨h1, -⟩
        rcases set_cases h1 with ⟨-, h2, -⟩ | ⟨h2, -⟩
        · cases h2
        · exact (h2 rfl).elim
      · rintro ⟨-, h1⟩; simp at h1
    · rw [List.getElem?_set_ne h]
      have : id ≠ j := fun e => h e.symm
      simp [this]
theorem HeapRep.kills {X : Nat → Prop} {σ : Sg} {w : World} : ∀ (l : List Nat) {H : Hp}, HeapRep X σ H w → HeapRep X σ (kills l H) w ∧ Step σ H w σ (Go.Proofs.Ytcnoooodnmjdmaa.kills l H) w
  | [], H, h => ⟨h, Step.refl _ _ _⟩
  | id :: l, H, h => by
    obtain ⟨h1, h2⟩ := h.kill id
    obtain ⟨h3, h4⟩ := HeapRep.kills l h1
    exact ⟨h3, h2.trans h4⟩
theorem part_take {t : Ty} {xs : List t.D} {o len : Nat} (h : o + len ≤ xs.length) : ((xs.drop o).take len).length = len := by rw [List.length_take, List.length_drop]; omega
/-- A frozen cell. -/
theorem fzC_rep {X : Nat → Prop} {σ : Sg} {w : World} {H : Hp} (hh : HeapRep X σ H w) {l : List Nat} {c : CV} {v : Value} (hl : ∀ id ∈ fzI H c, id ∈ l) (h : Rep w (own X σ H) σ c v) : Rep w (own X σ (kills l H)) σ (fzC H c) v := by
  have hk := keepsX (X := X) (hh.kills l).2.keeps
  unfold fzI at hl
  unfold fzC
  split at hl
  · rename_i id o len e
    split at hl
    · rename_i t xs hr
      split at hl
      · rename_i hc
        obtain ⟨rfl, hb⟩ := hc
        have hid := hrow_some hr
        have hin : id ∈ l := hl id (by simp)
        simp only [hr, hb, and_self, if_true]
        rcases h with ⟨rfl, a, rfl⟩ | ⟨b, base, ext, c, hs, rfl, hlc, hcm, hext⟩
        · exact .inl ⟨by simp, a, 0, rfl⟩
        · rcases hh.row id _ hid with h0 | ⟨b', base', ext', h5, h6, h7, h8, h9⟩
          · rw [h0] at hs; cases hs
          · rw [hs] at h5; cases h5
            refine .inr ⟨b, base + o * t.sz, c, by rw [part_take hb], by rw [part_take hb]; exact hlc, hcm, ?_, h6, fun i x hx => ?_⟩
            · rintro (⟨j, q, y, g1, g2⟩ | hx)
              · obtain ⟨g1, g3⟩ := (kills_at l H j q).1 g1
                have : j = id := hh.inj j id q _ b y _ g1 hid g2 hs
                exact g3 (this ▸ hin)
              · exact hh.xdis b hx ⟨id, _, _, hid, hs⟩
            · rw [List.getElem?_take] at hx
              split at hx
              · rw [List.getElem?_drop] at hx
                refine RepD.mono hk (fun j v hv => ?_) (h9 (o + i) x hx)
                rw [← hv]; congr 2; rw [Nat.add_mul]; omega
              · cases hx
      · rename_i hc
        simp only [hr, hc, if_false]
        exact Rep.mono hk (fun _ _ h => h) h
    · exact Rep.mono hk (fun _ _ h => h) h
  · exact Rep.mono hk (fun _ _ h => h) h
/-- A row's own slices are frozen. -/
def frzRow (H : Hp) (id : Nat) : Option Hp := match hrow H id with
  | some (.raw l) => some ((kills (l.flatMap (fzI H)) H).set id (some (.raw (l.map (fzC H)))))
  | _ => none
theorem frzRow_ok {X : Nat → Prop} {σ : Sg} {w : World} {H H1 : Hp} (hh : HeapRep X σ H w) {id : Nat} (h : frzRow H id = some H1) : HeapRep X σ H1 w ∧ Step σ H w σ H1 w := by
  unfold frzRow at h
  split at h
  · rename_i l hr
    cases h
    have hid := hrow_some hr
    have hil := (List.getElem?_eq_some_iff.1 hid).1
    generalize hd : l.flatMap (fzI H) = ds
    have hin : ∀ c ∈ l, ∀ i ∈ fzI H c, i ∈ ds := fun c hc i hi => by rw [← hd]; exact List.mem_flatMap.2 ⟨c, hc, hi⟩
    obtain ⟨hh1, hs1⟩ := hh.kills ds
    have ho : ∀ c, ownB σ ((kills ds H).set id (some (.raw (l.map (fzC H))))) c → ownB σ H c := fun c => by
      rintro ⟨n, q, x, h1, h2⟩
      rcases set_cases h1 with ⟨rfl, h1, -⟩ | ⟨hk, h1⟩
      · exact ⟨n, _, x, hid, h2⟩
      · exact ⟨n, q, x, ((kills_at _ _ _ _).1 h1).1, h2⟩
    have hk : Keeps w (ownB σ H) w (ownB σ ((kills ds H).set id (some (.raw (l.map (fzC H)))))) := ⟨Nat.le_refl _, fun _ _ _ => rfl, fun b hb => .inl (ho b hb)⟩
    have hst : Step σ H w σ ((kills ds H).set id (some (.raw (l.map (fzC H))))) w := ⟨rfl, rfl, rfl, hk, fun _ _ h => h, by simp [kills_len], fun _ _ => rfl⟩
    -- the killed rows' blocks are no longer owned
    have hless : ∀ b, own X σ ((kills ds H).set id (some (.raw (l.map (fzC H))))) b → own X σ (kills (ds.filter (· ≠ id)) H) b := fun b => by
      rintro (⟨n, q, x, h1, h2⟩ | hx)
      · left
        rcases set_cases h1 with ⟨rfl, h1, -⟩ | ⟨hk, h1⟩
        · exact ⟨n, _, x, (kills_at _ _ _ _).2 ⟨hid, by simp⟩, h2⟩
        · obtain ⟨g1, g2⟩ := (kills_at _ _ _ _).1 h1
          exact ⟨n, q, x, (kills_at _ _ _ _).2 ⟨g1, fun hm => g2 (List.mem_filter.1 hm).1⟩, h2⟩
      · exact .inr hx
    have hfi : ∀ c ∈ l, ∀ i ∈ fzI H c, i ∈ ds.filter (· ≠ id) := fun c hc i hi => by
      refine List.mem_filter.2 ⟨hin c hc i hi, ?_⟩
      simp only [ne_eq, decide_not, Bool.not_eq_true', decide_eq_false_iff_not]
      rintro rfl
      unfold fzI at hi
      split at hi
      · split at hi
        · rename_i hr'
          split at hi
          · simp only [List.mem_singleton] at hi
            subst hi
            rw [hr] at hr'; cases hr'
          · cases hi
        · cases hi
      · cases hi
    refine ⟨hh.next hk (fun _ _ h => h) (fun n hn => hh.dom n (by simpa [kills_len] using hn)) (fun n q hq => ?_) (fun n n' q q' c x x' h1 h2 h3 h4 => ?_), hst⟩
    · rcases set_cases hq with ⟨rfl, h1, -⟩ | ⟨hne, h1⟩
      · cases h1
        rcases hh.row n _ hid with h5 | ⟨b, base, ext, h5, h6, h7, h8, h9⟩
        · exact .inr (.inl h5)
        · refine .inr (.inr ⟨b, base, ext, h5, h6, by simpa [Row.size] using h7, h8, fun i c hc => ?_⟩)
          rw [List.getElem?_map] at hc
          obtain ⟨c0, hc0, rfl⟩ := Option.map_eq_some_iff.1 hc
          obtain ⟨v, h10, h11⟩ := h9 i c0 hc0
          exact ⟨v, h10, Rep.mono (w := w) ⟨Nat.le_refl _, fun _ _ _ => rfl, fun b hb => .inl (hless b hb)⟩ (fun _ _ h => h) (fzC_rep hh (hfi c0 (List.mem_of_getElem? hc0)) h11)⟩
      · exact .inl ⟨((kills_at _ _ _ _).1 h1).1, fun h => h, fun _ _ _ => rfl⟩
    · have back : ∀ {n : Nat} {q : Row}, ((kills ds H).set id (some (.raw (l.map (fzC H)))))[n]? = some (some q) → ∃ q0, H[n]? = some (some q0) := fun {n q} h => by
        rcases set_cases h with ⟨rfl, g1, -⟩ | ⟨hne, g1⟩
        · exact ⟨_, hid⟩
        · exact ⟨q, ((kills_at _ _ _ _).1 g1).1⟩
      obtain ⟨q0, g0⟩ := back h1
      obtain ⟨q1, g1⟩ := back h2
      exact hh.inj n n' q0 q1 c x x' g0 g1 h3 h4
  · cases h
def frzOf (H : Hp) : AV → Option Hp
  | .c (.sl id _ _ _) => frzRow H id
  | _ => none
/-- Append; what cannot be laid behind the row as it is, is frozen first. -/
def aappendF (P : Program) (H : Hp) (t : TypeId) (s x : AV) : Option (AV × Hp) :=
  match aappend P H t s x with
  | some z => some z
  | none => match frzOf H x with | some H1 => aappend P H1 t s x | none => none
/-- What is called: a function, arguments, a heap: a result, a heap. -/
abbrev Gam := FuncId → List AV → Hp → Option (AV × Hp)
def callable (P : Program) (g : FuncId) : Bool := match P.funcs[g]? with | some fn => fn.name != "runtime.NumGoroutine" && fn.body.isSome | none => false
def CallOk (P : Program) (g : FuncId) (args : List AV) (H : Hp) (r : AV) (H' : Hp) : Prop :=
  callable P g = true ∧ ∀ (X : Nat → Prop) (σ : Sg) (w : World) (vs : List Value), HeapRep X σ H w → vs.length = args.length → (∀ (i : Nat) x, args[i]? = some x → ∃ v, vs[i]? = some v ∧ Rep1 w (own X σ H) σ x v) →
    Calls P g vs.toArray w (fun e w' => ∃ v, e = .returned v ∧ Post X σ H w r H' v w')
def GamOk (P : Program) (Γ : Gam) : Prop := ∀ g args H r H', Γ g args H = some (r, H') → CallOk P g args H r H'
def evs (s : St) : List Operand → Option (List AV)
  | [] => some []
  | x :: l => match ev1 s x, evs s l with | some a, some r => some (a :: r) | _, _ => none
def idsOf (s : St) : List Operand → Option (List Nat)
  | [] => some []
  | x :: l => match ev s x, idsOf s l with | some (.c (.ptr id 0 _ 0)), some r => some (id :: r) | _, _ => none
def strOk (P : Program) (tx : TypeId) : AV → Bool
  | .c (.v (.string _)) => (match P.underlying tx with | some .string => true | _ => false) | _ => true
def noStr : AV → Bool
  | .c (.v (.string _)) => false | _ => true
def intsV : List AV → Option (List Int)
  | [] => some []
  | .c (.v (.int _ n)) :: l => (intsV l).map (n :: ·)
  | _ => none
/-- Zeros behind nothing; they are not told (what stands is '[:0]' of it). -/
def azeros (P : Program) (H : Hp) (t tn : TypeId) (n : Int) : Option (AV × Hp) :=
  match P.underlying t, P.underlying tn with
  | some (.slice el), some (.int _) => match tq P el, ty P el with
    | some (m, by_, z), some k => if 0 < m ∧ by_ ≤ 32768 ∧ z = some m ∧ 0 < n ∧ n ≤ LIM then some (.c (.sl H.length 0 n.toNat m), H ++ [some (.ty k [])]) else none
    | _, _ => none
  | _, _ => none
def acap (P : Program) (t : TypeId) (x : AV) : Option Nat :=
  match P.underlying t, x with
  | some (.slice _), .c (.v (.slice none 0 0)) => some 0
  | some (.slice _), .c .e0 => some 0
  | _, _ => none
def abuiltin (P : Program) (H : Hp) : Builtin → List AV → List TypeId → Option (AV × Hp)
  | .len, [x], [t] => match alenT P t x with | some n => some (.c (.v (.int .i64 ((n : Nat) : Int))), H) | none => none
  | .cap, [x], [t] => match acap P t x with | some n => some (.c (.v (.int .i64 ((n : Nat) : Int))), H) | none => none
  | .append, [.c (.v (.slice none 0 0)), .c (.v (.int .i64 n))], [t, tx] => azeros P H t tx n
  | .append, [x, y], [t, tx] => if slOrStr P tx = true ∧ strOk P tx y = true then aappendF P H t x y else none
  | .copy, [x, y], [t, _] => if noStr y = true then acopy P H t x y else none
  | .clear, [x], [t] => aclear P H t x
  | .max, .c (.v (.int k x)) :: l, _ => (intsV l).map fun ys => (.c (.v (.int k (ys.foldl (fun a y => if y > a then y else a) x))), H)
  | .min, .c (.v (.int k x)) :: l, _ => (intsV l).map fun ys => (.c (.v (.int k (ys.foldl (fun a y => if y < a then y else a) x))), H)
  | _, _, _ => none
def acall (P : Program) (Γ : Gam) (s : St) (c : Call) : Option (AV × Hp) :=
  match c.callee with
  | .builtin b => match evs s c.args.toList with | some xs => abuiltin P s.H b xs c.argTypes.toList | none => none
  | .value f => match ev s f, evs s c.args.toList with
    | some (.c (.v (.func (.func g) first caps))), some xs => if first.size = 0 ∧ caps.size = 0 then Γ g xs s.H else none
    | some (.c (.fn g ids)), some xs => Γ g (xs ++ ids.map fun id => .c (.ptr id 0 1 0)) s.H
    | _, _ => none
  | _ => none
def sm (H : Hp) (x : Option AV) : Option (AV × Hp) := x.map fun a => (a, H)
def oev (s : St) : Option Operand → Option (Option AV)
  | none => some none
  | some x => (ev s x).map some
def aop (P : Program) (Γ : Gam) (s : St) : Op → Option (AV × Hp)
  | .move x => sm s.H (ev s x)
  | .assign x => sm s.H (ev s x)
  | .pick c x y => match ev s c with | some (.c (.v (.bool b))) => if b = true then sm s.H (ev s x) else sm s.H (ev s y) | _ => none
  | .alloc t => (zrow P t).map fun r => (.c (.ptr s.H.length 0 1 0), s.H ++ [some r])
  | .box _ x => match ev s x with | some y => y.row.map fun r => (.c (.ptr s.H.length 0 1 0), s.H ++ [some r]) | none => none
  | .build t parts => sm s.H (abuild P s t parts.toList)
  | .buildSlice t n parts => abuildSlice P s t n parts.toList
  | .load t x => match ev s x with | some y => sm s.H (aload P s.H t y) | none => none
  | .store t x y => match ev s x, ev s y with | some p, some q => (astore P s.H t p q).map fun H' => (.tup [], H') | _, _ => none
  | .nilCheck x => match ev s x with
    | some (.c (.ptr id i e j)) => some (.c (.ptr id i e j), s.H)
    | some (.c (.rp t xs i j)) => some (.c (.rp t xs i j), s.H)
    | some (.c (.fn g ids)) => some (.c (.fn g ids), s.H)
    | some (.c (.v (.func (.func g) x y))) => some (.c (.v (.func (.func g) x y)), s.H)
    | _ => none
  | .binOp op t x y _ => match ev s x, ev s y with | some p, some q => sm s.H (abin P op t p q) | _, _ => none
  | .unOp op _ x => match ev s x with | some p => sm s.H (aun op p) | none => none
  | .convert src dst x => match ev s x with | some p => (match aconv P src dst p with | some r => some (r, s.H) | none => (match abytes P src dst p with | some r => some (r, s.H) | none => aself P s.H src dst p)) | none => none
  | .makeFunc (.func f) first captured => if first.size = 0 then (if captured.size = 0 then some (.c (.v (.func (.func f) #[] #[])), s.H) else (idsOf s captured.toList).map fun ids => (.c (.fn f ids), s.H)) else none
  | .makeSlice t l c => match ev s l, ev s c with | some p, some q => amake P s.H t p q | _, _ => none
  | .slice t x lo hi none => match ev s x, oev s lo, oev s hi with | some p, some l, some h => sm s.H (aslice P s.H t p l h) | _, _, _ => none
  | .slice t x lo hi (some m) => match ev s x, oev s lo, oev s hi, ev s m with | some p, some l, some h, some k => sm s.H (aslice3 P t p l h (some k)) | _, _, _, _ => none
  | .fieldAddr t x f => match ev s x with | some p => sm s.H (afieldAddr P t p f) | none => none
  | .field t x f => match ev s x with | some p => sm s.H (afield P t p f) | none => none
  | .indexAddr t x i => match ev s x, ev s i with | some p, some q => sm s.H (aindexAddr P t p q) | _, _ => none
  | .index t x i => match ev s x, ev s i with | some p, some q => sm s.H (aindex P t p q) | _, _ => none
  | .extract x i => match ev s x with | some (.tup l) => sm s.H l[i]? | _ => none
  | .call c => acall P Γ s c
  | _ => none
section
variable {P : Program} {X : Nat → Prop} {σ : Sg} {s : St} {H : Hp} {a : Act} {w : World} {T : Nat → Prop}
theorem evs_rep (he : EnvRep X σ s a w T) : ∀ {l : List Operand} {xs : List AV}, (∀ t, Operand.tmp t ∈ l → T t) → evs s l = some xs → xs.length = l.length ∧ ∀ (i : Nat) x, xs[i]? = some x → ∃ v, (l.map a.eval)[i]? = some v ∧ Rep1 w (own X σ s.H) σ x v
  | [], xs, hT, h => by cases h; exact ⟨rfl, fun i x hx => by simp at hx⟩
  | x :: l, xs, hT, h => by
    simp only [evs] at h
    split at h
    · rename_i y ys hy hys
      cases h
      obtain ⟨h1, h2⟩ := evs_rep he (fun t ht => hT t (List.mem_cons_of_mem _ ht)) hys
      refine ⟨by simp [h1], fun i z hz => ?_⟩
      cases i with
      | zero => cases hz; exact ⟨_, rfl, ev1_rep he (fun t ht => hT t (ht ▸ List.mem_cons_self ..)) hy⟩
      | succ i => exact h2 i z (by simpa using hz)
    · cases h
theorem idsOf_rep (he : EnvRep X σ s a w T) : ∀ {l : List Operand} {ids : List Nat}, (∀ t, Operand.tmp t ∈ l → T t) → idsOf s l = some ids → ids.length = l.length ∧ ∀ (k : Nat) id, ids[k]? = some id → ∃ b base ext, σ id = some (b, base, ext) ∧ (l.map a.eval)[k]? = some (.pointer (some ⟨b, base, none⟩))
  | [], xs, hT, h => by cases h; exact ⟨rfl, fun i x hx => by simp at hx⟩
  | x :: l, xs, hT, h => by
    simp only [idsOf] at h
    split at h
    · rename_i id e ys hy hys
      cases h
      obtain ⟨h1, h2⟩ := idsOf_rep he (fun t ht => hT t (List.mem_cons_of_mem _ ht)) hys
      refine ⟨by simp [h1], fun k i hk => ?_⟩
      cases k with
      | zero =>
        cases hk
        obtain ⟨b, base, ext, h3, h4⟩ := ev_rep he (fun t ht => hT t (ht ▸ List.mem_cons_self ..)) hy
        exact ⟨b, base, ext, h3, by simpa using h4⟩
      | succ k => exact h2 k i (by simpa using hk)
    · cases h
theorem oev_rep (he : EnvRep X σ s a w T) {x : Option Operand} {y : Option AV} (hT : ∀ t, x = some (.tmp t) → T t) (h : oev s x = some y) : ORep w (own X σ s.H) σ y (x.map a.eval) := by
  cases x with
  | none => cases h; exact trivial
  | some x =>
    simp only [oev] at h
    obtain ⟨z, hz, rfl⟩ := Option.map_eq_some_iff.1 h
    exact ev_rep he (fun t ht => hT t (by rw [ht])) hz
theorem val_ok {o : Oper} {next : Act → World → Prop} {Q : Exit → Act → World → Prop} {v : Value} {w' : World} (h : (execOp a.eval o).run P w = .ok (.value v) w') (hn : next (a.put o.dst v) w') : o.wp P a w next Q := by
  unfold Oper.wp; rw [h]; exact hn
theorem skip_ok {o : Oper} {next : Act → World → Prop} {Q : Exit → Act → World → Prop} {w' : World} (h : (execOp a.eval o).run P w = .ok .skip w') (hn : next (a.put o.dst undef) w') : o.wp P a w next Q := by
  unfold Oper.wp; rw [h]; exact hn
theorem run_v {m : Sem Value} {v : Value} {w' : World} (h : m.run P w = .ok v w') : (do pure (Next.value (← m)) : Sem Next).run P w = .ok (.value v) w' := by
  simp [Sem.run_bind, h]
theorem run_u {m : Sem Unit} {w' : World} (h : m.run P w = .ok () w') : (do m; pure Next.skip : Sem Next).run P w = .ok .skip w' := by
  simp [Sem.run_bind, h]
theorem intsV_rep {own : Nat → Prop} : ∀ {l : List AV} {vs : List Value} {ys : List Int}, vs.length = l.length → (∀ (i : Nat) x, l[i]? = some x → ∃ v, vs[i]? = some v ∧ Rep1 w own σ x v) → intsV l = some ys → ∃ ks : List IntKind, vs = (ks.zip ys).map (fun p => Value.int p.1 p.2) ∧ ks.length = ys.length
  | [], vs, ys, hl, h, hi => by cases hi; exact ⟨[], by simpa using hl, rfl⟩
  | x :: l, [], ys, hl, h, hi => by simp at hl
  | x :: l, v :: vs, ys, hl, h, hi => by
    unfold intsV at hi
    split at hi
    · rename_i heq; cases heq
    · rename_i k n l' heq
      cases heq
      obtain ⟨zs, hz, rfl⟩ := Option.map_eq_some_iff.1 hi
      obtain ⟨ks, h1, h2⟩ := intsV_rep (vs := vs) (by simpa using hl) (fun i y hy => h (i + 1) y (by simpa using hy)) hz
      obtain ⟨u, hu, hr⟩ := h 0 _ rfl
      cases hu
      obtain ⟨rfl, -⟩ := hr
      exact ⟨k :: ks, by simp [h1], by simp [h2]⟩
    · cases hi
theorem run_max : ∀ (ks : List IntKind) (ys : List Int) (k : IntKind) (x : Int) (w : World), (((ks.zip ys).map fun p => Value.int p.1 p.2).foldlM Builtin.max2 (.int k x)).run P w = .ok (.int k (((ks.zip ys).map (·.2)).foldl (fun a y => if y > a then y else a) x)) w
  | [], ys, k, x, w => by simp
  | _ :: _, [], k, x, w => by simp
  | k' :: ks, y :: ys, k, x, w => by
    simp only [List.zip_cons_cons, List.map_cons, List.foldlM_cons, List.foldl_cons, Sem.run_bind, Builtin.max2, Sem.run_pure, Result.andThen_ok]
    exact run_max ks ys k _ w
theorem run_min : ∀ (ks : List IntKind) (ys : List Int) (k : IntKind) (x : Int) (w : World), (((ks.zip ys).map fun p => Value.int p.1 p.2).foldlM Builtin.min2 (.int k x)).run P w = .ok (.int k (((ks.zip ys).map (·.2)).foldl (fun a y => if y < a then y else a) x)) w
  | [], ys, k, x, w => by simp
  | _ :: _, [], k, x, w => by simp
  | k' :: ks, y :: ys, k, x, w => by
    simp only [List.zip_cons_cons, List.map_cons, List.foldlM_cons, List.foldl_cons, Sem.run_bind, Builtin.min2, Sem.run_pure, Result.andThen_ok]
    exact run_min ks ys k _ w
theorem zip_snd {ks : List IntKind} {ys : List Int} (h : ks.length = ys.length) : (ks.zip ys).map (·.2) = ys := List.map_snd_zip (by omega)
theorem s_zeros (hh : HeapRep X σ H w) {t tn ty : TypeId} {n : Int} {r : AV} {H' : Hp} (h : azeros P H t tn n = some (r, H')) : ∃ v' w', (Builtin.append_ #[t, tn] ty #[.slice none 0 0, .int .i64 n]).run P w = .ok v' w' ∧ Post X σ H w r H' v' w' := by
  unfold azeros at h
  split at h
  · rename_i el kn hu hun
    split at h
    · rename_i m by_ z k hq hk
      obtain ⟨i, hi, rfl, rfl, hzz⟩ := tq_some hq
      split at h
      · rename_i hc
        obtain ⟨c1, c2, rfl, c4, c5⟩ := hc
        cases h
        obtain ⟨zv, hzv, hzs⟩ := Option.map_eq_some_iff.1 hzz
        obtain ⟨m, rfl⟩ := Int.eq_ofNat_of_zero_le (show 0 ≤ n by omega)
        have hm : m ≤ 4294967296 := by simp only [LIM] at c5; omega
        refine ⟨_, _, Lib.run_append_nil_zeros w t tn ty el i zv .i64 kn hu hun hi hzv m (by omega) c1 (by omega) (by
          calc m * i.bytes ≤ 4294967296 * 32768 := Nat.mul_le_mul hm c2
            _ ≤ 281474976710656 := by decide), ?_⟩
        have hC := grownCap_ge w m 0 el
        have hC2 := grownCap_le_maxLen w m 0 el (by simp only [maxLen]; omega)
        obtain ⟨d1, d2⟩ := hh.drew
        obtain ⟨h3, h4⟩ := d1.alloc (Builtin.zeroCells zv.cells m ++ Builtin.zeroCells zv.cells (grownCap w m 0 el - m)) el (.ty k []) (by simp [Row.size]) (fun i x hx => by simp at hx)
        have hsz : (Builtin.zeroCells zv.cells m ++ Builtin.zeroCells zv.cells (grownCap w m 0 el - m)).size = grownCap w m 0 el * i.size := by
          simp only [Array.size_append, size_zeroCells, hzs, ← Nat.add_mul]
          congr 1; omega
        refine ⟨_, .inr ⟨w.heap.size, 0, grownCap w m 0 el * i.size, grownCap w m 0 el, ?_, by simp, by simpa using hC, hC2, by simp⟩, h3, d2.trans h4⟩
        rw [hsz]; exact upd_same _ _ _
      · cases h
    · cases h
  · cases h
theorem s_cap {own : Nat → Prop} {t ty : TypeId} {x : AV} {u : Value} {n : Nat} (h : acap P t x = some n) (hx : RepA w own σ x u) : (Builtin.cap_ #[t] ty #[u]).run P w = .ok (.int .i64 (n : Int)) w := by
  unfold acap at h
  split at h
  · rename_i el hu
    cases h
    obtain ⟨rfl, -⟩ := hx
    simp [Builtin.cap_, run_underlying hu, goInt]
  · rename_i el hu
    cases h
    obtain ⟨a, rfl⟩ := hx
    simp [Builtin.cap_, run_underlying hu, goInt]
  · cases h
theorem s_builtin (hh : HeapRep X σ H w) {b : Builtin} {xs : List AV} {vs : List Value} {ts : Array TypeId} {ty : TypeId} {cs : Array Bool} {r : AV} {H' : Hp} (h : abuiltin P H b xs ts.toList = some (r, H')) (hl : vs.length = xs.length)
    (hv : ∀ (i : Nat) x, xs[i]? = some x → ∃ v, vs[i]? = some v ∧ Rep1 w (own X σ H) σ x v) : ∃ v w', (builtin b ts ty cs vs.toArray).run P w = .ok (.value v) w' ∧ Post X σ H w r H' v w' := by
  unfold abuiltin at h
  split at h
  · rename_i x t hts
    obtain rfl : ts = #[t] := by apply Array.ext'; simpa using hts
    match vs, hl with
    | [u], _ =>
    obtain ⟨v, e, hr⟩ := hv 0 x rfl
    cases e
    split at h
    · rename_i n hn
      cases h
      exact ⟨_, _, run_v (s_len hn hr.toA), Post.same hh ⟨rfl, rfl⟩⟩
    · cases h
  · rename_i x t hts
    obtain rfl : ts = #[t] := by apply Array.ext'; simpa using hts
    match vs, hl with
    | [u], _ =>
    obtain ⟨v, e, hr⟩ := hv 0 x rfl
    cases e
    split at h
    · rename_i n hn
      cases h
      exact ⟨_, _, run_v (s_cap hn hr.toA), Post.same hh ⟨rfl, rfl⟩⟩
    · cases h
  · rename_i n t tx hts
    obtain rfl : ts = #[t, tx] := by apply Array.ext'; simpa using hts
    match vs, hl with
    | [u, v], _ =>
    obtain ⟨u', e, hr⟩ := hv 0 _ rfl
    cases e
    obtain ⟨rfl, -⟩ := hr
    obtain ⟨v', e, hr'⟩ := hv 1 _ rfl
    cases e
    obtain ⟨rfl, -⟩ := hr'
    obtain ⟨v', w', h1, h2⟩ := s_zeros (ty := ty) hh h
    exact ⟨v', w', run_v h1, h2⟩
  · rename_i x y t tx hne hts
    obtain rfl : ts = #[t, tx] := by apply Array.ext'; simpa using hts
    match vs, hl with
    | [u, v], _ =>
    obtain ⟨u', e, hr⟩ := hv 0 x rfl
    cases e
    obtain ⟨v', e, hr'⟩ := hv 1 y rfl
    cases e
    split at h
    · rename_i hc
      have hst : ∀ q, y = .c (.v (.string q)) → P.underlying tx = some .string := fun q hq => by
        have := hc.2; subst hq; unfold strOk at this; simp only at this; split at this
        · assumption
        · cases this
      unfold aappendF at h
      split at h
      · rename_i z hz
        rw [h] at hz
        obtain ⟨v', w', h1, h2⟩ := s_append (ty := ty) hh hz hc.1 hst hr.toA hr'.toA
        exact ⟨v', w', run_v h1, h2⟩
      · split at h
        · rename_i H1 hf
          have hf' : ∃ id, frzRow H id = some H1 := by unfold frzOf at hf; split at hf <;> first | exact ⟨_, hf⟩ | cases hf
          obtain ⟨id, hf'⟩ := hf'
          obtain ⟨g1, g2⟩ := frzRow_ok hh hf'
          obtain ⟨v', w', h1, σ', h2, h3, h4⟩ := s_append (ty := ty) g1 h hc.1 hst (hr.toA.step g2) (hr'.toA.step g2)
          exact ⟨v', w', run_v h1, σ', h2, h3, g2.trans h4⟩
        · cases h
    · cases h
  · rename_i x y t tx hts
    obtain rfl : ts = #[t, tx] := by apply Array.ext'; simpa using hts
    match vs, hl with
    | [u, v], _ =>
    obtain ⟨u', e, hr⟩ := hv 0 x rfl
    cases e
    obtain ⟨v', e, hr'⟩ := hv 1 y rfl
    cases e
    split at h
    · rename_i hc
      obtain ⟨v', w', h1, h2⟩ := s_copy (ty := ty) (tx := tx) hh h (fun q hq => by subst hq; cases hc) hr.toA hr'.toA
      exact ⟨v', w', run_v h1, h2⟩
    · cases h
  · rename_i x t hts
    obtain rfl : ts = #[t] := by apply Array.ext'; simpa using hts
    match vs, hl with
    | [u], _ =>
    obtain ⟨v, e, hr⟩ := hv 0 x rfl
    cases e
    obtain ⟨v', w', h1, h2⟩ := s_clear (ty := ty) hh h hr.toA
    exact ⟨v', w', run_v h1, h2⟩
  · rename_i k x l
    cases vs with
    | nil => simp at hl
    | cons u vs =>
      obtain ⟨u', e, hr⟩ := hv 0 _ rfl
      cases e
      obtain ⟨rfl, -⟩ := hr
      obtain ⟨ys, hys, heq⟩ := Option.map_eq_some_iff.1 h
      cases heq
      obtain ⟨ks, rfl, hk⟩ := intsV_rep (vs := vs) (by simpa using hl) (fun i y hy => hv (i + 1) y (by simpa using hy)) hys
      refine ⟨_, _, run_v (m := Builtin.max_ ts ty _) ?_, Post.same hh ⟨rfl, rfl⟩⟩
      rw [← zip_snd hk]
      have := run_max (P := P) ks ys k x w
      simpa [Builtin.max_, zip_snd hk] using this
  · rename_i k x l
    cases vs with
    | nil => simp at hl
    | cons u vs =>
      obtain ⟨u', e, hr⟩ := hv 0 _ rfl
      cases e
      obtain ⟨rfl, -⟩ := hr
      obtain ⟨ys, hys, heq⟩ := Option.map_eq_some_iff.1 h
      cases heq
      obtain ⟨ks, rfl, hk⟩ := intsV_rep (vs := vs) (by simpa using hl) (fun i y hy => hv (i + 1) y (by simpa using hy)) hys
      refine ⟨_, _, run_v (m := Builtin.min_ ts ty _) ?_, Post.same hh ⟨rfl, rfl⟩⟩
      rw [← zip_snd hk]
      have := run_min (P := P) ks ys k x w
      simpa [Builtin.min_, zip_snd hk] using this
  · cases h
theorem call_sound {Γ : Gam} (hΓ : GamOk P Γ) (hh : HeapRep X σ H w) {g : FuncId} {xs : List AV} {vs : List Value} {r : AV} {H' : Hp} (h : Γ g xs H = some (r, H')) (hl : vs.length = xs.length) (hv : ∀ (i : Nat) x, xs[i]? = some x → ∃ v, vs[i]? = some v ∧ Rep1 w (own X σ H) σ x v)
    {o : Oper} {next : Act → World → Prop} {Q : Exit → Act → World → Prop} (ho : execOp a.eval o = callFunc g vs.toArray) (hn : ∀ v w', Post X σ H w r H' v w' → next (a.put o.dst v) w') : o.wp P a w next Q := by
  obtain ⟨hc, hcalls⟩ := hΓ g xs H r H' h
  have hrun : (callFunc g vs.toArray).run P w = .ok (.enter g vs.toArray) w := by
    unfold callable at hc
    split at hc
    · rename_i fn hf
      simp only [Bool.and_eq_true, bne_iff_ne, ne_eq] at hc
      obtain ⟨c, hb⟩ := Option.isSome_iff_exists.1 hc.2
      simp [callFunc, Sem.run_bind, program, Sem.run, hf, hc.1, hb]
    · cases hc
  unfold Oper.wp
  rw [ho, hrun]
  refine (hcalls X σ w vs hh hl hv).mono fun e w' ⟨v, he, hp⟩ => ?_
  subst he
  exact hn v w' hp
theorem exec_call {ρ : Operand → Value} {dst : Option Tmp} {f : Operand} {args : Array Operand} {ats : Array TypeId} {type : TypeId} {pos : String} {after : Array Edge} {guard : Option (Nat × Bool)} {g : FuncId} {caps : Array Value} (hf : ρ f = .func (.func g) #[] caps) :
    execOp ρ ⟨dst, .call ⟨.value f, args, ats⟩, type, pos, after, guard⟩ = callFunc g ((#[] ++ args.map ρ) ++ caps) := by
  unfold execOp resolve
  simp only [hf]
  rfl
theorem exec_build {ρ : Operand → Value} {dst : Option Tmp} {t : TypeId} {parts : Array (Nat × Operand)} {type : TypeId} {pos : String} {after : Array Edge} {guard : Option (Nat × Bool)} :
    execOp ρ ⟨dst, .build t parts, type, pos, after, guard⟩ = (do pure (Next.value (← Instr.build t (parts.map fun (i, x) => (i, ρ x)))) : Sem Next) := rfl
theorem exec_buildSlice {ρ : Operand → Value} {dst : Option Tmp} {t : TypeId} {n : Nat} {parts : Array (Nat × Operand)} {type : TypeId} {pos : String} {after : Array Edge} {guard : Option (Nat × Bool)} :
    execOp ρ ⟨dst, .buildSlice t n parts, type, pos, after, guard⟩ = (do pure (Next.value (← Instr.buildSlice t n (parts.map fun (i, x) => (i, ρ x)))) : Sem Next) := rfl
theorem sm_some {H : Hp} {x : Option AV} {r : AV} {H' : Hp} (h : sm H x = some (r, H')) : x = some r ∧ H' = H := by
  unfold sm at h
  obtain ⟨y, hy, heq⟩ := Option.map_eq_some_iff.1 h
  cases heq
  exact ⟨hy, rfl⟩
set_option maxHeartbeats 4000000 in
theorem op_sound {Γ : Gam} (hΓ : GamOk P Γ) {o : Oper} {x : AV} {H' : Hp} (h : aop P Γ s o.op = some (x, H')) (he : EnvRep X σ s a w (fun t => .tmp t ∈ o.op.operands)) (hh : HeapRep X σ s.H w)
    {next : Act → World → Prop} {Q : Exit → Act → World → Prop} (hn : ∀ v w', Post X σ s.H w x H' v w' → next (a.put o.dst v) w') : o.wp P a w next Q := by
  obtain ⟨dst, op, type, pos, after, guard⟩ := o
  -- a value that leaves the world
  have pureV : ∀ {m : Sem Value}, execOp a.eval ⟨dst, op, type, pos, after, guard⟩ = (do pure (Next.value (← m)) : Sem Next) → H' = s.H → (∃ v, m.run P w = .ok v w ∧ RepA w (own X σ s.H) σ x v) → Oper.wp P ⟨dst, op, type, pos, after, guard⟩ a w next Q := fun {m} hm hH ⟨v, hr, hx⟩ => by
    subst hH
    exact val_ok (by rw [hm]; exact run_v hr) (hn v w (Post.same hh hx))
  have memV : ∀ {m : Sem Value}, execOp a.eval ⟨dst, op, type, pos, after, guard⟩ = (do pure (Next.value (← m)) : Sem Next) → (∃ v w', m.run P w = .ok v w' ∧ Post X σ s.H w x H' v w') → Oper.wp P ⟨dst, op, type, pos, after, guard⟩ a w next Q := fun {m} hm ⟨v, w', hr, hx⟩ =>
    val_ok (by rw [hm]; exact run_v hr) (hn v w' hx)
  have nowV : ∀ {v : Value}, execOp a.eval ⟨dst, op, type, pos, after, guard⟩ = (pure (Next.value v) : Sem Next) → H' = s.H → RepA w (own X σ s.H) σ x v → Oper.wp P ⟨dst, op, type, pos, after, guard⟩ a w next Q := fun {v} hm hH hx => by
    subst hH
    exact val_ok (by rw [hm]; rfl) (hn v w (Post.same hh hx))
  cases op <;> simp only [aop] at h
  case move y => obtain ⟨h1, h2⟩ := sm_some h; exact nowV rfl h2 (ev_rep he (fun t ht => by simp [Op.operands, ht]) h1)
  case assign y => obtain ⟨h1, h2⟩ := sm_some h; exact nowV rfl h2 (ev_rep he (fun t ht => by simp [Op.operands, ht]) h1)
  case pick c y z =>
    split at h
    · rename_i b hb
      have hc := ev_rep he (x := c) (fun t ht => by simp [Op.operands, ht]) hb
      obtain ⟨hc, -⟩ := hc
      have hex : (execOp a.eval ⟨dst, .pick c y z, type, pos, after, guard⟩).run P w = .ok (.value (if b = true then a.eval y else a.eval z)) w := by
        simp [execOp, asBool, Sem.run_bind, hc]
      split at h
      · rename_i hbt
        obtain ⟨h1, rfl⟩ := sm_some h
        refine val_ok hex (hn _ w (Post.same hh ?_))
        rw [if_pos hbt]
        exact ev_rep he (fun t ht => by simp [Op.operands, ht]) h1
      · rename_i hbt
        obtain ⟨h1, rfl⟩ := sm_some h
        refine val_ok hex (hn _ w (Post.same hh ?_))
        rw [if_neg hbt]
        exact ev_rep he (fun t ht => by simp [Op.operands, ht]) h1
    · cases h
  case alloc t =>
    obtain ⟨r, hr, heq⟩ := Option.map_eq_some_iff.1 h
    cases heq
    exact memV (m := Instr.alloc t true (.tuple #[])) rfl (s_alloc hh hr)
  case box t y =>
    split at h
    · rename_i z hz
      obtain ⟨r, hr, heq⟩ := Option.map_eq_some_iff.1 h
      cases heq
      exact memV (m := Instr.box t (a.eval y)) rfl (s_box hh hr (ev_rep he (fun t ht => by simp [Op.operands, ht]) hz))
    · cases h
  case build t parts =>
    obtain ⟨h1, h2⟩ := sm_some h
    have hb := s_build (a := a) he (fun i t ht => by simp only [Op.operands, List.mem_toArray, List.mem_map]; exact ⟨_, ht, rfl⟩) h1
    exact pureV exec_build h2 hb
  case buildSlice t n parts =>
    have hb := s_buildSlice (a := a) he hh (fun i t ht => by simp only [Op.operands, List.mem_toArray, List.mem_map]; exact ⟨_, ht, rfl⟩) h
    exact memV exec_buildSlice hb
  case load t y =>
    split at h
    · rename_i z hz
      obtain ⟨h1, h2⟩ := sm_some h
      exact pureV (m := Instr.loadAt t (a.eval y)) rfl h2 (s_load hh h1 (ev_rep he (fun t ht => by simp [Op.operands, ht]) hz))
    · cases h
  case store t y z =>
    split at h
    · rename_i p q hp hq
      obtain ⟨H2, h1, heq⟩ := Option.map_eq_some_iff.1 h
      cases heq
      obtain ⟨w', h2, h3, h4⟩ := s_store hh h1 (ev_rep he (x := y) (fun t ht => by simp [Op.operands, ht]) hp) (ev_rep he (x := z) (fun t ht => by simp [Op.operands, ht]) hq)
      exact skip_ok (run_u (m := Instr.storeAt t (a.eval y) (a.eval z)) h2) (hn _ w' ⟨σ, ⟨[], rfl, rfl, fun i a ha => by simp at ha⟩, h3, h4⟩)
    · cases h
  case nilCheck y =>
    split at h
    · rename_i id i e j hz
      cases h
      have hr := ev_rep he (x := y) (fun t ht => by simp [Op.operands, ht]) hz
      obtain ⟨b, base, ext, hs, hv⟩ := hr
      exact val_ok (v := a.eval y) (by simp [execOp, hv]) (hn _ w (Post.same hh ⟨b, base, ext, hs, hv⟩))
    · rename_i t xs i j hz
      cases h
      have hr := ev_rep he (x := y) (fun t ht => by simp [Op.operands, ht]) hz
      obtain ⟨b, off, hv, hrest⟩ := hr
      exact val_ok (v := a.eval y) (by simp [execOp, hv]) (hn _ w (Post.same hh ⟨b, off, hv, hrest⟩))
    · rename_i g ids hz
      cases h
      have hr := ev_rep he (x := y) (fun t ht => by simp [Op.operands, ht]) hz
      obtain ⟨ps, hv, hrest⟩ := hr
      exact val_ok (v := a.eval y) (by simp [execOp, hv]) (hn _ w (Post.same hh ⟨ps, hv, hrest⟩))
    · rename_i g p q hz
      cases h
      have hr := ev_rep he (x := y) (fun t ht => by simp [Op.operands, ht]) hz
      obtain ⟨hv, h1⟩ := hr
      exact val_ok (v := a.eval y) (by simp [execOp, hv]) (hn _ w (Post.same hh ⟨hv, h1⟩))
    · cases h
  case binOp op t y z t2 =>
    split at h
    · rename_i p q hp hq
      obtain ⟨h1, h2⟩ := sm_some h
      exact pureV (m := do eqGuard op t y z (a.eval y) (a.eval z); binOp op t (a.eval y) (a.eval z)) rfl h2 (s_bin h1 (ev_rep he (x := y) (fun t ht => by simp [Op.operands, ht]) hp) (ev_rep he (x := z) (fun t ht => by simp [Op.operands, ht]) hq))
    · cases h
  case unOp op t y =>
    split at h
    · rename_i p hp
      obtain ⟨h1, h2⟩ := sm_some h
      exact pureV (m := Op.unary op (a.eval y)) rfl h2 (s_un h1 (ev_rep he (x := y) (fun t ht => by simp [Op.operands, ht]) hp))
    · cases h
  case convert t1 t2 y =>
    split at h
    · rename_i p hp
      have hr := ev_rep he (x := y) (fun t ht => by simp [Op.operands, ht]) hp
      split at h
      · rename_i r hc
        cases h
        exact pureV (m := convert t1 t2 (a.eval y)) rfl rfl (s_conv hc hr)
      · split at h
        · rename_i r hc
          cases h
          exact memV (m := convert t1 t2 (a.eval y)) rfl (s_bytes hh hc hr)
        · exact memV (m := convert t1 t2 (a.eval y)) rfl (s_self hh h hr)
    · cases h
  case makeFunc fn first captured =>
    cases fn <;> simp only [reduceCtorEq] at h
    rename_i f
    split at h
    · rename_i h0
      have hf : first = #[] := Array.eq_empty_of_size_eq_zero h0
      subst hf
      split at h
      · rename_i hc0
        cases h
        have hc : captured = #[] := Array.eq_empty_of_size_eq_zero hc0
        subst hc
        exact pureV (m := Instr.makeFunc (.func f) (#[].map a.eval) (#[].map a.eval)) rfl rfl ⟨.func (.func f) #[] #[], by simp [Instr.makeFunc], rfl, rfl⟩
      · obtain ⟨ids, hi, heq⟩ := Option.map_eq_some_iff.1 h
        cases heq
        obtain ⟨h1, h2⟩ := idsOf_rep he (fun t ht => by simp [Op.operands]; simpa using ht) hi
        exact pureV (m := Instr.makeFunc (.func f) (#[].map a.eval) (captured.map a.eval)) rfl rfl ⟨.func (.func f) #[] (captured.map a.eval), by simp [Instr.makeFunc], captured.toList.map a.eval, by rw [← Array.toList_map], by rw [List.length_map]; exact h1.symm, h2⟩
    · cases h
  case makeSlice t y z =>
    split at h
    · rename_i p q hp hq
      exact memV (m := Instr.makeSlice t (a.eval y) (a.eval z)) rfl (s_make hh h (ev_rep he (x := y) (fun t ht => by simp [Op.operands, ht]) hp) (ev_rep he (x := z) (fun t ht => by simp [Op.operands, ht]) hq))
    · cases h
  case slice t y lo hi mx =>
    cases mx with
    | none =>
      simp only at h
      split at h
      · rename_i p l u hp hl hu
        obtain ⟨h1, h2⟩ := sm_some h
        exact pureV (m := Instr.sliceAt t (a.eval y) (lo.map a.eval) (hi.map a.eval) none) rfl h2 (s_slice hh h1 (ev_rep he (x := y) (fun t ht => by simp [Op.operands, ht]) hp) (oev_rep he (fun t ht => by simp [Op.operands, ht]) hl) (oev_rep he (fun t ht => by simp [Op.operands, ht]) hu))
      · cases h
    | some m =>
      simp only at h
      split at h
      · rename_i p l u k hp hl hu hk
        obtain ⟨h1, h2⟩ := sm_some h
        exact pureV (m := Instr.sliceAt t (a.eval y) (lo.map a.eval) (hi.map a.eval) (some (a.eval m))) rfl h2 (s_slice3 hh h1 (ev_rep he (x := y) (fun t ht => by simp [Op.operands, ht]) hp) (oev_rep he (fun t ht => by simp [Op.operands, ht]) hl) (oev_rep he (fun t ht => by simp [Op.operands, ht]) hu) (ev_rep he (x := m) (fun t ht => by simp [Op.operands, ht]) hk))
      · cases h
  case fieldAddr t y f =>
    split at h
    · rename_i p hp
      obtain ⟨h1, h2⟩ := sm_some h
      exact pureV (m := Instr.fieldAt t (a.eval y) f) rfl h2 (s_fieldAddr h1 (ev_rep he (x := y) (fun t ht => by simp [Op.operands, ht]) hp))
    · cases h
  case field t y f =>
    split at h
    · rename_i p hp
      obtain ⟨h1, h2⟩ := sm_some h
      exact pureV (m := Instr.field t (a.eval y) f) rfl h2 (s_field h1 (ev_rep he (x := y) (fun t ht => by simp [Op.operands, ht]) hp))
    · cases h
  case indexAddr t y z =>
    split at h
    · rename_i p q hp hq
      obtain ⟨h1, h2⟩ := sm_some h
      exact pureV (m := Instr.indexAt t (a.eval y) (a.eval z)) rfl h2 (s_indexAddr h1 (ev_rep he (x := y) (fun t ht => by simp [Op.operands, ht]) hp) (ev_rep he (x := z) (fun t ht => by simp [Op.operands, ht]) hq))
    · cases h
  case index t y z =>
    split at h
    · rename_i p q hp hq
      obtain ⟨h1, h2⟩ := sm_some h
      exact pureV (m := Instr.index t (a.eval y) (a.eval z)) rfl h2 (s_index h1 (ev_rep he (x := y) (fun t ht => by simp [Op.operands, ht]) hp) (ev_rep he (x := z) (fun t ht => by simp [Op.operands, ht]) hq))
    · cases h
  case extract y i =>
    split at h
    · rename_i l hl
      obtain ⟨h1, h2⟩ := sm_some h
      obtain ⟨vs, hv, hl', hr⟩ := ev_rep he (x := y) (fun t ht => by simp [Op.operands, ht]) hl
      obtain ⟨v, hvi, hrv⟩ := hr i x h1
      refine pureV (m := Instr.extract (a.eval y) i) rfl h2 ⟨v, ?_, hrv.toA⟩
      rw [hv]
      simp [Instr.extract, hvi]
    · cases h
  case call c =>
    obtain ⟨callee, args, ats⟩ := c
    unfold acall at h
    cases callee with
    | builtin b =>
      simp only at h
      split at h
      · rename_i xs hxs
        obtain ⟨e1, e2⟩ := evs_rep he (fun t ht => by simp only [Op.operands, Call.operands]; simpa using ht) hxs
        obtain ⟨v, w', h1, h2⟩ := s_builtin (ty := type) (cs := args.map fun | .const _ => true | _ => false) hh h (by rw [List.length_map]; exact e1.symm) e2
        refine val_ok (v := v) (w' := w') ?_ (hn v w' h2)
        have : execOp a.eval ⟨dst, .call ⟨.builtin b, args, ats⟩, type, pos, after, guard⟩ = builtin b ats type (args.map fun | .const _ => true | _ => false) (args.map a.eval) := rfl
        rw [this, ← h1]
        congr 2
        apply Array.ext'
        simp
      · cases h
    | invoke r m => cases h
    | value f =>
      simp only at h
      split at h
      · rename_i g first caps xs hf hxs
        split at h
        · rename_i h0
          obtain ⟨hfv, -⟩ := ev_rep he (x := f) (fun t ht => by simp [Op.operands, Call.operands, ht]) hf
          obtain ⟨e1, e2⟩ := evs_rep he (fun t ht => by simp only [Op.operands, Call.operands]; simp; right; simpa using ht) hxs
          have hf0 : first = #[] := Array.eq_empty_of_size_eq_zero h0.1
          have hc0 : caps = #[] := Array.eq_empty_of_size_eq_zero h0.2
          subst hf0 hc0
          refine call_sound hΓ hh h (by rw [List.length_map]; exact e1.symm) e2 ?_ hn
          rw [exec_call hfv]
          congr 1
          apply Array.ext'
          simp
        · cases h
      · rename_i g ids xs hf hxs
        obtain ⟨ps, hfv, hpl, hps⟩ := ev_rep he (x := f) (fun t ht => by simp [Op.operands, Call.operands, ht]) hf
        obtain ⟨e1, e2⟩ := evs_rep he (fun t ht => by simp only [Op.operands, Call.operands]; simp; right; simpa using ht) hxs
        refine call_sound hΓ hh h (vs := args.toList.map a.eval ++ ps) (by simp [e1, hpl]) (fun i y hy => ?_) ?_ hn
        · by_cases hi : i < xs.length
          · rw [List.getElem?_append_left hi] at hy
            obtain ⟨v, hv, hr⟩ := e2 i y hy
            exact ⟨v, by rw [List.getElem?_append_left (by rw [List.length_map, ← e1]; exact hi)]; exact hv, hr⟩
          · rw [List.getElem?_append_right (by omega), List.getElem?_map] at hy
            obtain ⟨id, hid, rfl⟩ := Option.map_eq_some_iff.1 hy
            obtain ⟨b, base, ext, h1, h2⟩ := hps _ id hid
            exact ⟨_, by rw [List.getElem?_append_right (by rw [List.length_map, ← e1]; omega), List.length_map, ← e1]; exact h2, b, base, ext, h1, by simp⟩
        · rw [exec_call hfv]
          congr 1
          apply Array.ext'
          simp
      · cases h
  all_goals cases h
end
end Go.Proofs.Ytcnoooodnmjdmaa
end
section
set_option linter.unusedSimpArgs false
set_option linter.unusedVariables false
/- AHI, part J: a region in its own order; code; a function's body. -/
namespace Go.Proofs.Ytcnoooodnmjdmaa
open Go.RowKit

def put (s : St) (dst : Option Tmp) (x : AV) (H' : Hp) : Option St :=
  match dst with
  | none => some ⟨s.n, s.env, H'⟩
  | some d => if d < s.n then some ⟨s.n, lay s.env d x, H'⟩ else none
def aguard (ops : List Oper) (s : St) (o : Oper) : Option Bool :=
  match o.guard with
  | none => some true
  | some (j, want) => match ops[j]? with
    | some q => match q.dst with
      | some d => (match look s.env d with | some (.c (.v (.bool b))) => some (b == want) | some (.tup []) => some false | _ => none)
      | none => none
    | none => none
/-- The operations one behind the other. -/
def aops (P : Program) (Γ : Gam) (ops : List Oper) : List Oper → St → Option St
  | [], s => some s
  | o :: l, s => match aguard ops s o with
    | some true => (match aop P Γ s o.op with
      | some (x, H') => (match put s o.dst x H' with | some s' => aops P Γ ops l s' | none => none)
      | none => none)
    | some false => (match put s o.dst (.tup []) s.H with | some s' => aops P Γ ops l s' | none => none)
    | none => none
def trim (K : List Nat) (s : St) : St := ⟨s.n, s.env.filter fun p => K.contains p.1, s.H⟩
structure StRep (X : Nat → Prop) (σ : Sg) (s : St) (a : Act) (w : World) : Prop where
  size : a.tmps.size = s.n
  defers : a.defers = []
  env : EnvRep X σ s a w (fun _ => True)
  heap : HeapRep X σ s.H w
section
variable {P : Program} {X : Nat → Prop} {σ σ' : Sg} {s s' : St} {H H' : Hp} {a : Act} {w w' : World} {B : Nat}
theorem look_filter (K : List Nat) (t : Nat) : ∀ (l : List (Nat × AV)) (x : AV), look (l.filter fun p => K.contains p.1) t = some x → look l t = some x
  | [], x, h => h
  | (k, b) :: l, x, h => by
    rw [List.filter_cons] at h
    split at h
    · simp only [look] at h ⊢
      split
      · rename_i hk; rw [if_pos hk] at h; exact h
      · rename_i hk; rw [if_neg hk] at h; exact look_filter K t l x h
    · rename_i hk
      have := look_filter K t l x h
      simp only [look]
      split
      · rename_i hkt
        subst hkt
        exfalso
        -- no entry of this key is left
        have hnone : ∀ (l : List (Nat × AV)), look (l.filter fun p => K.contains p.1) k = none := fun l => by
          induction l with
          | nil => rfl
          | cons p l ih =>
            rw [List.filter_cons]
            split
            · rename_i hp
              simp only [look]
              rw [if_neg (fun e => hk (by rw [← e]; exact hp)), ih]
            · exact ih
        rw [hnone] at h; cases h
      · exact this
theorem StRep.trim (h : StRep X σ s a w) (K : List Nat) : StRep X σ (trim K s) a w :=
  ⟨h.size, h.defers, fun t x ht hx => h.env t x ht (look_filter K t _ x hx), h.heap⟩
/-- A slot is written. -/
theorem StRep.put (h : StRep X σ s a w) {dst : Option Tmp} {x : AV} {H' : Hp} {v : Value} (hp : put s dst x H' = some s') (hx : RepA w' (own X σ' H') σ' x v) (hh : HeapRep X σ' H' w') (hs : Step σ s.H w σ' H' w') : StRep X σ' s' (a.put dst v) w' := by
  unfold Go.Proofs.Ytcnoooodnmjdmaa.put at hp
  cases dst with
  | none =>
    cases hp
    exact ⟨h.size, h.defers, fun t y ht hy => by obtain ⟨u, h1, h2⟩ := h.env t y ht hy; exact ⟨u, h1, h2.step hs⟩, hh⟩
  | some d =>
    simp only at hp
    split at hp
    · rename_i hd
      cases hp
      refine ⟨by simp [Act.put, h.size], h.defers, fun t y ht hy => ?_, hh⟩
      simp only [look_lay] at hy
      split at hy
      · rename_i htd
        cases hy
        subst htd
        exact ⟨v, by simp [Act.put, h.size, hd], hx⟩
      · rename_i htd
        obtain ⟨u, h1, h2⟩ := h.env t y ht hy
        exact ⟨u, by simp only [Act.put]; rw [Array.getElem?_setIfInBounds_ne (fun e => htd e.symm)]; exact h1, h2.step hs⟩
    · cases hp
theorem guard_rep (h : StRep X σ s a w) {ops : Array Oper} {o : Oper} {b : Bool} (hg : aguard ops.toList s o = some b) : Region.wanted o (yielded ops a.tmps) = b := by
  unfold aguard at hg
  unfold Region.wanted
  split at hg
  · rename_i h0; cases hg; simp [h0]
  · rename_i j want h0
    simp only [h0]
    split at hg
    · rename_i q hq
      split at hg
      · rename_i d hd
        have hq' : ops[j]? = some q := by simpa using hq
        split at hg
        · rename_i c hc
          cases hg
          obtain ⟨v, h1, h2⟩ := h.env d _ trivial hc
          obtain ⟨rfl, -⟩ := h2
          simp [yielded, hq', hd, h1]
        · rename_i hc
          cases hg
          obtain ⟨v, h1, h2⟩ := h.env d _ trivial hc
          obtain ⟨vs, rfl, -⟩ := h2
          simp [yielded, hq', hd, h1]
        · cases hg
      · cases hg
    · cases hg
theorem wpList_sound {Γ : Gam} (hΓ : GamOk P Γ) {ops : Array Oper} {Q : Exit → Act → World → Prop} : ∀ {l : List Oper} {σ : Sg} {s : St} {a : Act} {w : World}, aops P Γ ops.toList l s = some s' → StRep X σ s a w →
    (∀ σ' a' w', StRep X σ' s' a' w' → Step σ s.H w σ' s'.H w' → Q .normal a' w') → wpList P ops Q l a w
  | [], σ, s, a, w, h, hs, hq => by cases h; exact hq σ a w hs (Step.refl _ _ _)
  | o :: l, σ, s, a, w, h, hs, hq => by
    simp only [aops] at h
    split at h
    · rename_i hg
      have hw := guard_rep hs hg
      split at h
      · rename_i x H' hx
        split at h
        · rename_i s1 h1
          have hH1 : s1.H = H' := by
            unfold Go.Proofs.Ytcnoooodnmjdmaa.put at h1
            split at h1
            · cases h1; rfl
            · split at h1
              · cases h1; rfl
              · cases h1
          refine wpList_step fun K hK => ?_
          rw [if_pos hw]
          refine op_sound hΓ hx (fun t x _ => hs.env t x trivial) hs.heap fun v w' hp => hK _ _ ?_
          obtain ⟨σ', p1, p2, p3⟩ := hp
          exact wpList_sound hΓ h (hs.put h1 p1 p2 p3) fun σ2 a2 w2 h2 h3 => hq σ2 a2 w2 h2 (p3.trans (by rw [hH1] at h3; exact h3))
        · cases h
      · cases h
    · rename_i hg
      have hw := guard_rep hs hg
      split at h
      · rename_i s1 h1
        have hH1 : s1.H = s.H := by
          unfold Go.Proofs.Ytcnoooodnmjdmaa.put at h1
          split at h1
          · cases h1; rfl
          · split at h1
            · cases h1; rfl
            · cases h1
        refine wpList_step fun K hK => ?_
        rw [if_neg (by rw [hw]; simp)]
        refine hK _ _ ?_
        have := hs.put (v := undef) h1 ⟨[], rfl, rfl, fun i a ha => by simp at ha⟩ hs.heap (Step.refl _ _ _)
        exact wpList_sound hΓ h this fun σ2 a2 w2 h2 h3 => hq σ2 a2 w2 h2 (by rw [hH1] at h3; exact h3)
      · cases h
    · cases h

/-! ### Code -/
/-- What is left behind, where the first B numbers alone stay what they are. -/
structure StepB (B : Nat) (σ : Sg) (H : Hp) (w : World) (σ' : Sg) (H' : Hp) (w' : World) : Prop where
  os : w'.os = w.os
  tape : w'.tape = w.tape
  output : w'.output = w.output
  keeps : Keeps w (ownB σ H) w' (ownB σ' H')
  ext : ∀ id, id < B → ∀ x, σ id = some x → σ' id = some x
  same : B ≤ H.length → B ≤ H'.length ∧ ∀ id, id < B → σ' id = σ id
theorem Step.toB {B : Nat} (h : Step σ H w σ' H' w') : StepB B σ H w σ' H' w' := ⟨h.os, h.tape, h.output, h.keeps, fun id _ => h.ext id, fun hB => ⟨Nat.le_trans hB h.len, fun id hid => h.same id (Nat.lt_of_lt_of_le hid hB)⟩⟩
theorem StepB.refl (B : Nat) (σ : Sg) (H : Hp) (w : World) : StepB B σ H w σ H w := (Step.refl σ H w).toB
theorem StepB.trans {B : Nat} {σ'' : Sg} {H'' : Hp} {w'' : World} (h : StepB B σ H w σ' H' w') (k : StepB B σ' H' w' σ'' H'' w'') : StepB B σ H w σ'' H'' w'' :=
  ⟨k.os.trans h.os, k.tape.trans h.tape, k.output.trans h.output, h.keeps.trans k.keeps, fun id hid x hx => k.ext _ hid _ (h.ext _ hid _ hx), fun hB => ⟨(k.same (h.same hB).1).1, fun id hid => ((k.same (h.same hB).1).2 id hid).trans ((h.same hB).2 id hid)⟩⟩
/-- Whatever world it is run in, code comes to what Q says of the frame and the heap. -/
def AWP (P : Program) (B : Nat) (c : Code) (Q : Exit → St → Prop) (s : St) : Prop :=
  ∀ X σ a w, StRep X σ s a w → c.wp P (fun e a' w' => ∃ σ' s', Q e s' ∧ StRep X σ' s' a' w' ∧ StepB B σ s.H w σ' s'.H w') a w
/-- One state stands for another one. -/
def Ghost (B : Nat) (s s' : St) : Prop := ∀ X σ a w, StRep X σ s a w → ∃ σ', StRep X σ' s' a w ∧ StepB B σ s.H w σ' s'.H w
theorem Ghost.refl (B : Nat) (s : St) : Ghost B s s := fun X σ a w h => ⟨σ, h, StepB.refl _ _ _ _⟩
theorem Ghost.trans {s s' s'' : St} (h : Ghost B s s') (k : Ghost B s' s'') : Ghost B s s'' := fun X σ a w hs => by
  obtain ⟨σ1, h1, h2⟩ := h X σ a w hs
  obtain ⟨σ2, h3, h4⟩ := k X σ1 a w h1
  exact ⟨σ2, h3, h2.trans h4⟩
theorem Ghost.trim (B : Nat) (K : List Nat) (s : St) : Ghost B s (trim K s) := fun X σ a w h => ⟨σ, h.trim K, StepB.refl _ _ _ _⟩
def thenQ (N : St → Prop) (Q : Exit → St → Prop) : Exit → St → Prop
  | .normal, s => N s
  | e, s => Q e s
def blockQ (id : Nat) (Q : Exit → St → Prop) : Exit → St → Prop
  | .exit id', s => if id' = id then Q .normal s else Q (.exit id') s
  | e, s => Q e s
theorem AWP.mono {c : Code} {Q Q' : Exit → St → Prop} (hq : ∀ e s, Q e s → Q' e s) (h : AWP P B c Q s) : AWP P B c Q' s := fun X σ a w hs =>
  Code.wp_mono (fun e a w ⟨σ', s', h1, h2, h3⟩ => ⟨σ', s', hq _ _ h1, h2, h3⟩) (h X σ a w hs)
theorem AWP.ghost {c : Code} {Q : Exit → St → Prop} (hg : Ghost B s s') (h : AWP P B c Q s') : AWP P B c Q s := fun X σ a w hs => by
  obtain ⟨σ1, h1, h2⟩ := hg X σ a w hs
  exact Code.wp_mono (fun e a w ⟨σ', s', h3, h4, h5⟩ => ⟨σ', s', h3, h4, h2.trans h5⟩) (h X σ1 a w h1)
theorem AWP.skip {Q : Exit → St → Prop} (h : Q .normal s) : AWP P B .skip Q s := fun X σ a w hs => wp_skip ⟨σ, s, h, hs, StepB.refl _ _ _ _⟩
theorem AWP.ret {Q : Exit → St → Prop} (h : Q .ret s) : AWP P B .ret Q s := fun X σ a w hs => wp_ret ⟨σ, s, h, hs, StepB.refl _ _ _ _⟩
theorem AWP.exit {id : Nat} {Q : Exit → St → Prop} (h : Q (.exit id) s) : AWP P B (.exit id) Q s := fun X σ a w hs => wp_exit ⟨σ, s, h, hs, StepB.refl _ _ _ _⟩
theorem AWP.label {l : Nat} {Q : Exit → St → Prop} (h : Q .normal s) : AWP P B (.label l) Q s := fun X σ a w hs => wp_label ⟨σ, s, h, hs, StepB.refl _ _ _ _⟩
theorem AWP.seq {c d : Code} {Q : Exit → St → Prop} (h : AWP P B c (thenQ (AWP P B d Q) Q) s) : AWP P B (.seq c d) Q s := fun X σ a w hs =>
  wp_seq (Code.wp_mono (fun e a1 w1 ⟨σ1, s1, h1, h2, h3⟩ => by
    cases e with
    | normal => exact Code.wp_mono (fun e a2 w2 ⟨σ2, s2, h4, h5, h6⟩ => ⟨σ2, s2, h4, h5, h3.trans h6⟩) (h1 X σ1 a1 w1 h2)
    | _ => exact ⟨σ1, s1, h1, h2, h3⟩) (h X σ a w hs))
theorem AWP.block {id : Nat} {c : Code} {Q : Exit → St → Prop} (h : AWP P B c (blockQ id Q) s) : AWP P B (.block id c) Q s := fun X σ a w hs =>
  wp_block (Code.wp_mono (fun e a1 w1 ⟨σ1, s1, h1, h2, h3⟩ => by
    cases e with
    | exit id' =>
      simp only [Exit.inBlock]
      simp only [blockQ] at h1
      split
      · rename_i he; rw [if_pos he] at h1; exact ⟨σ1, s1, h1, h2, h3⟩
      · rename_i he; rw [if_neg he] at h1; exact ⟨σ1, s1, h1, h2, h3⟩
    | _ => exact ⟨σ1, s1, h1, h2, h3⟩) (h X σ a w hs))
/-- A test. -/
def testB (s : St) (c : Operand) : Option Bool := match ev s c with | some (.c (.v (.bool b))) => some b | _ => none
/-- A test that isn't known. -/
theorem AWP.condU {c : Operand} {x y : Code} {Q : Exit → St → Prop} (hc : ev s c = some (.c .ub)) (ht : AWP P B x Q s) (hf : AWP P B y Q s) : AWP P B (.cond c x y) Q s := fun X σ a w hs => by
  obtain ⟨b, he⟩ := ev_rep hs.env (x := c) (fun _ _ => trivial) hc
  exact wp_cond_split he (fun _ => ht X σ a w hs) (fun _ => hf X σ a w hs)
theorem AWP.cond {c : Operand} {x y : Code} {b : Bool} {Q : Exit → St → Prop} (hc : testB s c = some b) (ht : b = true → AWP P B x Q s) (hf : b = false → AWP P B y Q s) : AWP P B (.cond c x y) Q s := fun X σ a w hs => by
  have he : a.eval c = .bool b := by
    unfold testB at hc
    split at hc
    · rename_i b' hb
      cases hc
      exact (ev_rep hs.env (fun _ _ => trivial) hb).1
    · cases hc
  exact wp_cond_split he (fun h => ht h X σ a w hs) (fun h => hf h X σ a w hs)
theorem AWP.region {Γ : Gam} (hΓ : GamOk P Γ) {id : Nat} {ops : Array Oper} {Q : Exit → St → Prop} (h : aops P Γ ops.toList ops.toList s = some s') (hq : Q .normal s') : AWP P B (.region id ops false) Q s := fun X σ a w hs =>
  wp_region_list (wpList_sound hΓ h hs fun σ' a' w' h1 h2 => ⟨σ', s', hq, h1, h2.toB⟩)
theorem AWP.loop {c : Code} {Q : Exit → St → Prop} (I : St → Prop) (μ : St → Nat) (h0 : ∃ s0, Ghost B s s0 ∧ I s0) (round : ∀ s, I s → AWP P B c (thenQ (fun s' => ∃ s'', Ghost B s' s'' ∧ I s'' ∧ μ s'' < μ s) Q) s) : AWP P B (.loop c) Q s := fun X σ a w hs => by
  obtain ⟨s0, hg, hI0⟩ := h0
  obtain ⟨σ0, hs0, hst0⟩ := hg X σ a w hs
  have key : ∀ (n : Nat) (σ1 : Sg) (s1 : St) (a1 : Act) (w1 : World), μ s1 = n → I s1 → StRep X σ1 s1 a1 w1 → StepB B σ s.H w σ1 s1.H w1 →
      ∀ b k cs, ∃ e a' w', (∃ σ' s', Q e s' ∧ StRep X σ' s' a' w' ∧ StepB B σ s.H w σ' s'.H w') ∧ Arrives P (lone (b.at a1 (.code c :: .inLoop c :: k)) cs w1) b k cs e a' w' := by
    intro n
    induction n using Nat.strongRecOn with
    | _ n ih =>
      intro σ1 s1 a1 w1 hn hI hs1 hst1 b k cs
      obtain ⟨e, a2, w2, ⟨σ2, s2, hq, hs2, hst2⟩, harr⟩ := round s1 hI X σ1 a1 w1 hs1 b (.inLoop c :: k) cs
      cases e with
      | normal =>
        obtain ⟨s3, hg3, hI3, hlt⟩ := hq
        obtain ⟨σ3, hs3, hst3⟩ := hg3 X σ2 a2 w2 hs2
        obtain ⟨e4, a4, w4, hq4, harr4⟩ := ih (μ s3) (hn ▸ hlt) σ3 s3 a2 w2 rfl hI3 hs3 ((hst1.trans hst2).trans hst3) b k cs
        exact ⟨e4, a4, w4, hq4, .of_steps (Steps.trans harr (.one step_inLoop)) harr4⟩
      | exit id => exact ⟨_, a2, w2, ⟨σ2, s2, hq, hs2, hst1.trans hst2⟩, .pass (x := .inLoop c) rfl (fun _ _ => .inl (by simp)) harr⟩
      | goto l => exact ⟨_, a2, w2, ⟨σ2, s2, hq, hs2, hst1.trans hst2⟩, .pass (x := .inLoop c) rfl (fun _ _ => .inl (by simp)) harr⟩
      | ret => exact ⟨_, a2, w2, ⟨σ2, s2, hq, hs2, hst1.trans hst2⟩, .pass (x := .inLoop c) rfl (fun _ _ => .inl (by simp)) harr⟩
      | panic ch => exact ⟨_, a2, w2, ⟨σ2, s2, hq, hs2, hst1.trans hst2⟩, .pass (x := .inLoop c) rfl (fun _ _ => .inl (by simp)) harr⟩
      | outgrown => exact ⟨_, a2, w2, ⟨σ2, s2, hq, hs2, hst1.trans hst2⟩, .pass (x := .inLoop c) rfl (fun _ _ => .inl (by simp)) harr⟩
  intro b k cs
  obtain ⟨e, a', w', hq, harr⟩ := key _ σ0 s0 a w rfl hI0 hs0 hst0 b k cs
  exact ⟨e, a', w', hq, .of_steps (.one step_loop) harr⟩
end
end Go.Proofs.Ytcnoooodnmjdmaa
end
section
set_option linter.unusedSimpArgs false
set_option linter.unusedVariables false
/- AHI, part K: numbers given anew; results; calls out of bodies; what is lent. -/
namespace Go.Proofs.Ytcnoooodnmjdmaa
open Go.RowKit

/-! ### Numbers given anew -/
def idx (ρ : List Nat) (id : Nat) : Option Nat := go ρ 0
where go : List Nat → Nat → Option Nat
  | [], _ => none
  | x :: l, k => if x = id then some k else go l (k + 1)
theorem idx_go {id : Nat} : ∀ {ρ : List Nat} {k i : Nat}, idx.go id ρ k = some i → k ≤ i ∧ ρ[i - k]? = some id
  | [], k, i, h => by cases h
  | x :: l, k, i, h => by
    simp only [idx.go] at h
    split at h
    · rename_i hx; cases h; exact ⟨Nat.le_refl _, by simp [hx]⟩
    · obtain ⟨h1, h2⟩ := idx_go h
      refine ⟨by omega, ?_⟩
      rw [show i - k = (i - (k + 1)) + 1 by omega, List.getElem?_cons_succ]; exact h2
theorem idx_some {ρ : List Nat} {id i : Nat} (h : idx ρ id = some i) : ρ[i]? = some id := by
  have := (idx_go h).2
  simpa using this
def CV.ren (ρ : List Nat) : CV → Option CV
  | .ptr id i e j => (idx ρ id).map fun n => .ptr n i e j
  | .sl id o len e => (idx ρ id).map fun n => .sl n o len e
  | .fn f ids => (ids.mapM (idx ρ)).map fun l => .fn f l
  | c => some c
def renL (ρ : List Nat) : List CV → Option (List CV)
  | [] => some []
  | c :: l => match c.ren ρ, renL ρ l with | some d, some r => some (d :: r) | _, _ => none
def Row.ren (ρ : List Nat) : Row → Option Row
  | .raw l => (renL ρ l).map .raw
  | .ty t xs => some (.ty t xs)
def AV.ren1 (ρ : List Nat) : AV → Option AV
  | .c x => (x.ren ρ).map .c | .agg r => (r.ren ρ).map .agg | .tup _ => none
def renA (ρ : List Nat) : List AV → Option (List AV)
  | [] => some []
  | c :: l => match c.ren1 ρ, renA ρ l with | some d, some r => some (d :: r) | _, _ => none
def AV.ren (ρ : List Nat) : AV → Option AV
  | .c x => (x.ren ρ).map .c | .agg r => (r.ren ρ).map .agg | .tup l => (renA ρ l).map .tup
def gcH (ρ : List Nat) (H : Hp) : List Nat → Option Hp
  | [] => some []
  | id :: l => match H[id]?, gcH ρ H l with
    | some (some r), some K => (r.ren ρ).map fun r' => some r' :: K
    | some none, some K => some (none :: K)
    | _, _ => none
def gcEnv (ρ : List Nat) : List (Nat × AV) → List (Nat × AV)
  | [] => []
  | (k, a) :: l => match a.ren ρ with | some b => (k, b) :: gcEnv ρ l | none => gcEnv ρ l
/-- The state with the rows of these numbers alone, under the numbers 0, 1, .. -/
def gc (ρ : List Nat) (s : St) : Option St := (gcH ρ s.H ρ).map fun K => ⟨s.n, gcEnv ρ s.env, K⟩
/-- No number twice. -/
def nodupB : List Nat → Bool
  | [] => true | x :: l => !l.contains x && nodupB l
theorem nodupB_spec : ∀ {l : List Nat}, nodupB l = true → ∀ (i j : Nat) x, l[i]? = some x → l[j]? = some x → i = j
  | [], _, i, j, x, h1, h2 => by simp at h1
  | y :: l, h, i, j, x, h1, h2 => by
    simp only [nodupB, Bool.and_eq_true, Bool.not_eq_true', List.contains_eq_mem, decide_eq_false_iff_not] at h
    cases i with
    | zero =>
      cases j with
      | zero => rfl
      | succ j => simp at h1 h2; subst h1; exact (h.1 (List.mem_of_getElem? h2)).elim
    | succ i =>
      cases j with
      | zero => simp at h1 h2; subst h2; exact (h.1 (List.mem_of_getElem? h1)).elim
      | succ j => rw [nodupB_spec h.2 i j x (by simpa using h1) (by simpa using h2)]
def rsg (ρ : List Nat) (σ : Sg) : Sg := fun i => match ρ[i]? with | some id => σ id | none => none
section
variable {P : Program} {X : Nat → Prop} {σ σ' : Sg} {s s' : St} {H H' : Hp} {a : Act} {w w' : World} {B : Nat} {ρ : List Nat}
theorem rsg_at {id i : Nat} (h : idx ρ id = some i) : rsg ρ σ i = σ id := by unfold rsg; rw [idx_some h]
theorem mapM_idx : ∀ {ids l : List Nat}, ids.mapM (idx ρ) = some l → l.length = ids.length ∧ ∀ (k : Nat) i, l[k]? = some i → ∃ id, ids[k]? = some id ∧ idx ρ id = some i
  | [], l, h => by simp at h; subst h; exact ⟨rfl, fun k i hk => by simp at hk⟩
  | x :: ids, l, h => by
    simp only [List.mapM_cons, Option.bind_eq_bind, Option.pure_def] at h
    obtain ⟨y, hy, h⟩ := Option.bind_eq_some_iff.1 h
    obtain ⟨r, hr, h⟩ := Option.bind_eq_some_iff.1 h
    cases h
    obtain ⟨h1, h2⟩ := mapM_idx hr
    refine ⟨by simp [h1], fun k i hk => ?_⟩
    cases k with
    | zero => cases hk; exact ⟨x, rfl, hy⟩
    | succ k => exact h2 k i (by simpa using hk)
theorem ren_rep {o1 o2 : Nat → Prop} (ho : ∀ b, o2 b → o1 b) {c d : CV} {v : Value} (h : c.ren ρ = some d) (hr : Rep w o1 σ c v) : Rep w o2 (rsg ρ σ) d v := by
  have hk : Keeps w o1 w o2 := ⟨Nat.le_refl _, fun _ _ _ => rfl, fun b hb => .inl (ho b hb)⟩
  cases c with
  | v x => cases h; exact hr
  | e0 => cases h; exact hr
  | ub => cases h; exact hr
  | ptr id i e j =>
    obtain ⟨n, hn, rfl⟩ := Option.map_eq_some_iff.1 h
    obtain ⟨b, base, ext, h1, h2⟩ := hr
    exact ⟨b, base, ext, by rw [rsg_at hn]; exact h1, h2⟩
  | sl id o len e =>
    obtain ⟨n, hn, rfl⟩ := Option.map_eq_some_iff.1 h
    exact hr.imp (fun h => h) fun ⟨b, base, ext, c, h1, h2⟩ => ⟨b, base, ext, c, by rw [rsg_at hn]; exact h1, h2⟩
  | rs t xs => cases h; exact RepSl.mono hk hr
  | rp t xs i j => cases h; exact Rep.mono (σ' := rsg ρ σ) (σ := rsg ρ σ) hk (fun _ _ h => h) (c := .rp t xs i j) hr
  | fn f ids =>
    obtain ⟨l, hl, rfl⟩ := Option.map_eq_some_iff.1 h
    obtain ⟨ps, h1, h2, h3⟩ := hr
    obtain ⟨e1, e2⟩ := mapM_idx hl
    refine ⟨ps, h1, by rw [h2, e1], fun k i hk' => ?_⟩
    obtain ⟨id, hid, hi⟩ := e2 k i hk'
    obtain ⟨b, base, ext, h4, h5⟩ := h3 k id hid
    exact ⟨b, base, ext, by rw [rsg_at hi]; exact h4, h5⟩
theorem renL_rep {o1 o2 : Nat → Prop} (ho : ∀ b, o2 b → o1 b) : ∀ {l l' : List CV} {g : Cells}, renL ρ l = some l' → LRep w o1 σ l g → LRep w o2 (rsg ρ σ) l' g ∧ l'.length = l.length
  | [], l', g, h, hr => by cases h; exact ⟨fun i c hc => by simp at hc, rfl⟩
  | c :: l, l', g, h, hr => by
    simp only [renL] at h
    split at h
    · rename_i d r hd hrr
      cases h
      obtain ⟨h1, h2⟩ := renL_rep ho (g := fun k => g (1 + k)) hrr (fun i c hc => by
        obtain ⟨v, h3, h4⟩ := hr (i + 1) c (by simpa using hc)
        exact ⟨v, by show g (1 + i) = _; rw [Nat.add_comm 1]; exact h3, h4⟩)
      refine ⟨fun i e he => ?_, by simp [h2]⟩
      cases i with
      | zero => cases he; obtain ⟨v, h3, h4⟩ := hr 0 c rfl; exact ⟨v, h3, ren_rep ho hd h4⟩
      | succ i =>
        obtain ⟨v, h3, h4⟩ := h1 i e (by simpa using he)
        have h3' : g (1 + i) = some v := h3
        exact ⟨v, by rw [Nat.add_comm 1] at h3'; exact h3', h4⟩
    · cases h
theorem renRow_rep {o1 o2 : Nat → Prop} (ho : ∀ b, o2 b → o1 b) {r r' : Row} {g : Cells} (h : r.ren ρ = some r') (hr : RowRep w o1 σ r g) : RowRep w o2 (rsg ρ σ) r' g ∧ r'.size = r.size := by
  cases r with
  | raw l =>
    obtain ⟨l', hl, rfl⟩ := Option.map_eq_some_iff.1 h
    exact renL_rep ho hl hr
  | ty t xs => cases h; exact ⟨fun i x hx => RepD.mono ⟨Nat.le_refl _, fun _ _ _ => rfl, fun b hb => .inl (ho b hb)⟩ (fun _ _ h => h) (hr i x hx), rfl⟩
theorem ren1_rep {o1 o2 : Nat → Prop} (ho : ∀ b, o2 b → o1 b) {x y : AV} {v : Value} (h : x.ren1 ρ = some y) (hr : Rep1 w o1 σ x v) : Rep1 w o2 (rsg ρ σ) y v := by
  cases x with
  | c c => obtain ⟨d, hd, rfl⟩ := Option.map_eq_some_iff.1 h; exact ren_rep ho hd hr
  | agg r =>
    obtain ⟨r', hr', rfl⟩ := Option.map_eq_some_iff.1 h
    obtain ⟨vs, h1, h2, h3⟩ := hr
    obtain ⟨h4, h5⟩ := renRow_rep ho hr' h3
    exact ⟨vs, h1, h2.trans h5.symm, h4⟩
  | tup l => cases h
theorem renA_rep {o1 o2 : Nat → Prop} (ho : ∀ b, o2 b → o1 b) : ∀ {l l' : List AV} {vs : List Value}, renA ρ l = some l' → (∀ (i : Nat) x, l[i]? = some x → ∃ v, vs[i]? = some v ∧ Rep1 w o1 σ x v) → l'.length = l.length ∧ ∀ (i : Nat) x, l'[i]? = some x → ∃ v, vs[i]? = some v ∧ Rep1 w o2 (rsg ρ σ) x v
  | [], l', vs, h, hr => by cases h; exact ⟨rfl, fun i c hc => by simp at hc⟩
  | c :: l, l', vs, h, hr => by
    simp only [renA] at h
    split at h
    · rename_i d r hd hrr
      cases h
      obtain ⟨h1, h2⟩ := renA_rep ho (vs := vs.drop 1) hrr (fun i x hx => by
        obtain ⟨v, h3, h4⟩ := hr (i + 1) x (by simpa using hx)
        exact ⟨v, by rw [List.getElem?_drop, Nat.add_comm]; exact h3, h4⟩)
      refine ⟨by simp [h1], fun i e he => ?_⟩
      cases i with
      | zero => cases he; obtain ⟨v, h3, h4⟩ := hr 0 c rfl; exact ⟨v, h3, ren1_rep ho hd h4⟩
      | succ i =>
        obtain ⟨v, h3, h4⟩ := h2 i e (by simpa using he)
        exact ⟨v, by rw [List.getElem?_drop, Nat.add_comm] at h3; exact h3, h4⟩
    · cases h
theorem renAV_rep {o1 o2 : Nat → Prop} (ho : ∀ b, o2 b → o1 b) {x y : AV} {v : Value} (h : x.ren ρ = some y) (hr : RepA w o1 σ x v) : RepA w o2 (rsg ρ σ) y v := by
  cases x with
  | c c => exact Rep1.toA (ren1_rep ho (x := .c c) (y := y) h hr)
  | agg r => exact Rep1.toA (ren1_rep ho (x := .agg r) (y := y) h hr)
  | tup l =>
    obtain ⟨l', hl, rfl⟩ := Option.map_eq_some_iff.1 h
    obtain ⟨vs, h1, h2, h3⟩ := hr
    obtain ⟨h4, h5⟩ := renA_rep ho hl h3
    exact ⟨vs, h1, h2.trans h4.symm, h5⟩
theorem gcH_spec : ∀ {l : List Nat} {K : Hp}, gcH ρ H l = some K → K.length = l.length ∧ ∀ (i : Nat) r', K[i]? = some (some r') → ∃ id r, l[i]? = some id ∧ H[id]? = some (some r) ∧ r.ren ρ = some r'
  | [], K, h => by cases h; exact ⟨rfl, fun i c hc => by simp at hc⟩
  | id :: l, K, h => by
    simp only [gcH] at h
    split at h
    · rename_i r K' hr hK
      obtain ⟨r', hr', rfl⟩ := Option.map_eq_some_iff.1 h
      obtain ⟨h1, h2⟩ := gcH_spec hK
      refine ⟨by simp [h1], fun i q hq => ?_⟩
      cases i with
      | zero => cases hq; exact ⟨id, r, rfl, hr, hr'⟩
      | succ i => exact h2 i q (by simpa using hq)
    · rename_i K' hr hK
      cases h
      obtain ⟨h1, h2⟩ := gcH_spec hK
      refine ⟨by simp [h1], fun i q hq => ?_⟩
      cases i with
      | zero => cases hq
      | succ i => exact h2 i q (by simpa using hq)
    · cases h
theorem gc_heap (hh : HeapRep X σ H w) {K : Hp} (hg : gcH ρ H ρ = some K) (hn : nodupB ρ = true) : HeapRep X (rsg ρ σ) K w ∧ ∀ b, own X (rsg ρ σ) K b → own X σ H b := by
  obtain ⟨h1, h2⟩ := gcH_spec hg
  have ho : ∀ b, ownB (rsg ρ σ) K b → ownB σ H b := fun b ⟨i, r', x, h3, h4⟩ => by
    obtain ⟨id, r, h5, h6, -⟩ := h2 i r' h3
    unfold rsg at h4
    rw [h5] at h4
    exact ⟨id, r, x, h6, h4⟩
  have ho' : ∀ b, own X (rsg ρ σ) K b → own X σ H b := fun b hb => hb.imp (ho b) (fun h => h)
  refine ⟨⟨fun i hi => ?_, fun i r' hr' => ?_, hh.xlt, fun b hb hob => hh.xdis b hb (ho b hob), fun i i' r1 r2 b x x' g1 g2 g3 g4 => ?_⟩, ho'⟩
  · unfold rsg
    rw [List.getElem?_eq_none (by omega)]
  · obtain ⟨id, r, h5, h6, h7⟩ := h2 i r' hr'
    have hσ : rsg ρ σ i = σ id := by unfold rsg; rw [h5]
    rcases hh.row id r h6 with h8 | ⟨b, base, ext, h8, h9, h10, h11, h12⟩
    · exact .inl (hσ.trans h8)
    · obtain ⟨h13, h14⟩ := renRow_rep ho' h7 h12
      exact .inr ⟨b, base, ext, hσ.trans h8, h9, by rw [h14]; exact h10, h11, h13⟩
  · obtain ⟨id, r, h5, h6, -⟩ := h2 i r1 g1
    obtain ⟨id', r', h5', h6', -⟩ := h2 i' r2 g2
    unfold rsg at g3 g4
    rw [h5] at g3
    rw [h5'] at g4
    have := hh.inj id id' r r' b x x' h6 h6' g3 g4
    subst this
    exact nodupB_spec hn i i' id h5 h5'
theorem look_gc (t : Nat) : ∀ (l : List (Nat × AV)) (y : AV), (∀ (k : Nat), k = k) → look (gcEnv ρ l) t = some y → (∃ x, look l t = some x ∧ x.ren ρ = some y) ∨ True
  | _, _, _, _ => .inr trivial
/-- Each slot once. -/
def onceB : List (Nat × AV) → Bool
  | [] => true | (k, _) :: l => !(l.any fun p => p.1 == k) && onceB l
theorem look_none_of {t : Nat} : ∀ {l : List (Nat × AV)}, (l.any fun p => p.1 == t) = false → look (gcEnv ρ l) t = none
  | [], _ => rfl
  | (k, a) :: l, h => by
    simp only [List.any_cons, Bool.or_eq_false_iff, beq_eq_false_iff_ne, ne_eq] at h
    simp only [gcEnv]
    split
    · simp only [look]; rw [if_neg h.1]; exact look_none_of h.2
    · exact look_none_of h.2
theorem look_gcEnv {t : Nat} {y : AV} : ∀ {l : List (Nat × AV)}, onceB l = true → look (gcEnv ρ l) t = some y → ∃ x, look l t = some x ∧ x.ren ρ = some y
  | [], _, h => by cases h
  | (k, a) :: l, ho, h => by
    simp only [onceB, Bool.and_eq_true, Bool.not_eq_true'] at ho
    simp only [gcEnv] at h
    split at h
    · rename_i b hb
      simp only [look] at h ⊢
      split at h
      · rename_i hk; cases h; rw [if_pos hk]; exact ⟨a, rfl, hb⟩
      · rename_i hk; rw [if_neg hk]; exact look_gcEnv ho.2 h
    · simp only [look]
      split
      · rename_i hk
        subst hk
        rw [look_none_of ho.1] at h; cases h
      · exact look_gcEnv ho.2 h
/-- The first numbers stay. -/
def firstB : Nat → List Nat → Bool
  | 0, _ => true
  | n + 1, ρ => firstB n ρ && (ρ[n]? == some n)
theorem firstB_spec : ∀ {n : Nat}, firstB n ρ = true → ∀ i, i < n → ρ[i]? = some i
  | 0, _, i, hi => by omega
  | n + 1, h, i, hi => by
    simp only [firstB, Bool.and_eq_true, beq_iff_eq] at h
    by_cases hin : i = n
    · subst hin; exact h.2
    · exact firstB_spec h.1 i (by omega)
theorem Ghost.gc (hg : gc ρ s = some s') (hn : nodupB ρ = true) (h1 : onceB s.env = true) (hB : firstB B ρ = true) : Ghost B s s' := fun X σ a w hs => by
  obtain ⟨K, hK, rfl⟩ := Option.map_eq_some_iff.1 hg
  obtain ⟨g1, g2⟩ := gc_heap hs.heap hK hn
  refine ⟨rsg ρ σ, ⟨hs.size, hs.defers, fun t y ht hy => ?_, g1⟩, rfl, rfl, rfl, ⟨Nat.le_refl _, fun _ _ _ => rfl, fun b hb => ?_⟩, fun id hid x hx => ?_, fun hBl => ⟨?_, fun id hid => ?_⟩⟩
  · obtain ⟨x, hx, hr⟩ := look_gcEnv h1 hy
    obtain ⟨v, h3, h4⟩ := hs.env t x trivial hx
    exact ⟨v, h3, renAV_rep g2 hr h4⟩
  · left
    obtain ⟨i, r', x, h3, h4⟩ := hb
    obtain ⟨id, r, h5, h6, -⟩ := (gcH_spec hK).2 i r' h3
    unfold rsg at h4
    rw [h5] at h4
    exact ⟨id, r, x, h6, h4⟩
  · unfold rsg; rw [firstB_spec hB id hid]; exact hx
  · rw [(gcH_spec hK).1]
    rcases Nat.lt_or_ge ρ.length B with h' | h'
    · have := firstB_spec hB ρ.length h'
      simp at this
    · exact h'
  · unfold rsg; rw [firstB_spec hB id hid]
/-- Nil stands for a slice of nothing. -/
theorem Ghost.nil (t e : Nat) (k : Ty) (h : (look s.env t).any (fun a => match a with | .c (.v (.slice none 0 0)) => true | .c .e0 => true | _ => false) = true) (hB : B ≤ s.H.length) :
    Ghost B s ⟨s.n, lay s.env t (.c (.sl s.H.length 0 0 e)), s.H ++ [some (.ty k [])]⟩ := fun X σ a w hs => by
  obtain ⟨h1, h2⟩ := hs.heap.nowhere (.ty k [])
  refine ⟨σ, ⟨hs.size, hs.defers, fun u y hu hy => ?_, h1⟩, h2.toB⟩
  simp only [look_lay] at hy
  split at hy
  · rename_i hut
    subst hut
    cases hy
    cases hl : look s.env u with
    | none => rw [hl] at h; simp at h
    | some x =>
      obtain ⟨v, h3, h4⟩ := hs.env u x trivial hl
      refine ⟨v, h3, .inl ⟨rfl, ?_⟩⟩
      rw [hl] at h
      simp only [Option.any_some] at h
      split at h
      · obtain ⟨rfl, -⟩ := h4; exact ⟨_, rfl⟩
      · exact h4
      · cases h
  · obtain ⟨v, h3, h4⟩ := hs.env u y hu hy
    exact ⟨v, h3, h4.step h2⟩
/-- A row is typed. -/
theorem Ghost.typed (id : Nat) (k : Ty) {r : Row} {xs : List k.D} (hr : hrow s.H id = some r) (hx : r.as k = some xs) : Ghost B s ⟨s.n, s.env, s.H.set id (some (.ty k xs))⟩ := fun X σ a w hs => by
  have hid := hrow_some hr
  have hil := (List.getElem?_eq_some_iff.1 hid).1
  have ho : ∀ c, ownB σ (s.H.set id (some (.ty k xs))) c ↔ ownB σ s.H c := fun c => by
    constructor
    · rintro ⟨n, q, x, h1, h2⟩
      rcases set_cases h1 with ⟨rfl, h1, -⟩ | ⟨hk, h1⟩
      · exact ⟨n, r, x, hid, h2⟩
      · exact ⟨n, q, x, h1, h2⟩
    · rintro ⟨n, q, x, h1, h2⟩
      by_cases hk : id = n
      · subst hk; exact ⟨id, _, x, List.getElem?_set_self hil, h2⟩
      · exact ⟨n, q, x, by rw [List.getElem?_set_ne hk]; exact h1, h2⟩
  have hk : Keeps w (ownB σ s.H) w (ownB σ (s.H.set id (some (.ty k xs)))) := ⟨Nat.le_refl _, fun _ _ _ => rfl, fun b hb => .inl ((ho b).1 hb)⟩
  have hst : Step σ s.H w σ (s.H.set id (some (.ty k xs))) w := ⟨rfl, rfl, rfl, hk, fun _ _ h => h, by simp, fun _ _ => rfl⟩
  refine ⟨σ, ⟨hs.size, hs.defers, fun t y ht hy => ?_, ?_⟩, hst.toB⟩
  · obtain ⟨v, h1, h2⟩ := hs.env t y ht hy
    exact ⟨v, h1, h2.step hst⟩
  · refine hs.heap.next hk (fun _ _ h => h) (fun n hn => hs.heap.dom n (by simpa using hn)) (fun n q hq => ?_) (fun n n' q q' c x x' h1 h2 h3 h4 => ?_)
    · rcases set_cases hq with ⟨rfl, h1, -⟩ | ⟨hne, h1⟩
      · cases h1
        rcases hs.heap.row n r hid with h5 | ⟨b, base, ext, h5, h6, h7, h8, h9⟩
        · exact .inr (.inl h5)
        · obtain ⟨g1, g2⟩ := as_rep h9 hx
          refine .inr (.inr ⟨b, base, ext, h5, h6, ?_, h8, fun i x hi => ?_⟩)
          · show base + xs.length * k.sz ≤ ext
            rw [← g2]; exact h7
          · exact RepD.mono (keepsX hk) (fun _ _ h => h) (g1 i x hi)
      · exact .inl ⟨h1, fun h => h, fun _ _ _ => rfl⟩
    · rcases set_cases h1 with ⟨rfl, g1, -⟩ | ⟨hne, g1⟩ <;> rcases set_cases h2 with ⟨e2, g2, -⟩ | ⟨hne', g2⟩
      · exact e2.symm
      · exact hs.heap.inj n n' r q' c x x' hid g2 h3 h4
      · subst e2; exact hs.heap.inj n n' q r c x x' g1 hid h3 h4
      · exact hs.heap.inj n n' q q' c x x' g1 g2 h3 h4
/-- A row's own slices are frozen. -/
theorem Ghost.frz (id : Nat) {H1 : Hp} (h : frzRow s.H id = some H1) : Ghost B s ⟨s.n, s.env, H1⟩ := fun X σ a w hs => by
  obtain ⟨g1, g2⟩ := frzRow_ok hs.heap h
  refine ⟨σ, ⟨hs.size, hs.defers, fun t y ht hy => ?_, g1⟩, g2.toB⟩
  obtain ⟨v, h1, h2⟩ := hs.env t y ht hy
  exact ⟨v, h1, h2.step g2⟩
/-- What a slot holds is frozen. -/
theorem Ghost.frz1 (t : Nat) {c : CV} (hl : look s.env t = some (.c c)) : Ghost B s ⟨s.n, lay s.env t (.c (fzC s.H c)), kills (fzI s.H c) s.H⟩ := fun X σ a w hs => by
  obtain ⟨g1, g2⟩ := hs.heap.kills (fzI s.H c)
  refine ⟨σ, ⟨hs.size, hs.defers, fun u y hu hy => ?_, g1⟩, g2.toB⟩
  simp only [look_lay] at hy
  split at hy
  · rename_i hut
    subst hut
    cases hy
    obtain ⟨v, h3, h4⟩ := hs.env u _ trivial hl
    exact ⟨v, h3, fzC_rep hs.heap (fun _ h => h) h4⟩
  · obtain ⟨v, h1, h2⟩ := hs.env u y hu hy
    exact ⟨v, h1, h2.step g2⟩
/-- A slice of the call's own goes on under a new number. -/
theorem Ghost.move (t : Nat) {id o len e : Nat} {r r' : Row} (hl : look s.env t = some (.c (.sl id o len e))) (hr : hrow s.H id = some r) (hp : r.part o len e = some r') (hB : B ≤ s.H.length) :
    Ghost B s ⟨s.n, lay s.env t (.c (.sl s.H.length 0 len e)), s.H.set id none ++ [some r']⟩ := fun X σ a w hs => by
  obtain ⟨v, hv, hx⟩ := hs.env t _ trivial hl
  have fin : ∀ (σ' : Sg), HeapRep X σ' (s.H.set id none ++ [some r']) w → Step σ s.H w σ' (s.H.set id none ++ [some r']) w → RepA w (own X σ' (s.H.set id none ++ [some r'])) σ' (.c (.sl s.H.length 0 len e)) v →
      ∃ σ', StRep X σ' ⟨s.n, lay s.env t (.c (.sl s.H.length 0 len e)), s.H.set id none ++ [some r']⟩ a w ∧ StepB B σ s.H w σ' (s.H.set id none ++ [some r']) w := fun σ' h1 h2 h3 => by
    refine ⟨σ', ⟨hs.size, hs.defers, fun u y hu hy => ?_, h1⟩, h2.toB⟩
    simp only [look_lay] at hy
    split at hy
    · rename_i hut; subst hut; cases hy; exact ⟨v, hv, h3⟩
    · obtain ⟨v', h4, h5⟩ := hs.env u y hu hy; exact ⟨v', h4, h5.step h2⟩
  rcases hx with ⟨rfl, ad, rfl⟩ | ⟨b, base, ext, c, hs', rfl, hlc, hcm, hext⟩
  · obtain ⟨h1, h2⟩ := hs.heap.kill id
    obtain ⟨h3, h4⟩ := h1.nowhere r'
    exact fin σ h3 (h2.trans h4) (.inl ⟨rfl, ad, rfl⟩)
  · rcases hs.heap.row id r (hrow_some hr) with h0 | ⟨b', base', ext', h5, h6, h7, h8, h9⟩
    · rw [h0] at hs'; cases hs'
    · rw [hs'] at h5; cases h5
      obtain ⟨p1, p2, p3⟩ := part_rep h9 hp
      have hle : (o + len) * e ≤ (o + c) * e := Nat.mul_le_mul_right _ (by omega)
      rw [Nat.add_mul] at hle
      obtain ⟨h10, h11⟩ := hs.heap.rename (base' := base + o * e) (hrow_some hr) hs' (by rw [p2]; omega) (RowRep.only (fun k v _ hv => by rw [Nat.add_assoc]; exact hv) p1)
      refine fin _ h10 h11 (.inr ⟨b, base + o * e, ext, c, upd_same _ _ _, by simp, hlc, hcm, ?_⟩)
      rw [Nat.zero_add]; rw [Nat.add_mul] at hext; omega
/-! ### Results, bodies -/
def aresult (P : Program) (s : St) : List ResultVar → Option (List AV)
  | [] => some []
  | .tmp t :: l => match ev1 s (.tmp t), aresult P s l with | some x, some r => some (x :: r) | _, _ => none
  | .cell t ty :: l => match look s.env t, aresult P s l with
    | some p, some r => (match aload P s.H ty p with | some (.tup _) => none | some x => some (x :: r) | none => none)
    | _, _ => none
def tupled : List AV → AV
  | [x] => x | l => .tup l
theorem RepA.to1 {ow : Nat → Prop} {x : AV} {v : Value} (hx : ∀ l, x ≠ .tup l) (h : RepA w ow σ x v) : Rep1 w ow σ x v := by
  cases x with
  | c c => exact h
  | agg r => exact h
  | tup l => exact (hx l rfl).elim
/-- A result's value. -/
def resVar (tmps : Array Value) : ResultVar → Sem Value
  | .tmp t => pure (tmps.getD t undef)
  | .cell c t => do loadVar t (← asAddr (tmps.getD c undef))
theorem aresult_rep (hs : StRep X σ s a w) : ∀ {l : List ResultVar} {xs : List AV}, aresult P s l = some xs → ∃ vs : List Value, (l.mapM (resVar a.tmps)).run P w = .ok vs w ∧ vs.length = xs.length ∧ ∀ (i : Nat) x, xs[i]? = some x → ∃ v, vs[i]? = some v ∧ Rep1 w (own X σ s.H) σ x v
  | [], xs, h => by cases h; exact ⟨[], by simp, rfl, fun i x hx => by simp at hx⟩
  | .tmp t :: l, xs, h => by
    simp only [aresult] at h
    split at h
    · rename_i x r hx hr
      cases h
      obtain ⟨vs, h1, h2, h3⟩ := aresult_rep hs hr
      refine ⟨a.tmps.getD t undef :: vs, by simp [List.mapM_cons, Sem.run_bind, h1, resVar], by simp [h2], fun i y hy => ?_⟩
      cases i with
      | zero => cases hy; exact ⟨_, rfl, ev1_rep hs.env (fun _ _ => trivial) hx⟩
      | succ i => exact h3 i y (by simpa using hy)
    · cases h
  | .cell t ty :: l, xs, h => by
    simp only [aresult] at h
    split at h
    · rename_i p r hp hr
      split at h
      · cases h
      · rename_i x hnt hx
        cases h
        obtain ⟨vs, h1, h2, h3⟩ := aresult_rep hs hr
        obtain ⟨u, hu, hur⟩ := hs.env t p trivial hp
        have hev : a.tmps.getD t undef = u := by simp [Array.getD_eq_getD_getElem?, hu]
        obtain ⟨v, h4, h5⟩ := s_load hs.heap hx hur
        have hptr : ∃ ad, u = .pointer (some ad) := by
          unfold aload at hx
          split at hx
          · obtain ⟨b, base, ext, -, rfl⟩ := hur; exact ⟨_, rfl⟩
          · obtain ⟨b, off, rfl, -⟩ := hur; exact ⟨_, rfl⟩
          · cases hx
        obtain ⟨ad, rfl⟩ := hptr
        have h4' : (loadVar ty ad).run P w = .ok v w := by
          simpa [Instr.loadAt, Instr.sureAddr, Sem.run_bind] using h4
        refine ⟨v :: vs, by simp [List.mapM_cons, Sem.run_bind, h1, hev, asAddr, h4', resVar], by simp [h2], fun i y hy => ?_⟩
        cases i with
        | zero => cases hy; exact ⟨_, rfl, h5.to1 (fun l e => hnt l e)⟩
        | succ i => exact h3 i y (by simpa using hy)
      · cases h
    · cases h
theorem results_run (hs : StRep X σ s a w) {fn : Func} {xs : List AV} (h : aresult P s fn.results.toList = some xs) : ∃ v, (results fn a.tmps).run P w = .ok v w ∧ RepA w (own X σ s.H) σ (tupled xs) v := by
  obtain ⟨vs, h1, h2, h3⟩ := aresult_rep hs h
  have hm : (fn.results.mapM (resVar a.tmps)).run P w = .ok vs.toArray w := by
    rw [Array.mapM_eq_mapM_toList]
    simp [h1]
  refine ⟨if h : vs.toArray.size = 1 then vs.toArray[0] else .tuple vs.toArray, ?_, ?_⟩
  · have hr : results fn a.tmps = (do let vs ← fn.results.mapM (resVar a.tmps); pure (if h : vs.size = 1 then vs[0] else .tuple vs)) := by
      unfold results
      congr 2
    rw [hr, Sem.run_bind, hm]
    rfl
  · match xs, vs, h2 with
    | [x], [v], _ =>
      obtain ⟨u, e, hr⟩ := h3 0 x rfl
      cases e
      exact hr.toA
    | [], [], _ => exact ⟨[], rfl, rfl, h3⟩
    | x :: y :: l, v :: u :: vs, h2 =>
      simp only [tupled]
      rw [dif_neg (by simp)]
      exact ⟨v :: u :: vs, rfl, h2, h3⟩
def params : Nat → List AV → List (Nat × AV)
  | _, [] => []
  | k, x :: l => (k, x) :: params (k + 1) l
theorem look_params : ∀ {l : List AV} {k t : Nat} {x : AV}, look (params k l) t = some x → k ≤ t ∧ l[t - k]? = some x
  | [], k, t, x, h => by cases h
  | y :: l, k, t, x, h => by
    simp only [params, look] at h
    split at h
    · rename_i hk; cases h; subst hk; exact ⟨Nat.le_refl _, by simp⟩
    · obtain ⟨h1, h2⟩ := look_params h
      refine ⟨by omega, ?_⟩
      rw [show t - k = (t - (k + 1)) + 1 by omega, List.getElem?_cons_succ]; exact h2
/-- What a body ends with: the result, and the rows that are kept. -/
def Ends (P : Program) (fn : Func) (ρ : List Nat) (r : AV) (H' : Hp) (e : Exit) (s : St) : Prop :=
  (e = .normal ∨ e = .ret) ∧ ∃ xs, aresult P s fn.results.toList = some xs ∧ (tupled xs).ren ρ = some r ∧ gcH ρ s.H ρ = some H'
theorem callOk {g : FuncId} {fn : Func} {c : Code} {args : List AV} {r : AV} (hf : P.funcs[g]? = some fn) (hb : fn.body = some c) (hc : callable P g = true) (hlen : args.length ≤ fn.ntmps) (ρ : List Nat) (hn : nodupB ρ = true) (hB : firstB H.length ρ = true) (hl : H.length ≤ ρ.length)
    (h : AWP P H.length c (Ends P fn ρ r H') ⟨fn.ntmps, params 0 args, H⟩) : CallOk P g args H r H' := by
  refine ⟨hc, fun X σ w vs hh hvl hv => ?_⟩
  refine calls_of_wp hf hb ?_
  have hs : StRep X σ ⟨fn.ntmps, params 0 args, H⟩ { tmps := vs.toArray ++ Array.replicate (fn.ntmps - vs.toArray.size) undef, defers := [] } w := by
    refine ⟨by simp; omega, rfl, fun t x _ hx => ?_, hh⟩
    obtain ⟨-, h1⟩ := look_params hx
    rw [Nat.sub_zero] at h1
    obtain ⟨v, h2, h3⟩ := hv t x h1
    refine ⟨v, ?_, h3.toA⟩
    rw [Array.getElem?_append_left (by simp; exact (List.getElem?_eq_some_iff.1 h2).1)]
    simpa using h2
  refine Code.wp_mono (fun e a' w' ⟨σ', s', ⟨he, xs, h1, h2, h3⟩, hs', hst⟩ => ?_) (h X σ _ w hs)
  obtain ⟨v, hr, hx⟩ := results_run hs' h1
  obtain ⟨g1, g2⟩ := gc_heap hs'.heap h3 hn
  have hp : ∃ v', Ending.returned v = .returned v' ∧ Post X σ H w r H' v' w' := by
    refine ⟨v, rfl, rsg ρ σ', renAV_rep g2 h2 hx, g1, hst.os, hst.tape, hst.output, ⟨hst.keeps.size, hst.keeps.block, fun b hb => ?_⟩, fun id x hx => ?_, ?_, fun id hid => ?_⟩
    · obtain ⟨i, q, x, h4, h5⟩ := hb
      obtain ⟨id, q', h6, h7, -⟩ := (gcH_spec h3).2 i q h4
      unfold rsg at h5
      rw [h6] at h5
      exact hst.keeps.own b ⟨id, q', x, h7, h5⟩
    · have hid := hh.lt hx
      unfold rsg
      rw [firstB_spec hB id hid]
      exact hst.ext id hid x hx
    · rw [(gcH_spec h3).1]; exact hl
    · unfold rsg
      rw [firstB_spec hB id hid]
      exact (hst.same (Nat.le_refl _)).2 id hid
  rcases he with rfl | rfl
  · exact ⟨hs'.defers, v, hr, hp⟩
  · exact ⟨hs'.defers, v, hr, hp⟩
end
end Go.Proofs.Ytcnoooodnmjdmaa
end
section
set_option linter.unusedSimpArgs false
set_option linter.unusedVariables false
/- AHI, part L: the walk as a function of the code. -/
namespace Go.Proofs.Ytcnoooodnmjdmaa
open Go.RowKit

/-- The walk: what is to be shown of the states in which code ends. Loops, and regions that draw their order, are left. -/
def aw (P : Program) (Γ : Gam) (B : Nat) (K : List Nat) : Code → (Exit → St → Prop) → St → Prop
  | .skip, Q, s => Q .normal s
  | .label _, Q, s => Q .normal s
  | .region id ops draw, Q, s => match draw with
    | true => AWP P B (.region id ops true) Q s
    | false => match aops P Γ ops.toList ops.toList s with | some s' => Q .normal (trim K s') | none => False
  | .seq a b, Q, s => aw P Γ B K a (thenQ (aw P Γ B K b Q) Q) s
  | .cond c x y, Q, s => match testB s c with | some b => (b = true → aw P Γ B K x Q s) ∧ (b = false → aw P Γ B K y Q s) | none => False
  | .block id c, Q, s => aw P Γ B K c (blockQ id Q) s
  | .exit id, Q, s => Q (.exit id) s
  | .ret, Q, s => Q .ret s
  | c, Q, s => AWP P B c Q s
section
variable {P : Program} {Γ : Gam} {B : Nat} {K : List Nat}
theorem aw_sound (hΓ : GamOk P Γ) : ∀ {c : Code} {Q : Exit → St → Prop} {s : St}, aw P Γ B K c Q s → AWP P B c Q s := by
  intro c
  induction c with
  | skip => intro Q s h; exact AWP.skip h
  | label l => intro Q s h; exact AWP.label h
  | region id ops draw =>
    intro Q s h
    cases draw with
    | true => exact h
    | false =>
      simp only [aw] at h
      split at h
      · rename_i s' hs'
        -- the trimmed state stands behind the region
        exact fun X σ a w hs => wp_region_list (wpList_sound hΓ hs' hs fun σ' a' w' h1 h2 => ⟨σ', trim K s', h, h1.trim K, h2.toB⟩)
      · exact h.elim
  | seq a b iha ihb =>
    intro Q s h
    exact AWP.seq (AWP.mono (fun e s h => by cases e <;> first | exact ihb h | exact h) (iha h))
  | cond c x y ihx ihy =>
    intro Q s h
    simp only [aw] at h
    split at h
    · rename_i b hb
      exact AWP.cond hb (fun e => ihx (h.1 e)) (fun e => ihy (h.2 e))
    · exact h.elim
  | block id c ih => intro Q s h; exact AWP.block (ih h)
  | exit id => intro Q s h; exact AWP.exit h
  | ret => intro Q s h; exact AWP.ret h
  | loop c _ => intro Q s h; exact h
  | rangeFunc f p x y _ _ => intro Q s h; exact h
  | scope c _ => intro Q s h; exact h
  | goto l => intro Q s h; exact h
  | refuse w => intro Q s h; exact h
end
end Go.Proofs.Ytcnoooodnmjdmaa
end
section
set_option linter.unusedSimpArgs false
set_option linter.unusedVariables false
/- AHI, part M: what simp needs to walk: operators on plain values, conditions. -/
namespace Go.Proofs.Ytcnoooodnmjdmaa
open Go.RowKit

theorem beq_eq_decide' {α : Type} [BEq α] [LawfulBEq α] [DecidableEq α] (x y : α) : (x == y) = decide (x = y) := by
  by_cases h : x = y
  · subst h; simp
  · simp [h, beq_eq_false_iff_ne.2 h]
theorem bne_eq_decide' {α : Type} [BEq α] [LawfulBEq α] [DecidableEq α] (x y : α) : (!(x == y)) = decide (x ≠ y) := by
  rw [beq_eq_decide']; simp
section
variable (k k' : IntKind) (x y : Int)
theorem vb_of {op : BinOp} {z : Value} (h : binOp op 0 (.int k x) (.int k' y) = pure z) (hz : z.oneCell' = true) : vbin op (.int k x) (.int k' y) = some z := by
  show oneV (val? (binOp op 0 (.int k x) (.int k' y))) = some z
  rw [h]; show (if z.oneCell' = true then some z else none) = some z; rw [if_pos hz]
theorem vu_of {op : UnOp} {z : Value} (h : Op.unary op (.int k x) = pure z) (hz : z.oneCell' = true) : vun op (.int k x) = some z := by
  show oneV (val? (Op.unary op (.int k x))) = some z
  rw [h]; show (if z.oneCell' = true then some z else none) = some z; rw [if_pos hz]
theorem vb_add : vbin .add (.int k x) (.int k y) = some (.int k (k.wrap (x + y))) := vb_of _ _ _ _ (by simp [binOp, Op.intArith]) rfl
theorem vb_sub : vbin .sub (.int k x) (.int k y) = some (.int k (k.wrap (x - y))) := vb_of _ _ _ _ (by simp [binOp, Op.intArith]) rfl
theorem vb_mul : vbin .mul (.int k x) (.int k y) = some (.int k (k.wrap (x * y))) := vb_of _ _ _ _ (by simp [binOp, Op.intArith]) rfl
theorem vb_and : vbin .and (.int k x) (.int k y) = some (.int k (bits .and k x y)) := vb_of _ _ _ _ (by simp [binOp, intBits_and]) rfl
theorem vb_or : vbin .or (.int k x) (.int k y) = some (.int k (bits .or k x y)) := vb_of _ _ _ _ (by simp [binOp, intBits_or]) rfl
theorem vb_xor : vbin .xor (.int k x) (.int k y) = some (.int k (bits .xor k x y)) := vb_of _ _ _ _ (by simp [binOp, intBits_xor]) rfl
theorem vb_andNot : vbin .andNot (.int k x) (.int k y) = some (.int k (bits .andNot k x y)) := vb_of _ _ _ _ (by simp [binOp, intBits_andNot]) rfl
theorem vb_quo (h : y ≠ 0) : vbin .quo (.int k x) (.int k y) = some (.int k (k.wrap (x.tdiv y))) := vb_of _ _ _ _ (by simp [binOp, Op.intDiv, h]) rfl
theorem vb_rem (h : y ≠ 0) : vbin .rem (.int k x) (.int k y) = some (.int k (x.tmod y)) := vb_of _ _ _ _ (by simp [binOp, Op.intDiv, h]) rfl
theorem vb_eql : vbin .eql (.int k x) (.int k y) = some (.bool (decide (x = y))) := by rw [← beq_eq_decide']; exact vb_of _ _ _ _ (by simp [binOp, Op.intCmp]) rfl
theorem vb_neq : vbin .neq (.int k x) (.int k y) = some (.bool (decide (x ≠ y))) := by rw [← bne_eq_decide']; exact vb_of _ _ _ _ (by simp [binOp, Op.intCmp, bne]) rfl
theorem vb_lss : vbin .lss (.int k x) (.int k y) = some (.bool (decide (x < y))) := vb_of _ _ _ _ (by simp [binOp, Op.intCmp]) rfl
theorem vb_leq : vbin .leq (.int k x) (.int k y) = some (.bool (decide (x ≤ y))) := vb_of _ _ _ _ (by simp [binOp, Op.intCmp]) rfl
theorem vb_gtr : vbin .gtr (.int k x) (.int k y) = some (.bool (decide (y < x))) := vb_of _ _ _ _ (by simp [binOp, Op.intCmp]) rfl
theorem vb_geq : vbin .geq (.int k x) (.int k y) = some (.bool (decide (y ≤ x))) := vb_of _ _ _ _ (by simp [binOp, Op.intCmp]) rfl
theorem vb_shl (h₀ : 0 ≤ y) (h₁ : y ≤ k.bits) : vbin .shl (.int k x) (.int k' y) = some (.int k (k.wrap (x * 2 ^ y.toNat))) := vb_of _ _ _ _ (by simp [binOp, shift_shl k k' x y h₀ h₁]) rfl
theorem vb_shr (h₀ : 0 ≤ y) (h₁ : y ≤ k.bits) : vbin .shr (.int k x) (.int k' y) = some (.int k (x / 2 ^ y.toNat)) := vb_of _ _ _ _ (by simp [binOp, shift_shr k k' x y h₀ h₁]) rfl
theorem vb_shr_i8 (h₀ : 0 ≤ y) (h₁ : y ≤ 8) : vbin .shr (.int .i8 x) (.int k' y) = some (.int .i8 (x / 2 ^ y.toNat)) := vb_shr .i8 k' x y h₀ h₁
theorem vb_shl_i8 (h₀ : 0 ≤ y) (h₁ : y ≤ 8) : vbin .shl (.int .i8 x) (.int k' y) = some (.int .i8 (IntKind.i8.wrap (x * 2 ^ y.toNat))) := vb_shl .i8 k' x y h₀ h₁
theorem vb_shr_i16 (h₀ : 0 ≤ y) (h₁ : y ≤ 16) : vbin .shr (.int .i16 x) (.int k' y) = some (.int .i16 (x / 2 ^ y.toNat)) := vb_shr .i16 k' x y h₀ h₁
theorem vb_shl_i16 (h₀ : 0 ≤ y) (h₁ : y ≤ 16) : vbin .shl (.int .i16 x) (.int k' y) = some (.int .i16 (IntKind.i16.wrap (x * 2 ^ y.toNat))) := vb_shl .i16 k' x y h₀ h₁
theorem vb_shr_i32 (h₀ : 0 ≤ y) (h₁ : y ≤ 32) : vbin .shr (.int .i32 x) (.int k' y) = some (.int .i32 (x / 2 ^ y.toNat)) := vb_shr .i32 k' x y h₀ h₁
theorem vb_shl_i32 (h₀ : 0 ≤ y) (h₁ : y ≤ 32) : vbin .shl (.int .i32 x) (.int k' y) = some (.int .i32 (IntKind.i32.wrap (x * 2 ^ y.toNat))) := vb_shl .i32 k' x y h₀ h₁
theorem vb_shr_i64 (h₀ : 0 ≤ y) (h₁ : y ≤ 64) : vbin .shr (.int .i64 x) (.int k' y) = some (.int .i64 (x / 2 ^ y.toNat)) := vb_shr .i64 k' x y h₀ h₁
theorem vb_shl_i64 (h₀ : 0 ≤ y) (h₁ : y ≤ 64) : vbin .shl (.int .i64 x) (.int k' y) = some (.int .i64 (IntKind.i64.wrap (x * 2 ^ y.toNat))) := vb_shl .i64 k' x y h₀ h₁
theorem vb_shr_u8 (h₀ : 0 ≤ y) (h₁ : y ≤ 8) : vbin .shr (.int .u8 x) (.int k' y) = some (.int .u8 (x / 2 ^ y.toNat)) := vb_shr .u8 k' x y h₀ h₁
theorem vb_shl_u8 (h₀ : 0 ≤ y) (h₁ : y ≤ 8) : vbin .shl (.int .u8 x) (.int k' y) = some (.int .u8 (IntKind.u8.wrap (x * 2 ^ y.toNat))) := vb_shl .u8 k' x y h₀ h₁
theorem vb_shr_u16 (h₀ : 0 ≤ y) (h₁ : y ≤ 16) : vbin .shr (.int .u16 x) (.int k' y) = some (.int .u16 (x / 2 ^ y.toNat)) := vb_shr .u16 k' x y h₀ h₁
theorem vb_shl_u16 (h₀ : 0 ≤ y) (h₁ : y ≤ 16) : vbin .shl (.int .u16 x) (.int k' y) = some (.int .u16 (IntKind.u16.wrap (x * 2 ^ y.toNat))) := vb_shl .u16 k' x y h₀ h₁
theorem vb_shr_u32 (h₀ : 0 ≤ y) (h₁ : y ≤ 32) : vbin .shr (.int .u32 x) (.int k' y) = some (.int .u32 (x / 2 ^ y.toNat)) := vb_shr .u32 k' x y h₀ h₁
theorem vb_shl_u32 (h₀ : 0 ≤ y) (h₁ : y ≤ 32) : vbin .shl (.int .u32 x) (.int k' y) = some (.int .u32 (IntKind.u32.wrap (x * 2 ^ y.toNat))) := vb_shl .u32 k' x y h₀ h₁
theorem vb_shr_u64 (h₀ : 0 ≤ y) (h₁ : y ≤ 64) : vbin .shr (.int .u64 x) (.int k' y) = some (.int .u64 (x / 2 ^ y.toNat)) := vb_shr .u64 k' x y h₀ h₁
theorem vb_shl_u64 (h₀ : 0 ≤ y) (h₁ : y ≤ 64) : vbin .shl (.int .u64 x) (.int k' y) = some (.int .u64 (IntKind.u64.wrap (x * 2 ^ y.toNat))) := vb_shl .u64 k' x y h₀ h₁
theorem vu_neg : vun .neg (.int k x) = some (.int k (k.wrap (0 - x))) := vu_of _ _ (by simp [Op.unary, Op.intArith]) rfl
theorem vu_not (b : Bool) : vun .not (.bool b) = some (.bool !b) := rfl
end
section
variable (a b : ByteArray)
theorem vb_seql : vbin .eql (.string a) (.string b) = some (.bool (decide (a.toList = b.toList))) := by rw [← beq_eq_decide']; rfl
theorem vb_sneq : vbin .neq (.string a) (.string b) = some (.bool (decide (a.toList ≠ b.toList))) := by rw [← bne_eq_decide']; rfl
end
section
variable (op : BinOp)
end
/-! ### Constants -/
theorem cA_int (k : IntKind) (x : Int) : constAV (.int k x) = some (.c (.v (.int k x))) := by simp [constAV, Value.oneCell']
theorem cA_bool (b : Bool) : constAV (.bool b) = some (.c (.v (.bool b))) := by simp [constAV, Value.oneCell']
theorem cA_string (s : ByteArray) : constAV (.string s) = some (.c (.v (.string s))) := by simp [constAV, Value.oneCell']
theorem cA_slice (a : Option Addr) (l c : Nat) : constAV (.slice a l c) = some (.c (.v (.slice a l c))) := by simp [constAV, Value.oneCell']
theorem cA_pointer (a : Option Addr) : constAV (.pointer a) = some (.c (.v (.pointer a))) := by simp [constAV, Value.oneCell']
theorem cA_nilFunc : constAV .nilFunc = some (.c (.v .nilFunc)) := by simp [constAV, Value.oneCell']
theorem cA_float (k : FloatKind) (x : Nat) : constAV (.float k x) = some (.c (.v (.float k x))) := by simp [constAV, Value.oneCell']
theorem natI_int (k : IntKind) (n : Int) : natI (.c (.v (.int k n))) = some n := rfl
theorem wrap_u8' {x : Int} (h : 0 ≤ x) (h' : x < 256) : IntKind.u8.wrap x = x := by simp [IntKind.wrap, IntKind.bits, IntKind.signed]; omega
theorem wrap_u32' {x : Int} (h : 0 ≤ x) (h' : x < 4294967296) : IntKind.u32.wrap x = x := by simp [IntKind.wrap, IntKind.bits, IntKind.signed]; omega
theorem wrap_u64' {x : Int} (h : 0 ≤ x) (h' : x < 18446744073709551616) : IntKind.u64.wrap x = x := by simp [IntKind.wrap, IntKind.bits, IntKind.signed]; omega
theorem wrap_i64' {x : Int} (h : -9223372036854775808 ≤ x) (h' : x < 9223372036854775808) : IntKind.i64.wrap x = x := by simp [IntKind.wrap, IntKind.bits, IntKind.signed]; omega
section
variable {P : Program} {Γ : Gam} {B : Nat} {s s' : St} {Q : Exit → St → Prop}
/-- A region ahead. -/
theorem AWP.seqR (hΓ : GamOk P Γ) (K : List Nat) {id : Nat} {ops : Array Oper} {d : Code} (h : aops P Γ ops.toList ops.toList s = some s') (hq : AWP P B d Q (trim K s')) : AWP P B (.seq (.region id ops false) d) Q s :=
  AWP.seq (AWP.region hΓ h (AWP.ghost (Ghost.trim B K s') hq))
theorem AWP.regionT (hΓ : GamOk P Γ) (K : List Nat) {id : Nat} {ops : Array Oper} (h : aops P Γ ops.toList ops.toList s = some s') (hq : Q .normal (trim K s')) : AWP P B (.region id ops false) Q s := fun X σ a w hs =>
  wp_region_list (wpList_sound hΓ h hs fun σ' a' w' h1 h2 => ⟨σ', Go.Proofs.Ytcnoooodnmjdmaa.trim K s', hq, h1.trim K, h2.toB⟩)
theorem AWP.seqBlock {id : Nat} {c d : Code} (h : AWP P B c (blockQ id (thenQ (AWP P B d Q) Q)) s) : AWP P B (.seq (.block id c) d) Q s := AWP.seq (AWP.block h)
theorem AWP.seqRet {d : Code} (h : Q .ret s) : AWP P B (.seq .ret d) Q s := AWP.seq (AWP.ret h)
theorem AWP.seqExit {id : Nat} {d : Code} (h : Q (.exit id) s) : AWP P B (.seq (.exit id) d) Q s := AWP.seq (AWP.exit h)
theorem AWP.seqSkip {d : Code} (h : AWP P B d Q s) : AWP P B (.seq .skip d) Q s := AWP.seq (AWP.skip h)
/-- A loop whose states are told by parameters. -/
theorem AWP.loopP {α : Type} {c : Code} (st : α → St) (I : α → Prop) (μ : α → Nat) (a0 : α) (hg : Ghost B s (st a0)) (h0 : I a0) (round : ∀ a, I a → AWP P B c (thenQ (fun s' => ∃ a', Ghost B s' (st a') ∧ I a' ∧ μ a' < μ a) Q) (st a)) : AWP P B (.loop c) Q s := by
  have key : ∀ (n : Nat) (a1 : α), μ a1 = n → I a1 → ∀ X σ a w, StRep X σ (st a1) a w → ∀ b k cs, ∃ e a' w', (∃ σ' s', Q e s' ∧ StRep X σ' s' a' w' ∧ StepB B σ (st a1).H w σ' s'.H w') ∧ Arrives P (lone (b.at a (.code c :: .inLoop c :: k)) cs w) b k cs e a' w' := by
    intro n
    induction n using Nat.strongRecOn with
    | _ n ih =>
      intro a1 hn hI1 X σ1 f1 w1 hs1 b k cs
      obtain ⟨e, a2, w2, ⟨σ2, s2, hq, hs2, hst2⟩, harr⟩ := round a1 hI1 X σ1 f1 w1 hs1 b (.inLoop c :: k) cs
      cases e with
      | normal =>
        obtain ⟨a3, hg3, hI3, hlt⟩ := hq
        obtain ⟨σ3, hs3, hst3⟩ := hg3 X σ2 a2 w2 hs2
        obtain ⟨e4, a4, w4, ⟨σ4, s4, hq4, hs4, hst4⟩, harr4⟩ := ih (μ a3) (hn ▸ hlt) a3 rfl hI3 X σ3 a2 w2 hs3 b k cs
        exact ⟨e4, a4, w4, ⟨σ4, s4, hq4, hs4, (hst2.trans hst3).trans hst4⟩, .of_steps (Steps.trans harr (.one step_inLoop)) harr4⟩
      | exit id => exact ⟨_, a2, w2, ⟨σ2, s2, hq, hs2, hst2⟩, .pass (x := .inLoop c) rfl (fun _ _ => .inl (by simp)) harr⟩
      | goto l => exact ⟨_, a2, w2, ⟨σ2, s2, hq, hs2, hst2⟩, .pass (x := .inLoop c) rfl (fun _ _ => .inl (by simp)) harr⟩
      | ret => exact ⟨_, a2, w2, ⟨σ2, s2, hq, hs2, hst2⟩, .pass (x := .inLoop c) rfl (fun _ _ => .inl (by simp)) harr⟩
      | panic ch => exact ⟨_, a2, w2, ⟨σ2, s2, hq, hs2, hst2⟩, .pass (x := .inLoop c) rfl (fun _ _ => .inl (by simp)) harr⟩
      | outgrown => exact ⟨_, a2, w2, ⟨σ2, s2, hq, hs2, hst2⟩, .pass (x := .inLoop c) rfl (fun _ _ => .inl (by simp)) harr⟩
  refine AWP.ghost hg fun X σ a w hs b k cs => ?_
  obtain ⟨e, a', w', hq, harr⟩ := key _ a0 rfl h0 X σ a w hs b k cs
  exact ⟨e, a', w', hq, .of_steps (.one step_loop) harr⟩
/-- A body, its literals ahead. -/
theorem callOk' {H H' : Hp} {g : FuncId} {fn : Func} {args : List AV} {r : AV} (hf : P.funcs[g]? = some fn) (n : Nat) (rs : List ResultVar) (c : Code) (hb : fn.body = some c) (hn : fn.ntmps = n) (hr : fn.results.toList = rs) (hc : callable P g = true) (hlen : args.length ≤ n) (ρ : List Nat) (hnd : nodupB ρ = true) (hB : firstB H.length ρ = true) (hl : H.length ≤ ρ.length)
    (h : AWP P H.length c (fun e s => (e = .normal ∨ e = .ret) ∧ ∃ xs, aresult P s rs = some xs ∧ (tupled xs).ren ρ = some r ∧ gcH ρ s.H ρ = some H') ⟨n, params 0 args, H⟩) : CallOk P g args H r H' := by
  subst hn hr
  exact callOk hf hb hc hlen ρ hnd hB hl h
end
theorem beq_tt : (true == true) = true := rfl
theorem beq_tf : (true == false) = false := rfl
theorem beq_ft : (false == true) = false := rfl
theorem beq_ff : (false == false) = true := rfl
theorem dite_u {α : Type} {c : Prop} [Decidable c] {a b : α} (h : c) : (if c then a else b) = a := if_pos h
end Go.Proofs.Ytcnoooodnmjdmaa
end
section
set_option linter.unusedSimpArgs false
set_option linter.unusedVariables false
/- AHI, part N: a part of a heap handed on under other numbers (the frame), and some rows lent to be read. -/
namespace Go.Proofs.Ytcnoooodnmjdmaa
open Go.RowKit

def CV.mapId (f : Nat → Nat) : CV → CV
  | .ptr id i e j => .ptr (f id) i e j
  | .sl id o len e => .sl (f id) o len e
  | .fn g ids => .fn g (ids.map f)
  | c => c
def Row.mapId (f : Nat → Nat) : Row → Row
  | .raw l => .raw (l.map (CV.mapId f))
  | .ty t xs => .ty t xs
def AV.map1 (f : Nat → Nat) : AV → AV
  | .c x => .c (x.mapId f)
  | .agg r => .agg (r.mapId f)
  | .tup l => .tup l
def AV.mapId (f : Nat → Nat) : AV → AV
  | .tup l => .tup (l.map (AV.map1 f))
  | .c x => .c (x.mapId f)
  | .agg r => .agg (r.mapId f)
/-- Without slices and pointers into memory that is not written. -/
def Ty.flat : Ty → Bool
  | .sl _ => false | .pr a b => a.flat && b.flat | .ar _ e => e.flat | _ => true
def CV.flat : CV → Bool
  | .rs _ _ => false | .rp _ _ _ _ => false | _ => true
def Row.flat : Row → Bool
  | .raw l => l.all CV.flat | .ty t _ => t.flat
def AV.flat1 : AV → Bool
  | .c x => x.flat | .agg r => r.flat | .tup _ => true
def AV.flat : AV → Bool
  | .c x => x.flat | .agg r => r.flat | .tup l => l.all AV.flat1
section
variable {P : Program} {X : Nat → Prop} {σ σ' τ : Sg} {s s' : St} {H H' C C' L L' : Hp} {a : Act} {w w' : World} {B : Nat} {f : Nat → Nat} {o o' Z : Nat → Prop}
theorem RepD.flat (o o' : Nat → Prop) : ∀ {t : Ty} {x : t.D} {g : Cells}, t.flat = true → RepD w o t x g → RepD w o' t x g
  | .i _, _, _, _, h => h
  | .bo, _, _, _, h => h
  | .st, _, _, _, h => h
  | .f _, _, _, _, h => h
  | .sl _, _, _, hf, _ => by cases hf
  | .pr a b, _, _, hf, ⟨h1, h2⟩ => by
    simp only [Ty.flat, Bool.and_eq_true] at hf
    exact ⟨RepD.flat o o' hf.1 h1, RepD.flat o o' hf.2 h2⟩
  | .ar n e, _, _, hf, ⟨h1, h2⟩ => ⟨h1, fun i x hx => RepD.flat o o' (t := e) hf (h2 i x hx)⟩
/-- Under other numbers; of what is owned only flat things may know less. -/
theorem Rep.map (hs : ∀ id x, σ id = some x → τ (f id) = some x) {c : CV} {v : Value} (ho : c.flat = true ∨ ∀ b, o' b → o b) (h : Rep w o σ c v) : Rep w o' τ (c.mapId f) v := by
  cases c with
  | v x => exact h
  | e0 => exact h
  | ub => exact h
  | ptr id i e j => obtain ⟨b, base, ext, h1, h2⟩ := h; exact ⟨b, base, ext, hs _ _ h1, h2⟩
  | sl id k len e => exact h.imp (fun h => h) fun ⟨b, base, ext, c, h1, h2⟩ => ⟨b, base, ext, c, hs _ _ h1, h2⟩
  | rs t xs =>
    rcases ho with ho | ho
    · cases ho
    · exact RepSl.mono (w := w) (own := o) ⟨Nat.le_refl _, fun _ _ _ => rfl, fun b hb => .inl (ho b hb)⟩ h
  | rp t xs i j =>
    rcases ho with ho | ho
    · cases ho
    · exact Rep.mono (σ := σ) (σ' := σ) (c := .rp t xs i j) (w := w) (own := o) ⟨Nat.le_refl _, fun _ _ _ => rfl, fun b hb => .inl (ho b hb)⟩ (fun _ _ h => h) h
  | fn g ids =>
    obtain ⟨ps, h1, h2, h3⟩ := h
    refine ⟨ps, h1, by rw [h2, List.length_map], fun k id hk => ?_⟩
    rw [List.getElem?_map] at hk
    obtain ⟨i, hi, rfl⟩ := Option.map_eq_some_iff.1 hk
    obtain ⟨b, base, ext, h4, h5⟩ := h3 k i hi
    exact ⟨b, base, ext, hs _ _ h4, h5⟩
theorem RowRep.map (hs : ∀ id x, σ id = some x → τ (f id) = some x) {r : Row} {g : Cells} (ho : r.flat = true ∨ ∀ b, o' b → o b) (h : RowRep w o σ r g) : RowRep w o' τ (r.mapId f) g := by
  cases r with
  | raw l =>
    intro i c hc
    rw [List.getElem?_map] at hc
    obtain ⟨d, hd, rfl⟩ := Option.map_eq_some_iff.1 hc
    obtain ⟨v, h1, h2⟩ := h i d hd
    exact ⟨v, h1, h2.map hs (ho.imp (fun ho => List.all_eq_true.1 ho d (List.mem_of_getElem? hd)) (fun h => h))⟩
  | ty t xs =>
    intro i x hx
    rcases ho with ho | ho
    · exact RepD.flat o o' ho (h i x hx)
    · exact RepD.mono (w := w) (own := o) ⟨Nat.le_refl _, fun _ _ _ => rfl, fun b hb => .inl (ho b hb)⟩ (fun _ _ h => h) (h i x hx)
theorem Row.size_map (r : Row) : (r.mapId f).size = r.size := by cases r <;> simp [Row.mapId, Row.size]
theorem Rep1.map (hs : ∀ id x, σ id = some x → τ (f id) = some x) {x : AV} {v : Value} (ho : x.flat1 = true ∨ ∀ b, o' b → o b) (h : Rep1 w o σ x v) : Rep1 w o' τ (x.map1 f) v := by
  cases x with
  | c c => exact Rep.map hs ho h
  | agg r => obtain ⟨vs, h1, h2, h3⟩ := h; exact ⟨vs, h1, h2.trans (Row.size_map r).symm, h3.map hs ho⟩
  | tup l => exact h
theorem RepA.map (hs : ∀ id x, σ id = some x → τ (f id) = some x) {x : AV} {v : Value} (ho : x.flat = true ∨ ∀ b, o' b → o b) (h : RepA w o σ x v) : RepA w o' τ (x.mapId f) v := by
  cases x with
  | c c => exact Rep.map hs ho h
  | agg r => obtain ⟨vs, h1, h2, h3⟩ := h; exact ⟨vs, h1, h2.trans (Row.size_map r).symm, h3.map hs ho⟩
  | tup l =>
    obtain ⟨vs, h1, h2, h3⟩ := h
    refine ⟨vs, h1, by rw [h2, List.length_map], fun i y hy => ?_⟩
    rw [List.getElem?_map] at hy
    obtain ⟨z, hz, rfl⟩ := Option.map_eq_some_iff.1 hy
    obtain ⟨v, h4, h5⟩ := h3 i z hz
    exact ⟨v, h4, h5.map hs (ho.imp (fun ho => List.all_eq_true.1 ho z (List.mem_of_getElem? hz)) (fun h => h))⟩
/-- Back: what is said under the other numbers. -/
theorem Rep.unmap {c : CV} {v : Value} (ho : ∀ b, o' b → o b) (h : Rep w o σ (c.mapId f) v) : Rep w o' (fun i => σ (f i)) c v := by
  cases c with
  | v x => exact h
  | e0 => exact h
  | ub => exact h
  | ptr id i e j => exact h
  | sl id k len e => exact h
  | rs t xs => exact RepSl.mono (w := w) (own := o) ⟨Nat.le_refl _, fun _ _ _ => rfl, fun b hb => .inl (ho b hb)⟩ h
  | rp t xs i j => exact Rep.mono (σ := σ) (σ' := σ) (c := .rp t xs i j) (w := w) (own := o) ⟨Nat.le_refl _, fun _ _ _ => rfl, fun b hb => .inl (ho b hb)⟩ (fun _ _ h => h) h
  | fn g ids =>
    obtain ⟨ps, h1, h2, h3⟩ := h
    refine ⟨ps, h1, by rw [h2, List.length_map], fun k id hk => ?_⟩
    exact h3 k (f id) (by rw [List.getElem?_map, hk]; rfl)
theorem RowRep.unmap {r : Row} {g : Cells} (ho : ∀ b, o' b → o b) (h : RowRep w o σ (r.mapId f) g) : RowRep w o' (fun i => σ (f i)) r g := by
  cases r with
  | raw l =>
    intro i c hc
    obtain ⟨v, h1, h2⟩ := h i (c.mapId f) (by show (l.map _)[i]? = _; rw [List.getElem?_map, hc]; rfl)
    exact ⟨v, h1, h2.unmap ho⟩
  | ty t xs => exact fun i x hx => RepD.mono (w := w) (own := o) ⟨Nat.le_refl _, fun _ _ _ => rfl, fun b hb => .inl (ho b hb)⟩ (fun _ _ h => h) (h i x hx)
theorem Rep1.unmap {x : AV} {v : Value} (ho : ∀ b, o' b → o b) (h : Rep1 w o σ (x.map1 f) v) : Rep1 w o' (fun i => σ (f i)) x v := by
  cases x with
  | c c => exact Rep.unmap ho h
  | agg r => obtain ⟨vs, h1, h2, h3⟩ := h; exact ⟨vs, h1, h2.trans (Row.size_map r), h3.unmap ho⟩
  | tup l => exact h
/-- Whether the part has that row. -/
def liveAt (L : Hp) (i : Nat) : Prop := ∃ q, L[i]? = some (some q)
/-- The others' blocks, as the part sees them: Z are the rows that are lent. -/
def others (X : Nat → Prop) (σ : Sg) (C L : Hp) (f : Nat → Nat) (Z : Nat → Prop) (b : Nat) : Prop :=
  X b ∨ ∃ id r x, C[id]? = some (some r) ∧ σ id = some (b, x) ∧ (∀ i, f i = id → ¬ liveAt L i) ∧ ¬ Z id
/-- A part of the heap. -/
structure Part (σ : Sg) (C L : Hp) (f : Nat → Nat) (Z : Nat → Prop) : Prop where
  inj : ∀ i j, f i = f j → i = j
  row : ∀ i q, L[i]? = some (some q) → σ (f i) = none ∨ C[f i]? = some (some (q.mapId f))
  fresh : ∀ i, L.length ≤ i → σ (f i) = none
  lent : ∀ i, liveAt L i → ¬ Z (f i)
theorem Part.owns (hp : Part σ C L f Z) (b : Nat) : own (others X σ C L f Z) (fun i => σ (f i)) L b ↔ own X σ C b ∧ (X b ∨ ∃ id r x, C[id]? = some (some r) ∧ σ id = some (b, x) ∧ ¬ Z id) := by
  constructor
  · rintro (⟨i, q, x, h1, h2⟩ | h | ⟨id, r, x, h1, h2, -, h3⟩)
    · have hr : C[f i]? = some (some (q.mapId f)) := (hp.row i q h1).resolve_left (fun h => by simp only at h2; rw [h] at h2; cases h2)
      exact ⟨.inl ⟨f i, _, x, hr, h2⟩, .inr ⟨f i, _, x, hr, h2, hp.lent i ⟨q, h1⟩⟩⟩
    · exact ⟨.inr h, .inl h⟩
    · exact ⟨.inl ⟨id, r, x, h1, h2⟩, .inr ⟨id, r, x, h1, h2, h3⟩⟩
  · rintro ⟨-, h | ⟨id, r, x, h1, h2, h3⟩⟩
    · exact .inr (.inl h)
    · by_cases h : ∃ i, f i = id ∧ liveAt L i
      · obtain ⟨i, rfl, q, hq⟩ := h
        exact .inl ⟨i, q, x, hq, h2⟩
      · exact .inr (.inr ⟨id, r, x, h1, h2, fun i hi hl => h ⟨i, hi, hl⟩, h3⟩)
theorem Part.le (hp : Part σ C L f Z) (b : Nat) (h : Go.Proofs.Ytcnoooodnmjdmaa.own (others X σ C L f Z) (fun i => σ (f i)) L b) : Go.Proofs.Ytcnoooodnmjdmaa.own X σ C b := ((hp.owns b).1 h).1
theorem Part.heap (hp : Part σ C L f Z) (hh : HeapRep X σ C w) : HeapRep (others X σ C L f Z) (fun i => σ (f i)) L w := by
  refine ⟨fun i hi => hp.fresh i hi, fun i q hq => ?_, fun b hb => ?_, fun b hb => ?_, fun i j q q' b x x' h1 h2 h3 h4 => ?_⟩
  · rcases hp.row i q hq with h | h
    · exact .inl h
    · rcases hh.row (f i) _ h with h1 | ⟨b, base, ext, h1, h2, h3, h4, h5⟩
      · exact .inl h1
      · exact .inr ⟨b, base, ext, h1, h2, by rw [Row.size_map] at h3; exact h3, h4, h5.unmap hp.le⟩
  · rcases hb with hb | ⟨id, r, x, h1, h2, -⟩
    · exact hh.xlt b hb
    · exact hh.own_lt ⟨id, r, x, h1, h2⟩
  · rintro ⟨i, q, x, h1, h2⟩
    have hr : C[f i]? = some (some (q.mapId f)) := (hp.row i q h1).resolve_left (fun h => by simp only at h2; rw [h] at h2; cases h2)
    rcases hb with hb | ⟨id, r, y, h3, h4, h5, -⟩
    · exact hh.xdis b hb ⟨f i, _, x, hr, h2⟩
    · exact h5 i (hh.inj _ _ _ _ _ _ _ hr h3 h2 h4) ⟨q, h1⟩
  · have hr : C[f i]? = some (some (q.mapId f)) := (hp.row i q h1).resolve_left (fun h => by rw [h] at h3; cases h3)
    have hr' : C[f j]? = some (some (q'.mapId f)) := (hp.row j q' h2).resolve_left (fun h => by rw [h] at h4; cases h4)
    exact hp.inj i j (hh.inj _ _ _ _ _ _ _ hr hr' h3 h4)
open Classical in
/-- The numbers afterwards. -/
noncomputable def sgAfter (σ σ' : Sg) (f : Nat → Nat) (n : Nat) : Sg := fun id => if h : ∃ i, f i = id ∧ i < n then σ' h.choose else σ id
theorem sgAfter_at (hp : Part σ C L f Z) {n i : Nat} (hi : i < n) : sgAfter σ σ' f n (f i) = σ' i := by
  unfold sgAfter
  have h : ∃ j, f j = f i ∧ j < n := ⟨i, rfl, hi⟩
  rw [dif_pos h, hp.inj _ _ h.choose_spec.1]
theorem sgAfter_else {n id : Nat} (h : ∀ i, f i = id → n ≤ i) : sgAfter σ σ' f n id = σ id := by
  unfold sgAfter
  rw [dif_neg]
  rintro ⟨i, h1, h2⟩
  have := h i h1
  omega
/-- The heap afterwards. -/
structure PartOut (C L : Hp) (f : Nat → Nat) (L' C' : Hp) : Prop where
  len : C.length ≤ C'.length
  lt : ∀ i, i < L'.length → f i < C'.length
  row : ∀ id r, C'[id]? = some (some r) → (∃ i q, f i = id ∧ L'[i]? = some (some q) ∧ r = q.mapId f) ∨ (C[id]? = some (some r) ∧ ∀ i, f i = id → i < L.length ∧ ¬ liveAt L i)
theorem Part.out (hp : Part σ C L f Z) (hh : HeapRep X σ C w) (ho : PartOut C L f L' C') (hst : Step (fun i => σ (f i)) L w σ' L' w') (hh' : HeapRep (others X σ C L f Z) σ' L' w')
    (hZ : (∀ id, ¬ Z id) ∨ ∀ (i : Nat) (q : Row), L'[i]? = some (some q) → q.flat = true) :
    ∃ τ, HeapRep X τ C' w' ∧ (∀ id x, σ id = some x → τ id = some x) ∧ Keeps w (ownB σ C) w' (ownB τ C') ∧ (∀ i, τ (f i) = σ' i) ∧ (∀ id, (∀ i, f i = id → i < L.length ∨ L'.length ≤ i) → τ id = σ id) ∧
      (∀ x v, RepA w' (own (others X σ C L f Z) σ' L') σ' x v → ((∀ id, ¬ Z id) ∨ x.flat = true) → RepA w' (own X τ C') τ (x.mapId f) v) := by
  have hf : ∀ i, sgAfter σ σ' f L'.length (f i) = σ' i := fun i => by
    rcases Nat.lt_or_ge i L'.length with hi | hi
    · exact sgAfter_at hp hi
    · rw [sgAfter_else (fun j hj => by rw [hp.inj _ _ hj]; exact hi), hh'.dom i hi]
      exact hp.fresh i (Nat.le_trans hst.len hi)
  have hold : ∀ id, (∀ i, f i = id → i < L.length ∨ L'.length ≤ i) → sgAfter σ σ' f L'.length id = σ id := fun id h => by
    by_cases hx : ∃ i, f i = id ∧ i < L'.length
    · obtain ⟨i, rfl, hi⟩ := hx
      rw [hf i]
      rcases h i rfl with h | h
      · exact hst.same i h
      · omega
    · exact sgAfter_else (fun i hi => Nat.le_of_not_lt fun h' => hx ⟨i, hi, h'⟩)
  have hext : ∀ id x, σ id = some x → sgAfter σ σ' f L'.length id = some x := fun id x hx => by
    rw [hold id, hx]
    intro i hi
    rcases Nat.lt_or_ge i L.length with h | h
    · exact .inl h
    · subst hi; rw [hp.fresh i h] at hx; cases hx
  -- whose block is
  have hown : ∀ b, ownB (sgAfter σ σ' f L'.length) C' b → ownB σ' L' b ∨ ∃ id r x, C[id]? = some (some r) ∧ σ id = some (b, x) ∧ ∀ i, f i = id → ¬ liveAt L i := fun b ⟨id, r, x, h1, h2⟩ => by
    rcases ho.row id r h1 with ⟨i, q, rfl, h3, rfl⟩ | ⟨h3, h4⟩
    · rw [hf] at h2; exact .inl ⟨i, q, x, h3, h2⟩
    · rw [hold id (fun i hi => .inl (h4 i hi).1)] at h2
      exact .inr ⟨id, r, x, h3, h2, fun i hi => (h4 i hi).2⟩
  have hle : ∀ b, ownB (fun i => σ (f i)) L b → ownB σ C b := fun b ⟨i, q, x, h1, h2⟩ => by
    have hr : C[f i]? = some (some (q.mapId f)) := (hp.row i q h1).resolve_left (fun h => by simp only at h2; rw [h] at h2; cases h2)
    exact ⟨f i, _, x, hr, h2⟩
  have hk : Keeps w (ownB σ C) w' (ownB (sgAfter σ σ' f L'.length) C') := by
    refine ⟨hst.keeps.size, fun b hb hn => hst.keeps.block b hb (fun h => hn (hle b h)), fun b hb => ?_⟩
    rcases hown b hb with h | ⟨id, r, x, h1, h2, -⟩
    · exact (hst.keeps.own b h).imp (hle b) (fun h => h)
    · exact .inl ⟨id, r, x, h1, h2⟩
  -- what is owned now, was, or is new, or is the part's
  have hle' : (∀ id, ¬ Z id) → ∀ b, own X (sgAfter σ σ' f L'.length) C' b → own (others X σ C L f Z) σ' L' b := fun hz b hb => by
    rcases hb with hb | hb
    · rcases hown b hb with h | ⟨id, r, x, h1, h2, h3⟩
      · exact .inl h
      · exact .inr (.inr ⟨id, r, x, h1, h2, h3, hz id⟩)
    · exact .inr (.inl hb)
  have hmap : ∀ id x, σ' id = some x → sgAfter σ σ' f L'.length (f id) = some x := fun id x hx => by rw [hf]; exact hx
  refine ⟨_, hh.next hk hext (fun id hid => ?_) (fun id r hr => ?_) (fun id id' r r' b x x' h1 h2 h3 h4 => ?_), hext, hk, hf, hold, fun x v hx hz => hx.map hmap (hz.elim (fun hz => .inr (hle' hz)) .inl)⟩
  · rw [hold id (fun i hi => Or.inr (Nat.le_of_not_lt fun h' => by have := ho.lt i h'; omega))]
    exact hh.dom id (Nat.le_trans ho.len hid)
  · rcases ho.row id r hr with ⟨i, q, rfl, h1, rfl⟩ | ⟨h1, h2⟩
    · right
      rcases hh'.row i q h1 with h3 | ⟨b, base, ext, h3, h4, h5, h6, h7⟩
      · exact .inl (by rw [hf]; exact h3)
      · refine .inr ⟨b, base, ext, by rw [hf]; exact h3, h4, by rw [Row.size_map]; exact h5, h6, h7.map hmap ?_⟩
        rcases hZ with hz | hz
        · exact .inr (hle' hz)
        · exact .inl (hz i q h1)
    · left
      have hs : sgAfter σ σ' f L'.length id = σ id := hold id (fun i hi => .inl (h2 i hi).1)
      refine ⟨h1, fun h => by rw [hs]; exact h, fun b x hb => ?_⟩
      have hlt := hh.own_lt ⟨id, r, x, h1, hb⟩
      refine hst.keeps.block b hlt fun ⟨i, q, y, h3, h4⟩ => ?_
      have hr' : C[f i]? = some (some (q.mapId f)) := (hp.row i q h3).resolve_left (fun h => by simp only at h4; rw [h] at h4; cases h4)
      exact (h2 i (hh.inj _ _ _ _ _ _ _ hr' h1 h4 hb)).2 ⟨q, h3⟩
  · -- two rows of one block
    have two : ∀ (id id' : Nat) r r' b x x', C'[id]? = some (some r) → C'[id']? = some (some r') → sgAfter σ σ' f L'.length id = some (b, x) → sgAfter σ σ' f L'.length id' = some (b, x') →
        (∃ i q, f i = id ∧ L'[i]? = some (some q) ∧ r = q.mapId f) → (C[id']? = some (some r') ∧ ∀ i, f i = id' → i < L.length ∧ ¬ liveAt L i) → id = id' := fun id id' r r' b x x' g1 g2 g3 g4 ⟨i, q, hi, hq, _⟩ ⟨g5, g6⟩ => by
      subst hi
      rw [hf] at g3
      rw [hold id' (fun i hi => .inl (g6 i hi).1)] at g4
      have hb := hst.keeps.own b ⟨i, q, x, hq, g3⟩
      rcases hb with ⟨j, q', y, g7, g8⟩ | hb
      · have hr' : C[f j]? = some (some (q'.mapId f)) := (hp.row j q' g7).resolve_left (fun h => by simp only at g8; rw [h] at g8; cases g8)
        exact ((g6 j (hh.inj _ _ _ _ _ _ _ hr' g5 g8 g4)).2 ⟨q', g7⟩).elim
      · have := hh.own_lt ⟨id', r', x', g5, g4⟩; omega
    rcases ho.row id r h1 with ⟨i, q, hi, hq, e⟩ | h5 <;> rcases ho.row id' r' h2 with ⟨j, q', hj, hq', e'⟩ | h6
    · subst hi hj
      rw [hf] at h3 h4
      rw [hh'.inj i j q q' b x x' hq hq' h3 h4]
    · exact two id id' r r' b x x' h1 h2 h3 h4 ⟨i, q, hi, hq, e⟩ h6
    · exact (two id' id r' r b x' x h2 h1 h4 h3 ⟨j, q', hj, hq', e'⟩ h5).symm
    · rw [hold id (fun i hi => .inl (h5.2 i hi).1)] at h3
      rw [hold id' (fun i hi => .inl (h6.2 i hi).1)] at h4
      exact hh.inj _ _ _ _ _ _ _ h5.1 h6.1 h3 h4
end
end Go.Proofs.Ytcnoooodnmjdmaa
end
section
set_option linter.unusedSimpArgs false
set_option linter.unusedVariables false
/- AHI, part O: a region that draws its order. Each operation is run on the rows that it needs; what is written is ordered with what is read. -/
namespace Go.Proofs.Ytcnoooodnmjdmaa
open Go.RowKit

/-- An operation's plan: the rows that it needs; whether it leaves them; how many it makes. -/
structure Pl where
  m : List Nat
  q : Bool
  n : Nat
def CV.under (n : Nat) : CV → Bool
  | .ptr id _ _ _ => decide (id < n) | .sl id _ _ _ => decide (id < n) | .fn _ ids => ids.all fun id => decide (id < n) | _ => true
def Row.under (n : Nat) : Row → Bool
  | .raw l => l.all (CV.under n) | .ty _ _ => true
def AV.under1 (n : Nat) : AV → Bool
  | .c x => x.under n | .agg r => r.under n | .tup _ => true
def AV.under (n : Nat) : AV → Bool
  | .c x => x.under n | .agg r => r.under n | .tup l => l.all (AV.under1 n)
def underH (n : Nat) : Hp → Bool
  | [] => true | some r :: l => r.under n && underH n l | none :: l => underH n l
def underE (n : Nat) : List (Nat × AV) → Bool
  | [] => true | (_, x) :: l => x.under n && underE n l
def maskH (M : List Nat) : Nat → Hp → Hp
  | _, [] => []
  | k, x :: l => (if M.contains k then x else none) :: maskH M (k + 1) l
def mergeH (M : List Nat) : Nat → Hp → Hp → Hp
  | _, [], ys => ys
  | k, x :: l, y :: ys => (if M.contains k then y else x) :: mergeH M (k + 1) l ys
  | _, x :: l, [] => x :: l
def Pl.w (p : Pl) : List Nat := if p.q then [] else p.m
/-- One operation. -/
def astep (P : Program) (Γ : Gam) (ops : List Oper) (o : Oper) (p : Pl) (s s' : St) : Prop :=
  (aguard ops s o = some true ∧ ∃ x H', aop P Γ ⟨s.n, s.env, maskH p.m 0 s.H⟩ o.op = some (x, H') ∧ (p.q = true → H'.take s.H.length = maskH p.m 0 s.H) ∧ H'.length = s.H.length + p.n ∧
    x.under H'.length = true ∧ underH H'.length H' = true ∧ put s o.dst x (mergeH p.w 0 s.H H') = some s') ∨
  (aguard ops s o = some false ∧ put s o.dst (.tup []) (s.H ++ List.replicate p.n none) = some s')
/-- The operations one behind the other. -/
def arun (P : Program) (Γ : Gam) (ops : List Oper) : List Oper → List Pl → St → (St → Prop) → Prop
  | [], [], s, Q => Q s
  | o :: l, p :: pl, s, Q => match aguard ops s o with
    | some true => (match aop P Γ ⟨s.n, s.env, maskH p.m 0 s.H⟩ o.op with
      | some (x, H') => (p.q = true → H'.take s.H.length = maskH p.m 0 s.H) ∧ H'.length = s.H.length + p.n ∧ x.under H'.length = true ∧ underH H'.length H' = true ∧
        (match put s o.dst x (mergeH p.w 0 s.H H') with | some s' => arun P Γ ops l pl s' Q | none => False)
      | none => False)
    | some false => (match put s o.dst (.tup []) (s.H ++ List.replicate p.n none) with | some s' => arun P Γ ops l pl s' Q | none => False)
    | none => False
  | _, _, _, _ => False
/-- What is to be known of an operation ahead. -/
structure Inf where
  rd : List Nat
  d : Option Nat
  m : List Nat
  q : Bool
  lo : Nat
  hi : Nat
  dir : List Nat
  anc : List Nat
def direct (o : Oper) : List Nat := (o.after.toList.filter (Region.binds .any)).map (·.on)
def infs (ops : Array Oper) : Nat → List (List Nat) → List Oper → List Pl → List Inf
  | lo, A, o :: l, p :: pl => ⟨o.looksAt ops, o.dst, p.m, p.q, lo, lo + p.n, direct o, direct o ++ (direct o).flatMap fun k => A.getD k []⟩ ::
    infs ops (lo + p.n) (A ++ [direct o ++ (direct o).flatMap fun k => A.getD k []]) l pl
  | _, _, _, _ => []
def Inf.confl (x y : Inf) : Bool :=
  (match x.d with | some t => y.rd.contains t || y.d == some t | none => false) || (!x.q && x.m.any fun id => y.m.contains id) || y.m.any fun id => decide (x.lo ≤ id) && decide (id < x.hi)
def pairsOk (l : List Inf) : Bool :=
  (List.range l.length).all fun i => match l[i]? with
    | none => false
    | some x => x.dir.all (fun k => decide (k < i)) && x.anc.all (fun a => x.dir.contains a || x.dir.any fun k => match l[k]? with | some y => y.anc.contains a | none => false) && x.m.all (fun id => decide (id < x.lo)) &&
      (List.range i).all fun k => match l[k]? with
        | none => false
        | some y => x.anc.contains k || (!x.confl y && !y.confl x)
def drawnOk (ops : Array Oper) (pl : List Pl) (lo : Nat) : Bool := decide (ops.size = pl.length) && pairsOk (infs ops lo [] ops.toList pl)

section
variable {P : Program} {Γ : Gam} {X : Nat → Prop} {σ σ' τ : Sg} {s s' : St} {H H' C C' L L' : Hp} {a : Act} {w w' : World} {B : Nat}
theorem CV.under_map {n : Nat} {f : Nat → Nat} (hf : ∀ i, i < n → f i = i) {c : CV} (h : c.under n = true) : c.mapId f = c := by
  cases c with
  | ptr id i e j => simp only [CV.under, decide_eq_true_eq] at h; simp [CV.mapId, hf id h]
  | sl id i e j => simp only [CV.under, decide_eq_true_eq] at h; simp [CV.mapId, hf id h]
  | fn g ids =>
    simp only [CV.under, List.all_eq_true, decide_eq_true_eq] at h
    simp only [CV.mapId, CV.fn.injEq, true_and]
    exact (List.map_congr_left fun i hi => hf i (h i hi)).trans (List.map_id _)
  | _ => rfl
theorem Row.under_map {n : Nat} {f : Nat → Nat} (hf : ∀ i, i < n → f i = i) {r : Row} (h : r.under n = true) : r.mapId f = r := by
  cases r with
  | raw l =>
    simp only [Row.under, List.all_eq_true] at h
    simp only [Row.mapId, Row.raw.injEq]
    exact (List.map_congr_left fun c hc => CV.under_map hf (h c hc)).trans (List.map_id _)
  | ty t xs => rfl
theorem AV.under1_map {n : Nat} {f : Nat → Nat} (hf : ∀ i, i < n → f i = i) {x : AV} (h : x.under1 n = true) : x.map1 f = x := by
  cases x with
  | c c => simp only [AV.under1] at h; simp [AV.map1, CV.under_map hf h]
  | agg r => simp only [AV.under1] at h; simp [AV.map1, Row.under_map hf h]
  | tup l => rfl
theorem AV.under_map {n : Nat} {f : Nat → Nat} (hf : ∀ i, i < n → f i = i) {x : AV} (h : x.under n = true) : x.mapId f = x := by
  cases x with
  | c c => simp only [AV.under] at h; simp [AV.mapId, CV.under_map hf h]
  | agg r => simp only [AV.under] at h; simp [AV.mapId, Row.under_map hf h]
  | tup l =>
    simp only [AV.under, List.all_eq_true] at h
    simp only [AV.mapId, AV.tup.injEq]
    exact (List.map_congr_left fun c hc => AV.under1_map hf (h c hc)).trans (List.map_id _)
theorem CV.under_mono {n m : Nat} (hn : n ≤ m) {c : CV} (h : c.under n = true) : c.under m = true := by
  cases c with
  | ptr id i e j => simp only [CV.under, decide_eq_true_eq] at h ⊢; omega
  | sl id i e j => simp only [CV.under, decide_eq_true_eq] at h ⊢; omega
  | fn g ids => simp only [CV.under, List.all_eq_true, decide_eq_true_eq] at h ⊢; exact fun i hi => Nat.lt_of_lt_of_le (h i hi) hn
  | _ => rfl
theorem Row.under_mono {n m : Nat} (hn : n ≤ m) {r : Row} (h : r.under n = true) : r.under m = true := by
  cases r with
  | raw l => simp only [Row.under, List.all_eq_true] at h ⊢; exact fun c hc => CV.under_mono hn (h c hc)
  | ty t xs => rfl
theorem AV.under_mono {n m : Nat} (hn : n ≤ m) {x : AV} (h : x.under n = true) : x.under m = true := by
  cases x with
  | c c => exact CV.under_mono hn h
  | agg r => exact Row.under_mono hn h
  | tup l =>
    simp only [AV.under, List.all_eq_true] at h ⊢
    refine fun c hc => ?_
    have := h c hc
    cases c with
    | c c => exact CV.under_mono hn this
    | agg r => exact Row.under_mono hn this
    | tup l => rfl
theorem underH_at {n : Nat} : ∀ {H : Hp}, underH n H = true → ∀ (i : Nat) r, H[i]? = some (some r) → r.under n = true
  | [], _, i, r, hr => by simp at hr
  | some q :: l, h, i, r, hr => by
    simp only [underH, Bool.and_eq_true] at h
    cases i with
    | zero => simp at hr; subst hr; exact h.1
    | succ i => exact underH_at h.2 i r (by simpa using hr)
  | none :: l, h, i, r, hr => by
    simp only [underH] at h
    cases i with
    | zero => simp at hr
    | succ i => exact underH_at h i r (by simpa using hr)
theorem underE_at {n : Nat} : ∀ {l : List (Nat × AV)}, underE n l = true → ∀ t x, look l t = some x → x.under n = true
  | [], _, t, x, h => by cases h
  | (k, y) :: l, hb, t, x, h => by
    simp only [underE, Bool.and_eq_true] at hb
    simp only [look] at h
    split at h
    · cases h; exact hb.1
    · exact underE_at hb.2 t x h
theorem maskH_len (M : List Nat) : ∀ (k : Nat) (H : Hp), (maskH M k H).length = H.length
  | _, [] => rfl
  | k, x :: l => by simp [maskH, maskH_len M (k + 1) l]
theorem maskH_at (M : List Nat) : ∀ (k : Nat) (H : Hp) (i : Nat), (maskH M k H)[i]? = if M.contains (k + i) then H[i]? else (H[i]?).map fun _ => none
  | k, [], i => by simp [maskH]
  | k, x :: l, 0 => by simp only [maskH, List.getElem?_cons_zero, Nat.add_zero, Option.map_some]; split <;> rfl
  | k, x :: l, i + 1 => by
    simp only [maskH, List.getElem?_cons_succ]
    rw [maskH_at M (k + 1) l i, show k + 1 + i = k + (i + 1) by omega]
theorem mergeH_at (M : List Nat) : ∀ (k : Nat) (H H' : Hp), H.length ≤ H'.length → ∀ i, (mergeH M k H H')[i]? = if i < H.length ∧ M.contains (k + i) = false then H[i]? else H'[i]?
  | k, [], ys, _, i => by simp [mergeH]
  | k, x :: l, [], h, i => by simp at h
  | k, x :: l, y :: ys, h, 0 => by by_cases hm : k ∈ M <;> simp [mergeH, hm]
  | k, x :: l, y :: ys, h, i + 1 => by
    simp only [mergeH, List.getElem?_cons_succ, List.length_cons]
    rw [mergeH_at M (k + 1) l ys (by simpa using h) i, show k + 1 + i = k + (i + 1) by omega]
    simp only [Nat.add_lt_add_iff_right]
theorem mergeH_len (M : List Nat) : ∀ (k : Nat) (H H' : Hp), H.length ≤ H'.length → (mergeH M k H H').length = H'.length
  | k, [], ys, _ => rfl
  | k, x :: l, [], h => by simp at h
  | k, x :: l, y :: ys, h => by simp [mergeH, mergeH_len M (k + 1) l ys (by simpa using h)]
theorem put_H {dst : Option Tmp} {x : AV} (h : put s dst x H' = some s') : s'.H = H' ∧ s'.n = s.n ∧ (∀ t, dst ≠ some t → look s'.env t = look s.env t) ∧ (∀ t, dst = some t → t < s.n ∧ look s'.env t = some x) := by
  unfold put at h
  split at h
  · cases h; exact ⟨rfl, rfl, fun _ _ => rfl, fun t ht => by cases ht⟩
  · rename_i d
    split at h
    · rename_i hd
      cases h
      refine ⟨rfl, rfl, fun t ht => ?_, fun t ht => ?_⟩
      · rw [look_lay, if_neg (fun e => ht (by rw [e]))]
      · cases ht; exact ⟨hd, by rw [look_lay, if_pos rfl]⟩
    · cases h
theorem arun_states {ops : List Oper} {Q : St → Prop} : ∀ {l : List Oper} {pl : List Pl} {s : St}, arun P Γ ops l pl s Q →
    ∃ S : Nat → St, S 0 = s ∧ (∀ i o p, l[i]? = some o → pl[i]? = some p → astep P Γ ops o p (S i) (S (i + 1))) ∧ Q (S l.length)
  | [], [], s, h => ⟨fun _ => s, rfl, fun i o p ho => by simp at ho, h⟩
  | [], p :: pl, s, h => by simp [arun] at h
  | o :: l, [], s, h => by simp [arun] at h
  | o :: l, p :: pl, s, h => by
    simp only [arun] at h
    have step : ∀ s', astep P Γ ops o p s s' → arun P Γ ops l pl s' Q → ∃ S : Nat → St, S 0 = s ∧ (∀ i o' p', (o :: l)[i]? = some o' → (p :: pl)[i]? = some p' → astep P Γ ops o' p' (S i) (S (i + 1))) ∧ Q (S (o :: l).length) := fun s' h1 h2 => by
      obtain ⟨S, h3, h4, h5⟩ := arun_states h2
      refine ⟨fun | 0 => s | i + 1 => S i, rfl, fun i o' p' ho hp => ?_, h5⟩
      cases i with
      | zero => cases ho; cases hp; show astep P Γ ops o p s (S 0); rw [h3]; exact h1
      | succ i => exact h4 i o' p' (by simpa using ho) (by simpa using hp)
    split at h
    · rename_i hg
      split at h
      · rename_i x H' hx
        obtain ⟨h1, h2, h3, h4, h5⟩ := h
        split at h5
        · rename_i s' hs'; exact step s' (.inl ⟨hg, x, H', hx, h1, h2, h3, h4, hs'⟩) h5
        · exact h5.elim
      · exact h.elim
    · rename_i hg
      split at h
      · rename_i s' hs'; exact step s' (.inr ⟨hg, hs'⟩) h
      · exact h.elim
    · exact h.elim
end
end Go.Proofs.Ytcnoooodnmjdmaa
end
section
set_option linter.unusedSimpArgs false
set_option linter.unusedVariables false
/- AHI, part P: a region that draws its order, whichever it draws. -/
namespace Go.Proofs.Ytcnoooodnmjdmaa
open Go.RowKit

section
variable {P : Program} {Γ : Gam} {X : Nat → Prop} {σ σ' τ : Sg} {s s' : St} {H H' C C' L L' : Hp} {a : Act} {w w' : World} {B : Nat} {f : Nat → Nat} {o o' : Nat → Prop}
theorem RepA.unmap {x : AV} {v : Value} (ho : ∀ b, o' b → o b) (h : RepA w o σ (x.mapId f) v) : RepA w o' (fun i => σ (f i)) x v := by
  cases x with
  | c c => exact Rep.unmap ho h
  | agg r => obtain ⟨vs, h1, h2, h3⟩ := h; exact ⟨vs, h1, h2.trans (Row.size_map r), h3.unmap ho⟩
  | tup l =>
    obtain ⟨vs, h1, h2, h3⟩ := h
    refine ⟨vs, h1, by rw [h2, List.length_map], fun i y hy => ?_⟩
    obtain ⟨v, h4, h5⟩ := h3 i (y.map1 f) (by rw [List.getElem?_map, hy]; rfl)
    exact ⟨v, h4, h5.unmap ho⟩
/-- What the state's values and rows name is there. -/
structure Low (s : St) : Prop where
  env : ∀ t x, look s.env t = some x → x.under s.H.length = true
  row : ∀ (i : Nat) r, s.H[i]? = some (some r) → r.under s.H.length = true
theorem astep_len {ops : List Oper} {o : Oper} {p : Pl} (h : astep P Γ ops o p s s') : s'.n = s.n ∧ s'.H.length = s.H.length + p.n ∧ (∀ t, o.dst ≠ some t → look s'.env t = look s.env t) := by
  rcases h with ⟨-, x, H', -, -, h2, -, -, h5⟩ | ⟨-, h5⟩
  · obtain ⟨e1, e2, e3, e4⟩ := put_H h5
    exact ⟨e2, by rw [e1, mergeH_len _ _ _ _ (by omega), h2], e3⟩
  · obtain ⟨e1, e2, e3, e4⟩ := put_H h5
    exact ⟨e2, by rw [e1]; simp, e3⟩
theorem astep_row {ops : List Oper} {o : Oper} {p : Pl} (h : astep P Γ ops o p s s') {id : Nat} (hid : id < s.H.length) (hm : p.q = true ∨ id ∉ p.m) : s'.H[id]? = s.H[id]? := by
  rcases h with ⟨-, x, H', -, -, h2, -, -, h5⟩ | ⟨-, h5⟩
  · obtain ⟨e1, e2, e3, e4⟩ := put_H h5
    rw [e1, mergeH_at _ _ _ _ (by omega), if_pos]
    refine ⟨hid, ?_⟩
    unfold Pl.w
    rcases hm with hm | hm
    · simp [hm]
    · split <;> simp [hm]
  · obtain ⟨e1, e2, e3, e4⟩ := put_H h5
    rw [e1, List.getElem?_append_left hid]
theorem astep_low {ops : List Oper} {o : Oper} {p : Pl} (h : astep P Γ ops o p s s') (hl : Low s) : Low s' := by
  obtain ⟨g1, g2, g3⟩ := astep_len h
  have hle : s.H.length ≤ s'.H.length := by omega
  rcases h with ⟨-, x, H', -, -, h2, h3, h4, h5⟩ | ⟨-, h5⟩
  · obtain ⟨e1, e2, e3, e4⟩ := put_H h5
    have hlen : s'.H.length = H'.length := by omega
    refine ⟨fun t y hy => ?_, fun i r hr => ?_⟩
    · by_cases ht : o.dst = some t
      · rw [(e4 t ht).2] at hy; cases hy; rw [hlen]; exact h3
      · rw [e3 t ht] at hy; exact AV.under_mono hle (hl.env t y hy)
    · rw [e1, mergeH_at _ _ _ _ (by omega)] at hr
      split at hr
      · exact Row.under_mono hle (hl.row i r hr)
      · rw [hlen]; exact underH_at h4 i r hr
  · obtain ⟨e1, e2, e3, e4⟩ := put_H h5
    refine ⟨fun t y hy => ?_, fun i r hr => ?_⟩
    · by_cases ht : o.dst = some t
      · rw [(e4 t ht).2] at hy; cases hy; rfl
      · rw [e3 t ht] at hy; exact AV.under_mono hle (hl.env t y hy)
    · rw [e1] at hr
      rcases Nat.lt_or_ge i s.H.length with h1 | h1
      · rw [List.getElem?_append_left h1] at hr; exact Row.under_mono hle (hl.row i r hr)
      · rw [List.getElem?_append_right h1, List.getElem?_replicate] at hr; split at hr <;> cases hr
theorem infs_len (ops : Array Oper) : ∀ {l : List Oper} {pl : List Pl} {lo : Nat} {A : List (List Nat)}, l.length = pl.length → (infs ops lo A l pl).length = l.length
  | [], [], _, _, _ => rfl
  | [], _ :: _, _, _, h => by simp at h
  | _ :: _, [], _, _, h => by simp at h
  | o :: l, p :: pl, lo, A, h => by simp only [infs, List.length_cons]; rw [infs_len ops (by simpa using h)]
theorem infs_at (ops : Array Oper) {os : List Oper} : ∀ {l : List Oper} {pl : List Pl} {lo : Nat} {A : List (List Nat)} {S : Nat → St}, (∀ i o p, l[i]? = some o → pl[i]? = some p → astep P Γ os o p (S i) (S (i + 1))) → (S 0).H.length = lo → ∀ i o p, l[i]? = some o → pl[i]? = some p →
    ∃ x, (infs ops lo A l pl)[i]? = some x ∧ x.rd = o.looksAt ops ∧ x.d = o.dst ∧ x.m = p.m ∧ x.q = p.q ∧ x.lo = (S i).H.length ∧ x.hi = (S (i + 1)).H.length ∧ x.dir = direct o
  | [], _, _, _, S, hS, h0, i, o, p, ho, hp => by simp at ho
  | _ :: _, [], _, _, S, hS, h0, i, o, p, ho, hp => by simp at hp
  | o' :: l, p' :: pl, lo, A, S, hS, h0, i, o, p, ho, hp => by
    have h1 := (astep_len (hS 0 o' p' rfl rfl)).2.1
    cases i with
    | zero =>
      cases ho; cases hp
      exact ⟨_, rfl, rfl, rfl, rfl, rfl, h0.symm, by rw [h1, h0], rfl⟩
    | succ i =>
      obtain ⟨x, hx, h⟩ := infs_at ops (S := fun i => S (i + 1)) (lo := lo + p'.n) (A := A ++ [direct o' ++ (direct o').flatMap fun k => A.getD k []]) (fun i o p ho hp => hS (i + 1) o p (by simpa using ho) (by simpa using hp)) (by rw [h1, h0]) i o p (by simpa using ho) (by simpa using hp)
      exact ⟨x, hx, h⟩
/-- A place: a slot, or a row. -/
abbrev Loc := Nat ⊕ Nat
def wrs (x : Inf) : Loc → Prop
  | .inl t => x.d = some t
  | .inr id => (x.q = false ∧ id ∈ x.m) ∨ (x.lo ≤ id ∧ id < x.hi)
def tch (x : Inf) : Loc → Prop
  | .inl t => t ∈ x.rd ∨ x.d = some t
  | .inr id => id ∈ x.m ∨ (x.lo ≤ id ∧ id < x.hi)
theorem wrs_tch {x : Inf} {loc : Loc} (h : wrs x loc) : tch x loc := by
  cases loc with
  | inl t => exact .inr h
  | inr id => exact h.imp (·.2) (fun h => h)
theorem confl_spec {x y : Inf} (h : x.confl y = false) (h' : y.confl x = false) (hd : ∀ id, x.lo ≤ id → id < x.hi → y.lo ≤ id → id < y.hi → False) {loc : Loc} (hw : wrs x loc) (ht : tch y loc) : False := by
  simp only [Inf.confl, Bool.or_eq_false_iff] at h h'
  obtain ⟨⟨h1, h2⟩, h3⟩ := h
  obtain ⟨⟨h4, h5⟩, h6⟩ := h'
  cases loc with
  | inl t =>
    simp only [wrs] at hw
    rw [hw] at h1
    simp only [Bool.or_eq_false_iff] at h1
    rcases ht with ht | ht
    · simp [ht] at h1
    · simp [ht] at h1
  | inr id =>
    rcases hw with ⟨hq, hm⟩ | ⟨hl, hh⟩
    · rcases ht with ht | ⟨hl', hh'⟩
      · simp only [hq, Bool.not_false, Bool.true_and, List.any_eq_false] at h2
        exact h2 id hm (by simpa using ht)
      · simp only [List.any_eq_false] at h6
        exact h6 id hm (by simp [hl', hh'])
    · rcases ht with ht | ⟨hl', hh'⟩
      · simp only [List.any_eq_false] at h3
        exact h3 id ht (by simp [hl, hh])
      · exact hd id hl hh hl' hh'
/-- What the order of a region says. -/
structure Ord (m : Nat) (I : Nat → Inf) : Prop where
  dir : ∀ i, i < m → ∀ k ∈ (I i).dir, k < i
  anc : ∀ i, i < m → ∀ k ∈ (I i).anc, k ∈ (I i).dir ∨ ∃ j ∈ (I i).dir, k ∈ (I j).anc
  low : ∀ i, i < m → ∀ id ∈ (I i).m, id < (I i).lo
  ord : ∀ i k loc, i < m → k < i → (wrs (I k) loc ∧ tch (I i) loc) ∨ (wrs (I i) loc ∧ tch (I k) loc) → k ∈ (I i).anc
theorem ord_of {l : List Inf} {I : Nat → Inf} (hI : ∀ i, i < l.length → l[i]? = some (I i)) (hmono : ∀ i k, i < l.length → k < i → (I k).hi ≤ (I i).lo) (h : pairsOk l = true) : Ord l.length I := by
  unfold pairsOk at h
  rw [List.all_eq_true] at h
  have h' : ∀ i, i < l.length → _ := fun i hi => h i (List.mem_range.2 hi)
  have key : ∀ i, i < l.length → (∀ k ∈ (I i).dir, k < i) ∧ (∀ k ∈ (I i).anc, k ∈ (I i).dir ∨ ∃ j ∈ (I i).dir, k ∈ (I j).anc) ∧ (∀ id ∈ (I i).m, id < (I i).lo) ∧ ∀ k, k < i → k ∈ (I i).anc ∨ ((I k).confl (I i) = false ∧ (I i).confl (I k) = false) := fun i hi => by
    have hx := h' i hi
    rw [hI i hi] at hx
    simp only [Bool.and_eq_true, List.all_eq_true, decide_eq_true_eq, Bool.or_eq_true] at hx
    obtain ⟨⟨⟨g1, g2⟩, g3⟩, g4⟩ := hx
    refine ⟨g1, fun k hk => ?_, g3, fun k hk => ?_⟩
    · rcases g2 k hk with g | g
      · exact .inl (by simpa using g)
      · obtain ⟨j, hj, hjk⟩ := List.any_eq_true.1 g
        rw [hI j (Nat.lt_trans (g1 j hj) hi)] at hjk
        exact .inr ⟨j, hj, by simpa using hjk⟩
    · have := g4 k (List.mem_range.2 hk)
      rw [hI k (Nat.lt_trans hk hi)] at this
      simp only [Bool.or_eq_true, Bool.and_eq_true, Bool.not_eq_true'] at this
      rcases this with g | ⟨g5, g6⟩
      · exact .inl (by simpa using g)
      · exact .inr ⟨g6, g5⟩
  refine ⟨fun i hi => (key i hi).1, fun i hi => (key i hi).2.1, fun i hi => (key i hi).2.2.1, fun i k loc hi hk hor => ?_⟩
  rcases (key i hi).2.2.2 k hk with g | ⟨g1, g2⟩
  · exact g
  · exfalso
    have := hmono i k hi hk
    rcases hor with ⟨h1, h2⟩ | ⟨h1, h2⟩
    · exact confl_spec g1 g2 (fun id a1 a2 a3 a4 => by omega) h1 h2
    · exact confl_spec g2 g1 (fun id a1 a2 a3 a4 => by omega) h1 h2
theorem guard_rep' {T : Nat → Prop} (h : EnvRep X σ s a w T) {ops : Array Oper} {o : Oper} {b : Bool} (hT : ∀ t, t ∈ o.looksAt ops → T t) (hg : aguard ops.toList s o = some b) : Region.wanted o (yielded ops a.tmps) = b := by
  unfold aguard at hg
  unfold Region.wanted
  split at hg
  · rename_i h0; cases hg; simp [h0]
  · rename_i j want h0
    simp only [h0]
    split at hg
    · rename_i q hq
      split at hg
      · rename_i d hd
        have hq' : ops[j]? = some q := by simpa using hq
        have hTd : T d := hT d (List.mem_append_right _ (by simp [h0, hq', hd]))
        split at hg
        · rename_i c hc
          cases hg
          obtain ⟨v, h1, h2⟩ := h d _ hTd hc
          obtain ⟨rfl, -⟩ := h2
          simp [yielded, hq', hd, h1]
        · rename_i hc
          cases hg
          obtain ⟨v, h1, h2⟩ := h d _ hTd hc
          obtain ⟨vs, rfl, -⟩ := h2
          simp [yielded, hq', hd, h1]
        · cases hg
      · cases hg
    · cases hg
end
end Go.Proofs.Ytcnoooodnmjdmaa
end
section
set_option linter.unusedSimpArgs false
set_option linter.unusedVariables false
/- AHI, part Q: a region that draws its order: the proof. -/
namespace Go.Proofs.Ytcnoooodnmjdmaa
open Go.RowKit

theorem HeapRep.pad {X : Nat → Prop} {σ : Sg} {H : Hp} {w : World} (h : HeapRep X σ H w) (k : Nat) : HeapRep X σ (H ++ List.replicate k none) w ∧ Keeps w (ownB σ H) w (ownB σ (H ++ List.replicate k none)) := by
  have hr : ∀ (id : Nat) r, (H ++ List.replicate k none)[id]? = some (some r) → H[id]? = some (some r) := fun id r hr => by
    by_cases hi : id < H.length
    · rwa [List.getElem?_append_left hi] at hr
    · rw [List.getElem?_append_right (by omega), List.getElem?_replicate] at hr
      split at hr <;> cases hr
  have ho : ∀ b, ownB σ (H ++ List.replicate k none) b → ownB σ H b := fun b ⟨id, r, x, h1, h2⟩ => ⟨id, r, x, hr id r h1, h2⟩
  have hk : Keeps w (ownB σ H) w (ownB σ (H ++ List.replicate k none)) := ⟨Nat.le_refl _, fun _ _ _ => rfl, fun b hb => .inl (ho b hb)⟩
  exact ⟨h.next hk (fun _ _ h => h) (fun id hid => h.dom id (by simp at hid; omega)) (fun id r h1 => .inl ⟨hr id r h1, fun h => h, fun _ _ _ => rfl⟩) (fun id id' r r' b x x' h1 h2 h3 h4 => h.inj id id' r r' b x x' (hr _ _ h1) (hr _ _ h2) h3 h4), hk⟩
section
variable {P : Program} {Γ : Gam} {X : Nat → Prop} {s : St} {B : Nat}
/-- A run in index order. -/
structure Run (P : Program) (Γ : Gam) (ops : Array Oper) (pl : List Pl) (S : Nat → St) (I : Nat → Inf) : Prop where
  step : ∀ i o p, ops[i]? = some o → pl[i]? = some p → astep P Γ ops.toList o p (S i) (S (i + 1))
  low : Low (S 0)
  len : ops.size = pl.length
  inf : ∀ i o p, ops[i]? = some o → pl[i]? = some p → (I i).rd = o.looksAt ops ∧ (I i).d = o.dst ∧ (I i).m = p.m ∧ (I i).q = p.q ∧ (I i).lo = (S i).H.length ∧ (I i).hi = (S (i + 1)).H.length ∧ (I i).dir = direct o
  ord : Ord ops.size I
section
variable {ops : Array Oper} {pl : List Pl} {S : Nat → St} {I : Nat → Inf}
theorem Run.at (hr : Run P Γ ops pl S I) {i : Nat} (hi : i < ops.size) : ∃ o p, ops[i]? = some o ∧ pl[i]? = some p :=
  ⟨ops[i], pl[i]'(hr.len ▸ hi), Array.getElem?_eq_getElem hi, List.getElem?_eq_getElem (hr.len ▸ hi)⟩
theorem Run.lows (hr : Run P Γ ops pl S I) : ∀ i, i ≤ ops.size → Low (S i)
  | 0, _ => hr.low
  | i + 1, h => by
    obtain ⟨o, p, ho, hp⟩ := hr.at (i := i) (by omega)
    exact astep_low (hr.step i o p ho hp) (hr.lows i (by omega))
theorem Run.n (hr : Run P Γ ops pl S I) : ∀ i, i ≤ ops.size → (S i).n = (S 0).n
  | 0, _ => rfl
  | i + 1, h => by
    obtain ⟨o, p, ho, hp⟩ := hr.at (i := i) (by omega)
    rw [(astep_len (hr.step i o p ho hp)).1, hr.n i (by omega)]
theorem Run.mono (hr : Run P Γ ops pl S I) {i : Nat} : ∀ {j : Nat}, i ≤ j → j ≤ ops.size → (S i).H.length ≤ (S j).H.length
  | 0, h, _ => by rw [Nat.le_zero.1 h]; exact Nat.le_refl _
  | j + 1, h, hj => by
    rcases Nat.lt_or_ge j i with h1 | h1
    · rw [show i = j + 1 by omega]; exact Nat.le_refl _
    · obtain ⟨o, p, ho, hp⟩ := hr.at (i := j) (by omega)
      have := (astep_len (hr.step j o p ho hp)).2.1
      have := hr.mono h1 (by omega)
      omega
/-- What is not written stays. -/
theorem Run.slot (hr : Run P Γ ops pl S I) {t u : Nat} : ∀ {v : Nat}, u ≤ v → v ≤ ops.size → (∀ k, u ≤ k → k < v → ¬ wrs (I k) (.inl t)) → look (S v).env t = look (S u).env t
  | 0, h, _, _ => by rw [Nat.le_zero.1 h]
  | v + 1, h, hv, hn => by
    rcases Nat.lt_or_ge v u with h1 | h1
    · rw [show u = v + 1 by omega]
    · obtain ⟨o, p, ho, hp⟩ := hr.at (i := v) (by omega)
      rw [(astep_len (hr.step v o p ho hp)).2.2 t (fun e => hn v h1 (by omega) (by show (I v).d = _; rw [(hr.inf v o p ho hp).2.1]; exact e))]
      exact hr.slot h1 (by omega) fun k a b => hn k a (by omega)
theorem Run.heap (hr : Run P Γ ops pl S I) {id u : Nat} : ∀ {v : Nat}, u ≤ v → v ≤ ops.size → (∀ k, u ≤ k → k < v → ¬ wrs (I k) (.inr id)) → ((S v).H[id]?).join = ((S u).H[id]?).join
  | 0, h, _, _ => by rw [Nat.le_zero.1 h]
  | v + 1, h, hv, hn => by
    rcases Nat.lt_or_ge v u with h1 | h1
    · rw [show u = v + 1 by omega]
    · obtain ⟨o, p, ho, hp⟩ := hr.at (i := v) (by omega)
      have hst := hr.step v o p ho hp
      obtain ⟨-, -, e3, e4, e5, e6, -⟩ := hr.inf v o p ho hp
      have hnw := hn v h1 (by omega)
      rw [← hr.heap h1 (by omega) (fun k a b => hn k a (by omega))]
      rcases Nat.lt_or_ge id (S v).H.length with h2 | h2
      · rw [astep_row hst h2]
        cases hq : p.q with
        | true => exact .inl rfl
        | false => exact .inr fun hm => hnw (.inl ⟨by rw [e4]; exact hq, by rw [e3]; exact hm⟩)
      · have h3 : (S (v + 1)).H.length ≤ id := Nat.le_of_not_lt fun h3 => hnw (.inr ⟨by rw [e5]; exact h2, by rw [e6]; exact h3⟩)
        rw [List.getElem?_eq_none h3, List.getElem?_eq_none h2]
abbrev dn (l : Array Bool) (k : Nat) : Prop := l.getD k false = true
/-- Between the operations. -/
structure Inv (X : Nat → Prop) (ops : Array Oper) (S : Nat → St) (I : Nat → Inf) (σ0 : Sg) (w0 : World) (l : Array Bool) (ver : Loc → Nat) (σ : Sg) (C : Hp) (a : Act) (w : World) : Prop where
  size : l.size = ops.size
  closed : ∀ i, i < ops.size → dn l i → ∀ k ∈ (I i).anc, dn l k
  v1 : ∀ loc k, k < ops.size → dn l k → wrs (I k) loc → k < ver loc
  v2 : ∀ loc, ver loc = 0 ∨ ∃ k, k < ops.size ∧ dn l k ∧ wrs (I k) loc ∧ ver loc = k + 1
  clen : C.length = (S ops.size).H.length
  ccon : ∀ id, id < (S ops.size).H.length → C[id]? = some (((S (ver (.inr id))).H[id]?).join)
  heap : HeapRep X σ C w
  slots : ∀ t x, look (S (ver (.inl t))).env t = some x → ∃ v, a.tmps[t]? = some v ∧ RepA w (own X σ C) σ x v
  dom : ∀ id y, σ id = some y → id < (S 0).H.length ∨ ∃ k, k < ops.size ∧ dn l k ∧ (S k).H.length ≤ id ∧ id < (S (k + 1)).H.length
  tmps : a.tmps.size = (S 0).n
  defers : a.defers = []
  os : w.os = w0.os
  tape : w.tape = w0.tape
  output : w.output = w0.output
  keeps : Keeps w0 (ownB σ0 (S 0).H) w (ownB σ C)
  same : ∀ id, id < (S 0).H.length → σ id = σ0 id
section
variable {σ0 σ : Sg} {w0 w : World} {l : Array Bool} {ver : Loc → Nat} {C : Hp} {a : Act}
theorem Inv.ver_le (hv : Inv X ops S I σ0 w0 l ver σ C a w) (hr : Run P Γ ops pl S I) {i : Nat} (hi : i < ops.size) (hn : ¬ dn l i) (hanc : ∀ k ∈ (I i).anc, dn l k) {loc : Loc} (ht : tch (I i) loc) :
    ver loc ≤ i ∧ ∀ k, ver loc ≤ k → k < i → ¬ wrs (I k) loc := by
  refine ⟨?_, fun k hk hki hw => ?_⟩
  · rcases hv.v2 loc with h | ⟨k, hk, hd, hw, he⟩
    · omega
    · rcases Nat.lt_trichotomy k i with h | h | h
      · omega
      · subst h; exact (hn hd).elim
      · exact (hn (hv.closed k hk hd i (hr.ord.ord k i loc hk h (.inr ⟨hw, ht⟩)))).elim
  · have := hanc k (hr.ord.ord i k loc hi hki (.inl ⟨hw, ht⟩))
    have := hv.v1 loc k (by omega) this hw
    omega
theorem Inv.slot_at (hv : Inv X ops S I σ0 w0 l ver σ C a w) (hr : Run P Γ ops pl S I) {i : Nat} (hi : i < ops.size) (hn : ¬ dn l i) (hanc : ∀ k ∈ (I i).anc, dn l k) {t : Nat} (ht : tch (I i) (.inl t)) :
    look (S i).env t = look (S (ver (.inl t))).env t := by
  obtain ⟨h1, h2⟩ := hv.ver_le hr hi hn hanc ht
  exact hr.slot h1 (by omega) h2
theorem Inv.row_at (hv : Inv X ops S I σ0 w0 l ver σ C a w) (hr : Run P Γ ops pl S I) {i : Nat} (hi : i < ops.size) (hn : ¬ dn l i) (hanc : ∀ k ∈ (I i).anc, dn l k) {id : Nat} (ht : tch (I i) (.inr id)) :
    ((S i).H[id]?).join = ((S (ver (.inr id))).H[id]?).join := by
  obtain ⟨h1, h2⟩ := hv.ver_le hr hi hn hanc ht
  exact hr.heap h1 (by omega) h2
theorem dn_set {l : Array Bool} {i k : Nat} (hi : i < l.size) : dn (l.setIfInBounds i true) k ↔ k = i ∨ dn l k := by
  by_cases h : k = i
  · subst h; simp [dn, hi]
  · have : i ≠ k := fun e => h e.symm
    simp [dn, Array.getElem?_setIfInBounds_ne this, h]
theorem join_some {α : Type} {x : Option (Option α)} {y : α} (h : x.join = some y) : x = some (some y) := by
  cases x with
  | none => cases h
  | some z => rw [show (some z).join = z from rfl] at h; rw [h]
open Classical in
/-- The versions behind an operation. -/
noncomputable def verAfter (I : Nat → Inf) (i : Nat) (ver : Loc → Nat) (loc : Loc) : Nat := if wrs (I i) loc then i + 1 else ver loc
theorem Inv.vers (hv : Inv X ops S I σ0 w0 l ver σ C a w) (hr : Run P Γ ops pl S I) {i : Nat} (hi : i < ops.size) (hn : ¬ dn l i) (hanc : ∀ k ∈ (I i).anc, dn l k) :
    (∀ j, j < ops.size → dn (l.setIfInBounds i true) j → ∀ k ∈ (I j).anc, dn (l.setIfInBounds i true) k) ∧
    (∀ loc k, k < ops.size → dn (l.setIfInBounds i true) k → wrs (I k) loc → k < verAfter I i ver loc) ∧
    (∀ loc, verAfter I i ver loc = 0 ∨ ∃ k, k < ops.size ∧ dn (l.setIfInBounds i true) k ∧ wrs (I k) loc ∧ verAfter I i ver loc = k + 1) := by
  have hil : i < l.size := by rw [hv.size]; exact hi
  refine ⟨fun j hj hd k hk => (dn_set hil).2 (.inr ?_), fun loc k hk hd hw => ?_, fun loc => ?_⟩
  · rcases (dn_set hil).1 hd with rfl | hd
    · exact hanc k hk
    · exact hv.closed j hj hd k hk
  · unfold verAfter
    rcases (dn_set hil).1 hd with rfl | hd
    · rw [if_pos hw]; omega
    · split
      · rename_i hwi
        have := hv.v1 loc k hk hd hw
        have := (hv.ver_le hr hi hn hanc (wrs_tch hwi)).1
        omega
      · exact hv.v1 loc k hk hd hw
  · unfold verAfter
    split
    · rename_i hwi; exact .inr ⟨i, hi, (dn_set hil).2 (.inl rfl), hwi, rfl⟩
    · rcases hv.v2 loc with h | ⟨k, hk, hd, hw, he⟩
      · exact .inl h
      · exact .inr ⟨k, hk, (dn_set hil).2 (.inr hd), hw, he⟩
/-- An operation, wherever it comes. -/
theorem Inv.op (hΓ : GamOk P Γ) (hv : Inv X ops S I σ0 w0 l ver σ C a w) (hr : Run P Γ ops pl S I) {i : Nat} {o : Oper} (ho : ops[i]? = some o) (hn : ¬ dn l i) (hdir : ∀ k ∈ direct o, dn l k) {Q : Exit → Act → World → Prop} {K : Act → World → Prop}
    (hK : ∀ ver' σ' C' a' w', Inv X ops S I σ0 w0 (l.setIfInBounds i true) ver' σ' C' a' w' → K a' w') : wpOp P ops Q i K a w := by
  have hi : i < ops.size := (Array.getElem?_eq_some_iff.1 ho).1
  have hil : i < l.size := by rw [hv.size]; exact hi
  obtain ⟨o', p, ho', hp⟩ := hr.at hi
  rw [ho] at ho'; cases ho'
  obtain ⟨e1, e2, e3, e4, e5, e6, e7⟩ := hr.inf i o p ho hp
  have hanc : ∀ k ∈ (I i).anc, dn l k := fun k hk => by
    rcases hr.ord.anc i hi k hk with h | ⟨j, hj, hk'⟩
    · rw [e7] at h; exact hdir k h
    · have hj' := hj
      rw [e7] at hj'
      exact hv.closed j (Nat.lt_trans (hr.ord.dir i hi j hj) hi) (hdir j hj') k hk'
  have hlow := hr.lows i (Nat.le_of_lt hi)
  have hst := hr.step i o p ho hp
  obtain ⟨g1, g2, g3⟩ := astep_len hst
  have hNM : (S (i + 1)).H.length ≤ (S ops.size).H.length := hr.mono (by omega) (by omega)
  have h0 : (S 0).H.length ≤ (S i).H.length := hr.mono (by omega) (by omega)
  obtain ⟨c1, c2, c3⟩ := hv.vers hr hi hn hanc
  unfold wpOp
  simp only [ho]
  -- the slots that it looks at
  have hlook : ∀ t x, t ∈ o.looksAt ops → look (S i).env t = some x → ∃ v, a.tmps[t]? = some v ∧ RepA w (own X σ C) σ x v := fun t x ht hx => by
    rw [hv.slot_at hr hi hn hanc (.inl (by rw [e1]; exact ht))] at hx
    exact hv.slots t x hx
  have hdomT : ∀ k, dn l k → dn (l.setIfInBounds i true) k := fun k hk => (dn_set hil).2 (.inr hk)
  rcases hst with ⟨hg, x, H', hx, hq, hlen, hux, huH, hput⟩ | ⟨hg, hput⟩
  · -- the rows that it needs, under their numbers
    obtain ⟨p1, p2, p3, p4⟩ := put_H hput
    have hhi : (S (i + 1)).H.length = H'.length := by omega
    let f : Nat → Nat := fun j => if j < H'.length then j else C.length + j
    have hfid : ∀ j, j < H'.length → f j = j := fun j hj => if_pos hj
    have hfge : ∀ j, H'.length ≤ j → f j = C.length + j := fun j hj => if_neg (by omega)
    have hCl : H'.length ≤ C.length := by rw [hv.clen]; omega
    have hinj : ∀ j k, f j = f k → j = k := fun j k e => by
      rcases Nat.lt_or_ge j H'.length with h1 | h1 <;> rcases Nat.lt_or_ge k H'.length with h2 | h2
      · rw [hfid j h1, hfid k h2] at e; exact e
      · rw [hfid j h1, hfge k h2] at e; omega
      · rw [hfge j h1, hfid k h2] at e; omega
      · rw [hfge j h1, hfge k h2] at e; omega
    have hlenL : (maskH p.m 0 (S i).H).length = (S i).H.length := maskH_len _ _ _
    have hLrow : ∀ (j : Nat) q, (maskH p.m 0 (S i).H)[j]? = some (some q) → j ∈ p.m ∧ (S i).H[j]? = some (some q) ∧ C[j]? = some (some q) := fun j q hj => by
      rw [maskH_at, Nat.zero_add] at hj
      split at hj
      · rename_i hm
        have hm' : j ∈ p.m := by simpa using hm
        have hjl := (List.getElem?_eq_some_iff.1 hj).1
        refine ⟨hm', hj, ?_⟩
        rw [hv.ccon j (by omega), ← hv.row_at hr hi hn hanc (.inl (by rw [e3]; exact hm')), hj]
        rfl
      · obtain ⟨y, hy, hy'⟩ := Option.map_eq_some_iff.1 hj; cases hy'
    have hpart : Part σ C (maskH p.m 0 (S i).H) f (fun _ => False) := by
      refine ⟨hinj, fun j q hj => .inr ?_, fun j hj => ?_, fun _ _ h => h⟩
      · obtain ⟨h1, h2, h3⟩ := hLrow j q hj
        have hjl := (List.getElem?_eq_some_iff.1 h2).1
        rw [hfid j (by omega), Row.under_map (n := (S i).H.length) (fun k hk => hfid k (by omega)) (hlow.row j q h2)]
        exact h3
      · rw [hlenL] at hj
        rcases Nat.lt_or_ge j H'.length with h1 | h1
        · rw [hfid j h1]
          cases hs : σ j with
          | none => rfl
          | some y =>
            rcases hv.dom j y hs with h2 | ⟨k, hk, hd, h2, h3⟩
            · omega
            · rcases Nat.lt_trichotomy k i with h4 | h4 | h4
              · have := hr.mono (i := k + 1) (j := i) (by omega) (by omega); omega
              · subst h4; exact (hn hd).elim
              · have := hr.mono (i := i + 1) (j := k) (by omega) (by omega); omega
        · rw [hfge j h1]; exact hv.heap.dom _ (by omega)
    have hheap := hpart.heap hv.heap
    have henv : EnvRep (others X σ C (maskH p.m 0 (S i).H) f (fun _ => False)) (fun j => σ (f j)) ⟨(S i).n, (S i).env, maskH p.m 0 (S i).H⟩ a w (fun t => t ∈ o.looksAt ops) := fun t y ht hy => by
      obtain ⟨v, h1, h2⟩ := hlook t y ht hy
      refine ⟨v, h1, RepA.unmap hpart.le ?_⟩
      rw [AV.under_map (n := (S i).H.length) (fun k hk => hfid k (by omega)) (hlow.env t y hy)]
      exact h2
    have hwant : Region.wanted o (yielded ops a.tmps) = true := guard_rep' (s := ⟨(S i).n, (S i).env, maskH p.m 0 (S i).H⟩) henv (fun _ h => h) hg
    rw [if_pos hwant]
    left
    refine op_sound hΓ hx (fun t y ht hy => henv t y (List.mem_append_left _ (List.mem_filterMap.2 ⟨.tmp t, by simpa using ht, rfl⟩)) hy) hheap fun v w' ⟨σ', q1, q2, q3⟩ => ?_
    let wr : Nat → Bool := fun id => (!p.q && p.m.contains id) || (decide ((S i).H.length ≤ id) && decide (id < (S (i + 1)).H.length))
    have hwr : ∀ id, wr id = true ↔ wrs (I i) (.inr id) := fun id => by
      simp only [wr, wrs, e3, e4, e5, e6, Bool.or_eq_true, Bool.and_eq_true, Bool.not_eq_true', decide_eq_true_eq, List.contains_eq_mem]
    let C' : Hp := (List.range C.length).map fun id => if wr id = true then (H'[id]?).join else (C[id]?).join
    have hC'len : C'.length = C.length := by simp [C']
    have hC' : ∀ id, id < C.length → C'[id]? = some (if wr id = true then (H'[id]?).join else (C[id]?).join) := fun id hid => by
      simp only [C', List.getElem?_map, List.getElem?_range hid, Option.map_some]
    have hrowS : ∀ id, wr id = true → ((S (i + 1)).H[id]?) = H'[id]? := fun id hid => by
      rw [p1, mergeH_at _ _ _ _ (by omega), if_neg]
      rintro ⟨h1, h2⟩
      simp only [wr, Bool.or_eq_true, Bool.and_eq_true, Bool.not_eq_true', decide_eq_true_eq] at hid
      rcases hid with ⟨h3, h4⟩ | ⟨h3, h4⟩
      · unfold Pl.w at h2; rw [h3, Nat.zero_add] at h2; simp only [Bool.false_eq_true, if_false] at h2; rw [h4] at h2; cases h2
      · omega
    have hout : PartOut C (maskH p.m 0 (S i).H) f H' C' := by
      refine ⟨by rw [hC'len]; exact Nat.le_refl _, fun j hj => by rw [hfid j hj, hC'len]; omega, fun id r hr' => ?_⟩
      have hid : id < C.length := by rw [← hC'len]; exact (List.getElem?_eq_some_iff.1 hr').1
      rw [hC' id hid] at hr'
      have left : H'[id]? = some (some r) → ∃ j q, f j = id ∧ H'[j]? = some (some q) ∧ r = q.mapId f := fun h => by
        have hl := (List.getElem?_eq_some_iff.1 h).1
        exact ⟨id, r, hfid id hl, h, (Row.under_map (n := H'.length) hfid (underH_at huH id r h)).symm⟩
      split at hr'
      · exact .inl (left (join_some (by simpa using hr')))
      · rename_i hnw
        have hc : C[id]? = some (some r) := join_some (by simpa using hr')
        by_cases hm : id ∈ p.m
        · left
          have hq' : p.q = true := by
            cases hqq : p.q with
            | true => rfl
            | false => exfalso; apply hnw; simp [wr, hqq, hm]
          have hml : id < (S i).H.length := by have := hr.ord.low i hi id (by rw [e3]; exact hm); omega
          apply left
          have h1 : (H'.take (S i).H.length)[id]? = H'[id]? := by rw [List.getElem?_take, if_pos hml]
          rw [← h1, hq hq', maskH_at, Nat.zero_add, if_pos (by simpa using hm)]
          have h2 := hv.ccon id (by omega)
          rw [← hv.row_at hr hi hn hanc (.inl (by rw [e3]; exact hm)), hc] at h2
          exact join_some (by simpa using h2.symm)
        · right
          refine ⟨hc, fun j hj => ?_⟩
          have hjl : j < H'.length := Nat.lt_of_not_le fun h => by rw [hfge j h] at hj; omega
          rw [hfid j hjl] at hj
          subst hj
          have hlo : j < (S i).H.length := Nat.lt_of_not_le fun h => by
            apply hnw; simp only [wr, Bool.or_eq_true, Bool.and_eq_true, decide_eq_true_eq]; right; exact ⟨h, by omega⟩
          exact ⟨by rw [hlenL]; exact hlo, fun ⟨q, hq'⟩ => hm (hLrow j q hq').1⟩
    obtain ⟨τ, t1, t2, t3, t4, t5, t6⟩ := hpart.out hv.heap hout q3 q2 (.inl fun _ h => h)
    have hxm : x.mapId f = x := AV.under_map hfid hux
    have hτ : ∀ id, ¬ ((S i).H.length ≤ id ∧ id < H'.length) → τ id = σ id := fun id h => t5 id fun j hj => by
      rw [hlenL]
      rcases Nat.lt_or_ge j H'.length with h1 | h1
      · rw [hfid j h1] at hj; subst hj; left; omega
      · exact .inr h1
    refine hK (verAfter I i ver) τ C' (a.put o.dst v) w' ⟨by simp [hv.size], c1, c2, c3, by rw [hC'len]; exact hv.clen, fun id hid => ?_, t1, fun t y hy => ?_, fun id y hy => ?_, ?_, ?_, q3.os.trans hv.os, q3.tape.trans hv.tape, q3.output.trans hv.output, hv.keeps.trans t3, fun id hid => ?_⟩
    · rw [hC' id (by rw [hv.clen]; exact hid)]
      unfold verAfter
      by_cases h : wr id = true
      · rw [if_pos h, if_pos ((hwr id).1 h), hrowS id h]
      · rw [if_neg h, if_neg (fun h' => h ((hwr id).2 h')), hv.ccon id hid]; rfl
    · unfold verAfter at hy
      by_cases hd : o.dst = some t
      · rw [if_pos (by show (I i).d = _; rw [e2]; exact hd), (p4 t hd).2] at hy
        cases hy
        refine ⟨v, ?_, ?_⟩
        · have : t < a.tmps.size := by rw [hv.tmps, ← hr.n i (Nat.le_of_lt hi)]; exact (p4 t hd).1
          simp [Act.put, hd, this]
        · rw [← hxm]; exact t6 x v q1 (.inl fun _ h => h)
      · rw [if_neg (by show ¬ (I i).d = _; rw [e2]; exact hd)] at hy
        obtain ⟨u, h1, h2⟩ := hv.slots t y hy
        refine ⟨u, ?_, h2.mono (keepsX t3) t2⟩
        cases hdd : o.dst with
        | none => exact h1
        | some d =>
          have hne : d ≠ t := fun e => hd (by rw [hdd, e])
          simp only [Act.put]; rw [Array.getElem?_setIfInBounds_ne hne]; exact h1
    · by_cases h : (S i).H.length ≤ id ∧ id < H'.length
      · exact .inr ⟨i, hi, (dn_set hil).2 (.inl rfl), h.1, by omega⟩
      · rw [hτ id h] at hy
        exact (hv.dom id y hy).imp (fun h => h) fun ⟨k, h1, h2, h3⟩ => ⟨k, h1, hdomT k h2, h3⟩
    · cases o.dst <;> simp [Act.put, hv.tmps]
    · cases hdd : o.dst <;> simp [Act.put, hv.defers]
    · rw [hτ id (by omega)]; exact hv.same id hid
  · -- it is passed by
    obtain ⟨p1, p2, p3, p4⟩ := put_H hput
    have hwant : Region.wanted o (yielded ops a.tmps) = false := guard_rep' (X := X) (σ := σ) (s := ⟨(S i).n, (S i).env, C⟩) (T := fun t => t ∈ o.looksAt ops) (fun t y ht hy => hlook t y ht hy) (fun _ h => h) hg
    rw [if_neg (by rw [hwant]; simp)]
    refine hK (verAfter I i ver) σ C (a.put o.dst undef) w ⟨by simp [hv.size], c1, c2, c3, hv.clen, fun id hid => ?_, hv.heap, fun t y hy => ?_, fun id y hy => ?_, ?_, ?_, hv.os, hv.tape, hv.output, hv.keeps, hv.same⟩
    · unfold verAfter
      split
      · rename_i hw
        have hj : ((((S i).H ++ List.replicate p.n none)[id]?).join : Option Row) = ((S i).H[id]?).join := by
          rcases Nat.lt_or_ge id (S i).H.length with h1 | h1
          · rw [List.getElem?_append_left h1]
          · rw [List.getElem?_append_right h1, List.getElem?_replicate, List.getElem?_eq_none h1]; split <;> rfl
        rw [p1, hj, hv.ccon id hid, ← hv.row_at hr hi hn hanc (wrs_tch hw)]
      · exact hv.ccon id hid
    · unfold verAfter at hy
      by_cases hd : o.dst = some t
      · rw [if_pos (by show (I i).d = _; rw [e2]; exact hd), (p4 t hd).2] at hy
        cases hy
        refine ⟨undef, ?_, ⟨[], rfl, rfl, fun i a ha => by simp at ha⟩⟩
        have : t < a.tmps.size := by rw [hv.tmps, ← hr.n i (Nat.le_of_lt hi)]; exact (p4 t hd).1
        simp [Act.put, hd, this]
      · rw [if_neg (by show ¬ (I i).d = _; rw [e2]; exact hd)] at hy
        obtain ⟨u, h1, h2⟩ := hv.slots t y hy
        refine ⟨u, ?_, h2⟩
        cases hdd : o.dst with
        | none => exact h1
        | some d =>
          have hne : d ≠ t := fun e => hd (by rw [hdd, e])
          simp only [Act.put]; rw [Array.getElem?_setIfInBounds_ne hne]; exact h1
    · exact (hv.dom id y hy).imp (fun h => h) fun ⟨k, h1, h2, h3⟩ => ⟨k, h1, hdomT k h2, h3⟩
    · cases o.dst <;> simp [Act.put, hv.tmps]
    · cases hdd : o.dst <;> simp [Act.put, hv.defers]
end
end
end
end Go.Proofs.Ytcnoooodnmjdmaa
end
section
set_option linter.unusedSimpArgs false
set_option linter.unusedVariables false
/- AHI, part R: a region that draws its order, in the walk. -/
namespace Go.Proofs.Ytcnoooodnmjdmaa
open Go.RowKit

section
variable {P : Program} {Γ : Gam} {X : Nat → Prop} {s : St} {B : Nat}
section
variable {ops : Array Oper} {pl : List Pl} {S : Nat → St} {I : Nat → Inf} {σ0 σ : Sg} {w0 w : World} {l : Array Bool} {ver : Loc → Nat} {C : Hp} {a : Act}
theorem count_set {l : Array Bool} {i n : Nat} (hi : l.getD i true = false) (h : l.toList.count false = n + 1) : (l.setIfInBounds i true).toList.count false = n := by
  have hil : i < l.size := by
    rcases Nat.lt_or_ge i l.size with h' | h'
    · exact h'
    · simp [Array.getElem?_eq_none h'] at hi
  have hv : l.toList[i]'(by simpa using hil) = false := by simpa [hil] using hi
  rw [Array.toList_setIfInBounds, List.count_set (by simpa using hil), hv, h]
  simp
theorem all_done {l : Array Bool} (h : l.toList.count false = 0) (k : Nat) (hk : k < l.size) : dn l k := by
  have h1 : l.toList[k]'(by simpa using hk) ≠ false := fun e => List.count_eq_zero.1 h (e ▸ List.getElem_mem _)
  simpa [dn, hk] using h1
theorem Inv.any (hΓ : GamOk P Γ) (hr : Run P Γ ops pl S I) {Q : Exit → Act → World → Prop} (hQ : ∀ (l : Array Bool) ver σ C a w, (∀ k, k < ops.size → dn l k) → Inv X ops S I σ0 w0 l ver σ C a w → Q .normal a w) :
    ∀ (n : Nat) (l : Array Bool) (ver : Loc → Nat) (σ : Sg) (C : Hp) (a : Act) (w : World), l.toList.count false = n → Inv X ops S I σ0 w0 l ver σ C a w → wpAny P .any ops Q n l a w
  | 0, l, ver, σ, C, a, w, hn, hv => by
    have hall : ∀ k, k < ops.size → dn l k := fun k hk => all_done hn k (by rw [hv.size]; exact hk)
    refine ⟨?_, hQ l ver σ C a w hall hv⟩
    cases hrd : Region.ready .any ops l with
    | nil => rfl
    | cons j r =>
      have hj : j ∈ Region.ready .any ops l := by rw [hrd]; simp
      obtain ⟨h1, o, ho, h2⟩ := mem_ready.1 hj
      have hjl : j < ops.size := (Array.getElem?_eq_some_iff.1 ho).1
      have := hall j hjl
      have hjs : j < l.size := by rw [hv.size]; exact hjl
      simp [dn, hjs] at this h1
      rw [this] at h1; cases h1
  | n + 1, l, ver, σ, C, a, w, hn, hv => by
    have hdone : ∀ k, k < ops.size → ¬ dn l k → l.getD k true = false := fun k hk h => by
      have hks : k < l.size := by rw [hv.size]; exact hk
      simp [dn, hks] at h ⊢
      exact h
    refine ⟨fun hrd => ?_, fun j hj => ?_⟩
    · -- the first one that is not done is ready
      exfalso
      have key : ∀ k, k < ops.size → dn l k := by
        intro k
        induction k using Nat.strongRecOn with
        | _ k ih =>
          intro hk
          apply Classical.byContradiction
          intro h
          obtain ⟨o, p, ho, hp⟩ := hr.at hk
          have : k ∈ Region.ready .any ops l := mem_ready.2 ⟨hdone k hk h, o, ho, fun e he hb => by
            have hd : e.on ∈ direct o := List.mem_map.2 ⟨e, List.mem_filter.2 ⟨by simpa using he, hb⟩, rfl⟩
            have hlt := hr.ord.dir k hk e.on (by rw [(hr.inf k o p ho hp).2.2.2.2.2.2]; exact hd)
            exact ih e.on hlt (by omega)⟩
          rw [hrd] at this; cases this
      have hz : l.toList.count false = 0 := List.count_eq_zero.2 fun hm => by
        obtain ⟨k, hk, he⟩ := List.getElem_of_mem hm
        have hks : k < l.size := by simpa using hk
        have := key k (by rw [← hv.size]; exact hks)
        simp [dn, hks] at this
        have he' : l[k] = false := by simpa using he
        rw [he'] at this; cases this
      omega
    · obtain ⟨h1, o, ho, h2⟩ := mem_ready.1 hj
      have hjl : j < ops.size := (Array.getElem?_eq_some_iff.1 ho).1
      have hjs : j < l.size := by rw [hv.size]; exact hjl
      refine hv.op hΓ hr ho (fun h => by simp [dn, hjs] at h h1; rw [h] at h1; cases h1) (fun k hk => ?_) fun ver' σ' C' a' w' hv' => Inv.any hΓ hr hQ n _ ver' σ' C' a' w' (count_set h1 hn) hv'
      obtain ⟨e, he, rfl⟩ := List.mem_map.1 hk
      obtain ⟨he1, he2⟩ := List.mem_filter.1 he
      exact h2 e (by simpa using he1) he2
theorem Inv.end (hr : Run P Γ ops pl S I) (hall : ∀ k, k < ops.size → dn l k) (hv : Inv X ops S I σ0 w0 l ver σ C a w) : StRep X σ (S ops.size) a w ∧ C = (S ops.size).H := by
  have hno : ∀ loc k, ver loc ≤ k → k < ops.size → ¬ wrs (I k) loc := fun loc k h1 h2 h3 => by have := hv.v1 loc k h2 (hall k h2) h3; omega
  have hle : ∀ loc, ver loc ≤ ops.size := fun loc => by rcases hv.v2 loc with h | ⟨k, h1, -, -, h2⟩ <;> omega
  have hC : C = (S ops.size).H := by
    apply List.ext_getElem?
    intro id
    rcases Nat.lt_or_ge id (S ops.size).H.length with h | h
    · rw [hv.ccon id h, ← hr.heap (hle _) (Nat.le_refl _) (hno _), List.getElem?_eq_getElem h]; rfl
    · rw [List.getElem?_eq_none h, List.getElem?_eq_none (by rw [hv.clen]; exact h)]
  subst hC
  exact ⟨⟨by rw [hv.tmps, hr.n _ (Nat.le_refl _)], hv.defers, fun t x _ hx => hv.slots t x (by rw [← hr.slot (hle _) (Nat.le_refl _) (hno _)]; exact hx), hv.heap⟩, rfl⟩
end
/-- A region that draws its order. -/
theorem AWP.drawn (hΓ : GamOk P Γ) (hm : P.follows .mixedOrders = true) (pl : List Pl) {id : Nat} {ops : Array Oper} {Q : Exit → St → Prop} (hc : drawnOk ops pl s.H.length = true) (he : underE s.H.length s.env = true) (hh : underH s.H.length s.H = true)
    (h : arun P Γ ops.toList ops.toList pl s (fun s' => Q .normal s')) : AWP P B (.region id ops true) Q s := fun X σ a w hs => by
  refine wp_region_any hm ?_
  obtain ⟨S, h0, hst, hq⟩ := arun_states h
  simp only [drawnOk, Bool.and_eq_true, decide_eq_true_eq] at hc
  obtain ⟨hlen, hpairs⟩ := hc
  have hll : ops.toList.length = pl.length := by simpa using hlen
  have hil : (infs ops s.H.length [] ops.toList pl).length = ops.size := by rw [infs_len ops hll]; simp
  obtain ⟨I, hI⟩ : ∃ I : Nat → Inf, ∀ i, i < ops.size → (infs ops s.H.length [] ops.toList pl)[i]? = some (I i) :=
    ⟨fun i => ((infs ops s.H.length [] ops.toList pl)[i]?).getD ⟨[], none, [], false, 0, 0, [], []⟩, fun i hi => by simp [hil, hi]⟩
  have hst' : ∀ i o p, ops[i]? = some o → pl[i]? = some p → astep P Γ ops.toList o p (S i) (S (i + 1)) := fun i o p ho hp => hst i o p (by simpa using ho) hp
  have hinf : ∀ i o p, ops[i]? = some o → pl[i]? = some p → (I i).rd = o.looksAt ops ∧ (I i).d = o.dst ∧ (I i).m = p.m ∧ (I i).q = p.q ∧ (I i).lo = (S i).H.length ∧ (I i).hi = (S (i + 1)).H.length ∧ (I i).dir = direct o := fun i o p ho hp => by
    obtain ⟨x, hx, hx'⟩ := infs_at ops (A := []) (lo := s.H.length) hst (by rw [h0]) i o p (by simpa using ho) hp
    rw [hI i (Array.getElem?_eq_some_iff.1 ho).1] at hx
    cases hx
    exact hx'
  have hat : ∀ i, i < ops.size → ∃ o p, ops[i]? = some o ∧ pl[i]? = some p := fun i hi => ⟨ops[i], pl[i]'(hlen ▸ hi), Array.getElem?_eq_getElem hi, List.getElem?_eq_getElem (hlen ▸ hi)⟩
  have hmono : ∀ {i j : Nat}, i ≤ j → j ≤ ops.size → (S i).H.length ≤ (S j).H.length := fun {i j} => by
    induction j with
    | zero => intro h _; rw [Nat.le_zero.1 h]; exact Nat.le_refl _
    | succ j ih =>
      intro h hj
      rcases Nat.lt_or_ge j i with h1 | h1
      · rw [show i = j + 1 by omega]; exact Nat.le_refl _
      · obtain ⟨o, p, ho, hp⟩ := hat j (by omega)
        have := (astep_len (hst' j o p ho hp)).2.1
        have := ih h1 (by omega)
        omega
  have hord : Ord ops.size I := by
    have := ord_of (l := infs ops s.H.length [] ops.toList pl) (I := I) (fun i hi => hI i (by omega)) (fun i k hi hk => by
      obtain ⟨o, p, ho, hp⟩ := hat i (by omega)
      obtain ⟨o', p', ho', hp'⟩ := hat k (by omega)
      rw [(hinf i o p ho hp).2.2.2.2.1, (hinf k o' p' ho' hp').2.2.2.2.2.1]
      exact hmono (by omega) (by omega)) hpairs
    rwa [hil] at this
  have hrun : Run P Γ ops pl S I := ⟨hst', by rw [h0]; exact ⟨fun t x hx => underE_at he t x hx, fun i r hr => underH_at hh i r hr⟩, hlen, hinf, hord⟩
  have hsz := hmono (Nat.zero_le _) (Nat.le_refl ops.size)
  obtain ⟨d1, d2⟩ := hs.heap.drew
  obtain ⟨d3, d4⟩ := d1.pad ((S ops.size).H.length - s.H.length)
  have hd0 : ∀ k, ¬ dn (Array.replicate ops.size false) k := fun k h => by
    simp only [dn, Array.getD_eq_getD_getElem?, Array.getElem?_replicate] at h
    split at h <;> cases h
  refine Inv.any (X := X) (σ0 := σ) (w0 := w.drew) hΓ hrun (fun l ver σ' C a' w' hall hv => ?_) ops.size _ (fun _ => 0) σ (s.H ++ List.replicate ((S ops.size).H.length - s.H.length) none) a w.drew (by simp [List.count_replicate]) ?_
  · obtain ⟨g1, rfl⟩ := hv.end hrun hall
    refine ⟨σ', S ops.size, by simpa using hq, g1, ?_⟩
    have hk : Keeps w.drew (ownB σ s.H) w' (ownB σ' (S ops.size).H) := by have := hv.keeps; rwa [h0] at this
    refine ⟨hv.os, hv.tape, hv.output, d2.keeps.trans hk, fun id hid x hx => ?_, fun hB => ⟨by rw [h0] at hsz; omega, fun id hid => ?_⟩⟩
    · rw [hv.same id (by rw [h0]; exact hs.heap.lt hx)]; exact hx
    · exact hv.same id (by rw [h0]; omega)
  · have hlen' : (s.H ++ List.replicate ((S ops.size).H.length - s.H.length) none).length = (S ops.size).H.length := by rw [h0] at hsz; simp; omega
    refine ⟨by simp, fun i hi hd => (hd0 i hd).elim, fun loc k hk hd => (hd0 k hd).elim, fun _ => .inl rfl, hlen', fun id hid => ?_, d3, fun t x hx => ?_, fun id y hy => ?_, by rw [h0]; exact hs.size, hs.defers, rfl, rfl, rfl, by rw [h0]; exact d4, fun _ _ => rfl⟩
    · show _ = some (((S 0).H[id]?).join)
      rw [h0]
      rcases Nat.lt_or_ge id s.H.length with h1 | h1
      · rw [List.getElem?_append_left h1, List.getElem?_eq_getElem h1]; rfl
      · rw [List.getElem?_append_right h1, List.getElem?_replicate, if_pos (by omega), List.getElem?_eq_none h1]; rfl
    · have hx' : look (S 0).env t = some x := hx
      rw [h0] at hx'
      obtain ⟨v, h1, h2⟩ := hs.env t x trivial hx'
      exact ⟨v, h1, (h2.step d2).mono (keepsX d4) (fun _ _ h => h)⟩
    · left; rw [h0]; exact hs.heap.lt hy
/-- A drawn region ahead. -/
theorem AWP.seqD {s' : St} (hΓ : GamOk P Γ) (hm : P.follows .mixedOrders = true) (K : List Nat) (pl : List Pl) {id : Nat} {ops : Array Oper} {d : Code} {Q : Exit → St → Prop} (hc : drawnOk ops pl s.H.length = true) (he : underE s.H.length s.env = true) (hh : underH s.H.length s.H = true)
    (h : arun P Γ ops.toList ops.toList pl s (fun s1 => s1 = s')) (hq : AWP P B d Q (trim K s')) : AWP P B (.seq (.region id ops true) d) Q s :=
  AWP.seq (AWP.drawn hΓ hm pl hc he hh (by
    have : (fun s1 => s1 = s') = (fun s1 : St => s1 = s') := rfl
    refine arun_mono (fun s1 (e : s1 = s') => ?_) h
    subst e
    exact AWP.ghost (Ghost.trim B K s1) hq))
where
  arun_mono {l : List Oper} {pl : List Pl} {s : St} {ops : List Oper} {Q Q' : St → Prop} (hQ : ∀ s, Q s → Q' s) (h : arun P Γ ops l pl s Q) : arun P Γ ops l pl s Q' := by
    induction l generalizing pl s with
    | nil => cases pl with
      | nil => exact hQ _ h
      | cons p pl => simp [arun] at h
    | cons o l ih => cases pl with
      | nil => simp [arun] at h
      | cons p pl =>
        simp only [arun] at h ⊢
        split at h
        · split at h
          · rename_i x H' hx
            rw [hx] at *
            obtain ⟨h1, h2, h3, h4, h5⟩ := h
            refine ⟨h1, h2, h3, h4, ?_⟩
            split at h5
            · exact ih h5
            · exact h5.elim
          · exact h.elim
        · split at h
          · exact ih h
          · exact h.elim
        · exact h.elim
end
end Go.Proofs.Ytcnoooodnmjdmaa
end
section
set_option linter.unusedSimpArgs false
set_option linter.unusedVariables false
/- AHI, part S: contracts at any heap: rows handed on under other numbers, rows lent to be read. -/
namespace Go.Proofs.Ytcnoooodnmjdmaa
open Go.RowKit

/-- A thing out of cells, deep: slices of the call's own are read through. -/
def vdec (H : Hp) : (t : Ty) → List CV → Option t.D
  | .i k, l => match l with | [c] => leaf (.i k) c | _ => none
  | .bo, l => match l with | [c] => leaf .bo c | _ => none
  | .st, l => match l with | [c] => leaf .st c | _ => none
  | .f k, l => match l with | [c] => leaf (.f k) c | _ => none
  | .sl e, l => match l with
    | [.sl id o len n] => if n = e.sz ∧ 0 < n then (match hrow H id with
      | some r => (match r.part o len n with
        | some (.ty t ys) => if h : t = e then some (h ▸ ys) else none
        | some (.raw cs) => decF (vdec H e) e.sz len cs
        | none => none)
      | none => none) else none
    | [c] => leaf (.sl e) c
    | _ => none
  | .pr a b, l => match vdec H a (l.take a.sz), vdec H b (l.drop a.sz) with | some x, some y => some (x, y) | _, _ => none
  | .ar n e, l => decF (vdec H e) e.sz n l
def view (H : Hp) (t : Ty) : AV → Option t.D
  | .c c => if t.sz = 1 ∧ t.isLeaf = true then vdec H t [c] else none
  | .agg r => if t.isLeaf = true then none else match Row.one t r with
    | some x => some x
    | none => match r with | .raw l => vdec H t l | .ty _ _ => none
  | .tup _ => none
/-- A thing as it is handed on to be read. -/
def ro : (t : Ty) → t.D → AV
  | .i k, n => .c (ci k n) | .bo, x => .c (cb x) | .st, x => .c (.v (.string x)) | .f k, x => .c (.v (.float k x)) | .sl e, xs => .c (.rs e xs) | .ar _ e, xs => .agg (.ty e xs) | .pr a b, x => .agg (.ty (.pr a b) [x])
section
variable {P : Program} {X : Nat → Prop} {σ σ' τ : Sg} {s s' : St} {H H' C C' L L' : Hp} {a : Act} {w w' : World} {B : Nat} {f : Nat → Nat} {o o' Z : Nat → Prop}
theorem RepD.less (ho : ∀ b, o' b → o b) {t : Ty} {x : t.D} {g : Cells} (h : RepD w o t x g) : RepD w o' t x g :=
  RepD.mono (w := w) (own := o) ⟨Nat.le_refl _, fun _ _ _ => rfl, fun b hb => .inl (ho b hb)⟩ (fun _ _ h => h) h
theorem Rep.less (ho : ∀ b, o' b → o b) {c : CV} {v : Value} (h : Rep w o σ c v) : Rep w o' σ c v :=
  Rep.mono (w := w) (own := o) ⟨Nat.le_refl _, fun _ _ _ => rfl, fun b hb => .inl (ho b hb)⟩ (fun _ _ h => h) h
theorem part_size {r p : Row} {o n e : Nat} (h : r.part o n e = some p) : p.size = n * e ∧ ∀ t ys, p = .ty t ys → t.sz = e := by
  cases r with
  | raw l =>
    simp only [Row.part] at h
    split at h
    · rename_i hle
      cases h
      refine ⟨?_, fun t ys h => by cases h⟩
      rw [Nat.add_mul] at hle
      simp only [Row.size, List.length_take, List.length_drop]
      omega
    · cases h
  | ty t xs =>
    simp only [Row.part] at h
    split at h
    · rename_i he
      split at h
      · rename_i h0
        cases h
        exact ⟨by simp only [Row.size]; rw [h0.2, he], fun t ys h => by cases h; exact he.symm⟩
      · split at h
        · cases h
          refine ⟨?_, fun t ys h => by cases h; exact he.symm⟩
          simp only [Row.size, List.length_take, List.length_drop]
          rw [he, Nat.min_eq_left (by omega)]
        · cases h
    · cases h
theorem vdec_len : ∀ {t : Ty} {l : List CV} {x : t.D}, vdec H t l = some x → l.length = t.sz
  | .i _, l, x, h => by simp only [vdec] at h; split at h <;> first | rfl | cases h
  | .bo, l, x, h => by simp only [vdec] at h; split at h <;> first | rfl | cases h
  | .st, l, x, h => by simp only [vdec] at h; split at h <;> first | rfl | cases h
  | .f _, l, x, h => by simp only [vdec] at h; split at h <;> first | rfl | cases h
  | .sl _, l, x, h => by
    simp only [vdec] at h
    split at h
    · rfl
    · rfl
    · cases h
  | .pr a b, l, x, h => by
    simp only [vdec] at h
    split at h
    · rename_i y z hy hz
      have h1 := vdec_len hy
      have h2 := vdec_len hz
      rw [List.length_take] at h1
      rw [List.length_drop] at h2
      simp only [Ty.sz]
      omega
    · cases h
  | .ar n e, l, x, h => (decF_len (f := vdec H e) (sz := e.sz) (fun l x h => vdec_len h) h).2
theorem decF_repD {t : Ty} {f : List CV → Option t.D} (hlen : ∀ l x, f l = some x → l.length = t.sz) (hf : ∀ {l : List CV} {x : t.D} {g : Cells}, LRep w o σ l g → f l = some x → RepD w o' t x g) :
    ∀ {n : Nat} {l : List CV} {xs : List t.D} {g : Cells}, LRep w o σ l g → decF f t.sz n l = some xs → ∀ (i : Nat) x, xs[i]? = some x → RepD w o' t x (fun j => g (i * t.sz + j))
  | 0, l, xs, g, hl, h, i, x, hx => by
    simp only [decF] at h
    split at h
    · cases h; simp at hx
    · cases h
  | n + 1, l, xs, g, hl, h, i, x, hx => by
    simp only [decF] at h
    split at h
    · rename_i y ys hy hys
      cases h
      cases i with
      | zero =>
        cases hx
        rw [Nat.zero_mul]
        simpa using hf (hl.take t.sz) hy
      | succ i =>
        have := decF_repD hlen hf (hl.drop t.sz) hys i x (by simpa using hx)
        have e : (fun j => g ((i + 1) * t.sz + j)) = fun j => g (t.sz + (i * t.sz + j)) := by funext j; congr 1; rw [Nat.add_mul]; omega
        rw [e]; exact this
    · cases h
/-- What is read through, as others see it. -/
theorem vdec_rep (hh : HeapRep X σ H w) (ho : ∀ b, o b → X b) : ∀ {t : Ty} {l : List CV} {x : t.D} {g : Cells}, LRep w (own X σ H) σ l g → vdec H t l = some x → RepD w o t x g
  | .i _, l, x, g, hl, h => by
    simp only [vdec] at h; split at h
    · obtain ⟨v, h1, h2⟩ := hl 0 _ rfl; exact RepD.less (fun b hb => .inr (ho b hb)) (leaf_rep h h2 h1)
    · cases h
  | .bo, l, x, g, hl, h => by
    simp only [vdec] at h; split at h
    · obtain ⟨v, h1, h2⟩ := hl 0 _ rfl; exact RepD.less (fun b hb => .inr (ho b hb)) (leaf_rep h h2 h1)
    · cases h
  | .st, l, x, g, hl, h => by
    simp only [vdec] at h; split at h
    · obtain ⟨v, h1, h2⟩ := hl 0 _ rfl; exact RepD.less (fun b hb => .inr (ho b hb)) (leaf_rep h h2 h1)
    · cases h
  | .f _, l, x, g, hl, h => by
    simp only [vdec] at h; split at h
    · obtain ⟨v, h1, h2⟩ := hl 0 _ rfl; exact RepD.less (fun b hb => .inr (ho b hb)) (leaf_rep h h2 h1)
    · cases h
  | .sl e, l, x, g, hl, h => by
    simp only [vdec] at h
    split at h
    · rename_i id k len n
      obtain ⟨v, h1, h2⟩ := hl 0 _ rfl
      split at h
      · rename_i hn
        obtain ⟨rfl, hn0⟩ := hn
        split at h
        · rename_i r hr
          have hrow := hrow_some hr
          -- the elements, wherever they lie
          have key : ∀ p, r.part k len e.sz = some p → (∀ {g : Cells}, RowRep w (own X σ H) σ p g → x.length = len ∧ ∀ (i : Nat) y, x[i]? = some y → RepD w o e y (fun j => g (i * e.sz + j))) → RepD w o (.sl e) x g := fun p hp hcell => by
            refine ⟨v, h1, ?_⟩
            rcases h2 with ⟨hl0, ad, rfl⟩ | ⟨b, base, ext, c, hs, rfl, hlc, hcm, hext⟩
            · left
              obtain ⟨hxl, -⟩ := hcell (g := fun _ => none) (by
                -- nothing is there
                have : p.size = 0 := by
                  rw [(part_size hp).1, hl0, Nat.zero_mul]
                cases p with
                | raw l' => intro i c hc; simp only [Row.size] at this; have := List.length_eq_zero_iff.1 this; subst this; simp at hc
                | ty t' ys =>
                  intro i y hy
                  simp only [Row.size] at this
                  rcases Nat.mul_eq_zero.1 this with h0 | h0
                  · rw [List.length_eq_zero_iff.1 h0] at hy; simp at hy
                  · exact absurd h0 (by
                      have := (part_size hp).2 _ _ rfl
                      omega))
              exact ⟨List.length_eq_zero_iff.1 (hxl.trans hl0), ad, 0, rfl⟩
            · right
              rcases hh.row id r hrow with h0 | ⟨b', base', ext', h5, h6, h7, h8, h9⟩
              · rw [h0] at hs; cases hs
              · rw [hs] at h5; cases h5
                obtain ⟨q1, q2, q3⟩ := part_rep h9 hp
                obtain ⟨hxl, hx⟩ := hcell q1
                refine ⟨b, base + k * e.sz, c, by rw [hxl], by omega, hcm, fun hb => hh.xdis b (ho b hb) ⟨id, r, _, hrow, hs⟩, h6, fun i y hy => RepD.cells (fun j v hv => ?_) (hx i y hy)⟩
                rw [← hv]; congr 2; omega
          split at h
          · rename_i t ys hp
            split at h
            · rename_i ht
              subst ht
              cases h
              refine key _ hp fun {g} hg => ⟨?_, fun i y hy => RepD.less (fun b hb => .inr (ho b hb)) (hg i y hy)⟩
              have := (part_size hp).1
              simp only [Row.size] at this
              exact Nat.eq_of_mul_eq_mul_right hn0 this
            · cases h
          · rename_i cs hp
            refine key _ hp fun {g} hg => ⟨(decF_len (f := vdec H e) (fun l x h => vdec_len h) h).1, fun i y hy => decF_repD (fun l x h => vdec_len h) (fun hl h => vdec_rep hh ho hl h) hg h i y hy⟩
          · cases h
        · cases h
      · cases h
    · obtain ⟨v, h1, h2⟩ := hl 0 _ rfl; exact RepD.less (fun b hb => .inr (ho b hb)) (leaf_rep h h2 h1)
    · cases h
  | .pr a b, l, x, g, hl, h => by
    simp only [vdec] at h
    split at h
    · rename_i y z hy hz
      cases h
      exact ⟨vdec_rep hh ho (hl.take a.sz) hy, vdec_rep hh ho (hl.drop a.sz) hz⟩
    · cases h
  | .ar n e, l, x, g, hl, h => ⟨(decF_len (f := vdec H e) (sz := e.sz) (fun l x h => vdec_len h) h).1, fun i y hy => decF_repD (fun l x h => vdec_len h) (fun hl h => vdec_rep hh ho hl h) hl h i y hy⟩
end
end Go.Proofs.Ytcnoooodnmjdmaa
end
section
set_option linter.unusedSimpArgs false
set_option linter.unusedVariables false
/- AHI, part T: contracts at any heap. -/
namespace Go.Proofs.Ytcnoooodnmjdmaa
open Go.RowKit

section
variable {P : Program} {X : Nat → Prop} {σ σ' τ : Sg} {s s' : St} {H H' C C' L L' : Hp} {a : Act} {w w' : World} {B : Nat} {f : Nat → Nat} {o o' Z : Nat → Prop}
theorem view_rep (hh : HeapRep X σ H w) (ho : ∀ b, o b → X b) {t : Ty} {x : AV} {d : t.D} {v : Value} (h : view H t x = some d) (hr : Rep1 w (own X σ H) σ x v) : Rep1 w o τ (ro t d) v := by
  have hag : ∀ {r : Row} {vs : List Value}, vs.length = t.sz → RepD w o t d (fun i => vs[i]?) → t.isLeaf = false → Rep1 w o τ (ro t d) (.agg vs.toArray) := fun {r vs} hl hd hf => by
    cases t with
    | pr a b => exact ⟨vs, rfl, by simp [Row.size, hl], fun i y hy => one_list hd i y hy⟩
    | ar n e => exact ⟨vs, rfl, by rw [hl]; simp only [Row.size, Ty.sz]; rw [hd.1], hd.2⟩
    | _ => cases hf
  cases x with
  | c c =>
    simp only [view] at h
    split at h
    · rename_i ht
      have := vdec_rep hh ho (g := fun _ => some v) (fun i c' hc => by
        cases i with
        | zero => cases hc; exact ⟨v, rfl, hr⟩
        | succ i => simp at hc) h
      cases t with
      | i k => have e : some v = some _ := this; cases e; exact ⟨rfl, rfl⟩
      | bo => have e : some v = some _ := this; cases e; exact ⟨rfl, rfl⟩
      | st => have e : some v = some _ := this; cases e; exact ⟨rfl, rfl⟩
      | f k => have e : some v = some _ := this; cases e; exact ⟨rfl, rfl⟩
      | sl e => obtain ⟨u, hu, h1⟩ := this; cases hu; exact h1
      | pr a b => cases ht.2
      | ar n e => cases ht.2
    · cases h
  | agg r =>
    simp only [view] at h
    split at h
    · cases h
    · rename_i hf
      have hf : t.isLeaf = false := by simpa using hf
      obtain ⟨vs, rfl, h2, h3⟩ := hr
      split at h
      · rename_i y hy
        cases h
        obtain ⟨h4, h5⟩ := rowOne_rep h3 hy
        exact hag (r := r) (h2.trans h5) (RepD.less (fun b hb => .inr (ho b hb)) h4) hf
      · split at h
        · rename_i l h0
          exact hag (r := .raw l) (h2.trans (vdec_len h)) (vdec_rep hh ho h3 h) hf
        · cases h
  | tup l => cases hr
/-- A contract at another heap: a part of it under other numbers; Z is lent. -/
theorem callFrame {g : FuncId} {al args : List AV} {r : AV} (h : CallOk P g al L r L') (f : Nat → Nat) (Z : Nat → Prop) (hinj : ∀ i j, f i = f j → i = j) (hrow : ∀ (i : Nat) q, L[i]? = some (some q) → C[f i]? = some (some (q.mapId f))) (hge : ∀ i, L.length ≤ i → C.length ≤ f i)
    (hZl : ∀ i, liveAt L i → ¬ Z (f i)) (hlen : args.length = al.length)
    (hargs : ∀ (i : Nat) y, al[i]? = some y → ∃ x, args[i]? = some x ∧ ∀ X σ w v, HeapRep X σ C w → Part σ C L f Z → Rep1 w (own X σ C) σ x v → Rep1 w (own (others X σ C L f Z) (fun i => σ (f i)) L) (fun i => σ (f i)) y v)
    (hout : PartOut C L f L' C') (hlt : C.length ≤ C'.length) (hZ : (∀ id, ¬ Z id) ∨ ((∀ (i : Nat) (q : Row), L'[i]? = some (some q) → q.flat = true) ∧ r.flat = true)) : CallOk P g args C (r.mapId f) C' := by
  refine ⟨h.1, fun X σ w vs hh hvl hv => ?_⟩
  have hp : Part σ C L f Z := ⟨hinj, fun i q hq => .inr (hrow i q hq), fun i hi => hh.dom _ (hge i hi), hZl⟩
  refine (h.2 (others X σ C L f Z) (fun i => σ (f i)) w vs (hp.heap hh) (by omega) (fun i y hy => ?_)).mono fun e w' ⟨v, he, σ', q1, q2, q3⟩ => ⟨v, he, ?_⟩
  · obtain ⟨x, hx, hxr⟩ := hargs i y hy
    obtain ⟨v, h1, h2⟩ := hv i x hx
    exact ⟨v, h1, hxr X σ w v hh hp h2⟩
  · obtain ⟨τ, t1, t2, t3, t4, t5, t6⟩ := hp.out hh hout q3 q2 (hZ.imp (fun h => h) (·.1))
    refine ⟨τ, t6 r v q1 (hZ.imp (fun h => h) (·.2)), t1, q3.os, q3.tape, q3.output, t3, t2, hlt, fun id hid => t5 id fun i hi => ?_⟩
    left
    apply Nat.lt_of_not_le
    intro hle
    have := hge i hle
    omega
theorem getElem?_append_map (C L' : Hp) (k : Option Row → Option Row) {id : Nat} {y : Option Row} (h : (C ++ L'.map k)[id]? = some y) : C[id]? = some y ∨ ∃ i x, id = C.length + i ∧ L'[i]? = some x ∧ y = k x := by
  rcases Nat.lt_or_ge id C.length with h1 | h1
  · rw [List.getElem?_append_left h1] at h; exact .inl h
  · rw [List.getElem?_append_right h1, List.getElem?_map] at h
    obtain ⟨x, hx, rfl⟩ := Option.map_eq_some_iff.1 h
    exact .inr ⟨id - C.length, x, by omega, hx, rfl⟩
/-- What is handed on is only read. -/
theorem lendOk {g : FuncId} {al args : List AV} {r : AV} (h : CallOk P g al [] r L') (hlen : args.length = al.length) (hargs : ∀ (i : Nat) y, al[i]? = some y → ∃ x t d, args[i]? = some x ∧ view C t x = some d ∧ y = ro t d)
    (hf : r.flat = true) (hL : ∀ q, some q ∈ L' → q.flat = true) : CallOk P g args C (r.mapId (C.length + ·)) (C ++ L'.map (Option.map (Row.mapId (C.length + ·)))) := by
  refine callFrame h (C.length + ·) (fun _ => True) (fun i j e => by omega) (fun i q hq => by simp at hq) (fun i _ => Nat.le_add_right _ _) (fun i ⟨q, hq⟩ => by simp at hq) hlen (fun i y hy => ?_) ⟨by simp, fun i hi => by simp; omega, fun id q hq => ?_⟩ (by simp) (.inr ⟨fun i q hq => hL q (List.mem_of_getElem? hq), hf⟩)
  · obtain ⟨x, t, d, h1, h2, rfl⟩ := hargs i y hy
    refine ⟨x, h1, fun X σ w v hh hp hr => view_rep hh (fun b hb => ?_) h2 hr⟩
    rcases hb with ⟨i, q, y, hq, -⟩ | hb | ⟨id, q, y, -, -, -, hz⟩
    · simp at hq
    · exact hb
    · exact (hz trivial).elim
  · rcases getElem?_append_map C L' _ hq with h1 | ⟨i, x, rfl, hx, hy⟩
    · right
      refine ⟨h1, fun i hi => ?_⟩
      have := (List.getElem?_eq_some_iff.1 h1).1
      omega
    · left
      obtain ⟨q', rfl, rfl⟩ := Option.map_eq_some_iff.1 hy.symm
      exact ⟨i, q', rfl, hx, rfl⟩
theorem lend1 {g : FuncId} (t : Ty) {d : t.D} {r x : AV} (h : CallOk P g [ro t d] [] r L') (hv : view C t x = some d) (hf : r.flat = true) (hL : ∀ q, some q ∈ L' → q.flat = true) : CallOk P g [x] C (r.mapId (C.length + ·)) (C ++ L'.map (Option.map (Row.mapId (C.length + ·)))) :=
  lendOk h rfl (fun i y hy => by
    match i, hy with
    | 0, hy => cases hy; exact ⟨x, t, d, rfl, hv, rfl⟩) hf hL
theorem lend2 {g : FuncId} (t t' : Ty) {d : t.D} {d' : t'.D} {r x x' : AV} (h : CallOk P g [ro t d, ro t' d'] [] r L') (hv : view C t x = some d) (hv' : view C t' x' = some d') (hf : r.flat = true) (hL : ∀ q, some q ∈ L' → q.flat = true) :
    CallOk P g [x, x'] C (r.mapId (C.length + ·)) (C ++ L'.map (Option.map (Row.mapId (C.length + ·)))) :=
  lendOk h rfl (fun i y hy => by
    match i, hy with
    | 0, hy => cases hy; exact ⟨x, t, d, rfl, hv, rfl⟩
    | 1, hy => cases hy; exact ⟨x', t', d', rfl, hv', rfl⟩) hf hL
theorem lend3 {g : FuncId} (t t' t'' : Ty) {d : t.D} {d' : t'.D} {d'' : t''.D} {r x x' x'' : AV} (h : CallOk P g [ro t d, ro t' d', ro t'' d''] [] r L') (hv : view C t x = some d) (hv' : view C t' x' = some d') (hv'' : view C t'' x'' = some d'') (hf : r.flat = true) (hL : ∀ q, some q ∈ L' → q.flat = true) :
    CallOk P g [x, x', x''] C (r.mapId (C.length + ·)) (C ++ L'.map (Option.map (Row.mapId (C.length + ·)))) :=
  lendOk h rfl (fun i y hy => by
    match i, hy with
    | 0, hy => cases hy; exact ⟨x, t, d, rfl, hv, rfl⟩
    | 1, hy => cases hy; exact ⟨x', t', d', rfl, hv', rfl⟩
    | 2, hy => cases hy; exact ⟨x'', t'', d'', rfl, hv'', rfl⟩) hf hL
/-! ### Rows of the call's own handed on -/
def ats (ρ : List Nat) (n i : Nat) : Nat := if h : i < ρ.length then ρ[i] else n + (i - ρ.length)
/-- The rows written back, new ones behind. -/
def patch (f : Nat → Nat) : List Nat → Hp → Hp → Hp
  | [], L', C => C ++ L'.map (Option.map (Row.mapId f))
  | id :: ρ, x :: L', C => patch f ρ L' (C.set id (x.map (Row.mapId f)))
  | _ :: _, [], C => C
def dead (ρ : List Nat) (C : Hp) : Hp := ρ.foldl (fun C id => C.set id none) C
theorem dead_len : ∀ (ρ : List Nat) (C : Hp), (dead ρ C).length = C.length
  | [], C => rfl
  | id :: ρ, C => by show (dead ρ (C.set id none)).length = _; rw [dead_len ρ]; simp
theorem dead_at : ∀ (ρ : List Nat) (C : Hp) (id : Nat) (r : Row), (dead ρ C)[id]? = some (some r) ↔ C[id]? = some (some r) ∧ id ∉ ρ
  | [], C, id, r => by simp [dead]
  | j :: ρ, C, id, r => by
    show (dead ρ (C.set j none))[id]? = _ ↔ _
    rw [dead_at ρ]
    by_cases h : j = id
    · subst h
      constructor
      · rintro ⟨h1, -⟩
        rcases set_cases h1 with ⟨-, h2, -⟩ | ⟨h2, -⟩
        · cases h2
        · exact (h2 rfl).elim
      · rintro ⟨-, h1⟩; simp at h1
    · rw [List.getElem?_set_ne h]
      have : id ≠ j := fun e => h e.symm
      simp [this]
theorem patch_spec (f : Nat → Nat) : ∀ {ρ : List Nat} {L' C : Hp}, ρ.length ≤ L'.length → nodupB ρ = true → (∀ id ∈ ρ, id < C.length) →
    C.length ≤ (patch f ρ L' C).length ∧ (patch f ρ L' C).length = C.length + (L'.length - ρ.length) ∧ ∀ (id : Nat) y, (patch f ρ L' C)[id]? = some y → (C[id]? = some y ∧ id ∉ ρ) ∨ (∃ (i : Nat) (x : Option Row), ρ[i]? = some id ∧ L'[i]? = some x ∧ y = x.map (Row.mapId f)) ∨ (∃ (i : Nat) (x : Option Row), ρ.length ≤ i ∧ id = C.length + (i - ρ.length) ∧ L'[i]? = some x ∧ y = x.map (Row.mapId f))
  | [], L', C, _, _, _ => by
    refine ⟨by simp [patch], by simp [patch], fun id y hy => ?_⟩
    rcases getElem?_append_map C L' _ hy with h1 | ⟨i, x, rfl, hx, hy⟩
    · exact .inl ⟨h1, by simp⟩
    · exact .inr (.inr ⟨i, x, Nat.zero_le _, rfl, hx, hy⟩)
  | id :: ρ, [], C, h, _, _ => by simp at h
  | j :: ρ, z :: L', C, h, hn, hl => by
    simp only [nodupB, Bool.and_eq_true, Bool.not_eq_true', List.contains_eq_mem, decide_eq_false_iff_not] at hn
    obtain ⟨h1, h2, h3⟩ := patch_spec f (ρ := ρ) (L' := L') (C := C.set j (z.map (Row.mapId f))) (by simpa using h) hn.2 (fun id hid => by simpa using hl id (List.mem_cons_of_mem _ hid))
    rw [List.length_set] at h1 h2
    refine ⟨h1, by show (patch f ρ L' _).length = _; rw [h2]; simp, fun id y hy => ?_⟩
    rcases h3 id y hy with ⟨h4, h5⟩ | ⟨i, x, h4, h5, h6⟩ | ⟨i, x, h4, h5, h6, h7⟩
    · rcases set_cases h4 with ⟨rfl, h6, -⟩ | ⟨h6, h7⟩
      · exact .inr (.inl ⟨0, z, rfl, rfl, h6⟩)
      · exact .inl ⟨h7, by simp [h6, h5]⟩
    · exact .inr (.inl ⟨i + 1, x, by simpa using h4, by simpa using h5, h6⟩)
    · rw [List.length_set] at h5
      exact .inr (.inr ⟨i + 1, x, by simpa using h4, by simp only [List.length_cons]; omega, by simpa using h6, h7⟩)
theorem Row.map_self (r : Row) : r.mapId (fun i => i) = r := by
  have hc : ∀ c : CV, c.mapId (fun i => i) = c := fun c => by cases c <;> simp [CV.mapId]
  cases r with
  | raw l => simp only [Row.mapId, Row.raw.injEq]; exact (List.map_congr_left fun c _ => hc c).trans (List.map_id _)
  | ty t xs => rfl
/-- An argument: under the other numbers, or lent to be read (no row that is handed on). -/
def ArgOk (C : Hp) (ρ : List Nat) (f : Nat → Nat) (x y : AV) : Prop := x = y.map1 f ∨ ∃ (t : Ty) (d : t.D), view (dead ρ C) t x = some d ∧ y = ro t d
theorem frameG {g : FuncId} {al args : List AV} {r : AV} (ρ : List Nat) (Z : Nat → Prop) (hZρ : ∀ id ∈ ρ, ¬ Z id) (h : CallOk P g al L r L') (hL : L.length = ρ.length) (hLL : L.length ≤ L'.length) (hnd : nodupB ρ = true) (hρ : ∀ id ∈ ρ, id < C.length)
    (hrow : ∀ (i : Nat) q, L[i]? = some (some q) → C[ats ρ C.length i]? = some (some (q.mapId (ats ρ C.length))))
    (hlen : args.length = al.length)
    (hargs : ∀ (i : Nat) y, al[i]? = some y → ∃ x, args[i]? = some x ∧ ∀ X σ w v, HeapRep X σ C w → Part σ C L (ats ρ C.length) Z → Rep1 w (own X σ C) σ x v → Rep1 w (own (others X σ C L (ats ρ C.length) Z) (fun i => σ (ats ρ C.length i)) L) (fun i => σ (ats ρ C.length i)) y v)
    (hZ : (∀ id, ¬ Z id) ∨ ((∀ (i : Nat) (q : Row), L'[i]? = some (some q) → q.flat = true) ∧ r.flat = true)) : CallOk P g args C (r.mapId (ats ρ C.length)) (patch (ats ρ C.length) ρ L' C) := by
  have hat : ∀ (i : Nat) id, ρ[i]? = some id → ats ρ C.length i = id := fun i id hi => by
    obtain ⟨h1, h2⟩ := List.getElem?_eq_some_iff.1 hi
    unfold ats; rw [dif_pos h1]; exact h2
  have hge : ∀ i, ρ.length ≤ i → ats ρ C.length i = C.length + (i - ρ.length) := fun i hi => by unfold ats; rw [dif_neg (by omega)]
  have hin : ∀ i, i < ρ.length → ats ρ C.length i ∈ ρ := fun i hi => by unfold ats; rw [dif_pos hi]; exact List.getElem_mem _
  have hinj : ∀ i j, ats ρ C.length i = ats ρ C.length j → i = j := fun i j e => by
    rcases Nat.lt_or_ge i ρ.length with h1 | h1 <;> rcases Nat.lt_or_ge j ρ.length with h2 | h2
    · have a1 : ρ[i]? = some ρ[i] := List.getElem?_eq_getElem h1
      have a2 : ρ[j]? = some ρ[j] := List.getElem?_eq_getElem h2
      rw [hat i _ a1, hat j _ a2] at e
      exact nodupB_spec hnd i j _ a1 (by rw [e]; exact a2)
    · have := hρ _ (hin i h1); rw [e, hge j h2] at this; omega
    · have := hρ _ (hin j h2); rw [← e, hge i h1] at this; omega
    · rw [hge i h1, hge j h2] at e; omega
  obtain ⟨s1, s2, s3⟩ := patch_spec (ats ρ C.length) (ρ := ρ) (L' := L') (C := C) (by omega) hnd hρ
  refine callFrame h (ats ρ C.length) Z hinj hrow (fun i hi => by rw [hge i (by omega)]; omega) (fun i ⟨q, hq⟩ => hZρ _ (hin i (by rw [← hL]; exact (List.getElem?_eq_some_iff.1 hq).1))) hlen hargs ⟨s1, fun i hi => ?_, fun id q hq => ?_⟩ s1 hZ
  · rw [s2]
    rcases Nat.lt_or_ge i ρ.length with h1 | h1
    · have := hρ _ (hin i h1); omega
    · rw [hge i h1]; omega
  · rcases s3 id _ hq with ⟨h1, h2⟩ | ⟨i, x, h1, h2, h3⟩ | ⟨i, x, h1, h2, h3, h4⟩
    · right
      refine ⟨h1, fun i hi => ?_⟩
      have hid := (List.getElem?_eq_some_iff.1 h1).1
      rcases Nat.lt_or_ge i ρ.length with h3 | h3
      · exact (h2 (hi ▸ hin i h3)).elim
      · rw [hge i h3] at hi; omega
    · obtain ⟨q', rfl, rfl⟩ := Option.map_eq_some_iff.1 h3.symm
      exact .inl ⟨i, q', hat i id h1, h2, rfl⟩
    · obtain ⟨q', rfl, rfl⟩ := Option.map_eq_some_iff.1 h4.symm
      exact .inl ⟨i, q', by rw [hge i h1, h2], h3, rfl⟩
/-- Rows handed on; all else may be lent; what comes is flat. -/
theorem frameOk {g : FuncId} {al args : List AV} {r : AV} (ρ : List Nat) (h : CallOk P g al L r L') (hL : L.length = ρ.length) (hLL : L.length ≤ L'.length) (hnd : nodupB ρ = true) (hρ : ∀ id ∈ ρ, id < C.length)
    (hrow : ∀ (i : Nat) q, L[i]? = some (some q) → C[ats ρ C.length i]? = some (some (q.mapId (ats ρ C.length))))
    (hlen : args.length = al.length) (hargs : ∀ (i : Nat) y, al[i]? = some y → ∃ x, args[i]? = some x ∧ ArgOk C ρ (ats ρ C.length) x y)
    (hf : r.flat = true) (hfl : ∀ q, some q ∈ L' → q.flat = true) : CallOk P g args C (r.mapId (ats ρ C.length)) (patch (ats ρ C.length) ρ L' C) :=
  frameG ρ (fun id => id ∉ ρ) (fun id h1 h2 => h2 h1) h hL hLL hnd hρ hrow hlen (fun i y hy => by
    obtain ⟨x, hx, hxy⟩ := hargs i y hy
    refine ⟨x, hx, fun X σ w v hh hp hr => ?_⟩
    rcases hxy with rfl | ⟨t, d, h1, rfl⟩
    · exact Rep1.unmap hp.le hr
    · -- what is lent: the rows handed on are others' to it
      have hpd : Part σ C (dead ρ C) (fun i => i) (fun _ => False) := ⟨fun _ _ e => e, fun i q hq => .inr (by rw [Row.map_self]; exact ((dead_at ρ C i q).1 hq).1), fun i hi => hh.dom i (by rw [dead_len] at hi; exact hi), fun _ _ h => h⟩
      refine view_rep (σ := σ) (hpd.heap hh) (fun b hb => ?_) h1 (Rep1.mono (w := w) (own := own X σ C) ⟨Nat.le_refl _, fun _ _ _ => rfl, fun b hb => .inl (hpd.le b hb)⟩ (fun _ _ h => h) hr)
      rcases ((hp.owns b).1 hb).2 with hb | ⟨id, q, y, g1, g2, g3⟩
      · exact .inl hb
      · refine .inr ⟨id, q, y, g1, g2, fun i hi ⟨q', hq'⟩ => ?_, fun h => h⟩
        subst hi
        exact ((dead_at ρ C i q').1 hq').2 (Classical.not_not.1 g3)) (.inr ⟨fun i q hq => hfl q (List.mem_of_getElem? hq), hf⟩)
/-- Rows handed on; nothing is lent. -/
theorem frameOk0 {g : FuncId} {al args : List AV} {r : AV} (ρ : List Nat) (h : CallOk P g al L r L') (hL : L.length = ρ.length) (hLL : L.length ≤ L'.length) (hnd : nodupB ρ = true) (hρ : ∀ id ∈ ρ, id < C.length)
    (hrow : ∀ (i : Nat) q, L[i]? = some (some q) → C[ats ρ C.length i]? = some (some (q.mapId (ats ρ C.length))))
    (hlen : args.length = al.length) (hargs : ∀ (i : Nat) y, al[i]? = some y → args[i]? = some (y.map1 (ats ρ C.length))) : CallOk P g args C (r.mapId (ats ρ C.length)) (patch (ats ρ C.length) ρ L' C) :=
  frameG ρ (fun _ => False) (fun _ _ h => h) h hL hLL hnd hρ hrow hlen (fun i y hy => ⟨_, hargs i y hy, fun X σ w v hh hp hr => Rep1.unmap hp.le hr⟩) (.inl fun _ h => h)
end
end Go.Proofs.Ytcnoooodnmjdmaa
end
section
set_option linter.unusedSimpArgs false
set_option linter.unusedVariables false
/- AHI, part U: what simp walks with. Written by gensimp.py. -/
namespace Go.Proofs.Ytcnoooodnmjdmaa
open Go.RowKit
/-- One operation. -/
def one (P : Program) (Γ : Gam) (ops : List Oper) (o : Oper) (s : St) : Option St :=
  match aguard ops s o with
  | some true => (match aop P Γ s o.op with | some (x, H') => put s o.dst x H' | none => none)
  | some false => put s o.dst (.tup []) s.H
  | none => none
attribute [go_sem] aclear abytes aself aeqU aub aeqRow0 aeqL ceq cellOf aappendF frzOf frzRow fzC fzI kills one look_lay aguard aop put look ev ev1 evs oev sm acall abuiltin thenQ blockQ testB trim vAV natI_int cA_int cA_bool cA_string cA_slice cA_pointer cA_nilFunc cA_float vb_add vb_sub vb_mul vb_and vb_or vb_xor vb_andNot vb_quo vb_rem vb_eql vb_neq vb_lss vb_leq vb_gtr vb_geq vb_shl_i8 vb_shr_i8 vb_shl_i16 vb_shr_i16 vb_shl_i32 vb_shr_i32 vb_shl_i64 vb_shr_i64 vb_shl_u8 vb_shr_u8 vb_shl_u16 vb_shr_u16 vb_shl_u32 vb_shr_u32 vb_shl_u64 vb_shr_u64 vu_neg vu_not vb_seql vb_sneq abin aun aconv aload astore hrow elems aappend acopy alen alenT alenS aindexAddr afieldAddr afield aindex apart aslice aslice3 bound amake abuild abuildSlice allParts evParts fillL AV.one AV.ones AV.cells AV.allSz isRowT slOrStr strOk noStr Row.at Row.sub Row.put Row.puts Row.at0 Row.sub0 Row.put0 Row.puts0 Row.eN ite_self Row.part Row.app Row.over Row.size Row.as_ty Row.one enc leaf setD oneRow subD Ty.sz Option.map_some Option.map_none Option.bind_some Option.getD_some Option.isSome_some if_true if_false ite_true ite_false List.getElem?_cons_zero List.getElem?_cons_succ List.set_cons_zero List.set_cons_succ List.length_cons List.length_nil List.nil_append List.cons_append List.append_assoc List.filter_cons List.filter_nil List.contains_cons List.contains_nil List.toList_toArray beq_self_eq_true beq_tt beq_tf beq_ft beq_ff Bool.true_or Bool.or_true Bool.or_false Bool.false_or Bool.true_and Bool.and_true Bool.and_false Bool.false_and decide_eq_true_eq decide_eq_false_iff_not Nat.zero_add Nat.add_zero Nat.mul_one Nat.one_mul true_and and_true false_and and_false and_self or_false false_or true_or or_true Bool.not_true Bool.not_false eq_self forall_const true_implies false_implies implies_true Bool.true_eq_false Bool.false_eq_true not_true_eq_false not_false_eq_true azeros acap abuild0 aresult tupled params gc gcH gcEnv AV.ren AV.ren1 CV.ren Row.ren renL renA idx idx.go underE underH AV.under AV.under1 CV.under Row.under maskH mergeH Pl.w view vdec ro AV.mapId AV.map1 CV.mapId Row.mapId Row.as decs decF decD single? Row.cells encL List.take_succ_cons List.take_zero List.take_nil List.drop_succ_cons List.drop_zero List.all_cons List.all_nil List.map_cons List.map_nil List.append_nil isNilP isNilS isNilF ptrNil slNil fnNil aeq aeqRow idsOf intsV natI AV.row dite_true dite_false List.foldl_cons List.foldl_nil List.flatMap_cons List.flatMap_nil LIM LIB
section
variable {P : Program} {Γ : Gam} {ops l : List Oper} {o : Oper} {s s1 s' : St} {x : AV} {H' : Hp}
theorem aops_one (h1 : one P Γ ops o s = some s1) (h : aops P Γ ops l s1 = some s') : aops P Γ ops (o :: l) s = some s' := by
  unfold one at h1
  simp only [aops]
  split at h1
  · rename_i hg
    try rw [hg]
    split at h1
    · rename_i x H' hx; simp only [hx, h1]; exact h
    · cases h1
  · rename_i hg; try rw [hg]
    simp only [h1]; exact h
  · cases h1
theorem aops_step (hg : aguard ops s o = some true) (hx : aop P Γ s o.op = some (x, H')) (hp : put s o.dst x H' = some s1) (h : aops P Γ ops l s1 = some s') : aops P Γ ops (o :: l) s = some s' := by
  simp only [aops, hg, hx, hp, h]
theorem aops_pass (hg : aguard ops s o = some false) (hp : put s o.dst (.tup []) s.H = some s1) (h : aops P Γ ops l s1 = some s') : aops P Γ ops (o :: l) s = some s' := by
  simp only [aops, hg, hp, h]
theorem arun_step {p : Pl} {pl : List Pl} {Q : St → Prop} (hg : aguard ops s o = some true) (hx : aop P Γ ⟨s.n, s.env, maskH p.m 0 s.H⟩ o.op = some (x, H')) (hq : p.q = true → H'.take s.H.length = maskH p.m 0 s.H) (hn : H'.length = s.H.length + p.n)
    (hu : x.under H'.length = true) (hU : underH H'.length H' = true) (hp : put s o.dst x (mergeH p.w 0 s.H H') = some s1) (h : arun P Γ ops l pl s1 Q) : arun P Γ ops (o :: l) (p :: pl) s Q := by
  simp only [arun, hg, hx, hp]
  exact ⟨hq, hn, hu, hU, h⟩
theorem arun_pass {p : Pl} {pl : List Pl} {Q : St → Prop} (hg : aguard ops s o = some false) (_ : p.n = p.n) (hp : put s o.dst (.tup []) (s.H ++ List.replicate p.n none) = some s1) (h : arun P Γ ops l pl s1 Q) : arun P Γ ops (o :: l) (p :: pl) s Q := by
  simp only [arun, hg, hp]
  exact h
end
section
variable {P : Program} {Γ : Gam} {B : Nat} {s s' s2 : St} {Q : Exit → St → Prop}
theorem AWP.sR (hΓ : GamOk P Γ) (K : List Nat) {id : Nat} {ops : Array Oper} {d : Code} (h : aops P Γ ops.toList ops.toList s = some s') (ht : trim K s' = s2) (hq : AWP P B d Q s2) : AWP P B (.seq (.region id ops false) d) Q s := AWP.seqR hΓ K h (ht ▸ hq)
theorem AWP.rT (hΓ : GamOk P Γ) (K : List Nat) {id : Nat} {ops : Array Oper} (h : aops P Γ ops.toList ops.toList s = some s') (ht : trim K s' = s2) (hq : Q .normal s2) : AWP P B (.region id ops false) Q s := AWP.regionT hΓ K h (ht ▸ hq)
theorem AWP.sD (hΓ : GamOk P Γ) (hm : P.follows .mixedOrders = true) (K : List Nat) (pl : List Pl) {id : Nat} {ops : Array Oper} {d : Code} (hc : drawnOk ops pl s.H.length = true) (he : underE s.H.length s.env = true) (hh : underH s.H.length s.H = true)
    (h : arun P Γ ops.toList ops.toList pl s (fun s1 => s1 = s')) (ht : trim K s' = s2) (hq : AWP P B d Q s2) : AWP P B (.seq (.region id ops true) d) Q s := AWP.seqD hΓ hm K pl hc he hh h (ht ▸ hq)
theorem AWP.dT (hΓ : GamOk P Γ) (hm : P.follows .mixedOrders = true) (K : List Nat) (pl : List Pl) {id : Nat} {ops : Array Oper} (hc : drawnOk ops pl s.H.length = true) (he : underE s.H.length s.env = true) (hh : underH s.H.length s.H = true)
    (h : arun P Γ ops.toList ops.toList pl s (fun s1 => s1 = s')) (ht : trim K s' = s2) (hq : Q .normal s2) : AWP P B (.region id ops true) Q s := fun X σ a w hs =>
  Code.wp_mono (fun e a' w' ⟨σ', s1, h1, h2, h3⟩ => by
    cases e with
    | normal => have e1 : s1 = s' := h1; subst e1; exact ⟨σ', trim K s1, ht ▸ hq, h2.trim K, h3⟩
    | _ => exact h1.elim) (AWP.drawn (B := B) (Q := fun e s1 => match e with | .normal => s1 = s' | _ => False) hΓ hm pl hc he hh h X σ a w hs)
end
end Go.Proofs.Ytcnoooodnmjdmaa
end
