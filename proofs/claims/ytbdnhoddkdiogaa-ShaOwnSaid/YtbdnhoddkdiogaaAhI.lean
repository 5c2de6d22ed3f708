/- AHI, part I: an operation, a call, are what the model does. -/
import Derived.Test.YtbdnhoddkdiogaaAhH
import Derived.Lib.AppendZeros
set_option linter.unusedSimpArgs false
set_option linter.unusedVariables false
namespace Go.Proofs.Ytbdnhoddkdiogaa
open Go.RowKit

/-- What is called: a function, arguments, a heap: a result, a heap. -/
abbrev Gam := FuncId → List AV → Hp → Option (AV × Hp)
def callable (P : Program) (g : FuncId) : Bool := match P.funcs[g]? with | some fn => fn.name != "runtime.NumGoroutine" && fn.body.isSome | none => false
def CallOk (P : Program) (g : FuncId) (args : List AV) (H : Hp) (r : AV) (H' : Hp) : Prop :=
  callable P g = true ∧ ∀ (X : Nat → Prop) (σ : Sg) (w : World) (vs : List Value), HeapRep X σ H w → vs.length = args.length → (∀ (i : Nat) x, args[i]? = some x → ∃ v, vs[i]? = some v ∧ Rep1 w (own X σ H) σ x v) →
    Calls P g vs.toArray w (fun e w' => ∃ v, e = .returned v ∧ Post X σ H w r H' v w')
def GamOk (P : Program) (Γ : Gam) : Prop := ∀ g args H r H', Γ g args H = some (r, H') → CallOk P g args H r H'
def evs (s : St) : List Operand → Option (List AV)
  | [] => some []
  | x :: l => match ev1 s x, evs s l with | some a, some r => some (a :: r) | _, _ => none
def idsOf (s : St) : List Operand → Option (List Nat)
  | [] => some []
  | x :: l => match ev s x, idsOf s l with | some (.c (.ptr id 0 _ 0)), some r => some (id :: r) | _, _ => none
def strOk (P : Program) (tx : TypeId) : AV → Bool
  | .c (.v (.string _)) => (match P.underlying tx with | some .string => true | _ => false) | _ => true
def noStr : AV → Bool
  | .c (.v (.string _)) => false | _ => true
def intsV : List AV → Option (List Int)
  | [] => some []
  | .c (.v (.int _ n)) :: l => (intsV l).map (n :: ·)
  | _ => none
/-- Zeros behind nothing; they are not told (what stands is '[:0]' of it). -/
def azeros (P : Program) (H : Hp) (t tn : TypeId) (n : Int) : Option (AV × Hp) :=
  match P.underlying t, P.underlying tn with
  | some (.slice el), some (.int _) => match tq P el, ty P el with
    | some (m, by_, z), some k => if 0 < m ∧ by_ ≤ 32768 ∧ z = some m ∧ 0 < n ∧ n ≤ LIM then some (.c (.sl H.length 0 n.toNat m), H ++ [some (.ty k [])]) else none
    | _, _ => none
  | _, _ => none
def acap (P : Program) (t : TypeId) (x : AV) : Option Nat :=
  match P.underlying t, x with
  | some (.slice _), .c (.v (.slice none 0 0)) => some 0
  | some (.slice _), .c .e0 => some 0
  | _, _ => none
def abuiltin (P : Program) (H : Hp) : Builtin → List AV → List TypeId → Option (AV × Hp)
  | .len, [x], [t] => match alenT P t x with | some n => some (.c (.v (.int .i64 ((n : Nat) : Int))), H) | none => none
  | .cap, [x], [t] => match acap P t x with | some n => some (.c (.v (.int .i64 ((n : Nat) : Int))), H) | none => none
  | .append, [.c (.v (.slice none 0 0)), .c (.v (.int .i64 n))], [t, tx] => azeros P H t tx n
  | .append, [x, y], [t, tx] => if slOrStr P tx = true ∧ strOk P tx y = true then aappend P H t x y else none
  | .copy, [x, y], [t, _] => if noStr y = true then acopy P H t x y else none
  | .max, .c (.v (.int k x)) :: l, _ => (intsV l).map fun ys => (.c (.v (.int k (ys.foldl (fun a y => if y > a then y else a) x))), H)
  | .min, .c (.v (.int k x)) :: l, _ => (intsV l).map fun ys => (.c (.v (.int k (ys.foldl (fun a y => if y < a then y else a) x))), H)
  | _, _, _ => none
def acall (P : Program) (Γ : Gam) (s : St) (c : Call) : Option (AV × Hp) :=
  match c.callee with
  | .builtin b => match evs s c.args.toList with | some xs => abuiltin P s.H b xs c.argTypes.toList | none => none
  | .value f => match ev s f, evs s c.args.toList with
    | some (.c (.v (.func (.func g) first caps))), some xs => if first.size = 0 ∧ caps.size = 0 then Γ g xs s.H else none
    | some (.c (.fn g ids)), some xs => Γ g (xs ++ ids.map fun id => .c (.ptr id 0 1 0)) s.H
    | _, _ => none
  | _ => none
def sm (H : Hp) (x : Option AV) : Option (AV × Hp) := x.map fun a => (a, H)
def oev (s : St) : Option Operand → Option (Option AV)
  | none => some none
  | some x => (ev s x).map some
def aop (P : Program) (Γ : Gam) (s : St) : Op → Option (AV × Hp)
  | .move x => sm s.H (ev s x)
  | .assign x => sm s.H (ev s x)
  | .pick c x y => match ev s c with | some (.c (.v (.bool b))) => if b = true then sm s.H (ev s x) else sm s.H (ev s y) | _ => none
  | .alloc t => (zrow P t).map fun r => (.c (.ptr s.H.length 0 1 0), s.H ++ [some r])
  | .box _ x => match ev s x with | some y => y.row.map fun r => (.c (.ptr s.H.length 0 1 0), s.H ++ [some r]) | none => none
  | .build t parts => sm s.H (abuild P s t parts.toList)
  | .buildSlice t n parts => abuildSlice P s t n parts.toList
  | .load t x => match ev s x with | some y => sm s.H (aload P s.H t y) | none => none
  | .store t x y => match ev s x, ev s y with | some p, some q => (astore P s.H t p q).map fun H' => (.tup [], H') | _, _ => none
  | .nilCheck x => match ev s x with
    | some (.c (.ptr id i e j)) => some (.c (.ptr id i e j), s.H)
    | some (.c (.rp t xs i j)) => some (.c (.rp t xs i j), s.H)
    | some (.c (.fn g ids)) => some (.c (.fn g ids), s.H)
    | some (.c (.v (.func (.func g) x y))) => some (.c (.v (.func (.func g) x y)), s.H)
    | _ => none
  | .binOp op t x y _ => match ev s x, ev s y with | some p, some q => sm s.H (abin P op t p q) | _, _ => none
  | .unOp op _ x => match ev s x with | some p => sm s.H (aun op p) | none => none
  | .convert src dst x => match ev s x with | some p => sm s.H (aconv P src dst p) | none => none
  | .makeFunc (.func f) first captured => if first.size = 0 then (if captured.size = 0 then some (.c (.v (.func (.func f) #[] #[])), s.H) else (idsOf s captured.toList).map fun ids => (.c (.fn f ids), s.H)) else none
  | .makeSlice t l c => match ev s l, ev s c with | some p, some q => amake P s.H t p q | _, _ => none
  | .slice t x lo hi none => match ev s x, oev s lo, oev s hi with | some p, some l, some h => sm s.H (aslice P s.H t p l h) | _, _, _ => none
  | .slice t x lo hi (some m) => match ev s x, oev s lo, oev s hi, ev s m with | some p, some l, some h, some k => sm s.H (aslice3 P t p l h (some k)) | _, _, _, _ => none
  | .fieldAddr t x f => match ev s x with | some p => sm s.H (afieldAddr P t p f) | none => none
  | .field t x f => match ev s x with | some p => sm s.H (afield P t p f) | none => none
  | .indexAddr t x i => match ev s x, ev s i with | some p, some q => sm s.H (aindexAddr P t p q) | _, _ => none
  | .index t x i => match ev s x, ev s i with | some p, some q => sm s.H (aindex P t p q) | _, _ => none
  | .extract x i => match ev s x with | some (.tup l) => sm s.H l[i]? | _ => none
  | .call c => acall P Γ s c
  | _ => none
section
variable {P : Program} {X : Nat → Prop} {σ : Sg} {s : St} {H : Hp} {a : Act} {w : World} {T : Nat → Prop}
theorem evs_rep (he : EnvRep X σ s a w T) : ∀ {l : List Operand} {xs : List AV}, (∀ t, Operand.tmp t ∈ l → T t) → evs s l = some xs → xs.length = l.length ∧ ∀ (i : Nat) x, xs[i]? = some x → ∃ v, (l.map a.eval)[i]? = some v ∧ Rep1 w (own X σ s.H) σ x v
  | [], xs, hT, h => by cases h; exact ⟨rfl, fun i x hx => by simp at hx⟩
  | x :: l, xs, hT, h => by
    simp only [evs] at h
    split at h
    · rename_i y ys hy hys
      cases h
      obtain ⟨h1, h2⟩ := evs_rep he (fun t ht => hT t (List.mem_cons_of_mem _ ht)) hys
      refine ⟨by simp [h1], fun i z hz => ?_⟩
      cases i with
      | zero => cases hz; exact ⟨_, rfl, ev1_rep he (fun t ht => hT t (ht ▸ List.mem_cons_self ..)) hy⟩
      | succ i => exact h2 i z (by simpa using hz)
    · cases h
theorem idsOf_rep (he : EnvRep X σ s a w T) : ∀ {l : List Operand} {ids : List Nat}, (∀ t, Operand.tmp t ∈ l → T t) → idsOf s l = some ids → ids.length = l.length ∧ ∀ (k : Nat) id, ids[k]? = some id → ∃ b base ext, σ id = some (b, base, ext) ∧ (l.map a.eval)[k]? = some (.pointer (some ⟨b, base, none⟩))
  | [], xs, hT, h => by cases h; exact ⟨rfl, fun i x hx => by simp at hx⟩
  | x :: l, xs, hT, h => by
    simp only [idsOf] at h
    split at h
    · rename_i id e ys hy hys
      cases h
      obtain ⟨h1, h2⟩ := idsOf_rep he (fun t ht => hT t (List.mem_cons_of_mem _ ht)) hys
      refine ⟨by simp [h1], fun k i hk => ?_⟩
      cases k with
      | zero =>
        cases hk
        obtain ⟨b, base, ext, h3, h4⟩ := ev_rep he (fun t ht => hT t (ht ▸ List.mem_cons_self ..)) hy
        exact ⟨b, base, ext, h3, by simpa using h4⟩
      | succ k => exact h2 k i (by simpa using hk)
    · cases h
theorem oev_rep (he : EnvRep X σ s a w T) {x : Option Operand} {y : Option AV} (hT : ∀ t, x = some (.tmp t) → T t) (h : oev s x = some y) : ORep w (own X σ s.H) σ y (x.map a.eval) := by
  cases x with
  | none => cases h; exact trivial
  | some x =>
    simp only [oev] at h
    obtain ⟨z, hz, rfl⟩ := Option.map_eq_some_iff.1 h
    exact ev_rep he (fun t ht => hT t (by rw [ht])) hz
theorem val_ok {o : Oper} {next : Act → World → Prop} {Q : Exit → Act → World → Prop} {v : Value} {w' : World} (h : (execOp a.eval o).run P w = .ok (.value v) w') (hn : next (a.put o.dst v) w') : o.wp P a w next Q := by
  unfold Oper.wp; rw [h]; exact hn
theorem skip_ok {o : Oper} {next : Act → World → Prop} {Q : Exit → Act → World → Prop} {w' : World} (h : (execOp a.eval o).run P w = .ok .skip w') (hn : next (a.put o.dst undef) w') : o.wp P a w next Q := by
  unfold Oper.wp; rw [h]; exact hn
theorem run_v {m : Sem Value} {v : Value} {w' : World} (h : m.run P w = .ok v w') : (do pure (Next.value (← m)) : Sem Next).run P w = .ok (.value v) w' := by
  simp [Sem.run_bind, h]
theorem run_u {m : Sem Unit} {w' : World} (h : m.run P w = .ok () w') : (do m; pure Next.skip : Sem Next).run P w = .ok .skip w' := by
  simp [Sem.run_bind, h]
theorem intsV_rep {own : Nat → Prop} : ∀ {l : List AV} {vs : List Value} {ys : List Int}, vs.length = l.length → (∀ (i : Nat) x, l[i]? = some x → ∃ v, vs[i]? = some v ∧ Rep1 w own σ x v) → intsV l = some ys → ∃ ks : List IntKind, vs = (ks.zip ys).map (fun p => Value.int p.1 p.2) ∧ ks.length = ys.length
  | [], vs, ys, hl, h, hi => by cases hi; exact ⟨[], by simpa using hl, rfl⟩
  | x :: l, [], ys, hl, h, hi => by simp at hl
  | x :: l, v :: vs, ys, hl, h, hi => by
    unfold intsV at hi
    split at hi
    · rename_i heq; cases heq
    · rename_i k n l' heq
      cases heq
      obtain ⟨zs, hz, rfl⟩ := Option.map_eq_some_iff.1 hi
      obtain ⟨ks, h1, h2⟩ := intsV_rep (vs := vs) (by simpa using hl) (fun i y hy => h (i + 1) y (by simpa using hy)) hz
      obtain ⟨u, hu, hr⟩ := h 0 _ rfl
      cases hu
      obtain ⟨rfl, -⟩ := hr
      exact ⟨k :: ks, by simp [h1], by simp [h2]⟩
    · cases hi
theorem run_max : ∀ (ks : List IntKind) (ys : List Int) (k : IntKind) (x : Int) (w : World), (((ks.zip ys).map fun p => Value.int p.1 p.2).foldlM Builtin.max2 (.int k x)).run P w = .ok (.int k (((ks.zip ys).map (·.2)).foldl (fun a y => if y > a then y else a) x)) w
  | [], ys, k, x, w => by simp
  | _ :: _, [], k, x, w => by simp
  | k' :: ks, y :: ys, k, x, w => by
    simp only [List.zip_cons_cons, List.map_cons, List.foldlM_cons, List.foldl_cons, Sem.run_bind, Builtin.max2, Sem.run_pure, Result.andThen_ok]
    exact run_max ks ys k _ w
theorem run_min : ∀ (ks : List IntKind) (ys : List Int) (k : IntKind) (x : Int) (w : World), (((ks.zip ys).map fun p => Value.int p.1 p.2).foldlM Builtin.min2 (.int k x)).run P w = .ok (.int k (((ks.zip ys).map (·.2)).foldl (fun a y => if y < a then y else a) x)) w
  | [], ys, k, x, w => by simp
  | _ :: _, [], k, x, w => by simp
  | k' :: ks, y :: ys, k, x, w => by
    simp only [List.zip_cons_cons, List.map_cons, List.foldlM_cons, List.foldl_cons, Sem.run_bind, Builtin.min2, Sem.run_pure, Result.andThen_ok]
    exact run_min ks ys k _ w
theorem zip_snd {ks : List IntKind} {ys : List Int} (h : ks.length = ys.length) : (ks.zip ys).map (·.2) = ys := List.map_snd_zip (by omega)
theorem s_zeros (hh : HeapRep X σ H w) {t tn ty : TypeId} {n : Int} {r : AV} {H' : Hp} (h : azeros P H t tn n = some (r, H')) : ∃ v' w', (Builtin.append_ #[t, tn] ty #[.slice none 0 0, .int .i64 n]).run P w = .ok v' w' ∧ Post X σ H w r H' v' w' := by
  unfold azeros at h
  split at h
  · rename_i el kn hu hun
    split at h
    · rename_i m by_ z k hq hk
      obtain ⟨i, hi, rfl, rfl, hzz⟩ := tq_some hq
      split at h
      · rename_i hc
        obtain ⟨c1, c2, rfl, c4, c5⟩ := hc
        cases h
        obtain ⟨zv, hzv, hzs⟩ := Option.map_eq_some_iff.1 hzz
        obtain ⟨m, rfl⟩ := Int.eq_ofNat_of_zero_le (show 0 ≤ n by omega)
        have hm : m ≤ 4294967296 := by simp only [LIM] at c5; omega
        refine ⟨_, _, Lib.run_append_nil_zeros w t tn ty el i zv .i64 kn hu hun hi hzv m (by omega) c1 (by omega) (by
          calc m * i.bytes ≤ 4294967296 * 32768 := Nat.mul_le_mul hm c2
            _ ≤ 281474976710656 := by decide), ?_⟩
        have hC := grownCap_ge w m 0 el
        have hC2 := grownCap_le_maxLen w m 0 el (by simp only [maxLen]; omega)
        obtain ⟨d1, d2⟩ := hh.drew
        obtain ⟨h3, h4⟩ := d1.alloc (Builtin.zeroCells zv.cells m ++ Builtin.zeroCells zv.cells (grownCap w m 0 el - m)) el (.ty k []) (by simp [Row.size]) (fun i x hx => by simp at hx)
        have hsz : (Builtin.zeroCells zv.cells m ++ Builtin.zeroCells zv.cells (grownCap w m 0 el - m)).size = grownCap w m 0 el * i.size := by
          simp only [Array.size_append, size_zeroCells, hzs, ← Nat.add_mul]
          congr 1; omega
        refine ⟨_, .inr ⟨w.heap.size, 0, grownCap w m 0 el * i.size, grownCap w m 0 el, ?_, by simp, by simpa using hC, hC2, by simp⟩, h3, d2.trans h4⟩
        rw [hsz]; exact upd_same _ _ _
      · cases h
    · cases h
  · cases h
theorem s_cap {own : Nat → Prop} {t ty : TypeId} {x : AV} {u : Value} {n : Nat} (h : acap P t x = some n) (hx : RepA w own σ x u) : (Builtin.cap_ #[t] ty #[u]).run P w = .ok (.int .i64 (n : Int)) w := by
  unfold acap at h
  split at h
  · rename_i el hu
    cases h
    obtain ⟨rfl, -⟩ := hx
    simp [Builtin.cap_, run_underlying hu, goInt]
  · rename_i el hu
    cases h
    obtain ⟨a, rfl⟩ := hx
    simp [Builtin.cap_, run_underlying hu, goInt]
  · cases h
theorem s_builtin (hh : HeapRep X σ H w) {b : Builtin} {xs : List AV} {vs : List Value} {ts : Array TypeId} {ty : TypeId} {cs : Array Bool} {r : AV} {H' : Hp} (h : abuiltin P H b xs ts.toList = some (r, H')) (hl : vs.length = xs.length)
    (hv : ∀ (i : Nat) x, xs[i]? = some x → ∃ v, vs[i]? = some v ∧ Rep1 w (own X σ H) σ x v) : ∃ v w', (builtin b ts ty cs vs.toArray).run P w = .ok (.value v) w' ∧ Post X σ H w r H' v w' := by
  unfold abuiltin at h
  split at h
  · rename_i x t hts
    obtain rfl : ts = #[t] := by apply Array.ext'; simpa using hts
    match vs, hl with
    | [u], _ =>
    obtain ⟨v, e, hr⟩ := hv 0 x rfl
    cases e
    split at h
    · rename_i n hn
      cases h
      exact ⟨_, _, run_v (s_len hn hr.toA), Post.same hh ⟨rfl, rfl⟩⟩
    · cases h
  · rename_i x t hts
    obtain rfl : ts = #[t] := by apply Array.ext'; simpa using hts
    match vs, hl with
    | [u], _ =>
    obtain ⟨v, e, hr⟩ := hv 0 x rfl
    cases e
    split at h
    · rename_i n hn
      cases h
      exact ⟨_, _, run_v (s_cap hn hr.toA), Post.same hh ⟨rfl, rfl⟩⟩
    · cases h
  · rename_i n t tx hts
    obtain rfl : ts = #[t, tx] := by apply Array.ext'; simpa using hts
    match vs, hl with
    | [u, v], _ =>
    obtain ⟨u', e, hr⟩ := hv 0 _ rfl
    cases e
    obtain ⟨rfl, -⟩ := hr
    obtain ⟨v', e, hr'⟩ := hv 1 _ rfl
    cases e
    obtain ⟨rfl, -⟩ := hr'
    obtain ⟨v', w', h1, h2⟩ := s_zeros (ty := ty) hh h
    exact ⟨v', w', run_v h1, h2⟩
  · rename_i x y t tx hne hts
    obtain rfl : ts = #[t, tx] := by apply Array.ext'; simpa using hts
    match vs, hl with
    | [u, v], _ =>
    obtain ⟨u', e, hr⟩ := hv 0 x rfl
    cases e
    obtain ⟨v', e, hr'⟩ := hv 1 y rfl
    cases e
    split at h
    · rename_i hc
      obtain ⟨v', w', h1, h2⟩ := s_append (ty := ty) hh h hc.1 (fun q hq => by
        have := hc.2; subst hq; unfold strOk at this; simp only at this; split at this
        · assumption
        · cases this) hr.toA hr'.toA
      exact ⟨v', w', run_v h1, h2⟩
    · cases h
  · rename_i x y t tx hts
    obtain rfl : ts = #[t, tx] := by apply Array.ext'; simpa using hts
    match vs, hl with
    | [u, v], _ =>
    obtain ⟨u', e, hr⟩ := hv 0 x rfl
    cases e
    obtain ⟨v', e, hr'⟩ := hv 1 y rfl
    cases e
    split at h
    · rename_i hc
      obtain ⟨v', w', h1, h2⟩ := s_copy (ty := ty) (tx := tx) hh h (fun q hq => by subst hq; cases hc) hr.toA hr'.toA
      exact ⟨v', w', run_v h1, h2⟩
    · cases h
  · rename_i k x l
    cases vs with
    | nil => simp at hl
    | cons u vs =>
      obtain ⟨u', e, hr⟩ := hv 0 _ rfl
      cases e
      obtain ⟨rfl, -⟩ := hr
      obtain ⟨ys, hys, heq⟩ := Option.map_eq_some_iff.1 h
      cases heq
      obtain ⟨ks, rfl, hk⟩ := intsV_rep (vs := vs) (by simpa using hl) (fun i y hy => hv (i + 1) y (by simpa using hy)) hys
      refine ⟨_, _, run_v (m := Builtin.max_ ts ty _) ?_, Post.same hh ⟨rfl, rfl⟩⟩
      rw [← zip_snd hk]
      have := run_max (P := P) ks ys k x w
      simpa [Builtin.max_, zip_snd hk] using this
  · rename_i k x l
    cases vs with
    | nil => simp at hl
    | cons u vs =>
      obtain ⟨u', e, hr⟩ := hv 0 _ rfl
      cases e
      obtain ⟨rfl, -⟩ := hr
      obtain ⟨ys, hys, heq⟩ := Option.map_eq_some_iff.1 h
      cases heq
      obtain ⟨ks, rfl, hk⟩ := intsV_rep (vs := vs) (by simpa using hl) (fun i y hy => hv (i + 1) y (by simpa using hy)) hys
      refine ⟨_, _, run_v (m := Builtin.min_ ts ty _) ?_, Post.same hh ⟨rfl, rfl⟩⟩
      rw [← zip_snd hk]
      have := run_min (P := P) ks ys k x w
      simpa [Builtin.min_, zip_snd hk] using this
  · cases h
theorem call_sound {Γ : Gam} (hΓ : GamOk P Γ) (hh : HeapRep X σ H w) {g : FuncId} {xs : List AV} {vs : List Value} {r : AV} {H' : Hp} (h : Γ g xs H = some (r, H')) (hl : vs.length = xs.length) (hv : ∀ (i : Nat) x, xs[i]? = some x → ∃ v, vs[i]? = some v ∧ Rep1 w (own X σ H) σ x v)
    {o : Oper} {next : Act → World → Prop} {Q : Exit → Act → World → Prop} (ho : execOp a.eval o = callFunc g vs.toArray) (hn : ∀ v w', Post X σ H w r H' v w' → next (a.put o.dst v) w') : o.wp P a w next Q := by
  obtain ⟨hc, hcalls⟩ := hΓ g xs H r H' h
  have hrun : (callFunc g vs.toArray).run P w = .ok (.enter g vs.toArray) w := by
    unfold callable at hc
    split at hc
    · rename_i fn hf
      simp only [Bool.and_eq_true, bne_iff_ne, ne_eq] at hc
      obtain ⟨c, hb⟩ := Option.isSome_iff_exists.1 hc.2
      simp [callFunc, Sem.run_bind, program, Sem.run, hf, hc.1, hb]
    · cases hc
  unfold Oper.wp
  rw [ho, hrun]
  refine (hcalls X σ w vs hh hl hv).mono fun e w' ⟨v, he, hp⟩ => ?_
  subst he
  exact hn v w' hp
theorem exec_call {ρ : Operand → Value} {dst : Option Tmp} {f : Operand} {args : Array Operand} {ats : Array TypeId} {type : TypeId} {pos : String} {after : Array Edge} {guard : Option (Nat × Bool)} {g : FuncId} {caps : Array Value} (hf : ρ f = .func (.func g) #[] caps) :
    execOp ρ ⟨dst, .call ⟨.value f, args, ats⟩, type, pos, after, guard⟩ = callFunc g ((#[] ++ args.map ρ) ++ caps) := by
  unfold execOp resolve
  simp only [hf]
  rfl
theorem exec_build {ρ : Operand → Value} {dst : Option Tmp} {t : TypeId} {parts : Array (Nat × Operand)} {type : TypeId} {pos : String} {after : Array Edge} {guard : Option (Nat × Bool)} :
    execOp ρ ⟨dst, .build t parts, type, pos, after, guard⟩ = (do pure (Next.value (← Instr.build t (parts.map fun (i, x) => (i, ρ x)))) : Sem Next) := rfl
theorem exec_buildSlice {ρ : Operand → Value} {dst : Option Tmp} {t : TypeId} {n : Nat} {parts : Array (Nat × Operand)} {type : TypeId} {pos : String} {after : Array Edge} {guard : Option (Nat × Bool)} :
    execOp ρ ⟨dst, .buildSlice t n parts, type, pos, after, guard⟩ = (do pure (Next.value (← Instr.buildSlice t n (parts.map fun (i, x) => (i, ρ x)))) : Sem Next) := rfl
theorem sm_some {H : Hp} {x : Option AV} {r : AV} {H' : Hp} (h : sm H x = some (r, H')) : x = some r ∧ H' = H := by
  unfold sm at h
  obtain ⟨y, hy, heq⟩ := Option.map_eq_some_iff.1 h
  cases heq
  exact ⟨hy, rfl⟩
set_option maxHeartbeats 4000000 in
theorem op_sound {Γ : Gam} (hΓ : GamOk P Γ) {o : Oper} {x : AV} {H' : Hp} (h : aop P Γ s o.op = some (x, H')) (he : EnvRep X σ s a w (fun t => .tmp t ∈ o.op.operands)) (hh : HeapRep X σ s.H w)
    {next : Act → World → Prop} {Q : Exit → Act → World → Prop} (hn : ∀ v w', Post X σ s.H w x H' v w' → next (a.put o.dst v) w') : o.wp P a w next Q := by
  obtain ⟨dst, op, type, pos, after, guard⟩ := o
  -- a value that leaves the world
  have pureV : ∀ {m : Sem Value}, execOp a.eval ⟨dst, op, type, pos, after, guard⟩ = (do pure (Next.value (← m)) : Sem Next) → H' = s.H → (∃ v, m.run P w = .ok v w ∧ RepA w (own X σ s.H) σ x v) → Oper.wp P ⟨dst, op, type, pos, after, guard⟩ a w next Q := fun {m} hm hH ⟨v, hr, hx⟩ => by
    subst hH
    exact val_ok (by rw [hm]; exact run_v hr) (hn v w (Post.same hh hx))
  have memV : ∀ {m : Sem Value}, execOp a.eval ⟨dst, op, type, pos, after, guard⟩ = (do pure (Next.value (← m)) : Sem Next) → (∃ v w', m.run P w = .ok v w' ∧ Post X σ s.H w x H' v w') → Oper.wp P ⟨dst, op, type, pos, after, guard⟩ a w next Q := fun {m} hm ⟨v, w', hr, hx⟩ =>
    val_ok (by rw [hm]; exact run_v hr) (hn v w' hx)
  have nowV : ∀ {v : Value}, execOp a.eval ⟨dst, op, type, pos, after, guard⟩ = (pure (Next.value v) : Sem Next) → H' = s.H → RepA w (own X σ s.H) σ x v → Oper.wp P ⟨dst, op, type, pos, after, guard⟩ a w next Q := fun {v} hm hH hx => by
    subst hH
    exact val_ok (by rw [hm]; rfl) (hn v w (Post.same hh hx))
  cases op <;> simp only [aop] at h
  case move y => obtain ⟨h1, h2⟩ := sm_some h; exact nowV rfl h2 (ev_rep he (fun t ht => by simp [Op.operands, ht]) h1)
  case assign y => obtain ⟨h1, h2⟩ := sm_some h; exact nowV rfl h2 (ev_rep he (fun t ht => by simp [Op.operands, ht]) h1)
  case pick c y z =>
    split at h
    · rename_i b hb
      have hc := ev_rep he (x := c) (fun t ht => by simp [Op.operands, ht]) hb
      obtain ⟨hc, -⟩ := hc
      have hex : (execOp a.eval ⟨dst, .pick c y z, type, pos, after, guard⟩).run P w = .ok (.value (if b = true then a.eval y else a.eval z)) w := by
        simp [execOp, asBool, Sem.run_bind, hc]
      split at h
      · rename_i hbt
        obtain ⟨h1, rfl⟩ := sm_some h
        refine val_ok hex (hn _ w (Post.same hh ?_))
        rw [if_pos hbt]
        exact ev_rep he (fun t ht => by simp [Op.operands, ht]) h1
      · rename_i hbt
        obtain ⟨h1, rfl⟩ := sm_some h
        refine val_ok hex (hn _ w (Post.same hh ?_))
        rw [if_neg hbt]
        exact ev_rep he (fun t ht => by simp [Op.operands, ht]) h1
    · cases h
  case alloc t =>
    obtain ⟨r, hr, heq⟩ := Option.map_eq_some_iff.1 h
    cases heq
    exact memV (m := Instr.alloc t true (.tuple #[])) rfl (s_alloc hh hr)
  case box t y =>
    split at h
    · rename_i z hz
      obtain ⟨r, hr, heq⟩ := Option.map_eq_some_iff.1 h
      cases heq
      exact memV (m := Instr.box t (a.eval y)) rfl (s_box hh hr (ev_rep he (fun t ht => by simp [Op.operands, ht]) hz))
    · cases h
  case build t parts =>
    obtain ⟨h1, h2⟩ := sm_some h
    have hb := s_build (a := a) he (fun i t ht => by simp only [Op.operands, List.mem_toArray, List.mem_map]; exact ⟨_, ht, rfl⟩) h1
    exact pureV exec_build h2 hb
  case buildSlice t n parts =>
    have hb := s_buildSlice (a := a) he hh (fun i t ht => by simp only [Op.operands, List.mem_toArray, List.mem_map]; exact ⟨_, ht, rfl⟩) h
    exact memV exec_buildSlice hb
  case load t y =>
    split at h
    · rename_i z hz
      obtain ⟨h1, h2⟩ := sm_some h
      exact pureV (m := Instr.loadAt t (a.eval y)) rfl h2 (s_load hh h1 (ev_rep he (fun t ht => by simp [Op.operands, ht]) hz))
    · cases h
  case store t y z =>
    split at h
    · rename_i p q hp hq
      obtain ⟨H2, h1, heq⟩ := Option.map_eq_some_iff.1 h
      cases heq
      obtain ⟨w', h2, h3, h4⟩ := s_store hh h1 (ev_rep he (x := y) (fun t ht => by simp [Op.operands, ht]) hp) (ev_rep he (x := z) (fun t ht => by simp [Op.operands, ht]) hq)
      exact skip_ok (run_u (m := Instr.storeAt t (a.eval y) (a.eval z)) h2) (hn _ w' ⟨σ, ⟨[], rfl, rfl, fun i a ha => by simp at ha⟩, h3, h4⟩)
    · cases h
  case nilCheck y =>
    split at h
    · rename_i id i e j hz
      cases h
      have hr := ev_rep he (x := y) (fun t ht => by simp [Op.operands, ht]) hz
      obtain ⟨b, base, ext, hs, hv⟩ := hr
      exact val_ok (v := a.eval y) (by simp [execOp, hv]) (hn _ w (Post.same hh ⟨b, base, ext, hs, hv⟩))
    · rename_i t xs i j hz
      cases h
      have hr := ev_rep he (x := y) (fun t ht => by simp [Op.operands, ht]) hz
      obtain ⟨b, off, hv, hrest⟩ := hr
      exact val_ok (v := a.eval y) (by simp [execOp, hv]) (hn _ w (Post.same hh ⟨b, off, hv, hrest⟩))
    · rename_i g ids hz
      cases h
      have hr := ev_rep he (x := y) (fun t ht => by simp [Op.operands, ht]) hz
      obtain ⟨ps, hv, hrest⟩ := hr
      exact val_ok (v := a.eval y) (by simp [execOp, hv]) (hn _ w (Post.same hh ⟨ps, hv, hrest⟩))
    · rename_i g p q hz
      cases h
      have hr := ev_rep he (x := y) (fun t ht => by simp [Op.operands, ht]) hz
      obtain ⟨hv, h1⟩ := hr
      exact val_ok (v := a.eval y) (by simp [execOp, hv]) (hn _ w (Post.same hh ⟨hv, h1⟩))
    · cases h
  case binOp op t y z t2 =>
    split at h
    · rename_i p q hp hq
      obtain ⟨h1, h2⟩ := sm_some h
      exact pureV (m := do eqGuard op t y z (a.eval y) (a.eval z); binOp op t (a.eval y) (a.eval z)) rfl h2 (s_bin h1 (ev_rep he (x := y) (fun t ht => by simp [Op.operands, ht]) hp) (ev_rep he (x := z) (fun t ht => by simp [Op.operands, ht]) hq))
    · cases h
  case unOp op t y =>
    split at h
    · rename_i p hp
      obtain ⟨h1, h2⟩ := sm_some h
      exact pureV (m := Op.unary op (a.eval y)) rfl h2 (s_un h1 (ev_rep he (x := y) (fun t ht => by simp [Op.operands, ht]) hp))
    · cases h
  case convert t1 t2 y =>
    split at h
    · rename_i p hp
      obtain ⟨h1, h2⟩ := sm_some h
      exact pureV (m := convert t1 t2 (a.eval y)) rfl h2 (s_conv h1 (ev_rep he (x := y) (fun t ht => by simp [Op.operands, ht]) hp))
    · cases h
  case makeFunc fn first captured =>
    cases fn <;> simp only [reduceCtorEq] at h
    rename_i f
    split at h
    · rename_i h0
      have hf : first = #[] := Array.eq_empty_of_size_eq_zero h0
      subst hf
      split at h
      · rename_i hc0
        cases h
        have hc : captured = #[] := Array.eq_empty_of_size_eq_zero hc0
        subst hc
        exact pureV (m := Instr.makeFunc (.func f) (#[].map a.eval) (#[].map a.eval)) rfl rfl ⟨.func (.func f) #[] #[], by simp [Instr.makeFunc], rfl, rfl⟩
      · obtain ⟨ids, hi, heq⟩ := Option.map_eq_some_iff.1 h
        cases heq
        obtain ⟨h1, h2⟩ := idsOf_rep he (fun t ht => by simp [Op.operands]; simpa using ht) hi
        exact pureV (m := Instr.makeFunc (.func f) (#[].map a.eval) (captured.map a.eval)) rfl rfl ⟨.func (.func f) #[] (captured.map a.eval), by simp [Instr.makeFunc], captured.toList.map a.eval, by rw [← Array.toList_map], by rw [List.length_map]; exact h1.symm, h2⟩
    · cases h
  case makeSlice t y z =>
    split at h
    · rename_i p q hp hq
      exact memV (m := Instr.makeSlice t (a.eval y) (a.eval z)) rfl (s_make hh h (ev_rep he (x := y) (fun t ht => by simp [Op.operands, ht]) hp) (ev_rep he (x := z) (fun t ht => by simp [Op.operands, ht]) hq))
    · cases h
  case slice t y lo hi mx =>
    cases mx with
    | none =>
      simp only at h
      split at h
      · rename_i p l u hp hl hu
        obtain ⟨h1, h2⟩ := sm_some h
        exact pureV (m := Instr.sliceAt t (a.eval y) (lo.map a.eval) (hi.map a.eval) none) rfl h2 (s_slice hh h1 (ev_rep he (x := y) (fun t ht => by simp [Op.operands, ht]) hp) (oev_rep he (fun t ht => by simp [Op.operands, ht]) hl) (oev_rep he (fun t ht => by simp [Op.operands, ht]) hu))
      · cases h
    | some m =>
      simp only at h
      split at h
      · rename_i p l u k hp hl hu hk
        obtain ⟨h1, h2⟩ := sm_some h
        exact pureV (m := Instr.sliceAt t (a.eval y) (lo.map a.eval) (hi.map a.eval) (some (a.eval m))) rfl h2 (s_slice3 hh h1 (ev_rep he (x := y) (fun t ht => by simp [Op.operands, ht]) hp) (oev_rep he (fun t ht => by simp [Op.operands, ht]) hl) (oev_rep he (fun t ht => by simp [Op.operands, ht]) hu) (ev_rep he (x := m) (fun t ht => by simp [Op.operands, ht]) hk))
      · cases h
  case fieldAddr t y f =>
    split at h
    · rename_i p hp
      obtain ⟨h1, h2⟩ := sm_some h
      exact pureV (m := Instr.fieldAt t (a.eval y) f) rfl h2 (s_fieldAddr h1 (ev_rep he (x := y) (fun t ht => by simp [Op.operands, ht]) hp))
    · cases h
  case field t y f =>
    split at h
    · rename_i p hp
      obtain ⟨h1, h2⟩ := sm_some h
      exact pureV (m := Instr.field t (a.eval y) f) rfl h2 (s_field h1 (ev_rep he (x := y) (fun t ht => by simp [Op.operands, ht]) hp))
    · cases h
  case indexAddr t y z =>
    split at h
    · rename_i p q hp hq
      obtain ⟨h1, h2⟩ := sm_some h
      exact pureV (m := Instr.indexAt t (a.eval y) (a.eval z)) rfl h2 (s_indexAddr h1 (ev_rep he (x := y) (fun t ht => by simp [Op.operands, ht]) hp) (ev_rep he (x := z) (fun t ht => by simp [Op.operands, ht]) hq))
    · cases h
  case index t y z =>
    split at h
    · rename_i p q hp hq
      obtain ⟨h1, h2⟩ := sm_some h
      exact pureV (m := Instr.index t (a.eval y) (a.eval z)) rfl h2 (s_index h1 (ev_rep he (x := y) (fun t ht => by simp [Op.operands, ht]) hp) (ev_rep he (x := z) (fun t ht => by simp [Op.operands, ht]) hq))
    · cases h
  case extract y i =>
    split at h
    · rename_i l hl
      obtain ⟨h1, h2⟩ := sm_some h
      obtain ⟨vs, hv, hl', hr⟩ := ev_rep he (x := y) (fun t ht => by simp [Op.operands, ht]) hl
      obtain ⟨v, hvi, hrv⟩ := hr i x h1
      refine pureV (m := Instr.extract (a.eval y) i) rfl h2 ⟨v, ?_, hrv.toA⟩
      rw [hv]
      simp [Instr.extract, hvi]
    · cases h
  case call c =>
    obtain ⟨callee, args, ats⟩ := c
    unfold acall at h
    cases callee with
    | builtin b =>
      simp only at h
      split at h
      · rename_i xs hxs
        obtain ⟨e1, e2⟩ := evs_rep he (fun t ht => by simp only [Op.operands, Call.operands]; simpa using ht) hxs
        obtain ⟨v, w', h1, h2⟩ := s_builtin (ty := type) (cs := args.map fun | .const _ => true | _ => false) hh h (by rw [List.length_map]; exact e1.symm) e2
        refine val_ok (v := v) (w' := w') ?_ (hn v w' h2)
        have : execOp a.eval ⟨dst, .call ⟨.builtin b, args, ats⟩, type, pos, after, guard⟩ = builtin b ats type (args.map fun | .const _ => true | _ => false) (args.map a.eval) := rfl
        rw [this, ← h1]
        congr 2
        apply Array.ext'
        simp
      · cases h
    | invoke r m => cases h
    | value f =>
      simp only at h
      split at h
      · rename_i g first caps xs hf hxs
        split at h
        · rename_i h0
          obtain ⟨hfv, -⟩ := ev_rep he (x := f) (fun t ht => by simp [Op.operands, Call.operands, ht]) hf
          obtain ⟨e1, e2⟩ := evs_rep he (fun t ht => by simp only [Op.operands, Call.operands]; simp; right; simpa using ht) hxs
          have hf0 : first = #[] := Array.eq_empty_of_size_eq_zero h0.1
          have hc0 : caps = #[] := Array.eq_empty_of_size_eq_zero h0.2
          subst hf0 hc0
          refine call_sound hΓ hh h (by rw [List.length_map]; exact e1.symm) e2 ?_ hn
          rw [exec_call hfv]
          congr 1
          apply Array.ext'
          simp
        · cases h
      · rename_i g ids xs hf hxs
        obtain ⟨ps, hfv, hpl, hps⟩ := ev_rep he (x := f) (fun t ht => by simp [Op.operands, Call.operands, ht]) hf
        obtain ⟨e1, e2⟩ := evs_rep he (fun t ht => by simp only [Op.operands, Call.operands]; simp; right; simpa using ht) hxs
        refine call_sound hΓ hh h (vs := args.toList.map a.eval ++ ps) (by simp [e1, hpl]) (fun i y hy => ?_) ?_ hn
        · by_cases hi : i < xs.length
          · rw [List.getElem?_append_left hi] at hy
            obtain ⟨v, hv, hr⟩ := e2 i y hy
            exact ⟨v, by rw [List.getElem?_append_left (by rw [List.length_map, ← e1]; exact hi)]; exact hv, hr⟩
          · rw [List.getElem?_append_right (by omega), List.getElem?_map] at hy
            obtain ⟨id, hid, rfl⟩ := Option.map_eq_some_iff.1 hy
            obtain ⟨b, base, ext, h1, h2⟩ := hps _ id hid
            exact ⟨_, by rw [List.getElem?_append_right (by rw [List.length_map, ← e1]; omega), List.length_map, ← e1]; exact h2, b, base, ext, h1, by simp⟩
        · rw [exec_call hfv]
          congr 1
          apply Array.ext'
          simp
      · cases h
  all_goals cases h
end
end Go.Proofs.Ytbdnhoddkdiogaa
