/- AHI, part H: operators, conversions, length, copy are what the model does. -/
import Derived.Test.YtbdnhoddkdiogaaAhG
import Derived.Laws.Small
import Derived.Laws.Entries
import Derived.WalkSpells
set_option linter.unusedSimpArgs false
set_option linter.unusedVariables false
namespace Go.Proofs.Ytbdnhoddkdiogaa
open Go.RowKit
section
variable {P : Program} {X : Nat → Prop} {σ : Sg} {s : St} {H : Hp} {a : Act} {w : World}
theorem val?_run {α : Type} {m : Sem α} {x : α} (h : val? m = some x) : m.run P w = .ok x w := by
  cases m <;> first | cases h | skip
  rfl
theorem oneV_some {x : Option Value} {z : Value} (h : oneV x = some z) : x = some z ∧ z.oneCell' = true := by
  unfold oneV at h
  split at h
  · split at h
    · cases h; exact ⟨rfl, ‹_›⟩
    · cases h
  · cases h
theorem bin_ints (op : BinOp) (t : TypeId) (k k' : IntKind) (a b : Int) : binOp op t (.int k a) (.int k' b) = binOp op 0 (.int k a) (.int k' b) := by cases op <;> rfl
theorem bin_floats (op : BinOp) (t : TypeId) (k k' : FloatKind) (a b : Nat) : binOp op t (.float k a) (.float k' b) = binOp op 0 (.float k a) (.float k' b) := by cases op <;> rfl
theorem bin_strings (op : BinOp) (t : TypeId) (a b : ByteArray) : binOp op t (.string a) (.string b) = binOp op 0 (.string a) (.string b) := by cases op <;> rfl
theorem vbin_run {op : BinOp} {t : TypeId} {xo yo : Operand} {u v z : Value} (h : vbin op u v = some z) : (do eqGuard op t xo yo u v; binOp op t u v : Sem Value).run P w = .ok z w ∧ z.oneCell' = true := by
  have guard : ∀ {u v : Value}, (match u, v with | .int _ _, .int _ _ => true | .float _ _, .float _ _ => true | .string _, .string _ => true | _, _ => false) = true → (eqGuard op t xo yo u v).run P w = .ok () w := fun {u v} hg => by
    cases u <;> cases v <;> first | cases hg | skip
    all_goals cases op <;> rfl
  unfold vbin at h
  split at h
  · obtain ⟨h1, h2⟩ := oneV_some h
    rw [← bin_ints op t] at h1
    refine ⟨?_, h2⟩
    rw [Sem.run_bind, guard rfl]
    exact val?_run h1
  · obtain ⟨h1, h2⟩ := oneV_some h
    rw [← bin_floats op t] at h1
    refine ⟨?_, h2⟩
    rw [Sem.run_bind, guard rfl]
    exact val?_run h1
  · obtain ⟨h1, h2⟩ := oneV_some h
    rw [← bin_strings op t] at h1
    refine ⟨?_, h2⟩
    rw [Sem.run_bind, guard rfl]
    exact val?_run h1
  · cases h
theorem all_range_eqK : ∀ (xs ys : List Int), xs.length = ys.length → ((List.range xs.length).all fun i => xs.getD i 0 == ys.getD i 0) = (xs == ys)
  | [], [], _ => rfl
  | x :: xs, y :: ys, h => by
    have ih := all_range_eqK xs ys (by simpa using h)
    rw [List.length_cons, List.range_succ_eq_map, List.all_cons, List.all_map]
    simp only [List.getD_cons_zero, Function.comp_def, List.getD_cons_succ, ih]
    simp [List.cons_beq_cons]
  | [], _ :: _, h => by simp at h
  | _ :: _, [], h => by simp at h
theorem run_equalIn_intsK (d : Nat) (t e : TypeId) (n : Nat) (k : IntKind) (ht : P.underlying t = some (.array n e)) (he : P.underlying e = some (.int k)) (hsz : ∀ w, (sizeOf e).run P w = .ok 1 w)
    (xs ys : List Int) (hx : xs.length = n) (hy : ys.length = n) (w : World) :
    (Op.equalIn (d + 2) t (.agg (xs.map (Value.int k)).toArray) (.agg (ys.map (Value.int k)).toArray)).run P w = .ok (xs == ys) w := by
  rw [← all_range_eqK xs ys (hx.trans hy.symm), hx, List.range_eq_range', Op.equalIn]
  simp only [Sem.run_bind, run_underlying ht, Result.andThen_ok, hsz, Std.Legacy.Range.forIn_eq_forIn_range', Std.Legacy.Range.size, Nat.sub_zero, Nat.add_sub_cancel, Nat.div_one]
  have hl : ∀ i ∈ List.range' 0 n 1, i < n := fun i hi => by simpa using (List.mem_range'_1.1 hi).2
  generalize List.range' 0 n 1 = l at hl ⊢
  induction l with
  | nil => simp
  | cons i l ih =>
    have hi : i < n := hl i (by simp)
    have px : (part e (xs.map (Value.int k)).toArray (i * 1)).run P w = .ok (.int k (xs.getD i 0)) w := by
      simp [part, isAgg, run_underlying he, List.getD, List.getElem?_eq_getElem (show i < xs.length by omega)]
    have py : (part e (ys.map (Value.int k)).toArray (i * 1)).run P w = .ok (.int k (ys.getD i 0)) w := by
      simp [part, isAgg, run_underlying he, List.getD, List.getElem?_eq_getElem (show i < ys.length by omega)]
    have pe : (Op.equalIn (d + 1) e (.int k (xs.getD i 0)) (.int k (ys.getD i 0))).run P w = .ok (xs.getD i 0 == ys.getD i 0) w := run_equalIn_int w d e k k _ _ he
    simp only [List.forIn_cons, Sem.run_bind, px, py, pe, Result.andThen_ok, List.all_cons]
    cases hb : (xs.getD i 0 == ys.getD i 0)
    · simp
    · simp only [Bool.not_true, Bool.false_eq_true, if_false, Sem.run_pure, Result.andThen_ok, Bool.true_and]
      exact ih fun j hj => hl j (by simp [hj])
theorem eqIn_bool (d : Nat) {t : TypeId} (hu : P.underlying t = some .bool) (p q : Bool) : (Op.equalIn (d + 1) t (.bool p) (.bool q)).run P w = .ok (p == q) w := by
  rw [Op.equalIn]; simp [Sem.run_bind, run_underlying hu]
theorem eqIn_ptr (d : Nat) {t el : TypeId} (hu : P.underlying t = some (.pointer el)) (p q : Option Addr) (hpq : p = none ∨ q = none) : (Op.equalIn (d + 1) t (.pointer p) (.pointer q)).run P w = .ok (p.isNone && q.isNone) w := by
  rw [Op.equalIn]
  rcases hpq with rfl | rfl
  · simp [Sem.run_bind, run_underlying hu]
  · cases p <;> simp [Sem.run_bind, run_underlying hu]
theorem eqIn_sl (d : Nat) {t el : TypeId} (hu : P.underlying t = some (.slice el)) (p : Option Addr) (n c : Nat) : (Op.equalIn (d + 1) t (.slice p n c) (.slice none 0 0)).run P w = .ok p.isNone w := by
  rw [Op.equalIn]
  cases p <;> simp [Sem.run_bind, run_underlying hu]
theorem eqIn_fn0 (d : Nat) {t : TypeId} {ps rs : Array TypeId} {vr : Bool} (hu : P.underlying t = some (.func ps rs vr)) : (Op.equalIn (d + 1) t .nilFunc .nilFunc).run P w = .ok true w := by
  rw [Op.equalIn]; simp [Sem.run_bind, run_underlying hu]
theorem eqIn_fn1 (d : Nat) {t : TypeId} {ps rs : Array TypeId} {vr : Bool} (hu : P.underlying t = some (.func ps rs vr)) (f : Fn) (xs ys : Array Value) : (Op.equalIn (d + 1) t (.func f xs ys) .nilFunc).run P w = .ok false w := by
  rw [Op.equalIn]; simp [Sem.run_bind, run_underlying hu]
theorem ints_of_row {own : Nat → Prop} {k : IntKind} {r : Row} {vs : List Value} {xs : List Int} (h : RowRep w own σ r (fun i => vs[i]?)) (hs : vs.length = r.size) (has : r.as (.i k) = some xs) : vs = xs.map (Value.int k) := by
  obtain ⟨h1, h2⟩ := as_rep h has
  have hl : vs.length = xs.length := by rw [hs, h2]; simp [Ty.sz]
  refine List.ext_getElem? fun i => ?_
  rw [List.getElem?_map]
  by_cases hi : i < xs.length
  · have h3 : vs[i * 1 + 0]? = some (.int k xs[i]) := h1 i _ (List.getElem?_eq_getElem hi)
    rw [Nat.mul_one, Nat.add_zero] at h3
    rw [h3, List.getElem?_eq_getElem hi]; rfl
  · rw [List.getElem?_eq_none (by omega), List.getElem?_eq_none (by omega)]; rfl
theorem aeq_run {own : Nat → Prop} {op : BinOp} (hop : op = .eql ∨ op = .neq) {t : TypeId} {xo yo : Operand} {x y : AV} {u v : Value} {b : Bool} (h : aeq P t x y = some b) (hx : RepA w own σ x u) (hy : RepA w own σ y v) :
    (do eqGuard op t xo yo u v; binOp op t u v : Sem Value).run P w = .ok (.bool (if op = .eql then b else !b)) w := by
  have fin : ∀ {u v : Value}, (eqGuard op t xo yo u v).run P w = .ok () w → (Op.equal t u v).run P w = .ok b w → (∀ op', (op' = .eql → binOp op' t u v = (do pure (.bool (← Op.equal t u v)))) ∧ (op' = .neq → binOp op' t u v = (do pure (.bool (!(← Op.equal t u v)))))) →
      (do eqGuard op t xo yo u v; binOp op t u v : Sem Value).run P w = .ok (.bool (if op = .eql then b else !b)) w := fun {u v} hg he hb => by
    rw [Sem.run_bind, hg, Result.andThen_ok]
    rcases hop with rfl | rfl
    · rw [(hb _).1 rfl, Sem.run_bind, he]; rfl
    · rw [(hb _).2 rfl, Sem.run_bind, he]; rfl
  unfold aeq at h
  split at h
  · split at h
    · rename_i hu
      cases h
      obtain ⟨rfl, -⟩ := hx
      obtain ⟨rfl, -⟩ := hy
      refine fin (by rcases hop with rfl | rfl <;> rfl) ?_ (fun op' => ⟨fun h => by subst h; rfl, fun h => by subst h; rfl⟩)
      exact eqIn_bool 9999 hu _ _
    · cases h
  · rename_i r q
    obtain ⟨vs, rfl, h1, h2⟩ := hx
    obtain ⟨us, rfl, h3, h4⟩ := hy
    unfold aeqRow at h
    split at h
    · cases h
    · rename_i hg
      split at h
      · rename_i m e hu
        split at h
        · rename_i k he hsz
          split at h
          · rename_i xs ys hxs hys
            split at h
            · rename_i hl
              cases h
              obtain rfl := ints_of_row h2 h1 hxs
              obtain rfl := ints_of_row h4 h3 hys
              obtain ⟨ti, hti, hts⟩ := tsz_some hsz
              refine fin ?_ (run_equalIn_intsK (P := P) 9998 t e m k hu he (fun w => by simp [sizeOf, typeInfo, hti, hts]) xs ys hl.1 hl.2 w) (fun op' => ⟨fun h => by subst h; rfl, fun h => by subst h; rfl⟩)
              have hg' : P.eqGuardType P.depth t = false := by simpa [eqg] using hg
              rcases hop with rfl | rfl <;> simp [eqGuard, Sem.run_bind, program, Sem.run, hg']
            · cases h
          · cases h
        · cases h
      · cases h
  · rename_i ca cb' _
    split at h
    · rename_i el hu
      have np : ∀ {c : CV} {v : Value}, isNilP c = true → Rep w own σ c v → v = .pointer none := fun {c v} hn hr => by
        unfold isNilP at hn
        split at hn
        · obtain ⟨rfl, -⟩ := hr; rfl
        · cases hn
      have pn : ∀ {c : CV} {v : Value}, ptrNil c = some b → Rep w own σ c v → ∃ p, v = .pointer p ∧ b = p.isNone := fun {c v} hn hr => by
        unfold ptrNil at hn
        split at hn
        · cases hn; obtain ⟨rfl, -⟩ := hr; exact ⟨_, rfl, rfl⟩
        · cases hn; obtain ⟨bb, base, ext, -, rfl⟩ := hr; exact ⟨_, rfl, rfl⟩
        · cases hn; obtain ⟨bb, off, rfl, -⟩ := hr; exact ⟨_, rfl, rfl⟩
        · cases hn
      have go : ∀ p q, u = .pointer p → v = .pointer q → (p = none ∨ q = none) → b = (p.isNone && q.isNone) → (do eqGuard op t xo yo u v; binOp op t u v : Sem Value).run P w = .ok (.bool (if op = .eql then b else !b)) w := fun p q hp hq hpq hb => by
        subst hp hq
        refine fin (by rcases hop with rfl | rfl <;> rfl) ?_ (fun op' => ⟨fun h => by subst h; rfl, fun h => by subst h; rfl⟩)
        subst hb
        exact eqIn_ptr 9999 hu p q hpq
      split at h
      · rename_i hb
        obtain ⟨p, hp, rfl⟩ := pn h hx
        exact go p none hp (np hb hy) (.inr rfl) (by simp)
      · split at h
        · rename_i hb
          obtain ⟨p, hp, rfl⟩ := pn h hy
          exact go none p (np hb hx) hp (.inl rfl) (by simp)
        · cases h
    · rename_i el hu
      split at h
      · rename_i hb
        have hv : v = .slice none 0 0 := by
          unfold isNilS at hb
          split at hb
          · obtain ⟨rfl, -⟩ := hy; rfl
          · cases hb
        have hs : ∃ p n c, u = .slice p n c ∧ b = p.isNone := by
          unfold slNil at h
          split at h
          · cases h; obtain ⟨rfl, -⟩ := hx; exact ⟨_, _, _, rfl, rfl⟩
          · split at h
            · rename_i hl
              cases h
              rcases hx with ⟨h0, -⟩ | ⟨bb, base, ext, c, -, rfl, -⟩
              · omega
              · exact ⟨_, _, _, rfl, rfl⟩
            · cases h
          · split at h
            · rename_i hl
              cases h
              rcases hx with ⟨rfl, -⟩ | ⟨bb, off, c, rfl, -⟩
              · simp at hl
              · exact ⟨_, _, _, rfl, rfl⟩
            · cases h
          · cases h
        obtain ⟨p, n, c, rfl, rfl⟩ := hs
        subst hv
        refine fin (by rcases hop with rfl | rfl <;> rfl) ?_ (fun op' => ⟨fun h => by subst h; rfl, fun h => by subst h; rfl⟩)
        exact eqIn_sl 9999 hu p n c
      · cases h
    · rename_i ps rs vr hu
      split at h
      · rename_i hb
        have hv : v = .nilFunc := by
          unfold isNilF at hb
          split at hb
          · obtain ⟨rfl, -⟩ := hy; rfl
          · cases hb
        subst hv
        have hs : (u = .nilFunc ∧ b = true) ∨ ∃ f xs ys, u = .func f xs ys ∧ b = false := by
          unfold fnNil at h
          split at h
          · cases h; obtain ⟨rfl, -⟩ := hx; exact .inl ⟨rfl, rfl⟩
          · cases h; obtain ⟨rfl, -⟩ := hx; exact .inr ⟨_, _, _, rfl, rfl⟩
          · cases h; obtain ⟨ps, rfl, -⟩ := hx; exact .inr ⟨_, _, _, rfl, rfl⟩
          · cases h
        rcases hs with ⟨rfl, rfl⟩ | ⟨f, xs, ys, rfl, rfl⟩
        · refine fin (by rcases hop with rfl | rfl <;> rfl) ?_ (fun op' => ⟨fun h => by subst h; rfl, fun h => by subst h; rfl⟩)
          exact eqIn_fn0 9999 hu
        · refine fin (by rcases hop with rfl | rfl <;> rfl) ?_ (fun op' => ⟨fun h => by subst h; rfl, fun h => by subst h; rfl⟩)
          exact eqIn_fn1 9999 hu f xs ys
      · cases h
    · cases h
  · cases h
theorem vAV_rep {own : Nat → Prop} {x : AV} {u v : Value} (h : vAV x = some u) (hx : RepA w own σ x v) : v = u := by
  unfold vAV at h
  split at h
  · cases h; exact hx.1
  · cases h
theorem s_bin {own : Nat → Prop} {op : BinOp} {t : TypeId} {xo yo : Operand} {x y r : AV} {u v : Value} (h : abin P op t x y = some r) (hx : RepA w own σ x u) (hy : RepA w own σ y v) :
    ∃ z, (do eqGuard op t xo yo u v; binOp op t u v : Sem Value).run P w = .ok z w ∧ RepA w own σ r z := by
  have viaV : ∀ {u' v' z : Value}, vAV x = some u' → vAV y = some v' → vbin op u' v' = some z → ∃ z', (do eqGuard op t xo yo u v; binOp op t u v : Sem Value).run P w = .ok z' w ∧ RepA w own σ (.c (.v z)) z' := fun {u' v' z} h1 h2 h3 => by
    obtain rfl := vAV_rep h1 hx
    obtain rfl := vAV_rep h2 hy
    obtain ⟨h4, h5⟩ := vbin_run (P := P) (w := w) (t := t) (xo := xo) (yo := yo) h3
    exact ⟨_, h4, rfl, h5⟩
  unfold abin at h
  split at h
  · split at h
    · rename_i u' v' h1 h2
      split at h
      · rename_i z hz
        cases h
        exact viaV h1 h2 hz
      · obtain ⟨b, hb, rfl⟩ := Option.map_eq_some_iff.1 h
        exact ⟨_, aeq_run (.inl rfl) hb hx hy, rfl, rfl⟩
    · obtain ⟨b, hb, rfl⟩ := Option.map_eq_some_iff.1 h
      exact ⟨_, aeq_run (.inl rfl) hb hx hy, rfl, rfl⟩
  · split at h
    · rename_i u' v' h1 h2
      split at h
      · rename_i z hz
        cases h
        exact viaV h1 h2 hz
      · obtain ⟨b, hb, rfl⟩ := Option.map_eq_some_iff.1 h
        exact ⟨_, aeq_run (.inr rfl) hb hx hy, rfl, rfl⟩
    · obtain ⟨b, hb, rfl⟩ := Option.map_eq_some_iff.1 h
      exact ⟨_, aeq_run (.inr rfl) hb hx hy, rfl, rfl⟩
  · split at h
    · rename_i u' v' h1 h2
      obtain ⟨z, hz, rfl⟩ := Option.map_eq_some_iff.1 h
      exact viaV h1 h2 hz
    · cases h
theorem s_un {own : Nat → Prop} {op : UnOp} {x r : AV} {u : Value} (h : aun op x = some r) (hx : RepA w own σ x u) : ∃ z, (Op.unary op u).run P w = .ok z w ∧ RepA w own σ r z := by
  unfold aun at h
  split at h
  · rename_i u' hu
    obtain rfl := vAV_rep hu hx
    obtain ⟨z, hz, rfl⟩ := Option.map_eq_some_iff.1 h
    unfold vun at hz
    split at hz <;> first | cases hz | skip
    all_goals
      obtain ⟨h1, h2⟩ := oneV_some hz
      exact ⟨z, val?_run h1, rfl, h2⟩
  · cases h
theorem s_conv {own : Nat → Prop} {src dst : TypeId} {x r : AV} {u : Value} (h : aconv P src dst x = some r) (hx : RepA w own σ x u) : ∃ z, (convert src dst u).run P w = .ok z w ∧ RepA w own σ r z := by
  unfold aconv at h
  split at h
  · rename_i ds k kk n hs hd hv
    cases h
    obtain rfl := vAV_rep hv hx
    exact ⟨.int k (k.wrap n), by simp [convert, Sem.run_bind, run_underlying hs, run_underlying hd, Conv.intToInt], rfl, rfl⟩
  · rename_i ds q hs hd hv
    cases h
    obtain rfl := vAV_rep hv hx
    exact ⟨.string q, by simp [convert, Sem.run_bind, run_underlying hs, run_underlying hd], rfl, rfl⟩
  · cases h
theorem part0_size {r q : Row} {o e : Nat} (h : r.part o 0 e = some q) : q.size = 0 := by
  cases r with
  | raw l =>
    simp only [Row.part] at h
    split at h
    · cases h; simp [Row.size]
    · cases h
  | ty t xs =>
    simp only [Row.part] at h
    split at h
    · split at h
      · rename_i h0; cases h; simp [Row.size, ← h0.2]
      · split at h
        · cases h; simp [Row.size]
        · cases h
    · cases h
/-- Where a slice's elements lie. -/
theorem elems_addr (hh : HeapRep X σ H w) {n m : Nat} {x : AV} {q : Row} {y : Value} (h : elems H n x = some (m, q)) (hns : ∀ u, x ≠ .c (.v (.string u))) (hx : RepA w (own X σ H) σ x y) :
    q.size = m * n ∧ ∃ a c, y = .slice a m c ∧ m ≤ c ∧ (m = 0 ∨ ∃ b off, a = some ⟨b, off, none⟩ ∧ RowRep w (own X σ H) σ q (fun k => w.cell? ⟨b, off + k, none⟩)) := by
  unfold elems at h
  split at h
  · rename_i id o len e
    split at h
    · rename_i he; subst he
      split at h
      · rename_i r hr
        obtain ⟨q', hq, heq⟩ := Option.map_eq_some_iff.1 h
        cases heq
        rcases hx with ⟨rfl, a, rfl⟩ | ⟨b, base, ext, c, hs, rfl, hlc, hc, hext⟩
        · exact ⟨by rw [part0_size hq]; simp, a, 0, rfl, Nat.le_refl _, .inl rfl⟩
        · rcases hh.row id r (hrow_some hr) with h0 | ⟨b', base', ext', hs', hb, hle, hcell, hrow⟩
          · rw [h0] at hs; cases hs
          · rw [hs] at hs'; cases hs'
            obtain ⟨h1, h2, h3⟩ := part_rep hrow hq
            exact ⟨h2, _, c, rfl, hlc, .inr ⟨b, base + o * e, rfl, RowRep.only (fun k v _ hv => by rw [Nat.add_assoc]; exact hv) h1⟩⟩
      · cases h
    · cases h
  · rename_i t xs
    split at h
    · rename_i ht; subst ht
      cases h
      rcases hx with ⟨rfl, a, c, rfl⟩ | ⟨b, off, c, rfl, hlc, hc, hb, hlt, hxs⟩
      · exact ⟨by simp [Row.size], a, c, rfl, Nat.zero_le _, .inl rfl⟩
      · exact ⟨rfl, _, c, rfl, hlc, .inr ⟨b, off, rfl, fun i x hx => RepD.cells (fun j v hv => by show w.cell? ⟨b, off + (i * t.sz + j), none⟩ = _; rw [← Nat.add_assoc]; exact hv) (hxs i x hx)⟩⟩
    · cases h
  · cases h; obtain ⟨rfl, -⟩ := hx; exact ⟨by simp [Row.size], _, _, rfl, Nat.le_refl _, .inl rfl⟩
  · cases h; obtain ⟨a, rfl⟩ := hx; exact ⟨by simp [Row.size], _, _, rfl, Nat.le_refl _, .inl rfl⟩
  · rename_i u; exact (hns u rfl).elim
  · cases h
theorem s_copy (hh : HeapRep X σ H w) {t tx ty : TypeId} {x y r : AV} {u v : Value} {H' : Hp} (h : acopy P H t x y = some (r, H')) (hns : ∀ u, y ≠ .c (.v (.string u))) (hx : RepA w (own X σ H) σ x u) (hy : RepA w (own X σ H) σ y v) :
    ∃ v' w', (Builtin.copy_ #[t, tx] ty #[u, v]).run P w = .ok v' w' ∧ Post X σ H w r H' v' w' := by
  unfold acopy at h
  split at h
  · rename_i el hu
    split at h
    · rename_i hsz
      split at h
      · rename_i id o len e m q hel
        split at h
        · rename_i t' xs hr
          split at h
          · rename_i hc
            obtain ⟨rfl, ht1⟩ := hc
            split at h
            · rename_i p hp
              split at h
              · rename_i r' hr'
                cases h
                obtain ⟨q1, a, c, rfl, hmc, q2⟩ := elems_addr hh hel hns hy
                have hid := hrow_some hr
                have none0 : min m len = 0 → ∀ d n c, u = .slice d len n → ∃ v' w', (Builtin.copy_ #[t, tx] ty #[u, .slice a m c]).run P w = .ok v' w' ∧ Post X σ H w (.c (.v (.int .i64 ((min m len : Nat) : Int)))) (H.set id (some r')) v' w' := fun h0 d n c hu' => by
                  subst hu'
                  refine ⟨_, _, run_copy_none (P := P) w t tx ty el d a len n m c hu (by obtain ⟨ti, hti, hts⟩ := tsz_some hsz; simp [hti, hts]) h0, ?_⟩
                  have hsame : H.set id (some r') = H := by
                    have hr2 : r' = .ty t' xs := by
                      rw [h0] at hp hr'
                      have hps := part0_size hp
                      simp only [Row.over] at hr'
                      split at hr'
                      · rename_i ys hys
                        split at hr'
                        · rename_i hy0
                          cases hr'
                          have : ys = [] := List.eq_nil_of_length_eq_zero hy0.2
                          subst this
                          simp
                        · cases hr'
                      · cases hr'
                    subst hr2
                    refine List.ext_getElem? fun k => ?_
                    by_cases hk : id = k
                    · subst hk; rw [List.getElem?_set_self (List.getElem?_eq_some_iff.1 hid).1, hid]
                    · rw [List.getElem?_set_ne hk]
                  rw [hsame, h0]
                  exact Post.same hh ⟨rfl, rfl⟩
                rcases hx with ⟨rfl, d, rfl⟩ | ⟨b, base, ext, cd, hs, rfl, hlc, hcm, hext⟩
                · exact none0 (by omega) d 0 c rfl
                · by_cases h0 : min m len = 0
                  · exact none0 h0 _ _ _ rfl
                  · rcases q2 with hm0 | ⟨b2, off, rfl, q2⟩
                    · omega
                    · obtain ⟨p1, p2, p3⟩ := part_rep q2 hp
                      obtain ⟨vs, v1, v2, v3, v4⟩ := p1.list
                      have hvl : vs.length = min m len := by rw [v1, p2, Nat.mul_one]
                      have hrow0 : RowRep w (own X σ H) σ (.ty t' xs) (fun k => w.cell? ⟨b, base + k, none⟩) := by
                        rcases hh.row id _ hid with h0 | ⟨b', base', ext', hs', hb, hle', hcell, hrow⟩
                        · rw [h0] at hs; cases hs
                        · rw [hs] at hs'; cases hs'; exact hrow
                      have hov := over_rep (g' := fun k => if o ≤ k ∧ k < o + vs.length then vs[k - o]? else w.cell? ⟨b, base + k, none⟩) hrow0 hr'
                        (RowRep.only (fun k v hk hv => by rw [ht1, Nat.mul_one, if_pos (by omega), show o + k - o = k by omega]; exact hv) v4) (fun k hk => by rw [ht1, Nat.mul_one] at hk; rw [if_neg (by omega)])
                      have hqs : (Row.ty t' xs).size = xs.length := by simp [Row.size, ht1]
                      obtain ⟨s1, s2, s3⟩ := hh.puts hid hs o vs (by rw [hqs, hvl]; exact hov.2.2.2) (by rw [hov.2.1]; rfl) (fun ow w' g' ho hrep hrow' hq0 g1 g2 =>
                        (over_rep hq0 hr' (RowRep.only (fun k v hk hv => by rw [ht1, Nat.mul_one, g1 _ (by omega) (by omega), show o + k - o = k by omega]; exact hv) (hrow' (fun _ _ h => h) v4)) (fun k hk => g2 k (by rw [ht1, Nat.mul_one] at hk; omega))).1)
                      have hrun := run_copy_cells (P := P) w t tx ty el b (base + o * 1) len cd ⟨b2, off, none⟩ m c vs hu (by obtain ⟨ti, hti, hts⟩ := tsz_some hsz; simp [hti, hts]) hvl
                        (fun j v hv => by rw [add_addr]; have := v2 j v hv; simpa using this) (fun j hj => by rw [Nat.mul_one]; exact (s1 j hj).1) (fun j hj => by rw [Nat.mul_one]; exact (s1 j hj).2) v3
                      rw [Nat.mul_one] at hrun
                      refine ⟨_, _, by rw [Nat.mul_one]; exact hrun, σ, ?_, s2, s3⟩
                      rw [hvl]; exact ⟨rfl, rfl⟩
              · cases h
            · cases h
          · cases h
        · cases h
      · cases h
    · cases h
  · cases h
/-- Length, by the argument's type. -/
def alenT (P : Program) (t : TypeId) (x : AV) : Option Nat :=
  match P.underlying t with
  | some (.slice _) => alenS x
  | some .string => (match x with | .c (.v (.string u)) => some u.size | _ => none)
  | some (.array n _) => some n
  | some (.pointer arr) => (match P.underlying arr with | some (.array n _) => some n | _ => none)
  | _ => none
theorem s_len {own : Nat → Prop} {t ty : TypeId} {x : AV} {u : Value} {n : Nat} (h : alenT P t x = some n) (hx : RepA w own σ x u) : (Builtin.len_ #[t] ty #[u]).run P w = .ok (.int .i64 (n : Int)) w := by
  unfold alenT at h
  split at h
  · rename_i el hu
    obtain ⟨a, c, rfl, -⟩ := alenS_rep h hx
    simp [Builtin.len_, Sem.run_bind, run_underlying hu, goInt]
  · rename_i hu
    split at h
    · cases h
      obtain ⟨rfl, -⟩ := hx
      simp [Builtin.len_, Sem.run_bind, run_underlying hu, goInt]
    · cases h
  · rename_i m el hu
    cases h
    simp [Builtin.len_, Sem.run_bind, run_underlying hu, goInt]
  · rename_i arr hu
    split at h
    · rename_i m el hu2
      cases h
      simp [Builtin.len_, Sem.run_bind, run_underlying hu, run_underlying hu2, goInt]
    · cases h
  · cases h
end
end Go.Proofs.Ytbdnhoddkdiogaa
