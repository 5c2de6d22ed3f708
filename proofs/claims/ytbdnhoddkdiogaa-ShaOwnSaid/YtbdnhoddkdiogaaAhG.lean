/- AHI, part G: literals, operators, conversions, copy, length are what the model does. -/
import Derived.Test.YtbdnhoddkdiogaaAhF
import Derived.Laws.Tables
import Derived.Laws.StructEq
set_option linter.unusedSimpArgs false
set_option linter.unusedVariables false
namespace Go.Proofs.Ytbdnhoddkdiogaa
open Go.RowKit
section
variable {P : Program} {X : Nat → Prop} {σ : Sg} {s : St} {H : Hp} {a : Act} {w : World}
theorem ev1_rep {T : Nat → Prop} (he : EnvRep X σ s a w T) {x : Operand} {y : AV} (hT : ∀ t, x = .tmp t → T t) (h : ev1 s x = some y) : Rep1 w (own X σ s.H) σ y (a.eval x) := by
  unfold ev1 at h
  split at h
  · cases h
  · rename_i r hr
    have := ev_rep he hT h
    cases y with
    | c c => exact this
    | agg r => exact this
    | tup l => exact (hr l h).elim
theorem cells_cons (x : AV) (l : List AV) : AV.cells (x :: l) = AV.cells [x] ++ AV.cells l := by
  cases x <;> simp [AV.cells]
theorem cells_flat : ∀ (l : List AV), AV.cells l = l.flatMap fun x => AV.cells [x]
  | [] => rfl
  | x :: l => by rw [cells_cons, cells_flat l, List.flatMap_cons]
theorem allParts_rep {T : Nat → Prop} (he : EnvRep X σ s a w T) : ∀ {l : List (Nat × Operand)} {k : Nat} {xs : List AV}, (∀ i t, (i, Operand.tmp t) ∈ l → T t) → allParts s k l = some xs →
    l.map (fun x => (x.1, a.eval x.2)) = ((l.map fun x => a.eval x.2).zipIdx k).map (fun x => (x.2, x.1)) ∧ xs.length = l.length ∧ ∀ (i : Nat) x, xs[i]? = some x → ∃ v, (l.map fun x => a.eval x.2)[i]? = some v ∧ Rep1 w (own X σ s.H) σ x v
  | [], k, xs, hT, h => by cases h; exact ⟨rfl, rfl, fun i x hx => by simp at hx⟩
  | (i, x) :: l, k, xs, hT, h => by
    simp only [allParts] at h
    split at h
    · rename_i hik; subst hik
      split at h
      · rename_i y ys hy hys
        cases h
        obtain ⟨h1, h2, h3⟩ := allParts_rep he (fun j t ht => hT j t (List.mem_cons_of_mem _ ht)) hys
        refine ⟨by simp only [List.map_cons, List.zipIdx_cons, h1], by simp [h2], fun j z hz => ?_⟩
        cases j with
        | zero => cases hz; exact ⟨_, rfl, ev1_rep he (fun t ht => hT i t (ht ▸ List.mem_cons_self ..)) hy⟩
        | succ j => exact h3 j z (by simpa using hz)
      · cases h
    · cases h
theorem ones_rep {t : Ty} : ∀ {l : List AV} {xs : List t.D}, AV.ones t l = some xs → xs.length = l.length ∧ ∀ (i : Nat) x, xs[i]? = some x → ∃ y, l[i]? = some y ∧ AV.one t y = some x
  | [], xs, h => by cases h; exact ⟨rfl, fun i x hx => by simp at hx⟩
  | y :: l, xs, h => by
    simp only [AV.ones] at h
    split at h
    · rename_i x ys hx hys
      cases h
      obtain ⟨h1, h2⟩ := ones_rep hys
      refine ⟨by simp [h1], fun i z hz => ?_⟩
      cases i with
      | zero => cases hz; exact ⟨y, rfl, hx⟩
      | succ i => exact h2 i z (by simpa using hz)
    · cases h
theorem allSz_spec {n : Nat} : ∀ {l : List AV}, AV.allSz n l = true → ∀ x ∈ l, (AV.cells [x]).length = n
  | [], _, x, hx => by cases hx
  | y :: l, h, x, hx => by
    simp only [AV.allSz, Bool.and_eq_true, decide_eq_true_eq] at h
    cases hx with
    | head => exact h.1
    | tail _ hx => exact allSz_spec h.2 x hx
theorem flat_len {n : Nat} : ∀ (vs : List Value), (∀ v ∈ vs, v.cells.size = n) → (vs.flatMap fun v => v.cells.toList).length = vs.length * n
  | [], _ => by simp
  | v :: vs, h => by
    rw [List.flatMap_cons, List.length_append, flat_len vs (fun u hu => h u (List.mem_cons_of_mem _ hu)), Array.length_toList, h v (List.mem_cons_self ..), List.length_cons, Nat.add_mul]
    omega
theorem s_buildSlice {T : Nat → Prop} (he : EnvRep X σ s a w T) (hh : HeapRep X σ s.H w) {t : TypeId} {len : Nat} {parts : Array (Nat × Operand)} {r : AV} {H' : Hp} (hT : ∀ i t, (i, Operand.tmp t) ∈ parts.toList → T t) (h : abuildSlice P s t len parts.toList = some (r, H')) :
    ∃ v w', (Instr.buildSlice t len (parts.map fun (i, x) => (i, a.eval x))).run P w = .ok v w' ∧ Post X σ s.H w r H' v w' := by
  unfold abuildSlice at h
  split at h
  · rename_i h00
    obtain ⟨rfl, hp0⟩ := h00
    unfold abuild0 at h
    split at h
    · rename_i el hu
      split at h
      · rename_i n by_ z k hq hk
        obtain ⟨i, hi, rfl, -, hz⟩ := tq_some hq
        split at h
        · cases h
          have hp : parts.toList = [] := List.eq_nil_of_length_eq_zero hp0
          have hp' : parts = #[] := by apply Array.ext'; simpa using hp
          subst hp'
          have hrun : (Instr.buildSlice t 0 #[]).run P w = .ok (.slice (some ⟨w.heap.size, 0, none⟩) 0 0) (w.alloc (.cells #[] el)) := by
            simp [Instr.buildSlice, run_underlying hu, sizeOf, typeInfo, hi, newRow, Instr.fill]
            congr 2
            apply Array.ext'
            simp
          obtain ⟨g1, g2⟩ := hh.alloc #[] el (.ty k []) (by simp [Row.size]) (fun i x hx => by simp at hx)
          exact ⟨_, _, (by simpa using hrun), _, .inl ⟨rfl, _, rfl⟩, g1, g2⟩
        · cases h
      · cases h
    · cases h
  split at h
  · rename_i el hu
    split at h
    · rename_i n by_ z l hq hl
      obtain ⟨i, hi, rfl, -, hz⟩ := tq_some hq
      split at h
      · rename_i hc
        obtain ⟨rfl, hlen, h0, h1, h2⟩ := hc
        obtain ⟨zv, hzv, hzs⟩ := Option.map_eq_some_iff.1 hz
        obtain ⟨p1, p2, p3⟩ := allParts_rep he hT hl
        have hvl : (parts.toList.map fun x => a.eval x.2).length = len := by rw [List.length_map, ← p2, hlen]
        have main : ∀ (rr : Row), (∀ (j : Nat) v, (parts.toList.map fun x => a.eval x.2)[j]? = some v → v.cells.size = i.size) → rr.size = len * i.size →
            RowRep w (own X σ s.H) σ rr (fun k => ((parts.toList.map fun x => a.eval x.2).flatMap fun v => v.cells.toList)[k]?) →
            ∃ v w', (Instr.buildSlice t len (parts.map fun (i, x) => (i, a.eval x))).run P w = .ok v w' ∧ Post X σ s.H w (.c (.sl s.H.length 0 len i.size)) (s.H ++ [some rr]) v w' := fun rr hsz hrs hrr => by
          have hsz' : ∀ v ∈ (parts.toList.map fun x => a.eval x.2), v.cells.size = i.size := fun v hv => by
            obtain ⟨j, hj⟩ := List.mem_iff_getElem?.1 hv
            exact hsz j v hj
          have hfill := Great.fill_whole (s := i.size) h1 (parts.toList.map fun x => a.eval x.2) ((Array.range (len * i.size)).map (zv.cells[· % zv.cells.size]!)) hsz' (by rw [hvl]; simp)
          have hpl : (parts.map fun (x : Nat × Operand) => (x.1, a.eval x.2)).toList = ((parts.toList.map fun x => a.eval x.2).zipIdx 0).map fun x => (x.2, x.1) := by rw [Array.toList_map]; exact p1
          have hrun := run_buildSlice (P := P) w t el len (parts.map fun (x : Nat × Operand) => (x.1, a.eval x.2)) _ i zv hu hi hzv (by omega) (by have := Nat.mul_pos h0 h1; omega) (by rw [hpl]; exact hfill)
          have hfl : ((parts.toList.map fun x => a.eval x.2).flatMap fun v => v.cells.toList).length = len * i.size := by
            rw [flat_len _ hsz', hvl]
          obtain ⟨g1, g2⟩ := hh.alloc ((parts.toList.map fun x => a.eval x.2).flatMap fun v => v.cells.toList).toArray el rr (by simp [hrs, hfl]) (RowRep.only (fun k v _ hv => by simpa using hv) hrr)
          refine ⟨_, _, hrun, _, .inr ⟨w.heap.size, 0, _, len, upd_same _ _ _, by simp, Nat.le_refl _, ?_, by simp [hfl]⟩, g1, g2⟩
          have : len * 1 ≤ len * i.size := Nat.mul_le_mul_left _ h1
          simp only [maxLen]; omega
        split at h
        · rename_i rr hrr
          cases h
          split at hrr
          · rename_i k hk
            split at hrr
            · rename_i hks
              obtain ⟨xs, hxs, rfl⟩ := Option.map_eq_some_iff.1 hrr
              obtain ⟨o1, o2⟩ := ones_rep hxs
              have hrep : ∀ (j : Nat) x, xs[j]? = some x → ∃ v, (parts.toList.map fun x => a.eval x.2)[j]? = some v ∧ RepD w (own X σ s.H) k x (fun m => v.cells[m]?) ∧ v.cells.size = k.sz := fun j x hx => by
                obtain ⟨y, hy, hyx⟩ := o2 j x hx
                obtain ⟨v, hv, hr⟩ := p3 j y hy
                exact ⟨v, hv, one_rep1 hyx hr.toA⟩
              have hsz : ∀ (j : Nat) v, (parts.toList.map fun x => a.eval x.2)[j]? = some v → v.cells.size = i.size := fun j v hv => by
                have hj : j < xs.length := by rw [o1, hlen, ← hvl]; exact (List.getElem?_eq_some_iff.1 hv).1
                obtain ⟨v', hv', -, e⟩ := hrep j _ (List.getElem?_eq_getElem hj)
                rw [hv] at hv'; cases hv'; rw [e, hks]
              refine main _ hsz (by simp only [Row.size]; rw [o1, hlen, hks]) (fun j x hx => ?_)
              obtain ⟨v, hv, hd, e⟩ := hrep j x hx
              refine RepD.only (fun m u hm hu => ?_) hd
              have hg := Great.flat_get (s := i.size) h1 (parts.toList.map fun x => a.eval x.2) (fun v hv => by obtain ⟨q, hq⟩ := List.mem_iff_getElem?.1 hv; exact hsz q v hq) (j * k.sz + m)
              rw [← hks] at hg
              have e1 : (j * k.sz + m) / k.sz = j := by rw [Nat.mul_comm, Nat.mul_add_div (by omega), Nat.div_eq_of_lt hm]; rfl
              have e2 : (j * k.sz + m) % k.sz = m := by rw [Nat.mul_comm, Nat.mul_add_mod]; exact Nat.mod_eq_of_lt hm
              show _[j * k.sz + m]? = _
              rw [hg, e1, e2, hv]; exact hu
            · cases hrr
          · cases hrr
        · split at h
          · rename_i hsz0
            cases h
            have hcell := allSz_spec hsz0
            have hsz : ∀ (j : Nat) v, (parts.toList.map fun x => a.eval x.2)[j]? = some v → v.cells.size = i.size := fun j v hv => by
              have hj : j < l.length := by rw [hlen, ← hvl]; exact (List.getElem?_eq_some_iff.1 hv).1
              obtain ⟨v', hv', hr⟩ := p3 j _ (List.getElem?_eq_getElem hj)
              rw [hv] at hv'; cases hv'
              rw [← (av_cells hr).2]; exact hcell _ (List.getElem_mem hj)
            have hfl := LRep.flat (n := i.size) (f := fun x => AV.cells [x]) (xs := l) (w := w) (σ := σ) (own := own X σ s.H) (g := fun k => ((parts.toList.map fun x => a.eval x.2).flatMap fun v => v.cells.toList)[k]?) (fun j x hx => by
              obtain ⟨v, hv, hr⟩ := p3 j x hx
              refine ⟨hcell x (List.mem_of_getElem? hx), (av_cells hr).1.cells (fun m u hm hu => ?_)⟩
              have hm' : m < i.size := by rw [hcell x (List.mem_of_getElem? hx)] at hm; exact hm
              have hg := Great.flat_get (s := i.size) h1 (parts.toList.map fun x => a.eval x.2) (fun v hv => by obtain ⟨q, hq⟩ := List.mem_iff_getElem?.1 hv; exact hsz q v hq) (j * i.size + m)
              have e1 : (j * i.size + m) / i.size = j := by rw [Nat.mul_comm, Nat.mul_add_div (by omega), Nat.div_eq_of_lt hm']; rfl
              have e2 : (j * i.size + m) % i.size = m := by rw [Nat.mul_comm, Nat.mul_add_mod]; exact Nat.mod_eq_of_lt hm'
              show _[j * i.size + m]? = _
              rw [hg, e1, e2, hv]; exact hu)
            rw [cells_flat]
            exact main _ hsz (by simp only [Row.size]; rw [hfl.2, hlen]) hfl.1
          · cases h
      · cases h
    · cases h
  · cases h
theorem evParts_rep {T : Nat → Prop} (he : EnvRep X σ s a w T) : ∀ {l : List (Nat × Operand)} {xs : List (Nat × AV)}, (∀ i t, (i, Operand.tmp t) ∈ l → T t) → evParts s l = some xs → xs.length = l.length ∧ ∀ (i : Nat) j x, xs[i]? = some (j, x) → ∃ o, l[i]? = some (j, o) ∧ Rep1 w (own X σ s.H) σ x (a.eval o)
  | [], xs, hT, h => by cases h; exact ⟨rfl, fun i j x hx => by simp at hx⟩
  | (i, x) :: l, xs, hT, h => by
    simp only [evParts] at h
    split at h
    · rename_i y ys hy hys
      cases h
      obtain ⟨h1, h2⟩ := evParts_rep he (fun j t ht => hT j t (List.mem_cons_of_mem _ ht)) hys
      refine ⟨by simp [h1], fun j k z hz => ?_⟩
      cases j with
      | zero => cases hz; exact ⟨x, rfl, ev1_rep he (fun t ht => hT i t (ht ▸ List.mem_cons_self ..)) hy⟩
      | succ j => exact h2 j k z (by simpa using hz)
    · cases h
theorem fillL_rep {own : Nat → Prop} {place : Nat → Option (Nat × Nat)} : ∀ {xs : List (Nat × AV)} {vs : List (Nat × Value)} {cells L : List CV} {cs : Array Value}, LRep w own σ cells (fun k => cs[k]?) → cells.length = cs.size → fillL place cells xs = some L →
    xs.length = vs.length → (∀ (i : Nat) j x, xs[i]? = some (j, x) → ∃ v, vs[i]? = some (j, v) ∧ Rep1 w own σ x v) → ∃ out, Instr.fill place cs vs = some out ∧ LRep w own σ L (fun k => out[k]?) ∧ L.length = out.size
  | [], vs, cells, L, cs, hc, hs, h, hl, hv => by
    cases h
    have : vs = [] := List.eq_nil_of_length_eq_zero (by simpa using hl.symm)
    subst this
    exact ⟨cs, rfl, hc, hs⟩
  | (i, x) :: xs, vs, cells, L, cs, hc, hs, h, hl, hv => by
    cases vs with
    | nil => simp at hl
    | cons p vs =>
      obtain ⟨v, hv0, hr⟩ := hv 0 i x rfl
      simp only [List.getElem?_cons_zero, Option.some.injEq] at hv0
      subst hv0
      simp only [fillL] at h
      split at h
      · rename_i off size hp
        split at h
        · rename_i hcond
          obtain ⟨e1, e2⟩ := hcond
          obtain ⟨a1, a2⟩ := av_cells hr
          obtain ⟨g1, g2⟩ := Great.foldl_set off v.cells.toList 0 cs
          have hto : (cells.take off).length = off := by rw [List.length_take]; omega
          have hnew : LRep w own σ (cells.take off ++ AV.cells [x] ++ cells.drop (off + size)) (fun k => ((v.cells.toList.zipIdx 0).foldl (fun cs (x : Value × Nat) => cs.setIfInBounds (off + x.2) x.1) cs)[k]?) := by
            rw [List.append_assoc]
            refine LRep.append ((hc.take off).cells (fun k u hk hu => ?_)) (LRep.append (a1.cells (fun k u hk hu => ?_)) ((hc.drop (off + size)).cells (fun k u hk hu => ?_)))
            · rw [g2 k, if_neg (by omega)]; exact hu
            · have hlt : off + k < cs.size := by omega
              show _[(cells.take off).length + k]? = _
              rw [hto, g2, if_pos ⟨by omega, by rw [Array.length_toList]; omega, hlt⟩, Nat.add_zero, show off + k - off = k by omega, Array.getElem?_toList]; exact hu
            · show _[(cells.take off).length + ((AV.cells [x]).length + k)]? = _
              rw [hto, e1, g2, if_neg (by rw [Array.length_toList]; omega), ← Nat.add_assoc]; exact hu
          obtain ⟨out, f1, f2, f3⟩ := fillL_rep (vs := vs) hnew (by rw [g1]; simp only [List.length_append, hto, e1, List.length_drop]; omega) h (by simpa using hl) (fun j k z hz => hv (j + 1) k z (by simpa using hz))
          refine ⟨out, ?_, f2, f3⟩
          unfold Instr.fill
          simp only [hp]
          rw [if_neg (by simp; omega), ← f1]
          congr 1
          rw [← Array.foldl_toList, Array.toList_zipIdx]
        · cases h
      · cases h
theorem zcells_rep {own : Nat → Prop} {t : TypeId} {Z : List CV} (h : zcells P t = some Z) : ∃ i z, P.info? t = some i ∧ i.zero = some z ∧ LRep w own σ Z (fun k => z.cells[k]?) ∧ Z.length = z.cells.size := by
  unfold zcells at h
  split at h
  · cases h
  · rename_i z hz
    obtain ⟨i, hi, hz⟩ := Option.bind_eq_some_iff.1 hz
    split at h
    · rename_i l hl
      cases h
      have := valRow_rep (σ := σ) (own := own) (w := w) hl
      exact ⟨i, z, hi, hz, this.1, this.2⟩
    · cases h
theorem s_build {T : Nat → Prop} (he : EnvRep X σ s a w T) {t : TypeId} {parts : Array (Nat × Operand)} {r : AV} (hT : ∀ i t, (i, Operand.tmp t) ∈ parts.toList → T t) (h : abuild P s t parts.toList = some r) :
    ∃ v, (Instr.build t (parts.map fun (i, x) => (i, a.eval x))).run P w = .ok v w ∧ RepA w (own X σ s.H) σ r v := by
  unfold abuild at h
  split at h
  · rename_i Z l hZ hl
    obtain ⟨i, z, hi, hz, z1, z2⟩ := zcells_rep (σ := σ) (own := own X σ s.H) (w := w) hZ
    obtain ⟨e1, e2⟩ := evParts_rep he hT hl
    have fill := fun (place : Nat → Option (Nat × Nat)) (L : List CV) (hf : fillL place Z l = some L) => fillL_rep (vs := parts.toList.map fun x => (x.1, a.eval x.2)) z1 z2 hf (by rw [List.length_map]; exact e1) (fun j k x hx => by
      obtain ⟨o, ho, hr⟩ := e2 j k x hx
      exact ⟨a.eval o, by rw [List.getElem?_map, ho]; rfl, hr⟩)
    have hpl : (parts.map fun (x : Nat × Operand) => (x.1, a.eval x.2)).toList = parts.toList.map fun x => (x.1, a.eval x.2) := by rw [Array.toList_map]
    split at h
    · rename_i fs hu
      split at h
      · rename_i places hp
        obtain ⟨L, hL, rfl⟩ := Option.map_eq_some_iff.1 h
        obtain ⟨out, f1, f2, f3⟩ := fill _ L hL
        have hp' : fs.toList.mapM (fun f => (P.info? f.type).map fun i => (f.offset, i.size)) = some places := by
          unfold stq at hp; rw [hu] at hp; exact hp
        refine ⟨.agg out, run_build w t _ out ?_, out.toList, by simp, by rw [Array.length_toList]; exact f3.symm, f2.cells (fun k v _ hv => by simpa using hv)⟩
        unfold Program.built
        rw [hi, hu]
        simp only [hz, hp', hpl]
        rw [← f1]
        congr 1
        funext k
        simp
      · cases h
    · rename_i m e hu
      split at h
      · rename_i n hn
        obtain ⟨ti, hti, rfl⟩ := tsz_some hn
        split at h
        · rename_i L hL
          obtain ⟨out, f1, f2, f3⟩ := fill _ L hL
          have hrun : (Instr.build t (parts.map fun (x : Nat × Operand) => (x.1, a.eval x.2))).run P w = .ok (.agg out) w := by
            refine run_build w t _ out ?_
            unfold Program.built
            rw [hi, hu]
            simp only [hz, hti, hpl]
            exact f1
          have hraw : RepA w (own X σ s.H) σ (.agg (.raw L)) (.agg out) := ⟨out.toList, by simp, by rw [Array.length_toList]; exact f3.symm, f2.cells (fun k v _ hv => by simpa using hv)⟩
          split at h
          · split at h
            · rename_i xs hxs
              cases h
              obtain ⟨q1, q2⟩ := as_rep (g := fun k => out[k]?) (r := .raw L) f2 hxs
              exact ⟨_, hrun, out.toList, by simp, by rw [Array.length_toList]; exact f3.symm.trans q2, RowRep.only (r := .ty _ xs) (fun k v _ hv => by simpa using hv) q1⟩
            · cases h; exact ⟨_, hrun, hraw⟩
          · cases h; exact ⟨_, hrun, hraw⟩
        · cases h
      · cases h
    · cases h
  · cases h
end
end Go.Proofs.Ytbdnhoddkdiogaa
