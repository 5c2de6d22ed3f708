/- AHI, part F: append, copy, make, literals, slices, elements are what the model does. -/
import Derived.Test.YtbdnhoddkdiogaaAhE
set_option linter.unusedSimpArgs false
set_option linter.unusedVariables false
namespace Go.Proofs.Ytbdnhoddkdiogaa
open Go.RowKit
section
variable {P : Program} {X : Nat → Prop} {σ : Sg} {s : St} {H : Hp} {a : Act} {w : World}
theorem tq_some {t : TypeId} {n by_ : Nat} {z : Option Nat} (h : tq P t = some (n, by_, z)) : ∃ i, P.info? t = some i ∧ i.size = n ∧ i.bytes = by_ ∧ i.zero.map (·.cells.size) = z := by
  obtain ⟨i, hi, he⟩ := Option.map_eq_some_iff.1 h
  simp only [Prod.mk.injEq] at he
  exact ⟨i, hi, he.1, he.2.1, he.2.2⟩
theorem rowRep_append {own : Nat → Prop} {r : Row} {l l' : List Value} (h : RowRep w own σ r (fun k => l[k]?)) : RowRep w own σ r (fun k => (l ++ l')[k]?) :=
  RowRep.only (fun k v hk hv => by rw [List.getElem?_append_left (List.getElem?_eq_some_iff.1 hv).1]; exact hv) h
/-- A new block with rows one behind the other, and zeros. -/
theorem grown (hh : HeapRep X σ H w) {H0 : Hp} (hk : HeapRep X σ H0 w ∧ Step σ H w σ H0 w) (hlen : H0.length = H.length) {p q r' : Row} {olds news : List Value} {n len m : Nat} {zc : Array Value} {e : TypeId} (C : Nat)
    (hp : RowRep w (own X σ H) σ p (fun k => olds[k]?)) (hps : p.size = len * n) (hol : olds.length = len * n) (hq : RowRep w (own X σ H) σ q (fun k => news[k]?)) (hqs : q.size = m * n) (hnl : news.length = m * n) (happ : p.app q = some r') (hz : zc.size = n) (hC : len + m ≤ C) (hC2 : C ≤ maxLen) :
    Post X σ H w (.c (.sl H.length 0 (len + m) n)) (H0 ++ [some r']) (.slice (some ⟨w.heap.size, 0, none⟩) (len + m) C) (w.drew.alloc (.cells ((olds ++ news).toArray ++ Builtin.zeroCells zc (C - (len + m))) e)) := by
  obtain ⟨k1, k2⟩ := hk
  obtain ⟨d1, d2⟩ := k1.drew
  have hall := k2.trans d2
  have hsz : ((olds ++ news).toArray ++ Builtin.zeroCells zc (C - (len + m))).size = C * n := by
    simp only [Array.size_append, List.size_toArray, size_zeroCells, hz, List.length_append, hol, hnl, ← Nat.add_mul]
    congr 1; omega
  have hrow : RowRep w.drew (own X σ H0) σ r' (fun k => ((olds ++ news).toArray ++ Builtin.zeroCells zc (C - (len + m)))[k]?) := by
    have hp' := hp.mono (keepsX hall.keeps) hall.ext (g' := fun k => olds[k]?) (fun _ _ h => h)
    have hq' := hq.mono (keepsX hall.keeps) hall.ext (g' := fun k => news[k]?) (fun _ _ h => h)
    refine RowRep.only (fun k v hk hv => ?_) (app_rep (g := fun k => (olds ++ news)[k]?) (rowRep_append hp') happ (RowRep.only (fun k v hk hv => by
      show (olds ++ news)[p.size + k]? = some v
      rw [List.getElem?_append_right (by omega), show p.size + k - olds.length = k by omega]; exact hv) hq')).1
    rw [Array.getElem?_append_left (by simpa using (List.getElem?_eq_some_iff.1 hv).1)]
    simpa using hv
  have hr's : r'.size = (len + m) * n := by
    have := (app_rep (g := fun k => (olds ++ news)[k]?) (rowRep_append hp) happ (RowRep.only (fun k v hk hv => by
      show (olds ++ news)[p.size + k]? = some v
      rw [List.getElem?_append_right (by omega), show p.size + k - olds.length = k by omega]; exact hv) hq)).2
    rw [this, hps, hqs, Nat.add_mul]
  obtain ⟨h3, h4⟩ := d1.alloc _ e r' (by rw [hsz, hr's]; exact Nat.mul_le_mul_right _ hC) hrow
  refine ⟨_, .inr ⟨w.heap.size, 0, C * n, C, ?_, by simp, hC, hC2, by simp⟩, h3, hall.trans h4⟩
  rw [← hlen, hsz]; exact upd_same _ _ _
theorem s_append (hh : HeapRep X σ H w) {t tx ty : TypeId} {x y r : AV} {H' : Hp} {u v : Value} (h : aappend P H t x y = some (r, H')) (hk : slOrStr P tx = true) (hstr : ∀ u, y = .c (.v (.string u)) → P.underlying tx = some .string)
    (hx : RepA w (own X σ H) σ x u) (hy : RepA w (own X σ H) σ y v) :
    ∃ v' w', (Builtin.append_ #[t, tx] ty #[u, v]).run P w = .ok v' w' ∧ Post X σ H w r H' v' w' := by
  unfold aappend at h
  split at h
  · rename_i el hu
    split at h
    · rename_i n by_ z hq
      obtain ⟨i, hi, hi1, hi2, hi3⟩ := tq_some hq
      split at h
      · rename_i h0
        obtain ⟨hn0, hby, rfl⟩ := h0
        obtain ⟨zv, hzv, hzs⟩ := Option.map_eq_some_iff.1 hi3
        split at h
        · rename_i m q hel
          obtain ⟨news, hsrc, hqr, hqs⟩ := elems_rep hh hel hk hy hstr
          have hnl := hsrc.newsLen
          subst hi1
          have fit : ∀ {need old : Nat}, old < need → need ≤ LIM → Builtin.nextslicecap need old * i.bytes ≤ 281474976710656 := fun {need old} h1 h2 => growslice_fits h1 (by
            rw [hi2]
            calc need * by_ ≤ LIM * 32768 := Nat.mul_le_mul h2 hby
              _ = 140737488355328 := by decide)
          have hl0 : ∀ (w' : World) (a : Option Addr), (Builtin.firstCells i.size 0 (.slice a 0 0)).run P w' = .ok #[] w' := fun w' a => by
            have hl : ∀ (x : Addr), (loadCells x 0).run P w' = .ok #[] w' := fun x => by simpa using run_loadCells_list (P := P) w' x [] (by simp)
            cases a <;> simp [Builtin.firstCells, hl]
          -- onto nothing
          have onto0 : ∀ (ao : Option Addr) (p r' : Row) (H0 : Hp), (HeapRep X σ H0 w ∧ Step σ H w σ H0 w) → H0.length = H.length → p.size = 0 → RowRep w (own X σ H) σ p (fun k => ([] : List Value)[k]?) → p.app q = some r' → m ≤ LIM →
              ∃ v' w', (Builtin.append_ #[t, tx] ty #[.slice ao 0 0, v]).run P w = .ok v' w' ∧ Post X σ H w (.c (.sl H.length 0 (0 + m) i.size)) (H0 ++ [some r']) v' w' := fun ao p r' H0 hk0 hlen hp0 hp happ hm => by
            rcases Nat.eq_zero_or_pos m with hm0 | hm0
            · subst hm0
              have hnews : news = [] := List.eq_nil_of_length_eq_zero (by omega)
              subst hnews
              refine ⟨_, _, run_append_nothing w t tx ty el i hu hi ao 0 0 (Nat.le_refl _) v hsrc, ?_⟩
              have hr's : r'.size = 0 := by
                have := (app_rep (g := fun k => ([] : List Value)[k]?) hp happ (RowRep.only (fun k v hk hv => by simp at hv) hqr)).2
                rw [this, hp0, hqs]; simp
              obtain ⟨k3, k4⟩ := hk0.1.nowhere r'
              exact ⟨σ, .inl ⟨rfl, _, rfl⟩, k3, hk0.2.trans k4⟩
            · refine ⟨_, _, run_append_grow_src w t tx ty el i zv hu hi hzv ao 0 0 [] (hl0 _ _) v m news hsrc (by omega) (by simp only [LIM] at hm; omega) (fit (by omega) (by omega)), ?_⟩
              exact grown hh hk0 hlen _ hp (by simp [hp0]) (by simp) hqr hqs hnl happ hzs (grownCap_ge _ _ _ _) (grownCap_le_maxLen _ _ _ _ (by simp only [LIM] at hm; simp only [maxLen]; omega))
          split at h
          · rename_i id o len e
            split at h
            · rename_i he; subst he
              split at h
              · rename_i q0 hq0
                split at h
                · rename_i p hp
                  split at h
                  · rename_i r' hr'
                    split at h
                    · rename_i hlim
                      cases h
                      rcases hx with ⟨rfl, ao, rfl⟩ | ⟨b, base, ext, c, hs, rfl, hlc, hc, hext⟩
                      · have hp0 : p.size = 0 ∧ RowRep w (own X σ H) σ p (fun k => ([] : List Value)[k]?) := by
                          cases q0 with
                          | raw l =>
                            simp only [Row.part] at hp
                            split at hp
                            · cases hp; exact ⟨by simp [Row.size], fun j c hc => by simp at hc⟩
                            · cases hp
                          | ty tt xs =>
                            simp only [Row.part] at hp
                            split at hp
                            · split at hp
                              · rename_i h0
                                cases hp
                                have : xs = [] := List.eq_nil_of_length_eq_zero h0.2.symm
                                subst this
                                exact ⟨by simp [Row.size], fun j c hc => by simp at hc⟩
                              · split at hp
                                · cases hp; exact ⟨by simp [Row.size], fun j c hc => by simp at hc⟩
                                · cases hp
                            · cases hp
                        exact onto0 ao p r' _ (hh.kill id) (by simp) hp0.1 hp0.2 hr' (by omega)
                      · rcases hh.row id q0 (hrow_some hq0) with h0 | ⟨b', base', ext', hs', hb, hle, hcell, hrow⟩
                        · rw [h0] at hs; cases hs
                        · rw [hs] at hs'; cases hs'
                          obtain ⟨p1, p2, p3⟩ := part_rep hrow hp
                          have p1' : RowRep w (own X σ H) σ p (fun k => w.cell? ⟨b, base + o * i.size + k, none⟩) := RowRep.only (fun k v _ hv => by rw [Nat.add_assoc]; exact hv) p1
                          by_cases hroom : len + m ≤ c
                          · have hext' : base + o * i.size + c * i.size ≤ ext := by rw [Nat.add_mul] at hext; omega
                            have hmc : (len + m) * i.size ≤ c * i.size := Nat.mul_le_mul_right _ hroom
                            rw [Nat.add_mul] at hmc
                            have hthere : ∀ j, j < news.length → (w.cell? ⟨b, base + o * i.size + len * i.size + j, none⟩).isSome = true ∧ w.frozen? ⟨b, base + o * i.size + len * i.size + j, none⟩ = false := fun j hj => hcell _ (by omega)
                            refine ⟨_, _, run_append_room_src w t tx ty el i hu hi b (base + o * i.size) len c v m news hsrc hroom (fun j hj => (hthere j hj).1) (fun j hj => (hthere j hj).2), ?_⟩
                            obtain ⟨w1, w2⟩ := hh.write (r' := .raw []) (hrow_some hq0) hs (base + o * i.size + len * i.size) news (by omega) (by simp [Row.size]; omega) (fun own' ho i c hc => by simp at hc)
                            have hid1 : (H.set id (some (.raw [])))[id]? = some (some (.raw [])) := List.getElem?_set_self (List.getElem?_eq_some_iff.1 (hrow_some hq0)).1
                            have hcell1 : ∀ k, (w.setCells b (base + o * i.size + len * i.size) news).cell? ⟨b, base + o * i.size + k, none⟩ = if len * i.size ≤ k ∧ k < len * i.size + news.length then news[k - len * i.size]? else w.cell? ⟨b, base + o * i.size + k, none⟩ := fun k => by
                              rw [setCells_cell b hthere]
                              by_cases hk : len * i.size ≤ k ∧ k < len * i.size + news.length
                              · rw [if_pos (by omega), if_pos hk]; congr 1; omega
                              · rw [if_neg (by omega), if_neg hk]
                            have happ := app_rep (g := fun k => (w.setCells b (base + o * i.size + len * i.size) news).cell? ⟨b, base + o * i.size + k, none⟩)
                              ((p1'.mono (keepsX w2.keeps) w2.ext (fun _ _ h => h)).only (fun k v hk hv => by show World.cell? _ _ = _; rw [hcell1, if_neg (by omega)]; exact hv)) hr'
                              ((hqr.mono (keepsX w2.keeps) w2.ext (fun _ _ h => h)).only (fun k v hk hv => by show World.cell? _ _ = _; rw [hcell1, if_pos (by omega), show p.size + k - len * i.size = k by omega]; exact hv))
                            obtain ⟨r1, r2⟩ := w1.rename (base' := base + o * i.size) hid1 hs (by rw [happ.2, p2, hqs]; omega) happ.1
                            rw [List.set_set] at r1 r2
                            simp only [List.length_set] at r1 r2
                            exact ⟨_, .inr ⟨b, base + o * i.size, ext, c, upd_same _ _ _, by simp, hroom, hc, by rw [Nat.zero_add]; omega⟩, r1, w2.trans r2⟩
                          · obtain ⟨olds, o1, o2, o3, o4⟩ := p1'.list
                            have hold := run_firstCells_some (P := P) w.drew i.size len ⟨b, base + o * i.size, none⟩ len c olds (o1.trans p2) (fun j v hv => by rw [add_addr]; exact o2 j v hv)
                            refine ⟨_, _, run_append_grow_src w t tx ty el i zv hu hi hzv _ len c olds hold v m news hsrc (by omega) (by simp only [LIM] at hlim; omega) (fit (by omega) hlim), ?_⟩
                            exact grown hh (hh.kill id) (by simp) _ o4 p2 (o1.trans p2) hqr hqs hnl hr' hzs (grownCap_ge _ _ _ _) (grownCap_le_maxLen _ _ _ _ (by simp only [LIM] at hlim; simp only [maxLen]; omega))
                    · cases h
                  · cases h
                · cases h
              · cases h
            · cases h
          · split at h
            · rename_i hlim
              cases h
              obtain ⟨rfl, -⟩ := hx
              have := onto0 none (.raw []) q H ⟨hh, Step.refl _ _ _⟩ rfl rfl (fun j c hc => by simp at hc) rfl hlim
              simpa using this
            · cases h
          · split at h
            · rename_i hlim
              cases h
              obtain ⟨ao, rfl⟩ := hx
              have := onto0 ao (.raw []) q H ⟨hh, Step.refl _ _ _⟩ rfl rfl (fun j c hc => by simp at hc) rfl hlim
              simpa using this
            · cases h
          · cases h
        · cases h
      · cases h
    · cases h
  · cases h
theorem tsz_some {t : TypeId} {n : Nat} (h : tsz P t = some n) : ∃ i, P.info? t = some i ∧ i.size = n := Option.map_eq_some_iff.1 h
theorem s_indexAddr {t : TypeId} {x ix r : AV} {u v : Value} {own : Nat → Prop} (h : aindexAddr P t x ix = some r) (hx : RepA w own σ x u) (hi : RepA w own σ ix v) : ∃ v', (Instr.indexAt t u v).run P w = .ok v' w ∧ RepA w own σ r v' := by
  have hint : ∀ n, natI ix = some n → ∃ k, v = .int k n := fun n hn => by
    unfold natI at hn
    split at hn
    · cases hn; obtain ⟨rfl, -⟩ := hi; exact ⟨_, rfl⟩
    · cases hn
  unfold aindexAddr at h
  split at h
  · rename_i el i hu hn
    obtain ⟨k, rfl⟩ := hint i hn
    split at h
    · rename_i n hsz
      obtain ⟨ti, hti, hts⟩ := tsz_some hsz
      split at h
      · rename_i id o len e
        split at h
        · rename_i hc
          cases h
          obtain ⟨rfl, h0, h1⟩ := hc
          rcases hx with ⟨h2, a, rfl⟩ | ⟨b, base, ext, c, hs, rfl, hlc, hcm, hext⟩
          · omega
          · refine ⟨.pointer (some ⟨b, base + o * e + i.toNat * e, none⟩), ?_, b, base, ext, hs, ?_⟩
            · simp [Instr.indexAt, asIntOf, Sem.run_bind, run_underlying hu, sizeOf, typeInfo, hti, hts, h0, h1, Addr.add_mid]
            · rw [Nat.add_zero, Nat.add_mul, Nat.add_assoc]
        · cases h
      · rename_i t' xs
        split at h
        · rename_i hc
          cases h
          obtain ⟨rfl, h0, h1⟩ := hc
          rcases hx with ⟨rfl, a, c, rfl⟩ | ⟨b, off, c, rfl, hlc, hcm, hb, hlt, hxs⟩
          · simp at h1; omega
          · refine ⟨.pointer (some ⟨b, off + i.toNat * t'.sz, none⟩), ?_, b, off, by rw [Nat.add_zero], hb, hlt, hxs⟩
            simp [Instr.indexAt, asIntOf, Sem.run_bind, run_underlying hu, sizeOf, typeInfo, hti, hts, h0, h1, Addr.add_mid]
        · cases h
      · cases h
    · cases h
  · rename_i m el i hu hn
    obtain ⟨k, rfl⟩ := hint i hn
    split at h
    · rename_i n hsz
      obtain ⟨ti, hti, hts⟩ := tsz_some hsz
      split at h
      · rename_i hc
        obtain ⟨h0, h1⟩ := hc
        split at h
        · rename_i id e j
          cases h
          obtain ⟨b, base, ext, hs, rfl⟩ := hx
          refine ⟨.pointer (some ⟨b, base + (0 * e + j) + i.toNat * n, none⟩), ?_, b, base, ext, hs, ?_⟩
          · simp [Instr.indexAt, asIntOf, Sem.run_bind, run_underlying hu, sizeOf, typeInfo, hti, hts, h0, h1, Addr.add_mid, Instr.sureAddr]
          · rw [Nat.zero_mul, Nat.zero_add, Nat.add_assoc, Nat.add_comm j]
        · rename_i t' xs i' j
          cases h
          obtain ⟨b, off, rfl, hb, hlt, hxs⟩ := hx
          refine ⟨.pointer (some ⟨b, off + (i' * t'.sz + j) + i.toNat * n, none⟩), ?_, b, off, ?_, hb, hlt, hxs⟩
          · simp [Instr.indexAt, asIntOf, Sem.run_bind, run_underlying hu, sizeOf, typeInfo, hti, hts, h0, h1, Addr.add_mid, Instr.sureAddr]
          · rw [Nat.add_assoc, Nat.add_assoc]
        · cases h
      · cases h
    · cases h
  · cases h
theorem fo_some {t : TypeId} {f off : Nat} {ft : TypeId} (h : fo P t f = some (off, ft)) : ∃ fs fd, P.underlying t = some (.struct fs) ∧ fs[f]? = some fd ∧ fd.offset = off ∧ fd.type = ft := by
  unfold fo at h
  split at h
  · rename_i fs hu
    obtain ⟨fd, hf, he⟩ := Option.map_eq_some_iff.1 h
    simp only [Prod.mk.injEq] at he
    exact ⟨fs, fd, hu, hf, he.1, he.2⟩
  · cases h
theorem s_fieldAddr {t : TypeId} {x r : AV} {f : Nat} {u : Value} {own : Nat → Prop} (h : afieldAddr P t x f = some r) (hx : RepA w own σ x u) : ∃ v', (Instr.fieldAt t u f).run P w = .ok v' w ∧ RepA w own σ r v' := by
  unfold afieldAddr at h
  split at h
  · rename_i off ft hfo
    obtain ⟨fs, fd, hu, hf, rfl, rfl⟩ := fo_some hfo
    split at h
    · cases h
    · rename_i hz
      have ⟨ti, hti, hts⟩ : ∃ ti, P.info? fd.type = some ti ∧ ¬ ti.size = 0 := by
        cases hq : P.info? fd.type with
        | none => simp [tsz, hq] at hz
        | some ti => exact ⟨ti, rfl, by simpa [tsz, hq] using hz⟩
      have go : ∀ b o, (Instr.fieldAt t (.pointer (some ⟨b, o, none⟩)) f).run P w = .ok (.pointer (some ⟨b, o + fd.offset, none⟩)) w := fun b o => by
        simp [Instr.fieldAt, Sem.run_bind, run_underlying hu, hf, Instr.sureAddr, fieldPlace, sizeOf, typeInfo, hti, hts, Addr.add_mid]
      split at h
      · cases h
        obtain ⟨b, base, ext, hs, rfl⟩ := hx
        exact ⟨_, go _ _, b, base, ext, hs, by rw [Nat.add_assoc, Nat.add_assoc]⟩
      · cases h
        obtain ⟨b, o, rfl, hb, hlt, hxs⟩ := hx
        exact ⟨_, go _ _, b, o, by rw [Nat.add_assoc, Nat.add_assoc], hb, hlt, hxs⟩
      · cases h
  · cases h
/-- A part of a value. -/
theorem run_part_agg {own : Nat → Prop} {t : TypeId} {r : Row} {x : AV} {vs : List Value} {i e off : Nat} (h : apart P t r i e off = some x) (hr : RowRep w own σ r (fun k => vs[k]?)) (hvl : vs.length = r.size) :
    ∃ v, (part t vs.toArray (i * e + off)).run P w = .ok v w ∧ RepA w own σ x v := by
  unfold apart at h
  split at h
  · rename_i d hu
    split at h
    · rename_i hd
      have ha : (isAgg t).run P w = .ok true w := by
        unfold isAgg
        rw [Sem.run_bind, run_underlying hu w]
        cases d <;> simp_all [isRowT]
      split at h
      · rename_i n hn
        obtain ⟨ti, hti, hts⟩ := tsz_some hn
        obtain ⟨r', hr', rfl⟩ := Option.map_eq_some_iff.1 h
        obtain ⟨h1, h2, h3⟩ := sub_rep hr hr'
        refine ⟨.agg ((vs.drop (i * e + off)).take n).toArray, ?_, _, rfl, ?_, RowRep.only (fun k v hk hv => ?_) h1⟩
        · simp [part, Sem.run_bind, ha, sizeOf, typeInfo, hti, hts]
        · rw [List.length_take, List.length_drop, h2]; omega
        · rw [List.getElem?_take, if_pos (by omega), List.getElem?_drop]; exact hv
      · cases h
    · rename_i hd
      have ha : (isAgg t).run P w = .ok false w := by
        unfold isAgg
        rw [Sem.run_bind, run_underlying hu w]
        cases d <;> simp_all [isRowT]
      obtain ⟨c, hc, rfl⟩ := Option.map_eq_some_iff.1 h
      obtain ⟨v, h1, h2⟩ := at_rep hr hc
      have h1' : vs[i * e + off]? = some v := h1
      exact ⟨v, by simp [part, Sem.run_bind, ha, h1'], h2⟩
  · cases h
theorem s_field {t : TypeId} {x r : AV} {f : Nat} {u : Value} {own : Nat → Prop} (h : afield P t x f = some r) (hx : RepA w own σ x u) : ∃ v', (Instr.field t u f).run P w = .ok v' w ∧ RepA w own σ r v' := by
  unfold afield at h
  split at h
  · rename_i off ft t' y hfo
    obtain ⟨fs, fd, hu, hf, rfl, rfl⟩ := fo_some hfo
    obtain ⟨vs, rfl, h1, h2⟩ := hx
    obtain ⟨v, h3, h4⟩ := run_part_agg h h2 h1
    refine ⟨v, ?_, h4⟩
    rw [Nat.zero_mul, Nat.zero_add] at h3
    simp [Instr.field, Sem.run_bind, run_underlying hu, hf, asAgg, h3]
  · rename_i off ft l hfo
    obtain ⟨fs, fd, hu, hf, rfl, rfl⟩ := fo_some hfo
    obtain ⟨vs, rfl, h1, h2⟩ := hx
    obtain ⟨v, h3, h4⟩ := run_part_agg h h2 h1
    refine ⟨v, ?_, h4⟩
    rw [Nat.zero_mul, Nat.zero_add] at h3
    simp [Instr.field, Sem.run_bind, run_underlying hu, hf, asAgg, h3]
  · cases h
theorem s_index {t : TypeId} {x ix r : AV} {u v : Value} {own : Nat → Prop} (h : aindex P t x ix = some r) (hx : RepA w own σ x u) (hi : RepA w own σ ix v) : ∃ v', (Instr.index t u v).run P w = .ok v' w ∧ RepA w own σ r v' := by
  have hint : ∀ n, natI ix = some n → ∃ k, v = .int k n := fun n hn => by
    unfold natI at hn
    split at hn
    · cases hn; obtain ⟨rfl, -⟩ := hi; exact ⟨_, rfl⟩
    · cases hn
  unfold aindex at h
  split at h
  · rename_i m el i q hu hn
    obtain ⟨k, rfl⟩ := hint i hn
    split at h
    · rename_i n hsz
      obtain ⟨ti, hti, hts⟩ := tsz_some hsz
      split at h
      · rename_i hc
        obtain ⟨vs, rfl, h1, h2⟩ := hx
        obtain ⟨v, h3, h4⟩ := run_part_agg h h2 h1
        rw [Nat.add_zero] at h3
        exact ⟨v, by simp [Instr.index, asIntOf, Sem.run_bind, run_underlying hu, hc.1, hc.2, sizeOf, typeInfo, hti, hts, h3], h4⟩
      · cases h
    · cases h
  · rename_i i q hu hn
    obtain ⟨k, rfl⟩ := hint i hn
    split at h
    · rename_i h0
      split at h
      · rename_i b hb
        cases h
        obtain ⟨rfl, -⟩ := hx
        exact ⟨.int .u8 b.toNat, by simp [Instr.index, asIntOf, Sem.run_bind, run_underlying hu, h0, hb], rfl, rfl⟩
      · cases h
    · cases h
  · cases h
/-- A value that may be lacking. -/
def ORep (w : World) (own : Nat → Prop) (σ : Sg) : Option AV → Option Value → Prop
  | none, none => True | some x, some v => RepA w own σ x v | _, _ => False
theorem run_bound {own : Nat → Prop} {x : AV} {v : Value} {d n y : Nat} {code : BoundsCode} (hx : RepA w own σ x v) (h : bound d (some x) = some n) (hle : n ≤ y) : (Instr.sliceBound v y code).run P w = .ok n w := by
  simp only [bound] at h
  split at h
  · rename_i i hi
    unfold natI at hi
    split at hi
    · cases hi
      obtain ⟨rfl, -⟩ := hx
      split at h
      · rename_i h0
        cases h
        have : i ≤ (y : Int) := by omega
        simp [Instr.sliceBound, asIntOf, Sem.run_bind, h0, this]
      · cases h
    · cases hi
  · cases h
theorem run_bounds {own : Nat → Prop} {lo hi : Option AV} {u v : Option Value} {b : Bool} {len cap l h : Nat} (hu : ORep w own σ lo u) (hv : ORep w own σ hi v) (h1 : bound 0 lo = some l) (h2 : bound len hi = some h) (hlh : l ≤ h) (hl : h ≤ len) (hc : len ≤ cap) :
    (Instr.sliceBounds b len cap u v none).run P w = .ok (l, h, cap) w := by
  unfold Instr.sliceBounds
  cases lo with
  | none =>
    cases u with
    | some _ => exact hu.elim
    | none =>
      simp only [bound, Option.some.injEq] at h1; subst h1
      cases hi with
      | none =>
        cases v with
        | some _ => exact hv.elim
        | none => simp only [bound, Option.some.injEq] at h2; subst h2; simp [Sem.run_bind]
      | some x =>
        cases v with
        | none => exact hv.elim
        | some y => simp [Sem.run_bind, run_bound (P := P) (y := cap) hv h2 (by omega)]
  | some z =>
    cases u with
    | none => exact hu.elim
    | some u =>
      cases hi with
      | none =>
        cases v with
        | some _ => exact hv.elim
        | none => simp only [bound, Option.some.injEq] at h2; subst h2; simp [Sem.run_bind, run_bound (P := P) hu h1 hlh]
      | some x =>
        cases v with
        | none => exact hv.elim
        | some y => simp [Sem.run_bind, run_bound (P := P) (y := cap) hv h2 (by omega), run_bound (P := P) hu h1 hlh]
theorem alen_rep {own : Nat → Prop} {H0 : Hp} {x : AV} {u : Value} {len : Nat} (h : alen H0 x = some len) (hx : RepA w own σ x u) : (∃ a c, u = .slice a len c ∧ len ≤ c) ∨ ∃ t, u = .string t ∧ x = .c (.v (.string t)) := by
  unfold alen at h
  split at h
  · cases h
    rcases hx with ⟨rfl, a, rfl⟩ | ⟨b, base, ext, c, hs, rfl, hlc, -⟩
    · exact .inl ⟨_, _, rfl, Nat.le_refl _⟩
    · exact .inl ⟨_, _, rfl, hlc⟩
  · cases h
    rcases hx with ⟨rfl, a, c, rfl⟩ | ⟨b, off, c, rfl, hlc, -⟩
    · exact .inl ⟨_, _, rfl, Nat.zero_le _⟩
    · exact .inl ⟨_, _, rfl, hlc⟩
  · cases h; obtain ⟨rfl, -⟩ := hx; exact .inl ⟨_, _, rfl, Nat.le_refl _⟩
  · cases h; obtain ⟨a, rfl⟩ := hx; exact .inl ⟨_, _, rfl, Nat.le_refl _⟩
  · cases h; obtain ⟨rfl, -⟩ := hx; exact .inr ⟨_, rfl, rfl⟩
  · cases h
theorem alenS_rep {own : Nat → Prop} {x : AV} {u : Value} {len : Nat} (h : alenS x = some len) (hx : RepA w own σ x u) : ∃ a c, u = .slice a len c ∧ len ≤ c := by
  unfold alenS at h
  split at h
  · cases h
    rcases hx with ⟨rfl, a, rfl⟩ | ⟨b, base, ext, c, hs, rfl, hlc, -⟩
    · exact ⟨_, _, rfl, Nat.le_refl _⟩
    · exact ⟨_, _, rfl, hlc⟩
  · cases h
    rcases hx with ⟨rfl, a, c, rfl⟩ | ⟨b, off, c, rfl, hlc, -⟩
    · exact ⟨_, _, rfl, Nat.zero_le _⟩
    · exact ⟨_, _, rfl, hlc⟩
  · cases h; obtain ⟨rfl, -⟩ := hx; exact ⟨_, _, rfl, Nat.le_refl _⟩
  · cases h; obtain ⟨a, rfl⟩ := hx; exact ⟨_, _, rfl, Nat.le_refl _⟩
  · cases h
theorem s_slice (hh : HeapRep X σ H w) {t : TypeId} {x r : AV} {lo hi : Option AV} {u : Value} {v1 v2 : Option Value} (h : aslice P H t x lo hi = some r) (hx : RepA w (own X σ H) σ x u) (hlo : ORep w (own X σ H) σ lo v1) (hhi : ORep w (own X σ H) σ hi v2) :
    ∃ v', (Instr.sliceAt t u v1 v2 none).run P w = .ok v' w ∧ RepA w (own X σ H) σ r v' := by
  unfold aslice at h
  split at h
  · rename_i m el hu
    split at h
    · rename_i n l hb hsz h1 h2
      obtain ⟨ti, hti, hts⟩ := tsz_some hsz
      split at h
      · rename_i hc
        obtain ⟨c1, c2, c3⟩ := hc
        split at h
        · rename_i id e
          split at h
          · rename_i q hq
            split at h
            · rename_i hqs
              cases h
              obtain ⟨b, base, ext, hs, rfl⟩ := hx
              rcases hh.row id q (hrow_some hq) with h0 | ⟨b', base', ext', hs', hb', hle, hcell, hrow⟩
              · rw [h0] at hs; cases hs
              · rw [hs] at hs'; cases hs'
                have hrb := run_bounds (P := P) (b := false) (cap := m) hlo hhi h1 h2 c1 c2 (Nat.le_refl _)
                refine ⟨.slice (some (if m = l then ⟨b, base + (0 * e + 0), none⟩ else ⟨b, base + (0 * e + 0) + l * n, none⟩)) (hb - l) (m - l), ?_, ?_⟩
                · simp [Instr.sliceAt, Instr.sureAddr, Sem.run_bind, run_underlying hu, hrb, sizeOf, typeInfo, hti, hts, Addr.add_mid]
                · by_cases hml : m = l
                  · left
                    exact ⟨by omega, _, by rw [if_pos hml, show hb - l = 0 by omega, show m - l = 0 by omega]⟩
                  · right
                    rw [if_neg hml]
                    refine ⟨b, base, ext, m - l, hs, by simp, by omega, by simp only [LIM] at c3; simp only [maxLen]; omega, ?_⟩
                    rw [show l + (m - l) = m by omega]; omega
            · cases h
          · cases h
        · cases h
      · cases h
    · cases h
  · rename_i el hu
    split at h
    · rename_i n len hsz hal
      obtain ⟨ti, hti, hts⟩ := tsz_some hsz
      split at h
      · rename_i l hb h1 h2
        split at h
        · rename_i hc
          obtain ⟨c1, c2⟩ := hc
          have go : ∀ ao cap, len ≤ cap → (Instr.sliceAt t (.slice ao len cap) v1 v2 none).run P w = .ok (.slice (if cap = l then ao else ao.map (·.add (l * n))) (hb - l) (cap - l)) w := fun ao cap hcap => by
            have hrb := run_bounds (P := P) (b := true) (cap := cap) hlo hhi h1 h2 c1 c2 hcap
            simp [Instr.sliceAt, Instr.slice, Sem.run_bind, run_underlying hu, hrb, sizeOf, typeInfo, hti, hts]
          split at h
          · rename_i id o len' e
            split at h
            · rename_i he; subst he
              cases h
              cases hal
              rcases hx with ⟨h0, ao, rfl⟩ | ⟨b, base, ext, c, hs, rfl, hlc, hcm, hext⟩
              · subst h0
                refine ⟨_, go ao 0 (Nat.le_refl _), .inl ⟨by omega, ao, ?_⟩⟩
                rw [if_pos (by omega), show hb - l = 0 by omega, Nat.zero_sub]
              · refine ⟨_, go _ c hlc, ?_⟩
                by_cases hml : c = l
                · left
                  exact ⟨by omega, _, by rw [if_pos hml, show hb - l = 0 by omega, show c - l = 0 by omega]⟩
                · right
                  rw [if_neg hml]
                  refine ⟨b, base, ext, c - l, hs, by simp [Addr.add_mid, Nat.add_mul, Nat.add_assoc], by omega, by omega, ?_⟩
                  rw [show o + l + (c - l) = o + c by omega]; exact hext
            · cases h
          · rename_i t' xs
            split at h
            · rename_i he; subst he
              cases h
              cases hal
              rcases hx with ⟨rfl, ao, c, rfl⟩ | ⟨b, off, c, rfl, hlc, hcm, hbo, hlt, hxs⟩
              · have e0 : hb - l = 0 := by simp at c2; omega
                exact ⟨_, go ao c (Nat.zero_le _), .inl ⟨by simp, (if c = l then ao else ao.map (·.add (l * t'.sz))), c - l, by rw [e0]⟩⟩
              · refine ⟨_, go _ c hlc, ?_⟩
                by_cases hml : c = l
                · left
                  exact ⟨by simp; omega, _, _, by rw [if_pos hml, show hb - l = 0 by omega, show c - l = 0 by omega]⟩
                · right
                  rw [if_neg hml]
                  have hlen : ((xs.drop l).take (hb - l)).length = hb - l := by rw [List.length_take, List.length_drop]; omega
                  refine ⟨b, off + l * t'.sz, c - l, by simp [Addr.add_mid, hlen], by omega, by omega, hbo, hlt, fun i x hi => ?_⟩
                  rw [List.getElem?_take] at hi
                  split at hi
                  · rw [List.getElem?_drop] at hi
                    refine RepD.cells (fun j v hv => ?_) (hxs _ x hi)
                    rw [show off + l * t'.sz + i * t'.sz + j = off + (l + i) * t'.sz + j by rw [Nat.add_mul]; omega]; exact hv
                  · cases hi
            · cases h
          · cases h
            cases hal
            obtain ⟨rfl, -⟩ := hx
            refine ⟨_, go none 0 (Nat.le_refl _), ?_⟩
            rw [show hb - l = 0 by omega, Nat.zero_sub]
            exact ⟨by split <;> rfl, rfl⟩
          · cases h
            cases hal
            obtain ⟨ao, rfl⟩ := hx
            refine ⟨_, go ao 0 (Nat.le_refl _), ao, ?_⟩
            rw [if_pos (by omega), show hb - l = 0 by omega, Nat.zero_sub]
          · cases h
        · cases h
      · cases h
    · cases h
  · rename_i hu
    split at h
    · rename_i q
      split at h
      · rename_i l hb h1 h2
        split at h
        · rename_i hc
          cases h
          obtain ⟨rfl, -⟩ := hx
          have hrb := run_bounds (P := P) (b := false) (cap := q.size) hlo hhi h1 h2 hc.1 hc.2 (Nat.le_refl _)
          exact ⟨.string (q.extract l hb), by simp [Instr.sliceAt, Instr.slice, Sem.run_bind, run_underlying hu, hrb], rfl, rfl⟩
        · cases h
      · cases h
    · cases h
  · cases h
theorem s_make (hh : HeapRep X σ H w) {t : TypeId} {l c r : AV} {u v : Value} {H' : Hp} (h : amake P H t l c = some (r, H')) (hl : RepA w (own X σ H) σ l u) (hc : RepA w (own X σ H) σ c v) :
    ∃ v' w', (Instr.makeSlice t u v).run P w = .ok v' w' ∧ Post X σ H w r H' v' w' := by
  have hint : ∀ {x : AV} {u : Value} n, natI x = some n → RepA w (own X σ H) σ x u → ∃ k, u = .int k n := fun n hn hi => by
    unfold natI at hn
    split at hn
    · cases hn; obtain ⟨rfl, -⟩ := hi; exact ⟨_, rfl⟩
    · cases hn
  unfold amake at h
  split at h
  · rename_i el a b hu ha hb
    obtain ⟨k1, rfl⟩ := hint a ha hl
    obtain ⟨k2, rfl⟩ := hint b hb hc
    split at h
    · rename_i n by_ z hq
      obtain ⟨i, hi, rfl, rfl, hzz⟩ := tq_some hq
      split at h
      · rename_i hcond
        obtain ⟨c0, c1, c2, c3, c4, rfl⟩ := hcond
        obtain ⟨zv, hzv, hzs⟩ := Option.map_eq_some_iff.1 hzz
        split at h
        · rename_i zr hzr
          split at h
          · rename_i k hk
            split at h
            · rename_i y hy
              cases h
              obtain ⟨i', z', hi', hz', hr1, hr2⟩ := zrow_rep (σ := σ) (own := own X σ H) (w := w) hzr
              rw [hi] at hi'; cases hi'
              rw [hzv] at hz'; cases hz'
              obtain ⟨hy1, hy2⟩ := rowOne_rep hr1 hy
              have hks : k.sz = i.size := by omega
              have hb2 : (i.bytes : Int) * b ≤ 281474976710656 := by
                have : (i.bytes : Int) * b ≤ 32768 * 4294967296 := Int.mul_le_mul (by omega) (by simp only [LIM] at c2; omega) (by omega) (by omega)
                omega
              obtain ⟨h3, h4⟩ := hh.alloc (madeCells zv.cells (b.toNat * i.size)) el (.ty k (List.replicate b.toNat y)) (by rw [size_madeCells]; simp [Row.size, hks]) (fun j x hj => by
                rw [List.getElem?_replicate] at hj
                split at hj
                · cases hj
                  rename_i hjb
                  refine RepD.only (fun m v hm hv => ?_) hy1
                  have hlt : j * k.sz + m < b.toNat * i.size := by rw [← hks]; exact mul_add_lt hjb hm
                  have hmm : (j * k.sz + m) % zv.cells.size = m := by rw [hzs, ← hks, Nat.mul_comm, Nat.mul_add_mod]; exact Nat.mod_eq_of_lt hm
                  show (madeCells zv.cells (b.toNat * i.size))[j * k.sz + m]? = some v
                  unfold madeCells
                  rw [Array.getElem?_map, Array.getElem?_range, if_pos hlt, Option.map_some, hmm]
                  have hmz : m < zv.cells.size := by omega
                  rw [Array.getElem?_eq_getElem hmz] at hv
                  rw [getElem!_pos zv.cells m hmz]; exact hv
                · cases hj)
              refine ⟨_, _, run_make w t el i zv hu hi hzv k1 k2 a b c0 c1 hb2 (by simp only [LIM] at c2; omega), _, .inr ⟨w.heap.size, 0, _, b.toNat, upd_same _ _ _, by simp, by omega, by simp only [LIM] at c2; simp only [maxLen]; omega, by rw [size_madeCells]; simp⟩, h3, h4⟩
            · cases h
          · cases h
        · cases h
      · cases h
    · cases h
  · cases h
theorem s_slice3 (hh : HeapRep X σ H w) {t : TypeId} {x r : AV} {lo hi mx : Option AV} {u : Value} {v1 v2 v3 : Option Value} (h : aslice3 P t x lo hi mx = some r) (hx : RepA w (own X σ H) σ x u) (hlo : ORep w (own X σ H) σ lo v1) (hhi : ORep w (own X σ H) σ hi v2) (hmx : ORep w (own X σ H) σ mx v3) :
    ∃ v', (Instr.sliceAt t u v1 v2 v3).run P w = .ok v' w ∧ RepA w (own X σ H) σ r v' := by
  unfold aslice3 at h
  split at h
  · rename_i el hu
    split at h
    · rename_i n len hsz hal
      obtain ⟨ti, hti, hts⟩ := tsz_some hsz
      split at h
      · rename_i l hb m h1 h2 h3
        split at h
        · rename_i hc
          obtain ⟨c1, c2, c3⟩ := hc
          have bds : hi.isSome = true → mx.isSome = true → ∀ ao cap, len ≤ cap → (Instr.sliceAt t (.slice ao len cap) v1 v2 v3).run P w = .ok (.slice (if m = l then ao else ao.map (·.add (l * n))) (hb - l) (m - l)) w := fun e1 e2 ao cap hcap => by
            obtain ⟨xh, rfl⟩ := Option.isSome_iff_exists.1 e1
            obtain ⟨xm, rfl⟩ := Option.isSome_iff_exists.1 e2
            cases v2 with
            | none => exact hhi.elim
            | some v2 =>
              cases v3 with
              | none => exact hmx.elim
              | some v3 =>
                have hh2 : bound len (some xh) = some hb := h2
                have r2 := fun y code (hy : hb ≤ y) => run_bound (P := P) (y := y) (code := code) (w := w) hhi h2 hy
                have r3 := fun y code (hy : m ≤ y) => run_bound (P := P) (y := y) (code := code) (w := w) hmx h3 hy
                cases lo with
                | none =>
                  cases v1 with
                  | some _ => exact hlo.elim
                  | none =>
                    simp only [bound, Option.some.injEq] at h1; subst h1
                    simp [Instr.sliceAt, Instr.slice, Instr.sliceBounds, Sem.run_bind, run_underlying hu, r3 cap .slice3Acap (by omega), r2 m .slice3B c2, sizeOf, typeInfo, hti, hts]
                | some z =>
                  cases v1 with
                  | none => exact hlo.elim
                  | some v1 =>
                    simp [Instr.sliceAt, Instr.slice, Instr.sliceBounds, Sem.run_bind, run_underlying hu, r3 cap .slice3Acap (by omega), r2 m .slice3B c2, run_bound (P := P) (w := w) (code := .slice3C) hlo h1 c1, sizeOf, typeInfo, hti, hts]
          split at h
          · rename_i hlm
            split at h
            · rename_i hs
              cases h
              obtain ⟨ao, c, rfl, hc'⟩ := alenS_rep hal hx
              refine ⟨_, bds hs.1 hs.2 ao c hc', ao, ?_⟩
              rw [if_pos hlm.symm, show hb - l = 0 by omega, show m - l = 0 by omega]
            · cases h
          · rename_i hlm
            split at h
            · rename_i id o len' e
              split at h
              · rename_i hs
                obtain ⟨rfl, hs1, hs2⟩ := hs
                cases h
                cases hal
                rcases hx with ⟨h0, ao, rfl⟩ | ⟨b, base, ext, c, hs, rfl, hlc, hcm, hext⟩
                · omega
                · refine ⟨_, bds hs1 hs2 _ c hlc, .inr ?_⟩
                  rw [if_neg (fun h => hlm h.symm)]
                  refine ⟨b, base, ext, m - l, hs, by simp [Addr.add_mid, Nat.add_mul, Nat.add_assoc], by omega, by omega, ?_⟩
                  have : (o + l + (m - l)) * e ≤ (o + c) * e := Nat.mul_le_mul_right _ (by omega)
                  omega
              · cases h
            · cases h
        · cases h
      · cases h
    · cases h
  · cases h
/-! ### Literals -/
theorem LRep.mono {own own' : Nat → Prop} {w' : World} {σ' : Sg} {l : List CV} {g g' : Cells} (hk : Keeps w own w' own') (hs : ∀ id x, σ id = some x → σ' id = some x) (hg : ∀ j v, g j = some v → g' j = some v) (h : LRep w own σ l g) : LRep w' own' σ' l g' :=
  fun i c hc => by obtain ⟨v, h1, h2⟩ := h i c hc; exact ⟨v, hg _ _ h1, h2.mono hk hs⟩
theorem LRep.cells {own : Nat → Prop} {l : List CV} {g g' : Cells} (hg : ∀ j v, j < l.length → g j = some v → g' j = some v) (h : LRep w own σ l g) : LRep w own σ l g' :=
  fun i c hc => by obtain ⟨v, h1, h2⟩ := h i c hc; exact ⟨v, hg _ _ (List.getElem?_eq_some_iff.1 hc).1 h1, h2⟩
theorem LRep.flat {own : Nat → Prop} {α : Type} {f : α → List CV} {n : Nat} : ∀ {xs : List α} {g : Cells}, (∀ (i : Nat) x, xs[i]? = some x → (f x).length = n ∧ LRep w own σ (f x) (fun j => g (i * n + j))) → LRep w own σ (xs.flatMap f) g ∧ (xs.flatMap f).length = xs.length * n
  | [], g, h => ⟨fun i c hc => by simp at hc, by simp⟩
  | x :: xs, g, h => by
    obtain ⟨h1, h2⟩ := h 0 x rfl
    obtain ⟨h3, h4⟩ := LRep.flat (xs := xs) (g := fun j => g (n + j)) (fun i y hy => by
      obtain ⟨e1, e2⟩ := h (i + 1) y (by simpa using hy)
      exact ⟨e1, e2.cells (fun j v _ hv => by show g (n + (i * n + j)) = _; rw [Nat.add_mul, Nat.one_mul] at hv; rw [← Nat.add_assoc, Nat.add_comm n]; exact hv)⟩)
    rw [List.flatMap_cons]
    exact ⟨LRep.append (h2.cells (fun j v _ hv => by simpa using hv)) (by rw [h1]; exact h3), by rw [List.length_append, h1, h4, List.length_cons, Nat.add_mul]; omega⟩
theorem encL_rep {own : Nat → Prop} : ∀ {t : Ty} {x : t.D} {g : Cells}, RepD w own t x g → (encL t x).length = t.sz ∧ LRep w own σ (encL t x) g
  | .i k, n, g, h => ⟨rfl, fun i c hc => by cases i with | zero => cases hc; exact ⟨_, h, rfl, rfl⟩ | succ i => simp [encL] at hc⟩
  | .bo, n, g, h => ⟨rfl, fun i c hc => by cases i with | zero => cases hc; exact ⟨_, h, rfl, rfl⟩ | succ i => simp [encL] at hc⟩
  | .st, n, g, h => ⟨rfl, fun i c hc => by cases i with | zero => cases hc; exact ⟨_, h, rfl, rfl⟩ | succ i => simp [encL] at hc⟩
  | .f k, n, g, h => ⟨rfl, fun i c hc => by cases i with | zero => cases hc; exact ⟨_, h, rfl, rfl⟩ | succ i => simp [encL] at hc⟩
  | .sl e, n, g, h => ⟨rfl, fun i c hc => by cases i with | zero => cases hc; exact h | succ i => simp [encL] at hc⟩
  | .pr a b, x, g, h => by
    obtain ⟨h1, h2⟩ := encL_rep h.1
    obtain ⟨h3, h4⟩ := encL_rep h.2
    exact ⟨by simp only [encL, List.length_append, h1, h3, Ty.sz], LRep.append h2 (by rw [h1]; exact h4)⟩
  | .ar n e, xs, g, h => by
    obtain ⟨h1, h2⟩ := LRep.flat (n := e.sz) (f := encL e) (g := g) (fun i x hx => encL_rep (h.2 i x hx))
    exact ⟨by rw [show encL (.ar n e) xs = xs.flatMap (encL e) from rfl, h2, h.1]; rfl, h1⟩
theorem cells_rep {own : Nat → Prop} {r : Row} {g : Cells} (h : RowRep w own σ r g) : r.cells.length = r.size ∧ LRep w own σ r.cells g := by
  cases r with
  | raw l => exact ⟨rfl, h⟩
  | ty t xs =>
    obtain ⟨h1, h2⟩ := LRep.flat (n := t.sz) (f := encL t) (g := g) (fun i x hx => encL_rep (h i x hx))
    exact ⟨h2, h1⟩
theorem av_cells {own : Nat → Prop} {x : AV} {v : Value} (hx : Rep1 w own σ x v) : LRep w own σ (AV.cells [x]) (fun k => v.cells[k]?) ∧ (AV.cells [x]).length = v.cells.size := by
  cases x with
  | c c =>
    have h1 := row_rep (x := .c c) rfl hx
    exact ⟨h1.1, h1.2⟩
  | agg r =>
    have h1 := row_rep (x := .agg r) rfl hx
    have h2 := cells_rep h1.1
    exact ⟨by simpa [AV.cells] using h2.2, by simp only [AV.cells, List.append_nil]; rw [h2.1, h1.2]⟩
  | tup l => exact hx.elim
theorem one_rep1 {own : Nat → Prop} {t : Ty} {x : AV} {y : t.D} {v : Value} (h : AV.one t x = some y) (hx : RepA w own σ x v) : RepD w own t y (fun k => v.cells[k]?) ∧ v.cells.size = t.sz := by
  cases x with
  | c c =>
    have h1 := row_rep (x := .c c) rfl hx
    simp only [AV.one] at h
    split at h
    · rename_i hs
      obtain ⟨u, h2, h3⟩ := h1.1 0 c rfl
      exact ⟨leaf_rep h h3 h2, by rw [hs, ← h1.2]; rfl⟩
    · cases h
  | agg r =>
    have h1 := row_rep (x := .agg r) rfl hx
    obtain ⟨h2, h3⟩ := rowOne_rep h1.1 h
    exact ⟨h2, by rw [← h1.2, h3]⟩
  | tup l => cases h
end
end Go.Proofs.Ytbdnhoddkdiogaa
