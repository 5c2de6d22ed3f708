/- What comes in, opened: an array of bytes; a slice of bytes. No program in sight. -/
import Derived.OpenShut
import Derived.SizedLaws
import Derived.Test.YtbdnhoddkdiogaaShB
set_option linter.unusedSimpArgs false
set_option linter.unusedVariables false
namespace Go.Proofs.Ytbdnhoddkdiogaa
open Go.RowKit Go.ChangeShapes Go.WideShapes

section
variable {H : Type} {enc : TypeId × Value → H} {P : Program} {w : World} {base : Nat} {spare : Nat → Bool} {held : Bool}

/-- An array of bytes. -/
theorem open_digest {r : Reach} {b0 : Nat} {t e : TypeId} {n : Nat} {v : Value} {d : DataW H} {ps : List MemPlace} (ht : P.underlying t = some (.array n e)) (he : P.underlying e = some (.int .u8)) (hc : P.cellsOf e = 1) (hct : P.cellsOf t = n)
    (hval : Value.okWide P w r b0 t v) (h : DataW.Trod enc P w base spare held t v d ps) : ∃ xs : List Int, v = .agg (Sha.bytes xs) ∧ xs.length = n ∧ ∀ x ∈ xs, 0 ≤ x ∧ x < 256 := by
  simp only [Value.okWide, ht] at hval
  obtain ⟨cs, rfl, hsz, _⟩ := hval
  obtain ⟨fuel, hf⟩ := h
  obtain ⟨ys, m, _, _, hl, hn, hel⟩ := DataW.trod_array ht hf
  have each : ∀ i, i < n → ∃ z, cs[i]? = some (.int .u8 z) ∧ 0 ≤ z ∧ z < 256 := by
    intro i hi
    have h1 := hel i hi
    rw [hc, List.getElem?_eq_getElem (by omega)] at h1
    obtain ⟨z, hz, _, hw⟩ := DataW.trod_int he h1
    have hb := bounds_u8 hw
    have hi2 : i < cs.size := by omega
    refine ⟨z, ?_, hb.1, by omega⟩
    simp only [Value.cells, Nat.mul_one] at hz
    rw [List.take_one, List.head?_drop] at hz
    rw [Array.getElem?_eq_getElem hi2]
    have : cs.toList[i]? = some cs[i] := by simp [hi2]
    rw [this] at hz
    simpa using hz
  refine ⟨cs.toList.map fun v => match v with | .int _ z => z | _ => 0, ?_, by simp; omega, ?_⟩
  · congr 1
    apply Array.ext_getElem?
    intro i
    by_cases hi : i < n
    · obtain ⟨z, hz, _⟩ := each i hi
      simp [Sha.bytes, hz]
    · rw [Array.getElem?_eq_none (by omega), Array.getElem?_eq_none (by simp [Sha.bytes]; omega)]
  · intro x hx
    obtain ⟨v, hv, rfl⟩ := List.mem_map.1 hx
    obtain ⟨i, hi, hiv⟩ := List.mem_iff_getElem.1 hv
    obtain ⟨z, hz, h0, h1⟩ := each i (by simp at hi; omega)
    have : cs.toList[i]? = some v := by rw [List.getElem?_eq_getElem hi, hiv]
    simp at this
    rw [this] at hz
    cases hz
    exact ⟨h0, h1⟩

/-- A slice of bytes. -/
theorem open_bytes {r : Reach} {b0 : Nat} {t e : TypeId} {v : Value} {d : DataW H} {ps : List MemPlace} {ts : List TypeId} {ds : List (DataW H)} {j : Nat} (ht : P.underlying t = some (.slice e)) (he : P.underlying e = some (.int .u8)) (hc : P.cellsOf e = 1) (hB : P.bytesOf e = 1)
    (hsz : (DataW.weightsEach P ts ds).all (· ≤ reachBytes) = true) (htj : ts[j]? = some t) (hdj : ds[j]? = some d)
    (hval : Value.okWide P w r b0 t v) (h : DataW.Trod enc P w base (fun _ => true) held t v d ps) : ∃ xs : List Int, HoldsB w v xs ∧ ∀ x ∈ xs, 0 ≤ x ∧ x < 256 := by
  obtain ⟨a0, len0, cap0, rfl⟩ := okWide_slice ht hval
  obtain ⟨fuel, hf⟩ := h
  rcases open_ints ht he hc hf with ⟨hcs, _⟩ | ⟨x, l, c, zs, hcs, _, hl, hm, hz, hx, hcell, hwz⟩
  · simp [Value.cells] at hcs
    obtain ⟨rfl, rfl, rfl⟩ := hcs
    exact ⟨[], .inl ⟨rfl, rfl⟩, by simp⟩
  · simp [Value.cells] at hcs
    obtain ⟨rfl, rfl, rfl⟩ := hcs
    obtain ⟨hx, _⟩ := Prod.mk.inj hx
    subst hx
    have z := sized_slice hsz htj hdj ht
    rw [hB] at z
    simp only [if_true] at hz
    have h1 : (lits (H := H) .u8 (zs.take len0)).length + (lits (H := H) .u8 (zs.drop len0)).length = zs.length := by
      simp [lits]
      omega
    rw [h1] at z
    have zc : cap0 ≤ 140737488351232 := by
      have : reachBytes = 140737488351232 := by decide
      omega
    simp only [Value.okWide, ht, Cell.okWide, Cell.ok, World.has] at hval
    obtain ⟨_, _, _, hspot, row, cells, hshape, _⟩ := hval
    obtain ⟨g, off, spot⟩ := x
    simp only at hspot hshape
    subst hspot
    have hg : g < w.heap.size := by
      rcases Nat.lt_or_ge g w.heap.size with h' | h'
      · exact h'
      · simp [World.shape?, Array.getElem?_eq_none h'] at hshape
    have hlen : (zs.take len0).length = len0 := by rw [List.length_take]; omega
    refine ⟨zs.take len0, .inr ⟨g, off, cap0, by rw [hlen], by omega, zc, by omega, hg, fun i hi => ?_⟩, fun y hy => ?_⟩
    · have h2 := hcell i (by omega)
      have e : (⟨g, off, none⟩ : Addr).add i = ⟨g, off + i, none⟩ := by
        by_cases h0 : i = 0
        · subst h0; simp [Addr.add]
        · simp [Addr.add, h0]
      rw [e] at h2
      rw [h2, List.getD_eq_getElem?_getD, List.getD_eq_getElem?_getD, List.getElem?_take_of_lt (by omega)]
    · have := bounds_u8 (hwz y (List.mem_of_mem_take hy))
      omega
end
end Go.Proofs.Ytbdnhoddkdiogaa
