/- The contracts of sha.Hex and sha.Less. -/
import Derived.Test.YtbdnhoddkdiogaaSh5
import Derived.Test.YtbdnhoddkdiogaaShH
import Derived.Laws.BytesArg
set_option linter.unusedSimpArgs false
set_option linter.unusedVariables false
namespace Go.Proofs.Ytbdnhoddkdiogaa
open Go.RowKit

theorem two_bytes (w : World) (x y : Int) : ∀ j, j < [x, y].length → (w.alloc (.cells #[.int .u8 x, .int .u8 y] 5)).cell? ⟨w.heap.size, 0 + j, none⟩ = some (.int .u8 ([x, y].getD j 0)) := by
  intro j hj
  have hj' : j = 0 ∨ j = 1 := by simp at hj; omega
  rcases hj' with rfl | rfl
  · exact cell_of_row _ _ 0 #[.int .u8 x, .int .u8 y] _ _ (heap_alloc_new _ _)
  · exact cell_of_row _ _ 1 #[.int .u8 x, .int .u8 y] _ _ (heap_alloc_new _ _)

set_option maxRecDepth 100000 in
set_option maxHeartbeats 4000000 in
theorem hex_any (D : List Int) (hD : D.length = 32) (hb : ∀ x ∈ D, 0 ≤ x ∧ x < 256) (w : World) :
    Calls Try.prog 18 #[.agg (Sha.bytes D)] w fun e w' => e = .returned (.string (strOfNums (Sha.hexs D))) ∧ Below w.heap.size w w' := by
  have hsz : (Sha.bytes D).size = 32 := by rw [Sha.bytes_size, hD]
  have HB := Lib.hid hb
  clear hb
  go_enter Try.func18, Try.ntmps18
  go_wp2_with (with_reducible refine wpList_load_row (o := ⟨some 6, _, _, _, _, _⟩) rfl 25 (.tmp 1) rfl w.heap.size rfl 25 (Sha.bytes D) (0, 0) _ (heap_alloc_new _ _) Try.underlying25 rfl (by rw [hsz]; kernel_rfl) ?_)
  go_loopw [3, 7] (fun v i wr => ∃ (k : Nat) (a : Option Addr) (cap : Nat), k ≤ 32 ∧ v = .slice a (2 * k) cap ∧ i = .int .i64 k ∧ OfRel 5 25 (Sha.bytes D) w wr v (Sha.hexs (D.take k))) (fun _ i _ => 32 - (intOf i).toNat)
  case atStart =>
    refine ⟨0, none, 0, by omega, rfl, rfl, ⟨⟨rfl, .inl ⟨rfl, rfl⟩⟩, heap_alloc_new _ _, (Below.refl _ _).alloc (Nat.le_refl _) _⟩⟩
  case round =>
    obtain ⟨k, a, cap, hk, rfl, rfl, R⟩ := hrel
    by_cases hlt : k < 32
    · have hx := bytes_get D k (by omega)
      obtain ⟨x, hxe⟩ : ∃ x, x = D.getD k 0 := ⟨_, rfl⟩
      obtain ⟨x0, x1⟩ := Sha.getD_bound8 HB.out k (by omega)
      rw [← hxe] at hx x0 x1
      have HX := Lib.hid hxe
      clear hxe
      have h16 : (0 : Int) ≤ x / 16 := by omega
      have h17 : x / 16 < 16 := by omega
      have h18 : (0 : Int) ≤ x % 16 := by omega
      have h19 : x % 16 < 16 := by omega
      have hix := fun W => run_index_arr (P := Try.prog) (w := W) 25 5 32 (Sha.bytes D) .i64 (k : Int) _ Try.underlying25 (by omega) (by omega) (by rw [show ((k : Int)).toNat = k from rfl]; exact hx) Try.sizeOf5 Try.isAgg5
      go_wp2
      refine wp_region_noPanic ?_
      refine wp_region_E 9 (fun _ => True) (by kernel_rfl) ?_
      refine wpAnyE_take (i := 0) (oi := _) (v := .slice a (2 * k) cap) rfl (by kernel_rfl) (by kernel_rfl) (by kernel_rfl) (by kernel_rfl) (by decide) (by kernel_rfl) (fun _ _ _ h => h) (Or.inl ⟨by rfl, fun w' hSw => by clear hSw; go_simp⟩) trivial ?_
      simp only [Act.put, List.setIfInBounds_toArray, List.set_cons_zero, List.set_cons_succ]
      refine wpAnyE_take (i := 1) (oi := _) (v := .int .u8 x) rfl (by kernel_rfl) (by kernel_rfl) (by kernel_rfl) (by kernel_rfl) (by decide) (by kernel_rfl) (fun _ _ _ h => h) (Or.inl ⟨by rfl, fun w' hSw => by clear hSw; go_simp⟩) trivial ?_
      simp only [Act.put, List.setIfInBounds_toArray, List.set_cons_zero, List.set_cons_succ]
      refine wpAnyE_take (i := 2) (oi := _) (v := .int .u8 (x / 16)) rfl (by kernel_rfl) (by kernel_rfl) (by kernel_rfl) (by kernel_rfl) (by decide) (by kernel_rfl) (fun _ _ _ h => h) (Or.inl ⟨by rfl, fun w' hSw => by clear hSw; go_simp⟩) trivial ?_
      simp only [Act.put, List.setIfInBounds_toArray, List.set_cons_zero, List.set_cons_succ]
      refine wpAnyE_take (i := 3) (oi := _) (v := .int .u8 (Sha.dig (x / 16))) rfl (by kernel_rfl) (by kernel_rfl) (by kernel_rfl) (by kernel_rfl) (by decide) (by kernel_rfl) (fun _ _ _ h => h) (Or.inl ⟨by rfl, fun w' hSw => by clear hSw; go_simp; exact digit_at _ h16 h17 _⟩) trivial ?_
      simp only [Act.put, List.setIfInBounds_toArray, List.set_cons_zero, List.set_cons_succ]
      refine wpAnyE_take (i := 4) (oi := _) (v := .int .u8 x) rfl (by kernel_rfl) (by kernel_rfl) (by kernel_rfl) (by kernel_rfl) (by decide) (by kernel_rfl) (fun _ _ _ h => h) (Or.inl ⟨by rfl, fun w' hSw => by clear hSw; go_simp⟩) trivial ?_
      simp only [Act.put, List.setIfInBounds_toArray, List.set_cons_zero, List.set_cons_succ]
      refine wpAnyE_take (i := 5) (oi := _) (v := .int .u8 (x % 16)) rfl (by kernel_rfl) (by kernel_rfl) (by kernel_rfl) (by kernel_rfl) (by decide) (by kernel_rfl) (fun _ _ _ h => h) (Or.inl ⟨by rfl, fun w' hSw => by clear hSw; go_simp; exact and15 _ x0 x1⟩) trivial ?_
      simp only [Act.put, List.setIfInBounds_toArray, List.set_cons_zero, List.set_cons_succ]
      refine wpAnyE_take (i := 6) (oi := _) (v := .int .u8 (Sha.dig (x % 16))) rfl (by kernel_rfl) (by kernel_rfl) (by kernel_rfl) (by kernel_rfl) (by decide) (by kernel_rfl) (fun _ _ _ h => h) (Or.inl ⟨by rfl, fun w' hSw => by clear hSw; go_simp; exact digit_at _ h18 h19 _⟩) trivial ?_
      simp only [Act.put, List.setIfInBounds_toArray, List.set_cons_zero, List.set_cons_succ]
      refine wpAnyE_cons (i := 7) (o := _) (fun _ => trivial) (by kernel_rfl) rfl (fun a w h => wpAnyE_cons (i := 8) (o := _) (fun _ => trivial) (by kernel_rfl) rfl (fun a w h => wpAnyE_cons (i := 9) (o := _) (fun _ => trivial) (by kernel_rfl) rfl (fun a w h => wpAnyE_nil _ (by kernel_rfl) h) h) h) ?_
      have hf : (Sha.hexs (D.take k)).length = 2 * k := by rw [Sha.hexs_length, List.length_take]; omega
      have R1 : OfRel 5 25 (Sha.bytes D) w wr.drew (.slice a (2 * k) cap) (Sha.hexs (D.take k)) := R.past (Below.refl _ _).drew
      have R2 := Lib.hid R1
      have hlt2 := R1.lt
      clear R R1 hix hx
      simp only [List.getElem_toArray, List.getElem_cons_succ, List.getElem_cons_zero, Array.getInternal_eq_getElem]
      go_wp2_with (at_builtin; refine wpList_append_u8 _ rfl (.tmp 10) (.tmp 17) 22 rfl (w.heap.size + 1) 5 Try.underlying22 u8_info _ (Sha.hexs (D.take k)) rfl (OwnB.alloc R2.out.own _) _ 0 2 [Sha.dig (x / 16), Sha.dig (x % 16)] rfl (two_bytes wr _ _) (by rw [hf]; simp; omega) (by have := R2.out.lt; simp at this ⊢; omega) ?_; intro v2 w2 hown2 hgrow2 hnil2)
      refine NoPanic.normal ?_
      have hf2 : (Sha.hexs (D.take (k + 1))).length = 2 * (k + 1) := by rw [Sha.hexs_length, List.length_take]; omega
      have R3 : OfRel 5 25 (Sha.bytes D) w w2 v2 (Sha.hexs (D.take (k + 1))) := R2.out.step _ (by rw [Sha.hexs_take_succ D k (by omega), ← HX.out]; exact hown2) hgrow2
      clear hown2 hgrow2 hnil2 R2 HX
      obtain ⟨a2, cap2, rfl⟩ := R3.own.shape
      go_wp2
      go_roundw
      case rel => exact ⟨k + 1, a2, cap2, by omega, by rw [hf2], by go_num, R3⟩
      case measure => simp [intOf]; omega
    · obtain rfl : k = 32 := by omega
      have e32 : D.take 32 = D := List.take_of_length_le (by omega)
      rw [e32] at R
      have h64 : (Sha.hexs D).length = 64 := by rw [Sha.hexs_length, hD]
      obtain ⟨g, cap3, hs, hg1, hg2, hg3, hg4, hg5⟩ := R.own.reads (by omega)
      rw [h64] at hg3 hg5 hs
      simp only [Value.slice.injEq] at hs
      obtain ⟨rfl, -, rfl⟩ := hs
      have hcv := run_convert_bytes_arg (P := Try.prog) wr 22 5 Try.underlying22 Try.underlying5 g 0 64 cap (Sha.hexs D) h64 (fun i hi => by rw [Nat.zero_add]; exact hg5 i hi) 9 Try.underlying9
      have R2 := Lib.hid R
      clear R hg5 e32
      go_wp2
      go_ret
      exact ⟨rfl, R2.out.below⟩
end Go.Proofs.Ytbdnhoddkdiogaa
