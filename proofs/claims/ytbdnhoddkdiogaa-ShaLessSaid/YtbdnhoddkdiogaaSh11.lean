/- The walk of ShaLess. -/
import Derived.Test.YtbdnhoddkdiogaaSh10
set_option linter.unusedSimpArgs false
set_option linter.unusedVariables false
namespace Go.Proofs.Ytbdnhoddkdiogaa
open Go.RowKit

theorem lessB_lex (A B : List Int) (h : A.length = B.length) (hA : ∀ x ∈ A, 0 ≤ x ∧ x < 256) (hB : ∀ x ∈ B, 0 ≤ x ∧ x < 256) : lessB A B = lex A B := compare_lex A B h hA hB
theorem less_lex (A B : List Int) (hA : A.length = 32) (hB : B.length = 32) (bA : ∀ x ∈ A, 0 ≤ x ∧ x < 256) (bB : ∀ x ∈ B, 0 ≤ x ∧ x < 256) (X : Bool) (h : lex A B = X) (w : World) :
    Calls Try.prog 19 #[.agg (Sha.bytes A), .agg (Sha.bytes B)] w fun e w' => e = .returned (.bool X) ∧ Below w.heap.size w w' := by
  have := less_any A B hA hB w
  rw [lessB_lex A B (by omega) bA bB, h] at this
  exact this

set_option maxRecDepth 100000 in
set_option maxHeartbeats 4000000 in
theorem shaLess_row (A : List Int) (hA : A.length = 32) (bA : ∀ x ∈ A, 0 ≤ x ∧ x < 256) (B : List Int) (hB : B.length = 32) (bB : ∀ x ∈ B, 0 ≤ x ∧ x < 256) (C : List Int) (hC : C.length = 32) (bC : ∀ x ∈ C, 0 ≤ x ∧ x < 256) (w : World) :
    Calls Try.prog 5 #[.agg (Sha.bytes A), .agg (Sha.bytes B), .agg (Sha.bytes C)] w fun e w' => e = .returned (.bool true) ∧ Below w.heap.size w w' := by
  have hs : ∀ L : List Int, L.length = 32 → (Try.prog.info? 25).map (·.size) = some (Sha.bytes L).size := fun L hL => by rw [Sha.bytes_size, hL]; kernel_rfl
  have HSA := Lib.hid (hs A hA)
  have HSB := Lib.hid (hs B hB)
  have HSC := Lib.hid (hs C hC)
  -- what may be
  have cases4 : ∃ x y z xz : Bool, lex A B = x ∧ lex B A = y ∧ lex B C = z ∧ lex A C = xz ∧ ((x = true ∧ y = false ∧ (A == B) = false ∧ (z = true → xz = true)) ∨ (x = false ∧ y = true ∧ (A == B) = false) ∨ (x = false ∧ y = false ∧ (A == B) = true)) := by
    refine ⟨_, _, _, _, rfl, rfl, rfl, rfl, ?_⟩
    cases hx : lex A B with
    | true => exact .inl ⟨rfl, lex_asymm A B hx, beq_eq_false_iff_ne.mpr (fun e => by rw [e, lex_self] at hx; cases hx), fun hz => lex_trans A B C hx hz⟩
    | false =>
      cases hy : lex B A with
      | true => exact .inr (.inl ⟨rfl, rfl, beq_eq_false_iff_ne.mpr (fun e => by rw [e, lex_self] at hy; cases hy)⟩)
      | false => exact .inr (.inr ⟨rfl, rfl, by rw [lex_total A B (by omega) hx hy]; simp⟩)
  obtain ⟨x, y, z, xz, hx, hy, hz, hxz, hcase⟩ := cases4
  have cAB := less_lex A B hA hB bA bB x hx
  have cBA := less_lex B A hB hA bB bA y hy
  have cBC := less_lex B C hB hC bB bC z hz
  have cAC := less_lex A C hA hC bA bC xz hxz
  have cR : ∀ w, Calls Try.prog 20 #[.agg (Sha.bytes A), .agg (Sha.bytes B)] w fun e w' => e = .returned (.bool x) ∧ Below w.heap.size w w' := fun w => by have := refLess_any A B hA hB w; rw [hx] at this; exact this
  have HL := Lib.hid (hex_less A B (by omega) bA bB)
  rw [hx] at HL
  have cHA := hex_any A hA bA
  have cHB := hex_any B hB bB
  have hE : ∀ W, (binOp .eql 25 (.agg (Sha.bytes A)) (.agg (Sha.bytes B))).run Try.prog W = .ok (.bool (A == B)) W := fun W => run_eql_bytesI _ _ 32 Try.underlying25 Try.underlying5 Try.sizeOf5 A B hA hB W
  have HE := Lib.hid hE
  have KAB := Lib.hid cAB
  have KBA := Lib.hid cBA
  have KBC := Lib.hid cBC
  have KAC := Lib.hid cAC
  have KR := Lib.hid cR
  have KHA := Lib.hid cHA
  have KHB := Lib.hid cHB
  clear cAB cBA cBC cAC cR cHA cHB hE hs hx hy hz hxz bA bB bC
  go_enter Try.func5, Try.ntmps5
  go_wp2_with (go_at_call 15; refine (awake_any _).mono ?_; rintro e w1 ⟨rfl, hb1⟩; replace hb1 := Lib.hid hb1)
  obtain ⟨w0, hw0⟩ : ∃ w0, w0 = ((w.alloc (.cells (Sha.bytes A) 25)).alloc (.cells (Sha.bytes B) 25)).alloc (.cells (Sha.bytes C) 25) := ⟨_, rfl⟩
  rw [← hw0] at hb1
  have z1 : w0.heap[w.heap.size]? = some (.cells (Sha.bytes A) 25 (0, 0)) := by rw [hw0]; exact (Below.heap_alloc _ _ _ (by simp; omega)).trans (heap_alloc2_old _ _ _)
  have z2 : w0.heap[w.heap.size + 1]? = some (.cells (Sha.bytes B) 25 (0, 0)) := by rw [hw0]; exact (Below.heap_alloc _ _ _ (by simp)).trans (heap_alloc2_new _ _ _)
  have z3 : w0.heap[w.heap.size + 1 + 1]? = some (.cells (Sha.bytes C) 25 (0, 0)) := by rw [hw0]; have := heap_alloc_new ((w.alloc (.cells (Sha.bytes A) 25)).alloc (.cells (Sha.bytes B) 25)) (.cells (Sha.bytes C) 25); simpa using this
  have zs : w0.heap.size = w.heap.size + 1 + 1 + 1 := by rw [hw0]; simp
  have zb : Below w.heap.size w w0 := by rw [hw0]; exact (((Below.refl _ _).alloc (Nat.le_refl _) _).alloc (by simp) _).alloc (by simp; omega) _
  have hs1 := hb1.out.size
  have HZ1 : Hid (w1.heap[w.heap.size]? = some (.cells (Sha.bytes A) 25 (0, 0))) := Lib.hid ((hb1.out.block _ (by omega)).trans z1)
  have HZ2 : Hid (w1.heap[w.heap.size + 1]? = some (.cells (Sha.bytes B) 25 (0, 0))) := Lib.hid ((hb1.out.block _ (by omega)).trans z2)
  have HZ3 : Hid (w1.heap[w.heap.size + 1 + 1]? = some (.cells (Sha.bytes C) 25 (0, 0))) := Lib.hid ((hb1.out.block _ (by omega)).trans z3)
  have ZB : Hid (Below w.heap.size w w1) := Lib.hid (zb.trans (hb1.out.mono (by omega)))
  have zl : w.heap.size + 1 + 1 < w1.heap.size := by omega
  clear hw0 z1 z2 z3 hb1 zb zs hs1
  have h1 : ∀ w', Below w1.heap.size w1 w' → w'.heap[w.heap.size]? = some (.cells (Sha.bytes A) 25 (0, 0)) := fun w' hb => (hb.block _ (by omega)).trans HZ1.out
  have h2 : ∀ w', Below w1.heap.size w1 w' → w'.heap[w.heap.size + 1]? = some (.cells (Sha.bytes B) 25 (0, 0)) := fun w' hb => (hb.block _ (by omega)).trans HZ2.out
  have h3 : ∀ w', Below w1.heap.size w1 w' → w'.heap[w.heap.size + 1 + 1]? = some (.cells (Sha.bytes C) 25 (0, 0)) := fun w' hb => (hb.block _ zl).trans HZ3.out
  have G1 := Lib.hid h1
  have G2 := Lib.hid h2
  have G3 := Lib.hid h3
  clear h1 h2 h3
  refine wp_region_quietB (by kernel_rfl) (by kernel_rfl) ?_
  repeat (first
    | (refine BigFrame.wpQuiet_skip rfl ?_; simp only [Act.put, List.setIfInBounds_toArray, List.set_cons_zero, List.set_cons_succ])
    | (refine BigFrame.wpQuiet_want rfl (fun K hK => ?_); (first | (refine quiet_assignV _ (.bool x) rfl rfl ?_) | (refine quiet_assignV _ (.bool y) rfl rfl ?_) | (refine quiet_load_row _ _ rfl w.heap.size rfl _ (Sha.bytes A) _ _ G1.out Try.underlying25 rfl HSA.out ?_) | (refine quiet_load_row _ _ rfl (w.heap.size + 1) rfl _ (Sha.bytes B) _ _ G2.out Try.underlying25 rfl HSB.out ?_) | (refine quiet_call 19 #[.agg (Sha.bytes A), .agg (Sha.bytes B)] (.bool x) ?_ (fun W _ => KAB.out W) ?_; · intro W; go_simp; done) | (refine quiet_call 19 #[.agg (Sha.bytes B), .agg (Sha.bytes A)] (.bool y) ?_ (fun W _ => KBA.out W) ?_; · intro W; go_simp; done)); refine hK _ ?_; clear hK K; simp only [Act.put, List.setIfInBounds_toArray, List.set_cons_zero, List.set_cons_succ]))
  refine wpQuiet_nil ?_
  intro w2 hb2
  have HB2 := Lib.hid hb2
  clear hb2
  have N1 : Hid (∀ w', Below w2.heap.size w2 w' → w'.heap[w.heap.size]? = some (.cells (Sha.bytes A) 25 (0, 0))) := Lib.hid fun w' hb => G1.out w' (HB2.out.trans (hb.mono HB2.out.size))
  have N2 : Hid (∀ w', Below w2.heap.size w2 w' → w'.heap[w.heap.size + 1]? = some (.cells (Sha.bytes B) 25 (0, 0))) := Lib.hid fun w' hb => G2.out w' (HB2.out.trans (hb.mono HB2.out.size))
  have N3 : Hid (∀ w', Below w2.heap.size w2 w' → w'.heap[w.heap.size + 1 + 1]? = some (.cells (Sha.bytes C) 25 (0, 0))) := Lib.hid fun w' hb => G3.out w' (HB2.out.trans (hb.mono HB2.out.size))
  have ZB2 : Hid (Below w.heap.size w w2) := Lib.hid (ZB.out.trans (HB2.out.mono (by omega)))
  have zl2 : w.heap.size + 1 + 1 < w2.heap.size := by have := HB2.out.size; omega
  clear G1 G2 G3 HB2 ZB KAB KBA
  go_wp2
  generalize hAB : (A == B) = eAB at HE hcase
  clear hAB
  rcases hcase with ⟨rfl, rfl, rfl, hxz⟩ | ⟨rfl, rfl, rfl⟩ | ⟨rfl, rfl, rfl⟩
  · cases z with
    | true =>
      have hxz2 := hxz rfl
      subst hxz2
      refine wp_region_quietB (by kernel_rfl) (by kernel_rfl) ?_
      repeat (first
        | (refine BigFrame.wpQuiet_skip rfl ?_; simp only [Act.put, List.setIfInBounds_toArray, List.set_cons_zero, List.set_cons_succ])
        | (refine BigFrame.wpQuiet_want rfl (fun K hK => ?_); (first | (refine quiet_moveV _ (.bool true) rfl rfl ?_) | (refine quiet_moveV _ (.bool false) rfl rfl ?_) | (refine quiet_assignV _ (.bool true) rfl rfl ?_) | (refine quiet_assignV _ (.bool false) rfl rfl ?_) | (refine quiet_load_row _ _ rfl w.heap.size rfl _ (Sha.bytes A) _ _ N1.out Try.underlying25 rfl HSA.out ?_) | (refine quiet_load_row _ _ rfl (w.heap.size + 1) rfl _ (Sha.bytes B) _ _ N2.out Try.underlying25 rfl HSB.out ?_) | (refine quiet_load_row _ _ rfl (w.heap.size + 1 + 1) rfl _ (Sha.bytes C) _ _ N3.out Try.underlying25 rfl HSC.out ?_) | (refine quiet_call 20 #[.agg (Sha.bytes A), .agg (Sha.bytes B)] (.bool _) ?_ (fun W _ => KR.out W) ?_; · intro W; go_simp; done) | (refine quiet_call 18 #[.agg (Sha.bytes A)] (.string (strOfNums (Sha.hexs A))) ?_ (fun W _ => KHA.out W) ?_; · intro W; go_simp; done) | (refine quiet_call 18 #[.agg (Sha.bytes B)] (.string (strOfNums (Sha.hexs B))) ?_ (fun W _ => KHB.out W) ?_; · intro W; go_simp; done) | (refine quiet_call 19 #[.agg (Sha.bytes B), .agg (Sha.bytes C)] (.bool _) ?_ (fun W _ => KBC.out W) ?_; · intro W; go_simp; done) | (refine quiet_call 19 #[.agg (Sha.bytes A), .agg (Sha.bytes C)] (.bool _) ?_ (fun W _ => KAC.out W) ?_; · intro W; go_simp; done) | (refine quiet_run (.bool true) ?_ ?_; · intro W _; go_simp; done) | (refine quiet_run (.bool false) ?_ ?_; · intro W _; go_simp; done) | (refine quiet_bin .eql _ _ _ _ rfl _ _ (.bool _) rfl rfl ?_ HE.out ?_; · intro W; go_simp; done) | (refine quiet_run (.bool true) ?_ ?_; · intro W _; go_simp; exact HL.out) | (refine quiet_run (.bool false) ?_ ?_; · intro W _; go_simp; exact HL.out)); refine hK _ ?_; clear hK K; simp only [Act.put, List.setIfInBounds_toArray, List.set_cons_zero, List.set_cons_succ]))
      refine wpQuiet_nil ?_
      intro w3 hb3
      have HB3 := Lib.hid hb3
      clear hb3
      go_wp2
      go_ret
      exact ⟨rfl, ZB2.out.trans (HB3.out.mono (by omega))⟩
    | false =>
      clear hxz
      refine wp_region_quietB (by kernel_rfl) (by kernel_rfl) ?_
      repeat (first
        | (refine BigFrame.wpQuiet_skip rfl ?_; simp only [Act.put, List.setIfInBounds_toArray, List.set_cons_zero, List.set_cons_succ])
        | (refine BigFrame.wpQuiet_want rfl (fun K hK => ?_); (first | (refine quiet_moveV _ (.bool true) rfl rfl ?_) | (refine quiet_moveV _ (.bool false) rfl rfl ?_) | (refine quiet_assignV _ (.bool true) rfl rfl ?_) | (refine quiet_assignV _ (.bool false) rfl rfl ?_) | (refine quiet_load_row _ _ rfl w.heap.size rfl _ (Sha.bytes A) _ _ N1.out Try.underlying25 rfl HSA.out ?_) | (refine quiet_load_row _ _ rfl (w.heap.size + 1) rfl _ (Sha.bytes B) _ _ N2.out Try.underlying25 rfl HSB.out ?_) | (refine quiet_load_row _ _ rfl (w.heap.size + 1 + 1) rfl _ (Sha.bytes C) _ _ N3.out Try.underlying25 rfl HSC.out ?_) | (refine quiet_call 20 #[.agg (Sha.bytes A), .agg (Sha.bytes B)] (.bool _) ?_ (fun W _ => KR.out W) ?_; · intro W; go_simp; done) | (refine quiet_call 18 #[.agg (Sha.bytes A)] (.string (strOfNums (Sha.hexs A))) ?_ (fun W _ => KHA.out W) ?_; · intro W; go_simp; done) | (refine quiet_call 18 #[.agg (Sha.bytes B)] (.string (strOfNums (Sha.hexs B))) ?_ (fun W _ => KHB.out W) ?_; · intro W; go_simp; done) | (refine quiet_call 19 #[.agg (Sha.bytes B), .agg (Sha.bytes C)] (.bool _) ?_ (fun W _ => KBC.out W) ?_; · intro W; go_simp; done) | (refine quiet_call 19 #[.agg (Sha.bytes A), .agg (Sha.bytes C)] (.bool _) ?_ (fun W _ => KAC.out W) ?_; · intro W; go_simp; done) | (refine quiet_run (.bool true) ?_ ?_; · intro W _; go_simp; done) | (refine quiet_run (.bool false) ?_ ?_; · intro W _; go_simp; done) | (refine quiet_bin .eql _ _ _ _ rfl _ _ (.bool _) rfl rfl ?_ HE.out ?_; · intro W; go_simp; done) | (refine quiet_run (.bool true) ?_ ?_; · intro W _; go_simp; exact HL.out) | (refine quiet_run (.bool false) ?_ ?_; · intro W _; go_simp; exact HL.out)); refine hK _ ?_; clear hK K; simp only [Act.put, List.setIfInBounds_toArray, List.set_cons_zero, List.set_cons_succ]))
      refine wpQuiet_nil ?_
      intro w3 hb3
      have HB3 := Lib.hid hb3
      clear hb3
      go_wp2
      go_ret
      exact ⟨rfl, ZB2.out.trans (HB3.out.mono (by omega))⟩
  · refine wp_region_quietB (by kernel_rfl) (by kernel_rfl) ?_
    repeat (first
      | (refine BigFrame.wpQuiet_skip rfl ?_; simp only [Act.put, List.setIfInBounds_toArray, List.set_cons_zero, List.set_cons_succ])
      | (refine BigFrame.wpQuiet_want rfl (fun K hK => ?_); (first | (refine quiet_moveV _ (.bool true) rfl rfl ?_) | (refine quiet_moveV _ (.bool false) rfl rfl ?_) | (refine quiet_assignV _ (.bool true) rfl rfl ?_) | (refine quiet_assignV _ (.bool false) rfl rfl ?_) | (refine quiet_load_row _ _ rfl w.heap.size rfl _ (Sha.bytes A) _ _ N1.out Try.underlying25 rfl HSA.out ?_) | (refine quiet_load_row _ _ rfl (w.heap.size + 1) rfl _ (Sha.bytes B) _ _ N2.out Try.underlying25 rfl HSB.out ?_) | (refine quiet_load_row _ _ rfl (w.heap.size + 1 + 1) rfl _ (Sha.bytes C) _ _ N3.out Try.underlying25 rfl HSC.out ?_) | (refine quiet_call 20 #[.agg (Sha.bytes A), .agg (Sha.bytes B)] (.bool _) ?_ (fun W _ => KR.out W) ?_; · intro W; go_simp; done) | (refine quiet_call 18 #[.agg (Sha.bytes A)] (.string (strOfNums (Sha.hexs A))) ?_ (fun W _ => KHA.out W) ?_; · intro W; go_simp; done) | (refine quiet_call 18 #[.agg (Sha.bytes B)] (.string (strOfNums (Sha.hexs B))) ?_ (fun W _ => KHB.out W) ?_; · intro W; go_simp; done) | (refine quiet_call 19 #[.agg (Sha.bytes B), .agg (Sha.bytes C)] (.bool _) ?_ (fun W _ => KBC.out W) ?_; · intro W; go_simp; done) | (refine quiet_call 19 #[.agg (Sha.bytes A), .agg (Sha.bytes C)] (.bool _) ?_ (fun W _ => KAC.out W) ?_; · intro W; go_simp; done) | (refine quiet_run (.bool true) ?_ ?_; · intro W _; go_simp; done) | (refine quiet_run (.bool false) ?_ ?_; · intro W _; go_simp; done) | (refine quiet_bin .eql _ _ _ _ rfl _ _ (.bool _) rfl rfl ?_ HE.out ?_; · intro W; go_simp; done) | (refine quiet_run (.bool true) ?_ ?_; · intro W _; go_simp; exact HL.out) | (refine quiet_run (.bool false) ?_ ?_; · intro W _; go_simp; exact HL.out)); refine hK _ ?_; clear hK K; simp only [Act.put, List.setIfInBounds_toArray, List.set_cons_zero, List.set_cons_succ]))
    refine wpQuiet_nil ?_
    intro w3 hb3
    have HB3 := Lib.hid hb3
    clear hb3
    go_wp2
    go_ret
    exact ⟨rfl, ZB2.out.trans (HB3.out.mono (by omega))⟩
  · refine wp_region_quietB (by kernel_rfl) (by kernel_rfl) ?_
    repeat (first
      | (refine BigFrame.wpQuiet_skip rfl ?_; simp only [Act.put, List.setIfInBounds_toArray, List.set_cons_zero, List.set_cons_succ])
      | (refine BigFrame.wpQuiet_want rfl (fun K hK => ?_); (first | (refine quiet_moveV _ (.bool true) rfl rfl ?_) | (refine quiet_moveV _ (.bool false) rfl rfl ?_) | (refine quiet_assignV _ (.bool true) rfl rfl ?_) | (refine quiet_assignV _ (.bool false) rfl rfl ?_) | (refine quiet_load_row _ _ rfl w.heap.size rfl _ (Sha.bytes A) _ _ N1.out Try.underlying25 rfl HSA.out ?_) | (refine quiet_load_row _ _ rfl (w.heap.size + 1) rfl _ (Sha.bytes B) _ _ N2.out Try.underlying25 rfl HSB.out ?_) | (refine quiet_load_row _ _ rfl (w.heap.size + 1 + 1) rfl _ (Sha.bytes C) _ _ N3.out Try.underlying25 rfl HSC.out ?_) | (refine quiet_call 20 #[.agg (Sha.bytes A), .agg (Sha.bytes B)] (.bool _) ?_ (fun W _ => KR.out W) ?_; · intro W; go_simp; done) | (refine quiet_call 18 #[.agg (Sha.bytes A)] (.string (strOfNums (Sha.hexs A))) ?_ (fun W _ => KHA.out W) ?_; · intro W; go_simp; done) | (refine quiet_call 18 #[.agg (Sha.bytes B)] (.string (strOfNums (Sha.hexs B))) ?_ (fun W _ => KHB.out W) ?_; · intro W; go_simp; done) | (refine quiet_call 19 #[.agg (Sha.bytes B), .agg (Sha.bytes C)] (.bool _) ?_ (fun W _ => KBC.out W) ?_; · intro W; go_simp; done) | (refine quiet_call 19 #[.agg (Sha.bytes A), .agg (Sha.bytes C)] (.bool _) ?_ (fun W _ => KAC.out W) ?_; · intro W; go_simp; done) | (refine quiet_run (.bool true) ?_ ?_; · intro W _; go_simp; done) | (refine quiet_run (.bool false) ?_ ?_; · intro W _; go_simp; done) | (refine quiet_bin .eql _ _ _ _ rfl _ _ (.bool _) rfl rfl ?_ HE.out ?_; · intro W; go_simp; done) | (refine quiet_run (.bool true) ?_ ?_; · intro W _; go_simp; exact HL.out) | (refine quiet_run (.bool false) ?_ ?_; · intro W _; go_simp; exact HL.out)); refine hK _ ?_; clear hK K; simp only [Act.put, List.setIfInBounds_toArray, List.set_cons_zero, List.set_cons_succ]))
    refine wpQuiet_nil ?_
    intro w3 hb3
    have HB3 := Lib.hid hb3
    clear hb3
    go_wp2
    go_ret
    exact ⟨rfl, ZB2.out.trans (HB3.out.mono (by omega))⟩
end Go.Proofs.Ytbdnhoddkdiogaa
