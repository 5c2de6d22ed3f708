/- The contract of sha's mix: a block mixed into eight words. -/
import Derived.Test.YtbdnhoddkdiogaaSh2
import Derived.OwnWalk
namespace Go.Proofs.Ytbdnhoddkdiogaa
open Go.RowKit

/-- Block B's cells are these words; every other block of w1 is as it is there; below the call's own blocks all is as it was. -/
structure Arr2 (T : Nat) (w w1 wr : World) (B : Nat) (l : List Int) : Prop where
  heap : wr.heap[B]? = some (.cells (Sha.words l) T (0, 0))
  others : ∀ g, g < w1.heap.size → g ≠ B → wr.heap[g]? = w1.heap[g]?
  below : Below w.heap.size w wr
  le : w.heap.size ≤ B
section
variable {T : Nat} {w w1 wr : World} {B : Nat} {l : List Int}
theorem Arr2.cell (h : Arr2 T w w1 wr B l) (i : Nat) (hi : i < l.length) : wr.cell? ⟨B, i, none⟩ = some (.int .u32 (l.getD i 0)) := by
  rw [cell_of_row wr B i _ _ _ h.heap, Sha.words_get l i hi]
theorem Arr2.frozen (h : Arr2 T w w1 wr B l) (i : Nat) : wr.frozen? ⟨B, i, none⟩ = false := frozen_of_row wr B i _ _ h.heap
theorem Arr2.set (h : Arr2 T w w1 wr B l) (i : Nat) (v : Int) : Arr2 T w w1 (wr.setCell ⟨B, i, none⟩ (.int .u32 v)) B (l.set i v) :=
  ⟨by rw [heap_setCell_same _ _ _ _ _ _ h.heap, Sha.words_set], fun g hg hne => by rw [heap_setCell_other _ _ _ _ hne]; exact h.others g hg hne, h.below.setCell h.le _, h.le⟩
theorem Arr2.row (h : Arr2 T w w1 wr B l) (l' : List Int) : Arr2 T w w1 (wr.setRow B (Sha.words l')) B l' :=
  ⟨setRow_heap _ _ _ _ _ _ h.heap, fun g hg hne => by rw [setRow_other _ _ _ _ hne]; exact h.others g hg hne, h.below.setRow' h.le _, h.le⟩
theorem Arr2.drew (h : Arr2 T w w1 wr B l) : Arr2 T w w1 wr.drew B l := ⟨h.heap, h.others, h.below.drew, h.le⟩
theorem Arr2.drewN (h : Arr2 T w w1 wr B l) (n : Nat) : Arr2 T w w1 (wr.drewN n) B l := by
  induction n with
  | zero => exact h
  | succ n ih => exact ih.drew
theorem Arr2.other (h : Arr2 T w w1 wr B l) {g : Nat} (hg : g < w1.heap.size) (hne : g ≠ B) {T' : Nat} {l' : List Int} (hh : w1.heap[g]? = some (.cells (Sha.words l') T' (0, 0))) (i : Nat) (hi : i < l'.length) :
    wr.cell? ⟨g, i, none⟩ = some (.int .u32 (l'.getD i 0)) := by
  rw [cell_of_row wr g i _ _ _ ((h.others g hg hne).trans hh), Sha.words_get l' i hi]
end

theorem size_alloc (w : World) (o : Obj) : (w.alloc o).heap.size = w.heap.size + 1 := by
  show (w.heap.push o).size = _
  simp
theorem alloc_get (w : World) (o : Obj) (g : Nat) : (w.alloc o).heap[g]? = if g = w.heap.size then some o else w.heap[g]? := by
  show (w.heap.push o)[g]? = _
  rw [Array.getElem?_push]
theorem five (w : World) (A B C D E : Obj) : (((((w.alloc A).alloc B).alloc C).alloc D).alloc E).heap[w.heap.size]? = some A := by
  simp only [alloc_get, size_alloc]
  (repeat rw [if_neg (by omega)])
  rw [if_pos trivial]
theorem six (w : World) (A B C D E F : Obj) : ∀ W, W = ((((((w.alloc A).alloc B).alloc C).alloc D).alloc E).alloc F) →
    W.heap[w.heap.size]? = some A ∧ W.heap[w.heap.size + 1]? = some B ∧ W.heap[w.heap.size + 1 + 1]? = some C ∧ W.heap[w.heap.size + 1 + 1 + 1]? = some D ∧ W.heap[w.heap.size + 1 + 1 + 1 + 1]? = some E ∧
      W.heap[w.heap.size + 1 + 1 + 1 + 1 + 1]? = some F ∧ W.heap.size = w.heap.size + 6 ∧ Below w.heap.size w W := by
  rintro W rfl
  refine ⟨?_, ?_, ?_, ?_, ?_, ?_, ?_, ?_⟩
  iterate 6
    · simp only [alloc_get, size_alloc]
      (repeat rw [if_neg (by omega)])
      rw [if_pos trivial]
  · simp only [size_alloc]
  · exact ((((((Below.refl _ _).alloc (Nat.le_refl _) _).alloc (by simp) _).alloc (by simp; omega) _).alloc (by simp; omega) _).alloc (by simp; omega) _).alloc (by simp; omega) _

theorem zero8 (w : World) : (zeroValue 58).run Try.prog w = .ok (.agg (Sha.words Sha.zeros8)) w := (zero_of_info (n := 8) (by kernel_rfl)).1 w

theorem step_seen (s : List Int) (k w s0 s1 s2 s3 s4 s5 s6 s7 sk sw : Int) (h0 : s0 = s.getD 0 0) (h1 : s1 = s.getD 1 0) (h2 : s2 = s.getD 2 0) (h3 : s3 = s.getD 3 0) (h4 : s4 = s.getD 4 0)
    (h5 : s5 = s.getD 5 0) (h6 : s6 = s.getD 6 0) (h7 : s7 = s.getD 7 0) (hk : sk = k) (hw : sw = w) : Sha.step s k w = Sha.step [s0, s1, s2, s3, s4, s5, s6, s7] sk sw := by
  unfold Sha.step Sha.one Sha.two
  simp only [List.getD_cons_zero, List.getD_cons_succ]
  rw [← h0, ← h1, ← h2, ← h3, ← h4, ← h5, ← h6, ← h7, hk, hw]

set_option maxRecDepth 100000 in
set_option maxHeartbeats 4000000 in
theorem mix_any (hi0 k0 wl kl : List Int) (h8 : hi0.length = 8) (k8 : k0.length = 8) (w64 : wl.length = 64) (k64 : kl.length = 64) (hb : ∀ x ∈ hi0, 0 ≤ x ∧ x < 4294967296) (w : World) :
    Calls Try.prog 41 #[.agg (Sha.words hi0), .agg (Sha.words k0), .agg (Sha.words wl), .agg (Sha.words kl)] w fun e w' => e = .returned (.agg (Sha.words (Sha.mix hi0 k0 wl kl))) ∧ Below w.heap.size w w' := by
  have hz := zero8
  obtain ⟨L, hL⟩ : ∃ L, L = Sha.mix hi0 k0 wl kl := ⟨_, rfl⟩
  rw [← hL]
  have HL := Lib.hid hL
  have H8 := Lib.hid h8
  have K8 := Lib.hid k8
  have W64 := Lib.hid w64
  have K64 := Lib.hid k64
  have HB := Lib.hid hb
  have hl : (Sha.words hi0).size = 8 := by rw [Sha.words_size, h8]
  have hl0 : (Sha.words Sha.zeros8).size = 8 := by rw [Sha.words_size]; rfl
  clear hL h8 k8 w64 k64 hb
  go_enter Try.func41, Try.ntmps41
  go_wp2_with (first | (with_reducible refine wpList_load_row (o := ⟨some 16, _, _, _, _, _⟩) rfl 58 (.tmp 4) rfl w.heap.size rfl 58 (Sha.words hi0) (0, 0) _ (five _ _ _ _ _ _) Try.underlying58 rfl (by rw [hl]; kernel_rfl) ?_) | (with_reducible refine wpList_store_block (o := ⟨none, _, _, _, _, _⟩) rfl 58 (.tmp 9) (.tmp 16) rfl (w.heap.size + 5) rfl (Sha.words hi0) rfl (Sha.words Sha.zeros8) 58 (six _ _ _ _ _ _ _ _ rfl).2.2.2.2.2.1 (by rw [hl]; kernel_rfl) (by rw [hl, hl0]) (Sha.words_one _) ?_))
  obtain ⟨x0, x1, x2, x3, x4, x5, x6, x7⟩ := six w (.cells (Sha.words hi0) 58) (.cells (Sha.words k0) 58) (.cells (Sha.words wl) 60) (.cells (Sha.words kl) 60) (.cells (Sha.words Sha.zeros8) 58) (.cells (Sha.words Sha.zeros8) 58) _ rfl
  obtain ⟨W, hW⟩ : ∃ W, W = ((((((w.alloc (.cells (Sha.words hi0) 58)).alloc (.cells (Sha.words k0) 58)).alloc (.cells (Sha.words wl) 60)).alloc (.cells (Sha.words kl) 60)).alloc (.cells (Sha.words Sha.zeros8) 58)).alloc (.cells (Sha.words Sha.zeros8) 58)) := ⟨_, rfl⟩
  rw [← hW] at x0 x1 x2 x3 x4 x5 x6 x7
  have A0 : Arr2 58 w W (W.setRow (w.heap.size + 1 + 1 + 1 + 1 + 1) (Sha.words hi0)) (w.heap.size + 1 + 1 + 1 + 1 + 1) hi0 :=
    (⟨x5, fun _ _ _ => rfl, x7, by omega⟩ : Arr2 58 w W W (w.heap.size + 1 + 1 + 1 + 1 + 1) Sha.zeros8).row hi0
  have X1 := Lib.hid x1
  have X2 := Lib.hid x2
  have X3 := Lib.hid x3
  have X4 := Lib.hid x4
  have X6 := Lib.hid x6
  rw [hW] at A0
  have HW := Lib.hid hW
  clear x0 x1 x2 x3 x4 x5 x6 x7 hW hz hl hl0
  go_loopw [17] (fun i wr => ∃ k : Nat, k ≤ 64 ∧ i = .int .i64 k ∧ Arr2 58 w W wr (w.heap.size + 1 + 1 + 1 + 1 + 1) (Sha.mixed hi0 wl kl k)) (fun i _ => 64 - (intOf i).toNat)
  case atStart => exact ⟨0, by omega, rfl, HW.out ▸ A0⟩
  case round =>
    clear A0 HW
    obtain ⟨k, hk, rfl, A1⟩ := hrel
    obtain ⟨wo, rfl⟩ : ∃ wo, wo = wr := ⟨_, rfl⟩
    by_cases hlt : k < 64
    · have hml := Sha.mixed_length hi0 wl kl H8.out k
      have hmb := Sha.mixed_bound hi0 wl kl HB.out k
      have ms : (Sha.words (Sha.mixed hi0 wl kl k)).size = 8 := by rw [Sha.words_size, hml]
      have c0 := A1.cell 0 (by omega)
      have c1 := A1.cell 1 (by omega)
      have c2 := A1.cell 2 (by omega)
      have c3 := A1.cell 3 (by omega)
      have c4 := A1.cell 4 (by omega)
      have c5 := A1.cell 5 (by omega)
      have c6 := A1.cell 6 (by omega)
      have c7 := A1.cell 7 (by omega)
      have cw := A1.other (by have := X6.out; omega) (by omega) X2.out k (by have := W64.out; omega)
      have ck := A1.other (by have := X6.out; omega) (by omega) X3.out k (by have := K64.out; omega)
      obtain ⟨b0, d0⟩ := Sha.getD_bound hmb 0 (by omega)
      obtain ⟨b4, d4⟩ := Sha.getD_bound hmb 4 (by omega)
      obtain ⟨s0, h0⟩ : ∃ x, x = (Sha.mixed hi0 wl kl k).getD 0 0 := ⟨_, rfl⟩
      obtain ⟨s1, h1⟩ : ∃ x, x = (Sha.mixed hi0 wl kl k).getD 1 0 := ⟨_, rfl⟩
      obtain ⟨s2, h2⟩ : ∃ x, x = (Sha.mixed hi0 wl kl k).getD 2 0 := ⟨_, rfl⟩
      obtain ⟨s3, h3⟩ : ∃ x, x = (Sha.mixed hi0 wl kl k).getD 3 0 := ⟨_, rfl⟩
      obtain ⟨s4, h4⟩ : ∃ x, x = (Sha.mixed hi0 wl kl k).getD 4 0 := ⟨_, rfl⟩
      obtain ⟨s5, h5⟩ : ∃ x, x = (Sha.mixed hi0 wl kl k).getD 5 0 := ⟨_, rfl⟩
      obtain ⟨s6, h6⟩ : ∃ x, x = (Sha.mixed hi0 wl kl k).getD 6 0 := ⟨_, rfl⟩
      obtain ⟨s7, h7⟩ : ∃ x, x = (Sha.mixed hi0 wl kl k).getD 7 0 := ⟨_, rfl⟩
      obtain ⟨sw, hw⟩ : ∃ x, x = wl.getD k 0 := ⟨_, rfl⟩
      obtain ⟨sk, hk'⟩ : ∃ x, x = kl.getD k 0 := ⟨_, rfl⟩
      rw [← h0] at c0 b0 d0
      rw [← h1] at c1
      rw [← h2] at c2
      rw [← h3] at c3
      rw [← h4] at c4 b4 d4
      rw [← h5] at c5
      rw [← h6] at c6
      rw [← h7] at c7
      rw [← hw] at cw
      rw [← hk'] at ck
      have HE : Hid (Sha.step (Sha.mixed hi0 wl kl k) (kl.getD k 0) (wl.getD k 0) = Sha.step [s0, s1, s2, s3, s4, s5, s6, s7] sk sw) :=
        Lib.hid (step_seen _ _ _ _ _ _ _ _ _ _ _ _ _ h0 h1 h2 h3 h4 h5 h6 h7 hk' hw)
      have A2 := Lib.hid A1
      have MS := Lib.hid ms
      clear A1 ms hml hmb h0 h1 h2 h3 h4 h5 h6 h7 hw hk'
      go_wp2
      go_quiet (fail)
      go_wp2
      go_quiet ((first | (with_reducible exact quietE (turn6 s4 b4 d4 _) ⟨_, rfl⟩) | (with_reducible exact quietE (turn11 s4 b4 d4 _) ⟨_, rfl⟩) | (with_reducible exact quietE (turn25 s4 b4 d4 _) ⟨_, rfl⟩)))
      go_wp2
      go_quiet ((first | (with_reducible exact quietE (turn2 s0 b0 d0 _) ⟨_, rfl⟩) | (with_reducible exact quietE (turn13 s0 b0 d0 _) ⟨_, rfl⟩) | (with_reducible exact quietE (turn22 s0 b0 d0 _) ⟨_, rfl⟩)))
      generalize he1 : (s7 + bits .xor .u32 (bits .xor .u32 (Sha.rot 67108864 64 s4) (Sha.rot 2097152 2048 s4)) (Sha.rot 128 33554432 s4) + bits .xor .u32 (bits .and .u32 s4 s5) (bits .and .u32 (bits .xor .u32 IntKind.u32.max s4) s6) + sk + sw) % 4294967296 = o1
      generalize he2 : (bits .xor .u32 (bits .xor .u32 (Sha.rot 1073741824 4 s0) (Sha.rot 524288 8192 s0)) (Sha.rot 1024 4194304 s0) + bits .xor .u32 (bits .xor .u32 (bits .and .u32 s0 s1) (bits .and .u32 s0 s2)) (bits .and .u32 s1 s2)) % 4294967296 = o2
      have HS : Hid (Sha.step [s0, s1, s2, s3, s4, s5, s6, s7] sk sw = [(o1 + o2) % 4294967296, s0, s1, s2, (s3 + o1) % 4294967296, s4, s5, s6]) := by
        subst he1 he2
        exact rfl
      clear he1 he2
      generalize Sha.rot 67108864 64 s4 = r1
      generalize Sha.rot 2097152 2048 s4 = r2
      generalize Sha.rot 128 33554432 s4 = r3
      generalize Sha.rot 1073741824 4 s0 = r4
      generalize Sha.rot 524288 8192 s0 = r5
      generalize Sha.rot 1024 4194304 s0 = r6
      go_wp2_with (with_reducible refine wpList_store_block (o := ⟨none, .store _ _ _, _, _, _, _⟩) rfl 58 (.tmp 9) (.tmp 97) rfl (w.heap.size + 1 + 1 + 1 + 1 + 1) rfl (Sha.words [(o1 + o2) % 4294967296, s0, s1, s2, (s3 + o1) % 4294967296, s4, s5, s6]) rfl (Sha.words (Sha.mixed hi0 wl kl k)) 58 (A2.out.drewN _).heap (by kernel_rfl) (MS.out.trans (Sha.words_eight _ _ _ _ _ _ _ _).symm) (Sha.words_one _) ?_)
      go_roundw
      case rel =>
        refine ⟨k + 1, by omega, by go_num, ?_⟩
        rw [show Sha.mixed hi0 wl kl (k + 1) = Sha.step (Sha.mixed hi0 wl kl k) (kl.getD k 0) (wl.getD k 0) from rfl, HE.out, HS.out]
        exact (A2.out.drewN _).row _
      case measure => simp [intOf]; omega
    · have hk64 : k = 64 := by omega
      have H64 : decide ((k : Int) < 64) = false := by simp; omega
      have A0 : Arr2 58 w W wo (w.heap.size + 1 + 1 + 1 + 1 + 1) (Sha.adds (Sha.mixed hi0 wl kl 64) k0 0) := hk64 ▸ A1
      have HM : Hid ((Sha.mixed hi0 wl kl 64).length = 8) := Lib.hid (Sha.mixed_length hi0 wl kl H8.out 64)
      have HL2 : Hid (L = Sha.add (Sha.mixed hi0 wl kl 64) k0) := Lib.hid HL.out
      clear A1 hlt hk64
      obtain ⟨M, hM⟩ : ∃ M, M = Sha.mixed hi0 wl kl 64 := ⟨_, rfl⟩
      rw [← hM] at A0 HM HL2
      clear hM HL
      go_wp2_with (fail)
      go_loopw [99] (fun i wr => ∃ k : Nat, k ≤ 8 ∧ i = .int .i64 k ∧ Arr2 58 w W wr (w.heap.size + 1 + 1 + 1 + 1 + 1) (Sha.adds M k0 k)) (fun i _ => 8 - (intOf i).toNat)
      case atStart => exact ⟨0, by omega, rfl, A0⟩
      case round =>
        clear A0 H64 hk
        obtain ⟨j, hk, rfl, A1⟩ := hrel
        obtain ⟨wo, rfl⟩ : ∃ wo, wo = wr := ⟨_, rfl⟩
        by_cases hlt : j < 8
        · have c0 := A1.cell j (by rw [Sha.adds_length, HM.out]; omega)
          have c1 := A1.other (by have := X6.out; omega) (by omega) X1.out j (by have := K8.out; omega)
          have f0 := A1.frozen j
          have e0 : Hid ((Sha.adds M k0 j).getD j 0 = M.getD j 0) := Lib.hid (Sha.adds_getD M k0 j j (Nat.le_refl j))
          obtain ⟨x0, h0⟩ : ∃ x, x = (Sha.adds M k0 j).getD j 0 := ⟨_, rfl⟩
          obtain ⟨x1, h1⟩ : ∃ x, x = k0.getD j 0 := ⟨_, rfl⟩
          rw [← h0] at c0 e0
          rw [← h1] at c1
          have H1 := Lib.hid h1
          have A2 := Lib.hid A1
          clear A1 h0 h1
          have p0 : (0 : Int) ≤ (j : Int) := by omega
          have q0 : (j : Int) < 8 := by omega
          go_wp2
          refine wp_region_still_tail 8 (by kernel_rfl) (by kernel_rfl) ?_
          obtain ⟨wz, hwz⟩ : ∃ wz, wz = wo.drew := ⟨_, rfl⟩
          have AZ : Hid (Arr2 58 w W wz (w.heap.size + 1 + 1 + 1 + 1 + 1) (Sha.adds M k0 j)) := by
            rw [hwz]; exact A2.out.drew
          have c0 : wz.cell? ⟨w.heap.size + 1 + 1 + 1 + 1 + 1, j, none⟩ = some (.int .u32 x0) := by rw [hwz]; exact c0
          have c1 : wz.cell? ⟨w.heap.size + 1, j, none⟩ = some (.int .u32 x1) := by rw [hwz]; exact c1
          have f0 : wz.frozen? ⟨w.heap.size + 1 + 1 + 1 + 1 + 1, j, none⟩ = false := by rw [hwz]; exact f0
          change wpStill _ _ wo.drew _ _ _
          rw [← hwz]
          have HWZ := Lib.hid hwz
          clear hwz A2
          simp only [List.take_succ_cons, List.take_zero, List.drop_succ_cons, List.drop_zero]
          repeat still_step
          refine wpStill_nil ?_
          change wpList _ _ _ _ _ wo.drew
          rw [← HWZ.out]
          clear HWZ
          go_wp2
          go_roundw
          case rel =>
            refine ⟨j + 1, by omega, by go_num, ?_⟩
            have A3 := AZ.out.set j ((x0 + x1) % 4294967296)
            rw [show Sha.adds M k0 (j + 1) = (Sha.adds M k0 j).set j ((M.getD j 0 + k0.getD j 0) % 4294967296) from rfl, ← e0.out, ← H1.out]
            exact A3
          case measure => simp [intOf]; omega
        · have hj8 : j = 8 := by omega
          have H88 : decide ((j : Int) < 8) = false := by simp; omega
          have A2 : Arr2 58 w W wo (w.heap.size + 1 + 1 + 1 + 1 + 1) L := by
            rw [HL2.out, ← Sha.adds_eight M k0 HM.out, ← hj8]; exact A1
          have ll : (Sha.words L).size = 8 := by rw [HL2.out, Sha.words_size, ← Sha.adds_eight M k0 HM.out, Sha.adds_length, HM.out]
          have z4 : wo.heap[w.heap.size + 1 + 1 + 1 + 1]? = some (.cells (Sha.words Sha.zeros8) 58 (0, 0)) := (A2.others _ (by have := X6.out; omega) (by omega)).trans X4.out
          have hl0 : (Sha.words Sha.zeros8).size = 8 := by rw [Sha.words_size]; rfl
          have hl1 := ll.trans hl0.symm
          have A3 := Lib.hid A2
          have Z4 := Lib.hid z4
          clear A2 A1 z4 hlt hj8
          go_wp2_with (first | (with_reducible refine wpList_load_row (o := ⟨some 111, _, _, _, _, _⟩) rfl 58 (.tmp 9) rfl (w.heap.size + 1 + 1 + 1 + 1 + 1) rfl 58 (Sha.words L) (0, 0) _ A3.out.heap Try.underlying58 rfl (by rw [ll]; kernel_rfl) ?_) | (with_reducible refine wpList_store_block (o := ⟨none, _, _, _, _, _⟩) rfl 58 (.tmp 8) (.tmp 111) rfl (w.heap.size + 1 + 1 + 1 + 1) rfl (Sha.words L) rfl (Sha.words Sha.zeros8) 58 Z4.out (by rw [ll]; kernel_rfl) hl1.symm (Sha.words_one _) ?_))

          exact bodyPost_ret (results_cell_row rfl _ _ (w.heap.size + 1 + 1 + 1 + 1) 58 (Sha.words L) (0, 0) _ rfl (setRow_heap _ _ _ _ _ _ Z4.out) Try.underlying58 rfl (by rw [ll]; kernel_rfl)) rfl ⟨rfl, A3.out.below.setRow' (by omega) _⟩

end Go.Proofs.Ytbdnhoddkdiogaa
