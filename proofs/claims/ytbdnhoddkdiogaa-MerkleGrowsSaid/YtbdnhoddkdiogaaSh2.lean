/- The contract of sha's schedule: the words of a block. The bytes lie in memory, each below 256. -/
import Derived.Test.YtbdnhoddkdiogaaSh1
import Derived.Test.YtbdnhoddkdiogaaShQ
import Derived.StillTailTactics
namespace Go.Proofs.Ytbdnhoddkdiogaa
open Go.RowKit

/-- Block B's cells are these words, block Z's are zs; below the call's own blocks all is as it was. -/
structure Arr (T : Nat) (zs : Array Value) (w wr : World) (Z B : Nat) (l : List Int) : Prop where
  heap : wr.heap[B]? = some (.cells (Sha.words l) T (0, 0))
  zero : wr.heap[Z]? = some (.cells zs T (0, 0))
  ne : Z ≠ B
  below : Below w.heap.size w wr
  le : w.heap.size ≤ B

section
variable {T : Nat} {zs : Array Value} {w wr : World} {Z B : Nat} {l : List Int}
theorem Arr.cell (h : Arr T zs w wr Z B l) (i : Nat) (hi : i < l.length) : wr.cell? ⟨B, i, none⟩ = some (.int .u32 (l.getD i 0)) := by
  rw [cell_of_row wr B i _ _ _ h.heap, Sha.words_get l i hi]
theorem Arr.frozen (h : Arr T zs w wr Z B l) (i : Nat) : wr.frozen? ⟨B, i, none⟩ = false := frozen_of_row wr B i _ _ h.heap
theorem Arr.set (h : Arr T zs w wr Z B l) (i : Nat) (v : Int) : Arr T zs w (wr.setCell ⟨B, i, none⟩ (.int .u32 v)) Z B (l.set i v) :=
  ⟨by rw [heap_setCell_same _ _ _ _ _ _ h.heap, Sha.words_set], by rw [heap_setCell_other _ _ _ _ h.ne]; exact h.zero, h.ne, h.below.setCell h.le _, h.le⟩
theorem Arr.drew (h : Arr T zs w wr Z B l) : Arr T zs w wr.drew Z B l := ⟨h.heap, h.zero, h.ne, h.below.drew, h.le⟩
theorem Arr.drewN (h : Arr T zs w wr Z B l) (n : Nat) : Arr T zs w (wr.drewN n) Z B l := by
  induction n with
  | zero => exact h
  | succ n ih => exact ih.drew
theorem Arr.old (h : Arr T zs w wr Z B l) {p : Addr} (hp : p.block < w.heap.size) : wr.cell? p = w.cell? p := h.below.cell hp
end

theorem _root_.Go.RowKit.Below.setRow' {B : Nat} {a w : World} (h : Below B a w) {g : Nat} (hp : B ≤ g) (cs : Array Value) : Below B a (w.setRow g cs) :=
  h.trans ⟨rfl, rfl, rfl, by simp, fun k hk => setRow_other w g k cs (by omega)⟩

set_option maxRecDepth 100000 in
set_option maxHeartbeats 1000000 in
theorem schedule_any (g off cap : Nat) (xs : List Int) (w : World) (hx : ∀ i, i < 64 → w.cell? ⟨g, off + i, none⟩ = some (.int .u8 (xs.getD i 0))) (hb : ∀ i, 0 ≤ xs.getD i 0 ∧ xs.getD i 0 < 256)
    (hg : g < w.heap.size) (hc : 64 ≤ cap) (hc2 : cap ≤ 9223372036854775807) (_ho : off ≤ 140737488351232) :
    Calls Try.prog 42 #[.slice (some ⟨g, off, none⟩) 64 cap] w fun e w' => e = .returned (.agg (Sha.words (Sha.sched xs 64))) ∧ Below w.heap.size w w' := by
  have hz := rounds_zero
  obtain ⟨L, hL⟩ : ∃ L, L = Sha.sched xs 64 := ⟨_, rfl⟩
  rw [← hL]
  have HL := Lib.hid hL
  clear hL
  have HX := Lib.hid hx
  have HB := Lib.hid hb
  clear hx hb
  have A0 : Arr 60 (Sha.words Sha.zeros64) w ((w.alloc (.cells (Sha.words Sha.zeros64) 60)).alloc (.cells (Sha.words Sha.zeros64) 60)) w.heap.size (w.heap.size + 1) (Sha.pad (Sha.sched xs 0) 64) :=
    ⟨heap_alloc2_new _ _ _, heap_alloc2_old _ _ _, by omega, ((Below.refl _ _).alloc (Nat.le_refl _) _).alloc (by simp) _, by omega⟩
  go_enter Try.func42, Try.ntmps42
  go_wp2_with (fail)
  go_loopw [10] (fun i wr => ∃ k : Nat, k ≤ 16 ∧ i = .int .i64 k ∧ Arr 60 (Sha.words Sha.zeros64) w wr w.heap.size (w.heap.size + 1) (Sha.pad (Sha.sched xs k) 64)) (fun i _ => 16 - (intOf i).toNat)
  case atStart => exact ⟨0, by omega, rfl, A0⟩
  case round =>
    clear A0
    obtain ⟨k, hk, rfl, A1⟩ := hrel
    obtain ⟨wo, rfl⟩ : ∃ wo, wo = wr := ⟨_, rfl⟩
    by_cases hlt : k < 16
    · have hd : (4 * k : Nat) < cap := by omega
      go_wp2
      go_loopw [21] (fun j wr => ∃ q : Nat, q ≤ 4 ∧ j = .int .i64 q ∧ Arr 60 (Sha.words Sha.zeros64) w wr w.heap.size (w.heap.size + 1) ((Sha.pad (Sha.sched xs k) 64).set k (Sha.acc xs k q))) (fun j _ => 4 - (intOf j).toNat)
      case atStart => exact ⟨0, by omega, rfl, by
        rw [show Sha.acc xs k 0 = 0 from rfl, Sha.pad_set_zero _ _ _ (by rw [Sha.sched_length]; omega)]; exact A1⟩
      case round =>
        clear A1
        obtain ⟨q, hq, rfl, A2⟩ := hrel
        by_cases hq4 : q < 4
        · have hl : ((Sha.pad (Sha.sched xs k) 64).set k (Sha.acc xs k q)).length = 64 := by
            rw [List.length_set, Sha.pad_length _ _ (by rw [Sha.sched_length]; omega)]
          have c1 := A2.cell k (by rw [hl]; omega)
          have e1 : ((Sha.pad (Sha.sched xs k) 64).set k (Sha.acc xs k q)).getD k 0 = Sha.acc xs k q := by
            rw [List.getD_eq_getElem?_getD, List.getElem?_set_self (by rw [Sha.pad_length _ _ (by rw [Sha.sched_length]; omega)]; omega)]; rfl
          rw [e1] at c1
          have f1 := A2.frozen k
          have c2 : wr.cell? ⟨g, off + 4 * k + q, none⟩ = some (.int .u8 (xs.getD (4 * k + q) 0)) := by
            rw [A2.old hg, Nat.add_assoc]; exact HX.out _ (by omega)
          obtain ⟨b1, b2⟩ := HB.out (4 * k + q)
          obtain ⟨v1, v2⟩ := Sha.acc_bound xs HB.out k q hq
          have v3 : Sha.acc xs k q < 16777216 := by
            have : (256 : Int) ^ q ≤ 256 ^ 3 := by exact_mod_cast Nat.pow_le_pow_right (by decide : 0 < 256) (show q ≤ 3 by omega)
            omega
          clear hl e1 v2
          obtain ⟨y, hy⟩ : ∃ y, y = xs.getD (4 * k + q) 0 := ⟨_, rfl⟩
          obtain ⟨v, hv⟩ : ∃ v, v = Sha.acc xs k q := ⟨_, rfl⟩
          rw [← hy] at b1 b2 c2
          rw [← hv] at v1 v3 c1
          have HY := Lib.hid hy
          have HV := Lib.hid hv
          have A3 := Lib.hid A2
          clear hy hv A2
          go_wp2
          go_roundw
          case rel =>
            refine ⟨q + 1, by omega, by go_num, ?_⟩
            have A4 := A3.out.set k (bits .or .u32 (v * 256) y)
            rw [List.set_set, Sha.or_byte v y v1 v3 b1 b2, HV.out, HY.out] at A4
            rw [Sha.or_byte v y v1 v3 b1 b2, HV.out, HY.out]
            exact A4
          case measure => simp [intOf]; omega
        · obtain rfl : q = 4 := by omega
          have A3 : Arr 60 (Sha.words Sha.zeros64) w wr w.heap.size (w.heap.size + 1) (Sha.pad (Sha.sched xs (k + 1)) 64) := by
            have e := Sha.pad_set (Sha.sched xs k) 64 (Sha.word xs k) (by rw [Sha.sched_length]; omega)
            rw [Sha.sched_length] at e
            have e2 : Sha.sched xs (k + 1) = Sha.sched xs k ++ [Sha.word xs k] := by
              show _ ++ [Sha.next xs _ k] = _
              unfold Sha.next
              rw [if_pos hlt]
            rw [e2, ← e, ← Sha.acc_four]
            exact A2
          have A4 := Lib.hid A3
          clear A2 A3
          go_wp2
          go_roundw
          case rel => exact ⟨k + 1, by omega, by go_num, A4.out⟩
          case measure => simp [intOf]; omega
    · have hd16 : decide ((k : Int) < 16) = false := by simp; omega
      have hk16 : k = 16 := by omega
      have HK := Lib.hid hk16
      clear hk16
      go_wp2
      go_loopw [7] (fun i wr => ∃ k : Nat, 16 ≤ k ∧ k ≤ 64 ∧ i = .int .i64 k ∧ Arr 60 (Sha.words Sha.zeros64) w wr w.heap.size (w.heap.size + 1) (Sha.pad (Sha.sched xs k) 64)) (fun i _ => 64 - (intOf i).toNat)
      case atStart => exact ⟨16, by omega, by omega, rfl, HK.out ▸ A1⟩
      case round =>
        clear A1 hlt HK
        obtain ⟨j, hk1, hk2, rfl, A2⟩ := hrel
        obtain ⟨wo, rfl⟩ : ∃ wo, wo = wr := ⟨_, rfl⟩
        by_cases hlt : j < 64
        · have hl : (Sha.pad (Sha.sched xs j) 64).length = 64 := Sha.pad_length _ _ (by rw [Sha.sched_length]; omega)
          have get : ∀ i, i < j → wo.cell? ⟨w.heap.size + 1, i, none⟩ = some (.int .u32 ((Sha.sched xs j).getD i 0)) := by
            intro i hi
            rw [← Sha.pad_get_lt (Sha.sched xs j) 64 i (by rw [Sha.sched_length]; exact hi)]
            exact A2.cell i (by rw [hl]; omega)
          have c16 := get (j - 16) (by omega)
          have c15 := get (j - 15) (by omega)
          have c7 := get (j - 7) (by omega)
          have c2 := get (j - 2) (by omega)
          have c0 := A2.cell j (by rw [hl]; omega)
          have f0 := A2.frozen j
          obtain ⟨b15, d15⟩ := Sha.sched_bound xs HB.out j (j - 15)
          obtain ⟨b2, d2⟩ := Sha.sched_bound xs HB.out j (j - 2)
          clear get hl
          obtain ⟨x16, h16⟩ : ∃ x, x = (Sha.sched xs j).getD (j - 16) 0 := ⟨_, rfl⟩
          obtain ⟨x15, h15⟩ : ∃ x, x = (Sha.sched xs j).getD (j - 15) 0 := ⟨_, rfl⟩
          obtain ⟨x7, h7⟩ : ∃ x, x = (Sha.sched xs j).getD (j - 7) 0 := ⟨_, rfl⟩
          obtain ⟨x2, h2⟩ : ∃ x, x = (Sha.sched xs j).getD (j - 2) 0 := ⟨_, rfl⟩
          obtain ⟨x0, h0⟩ : ∃ x, x = (Sha.pad (Sha.sched xs j) 64).getD j 0 := ⟨_, rfl⟩
          rw [← h16] at c16
          rw [← h15] at c15 b15 d15
          rw [← h7] at c7
          rw [← h2] at c2 b2 d2
          rw [← h0] at c0
          clear h0
          have H16 := Lib.hid h16
          have H15 := Lib.hid h15
          have H7 := Lib.hid h7
          have H2 := Lib.hid h2
          have A3 := Lib.hid A2
          clear A2 h16 h15 h7 h2
          go_wp2
          have s15 : IntKind.i64.wrap ((j : Int) - 15) = (j : Int) - 15 := IntWalk.i64_in _ (by omega)
          have s2 : IntKind.i64.wrap ((j : Int) - 2) = (j : Int) - 2 := IntWalk.i64_in _ (by omega)
          have p15 : (0 : Int) ≤ (j : Int) - 15 := by omega
          have q15 : (j : Int) - 15 < 64 := by omega
          have p2 : (0 : Int) ≤ (j : Int) - 2 := by omega
          have q2 : (j : Int) - 2 < 64 := by omega
          have n15 : ((j : Int) - 15).toNat = j - 15 := by omega
          have n2 : ((j : Int) - 2).toNat = j - 2 := by omega
          go_quiet (fail)
          clear s15 s2 n15 n2 p15 q15 p2 q2
          go_wp2
          have s16 : IntKind.i64.wrap ((j : Int) - 16) = (j : Int) - 16 := IntWalk.i64_in _ (by omega)
          have s7 : IntKind.i64.wrap ((j : Int) - 7) = (j : Int) - 7 := IntWalk.i64_in _ (by omega)
          have p16 : (0 : Int) ≤ (j : Int) - 16 := by omega
          have q16 : (j : Int) - 16 < 64 := by omega
          have p7 : (0 : Int) ≤ (j : Int) - 7 := by omega
          have q7 : (j : Int) - 7 < 64 := by omega
          have n16 : ((j : Int) - 16).toNat = j - 16 := by omega
          have n7 : ((j : Int) - 7).toNat = j - 7 := by omega
          have r16 : (16 : Int) ≤ (j : Int) := by omega
          have r7 : (7 : Int) ≤ (j : Int) := by omega
          have t16 : (j : Int) < 80 := by omega
          have t7 : (j : Int) < 71 := by omega
          have t0 : (j : Int) < 64 := by omega
          refine wp_region_still_tail 29 (by kernel_rfl) (by kernel_rfl) ?_
          obtain ⟨wz, hwz⟩ : ∃ wz, wz = (wo.drewN nq).drew := ⟨_, rfl⟩
          have AZ : Hid (Arr 60 (Sha.words Sha.zeros64) w wz w.heap.size (w.heap.size + 1) (Sha.pad (Sha.sched xs j) 64)) := by
            rw [hwz]; exact (A3.out.drewN nq).drew
          have c16 : wz.cell? ⟨w.heap.size + 1, j - 16, none⟩ = some (.int .u32 x16) := by rw [hwz]; exact c16
          have c7 : wz.cell? ⟨w.heap.size + 1, j - 7, none⟩ = some (.int .u32 x7) := by rw [hwz]; exact c7
          have c0 : wz.cell? ⟨w.heap.size + 1, j, none⟩ = some (.int .u32 x0) := by rw [hwz]; exact c0
          have f0 : wz.frozen? ⟨w.heap.size + 1, j, none⟩ = false := by rw [hwz]; exact f0
          change wpStill _ _ (wo.drewN nq).drew _ _ _
          rw [← hwz]
          have HWZ := Lib.hid hwz
          clear hwz A3
          simp only [List.take_succ_cons, List.take_zero, List.drop_succ_cons, List.drop_zero]
          repeat still_step
          still_call ((turn7 x15 b15 d15 _).mono fun _ _ ⟨h1, h2⟩ => ⟨h1, h2.symm⟩)
          repeat still_step
          still_call ((turn18 x15 b15 d15 _).mono fun _ _ ⟨h1, h2⟩ => ⟨h1, h2.symm⟩)
          repeat still_step
          still_call ((turn17 x2 b2 d2 _).mono fun _ _ ⟨h1, h2⟩ => ⟨h1, h2.symm⟩)
          repeat still_step
          still_call ((turn19 x2 b2 d2 _).mono fun _ _ ⟨h1, h2⟩ => ⟨h1, h2.symm⟩)
          repeat still_step
          refine wpStill_nil ?_
          change wpList _ _ _ _ _ (wo.drewN nq).drew
          rw [← HWZ.out]
          clear HWZ
          clear s16 s7 n16 n7 p16 q16 p7 q7
          go_wp2
          go_roundw
          case rel =>
            refine ⟨j + 1, by omega, by omega, by go_num, ?_⟩
            have e := Sha.pad_set (Sha.sched xs j) 64 (Sha.next xs (Sha.sched xs j) j) (by rw [Sha.sched_length]; omega)
            rw [Sha.sched_length] at e
            have e2 : Sha.sched xs (j + 1) = Sha.sched xs j ++ [Sha.next xs (Sha.sched xs j) j] := rfl
            rw [e2, ← e]
            have e3 : Sha.next xs (Sha.sched xs j) j = (x16 + x7 + Sha.sig0 x15 + Sha.sig1 x2) % 4294967296 := by
              unfold Sha.next
              rw [if_neg (by omega), H16.out, H15.out, H7.out, H2.out]
            rw [e3]
            exact AZ.out.set j _
          case measure => simp [intOf]; omega
        · have A3 : Arr 60 (Sha.words Sha.zeros64) w wo w.heap.size (w.heap.size + 1) L := by
            obtain rfl : j = 64 := by omega
            have e64 : Sha.pad (Sha.sched xs 64) 64 = Sha.sched xs 64 := by
              unfold Sha.pad; rw [Sha.sched_length]; simp
            rw [e64, ← HL.out] at A2
            exact A2
          have hl : (Sha.words L).size = 64 := by rw [HL.out, Sha.words_size, Sha.sched_length]
          have hl0 : (Sha.words Sha.zeros64).size = 64 := by rw [Sha.words_size]; rfl
          obtain ⟨zs, hzs⟩ : ∃ zs, zs = Sha.words Sha.zeros64 := ⟨_, rfl⟩
          rw [← hzs] at A3 hl0
          have A4 := Lib.hid A3
          clear A2 A3 hzs hz
          have h64 : decide ((j : Int) < 64) = false := by simp; omega
          go_wp2_with (first | (with_reducible refine wpList_load_row (o := ⟨some 77, _, _, _, _, _⟩) rfl 60 (.tmp 3) rfl (w.heap.size + 1) rfl 60 (Sha.words L) (0, 0) _ A4.out.heap Try.underlying60 rfl (by rw [hl]; kernel_rfl) ?_) | (with_reducible refine wpList_store_block (o := ⟨none, _, _, _, _, _⟩) rfl 60 (.tmp 2) (.tmp 77) rfl w.heap.size rfl (Sha.words L) rfl zs 60 A4.out.zero (by rw [hl]; kernel_rfl) (by rw [hl, hl0]) (Sha.words_one _) ?_))
          exact bodyPost_ret (results_cell_row rfl _ _ w.heap.size 60 (Sha.words L) (0, 0) _ rfl (setRow_heap _ _ _ _ _ _ A4.out.zero) Try.underlying60 rfl (by rw [hl]; kernel_rfl)) rfl ⟨rfl, A4.out.below.setRow' (Nat.le_refl _) _⟩

end Go.Proofs.Ytbdnhoddkdiogaa
