/- The walk of ShaHex. -/
import Derived.Test.YtbdnhoddkdiogaaSh10
set_option linter.unusedSimpArgs false
set_option linter.unusedVariables false
namespace Go.Proofs.Ytbdnhoddkdiogaa
open Go.RowKit

theorem str_at (l : List Int) (hb : ∀ x ∈ l, 0 ≤ x ∧ x < 256) (i : Int) (v : Int) (h0 : 0 ≤ i) (hv : l[i.toNat]? = some v) (hi : i.toNat < (strOfNums l).size) : (((strOfNums l)[i.toNat]'hi).toNat : Int) = v := by
  obtain ⟨hlt, he⟩ := List.getElem?_eq_some_iff.1 hv
  have e : (strOfNums l)[i.toNat]'hi = UInt8.ofNat (l[i.toNat]).toNat := by
    show (strOfNums l).data[i.toNat] = _
    simp [strOfNums]
  rw [e, UInt8.toNat_ofNat', he]
  have := hb v (he ▸ List.getElem_mem hlt)
  omega
theorem hexs_at (l : List Int) : ∀ (k : Nat), k < l.length → (Sha.hexs l)[2 * k]? = some (Sha.dig (l.getD k 0 / 16)) ∧ (Sha.hexs l)[2 * k + 1]? = some (Sha.dig (l.getD k 0 % 16)) := by
  induction l with
  | nil => intro k h; simp at h
  | cons x l ih =>
    intro k h
    rw [Sha.hexs_cons]
    cases k with
    | zero => exact ⟨rfl, rfl⟩
    | succ k =>
      have := ih k (by simpa using h)
      rw [show 2 * (k + 1) = 2 * k + 1 + 1 by omega]
      simpa using this

structure OneB (T : Nat) (A : List Int) (w wr : World) : Prop where
  one : wr.heap[w.heap.size]? = some (.cells (Sha.bytes A) T (0, 0))
  below : Below w.heap.size w wr
theorem OneB.past {T : Nat} {A : List Int} {w wr w' : World} (h : OneB T A w wr) (hs : w.heap.size < wr.heap.size) (hb : Below wr.heap.size wr w') : OneB T A w w' :=
  ⟨(hb.block _ hs).trans h.one, h.below.trans (hb.mono (by omega))⟩
theorem OneB.lt {T : Nat} {A : List Int} {w wr : World} (h : OneB T A w wr) : w.heap.size < wr.heap.size := by
  rcases Nat.lt_or_ge w.heap.size wr.heap.size with h' | h'
  · exact h'
  · have := h.one
    rw [Array.getElem?_eq_none h'] at this
    cases this
theorem OneB.cell {T : Nat} {A : List Int} {w wr : World} (h : OneB T A w wr) (i : Nat) (hi : i < A.length) : wr.cell? ⟨w.heap.size, i, none⟩ = some (.int .u8 (A.getD i 0)) := by
  rw [cell_of_row _ _ i _ _ _ h.one, bytes_get A i hi]

set_option maxRecDepth 100000 in
set_option maxHeartbeats 4000000 in
theorem shaHex_row (A : List Int) (hA : A.length = 32) (bA : ∀ x ∈ A, 0 ≤ x ∧ x < 256) (w : World) :
    Calls Try.prog 4 #[.agg (Sha.bytes A)] w fun e w' => e = .returned (.bool true) ∧ Below w.heap.size w w' := by
  have HSA : Hid ((Try.prog.info? 25).map (·.size) = some (Sha.bytes A).size) := Lib.hid (by rw [Sha.bytes_size, hA]; kernel_rfl)
  have KH := Lib.hid (hex_any A hA bA)
  obtain ⟨S, hS⟩ : ∃ S, S = Sha.hexs A := ⟨_, rfl⟩
  have HS := Lib.hid hS
  have SB : Hid (∀ x ∈ S, 0 ≤ x ∧ x < 256) := Lib.hid (fun x hx => by have := Sha.hexs_bound A bA x (hS ▸ hx); omega)
  have hsz : (strOfNums S).size = 64 := by rw [strOfNums_size, hS, Sha.hexs_length, hA]
  have BA := Lib.hid bA
  rw [← hS] at KH
  clear hS bA
  go_enter Try.func4, Try.ntmps4
  go_wp2_with (first | (go_at_call 15; refine (awake_any _).mono ?_; rintro e w1 ⟨rfl, hb1⟩; replace hb1 := Lib.hid hb1) | (with_reducible refine wpList_load_row (o := ⟨some 8, _, _, _, _, _⟩) rfl 25 (.tmp 1) rfl w.heap.size rfl 25 (Sha.bytes A) (0, 0) _ ((hb1.out.block _ (by simp)).trans (heap_alloc_new _ _)) Try.underlying25 rfl HSA.out ?_) | (go_at_call 18; refine (KH.out _).mono ?_; rintro e w2 ⟨rfl, hb2⟩; replace hb2 := Lib.hid hb2))
  have O0 : OneB 25 A w (w.alloc (.cells (Sha.bytes A) 25)) := ⟨heap_alloc_new _ _, (Below.refl _ _).alloc (Nat.le_refl _) _⟩
  have O1 := O0.past (by simp) hb1.out
  have O2 := O1.past O1.lt hb2.out
  clear O0 O1 hb1 hb2
  go_loopw [13] (fun i wr => ∃ k : Nat, k ≤ 32 ∧ i = .int .i64 k ∧ OneB 25 A w wr) (fun i _ => 32 - (intOf i).toNat)
  case atStart => exact ⟨0, by omega, rfl, O2⟩
  case round =>
    clear O2
    obtain ⟨k, hk, rfl, O3⟩ := hrel
    by_cases hlt : k < 32
    · obtain ⟨g1, g2⟩ := hexs_at A k (by omega)
      rw [← HS.out] at g1 g2
      obtain ⟨b0, b1⟩ := Sha.getD_bound8 BA.out k (by omega)
      have O4 := Lib.hid O3
      have cc : Hid (∀ W, Below wr.heap.size wr W → W.cell? ⟨w.heap.size, k, none⟩ = some (.int .u8 (A.getD k 0))) := Lib.hid (fun W hW => (O4.out.past O4.out.lt hW).cell k (by omega))
      clear O3
      obtain ⟨x, hx⟩ : ∃ x, x = A.getD k 0 := ⟨_, rfl⟩
      rw [← hx] at g1 g2 b0 b1 cc
      clear hx
      have t1 : x.tdiv 16 = x / 16 := Int.tdiv_eq_ediv_of_nonneg b0
      have t2 : x.tmod 16 = x % 16 := Int.tmod_eq_emod_of_nonneg b0
      have t3 : IntKind.u8.wrap (x / 16) = x / 16 := by unfold IntKind.wrap; simp [IntKind.signed, IntKind.bits]; omega
      have t4 : IntKind.u8.wrap (x % 16) = x % 16 := by unfold IntKind.wrap; simp [IntKind.signed, IntKind.bits]; omega
      have p1 : (0 : Int) ≤ x / 16 := by omega
      have p2 : x / 16 < 16 := by omega
      have p3 : (0 : Int) ≤ x % 16 := by omega
      have p4 : x % 16 < 16 := by omega
      have q1 : (0 : Int) ≤ 2 * (k : Int) := by omega
      have q2 : (0 : Int) ≤ 2 * (k : Int) + 1 := by omega
      have q3 : (2 * (k : Int)).toNat = 2 * k := by omega
      have q4 : (2 * (k : Int) + 1).toNat = 2 * k + 1 := by omega
      have q5 : 2 * (k : Int) < 64 := by omega
      have q6 : 2 * (k : Int) + 1 < 64 := by omega
      have q7 : IntKind.i64.wrap (2 * (k : Int)) = 2 * (k : Int) := IntWalk.i64_in _ (by omega)
      have q8 : IntKind.i64.wrap (2 * (k : Int) + 1) = 2 * (k : Int) + 1 := IntWalk.i64_in _ (by omega)
      go_wp2
      refine wp_region_quietB (by kernel_rfl) (by kernel_rfl) ?_
      repeat (first
        | (refine BigFrame.wpQuiet_skip rfl ?_; simp only [Act.put, List.setIfInBounds_toArray, List.set_cons_zero, List.set_cons_succ])
        | (refine BigFrame.wpQuiet_want rfl (fun K hK => ?_); (first | (refine quiet_moveV _ (.string (strOfNums S)) rfl rfl ?_) | (refine quiet_moveV _ (.int .i64 (k : Int)) rfl rfl ?_) | (refine quiet_moveV _ (.string ⟨#[48, 49, 50, 51, 52, 53, 54, 55, 56, 57, 97, 98, 99, 100, 101, 102]⟩) rfl rfl ?_) | (refine quiet_moveV _ (.bool false) rfl rfl ?_) | (refine quiet_run (.int .i64 (2 * (k : Int))) ?_ ?_; · intro W hW; have c0 := cc.out W hW; clear hW; go_simp; done) | (refine quiet_run (.int .i64 (2 * (k : Int) + 1)) ?_ ?_; · intro W hW; have c0 := cc.out W hW; clear hW; go_simp; done) | (refine quiet_run (.pointer (some ⟨w.heap.size, k, none⟩)) ?_ ?_; · intro W hW; have c0 := cc.out W hW; clear hW; go_simp; done) | (refine quiet_run (.int .u8 x) ?_ ?_; · intro W hW; have c0 := cc.out W hW; clear hW; go_simp; done) | (refine quiet_run (.int .u8 (x / 16)) ?_ ?_; · intro W hW; have c0 := cc.out W hW; clear hW; go_simp; done) | (refine quiet_run (.int .u8 (x % 16)) ?_ ?_; · intro W hW; have c0 := cc.out W hW; clear hW; go_simp; done) | (refine quiet_run (.int .u8 (Sha.dig (x / 16))) ?_ ?_; · intro W hW; have c0 := cc.out W hW; clear hW; go_simp; exact str_at S SB.out _ _ q1 (by rw [q3]; exact g1) _) | (refine quiet_run (.int .u8 (Sha.dig (x / 16))) ?_ ?_; · intro W hW; have c0 := cc.out W hW; clear hW; go_simp; exact digit_at _ p1 p2 _) | (refine quiet_run (.int .u8 (Sha.dig (x % 16))) ?_ ?_; · intro W hW; have c0 := cc.out W hW; clear hW; go_simp; exact str_at S SB.out _ _ q2 (by rw [q4]; exact g2) _) | (refine quiet_run (.int .u8 (Sha.dig (x % 16))) ?_ ?_; · intro W hW; have c0 := cc.out W hW; clear hW; go_simp; exact digit_at _ p3 p4 _) | (refine quiet_run (.bool false) ?_ ?_; · intro W hW; have c0 := cc.out W hW; clear hW; go_simp; done)); refine hK _ ?_; clear hK K; simp only [Act.put, List.setIfInBounds_toArray, List.set_cons_zero, List.set_cons_succ]))
      refine wpQuiet_nil ?_
      intro w3 hb3
      have HB3 := Lib.hid (O4.out.past O4.out.lt hb3)
      clear hb3 cc O4
      go_wp2
      go_roundw
      case rel => exact ⟨k + 1, by omega, by go_num, HB3.out⟩
      case measure => simp [intOf]; omega
    · have hf : decide ((k : Int) < 32) = false := by simp; omega
      have O4 := Lib.hid O3
      clear O3
      go_wp2
      go_ret
      exact ⟨rfl, O4.out.below⟩
end Go.Proofs.Ytbdnhoddkdiogaa
