/- The contract of the document's Less. -/
import Derived.Test.YtbdnhoddkdiogaaSh8
import Derived.Test.YtbdnhoddkdiogaaShK
import Derived.Test.YtbdnhoddkdiogaaShC
set_option linter.unusedSimpArgs false
set_option linter.unusedVariables false
namespace Go.Proofs.Ytbdnhoddkdiogaa
open Go.RowKit

/-- Two blocks of bytes at the call's own first two places. -/
structure Two (T : Nat) (A B : List Int) (w wr : World) : Prop where
  one : wr.heap[w.heap.size]? = some (.cells (Sha.bytes A) T (0, 0))
  two : wr.heap[w.heap.size + 1]? = some (.cells (Sha.bytes B) T (0, 0))
  below : Below w.heap.size w wr
theorem Two.past {T : Nat} {A B : List Int} {w wr w' : World} (h : Two T A B w wr) (hs : w.heap.size + 1 < wr.heap.size) (hb : Below wr.heap.size wr w') : Two T A B w w' :=
  ⟨(hb.block _ (by omega)).trans h.one, (hb.block _ hs).trans h.two, h.below.trans (hb.mono (by omega))⟩
theorem Two.drewN {T : Nat} {A B : List Int} {w wr : World} (h : Two T A B w wr) (n : Nat) : Two T A B w (wr.drewN n) :=
  ⟨h.one, h.two, below_drewNz h.below n⟩
theorem Two.cellA {T : Nat} {A B : List Int} {w wr : World} (h : Two T A B w wr) (i : Nat) (hi : i < A.length) : wr.cell? ⟨w.heap.size, i, none⟩ = some (.int .u8 (A.getD i 0)) := by
  rw [cell_of_row _ _ i _ _ _ h.one, bytes_get A i hi]
theorem Two.cellB {T : Nat} {A B : List Int} {w wr : World} (h : Two T A B w wr) (i : Nat) (hi : i < B.length) : wr.cell? ⟨w.heap.size + 1, i, none⟩ = some (.int .u8 (B.getD i 0)) := by
  rw [cell_of_row _ _ i _ _ _ h.two, bytes_get B i hi]
theorem two_start (T : Nat) (A B : List Int) (w : World) : Two T A B w ((w.alloc (.cells (Sha.bytes A) T)).alloc (.cells (Sha.bytes B) T)) :=
  ⟨heap_alloc2_old _ _ _, heap_alloc2_new _ _ _, ((Below.refl _ _).alloc (Nat.le_refl _) _).alloc (by simp) _⟩

set_option maxRecDepth 100000 in
set_option maxHeartbeats 4000000 in
theorem refLess_any (A B : List Int) (hA : A.length = 32) (hB : B.length = 32) (w : World) :
    Calls Try.prog 20 #[.agg (Sha.bytes A), .agg (Sha.bytes B)] w fun e w' => e = .returned (.bool (lex A B)) ∧ Below w.heap.size w w' := by
  obtain ⟨X, hX⟩ : ∃ X, X = lex A B := ⟨_, rfl⟩
  rw [← hX]
  have T0 := two_start 25 A B w
  have H0 : Hid (lex (A.drop 0) (B.drop 0) = X) := Lib.hid (by rw [hX]; rfl)
  clear hX
  go_enter Try.func20, Try.ntmps20
  go_wp2
  go_loopw [6] (fun i wr => ∃ k : Nat, k ≤ 32 ∧ i = .int .i64 k ∧ Hid (lex (A.drop k) (B.drop k) = X) ∧ Two 25 A B w wr) (fun i _ => 32 - (intOf i).toNat)
  case atStart => exact ⟨0, by omega, rfl, H0, T0⟩
  case round =>
    clear T0 H0
    obtain ⟨k, hk, rfl, HX, TT⟩ := hrel
    by_cases hlt : k < 32
    · have c1 := TT.cellA k (by omega)
      have c2 := TT.cellB k (by omega)
      have hd := lex_drop A B k (by omega) (by omega)
      rw [HX.out] at hd
      obtain ⟨x, hx⟩ : ∃ x, x = A.getD k 0 := ⟨_, rfl⟩
      obtain ⟨y, hy⟩ : ∃ y, y = B.getD k 0 := ⟨_, rfl⟩
      rw [← hx] at c1 hd
      rw [← hy] at c2 hd
      have T2 := Lib.hid TT
      have HDD := Lib.hid hd
      clear hx hy hd TT HX
      go_wp2
      by_cases hxy : x = y
      · have H2 : Hid (lex (A.drop (k + 1)) (B.drop (k + 1)) = X) := Lib.hid (by rw [HDD.out, if_pos hxy])
        clear HDD
        go_quiet (fail)
        go_wp2
        go_roundw
        case rel => exact ⟨k + 1, by omega, by go_num, H2, T2.out.drewN _⟩
        case measure => simp [intOf]; omega
      · have H2 : Hid (decide (x < y) = X) := Lib.hid (by rw [HDD.out, if_neg hxy])
        clear HDD
        go_quiet (fail)
        go_wp2
        go_quiet (fail)
        go_wp2
        go_ret
        rw [H2.out]
        exact ⟨rfl, ((T2.out.drewN _).drewN _).below⟩
    · have hf : decide ((k : Int) < 32) = false := by simp; omega
      have H2 : Hid (false = X) := Lib.hid (by rw [← HX.out, List.drop_eq_nil_of_le (by omega)]; rfl)
      have T2 := Lib.hid TT
      clear HX TT
      go_wp2
      go_ret
      exact ⟨by rw [← H2.out]; rfl, T2.out.below⟩
end Go.Proofs.Ytbdnhoddkdiogaa
