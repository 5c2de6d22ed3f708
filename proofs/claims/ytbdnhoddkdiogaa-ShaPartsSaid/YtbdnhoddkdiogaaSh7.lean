/- The contracts of bytes.Compare over two rows of bytes, and of sha.Less. -/
import Derived.Test.YtbdnhoddkdiogaaSh6
import Derived.Lib.Bytealg
import Derived.Lib.BytesEntry
import Derived.Lib.Bytes
set_option linter.unusedSimpArgs false
set_option linter.unusedVariables false
namespace Go.Proofs.Ytbdnhoddkdiogaa
open Go.RowKit

theorem run_compare {P : Program} (w : World) (b1 b2 : Nat) (c1 c2 : Nat) (xs ys : List Int) (hx : ∀ i, i < xs.length → w.cell? ⟨b1, i, none⟩ = some (.int .u8 (xs.getD i 0))) (hy : ∀ i, i < ys.length → w.cell? ⟨b2, i, none⟩ = some (.int .u8 (ys.getD i 0))) :
    (Extern.BytealgCompare.compare #[.slice (some ⟨b1, 0, none⟩) xs.length c1, .slice (some ⟨b2, 0, none⟩) ys.length c2]).run P w = .ok (.int .i64 (Lib.compareBytes (Lib.bytesOf xs) (Lib.bytesOf ys))) w := by
  have key : ∀ (b : Nat) (zs : List Int), (∀ i, i < zs.length → w.cell? ⟨b, i, none⟩ = some (.int .u8 (zs.getD i 0))) → (Extern.Bytes.loadBytes ⟨b, 0, none⟩ zs.length .empty).run P w = .ok (⟨(Lib.bytesOf zs).toArray⟩ : ByteArray) w := by
    intro b zs hz
    have h := Lib.run_loadBytesX (P := P) (w := w) zs ⟨b, 0, none⟩ .empty (fun j x hj => by
      obtain ⟨hlt, he⟩ := List.getElem?_eq_some_iff.1 hj
      have h1 := hz j hlt
      rw [List.getD_eq_getElem?_getD, hj] at h1
      have e : (⟨b, 0, none⟩ : Addr).add j = ⟨b, j, none⟩ := by
        by_cases h0 : j = 0
        · subst h0; simp [Addr.add]
        · simp [Addr.add, h0]
      rw [e]; simpa using h1)
    rw [h]
    congr 1
    simp [ByteArray.empty, ByteArray.emptyWithCapacity, Lib.bytesOf]
    rfl
  change Sem.run P (do pure (goInt (Extern.BytealgCompare.cmp (← Extern.Bytes.bytesOf (.slice (some ⟨b1, 0, none⟩) xs.length c1)) (← Extern.Bytes.bytesOf (.slice (some ⟨b2, 0, none⟩) ys.length c2))))) w = _
  simp only [Extern.Bytes.bytesOf, Sem.run_bind, key b1 xs hx, key b2 ys hy, Result.andThen, Sem.run_pure]
  rw [Lib.cmp_eq]
  rfl

set_option maxRecDepth 100000 in
set_option maxHeartbeats 4000000 in
theorem compare_any (w : World) (b1 b2 : Nat) (c1 c2 : Nat) (xs ys : List Int) (hx : ∀ i, i < xs.length → w.cell? ⟨b1, i, none⟩ = some (.int .u8 (xs.getD i 0))) (hy : ∀ i, i < ys.length → w.cell? ⟨b2, i, none⟩ = some (.int .u8 (ys.getD i 0))) :
    Calls Try.prog 47 #[.slice (some ⟨b1, 0, none⟩) xs.length c1, .slice (some ⟨b2, 0, none⟩) ys.length c2] w fun e w' => e = .returned (.int .i64 (Lib.compareBytes (Lib.bytesOf xs) (Lib.bytesOf ys))) ∧ w' = w := by
  have hr := run_compare (P := Try.prog) w b1 b2 c1 c2 xs ys hx hy
  clear hx hy
  go_enter Try.func47, Try.ntmps47
  go_wp2
  rw [run_callFunc_extern Try.func66 (by kernel_rfl) (by kernel_rfl) (by kernel_rfl) (e := Extern.BytealgCompare.compare) (by kernel_rfl), hr]
  simp only [Result.andThen]
  rw [Oper.upon_value]
  go_wp2
  go_ret
  exact ⟨rfl, rfl⟩

theorem below_drewNz {n : Nat} {w w' : World} (h : Below n w w') (m : Nat) : Below n w (w'.drewN m) := ⟨h.os, h.tape, h.output, h.size, h.block⟩

def lessB (xs ys : List Int) : Bool := decide (Lib.compareBytes (Lib.bytesOf xs) (Lib.bytesOf ys) < 0)

set_option maxRecDepth 100000 in
set_option maxHeartbeats 4000000 in
theorem less_any (A B : List Int) (hA : A.length = 32) (hB : B.length = 32) (w : World) :
    Calls Try.prog 19 #[.agg (Sha.bytes A), .agg (Sha.bytes B)] w fun e w' => e = .returned (.bool (lessB A B)) ∧ Below w.heap.size w w' := by
  have hcall : ∀ w0, w0.heap[w.heap.size]? = some (.cells (Sha.bytes A) 25 (0, 0)) → w0.heap[w.heap.size + 1]? = some (.cells (Sha.bytes B) 25 (0, 0)) →
      Calls Try.prog 47 #[.slice (some ⟨w.heap.size, 0, none⟩) 32 32, .slice (some ⟨w.heap.size + 1, 0, none⟩) 32 32] w0 fun e w' => e = .returned (.int .i64 (Lib.compareBytes (Lib.bytesOf A) (Lib.bytesOf B))) ∧ w' = w0 := by
    intro w0 h1 h2
    have := compare_any w0 w.heap.size (w.heap.size + 1) 32 32 A B (fun i hi => by rw [cell_of_row _ _ i _ _ _ h1, bytes_get A i hi]) (fun i hi => by rw [cell_of_row _ _ i _ _ _ h2, bytes_get B i hi])
    rw [hA, hB] at this
    exact this
  have hcmp : Hid (∀ n, Calls Try.prog 47 #[.slice (some ⟨w.heap.size, 0, none⟩) 32 32, .slice (some ⟨w.heap.size + 1, 0, none⟩) 32 32] (((w.alloc (.cells (Sha.bytes A) 25)).alloc (.cells (Sha.bytes B) 25)).drewN n) fun e w' => e = .returned (.int .i64 (Lib.compareBytes (Lib.bytesOf A) (Lib.bytesOf B))) ∧ ((w.alloc (.cells (Sha.bytes A) 25)).alloc (.cells (Sha.bytes B) 25)).drewN n = w') :=
    Lib.hid fun n => (hcall ((((w.alloc (.cells (Sha.bytes A) 25)).alloc (.cells (Sha.bytes B) 25)).drewN n)) (by rw [World.heap_drewN]; exact heap_alloc2_old w _ _) (by rw [World.heap_drewN]; exact heap_alloc2_new w _ _)).mono fun _ _ ⟨h1, h2⟩ => ⟨h1, h2.symm⟩
  clear hcall
  go_enter Try.func19, Try.ntmps19
  go_wp2
  go_quiet ((exact quietE (hcmp.out _) ⟨_, rfl⟩))
  go_wp2
  go_ret
  exact ⟨rfl, below_drewNz (((Below.refl _ _).alloc (Nat.le_refl _) _).alloc (by simp) _) _⟩
end Go.Proofs.Ytbdnhoddkdiogaa
