/- The contract of bytes.Clone. -/
import Derived.Test.YtbdnhoddkdiogaaSh3
import Derived.Test.YtbdnhoddkdiogaaShB
import Derived.Lib.SliceRun
namespace Go.Proofs.Ytbdnhoddkdiogaa
open Go.RowKit

theorem u8_info : ∃ i, Try.prog.info? 5 = some i ∧ i.zero = some (.int .u8 0) ∧ i.size = 1 ∧ i.bytes = 1 :=
  info_parts (by kernel_rfl)

set_option maxRecDepth 100000 in
theorem clone_any (v : Value) (xs : List Int) (w : World) (hv : HoldsB w v xs) :
    Calls Try.prog 38 #[v] w fun e w' => ∃ v', e = .returned v' ∧ OwnB 5 w.heap.size w' v' xs ∧ Below w.heap.size w w' := by
  rcases hv with ⟨⟨a, c, rfl⟩, rfl⟩ | ⟨g, off, cap, rfl, hc, hc2, ho, hg, hx⟩
  · cases a with
    | none =>
      have hn := fun w => Lib.run_eql_slice_nil (P := Try.prog) w 22 5 none 0 c 0 0 Try.underlying22
      go_enter Try.func38, Try.ntmps38
      go_wp2
      go_ret
      exact ⟨_, rfl, World.ownsRow_nil _ _ _ _, Below.refl _ _⟩
    | some A =>
      have hn := fun w => Lib.run_eql_slice_nil (P := Try.prog) w 22 5 (some A) 0 c 0 0 Try.underlying22
      go_enter Try.func38, Try.ntmps38
      go_wp2_with (at_builtin; refine wpList_append_u8_0 _ rfl (.tmp 5) (.tmp 6) 22 rfl w.heap.size 5 Try.underlying22 u8_info (.slice (some ⟨w.heap.size, 0, none⟩) 0 0) [] rfl (World.ownsRow_lit w #[] 0 (Nat.le_refl _) (by decide) rfl) A c rfl (by simp) (by simp) ?_; intro v' w1 hown hgrow hnil)
      go_ret
      exact ⟨_, rfl, hown, ((Below.refl _ _).alloc (Nat.le_refl _) _).grown hgrow (by simp) (fun k hk => by cases hk; exact Nat.le_refl _)⟩
  · have hn := fun w => Lib.run_eql_slice_nil (P := Try.prog) w 22 5 (some ⟨g, off, none⟩) xs.length cap 0 0 Try.underlying22
    go_enter Try.func38, Try.ntmps38
    go_wp2_with (at_builtin; refine wpList_append_u8 _ rfl (.tmp 5) (.tmp 6) 22 rfl w.heap.size 5 Try.underlying22 u8_info (.slice (some ⟨w.heap.size, 0, none⟩) 0 0) [] rfl (World.ownsRow_lit w #[] 0 (Nat.le_refl _) (by decide) rfl) g off cap xs rfl (fun j hj => (World.cell?_alloc_past _ _ _ (by exact hg)).trans (hx j hj)) (by simp; omega) (by simp) ?_; intro v' w1 hown hgrow hnil)
    go_ret
    exact ⟨_, rfl, hown, ((Below.refl _ _).alloc (Nat.le_refl _) _).grown hgrow (by simp) (fun k hk => by cases hk; exact Nat.le_refl _)⟩
end Go.Proofs.Ytbdnhoddkdiogaa
