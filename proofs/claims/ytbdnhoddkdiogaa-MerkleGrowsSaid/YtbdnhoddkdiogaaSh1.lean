/- The contracts of the small functions of package sha. The words fit 32 bits. -/
import Derived.Test.YtbdnhoddkdiogaaRows
import Derived.WalkKit
import Derived.WalkSpells
import Derived.WalkLawsBesides
import Derived.Lib.Hide
import Derived.Deep.MidRow
import Derived.Deep.WholeRow
import Derived.Deep.QuietTactic
import Derived.BigQuiet
import Derived.Test.YtbdnhoddkdiogaaShP
import Derived.Test.YtbdnhoddkdiogaaShL
namespace Go.Proofs.Ytbdnhoddkdiogaa
open Go.RowKit

theorem turn2 (x : Int) (_hx : 0 ≤ x) (_hx2 : x < 4294967296) (w : World) :
    Calls Try.prog 64 #[.int .u32 x, .int .i64 2] w fun e w' => e = .returned (.int .u32 (Sha.rot 1073741824 4 x)) ∧ w = w' := by
  have hc : bits BinOp.and IntKind.u64 (IntKind.u64.wrap (-2)) 31 = 30 := by decide
  go_enter Try.func64, Try.ntmps64
  go_wp2
  go_ret
  exact ⟨rfl, rfl⟩
theorem turn6 (x : Int) (_hx : 0 ≤ x) (_hx2 : x < 4294967296) (w : World) :
    Calls Try.prog 64 #[.int .u32 x, .int .i64 6] w fun e w' => e = .returned (.int .u32 (Sha.rot 67108864 64 x)) ∧ w = w' := by
  have hc : bits BinOp.and IntKind.u64 (IntKind.u64.wrap (-6)) 31 = 26 := by decide
  go_enter Try.func64, Try.ntmps64
  go_wp2
  go_ret
  exact ⟨rfl, rfl⟩
theorem turn7 (x : Int) (_hx : 0 ≤ x) (_hx2 : x < 4294967296) (w : World) :
    Calls Try.prog 64 #[.int .u32 x, .int .i64 7] w fun e w' => e = .returned (.int .u32 (Sha.rot 33554432 128 x)) ∧ w = w' := by
  have hc : bits BinOp.and IntKind.u64 (IntKind.u64.wrap (-7)) 31 = 25 := by decide
  go_enter Try.func64, Try.ntmps64
  go_wp2
  go_ret
  exact ⟨rfl, rfl⟩
theorem turn11 (x : Int) (_hx : 0 ≤ x) (_hx2 : x < 4294967296) (w : World) :
    Calls Try.prog 64 #[.int .u32 x, .int .i64 11] w fun e w' => e = .returned (.int .u32 (Sha.rot 2097152 2048 x)) ∧ w = w' := by
  have hc : bits BinOp.and IntKind.u64 (IntKind.u64.wrap (-11)) 31 = 21 := by decide
  go_enter Try.func64, Try.ntmps64
  go_wp2
  go_ret
  exact ⟨rfl, rfl⟩
theorem turn13 (x : Int) (_hx : 0 ≤ x) (_hx2 : x < 4294967296) (w : World) :
    Calls Try.prog 64 #[.int .u32 x, .int .i64 13] w fun e w' => e = .returned (.int .u32 (Sha.rot 524288 8192 x)) ∧ w = w' := by
  have hc : bits BinOp.and IntKind.u64 (IntKind.u64.wrap (-13)) 31 = 19 := by decide
  go_enter Try.func64, Try.ntmps64
  go_wp2
  go_ret
  exact ⟨rfl, rfl⟩
theorem turn17 (x : Int) (_hx : 0 ≤ x) (_hx2 : x < 4294967296) (w : World) :
    Calls Try.prog 64 #[.int .u32 x, .int .i64 17] w fun e w' => e = .returned (.int .u32 (Sha.rot 32768 131072 x)) ∧ w = w' := by
  have hc : bits BinOp.and IntKind.u64 (IntKind.u64.wrap (-17)) 31 = 15 := by decide
  go_enter Try.func64, Try.ntmps64
  go_wp2
  go_ret
  exact ⟨rfl, rfl⟩
theorem turn18 (x : Int) (_hx : 0 ≤ x) (_hx2 : x < 4294967296) (w : World) :
    Calls Try.prog 64 #[.int .u32 x, .int .i64 18] w fun e w' => e = .returned (.int .u32 (Sha.rot 16384 262144 x)) ∧ w = w' := by
  have hc : bits BinOp.and IntKind.u64 (IntKind.u64.wrap (-18)) 31 = 14 := by decide
  go_enter Try.func64, Try.ntmps64
  go_wp2
  go_ret
  exact ⟨rfl, rfl⟩
theorem turn19 (x : Int) (_hx : 0 ≤ x) (_hx2 : x < 4294967296) (w : World) :
    Calls Try.prog 64 #[.int .u32 x, .int .i64 19] w fun e w' => e = .returned (.int .u32 (Sha.rot 8192 524288 x)) ∧ w = w' := by
  have hc : bits BinOp.and IntKind.u64 (IntKind.u64.wrap (-19)) 31 = 13 := by decide
  go_enter Try.func64, Try.ntmps64
  go_wp2
  go_ret
  exact ⟨rfl, rfl⟩
theorem turn22 (x : Int) (_hx : 0 ≤ x) (_hx2 : x < 4294967296) (w : World) :
    Calls Try.prog 64 #[.int .u32 x, .int .i64 22] w fun e w' => e = .returned (.int .u32 (Sha.rot 1024 4194304 x)) ∧ w = w' := by
  have hc : bits BinOp.and IntKind.u64 (IntKind.u64.wrap (-22)) 31 = 10 := by decide
  go_enter Try.func64, Try.ntmps64
  go_wp2
  go_ret
  exact ⟨rfl, rfl⟩
theorem turn25 (x : Int) (_hx : 0 ≤ x) (_hx2 : x < 4294967296) (w : World) :
    Calls Try.prog 64 #[.int .u32 x, .int .i64 25] w fun e w' => e = .returned (.int .u32 (Sha.rot 128 33554432 x)) ∧ w = w' := by
  have hc : bits BinOp.and IntKind.u64 (IntKind.u64.wrap (-25)) 31 = 7 := by decide
  go_enter Try.func64, Try.ntmps64
  go_wp2
  go_ret
  exact ⟨rfl, rfl⟩

theorem start_any (w : World) :
    Calls Try.prog 39 #[] w fun e w' => e = .returned (.agg (Sha.words Sha.start)) ∧ Below w.heap.size w w' := by
  go_enter Try.func39, Try.ntmps39
  go_wp2
  exact bodyPost_ret (v := .agg (Sha.words Sha.start)) (results_cell_row rfl _ _ w.heap.size 58 (Sha.words Sha.start) (0, 0) _ rfl (heap_alloc_new _ _) Try.underlying58 rfl (by kernel_rfl)) rfl ⟨rfl, (Below.refl _ _).alloc (Nat.le_refl _) _⟩

set_option maxRecDepth 100000 in
theorem rounds_build (w : World) : (Instr.build 60 #[(0, .int .u32 1116352408), (1, .int .u32 1899447441), (2, .int .u32 3049323471), (3, .int .u32 3921009573), (4, .int .u32 961987163), (5, .int .u32 1508970993), (6, .int .u32 2453635748), (7, .int .u32 2870763221), (8, .int .u32 3624381080), (9, .int .u32 310598401), (10, .int .u32 607225278), (11, .int .u32 1426881987), (12, .int .u32 1925078388), (13, .int .u32 2162078206), (14, .int .u32 2614888103), (15, .int .u32 3248222580), (16, .int .u32 3835390401), (17, .int .u32 4022224774), (18, .int .u32 264347078), (19, .int .u32 604807628), (20, .int .u32 770255983), (21, .int .u32 1249150122), (22, .int .u32 1555081692), (23, .int .u32 1996064986), (24, .int .u32 2554220882), (25, .int .u32 2821834349), (26, .int .u32 2952996808), (27, .int .u32 3210313671), (28, .int .u32 3336571891), (29, .int .u32 3584528711), (30, .int .u32 113926993), (31, .int .u32 338241895), (32, .int .u32 666307205), (33, .int .u32 773529912), (34, .int .u32 1294757372), (35, .int .u32 1396182291), (36, .int .u32 1695183700), (37, .int .u32 1986661051), (38, .int .u32 2177026350), (39, .int .u32 2456956037), (40, .int .u32 2730485921), (41, .int .u32 2820302411), (42, .int .u32 3259730800), (43, .int .u32 3345764771), (44, .int .u32 3516065817), (45, .int .u32 3600352804), (46, .int .u32 4094571909), (47, .int .u32 275423344), (48, .int .u32 430227734), (49, .int .u32 506948616), (50, .int .u32 659060556), (51, .int .u32 883997877), (52, .int .u32 958139571), (53, .int .u32 1322822218), (54, .int .u32 1537002063), (55, .int .u32 1747873779), (56, .int .u32 1955562222), (57, .int .u32 2024104815), (58, .int .u32 2227730452), (59, .int .u32 2361852424), (60, .int .u32 2428436474), (61, .int .u32 2756734187), (62, .int .u32 3204031479), (63, .int .u32 3329325298)]).run Try.prog w = .ok (.agg (Sha.words Sha.rounds)) w := run_build w 60 _ _ (by kernel_rfl)
theorem rounds_zero (w : World) : (zeroValue 60).run Try.prog w = .ok (.agg (Sha.words Sha.zeros64)) w := (zero_of_info (n := 64) (by kernel_rfl)).1 w

set_option maxRecDepth 100000 in
set_option maxHeartbeats 1000000 in
theorem rounds_any (w : World) :
    Calls Try.prog 40 #[] w fun e w' => e = .returned (.agg (Sha.words Sha.rounds)) ∧ Below w.heap.size w w' := by
  have hz := rounds_zero
  have hl : (Sha.words Sha.rounds).size = 64 := by rw [Sha.words_size]; rfl
  have hl0 : (Sha.words Sha.zeros64).size = 64 := by rw [Sha.words_size]; rfl
  go_enter Try.func40, Try.ntmps40
  go_wp2_with (first | (with_reducible refine wpList_value (o := ⟨some 1, _, _, _, _, _⟩) (by rfl) (.agg (Sha.words Sha.rounds)) (w.alloc (.cells (Sha.words Sha.zeros64) 60)) (by kernel_rfl) ?_) | (with_reducible refine wpList_store_block (o := ⟨none, _, _, _, _, _⟩) rfl 60 (.tmp 0) (.tmp 1) rfl w.heap.size rfl (Sha.words Sha.rounds) rfl (Sha.words Sha.zeros64) 60 (heap_alloc_new _ _) (by rw [hl]; kernel_rfl) (by rw [hl, hl0]) (Sha.words_one _) ?_))


  rw [World.setRow_alloc_new]
  exact bodyPost_ret (results_cell_row rfl _ _ w.heap.size 60 (Sha.words Sha.rounds) (0, 0) _ rfl (heap_alloc_new _ _) Try.underlying60 rfl (by rw [hl]; kernel_rfl)) rfl ⟨rfl, (Below.refl _ _).alloc (Nat.le_refl _) _⟩

end Go.Proofs.Ytbdnhoddkdiogaa
