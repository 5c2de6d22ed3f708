import Derived.RangeFuncFrom
import Derived.RangeFuncBox
import Derived.RangeFuncLeaves
import Derived.RangeFuncCalls
import Derived.Shelf.Abstract
import Derived.WalkKit
import Derived.OwnWalkIn
import Derived.TacticsInMore
import Derived.LoopNIn
import Derived.LoopIn
import Derived.Deep.MidRow
import Derived.Test.YtbdnhoddkdiogaaProg
/- A slice of bytes, ranged over from its end: the iterator's contract. -/
set_option linter.unusedSimpArgs false
set_option linter.unusedVariables false
namespace Go.Proofs.Ytbdnhoddkdiogaa
open Go.RowKit Go.Shelf
attribute [local go_sem] Oper.semAt_some
/-- What a round must leave: the box, and the bytes. -/
def Kpb (Bs b : Nat) (A B : World) : Prop := ∀ blk, blk = Bs ∨ blk = b → ∀ c e r, A.heap[blk]? = some (.cells c e r) → B.heap[blk]? = A.heap[blk]?
theorem Kpb.trans {Bs b : Nat} {A B C : World} (h : Kpb Bs b A B) (k : Kpb Bs b B C) : Kpb Bs b A C := fun blk hb c e r hc => by
  have h1 := h blk hb c e r hc
  rw [k blk hb c e r (h1.trans hc), h1]
theorem cells_of {W : World} {p : Addr} {v : Value} (h : W.cell? p = some v) : ∃ c e r, W.heap[p.block]? = some (.cells c e r) := by
  unfold World.cell? at h
  split at h
  · rename_i c e r hc; exact ⟨_, _, _, hc⟩
  · cases h
theorem Kpb.cell {Bs b : Nat} {A B : World} (h : Kpb Bs b A B) {p : Addr} {v : Value} (hp : p.block = Bs ∨ p.block = b) (hc : A.cell? p = some v) : B.cell? p = some v := by
  obtain ⟨c, e, r, h1⟩ := cells_of hc
  rw [World.cell?_of_block (h _ hp c e r h1)]; exact hc
theorem Kpb.put {Bs b : Nat} (W : World) (l : Nat) (o o' : Obj) (hl : W.heap[l]? = some o) (ho : o.isCells = false) : Kpb Bs b W (W.putObj l o') := fun blk hb c e r hc => by
  refine World.putObj_heap_other ?_
  rintro rfl
  rw [hl] at hc; cases hc; cases ho
theorem wpListIn_load_mid {F : Fence} {n : Nat} {P : Program} {w : World} {ops : Array Oper} {rest : List Oper} {o : Oper} {a : Act} {Q : Exit → Act → World → Prop}
    (hg : o.guard = none) (ty : TypeId) (x : Operand) (hop : o.op = .load ty x) (b off : Nat) (hx : a.eval x = .pointer (some ⟨b, off, none⟩)) (cs : List Value) (d : TypeDesc) (hc : w.rangeAt b off cs)
    (hu : P.underlying ty = some d) (hd : d.isRow = true) (hi : (P.info? ty).map (·.size) = some cs.length) (hK : wpListIn F n P ops Q rest (a.put o.dst (.agg cs.toArray)) w) : wpListIn F n P ops Q (o :: rest) a w := by
  refine wpListIn_plain hg fun K hK' => ?_
  have hrun := run_loadAt_mid (P := P) w b off ty cs d hc hu hd hi
  unfold Oper.wpIn
  refine ⟨?_, ?_⟩
  · simp [Oper.about, hop]
  · rw [Oper.semAt_plain F _ _ (by rw [hop]; intro c hc'; cases hc')]
    simp [execOp, hop, hx, hrun, Result.andThen]
    exact hK' _ _ hK
/-- What has come behind k rounds. -/
def rev (zs : List (List Int)) (k : Nat) : List Nat := (List.range k).map fun j => zs.length - 1 - j
theorem rev_succ (zs : List (List Int)) (k : Nat) : rev zs (k + 1) = rev zs k ++ [zs.length - 1 - k] := by simp [rev, List.range_succ]
theorem rev_len (zs : List (List Int)) (k : Nat) : (rev zs k).length = k := by simp [rev]
set_option maxRecDepth 100000 in
set_option maxHeartbeats 2000000 in
theorem back1_in (F : Fence) (n : Nat) (hF : F.fn 74) (hro : F.round = none) (hn : 1 ≤ n) (l Bs bo b off cap : Nat) (zs : List (List Int)) (hlen : zs.length < 9223372036854775807) (J Jx : List Nat → World → Prop)
    (hY : ∀ (pre : List Nat) (x : Nat) (W : World), J pre W → pre.length < zs.length → YieldAt F (n - 1) Try.prog l #[.int .i64 (x : Int), .agg ((zs[x]?.getD (List.replicate 32 0)).map (Value.int .u8)).toArray] W fun e W' =>
      (e = .returned (.bool true) ∧ J (pre ++ [x]) W' ∧ Kpb Bs b W W') ∨ (e = .returned (.bool false) ∧ Jx (pre ++ [x]) W'))
    (W : World) (hBs : W.cell? ⟨Bs, bo, none⟩ = some (.slice (some ⟨b, off, none⟩) zs.length cap)) (h32 : ∀ j, j < zs.length → (zs[j]?.getD (List.replicate 32 0)).length = 32) (hc : ∀ j, j < zs.length → W.rangeAt b (off + j * 32) ((zs[j]?.getD (List.replicate 32 0)).map (Value.int .u8))) (h0 : J [] W) :
    CallsIn F n Try.prog 74 #[.func (.yield l) #[] #[], .pointer (some ⟨Bs, bo, none⟩)] W fun e W' => (∃ v, e = .returned v) ∧
      ((∃ ys, ys = rev zs zs.length ∧ J ys W') ∨ (∃ pre, (∃ k, k ≤ zs.length ∧ pre = rev zs k) ∧ Jx pre W')) := by
  refine callsIn_of_wp Try.func74 rfl hF ?_ hro
  simp only [Try.ntmps74, List.size_toArray, List.length_cons, List.length_nil, Nat.reduceAdd, Nat.reduceSub, Array.replicate_succ, Array.replicate_zero, List.push_toArray, List.append_toArray, List.nil_append, List.cons_append]
  gi_wp2
  gi_loopw [3] (fun i wr => ∃ k : Nat, k ≤ zs.length ∧ i = .int .i64 ((zs.length : Int) - 1 - k) ∧ J (rev zs k) wr ∧ Kpb Bs b W wr)
    (fun i _ => (intOf i + 1).toNat)
  case atStart => exact ⟨0, Nat.zero_le _, by
    try simp only [wrap64_id, go_sem]
    congr 1
    try omega, h0, fun _ _ _ _ _ _ => rfl⟩
  case round =>
    obtain ⟨k, hk, rfl, hJs, hnx⟩ := hrel
    have hBs' := hnx.cell (p := ⟨Bs, bo, none⟩) (.inl rfl) hBs
    by_cases hlt : k < zs.length
    · have hcx : wr.rangeAt b (off + (zs.length - 1 - k) * 32) ((zs[zs.length - 1 - k]?.getD (List.replicate 32 0)).map (Value.int .u8)) := fun j v hv => hnx.cell (.inr rfl) (hc (zs.length - 1 - k) (by omega) j v hv)
      have h32x := h32 (zs.length - 1 - k) (by omega)
      obtain ⟨i, hi⟩ : ∃ i : Nat, i = zs.length - 1 - k := ⟨_, rfl⟩
      have hi2 : (zs.length : Int) - 1 - k = (i : Int) := by omega
      rw [← hi] at hcx h32x
      have hrev : rev zs (k + 1) = rev zs k ++ [i] := by rw [rev_succ, hi]
      have hi3 : (i : Int) - 1 = (zs.length : Int) - 1 - ((k + 1 : Nat) : Int) := by omega
      have hil : i < zs.length := by omega
      obtain ⟨v, hv⟩ : ∃ v, v = zs[i]?.getD (List.replicate 32 0) := ⟨_, rfl⟩
      rw [← hv] at hcx h32x
      clear hi
      obtain ⟨fn, tmps, assign, body, hy, hR⟩ := hY _ i wr hJs (by rw [rev_len]; exact hlt)
      try dsimp only at hy
      rw [← hv] at hy
      clear hv
      rw [hi2]
      gi_wp2_with (refine wpListIn_load_mid rfl 25 _ rfl b (off + i * 32) rfl _ _ hcx Try.underlying25 rfl (by rw [List.length_map, h32x]; kernel_rfl) ?_)
      refine hR.mono ?_
      rintro e W3 (⟨rfl, hJ3, hk3⟩ | ⟨rfl, hJx3⟩)
      · gi_wp2
        go_roundw
        case rel => exact ⟨k + 1, by omega, by rw [Int.natCast_succ], by rw [hrev]; exact hJ3, hnx.trans hk3⟩
        case measure => simp [intOf]; omega
      · gi_wp2
        refine bodyPost_ret (results_none rfl _ _ _) rfl ?_
        exact ⟨⟨_, rfl⟩, .inr ⟨_, ⟨k + 1, by omega, hrev.symm⟩, hJx3⟩⟩
    · obtain rfl : k = zs.length := by omega
      have hi2 : (zs.length : Int) - 1 - (zs.length : Int) = -1 := by omega
      rw [hi2]
      gi_wp2
      go_end0
      exact ⟨⟨_, rfl⟩, .inl ⟨_, rfl, hJs⟩⟩
set_option maxRecDepth 100000 in
set_option maxHeartbeats 2000000 in
/-- A slice of nothing: no round. -/
theorem back1_nil (F : Fence) (n : Nat) (hF : F.fn 74) (hro : F.round = none) (l Bs bo : Nat) (a : Option Addr) (cap : Nat) (J : List Nat → World → Prop) (W : World) (hBs : W.cell? ⟨Bs, bo, none⟩ = some (.slice a 0 cap)) (h0 : J [] W) :
    CallsIn F n Try.prog 74 #[.func (.yield l) #[] #[], .pointer (some ⟨Bs, bo, none⟩)] W fun e W' => (∃ v, e = .returned v) ∧ J [] W' := by
  refine callsIn_of_wp Try.func74 rfl hF ?_ hro
  simp only [Try.ntmps74, List.size_toArray, List.length_cons, List.length_nil, Nat.reduceAdd, Nat.reduceSub, Array.replicate_succ, Array.replicate_zero, List.push_toArray, List.append_toArray, List.nil_append, List.cons_append]
  gi_wp2
  gi_loopw [3] (fun i wr => i = .int .i64 (-1) ∧ J [] wr) (fun _ _ => 0)
  case atStart => exact ⟨rfl, h0⟩
  case round =>
    obtain ⟨rfl, hJs⟩ := hrel
    gi_wp2
    go_end0
    exact ⟨⟨_, rfl⟩, hJs⟩
set_option maxHeartbeats 1000000 in
theorem back_in (F : Fence) (n : Nat) (hF : F.fn 63) (hro : F.round = none) (a : Option Addr) (len cap : Nat) (w : World) :
    CallsIn F n Try.prog 63 #[.slice a len cap] w fun e w' => e = .returned (.func (.func 74) #[] #[.pointer (some ⟨w.heap.size, 0, none⟩)]) ∧ w' = w.alloc (.cells #[.slice a len cap] 38) := by
  refine callsIn_of_wp Try.func63 rfl hF ?_ hro
  simp only [Try.ntmps63, List.size_toArray, List.length_cons, List.length_nil, Nat.reduceAdd, Nat.reduceSub, Array.replicate_succ, Array.replicate_zero, List.push_toArray, List.append_toArray, List.nil_append, List.cons_append]
  gi_wp2
  go_ret
  exact ⟨rfl, rfl⟩
/-- The slice value holds these bytes, in that block; or there are none. -/
def Bytes (b : Nat) (W : World) (sv : Value) (zs : List (List Int)) : Prop :=
  (zs = [] ∧ ∃ a c, sv = .slice a 0 c) ∨ ∃ off cap, sv = .slice (some ⟨b, off, none⟩) zs.length cap ∧ ∀ j, j < zs.length → W.rangeAt b (off + j * 32) ((zs[j]?.getD (List.replicate 32 0)).map (Value.int .u8))
theorem back_stops (F : Fence) (n : Nat) (hF : F.fn 74) (hro : F.round = none) (hn : 1 ≤ n) (Bs bo b : Nat) (sv : Value) (zs : List (List Int)) (hlen : zs.length < 9223372036854775807) (w : World) (hBs : Bs < w.heap.size)
    (hc : w.cell? ⟨Bs, bo, none⟩ = some sv) (hb : zs ≠ [] → b < w.heap.size) (h32 : ∀ j, j < zs.length → (zs[j]?.getD (List.replicate 32 0)).length = 32) (hI : Bytes b w sv zs) :
    SeqStopsK F n Try.prog 74 #[.pointer (some ⟨Bs, bo, none⟩)] (fun x : Nat => #[Value.int .i64 (x : Int), Value.agg ((zs[x]?.getD (List.replicate 32 0)).map (Value.int .u8)).toArray]) (Kpb Bs b) (fun ys => ys = rev zs zs.length)
      (fun pre => ∃ k, k ≤ zs.length ∧ pre = rev zs k) zs.length w := fun l J Jx W hW _ _ hY h0 => by
  have hc' := (hW.cell (p := ⟨Bs, bo, none⟩) hBs).trans hc
  rcases hI with ⟨rfl, a, c, rfl⟩ | ⟨off, cap, rfl, hcs⟩
  · exact (back1_nil F n hF hro l Bs bo a c J W hc' h0).mono fun e W' ⟨he, hj⟩ => ⟨he, .inl ⟨_, rfl, hj⟩⟩
  · by_cases hz : zs = []
    · subst hz
      exact (back1_nil F n hF hro l Bs bo _ cap J W hc' h0).mono fun e W' ⟨he, hj⟩ => ⟨he, .inl ⟨_, rfl, hj⟩⟩
    · exact back1_in F n hF hro hn l Bs bo b off cap zs hlen J Jx hY W hc' h32 (fun j hj i v hv => (hW.cell (hb hz)).trans (hcs j hj i v hv)) h0
end Go.Proofs.Ytbdnhoddkdiogaa
