/- The contract of sha.Of: the digest of bytes. Fewer than 2 ^ 40 bytes. -/
import Derived.Test.YtbdnhoddkdiogaaSh4
import Derived.Test.YtbdnhoddkdiogaaShO
import Derived.Test.YtbdnhoddkdiogaaShR
import Derived.Deep.RegionHeld3
set_option linter.unusedSimpArgs false
set_option linter.unusedVariables false
namespace Go.Proofs.Ytbdnhoddkdiogaa
open Go.RowKit

theorem zero32 (w : World) : (zeroValue 25).run Try.prog w = .ok (.agg (Sha.bytes (List.replicate 32 0))) w := (zero_of_info (n := 32) (by kernel_rfl)).1 w

def lenOfV : Value → Nat
  | .slice _ n _ => n
  | _ => 0

theorem one_byte (w : World) (x : Int) : ∀ j, j < [x].length → (w.alloc (.cells #[.int .u8 x] 5)).cell? ⟨w.heap.size, 0 + j, none⟩ = some (.int .u8 ([x].getD j 0)) := by
  intro j hj
  obtain rfl : j = 0 := by simp at hj; omega
  exact cell_of_row _ _ 0 #[.int .u8 x] _ _ (heap_alloc_new _ _)

theorem schedule_at (T t : List Int) (g off cap N : Nat) (w : World) (hT : T = Sha.sched (t.drop off) 64) (hx : ∀ i, i < t.length → w.cell? ⟨g, i, none⟩ = some (.int .u8 (t.getD i 0))) (hN : t.length = N) (hoff : off + 64 ≤ N)
    (hb : ∀ x ∈ t, 0 ≤ x ∧ x < 256) (hg : g < w.heap.size) (hc : 64 ≤ cap) (hc2 : cap ≤ 9223372036854775807) (ho : off ≤ 140737488351232) :
    Calls Try.prog 42 #[.slice (some ⟨g, off, none⟩) 64 cap] w fun e w' => e = .returned (.agg (Sha.words T)) ∧ Below w.heap.size w w' := by
  rw [hT]
  exact schedule_any g off cap (t.drop off) w (fun i hi => by rw [hx _ (by omega), Sha.drop_getD]) (fun i => by rw [Sha.drop_getD]; exact Sha.getD_byte hb _) hg hc hc2 ho
theorem mix_at (L T : List Int) (l6 : List Value) (hs : List Int) (h8 : hs.length = 8) (w64 : T.length = 64) (hb : ∀ x ∈ hs, 0 ≤ x ∧ x < 4294967296) (hl6 : l6 = (Sha.words Sha.rounds).toList) (hL : L = Sha.mix hs hs T Sha.rounds) (w : World) :
    Calls Try.prog 41 #[.agg (Sha.words hs), .agg (Sha.words hs), .agg (Sha.words T), .agg l6.toArray] w fun e w' => e = .returned (.agg (Sha.words L)) ∧ Below w.heap.size w w' := by
  rw [hl6, hL]
  exact mix_any hs hs T Sha.rounds h8 h8 w64 rfl hb w
theorem run_index_arr {P : Program} {w : World} (t e : TypeId) (n : Nat) (cs : Array Value) (k : IntKind) (i : Int) (v : Value) (h : P.underlying t = some (.array n e)) (h0 : 0 ≤ i) (h1 : i < (n : Int)) (hv : cs[i.toNat]? = some v) (hs : ∀ w, (Go.sizeOf e).run P w = .ok 1 w) (ha : ∀ w, (isAgg e).run P w = .ok false w) :
    (Instr.index t (.agg cs) (.int k i)).run P w = .ok v w := by
  simp [Instr.index, run_underlying h, asIntOf, h0, h1, hs, ha, hv, go_sem]

set_option maxRecDepth 100000 in
set_option maxHeartbeats 4000000 in
theorem of_any (v : Value) (xs : List Int) (w : World) (hv : HoldsB w v xs) (hb : ∀ x ∈ xs, 0 ≤ x ∧ x < 256) (hl : xs.length ≤ 1099511627776) :
    Calls Try.prog 16 #[v] w fun e w' => e = .returned (.agg (Sha.bytes (Sha.of xs))) ∧ Below w.heap.size w w' := by
  have hz := zero32
  obtain ⟨D, hD⟩ : ∃ D, D = Sha.of xs := ⟨_, rfl⟩
  rw [← hD]
  have HD := Lib.hid hD
  have HV := Lib.hid (hv.alloc (.cells (Sha.bytes (List.replicate 32 0)) 25))
  obtain ⟨a, cap, rfl⟩ := hv.shape
  have HB := Lib.hid hb
  clear hD hv hb
  go_enter Try.func16, Try.ntmps16
  go_wp2_with (first | (go_at_call 38; refine (clone_any _ xs _ HV.out).mono ?_; rintro e w1 ⟨v1, rfl, hown, hbel⟩; replace hown := Lib.hid hown; replace hbel := Lib.hid hbel) | (at_builtin; go_loud (refine wpList_append_u8 _ rfl (.tmp 13) (.tmp 14) 22 rfl (w.heap.size + 1) 5 Try.underlying22 u8_info _ xs rfl ((OwnB.mono hown.out (by simp)).alloc _) _ 0 1 [128] rfl (one_byte _ _) (by simp; omega) (by have := hbel.out.size; simp at this ⊢; omega) ?_); intro v2 w2 hown2 hgrow2 hnil2))
  have R0 : OfRel 5 25 (Sha.bytes (List.replicate 32 0)) w w1 v1 xs :=
    ⟨OwnB.mono hown.out (by simp), (hbel.out.block _ (by simp)).trans (heap_alloc_new _ _), ((Below.refl _ _).alloc (Nat.le_refl _) _).trans (hbel.out.mono (by simp))⟩
  have R1 : OfRel 5 25 (Sha.bytes (List.replicate 32 0)) w w2 v2 (Sha.front xs 0) := R0.step _ (by simpa [Sha.front] using hown2) hgrow2
  clear R0 hown hbel hown2 hgrow2 hnil2 hz HV
  go_loopw [3] (fun v wr => ∃ k a cap, k ≤ Sha.zeros xs.length ∧ v = .slice a (xs.length + 1 + k) cap ∧ OfRel 5 25 (Sha.bytes (List.replicate 32 0)) w wr v (Sha.front xs k)) (fun v _ => xs.length + 65 - lenOfV v)
  case atStart =>
    obtain ⟨a, cap, h1⟩ := R1.own.shape
    exact ⟨0, a, cap, by omega, by rw [h1, Sha.front_length], R1⟩
  case round =>
    clear R1
    obtain ⟨k, a1, cap1, hk, rfl, R2⟩ := hrel
    by_cases hlt : k < Sha.zeros xs.length
    · have ht : (((xs.length : Int) + 1 + (k : Int)) % 64 != 56) = true := by
        unfold Sha.zeros at hlt
        simp; omega
      have hf : (Sha.front xs k).length = xs.length + 1 + k := Sha.front_length xs k
      have hz64 : k < 64 := by unfold Sha.zeros at hlt; omega
      have R3 := Lib.hid R2
      clear R2
      go_wp2_with (at_builtin; refine wpList_append_u8 _ rfl (.tmp 20) (.tmp 21) 22 rfl (w.heap.size + 1) 5 Try.underlying22 u8_info _ (Sha.front xs k) rfl (OwnB.alloc R3.out.own _) _ 0 1 [0] rfl (one_byte _ _) (by rw [hf]; simp; omega) (by have := R3.out.lt; simp; omega) ?_; intro v2 w2 hown2 hgrow2 hnil2)
      have R4 : OfRel 5 25 (Sha.bytes (List.replicate 32 0)) w w2 v2 (Sha.front xs (k + 1)) := R3.out.step _ (by rw [Sha.front_succ]; exact hown2) hgrow2
      clear hown2 hgrow2 hnil2 R3
      obtain ⟨a2, cap2, rfl⟩ := R4.own.shape
      go_roundw
      case rel => exact ⟨k + 1, a2, cap2, by omega, by rw [Sha.front_length], R4⟩
      case measure => simp [lenOfV, Sha.front_length]; omega
    · have ht : (((xs.length : Int) + 1 + (k : Int)) % 64 != 56) = false := by
        have : k = Sha.zeros xs.length := by omega
        unfold Sha.zeros at this
        simp; omega
      have hz64 : k < 64 := by unfold Sha.zeros at hk; omega
      have HK : Hid (k = Sha.zeros xs.length) := Lib.hid (show k = Sha.zeros xs.length by omega)
      have R3 := Lib.hid R2
      clear R2 hk hlt
      go_wp2_with (fail)
      clear ht
      go_loopw [3, 4] (fun v i wr => ∃ j a cap, j ≤ 8 ∧ v = .slice a (xs.length + 1 + k + j) cap ∧ i = .int .i64 (7 - (j : Int)) ∧ OfRel 5 25 (Sha.bytes (List.replicate 32 0)) w wr v (Sha.front xs k ++ Sha.lenBytes xs.length j)) (fun v _ _ => xs.length + 90 - lenOfV v)
      case atStart => exact ⟨0, a1, cap1, by omega, rfl, rfl, by rw [show Sha.lenBytes xs.length 0 = [] from rfl, List.append_nil]; exact R3.out⟩
      case round =>
        clear R3
        obtain ⟨j, a2, cap2, hj, rfl, rfl, R4⟩ := hrel
        by_cases hlt : j < 8
        · have hf : (Sha.front xs k ++ Sha.lenBytes xs.length j).length = xs.length + 1 + k + j := by rw [List.length_append, Sha.front_length, Sha.lenBytes_length]
          have R5 := Lib.hid R4
          clear R4
          go_wp2_with (at_builtin; refine wpList_append_u8 _ rfl (.tmp 27) (.tmp 36) 22 rfl (w.heap.size + 1) 5 Try.underlying22 u8_info _ (Sha.front xs k ++ Sha.lenBytes xs.length j) rfl (OwnB.alloc R5.out.own _) _ 0 1 [(xs.length : Int) * 8 / 2 ^ (8 * (7 - j)) % 256] rfl (one_byte _ _) (by rw [hf]; simp; omega) (by have := R5.out.lt; simp; omega) ?_; intro v2 w2 hown2 hgrow2 hnil2)
          have R6 : OfRel 5 25 (Sha.bytes (List.replicate 32 0)) w w2 v2 (Sha.front xs k ++ Sha.lenBytes xs.length (j + 1)) := R5.out.step _ (by rw [List.append_assoc] at hown2; exact hown2) hgrow2
          have hf2 : (Sha.front xs k ++ Sha.lenBytes xs.length (j + 1)).length = xs.length + 1 + k + (j + 1) := by rw [List.length_append, Sha.front_length, Sha.lenBytes_length]
          clear hown2 hgrow2 hnil2 R5
          obtain ⟨a2, cap2, rfl⟩ := R6.own.shape
          go_wp2
          go_roundw
          case rel => exact ⟨j + 1, a2, cap2, by omega, by rw [hf2], by go_num, R6⟩
          case measure => simp [lenOfV, hf2]; omega
        · have hj8 : j = 8 := by omega
          have hge : decide ((j : Int) ≤ 7) = false := by simp; omega
          have R5 : OfRel 5 25 (Sha.bytes (List.replicate 32 0)) w wr (.slice a2 (xs.length + 1 + k + j) cap2) (Sha.text xs) := by
            unfold Sha.text
            rw [← HK.out, ← hj8]; exact R4
          have ht : (Sha.text xs).length = xs.length + 1 + k + j := by rw [Sha.text_length, ← HK.out]; omega
          obtain ⟨g, cap3, hs, hg1, hg2, hg3, hg4, hg5⟩ := R5.own.reads (by omega)
          have hbl := Sha.text_blocks xs
          rw [ht] at hg3 hg5 hbl
          simp only [Value.slice.injEq] at hs
          obtain ⟨rfl, -, rfl⟩ := hs
          have R6 := Lib.hid R5
          have HT := Lib.hid ht
          have HX := Lib.hid hg5
          have HJ := Lib.hid hj8
          clear R4 R5 ht hg5 hj8 hlt hj
          have hz8 := zero8
          have hzz := rounds_zero
          have S8 : Hid ((Sha.words Sha.zeros8).size = (Sha.words Sha.start).size) := Lib.hid (by rw [Sha.words_size, Sha.words_size]; rfl)
          have S64 : Hid ((Sha.words Sha.zeros64).size = (Sha.words Sha.rounds).size) := Lib.hid (by rw [Sha.words_size, Sha.words_size]; rfl)
          have I8 : Hid ((Try.prog.info? 58).map (·.size) = some (Sha.words Sha.start).size) := Lib.hid (by rw [Sha.words_size]; kernel_rfl)
          have I64 : Hid ((Try.prog.info? 60).map (·.size) = some (Sha.words Sha.rounds).size) := Lib.hid (by rw [Sha.words_size]; kernel_rfl)
          go_wp2_with (first | (go_at_call 39; refine (start_any _).mono ?_; rintro e w3 ⟨rfl, hb3⟩; replace hb3 := Lib.hid hb3) | (go_at_call 40; refine (rounds_any _).mono ?_; rintro e w4 ⟨rfl, hb4⟩; replace hb4 := Lib.hid hb4) | (with_reducible refine wpList_store_block (o := ⟨none, _, _, _, _, _⟩) rfl 58 (.tmp 5) (.tmp 38) rfl w4.heap.size rfl (Sha.words Sha.start) rfl (Sha.words Sha.zeros8) 58 (heap_alloc2_old _ _ _) I8.out S8.out (Sha.words_one _) ?_) | (with_reducible refine wpList_store_block (o := ⟨none, _, _, _, _, _⟩) rfl 60 (.tmp 6) (.tmp 39) rfl (w4.heap.size + 1) rfl (Sha.words Sha.rounds) rfl (Sha.words Sha.zeros64) 60 ((setRow_other _ _ _ _ (by omega)).trans (heap_alloc2_new _ _ _)) I64.out S64.out (Sha.words_one _) ?_))
          have hlo : w.heap.size < wr.heap.size := R6.out.lt
          have R7 : BlockRel 58 60 25 Sha.rounds w g w4.heap.size (Sha.text xs) (((((w4.alloc (.cells (Sha.words Sha.zeros8) 58)).alloc (.cells (Sha.words Sha.zeros64) 60)).setRow w4.heap.size (Sha.words Sha.start)).setRow (w4.heap.size + 1) (Sha.words Sha.rounds))) (Sha.hashes (Sha.text xs) 0) := by
            have hb : Below wr.heap.size wr w4 := hb3.out.trans (hb4.out.mono hb3.out.size)
            have hs := hb.size
            have ha : Below w4.heap.size w4 ((((w4.alloc (.cells (Sha.words Sha.zeros8) 58)).alloc (.cells (Sha.words Sha.zeros64) 60)).setRow w4.heap.size (Sha.words Sha.start)).setRow (w4.heap.size + 1) (Sha.words Sha.rounds)) :=
              ((((Below.refl _ _).alloc (Nat.le_refl _) _).alloc (by simp) _).setRow' (Nat.le_refl _) _).setRow' (by omega) _
            have hw := hb.trans (ha.mono hs)
            refine ⟨fun i hi => ?_, ?_, ?_, ?_, ?_, by omega, by omega, by simp⟩
            · rw [hw.cell (by exact hg2)]; exact HX.out i (by rw [← HT.out]; exact hi)
            · rw [setRow_other _ _ _ _ (by omega)]; exact setRow_heap _ _ _ _ _ _ (heap_alloc2_old _ _ _)
            · exact setRow_heap _ _ _ _ _ _ ((setRow_other _ _ _ _ (by omega)).trans (heap_alloc2_new _ _ _))
            · rw [hw.block _ hlo]; exact R6.out.cell
            · exact R6.out.below.trans (hw.mono (by omega))
          have HJ2 := HJ
          clear hz8 hzz S8 S64 I8 I64 HX R6 hlo HK HJ hge
          generalize hN : xs.length + 1 + k + j = N at hg3 HT hbl ⊢
          have hN0 : N ≤ 2199023255552 := by have := HJ2.out; omega
          clear hN
          generalize w4.heap.size = H at R7 ⊢
          go_loopw [7] (fun i wr => ∃ m : Nat, 64 * m ≤ N ∧ i = .int .i64 (64 * (m : Int)) ∧ BlockRel 58 60 25 Sha.rounds w g H (Sha.text xs) wr (Sha.hashes (Sha.text xs) m)) (fun i _ => N - (intOf i).toNat)
          case atStart => exact ⟨0, by omega, rfl, R7⟩
          case round =>
            clear R7
            obtain ⟨m, hm, rfl, R8⟩ := hrel
            by_cases hlt : 64 * m < N
            · generalize hhs : Sha.hashes (Sha.text xs) m = hs at R8
              have HS := Lib.hid hhs
              have hs8 : hs.length = 8 := by rw [← hhs]; exact Sha.hashes_length _ _
              have hsb : ∀ x ∈ hs, 0 ≤ x ∧ x < 4294967296 := by rw [← hhs]; exact Sha.hashes_bound _ _
              obtain ⟨T, hT⟩ : ∃ T, T = Sha.sched ((Sha.text xs).drop (64 * m)) 64 := ⟨_, rfl⟩
              obtain ⟨L, hL⟩ : ∃ L, L = Sha.mix hs hs T Sha.rounds := ⟨_, rfl⟩
              have HT64 : Hid (T.length = 64) := Lib.hid (by rw [hT, Sha.sched_length])
              have HTT := Lib.hid hT
              clear hT
              have hL8 : L.length = 8 := by rw [hL]; exact Sha.add_length _ _
              have HL := Lib.hid hL
              clear hL hhs
              obtain ⟨a0, a1, a2, a3, a4, a5, a6, a7, rfl⟩ := of_length_eight hs8
              obtain ⟨b0, b1, b2, b3, b4, b5, b6, b7, rfl⟩ := of_length_eight hL8
              have HSB := Lib.hid hsb
              obtain ⟨l6, hl6⟩ : ∃ l, l = (Sha.words Sha.rounds).toList := ⟨_, rfl⟩
              have hu6 := Try.underlying60
              have hn6 : l6.length = 64 := by rw [hl6, Array.length_toList, Sha.words_size]; rfl
              have hi6 : (Try.prog.info? 60).map (·.size) = some l6.length := by rw [hn6]; kernel_rfl
              have HL6 := Lib.hid hl6
              have R9 := Lib.hid R8
              obtain ⟨-, s1, c0, c1, c2, c3, c4, c5, c6, c7, f0, f1, f2, f3, f4, f5, f6, f7⟩ := R8.all8 hl6
              clear hl6 hsb hs8 hL8
              have e0 : IntKind.i64.wrap (64 * (m : Int) + 64) = 64 * (m : Int) + 64 := IntWalk.i64_in _ (by omega)
              have e1 : (0 : Int) ≤ 64 * (m : Int) := by omega
              have e2 : 64 * (m : Int) ≤ 64 * (m : Int) + 64 := by omega
              have e3 : 64 * (m : Int) + 64 ≤ (cap2 : Int) := by omega
              have e4 : (0 : Int) ≤ 64 * (m : Int) + 64 := by omega
              have e5 : (64 * (m : Int)).toNat = 64 * m := by omega
              have e6 : (64 * (m : Int) + 64).toNat = 64 * m + 64 := by omega
              have e8 : ¬ (cap2 = 64 * m) := by omega
              have e7 : 64 * m + 64 - 64 * m = 64 := by omega
              go_wp2
              refine wp_region_noPanic ?_
              refine wp_region_E 10 (fun w' => BlockRel 58 60 25 Sha.rounds w g H (Sha.text xs) w' [a0, a1, a2, a3, a4, a5, a6, a7]) (by kernel_rfl) ?_
              refine wpAnyE_take (i := 0) (oi := ⟨some 46, .load 58 (.tmp 5), 58, "sha.go:81", #[], none⟩) (v := (.agg #[.int .u32 a0, .int .u32 a1, .int .u32 a2, .int .u32 a3, .int .u32 a4, .int .u32 a5, .int .u32 a6, .int .u32 a7])) rfl (by kernel_rfl) (by kernel_rfl) (by kernel_rfl) (by kernel_rfl) (by decide) (by kernel_rfl) (fun _ _ _ h => h) (Or.inl ⟨by rfl, fun w' hSw => by obtain ⟨-, s1, c0, c1, c2, c3, c4, c5, c6, c7, f0, f1, f2, f3, f4, f5, f6, f7⟩ := BlockRel.all8 hSw HL6.out; go_simp⟩) R9.out.drew ?_
              simp only [Act.put, List.setIfInBounds_toArray, List.set_cons_zero, List.set_cons_succ]
              refine wpAnyE_take (i := 1) (oi := ⟨some 47, .load 58 (.tmp 5), 58, "sha.go:81", #[], none⟩) (v := (.agg #[.int .u32 a0, .int .u32 a1, .int .u32 a2, .int .u32 a3, .int .u32 a4, .int .u32 a5, .int .u32 a6, .int .u32 a7])) rfl (by kernel_rfl) (by kernel_rfl) (by kernel_rfl) (by kernel_rfl) (by decide) (by kernel_rfl) (fun _ _ _ h => h) (Or.inl ⟨by rfl, fun w' hSw => by obtain ⟨-, s1, c0, c1, c2, c3, c4, c5, c6, c7, f0, f1, f2, f3, f4, f5, f6, f7⟩ := BlockRel.all8 hSw HL6.out; go_simp⟩) R9.out.drew ?_
              simp only [Act.put, List.setIfInBounds_toArray, List.set_cons_zero, List.set_cons_succ]
              refine wpAnyE_take (i := 2) (oi := ⟨some 48, .move (.tmp 3), 22, "sha.go:81", #[], none⟩) (v := (.slice (some ⟨g, 0, none⟩) N cap2)) rfl (by kernel_rfl) (by kernel_rfl) (by kernel_rfl) (by kernel_rfl) (by decide) (by kernel_rfl) (fun _ _ _ h => h) (Or.inl ⟨by rfl, fun w' hSw => by clear hSw; go_simp⟩) R9.out.drew ?_
              simp only [Act.put, List.setIfInBounds_toArray, List.set_cons_zero, List.set_cons_succ]
              refine wpAnyE_take (i := 3) (oi := ⟨some 49, .move (.tmp 7), 3, "sha.go:81", #[], none⟩) (v := (.int .i64 (64 * (m : Int)))) rfl (by kernel_rfl) (by kernel_rfl) (by kernel_rfl) (by kernel_rfl) (by decide) (by kernel_rfl) (fun _ _ _ h => h) (Or.inl ⟨by rfl, fun w' hSw => by clear hSw; go_simp⟩) R9.out.drew ?_
              simp only [Act.put, List.setIfInBounds_toArray, List.set_cons_zero, List.set_cons_succ]
              refine wpAnyE_take (i := 4) (oi := ⟨some 50, .move (.tmp 7), 3, "sha.go:81", #[], none⟩) (v := (.int .i64 (64 * (m : Int)))) rfl (by kernel_rfl) (by kernel_rfl) (by kernel_rfl) (by kernel_rfl) (by decide) (by kernel_rfl) (fun _ _ _ h => h) (Or.inl ⟨by rfl, fun w' hSw => by clear hSw; go_simp⟩) R9.out.drew ?_
              simp only [Act.put, List.setIfInBounds_toArray, List.set_cons_zero, List.set_cons_succ]
              refine wpAnyE_take (i := 5) (oi := ⟨some 51, .binOp .add 3 (.tmp 50) (.const (.int .i64 64)) 3, 3, "sha.go:81", #[⟨4, .data⟩], none⟩) (v := (.int .i64 (64 * (m : Int) + 64))) rfl (by kernel_rfl) (by kernel_rfl) (by kernel_rfl) (by kernel_rfl) (by decide) (by kernel_rfl) (fun _ _ _ h => h) (Or.inl ⟨by rfl, fun w' hSw => by clear hSw; go_simp⟩) R9.out.drew ?_
              simp only [Act.put, List.setIfInBounds_toArray, List.set_cons_zero, List.set_cons_succ]
              refine wpAnyE_take (i := 6) (oi := ⟨some 52, .slice 22 (.tmp 48) (some (.tmp 49)) (some (.tmp 51)) none, 22, "sha.go:81", #[⟨2, .data⟩, ⟨3, .data⟩, ⟨5, .data⟩], none⟩) (v := (.slice (some ⟨g, 64 * m, none⟩) 64 (cap2 - 64 * m))) rfl (by kernel_rfl) (by kernel_rfl) (by kernel_rfl) (by kernel_rfl) (by decide) (by kernel_rfl) (fun _ _ _ h => h) (Or.inl ⟨by rfl, fun w' hSw => by clear hSw; go_simp⟩) R9.out.drew ?_
              simp only [Act.put, List.setIfInBounds_toArray, List.set_cons_zero, List.set_cons_succ]
              refine wpAnyE_take (i := 8) (oi := ⟨some 54, .load 60 (.tmp 6), 60, "sha.go:81", #[], none⟩) (v := .agg l6.toArray) rfl (by kernel_rfl) (by kernel_rfl) (by kernel_rfl) (by kernel_rfl) (by decide) (by kernel_rfl) (fun _ _ _ h => h) (yieldsIf_load_mid (by rfl) 60 (.tmp 6) rfl (H + 1) 0 rfl l6 _ (fun w' hSw => (BlockRel.all8 hSw HL6.out).2.1) hu6 rfl hi6) R9.out.drew ?_
              simp only [Act.put, List.setIfInBounds_toArray, List.set_cons_zero, List.set_cons_succ]
              refine wpAnyE_one (i := 7) (o := ⟨some 53, .call { callee := .value (.func 42), args := #[.tmp 52], argTypes := #[22] }, 60, "sha.go:81", #[⟨6, .data⟩], none⟩) (by kernel_rfl) rfl (fun K hK => ?_)
              go_simp
              refine (schedule_at T (Sha.text xs) g (64 * m) (cap2 - 64 * m) N _ HTT.out R9.out.drew.text HT.out (by omega) (Sha.text_bound xs HB.out) (by have := R9.out.hi; have := R9.out.size; show g < wr.heap.size; omega) (by omega) (by omega) (by omega)).mono ?_
              rintro e w5 ⟨rfl, hb5⟩
              have R10 := Lib.hid (R9.out.drew.past hb5)
              refine hK _ _ (fun _ => R10.out) ?_
              clear hK K
              try simp only [Act.put, List.setIfInBounds_toArray, List.set_cons_zero, List.set_cons_succ]
              refine wpAnyE_one (i := 9) (o := ⟨some 55, .call { callee := .value (.func 41), args := #[.tmp 46, .tmp 47, .tmp 53, .tmp 54], argTypes := #[58, 58, 60, 60] }, 58, "sha.go:81", #[⟨0, .data⟩, ⟨1, .data⟩, ⟨7, .data⟩, ⟨8, .data⟩, ⟨7, .chain⟩], none⟩) (by kernel_rfl) rfl (fun K hK => ?_)
              go_simp
              refine (mix_at [b0, b1, b2, b3, b4, b5, b6, b7] T l6 [a0, a1, a2, a3, a4, a5, a6, a7] rfl HT64.out HSB.out HL6.out HL.out _).mono ?_
              rintro e w6 ⟨rfl, hb6⟩
              have R11 := Lib.hid (R10.out.past hb6)
              refine hK _ _ (fun _ => R11.out) ?_
              clear hK K
              try simp only [Act.put, List.setIfInBounds_toArray, List.set_cons_zero, List.set_cons_succ]
              refine wpAnyE_one (i := 10) (o := ⟨none, .store 58 (.tmp 5) (.tmp 55), 0, "sha.go:81", #[⟨9, .data⟩, ⟨9, .chain⟩, ⟨0, .phase⟩, ⟨1, .phase⟩, ⟨2, .phase⟩, ⟨3, .phase⟩, ⟨4, .phase⟩, ⟨5, .phase⟩, ⟨6, .phase⟩, ⟨7, .phase⟩, ⟨8, .phase⟩, ⟨9, .phase⟩], none⟩) (by kernel_rfl) rfl (fun K hK => ?_)
              refine step_store_block (o := ⟨none, _, _, _, _, _⟩) rfl 58 (.tmp 5) (.tmp 55) rfl H rfl (Sha.words [b0, b1, b2, b3, b4, b5, b6, b7]) rfl (Sha.words [a0, a1, a2, a3, a4, a5, a6, a7]) 58 R11.out.h5 (by rw [Sha.words_size]; kernel_rfl) rfl (Sha.words_one _) ?_
              refine hK _ _ (fun h => by cases h) ?_
              clear hK K
              refine wpAnyE_done (by kernel_rfl) (NoPanic.normal ?_) _
              have R12 := Lib.hid (R11.out.row [b0, b1, b2, b3, b4, b5, b6, b7])
              have HM : Hid (Sha.hashes (Sha.text xs) (m + 1) = [b0, b1, b2, b3, b4, b5, b6, b7]) := Lib.hid (by
                show Sha.mix (Sha.hashes (Sha.text xs) m) (Sha.hashes (Sha.text xs) m) _ _ = _
                rw [HS.out, ← HTT.out, ← HL.out])
              clear s1 c0 c1 c2 c3 c4 c5 c6 c7 f0 f1 f2 f3 f4 f5 f6 f7 e1 e2 e3 e4 e5 e6 e7 e8 R8 R9 R10 R11 hu6 hi6
              go_wp2
              go_roundw
              case rel => exact ⟨m + 1, by omega, by go_num, HM.out ▸ R12.out⟩
              case measure => simp [intOf]; omega
            · have hmN : 64 * m = N := by omega
              have hlt2 : decide (64 * (m : Int) < (N : Int)) = false := by simp; omega
              have HD2 : Hid (D = Sha.outs (Sha.hashes (Sha.text xs) m) 32) := Lib.hid (by
                rw [HD.out]
                unfold Sha.of
                rw [HT.out, show N / 64 = m by omega])
              have h8 := Sha.hashes_length (Sha.text xs) m
              have hsb := Sha.hashes_bound (Sha.text xs) m
              generalize Sha.hashes (Sha.text xs) m = hs at R8 HD2 h8 hsb
              have R9 := Lib.hid R8
              clear R8 hlt hmN HD
              have hz := zero32
              have I8 : Hid ((Try.prog.info? 58).map (·.size) = some (Sha.words hs).size) := Lib.hid (by rw [Sha.words_size, h8]; kernel_rfl)
              have hlt5 := R9.out.size
              go_wp2_with (with_reducible refine wpList_load_row (o := ⟨some 56, _, _, _, _, _⟩) rfl 58 (.tmp 5) rfl H rfl 58 (Sha.words hs) (0, 0) _ ((Below.heap_alloc _ _ _ (by omega)).trans R9.out.h5) Try.underlying58 rfl I8.out ?_)
              have hws : ∀ q, q < 8 → (Sha.words hs)[q]? = some (.int .u32 (hs.getD q 0)) := fun q hq => Sha.words_get hs q (by omega)
              have HWS := Lib.hid hws
              have HSB := Lib.hid hsb
              have B0 : ArrB 25 (Sha.bytes (List.replicate 32 0)) w (wr.alloc (.cells (Sha.bytes (List.replicate 32 0)) 25)) w.heap.size wr.heap.size (Sha.pad (Sha.outs hs 0) 32) :=
                ⟨heap_alloc_new _ _, (Below.heap_alloc _ _ _ (by have := R9.out.lo; have := R9.out.hi; omega)).trans R9.out.cell, by have := R9.out.lo; have := R9.out.hi; omega, R9.out.below.alloc R9.out.below.size _, R9.out.below.size⟩
              clear hws hsb hz I8
              generalize wr.heap.size = O at B0 ⊢
              clear R9 hlt5
              go_loopw [57] (fun i wr => ∃ q : Nat, q ≤ 8 ∧ i = .int .i64 q ∧ ArrB 25 (Sha.bytes (List.replicate 32 0)) w wr w.heap.size O (Sha.pad (Sha.outs hs (4 * q)) 32)) (fun i _ => 8 - (intOf i).toNat)
              case atStart => exact ⟨0, by omega, rfl, B0⟩
              case round =>
                clear B0
                obtain ⟨q, hq, rfl, B1⟩ := hrel
                by_cases hq8 : q < 8
                · have hwq := HWS.out q hq8
                  obtain ⟨bx1, bx2⟩ := Sha.getD_bound HSB.out q (by omega)
                  obtain ⟨x, hx⟩ : ∃ x, x = hs.getD q 0 := ⟨_, rfl⟩
                  rw [← hx] at hwq bx1 bx2
                  have HX := Lib.hid hx
                  have B2 := Lib.hid B1
                  clear hx B1
                  have hsz : (Sha.words hs).size = 8 := by rw [Sha.words_size, h8]
                  have hq0 : (0 : Int) ≤ (q : Int) := by omega
                  have hq1 : (q : Int) < 8 := by omega
                  have hix := fun W => run_index_arr (P := Try.prog) (w := W) 58 57 8 (Sha.words hs) .i64 (q : Int) _ Try.underlying58 hq0 (by omega) (by rw [show ((q : Int)).toNat = q from rfl]; exact hwq) Try.sizeOf57 Try.isAgg57
                  go_wp2
                  clear hix
                  go_loopw [61] (fun i wr => ∃ k : Nat, k ≤ 4 ∧ i = .int .i64 k ∧ ArrB 25 (Sha.bytes (List.replicate 32 0)) w wr w.heap.size O (Sha.pad (Sha.outs hs (4 * q + k)) 32)) (fun i _ => 4 - (intOf i).toNat)
                  case atStart => exact ⟨0, by omega, rfl, B2.out⟩
                  case round =>
                    clear B2
                    obtain ⟨k, hk, rfl, B3⟩ := hrel
                    by_cases hk4 : k < 4
                    · obtain ⟨l, hl⟩ : ∃ l, l = Sha.pad (Sha.outs hs (4 * q + k)) 32 := ⟨_, rfl⟩
                      have hl32 : l.length = 32 := by rw [hl, Sha.pad_length _ _ (by rw [Sha.outs_length]; omega)]
                      rw [← hl] at B3
                      have HL := Lib.hid hl
                      have B4 := Lib.hid B3
                      clear B3 hl
                      have c0 := B4.out.cell (4 * q + k) (by omega)
                      have f0 := B4.out.frozen (4 * q + k)
                      have e1 : IntKind.i64.wrap (4 * (q : Int)) = 4 * (q : Int) := IntWalk.i64_in _ (by omega)
                      have e2 : IntKind.i64.wrap (4 * (q : Int) + (k : Int)) = 4 * (q : Int) + (k : Int) := IntWalk.i64_in _ (by omega)
                      have e3 : IntKind.i64.wrap (8 * (k : Int)) = 8 * (k : Int) := IntWalk.i64_in _ (by omega)
                      have e4 : IntKind.i64.wrap (24 - 8 * (k : Int)) = 24 - 8 * (k : Int) := IntWalk.i64_in _ (by omega)
                      have e5 : (4 * (q : Int) + (k : Int)).toNat = 4 * q + k := by omega
                      have e6 : (0 : Int) ≤ 4 * (q : Int) + (k : Int) := by omega
                      have e7 : 4 * (q : Int) + (k : Int) < 32 := by omega
                      have e8 : ¬ (24 - 8 * (k : Int) < 0) := by omega
                      have e9 : (24 - 8 * (k : Int)).toNat = 24 - 8 * k := by omega
                      go_wp2
                      refine ⟨⟨k + 1, by omega, by go_num, ?_⟩, by simp [intOf]; omega⟩
                      have B5 := B4.out.set (4 * q + k) (x / 2 ^ (24 - 8 * k) % 256)
                      have e := Sha.pad_set (Sha.outs hs (4 * q + k)) 32 (Sha.outByte hs (4 * q + k)) (by rw [Sha.outs_length]; omega)
                      rw [Sha.outs_length] at e
                      have eo : Sha.outByte hs (4 * q + k) = x / 2 ^ (24 - 8 * k) % 256 := by
                        unfold Sha.outByte
                        rw [show (4 * q + k) / 4 = q by omega, show (4 * q + k) % 4 = k by omega, ← HX.out]
                      rw [HL.out, ← eo, e] at B5
                      exact eo ▸ B5
                    · obtain rfl : k = 4 := by omega
                      have B4 := Lib.hid B3
                      clear B3 bx1 bx2 HX hwq hq0 hq1
                      go_wp2
                      refine ⟨⟨q + 1, by omega, by go_num, ?_⟩, by simp [intOf]; omega⟩
                      exact B4.out
                · have hq8 : decide ((q : Int) < 8) = false := by simp; omega
                  have B3 : ArrB 25 (Sha.bytes (List.replicate 32 0)) w wr w.heap.size O D := by
                    obtain rfl : q = 8 := by omega
                    rw [show Sha.pad (Sha.outs hs (4 * 8)) 32 = Sha.outs hs 32 by unfold Sha.pad; rw [Sha.outs_length]; simp, ← HD2.out] at B1
                    exact B1
                  have hD : D.length = 32 := by rw [HD2.out, Sha.outs_length]
                  have hD1 : (Sha.bytes D).size = 32 := by rw [Sha.bytes_size, hD]
                  have hD0 : (Sha.bytes (List.replicate 32 0)).size = 32 := by rw [Sha.bytes_size]; rfl
                  obtain ⟨zs, hzs⟩ : ∃ zs, zs = Sha.bytes (List.replicate 32 0) := ⟨_, rfl⟩
                  rw [← hzs] at B3 hD0
                  have B4 := Lib.hid B3
                  clear B1 B3 hzs
                  go_wp2_with (first | (with_reducible refine wpList_load_row (o := ⟨some 77, _, _, _, _, _⟩) rfl 25 (.tmp 8) rfl O rfl 25 (Sha.bytes D) (0, 0) _ B4.out.heap Try.underlying25 rfl (by rw [hD1]; kernel_rfl) ?_) | (with_reducible refine wpList_store_block (o := ⟨none, _, _, _, _, _⟩) rfl 25 (.tmp 2) (.tmp 77) rfl w.heap.size rfl (Sha.bytes D) rfl zs 25 B4.out.zero (by rw [hD1]; kernel_rfl) (by rw [hD1, hD0]) (Sha.bytes_one _) ?_))
                  exact bodyPost_ret (results_cell_row rfl _ _ w.heap.size 25 (Sha.bytes D) (0, 0) _ rfl (setRow_heap _ _ _ _ _ _ B4.out.zero) Try.underlying25 rfl (by rw [hD1]; kernel_rfl)) rfl ⟨rfl, B4.out.below.setRow' (Nat.le_refl _) _⟩
end Go.Proofs.Ytbdnhoddkdiogaa
