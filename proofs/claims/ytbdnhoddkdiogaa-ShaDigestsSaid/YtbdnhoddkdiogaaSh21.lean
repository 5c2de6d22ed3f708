/- The contract of the document's digest. -/
import Derived.Test.YtbdnhoddkdiogaaSh20
import Derived.Test.YtbdnhoddkdiogaaShT
import Derived.Test.YtbdnhoddkdiogaaShG
import Derived.Test.YtbdnhoddkdiogaaShF
import Derived.Test.YtbdnhoddkdiogaaShU
import Derived.Test.YtbdnhoddkdiogaaShV
import Derived.Test.YtbdnhoddkdiogaaShW
import Derived.Test.YtbdnhoddkdiogaaShK
import Derived.Test.YtbdnhoddkdiogaaSh6
import Derived.StillTailTactics
set_option linter.unusedSimpArgs false
set_option linter.unusedVariables false
namespace Go.Proofs.Ytbdnhoddkdiogaa
open Go.RowKit

set_option maxRecDepth 100000 in
set_option maxHeartbeats 100000000 in
theorem refOf_any (v : Value) (xs : List Int) (w : World) (hv : HoldsB w v xs) (hb : ∀ x ∈ xs, 0 ≤ x ∧ x < 256) (hl : xs.length ≤ 1099511627776) :
    Calls Try.prog 17 #[v] w fun e w' => e = .returned (.agg (Sha.bytes (Sha.of xs))) ∧ Below w.heap.size w w' := by
  have HV := Lib.hid hv
  obtain ⟨a, cap, rfl⟩ := hv.shape
  have HB := Lib.hid hb
  obtain ⟨D, hD⟩ : ∃ D, D = Sha.of xs := ⟨_, rfl⟩
  rw [← hD]
  have HD := Lib.hid hD
  clear hv hb hD
  go_enter Try.func17, Try.ntmps17
  go_wp2_with (go_at_call 43; refine (primes_any _).mono ?_; rintro e w2 ⟨g3, cap3, rfl, hg3, hg3b, hp, hb1⟩; replace hp := Lib.hid hp; replace hb1 := Lib.hid hb1)
  have hz : w2.heap[w.heap.size]? = some (.cells (Sha.bytes (List.replicate 32 0)) 25 (0, 0)) := (hb1.out.block _ (by simp)).trans (heap_alloc_new _ _)
  have hlt2 : w.heap.size < w2.heap.size := by have := hb1.out.size; simp at this; omega
  have hbl2 : Below w.heap.size w w2 := ((Below.refl _ _).alloc (Nat.le_refl _) _).trans (hb1.out.mono (by simp))
  have HZ := Lib.hid hz
  have HBL2 := Lib.hid hbl2
  have R0 : Rows2 57 w2 w2 (.slice none 0 0) (.slice none 0 0) (Sha.start.take 0) (Sha.rounds.take 0) := ⟨OwnK.nil _ _ _ _, OwnK.nil _ _ _ _, fun j h => by simp [Value.ownBlock] at h, Below.refl _ _⟩
  clear hz hbl2 hb1
  go_loopw [4, 5, 29] (fun v4 v5 i wr => ∃ (k n4 : Nat) (a4 : Option Addr) (c4 : Nat) (a5 : Option Addr) (c5 : Nat), k ≤ 64 ∧ n4 = min k 8 ∧ v4 = .slice a4 n4 c4 ∧ v5 = .slice a5 k c5 ∧ i = .int .i64 k ∧ Rows2 57 w2 wr v4 v5 (Sha.start.take k) (Sha.rounds.take k)) (fun _ _ i _ => 64 - (intOf i).toNat)
  case atStart => exact ⟨0, 0, none, 0, none, 0, by omega, rfl, rfl, rfl, rfl, R0⟩
  case round =>
    clear R0
    obtain ⟨k, n4, a4, c4, a5, c5, hk, hn4, rfl, rfl, rfl, R1⟩ := hrel
    by_cases hlt : k < 64
    · obtain ⟨p, hp2⟩ : ∃ p, p = primes64.getD k 0 := ⟨_, rfl⟩
      have cp : wr.cell? ⟨g3, k, none⟩ = some (.int .u64 p) := by rw [R1.below.cell (by exact hg3), hp.out k hlt, hp2]
      have HP2 := Lib.hid hp2
      have HPC : Hid (w2.cell? ⟨g3, k, none⟩ = some (.int .u64 p)) := Lib.hid (by rw [hp.out k hlt, hp2])
      have R2 := Lib.hid R1
      clear R1 hp2
      by_cases hk8 : k < 8
      · obtain rfl : n4 = k := by omega
        clear hn4
        obtain ⟨x4, hx4⟩ : ∃ x, x = Sha.start.getD n4 0 := ⟨_, rfl⟩
        obtain ⟨x5, hx5⟩ : ∃ x, x = Sha.rounds.getD n4 0 := ⟨_, rfl⟩
        have s4 := square_at n4 hk8 p HP2.out
        have s5 := cube_at n4 hlt p HP2.out
        have e4 := take_succ_getD Sha.start n4 (by show n4 < 8; omega)
        have e5 := take_succ_getD Sha.rounds n4 (by show n4 < 64; omega)
        have l4 : (Sha.start.take n4).length = n4 := by rw [List.length_take]; exact Nat.min_eq_left (by show n4 ≤ 8; omega)
        have l5 : (Sha.rounds.take n4).length = n4 := by rw [List.length_take]; exact Nat.min_eq_left (by show n4 ≤ 64; omega)
        rw [← hx4] at s4 e4
        rw [← hx5] at s5 e5
        have S4 := Lib.hid s4
        have S5 := Lib.hid s5
        have E4 := Lib.hid e4
        have E5 := Lib.hid e5
        have L4 := Lib.hid l4
        have L5 := Lib.hid l5
        clear hx4 hx5 s4 s5 e4 e5 l4 l5
        go_wp2_with (first
          | (go_at_call 44; refine (S4.out _).mono ?_; rintro e w3 ⟨rfl, hb3⟩; have R3 := Lib.hid (R2.out.past hb3); clear hb3)
          | (at_builtin; refine wpList_append_k _ rfl (.tmp 34) (.tmp 40) 66 rfl .u32 w2.heap.size 57 4 Try.underlying66 u32_info _ (Sha.start.take n4) rfl (R3.out.h4.alloc _) _ 0 1 [x4] rfl (one_word _ _) (by rw [L4.out]; show (n4 + 1) * 4 ≤ 140737488351232; omega) (by rw [L4.out]; show n4 + 1 ≤ 140737488351232; omega) (Nat.le_trans R3.out.below.size (by simp)) ?_; intro v4 w4 hown4 hgrow4 hat4; have R4 := R3.out.app _ hown4 hgrow4 hat4; have cp4 := (R4.below.cell (p := ⟨g3, n4, none⟩) hg3).trans HPC.out; replace R4 := Lib.hid R4; clear hown4 hgrow4 hat4)
          | (go_at_call 45; refine (S5.out _).mono ?_; rintro e w5 ⟨rfl, hb5⟩; have R5 := Lib.hid (R4.out.past hb5).symm; clear hb5)
          | (at_builtin; refine wpList_append_k _ rfl (.tmp 42) (.tmp 48) 66 rfl .u32 w2.heap.size 57 4 Try.underlying66 u32_info _ (Sha.rounds.take n4) rfl (R5.out.h4.alloc _) _ 0 1 [x5] rfl (one_word _ _) (by rw [L5.out]; show (n4 + 1) * 4 ≤ 140737488351232; omega) (by rw [L5.out]; show n4 + 1 ≤ 140737488351232; omega) (Nat.le_trans R5.out.below.size (by simp)) ?_; intro v6 w6 hown6 hgrow6 hat6; have R6 := Lib.hid (R5.out.app _ hown6 hgrow6 hat6).symm; clear hown6 hgrow6 hat6))
        rw [← E4.out, ← E5.out] at R6
        obtain ⟨a4', c4', hs4⟩ := R6.out.h4.shape
        obtain ⟨a5', c5', hs5⟩ := R6.out.h5.shape
        have l4 : (Sha.start.take (n4 + 1)).length = n4 + 1 := by rw [List.length_take]; exact Nat.min_eq_left (by show n4 + 1 ≤ 8; omega)
        have l5 : (Sha.rounds.take (n4 + 1)).length = n4 + 1 := by rw [List.length_take]; exact Nat.min_eq_left (by show n4 + 1 ≤ 64; omega)
        rw [l4] at hs4
        rw [l5] at hs5
        exact ⟨⟨n4 + 1, n4 + 1, a4', c4', a5', c5', by omega, by omega, hs4, hs5, by go_num, R6.out⟩, by simp [intOf]; omega⟩
      · obtain rfl : n4 = 8 := by omega
        clear hn4
        obtain ⟨x5, hx5⟩ : ∃ x, x = Sha.rounds.getD k 0 := ⟨_, rfl⟩
        have s5 := cube_at k hlt p HP2.out
        have e4 : Sha.start.take (k + 1) = Sha.start.take k := by rw [List.take_of_length_le (by show 8 ≤ k + 1; omega), List.take_of_length_le (by show 8 ≤ k; omega)]
        have e5 := take_succ_getD Sha.rounds k (by show k < 64; omega)
        have l5 : (Sha.rounds.take k).length = k := by rw [List.length_take]; exact Nat.min_eq_left (by show k ≤ 64; omega)
        rw [← hx5] at s5 e5
        have S5 := Lib.hid s5
        have E4 := Lib.hid e4
        have E5 := Lib.hid e5
        have L5 := Lib.hid l5
        clear hx5 s5 e4 e5 l5
        go_wp2_with (first
          | (go_at_call 45; refine (S5.out _).mono ?_; rintro e w5 ⟨rfl, hb5⟩; have R5 := Lib.hid (R2.out.past hb5).symm; clear hb5)
          | (at_builtin; refine wpList_append_k _ rfl (.tmp 42) (.tmp 48) 66 rfl .u32 w2.heap.size 57 4 Try.underlying66 u32_info _ (Sha.rounds.take k) rfl (R5.out.h4.alloc _) _ 0 1 [x5] rfl (one_word _ _) (by rw [L5.out]; show (k + 1) * 4 ≤ 140737488351232; omega) (by rw [L5.out]; show k + 1 ≤ 140737488351232; omega) (Nat.le_trans R5.out.below.size (by simp)) ?_; intro v6 w6 hown6 hgrow6 hat6; have R6 := Lib.hid (R5.out.app _ hown6 hgrow6 hat6).symm; clear hown6 hgrow6 hat6))
        rw [← E5.out, ← E4.out] at R6
        obtain ⟨a5', c5', hs5⟩ := R6.out.h5.shape
        have l5 : (Sha.rounds.take (k + 1)).length = k + 1 := by rw [List.length_take]; exact Nat.min_eq_left (by show k + 1 ≤ 64; omega)
        rw [l5] at hs5
        exact ⟨⟨k + 1, 8, a4, c4, a5', c5', by omega, by omega, rfl, hs5, by go_num, R6.out⟩, by simp [intOf]; omega⟩
    · have hk64 : k = 64 := by omega
      obtain ⟨wA, hwA⟩ : ∃ x, x = wr := ⟨_, rfl⟩
      subst hwA
      have hf64 : decide ((k : Int) < 64) = false := by simp; omega
      obtain rfl : n4 = 8 := by omega
      have R2 : Rows2 57 w2 wA (.slice a4 8 c4) (.slice a5 k c5) Sha.start Sha.rounds := by
        have e4 : Sha.start.take k = Sha.start := List.take_of_length_le (by show 8 ≤ k; omega)
        have e5 : Sha.rounds.take k = Sha.rounds := List.take_of_length_le (by show 64 ≤ k; omega)
        rw [e4, e5] at R1
        exact R1
      obtain ⟨g4, cap4, cur4, hs4, hg4, hg4b, hh4, hr4⟩ := R2.h4.block (by decide)
      obtain ⟨g5, cap5, hs5, hg5, hg5b, hg5c, hg5d, hr5⟩ := R2.h5.reads (by decide)
      have l4 : Sha.start.length = 8 := rfl
      have l5 : Sha.rounds.length = 64 := rfl
      rw [l4] at hs4 hr4
      rw [l5] at hs5 hg5c hr5
      have hne45 : g4 ≠ g5 := fun e => R2.ne g4 (by rw [hs4]; rfl) (by rw [hs5, e]; rfl)
      simp only [Value.slice.injEq] at hs4 hs5
      obtain ⟨rfl, -, rfl⟩ := hs4
      obtain ⟨rfl, rfl, rfl⟩ := hs5
      have HH4 := Lib.hid hh4
      have HR4 := Lib.hid hr4
      have HR5 := Lib.hid hr5
      have hbA : Below w.heap.size w wA := HBL2.out.trans (R2.below.mono HBL2.out.size)
      have hzA : wA.heap[w.heap.size]? = some (.cells (Sha.bytes (List.replicate 32 0)) 25 (0, 0)) := (R2.below.block _ hlt2).trans HZ.out
      have HVA : Hid (HoldsB (wA.alloc (.cells #[] 5)) (.slice a xs.length cap) xs) := Lib.hid ((HV.out.below hbA).alloc _)
      have HBA := Lib.hid hbA
      have HZA := Lib.hid hzA
      have Q0 := Lib.hid (RowK.lit .u8 5 wA [] (by simp))
      clear hh4 hr4 hr5 hbA hzA R2 R1 HZ HBL2 hn4 hp hg3b
      go_wp2_with (first
        | (at_builtin; refine wpList_append_holds _ rfl (.tmp 51) (.tmp 52) 22 rfl wA.heap.size 5 Try.underlying22 u8_info _ [] rfl Q0.out.own _ xs rfl HVA.out (by show 0 + xs.length ≤ 140737488351232; omega) (by simp) ?_; intro v7 w7 hown7 hgrow7 hat7; have Q1 := Lib.hid (Q0.out.app0 hown7 hgrow7); clear hown7 hgrow7 hat7)
        | (at_builtin; go_loud (refine wpList_append_k _ rfl (.tmp 53) (.tmp 54) 22 rfl .u8 wA.heap.size 5 1 Try.underlying22 u8_info _ ([] ++ xs) rfl (Q1.out.own.alloc _) _ 0 1 [128] rfl (one_byte _ _) (by show (xs.length + 1) * 1 ≤ 140737488351232; omega) (by show xs.length + 1 ≤ 140737488351232; omega) (Nat.le_trans Q1.out.below.size (by simp)) ?_; intro v8 w8 hown8 hgrow8 hat8; have Q2 := Lib.hid (Q1.out.app _ hown8 hgrow8); clear hown8 hgrow8 hat8)))
      have Q3 : RowK .u8 5 wA w8 v8 (Sha.front xs 0) := by have := Q2.out; simpa [Sha.front] using this
      clear Q0 Q1 Q2 HVA
      go_loopw [7] (fun v wr => ∃ (j : Nat) (a : Option Addr) (cap : Nat), j ≤ Sha.zeros xs.length ∧ v = .slice a (xs.length + 1 + j) cap ∧ RowK .u8 5 wA wr v (Sha.front xs j)) (fun v _ => xs.length + 65 - lenOfV v)
      case atStart =>
        obtain ⟨a, cap, h1⟩ := Q3.own.shape
        exact ⟨0, a, cap, by omega, by rw [h1, Sha.front_length], Q3⟩
      case round =>
        clear Q3
        obtain ⟨j, a1, cap1, hj, rfl, Q4⟩ := hrel
        have hf : (Sha.front xs j).length = xs.length + 1 + j := Sha.front_length xs j
        have hz64 : j < 64 := by unfold Sha.zeros at hj; omega
        by_cases hlt : j < Sha.zeros xs.length
        · have ht : (((xs.length : Int) + 1 + (j : Int)) % 64 != 56) = true := by
            unfold Sha.zeros at hlt
            simp; omega
          have hmax : (xs.length + 1 + j + 1) * 1 ≤ 140737488351232 := by omega
          have hmax2 : xs.length + 1 + j + 1 ≤ 140737488351232 := by omega
          have HF := Lib.hid hf
          have Q5 := Lib.hid Q4
          have M1 : Hid (((Sha.front xs j).length + [(0 : Int)].length) * 1 ≤ 140737488351232) := Lib.hid (by rw [hf]; exact hmax)
          have M2 : Hid ((Sha.front xs j).length + [(0 : Int)].length ≤ 140737488351232) := Lib.hid (by rw [hf]; exact hmax2)
          clear Q4 hf hmax hmax2
          go_wp2_with (at_builtin; refine wpList_append_k _ rfl (.tmp 60) (.tmp 61) 22 rfl .u8 wA.heap.size 5 1 Try.underlying22 u8_info _ (Sha.front xs j) rfl (Q5.out.own.alloc _) _ 0 1 [0] rfl (one_byte _ _) M1.out M2.out (Nat.le_trans Q5.out.below.size (by simp)) ?_; intro v8 w8 hown8 hgrow8 hat8; have Q6 := Lib.hid (Q5.out.app _ hown8 hgrow8); clear hown8 hgrow8 hat8)
          rw [← Sha.front_succ] at Q6
          obtain ⟨a2, cap2, h2⟩ := Q6.out.own.shape
          rw [Sha.front_length] at h2
          exact ⟨⟨j + 1, a2, cap2, by omega, h2, Q6.out⟩, by rw [h2]; simp [lenOfV]; omega⟩
        · have ht : (((xs.length : Int) + 1 + (j : Int)) % 64 != 56) = false := by
            have : j = Sha.zeros xs.length := by omega
            unfold Sha.zeros at this
            simp; omega
          have HJ : Hid (j = Sha.zeros xs.length) := Lib.hid (by omega)
          have HF := Lib.hid hf
          have Q5 := Lib.hid Q4
          have e0 : IntKind.u64.wrap (xs.length : Int) = (xs.length : Int) := by unfold IntKind.wrap; simp [IntKind.signed, IntKind.bits]; omega
          have e1 : IntKind.u64.wrap ((xs.length : Int) * 8) = (xs.length : Int) * 8 := by unfold IntKind.wrap; simp [IntKind.signed, IntKind.bits]; omega
          clear Q4 hf hlt hj
          go_wp2
          clear ht
          have HN : Hid (xs.length ≤ 1099511627776) := Lib.hid hl
          go_loopw [7, 9] (fun v i wr => ∃ (q : Nat) (a : Option Addr) (cap : Nat), q ≤ 8 ∧ v = .slice a (xs.length + 1 + j + q) cap ∧ i = .int .i64 (56 - 8 * (q : Int)) ∧ RowK .u8 5 wA wr v (Sha.front xs j ++ Sha.lenBytes xs.length q)) (fun v _ _ => xs.length + 90 - lenOfV v)
          case atStart => exact ⟨0, a1, cap1, by omega, rfl, rfl, by rw [show Sha.lenBytes xs.length 0 = [] from rfl, List.append_nil]; exact Q5.out⟩
          case round =>
            clear Q5
            obtain ⟨q, a2, cap2, hq, rfl, rfl, Q6⟩ := hrel
            have hf2 : (Sha.front xs j ++ Sha.lenBytes xs.length q).length = xs.length + 1 + j + q := by rw [List.length_append, HF.out, Sha.lenBytes_length]
            by_cases hlt : q < 8
            · have t0 : (0 : Int) ≤ 56 - 8 * (q : Int) := by omega
              have t1 : IntKind.u64.wrap (56 - 8 * (q : Int)) = 56 - 8 * (q : Int) := by unfold IntKind.wrap; simp [IntKind.signed, IntKind.bits]; omega
              have t2 : (56 - 8 * (q : Int)).toNat = 8 * (7 - q) := by omega
              have t3 : IntKind.i64.wrap (56 - 8 * (q : Int) - 8) = 56 - 8 * (q : Int) - 8 := IntWalk.i64_in _ (by omega)
              have M1 : Hid (((Sha.front xs j ++ Sha.lenBytes xs.length q).length + [(0 : Int)].length) * 1 ≤ 140737488351232) := Lib.hid (by rw [hf2]; show (xs.length + 1 + j + q + 1) * 1 ≤ 140737488351232; omega)
              have M2 : Hid ((Sha.front xs j ++ Sha.lenBytes xs.length q).length + [(0 : Int)].length ≤ 140737488351232) := Lib.hid (by rw [hf2]; show xs.length + 1 + j + q + 1 ≤ 140737488351232; omega)
              have HF2 := Lib.hid hf2
              have Q7 := Lib.hid Q6
              clear Q6 hf2
              go_wp2_with (at_builtin; go_loud (refine wpList_append_k _ rfl (.tmp 71) (.tmp 77) 22 rfl .u8 wA.heap.size 5 1 Try.underlying22 u8_info _ (Sha.front xs j ++ Sha.lenBytes xs.length q) rfl (Q7.out.own.alloc _) _ 0 1 [(xs.length : Int) * 8 / 2 ^ (8 * (7 - q)) % 256] rfl (one_byte _ _) M1.out M2.out (Nat.le_trans Q7.out.below.size (by simp)) ?_; intro v8 w8 hown8 hgrow8 hat8; have Q8 := Lib.hid (Q7.out.app _ hown8 hgrow8); clear hown8 hgrow8 hat8))
              have Q9 : RowK .u8 5 wA w8 v8 (Sha.front xs j ++ Sha.lenBytes xs.length (q + 1)) := by have := Q8.out; rw [List.append_assoc] at this; exact this
              obtain ⟨a3, cap3, h2⟩ := Q9.own.shape
              rw [List.length_append, HF.out, Sha.lenBytes_length] at h2
              exact ⟨⟨q + 1, a3, cap3, by omega, h2, by go_num, Q9⟩, by rw [h2]; simp [lenOfV]; omega⟩
            · have hge : decide ((0 : Int) ≤ 56 - 8 * (q : Int)) = false := by simp; omega
              have hge2 : decide (56 - 8 * (q : Int) ≥ 0) = false := by simp; omega
              have Q7 := Lib.hid Q6
              have hq8 : q = 8 := by omega
              clear Q6
              have hT : (Sha.front xs j ++ Sha.lenBytes xs.length q) = Sha.text xs := by unfold Sha.text; rw [hq8, HJ.out]
              have hTl := Sha.text_length xs
              have hTb := Sha.text_blocks xs
              have hTN : (Sha.text xs).length = xs.length + 1 + j + q := by rw [hTl, ← HJ.out]; omega
              rw [hTN] at hTb
              have Q8 : RowK .u8 5 wA wr (.slice a2 (xs.length + 1 + j + q) cap2) (Sha.text xs) := by have := Q7.out; rw [hT] at this; exact this
              obtain ⟨g7, cap7, hs7, hg7, hg7b, hg7c, hg7d, hr7⟩ := Q8.own.reads (by omega)
              rw [hTN] at hs7 hg7c hr7
              simp only [Value.slice.injEq] at hs7
              obtain ⟨rfl, -, rfl⟩ := hs7
              have hq5 := Q8.below.size
              have R0 : Hid (RefRel 25 57 w g4 g5 g7 (Sha.text xs) wr (Sha.hashes (Sha.text xs) 0)) := Lib.hid
                ⟨⟨cur4, (Q8.below.block _ hg4b).trans HH4.out, HR4.out⟩, fun i hi => (Q8.below.cell (p := ⟨g5, i, none⟩) hg5b).trans (HR5.out i hi), fun i hi => hr7 i (by omega),
                  (Q8.below.block _ (by have := HBA.out.size; omega)).trans HZA.out, HBA.out.trans (Q8.below.mono HBA.out.size), by omega, by omega, by omega, hg7b, fun e => hne45 e.symm, by omega⟩
              have HTN := Lib.hid hTN
              clear Q7 Q8 hT hTl hTN hr7 HH4 HR4 HR5 HZA HBA HF hq8 hq5 hne45
              generalize hNN : xs.length + 1 + j + q = N at hTb HTN hg7c ⊢
              have hN0 : N ≤ 2199023255552 := by omega
              clear hNN
              go_upto_region 19 with (fail)
              rename_i KK hKK K1 hK1
              exact ref_blocks R0.out hTb HTN.out hg7c hN0 HB.out HD.out KK hKK K1 hK1
end Go.Proofs.Ytbdnhoddkdiogaa
