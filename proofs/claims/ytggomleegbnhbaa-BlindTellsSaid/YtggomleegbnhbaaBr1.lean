import Derived.Test.YtggomleegbnhbaaBf4
set_option linter.unusedSimpArgs false
set_option linter.unusedVariables false
namespace Go.Proofs.Ytggomleegbnhbaa
open Go.RowKit
/-! The document's field. -/
theorem bits64_nat (a b : Nat) (ha : a < 65536) (hb : b < 65536) : bits .xor .i64 (a : Int) (b : Int) = ((a ^^^ b : Nat) : Int) := by
  show IntKind.i64.wrap (((BitVec.ofInt 64 (a : Int) ^^^ BitVec.ofInt 64 (b : Int)).toNat : Nat) : Int) = _
  have h := Nat.xor_lt_two_pow (n := 16) ha hb
  rw [BitVec.toNat_xor, BitVec.toNat_ofInt, BitVec.toNat_ofInt]
  have e1 : ((a : Int) % (2 ^ 64 : Nat)).toNat = a := by omega
  have e2 : ((b : Int) % (2 ^ 64 : Nat)).toNat = b := by omega
  rw [e1, e2]
  exact wrap_i64' (by omega) (by omega)
def xtN (x : Nat) : Nat := if 255 < 2 * x then (2 * x) ^^^ 283 else 2 * x
set_option maxRecDepth 1000000 in
theorem xtN_facts : ∀ x, x < 256 → xtN x = mulX x 2 ∧ (x < 128 → mulX 2 x = 2 * x) := by
  have h : allB (fun x => Nat.beq (xtN x) (mulX x 2) && (Nat.ble 128 x || Nat.beq (mulX 2 x) (2 * x))) 256 = true := by decide +kernel
  intro x hx
  have := allB_at h x hx
  rw [Bool.and_eq_true, Bool.or_eq_true] at this
  refine ⟨Nat.eq_of_beq_eq_true this.1, fun h => ?_⟩
  rcases this.2 with h1 | h1
  · have := Nat.le_of_ble_eq_true h1; omega
  · exact Nat.eq_of_beq_eq_true h1
set_option maxRecDepth 1000000 in
theorem odd_facts : ∀ y, y < 256 → y % 2 = 1 → y = (2 * (y / 2)) ^^^ 1 := by
  have h : allB (fun y => Nat.beq (y % 2) 0 || Nat.beq y ((2 * (y / 2)) ^^^ 1)) 256 = true := by decide +kernel
  intro y hy h1
  have := allB_at h y hy
  rw [Bool.or_eq_true] at this
  rcases this with h2 | h2
  · have := Nat.eq_of_beq_eq_true h2; omega
  · exact Nat.eq_of_beq_eq_true h2
theorem mulX_half {x y : Nat} (hx : x < 256) (hy : y < 256) : mulX x y = mulX (xtN x) (y / 2) ^^^ (if y % 2 = 1 then x else 0) := by
  have f1 := (xtN_facts x hx).1
  have f2 := (xtN_facts (y / 2) (by omega)).2 (by omega)
  have e : mulX x (2 * (y / 2)) = mulX (xtN x) (y / 2) := by rw [← f2, ← mulX_assoc hx (by omega) (by omega), f1]
  by_cases h : y % 2 = 1
  · rw [if_pos h]
    have ey := odd_facts y hy h
    conv => lhs; rw [ey]
    rw [mulX_xor hx (by omega) (by omega), e, mulX_comm x 1, mulX_one hx]
  · rw [if_neg h, Nat.xor_zero]
    conv => lhs; rw [show y = 2 * (y / 2) by omega]
    exact e
theorem xtN_lt {x : Nat} (h : x < 256) : xtN x < 256 := by rw [(xtN_facts x h).1]; exact mulX_lt h (by omega)
theorem div_unique {a b : Int} (ha : byteOk a) (hb : byteOk b) (h : mulT a b = 1) : a ≠ 0 ∧ divT 1 a = b := by
  have h0 : a ≠ 0 := fun e => by rw [e, zero_mulT] at h; cases h
  refine ⟨h0, ?_⟩
  have hd := divT_ok ok1 ha
  have e := mulT_bx ha hd hb
  rw [mulT_div ok1 ha h0, h, bx_self ok1] at e
  rcases Classical.em (bx (divT 1 a) b = 0) with hz | hz
  · exact bx_eq_zero hd hb hz
  · exact (mulT_ne ha (bx_ok hd hb) h0 hz e).elim
abbrev c26 (a : Int) (b : Int) : Prop := byteOk a ∧ byteOk b
abbrev r26 (a : Int) (b : Int) : AV := .c (ci .u8 (mulT a b))
abbrev L26 (a : Int) (b : Int) : Hp := []
def E26 : Entry := pureN [(.i .u8), (.i .u8)] (fun d => c26 d.1 d.2.1) (fun d => r26 d.1 d.2.1) (fun d => L26 d.1 d.2.1)
set_option maxRecDepth 100000 in
set_option maxHeartbeats 4000000 in
theorem K26 (a : Int) (b : Int) (hc : c26 a b) : CallOk Try.prog 26 [.c (ci .u8 a), .c (ci .u8 b)] [] (r26 a b) (L26 a b) := by
  have hc : byteOk a ∧ byteOk b := hc
  obtain ⟨ha, hb⟩ := hc
  obtain ⟨a, rfl, ka⟩ := byte_nat ha
  obtain ⟨b, rfl, kb⟩ := byte_nat hb
  have hwa : IntKind.i64.wrap (a : Int) = (a : Int) := wrap_i64' (by omega) (by omega)
  have hwb : IntKind.i64.wrap (b : Int) = (b : Int) := wrap_i64' (by omega) (by omega)
  refine callOk' Try.func26 30 [.tmp 4] _ rfl rfl rfl (by kernel_rfl) (by simp) [] rfl rfl (by simp) ?_
  simp only [params]
  refine AWP.sR (Gam.nil_ok _) [0, 1] (by apply aops_x (d := 4) (ag_n rfl) rfl (by first | (simp (disch := decide) only [go_sem, seval] <;> rfl) | (simp (disch := first | decide | omega) only [if_pos, nws, go_sem, seval] <;> rfl)) rfl; apply aops_end; rfl) (by (simp (disch := omega) only [go_sem, seval, lay, nws]); rfl) ?_
  refine AWP.sR (Gam.nil_ok _) [0, 1, 5] (by apply aops_x (d := 5) (ag_n rfl) rfl (by first | (simp (disch := decide) only [go_sem, seval] <;> rfl) | (simp (disch := first | decide | omega) only [if_pos, nws, go_sem, seval] <;> rfl)) rfl; apply aops_end; rfl) (by (simp (disch := omega) only [go_sem, seval, lay, nws]); rfl) ?_
  refine AWP.sR (Gam.nil_ok _) [1, 5, 6] (by apply aops_mv (t := 0) (d := 8) (ag_n rfl) rfl rfl (by first | (simp only [look_lay, look, seval] <;> rfl) | fail) rfl; apply aops_x (d := 9) (ag_n rfl) rfl (by first | (simp (disch := decide) only [hwa, go_sem, seval] <;> rfl) | (simp (disch := first | decide | omega) only [if_pos, nws, hwa, go_sem, seval] <;> rfl)) rfl; apply aops_as (t := 9) (d := 6) (ag_n rfl) rfl rfl (by first | (simp only [look_lay, look, seval] <;> rfl) | fail) rfl; apply aops_end; rfl) (by (simp (disch := omega) only [go_sem, seval, lay, nws]); rfl) ?_
  refine AWP.seq ?_
  refine AWP.sR (Gam.nil_ok _) [5, 6, 7] (by apply aops_mv (t := 1) (d := 10) (ag_n rfl) rfl rfl (by first | (simp only [look_lay, look, seval] <;> rfl) | fail) rfl; apply aops_x (d := 11) (ag_n rfl) rfl (by first | (simp (disch := decide) only [hwb, go_sem, seval] <;> rfl) | (simp (disch := first | decide | omega) only [if_pos, nws, hwb, go_sem, seval] <;> rfl)) rfl; apply aops_as (t := 11) (d := 7) (ag_n rfl) rfl rfl (by first | (simp only [look_lay, look, seval] <;> rfl) | fail) rfl; apply aops_end; rfl) (by (simp (disch := omega) only [go_sem, seval, lay, nws]); rfl) ?_
  refine AWP.block ?_
  refine AWP.loopP (fun (p : Nat × Nat × Nat) => ⟨30, [(5, .c (ci .i64 (p.1 : Int))), (6, .c (ci .i64 (p.2.1 : Int))), (7, .c (ci .i64 (p.2.2 : Int)))], []⟩) (fun p => p.1 < 256 ∧ p.2.1 < 256 ∧ p.2.2 < 256 ∧ p.1 ^^^ mulX p.2.1 p.2.2 = mulX a b) (fun p => p.2.2) (0, a, b) (Ghost.refl _ _) ⟨(by decide : 0 < 256), ka, kb, Nat.zero_xor _⟩ ?_
  rintro ⟨o, x, y⟩ ⟨ho, hx, hy, hxy⟩
  simp only at ho hx hy hxy ⊢
  rw [mulX_half hx hy] at hxy
  refine AWP.seq ?_
  refine AWP.sR (Gam.nil_ok _) [5, 6, 7, 13] (by apply aops_mv (t := 7) (d := 12) (ag_n rfl) rfl rfl (by first | (simp only [look_lay, look, seval] <;> rfl) | fail) rfl; apply aops_x (d := 13) (ag_n rfl) rfl (by first | (simp (disch := decide) only [go_sem, seval] <;> rfl) | (simp (disch := first | decide | omega) only [if_pos, nws, go_sem, seval] <;> rfl)) rfl; apply aops_end; rfl) (by (simp (disch := omega) only [go_sem, seval, lay, nws]); rfl) ?_
  refine AWP.cond (b := _) rfl (fun h => ?_) (fun h => ?_) <;> (try simp only [decide_eq_true_eq, decide_eq_false_iff_not] at h)
  · skip
    refine AWP.skip ?_
    change AWP _ _ _ _ _
    refine AWP.seqBlock ?_
    refine AWP.seq ?_
    have hm1 : Int.tmod (y : Int) 2 = ((y % 2 : Nat) : Int) := rfl
    have hm2 : (y : Int) % 2 = ((y % 2 : Nat) : Int) := rfl
    have hd1 : Int.tdiv (y : Int) 2 = ((y / 2 : Nat) : Int) := rfl
    have hd2 : (y : Int) / 2 = ((y / 2 : Nat) : Int) := rfl
    have hx2 : (x : Int) * 2 = ((2 * x : Nat) : Int) := by omega
    have hb1 := bits64_nat o x (by omega) (by omega)
    have hb2 : bits .xor .i64 ((2 * x : Nat) : Int) 283 = (((2 * x) ^^^ 283 : Nat) : Int) := bits64_nat (2 * x) 283 (by omega) (by omega)
    refine AWP.sR (Gam.nil_ok _) [5, 6, 7, 18] (by apply aops_mv (t := 7) (d := 16) (ag_n rfl) rfl rfl (by first | (simp only [look_lay, look, seval] <;> rfl) | fail) rfl; apply aops_x (d := 17) (ag_n rfl) rfl (by (simp (disch := first | decide | omega) only [if_pos, nws, hm1, hm2, go_sem, seval] <;> rfl)) rfl; apply aops_x (d := 18) (ag_n rfl) rfl (by first | (simp (disch := decide) only [hm1, hm2, go_sem, seval] <;> rfl) | (simp (disch := first | decide | omega) only [if_pos, nws, hm1, hm2, go_sem, seval] <;> rfl)) rfl; apply aops_end; rfl) (by (simp (disch := omega) only [go_sem, seval, lay, nws]); rfl) ?_
    refine AWP.cond (b := _) rfl (fun h => ?_) (fun h => ?_) <;> (try simp only [decide_eq_true_eq, decide_eq_false_iff_not] at h)
    · skip
      refine AWP.rT (Gam.nil_ok _) [5, 6, 7] (by apply aops_mv (t := 5) (d := 19) (ag_n rfl) rfl rfl (by first | (simp only [look_lay, look, seval] <;> rfl) | fail) rfl; apply aops_mv (t := 6) (d := 20) (ag_n rfl) rfl rfl (by first | (simp only [look_lay, look, seval] <;> rfl) | fail) rfl; apply aops_x (d := 21) (ag_n rfl) rfl (by first | (simp (disch := decide) only [hb1, go_sem, seval] <;> rfl) | (simp (disch := first | decide | omega) only [if_pos, nws, hb1, go_sem, seval] <;> rfl)) rfl; apply aops_as (t := 21) (d := 5) (ag_n rfl) rfl rfl (by first | (simp only [look_lay, look, seval] <;> rfl) | fail) rfl; apply aops_end; rfl) (by (simp (disch := omega) only [go_sem, seval, lay, nws]); rfl) ?_
      change AWP _ _ _ _ _
      refine AWP.sR (Gam.nil_ok _) [5, 6, 7] (by apply aops_mv (t := 6) (d := 22) (ag_n rfl) rfl rfl (by first | (simp only [look_lay, look, seval] <;> rfl) | fail) rfl; apply aops_x (d := 23) (ag_n rfl) rfl (by first | (simp (disch := decide) only [hx2, go_sem, seval] <;> rfl) | (simp (disch := first | decide | omega) only [if_pos, nws, hx2, go_sem, seval] <;> rfl)) rfl; apply aops_as (t := 23) (d := 6) (ag_n rfl) rfl rfl (by first | (simp only [look_lay, look, seval] <;> rfl) | fail) rfl; apply aops_end; rfl) (by (simp (disch := omega) only [go_sem, seval, lay, nws]); rfl) ?_
      refine AWP.sR (Gam.nil_ok _) [5, 6, 7, 25] (by apply aops_mv (t := 6) (d := 24) (ag_n rfl) rfl rfl (by first | (simp only [look_lay, look, seval] <;> rfl) | fail) rfl; apply aops_x (d := 25) (ag_n rfl) rfl (by first | (simp (disch := decide) only [hx2, go_sem, seval] <;> rfl) | (simp (disch := first | decide | omega) only [if_pos, nws, hx2, go_sem, seval] <;> rfl)) rfl; apply aops_end; rfl) (by (simp (disch := omega) only [go_sem, seval, lay, nws]); rfl) ?_
      refine AWP.cond (b := _) rfl (fun h => ?_) (fun h => ?_) <;> (try simp only [decide_eq_true_eq, decide_eq_false_iff_not] at h)
      · skip
        refine AWP.rT (Gam.nil_ok _) [5, 6, 7] (by apply aops_mv (t := 6) (d := 26) (ag_n rfl) rfl rfl (by first | (simp only [look_lay, look, seval] <;> rfl) | fail) rfl; apply aops_x (d := 27) (ag_n rfl) rfl (by first | (simp (disch := decide) only [hx2, hb2, go_sem, seval] <;> rfl) | (simp (disch := first | decide | omega) only [if_pos, nws, hx2, hb2, go_sem, seval] <;> rfl)) rfl; apply aops_as (t := 27) (d := 6) (ag_n rfl) rfl rfl (by first | (simp only [look_lay, look, seval] <;> rfl) | fail) rfl; apply aops_end; rfl) (by (simp (disch := omega) only [go_sem, seval, lay, nws]); rfl) ?_
        change AWP _ _ _ _ _
        refine AWP.rT (Gam.nil_ok _) [5, 6, 7] (by apply aops_mv (t := 7) (d := 14) (ag_n rfl) rfl rfl (by first | (simp only [look_lay, look, seval] <;> rfl) | fail) rfl; apply aops_x (d := 15) (ag_n rfl) rfl (by (simp (disch := first | decide | omega) only [if_pos, nws, hd1, hd2, go_sem, seval] <;> rfl)) rfl; apply aops_as (t := 15) (d := 7) (ag_n rfl) rfl rfl (by first | (simp only [look_lay, look, seval] <;> rfl) | fail) rfl; apply aops_end; rfl) (by (simp (disch := omega) only [go_sem, seval, lay, nws]); rfl) ?_
        have xl := xtN_lt hx
        have ol := xor_lt o x ho hx
        first
          | (have e1 : y % 2 = 1 := by omega
             have e2 : xtN x = (2 * x) ^^^ 283 := if_pos (by omega)
             rw [if_pos e1, Nat.xor_comm (mulX _ _), ← Nat.xor_assoc] at hxy
             exact ⟨(o ^^^ x, xtN x, y / 2), Ghost.of_eq (by simp only [e2, hx2, hb1, hb2, hd1, hd2]), ⟨ol, xl, by simp only; omega, hxy⟩, by simp only; omega⟩)
          | (have e1 : y % 2 = 1 := by omega
             have e2 : xtN x = 2 * x := if_neg (by omega)
             rw [if_pos e1, Nat.xor_comm (mulX _ _), ← Nat.xor_assoc] at hxy
             exact ⟨(o ^^^ x, xtN x, y / 2), Ghost.of_eq (by simp only [e2, hx2, hb1, hb2, hd1, hd2]), ⟨ol, xl, by simp only; omega, hxy⟩, by simp only; omega⟩)
          | (have e1 : ¬ y % 2 = 1 := by omega
             have e2 : xtN x = (2 * x) ^^^ 283 := if_pos (by omega)
             rw [if_neg e1, Nat.xor_zero] at hxy
             exact ⟨(o, xtN x, y / 2), Ghost.of_eq (by simp only [e2, hx2, hb1, hb2, hd1, hd2]), ⟨ho, xl, by simp only; omega, hxy⟩, by simp only; omega⟩)
          | (have e1 : ¬ y % 2 = 1 := by omega
             have e2 : xtN x = 2 * x := if_neg (by omega)
             rw [if_neg e1, Nat.xor_zero] at hxy
             exact ⟨(o, xtN x, y / 2), Ghost.of_eq (by simp only [e2, hx2, hb1, hb2, hd1, hd2]), ⟨ho, xl, by simp only; omega, hxy⟩, by simp only; omega⟩)
      · skip
        refine AWP.skip ?_
        change AWP _ _ _ _ _
        refine AWP.rT (Gam.nil_ok _) [5, 6, 7] (by apply aops_mv (t := 7) (d := 14) (ag_n rfl) rfl rfl (by first | (simp only [look_lay, look, seval] <;> rfl) | fail) rfl; apply aops_x (d := 15) (ag_n rfl) rfl (by (simp (disch := first | decide | omega) only [if_pos, nws, hd1, hd2, go_sem, seval] <;> rfl)) rfl; apply aops_as (t := 15) (d := 7) (ag_n rfl) rfl rfl (by first | (simp only [look_lay, look, seval] <;> rfl) | fail) rfl; apply aops_end; rfl) (by (simp (disch := omega) only [go_sem, seval, lay, nws]); rfl) ?_
        have xl := xtN_lt hx
        have ol := xor_lt o x ho hx
        first
          | (have e1 : y % 2 = 1 := by omega
             have e2 : xtN x = (2 * x) ^^^ 283 := if_pos (by omega)
             rw [if_pos e1, Nat.xor_comm (mulX _ _), ← Nat.xor_assoc] at hxy
             exact ⟨(o ^^^ x, xtN x, y / 2), Ghost.of_eq (by simp only [e2, hx2, hb1, hb2, hd1, hd2]), ⟨ol, xl, by simp only; omega, hxy⟩, by simp only; omega⟩)
          | (have e1 : y % 2 = 1 := by omega
             have e2 : xtN x = 2 * x := if_neg (by omega)
             rw [if_pos e1, Nat.xor_comm (mulX _ _), ← Nat.xor_assoc] at hxy
             exact ⟨(o ^^^ x, xtN x, y / 2), Ghost.of_eq (by simp only [e2, hx2, hb1, hb2, hd1, hd2]), ⟨ol, xl, by simp only; omega, hxy⟩, by simp only; omega⟩)
          | (have e1 : ¬ y % 2 = 1 := by omega
             have e2 : xtN x = (2 * x) ^^^ 283 := if_pos (by omega)
             rw [if_neg e1, Nat.xor_zero] at hxy
             exact ⟨(o, xtN x, y / 2), Ghost.of_eq (by simp only [e2, hx2, hb1, hb2, hd1, hd2]), ⟨ho, xl, by simp only; omega, hxy⟩, by simp only; omega⟩)
          | (have e1 : ¬ y % 2 = 1 := by omega
             have e2 : xtN x = 2 * x := if_neg (by omega)
             rw [if_neg e1, Nat.xor_zero] at hxy
             exact ⟨(o, xtN x, y / 2), Ghost.of_eq (by simp only [e2, hx2, hb1, hb2, hd1, hd2]), ⟨ho, xl, by simp only; omega, hxy⟩, by simp only; omega⟩)
    · skip
      refine AWP.skip ?_
      change AWP _ _ _ _ _
      refine AWP.sR (Gam.nil_ok _) [5, 6, 7] (by apply aops_mv (t := 6) (d := 22) (ag_n rfl) rfl rfl (by first | (simp only [look_lay, look, seval] <;> rfl) | fail) rfl; apply aops_x (d := 23) (ag_n rfl) rfl (by first | (simp (disch := decide) only [hx2, go_sem, seval] <;> rfl) | (simp (disch := first | decide | omega) only [if_pos, nws, hx2, go_sem, seval] <;> rfl)) rfl; apply aops_as (t := 23) (d := 6) (ag_n rfl) rfl rfl (by first | (simp only [look_lay, look, seval] <;> rfl) | fail) rfl; apply aops_end; rfl) (by (simp (disch := omega) only [go_sem, seval, lay, nws]); rfl) ?_
      refine AWP.sR (Gam.nil_ok _) [5, 6, 7, 25] (by apply aops_mv (t := 6) (d := 24) (ag_n rfl) rfl rfl (by first | (simp only [look_lay, look, seval] <;> rfl) | fail) rfl; apply aops_x (d := 25) (ag_n rfl) rfl (by first | (simp (disch := decide) only [hx2, go_sem, seval] <;> rfl) | (simp (disch := first | decide | omega) only [if_pos, nws, hx2, go_sem, seval] <;> rfl)) rfl; apply aops_end; rfl) (by (simp (disch := omega) only [go_sem, seval, lay, nws]); rfl) ?_
      refine AWP.cond (b := _) rfl (fun h => ?_) (fun h => ?_) <;> (try simp only [decide_eq_true_eq, decide_eq_false_iff_not] at h)
      · skip
        refine AWP.rT (Gam.nil_ok _) [5, 6, 7] (by apply aops_mv (t := 6) (d := 26) (ag_n rfl) rfl rfl (by first | (simp only [look_lay, look, seval] <;> rfl) | fail) rfl; apply aops_x (d := 27) (ag_n rfl) rfl (by first | (simp (disch := decide) only [hx2, hb2, go_sem, seval] <;> rfl) | (simp (disch := first | decide | omega) only [if_pos, nws, hx2, hb2, go_sem, seval] <;> rfl)) rfl; apply aops_as (t := 27) (d := 6) (ag_n rfl) rfl rfl (by first | (simp only [look_lay, look, seval] <;> rfl) | fail) rfl; apply aops_end; rfl) (by (simp (disch := omega) only [go_sem, seval, lay, nws]); rfl) ?_
        change AWP _ _ _ _ _
        refine AWP.rT (Gam.nil_ok _) [5, 6, 7] (by apply aops_mv (t := 7) (d := 14) (ag_n rfl) rfl rfl (by first | (simp only [look_lay, look, seval] <;> rfl) | fail) rfl; apply aops_x (d := 15) (ag_n rfl) rfl (by (simp (disch := first | decide | omega) only [if_pos, nws, hd1, hd2, go_sem, seval] <;> rfl)) rfl; apply aops_as (t := 15) (d := 7) (ag_n rfl) rfl rfl (by first | (simp only [look_lay, look, seval] <;> rfl) | fail) rfl; apply aops_end; rfl) (by (simp (disch := omega) only [go_sem, seval, lay, nws]); rfl) ?_
        have xl := xtN_lt hx
        have ol := xor_lt o x ho hx
        first
          | (have e1 : y % 2 = 1 := by omega
             have e2 : xtN x = (2 * x) ^^^ 283 := if_pos (by omega)
             rw [if_pos e1, Nat.xor_comm (mulX _ _), ← Nat.xor_assoc] at hxy
             exact ⟨(o ^^^ x, xtN x, y / 2), Ghost.of_eq (by simp only [e2, hx2, hb1, hb2, hd1, hd2]), ⟨ol, xl, by simp only; omega, hxy⟩, by simp only; omega⟩)
          | (have e1 : y % 2 = 1 := by omega
             have e2 : xtN x = 2 * x := if_neg (by omega)
             rw [if_pos e1, Nat.xor_comm (mulX _ _), ← Nat.xor_assoc] at hxy
             exact ⟨(o ^^^ x, xtN x, y / 2), Ghost.of_eq (by simp only [e2, hx2, hb1, hb2, hd1, hd2]), ⟨ol, xl, by simp only; omega, hxy⟩, by simp only; omega⟩)
          | (have e1 : ¬ y % 2 = 1 := by omega
             have e2 : xtN x = (2 * x) ^^^ 283 := if_pos (by omega)
             rw [if_neg e1, Nat.xor_zero] at hxy
             exact ⟨(o, xtN x, y / 2), Ghost.of_eq (by simp only [e2, hx2, hb1, hb2, hd1, hd2]), ⟨ho, xl, by simp only; omega, hxy⟩, by simp only; omega⟩)
          | (have e1 : ¬ y % 2 = 1 := by omega
             have e2 : xtN x = 2 * x := if_neg (by omega)
             rw [if_neg e1, Nat.xor_zero] at hxy
             exact ⟨(o, xtN x, y / 2), Ghost.of_eq (by simp only [e2, hx2, hb1, hb2, hd1, hd2]), ⟨ho, xl, by simp only; omega, hxy⟩, by simp only; omega⟩)
      · skip
        refine AWP.skip ?_
        change AWP _ _ _ _ _
        refine AWP.rT (Gam.nil_ok _) [5, 6, 7] (by apply aops_mv (t := 7) (d := 14) (ag_n rfl) rfl rfl (by first | (simp only [look_lay, look, seval] <;> rfl) | fail) rfl; apply aops_x (d := 15) (ag_n rfl) rfl (by (simp (disch := first | decide | omega) only [if_pos, nws, hd1, hd2, go_sem, seval] <;> rfl)) rfl; apply aops_as (t := 15) (d := 7) (ag_n rfl) rfl rfl (by first | (simp only [look_lay, look, seval] <;> rfl) | fail) rfl; apply aops_end; rfl) (by (simp (disch := omega) only [go_sem, seval, lay, nws]); rfl) ?_
        have xl := xtN_lt hx
        have ol := xor_lt o x ho hx
        first
          | (have e1 : y % 2 = 1 := by omega
             have e2 : xtN x = (2 * x) ^^^ 283 := if_pos (by omega)
             rw [if_pos e1, Nat.xor_comm (mulX _ _), ← Nat.xor_assoc] at hxy
             exact ⟨(o ^^^ x, xtN x, y / 2), Ghost.of_eq (by simp only [e2, hx2, hb1, hb2, hd1, hd2]), ⟨ol, xl, by simp only; omega, hxy⟩, by simp only; omega⟩)
          | (have e1 : y % 2 = 1 := by omega
             have e2 : xtN x = 2 * x := if_neg (by omega)
             rw [if_pos e1, Nat.xor_comm (mulX _ _), ← Nat.xor_assoc] at hxy
             exact ⟨(o ^^^ x, xtN x, y / 2), Ghost.of_eq (by simp only [e2, hx2, hb1, hb2, hd1, hd2]), ⟨ol, xl, by simp only; omega, hxy⟩, by simp only; omega⟩)
          | (have e1 : ¬ y % 2 = 1 := by omega
             have e2 : xtN x = (2 * x) ^^^ 283 := if_pos (by omega)
             rw [if_neg e1, Nat.xor_zero] at hxy
             exact ⟨(o, xtN x, y / 2), Ghost.of_eq (by simp only [e2, hx2, hb1, hb2, hd1, hd2]), ⟨ho, xl, by simp only; omega, hxy⟩, by simp only; omega⟩)
          | (have e1 : ¬ y % 2 = 1 := by omega
             have e2 : xtN x = 2 * x := if_neg (by omega)
             rw [if_neg e1, Nat.xor_zero] at hxy
             exact ⟨(o, xtN x, y / 2), Ghost.of_eq (by simp only [e2, hx2, hb1, hb2, hd1, hd2]), ⟨ho, xl, by simp only; omega, hxy⟩, by simp only; omega⟩)
  · skip
    refine AWP.exit ?_
    change AWP _ _ _ _ _
    have ey : y = 0 := by omega
    have hwo : IntKind.u8.wrap (o : Int) = (o : Int) := wrap_u8' (by omega) (by omega)
    subst ey
    have hz : o = mulX a b := by rw [← hxy]; simp [mulX]
    refine AWP.sR (Gam.nil_ok _) [4] (by apply aops_mv (t := 5) (d := 28) (ag_n rfl) rfl rfl (by first | (simp only [look_lay, look, seval] <;> rfl) | fail) rfl; apply aops_x (d := 29) (ag_n rfl) rfl (by first | (simp (disch := decide) only [hwo, go_sem, seval] <;> rfl) | (simp (disch := first | decide | omega) only [if_pos, nws, hwo, go_sem, seval] <;> rfl)) rfl; apply aops_as (t := 29) (d := 4) (ag_n rfl) rfl rfl (by first | (simp only [look_lay, look, seval] <;> rfl) | fail) rfl; apply aops_end; rfl) (by (simp (disch := omega) only [go_sem, seval, lay, nws]); rfl) ?_
    refine AWP.ret ?_
    refine ⟨.inr rfl, _, (by simp only [go_sem, seval] <;> rfl), ?_⟩
    simp only [go_sem, seval, Option.some.injEq, AV.c.injEq, AV.agg.injEq, CV.v.injEq, Value.int.injEq, Value.bool.injEq, Row.raw.injEq, List.cons.injEq, CV.sl.injEq, and_true, true_and, and_self]
    rw [mulT_nat ka kb, hz]
theorem E26_ok : EntryOk Try.prog 26 E26 := pureN_ok (fun d hc => K26 d.1 d.2.1 hc) (fun _ => rfl) (fun _ => rfl)
attribute [go_sem] E26 c26 r26 L26
abbrev c31 (a : Int) : Prop := byteOk a
abbrev r31 (a : Int) : AV := .tup [.c (ci .u8 (divT 1 a)), .c (cb (decide (a ≠ 0)))]
abbrev L31 (a : Int) : Hp := []
def E31 : Entry := pureN [(.i .u8)] (fun d => c31 d.1) (fun d => r31 d.1) (fun d => L31 d.1)
set_option maxRecDepth 100000 in
set_option maxHeartbeats 4000000 in
theorem K31 (a : Int) (hc : c31 a) : CallOk Try.prog 31 [.c (ci .u8 a)] [] (r31 a) (L31 a) := by
  have hc : byteOk a := hc
  have gok := (Gam.cons_ok E26_ok (Gam.nil_ok _))
  refine callOk' Try.func31 16 [.tmp 2, .tmp 3] _ rfl rfl rfl (by kernel_rfl) (by simp) [] rfl rfl (by simp) ?_
  simp only [params]
  refine AWP.sR gok [0] (by apply aops_x (d := 2) (ag_n rfl) rfl (by first | (simp (disch := decide) only [go_sem, seval] <;> rfl) | (simp (disch := first | decide | omega) only [if_pos, nws, go_sem, seval] <;> rfl)) rfl; apply aops_x (d := 3) (ag_n rfl) rfl (by first | (simp (disch := decide) only [go_sem, seval] <;> rfl) | (simp (disch := first | decide | omega) only [if_pos, nws, go_sem, seval] <;> rfl)) rfl; apply aops_end; rfl) (by (simp (disch := omega) only [go_sem, seval, lay, nws]); rfl) ?_
  refine AWP.seq ?_
  refine AWP.sR gok [0, 4] (by apply aops_x (d := 4) (ag_n rfl) rfl (by first | (simp (disch := decide) only [go_sem, seval] <;> rfl) | (simp (disch := first | decide | omega) only [if_pos, nws, go_sem, seval] <;> rfl)) rfl; apply aops_end; rfl) (by (simp (disch := omega) only [go_sem, seval, lay, nws]); rfl) ?_
  refine AWP.block ?_
  refine AWP.loopP (fun (p : Nat) => ⟨16, [(0, .c (ci .u8 a)), (4, .c (ci .i64 (p : Int)))], []⟩) (fun p => p ≤ 256 ∧ ∀ b : Nat, b < p → mulT a (b : Int) ≠ 1) (fun p => 256 - p) 0 (Ghost.refl _ _) ⟨Nat.zero_le _, fun b hb => (Nat.not_lt_zero _ hb).elim⟩ ?_
  rintro b ⟨hb, hn⟩
  refine AWP.seq ?_
  refine AWP.sR gok [0, 4, 6] (by apply aops_mv (t := 4) (d := 5) (ag_n rfl) rfl rfl (by first | (simp only [look_lay, look, seval] <;> rfl) | fail) rfl; apply aops_x (d := 6) (ag_n rfl) rfl (by first | (simp (disch := decide) only [go_sem, seval] <;> rfl) | (simp (disch := first | decide | omega) only [if_pos, nws, go_sem, seval] <;> rfl)) rfl; apply aops_end; rfl) (by (simp (disch := omega) only [go_sem, seval, lay, nws]); rfl) ?_
  refine AWP.cond (b := _) rfl (fun h => ?_) (fun h => ?_) <;> (try simp only [decide_eq_true_eq, decide_eq_false_iff_not] at h)
  · skip
    refine AWP.skip ?_
    change AWP _ _ _ _ _
    refine AWP.seqBlock ?_
    have hwb : IntKind.u8.wrap (b : Int) = (b : Int) := wrap_u8' (by omega) (by omega)
    have hbo : byteOk (b : Int) := ⟨by omega, by omega⟩
    refine AWP.sR gok [0, 4, 13] (by apply aops_mv (t := 0) (d := 9) (ag_n rfl) rfl rfl (by first | (simp only [look_lay, look, seval] <;> rfl) | fail) rfl; apply aops_mv (t := 4) (d := 10) (ag_n rfl) rfl rfl (by first | (simp only [look_lay, look, seval] <;> rfl) | fail) rfl; apply aops_x (d := 11) (ag_n rfl) rfl (by first | (simp (disch := decide) only [hwb, hc, hbo, go_sem, seval] <;> rfl) | (simp (disch := first | decide | omega) only [if_pos, nws, hwb, hc, hbo, go_sem, seval] <;> rfl)) rfl; apply aops_x (d := 12) (ag_n rfl) rfl (by (simp (disch := first | decide | omega) only [if_pos, nws, hwb, hc, hbo, go_sem, seval] <;> rfl)) rfl; apply aops_x (d := 13) (ag_n rfl) rfl (by first | (simp (disch := decide) only [hwb, hc, hbo, go_sem, seval] <;> rfl) | (simp (disch := first | decide | omega) only [if_pos, nws, hwb, hc, hbo, go_sem, seval] <;> rfl)) rfl; apply aops_end; rfl) (by (simp (disch := omega) only [go_sem, seval, lay, nws]); rfl) ?_
    refine AWP.cond (b := _) rfl (fun h => ?_) (fun h => ?_) <;> (try simp only [decide_eq_true_eq, decide_eq_false_iff_not] at h)
    · skip
      refine AWP.sR gok [2, 3] (by apply aops_mv (t := 4) (d := 14) (ag_n rfl) rfl rfl (by first | (simp only [look_lay, look, seval] <;> rfl) | fail) rfl; apply aops_x (d := 15) (ag_n rfl) rfl (by first | (simp (disch := decide) only [hwb, go_sem, seval] <;> rfl) | (simp (disch := first | decide | omega) only [if_pos, nws, hwb, go_sem, seval] <;> rfl)) rfl; apply aops_as (t := 15) (d := 2) (ag_n rfl) rfl rfl (by first | (simp only [look_lay, look, seval] <;> rfl) | fail) rfl; apply aops_x (d := 3) (ag_n rfl) rfl (by first | (simp (disch := decide) only [hwb, go_sem, seval] <;> rfl) | (simp (disch := first | decide | omega) only [if_pos, nws, hwb, go_sem, seval] <;> rfl)) rfl; apply aops_end; rfl) (by (simp (disch := omega) only [go_sem, seval, lay, nws]); rfl) ?_
      refine AWP.ret ?_
      refine ⟨.inr rfl, _, (by simp only [go_sem, seval] <;> rfl), ?_⟩
      simp only [go_sem, seval, Option.some.injEq, AV.c.injEq, AV.agg.injEq, CV.v.injEq, Value.int.injEq, Value.bool.injEq, Row.raw.injEq, List.cons.injEq, CV.sl.injEq, and_true, true_and, and_self]
      obtain ⟨h1, h2⟩ := div_unique hc hbo h
      show _ = AV.tup [.c (ci .u8 (divT 1 a)), .c (cb (decide (a ≠ 0)))]
      rw [h2, decide_eq_true h1]
    · skip
      refine AWP.skip ?_
      change AWP _ _ _ _ _
      refine AWP.rT gok [0, 4] (by apply aops_mv (t := 4) (d := 7) (ag_n rfl) rfl rfl (by first | (simp only [look_lay, look, seval] <;> rfl) | fail) rfl; apply aops_x (d := 8) (ag_n rfl) rfl (by first | (simp (disch := decide) only [go_sem, seval] <;> rfl) | (simp (disch := first | decide | omega) only [if_pos, nws, go_sem, seval] <;> rfl)) rfl; apply aops_as (t := 8) (d := 4) (ag_n rfl) rfl rfl (by first | (simp only [look_lay, look, seval] <;> rfl) | fail) rfl; apply aops_end; rfl) (by (simp (disch := omega) only [go_sem, seval, lay, nws]); rfl) ?_
      exact ⟨b + 1, Ghost.of_eq (by simp only [Int.natCast_add, Int.cast_ofNat_Int]), ⟨by omega, fun c hc' => by
        rcases Nat.lt_or_ge c b with h1 | h1
        · exact hn c h1
        · rw [show c = b by omega]; exact h⟩, by omega⟩
  · skip
    refine AWP.exit ?_
    change AWP _ _ _ _ _
    refine AWP.sR gok [2, 3] (by apply aops_x (d := 2) (ag_n rfl) rfl (by first | (simp (disch := decide) only [go_sem, seval] <;> rfl) | (simp (disch := first | decide | omega) only [if_pos, nws, go_sem, seval] <;> rfl)) rfl; apply aops_x (d := 3) (ag_n rfl) rfl (by first | (simp (disch := decide) only [go_sem, seval] <;> rfl) | (simp (disch := first | decide | omega) only [if_pos, nws, go_sem, seval] <;> rfl)) rfl; apply aops_end; rfl) (by (simp (disch := omega) only [go_sem, seval, lay, nws]); rfl) ?_
    refine AWP.ret ?_
    refine ⟨.inr rfl, _, (by simp only [go_sem, seval] <;> rfl), ?_⟩
    simp only [go_sem, seval, Option.some.injEq, AV.c.injEq, AV.agg.injEq, CV.v.injEq, Value.int.injEq, Value.bool.injEq, Row.raw.injEq, List.cons.injEq, CV.sl.injEq, and_true, true_and, and_self]
    have e : a = 0 := by
      rcases Classical.em (a = 0) with h0 | h0
      · exact h0
      · have hd := divT_ok ok1 hc
        have h1 := mulT_div ok1 hc h0
        obtain ⟨n, e, hn2⟩ := byte_nat hd
        rw [e] at h1
        exact (hn n (by omega) h1).elim
    subst e; rfl
theorem E31_ok : EntryOk Try.prog 31 E31 := pureN_ok (fun d hc => K31 d.1 hc) (fun _ => rfl) (fun _ => rfl)
attribute [go_sem] E31 c31 r31 L31
abbrev c39 (a : (List Int)) : Prop := a.length ≤ 4000000000
abbrev r39 (a : (List Int)) : AV := .c (.sl 0 0 (trimF a).length 1)
abbrev L39 (a : (List Int)) : Hp := [some (.ty (.i .u8) (trimF a))]
def E39 : Entry := pureN [(.sl (.i .u8))] (fun d => c39 d.1) (fun d => r39 d.1) (fun d => L39 d.1)
set_option maxRecDepth 100000 in
set_option maxHeartbeats 4000000 in
theorem K39 (a : (List Int)) (hc : c39 a) : CallOk Try.prog 39 [.c (.rs (.i .u8) a)] [] (r39 a) (L39 a) := by
  have hc : a.length ≤ 4000000000 := hc
  refine callOk' Try.func39 23 [.tmp 2] _ rfl rfl rfl (by kernel_rfl) (by simp) [1] rfl rfl (by simp) ?_
  simp only [params]
  refine AWP.sR (Gam.nil_ok _) [0] (by apply aops_x (d := 2) (ag_n rfl) rfl (by first | (simp (disch := decide) only [go_sem, seval] <;> rfl) | (simp (disch := first | decide | omega) only [if_pos, nws, go_sem, seval] <;> rfl)) rfl; apply aops_end; rfl) (by (simp (disch := omega) only [go_sem, seval, lay, nws]); rfl) ?_
  refine AWP.sR (Gam.nil_ok _) [0, 3] (by apply aops_mv (t := 0) (d := 4) (ag_n rfl) rfl rfl (by first | (simp only [look_lay, look, seval] <;> rfl) | fail) rfl; apply aops_x (d := 5) (ag_n rfl) rfl (by first | (simp (disch := decide) only [go_sem, seval] <;> rfl) | (simp (disch := first | decide | omega) only [if_pos, nws, go_sem, seval] <;> rfl)) rfl; apply aops_as (t := 5) (d := 3) (ag_n rfl) rfl rfl (by first | (simp only [look_lay, look, seval] <;> rfl) | fail) rfl; apply aops_end; rfl) (by (simp (disch := omega) only [go_sem, seval, lay, nws]); rfl) ?_
  refine AWP.seqBlock ?_
  refine AWP.loopP (fun (p : Nat) => ⟨23, [(0, .c (.rs (.i .u8) a)), (3, .c (ci .i64 (p : Int)))], []⟩) (fun p => p ≤ a.length ∧ trimF (a.take p) = trimF a) (fun p => p) a.length (Ghost.refl _ _) ⟨Nat.le_refl _, by rw [List.take_length]⟩ ?_
  rintro k ⟨hk, ht⟩
  refine AWP.seq ?_
  refine AWP.sX (Gam.nil_ok _) [0, 3, 15] (s2 := ⟨23, [(0, .c (.rs (.i .u8) a)), (3, .c (ci .i64 (k : Int))), (15, .c (cb (lastZ a k)))], []⟩) (by ((rcases k with _ | k; have hx := hk; have hk' := hk; have hk0 := hk; rotate_left; (obtain ⟨x, hx⟩ : ∃ x, a[k]? = some x := ⟨_, List.getElem?_eq_getElem hk⟩); have hk' : k < a.length := hk; (have hk0 : (0 : Int) < (k : Int) + 1 := by omega); rotate_left)) <;> refine ⟨_, (by apply aops_mv (t := 3) (d := 6) (ag_n rfl) rfl rfl (by first | (simp only [look_lay, look, seval] <;> rfl) | fail) rfl; apply aops_x (d := 7) (ag_n rfl) rfl (by (simp (disch := first | decide | omega) only [if_pos, nws, hx, hk', hk0, Int.natCast_add, Int.cast_ofNat_Int, Int.add_sub_cancel, Int.natCast_nonneg, lastZ, gt_iff_lt, go_sem, seval] <;> rfl)) rfl; apply aops_mv (t := 7) (d := 8) (ag_n rfl) rfl rfl (by first | (simp only [look_lay, look, seval] <;> rfl) | fail) rfl; (first | apply aops_mv (t := 0) (d := 9) (ag_b (j := 2) (d := 8) rfl rfl rfl (by first | (simp only [look_lay, look, seval] <;> rfl) | fail) (by first | rfl | (simp only [hx, hk', hk0, Int.natCast_add, Int.cast_ofNat_Int, Int.add_sub_cancel, Int.natCast_nonneg, lastZ, gt_iff_lt, decide_true, decide_false] <;> rfl) | fail)) rfl rfl (by first | (simp only [look_lay, look, seval] <;> rfl) | fail) rfl | apply aops_ps (d := 9) (by first | exact ag_f (j := 2) (d := 8) rfl rfl rfl (by first | (simp only [look_lay, look, seval] <;> rfl) | fail) (by first | rfl | (simp only [hx, hk', hk0, Int.natCast_add, Int.cast_ofNat_Int, Int.add_sub_cancel, Int.natCast_nonneg, lastZ, gt_iff_lt, decide_true, decide_false] <;> rfl) | fail) | exact ag_u (j := 2) (d := 8) rfl rfl rfl (by first | (simp only [look_lay, look, seval] <;> rfl) | fail) | fail) rfl rfl); (first | apply aops_mv (t := 3) (d := 10) (ag_b (j := 2) (d := 8) rfl rfl rfl (by first | (simp only [look_lay, look, seval] <;> rfl) | fail) (by first | rfl | (simp only [hx, hk', hk0, Int.natCast_add, Int.cast_ofNat_Int, Int.add_sub_cancel, Int.natCast_nonneg, lastZ, gt_iff_lt, decide_true, decide_false] <;> rfl) | fail)) rfl rfl (by first | (simp only [look_lay, look, seval] <;> rfl) | fail) rfl | apply aops_ps (d := 10) (by first | exact ag_f (j := 2) (d := 8) rfl rfl rfl (by first | (simp only [look_lay, look, seval] <;> rfl) | fail) (by first | rfl | (simp only [hx, hk', hk0, Int.natCast_add, Int.cast_ofNat_Int, Int.add_sub_cancel, Int.natCast_nonneg, lastZ, gt_iff_lt, decide_true, decide_false] <;> rfl) | fail) | exact ag_u (j := 2) (d := 8) rfl rfl rfl (by first | (simp only [look_lay, look, seval] <;> rfl) | fail) | fail) rfl rfl); (first | apply aops_x (d := 11) (ag_b (j := 2) (d := 8) rfl rfl rfl (by first | (simp only [look_lay, look, seval] <;> rfl) | fail) (by first | rfl | (simp only [hx, hk', hk0, Int.natCast_add, Int.cast_ofNat_Int, Int.add_sub_cancel, Int.natCast_nonneg, lastZ, gt_iff_lt, decide_true, decide_false] <;> rfl) | fail)) rfl (by (simp (disch := first | decide | omega) only [if_pos, nws, hx, hk', hk0, Int.natCast_add, Int.cast_ofNat_Int, Int.add_sub_cancel, Int.natCast_nonneg, lastZ, gt_iff_lt, go_sem, seval] <;> rfl)) rfl | apply aops_ps (d := 11) (by first | exact ag_f (j := 2) (d := 8) rfl rfl rfl (by first | (simp only [look_lay, look, seval] <;> rfl) | fail) (by first | rfl | (simp only [hx, hk', hk0, Int.natCast_add, Int.cast_ofNat_Int, Int.add_sub_cancel, Int.natCast_nonneg, lastZ, gt_iff_lt, decide_true, decide_false] <;> rfl) | fail) | exact ag_u (j := 2) (d := 8) rfl rfl rfl (by first | (simp only [look_lay, look, seval] <;> rfl) | fail) | fail) rfl rfl); (first | apply aops_x (d := 12) (ag_b (j := 2) (d := 8) rfl rfl rfl (by first | (simp only [look_lay, look, seval] <;> rfl) | fail) (by first | rfl | (simp only [hx, hk', hk0, Int.natCast_add, Int.cast_ofNat_Int, Int.add_sub_cancel, Int.natCast_nonneg, lastZ, gt_iff_lt, decide_true, decide_false] <;> rfl) | fail)) rfl (by (simp (disch := first | decide | omega) only [if_pos, nws, hx, hk', hk0, Int.natCast_add, Int.cast_ofNat_Int, Int.add_sub_cancel, Int.natCast_nonneg, lastZ, gt_iff_lt, go_sem, seval] <;> rfl)) rfl | apply aops_ps (d := 12) (by first | exact ag_f (j := 2) (d := 8) rfl rfl rfl (by first | (simp only [look_lay, look, seval] <;> rfl) | fail) (by first | rfl | (simp only [hx, hk', hk0, Int.natCast_add, Int.cast_ofNat_Int, Int.add_sub_cancel, Int.natCast_nonneg, lastZ, gt_iff_lt, decide_true, decide_false] <;> rfl) | fail) | exact ag_u (j := 2) (d := 8) rfl rfl rfl (by first | (simp only [look_lay, look, seval] <;> rfl) | fail) | fail) rfl rfl); (first | apply aops_x (d := 13) (ag_b (j := 2) (d := 8) rfl rfl rfl (by first | (simp only [look_lay, look, seval] <;> rfl) | fail) (by first | rfl | (simp only [hx, hk', hk0, Int.natCast_add, Int.cast_ofNat_Int, Int.add_sub_cancel, Int.natCast_nonneg, lastZ, gt_iff_lt, decide_true, decide_false] <;> rfl) | fail)) rfl (by (simp (disch := first | decide | omega) only [if_pos, nws, hx, hk', hk0, Int.natCast_add, Int.cast_ofNat_Int, Int.add_sub_cancel, Int.natCast_nonneg, lastZ, gt_iff_lt, go_sem, seval] <;> rfl)) rfl | apply aops_ps (d := 13) (by first | exact ag_f (j := 2) (d := 8) rfl rfl rfl (by first | (simp only [look_lay, look, seval] <;> rfl) | fail) (by first | rfl | (simp only [hx, hk', hk0, Int.natCast_add, Int.cast_ofNat_Int, Int.add_sub_cancel, Int.natCast_nonneg, lastZ, gt_iff_lt, decide_true, decide_false] <;> rfl) | fail) | exact ag_u (j := 2) (d := 8) rfl rfl rfl (by first | (simp only [look_lay, look, seval] <;> rfl) | fail) | fail) rfl rfl); (first | apply aops_x (d := 14) (ag_b (j := 2) (d := 8) rfl rfl rfl (by first | (simp only [look_lay, look, seval] <;> rfl) | fail) (by first | rfl | (simp only [hx, hk', hk0, Int.natCast_add, Int.cast_ofNat_Int, Int.add_sub_cancel, Int.natCast_nonneg, lastZ, gt_iff_lt, decide_true, decide_false] <;> rfl) | fail)) rfl (by (simp (disch := first | decide | omega) only [if_pos, nws, hx, hk', hk0, Int.natCast_add, Int.cast_ofNat_Int, Int.add_sub_cancel, Int.natCast_nonneg, lastZ, gt_iff_lt, go_sem, seval] <;> rfl)) rfl | apply aops_ps (d := 14) (by first | exact ag_f (j := 2) (d := 8) rfl rfl rfl (by first | (simp only [look_lay, look, seval] <;> rfl) | fail) (by first | rfl | (simp only [hx, hk', hk0, Int.natCast_add, Int.cast_ofNat_Int, Int.add_sub_cancel, Int.natCast_nonneg, lastZ, gt_iff_lt, decide_true, decide_false] <;> rfl) | fail) | exact ag_u (j := 2) (d := 8) rfl rfl rfl (by first | (simp only [look_lay, look, seval] <;> rfl) | fail) | fail) rfl rfl); apply aops_x (d := 15) (ag_n rfl) rfl (by (simp (disch := first | decide | omega) only [if_pos, nws, hx, hk', hk0, Int.natCast_add, Int.cast_ofNat_Int, Int.add_sub_cancel, Int.natCast_nonneg, lastZ, gt_iff_lt, go_sem, seval] <;> rfl)) rfl; apply aops_end; rfl), (by (simp (disch := omega) only [hx, hk', hk0, Int.natCast_add, Int.cast_ofNat_Int, Int.add_sub_cancel, Int.natCast_nonneg, lastZ, gt_iff_lt, go_sem, seval, lay, nws]) <;> rfl)⟩) ?_
  refine AWP.cond (b := _) rfl (fun h => ?_) (fun h => ?_) <;> (try simp only [decide_eq_true_eq, decide_eq_false_iff_not] at h)
  · skip
    refine AWP.skip ?_
    change AWP _ _ _ _ _
    refine AWP.block ?_
    obtain ⟨k, rfl⟩ : ∃ j, k = j + 1 := by cases k with | zero => cases h | succ j => exact ⟨j, rfl⟩
    refine AWP.rT (Gam.nil_ok _) [0, 3] (by apply aops_mv (t := 3) (d := 16) (ag_n rfl) rfl rfl (by first | (simp only [look_lay, look, seval] <;> rfl) | fail) rfl; apply aops_x (d := 17) (ag_n rfl) rfl (by first | (simp (disch := decide) only [go_sem, seval] <;> rfl) | (simp (disch := first | decide | omega) only [if_pos, nws, go_sem, seval] <;> rfl)) rfl; apply aops_as (t := 17) (d := 3) (ag_n rfl) rfl rfl (by first | (simp only [look_lay, look, seval] <;> rfl) | fail) rfl; apply aops_end; rfl) (by (simp (disch := omega) only [go_sem, seval, lay, nws]); rfl) ?_
    exact ⟨k, Ghost.of_eq (by simp only [Int.natCast_add, Int.cast_ofNat_Int, Int.add_sub_cancel]), ⟨by omega, lastZ_step hk ht h⟩, by omega⟩
  · skip
    refine AWP.exit ?_
    change AWP _ _ _ _ _
    have e := lastZ_stop hk ht h
    have e2 : a.take k = trimF a := by rw [← e, trimF_take]
    have hm : min k a.length = k := Nat.min_eq_left hk
    refine AWP.sR (Gam.nil_ok _) [2] (by apply aops_x (d := 18) (ag_n rfl) rfl (by (simp (disch := first | decide | omega) only [if_pos, nws, Nat.sub_zero, List.length_take, hm, hk, go_sem, seval] <;> rfl)) rfl; apply aops_mv (t := 0) (d := 19) (ag_n rfl) rfl rfl (by first | (simp only [look_lay, look, seval] <;> rfl) | fail) rfl; apply aops_mv (t := 3) (d := 20) (ag_n rfl) rfl rfl (by first | (simp only [look_lay, look, seval] <;> rfl) | fail) rfl; apply aops_x (d := 21) (ag_n rfl) rfl (by (simp (disch := first | decide | omega) only [if_pos, nws, Nat.sub_zero, List.length_take, hm, hk, go_sem, seval] <;> rfl)) rfl; apply aops_x (d := 22) (ag_n rfl) rfl (by (simp (disch := first | decide | omega) only [if_pos, nws, Nat.sub_zero, List.length_take, hm, hk, go_sem, seval] <;> rfl)) rfl; apply aops_as (t := 22) (d := 2) (ag_n rfl) rfl rfl (by first | (simp only [look_lay, look, seval] <;> rfl) | fail) rfl; apply aops_end; rfl) (by (simp (disch := omega) only [go_sem, seval, lay, nws]); rfl) ?_
    refine AWP.ret ?_
    refine ⟨.inr rfl, _, (by simp only [go_sem, seval] <;> rfl), ?_⟩
    simp only [go_sem, seval, Option.some.injEq, AV.c.injEq, AV.agg.injEq, CV.v.injEq, Value.int.injEq, Value.bool.injEq, Row.raw.injEq, List.cons.injEq, CV.sl.injEq, and_true, true_and, and_self]
    rw [← e2]; simp [hm]
theorem E39_ok : EntryOk Try.prog 39 E39 := pureN_ok (fun d hc => K39 d.1 hc) (fun _ => rfl) (fun _ => rfl)
attribute [go_sem] E39 c39 r39 L39
abbrev c32 (a : (List Int)) (b : (List Int)) : Prop := bytesOk a ∧ bytesOk b ∧ a.length ≤ 1000000 ∧ b.length ≤ 1000000 ∧ 0 < b.length
abbrev r32 (a : (List Int)) (b : (List Int)) : AV := .c (.sl 0 0 (mulP a b).length 1)
abbrev L32 (a : (List Int)) (b : (List Int)) : Hp := [some (.ty (.i .u8) (mulP a b))]
def E32 : Entry := pureN [(.sl (.i .u8)), (.sl (.i .u8))] (fun d => c32 d.1 d.2.1) (fun d => r32 d.1 d.2.1) (fun d => L32 d.1 d.2.1)
set_option maxRecDepth 100000 in
set_option maxHeartbeats 4000000 in
theorem K32 (a : (List Int)) (b : (List Int)) (hc : c32 a b) : CallOk Try.prog 32 [.c (.rs (.i .u8) a), .c (.rs (.i .u8) b)] [] (r32 a b) (L32 a b) := by
  have hc : bytesOk a ∧ bytesOk b ∧ a.length ≤ 1000000 ∧ b.length ≤ 1000000 ∧ 0 < b.length := hc
  obtain ⟨ha, hb, la, lb, lb0⟩ := hc
  have hs : (a.length : Int) + (b.length : Int) = ((a.length + b.length : Nat) : Int) := by omega
  have hs0 : 0 < a.length + b.length := by omega
  have gok := (Gam.cons_ok E26_ok (Gam.cons_ok E39_ok (Gam.nil_ok _)))
  refine callOk' Try.func32 49 [.tmp 4] _ rfl rfl rfl (by kernel_rfl) (by simp) [1] rfl rfl (by simp) ?_
  simp only [params]
  refine AWP.sR gok [0, 1] (by apply aops_x (d := 4) (ag_n rfl) rfl (by first | (simp (disch := decide) only [hs, hs0, go_sem, seval] <;> rfl) | (simp (disch := first | decide | omega) only [if_pos, nws, hs, hs0, go_sem, seval] <;> rfl)) rfl; apply aops_end; rfl) (by (simp (disch := omega) only [go_sem, seval, lay, nws]); rfl) ?_
  refine AWP.sR gok [0, 1, 5] (by apply aops_mv (t := 0) (d := 8) (ag_n rfl) rfl rfl (by first | (simp only [look_lay, look, seval] <;> rfl) | fail) rfl; apply aops_x (d := 9) (ag_n rfl) rfl (by first | (simp (disch := decide) only [hs, hs0, go_sem, seval] <;> rfl) | (simp (disch := first | decide | omega) only [if_pos, nws, hs, hs0, go_sem, seval] <;> rfl)) rfl; apply aops_mv (t := 1) (d := 10) (ag_n rfl) rfl rfl (by first | (simp only [look_lay, look, seval] <;> rfl) | fail) rfl; apply aops_x (d := 11) (ag_n rfl) rfl (by first | (simp (disch := decide) only [hs, hs0, go_sem, seval] <;> rfl) | (simp (disch := first | decide | omega) only [if_pos, nws, hs, hs0, go_sem, seval] <;> rfl)) rfl; apply aops_x (d := 12) (ag_n rfl) rfl (by first | (simp (disch := decide) only [hs, hs0, go_sem, seval] <;> rfl) | (simp (disch := first | decide | omega) only [if_pos, nws, hs, hs0, go_sem, seval] <;> rfl)) rfl; apply aops_x (d := 13) (ag_n rfl) rfl (by (simp (disch := first | decide | omega) only [if_pos, nws, hs, hs0, go_sem, seval] <;> rfl)) rfl; apply aops_as (t := 13) (d := 5) (ag_n rfl) rfl rfl (by first | (simp only [look_lay, look, seval] <;> rfl) | fail) rfl; apply aops_end; rfl) (by (simp (disch := omega) only [go_sem, seval, lay, nws]); rfl) ?_
  refine AWP.seq ?_
  refine AWP.sR gok [0, 1, 5, 15, 16] (by apply aops_mv (t := 0) (d := 14) (ag_n rfl) rfl rfl (by first | (simp only [look_lay, look, seval] <;> rfl) | fail) rfl; apply aops_x (d := 15) (ag_n rfl) rfl (by first | (simp (disch := decide) only [hs, hs0, go_sem, seval] <;> rfl) | (simp (disch := first | decide | omega) only [if_pos, nws, hs, hs0, go_sem, seval] <;> rfl)) rfl; apply aops_x (d := 16) (ag_n rfl) rfl (by first | (simp (disch := decide) only [hs, hs0, go_sem, seval] <;> rfl) | (simp (disch := first | decide | omega) only [if_pos, nws, hs, hs0, go_sem, seval] <;> rfl)) rfl; apply aops_end; rfl) (by (simp (disch := omega) only [go_sem, seval, lay, nws]); rfl) ?_
  refine AWP.block ?_
  refine AWP.loopP (fun (p : Nat) => ⟨49, [(0, .c (.rs (.i .u8) a)), (1, .c (.rs (.i .u8) b)), (5, .c (.sl 0 0 (a.length + b.length) 1)), (15, .c (ci .i64 (a.length : Int))), (16, .c (ci .i64 (p : Int)))], [some (.ty (.i .u8) (mulM a b p))]⟩) (fun p => p ≤ a.length) (fun p => a.length - p) 0 (Ghost.refl _ _) (Nat.zero_le _) ?_
  rintro i hi
  refine AWP.sR gok [0, 1, 5, 15, 16, 17] (by apply aops_x (d := 17) (ag_n rfl) rfl (by first | (simp (disch := decide) only [hs, hs0, go_sem, seval] <;> rfl) | (simp (disch := first | decide | omega) only [if_pos, nws, hs, hs0, go_sem, seval] <;> rfl)) rfl; apply aops_end; rfl) (by (simp (disch := omega) only [go_sem, seval, lay, nws]); rfl) ?_
  refine AWP.seq ?_
  refine AWP.cond (b := _) rfl (fun h => ?_) (fun h => ?_) <;> (try simp only [decide_eq_true_eq, decide_eq_false_iff_not] at h)
  · skip
    refine AWP.skip ?_
    change AWP _ _ _ _ _
    refine AWP.seqBlock ?_
    obtain ⟨x, hx⟩ : ∃ x, a[i]? = some x := ⟨_, List.getElem?_eq_getElem (by omega)⟩
    have hxo : byteOk x := ha x (List.mem_of_getElem? hx)
    have hil : i < a.length := by omega
    refine AWP.sR gok [0, 1, 5, 6, 15, 16] (by apply aops_mv (t := 16) (d := 18) (ag_n rfl) rfl rfl (by first | (simp only [look_lay, look, seval] <;> rfl) | fail) rfl; apply aops_as (t := 18) (d := 6) (ag_n rfl) rfl rfl (by first | (simp only [look_lay, look, seval] <;> rfl) | fail) rfl; apply aops_end; rfl) (by (simp (disch := omega) only [go_sem, seval, lay, nws]); rfl) ?_
    refine AWP.sR gok [0, 1, 5, 6, 15, 16, 20, 21] (by apply aops_mv (t := 1) (d := 19) (ag_n rfl) rfl rfl (by first | (simp only [look_lay, look, seval] <;> rfl) | fail) rfl; apply aops_x (d := 20) (ag_n rfl) rfl (by first | (simp (disch := decide) only [hs, hs0, go_sem, seval] <;> rfl) | (simp (disch := first | decide | omega) only [if_pos, nws, hs, hs0, go_sem, seval] <;> rfl)) rfl; apply aops_x (d := 21) (ag_n rfl) rfl (by first | (simp (disch := decide) only [hs, hs0, go_sem, seval] <;> rfl) | (simp (disch := first | decide | omega) only [if_pos, nws, hs, hs0, go_sem, seval] <;> rfl)) rfl; apply aops_end; rfl) (by (simp (disch := omega) only [go_sem, seval, lay, nws]); rfl) ?_
    refine AWP.block ?_
    refine AWP.loopP (fun (p : Nat) => ⟨49, [(0, .c (.rs (.i .u8) a)), (1, .c (.rs (.i .u8) b)), (5, .c (.sl 0 0 (a.length + b.length) 1)), (6, .c (ci .i64 (i : Int))), (15, .c (ci .i64 (a.length : Int))), (16, .c (ci .i64 (i : Int))), (20, .c (ci .i64 (b.length : Int))), (21, .c (ci .i64 (p : Int)))], [some (.ty (.i .u8) (mulStep x b i (mulM a b i) p))]⟩) (fun p => p ≤ b.length) (fun p => b.length - p) 0 (Ghost.refl _ _) (Nat.zero_le _) ?_
    rintro j hj
    refine AWP.sR gok [0, 1, 5, 6, 15, 16, 20, 21, 22] (by apply aops_x (d := 22) (ag_n rfl) rfl (by first | (simp (disch := decide) only [hs, hs0, go_sem, seval] <;> rfl) | (simp (disch := first | decide | omega) only [if_pos, nws, hs, hs0, go_sem, seval] <;> rfl)) rfl; apply aops_end; rfl) (by (simp (disch := omega) only [go_sem, seval, lay, nws]); rfl) ?_
    refine AWP.seq ?_
    refine AWP.cond (b := _) rfl (fun h => ?_) (fun h => ?_) <;> (try simp only [decide_eq_true_eq, decide_eq_false_iff_not] at h)
    · skip
      refine AWP.skip ?_
      change AWP _ _ _ _ _
      refine AWP.seqBlock ?_
      refine AWP.sR gok [0, 1, 5, 6, 7, 15, 16, 20, 21] (by apply aops_mv (t := 21) (d := 23) (ag_n rfl) rfl rfl (by first | (simp only [look_lay, look, seval] <;> rfl) | fail) rfl; apply aops_as (t := 23) (d := 7) (ag_n rfl) rfl rfl (by first | (simp only [look_lay, look, seval] <;> rfl) | fail) rfl; apply aops_end; rfl) (by (simp (disch := omega) only [go_sem, seval, lay, nws]); rfl) ?_
      obtain ⟨y, hy⟩ : ∃ y, b[j]? = some y := ⟨_, List.getElem?_eq_getElem (by omega)⟩
      have hyo : byteOk y := hb y (List.mem_of_getElem? hy)
      have hjl : j < b.length := by omega
      have hsl : (mulStep x b i (mulM a b i) j).length = a.length + b.length := by rw [mulStep_len, mulM_len]
      obtain ⟨v, hv⟩ : ∃ v, (mulStep x b i (mulM a b i) j)[i + j]? = some v := ⟨_, List.getElem?_eq_getElem (by omega)⟩
      have eij : (i : Int) + (j : Int) = ((i + j : Nat) : Int) := by omega
      have hijl : i + j < a.length + b.length := by omega
      refine AWP.dT gok (by kernel_rfl) [0, 1, 5, 6, 15, 16, 20, 21] [⟨[], true, 0⟩, ⟨[], true, 0⟩, ⟨[], true, 0⟩, ⟨[], true, 0⟩, ⟨[], true, 0⟩, ⟨[], true, 0⟩, ⟨[], true, 0⟩, ⟨[], true, 0⟩, ⟨[], true, 0⟩, ⟨[0], true, 0⟩, ⟨[], true, 0⟩, ⟨[], true, 0⟩, ⟨[], true, 0⟩, ⟨[], true, 0⟩, ⟨[], true, 0⟩, ⟨[], true, 0⟩, ⟨[], true, 0⟩, ⟨[], true, 0⟩, ⟨[], true, 0⟩, ⟨[], true, 0⟩, ⟨[], true, 0⟩, ⟨[0], false, 0⟩] (by kernel_rfl) (by first | rfl | simp only [go_sem, ↓reduceIte, Nat.reduceLT, Nat.reduceAdd]) (by first | rfl | simp only [go_sem, ↓reduceIte, Nat.reduceLT, Nat.reduceAdd]) (by (repeat (first | apply arun_step (by first | exact ag_n rfl | exact ag_b rfl rfl rfl (by first | (simp only [look_lay, look, seval] <;> rfl) | fail) (by first | rfl | (simp only [hs, hs0, eij, hx, hy, hv, hsl, hxo, hyo, hijl, decide_true, decide_false] <;> rfl) | fail) | fail) (by first | (simp (disch := decide) only [hs, hs0, eij, hx, hy, hv, hsl, hxo, hyo, hijl, go_sem, seval]; rfl) | (simp (disch := first | decide | omega) only [if_pos, nws, hs, hs0, eij, hx, hy, hv, hsl, hxo, hyo, hijl, go_sem, seval]; rfl)) (by first | (intro h; cases h; done) | (intro _; rfl) | (intro _; simp only [go_sem, seval, lay])) (by first | rfl | simp only [go_sem, seval, lay]) (by first | rfl | simp only [go_sem, seval, lay]) (by first | rfl | simp only [go_sem, seval, lay]) (by simp only [go_sem, seval, lay]; rfl) | apply arun_pass (by first | exact ag_f rfl rfl rfl (by first | (simp only [look_lay, look, seval] <;> rfl) | fail) (by first | rfl | (simp only [hs, hs0, eij, hx, hy, hv, hsl, hxo, hyo, hijl, decide_true, decide_false] <;> rfl) | fail) | exact ag_u rfl rfl rfl (by first | (simp only [look_lay, look, seval] <;> rfl) | fail) | fail) rfl (by simp only [go_sem, seval, lay]; rfl))); exact rfl) (by (simp (disch := omega) only [go_sem, seval, lay, nws]); rfl) ?_
      change AWP _ _ _ _ _
      refine AWP.rT gok [0, 1, 5, 6, 15, 16, 20, 21] (by apply aops_x (d := 45) (ag_n rfl) rfl (by first | (simp (disch := decide) only [hs, hs0, go_sem, seval] <;> rfl) | (simp (disch := first | decide | omega) only [if_pos, nws, hs, hs0, go_sem, seval] <;> rfl)) rfl; apply aops_mv (t := 45) (d := 21) (ag_n rfl) rfl rfl (by first | (simp only [look_lay, look, seval] <;> rfl) | fail) rfl; apply aops_end; rfl) (by (simp (disch := omega) only [go_sem, seval, lay, nws]); rfl) ?_
      exact ⟨j + 1, Ghost.of_eq (by simp only [mulStep, hv, hy, Option.getD_some, Int.natCast_add, Int.cast_ofNat_Int] <;> rfl), by omega, by omega⟩
    · skip
      refine AWP.exit ?_
      change AWP _ _ _ _ _
      refine AWP.rT gok [0, 1, 5, 15, 16] (by apply aops_x (d := 46) (ag_n rfl) rfl (by first | (simp (disch := decide) only [hs, hs0, go_sem, seval] <;> rfl) | (simp (disch := first | decide | omega) only [if_pos, nws, hs, hs0, go_sem, seval] <;> rfl)) rfl; apply aops_mv (t := 46) (d := 16) (ag_n rfl) rfl rfl (by first | (simp only [look_lay, look, seval] <;> rfl) | fail) rfl; apply aops_end; rfl) (by (simp (disch := omega) only [go_sem, seval, lay, nws]); rfl) ?_
      have ej : j = b.length := by omega
      subst ej
      exact ⟨i + 1, Ghost.of_eq (by simp only [mulM, hx, Option.getD_some, Int.natCast_add, Int.cast_ofNat_Int] <;> rfl), by omega, by omega⟩
  · skip
    refine AWP.exit ?_
    change AWP _ _ _ _ _
    have hsl := mulM_len a b i
    refine AWP.sR gok [4] (by apply aops_mv (t := 5) (d := 47) (ag_n rfl) rfl rfl (by first | (simp only [look_lay, look, seval] <;> rfl) | fail) rfl; apply aops_x (d := 48) (ag_n rfl) rfl (by (simp (disch := first | decide | omega) only [if_pos, nws, hs, hs0, hsl, go_sem, seval] <;> rfl)) rfl; apply aops_as (t := 48) (d := 4) (ag_n rfl) rfl rfl (by first | (simp only [look_lay, look, seval] <;> rfl) | fail) rfl; apply aops_end; rfl) (by (simp (disch := omega) only [go_sem, seval, lay, nws]); rfl) ?_
    refine AWP.ret ?_
    refine ⟨.inr rfl, _, (by simp only [go_sem, seval, hs, hs0] <;> rfl), ?_⟩
    simp only [go_sem, seval, hs, hs0, Option.some.injEq, AV.c.injEq, AV.agg.injEq, CV.v.injEq, Value.int.injEq, Value.bool.injEq, Row.raw.injEq, List.cons.injEq, CV.sl.injEq, and_true, true_and, and_self]
    have ei : i = a.length := by omega
    subst ei; exact ⟨rfl, rfl⟩
theorem E32_ok : EntryOk Try.prog 32 E32 := pureN_ok (fun d hc => K32 d.1 d.2.1 hc) (fun _ => rfl) (fun _ => rfl)
attribute [go_sem] E32 c32 r32 L32
abbrev c33 (a : (List Int)) (b : (List Int)) : Prop := a.length ≤ 1000000 ∧ b.length ≤ 1000000
abbrev r33 (a : (List Int)) (b : (List Int)) : AV := .c (.sl 0 0 (addR a b).length 1)
abbrev L33 (a : (List Int)) (b : (List Int)) : Hp := [some (.ty (.i .u8) (addR a b))]
def E33 : Entry := pureN [(.sl (.i .u8)), (.sl (.i .u8))] (fun d => c33 d.1 d.2.1) (fun d => r33 d.1 d.2.1) (fun d => L33 d.1 d.2.1)
set_option maxRecDepth 100000 in
set_option maxHeartbeats 4000000 in
theorem K33 (a : (List Int)) (b : (List Int)) (hc : c33 a b) : CallOk Try.prog 33 [.c (.rs (.i .u8) a), .c (.rs (.i .u8) b)] [] (r33 a b) (L33 a b) := by
  have hc : a.length ≤ 1000000 ∧ b.length ≤ 1000000 := hc
  obtain ⟨la, lb⟩ := hc
  obtain ⟨m, hm⟩ : ∃ m, max a.length b.length = m := ⟨_, rfl⟩
  have hmI : (if (b.length : Int) > (a.length : Int) then (b.length : Int) else (a.length : Int)) = (m : Int) := by split <;> omega
  have ham : a.length ≤ m := by omega
  have hbm : b.length ≤ m := by omega
  have hm1 : m ≤ 1000000 := by omega
  have zl : (List.replicate m (0 : Int)).length = m := List.length_replicate
  have gok := (Gam.cons_ok E39_ok (Gam.nil_ok _))
  refine callOk' Try.func33 52 [.tmp 4] _ rfl rfl rfl (by kernel_rfl) (by simp) [1] rfl rfl (by simp) ?_
  simp only [params]
  refine AWP.sR gok [0, 1] (by apply aops_x (d := 4) (ag_n rfl) rfl (by first | (simp (disch := decide) only [go_sem, seval] <;> rfl) | (simp (disch := first | decide | omega) only [if_pos, nws, go_sem, seval] <;> rfl)) rfl; apply aops_end; rfl) (by (simp (disch := omega) only [go_sem, seval, lay, nws]); rfl) ?_
  refine AWP.sR gok [0, 1, 5] (by apply aops_mv (t := 0) (d := 8) (ag_n rfl) rfl rfl (by first | (simp only [look_lay, look, seval] <;> rfl) | fail) rfl; apply aops_x (d := 9) (ag_n rfl) rfl (by first | (simp (disch := decide) only [hmI, go_sem, seval] <;> rfl) | (simp (disch := first | decide | omega) only [if_pos, nws, hmI, go_sem, seval] <;> rfl)) rfl; apply aops_mv (t := 1) (d := 10) (ag_n rfl) rfl rfl (by first | (simp only [look_lay, look, seval] <;> rfl) | fail) rfl; apply aops_x (d := 11) (ag_n rfl) rfl (by first | (simp (disch := decide) only [hmI, go_sem, seval] <;> rfl) | (simp (disch := first | decide | omega) only [if_pos, nws, hmI, go_sem, seval] <;> rfl)) rfl; apply aops_x (d := 12) (ag_n rfl) rfl (by (simp (disch := first | decide | omega) only [if_pos, nws, hmI, go_sem, seval] <;> rfl)) rfl; apply aops_x (d := 13) (ag_n rfl) rfl (by (simp (disch := first | decide | omega) only [if_pos, nws, hmI, go_sem, seval] <;> rfl)) rfl; apply aops_as (t := 13) (d := 5) (ag_n rfl) rfl rfl (by first | (simp only [look_lay, look, seval] <;> rfl) | fail) rfl; apply aops_end; rfl) (by (simp (disch := omega) only [go_sem, seval, lay, nws]); rfl) ?_
  refine AWP.seq ?_
  refine AWP.sR gok [0, 1, 5, 15, 16] (by apply aops_mv (t := 0) (d := 14) (ag_n rfl) rfl rfl (by first | (simp only [look_lay, look, seval] <;> rfl) | fail) rfl; apply aops_x (d := 15) (ag_n rfl) rfl (by first | (simp (disch := decide) only [go_sem, seval] <;> rfl) | (simp (disch := first | decide | omega) only [if_pos, nws, go_sem, seval] <;> rfl)) rfl; apply aops_x (d := 16) (ag_n rfl) rfl (by first | (simp (disch := decide) only [go_sem, seval] <;> rfl) | (simp (disch := first | decide | omega) only [if_pos, nws, go_sem, seval] <;> rfl)) rfl; apply aops_end; rfl) (by (simp (disch := omega) only [go_sem, seval, lay, nws]); rfl) ?_
  refine AWP.block ?_
  refine AWP.loopP (fun (p : Nat) => ⟨52, [(0, .c (.rs (.i .u8) a)), (1, .c (.rs (.i .u8) b)), (5, .c (.sl 0 0 m 1)), (15, .c (ci .i64 (a.length : Int))), (16, .c (ci .i64 (p : Int)))], [some (.ty (.i .u8) (sealN (List.replicate m 0) a p))]⟩) (fun p => p ≤ a.length) (fun p => a.length - p) 0 (Ghost.refl _ _) (Nat.zero_le _) ?_
  rintro i hi
  refine AWP.sR gok [0, 1, 5, 15, 16, 17] (by apply aops_x (d := 17) (ag_n rfl) rfl (by first | (simp (disch := decide) only [go_sem, seval] <;> rfl) | (simp (disch := first | decide | omega) only [if_pos, nws, go_sem, seval] <;> rfl)) rfl; apply aops_end; rfl) (by (simp (disch := omega) only [go_sem, seval, lay, nws]); rfl) ?_
  refine AWP.seq ?_
  refine AWP.cond (b := _) rfl (fun h => ?_) (fun h => ?_) <;> (try simp only [decide_eq_true_eq, decide_eq_false_iff_not] at h)
  · skip
    refine AWP.skip ?_
    change AWP _ _ _ _ _
    refine AWP.seqBlock ?_
    refine AWP.sR gok [0, 1, 5, 6, 15, 16] (by apply aops_mv (t := 16) (d := 18) (ag_n rfl) rfl rfl (by first | (simp only [look_lay, look, seval] <;> rfl) | fail) rfl; apply aops_as (t := 18) (d := 6) (ag_n rfl) rfl rfl (by first | (simp only [look_lay, look, seval] <;> rfl) | fail) rfl; apply aops_end; rfl) (by (simp (disch := omega) only [go_sem, seval, lay, nws]); rfl) ?_
    obtain ⟨y, hy⟩ : ∃ y, a[i]? = some y := ⟨_, List.getElem?_eq_getElem (by omega)⟩
    have hsl : (sealN (List.replicate m 0) a i).length = m := by rw [sealN_len, zl]
    obtain ⟨x, hx⟩ : ∃ x, (sealN (List.replicate m 0) a i)[i]? = some x := ⟨_, List.getElem?_eq_getElem (by omega)⟩
    have him : i < m := by omega
    have hia : i < a.length := by omega
    refine AWP.dT gok (by kernel_rfl) [0, 1, 5, 15, 16] [⟨[], true, 0⟩, ⟨[], true, 0⟩, ⟨[], true, 0⟩, ⟨[], true, 0⟩, ⟨[], true, 0⟩, ⟨[0], true, 0⟩, ⟨[], true, 0⟩, ⟨[], true, 0⟩, ⟨[], true, 0⟩, ⟨[], true, 0⟩, ⟨[], true, 0⟩, ⟨[], true, 0⟩, ⟨[0], false, 0⟩] (by kernel_rfl) (by first | rfl | simp only [go_sem, ↓reduceIte, Nat.reduceLT, Nat.reduceAdd]) (by first | rfl | simp only [go_sem, ↓reduceIte, Nat.reduceLT, Nat.reduceAdd]) (by (repeat (first | apply arun_step (by first | exact ag_n rfl | exact ag_b rfl rfl rfl (by first | (simp only [look_lay, look, seval] <;> rfl) | fail) (by first | rfl | (simp only [hx, hy, hsl, him, decide_true, decide_false] <;> rfl) | fail) | fail) (by first | (simp (disch := decide) only [hx, hy, hsl, him, go_sem, seval]; rfl) | (simp (disch := first | decide | omega) only [if_pos, nws, hx, hy, hsl, him, go_sem, seval]; rfl)) (by first | (intro h; cases h; done) | (intro _; rfl) | (intro _; simp only [go_sem, seval, lay])) (by first | rfl | simp only [go_sem, seval, lay]) (by first | rfl | simp only [go_sem, seval, lay]) (by first | rfl | simp only [go_sem, seval, lay]) (by simp only [go_sem, seval, lay]; rfl) | apply arun_pass (by first | exact ag_f rfl rfl rfl (by first | (simp only [look_lay, look, seval] <;> rfl) | fail) (by first | rfl | (simp only [hx, hy, hsl, him, decide_true, decide_false] <;> rfl) | fail) | exact ag_u rfl rfl rfl (by first | (simp only [look_lay, look, seval] <;> rfl) | fail) | fail) rfl (by simp only [go_sem, seval, lay]; rfl))); exact rfl) (by (simp (disch := omega) only [go_sem, seval, lay, nws]); rfl) ?_
    change AWP _ _ _ _ _
    refine AWP.rT gok [0, 1, 5, 15, 16] (by apply aops_x (d := 31) (ag_n rfl) rfl (by first | (simp (disch := decide) only [go_sem, seval] <;> rfl) | (simp (disch := first | decide | omega) only [if_pos, nws, go_sem, seval] <;> rfl)) rfl; apply aops_mv (t := 31) (d := 16) (ag_n rfl) rfl rfl (by first | (simp only [look_lay, look, seval] <;> rfl) | fail) rfl; apply aops_end; rfl) (by (simp (disch := omega) only [go_sem, seval, lay, nws]); rfl) ?_
    exact ⟨i + 1, Ghost.of_eq (by simp only [sealN, hx, hy, Option.getD_some, Int.natCast_add, Int.cast_ofNat_Int] <;> rfl), by omega, by omega⟩
  · skip
    refine AWP.exit ?_
    change AWP _ _ _ _ _
    refine AWP.seq ?_
    have ei : i = a.length := by omega
    subst ei
    obtain ⟨Z, hZ⟩ : ∃ Z, sealN (List.replicate m 0) a a.length = Z := ⟨_, rfl⟩
    have Zl : Z.length = m := by rw [← hZ, sealN_len, zl]
    rw [hZ]
    refine AWP.sR gok [1, 5, 33, 34] (by apply aops_mv (t := 1) (d := 32) (ag_n rfl) rfl rfl (by first | (simp only [look_lay, look, seval] <;> rfl) | fail) rfl; apply aops_x (d := 33) (ag_n rfl) rfl (by first | (simp (disch := decide) only [go_sem, seval] <;> rfl) | (simp (disch := first | decide | omega) only [if_pos, nws, go_sem, seval] <;> rfl)) rfl; apply aops_x (d := 34) (ag_n rfl) rfl (by first | (simp (disch := decide) only [go_sem, seval] <;> rfl) | (simp (disch := first | decide | omega) only [if_pos, nws, go_sem, seval] <;> rfl)) rfl; apply aops_end; rfl) (by (simp (disch := omega) only [go_sem, seval, lay, nws]); rfl) ?_
    refine AWP.block ?_
    refine AWP.loopP (fun (p : Nat) => ⟨52, [(1, .c (.rs (.i .u8) b)), (5, .c (.sl 0 0 m 1)), (33, .c (ci .i64 (b.length : Int))), (34, .c (ci .i64 (p : Int)))], [some (.ty (.i .u8) (sealN Z b p))]⟩) (fun p => p ≤ b.length) (fun p => b.length - p) 0 (Ghost.trans (Ghost.trim _ [1, 5, 33, 34] _) (Ghost.of_eq (by (simp (disch := omega) only [go_sem, seval, lay, nws]) <;> rfl))) (Nat.zero_le _) ?_
    rintro j hj
    refine AWP.sR gok [1, 5, 33, 34, 35] (by apply aops_x (d := 35) (ag_n rfl) rfl (by first | (simp (disch := decide) only [go_sem, seval] <;> rfl) | (simp (disch := first | decide | omega) only [if_pos, nws, go_sem, seval] <;> rfl)) rfl; apply aops_end; rfl) (by (simp (disch := omega) only [go_sem, seval, lay, nws]); rfl) ?_
    refine AWP.seq ?_
    refine AWP.cond (b := _) rfl (fun h => ?_) (fun h => ?_) <;> (try simp only [decide_eq_true_eq, decide_eq_false_iff_not] at h)
    · skip
      refine AWP.skip ?_
      change AWP _ _ _ _ _
      refine AWP.seqBlock ?_
      refine AWP.sR gok [1, 5, 7, 33, 34] (by apply aops_mv (t := 34) (d := 36) (ag_n rfl) rfl rfl (by first | (simp only [look_lay, look, seval] <;> rfl) | fail) rfl; apply aops_as (t := 36) (d := 7) (ag_n rfl) rfl rfl (by first | (simp only [look_lay, look, seval] <;> rfl) | fail) rfl; apply aops_end; rfl) (by (simp (disch := omega) only [go_sem, seval, lay, nws]); rfl) ?_
      obtain ⟨y, hy⟩ : ∃ y, b[j]? = some y := ⟨_, List.getElem?_eq_getElem (by omega)⟩
      have hsl : (sealN Z b j).length = m := by rw [sealN_len, Zl]
      obtain ⟨x, hx⟩ : ∃ x, (sealN Z b j)[j]? = some x := ⟨_, List.getElem?_eq_getElem (by omega)⟩
      have hjm : j < m := by omega
      have hjb : j < b.length := by omega
      refine AWP.dT gok (by kernel_rfl) [1, 5, 33, 34] [⟨[], true, 0⟩, ⟨[], true, 0⟩, ⟨[], true, 0⟩, ⟨[], true, 0⟩, ⟨[], true, 0⟩, ⟨[0], true, 0⟩, ⟨[], true, 0⟩, ⟨[], true, 0⟩, ⟨[], true, 0⟩, ⟨[], true, 0⟩, ⟨[], true, 0⟩, ⟨[], true, 0⟩, ⟨[0], false, 0⟩] (by kernel_rfl) (by first | rfl | simp only [go_sem, ↓reduceIte, Nat.reduceLT, Nat.reduceAdd]) (by first | rfl | simp only [go_sem, ↓reduceIte, Nat.reduceLT, Nat.reduceAdd]) (by (repeat (first | apply arun_step (by first | exact ag_n rfl | exact ag_b rfl rfl rfl (by first | (simp only [look_lay, look, seval] <;> rfl) | fail) (by first | rfl | (simp only [hx, hy, hsl, hjm, decide_true, decide_false] <;> rfl) | fail) | fail) (by first | (simp (disch := decide) only [hx, hy, hsl, hjm, go_sem, seval]; rfl) | (simp (disch := first | decide | omega) only [if_pos, nws, hx, hy, hsl, hjm, go_sem, seval]; rfl)) (by first | (intro h; cases h; done) | (intro _; rfl) | (intro _; simp only [go_sem, seval, lay])) (by first | rfl | simp only [go_sem, seval, lay]) (by first | rfl | simp only [go_sem, seval, lay]) (by first | rfl | simp only [go_sem, seval, lay]) (by simp only [go_sem, seval, lay]; rfl) | apply arun_pass (by first | exact ag_f rfl rfl rfl (by first | (simp only [look_lay, look, seval] <;> rfl) | fail) (by first | rfl | (simp only [hx, hy, hsl, hjm, decide_true, decide_false] <;> rfl) | fail) | exact ag_u rfl rfl rfl (by first | (simp only [look_lay, look, seval] <;> rfl) | fail) | fail) rfl (by simp only [go_sem, seval, lay]; rfl))); exact rfl) (by (simp (disch := omega) only [go_sem, seval, lay, nws]); rfl) ?_
      change AWP _ _ _ _ _
      refine AWP.rT gok [1, 5, 33, 34] (by apply aops_x (d := 49) (ag_n rfl) rfl (by first | (simp (disch := decide) only [go_sem, seval] <;> rfl) | (simp (disch := first | decide | omega) only [if_pos, nws, go_sem, seval] <;> rfl)) rfl; apply aops_mv (t := 49) (d := 34) (ag_n rfl) rfl rfl (by first | (simp only [look_lay, look, seval] <;> rfl) | fail) rfl; apply aops_end; rfl) (by (simp (disch := omega) only [go_sem, seval, lay, nws]); rfl) ?_
      exact ⟨j + 1, Ghost.of_eq (by simp only [sealN, hx, hy, Option.getD_some, Int.natCast_add, Int.cast_ofNat_Int] <;> rfl), by omega, by omega⟩
    · skip
      refine AWP.exit ?_
      change AWP _ _ _ _ _
      have hsl : (sealN Z b j).length = m := by rw [sealN_len, Zl]
      have hm4 : m ≤ 4000000000 := by omega
      refine AWP.sR gok [4] (by apply aops_mv (t := 5) (d := 50) (ag_n rfl) rfl rfl (by first | (simp only [look_lay, look, seval] <;> rfl) | fail) rfl; apply aops_x (d := 51) (ag_n rfl) rfl (by (simp (disch := first | decide | omega) only [if_pos, nws, hsl, hm4, go_sem, seval] <;> rfl)) rfl; apply aops_as (t := 51) (d := 4) (ag_n rfl) rfl rfl (by first | (simp only [look_lay, look, seval] <;> rfl) | fail) rfl; apply aops_end; rfl) (by (simp (disch := omega) only [go_sem, seval, lay, nws]); rfl) ?_
      refine AWP.ret ?_
      refine ⟨.inr rfl, _, (by simp only [go_sem, seval] <;> rfl), ?_⟩
      simp only [go_sem, seval, Option.some.injEq, AV.c.injEq, AV.agg.injEq, CV.v.injEq, Value.int.injEq, Value.bool.injEq, Row.raw.injEq, List.cons.injEq, CV.sl.injEq, and_true, true_and, and_self]
      have ej : j = b.length := by omega
      subst ej
      have e : addR a b = trimF (sealN Z b b.length) := by unfold addR; rw [hm, hZ]
      rw [e]; exact ⟨rfl, rfl⟩
theorem E33_ok : EntryOk Try.prog 33 E33 := pureN_ok (fun d hc => K33 d.1 d.2.1 hc) (fun _ => rfl) (fun _ => rfl)
attribute [go_sem] E33 c33 r33 L33
abbrev c24 (l : (List (Int × Int))) : Prop := ptsOk l ∧ l.length ≤ 100000
abbrev r24 (l : (List (Int × Int))) : AV := .c (cb (twiceF l))
abbrev L24 (l : (List (Int × Int))) : Hp := []
def E24 : Entry := pureN [(.sl (.pr (.i .u8) (.i .u8)))] (fun d => c24 d.1) (fun d => r24 d.1) (fun d => L24 d.1)
set_option maxRecDepth 100000 in
set_option maxHeartbeats 4000000 in
theorem K24 (l : (List (Int × Int))) (hc : c24 l) : CallOk Try.prog 24 [.c (.rs (.pr (.i .u8) (.i .u8)) l)] [] (r24 l) (L24 l) := by
  have hc : ptsOk l ∧ l.length ≤ 100000 := hc
  obtain ⟨hp, hl⟩ := hc
  refine callOk' Try.func24 27 [.tmp 2] _ rfl rfl rfl (by kernel_rfl) (by simp) [] rfl rfl (by simp) ?_
  simp only [params]
  refine AWP.sR (Gam.nil_ok _) [0] (by apply aops_x (d := 2) (ag_n rfl) rfl (by first | (simp (disch := decide) only [go_sem, seval] <;> rfl) | (simp (disch := first | decide | omega) only [if_pos, nws, go_sem, seval] <;> rfl)) rfl; apply aops_end; rfl) (by (simp (disch := omega) only [go_sem, seval, lay, nws]); rfl) ?_
  refine AWP.seq ?_
  refine AWP.sR (Gam.nil_ok _) [0, 6, 7] (by apply aops_mv (t := 0) (d := 5) (ag_n rfl) rfl rfl (by first | (simp only [look_lay, look, seval] <;> rfl) | fail) rfl; apply aops_x (d := 6) (ag_n rfl) rfl (by first | (simp (disch := decide) only [go_sem, seval] <;> rfl) | (simp (disch := first | decide | omega) only [if_pos, nws, go_sem, seval] <;> rfl)) rfl; apply aops_x (d := 7) (ag_n rfl) rfl (by first | (simp (disch := decide) only [go_sem, seval] <;> rfl) | (simp (disch := first | decide | omega) only [if_pos, nws, go_sem, seval] <;> rfl)) rfl; apply aops_end; rfl) (by (simp (disch := omega) only [go_sem, seval, lay, nws]); rfl) ?_
  refine AWP.block ?_
  refine AWP.loopP (fun (p : Nat) => ⟨27, [(0, .c (.rs (.pr (.i .u8) (.i .u8)) l)), (6, .c (ci .i64 (l.length : Int))), (7, .c (ci .i64 (p : Int)))], []⟩) (fun p => p ≤ l.length ∧ ∀ i j, i < p → j < i → ptX l j ≠ ptX l i) (fun p => l.length - p) 0 (Ghost.refl _ _) ⟨Nat.zero_le _, fun i j hi => (Nat.not_lt_zero _ hi).elim⟩ ?_
  rintro i ⟨hi, hd⟩
  refine AWP.sR (Gam.nil_ok _) [0, 6, 7, 8] (by apply aops_x (d := 8) (ag_n rfl) rfl (by first | (simp (disch := decide) only [go_sem, seval] <;> rfl) | (simp (disch := first | decide | omega) only [if_pos, nws, go_sem, seval] <;> rfl)) rfl; apply aops_end; rfl) (by (simp (disch := omega) only [go_sem, seval, lay, nws]); rfl) ?_
  refine AWP.seq ?_
  refine AWP.cond (b := _) rfl (fun h => ?_) (fun h => ?_) <;> (try simp only [decide_eq_true_eq, decide_eq_false_iff_not] at h)
  · skip
    refine AWP.skip ?_
    change AWP _ _ _ _ _
    refine AWP.seqBlock ?_
    have hil : i < l.length := by omega
    obtain ⟨⟨x, y⟩, hx⟩ : ∃ x, l[i]? = some x := ⟨_, List.getElem?_eq_getElem hil⟩
    have ex : ptX l i = x := by unfold ptX; rw [hx]; rfl
    refine AWP.sR (Gam.nil_ok _) [0, 3, 6, 7] (by apply aops_mv (t := 7) (d := 9) (ag_n rfl) rfl rfl (by first | (simp only [look_lay, look, seval] <;> rfl) | fail) rfl; apply aops_as (t := 9) (d := 3) (ag_n rfl) rfl rfl (by first | (simp only [look_lay, look, seval] <;> rfl) | fail) rfl; apply aops_end; rfl) (by (simp (disch := omega) only [go_sem, seval, lay, nws]); rfl) ?_
    refine AWP.sR (Gam.nil_ok _) [0, 3, 4, 6, 7] (by apply aops_x (d := 4) (ag_n rfl) rfl (by first | (simp (disch := decide) only [go_sem, seval] <;> rfl) | (simp (disch := first | decide | omega) only [if_pos, nws, go_sem, seval] <;> rfl)) rfl; apply aops_end; rfl) (by (simp (disch := omega) only [go_sem, seval, lay, nws]); rfl) ?_
    refine AWP.block ?_
    refine AWP.loopP (fun (p : Nat) => ⟨27, [(0, .c (.rs (.pr (.i .u8) (.i .u8)) l)), (3, .c (ci .i64 (i : Int))), (4, .c (ci .i64 (p : Int))), (6, .c (ci .i64 (l.length : Int))), (7, .c (ci .i64 (i : Int)))], []⟩) (fun p => p ≤ i ∧ ∀ j, j < p → ptX l j ≠ ptX l i) (fun p => i - p) 0 (Ghost.refl _ _) ⟨Nat.zero_le _, fun j hj => (Nat.not_lt_zero _ hj).elim⟩ ?_
    rintro k ⟨hk, hd2⟩
    refine AWP.seq ?_
    refine AWP.sR (Gam.nil_ok _) [0, 3, 4, 6, 7, 12] (by apply aops_mv (t := 4) (d := 10) (ag_n rfl) rfl rfl (by first | (simp only [look_lay, look, seval] <;> rfl) | fail) rfl; apply aops_mv (t := 3) (d := 11) (ag_n rfl) rfl rfl (by first | (simp only [look_lay, look, seval] <;> rfl) | fail) rfl; apply aops_x (d := 12) (ag_n rfl) rfl (by first | (simp (disch := decide) only [go_sem, seval] <;> rfl) | (simp (disch := first | decide | omega) only [if_pos, nws, go_sem, seval] <;> rfl)) rfl; apply aops_end; rfl) (by (simp (disch := omega) only [go_sem, seval, lay, nws]); rfl) ?_
    refine AWP.cond (b := _) rfl (fun h => ?_) (fun h => ?_) <;> (try simp only [decide_eq_true_eq, decide_eq_false_iff_not] at h)
    · skip
      refine AWP.skip ?_
      change AWP _ _ _ _ _
      refine AWP.seqBlock ?_
      have hkl : k < l.length := by omega
      have hki : k < i := by omega
      obtain ⟨⟨z, w⟩, hz⟩ : ∃ x, l[k]? = some x := ⟨_, List.getElem?_eq_getElem hkl⟩
      have ez : ptX l k = z := by unfold ptX; rw [hz]; rfl
      refine AWP.sD (Gam.nil_ok _) (by kernel_rfl) [0, 3, 4, 6, 7, 25] [⟨[], true, 0⟩, ⟨[], true, 0⟩, ⟨[], true, 0⟩, ⟨[], true, 0⟩, ⟨[], true, 0⟩, ⟨[], true, 0⟩, ⟨[], true, 0⟩, ⟨[], true, 0⟩, ⟨[], true, 0⟩, ⟨[], true, 0⟩, ⟨[], true, 0⟩] (by kernel_rfl) (by first | rfl | simp only [go_sem, ↓reduceIte, Nat.reduceLT, Nat.reduceAdd]) (by first | rfl | simp only [go_sem, ↓reduceIte, Nat.reduceLT, Nat.reduceAdd]) (by (repeat (first | apply arun_step (by first | exact ag_n rfl | exact ag_b rfl rfl rfl (by first | (simp only [look_lay, look, seval] <;> rfl) | fail) (by first | rfl | (simp only [hx, hz, hkl, hil, decide_true, decide_false] <;> rfl) | fail) | fail) (by first | (simp (disch := decide) only [hx, hz, hkl, hil, go_sem, seval]; rfl) | (simp (disch := first | decide | omega) only [if_pos, nws, hx, hz, hkl, hil, go_sem, seval]; rfl)) (by first | (intro h; cases h; done) | (intro _; rfl) | (intro _; simp only [go_sem, seval, lay])) (by first | rfl | simp only [go_sem, seval, lay]) (by first | rfl | simp only [go_sem, seval, lay]) (by first | rfl | simp only [go_sem, seval, lay]) (by simp only [go_sem, seval, lay]; rfl) | apply arun_pass (by first | exact ag_f rfl rfl rfl (by first | (simp only [look_lay, look, seval] <;> rfl) | fail) (by first | rfl | (simp only [hx, hz, hkl, hil, decide_true, decide_false] <;> rfl) | fail) | exact ag_u rfl rfl rfl (by first | (simp only [look_lay, look, seval] <;> rfl) | fail) | fail) rfl (by simp only [go_sem, seval, lay]; rfl))); exact rfl) (by (simp (disch := omega) only [go_sem, seval, lay, nws]); rfl) ?_
      refine AWP.cond (b := _) rfl (fun h => ?_) (fun h => ?_) <;> (try simp only [decide_eq_true_eq, decide_eq_false_iff_not] at h)
      · skip
        refine AWP.sR (Gam.nil_ok _) [2] (by apply aops_x (d := 2) (ag_n rfl) rfl (by first | (simp (disch := decide) only [go_sem, seval] <;> rfl) | (simp (disch := first | decide | omega) only [if_pos, nws, go_sem, seval] <;> rfl)) rfl; apply aops_end; rfl) (by (simp (disch := omega) only [go_sem, seval, lay, nws]); rfl) ?_
        refine AWP.ret ?_
        refine ⟨.inr rfl, _, (by simp only [go_sem, seval] <;> rfl), ?_⟩
        simp only [go_sem, seval, Option.some.injEq, AV.c.injEq, AV.agg.injEq, CV.v.injEq, Value.int.injEq, Value.bool.injEq, Row.raw.injEq, List.cons.injEq, CV.sl.injEq, and_true, true_and, and_self]
        have e : twiceF l = true := by
          cases ht : twiceF l
          · exact (twice_false hp ht i k hil hki (by rw [ex, ez, h])).elim
          · rfl
        rw [e]
      · skip
        refine AWP.skip ?_
        change AWP _ _ _ _ _
        refine AWP.rT (Gam.nil_ok _) [0, 3, 4, 6, 7] (by apply aops_mv (t := 4) (d := 13) (ag_n rfl) rfl rfl (by first | (simp only [look_lay, look, seval] <;> rfl) | fail) rfl; apply aops_x (d := 14) (ag_n rfl) rfl (by first | (simp (disch := decide) only [go_sem, seval] <;> rfl) | (simp (disch := first | decide | omega) only [if_pos, nws, go_sem, seval] <;> rfl)) rfl; apply aops_as (t := 14) (d := 4) (ag_n rfl) rfl rfl (by first | (simp only [look_lay, look, seval] <;> rfl) | fail) rfl; apply aops_end; rfl) (by (simp (disch := omega) only [go_sem, seval, lay, nws]); rfl) ?_
        exact ⟨k + 1, Ghost.of_eq (by simp only [Int.natCast_add, Int.cast_ofNat_Int]), ⟨by omega, fun j hj => by
          rcases Nat.lt_or_ge j k with h1 | h1
          · exact hd2 j h1
          · rw [show j = k by omega, ex, ez]; exact fun e => h e.symm⟩, by omega⟩
    · skip
      refine AWP.exit ?_
      change AWP _ _ _ _ _
      refine AWP.rT (Gam.nil_ok _) [0, 6, 7] (by apply aops_x (d := 26) (ag_n rfl) rfl (by first | (simp (disch := decide) only [go_sem, seval] <;> rfl) | (simp (disch := first | decide | omega) only [if_pos, nws, go_sem, seval] <;> rfl)) rfl; apply aops_mv (t := 26) (d := 7) (ag_n rfl) rfl rfl (by first | (simp only [look_lay, look, seval] <;> rfl) | fail) rfl; apply aops_end; rfl) (by (simp (disch := omega) only [go_sem, seval, lay, nws]); rfl) ?_
      exact ⟨i + 1, Ghost.of_eq (by simp only [Int.natCast_add, Int.cast_ofNat_Int]), ⟨by omega, fun a b ha hb => by
        rcases Nat.lt_or_ge a i with h1 | h1
        · exact hd a b h1 hb
        · rw [show a = i by omega]; exact hd2 b (by omega)⟩, by omega⟩
  · skip
    refine AWP.exit ?_
    change AWP _ _ _ _ _
    refine AWP.sR (Gam.nil_ok _) [2] (by apply aops_x (d := 2) (ag_n rfl) rfl (by first | (simp (disch := decide) only [go_sem, seval] <;> rfl) | (simp (disch := first | decide | omega) only [if_pos, nws, go_sem, seval] <;> rfl)) rfl; apply aops_end; rfl) (by (simp (disch := omega) only [go_sem, seval, lay, nws]); rfl) ?_
    refine AWP.ret ?_
    refine ⟨.inr rfl, _, (by simp only [go_sem, seval] <;> rfl), ?_⟩
    simp only [go_sem, seval, Option.some.injEq, AV.c.injEq, AV.agg.injEq, CV.v.injEq, Value.int.injEq, Value.bool.injEq, Row.raw.injEq, List.cons.injEq, CV.sl.injEq, and_true, true_and, and_self]
    have ei : i = l.length := by omega
    subst ei
    have e : twiceF l = false := by
      refine twF_go _ _ hp (List.pairwise_iff_getElem.2 fun a b ha hb hab => ?_) fun p hp => by rw [List.getElem?_replicate]; split <;> rfl
      rw [List.length_map] at ha hb
      have := hd b a hb hab
      unfold ptX at this
      rw [List.getElem?_eq_getElem ha, List.getElem?_eq_getElem hb] at this
      simpa using this
    rw [e]
theorem E24_ok : EntryOk Try.prog 24 E24 := pureN_ok (fun d hc => K24 d.1 hc) (fun _ => rfl) (fun _ => rfl)
attribute [go_sem] E24 c24 r24 L24
end Go.Proofs.Ytggomleegbnhbaa
