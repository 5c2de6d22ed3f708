import Derived.Test.YtbdnhoddkdiogaaMkA
import Derived.Test.YtbdnhoddkdiogaaRoA
set_option linter.unusedSimpArgs false
set_option linter.unusedVariables false
namespace Go.Proofs.Ytbdnhoddkdiogaa
open Go.RowKit
abbrev c54 (xs : (List Int)) : Prop := bytesOk xs ∧ xs.length ≤ 1000000
abbrev r54 (xs : (List Int)) : AV := .agg (.ty (.i .u8) (leafF xs))
abbrev L54 (xs : (List Int)) : Hp := []
def E54 : Entry := pureN [(.sl (.i .u8))] (fun d => c54 d.1) (fun d => r54 d.1) (fun d => L54 d.1)
set_option maxRecDepth 100000 in
set_option maxHeartbeats 4000000 in
theorem K54 (xs : (List Int)) (hc : c54 xs) : CallOk Try.prog 54 [.c (.rs (.i .u8) xs)] [] (r54 xs) (L54 xs) := by
  have hc : bytesOk xs ∧ xs.length ≤ 1000000 := hc
  have hb : bytesOk (0 :: xs) := bytesOk_cons.2 ⟨by omega, hc.1⟩
  have gok := (Gam.cons_ok E17_ok (Gam.nil_ok _))
  refine callOk' Try.func54 7 [.cell 2 25] _ rfl rfl rfl (by kernel_rfl) (by simp) [] rfl rfl (by simp) ?_
  simp only [params]
  refine AWP.sR gok [0, 2] (by apply aops_x (d := 2) (ag_n rfl) rfl (by first | (simp (disch := decide) only [hb, dg_len, go_sem, seval] <;> rfl) | (simp (disch := first | decide | omega) only [if_pos, nws, hb, dg_len, go_sem, seval] <;> rfl)) rfl; apply aops_end; rfl) (by (simp (disch := omega) only [go_sem, seval, lay, nws]); rfl) ?_
  refine AWP.sR gok [2] (by apply aops_x (d := 3) (ag_n rfl) rfl (by (simp (disch := first | decide | omega) only [if_pos, nws, hb, dg_len, go_sem, seval] <;> rfl)) rfl; apply aops_mv (t := 0) (d := 4) (ag_n rfl) rfl rfl (by first | (simp only [look_lay, look, seval] <;> rfl) | fail) rfl; apply aops_x (d := 5) (ag_n rfl) rfl (by (simp (disch := first | decide | omega) only [if_pos, nws, hb, dg_len, go_sem, seval] <;> rfl)) rfl; apply aops_x (d := 6) (ag_n rfl) rfl (by (simp (disch := first | decide | omega) only [if_pos, nws, hb, dg_len, go_sem, seval] <;> rfl)) rfl; apply aops_s (ag_n rfl) rfl (by first | (simp (disch := decide) only [hb, dg_len, go_sem, seval] <;> rfl) | (simp (disch := first | decide | omega) only [if_pos, nws, hb, dg_len, go_sem, seval] <;> rfl)); apply aops_end; rfl) (by (simp (disch := omega) only [go_sem, seval, lay, nws]); rfl) ?_
  refine AWP.ret ?_
  refine ⟨.inr rfl, _, (by simp only [go_sem, seval, hb, dg_len] <;> rfl), ?_⟩
  simp only [go_sem, seval, hb, dg_len, Option.some.injEq, AV.c.injEq, AV.agg.injEq, CV.v.injEq, Value.int.injEq, Value.bool.injEq, Row.raw.injEq, List.cons.injEq, CV.sl.injEq, and_true, true_and, and_self]
  rfl
theorem E54_ok : EntryOk Try.prog 54 E54 := pureN_ok (fun d hc => K54 d.1 hc) (fun _ => rfl) (fun _ => rfl)
attribute [go_sem] E54 c54 r54 L54
abbrev c56 (a : (List Int)) (b : (List Int)) : Prop := digestOk a ∧ digestOk b
abbrev r56 (a : (List Int)) (b : (List Int)) : AV := .agg (.ty (.i .u8) (bothF a b))
abbrev L56 (a : (List Int)) (b : (List Int)) : Hp := []
def E56 : Entry := pureN [(.ar 32 (.i .u8)), (.ar 32 (.i .u8))] (fun d => c56 d.1 d.2.1) (fun d => r56 d.1 d.2.1) (fun d => L56 d.1 d.2.1)
set_option maxRecDepth 100000 in
set_option maxHeartbeats 4000000 in
theorem K56 (a : (List Int)) (b : (List Int)) (hc : c56 a b) : CallOk Try.prog 56 [.agg (.ty (.i .u8) a), .agg (.ty (.i .u8) b)] [] (r56 a b) (L56 a b) := by
  have hc : digestOk a ∧ digestOk b := hc
  obtain ⟨⟨a1, a2⟩, b1, b2⟩ := hc
  have hb : bytesOk (1 :: (a ++ b)) := bytesOk_cons.2 ⟨by omega, bytesOk_append.2 ⟨a1, b1⟩⟩
  have hl : (a ++ b).length = 64 := by simp [a2, b2]
  have gok := (Gam.cons_ok E17_ok (Gam.nil_ok _))
  refine callOk' Try.func56 13 [.cell 4 25] _ rfl rfl rfl (by kernel_rfl) (by simp) [] rfl rfl (by simp) ?_
  simp only [params]
  refine AWP.sR gok [2, 3, 4] (by apply aops_x (d := 2) (ag_n rfl) rfl (by first | (simp (disch := decide) only [hb, hl, a2, b2, dg_len, go_sem, seval] <;> rfl) | (simp (disch := first | decide | omega) only [if_pos, nws, hb, hl, a2, b2, dg_len, go_sem, seval] <;> rfl)) rfl; apply aops_x (d := 3) (ag_n rfl) rfl (by first | (simp (disch := decide) only [hb, hl, a2, b2, dg_len, go_sem, seval] <;> rfl) | (simp (disch := first | decide | omega) only [if_pos, nws, hb, hl, a2, b2, dg_len, go_sem, seval] <;> rfl)) rfl; apply aops_x (d := 4) (ag_n rfl) rfl (by first | (simp (disch := decide) only [hb, hl, a2, b2, dg_len, go_sem, seval] <;> rfl) | (simp (disch := first | decide | omega) only [if_pos, nws, hb, hl, a2, b2, dg_len, go_sem, seval] <;> rfl)) rfl; apply aops_end; rfl) (by (simp (disch := omega) only [go_sem, seval, lay, nws]); rfl) ?_
  refine AWP.sR gok [3, 4, 5] (by apply aops_x (d := 6) (ag_n rfl) rfl (by (simp (disch := first | decide | omega) only [if_pos, nws, hb, hl, a2, b2, dg_len, go_sem, seval] <;> rfl)) rfl; apply aops_x (d := 7) (ag_n rfl) rfl (by (simp (disch := first | decide | omega) only [if_pos, nws, hb, hl, a2, b2, dg_len, go_sem, seval] <;> rfl)) rfl; apply aops_x (d := 8) (ag_n rfl) rfl (by (simp (disch := first | decide | omega) only [if_pos, nws, hb, hl, a2, b2, dg_len, go_sem, seval] <;> rfl)) rfl; apply aops_as (t := 8) (d := 5) (ag_n rfl) rfl rfl (by first | (simp only [look_lay, look, seval] <;> rfl) | fail) rfl; apply aops_end; rfl) (by (simp (disch := omega) only [go_sem, seval, lay, nws]); rfl) ?_
  refine AWP.sR gok [4] (by apply aops_mv (t := 5) (d := 9) (ag_n rfl) rfl rfl (by first | (simp only [look_lay, look, seval] <;> rfl) | fail) rfl; apply aops_x (d := 10) (ag_n rfl) rfl (by (simp (disch := first | decide | omega) only [if_pos, nws, hb, hl, a2, b2, dg_len, go_sem, seval] <;> rfl)) rfl; apply aops_x (d := 11) (ag_n rfl) rfl (by (simp (disch := first | decide | omega) only [if_pos, nws, hb, hl, a2, b2, dg_len, go_sem, seval] <;> rfl)) rfl; apply aops_x (d := 12) (ag_n rfl) rfl (by (simp (disch := first | decide | omega) only [if_pos, nws, hb, hl, a2, b2, dg_len, go_sem, seval] <;> rfl)) rfl; apply aops_s (ag_n rfl) rfl (by first | (simp (disch := decide) only [hb, hl, a2, b2, dg_len, go_sem, seval] <;> rfl) | (simp (disch := first | decide | omega) only [if_pos, nws, hb, hl, a2, b2, dg_len, go_sem, seval] <;> rfl)); apply aops_end; rfl) (by (simp (disch := omega) only [go_sem, seval, lay, nws]); rfl) ?_
  refine AWP.ret ?_
  refine ⟨.inr rfl, _, (by simp only [go_sem, seval, hb, hl, a2, b2, dg_len] <;> rfl), ?_⟩
  simp only [go_sem, seval, hb, hl, a2, b2, dg_len, Option.some.injEq, AV.c.injEq, AV.agg.injEq, CV.v.injEq, Value.int.injEq, Value.bool.injEq, Row.raw.injEq, List.cons.injEq, CV.sl.injEq, and_true, true_and, and_self]
  rfl
theorem E56_ok : EntryOk Try.prog 56 E56 := pureN_ok (fun d hc => K56 d.1 d.2.1 hc) (fun _ => rfl) (fun _ => rfl)
attribute [go_sem] E56 c56 r56 L56
theorem split_uniq (n k j : Nat) (h : 2 ≤ n) (hk : k = 2 ^ j) (h1 : k < n) (h2 : n ≤ 2 * k) : k = splitN n := by
  have sp := splitN_spec n h
  unfold splitN at *
  subst hk
  generalize lenN (n - 1) - 1 = i at *
  have : j = i := by
    rcases Nat.lt_trichotomy j i with h3 | h3 | h3
    · have : 2 ^ (j + 1) ≤ 2 ^ i := Nat.pow_le_pow_right (by omega) h3
      rw [Nat.pow_succ] at this; omega
    · exact h3
    · have : 2 ^ (i + 1) ≤ 2 ^ j := Nat.pow_le_pow_right (by omega) h3
      rw [Nat.pow_succ] at this; omega
  rw [this]
abbrev c55 (n : Int) : Prop := 2 ≤ n ∧ n ≤ 4294967296
abbrev r55 (n : Int) : AV := .c (ci .i64 (splitN n.toNat : Int))
abbrev L55 (n : Int) : Hp := []
def E55 : Entry := pureN [(.i .i64)] (fun d => c55 d.1) (fun d => r55 d.1) (fun d => L55 d.1)
set_option maxRecDepth 100000 in
set_option maxHeartbeats 4000000 in
theorem K55 (n : Int) (hc : c55 n) : CallOk Try.prog 55 [.c (ci .i64 n)] [] (r55 n) (L55 n) := by
  have hc : 2 ≤ n ∧ n ≤ 4294967296 := hc
  obtain ⟨m, rfl⟩ := Int.eq_ofNat_of_zero_le (show 0 ≤ n by omega)
  refine callOk' Try.func55 11 [.tmp 2] _ rfl rfl rfl (by kernel_rfl) (by simp) [] rfl rfl (by simp) ?_
  simp only [params]
  refine AWP.sR (Gam.nil_ok _) [0] (by apply aops_x (d := 2) (ag_n rfl) rfl (by first | (simp (disch := decide) only [go_sem, seval] <;> rfl) | (simp (disch := first | decide | omega) only [if_pos, nws, go_sem, seval] <;> rfl)) rfl; apply aops_end; rfl) (by (simp (disch := omega) only [go_sem, seval, lay, nws]); rfl) ?_
  refine AWP.sR (Gam.nil_ok _) [0, 3] (by apply aops_x (d := 3) (ag_n rfl) rfl (by first | (simp (disch := decide) only [go_sem, seval] <;> rfl) | (simp (disch := first | decide | omega) only [if_pos, nws, go_sem, seval] <;> rfl)) rfl; apply aops_end; rfl) (by (simp (disch := omega) only [go_sem, seval, lay, nws]); rfl) ?_
  refine AWP.seqBlock ?_
  refine AWP.loopP (fun (p : Nat × Nat) => ⟨11, [(0, .c (ci .i64 (m : Int))), (3, .c (ci .i64 (p.1 : Int)))], []⟩) (fun p => p.1 = 2 ^ p.2 ∧ p.1 < m) (fun p => m - p.1) ⟨1, 0⟩ (Ghost.refl _ _) ⟨rfl, by simp only; omega⟩ ?_
  rintro ⟨k, j⟩ ⟨hk, hm⟩
  simp only at hk hm ⊢
  have k1 : 1 ≤ k := by rw [hk]; exact Nat.pow_pos (by omega)
  refine AWP.seq ?_
  refine AWP.sR (Gam.nil_ok _) [0, 3, 7] (by apply aops_mv (t := 3) (d := 4) (ag_n rfl) rfl rfl (by first | (simp only [look_lay, look, seval] <;> rfl) | fail) rfl; apply aops_x (d := 5) (ag_n rfl) rfl (by first | (simp (disch := decide) only [go_sem, seval] <;> rfl) | (simp (disch := first | decide | omega) only [if_pos, nws, go_sem, seval] <;> rfl)) rfl; apply aops_mv (t := 0) (d := 6) (ag_n rfl) rfl rfl (by first | (simp only [look_lay, look, seval] <;> rfl) | fail) rfl; apply aops_x (d := 7) (ag_n rfl) rfl (by first | (simp (disch := decide) only [go_sem, seval] <;> rfl) | (simp (disch := first | decide | omega) only [if_pos, nws, go_sem, seval] <;> rfl)) rfl; apply aops_end; rfl) (by (simp (disch := omega) only [go_sem, seval, lay, nws]); rfl) ?_
  refine AWP.cond (b := _) rfl (fun h => ?_) (fun h => ?_) <;> (try simp only [decide_eq_true_eq, decide_eq_false_iff_not] at h)
  · skip
    refine AWP.skip ?_
    change AWP _ _ _ _ _
    refine AWP.block ?_
    refine AWP.rT (Gam.nil_ok _) [0, 3] (by apply aops_mv (t := 3) (d := 8) (ag_n rfl) rfl rfl (by first | (simp only [look_lay, look, seval] <;> rfl) | fail) rfl; apply aops_x (d := 9) (ag_n rfl) rfl (by first | (simp (disch := decide) only [go_sem, seval] <;> rfl) | (simp (disch := first | decide | omega) only [if_pos, nws, go_sem, seval] <;> rfl)) rfl; apply aops_as (t := 9) (d := 3) (ag_n rfl) rfl rfl (by first | (simp only [look_lay, look, seval] <;> rfl) | fail) rfl; apply aops_end; rfl) (by (simp (disch := omega) only [go_sem, seval, lay, nws]); rfl) ?_
    refine ⟨(2 * k, j + 1), Ghost.of_eq (by simp), ⟨by simp only; rw [hk, Nat.pow_succ]; omega, by simp only; omega⟩, by simp only; omega⟩
  · skip
    refine AWP.exit ?_
    change AWP _ _ _ _ _
    refine AWP.sR (Gam.nil_ok _) [2] (by apply aops_mv (t := 3) (d := 10) (ag_n rfl) rfl rfl (by first | (simp only [look_lay, look, seval] <;> rfl) | fail) rfl; apply aops_as (t := 10) (d := 2) (ag_n rfl) rfl rfl (by first | (simp only [look_lay, look, seval] <;> rfl) | fail) rfl; apply aops_end; rfl) (by (simp (disch := omega) only [go_sem, seval, lay, nws]); rfl) ?_
    refine AWP.ret ?_
    refine ⟨.inr rfl, _, (by simp only [go_sem, seval] <;> rfl), ?_⟩
    simp only [go_sem, seval, Option.some.injEq, AV.c.injEq, AV.agg.injEq, CV.v.injEq, Value.int.injEq, Value.bool.injEq, Row.raw.injEq, List.cons.injEq, CV.sl.injEq, and_true, true_and, and_self]
    rw [Int.toNat_natCast, ← split_uniq m k j (by omega) hk hm (by omega)]
theorem E55_ok : EntryOk Try.prog 55 E55 := pureN_ok (fun d hc => K55 d.1 hc) (fun _ => rfl) (fun _ => rfl)
attribute [go_sem] E55 c55 r55 L55
abbrev c30 (l : (List (List Int))) : Prop := textsOk l ∧ l.length ≤ 1000000
abbrev r30 (l : (List (List Int))) : AV := .agg (.ty (.i .u8) (rootF l))
abbrev L30 (l : (List (List Int))) : Hp := []
def E30 : Entry := pureN [(.sl (.sl (.i .u8)))] (fun d => c30 d.1) (fun d => r30 d.1) (fun d => L30 d.1)
def En30 (N : Nat) : Entry := pureN [(.sl (.sl (.i .u8)))] (fun d => d.1.length < N ∧ c30 d.1) (fun d => r30 d.1) (fun d => L30 d.1)
attribute [go_sem] En30 c30 r30 L30
set_option maxRecDepth 100000 in
set_option maxHeartbeats 4000000 in
theorem K30 (N : Nat) (ih : EntryOk Try.prog 30 (En30 N)) (l : (List (List Int))) (hm : l.length < N + 1) (hc : c30 l) : CallOk Try.prog 30 [.c (.rs (.sl (.i .u8)) l)] [] (r30 l) (L30 l) := by
  have hc : textsOk l ∧ l.length ≤ 1000000 := hc
  have n0 : bytesOk [] := bytesOk_nil
  have gok := (Gam.cons_ok ih (Gam.cons_ok E17_ok (Gam.cons_ok E54_ok (Gam.cons_ok E55_ok (Gam.cons_ok E56_ok (Gam.nil_ok _))))))
  refine callOk' Try.func30 27 [.cell 2 25] _ rfl rfl rfl (by kernel_rfl) (by simp) [] rfl rfl (by simp) ?_
  simp only [params]
  refine AWP.sR gok [0, 2] (by apply aops_x (d := 2) (ag_n rfl) rfl (by first | (simp (disch := decide) only [leafF_len, bothF_len, dg_len, rootF_len, go_sem, seval] <;> rfl) | (simp (disch := first | decide | omega) only [if_pos, nws, leafF_len, bothF_len, dg_len, rootF_len, go_sem, seval] <;> rfl)) rfl; apply aops_end; rfl) (by (simp (disch := omega) only [go_sem, seval, lay, nws]); rfl) ?_
  refine AWP.seq ?_
  refine AWP.sR gok [0, 2, 6] (by apply aops_mv (t := 0) (d := 4) (ag_n rfl) rfl rfl (by first | (simp only [look_lay, look, seval] <;> rfl) | fail) rfl; apply aops_x (d := 5) (ag_n rfl) rfl (by first | (simp (disch := decide) only [leafF_len, bothF_len, dg_len, rootF_len, go_sem, seval] <;> rfl) | (simp (disch := first | decide | omega) only [if_pos, nws, leafF_len, bothF_len, dg_len, rootF_len, go_sem, seval] <;> rfl)) rfl; apply aops_x (d := 6) (ag_n rfl) rfl (by first | (simp (disch := decide) only [leafF_len, bothF_len, dg_len, rootF_len, go_sem, seval] <;> rfl) | (simp (disch := first | decide | omega) only [if_pos, nws, leafF_len, bothF_len, dg_len, rootF_len, go_sem, seval] <;> rfl)) rfl; apply aops_end; rfl) (by (simp (disch := omega) only [go_sem, seval, lay, nws]); rfl) ?_
  refine AWP.cond (b := _) rfl (fun h => ?_) (fun h => ?_) <;> (try simp only [decide_eq_true_eq, decide_eq_false_iff_not] at h)
  · skip
    refine AWP.sR gok [2] (by apply aops_x (d := 7) (ag_n rfl) rfl (by (simp (disch := first | decide | omega) only [if_pos, nws, leafF_len, bothF_len, dg_len, rootF_len, n0, go_sem, seval] <;> rfl)) rfl; apply aops_s (ag_n rfl) rfl (by first | (simp (disch := decide) only [leafF_len, bothF_len, dg_len, rootF_len, n0, go_sem, seval] <;> rfl) | (simp (disch := first | decide | omega) only [if_pos, nws, leafF_len, bothF_len, dg_len, rootF_len, n0, go_sem, seval] <;> rfl)); apply aops_end; rfl) (by (simp (disch := omega) only [go_sem, seval, lay, nws]); rfl) ?_
    refine AWP.ret ?_
    refine ⟨.inr rfl, _, (by simp only [go_sem, seval, leafF_len, bothF_len, dg_len, rootF_len] <;> rfl), ?_⟩
    simp only [go_sem, seval, leafF_len, bothF_len, dg_len, rootF_len, Option.some.injEq, AV.c.injEq, AV.agg.injEq, CV.v.injEq, Value.int.injEq, Value.bool.injEq, Row.raw.injEq, List.cons.injEq, CV.sl.injEq, and_true, true_and, and_self]
    rw [rootF_0 l (by omega)]
  · skip
    refine AWP.skip ?_
    change AWP _ _ _ _ _
    refine AWP.seq ?_
    refine AWP.sR gok [0, 2, 10] (by apply aops_mv (t := 0) (d := 8) (ag_n rfl) rfl rfl (by first | (simp only [look_lay, look, seval] <;> rfl) | fail) rfl; apply aops_x (d := 9) (ag_n rfl) rfl (by first | (simp (disch := decide) only [leafF_len, bothF_len, dg_len, rootF_len, go_sem, seval] <;> rfl) | (simp (disch := first | decide | omega) only [if_pos, nws, leafF_len, bothF_len, dg_len, rootF_len, go_sem, seval] <;> rfl)) rfl; apply aops_x (d := 10) (ag_n rfl) rfl (by first | (simp (disch := decide) only [leafF_len, bothF_len, dg_len, rootF_len, go_sem, seval] <;> rfl) | (simp (disch := first | decide | omega) only [if_pos, nws, leafF_len, bothF_len, dg_len, rootF_len, go_sem, seval] <;> rfl)) rfl; apply aops_end; rfl) (by (simp (disch := omega) only [go_sem, seval, lay, nws]); rfl) ?_
    refine AWP.cond (b := _) rfl (fun h => ?_) (fun h => ?_) <;> (try simp only [decide_eq_true_eq, decide_eq_false_iff_not] at h)
    · skip
      obtain ⟨x, hx⟩ : ∃ x, l[0]? = some x := ⟨_, List.getElem?_eq_getElem (by omega)⟩
      have ht := hc.1 x (List.mem_of_getElem? hx)
      have ht1 := ht.1
      refine AWP.sR gok [2] (by apply aops_mv (t := 0) (d := 11) (ag_n rfl) rfl rfl (by first | (simp only [look_lay, look, seval] <;> rfl) | fail) rfl; apply aops_x (d := 12) (ag_n rfl) rfl (by (simp (disch := first | decide | omega) only [if_pos, nws, leafF_len, bothF_len, dg_len, rootF_len, hx, ht1, go_sem, seval] <;> rfl)) rfl; apply aops_x (d := 13) (ag_n rfl) rfl (by first | (simp (disch := decide) only [leafF_len, bothF_len, dg_len, rootF_len, hx, ht1, go_sem, seval] <;> rfl) | (simp (disch := first | decide | omega) only [if_pos, nws, leafF_len, bothF_len, dg_len, rootF_len, hx, ht1, go_sem, seval] <;> rfl)) rfl; apply aops_x (d := 14) (ag_n rfl) rfl (by (simp (disch := first | decide | omega) only [if_pos, nws, leafF_len, bothF_len, dg_len, rootF_len, hx, ht1, go_sem, seval] <;> rfl)) rfl; apply aops_s (ag_n rfl) rfl (by first | (simp (disch := decide) only [leafF_len, bothF_len, dg_len, rootF_len, hx, ht1, go_sem, seval] <;> rfl) | (simp (disch := first | decide | omega) only [if_pos, nws, leafF_len, bothF_len, dg_len, rootF_len, hx, ht1, go_sem, seval] <;> rfl)); apply aops_end; rfl) (by (simp (disch := omega) only [go_sem, seval, lay, nws]); rfl) ?_
      refine AWP.ret ?_
      refine ⟨.inr rfl, _, (by simp only [go_sem, seval, leafF_len, bothF_len, dg_len, rootF_len] <;> rfl), ?_⟩
      simp only [go_sem, seval, leafF_len, bothF_len, dg_len, rootF_len, Option.some.injEq, AV.c.injEq, AV.agg.injEq, CV.v.injEq, Value.int.injEq, Value.bool.injEq, Row.raw.injEq, List.cons.injEq, CV.sl.injEq, and_true, true_and, and_self]
      rw [rootF_1 l (by omega), headD_get l x hx]
    · skip
      refine AWP.skip ?_
      change AWP _ _ _ _ _
      have h2 : 2 ≤ l.length := by omega
      have sp := splitN_spec l.length h2
      refine AWP.sR gok [0, 2, 3] (by apply aops_mv (t := 0) (d := 15) (ag_n rfl) rfl rfl (by first | (simp only [look_lay, look, seval] <;> rfl) | fail) rfl; apply aops_x (d := 16) (ag_n rfl) rfl (by first | (simp (disch := decide) only [leafF_len, bothF_len, dg_len, rootF_len, Int.toNat_natCast, go_sem, seval] <;> rfl) | (simp (disch := first | decide | omega) only [if_pos, nws, leafF_len, bothF_len, dg_len, rootF_len, Int.toNat_natCast, go_sem, seval] <;> rfl)) rfl; apply aops_x (d := 17) (ag_n rfl) rfl (by (simp (disch := first | decide | omega) only [if_pos, nws, leafF_len, bothF_len, dg_len, rootF_len, Int.toNat_natCast, go_sem, seval] <;> rfl)) rfl; apply aops_as (t := 17) (d := 3) (ag_n rfl) rfl rfl (by first | (simp only [look_lay, look, seval] <;> rfl) | fail) rfl; apply aops_end; rfl) (by (simp (disch := omega) only [go_sem, seval, lay, nws]); rfl) ?_
      have t1 := textsOk_take hc.1 (splitN l.length)
      have t2 := textsOk_drop hc.1 (splitN l.length)
      have l1 : (l.take (splitN l.length)).length = splitN l.length := by rw [List.length_take]; omega
      have l2 : (l.drop (splitN l.length)).length = l.length - splitN l.length := by rw [List.length_drop]
      have e2 : (l.drop (splitN l.length)).take (l.length - splitN l.length) = l.drop (splitN l.length) := List.take_of_length_le (by rw [l2]; exact Nat.le_refl _)
      have o1 : digestOk (rootF (l.take (splitN l.length))) := ⟨rootF_ok _, rootF_len _⟩
      have o2 : digestOk (rootF (l.drop (splitN l.length))) := ⟨rootF_ok _, rootF_len _⟩
      refine AWP.sD gok (by kernel_rfl) [2] [⟨[], true, 0⟩, ⟨[], true, 0⟩, ⟨[], true, 0⟩, ⟨[], true, 0⟩, ⟨[], true, 0⟩, ⟨[], true, 0⟩, ⟨[], true, 0⟩, ⟨[], true, 0⟩, ⟨[], true, 0⟩, ⟨[0], false, 0⟩] (by kernel_rfl) (by first | rfl | simp only [go_sem, ↓reduceIte, Nat.reduceLT, Nat.reduceAdd]) (by first | rfl | simp only [go_sem, ↓reduceIte, Nat.reduceLT, Nat.reduceAdd]) (by (repeat (first | apply arun_step (by first | exact ag_n rfl | exact ag_b rfl rfl rfl (by first | (simp only [look_lay, look, seval] <;> rfl) | fail) (by first | rfl | (simp only [leafF_len, bothF_len, dg_len, rootF_len, t1, t2, l1, l2, e2, o1, o2, Nat.sub_zero, rootF_len, decide_true, decide_false] <;> rfl) | fail) | fail) (by first | (simp (disch := decide) only [leafF_len, bothF_len, dg_len, rootF_len, t1, t2, l1, l2, e2, o1, o2, Nat.sub_zero, rootF_len, go_sem, seval]; rfl) | (simp (disch := first | decide | omega) only [if_pos, nws, leafF_len, bothF_len, dg_len, rootF_len, t1, t2, l1, l2, e2, o1, o2, Nat.sub_zero, rootF_len, go_sem, seval]; rfl)) (by first | (intro h; cases h; done) | (intro _; rfl) | (intro _; simp only [go_sem, seval, lay])) (by first | rfl | simp only [go_sem, seval, lay]) (by first | rfl | simp only [go_sem, seval, lay]) (by first | rfl | simp only [go_sem, seval, lay]) (by simp only [go_sem, seval, lay]; rfl) | apply arun_pass (by first | exact ag_f rfl rfl rfl (by first | (simp only [look_lay, look, seval] <;> rfl) | fail) (by first | rfl | (simp only [leafF_len, bothF_len, dg_len, rootF_len, t1, t2, l1, l2, e2, o1, o2, Nat.sub_zero, rootF_len, decide_true, decide_false] <;> rfl) | fail) | exact ag_u rfl rfl rfl (by first | (simp only [look_lay, look, seval] <;> rfl) | fail) | fail) rfl (by simp only [go_sem, seval, lay]; rfl))); exact rfl) (by (simp (disch := omega) only [go_sem, seval, lay, nws]); rfl) ?_
      refine AWP.ret ?_
      refine ⟨.inr rfl, _, (by simp only [go_sem, seval, leafF_len, bothF_len, dg_len, rootF_len] <;> rfl), ?_⟩
      simp only [go_sem, seval, leafF_len, bothF_len, dg_len, rootF_len, Option.some.injEq, AV.c.injEq, AV.agg.injEq, CV.v.injEq, Value.int.injEq, Value.bool.injEq, Row.raw.injEq, List.cons.injEq, CV.sl.injEq, and_true, true_and, and_self]
      rw [rootF_2 l h2]
theorem En30_ok : ∀ N, EntryOk Try.prog 30 (En30 N)
  | 0 => pureN_ok (fun d hc => absurd hc.1 (Nat.not_lt_zero _)) (fun _ => rfl) (fun _ => rfl)
  | N + 1 => pureN_ok (fun d hc => K30 N (En30_ok N) d.1 hc.1 hc.2) (fun _ => rfl) (fun _ => rfl)
theorem E30_ok : EntryOk Try.prog 30 E30 := pureN_ok (fun d hc => K30 _ (En30_ok _) d.1 (Nat.lt_succ_self _) hc) (fun _ => rfl) (fun _ => rfl)
attribute [go_sem] E30
abbrev c32 (l : (List (List Int))) (a : Int) : Prop := (textsOk l ∧ l.length ≤ 1000000) ∧ 0 ≤ a ∧ a < l.length
abbrev r32 (l : (List (List Int))) (a : Int) : AV := .c (.sl 0 0 (besideF l a.toNat).length 32)
abbrev L32 (l : (List (List Int))) (a : Int) : Hp := [some (.ty dgT (besideF l a.toNat))]
def E32 : Entry := pureN [(.sl (.sl (.i .u8))), (.i .i64)] (fun d => c32 d.1 d.2.1) (fun d => r32 d.1 d.2.1) (fun d => L32 d.1 d.2.1)
def En32 (N : Nat) : Entry := pureN [(.sl (.sl (.i .u8))), (.i .i64)] (fun d => d.1.length < N ∧ c32 d.1 d.2.1) (fun d => r32 d.1 d.2.1) (fun d => L32 d.1 d.2.1)
attribute [go_sem] En32 c32 r32 L32
set_option maxRecDepth 100000 in
set_option maxHeartbeats 4000000 in
theorem K32 (N : Nat) (ih : EntryOk Try.prog 32 (En32 N)) (l : (List (List Int))) (a : Int) (hm : l.length < N + 1) (hc : c32 l a) : CallOk Try.prog 32 [.c (.rs (.sl (.i .u8)) l), .c (ci .i64 a)] [] (r32 l a) (L32 l a) := by
  have hc : (textsOk l ∧ l.length ≤ 1000000) ∧ 0 ≤ a ∧ a < l.length := hc
  have blen : ∀ k b, (besideF k b).length ≤ k.length := besideF_le
  have gok := (Gam.cons_ok ih (Gam.cons_ok E30_ok (Gam.cons_ok E55_ok (Gam.nil_ok _))))
  refine callOk' Try.func32 39 [.tmp 4] _ rfl rfl rfl (by kernel_rfl) (by simp) [0] rfl rfl (by simp) ?_
  simp only [params]
  refine AWP.sR gok [0, 1] (by apply aops_x (d := 4) (ag_n rfl) rfl (by first | (simp (disch := decide) only [rootF_len, go_sem, seval] <;> rfl) | (simp (disch := first | decide | omega) only [if_pos, nws, rootF_len, go_sem, seval] <;> rfl)) rfl; apply aops_end; rfl) (by (simp (disch := omega) only [go_sem, seval, lay, nws]); rfl) ?_
  refine AWP.seq ?_
  refine AWP.sR gok [0, 1, 8] (by apply aops_mv (t := 0) (d := 6) (ag_n rfl) rfl rfl (by first | (simp only [look_lay, look, seval] <;> rfl) | fail) rfl; apply aops_x (d := 7) (ag_n rfl) rfl (by first | (simp (disch := decide) only [rootF_len, go_sem, seval] <;> rfl) | (simp (disch := first | decide | omega) only [if_pos, nws, rootF_len, go_sem, seval] <;> rfl)) rfl; apply aops_x (d := 8) (ag_n rfl) rfl (by first | (simp (disch := decide) only [rootF_len, go_sem, seval] <;> rfl) | (simp (disch := first | decide | omega) only [if_pos, nws, rootF_len, go_sem, seval] <;> rfl)) rfl; apply aops_end; rfl) (by (simp (disch := omega) only [go_sem, seval, lay, nws]); rfl) ?_
  refine AWP.cond (b := _) rfl (fun h => ?_) (fun h => ?_) <;> (try simp only [decide_eq_true_eq, decide_eq_false_iff_not] at h)
  · skip
    refine AWP.sR gok [4] (by apply aops_x (d := 4) (ag_n rfl) rfl (by first | (simp (disch := decide) only [rootF_len, go_sem, seval] <;> rfl) | (simp (disch := first | decide | omega) only [if_pos, nws, rootF_len, go_sem, seval] <;> rfl)) rfl; apply aops_end; rfl) (by (simp (disch := omega) only [go_sem, seval, lay, nws]); rfl) ?_
    refine AWP.ghost (Ghost.nil 4 32 dgT rfl (by simp)) ?_
    refine AWP.ret ?_
    refine ⟨.inr rfl, _, (by simp only [go_sem, seval, rootF_len] <;> rfl), ?_⟩
    simp only [go_sem, seval, rootF_len, Option.some.injEq, AV.c.injEq, AV.agg.injEq, CV.v.injEq, Value.int.injEq, Value.bool.injEq, Row.raw.injEq, List.cons.injEq, CV.sl.injEq, and_true, true_and, and_self]
    rw [besideF_1 l _ (by omega)]
    exact ⟨rfl, rfl⟩
  · skip
    refine AWP.skip ?_
    change AWP _ _ _ _ _
    have h2 : 2 ≤ l.length := by omega
    have sp := splitN_spec l.length h2
    have bf := besideF_2 l a.toNat h2
    refine AWP.sR gok [0, 1, 5] (by apply aops_mv (t := 0) (d := 9) (ag_n rfl) rfl rfl (by first | (simp only [look_lay, look, seval] <;> rfl) | fail) rfl; apply aops_x (d := 10) (ag_n rfl) rfl (by first | (simp (disch := decide) only [rootF_len, Int.toNat_natCast, go_sem, seval] <;> rfl) | (simp (disch := first | decide | omega) only [if_pos, nws, rootF_len, Int.toNat_natCast, go_sem, seval] <;> rfl)) rfl; apply aops_x (d := 11) (ag_n rfl) rfl (by (simp (disch := first | decide | omega) only [if_pos, nws, rootF_len, Int.toNat_natCast, go_sem, seval] <;> rfl)) rfl; apply aops_as (t := 11) (d := 5) (ag_n rfl) rfl rfl (by first | (simp only [look_lay, look, seval] <;> rfl) | fail) rfl; apply aops_end; rfl) (by (simp (disch := omega) only [go_sem, seval, lay, nws]); rfl) ?_
    refine AWP.seq ?_
    have t1 := textsOk_take hc.1.1 (splitN l.length)
    have t2 := textsOk_drop hc.1.1 (splitN l.length)
    have l1 : (l.take (splitN l.length)).length = splitN l.length := by rw [List.length_take]; omega
    have l2 : (l.drop (splitN l.length)).length = l.length - splitN l.length := by rw [List.length_drop]
    have e2 : (l.drop (splitN l.length)).take (l.length - splitN l.length) = l.drop (splitN l.length) := List.take_of_length_le (by rw [l2]; exact Nat.le_refl _)
    have b1 := blen (l.take (splitN l.length)) a.toNat
    have b2 := blen (l.drop (splitN l.length)) (a - splitN l.length).toNat
    rw [l1] at b1
    rw [l2] at b2
    refine AWP.sR gok [0, 1, 5, 14] (by apply aops_mv (t := 1) (d := 12) (ag_n rfl) rfl rfl (by first | (simp only [look_lay, look, seval] <;> rfl) | fail) rfl; apply aops_mv (t := 5) (d := 13) (ag_n rfl) rfl rfl (by first | (simp only [look_lay, look, seval] <;> rfl) | fail) rfl; apply aops_x (d := 14) (ag_n rfl) rfl (by first | (simp (disch := decide) only [rootF_len, go_sem, seval] <;> rfl) | (simp (disch := first | decide | omega) only [if_pos, nws, rootF_len, go_sem, seval] <;> rfl)) rfl; apply aops_end; rfl) (by (simp (disch := omega) only [go_sem, seval, lay, nws]); rfl) ?_
    refine AWP.cond (b := _) rfl (fun h => ?_) (fun h => ?_) <;> (try simp only [decide_eq_true_eq, decide_eq_false_iff_not] at h)
    · skip
      refine AWP.sD gok (by kernel_rfl) [4] [⟨[], true, 0⟩, ⟨[], true, 0⟩, ⟨[], true, 0⟩, ⟨[], true, 0⟩, ⟨[], true, 1⟩, ⟨[], true, 0⟩, ⟨[], true, 0⟩, ⟨[], true, 0⟩, ⟨[], true, 0⟩, ⟨[], true, 1⟩, ⟨[0, 1], false, 1⟩, ⟨[], true, 0⟩] (by kernel_rfl) (by first | rfl | simp only [go_sem, ↓reduceIte, Nat.reduceLT, Nat.reduceAdd]) (by first | rfl | simp only [go_sem, ↓reduceIte, Nat.reduceLT, Nat.reduceAdd]) (by (repeat (first | apply arun_step (by first | exact ag_n rfl | exact ag_b rfl rfl rfl (by first | (simp only [look_lay, look, seval] <;> rfl) | fail) (by first | rfl | (simp only [rootF_len, t1, t2, l1, l2, e2, Nat.sub_zero, decide_true, decide_false] <;> rfl) | fail) | fail) (by first | (simp (disch := decide) only [rootF_len, t1, t2, l1, l2, e2, Nat.sub_zero, go_sem, seval]; rfl) | (simp (disch := first | decide | omega) only [if_pos, nws, rootF_len, t1, t2, l1, l2, e2, Nat.sub_zero, go_sem, seval]; rfl)) (by first | (intro h; cases h; done) | (intro _; rfl) | (intro _; simp only [go_sem, seval, lay])) (by first | rfl | simp only [go_sem, seval, lay]) (by first | rfl | simp only [go_sem, seval, lay]) (by first | rfl | simp only [go_sem, seval, lay]) (by simp only [go_sem, seval, lay]; rfl) | apply arun_pass (by first | exact ag_f rfl rfl rfl (by first | (simp only [look_lay, look, seval] <;> rfl) | fail) (by first | rfl | (simp only [rootF_len, t1, t2, l1, l2, e2, Nat.sub_zero, decide_true, decide_false] <;> rfl) | fail) | exact ag_u rfl rfl rfl (by first | (simp only [look_lay, look, seval] <;> rfl) | fail) | fail) rfl (by simp only [go_sem, seval, lay]; rfl))); exact rfl) (by (simp (disch := omega) only [go_sem, seval, lay, nws]); rfl) ?_
      refine AWP.ghost (Ghost.gc (ρ := [2]) (by simp only [go_sem, seval] <;> rfl) rfl rfl rfl) ?_
      refine AWP.ret ?_
      refine ⟨.inr rfl, _, (by simp only [go_sem, seval, rootF_len] <;> rfl), ?_⟩
      simp only [go_sem, seval, rootF_len, Option.some.injEq, AV.c.injEq, AV.agg.injEq, CV.v.injEq, Value.int.injEq, Value.bool.injEq, Row.raw.injEq, List.cons.injEq, CV.sl.injEq, and_true, true_and, and_self]
      rw [bf, if_pos (by omega)]; simp
    · skip
      refine AWP.skip ?_
      change AWP _ _ _ _ _
      refine AWP.sD gok (by kernel_rfl) [4] [⟨[], true, 0⟩, ⟨[], true, 0⟩, ⟨[], true, 0⟩, ⟨[], true, 0⟩, ⟨[], true, 0⟩, ⟨[], true, 0⟩, ⟨[], true, 1⟩, ⟨[], true, 0⟩, ⟨[], true, 0⟩, ⟨[], true, 0⟩, ⟨[], true, 0⟩, ⟨[], true, 1⟩, ⟨[0, 1], false, 1⟩, ⟨[], true, 0⟩] (by kernel_rfl) (by first | rfl | simp only [go_sem, ↓reduceIte, Nat.reduceLT, Nat.reduceAdd]) (by first | rfl | simp only [go_sem, ↓reduceIte, Nat.reduceLT, Nat.reduceAdd]) (by (repeat (first | apply arun_step (by first | exact ag_n rfl | exact ag_b rfl rfl rfl (by first | (simp only [look_lay, look, seval] <;> rfl) | fail) (by first | rfl | (simp only [rootF_len, t1, t2, l1, l2, e2, Nat.sub_zero, decide_true, decide_false] <;> rfl) | fail) | fail) (by first | (simp (disch := decide) only [rootF_len, t1, t2, l1, l2, e2, Nat.sub_zero, go_sem, seval]; rfl) | (simp (disch := first | decide | omega) only [if_pos, nws, rootF_len, t1, t2, l1, l2, e2, Nat.sub_zero, go_sem, seval]; rfl)) (by first | (intro h; cases h; done) | (intro _; rfl) | (intro _; simp only [go_sem, seval, lay])) (by first | rfl | simp only [go_sem, seval, lay]) (by first | rfl | simp only [go_sem, seval, lay]) (by first | rfl | simp only [go_sem, seval, lay]) (by simp only [go_sem, seval, lay]; rfl) | apply arun_pass (by first | exact ag_f rfl rfl rfl (by first | (simp only [look_lay, look, seval] <;> rfl) | fail) (by first | rfl | (simp only [rootF_len, t1, t2, l1, l2, e2, Nat.sub_zero, decide_true, decide_false] <;> rfl) | fail) | exact ag_u rfl rfl rfl (by first | (simp only [look_lay, look, seval] <;> rfl) | fail) | fail) rfl (by simp only [go_sem, seval, lay]; rfl))); exact rfl) (by (simp (disch := omega) only [go_sem, seval, lay, nws]); rfl) ?_
      refine AWP.ghost (Ghost.gc (ρ := [2]) (by simp only [go_sem, seval] <;> rfl) rfl rfl rfl) ?_
      refine AWP.ret ?_
      refine ⟨.inr rfl, _, (by simp only [go_sem, seval, rootF_len] <;> rfl), ?_⟩
      simp only [go_sem, seval, rootF_len, Option.some.injEq, AV.c.injEq, AV.agg.injEq, CV.v.injEq, Value.int.injEq, Value.bool.injEq, Row.raw.injEq, List.cons.injEq, CV.sl.injEq, and_true, true_and, and_self]
      rw [bf, if_neg (by omega), show (a - splitN l.length).toNat = a.toNat - splitN l.length by omega]; simp
theorem En32_ok : ∀ N, EntryOk Try.prog 32 (En32 N)
  | 0 => pureN_ok (fun d hc => absurd hc.1 (Nat.not_lt_zero _)) (fun _ => rfl) (fun _ => rfl)
  | N + 1 => pureN_ok (fun d hc => K32 N (En32_ok N) d.1 d.2.1 hc.1 hc.2) (fun _ => rfl) (fun _ => rfl)
theorem E32_ok : EntryOk Try.prog 32 E32 := pureN_ok (fun d hc => K32 _ (En32_ok _) d.1 d.2.1 (Nat.lt_succ_self _) hc) (fun _ => rfl) (fun _ => rfl)
attribute [go_sem] E32
abbrev c31 (xs : (List (List Int))) (ys : (List (List Int))) : Prop := (digestsOk xs ∧ digestsOk ys) ∧ xs.length ≤ 1000000 ∧ ys.length ≤ 1000000
abbrev r31 (xs : (List (List Int))) (ys : (List (List Int))) : AV := .c (cb (decide (xs = ys)))
abbrev L31 (xs : (List (List Int))) (ys : (List (List Int))) : Hp := []
def E31 : Entry := pureN [(.sl (.ar 32 (.i .u8))), (.sl (.ar 32 (.i .u8)))] (fun d => c31 d.1 d.2.1) (fun d => r31 d.1 d.2.1) (fun d => L31 d.1 d.2.1)
set_option maxRecDepth 100000 in
set_option maxHeartbeats 4000000 in
theorem K31 (xs : (List (List Int))) (ys : (List (List Int))) (hc : c31 xs ys) : CallOk Try.prog 31 [.c (.rs (.ar 32 (.i .u8)) xs), .c (.rs (.ar 32 (.i .u8)) ys)] [] (r31 xs ys) (L31 xs ys) := by
  have hc : (digestsOk xs ∧ digestsOk ys) ∧ xs.length ≤ 1000000 ∧ ys.length ≤ 1000000 := hc
  refine callOk' Try.func31 26 [.tmp 4] _ rfl rfl rfl (by kernel_rfl) (by simp) [] rfl rfl (by simp) ?_
  simp only [params]
  refine AWP.sR (Gam.nil_ok _) [0, 1] (by apply aops_x (d := 4) (ag_n rfl) rfl (by first | (simp (disch := decide) only [go_sem, seval] <;> rfl) | (simp (disch := first | decide | omega) only [if_pos, nws, go_sem, seval] <;> rfl)) rfl; apply aops_end; rfl) (by (simp (disch := omega) only [go_sem, seval, lay, nws]); rfl) ?_
  refine AWP.seq ?_
  refine AWP.sR (Gam.nil_ok _) [0, 1, 10] (by apply aops_mv (t := 0) (d := 6) (ag_n rfl) rfl rfl (by first | (simp only [look_lay, look, seval] <;> rfl) | fail) rfl; apply aops_x (d := 7) (ag_n rfl) rfl (by first | (simp (disch := decide) only [go_sem, seval] <;> rfl) | (simp (disch := first | decide | omega) only [if_pos, nws, go_sem, seval] <;> rfl)) rfl; apply aops_mv (t := 1) (d := 8) (ag_n rfl) rfl rfl (by first | (simp only [look_lay, look, seval] <;> rfl) | fail) rfl; apply aops_x (d := 9) (ag_n rfl) rfl (by first | (simp (disch := decide) only [go_sem, seval] <;> rfl) | (simp (disch := first | decide | omega) only [if_pos, nws, go_sem, seval] <;> rfl)) rfl; apply aops_x (d := 10) (ag_n rfl) rfl (by first | (simp (disch := decide) only [go_sem, seval] <;> rfl) | (simp (disch := first | decide | omega) only [if_pos, nws, go_sem, seval] <;> rfl)) rfl; apply aops_end; rfl) (by (simp (disch := omega) only [go_sem, seval, lay, nws]); rfl) ?_
  refine AWP.cond (b := _) rfl (fun h => ?_) (fun h => ?_) <;> (try simp only [decide_eq_true_eq, decide_eq_false_iff_not] at h)
  · skip
    refine AWP.sR (Gam.nil_ok _) [4] (by apply aops_x (d := 4) (ag_n rfl) rfl (by first | (simp (disch := decide) only [go_sem, seval] <;> rfl) | (simp (disch := first | decide | omega) only [if_pos, nws, go_sem, seval] <;> rfl)) rfl; apply aops_end; rfl) (by (simp (disch := omega) only [go_sem, seval, lay, nws]); rfl) ?_
    refine AWP.ret ?_
    refine ⟨.inr rfl, _, (by simp only [go_sem, seval] <;> rfl), ?_⟩
    simp only [go_sem, seval, Option.some.injEq, AV.c.injEq, AV.agg.injEq, CV.v.injEq, Value.int.injEq, Value.bool.injEq, Row.raw.injEq, List.cons.injEq, CV.sl.injEq, and_true, true_and, and_self]
    rw [decide_eq_false]; rintro rfl; omega
  · skip
    refine AWP.skip ?_
    change AWP _ _ _ _ _
    refine AWP.seq ?_
    refine AWP.sR (Gam.nil_ok _) [0, 1, 12, 13] (by apply aops_mv (t := 0) (d := 11) (ag_n rfl) rfl rfl (by first | (simp only [look_lay, look, seval] <;> rfl) | fail) rfl; apply aops_x (d := 12) (ag_n rfl) rfl (by first | (simp (disch := decide) only [go_sem, seval] <;> rfl) | (simp (disch := first | decide | omega) only [if_pos, nws, go_sem, seval] <;> rfl)) rfl; apply aops_x (d := 13) (ag_n rfl) rfl (by first | (simp (disch := decide) only [go_sem, seval] <;> rfl) | (simp (disch := first | decide | omega) only [if_pos, nws, go_sem, seval] <;> rfl)) rfl; apply aops_end; rfl) (by (simp (disch := omega) only [go_sem, seval, lay, nws]); rfl) ?_
    refine AWP.block ?_
    refine AWP.loopP (fun (p : Nat) => ⟨26, [(0, .c (.rs (.ar 32 (.i .u8)) xs)), (1, .c (.rs (.ar 32 (.i .u8)) ys)), (12, .c (ci .i64 (xs.length : Int))), (13, .c (ci .i64 (p : Int)))], []⟩) (fun p => p ≤ xs.length ∧ xs.take p = ys.take p) (fun p => xs.length - p) 0 (Ghost.refl _ _) ⟨by simp, by simp⟩ ?_
    rintro i ⟨hi, ha⟩
    refine AWP.sR (Gam.nil_ok _) [0, 1, 12, 13, 14] (by apply aops_x (d := 14) (ag_n rfl) rfl (by first | (simp (disch := decide) only [go_sem, seval] <;> rfl) | (simp (disch := first | decide | omega) only [if_pos, nws, go_sem, seval] <;> rfl)) rfl; apply aops_end; rfl) (by (simp (disch := omega) only [go_sem, seval, lay, nws]); rfl) ?_
    refine AWP.seq ?_
    refine AWP.cond (b := _) rfl (fun h => ?_) (fun h => ?_) <;> (try simp only [decide_eq_true_eq, decide_eq_false_iff_not] at h)
    · skip
      refine AWP.skip ?_
      change AWP _ _ _ _ _
      refine AWP.seqBlock ?_
      have h' : i < xs.length := by omega
      obtain ⟨x, hx⟩ : ∃ x, xs[i]? = some x := ⟨_, List.getElem?_eq_getElem h'⟩
      obtain ⟨y, hy⟩ : ∃ y, ys[i]? = some y := ⟨_, List.getElem?_eq_getElem (by omega)⟩
      obtain ⟨x1, x2⟩ := hc.1.1 x (List.mem_of_getElem? hx)
      obtain ⟨y1, y2⟩ := hc.1.2 y (List.mem_of_getElem? hy)
      refine AWP.sR (Gam.nil_ok _) [0, 1, 5, 12, 13] (by apply aops_mv (t := 13) (d := 15) (ag_n rfl) rfl rfl (by first | (simp only [look_lay, look, seval] <;> rfl) | fail) rfl; apply aops_as (t := 15) (d := 5) (ag_n rfl) rfl rfl (by first | (simp only [look_lay, look, seval] <;> rfl) | fail) rfl; apply aops_end; rfl) (by (simp (disch := omega) only [go_sem, seval, lay, nws]); rfl) ?_
      refine AWP.sD (Gam.nil_ok _) (by kernel_rfl) [0, 1, 12, 13, 24] [⟨[], true, 0⟩, ⟨[], true, 0⟩, ⟨[], true, 0⟩, ⟨[], true, 0⟩, ⟨[], true, 0⟩, ⟨[], true, 0⟩, ⟨[], true, 0⟩, ⟨[], true, 0⟩, ⟨[], true, 0⟩] (by kernel_rfl) (by first | rfl | simp only [go_sem, ↓reduceIte, Nat.reduceLT, Nat.reduceAdd]) (by first | rfl | simp only [go_sem, ↓reduceIte, Nat.reduceLT, Nat.reduceAdd]) (by (repeat (first | apply arun_step (by first | exact ag_n rfl | exact ag_b rfl rfl rfl (by first | (simp only [look_lay, look, seval] <;> rfl) | fail) (by first | rfl | (simp only [hx, hy, x2, y2, decide_true, decide_false] <;> rfl) | fail) | fail) (by first | (simp (disch := decide) only [hx, hy, x2, y2, go_sem, seval]; rfl) | (simp (disch := first | decide | omega) only [if_pos, nws, hx, hy, x2, y2, go_sem, seval]; rfl)) (by first | (intro h; cases h; done) | (intro _; rfl) | (intro _; simp only [go_sem, seval, lay])) (by first | rfl | simp only [go_sem, seval, lay]) (by first | rfl | simp only [go_sem, seval, lay]) (by first | rfl | simp only [go_sem, seval, lay]) (by simp only [go_sem, seval, lay]; rfl) | apply arun_pass (by first | exact ag_f rfl rfl rfl (by first | (simp only [look_lay, look, seval] <;> rfl) | fail) (by first | rfl | (simp only [hx, hy, x2, y2, decide_true, decide_false] <;> rfl) | fail) | exact ag_u rfl rfl rfl (by first | (simp only [look_lay, look, seval] <;> rfl) | fail) | fail) rfl (by simp only [go_sem, seval, lay]; rfl))); exact rfl) (by (simp (disch := omega) only [go_sem, seval, lay, nws]); rfl) ?_
      refine AWP.cond (b := _) rfl (fun h => ?_) (fun h => ?_) <;> (try simp only [decide_eq_true_eq, decide_eq_false_iff_not] at h)
      · skip
        refine AWP.sR (Gam.nil_ok _) [4] (by apply aops_x (d := 4) (ag_n rfl) rfl (by first | (simp (disch := decide) only [go_sem, seval] <;> rfl) | (simp (disch := first | decide | omega) only [if_pos, nws, go_sem, seval] <;> rfl)) rfl; apply aops_end; rfl) (by (simp (disch := omega) only [go_sem, seval, lay, nws]); rfl) ?_
        refine AWP.ret ?_
        refine ⟨.inr rfl, _, (by simp only [go_sem, seval] <;> rfl), ?_⟩
        simp only [go_sem, seval, Option.some.injEq, AV.c.injEq, AV.agg.injEq, CV.v.injEq, Value.int.injEq, Value.bool.injEq, Row.raw.injEq, List.cons.injEq, CV.sl.injEq, and_true, true_and, and_self]
        rw [decide_eq_false]
        rintro rfl
        rw [hx] at hy; cases hy
        simp at h
      · skip
        refine AWP.skip ?_
        change AWP _ _ _ _ _
        refine AWP.rT (Gam.nil_ok _) [0, 1, 12, 13] (by apply aops_x (d := 25) (ag_n rfl) rfl (by first | (simp (disch := decide) only [go_sem, seval] <;> rfl) | (simp (disch := first | decide | omega) only [if_pos, nws, go_sem, seval] <;> rfl)) rfl; apply aops_mv (t := 25) (d := 13) (ag_n rfl) rfl rfl (by first | (simp only [look_lay, look, seval] <;> rfl) | fail) rfl; apply aops_end; rfl) (by (simp (disch := omega) only [go_sem, seval, lay, nws]); rfl) ?_
        refine ⟨i + 1, Ghost.refl _ _, ⟨by omega, ?_⟩, by omega⟩
        have e : x = y := by simpa using h
        rw [List.take_add_one, List.take_add_one, hx, hy, ha, e]
    · skip
      refine AWP.exit ?_
      change AWP _ _ _ _ _
      refine AWP.sR (Gam.nil_ok _) [4] (by apply aops_x (d := 4) (ag_n rfl) rfl (by first | (simp (disch := decide) only [go_sem, seval] <;> rfl) | (simp (disch := first | decide | omega) only [if_pos, nws, go_sem, seval] <;> rfl)) rfl; apply aops_end; rfl) (by (simp (disch := omega) only [go_sem, seval, lay, nws]); rfl) ?_
      refine AWP.ret ?_
      refine ⟨.inr rfl, _, (by simp only [go_sem, seval] <;> rfl), ?_⟩
      simp only [go_sem, seval, Option.some.injEq, AV.c.injEq, AV.agg.injEq, CV.v.injEq, Value.int.injEq, Value.bool.injEq, Row.raw.injEq, List.cons.injEq, CV.sl.injEq, and_true, true_and, and_self]
      have e : i = xs.length := by omega
      have e2 : ys.length = xs.length := by omega
      rw [e, List.take_length, ← e2, List.take_length] at ha
      rw [decide_eq_true ha]
theorem E31_ok : EntryOk Try.prog 31 E31 := pureN_ok (fun d hc => K31 d.1 d.2.1 hc) (fun _ => rfl) (fun _ => rfl)
attribute [go_sem] E31 c31 r31 L31
end Go.Proofs.Ytbdnhoddkdiogaa
