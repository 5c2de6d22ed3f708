import Derived.Test.YtcnoooodnmjdmaaRk1
set_option linter.unusedSimpArgs false
set_option linter.unusedVariables false
namespace Go.Proofs.Ytcnoooodnmjdmaa
open Go.RowKit
theorem heldf_pos (n : Int) : 1 ≤ heldf n := by unfold heldf; omega
theorem heldf_le (n : Int) : heldf n ≤ 4096 := by unfold heldf; omega
theorem cmp_prod (p q : Int) (hp : 0 ≤ p) (hq : 0 ≤ q) : (if cmpI (p / 18446744073709551616) (q / 18446744073709551616) ≠ 0 then cmpI (p / 18446744073709551616) (q / 18446744073709551616) else cmpI (p % 18446744073709551616) (q % 18446744073709551616)) = cmpI p q := by
  unfold cmpI
  have e1 : p / 18446744073709551616 < q / 18446744073709551616 → p < q := by omega
  have e2 : q / 18446744073709551616 < p / 18446744073709551616 → q < p := by omega
  by_cases h1 : p / 18446744073709551616 < q / 18446744073709551616
  · rw [if_pos h1, if_pos (by decide), if_pos (e1 h1)]
  · by_cases h2 : q / 18446744073709551616 < p / 18446744073709551616
    · have := e2 h2; rw [if_neg h1, if_pos h2, if_pos (by decide), if_neg (show ¬ p < q by omega), if_pos (e2 h2)]
    · rw [if_neg h1, if_neg h2, if_neg (by decide)]
      by_cases h3 : p < q
      · rw [if_pos (by omega), if_pos h3]
      · by_cases h4 : q < p
        · rw [if_neg (by omega), if_pos (by omega), if_neg h3, if_pos h4]
        · rw [if_neg (by omega), if_neg (by omega), if_neg h3, if_neg h4]
abbrev c25 (x : Int) (y : Int) : Prop := 0 ≤ x ∧ x < 18446744073709551616 ∧ 0 ≤ y ∧ y < 18446744073709551616
abbrev r25 (x : Int) (y : Int) : AV := .agg (.raw [ci .u64 (x * y / 18446744073709551616), ci .u64 (x * y % 18446744073709551616)])
abbrev L25 (x : Int) (y : Int) : Hp := []
def E25 : Entry := pureN [(.i .u64), (.i .u64)] (fun d => c25 d.1 d.2.1) (fun d => r25 d.1 d.2.1) (fun d => L25 d.1 d.2.1)
set_option maxRecDepth 100000 in
set_option maxHeartbeats 4000000 in
theorem K25 (x : Int) (y : Int) (hc : c25 x y) : CallOk Try.prog 25 [.c (ci .u64 x), .c (ci .u64 y)] [] (r25 x y) (L25 x y) := by
  have hc : 0 ≤ x ∧ x < 18446744073709551616 ∧ 0 ≤ y ∧ y < 18446744073709551616 := hc
  have gok := (Gam.cons_ok E29_ok (Gam.nil_ok _))
  refine callOk' Try.func25 16 [.cell 4 66] _ rfl rfl rfl (by kernel_rfl) (by simp) [] rfl rfl (by simp) ?_
  simp only [params]
  refine AWP.sR gok [0, 1, 4] (by apply aops_x (d := 4) (ag_n rfl) rfl (by first | (simp (disch := decide) only [go_sem, seval] <;> rfl) | (simp (disch := first | decide | omega) only [if_pos, nws, go_sem, seval] <;> rfl)) rfl; apply aops_end; rfl) (by (simp (disch := omega) only [go_sem, seval, lay, nws]); rfl) ?_
  refine AWP.sR gok [4, 5, 6] (by apply aops_mv (t := 0) (d := 8) (ag_n rfl) rfl rfl (by first | (simp only [look_lay, look, seval] <;> rfl) | fail) rfl; apply aops_mv (t := 1) (d := 9) (ag_n rfl) rfl rfl (by first | (simp only [look_lay, look, seval] <;> rfl) | fail) rfl; apply aops_x (d := 10) (ag_n rfl) rfl (by (simp (disch := first | decide | omega) only [if_pos, nws, go_sem, seval] <;> rfl)) rfl; apply aops_mv (t := 10) (d := 7) (ag_n rfl) rfl rfl (by first | (simp only [look_lay, look, seval] <;> rfl) | fail) rfl; apply aops_x (d := 11) (ag_n rfl) rfl (by first | (simp (disch := decide) only [go_sem, seval] <;> rfl) | (simp (disch := first | decide | omega) only [if_pos, nws, go_sem, seval] <;> rfl)) rfl; apply aops_x (d := 12) (ag_n rfl) rfl (by first | (simp (disch := decide) only [go_sem, seval] <;> rfl) | (simp (disch := first | decide | omega) only [if_pos, nws, go_sem, seval] <;> rfl)) rfl; apply aops_as (t := 11) (d := 5) (ag_n rfl) rfl rfl (by first | (simp only [look_lay, look, seval] <;> rfl) | fail) rfl; apply aops_as (t := 12) (d := 6) (ag_n rfl) rfl rfl (by first | (simp only [look_lay, look, seval] <;> rfl) | fail) rfl; apply aops_end; rfl) (by (simp (disch := omega) only [go_sem, seval, lay, nws]); rfl) ?_
  refine AWP.sR gok [4] (by apply aops_mv (t := 5) (d := 13) (ag_n rfl) rfl rfl (by first | (simp only [look_lay, look, seval] <;> rfl) | fail) rfl; apply aops_mv (t := 6) (d := 14) (ag_n rfl) rfl rfl (by first | (simp only [look_lay, look, seval] <;> rfl) | fail) rfl; apply aops_x (d := 15) (ag_n rfl) rfl (by first | (simp (disch := decide) only [go_sem, seval] <;> rfl) | (simp (disch := first | decide | omega) only [if_pos, nws, go_sem, seval] <;> rfl)) rfl; apply aops_s (ag_n rfl) rfl (by first | (simp (disch := decide) only [go_sem, seval] <;> rfl) | (simp (disch := first | decide | omega) only [if_pos, nws, go_sem, seval] <;> rfl)); apply aops_end; rfl) (by (simp (disch := omega) only [go_sem, seval, lay, nws]); rfl) ?_
  refine AWP.ret ?_
  refine ⟨.inr rfl, _, (by simp only [go_sem, seval] <;> rfl), ?_⟩
  simp only [go_sem, seval, Option.some.injEq, AV.c.injEq, AV.agg.injEq, CV.v.injEq, Value.int.injEq, Value.bool.injEq, Row.raw.injEq, List.cons.injEq, CV.sl.injEq, and_true, true_and, and_self]
theorem E25_ok : EntryOk Try.prog 25 E25 := pureN_ok (fun d hc => K25 d.1 d.2.1 hc) (fun _ => rfl) (fun _ => rfl)
attribute [go_sem] E25 c25 r25 L25
abbrev c27 (p : (Int × Int)) (q : (Int × Int)) : Prop := True
abbrev r27 (p : (Int × Int)) (q : (Int × Int)) : AV := .c (ci .i64 (if cmpI p.1 q.1 ≠ 0 then cmpI p.1 q.1 else cmpI p.2 q.2))
abbrev L27 (p : (Int × Int)) (q : (Int × Int)) : Hp := []
def E27 : Entry := pureN [(.pr (.i .u64) (.i .u64)), (.pr (.i .u64) (.i .u64))] (fun d => c27 d.1 d.2.1) (fun d => r27 d.1 d.2.1) (fun d => L27 d.1 d.2.1)
set_option maxRecDepth 100000 in
set_option maxHeartbeats 4000000 in
theorem K27 (p : (Int × Int)) (q : (Int × Int)) (hc : c27 p q) : CallOk Try.prog 27 [.agg (.ty (.pr (.i .u64) (.i .u64)) [p]), .agg (.ty (.pr (.i .u64) (.i .u64)) [q])] [] (r27 p q) (L27 p q) := by
  have gok := (Gam.cons_ok E30_ok (Gam.nil_ok _))
  refine callOk' Try.func27 19 [.tmp 4] _ rfl rfl rfl (by kernel_rfl) (by simp) [] rfl rfl (by simp) ?_
  simp only [params]
  refine AWP.sR gok [2, 3] (by apply aops_x (d := 2) (ag_n rfl) rfl (by first | (simp (disch := decide) only [go_sem, seval] <;> rfl) | (simp (disch := first | decide | omega) only [if_pos, nws, go_sem, seval] <;> rfl)) rfl; apply aops_x (d := 3) (ag_n rfl) rfl (by first | (simp (disch := decide) only [go_sem, seval] <;> rfl) | (simp (disch := first | decide | omega) only [if_pos, nws, go_sem, seval] <;> rfl)) rfl; apply aops_x (d := 4) (ag_n rfl) rfl (by first | (simp (disch := decide) only [go_sem, seval] <;> rfl) | (simp (disch := first | decide | omega) only [if_pos, nws, go_sem, seval] <;> rfl)) rfl; apply aops_end; rfl) (by (simp (disch := omega) only [go_sem, seval, lay, nws]); rfl) ?_
  refine AWP.seq ?_
  refine AWP.sR gok [2, 3, 5] (by apply aops_x (d := 6) (ag_n rfl) rfl (by first | (simp (disch := decide) only [go_sem, seval] <;> rfl) | (simp (disch := first | decide | omega) only [if_pos, nws, go_sem, seval] <;> rfl)) rfl; apply aops_x (d := 7) (ag_n rfl) rfl (by first | (simp (disch := decide) only [go_sem, seval] <;> rfl) | (simp (disch := first | decide | omega) only [if_pos, nws, go_sem, seval] <;> rfl)) rfl; apply aops_x (d := 8) (ag_n rfl) rfl (by first | (simp (disch := decide) only [go_sem, seval] <;> rfl) | (simp (disch := first | decide | omega) only [if_pos, nws, go_sem, seval] <;> rfl)) rfl; apply aops_x (d := 9) (ag_n rfl) rfl (by first | (simp (disch := decide) only [go_sem, seval] <;> rfl) | (simp (disch := first | decide | omega) only [if_pos, nws, go_sem, seval] <;> rfl)) rfl; apply aops_x (d := 10) (ag_n rfl) rfl (by (simp (disch := first | decide | omega) only [if_pos, nws, go_sem, seval] <;> rfl)) rfl; apply aops_as (t := 10) (d := 5) (ag_n rfl) rfl rfl (by first | (simp only [look_lay, look, seval] <;> rfl) | fail) rfl; apply aops_end; rfl) (by (simp (disch := omega) only [go_sem, seval, lay, nws]); rfl) ?_
  refine AWP.sR gok [2, 3, 5, 12] (by apply aops_mv (t := 5) (d := 11) (ag_n rfl) rfl rfl (by first | (simp only [look_lay, look, seval] <;> rfl) | fail) rfl; apply aops_x (d := 12) (ag_n rfl) rfl (by first | (simp (disch := decide) only [go_sem, seval] <;> rfl) | (simp (disch := first | decide | omega) only [if_pos, nws, go_sem, seval] <;> rfl)) rfl; apply aops_end; rfl) (by (simp (disch := omega) only [go_sem, seval, lay, nws]); rfl) ?_
  refine AWP.cond (b := _) rfl (fun h => ?_) (fun h => ?_) <;> (try simp only [decide_eq_true_eq, decide_eq_false_iff_not] at h)
  · skip
    refine AWP.sR gok [4] (by apply aops_mv (t := 5) (d := 13) (ag_n rfl) rfl rfl (by first | (simp only [look_lay, look, seval] <;> rfl) | fail) rfl; apply aops_as (t := 13) (d := 4) (ag_n rfl) rfl rfl (by first | (simp only [look_lay, look, seval] <;> rfl) | fail) rfl; apply aops_end; rfl) (by (simp (disch := omega) only [go_sem, seval, lay, nws]); rfl) ?_
    refine AWP.ret ?_
    refine ⟨.inr rfl, _, (by simp only [go_sem, seval] <;> rfl), ?_⟩
    simp only [go_sem, seval, Option.some.injEq, AV.c.injEq, AV.agg.injEq, CV.v.injEq, Value.int.injEq, Value.bool.injEq, Row.raw.injEq, List.cons.injEq, CV.sl.injEq, and_true, true_and, and_self]
    first | rw [if_pos h] | rw [if_neg h]
  · skip
    refine AWP.skip ?_
    change AWP _ _ _ _ _
    refine AWP.sR gok [4] (by apply aops_x (d := 14) (ag_n rfl) rfl (by first | (simp (disch := decide) only [go_sem, seval] <;> rfl) | (simp (disch := first | decide | omega) only [if_pos, nws, go_sem, seval] <;> rfl)) rfl; apply aops_x (d := 15) (ag_n rfl) rfl (by first | (simp (disch := decide) only [go_sem, seval] <;> rfl) | (simp (disch := first | decide | omega) only [if_pos, nws, go_sem, seval] <;> rfl)) rfl; apply aops_x (d := 16) (ag_n rfl) rfl (by first | (simp (disch := decide) only [go_sem, seval] <;> rfl) | (simp (disch := first | decide | omega) only [if_pos, nws, go_sem, seval] <;> rfl)) rfl; apply aops_x (d := 17) (ag_n rfl) rfl (by first | (simp (disch := decide) only [go_sem, seval] <;> rfl) | (simp (disch := first | decide | omega) only [if_pos, nws, go_sem, seval] <;> rfl)) rfl; apply aops_x (d := 18) (ag_n rfl) rfl (by (simp (disch := first | decide | omega) only [if_pos, nws, go_sem, seval] <;> rfl)) rfl; apply aops_as (t := 18) (d := 4) (ag_n rfl) rfl rfl (by first | (simp only [look_lay, look, seval] <;> rfl) | fail) rfl; apply aops_end; rfl) (by (simp (disch := omega) only [go_sem, seval, lay, nws]); rfl) ?_
    refine AWP.ret ?_
    refine ⟨.inr rfl, _, (by simp only [go_sem, seval] <;> rfl), ?_⟩
    simp only [go_sem, seval, Option.some.injEq, AV.c.injEq, AV.agg.injEq, CV.v.injEq, Value.int.injEq, Value.bool.injEq, Row.raw.injEq, List.cons.injEq, CV.sl.injEq, and_true, true_and, and_self]
    first | rw [if_pos h] | rw [if_neg h]
theorem E27_ok : EntryOk Try.prog 27 E27 := pureN_ok (fun d hc => K27 d.1 d.2.1 hc) (fun _ => rfl) (fun _ => rfl)
attribute [go_sem] E27 c27 r27 L27
abbrev c22 (fee : Int) (bytes : Int) (other : Int) (others : Int) : Prop := (0 ≤ fee ∧ fee < 18446744073709551616) ∧ 0 ≤ other ∧ other < 18446744073709551616
abbrev r22 (fee : Int) (bytes : Int) (other : Int) (others : Int) : AV := .c (ci .i64 (cmpI (fee * heldf others) (other * heldf bytes)))
abbrev L22 (fee : Int) (bytes : Int) (other : Int) (others : Int) : Hp := []
def E22 : Entry := pureN [(.i .u64), (.i .i64), (.i .u64), (.i .i64)] (fun d => c22 d.1 d.2.1 d.2.2.1 d.2.2.2.1) (fun d => r22 d.1 d.2.1 d.2.2.1 d.2.2.2.1) (fun d => L22 d.1 d.2.1 d.2.2.1 d.2.2.2.1)
set_option maxRecDepth 100000 in
set_option maxHeartbeats 4000000 in
theorem K22 (fee : Int) (bytes : Int) (other : Int) (others : Int) (hc : c22 fee bytes other others) : CallOk Try.prog 22 [.c (ci .u64 fee), .c (ci .i64 bytes), .c (ci .u64 other), .c (ci .i64 others)] [] (r22 fee bytes other others) (L22 fee bytes other others) := by
  have hc : (0 ≤ fee ∧ fee < 18446744073709551616) ∧ 0 ≤ other ∧ other < 18446744073709551616 := hc
  obtain ⟨h1, h2⟩ := hc
  have g1 := heldf_pos others; have g2 := heldf_le others; have g3 := heldf_pos bytes; have g4 := heldf_le bytes
  have gok := (Gam.cons_ok E25_ok (Gam.cons_ok E26_ok (Gam.cons_ok E27_ok (Gam.nil_ok _))))
  refine callOk' Try.func22 18 [.tmp 8] _ rfl rfl rfl (by kernel_rfl) (by simp) [] rfl rfl (by simp) ?_
  simp only [params]
  refine AWP.sR gok [0, 1, 2, 3] (by apply aops_x (d := 8) (ag_n rfl) rfl (by first | (simp (disch := decide) only [go_sem, seval] <;> rfl) | (simp (disch := first | decide | omega) only [if_pos, nws, go_sem, seval] <;> rfl)) rfl; apply aops_end; rfl) (by (simp (disch := omega) only [go_sem, seval, lay, nws]); rfl) ?_
  refine AWP.sR gok [8] (by apply aops_mv (t := 0) (d := 9) (ag_n rfl) rfl rfl (by first | (simp only [look_lay, look, seval] <;> rfl) | fail) rfl; apply aops_mv (t := 3) (d := 10) (ag_n rfl) rfl rfl (by first | (simp only [look_lay, look, seval] <;> rfl) | fail) rfl; apply aops_x (d := 11) (ag_n rfl) rfl (by (simp (disch := first | decide | omega) only [if_pos, nws, go_sem, seval] <;> rfl)) rfl; apply aops_x (d := 12) (ag_n rfl) rfl (by (simp (disch := first | decide | omega) only [if_pos, nws, go_sem, seval] <;> rfl)) rfl; apply aops_mv (t := 2) (d := 13) (ag_n rfl) rfl rfl (by first | (simp only [look_lay, look, seval] <;> rfl) | fail) rfl; apply aops_mv (t := 1) (d := 14) (ag_n rfl) rfl rfl (by first | (simp only [look_lay, look, seval] <;> rfl) | fail) rfl; apply aops_x (d := 15) (ag_n rfl) rfl (by (simp (disch := first | decide | omega) only [if_pos, nws, go_sem, seval] <;> rfl)) rfl; apply aops_x (d := 16) (ag_n rfl) rfl (by (simp (disch := first | decide | omega) only [if_pos, nws, go_sem, seval] <;> rfl)) rfl; apply aops_x (d := 17) (ag_n rfl) rfl (by (simp (disch := first | decide | omega) only [if_pos, nws, go_sem, seval] <;> rfl)) rfl; apply aops_as (t := 17) (d := 8) (ag_n rfl) rfl rfl (by first | (simp only [look_lay, look, seval] <;> rfl) | fail) rfl; apply aops_end; rfl) (by (simp (disch := omega) only [go_sem, seval, lay, nws]); rfl) ?_
  refine AWP.ret ?_
  refine ⟨.inr rfl, _, (by simp only [go_sem, seval] <;> rfl), ?_⟩
  simp only [go_sem, seval, Option.some.injEq, AV.c.injEq, AV.agg.injEq, CV.v.injEq, Value.int.injEq, Value.bool.injEq, Row.raw.injEq, List.cons.injEq, CV.sl.injEq, and_true, true_and, and_self]
  exact cmp_prod _ _ (Int.mul_nonneg h1.1 (by omega)) (Int.mul_nonneg h2.1 (by omega))
theorem E22_ok : EntryOk Try.prog 22 E22 := pureN_ok (fun d hc => K22 d.1 d.2.1 d.2.2.1 d.2.2.2.1 hc) (fun _ => rfl) (fun _ => rfl)
attribute [go_sem] E22 c22 r22 L22
end Go.Proofs.Ytcnoooodnmjdmaa
