import Derived.Test.YtggomleegbnhbaaBl5
set_option linter.unusedSimpArgs false
set_option linter.unusedVariables false
namespace Go.Proofs.Ytggomleegbnhbaa
open Go.RowKit
def addP (a b : List Int) : List Int := if a.length < b.length then trimF (sealN b a a.length) else trimF (sealN a b b.length)
abbrev c37 (a : (List Int)) (b : (List Int)) : Prop := a.length ≤ 1000000 ∧ b.length ≤ 1000000
abbrev r37 (a : (List Int)) (b : (List Int)) : AV := .c (.sl 0 0 (addP a b).length 1)
abbrev L37 (a : (List Int)) (b : (List Int)) : Hp := [some (.ty (.i .u8) (addP a b))]
def E37 : Entry := pureN [(.sl (.i .u8)), (.sl (.i .u8))] (fun d => c37 d.1 d.2.1) (fun d => r37 d.1 d.2.1) (fun d => L37 d.1 d.2.1)
set_option maxRecDepth 100000 in
set_option maxHeartbeats 4000000 in
theorem K37 (a : (List Int)) (b : (List Int)) (hc : c37 a b) : CallOk Try.prog 37 [.c (.rs (.i .u8) a), .c (.rs (.i .u8) b)] [] (r37 a b) (L37 a b) := by
  have hc : a.length ≤ 1000000 ∧ b.length ≤ 1000000 := hc
  obtain ⟨ha, hb⟩ := hc
  by_cases hab : (a.length : Int) < (b.length : Int)
  · skip
    have gok := (Gam.cons_ok E21_ok (Gam.cons_ok E41_ok (Gam.cons_ok E42_ok (Gam.nil_ok _))))
    refine callOk' Try.func37 36 [.tmp 4] _ rfl rfl rfl (by kernel_rfl) (by simp) [1] rfl rfl (by simp) ?_
    simp only [params]
    refine AWP.sR gok [0, 1] (by apply aops_x (d := 4) (ag_n rfl) rfl (by first | (simp (disch := decide) only [ha, hb, hab, go_sem, seval] <;> rfl) | (simp (disch := first | decide | omega) only [if_pos, nws, ha, hb, hab, go_sem, seval] <;> rfl)) rfl; apply aops_end; rfl) (by (simp (disch := omega) only [go_sem, seval, lay, nws]); rfl) ?_
    refine AWP.seq ?_
    refine AWP.sR gok [0, 1, 12] (by apply aops_mv (t := 0) (d := 8) (ag_n rfl) rfl rfl (by first | (simp only [look_lay, look, seval] <;> rfl) | fail) rfl; apply aops_x (d := 9) (ag_n rfl) rfl (by first | (simp (disch := decide) only [ha, hb, hab, go_sem, seval] <;> rfl) | (simp (disch := first | decide | omega) only [if_pos, nws, ha, hb, hab, go_sem, seval] <;> rfl)) rfl; apply aops_mv (t := 1) (d := 10) (ag_n rfl) rfl rfl (by first | (simp only [look_lay, look, seval] <;> rfl) | fail) rfl; apply aops_x (d := 11) (ag_n rfl) rfl (by first | (simp (disch := decide) only [ha, hb, hab, go_sem, seval] <;> rfl) | (simp (disch := first | decide | omega) only [if_pos, nws, ha, hb, hab, go_sem, seval] <;> rfl)) rfl; apply aops_x (d := 12) (ag_n rfl) rfl (by first | (simp (disch := decide) only [ha, hb, hab, go_sem, seval] <;> rfl) | (simp (disch := first | decide | omega) only [if_pos, nws, ha, hb, hab, go_sem, seval] <;> rfl)) rfl; apply aops_end; rfl) (by (simp (disch := omega) only [go_sem, seval, lay, nws]); rfl) ?_
    refine AWP.condT (b := _) rfl (by first | rfl | (simp only [decide_eq_true_eq, decide_eq_false_iff_not]; omega)) ?_
    refine AWP.rT gok [0, 1] (by apply aops_mv (t := 1) (d := 13) (ag_n rfl) rfl rfl (by first | (simp only [look_lay, look, seval] <;> rfl) | fail) rfl; apply aops_mv (t := 0) (d := 14) (ag_n rfl) rfl rfl (by first | (simp only [look_lay, look, seval] <;> rfl) | fail) rfl; apply aops_as (t := 13) (d := 0) (ag_n rfl) rfl rfl (by first | (simp only [look_lay, look, seval] <;> rfl) | fail) rfl; apply aops_as (t := 14) (d := 1) (ag_n rfl) rfl rfl (by first | (simp only [look_lay, look, seval] <;> rfl) | fail) rfl; apply aops_end; rfl) (by (simp (disch := omega) only [go_sem, seval, lay, nws]); rfl) ?_
    change AWP _ _ _ _ _
    refine AWP.sR gok [1, 5] (by apply aops_mv (t := 0) (d := 15) (ag_n rfl) rfl rfl (by first | (simp only [look_lay, look, seval] <;> rfl) | fail) rfl; apply aops_x (d := 16) (ag_n rfl) rfl (by (simp (disch := first | decide | omega) only [if_pos, nws, ha, hb, hab, go_sem, seval] <;> rfl)) rfl; apply aops_as (t := 16) (d := 5) (ag_n rfl) rfl rfl (by first | (simp only [look_lay, look, seval] <;> rfl) | fail) rfl; apply aops_end; rfl) (by (simp (disch := omega) only [go_sem, seval, lay, nws]); rfl) ?_
    refine AWP.seq ?_
    refine AWP.sR gok [5, 17, 18, 19] (by apply aops_mv (t := 1) (d := 17) (ag_n rfl) rfl rfl (by first | (simp only [look_lay, look, seval] <;> rfl) | fail) rfl; apply aops_x (d := 18) (ag_n rfl) rfl (by first | (simp (disch := decide) only [ha, hb, hab, go_sem, seval] <;> rfl) | (simp (disch := first | decide | omega) only [if_pos, nws, ha, hb, hab, go_sem, seval] <;> rfl)) rfl; apply aops_x (d := 19) (ag_n rfl) rfl (by first | (simp (disch := decide) only [ha, hb, hab, go_sem, seval] <;> rfl) | (simp (disch := first | decide | omega) only [if_pos, nws, ha, hb, hab, go_sem, seval] <;> rfl)) rfl; apply aops_end; rfl) (by (simp (disch := omega) only [go_sem, seval, lay, nws]); rfl) ?_
    refine AWP.block ?_
    refine AWP.loopP (fun (p : Nat) => ⟨36, [(5, .c (.sl 0 0 b.length 1)), (17, .c (.rs (.i .u8) a)), (18, .c (ci .i64 (a.length : Int))), (19, .c (ci .i64 (p : Int)))], [some (.ty (.i .u8) (sealN b a p))]⟩) (fun p => p ≤ a.length) (fun p => a.length - p) 0 (Ghost.refl _ _) (Nat.zero_le _) ?_
    rintro i hi
    refine AWP.sR gok [5, 17, 18, 19, 20] (by apply aops_x (d := 20) (ag_n rfl) rfl (by first | (simp (disch := decide) only [ha, hb, hab, go_sem, seval] <;> rfl) | (simp (disch := first | decide | omega) only [if_pos, nws, ha, hb, hab, go_sem, seval] <;> rfl)) rfl; apply aops_end; rfl) (by (simp (disch := omega) only [go_sem, seval, lay, nws]); rfl) ?_
    refine AWP.seq ?_
    refine AWP.cond (b := _) rfl (fun h => ?_) (fun h => ?_) <;> (try simp only [decide_eq_true_eq, decide_eq_false_iff_not] at h)
    · skip
      refine AWP.skip ?_
      change AWP _ _ _ _ _
      refine AWP.seqBlock ?_
      have hi' : i < a.length := by omega
      obtain ⟨y, hy⟩ : ∃ y, a[i]? = some y := ⟨_, List.getElem?_eq_getElem hi'⟩
      obtain ⟨x, hx⟩ : ∃ x, (sealN b a i)[i]? = some x := ⟨_, List.getElem?_eq_getElem (by rw [sealN_len]; omega)⟩
      have hsl := sealN_len b a i
      have hil : i < (sealN b a i).length := by omega
      refine AWP.sR gok [5, 6, 7, 17, 18, 19] (by apply aops_mv (t := 19) (d := 21) (ag_n rfl) rfl rfl (by first | (simp only [look_lay, look, seval] <;> rfl) | fail) rfl; apply aops_x (d := 22) (ag_n rfl) rfl (by (simp (disch := first | decide | omega) only [if_pos, nws, ha, hb, hab, hy, go_sem, seval] <;> rfl)) rfl; apply aops_x (d := 23) (ag_n rfl) rfl (by first | (simp (disch := decide) only [ha, hb, hab, hy, go_sem, seval] <;> rfl) | (simp (disch := first | decide | omega) only [if_pos, nws, ha, hb, hab, hy, go_sem, seval] <;> rfl)) rfl; apply aops_as (t := 21) (d := 6) (ag_n rfl) rfl rfl (by first | (simp only [look_lay, look, seval] <;> rfl) | fail) rfl; apply aops_as (t := 23) (d := 7) (ag_n rfl) rfl rfl (by first | (simp only [look_lay, look, seval] <;> rfl) | fail) rfl; apply aops_end; rfl) (by (simp (disch := omega) only [go_sem, seval, lay, nws]); rfl) ?_
      refine AWP.rT gok [5, 17, 18, 19] (by apply aops_mv (t := 5) (d := 24) (ag_n rfl) rfl rfl (by first | (simp only [look_lay, look, seval] <;> rfl) | fail) rfl; apply aops_mv (t := 6) (d := 25) (ag_n rfl) rfl rfl (by first | (simp only [look_lay, look, seval] <;> rfl) | fail) rfl; apply aops_mv (t := 5) (d := 26) (ag_n rfl) rfl rfl (by first | (simp only [look_lay, look, seval] <;> rfl) | fail) rfl; apply aops_mv (t := 6) (d := 27) (ag_n rfl) rfl rfl (by first | (simp only [look_lay, look, seval] <;> rfl) | fail) rfl; apply aops_x (d := 28) (ag_n rfl) rfl (by (simp (disch := first | decide | omega) only [if_pos, nws, ha, hb, hab, hx, hsl, go_sem, seval] <;> rfl)) rfl; apply aops_x (d := 29) (ag_n rfl) rfl (by first | (simp (disch := decide) only [ha, hb, hab, hx, hsl, go_sem, seval] <;> rfl) | (simp (disch := first | decide | omega) only [if_pos, nws, ha, hb, hab, hx, hsl, go_sem, seval] <;> rfl)) rfl; apply aops_mv (t := 7) (d := 30) (ag_n rfl) rfl rfl (by first | (simp only [look_lay, look, seval] <;> rfl) | fail) rfl; apply aops_x (d := 31) (ag_n rfl) rfl (by (simp (disch := first | decide | omega) only [if_pos, nws, ha, hb, hab, hx, hsl, go_sem, seval] <;> rfl)) rfl; apply aops_x (d := 32) (ag_n rfl) rfl (by (simp (disch := first | decide | omega) only [if_pos, nws, ha, hb, hab, hx, hsl, go_sem, seval] <;> rfl)) rfl; apply aops_s (ag_n rfl) rfl (by first | (simp (disch := decide) only [ha, hb, hab, hx, hsl, go_sem, seval] <;> rfl) | (simp (disch := first | decide | omega) only [if_pos, nws, ha, hb, hab, hx, hsl, go_sem, seval] <;> rfl)); apply aops_end; rfl) (by (simp (disch := omega) only [go_sem, seval, lay, nws]); rfl) ?_
      change AWP _ _ _ _ _
      refine AWP.rT gok [5, 17, 18, 19] (by apply aops_x (d := 33) (ag_n rfl) rfl (by first | (simp (disch := decide) only [ha, hb, hab, go_sem, seval] <;> rfl) | (simp (disch := first | decide | omega) only [if_pos, nws, ha, hb, hab, go_sem, seval] <;> rfl)) rfl; apply aops_mv (t := 33) (d := 19) (ag_n rfl) rfl rfl (by first | (simp only [look_lay, look, seval] <;> rfl) | fail) rfl; apply aops_end; rfl) (by (simp (disch := omega) only [go_sem, seval, lay, nws]); rfl) ?_
      exact ⟨i + 1, Ghost.of_eq (by simp only [sealN, hx, hy, Option.getD_some, Int.natCast_add, Int.cast_ofNat_Int] <;> rfl), by omega, by omega⟩
    · skip
      refine AWP.exit ?_
      change AWP _ _ _ _ _
      have hsl := sealN_len b a i
      refine AWP.sR gok [4] (by apply aops_mv (t := 5) (d := 34) (ag_n rfl) rfl rfl (by first | (simp only [look_lay, look, seval] <;> rfl) | fail) rfl; apply aops_x (d := 35) (ag_n rfl) rfl (by (simp (disch := first | decide | omega) only [if_pos, nws, ha, hb, hab, hsl, go_sem, seval] <;> rfl)) rfl; apply aops_as (t := 35) (d := 4) (ag_n rfl) rfl rfl (by first | (simp only [look_lay, look, seval] <;> rfl) | fail) rfl; apply aops_end; rfl) (by (simp (disch := omega) only [go_sem, seval, lay, nws]); rfl) ?_
      refine AWP.ret ?_
      refine ⟨.inr rfl, _, (by simp only [go_sem, seval, ha, hb, hab] <;> rfl), ?_⟩
      simp only [go_sem, seval, ha, hb, hab, Option.some.injEq, AV.c.injEq, AV.agg.injEq, CV.v.injEq, Value.int.injEq, Value.bool.injEq, Row.raw.injEq, List.cons.injEq, CV.sl.injEq, and_true, true_and, and_self]
      have ei : i = a.length := by omega
      subst ei
      have e : addP a b = trimF (sealN b a a.length) := by unfold addP; rw [if_pos (by omega)]
      rw [e]; exact ⟨rfl, rfl⟩
  · skip
    have gok := (Gam.cons_ok E21_ok (Gam.cons_ok E41_ok (Gam.cons_ok E42_ok (Gam.nil_ok _))))
    refine callOk' Try.func37 36 [.tmp 4] _ rfl rfl rfl (by kernel_rfl) (by simp) [1] rfl rfl (by simp) ?_
    simp only [params]
    refine AWP.sR gok [0, 1] (by apply aops_x (d := 4) (ag_n rfl) rfl (by first | (simp (disch := decide) only [ha, hb, hab, go_sem, seval] <;> rfl) | (simp (disch := first | decide | omega) only [if_pos, nws, ha, hb, hab, go_sem, seval] <;> rfl)) rfl; apply aops_end; rfl) (by (simp (disch := omega) only [go_sem, seval, lay, nws]); rfl) ?_
    refine AWP.seq ?_
    refine AWP.sR gok [0, 1, 12] (by apply aops_mv (t := 0) (d := 8) (ag_n rfl) rfl rfl (by first | (simp only [look_lay, look, seval] <;> rfl) | fail) rfl; apply aops_x (d := 9) (ag_n rfl) rfl (by first | (simp (disch := decide) only [ha, hb, hab, go_sem, seval] <;> rfl) | (simp (disch := first | decide | omega) only [if_pos, nws, ha, hb, hab, go_sem, seval] <;> rfl)) rfl; apply aops_mv (t := 1) (d := 10) (ag_n rfl) rfl rfl (by first | (simp only [look_lay, look, seval] <;> rfl) | fail) rfl; apply aops_x (d := 11) (ag_n rfl) rfl (by first | (simp (disch := decide) only [ha, hb, hab, go_sem, seval] <;> rfl) | (simp (disch := first | decide | omega) only [if_pos, nws, ha, hb, hab, go_sem, seval] <;> rfl)) rfl; apply aops_x (d := 12) (ag_n rfl) rfl (by first | (simp (disch := decide) only [ha, hb, hab, go_sem, seval] <;> rfl) | (simp (disch := first | decide | omega) only [if_pos, nws, ha, hb, hab, go_sem, seval] <;> rfl)) rfl; apply aops_end; rfl) (by (simp (disch := omega) only [go_sem, seval, lay, nws]); rfl) ?_
    refine AWP.condF (b := _) rfl (by first | rfl | (simp only [decide_eq_true_eq, decide_eq_false_iff_not]; omega)) ?_
    refine AWP.skip ?_
    change AWP _ _ _ _ _
    refine AWP.sR gok [1, 5] (by apply aops_mv (t := 0) (d := 15) (ag_n rfl) rfl rfl (by first | (simp only [look_lay, look, seval] <;> rfl) | fail) rfl; apply aops_x (d := 16) (ag_n rfl) rfl (by (simp (disch := first | decide | omega) only [if_pos, nws, ha, hb, hab, go_sem, seval] <;> rfl)) rfl; apply aops_as (t := 16) (d := 5) (ag_n rfl) rfl rfl (by first | (simp only [look_lay, look, seval] <;> rfl) | fail) rfl; apply aops_end; rfl) (by (simp (disch := omega) only [go_sem, seval, lay, nws]); rfl) ?_
    refine AWP.seq ?_
    refine AWP.sR gok [5, 17, 18, 19] (by apply aops_mv (t := 1) (d := 17) (ag_n rfl) rfl rfl (by first | (simp only [look_lay, look, seval] <;> rfl) | fail) rfl; apply aops_x (d := 18) (ag_n rfl) rfl (by first | (simp (disch := decide) only [ha, hb, hab, go_sem, seval] <;> rfl) | (simp (disch := first | decide | omega) only [if_pos, nws, ha, hb, hab, go_sem, seval] <;> rfl)) rfl; apply aops_x (d := 19) (ag_n rfl) rfl (by first | (simp (disch := decide) only [ha, hb, hab, go_sem, seval] <;> rfl) | (simp (disch := first | decide | omega) only [if_pos, nws, ha, hb, hab, go_sem, seval] <;> rfl)) rfl; apply aops_end; rfl) (by (simp (disch := omega) only [go_sem, seval, lay, nws]); rfl) ?_
    refine AWP.block ?_
    refine AWP.loopP (fun (p : Nat) => ⟨36, [(5, .c (.sl 0 0 a.length 1)), (17, .c (.rs (.i .u8) b)), (18, .c (ci .i64 (b.length : Int))), (19, .c (ci .i64 (p : Int)))], [some (.ty (.i .u8) (sealN a b p))]⟩) (fun p => p ≤ b.length) (fun p => b.length - p) 0 (Ghost.refl _ _) (Nat.zero_le _) ?_
    rintro i hi
    refine AWP.sR gok [5, 17, 18, 19, 20] (by apply aops_x (d := 20) (ag_n rfl) rfl (by first | (simp (disch := decide) only [ha, hb, hab, go_sem, seval] <;> rfl) | (simp (disch := first | decide | omega) only [if_pos, nws, ha, hb, hab, go_sem, seval] <;> rfl)) rfl; apply aops_end; rfl) (by (simp (disch := omega) only [go_sem, seval, lay, nws]); rfl) ?_
    refine AWP.seq ?_
    refine AWP.cond (b := _) rfl (fun h => ?_) (fun h => ?_) <;> (try simp only [decide_eq_true_eq, decide_eq_false_iff_not] at h)
    · skip
      refine AWP.skip ?_
      change AWP _ _ _ _ _
      refine AWP.seqBlock ?_
      have hi' : i < b.length := by omega
      obtain ⟨y, hy⟩ : ∃ y, b[i]? = some y := ⟨_, List.getElem?_eq_getElem hi'⟩
      obtain ⟨x, hx⟩ : ∃ x, (sealN a b i)[i]? = some x := ⟨_, List.getElem?_eq_getElem (by rw [sealN_len]; omega)⟩
      have hsl := sealN_len a b i
      have hil : i < (sealN a b i).length := by omega
      refine AWP.sR gok [5, 6, 7, 17, 18, 19] (by apply aops_mv (t := 19) (d := 21) (ag_n rfl) rfl rfl (by first | (simp only [look_lay, look, seval] <;> rfl) | fail) rfl; apply aops_x (d := 22) (ag_n rfl) rfl (by (simp (disch := first | decide | omega) only [if_pos, nws, ha, hb, hab, hy, go_sem, seval] <;> rfl)) rfl; apply aops_x (d := 23) (ag_n rfl) rfl (by first | (simp (disch := decide) only [ha, hb, hab, hy, go_sem, seval] <;> rfl) | (simp (disch := first | decide | omega) only [if_pos, nws, ha, hb, hab, hy, go_sem, seval] <;> rfl)) rfl; apply aops_as (t := 21) (d := 6) (ag_n rfl) rfl rfl (by first | (simp only [look_lay, look, seval] <;> rfl) | fail) rfl; apply aops_as (t := 23) (d := 7) (ag_n rfl) rfl rfl (by first | (simp only [look_lay, look, seval] <;> rfl) | fail) rfl; apply aops_end; rfl) (by (simp (disch := omega) only [go_sem, seval, lay, nws]); rfl) ?_
      refine AWP.rT gok [5, 17, 18, 19] (by apply aops_mv (t := 5) (d := 24) (ag_n rfl) rfl rfl (by first | (simp only [look_lay, look, seval] <;> rfl) | fail) rfl; apply aops_mv (t := 6) (d := 25) (ag_n rfl) rfl rfl (by first | (simp only [look_lay, look, seval] <;> rfl) | fail) rfl; apply aops_mv (t := 5) (d := 26) (ag_n rfl) rfl rfl (by first | (simp only [look_lay, look, seval] <;> rfl) | fail) rfl; apply aops_mv (t := 6) (d := 27) (ag_n rfl) rfl rfl (by first | (simp only [look_lay, look, seval] <;> rfl) | fail) rfl; apply aops_x (d := 28) (ag_n rfl) rfl (by (simp (disch := first | decide | omega) only [if_pos, nws, ha, hb, hab, hx, hsl, go_sem, seval] <;> rfl)) rfl; apply aops_x (d := 29) (ag_n rfl) rfl (by first | (simp (disch := decide) only [ha, hb, hab, hx, hsl, go_sem, seval] <;> rfl) | (simp (disch := first | decide | omega) only [if_pos, nws, ha, hb, hab, hx, hsl, go_sem, seval] <;> rfl)) rfl; apply aops_mv (t := 7) (d := 30) (ag_n rfl) rfl rfl (by first | (simp only [look_lay, look, seval] <;> rfl) | fail) rfl; apply aops_x (d := 31) (ag_n rfl) rfl (by (simp (disch := first | decide | omega) only [if_pos, nws, ha, hb, hab, hx, hsl, go_sem, seval] <;> rfl)) rfl; apply aops_x (d := 32) (ag_n rfl) rfl (by (simp (disch := first | decide | omega) only [if_pos, nws, ha, hb, hab, hx, hsl, go_sem, seval] <;> rfl)) rfl; apply aops_s (ag_n rfl) rfl (by first | (simp (disch := decide) only [ha, hb, hab, hx, hsl, go_sem, seval] <;> rfl) | (simp (disch := first | decide | omega) only [if_pos, nws, ha, hb, hab, hx, hsl, go_sem, seval] <;> rfl)); apply aops_end; rfl) (by (simp (disch := omega) only [go_sem, seval, lay, nws]); rfl) ?_
      change AWP _ _ _ _ _
      refine AWP.rT gok [5, 17, 18, 19] (by apply aops_x (d := 33) (ag_n rfl) rfl (by first | (simp (disch := decide) only [ha, hb, hab, go_sem, seval] <;> rfl) | (simp (disch := first | decide | omega) only [if_pos, nws, ha, hb, hab, go_sem, seval] <;> rfl)) rfl; apply aops_mv (t := 33) (d := 19) (ag_n rfl) rfl rfl (by first | (simp only [look_lay, look, seval] <;> rfl) | fail) rfl; apply aops_end; rfl) (by (simp (disch := omega) only [go_sem, seval, lay, nws]); rfl) ?_
      exact ⟨i + 1, Ghost.of_eq (by simp only [sealN, hx, hy, Option.getD_some, Int.natCast_add, Int.cast_ofNat_Int] <;> rfl), by omega, by omega⟩
    · skip
      refine AWP.exit ?_
      change AWP _ _ _ _ _
      have hsl := sealN_len a b i
      refine AWP.sR gok [4] (by apply aops_mv (t := 5) (d := 34) (ag_n rfl) rfl rfl (by first | (simp only [look_lay, look, seval] <;> rfl) | fail) rfl; apply aops_x (d := 35) (ag_n rfl) rfl (by (simp (disch := first | decide | omega) only [if_pos, nws, ha, hb, hab, hsl, go_sem, seval] <;> rfl)) rfl; apply aops_as (t := 35) (d := 4) (ag_n rfl) rfl rfl (by first | (simp only [look_lay, look, seval] <;> rfl) | fail) rfl; apply aops_end; rfl) (by (simp (disch := omega) only [go_sem, seval, lay, nws]); rfl) ?_
      refine AWP.ret ?_
      refine ⟨.inr rfl, _, (by simp only [go_sem, seval, ha, hb, hab] <;> rfl), ?_⟩
      simp only [go_sem, seval, ha, hb, hab, Option.some.injEq, AV.c.injEq, AV.agg.injEq, CV.v.injEq, Value.int.injEq, Value.bool.injEq, Row.raw.injEq, List.cons.injEq, CV.sl.injEq, and_true, true_and, and_self]
      have ei : i = b.length := by omega
      subst ei
      have e : addP a b = trimF (sealN a b b.length) := by unfold addP; rw [if_neg (by omega)]
      rw [e]; exact ⟨rfl, rfl⟩
theorem E37_ok : EntryOk Try.prog 37 E37 := pureN_ok (fun d hc => K37 d.1 d.2.1 hc) (fun _ => rfl) (fun _ => rfl)
attribute [go_sem] E37 c37 r37 L37
def mulStep (x : Int) (b : List Int) (i : Nat) (out : List Int) : Nat → List Int
  | 0 => out
  | n + 1 => (mulStep x b i out n).set (i + n) (bx ((mulStep x b i out n)[i + n]?.getD 0) (mulT x (b[n]?.getD 0)))
theorem mulStep_len (x : Int) (b : List Int) (i : Nat) (out : List Int) : ∀ n, (mulStep x b i out n).length = out.length
  | 0 => rfl
  | n + 1 => by rw [mulStep, List.length_set, mulStep_len x b i out n]
def mulM (a b : List Int) : Nat → List Int
  | 0 => List.replicate (a.length + b.length) 0
  | i + 1 => mulStep (a[i]?.getD 0) b i (mulM a b i) b.length
theorem mulM_len (a b : List Int) : ∀ i, (mulM a b i).length = a.length + b.length
  | 0 => by simp [mulM]
  | i + 1 => by rw [mulM, mulStep_len, mulM_len a b i]
def mulP (a b : List Int) : List Int := trimF (mulM a b a.length)
set_option maxRecDepth 100000 in
set_option maxHeartbeats 4000000 in
theorem pmul_c (a b : List Int) (ha : bytesOk a) (hb : bytesOk b) (la : a.length ≤ 1000000) (lb : b.length ≤ 1000000) (lb0 : 0 < b.length) : CallOk Try.prog 38 [.c (.ptr 0 0 1 0), .c (.rs (.i .u8) a), .c (.rs (.i .u8) b)] [some (.ty FT [Tab])] (.c (.sl 1 0 (mulP a b).length 1)) [some (.ty FT [Tab]), some (.ty (.i .u8) (mulP a b))] := by
  have hs : (a.length : Int) + (b.length : Int) = ((a.length + b.length : Nat) : Int) := by omega
  have hs0 : 0 < a.length + b.length := by omega
  have gok := (Gam.cons_ok E21_ok (Gam.cons_ok E22_ok (Gam.cons_ok E42_ok (Gam.nil_ok _))))
  refine callOk' Try.func38 52 [.tmp 6] _ rfl rfl rfl (by kernel_rfl) (by simp) [0, 2] rfl rfl (by simp) ?_
  simp only [params]
  refine AWP.sR gok [0, 1, 2] (by apply aops_x (d := 6) (ag_n rfl) rfl (by first | (simp (disch := decide) only [hs, hs0, go_sem, seval] <;> rfl) | (simp (disch := first | decide | omega) only [if_pos, nws, hs, hs0, go_sem, seval] <;> rfl)) rfl; apply aops_end; rfl) (by (simp (disch := omega) only [go_sem, seval, lay, nws]); rfl) ?_
  refine AWP.sR gok [0, 1, 2, 7] (by apply aops_mv (t := 1) (d := 10) (ag_n rfl) rfl rfl (by first | (simp only [look_lay, look, seval] <;> rfl) | fail) rfl; apply aops_x (d := 11) (ag_n rfl) rfl (by first | (simp (disch := decide) only [hs, hs0, go_sem, seval] <;> rfl) | (simp (disch := first | decide | omega) only [if_pos, nws, hs, hs0, go_sem, seval] <;> rfl)) rfl; apply aops_mv (t := 2) (d := 12) (ag_n rfl) rfl rfl (by first | (simp only [look_lay, look, seval] <;> rfl) | fail) rfl; apply aops_x (d := 13) (ag_n rfl) rfl (by first | (simp (disch := decide) only [hs, hs0, go_sem, seval] <;> rfl) | (simp (disch := first | decide | omega) only [if_pos, nws, hs, hs0, go_sem, seval] <;> rfl)) rfl; apply aops_x (d := 14) (ag_n rfl) rfl (by first | (simp (disch := decide) only [hs, hs0, go_sem, seval] <;> rfl) | (simp (disch := first | decide | omega) only [if_pos, nws, hs, hs0, go_sem, seval] <;> rfl)) rfl; apply aops_x (d := 15) (ag_n rfl) rfl (by (simp (disch := first | decide | omega) only [if_pos, nws, hs, hs0, go_sem, seval] <;> rfl)) rfl; apply aops_as (t := 15) (d := 7) (ag_n rfl) rfl rfl (by first | (simp only [look_lay, look, seval] <;> rfl) | fail) rfl; apply aops_end; rfl) (by (simp (disch := omega) only [go_sem, seval, lay, nws]); rfl) ?_
  refine AWP.seq ?_
  refine AWP.sR gok [0, 1, 2, 7, 17, 18] (by apply aops_mv (t := 1) (d := 16) (ag_n rfl) rfl rfl (by first | (simp only [look_lay, look, seval] <;> rfl) | fail) rfl; apply aops_x (d := 17) (ag_n rfl) rfl (by first | (simp (disch := decide) only [hs, hs0, go_sem, seval] <;> rfl) | (simp (disch := first | decide | omega) only [if_pos, nws, hs, hs0, go_sem, seval] <;> rfl)) rfl; apply aops_x (d := 18) (ag_n rfl) rfl (by first | (simp (disch := decide) only [hs, hs0, go_sem, seval] <;> rfl) | (simp (disch := first | decide | omega) only [if_pos, nws, hs, hs0, go_sem, seval] <;> rfl)) rfl; apply aops_end; rfl) (by (simp (disch := omega) only [go_sem, seval, lay, nws]); rfl) ?_
  refine AWP.block ?_
  refine AWP.loopP (fun (p : Nat) => ⟨52, [(0, .c (.ptr 0 0 1 0)), (1, .c (.rs (.i .u8) a)), (2, .c (.rs (.i .u8) b)), (7, .c (.sl 1 0 (a.length + b.length) 1)), (17, .c (ci .i64 (a.length : Int))), (18, .c (ci .i64 (p : Int)))], [some (.ty FT [Tab]), some (.ty (.i .u8) (mulM a b p))]⟩) (fun p => p ≤ a.length) (fun p => a.length - p) 0 (Ghost.refl _ _) (Nat.zero_le _) ?_
  rintro i hi
  refine AWP.sR gok [0, 1, 2, 7, 17, 18, 19] (by apply aops_x (d := 19) (ag_n rfl) rfl (by first | (simp (disch := decide) only [hs, hs0, go_sem, seval] <;> rfl) | (simp (disch := first | decide | omega) only [if_pos, nws, hs, hs0, go_sem, seval] <;> rfl)) rfl; apply aops_end; rfl) (by (simp (disch := omega) only [go_sem, seval, lay, nws]); rfl) ?_
  refine AWP.seq ?_
  refine AWP.cond (b := _) rfl (fun h => ?_) (fun h => ?_) <;> (try simp only [decide_eq_true_eq, decide_eq_false_iff_not] at h)
  · skip
    refine AWP.skip ?_
    change AWP _ _ _ _ _
    refine AWP.seqBlock ?_
    obtain ⟨x, hx⟩ : ∃ x, a[i]? = some x := ⟨_, List.getElem?_eq_getElem (by omega)⟩
    have hxo : byteOk x := ha x (List.mem_of_getElem? hx)
    have hil : i < a.length := by omega
    refine AWP.sR gok [0, 1, 2, 7, 8, 17, 18] (by apply aops_mv (t := 18) (d := 20) (ag_n rfl) rfl rfl (by first | (simp only [look_lay, look, seval] <;> rfl) | fail) rfl; apply aops_as (t := 20) (d := 8) (ag_n rfl) rfl rfl (by first | (simp only [look_lay, look, seval] <;> rfl) | fail) rfl; apply aops_end; rfl) (by (simp (disch := omega) only [go_sem, seval, lay, nws]); rfl) ?_
    refine AWP.sR gok [0, 1, 2, 7, 8, 17, 18, 22, 23] (by apply aops_mv (t := 2) (d := 21) (ag_n rfl) rfl rfl (by first | (simp only [look_lay, look, seval] <;> rfl) | fail) rfl; apply aops_x (d := 22) (ag_n rfl) rfl (by first | (simp (disch := decide) only [hs, hs0, go_sem, seval] <;> rfl) | (simp (disch := first | decide | omega) only [if_pos, nws, hs, hs0, go_sem, seval] <;> rfl)) rfl; apply aops_x (d := 23) (ag_n rfl) rfl (by first | (simp (disch := decide) only [hs, hs0, go_sem, seval] <;> rfl) | (simp (disch := first | decide | omega) only [if_pos, nws, hs, hs0, go_sem, seval] <;> rfl)) rfl; apply aops_end; rfl) (by (simp (disch := omega) only [go_sem, seval, lay, nws]); rfl) ?_
    refine AWP.block ?_
    refine AWP.loopP (fun (p : Nat) => ⟨52, [(0, .c (.ptr 0 0 1 0)), (1, .c (.rs (.i .u8) a)), (2, .c (.rs (.i .u8) b)), (7, .c (.sl 1 0 (a.length + b.length) 1)), (8, .c (ci .i64 (i : Int))), (17, .c (ci .i64 (a.length : Int))), (18, .c (ci .i64 (i : Int))), (22, .c (ci .i64 (b.length : Int))), (23, .c (ci .i64 (p : Int)))], [some (.ty FT [Tab]), some (.ty (.i .u8) (mulStep x b i (mulM a b i) p))]⟩) (fun p => p ≤ b.length) (fun p => b.length - p) 0 (Ghost.refl _ _) (Nat.zero_le _) ?_
    rintro j hj
    refine AWP.sR gok [0, 1, 2, 7, 8, 17, 18, 22, 23, 24] (by apply aops_x (d := 24) (ag_n rfl) rfl (by first | (simp (disch := decide) only [hs, hs0, go_sem, seval] <;> rfl) | (simp (disch := first | decide | omega) only [if_pos, nws, hs, hs0, go_sem, seval] <;> rfl)) rfl; apply aops_end; rfl) (by (simp (disch := omega) only [go_sem, seval, lay, nws]); rfl) ?_
    refine AWP.seq ?_
    refine AWP.cond (b := _) rfl (fun h => ?_) (fun h => ?_) <;> (try simp only [decide_eq_true_eq, decide_eq_false_iff_not] at h)
    · skip
      refine AWP.skip ?_
      change AWP _ _ _ _ _
      refine AWP.seqBlock ?_
      refine AWP.sR gok [0, 1, 2, 7, 8, 9, 17, 18, 22, 23] (by apply aops_mv (t := 23) (d := 25) (ag_n rfl) rfl rfl (by first | (simp only [look_lay, look, seval] <;> rfl) | fail) rfl; apply aops_as (t := 25) (d := 9) (ag_n rfl) rfl rfl (by first | (simp only [look_lay, look, seval] <;> rfl) | fail) rfl; apply aops_end; rfl) (by (simp (disch := omega) only [go_sem, seval, lay, nws]); rfl) ?_
      obtain ⟨y, hy⟩ : ∃ y, b[j]? = some y := ⟨_, List.getElem?_eq_getElem (by omega)⟩
      have hyo : byteOk y := hb y (List.mem_of_getElem? hy)
      have hjl : j < b.length := by omega
      have hsl : (mulStep x b i (mulM a b i) j).length = a.length + b.length := by rw [mulStep_len, mulM_len]
      obtain ⟨v, hv⟩ : ∃ v, (mulStep x b i (mulM a b i) j)[i + j]? = some v := ⟨_, List.getElem?_eq_getElem (by omega)⟩
      have eij : (i : Int) + (j : Int) = ((i + j : Nat) : Int) := by omega
      have hijl : i + j < a.length + b.length := by omega
      refine AWP.dT gok (by kernel_rfl) [0, 1, 2, 7, 8, 17, 18, 22, 23] [⟨[], true, 0⟩, ⟨[], true, 0⟩, ⟨[], true, 0⟩, ⟨[], true, 0⟩, ⟨[], true, 0⟩, ⟨[], true, 0⟩, ⟨[], true, 0⟩, ⟨[], true, 0⟩, ⟨[], true, 0⟩, ⟨[1], true, 0⟩, ⟨[], true, 0⟩, ⟨[], true, 0⟩, ⟨[], true, 0⟩, ⟨[], true, 0⟩, ⟨[], true, 0⟩, ⟨[], true, 0⟩, ⟨[], true, 0⟩, ⟨[], true, 0⟩, ⟨[], true, 0⟩, ⟨[0], true, 0⟩, ⟨[], true, 0⟩, ⟨[], true, 0⟩, ⟨[1], false, 0⟩] (by kernel_rfl) (by first | rfl | simp only [go_sem, ↓reduceIte, Nat.reduceLT, Nat.reduceAdd]) (by first | rfl | simp only [go_sem, ↓reduceIte, Nat.reduceLT, Nat.reduceAdd]) (by (repeat (first | apply arun_step (by first | exact ag_n rfl | exact ag_b rfl rfl rfl (by first | (simp only [look_lay, look, seval] <;> rfl) | fail) (by first | rfl | (simp only [hs, hs0, eij, hx, hy, hv, hsl, hxo, hyo, hijl, decide_true, decide_false] <;> rfl) | fail) | fail) (by first | (simp (disch := decide) only [hs, hs0, eij, hx, hy, hv, hsl, hxo, hyo, hijl, go_sem, seval]; rfl) | (simp (disch := first | decide | omega) only [if_pos, nws, hs, hs0, eij, hx, hy, hv, hsl, hxo, hyo, hijl, go_sem, seval]; rfl)) (by first | (intro h; cases h; done) | (intro _; rfl) | (intro _; simp only [go_sem, seval, lay])) (by first | rfl | simp only [go_sem, seval, lay]) (by first | rfl | simp only [go_sem, seval, lay]) (by first | rfl | simp only [go_sem, seval, lay]) (by simp only [go_sem, seval, lay]; rfl) | apply arun_pass (by first | exact ag_f rfl rfl rfl (by first | (simp only [look_lay, look, seval] <;> rfl) | fail) (by first | rfl | (simp only [hs, hs0, eij, hx, hy, hv, hsl, hxo, hyo, hijl, decide_true, decide_false] <;> rfl) | fail) | exact ag_u rfl rfl rfl (by first | (simp only [look_lay, look, seval] <;> rfl) | fail) | fail) rfl (by simp only [go_sem, seval, lay]; rfl))); exact rfl) (by (simp (disch := omega) only [go_sem, seval, lay, nws]); rfl) ?_
      change AWP _ _ _ _ _
      refine AWP.rT gok [0, 1, 2, 7, 8, 17, 18, 22, 23] (by apply aops_x (d := 48) (ag_n rfl) rfl (by first | (simp (disch := decide) only [hs, hs0, go_sem, seval] <;> rfl) | (simp (disch := first | decide | omega) only [if_pos, nws, hs, hs0, go_sem, seval] <;> rfl)) rfl; apply aops_mv (t := 48) (d := 23) (ag_n rfl) rfl rfl (by first | (simp only [look_lay, look, seval] <;> rfl) | fail) rfl; apply aops_end; rfl) (by (simp (disch := omega) only [go_sem, seval, lay, nws]); rfl) ?_
      exact ⟨j + 1, Ghost.of_eq (by simp only [mulStep, hv, hy, Option.getD_some, Int.natCast_add, Int.cast_ofNat_Int] <;> rfl), by omega, by omega⟩
    · skip
      refine AWP.exit ?_
      change AWP _ _ _ _ _
      refine AWP.rT gok [0, 1, 2, 7, 17, 18] (by apply aops_x (d := 49) (ag_n rfl) rfl (by first | (simp (disch := decide) only [hs, hs0, go_sem, seval] <;> rfl) | (simp (disch := first | decide | omega) only [if_pos, nws, hs, hs0, go_sem, seval] <;> rfl)) rfl; apply aops_mv (t := 49) (d := 18) (ag_n rfl) rfl rfl (by first | (simp only [look_lay, look, seval] <;> rfl) | fail) rfl; apply aops_end; rfl) (by (simp (disch := omega) only [go_sem, seval, lay, nws]); rfl) ?_
      have ej : j = b.length := by omega
      subst ej
      exact ⟨i + 1, Ghost.of_eq (by simp only [mulM, hx, Option.getD_some, Int.natCast_add, Int.cast_ofNat_Int] <;> rfl), by omega, by omega⟩
  · skip
    refine AWP.exit ?_
    change AWP _ _ _ _ _
    have hsl := mulM_len a b i
    refine AWP.sR gok [6] (by apply aops_mv (t := 7) (d := 50) (ag_n rfl) rfl rfl (by first | (simp only [look_lay, look, seval] <;> rfl) | fail) rfl; apply aops_x (d := 51) (ag_n rfl) rfl (by (simp (disch := first | decide | omega) only [if_pos, nws, hs, hs0, hsl, go_sem, seval] <;> rfl)) rfl; apply aops_as (t := 51) (d := 6) (ag_n rfl) rfl rfl (by first | (simp only [look_lay, look, seval] <;> rfl) | fail) rfl; apply aops_end; rfl) (by (simp (disch := omega) only [go_sem, seval, lay, nws]); rfl) ?_
    refine AWP.ret ?_
    refine ⟨.inr rfl, _, (by simp only [go_sem, seval, hs, hs0] <;> rfl), ?_⟩
    simp only [go_sem, seval, hs, hs0, Option.some.injEq, AV.c.injEq, AV.agg.injEq, CV.v.injEq, Value.int.injEq, Value.bool.injEq, Row.raw.injEq, List.cons.injEq, CV.sl.injEq, and_true, true_and, and_self]
    have ei : i = a.length := by omega
    subst ei; exact ⟨rfl, rfl⟩
def E38 : Entry := withE FT [.sl (.i .u8), .sl (.i .u8)] (fun l d => l = [Tab] ∧ bytesOk d.1 ∧ bytesOk d.2.1 ∧ d.1.length ≤ 1000000 ∧ d.2.1.length ≤ 1000000 ∧ 0 < d.2.1.length) (fun l d => .c (.sl 1 0 (mulP d.1 d.2.1).length 1)) (fun _ d => [some (.ty (.i .u8) (mulP d.1 d.2.1))])
theorem E38_ok : EntryOk Try.prog 38 E38 := withE_ok rfl (fun _ _ => rfl) (fun _ _ => rfl) fun l d hc => by
  obtain ⟨rfl, h1, h2, h3, h4, h5⟩ := hc
  exact pmul_c d.1 d.2.1 h1 h2 h3 h4 h5
attribute [go_sem] E38
end Go.Proofs.Ytggomleegbnhbaa
