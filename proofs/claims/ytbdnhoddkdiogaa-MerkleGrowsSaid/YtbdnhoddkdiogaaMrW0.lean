import Derived.Test.YtbdnhoddkdiogaaMrM
import Derived.Test.YtbdnhoddkdiogaaMrV
import Derived.Test.YtbdnhoddkdiogaaMrK
import Derived.Test.YtbdnhoddkdiogaaMrX
set_option linter.unusedSimpArgs false
set_option linter.unusedVariables false
namespace Go.Proofs.Ytbdnhoddkdiogaa
open Go.RowKit
theorem cut_last2 {α : Type} (qs : List α) (a b : α) : (qs ++ [a] ++ [b])[qs.length]? = some a ∧ (qs ++ [a] ++ [b])[qs.length + 1]? = some b ∧ (qs ++ [a] ++ [b]).take qs.length = qs := by
  refine ⟨by simp, by simp, by simp⟩
set_option maxRecDepth 100000
set_option maxHeartbeats 4000000 in
theorem growWalk (ps : List (List Int)) (M : Nat) (x : List Int) (hp : digestsOk ps) (hx : bytesOk x) (hxl : x.length ≤ 1000000) (hpl : ps.length ≤ 100) (hM : M ≤ 1048576) (h3 : Ones.ones 24 M = ps.length) : CallOk Try.prog 36 [.c (.rs DT ps), .c (ci .i64 (M : Int)), .c (.rs (.i .u8) x)] []
    (.tup [.c (.sl 0 0 (growF ps M x).1.length 32), .agg (.ty (.i .u8) (growF ps M x).2)]) [some (.ty DT (growF ps M x).1)] := by
  have hwM : IntKind.u64.wrap (M : Int) = (M : Int) := wrap_u64' (by omega) (by omega)
  have hM24 : (M : Int) < 16777216 := by omega
  have h1 : ¬ (M : Int) < 0 := by omega
  have h2 : ¬ 1048576 < (M : Int) := by omega
  have h3' : (Ones.ones 24 M : Int) = (ps.length : Int) := by omega
  have gok := (Gam.cons_ok EB_ok (Gam.cons_ok E51_ok (Gam.cons_ok E53_ok (Gam.cons_ok E61_ok (Gam.cons_ok E62_ok (Gam.nil_ok _))))))
  refine callOkF Try.func36 78 rfl rfl (by kernel_rfl) (by simp) 9 fun X σ0 w0 hh0 => ?_
  simp only [params]
  refine AWF.sR gok [0, 1, 2, 7, 8, 11, 70] (by apply aops_x (d := 6) (ag_n rfl) rfl (by first | (simp (disch := decide) only [go_sem, seval] <;> rfl) | (simp (disch := first | decide | omega) only [if_pos, nws, go_sem, seval] <;> rfl)) rfl; apply aops_x (d := 7) (ag_n rfl) rfl (by first | (simp (disch := decide) only [go_sem, seval] <;> rfl) | (simp (disch := first | decide | omega) only [if_pos, nws, go_sem, seval] <;> rfl)) rfl; apply aops_end; rfl) (by (simp (disch := omega) only [go_sem, seval, lay, nws]); rfl) ?_
  refine AWF.seq ?_
  refine AWP.sR gok [0, 1, 2, 7, 8, 11, 27, 70] (by apply aops_mv (t := 1) (d := 14) (ag_n rfl) rfl rfl (by first | (simp only [look_lay, look, seval] <;> rfl) | fail) rfl; apply aops_x (d := 15) (ag_n rfl) rfl (by first | (simp (disch := decide) only [h1, h2, h3', hwM, hM24, Int.toNat_natCast, ne_eq, not_true_eq_false, decide_true, decide_false, go_sem, seval] <;> rfl) | (simp (disch := first | decide | omega) only [if_pos, nws, h1, h2, h3', hwM, hM24, Int.toNat_natCast, ne_eq, not_true_eq_false, decide_true, decide_false, go_sem, seval] <;> rfl)) rfl; apply aops_mv (t := 15) (d := 16) (ag_n rfl) rfl rfl (by first | (simp only [look_lay, look, seval] <;> rfl) | fail) rfl; (first | apply aops_mv (t := 1) (d := 17) (ag_b (j := 2) (d := 16) rfl rfl rfl (by first | (simp only [look_lay, look, seval] <;> rfl) | fail) rfl) rfl rfl (by first | (simp only [look_lay, look, seval] <;> rfl) | fail) rfl | apply aops_ps (d := 17) (by first | exact ag_f (j := 2) (d := 16) rfl rfl rfl (by first | (simp only [look_lay, look, seval] <;> rfl) | fail) rfl | exact ag_u (j := 2) (d := 16) rfl rfl rfl (by first | (simp only [look_lay, look, seval] <;> rfl) | fail) | fail) rfl rfl); (first | apply aops_x (d := 18) (ag_b (j := 2) (d := 16) rfl rfl rfl (by first | (simp only [look_lay, look, seval] <;> rfl) | fail) rfl) rfl (by first | (simp (disch := decide) only [h1, h2, h3', hwM, hM24, Int.toNat_natCast, ne_eq, not_true_eq_false, decide_true, decide_false, go_sem, seval] <;> rfl) | (simp (disch := first | decide | omega) only [if_pos, nws, h1, h2, h3', hwM, hM24, Int.toNat_natCast, ne_eq, not_true_eq_false, decide_true, decide_false, go_sem, seval] <;> rfl)) rfl | apply aops_ps (d := 18) (by first | exact ag_f (j := 2) (d := 16) rfl rfl rfl (by first | (simp only [look_lay, look, seval] <;> rfl) | fail) rfl | exact ag_u (j := 2) (d := 16) rfl rfl rfl (by first | (simp only [look_lay, look, seval] <;> rfl) | fail) | fail) rfl rfl); apply aops_x (d := 19) (ag_n rfl) rfl (by first | (simp (disch := decide) only [h1, h2, h3', hwM, hM24, Int.toNat_natCast, ne_eq, not_true_eq_false, decide_true, decide_false, go_sem, seval] <;> rfl) | (simp (disch := first | decide | omega) only [if_pos, nws, h1, h2, h3', hwM, hM24, Int.toNat_natCast, ne_eq, not_true_eq_false, decide_true, decide_false, go_sem, seval] <;> rfl)) rfl; apply aops_mv (t := 19) (d := 20) (ag_n rfl) rfl rfl (by first | (simp only [look_lay, look, seval] <;> rfl) | fail) rfl; (first | apply aops_mv (t := 1) (d := 21) (ag_b (j := 6) (d := 20) rfl rfl rfl (by first | (simp only [look_lay, look, seval] <;> rfl) | fail) rfl) rfl rfl (by first | (simp only [look_lay, look, seval] <;> rfl) | fail) rfl | apply aops_ps (d := 21) (by first | exact ag_f (j := 6) (d := 20) rfl rfl rfl (by first | (simp only [look_lay, look, seval] <;> rfl) | fail) rfl | exact ag_u (j := 6) (d := 20) rfl rfl rfl (by first | (simp only [look_lay, look, seval] <;> rfl) | fail) | fail) rfl rfl); (first | apply aops_x (d := 22) (ag_b (j := 6) (d := 20) rfl rfl rfl (by first | (simp only [look_lay, look, seval] <;> rfl) | fail) rfl) rfl (by first | (simp (disch := decide) only [h1, h2, h3', hwM, hM24, Int.toNat_natCast, ne_eq, not_true_eq_false, decide_true, decide_false, go_sem, seval] <;> rfl) | (simp (disch := first | decide | omega) only [if_pos, nws, h1, h2, h3', hwM, hM24, Int.toNat_natCast, ne_eq, not_true_eq_false, decide_true, decide_false, go_sem, seval] <;> rfl)) rfl | apply aops_ps (d := 22) (by first | exact ag_f (j := 6) (d := 20) rfl rfl rfl (by first | (simp only [look_lay, look, seval] <;> rfl) | fail) rfl | exact ag_u (j := 6) (d := 20) rfl rfl rfl (by first | (simp only [look_lay, look, seval] <;> rfl) | fail) | fail) rfl rfl); (first | apply aops_x (d := 23) (ag_b (j := 6) (d := 20) rfl rfl rfl (by first | (simp only [look_lay, look, seval] <;> rfl) | fail) rfl) rfl (by (simp (disch := first | decide | omega) only [if_pos, nws, h1, h2, h3', hwM, hM24, Int.toNat_natCast, ne_eq, not_true_eq_false, decide_true, decide_false, go_sem, seval] <;> rfl)) rfl | apply aops_ps (d := 23) (by first | exact ag_f (j := 6) (d := 20) rfl rfl rfl (by first | (simp only [look_lay, look, seval] <;> rfl) | fail) rfl | exact ag_u (j := 6) (d := 20) rfl rfl rfl (by first | (simp only [look_lay, look, seval] <;> rfl) | fail) | fail) rfl rfl); (first | apply aops_mv (t := 0) (d := 24) (ag_b (j := 6) (d := 20) rfl rfl rfl (by first | (simp only [look_lay, look, seval] <;> rfl) | fail) rfl) rfl rfl (by first | (simp only [look_lay, look, seval] <;> rfl) | fail) rfl | apply aops_ps (d := 24) (by first | exact ag_f (j := 6) (d := 20) rfl rfl rfl (by first | (simp only [look_lay, look, seval] <;> rfl) | fail) rfl | exact ag_u (j := 6) (d := 20) rfl rfl rfl (by first | (simp only [look_lay, look, seval] <;> rfl) | fail) | fail) rfl rfl); (first | apply aops_x (d := 25) (ag_b (j := 6) (d := 20) rfl rfl rfl (by first | (simp only [look_lay, look, seval] <;> rfl) | fail) rfl) rfl (by first | (simp (disch := decide) only [h1, h2, h3', hwM, hM24, Int.toNat_natCast, ne_eq, not_true_eq_false, decide_true, decide_false, go_sem, seval] <;> rfl) | (simp (disch := first | decide | omega) only [if_pos, nws, h1, h2, h3', hwM, hM24, Int.toNat_natCast, ne_eq, not_true_eq_false, decide_true, decide_false, go_sem, seval] <;> rfl)) rfl | apply aops_ps (d := 25) (by first | exact ag_f (j := 6) (d := 20) rfl rfl rfl (by first | (simp only [look_lay, look, seval] <;> rfl) | fail) rfl | exact ag_u (j := 6) (d := 20) rfl rfl rfl (by first | (simp only [look_lay, look, seval] <;> rfl) | fail) | fail) rfl rfl); (first | apply aops_x (d := 26) (ag_b (j := 6) (d := 20) rfl rfl rfl (by first | (simp only [look_lay, look, seval] <;> rfl) | fail) rfl) rfl (by first | (simp (disch := decide) only [h1, h2, h3', hwM, hM24, Int.toNat_natCast, ne_eq, not_true_eq_false, decide_true, decide_false, go_sem, seval] <;> rfl) | (simp (disch := first | decide | omega) only [if_pos, nws, h1, h2, h3', hwM, hM24, Int.toNat_natCast, ne_eq, not_true_eq_false, decide_true, decide_false, go_sem, seval] <;> rfl)) rfl | apply aops_ps (d := 26) (by first | exact ag_f (j := 6) (d := 20) rfl rfl rfl (by first | (simp only [look_lay, look, seval] <;> rfl) | fail) rfl | exact ag_u (j := 6) (d := 20) rfl rfl rfl (by first | (simp only [look_lay, look, seval] <;> rfl) | fail) | fail) rfl rfl); apply aops_x (d := 27) (ag_n rfl) rfl (by first | (simp (disch := decide) only [h1, h2, h3', hwM, hM24, Int.toNat_natCast, ne_eq, not_true_eq_false, decide_true, decide_false, go_sem, seval] <;> rfl) | (simp (disch := first | decide | omega) only [if_pos, nws, h1, h2, h3', hwM, hM24, Int.toNat_natCast, ne_eq, not_true_eq_false, decide_true, decide_false, go_sem, seval] <;> rfl)) rfl; apply aops_end; rfl) (by (simp (disch := omega) only [go_sem, seval, lay, nws]); rfl) ?_
  refine AWP.condF (b := _) rfl (by first | rfl | simp) ?_
  refine AWP.skip ?_
  change AWF _ _ _ _ _ _ _ _ _
  refine AWF.sR gok [1, 7, 8, 11, 70] (by apply aops_mv (t := 0) (d := 29) (ag_n rfl) rfl rfl (by first | (simp only [look_lay, look, seval] <;> rfl) | fail) rfl; apply aops_x (d := 30) (ag_n rfl) rfl (by (simp (disch := first | decide | omega) only [if_pos, nws, hx, hxl, leafF_len, go_sem, seval] <;> rfl)) rfl; apply aops_mv (t := 2) (d := 31) (ag_n rfl) rfl rfl (by first | (simp only [look_lay, look, seval] <;> rfl) | fail) rfl; apply aops_x (d := 32) (ag_n rfl) rfl (by (simp (disch := first | decide | omega) only [if_pos, nws, hx, hxl, leafF_len, go_sem, seval] <;> rfl)) rfl; apply aops_x (d := 33) (ag_n rfl) rfl (by (simp (disch := first | decide | omega) only [if_pos, nws, hx, hxl, leafF_len, go_sem, seval] <;> rfl)) rfl; apply aops_x (d := 34) (ag_n rfl) rfl (by (simp (disch := first | decide | omega) only [if_pos, nws, hx, hxl, leafF_len, go_sem, seval] <;> rfl)) rfl; apply aops_as (t := 34) (d := 8) (ag_n rfl) rfl rfl (by first | (simp only [look_lay, look, seval] <;> rfl) | fail) rfl; apply aops_end; rfl) (by (simp (disch := omega) only [go_sem, seval, lay, nws]); rfl) ?_
  refine AWF.seq ?_
  refine AWP.sR gok [7, 8, 9, 11, 70] (by apply aops_mv (t := 1) (d := 35) (ag_n rfl) rfl rfl (by first | (simp only [look_lay, look, seval] <;> rfl) | fail) rfl; apply aops_as (t := 35) (d := 9) (ag_n rfl) rfl rfl (by first | (simp only [look_lay, look, seval] <;> rfl) | fail) rfl; apply aops_end; rfl) (by (simp (disch := omega) only [go_sem, seval, lay, nws]); rfl) ?_
  refine AWP.block ?_
  refine AWP.loopP (fun (p : List (List Int) × List Int × Nat × Nat) => ⟨78, [(7, .c (.ptr 0 0 1 0)), (8, .c (.sl 1 0 (p.1.length + 1) 32)), (9, .c (ci .i64 (p.2.2.1 : Int)))], [some (.ty (.i .u8) zd), some (.ty DT (p.1 ++ [p.2.1]))]⟩) (fun p => (digestsOk p.1 ∧ digestOk p.2.1 ∧ p.1.length ≤ 100) ∧ (p.2.2.1 ≤ 1048576 ∧ p.2.2.1 ≤ p.2.2.2 ∧ Ones.ones 24 p.2.2.1 ≤ p.1.length) ∧ Grow.grow bothF (dg []) p.2.2.2 p.1 p.2.2.1 p.2.1 = Grow.grow bothF (dg []) M ps M (leafF x)) (fun p => p.2.2.1) (ps, leafF x, M, M) (Ghost.trans (Ghost.gc (ρ := [0, 3]) (by simp only [go_sem, seval] <;> rfl) rfl rfl rfl) (Ghost.of_eq (by first | rfl | (simp only [List.length_append, List.length_cons, List.length_nil, Nat.zero_add] <;> rfl)))) ⟨⟨hp, ⟨dg_ok _, leafF_len _⟩, hpl⟩, ⟨hM, Nat.le_refl _, Nat.le_of_eq h3⟩, rfl⟩ ?_
  rintro ⟨qs, d, n, f⟩ ⟨⟨i1, i2, i3⟩, ⟨i4, i5, i6⟩, i7⟩
  simp only at i1 i2 i3 i4 i5 i6 i7 ⊢
  refine AWP.seq ?_
  refine AWP.sR gok [7, 8, 9, 11, 38, 70] (by apply aops_mv (t := 9) (d := 36) (ag_n rfl) rfl rfl (by first | (simp only [look_lay, look, seval] <;> rfl) | fail) rfl; apply aops_x (d := 37) (ag_n rfl) rfl (by (simp (disch := first | decide | omega) only [if_pos, nws, go_sem, seval] <;> rfl)) rfl; apply aops_x (d := 38) (ag_n rfl) rfl (by first | (simp (disch := decide) only [go_sem, seval] <;> rfl) | (simp (disch := first | decide | omega) only [if_pos, nws, go_sem, seval] <;> rfl)) rfl; apply aops_end; rfl) (by (simp (disch := omega) only [go_sem, seval, lay, nws]); rfl) ?_
  refine AWP.cond (b := _) rfl (fun h => ?_) (fun h => ?_) <;> (try simp only [decide_eq_true_eq, decide_eq_false_iff_not] at h)
  · skip
    refine AWP.skip ?_
    change AWP _ _ _ _ _
    refine AWP.seqBlock ?_
    have hodd : n % 2 = 1 := by omega
    have hon : Ones.ones 24 n = n % 2 + Ones.ones 23 (n / 2) := rfl
    have hos : Ones.ones 24 (n / 2) = Ones.ones 23 (n / 2) := ones_stop 23 24 (n / 2) (by omega) (by decide)
    obtain ⟨rs, q, hqs⟩ : ∃ rs q, qs = rs ++ [q] := ⟨qs.dropLast, qs.getLast (fun e => by rw [e] at i6; simp at i6; omega), (List.dropLast_concat_getLast _).symm⟩
    generalize hL : qs ++ [d] = L
    have hq1 : qs.length = rs.length + 1 := by rw [hqs]; simp
    have hLl : L.length = rs.length + 2 := by rw [← hL]; simp [hq1]
    have hL0 : L = rs ++ [q] ++ [d] := by rw [← hL, hqs]
    have hL1 : L[rs.length]? = some q := by rw [hL0]; exact (cut_last2 rs q d).1
    have hL2 : L[rs.length + 1]? = some d := by rw [hL0]; exact (cut_last2 rs q d).2.1
    have hL3 : L.take rs.length = rs := by rw [hL0]; exact (cut_last2 rs q d).2.2
    have hne : ¬ rs.length = L.length := by omega
    have e1 : ((qs.length + 1 : Nat) : Int) - 2 = (rs.length : Int) := by omega
    have e2 : ((rs.length : Int) + 1).toNat = rs.length + 1 := by omega
    have e3 : ((qs.length + 1 : Nat) : Int) = (rs.length : Int) + 2 := by omega
    have hqok : digestOk q := i1 q (by rw [hqs]; simp)
    obtain ⟨hq2, hq3⟩ := hqok
    obtain ⟨hd2, hd3⟩ := id i2
    refine AWP.sR gok [7, 8, 9, 10, 11, 70] (by apply aops_mv (t := 8) (d := 41) (ag_n rfl) rfl rfl (by first | (simp only [look_lay, look, seval] <;> rfl) | fail) rfl; apply aops_x (d := 42) (ag_n rfl) rfl (by first | (simp (disch := decide) only [e1, go_sem, seval] <;> rfl) | (simp (disch := first | decide | omega) only [if_pos, nws, e1, go_sem, seval] <;> rfl)) rfl; apply aops_x (d := 43) (ag_n rfl) rfl (by first | (simp (disch := decide) only [e1, go_sem, seval] <;> rfl) | (simp (disch := first | decide | omega) only [if_pos, nws, e1, go_sem, seval] <;> rfl)) rfl; apply aops_as (t := 43) (d := 10) (ag_n rfl) rfl rfl (by first | (simp only [look_lay, look, seval] <;> rfl) | fail) rfl; apply aops_end; rfl) (by (simp (disch := omega) only [go_sem, seval, lay, nws]); rfl) ?_
    refine AWP.dT gok (by kernel_rfl) [7, 8, 9, 11, 70] [⟨[], true, 0⟩, ⟨[], true, 0⟩, ⟨[], true, 0⟩, ⟨[], true, 0⟩, ⟨[], true, 0⟩, ⟨[], true, 0⟩, ⟨[1], true, 0⟩, ⟨[], true, 0⟩, ⟨[], true, 0⟩, ⟨[], true, 0⟩, ⟨[], true, 0⟩, ⟨[1], true, 0⟩, ⟨[], true, 0⟩, ⟨[], true, 1⟩, ⟨[1, 2], false, 1⟩, ⟨[], true, 0⟩] (by kernel_rfl) (by first | rfl | simp only [go_sem, ↓reduceIte, Nat.reduceLT, Nat.reduceAdd]) (by first | rfl | simp only [go_sem, ↓reduceIte, Nat.reduceLT, Nat.reduceAdd]) (by (repeat (first | apply arun_step (by first | exact ag_n rfl | exact ag_b rfl rfl rfl (by first | (simp only [look_lay, look, seval] <;> rfl) | fail) (by first | rfl | (simp only [hL1, hL2, hL3, hne, e2, hq2, hq3, hd2, hd3, bothF_len, List.drop_zero, and_false, Nat.sub_zero, decide_true, decide_false] <;> rfl) | fail) | fail) (by first | (simp (disch := decide) only [hL1, hL2, hL3, hne, e2, hq2, hq3, hd2, hd3, bothF_len, List.drop_zero, and_false, Nat.sub_zero, go_sem, seval]; rfl) | (simp (disch := first | decide | omega) only [if_pos, nws, hL1, hL2, hL3, hne, e2, hq2, hq3, hd2, hd3, bothF_len, List.drop_zero, and_false, Nat.sub_zero, go_sem, seval]; rfl)) (by first | (intro h; cases h; done) | (intro _; rfl) | (intro _; simp only [go_sem, seval, lay])) (by first | rfl | simp only [go_sem, seval, lay]) (by first | rfl | simp only [go_sem, seval, lay]) (by first | rfl | simp only [go_sem, seval, lay]) (by simp only [go_sem, seval, lay]; rfl) | apply arun_pass (by first | exact ag_f rfl rfl rfl (by first | (simp only [look_lay, look, seval] <;> rfl) | fail) (by first | rfl | (simp only [hL1, hL2, hL3, hne, e2, hq2, hq3, hd2, hd3, bothF_len, List.drop_zero, and_false, Nat.sub_zero, decide_true, decide_false] <;> rfl) | fail) | exact ag_u rfl rfl rfl (by first | (simp only [look_lay, look, seval] <;> rfl) | fail) | fail) rfl (by simp only [go_sem, seval, lay]; rfl))); exact rfl) (by (simp (disch := omega) only [go_sem, seval, lay, nws]); rfl) ?_
    change AWP _ _ _ _ _
    refine AWP.rT gok [7, 8, 9, 11, 70] (by apply aops_mv (t := 9) (d := 39) (ag_n rfl) rfl rfl (by first | (simp only [look_lay, look, seval] <;> rfl) | fail) rfl; apply aops_x (d := 40) (ag_n rfl) rfl (by (simp (disch := first | decide | omega) only [if_pos, nws, go_sem, seval] <;> rfl)) rfl; apply aops_as (t := 40) (d := 9) (ag_n rfl) rfl rfl (by first | (simp only [look_lay, look, seval] <;> rfl) | fail) rfl; apply aops_end; rfl) (by (simp (disch := omega) only [go_sem, seval, lay, nws]); rfl) ?_
    exact ⟨(rs, bothF q d, n / 2, f - 1), (Ghost.trans (Ghost.gc (ρ := [0, 3]) (by simp only [go_sem, seval] <;> rfl) rfl rfl rfl) (Ghost.of_eq (by first | rfl | (simp only [Int.natCast_ediv, Int.cast_ofNat_Int, Nat.sub_zero] <;> rfl)))), ⟨⟨fun y hy => i1 y (by rw [hqs]; simp [hy]), ⟨dg_ok _, bothF_len _ _⟩, by simp only; omega⟩, ⟨by simp only; omega, by simp only; omega, by simp only; rw [hos]; omega⟩, by
      simp only
      obtain ⟨g, rfl⟩ : ∃ g, f = g + 1 := ⟨f - 1, by omega⟩
      rw [← i7, Nat.add_sub_cancel]
      show _ = (if n % 2 = 1 then Grow.grow bothF (dg []) g qs.dropLast (n / 2) (bothF (qs.getLastD (dg [])) d) else qs ++ [d])
      rw [if_pos hodd, hqs, List.dropLast_concat, List.getLastD_concat]⟩, by simp only; omega⟩
  · skip
    refine AWP.exit ?_
    change AWF _ _ _ _ _ _ _ _ _
    have heven : ¬ n % 2 = 1 := by omega
    have hG : Grow.grow bothF (dg []) M ps M (leafF x) = qs ++ [d] := by
      rw [← i7]
      cases f with
      | zero => rfl
      | succ g => show (if n % 2 = 1 then _ else qs ++ [d]) = _; rw [if_neg heven]
    have e4 : (((qs.length + 1 : Nat) : Int) - 1).toNat = qs.length := by omega
    obtain ⟨hd2, hd3⟩ := id i2
    refine AWF.sR gok [7, 8, 11, 70] (by apply aops_mv (t := 8) (d := 59) (ag_n rfl) rfl rfl (by first | (simp only [look_lay, look, seval] <;> rfl) | fail) rfl; apply aops_mv (t := 8) (d := 60) (ag_n rfl) rfl rfl (by first | (simp only [look_lay, look, seval] <;> rfl) | fail) rfl; apply aops_x (d := 61) (ag_n rfl) rfl (by first | (simp (disch := decide) only [e4, hd3, List.getElem?_concat_length, go_sem, seval] <;> rfl) | (simp (disch := first | decide | omega) only [if_pos, nws, e4, hd3, List.getElem?_concat_length, go_sem, seval] <;> rfl)) rfl; apply aops_x (d := 62) (ag_n rfl) rfl (by first | (simp (disch := decide) only [e4, hd3, List.getElem?_concat_length, go_sem, seval] <;> rfl) | (simp (disch := first | decide | omega) only [if_pos, nws, e4, hd3, List.getElem?_concat_length, go_sem, seval] <;> rfl)) rfl; apply aops_x (d := 63) (ag_n rfl) rfl (by (simp (disch := first | decide | omega) only [if_pos, nws, e4, hd3, List.getElem?_concat_length, go_sem, seval] <;> rfl)) rfl; apply aops_x (d := 64) (ag_n rfl) rfl (by first | (simp (disch := decide) only [e4, hd3, List.getElem?_concat_length, go_sem, seval] <;> rfl) | (simp (disch := first | decide | omega) only [if_pos, nws, e4, hd3, List.getElem?_concat_length, go_sem, seval] <;> rfl)) rfl; apply aops_x (d := 11) (ag_n rfl) rfl (by first | (simp (disch := decide) only [e4, hd3, List.getElem?_concat_length, go_sem, seval] <;> rfl) | (simp (disch := first | decide | omega) only [if_pos, nws, e4, hd3, List.getElem?_concat_length, go_sem, seval] <;> rfl)) rfl; apply aops_s (ag_n rfl) rfl (by first | (simp (disch := decide) only [e4, hd3, List.getElem?_concat_length, go_sem, seval] <;> rfl) | (simp (disch := first | decide | omega) only [if_pos, nws, e4, hd3, List.getElem?_concat_length, go_sem, seval] <;> rfl)); apply aops_end; rfl) (by (simp (disch := omega) only [go_sem, seval, lay, nws]); rfl) ?_
    refine AWF.seqQ ?_
    refine AWF.sR gok [7, 8, 11, 70] (by apply aops_mv (t := 8) (d := 65) (ag_n rfl) rfl rfl (by first | (simp only [look_lay, look, seval] <;> rfl) | fail) rfl; apply aops_mv (t := 8) (d := 66) (ag_n rfl) rfl rfl (by first | (simp only [look_lay, look, seval] <;> rfl) | fail) rfl; apply aops_x (d := 67) (ag_n rfl) rfl (by first | (simp (disch := decide) only [e4, Nat.sub_zero, go_sem, seval] <;> rfl) | (simp (disch := first | decide | omega) only [if_pos, nws, e4, Nat.sub_zero, go_sem, seval] <;> rfl)) rfl; apply aops_x (d := 68) (ag_n rfl) rfl (by first | (simp (disch := decide) only [e4, Nat.sub_zero, go_sem, seval] <;> rfl) | (simp (disch := first | decide | omega) only [if_pos, nws, e4, Nat.sub_zero, go_sem, seval] <;> rfl)) rfl; apply aops_x (d := 69) (ag_n rfl) rfl (by (simp (disch := first | decide | omega) only [if_pos, nws, e4, Nat.sub_zero, go_sem, seval] <;> rfl)) rfl; apply aops_x (d := 70) (ag_n rfl) rfl (by (simp (disch := first | decide | omega) only [if_pos, nws, e4, Nat.sub_zero, go_sem, seval] <;> rfl)) rfl; apply aops_end; rfl) (by (simp (disch := omega) only [go_sem, seval, lay, nws]); rfl) ?_
    intro σ a w hs hst
    obtain ⟨v11, h11, b2, base2, ext2, hσ2, rfl⟩ := hs.env 11 _ trivial rfl
    obtain ⟨v70, h70, ps70, rfl, hl70, hp70⟩ := hs.env 70 _ trivial rfl
    obtain ⟨b3, base3, ext3, hσ3, hq3⟩ := hp70 0 3 rfl
    have e70 : ps70 = [.pointer (some ⟨b3, base3, none⟩)] := by
      match ps70, hl70, hq3 with
      | [y], _, hy => simp at hy; rw [hy]
    subst e70
    -- the rows
    have hne : ∀ {b : Nat} {x y : Nat × Nat}, σ 3 = some (b, x) → σ 2 = some (b, y) → False := fun h1 h2 => by
      have := hs.heap.inj 3 2 _ _ _ _ _ rfl rfl h1 h2; omega
    have hne1 : ∀ {b : Nat} {x y : Nat × Nat}, σ 1 = some (b, x) → σ 2 = some (b, y) → False := fun h1 h2 => by
      have := hs.heap.inj 1 2 _ _ _ _ _ rfl rfl h1 h2; omega
    obtain ⟨sv, hb3, hc3, hsv⟩ : ∃ sv, b3 < w.heap.size ∧ w.cell? ⟨b3, base3, none⟩ = some sv ∧ Rep w (own X σ _) σ (.sl 1 0 qs.length 32) sv := by
      rcases hs.heap.row 3 _ rfl with h0 | ⟨b', base', ext', g1, g2, g3, g4, g5⟩
      · rw [h0] at hσ3; cases hσ3
      · rw [hσ3] at g1; cases g1
        obtain ⟨sv, g6, g7⟩ := g5 0 _ rfl
        exact ⟨sv, g2, g6, g7⟩
    have hb2 : b2 < w.heap.size := hs.heap.own_lt ⟨2, _, _, rfl, hσ2⟩
    have hb32 : b3 ≠ b2 := fun e => by subst e; exact hne hσ3 hσ2
    obtain ⟨b1, hb1, hb12, hbytes⟩ : ∃ b1, b1 < w.heap.size ∧ b1 ≠ b2 ∧ Bytes b1 w sv qs := by
      rcases hsv with ⟨h0, aa, rfl⟩ | ⟨b, base, ext, c, g1, rfl, g3, g4, g5⟩
      · exact ⟨b3, hb3, hb32, .inl ⟨List.eq_nil_of_length_eq_zero h0, aa, 0, rfl⟩⟩
      · have hlt := hs.heap.own_lt ⟨1, _, _, rfl, g1⟩
        refine ⟨b, hlt, fun e => by subst e; exact hne1 g1 hσ2, .inr ⟨_, _, rfl, fun j hj k v hv => ?_⟩⟩
        rcases hs.heap.row 1 _ rfl with h0 | ⟨b', base', ext', k1, k2, k3, k4, k5⟩
        · rw [h0] at g1; cases g1
        · rw [g1] at k1; cases k1
          obtain ⟨y, hy⟩ : ∃ y, qs[j]? = some y := ⟨_, List.getElem?_eq_getElem hj⟩
          rw [hy] at hv
          have hy2 : (qs ++ [d])[j]? = some y := by rw [List.getElem?_append_left hj]; exact hy
          obtain ⟨-, k6⟩ := k5 j y hy2
          rw [Option.getD_some, List.getElem?_map] at hv
          cases hyk : y[k]? with
          | none => rw [hyk] at hv; cases hv
          | some z =>
            rw [hyk] at hv
            have := k6 k z hyk
            cases hv
            have e : base + 0 * 32 + j * 32 + k = base + (j * 32 + (k * 1 + 0)) := by omega
            show w.cell? ⟨b, base + 0 * 32 + j * 32 + k, none⟩ = _
            rw [e]; exact this
    have h32 : ∀ j, j < qs.length → (qs[j]?.getD (List.replicate 32 0)).length = 32 := fun j hj => by
      rw [List.getElem?_eq_getElem hj]; exact (i1 _ (List.getElem_mem hj)).2
    have hzok : ∀ x : Nat, digestOk (qs[x]?.getD zd) := fun x => by
      by_cases hx : x < qs.length
      · rw [List.getElem?_eq_getElem hx]; exact i1 _ (List.getElem_mem hx)
      · rw [List.getElem?_eq_none (by omega)]; exact ⟨by decide, rfl⟩
    have hacc : ∀ pre : List Nat, digestOk (accG bothF zd qs d pre) := fun pre => by
      rcases List.eq_nil_or_concat pre with rfl | ⟨pre, x, rfl⟩
      · exact i2
      · rw [List.concat_eq_append, accG_snoc]; exact ⟨dg_ok _, bothF_len _ _⟩
    have hcells : ∀ (x : List Int), digestOk x → 0 < (Row.ty (.i .u8) x).size := fun x hx => by show 0 < x.length * 1; rw [hx.2]; decide
    obtain ⟨hgc, -⟩ := gc_heap (ρ := [2]) hs.heap rfl rfl
    have own1 : ∀ {acc : List Int} {b : Nat}, ownB (rsg [2] σ) [some (.ty (.i .u8) acc)] b → b = b2 := fun {acc b} ⟨i, q, y, h1, h2⟩ => by
      match i, h1, h2 with
      | 0, _, h2 =>
        have h3 : σ 2 = some (b, y) := h2
        rw [hσ2] at h3; cases h3; rfl
    refine wp_block ?_
    refine range_rounds (n := 9) (gf := FB) (lb := #[.pointer (some ⟨b3, base3, none⟩)]) (Kp := Kpb b3 b1) (by decide) (by show a.tmps.getD 70 undef = _; rw [Array.getD_eq_getD_getElem?, h70]; rfl) (enters_of Try.func74 (by kernel_rfl) rfl)
      (back_stops Fence.wide (9 - 1) trivial rfl (by decide) b3 base3 b1 sv qs (by omega) w hb3 hc3 (fun _ => hb1) h32 hbytes) (fun _ => rfl) Kpb.trans (fun W l o o' _ ho hc => Kpb.put W l o o' ho hc)
      (fun pre W => HeapRep X (rsg [2] σ) [some (.ty (.i .u8) (accG bothF zd qs d pre))] W ∧ Side w W b2)
      (fun p W => ∃ σ2, StRep X σ2 ⟨78, [(11, .c (.ptr 0 0 1 0)), (13, .c (.ptr 1 0 1 0)), (72, .agg (.ty (.i .u8) (qs[p.2.1]?.getD zd)))], [some (.ty (.i .u8) (accG bothF zd qs d p.1)), some (.ty (.i .u8) (qs[p.2.1]?.getD zd))]⟩ p.2.2 W ∧ Side w W b2 ∧ σ2 0 = σ 2 ∧
        ∀ b, ownB σ2 [some (.ty (.i .u8) (accG bothF zd qs d p.1)), some (.ty (.i .u8) (qs[p.2.1]?.getD zd))] b → b = b2 ∨ w.heap.size ≤ b) ?hI ?hI2 ⟨hgc, Side.refl _ _⟩ ?assign ?body ?done
    case hI =>
      rintro pre A C row ⟨hh, sd⟩ hg hr
      refine ⟨hh.still rfl hg.size (fun b hb => hg.block b (hh.own_lt hb) (fun e => ?_)), sd.grown hg (fun r e => (hr r e).1)⟩
      have := (hr b e.symm).1
      have := own1 hb
      omega
    case hI2 =>
      rintro ⟨pre, x, a2⟩ A C row ⟨σ2, h2, sd, e0, ow⟩ hg hr
      refine ⟨σ2, h2.still rfl rfl hg.size (fun b hb => hg.block b (h2.heap.own_lt hb) (fun e => ?_)), sd.grown hg (fun r e => (hr r e).1), e0, ow⟩
      obtain ⟨-, o, ho, hc⟩ := hr b e.symm
      obtain ⟨c, e', r, hcc⟩ := own_cells h2.heap (fun i r hr => by
        match i, hr with
        | 0, hr => cases hr; exact hcells _ (hacc pre)
        | 1, hr => cases hr; exact hcells _ (hzok x)) hb
      rw [ho] at hcc; cases hcc; cases hc
    case assign =>
      rintro l pre x W ⟨hh, sd⟩ -
      obtain ⟨ac1, ac2⟩ := hacc pre
      obtain ⟨zx1, zx2⟩ := hzok x
      have hs1 : StRep X (rsg [2] σ) ⟨78, [(11, .c (.ptr 0 0 1 0)), (72, .agg (.ty (.i .u8) (qs[x]?.getD zd)))], [some (.ty (.i .u8) (accG bothF zd qs d pre))]⟩ { tmps := (#[71, 72].zip #[Value.int .i64 (x : Int), Value.agg ((qs[x]?.getD (List.replicate 32 0)).map (Value.int .u8)).toArray]).foldl (fun t (p, v) => t.setIfInBounds p v) a.tmps, defers := [] } W := by
        have hsz := hs.size
        refine ⟨by simpa using hsz, rfl, fun t y _ hy => ?_, hh⟩
        have he : (#[71, 72].zip #[Value.int .i64 (x : Int), Value.agg ((qs[x]?.getD (List.replicate 32 0)).map (Value.int .u8)).toArray]).foldl (fun t (p, v) => t.setIfInBounds p v) a.tmps = (a.tmps.setIfInBounds 71 (Value.int .i64 (x : Int))).setIfInBounds 72 (Value.agg ((qs[x]?.getD (List.replicate 32 0)).map (Value.int .u8)).toArray) := fold2 _ _ _ _ _
        simp only [look] at hy
        split at hy
        · rename_i e; subst e; cases hy
          refine ⟨_, ?_, b2, base2, ext2, hσ2, rfl⟩
          dsimp only; rw [he, set2_at]; simpa using h11
        · split at hy
          · rename_i e; subst e; cases hy
            refine ⟨_, ?_, digestA_rep _⟩
            dsimp only; rw [he, set2_at, if_pos ⟨rfl, by rw [hsz]; exact (by decide : 72 < 78)⟩]
          · cases hy
      refine region_round gok (by apply aops_x (d := 13) (ag_n rfl) rfl (by (simp (disch := first | decide | omega) only [if_pos, nws, zx1, zx2, go_sem, seval] <;> rfl)) rfl; apply aops_s (ag_n rfl) rfl (by (simp (disch := first | decide | omega) only [if_pos, nws, zx1, zx2, go_sem, seval] <;> rfl)); apply aops_end; rfl) (by intro o ho c; simp at ho; rcases ho with rfl | rfl <;> simp) hs1 (fun σ2 a2 W2 h2 st2 => ?_)
      have kp : KeepsOthers W W2 := keepsOthers hh (fun i r hr => by
        match i, hr with
        | 0, hr => cases hr; exact hcells _ (hacc pre)) st2
      have hun : ∀ b, b < W.heap.size → b ≠ b2 → W2.heap[b]? = W.heap[b]? := fun b hb hne => st2.keeps.block b hb (fun ho => hne (own1 ho))
      refine ⟨kp, fun blk hblk c e r hc => hun blk (Array.getElem?_eq_some_iff.1 hc).1 ?_, σ2, h2, sd.step (fun b hb => .inl (own1 hb)) st2, ?_, fun b hb => ?_⟩
      · rcases hblk with rfl | rfl
        · exact hb32
        · exact hb12
      · have := st2.same 0 (by simp); rw [this]; rfl
      · rcases st2.keeps.own b hb with h | h
        · exact .inl (own1 h)
        · exact .inr (Nat.le_trans sd.size h)
    case body =>
      rintro l pre x a2 W ⟨σ2, h2, sd, e0, ow⟩
      obtain ⟨ac1, ac2⟩ := hacc pre
      obtain ⟨zx1, zx2⟩ := hzok x
      simp only at h2 ow
      refine wpIn_block (region_round gok (by apply aops_x (d := 73) (ag_n rfl) rfl (by (simp (disch := first | decide | omega) only [if_pos, nws, ac1, ac2, zx1, zx2, bothF_len, go_sem, seval] <;> rfl)) rfl; apply aops_x (d := 74) (ag_n rfl) rfl (by (simp (disch := first | decide | omega) only [if_pos, nws, ac1, ac2, zx1, zx2, bothF_len, go_sem, seval] <;> rfl)) rfl; apply aops_x (d := 75) (ag_n rfl) rfl (by (simp (disch := first | decide | omega) only [if_pos, nws, ac1, ac2, zx1, zx2, bothF_len, go_sem, seval] <;> rfl)) rfl; apply aops_s (ag_n rfl) rfl (by (simp (disch := first | decide | omega) only [if_pos, nws, ac1, ac2, zx1, zx2, bothF_len, go_sem, seval] <;> rfl)); apply aops_end; rfl) (by intro o ho c; simp at ho; rcases ho with rfl | rfl | rfl | rfl <;> simp) h2 (fun σ3 a3 W3 h3 st3 => ?_))
      have kp : KeepsOthers W W3 := keepsOthers h2.heap (fun i r hr => by
        match i, hr with
        | 0, hr => cases hr; exact hcells _ (hacc pre)
        | 1, hr => cases hr; exact hcells _ (hzok x)) st3
      obtain ⟨hg3, -⟩ := gc_heap (ρ := [0]) h3.heap rfl rfl
      have es : rsg [0] σ3 = rsg [2] σ := by
        funext i
        cases i with
        | zero =>
          show σ3 0 = σ 2
          rw [← e0]; exact st3.same 0 (by simp)
        | succ i => rfl
      rw [es] at hg3
      refine ⟨rfl, kp, fun blk hblk c e r hc => st3.keeps.block blk (Array.getElem?_eq_some_iff.1 hc).1 (fun ho => ?_), ?_, sd.step ow st3⟩
      · rcases ow blk ho with h | h
        · rcases hblk with rfl | rfl
          · exact hb32 h
          · exact hb12 h
        · rcases hblk with rfl | rfl <;> omega
      · rw [accG_snoc]; exact hg3
    case done =>
      rintro D xs W hD rfl ⟨hh, sd⟩ hK
      have hG2 : accG bothF zd qs d (rev qs qs.length) = (growF ps (M : Int) x).2 := by
        rw [accG_rev bothF (dg []) zd d qs qs rfl qs.length (Nat.le_refl _), Nat.sub_self, List.drop_zero]
        unfold growF; rw [if_neg (by rw [Int.toNat_natCast]; omega), Int.toNat_natCast, hG]
      have hG1 : qs ++ [d] = (growF ps (M : Int) x).1 := by
        unfold growF; rw [if_neg (by rw [Int.toNat_natCast]; omega), Int.toNat_natCast, hG]
      obtain ⟨R, hR⟩ : ∃ R, accG bothF zd qs d (rev qs qs.length) = R := ⟨_, rfl⟩
      obtain ⟨R1, R2⟩ : digestOk R := by rw [← hR]; exact hacc _
      rw [hR] at hh hG2
      -- the world behind the rounds
      have hsame : ∀ b, b < w.heap.size → b ≠ b2 → W.heap[b]? = w.heap[b]? := sd.block
      have hk : Keeps w (ownB σ [some (.ty (.i .u8) zd), some (.ty DT (qs ++ [d])), some (.ty (.i .u8) d), some (.raw [.sl 1 0 qs.length 32])]) W (ownB σ [some (.ty (.i .u8) zd), some (.ty DT (qs ++ [d])), some (.ty (.i .u8) R), some (.raw [.sl 1 0 qs.length 32])]) := by
        refine ⟨sd.size, fun b hb ho => hsame b hb (fun e => by subst e; exact ho ⟨2, _, _, rfl, hσ2⟩), fun b ⟨i, q, y, h1, h2⟩ => .inl ?_⟩
        match i, h1 with
        | 0, h1 => exact ⟨0, _, y, rfl, h2⟩
        | 1, h1 => exact ⟨1, _, y, rfl, h2⟩
        | 2, h1 => exact ⟨2, _, y, rfl, h2⟩
        | 3, h1 => exact ⟨3, _, y, rfl, h2⟩
      have hrow2 : RowOk W (own X σ [some (.ty (.i .u8) zd), some (.ty DT (qs ++ [d])), some (.ty (.i .u8) R), some (.raw [.sl 1 0 qs.length 32])]) σ 2 (.ty (.i .u8) R) := by
        rcases hh.row 0 _ rfl with h0 | ⟨b, base, ext, g1, g2, g3, g4, g5⟩
        · exact .inl h0
        · exact .inr ⟨b, base, ext, g1, g2, g3, g4, fun i n hn => RepD.flatw (t := .i .u8) rfl (g5 i n hn)⟩
      have hheap : HeapRep X σ [some (.ty (.i .u8) zd), some (.ty DT (qs ++ [d])), some (.ty (.i .u8) R), some (.raw [.sl 1 0 qs.length 32])] W := by
        refine hs.heap.next hk (fun _ _ h => h) hs.heap.dom (fun id r hr => ?_) (fun id id' r r' b y y' h1 h2 h3 h4 => ?_)
        · have other : ∀ {i : Nat} {b : Nat} {y : Nat × Nat}, i ≠ 2 → (∃ q, ([some (.ty (.i .u8) zd), some (.ty DT (qs ++ [d])), some (.ty (.i .u8) d), some (.raw [.sl 1 0 qs.length 32])] : Hp)[i]? = some (some q)) → σ i = some (b, y) → W.heap[b]? = w.heap[b]? := fun {i b y} hi ⟨q, hq⟩ hb =>
            hsame b (hs.heap.own_lt ⟨i, q, y, hq, hb⟩) (fun e => hi (hs.heap.inj i 2 q _ b2 y _ hq rfl (by rw [← e]; exact hb) hσ2))
          match id, hr with
          | 0, hr => cases hr; exact .inl ⟨rfl, fun h => h, fun b y hb => other (by decide) ⟨_, rfl⟩ hb⟩
          | 1, hr => cases hr; exact .inl ⟨rfl, fun h => h, fun b y hb => other (by decide) ⟨_, rfl⟩ hb⟩
          | 2, hr => cases hr; exact .inr hrow2
          | 3, hr => cases hr; exact .inl ⟨rfl, fun h => h, fun b y hb => other (by decide) ⟨_, rfl⟩ hb⟩
        · have same : ∀ {i : Nat} {q : Row}, ([some (.ty (.i .u8) zd), some (.ty DT (qs ++ [d])), some (.ty (.i .u8) R), some (.raw [.sl 1 0 qs.length 32])] : Hp)[i]? = some (some q) → ∃ q', ([some (.ty (.i .u8) zd), some (.ty DT (qs ++ [d])), some (.ty (.i .u8) d), some (.raw [.sl 1 0 qs.length 32])] : Hp)[i]? = some (some q') := fun {i q} h => by
            match i, h with
            | 0, _ => exact ⟨_, rfl⟩
            | 1, _ => exact ⟨_, rfl⟩
            | 2, _ => exact ⟨_, rfl⟩
            | 3, _ => exact ⟨_, rfl⟩
          obtain ⟨q, hq⟩ := same h1
          obtain ⟨q', hq'⟩ := same h2
          exact hs.heap.inj id id' q q' b y y' hq hq' h3 h4
      have hs4 : StRep X σ ⟨78, [(7, .c (.ptr 0 0 1 0)), (8, .c (.sl 1 0 (qs.length + 1) 32)), (11, .c (.ptr 2 0 1 0))], [some (.ty (.i .u8) zd), some (.ty DT (qs ++ [d])), some (.ty (.i .u8) R), some (.raw [.sl 1 0 qs.length 32])]⟩ a W := by
        refine ⟨hs.size, hs.defers, fun t y _ hy => ?_, hheap⟩
        obtain ⟨v, h1, h2⟩ := hs.env t y trivial (by
          simp only [look] at hy ⊢
          split at hy
          · rename_i e; rw [if_pos e]; exact hy
          · rename_i e; rw [if_neg e]
            split at hy
            · rename_i e; rw [if_pos e]; exact hy
            · rename_i e; rw [if_neg e]
              split at hy
              · rename_i e; rw [if_pos e]; exact hy
              · cases hy)
        refine ⟨v, h1, h2.flatw ?_⟩
        exact flatE_spec (l := [(7, .c (.ptr 0 0 1 0)), (8, .c (.sl 1 0 (qs.length + 1) 32)), (11, .c (.ptr 2 0 1 0))]) rfl t y hy
      show (Code.seq _ _).wp _ _ { tmps := a.tmps, defers := _ :: a.defers } W
      rw [hs.defers]
      refine wp_seq (drawn_shift (B := 0) gok (by kernel_rfl) [⟨[], true, 0⟩, ⟨[2], true, 0⟩, ⟨[], true, 0⟩, ⟨[0], false, 0⟩] (by kernel_rfl) (by first | rfl | simp only [go_sem, ↓reduceIte, Nat.reduceLT, Nat.reduceAdd]) (by first | rfl | simp only [go_sem, ↓reduceIte, Nat.reduceLT, Nat.reduceAdd]) (by (repeat (first | apply arun_step (by first | exact ag_n rfl | exact ag_b rfl rfl rfl (by first | (simp only [look_lay, look, seval] <;> rfl) | fail) (by first | rfl | (simp only [R1, R2, decide_true, decide_false] <;> rfl) | fail) | fail) (by first | (simp (disch := decide) only [R1, R2, go_sem, seval]; rfl) | (simp (disch := first | decide | omega) only [if_pos, nws, R1, R2, go_sem, seval]; rfl)) (by first | (intro h; cases h; done) | (intro _; rfl) | (intro _; simp only [go_sem, seval, lay])) (by first | rfl | simp only [go_sem, seval, lay]) (by first | rfl | simp only [go_sem, seval, lay]) (by first | rfl | simp only [go_sem, seval, lay]) (by simp only [go_sem, seval, lay]; rfl) | apply arun_pass (by first | exact ag_f rfl rfl rfl (by first | (simp only [look_lay, look, seval] <;> rfl) | fail) (by first | rfl | (simp only [R1, R2, decide_true, decide_false] <;> rfl) | fail) | exact ag_u rfl rfl rfl (by first | (simp only [look_lay, look, seval] <;> rfl) | fail) | fail) rfl (by simp only [go_sem, seval, lay]; rfl))); exact rfl) hs4 (fun σ5 s5 a5 W5 hN hs5 st5 => ?_))
      subst hN
      refine wp_ret ?_
      -- what is deferred hands nothing over
      have hDK : W5.heap[D]? = some (.deferred (some [])) := by
        rw [st5.keeps.block D (Array.getElem?_eq_some_iff.1 hK).1 (fun ho => ?_)]
        · exact hK
        · have := hs.heap.own_lt (b := D) (by
            obtain ⟨i, q, y, g1, g2⟩ := ho
            match i, g1 with
            | 0, _ => exact ⟨0, _, y, rfl, g2⟩
            | 1, _ => exact ⟨1, _, y, rfl, g2⟩
            | 2, _ => exact ⟨2, _, y, rfl, g2⟩
            | 3, _ => exact ⟨3, _, y, rfl, g2⟩)
          omega
      obtain ⟨W6, hW6⟩ : ∃ W6, W5.putObj D (.deferred none) = W6 := ⟨_, rfl⟩
      have hW6b : ∀ b, b ≠ D → W6.heap[b]? = W5.heap[b]? := fun b hb => by rw [← hW6]; exact World.putObj_heap_other hb
      have hW6s : W6.heap.size = W5.heap.size := by rw [← hW6]; simp [World.putObj]
      have hs6 := hs5.still (W := W6) rfl rfl (by omega) (fun b hb => hW6b b (fun e => by
        obtain ⟨c, e', r, hcc⟩ := own_cells hs5.heap (fun i r hr => by
          match i, hr with
          | 0, hr => cases hr; exact hcells _ ⟨R1, R2⟩
          | 1, hr => cases hr; show 0 < (qs ++ [d]).length * (32 * 1); simp
          | 2, hr => cases hr; exact hcells _ ⟨R1, R2⟩
          | 3, hr => cases hr; show 0 < 1; decide) hb
        rw [e, hDK] at hcc; cases hcc))
      have hk6 : Keeps w (ownB σ [some (.ty (.i .u8) zd), some (.ty DT (qs ++ [d])), some (.ty (.i .u8) d), some (.raw [.sl 1 0 qs.length 32])]) W6 (ownB σ5 [some (.ty (.i .u8) R), some (.ty DT (qs ++ [d])), some (.ty (.i .u8) R), some (.raw [.sl 1 0 qs.length 32])]) := by
        have hk5 := hk.trans st5.keeps
        exact ⟨by rw [hW6s]; exact hk5.size, fun b hb ho => (hW6b b (by omega)).trans (hk5.block b hb ho), hk5.own⟩
      have hst6 : StepB 0 σ0 [] w0 σ5 [some (.ty (.i .u8) R), some (.ty DT (qs ++ [d])), some (.ty (.i .u8) R), some (.raw [.sl 1 0 qs.length 32])] W6 := by
        refine ⟨?_, ?_, ?_, hst.keeps.trans hk6, fun id hid => absurd hid (Nat.not_lt_zero _), fun _ => ⟨Nat.zero_le _, fun id hid => absurd hid (Nat.not_lt_zero _)⟩⟩
        · rw [← hW6]; exact st5.os.trans (sd.os.trans hst.os)
        · rw [← hW6]; exact st5.tape.trans (sd.tape.trans hst.tape)
        · rw [← hW6]; exact st5.output.trans (sd.output.trans hst.output)
      obtain ⟨v, hr, hp⟩ := ends_post (P := Try.prog) (fn := Try.f36) (ρ := [1]) (r := .tup [.c (.sl 0 0 (growF ps (M : Int) x).1.length 32), .agg (.ty (.i .u8) (growF ps (M : Int) x).2)]) (H' := [some (.ty DT (growF ps (M : Int) x).1)]) hh0 hs6 hst6
        (show aresult Try.prog _ [.tmp 6, .cell 7 25] = some [.c (.sl 1 0 (qs.length + 1) 32), .agg (.ty (.i .u8) R)] by simp only [go_sem, seval, R2] <;> rfl) (by rw [← hG1, ← hG2]; simp only [go_sem, seval, List.length_append, List.length_cons, List.length_nil] <;> rfl) (by rw [← hG1]; simp only [go_sem, seval] <;> rfl) rfl rfl (by simp)
      exact ⟨by simp, .inl ⟨D, W6, rfl, by rw [← hW6]; exact run_takeDeferred hDK, v, hr, v, rfl, hp⟩⟩
end Go.Proofs.Ytbdnhoddkdiogaa
