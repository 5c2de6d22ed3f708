import Derived.Test.YtggomleegbnhbaaBl8
import Derived.Test.YtggomleegbnhbaaBf2
set_option linter.unusedSimpArgs false
set_option linter.unusedVariables false
namespace Go.Proofs.Ytggomleegbnhbaa
open Go.RowKit
theorem tuF_some : ∀ (l : List Int) (s : List Bool) (q pts : List (Int × Int)), tuF l s q = some pts → pts = q ++ l.map (fun w => (w + 1, 0)) ∧ ∀ w ∈ l, 0 ≤ w ∧ w < 200
  | [], s, q, pts, h => by cases h; exact ⟨by simp, fun w hw => (List.not_mem_nil hw).elim⟩
  | w :: l, s, q, pts, h => by
    have h : (if badF s w = true then none else tuF l (s.set w.toNat true) (q ++ [(w + 1, 0)])) = some pts := h
    by_cases hb : badF s w = true
    · rw [if_pos hb] at h; cases h
    · rw [if_neg hb] at h
      obtain ⟨h1, h2⟩ := tuF_some l _ _ _ h
      obtain ⟨x, rfl, hx, -⟩ := badF_false (by simpa using hb)
      refine ⟨by rw [h1, List.append_assoc]; rfl, fun v hv => ?_⟩
      rcases List.mem_cons.1 hv with rfl | hv
      · exact ⟨by omega, by omega⟩
      · exact h2 v hv
theorem turn_ok {who : List Int} (h : turnErr who = 0) : ∃ pts : List (Int × Int), pts = (0, 1) :: who.map (fun w => (w + 1, 0)) ∧ ptsOk pts ∧ twiceF pts = false ∧ turnF who = (thN pts pts.length).1 := by
  unfold turnErr at h
  unfold turnF
  cases ht : turnPts who with
  | none => rw [ht] at h; cases h
  | some pts =>
    rw [ht] at h
    obtain ⟨e, hw⟩ := tuF_some _ _ _ _ ht
    have h : (if twiceF pts = true then 1 else (0 : Int)) = 0 := h
    have h2 : ¬ twiceF pts = true := fun e => by rw [if_pos e] at h; cases h
    refine ⟨pts, e, fun p hp => ?_, by simpa using h2, ?_⟩
    · rw [e] at hp
      rcases List.mem_cons.1 hp with rfl | hp
      · exact ⟨ok0, ok1⟩
      · obtain ⟨w, hw1, rfl⟩ := List.mem_map.1 hp
        have := hw w hw1
        exact ⟨⟨by simp only; omega, by simp only; omega⟩, ok0⟩
    · show thruF pts = _
      unfold thruF; rw [if_neg h2]
theorem eval_zero {l : List Int} (h : bytesOk l) : evalF l 0 = l[0]?.getD 0 := by
  cases l with
  | nil => rfl
  | cons c a => rw [eval_cons, mulT_zero, zero_bx (hd_ok h)]; rfl
/-- What turns coins: 1, then as many bytes as are known, at most. -/
theorem turn_facts {who : List Int} (h : turnErr who = 0) : bytesOk (turnF who) ∧ 1 ≤ (turnF who).length ∧ (turnF who).length ≤ who.length + 1 ∧ (turnF who)[0]?.getD 0 = 1 ∧ ∀ w ∈ who, byteOk (w + 1) ∧ evalF (turnF who) (w + 1) = 0 := by
  obtain ⟨pts, e, hp, ht, h1⟩ := turn_ok h
  have nd := twice_false hp ht
  have o := (thN_ok hp pts.length).1
  have l := (thN_len pts pts.length).1
  have at_ := thru_at hp nd pts.length (Nat.le_refl _)
  rw [← h1] at o l at_
  have pl : pts.length = who.length + 1 := by rw [e]; simp
  have hd : (turnF who)[0]?.getD 0 = 1 := by
    have := at_ 0 (by omega)
    rw [show ptX pts 0 = 0 by rw [e]; rfl, show ptY pts 0 = 1 by rw [e]; rfl, eval_zero o] at this
    exact this
  refine ⟨o, ?_, by omega, hd, fun w hw => ?_⟩
  · rcases Nat.eq_zero_or_pos (turnF who).length with hz | hz
    · rw [List.eq_nil_of_length_eq_zero hz] at hd; cases hd
    · exact hz
  · obtain ⟨i, hi, rfl⟩ := List.getElem_of_mem hw
    have e1 : pts[i + 1]? = some (who[i] + 1, 0) := by rw [e]; simp [List.getElem?_eq_getElem hi]
    have e2 : ptX pts (i + 1) = who[i] + 1 := by unfold ptX; rw [e1]; rfl
    have e3 : ptY pts (i + 1) = 0 := by unfold ptY; rw [e1]; rfl
    have := at_ (i + 1) (by omega)
    rw [e2, e3] at this
    exact ⟨by rw [← e2]; exact ptX_ok hp _, this⟩
def inB (n a b : Int) : Bool := if a ≤ n then decide (n ≤ b) else false
abbrev c27 (n : Int) (a : Int) (b : Int) : Prop := True
abbrev r27 (n : Int) (a : Int) (b : Int) : AV := .c (cb (inB n a b))
abbrev L27 (n : Int) (a : Int) (b : Int) : Hp := []
def E27 : Entry := pureN [(.i .i64), (.i .i64), (.i .i64)] (fun d => c27 d.1 d.2.1 d.2.2.1) (fun d => r27 d.1 d.2.1 d.2.2.1) (fun d => L27 d.1 d.2.1 d.2.2.1)
set_option maxRecDepth 100000 in
set_option maxHeartbeats 4000000 in
theorem K27 (n : Int) (a : Int) (b : Int) (hc : c27 n a b) : CallOk Try.prog 27 [.c (ci .i64 n), .c (ci .i64 a), .c (ci .i64 b)] [] (r27 n a b) (L27 n a b) := by
  by_cases h : a ≤ n
  · skip
    refine callOk' Try.func27 15 [.tmp 6] _ rfl rfl rfl (by kernel_rfl) (by simp) [] rfl rfl (by simp) ?_
    simp only [params]
    refine AWP.sR (Gam.nil_ok _) [0, 1, 2] (by apply aops_x (d := 6) (ag_n rfl) rfl (by first | (simp (disch := decide) only [h, ge_iff_le, go_sem, seval] <;> rfl) | (simp (disch := first | decide | omega) only [if_pos, nws, h, ge_iff_le, go_sem, seval] <;> rfl)) rfl; apply aops_end; rfl) (by (simp (disch := omega) only [go_sem, seval, lay, nws]); rfl) ?_
    refine AWP.sR (Gam.nil_ok _) [6] (by apply aops_mv (t := 0) (d := 7) (ag_n rfl) rfl rfl (by first | (simp only [look_lay, look, seval] <;> rfl) | fail) rfl; apply aops_mv (t := 1) (d := 8) (ag_n rfl) rfl rfl (by first | (simp only [look_lay, look, seval] <;> rfl) | fail) rfl; apply aops_x (d := 9) (ag_n rfl) rfl (by first | (simp (disch := decide) only [h, ge_iff_le, go_sem, seval] <;> rfl) | (simp (disch := first | decide | omega) only [if_pos, nws, h, ge_iff_le, go_sem, seval] <;> rfl)) rfl; apply aops_mv (t := 9) (d := 10) (ag_n rfl) rfl rfl (by first | (simp only [look_lay, look, seval] <;> rfl) | fail) rfl; (first | apply aops_mv (t := 0) (d := 11) (ag_b (j := 3) (d := 10) rfl rfl rfl (by first | (simp only [look_lay, look, seval] <;> rfl) | fail) rfl) rfl rfl (by first | (simp only [look_lay, look, seval] <;> rfl) | fail) rfl | apply aops_ps (d := 11) (by first | exact ag_f (j := 3) (d := 10) rfl rfl rfl (by first | (simp only [look_lay, look, seval] <;> rfl) | fail) rfl | exact ag_u (j := 3) (d := 10) rfl rfl rfl (by first | (simp only [look_lay, look, seval] <;> rfl) | fail) | fail) rfl rfl); (first | apply aops_mv (t := 2) (d := 12) (ag_b (j := 3) (d := 10) rfl rfl rfl (by first | (simp only [look_lay, look, seval] <;> rfl) | fail) rfl) rfl rfl (by first | (simp only [look_lay, look, seval] <;> rfl) | fail) rfl | apply aops_ps (d := 12) (by first | exact ag_f (j := 3) (d := 10) rfl rfl rfl (by first | (simp only [look_lay, look, seval] <;> rfl) | fail) rfl | exact ag_u (j := 3) (d := 10) rfl rfl rfl (by first | (simp only [look_lay, look, seval] <;> rfl) | fail) | fail) rfl rfl); (first | apply aops_x (d := 13) (ag_b (j := 3) (d := 10) rfl rfl rfl (by first | (simp only [look_lay, look, seval] <;> rfl) | fail) rfl) rfl (by first | (simp (disch := decide) only [h, ge_iff_le, go_sem, seval] <;> rfl) | (simp (disch := first | decide | omega) only [if_pos, nws, h, ge_iff_le, go_sem, seval] <;> rfl)) rfl | apply aops_ps (d := 13) (by first | exact ag_f (j := 3) (d := 10) rfl rfl rfl (by first | (simp only [look_lay, look, seval] <;> rfl) | fail) rfl | exact ag_u (j := 3) (d := 10) rfl rfl rfl (by first | (simp only [look_lay, look, seval] <;> rfl) | fail) | fail) rfl rfl); apply aops_x (d := 14) (ag_n rfl) rfl (by first | (simp (disch := decide) only [h, ge_iff_le, go_sem, seval] <;> rfl) | (simp (disch := first | decide | omega) only [if_pos, nws, h, ge_iff_le, go_sem, seval] <;> rfl)) rfl; apply aops_as (t := 14) (d := 6) (ag_n rfl) rfl rfl (by first | (simp only [look_lay, look, seval] <;> rfl) | fail) rfl; apply aops_end; rfl) (by (simp (disch := omega) only [go_sem, seval, lay, nws]); rfl) ?_
    refine AWP.ret ?_
    refine ⟨.inr rfl, _, (by simp only [go_sem, seval, h, ge_iff_le] <;> rfl), ?_⟩
    simp only [go_sem, seval, h, ge_iff_le, Option.some.injEq, AV.c.injEq, AV.agg.injEq, CV.v.injEq, Value.int.injEq, Value.bool.injEq, Row.raw.injEq, List.cons.injEq, CV.sl.injEq, and_true, true_and, and_self]
    unfold inB; rw [if_pos h]
  · skip
    refine callOk' Try.func27 15 [.tmp 6] _ rfl rfl rfl (by kernel_rfl) (by simp) [] rfl rfl (by simp) ?_
    simp only [params]
    refine AWP.sR (Gam.nil_ok _) [0, 1, 2] (by apply aops_x (d := 6) (ag_n rfl) rfl (by first | (simp (disch := decide) only [h, ge_iff_le, go_sem, seval] <;> rfl) | (simp (disch := first | decide | omega) only [if_pos, nws, h, ge_iff_le, go_sem, seval] <;> rfl)) rfl; apply aops_end; rfl) (by (simp (disch := omega) only [go_sem, seval, lay, nws]); rfl) ?_
    refine AWP.sR (Gam.nil_ok _) [6] (by apply aops_mv (t := 0) (d := 7) (ag_n rfl) rfl rfl (by first | (simp only [look_lay, look, seval] <;> rfl) | fail) rfl; apply aops_mv (t := 1) (d := 8) (ag_n rfl) rfl rfl (by first | (simp only [look_lay, look, seval] <;> rfl) | fail) rfl; apply aops_x (d := 9) (ag_n rfl) rfl (by first | (simp (disch := decide) only [h, ge_iff_le, go_sem, seval] <;> rfl) | (simp (disch := first | decide | omega) only [if_pos, nws, h, ge_iff_le, go_sem, seval] <;> rfl)) rfl; apply aops_mv (t := 9) (d := 10) (ag_n rfl) rfl rfl (by first | (simp only [look_lay, look, seval] <;> rfl) | fail) rfl; (first | apply aops_mv (t := 0) (d := 11) (ag_b (j := 3) (d := 10) rfl rfl rfl (by first | (simp only [look_lay, look, seval] <;> rfl) | fail) rfl) rfl rfl (by first | (simp only [look_lay, look, seval] <;> rfl) | fail) rfl | apply aops_ps (d := 11) (by first | exact ag_f (j := 3) (d := 10) rfl rfl rfl (by first | (simp only [look_lay, look, seval] <;> rfl) | fail) rfl | exact ag_u (j := 3) (d := 10) rfl rfl rfl (by first | (simp only [look_lay, look, seval] <;> rfl) | fail) | fail) rfl rfl); (first | apply aops_mv (t := 2) (d := 12) (ag_b (j := 3) (d := 10) rfl rfl rfl (by first | (simp only [look_lay, look, seval] <;> rfl) | fail) rfl) rfl rfl (by first | (simp only [look_lay, look, seval] <;> rfl) | fail) rfl | apply aops_ps (d := 12) (by first | exact ag_f (j := 3) (d := 10) rfl rfl rfl (by first | (simp only [look_lay, look, seval] <;> rfl) | fail) rfl | exact ag_u (j := 3) (d := 10) rfl rfl rfl (by first | (simp only [look_lay, look, seval] <;> rfl) | fail) | fail) rfl rfl); (first | apply aops_x (d := 13) (ag_b (j := 3) (d := 10) rfl rfl rfl (by first | (simp only [look_lay, look, seval] <;> rfl) | fail) rfl) rfl (by first | (simp (disch := decide) only [h, ge_iff_le, go_sem, seval] <;> rfl) | (simp (disch := first | decide | omega) only [if_pos, nws, h, ge_iff_le, go_sem, seval] <;> rfl)) rfl | apply aops_ps (d := 13) (by first | exact ag_f (j := 3) (d := 10) rfl rfl rfl (by first | (simp only [look_lay, look, seval] <;> rfl) | fail) rfl | exact ag_u (j := 3) (d := 10) rfl rfl rfl (by first | (simp only [look_lay, look, seval] <;> rfl) | fail) | fail) rfl rfl); apply aops_x (d := 14) (ag_n rfl) rfl (by first | (simp (disch := decide) only [h, ge_iff_le, go_sem, seval] <;> rfl) | (simp (disch := first | decide | omega) only [if_pos, nws, h, ge_iff_le, go_sem, seval] <;> rfl)) rfl; apply aops_as (t := 14) (d := 6) (ag_n rfl) rfl rfl (by first | (simp only [look_lay, look, seval] <;> rfl) | fail) rfl; apply aops_end; rfl) (by (simp (disch := omega) only [go_sem, seval, lay, nws]); rfl) ?_
    refine AWP.ret ?_
    refine ⟨.inr rfl, _, (by simp only [go_sem, seval, h, ge_iff_le] <;> rfl), ?_⟩
    simp only [go_sem, seval, h, ge_iff_le, Option.some.injEq, AV.c.injEq, AV.agg.injEq, CV.v.injEq, Value.int.injEq, Value.bool.injEq, Row.raw.injEq, List.cons.injEq, CV.sl.injEq, and_true, true_and, and_self]
    unfold inB; rw [if_neg h]
theorem E27_ok : EntryOk Try.prog 27 E27 := pureN_ok (fun d hc => K27 d.1 d.2.1 d.2.2.1 hc) (fun _ => rfl) (fun _ => rfl)
attribute [go_sem] E27 c27 r27 L27
def coinsF (n k : Int) : Int := if inB n 1 4096 = true ∧ inB k 2 4096 = true then n * (k - 1) else 0
theorem inB_true {n a b : Int} (h : inB n a b = true) : a ≤ n ∧ n ≤ b := by
  unfold inB at h
  split at h
  · exact ⟨by assumption, of_decide_eq_true h⟩
  · cases h
abbrev c18 (n : Int) (k : Int) : Prop := True
abbrev r18 (n : Int) (k : Int) : AV := .c (ci .i64 (coinsF n k))
abbrev L18 (n : Int) (k : Int) : Hp := []
def E18 : Entry := pureN [(.i .i64), (.i .i64)] (fun d => c18 d.1 d.2.1) (fun d => r18 d.1 d.2.1) (fun d => L18 d.1 d.2.1)
set_option maxRecDepth 100000 in
set_option maxHeartbeats 4000000 in
theorem K18 (n : Int) (k : Int) (hc : c18 n k) : CallOk Try.prog 18 [.c (ci .i64 n), .c (ci .i64 k)] [] (r18 n k) (L18 n k) := by
  cases h1 : inB n 1 4096
  · have e : coinsF n k = 0 := by unfold coinsF; rw [if_neg (by rw [h1]; simp)]
    have gok := (Gam.cons_ok E27_ok (Gam.nil_ok _))
    refine callOk' Try.func18 17 [.tmp 4] _ rfl rfl rfl (by kernel_rfl) (by simp) [] rfl rfl (by simp) ?_
    simp only [params]
    refine AWP.sR gok [0, 1] (by apply aops_x (d := 4) (ag_n rfl) rfl (by first | (simp (disch := decide) only [h1, go_sem, seval] <;> rfl) | (simp (disch := first | decide | omega) only [if_pos, nws, h1, go_sem, seval] <;> rfl)) rfl; apply aops_end; rfl) (by (simp (disch := omega) only [go_sem, seval, lay, nws]); rfl) ?_
    refine AWP.seq ?_
    refine AWP.sR gok [0, 1, 12] (by apply aops_mv (t := 0) (d := 5) (ag_n rfl) rfl rfl (by first | (simp only [look_lay, look, seval] <;> rfl) | fail) rfl; apply aops_x (d := 6) (ag_n rfl) rfl (by (simp (disch := first | decide | omega) only [if_pos, nws, h1, go_sem, seval] <;> rfl)) rfl; apply aops_x (d := 7) (ag_n rfl) rfl (by first | (simp (disch := decide) only [h1, go_sem, seval] <;> rfl) | (simp (disch := first | decide | omega) only [if_pos, nws, h1, go_sem, seval] <;> rfl)) rfl; apply aops_mv (t := 7) (d := 8) (ag_n rfl) rfl rfl (by first | (simp only [look_lay, look, seval] <;> rfl) | fail) rfl; (first | apply aops_mv (t := 1) (d := 9) (ag_b (j := 3) (d := 8) rfl rfl rfl (by first | (simp only [look_lay, look, seval] <;> rfl) | fail) rfl) rfl rfl (by first | (simp only [look_lay, look, seval] <;> rfl) | fail) rfl | apply aops_ps (d := 9) (by first | exact ag_f (j := 3) (d := 8) rfl rfl rfl (by first | (simp only [look_lay, look, seval] <;> rfl) | fail) rfl | exact ag_u (j := 3) (d := 8) rfl rfl rfl (by first | (simp only [look_lay, look, seval] <;> rfl) | fail) | fail) rfl rfl); (first | apply aops_x (d := 10) (ag_b (j := 3) (d := 8) rfl rfl rfl (by first | (simp only [look_lay, look, seval] <;> rfl) | fail) rfl) rfl (by (simp (disch := first | decide | omega) only [if_pos, nws, h1, go_sem, seval] <;> rfl)) rfl | apply aops_ps (d := 10) (by first | exact ag_f (j := 3) (d := 8) rfl rfl rfl (by first | (simp only [look_lay, look, seval] <;> rfl) | fail) rfl | exact ag_u (j := 3) (d := 8) rfl rfl rfl (by first | (simp only [look_lay, look, seval] <;> rfl) | fail) | fail) rfl rfl); (first | apply aops_x (d := 11) (ag_b (j := 3) (d := 8) rfl rfl rfl (by first | (simp only [look_lay, look, seval] <;> rfl) | fail) rfl) rfl (by first | (simp (disch := decide) only [h1, go_sem, seval] <;> rfl) | (simp (disch := first | decide | omega) only [if_pos, nws, h1, go_sem, seval] <;> rfl)) rfl | apply aops_ps (d := 11) (by first | exact ag_f (j := 3) (d := 8) rfl rfl rfl (by first | (simp only [look_lay, look, seval] <;> rfl) | fail) rfl | exact ag_u (j := 3) (d := 8) rfl rfl rfl (by first | (simp only [look_lay, look, seval] <;> rfl) | fail) | fail) rfl rfl); apply aops_x (d := 12) (ag_n rfl) rfl (by first | (simp (disch := decide) only [h1, go_sem, seval] <;> rfl) | (simp (disch := first | decide | omega) only [if_pos, nws, h1, go_sem, seval] <;> rfl)) rfl; apply aops_end; rfl) (by (simp (disch := omega) only [go_sem, seval, lay, nws]); rfl) ?_
    refine AWP.condT (b := _) rfl rfl ?_
    refine AWP.sR gok [4] (by apply aops_x (d := 4) (ag_n rfl) rfl (by first | (simp (disch := decide) only [h1, go_sem, seval] <;> rfl) | (simp (disch := first | decide | omega) only [if_pos, nws, h1, go_sem, seval] <;> rfl)) rfl; apply aops_end; rfl) (by (simp (disch := omega) only [go_sem, seval, lay, nws]); rfl) ?_
    refine AWP.ret ?_
    refine ⟨.inr rfl, _, (by simp only [go_sem, seval, h1] <;> rfl), ?_⟩
    simp only [go_sem, seval, h1, Option.some.injEq, AV.c.injEq, AV.agg.injEq, CV.v.injEq, Value.int.injEq, Value.bool.injEq, Row.raw.injEq, List.cons.injEq, CV.sl.injEq, and_true, true_and, and_self]
    rw [e]
  · cases h2 : inB k 2 4096
    · have e : coinsF n k = 0 := by unfold coinsF; rw [if_neg (by rw [h2]; simp)]
      have gok := (Gam.cons_ok E27_ok (Gam.nil_ok _))
      refine callOk' Try.func18 17 [.tmp 4] _ rfl rfl rfl (by kernel_rfl) (by simp) [] rfl rfl (by simp) ?_
      simp only [params]
      refine AWP.sR gok [0, 1] (by apply aops_x (d := 4) (ag_n rfl) rfl (by first | (simp (disch := decide) only [h1, h2, go_sem, seval] <;> rfl) | (simp (disch := first | decide | omega) only [if_pos, nws, h1, h2, go_sem, seval] <;> rfl)) rfl; apply aops_end; rfl) (by (simp (disch := omega) only [go_sem, seval, lay, nws]); rfl) ?_
      refine AWP.seq ?_
      refine AWP.sR gok [0, 1, 12] (by apply aops_mv (t := 0) (d := 5) (ag_n rfl) rfl rfl (by first | (simp only [look_lay, look, seval] <;> rfl) | fail) rfl; apply aops_x (d := 6) (ag_n rfl) rfl (by (simp (disch := first | decide | omega) only [if_pos, nws, h1, h2, go_sem, seval] <;> rfl)) rfl; apply aops_x (d := 7) (ag_n rfl) rfl (by first | (simp (disch := decide) only [h1, h2, go_sem, seval] <;> rfl) | (simp (disch := first | decide | omega) only [if_pos, nws, h1, h2, go_sem, seval] <;> rfl)) rfl; apply aops_mv (t := 7) (d := 8) (ag_n rfl) rfl rfl (by first | (simp only [look_lay, look, seval] <;> rfl) | fail) rfl; (first | apply aops_mv (t := 1) (d := 9) (ag_b (j := 3) (d := 8) rfl rfl rfl (by first | (simp only [look_lay, look, seval] <;> rfl) | fail) rfl) rfl rfl (by first | (simp only [look_lay, look, seval] <;> rfl) | fail) rfl | apply aops_ps (d := 9) (by first | exact ag_f (j := 3) (d := 8) rfl rfl rfl (by first | (simp only [look_lay, look, seval] <;> rfl) | fail) rfl | exact ag_u (j := 3) (d := 8) rfl rfl rfl (by first | (simp only [look_lay, look, seval] <;> rfl) | fail) | fail) rfl rfl); (first | apply aops_x (d := 10) (ag_b (j := 3) (d := 8) rfl rfl rfl (by first | (simp only [look_lay, look, seval] <;> rfl) | fail) rfl) rfl (by (simp (disch := first | decide | omega) only [if_pos, nws, h1, h2, go_sem, seval] <;> rfl)) rfl | apply aops_ps (d := 10) (by first | exact ag_f (j := 3) (d := 8) rfl rfl rfl (by first | (simp only [look_lay, look, seval] <;> rfl) | fail) rfl | exact ag_u (j := 3) (d := 8) rfl rfl rfl (by first | (simp only [look_lay, look, seval] <;> rfl) | fail) | fail) rfl rfl); (first | apply aops_x (d := 11) (ag_b (j := 3) (d := 8) rfl rfl rfl (by first | (simp only [look_lay, look, seval] <;> rfl) | fail) rfl) rfl (by first | (simp (disch := decide) only [h1, h2, go_sem, seval] <;> rfl) | (simp (disch := first | decide | omega) only [if_pos, nws, h1, h2, go_sem, seval] <;> rfl)) rfl | apply aops_ps (d := 11) (by first | exact ag_f (j := 3) (d := 8) rfl rfl rfl (by first | (simp only [look_lay, look, seval] <;> rfl) | fail) rfl | exact ag_u (j := 3) (d := 8) rfl rfl rfl (by first | (simp only [look_lay, look, seval] <;> rfl) | fail) | fail) rfl rfl); apply aops_x (d := 12) (ag_n rfl) rfl (by first | (simp (disch := decide) only [h1, h2, go_sem, seval] <;> rfl) | (simp (disch := first | decide | omega) only [if_pos, nws, h1, h2, go_sem, seval] <;> rfl)) rfl; apply aops_end; rfl) (by (simp (disch := omega) only [go_sem, seval, lay, nws]); rfl) ?_
      refine AWP.condT (b := _) rfl rfl ?_
      refine AWP.sR gok [4] (by apply aops_x (d := 4) (ag_n rfl) rfl (by first | (simp (disch := decide) only [h1, h2, go_sem, seval] <;> rfl) | (simp (disch := first | decide | omega) only [if_pos, nws, h1, h2, go_sem, seval] <;> rfl)) rfl; apply aops_end; rfl) (by (simp (disch := omega) only [go_sem, seval, lay, nws]); rfl) ?_
      refine AWP.ret ?_
      refine ⟨.inr rfl, _, (by simp only [go_sem, seval, h1, h2] <;> rfl), ?_⟩
      simp only [go_sem, seval, h1, h2, Option.some.injEq, AV.c.injEq, AV.agg.injEq, CV.v.injEq, Value.int.injEq, Value.bool.injEq, Row.raw.injEq, List.cons.injEq, CV.sl.injEq, and_true, true_and, and_self]
      rw [e]
    · have e : coinsF n k = n * (k - 1) := by unfold coinsF; rw [if_pos ⟨h1, h2⟩]
      obtain ⟨n1, n2⟩ := inB_true h1
      obtain ⟨k1, k2⟩ := inB_true h2
      have p0 : 0 ≤ n * (k - 1) := Int.mul_nonneg (by omega) (by omega)
      have p1 : n * (k - 1) ≤ 4096 * 4095 := Int.mul_le_mul n2 (by omega) (by omega) (by omega)
      have gok := (Gam.cons_ok E27_ok (Gam.nil_ok _))
      refine callOk' Try.func18 17 [.tmp 4] _ rfl rfl rfl (by kernel_rfl) (by simp) [] rfl rfl (by simp) ?_
      simp only [params]
      refine AWP.sR gok [0, 1] (by apply aops_x (d := 4) (ag_n rfl) rfl (by first | (simp (disch := decide) only [h1, h2, go_sem, seval] <;> rfl) | (simp (disch := first | decide | omega) only [if_pos, nws, h1, h2, go_sem, seval] <;> rfl)) rfl; apply aops_end; rfl) (by (simp (disch := omega) only [go_sem, seval, lay, nws]); rfl) ?_
      refine AWP.seq ?_
      refine AWP.sR gok [0, 1, 12] (by apply aops_mv (t := 0) (d := 5) (ag_n rfl) rfl rfl (by first | (simp only [look_lay, look, seval] <;> rfl) | fail) rfl; apply aops_x (d := 6) (ag_n rfl) rfl (by (simp (disch := first | decide | omega) only [if_pos, nws, h1, h2, go_sem, seval] <;> rfl)) rfl; apply aops_x (d := 7) (ag_n rfl) rfl (by first | (simp (disch := decide) only [h1, h2, go_sem, seval] <;> rfl) | (simp (disch := first | decide | omega) only [if_pos, nws, h1, h2, go_sem, seval] <;> rfl)) rfl; apply aops_mv (t := 7) (d := 8) (ag_n rfl) rfl rfl (by first | (simp only [look_lay, look, seval] <;> rfl) | fail) rfl; (first | apply aops_mv (t := 1) (d := 9) (ag_b (j := 3) (d := 8) rfl rfl rfl (by first | (simp only [look_lay, look, seval] <;> rfl) | fail) rfl) rfl rfl (by first | (simp only [look_lay, look, seval] <;> rfl) | fail) rfl | apply aops_ps (d := 9) (by first | exact ag_f (j := 3) (d := 8) rfl rfl rfl (by first | (simp only [look_lay, look, seval] <;> rfl) | fail) rfl | exact ag_u (j := 3) (d := 8) rfl rfl rfl (by first | (simp only [look_lay, look, seval] <;> rfl) | fail) | fail) rfl rfl); (first | apply aops_x (d := 10) (ag_b (j := 3) (d := 8) rfl rfl rfl (by first | (simp only [look_lay, look, seval] <;> rfl) | fail) rfl) rfl (by (simp (disch := first | decide | omega) only [if_pos, nws, h1, h2, go_sem, seval] <;> rfl)) rfl | apply aops_ps (d := 10) (by first | exact ag_f (j := 3) (d := 8) rfl rfl rfl (by first | (simp only [look_lay, look, seval] <;> rfl) | fail) rfl | exact ag_u (j := 3) (d := 8) rfl rfl rfl (by first | (simp only [look_lay, look, seval] <;> rfl) | fail) | fail) rfl rfl); (first | apply aops_x (d := 11) (ag_b (j := 3) (d := 8) rfl rfl rfl (by first | (simp only [look_lay, look, seval] <;> rfl) | fail) rfl) rfl (by first | (simp (disch := decide) only [h1, h2, go_sem, seval] <;> rfl) | (simp (disch := first | decide | omega) only [if_pos, nws, h1, h2, go_sem, seval] <;> rfl)) rfl | apply aops_ps (d := 11) (by first | exact ag_f (j := 3) (d := 8) rfl rfl rfl (by first | (simp only [look_lay, look, seval] <;> rfl) | fail) rfl | exact ag_u (j := 3) (d := 8) rfl rfl rfl (by first | (simp only [look_lay, look, seval] <;> rfl) | fail) | fail) rfl rfl); apply aops_x (d := 12) (ag_n rfl) rfl (by first | (simp (disch := decide) only [h1, h2, go_sem, seval] <;> rfl) | (simp (disch := first | decide | omega) only [if_pos, nws, h1, h2, go_sem, seval] <;> rfl)) rfl; apply aops_end; rfl) (by (simp (disch := omega) only [go_sem, seval, lay, nws]); rfl) ?_
      refine AWP.condF (b := _) rfl rfl ?_
      refine AWP.skip ?_
      change AWP _ _ _ _ _
      refine AWP.sR gok [4] (by apply aops_mv (t := 0) (d := 13) (ag_n rfl) rfl rfl (by first | (simp only [look_lay, look, seval] <;> rfl) | fail) rfl; apply aops_mv (t := 1) (d := 14) (ag_n rfl) rfl rfl (by first | (simp only [look_lay, look, seval] <;> rfl) | fail) rfl; apply aops_x (d := 15) (ag_n rfl) rfl (by first | (simp (disch := decide) only [h1, h2, go_sem, seval] <;> rfl) | (simp (disch := first | decide | omega) only [if_pos, nws, h1, h2, go_sem, seval] <;> rfl)) rfl; apply aops_x (d := 16) (ag_n rfl) rfl (by first | (simp (disch := decide) only [h1, h2, go_sem, seval] <;> rfl) | (simp (disch := first | decide | omega) only [if_pos, nws, h1, h2, go_sem, seval] <;> rfl)) rfl; apply aops_as (t := 16) (d := 4) (ag_n rfl) rfl rfl (by first | (simp only [look_lay, look, seval] <;> rfl) | fail) rfl; apply aops_end; rfl) (by (simp (disch := omega) only [go_sem, seval, lay, nws]); rfl) ?_
      refine AWP.ret ?_
      refine ⟨.inr rfl, _, (by simp only [go_sem, seval, h1, h2] <;> rfl), ?_⟩
      simp only [go_sem, seval, h1, h2, Option.some.injEq, AV.c.injEq, AV.agg.injEq, CV.v.injEq, Value.int.injEq, Value.bool.injEq, Row.raw.injEq, List.cons.injEq, CV.sl.injEq, and_true, true_and, and_self]
      rw [e]
theorem E18_ok : EntryOk Try.prog 18 E18 := pureN_ok (fun d hc => K18 d.1 d.2.1 hc) (fun _ => rfl) (fun _ => rfl)
attribute [go_sem] E18 c18 r18 L18
end Go.Proofs.Ytggomleegbnhbaa
