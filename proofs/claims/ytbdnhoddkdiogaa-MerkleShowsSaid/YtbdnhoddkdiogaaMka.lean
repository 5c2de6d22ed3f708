import Derived.Test.YtbdnhoddkdiogaaMk9
set_option linter.unusedSimpArgs false
set_option linter.unusedVariables false
namespace Go.Proofs.Ytbdnhoddkdiogaa
open Go.RowKit
def fewF (l : List (List Int)) : Bool := l.all (fun t => decide (t.length ≤ 20)) && decide (l.length ≤ 12)
theorem fewF_spec {l : List (List Int)} (h : fewF l = true) : l.length ≤ 12 ∧ ∀ t ∈ l, t.length ≤ 20 := by
  unfold fewF at h
  rw [Bool.and_eq_true, List.all_eq_true] at h
  exact ⟨of_decide_eq_true h.2, fun t ht => of_decide_eq_true (h.1 t ht)⟩
abbrev c27 (l : (List (List Int))) : Prop := l.length ≤ 9223372036854775807
abbrev r27 (l : (List (List Int))) : AV := .c (cb (fewF l))
abbrev L27 (l : (List (List Int))) : Hp := []
def E27 : Entry := pureN [(.sl (.sl (.i .u8)))] (fun d => c27 d.1) (fun d => r27 d.1) (fun d => L27 d.1)
set_option maxRecDepth 100000 in
set_option maxHeartbeats 4000000 in
theorem K27 (l : (List (List Int))) (hc : c27 l) : CallOk Try.prog 27 [.c (.rs (.sl (.i .u8)) l)] [] (r27 l) (L27 l) := by
  have hc : l.length ≤ 9223372036854775807 := hc
  refine callOk' Try.func27 19 [.tmp 2] _ rfl rfl rfl (by kernel_rfl) (by simp) [] rfl rfl (by simp) ?_
  simp only [params]
  refine AWP.sR (Gam.nil_ok _) [0] (by apply aops_x (d := 2) (ag_n rfl) rfl (by first | (simp (disch := decide) only [go_sem, ↓reduceIte, reduceCtorEq, Nat.reduceLT, Nat.reduceEqDiff, Nat.reduceAdd, Nat.reduceMul, Nat.reduceSub, Nat.reduceBEq, Int.reduceLE, Int.reduceLT, Int.reduceEq, Int.reduceNe, Int.reduceNeg, Int.reduceSub, Int.reduceAdd, Int.reduceMul, decide_true, decide_false] <;> rfl) | (simp (disch := first | decide | omega) only [if_pos, wrap_i64', wrap_u64', wrap_u8', wrap_u32', wrap_i32', wrap_u16', tdiv_nn, tmod_nn, Int.toNat_natCast, Int.toNat_zero, getElem?_get, List.getElem_cons_zero, List.getElem_cons_succ, go_sem, ↓reduceIte, reduceCtorEq, Nat.reduceLT, Nat.reduceEqDiff, Nat.reduceAdd, Nat.reduceMul, Nat.reduceSub, Nat.reduceBEq, Int.reduceLE, Int.reduceLT, Int.reduceEq, Int.reduceNe, Int.reduceNeg, Int.reduceSub, Int.reduceAdd, Int.reduceMul, decide_true, decide_false] <;> rfl)) rfl; apply aops_end; rfl) (by (simp (disch := omega) only [go_sem, ↓reduceIte, reduceCtorEq, Nat.reduceLT, Nat.reduceEqDiff, Nat.reduceAdd, Nat.reduceMul, Nat.reduceSub, Nat.reduceBEq, Int.reduceLE, Int.reduceLT, Int.reduceEq, Int.reduceNe, Int.reduceNeg, Int.reduceSub, Int.reduceAdd, Int.reduceMul, decide_true, decide_false, lay, wrap_i64', wrap_u64', wrap_u8', wrap_u32', wrap_i32', wrap_u16', tdiv_nn, tmod_nn, Int.toNat_natCast, Int.toNat_zero, getElem?_get, List.getElem_cons_zero, List.getElem_cons_succ]); rfl) ?_
  refine AWP.seq ?_
  refine AWP.sR (Gam.nil_ok _) [0, 5, 6] (by apply aops_mv (t := 0) (d := 4) (ag_n rfl) rfl rfl (by simp only [look_lay, look, Nat.reduceEqDiff, ↓reduceIte] <;> rfl) rfl; apply aops_x (d := 5) (ag_n rfl) rfl (by first | (simp (disch := decide) only [go_sem, ↓reduceIte, reduceCtorEq, Nat.reduceLT, Nat.reduceEqDiff, Nat.reduceAdd, Nat.reduceMul, Nat.reduceSub, Nat.reduceBEq, Int.reduceLE, Int.reduceLT, Int.reduceEq, Int.reduceNe, Int.reduceNeg, Int.reduceSub, Int.reduceAdd, Int.reduceMul, decide_true, decide_false] <;> rfl) | (simp (disch := first | decide | omega) only [if_pos, wrap_i64', wrap_u64', wrap_u8', wrap_u32', wrap_i32', wrap_u16', tdiv_nn, tmod_nn, Int.toNat_natCast, Int.toNat_zero, getElem?_get, List.getElem_cons_zero, List.getElem_cons_succ, go_sem, ↓reduceIte, reduceCtorEq, Nat.reduceLT, Nat.reduceEqDiff, Nat.reduceAdd, Nat.reduceMul, Nat.reduceSub, Nat.reduceBEq, Int.reduceLE, Int.reduceLT, Int.reduceEq, Int.reduceNe, Int.reduceNeg, Int.reduceSub, Int.reduceAdd, Int.reduceMul, decide_true, decide_false] <;> rfl)) rfl; apply aops_x (d := 6) (ag_n rfl) rfl (by first | (simp (disch := decide) only [go_sem, ↓reduceIte, reduceCtorEq, Nat.reduceLT, Nat.reduceEqDiff, Nat.reduceAdd, Nat.reduceMul, Nat.reduceSub, Nat.reduceBEq, Int.reduceLE, Int.reduceLT, Int.reduceEq, Int.reduceNe, Int.reduceNeg, Int.reduceSub, Int.reduceAdd, Int.reduceMul, decide_true, decide_false] <;> rfl) | (simp (disch := first | decide | omega) only [if_pos, wrap_i64', wrap_u64', wrap_u8', wrap_u32', wrap_i32', wrap_u16', tdiv_nn, tmod_nn, Int.toNat_natCast, Int.toNat_zero, getElem?_get, List.getElem_cons_zero, List.getElem_cons_succ, go_sem, ↓reduceIte, reduceCtorEq, Nat.reduceLT, Nat.reduceEqDiff, Nat.reduceAdd, Nat.reduceMul, Nat.reduceSub, Nat.reduceBEq, Int.reduceLE, Int.reduceLT, Int.reduceEq, Int.reduceNe, Int.reduceNeg, Int.reduceSub, Int.reduceAdd, Int.reduceMul, decide_true, decide_false] <;> rfl)) rfl; apply aops_end; rfl) (by (simp (disch := omega) only [go_sem, ↓reduceIte, reduceCtorEq, Nat.reduceLT, Nat.reduceEqDiff, Nat.reduceAdd, Nat.reduceMul, Nat.reduceSub, Nat.reduceBEq, Int.reduceLE, Int.reduceLT, Int.reduceEq, Int.reduceNe, Int.reduceNeg, Int.reduceSub, Int.reduceAdd, Int.reduceMul, decide_true, decide_false, lay, wrap_i64', wrap_u64', wrap_u8', wrap_u32', wrap_i32', wrap_u16', tdiv_nn, tmod_nn, Int.toNat_natCast, Int.toNat_zero, getElem?_get, List.getElem_cons_zero, List.getElem_cons_succ]); rfl) ?_
  refine AWP.block ?_
  refine AWP.loopP (fun (p : Nat) => ⟨19, [(0, .c (.rs (.sl (.i .u8)) l)), (5, .c (ci .i64 (l.length : Int))), (6, .c (ci .i64 (p : Int)))], []⟩) (fun p => p ≤ l.length ∧ (l.take p).all (fun t => decide (t.length ≤ 20)) = true) (fun p => l.length - p) 0 (Ghost.refl _ _) ⟨by simp, by simp⟩ ?_
  rintro i ⟨hi, ha⟩
  refine AWP.sR (Gam.nil_ok _) [0, 5, 6, 7] (by apply aops_x (d := 7) (ag_n rfl) rfl (by first | (simp (disch := decide) only [go_sem, ↓reduceIte, reduceCtorEq, Nat.reduceLT, Nat.reduceEqDiff, Nat.reduceAdd, Nat.reduceMul, Nat.reduceSub, Nat.reduceBEq, Int.reduceLE, Int.reduceLT, Int.reduceEq, Int.reduceNe, Int.reduceNeg, Int.reduceSub, Int.reduceAdd, Int.reduceMul, decide_true, decide_false] <;> rfl) | (simp (disch := first | decide | omega) only [if_pos, wrap_i64', wrap_u64', wrap_u8', wrap_u32', wrap_i32', wrap_u16', tdiv_nn, tmod_nn, Int.toNat_natCast, Int.toNat_zero, getElem?_get, List.getElem_cons_zero, List.getElem_cons_succ, go_sem, ↓reduceIte, reduceCtorEq, Nat.reduceLT, Nat.reduceEqDiff, Nat.reduceAdd, Nat.reduceMul, Nat.reduceSub, Nat.reduceBEq, Int.reduceLE, Int.reduceLT, Int.reduceEq, Int.reduceNe, Int.reduceNeg, Int.reduceSub, Int.reduceAdd, Int.reduceMul, decide_true, decide_false] <;> rfl)) rfl; apply aops_end; rfl) (by (simp (disch := omega) only [go_sem, ↓reduceIte, reduceCtorEq, Nat.reduceLT, Nat.reduceEqDiff, Nat.reduceAdd, Nat.reduceMul, Nat.reduceSub, Nat.reduceBEq, Int.reduceLE, Int.reduceLT, Int.reduceEq, Int.reduceNe, Int.reduceNeg, Int.reduceSub, Int.reduceAdd, Int.reduceMul, decide_true, decide_false, lay, wrap_i64', wrap_u64', wrap_u8', wrap_u32', wrap_i32', wrap_u16', tdiv_nn, tmod_nn, Int.toNat_natCast, Int.toNat_zero, getElem?_get, List.getElem_cons_zero, List.getElem_cons_succ]); rfl) ?_
  refine AWP.seq ?_
  refine AWP.cond (b := _) rfl (fun h => ?_) (fun h => ?_) <;> (try simp only [decide_eq_true_eq, decide_eq_false_iff_not] at h)
  · skip
    refine AWP.skip ?_
    change AWP _ _ _ _ _
    refine AWP.seqBlock ?_
    have h' : i < l.length := by omega
    obtain ⟨x, hx⟩ : ∃ x, l[i]? = some x := ⟨_, List.getElem?_eq_getElem h'⟩
    refine AWP.sR (Gam.nil_ok _) [0, 3, 5, 6] (by apply aops_mv (t := 6) (d := 8) (ag_n rfl) rfl rfl (by simp only [look_lay, look, Nat.reduceEqDiff, ↓reduceIte] <;> rfl) rfl; apply aops_as (t := 8) (d := 3) (ag_n rfl) rfl rfl (by simp only [look_lay, look, Nat.reduceEqDiff, ↓reduceIte] <;> rfl) rfl; apply aops_end; rfl) (by (simp (disch := omega) only [go_sem, ↓reduceIte, reduceCtorEq, Nat.reduceLT, Nat.reduceEqDiff, Nat.reduceAdd, Nat.reduceMul, Nat.reduceSub, Nat.reduceBEq, Int.reduceLE, Int.reduceLT, Int.reduceEq, Int.reduceNe, Int.reduceNeg, Int.reduceSub, Int.reduceAdd, Int.reduceMul, decide_true, decide_false, lay, wrap_i64', wrap_u64', wrap_u8', wrap_u32', wrap_i32', wrap_u16', tdiv_nn, tmod_nn, Int.toNat_natCast, Int.toNat_zero, getElem?_get, List.getElem_cons_zero, List.getElem_cons_succ]); rfl) ?_
    refine AWP.sR (Gam.nil_ok _) [0, 5, 6, 14] (by apply aops_mv (t := 0) (d := 9) (ag_n rfl) rfl rfl (by simp only [look_lay, look, Nat.reduceEqDiff, ↓reduceIte] <;> rfl) rfl; apply aops_mv (t := 3) (d := 10) (ag_n rfl) rfl rfl (by simp only [look_lay, look, Nat.reduceEqDiff, ↓reduceIte] <;> rfl) rfl; apply aops_x (d := 11) (ag_n rfl) rfl (by (simp (disch := first | decide | omega) only [if_pos, wrap_i64', wrap_u64', wrap_u8', wrap_u32', wrap_i32', wrap_u16', tdiv_nn, tmod_nn, Int.toNat_natCast, Int.toNat_zero, getElem?_get, List.getElem_cons_zero, List.getElem_cons_succ, hx, go_sem, ↓reduceIte, reduceCtorEq, Nat.reduceLT, Nat.reduceEqDiff, Nat.reduceAdd, Nat.reduceMul, Nat.reduceSub, Nat.reduceBEq, Int.reduceLE, Int.reduceLT, Int.reduceEq, Int.reduceNe, Int.reduceNeg, Int.reduceSub, Int.reduceAdd, Int.reduceMul, decide_true, decide_false] <;> rfl)) rfl; apply aops_x (d := 12) (ag_n rfl) rfl (by first | (simp (disch := decide) only [hx, go_sem, ↓reduceIte, reduceCtorEq, Nat.reduceLT, Nat.reduceEqDiff, Nat.reduceAdd, Nat.reduceMul, Nat.reduceSub, Nat.reduceBEq, Int.reduceLE, Int.reduceLT, Int.reduceEq, Int.reduceNe, Int.reduceNeg, Int.reduceSub, Int.reduceAdd, Int.reduceMul, decide_true, decide_false] <;> rfl) | (simp (disch := first | decide | omega) only [if_pos, wrap_i64', wrap_u64', wrap_u8', wrap_u32', wrap_i32', wrap_u16', tdiv_nn, tmod_nn, Int.toNat_natCast, Int.toNat_zero, getElem?_get, List.getElem_cons_zero, List.getElem_cons_succ, hx, go_sem, ↓reduceIte, reduceCtorEq, Nat.reduceLT, Nat.reduceEqDiff, Nat.reduceAdd, Nat.reduceMul, Nat.reduceSub, Nat.reduceBEq, Int.reduceLE, Int.reduceLT, Int.reduceEq, Int.reduceNe, Int.reduceNeg, Int.reduceSub, Int.reduceAdd, Int.reduceMul, decide_true, decide_false] <;> rfl)) rfl; apply aops_x (d := 13) (ag_n rfl) rfl (by first | (simp (disch := decide) only [hx, go_sem, ↓reduceIte, reduceCtorEq, Nat.reduceLT, Nat.reduceEqDiff, Nat.reduceAdd, Nat.reduceMul, Nat.reduceSub, Nat.reduceBEq, Int.reduceLE, Int.reduceLT, Int.reduceEq, Int.reduceNe, Int.reduceNeg, Int.reduceSub, Int.reduceAdd, Int.reduceMul, decide_true, decide_false] <;> rfl) | (simp (disch := first | decide | omega) only [if_pos, wrap_i64', wrap_u64', wrap_u8', wrap_u32', wrap_i32', wrap_u16', tdiv_nn, tmod_nn, Int.toNat_natCast, Int.toNat_zero, getElem?_get, List.getElem_cons_zero, List.getElem_cons_succ, hx, go_sem, ↓reduceIte, reduceCtorEq, Nat.reduceLT, Nat.reduceEqDiff, Nat.reduceAdd, Nat.reduceMul, Nat.reduceSub, Nat.reduceBEq, Int.reduceLE, Int.reduceLT, Int.reduceEq, Int.reduceNe, Int.reduceNeg, Int.reduceSub, Int.reduceAdd, Int.reduceMul, decide_true, decide_false] <;> rfl)) rfl; apply aops_x (d := 14) (ag_n rfl) rfl (by first | (simp (disch := decide) only [hx, go_sem, ↓reduceIte, reduceCtorEq, Nat.reduceLT, Nat.reduceEqDiff, Nat.reduceAdd, Nat.reduceMul, Nat.reduceSub, Nat.reduceBEq, Int.reduceLE, Int.reduceLT, Int.reduceEq, Int.reduceNe, Int.reduceNeg, Int.reduceSub, Int.reduceAdd, Int.reduceMul, decide_true, decide_false] <;> rfl) | (simp (disch := first | decide | omega) only [if_pos, wrap_i64', wrap_u64', wrap_u8', wrap_u32', wrap_i32', wrap_u16', tdiv_nn, tmod_nn, Int.toNat_natCast, Int.toNat_zero, getElem?_get, List.getElem_cons_zero, List.getElem_cons_succ, hx, go_sem, ↓reduceIte, reduceCtorEq, Nat.reduceLT, Nat.reduceEqDiff, Nat.reduceAdd, Nat.reduceMul, Nat.reduceSub, Nat.reduceBEq, Int.reduceLE, Int.reduceLT, Int.reduceEq, Int.reduceNe, Int.reduceNeg, Int.reduceSub, Int.reduceAdd, Int.reduceMul, decide_true, decide_false] <;> rfl)) rfl; apply aops_end; rfl) (by (simp (disch := omega) only [go_sem, ↓reduceIte, reduceCtorEq, Nat.reduceLT, Nat.reduceEqDiff, Nat.reduceAdd, Nat.reduceMul, Nat.reduceSub, Nat.reduceBEq, Int.reduceLE, Int.reduceLT, Int.reduceEq, Int.reduceNe, Int.reduceNeg, Int.reduceSub, Int.reduceAdd, Int.reduceMul, decide_true, decide_false, lay, wrap_i64', wrap_u64', wrap_u8', wrap_u32', wrap_i32', wrap_u16', tdiv_nn, tmod_nn, Int.toNat_natCast, Int.toNat_zero, getElem?_get, List.getElem_cons_zero, List.getElem_cons_succ]); rfl) ?_
    refine AWP.cond (b := _) rfl (fun h => ?_) (fun h => ?_) <;> (try simp only [decide_eq_true_eq, decide_eq_false_iff_not] at h)
    · skip
      refine AWP.sR (Gam.nil_ok _) [2] (by apply aops_x (d := 2) (ag_n rfl) rfl (by first | (simp (disch := decide) only [go_sem, ↓reduceIte, reduceCtorEq, Nat.reduceLT, Nat.reduceEqDiff, Nat.reduceAdd, Nat.reduceMul, Nat.reduceSub, Nat.reduceBEq, Int.reduceLE, Int.reduceLT, Int.reduceEq, Int.reduceNe, Int.reduceNeg, Int.reduceSub, Int.reduceAdd, Int.reduceMul, decide_true, decide_false] <;> rfl) | (simp (disch := first | decide | omega) only [if_pos, wrap_i64', wrap_u64', wrap_u8', wrap_u32', wrap_i32', wrap_u16', tdiv_nn, tmod_nn, Int.toNat_natCast, Int.toNat_zero, getElem?_get, List.getElem_cons_zero, List.getElem_cons_succ, go_sem, ↓reduceIte, reduceCtorEq, Nat.reduceLT, Nat.reduceEqDiff, Nat.reduceAdd, Nat.reduceMul, Nat.reduceSub, Nat.reduceBEq, Int.reduceLE, Int.reduceLT, Int.reduceEq, Int.reduceNe, Int.reduceNeg, Int.reduceSub, Int.reduceAdd, Int.reduceMul, decide_true, decide_false] <;> rfl)) rfl; apply aops_end; rfl) (by (simp (disch := omega) only [go_sem, ↓reduceIte, reduceCtorEq, Nat.reduceLT, Nat.reduceEqDiff, Nat.reduceAdd, Nat.reduceMul, Nat.reduceSub, Nat.reduceBEq, Int.reduceLE, Int.reduceLT, Int.reduceEq, Int.reduceNe, Int.reduceNeg, Int.reduceSub, Int.reduceAdd, Int.reduceMul, decide_true, decide_false, lay, wrap_i64', wrap_u64', wrap_u8', wrap_u32', wrap_i32', wrap_u16', tdiv_nn, tmod_nn, Int.toNat_natCast, Int.toNat_zero, getElem?_get, List.getElem_cons_zero, List.getElem_cons_succ]); rfl) ?_
      refine AWP.ret ?_
      refine ⟨.inr rfl, _, (by simp only [go_sem, ↓reduceIte, reduceCtorEq, Nat.reduceLT, Nat.reduceEqDiff, Nat.reduceAdd, Nat.reduceMul, Nat.reduceSub, Nat.reduceBEq, Int.reduceLE, Int.reduceLT, Int.reduceEq, Int.reduceNe, Int.reduceNeg, Int.reduceSub, Int.reduceAdd, Int.reduceMul, decide_true, decide_false] <;> rfl), ?_⟩
      simp only [go_sem, ↓reduceIte, reduceCtorEq, Nat.reduceLT, Nat.reduceEqDiff, Nat.reduceAdd, Nat.reduceMul, Nat.reduceSub, Nat.reduceBEq, Int.reduceLE, Int.reduceLT, Int.reduceEq, Int.reduceNe, Int.reduceNeg, Int.reduceSub, Int.reduceAdd, Int.reduceMul, decide_true, decide_false, Option.some.injEq, AV.c.injEq, AV.agg.injEq, CV.v.injEq, Value.int.injEq, Value.bool.injEq, Row.raw.injEq, List.cons.injEq, CV.sl.injEq, and_true, true_and, and_self]
      unfold fewF
      have : l.all (fun t => decide (t.length ≤ 20)) = false := by
        rw [List.all_eq_false]
        exact ⟨x, List.mem_of_getElem? hx, by simp; omega⟩
      rw [this]; rfl
    · skip
      refine AWP.skip ?_
      change AWP _ _ _ _ _
      refine AWP.rT (Gam.nil_ok _) [0, 5, 6] (by apply aops_x (d := 15) (ag_n rfl) rfl (by first | (simp (disch := decide) only [go_sem, ↓reduceIte, reduceCtorEq, Nat.reduceLT, Nat.reduceEqDiff, Nat.reduceAdd, Nat.reduceMul, Nat.reduceSub, Nat.reduceBEq, Int.reduceLE, Int.reduceLT, Int.reduceEq, Int.reduceNe, Int.reduceNeg, Int.reduceSub, Int.reduceAdd, Int.reduceMul, decide_true, decide_false] <;> rfl) | (simp (disch := first | decide | omega) only [if_pos, wrap_i64', wrap_u64', wrap_u8', wrap_u32', wrap_i32', wrap_u16', tdiv_nn, tmod_nn, Int.toNat_natCast, Int.toNat_zero, getElem?_get, List.getElem_cons_zero, List.getElem_cons_succ, go_sem, ↓reduceIte, reduceCtorEq, Nat.reduceLT, Nat.reduceEqDiff, Nat.reduceAdd, Nat.reduceMul, Nat.reduceSub, Nat.reduceBEq, Int.reduceLE, Int.reduceLT, Int.reduceEq, Int.reduceNe, Int.reduceNeg, Int.reduceSub, Int.reduceAdd, Int.reduceMul, decide_true, decide_false] <;> rfl)) rfl; apply aops_mv (t := 15) (d := 6) (ag_n rfl) rfl rfl (by simp only [look_lay, look, Nat.reduceEqDiff, ↓reduceIte] <;> rfl) rfl; apply aops_end; rfl) (by (simp (disch := omega) only [go_sem, ↓reduceIte, reduceCtorEq, Nat.reduceLT, Nat.reduceEqDiff, Nat.reduceAdd, Nat.reduceMul, Nat.reduceSub, Nat.reduceBEq, Int.reduceLE, Int.reduceLT, Int.reduceEq, Int.reduceNe, Int.reduceNeg, Int.reduceSub, Int.reduceAdd, Int.reduceMul, decide_true, decide_false, lay, wrap_i64', wrap_u64', wrap_u8', wrap_u32', wrap_i32', wrap_u16', tdiv_nn, tmod_nn, Int.toNat_natCast, Int.toNat_zero, getElem?_get, List.getElem_cons_zero, List.getElem_cons_succ]); rfl) ?_
      refine ⟨i + 1, Ghost.refl _ _, ⟨by omega, ?_⟩, by omega⟩
      rw [List.take_add_one, hx, List.all_append, ha]
      simp; omega
  · skip
    refine AWP.exit ?_
    change AWP _ _ _ _ _
    refine AWP.sR (Gam.nil_ok _) [2] (by apply aops_mv (t := 0) (d := 16) (ag_n rfl) rfl rfl (by simp only [look_lay, look, Nat.reduceEqDiff, ↓reduceIte] <;> rfl) rfl; apply aops_x (d := 17) (ag_n rfl) rfl (by first | (simp (disch := decide) only [go_sem, ↓reduceIte, reduceCtorEq, Nat.reduceLT, Nat.reduceEqDiff, Nat.reduceAdd, Nat.reduceMul, Nat.reduceSub, Nat.reduceBEq, Int.reduceLE, Int.reduceLT, Int.reduceEq, Int.reduceNe, Int.reduceNeg, Int.reduceSub, Int.reduceAdd, Int.reduceMul, decide_true, decide_false] <;> rfl) | (simp (disch := first | decide | omega) only [if_pos, wrap_i64', wrap_u64', wrap_u8', wrap_u32', wrap_i32', wrap_u16', tdiv_nn, tmod_nn, Int.toNat_natCast, Int.toNat_zero, getElem?_get, List.getElem_cons_zero, List.getElem_cons_succ, go_sem, ↓reduceIte, reduceCtorEq, Nat.reduceLT, Nat.reduceEqDiff, Nat.reduceAdd, Nat.reduceMul, Nat.reduceSub, Nat.reduceBEq, Int.reduceLE, Int.reduceLT, Int.reduceEq, Int.reduceNe, Int.reduceNeg, Int.reduceSub, Int.reduceAdd, Int.reduceMul, decide_true, decide_false] <;> rfl)) rfl; apply aops_x (d := 18) (ag_n rfl) rfl (by first | (simp (disch := decide) only [go_sem, ↓reduceIte, reduceCtorEq, Nat.reduceLT, Nat.reduceEqDiff, Nat.reduceAdd, Nat.reduceMul, Nat.reduceSub, Nat.reduceBEq, Int.reduceLE, Int.reduceLT, Int.reduceEq, Int.reduceNe, Int.reduceNeg, Int.reduceSub, Int.reduceAdd, Int.reduceMul, decide_true, decide_false] <;> rfl) | (simp (disch := first | decide | omega) only [if_pos, wrap_i64', wrap_u64', wrap_u8', wrap_u32', wrap_i32', wrap_u16', tdiv_nn, tmod_nn, Int.toNat_natCast, Int.toNat_zero, getElem?_get, List.getElem_cons_zero, List.getElem_cons_succ, go_sem, ↓reduceIte, reduceCtorEq, Nat.reduceLT, Nat.reduceEqDiff, Nat.reduceAdd, Nat.reduceMul, Nat.reduceSub, Nat.reduceBEq, Int.reduceLE, Int.reduceLT, Int.reduceEq, Int.reduceNe, Int.reduceNeg, Int.reduceSub, Int.reduceAdd, Int.reduceMul, decide_true, decide_false] <;> rfl)) rfl; apply aops_as (t := 18) (d := 2) (ag_n rfl) rfl rfl (by simp only [look_lay, look, Nat.reduceEqDiff, ↓reduceIte] <;> rfl) rfl; apply aops_end; rfl) (by (simp (disch := omega) only [go_sem, ↓reduceIte, reduceCtorEq, Nat.reduceLT, Nat.reduceEqDiff, Nat.reduceAdd, Nat.reduceMul, Nat.reduceSub, Nat.reduceBEq, Int.reduceLE, Int.reduceLT, Int.reduceEq, Int.reduceNe, Int.reduceNeg, Int.reduceSub, Int.reduceAdd, Int.reduceMul, decide_true, decide_false, lay, wrap_i64', wrap_u64', wrap_u8', wrap_u32', wrap_i32', wrap_u16', tdiv_nn, tmod_nn, Int.toNat_natCast, Int.toNat_zero, getElem?_get, List.getElem_cons_zero, List.getElem_cons_succ]); rfl) ?_
    refine AWP.ret ?_
    refine ⟨.inr rfl, _, (by simp only [go_sem, ↓reduceIte, reduceCtorEq, Nat.reduceLT, Nat.reduceEqDiff, Nat.reduceAdd, Nat.reduceMul, Nat.reduceSub, Nat.reduceBEq, Int.reduceLE, Int.reduceLT, Int.reduceEq, Int.reduceNe, Int.reduceNeg, Int.reduceSub, Int.reduceAdd, Int.reduceMul, decide_true, decide_false] <;> rfl), ?_⟩
    simp only [go_sem, ↓reduceIte, reduceCtorEq, Nat.reduceLT, Nat.reduceEqDiff, Nat.reduceAdd, Nat.reduceMul, Nat.reduceSub, Nat.reduceBEq, Int.reduceLE, Int.reduceLT, Int.reduceEq, Int.reduceNe, Int.reduceNeg, Int.reduceSub, Int.reduceAdd, Int.reduceMul, decide_true, decide_false, Option.some.injEq, AV.c.injEq, AV.agg.injEq, CV.v.injEq, Value.int.injEq, Value.bool.injEq, Row.raw.injEq, List.cons.injEq, CV.sl.injEq, and_true, true_and, and_self]
    have e : i = l.length := by omega
    rw [e, List.take_length] at ha
    unfold fewF
    rw [ha, Bool.true_and]
    exact decide_eq_decide.2 (by omega)
theorem E27_ok : EntryOk Try.prog 27 E27 := pureN_ok (fun d hc => K27 d.1 hc) (fun _ => rfl) (fun _ => rfl)
/-! What is proved is shown. -/
theorem upF_app (ds ds' : List Bool) (p p' : List (List Int)) (d : List Int) (h : ds.length = p.length) : ∀ i, i ≤ ds.length → upF (ds ++ ds') (p ++ p') d i = upF ds p d i
  | 0, _ => rfl
  | i + 1, hi => by
    rw [upF, upF, upF_app ds ds' p p' d h i (by omega)]
    simp only [List.getD_eq_getElem?_getD]
    rw [List.getElem?_append_left (by omega), List.getElem?_append_left (by omega)]
theorem proof_shows : ∀ (n : Nat) (l : List (List Int)) (k : Nat), l.length = n → k < n → (dirsF k n).length = (besideF l k).length ∧ upF (dirsF k n).reverse (besideF l k) (leafF (l.getD k [])) (besideF l k).length = rootF l := fun n => by
  induction n using Nat.strongRecOn with
  | _ n ih =>
    intro l k hl hk
    by_cases h1 : n ≤ 1
    · have hk0 : k = 0 := by omega
      subst hk0
      rw [dirsF_1 0 n h1, besideF_1 l 0 (by omega), rootF_1 l (by omega)]
      refine ⟨rfl, ?_⟩
      cases l with
      | nil => simp at hl; omega
      | cons x l => rfl
    · have h2 : 2 ≤ n := by omega
      have sp := splitN_spec n h2
      have bf := besideF_2 l k (by omega)
      rw [hl] at bf
      rw [rootF_2 l (by omega), hl]
      by_cases hs : k < splitN n
      · rw [if_pos hs] at bf
        have d2 := dirsF_2 k n h2
        rw [if_neg (by omega)] at d2
        obtain ⟨i1, i2⟩ := ih (splitN n) sp.2.1 (l.take (splitN n)) k (by rw [List.length_take]; omega) hs
        rw [bf, d2]
        refine ⟨by simp [i1], ?_⟩
        rw [List.reverse_cons, List.length_append, List.length_cons, List.length_nil, Nat.zero_add, upF, upF_app _ _ _ _ _ (by rw [List.length_reverse, i1]) _ (by rw [List.length_reverse, i1]; exact Nat.le_refl _)]
        have e1 : ((dirsF k (splitN n)).reverse ++ [false]).getD (besideF (l.take (splitN n)) k).length false = false := by
          rw [List.getD_eq_getElem?_getD, List.getElem?_append_right (by rw [List.length_reverse, i1]; exact Nat.le_refl _), List.length_reverse, i1, Nat.sub_self]; rfl
        have e2 : (besideF (l.take (splitN n)) k ++ [rootF (l.drop (splitN n))]).getD (besideF (l.take (splitN n)) k).length [] = rootF (l.drop (splitN n)) := by
          rw [List.getD_eq_getElem?_getD, List.getElem?_append_right (Nat.le_refl _), Nat.sub_self]; rfl
        rw [e1, e2, if_neg (by simp)]
        congr 1
        rw [← i2]
        congr 2
        rw [List.getD_eq_getElem?_getD, List.getD_eq_getElem?_getD, List.getElem?_take_of_lt hs]
      · rw [if_neg hs] at bf
        have d2 := dirsF_2 k n h2
        rw [if_pos (by omega)] at d2
        obtain ⟨i1, i2⟩ := ih (n - splitN n) (by omega) (l.drop (splitN n)) (k - splitN n) (by rw [List.length_drop]; omega) (by omega)
        rw [bf, d2]
        refine ⟨by simp [i1], ?_⟩
        rw [List.reverse_cons, List.length_append, List.length_cons, List.length_nil, Nat.zero_add, upF, upF_app _ _ _ _ _ (by rw [List.length_reverse, i1]) _ (by rw [List.length_reverse, i1]; exact Nat.le_refl _)]
        have e1 : ((dirsF (k - splitN n) (n - splitN n)).reverse ++ [true]).getD (besideF (l.drop (splitN n)) (k - splitN n)).length false = true := by
          rw [List.getD_eq_getElem?_getD, List.getElem?_append_right (by rw [List.length_reverse, i1]; exact Nat.le_refl _), List.length_reverse, i1, Nat.sub_self]; rfl
        have e2 : (besideF (l.drop (splitN n)) (k - splitN n) ++ [rootF (l.take (splitN n))]).getD (besideF (l.drop (splitN n)) (k - splitN n)).length [] = rootF (l.take (splitN n)) := by
          rw [List.getD_eq_getElem?_getD, List.getElem?_append_right (Nat.le_refl _), Nat.sub_self]; rfl
        rw [e1, e2, if_pos rfl]
        congr 1
        rw [← i2]
        congr 2
        rw [List.getD_eq_getElem?_getD, List.getD_eq_getElem?_getD, List.getElem?_drop, show splitN n + (k - splitN n) = k by omega]
theorem besideF_ok : ∀ (l : List (List Int)) (k : Nat), digestsOk (besideF l k) := fun l => by
  generalize hn : l.length = n
  induction n using Nat.strongRecOn generalizing l with
  | _ n ih =>
    intro k
    by_cases h : l.length ≤ 1
    · rw [besideF_1 l k h]; intro d hd; simp at hd
    · have sp := splitN_spec l.length (by omega)
      have ap : ∀ (p : List (List Int)) (m : List (List Int)), digestsOk p → digestsOk (p ++ [rootF m]) := fun p m hp d hd => by
        rcases List.mem_append.1 hd with h | h
        · exact hp d h
        · rw [List.mem_singleton] at h; subst h; exact ⟨rootF_ok m, rootF_len m⟩
      rw [besideF_2 l k (by omega)]
      split
      · exact ap _ _ (ih _ (by rw [← hn]; exact sp.2.1) (l.take (splitN l.length)) (by rw [List.length_take]; omega) k)
      · exact ap _ _ (ih (l.length - splitN l.length) (by omega) (l.drop (splitN l.length)) (by rw [List.length_drop]) (k - splitN l.length))
theorem shows_true (l : List (List Int)) (k : Nat) (hk : k < l.length) (hl : l.length ≤ 1048576) : showsF (rootF l) (l.getD k []) k l.length (besideF l k) = true := by
  obtain ⟨h1, h2⟩ := proof_shows l.length l k rfl hk
  unfold showsF
  rw [if_pos (by omega), Int.toNat_natCast, Int.toNat_natCast, if_pos h1, h2]
  exact decide_eq_true rfl
theorem shows_len (l : List (List Int)) (k : Nat) (hk : k < l.length) (r t : List Int) (p : List (List Int)) (h : p.length ≠ (besideF l k).length) : showsF r t k l.length p = false := by
  obtain ⟨h1, -⟩ := proof_shows l.length l k rfl hk
  unfold showsF
  split
  · rw [Int.toNat_natCast, Int.toNat_natCast, if_neg (by omega)]
  · rfl
end Go.Proofs.Ytbdnhoddkdiogaa
