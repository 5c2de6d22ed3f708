import Derived.Test.YtonhglodnmoadaaHt6
set_option linter.unusedSimpArgs false
set_option linter.unusedVariables false
namespace Go.Proofs.Ytonhglodnmoadaa
open Go.RowKit
/-! Things are dropped by a closure. -/
abbrev opT : Ty := .pr (.i .i64) (.i .i64)
def dropP (A x : Int) : Bool := decide (A ≠ 0) && decide (x.tmod A = 0)
abbrev Fd : FuncId := 29
abbrev Fe : FuncId := 50
abbrev Fa : FuncId := 22
def rowAs (t : Ty) (H : Hp) (id : Nat) : Option (List t.D) := match hrow H id with | some (.ty t' ys) => castL t' t ys | _ => none
theorem rowAs_some {t : Ty} {H : Hp} {id : Nat} {xs : List t.D} (h : rowAs t H id = some xs) : H[id]? = some (some (.ty t xs)) := by
  unfold rowAs at h
  split at h
  · rename_i t' ys hr
    rw [castL_some h] at hr
    exact hrow_at hr
  · cases h
def fnRow (H : Hp) (b : Nat) : Option (FuncId × Nat) := match hrow H b with | some (.raw [.fn g [k]]) => some (g, k) | _ => none
theorem fnRow_some {H : Hp} {b : Nat} {g : FuncId} {k : Nat} (h : fnRow H b = some (g, k)) : H[b]? = some (some (.raw [.fn g [k]])) := by
  unfold fnRow at h
  split at h
  · rename_i hr; cases h; exact hrow_at hr
  · cases h
theorem lt_of {H : Hp} {b : Nat} {r : Option Row} (h : H[b]? = some r) : b < H.length := (List.getElem?_eq_some_iff.1 h).1
attribute [go_sem] rowAs fnRow
set_option maxRecDepth 100000
theorem K1 (x : Int × Int) (o : Int × Int) : CallOk Try.prog Fd [.agg (.ty thT [x]), .c (.ptr 0 0 1 0)] [some (.ty opT [o])] (.c (cb (dropP o.2 x.1))) [some (.ty opT [o])] := by
  by_cases hA : o.2 = 0
  · skip
    refine callOk' Try.func29 15 [.tmp 3] _ rfl rfl rfl (by kernel_rfl) (by simp) [0] rfl rfl (by simp) ?_
    simp only [params]
    refine AWP.sR (Gam.nil_ok _) [1, 2] (by apply aops_x (d := 2) (ag_n rfl) rfl (by first | (simp (disch := decide) only [hA, ne_eq, not_true_eq_false, decide_false, go_sem, seval] <;> rfl) | (simp (disch := first | decide | omega) only [if_pos, nws, hA, ne_eq, not_true_eq_false, decide_false, go_sem, seval] <;> rfl)) rfl; apply aops_x (d := 3) (ag_n rfl) rfl (by first | (simp (disch := decide) only [hA, ne_eq, not_true_eq_false, decide_false, go_sem, seval] <;> rfl) | (simp (disch := first | decide | omega) only [if_pos, nws, hA, ne_eq, not_true_eq_false, decide_false, go_sem, seval] <;> rfl)) rfl; apply aops_end; rfl) (by (simp (disch := omega) only [go_sem, seval, lay, nws]); rfl) ?_
    refine AWP.sR (Gam.nil_ok _) [3] (by apply aops_x (d := 4) (ag_n rfl) rfl (by first | (simp (disch := decide) only [hA, ne_eq, not_true_eq_false, decide_false, go_sem, seval] <;> rfl) | (simp (disch := first | decide | omega) only [if_pos, nws, hA, ne_eq, not_true_eq_false, decide_false, go_sem, seval] <;> rfl)) rfl; apply aops_x (d := 5) (ag_n rfl) rfl (by first | (simp (disch := decide) only [hA, ne_eq, not_true_eq_false, decide_false, go_sem, seval] <;> rfl) | (simp (disch := first | decide | omega) only [if_pos, nws, hA, ne_eq, not_true_eq_false, decide_false, go_sem, seval] <;> rfl)) rfl; apply aops_x (d := 6) (ag_n rfl) rfl (by first | (simp (disch := decide) only [hA, ne_eq, not_true_eq_false, decide_false, go_sem, seval] <;> rfl) | (simp (disch := first | decide | omega) only [if_pos, nws, hA, ne_eq, not_true_eq_false, decide_false, go_sem, seval] <;> rfl)) rfl; apply aops_mv (t := 6) (d := 7) (ag_n rfl) rfl rfl (by first | (simp only [look_lay, look, seval] <;> rfl) | fail) rfl; (first | apply aops_x (d := 8) (ag_b (j := 3) (d := 7) rfl rfl rfl (by first | (simp only [look_lay, look, seval] <;> rfl) | fail) rfl) rfl (by first | (simp (disch := decide) only [hA, ne_eq, not_true_eq_false, decide_false, go_sem, seval] <;> rfl) | (simp (disch := first | decide | omega) only [if_pos, nws, hA, ne_eq, not_true_eq_false, decide_false, go_sem, seval] <;> rfl)) rfl | apply aops_ps (d := 8) (by first | exact ag_f (j := 3) (d := 7) rfl rfl rfl (by first | (simp only [look_lay, look, seval] <;> rfl) | fail) rfl | exact ag_u (j := 3) (d := 7) rfl rfl rfl (by first | (simp only [look_lay, look, seval] <;> rfl) | fail) | fail) rfl rfl); (first | apply aops_x (d := 9) (ag_b (j := 3) (d := 7) rfl rfl rfl (by first | (simp only [look_lay, look, seval] <;> rfl) | fail) rfl) rfl (by first | (simp (disch := decide) only [hA, ne_eq, not_true_eq_false, decide_false, go_sem, seval] <;> rfl) | (simp (disch := first | decide | omega) only [if_pos, nws, hA, ne_eq, not_true_eq_false, decide_false, go_sem, seval] <;> rfl)) rfl | apply aops_ps (d := 9) (by first | exact ag_f (j := 3) (d := 7) rfl rfl rfl (by first | (simp only [look_lay, look, seval] <;> rfl) | fail) rfl | exact ag_u (j := 3) (d := 7) rfl rfl rfl (by first | (simp only [look_lay, look, seval] <;> rfl) | fail) | fail) rfl rfl); (first | apply aops_x (d := 10) (ag_b (j := 3) (d := 7) rfl rfl rfl (by first | (simp only [look_lay, look, seval] <;> rfl) | fail) rfl) rfl (by first | (simp (disch := decide) only [hA, ne_eq, not_true_eq_false, decide_false, go_sem, seval] <;> rfl) | (simp (disch := first | decide | omega) only [if_pos, nws, hA, ne_eq, not_true_eq_false, decide_false, go_sem, seval] <;> rfl)) rfl | apply aops_ps (d := 10) (by first | exact ag_f (j := 3) (d := 7) rfl rfl rfl (by first | (simp only [look_lay, look, seval] <;> rfl) | fail) rfl | exact ag_u (j := 3) (d := 7) rfl rfl rfl (by first | (simp only [look_lay, look, seval] <;> rfl) | fail) | fail) rfl rfl); (first | apply aops_x (d := 11) (ag_b (j := 3) (d := 7) rfl rfl rfl (by first | (simp only [look_lay, look, seval] <;> rfl) | fail) rfl) rfl (by first | (simp (disch := decide) only [hA, ne_eq, not_true_eq_false, decide_false, go_sem, seval] <;> rfl) | (simp (disch := first | decide | omega) only [if_pos, nws, hA, ne_eq, not_true_eq_false, decide_false, go_sem, seval] <;> rfl)) rfl | apply aops_ps (d := 11) (by first | exact ag_f (j := 3) (d := 7) rfl rfl rfl (by first | (simp only [look_lay, look, seval] <;> rfl) | fail) rfl | exact ag_u (j := 3) (d := 7) rfl rfl rfl (by first | (simp only [look_lay, look, seval] <;> rfl) | fail) | fail) rfl rfl); (first | apply aops_x (d := 12) (ag_b (j := 3) (d := 7) rfl rfl rfl (by first | (simp only [look_lay, look, seval] <;> rfl) | fail) rfl) rfl (by (simp (disch := first | decide | omega) only [if_pos, nws, hA, ne_eq, not_true_eq_false, decide_false, go_sem, seval] <;> rfl)) rfl | apply aops_ps (d := 12) (by first | exact ag_f (j := 3) (d := 7) rfl rfl rfl (by first | (simp only [look_lay, look, seval] <;> rfl) | fail) rfl | exact ag_u (j := 3) (d := 7) rfl rfl rfl (by first | (simp only [look_lay, look, seval] <;> rfl) | fail) | fail) rfl rfl); (first | apply aops_x (d := 13) (ag_b (j := 3) (d := 7) rfl rfl rfl (by first | (simp only [look_lay, look, seval] <;> rfl) | fail) rfl) rfl (by first | (simp (disch := decide) only [hA, ne_eq, not_true_eq_false, decide_false, go_sem, seval] <;> rfl) | (simp (disch := first | decide | omega) only [if_pos, nws, hA, ne_eq, not_true_eq_false, decide_false, go_sem, seval] <;> rfl)) rfl | apply aops_ps (d := 13) (by first | exact ag_f (j := 3) (d := 7) rfl rfl rfl (by first | (simp only [look_lay, look, seval] <;> rfl) | fail) rfl | exact ag_u (j := 3) (d := 7) rfl rfl rfl (by first | (simp only [look_lay, look, seval] <;> rfl) | fail) | fail) rfl rfl); apply aops_x (d := 14) (ag_n rfl) rfl (by first | (simp (disch := decide) only [hA, ne_eq, not_true_eq_false, decide_false, go_sem, seval] <;> rfl) | (simp (disch := first | decide | omega) only [if_pos, nws, hA, ne_eq, not_true_eq_false, decide_false, go_sem, seval] <;> rfl)) rfl; apply aops_as (t := 14) (d := 3) (ag_n rfl) rfl rfl (by first | (simp only [look_lay, look, seval] <;> rfl) | fail) rfl; apply aops_end; rfl) (by (simp (disch := omega) only [go_sem, seval, lay, nws]); rfl) ?_
    refine AWP.ret ?_
    refine ⟨.inr rfl, _, (by simp only [go_sem, seval, hA, ne_eq, not_true_eq_false, decide_false] <;> rfl), ?_⟩
    simp only [go_sem, seval, hA, ne_eq, not_true_eq_false, decide_false, Option.some.injEq, AV.c.injEq, AV.agg.injEq, CV.v.injEq, Value.int.injEq, Value.bool.injEq, Row.raw.injEq, List.cons.injEq, CV.sl.injEq, and_true, true_and, and_self]
    unfold dropP; simp [hA]
  · skip
    refine callOk' Try.func29 15 [.tmp 3] _ rfl rfl rfl (by kernel_rfl) (by simp) [0] rfl rfl (by simp) ?_
    simp only [params]
    refine AWP.sR (Gam.nil_ok _) [1, 2] (by apply aops_x (d := 2) (ag_n rfl) rfl (by first | (simp (disch := decide) only [hA, ne_eq, not_false_eq_true, decide_true, go_sem, seval] <;> rfl) | (simp (disch := first | decide | omega) only [if_pos, nws, hA, ne_eq, not_false_eq_true, decide_true, go_sem, seval] <;> rfl)) rfl; apply aops_x (d := 3) (ag_n rfl) rfl (by first | (simp (disch := decide) only [hA, ne_eq, not_false_eq_true, decide_true, go_sem, seval] <;> rfl) | (simp (disch := first | decide | omega) only [if_pos, nws, hA, ne_eq, not_false_eq_true, decide_true, go_sem, seval] <;> rfl)) rfl; apply aops_end; rfl) (by (simp (disch := omega) only [go_sem, seval, lay, nws]); rfl) ?_
    refine AWP.sR (Gam.nil_ok _) [3] (by apply aops_x (d := 4) (ag_n rfl) rfl (by first | (simp (disch := decide) only [hA, ne_eq, not_false_eq_true, decide_true, go_sem, seval] <;> rfl) | (simp (disch := first | decide | omega) only [if_pos, nws, hA, ne_eq, not_false_eq_true, decide_true, go_sem, seval] <;> rfl)) rfl; apply aops_x (d := 5) (ag_n rfl) rfl (by first | (simp (disch := decide) only [hA, ne_eq, not_false_eq_true, decide_true, go_sem, seval] <;> rfl) | (simp (disch := first | decide | omega) only [if_pos, nws, hA, ne_eq, not_false_eq_true, decide_true, go_sem, seval] <;> rfl)) rfl; apply aops_x (d := 6) (ag_n rfl) rfl (by first | (simp (disch := decide) only [hA, ne_eq, not_false_eq_true, decide_true, go_sem, seval] <;> rfl) | (simp (disch := first | decide | omega) only [if_pos, nws, hA, ne_eq, not_false_eq_true, decide_true, go_sem, seval] <;> rfl)) rfl; apply aops_mv (t := 6) (d := 7) (ag_n rfl) rfl rfl (by first | (simp only [look_lay, look, seval] <;> rfl) | fail) rfl; (first | apply aops_x (d := 8) (ag_b (j := 3) (d := 7) rfl rfl rfl (by first | (simp only [look_lay, look, seval] <;> rfl) | fail) rfl) rfl (by first | (simp (disch := decide) only [hA, ne_eq, not_false_eq_true, decide_true, go_sem, seval] <;> rfl) | (simp (disch := first | decide | omega) only [if_pos, nws, hA, ne_eq, not_false_eq_true, decide_true, go_sem, seval] <;> rfl)) rfl | apply aops_ps (d := 8) (by first | exact ag_f (j := 3) (d := 7) rfl rfl rfl (by first | (simp only [look_lay, look, seval] <;> rfl) | fail) rfl | exact ag_u (j := 3) (d := 7) rfl rfl rfl (by first | (simp only [look_lay, look, seval] <;> rfl) | fail) | fail) rfl rfl); (first | apply aops_x (d := 9) (ag_b (j := 3) (d := 7) rfl rfl rfl (by first | (simp only [look_lay, look, seval] <;> rfl) | fail) rfl) rfl (by first | (simp (disch := decide) only [hA, ne_eq, not_false_eq_true, decide_true, go_sem, seval] <;> rfl) | (simp (disch := first | decide | omega) only [if_pos, nws, hA, ne_eq, not_false_eq_true, decide_true, go_sem, seval] <;> rfl)) rfl | apply aops_ps (d := 9) (by first | exact ag_f (j := 3) (d := 7) rfl rfl rfl (by first | (simp only [look_lay, look, seval] <;> rfl) | fail) rfl | exact ag_u (j := 3) (d := 7) rfl rfl rfl (by first | (simp only [look_lay, look, seval] <;> rfl) | fail) | fail) rfl rfl); (first | apply aops_x (d := 10) (ag_b (j := 3) (d := 7) rfl rfl rfl (by first | (simp only [look_lay, look, seval] <;> rfl) | fail) rfl) rfl (by first | (simp (disch := decide) only [hA, ne_eq, not_false_eq_true, decide_true, go_sem, seval] <;> rfl) | (simp (disch := first | decide | omega) only [if_pos, nws, hA, ne_eq, not_false_eq_true, decide_true, go_sem, seval] <;> rfl)) rfl | apply aops_ps (d := 10) (by first | exact ag_f (j := 3) (d := 7) rfl rfl rfl (by first | (simp only [look_lay, look, seval] <;> rfl) | fail) rfl | exact ag_u (j := 3) (d := 7) rfl rfl rfl (by first | (simp only [look_lay, look, seval] <;> rfl) | fail) | fail) rfl rfl); (first | apply aops_x (d := 11) (ag_b (j := 3) (d := 7) rfl rfl rfl (by first | (simp only [look_lay, look, seval] <;> rfl) | fail) rfl) rfl (by first | (simp (disch := decide) only [hA, ne_eq, not_false_eq_true, decide_true, go_sem, seval] <;> rfl) | (simp (disch := first | decide | omega) only [if_pos, nws, hA, ne_eq, not_false_eq_true, decide_true, go_sem, seval] <;> rfl)) rfl | apply aops_ps (d := 11) (by first | exact ag_f (j := 3) (d := 7) rfl rfl rfl (by first | (simp only [look_lay, look, seval] <;> rfl) | fail) rfl | exact ag_u (j := 3) (d := 7) rfl rfl rfl (by first | (simp only [look_lay, look, seval] <;> rfl) | fail) | fail) rfl rfl); (first | apply aops_x (d := 12) (ag_b (j := 3) (d := 7) rfl rfl rfl (by first | (simp only [look_lay, look, seval] <;> rfl) | fail) rfl) rfl (by (simp (disch := first | decide | omega) only [if_pos, nws, hA, ne_eq, not_false_eq_true, decide_true, go_sem, seval] <;> rfl)) rfl | apply aops_ps (d := 12) (by first | exact ag_f (j := 3) (d := 7) rfl rfl rfl (by first | (simp only [look_lay, look, seval] <;> rfl) | fail) rfl | exact ag_u (j := 3) (d := 7) rfl rfl rfl (by first | (simp only [look_lay, look, seval] <;> rfl) | fail) | fail) rfl rfl); (first | apply aops_x (d := 13) (ag_b (j := 3) (d := 7) rfl rfl rfl (by first | (simp only [look_lay, look, seval] <;> rfl) | fail) rfl) rfl (by first | (simp (disch := decide) only [hA, ne_eq, not_false_eq_true, decide_true, go_sem, seval] <;> rfl) | (simp (disch := first | decide | omega) only [if_pos, nws, hA, ne_eq, not_false_eq_true, decide_true, go_sem, seval] <;> rfl)) rfl | apply aops_ps (d := 13) (by first | exact ag_f (j := 3) (d := 7) rfl rfl rfl (by first | (simp only [look_lay, look, seval] <;> rfl) | fail) rfl | exact ag_u (j := 3) (d := 7) rfl rfl rfl (by first | (simp only [look_lay, look, seval] <;> rfl) | fail) | fail) rfl rfl); apply aops_x (d := 14) (ag_n rfl) rfl (by first | (simp (disch := decide) only [hA, ne_eq, not_false_eq_true, decide_true, go_sem, seval] <;> rfl) | (simp (disch := first | decide | omega) only [if_pos, nws, hA, ne_eq, not_false_eq_true, decide_true, go_sem, seval] <;> rfl)) rfl; apply aops_as (t := 14) (d := 3) (ag_n rfl) rfl rfl (by first | (simp only [look_lay, look, seval] <;> rfl) | fail) rfl; apply aops_end; rfl) (by (simp (disch := omega) only [go_sem, seval, lay, nws]); rfl) ?_
    refine AWP.ret ?_
    refine ⟨.inr rfl, _, (by simp only [go_sem, seval, hA, ne_eq, not_false_eq_true, decide_true] <;> rfl), ?_⟩
    simp only [go_sem, seval, hA, ne_eq, not_false_eq_true, decide_true, Option.some.injEq, AV.c.injEq, AV.agg.injEq, CV.v.injEq, Value.int.injEq, Value.bool.injEq, Row.raw.injEq, List.cons.injEq, CV.sl.injEq, and_true, true_and, and_self]
    unfold dropP; simp [hA]
def E1 : Entry := fun args H => match args with
  | [x, .c (.ptr k 0 1 0)] => match view (dead [k] H) thT x, rowAs opT H k with
    | some d, some [o] => some (.c (cb (dropP o.2 d.1)), patch (ats [k] H.length) [k] [some (.ty opT [o])] H)
    | _, _ => none
  | _ => none
theorem E1_ok : EntryOk Try.prog Fd E1 := fun args H r H' h => by
  unfold E1 at h
  split at h
  · rename_i x k
    split at h
    · rename_i d o hv hr
      cases h
      have h1 := rowAs_some hr
      exact frameOk (C := H) [k] (K1 d o) rfl (by simp) rfl (by simp [lt_of h1]) (fun i q hq => by
        match i, hq with
        | 0, hq => cases hq; simpa [ats, Row.mapId] using h1) rfl (fun i y hy => by
        match i, hy with
        | 0, hy => cases hy; exact ⟨_, rfl, .inr ⟨thT, d, hv, rfl⟩⟩
        | 1, hy => cases hy; exact ⟨_, rfl, .inl (by simp [AV.map1, CV.mapId, ats])⟩) rfl (fun q hq => by simp at hq; subst hq; rfl)
    · cases h
  · cases h
attribute [go_sem] E1
theorem K2 (e : (Int × Int) × Int) (o : Int × Int) : CallOk Try.prog Fe [.agg (.ty enT [e]), .c (.ptr 0 0 1 0)] [some (.raw [.fn Fd [1]]), some (.ty opT [o])] (.c (cb (dropP o.2 e.1.1))) [some (.raw [.fn Fd [1]]), some (.ty opT [o])] := by
  have gok := Gam.cons_ok (f := Fd) E1_ok (Gam.nil_ok Try.prog)
  refine callOk' Try.func50 8 [.tmp 3] _ rfl rfl rfl (by kernel_rfl) (by simp) [0, 1] rfl rfl (by simp) ?_
  simp only [params]
  refine AWP.sR gok [1, 2] (by apply aops_x (d := 2) (ag_n rfl) rfl (by first | (simp (disch := decide) only [go_sem, seval] <;> rfl) | (simp (disch := first | decide | omega) only [if_pos, nws, go_sem, seval] <;> rfl)) rfl; apply aops_x (d := 3) (ag_n rfl) rfl (by first | (simp (disch := decide) only [go_sem, seval] <;> rfl) | (simp (disch := first | decide | omega) only [if_pos, nws, go_sem, seval] <;> rfl)) rfl; apply aops_end; rfl) (by (simp (disch := omega) only [go_sem, seval, lay, nws]); rfl) ?_
  refine AWP.sR gok [3] (by apply aops_x (d := 4) (ag_n rfl) rfl (by first | (simp (disch := decide) only [go_sem, seval] <;> rfl) | (simp (disch := first | decide | omega) only [if_pos, nws, go_sem, seval] <;> rfl)) rfl; apply aops_x (d := 5) (ag_n rfl) rfl (by first | (simp (disch := decide) only [go_sem, seval] <;> rfl) | (simp (disch := first | decide | omega) only [if_pos, nws, go_sem, seval] <;> rfl)) rfl; apply aops_x (d := 6) (ag_n rfl) rfl (by first | (simp (disch := decide) only [go_sem, seval] <;> rfl) | (simp (disch := first | decide | omega) only [if_pos, nws, go_sem, seval] <;> rfl)) rfl; apply aops_x (d := 7) (ag_n rfl) rfl (by (simp (disch := first | decide | omega) only [if_pos, nws, go_sem, seval] <;> rfl)) rfl; apply aops_as (t := 7) (d := 3) (ag_n rfl) rfl rfl (by first | (simp only [look_lay, look, seval] <;> rfl) | fail) rfl; apply aops_end; rfl) (by (simp (disch := omega) only [go_sem, seval, lay, nws]); rfl) ?_
  refine AWP.ret ?_
  refine ⟨.inr rfl, _, (by simp only [go_sem, seval] <;> rfl), ?_⟩
  simp only [go_sem, seval, Option.some.injEq, AV.c.injEq, AV.agg.injEq, CV.v.injEq, Value.int.injEq, Value.bool.injEq, Row.raw.injEq, List.cons.injEq, CV.sl.injEq, and_true, true_and, and_self]
  rfl
def E2 : Entry := fun args H => match args with
  | [x, .c (.ptr b 0 1 0)] => match fnRow H b with
    | some (g, k) => match view (dead [b, k] H) enT x, rowAs opT H k with
      | some d, some [o] => if g = Fd ∧ b ≠ k then some (.c (cb (dropP o.2 d.1.1)), patch (ats [b, k] H.length) [b, k] [some (.raw [.fn Fd [1]]), some (.ty opT [o])] H) else none
      | _, _ => none
    | none => none
  | _ => none
theorem E2_ok : EntryOk Try.prog Fe E2 := fun args H r H' h => by
  unfold E2 at h
  split at h
  · rename_i x b
    split at h
    · rename_i g k hf
      split at h
      · rename_i d o hv hr
        split at h
        · rename_i hc
          obtain ⟨rfl, hne⟩ := hc
          cases h
          have h1 := rowAs_some hr
          have h2 := fnRow_some hf
          exact frameOk (C := H) [b, k] (K2 d o) rfl (by simp) (by simp [nodupB, hne]) (by simp [lt_of h1, lt_of h2]) (fun i q hq => by
            match i, hq with
            | 0, hq => cases hq; simpa [ats, Row.mapId, CV.mapId] using h2
            | 1, hq => cases hq; simpa [ats, Row.mapId] using h1) rfl (fun i y hy => by
            match i, hy with
            | 0, hy => cases hy; exact ⟨_, rfl, .inr ⟨enT, d, hv, rfl⟩⟩
            | 1, hy => cases hy; exact ⟨_, rfl, .inl (by simp [AV.map1, CV.mapId, ats])⟩) rfl (fun q hq => by simp at hq; rcases hq with rfl | rfl <;> rfl)
        · cases h
      · cases h
    · cases h
  · cases h
attribute [go_sem] E2
/-- The first one that a test tells. -/
def fidx {α : Type} (p : α → Bool) (l : List α) : Int := if l.findIdx p < l.length then (l.findIdx p : Int) else -1
theorem fidx_at {α : Type} {p : α → Bool} {l : List α} {i : Nat} {x : α} (hx : l[i]? = some x) (hp : p x = true) (h : ∀ (j : Nat) (y : α), j < i → l[j]? = some y → p y = false) : fidx p l = (i : Int) := by
  have hi := (List.getElem?_eq_some_iff.1 hx).1
  have hxi : l[i] = x := (List.getElem?_eq_some_iff.1 hx).2
  have e : l.findIdx p = i := by
    rcases Nat.lt_trichotomy (l.findIdx p) i with hlt | heq | hgt
    · have := h _ _ hlt (List.getElem?_eq_getElem (by omega))
      have h2 := List.findIdx_getElem (xs := l) (p := p) (w := by omega)
      rw [this] at h2; cases h2
    · exact heq
    · have := List.not_of_lt_findIdx hgt
      rw [hxi, hp] at this; simp at this
  unfold fidx; rw [e, if_pos hi]
theorem fidx_none {α : Type} {p : α → Bool} {l : List α} (h : ∀ (j : Nat) (y : α), l[j]? = some y → p y = false) : fidx p l = -1 := by
  unfold fidx
  rw [if_neg]
  intro hlt
  have h1 := h _ _ (List.getElem?_eq_getElem hlt)
  have h2 := List.findIdx_getElem (xs := l) (p := p) (w := hlt)
  rw [h1] at h2; cases h2
abbrev dp (o : Int × Int) (e : (Int × Int) × Int) : Bool := dropP o.2 e.1.1
theorem K3 (l : List ((Int × Int) × Int)) (o : Int × Int) (hl : l.length ≤ 100000) : CallOk Try.prog 59 [.c (.rs enT l), .c (.fn Fe [0])] [some (.raw [.fn Fd [1]]), some (.ty opT [o])] (.c (ci .i64 (fidx (dp o) l))) [some (.raw [.fn Fd [1]]), some (.ty opT [o])] := by
  have gok := Gam.cons_ok (f := Fe) E2_ok (Gam.nil_ok Try.prog)
  refine callOk' Try.func59 19 [.tmp 4] _ rfl rfl rfl (by kernel_rfl) (by simp) [0, 1] rfl rfl (by simp) ?_
  simp only [params]
  refine AWP.sR gok [0, 1] (by apply aops_x (d := 4) (ag_n rfl) rfl (by first | (simp (disch := decide) only [go_sem, seval] <;> rfl) | (simp (disch := first | decide | omega) only [if_pos, nws, go_sem, seval] <;> rfl)) rfl; apply aops_end; rfl) (by (simp (disch := omega) only [go_sem, seval, lay, nws]); rfl) ?_
  refine AWP.seq ?_
  refine AWP.sR gok [0, 1, 7, 8] (by apply aops_mv (t := 0) (d := 6) (ag_n rfl) rfl rfl (by first | (simp only [look_lay, look, seval] <;> rfl) | fail) rfl; apply aops_x (d := 7) (ag_n rfl) rfl (by first | (simp (disch := decide) only [go_sem, seval] <;> rfl) | (simp (disch := first | decide | omega) only [if_pos, nws, go_sem, seval] <;> rfl)) rfl; apply aops_x (d := 8) (ag_n rfl) rfl (by first | (simp (disch := decide) only [go_sem, seval] <;> rfl) | (simp (disch := first | decide | omega) only [if_pos, nws, go_sem, seval] <;> rfl)) rfl; apply aops_end; rfl) (by (simp (disch := omega) only [go_sem, seval, lay, nws]); rfl) ?_
  refine AWP.block ?_
  refine AWP.loopP (fun (p : Nat) => ⟨19, [(0, .c (.rs enT l)), (1, .c (.fn Fe [0])), (7, .c (ci .i64 (l.length : Int))), (8, .c (ci .i64 (p : Int)))], [some (.raw [.fn Fd [1]]), some (.ty opT [o])]⟩) (fun p => p ≤ l.length ∧ ∀ j y, j < p → l[j]? = some y → dp o y = false) (fun p => l.length - p) 0 (Ghost.refl _ _) ⟨Nat.zero_le _, fun j y hj => absurd hj (Nat.not_lt_zero _)⟩ ?_
  rintro i ⟨hi, hp⟩
  refine AWP.sR gok [0, 1, 7, 8, 9] (by apply aops_x (d := 9) (ag_n rfl) rfl (by first | (simp (disch := decide) only [go_sem, seval] <;> rfl) | (simp (disch := first | decide | omega) only [if_pos, nws, go_sem, seval] <;> rfl)) rfl; apply aops_end; rfl) (by (simp (disch := omega) only [go_sem, seval, lay, nws]); rfl) ?_
  refine AWP.seq ?_
  refine AWP.cond (b := _) rfl (fun h => ?_) (fun h => ?_) <;> (try simp only [decide_eq_true_eq, decide_eq_false_iff_not] at h)
  · skip
    refine AWP.skip ?_
    change AWP _ _ _ _ _
    refine AWP.seqBlock ?_
    refine AWP.sR gok [0, 1, 5, 7, 8] (by apply aops_mv (t := 8) (d := 10) (ag_n rfl) rfl rfl (by first | (simp only [look_lay, look, seval] <;> rfl) | fail) rfl; apply aops_as (t := 10) (d := 5) (ag_n rfl) rfl rfl (by first | (simp only [look_lay, look, seval] <;> rfl) | fail) rfl; apply aops_end; rfl) (by (simp (disch := omega) only [go_sem, seval, lay, nws]); rfl) ?_
    have hi' : i < l.length := by omega
    obtain ⟨e, he⟩ : ∃ e, l[i]? = some e := ⟨_, List.getElem?_eq_getElem hi'⟩
    refine AWP.sR gok [0, 1, 5, 7, 8, 16] (by apply aops_mv (t := 1) (d := 11) (ag_n rfl) rfl rfl (by first | (simp only [look_lay, look, seval] <;> rfl) | fail) rfl; apply aops_mv (t := 0) (d := 12) (ag_n rfl) rfl rfl (by first | (simp only [look_lay, look, seval] <;> rfl) | fail) rfl; apply aops_mv (t := 5) (d := 13) (ag_n rfl) rfl rfl (by first | (simp only [look_lay, look, seval] <;> rfl) | fail) rfl; apply aops_x (d := 14) (ag_n rfl) rfl (by (simp (disch := first | decide | omega) only [if_pos, nws, he, go_sem, seval] <;> rfl)) rfl; apply aops_x (d := 15) (ag_n rfl) rfl (by first | (simp (disch := decide) only [he, go_sem, seval] <;> rfl) | (simp (disch := first | decide | omega) only [if_pos, nws, he, go_sem, seval] <;> rfl)) rfl; apply aops_x (d := 16) (ag_n rfl) rfl (by (simp (disch := first | decide | omega) only [if_pos, nws, he, go_sem, seval] <;> rfl)) rfl; apply aops_end; rfl) (by (simp (disch := omega) only [go_sem, seval, lay, nws]); rfl) ?_
    refine AWP.cond (b := _) rfl (fun h => ?_) (fun h => ?_) <;> (try simp only [decide_eq_true_eq, decide_eq_false_iff_not] at h)
    · skip
      refine AWP.sR gok [4] (by apply aops_mv (t := 5) (d := 17) (ag_n rfl) rfl rfl (by first | (simp only [look_lay, look, seval] <;> rfl) | fail) rfl; apply aops_as (t := 17) (d := 4) (ag_n rfl) rfl rfl (by first | (simp only [look_lay, look, seval] <;> rfl) | fail) rfl; apply aops_end; rfl) (by (simp (disch := omega) only [go_sem, seval, lay, nws]); rfl) ?_
      refine AWP.ret ?_
      refine ⟨.inr rfl, _, (by simp only [go_sem, seval] <;> rfl), ?_⟩
      simp only [go_sem, seval, Option.some.injEq, AV.c.injEq, AV.agg.injEq, CV.v.injEq, Value.int.injEq, Value.bool.injEq, Row.raw.injEq, List.cons.injEq, CV.sl.injEq, and_true, true_and, and_self]
      exact ⟨(fidx_at he h hp).symm, rfl⟩
    · skip
      refine AWP.skip ?_
      change AWP _ _ _ _ _
      refine AWP.rT gok [0, 1, 7, 8] (by apply aops_x (d := 18) (ag_n rfl) rfl (by first | (simp (disch := decide) only [go_sem, seval] <;> rfl) | (simp (disch := first | decide | omega) only [if_pos, nws, go_sem, seval] <;> rfl)) rfl; apply aops_mv (t := 18) (d := 8) (ag_n rfl) rfl rfl (by first | (simp only [look_lay, look, seval] <;> rfl) | fail) rfl; apply aops_end; rfl) (by (simp (disch := omega) only [go_sem, seval, lay, nws]); rfl) ?_
      exact ⟨i + 1, Ghost.of_eq (by simp only [Int.natCast_add, Int.cast_ofNat_Int] <;> rfl), ⟨by omega, fun j y hj hy => by
        by_cases hji : j = i
        · rw [hji, he] at hy; cases hy; exact h
        · exact hp j y (by omega) hy⟩, by omega⟩
  · skip
    refine AWP.exit ?_
    change AWP _ _ _ _ _
    refine AWP.sR gok [4] (by apply aops_x (d := 4) (ag_n rfl) rfl (by first | (simp (disch := decide) only [go_sem, seval] <;> rfl) | (simp (disch := first | decide | omega) only [if_pos, nws, go_sem, seval] <;> rfl)) rfl; apply aops_end; rfl) (by (simp (disch := omega) only [go_sem, seval, lay, nws]); rfl) ?_
    refine AWP.ret ?_
    refine ⟨.inr rfl, _, (by simp only [go_sem, seval] <;> rfl), ?_⟩
    simp only [go_sem, seval, Option.some.injEq, AV.c.injEq, AV.agg.injEq, CV.v.injEq, Value.int.injEq, Value.bool.injEq, Row.raw.injEq, List.cons.injEq, CV.sl.injEq, and_true, true_and, and_self]
    exact ⟨(fidx_none (fun j y hy => hp j y (by have := (List.getElem?_eq_some_iff.1 hy).1; omega) hy)).symm, rfl⟩
end Go.Proofs.Ytonhglodnmoadaa
