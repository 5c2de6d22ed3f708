import Derived.Test.YtonhglodnmoadaaHe6
import Derived.Test.YtonhglodnmoadaaAwk
set_option linter.unusedSimpArgs false
set_option linter.unusedVariables false
namespace Go.Proofs.Ytonhglodnmoadaa
open Go.RowKit
/-! A new heap. -/
abbrev newRow : Row := .raw [.v (.func (.func 16) #[] #[]), .v (.slice none 0 0), ci .i64 0]
set_option maxRecDepth 100000 in
theorem new_c : CallOk Try.prog 15 [.c (.v (.func (.func 16) #[] #[]))] [] (.c (.ptr 0 0 1 0)) [some newRow] := by
  refine callOk' Try.func15 8 [.tmp 2] _ rfl rfl rfl (by kernel_rfl) (by simp) [0] rfl rfl (by simp) ?_
  simp only [params]
  refine AWP.sR (Gam.nil_ok _) [0] (by apply aops_x (d := 2) (ag_n rfl) rfl (by first | (simp (disch := decide) only [go_sem, seval] <;> rfl) | (simp (disch := first | decide | omega) only [if_pos, nws, go_sem, seval] <;> rfl)) rfl; apply aops_end; rfl) (by (simp (disch := omega) only [go_sem, seval, lay, nws]); rfl) ?_
  refine AWP.seq ?_
  refine AWP.sR (Gam.nil_ok _) [0, 4] (by apply aops_mv (t := 0) (d := 3) (ag_n rfl) rfl rfl (by first | (simp only [look_lay, look, seval] <;> rfl) | fail) rfl; apply aops_x (d := 4) (ag_n rfl) rfl (by first | (simp (disch := decide) only [go_sem, seval] <;> rfl) | (simp (disch := first | decide | omega) only [if_pos, nws, go_sem, seval] <;> rfl)) rfl; apply aops_end; rfl) (by (simp (disch := omega) only [go_sem, seval, lay, nws]); rfl) ?_
  refine AWP.condF (b := _) rfl (by first | rfl | (simp only [decide_eq_true_eq, decide_eq_false_iff_not]; omega)) ?_
  refine AWP.skip ?_
  change AWP _ _ _ _ _
  refine AWP.sR (Gam.nil_ok _) [2] (by apply aops_mv (t := 0) (d := 5) (ag_n rfl) rfl rfl (by first | (simp only [look_lay, look, seval] <;> rfl) | fail) rfl; apply aops_x (d := 6) (ag_n rfl) rfl (by first | (simp (disch := decide) only [go_sem, seval] <;> rfl) | (simp (disch := first | decide | omega) only [if_pos, nws, go_sem, seval] <;> rfl)) rfl; apply aops_x (d := 7) (ag_n rfl) rfl (by first | (simp (disch := decide) only [go_sem, seval] <;> rfl) | (simp (disch := first | decide | omega) only [if_pos, nws, go_sem, seval] <;> rfl)) rfl; apply aops_as (t := 7) (d := 2) (ag_n rfl) rfl rfl (by first | (simp only [look_lay, look, seval] <;> rfl) | fail) rfl; apply aops_end; rfl) (by (simp (disch := omega) only [go_sem, seval, lay, nws]); rfl) ?_
  refine AWP.ret ?_
  refine ⟨.inr rfl, _, (by simp only [go_sem, seval] <;> rfl), ?_⟩
  simp only [go_sem, seval, Option.some.injEq, AV.c.injEq, AV.agg.injEq, CV.v.injEq, Value.int.injEq, Value.bool.injEq, Row.raw.injEq, List.cons.injEq, CV.sl.injEq, and_true, true_and, and_self]
def E15 : Entry := fun args H => match args with
  | [.c (.v (.func (.func g) fa fb))] => if g = 16 ∧ fa.size = 0 ∧ fb.size = 0 then some (.c (.ptr H.length 0 1 0), H ++ [some newRow]) else none
  | _ => none
theorem E15_ok : EntryOk Try.prog 15 E15 := fun args H r H' h => by
  unfold E15 at h
  split at h
  · split at h
    · rename_i g fa fb hc
      obtain ⟨rfl, ha, hb⟩ := hc
      obtain rfl : fa = #[] := Array.eq_empty_of_size_eq_zero ha
      obtain rfl : fb = #[] := Array.eq_empty_of_size_eq_zero hb
      cases h
      exact frameOk0 (C := H) [] new_c rfl (by simp) rfl (by simp) (fun i q hq => by simp at hq) rfl (fun i y hy => by
        match i, hy with
        | 0, hy => cases hy; rfl)
    · cases h
  · cases h
attribute [go_sem] E15
end Go.Proofs.Ytonhglodnmoadaa
