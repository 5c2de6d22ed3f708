import Derived.Test.YtbdnhoddkdiogaaMrQ
import Derived.Test.YtbdnhoddkdiogaaMr2
set_option linter.unusedSimpArgs false
set_option linter.unusedVariables false
namespace Go.Proofs.Ytbdnhoddkdiogaa
open Go.RowKit
/-! The iterator over digests from the end on: a closure over its slice. -/
abbrev DT : Ty := .ar 32 (.i .u8)
abbrev FB : FuncId := 74
def rowAs (t : Ty) (H : Hp) (id : Nat) : Option (List t.D) := match hrow H id with | some (.ty t' ys) => castL t' t ys | _ => none
theorem rowAs_some {t : Ty} {H : Hp} {id : Nat} {xs : List t.D} (h : rowAs t H id = some xs) : H[id]? = some (some (.ty t xs)) := by
  unfold rowAs at h
  split at h
  · rename_i t' ys hr
    rw [castL_some h] at hr
    exact hrow_at hr
  · cases h
theorem lt_of {H : Hp} {b : Nat} {r : Option Row} (h : H[b]? = some r) : b < H.length := (List.getElem?_eq_some_iff.1 h).1
theorem KB (xs : List (List Int)) (o len : Nat) : CallOk Try.prog 63 [.c (.sl 0 o len 32)] [some (.ty DT xs)] (.c (.fn FB [1])) [some (.ty DT xs), some (.raw [.sl 0 o len 32])] := by
  refine callOk' Try.func63 4 [.tmp 2] _ rfl rfl rfl (by kernel_rfl) (by simp) [0, 1] rfl rfl (by simp) ?_
  simp only [params]
  refine AWP.sR (Gam.nil_ok _) [1] (by apply aops_x (d := 1) (ag_n rfl) rfl (by first | (simp (disch := decide) only [go_sem, seval] <;> rfl) | (simp (disch := first | decide | omega) only [if_pos, nws, go_sem, seval] <;> rfl)) rfl; apply aops_x (d := 2) (ag_n rfl) rfl (by first | (simp (disch := decide) only [go_sem, seval] <;> rfl) | (simp (disch := first | decide | omega) only [if_pos, nws, go_sem, seval] <;> rfl)) rfl; apply aops_end; rfl) (by (simp (disch := omega) only [go_sem, seval, lay, nws]); rfl) ?_
  refine AWP.sR (Gam.nil_ok _) [2] (by apply aops_x (d := 3) (ag_n rfl) rfl (by first | (simp (disch := decide) only [go_sem, seval] <;> rfl) | (simp (disch := first | decide | omega) only [if_pos, nws, go_sem, seval] <;> rfl)) rfl; apply aops_as (t := 3) (d := 2) (ag_n rfl) rfl rfl (by first | (simp only [look_lay, look, seval] <;> rfl) | fail) rfl; apply aops_end; rfl) (by (simp (disch := omega) only [go_sem, seval, lay, nws]); rfl) ?_
  refine AWP.ret ?_
  refine ⟨.inr rfl, _, (by simp only [go_sem, seval] <;> rfl), ?_⟩
  simp only [go_sem, seval, Option.some.injEq, AV.c.injEq, AV.agg.injEq, CV.v.injEq, Value.int.injEq, Value.bool.injEq, Row.raw.injEq, List.cons.injEq, CV.sl.injEq, and_true, true_and, and_self]
  rfl
def EB : Entry := fun args H => match args with
  | [.c (.sl id o len e)] => match rowAs DT H id with
    | some xs => if e = 32 then some ((AV.c (.fn FB [1])).mapId (ats [id] H.length), patch (ats [id] H.length) [id] [some (.ty DT xs), some (.raw [.sl 0 o len 32])] H) else none
    | none => none
  | _ => none
theorem EB_ok : EntryOk Try.prog 63 EB := fun args H r H' h => by
  unfold EB at h
  split at h
  · rename_i id o len e
    split at h
    · rename_i xs hr
      split at h
      · rename_i he
        subst he
        cases h
        have h1 := rowAs_some hr
        exact frameOk0 (C := H) [id] (KB xs o len) rfl (by simp) rfl (by simp [lt_of h1]) (fun i q hq => by
          match i, hq with
          | 0, hq => cases hq; simpa [ats, Row.mapId] using h1) rfl (fun i y hy => by
          match i, hy with
          | 0, hy => cases hy; simp [AV.map1, CV.mapId, ats])
      · cases h
    · cases h
  · cases h
attribute [go_sem] rowAs EB dead ats patch List.size_toArray ne_eq
end Go.Proofs.Ytbdnhoddkdiogaa
