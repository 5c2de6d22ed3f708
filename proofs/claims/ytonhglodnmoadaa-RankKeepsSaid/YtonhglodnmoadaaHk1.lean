import Derived.Test.YtonhglodnmoadaaHp
import Derived.Test.YtonhglodnmoadaaAi4
import Derived.Test.YtonhglodnmoadaaTab
set_option linter.unusedSimpArgs false
set_option linter.unusedVariables false
namespace Go.Proofs.Ytonhglodnmoadaa
open Go.RowKit
/-! The heap of numbers, by <. -/
abbrev enT : Ty := .pr (.i .i64) (.i .i64)
abbrev ltI : Int × Int → Int × Int → Bool := HeapLaw.byKey (fun _ : Int => 0)
theorem ltI_eq (a b : Int × Int) : ltI a b = decide (a.2 < b.2) := by simp [ltI, HeapLaw.byKey]
abbrev c42 (a : Int) (b : Int) : Prop := True
abbrev r42 (a : Int) (b : Int) : AV := .c (cb false)
abbrev L42 (a : Int) (b : Int) : Hp := []
def E42 : Entry := pureN [(.i .i64), (.i .i64)] (fun d => c42 d.1 d.2.1) (fun d => r42 d.1 d.2.1) (fun d => L42 d.1 d.2.1)
set_option maxRecDepth 100000 in
set_option maxHeartbeats 4000000 in
theorem K42 (a : Int) (b : Int) (hc : c42 a b) : CallOk Try.prog 42 [.c (ci .i64 a), .c (ci .i64 b)] [] (r42 a b) (L42 a b) := by
  refine callOk' Try.func42 5 [.tmp 4] _ rfl rfl rfl (by kernel_rfl) (by simp) [] rfl rfl (by simp) ?_
  simp only [params]
  refine AWP.sR (Gam.nil_ok _) [] (by apply aops_x (d := 4) (ag_n rfl) rfl (by first | (simp (disch := decide) only [go_sem, seval] <;> rfl) | (simp (disch := first | decide | omega) only [if_pos, nws, go_sem, seval] <;> rfl)) rfl; apply aops_end; rfl) (by (simp (disch := omega) only [go_sem, seval, lay, nws]); rfl) ?_
  refine AWP.sR (Gam.nil_ok _) [4] (by apply aops_x (d := 4) (ag_n rfl) rfl (by first | (simp (disch := decide) only [go_sem, seval] <;> rfl) | (simp (disch := first | decide | omega) only [if_pos, nws, go_sem, seval] <;> rfl)) rfl; apply aops_end; rfl) (by (simp (disch := omega) only [go_sem, seval, lay, nws]); rfl) ?_
  refine AWP.ret ?_
  refine ⟨.inr rfl, _, (by simp only [go_sem, seval] <;> rfl), ?_⟩
  simp only [go_sem, seval, Option.some.injEq, AV.c.injEq, AV.agg.injEq, CV.v.injEq, Value.int.injEq, Value.bool.injEq, Row.raw.injEq, List.cons.injEq, CV.sl.injEq, and_true, true_and, and_self]
theorem E42_ok : EntryOk Try.prog 42 E42 := pureN_ok (fun d hc => K42 d.1 d.2.1 hc) (fun _ => rfl) (fun _ => rfl)
attribute [go_sem] E42 c42 r42 L42
abbrev c57 (l : List (Int × Int)) (n : Int) (a : (Int × Int)) (b : (Int × Int)) : Prop := True
abbrev r57 (l : List (Int × Int)) (n : Int) (a : (Int × Int)) (b : (Int × Int)) : AV := .c (cb (ltI a b))
abbrev f57 (l : List (Int × Int)) (n : Int) (a : (Int × Int)) (b : (Int × Int)) : List (Int × Int) := l
abbrev q57 (l : List (Int × Int)) (n : Int) (a : (Int × Int)) (b : (Int × Int)) : Int := n
abbrev L57 (l : List (Int × Int)) (n : Int) (a : (Int × Int)) (b : (Int × Int)) : Hp := []
set_option maxRecDepth 100000 in
set_option maxHeartbeats 4000000 in
theorem K57 (l : List (Int × Int)) (n : Int) (a : (Int × Int)) (b : (Int × Int)) (hc : c57 l n a b) : CallOk Try.prog 57 [.c (.ptr 0 0 1 0), .agg (.ty (.pr (.i .i64) (.i .i64)) [a]), .agg (.ty (.pr (.i .i64) (.i .i64)) [b])] [some (.raw [.v (.func (.func 42) #[] #[]), .sl 1 0 (l).length 2, ci .i64 n]), some (.ty enT (l))] (r57 l n a b) (some (.raw [.v (.func (.func 42) #[] #[]), .sl 1 0 (f57 l n a b).length 2, ci .i64 (q57 l n a b)]) :: some (.ty enT (f57 l n a b)) :: L57 l n a b) := by
  have gok := (Gam.cons_ok E42_ok (Gam.nil_ok _))
  refine callOk' Try.func57 33 [.tmp 6] _ rfl rfl rfl (by kernel_rfl) (by simp) [0, 1] rfl rfl (by simp) ?_
  simp only [params]
  refine AWP.sR gok [0, 4, 5] (by apply aops_x (d := 4) (ag_n rfl) rfl (by first | (simp (disch := decide) only [go_sem, seval] <;> rfl) | (simp (disch := first | decide | omega) only [if_pos, nws, go_sem, seval] <;> rfl)) rfl; apply aops_x (d := 5) (ag_n rfl) rfl (by first | (simp (disch := decide) only [go_sem, seval] <;> rfl) | (simp (disch := first | decide | omega) only [if_pos, nws, go_sem, seval] <;> rfl)) rfl; apply aops_x (d := 6) (ag_n rfl) rfl (by first | (simp (disch := decide) only [go_sem, seval] <;> rfl) | (simp (disch := first | decide | omega) only [if_pos, nws, go_sem, seval] <;> rfl)) rfl; apply aops_end; rfl) (by (simp (disch := omega) only [go_sem, seval, lay, nws]); rfl) ?_
  refine AWP.seq ?_
  refine AWP.sD gok (by kernel_rfl) [0, 4, 5, 15] [⟨[], true, 0⟩, ⟨[], true, 0⟩, ⟨[], true, 0⟩, ⟨[0], true, 0⟩, ⟨[], true, 0⟩, ⟨[2], true, 0⟩, ⟨[], true, 0⟩, ⟨[3], true, 0⟩, ⟨[], true, 0⟩] (by kernel_rfl) (by first | rfl | simp only [go_sem, ↓reduceIte, Nat.reduceLT, Nat.reduceAdd]) (by first | rfl | simp only [go_sem, ↓reduceIte, Nat.reduceLT, Nat.reduceAdd]) (by (repeat (first | apply arun_step (by first | exact ag_n rfl | exact ag_b rfl rfl rfl (by first | (simp only [look_lay, look, seval] <;> rfl) | fail) (by first | rfl | (simp only [decide_true, decide_false] <;> rfl) | fail) | fail) (by first | (simp (disch := decide) only [go_sem, seval]; rfl) | (simp (disch := first | decide | omega) only [if_pos, nws, go_sem, seval]; rfl)) (by first | (intro h; cases h; done) | (intro _; rfl) | (intro _; simp only [go_sem, seval, lay])) (by first | rfl | simp only [go_sem, seval, lay]) (by first | rfl | simp only [go_sem, seval, lay]) (by first | rfl | simp only [go_sem, seval, lay]) (by simp only [go_sem, seval, lay]; rfl) | apply arun_pass (by first | exact ag_f rfl rfl rfl (by first | (simp only [look_lay, look, seval] <;> rfl) | fail) (by first | rfl | (simp only [decide_true, decide_false] <;> rfl) | fail) | exact ag_u rfl rfl rfl (by first | (simp only [look_lay, look, seval] <;> rfl) | fail) | fail) rfl (by simp only [go_sem, seval, lay]; rfl))); exact rfl) (by (simp (disch := omega) only [go_sem, seval, lay, nws]); rfl) ?_
  refine AWP.condF (b := _) rfl (by first | rfl | (simp only [decide_eq_true_eq, decide_eq_false_iff_not]; omega)) ?_
  refine AWP.skip ?_
  change AWP _ _ _ _ _
  refine AWP.sD gok (by kernel_rfl) [6] [⟨[], true, 0⟩, ⟨[], true, 0⟩, ⟨[], true, 0⟩, ⟨[0], true, 0⟩, ⟨[], true, 0⟩, ⟨[3], true, 0⟩, ⟨[], true, 0⟩, ⟨[2], true, 0⟩, ⟨[], true, 0⟩, ⟨[], true, 0⟩, ⟨[], true, 0⟩, ⟨[], true, 0⟩, ⟨[2], true, 0⟩, ⟨[], true, 0⟩, ⟨[3], true, 0⟩, ⟨[], true, 0⟩, ⟨[], true, 0⟩, ⟨[], true, 0⟩] (by kernel_rfl) (by first | rfl | simp only [go_sem, ↓reduceIte, Nat.reduceLT, Nat.reduceAdd]) (by first | rfl | simp only [go_sem, ↓reduceIte, Nat.reduceLT, Nat.reduceAdd]) (by (repeat (first | apply arun_step (by first | exact ag_n rfl | exact ag_b rfl rfl rfl (by first | (simp only [look_lay, look, seval] <;> rfl) | fail) (by first | rfl | (simp only [decide_true, decide_false] <;> rfl) | fail) | fail) (by first | (simp (disch := decide) only [go_sem, seval]; rfl) | (simp (disch := first | decide | omega) only [if_pos, nws, go_sem, seval]; rfl)) (by first | (intro h; cases h; done) | (intro _; rfl) | (intro _; simp only [go_sem, seval, lay])) (by first | rfl | simp only [go_sem, seval, lay]) (by first | rfl | simp only [go_sem, seval, lay]) (by first | rfl | simp only [go_sem, seval, lay]) (by simp only [go_sem, seval, lay]; rfl) | apply arun_pass (by first | exact ag_f rfl rfl rfl (by first | (simp only [look_lay, look, seval] <;> rfl) | fail) (by first | rfl | (simp only [decide_true, decide_false] <;> rfl) | fail) | exact ag_u rfl rfl rfl (by first | (simp only [look_lay, look, seval] <;> rfl) | fail) | fail) rfl (by simp only [go_sem, seval, lay]; rfl))); exact rfl) (by (simp (disch := omega) only [go_sem, seval, lay, nws]); rfl) ?_
  refine AWP.ret ?_
  refine ⟨.inr rfl, _, (by simp only [go_sem, seval] <;> rfl), ?_⟩
  simp only [go_sem, seval, Option.some.injEq, AV.c.injEq, AV.agg.injEq, CV.v.injEq, Value.int.injEq, Value.bool.injEq, Row.raw.injEq, List.cons.injEq, CV.sl.injEq, and_true, true_and, and_self]
  rw [ltI_eq]
def E57 : Entry := objE 42 enT [enT, enT] (fun l p d => c57 l p d.1 d.2.1) (fun l p d => r57 l p d.1 d.2.1) (fun l p d => f57 l p d.1 d.2.1) (fun l p d => q57 l p d.1 d.2.1) (fun l p d => L57 l p d.1 d.2.1)
theorem E57_ok : EntryOk Try.prog 57 E57 := objE_ok rfl (fun _ _ _ => rfl) (fun _ _ _ => rfl) fun l p d hc => K57 l p d.1 d.2.1 hc
attribute [go_sem] E57 c57 r57 f57 q57 L57
end Go.Proofs.Ytonhglodnmoadaa
