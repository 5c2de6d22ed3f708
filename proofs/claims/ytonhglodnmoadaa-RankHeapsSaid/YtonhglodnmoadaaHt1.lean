import Derived.Test.YtonhglodnmoadaaHp
import Derived.Test.YtonhglodnmoadaaAi4
import Derived.Test.YtonhglodnmoadaaTab
set_option linter.unusedSimpArgs false
set_option linter.unusedVariables false
namespace Go.Proofs.Ytonhglodnmoadaa
open Go.RowKit
/-! The heap of numbers, by <. -/
abbrev thT : Ty := .pr (.i .i64) (.i .i64)
abbrev enT : Ty := .pr (.pr (.i .i64) (.i .i64)) (.i .i64)
abbrev ltI : (Int × Int) × Int → (Int × Int) × Int → Bool := HeapLaw.byKey (fun x : Int × Int => x.1)
theorem ltI_eq (a b : (Int × Int) × Int) : ltI a b = (decide (a.1.1 < b.1.1) || (!decide (b.1.1 < a.1.1) && decide (a.2 < b.2))) := rfl
abbrev c22 (a : (Int × Int)) (b : (Int × Int)) : Prop := True
abbrev r22 (a : (Int × Int)) (b : (Int × Int)) : AV := .c (cb (decide (a.1 < b.1)))
abbrev L22 (a : (Int × Int)) (b : (Int × Int)) : Hp := []
def E22 : Entry := pureN [thT, thT] (fun d => c22 d.1 d.2.1) (fun d => r22 d.1 d.2.1) (fun d => L22 d.1 d.2.1)
set_option maxRecDepth 100000 in
set_option maxHeartbeats 4000000 in
theorem K22 (a : (Int × Int)) (b : (Int × Int)) (hc : c22 a b) : CallOk Try.prog 22 [.agg (.ty (.pr (.i .i64) (.i .i64)) [a]), .agg (.ty (.pr (.i .i64) (.i .i64)) [b])] [] (r22 a b) (L22 a b) := by
  refine callOk' Try.func22 10 [.tmp 4] _ rfl rfl rfl (by kernel_rfl) (by simp) [] rfl rfl (by simp) ?_
  simp only [params]
  refine AWP.sR (Gam.nil_ok _) [2, 3] (by apply aops_x (d := 2) (ag_n rfl) rfl (by first | (simp (disch := decide) only [go_sem, seval] <;> rfl) | (simp (disch := first | decide | omega) only [if_pos, nws, go_sem, seval] <;> rfl)) rfl; apply aops_x (d := 3) (ag_n rfl) rfl (by first | (simp (disch := decide) only [go_sem, seval] <;> rfl) | (simp (disch := first | decide | omega) only [if_pos, nws, go_sem, seval] <;> rfl)) rfl; apply aops_x (d := 4) (ag_n rfl) rfl (by first | (simp (disch := decide) only [go_sem, seval] <;> rfl) | (simp (disch := first | decide | omega) only [if_pos, nws, go_sem, seval] <;> rfl)) rfl; apply aops_end; rfl) (by (simp (disch := omega) only [go_sem, seval, lay, nws]); rfl) ?_
  refine AWP.sR (Gam.nil_ok _) [4] (by apply aops_x (d := 5) (ag_n rfl) rfl (by first | (simp (disch := decide) only [go_sem, seval] <;> rfl) | (simp (disch := first | decide | omega) only [if_pos, nws, go_sem, seval] <;> rfl)) rfl; apply aops_x (d := 6) (ag_n rfl) rfl (by first | (simp (disch := decide) only [go_sem, seval] <;> rfl) | (simp (disch := first | decide | omega) only [if_pos, nws, go_sem, seval] <;> rfl)) rfl; apply aops_x (d := 7) (ag_n rfl) rfl (by first | (simp (disch := decide) only [go_sem, seval] <;> rfl) | (simp (disch := first | decide | omega) only [if_pos, nws, go_sem, seval] <;> rfl)) rfl; apply aops_x (d := 8) (ag_n rfl) rfl (by first | (simp (disch := decide) only [go_sem, seval] <;> rfl) | (simp (disch := first | decide | omega) only [if_pos, nws, go_sem, seval] <;> rfl)) rfl; apply aops_x (d := 9) (ag_n rfl) rfl (by first | (simp (disch := decide) only [go_sem, seval] <;> rfl) | (simp (disch := first | decide | omega) only [if_pos, nws, go_sem, seval] <;> rfl)) rfl; apply aops_as (t := 9) (d := 4) (ag_n rfl) rfl rfl (by first | (simp only [look_lay, look, seval] <;> rfl) | fail) rfl; apply aops_end; rfl) (by (simp (disch := omega) only [go_sem, seval, lay, nws]); rfl) ?_
  refine AWP.ret ?_
  refine ⟨.inr rfl, _, (by simp only [go_sem, seval] <;> rfl), ?_⟩
  simp only [go_sem, seval, Option.some.injEq, AV.c.injEq, AV.agg.injEq, CV.v.injEq, Value.int.injEq, Value.bool.injEq, Row.raw.injEq, List.cons.injEq, CV.sl.injEq, and_true, true_and, and_self]
theorem E22_ok : EntryOk Try.prog 22 E22 := pureN_ok (fun d hc => K22 d.1 d.2.1 hc) (fun _ => rfl) (fun _ => rfl)
attribute [go_sem] E22 c22 r22 L22
abbrev c58 (l : List ((Int × Int) × Int)) (n : Int) (a : ((Int × Int) × Int)) (b : ((Int × Int) × Int)) : Prop := True
abbrev r58 (l : List ((Int × Int) × Int)) (n : Int) (a : ((Int × Int) × Int)) (b : ((Int × Int) × Int)) : AV := .c (cb (ltI a b))
abbrev f58 (l : List ((Int × Int) × Int)) (n : Int) (a : ((Int × Int) × Int)) (b : ((Int × Int) × Int)) : List ((Int × Int) × Int) := l
abbrev q58 (l : List ((Int × Int) × Int)) (n : Int) (a : ((Int × Int) × Int)) (b : ((Int × Int) × Int)) : Int := n
abbrev L58 (l : List ((Int × Int) × Int)) (n : Int) (a : ((Int × Int) × Int)) (b : ((Int × Int) × Int)) : Hp := []
set_option maxRecDepth 100000 in
set_option maxHeartbeats 4000000 in
theorem K58 (l : List ((Int × Int) × Int)) (n : Int) (a : ((Int × Int) × Int)) (b : ((Int × Int) × Int)) (hc : c58 l n a b) : CallOk Try.prog 58 [.c (.ptr 0 0 1 0), .agg (.ty (.pr (.pr (.i .i64) (.i .i64)) (.i .i64)) [a]), .agg (.ty (.pr (.pr (.i .i64) (.i .i64)) (.i .i64)) [b])] [some (.raw [.v (.func (.func 22) #[] #[]), .sl 1 0 (l).length 3, ci .i64 n]), some (.ty enT (l))] (r58 l n a b) (some (.raw [.v (.func (.func 22) #[] #[]), .sl 1 0 (f58 l n a b).length 3, ci .i64 (q58 l n a b)]) :: some (.ty enT (f58 l n a b)) :: L58 l n a b) := by
  have gok := (Gam.cons_ok E22_ok (Gam.nil_ok _))
  refine callOk' Try.func58 33 [.tmp 6] _ rfl rfl rfl (by kernel_rfl) (by simp) [0, 1] rfl rfl (by simp) ?_
  simp only [params]
  refine AWP.sR gok [0, 4, 5] (by apply aops_x (d := 4) (ag_n rfl) rfl (by first | (simp (disch := decide) only [go_sem, seval] <;> rfl) | (simp (disch := first | decide | omega) only [if_pos, nws, go_sem, seval] <;> rfl)) rfl; apply aops_x (d := 5) (ag_n rfl) rfl (by first | (simp (disch := decide) only [go_sem, seval] <;> rfl) | (simp (disch := first | decide | omega) only [if_pos, nws, go_sem, seval] <;> rfl)) rfl; apply aops_x (d := 6) (ag_n rfl) rfl (by first | (simp (disch := decide) only [go_sem, seval] <;> rfl) | (simp (disch := first | decide | omega) only [if_pos, nws, go_sem, seval] <;> rfl)) rfl; apply aops_end; rfl) (by (simp (disch := omega) only [go_sem, seval, lay, nws]); rfl) ?_
  refine AWP.seq ?_
  refine AWP.sD gok (by kernel_rfl) [0, 4, 5, 15] [⟨[], true, 0⟩, ⟨[], true, 0⟩, ⟨[], true, 0⟩, ⟨[0], true, 0⟩, ⟨[], true, 0⟩, ⟨[2], true, 0⟩, ⟨[], true, 0⟩, ⟨[3], true, 0⟩, ⟨[], true, 0⟩] (by kernel_rfl) (by first | rfl | simp only [go_sem, ↓reduceIte, Nat.reduceLT, Nat.reduceAdd]) (by first | rfl | simp only [go_sem, ↓reduceIte, Nat.reduceLT, Nat.reduceAdd]) (by (repeat (first | apply arun_step (by first | exact ag_n rfl | exact ag_b rfl rfl rfl (by first | (simp only [look_lay, look, seval] <;> rfl) | fail) (by first | rfl | (simp only [decide_true, decide_false] <;> rfl) | fail) | fail) (by first | (simp (disch := decide) only [go_sem, seval]; rfl) | (simp (disch := first | decide | omega) only [if_pos, nws, go_sem, seval]; rfl)) (by first | (intro h; cases h; done) | (intro _; rfl) | (intro _; simp only [go_sem, seval, lay])) (by first | rfl | simp only [go_sem, seval, lay]) (by first | rfl | simp only [go_sem, seval, lay]) (by first | rfl | simp only [go_sem, seval, lay]) (by simp only [go_sem, seval, lay]; rfl) | apply arun_pass (by first | exact ag_f rfl rfl rfl (by first | (simp only [look_lay, look, seval] <;> rfl) | fail) (by first | rfl | (simp only [decide_true, decide_false] <;> rfl) | fail) | exact ag_u rfl rfl rfl (by first | (simp only [look_lay, look, seval] <;> rfl) | fail) | fail) rfl (by simp only [go_sem, seval, lay]; rfl))); exact rfl) (by (simp (disch := omega) only [go_sem, seval, lay, nws]); rfl) ?_
  refine AWP.cond (b := _) rfl (fun h => ?_) (fun h => ?_) <;> (try simp only [decide_eq_true_eq, decide_eq_false_iff_not] at h)
  · skip
    refine AWP.sR gok [6] (by apply aops_x (d := 6) (ag_n rfl) rfl (by first | (simp (disch := decide) only [go_sem, seval] <;> rfl) | (simp (disch := first | decide | omega) only [if_pos, nws, go_sem, seval] <;> rfl)) rfl; apply aops_end; rfl) (by (simp (disch := omega) only [go_sem, seval, lay, nws]); rfl) ?_
    refine AWP.ret ?_
    refine ⟨.inr rfl, _, (by simp only [go_sem, seval] <;> rfl), ?_⟩
    simp only [go_sem, seval, Option.some.injEq, AV.c.injEq, AV.agg.injEq, CV.v.injEq, Value.int.injEq, Value.bool.injEq, Row.raw.injEq, List.cons.injEq, CV.sl.injEq, and_true, true_and, and_self]
    rw [ltI_eq, decide_eq_true h, Bool.true_or]
  · skip
    refine AWP.skip ?_
    change AWP _ _ _ _ _
    refine AWP.sDG gok (by kernel_rfl) [⟨[], true, 0⟩, ⟨[], true, 0⟩, ⟨[], true, 0⟩, ⟨[0], true, 0⟩, ⟨[], true, 0⟩, ⟨[3], true, 0⟩, ⟨[], true, 0⟩, ⟨[2], true, 0⟩, ⟨[], true, 0⟩, ⟨[], true, 0⟩, ⟨[], true, 0⟩, ⟨[], true, 0⟩, ⟨[2], true, 0⟩, ⟨[], true, 0⟩, ⟨[3], true, 0⟩, ⟨[], true, 0⟩, ⟨[], true, 0⟩, ⟨[], true, 0⟩] (by kernel_rfl) (by first | rfl | simp only [go_sem, ↓reduceIte, Nat.reduceLT, Nat.reduceAdd]) (by first | rfl | simp only [go_sem, ↓reduceIte, Nat.reduceLT, Nat.reduceAdd]) (s2 := ⟨33, [(6, .c (cb (!decide (b.1.1 < a.1.1) && decide (a.2 < b.2))))], [some (.raw [.v (.func (.func 22) #[] #[]), .sl 1 0 l.length 3, ci .i64 n]), some (.ty enT l)]⟩) (by (by_cases hba : b.1.1 < a.1.1) <;> refine ⟨_, (by (repeat (first | apply arun_step (by first | exact ag_n rfl | exact ag_b rfl rfl rfl (by first | (simp only [look_lay, look, seval] <;> rfl) | fail) (by first | rfl | (simp only [hba, decide_true, decide_false] <;> rfl) | fail) | fail) (by first | (simp (disch := decide) only [hba, go_sem, seval]; rfl) | (simp (disch := first | decide | omega) only [if_pos, nws, hba, go_sem, seval]; rfl)) (by first | (intro h; cases h; done) | (intro _; rfl) | (intro _; simp only [go_sem, seval, lay])) (by first | rfl | simp only [go_sem, seval, lay]) (by first | rfl | simp only [go_sem, seval, lay]) (by first | rfl | simp only [go_sem, seval, lay]) (by simp only [go_sem, seval, lay]; rfl) | apply arun_pass (by first | exact ag_f rfl rfl rfl (by first | (simp only [look_lay, look, seval] <;> rfl) | fail) (by first | rfl | (simp only [hba, decide_true, decide_false] <;> rfl) | fail) | exact ag_u rfl rfl rfl (by first | (simp only [look_lay, look, seval] <;> rfl) | fail) | fail) rfl (by simp only [go_sem, seval, lay]; rfl))); exact rfl), (Ghost.trans (Ghost.trans (Ghost.trim _ [6] _) (Ghost.of_eq (by (simp (disch := omega) only [go_sem, seval, lay, nws]) <;> rfl))) (Ghost.trans (Ghost.gc (ρ := [0, 1]) (by simp only [go_sem, seval] <;> rfl) rfl rfl rfl) (Ghost.of_eq (by first | ((simp (disch := first | decide | omega) only [hba, go_sem, seval, lay, nws]) <;> with_reducible rfl) | with_reducible rfl | rfl))))⟩) ?_
    refine AWP.ret ?_
    refine ⟨.inr rfl, _, (by simp only [go_sem, seval] <;> rfl), ?_⟩
    simp only [go_sem, seval, Option.some.injEq, AV.c.injEq, AV.agg.injEq, CV.v.injEq, Value.int.injEq, Value.bool.injEq, Row.raw.injEq, List.cons.injEq, CV.sl.injEq, and_true, true_and, and_self]
    rw [ltI_eq, decide_eq_false h, Bool.false_or]
def E58 : Entry := objE 22 enT [enT, enT] (fun l p d => c58 l p d.1 d.2.1) (fun l p d => r58 l p d.1 d.2.1) (fun l p d => f58 l p d.1 d.2.1) (fun l p d => q58 l p d.1 d.2.1) (fun l p d => L58 l p d.1 d.2.1)
theorem E58_ok : EntryOk Try.prog 58 E58 := objE_ok rfl (fun _ _ _ => rfl) (fun _ _ _ => rfl) fun l p d hc => K58 l p d.1 d.2.1 hc
attribute [go_sem] E58 c58 r58 f58 q58 L58
end Go.Proofs.Ytonhglodnmoadaa
