import Derived.Test.YtonhglodnmoadaaHt3
import Derived.Test.YtonhglodnmoadaaAi5
set_option linter.unusedSimpArgs false
set_option linter.unusedVariables false
namespace Go.Proofs.Ytonhglodnmoadaa
open Go.RowKit
def topI (l : List ((Int × Int) × Int)) : Int × Int := match l with | [] => (0, 0) | a :: _ => a.1
theorem topI_at {l : List ((Int × Int) × Int)} {a : (Int × Int) × Int} (h : l[0]? = some a) : topI l = a.1 := by cases l with | nil => cases h | cons b l => cases h; rfl
abbrev c30 (l : List (Ty.D enT)) (n : Int) : Prop := l.length ≤ 100000
abbrev r30 (l : List (Ty.D enT)) (n : Int) : AV := .c (ci .i64 (l.length : Int))
abbrev f30 (l : List (Ty.D enT)) (n : Int) : List (Ty.D enT) := l
abbrev q30 (l : List (Ty.D enT)) (n : Int) : Int := n
abbrev L30 (l : List (Ty.D enT)) (n : Int) : Hp := []
set_option maxRecDepth 100000 in
set_option maxHeartbeats 4000000 in
theorem K30 (l : List (Ty.D enT)) (n : Int) (hc : c30 l n) : CallOk Try.prog 30 [.c (.ptr 0 0 1 0)] [some (.raw [.v (.func (.func 22) #[] #[]), .sl 1 0 (l).length 3, ci .i64 n]), some (.ty enT (l))] (r30 l n) (some (.raw [.v (.func (.func 22) #[] #[]), .sl 1 0 (f30 l n).length 3, ci .i64 (q30 l n)]) :: some (.ty enT (f30 l n)) :: L30 l n) := by
  have hc : l.length ≤ 100000 := hc
  refine callOk' Try.func30 10 [.tmp 2] _ rfl rfl rfl (by kernel_rfl) (by simp) [0, 1] rfl rfl (by simp) ?_
  simp only [params]
  refine AWP.sR (Gam.nil_ok _) [0] (by apply aops_x (d := 2) (ag_n rfl) rfl (by first | (simp (disch := decide) only [go_sem, seval] <;> rfl) | (simp (disch := first | decide | omega) only [if_pos, nws, go_sem, seval] <;> rfl)) rfl; apply aops_end; rfl) (by (simp (disch := omega) only [go_sem, seval, lay, nws]); rfl) ?_
  refine AWP.seq ?_
  refine AWP.sR (Gam.nil_ok _) [0, 4] (by apply aops_mv (t := 0) (d := 3) (ag_n rfl) rfl rfl (by first | (simp only [look_lay, look, seval] <;> rfl) | fail) rfl; apply aops_x (d := 4) (ag_n rfl) rfl (by first | (simp (disch := decide) only [go_sem, seval] <;> rfl) | (simp (disch := first | decide | omega) only [if_pos, nws, go_sem, seval] <;> rfl)) rfl; apply aops_end; rfl) (by (simp (disch := omega) only [go_sem, seval, lay, nws]); rfl) ?_
  refine AWP.condF (b := _) rfl (by first | rfl | (simp only [decide_eq_true_eq, decide_eq_false_iff_not]; omega)) ?_
  refine AWP.skip ?_
  change AWP _ _ _ _ _
  refine AWP.sR (Gam.nil_ok _) [2] (by apply aops_mv (t := 0) (d := 5) (ag_n rfl) rfl rfl (by first | (simp only [look_lay, look, seval] <;> rfl) | fail) rfl; apply aops_x (d := 6) (ag_n rfl) rfl (by first | (simp (disch := decide) only [go_sem, seval] <;> rfl) | (simp (disch := first | decide | omega) only [if_pos, nws, go_sem, seval] <;> rfl)) rfl; apply aops_x (d := 7) (ag_n rfl) rfl (by first | (simp (disch := decide) only [go_sem, seval] <;> rfl) | (simp (disch := first | decide | omega) only [if_pos, nws, go_sem, seval] <;> rfl)) rfl; apply aops_x (d := 8) (ag_n rfl) rfl (by first | (simp (disch := decide) only [go_sem, seval] <;> rfl) | (simp (disch := first | decide | omega) only [if_pos, nws, go_sem, seval] <;> rfl)) rfl; apply aops_x (d := 9) (ag_n rfl) rfl (by first | (simp (disch := decide) only [go_sem, seval] <;> rfl) | (simp (disch := first | decide | omega) only [if_pos, nws, go_sem, seval] <;> rfl)) rfl; apply aops_as (t := 9) (d := 2) (ag_n rfl) rfl rfl (by first | (simp only [look_lay, look, seval] <;> rfl) | fail) rfl; apply aops_end; rfl) (by (simp (disch := omega) only [go_sem, seval, lay, nws]); rfl) ?_
  refine AWP.ret ?_
  refine ⟨.inr rfl, _, (by simp only [go_sem, seval] <;> rfl), ?_⟩
  simp only [go_sem, seval, Option.some.injEq, AV.c.injEq, AV.agg.injEq, CV.v.injEq, Value.int.injEq, Value.bool.injEq, Row.raw.injEq, List.cons.injEq, CV.sl.injEq, and_true, true_and, and_self]
def E30 : Entry := objE 22 enT [] (fun l p d => c30 l p) (fun l p d => r30 l p) (fun l p d => f30 l p) (fun l p d => q30 l p) (fun l p d => L30 l p)
theorem E30_ok : EntryOk Try.prog 30 E30 := objE_ok rfl (fun _ _ _ => rfl) (fun _ _ _ => rfl) fun l p d hc => K30 l p hc
attribute [go_sem] E30 c30 r30 f30 q30 L30
abbrev c25 (l : List (Ty.D enT)) (n : Int) : Prop := l.length ≤ 100000
abbrev r25 (l : List (Ty.D enT)) (n : Int) : AV := .tup [.agg (.ty thT [topI l]), .c (cb (decide (0 < l.length)))]
abbrev f25 (l : List (Ty.D enT)) (n : Int) : List (Ty.D enT) := l
abbrev q25 (l : List (Ty.D enT)) (n : Int) : Int := n
abbrev L25 (l : List (Ty.D enT)) (n : Int) : Hp := []
set_option maxRecDepth 100000 in
set_option maxHeartbeats 4000000 in
theorem K25 (l : List (Ty.D enT)) (n : Int) (hc : c25 l n) : CallOk Try.prog 25 [.c (.ptr 0 0 1 0)] [some (.raw [.v (.func (.func 22) #[] #[]), .sl 1 0 (l).length 3, ci .i64 n]), some (.ty enT (l))] (r25 l n) (some (.raw [.v (.func (.func 22) #[] #[]), .sl 1 0 (f25 l n).length 3, ci .i64 (q25 l n)]) :: some (.ty enT (f25 l n)) :: L25 l n) := by
  have hc : l.length ≤ 100000 := hc
  have gok := (Gam.cons_ok E30_ok (Gam.nil_ok _))
  refine callOk' Try.func25 16 [.cell 2 45, .tmp 3] _ rfl rfl rfl (by kernel_rfl) (by simp) [0, 1] rfl rfl (by simp) ?_
  simp only [params]
  refine AWP.sR gok [0, 2] (by apply aops_x (d := 2) (ag_n rfl) rfl (by first | (simp (disch := decide) only [go_sem, seval] <;> rfl) | (simp (disch := first | decide | omega) only [if_pos, nws, go_sem, seval] <;> rfl)) rfl; apply aops_x (d := 3) (ag_n rfl) rfl (by first | (simp (disch := decide) only [go_sem, seval] <;> rfl) | (simp (disch := first | decide | omega) only [if_pos, nws, go_sem, seval] <;> rfl)) rfl; apply aops_end; rfl) (by (simp (disch := omega) only [go_sem, seval, lay, nws]); rfl) ?_
  refine AWP.seq ?_
  refine AWP.sR gok [0, 2, 7] (by apply aops_mv (t := 0) (d := 5) (ag_n rfl) rfl rfl (by first | (simp only [look_lay, look, seval] <;> rfl) | fail) rfl; apply aops_x (d := 6) (ag_n rfl) rfl (by (simp (disch := first | decide | omega) only [if_pos, nws, go_sem, seval] <;> rfl)) rfl; apply aops_x (d := 7) (ag_n rfl) rfl (by first | (simp (disch := decide) only [go_sem, seval] <;> rfl) | (simp (disch := first | decide | omega) only [if_pos, nws, go_sem, seval] <;> rfl)) rfl; apply aops_end; rfl) (by (simp (disch := omega) only [go_sem, seval, lay, nws]); rfl) ?_
  refine AWP.cond (b := _) rfl (fun h => ?_) (fun h => ?_) <;> (try simp only [decide_eq_true_eq, decide_eq_false_iff_not] at h)
  · skip
    refine AWP.sR gok [2, 4] (by apply aops_x (d := 4) (ag_n rfl) rfl (by first | (simp (disch := decide) only [go_sem, seval] <;> rfl) | (simp (disch := first | decide | omega) only [if_pos, nws, go_sem, seval] <;> rfl)) rfl; apply aops_end; rfl) (by (simp (disch := omega) only [go_sem, seval, lay, nws]); rfl) ?_
    refine AWP.sR gok [2, 3] (by apply aops_x (d := 8) (ag_n rfl) rfl (by first | (simp (disch := decide) only [go_sem, seval] <;> rfl) | (simp (disch := first | decide | omega) only [if_pos, nws, go_sem, seval] <;> rfl)) rfl; apply aops_s (ag_n rfl) rfl (by first | (simp (disch := decide) only [go_sem, seval] <;> rfl) | (simp (disch := first | decide | omega) only [if_pos, nws, go_sem, seval] <;> rfl)); apply aops_x (d := 3) (ag_n rfl) rfl (by first | (simp (disch := decide) only [go_sem, seval] <;> rfl) | (simp (disch := first | decide | omega) only [if_pos, nws, go_sem, seval] <;> rfl)) rfl; apply aops_end; rfl) (by (simp (disch := omega) only [go_sem, seval, lay, nws]); rfl) ?_
    refine AWP.ghost (Ghost.typed 2 thT (xs := [((0 : Int), (0 : Int))]) (by rfl) (by rfl)) ?_
    refine AWP.ret ?_
    refine ⟨.inr rfl, _, (by simp only [go_sem, seval] <;> rfl), ?_⟩
    simp only [go_sem, seval, Option.some.injEq, AV.c.injEq, AV.agg.injEq, CV.v.injEq, Value.int.injEq, Value.bool.injEq, Row.raw.injEq, List.cons.injEq, CV.sl.injEq, and_true, true_and, and_self]
    have e : l = [] := List.length_eq_zero_iff.1 (by omega)
    subst e; rfl
  · skip
    refine AWP.skip ?_
    change AWP _ _ _ _ _
    obtain ⟨a, ha⟩ : ∃ a, l[0]? = some a := ⟨_, List.getElem?_eq_getElem (by omega)⟩
    have hn3 : ¬ 2 = l.length * 3 := by omega
    refine AWP.sR gok [2, 3] (by apply aops_mv (t := 0) (d := 9) (ag_n rfl) rfl rfl (by first | (simp only [look_lay, look, seval] <;> rfl) | fail) rfl; apply aops_x (d := 10) (ag_n rfl) rfl (by first | (simp (disch := decide) only [ha, hn3, go_sem, seval] <;> rfl) | (simp (disch := first | decide | omega) only [if_pos, nws, ha, hn3, go_sem, seval] <;> rfl)) rfl; apply aops_x (d := 11) (ag_n rfl) rfl (by first | (simp (disch := decide) only [ha, hn3, go_sem, seval] <;> rfl) | (simp (disch := first | decide | omega) only [if_pos, nws, ha, hn3, go_sem, seval] <;> rfl)) rfl; apply aops_x (d := 12) (ag_n rfl) rfl (by first | (simp (disch := decide) only [ha, hn3, go_sem, seval] <;> rfl) | (simp (disch := first | decide | omega) only [if_pos, nws, ha, hn3, go_sem, seval] <;> rfl)) rfl; apply aops_x (d := 13) (ag_n rfl) rfl (by (simp (disch := first | decide | omega) only [if_pos, nws, ha, hn3, go_sem, seval] <;> rfl)) rfl; apply aops_x (d := 14) (ag_n rfl) rfl (by first | (simp (disch := decide) only [ha, hn3, go_sem, seval] <;> rfl) | (simp (disch := first | decide | omega) only [if_pos, nws, ha, hn3, go_sem, seval] <;> rfl)) rfl; apply aops_x (d := 15) (ag_n rfl) rfl (by first | (simp (disch := decide) only [ha, hn3, go_sem, seval] <;> rfl) | (simp (disch := first | decide | omega) only [if_pos, nws, ha, hn3, go_sem, seval] <;> rfl)) rfl; apply aops_s (ag_n rfl) rfl (by first | (simp (disch := decide) only [ha, hn3, go_sem, seval] <;> rfl) | (simp (disch := first | decide | omega) only [if_pos, nws, ha, hn3, go_sem, seval] <;> rfl)); apply aops_x (d := 3) (ag_n rfl) rfl (by first | (simp (disch := decide) only [ha, hn3, go_sem, seval] <;> rfl) | (simp (disch := first | decide | omega) only [if_pos, nws, ha, hn3, go_sem, seval] <;> rfl)) rfl; apply aops_end; rfl) (by (simp (disch := omega) only [go_sem, seval, lay, nws]); rfl) ?_
    refine AWP.ret ?_
    refine ⟨.inr rfl, _, (by simp only [go_sem, seval] <;> rfl), ?_⟩
    simp only [go_sem, seval, Option.some.injEq, AV.c.injEq, AV.agg.injEq, CV.v.injEq, Value.int.injEq, Value.bool.injEq, Row.raw.injEq, List.cons.injEq, CV.sl.injEq, and_true, true_and, and_self]
    have e : 0 < l.length := by omega
    show _ = AV.tup [.agg (.ty thT [topI l]), .c (cb (decide (0 < l.length)))]
    rw [topI_at ha, decide_eq_true e]
def E25 : Entry := objE 22 enT [] (fun l p d => c25 l p) (fun l p d => r25 l p) (fun l p d => f25 l p) (fun l p d => q25 l p) (fun l p d => L25 l p)
theorem E25_ok : EntryOk Try.prog 25 E25 := objE_ok rfl (fun _ _ _ => rfl) (fun _ _ _ => rfl) fun l p d hc => K25 l p hc
attribute [go_sem] E25 c25 r25 f25 q25 L25
abbrev c23 (l : List (Ty.D enT)) (n : Int) (x : (Ty.D thT)) : Prop := l.length < 99999 ∧ 0 ≤ n ∧ n ≤ 100000
abbrev r23 (l : List (Ty.D enT)) (n : Int) (x : (Ty.D thT)) : AV := .tup []
abbrev f23 (l : List (Ty.D enT)) (n : Int) (x : (Ty.D thT)) : List (Ty.D enT) := HeapLaw.push ltI l (x, n)
abbrev q23 (l : List (Ty.D enT)) (n : Int) (x : (Ty.D thT)) : Int := n + 1
abbrev L23 (l : List (Ty.D enT)) (n : Int) (x : (Ty.D thT)) : Hp := []
set_option maxRecDepth 100000 in
set_option maxHeartbeats 4000000 in
theorem K23 (l : List (Ty.D enT)) (n : Int) (x : (Ty.D thT)) (hc : c23 l n x) : CallOk Try.prog 23 [.c (.ptr 0 0 1 0), ro thT x] [some (.raw [.v (.func (.func 22) #[] #[]), .sl 1 0 (l).length 3, ci .i64 n]), some (.ty enT (l))] (r23 l n x) (some (.raw [.v (.func (.func 22) #[] #[]), .sl 2 0 (f23 l n x).length 3, ci .i64 (q23 l n x)]) :: none :: some (.ty enT (f23 l n x)) :: L23 l n x) := by
  have hc : l.length < 99999 ∧ 0 ≤ n ∧ n ≤ 100000 := hc
  obtain ⟨hl, hn0, hn1⟩ := hc
  have gok := (Gam.cons_ok E47_ok (Gam.nil_ok _))
  refine callOk' Try.func23 36 [] _ rfl rfl rfl (by kernel_rfl) (by simp) [0, 1, 4] rfl rfl (by simp) ?_
  simp only [params]
  refine AWP.sR gok [0, 3] (by apply aops_x (d := 3) (ag_n rfl) rfl (by first | (simp (disch := decide) only [go_sem, seval] <;> rfl) | (simp (disch := first | decide | omega) only [if_pos, nws, go_sem, seval] <;> rfl)) rfl; apply aops_end; rfl) (by (simp (disch := omega) only [go_sem, seval, lay, nws]); rfl) ?_
  refine AWP.seq ?_
  refine AWP.sR gok [0, 3, 5] (by apply aops_mv (t := 0) (d := 4) (ag_n rfl) rfl rfl (by first | (simp only [look_lay, look, seval] <;> rfl) | fail) rfl; apply aops_x (d := 5) (ag_n rfl) rfl (by first | (simp (disch := decide) only [go_sem, seval] <;> rfl) | (simp (disch := first | decide | omega) only [if_pos, nws, go_sem, seval] <;> rfl)) rfl; apply aops_end; rfl) (by (simp (disch := omega) only [go_sem, seval, lay, nws]); rfl) ?_
  refine AWP.condF (b := _) rfl (by first | rfl | (simp only [decide_eq_true_eq, decide_eq_false_iff_not]; omega)) ?_
  refine AWP.skip ?_
  change AWP _ _ _ _ _
  refine AWP.sD gok (by kernel_rfl) [0] [⟨[], true, 0⟩, ⟨[], true, 0⟩, ⟨[], true, 0⟩, ⟨[], true, 0⟩, ⟨[0], true, 0⟩, ⟨[2], true, 0⟩, ⟨[], true, 0⟩, ⟨[], true, 0⟩, ⟨[], true, 0⟩, ⟨[0], true, 0⟩, ⟨[], true, 0⟩, ⟨[], true, 1⟩, ⟨[1, 3], false, 1⟩, ⟨[], true, 0⟩, ⟨[], true, 0⟩, ⟨[0], false, 0⟩] (by kernel_rfl) (by first | rfl | simp only [go_sem, ↓reduceIte, Nat.reduceLT, Nat.reduceAdd]) (by first | rfl | simp only [go_sem, ↓reduceIte, Nat.reduceLT, Nat.reduceAdd]) (by (repeat (first | apply arun_step (by first | exact ag_n rfl | exact ag_b rfl rfl rfl (by first | (simp only [look_lay, look, seval] <;> rfl) | fail) (by first | rfl | (simp only [decide_true, decide_false] <;> rfl) | fail) | fail) (by first | (simp (disch := decide) only [go_sem, seval]; rfl) | (simp (disch := first | decide | omega) only [if_pos, nws, go_sem, seval]; rfl)) (by first | (intro h; cases h; done) | (intro _; rfl) | (intro _; simp only [go_sem, seval, lay])) (by first | rfl | simp only [go_sem, seval, lay]) (by first | rfl | simp only [go_sem, seval, lay]) (by first | rfl | simp only [go_sem, seval, lay]) (by simp only [go_sem, seval, lay]; rfl) | apply arun_pass (by first | exact ag_f rfl rfl rfl (by first | (simp only [look_lay, look, seval] <;> rfl) | fail) (by first | rfl | (simp only [decide_true, decide_false] <;> rfl) | fail) | exact ag_u rfl rfl rfl (by first | (simp only [look_lay, look, seval] <;> rfl) | fail) | fail) rfl (by simp only [go_sem, seval, lay]; rfl))); exact rfl) (by (simp (disch := omega) only [go_sem, seval, lay, nws]); rfl) ?_
  refine AWP.sR gok [0] (by apply aops_mv (t := 0) (d := 21) (ag_n rfl) rfl rfl (by first | (simp only [look_lay, look, seval] <;> rfl) | fail) rfl; apply aops_x (d := 22) (ag_n rfl) rfl (by first | (simp (disch := decide) only [go_sem, seval] <;> rfl) | (simp (disch := first | decide | omega) only [if_pos, nws, go_sem, seval] <;> rfl)) rfl; apply aops_x (d := 23) (ag_n rfl) rfl (by first | (simp (disch := decide) only [go_sem, seval] <;> rfl) | (simp (disch := first | decide | omega) only [if_pos, nws, go_sem, seval] <;> rfl)) rfl; apply aops_x (d := 24) (ag_n rfl) rfl (by first | (simp (disch := decide) only [go_sem, seval] <;> rfl) | (simp (disch := first | decide | omega) only [if_pos, nws, go_sem, seval] <;> rfl)) rfl; apply aops_x (d := 25) (ag_n rfl) rfl (by first | (simp (disch := decide) only [go_sem, seval] <;> rfl) | (simp (disch := first | decide | omega) only [if_pos, nws, go_sem, seval] <;> rfl)) rfl; apply aops_x (d := 26) (ag_n rfl) rfl (by first | (simp (disch := decide) only [go_sem, seval] <;> rfl) | (simp (disch := first | decide | omega) only [if_pos, nws, go_sem, seval] <;> rfl)) rfl; apply aops_x (d := 27) (ag_n rfl) rfl (by first | (simp (disch := decide) only [go_sem, seval] <;> rfl) | (simp (disch := first | decide | omega) only [if_pos, nws, go_sem, seval] <;> rfl)) rfl; apply aops_s (ag_n rfl) rfl (by first | (simp (disch := decide) only [go_sem, seval] <;> rfl) | (simp (disch := first | decide | omega) only [if_pos, nws, go_sem, seval] <;> rfl)); apply aops_end; rfl) (by (simp (disch := omega) only [go_sem, seval, lay, nws]); rfl) ?_
  have e1 : (l ++ [(x, n)]).length = l.length + 1 := by simp
  have e2 : ((l.length + 1 : Nat) : Int) - 1 = (l.length : Int) := by omega
  refine AWP.rT gok [] (by apply aops_mv (t := 0) (d := 28) (ag_n rfl) rfl rfl (by first | (simp only [look_lay, look, seval] <;> rfl) | fail) rfl; apply aops_mv (t := 0) (d := 29) (ag_n rfl) rfl rfl (by first | (simp only [look_lay, look, seval] <;> rfl) | fail) rfl; apply aops_x (d := 30) (ag_n rfl) rfl (by first | (simp (disch := decide) only [e1, e2, go_sem, seval] <;> rfl) | (simp (disch := first | decide | omega) only [if_pos, nws, e1, e2, go_sem, seval] <;> rfl)) rfl; apply aops_x (d := 31) (ag_n rfl) rfl (by first | (simp (disch := decide) only [e1, e2, go_sem, seval] <;> rfl) | (simp (disch := first | decide | omega) only [if_pos, nws, e1, e2, go_sem, seval] <;> rfl)) rfl; apply aops_x (d := 32) (ag_n rfl) rfl (by first | (simp (disch := decide) only [e1, e2, go_sem, seval] <;> rfl) | (simp (disch := first | decide | omega) only [if_pos, nws, e1, e2, go_sem, seval] <;> rfl)) rfl; apply aops_x (d := 33) (ag_n rfl) rfl (by first | (simp (disch := decide) only [e1, e2, go_sem, seval] <;> rfl) | (simp (disch := first | decide | omega) only [if_pos, nws, e1, e2, go_sem, seval] <;> rfl)) rfl; apply aops_x (d := 34) (ag_n rfl) rfl (by first | (simp (disch := decide) only [e1, e2, go_sem, seval] <;> rfl) | (simp (disch := first | decide | omega) only [if_pos, nws, e1, e2, go_sem, seval] <;> rfl)) rfl; apply aops_x (d := 35) (ag_n rfl) rfl (by (simp (disch := first | decide | omega) only [if_pos, nws, e1, e2, go_sem, seval] <;> rfl)) rfl; apply aops_end; rfl) (by (simp (disch := omega) only [go_sem, seval, lay, nws]); rfl) ?_
  refine ⟨.inl rfl, _, (by simp only [go_sem, seval] <;> rfl), ?_⟩
  simp only [go_sem, seval, Option.some.injEq, AV.c.injEq, AV.agg.injEq, CV.v.injEq, Value.int.injEq, Value.bool.injEq, Row.raw.injEq, List.cons.injEq, CV.sl.injEq, and_true, true_and, and_self]
  have e3 : HeapLaw.up ltI (l.length + 1 + 1) (l ++ [(x, n)]) l.length = HeapLaw.push ltI l (x, n) := HeapLaw.up_fuel _ _ _ _ _ (by omega) (by omega)
  rw [e3]; exact ⟨rfl, rfl⟩
def E23 : Entry := objPE 22 enT [thT] (fun l p d => c23 l p d.1) (fun l p d => r23 l p d.1) (fun l p d => f23 l p d.1) (fun l p d => q23 l p d.1) (fun l p d => L23 l p d.1)
theorem E23_ok : EntryOk Try.prog 23 E23 := objPE_ok rfl (fun _ _ _ => rfl) (fun _ _ _ => rfl) fun l p d hc => K23 l p d.1 hc
attribute [go_sem] E23 c23 r23 f23 q23 L23
end Go.Proofs.Ytonhglodnmoadaa
