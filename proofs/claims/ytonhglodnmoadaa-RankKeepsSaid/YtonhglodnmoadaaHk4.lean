import Derived.Test.YtonhglodnmoadaaHk3
set_option linter.unusedSimpArgs false
set_option linter.unusedVariables false
namespace Go.Proofs.Ytonhglodnmoadaa
open Go.RowKit
def topI (l : List (Int × Int)) : Int := match l with | [] => 0 | a :: _ => a.1
theorem topI_at {l : List (Int × Int)} {a : Int × Int} (h : l[0]? = some a) : topI l = a.1 := by cases l with | nil => cases h | cons b l => cases h; rfl
abbrev c20 (l : List (Ty.D enT)) (n : Int) : Prop := l.length ≤ 100000
abbrev r20 (l : List (Ty.D enT)) (n : Int) : AV := .c (ci .i64 (l.length : Int))
abbrev f20 (l : List (Ty.D enT)) (n : Int) : List (Ty.D enT) := l
abbrev q20 (l : List (Ty.D enT)) (n : Int) : Int := n
abbrev L20 (l : List (Ty.D enT)) (n : Int) : Hp := []
set_option maxRecDepth 100000 in
set_option maxHeartbeats 4000000 in
theorem K20 (l : List (Ty.D enT)) (n : Int) (hc : c20 l n) : CallOk Try.prog 20 [.c (.ptr 0 0 1 0)] [some (.raw [.v (.func (.func 42) #[] #[]), .sl 1 0 (l).length 2, ci .i64 n]), some (.ty enT (l))] (r20 l n) (some (.raw [.v (.func (.func 42) #[] #[]), .sl 1 0 (f20 l n).length 2, ci .i64 (q20 l n)]) :: some (.ty enT (f20 l n)) :: L20 l n) := by
  have hc : l.length ≤ 100000 := hc
  refine callOk' Try.func20 10 [.tmp 2] _ rfl rfl rfl (by kernel_rfl) (by simp) [0, 1] rfl rfl (by simp) ?_
  simp only [params]
  refine AWP.sR (Gam.nil_ok _) [0] (by apply aops_x (d := 2) (ag_n rfl) rfl (by first | (simp (disch := decide) only [go_sem, seval] <;> rfl) | (simp (disch := first | decide | omega) only [if_pos, nws, go_sem, seval] <;> rfl)) rfl; apply aops_end; rfl) (by (simp (disch := omega) only [go_sem, seval, lay, nws]); rfl) ?_
  refine AWP.seq ?_
  refine AWP.sR (Gam.nil_ok _) [0, 4] (by apply aops_mv (t := 0) (d := 3) (ag_n rfl) rfl rfl (by first | (simp only [look_lay, look, seval] <;> rfl) | fail) rfl; apply aops_x (d := 4) (ag_n rfl) rfl (by first | (simp (disch := decide) only [go_sem, seval] <;> rfl) | (simp (disch := first | decide | omega) only [if_pos, nws, go_sem, seval] <;> rfl)) rfl; apply aops_end; rfl) (by (simp (disch := omega) only [go_sem, seval, lay, nws]); rfl) ?_
  refine AWP.condF (b := _) rfl (by first | rfl | (simp only [decide_eq_true_eq, decide_eq_false_iff_not]; omega)) ?_
  refine AWP.skip ?_
  change AWP _ _ _ _ _
  refine AWP.sR (Gam.nil_ok _) [2] (by apply aops_mv (t := 0) (d := 5) (ag_n rfl) rfl rfl (by first | (simp only [look_lay, look, seval] <;> rfl) | fail) rfl; apply aops_x (d := 6) (ag_n rfl) rfl (by first | (simp (disch := decide) only [go_sem, seval] <;> rfl) | (simp (disch := first | decide | omega) only [if_pos, nws, go_sem, seval] <;> rfl)) rfl; apply aops_x (d := 7) (ag_n rfl) rfl (by first | (simp (disch := decide) only [go_sem, seval] <;> rfl) | (simp (disch := first | decide | omega) only [if_pos, nws, go_sem, seval] <;> rfl)) rfl; apply aops_x (d := 8) (ag_n rfl) rfl (by first | (simp (disch := decide) only [go_sem, seval] <;> rfl) | (simp (disch := first | decide | omega) only [if_pos, nws, go_sem, seval] <;> rfl)) rfl; apply aops_x (d := 9) (ag_n rfl) rfl (by first | (simp (disch := decide) only [go_sem, seval] <;> rfl) | (simp (disch := first | decide | omega) only [if_pos, nws, go_sem, seval] <;> rfl)) rfl; apply aops_as (t := 9) (d := 2) (ag_n rfl) rfl rfl (by first | (simp only [look_lay, look, seval] <;> rfl) | fail) rfl; apply aops_end; rfl) (by (simp (disch := omega) only [go_sem, seval, lay, nws]); rfl) ?_
  refine AWP.ret ?_
  refine ⟨.inr rfl, _, (by simp only [go_sem, seval] <;> rfl), ?_⟩
  simp only [go_sem, seval, Option.some.injEq, AV.c.injEq, AV.agg.injEq, CV.v.injEq, Value.int.injEq, Value.bool.injEq, Row.raw.injEq, List.cons.injEq, CV.sl.injEq, and_true, true_and, and_self]
def E20 : Entry := objE 42 enT [] (fun l p d => c20 l p) (fun l p d => r20 l p) (fun l p d => f20 l p) (fun l p d => q20 l p) (fun l p d => L20 l p)
theorem E20_ok : EntryOk Try.prog 20 E20 := objE_ok rfl (fun _ _ _ => rfl) (fun _ _ _ => rfl) fun l p d hc => K20 l p hc
attribute [go_sem] E20 c20 r20 f20 q20 L20
abbrev c34 (l : List (Ty.D enT)) (n : Int) : Prop := l.length ≤ 100000
abbrev r34 (l : List (Ty.D enT)) (n : Int) : AV := .tup [.c (ci .i64 (topI l)), .c (cb (decide (0 < l.length)))]
abbrev f34 (l : List (Ty.D enT)) (n : Int) : List (Ty.D enT) := l
abbrev q34 (l : List (Ty.D enT)) (n : Int) : Int := n
abbrev L34 (l : List (Ty.D enT)) (n : Int) : Hp := []
set_option maxRecDepth 100000 in
set_option maxHeartbeats 4000000 in
theorem K34 (l : List (Ty.D enT)) (n : Int) (hc : c34 l n) : CallOk Try.prog 34 [.c (.ptr 0 0 1 0)] [some (.raw [.v (.func (.func 42) #[] #[]), .sl 1 0 (l).length 2, ci .i64 n]), some (.ty enT (l))] (r34 l n) (some (.raw [.v (.func (.func 42) #[] #[]), .sl 1 0 (f34 l n).length 2, ci .i64 (q34 l n)]) :: some (.ty enT (f34 l n)) :: L34 l n) := by
  have hc : l.length ≤ 100000 := hc
  have gok := (Gam.cons_ok E20_ok (Gam.nil_ok _))
  refine callOk' Try.func34 16 [.tmp 2, .tmp 3] _ rfl rfl rfl (by kernel_rfl) (by simp) [0, 1] rfl rfl (by simp) ?_
  simp only [params]
  refine AWP.sR gok [0] (by apply aops_x (d := 2) (ag_n rfl) rfl (by first | (simp (disch := decide) only [go_sem, seval] <;> rfl) | (simp (disch := first | decide | omega) only [if_pos, nws, go_sem, seval] <;> rfl)) rfl; apply aops_x (d := 3) (ag_n rfl) rfl (by first | (simp (disch := decide) only [go_sem, seval] <;> rfl) | (simp (disch := first | decide | omega) only [if_pos, nws, go_sem, seval] <;> rfl)) rfl; apply aops_end; rfl) (by (simp (disch := omega) only [go_sem, seval, lay, nws]); rfl) ?_
  refine AWP.seq ?_
  refine AWP.sR gok [0, 7] (by apply aops_mv (t := 0) (d := 5) (ag_n rfl) rfl rfl (by first | (simp only [look_lay, look, seval] <;> rfl) | fail) rfl; apply aops_x (d := 6) (ag_n rfl) rfl (by (simp (disch := first | decide | omega) only [if_pos, nws, go_sem, seval] <;> rfl)) rfl; apply aops_x (d := 7) (ag_n rfl) rfl (by first | (simp (disch := decide) only [go_sem, seval] <;> rfl) | (simp (disch := first | decide | omega) only [if_pos, nws, go_sem, seval] <;> rfl)) rfl; apply aops_end; rfl) (by (simp (disch := omega) only [go_sem, seval, lay, nws]); rfl) ?_
  refine AWP.cond (b := _) rfl (fun h => ?_) (fun h => ?_) <;> (try simp only [decide_eq_true_eq, decide_eq_false_iff_not] at h)
  · skip
    refine AWP.sR gok [4] (by apply aops_x (d := 4) (ag_n rfl) rfl (by first | (simp (disch := decide) only [go_sem, seval] <;> rfl) | (simp (disch := first | decide | omega) only [if_pos, nws, go_sem, seval] <;> rfl)) rfl; apply aops_end; rfl) (by (simp (disch := omega) only [go_sem, seval, lay, nws]); rfl) ?_
    refine AWP.sR gok [2, 3] (by apply aops_mv (t := 4) (d := 8) (ag_n rfl) rfl rfl (by first | (simp only [look_lay, look, seval] <;> rfl) | fail) rfl; apply aops_as (t := 8) (d := 2) (ag_n rfl) rfl rfl (by first | (simp only [look_lay, look, seval] <;> rfl) | fail) rfl; apply aops_x (d := 3) (ag_n rfl) rfl (by first | (simp (disch := decide) only [go_sem, seval] <;> rfl) | (simp (disch := first | decide | omega) only [if_pos, nws, go_sem, seval] <;> rfl)) rfl; apply aops_end; rfl) (by (simp (disch := omega) only [go_sem, seval, lay, nws]); rfl) ?_
    refine AWP.ret ?_
    refine ⟨.inr rfl, _, (by simp only [go_sem, seval] <;> rfl), ?_⟩
    simp only [go_sem, seval, Option.some.injEq, AV.c.injEq, AV.agg.injEq, CV.v.injEq, Value.int.injEq, Value.bool.injEq, Row.raw.injEq, List.cons.injEq, CV.sl.injEq, and_true, true_and, and_self]
    have e : l = [] := List.length_eq_zero_iff.1 (by omega)
    subst e; rfl
  · skip
    refine AWP.skip ?_
    change AWP _ _ _ _ _
    obtain ⟨a, ha⟩ : ∃ a, l[0]? = some a := ⟨_, List.getElem?_eq_getElem (by omega)⟩
    refine AWP.sR gok [2, 3] (by apply aops_mv (t := 0) (d := 9) (ag_n rfl) rfl rfl (by first | (simp only [look_lay, look, seval] <;> rfl) | fail) rfl; apply aops_x (d := 10) (ag_n rfl) rfl (by first | (simp (disch := decide) only [ha, go_sem, seval] <;> rfl) | (simp (disch := first | decide | omega) only [if_pos, nws, ha, go_sem, seval] <;> rfl)) rfl; apply aops_x (d := 11) (ag_n rfl) rfl (by first | (simp (disch := decide) only [ha, go_sem, seval] <;> rfl) | (simp (disch := first | decide | omega) only [if_pos, nws, ha, go_sem, seval] <;> rfl)) rfl; apply aops_x (d := 12) (ag_n rfl) rfl (by first | (simp (disch := decide) only [ha, go_sem, seval] <;> rfl) | (simp (disch := first | decide | omega) only [if_pos, nws, ha, go_sem, seval] <;> rfl)) rfl; apply aops_x (d := 13) (ag_n rfl) rfl (by (simp (disch := first | decide | omega) only [if_pos, nws, ha, go_sem, seval] <;> rfl)) rfl; apply aops_x (d := 14) (ag_n rfl) rfl (by first | (simp (disch := decide) only [ha, go_sem, seval] <;> rfl) | (simp (disch := first | decide | omega) only [if_pos, nws, ha, go_sem, seval] <;> rfl)) rfl; apply aops_x (d := 15) (ag_n rfl) rfl (by first | (simp (disch := decide) only [ha, go_sem, seval] <;> rfl) | (simp (disch := first | decide | omega) only [if_pos, nws, ha, go_sem, seval] <;> rfl)) rfl; apply aops_as (t := 15) (d := 2) (ag_n rfl) rfl rfl (by first | (simp only [look_lay, look, seval] <;> rfl) | fail) rfl; apply aops_x (d := 3) (ag_n rfl) rfl (by first | (simp (disch := decide) only [ha, go_sem, seval] <;> rfl) | (simp (disch := first | decide | omega) only [if_pos, nws, ha, go_sem, seval] <;> rfl)) rfl; apply aops_end; rfl) (by (simp (disch := omega) only [go_sem, seval, lay, nws]); rfl) ?_
    refine AWP.ret ?_
    refine ⟨.inr rfl, _, (by simp only [go_sem, seval] <;> rfl), ?_⟩
    simp only [go_sem, seval, Option.some.injEq, AV.c.injEq, AV.agg.injEq, CV.v.injEq, Value.int.injEq, Value.bool.injEq, Row.raw.injEq, List.cons.injEq, CV.sl.injEq, and_true, true_and, and_self]
    have e : 0 < l.length := by omega
    show _ = AV.tup [.c (ci .i64 (topI l)), .c (cb (decide (0 < l.length)))]
    rw [topI_at ha, decide_eq_true e]
def E34 : Entry := objE 42 enT [] (fun l p d => c34 l p) (fun l p d => r34 l p) (fun l p d => f34 l p) (fun l p d => q34 l p) (fun l p d => L34 l p)
theorem E34_ok : EntryOk Try.prog 34 E34 := objE_ok rfl (fun _ _ _ => rfl) (fun _ _ _ => rfl) fun l p d hc => K34 l p hc
attribute [go_sem] E34 c34 r34 f34 q34 L34
abbrev c17 (l : List (Ty.D enT)) (n : Int) (x : Int) : Prop := l.length < 99999 ∧ 0 ≤ n ∧ n ≤ 100000
abbrev r17 (l : List (Ty.D enT)) (n : Int) (x : Int) : AV := .tup []
abbrev f17 (l : List (Ty.D enT)) (n : Int) (x : Int) : List (Ty.D enT) := HeapLaw.push ltI l (x, n)
abbrev q17 (l : List (Ty.D enT)) (n : Int) (x : Int) : Int := n + 1
abbrev L17 (l : List (Ty.D enT)) (n : Int) (x : Int) : Hp := []
set_option maxRecDepth 100000 in
set_option maxHeartbeats 4000000 in
theorem K17 (l : List (Ty.D enT)) (n : Int) (x : Int) (hc : c17 l n x) : CallOk Try.prog 17 [.c (.ptr 0 0 1 0), .c (ci .i64 x)] [some (.raw [.v (.func (.func 42) #[] #[]), .sl 1 0 (l).length 2, ci .i64 n]), some (.ty enT (l))] (r17 l n x) (some (.raw [.v (.func (.func 42) #[] #[]), .sl 2 0 (f17 l n x).length 2, ci .i64 (q17 l n x)]) :: none :: some (.ty enT (f17 l n x)) :: L17 l n x) := by
  have hc : l.length < 99999 ∧ 0 ≤ n ∧ n ≤ 100000 := hc
  obtain ⟨hl, hn0, hn1⟩ := hc
  have gok := (Gam.cons_ok E43_ok (Gam.nil_ok _))
  refine callOk' Try.func17 36 [] _ rfl rfl rfl (by kernel_rfl) (by simp) [0, 1, 3] rfl rfl (by simp) ?_
  simp only [params]
  refine AWP.seq ?_
  refine AWP.sR gok [0, 1, 5] (by apply aops_mv (t := 0) (d := 4) (ag_n rfl) rfl rfl (by first | (simp only [look_lay, look, seval] <;> rfl) | fail) rfl; apply aops_x (d := 5) (ag_n rfl) rfl (by first | (simp (disch := decide) only [go_sem, seval] <;> rfl) | (simp (disch := first | decide | omega) only [if_pos, nws, go_sem, seval] <;> rfl)) rfl; apply aops_end; rfl) (by (simp (disch := omega) only [go_sem, seval, lay, nws]); rfl) ?_
  refine AWP.condF (b := _) rfl (by first | rfl | (simp only [decide_eq_true_eq, decide_eq_false_iff_not]; omega)) ?_
  refine AWP.skip ?_
  change AWP _ _ _ _ _
  refine AWP.sD gok (by kernel_rfl) [0] [⟨[], true, 0⟩, ⟨[], true, 0⟩, ⟨[], true, 0⟩, ⟨[], true, 0⟩, ⟨[0], true, 0⟩, ⟨[], true, 0⟩, ⟨[], true, 0⟩, ⟨[], true, 0⟩, ⟨[], true, 0⟩, ⟨[0], true, 0⟩, ⟨[], true, 0⟩, ⟨[], true, 1⟩, ⟨[1, 2], false, 1⟩, ⟨[], true, 0⟩, ⟨[], true, 0⟩, ⟨[0], false, 0⟩] (by kernel_rfl) (by first | rfl | simp only [go_sem, ↓reduceIte, Nat.reduceLT, Nat.reduceAdd]) (by first | rfl | simp only [go_sem, ↓reduceIte, Nat.reduceLT, Nat.reduceAdd]) (by (repeat (first | apply arun_step (by first | exact ag_n rfl | exact ag_b rfl rfl rfl (by first | (simp only [look_lay, look, seval] <;> rfl) | fail) (by first | rfl | (simp only [decide_true, decide_false] <;> rfl) | fail) | fail) (by first | (simp (disch := decide) only [go_sem, seval]; rfl) | (simp (disch := first | decide | omega) only [if_pos, nws, go_sem, seval]; rfl)) (by first | (intro h; cases h; done) | (intro _; rfl) | (intro _; simp only [go_sem, seval, lay])) (by first | rfl | simp only [go_sem, seval, lay]) (by first | rfl | simp only [go_sem, seval, lay]) (by first | rfl | simp only [go_sem, seval, lay]) (by simp only [go_sem, seval, lay]; rfl) | apply arun_pass (by first | exact ag_f rfl rfl rfl (by first | (simp only [look_lay, look, seval] <;> rfl) | fail) (by first | rfl | (simp only [decide_true, decide_false] <;> rfl) | fail) | exact ag_u rfl rfl rfl (by first | (simp only [look_lay, look, seval] <;> rfl) | fail) | fail) rfl (by simp only [go_sem, seval, lay]; rfl))); exact rfl) (by (simp (disch := omega) only [go_sem, seval, lay, nws]); rfl) ?_
  refine AWP.sR gok [0] (by apply aops_mv (t := 0) (d := 21) (ag_n rfl) rfl rfl (by first | (simp only [look_lay, look, seval] <;> rfl) | fail) rfl; apply aops_x (d := 22) (ag_n rfl) rfl (by first | (simp (disch := decide) only [go_sem, seval] <;> rfl) | (simp (disch := first | decide | omega) only [if_pos, nws, go_sem, seval] <;> rfl)) rfl; apply aops_x (d := 23) (ag_n rfl) rfl (by first | (simp (disch := decide) only [go_sem, seval] <;> rfl) | (simp (disch := first | decide | omega) only [if_pos, nws, go_sem, seval] <;> rfl)) rfl; apply aops_x (d := 24) (ag_n rfl) rfl (by first | (simp (disch := decide) only [go_sem, seval] <;> rfl) | (simp (disch := first | decide | omega) only [if_pos, nws, go_sem, seval] <;> rfl)) rfl; apply aops_x (d := 25) (ag_n rfl) rfl (by first | (simp (disch := decide) only [go_sem, seval] <;> rfl) | (simp (disch := first | decide | omega) only [if_pos, nws, go_sem, seval] <;> rfl)) rfl; apply aops_x (d := 26) (ag_n rfl) rfl (by first | (simp (disch := decide) only [go_sem, seval] <;> rfl) | (simp (disch := first | decide | omega) only [if_pos, nws, go_sem, seval] <;> rfl)) rfl; apply aops_x (d := 27) (ag_n rfl) rfl (by first | (simp (disch := decide) only [go_sem, seval] <;> rfl) | (simp (disch := first | decide | omega) only [if_pos, nws, go_sem, seval] <;> rfl)) rfl; apply aops_s (ag_n rfl) rfl (by first | (simp (disch := decide) only [go_sem, seval] <;> rfl) | (simp (disch := first | decide | omega) only [if_pos, nws, go_sem, seval] <;> rfl)); apply aops_end; rfl) (by (simp (disch := omega) only [go_sem, seval, lay, nws]); rfl) ?_
  have e1 : (l ++ [(x, n)]).length = l.length + 1 := by simp
  have e2 : ((l.length + 1 : Nat) : Int) - 1 = (l.length : Int) := by omega
  refine AWP.rT gok [] (by apply aops_mv (t := 0) (d := 28) (ag_n rfl) rfl rfl (by first | (simp only [look_lay, look, seval] <;> rfl) | fail) rfl; apply aops_mv (t := 0) (d := 29) (ag_n rfl) rfl rfl (by first | (simp only [look_lay, look, seval] <;> rfl) | fail) rfl; apply aops_x (d := 30) (ag_n rfl) rfl (by first | (simp (disch := decide) only [e1, e2, go_sem, seval] <;> rfl) | (simp (disch := first | decide | omega) only [if_pos, nws, e1, e2, go_sem, seval] <;> rfl)) rfl; apply aops_x (d := 31) (ag_n rfl) rfl (by first | (simp (disch := decide) only [e1, e2, go_sem, seval] <;> rfl) | (simp (disch := first | decide | omega) only [if_pos, nws, e1, e2, go_sem, seval] <;> rfl)) rfl; apply aops_x (d := 32) (ag_n rfl) rfl (by first | (simp (disch := decide) only [e1, e2, go_sem, seval] <;> rfl) | (simp (disch := first | decide | omega) only [if_pos, nws, e1, e2, go_sem, seval] <;> rfl)) rfl; apply aops_x (d := 33) (ag_n rfl) rfl (by first | (simp (disch := decide) only [e1, e2, go_sem, seval] <;> rfl) | (simp (disch := first | decide | omega) only [if_pos, nws, e1, e2, go_sem, seval] <;> rfl)) rfl; apply aops_x (d := 34) (ag_n rfl) rfl (by first | (simp (disch := decide) only [e1, e2, go_sem, seval] <;> rfl) | (simp (disch := first | decide | omega) only [if_pos, nws, e1, e2, go_sem, seval] <;> rfl)) rfl; apply aops_x (d := 35) (ag_n rfl) rfl (by (simp (disch := first | decide | omega) only [if_pos, nws, e1, e2, go_sem, seval] <;> rfl)) rfl; apply aops_end; rfl) (by (simp (disch := omega) only [go_sem, seval, lay, nws]); rfl) ?_
  refine ⟨.inl rfl, _, (by simp only [go_sem, seval] <;> rfl), ?_⟩
  simp only [go_sem, seval, Option.some.injEq, AV.c.injEq, AV.agg.injEq, CV.v.injEq, Value.int.injEq, Value.bool.injEq, Row.raw.injEq, List.cons.injEq, CV.sl.injEq, and_true, true_and, and_self]
  have e3 : HeapLaw.up ltI (l.length + 1 + 1) (l ++ [(x, n)]) l.length = HeapLaw.push ltI l (x, n) := HeapLaw.up_fuel _ _ _ _ _ (by omega) (by omega)
  rw [e3]; exact ⟨rfl, rfl⟩
def E17 : Entry := objPE 42 enT [(.i .i64)] (fun l p d => c17 l p d.1) (fun l p d => r17 l p d.1) (fun l p d => f17 l p d.1) (fun l p d => q17 l p d.1) (fun l p d => L17 l p d.1)
theorem E17_ok : EntryOk Try.prog 17 E17 := objPE_ok rfl (fun _ _ _ => rfl) (fun _ _ _ => rfl) fun l p d hc => K17 l p d.1 hc
attribute [go_sem] E17 c17 r17 f17 q17 L17
end Go.Proofs.Ytonhglodnmoadaa
