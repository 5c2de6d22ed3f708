import Derived.Test.YtonhglodnmoadaaHt5
set_option linter.unusedSimpArgs false
set_option linter.unusedVariables false
namespace Go.Proofs.Ytonhglodnmoadaa
open Go.RowKit
def allI (l : List ((Int × Int) × Int)) : List (Int × Int) := (HeapLaw.popAll ltI l.length l).map (·.1)
theorem allI_nil : allI [] = [] := rfl
theorem allI_step {l : List ((Int × Int) × Int)} (h : 0 < l.length) : allI l = topI l :: allI (HeapLaw.pop ltI l) := by
  obtain ⟨a, ha⟩ : ∃ a, l[0]? = some a := ⟨_, List.getElem?_eq_getElem h⟩
  obtain ⟨f, hf⟩ : ∃ f, l.length = f + 1 := ⟨l.length - 1, by omega⟩
  have hp := HeapLaw.pop_len (lt := ltI) l h
  unfold allI
  rw [hf, HeapLaw.popAll, ha]
  simp only [List.map_cons]
  rw [topI_at ha, hp, hf]; rfl
theorem allI_len : ∀ (n : Nat) (l : List ((Int × Int) × Int)), l.length = n → (allI l).length = n
  | 0, l, h => by have : l = [] := List.length_eq_zero_iff.1 h; subst this; rfl
  | n + 1, l, h => by
    have hp := HeapLaw.pop_len (lt := ltI) l (by omega)
    rw [allI_step (by omega), List.length_cons, allI_len n _ (by omega)]
abbrev c32 (l : List (Ty.D enT)) (n : Int) : Prop := l.length ≤ 100000
abbrev r32 (l : List (Ty.D enT)) (n : Int) : AV := .c (.sl 2 0 (allI l).length 2)
abbrev f32 (l : List (Ty.D enT)) (n : Int) : List (Ty.D enT) := l
abbrev q32 (l : List (Ty.D enT)) (n : Int) : Int := n
abbrev L32 (l : List (Ty.D enT)) (n : Int) : Hp := [some (.ty thT (allI l))]
set_option maxRecDepth 100000 in
set_option maxHeartbeats 4000000 in
theorem K32 (l : List (Ty.D enT)) (n : Int) (hc : c32 l n) : CallOk Try.prog 32 [.c (.ptr 0 0 1 0)] [some (.raw [.v (.func (.func 22) #[] #[]), .sl 1 0 (l).length 3, ci .i64 n]), some (.ty enT (l))] (r32 l n) (some (.raw [.v (.func (.func 22) #[] #[]), .sl 1 0 (f32 l n).length 3, ci .i64 (q32 l n)]) :: some (.ty enT (f32 l n)) :: L32 l n) := by
  have hc : l.length ≤ 100000 := hc
  have gok := (Gam.cons_ok E26_ok (Gam.cons_ok E51_ok (Gam.nil_ok _)))
  refine callOk' Try.func32 37 [.tmp 2] _ rfl rfl rfl (by kernel_rfl) (by simp) [0, 1, 5] rfl rfl (by simp) ?_
  simp only [params]
  refine AWP.sR gok [0] (by apply aops_x (d := 2) (ag_n rfl) rfl (by first | (simp (disch := decide) only [go_sem, seval] <;> rfl) | (simp (disch := first | decide | omega) only [if_pos, nws, go_sem, seval] <;> rfl)) rfl; apply aops_end; rfl) (by (simp (disch := omega) only [go_sem, seval, lay, nws]); rfl) ?_
  refine AWP.seq ?_
  refine AWP.sR gok [0, 8] (by apply aops_mv (t := 0) (d := 7) (ag_n rfl) rfl rfl (by first | (simp only [look_lay, look, seval] <;> rfl) | fail) rfl; apply aops_x (d := 8) (ag_n rfl) rfl (by first | (simp (disch := decide) only [go_sem, seval] <;> rfl) | (simp (disch := first | decide | omega) only [if_pos, nws, go_sem, seval] <;> rfl)) rfl; apply aops_end; rfl) (by (simp (disch := omega) only [go_sem, seval, lay, nws]); rfl) ?_
  refine AWP.condF (b := _) rfl (by first | rfl | (simp only [decide_eq_true_eq, decide_eq_false_iff_not]; omega)) ?_
  refine AWP.skip ?_
  change AWP _ _ _ _ _
  refine AWP.sD gok (by kernel_rfl) [3] [⟨[], true, 0⟩, ⟨[], true, 0⟩, ⟨[], true, 0⟩, ⟨[0], true, 0⟩, ⟨[], true, 0⟩, ⟨[], true, 0⟩, ⟨[], true, 0⟩, ⟨[0], true, 0⟩, ⟨[1], true, 1⟩, ⟨[], true, 0⟩, ⟨[], true, 1⟩, ⟨[], true, 0⟩] (by kernel_rfl) (by first | rfl | simp only [go_sem, ↓reduceIte, Nat.reduceLT, Nat.reduceAdd]) (by first | rfl | simp only [go_sem, ↓reduceIte, Nat.reduceLT, Nat.reduceAdd]) (by (repeat (first | apply arun_step (by first | exact ag_n rfl | exact ag_b rfl rfl rfl (by first | (simp only [look_lay, look, seval] <;> rfl) | fail) (by first | rfl | (simp only [decide_true, decide_false] <;> rfl) | fail) | fail) (by first | (simp (disch := decide) only [go_sem, seval]; rfl) | (simp (disch := first | decide | omega) only [if_pos, nws, go_sem, seval]; rfl)) (by first | (intro h; cases h; done) | (intro _; rfl) | (intro _; simp only [go_sem, seval, lay])) (by first | rfl | simp only [go_sem, seval, lay]) (by first | rfl | simp only [go_sem, seval, lay]) (by first | rfl | simp only [go_sem, seval, lay]) (by simp only [go_sem, seval, lay]; rfl) | apply arun_pass (by first | exact ag_f rfl rfl rfl (by first | (simp only [look_lay, look, seval] <;> rfl) | fail) (by first | rfl | (simp only [decide_true, decide_false] <;> rfl) | fail) | exact ag_u rfl rfl rfl (by first | (simp only [look_lay, look, seval] <;> rfl) | fail) | fail) rfl (by simp only [go_sem, seval, lay]; rfl))); exact rfl) (by (simp (disch := omega) only [go_sem, seval, lay, nws]); rfl) ?_
  refine AWP.sR gok [3, 4] (by apply aops_x (d := 4) (ag_n rfl) rfl (by first | (simp (disch := decide) only [go_sem, seval] <;> rfl) | (simp (disch := first | decide | omega) only [if_pos, nws, go_sem, seval] <;> rfl)) rfl; apply aops_end; rfl) (by (simp (disch := omega) only [go_sem, seval, lay, nws]); rfl) ?_
  refine AWP.seq ?_
  refine AWP.sR gok [3, 4, 5, 6] (by apply aops_mv (t := 3) (d := 21) (ag_n rfl) rfl rfl (by first | (simp only [look_lay, look, seval] <;> rfl) | fail) rfl; apply aops_x (d := 22) (ag_n rfl) rfl (by (simp (disch := first | decide | omega) only [if_pos, nws, hc, go_sem, seval] <;> rfl)) rfl; apply aops_mv (t := 22) (d := 20) (ag_n rfl) rfl rfl (by first | (simp only [look_lay, look, seval] <;> rfl) | fail) rfl; apply aops_x (d := 23) (ag_n rfl) rfl (by first | (simp (disch := decide) only [hc, go_sem, seval] <;> rfl) | (simp (disch := first | decide | omega) only [if_pos, nws, hc, go_sem, seval] <;> rfl)) rfl; apply aops_x (d := 24) (ag_n rfl) rfl (by first | (simp (disch := decide) only [hc, go_sem, seval] <;> rfl) | (simp (disch := first | decide | omega) only [if_pos, nws, hc, go_sem, seval] <;> rfl)) rfl; apply aops_x (d := 5) (ag_n rfl) rfl (by first | (simp (disch := decide) only [hc, go_sem, seval] <;> rfl) | (simp (disch := first | decide | omega) only [if_pos, nws, hc, go_sem, seval] <;> rfl)) rfl; apply aops_s (ag_n rfl) rfl (by first | (simp (disch := decide) only [hc, go_sem, seval] <;> rfl) | (simp (disch := first | decide | omega) only [if_pos, nws, hc, go_sem, seval] <;> rfl)); apply aops_as (t := 24) (d := 6) (ag_n rfl) rfl rfl (by first | (simp only [look_lay, look, seval] <;> rfl) | fail) rfl; apply aops_end; rfl) (by (simp (disch := omega) only [go_sem, seval, lay, nws]); rfl) ?_
  refine AWP.block ?_
  refine AWP.loopP (fun (p : List ((Int × Int) × Int) × List (Int × Int)) => ⟨37, [(3, .c (.ptr 3 0 1 0)), (4, .c (.sl 5 0 p.2.length 2)), (5, .c (.ptr 4 0 1 0)), (6, .c (cb (decide (0 < p.1.length))))], [some (.raw [.v (.func (.func 22) #[] #[]), .sl 1 0 l.length 3, ci .i64 n]), some (.ty enT l), some (.ty enT (HeapLaw.pop ltI p.1)), some (.raw [.v (.func (.func 22) #[] #[]), .sl 2 0 (HeapLaw.pop ltI p.1).length 3, ci .i64 0]), some (.ty thT [topI p.1]), some (.ty thT p.2)]⟩) (fun p => p.1.length + p.2.length = l.length ∧ p.2 ++ allI p.1 = allI l) (fun p => p.1.length) (l, []) (Ghost.nil 4 2 thT rfl (by simp)) ⟨by simp, rfl⟩ ?_
  rintro ⟨ys, out⟩ ⟨i1, i2⟩
  simp only at i1 i2 ⊢
  refine AWP.seq ?_
  refine AWP.sR gok [3, 4, 5, 25] (by apply aops_mv (t := 6) (d := 25) (ag_n rfl) rfl rfl (by first | (simp only [look_lay, look, seval] <;> rfl) | fail) rfl; apply aops_end; rfl) (by (simp (disch := omega) only [go_sem, seval, lay, nws]); rfl) ?_
  refine AWP.cond (b := _) rfl (fun h => ?_) (fun h => ?_) <;> (try simp only [decide_eq_true_eq, decide_eq_false_iff_not] at h)
  · skip
    refine AWP.skip ?_
    change AWP _ _ _ _ _
    refine AWP.seqBlock ?_
    have hp := HeapLaw.pop_len (lt := ltI) ys h
    have hs := allI_step h
    have hll : (HeapLaw.pop ltI ys).length ≤ 100000 := by omega
    refine AWP.rT gok [3, 4, 5] (by apply aops_mv (t := 4) (d := 31) (ag_n rfl) rfl rfl (by first | (simp only [look_lay, look, seval] <;> rfl) | fail) rfl; apply aops_x (d := 32) (ag_n rfl) rfl (by first | (simp (disch := decide) only [go_sem, seval] <;> rfl) | (simp (disch := first | decide | omega) only [if_pos, nws, go_sem, seval] <;> rfl)) rfl; apply aops_x (d := 33) (ag_n rfl) rfl (by (simp (disch := first | decide | omega) only [if_pos, nws, go_sem, seval] <;> rfl)) rfl; apply aops_x (d := 34) (ag_n rfl) rfl (by (simp (disch := first | decide | omega) only [if_pos, nws, go_sem, seval] <;> rfl)) rfl; apply aops_as (t := 34) (d := 4) (ag_n rfl) rfl rfl (by first | (simp only [look_lay, look, seval] <;> rfl) | fail) rfl; apply aops_end; rfl) (by (simp (disch := omega) only [go_sem, seval, lay, nws]); rfl) ?_
    change AWP _ _ _ _ _
    refine AWP.seq ?_
    refine AWP.sR gok [3, 4, 35] (by apply aops_x (d := 35) (ag_n rfl) rfl (by first | (simp (disch := decide) only [go_sem, seval] <;> rfl) | (simp (disch := first | decide | omega) only [if_pos, nws, go_sem, seval] <;> rfl)) rfl; apply aops_end; rfl) (by (simp (disch := omega) only [go_sem, seval, lay, nws]); rfl) ?_
    refine AWP.rT gok [3, 4, 5] (by apply aops_x (d := 5) (ag_n rfl) rfl (by first | (simp (disch := decide) only [go_sem, seval] <;> rfl) | (simp (disch := first | decide | omega) only [if_pos, nws, go_sem, seval] <;> rfl)) rfl; apply aops_s (ag_n rfl) rfl (by first | (simp (disch := decide) only [go_sem, seval] <;> rfl) | (simp (disch := first | decide | omega) only [if_pos, nws, go_sem, seval] <;> rfl)); apply aops_end; rfl) (by (simp (disch := omega) only [go_sem, seval, lay, nws]); rfl) ?_
    change AWP _ _ _ _ _
    refine AWP.rT gok [3, 4, 5, 6] (by apply aops_mv (t := 3) (d := 27) (ag_n rfl) rfl rfl (by first | (simp only [look_lay, look, seval] <;> rfl) | fail) rfl; apply aops_x (d := 28) (ag_n rfl) rfl (by (simp (disch := first | decide | omega) only [if_pos, nws, hll, go_sem, seval] <;> rfl)) rfl; apply aops_mv (t := 28) (d := 26) (ag_n rfl) rfl rfl (by first | (simp only [look_lay, look, seval] <;> rfl) | fail) rfl; apply aops_x (d := 29) (ag_n rfl) rfl (by first | (simp (disch := decide) only [hll, go_sem, seval] <;> rfl) | (simp (disch := first | decide | omega) only [if_pos, nws, hll, go_sem, seval] <;> rfl)) rfl; apply aops_x (d := 30) (ag_n rfl) rfl (by first | (simp (disch := decide) only [hll, go_sem, seval] <;> rfl) | (simp (disch := first | decide | omega) only [if_pos, nws, hll, go_sem, seval] <;> rfl)) rfl; apply aops_s (ag_n rfl) rfl (by first | (simp (disch := decide) only [hll, go_sem, seval] <;> rfl) | (simp (disch := first | decide | omega) only [if_pos, nws, hll, go_sem, seval] <;> rfl)); apply aops_as (t := 30) (d := 6) (ag_n rfl) rfl rfl (by first | (simp only [look_lay, look, seval] <;> rfl) | fail) rfl; apply aops_end; rfl) (by (simp (disch := omega) only [go_sem, seval, lay, nws]); rfl) ?_
    exact ⟨(HeapLaw.pop ltI ys, out ++ [topI ys]), (Ghost.trans (Ghost.gc (ρ := [0, 1, 2, 3, 8, 7]) (by simp only [go_sem, seval] <;> rfl) rfl rfl rfl) (Ghost.of_eq (by simp only [List.length_append, List.length_cons, List.length_nil] <;> rfl))), ⟨by simp only [List.length_append, List.length_cons, List.length_nil]; omega, by simp only; rw [List.append_assoc, List.singleton_append, ← hs]; exact i2⟩, by simp only; omega⟩
  · skip
    refine AWP.exit ?_
    change AWP _ _ _ _ _
    refine AWP.sR gok [2] (by apply aops_mv (t := 4) (d := 36) (ag_n rfl) rfl rfl (by first | (simp only [look_lay, look, seval] <;> rfl) | fail) rfl; apply aops_as (t := 36) (d := 2) (ag_n rfl) rfl rfl (by first | (simp only [look_lay, look, seval] <;> rfl) | fail) rfl; apply aops_end; rfl) (by (simp (disch := omega) only [go_sem, seval, lay, nws]); rfl) ?_
    refine AWP.ret ?_
    refine ⟨.inr rfl, _, (by simp only [go_sem, seval] <;> rfl), ?_⟩
    simp only [go_sem, seval, Option.some.injEq, AV.c.injEq, AV.agg.injEq, CV.v.injEq, Value.int.injEq, Value.bool.injEq, Row.raw.injEq, List.cons.injEq, CV.sl.injEq, and_true, true_and, and_self]
    have e : ys = [] := List.length_eq_zero_iff.1 (by omega)
    subst e
    rw [allI_nil, List.append_nil] at i2
    subst i2; exact ⟨rfl, rfl⟩
def E32 : Entry := objE 22 enT [] (fun l p d => c32 l p) (fun l p d => r32 l p) (fun l p d => f32 l p) (fun l p d => q32 l p) (fun l p d => L32 l p)
theorem E32_ok : EntryOk Try.prog 32 E32 := objE_ok rfl (fun _ _ _ => rfl) (fun _ _ _ => rfl) fun l p d hc => K32 l p hc
attribute [go_sem] E32 c32 r32 f32 q32 L32
end Go.Proofs.Ytonhglodnmoadaa
