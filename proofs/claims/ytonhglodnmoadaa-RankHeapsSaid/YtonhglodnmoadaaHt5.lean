import Derived.Test.YtonhglodnmoadaaHt4
set_option linter.unusedSimpArgs false
set_option linter.unusedVariables false
namespace Go.Proofs.Ytonhglodnmoadaa
open Go.RowKit
theorem pop_nil : HeapLaw.pop ltI [] = [] := rfl
abbrev c26 (l : List (Ty.D enT)) (n : Int) : Prop := l.length ≤ 100000
abbrev r26 (l : List (Ty.D enT)) (n : Int) : AV := .tup [.agg (.ty thT [topI l]), .c (cb (decide (0 < l.length)))]
abbrev f26 (l : List (Ty.D enT)) (n : Int) : List (Ty.D enT) := HeapLaw.pop ltI l
abbrev q26 (l : List (Ty.D enT)) (n : Int) : Int := n
abbrev L26 (l : List (Ty.D enT)) (n : Int) : Hp := []
set_option maxRecDepth 100000 in
set_option maxHeartbeats 4000000 in
theorem K26 (l : List (Ty.D enT)) (n : Int) (hc : c26 l n) : CallOk Try.prog 26 [.c (.ptr 0 0 1 0)] [some (.raw [.v (.func (.func 22) #[] #[]), .sl 1 0 (l).length 3, ci .i64 n]), some (.ty enT (l))] (r26 l n) (some (.raw [.v (.func (.func 22) #[] #[]), .sl 1 0 (f26 l n).length 3, ci .i64 (q26 l n)]) :: some (.ty enT (f26 l n)) :: L26 l n) := by
  have hc : l.length ≤ 100000 := hc
  have gok := (Gam.cons_ok E25_ok (Gam.cons_ok E48_ok (Gam.nil_ok _)))
  refine callOk' Try.func26 44 [.cell 2 45, .tmp 3] _ rfl rfl rfl (by kernel_rfl) (by simp) [0, 1] rfl rfl (by simp) ?_
  simp only [params]
  refine AWP.sR gok [0, 2] (by apply aops_x (d := 2) (ag_n rfl) rfl (by first | (simp (disch := decide) only [go_sem, seval] <;> rfl) | (simp (disch := first | decide | omega) only [if_pos, nws, go_sem, seval] <;> rfl)) rfl; apply aops_x (d := 3) (ag_n rfl) rfl (by first | (simp (disch := decide) only [go_sem, seval] <;> rfl) | (simp (disch := first | decide | omega) only [if_pos, nws, go_sem, seval] <;> rfl)) rfl; apply aops_end; rfl) (by (simp (disch := omega) only [go_sem, seval, lay, nws]); rfl) ?_
  refine AWP.sR gok [0, 2, 4, 5] (by apply aops_mv (t := 0) (d := 8) (ag_n rfl) rfl rfl (by first | (simp only [look_lay, look, seval] <;> rfl) | fail) rfl; apply aops_x (d := 9) (ag_n rfl) rfl (by (simp (disch := first | decide | omega) only [if_pos, nws, go_sem, seval] <;> rfl)) rfl; apply aops_mv (t := 9) (d := 7) (ag_n rfl) rfl rfl (by first | (simp only [look_lay, look, seval] <;> rfl) | fail) rfl; apply aops_x (d := 10) (ag_n rfl) rfl (by first | (simp (disch := decide) only [go_sem, seval] <;> rfl) | (simp (disch := first | decide | omega) only [if_pos, nws, go_sem, seval] <;> rfl)) rfl; apply aops_x (d := 11) (ag_n rfl) rfl (by first | (simp (disch := decide) only [go_sem, seval] <;> rfl) | (simp (disch := first | decide | omega) only [if_pos, nws, go_sem, seval] <;> rfl)) rfl; apply aops_x (d := 4) (ag_n rfl) rfl (by first | (simp (disch := decide) only [go_sem, seval] <;> rfl) | (simp (disch := first | decide | omega) only [if_pos, nws, go_sem, seval] <;> rfl)) rfl; apply aops_s (ag_n rfl) rfl (by first | (simp (disch := decide) only [go_sem, seval] <;> rfl) | (simp (disch := first | decide | omega) only [if_pos, nws, go_sem, seval] <;> rfl)); apply aops_as (t := 11) (d := 5) (ag_n rfl) rfl rfl (by first | (simp only [look_lay, look, seval] <;> rfl) | fail) rfl; apply aops_end; rfl) (by (simp (disch := omega) only [go_sem, seval, lay, nws]); rfl) ?_
  refine AWP.seq ?_
  refine AWP.sR gok [0, 2, 4, 5, 12] (by apply aops_mv (t := 5) (d := 12) (ag_n rfl) rfl rfl (by first | (simp only [look_lay, look, seval] <;> rfl) | fail) rfl; apply aops_end; rfl) (by (simp (disch := omega) only [go_sem, seval, lay, nws]); rfl) ?_
  refine AWP.cond (b := _) rfl (fun h => ?_) (fun h => ?_) <;> (try simp only [decide_eq_true_eq, decide_eq_false_iff_not] at h)
  · skip
    have hn : 0 < l.length := by omega
    have en : (l.length : Int) - 1 = ((l.length - 1 : Nat) : Int) := by omega
    obtain ⟨z, hz⟩ : ∃ z, l[l.length - 1]? = some z := ⟨_, List.getElem?_eq_getElem (by omega)⟩
    refine AWP.sR gok [0, 2, 4, 5, 6] (by apply aops_mv (t := 0) (d := 13) (ag_n rfl) rfl rfl (by first | (simp only [look_lay, look, seval] <;> rfl) | fail) rfl; apply aops_x (d := 14) (ag_n rfl) rfl (by first | (simp (disch := decide) only [en, go_sem, seval] <;> rfl) | (simp (disch := first | decide | omega) only [if_pos, nws, en, go_sem, seval] <;> rfl)) rfl; apply aops_x (d := 15) (ag_n rfl) rfl (by first | (simp (disch := decide) only [en, go_sem, seval] <;> rfl) | (simp (disch := first | decide | omega) only [if_pos, nws, en, go_sem, seval] <;> rfl)) rfl; apply aops_x (d := 16) (ag_n rfl) rfl (by first | (simp (disch := decide) only [en, go_sem, seval] <;> rfl) | (simp (disch := first | decide | omega) only [if_pos, nws, en, go_sem, seval] <;> rfl)) rfl; apply aops_x (d := 17) (ag_n rfl) rfl (by first | (simp (disch := decide) only [en, go_sem, seval] <;> rfl) | (simp (disch := first | decide | omega) only [if_pos, nws, en, go_sem, seval] <;> rfl)) rfl; apply aops_x (d := 18) (ag_n rfl) rfl (by first | (simp (disch := decide) only [en, go_sem, seval] <;> rfl) | (simp (disch := first | decide | omega) only [if_pos, nws, en, go_sem, seval] <;> rfl)) rfl; apply aops_as (t := 18) (d := 6) (ag_n rfl) rfl rfl (by first | (simp only [look_lay, look, seval] <;> rfl) | fail) rfl; apply aops_end; rfl) (by (simp (disch := omega) only [go_sem, seval, lay, nws]); rfl) ?_
    have hs : ((3 = l.length * 3) = True ∧ l.set 0 z = [z]) ∨ ((3 = l.length * 3) = False ∧ True) := by
      by_cases h1 : l.length = 1
      · refine .inl ⟨by rw [h1]; simp, ?_⟩
        match l, h1 with
        | [a], _ => rfl
      · exact .inr ⟨by simp; omega, trivial⟩
    refine AWP.sDG gok (by kernel_rfl) [⟨[], true, 0⟩, ⟨[], true, 0⟩, ⟨[], true, 0⟩, ⟨[0], true, 0⟩, ⟨[], true, 0⟩, ⟨[], true, 0⟩, ⟨[], true, 0⟩, ⟨[0], true, 0⟩, ⟨[], true, 0⟩, ⟨[], true, 0⟩, ⟨[1], true, 0⟩, ⟨[], true, 0⟩, ⟨[1], false, 0⟩] (by kernel_rfl) (by first | rfl | simp only [go_sem, ↓reduceIte, Nat.reduceLT, Nat.reduceAdd]) (by first | rfl | simp only [go_sem, ↓reduceIte, Nat.reduceLT, Nat.reduceAdd]) (s2 := ⟨44, [(0, .c (.ptr 0 0 1 0)), (2, .c (.ptr 2 0 1 0)), (4, .c (.ptr 3 0 1 0)), (5, .c (cb (decide (0 < l.length)))), (6, .c (ci .i64 ((l.length - 1 : Nat) : Int)))], [some (.raw [.v (.func (.func 22) #[] #[]), .sl 1 0 l.length 3, ci .i64 n]), some (.ty enT (l.set 0 z)), some (.raw [ci .i64 0, ci .i64 0]), some (.ty thT [topI l])]⟩) (by (rcases hs with ⟨hq, he⟩ | ⟨hq, he⟩) <;> refine ⟨_, (by (repeat (first | apply arun_step (by first | exact ag_n rfl | exact ag_b rfl rfl rfl (by first | (simp only [look_lay, look, seval] <;> rfl) | fail) (by first | rfl | (simp only [hz, hq, he, decide_true, decide_false] <;> rfl) | fail) | fail) (by first | (simp (disch := decide) only [hz, hq, he, go_sem, seval]; rfl) | (simp (disch := first | decide | omega) only [if_pos, nws, hz, hq, he, go_sem, seval]; rfl)) (by first | (intro h; cases h; done) | (intro _; rfl) | (intro _; simp only [go_sem, seval, lay])) (by first | rfl | simp only [go_sem, seval, lay]) (by first | rfl | simp only [go_sem, seval, lay]) (by first | rfl | simp only [go_sem, seval, lay]) (by simp only [go_sem, seval, lay]; rfl) | apply arun_pass (by first | exact ag_f rfl rfl rfl (by first | (simp only [look_lay, look, seval] <;> rfl) | fail) (by first | rfl | (simp only [hz, hq, he, decide_true, decide_false] <;> rfl) | fail) | exact ag_u rfl rfl rfl (by first | (simp only [look_lay, look, seval] <;> rfl) | fail) | fail) rfl (by simp only [go_sem, seval, lay]; rfl))); exact rfl), (Ghost.trans (Ghost.trim _ [0, 2, 4, 5, 6] _) (Ghost.of_eq (by first | ((simp (disch := first | decide | omega) only [hz, hq, he, go_sem, seval, lay, nws]) <;> with_reducible rfl) | with_reducible rfl | rfl)))⟩) ?_
    refine AWP.sR gok [0, 2, 4, 5] (by apply aops_mv (t := 0) (d := 31) (ag_n rfl) rfl rfl (by first | (simp only [look_lay, look, seval] <;> rfl) | fail) rfl; apply aops_mv (t := 0) (d := 32) (ag_n rfl) rfl rfl (by first | (simp only [look_lay, look, seval] <;> rfl) | fail) rfl; apply aops_x (d := 33) (ag_n rfl) rfl (by first | (simp (disch := decide) only [go_sem, seval] <;> rfl) | (simp (disch := first | decide | omega) only [if_pos, nws, go_sem, seval] <;> rfl)) rfl; apply aops_x (d := 34) (ag_n rfl) rfl (by first | (simp (disch := decide) only [go_sem, seval] <;> rfl) | (simp (disch := first | decide | omega) only [if_pos, nws, go_sem, seval] <;> rfl)) rfl; apply aops_x (d := 35) (ag_n rfl) rfl (by first | (simp (disch := decide) only [go_sem, seval] <;> rfl) | (simp (disch := first | decide | omega) only [if_pos, nws, go_sem, seval] <;> rfl)) rfl; apply aops_mv (t := 6) (d := 36) (ag_n rfl) rfl rfl (by first | (simp only [look_lay, look, seval] <;> rfl) | fail) rfl; apply aops_x (d := 37) (ag_n rfl) rfl (by (simp (disch := first | decide | omega) only [if_pos, nws, go_sem, seval] <;> rfl)) rfl; apply aops_x (d := 38) (ag_n rfl) rfl (by first | (simp (disch := decide) only [go_sem, seval] <;> rfl) | (simp (disch := first | decide | omega) only [if_pos, nws, go_sem, seval] <;> rfl)) rfl; apply aops_x (d := 39) (ag_n rfl) rfl (by first | (simp (disch := decide) only [go_sem, seval] <;> rfl) | (simp (disch := first | decide | omega) only [if_pos, nws, go_sem, seval] <;> rfl)) rfl; apply aops_s (ag_n rfl) rfl (by first | (simp (disch := decide) only [go_sem, seval] <;> rfl) | (simp (disch := first | decide | omega) only [if_pos, nws, go_sem, seval] <;> rfl)); apply aops_end; rfl) (by (simp (disch := omega) only [go_sem, seval, lay, nws]); rfl) ?_
    refine AWP.ghost (Ghost.cut 1 (l.length - 1) rfl) ?_
    have hl : ((l.set 0 z).take (l.length - 1)).length = l.length - 1 := by rw [List.length_take, List.length_set]; omega
    have hc' : l.length - 1 ≤ 100000 := by omega
    have hd : (0 : Nat) < l.length - 1 ∨ l.length - 1 = 0 := by omega
    refine AWP.rT gok [2, 4, 5] (by apply aops_mv (t := 0) (d := 40) (ag_n rfl) rfl rfl (by first | (simp only [look_lay, look, seval] <;> rfl) | fail) rfl; apply aops_x (d := 41) (ag_n rfl) rfl (by (simp (disch := first | decide | omega) only [if_pos, nws, hl, hd, go_sem, seval] <;> rfl)) rfl; apply aops_end; rfl) (by (simp (disch := omega) only [go_sem, seval, lay, nws]); rfl) ?_
    change AWP _ _ _ _ _
    refine AWP.sR gok [2, 3] (by apply aops_x (d := 42) (ag_n rfl) rfl (by first | (simp (disch := decide) only [go_sem, seval] <;> rfl) | (simp (disch := first | decide | omega) only [if_pos, nws, go_sem, seval] <;> rfl)) rfl; apply aops_mv (t := 5) (d := 43) (ag_n rfl) rfl rfl (by first | (simp only [look_lay, look, seval] <;> rfl) | fail) rfl; apply aops_s (ag_n rfl) rfl (by first | (simp (disch := decide) only [go_sem, seval] <;> rfl) | (simp (disch := first | decide | omega) only [if_pos, nws, go_sem, seval] <;> rfl)); apply aops_as (t := 43) (d := 3) (ag_n rfl) rfl rfl (by first | (simp only [look_lay, look, seval] <;> rfl) | fail) rfl; apply aops_end; rfl) (by (simp (disch := omega) only [go_sem, seval, lay, nws]); rfl) ?_
    refine AWP.ret ?_
    refine ⟨.inr rfl, _, (by simp only [go_sem, seval] <;> rfl), ?_⟩
    simp only [go_sem, seval, Option.some.injEq, AV.c.injEq, AV.agg.injEq, CV.v.injEq, Value.int.injEq, Value.bool.injEq, Row.raw.injEq, List.cons.injEq, CV.sl.injEq, and_true, true_and, and_self]
    have e1 : l.length - 1 + 1 = l.length := by omega
    have e : f26 l n = HeapLaw.down ltI (l.length - 1 + 1) (List.take (l.length - 1) (l.set 0 z)) 0 := by
      show HeapLaw.pop ltI l = _
      unfold HeapLaw.pop; rw [hz, e1]
    rw [e]; exact ⟨rfl, rfl⟩
  · skip
    refine AWP.skip ?_
    change AWP _ _ _ _ _
    refine AWP.sR gok [2, 3] (by apply aops_x (d := 42) (ag_n rfl) rfl (by first | (simp (disch := decide) only [go_sem, seval] <;> rfl) | (simp (disch := first | decide | omega) only [if_pos, nws, go_sem, seval] <;> rfl)) rfl; apply aops_mv (t := 5) (d := 43) (ag_n rfl) rfl rfl (by first | (simp only [look_lay, look, seval] <;> rfl) | fail) rfl; apply aops_s (ag_n rfl) rfl (by first | (simp (disch := decide) only [go_sem, seval] <;> rfl) | (simp (disch := first | decide | omega) only [if_pos, nws, go_sem, seval] <;> rfl)); apply aops_as (t := 43) (d := 3) (ag_n rfl) rfl rfl (by first | (simp only [look_lay, look, seval] <;> rfl) | fail) rfl; apply aops_end; rfl) (by (simp (disch := omega) only [go_sem, seval, lay, nws]); rfl) ?_
    refine AWP.ret ?_
    refine ⟨.inr rfl, _, (by simp only [go_sem, seval] <;> rfl), ?_⟩
    simp only [go_sem, seval, Option.some.injEq, AV.c.injEq, AV.agg.injEq, CV.v.injEq, Value.int.injEq, Value.bool.injEq, Row.raw.injEq, List.cons.injEq, CV.sl.injEq, and_true, true_and, and_self]
    have e : l = [] := List.length_eq_zero_iff.1 (by omega)
    subst e; exact ⟨rfl, rfl⟩
def E26 : Entry := objE 22 enT [] (fun l p d => c26 l p) (fun l p d => r26 l p) (fun l p d => f26 l p) (fun l p d => q26 l p) (fun l p d => L26 l p)
theorem E26_ok : EntryOk Try.prog 26 E26 := objE_ok rfl (fun _ _ _ => rfl) (fun _ _ _ => rfl) fun l p d hc => K26 l p hc
attribute [go_sem] E26 c26 r26 f26 q26 L26
abbrev c51 (s : (List (Ty.D enT))) : Prop := s.length ≤ 100000
abbrev r51 (s : (List (Ty.D enT))) : AV := .c (.sl 0 0 s.length 3)
abbrev L51 (s : (List (Ty.D enT))) : Hp := [some (.ty enT s)]
def E51 : Entry := pureN [(.sl enT)] (fun d => c51 d.1) (fun d => r51 d.1) (fun d => L51 d.1)
set_option maxRecDepth 100000 in
set_option maxHeartbeats 4000000 in
theorem K51 (s : (List (Ty.D enT))) (hc : c51 s) : CallOk Try.prog 51 [.c (.rs enT s)] [] (r51 s) (L51 s) := by
  have hc : s.length ≤ 100000 := hc
  by_cases h0 : s = []
  · subst h0
    refine callOk' Try.func51 8 [.tmp 2] _ rfl rfl rfl (by kernel_rfl) (by simp) [0] rfl rfl (by simp) ?_
    simp only [params]
    refine AWP.sR (Gam.nil_ok _) [0] (by apply aops_x (d := 2) (ag_n rfl) rfl (by first | (simp (disch := decide) only [go_sem, seval] <;> rfl) | (simp (disch := first | decide | omega) only [if_pos, nws, go_sem, seval] <;> rfl)) rfl; apply aops_end; rfl) (by (simp (disch := omega) only [go_sem, seval, lay, nws]); rfl) ?_
    refine AWP.seq ?_
    refine AWP.sR (Gam.nil_ok _) [0, 4] (by apply aops_mv (t := 0) (d := 3) (ag_n rfl) rfl rfl (by first | (simp only [look_lay, look, seval] <;> rfl) | fail) rfl; apply aops_x (d := 4) (ag_n rfl) rfl (by first | (simp (disch := decide) only [go_sem, seval] <;> rfl) | (simp (disch := first | decide | omega) only [if_pos, nws, go_sem, seval] <;> rfl)) rfl; apply aops_end; rfl) (by (simp (disch := omega) only [go_sem, seval, lay, nws]); rfl) ?_
    refine AWP.condU rfl ?_ ?_
    · skip
      refine AWP.sR (Gam.nil_ok _) [2] (by apply aops_x (d := 2) (ag_n rfl) rfl (by first | (simp (disch := decide) only [go_sem, seval] <;> rfl) | (simp (disch := first | decide | omega) only [if_pos, nws, go_sem, seval] <;> rfl)) rfl; apply aops_end; rfl) (by (simp (disch := omega) only [go_sem, seval, lay, nws]); rfl) ?_
      refine AWP.ghost (Ghost.nil 2 3 enT rfl (by simp)) ?_
      refine AWP.ret ?_
      refine ⟨.inr rfl, _, (by simp only [go_sem, seval] <;> rfl), ?_⟩
      simp only [go_sem, seval, Option.some.injEq, AV.c.injEq, AV.agg.injEq, CV.v.injEq, Value.int.injEq, Value.bool.injEq, Row.raw.injEq, List.cons.injEq, CV.sl.injEq, and_true, true_and, and_self]
    · skip
      refine AWP.skip ?_
      change AWP _ _ _ _ _
      refine AWP.sR (Gam.nil_ok _) [2] (by apply aops_x (d := 5) (ag_n rfl) rfl (by (simp (disch := first | decide | omega) only [if_pos, nws, go_sem, seval] <;> rfl)) rfl; apply aops_mv (t := 0) (d := 6) (ag_n rfl) rfl rfl (by first | (simp only [look_lay, look, seval] <;> rfl) | fail) rfl; apply aops_x (d := 7) (ag_n rfl) rfl (by (simp (disch := first | decide | omega) only [if_pos, nws, go_sem, seval] <;> rfl)) rfl; apply aops_as (t := 7) (d := 2) (ag_n rfl) rfl rfl (by first | (simp only [look_lay, look, seval] <;> rfl) | fail) rfl; apply aops_end; rfl) (by (simp (disch := omega) only [go_sem, seval, lay, nws]); rfl) ?_
      refine AWP.ghost (Ghost.gc (ρ := [1]) (by simp only [go_sem, seval] <;> rfl) rfl rfl rfl) ?_
      refine AWP.ret ?_
      refine ⟨.inr rfl, _, (by simp only [go_sem, seval] <;> rfl), ?_⟩
      simp only [go_sem, seval, Option.some.injEq, AV.c.injEq, AV.agg.injEq, CV.v.injEq, Value.int.injEq, Value.bool.injEq, Row.raw.injEq, List.cons.injEq, CV.sl.injEq, and_true, true_and, and_self]
  · skip
    have hp : 0 < s.length := List.length_pos_iff.2 h0
    refine callOk' Try.func51 8 [.tmp 2] _ rfl rfl rfl (by kernel_rfl) (by simp) [0] rfl rfl (by simp) ?_
    simp only [params]
    refine AWP.sR (Gam.nil_ok _) [0] (by apply aops_x (d := 2) (ag_n rfl) rfl (by first | (simp (disch := decide) only [hp, go_sem, seval] <;> rfl) | (simp (disch := first | decide | omega) only [if_pos, nws, hp, go_sem, seval] <;> rfl)) rfl; apply aops_end; rfl) (by (simp (disch := omega) only [go_sem, seval, lay, nws]); rfl) ?_
    refine AWP.seq ?_
    refine AWP.sR (Gam.nil_ok _) [0, 4] (by apply aops_mv (t := 0) (d := 3) (ag_n rfl) rfl rfl (by first | (simp only [look_lay, look, seval] <;> rfl) | fail) rfl; apply aops_x (d := 4) (ag_n rfl) rfl (by first | (simp (disch := decide) only [hp, go_sem, seval] <;> rfl) | (simp (disch := first | decide | omega) only [if_pos, nws, hp, go_sem, seval] <;> rfl)) rfl; apply aops_end; rfl) (by (simp (disch := omega) only [go_sem, seval, lay, nws]); rfl) ?_
    refine AWP.condF (b := _) rfl (by first | rfl | (simp only [decide_eq_true_eq, decide_eq_false_iff_not]; omega)) ?_
    refine AWP.skip ?_
    change AWP _ _ _ _ _
    refine AWP.sR (Gam.nil_ok _) [2] (by apply aops_x (d := 5) (ag_n rfl) rfl (by (simp (disch := first | decide | omega) only [if_pos, nws, hp, go_sem, seval] <;> rfl)) rfl; apply aops_mv (t := 0) (d := 6) (ag_n rfl) rfl rfl (by first | (simp only [look_lay, look, seval] <;> rfl) | fail) rfl; apply aops_x (d := 7) (ag_n rfl) rfl (by (simp (disch := first | decide | omega) only [if_pos, nws, hp, go_sem, seval] <;> rfl)) rfl; apply aops_as (t := 7) (d := 2) (ag_n rfl) rfl rfl (by first | (simp only [look_lay, look, seval] <;> rfl) | fail) rfl; apply aops_end; rfl) (by (simp (disch := omega) only [go_sem, seval, lay, nws]); rfl) ?_
    refine AWP.ghost (Ghost.gc (ρ := [1]) (by simp only [go_sem, seval] <;> rfl) rfl rfl rfl) ?_
    refine AWP.ret ?_
    refine ⟨.inr rfl, _, (by simp only [go_sem, seval, hp] <;> rfl), ?_⟩
    simp only [go_sem, seval, hp, Option.some.injEq, AV.c.injEq, AV.agg.injEq, CV.v.injEq, Value.int.injEq, Value.bool.injEq, Row.raw.injEq, List.cons.injEq, CV.sl.injEq, and_true, true_and, and_self]
theorem E51_ok : EntryOk Try.prog 51 E51 := pureN_ok (fun d hc => K51 d.1 hc) (fun _ => rfl) (fun _ => rfl)
attribute [go_sem] E51 c51 r51 L51
end Go.Proofs.Ytonhglodnmoadaa
