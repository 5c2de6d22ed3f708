import Derived.Test.YtbdnhoddkdiogaaSp1
set_option linter.unusedSimpArgs false
set_option linter.unusedVariables false
namespace Go.Proofs.Ytbdnhoddkdiogaa
open Go.RowKit
def shortOk (l : List (List Int)) : Prop := ∀ t ∈ l, bytesOk t ∧ t.length ≤ 1000
instance (l : List (List Int)) : Decidable (shortOk l) := inferInstanceAs (Decidable (∀ t ∈ l, bytesOk t ∧ t.length ≤ 1000))
theorem joined_len : ∀ (l : List (List Int)), shortOk l → (joined l).length ≤ 1010 * l.length
  | [], _ => by simp [joined]
  | x :: l, h => by
    rw [joined_cons]
    have := joined_len l fun t ht => h t (by simp [ht])
    have b := (h x (by simp)).2
    have c := num_len 10 x.length
    simp only [List.length_append, List.length_cons]; omega
theorem joined_ok : ∀ (l : List (List Int)), shortOk l → bytesOk (joined l)
  | [], _ => bytesOk_nil
  | x :: l, h => by
    rw [joined_cons]
    exact bytesOk_append.2 ⟨num_ok _ _, bytesOk_append.2 ⟨(h x (by simp)).1, joined_ok l fun t ht => h t (by simp [ht])⟩⟩
theorem shortOk_take {l : List (List Int)} (h : shortOk l) (k : Nat) : shortOk (l.take k) := fun t ht => h t (List.mem_of_mem_take ht)
theorem joined_take (l : List (List Int)) (i : Nat) (x : List Int) (h : l[i]? = some x) : joined (l.take (i + 1)) = joined (l.take i) ++ texted x := by
  rw [List.take_add_one, h]; exact joined_snoc _ _
abbrev c23 (l : (List (List Int))) : Prop := shortOk l ∧ l.length ≤ 500
abbrev r23 (l : (List (List Int))) : AV := .agg (.ty (.i .u8) (dg (joined l)))
abbrev L23 (l : (List (List Int))) : Hp := []
def E23 : Entry := pureN [(.sl (.sl (.i .u8)))] (fun d => c23 d.1) (fun d => r23 d.1) (fun d => L23 d.1)
set_option maxRecDepth 100000 in
set_option maxHeartbeats 4000000 in
theorem K23 (l : (List (List Int))) (hc : c23 l) : CallOk Try.prog 23 [.c (.rs (.sl (.i .u8)) l)] [] (r23 l) (L23 l) := by
  have hc : shortOk l ∧ l.length ≤ 500 := hc
  obtain ⟨hs, hl⟩ := hc
  have gok := (Gam.cons_ok E16_ok (Gam.cons_ok E49_ok (Gam.nil_ok _)))
  refine callOk' Try.func23 18 [.cell 2 25] _ rfl rfl rfl (by kernel_rfl) (by simp) [] rfl rfl (by simp) ?_
  simp only [params]
  refine AWP.sR gok [0, 2] (by apply aops_x (d := 2) (ag_n rfl) rfl (by first | (simp (disch := decide) only [dg_len, go_sem, seval] <;> rfl) | (simp (disch := first | decide | omega) only [if_pos, nws, dg_len, go_sem, seval] <;> rfl)) rfl; apply aops_end; rfl) (by (simp (disch := omega) only [go_sem, seval, lay, nws]); rfl) ?_
  refine AWP.sR gok [0, 2, 3] (by apply aops_x (d := 3) (ag_n rfl) rfl (by first | (simp (disch := decide) only [dg_len, go_sem, seval] <;> rfl) | (simp (disch := first | decide | omega) only [if_pos, nws, dg_len, go_sem, seval] <;> rfl)) rfl; apply aops_end; rfl) (by (simp (disch := omega) only [go_sem, seval, lay, nws]); rfl) ?_
  refine AWP.seq ?_
  refine AWP.sR gok [2, 3, 6, 7, 8] (by apply aops_mv (t := 0) (d := 6) (ag_n rfl) rfl rfl (by simp only [look_lay, look, seval] <;> rfl) rfl; apply aops_x (d := 7) (ag_n rfl) rfl (by first | (simp (disch := decide) only [dg_len, go_sem, seval] <;> rfl) | (simp (disch := first | decide | omega) only [if_pos, nws, dg_len, go_sem, seval] <;> rfl)) rfl; apply aops_x (d := 8) (ag_n rfl) rfl (by first | (simp (disch := decide) only [dg_len, go_sem, seval] <;> rfl) | (simp (disch := first | decide | omega) only [if_pos, nws, dg_len, go_sem, seval] <;> rfl)) rfl; apply aops_end; rfl) (by (simp (disch := omega) only [go_sem, seval, lay, nws]); rfl) ?_
  refine AWP.block ?_
  refine AWP.loopP (fun (p : Nat × List Int) => ⟨18, [(2, .c (.ptr 0 0 1 0)), (3, .c (.sl 1 0 p.2.length 1)), (6, .c (.rs (.sl (.i .u8)) l)), (7, .c (ci .i64 (l.length : Int))), (8, .c (ci .i64 (p.1 : Int)))], [some (.ty (.i .u8) (List.replicate 32 0)), some (.ty (.i .u8) p.2)]⟩) (fun p => p.1 ≤ l.length ∧ p.2 = joined (l.take p.1)) (fun p => l.length - p.1) ⟨0, []⟩ (Ghost.nil 3 1 (.i .u8) rfl (by simp)) ⟨by simp, by simp [joined]⟩ ?_
  rintro ⟨i, b⟩ ⟨hi, hb⟩
  simp only at hi hb ⊢
  have bl : b.length ≤ 505000 := by rw [hb]; have := joined_len _ (shortOk_take hs i); rw [List.length_take] at this; omega
  refine AWP.sR gok [2, 3, 6, 7, 8, 9] (by apply aops_x (d := 9) (ag_n rfl) rfl (by first | (simp (disch := decide) only [dg_len, go_sem, seval] <;> rfl) | (simp (disch := first | decide | omega) only [if_pos, nws, dg_len, go_sem, seval] <;> rfl)) rfl; apply aops_end; rfl) (by (simp (disch := omega) only [go_sem, seval, lay, nws]); rfl) ?_
  refine AWP.seq ?_
  refine AWP.cond (b := _) rfl (fun h => ?_) (fun h => ?_) <;> (try simp only [decide_eq_true_eq, decide_eq_false_iff_not] at h)
  · skip
    refine AWP.skip ?_
    change AWP _ _ _ _ _
    refine AWP.seqBlock ?_
    have h' : i < l.length := by omega
    obtain ⟨x, hx⟩ : ∃ x, l[i]? = some x := ⟨_, List.getElem?_eq_getElem h'⟩
    have x2 := (hs x (List.mem_of_getElem? hx)).2
    refine AWP.sR gok [2, 3, 5, 6, 7, 8] (by apply aops_x (d := 10) (ag_n rfl) rfl (by (simp (disch := first | decide | omega) only [if_pos, nws, dg_len, hx, go_sem, seval] <;> rfl)) rfl; apply aops_x (d := 11) (ag_n rfl) rfl (by first | (simp (disch := decide) only [dg_len, hx, go_sem, seval] <;> rfl) | (simp (disch := first | decide | omega) only [if_pos, nws, dg_len, hx, go_sem, seval] <;> rfl)) rfl; apply aops_as (t := 11) (d := 5) (ag_n rfl) rfl rfl (by simp only [look_lay, look, seval] <;> rfl) rfl; apply aops_end; rfl) (by (simp (disch := omega) only [go_sem, seval, lay, nws]); rfl) ?_
    refine AWP.rT gok [2, 3, 6, 7, 8] (by apply aops_mv (t := 3) (d := 12) (ag_n rfl) rfl rfl (by simp only [look_lay, look, seval] <;> rfl) rfl; apply aops_mv (t := 5) (d := 13) (ag_n rfl) rfl rfl (by simp only [look_lay, look, seval] <;> rfl) rfl; apply aops_x (d := 14) (ag_n rfl) rfl (by (simp (disch := first | decide | omega) only [if_pos, nws, dg_len, go_sem, seval] <;> rfl)) rfl; apply aops_as (t := 14) (d := 3) (ag_n rfl) rfl rfl (by simp only [look_lay, look, seval] <;> rfl) rfl; apply aops_end; rfl) (by (simp (disch := omega) only [go_sem, seval, lay, nws]); rfl) ?_
    change AWP _ _ _ _ _
    refine AWP.rT gok [2, 3, 6, 7, 8] (by apply aops_x (d := 15) (ag_n rfl) rfl (by first | (simp (disch := decide) only [dg_len, go_sem, seval] <;> rfl) | (simp (disch := first | decide | omega) only [if_pos, nws, dg_len, go_sem, seval] <;> rfl)) rfl; apply aops_mv (t := 15) (d := 8) (ag_n rfl) rfl rfl (by simp only [look_lay, look, seval] <;> rfl) rfl; apply aops_end; rfl) (by (simp (disch := omega) only [go_sem, seval, lay, nws]); rfl) ?_
    refine ⟨(i + 1, b ++ texted x), Ghost.gc (ρ := [0, 2]) (by simp only [go_sem, seval] <;> rfl) rfl rfl rfl, ⟨by simp only; omega, ?_⟩, by simp only; omega⟩
    simp only
    rw [joined_take l i x hx, hb]
  · skip
    refine AWP.exit ?_
    change AWP _ _ _ _ _
    have e : i = l.length := by omega
    rw [e, List.take_length] at hb
    subst hb
    have jo := joined_ok l hs
    refine AWP.sR gok [2] (by apply aops_mv (t := 3) (d := 16) (ag_n rfl) rfl rfl (by simp only [look_lay, look, seval] <;> rfl) rfl; apply aops_x (d := 17) (ag_n rfl) rfl (by (simp (disch := first | decide | omega) only [if_pos, nws, dg_len, jo, go_sem, seval] <;> rfl)) rfl; apply aops_s (ag_n rfl) rfl (by first | (simp (disch := decide) only [dg_len, jo, go_sem, seval] <;> rfl) | (simp (disch := first | decide | omega) only [if_pos, nws, dg_len, jo, go_sem, seval] <;> rfl)); apply aops_end; rfl) (by (simp (disch := omega) only [go_sem, seval, lay, nws]); rfl) ?_
    refine AWP.ret ?_
    refine ⟨.inr rfl, _, (by simp only [go_sem, seval, dg_len] <;> rfl), ?_⟩
    simp only [go_sem, seval, dg_len, Option.some.injEq, AV.c.injEq, AV.agg.injEq, CV.v.injEq, Value.int.injEq, Value.bool.injEq, Row.raw.injEq, List.cons.injEq, CV.sl.injEq, and_true, true_and, and_self]
theorem E23_ok : EntryOk Try.prog 23 E23 := pureN_ok (fun d hc => K23 d.1 hc) (fun _ => rfl) (fun _ => rfl)
attribute [go_sem] E23 c23 r23 L23
abbrev c22 (l : (List (List Int))) : Prop := shortOk l ∧ l.length ≤ 500
abbrev r22 (l : (List (List Int))) : AV := .c (.sl 0 0 (joined l).length 1)
abbrev L22 (l : (List (List Int))) : Hp := [some (.ty (.i .u8) (joined l))]
def E22 : Entry := pureN [(.sl (.sl (.i .u8)))] (fun d => c22 d.1) (fun d => r22 d.1) (fun d => L22 d.1)
set_option maxRecDepth 100000 in
set_option maxHeartbeats 4000000 in
theorem K22 (l : (List (List Int))) (hc : c22 l) : CallOk Try.prog 22 [.c (.rs (.sl (.i .u8)) l)] [] (r22 l) (L22 l) := by
  have hc : shortOk l ∧ l.length ≤ 500 := hc
  obtain ⟨hs, hl⟩ := hc
  have gok := (Gam.cons_ok E48_ok (Gam.nil_ok _))
  refine callOk' Try.func22 19 [.tmp 2] _ rfl rfl rfl (by kernel_rfl) (by simp) [0] rfl rfl (by simp) ?_
  simp only [params]
  refine AWP.sR gok [0] (by apply aops_x (d := 2) (ag_n rfl) rfl (by first | (simp (disch := decide) only [go_sem, seval] <;> rfl) | (simp (disch := first | decide | omega) only [if_pos, nws, go_sem, seval] <;> rfl)) rfl; apply aops_end; rfl) (by (simp (disch := omega) only [go_sem, seval, lay, nws]); rfl) ?_
  refine AWP.sR gok [0, 3] (by apply aops_x (d := 3) (ag_n rfl) rfl (by first | (simp (disch := decide) only [go_sem, seval] <;> rfl) | (simp (disch := first | decide | omega) only [if_pos, nws, go_sem, seval] <;> rfl)) rfl; apply aops_end; rfl) (by (simp (disch := omega) only [go_sem, seval, lay, nws]); rfl) ?_
  refine AWP.seq ?_
  refine AWP.sR gok [0, 3, 6, 7] (by apply aops_mv (t := 0) (d := 5) (ag_n rfl) rfl rfl (by simp only [look_lay, look, seval] <;> rfl) rfl; apply aops_x (d := 6) (ag_n rfl) rfl (by first | (simp (disch := decide) only [go_sem, seval] <;> rfl) | (simp (disch := first | decide | omega) only [if_pos, nws, go_sem, seval] <;> rfl)) rfl; apply aops_x (d := 7) (ag_n rfl) rfl (by first | (simp (disch := decide) only [go_sem, seval] <;> rfl) | (simp (disch := first | decide | omega) only [if_pos, nws, go_sem, seval] <;> rfl)) rfl; apply aops_end; rfl) (by (simp (disch := omega) only [go_sem, seval, lay, nws]); rfl) ?_
  refine AWP.block ?_
  refine AWP.loopP (fun (p : Nat × List Int) => ⟨19, [(0, .c (.rs (.sl (.i .u8)) l)), (3, .c (.sl 0 0 p.2.length 1)), (6, .c (ci .i64 (l.length : Int))), (7, .c (ci .i64 (p.1 : Int)))], [some (.ty (.i .u8) p.2)]⟩) (fun p => p.1 ≤ l.length ∧ p.2 = joined (l.take p.1)) (fun p => l.length - p.1) ⟨0, []⟩ (Ghost.nil 3 1 (.i .u8) rfl (by simp)) ⟨by simp, by simp [joined]⟩ ?_
  rintro ⟨i, b⟩ ⟨hi, hb⟩
  simp only at hi hb ⊢
  have bl : b.length ≤ 505000 := by rw [hb]; have := joined_len _ (shortOk_take hs i); rw [List.length_take] at this; omega
  refine AWP.sR gok [0, 3, 6, 7, 8] (by apply aops_x (d := 8) (ag_n rfl) rfl (by first | (simp (disch := decide) only [go_sem, seval] <;> rfl) | (simp (disch := first | decide | omega) only [if_pos, nws, go_sem, seval] <;> rfl)) rfl; apply aops_end; rfl) (by (simp (disch := omega) only [go_sem, seval, lay, nws]); rfl) ?_
  refine AWP.seq ?_
  refine AWP.cond (b := _) rfl (fun h => ?_) (fun h => ?_) <;> (try simp only [decide_eq_true_eq, decide_eq_false_iff_not] at h)
  · skip
    refine AWP.skip ?_
    change AWP _ _ _ _ _
    refine AWP.seqBlock ?_
    have h' : i < l.length := by omega
    obtain ⟨x, hx⟩ : ∃ x, l[i]? = some x := ⟨_, List.getElem?_eq_getElem h'⟩
    have x2 := (hs x (List.mem_of_getElem? hx)).2
    have tl : (texted x).length ≤ 1010 := by unfold texted; have := num_len 10 x.length; rw [List.length_append]; omega
    refine AWP.sR gok [0, 3, 4, 6, 7] (by apply aops_mv (t := 7) (d := 9) (ag_n rfl) rfl rfl (by simp only [look_lay, look, seval] <;> rfl) rfl; apply aops_as (t := 9) (d := 4) (ag_n rfl) rfl rfl (by simp only [look_lay, look, seval] <;> rfl) rfl; apply aops_end; rfl) (by (simp (disch := omega) only [go_sem, seval, lay, nws]); rfl) ?_
    refine AWP.rT gok [0, 3, 6, 7] (by apply aops_mv (t := 3) (d := 10) (ag_n rfl) rfl rfl (by simp only [look_lay, look, seval] <;> rfl) rfl; apply aops_mv (t := 0) (d := 11) (ag_n rfl) rfl rfl (by simp only [look_lay, look, seval] <;> rfl) rfl; apply aops_mv (t := 4) (d := 12) (ag_n rfl) rfl rfl (by simp only [look_lay, look, seval] <;> rfl) rfl; apply aops_x (d := 13) (ag_n rfl) rfl (by (simp (disch := first | decide | omega) only [if_pos, nws, hx, go_sem, seval] <;> rfl)) rfl; apply aops_x (d := 14) (ag_n rfl) rfl (by first | (simp (disch := decide) only [hx, go_sem, seval] <;> rfl) | (simp (disch := first | decide | omega) only [if_pos, nws, hx, go_sem, seval] <;> rfl)) rfl; apply aops_x (d := 15) (ag_n rfl) rfl (by (simp (disch := first | decide | omega) only [if_pos, nws, hx, go_sem, seval] <;> rfl)) rfl; apply aops_x (d := 16) (ag_n rfl) rfl (by (simp (disch := first | decide | omega) only [if_pos, nws, hx, go_sem, seval] <;> rfl)) rfl; apply aops_as (t := 16) (d := 3) (ag_n rfl) rfl rfl (by simp only [look_lay, look, seval] <;> rfl) rfl; apply aops_end; rfl) (by (simp (disch := omega) only [go_sem, seval, lay, nws]); rfl) ?_
    change AWP _ _ _ _ _
    refine AWP.rT gok [0, 3, 6, 7] (by apply aops_x (d := 17) (ag_n rfl) rfl (by first | (simp (disch := decide) only [go_sem, seval] <;> rfl) | (simp (disch := first | decide | omega) only [if_pos, nws, go_sem, seval] <;> rfl)) rfl; apply aops_mv (t := 17) (d := 7) (ag_n rfl) rfl rfl (by simp only [look_lay, look, seval] <;> rfl) rfl; apply aops_end; rfl) (by (simp (disch := omega) only [go_sem, seval, lay, nws]); rfl) ?_
    refine ⟨(i + 1, b ++ texted x), Ghost.gc (ρ := [2]) (by simp only [go_sem, seval, List.length_append] <;> rfl) rfl rfl rfl, ⟨by simp only; omega, ?_⟩, by simp only; omega⟩
    simp only
    rw [joined_take l i x hx, hb]
  · skip
    refine AWP.exit ?_
    change AWP _ _ _ _ _
    refine AWP.sR gok [2] (by apply aops_mv (t := 3) (d := 18) (ag_n rfl) rfl rfl (by simp only [look_lay, look, seval] <;> rfl) rfl; apply aops_as (t := 18) (d := 2) (ag_n rfl) rfl rfl (by simp only [look_lay, look, seval] <;> rfl) rfl; apply aops_end; rfl) (by (simp (disch := omega) only [go_sem, seval, lay, nws]); rfl) ?_
    refine AWP.ret ?_
    refine ⟨.inr rfl, _, (by simp only [go_sem, seval] <;> rfl), ?_⟩
    simp only [go_sem, seval, Option.some.injEq, AV.c.injEq, AV.agg.injEq, CV.v.injEq, Value.int.injEq, Value.bool.injEq, Row.raw.injEq, List.cons.injEq, CV.sl.injEq, and_true, true_and, and_self]
    have e : i = l.length := by omega
    rw [e, List.take_length] at hb
    subst hb
    exact ⟨rfl, rfl⟩
theorem E22_ok : EntryOk Try.prog 22 E22 := pureN_ok (fun d hc => K22 d.1 hc) (fun _ => rfl) (fun _ => rfl)
attribute [go_sem] E22 c22 r22 L22
abbrev c24 (xs : (List Int)) (ys : (List Int)) : Prop := xs.length ≤ 1000000 ∧ ys.length ≤ 1000000
abbrev r24 (xs : (List Int)) (ys : (List Int)) : AV := .c (cb (decide (xs = ys)))
abbrev L24 (xs : (List Int)) (ys : (List Int)) : Hp := []
def E24 : Entry := pureN [(.sl (.i .u8)), (.sl (.i .u8))] (fun d => c24 d.1 d.2.1) (fun d => r24 d.1 d.2.1) (fun d => L24 d.1 d.2.1)
set_option maxRecDepth 100000 in
set_option maxHeartbeats 4000000 in
theorem K24 (xs : (List Int)) (ys : (List Int)) (hc : c24 xs ys) : CallOk Try.prog 24 [.c (.rs (.i .u8) xs), .c (.rs (.i .u8) ys)] [] (r24 xs ys) (L24 xs ys) := by
  have hc : xs.length ≤ 1000000 ∧ ys.length ≤ 1000000 := hc
  refine callOk' Try.func24 26 [.tmp 4] _ rfl rfl rfl (by kernel_rfl) (by simp) [] rfl rfl (by simp) ?_
  simp only [params]
  refine AWP.sR (Gam.nil_ok _) [0, 1] (by apply aops_x (d := 4) (ag_n rfl) rfl (by first | (simp (disch := decide) only [go_sem, seval] <;> rfl) | (simp (disch := first | decide | omega) only [if_pos, nws, go_sem, seval] <;> rfl)) rfl; apply aops_end; rfl) (by (simp (disch := omega) only [go_sem, seval, lay, nws]); rfl) ?_
  refine AWP.seq ?_
  refine AWP.sR (Gam.nil_ok _) [0, 1, 10] (by apply aops_mv (t := 0) (d := 6) (ag_n rfl) rfl rfl (by simp only [look_lay, look, seval] <;> rfl) rfl; apply aops_x (d := 7) (ag_n rfl) rfl (by first | (simp (disch := decide) only [go_sem, seval] <;> rfl) | (simp (disch := first | decide | omega) only [if_pos, nws, go_sem, seval] <;> rfl)) rfl; apply aops_mv (t := 1) (d := 8) (ag_n rfl) rfl rfl (by simp only [look_lay, look, seval] <;> rfl) rfl; apply aops_x (d := 9) (ag_n rfl) rfl (by first | (simp (disch := decide) only [go_sem, seval] <;> rfl) | (simp (disch := first | decide | omega) only [if_pos, nws, go_sem, seval] <;> rfl)) rfl; apply aops_x (d := 10) (ag_n rfl) rfl (by first | (simp (disch := decide) only [go_sem, seval] <;> rfl) | (simp (disch := first | decide | omega) only [if_pos, nws, go_sem, seval] <;> rfl)) rfl; apply aops_end; rfl) (by (simp (disch := omega) only [go_sem, seval, lay, nws]); rfl) ?_
  refine AWP.cond (b := _) rfl (fun h => ?_) (fun h => ?_) <;> (try simp only [decide_eq_true_eq, decide_eq_false_iff_not] at h)
  · skip
    refine AWP.sR (Gam.nil_ok _) [4] (by apply aops_x (d := 4) (ag_n rfl) rfl (by first | (simp (disch := decide) only [go_sem, seval] <;> rfl) | (simp (disch := first | decide | omega) only [if_pos, nws, go_sem, seval] <;> rfl)) rfl; apply aops_end; rfl) (by (simp (disch := omega) only [go_sem, seval, lay, nws]); rfl) ?_
    refine AWP.ret ?_
    refine ⟨.inr rfl, _, (by simp only [go_sem, seval] <;> rfl), ?_⟩
    simp only [go_sem, seval, Option.some.injEq, AV.c.injEq, AV.agg.injEq, CV.v.injEq, Value.int.injEq, Value.bool.injEq, Row.raw.injEq, List.cons.injEq, CV.sl.injEq, and_true, true_and, and_self]
    rw [decide_eq_false]; rintro rfl; omega
  · skip
    refine AWP.skip ?_
    change AWP _ _ _ _ _
    refine AWP.seq ?_
    refine AWP.sR (Gam.nil_ok _) [0, 1, 12, 13] (by apply aops_mv (t := 0) (d := 11) (ag_n rfl) rfl rfl (by simp only [look_lay, look, seval] <;> rfl) rfl; apply aops_x (d := 12) (ag_n rfl) rfl (by first | (simp (disch := decide) only [go_sem, seval] <;> rfl) | (simp (disch := first | decide | omega) only [if_pos, nws, go_sem, seval] <;> rfl)) rfl; apply aops_x (d := 13) (ag_n rfl) rfl (by first | (simp (disch := decide) only [go_sem, seval] <;> rfl) | (simp (disch := first | decide | omega) only [if_pos, nws, go_sem, seval] <;> rfl)) rfl; apply aops_end; rfl) (by (simp (disch := omega) only [go_sem, seval, lay, nws]); rfl) ?_
    refine AWP.block ?_
    refine AWP.loopP (fun (p : Nat) => ⟨26, [(0, .c (.rs (.i .u8) xs)), (1, .c (.rs (.i .u8) ys)), (12, .c (ci .i64 (xs.length : Int))), (13, .c (ci .i64 (p : Int)))], []⟩) (fun p => p ≤ xs.length ∧ xs.take p = ys.take p) (fun p => xs.length - p) 0 (Ghost.refl _ _) ⟨by simp, by simp⟩ ?_
    rintro i ⟨hi, ha⟩
    refine AWP.sR (Gam.nil_ok _) [0, 1, 12, 13, 14] (by apply aops_x (d := 14) (ag_n rfl) rfl (by first | (simp (disch := decide) only [go_sem, seval] <;> rfl) | (simp (disch := first | decide | omega) only [if_pos, nws, go_sem, seval] <;> rfl)) rfl; apply aops_end; rfl) (by (simp (disch := omega) only [go_sem, seval, lay, nws]); rfl) ?_
    refine AWP.seq ?_
    refine AWP.cond (b := _) rfl (fun h => ?_) (fun h => ?_) <;> (try simp only [decide_eq_true_eq, decide_eq_false_iff_not] at h)
    · skip
      refine AWP.skip ?_
      change AWP _ _ _ _ _
      refine AWP.seqBlock ?_
      have h' : i < xs.length := by omega
      obtain ⟨x, hx⟩ : ∃ x, xs[i]? = some x := ⟨_, List.getElem?_eq_getElem h'⟩
      obtain ⟨y, hy⟩ : ∃ y, ys[i]? = some y := ⟨_, List.getElem?_eq_getElem (by omega)⟩
      refine AWP.sR (Gam.nil_ok _) [0, 1, 5, 12, 13] (by apply aops_mv (t := 13) (d := 15) (ag_n rfl) rfl rfl (by simp only [look_lay, look, seval] <;> rfl) rfl; apply aops_as (t := 15) (d := 5) (ag_n rfl) rfl rfl (by simp only [look_lay, look, seval] <;> rfl) rfl; apply aops_end; rfl) (by (simp (disch := omega) only [go_sem, seval, lay, nws]); rfl) ?_
      refine AWP.sD (Gam.nil_ok _) (by kernel_rfl) [0, 1, 12, 13, 24] [⟨[], true, 0⟩, ⟨[], true, 0⟩, ⟨[], true, 0⟩, ⟨[], true, 0⟩, ⟨[], true, 0⟩, ⟨[], true, 0⟩, ⟨[], true, 0⟩, ⟨[], true, 0⟩, ⟨[], true, 0⟩] (by kernel_rfl) (by first | rfl | simp only [go_sem, ↓reduceIte, Nat.reduceLT, Nat.reduceAdd]) (by first | rfl | simp only [go_sem, ↓reduceIte, Nat.reduceLT, Nat.reduceAdd]) (by (repeat (first | apply arun_step (by first | rfl | (simp only [go_sem, seval, lay]; rfl)) (by first | (simp (disch := decide) only [hx, hy, go_sem, seval]; rfl) | (simp (disch := first | decide | omega) only [if_pos, nws, hx, hy, go_sem, seval]; rfl)) (by first | (intro h; cases h; done) | (intro _; rfl) | (intro _; simp only [go_sem, seval, lay])) (by first | rfl | simp only [go_sem, seval, lay]) (by first | rfl | simp only [go_sem, seval, lay]) (by first | rfl | simp only [go_sem, seval, lay]) (by simp only [go_sem, seval, lay]; rfl) | apply arun_pass (by first | rfl | (simp only [go_sem, seval, lay]; rfl)) rfl (by simp only [go_sem, seval, lay]; rfl))); exact rfl) (by (simp (disch := omega) only [go_sem, seval, lay, nws]); rfl) ?_
      refine AWP.cond (b := _) rfl (fun h => ?_) (fun h => ?_) <;> (try simp only [decide_eq_true_eq, decide_eq_false_iff_not] at h)
      · skip
        refine AWP.sR (Gam.nil_ok _) [4] (by apply aops_x (d := 4) (ag_n rfl) rfl (by first | (simp (disch := decide) only [go_sem, seval] <;> rfl) | (simp (disch := first | decide | omega) only [if_pos, nws, go_sem, seval] <;> rfl)) rfl; apply aops_end; rfl) (by (simp (disch := omega) only [go_sem, seval, lay, nws]); rfl) ?_
        refine AWP.ret ?_
        refine ⟨.inr rfl, _, (by simp only [go_sem, seval] <;> rfl), ?_⟩
        simp only [go_sem, seval, Option.some.injEq, AV.c.injEq, AV.agg.injEq, CV.v.injEq, Value.int.injEq, Value.bool.injEq, Row.raw.injEq, List.cons.injEq, CV.sl.injEq, and_true, true_and, and_self]
        rw [decide_eq_false]
        rintro rfl
        rw [hx] at hy; cases hy
        simp at h
      · skip
        refine AWP.skip ?_
        change AWP _ _ _ _ _
        refine AWP.rT (Gam.nil_ok _) [0, 1, 12, 13] (by apply aops_x (d := 25) (ag_n rfl) rfl (by first | (simp (disch := decide) only [go_sem, seval] <;> rfl) | (simp (disch := first | decide | omega) only [if_pos, nws, go_sem, seval] <;> rfl)) rfl; apply aops_mv (t := 25) (d := 13) (ag_n rfl) rfl rfl (by simp only [look_lay, look, seval] <;> rfl) rfl; apply aops_end; rfl) (by (simp (disch := omega) only [go_sem, seval, lay, nws]); rfl) ?_
        refine ⟨i + 1, Ghost.refl _ _, ⟨by omega, ?_⟩, by omega⟩
        have e : x = y := by simpa using h
        rw [List.take_add_one, List.take_add_one, hx, hy, ha, e]
    · skip
      refine AWP.exit ?_
      change AWP _ _ _ _ _
      refine AWP.sR (Gam.nil_ok _) [4] (by apply aops_x (d := 4) (ag_n rfl) rfl (by first | (simp (disch := decide) only [go_sem, seval] <;> rfl) | (simp (disch := first | decide | omega) only [if_pos, nws, go_sem, seval] <;> rfl)) rfl; apply aops_end; rfl) (by (simp (disch := omega) only [go_sem, seval, lay, nws]); rfl) ?_
      refine AWP.ret ?_
      refine ⟨.inr rfl, _, (by simp only [go_sem, seval] <;> rfl), ?_⟩
      simp only [go_sem, seval, Option.some.injEq, AV.c.injEq, AV.agg.injEq, CV.v.injEq, Value.int.injEq, Value.bool.injEq, Row.raw.injEq, List.cons.injEq, CV.sl.injEq, and_true, true_and, and_self]
      have e : i = xs.length := by omega
      have e2 : ys.length = xs.length := by omega
      rw [e, List.take_length, ← e2, List.take_length] at ha
      rw [decide_eq_true ha]
theorem E24_ok : EntryOk Try.prog 24 E24 := pureN_ok (fun d hc => K24 d.1 d.2.1 hc) (fun _ => rfl) (fun _ => rfl)
attribute [go_sem] E24 c24 r24 L24
end Go.Proofs.Ytbdnhoddkdiogaa
