import Derived.Test.YtcnoooodnmjdmaaOd6
import Derived.Test.YtcnoooodnmjdmaaAi6
set_option linter.unusedSimpArgs false
set_option linter.unusedVariables false
namespace Go.Proofs.Ytcnoooodnmjdmaa
open Go.RowKit Sorts
/-! Heads are in an order. -/
theorem cmpI_cases (x y : Int) : (cmpI x y = -1 ∧ x < y) ∨ (cmpI x y = 0 ∧ x = y) ∨ (cmpI x y = 1 ∧ y < x) := by
  unfold cmpI; split
  · exact .inl ⟨rfl, ‹_›⟩
  · split
    · exact .inr (.inr ⟨rfl, ‹_›⟩)
    · exact .inr (.inl ⟨rfl, by omega⟩)
theorem ahead_iff (a b : Hd) : aheadF a b = true ↔ b.2.2.1 * heldf a.2.2.2.1 < a.2.2.1 * heldf b.2.2.2.1 ∨ (a.2.2.1 * heldf b.2.2.2.1 = b.2.2.1 * heldf a.2.2.2.1 ∧ a.2.2.2.2.1 < b.2.2.2.2.1) := by
  unfold aheadF
  rw [Bool.or_eq_true, Bool.and_eq_true, decide_eq_true_eq, decide_eq_true_eq, decide_eq_true_eq]
  rcases cmpI_cases (a.2.2.1 * heldf b.2.2.2.1) (b.2.2.1 * heldf a.2.2.2.1) with ⟨h, g⟩ | ⟨h, g⟩ | ⟨h, g⟩ <;> rw [h] <;> omega
theorem ratio_le {fa fb fc ha hb hc : Int} (hha : 0 < ha) (hhb : 0 < hb) (hhc : 0 < hc) (h1 : fa * hb ≤ fb * ha) (h2 : fb * hc ≤ fc * hb) : fa * hc ≤ fc * ha ∧ (fa * hc = fc * ha → fa * hb = fb * ha ∧ fb * hc = fc * hb) := by
  have a1 : fa * hb * hc ≤ fb * ha * hc := Int.mul_le_mul_of_nonneg_right h1 (by omega)
  have a2 : fb * hc * ha ≤ fc * hb * ha := Int.mul_le_mul_of_nonneg_right h2 (by omega)
  have e1 : fa * hb * hc = fa * hc * hb := Int.mul_right_comm ..
  have e2 : fb * ha * hc = fb * hc * ha := Int.mul_right_comm ..
  have e3 : fc * hb * ha = fc * ha * hb := Int.mul_right_comm ..
  refine ⟨Int.le_of_mul_le_mul_right (show fa * hc * hb ≤ fc * ha * hb by omega) hhb, fun e => ?_⟩
  have e4 : fa * hc * hb = fc * ha * hb := by rw [e]
  have e5 : fa * hb * hc = fb * ha * hc := by omega
  have e6 : fb * hc * ha = fc * hb * ha := by omega
  exact ⟨Int.eq_of_mul_eq_mul_right (by omega) e5, Int.eq_of_mul_eq_mul_right (by omega) e6⟩
theorem ahead_weak : Weak aheadF := by
  refine ⟨fun a b h => ?_, fun a b c h1 h2 => ?_⟩
  · cases e : aheadF b a
    · rfl
    · rw [ahead_iff] at h e; omega
  · cases e : aheadF a c
    · rfl
    · have n1 : ¬ aheadF a b = true := by simp [h1]
      have n2 : ¬ aheadF b c = true := by simp [h2]
      rw [ahead_iff] at n1 n2 e
      have pa := heldf_pos a.2.2.2.1
      have pb := heldf_pos b.2.2.2.1
      have pc := heldf_pos c.2.2.2.1
      obtain ⟨r1, r2⟩ := ratio_le (fa := a.2.2.1) (fb := b.2.2.1) (fc := c.2.2.1) (ha := heldf a.2.2.2.1) (hb := heldf b.2.2.2.1) (hc := heldf c.2.2.2.1) (by omega) (by omega) (by omega) (by omega) (by omega)
      rcases e with e | ⟨e, e'⟩
      · omega
      · obtain ⟨r3, r4⟩ := r2 e
        omega
theorem ltH_weak (hs : List Hd) : Weak (ltH hs) := ⟨fun a b h => ahead_weak.asym _ _ h, fun a b c h1 h2 => ahead_weak.neg _ _ _ h1 h2⟩
set_option maxRecDepth 100000
abbrev c20 (s : (List Int)) : Prop := s.length ≤ 1000000
abbrev r20 (s : (List Int)) : AV := .c (.sl 0 0 s.length 1)
abbrev L20 (s : (List Int)) : Hp := [some (.ty (.i .u64) s)]
def E20 : Entry := pureN [(.sl (.i .u64))] (fun d => c20 d.1) (fun d => r20 d.1) (fun d => L20 d.1)
set_option maxRecDepth 100000 in
set_option maxHeartbeats 4000000 in
theorem K20 (s : (List Int)) (hc : c20 s) : CallOk Try.prog 20 [.c (.rs (.i .u64) s)] [] (r20 s) (L20 s) := by
  have hc : s.length ≤ 1000000 := hc
  by_cases h0 : s = []
  · subst h0
    refine callOk' Try.func20 8 [.tmp 2] _ rfl rfl rfl (by kernel_rfl) (by simp) [0] rfl rfl (by simp) ?_
    simp only [params]
    refine AWP.sR (Gam.nil_ok _) [0] (by apply aops_x (d := 2) (ag_n rfl) rfl (by first | (simp (disch := decide) only [go_sem, seval] <;> rfl) | (simp (disch := first | decide | omega) only [if_pos, nws, go_sem, seval] <;> rfl)) rfl; apply aops_end; rfl) (by (simp (disch := omega) only [go_sem, seval, lay, nws]); rfl) ?_
    refine AWP.seq ?_
    refine AWP.sR (Gam.nil_ok _) [0, 4] (by apply aops_mv (t := 0) (d := 3) (ag_n rfl) rfl rfl (by first | (simp only [look_lay, look, seval] <;> rfl) | fail) rfl; apply aops_x (d := 4) (ag_n rfl) rfl (by first | (simp (disch := decide) only [go_sem, seval] <;> rfl) | (simp (disch := first | decide | omega) only [if_pos, nws, go_sem, seval] <;> rfl)) rfl; apply aops_end; rfl) (by (simp (disch := omega) only [go_sem, seval, lay, nws]); rfl) ?_
    refine AWP.condU rfl ?_ ?_
    · skip
      refine AWP.sR (Gam.nil_ok _) [2] (by apply aops_x (d := 2) (ag_n rfl) rfl (by first | (simp (disch := decide) only [go_sem, seval] <;> rfl) | (simp (disch := first | decide | omega) only [if_pos, nws, go_sem, seval] <;> rfl)) rfl; apply aops_end; rfl) (by (simp (disch := omega) only [go_sem, seval, lay, nws]); rfl) ?_
      refine AWP.ghost (Ghost.nil 2 1 (.i .u64) rfl (by simp)) ?_
      refine AWP.ret ?_
      refine ⟨.inr rfl, _, (by simp only [go_sem, seval] <;> rfl), ?_⟩
      simp only [go_sem, seval, Option.some.injEq, AV.c.injEq, AV.agg.injEq, CV.v.injEq, Value.int.injEq, Value.bool.injEq, Row.raw.injEq, List.cons.injEq, CV.sl.injEq, and_true, true_and, and_self]
    · skip
      refine AWP.skip ?_
      change AWP _ _ _ _ _
      refine AWP.sR (Gam.nil_ok _) [2] (by apply aops_x (d := 5) (ag_n rfl) rfl (by (simp (disch := first | decide | omega) only [if_pos, nws, go_sem, seval] <;> rfl)) rfl; apply aops_mv (t := 0) (d := 6) (ag_n rfl) rfl rfl (by first | (simp only [look_lay, look, seval] <;> rfl) | fail) rfl; apply aops_x (d := 7) (ag_n rfl) rfl (by (simp (disch := first | decide | omega) only [if_pos, nws, go_sem, seval] <;> rfl)) rfl; apply aops_as (t := 7) (d := 2) (ag_n rfl) rfl rfl (by first | (simp only [look_lay, look, seval] <;> rfl) | fail) rfl; apply aops_end; rfl) (by (simp (disch := omega) only [go_sem, seval, lay, nws]); rfl) ?_
      refine AWP.ghost (Ghost.gc (ρ := [1]) (by simp only [go_sem, seval] <;> rfl) rfl rfl rfl) ?_
      refine AWP.ret ?_
      refine ⟨.inr rfl, _, (by simp only [go_sem, seval] <;> rfl), ?_⟩
      simp only [go_sem, seval, Option.some.injEq, AV.c.injEq, AV.agg.injEq, CV.v.injEq, Value.int.injEq, Value.bool.injEq, Row.raw.injEq, List.cons.injEq, CV.sl.injEq, and_true, true_and, and_self]
  · skip
    have hp : 0 < s.length := List.length_pos_iff.2 h0
    refine callOk' Try.func20 8 [.tmp 2] _ rfl rfl rfl (by kernel_rfl) (by simp) [0] rfl rfl (by simp) ?_
    simp only [params]
    refine AWP.sR (Gam.nil_ok _) [0] (by apply aops_x (d := 2) (ag_n rfl) rfl (by first | (simp (disch := decide) only [hp, go_sem, seval] <;> rfl) | (simp (disch := first | decide | omega) only [if_pos, nws, hp, go_sem, seval] <;> rfl)) rfl; apply aops_end; rfl) (by (simp (disch := omega) only [go_sem, seval, lay, nws]); rfl) ?_
    refine AWP.seq ?_
    refine AWP.sR (Gam.nil_ok _) [0, 4] (by apply aops_mv (t := 0) (d := 3) (ag_n rfl) rfl rfl (by first | (simp only [look_lay, look, seval] <;> rfl) | fail) rfl; apply aops_x (d := 4) (ag_n rfl) rfl (by first | (simp (disch := decide) only [hp, go_sem, seval] <;> rfl) | (simp (disch := first | decide | omega) only [if_pos, nws, hp, go_sem, seval] <;> rfl)) rfl; apply aops_end; rfl) (by (simp (disch := omega) only [go_sem, seval, lay, nws]); rfl) ?_
    refine AWP.condF (b := _) rfl (by first | rfl | (simp only [decide_eq_true_eq, decide_eq_false_iff_not]; omega)) ?_
    refine AWP.skip ?_
    change AWP _ _ _ _ _
    refine AWP.sR (Gam.nil_ok _) [2] (by apply aops_x (d := 5) (ag_n rfl) rfl (by (simp (disch := first | decide | omega) only [if_pos, nws, hp, go_sem, seval] <;> rfl)) rfl; apply aops_mv (t := 0) (d := 6) (ag_n rfl) rfl rfl (by first | (simp only [look_lay, look, seval] <;> rfl) | fail) rfl; apply aops_x (d := 7) (ag_n rfl) rfl (by (simp (disch := first | decide | omega) only [if_pos, nws, hp, go_sem, seval] <;> rfl)) rfl; apply aops_as (t := 7) (d := 2) (ag_n rfl) rfl rfl (by first | (simp only [look_lay, look, seval] <;> rfl) | fail) rfl; apply aops_end; rfl) (by (simp (disch := omega) only [go_sem, seval, lay, nws]); rfl) ?_
    refine AWP.ghost (Ghost.gc (ρ := [1]) (by simp only [go_sem, seval] <;> rfl) rfl rfl rfl) ?_
    refine AWP.ret ?_
    refine ⟨.inr rfl, _, (by simp only [go_sem, seval, hp] <;> rfl), ?_⟩
    simp only [go_sem, seval, hp, Option.some.injEq, AV.c.injEq, AV.agg.injEq, CV.v.injEq, Value.int.injEq, Value.bool.injEq, Row.raw.injEq, List.cons.injEq, CV.sl.injEq, and_true, true_and, and_self]
theorem E20_ok : EntryOk Try.prog 20 E20 := pureN_ok (fun d hc => K20 d.1 hc) (fun _ => rfl) (fun _ => rfl)
attribute [go_sem] E20 c20 r20 L20
/-! What the ones ahead leave. -/
abbrev c14 (hs : (List (Ty.D HT))) (ns : (List Int)) (room : Int) : Prop := hs.length ≤ 100000 ∧ ns.length ≤ 100000
abbrev r14 (hs : (List (Ty.D HT))) (ns : (List Int)) (room : Int) : AV := .c (.ptr 0 0 1 0)
abbrev L14 (hs : (List (Ty.D HT))) (ns : (List Int)) (room : Int) : Hp := [some (.raw [.rs HT hs, .sl 1 0 ns.length 1, ci .i64 room, .sl 2 0 hs.length 1]), some (.ty (.i .u64) ns), some (.ty .bo (List.replicate hs.length false))]
def E14 : Entry := foreN [(.sl HT), (.sl (.i .u64)), (.i .i64)] (fun d => c14 d.1 d.2.1 d.2.2.1) (fun d => r14 d.1 d.2.1 d.2.2.1) (fun d => L14 d.1 d.2.1 d.2.2.1)
set_option maxRecDepth 100000 in
set_option maxHeartbeats 4000000 in
theorem K14 (hs : (List (Ty.D HT))) (ns : (List Int)) (room : Int) (hc : c14 hs ns room) : CallOk Try.prog 14 [.c (.rs HT hs), .c (.rs (.i .u64) ns), .c (ci .i64 room)] [] (r14 hs ns room) (L14 hs ns room) := by
  have hc : hs.length ≤ 100000 ∧ ns.length ≤ 100000 := hc
  obtain ⟨hl, nl⟩ := hc
  have gok := (Gam.cons_ok E20_ok (Gam.nil_ok _))
  refine callOk' Try.func14 16 [.tmp 6] _ rfl rfl rfl (by kernel_rfl) (by simp) [2, 0, 1] rfl rfl (by simp) ?_
  simp only [params]
  refine AWP.sR gok [0, 1, 2] (by apply aops_x (d := 6) (ag_n rfl) rfl (by first | (simp (disch := decide) only [go_sem, seval] <;> rfl) | (simp (disch := first | decide | omega) only [if_pos, nws, go_sem, seval] <;> rfl)) rfl; apply aops_end; rfl) (by (simp (disch := omega) only [go_sem, seval, lay, nws]); rfl) ?_
  refine AWP.sD gok (by kernel_rfl) [6] [⟨[], true, 0⟩, ⟨[], true, 0⟩, ⟨[], true, 1⟩, ⟨[], true, 0⟩, ⟨[], true, 0⟩, ⟨[], true, 0⟩, ⟨[], true, 1⟩, ⟨[], true, 0⟩, ⟨[], true, 1⟩, ⟨[], true, 0⟩] (by kernel_rfl) (by first | rfl | simp only [go_sem, ↓reduceIte, Nat.reduceLT, Nat.reduceAdd]) (by first | rfl | simp only [go_sem, ↓reduceIte, Nat.reduceLT, Nat.reduceAdd]) (by (repeat (first | apply arun_step (by first | exact ag_n rfl | exact ag_b rfl rfl rfl (by first | (simp only [look_lay, look, seval] <;> rfl) | fail) (by first | rfl | (simp only [hl, nl, decide_true, decide_false] <;> rfl) | fail) | fail) (by first | (simp (disch := decide) only [hl, nl, go_sem, seval]; rfl) | (simp (disch := first | decide | omega) only [if_pos, nws, hl, nl, go_sem, seval]; rfl)) (by first | (intro h; cases h; done) | (intro _; rfl) | (intro _; simp only [go_sem, seval, lay])) (by first | rfl | simp only [go_sem, seval, lay]) (by first | rfl | simp only [go_sem, seval, lay]) (by first | rfl | simp only [go_sem, seval, lay]) (by simp only [go_sem, seval, lay]; rfl) | apply arun_pass (by first | exact ag_f rfl rfl rfl (by first | (simp only [look_lay, look, seval] <;> rfl) | fail) (by first | rfl | (simp only [hl, nl, decide_true, decide_false] <;> rfl) | fail) | exact ag_u rfl rfl rfl (by first | (simp only [look_lay, look, seval] <;> rfl) | fail) | fail) rfl (by simp only [go_sem, seval, lay]; rfl))); exact rfl) (by (simp (disch := omega) only [go_sem, seval, lay, nws]); rfl) ?_
  refine AWP.ret ?_
  refine ⟨.inr rfl, _, (by simp only [go_sem, seval] <;> rfl), ?_⟩
  simp only [go_sem, seval, Option.some.injEq, AV.c.injEq, AV.agg.injEq, CV.v.injEq, Value.int.injEq, Value.bool.injEq, Row.raw.injEq, List.cons.injEq, CV.sl.injEq, and_true, true_and, and_self]
theorem E14_ok : EntryOk Try.prog 14 E14 := foreN_ok (fun d hc => K14 d.1 d.2.1 d.2.2.1 hc)  
attribute [go_sem] E14 c14 r14 L14
end Go.Proofs.Ytcnoooodnmjdmaa
