import Derived.Test.YtbdnhoddkdiogaaMkA
set_option linter.unusedSimpArgs false
set_option linter.unusedVariables false
namespace Go.Proofs.Ytbdnhoddkdiogaa
open Go.RowKit
/-! Are lists of bytes alike? -/
def smallOk (l : List (List Int)) : Prop := l.length ≤ 1099511627776 ∧ ∀ t ∈ l, t.length ≤ 1099511627776
instance (l : List (List Int)) : Decidable (smallOk l) := inferInstanceAs (Decidable (_ ∧ ∀ t ∈ l, t.length ≤ 1099511627776))
abbrev c25 (xs : (List (List Int))) (ys : (List (List Int))) : Prop := smallOk xs ∧ smallOk ys
abbrev r25 (xs : (List (List Int))) (ys : (List (List Int))) : AV := .c (cb (decide (xs = ys)))
abbrev L25 (xs : (List (List Int))) (ys : (List (List Int))) : Hp := []
def E25 : Entry := pureN [(.sl (.sl (.i .u8))), (.sl (.sl (.i .u8)))] (fun d => c25 d.1 d.2.1) (fun d => r25 d.1 d.2.1) (fun d => L25 d.1 d.2.1)
set_option maxRecDepth 100000 in
set_option maxHeartbeats 4000000 in
theorem K25 (xs : (List (List Int))) (ys : (List (List Int))) (hc : c25 xs ys) : CallOk Try.prog 25 [.c (.rs (.sl (.i .u8)) xs), .c (.rs (.sl (.i .u8)) ys)] [] (r25 xs ys) (L25 xs ys) := by
  have hc : smallOk xs ∧ smallOk ys := hc
  obtain ⟨⟨lx, ex⟩, ly, ey⟩ := hc
  refine callOk' Try.func25 53 [.tmp 4] _ rfl rfl rfl (by kernel_rfl) (by simp) [] rfl rfl (by simp) ?_
  simp only [params]
  refine AWP.sR (Gam.nil_ok _) [0, 1] (by apply aops_x (d := 4) (ag_n rfl) rfl (by first | (simp (disch := decide) only [go_sem, seval] <;> rfl) | (simp (disch := first | decide | omega) only [if_pos, nws, go_sem, seval] <;> rfl)) rfl; apply aops_end; rfl) (by (simp (disch := omega) only [go_sem, seval, lay, nws]); rfl) ?_
  refine AWP.seq ?_
  refine AWP.sR (Gam.nil_ok _) [0, 1, 11] (by apply aops_mv (t := 0) (d := 7) (ag_n rfl) rfl rfl (by simp only [look_lay, look, seval] <;> rfl) rfl; apply aops_x (d := 8) (ag_n rfl) rfl (by first | (simp (disch := decide) only [go_sem, seval] <;> rfl) | (simp (disch := first | decide | omega) only [if_pos, nws, go_sem, seval] <;> rfl)) rfl; apply aops_mv (t := 1) (d := 9) (ag_n rfl) rfl rfl (by simp only [look_lay, look, seval] <;> rfl) rfl; apply aops_x (d := 10) (ag_n rfl) rfl (by first | (simp (disch := decide) only [go_sem, seval] <;> rfl) | (simp (disch := first | decide | omega) only [if_pos, nws, go_sem, seval] <;> rfl)) rfl; apply aops_x (d := 11) (ag_n rfl) rfl (by first | (simp (disch := decide) only [go_sem, seval] <;> rfl) | (simp (disch := first | decide | omega) only [if_pos, nws, go_sem, seval] <;> rfl)) rfl; apply aops_end; rfl) (by (simp (disch := omega) only [go_sem, seval, lay, nws]); rfl) ?_
  refine AWP.cond (b := _) rfl (fun h => ?_) (fun h => ?_) <;> (try simp only [decide_eq_true_eq, decide_eq_false_iff_not] at h)
  · skip
    refine AWP.sR (Gam.nil_ok _) [4] (by apply aops_x (d := 4) (ag_n rfl) rfl (by first | (simp (disch := decide) only [go_sem, seval] <;> rfl) | (simp (disch := first | decide | omega) only [if_pos, nws, go_sem, seval] <;> rfl)) rfl; apply aops_end; rfl) (by (simp (disch := omega) only [go_sem, seval, lay, nws]); rfl) ?_
    refine AWP.ret ?_
    refine ⟨.inr rfl, _, (by simp only [go_sem, seval] <;> rfl), ?_⟩
    simp only [go_sem, seval, Option.some.injEq, AV.c.injEq, AV.agg.injEq, CV.v.injEq, Value.int.injEq, Value.bool.injEq, Row.raw.injEq, List.cons.injEq, CV.sl.injEq, and_true, true_and, and_self]
    rw [decide_eq_false]; rintro rfl; omega
  · skip
    refine AWP.skip ?_
    change AWP _ _ _ _ _
    refine AWP.seq ?_
    refine AWP.sR (Gam.nil_ok _) [0, 1, 13, 14] (by apply aops_mv (t := 0) (d := 12) (ag_n rfl) rfl rfl (by simp only [look_lay, look, seval] <;> rfl) rfl; apply aops_x (d := 13) (ag_n rfl) rfl (by first | (simp (disch := decide) only [go_sem, seval] <;> rfl) | (simp (disch := first | decide | omega) only [if_pos, nws, go_sem, seval] <;> rfl)) rfl; apply aops_x (d := 14) (ag_n rfl) rfl (by first | (simp (disch := decide) only [go_sem, seval] <;> rfl) | (simp (disch := first | decide | omega) only [if_pos, nws, go_sem, seval] <;> rfl)) rfl; apply aops_end; rfl) (by (simp (disch := omega) only [go_sem, seval, lay, nws]); rfl) ?_
    refine AWP.block ?_
    refine AWP.loopP (fun (p : Nat) => ⟨53, [(0, .c (.rs (.sl (.i .u8)) xs)), (1, .c (.rs (.sl (.i .u8)) ys)), (13, .c (ci .i64 (xs.length : Int))), (14, .c (ci .i64 (p : Int)))], []⟩) (fun p => p ≤ xs.length ∧ xs.take p = ys.take p) (fun p => xs.length - p) 0 (Ghost.refl _ _) ⟨by simp, by simp⟩ ?_
    rintro i ⟨hi, ha⟩
    refine AWP.sR (Gam.nil_ok _) [0, 1, 13, 14, 15] (by apply aops_x (d := 15) (ag_n rfl) rfl (by first | (simp (disch := decide) only [go_sem, seval] <;> rfl) | (simp (disch := first | decide | omega) only [if_pos, nws, go_sem, seval] <;> rfl)) rfl; apply aops_end; rfl) (by (simp (disch := omega) only [go_sem, seval, lay, nws]); rfl) ?_
    refine AWP.seq ?_
    refine AWP.cond (b := _) rfl (fun h => ?_) (fun h => ?_) <;> (try simp only [decide_eq_true_eq, decide_eq_false_iff_not] at h)
    · skip
      refine AWP.skip ?_
      change AWP _ _ _ _ _
      refine AWP.seqBlock ?_
      have h' : i < xs.length := by omega
      obtain ⟨x, hx⟩ : ∃ x, xs[i]? = some x := ⟨_, List.getElem?_eq_getElem h'⟩
      obtain ⟨y, hy⟩ : ∃ y, ys[i]? = some y := ⟨_, List.getElem?_eq_getElem (by omega)⟩
      have xl := ex x (List.mem_of_getElem? hx)
      have yl := ey y (List.mem_of_getElem? hy)
      refine AWP.sR (Gam.nil_ok _) [0, 1, 5, 13, 14] (by apply aops_mv (t := 14) (d := 16) (ag_n rfl) rfl rfl (by simp only [look_lay, look, seval] <;> rfl) rfl; apply aops_as (t := 16) (d := 5) (ag_n rfl) rfl rfl (by simp only [look_lay, look, seval] <;> rfl) rfl; apply aops_end; rfl) (by (simp (disch := omega) only [go_sem, seval, lay, nws]); rfl) ?_
      refine AWP.seq ?_
      refine AWP.sD (Gam.nil_ok _) (by kernel_rfl) [0, 1, 5, 13, 14, 27] [⟨[], true, 0⟩, ⟨[], true, 0⟩, ⟨[], true, 0⟩, ⟨[], true, 0⟩, ⟨[], true, 0⟩, ⟨[], true, 0⟩, ⟨[], true, 0⟩, ⟨[], true, 0⟩, ⟨[], true, 0⟩, ⟨[], true, 0⟩, ⟨[], true, 0⟩] (by kernel_rfl) (by first | rfl | simp only [go_sem, ↓reduceIte, Nat.reduceLT, Nat.reduceAdd]) (by first | rfl | simp only [go_sem, ↓reduceIte, Nat.reduceLT, Nat.reduceAdd]) (by (repeat (first | apply arun_step (by first | rfl | (simp only [go_sem, seval, lay]; rfl)) (by first | (simp (disch := decide) only [hx, hy, go_sem, seval]; rfl) | (simp (disch := first | decide | omega) only [if_pos, nws, hx, hy, go_sem, seval]; rfl)) (by first | (intro h; cases h; done) | (intro _; rfl) | (intro _; simp only [go_sem, seval, lay])) (by first | rfl | simp only [go_sem, seval, lay]) (by first | rfl | simp only [go_sem, seval, lay]) (by first | rfl | simp only [go_sem, seval, lay]) (by simp only [go_sem, seval, lay]; rfl) | apply arun_pass (by first | rfl | (simp only [go_sem, seval, lay]; rfl)) rfl (by simp only [go_sem, seval, lay]; rfl))); exact rfl) (by (simp (disch := omega) only [go_sem, seval, lay, nws]); rfl) ?_
      refine AWP.cond (b := _) rfl (fun h => ?_) (fun h => ?_) <;> (try simp only [decide_eq_true_eq, decide_eq_false_iff_not] at h)
      · skip
        refine AWP.sR (Gam.nil_ok _) [4] (by apply aops_x (d := 4) (ag_n rfl) rfl (by first | (simp (disch := decide) only [go_sem, seval] <;> rfl) | (simp (disch := first | decide | omega) only [if_pos, nws, go_sem, seval] <;> rfl)) rfl; apply aops_end; rfl) (by (simp (disch := omega) only [go_sem, seval, lay, nws]); rfl) ?_
        refine AWP.ret ?_
        refine ⟨.inr rfl, _, (by simp only [go_sem, seval] <;> rfl), ?_⟩
        simp only [go_sem, seval, Option.some.injEq, AV.c.injEq, AV.agg.injEq, CV.v.injEq, Value.int.injEq, Value.bool.injEq, Row.raw.injEq, List.cons.injEq, CV.sl.injEq, and_true, true_and, and_self]
        rw [decide_eq_false]
        rintro rfl
        rw [hx] at hy; cases hy
        exact h rfl
      · skip
        refine AWP.skip ?_
        change AWP _ _ _ _ _
        refine AWP.sR (Gam.nil_ok _) [0, 1, 5, 13, 14, 32, 33] (by apply aops_mv (t := 0) (d := 28) (ag_n rfl) rfl rfl (by simp only [look_lay, look, seval] <;> rfl) rfl; apply aops_mv (t := 5) (d := 29) (ag_n rfl) rfl rfl (by simp only [look_lay, look, seval] <;> rfl) rfl; apply aops_x (d := 30) (ag_n rfl) rfl (by (simp (disch := first | decide | omega) only [if_pos, nws, hx, go_sem, seval] <;> rfl)) rfl; apply aops_x (d := 31) (ag_n rfl) rfl (by first | (simp (disch := decide) only [hx, go_sem, seval] <;> rfl) | (simp (disch := first | decide | omega) only [if_pos, nws, hx, go_sem, seval] <;> rfl)) rfl; apply aops_x (d := 32) (ag_n rfl) rfl (by first | (simp (disch := decide) only [hx, go_sem, seval] <;> rfl) | (simp (disch := first | decide | omega) only [if_pos, nws, hx, go_sem, seval] <;> rfl)) rfl; apply aops_x (d := 33) (ag_n rfl) rfl (by first | (simp (disch := decide) only [hx, go_sem, seval] <;> rfl) | (simp (disch := first | decide | omega) only [if_pos, nws, hx, go_sem, seval] <;> rfl)) rfl; apply aops_end; rfl) (by (simp (disch := omega) only [go_sem, seval, lay, nws]); rfl) ?_
        refine AWP.block ?_
        refine AWP.loopP (fun (p : Nat) => ⟨53, [(0, .c (.rs (.sl (.i .u8)) xs)), (1, .c (.rs (.sl (.i .u8)) ys)), (5, .c (ci .i64 (i : Int))), (13, .c (ci .i64 (xs.length : Int))), (14, .c (ci .i64 (i : Int))), (32, .c (ci .i64 (x.length : Int))), (33, .c (ci .i64 (p : Int)))], []⟩) (fun p => p ≤ x.length ∧ x.take p = y.take p) (fun p => x.length - p) 0 (Ghost.refl _ _) ⟨by simp, by simp⟩ ?_
        rintro k ⟨hk, hb⟩
        refine AWP.sR (Gam.nil_ok _) [0, 1, 5, 13, 14, 32, 33, 34] (by apply aops_x (d := 34) (ag_n rfl) rfl (by first | (simp (disch := decide) only [go_sem, seval] <;> rfl) | (simp (disch := first | decide | omega) only [if_pos, nws, go_sem, seval] <;> rfl)) rfl; apply aops_end; rfl) (by (simp (disch := omega) only [go_sem, seval, lay, nws]); rfl) ?_
        refine AWP.seq ?_
        refine AWP.cond (b := _) rfl (fun h => ?_) (fun h => ?_) <;> (try simp only [decide_eq_true_eq, decide_eq_false_iff_not] at h)
        · skip
          refine AWP.skip ?_
          change AWP _ _ _ _ _
          refine AWP.seqBlock ?_
          have k' : k < x.length := by omega
          obtain ⟨a, ha1⟩ : ∃ a, x[k]? = some a := ⟨_, List.getElem?_eq_getElem k'⟩
          obtain ⟨b, hb1⟩ : ∃ b, y[k]? = some b := ⟨_, List.getElem?_eq_getElem (by omega)⟩
          refine AWP.sR (Gam.nil_ok _) [0, 1, 5, 6, 13, 14, 32, 33] (by apply aops_mv (t := 33) (d := 35) (ag_n rfl) rfl rfl (by simp only [look_lay, look, seval] <;> rfl) rfl; apply aops_as (t := 35) (d := 6) (ag_n rfl) rfl rfl (by simp only [look_lay, look, seval] <;> rfl) rfl; apply aops_end; rfl) (by (simp (disch := omega) only [go_sem, seval, lay, nws]); rfl) ?_
          refine AWP.sD (Gam.nil_ok _) (by kernel_rfl) [0, 1, 5, 13, 14, 32, 33, 50] [⟨[], true, 0⟩, ⟨[], true, 0⟩, ⟨[], true, 0⟩, ⟨[], true, 0⟩, ⟨[], true, 0⟩, ⟨[], true, 0⟩, ⟨[], true, 0⟩, ⟨[], true, 0⟩, ⟨[], true, 0⟩, ⟨[], true, 0⟩, ⟨[], true, 0⟩, ⟨[], true, 0⟩, ⟨[], true, 0⟩, ⟨[], true, 0⟩, ⟨[], true, 0⟩] (by kernel_rfl) (by first | rfl | simp only [go_sem, ↓reduceIte, Nat.reduceLT, Nat.reduceAdd]) (by first | rfl | simp only [go_sem, ↓reduceIte, Nat.reduceLT, Nat.reduceAdd]) (by (repeat (first | apply arun_step (by first | rfl | (simp only [go_sem, seval, lay]; rfl)) (by first | (simp (disch := decide) only [hx, hy, ha1, hb1, go_sem, seval]; rfl) | (simp (disch := first | decide | omega) only [if_pos, nws, hx, hy, ha1, hb1, go_sem, seval]; rfl)) (by first | (intro h; cases h; done) | (intro _; rfl) | (intro _; simp only [go_sem, seval, lay])) (by first | rfl | simp only [go_sem, seval, lay]) (by first | rfl | simp only [go_sem, seval, lay]) (by first | rfl | simp only [go_sem, seval, lay]) (by simp only [go_sem, seval, lay]; rfl) | apply arun_pass (by first | rfl | (simp only [go_sem, seval, lay]; rfl)) rfl (by simp only [go_sem, seval, lay]; rfl))); exact rfl) (by (simp (disch := omega) only [go_sem, seval, lay, nws]); rfl) ?_
          refine AWP.cond (b := _) rfl (fun h => ?_) (fun h => ?_) <;> (try simp only [decide_eq_true_eq, decide_eq_false_iff_not] at h)
          · skip
            refine AWP.sR (Gam.nil_ok _) [4] (by apply aops_x (d := 4) (ag_n rfl) rfl (by first | (simp (disch := decide) only [go_sem, seval] <;> rfl) | (simp (disch := first | decide | omega) only [if_pos, nws, go_sem, seval] <;> rfl)) rfl; apply aops_end; rfl) (by (simp (disch := omega) only [go_sem, seval, lay, nws]); rfl) ?_
            refine AWP.ret ?_
            refine ⟨.inr rfl, _, (by simp only [go_sem, seval] <;> rfl), ?_⟩
            simp only [go_sem, seval, Option.some.injEq, AV.c.injEq, AV.agg.injEq, CV.v.injEq, Value.int.injEq, Value.bool.injEq, Row.raw.injEq, List.cons.injEq, CV.sl.injEq, and_true, true_and, and_self]
            rw [decide_eq_false]
            rintro rfl
            rw [hx] at hy; cases hy
            rw [ha1] at hb1; cases hb1
            simp at h
          · skip
            refine AWP.skip ?_
            change AWP _ _ _ _ _
            refine AWP.rT (Gam.nil_ok _) [0, 1, 5, 13, 14, 32, 33] (by apply aops_x (d := 51) (ag_n rfl) rfl (by first | (simp (disch := decide) only [go_sem, seval] <;> rfl) | (simp (disch := first | decide | omega) only [if_pos, nws, go_sem, seval] <;> rfl)) rfl; apply aops_mv (t := 51) (d := 33) (ag_n rfl) rfl rfl (by simp only [look_lay, look, seval] <;> rfl) rfl; apply aops_end; rfl) (by (simp (disch := omega) only [go_sem, seval, lay, nws]); rfl) ?_
            refine ⟨k + 1, Ghost.of_eq rfl, ⟨by omega, ?_⟩, by omega⟩
            have e : a = b := by simpa using h
            rw [List.take_add_one, List.take_add_one, ha1, hb1, hb, e]
        · skip
          refine AWP.exit ?_
          change AWP _ _ _ _ _
          refine AWP.rT (Gam.nil_ok _) [0, 1, 13, 14] (by apply aops_x (d := 52) (ag_n rfl) rfl (by first | (simp (disch := decide) only [go_sem, seval] <;> rfl) | (simp (disch := first | decide | omega) only [if_pos, nws, go_sem, seval] <;> rfl)) rfl; apply aops_mv (t := 52) (d := 14) (ag_n rfl) rfl rfl (by simp only [look_lay, look, seval] <;> rfl) rfl; apply aops_end; rfl) (by (simp (disch := omega) only [go_sem, seval, lay, nws]); rfl) ?_
          refine ⟨i + 1, Ghost.of_eq rfl, ⟨by omega, ?_⟩, by omega⟩
          have ek : k = x.length := by omega
          have el : y.length = x.length := by omega
          rw [ek, List.take_length, ← el, List.take_length] at hb
          rw [List.take_add_one, List.take_add_one, hx, hy, ha, hb]
    · skip
      refine AWP.exit ?_
      change AWP _ _ _ _ _
      refine AWP.sR (Gam.nil_ok _) [4] (by apply aops_x (d := 4) (ag_n rfl) rfl (by first | (simp (disch := decide) only [go_sem, seval] <;> rfl) | (simp (disch := first | decide | omega) only [if_pos, nws, go_sem, seval] <;> rfl)) rfl; apply aops_end; rfl) (by (simp (disch := omega) only [go_sem, seval, lay, nws]); rfl) ?_
      refine AWP.ret ?_
      refine ⟨.inr rfl, _, (by simp only [go_sem, seval] <;> rfl), ?_⟩
      simp only [go_sem, seval, Option.some.injEq, AV.c.injEq, AV.agg.injEq, CV.v.injEq, Value.int.injEq, Value.bool.injEq, Row.raw.injEq, List.cons.injEq, CV.sl.injEq, and_true, true_and, and_self]
      have e : i = xs.length := by omega
      have e2 : ys.length = xs.length := by omega
      rw [e, List.take_length, ← e2, List.take_length] at ha
      rw [decide_eq_true ha]
theorem E25_ok : EntryOk Try.prog 25 E25 := pureN_ok (fun d hc => K25 d.1 d.2.1 hc) (fun _ => rfl) (fun _ => rfl)
attribute [go_sem] E25 c25 r25 L25
end Go.Proofs.Ytbdnhoddkdiogaa
