import Derived.Test.YtggomleegbnhbaaBl4
set_option linter.unusedSimpArgs false
set_option linter.unusedVariables false
namespace Go.Proofs.Ytggomleegbnhbaa
open Go.RowKit
/-! Polynomials: without zeros behind. -/
def trimF : List Int → List Int
  | [] => []
  | x :: l => if trimF l = [] then (if x = 0 then [] else [x]) else x :: trimF l
theorem trimF_len : ∀ l, (trimF l).length ≤ l.length
  | [] => Nat.le_refl _
  | x :: l => by
    have := trimF_len l
    unfold trimF
    split
    · split <;> simp
    · simp; exact this
theorem trimF_snoc0 : ∀ l : List Int, trimF (l ++ [0]) = trimF l
  | [] => rfl
  | x :: l => by
    show (if trimF (l ++ [0]) = [] then _ else x :: trimF (l ++ [0])) = _
    rw [trimF_snoc0 l]; rfl
theorem trimF_snoc {x : Int} (hx : x ≠ 0) : ∀ l : List Int, trimF (l ++ [x]) = l ++ [x]
  | [] => by show (if ([] : List Int) = [] then (if x = 0 then [] else [x]) else _) = _; rw [if_pos rfl, if_neg hx]; rfl
  | y :: l => by
    show (if trimF (l ++ [x]) = [] then _ else y :: trimF (l ++ [x])) = _
    rw [trimF_snoc hx l, if_neg (by simp)]; rfl
theorem trimF_take : ∀ l : List Int, l.take (trimF l).length = trimF l
  | [] => rfl
  | x :: l => by
    have ih := trimF_take l
    unfold trimF
    split
    · split <;> simp
    · rw [List.length_cons, List.take_succ_cons, ih]
theorem take_snoc {a : List Int} {k : Nat} {x : Int} (h : a[k]? = some x) : a.take (k + 1) = a.take k ++ [x] := by rw [List.take_add_one, h]; rfl
def lastZ (a : List Int) : Nat → Bool
  | 0 => false
  | k + 1 => decide (a[k]?.getD 1 = 0)
theorem lastZ_stop {a : List Int} {k : Nat} (hk : k ≤ a.length) (ht : trimF (a.take k) = trimF a) (h : lastZ a k = false) : (trimF a).length = k := by
  cases k with
  | zero => rw [← ht]; rfl
  | succ k =>
    obtain ⟨x, hx⟩ : ∃ x, a[k]? = some x := ⟨_, List.getElem?_eq_getElem hk⟩
    have h : decide (a[k]?.getD 1 = 0) = false := h
    rw [hx, Option.getD_some] at h
    rw [take_snoc hx, trimF_snoc (of_decide_eq_false h)] at ht
    rw [← ht]; simp; omega
theorem lastZ_step {a : List Int} {k : Nat} (hk : k + 1 ≤ a.length) (ht : trimF (a.take (k + 1)) = trimF a) (h : lastZ a (k + 1) = true) : trimF (a.take k) = trimF a := by
  obtain ⟨x, hx⟩ : ∃ x, a[k]? = some x := ⟨_, List.getElem?_eq_getElem hk⟩
  have h : decide (a[k]?.getD 1 = 0) = true := h
  rw [hx, Option.getD_some] at h
  rw [take_snoc hx, of_decide_eq_true h, trimF_snoc0] at ht
  exact ht
abbrev c43 (a : (List Int)) : Prop := a.length ≤ 4000000000
abbrev r43 (a : (List Int)) : AV := .c (ci .i64 (((trimF a).length : Int) - 1))
abbrev L43 (a : (List Int)) : Hp := []
def E43 : Entry := pureN [(.sl (.i .u8))] (fun d => c43 d.1) (fun d => r43 d.1) (fun d => L43 d.1)
set_option maxRecDepth 100000 in
set_option maxHeartbeats 4000000 in
theorem K43 (a : (List Int)) (hc : c43 a) : CallOk Try.prog 43 [.c (.rs (.i .u8) a)] [] (r43 a) (L43 a) := by
  have hc : a.length ≤ 4000000000 := hc
  refine callOk' Try.func43 19 [.tmp 2] _ rfl rfl rfl (by kernel_rfl) (by simp) [] rfl rfl (by simp) ?_
  simp only [params]
  refine AWP.sR (Gam.nil_ok _) [0] (by apply aops_x (d := 2) (ag_n rfl) rfl (by first | (simp (disch := decide) only [go_sem, seval] <;> rfl) | (simp (disch := first | decide | omega) only [if_pos, nws, go_sem, seval] <;> rfl)) rfl; apply aops_end; rfl) (by (simp (disch := omega) only [go_sem, seval, lay, nws]); rfl) ?_
  refine AWP.sR (Gam.nil_ok _) [0, 3] (by apply aops_mv (t := 0) (d := 4) (ag_n rfl) rfl rfl (by first | (simp only [look_lay, look, seval] <;> rfl) | fail) rfl; apply aops_x (d := 5) (ag_n rfl) rfl (by first | (simp (disch := decide) only [go_sem, seval] <;> rfl) | (simp (disch := first | decide | omega) only [if_pos, nws, go_sem, seval] <;> rfl)) rfl; apply aops_x (d := 6) (ag_n rfl) rfl (by first | (simp (disch := decide) only [go_sem, seval] <;> rfl) | (simp (disch := first | decide | omega) only [if_pos, nws, go_sem, seval] <;> rfl)) rfl; apply aops_as (t := 6) (d := 3) (ag_n rfl) rfl rfl (by first | (simp only [look_lay, look, seval] <;> rfl) | fail) rfl; apply aops_end; rfl) (by (simp (disch := omega) only [go_sem, seval, lay, nws]); rfl) ?_
  refine AWP.seqBlock ?_
  refine AWP.loopP (fun (p : Nat) => ⟨19, [(0, .c (.rs (.i .u8) a)), (3, .c (ci .i64 ((p : Int) - 1)))], []⟩) (fun p => p ≤ a.length ∧ trimF (a.take p) = trimF a) (fun p => p) a.length (Ghost.refl _ _) ⟨Nat.le_refl _, by rw [List.take_length]⟩ ?_
  rintro k ⟨hk, ht⟩
  refine AWP.seq ?_
  refine AWP.sX (Gam.nil_ok _) [0, 3, 15] (s2 := ⟨19, [(0, .c (.rs (.i .u8) a)), (3, .c (ci .i64 ((k : Int) - 1))), (15, .c (cb (lastZ a k)))], []⟩) (by ((rcases k with _ | k; have hx := hk; have hk' := hk; rotate_left; (obtain ⟨x, hx⟩ : ∃ x, a[k]? = some x := ⟨_, List.getElem?_eq_getElem hk⟩); have hk' : k < a.length := hk; rotate_left)) <;> refine ⟨_, (by apply aops_mv (t := 3) (d := 7) (ag_n rfl) rfl rfl (by first | (simp only [look_lay, look, seval] <;> rfl) | fail) rfl; apply aops_x (d := 8) (ag_n rfl) rfl (by (simp (disch := first | decide | omega) only [if_pos, nws, hx, hk', Int.natCast_add, Int.cast_ofNat_Int, Int.add_sub_cancel, Int.natCast_nonneg, lastZ, ge_iff_le, go_sem, seval] <;> rfl)) rfl; apply aops_mv (t := 8) (d := 9) (ag_n rfl) rfl rfl (by first | (simp only [look_lay, look, seval] <;> rfl) | fail) rfl; (first | apply aops_mv (t := 0) (d := 10) (ag_b (j := 2) (d := 9) rfl rfl rfl (by first | (simp only [look_lay, look, seval] <;> rfl) | fail) (by first | rfl | (simp only [hx, hk', Int.natCast_add, Int.cast_ofNat_Int, Int.add_sub_cancel, Int.natCast_nonneg, lastZ, ge_iff_le, decide_true, decide_false] <;> rfl) | fail)) rfl rfl (by first | (simp only [look_lay, look, seval] <;> rfl) | fail) rfl | apply aops_ps (d := 10) (by first | exact ag_f (j := 2) (d := 9) rfl rfl rfl (by first | (simp only [look_lay, look, seval] <;> rfl) | fail) (by first | rfl | (simp only [hx, hk', Int.natCast_add, Int.cast_ofNat_Int, Int.add_sub_cancel, Int.natCast_nonneg, lastZ, ge_iff_le, decide_true, decide_false] <;> rfl) | fail) | exact ag_u (j := 2) (d := 9) rfl rfl rfl (by first | (simp only [look_lay, look, seval] <;> rfl) | fail) | fail) rfl rfl); (first | apply aops_mv (t := 3) (d := 11) (ag_b (j := 2) (d := 9) rfl rfl rfl (by first | (simp only [look_lay, look, seval] <;> rfl) | fail) (by first | rfl | (simp only [hx, hk', Int.natCast_add, Int.cast_ofNat_Int, Int.add_sub_cancel, Int.natCast_nonneg, lastZ, ge_iff_le, decide_true, decide_false] <;> rfl) | fail)) rfl rfl (by first | (simp only [look_lay, look, seval] <;> rfl) | fail) rfl | apply aops_ps (d := 11) (by first | exact ag_f (j := 2) (d := 9) rfl rfl rfl (by first | (simp only [look_lay, look, seval] <;> rfl) | fail) (by first | rfl | (simp only [hx, hk', Int.natCast_add, Int.cast_ofNat_Int, Int.add_sub_cancel, Int.natCast_nonneg, lastZ, ge_iff_le, decide_true, decide_false] <;> rfl) | fail) | exact ag_u (j := 2) (d := 9) rfl rfl rfl (by first | (simp only [look_lay, look, seval] <;> rfl) | fail) | fail) rfl rfl); (first | apply aops_x (d := 12) (ag_b (j := 2) (d := 9) rfl rfl rfl (by first | (simp only [look_lay, look, seval] <;> rfl) | fail) (by first | rfl | (simp only [hx, hk', Int.natCast_add, Int.cast_ofNat_Int, Int.add_sub_cancel, Int.natCast_nonneg, lastZ, ge_iff_le, decide_true, decide_false] <;> rfl) | fail)) rfl (by (simp (disch := first | decide | omega) only [if_pos, nws, hx, hk', Int.natCast_add, Int.cast_ofNat_Int, Int.add_sub_cancel, Int.natCast_nonneg, lastZ, ge_iff_le, go_sem, seval] <;> rfl)) rfl | apply aops_ps (d := 12) (by first | exact ag_f (j := 2) (d := 9) rfl rfl rfl (by first | (simp only [look_lay, look, seval] <;> rfl) | fail) (by first | rfl | (simp only [hx, hk', Int.natCast_add, Int.cast_ofNat_Int, Int.add_sub_cancel, Int.natCast_nonneg, lastZ, ge_iff_le, decide_true, decide_false] <;> rfl) | fail) | exact ag_u (j := 2) (d := 9) rfl rfl rfl (by first | (simp only [look_lay, look, seval] <;> rfl) | fail) | fail) rfl rfl); (first | apply aops_x (d := 13) (ag_b (j := 2) (d := 9) rfl rfl rfl (by first | (simp only [look_lay, look, seval] <;> rfl) | fail) (by first | rfl | (simp only [hx, hk', Int.natCast_add, Int.cast_ofNat_Int, Int.add_sub_cancel, Int.natCast_nonneg, lastZ, ge_iff_le, decide_true, decide_false] <;> rfl) | fail)) rfl (by (simp (disch := first | decide | omega) only [if_pos, nws, hx, hk', Int.natCast_add, Int.cast_ofNat_Int, Int.add_sub_cancel, Int.natCast_nonneg, lastZ, ge_iff_le, go_sem, seval] <;> rfl)) rfl | apply aops_ps (d := 13) (by first | exact ag_f (j := 2) (d := 9) rfl rfl rfl (by first | (simp only [look_lay, look, seval] <;> rfl) | fail) (by first | rfl | (simp only [hx, hk', Int.natCast_add, Int.cast_ofNat_Int, Int.add_sub_cancel, Int.natCast_nonneg, lastZ, ge_iff_le, decide_true, decide_false] <;> rfl) | fail) | exact ag_u (j := 2) (d := 9) rfl rfl rfl (by first | (simp only [look_lay, look, seval] <;> rfl) | fail) | fail) rfl rfl); (first | apply aops_x (d := 14) (ag_b (j := 2) (d := 9) rfl rfl rfl (by first | (simp only [look_lay, look, seval] <;> rfl) | fail) (by first | rfl | (simp only [hx, hk', Int.natCast_add, Int.cast_ofNat_Int, Int.add_sub_cancel, Int.natCast_nonneg, lastZ, ge_iff_le, decide_true, decide_false] <;> rfl) | fail)) rfl (by (simp (disch := first | decide | omega) only [if_pos, nws, hx, hk', Int.natCast_add, Int.cast_ofNat_Int, Int.add_sub_cancel, Int.natCast_nonneg, lastZ, ge_iff_le, go_sem, seval] <;> rfl)) rfl | apply aops_ps (d := 14) (by first | exact ag_f (j := 2) (d := 9) rfl rfl rfl (by first | (simp only [look_lay, look, seval] <;> rfl) | fail) (by first | rfl | (simp only [hx, hk', Int.natCast_add, Int.cast_ofNat_Int, Int.add_sub_cancel, Int.natCast_nonneg, lastZ, ge_iff_le, decide_true, decide_false] <;> rfl) | fail) | exact ag_u (j := 2) (d := 9) rfl rfl rfl (by first | (simp only [look_lay, look, seval] <;> rfl) | fail) | fail) rfl rfl); apply aops_x (d := 15) (ag_n rfl) rfl (by (simp (disch := first | decide | omega) only [if_pos, nws, hx, hk', Int.natCast_add, Int.cast_ofNat_Int, Int.add_sub_cancel, Int.natCast_nonneg, lastZ, ge_iff_le, go_sem, seval] <;> rfl)) rfl; apply aops_end; rfl), (by (simp (disch := omega) only [hx, hk', Int.natCast_add, Int.cast_ofNat_Int, Int.add_sub_cancel, Int.natCast_nonneg, lastZ, ge_iff_le, go_sem, seval, lay, nws]) <;> rfl)⟩) ?_
  refine AWP.cond (b := _) rfl (fun h => ?_) (fun h => ?_) <;> (try simp only [decide_eq_true_eq, decide_eq_false_iff_not] at h)
  · skip
    refine AWP.skip ?_
    change AWP _ _ _ _ _
    refine AWP.block ?_
    obtain ⟨k, rfl⟩ : ∃ j, k = j + 1 := by cases k with | zero => cases h | succ j => exact ⟨j, rfl⟩
    refine AWP.rT (Gam.nil_ok _) [0, 3] (by apply aops_mv (t := 3) (d := 16) (ag_n rfl) rfl rfl (by first | (simp only [look_lay, look, seval] <;> rfl) | fail) rfl; apply aops_x (d := 17) (ag_n rfl) rfl (by first | (simp (disch := decide) only [go_sem, seval] <;> rfl) | (simp (disch := first | decide | omega) only [if_pos, nws, go_sem, seval] <;> rfl)) rfl; apply aops_as (t := 17) (d := 3) (ag_n rfl) rfl rfl (by first | (simp only [look_lay, look, seval] <;> rfl) | fail) rfl; apply aops_end; rfl) (by (simp (disch := omega) only [go_sem, seval, lay, nws]); rfl) ?_
    exact ⟨k, Ghost.of_eq (by simp only [Int.natCast_add, Int.cast_ofNat_Int, Int.add_sub_cancel]), ⟨by omega, lastZ_step hk ht h⟩, by omega⟩
  · skip
    refine AWP.exit ?_
    change AWP _ _ _ _ _
    refine AWP.sR (Gam.nil_ok _) [2] (by apply aops_mv (t := 3) (d := 18) (ag_n rfl) rfl rfl (by first | (simp only [look_lay, look, seval] <;> rfl) | fail) rfl; apply aops_as (t := 18) (d := 2) (ag_n rfl) rfl rfl (by first | (simp only [look_lay, look, seval] <;> rfl) | fail) rfl; apply aops_end; rfl) (by (simp (disch := omega) only [go_sem, seval, lay, nws]); rfl) ?_
    refine AWP.ret ?_
    refine ⟨.inr rfl, _, (by simp only [go_sem, seval] <;> rfl), ?_⟩
    simp only [go_sem, seval, Option.some.injEq, AV.c.injEq, AV.agg.injEq, CV.v.injEq, Value.int.injEq, Value.bool.injEq, Row.raw.injEq, List.cons.injEq, CV.sl.injEq, and_true, true_and, and_self]
    have e := lastZ_stop hk ht h
    rw [e]
theorem E43_ok : EntryOk Try.prog 43 E43 := pureN_ok (fun d hc => K43 d.1 hc) (fun _ => rfl) (fun _ => rfl)
attribute [go_sem] E43 c43 r43 L43
abbrev c41 (s : (List Int)) : Prop := s.length ≤ 4000000000
abbrev r41 (s : (List Int)) : AV := .c (.sl 0 0 s.length 1)
abbrev L41 (s : (List Int)) : Hp := [some (.ty (.i .u8) s)]
def E41 : Entry := pureN [(.sl (.i .u8))] (fun d => c41 d.1) (fun d => r41 d.1) (fun d => L41 d.1)
set_option maxRecDepth 100000 in
set_option maxHeartbeats 4000000 in
theorem K41 (s : (List Int)) (hc : c41 s) : CallOk Try.prog 41 [.c (.rs (.i .u8) s)] [] (r41 s) (L41 s) := by
  have hc : s.length ≤ 4000000000 := hc
  by_cases h0 : s = []
  · subst h0
    refine callOk' Try.func41 8 [.tmp 2] _ rfl rfl rfl (by kernel_rfl) (by simp) [0] rfl rfl (by simp) ?_
    simp only [params]
    refine AWP.sR (Gam.nil_ok _) [0] (by apply aops_x (d := 2) (ag_n rfl) rfl (by first | (simp (disch := decide) only [go_sem, seval] <;> rfl) | (simp (disch := first | decide | omega) only [if_pos, nws, go_sem, seval] <;> rfl)) rfl; apply aops_end; rfl) (by (simp (disch := omega) only [go_sem, seval, lay, nws]); rfl) ?_
    refine AWP.seq ?_
    refine AWP.sR (Gam.nil_ok _) [0, 4] (by apply aops_mv (t := 0) (d := 3) (ag_n rfl) rfl rfl (by first | (simp only [look_lay, look, seval] <;> rfl) | fail) rfl; apply aops_x (d := 4) (ag_n rfl) rfl (by first | (simp (disch := decide) only [go_sem, seval] <;> rfl) | (simp (disch := first | decide | omega) only [if_pos, nws, go_sem, seval] <;> rfl)) rfl; apply aops_end; rfl) (by (simp (disch := omega) only [go_sem, seval, lay, nws]); rfl) ?_
    refine AWP.condU rfl ?_ ?_
    · skip
      refine AWP.sR (Gam.nil_ok _) [2] (by apply aops_x (d := 2) (ag_n rfl) rfl (by first | (simp (disch := decide) only [go_sem, seval] <;> rfl) | (simp (disch := first | decide | omega) only [if_pos, nws, go_sem, seval] <;> rfl)) rfl; apply aops_end; rfl) (by (simp (disch := omega) only [go_sem, seval, lay, nws]); rfl) ?_
      refine AWP.ghost (Ghost.nil 2 1 (.i .u8) rfl (by simp)) ?_
      refine AWP.ret ?_
      refine ⟨.inr rfl, _, (by simp only [go_sem, seval] <;> rfl), ?_⟩
      simp only [go_sem, seval, Option.some.injEq, AV.c.injEq, AV.agg.injEq, CV.v.injEq, Value.int.injEq, Value.bool.injEq, Row.raw.injEq, List.cons.injEq, CV.sl.injEq, and_true, true_and, and_self]
    · skip
      refine AWP.skip ?_
      change AWP _ _ _ _ _
      refine AWP.sR (Gam.nil_ok _) [2] (by apply aops_x (d := 5) (ag_n rfl) rfl (by (simp (disch := first | decide | omega) only [if_pos, nws, go_sem, seval] <;> rfl)) rfl; apply aops_mv (t := 0) (d := 6) (ag_n rfl) rfl rfl (by first | (simp only [look_lay, look, seval] <;> rfl) | fail) rfl; apply aops_x (d := 7) (ag_n rfl) rfl (by (simp (disch := first | decide | omega) only [if_pos, nws, go_sem, seval] <;> rfl)) rfl; apply aops_as (t := 7) (d := 2) (ag_n rfl) rfl rfl (by first | (simp only [look_lay, look, seval] <;> rfl) | fail) rfl; apply aops_end; rfl) (by (simp (disch := omega) only [go_sem, seval, lay, nws]); rfl) ?_
      refine AWP.ghost (Ghost.gc (ρ := [1]) (by simp only [go_sem, seval] <;> rfl) rfl rfl rfl) ?_
      refine AWP.ret ?_
      refine ⟨.inr rfl, _, (by simp only [go_sem, seval] <;> rfl), ?_⟩
      simp only [go_sem, seval, Option.some.injEq, AV.c.injEq, AV.agg.injEq, CV.v.injEq, Value.int.injEq, Value.bool.injEq, Row.raw.injEq, List.cons.injEq, CV.sl.injEq, and_true, true_and, and_self]
  · skip
    have hp : 0 < s.length := List.length_pos_iff.2 h0
    refine callOk' Try.func41 8 [.tmp 2] _ rfl rfl rfl (by kernel_rfl) (by simp) [0] rfl rfl (by simp) ?_
    simp only [params]
    refine AWP.sR (Gam.nil_ok _) [0] (by apply aops_x (d := 2) (ag_n rfl) rfl (by first | (simp (disch := decide) only [hp, go_sem, seval] <;> rfl) | (simp (disch := first | decide | omega) only [if_pos, nws, hp, go_sem, seval] <;> rfl)) rfl; apply aops_end; rfl) (by (simp (disch := omega) only [go_sem, seval, lay, nws]); rfl) ?_
    refine AWP.seq ?_
    refine AWP.sR (Gam.nil_ok _) [0, 4] (by apply aops_mv (t := 0) (d := 3) (ag_n rfl) rfl rfl (by first | (simp only [look_lay, look, seval] <;> rfl) | fail) rfl; apply aops_x (d := 4) (ag_n rfl) rfl (by first | (simp (disch := decide) only [hp, go_sem, seval] <;> rfl) | (simp (disch := first | decide | omega) only [if_pos, nws, hp, go_sem, seval] <;> rfl)) rfl; apply aops_end; rfl) (by (simp (disch := omega) only [go_sem, seval, lay, nws]); rfl) ?_
    refine AWP.condF (b := _) rfl (by first | rfl | (simp only [decide_eq_true_eq, decide_eq_false_iff_not]; omega)) ?_
    refine AWP.skip ?_
    change AWP _ _ _ _ _
    refine AWP.sR (Gam.nil_ok _) [2] (by apply aops_x (d := 5) (ag_n rfl) rfl (by (simp (disch := first | decide | omega) only [if_pos, nws, hp, go_sem, seval] <;> rfl)) rfl; apply aops_mv (t := 0) (d := 6) (ag_n rfl) rfl rfl (by first | (simp only [look_lay, look, seval] <;> rfl) | fail) rfl; apply aops_x (d := 7) (ag_n rfl) rfl (by (simp (disch := first | decide | omega) only [if_pos, nws, hp, go_sem, seval] <;> rfl)) rfl; apply aops_as (t := 7) (d := 2) (ag_n rfl) rfl rfl (by first | (simp only [look_lay, look, seval] <;> rfl) | fail) rfl; apply aops_end; rfl) (by (simp (disch := omega) only [go_sem, seval, lay, nws]); rfl) ?_
    refine AWP.ghost (Ghost.gc (ρ := [1]) (by simp only [go_sem, seval] <;> rfl) rfl rfl rfl) ?_
    refine AWP.ret ?_
    refine ⟨.inr rfl, _, (by simp only [go_sem, seval, hp] <;> rfl), ?_⟩
    simp only [go_sem, seval, hp, Option.some.injEq, AV.c.injEq, AV.agg.injEq, CV.v.injEq, Value.int.injEq, Value.bool.injEq, Row.raw.injEq, List.cons.injEq, CV.sl.injEq, and_true, true_and, and_self]
theorem E41_ok : EntryOk Try.prog 41 E41 := pureN_ok (fun d hc => K41 d.1 hc) (fun _ => rfl) (fun _ => rfl)
attribute [go_sem] E41 c41 r41 L41
abbrev c42 (a : (List Int)) : Prop := a.length ≤ 4000000000
abbrev r42 (a : (List Int)) : AV := .c (.sl 0 0 (trimF a).length 1)
abbrev L42 (a : (List Int)) : Hp := [some (.ty (.i .u8) (trimF a))]
def E42 : Entry := pureN [(.sl (.i .u8))] (fun d => c42 d.1) (fun d => r42 d.1) (fun d => L42 d.1)
set_option maxRecDepth 100000 in
set_option maxHeartbeats 4000000 in
theorem K42 (a : (List Int)) (hc : c42 a) : CallOk Try.prog 42 [.c (.rs (.i .u8) a)] [] (r42 a) (L42 a) := by
  have hc : a.length ≤ 4000000000 := hc
  have tl := trimF_len a
  have tt := trimF_take a
  have tm : min (trimF a).length a.length = (trimF a).length := Nat.min_eq_left tl
  have e1 : ((trimF a).length : Int) - 1 + 1 = ((trimF a).length : Int) := by omega
  have gok := (Gam.cons_ok E41_ok (Gam.cons_ok E43_ok (Gam.nil_ok _)))
  refine callOk' Try.func42 9 [.tmp 2] _ rfl rfl rfl (by kernel_rfl) (by simp) [0] rfl rfl (by simp) ?_
  simp only [params]
  refine AWP.sR gok [0] (by apply aops_x (d := 2) (ag_n rfl) rfl (by first | (simp (disch := decide) only [e1, tl, tm, Nat.sub_zero, go_sem, seval] <;> rfl) | (simp (disch := first | decide | omega) only [if_pos, nws, e1, tl, tm, Nat.sub_zero, go_sem, seval] <;> rfl)) rfl; apply aops_end; rfl) (by (simp (disch := omega) only [go_sem, seval, lay, nws]); rfl) ?_
  refine AWP.sR gok [2] (by apply aops_mv (t := 0) (d := 3) (ag_n rfl) rfl rfl (by first | (simp only [look_lay, look, seval] <;> rfl) | fail) rfl; apply aops_mv (t := 0) (d := 4) (ag_n rfl) rfl rfl (by first | (simp only [look_lay, look, seval] <;> rfl) | fail) rfl; apply aops_x (d := 5) (ag_n rfl) rfl (by (simp (disch := first | decide | omega) only [if_pos, nws, e1, tl, tm, Nat.sub_zero, go_sem, seval] <;> rfl)) rfl; apply aops_x (d := 6) (ag_n rfl) rfl (by first | (simp (disch := decide) only [e1, tl, tm, Nat.sub_zero, go_sem, seval] <;> rfl) | (simp (disch := first | decide | omega) only [if_pos, nws, e1, tl, tm, Nat.sub_zero, go_sem, seval] <;> rfl)) rfl; apply aops_x (d := 7) (ag_n rfl) rfl (by (simp (disch := first | decide | omega) only [if_pos, nws, e1, tl, tm, Nat.sub_zero, go_sem, seval] <;> rfl)) rfl; apply aops_x (d := 8) (ag_n rfl) rfl (by (simp (disch := first | decide | omega) only [if_pos, nws, e1, tl, tm, Nat.sub_zero, go_sem, seval] <;> rfl)) rfl; apply aops_as (t := 8) (d := 2) (ag_n rfl) rfl rfl (by first | (simp only [look_lay, look, seval] <;> rfl) | fail) rfl; apply aops_end; rfl) (by (simp (disch := omega) only [go_sem, seval, lay, nws]); rfl) ?_
  refine AWP.ret ?_
  refine ⟨.inr rfl, _, (by simp only [go_sem, seval, e1, tl, tm, Nat.sub_zero] <;> rfl), ?_⟩
  simp only [go_sem, seval, e1, tl, tm, Nat.sub_zero, Option.some.injEq, AV.c.injEq, AV.agg.injEq, CV.v.injEq, Value.int.injEq, Value.bool.injEq, Row.raw.injEq, List.cons.injEq, CV.sl.injEq, and_true, true_and, and_self]
  rw [tt]
theorem E42_ok : EntryOk Try.prog 42 E42 := pureN_ok (fun d hc => K42 d.1 hc) (fun _ => rfl) (fun _ => rfl)
attribute [go_sem] E42 c42 r42 L42
end Go.Proofs.Ytggomleegbnhbaa
