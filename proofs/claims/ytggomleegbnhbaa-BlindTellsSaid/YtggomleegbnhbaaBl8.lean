import Derived.Test.YtggomleegbnhbaaBl7
set_option linter.unusedSimpArgs false
set_option linter.unusedVariables false
namespace Go.Proofs.Ytggomleegbnhbaa
open Go.RowKit
def badF (s : List Bool) (w : Int) : Bool := if w < 0 then true else if 200 ≤ w then true else s[w.toNat]?.getD false
theorem badF_false {s : List Bool} {w : Int} (h : badF s w = false) : ∃ x : Nat, w = (x : Int) ∧ x < 200 ∧ s[x]?.getD false = false := by
  unfold badF at h
  by_cases h1 : w < 0
  · rw [if_pos h1] at h; cases h
  · by_cases h2 : 200 ≤ w
    · rw [if_neg h1, if_pos h2] at h; cases h
    · rw [if_neg h1, if_neg h2] at h
      exact ⟨w.toNat, by omega, by omega, h⟩
def tuF : List Int → List Bool → List (Int × Int) → Option (List (Int × Int))
  | [], _, pts => some pts
  | w :: l, s, pts => if badF s w = true then none else tuF l (s.set w.toNat true) (pts ++ [(w + 1, 0)])
def turnPts (who : List Int) : Option (List (Int × Int)) := tuF who (List.replicate 200 false) [(0, 1)]
def turnF (who : List Int) : List Int := match turnPts who with | none => [] | some pts => thruF pts
def turnErr (who : List Int) : Int := match turnPts who with | none => 1 | some pts => if twiceF pts = true then 1 else 0
set_option maxRecDepth 100000 in
set_option maxHeartbeats 4000000 in
theorem turn_c (who : List Int) (ll : who.length ≤ 1000) : CallOk Try.prog 19 [.c (.ptr 0 0 1 0), .c (.rs (.i .i64) who)] [some (.ty FT [Tab])] (.tup [.c (.sl 1 0 (turnF who).length 1), .c (ci .i64 (turnErr who))]) [some (.ty FT [Tab]), some (.ty (.i .u8) (turnF who))] := by
  have gok := (Gam.cons_ok E30_ok (Gam.nil_ok _))
  refine callOk' Try.func19 44 [.tmp 4, .tmp 5] _ rfl rfl rfl (by kernel_rfl) (by simp) [0, 3] rfl rfl (by simp) ?_
  simp only [params]
  refine AWP.sR gok [0, 1] (by apply aops_x (d := 4) (ag_n rfl) rfl (by first | (simp (disch := decide) only [go_sem, seval] <;> rfl) | (simp (disch := first | decide | omega) only [if_pos, nws, go_sem, seval] <;> rfl)) rfl; apply aops_x (d := 5) (ag_n rfl) rfl (by first | (simp (disch := decide) only [go_sem, seval] <;> rfl) | (simp (disch := first | decide | omega) only [if_pos, nws, go_sem, seval] <;> rfl)) rfl; apply aops_end; rfl) (by (simp (disch := omega) only [go_sem, seval, lay, nws]); rfl) ?_
  refine AWP.sR gok [0, 1, 6] (by apply aops_x (d := 6) (ag_n rfl) rfl (by first | (simp (disch := decide) only [go_sem, seval] <;> rfl) | (simp (disch := first | decide | omega) only [if_pos, nws, go_sem, seval] <;> rfl)) rfl; apply aops_end; rfl) (by (simp (disch := omega) only [go_sem, seval, lay, nws]); rfl) ?_
  refine AWP.sR gok [0, 1, 6, 7] (by apply aops_x (d := 10) (ag_n rfl) rfl (by first | (simp (disch := decide) only [go_sem, seval] <;> rfl) | (simp (disch := first | decide | omega) only [if_pos, nws, go_sem, seval] <;> rfl)) rfl; apply aops_x (d := 11) (ag_n rfl) rfl (by (simp (disch := first | decide | omega) only [if_pos, nws, go_sem, seval] <;> rfl)) rfl; apply aops_as (t := 11) (d := 7) (ag_n rfl) rfl rfl (by first | (simp only [look_lay, look, seval] <;> rfl) | fail) rfl; apply aops_end; rfl) (by (simp (disch := omega) only [go_sem, seval, lay, nws]); rfl) ?_
  refine AWP.seq ?_
  refine AWP.sR gok [0, 6, 7, 12, 13, 14] (by apply aops_mv (t := 1) (d := 12) (ag_n rfl) rfl rfl (by first | (simp only [look_lay, look, seval] <;> rfl) | fail) rfl; apply aops_x (d := 13) (ag_n rfl) rfl (by first | (simp (disch := decide) only [go_sem, seval] <;> rfl) | (simp (disch := first | decide | omega) only [if_pos, nws, go_sem, seval] <;> rfl)) rfl; apply aops_x (d := 14) (ag_n rfl) rfl (by first | (simp (disch := decide) only [go_sem, seval] <;> rfl) | (simp (disch := first | decide | omega) only [if_pos, nws, go_sem, seval] <;> rfl)) rfl; apply aops_end; rfl) (by (simp (disch := omega) only [go_sem, seval, lay, nws]); rfl) ?_
  refine AWP.block ?_
  refine AWP.loopP (fun (p : Nat × List Bool × List (Int × Int)) => ⟨44, [(0, .c (.ptr 0 0 1 0)), (6, .c (.ptr 1 0 1 0)), (7, .c (.sl 2 0 p.2.2.length 2)), (12, .c (.rs (.i .i64) who)), (13, .c (ci .i64 (who.length : Int))), (14, .c (ci .i64 (p.1 : Int)))], [some (.ty FT [Tab]), some (.ty .bo p.2.1), some (.ty (.pr (.i .u8) (.i .u8)) p.2.2)]⟩) (fun p => p.1 ≤ who.length ∧ p.2.1.length = 200 ∧ tuF (who.drop p.1) p.2.1 p.2.2 = turnPts who ∧ ptsOk p.2.2 ∧ p.2.2.length = p.1 + 1) (fun p => who.length - p.1) (0, List.replicate 200 false, [(0, 1)]) (Ghost.refl _ _) ⟨Nat.zero_le _, by simp, rfl, (fun q hq => by rw [List.mem_singleton.1 hq]; exact ⟨(by decide : byteOk 0), (by decide : byteOk 1)⟩), rfl⟩ ?_
  rintro ⟨i, s, pts⟩ ⟨hi, hs, ht, hp, hpl⟩
  simp only at hi hs ht hp hpl ⊢
  refine AWP.sR gok [0, 6, 7, 12, 13, 14, 15] (by apply aops_x (d := 15) (ag_n rfl) rfl (by first | (simp (disch := decide) only [go_sem, seval] <;> rfl) | (simp (disch := first | decide | omega) only [if_pos, nws, go_sem, seval] <;> rfl)) rfl; apply aops_end; rfl) (by (simp (disch := omega) only [go_sem, seval, lay, nws]); rfl) ?_
  refine AWP.seq ?_
  refine AWP.cond (b := _) rfl (fun h => ?_) (fun h => ?_) <;> (try simp only [decide_eq_true_eq, decide_eq_false_iff_not] at h)
  · skip
    refine AWP.skip ?_
    change AWP _ _ _ _ _
    refine AWP.seqBlock ?_
    obtain ⟨w, hw⟩ : ∃ w, who[i]? = some w := ⟨_, List.getElem?_eq_getElem (by omega)⟩
    have hil : i < who.length := by omega
    have hd : who.drop i = w :: who.drop (i + 1) := by rw [List.drop_eq_getElem_cons hil]; congr 1; rw [List.getElem?_eq_getElem hil] at hw; exact Option.some.inj hw
    rw [hd] at ht
    have ht : (if badF s w = true then none else tuF (who.drop (i + 1)) (s.set w.toNat true) (pts ++ [(w + 1, 0)])) = turnPts who := ht
    refine AWP.sR gok [0, 6, 7, 9, 12, 13, 14] (by apply aops_x (d := 16) (ag_n rfl) rfl (by (simp (disch := first | decide | omega) only [if_pos, nws, hw, go_sem, seval] <;> rfl)) rfl; apply aops_x (d := 17) (ag_n rfl) rfl (by first | (simp (disch := decide) only [hw, go_sem, seval] <;> rfl) | (simp (disch := first | decide | omega) only [if_pos, nws, hw, go_sem, seval] <;> rfl)) rfl; apply aops_as (t := 17) (d := 9) (ag_n rfl) rfl rfl (by first | (simp only [look_lay, look, seval] <;> rfl) | fail) rfl; apply aops_end; rfl) (by (simp (disch := omega) only [go_sem, seval, lay, nws]); rfl) ?_
    refine AWP.seq ?_
    refine AWP.sX gok [0, 6, 7, 9, 12, 13, 14, 28] (s2 := ⟨44, [(0, .c (.ptr 0 0 1 0)), (6, .c (.ptr 1 0 1 0)), (7, .c (.sl 2 0 pts.length 2)), (9, .c (ci .i64 w)), (12, .c (.rs (.i .i64) who)), (13, .c (ci .i64 (who.length : Int))), (14, .c (ci .i64 (i : Int))), (28, .c (cb (badF s w)))], [some (.ty FT [Tab]), some (.ty .bo s), some (.ty (.pr (.i .u8) (.i .u8)) pts)]⟩) (by ((by_cases h1 : w < 0; have h2 := h1; have h3 := h1; have h4 := h1; have h5 := h1; rotate_left; by_cases h2 : 200 ≤ w; have h3 := h1; have h4 := h1; have h5 := h1; rotate_left; (obtain ⟨x, rfl⟩ := Int.eq_ofNat_of_zero_le (by omega : 0 ≤ w)); (have h3 : x < 200 := by omega); (obtain ⟨b, h4⟩ : ∃ b, s[x]? = some b := ⟨_, List.getElem?_eq_getElem (by omega)⟩); (have h5 : ((x : Int)).toNat = x := by omega); rotate_left)) <;> refine ⟨_, (by apply aops_mv (t := 9) (d := 18) (ag_n rfl) rfl rfl (by first | (simp only [look_lay, look, seval] <;> rfl) | fail) rfl; apply aops_x (d := 19) (ag_n rfl) rfl (by (simp (disch := first | decide | omega) only [if_pos, nws, h1, h2, h3, h4, h5, badF, ge_iff_le, hs, Option.getD_some, go_sem, seval] <;> rfl)) rfl; apply aops_mv (t := 19) (d := 20) (ag_n rfl) rfl rfl (by first | (simp only [look_lay, look, seval] <;> rfl) | fail) rfl; (first | apply aops_mv (t := 9) (d := 21) (ag_b (j := 2) (d := 20) rfl rfl rfl (by first | (simp only [look_lay, look, seval] <;> rfl) | fail) (by first | rfl | (simp only [h1, h2, h3, h4, h5, badF, ge_iff_le, hs, Option.getD_some, decide_true, decide_false] <;> rfl) | fail)) rfl rfl (by first | (simp only [look_lay, look, seval] <;> rfl) | fail) rfl | apply aops_ps (d := 21) (by first | exact ag_f (j := 2) (d := 20) rfl rfl rfl (by first | (simp only [look_lay, look, seval] <;> rfl) | fail) (by first | rfl | (simp only [h1, h2, h3, h4, h5, badF, ge_iff_le, hs, Option.getD_some, decide_true, decide_false] <;> rfl) | fail) | exact ag_u (j := 2) (d := 20) rfl rfl rfl (by first | (simp only [look_lay, look, seval] <;> rfl) | fail) | fail) rfl rfl); (first | apply aops_x (d := 22) (ag_b (j := 2) (d := 20) rfl rfl rfl (by first | (simp only [look_lay, look, seval] <;> rfl) | fail) (by first | rfl | (simp only [h1, h2, h3, h4, h5, badF, ge_iff_le, hs, Option.getD_some, decide_true, decide_false] <;> rfl) | fail)) rfl (by (simp (disch := first | decide | omega) only [if_pos, nws, h1, h2, h3, h4, h5, badF, ge_iff_le, hs, Option.getD_some, go_sem, seval] <;> rfl)) rfl | apply aops_ps (d := 22) (by first | exact ag_f (j := 2) (d := 20) rfl rfl rfl (by first | (simp only [look_lay, look, seval] <;> rfl) | fail) (by first | rfl | (simp only [h1, h2, h3, h4, h5, badF, ge_iff_le, hs, Option.getD_some, decide_true, decide_false] <;> rfl) | fail) | exact ag_u (j := 2) (d := 20) rfl rfl rfl (by first | (simp only [look_lay, look, seval] <;> rfl) | fail) | fail) rfl rfl); apply aops_x (d := 23) (ag_n rfl) rfl (by (simp (disch := first | decide | omega) only [if_pos, nws, h1, h2, h3, h4, h5, badF, ge_iff_le, hs, Option.getD_some, go_sem, seval] <;> rfl)) rfl; apply aops_mv (t := 23) (d := 24) (ag_n rfl) rfl rfl (by first | (simp only [look_lay, look, seval] <;> rfl) | fail) rfl; (first | apply aops_mv (t := 9) (d := 25) (ag_b (j := 6) (d := 24) rfl rfl rfl (by first | (simp only [look_lay, look, seval] <;> rfl) | fail) (by first | rfl | (simp only [h1, h2, h3, h4, h5, badF, ge_iff_le, hs, Option.getD_some, decide_true, decide_false] <;> rfl) | fail)) rfl rfl (by first | (simp only [look_lay, look, seval] <;> rfl) | fail) rfl | apply aops_ps (d := 25) (by first | exact ag_f (j := 6) (d := 24) rfl rfl rfl (by first | (simp only [look_lay, look, seval] <;> rfl) | fail) (by first | rfl | (simp only [h1, h2, h3, h4, h5, badF, ge_iff_le, hs, Option.getD_some, decide_true, decide_false] <;> rfl) | fail) | exact ag_u (j := 6) (d := 24) rfl rfl rfl (by first | (simp only [look_lay, look, seval] <;> rfl) | fail) | fail) rfl rfl); (first | apply aops_x (d := 26) (ag_b (j := 6) (d := 24) rfl rfl rfl (by first | (simp only [look_lay, look, seval] <;> rfl) | fail) (by first | rfl | (simp only [h1, h2, h3, h4, h5, badF, ge_iff_le, hs, Option.getD_some, decide_true, decide_false] <;> rfl) | fail)) rfl (by (simp (disch := first | decide | omega) only [if_pos, nws, h1, h2, h3, h4, h5, badF, ge_iff_le, hs, Option.getD_some, go_sem, seval] <;> rfl)) rfl | apply aops_ps (d := 26) (by first | exact ag_f (j := 6) (d := 24) rfl rfl rfl (by first | (simp only [look_lay, look, seval] <;> rfl) | fail) (by first | rfl | (simp only [h1, h2, h3, h4, h5, badF, ge_iff_le, hs, Option.getD_some, decide_true, decide_false] <;> rfl) | fail) | exact ag_u (j := 6) (d := 24) rfl rfl rfl (by first | (simp only [look_lay, look, seval] <;> rfl) | fail) | fail) rfl rfl); (first | apply aops_x (d := 27) (ag_b (j := 6) (d := 24) rfl rfl rfl (by first | (simp only [look_lay, look, seval] <;> rfl) | fail) (by first | rfl | (simp only [h1, h2, h3, h4, h5, badF, ge_iff_le, hs, Option.getD_some, decide_true, decide_false] <;> rfl) | fail)) rfl (by (simp (disch := first | decide | omega) only [if_pos, nws, h1, h2, h3, h4, h5, badF, ge_iff_le, hs, Option.getD_some, go_sem, seval] <;> rfl)) rfl | apply aops_ps (d := 27) (by first | exact ag_f (j := 6) (d := 24) rfl rfl rfl (by first | (simp only [look_lay, look, seval] <;> rfl) | fail) (by first | rfl | (simp only [h1, h2, h3, h4, h5, badF, ge_iff_le, hs, Option.getD_some, decide_true, decide_false] <;> rfl) | fail) | exact ag_u (j := 6) (d := 24) rfl rfl rfl (by first | (simp only [look_lay, look, seval] <;> rfl) | fail) | fail) rfl rfl); apply aops_x (d := 28) (ag_n rfl) rfl (by (simp (disch := first | decide | omega) only [if_pos, nws, h1, h2, h3, h4, h5, badF, ge_iff_le, hs, Option.getD_some, go_sem, seval] <;> rfl)) rfl; apply aops_end; rfl), (by (simp (disch := omega) only [h1, h2, h3, h4, h5, badF, ge_iff_le, hs, Option.getD_some, go_sem, seval, lay, nws]) <;> rfl)⟩) ?_
    refine AWP.cond (b := _) rfl (fun h => ?_) (fun h => ?_) <;> (try simp only [decide_eq_true_eq, decide_eq_false_iff_not] at h)
    · skip
      refine AWP.sR gok [4, 5] (by apply aops_x (d := 4) (ag_n rfl) rfl (by first | (simp (disch := decide) only [go_sem, seval] <;> rfl) | (simp (disch := first | decide | omega) only [if_pos, nws, go_sem, seval] <;> rfl)) rfl; apply aops_x (d := 5) (ag_n rfl) rfl (by first | (simp (disch := decide) only [go_sem, seval] <;> rfl) | (simp (disch := first | decide | omega) only [if_pos, nws, go_sem, seval] <;> rfl)) rfl; apply aops_end; rfl) (by (simp (disch := omega) only [go_sem, seval, lay, nws]); rfl) ?_
      refine AWP.ghost (Ghost.nil 4 1 (.i .u8) rfl (by simp)) ?_
      refine AWP.ret ?_
      refine ⟨.inr rfl, _, (by simp only [go_sem, seval] <;> rfl), ?_⟩
      simp only [go_sem, seval, Option.some.injEq, AV.c.injEq, AV.agg.injEq, CV.v.injEq, Value.int.injEq, Value.bool.injEq, Row.raw.injEq, List.cons.injEq, CV.sl.injEq, and_true, true_and, and_self]
      rw [if_pos h] at ht
      have e1 : turnF who = [] := by unfold turnF; rw [← ht]
      have e2 : turnErr who = 1 := by unfold turnErr; rw [← ht]
      rw [e1, e2]; exact ⟨rfl, rfl⟩
    · skip
      refine AWP.skip ?_
      change AWP _ _ _ _ _
      rw [h, if_neg (by decide)] at ht
      obtain ⟨x, rfl, hx2, hsx⟩ := badF_false h
      have hwr : IntKind.u8.wrap ((x : Int) + 1) = (x : Int) + 1 := wrap_u8' (by omega) (by omega)
      refine AWP.sR gok [0, 6, 7, 9, 12, 13, 14] (by apply aops_mv (t := 9) (d := 29) (ag_n rfl) rfl rfl (by first | (simp only [look_lay, look, seval] <;> rfl) | fail) rfl; apply aops_x (d := 30) (ag_n rfl) rfl (by (simp (disch := first | decide | omega) only [if_pos, nws, hs, hx2, go_sem, seval] <;> rfl)) rfl; apply aops_s (ag_n rfl) rfl (by first | (simp (disch := decide) only [hs, hx2, go_sem, seval] <;> rfl) | (simp (disch := first | decide | omega) only [if_pos, nws, hs, hx2, go_sem, seval] <;> rfl)); apply aops_end; rfl) (by (simp (disch := omega) only [go_sem, seval, lay, nws]); rfl) ?_
      refine AWP.rT gok [0, 6, 7, 12, 13, 14] (by apply aops_mv (t := 7) (d := 31) (ag_n rfl) rfl rfl (by first | (simp only [look_lay, look, seval] <;> rfl) | fail) rfl; apply aops_mv (t := 9) (d := 32) (ag_n rfl) rfl rfl (by first | (simp only [look_lay, look, seval] <;> rfl) | fail) rfl; apply aops_x (d := 33) (ag_n rfl) rfl (by first | (simp (disch := decide) only [hwr, go_sem, seval] <;> rfl) | (simp (disch := first | decide | omega) only [if_pos, nws, hwr, go_sem, seval] <;> rfl)) rfl; apply aops_x (d := 34) (ag_n rfl) rfl (by first | (simp (disch := decide) only [hwr, go_sem, seval] <;> rfl) | (simp (disch := first | decide | omega) only [if_pos, nws, hwr, go_sem, seval] <;> rfl)) rfl; apply aops_x (d := 35) (ag_n rfl) rfl (by first | (simp (disch := decide) only [hwr, go_sem, seval] <;> rfl) | (simp (disch := first | decide | omega) only [if_pos, nws, hwr, go_sem, seval] <;> rfl)) rfl; apply aops_x (d := 36) (ag_n rfl) rfl (by (simp (disch := first | decide | omega) only [if_pos, nws, hwr, go_sem, seval] <;> rfl)) rfl; apply aops_x (d := 37) (ag_n rfl) rfl (by (simp (disch := first | decide | omega) only [if_pos, nws, hwr, go_sem, seval] <;> rfl)) rfl; apply aops_as (t := 37) (d := 7) (ag_n rfl) rfl rfl (by first | (simp only [look_lay, look, seval] <;> rfl) | fail) rfl; apply aops_end; rfl) (by (simp (disch := omega) only [go_sem, seval, lay, nws]); rfl) ?_
      change AWP _ _ _ _ _
      refine AWP.rT gok [0, 6, 7, 12, 13, 14] (by apply aops_x (d := 38) (ag_n rfl) rfl (by first | (simp (disch := decide) only [go_sem, seval] <;> rfl) | (simp (disch := first | decide | omega) only [if_pos, nws, go_sem, seval] <;> rfl)) rfl; apply aops_mv (t := 38) (d := 14) (ag_n rfl) rfl rfl (by first | (simp only [look_lay, look, seval] <;> rfl) | fail) rfl; apply aops_end; rfl) (by (simp (disch := omega) only [go_sem, seval, lay, nws]); rfl) ?_
      exact ⟨(i + 1, s.set x true, pts ++ [((x : Int) + 1, 0)]), Ghost.trans (Ghost.gc (ρ := [0, 1, 4]) (by simp only [go_sem, seval] <;> rfl) rfl rfl rfl) (Ghost.of_eq (by simp only [List.length_append, List.length_cons, List.length_nil, Int.natCast_add, Int.cast_ofNat_Int])), ⟨by simp only; omega, by simp only [List.length_set]; exact hs, ht, fun q hq => by
        rcases List.mem_append.1 hq with hq | hq
        · exact hp q hq
        · rw [List.mem_singleton.1 hq]; exact ⟨⟨by simp only; omega, by simp only; omega⟩, (by decide : byteOk 0)⟩, by simp only [List.length_append, List.length_cons, List.length_nil, hpl]⟩, by simp only; omega⟩
  · skip
    refine AWP.exit ?_
    change AWP _ _ _ _ _
    have hpl2 : pts.length ≤ 100000 := by omega
    refine AWP.sR gok [4, 5] (by apply aops_mv (t := 0) (d := 39) (ag_n rfl) rfl rfl (by first | (simp only [look_lay, look, seval] <;> rfl) | fail) rfl; apply aops_mv (t := 7) (d := 40) (ag_n rfl) rfl rfl (by first | (simp only [look_lay, look, seval] <;> rfl) | fail) rfl; apply aops_x (d := 41) (ag_n rfl) rfl (by (simp (disch := first | decide | omega) only [if_pos, nws, hp, hpl2, go_sem, seval] <;> rfl)) rfl; apply aops_x (d := 42) (ag_n rfl) rfl (by first | (simp (disch := decide) only [hp, hpl2, go_sem, seval] <;> rfl) | (simp (disch := first | decide | omega) only [if_pos, nws, hp, hpl2, go_sem, seval] <;> rfl)) rfl; apply aops_x (d := 43) (ag_n rfl) rfl (by first | (simp (disch := decide) only [hp, hpl2, go_sem, seval] <;> rfl) | (simp (disch := first | decide | omega) only [if_pos, nws, hp, hpl2, go_sem, seval] <;> rfl)) rfl; apply aops_as (t := 42) (d := 4) (ag_n rfl) rfl rfl (by first | (simp only [look_lay, look, seval] <;> rfl) | fail) rfl; apply aops_as (t := 43) (d := 5) (ag_n rfl) rfl rfl (by first | (simp only [look_lay, look, seval] <;> rfl) | fail) rfl; apply aops_end; rfl) (by (simp (disch := omega) only [go_sem, seval, lay, nws]); rfl) ?_
    refine AWP.ret ?_
    refine ⟨.inr rfl, _, (by simp only [go_sem, seval] <;> rfl), ?_⟩
    simp only [go_sem, seval, Option.some.injEq, AV.c.injEq, AV.agg.injEq, CV.v.injEq, Value.int.injEq, Value.bool.injEq, Row.raw.injEq, List.cons.injEq, CV.sl.injEq, and_true, true_and, and_self]
    have ei : i = who.length := by omega
    subst ei
    rw [List.drop_length] at ht
    have ht : some pts = turnPts who := ht
    have e1 : turnF who = thruF pts := by unfold turnF; rw [← ht]
    have e2 : turnErr who = if twiceF pts = true then 1 else 0 := by unfold turnErr; rw [← ht]
    rw [e1, e2]; exact ⟨rfl, rfl⟩
def E19 : Entry := withE FT [.sl (.i .i64)] (fun l d => l = [Tab] ∧ d.1.length ≤ 1000) (fun l d => .tup [.c (.sl 1 0 (turnF d.1).length 1), .c (ci .i64 (turnErr d.1))]) (fun _ d => [some (.ty (.i .u8) (turnF d.1))])
theorem E19_ok : EntryOk Try.prog 19 E19 := withE_ok rfl (fun _ _ => rfl) (fun _ _ => rfl) fun l d hc => by
  obtain ⟨rfl, h1⟩ := hc
  exact turn_c d.1 h1
attribute [go_sem] E19
end Go.Proofs.Ytggomleegbnhbaa
