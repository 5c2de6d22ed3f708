import Derived.Test.YtcnoooodnmjdmaaOd9
set_option linter.unusedSimpArgs false
set_option linter.unusedVariables false
namespace Go.Proofs.Ytcnoooodnmjdmaa
open Go.RowKit Sorts
/-! The places that are picked. -/
set_option maxRecDepth 100000
abbrev pRows (hs : List Hd) (S : Sq) (ps out : List Int) : Hp := [some (.raw [.rs HT hs]), some (.raw [.rs HT hs, .sl 2 0 S.1.length 1, ci .i64 S.2.1, .sl 3 0 S.2.2.length 1]), some (.ty UT S.1), some (.ty .bo S.2.2), some (.ty IT ps), some (.ty IT out)]
abbrev c9 (hs : (List (Ty.D HT))) (ns : (List Int)) (room : Int) : Prop := (hs.length ≤ 100000 ∧ ns.length ≤ 100000) ∧ (-9223372036854775808 ≤ room ∧ room < 9223372036854775808) ∧ hsOk hs
abbrev r9 (hs : (List (Ty.D HT))) (ns : (List Int)) (room : Int) : AV := .c (.sl 0 0 (pickF hs ns room).length 1)
abbrev L9 (hs : (List (Ty.D HT))) (ns : (List Int)) (room : Int) : Hp := [some (.ty (.i .i64) (pickF hs ns room))]
def E9 : Entry := pureN [(.sl HT), (.sl (.i .u64)), (.i .i64)] (fun d => c9 d.1 d.2.1 d.2.2.1) (fun d => r9 d.1 d.2.1 d.2.2.1) (fun d => L9 d.1 d.2.1 d.2.2.1)
set_option maxRecDepth 100000 in
set_option maxHeartbeats 4000000 in
theorem K9 (hs : (List (Ty.D HT))) (ns : (List Int)) (room : Int) (hc : c9 hs ns room) : CallOk Try.prog 9 [.c (.rs HT hs), .c (.rs (.i .u64) ns), .c (ci .i64 room)] [] (r9 hs ns room) (L9 hs ns room) := by
  have hc : (hs.length ≤ 100000 ∧ ns.length ≤ 100000) ∧ (-9223372036854775808 ≤ room ∧ room < 9223372036854775808) ∧ hsOk hs := hc
  obtain ⟨⟨l1, l2⟩, hr, hh⟩ := hc
  have hroom1 := hr.1; have hroom2 := hr.2
  have hsl : (sorted hs).length = hs.length := by rw [sortF_len, iota_len]
  have hsi : ∀ x ∈ sorted hs, inH hs x := fun x hx => iota_in hs x (sortF_mem.1 hx)
  have gok := (Gam.cons_ok E14_ok (Gam.cons_ok Emay_ok (Gam.cons_ok Ecome_ok (Gam.cons_ok (Ess_ok ltH_weak) (Gam.nil_ok _)))))
  refine callOk' Try.func9 51 [.tmp 6] _ rfl rfl rfl (by kernel_rfl) (by simp) [5] rfl rfl (by simp) ?_
  simp only [params]
  refine AWP.sR gok [1, 2, 3] (by apply aops_x (d := 3) (ag_n rfl) rfl (by first | (simp (disch := decide) only [go_sem, seval] <;> rfl) | (simp (disch := first | decide | omega) only [if_pos, nws, go_sem, seval] <;> rfl)) rfl; apply aops_x (d := 6) (ag_n rfl) rfl (by first | (simp (disch := decide) only [go_sem, seval] <;> rfl) | (simp (disch := first | decide | omega) only [if_pos, nws, go_sem, seval] <;> rfl)) rfl; apply aops_end; rfl) (by (simp (disch := omega) only [go_sem, seval, lay, nws]); rfl) ?_
  refine AWP.scopeP 0 (fun (p : List Int × Sq × Nat) => ⟨51, [(7, .c (.ptr 1 0 1 0)), (8, .c (.sl 4 0 hs.length 1)), (10, .c (.sl 5 0 p.1.length 1))], pRows hs p.2.1 (sorted hs) p.1⟩) (fun p => SOk hs p.2.1 ∧ wait p.2.1 < p.2.2 ∧ p.1 ++ pickN hs (sorted hs) p.2.2 p.2.1 = pickF hs ns room) (fun p => wait p.2.1) rfl ?_ ?_
  · skip
    rintro ⟨out, S, f⟩ ⟨i1, i2, i3⟩
    simp only at i1 i2 i3 ⊢
    obtain ⟨hl, hrm1, hrm2⟩ := id i1
    obtain ⟨g, rfl⟩ : ∃ g, f = g + 1 := ⟨f - 1, by omega⟩
    refine AWP.seq ?_
    refine AWP.sR gok [7, 8, 10, 33, 34, 35] (by apply aops_mv (t := 8) (d := 33) (ag_n rfl) rfl rfl (by first | (simp only [look_lay, look, seval] <;> rfl) | fail) rfl; apply aops_x (d := 34) (ag_n rfl) rfl (by first | (simp (disch := decide) only [go_sem, seval] <;> rfl) | (simp (disch := first | decide | omega) only [if_pos, nws, go_sem, seval] <;> rfl)) rfl; apply aops_x (d := 35) (ag_n rfl) rfl (by first | (simp (disch := decide) only [go_sem, seval] <;> rfl) | (simp (disch := first | decide | omega) only [if_pos, nws, go_sem, seval] <;> rfl)) rfl; apply aops_end; rfl) (by (simp (disch := omega) only [go_sem, seval, lay, nws]); rfl) ?_
    refine AWP.block ?_
    refine AWP.loopP (fun (p : Nat) => ⟨51, [(7, .c (.ptr 1 0 1 0)), (8, .c (.sl 4 0 hs.length 1)), (10, .c (.sl 5 0 out.length 1)), (33, .c (.sl 4 0 hs.length 1)), (34, .c (ci .i64 (hs.length : Int))), (35, .c (ci .i64 (p : Int)))], pRows hs S (sorted hs) out⟩) (fun p => p ≤ hs.length ∧ ∀ (j : Nat) (b : Int), j < p → (sorted hs)[j]? = some b → mayF hs S b = false) (fun p => hs.length - p) 0 (Ghost.refl _ _) ⟨Nat.zero_le _, fun j b hj => absurd hj (Nat.not_lt_zero _)⟩ ?_
    rintro k ⟨k1, k2⟩
    refine AWP.sR gok [7, 8, 10, 33, 34, 35, 36] (by apply aops_x (d := 36) (ag_n rfl) rfl (by first | (simp (disch := decide) only [go_sem, seval] <;> rfl) | (simp (disch := first | decide | omega) only [if_pos, nws, go_sem, seval] <;> rfl)) rfl; apply aops_end; rfl) (by (simp (disch := omega) only [go_sem, seval, lay, nws]); rfl) ?_
    refine AWP.seq ?_
    refine AWP.cond (b := _) rfl (fun h => ?_) (fun h => ?_) <;> (try simp only [decide_eq_true_eq, decide_eq_false_iff_not] at h)
    · skip
      refine AWP.skip ?_
      change AWP _ _ _ _ _
      refine AWP.seqBlock ?_
      obtain ⟨a, ha⟩ : ∃ a, (sorted hs)[k]? = some a := ⟨_, List.getElem?_eq_getElem (by omega)⟩
      refine AWP.sR gok [7, 8, 10, 12, 33, 34, 35] (by apply aops_x (d := 37) (ag_n rfl) rfl (by (simp (disch := first | decide | omega) only [if_pos, nws, ha, hsl, go_sem, seval] <;> rfl)) rfl; apply aops_x (d := 38) (ag_n rfl) rfl (by first | (simp (disch := decide) only [ha, hsl, go_sem, seval] <;> rfl) | (simp (disch := first | decide | omega) only [if_pos, nws, ha, hsl, go_sem, seval] <;> rfl)) rfl; apply aops_as (t := 38) (d := 12) (ag_n rfl) rfl rfl (by first | (simp only [look_lay, look, seval] <;> rfl) | fail) rfl; apply aops_end; rfl) (by (simp (disch := omega) only [go_sem, seval, lay, nws]); rfl) ?_
      refine AWP.sR gok [7, 8, 10, 12, 33, 34, 35, 41] (by apply aops_mv (t := 7) (d := 39) (ag_n rfl) rfl rfl (by first | (simp only [look_lay, look, seval] <;> rfl) | fail) rfl; apply aops_mv (t := 12) (d := 40) (ag_n rfl) rfl rfl (by first | (simp only [look_lay, look, seval] <;> rfl) | fail) rfl; apply aops_x (d := 41) (ag_n rfl) rfl (by (simp (disch := first | decide | omega) only [if_pos, nws, hl, go_sem, seval] <;> rfl)) rfl; apply aops_end; rfl) (by (simp (disch := omega) only [go_sem, seval, lay, nws]); rfl) ?_
      refine AWP.cond (b := _) rfl (fun h => ?_) (fun h => ?_) <;> (try simp only [decide_eq_true_eq, decide_eq_false_iff_not] at h)
      · skip
        have hm : mayF hs S a = true := h
        refine AWP.sR gok [7, 8, 10, 12] (by apply aops_mv (t := 7) (d := 42) (ag_n rfl) rfl rfl (by first | (simp only [look_lay, look, seval] <;> rfl) | fail) rfl; apply aops_mv (t := 12) (d := 43) (ag_n rfl) rfl rfl (by first | (simp only [look_lay, look, seval] <;> rfl) | fail) rfl; apply aops_x (d := 44) (ag_n rfl) rfl (by (simp (disch := first | decide | omega) only [if_pos, nws, hl, hrm1, hrm2, hm, go_sem, seval] <;> rfl)) rfl; apply aops_end; rfl) (by (simp (disch := omega) only [go_sem, seval, lay, nws]); rfl) ?_
        have hol := pick_len hs (sorted hs) (g + 1) S
        have hpl : out.length ≤ 100001 := by
          have h1 : (out ++ pickN hs (sorted hs) (g + 1) S).length = (pickF hs ns room).length := by rw [i3]
          have h2 := pick_len hs (sorted hs) (hs.length + 1) (S0 hs ns room)
          rw [wait_0] at h2
          rw [List.length_append] at h1
          have h3 : (pickF hs ns room).length ≤ hs.length := h2
          omega
        refine AWP.sR gok [7, 8, 10] (by apply aops_mv (t := 10) (d := 45) (ag_n rfl) rfl rfl (by first | (simp only [look_lay, look, seval] <;> rfl) | fail) rfl; apply aops_mv (t := 12) (d := 46) (ag_n rfl) rfl rfl (by first | (simp only [look_lay, look, seval] <;> rfl) | fail) rfl; apply aops_x (d := 47) (ag_n rfl) rfl (by (simp (disch := first | decide | omega) only [if_pos, nws, hpl, go_sem, seval] <;> rfl)) rfl; apply aops_x (d := 48) (ag_n rfl) rfl (by (simp (disch := first | decide | omega) only [if_pos, nws, hpl, go_sem, seval] <;> rfl)) rfl; apply aops_as (t := 48) (d := 10) (ag_n rfl) rfl rfl (by first | (simp only [look_lay, look, seval] <;> rfl) | fail) rfl; apply aops_end; rfl) (by (simp (disch := omega) only [go_sem, seval, lay, nws]); rfl) ?_
        refine AWP.goto ?_
        have hf := find_of ha hm k2
        have hpk : pickN hs (sorted hs) (g + 1) S = a :: pickN hs (sorted hs) g (comeF hs S a) := by
          show (match (sorted hs).find? (fun a => mayF hs S a) with | some a => a :: pickN hs (sorted hs) g (comeF hs S a) | none => []) = _
          rw [hf]
        have hw := wait_come hm
        exact ⟨rfl, (out ++ [a], comeF hs S a, g), (Ghost.trans (Ghost.trim _ [7, 8, 10] _) (Ghost.trans (Ghost.gc (ρ := [0, 1, 2, 3, 4, 7]) (by simp only [go_sem, seval] <;> rfl) rfl rfl rfl) (Ghost.of_eq (by first | rfl | (simp only [List.length_append, List.length_cons, List.length_nil, Nat.zero_add] <;> rfl))))), ⟨come_ok i1 hm, by simp only; omega, by simp only; rw [← i3, hpk, List.append_assoc]; rfl⟩, by simp only; omega⟩
      · skip
        refine AWP.skip ?_
        change AWP _ _ _ _ _
        refine AWP.rT gok [7, 8, 10, 33, 34, 35] (by apply aops_x (d := 49) (ag_n rfl) rfl (by first | (simp (disch := decide) only [go_sem, seval] <;> rfl) | (simp (disch := first | decide | omega) only [if_pos, nws, go_sem, seval] <;> rfl)) rfl; apply aops_mv (t := 49) (d := 35) (ag_n rfl) rfl rfl (by first | (simp only [look_lay, look, seval] <;> rfl) | fail) rfl; apply aops_end; rfl) (by (simp (disch := omega) only [go_sem, seval, lay, nws]); rfl) ?_
        exact ⟨k + 1, Ghost.of_eq (by simp only [pRows, hl, Int.natCast_add, Int.cast_ofNat_Int] <;> rfl), ⟨by omega, fun j b hj hb => by
          by_cases hjk : j = k
          · rw [hjk, ha] at hb; cases hb; exact h
          · exact k2 j b (by omega) hb⟩, by omega⟩
    · skip
      refine AWP.exit ?_
      change AWP _ _ _ _ _
      refine AWP.sR gok [6] (by apply aops_mv (t := 10) (d := 50) (ag_n rfl) rfl rfl (by first | (simp only [look_lay, look, seval] <;> rfl) | fail) rfl; apply aops_as (t := 50) (d := 6) (ag_n rfl) rfl rfl (by first | (simp only [look_lay, look, seval] <;> rfl) | fail) rfl; apply aops_end; rfl) (by (simp (disch := omega) only [go_sem, seval, lay, nws]); rfl) ?_
      refine AWP.ret ?_
      refine ⟨.inr rfl, _, (by simp only [go_sem, seval] <;> rfl), ?_⟩
      simp only [go_sem, seval, Option.some.injEq, AV.c.injEq, AV.agg.injEq, CV.v.injEq, Value.int.injEq, Value.bool.injEq, Row.raw.injEq, List.cons.injEq, CV.sl.injEq, and_true, true_and, and_self]
      have hf := find_none (p := fun a => mayF hs S a) (ps := sorted hs) (fun j b hb => k2 j b (by have := (List.getElem?_eq_some_iff.1 hb).1; omega) hb)
      have hpk : pickN hs (sorted hs) (g + 1) S = [] := by
        show (match (sorted hs).find? (fun a => mayF hs S a) with | some a => a :: pickN hs (sorted hs) g (comeF hs S a) | none => []) = _
        rw [hf]
      rw [hpk, List.append_nil] at i3
      rw [← i3]; exact ⟨rfl, rfl⟩
  · intro hpass
    refine AWP.sR gok [3, 7] (by apply aops_x (d := 13) (ag_n rfl) rfl (by first | (simp (disch := decide) only [l1, l2, go_sem, seval] <;> rfl) | (simp (disch := first | decide | omega) only [if_pos, nws, l1, l2, go_sem, seval] <;> rfl)) rfl; apply aops_mv (t := 1) (d := 14) (ag_n rfl) rfl rfl (by first | (simp only [look_lay, look, seval] <;> rfl) | fail) rfl; apply aops_mv (t := 2) (d := 15) (ag_n rfl) rfl rfl (by first | (simp only [look_lay, look, seval] <;> rfl) | fail) rfl; apply aops_x (d := 16) (ag_n rfl) rfl (by (simp (disch := first | decide | omega) only [if_pos, nws, l1, l2, go_sem, seval] <;> rfl)) rfl; apply aops_as (t := 16) (d := 7) (ag_n rfl) rfl rfl (by first | (simp only [look_lay, look, seval] <;> rfl) | fail) rfl; apply aops_end; rfl) (by (simp (disch := omega) only [go_sem, seval, lay, nws]); rfl) ?_
    refine AWP.sR gok [3, 7, 8] (by apply aops_x (d := 17) (ag_n rfl) rfl (by first | (simp (disch := decide) only [go_sem, seval] <;> rfl) | (simp (disch := first | decide | omega) only [if_pos, nws, go_sem, seval] <;> rfl)) rfl; apply aops_x (d := 18) (ag_n rfl) rfl (by first | (simp (disch := decide) only [go_sem, seval] <;> rfl) | (simp (disch := first | decide | omega) only [if_pos, nws, go_sem, seval] <;> rfl)) rfl; apply aops_x (d := 19) (ag_n rfl) rfl (by (simp (disch := first | decide | omega) only [if_pos, nws, go_sem, seval] <;> rfl)) rfl; apply aops_as (t := 19) (d := 8) (ag_n rfl) rfl rfl (by first | (simp only [look_lay, look, seval] <;> rfl) | fail) rfl; apply aops_end; rfl) (by (simp (disch := omega) only [go_sem, seval, lay, nws]); rfl) ?_
    refine AWP.seq ?_
    refine AWP.sR gok [3, 7, 8, 21, 22] (by apply aops_mv (t := 8) (d := 20) (ag_n rfl) rfl rfl (by first | (simp only [look_lay, look, seval] <;> rfl) | fail) rfl; apply aops_x (d := 21) (ag_n rfl) rfl (by first | (simp (disch := decide) only [go_sem, seval] <;> rfl) | (simp (disch := first | decide | omega) only [if_pos, nws, go_sem, seval] <;> rfl)) rfl; apply aops_x (d := 22) (ag_n rfl) rfl (by first | (simp (disch := decide) only [go_sem, seval] <;> rfl) | (simp (disch := first | decide | omega) only [if_pos, nws, go_sem, seval] <;> rfl)) rfl; apply aops_end; rfl) (by (simp (disch := omega) only [go_sem, seval, lay, nws]); rfl) ?_
    refine AWP.block ?_
    refine AWP.loopP (fun (p : Nat) => ⟨51, [(3, .c (.ptr 0 0 1 0)), (7, .c (.ptr 1 0 1 0)), (8, .c (.sl 4 0 hs.length 1)), (21, .c (ci .i64 (hs.length : Int))), (22, .c (ci .i64 (p : Int)))], [some (.raw [.rs HT hs]), some (.raw [.rs HT hs, .sl 2 0 ns.length 1, ci .i64 room, .sl 3 0 hs.length 1]), some (.ty UT ns), some (.ty .bo (List.replicate hs.length false)), some (.ty IT (lays hs.length p))]⟩) (fun p => p ≤ hs.length) (fun p => hs.length - p) 0 (Ghost.of_eq (by rw [lays_zero] <;> rfl)) (Nat.zero_le _) ?_
    rintro i hi
    refine AWP.sR gok [3, 7, 8, 21, 22, 23] (by apply aops_x (d := 23) (ag_n rfl) rfl (by first | (simp (disch := decide) only [go_sem, seval] <;> rfl) | (simp (disch := first | decide | omega) only [if_pos, nws, go_sem, seval] <;> rfl)) rfl; apply aops_end; rfl) (by (simp (disch := omega) only [go_sem, seval, lay, nws]); rfl) ?_
    refine AWP.seq ?_
    refine AWP.cond (b := _) rfl (fun h => ?_) (fun h => ?_) <;> (try simp only [decide_eq_true_eq, decide_eq_false_iff_not] at h)
    · skip
      refine AWP.skip ?_
      change AWP _ _ _ _ _
      refine AWP.seqBlock ?_
      refine AWP.sR gok [3, 7, 8, 9, 21, 22] (by apply aops_mv (t := 22) (d := 24) (ag_n rfl) rfl rfl (by first | (simp only [look_lay, look, seval] <;> rfl) | fail) rfl; apply aops_as (t := 24) (d := 9) (ag_n rfl) rfl rfl (by first | (simp only [look_lay, look, seval] <;> rfl) | fail) rfl; apply aops_end; rfl) (by (simp (disch := omega) only [go_sem, seval, lay, nws]); rfl) ?_
      have hil : i < hs.length := by omega
      have hll := lays_len hs.length i hi
      have hset := lays_set hil
      obtain ⟨u, hu⟩ : ∃ u, (lays hs.length i)[i]? = some u := ⟨_, List.getElem?_eq_getElem (by omega)⟩
      refine AWP.rT gok [3, 7, 8, 21, 22] (by apply aops_mv (t := 8) (d := 25) (ag_n rfl) rfl rfl (by first | (simp only [look_lay, look, seval] <;> rfl) | fail) rfl; apply aops_mv (t := 9) (d := 26) (ag_n rfl) rfl rfl (by first | (simp only [look_lay, look, seval] <;> rfl) | fail) rfl; apply aops_mv (t := 9) (d := 27) (ag_n rfl) rfl rfl (by first | (simp only [look_lay, look, seval] <;> rfl) | fail) rfl; apply aops_x (d := 28) (ag_n rfl) rfl (by (simp (disch := first | decide | omega) only [if_pos, nws, hu, hset, hll, go_sem, seval] <;> rfl)) rfl; apply aops_s (ag_n rfl) rfl (by first | (simp (disch := decide) only [hu, hset, hll, go_sem, seval] <;> rfl) | (simp (disch := first | decide | omega) only [if_pos, nws, hu, hset, hll, go_sem, seval] <;> rfl)); apply aops_end; rfl) (by (simp (disch := omega) only [go_sem, seval, lay, nws]); rfl) ?_
      change AWP _ _ _ _ _
      refine AWP.rT gok [3, 7, 8, 21, 22] (by apply aops_x (d := 29) (ag_n rfl) rfl (by first | (simp (disch := decide) only [go_sem, seval] <;> rfl) | (simp (disch := first | decide | omega) only [if_pos, nws, go_sem, seval] <;> rfl)) rfl; apply aops_mv (t := 29) (d := 22) (ag_n rfl) rfl rfl (by first | (simp only [look_lay, look, seval] <;> rfl) | fail) rfl; apply aops_end; rfl) (by (simp (disch := omega) only [go_sem, seval, lay, nws]); rfl) ?_
      exact ⟨i + 1, Ghost.of_eq (by simp only [Int.natCast_add, Int.cast_ofNat_Int] <;> rfl), by omega, by omega⟩
    · skip
      refine AWP.exit ?_
      change AWP _ _ _ _ _
      obtain rfl : i = hs.length := by omega
      rw [lays_all]
      have hc : cSs (iota hs.length) hs [] := ⟨by rw [iota_len]; exact l1, hh, iota_in hs⟩
      have hil := iota_len hs.length
      refine AWP.sR gok [7, 8] (by apply aops_mv (t := 8) (d := 30) (ag_n rfl) rfl rfl (by first | (simp only [look_lay, look, seval] <;> rfl) | fail) rfl; apply aops_x (d := 31) (ag_n rfl) rfl (by first | (simp (disch := decide) only [hc, hil, go_sem, seval] <;> rfl) | (simp (disch := first | decide | omega) only [if_pos, nws, hc, hil, go_sem, seval] <;> rfl)) rfl; apply aops_x (d := 32) (ag_n rfl) rfl (by (simp (disch := first | decide | omega) only [if_pos, nws, hc, hil, go_sem, seval] <;> rfl)) rfl; apply aops_end; rfl) (by (simp (disch := omega) only [go_sem, seval, lay, nws]); rfl) ?_
      refine AWP.sR gok [7, 8, 10] (by apply aops_x (d := 10) (ag_n rfl) rfl (by first | (simp (disch := decide) only [go_sem, seval] <;> rfl) | (simp (disch := first | decide | omega) only [if_pos, nws, go_sem, seval] <;> rfl)) rfl; apply aops_end; rfl) (by (simp (disch := omega) only [go_sem, seval, lay, nws]); rfl) ?_
      refine AWP.seqLabel ?_
      exact hpass ([], S0 hs ns room, hs.length + 1) _ (Ghost.trans (Ghost.nil 10 1 (.i .i64) rfl (by simp)) (Ghost.of_eq (by simp only [pRows, S0, List.length_replicate]; (simp (disch := omega) only [go_sem, seval, lay, nws]) <;> rfl))) ⟨S0_ok hs ns hr, by simp only [wait_0]; omega, rfl⟩
theorem E9_ok : EntryOk Try.prog 9 E9 := pureN_ok (fun d hc => K9 d.1 d.2.1 d.2.2.1 hc) (fun _ => rfl) (fun _ => rfl)
attribute [go_sem] E9 c9 r9 L9
end Go.Proofs.Ytcnoooodnmjdmaa
