import Derived.Test.YtggomleegbnhbaaDoorBl2
import Derived.Test.YtggomleegbnhbaaDoorTab
set_option linter.unusedSimpArgs false
set_option linter.unusedVariables false
namespace Go.Proofs.YtggomleegbnhbaaDoor
open Go.RowKit
set_option maxRecDepth 1000000
def Dv := (0 : Int)
theorem exp_lt {i : Nat} (h : i < 510) : i < expT.length := by rw [exp_len]; exact h
theorem log_lt {i : Nat} (h : i < 256) : i < logT.length := by rw [log_len]; exact h
abbrev lg (a : Nat) : Nat := ((logT[a]?).getD 0).toNat
theorem lg_at {a : Nat} (h : a < 256) : logT[a]? = some ((lg a : Nat) : Int) ∧ lg a ≤ 254 := by
  have h1 := List.getElem?_eq_getElem (log_lt h)
  have h2 := log_ok _ (List.getElem_mem (log_lt h))
  unfold lg
  rw [h1]
  simp only [Option.getD_some]
  exact ⟨by rw [Int.toNat_of_nonneg h2.1], by omega⟩
abbrev ex (i : Nat) : Int := (expT[i]?).getD 0
theorem ex_at {i : Nat} (h : i < 510) : expT[i]? = some (ex i) ∧ 0 ≤ ex i ∧ ex i < 256 := by
  have h1 := List.getElem?_eq_getElem (exp_lt h)
  have h2 := exp_ok _ (List.getElem_mem (exp_lt h))
  unfold ex
  rw [h1]
  exact ⟨rfl, h2⟩
/-- A product, by the tables. -/
def mulN (a b : Nat) : Int := if a = 0 ∨ b = 0 then 0 else ex (lg a + lg b)
def mulT (a b : Int) : Int := mulN a.toNat b.toNat
def divN (a b : Nat) : Int := if b = 0 ∨ a = 0 then 0 else ex (lg a + 255 - lg b)
def divT (a b : Int) : Int := divN a.toNat b.toNat
theorem mulN_ok {a b : Nat} (ha : a < 256) (hb : b < 256) : 0 ≤ mulN a b ∧ mulN a b < 256 := by
  unfold mulN
  split
  · exact ⟨by omega, by omega⟩
  · exact (ex_at (by have := (lg_at ha).2; have := (lg_at hb).2; omega)).2
theorem new_c : CallOk Tryd.prog 12 [] [] (.c (.ptr 0 0 1 0)) [some (.ty FT [Tab])] := by
  rw [← tabs_all]
  refine callOk' Tryd.func12 40 [.tmp 0] _ rfl rfl rfl (by kernel_rfl) (by simp) [0] rfl rfl (by simp) ?_
  simp only [params]
  refine AWP.sR (Gam.nil_ok _) [] (by apply aops_x (d := 0) (ag_n rfl) rfl (by first | (simp (disch := decide) only [go_sem, seval] <;> rfl) | (simp (disch := first | decide | omega) only [if_pos, nws, go_sem, seval] <;> rfl)) rfl; apply aops_end; rfl) (by (simp (disch := omega) only [go_sem, seval, lay, nws]); rfl) ?_
  refine AWP.sR (Gam.nil_ok _) [1] (by apply aops_x (d := 4) (ag_n rfl) rfl (by first | (simp (disch := decide) only [go_sem, seval] <;> rfl) | (simp (disch := first | decide | omega) only [if_pos, nws, go_sem, seval] <;> rfl)) rfl; apply aops_x (d := 5) (ag_n rfl) rfl (by first | (simp (disch := decide) only [go_sem, seval] <;> rfl) | (simp (disch := first | decide | omega) only [if_pos, nws, go_sem, seval] <;> rfl)) rfl; apply aops_as (t := 5) (d := 1) (ag_n rfl) rfl rfl (by first | (simp only [look_lay, look, seval] <;> rfl) | fail) rfl; apply aops_end; rfl) (by (simp (disch := omega) only [go_sem, seval, lay, nws]); rfl) ?_
  refine AWP.sR (Gam.nil_ok _) [1, 2] (by apply aops_x (d := 2) (ag_n rfl) rfl (by first | (simp (disch := decide) only [go_sem, seval] <;> rfl) | (simp (disch := first | decide | omega) only [if_pos, nws, go_sem, seval] <;> rfl)) rfl; apply aops_end; rfl) (by (simp (disch := omega) only [go_sem, seval, lay, nws]); rfl) ?_
  refine AWP.seq ?_
  refine AWP.sR (Gam.nil_ok _) [1, 2, 6] (by apply aops_x (d := 6) (ag_n rfl) rfl (by first | (simp (disch := decide) only [go_sem, seval] <;> rfl) | (simp (disch := first | decide | omega) only [if_pos, nws, go_sem, seval] <;> rfl)) rfl; apply aops_end; rfl) (by (simp (disch := omega) only [go_sem, seval, lay, nws]); rfl) ?_
  refine AWP.block ?_
  refine AWP.loopP (fun (p : Nat) => ⟨40, [(1, .c (.ptr 0 0 1 0)), (2, .c (ci .i64 (pw p))), (6, .c (ci .i64 (p : Int)))], [some (.ty FT [tabs p])]⟩) (fun p => p ≤ 255) (fun p => 255 - p) 0 (Ghost.trans (Ghost.typed 0 FT (xs := [tabs 0]) rfl (by kernel_rfl)) (Ghost.of_eq rfl)) (Nat.zero_le _) ?_
  rintro n hn
  refine AWP.sR (Gam.nil_ok _) [1, 2, 6, 7] (by apply aops_x (d := 7) (ag_n rfl) rfl (by first | (simp (disch := decide) only [go_sem, seval] <;> rfl) | (simp (disch := first | decide | omega) only [if_pos, nws, go_sem, seval] <;> rfl)) rfl; apply aops_end; rfl) (by (simp (disch := omega) only [go_sem, seval, lay, nws]); rfl) ?_
  refine AWP.seq ?_
  refine AWP.cond (b := _) rfl (fun h => ?_) (fun h => ?_) <;> (try simp only [decide_eq_true_eq, decide_eq_false_iff_not] at h)
  · skip
    refine AWP.skip ?_
    change AWP _ _ _ _ _
    refine AWP.seqBlock ?_
    have hn' : n < 255 := by omega
    obtain ⟨x, hx⟩ : ∃ x : Nat, pw n = (x : Int) := Int.eq_ofNat_of_zero_le (by have := pw_ok ⟨n, hn'⟩; exact Int.le_trans (by omega) this.1)
    have hx1 : 1 ≤ x ∧ x < 256 := by have := pw_ok ⟨n, hn'⟩; simp only [hx] at this; omega
    obtain ⟨t1, t2⟩ := tabs_len n
    have p1 := put_exp (T := tabs n) (i := n) (v := (x : Int)) (by omega) (by omega)
    have p2 := put_exp (T := ((tabs n).1.set n (x : Int), (tabs n).2)) (i := n + 255) (v := (x : Int)) (by omega) (by simp only [List.length_set]; omega)
    have p3 := put_log (T := (((tabs n).1.set n (x : Int)).set (n + 255) (x : Int), (tabs n).2)) (i := x) (v := (n : Int)) (by show x < (tabs n).2.length; omega)
    simp only at p2 p3
    have et : ((n : Int) + 255).toNat = n + 255 := by omega
    refine AWP.sR (Gam.nil_ok _) [1, 2, 3, 6] (by apply aops_mv (t := 6) (d := 8) (ag_n rfl) rfl rfl (by first | (simp only [look_lay, look, seval] <;> rfl) | fail) rfl; apply aops_as (t := 8) (d := 3) (ag_n rfl) rfl rfl (by first | (simp only [look_lay, look, seval] <;> rfl) | fail) rfl; apply aops_end; rfl) (by (simp (disch := omega) only [go_sem, seval, lay, nws]); rfl) ?_
    refine AWP.sD (Gam.nil_ok _) (by kernel_rfl) [1, 2, 3, 6] [⟨[], true, 0⟩, ⟨[], true, 0⟩, ⟨[], true, 0⟩, ⟨[], true, 0⟩, ⟨[], true, 0⟩, ⟨[], true, 0⟩, ⟨[], true, 0⟩, ⟨[], true, 0⟩, ⟨[], true, 0⟩, ⟨[], true, 0⟩, ⟨[], true, 0⟩, ⟨[], true, 0⟩, ⟨[0], false, 0⟩, ⟨[], true, 0⟩, ⟨[], true, 0⟩, ⟨[], true, 0⟩, ⟨[0], false, 0⟩] (by kernel_rfl) (by first | rfl | simp only [go_sem, ↓reduceIte, Nat.reduceLT, Nat.reduceAdd]) (by first | rfl | simp only [go_sem, ↓reduceIte, Nat.reduceLT, Nat.reduceAdd]) (by (repeat (first | apply arun_step (by first | exact ag_n rfl | exact ag_b rfl rfl rfl (by first | (simp only [look_lay, look, seval] <;> rfl) | fail) (by first | rfl | (simp only [hx, et, ↓p1, ↓p2, decide_true, decide_false] <;> rfl) | fail) | fail) (by first | (simp (disch := decide) only [hx, et, ↓p1, ↓p2, go_sem, seval]; rfl) | (simp (disch := first | decide | omega) only [if_pos, nws, hx, et, ↓p1, ↓p2, go_sem, seval]; rfl)) (by first | (intro h; cases h; done) | (intro _; rfl) | (intro _; simp only [go_sem, seval, lay])) (by first | rfl | simp only [go_sem, seval, lay]) (by first | rfl | simp only [go_sem, seval, lay]) (by first | rfl | simp only [go_sem, seval, lay]) (by simp only [go_sem, seval, lay]; rfl) | apply arun_pass (by first | exact ag_f rfl rfl rfl (by first | (simp only [look_lay, look, seval] <;> rfl) | fail) (by first | rfl | (simp only [hx, et, ↓p1, ↓p2, decide_true, decide_false] <;> rfl) | fail) | exact ag_u rfl rfl rfl (by first | (simp only [look_lay, look, seval] <;> rfl) | fail) | fail) rfl (by simp only [go_sem, seval, lay]; rfl))); exact rfl) (by (simp (disch := omega) only [go_sem, seval, lay, nws]); rfl) ?_
    refine AWP.sR (Gam.nil_ok _) [1, 2, 6] (by apply aops_mv (t := 1) (d := 24) (ag_n rfl) rfl rfl (by first | (simp only [look_lay, look, seval] <;> rfl) | fail) rfl; apply aops_mv (t := 2) (d := 25) (ag_n rfl) rfl rfl (by first | (simp only [look_lay, look, seval] <;> rfl) | fail) rfl; apply aops_mv (t := 3) (d := 26) (ag_n rfl) rfl rfl (by first | (simp only [look_lay, look, seval] <;> rfl) | fail) rfl; apply aops_x (d := 27) (ag_n rfl) rfl (by first | (simp (disch := decide) only [hx, ↓p3, go_sem, seval] <;> rfl) | (simp (disch := first | decide | omega) only [if_pos, nws, hx, ↓p3, go_sem, seval] <;> rfl)) rfl; apply aops_x (d := 28) (ag_n rfl) rfl (by first | (simp (disch := decide) only [hx, ↓p3, go_sem, seval] <;> rfl) | (simp (disch := first | decide | omega) only [if_pos, nws, hx, ↓p3, go_sem, seval] <;> rfl)) rfl; apply aops_x (d := 29) (ag_n rfl) rfl (by (simp (disch := first | decide | omega) only [if_pos, nws, hx, ↓p3, go_sem, seval] <;> rfl)) rfl; apply aops_s (ag_n rfl) rfl (by first | (simp (disch := decide) only [hx, ↓p3, go_sem, seval] <;> rfl) | (simp (disch := first | decide | omega) only [if_pos, nws, hx, ↓p3, go_sem, seval] <;> rfl)); apply aops_end; rfl) (by (simp (disch := omega) only [go_sem, seval, lay, nws]); rfl) ?_
    refine AWP.sR (Gam.nil_ok _) [1, 2, 6] (by apply aops_mv (t := 2) (d := 30) (ag_n rfl) rfl rfl (by first | (simp only [look_lay, look, seval] <;> rfl) | fail) rfl; apply aops_mv (t := 2) (d := 31) (ag_n rfl) rfl rfl (by first | (simp only [look_lay, look, seval] <;> rfl) | fail) rfl; apply aops_x (d := 32) (ag_n rfl) rfl (by (simp (disch := first | decide | omega) only [if_pos, nws, hx, go_sem, seval] <;> rfl)) rfl; apply aops_x (d := 33) (ag_n rfl) rfl (by first | (simp (disch := decide) only [hx, go_sem, seval] <;> rfl) | (simp (disch := first | decide | omega) only [if_pos, nws, hx, go_sem, seval] <;> rfl)) rfl; apply aops_as (t := 33) (d := 2) (ag_n rfl) rfl rfl (by first | (simp only [look_lay, look, seval] <;> rfl) | fail) rfl; apply aops_end; rfl) (by (simp (disch := omega) only [go_sem, seval, lay, nws]); rfl) ?_
    refine AWP.sR (Gam.nil_ok _) [1, 2, 6, 35] (by apply aops_mv (t := 2) (d := 34) (ag_n rfl) rfl rfl (by first | (simp only [look_lay, look, seval] <;> rfl) | fail) rfl; apply aops_x (d := 35) (ag_n rfl) rfl (by first | (simp (disch := decide) only [hx, go_sem, seval] <;> rfl) | (simp (disch := first | decide | omega) only [if_pos, nws, hx, go_sem, seval] <;> rfl)) rfl; apply aops_end; rfl) (by (simp (disch := omega) only [go_sem, seval, lay, nws]); rfl) ?_
    refine AWP.cond (b := _) rfl (fun h => ?_) (fun h => ?_) <;> (try simp only [decide_eq_true_eq, decide_eq_false_iff_not] at h)
    · skip
      refine AWP.rT (Gam.nil_ok _) [1, 2, 6] (by apply aops_mv (t := 2) (d := 36) (ag_n rfl) rfl rfl (by first | (simp only [look_lay, look, seval] <;> rfl) | fail) rfl; apply aops_x (d := 37) (ag_n rfl) rfl (by first | (simp (disch := decide) only [hx, go_sem, seval] <;> rfl) | (simp (disch := first | decide | omega) only [if_pos, nws, hx, go_sem, seval] <;> rfl)) rfl; apply aops_as (t := 37) (d := 2) (ag_n rfl) rfl rfl (by first | (simp only [look_lay, look, seval] <;> rfl) | fail) rfl; apply aops_end; rfl) (by (simp (disch := omega) only [go_sem, seval, lay, nws]); rfl) ?_
      change AWP _ _ _ _ _
      refine AWP.rT (Gam.nil_ok _) [1, 2, 6] (by apply aops_x (d := 38) (ag_n rfl) rfl (by first | (simp (disch := decide) only [go_sem, seval] <;> rfl) | (simp (disch := first | decide | omega) only [if_pos, nws, go_sem, seval] <;> rfl)) rfl; apply aops_mv (t := 38) (d := 6) (ag_n rfl) rfl rfl (by first | (simp only [look_lay, look, seval] <;> rfl) | fail) rfl; apply aops_end; rfl) (by (simp (disch := omega) only [go_sem, seval, lay, nws]); rfl) ?_
      have e2 : tabs (n + 1) = (((tabs n).1.set n (x : Int)).set (n + 255) (x : Int), (tabs n).2.set x (n : Int)) := by
        show (_, _) = _
        rw [hx]; rfl
      first
        | have e1 : pw (n + 1) = bits .xor .i64 (bits .xor .i64 (x : Int) ((x : Int) * 2)) 283 := by
            show stepX (pw n) = _
            rw [hx]; unfold stepX; simp only; rw [if_pos h]
          exact ⟨n + 1, Ghost.of_eq (by rw [e1, e2]; simp only [Int.natCast_add, Int.cast_ofNat_Int] <;> rfl), by omega, by omega⟩
        | have e1 : pw (n + 1) = bits .xor .i64 (x : Int) ((x : Int) * 2) := by
            show stepX (pw n) = _
            rw [hx]; unfold stepX; simp only; rw [if_neg h]
          exact ⟨n + 1, Ghost.of_eq (by rw [e1, e2]; simp only [Int.natCast_add, Int.cast_ofNat_Int] <;> rfl), by omega, by omega⟩
    · skip
      refine AWP.skip ?_
      change AWP _ _ _ _ _
      refine AWP.rT (Gam.nil_ok _) [1, 2, 6] (by apply aops_x (d := 38) (ag_n rfl) rfl (by first | (simp (disch := decide) only [go_sem, seval] <;> rfl) | (simp (disch := first | decide | omega) only [if_pos, nws, go_sem, seval] <;> rfl)) rfl; apply aops_mv (t := 38) (d := 6) (ag_n rfl) rfl rfl (by first | (simp only [look_lay, look, seval] <;> rfl) | fail) rfl; apply aops_end; rfl) (by (simp (disch := omega) only [go_sem, seval, lay, nws]); rfl) ?_
      have e2 : tabs (n + 1) = (((tabs n).1.set n (x : Int)).set (n + 255) (x : Int), (tabs n).2.set x (n : Int)) := by
        show (_, _) = _
        rw [hx]; rfl
      first
        | have e1 : pw (n + 1) = bits .xor .i64 (bits .xor .i64 (x : Int) ((x : Int) * 2)) 283 := by
            show stepX (pw n) = _
            rw [hx]; unfold stepX; simp only; rw [if_pos h]
          exact ⟨n + 1, Ghost.of_eq (by rw [e1, e2]; simp only [Int.natCast_add, Int.cast_ofNat_Int] <;> rfl), by omega, by omega⟩
        | have e1 : pw (n + 1) = bits .xor .i64 (x : Int) ((x : Int) * 2) := by
            show stepX (pw n) = _
            rw [hx]; unfold stepX; simp only; rw [if_neg h]
          exact ⟨n + 1, Ghost.of_eq (by rw [e1, e2]; simp only [Int.natCast_add, Int.cast_ofNat_Int] <;> rfl), by omega, by omega⟩
  · skip
    refine AWP.exit ?_
    change AWP _ _ _ _ _
    refine AWP.sR (Gam.nil_ok _) [0] (by apply aops_mv (t := 1) (d := 39) (ag_n rfl) rfl rfl (by first | (simp only [look_lay, look, seval] <;> rfl) | fail) rfl; apply aops_as (t := 39) (d := 0) (ag_n rfl) rfl rfl (by first | (simp only [look_lay, look, seval] <;> rfl) | fail) rfl; apply aops_end; rfl) (by (simp (disch := omega) only [go_sem, seval, lay, nws]); rfl) ?_
    refine AWP.ret ?_
    refine ⟨.inr rfl, _, (by simp only [go_sem, seval] <;> rfl), ?_⟩
    simp only [go_sem, seval, Option.some.injEq, AV.c.injEq, AV.agg.injEq, CV.v.injEq, Value.int.injEq, Value.bool.injEq, Row.raw.injEq, List.cons.injEq, CV.sl.injEq, and_true, true_and, and_self]
    have en : n = 255 := by omega
    subst en; rfl
theorem mul_c (a b : Int) (ha : byteOk a) (hb : byteOk b) : CallOk Tryd.prog 18 [.c (.ptr 0 0 1 0), .c (ci .u8 a), .c (ci .u8 b)] [some (.ty FT [Tab])] (.c (ci .u8 (mulT a b))) [some (.ty FT [Tab])] := by
  obtain ⟨a, rfl⟩ := Int.eq_ofNat_of_zero_le ha.1
  obtain ⟨b, rfl⟩ := Int.eq_ofNat_of_zero_le hb.1
  have ha' : a < 256 := by have := ha.2; omega
  have hb' : b < 256 := by have := hb.2; omega
  by_cases h0 : a = 0
  · subst h0
    refine callOk' Tryd.func18 35 [.tmp 6] _ rfl rfl rfl (by kernel_rfl) (by simp) [0] rfl rfl (by simp) ?_
    simp only [params]
    refine AWP.sR (Gam.nil_ok _) [0, 1, 2] (by apply aops_x (d := 6) (ag_n rfl) rfl (by first | (simp (disch := decide) only [go_sem, seval] <;> rfl) | (simp (disch := first | decide | omega) only [if_pos, nws, go_sem, seval] <;> rfl)) rfl; apply aops_end; rfl) (by (simp (disch := omega) only [go_sem, seval, lay, nws]); rfl) ?_
    refine AWP.seq ?_
    refine AWP.sR (Gam.nil_ok _) [0, 1, 2, 16] (by apply aops_mv (t := 0) (d := 7) (ag_n rfl) rfl rfl (by first | (simp only [look_lay, look, seval] <;> rfl) | fail) rfl; apply aops_x (d := 8) (ag_n rfl) rfl (by first | (simp (disch := decide) only [Int.natCast_zero, Int.cast_ofNat_Int, eq_self, go_sem, seval] <;> rfl) | (simp (disch := first | decide | omega) only [if_pos, nws, Int.natCast_zero, Int.cast_ofNat_Int, eq_self, go_sem, seval] <;> rfl)) rfl; apply aops_mv (t := 8) (d := 9) (ag_n rfl) rfl rfl (by first | (simp only [look_lay, look, seval] <;> rfl) | fail) rfl; (first | apply aops_mv (t := 1) (d := 10) (ag_b (j := 2) (d := 9) rfl rfl rfl (by first | (simp only [look_lay, look, seval] <;> rfl) | fail) rfl) rfl rfl (by first | (simp only [look_lay, look, seval] <;> rfl) | fail) rfl | apply aops_ps (d := 10) (by first | exact ag_f (j := 2) (d := 9) rfl rfl rfl (by first | (simp only [look_lay, look, seval] <;> rfl) | fail) rfl | exact ag_u (j := 2) (d := 9) rfl rfl rfl (by first | (simp only [look_lay, look, seval] <;> rfl) | fail) | fail) rfl rfl); (first | apply aops_x (d := 11) (ag_b (j := 2) (d := 9) rfl rfl rfl (by first | (simp only [look_lay, look, seval] <;> rfl) | fail) rfl) rfl (by first | (simp (disch := decide) only [Int.natCast_zero, Int.cast_ofNat_Int, eq_self, go_sem, seval] <;> rfl) | (simp (disch := first | decide | omega) only [if_pos, nws, Int.natCast_zero, Int.cast_ofNat_Int, eq_self, go_sem, seval] <;> rfl)) rfl | apply aops_ps (d := 11) (by first | exact ag_f (j := 2) (d := 9) rfl rfl rfl (by first | (simp only [look_lay, look, seval] <;> rfl) | fail) rfl | exact ag_u (j := 2) (d := 9) rfl rfl rfl (by first | (simp only [look_lay, look, seval] <;> rfl) | fail) | fail) rfl rfl); apply aops_x (d := 12) (ag_n rfl) rfl (by first | (simp (disch := decide) only [Int.natCast_zero, Int.cast_ofNat_Int, eq_self, go_sem, seval] <;> rfl) | (simp (disch := first | decide | omega) only [if_pos, nws, Int.natCast_zero, Int.cast_ofNat_Int, eq_self, go_sem, seval] <;> rfl)) rfl; apply aops_mv (t := 12) (d := 13) (ag_n rfl) rfl rfl (by first | (simp only [look_lay, look, seval] <;> rfl) | fail) rfl; (first | apply aops_mv (t := 2) (d := 14) (ag_b (j := 6) (d := 13) rfl rfl rfl (by first | (simp only [look_lay, look, seval] <;> rfl) | fail) rfl) rfl rfl (by first | (simp only [look_lay, look, seval] <;> rfl) | fail) rfl | apply aops_ps (d := 14) (by first | exact ag_f (j := 6) (d := 13) rfl rfl rfl (by first | (simp only [look_lay, look, seval] <;> rfl) | fail) rfl | exact ag_u (j := 6) (d := 13) rfl rfl rfl (by first | (simp only [look_lay, look, seval] <;> rfl) | fail) | fail) rfl rfl); (first | apply aops_x (d := 15) (ag_b (j := 6) (d := 13) rfl rfl rfl (by first | (simp only [look_lay, look, seval] <;> rfl) | fail) rfl) rfl (by first | (simp (disch := decide) only [Int.natCast_zero, Int.cast_ofNat_Int, eq_self, go_sem, seval] <;> rfl) | (simp (disch := first | decide | omega) only [if_pos, nws, Int.natCast_zero, Int.cast_ofNat_Int, eq_self, go_sem, seval] <;> rfl)) rfl | apply aops_ps (d := 15) (by first | exact ag_f (j := 6) (d := 13) rfl rfl rfl (by first | (simp only [look_lay, look, seval] <;> rfl) | fail) rfl | exact ag_u (j := 6) (d := 13) rfl rfl rfl (by first | (simp only [look_lay, look, seval] <;> rfl) | fail) | fail) rfl rfl); apply aops_x (d := 16) (ag_n rfl) rfl (by first | (simp (disch := decide) only [Int.natCast_zero, Int.cast_ofNat_Int, eq_self, go_sem, seval] <;> rfl) | (simp (disch := first | decide | omega) only [if_pos, nws, Int.natCast_zero, Int.cast_ofNat_Int, eq_self, go_sem, seval] <;> rfl)) rfl; apply aops_end; rfl) (by (simp (disch := omega) only [go_sem, seval, lay, nws]); rfl) ?_
    refine AWP.condT (b := _) rfl (by first | rfl | (simp only [decide_eq_true_eq, decide_eq_false_iff_not]; omega)) ?_
    refine AWP.sR (Gam.nil_ok _) [6] (by apply aops_x (d := 6) (ag_n rfl) rfl (by first | (simp (disch := decide) only [go_sem, seval] <;> rfl) | (simp (disch := first | decide | omega) only [if_pos, nws, go_sem, seval] <;> rfl)) rfl; apply aops_end; rfl) (by (simp (disch := omega) only [go_sem, seval, lay, nws]); rfl) ?_
    refine AWP.ret ?_
    refine ⟨.inr rfl, _, (by simp only [go_sem, seval] <;> rfl), ?_⟩
    simp only [go_sem, seval, Option.some.injEq, AV.c.injEq, AV.agg.injEq, CV.v.injEq, Value.int.injEq, Value.bool.injEq, Row.raw.injEq, List.cons.injEq, CV.sl.injEq, and_true, true_and, and_self]
    exact (show mulN 0 _ = 0 by simp [mulN]).symm
  · skip
    by_cases h1 : b = 0
    · subst h1
      have h0' : ¬ (a : Int) = 0 := by omega
      refine callOk' Tryd.func18 35 [.tmp 6] _ rfl rfl rfl (by kernel_rfl) (by simp) [0] rfl rfl (by simp) ?_
      simp only [params]
      refine AWP.sR (Gam.nil_ok _) [0, 1, 2] (by apply aops_x (d := 6) (ag_n rfl) rfl (by first | (simp (disch := decide) only [go_sem, seval] <;> rfl) | (simp (disch := first | decide | omega) only [if_pos, nws, go_sem, seval] <;> rfl)) rfl; apply aops_end; rfl) (by (simp (disch := omega) only [go_sem, seval, lay, nws]); rfl) ?_
      refine AWP.seq ?_
      refine AWP.sR (Gam.nil_ok _) [0, 1, 2, 16] (by apply aops_mv (t := 0) (d := 7) (ag_n rfl) rfl rfl (by first | (simp only [look_lay, look, seval] <;> rfl) | fail) rfl; apply aops_x (d := 8) (ag_n rfl) rfl (by first | (simp (disch := decide) only [h0', Int.natCast_zero, Int.cast_ofNat_Int, eq_self, go_sem, seval] <;> rfl) | (simp (disch := first | decide | omega) only [if_pos, nws, h0', Int.natCast_zero, Int.cast_ofNat_Int, eq_self, go_sem, seval] <;> rfl)) rfl; apply aops_mv (t := 8) (d := 9) (ag_n rfl) rfl rfl (by first | (simp only [look_lay, look, seval] <;> rfl) | fail) rfl; (first | apply aops_mv (t := 1) (d := 10) (ag_b (j := 2) (d := 9) rfl rfl rfl (by first | (simp only [look_lay, look, seval] <;> rfl) | fail) rfl) rfl rfl (by first | (simp only [look_lay, look, seval] <;> rfl) | fail) rfl | apply aops_ps (d := 10) (by first | exact ag_f (j := 2) (d := 9) rfl rfl rfl (by first | (simp only [look_lay, look, seval] <;> rfl) | fail) rfl | exact ag_u (j := 2) (d := 9) rfl rfl rfl (by first | (simp only [look_lay, look, seval] <;> rfl) | fail) | fail) rfl rfl); (first | apply aops_x (d := 11) (ag_b (j := 2) (d := 9) rfl rfl rfl (by first | (simp only [look_lay, look, seval] <;> rfl) | fail) rfl) rfl (by first | (simp (disch := decide) only [h0', Int.natCast_zero, Int.cast_ofNat_Int, eq_self, go_sem, seval] <;> rfl) | (simp (disch := first | decide | omega) only [if_pos, nws, h0', Int.natCast_zero, Int.cast_ofNat_Int, eq_self, go_sem, seval] <;> rfl)) rfl | apply aops_ps (d := 11) (by first | exact ag_f (j := 2) (d := 9) rfl rfl rfl (by first | (simp only [look_lay, look, seval] <;> rfl) | fail) rfl | exact ag_u (j := 2) (d := 9) rfl rfl rfl (by first | (simp only [look_lay, look, seval] <;> rfl) | fail) | fail) rfl rfl); apply aops_x (d := 12) (ag_n rfl) rfl (by first | (simp (disch := decide) only [h0', Int.natCast_zero, Int.cast_ofNat_Int, eq_self, go_sem, seval] <;> rfl) | (simp (disch := first | decide | omega) only [if_pos, nws, h0', Int.natCast_zero, Int.cast_ofNat_Int, eq_self, go_sem, seval] <;> rfl)) rfl; apply aops_mv (t := 12) (d := 13) (ag_n rfl) rfl rfl (by first | (simp only [look_lay, look, seval] <;> rfl) | fail) rfl; (first | apply aops_mv (t := 2) (d := 14) (ag_b (j := 6) (d := 13) rfl rfl rfl (by first | (simp only [look_lay, look, seval] <;> rfl) | fail) rfl) rfl rfl (by first | (simp only [look_lay, look, seval] <;> rfl) | fail) rfl | apply aops_ps (d := 14) (by first | exact ag_f (j := 6) (d := 13) rfl rfl rfl (by first | (simp only [look_lay, look, seval] <;> rfl) | fail) rfl | exact ag_u (j := 6) (d := 13) rfl rfl rfl (by first | (simp only [look_lay, look, seval] <;> rfl) | fail) | fail) rfl rfl); (first | apply aops_x (d := 15) (ag_b (j := 6) (d := 13) rfl rfl rfl (by first | (simp only [look_lay, look, seval] <;> rfl) | fail) rfl) rfl (by first | (simp (disch := decide) only [h0', Int.natCast_zero, Int.cast_ofNat_Int, eq_self, go_sem, seval] <;> rfl) | (simp (disch := first | decide | omega) only [if_pos, nws, h0', Int.natCast_zero, Int.cast_ofNat_Int, eq_self, go_sem, seval] <;> rfl)) rfl | apply aops_ps (d := 15) (by first | exact ag_f (j := 6) (d := 13) rfl rfl rfl (by first | (simp only [look_lay, look, seval] <;> rfl) | fail) rfl | exact ag_u (j := 6) (d := 13) rfl rfl rfl (by first | (simp only [look_lay, look, seval] <;> rfl) | fail) | fail) rfl rfl); apply aops_x (d := 16) (ag_n rfl) rfl (by first | (simp (disch := decide) only [h0', Int.natCast_zero, Int.cast_ofNat_Int, eq_self, go_sem, seval] <;> rfl) | (simp (disch := first | decide | omega) only [if_pos, nws, h0', Int.natCast_zero, Int.cast_ofNat_Int, eq_self, go_sem, seval] <;> rfl)) rfl; apply aops_end; rfl) (by (simp (disch := omega) only [go_sem, seval, lay, nws]); rfl) ?_
      refine AWP.condT (b := _) rfl (by first | rfl | (simp only [decide_eq_true_eq, decide_eq_false_iff_not]; omega)) ?_
      refine AWP.sR (Gam.nil_ok _) [6] (by apply aops_x (d := 6) (ag_n rfl) rfl (by first | (simp (disch := decide) only [go_sem, seval] <;> rfl) | (simp (disch := first | decide | omega) only [if_pos, nws, go_sem, seval] <;> rfl)) rfl; apply aops_end; rfl) (by (simp (disch := omega) only [go_sem, seval, lay, nws]); rfl) ?_
      refine AWP.ret ?_
      refine ⟨.inr rfl, _, (by simp only [go_sem, seval] <;> rfl), ?_⟩
      simp only [go_sem, seval, Option.some.injEq, AV.c.injEq, AV.agg.injEq, CV.v.injEq, Value.int.injEq, Value.bool.injEq, Row.raw.injEq, List.cons.injEq, CV.sl.injEq, and_true, true_and, and_self]
      exact (show mulN _ 0 = 0 by simp [mulN]).symm
    · skip
      have h0' : ¬ (a : Int) = 0 := by omega
      have h1' : ¬ (b : Int) = 0 := by omega
      have g1 := lg_at ha'
      have g2 := lg_at hb'
      have g3 := ex_at (i := lg a + lg b) (by omega)
      have p1 := at_log (T := Tab) g1.1
      have p2 := at_log (T := Tab) g2.1
      have p3 := at_exp (T := Tab) (i := lg a + lg b) (by omega) g3.1
      generalize hla : lg a = A at g1 g3 p1 p3
      generalize hlb : lg b = C at g2 g3 p2 p3
      generalize hex : ex (A + C) = V at g3 p3
      have g1l := g1.2
      have g2l := g2.2
      have et : ((A : Int) + (C : Int)).toNat = A + C := by omega
      refine callOk' Tryd.func18 35 [.tmp 6] _ rfl rfl rfl (by kernel_rfl) (by simp) [0] rfl rfl (by simp) ?_
      simp only [params]
      refine AWP.sR (Gam.nil_ok _) [0, 1, 2] (by apply aops_x (d := 6) (ag_n rfl) rfl (by first | (simp (disch := decide) only [go_sem, seval] <;> rfl) | (simp (disch := first | decide | omega) only [if_pos, nws, go_sem, seval] <;> rfl)) rfl; apply aops_end; rfl) (by (simp (disch := omega) only [go_sem, seval, lay, nws]); rfl) ?_
      refine AWP.seq ?_
      refine AWP.sR (Gam.nil_ok _) [0, 1, 2, 16] (by apply aops_mv (t := 0) (d := 7) (ag_n rfl) rfl rfl (by first | (simp only [look_lay, look, seval] <;> rfl) | fail) rfl; apply aops_x (d := 8) (ag_n rfl) rfl (by first | (simp (disch := decide) only [h0', h1', go_sem, seval] <;> rfl) | (simp (disch := first | decide | omega) only [if_pos, nws, h0', h1', go_sem, seval] <;> rfl)) rfl; apply aops_mv (t := 8) (d := 9) (ag_n rfl) rfl rfl (by first | (simp only [look_lay, look, seval] <;> rfl) | fail) rfl; (first | apply aops_mv (t := 1) (d := 10) (ag_b (j := 2) (d := 9) rfl rfl rfl (by first | (simp only [look_lay, look, seval] <;> rfl) | fail) rfl) rfl rfl (by first | (simp only [look_lay, look, seval] <;> rfl) | fail) rfl | apply aops_ps (d := 10) (by first | exact ag_f (j := 2) (d := 9) rfl rfl rfl (by first | (simp only [look_lay, look, seval] <;> rfl) | fail) rfl | exact ag_u (j := 2) (d := 9) rfl rfl rfl (by first | (simp only [look_lay, look, seval] <;> rfl) | fail) | fail) rfl rfl); (first | apply aops_x (d := 11) (ag_b (j := 2) (d := 9) rfl rfl rfl (by first | (simp only [look_lay, look, seval] <;> rfl) | fail) rfl) rfl (by first | (simp (disch := decide) only [h0', h1', go_sem, seval] <;> rfl) | (simp (disch := first | decide | omega) only [if_pos, nws, h0', h1', go_sem, seval] <;> rfl)) rfl | apply aops_ps (d := 11) (by first | exact ag_f (j := 2) (d := 9) rfl rfl rfl (by first | (simp only [look_lay, look, seval] <;> rfl) | fail) rfl | exact ag_u (j := 2) (d := 9) rfl rfl rfl (by first | (simp only [look_lay, look, seval] <;> rfl) | fail) | fail) rfl rfl); apply aops_x (d := 12) (ag_n rfl) rfl (by first | (simp (disch := decide) only [h0', h1', go_sem, seval] <;> rfl) | (simp (disch := first | decide | omega) only [if_pos, nws, h0', h1', go_sem, seval] <;> rfl)) rfl; apply aops_mv (t := 12) (d := 13) (ag_n rfl) rfl rfl (by first | (simp only [look_lay, look, seval] <;> rfl) | fail) rfl; (first | apply aops_mv (t := 2) (d := 14) (ag_b (j := 6) (d := 13) rfl rfl rfl (by first | (simp only [look_lay, look, seval] <;> rfl) | fail) rfl) rfl rfl (by first | (simp only [look_lay, look, seval] <;> rfl) | fail) rfl | apply aops_ps (d := 14) (by first | exact ag_f (j := 6) (d := 13) rfl rfl rfl (by first | (simp only [look_lay, look, seval] <;> rfl) | fail) rfl | exact ag_u (j := 6) (d := 13) rfl rfl rfl (by first | (simp only [look_lay, look, seval] <;> rfl) | fail) | fail) rfl rfl); (first | apply aops_x (d := 15) (ag_b (j := 6) (d := 13) rfl rfl rfl (by first | (simp only [look_lay, look, seval] <;> rfl) | fail) rfl) rfl (by first | (simp (disch := decide) only [h0', h1', go_sem, seval] <;> rfl) | (simp (disch := first | decide | omega) only [if_pos, nws, h0', h1', go_sem, seval] <;> rfl)) rfl | apply aops_ps (d := 15) (by first | exact ag_f (j := 6) (d := 13) rfl rfl rfl (by first | (simp only [look_lay, look, seval] <;> rfl) | fail) rfl | exact ag_u (j := 6) (d := 13) rfl rfl rfl (by first | (simp only [look_lay, look, seval] <;> rfl) | fail) | fail) rfl rfl); apply aops_x (d := 16) (ag_n rfl) rfl (by first | (simp (disch := decide) only [h0', h1', go_sem, seval] <;> rfl) | (simp (disch := first | decide | omega) only [if_pos, nws, h0', h1', go_sem, seval] <;> rfl)) rfl; apply aops_end; rfl) (by (simp (disch := omega) only [go_sem, seval, lay, nws]); rfl) ?_
      refine AWP.condF (b := _) rfl (by first | rfl | (simp only [decide_eq_true_eq, decide_eq_false_iff_not]; omega)) ?_
      refine AWP.skip ?_
      change AWP _ _ _ _ _
      refine AWP.sD (Gam.nil_ok _) (by kernel_rfl) [6] [⟨[], true, 0⟩, ⟨[], true, 0⟩, ⟨[], true, 0⟩, ⟨[], true, 0⟩, ⟨[], true, 0⟩, ⟨[], true, 0⟩, ⟨[0], true, 0⟩, ⟨[], true, 0⟩, ⟨[], true, 0⟩, ⟨[], true, 0⟩, ⟨[], true, 0⟩, ⟨[], true, 0⟩, ⟨[0], true, 0⟩, ⟨[], true, 0⟩, ⟨[], true, 0⟩, ⟨[], true, 0⟩, ⟨[], true, 0⟩, ⟨[0], true, 0⟩, ⟨[], true, 0⟩] (by kernel_rfl) (by first | rfl | simp only [go_sem, ↓reduceIte, Nat.reduceLT, Nat.reduceAdd]) (by first | rfl | simp only [go_sem, ↓reduceIte, Nat.reduceLT, Nat.reduceAdd]) (by (repeat (first | apply arun_step (by first | exact ag_n rfl | exact ag_b rfl rfl rfl (by first | (simp only [look_lay, look, seval] <;> rfl) | fail) (by first | rfl | (simp only [↓p1, ↓p2, ↓p3, et, decide_true, decide_false] <;> rfl) | fail) | fail) (by first | (simp (disch := decide) only [↓p1, ↓p2, ↓p3, et, go_sem, seval]; rfl) | (simp (disch := first | decide | omega) only [if_pos, nws, ↓p1, ↓p2, ↓p3, et, go_sem, seval]; rfl)) (by first | (intro h; cases h; done) | (intro _; rfl) | (intro _; simp only [go_sem, seval, lay])) (by first | rfl | simp only [go_sem, seval, lay]) (by first | rfl | simp only [go_sem, seval, lay]) (by first | rfl | simp only [go_sem, seval, lay]) (by simp only [go_sem, seval, lay]; rfl) | apply arun_pass (by first | exact ag_f rfl rfl rfl (by first | (simp only [look_lay, look, seval] <;> rfl) | fail) (by first | rfl | (simp only [↓p1, ↓p2, ↓p3, et, decide_true, decide_false] <;> rfl) | fail) | exact ag_u rfl rfl rfl (by first | (simp only [look_lay, look, seval] <;> rfl) | fail) | fail) rfl (by simp only [go_sem, seval, lay]; rfl))); exact rfl) (by (simp (disch := omega) only [go_sem, seval, lay, nws]); rfl) ?_
      refine AWP.ret ?_
      refine ⟨.inr rfl, _, (by simp only [go_sem, seval] <;> rfl), ?_⟩
      simp only [go_sem, seval, Option.some.injEq, AV.c.injEq, AV.agg.injEq, CV.v.injEq, Value.int.injEq, Value.bool.injEq, Row.raw.injEq, List.cons.injEq, CV.sl.injEq, and_true, true_and, and_self]
      exact (show mulN a b = V by unfold mulN; rw [if_neg (by omega), hla, hlb, hex]).symm
instance (x : Int) : Decidable (byteOk x) := inferInstanceAs (Decidable (_ ∧ _))
def E18 : Entry := withE FT [.i .u8, .i .u8] (fun l d => l = [Tab] ∧ byteOk d.1 ∧ byteOk d.2.1) (fun l d => .c (ci .u8 (mulT d.1 d.2.1))) (fun _ _ => [])
theorem E18_ok : EntryOk Tryd.prog 18 E18 := withE_ok rfl (fun _ _ => rfl) (fun _ _ => rfl) fun l d hc => by
  obtain ⟨rfl, h1, h2⟩ := hc
  exact mul_c d.1 d.2.1 h1 h2
attribute [go_sem] E18
theorem div_c (a b : Int) (ha : byteOk a) (hb : byteOk b) : CallOk Tryd.prog 33 [.c (.ptr 0 0 1 0), .c (ci .u8 a), .c (ci .u8 b)] [some (.ty FT [Tab])] (.tup [.c (ci .u8 (divT a b)), .c (ci .i64 (if b = 0 then 1 else 0))]) [some (.ty FT [Tab])] := by
  obtain ⟨a, rfl⟩ := Int.eq_ofNat_of_zero_le ha.1
  obtain ⟨b, rfl⟩ := Int.eq_ofNat_of_zero_le hb.1
  have ha' : a < 256 := by have := ha.2; omega
  have hb' : b < 256 := by have := hb.2; omega
  by_cases h1 : b = 0
  · subst h1
    refine callOk' Tryd.func33 37 [.tmp 6, .tmp 7] _ rfl rfl rfl (by kernel_rfl) (by simp) [0] rfl rfl (by simp) ?_
    simp only [params]
    refine AWP.sR (Gam.nil_ok _) [0, 1, 2] (by apply aops_x (d := 6) (ag_n rfl) rfl (by first | (simp (disch := decide) only [go_sem, seval] <;> rfl) | (simp (disch := first | decide | omega) only [if_pos, nws, go_sem, seval] <;> rfl)) rfl; apply aops_x (d := 7) (ag_n rfl) rfl (by first | (simp (disch := decide) only [go_sem, seval] <;> rfl) | (simp (disch := first | decide | omega) only [if_pos, nws, go_sem, seval] <;> rfl)) rfl; apply aops_end; rfl) (by (simp (disch := omega) only [go_sem, seval, lay, nws]); rfl) ?_
    refine AWP.seqBlock ?_
    refine AWP.sR (Gam.nil_ok _) [0, 1, 2, 8] (by apply aops_mv (t := 0) (d := 9) (ag_n rfl) rfl rfl (by first | (simp only [look_lay, look, seval] <;> rfl) | fail) rfl; apply aops_x (d := 10) (ag_n rfl) rfl (by first | (simp (disch := decide) only [Int.natCast_zero, Int.cast_ofNat_Int, eq_self, go_sem, seval] <;> rfl) | (simp (disch := first | decide | omega) only [if_pos, nws, Int.natCast_zero, Int.cast_ofNat_Int, eq_self, go_sem, seval] <;> rfl)) rfl; apply aops_mv (t := 10) (d := 11) (ag_n rfl) rfl rfl (by first | (simp only [look_lay, look, seval] <;> rfl) | fail) rfl; (first | apply aops_mv (t := 2) (d := 12) (ag_b (j := 2) (d := 11) rfl rfl rfl (by first | (simp only [look_lay, look, seval] <;> rfl) | fail) rfl) rfl rfl (by first | (simp only [look_lay, look, seval] <;> rfl) | fail) rfl | apply aops_ps (d := 12) (by first | exact ag_f (j := 2) (d := 11) rfl rfl rfl (by first | (simp only [look_lay, look, seval] <;> rfl) | fail) rfl | exact ag_u (j := 2) (d := 11) rfl rfl rfl (by first | (simp only [look_lay, look, seval] <;> rfl) | fail) | fail) rfl rfl); (first | apply aops_x (d := 13) (ag_b (j := 2) (d := 11) rfl rfl rfl (by first | (simp only [look_lay, look, seval] <;> rfl) | fail) rfl) rfl (by first | (simp (disch := decide) only [Int.natCast_zero, Int.cast_ofNat_Int, eq_self, go_sem, seval] <;> rfl) | (simp (disch := first | decide | omega) only [if_pos, nws, Int.natCast_zero, Int.cast_ofNat_Int, eq_self, go_sem, seval] <;> rfl)) rfl | apply aops_ps (d := 13) (by first | exact ag_f (j := 2) (d := 11) rfl rfl rfl (by first | (simp only [look_lay, look, seval] <;> rfl) | fail) rfl | exact ag_u (j := 2) (d := 11) rfl rfl rfl (by first | (simp only [look_lay, look, seval] <;> rfl) | fail) | fail) rfl rfl); apply aops_x (d := 14) (ag_n rfl) rfl (by first | (simp (disch := decide) only [Int.natCast_zero, Int.cast_ofNat_Int, eq_self, go_sem, seval] <;> rfl) | (simp (disch := first | decide | omega) only [if_pos, nws, Int.natCast_zero, Int.cast_ofNat_Int, eq_self, go_sem, seval] <;> rfl)) rfl; apply aops_as (t := 14) (d := 8) (ag_n rfl) rfl rfl (by first | (simp only [look_lay, look, seval] <;> rfl) | fail) rfl; apply aops_end; rfl) (by (simp (disch := omega) only [go_sem, seval, lay, nws]); rfl) ?_
    refine AWP.condT (b := _) rfl (by first | rfl | (simp only [decide_eq_true_eq, decide_eq_false_iff_not]; omega)) ?_
    refine AWP.sR (Gam.nil_ok _) [6, 7] (by apply aops_x (d := 6) (ag_n rfl) rfl (by first | (simp (disch := decide) only [go_sem, seval] <;> rfl) | (simp (disch := first | decide | omega) only [if_pos, nws, go_sem, seval] <;> rfl)) rfl; apply aops_x (d := 7) (ag_n rfl) rfl (by first | (simp (disch := decide) only [go_sem, seval] <;> rfl) | (simp (disch := first | decide | omega) only [if_pos, nws, go_sem, seval] <;> rfl)) rfl; apply aops_end; rfl) (by (simp (disch := omega) only [go_sem, seval, lay, nws]); rfl) ?_
    refine AWP.ret ?_
    refine ⟨.inr rfl, _, (by simp only [go_sem, seval] <;> rfl), ?_⟩
    simp only [go_sem, seval, Option.some.injEq, AV.c.injEq, AV.agg.injEq, CV.v.injEq, Value.int.injEq, Value.bool.injEq, Row.raw.injEq, List.cons.injEq, CV.sl.injEq, and_true, true_and, and_self]
    rw [show divT (a : Int) 0 = 0 from (show divN _ 0 = 0 by simp [divN])]
  · skip
    have h1' : ¬ (b : Int) = 0 := by omega
    by_cases h0 : a = 0
    · subst h0
      refine callOk' Tryd.func33 37 [.tmp 6, .tmp 7] _ rfl rfl rfl (by kernel_rfl) (by simp) [0] rfl rfl (by simp) ?_
      simp only [params]
      refine AWP.sR (Gam.nil_ok _) [0, 1, 2] (by apply aops_x (d := 6) (ag_n rfl) rfl (by first | (simp (disch := decide) only [go_sem, seval] <;> rfl) | (simp (disch := first | decide | omega) only [if_pos, nws, go_sem, seval] <;> rfl)) rfl; apply aops_x (d := 7) (ag_n rfl) rfl (by first | (simp (disch := decide) only [go_sem, seval] <;> rfl) | (simp (disch := first | decide | omega) only [if_pos, nws, go_sem, seval] <;> rfl)) rfl; apply aops_end; rfl) (by (simp (disch := omega) only [go_sem, seval, lay, nws]); rfl) ?_
      refine AWP.seqBlock ?_
      refine AWP.sR (Gam.nil_ok _) [0, 1, 2, 8] (by apply aops_mv (t := 0) (d := 9) (ag_n rfl) rfl rfl (by first | (simp only [look_lay, look, seval] <;> rfl) | fail) rfl; apply aops_x (d := 10) (ag_n rfl) rfl (by first | (simp (disch := decide) only [h1', go_sem, seval] <;> rfl) | (simp (disch := first | decide | omega) only [if_pos, nws, h1', go_sem, seval] <;> rfl)) rfl; apply aops_mv (t := 10) (d := 11) (ag_n rfl) rfl rfl (by first | (simp only [look_lay, look, seval] <;> rfl) | fail) rfl; (first | apply aops_mv (t := 2) (d := 12) (ag_b (j := 2) (d := 11) rfl rfl rfl (by first | (simp only [look_lay, look, seval] <;> rfl) | fail) rfl) rfl rfl (by first | (simp only [look_lay, look, seval] <;> rfl) | fail) rfl | apply aops_ps (d := 12) (by first | exact ag_f (j := 2) (d := 11) rfl rfl rfl (by first | (simp only [look_lay, look, seval] <;> rfl) | fail) rfl | exact ag_u (j := 2) (d := 11) rfl rfl rfl (by first | (simp only [look_lay, look, seval] <;> rfl) | fail) | fail) rfl rfl); (first | apply aops_x (d := 13) (ag_b (j := 2) (d := 11) rfl rfl rfl (by first | (simp only [look_lay, look, seval] <;> rfl) | fail) rfl) rfl (by first | (simp (disch := decide) only [h1', go_sem, seval] <;> rfl) | (simp (disch := first | decide | omega) only [if_pos, nws, h1', go_sem, seval] <;> rfl)) rfl | apply aops_ps (d := 13) (by first | exact ag_f (j := 2) (d := 11) rfl rfl rfl (by first | (simp only [look_lay, look, seval] <;> rfl) | fail) rfl | exact ag_u (j := 2) (d := 11) rfl rfl rfl (by first | (simp only [look_lay, look, seval] <;> rfl) | fail) | fail) rfl rfl); apply aops_x (d := 14) (ag_n rfl) rfl (by first | (simp (disch := decide) only [h1', go_sem, seval] <;> rfl) | (simp (disch := first | decide | omega) only [if_pos, nws, h1', go_sem, seval] <;> rfl)) rfl; apply aops_as (t := 14) (d := 8) (ag_n rfl) rfl rfl (by first | (simp only [look_lay, look, seval] <;> rfl) | fail) rfl; apply aops_end; rfl) (by (simp (disch := omega) only [go_sem, seval, lay, nws]); rfl) ?_
      refine AWP.condF (b := _) rfl (by first | rfl | (simp only [decide_eq_true_eq, decide_eq_false_iff_not]; omega)) ?_
      refine AWP.sR (Gam.nil_ok _) [0, 1, 2, 15] (by apply aops_mv (t := 1) (d := 16) (ag_n rfl) rfl rfl (by first | (simp only [look_lay, look, seval] <;> rfl) | fail) rfl; apply aops_x (d := 17) (ag_n rfl) rfl (by first | (simp (disch := decide) only [Int.natCast_zero, Int.cast_ofNat_Int, eq_self, go_sem, seval] <;> rfl) | (simp (disch := first | decide | omega) only [if_pos, nws, Int.natCast_zero, Int.cast_ofNat_Int, eq_self, go_sem, seval] <;> rfl)) rfl; apply aops_as (t := 17) (d := 15) (ag_n rfl) rfl rfl (by first | (simp only [look_lay, look, seval] <;> rfl) | fail) rfl; apply aops_end; rfl) (by (simp (disch := omega) only [go_sem, seval, lay, nws]); rfl) ?_
      refine AWP.condT (b := _) rfl (by first | rfl | (simp only [decide_eq_true_eq, decide_eq_false_iff_not]; omega)) ?_
      refine AWP.sR (Gam.nil_ok _) [6, 7] (by apply aops_x (d := 6) (ag_n rfl) rfl (by first | (simp (disch := decide) only [go_sem, seval] <;> rfl) | (simp (disch := first | decide | omega) only [if_pos, nws, go_sem, seval] <;> rfl)) rfl; apply aops_x (d := 7) (ag_n rfl) rfl (by first | (simp (disch := decide) only [go_sem, seval] <;> rfl) | (simp (disch := first | decide | omega) only [if_pos, nws, go_sem, seval] <;> rfl)) rfl; apply aops_end; rfl) (by (simp (disch := omega) only [go_sem, seval, lay, nws]); rfl) ?_
      refine AWP.ret ?_
      refine ⟨.inr rfl, _, (by simp only [go_sem, seval] <;> rfl), ?_⟩
      simp only [go_sem, seval, Option.some.injEq, AV.c.injEq, AV.agg.injEq, CV.v.injEq, Value.int.injEq, Value.bool.injEq, Row.raw.injEq, List.cons.injEq, CV.sl.injEq, and_true, true_and, and_self]
      rw [if_neg h1', show divT 0 (b : Int) = 0 from (show divN 0 _ = 0 by simp [divN])]
    · skip
      have h0' : ¬ (a : Int) = 0 := by omega
      have g1 := lg_at ha'
      have g2 := lg_at hb'
      have g3 := ex_at (i := lg a + 255 - lg b) (by omega)
      have p1 := at_log (T := Tab) g1.1
      have p2 := at_log (T := Tab) g2.1
      have p3 := at_exp (T := Tab) (i := lg a + 255 - lg b) (by omega) g3.1
      generalize hla : lg a = A at g1 g3 p1 p3
      generalize hlb : lg b = C at g2 g3 p2 p3
      generalize hex : ex (A + 255 - C) = V at g3 p3
      have g1l := g1.2
      have g2l := g2.2
      have et : ((A : Int) + 255 - (C : Int)).toNat = A + 255 - C := by omega
      refine callOk' Tryd.func33 37 [.tmp 6, .tmp 7] _ rfl rfl rfl (by kernel_rfl) (by simp) [0] rfl rfl (by simp) ?_
      simp only [params]
      refine AWP.sR (Gam.nil_ok _) [0, 1, 2] (by apply aops_x (d := 6) (ag_n rfl) rfl (by first | (simp (disch := decide) only [go_sem, seval] <;> rfl) | (simp (disch := first | decide | omega) only [if_pos, nws, go_sem, seval] <;> rfl)) rfl; apply aops_x (d := 7) (ag_n rfl) rfl (by first | (simp (disch := decide) only [go_sem, seval] <;> rfl) | (simp (disch := first | decide | omega) only [if_pos, nws, go_sem, seval] <;> rfl)) rfl; apply aops_end; rfl) (by (simp (disch := omega) only [go_sem, seval, lay, nws]); rfl) ?_
      refine AWP.seqBlock ?_
      refine AWP.sR (Gam.nil_ok _) [0, 1, 2, 8] (by apply aops_mv (t := 0) (d := 9) (ag_n rfl) rfl rfl (by first | (simp only [look_lay, look, seval] <;> rfl) | fail) rfl; apply aops_x (d := 10) (ag_n rfl) rfl (by first | (simp (disch := decide) only [h1', go_sem, seval] <;> rfl) | (simp (disch := first | decide | omega) only [if_pos, nws, h1', go_sem, seval] <;> rfl)) rfl; apply aops_mv (t := 10) (d := 11) (ag_n rfl) rfl rfl (by first | (simp only [look_lay, look, seval] <;> rfl) | fail) rfl; (first | apply aops_mv (t := 2) (d := 12) (ag_b (j := 2) (d := 11) rfl rfl rfl (by first | (simp only [look_lay, look, seval] <;> rfl) | fail) rfl) rfl rfl (by first | (simp only [look_lay, look, seval] <;> rfl) | fail) rfl | apply aops_ps (d := 12) (by first | exact ag_f (j := 2) (d := 11) rfl rfl rfl (by first | (simp only [look_lay, look, seval] <;> rfl) | fail) rfl | exact ag_u (j := 2) (d := 11) rfl rfl rfl (by first | (simp only [look_lay, look, seval] <;> rfl) | fail) | fail) rfl rfl); (first | apply aops_x (d := 13) (ag_b (j := 2) (d := 11) rfl rfl rfl (by first | (simp only [look_lay, look, seval] <;> rfl) | fail) rfl) rfl (by first | (simp (disch := decide) only [h1', go_sem, seval] <;> rfl) | (simp (disch := first | decide | omega) only [if_pos, nws, h1', go_sem, seval] <;> rfl)) rfl | apply aops_ps (d := 13) (by first | exact ag_f (j := 2) (d := 11) rfl rfl rfl (by first | (simp only [look_lay, look, seval] <;> rfl) | fail) rfl | exact ag_u (j := 2) (d := 11) rfl rfl rfl (by first | (simp only [look_lay, look, seval] <;> rfl) | fail) | fail) rfl rfl); apply aops_x (d := 14) (ag_n rfl) rfl (by first | (simp (disch := decide) only [h1', go_sem, seval] <;> rfl) | (simp (disch := first | decide | omega) only [if_pos, nws, h1', go_sem, seval] <;> rfl)) rfl; apply aops_as (t := 14) (d := 8) (ag_n rfl) rfl rfl (by first | (simp only [look_lay, look, seval] <;> rfl) | fail) rfl; apply aops_end; rfl) (by (simp (disch := omega) only [go_sem, seval, lay, nws]); rfl) ?_
      refine AWP.condF (b := _) rfl (by first | rfl | (simp only [decide_eq_true_eq, decide_eq_false_iff_not]; omega)) ?_
      refine AWP.sR (Gam.nil_ok _) [0, 1, 2, 15] (by apply aops_mv (t := 1) (d := 16) (ag_n rfl) rfl rfl (by first | (simp only [look_lay, look, seval] <;> rfl) | fail) rfl; apply aops_x (d := 17) (ag_n rfl) rfl (by first | (simp (disch := decide) only [h0', go_sem, seval] <;> rfl) | (simp (disch := first | decide | omega) only [if_pos, nws, h0', go_sem, seval] <;> rfl)) rfl; apply aops_as (t := 17) (d := 15) (ag_n rfl) rfl rfl (by first | (simp only [look_lay, look, seval] <;> rfl) | fail) rfl; apply aops_end; rfl) (by (simp (disch := omega) only [go_sem, seval, lay, nws]); rfl) ?_
      refine AWP.condF (b := _) rfl (by first | rfl | (simp only [decide_eq_true_eq, decide_eq_false_iff_not]; omega)) ?_
      refine AWP.skip ?_
      change AWP _ _ _ _ _
      refine AWP.sD (Gam.nil_ok _) (by kernel_rfl) [6, 7] [⟨[], true, 0⟩, ⟨[], true, 0⟩, ⟨[], true, 0⟩, ⟨[], true, 0⟩, ⟨[], true, 0⟩, ⟨[], true, 0⟩, ⟨[0], true, 0⟩, ⟨[], true, 0⟩, ⟨[], true, 0⟩, ⟨[], true, 0⟩, ⟨[], true, 0⟩, ⟨[], true, 0⟩, ⟨[], true, 0⟩, ⟨[0], true, 0⟩, ⟨[], true, 0⟩, ⟨[], true, 0⟩, ⟨[], true, 0⟩, ⟨[], true, 0⟩, ⟨[0], true, 0⟩, ⟨[], true, 0⟩, ⟨[], true, 0⟩] (by kernel_rfl) (by first | rfl | simp only [go_sem, ↓reduceIte, Nat.reduceLT, Nat.reduceAdd]) (by first | rfl | simp only [go_sem, ↓reduceIte, Nat.reduceLT, Nat.reduceAdd]) (by (repeat (first | apply arun_step (by first | exact ag_n rfl | exact ag_b rfl rfl rfl (by first | (simp only [look_lay, look, seval] <;> rfl) | fail) (by first | rfl | (simp only [↓p1, ↓p2, ↓p3, et, decide_true, decide_false] <;> rfl) | fail) | fail) (by first | (simp (disch := decide) only [↓p1, ↓p2, ↓p3, et, go_sem, seval]; rfl) | (simp (disch := first | decide | omega) only [if_pos, nws, ↓p1, ↓p2, ↓p3, et, go_sem, seval]; rfl)) (by first | (intro h; cases h; done) | (intro _; rfl) | (intro _; simp only [go_sem, seval, lay])) (by first | rfl | simp only [go_sem, seval, lay]) (by first | rfl | simp only [go_sem, seval, lay]) (by first | rfl | simp only [go_sem, seval, lay]) (by simp only [go_sem, seval, lay]; rfl) | apply arun_pass (by first | exact ag_f rfl rfl rfl (by first | (simp only [look_lay, look, seval] <;> rfl) | fail) (by first | rfl | (simp only [↓p1, ↓p2, ↓p3, et, decide_true, decide_false] <;> rfl) | fail) | exact ag_u rfl rfl rfl (by first | (simp only [look_lay, look, seval] <;> rfl) | fail) | fail) rfl (by simp only [go_sem, seval, lay]; rfl))); exact rfl) (by (simp (disch := omega) only [go_sem, seval, lay, nws]); rfl) ?_
      refine AWP.ret ?_
      refine ⟨.inr rfl, _, (by simp only [go_sem, seval] <;> rfl), ?_⟩
      simp only [go_sem, seval, Option.some.injEq, AV.c.injEq, AV.agg.injEq, CV.v.injEq, Value.int.injEq, Value.bool.injEq, Row.raw.injEq, List.cons.injEq, CV.sl.injEq, and_true, true_and, and_self]
      rw [if_neg h1', show divT (a : Int) (b : Int) = V from (show divN a b = V by unfold divN; rw [if_neg (by omega), hla, hlb, hex])]
def E33 : Entry := withE FT [.i .u8, .i .u8] (fun l d => l = [Tab] ∧ byteOk d.1 ∧ byteOk d.2.1) (fun l d => .tup [.c (ci .u8 (divT d.1 d.2.1)), .c (ci .i64 (if d.2.1 = 0 then 1 else 0))]) (fun _ _ => [])
theorem E33_ok : EntryOk Tryd.prog 33 E33 := withE_ok rfl (fun _ _ => rfl) (fun _ _ => rfl) fun l d hc => by
  obtain ⟨rfl, h1, h2⟩ := hc
  exact div_c d.1 d.2.1 h1 h2
attribute [go_sem] E33
def E12 : Entry := fun args H => match args with
  | [] => some (.c (.ptr H.length 0 1 0), H ++ [some (.ty FT [Tab])])
  | _ => none
theorem E12_ok : EntryOk Tryd.prog 12 E12 := fun args H r H' h => by
  unfold E12 at h
  split at h
  · cases h
    exact frameOk0 (C := H) [] new_c rfl (by simp) rfl (by simp) (fun i q hq => by simp at hq) rfl (fun i y hy => by simp at hy)
  · cases h
attribute [go_sem] E12
end Go.Proofs.YtggomleegbnhbaaDoor
