import Derived.Test.YtbdnhoddkdiogaaMr7
set_option linter.unusedSimpArgs false
set_option linter.unusedVariables false
namespace Go.Proofs.Ytbdnhoddkdiogaa
open Go.RowKit
def allF (l k : List (List Int)) (t : List Int) (a : Int) (pf : List (List Int)) : List (List Int) := (pathF t a l.length pf).2 ++ innerF l ++ innerF k
theorem any_succ (f : Nat → Bool) (n : Nat) : (List.range (n + 1)).any f = ((List.range n).any f || f n) := by rw [List.range_succ, List.any_append]; simp
theorem hit_at {all : List (List Int)} {i j : Nat} {x y : List Int} (hx : all[i]? = some x) (hy : all[j]? = some y) : hit all i j = (decide (dg x = dg y) && !decide (x = y)) := by
  unfold hit
  rw [List.getD_eq_getElem?_getD, List.getD_eq_getElem?_getD, hx, hy]; rfl
theorem smallOk_one {x : List Int} (h : x.length ≤ 1000001) : smallOk [x] := ⟨by simp, fun t ht => by simp only [List.mem_singleton] at ht; subst ht; omega⟩
theorem dg_beq (x y : List Int) : (dg x == dg y) = decide (dg x = dg y) := by rw [Bool.eq_iff_iff]; simp
abbrev c35 (l : (List (List Int))) (k : (List (List Int))) (t : (List Int)) (a : Int) (pf : (List (List Int))) : Prop := (textsOk l ∧ l.length ≤ 1000) ∧ (textsOk k ∧ k.length ≤ 1000) ∧ (bytesOk t ∧ t.length ≤ 1000000) ∧ (-9223372036854775808 ≤ a ∧ a < 9223372036854775808) ∧ digestsOk pf ∧ pf.length ≤ 1000
abbrev r35 (l : (List (List Int))) (k : (List (List Int))) (t : (List Int)) (a : Int) (pf : (List (List Int))) : AV := .c (cb (clashB (allF l k t a pf)))
abbrev L35 (l : (List (List Int))) (k : (List (List Int))) (t : (List Int)) (a : Int) (pf : (List (List Int))) : Hp := []
def E35 : Entry := pureN [(.sl (.sl (.i .u8))), (.sl (.sl (.i .u8))), (.sl (.i .u8)), (.i .i64), (.sl (.ar 32 (.i .u8)))] (fun d => c35 d.1 d.2.1 d.2.2.1 d.2.2.2.1 d.2.2.2.2.1) (fun d => r35 d.1 d.2.1 d.2.2.1 d.2.2.2.1 d.2.2.2.2.1) (fun d => L35 d.1 d.2.1 d.2.2.1 d.2.2.2.1 d.2.2.2.2.1)
set_option maxRecDepth 100000 in
set_option maxHeartbeats 4000000 in
theorem K35 (l : (List (List Int))) (k : (List (List Int))) (t : (List Int)) (a : Int) (pf : (List (List Int))) (hc : c35 l k t a pf) : CallOk Try.prog 35 [.c (.rs (.sl (.i .u8)) l), .c (.rs (.sl (.i .u8)) k), .c (.rs (.i .u8) t), .c (ci .i64 a), .c (.rs (.ar 32 (.i .u8)) pf)] [] (r35 l k t a pf) (L35 l k t a pf) := by
  have hc : (textsOk l ∧ l.length ≤ 1000) ∧ (textsOk k ∧ k.length ≤ 1000) ∧ (bytesOk t ∧ t.length ≤ 1000000) ∧ (-9223372036854775808 ≤ a ∧ a < 9223372036854775808) ∧ digestsOk pf ∧ pf.length ≤ 1000 := hc
  obtain ⟨⟨hl, hll⟩, ⟨hk, hkl⟩, ht, ha, hp, hpl⟩ := hc
  obtain ⟨o1, o2, o3⟩ := pathF_ok t ht pf.length a l.length pf rfl hp
  have o1l := o1.2
  have n1 := innerF_le l
  have n2 := innerF_le k
  have i1 := innerF_ok l.length l (Nat.le_refl _) hl
  have i2 := innerF_ok k.length k (Nat.le_refl _) hk
  have ob : bitsOk (allF l k t a pf) := bitsOk_app (bitsOk_app o2 i1) i2
  have ol : (allF l k t a pf).length ≤ 10000 := by unfold allF; rw [List.length_append, List.length_append]; omega
  have gok := (Gam.cons_ok E17_ok (Gam.cons_ok E25_ok (Gam.cons_ok E59_ok (Gam.cons_ok E60_ok (Gam.nil_ok _)))))
  refine callOk' Try.func35 67 [.tmp 10] _ rfl rfl rfl (by kernel_rfl) (by simp) [] rfl rfl (by simp) ?_
  simp only [params]
  refine AWP.sR gok [0, 1, 2, 3, 4] (by apply aops_x (d := 10) (ag_n rfl) rfl (by first | (simp (disch := decide) only [dg_len, go_sem, seval] <;> rfl) | (simp (disch := first | decide | omega) only [if_pos, nws, dg_len, go_sem, seval] <;> rfl)) rfl; apply aops_end; rfl) (by (simp (disch := omega) only [go_sem, seval, lay, nws]); rfl) ?_
  refine AWP.sR gok [0, 1, 12] (by apply aops_mv (t := 2) (d := 16) (ag_n rfl) rfl rfl (by simp only [look_lay, look, seval] <;> rfl) rfl; apply aops_mv (t := 3) (d := 17) (ag_n rfl) rfl rfl (by simp only [look_lay, look, seval] <;> rfl) rfl; apply aops_mv (t := 0) (d := 18) (ag_n rfl) rfl rfl (by simp only [look_lay, look, seval] <;> rfl) rfl; apply aops_x (d := 19) (ag_n rfl) rfl (by first | (simp (disch := decide) only [dg_len, ht, hp, hpl, o1l, Int.toNat_natCast, go_sem, seval] <;> rfl) | (simp (disch := first | decide | omega) only [if_pos, nws, dg_len, ht, hp, hpl, o1l, Int.toNat_natCast, go_sem, seval] <;> rfl)) rfl; apply aops_mv (t := 4) (d := 20) (ag_n rfl) rfl rfl (by simp only [look_lay, look, seval] <;> rfl) rfl; apply aops_x (d := 21) (ag_n rfl) rfl (by (simp (disch := first | decide | omega) only [if_pos, nws, dg_len, ht, hp, hpl, o1l, Int.toNat_natCast, go_sem, seval] <;> rfl)) rfl; apply aops_mv (t := 21) (d := 15) (ag_n rfl) rfl rfl (by simp only [look_lay, look, seval] <;> rfl) rfl; apply aops_x (d := 22) (ag_n rfl) rfl (by first | (simp (disch := decide) only [dg_len, ht, hp, hpl, o1l, Int.toNat_natCast, go_sem, seval] <;> rfl) | (simp (disch := first | decide | omega) only [if_pos, nws, dg_len, ht, hp, hpl, o1l, Int.toNat_natCast, go_sem, seval] <;> rfl)) rfl; apply aops_x (d := 23) (ag_n rfl) rfl (by first | (simp (disch := decide) only [dg_len, ht, hp, hpl, o1l, Int.toNat_natCast, go_sem, seval] <;> rfl) | (simp (disch := first | decide | omega) only [if_pos, nws, dg_len, ht, hp, hpl, o1l, Int.toNat_natCast, go_sem, seval] <;> rfl)) rfl; apply aops_x (d := 11) (ag_n rfl) rfl (by first | (simp (disch := decide) only [dg_len, ht, hp, hpl, o1l, Int.toNat_natCast, go_sem, seval] <;> rfl) | (simp (disch := first | decide | omega) only [if_pos, nws, dg_len, ht, hp, hpl, o1l, Int.toNat_natCast, go_sem, seval] <;> rfl)) rfl; apply aops_s (ag_n rfl) rfl (by first | (simp (disch := decide) only [dg_len, ht, hp, hpl, o1l, Int.toNat_natCast, go_sem, seval] <;> rfl) | (simp (disch := first | decide | omega) only [if_pos, nws, dg_len, ht, hp, hpl, o1l, Int.toNat_natCast, go_sem, seval] <;> rfl)); apply aops_as (t := 23) (d := 12) (ag_n rfl) rfl rfl (by simp only [look_lay, look, seval] <;> rfl) rfl; apply aops_end; rfl) (by (simp (disch := omega) only [go_sem, seval, lay, nws]); rfl) ?_
  refine AWP.sR gok [12] (by apply aops_mv (t := 12) (d := 24) (ag_n rfl) rfl rfl (by simp only [look_lay, look, seval] <;> rfl) rfl; apply aops_mv (t := 0) (d := 25) (ag_n rfl) rfl rfl (by simp only [look_lay, look, seval] <;> rfl) rfl; apply aops_x (d := 26) (ag_n rfl) rfl (by (simp (disch := first | decide | omega) only [if_pos, nws, dg_len, hl, hk, List.length_append, go_sem, seval] <;> rfl)) rfl; apply aops_x (d := 27) (ag_n rfl) rfl (by (simp (disch := first | decide | omega) only [if_pos, nws, dg_len, hl, hk, List.length_append, go_sem, seval] <;> rfl)) rfl; apply aops_mv (t := 1) (d := 28) (ag_n rfl) rfl rfl (by simp only [look_lay, look, seval] <;> rfl) rfl; apply aops_x (d := 29) (ag_n rfl) rfl (by (simp (disch := first | decide | omega) only [if_pos, nws, dg_len, hl, hk, List.length_append, go_sem, seval] <;> rfl)) rfl; apply aops_x (d := 30) (ag_n rfl) rfl (by (simp (disch := first | decide | omega) only [if_pos, nws, dg_len, hl, hk, List.length_append, go_sem, seval] <;> rfl)) rfl; apply aops_as (t := 30) (d := 12) (ag_n rfl) rfl rfl (by simp only [look_lay, look, seval] <;> rfl) rfl; apply aops_end; rfl) (by (simp (disch := omega) only [go_sem, seval, lay, nws]); rfl) ?_
  refine AWP.seq ?_
  have ea : (pathF t a l.length pf).2 ++ (innerF l ++ innerF k) = allF l k t a pf := by unfold allF; rw [List.append_assoc]
  have el : (pathF t a l.length pf).2.length + (innerF l).length + (innerF k).length = (allF l k t a pf).length := by rw [← ea, List.length_append, List.length_append]; omega
  generalize hall : allF l k t a pf = all at ob ol ea el ⊢
  refine AWP.sR gok [12, 32, 33] (by apply aops_mv (t := 12) (d := 31) (ag_n rfl) rfl rfl (by simp only [look_lay, look, seval] <;> rfl) rfl; apply aops_x (d := 32) (ag_n rfl) rfl (by first | (simp (disch := decide) only [dg_len, el, go_sem, seval] <;> rfl) | (simp (disch := first | decide | omega) only [if_pos, nws, dg_len, el, go_sem, seval] <;> rfl)) rfl; apply aops_x (d := 33) (ag_n rfl) rfl (by first | (simp (disch := decide) only [dg_len, el, go_sem, seval] <;> rfl) | (simp (disch := first | decide | omega) only [if_pos, nws, dg_len, el, go_sem, seval] <;> rfl)) rfl; apply aops_end; rfl) (by (simp (disch := omega) only [go_sem, seval, lay, nws]); rfl) ?_
  refine AWP.block ?_
  refine AWP.loopP (fun (p : Nat) => ⟨67, [(12, .c (.sl 0 0 all.length 1)), (32, .c (ci .i64 (all.length : Int))), (33, .c (ci .i64 (p : Int)))], [some (.ty (.sl (.i .u8)) all)]⟩) (fun p => p ≤ all.length ∧ (List.range p).any (fun i => (List.range i).any fun j => hit all i j) = false) (fun p => all.length - p) 0 (Ghost.trans (Ghost.gc (ρ := [5]) (by simp only [go_sem, seval] <;> rfl) rfl rfl rfl) (Ghost.of_eq (by simp only [el, ea] <;> rfl))) ⟨Nat.zero_le _, rfl⟩ ?_
  rintro i ⟨h1, h2⟩
  refine AWP.sR gok [12, 32, 33, 34] (by apply aops_x (d := 34) (ag_n rfl) rfl (by first | (simp (disch := decide) only [dg_len, go_sem, seval] <;> rfl) | (simp (disch := first | decide | omega) only [if_pos, nws, dg_len, go_sem, seval] <;> rfl)) rfl; apply aops_end; rfl) (by (simp (disch := omega) only [go_sem, seval, lay, nws]); rfl) ?_
  refine AWP.seq ?_
  refine AWP.cond (b := _) rfl (fun h => ?_) (fun h => ?_) <;> (try simp only [decide_eq_true_eq, decide_eq_false_iff_not] at h)
  · skip
    refine AWP.skip ?_
    change AWP _ _ _ _ _
    refine AWP.seqBlock ?_
    have h' : i < all.length := by omega
    obtain ⟨x, hx⟩ : ∃ x, all[i]? = some x := ⟨_, List.getElem?_eq_getElem h'⟩
    have xo := ob x (List.mem_of_getElem? hx)
    have xb := xo.1
    have xl : x.length ≤ 2147483648 := Nat.le_trans xo.2 (by omega)
    refine AWP.sR gok [12, 13, 32, 33] (by apply aops_mv (t := 33) (d := 35) (ag_n rfl) rfl rfl (by simp only [look_lay, look, seval] <;> rfl) rfl; apply aops_as (t := 35) (d := 13) (ag_n rfl) rfl rfl (by simp only [look_lay, look, seval] <;> rfl) rfl; apply aops_end; rfl) (by (simp (disch := omega) only [go_sem, seval, lay, nws]); rfl) ?_
    refine AWP.sR gok [12, 13, 32, 33, 36, 37] (by apply aops_mv (t := 13) (d := 36) (ag_n rfl) rfl rfl (by simp only [look_lay, look, seval] <;> rfl) rfl; apply aops_x (d := 37) (ag_n rfl) rfl (by first | (simp (disch := decide) only [dg_len, go_sem, seval] <;> rfl) | (simp (disch := first | decide | omega) only [if_pos, nws, dg_len, go_sem, seval] <;> rfl)) rfl; apply aops_end; rfl) (by (simp (disch := omega) only [go_sem, seval, lay, nws]); rfl) ?_
    refine AWP.block ?_
    refine AWP.loopP (fun (p : Nat) => ⟨67, [(12, .c (.sl 0 0 all.length 1)), (13, .c (ci .i64 (i : Int))), (32, .c (ci .i64 (all.length : Int))), (33, .c (ci .i64 (i : Int))), (36, .c (ci .i64 (i : Int))), (37, .c (ci .i64 (p : Int)))], [some (.ty (.sl (.i .u8)) all)]⟩) (fun p => p ≤ i ∧ (List.range p).any (fun j => hit all i j) = false) (fun p => i - p) 0 (Ghost.refl _ _) ⟨Nat.zero_le _, rfl⟩ ?_
    rintro j ⟨j1, j2⟩
    refine AWP.sR gok [12, 13, 32, 33, 36, 37, 38] (by apply aops_x (d := 38) (ag_n rfl) rfl (by first | (simp (disch := decide) only [dg_len, go_sem, seval] <;> rfl) | (simp (disch := first | decide | omega) only [if_pos, nws, dg_len, go_sem, seval] <;> rfl)) rfl; apply aops_end; rfl) (by (simp (disch := omega) only [go_sem, seval, lay, nws]); rfl) ?_
    refine AWP.seq ?_
    refine AWP.cond (b := _) rfl (fun h => ?_) (fun h => ?_) <;> (try simp only [decide_eq_true_eq, decide_eq_false_iff_not] at h)
    · skip
      refine AWP.skip ?_
      change AWP _ _ _ _ _
      refine AWP.seqBlock ?_
      have j' : j < i := by omega
      obtain ⟨y, hy⟩ : ∃ y, all[j]? = some y := ⟨_, List.getElem?_eq_getElem (by omega)⟩
      have yo := ob y (List.mem_of_getElem? hy)
      have yb := yo.1
      have yl : y.length ≤ 2147483648 := Nat.le_trans yo.2 (by omega)
      have sx := smallOk_one xo.2
      have sy := smallOk_one yo.2
      have eh := hit_at hx hy
      refine AWP.sR gok [12, 13, 14, 32, 33, 36, 37] (by apply aops_mv (t := 37) (d := 39) (ag_n rfl) rfl rfl (by simp only [look_lay, look, seval] <;> rfl) rfl; apply aops_as (t := 39) (d := 14) (ag_n rfl) rfl rfl (by simp only [look_lay, look, seval] <;> rfl) rfl; apply aops_end; rfl) (by (simp (disch := omega) only [go_sem, seval, lay, nws]); rfl) ?_
      refine AWP.sDG gok (by kernel_rfl) [⟨[], true, 0⟩, ⟨[], true, 0⟩, ⟨[], true, 0⟩, ⟨[0], true, 0⟩, ⟨[], true, 0⟩, ⟨[], true, 0⟩, ⟨[], true, 0⟩, ⟨[], true, 0⟩, ⟨[0], true, 0⟩, ⟨[], true, 0⟩, ⟨[], true, 0⟩, ⟨[], true, 0⟩, ⟨[], true, 0⟩, ⟨[], true, 0⟩, ⟨[], true, 0⟩, ⟨[0], true, 0⟩, ⟨[], true, 1⟩, ⟨[], true, 0⟩, ⟨[], true, 0⟩, ⟨[], true, 0⟩, ⟨[0], true, 0⟩, ⟨[], true, 1⟩, ⟨[1, 2], true, 0⟩, ⟨[], true, 0⟩, ⟨[], true, 0⟩] (by kernel_rfl) (by first | rfl | simp only [go_sem, ↓reduceIte, Nat.reduceLT, Nat.reduceAdd]) (by first | rfl | simp only [go_sem, ↓reduceIte, Nat.reduceLT, Nat.reduceAdd]) (s2 := ⟨67, [(12, .c (.sl 0 0 all.length 1)), (13, .c (ci .i64 (i : Int))), (32, .c (ci .i64 (all.length : Int))), (33, .c (ci .i64 (i : Int))), (36, .c (ci .i64 (i : Int))), (37, .c (ci .i64 (j : Int))), (64, .c (cb (hit all i j)))], [some (.ty (.sl (.i .u8)) all)]⟩) (by (cases hd : decide (dg x = dg y)) <;> refine ⟨_, (by (repeat (first | apply arun_step (by first | rfl | (simp only [go_sem, seval, lay]; rfl)) (by first | (simp (disch := decide) only [dg_len, hx, hy, xb, xl, yb, yl, sx, sy, dg_beq, hd, eh, List.cons.injEq, and_true, go_sem, seval]; rfl) | (simp (disch := first | decide | omega) only [if_pos, nws, dg_len, hx, hy, xb, xl, yb, yl, sx, sy, dg_beq, hd, eh, List.cons.injEq, and_true, go_sem, seval]; rfl)) (by first | (intro h; cases h; done) | (intro _; rfl) | (intro _; simp only [go_sem, seval, lay])) (by first | rfl | simp only [go_sem, seval, lay]) (by first | rfl | simp only [go_sem, seval, lay]) (by first | rfl | simp only [go_sem, seval, lay]) (by simp only [go_sem, seval, lay]; rfl) | apply arun_pass (by first | rfl | (simp only [go_sem, seval, lay]; rfl)) rfl (by simp only [go_sem, seval, lay]; rfl))); exact rfl), (Ghost.trans (Ghost.trans (Ghost.trim _ [12, 13, 32, 33, 36, 37, 64] _) (Ghost.of_eq (by (simp (disch := omega) only [go_sem, seval, lay, nws]) <;> rfl))) (Ghost.trans (Ghost.gc (ρ := [0]) (by simp only [go_sem, seval] <;> rfl) rfl rfl rfl) (Ghost.of_eq (by first | ((simp (disch := first | decide | omega) only [dg_len, hx, hy, xb, xl, yb, yl, sx, sy, dg_beq, hd, eh, List.cons.injEq, and_true, go_sem, seval, lay, nws]) <;> with_reducible rfl) | with_reducible rfl | rfl))))⟩) ?_
      refine AWP.cond (b := _) rfl (fun h => ?_) (fun h => ?_) <;> (try simp only [decide_eq_true_eq, decide_eq_false_iff_not] at h)
      · skip
        refine AWP.sR gok [10] (by apply aops_x (d := 10) (ag_n rfl) rfl (by first | (simp (disch := decide) only [dg_len, go_sem, seval] <;> rfl) | (simp (disch := first | decide | omega) only [if_pos, nws, dg_len, go_sem, seval] <;> rfl)) rfl; apply aops_end; rfl) (by (simp (disch := omega) only [go_sem, seval, lay, nws]); rfl) ?_
        refine AWP.ret ?_
        refine ⟨.inr rfl, _, (by simp only [go_sem, seval, dg_len] <;> rfl), ?_⟩
        simp only [go_sem, seval, dg_len, Option.some.injEq, AV.c.injEq, AV.agg.injEq, CV.v.injEq, Value.int.injEq, Value.bool.injEq, Row.raw.injEq, List.cons.injEq, CV.sl.injEq, and_true, true_and, and_self]
        rw [hall]
        exact (List.any_eq_true.2 ⟨i, List.mem_range.2 h', List.any_eq_true.2 ⟨j, List.mem_range.2 j', h⟩⟩).symm
      · skip
        refine AWP.skip ?_
        change AWP _ _ _ _ _
        refine AWP.rT gok [12, 13, 32, 33, 36, 37] (by apply aops_x (d := 65) (ag_n rfl) rfl (by first | (simp (disch := decide) only [dg_len, go_sem, seval] <;> rfl) | (simp (disch := first | decide | omega) only [if_pos, nws, dg_len, go_sem, seval] <;> rfl)) rfl; apply aops_mv (t := 65) (d := 37) (ag_n rfl) rfl rfl (by simp only [look_lay, look, seval] <;> rfl) rfl; apply aops_end; rfl) (by (simp (disch := omega) only [go_sem, seval, lay, nws]); rfl) ?_
        exact ⟨j + 1, Ghost.of_eq (by simp only [Int.natCast_add, Int.cast_ofNat_Int] <;> rfl), ⟨by omega, by rw [any_succ, j2, h]; rfl⟩, by omega⟩
    · skip
      refine AWP.exit ?_
      change AWP _ _ _ _ _
      refine AWP.rT gok [12, 32, 33] (by apply aops_x (d := 66) (ag_n rfl) rfl (by first | (simp (disch := decide) only [dg_len, go_sem, seval] <;> rfl) | (simp (disch := first | decide | omega) only [if_pos, nws, dg_len, go_sem, seval] <;> rfl)) rfl; apply aops_mv (t := 66) (d := 33) (ag_n rfl) rfl rfl (by simp only [look_lay, look, seval] <;> rfl) rfl; apply aops_end; rfl) (by (simp (disch := omega) only [go_sem, seval, lay, nws]); rfl) ?_
      have ej : j = i := by omega
      rw [ej] at j2
      exact ⟨i + 1, Ghost.of_eq (by simp only [Int.natCast_add, Int.cast_ofNat_Int] <;> rfl), ⟨by omega, by rw [any_succ, h2, j2]; rfl⟩, by omega⟩
  · skip
    refine AWP.exit ?_
    change AWP _ _ _ _ _
    refine AWP.sR gok [10] (by apply aops_x (d := 10) (ag_n rfl) rfl (by first | (simp (disch := decide) only [dg_len, go_sem, seval] <;> rfl) | (simp (disch := first | decide | omega) only [if_pos, nws, dg_len, go_sem, seval] <;> rfl)) rfl; apply aops_end; rfl) (by (simp (disch := omega) only [go_sem, seval, lay, nws]); rfl) ?_
    refine AWP.ret ?_
    refine ⟨.inr rfl, _, (by simp only [go_sem, seval, dg_len] <;> rfl), ?_⟩
    simp only [go_sem, seval, dg_len, Option.some.injEq, AV.c.injEq, AV.agg.injEq, CV.v.injEq, Value.int.injEq, Value.bool.injEq, Row.raw.injEq, List.cons.injEq, CV.sl.injEq, and_true, true_and, and_self]
    have ei : i = all.length := by omega
    rw [hall]
    unfold clashB
    rw [← ei, h2]
theorem E35_ok : EntryOk Try.prog 35 E35 := pureN_ok (fun d hc => K35 d.1 d.2.1 d.2.2.1 d.2.2.2.1 d.2.2.2.2.1 hc) (fun _ => rfl) (fun _ => rfl)
attribute [go_sem] E35 c35 r35 L35
theorem root_beq (x y : List (List Int)) : (rootF x == rootF y) = decide (rootF x = rootF y) := by rw [Bool.eq_iff_iff]; simp
theorem small_texts {l : List (List Int)} (h : textsOk l) (hl : l.length ≤ 1000) : smallOk l := ⟨by omega, fun t ht => by have := (h t ht).2; omega⟩
theorem in_all1 (l k : List (List Int)) (t : List Int) (a : Int) (pf : List (List Int)) : ∀ x ∈ (pathF t a l.length pf).2, x ∈ allF l k t a pf := fun x hx => by unfold allF; simp [hx]
theorem in_all2 (l k : List (List Int)) (t : List Int) (a : Int) (pf : List (List Int)) : ∀ x ∈ innerF l, x ∈ allF l k t a pf := fun x hx => by unfold allF; simp [hx]
theorem in_all3 (l k : List (List Int)) (t : List Int) (a : Int) (pf : List (List Int)) : ∀ x ∈ innerF k, x ∈ allF l k t a pf := fun x hx => by unfold allF; simp [hx]
theorem binds_clash (l k : List (List Int)) (t : List Int) (a : Int) (pf : List (List Int)) (hd : digestsOk pf)
    (h : (decide (rootF k = rootF l) && !decide (l = k)) = true ∨ (showsF (rootF l) t a l.length pf && !decide ([l.getD a.toNat []] = [t])) = true) : clashB (allF l k t a pf) = true := by
  rcases h with h | h
  · simp only [Bool.and_eq_true, decide_eq_true_eq, Bool.not_eq_true', decide_eq_false_iff_not] at h
    rcases binds l.length l k (Nat.le_refl _) h.1.symm with e | c
    · exact (h.2 e).elim
    · exact clash_hit c (in_all2 l k t a pf) (in_all3 l k t a pf)
  · simp only [Bool.and_eq_true, Bool.not_eq_true', decide_eq_false_iff_not] at h
    rcases (shows_binds l t a pf hd h.1).2 with e | c
    · exact (h.2 (by rw [← e])).elim
    · exact clash_hit c (in_all1 l k t a pf) (in_all2 l k t a pf)
end Go.Proofs.Ytbdnhoddkdiogaa
