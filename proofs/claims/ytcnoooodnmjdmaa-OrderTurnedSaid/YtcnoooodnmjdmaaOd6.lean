import Derived.Test.YtcnoooodnmjdmaaOd5
set_option linter.unusedSimpArgs false
set_option linter.unusedVariables false
namespace Go.Proofs.Ytcnoooodnmjdmaa
open Go.RowKit Sorts
/-! Places are sorted, those alike as they stood. -/
set_option maxRecDepth 100000
def cSt (xs : List Int) (hs : List Hd) : List Int → Prop
  | [n] => n = (xs.length : Int) ∧ xs.length ≤ 100000 ∧ hsOk hs ∧ ∀ x ∈ xs, inH hs x
  | _ => False
instance (xs : List Int) (hs : List Hd) (is : List Int) : Decidable (cSt xs hs is) := by unfold cSt; split <;> infer_instance
def fSt (xs : List Int) (hs : List Hd) (is : List Int) : List Int := sortF (ltH hs) xs
theorem Kst (hw : ∀ hs, Weak (ltH hs)) (xs : List Int) (hs : List Hd) (h4 : xs.length ≤ 100000) (hh : hsOk hs) (hin : ∀ x ∈ xs, inH hs x) :
    CallOk Try.prog 21 [.c (.sl 0 0 xs.length 1), .c (ci .i64 (xs.length : Int)), .c (.fn Fc [1])] [some (.ty IT xs), some (.raw [.rs HT hs])] (.tup []) [some (.ty IT (sortF (ltH hs) xs)), some (.raw [.rs HT hs])] := by
  have gok := (Gam.cons_ok (Eins_ok hw) (Gam.cons_ok (EsymN_ok hw 1000001) (Gam.nil_ok _)))
  refine callOk' Try.func21 63 [] _ rfl rfl rfl (by kernel_rfl) (by simp) [0, 1] rfl rfl (by simp) ?_
  simp only [params]
  refine AWP.sR gok [0, 1, 2, 6] (by apply aops_x (d := 6) (ag_n rfl) rfl (by first | (simp (disch := decide) only [go_sem, seval] <;> rfl) | (simp (disch := first | decide | omega) only [if_pos, nws, go_sem, seval] <;> rfl)) rfl; apply aops_end; rfl) (by (simp (disch := omega) only [go_sem, seval, lay, nws]); rfl) ?_
  refine AWP.sR gok [0, 1, 2, 6, 7, 8] (by apply aops_mv (t := 6) (d := 10) (ag_n rfl) rfl rfl (by first | (simp only [look_lay, look, seval] <;> rfl) | fail) rfl; apply aops_x (d := 7) (ag_n rfl) rfl (by first | (simp (disch := decide) only [go_sem, seval] <;> rfl) | (simp (disch := first | decide | omega) only [if_pos, nws, go_sem, seval] <;> rfl)) rfl; apply aops_as (t := 10) (d := 8) (ag_n rfl) rfl rfl (by first | (simp only [look_lay, look, seval] <;> rfl) | fail) rfl; apply aops_end; rfl) (by (simp (disch := omega) only [go_sem, seval, lay, nws]); rfl) ?_
  refine AWP.seqBlock ?_
  refine AWP.loopP (fun (p : Nat × List Int) => ⟨63, [(0, .c (.sl 0 0 xs.length 1)), (1, .c (ci .i64 (xs.length : Int))), (2, .c (.fn Fc [1])), (6, .c (ci .i64 20)), (7, .c (ci .i64 (p.1 : Int))), (8, .c (ci .i64 ((p.1 + 20 : Nat) : Int)))], [some (.ty IT p.2), some (.raw [.rs HT hs])]⟩) (fun p => BlkA (ltH hs) xs p.2 20 p.1 ∧ ∀ x ∈ p.2, inH hs x) (fun p => xs.length - p.1) (0, xs) (Ghost.refl _ _) ⟨BlkA.start xs 20, hin⟩ ?_
  rintro ⟨a, ys⟩ ⟨i1, i2⟩
  simp only at i1 i2 ⊢
  obtain ⟨⟨hl, -, hal⟩, -⟩ := id i1
  refine AWP.seq ?_
  refine AWP.sR gok [0, 1, 2, 6, 7, 8, 13] (by apply aops_mv (t := 8) (d := 11) (ag_n rfl) rfl rfl (by first | (simp only [look_lay, look, seval] <;> rfl) | fail) rfl; apply aops_mv (t := 1) (d := 12) (ag_n rfl) rfl rfl (by first | (simp only [look_lay, look, seval] <;> rfl) | fail) rfl; apply aops_x (d := 13) (ag_n rfl) rfl (by first | (simp (disch := decide) only [go_sem, seval] <;> rfl) | (simp (disch := first | decide | omega) only [if_pos, nws, go_sem, seval] <;> rfl)) rfl; apply aops_end; rfl) (by (simp (disch := omega) only [go_sem, seval, lay, nws]); rfl) ?_
  refine AWP.cond (b := _) rfl (fun h => ?_) (fun h => ?_) <;> (try simp only [decide_eq_true_eq, decide_eq_false_iff_not] at h)
  · skip
    refine AWP.skip ?_
    change AWP _ _ _ _ _
    refine AWP.block ?_
    have hc : cIns ys hs [(a : Int), ((a + 20 : Nat) : Int)] := ⟨by omega, by omega, by omega, hh, i2⟩
    have hnx := i1.next (by decide) (show a + 20 ≤ xs.length by omega)
    refine AWP.sR gok [0, 1, 2, 6, 8] (by apply aops_mv (t := 0) (d := 14) (ag_n rfl) rfl rfl (by first | (simp only [look_lay, look, seval] <;> rfl) | fail) rfl; apply aops_mv (t := 7) (d := 15) (ag_n rfl) rfl rfl (by first | (simp only [look_lay, look, seval] <;> rfl) | fail) rfl; apply aops_mv (t := 8) (d := 16) (ag_n rfl) rfl rfl (by first | (simp only [look_lay, look, seval] <;> rfl) | fail) rfl; apply aops_mv (t := 2) (d := 17) (ag_n rfl) rfl rfl (by first | (simp only [look_lay, look, seval] <;> rfl) | fail) rfl; apply aops_x (d := 18) (ag_n rfl) rfl (by (simp (disch := first | decide | omega) only [if_pos, nws, hc, fIns_cast, hl, go_sem, seval] <;> rfl)) rfl; apply aops_end; rfl) (by (simp (disch := omega) only [go_sem, seval, lay, nws]); rfl) ?_
    refine AWP.sR gok [0, 1, 2, 6, 7, 8] (by apply aops_mv (t := 8) (d := 19) (ag_n rfl) rfl rfl (by first | (simp only [look_lay, look, seval] <;> rfl) | fail) rfl; apply aops_as (t := 19) (d := 7) (ag_n rfl) rfl rfl (by first | (simp only [look_lay, look, seval] <;> rfl) | fail) rfl; apply aops_end; rfl) (by (simp (disch := omega) only [go_sem, seval, lay, nws]); rfl) ?_
    refine AWP.rT gok [0, 1, 2, 6, 7, 8] (by apply aops_mv (t := 8) (d := 20) (ag_n rfl) rfl rfl (by first | (simp only [look_lay, look, seval] <;> rfl) | fail) rfl; apply aops_mv (t := 6) (d := 21) (ag_n rfl) rfl rfl (by first | (simp only [look_lay, look, seval] <;> rfl) | fail) rfl; apply aops_x (d := 22) (ag_n rfl) rfl (by first | (simp (disch := decide) only [go_sem, seval] <;> rfl) | (simp (disch := first | decide | omega) only [if_pos, nws, go_sem, seval] <;> rfl)) rfl; apply aops_as (t := 22) (d := 8) (ag_n rfl) rfl rfl (by first | (simp only [look_lay, look, seval] <;> rfl) | fail) rfl; apply aops_end; rfl) (by (simp (disch := omega) only [go_sem, seval, lay, nws]); rfl) ?_
    exact ⟨(a + 20, insR (ltH hs) ys a (a + 20)), Ghost.of_eq (by rw [show ((a + 20 + 20 : Nat) : Int) = ((a + 20 : Nat) : Int) + 20 by omega] <;> rfl), ⟨hnx, fun x hx => i2 x (mem_insR hx)⟩, by simp only; omega⟩
  · skip
    refine AWP.exit ?_
    change AWP _ _ _ _ _
    have hc : cIns ys hs [(a : Int), (xs.length : Int)] := ⟨by omega, by omega, by omega, hh, i2⟩
    have hbk := i1.end (by decide) (show xs.length < a + 20 by omega)
    have hbi : ∀ x ∈ insR (ltH hs) ys a xs.length, inH hs x := fun x hx => i2 x (mem_insR hx)
    refine AWP.sR gok [0, 1, 2, 6] (by apply aops_mv (t := 0) (d := 23) (ag_n rfl) rfl rfl (by first | (simp only [look_lay, look, seval] <;> rfl) | fail) rfl; apply aops_mv (t := 7) (d := 24) (ag_n rfl) rfl rfl (by first | (simp only [look_lay, look, seval] <;> rfl) | fail) rfl; apply aops_mv (t := 1) (d := 25) (ag_n rfl) rfl rfl (by first | (simp only [look_lay, look, seval] <;> rfl) | fail) rfl; apply aops_mv (t := 2) (d := 26) (ag_n rfl) rfl rfl (by first | (simp only [look_lay, look, seval] <;> rfl) | fail) rfl; apply aops_x (d := 27) (ag_n rfl) rfl (by (simp (disch := first | decide | omega) only [if_pos, nws, hc, fIns_cast, hl, go_sem, seval] <;> rfl)) rfl; apply aops_end; rfl) (by (simp (disch := omega) only [go_sem, seval, lay, nws]); rfl) ?_
    refine AWP.block ?_
    refine AWP.loopP (fun (p : Nat × List Int) => ⟨63, [(0, .c (.sl 0 0 xs.length 1)), (1, .c (ci .i64 (xs.length : Int))), (2, .c (.fn Fc [1])), (6, .c (ci .i64 (p.1 : Int)))], [some (.ty IT p.2), some (.raw [.rs HT hs])]⟩) (fun p => (0 < p.1 ∧ p.1 ≤ 200000) ∧ Blk (ltH hs) xs p.2 p.1 ∧ ∀ x ∈ p.2, inH hs x) (fun p => xs.length - p.1) (20, insR (ltH hs) ys a xs.length) (Ghost.trans (Ghost.trim _ [0, 1, 2, 6] _) (Ghost.of_eq (by (simp (disch := omega) only [go_sem, seval, lay, nws]) <;> rfl))) ⟨⟨by simp only; omega, by simp only; omega⟩, hbk, hbi⟩ ?_
    rintro ⟨bs, zs⟩ ⟨⟨j1, j2⟩, j3, j4⟩
    simp only at j1 j2 j3 j4 ⊢
    have e2 : 2 * (bs : Int) = ((bs * 2 : Nat) : Int) := by omega
    refine AWP.seq ?_
    refine AWP.sR gok [0, 1, 2, 6, 30] (by apply aops_mv (t := 6) (d := 28) (ag_n rfl) rfl rfl (by first | (simp only [look_lay, look, seval] <;> rfl) | fail) rfl; apply aops_mv (t := 1) (d := 29) (ag_n rfl) rfl rfl (by first | (simp only [look_lay, look, seval] <;> rfl) | fail) rfl; apply aops_x (d := 30) (ag_n rfl) rfl (by first | (simp (disch := decide) only [go_sem, seval] <;> rfl) | (simp (disch := first | decide | omega) only [if_pos, nws, go_sem, seval] <;> rfl)) rfl; apply aops_end; rfl) (by (simp (disch := omega) only [go_sem, seval, lay, nws]); rfl) ?_
    refine AWP.cond (b := _) rfl (fun h => ?_) (fun h => ?_) <;> (try simp only [decide_eq_true_eq, decide_eq_false_iff_not] at h)
    · skip
      refine AWP.skip ?_
      change AWP _ _ _ _ _
      refine AWP.block ?_
      refine AWP.sR gok [0, 1, 2, 6, 7, 8] (by apply aops_mv (t := 6) (d := 31) (ag_n rfl) rfl rfl (by first | (simp only [look_lay, look, seval] <;> rfl) | fail) rfl; apply aops_x (d := 32) (ag_n rfl) rfl (by first | (simp (disch := decide) only [e2, go_sem, seval] <;> rfl) | (simp (disch := first | decide | omega) only [if_pos, nws, e2, go_sem, seval] <;> rfl)) rfl; apply aops_x (d := 7) (ag_n rfl) rfl (by first | (simp (disch := decide) only [e2, go_sem, seval] <;> rfl) | (simp (disch := first | decide | omega) only [if_pos, nws, e2, go_sem, seval] <;> rfl)) rfl; apply aops_as (t := 32) (d := 8) (ag_n rfl) rfl rfl (by first | (simp only [look_lay, look, seval] <;> rfl) | fail) rfl; apply aops_end; rfl) (by (simp (disch := omega) only [go_sem, seval, lay, nws]); rfl) ?_
      refine AWP.seqBlock ?_
      refine AWP.loopP (fun (p : Nat × List Int) => ⟨63, [(0, .c (.sl 0 0 xs.length 1)), (1, .c (ci .i64 (xs.length : Int))), (2, .c (.fn Fc [1])), (6, .c (ci .i64 (bs : Int))), (7, .c (ci .i64 (p.1 : Int))), (8, .c (ci .i64 ((p.1 + bs * 2 : Nat) : Int)))], [some (.ty IT p.2), some (.raw [.rs HT hs])]⟩) (fun p => BlkM (ltH hs) xs p.2 bs p.1 ∧ ∀ x ∈ p.2, inH hs x) (fun p => xs.length - p.1) (0, zs) (Ghost.of_eq (by rw [Nat.zero_add] <;> rfl)) ⟨BlkM.start j3, j4⟩ ?_
      rintro ⟨c, us⟩ ⟨k1, k2⟩
      simp only at k1 k2 ⊢
      obtain ⟨⟨ul, -, hcl⟩, -⟩ := id k1
      have e3 : (c : Int) + (bs : Int) = ((c + bs : Nat) : Int) := by omega
      refine AWP.seq ?_
      refine AWP.sR gok [0, 1, 2, 6, 7, 8, 35] (by apply aops_mv (t := 8) (d := 33) (ag_n rfl) rfl rfl (by first | (simp only [look_lay, look, seval] <;> rfl) | fail) rfl; apply aops_mv (t := 1) (d := 34) (ag_n rfl) rfl rfl (by first | (simp only [look_lay, look, seval] <;> rfl) | fail) rfl; apply aops_x (d := 35) (ag_n rfl) rfl (by first | (simp (disch := decide) only [go_sem, seval] <;> rfl) | (simp (disch := first | decide | omega) only [if_pos, nws, go_sem, seval] <;> rfl)) rfl; apply aops_end; rfl) (by (simp (disch := omega) only [go_sem, seval, lay, nws]); rfl) ?_
      refine AWP.cond (b := _) rfl (fun h => ?_) (fun h => ?_) <;> (try simp only [decide_eq_true_eq, decide_eq_false_iff_not] at h)
      · skip
        refine AWP.skip ?_
        change AWP _ _ _ _ _
        refine AWP.block ?_
        obtain ⟨v1, v2, -⟩ := k1.ups (hw hs) j1 (show c + bs < xs.length by omega) (b := c + bs * 2) (by omega)
        have hc : cSym 1000001 us hs [(c : Int), ((c + bs : Nat) : Int), ((c + bs * 2 : Nat) : Int)] := cSym_cast ⟨by omega, by omega, by omega, by omega, by omega⟩ hh k2 v1 v2
        have hnx := k1.next (hw hs) j1 (show c + bs * 2 ≤ xs.length by omega)
        refine AWP.sR gok [0, 1, 2, 6, 8] (by apply aops_mv (t := 0) (d := 36) (ag_n rfl) rfl rfl (by first | (simp only [look_lay, look, seval] <;> rfl) | fail) rfl; apply aops_mv (t := 7) (d := 37) (ag_n rfl) rfl rfl (by first | (simp only [look_lay, look, seval] <;> rfl) | fail) rfl; apply aops_mv (t := 7) (d := 38) (ag_n rfl) rfl rfl (by first | (simp only [look_lay, look, seval] <;> rfl) | fail) rfl; apply aops_mv (t := 6) (d := 39) (ag_n rfl) rfl rfl (by first | (simp only [look_lay, look, seval] <;> rfl) | fail) rfl; apply aops_x (d := 40) (ag_n rfl) rfl (by first | (simp (disch := decide) only [e3, hc, fSym_cast, ul, go_sem, seval] <;> rfl) | (simp (disch := first | decide | omega) only [if_pos, nws, e3, hc, fSym_cast, ul, go_sem, seval] <;> rfl)) rfl; apply aops_mv (t := 8) (d := 41) (ag_n rfl) rfl rfl (by first | (simp only [look_lay, look, seval] <;> rfl) | fail) rfl; apply aops_mv (t := 2) (d := 42) (ag_n rfl) rfl rfl (by first | (simp only [look_lay, look, seval] <;> rfl) | fail) rfl; apply aops_x (d := 43) (ag_n rfl) rfl (by (simp (disch := first | decide | omega) only [if_pos, nws, e3, hc, fSym_cast, ul, go_sem, seval] <;> rfl)) rfl; apply aops_end; rfl) (by (simp (disch := omega) only [go_sem, seval, lay, nws]); rfl) ?_
        refine AWP.sR gok [0, 1, 2, 6, 7, 8] (by apply aops_mv (t := 8) (d := 44) (ag_n rfl) rfl rfl (by first | (simp only [look_lay, look, seval] <;> rfl) | fail) rfl; apply aops_as (t := 44) (d := 7) (ag_n rfl) rfl rfl (by first | (simp only [look_lay, look, seval] <;> rfl) | fail) rfl; apply aops_end; rfl) (by (simp (disch := omega) only [go_sem, seval, lay, nws]); rfl) ?_
        refine AWP.rT gok [0, 1, 2, 6, 7, 8] (by apply aops_mv (t := 8) (d := 45) (ag_n rfl) rfl rfl (by first | (simp only [look_lay, look, seval] <;> rfl) | fail) rfl; apply aops_mv (t := 6) (d := 46) (ag_n rfl) rfl rfl (by first | (simp only [look_lay, look, seval] <;> rfl) | fail) rfl; apply aops_x (d := 47) (ag_n rfl) rfl (by first | (simp (disch := decide) only [e2, go_sem, seval] <;> rfl) | (simp (disch := first | decide | omega) only [if_pos, nws, e2, go_sem, seval] <;> rfl)) rfl; apply aops_x (d := 48) (ag_n rfl) rfl (by first | (simp (disch := decide) only [e2, go_sem, seval] <;> rfl) | (simp (disch := first | decide | omega) only [if_pos, nws, e2, go_sem, seval] <;> rfl)) rfl; apply aops_as (t := 48) (d := 8) (ag_n rfl) rfl rfl (by first | (simp only [look_lay, look, seval] <;> rfl) | fail) rfl; apply aops_end; rfl) (by (simp (disch := omega) only [go_sem, seval, lay, nws]); rfl) ?_
        exact ⟨(c + bs * 2, symR (ltH hs) us c (c + bs) (c + bs * 2)), Ghost.of_eq (by rw [show ((c + bs * 2 + bs * 2 : Nat) : Int) = ((c + bs * 2 : Nat) : Int) + ((bs * 2 : Nat) : Int) by omega] <;> rfl), ⟨hnx, fun x hx => k2 x (mem_symR hx)⟩, by simp only; omega⟩
      · skip
        refine AWP.exit ?_
        change AWP _ _ _ _ _
        refine AWP.seq ?_
        refine AWP.sR gok [0, 1, 2, 6, 7, 9] (by apply aops_mv (t := 7) (d := 49) (ag_n rfl) rfl rfl (by first | (simp only [look_lay, look, seval] <;> rfl) | fail) rfl; apply aops_mv (t := 6) (d := 50) (ag_n rfl) rfl rfl (by first | (simp only [look_lay, look, seval] <;> rfl) | fail) rfl; apply aops_x (d := 51) (ag_n rfl) rfl (by first | (simp (disch := decide) only [e3, go_sem, seval] <;> rfl) | (simp (disch := first | decide | omega) only [if_pos, nws, e3, go_sem, seval] <;> rfl)) rfl; apply aops_as (t := 51) (d := 9) (ag_n rfl) rfl rfl (by first | (simp only [look_lay, look, seval] <;> rfl) | fail) rfl; apply aops_end; rfl) (by (simp (disch := omega) only [go_sem, seval, lay, nws]); rfl) ?_
        have hend := k1.end (hw hs) j1 (show xs.length < c + bs * 2 by omega)
        refine AWP.sR gok [0, 1, 2, 6, 7, 9, 54] (by apply aops_mv (t := 9) (d := 52) (ag_n rfl) rfl rfl (by first | (simp only [look_lay, look, seval] <;> rfl) | fail) rfl; apply aops_mv (t := 1) (d := 53) (ag_n rfl) rfl rfl (by first | (simp only [look_lay, look, seval] <;> rfl) | fail) rfl; apply aops_x (d := 54) (ag_n rfl) rfl (by first | (simp (disch := decide) only [go_sem, seval] <;> rfl) | (simp (disch := first | decide | omega) only [if_pos, nws, go_sem, seval] <;> rfl)) rfl; apply aops_end; rfl) (by (simp (disch := omega) only [go_sem, seval, lay, nws]); rfl) ?_
        refine AWP.normG (s2 := ⟨63, [(0, .c (.sl 0 0 xs.length 1)), (1, .c (ci .i64 (xs.length : Int))), (2, .c (.fn Fc [1])), (6, .c (ci .i64 (bs : Int)))], [some (.ty IT (if c + bs < xs.length then symR (ltH hs) us c (c + bs) xs.length else us)), some (.raw [.rs HT hs])]⟩) ?_ ?_
        · skip
          refine AWP.cond (b := _) rfl (fun h => ?_) (fun h => ?_) <;> (try simp only [decide_eq_true_eq, decide_eq_false_iff_not] at h)
          · skip
            obtain ⟨v1, v2, -⟩ := k1.ups (hw hs) j1 (show c + bs < xs.length by omega) (b := xs.length) (by omega)
            have hc : cSym 1000001 us hs [(c : Int), ((c + bs : Nat) : Int), (xs.length : Int)] := cSym_cast ⟨by omega, by omega, by omega, by omega, by omega⟩ hh k2 v1 v2
            refine AWP.rT gok [0, 1, 2, 6] (by apply aops_mv (t := 0) (d := 55) (ag_n rfl) rfl rfl (by first | (simp only [look_lay, look, seval] <;> rfl) | fail) rfl; apply aops_mv (t := 7) (d := 56) (ag_n rfl) rfl rfl (by first | (simp only [look_lay, look, seval] <;> rfl) | fail) rfl; apply aops_mv (t := 9) (d := 57) (ag_n rfl) rfl rfl (by first | (simp only [look_lay, look, seval] <;> rfl) | fail) rfl; apply aops_mv (t := 1) (d := 58) (ag_n rfl) rfl rfl (by first | (simp only [look_lay, look, seval] <;> rfl) | fail) rfl; apply aops_mv (t := 2) (d := 59) (ag_n rfl) rfl rfl (by first | (simp only [look_lay, look, seval] <;> rfl) | fail) rfl; apply aops_x (d := 60) (ag_n rfl) rfl (by (simp (disch := first | decide | omega) only [if_pos, nws, hc, fSym_cast, ul, go_sem, seval] <;> rfl)) rfl; apply aops_end; rfl) (by (simp (disch := omega) only [go_sem, seval, lay, nws]); rfl) ?_
            exact Ghost.trans (Ghost.trim _ [0, 1, 2, 6] _) (Ghost.of_eq (by rw [if_pos (show c + bs < xs.length by omega)]; (simp (disch := omega) only [go_sem, seval, lay, nws]) <;> rfl))
          · skip
            refine AWP.skip ?_
            exact Ghost.trans (Ghost.trim _ [0, 1, 2, 6] _) (Ghost.of_eq (by rw [if_neg (show ¬ c + bs < xs.length by omega)]; (simp (disch := omega) only [go_sem, seval, lay, nws]) <;> rfl))
        change AWP _ _ _ _ _
        have e4 : (bs : Int) * 2 = ((bs * 2 : Nat) : Int) := by omega
        refine AWP.rT gok [0, 1, 2, 6] (by apply aops_mv (t := 6) (d := 61) (ag_n rfl) rfl rfl (by first | (simp only [look_lay, look, seval] <;> rfl) | fail) rfl; apply aops_x (d := 62) (ag_n rfl) rfl (by first | (simp (disch := decide) only [e4, go_sem, seval] <;> rfl) | (simp (disch := first | decide | omega) only [if_pos, nws, e4, go_sem, seval] <;> rfl)) rfl; apply aops_as (t := 62) (d := 6) (ag_n rfl) rfl rfl (by first | (simp only [look_lay, look, seval] <;> rfl) | fail) rfl; apply aops_end; rfl) (by (simp (disch := omega) only [go_sem, seval, lay, nws]); rfl) ?_
        exact ⟨(bs * 2, if c + bs < xs.length then symR (ltH hs) us c (c + bs) xs.length else us), Ghost.of_eq rfl, ⟨⟨by simp only; omega, by simp only; omega⟩, hend, fun x hx => by
          simp only at hx
          split at hx
          · exact k2 x (mem_symR hx)
          · exact k2 x hx⟩, by simp only; omega⟩
    · skip
      refine AWP.exit ?_
      refine ⟨.inl rfl, _, (by simp only [go_sem, seval] <;> rfl), ?_⟩
      simp only [go_sem, seval, Option.some.injEq, AV.c.injEq, AV.agg.injEq, CV.v.injEq, Value.int.injEq, Value.bool.injEq, Row.raw.injEq, List.cons.injEq, CV.sl.injEq, and_true, true_and, and_self]
      rw [j3.sorted (by omega)]
def Est : Entry := sortE cSt fSt
theorem Est_ok (hw : ∀ hs, Weak (ltH hs)) : EntryOk Try.prog 21 Est := sortE_ok fun xs hs is hc => by
  match is, hc with
  | [n], ⟨hn, h4, h5, h6⟩ =>
    subst hn
    exact Kst hw xs hs h4 h5 h6
def cSs (xs : List Int) (hs : List Hd) : List Int → Prop
  | [] => xs.length ≤ 100000 ∧ hsOk hs ∧ ∀ x ∈ xs, inH hs x
  | _ => False
instance (xs : List Int) (hs : List Hd) (is : List Int) : Decidable (cSs xs hs is) := by unfold cSs; split <;> infer_instance
attribute [go_sem] Est fSt
theorem Kss (hw : ∀ hs, Weak (ltH hs)) (xs : List Int) (hs : List Hd) (h4 : xs.length ≤ 100000) (hh : hsOk hs) (hin : ∀ x ∈ xs, inH hs x) :
    CallOk Try.prog 15 [.c (.sl 0 0 xs.length 1), .c (.fn Fc [1])] [some (.ty IT xs), some (.raw [.rs HT hs])] (.tup []) [some (.ty IT (sortF (ltH hs) xs)), some (.raw [.rs HT hs])] := by
  have hc : cSt xs hs [(xs.length : Int)] := ⟨rfl, h4, hh, hin⟩
  have gok := (Gam.cons_ok (Est_ok hw) (Gam.nil_ok _))
  refine callOk' Try.func15 9 [] _ rfl rfl rfl (by kernel_rfl) (by simp) [0, 1] rfl rfl (by simp) ?_
  simp only [params]
  refine AWP.rT gok [] (by apply aops_mv (t := 0) (d := 4) (ag_n rfl) rfl rfl (by first | (simp only [look_lay, look, seval] <;> rfl) | fail) rfl; apply aops_mv (t := 0) (d := 5) (ag_n rfl) rfl rfl (by first | (simp only [look_lay, look, seval] <;> rfl) | fail) rfl; apply aops_x (d := 6) (ag_n rfl) rfl (by first | (simp (disch := decide) only [hc, go_sem, seval] <;> rfl) | (simp (disch := first | decide | omega) only [if_pos, nws, hc, go_sem, seval] <;> rfl)) rfl; apply aops_mv (t := 1) (d := 7) (ag_n rfl) rfl rfl (by first | (simp only [look_lay, look, seval] <;> rfl) | fail) rfl; apply aops_x (d := 8) (ag_n rfl) rfl (by (simp (disch := first | decide | omega) only [if_pos, nws, hc, go_sem, seval] <;> rfl)) rfl; apply aops_end; rfl) (by (simp (disch := omega) only [go_sem, seval, lay, nws]); rfl) ?_
  refine ⟨.inl rfl, _, (by simp only [go_sem, seval] <;> rfl), ?_⟩
  simp only [go_sem, seval, Option.some.injEq, AV.c.injEq, AV.agg.injEq, CV.v.injEq, Value.int.injEq, Value.bool.injEq, Row.raw.injEq, List.cons.injEq, CV.sl.injEq, and_true, true_and, and_self]
def Ess : Entry := sortE cSs fSt
theorem Ess_ok (hw : ∀ hs, Weak (ltH hs)) : EntryOk Try.prog 15 Ess := sortE_ok fun xs hs is hc => by
  match is, hc with
  | [], ⟨h4, h5, h6⟩ => exact Kss hw xs hs h4 h5 h6
attribute [go_sem] Ess
end Go.Proofs.Ytcnoooodnmjdmaa
