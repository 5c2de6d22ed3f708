import Derived.Test.YtonhglodnmoadaaHt7
set_option linter.unusedSimpArgs false
set_option linter.unusedVariables false
namespace Go.Proofs.Ytonhglodnmoadaa
open Go.RowKit
/-! The document's lists. -/
abbrev key (x : Int × Int) : Int := x.1
theorem putK_cases (l : List (Int × Int)) (x : Int × Int) (k : Nat) (hk : k ≤ l.length) : ∃ (B0 Bv : Bool) (y : Int × Int), decide (0 < (k : Int)) = B0 ∧ HeapLaw.putK key x l k = (if Bv = true then HeapLaw.putK key x l (k - 1) else k) ∧ (Bv = true → 0 < k) ∧
    (((B0 == true) = false ∧ (B0 = true) = False ∧ Bv = false ∧ True ∧ True ∧ True) ∨ ((B0 == true) = true ∧ (B0 = true) = True ∧ Bv = decide (x.1 < y.1) ∧ l[k - 1]? = some y ∧ (k : Int) - 1 = ((k - 1 : Nat) : Int) ∧ k - 1 < l.length)) := by
  cases k with
  | zero => exact ⟨false, false, (0, 0), rfl, by simp [HeapLaw.putK], by simp, .inl ⟨rfl, by simp, rfl, trivial, trivial, trivial⟩⟩
  | succ m =>
    obtain ⟨y, hy⟩ : ∃ y, l[m]? = some y := ⟨_, List.getElem?_eq_getElem (by omega)⟩
    refine ⟨true, decide (x.1 < y.1), y, decide_eq_true (by omega), ?_, fun _ => by omega, .inr ⟨rfl, by simp, rfl, by simpa using hy, by simp, by simp; omega⟩⟩
    rw [HeapLaw.putK, hy]
    simp only [Nat.add_sub_cancel]
    by_cases h : x.1 < y.1
    · rw [if_pos h, if_pos (decide_eq_true h)]
    · rw [if_neg h, if_neg (by simp [h])]
theorem putK_le (l : List (Int × Int)) (x : Int × Int) : ∀ k, HeapLaw.putK key x l k ≤ k
  | 0 => Nat.le_refl _
  | k + 1 => by
    unfold HeapLaw.putK
    split
    · split
      · exact Nat.le_succ_of_le (putK_le l x k)
      · exact Nat.le_refl _
    · exact Nat.le_refl _
abbrev c24 (l : (List (Ty.D thT))) (x : (Ty.D thT)) : Prop := l.length ≤ 100000
abbrev r24 (l : (List (Ty.D thT))) (x : (Ty.D thT)) : AV := .c (.sl 0 0 (HeapLaw.putF key l x).length 2)
abbrev L24 (l : (List (Ty.D thT))) (x : (Ty.D thT)) : Hp := [some (.ty thT (HeapLaw.putF key l x))]
def E24 : Entry := pureN [(.sl thT), thT] (fun d => c24 d.1 d.2.1) (fun d => r24 d.1 d.2.1) (fun d => L24 d.1 d.2.1)
set_option maxRecDepth 100000 in
set_option maxHeartbeats 4000000 in
theorem K24 (l : (List (Ty.D thT))) (x : (Ty.D thT)) (hc : c24 l x) : CallOk Try.prog 24 [.c (.rs thT l), ro thT x] [] (r24 l x) (L24 l x) := by
  have hc : l.length ≤ 100000 := hc
  refine callOk' Try.func24 38 [.tmp 4] _ rfl rfl rfl (by kernel_rfl) (by simp) [5] rfl rfl (by simp) ?_
  simp only [params]
  refine AWP.sR (Gam.nil_ok _) [0, 3] (by apply aops_x (d := 3) (ag_n rfl) rfl (by first | (simp (disch := decide) only [go_sem, seval] <;> rfl) | (simp (disch := first | decide | omega) only [if_pos, nws, go_sem, seval] <;> rfl)) rfl; apply aops_x (d := 4) (ag_n rfl) rfl (by first | (simp (disch := decide) only [go_sem, seval] <;> rfl) | (simp (disch := first | decide | omega) only [if_pos, nws, go_sem, seval] <;> rfl)) rfl; apply aops_end; rfl) (by (simp (disch := omega) only [go_sem, seval, lay, nws]); rfl) ?_
  refine AWP.sR (Gam.nil_ok _) [0, 3, 5] (by apply aops_mv (t := 0) (d := 7) (ag_n rfl) rfl rfl (by first | (simp only [look_lay, look, seval] <;> rfl) | fail) rfl; apply aops_x (d := 8) (ag_n rfl) rfl (by first | (simp (disch := decide) only [go_sem, seval] <;> rfl) | (simp (disch := first | decide | omega) only [if_pos, nws, go_sem, seval] <;> rfl)) rfl; apply aops_as (t := 8) (d := 5) (ag_n rfl) rfl rfl (by first | (simp only [look_lay, look, seval] <;> rfl) | fail) rfl; apply aops_end; rfl) (by (simp (disch := omega) only [go_sem, seval, lay, nws]); rfl) ?_
  refine AWP.seqBlock ?_
  refine AWP.loopP (fun (p : Nat) => ⟨38, [(0, .c (.rs thT l)), (3, .c (.ptr 0 0 1 0)), (5, .c (ci .i64 (p : Int)))], [some (.ty thT [x])]⟩) (fun p => p ≤ l.length ∧ HeapLaw.putK key x l p = HeapLaw.putK key x l l.length) (fun p => p) l.length (Ghost.refl _ _) ⟨Nat.le_refl _, rfl⟩ ?_
  rintro k ⟨hk, hp⟩
  refine AWP.seq ?_
  obtain ⟨B0, Bv, y, hB0, hpk, hpos, hcase⟩ := putK_cases l x k hk
  refine AWP.sDG (Gam.nil_ok _) (by kernel_rfl) [⟨[], true, 0⟩, ⟨[], true, 0⟩, ⟨[], true, 0⟩, ⟨[], true, 0⟩, ⟨[0], true, 0⟩, ⟨[], true, 0⟩, ⟨[], true, 0⟩, ⟨[], true, 0⟩, ⟨[], true, 0⟩, ⟨[], true, 0⟩, ⟨[0], true, 0⟩, ⟨[], true, 0⟩, ⟨[], true, 0⟩] (by kernel_rfl) (by first | rfl | simp only [go_sem, ↓reduceIte, Nat.reduceLT, Nat.reduceAdd]) (by first | rfl | simp only [go_sem, ↓reduceIte, Nat.reduceLT, Nat.reduceAdd]) (s2 := ⟨38, [(0, .c (.rs thT l)), (3, .c (.ptr 0 0 1 0)), (5, .c (ci .i64 (k : Int))), (21, .c (cb Bv))], [some (.ty thT [x])]⟩) (by (rcases hcase with ⟨hb1, hb2, hB, hy, hk1, hkl⟩ | ⟨hb1, hb2, hB, hy, hk1, hkl⟩) <;> refine ⟨_, (by (repeat (first | apply arun_step (by first | exact ag_n rfl | exact ag_b rfl rfl rfl (by first | (simp only [look_lay, look, seval] <;> rfl) | fail) (by first | rfl | (simp only [hB0, hb1, hb2, hB, hy, hk1, hkl, decide_true, decide_false] <;> rfl) | fail) | fail) (by first | (simp (disch := decide) only [hB0, hb1, hb2, hB, hy, hk1, hkl, go_sem, seval]; rfl) | (simp (disch := first | decide | omega) only [if_pos, nws, hB0, hb1, hb2, hB, hy, hk1, hkl, go_sem, seval]; rfl)) (by first | (intro h; cases h; done) | (intro _; rfl) | (intro _; simp only [go_sem, seval, lay])) (by first | rfl | simp only [go_sem, seval, lay]) (by first | rfl | simp only [go_sem, seval, lay]) (by first | rfl | simp only [go_sem, seval, lay]) (by simp only [go_sem, seval, lay]; rfl) | apply arun_pass (by first | exact ag_f rfl rfl rfl (by first | (simp only [look_lay, look, seval] <;> rfl) | fail) (by first | rfl | (simp only [hB0, hb1, hb2, hB, hy, hk1, hkl, decide_true, decide_false] <;> rfl) | fail) | exact ag_u rfl rfl rfl (by first | (simp only [look_lay, look, seval] <;> rfl) | fail) | fail) rfl (by simp only [go_sem, seval, lay]; rfl))); exact rfl), (Ghost.trans (Ghost.trim _ [0, 3, 5, 21] _) (Ghost.of_eq (by first | ((simp (disch := first | decide | omega) only [hB0, hb1, hb2, hB, hy, hk1, hkl, go_sem, seval, lay, nws]) <;> with_reducible rfl) | with_reducible rfl | rfl)))⟩) ?_
  refine AWP.cond (b := _) rfl (fun h => ?_) (fun h => ?_) <;> (try simp only [decide_eq_true_eq, decide_eq_false_iff_not] at h)
  · skip
    refine AWP.skip ?_
    change AWP _ _ _ _ _
    refine AWP.block ?_
    refine AWP.rT (Gam.nil_ok _) [0, 3, 5] (by apply aops_mv (t := 5) (d := 22) (ag_n rfl) rfl rfl (by first | (simp only [look_lay, look, seval] <;> rfl) | fail) rfl; apply aops_x (d := 23) (ag_n rfl) rfl (by first | (simp (disch := decide) only [go_sem, seval] <;> rfl) | (simp (disch := first | decide | omega) only [if_pos, nws, go_sem, seval] <;> rfl)) rfl; apply aops_as (t := 23) (d := 5) (ag_n rfl) rfl rfl (by first | (simp only [look_lay, look, seval] <;> rfl) | fail) rfl; apply aops_end; rfl) (by (simp (disch := omega) only [go_sem, seval, lay, nws]); rfl) ?_
    have hk0 := hpos h
    exact ⟨k - 1, Ghost.of_eq (by rw [show ((k - 1 : Nat) : Int) = (k : Int) - 1 by omega] <;> rfl), ⟨by omega, by rw [hpk, if_pos h] at hp; exact hp⟩, by omega⟩
  · skip
    refine AWP.exit ?_
    change AWP _ _ _ _ _
    refine AWP.sR (Gam.nil_ok _) [0, 3, 5, 6] (by apply aops_x (d := 6) (ag_n rfl) rfl (by first | (simp (disch := decide) only [go_sem, seval] <;> rfl) | (simp (disch := first | decide | omega) only [if_pos, nws, go_sem, seval] <;> rfl)) rfl; apply aops_end; rfl) (by (simp (disch := omega) only [go_sem, seval, lay, nws]); rfl) ?_
    refine AWP.ghost (Ghost.nil 6 2 thT rfl (by simp)) ?_
    have hkk : (l.take k).length = k := by rw [List.length_take]; omega
    have hkd : (l.drop k).length = l.length - k := List.length_drop
    have hk5 : k ≤ 4294967296 := by omega
    refine AWP.sR (Gam.nil_ok _) [0, 3, 5, 6] (by apply aops_mv (t := 6) (d := 24) (ag_n rfl) rfl rfl (by first | (simp only [look_lay, look, seval] <;> rfl) | fail) rfl; apply aops_mv (t := 0) (d := 25) (ag_n rfl) rfl rfl (by first | (simp only [look_lay, look, seval] <;> rfl) | fail) rfl; apply aops_mv (t := 5) (d := 26) (ag_n rfl) rfl rfl (by first | (simp only [look_lay, look, seval] <;> rfl) | fail) rfl; apply aops_x (d := 27) (ag_n rfl) rfl (by (simp (disch := first | decide | omega) only [if_pos, nws, hkk, List.drop_zero, Nat.sub_zero, hk5, go_sem, seval] <;> rfl)) rfl; apply aops_x (d := 28) (ag_n rfl) rfl (by (simp (disch := first | decide | omega) only [if_pos, nws, hkk, List.drop_zero, Nat.sub_zero, hk5, go_sem, seval] <;> rfl)) rfl; apply aops_as (t := 28) (d := 6) (ag_n rfl) rfl rfl (by first | (simp only [look_lay, look, seval] <;> rfl) | fail) rfl; apply aops_end; rfl) (by (simp (disch := omega) only [go_sem, seval, lay, nws]); rfl) ?_
    refine AWP.sR (Gam.nil_ok _) [0, 5, 6] (by apply aops_mv (t := 6) (d := 29) (ag_n rfl) rfl rfl (by first | (simp only [look_lay, look, seval] <;> rfl) | fail) rfl; apply aops_x (d := 30) (ag_n rfl) rfl (by first | (simp (disch := decide) only [hkk, go_sem, seval] <;> rfl) | (simp (disch := first | decide | omega) only [if_pos, nws, hkk, go_sem, seval] <;> rfl)) rfl; apply aops_x (d := 31) (ag_n rfl) rfl (by (simp (disch := first | decide | omega) only [if_pos, nws, hkk, go_sem, seval] <;> rfl)) rfl; apply aops_x (d := 32) (ag_n rfl) rfl (by (simp (disch := first | decide | omega) only [if_pos, nws, hkk, go_sem, seval] <;> rfl)) rfl; apply aops_as (t := 32) (d := 6) (ag_n rfl) rfl rfl (by first | (simp only [look_lay, look, seval] <;> rfl) | fail) rfl; apply aops_end; rfl) (by (simp (disch := omega) only [go_sem, seval, lay, nws]); rfl) ?_
    have e1 : (List.take k l ++ [x]).length = k + 1 := by rw [List.length_append, hkk]; rfl
    have e2 : List.take (l.length - k) (List.drop k l) = List.drop k l := by rw [← hkd, List.take_length]
    refine AWP.sR (Gam.nil_ok _) [4] (by apply aops_mv (t := 6) (d := 33) (ag_n rfl) rfl rfl (by first | (simp only [look_lay, look, seval] <;> rfl) | fail) rfl; apply aops_mv (t := 0) (d := 34) (ag_n rfl) rfl rfl (by first | (simp only [look_lay, look, seval] <;> rfl) | fail) rfl; apply aops_mv (t := 5) (d := 35) (ag_n rfl) rfl rfl (by first | (simp only [look_lay, look, seval] <;> rfl) | fail) rfl; apply aops_x (d := 36) (ag_n rfl) rfl (by (simp (disch := first | decide | omega) only [if_pos, nws, hkd, e1, e2, go_sem, seval] <;> rfl)) rfl; apply aops_x (d := 37) (ag_n rfl) rfl (by (simp (disch := first | decide | omega) only [if_pos, nws, hkd, e1, e2, go_sem, seval] <;> rfl)) rfl; apply aops_as (t := 37) (d := 4) (ag_n rfl) rfl rfl (by first | (simp only [look_lay, look, seval] <;> rfl) | fail) rfl; apply aops_end; rfl) (by (simp (disch := omega) only [go_sem, seval, lay, nws]); rfl) ?_
    refine AWP.ret ?_
    refine ⟨.inr rfl, _, (by simp only [go_sem, seval] <;> rfl), ?_⟩
    simp only [go_sem, seval, Option.some.injEq, AV.c.injEq, AV.agg.injEq, CV.v.injEq, Value.int.injEq, Value.bool.injEq, Row.raw.injEq, List.cons.injEq, CV.sl.injEq, and_true, true_and, and_self]
    have e0 : ¬ Bv = true := by rw [h]; decide
    rw [hpk, if_neg e0] at hp
    have e : HeapLaw.putF key l x = List.take k l ++ x :: List.drop k l := by unfold HeapLaw.putF; rw [← hp]
    rw [e, List.length_append, List.length_cons, hkk, hkd]; exact ⟨by omega, rfl⟩
theorem E24_ok : EntryOk Try.prog 24 E24 := pureN_ok (fun d hc => K24 d.1 d.2.1 hc) (fun _ => rfl) (fun _ => rfl)
attribute [go_sem] E24 c24 r24 L24
abbrev dropL (l : List (Int × Int)) (by_ : Int) : List (Int × Int) := l.filter fun x => !dropP by_ x.1
theorem dropL_step {l : List (Int × Int)} {by_ : Int} {j : Nat} {e : Int × Int} (he : l[j]? = some e) : dropL (l.take (j + 1)) by_ = dropL (l.take j) by_ ++ (if dropP by_ e.1 = true then [] else [e]) := by
  rw [List.take_add_one, he]
  show List.filter _ (_ ++ [_]) = _
  rw [List.filter_append, List.filter_cons]
  cases hb : dropP by_ e.1 <;> simp
theorem dropL_le (l : List (Int × Int)) (b : Int) (j : Nat) : (dropL (l.take j) b).length ≤ l.length := Nat.le_trans (List.length_filter_le _ _) (by rw [List.length_take]; omega)
abbrev c27 (l : (List (Ty.D thT))) (b : Int) : Prop := l.length ≤ 100000
abbrev r27 (l : (List (Ty.D thT))) (b : Int) : AV := .c (.sl 0 0 (dropL l b).length 2)
abbrev L27 (l : (List (Ty.D thT))) (b : Int) : Hp := [some (.ty thT (dropL l b))]
def E27 : Entry := pureN [(.sl thT), (.i .i64)] (fun d => c27 d.1 d.2.1) (fun d => r27 d.1 d.2.1) (fun d => L27 d.1 d.2.1)
set_option maxRecDepth 100000 in
set_option maxHeartbeats 4000000 in
theorem K27 (l : (List (Ty.D thT))) (b : Int) (hc : c27 l b) : CallOk Try.prog 27 [.c (.rs thT l), .c (ci .i64 b)] [] (r27 l b) (L27 l b) := by
  have hc : l.length ≤ 100000 := hc
  refine callOk' Try.func27 33 [.tmp 4] _ rfl rfl rfl (by kernel_rfl) (by simp) [0] rfl rfl (by simp) ?_
  simp only [params]
  refine AWP.sR (Gam.nil_ok _) [0, 1] (by apply aops_x (d := 4) (ag_n rfl) rfl (by first | (simp (disch := decide) only [go_sem, seval] <;> rfl) | (simp (disch := first | decide | omega) only [if_pos, nws, go_sem, seval] <;> rfl)) rfl; apply aops_end; rfl) (by (simp (disch := omega) only [go_sem, seval, lay, nws]); rfl) ?_
  refine AWP.sR (Gam.nil_ok _) [0, 1, 5] (by apply aops_x (d := 5) (ag_n rfl) rfl (by first | (simp (disch := decide) only [go_sem, seval] <;> rfl) | (simp (disch := first | decide | omega) only [if_pos, nws, go_sem, seval] <;> rfl)) rfl; apply aops_end; rfl) (by (simp (disch := omega) only [go_sem, seval, lay, nws]); rfl) ?_
  refine AWP.seq ?_
  refine AWP.sR (Gam.nil_ok _) [0, 1, 5, 8, 9] (by apply aops_mv (t := 0) (d := 7) (ag_n rfl) rfl rfl (by first | (simp only [look_lay, look, seval] <;> rfl) | fail) rfl; apply aops_x (d := 8) (ag_n rfl) rfl (by first | (simp (disch := decide) only [go_sem, seval] <;> rfl) | (simp (disch := first | decide | omega) only [if_pos, nws, go_sem, seval] <;> rfl)) rfl; apply aops_x (d := 9) (ag_n rfl) rfl (by first | (simp (disch := decide) only [go_sem, seval] <;> rfl) | (simp (disch := first | decide | omega) only [if_pos, nws, go_sem, seval] <;> rfl)) rfl; apply aops_end; rfl) (by (simp (disch := omega) only [go_sem, seval, lay, nws]); rfl) ?_
  refine AWP.block ?_
  refine AWP.loopP (fun (p : Nat) => ⟨33, [(0, .c (.rs thT l)), (1, .c (ci .i64 b)), (5, .c (.sl 0 0 (dropL (l.take p) b).length 2)), (8, .c (ci .i64 (l.length : Int))), (9, .c (ci .i64 (p : Int)))], [some (.ty thT (dropL (l.take p) b))]⟩) (fun p => p ≤ l.length) (fun p => l.length - p) 0 (Ghost.nil 5 2 thT rfl (by simp)) (Nat.zero_le _) ?_
  rintro j hj
  refine AWP.sR (Gam.nil_ok _) [0, 1, 5, 8, 9, 10] (by apply aops_x (d := 10) (ag_n rfl) rfl (by first | (simp (disch := decide) only [go_sem, seval] <;> rfl) | (simp (disch := first | decide | omega) only [if_pos, nws, go_sem, seval] <;> rfl)) rfl; apply aops_end; rfl) (by (simp (disch := omega) only [go_sem, seval, lay, nws]); rfl) ?_
  refine AWP.seq ?_
  refine AWP.cond (b := _) rfl (fun h => ?_) (fun h => ?_) <;> (try simp only [decide_eq_true_eq, decide_eq_false_iff_not] at h)
  · skip
    refine AWP.skip ?_
    change AWP _ _ _ _ _
    refine AWP.seqBlock ?_
    refine AWP.sR (Gam.nil_ok _) [0, 1, 5, 6, 8, 9] (by apply aops_mv (t := 9) (d := 11) (ag_n rfl) rfl rfl (by first | (simp only [look_lay, look, seval] <;> rfl) | fail) rfl; apply aops_as (t := 11) (d := 6) (ag_n rfl) rfl rfl (by first | (simp only [look_lay, look, seval] <;> rfl) | fail) rfl; apply aops_end; rfl) (by (simp (disch := omega) only [go_sem, seval, lay, nws]); rfl) ?_
    have hj' : j < l.length := by omega
    obtain ⟨e, he⟩ : ∃ e, l[j]? = some e := ⟨_, List.getElem?_eq_getElem hj'⟩
    have hds := dropL_step (by_ := b) he
    have hdl := dropL_le l b j
    have hcase : ((b = 0) = True ∧ dropP b e.1 = false ∧ True) ∨ ((b = 0) = False ∧ decide (¬ e.1.tmod b = 0) = !dropP b e.1 ∧ ¬ b = 0) := by
      by_cases hb : b = 0
      · exact .inl ⟨by simp [hb], by unfold dropP; simp [hb], trivial⟩
      · exact .inr ⟨by simp [hb], by unfold dropP; simp [hb], hb⟩
    refine AWP.sX (Gam.nil_ok _) [0, 1, 5, 6, 8, 9, 23] (s2 := ⟨33, [(0, .c (.rs thT l)), (1, .c (ci .i64 b)), (5, .c (.sl 0 0 (dropL (l.take j) b).length 2)), (6, .c (ci .i64 (j : Int))), (8, .c (ci .i64 (l.length : Int))), (9, .c (ci .i64 (j : Int))), (23, .c (cb (!dropP b e.1)))], [some (.ty thT (dropL (l.take j) b))]⟩) (by (rcases hcase with ⟨hb, hd, hb2⟩ | ⟨hb, hd, hb2⟩) <;> refine ⟨_, (by apply aops_mv (t := 1) (d := 12) (ag_n rfl) rfl rfl (by first | (simp only [look_lay, look, seval] <;> rfl) | fail) rfl; apply aops_x (d := 13) (ag_n rfl) rfl (by (simp (disch := first | decide | omega) only [if_pos, nws, he, hb, hd, go_sem, seval] <;> rfl)) rfl; apply aops_mv (t := 13) (d := 14) (ag_n rfl) rfl rfl (by first | (simp only [look_lay, look, seval] <;> rfl) | fail) rfl; (first | apply aops_mv (t := 0) (d := 15) (ag_b (j := 2) (d := 14) rfl rfl rfl (by first | (simp only [look_lay, look, seval] <;> rfl) | fail) (by first | rfl | (simp only [he, hb, hd, decide_true, decide_false] <;> rfl) | fail)) rfl rfl (by first | (simp only [look_lay, look, seval] <;> rfl) | fail) rfl | apply aops_ps (d := 15) (by first | exact ag_f (j := 2) (d := 14) rfl rfl rfl (by first | (simp only [look_lay, look, seval] <;> rfl) | fail) (by first | rfl | (simp only [he, hb, hd, decide_true, decide_false] <;> rfl) | fail) | exact ag_u (j := 2) (d := 14) rfl rfl rfl (by first | (simp only [look_lay, look, seval] <;> rfl) | fail) | fail) rfl rfl); (first | apply aops_mv (t := 6) (d := 16) (ag_b (j := 2) (d := 14) rfl rfl rfl (by first | (simp only [look_lay, look, seval] <;> rfl) | fail) (by first | rfl | (simp only [he, hb, hd, decide_true, decide_false] <;> rfl) | fail)) rfl rfl (by first | (simp only [look_lay, look, seval] <;> rfl) | fail) rfl | apply aops_ps (d := 16) (by first | exact ag_f (j := 2) (d := 14) rfl rfl rfl (by first | (simp only [look_lay, look, seval] <;> rfl) | fail) (by first | rfl | (simp only [he, hb, hd, decide_true, decide_false] <;> rfl) | fail) | exact ag_u (j := 2) (d := 14) rfl rfl rfl (by first | (simp only [look_lay, look, seval] <;> rfl) | fail) | fail) rfl rfl); (first | apply aops_x (d := 17) (ag_b (j := 2) (d := 14) rfl rfl rfl (by first | (simp only [look_lay, look, seval] <;> rfl) | fail) (by first | rfl | (simp only [he, hb, hd, decide_true, decide_false] <;> rfl) | fail)) rfl (by (simp (disch := first | decide | omega) only [if_pos, nws, he, hb, hd, go_sem, seval] <;> rfl)) rfl | apply aops_ps (d := 17) (by first | exact ag_f (j := 2) (d := 14) rfl rfl rfl (by first | (simp only [look_lay, look, seval] <;> rfl) | fail) (by first | rfl | (simp only [he, hb, hd, decide_true, decide_false] <;> rfl) | fail) | exact ag_u (j := 2) (d := 14) rfl rfl rfl (by first | (simp only [look_lay, look, seval] <;> rfl) | fail) | fail) rfl rfl); (first | apply aops_x (d := 18) (ag_b (j := 2) (d := 14) rfl rfl rfl (by first | (simp only [look_lay, look, seval] <;> rfl) | fail) (by first | rfl | (simp only [he, hb, hd, decide_true, decide_false] <;> rfl) | fail)) rfl (by (simp (disch := first | decide | omega) only [if_pos, nws, he, hb, hd, go_sem, seval] <;> rfl)) rfl | apply aops_ps (d := 18) (by first | exact ag_f (j := 2) (d := 14) rfl rfl rfl (by first | (simp only [look_lay, look, seval] <;> rfl) | fail) (by first | rfl | (simp only [he, hb, hd, decide_true, decide_false] <;> rfl) | fail) | exact ag_u (j := 2) (d := 14) rfl rfl rfl (by first | (simp only [look_lay, look, seval] <;> rfl) | fail) | fail) rfl rfl); (first | apply aops_x (d := 19) (ag_b (j := 2) (d := 14) rfl rfl rfl (by first | (simp only [look_lay, look, seval] <;> rfl) | fail) (by first | rfl | (simp only [he, hb, hd, decide_true, decide_false] <;> rfl) | fail)) rfl (by (simp (disch := first | decide | omega) only [if_pos, nws, he, hb, hd, go_sem, seval] <;> rfl)) rfl | apply aops_ps (d := 19) (by first | exact ag_f (j := 2) (d := 14) rfl rfl rfl (by first | (simp only [look_lay, look, seval] <;> rfl) | fail) (by first | rfl | (simp only [he, hb, hd, decide_true, decide_false] <;> rfl) | fail) | exact ag_u (j := 2) (d := 14) rfl rfl rfl (by first | (simp only [look_lay, look, seval] <;> rfl) | fail) | fail) rfl rfl); (first | apply aops_mv (t := 1) (d := 20) (ag_b (j := 2) (d := 14) rfl rfl rfl (by first | (simp only [look_lay, look, seval] <;> rfl) | fail) (by first | rfl | (simp only [he, hb, hd, decide_true, decide_false] <;> rfl) | fail)) rfl rfl (by first | (simp only [look_lay, look, seval] <;> rfl) | fail) rfl | apply aops_ps (d := 20) (by first | exact ag_f (j := 2) (d := 14) rfl rfl rfl (by first | (simp only [look_lay, look, seval] <;> rfl) | fail) (by first | rfl | (simp only [he, hb, hd, decide_true, decide_false] <;> rfl) | fail) | exact ag_u (j := 2) (d := 14) rfl rfl rfl (by first | (simp only [look_lay, look, seval] <;> rfl) | fail) | fail) rfl rfl); (first | apply aops_x (d := 21) (ag_b (j := 2) (d := 14) rfl rfl rfl (by first | (simp only [look_lay, look, seval] <;> rfl) | fail) (by first | rfl | (simp only [he, hb, hd, decide_true, decide_false] <;> rfl) | fail)) rfl (by (simp (disch := first | decide | omega) only [if_pos, nws, he, hb, hd, go_sem, seval] <;> rfl)) rfl | apply aops_ps (d := 21) (by first | exact ag_f (j := 2) (d := 14) rfl rfl rfl (by first | (simp only [look_lay, look, seval] <;> rfl) | fail) (by first | rfl | (simp only [he, hb, hd, decide_true, decide_false] <;> rfl) | fail) | exact ag_u (j := 2) (d := 14) rfl rfl rfl (by first | (simp only [look_lay, look, seval] <;> rfl) | fail) | fail) rfl rfl); (first | apply aops_x (d := 22) (ag_b (j := 2) (d := 14) rfl rfl rfl (by first | (simp only [look_lay, look, seval] <;> rfl) | fail) (by first | rfl | (simp only [he, hb, hd, decide_true, decide_false] <;> rfl) | fail)) rfl (by (simp (disch := first | decide | omega) only [if_pos, nws, he, hb, hd, go_sem, seval] <;> rfl)) rfl | apply aops_ps (d := 22) (by first | exact ag_f (j := 2) (d := 14) rfl rfl rfl (by first | (simp only [look_lay, look, seval] <;> rfl) | fail) (by first | rfl | (simp only [he, hb, hd, decide_true, decide_false] <;> rfl) | fail) | exact ag_u (j := 2) (d := 14) rfl rfl rfl (by first | (simp only [look_lay, look, seval] <;> rfl) | fail) | fail) rfl rfl); apply aops_x (d := 23) (ag_n rfl) rfl (by (simp (disch := first | decide | omega) only [if_pos, nws, he, hb, hd, go_sem, seval] <;> rfl)) rfl; apply aops_end; rfl), (by (simp (disch := omega) only [he, hb, hd, go_sem, seval, lay, nws]) <;> rfl)⟩) ?_
    refine AWP.cond (b := _) rfl (fun h => ?_) (fun h => ?_) <;> (try simp only [decide_eq_true_eq, decide_eq_false_iff_not] at h)
    · skip
      refine AWP.rT (Gam.nil_ok _) [0, 1, 5, 8, 9] (by apply aops_mv (t := 5) (d := 24) (ag_n rfl) rfl rfl (by first | (simp only [look_lay, look, seval] <;> rfl) | fail) rfl; apply aops_mv (t := 0) (d := 25) (ag_n rfl) rfl rfl (by first | (simp only [look_lay, look, seval] <;> rfl) | fail) rfl; apply aops_mv (t := 6) (d := 26) (ag_n rfl) rfl rfl (by first | (simp only [look_lay, look, seval] <;> rfl) | fail) rfl; apply aops_x (d := 27) (ag_n rfl) rfl (by (simp (disch := first | decide | omega) only [if_pos, nws, he, go_sem, seval] <;> rfl)) rfl; apply aops_x (d := 28) (ag_n rfl) rfl (by first | (simp (disch := decide) only [he, go_sem, seval] <;> rfl) | (simp (disch := first | decide | omega) only [if_pos, nws, he, go_sem, seval] <;> rfl)) rfl; apply aops_x (d := 29) (ag_n rfl) rfl (by (simp (disch := first | decide | omega) only [if_pos, nws, he, go_sem, seval] <;> rfl)) rfl; apply aops_x (d := 30) (ag_n rfl) rfl (by (simp (disch := first | decide | omega) only [if_pos, nws, he, go_sem, seval] <;> rfl)) rfl; apply aops_as (t := 30) (d := 5) (ag_n rfl) rfl rfl (by first | (simp only [look_lay, look, seval] <;> rfl) | fail) rfl; apply aops_end; rfl) (by (simp (disch := omega) only [go_sem, seval, lay, nws]); rfl) ?_
      change AWP _ _ _ _ _
      refine AWP.rT (Gam.nil_ok _) [0, 1, 5, 8, 9] (by apply aops_x (d := 31) (ag_n rfl) rfl (by first | (simp (disch := decide) only [go_sem, seval] <;> rfl) | (simp (disch := first | decide | omega) only [if_pos, nws, go_sem, seval] <;> rfl)) rfl; apply aops_mv (t := 31) (d := 9) (ag_n rfl) rfl rfl (by first | (simp only [look_lay, look, seval] <;> rfl) | fail) rfl; apply aops_end; rfl) (by (simp (disch := omega) only [go_sem, seval, lay, nws]); rfl) ?_
      rw [if_neg (by rw [Bool.not_eq_true]; simpa using h)] at hds
      exact ⟨j + 1, (Ghost.trans (Ghost.gc (ρ := [2]) (by simp only [go_sem, seval] <;> rfl) rfl rfl rfl) (Ghost.of_eq (by rw [hds]; simp only [List.length_append, List.length_cons, List.length_nil, Int.natCast_add, Int.cast_ofNat_Int] <;> rfl))), by omega, by omega⟩
    · skip
      refine AWP.skip ?_
      change AWP _ _ _ _ _
      refine AWP.rT (Gam.nil_ok _) [0, 1, 5, 8, 9] (by apply aops_x (d := 31) (ag_n rfl) rfl (by first | (simp (disch := decide) only [go_sem, seval] <;> rfl) | (simp (disch := first | decide | omega) only [if_pos, nws, go_sem, seval] <;> rfl)) rfl; apply aops_mv (t := 31) (d := 9) (ag_n rfl) rfl rfl (by first | (simp only [look_lay, look, seval] <;> rfl) | fail) rfl; apply aops_end; rfl) (by (simp (disch := omega) only [go_sem, seval, lay, nws]); rfl) ?_
      rw [if_pos (by simpa using h), List.append_nil] at hds
      exact ⟨j + 1, Ghost.of_eq (by rw [hds]; simp only [Int.natCast_add, Int.cast_ofNat_Int] <;> rfl), by omega, by omega⟩
  · skip
    refine AWP.exit ?_
    change AWP _ _ _ _ _
    refine AWP.sR (Gam.nil_ok _) [4] (by apply aops_mv (t := 5) (d := 32) (ag_n rfl) rfl rfl (by first | (simp only [look_lay, look, seval] <;> rfl) | fail) rfl; apply aops_as (t := 32) (d := 4) (ag_n rfl) rfl rfl (by first | (simp only [look_lay, look, seval] <;> rfl) | fail) rfl; apply aops_end; rfl) (by (simp (disch := omega) only [go_sem, seval, lay, nws]); rfl) ?_
    refine AWP.ret ?_
    refine ⟨.inr rfl, _, (by simp only [go_sem, seval] <;> rfl), ?_⟩
    simp only [go_sem, seval, Option.some.injEq, AV.c.injEq, AV.agg.injEq, CV.v.injEq, Value.int.injEq, Value.bool.injEq, Row.raw.injEq, List.cons.injEq, CV.sl.injEq, and_true, true_and, and_self]
    have ej : j = l.length := by omega
    subst ej
    rw [List.take_length]; exact ⟨rfl, rfl⟩
theorem E27_ok : EntryOk Try.prog 27 E27 := pureN_ok (fun d hc => K27 d.1 d.2.1 hc) (fun _ => rfl) (fun _ => rfl)
attribute [go_sem] E27 c27 r27 L27
abbrev c31 (a : (List (Ty.D thT))) (b : (List (Ty.D thT))) : Prop := a.length ≤ 100000 ∧ b.length ≤ 100000
abbrev r31 (a : (List (Ty.D thT))) (b : (List (Ty.D thT))) : AV := .c (cb (decide (a = b)))
abbrev L31 (a : (List (Ty.D thT))) (b : (List (Ty.D thT))) : Hp := []
def E31 : Entry := pureN [(.sl thT), (.sl thT)] (fun d => c31 d.1 d.2.1) (fun d => r31 d.1 d.2.1) (fun d => L31 d.1 d.2.1)
set_option maxRecDepth 100000 in
set_option maxHeartbeats 4000000 in
theorem K31 (a : (List (Ty.D thT))) (b : (List (Ty.D thT))) (hc : c31 a b) : CallOk Try.prog 31 [.c (.rs thT a), .c (.rs thT b)] [] (r31 a b) (L31 a b) := by
  have hc : a.length ≤ 100000 ∧ b.length ≤ 100000 := hc
  obtain ⟨ha, hb⟩ := hc
  refine callOk' Try.func31 26 [.tmp 4] _ rfl rfl rfl (by kernel_rfl) (by simp) [] rfl rfl (by simp) ?_
  simp only [params]
  refine AWP.sR (Gam.nil_ok _) [0, 1] (by apply aops_x (d := 4) (ag_n rfl) rfl (by first | (simp (disch := decide) only [go_sem, seval] <;> rfl) | (simp (disch := first | decide | omega) only [if_pos, nws, go_sem, seval] <;> rfl)) rfl; apply aops_end; rfl) (by (simp (disch := omega) only [go_sem, seval, lay, nws]); rfl) ?_
  refine AWP.seq ?_
  refine AWP.sR (Gam.nil_ok _) [0, 1, 10] (by apply aops_mv (t := 0) (d := 6) (ag_n rfl) rfl rfl (by first | (simp only [look_lay, look, seval] <;> rfl) | fail) rfl; apply aops_x (d := 7) (ag_n rfl) rfl (by first | (simp (disch := decide) only [go_sem, seval] <;> rfl) | (simp (disch := first | decide | omega) only [if_pos, nws, go_sem, seval] <;> rfl)) rfl; apply aops_mv (t := 1) (d := 8) (ag_n rfl) rfl rfl (by first | (simp only [look_lay, look, seval] <;> rfl) | fail) rfl; apply aops_x (d := 9) (ag_n rfl) rfl (by first | (simp (disch := decide) only [go_sem, seval] <;> rfl) | (simp (disch := first | decide | omega) only [if_pos, nws, go_sem, seval] <;> rfl)) rfl; apply aops_x (d := 10) (ag_n rfl) rfl (by first | (simp (disch := decide) only [go_sem, seval] <;> rfl) | (simp (disch := first | decide | omega) only [if_pos, nws, go_sem, seval] <;> rfl)) rfl; apply aops_end; rfl) (by (simp (disch := omega) only [go_sem, seval, lay, nws]); rfl) ?_
  refine AWP.cond (b := _) rfl (fun h => ?_) (fun h => ?_) <;> (try simp only [decide_eq_true_eq, decide_eq_false_iff_not] at h)
  · skip
    refine AWP.sR (Gam.nil_ok _) [4] (by apply aops_x (d := 4) (ag_n rfl) rfl (by first | (simp (disch := decide) only [go_sem, seval] <;> rfl) | (simp (disch := first | decide | omega) only [if_pos, nws, go_sem, seval] <;> rfl)) rfl; apply aops_end; rfl) (by (simp (disch := omega) only [go_sem, seval, lay, nws]); rfl) ?_
    refine AWP.ret ?_
    refine ⟨.inr rfl, _, (by simp only [go_sem, seval] <;> rfl), ?_⟩
    simp only [go_sem, seval, Option.some.injEq, AV.c.injEq, AV.agg.injEq, CV.v.injEq, Value.int.injEq, Value.bool.injEq, Row.raw.injEq, List.cons.injEq, CV.sl.injEq, and_true, true_and, and_self]
    rw [decide_eq_false (fun e => h (by rw [e]))]
  · skip
    refine AWP.skip ?_
    change AWP _ _ _ _ _
    refine AWP.seq ?_
    have hl : a.length = b.length := by omega
    refine AWP.sR (Gam.nil_ok _) [0, 1, 12, 13] (by apply aops_mv (t := 0) (d := 11) (ag_n rfl) rfl rfl (by first | (simp only [look_lay, look, seval] <;> rfl) | fail) rfl; apply aops_x (d := 12) (ag_n rfl) rfl (by first | (simp (disch := decide) only [go_sem, seval] <;> rfl) | (simp (disch := first | decide | omega) only [if_pos, nws, go_sem, seval] <;> rfl)) rfl; apply aops_x (d := 13) (ag_n rfl) rfl (by first | (simp (disch := decide) only [go_sem, seval] <;> rfl) | (simp (disch := first | decide | omega) only [if_pos, nws, go_sem, seval] <;> rfl)) rfl; apply aops_end; rfl) (by (simp (disch := omega) only [go_sem, seval, lay, nws]); rfl) ?_
    refine AWP.block ?_
    refine AWP.loopP (fun (p : Nat) => ⟨26, [(0, .c (.rs thT a)), (1, .c (.rs thT b)), (12, .c (ci .i64 (a.length : Int))), (13, .c (ci .i64 (p : Int)))], []⟩) (fun p => p ≤ a.length ∧ a.take p = b.take p) (fun p => a.length - p) 0 (Ghost.refl _ _) ⟨Nat.zero_le _, rfl⟩ ?_
    rintro i ⟨hi, ht⟩
    refine AWP.sR (Gam.nil_ok _) [0, 1, 12, 13, 14] (by apply aops_x (d := 14) (ag_n rfl) rfl (by first | (simp (disch := decide) only [go_sem, seval] <;> rfl) | (simp (disch := first | decide | omega) only [if_pos, nws, go_sem, seval] <;> rfl)) rfl; apply aops_end; rfl) (by (simp (disch := omega) only [go_sem, seval, lay, nws]); rfl) ?_
    refine AWP.seq ?_
    refine AWP.cond (b := _) rfl (fun h => ?_) (fun h => ?_) <;> (try simp only [decide_eq_true_eq, decide_eq_false_iff_not] at h)
    · skip
      refine AWP.skip ?_
      change AWP _ _ _ _ _
      refine AWP.seqBlock ?_
      have hi' : i < a.length := by omega
      obtain ⟨x, hx⟩ : ∃ x, a[i]? = some x := ⟨_, List.getElem?_eq_getElem hi'⟩
      obtain ⟨y, hy⟩ : ∃ y, b[i]? = some y := ⟨_, List.getElem?_eq_getElem (by omega)⟩
      have hib : i < b.length := by omega
      refine AWP.sR (Gam.nil_ok _) [0, 1, 5, 12, 13] (by apply aops_mv (t := 13) (d := 15) (ag_n rfl) rfl rfl (by first | (simp only [look_lay, look, seval] <;> rfl) | fail) rfl; apply aops_as (t := 15) (d := 5) (ag_n rfl) rfl rfl (by first | (simp only [look_lay, look, seval] <;> rfl) | fail) rfl; apply aops_end; rfl) (by (simp (disch := omega) only [go_sem, seval, lay, nws]); rfl) ?_
      refine AWP.sD (Gam.nil_ok _) (by kernel_rfl) [0, 1, 12, 13, 24] [⟨[], true, 0⟩, ⟨[], true, 0⟩, ⟨[], true, 0⟩, ⟨[], true, 0⟩, ⟨[], true, 0⟩, ⟨[], true, 0⟩, ⟨[], true, 0⟩, ⟨[], true, 0⟩, ⟨[], true, 0⟩] (by kernel_rfl) (by first | rfl | simp only [go_sem, ↓reduceIte, Nat.reduceLT, Nat.reduceAdd]) (by first | rfl | simp only [go_sem, ↓reduceIte, Nat.reduceLT, Nat.reduceAdd]) (by (repeat (first | apply arun_step (by first | exact ag_n rfl | exact ag_b rfl rfl rfl (by first | (simp only [look_lay, look, seval] <;> rfl) | fail) (by first | rfl | (simp only [hx, hy, hib, decide_true, decide_false] <;> rfl) | fail) | fail) (by first | (simp (disch := decide) only [hx, hy, hib, go_sem, seval]; rfl) | (simp (disch := first | decide | omega) only [if_pos, nws, hx, hy, hib, go_sem, seval]; rfl)) (by first | (intro h; cases h; done) | (intro _; rfl) | (intro _; simp only [go_sem, seval, lay])) (by first | rfl | simp only [go_sem, seval, lay]) (by first | rfl | simp only [go_sem, seval, lay]) (by first | rfl | simp only [go_sem, seval, lay]) (by simp only [go_sem, seval, lay]; rfl) | apply arun_pass (by first | exact ag_f rfl rfl rfl (by first | (simp only [look_lay, look, seval] <;> rfl) | fail) (by first | rfl | (simp only [hx, hy, hib, decide_true, decide_false] <;> rfl) | fail) | exact ag_u rfl rfl rfl (by first | (simp only [look_lay, look, seval] <;> rfl) | fail) | fail) rfl (by simp only [go_sem, seval, lay]; rfl))); exact rfl) (by (simp (disch := omega) only [go_sem, seval, lay, nws]); rfl) ?_
      refine AWP.cond (b := _) rfl (fun h => ?_) (fun h => ?_) <;> (try simp only [decide_eq_true_eq, decide_eq_false_iff_not] at h)
      · skip
        refine AWP.sR (Gam.nil_ok _) [4] (by apply aops_x (d := 4) (ag_n rfl) rfl (by first | (simp (disch := decide) only [go_sem, seval] <;> rfl) | (simp (disch := first | decide | omega) only [if_pos, nws, go_sem, seval] <;> rfl)) rfl; apply aops_end; rfl) (by (simp (disch := omega) only [go_sem, seval, lay, nws]); rfl) ?_
        refine AWP.ret ?_
        refine ⟨.inr rfl, _, (by simp only [go_sem, seval] <;> rfl), ?_⟩
        simp only [go_sem, seval, Option.some.injEq, AV.c.injEq, AV.agg.injEq, CV.v.injEq, Value.int.injEq, Value.bool.injEq, Row.raw.injEq, List.cons.injEq, CV.sl.injEq, and_true, true_and, and_self]
        rw [decide_eq_false (fun e => by
          rw [e, hy] at hx
          have hxy : y = x := Option.some.inj hx
          subst hxy; simp at h)]
      · skip
        refine AWP.skip ?_
        change AWP _ _ _ _ _
        refine AWP.rT (Gam.nil_ok _) [0, 1, 12, 13] (by apply aops_x (d := 25) (ag_n rfl) rfl (by first | (simp (disch := decide) only [go_sem, seval] <;> rfl) | (simp (disch := first | decide | omega) only [if_pos, nws, go_sem, seval] <;> rfl)) rfl; apply aops_mv (t := 25) (d := 13) (ag_n rfl) rfl rfl (by first | (simp only [look_lay, look, seval] <;> rfl) | fail) rfl; apply aops_end; rfl) (by (simp (disch := omega) only [go_sem, seval, lay, nws]); rfl) ?_
        have hxy : x = y := by
          simp only [Bool.not_eq_false', Bool.and_eq_true, beq_iff_eq] at h
          exact Prod.ext h.1 h.2
        exact ⟨i + 1, Ghost.of_eq (by simp only [Int.natCast_add, Int.cast_ofNat_Int] <;> rfl), ⟨by omega, by rw [List.take_add_one, List.take_add_one, ht, hx, hy, hxy]⟩, by omega⟩
    · skip
      refine AWP.exit ?_
      change AWP _ _ _ _ _
      refine AWP.sR (Gam.nil_ok _) [4] (by apply aops_x (d := 4) (ag_n rfl) rfl (by first | (simp (disch := decide) only [go_sem, seval] <;> rfl) | (simp (disch := first | decide | omega) only [if_pos, nws, go_sem, seval] <;> rfl)) rfl; apply aops_end; rfl) (by (simp (disch := omega) only [go_sem, seval, lay, nws]); rfl) ?_
      refine AWP.ret ?_
      refine ⟨.inr rfl, _, (by simp only [go_sem, seval] <;> rfl), ?_⟩
      simp only [go_sem, seval, Option.some.injEq, AV.c.injEq, AV.agg.injEq, CV.v.injEq, Value.int.injEq, Value.bool.injEq, Row.raw.injEq, List.cons.injEq, CV.sl.injEq, and_true, true_and, and_self]
      have ei : i = a.length := by omega
      subst ei
      rw [List.take_length, hl, List.take_length] at ht
      rw [decide_eq_true ht]
theorem E31_ok : EntryOk Try.prog 31 E31 := pureN_ok (fun d hc => K31 d.1 d.2.1 hc) (fun _ => rfl) (fun _ => rfl)
attribute [go_sem] E31 c31 r31 L31
end Go.Proofs.Ytonhglodnmoadaa
