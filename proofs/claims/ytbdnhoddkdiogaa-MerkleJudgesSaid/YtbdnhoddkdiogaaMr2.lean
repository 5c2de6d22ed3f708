import Derived.Test.YtbdnhoddkdiogaaMr1
set_option linter.unusedSimpArgs false
set_option linter.unusedVariables false
namespace Go.Proofs.Ytbdnhoddkdiogaa
open Go.RowKit
def liftN : Nat → List Int → Nat → Nat → List (List Int) → List Int × Bool
  | 0, d, _, m, _ => (d, decide (m = 1))
  | n + 1, d, a, m, p => if m = 1 then (d, false) else if a < splitN m then (bothF (liftN n d a (splitN m) (p.take n)).1 (p.getD n []), (liftN n d a (splitN m) (p.take n)).2)
    else (bothF (p.getD n []) (liftN n d (a - splitN m) (m - splitN m) (p.take n)).1, (liftN n d (a - splitN m) (m - splitN m) (p.take n)).2)
def liftF (d : List Int) (a m : Nat) (p : List (List Int)) : List Int × Bool := liftN p.length d a m p
theorem liftF_0 (d : List Int) (a m : Nat) (p : List (List Int)) (h : p.length = 0) : liftF d a m p = (d, decide (m = 1)) := by unfold liftF; rw [h, liftN]
theorem liftF_1 (d : List Int) (a m : Nat) (p : List (List Int)) (h : m = 1) : liftF d a m p = (d, decide (p.length = 0)) := by
  unfold liftF
  cases hp : p.length with
  | zero => rw [liftN, h]; simp
  | succ n => rw [liftN, if_pos h]; simp
theorem liftF_2 (d : List Int) (a m n : Nat) (p : List (List Int)) (hp : p.length = n + 1) (h : m ≠ 1) : liftF d a m p = if a < splitN m then (bothF (liftF d a (splitN m) (p.take n)).1 (p.getD n []), (liftF d a (splitN m) (p.take n)).2)
    else (bothF (p.getD n []) (liftF d (a - splitN m) (m - splitN m) (p.take n)).1, (liftF d (a - splitN m) (m - splitN m) (p.take n)).2) := by
  have hl : (p.take n).length = n := by rw [List.length_take]; omega
  unfold liftF
  rw [hp, hl, liftN, if_neg h]
theorem liftF_ok (d : List Int) (hd : digestOk d) : ∀ (p : List (List Int)) (a m : Nat), digestOk (liftF d a m p).1 := fun p => by
  generalize hn : p.length = n
  induction n generalizing p with
  | zero => intro a m; rw [liftF_0 d a m p hn]; exact hd
  | succ n ih =>
    intro a m
    by_cases hm : m = 1
    · rw [liftF_1 d a m p hm]; exact hd
    · rw [liftF_2 d a m n p hn hm]
      split <;> exact ⟨dg_ok _, dg_len _⟩
theorem lift_shows (d : List Int) : ∀ (n : Nat) (p : List (List Int)) (a m : Nat), p.length = n → a < m → (liftF d a m p).2 = decide ((dirsF a m).length = p.length) ∧ ((dirsF a m).length = p.length → (liftF d a m p).1 = upF (dirsF a m).reverse p d p.length) := fun n => by
  induction n with
  | zero =>
    intro p a m hp ham
    rw [liftF_0 d a m p hp, hp]
    refine ⟨?_, fun _ => rfl⟩
    rw [decide_eq_decide]
    by_cases hm : m ≤ 1
    · rw [dirsF_1 a m hm]; simp; omega
    · rw [dirsF_2 a m (by omega)]
      split <;> simp <;> omega
  | succ n ih =>
    intro p a m hp ham
    by_cases hm : m = 1
    · rw [liftF_1 d a m p hm, dirsF_1 a m (by omega), hp]
      exact ⟨by simp, fun h => by simp at h⟩
    · have hl : (p.take n).length = n := by rw [List.length_take]; omega
      have sp := splitN_spec m (by omega)
      obtain ⟨q, hq⟩ : ∃ q, p[n]? = some q := ⟨_, List.getElem?_eq_getElem (by omega)⟩
      have gq : p.getD n [] = q := by rw [List.getD_eq_getElem?_getD, hq]; rfl
      have pe : p = p.take n ++ [q] := by
        have h1 := List.take_add_one (l := p) (i := n)
        rw [hq, ← hp, List.take_length] at h1
        simpa using h1
      rw [liftF_2 d a m n p hp hm, gq, dirsF_2 a m (by omega), hp]
      by_cases hs : a < splitN m
      · rw [if_pos hs, if_neg (by omega)]
        obtain ⟨i1, i2⟩ := ih (p.take n) a (splitN m) hl hs
        rw [hl] at i1 i2
        refine ⟨by rw [i1, decide_eq_decide]; simp, fun h => ?_⟩
        simp only [List.length_cons] at h
        have h' : (dirsF a (splitN m)).length = n := by omega
        rw [i2 h', List.reverse_cons, upF, gq]
        have e1 : ((dirsF a (splitN m)).reverse ++ [false]).getD n false = false := by
          rw [List.getD_eq_getElem?_getD, List.getElem?_append_right (by rw [List.length_reverse, h']; exact Nat.le_refl _), List.length_reverse, h', Nat.sub_self]; rfl
        rw [e1, if_neg (by simp)]
        congr 1
        conv => rhs; rw [pe]
        rw [upF_app _ _ _ _ _ (by rw [List.length_reverse, h', hl]) n (by rw [List.length_reverse, h']; exact Nat.le_refl _)]
      · rw [if_neg hs, if_pos (by omega)]
        obtain ⟨i1, i2⟩ := ih (p.take n) (a - splitN m) (m - splitN m) hl (by omega)
        rw [hl] at i1 i2
        refine ⟨by rw [i1, decide_eq_decide]; simp, fun h => ?_⟩
        simp only [List.length_cons] at h
        have h' : (dirsF (a - splitN m) (m - splitN m)).length = n := by omega
        rw [i2 h', List.reverse_cons, upF, gq]
        have e1 : ((dirsF (a - splitN m) (m - splitN m)).reverse ++ [true]).getD n false = true := by
          rw [List.getD_eq_getElem?_getD, List.getElem?_append_right (by rw [List.length_reverse, h']; exact Nat.le_refl _), List.length_reverse, h', Nat.sub_self]; rfl
        rw [e1, if_pos rfl]
        congr 1
        conv => rhs; rw [pe]
        rw [upF_app _ _ _ _ _ (by rw [List.length_reverse, h', hl]) n (by rw [List.length_reverse, h']; exact Nat.le_refl _)]
theorem digestsOk_take {p : List (List Int)} (h : digestsOk p) (n : Nat) : digestsOk (p.take n) := fun d hd => h d (List.mem_of_mem_take hd)
abbrev c58 (d : (List Int)) (a : Int) (m : Int) (p : (List (List Int))) : Prop := digestOk d ∧ (digestsOk p ∧ p.length ≤ 1000000) ∧ 0 ≤ a ∧ a < m ∧ m ≤ 1048576
abbrev r58 (d : (List Int)) (a : Int) (m : Int) (p : (List (List Int))) : AV := .tup [.agg (.ty (.i .u8) (liftF d a.toNat m.toNat p).1), .c (cb (liftF d a.toNat m.toNat p).2)]
abbrev L58 (d : (List Int)) (a : Int) (m : Int) (p : (List (List Int))) : Hp := []
def E58 : Entry := pureN [(.ar 32 (.i .u8)), (.i .i64), (.i .i64), (.sl (.ar 32 (.i .u8)))] (fun d => c58 d.1 d.2.1 d.2.2.1 d.2.2.2.1) (fun d => r58 d.1 d.2.1 d.2.2.1 d.2.2.2.1) (fun d => L58 d.1 d.2.1 d.2.2.1 d.2.2.2.1)
def En58 (N : Nat) : Entry := pureN [(.ar 32 (.i .u8)), (.i .i64), (.i .i64), (.sl (.ar 32 (.i .u8)))] (fun d => d.2.2.2.1.length < N ∧ c58 d.1 d.2.1 d.2.2.1 d.2.2.2.1) (fun d => r58 d.1 d.2.1 d.2.2.1 d.2.2.2.1) (fun d => L58 d.1 d.2.1 d.2.2.1 d.2.2.2.1)
set_option maxRecDepth 100000 in
set_option maxHeartbeats 4000000 in
theorem K58 (N : Nat) (ih : EntryOk Try.prog 58 (En58 N)) (d : (List Int)) (a : Int) (m : Int) (p : (List (List Int))) (hm : p.length < N + 1) (hc : c58 d a m p) : CallOk Try.prog 58 [.agg (.ty (.i .u8) d), .c (ci .i64 a), .c (ci .i64 m), .c (.rs (.ar 32 (.i .u8)) p)] [] (r58 d a m p) (L58 d a m p) := by
  have hc : digestOk d ∧ (digestsOk p ∧ p.length ≤ 1000000) ∧ 0 ≤ a ∧ a < m ∧ m ≤ 1048576 := hc
  obtain ⟨⟨hd1, hd2⟩, ⟨hp1, hp2⟩, ha, ham, hmm⟩ := hc
  obtain ⟨a0, rfl⟩ := Int.eq_ofNat_of_zero_le ha
  obtain ⟨m0, rfl⟩ := Int.eq_ofNat_of_zero_le (show 0 ≤ m by omega)
  have hd : digestOk d := ⟨hd1, hd2⟩
  have gok := (Gam.cons_ok ih (Gam.cons_ok E55_ok (Gam.cons_ok E56_ok (Gam.nil_ok _))))
  refine callOk' Try.func58 72 [.cell 8 25, .tmp 9] _ rfl rfl rfl (by kernel_rfl) (by simp) [] rfl rfl (by simp) ?_
  simp only [params]
  refine AWP.sR gok [1, 2, 3, 4, 8] (by apply aops_x (d := 4) (ag_n rfl) rfl (by first | (simp (disch := decide) only [hd2, bothF_len, E56, c56, r56, L56, E55, c55, r55, L55, En58, c58, r58, L58, go_sem, seval] <;> rfl) | (simp (disch := first | decide | omega) only [if_pos, nws, hd2, bothF_len, E56, c56, r56, L56, E55, c55, r55, L55, En58, c58, r58, L58, go_sem, seval] <;> rfl)) rfl; apply aops_x (d := 8) (ag_n rfl) rfl (by first | (simp (disch := decide) only [hd2, bothF_len, E56, c56, r56, L56, E55, c55, r55, L55, En58, c58, r58, L58, go_sem, seval] <;> rfl) | (simp (disch := first | decide | omega) only [if_pos, nws, hd2, bothF_len, E56, c56, r56, L56, E55, c55, r55, L55, En58, c58, r58, L58, go_sem, seval] <;> rfl)) rfl; apply aops_x (d := 9) (ag_n rfl) rfl (by first | (simp (disch := decide) only [hd2, bothF_len, E56, c56, r56, L56, E55, c55, r55, L55, En58, c58, r58, L58, go_sem, seval] <;> rfl) | (simp (disch := first | decide | omega) only [if_pos, nws, hd2, bothF_len, E56, c56, r56, L56, E55, c55, r55, L55, En58, c58, r58, L58, go_sem, seval] <;> rfl)) rfl; apply aops_end; rfl) (by (simp (disch := omega) only [go_sem, seval, lay, nws]); rfl) ?_
  refine AWP.seq ?_
  refine AWP.sR gok [1, 2, 3, 4, 8, 17] (by apply aops_mv (t := 2) (d := 16) (ag_n rfl) rfl rfl (by simp only [look_lay, look, seval] <;> rfl) rfl; apply aops_x (d := 17) (ag_n rfl) rfl (by first | (simp (disch := decide) only [hd2, bothF_len, E56, c56, r56, L56, E55, c55, r55, L55, En58, c58, r58, L58, go_sem, seval] <;> rfl) | (simp (disch := first | decide | omega) only [if_pos, nws, hd2, bothF_len, E56, c56, r56, L56, E55, c55, r55, L55, En58, c58, r58, L58, go_sem, seval] <;> rfl)) rfl; apply aops_end; rfl) (by (simp (disch := omega) only [go_sem, seval, lay, nws]); rfl) ?_
  refine AWP.cond (b := _) rfl (fun h => ?_) (fun h => ?_) <;> (try simp only [decide_eq_true_eq, decide_eq_false_iff_not] at h)
  · skip
    refine AWP.sR gok [8, 9] (by apply aops_x (d := 18) (ag_n rfl) rfl (by first | (simp (disch := decide) only [hd2, bothF_len, E56, c56, r56, L56, E55, c55, r55, L55, En58, c58, r58, L58, go_sem, seval] <;> rfl) | (simp (disch := first | decide | omega) only [if_pos, nws, hd2, bothF_len, E56, c56, r56, L56, E55, c55, r55, L55, En58, c58, r58, L58, go_sem, seval] <;> rfl)) rfl; apply aops_mv (t := 3) (d := 19) (ag_n rfl) rfl rfl (by simp only [look_lay, look, seval] <;> rfl) rfl; apply aops_x (d := 20) (ag_n rfl) rfl (by first | (simp (disch := decide) only [hd2, bothF_len, E56, c56, r56, L56, E55, c55, r55, L55, En58, c58, r58, L58, go_sem, seval] <;> rfl) | (simp (disch := first | decide | omega) only [if_pos, nws, hd2, bothF_len, E56, c56, r56, L56, E55, c55, r55, L55, En58, c58, r58, L58, go_sem, seval] <;> rfl)) rfl; apply aops_x (d := 21) (ag_n rfl) rfl (by first | (simp (disch := decide) only [hd2, bothF_len, E56, c56, r56, L56, E55, c55, r55, L55, En58, c58, r58, L58, go_sem, seval] <;> rfl) | (simp (disch := first | decide | omega) only [if_pos, nws, hd2, bothF_len, E56, c56, r56, L56, E55, c55, r55, L55, En58, c58, r58, L58, go_sem, seval] <;> rfl)) rfl; apply aops_s (ag_n rfl) rfl (by first | (simp (disch := decide) only [hd2, bothF_len, E56, c56, r56, L56, E55, c55, r55, L55, En58, c58, r58, L58, go_sem, seval] <;> rfl) | (simp (disch := first | decide | omega) only [if_pos, nws, hd2, bothF_len, E56, c56, r56, L56, E55, c55, r55, L55, En58, c58, r58, L58, go_sem, seval] <;> rfl)); apply aops_as (t := 21) (d := 9) (ag_n rfl) rfl rfl (by simp only [look_lay, look, seval] <;> rfl) rfl; apply aops_end; rfl) (by (simp (disch := omega) only [go_sem, seval, lay, nws]); rfl) ?_
    refine AWP.ret ?_
    refine ⟨.inr rfl, _, (by simp only [go_sem, seval, hd2, bothF_len, E56, c56, r56, L56, E55, c55, r55, L55, En58, c58, r58, L58] <;> rfl), ?_⟩
    simp only [go_sem, seval, hd2, bothF_len, E56, c56, r56, L56, E55, c55, r55, L55, En58, c58, r58, L58, Option.some.injEq, AV.c.injEq, AV.agg.injEq, CV.v.injEq, Value.int.injEq, Value.bool.injEq, Row.raw.injEq, List.cons.injEq, CV.sl.injEq, and_true, true_and, and_self]
    have e := liftF_1 d (a0 : Int).toNat (m0 : Int).toNat p (by omega)
    rw [e, show decide ((p.length : Int) = 0) = decide (p.length = 0) by rw [decide_eq_decide]; omega]
  · skip
    refine AWP.skip ?_
    change AWP _ _ _ _ _
    refine AWP.seq ?_
    refine AWP.sR gok [1, 2, 3, 4, 8, 24] (by apply aops_mv (t := 3) (d := 22) (ag_n rfl) rfl rfl (by simp only [look_lay, look, seval] <;> rfl) rfl; apply aops_x (d := 23) (ag_n rfl) rfl (by first | (simp (disch := decide) only [hd2, bothF_len, E56, c56, r56, L56, E55, c55, r55, L55, En58, c58, r58, L58, go_sem, seval] <;> rfl) | (simp (disch := first | decide | omega) only [if_pos, nws, hd2, bothF_len, E56, c56, r56, L56, E55, c55, r55, L55, En58, c58, r58, L58, go_sem, seval] <;> rfl)) rfl; apply aops_x (d := 24) (ag_n rfl) rfl (by first | (simp (disch := decide) only [hd2, bothF_len, E56, c56, r56, L56, E55, c55, r55, L55, En58, c58, r58, L58, go_sem, seval] <;> rfl) | (simp (disch := first | decide | omega) only [if_pos, nws, hd2, bothF_len, E56, c56, r56, L56, E55, c55, r55, L55, En58, c58, r58, L58, go_sem, seval] <;> rfl)) rfl; apply aops_end; rfl) (by (simp (disch := omega) only [go_sem, seval, lay, nws]); rfl) ?_
    refine AWP.cond (b := _) rfl (fun h => ?_) (fun h => ?_) <;> (try simp only [decide_eq_true_eq, decide_eq_false_iff_not] at h)
    · skip
      refine AWP.sR gok [8, 9] (by apply aops_x (d := 25) (ag_n rfl) rfl (by first | (simp (disch := decide) only [hd2, bothF_len, E56, c56, r56, L56, E55, c55, r55, L55, En58, c58, r58, L58, go_sem, seval] <;> rfl) | (simp (disch := first | decide | omega) only [if_pos, nws, hd2, bothF_len, E56, c56, r56, L56, E55, c55, r55, L55, En58, c58, r58, L58, go_sem, seval] <;> rfl)) rfl; apply aops_s (ag_n rfl) rfl (by first | (simp (disch := decide) only [hd2, bothF_len, E56, c56, r56, L56, E55, c55, r55, L55, En58, c58, r58, L58, go_sem, seval] <;> rfl) | (simp (disch := first | decide | omega) only [if_pos, nws, hd2, bothF_len, E56, c56, r56, L56, E55, c55, r55, L55, En58, c58, r58, L58, go_sem, seval] <;> rfl)); apply aops_x (d := 9) (ag_n rfl) rfl (by first | (simp (disch := decide) only [hd2, bothF_len, E56, c56, r56, L56, E55, c55, r55, L55, En58, c58, r58, L58, go_sem, seval] <;> rfl) | (simp (disch := first | decide | omega) only [if_pos, nws, hd2, bothF_len, E56, c56, r56, L56, E55, c55, r55, L55, En58, c58, r58, L58, go_sem, seval] <;> rfl)) rfl; apply aops_end; rfl) (by (simp (disch := omega) only [go_sem, seval, lay, nws]); rfl) ?_
      refine AWP.ret ?_
      refine ⟨.inr rfl, _, (by simp only [go_sem, seval, hd2, bothF_len, E56, c56, r56, L56, E55, c55, r55, L55, En58, c58, r58, L58] <;> rfl), ?_⟩
      simp only [go_sem, seval, hd2, bothF_len, E56, c56, r56, L56, E55, c55, r55, L55, En58, c58, r58, L58, Option.some.injEq, AV.c.injEq, AV.agg.injEq, CV.v.injEq, Value.int.injEq, Value.bool.injEq, Row.raw.injEq, List.cons.injEq, CV.sl.injEq, and_true, true_and, and_self]
      have e := liftF_0 d (a0 : Int).toNat (m0 : Int).toNat p (by omega)
      rw [e, decide_eq_false (by omega)]
    · skip
      refine AWP.skip ?_
      change AWP _ _ _ _ _
      obtain ⟨n, hn⟩ : ∃ n, p.length = n + 1 := ⟨p.length - 1, by omega⟩
      have hm1 : m0 ≠ 1 := by omega
      have sp := splitN_spec m0 (by omega)
      obtain ⟨q, hq⟩ : ∃ q, p[n]? = some q := ⟨_, List.getElem?_eq_getElem (by omega)⟩
      obtain ⟨q1, q2⟩ := hp1 q (List.mem_of_getElem? hq)
      have hqo : digestOk q := ⟨q1, q2⟩
      have gq : p.getD n [] = q := by rw [List.getD_eq_getElem?_getD, hq]; rfl
      have lf := liftF_2 d a0 m0 n p hn hm1
      rw [gq] at lf
      refine AWP.sR gok [1, 2, 3, 4, 8, 10] (by apply aops_mv (t := 2) (d := 26) (ag_n rfl) rfl rfl (by simp only [look_lay, look, seval] <;> rfl) rfl; apply aops_x (d := 27) (ag_n rfl) rfl (by (simp (disch := first | decide | omega) only [if_pos, nws, hd2, bothF_len, E56, c56, r56, L56, E55, c55, r55, L55, En58, c58, r58, L58, Int.toNat_natCast, go_sem, seval] <;> rfl)) rfl; apply aops_as (t := 27) (d := 10) (ag_n rfl) rfl rfl (by simp only [look_lay, look, seval] <;> rfl) rfl; apply aops_end; rfl) (by (simp (disch := omega) only [go_sem, seval, lay, nws]); rfl) ?_
      refine AWP.sR gok [1, 2, 3, 4, 8, 10, 11] (by apply aops_mv (t := 3) (d := 28) (ag_n rfl) rfl rfl (by simp only [look_lay, look, seval] <;> rfl) rfl; apply aops_x (d := 29) (ag_n rfl) rfl (by first | (simp (disch := decide) only [hd2, bothF_len, E56, c56, r56, L56, E55, c55, r55, L55, En58, c58, r58, L58, go_sem, seval] <;> rfl) | (simp (disch := first | decide | omega) only [if_pos, nws, hd2, bothF_len, E56, c56, r56, L56, E55, c55, r55, L55, En58, c58, r58, L58, go_sem, seval] <;> rfl)) rfl; apply aops_x (d := 30) (ag_n rfl) rfl (by first | (simp (disch := decide) only [hd2, bothF_len, E56, c56, r56, L56, E55, c55, r55, L55, En58, c58, r58, L58, go_sem, seval] <;> rfl) | (simp (disch := first | decide | omega) only [if_pos, nws, hd2, bothF_len, E56, c56, r56, L56, E55, c55, r55, L55, En58, c58, r58, L58, go_sem, seval] <;> rfl)) rfl; apply aops_as (t := 30) (d := 11) (ag_n rfl) rfl rfl (by simp only [look_lay, look, seval] <;> rfl) rfl; apply aops_end; rfl) (by (simp (disch := omega) only [go_sem, seval, lay, nws]); rfl) ?_
      refine AWP.seq ?_
      have en : (p.length : Int) - 1 = (n : Int) := by omega
      rw [en]
      have bt := digestsOk_take hp1 n
      have lt : (p.take n).length = n := by rw [List.length_take]; omega
      have x1 := liftF_ok d hd (p.take n) a0 (splitN m0)
      have x2 := liftF_ok d hd (p.take n) (a0 - splitN m0) (m0 - splitN m0)
      have x1l := x1.2
      have x2l := x2.2
      have ea : splitN m0 ≤ a0 → ((a0 : Int) - (splitN m0 : Int)).toNat = a0 - splitN m0 := fun h => by omega
      have em : ((m0 : Int) - (splitN m0 : Int)).toNat = m0 - splitN m0 := by omega
      refine AWP.sR gok [1, 2, 3, 4, 8, 10, 11, 33] (by apply aops_mv (t := 1) (d := 31) (ag_n rfl) rfl rfl (by simp only [look_lay, look, seval] <;> rfl) rfl; apply aops_mv (t := 10) (d := 32) (ag_n rfl) rfl rfl (by simp only [look_lay, look, seval] <;> rfl) rfl; apply aops_x (d := 33) (ag_n rfl) rfl (by first | (simp (disch := decide) only [hd2, bothF_len, E56, c56, r56, L56, E55, c55, r55, L55, En58, c58, r58, L58, go_sem, seval] <;> rfl) | (simp (disch := first | decide | omega) only [if_pos, nws, hd2, bothF_len, E56, c56, r56, L56, E55, c55, r55, L55, En58, c58, r58, L58, go_sem, seval] <;> rfl)) rfl; apply aops_end; rfl) (by (simp (disch := omega) only [go_sem, seval, lay, nws]); rfl) ?_
      refine AWP.cond (b := _) rfl (fun h => ?_) (fun h => ?_) <;> (try simp only [decide_eq_true_eq, decide_eq_false_iff_not] at h)
      · skip
        refine AWP.sD gok (by kernel_rfl) [3, 8, 11, 12, 13] [⟨[0], true, 0⟩, ⟨[], true, 0⟩, ⟨[], true, 0⟩, ⟨[], true, 0⟩, ⟨[], true, 0⟩, ⟨[], true, 0⟩, ⟨[], true, 0⟩, ⟨[], true, 0⟩, ⟨[], true, 0⟩, ⟨[], true, 0⟩, ⟨[], true, 1⟩, ⟨[2], false, 0⟩, ⟨[], true, 0⟩] (by kernel_rfl) (by first | rfl | simp only [go_sem, ↓reduceIte, Nat.reduceLT, Nat.reduceAdd]) (by first | rfl | simp only [go_sem, ↓reduceIte, Nat.reduceLT, Nat.reduceAdd]) (by (repeat (first | apply arun_step (by first | rfl | (simp only [go_sem, seval, lay]; rfl)) (by first | (simp (disch := decide) only [hd2, bothF_len, E56, c56, r56, L56, E55, c55, r55, L55, En58, c58, r58, L58, bt, lt, hd, Nat.sub_zero, x1l, go_sem, seval]; rfl) | (simp (disch := first | decide | omega) only [if_pos, nws, hd2, bothF_len, E56, c56, r56, L56, E55, c55, r55, L55, En58, c58, r58, L58, bt, lt, hd, Nat.sub_zero, x1l, go_sem, seval]; rfl)) (by first | (intro h; cases h; done) | (intro _; rfl) | (intro _; simp only [go_sem, seval, lay])) (by first | rfl | simp only [go_sem, seval, lay]) (by first | rfl | simp only [go_sem, seval, lay]) (by first | rfl | simp only [go_sem, seval, lay]) (by simp only [go_sem, seval, lay]; rfl) | apply arun_pass (by first | rfl | (simp only [go_sem, seval, lay]; rfl)) rfl (by simp only [go_sem, seval, lay]; rfl))); exact rfl) (by (simp (disch := omega) only [go_sem, seval, lay, nws]); rfl) ?_
        refine AWP.sD gok (by kernel_rfl) [8, 9] [⟨[2], true, 0⟩, ⟨[], true, 0⟩, ⟨[], true, 0⟩, ⟨[], true, 0⟩, ⟨[], true, 0⟩, ⟨[], true, 0⟩, ⟨[], true, 0⟩, ⟨[1], false, 0⟩, ⟨[], true, 0⟩] (by kernel_rfl) (by first | rfl | simp only [go_sem, ↓reduceIte, Nat.reduceLT, Nat.reduceAdd]) (by first | rfl | simp only [go_sem, ↓reduceIte, Nat.reduceLT, Nat.reduceAdd]) (by (repeat (first | apply arun_step (by first | rfl | (simp only [go_sem, seval, lay]; rfl)) (by first | (simp (disch := decide) only [hd2, bothF_len, E56, c56, r56, L56, E55, c55, r55, L55, En58, c58, r58, L58, hq, x1, x1l, hqo, q2, bothF_len, go_sem, seval]; rfl) | (simp (disch := first | decide | omega) only [if_pos, nws, hd2, bothF_len, E56, c56, r56, L56, E55, c55, r55, L55, En58, c58, r58, L58, hq, x1, x1l, hqo, q2, bothF_len, go_sem, seval]; rfl)) (by first | (intro h; cases h; done) | (intro _; rfl) | (intro _; simp only [go_sem, seval, lay])) (by first | rfl | simp only [go_sem, seval, lay]) (by first | rfl | simp only [go_sem, seval, lay]) (by first | rfl | simp only [go_sem, seval, lay]) (by simp only [go_sem, seval, lay]; rfl) | apply arun_pass (by first | rfl | (simp only [go_sem, seval, lay]; rfl)) rfl (by simp only [go_sem, seval, lay]; rfl))); exact rfl) (by (simp (disch := omega) only [go_sem, seval, lay, nws]); rfl) ?_
        refine AWP.ret ?_
        refine ⟨.inr rfl, _, (by simp only [go_sem, seval, hd2, bothF_len, E56, c56, r56, L56, E55, c55, r55, L55, En58, c58, r58, L58] <;> rfl), ?_⟩
        simp only [go_sem, seval, hd2, bothF_len, E56, c56, r56, L56, E55, c55, r55, L55, En58, c58, r58, L58, Option.some.injEq, AV.c.injEq, AV.agg.injEq, CV.v.injEq, Value.int.injEq, Value.bool.injEq, Row.raw.injEq, List.cons.injEq, CV.sl.injEq, and_true, true_and, and_self]
        rw [Int.toNat_natCast, Int.toNat_natCast, lf, if_pos (by omega)]
      · skip
        refine AWP.skip ?_
        change AWP _ _ _ _ _
        have ea' := ea (by omega)
        refine AWP.sD gok (by kernel_rfl) [3, 8, 11, 14, 15] [⟨[0], true, 0⟩, ⟨[], true, 0⟩, ⟨[], true, 0⟩, ⟨[], true, 0⟩, ⟨[], true, 0⟩, ⟨[], true, 0⟩, ⟨[], true, 0⟩, ⟨[], true, 0⟩, ⟨[], true, 0⟩, ⟨[], true, 0⟩, ⟨[], true, 0⟩, ⟨[], true, 0⟩, ⟨[], true, 0⟩, ⟨[], true, 0⟩, ⟨[], true, 1⟩, ⟨[2], false, 0⟩, ⟨[], true, 0⟩] (by kernel_rfl) (by first | rfl | simp only [go_sem, ↓reduceIte, Nat.reduceLT, Nat.reduceAdd]) (by first | rfl | simp only [go_sem, ↓reduceIte, Nat.reduceLT, Nat.reduceAdd]) (by (repeat (first | apply arun_step (by first | rfl | (simp only [go_sem, seval, lay]; rfl)) (by first | (simp (disch := decide) only [hd2, bothF_len, E56, c56, r56, L56, E55, c55, r55, L55, En58, c58, r58, L58, bt, lt, hd, Nat.sub_zero, ea', em, x2l, go_sem, seval]; rfl) | (simp (disch := first | decide | omega) only [if_pos, nws, hd2, bothF_len, E56, c56, r56, L56, E55, c55, r55, L55, En58, c58, r58, L58, bt, lt, hd, Nat.sub_zero, ea', em, x2l, go_sem, seval]; rfl)) (by first | (intro h; cases h; done) | (intro _; rfl) | (intro _; simp only [go_sem, seval, lay])) (by first | rfl | simp only [go_sem, seval, lay]) (by first | rfl | simp only [go_sem, seval, lay]) (by first | rfl | simp only [go_sem, seval, lay]) (by simp only [go_sem, seval, lay]; rfl) | apply arun_pass (by first | rfl | (simp only [go_sem, seval, lay]; rfl)) rfl (by simp only [go_sem, seval, lay]; rfl))); exact rfl) (by (simp (disch := omega) only [go_sem, seval, lay, nws]); rfl) ?_
        refine AWP.sD gok (by kernel_rfl) [8, 9] [⟨[], true, 0⟩, ⟨[], true, 0⟩, ⟨[], true, 0⟩, ⟨[], true, 0⟩, ⟨[2], true, 0⟩, ⟨[], true, 0⟩, ⟨[], true, 0⟩, ⟨[1], false, 0⟩, ⟨[], true, 0⟩] (by kernel_rfl) (by first | rfl | simp only [go_sem, ↓reduceIte, Nat.reduceLT, Nat.reduceAdd]) (by first | rfl | simp only [go_sem, ↓reduceIte, Nat.reduceLT, Nat.reduceAdd]) (by (repeat (first | apply arun_step (by first | rfl | (simp only [go_sem, seval, lay]; rfl)) (by first | (simp (disch := decide) only [hd2, bothF_len, E56, c56, r56, L56, E55, c55, r55, L55, En58, c58, r58, L58, hq, x2, x2l, hqo, q2, bothF_len, go_sem, seval]; rfl) | (simp (disch := first | decide | omega) only [if_pos, nws, hd2, bothF_len, E56, c56, r56, L56, E55, c55, r55, L55, En58, c58, r58, L58, hq, x2, x2l, hqo, q2, bothF_len, go_sem, seval]; rfl)) (by first | (intro h; cases h; done) | (intro _; rfl) | (intro _; simp only [go_sem, seval, lay])) (by first | rfl | simp only [go_sem, seval, lay]) (by first | rfl | simp only [go_sem, seval, lay]) (by first | rfl | simp only [go_sem, seval, lay]) (by simp only [go_sem, seval, lay]; rfl) | apply arun_pass (by first | rfl | (simp only [go_sem, seval, lay]; rfl)) rfl (by simp only [go_sem, seval, lay]; rfl))); exact rfl) (by (simp (disch := omega) only [go_sem, seval, lay, nws]); rfl) ?_
        refine AWP.ret ?_
        refine ⟨.inr rfl, _, (by simp only [go_sem, seval, hd2, bothF_len, E56, c56, r56, L56, E55, c55, r55, L55, En58, c58, r58, L58] <;> rfl), ?_⟩
        simp only [go_sem, seval, hd2, bothF_len, E56, c56, r56, L56, E55, c55, r55, L55, En58, c58, r58, L58, Option.some.injEq, AV.c.injEq, AV.agg.injEq, CV.v.injEq, Value.int.injEq, Value.bool.injEq, Row.raw.injEq, List.cons.injEq, CV.sl.injEq, and_true, true_and, and_self]
        rw [Int.toNat_natCast, Int.toNat_natCast, lf, if_neg (by omega)]
theorem En58_ok : ∀ N, EntryOk Try.prog 58 (En58 N)
  | 0 => pureN_ok (fun d hc => absurd hc.1 (Nat.not_lt_zero _)) (fun _ => rfl) (fun _ => rfl)
  | N + 1 => pureN_ok (fun d hc => K58 N (En58_ok N) d.1 d.2.1 d.2.2.1 d.2.2.2.1 hc.1 hc.2) (fun _ => rfl) (fun _ => rfl)
theorem E58_ok : EntryOk Try.prog 58 E58 := pureN_ok (fun d hc => K58 _ (En58_ok _) d.1 d.2.1 d.2.2.1 d.2.2.2.1 (Nat.lt_succ_self _) hc) (fun _ => rfl) (fun _ => rfl)
end Go.Proofs.Ytbdnhoddkdiogaa
