import Derived.Test.YtonhglodnmoadaaHt2
set_option linter.unusedSimpArgs false
set_option linter.unusedVariables false
namespace Go.Proofs.Ytonhglodnmoadaa
open Go.RowKit
def cs (xs : List ((Int × Int) × Int)) (k : Nat) : Nat → Nat
  | 0 => k
  | j + 1 => HeapLaw.nxt ltI xs (cs xs k j) (2 * k + 1 + j)
theorem cs_least (xs : List ((Int × Int) × Int)) (k : Nat) : cs xs k 2 = HeapLaw.least ltI xs k := rfl
theorem cs_lt (xs : List ((Int × Int) × Int)) (k : Nat) (h : k < xs.length) : ∀ j, cs xs k j < xs.length
  | 0 => h
  | j + 1 => HeapLaw.nxt_lt _ _ _ (cs_lt xs k h j)
theorem cs_or (xs : List ((Int × Int) × Int)) (k : Nat) : ∀ j, cs xs k j = k ∨ k < cs xs k j
  | 0 => .inl rfl
  | j + 1 => by
    show HeapLaw.nxt ltI xs (cs xs k j) (2 * k + 1 + j) = k ∨ _
    unfold HeapLaw.nxt
    have := cs_or xs k j
    split
    · split
      · right; show k < HeapLaw.nxt ltI xs (cs xs k j) (2 * k + 1 + j); rename_i h1 h2 h3; rw [HeapLaw.nxt_some h1 h2, if_pos h3]; omega
      · rename_i h1 h2 h3
        rcases this with e | e
        · exact .inl e
        · right; show k < HeapLaw.nxt ltI xs (cs xs k j) (2 * k + 1 + j); rw [HeapLaw.nxt_some h1 h2, if_neg h3]; exact e
    · rename_i hn
      rcases this with e | e
      · exact .inl e
      · right
        show k < HeapLaw.nxt ltI xs (cs xs k j) (2 * k + 1 + j)
        unfold HeapLaw.nxt
        split
        · rename_i a b h1 h2; exact (hn a b h1 h2).elim
        · exact e
theorem cs_nil (xs : List ((Int × Int) × Int)) (k : Nat) (h : xs.length = 0) : ∀ j, cs xs k j = k
  | 0 => rfl
  | j + 1 => by
    show HeapLaw.nxt ltI xs (cs xs k j) (2 * k + 1 + j) = k
    rw [HeapLaw.nxt_none _ _ _ (by omega), cs_nil xs k h j]
/-- What a test of the loop tells. -/
theorem test_cases (xs : List ((Int × Int) × Int)) (c q : Nat) (hc : q < xs.length → c < xs.length) :
    ∃ (B B0 : Bool) (a b : (Int × Int) × Int), HeapLaw.nxt ltI xs c q = (if B = true then q else c) ∧ decide ((q : Int) < (xs.length : Int)) = B0 ∧ (((B0 == true) = false ∧ (B0 = true) = False ∧ B = false ∧ True ∧ True ∧ True) ∨ ((B0 == true) = true ∧ (B0 = true) = True ∧ B = ltI a b ∧ xs[q]? = some a ∧ xs[c]? = some b ∧ (c : Int) < (xs.length : Int) ∧ (q : Int) < (xs.length : Int))) := by
  by_cases h : q < xs.length
  · obtain ⟨a, ha⟩ : ∃ a, xs[q]? = some a := ⟨_, List.getElem?_eq_getElem h⟩
    obtain ⟨b, hb⟩ : ∃ b, xs[c]? = some b := ⟨_, List.getElem?_eq_getElem (hc h)⟩
    exact ⟨ltI a b, true, a, b, HeapLaw.nxt_some ha hb, decide_eq_true (by omega), .inr ⟨rfl, by simp, rfl, ha, hb, by have := hc h; omega, by omega⟩⟩
  · exact ⟨false, false, ((0, 0), 0), ((0, 0), 0), HeapLaw.nxt_none _ _ _ (by omega), decide_eq_false (by omega), .inl ⟨rfl, by simp, rfl, trivial, trivial, trivial⟩⟩
abbrev c48 (l : List (Ty.D enT)) (n : Int) (k : Int) : Prop := (0 ≤ k ∧ k ≤ l.length ∧ (k < l.length ∨ l.length = 0)) ∧ l.length ≤ 100000
abbrev r48 (l : List (Ty.D enT)) (n : Int) (k : Int) : AV := .tup []
abbrev f48 (l : List (Ty.D enT)) (n : Int) (k : Int) : List (Ty.D enT) := HeapLaw.down ltI (l.length + 1) l k.toNat
abbrev q48 (l : List (Ty.D enT)) (n : Int) (k : Int) : Int := n
abbrev L48 (l : List (Ty.D enT)) (n : Int) (k : Int) : Hp := []
set_option maxRecDepth 100000 in
set_option maxHeartbeats 4000000 in
theorem K48 (l : List (Ty.D enT)) (n : Int) (k : Int) (hc : c48 l n k) : CallOk Try.prog 48 [.c (.ptr 0 0 1 0), .c (ci .i64 k)] [some (.raw [.v (.func (.func 22) #[] #[]), .sl 1 0 (l).length 3, ci .i64 n]), some (.ty enT (l))] (r48 l n k) (some (.raw [.v (.func (.func 22) #[] #[]), .sl 1 0 (f48 l n k).length 3, ci .i64 (q48 l n k)]) :: some (.ty enT (f48 l n k)) :: L48 l n k) := by
  have hc : (0 ≤ k ∧ k ≤ l.length ∧ (k < l.length ∨ l.length = 0)) ∧ l.length ≤ 100000 := hc
  obtain ⟨⟨hk0, hk1, hk2⟩, hl⟩ := hc
  obtain ⟨k, rfl⟩ := Int.eq_ofNat_of_zero_le hk0
  have gok := (Gam.cons_ok E58_ok (Gam.nil_ok _))
  refine callOk' Try.func48 77 [] _ rfl rfl rfl (by kernel_rfl) (by simp) [0, 1] rfl rfl (by simp) ?_
  simp only [params]
  refine AWP.block ?_
  refine AWP.loopP (fun (p : Nat × List ((Int × Int) × Int) × Nat) => ⟨77, [(0, .c (.ptr 0 0 1 0)), (1, .c (ci .i64 (p.1 : Int)))], [some (.raw [.v (.func (.func 22) #[] #[]), .sl 1 0 p.2.1.length 3, ci .i64 n]), some (.ty enT p.2.1)]⟩) (fun p => (p.2.1.length = l.length ∧ (p.1 < p.2.1.length ∨ (p.2.1.length = 0 ∧ p.1 = 0))) ∧ p.2.1.length < p.1 + p.2.2 ∧ HeapLaw.down ltI p.2.2 p.2.1 p.1 = HeapLaw.down ltI (l.length + 1) l k) (fun p => p.2.1.length - p.1) (k, l, l.length + 1) (Ghost.refl _ _) ⟨⟨rfl, by simp only; omega⟩, by simp only; omega, rfl⟩ ?_
  rintro ⟨i, xs, f⟩ ⟨⟨i1, i2⟩, i3, i4⟩
  simp only at i1 i2 i3 i4 ⊢
  obtain ⟨g, rfl⟩ : ∃ g, f = g + 1 := ⟨f - 1, by omega⟩
  refine AWP.block ?_
  refine AWP.sR gok [0, 1, 4] (by apply aops_mv (t := 1) (d := 7) (ag_n rfl) rfl rfl (by first | (simp only [look_lay, look, seval] <;> rfl) | fail) rfl; apply aops_as (t := 7) (d := 4) (ag_n rfl) rfl rfl (by first | (simp only [look_lay, look, seval] <;> rfl) | fail) rfl; apply aops_end; rfl) (by (simp (disch := omega) only [go_sem, seval, lay, nws]); rfl) ?_
  refine AWP.seq ?_
  refine AWP.sR gok [0, 1, 4, 14, 15, 16] (by apply aops_mv (t := 1) (d := 8) (ag_n rfl) rfl rfl (by first | (simp only [look_lay, look, seval] <;> rfl) | fail) rfl; apply aops_x (d := 9) (ag_n rfl) rfl (by first | (simp (disch := decide) only [go_sem, seval] <;> rfl) | (simp (disch := first | decide | omega) only [if_pos, nws, go_sem, seval] <;> rfl)) rfl; apply aops_x (d := 10) (ag_n rfl) rfl (by first | (simp (disch := decide) only [go_sem, seval] <;> rfl) | (simp (disch := first | decide | omega) only [if_pos, nws, go_sem, seval] <;> rfl)) rfl; apply aops_mv (t := 1) (d := 11) (ag_n rfl) rfl rfl (by first | (simp only [look_lay, look, seval] <;> rfl) | fail) rfl; apply aops_x (d := 12) (ag_n rfl) rfl (by first | (simp (disch := decide) only [go_sem, seval] <;> rfl) | (simp (disch := first | decide | omega) only [if_pos, nws, go_sem, seval] <;> rfl)) rfl; apply aops_x (d := 13) (ag_n rfl) rfl (by first | (simp (disch := decide) only [go_sem, seval] <;> rfl) | (simp (disch := first | decide | omega) only [if_pos, nws, go_sem, seval] <;> rfl)) rfl; apply aops_x (d := 14) (ag_n rfl) rfl (by (simp (disch := first | decide | omega) only [if_pos, nws, go_sem, seval] <;> rfl)) rfl; apply aops_x (d := 15) (ag_n rfl) rfl (by first | (simp (disch := decide) only [go_sem, seval] <;> rfl) | (simp (disch := first | decide | omega) only [if_pos, nws, go_sem, seval] <;> rfl)) rfl; apply aops_x (d := 16) (ag_n rfl) rfl (by first | (simp (disch := decide) only [go_sem, seval] <;> rfl) | (simp (disch := first | decide | omega) only [if_pos, nws, go_sem, seval] <;> rfl)) rfl; apply aops_end; rfl) (by (simp (disch := omega) only [go_sem, seval, lay, nws]); rfl) ?_
  refine AWP.block ?_
  refine AWP.loopP (fun (p : Nat) => ⟨77, [(0, .c (.ptr 0 0 1 0)), (1, .c (ci .i64 (i : Int))), (4, .c (ci .i64 (cs xs i p : Int))), (14, .c (.sl 2 0 2 1)), (15, .c (ci .i64 2)), (16, .c (ci .i64 (p : Int)))], [some (.raw [.v (.func (.func 22) #[] #[]), .sl 1 0 xs.length 3, ci .i64 n]), some (.ty enT xs), some (.ty (.i .i64) [2 * (i : Int) + 1, 2 * (i : Int) + 2])]⟩) (fun p => p ≤ 2) (fun p => 2 - p) 0 (Ghost.refl _ _) (Nat.zero_le _) ?_
  rintro j hj
  refine AWP.sR gok [0, 1, 4, 14, 15, 16, 17] (by apply aops_x (d := 17) (ag_n rfl) rfl (by first | (simp (disch := decide) only [go_sem, seval] <;> rfl) | (simp (disch := first | decide | omega) only [if_pos, nws, go_sem, seval] <;> rfl)) rfl; apply aops_end; rfl) (by (simp (disch := omega) only [go_sem, seval, lay, nws]); rfl) ?_
  refine AWP.seq ?_
  refine AWP.cond (b := _) rfl (fun h => ?_) (fun h => ?_) <;> (try simp only [decide_eq_true_eq, decide_eq_false_iff_not] at h)
  · skip
    refine AWP.skip ?_
    change AWP _ _ _ _ _
    refine AWP.seqBlock ?_
    have hj2 : j < 2 := by omega
    have hm : ([2 * (i : Int) + 1, 2 * (i : Int) + 2] : List Int)[j]? = some (((2 * i + 1 + j : Nat) : Int)) := by
      rcases (show j = 0 ∨ j = 1 by omega) with rfl | rfl
      · simp
      · simp; omega
    obtain ⟨B, B0, a, b, hn, hqd, hcase⟩ := test_cases xs (cs xs i j) (2 * i + 1 + j) (fun h => cs_lt xs i (by omega) j)
    generalize hq : 2 * i + 1 + j = q at hm hn hqd hcase ⊢
    generalize hcj : cs xs i j = c at hn hcase ⊢
    refine AWP.sR gok [0, 1, 4, 6, 14, 15, 16] (by apply aops_x (d := 18) (ag_n rfl) rfl (by (simp (disch := first | decide | omega) only [if_pos, nws, hm, go_sem, seval] <;> rfl)) rfl; apply aops_x (d := 19) (ag_n rfl) rfl (by first | (simp (disch := decide) only [hm, go_sem, seval] <;> rfl) | (simp (disch := first | decide | omega) only [if_pos, nws, hm, go_sem, seval] <;> rfl)) rfl; apply aops_as (t := 19) (d := 6) (ag_n rfl) rfl rfl (by first | (simp only [look_lay, look, seval] <;> rfl) | fail) rfl; apply aops_end; rfl) (by (simp (disch := omega) only [go_sem, seval, lay, nws]); rfl) ?_
    refine AWP.sDG gok (by kernel_rfl) [⟨[], true, 0⟩, ⟨[], true, 0⟩, ⟨[], true, 0⟩, ⟨[], true, 0⟩, ⟨[0], true, 0⟩, ⟨[], true, 0⟩, ⟨[], true, 0⟩, ⟨[], true, 0⟩, ⟨[], true, 0⟩, ⟨[], true, 0⟩, ⟨[], true, 0⟩, ⟨[], true, 0⟩, ⟨[0], true, 0⟩, ⟨[], true, 0⟩, ⟨[], true, 0⟩, ⟨[1], true, 0⟩, ⟨[], true, 0⟩, ⟨[], true, 0⟩, ⟨[], true, 0⟩, ⟨[0], true, 0⟩, ⟨[], true, 0⟩, ⟨[], true, 0⟩, ⟨[1], true, 0⟩, ⟨[0, 1], true, 0⟩, ⟨[], true, 0⟩] (by kernel_rfl) (by first | rfl | simp only [go_sem, ↓reduceIte, Nat.reduceLT, Nat.reduceAdd]) (by first | rfl | simp only [go_sem, ↓reduceIte, Nat.reduceLT, Nat.reduceAdd]) (s2 := ⟨77, [(0, .c (.ptr 0 0 1 0)), (1, .c (ci .i64 (i : Int))), (4, .c (ci .i64 (c : Int))), (6, .c (ci .i64 (q : Int))), (14, .c (.sl 2 0 2 1)), (15, .c (ci .i64 2)), (16, .c (ci .i64 (j : Int))), (44, .c (cb B))], [some (.raw [.v (.func (.func 22) #[] #[]), .sl 1 0 xs.length 3, ci .i64 n]), some (.ty enT xs), some (.ty (.i .i64) [2 * (i : Int) + 1, 2 * (i : Int) + 2])]⟩) (by (rcases hcase with ⟨hb1, hb2, hB, ha, hb, hcl⟩ | ⟨hb1, hb2, hB, ha, hb, hcl, hql⟩) <;> refine ⟨_, (by (repeat (first | apply arun_step (by first | exact ag_n rfl | exact ag_b rfl rfl rfl (by first | (simp only [look_lay, look, seval] <;> rfl) | fail) (by first | rfl | (simp only [hqd, hb1, hb2, hB, ha, hb, hcl, decide_true, decide_false] <;> rfl) | fail) | fail) (by first | (simp (disch := decide) only [hqd, hb1, hb2, hB, ha, hb, hcl, go_sem, seval]; rfl) | (simp (disch := first | decide | omega) only [if_pos, nws, hqd, hb1, hb2, hB, ha, hb, hcl, go_sem, seval]; rfl)) (by first | (intro h; cases h; done) | (intro _; rfl) | (intro _; simp only [go_sem, seval, lay])) (by first | rfl | simp only [go_sem, seval, lay]) (by first | rfl | simp only [go_sem, seval, lay]) (by first | rfl | simp only [go_sem, seval, lay]) (by simp only [go_sem, seval, lay]; rfl) | apply arun_pass (by first | exact ag_f rfl rfl rfl (by first | (simp only [look_lay, look, seval] <;> rfl) | fail) (by first | rfl | (simp only [hqd, hb1, hb2, hB, ha, hb, hcl, decide_true, decide_false] <;> rfl) | fail) | exact ag_u rfl rfl rfl (by first | (simp only [look_lay, look, seval] <;> rfl) | fail) | fail) rfl (by simp only [go_sem, seval, lay]; rfl))); exact rfl), (Ghost.trans (Ghost.trans (Ghost.trim _ [0, 1, 4, 6, 14, 15, 16, 44] _) (Ghost.of_eq (by (simp (disch := omega) only [go_sem, seval, lay, nws]) <;> rfl))) (Ghost.trans (Ghost.gc (ρ := [0, 1, 2]) (by simp only [go_sem, seval] <;> rfl) rfl rfl rfl) (Ghost.of_eq (by first | ((simp (disch := first | decide | omega) only [hqd, hb1, hb2, hB, ha, hb, hcl, go_sem, seval, lay, nws]) <;> with_reducible rfl) | with_reducible rfl | rfl))))⟩) ?_
    refine AWP.cond (b := _) rfl (fun h => ?_) (fun h => ?_) <;> (try simp only [decide_eq_true_eq, decide_eq_false_iff_not] at h)
    · skip
      refine AWP.rT gok [0, 1, 4, 14, 15, 16] (by apply aops_mv (t := 6) (d := 45) (ag_n rfl) rfl rfl (by first | (simp only [look_lay, look, seval] <;> rfl) | fail) rfl; apply aops_as (t := 45) (d := 4) (ag_n rfl) rfl rfl (by first | (simp only [look_lay, look, seval] <;> rfl) | fail) rfl; apply aops_end; rfl) (by (simp (disch := omega) only [go_sem, seval, lay, nws]); rfl) ?_
      change AWP _ _ _ _ _
      refine AWP.rT gok [0, 1, 4, 14, 15, 16] (by apply aops_x (d := 46) (ag_n rfl) rfl (by first | (simp (disch := decide) only [go_sem, seval] <;> rfl) | (simp (disch := first | decide | omega) only [if_pos, nws, go_sem, seval] <;> rfl)) rfl; apply aops_mv (t := 46) (d := 16) (ag_n rfl) rfl rfl (by first | (simp only [look_lay, look, seval] <;> rfl) | fail) rfl; apply aops_end; rfl) (by (simp (disch := omega) only [go_sem, seval, lay, nws]); rfl) ?_
      have e1 : cs xs i (j + 1) = if B = true then q else c := by
        show HeapLaw.nxt ltI xs (cs xs i j) (2 * i + 1 + j) = _
        rw [hcj, hq, hn]
      first | rw [if_pos h] at e1 | rw [if_neg (by rw [h]; decide)] at e1
      exact ⟨j + 1, Ghost.of_eq (by rw [e1]; simp only [Int.natCast_add, Int.cast_ofNat_Int] <;> rfl), by omega, by omega⟩
    · skip
      refine AWP.skip ?_
      change AWP _ _ _ _ _
      refine AWP.rT gok [0, 1, 4, 14, 15, 16] (by apply aops_x (d := 46) (ag_n rfl) rfl (by first | (simp (disch := decide) only [go_sem, seval] <;> rfl) | (simp (disch := first | decide | omega) only [if_pos, nws, go_sem, seval] <;> rfl)) rfl; apply aops_mv (t := 46) (d := 16) (ag_n rfl) rfl rfl (by first | (simp only [look_lay, look, seval] <;> rfl) | fail) rfl; apply aops_end; rfl) (by (simp (disch := omega) only [go_sem, seval, lay, nws]); rfl) ?_
      have e1 : cs xs i (j + 1) = if B = true then q else c := by
        show HeapLaw.nxt ltI xs (cs xs i j) (2 * i + 1 + j) = _
        rw [hcj, hq, hn]
      first | rw [if_pos h] at e1 | rw [if_neg (by rw [h]; decide)] at e1
      exact ⟨j + 1, Ghost.of_eq (by rw [e1]; simp only [Int.natCast_add, Int.cast_ofNat_Int] <;> rfl), by omega, by omega⟩
  · skip
    refine AWP.exit ?_
    change AWP _ _ _ _ _
    refine AWP.seq ?_
    have ej : j = 2 := by omega
    subst ej
    have hlst : cs xs i 2 = HeapLaw.least ltI xs i := rfl
    refine AWP.sR gok [0, 1, 4, 49] (by apply aops_mv (t := 4) (d := 47) (ag_n rfl) rfl rfl (by first | (simp only [look_lay, look, seval] <;> rfl) | fail) rfl; apply aops_mv (t := 1) (d := 48) (ag_n rfl) rfl rfl (by first | (simp only [look_lay, look, seval] <;> rfl) | fail) rfl; apply aops_x (d := 49) (ag_n rfl) rfl (by first | (simp (disch := decide) only [go_sem, seval] <;> rfl) | (simp (disch := first | decide | omega) only [if_pos, nws, go_sem, seval] <;> rfl)) rfl; apply aops_end; rfl) (by (simp (disch := omega) only [go_sem, seval, lay, nws]); rfl) ?_
    refine AWP.cond (b := _) rfl (fun h => ?_) (fun h => ?_) <;> (try simp only [decide_eq_true_eq, decide_eq_false_iff_not] at h)
    · skip
      refine AWP.ret ?_
      refine ⟨.inr rfl, _, (by simp only [go_sem, seval] <;> rfl), ?_⟩
      simp only [go_sem, seval, Option.some.injEq, AV.c.injEq, AV.agg.injEq, CV.v.injEq, Value.int.injEq, Value.bool.injEq, Row.raw.injEq, List.cons.injEq, CV.sl.injEq, and_true, true_and, and_self]
      rw [HeapLaw.down_stop _ _ _ (by rw [← hlst]; omega)] at i4
      have e : f48 l n (k : Int) = xs := i4.symm
      rw [e]; exact ⟨rfl, rfl⟩
    · skip
      refine AWP.skip ?_
      change AWP _ _ _ _ _
      have hne : cs xs i 2 ≠ i := by omega
      have hi : i < xs.length := by
        rcases i2 with h | ⟨h, -⟩
        · exact h
        · exact (hne (cs_nil xs i h 2)).elim
      obtain ⟨x, hx⟩ : ∃ x, xs[i]? = some x := ⟨_, List.getElem?_eq_getElem hi⟩
      have hcl := cs_lt xs i hi 2
      obtain ⟨y, hy⟩ : ∃ y, xs[cs xs i 2]? = some y := ⟨_, List.getElem?_eq_getElem hcl⟩
      have hgt := cs_or xs i 2
      have hn2 : ¬ 3 = xs.length * 3 := by omega
      have hy2 : (xs.set i y)[cs xs i 2]? = some y := by rw [List.getElem?_set_ne (by omega), hy]
      generalize hc2 : cs xs i 2 = c at hcl hgt hne hy hy2 hlst ⊢
      refine AWP.sD gok (by kernel_rfl) [0, 4] [⟨[], true, 0⟩, ⟨[], true, 0⟩, ⟨[], true, 0⟩, ⟨[0], true, 0⟩, ⟨[], true, 0⟩, ⟨[], true, 0⟩, ⟨[], true, 0⟩, ⟨[], true, 0⟩, ⟨[0], true, 0⟩, ⟨[], true, 0⟩, ⟨[], true, 0⟩, ⟨[], true, 0⟩, ⟨[], true, 0⟩, ⟨[0], true, 0⟩, ⟨[], true, 0⟩, ⟨[], true, 0⟩, ⟨[1], true, 0⟩, ⟨[], true, 0⟩, ⟨[], true, 0⟩, ⟨[], true, 0⟩, ⟨[0], true, 0⟩, ⟨[], true, 0⟩, ⟨[], true, 0⟩, ⟨[1], true, 0⟩, ⟨[], true, 0⟩, ⟨[1], false, 0⟩, ⟨[], true, 0⟩, ⟨[1], false, 0⟩] (by kernel_rfl) (by first | rfl | simp only [go_sem, ↓reduceIte, Nat.reduceLT, Nat.reduceAdd]) (by first | rfl | simp only [go_sem, ↓reduceIte, Nat.reduceLT, Nat.reduceAdd]) (by (repeat (first | apply arun_step (by first | exact ag_n rfl | exact ag_b rfl rfl rfl (by first | (simp only [look_lay, look, seval] <;> rfl) | fail) (by first | rfl | (simp only [hx, hy, List.length_set, hn2, hy2, and_false, decide_true, decide_false] <;> rfl) | fail) | fail) (by first | (simp (disch := decide) only [hx, hy, List.length_set, hn2, hy2, and_false, go_sem, seval]; rfl) | (simp (disch := first | decide | omega) only [if_pos, nws, hx, hy, List.length_set, hn2, hy2, and_false, go_sem, seval]; rfl)) (by first | (intro h; cases h; done) | (intro _; rfl) | (intro _; simp only [go_sem, seval, lay])) (by first | rfl | simp only [go_sem, seval, lay]) (by first | rfl | simp only [go_sem, seval, lay]) (by first | rfl | simp only [go_sem, seval, lay]) (by simp only [go_sem, seval, lay]; rfl) | apply arun_pass (by first | exact ag_f rfl rfl rfl (by first | (simp only [look_lay, look, seval] <;> rfl) | fail) (by first | rfl | (simp only [hx, hy, List.length_set, hn2, hy2, and_false, decide_true, decide_false] <;> rfl) | fail) | exact ag_u rfl rfl rfl (by first | (simp only [look_lay, look, seval] <;> rfl) | fail) | fail) rfl (by simp only [go_sem, seval, lay]; rfl))); exact rfl) (by (simp (disch := omega) only [go_sem, seval, lay, nws]); rfl) ?_
      refine AWP.rT gok [0, 1] (by apply aops_mv (t := 4) (d := 76) (ag_n rfl) rfl rfl (by first | (simp only [look_lay, look, seval] <;> rfl) | fail) rfl; apply aops_as (t := 76) (d := 1) (ag_n rfl) rfl rfl (by first | (simp only [look_lay, look, seval] <;> rfl) | fail) rfl; apply aops_end; rfl) (by (simp (disch := omega) only [go_sem, seval, lay, nws]); rfl) ?_
      rw [HeapLaw.down_go _ _ _ (by rw [← hlst]; omega), ← hlst] at i4
      exact ⟨(c, HeapLaw.swp xs i c, g), (Ghost.trans (Ghost.gc (ρ := [0, 1]) (by simp only [go_sem, seval] <;> rfl) rfl rfl rfl) (Ghost.of_eq (by rw [HeapLaw.swp_eq hx hy]; simp only [List.length_set]))), ⟨⟨by simp only; rw [HeapLaw.swp_len]; exact i1, by simp only; rw [HeapLaw.swp_len]; exact .inl hcl⟩, by simp only; rw [HeapLaw.swp_len]; omega, i4⟩, by simp only; rw [HeapLaw.swp_len]; omega⟩
def E48 : Entry := objE 22 enT [(.i .i64)] (fun l p d => c48 l p d.1) (fun l p d => r48 l p d.1) (fun l p d => f48 l p d.1) (fun l p d => q48 l p d.1) (fun l p d => L48 l p d.1)
theorem E48_ok : EntryOk Try.prog 48 E48 := objE_ok rfl (fun _ _ _ => rfl) (fun _ _ _ => rfl) fun l p d hc => K48 l p d.1 hc
attribute [go_sem] E48 c48 r48 f48 q48 L48
end Go.Proofs.Ytonhglodnmoadaa
