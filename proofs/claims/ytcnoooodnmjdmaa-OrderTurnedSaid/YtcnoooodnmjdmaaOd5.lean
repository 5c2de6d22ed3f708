import Derived.Test.YtcnoooodnmjdmaaOd4
set_option linter.unusedSimpArgs false
set_option linter.unusedVariables false
namespace Go.Proofs.Ytcnoooodnmjdmaa
open Go.RowKit Sorts
/-! Two ranges of places, each in order, are merged in place. -/
set_option maxRecDepth 100000
theorem mem_symR {lt : Int → Int → Bool} {xs : List Int} {a m b : Nat} {x : Int} (h : x ∈ symR lt xs a m b) : x ∈ xs := by
  unfold symR at h
  rcases List.mem_append.1 h with h | h
  · exact List.mem_of_mem_take h
  · rcases List.mem_append.1 h with h | h
    · rcases mergeF_mem.1 h with h | h <;> exact seg_mem h
    · exact List.mem_of_mem_drop h
theorem mem_rotR {xs : List Int} {a m b : Nat} {x : Int} (h : x ∈ rotR xs a m b) : x ∈ xs := by
  unfold rotR at h
  rcases List.mem_append.1 h with h | h
  · exact List.mem_of_mem_take h
  · rcases List.mem_append.1 h with h | h
    · rcases List.mem_append.1 h with h | h <;> exact seg_mem h
    · exact List.mem_of_mem_drop h
def cSym (N : Nat) (xs : List Int) (hs : List Hd) : List Int → Prop
  | [a, m, b] => ((0 ≤ a ∧ a < m ∧ m < b) ∧ b ≤ (xs.length : Int) ∧ xs.length ≤ 1000000 ∧ b - a < (N : Int)) ∧ (hsOk hs ∧ ∀ x ∈ xs, inH hs x) ∧ Up (ltH hs) (seg xs a.toNat m.toNat) ∧ Up (ltH hs) (seg xs m.toNat b.toNat)
  | _ => False
instance (N : Nat) (xs : List Int) (hs : List Hd) (is : List Int) : Decidable (cSym N xs hs is) := by unfold cSym; split <;> infer_instance
def fSym (xs : List Int) (hs : List Hd) : List Int → List Int
  | [a, m, b] => symR (ltH hs) xs a.toNat m.toNat b.toNat
  | _ => xs
theorem fSym_cast (xs : List Int) (hs : List Hd) (a m b : Nat) : fSym xs hs [(a : Int), (m : Int), (b : Int)] = symR (ltH hs) xs a m b := by simp [fSym]
theorem cSym_cast {N : Nat} {xs : List Int} {hs : List Hd} {a m b : Nat} (h1 : a < m ∧ m < b ∧ b ≤ xs.length ∧ xs.length ≤ 1000000 ∧ b - a < N) (hh : hsOk hs) (hin : ∀ x ∈ xs, inH hs x) (u1 : Up (ltH hs) (seg xs a m)) (u2 : Up (ltH hs) (seg xs m b)) : cSym N xs hs [(a : Int), (m : Int), (b : Int)] :=
  ⟨by omega, ⟨hh, hin⟩, by simpa using u1, by simpa using u2⟩
def EsymN (N : Nat) : Entry := sortE (cSym N) fSym
attribute [go_sem] EsymN
theorem pw1 : (2 : Int) ^ (Int.toNat 1) = 2 := by decide
theorem half_cast (i j : Nat) : ((i : Int) + (j : Int)) / 2 = (((i + j) / 2 : Nat) : Int) := by omega
/-- What two tests, the second one behind the first, tell. -/
theorem and_test (p q : Prop) [Decidable p] [Decidable q] : ∃ B B0 : Bool, decide p = B0 ∧ (B = true → p ∧ q) ∧ (B = false → p → ¬ q) ∧ (((B0 == true) = false ∧ (B0 = true) = False ∧ B = false ∧ True) ∨ ((B0 == true) = true ∧ (B0 = true) = True ∧ B = decide q ∧ True)) := by
  by_cases h : p
  · exact ⟨decide q, true, decide_eq_true h, fun hq => ⟨h, of_decide_eq_true hq⟩, fun hq _ => of_decide_eq_false hq, .inr ⟨rfl, by simp, rfl, trivial⟩⟩
  · exact ⟨false, false, decide_eq_false h, fun hq => (by cases hq), fun _ h' => absurd h' h, .inl ⟨rfl, by simp, rfl, trivial⟩⟩
set_option maxHeartbeats 4000000 in
theorem Ksym (hw : ∀ hs, Weak (ltH hs)) (N : Nat) (ih : EntryOk Try.prog 24 (EsymN N)) (xs : List Int) (hs : List Hd) (a m b : Nat) (h1 : a < m) (h2 : m < b) (h3 : b ≤ xs.length) (h4 : xs.length ≤ 1000000) (hN : b - a < N + 1) (hh : hsOk hs) (hin : ∀ x ∈ xs, inH hs x)
    (u1 : Up (ltH hs) (seg xs a m)) (u2 : Up (ltH hs) (seg xs m b)) :
    CallOk Try.prog 24 [.c (.sl 0 0 xs.length 1), .c (ci .i64 (a : Int)), .c (ci .i64 (m : Int)), .c (ci .i64 (b : Int)), .c (.fn Fc [1])] [some (.ty IT xs), some (.raw [.rs HT hs])] (.tup []) [some (.ty IT (symR (ltH hs) xs a m b)), some (.raw [.rs HT hs])] := by
  obtain ⟨xa, hxa⟩ : ∃ x, xs[a]? = some x := ⟨_, List.getElem?_eq_getElem (by omega)⟩
  obtain ⟨xm, hxm⟩ : ∃ x, xs[m]? = some x := ⟨_, List.getElem?_eq_getElem (by omega)⟩
  have ia := hin xa (List.mem_of_getElem? hxa)
  have im := hin xm (List.mem_of_getElem? hxm)
  have gok := (Gam.cons_ok ih (Gam.cons_ok Erot_ok (Gam.cons_ok Ecmp_ok (Gam.nil_ok _))))
  refine callOk' Try.func24 220 [] _ rfl rfl rfl (by kernel_rfl) (by simp) [0, 1] rfl rfl (by simp) ?_
  simp only [params]
  refine AWP.seq ?_
  refine AWP.sR gok [0, 1, 2, 3, 4, 28] (by apply aops_mv (t := 2) (d := 25) (ag_n rfl) rfl rfl (by first | (simp only [look_lay, look, seval] <;> rfl) | fail) rfl; apply aops_mv (t := 1) (d := 26) (ag_n rfl) rfl rfl (by first | (simp only [look_lay, look, seval] <;> rfl) | fail) rfl; apply aops_x (d := 27) (ag_n rfl) rfl (by first | (simp (disch := decide) only [go_sem, seval] <;> rfl) | (simp (disch := first | decide | omega) only [if_pos, nws, go_sem, seval] <;> rfl)) rfl; apply aops_x (d := 28) (ag_n rfl) rfl (by first | (simp (disch := decide) only [go_sem, seval] <;> rfl) | (simp (disch := first | decide | omega) only [if_pos, nws, go_sem, seval] <;> rfl)) rfl; apply aops_end; rfl) (by (simp (disch := omega) only [go_sem, seval, lay, nws]); rfl) ?_
  refine AWP.cond (b := _) rfl (fun h => ?_) (fun h => ?_) <;> (try simp only [decide_eq_true_eq, decide_eq_false_iff_not] at h)
  · skip
    refine AWP.sR gok [0, 1, 3, 4, 10] (by apply aops_mv (t := 2) (d := 29) (ag_n rfl) rfl rfl (by first | (simp only [look_lay, look, seval] <;> rfl) | fail) rfl; apply aops_as (t := 29) (d := 10) (ag_n rfl) rfl rfl (by first | (simp only [look_lay, look, seval] <;> rfl) | fail) rfl; apply aops_end; rfl) (by (simp (disch := omega) only [go_sem, seval, lay, nws]); rfl) ?_
    refine AWP.sR gok [0, 1, 4, 10, 11] (by apply aops_mv (t := 3) (d := 30) (ag_n rfl) rfl rfl (by first | (simp only [look_lay, look, seval] <;> rfl) | fail) rfl; apply aops_as (t := 30) (d := 11) (ag_n rfl) rfl rfl (by first | (simp only [look_lay, look, seval] <;> rfl) | fail) rfl; apply aops_end; rfl) (by (simp (disch := omega) only [go_sem, seval, lay, nws]); rfl) ?_
    refine AWP.seqBlock ?_
    refine AWP.loopP (fun (p : Nat × Nat) => ⟨220, [(0, .c (.sl 0 0 xs.length 1)), (1, .c (ci .i64 (a : Int))), (4, .c (.fn Fc [1])), (10, .c (ci .i64 (p.1 : Int))), (11, .c (ci .i64 (p.2 : Int)))], [some (.ty IT xs), some (.raw [.rs HT hs])]⟩) (fun p => (m ≤ p.1 ∧ p.1 ≤ p.2 ∧ p.2 ≤ b) ∧ (m < p.1 → ∀ z, xs[p.1 - 1]? = some z → ltH hs z xa = true) ∧ (p.2 < b → ∀ z, xs[p.2]? = some z → ltH hs z xa = false)) (fun p => p.2 - p.1) (m, b) (Ghost.refl _ _) ⟨⟨Nat.le_refl _, Nat.le_of_lt h2, Nat.le_refl _⟩, fun h => absurd h (Nat.lt_irrefl _), fun h => absurd h (Nat.lt_irrefl _)⟩ ?_
    rintro ⟨i, j⟩ ⟨⟨i1, i2, i3⟩, i4, i5⟩
    simp only at i1 i2 i3 i4 i5 ⊢
    refine AWP.seq ?_
    refine AWP.sR gok [0, 1, 4, 10, 11, 33] (by apply aops_mv (t := 10) (d := 31) (ag_n rfl) rfl rfl (by first | (simp only [look_lay, look, seval] <;> rfl) | fail) rfl; apply aops_mv (t := 11) (d := 32) (ag_n rfl) rfl rfl (by first | (simp only [look_lay, look, seval] <;> rfl) | fail) rfl; apply aops_x (d := 33) (ag_n rfl) rfl (by first | (simp (disch := decide) only [go_sem, seval] <;> rfl) | (simp (disch := first | decide | omega) only [if_pos, nws, go_sem, seval] <;> rfl)) rfl; apply aops_end; rfl) (by (simp (disch := omega) only [go_sem, seval, lay, nws]); rfl) ?_
    refine AWP.cond (b := _) rfl (fun h => ?_) (fun h => ?_) <;> (try simp only [decide_eq_true_eq, decide_eq_false_iff_not] at h)
    · skip
      refine AWP.skip ?_
      change AWP _ _ _ _ _
      refine AWP.block ?_
      have hc1 : i ≤ (i + j) / 2 := by omega
      have hc2 : (i + j) / 2 < j := by omega
      refine AWP.sR gok [0, 1, 4, 10, 11, 12] (by apply aops_mv (t := 10) (d := 34) (ag_n rfl) rfl rfl (by first | (simp only [look_lay, look, seval] <;> rfl) | fail) rfl; apply aops_mv (t := 11) (d := 35) (ag_n rfl) rfl rfl (by first | (simp only [look_lay, look, seval] <;> rfl) | fail) rfl; apply aops_x (d := 36) (ag_n rfl) rfl (by first | (simp (disch := decide) only [pw1, half_cast, go_sem, seval] <;> rfl) | (simp (disch := first | decide | omega) only [if_pos, nws, pw1, half_cast, go_sem, seval] <;> rfl)) rfl; apply aops_x (d := 37) (ag_n rfl) rfl (by first | (simp (disch := decide) only [pw1, half_cast, go_sem, seval] <;> rfl) | (simp (disch := first | decide | omega) only [if_pos, nws, pw1, half_cast, go_sem, seval] <;> rfl)) rfl; apply aops_x (d := 38) (ag_n rfl) rfl (by (simp (disch := first | decide | omega) only [if_pos, nws, pw1, half_cast, go_sem, seval] <;> rfl)) rfl; apply aops_x (d := 39) (ag_n rfl) rfl (by first | (simp (disch := decide) only [pw1, half_cast, go_sem, seval] <;> rfl) | (simp (disch := first | decide | omega) only [if_pos, nws, pw1, half_cast, go_sem, seval] <;> rfl)) rfl; apply aops_as (t := 39) (d := 12) (ag_n rfl) rfl rfl (by first | (simp only [look_lay, look, seval] <;> rfl) | fail) rfl; apply aops_end; rfl) (by (simp (disch := omega) only [go_sem, seval, lay, nws]); rfl) ?_
      generalize (i + j) / 2 = c at hc1 hc2 ⊢
      obtain ⟨u, hu⟩ : ∃ u, xs[c]? = some u := ⟨_, List.getElem?_eq_getElem (by omega)⟩
      have iu := hin u (List.mem_of_getElem? hu)
      have hcm := cmp_lt hs u xa
      refine AWP.sD gok (by kernel_rfl) [0, 1, 4, 10, 11, 12, 50] [⟨[], true, 0⟩, ⟨[], true, 0⟩, ⟨[], true, 0⟩, ⟨[], true, 0⟩, ⟨[0], true, 0⟩, ⟨[], true, 0⟩, ⟨[], true, 0⟩, ⟨[], true, 0⟩, ⟨[0], true, 0⟩, ⟨[1], true, 0⟩, ⟨[], true, 0⟩] (by kernel_rfl) (by first | rfl | simp only [go_sem, ↓reduceIte, Nat.reduceLT, Nat.reduceAdd]) (by first | rfl | simp only [go_sem, ↓reduceIte, Nat.reduceLT, Nat.reduceAdd]) (by (repeat (first | apply arun_step (by first | exact ag_n rfl | exact ag_b rfl rfl rfl (by first | (simp only [look_lay, look, seval] <;> rfl) | fail) (by first | rfl | (simp only [hu, hxa, iu, ia, hh, hcm, decide_true, decide_false] <;> rfl) | fail) | fail) (by first | (simp (disch := decide) only [hu, hxa, iu, ia, hh, hcm, go_sem, seval]; rfl) | (simp (disch := first | decide | omega) only [if_pos, nws, hu, hxa, iu, ia, hh, hcm, go_sem, seval]; rfl)) (by first | (intro h; cases h; done) | (intro _; rfl) | (intro _; simp only [go_sem, seval, lay])) (by first | rfl | simp only [go_sem, seval, lay]) (by first | rfl | simp only [go_sem, seval, lay]) (by first | rfl | simp only [go_sem, seval, lay]) (by simp only [go_sem, seval, lay]; rfl) | apply arun_pass (by first | exact ag_f rfl rfl rfl (by first | (simp only [look_lay, look, seval] <;> rfl) | fail) (by first | rfl | (simp only [hu, hxa, iu, ia, hh, hcm, decide_true, decide_false] <;> rfl) | fail) | exact ag_u rfl rfl rfl (by first | (simp only [look_lay, look, seval] <;> rfl) | fail) | fail) rfl (by simp only [go_sem, seval, lay]; rfl))); exact rfl) (by (simp (disch := omega) only [go_sem, seval, lay, nws]); rfl) ?_
      refine AWP.cond (b := _) rfl (fun h => ?_) (fun h => ?_) <;> (try simp only [decide_eq_true_eq, decide_eq_false_iff_not] at h)
      · skip
        refine AWP.rT gok [0, 1, 4, 10, 11] (by apply aops_mv (t := 12) (d := 51) (ag_n rfl) rfl rfl (by first | (simp only [look_lay, look, seval] <;> rfl) | fail) rfl; apply aops_x (d := 52) (ag_n rfl) rfl (by first | (simp (disch := decide) only [go_sem, seval] <;> rfl) | (simp (disch := first | decide | omega) only [if_pos, nws, go_sem, seval] <;> rfl)) rfl; apply aops_as (t := 52) (d := 10) (ag_n rfl) rfl rfl (by first | (simp only [look_lay, look, seval] <;> rfl) | fail) rfl; apply aops_end; rfl) (by (simp (disch := omega) only [go_sem, seval, lay, nws]); rfl) ?_
        exact ⟨(c + 1, j), Ghost.of_eq (by simp only [Int.natCast_add, Int.cast_ofNat_Int] <;> rfl), ⟨⟨by simp only; omega, by simp only; omega, i3⟩, fun _ z hz => by simp only [Nat.add_sub_cancel] at hz; rw [hu] at hz; cases hz; exact h, i5⟩, by simp only; omega⟩
      · skip
        refine AWP.rT gok [0, 1, 4, 10, 11] (by apply aops_mv (t := 12) (d := 53) (ag_n rfl) rfl rfl (by first | (simp only [look_lay, look, seval] <;> rfl) | fail) rfl; apply aops_as (t := 53) (d := 11) (ag_n rfl) rfl rfl (by first | (simp only [look_lay, look, seval] <;> rfl) | fail) rfl; apply aops_end; rfl) (by (simp (disch := omega) only [go_sem, seval, lay, nws]); rfl) ?_
        exact ⟨(i, c), Ghost.of_eq rfl, ⟨⟨i1, hc1, by simp only; omega⟩, i4, fun _ z hz => by simp only at hz; rw [hu] at hz; cases hz; exact h⟩, by simp only; omega⟩
    · skip
      refine AWP.exit ?_
      change AWP _ _ _ _ _
      refine AWP.seq ?_
      obtain rfl : i = j := by omega
      refine AWP.sR gok [0, 10, 13] (by apply aops_mv (t := 1) (d := 54) (ag_n rfl) rfl rfl (by first | (simp only [look_lay, look, seval] <;> rfl) | fail) rfl; apply aops_as (t := 54) (d := 13) (ag_n rfl) rfl rfl (by first | (simp only [look_lay, look, seval] <;> rfl) | fail) rfl; apply aops_end; rfl) (by (simp (disch := omega) only [go_sem, seval, lay, nws]); rfl) ?_
      refine AWP.block ?_
      refine AWP.loopP (fun (p : Nat × List Int) => ⟨220, [(0, .c (.sl 0 0 xs.length 1)), (10, .c (ci .i64 (i : Int))), (13, .c (ci .i64 (p.1 : Int)))], [some (.ty IT p.2), some (.raw [.rs HT hs])]⟩) (fun p => (a ≤ p.1 ∧ p.1 ≤ i - 1) ∧ Lift xs a p.1 p.2) (fun p => i - p.1) (a, xs) (Ghost.refl _ _) ⟨⟨Nat.le_refl _, by simp only; omega⟩, Lift.start xs a⟩ ?_
      rintro ⟨k, ys⟩ ⟨⟨j1, j2⟩, j3⟩
      simp only at j1 j2 j3 ⊢
      have hyl := j3.1
      refine AWP.seq ?_
      refine AWP.sR gok [0, 10, 13, 58] (by apply aops_mv (t := 13) (d := 55) (ag_n rfl) rfl rfl (by first | (simp only [look_lay, look, seval] <;> rfl) | fail) rfl; apply aops_mv (t := 10) (d := 56) (ag_n rfl) rfl rfl (by first | (simp only [look_lay, look, seval] <;> rfl) | fail) rfl; apply aops_x (d := 57) (ag_n rfl) rfl (by first | (simp (disch := decide) only [go_sem, seval] <;> rfl) | (simp (disch := first | decide | omega) only [if_pos, nws, go_sem, seval] <;> rfl)) rfl; apply aops_x (d := 58) (ag_n rfl) rfl (by first | (simp (disch := decide) only [go_sem, seval] <;> rfl) | (simp (disch := first | decide | omega) only [if_pos, nws, go_sem, seval] <;> rfl)) rfl; apply aops_end; rfl) (by (simp (disch := omega) only [go_sem, seval, lay, nws]); rfl) ?_
      refine AWP.cond (b := _) rfl (fun h => ?_) (fun h => ?_) <;> (try simp only [decide_eq_true_eq, decide_eq_false_iff_not] at h)
      · skip
        refine AWP.skip ?_
        change AWP _ _ _ _ _
        refine AWP.seqBlock ?_
        obtain ⟨v, hv⟩ : ∃ v, xs[k + 1]? = some v := ⟨_, List.getElem?_eq_getElem (by omega)⟩
        have hat := j3.at j1
        have hk1 := hat.1.trans hxa
        have hk2 := hat.2.trans hv
        have hset : (ys.set k v)[k + 1]? = some v := by rw [List.getElem?_set_ne (by omega)]; exact hk2
        have e1 : ((k : Int) + 1).toNat = k + 1 := by omega
        have hnx := j3.next j1 (by omega) hxa hv
        refine AWP.dT gok (by kernel_rfl) [0, 10, 13] [⟨[], true, 0⟩, ⟨[], true, 0⟩, ⟨[], true, 0⟩, ⟨[], true, 0⟩, ⟨[], true, 0⟩, ⟨[], true, 0⟩, ⟨[], true, 0⟩, ⟨[], true, 0⟩, ⟨[], true, 0⟩, ⟨[0], true, 0⟩, ⟨[], true, 0⟩, ⟨[], true, 0⟩, ⟨[], true, 0⟩, ⟨[0], true, 0⟩, ⟨[], true, 0⟩, ⟨[0], false, 0⟩, ⟨[], true, 0⟩, ⟨[0], false, 0⟩] (by kernel_rfl) (by first | rfl | simp only [go_sem, ↓reduceIte, Nat.reduceLT, Nat.reduceAdd]) (by first | rfl | simp only [go_sem, ↓reduceIte, Nat.reduceLT, Nat.reduceAdd]) (by (repeat (first | apply arun_step (by first | exact ag_n rfl | exact ag_b rfl rfl rfl (by first | (simp only [look_lay, look, seval] <;> rfl) | fail) (by first | rfl | (simp only [hk1, hk2, hset, e1, hyl, List.length_set, decide_true, decide_false] <;> rfl) | fail) | fail) (by first | (simp (disch := decide) only [hk1, hk2, hset, e1, hyl, List.length_set, go_sem, seval]; rfl) | (simp (disch := first | decide | omega) only [if_pos, nws, hk1, hk2, hset, e1, hyl, List.length_set, go_sem, seval]; rfl)) (by first | (intro h; cases h; done) | (intro _; rfl) | (intro _; simp only [go_sem, seval, lay])) (by first | rfl | simp only [go_sem, seval, lay]) (by first | rfl | simp only [go_sem, seval, lay]) (by first | rfl | simp only [go_sem, seval, lay]) (by simp only [go_sem, seval, lay]; rfl) | apply arun_pass (by first | exact ag_f rfl rfl rfl (by first | (simp only [look_lay, look, seval] <;> rfl) | fail) (by first | rfl | (simp only [hk1, hk2, hset, e1, hyl, List.length_set, decide_true, decide_false] <;> rfl) | fail) | exact ag_u rfl rfl rfl (by first | (simp only [look_lay, look, seval] <;> rfl) | fail) | fail) rfl (by simp only [go_sem, seval, lay]; rfl))); exact rfl) (by (simp (disch := omega) only [go_sem, seval, lay, nws]); rfl) ?_
        change AWP _ _ _ _ _
        refine AWP.rT gok [0, 10, 13] (by apply aops_mv (t := 13) (d := 59) (ag_n rfl) rfl rfl (by first | (simp only [look_lay, look, seval] <;> rfl) | fail) rfl; apply aops_x (d := 60) (ag_n rfl) rfl (by first | (simp (disch := decide) only [go_sem, seval] <;> rfl) | (simp (disch := first | decide | omega) only [if_pos, nws, go_sem, seval] <;> rfl)) rfl; apply aops_as (t := 60) (d := 13) (ag_n rfl) rfl rfl (by first | (simp only [look_lay, look, seval] <;> rfl) | fail) rfl; apply aops_end; rfl) (by (simp (disch := omega) only [go_sem, seval, lay, nws]); rfl) ?_
        exact ⟨(k + 1, (ys.set k v).set (k + 1) xa), Ghost.of_eq (by simp only [Int.natCast_add, Int.cast_ofNat_Int] <;> rfl), ⟨⟨by simp only; omega, by simp only; omega⟩, hnx⟩, by simp only; omega⟩
      · skip
        refine AWP.exit ?_
        change AWP _ _ _ _ _
        refine AWP.ret ?_
        refine ⟨.inr rfl, _, (by simp only [go_sem, seval] <;> rfl), ?_⟩
        simp only [go_sem, seval, Option.some.injEq, AV.c.injEq, AV.agg.injEq, CV.v.injEq, Value.int.injEq, Value.bool.injEq, Row.raw.injEq, List.cons.injEq, CV.sl.injEq, and_true, true_and, and_self]
        obtain rfl : k = i - 1 := by omega
        rw [sym_low (hw hs) (by omega) i1 (by omega) h3 hxa u2 i4 i5 j3]
  · skip
    refine AWP.skip ?_
    change AWP _ _ _ _ _
    refine AWP.seq ?_
    refine AWP.sR gok [0, 1, 2, 3, 4, 80] (by apply aops_mv (t := 3) (d := 77) (ag_n rfl) rfl rfl (by first | (simp only [look_lay, look, seval] <;> rfl) | fail) rfl; apply aops_mv (t := 2) (d := 78) (ag_n rfl) rfl rfl (by first | (simp only [look_lay, look, seval] <;> rfl) | fail) rfl; apply aops_x (d := 79) (ag_n rfl) rfl (by first | (simp (disch := decide) only [go_sem, seval] <;> rfl) | (simp (disch := first | decide | omega) only [if_pos, nws, go_sem, seval] <;> rfl)) rfl; apply aops_x (d := 80) (ag_n rfl) rfl (by first | (simp (disch := decide) only [go_sem, seval] <;> rfl) | (simp (disch := first | decide | omega) only [if_pos, nws, go_sem, seval] <;> rfl)) rfl; apply aops_end; rfl) (by (simp (disch := omega) only [go_sem, seval, lay, nws]); rfl) ?_
    refine AWP.cond (b := _) rfl (fun h => ?_) (fun h => ?_) <;> (try simp only [decide_eq_true_eq, decide_eq_false_iff_not] at h)
    · skip
      refine AWP.sR gok [0, 2, 4, 14] (by apply aops_mv (t := 1) (d := 81) (ag_n rfl) rfl rfl (by first | (simp only [look_lay, look, seval] <;> rfl) | fail) rfl; apply aops_as (t := 81) (d := 14) (ag_n rfl) rfl rfl (by first | (simp only [look_lay, look, seval] <;> rfl) | fail) rfl; apply aops_end; rfl) (by (simp (disch := omega) only [go_sem, seval, lay, nws]); rfl) ?_
      refine AWP.sR gok [0, 2, 4, 14, 15] (by apply aops_mv (t := 2) (d := 82) (ag_n rfl) rfl rfl (by first | (simp only [look_lay, look, seval] <;> rfl) | fail) rfl; apply aops_as (t := 82) (d := 15) (ag_n rfl) rfl rfl (by first | (simp only [look_lay, look, seval] <;> rfl) | fail) rfl; apply aops_end; rfl) (by (simp (disch := omega) only [go_sem, seval, lay, nws]); rfl) ?_
      refine AWP.seqBlock ?_
      refine AWP.loopP (fun (p : Nat × Nat) => ⟨220, [(0, .c (.sl 0 0 xs.length 1)), (2, .c (ci .i64 (m : Int))), (4, .c (.fn Fc [1])), (14, .c (ci .i64 (p.1 : Int))), (15, .c (ci .i64 (p.2 : Int)))], [some (.ty IT xs), some (.raw [.rs HT hs])]⟩) (fun p => (a ≤ p.1 ∧ p.1 ≤ p.2 ∧ p.2 ≤ m) ∧ (a < p.1 → ∀ z, xs[p.1 - 1]? = some z → ltH hs xm z = false) ∧ (p.2 < m → ∀ z, xs[p.2]? = some z → ltH hs xm z = true)) (fun p => p.2 - p.1) (a, m) (Ghost.refl _ _) ⟨⟨Nat.le_refl _, Nat.le_of_lt h1, Nat.le_refl _⟩, fun h => absurd h (Nat.lt_irrefl _), fun h => absurd h (Nat.lt_irrefl _)⟩ ?_
      rintro ⟨i, j⟩ ⟨⟨i1, i2, i3⟩, i4, i5⟩
      simp only at i1 i2 i3 i4 i5 ⊢
      refine AWP.seq ?_
      refine AWP.sR gok [0, 2, 4, 14, 15, 85] (by apply aops_mv (t := 14) (d := 83) (ag_n rfl) rfl rfl (by first | (simp only [look_lay, look, seval] <;> rfl) | fail) rfl; apply aops_mv (t := 15) (d := 84) (ag_n rfl) rfl rfl (by first | (simp only [look_lay, look, seval] <;> rfl) | fail) rfl; apply aops_x (d := 85) (ag_n rfl) rfl (by first | (simp (disch := decide) only [go_sem, seval] <;> rfl) | (simp (disch := first | decide | omega) only [if_pos, nws, go_sem, seval] <;> rfl)) rfl; apply aops_end; rfl) (by (simp (disch := omega) only [go_sem, seval, lay, nws]); rfl) ?_
      refine AWP.cond (b := _) rfl (fun h => ?_) (fun h => ?_) <;> (try simp only [decide_eq_true_eq, decide_eq_false_iff_not] at h)
      · skip
        refine AWP.skip ?_
        change AWP _ _ _ _ _
        refine AWP.block ?_
        have hc1 : i ≤ (i + j) / 2 := by omega
        have hc2 : (i + j) / 2 < j := by omega
        refine AWP.sR gok [0, 2, 4, 14, 15, 16] (by apply aops_mv (t := 14) (d := 86) (ag_n rfl) rfl rfl (by first | (simp only [look_lay, look, seval] <;> rfl) | fail) rfl; apply aops_mv (t := 15) (d := 87) (ag_n rfl) rfl rfl (by first | (simp only [look_lay, look, seval] <;> rfl) | fail) rfl; apply aops_x (d := 88) (ag_n rfl) rfl (by first | (simp (disch := decide) only [pw1, half_cast, go_sem, seval] <;> rfl) | (simp (disch := first | decide | omega) only [if_pos, nws, pw1, half_cast, go_sem, seval] <;> rfl)) rfl; apply aops_x (d := 89) (ag_n rfl) rfl (by first | (simp (disch := decide) only [pw1, half_cast, go_sem, seval] <;> rfl) | (simp (disch := first | decide | omega) only [if_pos, nws, pw1, half_cast, go_sem, seval] <;> rfl)) rfl; apply aops_x (d := 90) (ag_n rfl) rfl (by (simp (disch := first | decide | omega) only [if_pos, nws, pw1, half_cast, go_sem, seval] <;> rfl)) rfl; apply aops_x (d := 91) (ag_n rfl) rfl (by first | (simp (disch := decide) only [pw1, half_cast, go_sem, seval] <;> rfl) | (simp (disch := first | decide | omega) only [if_pos, nws, pw1, half_cast, go_sem, seval] <;> rfl)) rfl; apply aops_as (t := 91) (d := 16) (ag_n rfl) rfl rfl (by first | (simp only [look_lay, look, seval] <;> rfl) | fail) rfl; apply aops_end; rfl) (by (simp (disch := omega) only [go_sem, seval, lay, nws]); rfl) ?_
        generalize (i + j) / 2 = c at hc1 hc2 ⊢
        obtain ⟨u, hu⟩ : ∃ u, xs[c]? = some u := ⟨_, List.getElem?_eq_getElem (by omega)⟩
        have iu := hin u (List.mem_of_getElem? hu)
        have hcm := cmp_lt hs xm u
        refine AWP.sD gok (by kernel_rfl) [0, 2, 4, 14, 15, 16, 103] [⟨[], true, 0⟩, ⟨[], true, 0⟩, ⟨[], true, 0⟩, ⟨[], true, 0⟩, ⟨[0], true, 0⟩, ⟨[], true, 0⟩, ⟨[], true, 0⟩, ⟨[], true, 0⟩, ⟨[0], true, 0⟩, ⟨[1], true, 0⟩, ⟨[], true, 0⟩, ⟨[], true, 0⟩] (by kernel_rfl) (by first | rfl | simp only [go_sem, ↓reduceIte, Nat.reduceLT, Nat.reduceAdd]) (by first | rfl | simp only [go_sem, ↓reduceIte, Nat.reduceLT, Nat.reduceAdd]) (by (repeat (first | apply arun_step (by first | exact ag_n rfl | exact ag_b rfl rfl rfl (by first | (simp only [look_lay, look, seval] <;> rfl) | fail) (by first | rfl | (simp only [hu, hxm, iu, im, hh, hcm, decide_true, decide_false] <;> rfl) | fail) | fail) (by first | (simp (disch := decide) only [hu, hxm, iu, im, hh, hcm, go_sem, seval]; rfl) | (simp (disch := first | decide | omega) only [if_pos, nws, hu, hxm, iu, im, hh, hcm, go_sem, seval]; rfl)) (by first | (intro h; cases h; done) | (intro _; rfl) | (intro _; simp only [go_sem, seval, lay])) (by first | rfl | simp only [go_sem, seval, lay]) (by first | rfl | simp only [go_sem, seval, lay]) (by first | rfl | simp only [go_sem, seval, lay]) (by simp only [go_sem, seval, lay]; rfl) | apply arun_pass (by first | exact ag_f rfl rfl rfl (by first | (simp only [look_lay, look, seval] <;> rfl) | fail) (by first | rfl | (simp only [hu, hxm, iu, im, hh, hcm, decide_true, decide_false] <;> rfl) | fail) | exact ag_u rfl rfl rfl (by first | (simp only [look_lay, look, seval] <;> rfl) | fail) | fail) rfl (by simp only [go_sem, seval, lay]; rfl))); exact rfl) (by (simp (disch := omega) only [go_sem, seval, lay, nws]); rfl) ?_
        refine AWP.cond (b := _) rfl (fun h => ?_) (fun h => ?_) <;> (try simp only [decide_eq_true_eq, decide_eq_false_iff_not] at h)
        · skip
          refine AWP.rT gok [0, 2, 4, 14, 15] (by apply aops_mv (t := 16) (d := 104) (ag_n rfl) rfl rfl (by first | (simp only [look_lay, look, seval] <;> rfl) | fail) rfl; apply aops_x (d := 105) (ag_n rfl) rfl (by first | (simp (disch := decide) only [go_sem, seval] <;> rfl) | (simp (disch := first | decide | omega) only [if_pos, nws, go_sem, seval] <;> rfl)) rfl; apply aops_as (t := 105) (d := 14) (ag_n rfl) rfl rfl (by first | (simp only [look_lay, look, seval] <;> rfl) | fail) rfl; apply aops_end; rfl) (by (simp (disch := omega) only [go_sem, seval, lay, nws]); rfl) ?_
          exact ⟨(c + 1, j), Ghost.of_eq (by simp only [Int.natCast_add, Int.cast_ofNat_Int] <;> rfl), ⟨⟨by simp only; omega, by simp only; omega, i3⟩, fun _ z hz => by simp only [Nat.add_sub_cancel] at hz; rw [hu] at hz; cases hz; simpa using h, i5⟩, by simp only; omega⟩
        · skip
          refine AWP.rT gok [0, 2, 4, 14, 15] (by apply aops_mv (t := 16) (d := 106) (ag_n rfl) rfl rfl (by first | (simp only [look_lay, look, seval] <;> rfl) | fail) rfl; apply aops_as (t := 106) (d := 15) (ag_n rfl) rfl rfl (by first | (simp only [look_lay, look, seval] <;> rfl) | fail) rfl; apply aops_end; rfl) (by (simp (disch := omega) only [go_sem, seval, lay, nws]); rfl) ?_
          exact ⟨(i, c), Ghost.of_eq rfl, ⟨⟨i1, hc1, by simp only; omega⟩, i4, fun _ z hz => by simp only at hz; rw [hu] at hz; cases hz; simpa using h⟩, by simp only; omega⟩
      · skip
        refine AWP.exit ?_
        change AWP _ _ _ _ _
        refine AWP.seq ?_
        obtain rfl : i = j := by omega
        refine AWP.sR gok [0, 14, 17] (by apply aops_mv (t := 2) (d := 107) (ag_n rfl) rfl rfl (by first | (simp only [look_lay, look, seval] <;> rfl) | fail) rfl; apply aops_as (t := 107) (d := 17) (ag_n rfl) rfl rfl (by first | (simp only [look_lay, look, seval] <;> rfl) | fail) rfl; apply aops_end; rfl) (by (simp (disch := omega) only [go_sem, seval, lay, nws]); rfl) ?_
        refine AWP.block ?_
        refine AWP.loopP (fun (p : Nat × List Int) => ⟨220, [(0, .c (.sl 0 0 xs.length 1)), (14, .c (ci .i64 (i : Int))), (17, .c (ci .i64 (p.1 : Int)))], [some (.ty IT p.2), some (.raw [.rs HT hs])]⟩) (fun p => (i ≤ p.1 ∧ p.1 ≤ m) ∧ Bump xs m p.1 p.2) (fun p => p.1) (m, xs) (Ghost.refl _ _) ⟨⟨i3, Nat.le_refl _⟩, Bump.start xs m⟩ ?_
        rintro ⟨k, ys⟩ ⟨⟨j1, j2⟩, j3⟩
        simp only at j1 j2 j3 ⊢
        have hyl := j3.1
        refine AWP.seq ?_
        refine AWP.sR gok [0, 14, 17, 110] (by apply aops_mv (t := 17) (d := 108) (ag_n rfl) rfl rfl (by first | (simp only [look_lay, look, seval] <;> rfl) | fail) rfl; apply aops_mv (t := 14) (d := 109) (ag_n rfl) rfl rfl (by first | (simp only [look_lay, look, seval] <;> rfl) | fail) rfl; apply aops_x (d := 110) (ag_n rfl) rfl (by first | (simp (disch := decide) only [go_sem, seval] <;> rfl) | (simp (disch := first | decide | omega) only [if_pos, nws, go_sem, seval] <;> rfl)) rfl; apply aops_end; rfl) (by (simp (disch := omega) only [go_sem, seval, lay, nws]); rfl) ?_
        refine AWP.cond (b := _) rfl (fun h => ?_) (fun h => ?_) <;> (try simp only [decide_eq_true_eq, decide_eq_false_iff_not] at h)
        · skip
          refine AWP.skip ?_
          change AWP _ _ _ _ _
          refine AWP.seqBlock ?_
          obtain ⟨v, hv⟩ : ∃ v, xs[k - 1]? = some v := ⟨_, List.getElem?_eq_getElem (by omega)⟩
          have hat := j3.at (show 0 < k by omega)
          have hk1 := hat.1.trans hxm
          have hk2 := hat.2.trans hv
          have hset : (ys.set k v)[k - 1]? = some v := by rw [List.getElem?_set_ne (by omega)]; exact hk2
          have e1 : ((k : Int) - 1).toNat = k - 1 := by omega
          have hnx := j3.next (show 0 < k by omega) j2 (by omega) hxm hv
          refine AWP.dT gok (by kernel_rfl) [0, 14, 17] [⟨[], true, 0⟩, ⟨[], true, 0⟩, ⟨[], true, 0⟩, ⟨[], true, 0⟩, ⟨[], true, 0⟩, ⟨[], true, 0⟩, ⟨[], true, 0⟩, ⟨[], true, 0⟩, ⟨[], true, 0⟩, ⟨[0], true, 0⟩, ⟨[], true, 0⟩, ⟨[], true, 0⟩, ⟨[], true, 0⟩, ⟨[0], true, 0⟩, ⟨[], true, 0⟩, ⟨[0], false, 0⟩, ⟨[], true, 0⟩, ⟨[0], false, 0⟩] (by kernel_rfl) (by first | rfl | simp only [go_sem, ↓reduceIte, Nat.reduceLT, Nat.reduceAdd]) (by first | rfl | simp only [go_sem, ↓reduceIte, Nat.reduceLT, Nat.reduceAdd]) (by (repeat (first | apply arun_step (by first | exact ag_n rfl | exact ag_b rfl rfl rfl (by first | (simp only [look_lay, look, seval] <;> rfl) | fail) (by first | rfl | (simp only [hk1, hk2, hset, e1, hyl, List.length_set, decide_true, decide_false] <;> rfl) | fail) | fail) (by first | (simp (disch := decide) only [hk1, hk2, hset, e1, hyl, List.length_set, go_sem, seval]; rfl) | (simp (disch := first | decide | omega) only [if_pos, nws, hk1, hk2, hset, e1, hyl, List.length_set, go_sem, seval]; rfl)) (by first | (intro h; cases h; done) | (intro _; rfl) | (intro _; simp only [go_sem, seval, lay])) (by first | rfl | simp only [go_sem, seval, lay]) (by first | rfl | simp only [go_sem, seval, lay]) (by first | rfl | simp only [go_sem, seval, lay]) (by simp only [go_sem, seval, lay]; rfl) | apply arun_pass (by first | exact ag_f rfl rfl rfl (by first | (simp only [look_lay, look, seval] <;> rfl) | fail) (by first | rfl | (simp only [hk1, hk2, hset, e1, hyl, List.length_set, decide_true, decide_false] <;> rfl) | fail) | exact ag_u rfl rfl rfl (by first | (simp only [look_lay, look, seval] <;> rfl) | fail) | fail) rfl (by simp only [go_sem, seval, lay]; rfl))); exact rfl) (by (simp (disch := omega) only [go_sem, seval, lay, nws]); rfl) ?_
          change AWP _ _ _ _ _
          refine AWP.rT gok [0, 14, 17] (by apply aops_mv (t := 17) (d := 111) (ag_n rfl) rfl rfl (by first | (simp only [look_lay, look, seval] <;> rfl) | fail) rfl; apply aops_x (d := 112) (ag_n rfl) rfl (by first | (simp (disch := decide) only [go_sem, seval] <;> rfl) | (simp (disch := first | decide | omega) only [if_pos, nws, go_sem, seval] <;> rfl)) rfl; apply aops_as (t := 112) (d := 17) (ag_n rfl) rfl rfl (by first | (simp only [look_lay, look, seval] <;> rfl) | fail) rfl; apply aops_end; rfl) (by (simp (disch := omega) only [go_sem, seval, lay, nws]); rfl) ?_
          exact ⟨(k - 1, (ys.set k v).set (k - 1) xm), Ghost.of_eq (by rw [show ((k - 1 : Nat) : Int) = (k : Int) - 1 by omega] <;> rfl), ⟨⟨by simp only; omega, by simp only; omega⟩, hnx⟩, by simp only; omega⟩
        · skip
          refine AWP.exit ?_
          change AWP _ _ _ _ _
          refine AWP.ret ?_
          refine ⟨.inr rfl, _, (by simp only [go_sem, seval] <;> rfl), ?_⟩
          simp only [go_sem, seval, Option.some.injEq, AV.c.injEq, AV.agg.injEq, CV.v.injEq, Value.int.injEq, Value.bool.injEq, Row.raw.injEq, List.cons.injEq, CV.sl.injEq, and_true, true_and, and_self]
          obtain rfl : k = i := by omega
          rw [sym_high (hw hs) (by omega) i1 i3 h3 hxm u1 i4 i5 j3]
    · skip
      refine AWP.skip ?_
      change AWP _ _ _ _ _
      refine AWP.sR gok [0, 1, 2, 3, 4, 18] (by apply aops_mv (t := 1) (d := 129) (ag_n rfl) rfl rfl (by first | (simp only [look_lay, look, seval] <;> rfl) | fail) rfl; apply aops_mv (t := 3) (d := 130) (ag_n rfl) rfl rfl (by first | (simp only [look_lay, look, seval] <;> rfl) | fail) rfl; apply aops_x (d := 131) (ag_n rfl) rfl (by first | (simp (disch := decide) only [pw1, half_cast, go_sem, seval] <;> rfl) | (simp (disch := first | decide | omega) only [if_pos, nws, pw1, half_cast, go_sem, seval] <;> rfl)) rfl; apply aops_x (d := 132) (ag_n rfl) rfl (by first | (simp (disch := decide) only [pw1, half_cast, go_sem, seval] <;> rfl) | (simp (disch := first | decide | omega) only [if_pos, nws, pw1, half_cast, go_sem, seval] <;> rfl)) rfl; apply aops_x (d := 133) (ag_n rfl) rfl (by (simp (disch := first | decide | omega) only [if_pos, nws, pw1, half_cast, go_sem, seval] <;> rfl)) rfl; apply aops_x (d := 134) (ag_n rfl) rfl (by first | (simp (disch := decide) only [pw1, half_cast, go_sem, seval] <;> rfl) | (simp (disch := first | decide | omega) only [if_pos, nws, pw1, half_cast, go_sem, seval] <;> rfl)) rfl; apply aops_as (t := 134) (d := 18) (ag_n rfl) rfl rfl (by first | (simp only [look_lay, look, seval] <;> rfl) | fail) rfl; apply aops_end; rfl) (by (simp (disch := omega) only [go_sem, seval, lay, nws]); rfl) ?_
      obtain ⟨mid, hmid⟩ : ∃ mid, (a + b) / 2 = mid := ⟨_, rfl⟩
      rw [hmid]
      have hmid2 : a ≤ mid ∧ mid ≤ b ∧ mid = a + (b - a) / 2 := by omega
      have eN : (mid : Int) + (m : Int) = ((mid + m : Nat) : Int) := by omega
      refine AWP.sR gok [0, 1, 2, 3, 4, 18, 19] (by apply aops_mv (t := 18) (d := 135) (ag_n rfl) rfl rfl (by first | (simp only [look_lay, look, seval] <;> rfl) | fail) rfl; apply aops_mv (t := 2) (d := 136) (ag_n rfl) rfl rfl (by first | (simp only [look_lay, look, seval] <;> rfl) | fail) rfl; apply aops_x (d := 137) (ag_n rfl) rfl (by first | (simp (disch := decide) only [eN, go_sem, seval] <;> rfl) | (simp (disch := first | decide | omega) only [if_pos, nws, eN, go_sem, seval] <;> rfl)) rfl; apply aops_as (t := 137) (d := 19) (ag_n rfl) rfl rfl (by first | (simp only [look_lay, look, seval] <;> rfl) | fail) rfl; apply aops_end; rfl) (by (simp (disch := omega) only [go_sem, seval, lay, nws]); rfl) ?_
      refine AWP.sR gok [0, 1, 2, 3, 4, 18, 19] (by apply aops_x (d := 20) (ag_n rfl) rfl (by first | (simp (disch := decide) only [go_sem, seval] <;> rfl) | (simp (disch := first | decide | omega) only [if_pos, nws, go_sem, seval] <;> rfl)) rfl; apply aops_x (d := 21) (ag_n rfl) rfl (by first | (simp (disch := decide) only [go_sem, seval] <;> rfl) | (simp (disch := first | decide | omega) only [if_pos, nws, go_sem, seval] <;> rfl)) rfl; apply aops_end; rfl) (by (simp (disch := omega) only [go_sem, seval, lay, nws]); rfl) ?_
      refine AWP.seq ?_
      obtain ⟨s0, r0, h0⟩ : ∃ s0 r0 : Nat, (mid < m ∧ s0 = mid + m - b ∧ b ≤ mid + m ∧ r0 = mid) ∨ (m ≤ mid ∧ s0 = a ∧ r0 = m) := by
        by_cases hc : mid < m
        · exact ⟨_, _, .inl ⟨hc, rfl, by omega, rfl⟩⟩
        · exact ⟨_, _, .inr ⟨by omega, rfl, rfl⟩⟩
      refine AWP.sR gok [0, 1, 2, 3, 4, 18, 19, 140] (by apply aops_mv (t := 2) (d := 138) (ag_n rfl) rfl rfl (by first | (simp only [look_lay, look, seval] <;> rfl) | fail) rfl; apply aops_mv (t := 18) (d := 139) (ag_n rfl) rfl rfl (by first | (simp only [look_lay, look, seval] <;> rfl) | fail) rfl; apply aops_x (d := 140) (ag_n rfl) rfl (by first | (simp (disch := decide) only [go_sem, seval] <;> rfl) | (simp (disch := first | decide | omega) only [if_pos, nws, go_sem, seval] <;> rfl)) rfl; apply aops_end; rfl) (by (simp (disch := omega) only [go_sem, seval, lay, nws]); rfl) ?_
      refine AWP.normG (s2 := ⟨220, [(0, .c (.sl 0 0 xs.length 1)), (1, .c (ci .i64 (a : Int))), (2, .c (ci .i64 (m : Int))), (3, .c (ci .i64 (b : Int))), (4, .c (.fn Fc [1])), (18, .c (ci .i64 (mid : Int))), (19, .c (ci .i64 ((mid + m : Nat) : Int))), (20, .c (ci .i64 (s0 : Int))), (21, .c (ci .i64 (r0 : Int)))], [some (.ty IT xs), some (.raw [.rs HT hs])]⟩) ?_ ?_
      · skip
        refine AWP.cond (b := _) rfl (fun h => ?_) (fun h => ?_) <;> (try simp only [decide_eq_true_eq, decide_eq_false_iff_not] at h)
        · skip
          have eS : ((mid + m : Nat) : Int) - (b : Int) = (s0 : Int) := by omega
          have eR : r0 = mid := by omega
          refine AWP.sR gok [0, 1, 2, 3, 4, 18, 19, 20] (by apply aops_mv (t := 19) (d := 141) (ag_n rfl) rfl rfl (by first | (simp only [look_lay, look, seval] <;> rfl) | fail) rfl; apply aops_mv (t := 3) (d := 142) (ag_n rfl) rfl rfl (by first | (simp only [look_lay, look, seval] <;> rfl) | fail) rfl; apply aops_x (d := 143) (ag_n rfl) rfl (by first | (simp (disch := decide) only [eS, go_sem, seval] <;> rfl) | (simp (disch := first | decide | omega) only [if_pos, nws, eS, go_sem, seval] <;> rfl)) rfl; apply aops_as (t := 143) (d := 20) (ag_n rfl) rfl rfl (by first | (simp only [look_lay, look, seval] <;> rfl) | fail) rfl; apply aops_end; rfl) (by (simp (disch := omega) only [go_sem, seval, lay, nws]); rfl) ?_
          refine AWP.rT gok [0, 1, 2, 3, 4, 18, 19, 20, 21] (by apply aops_mv (t := 18) (d := 144) (ag_n rfl) rfl rfl (by first | (simp only [look_lay, look, seval] <;> rfl) | fail) rfl; apply aops_as (t := 144) (d := 21) (ag_n rfl) rfl rfl (by first | (simp only [look_lay, look, seval] <;> rfl) | fail) rfl; apply aops_end; rfl) (by (simp (disch := omega) only [go_sem, seval, lay, nws]); rfl) ?_
          exact Ghost.of_eq (by rw [eR] <;> rfl)
        · skip
          have eS : s0 = a := by omega
          have eR : r0 = m := by omega
          refine AWP.sR gok [0, 1, 2, 3, 4, 18, 19, 20] (by apply aops_mv (t := 1) (d := 145) (ag_n rfl) rfl rfl (by first | (simp only [look_lay, look, seval] <;> rfl) | fail) rfl; apply aops_as (t := 145) (d := 20) (ag_n rfl) rfl rfl (by first | (simp only [look_lay, look, seval] <;> rfl) | fail) rfl; apply aops_end; rfl) (by (simp (disch := omega) only [go_sem, seval, lay, nws]); rfl) ?_
          refine AWP.rT gok [0, 1, 2, 3, 4, 18, 19, 20, 21] (by apply aops_mv (t := 2) (d := 146) (ag_n rfl) rfl rfl (by first | (simp only [look_lay, look, seval] <;> rfl) | fail) rfl; apply aops_as (t := 146) (d := 21) (ag_n rfl) rfl rfl (by first | (simp only [look_lay, look, seval] <;> rfl) | fail) rfl; apply aops_end; rfl) (by (simp (disch := omega) only [go_sem, seval, lay, nws]); rfl) ?_
          exact Ghost.of_eq (by rw [eR, eS] <;> rfl)
      change AWP _ _ _ _ _
      have eP : ((mid + m : Nat) : Int) - 1 = ((mid + m - 1 : Nat) : Int) := by omega
      refine AWP.sR gok [0, 1, 2, 3, 4, 18, 19, 20, 21, 22] (by apply aops_mv (t := 19) (d := 147) (ag_n rfl) rfl rfl (by first | (simp only [look_lay, look, seval] <;> rfl) | fail) rfl; apply aops_x (d := 148) (ag_n rfl) rfl (by first | (simp (disch := decide) only [eP, go_sem, seval] <;> rfl) | (simp (disch := first | decide | omega) only [if_pos, nws, eP, go_sem, seval] <;> rfl)) rfl; apply aops_as (t := 148) (d := 22) (ag_n rfl) rfl rfl (by first | (simp only [look_lay, look, seval] <;> rfl) | fail) rfl; apply aops_end; rfl) (by (simp (disch := omega) only [go_sem, seval, lay, nws]); rfl) ?_
      refine AWP.seqBlock ?_
      refine AWP.loopP (fun (p : Nat × Nat) => ⟨220, [(0, .c (.sl 0 0 xs.length 1)), (1, .c (ci .i64 (a : Int))), (2, .c (ci .i64 (m : Int))), (3, .c (ci .i64 (b : Int))), (4, .c (.fn Fc [1])), (18, .c (ci .i64 (mid : Int))), (19, .c (ci .i64 ((mid + m : Nat) : Int))), (20, .c (ci .i64 (p.1 : Int))), (21, .c (ci .i64 (p.2 : Int))), (22, .c (ci .i64 ((mid + m - 1 : Nat) : Int)))], [some (.ty IT xs), some (.raw [.rs HT hs])]⟩) (fun p => (s0 ≤ p.1 ∧ p.1 ≤ p.2 ∧ p.2 ≤ r0) ∧ (s0 < p.1 → ∀ u v, xs[mid + m - p.1]? = some u → xs[p.1 - 1]? = some v → ltH hs u v = false) ∧ (p.2 < r0 → ∀ u v, xs[mid + m - 1 - p.2]? = some u → xs[p.2]? = some v → ltH hs u v = true)) (fun p => p.2 - p.1) (s0, r0) (Ghost.refl _ _) ⟨⟨Nat.le_refl _, by simp only; omega, Nat.le_refl _⟩, fun h => absurd h (Nat.lt_irrefl _), fun h => absurd h (Nat.lt_irrefl _)⟩ ?_
      rintro ⟨s, r⟩ ⟨⟨i1, i2, i3⟩, i4, i5⟩
      simp only at i1 i2 i3 i4 i5 ⊢
      refine AWP.seq ?_
      refine AWP.sR gok [0, 1, 2, 3, 4, 18, 19, 20, 21, 22, 151] (by apply aops_mv (t := 20) (d := 149) (ag_n rfl) rfl rfl (by first | (simp only [look_lay, look, seval] <;> rfl) | fail) rfl; apply aops_mv (t := 21) (d := 150) (ag_n rfl) rfl rfl (by first | (simp only [look_lay, look, seval] <;> rfl) | fail) rfl; apply aops_x (d := 151) (ag_n rfl) rfl (by first | (simp (disch := decide) only [go_sem, seval] <;> rfl) | (simp (disch := first | decide | omega) only [if_pos, nws, go_sem, seval] <;> rfl)) rfl; apply aops_end; rfl) (by (simp (disch := omega) only [go_sem, seval, lay, nws]); rfl) ?_
      refine AWP.cond (b := _) rfl (fun h => ?_) (fun h => ?_) <;> (try simp only [decide_eq_true_eq, decide_eq_false_iff_not] at h)
      · skip
        refine AWP.skip ?_
        change AWP _ _ _ _ _
        refine AWP.block ?_
        have hc1 : s ≤ (s + r) / 2 := by omega
        have hc2 : (s + r) / 2 < r := by omega
        refine AWP.sR gok [0, 1, 2, 3, 4, 18, 19, 20, 21, 22, 23] (by apply aops_mv (t := 20) (d := 152) (ag_n rfl) rfl rfl (by first | (simp only [look_lay, look, seval] <;> rfl) | fail) rfl; apply aops_mv (t := 21) (d := 153) (ag_n rfl) rfl rfl (by first | (simp only [look_lay, look, seval] <;> rfl) | fail) rfl; apply aops_x (d := 154) (ag_n rfl) rfl (by first | (simp (disch := decide) only [pw1, half_cast, go_sem, seval] <;> rfl) | (simp (disch := first | decide | omega) only [if_pos, nws, pw1, half_cast, go_sem, seval] <;> rfl)) rfl; apply aops_x (d := 155) (ag_n rfl) rfl (by first | (simp (disch := decide) only [pw1, half_cast, go_sem, seval] <;> rfl) | (simp (disch := first | decide | omega) only [if_pos, nws, pw1, half_cast, go_sem, seval] <;> rfl)) rfl; apply aops_x (d := 156) (ag_n rfl) rfl (by (simp (disch := first | decide | omega) only [if_pos, nws, pw1, half_cast, go_sem, seval] <;> rfl)) rfl; apply aops_x (d := 157) (ag_n rfl) rfl (by first | (simp (disch := decide) only [pw1, half_cast, go_sem, seval] <;> rfl) | (simp (disch := first | decide | omega) only [if_pos, nws, pw1, half_cast, go_sem, seval] <;> rfl)) rfl; apply aops_as (t := 157) (d := 23) (ag_n rfl) rfl rfl (by first | (simp only [look_lay, look, seval] <;> rfl) | fail) rfl; apply aops_end; rfl) (by (simp (disch := omega) only [go_sem, seval, lay, nws]); rfl) ?_
        generalize (s + r) / 2 = c at hc1 hc2 ⊢
        have eI : ((mid + m - 1 : Nat) : Int) - (c : Int) = ((mid + m - 1 - c : Nat) : Int) := by omega
        obtain ⟨u, hu⟩ : ∃ u, xs[mid + m - 1 - c]? = some u := ⟨_, List.getElem?_eq_getElem (by omega)⟩
        obtain ⟨v, hv⟩ : ∃ v, xs[c]? = some v := ⟨_, List.getElem?_eq_getElem (by omega)⟩
        have iu := hin u (List.mem_of_getElem? hu)
        have iv := hin v (List.mem_of_getElem? hv)
        have hcm := cmp_lt hs u v
        have hil : mid + m - 1 - c < xs.length := by omega
        have hcl : c < xs.length := by omega
        refine AWP.sD gok (by kernel_rfl) [0, 1, 2, 3, 4, 18, 19, 20, 21, 22, 23, 171] [⟨[], true, 0⟩, ⟨[], true, 0⟩, ⟨[], true, 0⟩, ⟨[], true, 0⟩, ⟨[], true, 0⟩, ⟨[], true, 0⟩, ⟨[0], true, 0⟩, ⟨[], true, 0⟩, ⟨[], true, 0⟩, ⟨[], true, 0⟩, ⟨[0], true, 0⟩, ⟨[1], true, 0⟩, ⟨[], true, 0⟩, ⟨[], true, 0⟩] (by kernel_rfl) (by first | rfl | simp only [go_sem, ↓reduceIte, Nat.reduceLT, Nat.reduceAdd]) (by first | rfl | simp only [go_sem, ↓reduceIte, Nat.reduceLT, Nat.reduceAdd]) (by (repeat (first | apply arun_step (by first | exact ag_n rfl | exact ag_b rfl rfl rfl (by first | (simp only [look_lay, look, seval] <;> rfl) | fail) (by first | rfl | (simp only [eI, hu, hv, iu, iv, hh, hcm, decide_true, decide_false] <;> rfl) | fail) | fail) (by first | (simp (disch := decide) only [eI, hu, hv, iu, iv, hh, hcm, go_sem, seval]; rfl) | (simp (disch := first | decide | omega) only [if_pos, nws, eI, hu, hv, iu, iv, hh, hcm, go_sem, seval]; rfl)) (by first | (intro h; cases h; done) | (intro _; rfl) | (intro _; simp only [go_sem, seval, lay])) (by first | rfl | simp only [go_sem, seval, lay]) (by first | rfl | simp only [go_sem, seval, lay]) (by first | rfl | simp only [go_sem, seval, lay]) (by simp only [go_sem, seval, lay]; rfl) | apply arun_pass (by first | exact ag_f rfl rfl rfl (by first | (simp only [look_lay, look, seval] <;> rfl) | fail) (by first | rfl | (simp only [eI, hu, hv, iu, iv, hh, hcm, decide_true, decide_false] <;> rfl) | fail) | exact ag_u rfl rfl rfl (by first | (simp only [look_lay, look, seval] <;> rfl) | fail) | fail) rfl (by simp only [go_sem, seval, lay]; rfl))); exact rfl) (by (simp (disch := omega) only [go_sem, seval, lay, nws]); rfl) ?_
        refine AWP.cond (b := _) rfl (fun h => ?_) (fun h => ?_) <;> (try simp only [decide_eq_true_eq, decide_eq_false_iff_not] at h)
        · skip
          refine AWP.rT gok [0, 1, 2, 3, 4, 18, 19, 20, 21, 22] (by apply aops_mv (t := 23) (d := 172) (ag_n rfl) rfl rfl (by first | (simp only [look_lay, look, seval] <;> rfl) | fail) rfl; apply aops_x (d := 173) (ag_n rfl) rfl (by first | (simp (disch := decide) only [go_sem, seval] <;> rfl) | (simp (disch := first | decide | omega) only [if_pos, nws, go_sem, seval] <;> rfl)) rfl; apply aops_as (t := 173) (d := 20) (ag_n rfl) rfl rfl (by first | (simp only [look_lay, look, seval] <;> rfl) | fail) rfl; apply aops_end; rfl) (by (simp (disch := omega) only [go_sem, seval, lay, nws]); rfl) ?_
          exact ⟨(c + 1, r), Ghost.of_eq (by simp only [Int.natCast_add, Int.cast_ofNat_Int] <;> rfl), ⟨⟨by simp only; omega, by simp only; omega, i3⟩, fun _ u' v' hu' hv' => by
            simp only [Nat.add_sub_cancel] at hu' hv'
            rw [show mid + m - (c + 1) = mid + m - 1 - c by omega, hu] at hu'
            rw [hv] at hv'
            cases hu'; cases hv'
            simpa using h, i5⟩, by simp only; omega⟩
        · skip
          refine AWP.rT gok [0, 1, 2, 3, 4, 18, 19, 20, 21, 22] (by apply aops_mv (t := 23) (d := 174) (ag_n rfl) rfl rfl (by first | (simp only [look_lay, look, seval] <;> rfl) | fail) rfl; apply aops_as (t := 174) (d := 21) (ag_n rfl) rfl rfl (by first | (simp only [look_lay, look, seval] <;> rfl) | fail) rfl; apply aops_end; rfl) (by (simp (disch := omega) only [go_sem, seval, lay, nws]); rfl) ?_
          exact ⟨(s, c), Ghost.of_eq rfl, ⟨⟨i1, hc1, by simp only; omega⟩, i4, fun _ u' v' hu' hv' => by
            simp only at hu' hv'
            rw [hu] at hu'
            rw [hv] at hv'
            cases hu'; cases hv'
            simpa using h⟩, by simp only; omega⟩
      · skip
        refine AWP.exit ?_
        change AWP _ _ _ _ _
        obtain rfl : s = r := by omega
        obtain ⟨⟨f1, f2, f3, f4⟩, hA, hB⟩ := sym_found (hw hs) (Nat.le_of_lt h1) (Nat.le_of_lt h2) h3 u1 u2 h0 hmid2 ⟨i1, i3⟩ i4 i5
        obtain ⟨e, he⟩ : ∃ e, mid + m - s = e := ⟨_, rfl⟩
        rw [he] at f3 f4 hA hB
        have eE : ((mid + m : Nat) : Int) - (s : Int) = (e : Int) := by omega
        have hfin := sym_final f1 f2 f3 f4 h3 (show mid + m = e + s by omega) u2 hA hB
        obtain ⟨g1, g2, g3, g4, g5⟩ := rot_segs f1 f2 f3 f4 h3 (show mid + m = e + s by omega)
        have triv1 : s = m ∨ m = e → rotR xs s m e = xs := rotR_triv f2 f3
        have hys1in : ∀ x ∈ rotR xs s m e, inH hs x := fun x hx => hin x (mem_rotR hx)
        have hcR : s < m → m < e → cRot xs hs [(s : Int), (m : Int), (e : Int)] := fun _ _ => ⟨by omega, by omega, h4⟩
        obtain ⟨ys1, hys1⟩ : ∃ ys1, rotR xs s m e = ys1 := ⟨_, rfl⟩
        rw [hys1] at hfin g1 g2 g3 g4 g5 triv1 hys1in
        have v1 : Up (ltH hs) (seg ys1 a s) := by rw [g1]; exact up_seg u1 (Nat.le_refl _) f2
        have v2 : Up (ltH hs) (seg ys1 s mid) := by rw [g2]; exact up_seg u2 (Nat.le_refl _) f4
        have hm1 : (mergeF (ltH hs) (seg ys1 a s) (seg ys1 s mid)).length = mid - a := by rw [mergeF_len, seg_len (by omega), seg_len (by omega)]; omega
        have k1 : seg (symR (ltH hs) ys1 a s mid) mid e = seg ys1 mid e := put_seg (by omega) (by omega) hm1 (by omega)
        have k2 : seg (symR (ltH hs) ys1 a s mid) e b = seg ys1 e b := put_seg (by omega) (by omega) hm1 (by omega)
        have k3 : (symR (ltH hs) ys1 a s mid).length = ys1.length := symR_len (by omega) (by omega) (by omega)
        have hys2in : ∀ x ∈ symR (ltH hs) ys1 a s mid, inH hs x := fun x hx => hys1in x (mem_symR hx)
        have triv2 : a = s ∨ s = mid → symR (ltH hs) ys1 a s mid = ys1 := symR_triv (by omega) (by omega) v1 v2
        have hcS1 : a < s → s < mid → cSym N ys1 hs [(a : Int), (s : Int), (mid : Int)] := fun _ _ => cSym_cast ⟨by omega, by omega, by omega, by omega, by omega⟩ hh hys1in v1 v2
        obtain ⟨ys2, hys2⟩ : ∃ ys2, symR (ltH hs) ys1 a s mid = ys2 := ⟨_, rfl⟩
        rw [hys2] at hfin k1 k2 k3 hys2in triv2
        have l2 : ys2.length = xs.length := k3.trans g5
        have v3 : Up (ltH hs) (seg ys2 mid e) := by rw [k1, g3]; exact up_seg u1 f1 (Nat.le_refl _)
        have v4 : Up (ltH hs) (seg ys2 e b) := by rw [k2, g4]; exact up_seg u2 f3 (Nat.le_refl _)
        have triv3 : mid = e ∨ e = b → symR (ltH hs) ys2 mid e b = ys2 := symR_triv (by omega) (by omega) v3 v4
        have hcS2 : mid < e → e < b → cSym N ys2 hs [(mid : Int), (e : Int), (b : Int)] := fun _ _ => cSym_cast ⟨by omega, by omega, by omega, by omega, by omega⟩ hh hys2in v3 v4
        refine AWP.sR gok [0, 1, 2, 3, 4, 18, 20, 24] (by apply aops_mv (t := 19) (d := 175) (ag_n rfl) rfl rfl (by first | (simp only [look_lay, look, seval] <;> rfl) | fail) rfl; apply aops_mv (t := 20) (d := 176) (ag_n rfl) rfl rfl (by first | (simp only [look_lay, look, seval] <;> rfl) | fail) rfl; apply aops_x (d := 177) (ag_n rfl) rfl (by first | (simp (disch := decide) only [eE, go_sem, seval] <;> rfl) | (simp (disch := first | decide | omega) only [if_pos, nws, eE, go_sem, seval] <;> rfl)) rfl; apply aops_as (t := 177) (d := 24) (ag_n rfl) rfl rfl (by first | (simp only [look_lay, look, seval] <;> rfl) | fail) rfl; apply aops_end; rfl) (by (simp (disch := omega) only [go_sem, seval, lay, nws]); rfl) ?_
        refine AWP.seq ?_
        obtain ⟨B1, C1, c1, t1, n1, hcase⟩ := and_test ((s : Int) < (m : Int)) ((m : Int) < (e : Int))
        refine AWP.sX gok [0, 1, 2, 3, 4, 18, 20, 24, 185] (s2 := ⟨220, [(0, .c (.sl 0 0 xs.length 1)), (1, .c (ci .i64 (a : Int))), (2, .c (ci .i64 (m : Int))), (3, .c (ci .i64 (b : Int))), (4, .c (.fn Fc [1])), (18, .c (ci .i64 (mid : Int))), (20, .c (ci .i64 (s : Int))), (24, .c (ci .i64 (e : Int))), (185, .c (cb B1))], [some (.ty IT xs), some (.raw [.rs HT hs])]⟩) (by (rcases hcase with ⟨b1, b2, hB, hT⟩ | ⟨b1, b2, hB, hT⟩) <;> refine ⟨_, (by apply aops_mv (t := 20) (d := 178) (ag_n rfl) rfl rfl (by first | (simp only [look_lay, look, seval] <;> rfl) | fail) rfl; apply aops_mv (t := 2) (d := 179) (ag_n rfl) rfl rfl (by first | (simp only [look_lay, look, seval] <;> rfl) | fail) rfl; apply aops_x (d := 180) (ag_n rfl) rfl (by (simp (disch := first | decide | omega) only [if_pos, nws, c1, b1, b2, hB, go_sem, seval] <;> rfl)) rfl; apply aops_mv (t := 180) (d := 181) (ag_n rfl) rfl rfl (by first | (simp only [look_lay, look, seval] <;> rfl) | fail) rfl; (first | apply aops_mv (t := 2) (d := 182) (ag_b (j := 3) (d := 181) rfl rfl rfl (by first | (simp only [look_lay, look, seval] <;> rfl) | fail) (by first | rfl | (simp only [c1, b1, b2, hB, decide_true, decide_false] <;> rfl) | fail)) rfl rfl (by first | (simp only [look_lay, look, seval] <;> rfl) | fail) rfl | apply aops_ps (d := 182) (by first | exact ag_f (j := 3) (d := 181) rfl rfl rfl (by first | (simp only [look_lay, look, seval] <;> rfl) | fail) (by first | rfl | (simp only [c1, b1, b2, hB, decide_true, decide_false] <;> rfl) | fail) | exact ag_u (j := 3) (d := 181) rfl rfl rfl (by first | (simp only [look_lay, look, seval] <;> rfl) | fail) | fail) rfl rfl); (first | apply aops_mv (t := 24) (d := 183) (ag_b (j := 3) (d := 181) rfl rfl rfl (by first | (simp only [look_lay, look, seval] <;> rfl) | fail) (by first | rfl | (simp only [c1, b1, b2, hB, decide_true, decide_false] <;> rfl) | fail)) rfl rfl (by first | (simp only [look_lay, look, seval] <;> rfl) | fail) rfl | apply aops_ps (d := 183) (by first | exact ag_f (j := 3) (d := 181) rfl rfl rfl (by first | (simp only [look_lay, look, seval] <;> rfl) | fail) (by first | rfl | (simp only [c1, b1, b2, hB, decide_true, decide_false] <;> rfl) | fail) | exact ag_u (j := 3) (d := 181) rfl rfl rfl (by first | (simp only [look_lay, look, seval] <;> rfl) | fail) | fail) rfl rfl); (first | apply aops_x (d := 184) (ag_b (j := 3) (d := 181) rfl rfl rfl (by first | (simp only [look_lay, look, seval] <;> rfl) | fail) (by first | rfl | (simp only [c1, b1, b2, hB, decide_true, decide_false] <;> rfl) | fail)) rfl (by (simp (disch := first | decide | omega) only [if_pos, nws, c1, b1, b2, hB, go_sem, seval] <;> rfl)) rfl | apply aops_ps (d := 184) (by first | exact ag_f (j := 3) (d := 181) rfl rfl rfl (by first | (simp only [look_lay, look, seval] <;> rfl) | fail) (by first | rfl | (simp only [c1, b1, b2, hB, decide_true, decide_false] <;> rfl) | fail) | exact ag_u (j := 3) (d := 181) rfl rfl rfl (by first | (simp only [look_lay, look, seval] <;> rfl) | fail) | fail) rfl rfl); apply aops_x (d := 185) (ag_n rfl) rfl (by (simp (disch := first | decide | omega) only [if_pos, nws, c1, b1, b2, hB, go_sem, seval] <;> rfl)) rfl; apply aops_end; rfl), (by (simp (disch := omega) only [c1, b1, b2, hB, go_sem, seval, lay, nws]) <;> rfl)⟩) ?_
        refine AWP.normG (s2 := ⟨220, [(0, .c (.sl 0 0 xs.length 1)), (1, .c (ci .i64 (a : Int))), (3, .c (ci .i64 (b : Int))), (4, .c (.fn Fc [1])), (18, .c (ci .i64 (mid : Int))), (20, .c (ci .i64 (s : Int))), (24, .c (ci .i64 (e : Int)))], [some (.ty IT ys1), some (.raw [.rs HT hs])]⟩) ?_ ?_
        · skip
          refine AWP.cond (b := _) rfl (fun h => ?_) (fun h => ?_) <;> (try simp only [decide_eq_true_eq, decide_eq_false_iff_not] at h)
          · skip
            have hq := t1 h
            have hc := hcR (by omega) (by omega)
            refine AWP.rT gok [0, 1, 3, 4, 18, 20, 24] (by apply aops_mv (t := 0) (d := 186) (ag_n rfl) rfl rfl (by first | (simp only [look_lay, look, seval] <;> rfl) | fail) rfl; apply aops_mv (t := 20) (d := 187) (ag_n rfl) rfl rfl (by first | (simp only [look_lay, look, seval] <;> rfl) | fail) rfl; apply aops_mv (t := 2) (d := 188) (ag_n rfl) rfl rfl (by first | (simp only [look_lay, look, seval] <;> rfl) | fail) rfl; apply aops_mv (t := 24) (d := 189) (ag_n rfl) rfl rfl (by first | (simp only [look_lay, look, seval] <;> rfl) | fail) rfl; apply aops_mv (t := 4) (d := 190) (ag_n rfl) rfl rfl (by first | (simp only [look_lay, look, seval] <;> rfl) | fail) rfl; apply aops_x (d := 191) (ag_n rfl) rfl (by (simp (disch := first | decide | omega) only [if_pos, nws, hc, fRot_cast, hys1, go_sem, seval] <;> rfl)) rfl; apply aops_end; rfl) (by (simp (disch := omega) only [go_sem, seval, lay, nws]); rfl) ?_
            exact Ghost.trans (Ghost.trim _ [0, 1, 3, 4, 18, 20, 24] _) (Ghost.of_eq (by (simp (disch := omega) only [go_sem, seval, lay, nws]) <;> rfl))
          · skip
            refine AWP.skip ?_
            have hx := triv1 (by have hq := n1 h; omega)
            exact Ghost.trans (Ghost.trim _ [0, 1, 3, 4, 18, 20, 24] _) (Ghost.of_eq (by rw [hx]; (simp (disch := omega) only [go_sem, seval, lay, nws]) <;> rfl))
        change AWP _ _ _ _ _
        refine AWP.seq ?_
        obtain ⟨B2, C2, c2, t2, n2, hcase2⟩ := and_test ((a : Int) < (s : Int)) ((s : Int) < (mid : Int))
        refine AWP.sX gok [0, 1, 3, 4, 18, 20, 24, 199] (s2 := ⟨220, [(0, .c (.sl 0 0 xs.length 1)), (1, .c (ci .i64 (a : Int))), (3, .c (ci .i64 (b : Int))), (4, .c (.fn Fc [1])), (18, .c (ci .i64 (mid : Int))), (20, .c (ci .i64 (s : Int))), (24, .c (ci .i64 (e : Int))), (199, .c (cb B2))], [some (.ty IT ys1), some (.raw [.rs HT hs])]⟩) (by (rcases hcase2 with ⟨b1, b2, hB, hT⟩ | ⟨b1, b2, hB, hT⟩) <;> refine ⟨_, (by apply aops_mv (t := 1) (d := 192) (ag_n rfl) rfl rfl (by first | (simp only [look_lay, look, seval] <;> rfl) | fail) rfl; apply aops_mv (t := 20) (d := 193) (ag_n rfl) rfl rfl (by first | (simp only [look_lay, look, seval] <;> rfl) | fail) rfl; apply aops_x (d := 194) (ag_n rfl) rfl (by (simp (disch := first | decide | omega) only [if_pos, nws, c2, b1, b2, hB, go_sem, seval] <;> rfl)) rfl; apply aops_mv (t := 194) (d := 195) (ag_n rfl) rfl rfl (by first | (simp only [look_lay, look, seval] <;> rfl) | fail) rfl; (first | apply aops_mv (t := 20) (d := 196) (ag_b (j := 3) (d := 195) rfl rfl rfl (by first | (simp only [look_lay, look, seval] <;> rfl) | fail) (by first | rfl | (simp only [c2, b1, b2, hB, decide_true, decide_false] <;> rfl) | fail)) rfl rfl (by first | (simp only [look_lay, look, seval] <;> rfl) | fail) rfl | apply aops_ps (d := 196) (by first | exact ag_f (j := 3) (d := 195) rfl rfl rfl (by first | (simp only [look_lay, look, seval] <;> rfl) | fail) (by first | rfl | (simp only [c2, b1, b2, hB, decide_true, decide_false] <;> rfl) | fail) | exact ag_u (j := 3) (d := 195) rfl rfl rfl (by first | (simp only [look_lay, look, seval] <;> rfl) | fail) | fail) rfl rfl); (first | apply aops_mv (t := 18) (d := 197) (ag_b (j := 3) (d := 195) rfl rfl rfl (by first | (simp only [look_lay, look, seval] <;> rfl) | fail) (by first | rfl | (simp only [c2, b1, b2, hB, decide_true, decide_false] <;> rfl) | fail)) rfl rfl (by first | (simp only [look_lay, look, seval] <;> rfl) | fail) rfl | apply aops_ps (d := 197) (by first | exact ag_f (j := 3) (d := 195) rfl rfl rfl (by first | (simp only [look_lay, look, seval] <;> rfl) | fail) (by first | rfl | (simp only [c2, b1, b2, hB, decide_true, decide_false] <;> rfl) | fail) | exact ag_u (j := 3) (d := 195) rfl rfl rfl (by first | (simp only [look_lay, look, seval] <;> rfl) | fail) | fail) rfl rfl); (first | apply aops_x (d := 198) (ag_b (j := 3) (d := 195) rfl rfl rfl (by first | (simp only [look_lay, look, seval] <;> rfl) | fail) (by first | rfl | (simp only [c2, b1, b2, hB, decide_true, decide_false] <;> rfl) | fail)) rfl (by (simp (disch := first | decide | omega) only [if_pos, nws, c2, b1, b2, hB, go_sem, seval] <;> rfl)) rfl | apply aops_ps (d := 198) (by first | exact ag_f (j := 3) (d := 195) rfl rfl rfl (by first | (simp only [look_lay, look, seval] <;> rfl) | fail) (by first | rfl | (simp only [c2, b1, b2, hB, decide_true, decide_false] <;> rfl) | fail) | exact ag_u (j := 3) (d := 195) rfl rfl rfl (by first | (simp only [look_lay, look, seval] <;> rfl) | fail) | fail) rfl rfl); apply aops_x (d := 199) (ag_n rfl) rfl (by (simp (disch := first | decide | omega) only [if_pos, nws, c2, b1, b2, hB, go_sem, seval] <;> rfl)) rfl; apply aops_end; rfl), (by (simp (disch := omega) only [c2, b1, b2, hB, go_sem, seval, lay, nws]) <;> rfl)⟩) ?_
        refine AWP.normG (s2 := ⟨220, [(0, .c (.sl 0 0 xs.length 1)), (3, .c (ci .i64 (b : Int))), (4, .c (.fn Fc [1])), (18, .c (ci .i64 (mid : Int))), (24, .c (ci .i64 (e : Int)))], [some (.ty IT ys2), some (.raw [.rs HT hs])]⟩) ?_ ?_
        · skip
          refine AWP.cond (b := _) rfl (fun h => ?_) (fun h => ?_) <;> (try simp only [decide_eq_true_eq, decide_eq_false_iff_not] at h)
          · skip
            have hq := t2 h
            have hc := hcS1 (by omega) (by omega)
            refine AWP.rT gok [0, 3, 4, 18, 24] (by apply aops_mv (t := 0) (d := 200) (ag_n rfl) rfl rfl (by first | (simp only [look_lay, look, seval] <;> rfl) | fail) rfl; apply aops_mv (t := 1) (d := 201) (ag_n rfl) rfl rfl (by first | (simp only [look_lay, look, seval] <;> rfl) | fail) rfl; apply aops_mv (t := 20) (d := 202) (ag_n rfl) rfl rfl (by first | (simp only [look_lay, look, seval] <;> rfl) | fail) rfl; apply aops_mv (t := 18) (d := 203) (ag_n rfl) rfl rfl (by first | (simp only [look_lay, look, seval] <;> rfl) | fail) rfl; apply aops_mv (t := 4) (d := 204) (ag_n rfl) rfl rfl (by first | (simp only [look_lay, look, seval] <;> rfl) | fail) rfl; apply aops_x (d := 205) (ag_n rfl) rfl (by (simp (disch := first | decide | omega) only [if_pos, nws, hc, fSym_cast, hys2, g5, go_sem, seval] <;> rfl)) rfl; apply aops_end; rfl) (by (simp (disch := omega) only [go_sem, seval, lay, nws]); rfl) ?_
            exact Ghost.trans (Ghost.trim _ [0, 3, 4, 18, 24] _) (Ghost.of_eq (by (simp (disch := omega) only [go_sem, seval, lay, nws]) <;> rfl))
          · skip
            refine AWP.skip ?_
            have hx := triv2 (by have hq := n2 h; omega)
            exact Ghost.trans (Ghost.trim _ [0, 3, 4, 18, 24] _) (Ghost.of_eq (by rw [hx]; (simp (disch := omega) only [go_sem, seval, lay, nws]) <;> rfl))
        change AWP _ _ _ _ _
        obtain ⟨B3, C3, c3, t3, n3, hcase3⟩ := and_test ((mid : Int) < (e : Int)) ((e : Int) < (b : Int))
        refine AWP.sX gok [0, 3, 4, 18, 24, 213] (s2 := ⟨220, [(0, .c (.sl 0 0 xs.length 1)), (3, .c (ci .i64 (b : Int))), (4, .c (.fn Fc [1])), (18, .c (ci .i64 (mid : Int))), (24, .c (ci .i64 (e : Int))), (213, .c (cb B3))], [some (.ty IT ys2), some (.raw [.rs HT hs])]⟩) (by (rcases hcase3 with ⟨b1, b2, hB, hT⟩ | ⟨b1, b2, hB, hT⟩) <;> refine ⟨_, (by apply aops_mv (t := 18) (d := 206) (ag_n rfl) rfl rfl (by first | (simp only [look_lay, look, seval] <;> rfl) | fail) rfl; apply aops_mv (t := 24) (d := 207) (ag_n rfl) rfl rfl (by first | (simp only [look_lay, look, seval] <;> rfl) | fail) rfl; apply aops_x (d := 208) (ag_n rfl) rfl (by (simp (disch := first | decide | omega) only [if_pos, nws, c3, b1, b2, hB, go_sem, seval] <;> rfl)) rfl; apply aops_mv (t := 208) (d := 209) (ag_n rfl) rfl rfl (by first | (simp only [look_lay, look, seval] <;> rfl) | fail) rfl; (first | apply aops_mv (t := 24) (d := 210) (ag_b (j := 3) (d := 209) rfl rfl rfl (by first | (simp only [look_lay, look, seval] <;> rfl) | fail) (by first | rfl | (simp only [c3, b1, b2, hB, decide_true, decide_false] <;> rfl) | fail)) rfl rfl (by first | (simp only [look_lay, look, seval] <;> rfl) | fail) rfl | apply aops_ps (d := 210) (by first | exact ag_f (j := 3) (d := 209) rfl rfl rfl (by first | (simp only [look_lay, look, seval] <;> rfl) | fail) (by first | rfl | (simp only [c3, b1, b2, hB, decide_true, decide_false] <;> rfl) | fail) | exact ag_u (j := 3) (d := 209) rfl rfl rfl (by first | (simp only [look_lay, look, seval] <;> rfl) | fail) | fail) rfl rfl); (first | apply aops_mv (t := 3) (d := 211) (ag_b (j := 3) (d := 209) rfl rfl rfl (by first | (simp only [look_lay, look, seval] <;> rfl) | fail) (by first | rfl | (simp only [c3, b1, b2, hB, decide_true, decide_false] <;> rfl) | fail)) rfl rfl (by first | (simp only [look_lay, look, seval] <;> rfl) | fail) rfl | apply aops_ps (d := 211) (by first | exact ag_f (j := 3) (d := 209) rfl rfl rfl (by first | (simp only [look_lay, look, seval] <;> rfl) | fail) (by first | rfl | (simp only [c3, b1, b2, hB, decide_true, decide_false] <;> rfl) | fail) | exact ag_u (j := 3) (d := 209) rfl rfl rfl (by first | (simp only [look_lay, look, seval] <;> rfl) | fail) | fail) rfl rfl); (first | apply aops_x (d := 212) (ag_b (j := 3) (d := 209) rfl rfl rfl (by first | (simp only [look_lay, look, seval] <;> rfl) | fail) (by first | rfl | (simp only [c3, b1, b2, hB, decide_true, decide_false] <;> rfl) | fail)) rfl (by (simp (disch := first | decide | omega) only [if_pos, nws, c3, b1, b2, hB, go_sem, seval] <;> rfl)) rfl | apply aops_ps (d := 212) (by first | exact ag_f (j := 3) (d := 209) rfl rfl rfl (by first | (simp only [look_lay, look, seval] <;> rfl) | fail) (by first | rfl | (simp only [c3, b1, b2, hB, decide_true, decide_false] <;> rfl) | fail) | exact ag_u (j := 3) (d := 209) rfl rfl rfl (by first | (simp only [look_lay, look, seval] <;> rfl) | fail) | fail) rfl rfl); apply aops_x (d := 213) (ag_n rfl) rfl (by (simp (disch := first | decide | omega) only [if_pos, nws, c3, b1, b2, hB, go_sem, seval] <;> rfl)) rfl; apply aops_end; rfl), (by (simp (disch := omega) only [c3, b1, b2, hB, go_sem, seval, lay, nws]) <;> rfl)⟩) ?_
        refine AWP.cond (b := _) rfl (fun h => ?_) (fun h => ?_) <;> (try simp only [decide_eq_true_eq, decide_eq_false_iff_not] at h)
        · skip
          have hq := t3 h
          have hc := hcS2 (by omega) (by omega)
          refine AWP.rT gok [] (by apply aops_mv (t := 0) (d := 214) (ag_n rfl) rfl rfl (by first | (simp only [look_lay, look, seval] <;> rfl) | fail) rfl; apply aops_mv (t := 18) (d := 215) (ag_n rfl) rfl rfl (by first | (simp only [look_lay, look, seval] <;> rfl) | fail) rfl; apply aops_mv (t := 24) (d := 216) (ag_n rfl) rfl rfl (by first | (simp only [look_lay, look, seval] <;> rfl) | fail) rfl; apply aops_mv (t := 3) (d := 217) (ag_n rfl) rfl rfl (by first | (simp only [look_lay, look, seval] <;> rfl) | fail) rfl; apply aops_mv (t := 4) (d := 218) (ag_n rfl) rfl rfl (by first | (simp only [look_lay, look, seval] <;> rfl) | fail) rfl; apply aops_x (d := 219) (ag_n rfl) rfl (by (simp (disch := first | decide | omega) only [if_pos, nws, hc, fSym_cast, hfin, l2, go_sem, seval] <;> rfl)) rfl; apply aops_end; rfl) (by (simp (disch := omega) only [go_sem, seval, lay, nws]); rfl) ?_
          refine ⟨.inl rfl, _, (by simp only [go_sem, seval] <;> rfl), ?_⟩
          simp only [go_sem, seval, Option.some.injEq, AV.c.injEq, AV.agg.injEq, CV.v.injEq, Value.int.injEq, Value.bool.injEq, Row.raw.injEq, List.cons.injEq, CV.sl.injEq, and_true, true_and, and_self]
          skip
        · skip
          refine AWP.skip ?_
          refine ⟨.inl rfl, _, (by simp only [go_sem, seval] <;> rfl), ?_⟩
          simp only [go_sem, seval, Option.some.injEq, AV.c.injEq, AV.agg.injEq, CV.v.injEq, Value.int.injEq, Value.bool.injEq, Row.raw.injEq, List.cons.injEq, CV.sl.injEq, and_true, true_and, and_self]
          have hx := triv3 (by have hq := n3 h; omega)
          rw [← hfin, hx]
theorem EsymN_ok (hw : ∀ hs, Weak (ltH hs)) : ∀ N, EntryOk Try.prog 24 (EsymN N)
  | 0 => sortE_ok fun xs hs is hc => by
    match is, hc with
    | [a, m, b], ⟨⟨_, _, _, h⟩, _⟩ => omega
  | N + 1 => sortE_ok fun xs hs is hc => by
    match is, hc with
    | [a, m, b], ⟨⟨⟨ha, h1, h2⟩, h3, h4, h5⟩, ⟨h6, h7⟩, h8, h9⟩ =>
      obtain ⟨a, rfl⟩ := Int.eq_ofNat_of_zero_le ha
      obtain ⟨m, rfl⟩ := Int.eq_ofNat_of_zero_le (show 0 ≤ m by omega)
      obtain ⟨b, rfl⟩ := Int.eq_ofNat_of_zero_le (show 0 ≤ b by omega)
      rw [fSym_cast]
      exact Ksym hw N (EsymN_ok hw N) xs hs a m b (by omega) (by omega) (by omega) h4 (by omega) h6 h7 h8 h9
end Go.Proofs.Ytcnoooodnmjdmaa
