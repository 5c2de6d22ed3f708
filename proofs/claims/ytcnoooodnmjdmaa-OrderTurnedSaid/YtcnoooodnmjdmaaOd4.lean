import Derived.Test.YtcnoooodnmjdmaaOd3
set_option linter.unusedSimpArgs false
set_option linter.unusedVariables false
namespace Go.Proofs.Ytcnoooodnmjdmaa
open Go.RowKit Sorts
/-! Places are sorted by insertion. -/
theorem cmp_lt (hs : List Hd) (a b : Int) : decide (cmpF hs a b < 0) = ltH hs a b := by
  unfold cmpF
  cases h : ltH hs a b
  · rw [if_neg (by simp)]
    split <;> simp
  · simp
theorem ins_test (hs : List Hd) (ys : List Int) (a k : Nat) (hin : ∀ x ∈ ys, inH hs x) (hk : k < ys.length) : ∃ (B B0 : Bool) (u v : Int), decide ((a : Int) < (k : Int)) = B0 ∧ (B = true → a < k ∧ ys[k]? = some u ∧ ys[k - 1]? = some v ∧ ltH hs u v = true) ∧
    (B = false → a < k → ∀ u v, ys[k]? = some u → ys[k - 1]? = some v → ltH hs u v = false) ∧ (((B0 == true) = false ∧ (B0 = true) = False ∧ B = false ∧ True ∧ True ∧ True ∧ True ∧ True ∧ True ∧ True) ∨
      ((B0 == true) = true ∧ (B0 = true) = True ∧ B = ltH hs u v ∧ ys[k]? = some u ∧ ys[k - 1]? = some v ∧ inH hs u ∧ inH hs v ∧ ((k : Int) - 1).toNat = k - 1 ∧ decide (cmpF hs u v < 0) = ltH hs u v ∧ a < k)) := by
  by_cases h : a < k
  · obtain ⟨u, hu⟩ : ∃ u, ys[k]? = some u := ⟨_, List.getElem?_eq_getElem hk⟩
    obtain ⟨v, hv⟩ : ∃ v, ys[k - 1]? = some v := ⟨_, List.getElem?_eq_getElem (by omega)⟩
    refine ⟨ltH hs u v, true, u, v, decide_eq_true (by omega), fun hB => ⟨h, hu, hv, hB⟩, fun hB _ u' v' hu' hv' => ?_, .inr ⟨rfl, by simp, rfl, hu, hv, hin u (List.mem_of_getElem? hu), hin v (List.mem_of_getElem? hv), by omega, cmp_lt _ _ _, h⟩⟩
    rw [hu] at hu'; rw [hv] at hv'; cases hu'; cases hv'; exact hB
  · exact ⟨false, false, 0, 0, decide_eq_false (by omega), fun hB => (by cases hB), fun _ h' => absurd h' h, .inl ⟨rfl, by simp, rfl, trivial, trivial, trivial, trivial, trivial, trivial, trivial⟩⟩
theorem mem_insR {lt : Int → Int → Bool} {xs : List Int} {a b : Nat} {x : Int} (h : x ∈ insR lt xs a b) : x ∈ xs := by
  unfold insR at h
  rcases List.mem_append.1 h with h | h
  · exact List.mem_of_mem_take h
  · rcases List.mem_append.1 h with h | h
    · exact seg_mem (sortF_mem.1 h)
    · exact List.mem_of_mem_drop h
theorem Bump_mem {xs ys : List Int} {m k : Nat} (h : Bump xs m k ys) : ∀ x ∈ ys, x ∈ xs := fun x hx => by
  obtain ⟨i, hi⟩ := List.mem_iff_getElem?.1 hx
  rw [h.2] at hi
  split at hi
  · exact List.mem_of_getElem? hi
  · split at hi
    · exact List.mem_of_getElem? hi
    · split at hi <;> exact List.mem_of_getElem? hi
set_option maxRecDepth 100000
def cIns (xs : List Int) (hs : List Hd) : List Int → Prop
  | [a, b] => (0 ≤ a ∧ a ≤ b) ∧ b ≤ (xs.length : Int) ∧ xs.length ≤ 1000000 ∧ hsOk hs ∧ ∀ x ∈ xs, inH hs x
  | _ => False
instance (xs : List Int) (hs : List Hd) (is : List Int) : Decidable (cIns xs hs is) := by unfold cIns; split <;> infer_instance
def fIns (xs : List Int) (hs : List Hd) : List Int → List Int
  | [a, b] => insR (ltH hs) xs a.toNat b.toNat
  | _ => xs
theorem fIns_cast (xs : List Int) (hs : List Hd) (a b : Nat) : fIns xs hs [(a : Int), (b : Int)] = insR (ltH hs) xs a b := by simp [fIns]
theorem Kins (hw : ∀ hs, Weak (ltH hs)) (xs : List Int) (hs : List Hd) (a b : Nat) (h1 : a ≤ b) (h2 : b ≤ xs.length) (h3 : xs.length ≤ 1000000) (hh : hsOk hs) (hin : ∀ x ∈ xs, inH hs x) :
    CallOk Try.prog 23 [.c (.sl 0 0 xs.length 1), .c (ci .i64 (a : Int)), .c (ci .i64 (b : Int)), .c (.fn Fc [1])] [some (.ty IT xs), some (.raw [.rs HT hs])] (.tup []) [some (.ty IT (insR (ltH hs) xs a b)), some (.raw [.rs HT hs])] := by
  have gok := (Gam.cons_ok Ecmp_ok (Gam.nil_ok _))
  refine callOk' Try.func23 53 [] _ rfl rfl rfl (by kernel_rfl) (by simp) [0, 1] rfl rfl (by simp) ?_
  simp only [params]
  refine AWP.sR gok [0, 1, 2, 3, 8] (by apply aops_mv (t := 1) (d := 10) (ag_n rfl) rfl rfl (by first | (simp only [look_lay, look, seval] <;> rfl) | fail) rfl; apply aops_x (d := 11) (ag_n rfl) rfl (by first | (simp (disch := decide) only [go_sem, seval] <;> rfl) | (simp (disch := first | decide | omega) only [if_pos, nws, go_sem, seval] <;> rfl)) rfl; apply aops_as (t := 11) (d := 8) (ag_n rfl) rfl rfl (by first | (simp only [look_lay, look, seval] <;> rfl) | fail) rfl; apply aops_end; rfl) (by (simp (disch := omega) only [go_sem, seval, lay, nws]); rfl) ?_
  refine AWP.block ?_
  refine AWP.loopP (fun (p : Nat) => ⟨53, [(0, .c (.sl 0 0 xs.length 1)), (1, .c (ci .i64 (a : Int))), (2, .c (ci .i64 (b : Int))), (3, .c (.fn Fc [1])), (8, .c (ci .i64 (p : Int)))], [some (.ty IT (insR (ltH hs) xs a p)), some (.raw [.rs HT hs])]⟩) (fun p => a + 1 ≤ p ∧ (p ≤ b ∨ p = a + 1)) (fun p => b - p) (a + 1) (Ghost.of_eq (by rw [insR_one]; simp only [Int.natCast_add, Int.cast_ofNat_Int] <;> rfl)) ⟨Nat.le_refl _, .inr rfl⟩ ?_
  rintro i ⟨i1, i2⟩
  obtain ⟨D, hD⟩ : ∃ D, insR (ltH hs) xs a i = D := ⟨_, rfl⟩
  rw [hD]
  refine AWP.seq ?_
  refine AWP.sR gok [0, 1, 2, 3, 8, 14] (by apply aops_mv (t := 8) (d := 12) (ag_n rfl) rfl rfl (by first | (simp only [look_lay, look, seval] <;> rfl) | fail) rfl; apply aops_mv (t := 2) (d := 13) (ag_n rfl) rfl rfl (by first | (simp only [look_lay, look, seval] <;> rfl) | fail) rfl; apply aops_x (d := 14) (ag_n rfl) rfl (by first | (simp (disch := decide) only [go_sem, seval] <;> rfl) | (simp (disch := first | decide | omega) only [if_pos, nws, go_sem, seval] <;> rfl)) rfl; apply aops_end; rfl) (by (simp (disch := omega) only [go_sem, seval, lay, nws]); rfl) ?_
  refine AWP.cond (b := _) rfl (fun h => ?_) (fun h => ?_) <;> (try simp only [decide_eq_true_eq, decide_eq_false_iff_not] at h)
  · skip
    refine AWP.skip ?_
    change AWP _ _ _ _ _
    refine AWP.seqBlock ?_
    refine AWP.sR gok [0, 1, 2, 3, 8, 9] (by apply aops_mv (t := 8) (d := 17) (ag_n rfl) rfl rfl (by first | (simp only [look_lay, look, seval] <;> rfl) | fail) rfl; apply aops_as (t := 17) (d := 9) (ag_n rfl) rfl rfl (by first | (simp only [look_lay, look, seval] <;> rfl) | fail) rfl; apply aops_end; rfl) (by (simp (disch := omega) only [go_sem, seval, lay, nws]); rfl) ?_
    refine AWP.block ?_
    have hil : i < xs.length := by omega
    have hDl : D.length = xs.length := by rw [← hD]; exact insR_len (by omega) (by omega)
    have hDin : ∀ x ∈ D, inH hs x := fun x hx => hin x (mem_insR (by rw [hD]; exact hx))
    obtain ⟨y, hy⟩ : ∃ y, xs[i]? = some y := ⟨_, List.getElem?_eq_getElem hil⟩
    have hDy : D[i]? = some y := by rw [← hD, insR_at (by omega) hil, hy]
    refine AWP.loopP (fun (p : Nat × List Int) => ⟨53, [(0, .c (.sl 0 0 xs.length 1)), (1, .c (ci .i64 (a : Int))), (2, .c (ci .i64 (b : Int))), (3, .c (.fn Fc [1])), (8, .c (ci .i64 (i : Int))), (9, .c (ci .i64 (p.1 : Int)))], [some (.ty IT p.2), some (.raw [.rs HT hs])]⟩) (fun p => (a ≤ p.1 ∧ p.1 ≤ i) ∧ Bump D i p.1 p.2 ∧ (p.1 < i → ∀ z, D[p.1]? = some z → ltH hs y z = true)) (fun p => p.1) (i, D) (Ghost.refl _ _) ⟨⟨by simp only; omega, Nat.le_refl _⟩, Bump.start D i, fun h => absurd h (Nat.lt_irrefl _)⟩ ?_
    rintro ⟨k, ys⟩ ⟨⟨j1, j2⟩, j3, j4⟩
    simp only at j1 j2 j3 j4 ⊢
    have hyl : ys.length = xs.length := j3.1.trans hDl
    obtain ⟨B, B0, u, v, hqd, hBt, hBf, hcase⟩ := ins_test hs ys a k (fun x hx => hDin x (Bump_mem j3 x hx)) (by omega)
    refine AWP.seq ?_
    refine AWP.sDG gok (by kernel_rfl) [⟨[], true, 0⟩, ⟨[], true, 0⟩, ⟨[], true, 0⟩, ⟨[], true, 0⟩, ⟨[], true, 0⟩, ⟨[], true, 0⟩, ⟨[], true, 0⟩, ⟨[], true, 0⟩, ⟨[0], true, 0⟩, ⟨[], true, 0⟩, ⟨[], true, 0⟩, ⟨[], true, 0⟩, ⟨[], true, 0⟩, ⟨[0], true, 0⟩, ⟨[1], true, 0⟩, ⟨[], true, 0⟩, ⟨[], true, 0⟩] (by kernel_rfl) (by first | rfl | simp only [go_sem, ↓reduceIte, Nat.reduceLT, Nat.reduceAdd]) (by first | rfl | simp only [go_sem, ↓reduceIte, Nat.reduceLT, Nat.reduceAdd]) (s2 := ⟨53, [(0, .c (.sl 0 0 xs.length 1)), (1, .c (ci .i64 (a : Int))), (2, .c (ci .i64 (b : Int))), (3, .c (.fn Fc [1])), (8, .c (ci .i64 (i : Int))), (9, .c (ci .i64 (k : Int))), (34, .c (cb B))], [some (.ty IT ys), some (.raw [.rs HT hs])]⟩) (by (rcases hcase with ⟨hb1, hb2, hB, hu, hv, hiu, hiv, e1, hcm, hak⟩ | ⟨hb1, hb2, hB, hu, hv, hiu, hiv, e1, hcm, hak⟩) <;> refine ⟨_, (by (repeat (first | apply arun_step (by first | exact ag_n rfl | exact ag_b rfl rfl rfl (by first | (simp only [look_lay, look, seval] <;> rfl) | fail) (by first | rfl | (simp only [hqd, hb1, hb2, hB, hu, hv, hiu, hiv, e1, hcm, hyl, hh, decide_true, decide_false] <;> rfl) | fail) | fail) (by first | (simp (disch := decide) only [hqd, hb1, hb2, hB, hu, hv, hiu, hiv, e1, hcm, hyl, hh, go_sem, seval]; rfl) | (simp (disch := first | decide | omega) only [if_pos, nws, hqd, hb1, hb2, hB, hu, hv, hiu, hiv, e1, hcm, hyl, hh, go_sem, seval]; rfl)) (by first | (intro h; cases h; done) | (intro _; rfl) | (intro _; simp only [go_sem, seval, lay])) (by first | rfl | simp only [go_sem, seval, lay]) (by first | rfl | simp only [go_sem, seval, lay]) (by first | rfl | simp only [go_sem, seval, lay]) (by simp only [go_sem, seval, lay]; rfl) | apply arun_pass (by first | exact ag_f rfl rfl rfl (by first | (simp only [look_lay, look, seval] <;> rfl) | fail) (by first | rfl | (simp only [hqd, hb1, hb2, hB, hu, hv, hiu, hiv, e1, hcm, hyl, hh, decide_true, decide_false] <;> rfl) | fail) | exact ag_u rfl rfl rfl (by first | (simp only [look_lay, look, seval] <;> rfl) | fail) | fail) rfl (by simp only [go_sem, seval, lay]; rfl))); exact rfl), (Ghost.trans (Ghost.trim _ [0, 1, 2, 3, 8, 9, 34] _) (Ghost.of_eq (by first | ((simp (disch := first | decide | omega) only [hqd, hb1, hb2, hB, hu, hv, hiu, hiv, e1, hcm, hyl, hh, go_sem, seval, lay, nws]) <;> with_reducible rfl) | with_reducible rfl | rfl)))⟩) ?_
    refine AWP.cond (b := _) rfl (fun h => ?_) (fun h => ?_) <;> (try simp only [decide_eq_true_eq, decide_eq_false_iff_not] at h)
    · skip
      refine AWP.skip ?_
      change AWP _ _ _ _ _
      refine AWP.seqBlock ?_
      obtain ⟨hak, hu, hv, hltv⟩ := hBt h
      have e1 : ((k : Int) - 1).toNat = k - 1 := by omega
      have hset : (ys.set k v)[k - 1]? = some v := by rw [List.getElem?_set_ne (by omega)]; exact hv
      have hat := j3.at (show 0 < k by omega)
      have huy : u = y := by have := hat.1; rw [hu, hDy] at this; cases this; rfl
      have hvD : D[k - 1]? = some v := by rw [← hat.2]; exact hv
      have hnx := j3.next (show 0 < k by omega) j2 (by omega) hDy hvD
      subst huy
      refine AWP.dT gok (by kernel_rfl) [0, 1, 2, 3, 8, 9] [⟨[], true, 0⟩, ⟨[], true, 0⟩, ⟨[], true, 0⟩, ⟨[], true, 0⟩, ⟨[], true, 0⟩, ⟨[], true, 0⟩, ⟨[], true, 0⟩, ⟨[], true, 0⟩, ⟨[], true, 0⟩, ⟨[0], true, 0⟩, ⟨[], true, 0⟩, ⟨[], true, 0⟩, ⟨[], true, 0⟩, ⟨[0], true, 0⟩, ⟨[], true, 0⟩, ⟨[0], false, 0⟩, ⟨[], true, 0⟩, ⟨[0], false, 0⟩] (by kernel_rfl) (by first | rfl | simp only [go_sem, ↓reduceIte, Nat.reduceLT, Nat.reduceAdd]) (by first | rfl | simp only [go_sem, ↓reduceIte, Nat.reduceLT, Nat.reduceAdd]) (by (repeat (first | apply arun_step (by first | exact ag_n rfl | exact ag_b rfl rfl rfl (by first | (simp only [look_lay, look, seval] <;> rfl) | fail) (by first | rfl | (simp only [hu, hv, e1, hset, hyl, List.length_set, decide_true, decide_false] <;> rfl) | fail) | fail) (by first | (simp (disch := decide) only [hu, hv, e1, hset, hyl, List.length_set, go_sem, seval]; rfl) | (simp (disch := first | decide | omega) only [if_pos, nws, hu, hv, e1, hset, hyl, List.length_set, go_sem, seval]; rfl)) (by first | (intro h; cases h; done) | (intro _; rfl) | (intro _; simp only [go_sem, seval, lay])) (by first | rfl | simp only [go_sem, seval, lay]) (by first | rfl | simp only [go_sem, seval, lay]) (by first | rfl | simp only [go_sem, seval, lay]) (by simp only [go_sem, seval, lay]; rfl) | apply arun_pass (by first | exact ag_f rfl rfl rfl (by first | (simp only [look_lay, look, seval] <;> rfl) | fail) (by first | rfl | (simp only [hu, hv, e1, hset, hyl, List.length_set, decide_true, decide_false] <;> rfl) | fail) | exact ag_u rfl rfl rfl (by first | (simp only [look_lay, look, seval] <;> rfl) | fail) | fail) rfl (by simp only [go_sem, seval, lay]; rfl))); exact rfl) (by (simp (disch := omega) only [go_sem, seval, lay, nws]); rfl) ?_
      change AWP _ _ _ _ _
      refine AWP.rT gok [0, 1, 2, 3, 8, 9] (by apply aops_mv (t := 9) (d := 35) (ag_n rfl) rfl rfl (by first | (simp only [look_lay, look, seval] <;> rfl) | fail) rfl; apply aops_x (d := 36) (ag_n rfl) rfl (by first | (simp (disch := decide) only [go_sem, seval] <;> rfl) | (simp (disch := first | decide | omega) only [if_pos, nws, go_sem, seval] <;> rfl)) rfl; apply aops_as (t := 36) (d := 9) (ag_n rfl) rfl rfl (by first | (simp only [look_lay, look, seval] <;> rfl) | fail) rfl; apply aops_end; rfl) (by (simp (disch := omega) only [go_sem, seval, lay, nws]); rfl) ?_
      exact ⟨(k - 1, (ys.set k v).set (k - 1) u), Ghost.of_eq (by rw [show ((k - 1 : Nat) : Int) = (k : Int) - 1 by omega] <;> rfl), ⟨⟨by simp only; omega, by simp only; omega⟩, hnx, fun _ z hz => by rw [hvD] at hz; cases hz; exact hltv⟩, by simp only; omega⟩
    · skip
      refine AWP.exit ?_
      change AWP _ _ _ _ _
      have hst := insR_step (hw hs) j1 j2 hil hy (by rw [hD]; exact j3) (fun hak z hz => hBf h hak y z (by rw [(j3.at (by omega)).1]; exact hDy) (by rw [(j3.at (by omega)).2, ← hD]; exact hz)) (fun hki z hz => j4 hki z (by rw [← hD]; exact hz))
      refine AWP.rT gok [0, 1, 2, 3, 8] (by apply aops_mv (t := 8) (d := 15) (ag_n rfl) rfl rfl (by first | (simp only [look_lay, look, seval] <;> rfl) | fail) rfl; apply aops_x (d := 16) (ag_n rfl) rfl (by first | (simp (disch := decide) only [go_sem, seval] <;> rfl) | (simp (disch := first | decide | omega) only [if_pos, nws, go_sem, seval] <;> rfl)) rfl; apply aops_as (t := 16) (d := 8) (ag_n rfl) rfl rfl (by first | (simp only [look_lay, look, seval] <;> rfl) | fail) rfl; apply aops_end; rfl) (by (simp (disch := omega) only [go_sem, seval, lay, nws]); rfl) ?_
      exact ⟨i + 1, Ghost.of_eq (by rw [← hst]; simp only [Int.natCast_add, Int.cast_ofNat_Int] <;> rfl), ⟨by omega, by omega⟩, by omega⟩
  · skip
    refine AWP.exit ?_
    refine ⟨.inl rfl, _, (by simp only [go_sem, seval] <;> rfl), ?_⟩
    simp only [go_sem, seval, Option.some.injEq, AV.c.injEq, AV.agg.injEq, CV.v.injEq, Value.int.injEq, Value.bool.injEq, Row.raw.injEq, List.cons.injEq, CV.sl.injEq, and_true, true_and, and_self]
    by_cases e : i = b
    · subst e; rw [← hD]
    · obtain rfl : a = b := by omega
      obtain rfl : i = a + 1 := by omega
      rw [← hD, insR_one, insR_none]
def Eins : Entry := sortE cIns fIns
theorem Eins_ok (hw : ∀ hs, Weak (ltH hs)) : EntryOk Try.prog 23 Eins := sortE_ok fun xs hs is hc => by
  match is, hc with
  | [a, b], ⟨⟨ha, h1⟩, h2, h3, h4, h5⟩ =>
    obtain ⟨a, rfl⟩ := Int.eq_ofNat_of_zero_le ha
    obtain ⟨b, rfl⟩ := Int.eq_ofNat_of_zero_le (show 0 ≤ b by omega)
    rw [fIns_cast]
    exact Kins hw xs hs a b (by omega) (by omega) h3 h4 h5
attribute [go_sem] Eins
end Go.Proofs.Ytcnoooodnmjdmaa
