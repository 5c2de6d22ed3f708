import Derived.Test.YtonhglodnmoadaaHt7
set_option linter.unusedSimpArgs false
set_option linter.unusedVariables false
namespace Go.Proofs.Ytonhglodnmoadaa
open Go.RowKit
set_option maxRecDepth 100000
def E3 : Entry := fun args H => match args with
  | [x, .c (.fn g [b])] => match fnRow H b with
    | some (g1, k) => match view (dead [b, k] H) (.sl enT) x, rowAs opT H k with
      | some l, some [o] => if g = Fe ∧ g1 = Fd ∧ b ≠ k ∧ l.length ≤ 100000 then some (.c (ci .i64 (fidx (dp o) l)), patch (ats [b, k] H.length) [b, k] [some (.raw [.fn Fd [1]]), some (.ty opT [o])] H) else none
      | _, _ => none
    | none => none
  | _ => none
theorem E3_ok : EntryOk Try.prog 59 E3 := fun args H r H' h => by
  unfold E3 at h
  split at h
  · rename_i x g b
    split at h
    · rename_i g1 k hf
      split at h
      · rename_i l o hv hr
        split at h
        · rename_i hc
          obtain ⟨rfl, rfl, hne, hl⟩ := hc
          cases h
          have h1 := rowAs_some hr
          have h2 := fnRow_some hf
          exact frameOk (C := H) [b, k] (K3 l o hl) rfl (by simp) (by simp [nodupB, hne]) (by simp [lt_of h1, lt_of h2]) (fun i q hq => by
            match i, hq with
            | 0, hq => cases hq; simpa [ats, Row.mapId, CV.mapId] using h2
            | 1, hq => cases hq; simpa [ats, Row.mapId] using h1) rfl (fun i y hy => by
            match i, hy with
            | 0, hy => cases hy; exact ⟨_, rfl, .inr ⟨.sl enT, l, hv, rfl⟩⟩
            | 1, hy => cases hy; exact ⟨_, rfl, .inl (by simp [AV.map1, CV.mapId, ats])⟩) rfl (fun q hq => by simp at hq; rcases hq with rfl | rfl <;> rfl)
        · cases h
      · cases h
    · cases h
  · cases h
attribute [go_sem] E3
abbrev keep (o : Int × Int) (l : List ((Int × Int) × Int)) : List ((Int × Int) × Int) := l.filter fun e => !dp o e
theorem fidx_cases (o : Int × Int) (l : List ((Int × Int) × Int)) : (fidx (dp o) l = -1 ∧ keep o l = l) ∨ ∃ i : Nat, fidx (dp o) l = (i : Int) ∧ i < l.length ∧ keep o (l.take (i + 1)) = l.take i := by
  unfold fidx
  split
  · rename_i h
    right
    refine ⟨_, rfl, h, ?_⟩
    have h2 := List.findIdx_getElem (xs := l) (p := dp o) (w := h)
    rw [List.take_add_one, List.getElem?_eq_getElem h]
    show List.filter _ (_ ++ [_]) = _
    rw [List.filter_append, List.filter_cons, h2]
    simp only [Bool.not_true, Bool.false_eq_true, if_false, List.filter_nil, List.append_nil]
    rw [List.filter_eq_self]
    intro x hx
    obtain ⟨j, hj, rfl⟩ := List.getElem_of_mem hx
    rw [List.length_take] at hj
    rw [List.getElem_take]
    have := List.not_of_lt_findIdx (xs := l) (p := dp o) (i := j) (by omega)
    simp [this]
  · rename_i h
    left
    refine ⟨rfl, ?_⟩
    rw [List.filter_eq_self]
    intro x hx
    cases hb : dp o x
    · rfl
    · exact (h (List.findIdx_lt_length_of_exists ⟨x, hx, hb⟩)).elim
theorem keep_step {o : Int × Int} {l : List ((Int × Int) × Int)} {j : Nat} {e : (Int × Int) × Int} (he : l[j]? = some e) : keep o (l.take (j + 1)) = keep o (l.take j) ++ (if dp o e = true then [] else [e]) := by
  rw [List.take_add_one, he]
  show List.filter _ (_ ++ [_]) = _
  rw [List.filter_append, List.filter_cons]
  cases hb : dp o e <;> simp
theorem set_take {α : Type} {xs : List α} {u : Nat} {e : α} (hu : u < xs.length) : (xs.set u e).take (u + 1) = xs.take u ++ [e] := by
  rw [List.take_add_one, List.getElem?_set_self hu]
  congr 1
  refine List.ext_getElem? fun i => ?_
  rw [List.getElem?_take, List.getElem?_take]
  split
  · rw [List.getElem?_set_ne (by omega)]
  · rfl
theorem set_drop {α : Type} {xs : List α} {u k : Nat} {e : α} (hu : u < k) : (xs.set u e).drop k = xs.drop k := by
  refine List.ext_getElem? fun i => ?_
  rw [List.getElem?_drop, List.getElem?_drop, List.getElem?_set_ne (by omega)]
theorem drop_succ {α : Type} {xs l : List α} {j : Nat} (h : xs.drop j = l.drop j) : xs.drop (j + 1) = l.drop (j + 1) := by
  rw [← List.tail_drop, ← List.tail_drop, h]
theorem keep_le (o : Int × Int) (l : List ((Int × Int) × Int)) : (keep o l).length ≤ l.length := List.length_filter_le _ _
theorem K4 (l : List ((Int × Int) × Int)) (o : Int × Int) (hl : l.length ≤ 100000) : CallOk Try.prog 49 [.c (.sl 0 0 l.length 3), .c (.fn Fe [1])] [some (.ty enT l), some (.raw [.fn Fd [2]]), some (.ty opT [o])] (.c (.sl 0 0 (keep o l).length 3)) [some (.ty enT (keep o l)), some (.raw [.fn Fd [2]]), some (.ty opT [o])] := by
  have gok := Gam.cons_ok (f := 59) E3_ok (Gam.cons_ok (f := Fe) E2_ok (Gam.nil_ok Try.prog))
  rcases fidx_cases o l with ⟨hi, hk⟩ | ⟨i, hi, hil, hk⟩
  · skip
    refine callOk' Try.func49 42 [.tmp 4] _ rfl rfl rfl (by kernel_rfl) (by simp) [0, 1, 2] rfl rfl (by simp) ?_
    simp only [params]
    refine AWP.sR gok [0, 1] (by apply aops_x (d := 4) (ag_n rfl) rfl (by first | (simp (disch := decide) only [go_sem, seval] <;> rfl) | (simp (disch := first | decide | omega) only [if_pos, nws, go_sem, seval] <;> rfl)) rfl; apply aops_end; rfl) (by (simp (disch := omega) only [go_sem, seval, lay, nws]); rfl) ?_
    refine AWP.sR gok [0, 1, 5] (by apply aops_mv (t := 0) (d := 8) (ag_n rfl) rfl rfl (by first | (simp only [look_lay, look, seval] <;> rfl) | fail) rfl; apply aops_mv (t := 1) (d := 9) (ag_n rfl) rfl rfl (by first | (simp only [look_lay, look, seval] <;> rfl) | fail) rfl; apply aops_x (d := 10) (ag_n rfl) rfl (by (simp (disch := first | decide | omega) only [if_pos, nws, hl, hi, ne_eq, reduceCtorEq, go_sem, seval] <;> rfl)) rfl; apply aops_as (t := 10) (d := 5) (ag_n rfl) rfl rfl (by first | (simp only [look_lay, look, seval] <;> rfl) | fail) rfl; apply aops_end; rfl) (by (simp (disch := omega) only [go_sem, seval, lay, nws]); rfl) ?_
    refine AWP.seq ?_
    refine AWP.sR gok [0, 1, 5, 12] (by apply aops_mv (t := 5) (d := 11) (ag_n rfl) rfl rfl (by first | (simp only [look_lay, look, seval] <;> rfl) | fail) rfl; apply aops_x (d := 12) (ag_n rfl) rfl (by first | (simp (disch := decide) only [go_sem, seval] <;> rfl) | (simp (disch := first | decide | omega) only [if_pos, nws, go_sem, seval] <;> rfl)) rfl; apply aops_end; rfl) (by (simp (disch := omega) only [go_sem, seval, lay, nws]); rfl) ?_
    refine AWP.condT (b := _) rfl (by first | rfl | (simp only [decide_eq_true_eq, decide_eq_false_iff_not]; omega)) ?_
    refine AWP.sR gok [4] (by apply aops_mv (t := 0) (d := 13) (ag_n rfl) rfl rfl (by first | (simp only [look_lay, look, seval] <;> rfl) | fail) rfl; apply aops_as (t := 13) (d := 4) (ag_n rfl) rfl rfl (by first | (simp only [look_lay, look, seval] <;> rfl) | fail) rfl; apply aops_end; rfl) (by (simp (disch := omega) only [go_sem, seval, lay, nws]); rfl) ?_
    refine AWP.ret ?_
    refine ⟨.inr rfl, _, (by simp only [go_sem, seval] <;> rfl), ?_⟩
    simp only [go_sem, seval, Option.some.injEq, AV.c.injEq, AV.agg.injEq, CV.v.injEq, Value.int.injEq, Value.bool.injEq, Row.raw.injEq, List.cons.injEq, CV.sl.injEq, and_true, true_and, and_self]
    rw [hk]; exact ⟨rfl, rfl⟩
  · skip
    refine callOk' Try.func49 42 [.tmp 4] _ rfl rfl rfl (by kernel_rfl) (by simp) [0, 1, 2] rfl rfl (by simp) ?_
    simp only [params]
    refine AWP.sR gok [0, 1] (by apply aops_x (d := 4) (ag_n rfl) rfl (by first | (simp (disch := decide) only [go_sem, seval] <;> rfl) | (simp (disch := first | decide | omega) only [if_pos, nws, go_sem, seval] <;> rfl)) rfl; apply aops_end; rfl) (by (simp (disch := omega) only [go_sem, seval, lay, nws]); rfl) ?_
    refine AWP.sR gok [0, 1, 5] (by apply aops_mv (t := 0) (d := 8) (ag_n rfl) rfl rfl (by first | (simp only [look_lay, look, seval] <;> rfl) | fail) rfl; apply aops_mv (t := 1) (d := 9) (ag_n rfl) rfl rfl (by first | (simp only [look_lay, look, seval] <;> rfl) | fail) rfl; apply aops_x (d := 10) (ag_n rfl) rfl (by (simp (disch := first | decide | omega) only [if_pos, nws, hl, hi, go_sem, seval] <;> rfl)) rfl; apply aops_as (t := 10) (d := 5) (ag_n rfl) rfl rfl (by first | (simp only [look_lay, look, seval] <;> rfl) | fail) rfl; apply aops_end; rfl) (by (simp (disch := omega) only [go_sem, seval, lay, nws]); rfl) ?_
    refine AWP.seq ?_
    refine AWP.sR gok [0, 1, 5, 12] (by apply aops_mv (t := 5) (d := 11) (ag_n rfl) rfl rfl (by first | (simp only [look_lay, look, seval] <;> rfl) | fail) rfl; apply aops_x (d := 12) (ag_n rfl) rfl (by first | (simp (disch := decide) only [go_sem, seval] <;> rfl) | (simp (disch := first | decide | omega) only [if_pos, nws, go_sem, seval] <;> rfl)) rfl; apply aops_end; rfl) (by (simp (disch := omega) only [go_sem, seval, lay, nws]); rfl) ?_
    refine AWP.condF (b := _) rfl (by first | rfl | (simp only [decide_eq_true_eq, decide_eq_false_iff_not]; omega)) ?_
    refine AWP.skip ?_
    change AWP _ _ _ _ _
    refine AWP.seq ?_
    refine AWP.sR gok [0, 1, 5, 6] (by apply aops_mv (t := 5) (d := 14) (ag_n rfl) rfl rfl (by first | (simp only [look_lay, look, seval] <;> rfl) | fail) rfl; apply aops_x (d := 15) (ag_n rfl) rfl (by first | (simp (disch := decide) only [go_sem, seval] <;> rfl) | (simp (disch := first | decide | omega) only [if_pos, nws, go_sem, seval] <;> rfl)) rfl; apply aops_as (t := 15) (d := 6) (ag_n rfl) rfl rfl (by first | (simp only [look_lay, look, seval] <;> rfl) | fail) rfl; apply aops_end; rfl) (by (simp (disch := omega) only [go_sem, seval, lay, nws]); rfl) ?_
    refine AWP.block ?_
    refine AWP.loopP (fun (p : Nat × Nat × List ((Int × Int) × Int)) => ⟨42, [(0, .c (.sl 0 0 l.length 3)), (1, .c (.fn Fe [1])), (5, .c (ci .i64 (p.1 : Int))), (6, .c (ci .i64 (p.2.1 : Int)))], [some (.ty enT p.2.2), some (.raw [.fn Fd [2]]), some (.ty opT [o])]⟩) (fun p => (p.2.1 ≤ l.length ∧ p.1 < p.2.1 ∧ p.2.2.length = l.length) ∧ p.2.2.take p.1 = keep o (l.take p.2.1) ∧ p.2.2.drop p.2.1 = l.drop p.2.1) (fun p => l.length - p.2.1) (i, i + 1, l) (Ghost.refl _ _) ⟨⟨hil, Nat.lt_succ_self i, rfl⟩, hk.symm, rfl⟩ ?_
    rintro ⟨u, j, xs⟩ ⟨⟨i1, i2, i3⟩, i4, i5⟩
    simp only at i1 i2 i3 i4 i5 ⊢
    refine AWP.seq ?_
    refine AWP.sR gok [0, 1, 5, 6, 19] (by apply aops_mv (t := 6) (d := 16) (ag_n rfl) rfl rfl (by first | (simp only [look_lay, look, seval] <;> rfl) | fail) rfl; apply aops_mv (t := 0) (d := 17) (ag_n rfl) rfl rfl (by first | (simp only [look_lay, look, seval] <;> rfl) | fail) rfl; apply aops_x (d := 18) (ag_n rfl) rfl (by first | (simp (disch := decide) only [i3, go_sem, seval] <;> rfl) | (simp (disch := first | decide | omega) only [if_pos, nws, i3, go_sem, seval] <;> rfl)) rfl; apply aops_x (d := 19) (ag_n rfl) rfl (by first | (simp (disch := decide) only [i3, go_sem, seval] <;> rfl) | (simp (disch := first | decide | omega) only [if_pos, nws, i3, go_sem, seval] <;> rfl)) rfl; apply aops_end; rfl) (by (simp (disch := omega) only [go_sem, seval, lay, nws]); rfl) ?_
    refine AWP.cond (b := _) rfl (fun h => ?_) (fun h => ?_) <;> (try simp only [decide_eq_true_eq, decide_eq_false_iff_not] at h)
    · skip
      refine AWP.skip ?_
      change AWP _ _ _ _ _
      refine AWP.seqBlock ?_
      have hj : j < l.length := by omega
      obtain ⟨e, he⟩ : ∃ e, l[j]? = some e := ⟨_, List.getElem?_eq_getElem hj⟩
      have hex : xs[j]? = some e := by
        have : (xs.drop j)[0]? = some e := by rw [i5, List.getElem?_drop, Nat.add_zero, he]
        rwa [List.getElem?_drop, Nat.add_zero] at this
      have hks := keep_step (o := o) he
      refine AWP.sR gok [0, 1, 5, 6, 7] (by apply aops_mv (t := 0) (d := 22) (ag_n rfl) rfl rfl (by first | (simp only [look_lay, look, seval] <;> rfl) | fail) rfl; apply aops_mv (t := 6) (d := 23) (ag_n rfl) rfl rfl (by first | (simp only [look_lay, look, seval] <;> rfl) | fail) rfl; apply aops_x (d := 24) (ag_n rfl) rfl (by (simp (disch := first | decide | omega) only [if_pos, nws, hex, i3, go_sem, seval] <;> rfl)) rfl; apply aops_x (d := 25) (ag_n rfl) rfl (by first | (simp (disch := decide) only [hex, i3, go_sem, seval] <;> rfl) | (simp (disch := first | decide | omega) only [if_pos, nws, hex, i3, go_sem, seval] <;> rfl)) rfl; apply aops_x (d := 7) (ag_n rfl) rfl (by first | (simp (disch := decide) only [hex, i3, go_sem, seval] <;> rfl) | (simp (disch := first | decide | omega) only [if_pos, nws, hex, i3, go_sem, seval] <;> rfl)) rfl; apply aops_s (ag_n rfl) rfl (by first | (simp (disch := decide) only [hex, i3, go_sem, seval] <;> rfl) | (simp (disch := first | decide | omega) only [if_pos, nws, hex, i3, go_sem, seval] <;> rfl)); apply aops_end; rfl) (by (simp (disch := omega) only [go_sem, seval, lay, nws]); rfl) ?_
      refine AWP.sR gok [0, 1, 5, 6, 7, 29] (by apply aops_mv (t := 1) (d := 26) (ag_n rfl) rfl rfl (by first | (simp only [look_lay, look, seval] <;> rfl) | fail) rfl; apply aops_x (d := 27) (ag_n rfl) rfl (by first | (simp (disch := decide) only [i3, go_sem, seval] <;> rfl) | (simp (disch := first | decide | omega) only [if_pos, nws, i3, go_sem, seval] <;> rfl)) rfl; apply aops_x (d := 28) (ag_n rfl) rfl (by (simp (disch := first | decide | omega) only [if_pos, nws, i3, go_sem, seval] <;> rfl)) rfl; apply aops_x (d := 29) (ag_n rfl) rfl (by first | (simp (disch := decide) only [i3, go_sem, seval] <;> rfl) | (simp (disch := first | decide | omega) only [if_pos, nws, i3, go_sem, seval] <;> rfl)) rfl; apply aops_end; rfl) (by (simp (disch := omega) only [go_sem, seval, lay, nws]); rfl) ?_
      refine AWP.cond (b := _) rfl (fun h => ?_) (fun h => ?_) <;> (try simp only [decide_eq_true_eq, decide_eq_false_iff_not] at h)
      · skip
        have hux : u < xs.length := by omega
        have hn3 : ¬ 3 = l.length * 3 := by omega
        refine AWP.sR gok [0, 1, 5, 6] (by apply aops_mv (t := 0) (d := 30) (ag_n rfl) rfl rfl (by first | (simp only [look_lay, look, seval] <;> rfl) | fail) rfl; apply aops_mv (t := 5) (d := 31) (ag_n rfl) rfl rfl (by first | (simp only [look_lay, look, seval] <;> rfl) | fail) rfl; apply aops_x (d := 32) (ag_n rfl) rfl (by first | (simp (disch := decide) only [i3, hn3, and_false, go_sem, seval] <;> rfl) | (simp (disch := first | decide | omega) only [if_pos, nws, i3, hn3, and_false, go_sem, seval] <;> rfl)) rfl; apply aops_x (d := 33) (ag_n rfl) rfl (by (simp (disch := first | decide | omega) only [if_pos, nws, i3, hn3, and_false, go_sem, seval] <;> rfl)) rfl; apply aops_s (ag_n rfl) rfl (by first | (simp (disch := decide) only [i3, hn3, and_false, go_sem, seval] <;> rfl) | (simp (disch := first | decide | omega) only [if_pos, nws, i3, hn3, and_false, go_sem, seval] <;> rfl)); apply aops_end; rfl) (by (simp (disch := omega) only [go_sem, seval, lay, nws]); rfl) ?_
        refine AWP.rT gok [0, 1, 5, 6] (by apply aops_mv (t := 5) (d := 34) (ag_n rfl) rfl rfl (by first | (simp only [look_lay, look, seval] <;> rfl) | fail) rfl; apply aops_x (d := 35) (ag_n rfl) rfl (by first | (simp (disch := decide) only [go_sem, seval] <;> rfl) | (simp (disch := first | decide | omega) only [if_pos, nws, go_sem, seval] <;> rfl)) rfl; apply aops_as (t := 35) (d := 5) (ag_n rfl) rfl rfl (by first | (simp only [look_lay, look, seval] <;> rfl) | fail) rfl; apply aops_end; rfl) (by (simp (disch := omega) only [go_sem, seval, lay, nws]); rfl) ?_
        change AWP _ _ _ _ _
        refine AWP.rT gok [0, 1, 5, 6] (by apply aops_mv (t := 6) (d := 20) (ag_n rfl) rfl rfl (by first | (simp only [look_lay, look, seval] <;> rfl) | fail) rfl; apply aops_x (d := 21) (ag_n rfl) rfl (by first | (simp (disch := decide) only [go_sem, seval] <;> rfl) | (simp (disch := first | decide | omega) only [if_pos, nws, go_sem, seval] <;> rfl)) rfl; apply aops_as (t := 21) (d := 6) (ag_n rfl) rfl rfl (by first | (simp only [look_lay, look, seval] <;> rfl) | fail) rfl; apply aops_end; rfl) (by (simp (disch := omega) only [go_sem, seval, lay, nws]); rfl) ?_
        first
        | rw [if_neg (show ¬ dp o e = true from by intro hh; rw [show dropP o.2 e.1.1 = true from hh] at h; cases h)] at hks
          exact ⟨(u + 1, j + 1, xs.set u e), (Ghost.trans (Ghost.gc (ρ := [0, 1, 2]) (by simp only [go_sem, seval] <;> rfl) rfl rfl rfl) (Ghost.of_eq (by simp only [Int.natCast_add, Int.cast_ofNat_Int] <;> rfl))), ⟨⟨by simp only; omega, by simp only; omega, by simp only [List.length_set]; exact i3⟩, by simp only; rw [set_take hux, i4, hks], by simp only; rw [set_drop (by omega)]; exact drop_succ i5⟩, by simp only; omega⟩
        | rw [if_pos (show dp o e = true from by show dropP o.2 e.1.1 = true; simpa using h), List.append_nil] at hks
          exact ⟨(u, j + 1, xs), (Ghost.trans (Ghost.gc (ρ := [0, 1, 2]) (by simp only [go_sem, seval] <;> rfl) rfl rfl rfl) (Ghost.of_eq (by simp only [Int.natCast_add, Int.cast_ofNat_Int] <;> rfl))), ⟨⟨by simp only; omega, by simp only; omega, i3⟩, by simp only; rw [i4, hks], drop_succ i5⟩, by simp only; omega⟩
      · skip
        refine AWP.skip ?_
        change AWP _ _ _ _ _
        refine AWP.rT gok [0, 1, 5, 6] (by apply aops_mv (t := 6) (d := 20) (ag_n rfl) rfl rfl (by first | (simp only [look_lay, look, seval] <;> rfl) | fail) rfl; apply aops_x (d := 21) (ag_n rfl) rfl (by first | (simp (disch := decide) only [go_sem, seval] <;> rfl) | (simp (disch := first | decide | omega) only [if_pos, nws, go_sem, seval] <;> rfl)) rfl; apply aops_as (t := 21) (d := 6) (ag_n rfl) rfl rfl (by first | (simp only [look_lay, look, seval] <;> rfl) | fail) rfl; apply aops_end; rfl) (by (simp (disch := omega) only [go_sem, seval, lay, nws]); rfl) ?_
        first
        | rw [if_neg (show ¬ dp o e = true from by intro hh; rw [show dropP o.2 e.1.1 = true from hh] at h; cases h)] at hks
          exact ⟨(u + 1, j + 1, xs.set u e), (Ghost.trans (Ghost.gc (ρ := [0, 1, 2]) (by simp only [go_sem, seval] <;> rfl) rfl rfl rfl) (Ghost.of_eq (by simp only [Int.natCast_add, Int.cast_ofNat_Int] <;> rfl))), ⟨⟨by simp only; omega, by simp only; omega, by simp only [List.length_set]; exact i3⟩, by simp only; rw [set_take hux, i4, hks], by simp only; rw [set_drop (by omega)]; exact drop_succ i5⟩, by simp only; omega⟩
        | rw [if_pos (show dp o e = true from by show dropP o.2 e.1.1 = true; simpa using h), List.append_nil] at hks
          exact ⟨(u, j + 1, xs), (Ghost.trans (Ghost.gc (ρ := [0, 1, 2]) (by simp only [go_sem, seval] <;> rfl) rfl rfl rfl) (Ghost.of_eq (by simp only [Int.natCast_add, Int.cast_ofNat_Int] <;> rfl))), ⟨⟨by simp only; omega, by simp only; omega, i3⟩, by simp only; rw [i4, hks], drop_succ i5⟩, by simp only; omega⟩
    · skip
      refine AWP.exit ?_
      change AWP _ _ _ _ _
      have ej : j = l.length := by omega
      subst ej
      have e5 : u + (l.length - u) = l.length := by omega
      refine AWP.sR gok [0, 5] (by apply aops_mv (t := 0) (d := 36) (ag_n rfl) rfl rfl (by first | (simp only [look_lay, look, seval] <;> rfl) | fail) rfl; apply aops_mv (t := 5) (d := 37) (ag_n rfl) rfl rfl (by first | (simp only [look_lay, look, seval] <;> rfl) | fail) rfl; apply aops_x (d := 38) (ag_n rfl) rfl (by (simp (disch := first | decide | omega) only [if_pos, nws, i3, e5, List.length_replicate, Nat.le_refl, go_sem, seval] <;> rfl)) rfl; apply aops_s (ag_n rfl) rfl (by (simp (disch := first | decide | omega) only [if_pos, nws, i3, e5, List.length_replicate, Nat.le_refl, go_sem, seval] <;> rfl)); apply aops_end; rfl) (by (simp (disch := omega) only [go_sem, seval, lay, nws]); rfl) ?_
      refine AWP.sR gok [4] (by apply aops_mv (t := 0) (d := 39) (ag_n rfl) rfl rfl (by first | (simp only [look_lay, look, seval] <;> rfl) | fail) rfl; apply aops_mv (t := 5) (d := 40) (ag_n rfl) rfl rfl (by first | (simp only [look_lay, look, seval] <;> rfl) | fail) rfl; apply aops_x (d := 41) (ag_n rfl) rfl (by (simp (disch := first | decide | omega) only [if_pos, nws, i3, go_sem, seval] <;> rfl)) rfl; apply aops_as (t := 41) (d := 4) (ag_n rfl) rfl rfl (by first | (simp only [look_lay, look, seval] <;> rfl) | fail) rfl; apply aops_end; rfl) (by (simp (disch := omega) only [go_sem, seval, lay, nws]); rfl) ?_
      refine AWP.ghost (Ghost.cut 0 u rfl) ?_
      refine AWP.ret ?_
      refine ⟨.inr rfl, _, (by simp only [go_sem, seval] <;> rfl), ?_⟩
      simp only [go_sem, seval, Option.some.injEq, AV.c.injEq, AV.agg.injEq, CV.v.injEq, Value.int.injEq, Value.bool.injEq, Row.raw.injEq, List.cons.injEq, CV.sl.injEq, and_true, true_and, and_self]
      rw [List.take_length] at i4
      have e7 : (keep o l).length = u := by rw [← i4, List.length_take]; omega
      rw [e7, List.take_append_of_le_length (by rw [List.length_take]; omega), List.take_take, Nat.min_self, i4]; exact ⟨rfl, rfl⟩
end Go.Proofs.Ytonhglodnmoadaa
