import Derived.Test.YtonhglodnmoadaaHt8
set_option linter.unusedSimpArgs false
set_option linter.unusedVariables false
namespace Go.Proofs.Ytonhglodnmoadaa
open Go.RowKit
set_option maxRecDepth 100000
abbrev Fx : FuncId := 49
def E4 : Entry := fun args H => match args with
  | [.c (.sl id 0 n e), .c (.fn g [b])] => match fnRow H b with
    | some (g1, k) => match rowAs enT H id, rowAs opT H k with
      | some l, some [o] => if g = Fe ∧ g1 = Fd ∧ (b ≠ k ∧ id ≠ b ∧ id ≠ k) ∧ e = 3 ∧ n = l.length ∧ l.length ≤ 100000 then some (.c (.sl id 0 (keep o l).length 3), patch (ats [id, b, k] H.length) [id, b, k] [some (.ty enT (keep o l)), some (.raw [.fn Fd [2]]), some (.ty opT [o])] H) else none
      | _, _ => none
    | none => none
  | _ => none
theorem E4_ok : EntryOk Try.prog Fx E4 := fun args H r H' h => by
  unfold E4 at h
  split at h
  · rename_i id n e g b
    split at h
    · rename_i g1 k hf
      split at h
      · rename_i l o hv hr
        split at h
        · rename_i hc
          obtain ⟨rfl, rfl, ⟨n1, n2, n3⟩, rfl, rfl, hl⟩ := hc
          cases h
          have h0 := rowAs_some hv
          have h1 := rowAs_some hr
          have h2 := fnRow_some hf
          have := frameOk (C := H) (args := [.c (.sl id 0 l.length 3), .c (.fn Fe [b])]) [id, b, k] (K4 l o hl) rfl (by simp) (by simp [nodupB, n1, n2, n3]) (by simp [lt_of h0, lt_of h1, lt_of h2]) (fun i q hq => by
            match i, hq with
            | 0, hq => cases hq; simpa [ats, Row.mapId] using h0
            | 1, hq => cases hq; simpa [ats, Row.mapId, CV.mapId] using h2
            | 2, hq => cases hq; simpa [ats, Row.mapId] using h1) rfl (fun i y hy => by
            match i, hy with
            | 0, hy => cases hy; exact ⟨_, rfl, .inl (by simp [AV.map1, CV.mapId, ats])⟩
            | 1, hy => cases hy; exact ⟨_, rfl, .inl (by simp [AV.map1, CV.mapId, ats])⟩) rfl (fun q hq => by simp at hq; rcases hq with rfl | rfl | rfl <;> rfl)
          simpa [AV.mapId, CV.mapId, ats] using this
        · cases h
      · cases h
    · cases h
  · cases h
attribute [go_sem] E4
abbrev objT (l : List ((Int × Int) × Int)) (n : Int) : Row := .raw [.v (.func (.func 22) #[] #[]), .sl 1 0 l.length 3, ci .i64 n]
attribute [go_sem] objT
abbrev fixed (o : Int × Int) (l : List ((Int × Int) × Int)) : List ((Int × Int) × Int) := HeapLaw.heapify ltI (keep o l).length (keep o l)
theorem heapify_len (m : Nat) (l : List ((Int × Int) × Int)) : (HeapLaw.heapify ltI m l).length = l.length := (HeapLaw.heapify_perm ltI m l).length_eq
theorem K5 (l : List ((Int × Int) × Int)) (n : Int) (o : Int × Int) (hl : l.length ≤ 100000) : CallOk Try.prog 28 [.c (.ptr 0 0 1 0), .c (.fn Fd [2])] [some (objT l n), some (.ty enT l), some (.ty opT [o])] (.c (ci .i64 ((l.length : Int) - ((keep o l).length : Int)))) [some (objT (fixed o l) n), some (.ty enT (fixed o l)), some (.ty opT [o])] := by
  have gok := Gam.cons_ok (f := Fx) E4_ok (Gam.cons_ok (f := 48) E48_ok (Gam.nil_ok Try.prog))
  have hkl := keep_le o l
  generalize hK : keep o l = K at hkl
  refine callOk' Try.func28 47 [.tmp 4] _ rfl rfl rfl (by kernel_rfl) (by simp) [0, 1, 2] rfl rfl (by simp) ?_
  simp only [params]
  refine AWP.sR gok [0, 3] (by apply aops_x (d := 3) (ag_n rfl) rfl (by first | (simp (disch := decide) only [go_sem, seval] <;> rfl) | (simp (disch := first | decide | omega) only [if_pos, nws, go_sem, seval] <;> rfl)) rfl; apply aops_x (d := 4) (ag_n rfl) rfl (by first | (simp (disch := decide) only [go_sem, seval] <;> rfl) | (simp (disch := first | decide | omega) only [if_pos, nws, go_sem, seval] <;> rfl)) rfl; apply aops_end; rfl) (by (simp (disch := omega) only [go_sem, seval, lay, nws]); rfl) ?_
  refine AWP.seq ?_
  refine AWP.sR gok [0, 3, 12] (by apply aops_mv (t := 0) (d := 7) (ag_n rfl) rfl rfl (by first | (simp only [look_lay, look, seval] <;> rfl) | fail) rfl; apply aops_x (d := 8) (ag_n rfl) rfl (by first | (simp (disch := decide) only [go_sem, seval] <;> rfl) | (simp (disch := first | decide | omega) only [if_pos, nws, go_sem, seval] <;> rfl)) rfl; apply aops_mv (t := 8) (d := 9) (ag_n rfl) rfl rfl (by first | (simp only [look_lay, look, seval] <;> rfl) | fail) rfl; (first | apply aops_x (d := 10) (ag_b (j := 2) (d := 9) rfl rfl rfl (by first | (simp only [look_lay, look, seval] <;> rfl) | fail) rfl) rfl (by first | (simp (disch := decide) only [go_sem, seval] <;> rfl) | (simp (disch := first | decide | omega) only [if_pos, nws, go_sem, seval] <;> rfl)) rfl | apply aops_ps (d := 10) (by first | exact ag_f (j := 2) (d := 9) rfl rfl rfl (by first | (simp only [look_lay, look, seval] <;> rfl) | fail) rfl | exact ag_u (j := 2) (d := 9) rfl rfl rfl (by first | (simp only [look_lay, look, seval] <;> rfl) | fail) | fail) rfl rfl); (first | apply aops_x (d := 11) (ag_b (j := 2) (d := 9) rfl rfl rfl (by first | (simp only [look_lay, look, seval] <;> rfl) | fail) rfl) rfl (by first | (simp (disch := decide) only [go_sem, seval] <;> rfl) | (simp (disch := first | decide | omega) only [if_pos, nws, go_sem, seval] <;> rfl)) rfl | apply aops_ps (d := 11) (by first | exact ag_f (j := 2) (d := 9) rfl rfl rfl (by first | (simp only [look_lay, look, seval] <;> rfl) | fail) rfl | exact ag_u (j := 2) (d := 9) rfl rfl rfl (by first | (simp only [look_lay, look, seval] <;> rfl) | fail) | fail) rfl rfl); apply aops_x (d := 12) (ag_n rfl) rfl (by first | (simp (disch := decide) only [go_sem, seval] <;> rfl) | (simp (disch := first | decide | omega) only [if_pos, nws, go_sem, seval] <;> rfl)) rfl; apply aops_end; rfl) (by (simp (disch := omega) only [go_sem, seval, lay, nws]); rfl) ?_
  refine AWP.condF (b := _) rfl (by first | rfl | (simp only [decide_eq_true_eq, decide_eq_false_iff_not]; omega)) ?_
  refine AWP.skip ?_
  change AWP _ _ _ _ _
  refine AWP.sR gok [0, 3, 5] (by apply aops_mv (t := 0) (d := 13) (ag_n rfl) rfl rfl (by first | (simp only [look_lay, look, seval] <;> rfl) | fail) rfl; apply aops_x (d := 14) (ag_n rfl) rfl (by first | (simp (disch := decide) only [go_sem, seval] <;> rfl) | (simp (disch := first | decide | omega) only [if_pos, nws, go_sem, seval] <;> rfl)) rfl; apply aops_x (d := 15) (ag_n rfl) rfl (by first | (simp (disch := decide) only [go_sem, seval] <;> rfl) | (simp (disch := first | decide | omega) only [if_pos, nws, go_sem, seval] <;> rfl)) rfl; apply aops_x (d := 16) (ag_n rfl) rfl (by first | (simp (disch := decide) only [go_sem, seval] <;> rfl) | (simp (disch := first | decide | omega) only [if_pos, nws, go_sem, seval] <;> rfl)) rfl; apply aops_x (d := 17) (ag_n rfl) rfl (by first | (simp (disch := decide) only [go_sem, seval] <;> rfl) | (simp (disch := first | decide | omega) only [if_pos, nws, go_sem, seval] <;> rfl)) rfl; apply aops_as (t := 17) (d := 5) (ag_n rfl) rfl rfl (by first | (simp only [look_lay, look, seval] <;> rfl) | fail) rfl; apply aops_end; rfl) (by (simp (disch := omega) only [go_sem, seval, lay, nws]); rfl) ?_
  refine AWP.sR gok [0, 5] (by apply aops_mv (t := 0) (d := 18) (ag_n rfl) rfl rfl (by first | (simp only [look_lay, look, seval] <;> rfl) | fail) rfl; apply aops_mv (t := 0) (d := 19) (ag_n rfl) rfl rfl (by first | (simp only [look_lay, look, seval] <;> rfl) | fail) rfl; apply aops_x (d := 20) (ag_n rfl) rfl (by first | (simp (disch := decide) only [hl, hK, go_sem, seval] <;> rfl) | (simp (disch := first | decide | omega) only [if_pos, nws, hl, hK, go_sem, seval] <;> rfl)) rfl; apply aops_x (d := 21) (ag_n rfl) rfl (by first | (simp (disch := decide) only [hl, hK, go_sem, seval] <;> rfl) | (simp (disch := first | decide | omega) only [if_pos, nws, hl, hK, go_sem, seval] <;> rfl)) rfl; apply aops_x (d := 22) (ag_n rfl) rfl (by first | (simp (disch := decide) only [hl, hK, go_sem, seval] <;> rfl) | (simp (disch := first | decide | omega) only [if_pos, nws, hl, hK, go_sem, seval] <;> rfl)) rfl; apply aops_x (d := 23) (ag_n rfl) rfl (by first | (simp (disch := decide) only [hl, hK, go_sem, seval] <;> rfl) | (simp (disch := first | decide | omega) only [if_pos, nws, hl, hK, go_sem, seval] <;> rfl)) rfl; apply aops_x (d := 24) (ag_n rfl) rfl (by (simp (disch := first | decide | omega) only [if_pos, nws, hl, hK, go_sem, seval] <;> rfl)) rfl; apply aops_x (d := 25) (ag_n rfl) rfl (by first | (simp (disch := decide) only [hl, hK, go_sem, seval] <;> rfl) | (simp (disch := first | decide | omega) only [if_pos, nws, hl, hK, go_sem, seval] <;> rfl)) rfl; apply aops_x (d := 26) (ag_n rfl) rfl (by first | (simp (disch := decide) only [hl, hK, go_sem, seval] <;> rfl) | (simp (disch := first | decide | omega) only [if_pos, nws, hl, hK, go_sem, seval] <;> rfl)) rfl; apply aops_s (ag_n rfl) rfl (by first | (simp (disch := decide) only [hl, hK, go_sem, seval] <;> rfl) | (simp (disch := first | decide | omega) only [if_pos, nws, hl, hK, go_sem, seval] <;> rfl)); apply aops_end; rfl) (by (simp (disch := omega) only [go_sem, seval, lay, nws]); rfl) ?_
  refine AWP.seq ?_
  refine AWP.sR gok [0, 5, 6] (by apply aops_mv (t := 0) (d := 27) (ag_n rfl) rfl rfl (by first | (simp only [look_lay, look, seval] <;> rfl) | fail) rfl; apply aops_x (d := 28) (ag_n rfl) rfl (by first | (simp (disch := decide) only [go_sem, seval] <;> rfl) | (simp (disch := first | decide | omega) only [if_pos, nws, go_sem, seval] <;> rfl)) rfl; apply aops_x (d := 29) (ag_n rfl) rfl (by first | (simp (disch := decide) only [go_sem, seval] <;> rfl) | (simp (disch := first | decide | omega) only [if_pos, nws, go_sem, seval] <;> rfl)) rfl; apply aops_x (d := 30) (ag_n rfl) rfl (by first | (simp (disch := decide) only [go_sem, seval] <;> rfl) | (simp (disch := first | decide | omega) only [if_pos, nws, go_sem, seval] <;> rfl)) rfl; apply aops_x (d := 31) (ag_n rfl) rfl (by first | (simp (disch := decide) only [go_sem, seval] <;> rfl) | (simp (disch := first | decide | omega) only [if_pos, nws, go_sem, seval] <;> rfl)) rfl; apply aops_x (d := 32) (ag_n rfl) rfl (by first | (simp (disch := decide) only [go_sem, seval] <;> rfl) | (simp (disch := first | decide | omega) only [if_pos, nws, go_sem, seval] <;> rfl)) rfl; apply aops_as (t := 32) (d := 6) (ag_n rfl) rfl rfl (by first | (simp only [look_lay, look, seval] <;> rfl) | fail) rfl; apply aops_end; rfl) (by (simp (disch := omega) only [go_sem, seval, lay, nws]); rfl) ?_
  refine AWP.block ?_
  refine AWP.loopP (fun (p : Nat × List ((Int × Int) × Int)) => ⟨47, [(0, .c (.ptr 0 0 1 0)), (5, .c (ci .i64 (l.length : Int))), (6, .c (ci .i64 ((p.1 : Int) - 1)))], [some (objT p.2 n), some (.ty enT p.2), some (.ty opT [o]), some (.raw [.fn Fd [2]])]⟩) (fun p => (p.1 ≤ p.2.length ∧ p.2.length = K.length) ∧ HeapLaw.heapify ltI p.1 p.2 = HeapLaw.heapify ltI K.length K) (fun p => p.1) (K.length, K) (Ghost.refl _ _) ⟨⟨Nat.le_refl _, rfl⟩, rfl⟩ ?_
  rintro ⟨m, xs⟩ ⟨⟨i1, i2⟩, i3⟩
  simp only at i1 i2 i3 ⊢
  refine AWP.seq ?_
  refine AWP.sR gok [0, 5, 6, 34] (by apply aops_mv (t := 6) (d := 33) (ag_n rfl) rfl rfl (by first | (simp only [look_lay, look, seval] <;> rfl) | fail) rfl; apply aops_x (d := 34) (ag_n rfl) rfl (by first | (simp (disch := decide) only [go_sem, seval] <;> rfl) | (simp (disch := first | decide | omega) only [if_pos, nws, go_sem, seval] <;> rfl)) rfl; apply aops_end; rfl) (by (simp (disch := omega) only [go_sem, seval, lay, nws]); rfl) ?_
  refine AWP.cond (b := _) rfl (fun h => ?_) (fun h => ?_) <;> (try simp only [decide_eq_true_eq, decide_eq_false_iff_not] at h)
  · skip
    refine AWP.skip ?_
    change AWP _ _ _ _ _
    refine AWP.seqBlock ?_
    obtain ⟨k, rfl⟩ : ∃ k, m = k + 1 := ⟨m - 1, by omega⟩
    have em : ((k + 1 : Nat) : Int) - 1 = (k : Int) := by omega
    have hkx : (k : Int) < (xs.length : Int) := by omega
    have hx1 : xs.length ≤ 100000 := by omega
    have hkx2 : (k : Int) ≤ (xs.length : Int) := by omega
    have hkx3 : (k : Int) < (xs.length : Int) ∨ xs.length = 0 := .inl hkx
    refine AWP.rT gok [0, 5, 6] (by apply aops_mv (t := 0) (d := 37) (ag_n rfl) rfl rfl (by first | (simp only [look_lay, look, seval] <;> rfl) | fail) rfl; apply aops_mv (t := 6) (d := 38) (ag_n rfl) rfl rfl (by first | (simp only [look_lay, look, seval] <;> rfl) | fail) rfl; apply aops_x (d := 39) (ag_n rfl) rfl (by (simp (disch := first | decide | omega) only [if_pos, nws, em, hkx2, hkx3, hx1, go_sem, seval] <;> rfl)) rfl; apply aops_end; rfl) (by (simp (disch := omega) only [go_sem, seval, lay, nws]); rfl) ?_
    change AWP _ _ _ _ _
    refine AWP.rT gok [0, 5, 6] (by apply aops_mv (t := 6) (d := 35) (ag_n rfl) rfl rfl (by first | (simp only [look_lay, look, seval] <;> rfl) | fail) rfl; apply aops_x (d := 36) (ag_n rfl) rfl (by first | (simp (disch := decide) only [em, go_sem, seval] <;> rfl) | (simp (disch := first | decide | omega) only [if_pos, nws, em, go_sem, seval] <;> rfl)) rfl; apply aops_as (t := 36) (d := 6) (ag_n rfl) rfl rfl (by first | (simp only [look_lay, look, seval] <;> rfl) | fail) rfl; apply aops_end; rfl) (by (simp (disch := omega) only [go_sem, seval, lay, nws]); rfl) ?_
    exact ⟨(k, HeapLaw.down ltI (xs.length + 1) xs k), Ghost.of_eq rfl, ⟨⟨by simp only; rw [HeapLaw.down_len]; omega, by simp only; rw [HeapLaw.down_len]; exact i2⟩, i3⟩, by simp only; omega⟩
  · skip
    refine AWP.exit ?_
    change AWP _ _ _ _ _
    refine AWP.sR gok [4] (by apply aops_mv (t := 5) (d := 40) (ag_n rfl) rfl rfl (by first | (simp only [look_lay, look, seval] <;> rfl) | fail) rfl; apply aops_mv (t := 0) (d := 41) (ag_n rfl) rfl rfl (by first | (simp only [look_lay, look, seval] <;> rfl) | fail) rfl; apply aops_x (d := 42) (ag_n rfl) rfl (by first | (simp (disch := decide) only [go_sem, seval] <;> rfl) | (simp (disch := first | decide | omega) only [if_pos, nws, go_sem, seval] <;> rfl)) rfl; apply aops_x (d := 43) (ag_n rfl) rfl (by first | (simp (disch := decide) only [go_sem, seval] <;> rfl) | (simp (disch := first | decide | omega) only [if_pos, nws, go_sem, seval] <;> rfl)) rfl; apply aops_x (d := 44) (ag_n rfl) rfl (by first | (simp (disch := decide) only [go_sem, seval] <;> rfl) | (simp (disch := first | decide | omega) only [if_pos, nws, go_sem, seval] <;> rfl)) rfl; apply aops_x (d := 45) (ag_n rfl) rfl (by first | (simp (disch := decide) only [go_sem, seval] <;> rfl) | (simp (disch := first | decide | omega) only [if_pos, nws, go_sem, seval] <;> rfl)) rfl; apply aops_x (d := 46) (ag_n rfl) rfl (by first | (simp (disch := decide) only [go_sem, seval] <;> rfl) | (simp (disch := first | decide | omega) only [if_pos, nws, go_sem, seval] <;> rfl)) rfl; apply aops_as (t := 46) (d := 4) (ag_n rfl) rfl rfl (by first | (simp only [look_lay, look, seval] <;> rfl) | fail) rfl; apply aops_end; rfl) (by (simp (disch := omega) only [go_sem, seval, lay, nws]); rfl) ?_
    refine AWP.ret ?_
    refine ⟨.inr rfl, _, (by simp only [go_sem, seval] <;> rfl), ?_⟩
    simp only [go_sem, seval, Option.some.injEq, AV.c.injEq, AV.agg.injEq, CV.v.injEq, Value.int.injEq, Value.bool.injEq, Row.raw.injEq, List.cons.injEq, CV.sl.injEq, and_true, true_and, and_self]
    have em : m = 0 := by omega
    subst em
    have e : fixed o l = xs := by unfold fixed; rw [hK]; exact i3.symm
    rw [e, i2]; exact ⟨rfl, rfl, rfl⟩
def E5 : Entry := fun args H => match args with
  | [.c (.ptr id 0 1 0), .c (.fn g [k])] => match hrow H id with
    | some (.raw [.v (.func (.func g1) fa fb), .sl e 0 n sz, .v (.int .i64 p)]) => match rowAs enT H e, rowAs opT H k with
      | some l, some [o] => if g = Fd ∧ (g1 = Fa ∧ fa.size = 0 ∧ fb.size = 0) ∧ (id ≠ e ∧ id ≠ k ∧ e ≠ k) ∧ sz = 3 ∧ n = l.length ∧ l.length ≤ 100000 then some (.c (ci .i64 ((l.length : Int) - ((keep o l).length : Int))), patch (ats [id, e, k] H.length) [id, e, k] [some (objT (fixed o l) p), some (.ty enT (fixed o l)), some (.ty opT [o])] H) else none
      | _, _ => none
    | _ => none
  | _ => none
theorem E5_ok : EntryOk Try.prog 28 E5 := fun args H r H' h => by
  unfold E5 at h
  split at h
  · rename_i id g k
    split at h
    · rename_i g1 fa fb e n sz p hrow1
      split at h
      · rename_i l o hv hr
        split at h
        · rename_i hc
          obtain ⟨rfl, ⟨rfl, ha, hb⟩, ⟨n1, n2, n3⟩, rfl, rfl, hl⟩ := hc
          obtain rfl : fa = #[] := Array.eq_empty_of_size_eq_zero ha
          obtain rfl : fb = #[] := Array.eq_empty_of_size_eq_zero hb
          cases h
          have h0 := hrow_at hrow1
          have h1 := rowAs_some hv
          have h2 := rowAs_some hr
          exact frameOk (C := H) (args := [.c (.ptr id 0 1 0), .c (.fn Fd [k])]) [id, e, k] (K5 l p o hl) rfl (by simp) (by simp [nodupB, n1, n2, n3]) (by simp [lt_of h0, lt_of h1, lt_of h2]) (fun i q hq => by
            match i, hq with
            | 0, hq => cases hq; simpa [ats, Row.mapId, CV.mapId] using h0
            | 1, hq => cases hq; simpa [ats, Row.mapId] using h1
            | 2, hq => cases hq; simpa [ats, Row.mapId] using h2) rfl (fun i y hy => by
            match i, hy with
            | 0, hy => cases hy; exact ⟨_, rfl, .inl (by simp [AV.map1, CV.mapId, ats])⟩
            | 1, hy => cases hy; exact ⟨_, rfl, .inl (by simp [AV.map1, CV.mapId, ats])⟩) rfl (fun q hq => by simp at hq; rcases hq with rfl | rfl | rfl <;> rfl)
        · cases h
      · cases h
    · cases h
  · cases h
attribute [go_sem] E5
end Go.Proofs.Ytonhglodnmoadaa
