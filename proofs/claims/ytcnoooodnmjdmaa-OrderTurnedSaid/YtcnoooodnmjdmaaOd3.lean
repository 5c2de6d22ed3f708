import Derived.Test.YtcnoooodnmjdmaaOd2
set_option linter.unusedSimpArgs false
set_option linter.unusedVariables false
namespace Go.Proofs.Ytcnoooodnmjdmaa
open Go.RowKit Sorts
/-! What sorts places in place: the form of its entries; ranges that are swapped, and turned. -/
def lastFn : List AV → Option (List Int × FuncId × Nat)
  | [.c (.fn g [k])] => some ([], g, k)
  | .c (.v (.int .i64 a)) :: l => match lastFn l with | some (is, g, k) => some (a :: is, g, k) | none => none
  | _ => none
theorem lastFn_some : ∀ {l : List AV} {is : List Int} {g : FuncId} {k : Nat}, lastFn l = some (is, g, k) → l = is.map (fun i => .c (ci .i64 i)) ++ [.c (.fn g [k])]
  | [], is, g, k, h => by simp [lastFn] at h
  | x :: l, is, g, k, h => by
    unfold lastFn at h
    split at h
    · rename_i e; cases h; rw [e]; rfl
    · rename_i a l' e
      cases e
      split at h
      · rename_i is' g' k' h'
        cases h
        rw [lastFn_some h']; rfl
      · cases h
    · cases h
def sortE (c : List Int → List Hd → List Int → Prop) [∀ xs hs is, Decidable (c xs hs is)] (f : List Int → List Hd → List Int → List Int) : Entry := fun args H => match args with
  | .c (.sl id 0 n 1) :: rest => match lastFn rest with
    | some (is, g, k) => match rowAs IT H id, rsRow HT H k with
      | some xs, some hs => if g = Fc ∧ id ≠ k ∧ n = xs.length ∧ c xs hs is then some (.tup [], patch (ats [id, k] H.length) [id, k] [some (.ty IT (f xs hs is)), some (.raw [.rs HT hs])] H) else none
      | _, _ => none
    | none => none
  | _ => none
theorem sortE_ok {g : FuncId} {c : List Int → List Hd → List Int → Prop} [∀ xs hs is, Decidable (c xs hs is)] {f : List Int → List Hd → List Int → List Int}
    (h : ∀ xs hs is, c xs hs is → CallOk Try.prog g (.c (.sl 0 0 xs.length 1) :: (is.map (fun i => .c (ci .i64 i)) ++ [.c (.fn Fc [1])])) [some (.ty IT xs), some (.raw [.rs HT hs])] (.tup []) [some (.ty IT (f xs hs is)), some (.raw [.rs HT hs])]) : EntryOk Try.prog g (sortE c f) := fun args H r H' h0 => by
  unfold sortE at h0
  split at h0
  · rename_i id n rest
    split at h0
    · rename_i is g1 k hl
      split at h0
      · rename_i xs hs hx hh
        split at h0
        · rename_i hc
          obtain ⟨rfl, hne, rfl, hcc⟩ := hc
          cases h0
          have h1 := rowAs_some hx
          have h2 := rsRow_some hh
          rw [lastFn_some hl]
          refine frameOk0 (C := H) [id, k] (h xs hs is hcc) rfl (by simp) (by simp [nodupB, hne]) (by simp [lt_of h1, lt_of h2]) (fun i q hq => by
            match i, hq with
            | 0, hq => cases hq; simpa [ats, Row.mapId] using h1
            | 1, hq => cases hq; simpa [ats, Row.mapId, CV.mapId] using h2) (by simp) (fun i y hy => ?_)
          cases i with
          | zero => cases hy; simp [AV.map1, CV.mapId, ats]
          | succ i =>
            rw [List.getElem?_cons_succ] at hy ⊢
            by_cases hi : i < is.length
            · rw [List.getElem?_append_left (by simpa using hi)] at hy ⊢
              rw [List.getElem?_map] at hy ⊢
              cases hz : is[i]? with
              | none => rw [hz] at hy; cases hy
              | some z => rw [hz] at hy; cases hy; simp [AV.map1, CV.mapId]
            · rw [List.getElem?_append_right (by simpa using Nat.le_of_not_lt hi)] at hy ⊢
              rw [List.length_map] at hy ⊢
              cases hz : i - is.length with
              | zero => rw [hz] at hy; cases hy; simp [AV.map1, CV.mapId, ats]
              | succ z => rw [hz] at hy; simp at hy
        · cases h0
      · cases h0
    · cases h0
  · cases h0
attribute [go_sem] lastFn sortE
set_option maxRecDepth 100000
def cSw (xs : List Int) (hs : List Hd) : List Int → Prop
  | [a, b, n] => (0 ≤ a ∧ 0 ≤ b ∧ 0 ≤ n) ∧ a + n ≤ b ∧ b + n ≤ (xs.length : Int) ∧ xs.length ≤ 1000000
  | _ => False
instance (xs : List Int) (hs : List Hd) (is : List Int) : Decidable (cSw xs hs is) := by unfold cSw; split <;> infer_instance
def fSw (xs : List Int) (hs : List Hd) : List Int → List Int
  | [a, b, n] => swR xs a.toNat b.toNat n.toNat
  | _ => xs
theorem fSw_cast (xs : List Int) (hs : List Hd) (a b n : Nat) : fSw xs hs [(a : Int), (b : Int), (n : Int)] = swR xs a b n := by simp [fSw]
theorem Ksw (xs : List Int) (hs : List Hd) (a b n : Nat) (h1 : a + n ≤ b) (h2 : b + n ≤ xs.length) (h3 : xs.length ≤ 1000000) :
    CallOk Try.prog 31 [.c (.sl 0 0 xs.length 1), .c (ci .i64 (a : Int)), .c (ci .i64 (b : Int)), .c (ci .i64 (n : Int)), .c (.fn Fc [1])] [some (.ty IT xs), some (.raw [.rs HT hs])] (.tup []) [some (.ty IT (swR xs a b n)), some (.raw [.rs HT hs])] := by
  refine callOk' Try.func31 38 [] _ rfl rfl rfl (by kernel_rfl) (by simp) [0, 1] rfl rfl (by simp) ?_
  simp only [params]
  refine AWP.sR (Gam.nil_ok _) [0, 1, 2, 3, 10] (by apply aops_x (d := 10) (ag_n rfl) rfl (by first | (simp (disch := decide) only [go_sem, seval] <;> rfl) | (simp (disch := first | decide | omega) only [if_pos, nws, go_sem, seval] <;> rfl)) rfl; apply aops_end; rfl) (by (simp (disch := omega) only [go_sem, seval, lay, nws]); rfl) ?_
  refine AWP.block ?_
  refine AWP.loopP (fun (p : Nat × List Int) => ⟨38, [(0, .c (.sl 0 0 xs.length 1)), (1, .c (ci .i64 (a : Int))), (2, .c (ci .i64 (b : Int))), (3, .c (ci .i64 (n : Int))), (10, .c (ci .i64 (p.1 : Int)))], [some (.ty IT p.2), some (.raw [.rs HT hs])]⟩) (fun p => p.1 ≤ n ∧ Sw xs a b p.1 p.2) (fun p => n - p.1) (0, xs) (Ghost.refl _ _) ⟨Nat.zero_le _, Sw.zero xs a b⟩ ?_
  rintro ⟨i, ys⟩ ⟨i1, i2⟩
  simp only at i1 i2 ⊢
  have hl := i2.1
  refine AWP.seq ?_
  refine AWP.sR (Gam.nil_ok _) [0, 1, 2, 3, 10, 13] (by apply aops_mv (t := 10) (d := 11) (ag_n rfl) rfl rfl (by first | (simp only [look_lay, look, seval] <;> rfl) | fail) rfl; apply aops_mv (t := 3) (d := 12) (ag_n rfl) rfl rfl (by first | (simp only [look_lay, look, seval] <;> rfl) | fail) rfl; apply aops_x (d := 13) (ag_n rfl) rfl (by first | (simp (disch := decide) only [go_sem, seval] <;> rfl) | (simp (disch := first | decide | omega) only [if_pos, nws, go_sem, seval] <;> rfl)) rfl; apply aops_end; rfl) (by (simp (disch := omega) only [go_sem, seval, lay, nws]); rfl) ?_
  refine AWP.cond (b := _) rfl (fun h => ?_) (fun h => ?_) <;> (try simp only [decide_eq_true_eq, decide_eq_false_iff_not] at h)
  · skip
    refine AWP.skip ?_
    change AWP _ _ _ _ _
    refine AWP.seqBlock ?_
    have hat := i2.at (show a + i < b by omega)
    obtain ⟨u, hu⟩ : ∃ u, xs[a + i]? = some u := ⟨_, List.getElem?_eq_getElem (by omega)⟩
    obtain ⟨v, hv⟩ : ∃ v, xs[b + i]? = some v := ⟨_, List.getElem?_eq_getElem (by omega)⟩
    have hu2 := hat.1.trans hu
    have hv2 := hat.2.trans hv
    have hset : (ys.set (a + i) v)[b + i]? = some v := by rw [List.getElem?_set_ne (by omega)]; exact hv2
    have e1 : ((a : Int) + (i : Int)).toNat = a + i := by omega
    have e2 : ((b : Int) + (i : Int)).toNat = b + i := by omega
    have hnx := i2.next (show a + i < b by omega) (by omega) hu hv
    refine AWP.dT (Gam.nil_ok _) (by kernel_rfl) [0, 1, 2, 3, 10] [⟨[], true, 0⟩, ⟨[], true, 0⟩, ⟨[], true, 0⟩, ⟨[], true, 0⟩, ⟨[], true, 0⟩, ⟨[], true, 0⟩, ⟨[], true, 0⟩, ⟨[], true, 0⟩, ⟨[], true, 0⟩, ⟨[], true, 0⟩, ⟨[], true, 0⟩, ⟨[], true, 0⟩, ⟨[], true, 0⟩, ⟨[0], true, 0⟩, ⟨[], true, 0⟩, ⟨[], true, 0⟩, ⟨[], true, 0⟩, ⟨[], true, 0⟩, ⟨[], true, 0⟩, ⟨[0], true, 0⟩, ⟨[], true, 0⟩, ⟨[0], false, 0⟩, ⟨[], true, 0⟩, ⟨[0], false, 0⟩] (by kernel_rfl) (by first | rfl | simp only [go_sem, ↓reduceIte, Nat.reduceLT, Nat.reduceAdd]) (by first | rfl | simp only [go_sem, ↓reduceIte, Nat.reduceLT, Nat.reduceAdd]) (by (repeat (first | apply arun_step (by first | exact ag_n rfl | exact ag_b rfl rfl rfl (by first | (simp only [look_lay, look, seval] <;> rfl) | fail) (by first | rfl | (simp only [hu2, hv2, hset, e1, e2, hl, List.length_set, decide_true, decide_false] <;> rfl) | fail) | fail) (by first | (simp (disch := decide) only [hu2, hv2, hset, e1, e2, hl, List.length_set, go_sem, seval]; rfl) | (simp (disch := first | decide | omega) only [if_pos, nws, hu2, hv2, hset, e1, e2, hl, List.length_set, go_sem, seval]; rfl)) (by first | (intro h; cases h; done) | (intro _; rfl) | (intro _; simp only [go_sem, seval, lay])) (by first | rfl | simp only [go_sem, seval, lay]) (by first | rfl | simp only [go_sem, seval, lay]) (by first | rfl | simp only [go_sem, seval, lay]) (by simp only [go_sem, seval, lay]; rfl) | apply arun_pass (by first | exact ag_f rfl rfl rfl (by first | (simp only [look_lay, look, seval] <;> rfl) | fail) (by first | rfl | (simp only [hu2, hv2, hset, e1, e2, hl, List.length_set, decide_true, decide_false] <;> rfl) | fail) | exact ag_u rfl rfl rfl (by first | (simp only [look_lay, look, seval] <;> rfl) | fail) | fail) rfl (by simp only [go_sem, seval, lay]; rfl))); exact rfl) (by (simp (disch := omega) only [go_sem, seval, lay, nws]); rfl) ?_
    change AWP _ _ _ _ _
    refine AWP.rT (Gam.nil_ok _) [0, 1, 2, 3, 10] (by apply aops_mv (t := 10) (d := 14) (ag_n rfl) rfl rfl (by first | (simp only [look_lay, look, seval] <;> rfl) | fail) rfl; apply aops_x (d := 15) (ag_n rfl) rfl (by first | (simp (disch := decide) only [go_sem, seval] <;> rfl) | (simp (disch := first | decide | omega) only [if_pos, nws, go_sem, seval] <;> rfl)) rfl; apply aops_as (t := 15) (d := 10) (ag_n rfl) rfl rfl (by first | (simp only [look_lay, look, seval] <;> rfl) | fail) rfl; apply aops_end; rfl) (by (simp (disch := omega) only [go_sem, seval, lay, nws]); rfl) ?_
    exact ⟨(i + 1, (ys.set (a + i) v).set (b + i) u), Ghost.of_eq (by simp only [Int.natCast_add, Int.cast_ofNat_Int] <;> rfl), ⟨by simp only; omega, hnx⟩, by simp only; omega⟩
  · skip
    refine AWP.exit ?_
    refine ⟨.inl rfl, _, (by simp only [go_sem, seval] <;> rfl), ?_⟩
    simp only [go_sem, seval, Option.some.injEq, AV.c.injEq, AV.agg.injEq, CV.v.injEq, Value.int.injEq, Value.bool.injEq, Row.raw.injEq, List.cons.injEq, CV.sl.injEq, and_true, true_and, and_self]
    obtain rfl : i = n := by omega
    rw [i2.end h1 h2]
def Esw : Entry := sortE cSw fSw
theorem Esw_ok : EntryOk Try.prog 31 Esw := sortE_ok fun xs hs is hc => by
  match is, hc with
  | [a, b, n], ⟨⟨ha, hb, hn⟩, h1, h2, h3⟩ =>
    obtain ⟨a, rfl⟩ := Int.eq_ofNat_of_zero_le ha
    obtain ⟨b, rfl⟩ := Int.eq_ofNat_of_zero_le hb
    obtain ⟨n, rfl⟩ := Int.eq_ofNat_of_zero_le hn
    rw [fSw_cast]
    exact Ksw xs hs a b n (by omega) (by omega) h3
attribute [go_sem] Esw
def cRot (xs : List Int) (hs : List Hd) : List Int → Prop
  | [a, m, b] => (0 ≤ a ∧ a < m ∧ m < b) ∧ b ≤ (xs.length : Int) ∧ xs.length ≤ 1000000
  | _ => False
instance (xs : List Int) (hs : List Hd) (is : List Int) : Decidable (cRot xs hs is) := by unfold cRot; split <;> infer_instance
def fRot (xs : List Int) (hs : List Hd) : List Int → List Int
  | [a, m, b] => rotR xs a.toNat m.toNat b.toNat
  | _ => xs
theorem fRot_cast (xs : List Int) (hs : List Hd) (a m b : Nat) : fRot xs hs [(a : Int), (m : Int), (b : Int)] = rotR xs a m b := by simp [fRot]
theorem Krot (xs : List Int) (hs : List Hd) (a m b : Nat) (h1 : a < m) (h2 : m < b) (h3 : b ≤ xs.length) (h4 : xs.length ≤ 1000000) :
    CallOk Try.prog 28 [.c (.sl 0 0 xs.length 1), .c (ci .i64 (a : Int)), .c (ci .i64 (m : Int)), .c (ci .i64 (b : Int)), .c (.fn Fc [1])] [some (.ty IT xs), some (.raw [.rs HT hs])] (.tup []) [some (.ty IT (rotR xs a m b)), some (.raw [.rs HT hs])] := by
  have e1 : (m : Int) - (a : Int) = ((m - a : Nat) : Int) := by omega
  have e2 : (b : Int) - (m : Int) = ((b - m : Nat) : Int) := by omega
  have gok := (Gam.cons_ok Esw_ok (Gam.nil_ok _))
  refine callOk' Try.func28 58 [] _ rfl rfl rfl (by kernel_rfl) (by simp) [0, 1] rfl rfl (by simp) ?_
  simp only [params]
  refine AWP.sR gok [0, 2, 3, 4, 10] (by apply aops_mv (t := 2) (d := 12) (ag_n rfl) rfl rfl (by first | (simp only [look_lay, look, seval] <;> rfl) | fail) rfl; apply aops_mv (t := 1) (d := 13) (ag_n rfl) rfl rfl (by first | (simp only [look_lay, look, seval] <;> rfl) | fail) rfl; apply aops_x (d := 14) (ag_n rfl) rfl (by first | (simp (disch := decide) only [e1, go_sem, seval] <;> rfl) | (simp (disch := first | decide | omega) only [if_pos, nws, e1, go_sem, seval] <;> rfl)) rfl; apply aops_as (t := 14) (d := 10) (ag_n rfl) rfl rfl (by first | (simp only [look_lay, look, seval] <;> rfl) | fail) rfl; apply aops_end; rfl) (by (simp (disch := omega) only [go_sem, seval, lay, nws]); rfl) ?_
  refine AWP.sR gok [0, 2, 4, 10, 11] (by apply aops_mv (t := 3) (d := 15) (ag_n rfl) rfl rfl (by first | (simp only [look_lay, look, seval] <;> rfl) | fail) rfl; apply aops_mv (t := 2) (d := 16) (ag_n rfl) rfl rfl (by first | (simp only [look_lay, look, seval] <;> rfl) | fail) rfl; apply aops_x (d := 17) (ag_n rfl) rfl (by first | (simp (disch := decide) only [e2, go_sem, seval] <;> rfl) | (simp (disch := first | decide | omega) only [if_pos, nws, e2, go_sem, seval] <;> rfl)) rfl; apply aops_as (t := 17) (d := 11) (ag_n rfl) rfl rfl (by first | (simp only [look_lay, look, seval] <;> rfl) | fail) rfl; apply aops_end; rfl) (by (simp (disch := omega) only [go_sem, seval, lay, nws]); rfl) ?_
  refine AWP.seqBlock ?_
  refine AWP.loopP (fun (p : Nat × Nat × List Int) => ⟨58, [(0, .c (.sl 0 0 xs.length 1)), (2, .c (ci .i64 (m : Int))), (4, .c (.fn Fc [1])), (10, .c (ci .i64 (p.1 : Int))), (11, .c (ci .i64 (p.2.1 : Int)))], [some (.ty IT p.2.2), some (.raw [.rs HT hs])]⟩) (fun p => (0 < p.1 ∧ 0 < p.2.1 ∧ p.2.2.length = xs.length) ∧ Rt xs a m b p.1 p.2.1 p.2.2) (fun p => p.1 + p.2.1) (m - a, b - m, xs) (Ghost.refl _ _) ⟨⟨by simp only; omega, by simp only; omega, rfl⟩, Rt.start (Nat.le_of_lt h1) (Nat.le_of_lt h2) h3⟩ ?_
  rintro ⟨i, j, ys⟩ ⟨⟨i1, i2, i3⟩, i4⟩
  simp only at i1 i2 i3 i4 ⊢
  have hle := i4.len
  have e3 : (m : Int) - (i : Int) = ((m - i : Nat) : Int) := by omega
  have hlen : ys.length = xs.length := i3
  refine AWP.seq ?_
  refine AWP.sR gok [0, 2, 4, 10, 11, 20] (by apply aops_mv (t := 10) (d := 18) (ag_n rfl) rfl rfl (by first | (simp only [look_lay, look, seval] <;> rfl) | fail) rfl; apply aops_mv (t := 11) (d := 19) (ag_n rfl) rfl rfl (by first | (simp only [look_lay, look, seval] <;> rfl) | fail) rfl; apply aops_x (d := 20) (ag_n rfl) rfl (by first | (simp (disch := decide) only [go_sem, seval] <;> rfl) | (simp (disch := first | decide | omega) only [if_pos, nws, go_sem, seval] <;> rfl)) rfl; apply aops_end; rfl) (by (simp (disch := omega) only [go_sem, seval, lay, nws]); rfl) ?_
  refine AWP.cond (b := _) rfl (fun h => ?_) (fun h => ?_) <;> (try simp only [decide_eq_true_eq, decide_eq_false_iff_not] at h)
  · skip
    refine AWP.skip ?_
    change AWP _ _ _ _ _
    refine AWP.block ?_
    refine AWP.sR gok [0, 2, 4, 10, 11, 23] (by apply aops_mv (t := 10) (d := 21) (ag_n rfl) rfl rfl (by first | (simp only [look_lay, look, seval] <;> rfl) | fail) rfl; apply aops_mv (t := 11) (d := 22) (ag_n rfl) rfl rfl (by first | (simp only [look_lay, look, seval] <;> rfl) | fail) rfl; apply aops_x (d := 23) (ag_n rfl) rfl (by first | (simp (disch := decide) only [go_sem, seval] <;> rfl) | (simp (disch := first | decide | omega) only [if_pos, nws, go_sem, seval] <;> rfl)) rfl; apply aops_end; rfl) (by (simp (disch := omega) only [go_sem, seval, lay, nws]); rfl) ?_
    refine AWP.cond (b := _) rfl (fun h => ?_) (fun h => ?_) <;> (try simp only [decide_eq_true_eq, decide_eq_false_iff_not] at h)
    · skip
      have hc : cSw ys hs [((m - i : Nat) : Int), (m : Int), (j : Int)] := ⟨by omega, by omega, by omega, by omega⟩
      have e4 : (i : Int) - (j : Int) = ((i - j : Nat) : Int) := by omega
      have hm := i4.more (show j < i by omega)
      refine AWP.sR gok [0, 2, 4, 10, 11] (by apply aops_mv (t := 0) (d := 24) (ag_n rfl) rfl rfl (by first | (simp only [look_lay, look, seval] <;> rfl) | fail) rfl; apply aops_mv (t := 2) (d := 25) (ag_n rfl) rfl rfl (by first | (simp only [look_lay, look, seval] <;> rfl) | fail) rfl; apply aops_mv (t := 10) (d := 26) (ag_n rfl) rfl rfl (by first | (simp only [look_lay, look, seval] <;> rfl) | fail) rfl; apply aops_x (d := 27) (ag_n rfl) rfl (by first | (simp (disch := decide) only [e3, hlen, hc, fSw_cast, go_sem, seval] <;> rfl) | (simp (disch := first | decide | omega) only [if_pos, nws, e3, hlen, hc, fSw_cast, go_sem, seval] <;> rfl)) rfl; apply aops_mv (t := 2) (d := 28) (ag_n rfl) rfl rfl (by first | (simp only [look_lay, look, seval] <;> rfl) | fail) rfl; apply aops_mv (t := 11) (d := 29) (ag_n rfl) rfl rfl (by first | (simp only [look_lay, look, seval] <;> rfl) | fail) rfl; apply aops_mv (t := 4) (d := 30) (ag_n rfl) rfl rfl (by first | (simp only [look_lay, look, seval] <;> rfl) | fail) rfl; apply aops_x (d := 31) (ag_n rfl) rfl (by (simp (disch := first | decide | omega) only [if_pos, nws, e3, hlen, hc, fSw_cast, go_sem, seval] <;> rfl)) rfl; apply aops_end; rfl) (by (simp (disch := omega) only [go_sem, seval, lay, nws]); rfl) ?_
      refine AWP.rT gok [0, 2, 4, 10, 11] (by apply aops_mv (t := 10) (d := 32) (ag_n rfl) rfl rfl (by first | (simp only [look_lay, look, seval] <;> rfl) | fail) rfl; apply aops_mv (t := 11) (d := 33) (ag_n rfl) rfl rfl (by first | (simp only [look_lay, look, seval] <;> rfl) | fail) rfl; apply aops_x (d := 34) (ag_n rfl) rfl (by first | (simp (disch := decide) only [e4, go_sem, seval] <;> rfl) | (simp (disch := first | decide | omega) only [if_pos, nws, e4, go_sem, seval] <;> rfl)) rfl; apply aops_as (t := 34) (d := 10) (ag_n rfl) rfl rfl (by first | (simp only [look_lay, look, seval] <;> rfl) | fail) rfl; apply aops_end; rfl) (by (simp (disch := omega) only [go_sem, seval, lay, nws]); rfl) ?_
      exact ⟨(i - j, j, swR ys (m - i) m j), Ghost.of_eq rfl, ⟨⟨by simp only; omega, i2, by simp only; rw [swR_len (by omega) (by omega)]; exact i3⟩, hm⟩, by simp only; omega⟩
    · skip
      have hc : cSw ys hs [((m - i : Nat) : Int), ((m + j - i : Nat) : Int), (i : Int)] := ⟨by omega, by omega, by omega, by omega⟩
      have e4 : (j : Int) - (i : Int) = ((j - i : Nat) : Int) := by omega
      have e5 : (m : Int) + (j : Int) - (i : Int) = ((m + j - i : Nat) : Int) := by omega
      have hm := i4.less (show i < j by omega)
      refine AWP.sR gok [0, 2, 4, 10, 11] (by apply aops_mv (t := 0) (d := 35) (ag_n rfl) rfl rfl (by first | (simp only [look_lay, look, seval] <;> rfl) | fail) rfl; apply aops_mv (t := 2) (d := 36) (ag_n rfl) rfl rfl (by first | (simp only [look_lay, look, seval] <;> rfl) | fail) rfl; apply aops_mv (t := 10) (d := 37) (ag_n rfl) rfl rfl (by first | (simp only [look_lay, look, seval] <;> rfl) | fail) rfl; apply aops_x (d := 38) (ag_n rfl) rfl (by first | (simp (disch := decide) only [e3, e5, hlen, hc, fSw_cast, go_sem, seval] <;> rfl) | (simp (disch := first | decide | omega) only [if_pos, nws, e3, e5, hlen, hc, fSw_cast, go_sem, seval] <;> rfl)) rfl; apply aops_mv (t := 2) (d := 39) (ag_n rfl) rfl rfl (by first | (simp only [look_lay, look, seval] <;> rfl) | fail) rfl; apply aops_mv (t := 11) (d := 40) (ag_n rfl) rfl rfl (by first | (simp only [look_lay, look, seval] <;> rfl) | fail) rfl; apply aops_x (d := 41) (ag_n rfl) rfl (by first | (simp (disch := decide) only [e3, e5, hlen, hc, fSw_cast, go_sem, seval] <;> rfl) | (simp (disch := first | decide | omega) only [if_pos, nws, e3, e5, hlen, hc, fSw_cast, go_sem, seval] <;> rfl)) rfl; apply aops_mv (t := 10) (d := 42) (ag_n rfl) rfl rfl (by first | (simp only [look_lay, look, seval] <;> rfl) | fail) rfl; apply aops_x (d := 43) (ag_n rfl) rfl (by first | (simp (disch := decide) only [e3, e5, hlen, hc, fSw_cast, go_sem, seval] <;> rfl) | (simp (disch := first | decide | omega) only [if_pos, nws, e3, e5, hlen, hc, fSw_cast, go_sem, seval] <;> rfl)) rfl; apply aops_mv (t := 10) (d := 44) (ag_n rfl) rfl rfl (by first | (simp only [look_lay, look, seval] <;> rfl) | fail) rfl; apply aops_mv (t := 4) (d := 45) (ag_n rfl) rfl rfl (by first | (simp only [look_lay, look, seval] <;> rfl) | fail) rfl; apply aops_x (d := 46) (ag_n rfl) rfl (by (simp (disch := first | decide | omega) only [if_pos, nws, e3, e5, hlen, hc, fSw_cast, go_sem, seval] <;> rfl)) rfl; apply aops_end; rfl) (by (simp (disch := omega) only [go_sem, seval, lay, nws]); rfl) ?_
      refine AWP.rT gok [0, 2, 4, 10, 11] (by apply aops_mv (t := 11) (d := 47) (ag_n rfl) rfl rfl (by first | (simp only [look_lay, look, seval] <;> rfl) | fail) rfl; apply aops_mv (t := 10) (d := 48) (ag_n rfl) rfl rfl (by first | (simp only [look_lay, look, seval] <;> rfl) | fail) rfl; apply aops_x (d := 49) (ag_n rfl) rfl (by first | (simp (disch := decide) only [e4, go_sem, seval] <;> rfl) | (simp (disch := first | decide | omega) only [if_pos, nws, e4, go_sem, seval] <;> rfl)) rfl; apply aops_as (t := 49) (d := 11) (ag_n rfl) rfl rfl (by first | (simp only [look_lay, look, seval] <;> rfl) | fail) rfl; apply aops_end; rfl) (by (simp (disch := omega) only [go_sem, seval, lay, nws]); rfl) ?_
      exact ⟨(i, j - i, swR ys (m - i) (m + j - i) i), Ghost.of_eq rfl, ⟨⟨i1, by simp only; omega, by simp only; rw [swR_len (by omega) (by omega)]; exact i3⟩, hm⟩, by simp only; omega⟩
  · skip
    refine AWP.exit ?_
    change AWP _ _ _ _ _
    obtain rfl : i = j := by omega
    have hc : cSw ys hs [((m - i : Nat) : Int), (m : Int), (i : Int)] := ⟨by omega, by omega, by omega, by omega⟩
    refine AWP.rT gok [] (by apply aops_mv (t := 0) (d := 50) (ag_n rfl) rfl rfl (by first | (simp only [look_lay, look, seval] <;> rfl) | fail) rfl; apply aops_mv (t := 2) (d := 51) (ag_n rfl) rfl rfl (by first | (simp only [look_lay, look, seval] <;> rfl) | fail) rfl; apply aops_mv (t := 10) (d := 52) (ag_n rfl) rfl rfl (by first | (simp only [look_lay, look, seval] <;> rfl) | fail) rfl; apply aops_x (d := 53) (ag_n rfl) rfl (by first | (simp (disch := decide) only [e3, hlen, hc, fSw_cast, go_sem, seval] <;> rfl) | (simp (disch := first | decide | omega) only [if_pos, nws, e3, hlen, hc, fSw_cast, go_sem, seval] <;> rfl)) rfl; apply aops_mv (t := 2) (d := 54) (ag_n rfl) rfl rfl (by first | (simp only [look_lay, look, seval] <;> rfl) | fail) rfl; apply aops_mv (t := 10) (d := 55) (ag_n rfl) rfl rfl (by first | (simp only [look_lay, look, seval] <;> rfl) | fail) rfl; apply aops_mv (t := 4) (d := 56) (ag_n rfl) rfl rfl (by first | (simp only [look_lay, look, seval] <;> rfl) | fail) rfl; apply aops_x (d := 57) (ag_n rfl) rfl (by (simp (disch := first | decide | omega) only [if_pos, nws, e3, hlen, hc, fSw_cast, go_sem, seval] <;> rfl)) rfl; apply aops_end; rfl) (by (simp (disch := omega) only [go_sem, seval, lay, nws]); rfl) ?_
    refine ⟨.inl rfl, _, (by simp only [go_sem, seval] <;> rfl), ?_⟩
    simp only [go_sem, seval, Option.some.injEq, AV.c.injEq, AV.agg.injEq, CV.v.injEq, Value.int.injEq, Value.bool.injEq, Row.raw.injEq, List.cons.injEq, CV.sl.injEq, and_true, true_and, and_self]
    rw [i4.end]
def Erot : Entry := sortE cRot fRot
theorem Erot_ok : EntryOk Try.prog 28 Erot := sortE_ok fun xs hs is hc => by
  match is, hc with
  | [a, m, b], ⟨⟨ha, h1, h2⟩, h3, h4⟩ =>
    obtain ⟨a, rfl⟩ := Int.eq_ofNat_of_zero_le ha
    obtain ⟨m, rfl⟩ := Int.eq_ofNat_of_zero_le (show 0 ≤ m by omega)
    obtain ⟨b, rfl⟩ := Int.eq_ofNat_of_zero_le (show 0 ≤ b by omega)
    rw [fRot_cast]
    exact Krot xs hs a m b (by omega) (by omega) (by omega) h4
attribute [go_sem] Erot
end Go.Proofs.Ytcnoooodnmjdmaa
