import Derived.Test.YtbdnhoddkdiogaaMr1
import Derived.Test.YtbdnhoddkdiogaaMrG
import Derived.Test.YtbdnhoddkdiogaaMrO
set_option linter.unusedSimpArgs false
set_option linter.unusedVariables false
namespace Go.Proofs.Ytbdnhoddkdiogaa
open Go.RowKit
theorem sp_split (n : Nat) (h : 2 ≤ n) : Grow.sp n = splitN n := by
  obtain ⟨-, s1, s2⟩ := Grow.sp_spec n h
  exact split_uniq n _ (Nat.log2 (n - 1)) h rfl s1 s2
theorem rootF_R : ∀ (n : Nat) (l : List (List Int)), l.length = n → 1 ≤ n → rootF l = Grow.R bothF (dg []) (l.map leafF)
  | n, l, hl, hn => by
    by_cases h1 : n = 1
    · subst h1
      rw [rootF_1 l hl]
      match l, hl with
      | [x], _ => rfl
    · have h2 : 2 ≤ l.length := by omega
      obtain ⟨s0, s1, s2⟩ := splitN_spec l.length h2
      rw [rootF_2 l h2, Grow.R_two bothF (dg []) (by rw [List.length_map]; exact h2), List.length_map, sp_split _ h2, ← List.map_take, ← List.map_drop,
        rootF_R (splitN l.length) _ (by rw [List.length_take]; omega) s0, rootF_R (l.length - splitN l.length) _ (by rw [List.length_drop]) (by omega)]
termination_by n => n
def peaksF (l : List (List Int)) : List (List Int) := Grow.P bothF (dg []) (l.map leafF)
theorem peaksF_cons {l : List (List Int)} (h : 1 ≤ l.length) : peaksF l = rootF (l.take (splitN (l.length + 1))) :: peaksF (l.drop (splitN (l.length + 1))) := by
  obtain ⟨s0, s1, s2⟩ := splitN_spec (l.length + 1) (by omega)
  unfold peaksF
  rw [Grow.P_cons bothF (dg []) (by rw [List.length_map]; exact h), List.length_map, sp_split _ (by omega), ← List.map_take, ← List.map_drop, rootF_R _ (l.take _) rfl (by rw [List.length_take]; omega)]
theorem peaksF_nil {l : List (List Int)} (h : l.length = 0) : peaksF l = [] := by rw [List.eq_nil_of_length_eq_zero h]; rfl
theorem peaksF_len : ∀ (n : Nat) (l : List (List Int)), l.length = n → (peaksF l).length ≤ n
  | n, l, hl => by
    by_cases h0 : n = 0
    · rw [peaksF_nil (by omega)]; simp
    · obtain ⟨s0, s1, s2⟩ := splitN_spec (l.length + 1) (by omega)
      have := peaksF_len (l.length - splitN (l.length + 1)) (l.drop (splitN (l.length + 1))) List.length_drop
      rw [peaksF_cons (by omega), List.length_cons]; omega
termination_by n => n
abbrev c37 (l : (List (List Int))) : Prop := textsOk l ∧ l.length ≤ 1000000
abbrev r37 (l : (List (List Int))) : AV := .c (.sl 0 0 (peaksF l).length 32)
abbrev L37 (l : (List (List Int))) : Hp := [some (.ty (.ar 32 (.i .u8)) (peaksF l))]
def E37 : Entry := pureN [(.sl (.sl (.i .u8)))] (fun d => c37 d.1) (fun d => r37 d.1) (fun d => L37 d.1)
def En37 (N : Nat) : Entry := pureN [(.sl (.sl (.i .u8)))] (fun d => d.1.length < N ∧ c37 d.1) (fun d => r37 d.1) (fun d => L37 d.1)
attribute [go_sem] En37 c37 r37 L37
set_option maxRecDepth 100000 in
set_option maxHeartbeats 4000000 in
theorem K37 (N : Nat) (ih : EntryOk Try.prog 37 (En37 N)) (l : (List (List Int))) (hm : l.length < N + 1) (hc : c37 l) : CallOk Try.prog 37 [.c (.rs (.sl (.i .u8)) l)] [] (r37 l) (L37 l) := by
  have hc : textsOk l ∧ l.length ≤ 1000000 := hc
  have gok := (Gam.cons_ok ih (Gam.cons_ok E30_ok (Gam.cons_ok E55_ok (Gam.nil_ok _))))
  refine callOk' Try.func37 21 [.tmp 2] _ rfl rfl rfl (by kernel_rfl) (by simp) [0] rfl rfl (by simp) ?_
  simp only [params]
  refine AWP.sR gok [0] (by apply aops_x (d := 2) (ag_n rfl) rfl (by first | (simp (disch := decide) only [go_sem, seval] <;> rfl) | (simp (disch := first | decide | omega) only [if_pos, nws, go_sem, seval] <;> rfl)) rfl; apply aops_end; rfl) (by (simp (disch := omega) only [go_sem, seval, lay, nws]); rfl) ?_
  refine AWP.seq ?_
  refine AWP.sR gok [0, 6] (by apply aops_mv (t := 0) (d := 4) (ag_n rfl) rfl rfl (by first | (simp only [look_lay, look, seval] <;> rfl) | fail) rfl; apply aops_x (d := 5) (ag_n rfl) rfl (by first | (simp (disch := decide) only [go_sem, seval] <;> rfl) | (simp (disch := first | decide | omega) only [if_pos, nws, go_sem, seval] <;> rfl)) rfl; apply aops_x (d := 6) (ag_n rfl) rfl (by first | (simp (disch := decide) only [go_sem, seval] <;> rfl) | (simp (disch := first | decide | omega) only [if_pos, nws, go_sem, seval] <;> rfl)) rfl; apply aops_end; rfl) (by (simp (disch := omega) only [go_sem, seval, lay, nws]); rfl) ?_
  refine AWP.cond (b := _) rfl (fun h => ?_) (fun h => ?_) <;> (try simp only [decide_eq_true_eq, decide_eq_false_iff_not] at h)
  · skip
    refine AWP.sR gok [2] (by apply aops_x (d := 2) (ag_n rfl) rfl (by first | (simp (disch := decide) only [go_sem, seval] <;> rfl) | (simp (disch := first | decide | omega) only [if_pos, nws, go_sem, seval] <;> rfl)) rfl; apply aops_end; rfl) (by (simp (disch := omega) only [go_sem, seval, lay, nws]); rfl) ?_
    refine AWP.ghost (Ghost.nil 2 32 (.ar 32 (.i .u8)) rfl (by simp)) ?_
    refine AWP.ret ?_
    refine ⟨.inr rfl, _, (by simp only [go_sem, seval] <;> rfl), ?_⟩
    simp only [go_sem, seval, Option.some.injEq, AV.c.injEq, AV.agg.injEq, CV.v.injEq, Value.int.injEq, Value.bool.injEq, Row.raw.injEq, List.cons.injEq, CV.sl.injEq, and_true, true_and, and_self]
    rw [peaksF_nil (by omega)]; exact ⟨rfl, rfl⟩
  · skip
    refine AWP.skip ?_
    change AWP _ _ _ _ _
    have h1 : 1 ≤ l.length := by omega
    obtain ⟨k, hk⟩ : ∃ k, splitN (l.length + 1) = k := ⟨_, rfl⟩
    obtain ⟨s0, s1, s2⟩ := splitN_spec (l.length + 1) (by omega)
    have e := peaksF_cons h1
    rw [hk] at s0 s1 s2 e
    have hc1 : ((l.length : Int) + 1).toNat = l.length + 1 := by omega
    have t1 := textsOk_take hc.1 k
    have t2 := textsOk_drop hc.1 k
    have l1 : (l.take k).length ≤ 1000000 := by rw [List.length_take]; omega
    have l2 : (l.drop k).length = l.length - k := by rw [List.length_drop]
    have e2 : (l.drop k).take (l.length - k) = l.drop k := List.take_of_length_le (by rw [l2]; exact Nat.le_refl _)
    have hkl : k ≤ l.length := by omega
    have pl := peaksF_len _ (l.drop k) l2
    refine AWP.sR gok [0, 3] (by apply aops_mv (t := 0) (d := 7) (ag_n rfl) rfl rfl (by first | (simp only [look_lay, look, seval] <;> rfl) | fail) rfl; apply aops_x (d := 8) (ag_n rfl) rfl (by first | (simp (disch := decide) only [hc1, hk, go_sem, seval] <;> rfl) | (simp (disch := first | decide | omega) only [if_pos, nws, hc1, hk, go_sem, seval] <;> rfl)) rfl; apply aops_x (d := 9) (ag_n rfl) rfl (by first | (simp (disch := decide) only [hc1, hk, go_sem, seval] <;> rfl) | (simp (disch := first | decide | omega) only [if_pos, nws, hc1, hk, go_sem, seval] <;> rfl)) rfl; apply aops_x (d := 10) (ag_n rfl) rfl (by (simp (disch := first | decide | omega) only [if_pos, nws, hc1, hk, go_sem, seval] <;> rfl)) rfl; apply aops_as (t := 10) (d := 3) (ag_n rfl) rfl rfl (by first | (simp only [look_lay, look, seval] <;> rfl) | fail) rfl; apply aops_end; rfl) (by (simp (disch := omega) only [go_sem, seval, lay, nws]); rfl) ?_
    refine AWP.sD gok (by kernel_rfl) [2] [⟨[], true, 0⟩, ⟨[], true, 0⟩, ⟨[], true, 0⟩, ⟨[], true, 0⟩, ⟨[], true, 1⟩, ⟨[], true, 0⟩, ⟨[], true, 0⟩, ⟨[], true, 0⟩, ⟨[], true, 1⟩, ⟨[0, 1], false, 1⟩, ⟨[], true, 0⟩] (by kernel_rfl) (by first | rfl | simp only [go_sem, ↓reduceIte, Nat.reduceLT, Nat.reduceAdd]) (by first | rfl | simp only [go_sem, ↓reduceIte, Nat.reduceLT, Nat.reduceAdd]) (by (repeat (first | apply arun_step (by first | exact ag_n rfl | exact ag_b rfl rfl rfl (by first | (simp only [look_lay, look, seval] <;> rfl) | fail) (by first | rfl | (simp only [t1, t2, l1, l2, e2, hkl, Nat.sub_zero, rootF_len, decide_true, decide_false] <;> rfl) | fail) | fail) (by first | (simp (disch := decide) only [t1, t2, l1, l2, e2, hkl, Nat.sub_zero, rootF_len, go_sem, seval]; rfl) | (simp (disch := first | decide | omega) only [if_pos, nws, t1, t2, l1, l2, e2, hkl, Nat.sub_zero, rootF_len, go_sem, seval]; rfl)) (by first | (intro h; cases h; done) | (intro _; rfl) | (intro _; simp only [go_sem, seval, lay])) (by first | rfl | simp only [go_sem, seval, lay]) (by first | rfl | simp only [go_sem, seval, lay]) (by first | rfl | simp only [go_sem, seval, lay]) (by simp only [go_sem, seval, lay]; rfl) | apply arun_pass (by first | exact ag_f rfl rfl rfl (by first | (simp only [look_lay, look, seval] <;> rfl) | fail) (by first | rfl | (simp only [t1, t2, l1, l2, e2, hkl, Nat.sub_zero, rootF_len, decide_true, decide_false] <;> rfl) | fail) | exact ag_u rfl rfl rfl (by first | (simp only [look_lay, look, seval] <;> rfl) | fail) | fail) rfl (by simp only [go_sem, seval, lay]; rfl))); exact rfl) (by (simp (disch := omega) only [go_sem, seval, lay, nws]); rfl) ?_
    refine AWP.ghost (Ghost.gc (ρ := [2]) (by simp only [go_sem, seval] <;> rfl) rfl rfl rfl) ?_
    refine AWP.ret ?_
    refine ⟨.inr rfl, _, (by simp only [go_sem, seval] <;> rfl), ?_⟩
    simp only [go_sem, seval, Option.some.injEq, AV.c.injEq, AV.agg.injEq, CV.v.injEq, Value.int.injEq, Value.bool.injEq, Row.raw.injEq, List.cons.injEq, CV.sl.injEq, and_true, true_and, and_self]
    rw [e]; exact ⟨by rw [List.length_cons, Nat.add_comm], rfl⟩
theorem En37_ok : ∀ N, EntryOk Try.prog 37 (En37 N)
  | 0 => pureN_ok (fun d hc => absurd hc.1 (Nat.not_lt_zero _)) (fun _ => rfl) (fun _ => rfl)
  | N + 1 => pureN_ok (fun d hc => K37 N (En37_ok N) d.1 hc.1 hc.2) (fun _ => rfl) (fun _ => rfl)
theorem E37_ok : EntryOk Try.prog 37 E37 := pureN_ok (fun d hc => K37 _ (En37_ok _) d.1 (Nat.lt_succ_self _) hc) (fun _ => rfl) (fun _ => rfl)
attribute [go_sem] E37
abbrev c62 (s : (List (List Int))) : Prop := s.length ≤ 1000000
abbrev r62 (s : (List (List Int))) : AV := .c (.sl 0 0 s.length 32)
abbrev L62 (s : (List (List Int))) : Hp := [some (.ty (.ar 32 (.i .u8)) s)]
def E62 : Entry := pureN [(.sl (.ar 32 (.i .u8)))] (fun d => c62 d.1) (fun d => r62 d.1) (fun d => L62 d.1)
set_option maxRecDepth 100000 in
set_option maxHeartbeats 4000000 in
theorem K62 (s : (List (List Int))) (hc : c62 s) : CallOk Try.prog 62 [.c (.rs (.ar 32 (.i .u8)) s)] [] (r62 s) (L62 s) := by
  have hc : s.length ≤ 1000000 := hc
  by_cases h0 : s = []
  · subst h0
    refine callOk' Try.func62 8 [.tmp 2] _ rfl rfl rfl (by kernel_rfl) (by simp) [0] rfl rfl (by simp) ?_
    simp only [params]
    refine AWP.sR (Gam.nil_ok _) [0] (by apply aops_x (d := 2) (ag_n rfl) rfl (by first | (simp (disch := decide) only [go_sem, seval] <;> rfl) | (simp (disch := first | decide | omega) only [if_pos, nws, go_sem, seval] <;> rfl)) rfl; apply aops_end; rfl) (by (simp (disch := omega) only [go_sem, seval, lay, nws]); rfl) ?_
    refine AWP.seq ?_
    refine AWP.sR (Gam.nil_ok _) [0, 4] (by apply aops_mv (t := 0) (d := 3) (ag_n rfl) rfl rfl (by first | (simp only [look_lay, look, seval] <;> rfl) | fail) rfl; apply aops_x (d := 4) (ag_n rfl) rfl (by first | (simp (disch := decide) only [go_sem, seval] <;> rfl) | (simp (disch := first | decide | omega) only [if_pos, nws, go_sem, seval] <;> rfl)) rfl; apply aops_end; rfl) (by (simp (disch := omega) only [go_sem, seval, lay, nws]); rfl) ?_
    refine AWP.condU rfl ?_ ?_
    · skip
      refine AWP.sR (Gam.nil_ok _) [2] (by apply aops_x (d := 2) (ag_n rfl) rfl (by first | (simp (disch := decide) only [go_sem, seval] <;> rfl) | (simp (disch := first | decide | omega) only [if_pos, nws, go_sem, seval] <;> rfl)) rfl; apply aops_end; rfl) (by (simp (disch := omega) only [go_sem, seval, lay, nws]); rfl) ?_
      refine AWP.ghost (Ghost.nil 2 32 (.ar 32 (.i .u8)) rfl (by simp)) ?_
      refine AWP.ret ?_
      refine ⟨.inr rfl, _, (by simp only [go_sem, seval] <;> rfl), ?_⟩
      simp only [go_sem, seval, Option.some.injEq, AV.c.injEq, AV.agg.injEq, CV.v.injEq, Value.int.injEq, Value.bool.injEq, Row.raw.injEq, List.cons.injEq, CV.sl.injEq, and_true, true_and, and_self]
    · skip
      refine AWP.skip ?_
      change AWP _ _ _ _ _
      refine AWP.sR (Gam.nil_ok _) [2] (by apply aops_x (d := 5) (ag_n rfl) rfl (by (simp (disch := first | decide | omega) only [if_pos, nws, go_sem, seval] <;> rfl)) rfl; apply aops_mv (t := 0) (d := 6) (ag_n rfl) rfl rfl (by first | (simp only [look_lay, look, seval] <;> rfl) | fail) rfl; apply aops_x (d := 7) (ag_n rfl) rfl (by (simp (disch := first | decide | omega) only [if_pos, nws, go_sem, seval] <;> rfl)) rfl; apply aops_as (t := 7) (d := 2) (ag_n rfl) rfl rfl (by first | (simp only [look_lay, look, seval] <;> rfl) | fail) rfl; apply aops_end; rfl) (by (simp (disch := omega) only [go_sem, seval, lay, nws]); rfl) ?_
      refine AWP.ghost (Ghost.gc (ρ := [1]) (by simp only [go_sem, seval] <;> rfl) rfl rfl rfl) ?_
      refine AWP.ret ?_
      refine ⟨.inr rfl, _, (by simp only [go_sem, seval] <;> rfl), ?_⟩
      simp only [go_sem, seval, Option.some.injEq, AV.c.injEq, AV.agg.injEq, CV.v.injEq, Value.int.injEq, Value.bool.injEq, Row.raw.injEq, List.cons.injEq, CV.sl.injEq, and_true, true_and, and_self]
  · skip
    have hp : 0 < s.length := List.length_pos_iff.2 h0
    refine callOk' Try.func62 8 [.tmp 2] _ rfl rfl rfl (by kernel_rfl) (by simp) [0] rfl rfl (by simp) ?_
    simp only [params]
    refine AWP.sR (Gam.nil_ok _) [0] (by apply aops_x (d := 2) (ag_n rfl) rfl (by first | (simp (disch := decide) only [hp, go_sem, seval] <;> rfl) | (simp (disch := first | decide | omega) only [if_pos, nws, hp, go_sem, seval] <;> rfl)) rfl; apply aops_end; rfl) (by (simp (disch := omega) only [go_sem, seval, lay, nws]); rfl) ?_
    refine AWP.seq ?_
    refine AWP.sR (Gam.nil_ok _) [0, 4] (by apply aops_mv (t := 0) (d := 3) (ag_n rfl) rfl rfl (by first | (simp only [look_lay, look, seval] <;> rfl) | fail) rfl; apply aops_x (d := 4) (ag_n rfl) rfl (by first | (simp (disch := decide) only [hp, go_sem, seval] <;> rfl) | (simp (disch := first | decide | omega) only [if_pos, nws, hp, go_sem, seval] <;> rfl)) rfl; apply aops_end; rfl) (by (simp (disch := omega) only [go_sem, seval, lay, nws]); rfl) ?_
    refine AWP.condF (b := _) rfl (by first | rfl | (simp only [decide_eq_true_eq, decide_eq_false_iff_not]; omega)) ?_
    refine AWP.skip ?_
    change AWP _ _ _ _ _
    refine AWP.sR (Gam.nil_ok _) [2] (by apply aops_x (d := 5) (ag_n rfl) rfl (by (simp (disch := first | decide | omega) only [if_pos, nws, hp, go_sem, seval] <;> rfl)) rfl; apply aops_mv (t := 0) (d := 6) (ag_n rfl) rfl rfl (by first | (simp only [look_lay, look, seval] <;> rfl) | fail) rfl; apply aops_x (d := 7) (ag_n rfl) rfl (by (simp (disch := first | decide | omega) only [if_pos, nws, hp, go_sem, seval] <;> rfl)) rfl; apply aops_as (t := 7) (d := 2) (ag_n rfl) rfl rfl (by first | (simp only [look_lay, look, seval] <;> rfl) | fail) rfl; apply aops_end; rfl) (by (simp (disch := omega) only [go_sem, seval, lay, nws]); rfl) ?_
    refine AWP.ghost (Ghost.gc (ρ := [1]) (by simp only [go_sem, seval] <;> rfl) rfl rfl rfl) ?_
    refine AWP.ret ?_
    refine ⟨.inr rfl, _, (by simp only [go_sem, seval, hp] <;> rfl), ?_⟩
    simp only [go_sem, seval, hp, Option.some.injEq, AV.c.injEq, AV.agg.injEq, CV.v.injEq, Value.int.injEq, Value.bool.injEq, Row.raw.injEq, List.cons.injEq, CV.sl.injEq, and_true, true_and, and_self]
theorem E62_ok : EntryOk Try.prog 62 E62 := pureN_ok (fun d hc => K62 d.1 hc) (fun _ => rfl) (fun _ => rfl)
attribute [go_sem] E62 c62 r62 L62
/-! Bits of 64. -/
theorem and64_nat (a b : Nat) (ha : a < 18446744073709551616) (hb : b < 18446744073709551616) : bits .and .u64 (a : Int) (b : Int) = ((a &&& b : Nat) : Int) := by
  show IntKind.u64.wrap (((BitVec.ofInt 64 (a : Int) &&& BitVec.ofInt 64 (b : Int)).toNat : Nat) : Int) = _
  have h := Nat.and_lt_two_pow (n := 64) a hb
  rw [BitVec.toNat_and, BitVec.toNat_ofInt, BitVec.toNat_ofInt]
  have e1 : ((a : Int) % (2 ^ 64 : Nat)).toNat = a := by omega
  have e2 : ((b : Int) % (2 ^ 64 : Nat)).toNat = b := by omega
  rw [e1, e2]
  exact wrap_u64' (by omega) (by omega)
theorem and63_nat (a b : Nat) (ha : a < 9223372036854775808) (hb : b < 9223372036854775808) : bits .and .i64 (a : Int) (b : Int) = ((a &&& b : Nat) : Int) := by
  show IntKind.i64.wrap (((BitVec.ofInt 64 (a : Int) &&& BitVec.ofInt 64 (b : Int)).toNat : Nat) : Int) = _
  have h := Nat.and_lt_two_pow (n := 63) a hb
  rw [BitVec.toNat_and, BitVec.toNat_ofInt, BitVec.toNat_ofInt]
  have e1 : ((a : Int) % (2 ^ 64 : Nat)).toNat = a := by omega
  have e2 : ((b : Int) % (2 ^ 64 : Nat)).toNat = b := by omega
  rw [e1, e2]
  exact wrap_i64' (by omega) (by omega)
theorem pwa : (2 : Int) ^ (Int.toNat 1) = 2 := by decide
theorem pwb : (2 : Int) ^ (Int.toNat 2) = 4 := by decide
theorem pwc : (2 : Int) ^ (Int.toNat 4) = 16 := by decide
theorem pwd : (2 : Int) ^ (Int.toNat 8) = 256 := by decide
theorem pwe : (2 : Int) ^ (Int.toNat 16) = 65536 := by decide
theorem pwf : (2 : Int) ^ (Int.toNat 32) = 4294967296 := by decide
abbrev c73 (x : Int) : Prop := 0 ≤ x ∧ x < 16777216
abbrev r73 (x : Int) : AV := .c (ci .i64 ((Ones.ones 24 x.toNat : Nat) : Int))
abbrev L73 (x : Int) : Hp := []
def E73 : Entry := pureN [(.i .u64)] (fun d => c73 d.1) (fun d => r73 d.1) (fun d => L73 d.1)
set_option maxRecDepth 100000 in
set_option maxHeartbeats 4000000 in
theorem K73 (x : Int) (hc : c73 x) : CallOk Try.prog 73 [.c (ci .u64 x)] [] (r73 x) (L73 x) := by
  have hc : 0 ≤ x ∧ x < 16777216 := hc
  obtain ⟨hx0, hx1⟩ := hc
  obtain ⟨n, rfl⟩ := Int.eq_ofNat_of_zero_le hx0
  have hn : n < 16777216 := by omega
  have key := Ones.count_eq n hn
  have q1 : n / 2 &&& Ones.M5 ≤ n / 2 := Nat.and_le_left
  have q2 : n &&& Ones.M5 ≤ n := Nat.and_le_left
  obtain ⟨x1, e1⟩ : ∃ x1, Ones.s1 Ones.M5 n = x1 := ⟨_, rfl⟩
  have e1' : (n / 2 &&& Ones.M5) + (n &&& Ones.M5) = x1 := e1
  have b1 : x1 < 67108864 := by omega
  have q3 : x1 / 4 &&& Ones.M3 ≤ x1 / 4 := Nat.and_le_left
  have q4 : x1 &&& Ones.M3 ≤ x1 := Nat.and_le_left
  obtain ⟨x2, e2⟩ : ∃ x2, Ones.s2 Ones.M3 x1 = x2 := ⟨_, rfl⟩
  have e2' : (x1 / 4 &&& Ones.M3) + (x1 &&& Ones.M3) = x2 := e2
  have b2 : x2 < 134217728 := by omega
  have q5 : (x2 / 16 + x2) &&& Ones.MF ≤ x2 / 16 + x2 := Nat.and_le_left
  obtain ⟨x3, e3⟩ : ∃ x3, Ones.bytesOf n = x3 := ⟨_, rfl⟩
  have e3' : (x2 / 16 + x2) &&& Ones.MF = x3 := by rw [← e3, ← e2, ← e1]; rfl
  have b3 : x3 < 268435456 := by omega
  obtain ⟨x4, e4⟩ : ∃ x4, x3 + x3 / 256 = x4 := ⟨_, rfl⟩
  obtain ⟨x5, e5⟩ : ∃ x5, x4 + x4 / 65536 = x5 := ⟨_, rfl⟩
  obtain ⟨x6, e6⟩ : ∃ x6, x5 + x5 / 4294967296 = x6 := ⟨_, rfl⟩
  have b4 : x4 < 536870912 := by omega
  have b5 : x5 < 1073741824 := by omega
  have b6 : x6 < 2147483648 := by omega
  have e7 : x6 &&& 127 = Ones.ones 24 n := by rw [← key, ← e6, ← e5, ← e4, ← e3]; rfl
  have d1 : (n : Int) / 2 = ((n / 2 : Nat) : Int) := by omega
  have d2 : (x1 : Int) / 4 = ((x1 / 4 : Nat) : Int) := by omega
  have d3 : (x2 : Int) / 16 = ((x2 / 16 : Nat) : Int) := by omega
  have d4 : (x3 : Int) / 256 = ((x3 / 256 : Nat) : Int) := by omega
  have d5 : (x4 : Int) / 65536 = ((x4 / 65536 : Nat) : Int) := by omega
  have d6 : (x5 : Int) / 4294967296 = ((x5 / 4294967296 : Nat) : Int) := by omega
  have a1 : bits .and .u64 ((n / 2 : Nat) : Int) 6148914691236517205 = ((n / 2 &&& Ones.M5 : Nat) : Int) := and64_nat (n / 2) Ones.M5 (by omega) (by decide)
  have a2 : bits .and .u64 (n : Int) 6148914691236517205 = ((n &&& Ones.M5 : Nat) : Int) := and64_nat n Ones.M5 (by omega) (by decide)
  have a3 : bits .and .u64 ((x1 / 4 : Nat) : Int) 3689348814741910323 = ((x1 / 4 &&& Ones.M3 : Nat) : Int) := and64_nat (x1 / 4) Ones.M3 (by omega) (by decide)
  have a4 : bits .and .u64 (x1 : Int) 3689348814741910323 = ((x1 &&& Ones.M3 : Nat) : Int) := and64_nat x1 Ones.M3 (by omega) (by decide)
  have a5 : bits .and .u64 ((x2 / 16 + x2 : Nat) : Int) 1085102592571150095 = (x3 : Int) := by rw [← e3']; exact and64_nat (x2 / 16 + x2) Ones.MF (by omega) (by decide)
  have a6 : bits .and .i64 (x6 : Int) 127 = ((Ones.ones 24 n : Nat) : Int) := by rw [← e7]; exact and63_nat x6 127 (by omega) (by decide)
  have p1 : IntKind.u64.wrap (((n / 2 &&& Ones.M5 : Nat) : Int) + ((n &&& Ones.M5 : Nat) : Int)) = (x1 : Int) := by rw [show ((n / 2 &&& Ones.M5 : Nat) : Int) + ((n &&& Ones.M5 : Nat) : Int) = (x1 : Int) by omega]; exact wrap_u64' (by omega) (by omega)
  have p2 : IntKind.u64.wrap (((x1 / 4 &&& Ones.M3 : Nat) : Int) + ((x1 &&& Ones.M3 : Nat) : Int)) = (x2 : Int) := by rw [show ((x1 / 4 &&& Ones.M3 : Nat) : Int) + ((x1 &&& Ones.M3 : Nat) : Int) = (x2 : Int) by omega]; exact wrap_u64' (by omega) (by omega)
  have p3 : IntKind.u64.wrap (((x2 / 16 : Nat) : Int) + (x2 : Int)) = ((x2 / 16 + x2 : Nat) : Int) := by rw [show ((x2 / 16 : Nat) : Int) + (x2 : Int) = ((x2 / 16 + x2 : Nat) : Int) by omega]; exact wrap_u64' (by omega) (by omega)
  have p4 : IntKind.u64.wrap ((x3 : Int) + ((x3 / 256 : Nat) : Int)) = (x4 : Int) := by rw [show (x3 : Int) + ((x3 / 256 : Nat) : Int) = (x4 : Int) by omega]; exact wrap_u64' (by omega) (by omega)
  have p5 : IntKind.u64.wrap ((x4 : Int) + ((x4 / 65536 : Nat) : Int)) = (x5 : Int) := by rw [show (x4 : Int) + ((x4 / 65536 : Nat) : Int) = (x5 : Int) by omega]; exact wrap_u64' (by omega) (by omega)
  have p6 : IntKind.u64.wrap ((x5 : Int) + ((x5 / 4294967296 : Nat) : Int)) = (x6 : Int) := by rw [show (x5 : Int) + ((x5 / 4294967296 : Nat) : Int) = (x6 : Int) by omega]; exact wrap_u64' (by omega) (by omega)
  have p7 : IntKind.i64.wrap (x6 : Int) = (x6 : Int) := wrap_i64' (by omega) (by omega)
  clear key e1 e2 e3 e1' e2' e3' q1 q2 q3 q4 q5 e4 e5 e6 e7
  refine callOk' Try.func73 35 [.tmp 2] _ rfl rfl rfl (by kernel_rfl) (by simp) [] rfl rfl (by simp) ?_
  simp only [params]
  refine AWP.sR (Gam.nil_ok _) [0] (by apply aops_x (d := 2) (ag_n rfl) rfl (by first | (simp (disch := decide) only [go_sem, seval] <;> rfl) | (simp (disch := first | decide | omega) only [if_pos, nws, go_sem, seval] <;> rfl)) rfl; apply aops_end; rfl) (by (simp (disch := omega) only [go_sem, seval, lay, nws]); rfl) ?_
  refine AWP.sR (Gam.nil_ok _) [0] (by apply aops_mv (t := 0) (d := 3) (ag_n rfl) rfl rfl (by first | (simp only [look_lay, look, seval] <;> rfl) | fail) rfl; apply aops_x (d := 4) (ag_n rfl) rfl (by (simp (disch := first | decide | omega) only [if_pos, nws, ↓p1, pwa, d1, a1, a2, p1, go_sem, seval] <;> rfl)) rfl; apply aops_x (d := 5) (ag_n rfl) rfl (by first | (simp (disch := decide) only [↓p1, pwa, d1, a1, a2, p1, go_sem, seval] <;> rfl) | (simp (disch := first | decide | omega) only [if_pos, nws, ↓p1, pwa, d1, a1, a2, p1, go_sem, seval] <;> rfl)) rfl; apply aops_mv (t := 0) (d := 6) (ag_n rfl) rfl rfl (by first | (simp only [look_lay, look, seval] <;> rfl) | fail) rfl; apply aops_x (d := 7) (ag_n rfl) rfl (by first | (simp (disch := decide) only [↓p1, pwa, d1, a1, a2, p1, go_sem, seval] <;> rfl) | (simp (disch := first | decide | omega) only [if_pos, nws, ↓p1, pwa, d1, a1, a2, p1, go_sem, seval] <;> rfl)) rfl; apply aops_x (d := 8) (ag_n rfl) rfl (by first | (simp (disch := decide) only [↓p1, pwa, d1, a1, a2, p1, go_sem, seval] <;> rfl) | (simp (disch := first | decide | omega) only [if_pos, nws, ↓p1, pwa, d1, a1, a2, p1, go_sem, seval] <;> rfl)) rfl; apply aops_as (t := 8) (d := 0) (ag_n rfl) rfl rfl (by first | (simp only [look_lay, look, seval] <;> rfl) | fail) rfl; apply aops_end; rfl) (by (simp (disch := omega) only [go_sem, seval, lay, nws]); rfl) ?_
  refine AWP.sR (Gam.nil_ok _) [0] (by apply aops_mv (t := 0) (d := 9) (ag_n rfl) rfl rfl (by first | (simp only [look_lay, look, seval] <;> rfl) | fail) rfl; apply aops_x (d := 10) (ag_n rfl) rfl (by (simp (disch := first | decide | omega) only [if_pos, nws, pwb, d2, a3, a4, p2, go_sem, seval] <;> rfl)) rfl; apply aops_x (d := 11) (ag_n rfl) rfl (by first | (simp (disch := decide) only [pwb, d2, a3, a4, p2, go_sem, seval] <;> rfl) | (simp (disch := first | decide | omega) only [if_pos, nws, pwb, d2, a3, a4, p2, go_sem, seval] <;> rfl)) rfl; apply aops_mv (t := 0) (d := 12) (ag_n rfl) rfl rfl (by first | (simp only [look_lay, look, seval] <;> rfl) | fail) rfl; apply aops_x (d := 13) (ag_n rfl) rfl (by first | (simp (disch := decide) only [pwb, d2, a3, a4, p2, go_sem, seval] <;> rfl) | (simp (disch := first | decide | omega) only [if_pos, nws, pwb, d2, a3, a4, p2, go_sem, seval] <;> rfl)) rfl; apply aops_x (d := 14) (ag_n rfl) rfl (by first | (simp (disch := decide) only [pwb, d2, a3, a4, p2, go_sem, seval] <;> rfl) | (simp (disch := first | decide | omega) only [if_pos, nws, pwb, d2, a3, a4, p2, go_sem, seval] <;> rfl)) rfl; apply aops_as (t := 14) (d := 0) (ag_n rfl) rfl rfl (by first | (simp only [look_lay, look, seval] <;> rfl) | fail) rfl; apply aops_end; rfl) (by (simp (disch := omega) only [go_sem, seval, lay, nws]); rfl) ?_
  refine AWP.sR (Gam.nil_ok _) [0] (by apply aops_mv (t := 0) (d := 15) (ag_n rfl) rfl rfl (by first | (simp only [look_lay, look, seval] <;> rfl) | fail) rfl; apply aops_x (d := 16) (ag_n rfl) rfl (by (simp (disch := first | decide | omega) only [if_pos, nws, pwc, d3, p3, a5, go_sem, seval] <;> rfl)) rfl; apply aops_mv (t := 0) (d := 17) (ag_n rfl) rfl rfl (by first | (simp only [look_lay, look, seval] <;> rfl) | fail) rfl; apply aops_x (d := 18) (ag_n rfl) rfl (by first | (simp (disch := decide) only [pwc, d3, p3, a5, go_sem, seval] <;> rfl) | (simp (disch := first | decide | omega) only [if_pos, nws, pwc, d3, p3, a5, go_sem, seval] <;> rfl)) rfl; apply aops_x (d := 19) (ag_n rfl) rfl (by first | (simp (disch := decide) only [pwc, d3, p3, a5, go_sem, seval] <;> rfl) | (simp (disch := first | decide | omega) only [if_pos, nws, pwc, d3, p3, a5, go_sem, seval] <;> rfl)) rfl; apply aops_as (t := 19) (d := 0) (ag_n rfl) rfl rfl (by first | (simp only [look_lay, look, seval] <;> rfl) | fail) rfl; apply aops_end; rfl) (by (simp (disch := omega) only [go_sem, seval, lay, nws]); rfl) ?_
  refine AWP.sR (Gam.nil_ok _) [0] (by apply aops_mv (t := 0) (d := 20) (ag_n rfl) rfl rfl (by first | (simp only [look_lay, look, seval] <;> rfl) | fail) rfl; apply aops_mv (t := 0) (d := 21) (ag_n rfl) rfl rfl (by first | (simp only [look_lay, look, seval] <;> rfl) | fail) rfl; apply aops_x (d := 22) (ag_n rfl) rfl (by (simp (disch := first | decide | omega) only [if_pos, nws, pwd, d4, p4, go_sem, seval] <;> rfl)) rfl; apply aops_x (d := 23) (ag_n rfl) rfl (by first | (simp (disch := decide) only [pwd, d4, p4, go_sem, seval] <;> rfl) | (simp (disch := first | decide | omega) only [if_pos, nws, pwd, d4, p4, go_sem, seval] <;> rfl)) rfl; apply aops_as (t := 23) (d := 0) (ag_n rfl) rfl rfl (by first | (simp only [look_lay, look, seval] <;> rfl) | fail) rfl; apply aops_end; rfl) (by (simp (disch := omega) only [go_sem, seval, lay, nws]); rfl) ?_
  refine AWP.sR (Gam.nil_ok _) [0] (by apply aops_mv (t := 0) (d := 24) (ag_n rfl) rfl rfl (by first | (simp only [look_lay, look, seval] <;> rfl) | fail) rfl; apply aops_mv (t := 0) (d := 25) (ag_n rfl) rfl rfl (by first | (simp only [look_lay, look, seval] <;> rfl) | fail) rfl; apply aops_x (d := 26) (ag_n rfl) rfl (by (simp (disch := first | decide | omega) only [if_pos, nws, pwe, d5, p5, go_sem, seval] <;> rfl)) rfl; apply aops_x (d := 27) (ag_n rfl) rfl (by first | (simp (disch := decide) only [pwe, d5, p5, go_sem, seval] <;> rfl) | (simp (disch := first | decide | omega) only [if_pos, nws, pwe, d5, p5, go_sem, seval] <;> rfl)) rfl; apply aops_as (t := 27) (d := 0) (ag_n rfl) rfl rfl (by first | (simp only [look_lay, look, seval] <;> rfl) | fail) rfl; apply aops_end; rfl) (by (simp (disch := omega) only [go_sem, seval, lay, nws]); rfl) ?_
  refine AWP.sR (Gam.nil_ok _) [0] (by apply aops_mv (t := 0) (d := 28) (ag_n rfl) rfl rfl (by first | (simp only [look_lay, look, seval] <;> rfl) | fail) rfl; apply aops_mv (t := 0) (d := 29) (ag_n rfl) rfl rfl (by first | (simp only [look_lay, look, seval] <;> rfl) | fail) rfl; apply aops_x (d := 30) (ag_n rfl) rfl (by (simp (disch := first | decide | omega) only [if_pos, nws, pwf, d6, p6, go_sem, seval] <;> rfl)) rfl; apply aops_x (d := 31) (ag_n rfl) rfl (by first | (simp (disch := decide) only [pwf, d6, p6, go_sem, seval] <;> rfl) | (simp (disch := first | decide | omega) only [if_pos, nws, pwf, d6, p6, go_sem, seval] <;> rfl)) rfl; apply aops_as (t := 31) (d := 0) (ag_n rfl) rfl rfl (by first | (simp only [look_lay, look, seval] <;> rfl) | fail) rfl; apply aops_end; rfl) (by (simp (disch := omega) only [go_sem, seval, lay, nws]); rfl) ?_
  refine AWP.sR (Gam.nil_ok _) [2] (by apply aops_mv (t := 0) (d := 32) (ag_n rfl) rfl rfl (by first | (simp only [look_lay, look, seval] <;> rfl) | fail) rfl; apply aops_x (d := 33) (ag_n rfl) rfl (by first | (simp (disch := decide) only [p7, a6, go_sem, seval] <;> rfl) | (simp (disch := first | decide | omega) only [if_pos, nws, p7, a6, go_sem, seval] <;> rfl)) rfl; apply aops_x (d := 34) (ag_n rfl) rfl (by first | (simp (disch := decide) only [p7, a6, go_sem, seval] <;> rfl) | (simp (disch := first | decide | omega) only [if_pos, nws, p7, a6, go_sem, seval] <;> rfl)) rfl; apply aops_as (t := 34) (d := 2) (ag_n rfl) rfl rfl (by first | (simp only [look_lay, look, seval] <;> rfl) | fail) rfl; apply aops_end; rfl) (by (simp (disch := omega) only [go_sem, seval, lay, nws]); rfl) ?_
  refine AWP.ret ?_
  refine ⟨.inr rfl, _, (by simp only [go_sem, seval] <;> rfl), ?_⟩
  simp only [go_sem, seval, Option.some.injEq, AV.c.injEq, AV.agg.injEq, CV.v.injEq, Value.int.injEq, Value.bool.injEq, Row.raw.injEq, List.cons.injEq, CV.sl.injEq, and_true, true_and, and_self]
  rw [Int.toNat_natCast]
theorem E73_ok : EntryOk Try.prog 73 E73 := pureN_ok (fun d hc => K73 d.1 hc) (fun _ => rfl) (fun _ => rfl)
attribute [go_sem] E73 c73 r73 L73
abbrev c61 (x : Int) : Prop := 0 ≤ x ∧ x < 16777216
abbrev r61 (x : Int) : AV := .c (ci .i64 ((Ones.ones 24 x.toNat : Nat) : Int))
abbrev L61 (x : Int) : Hp := []
def E61 : Entry := pureN [(.i .u64)] (fun d => c61 d.1) (fun d => r61 d.1) (fun d => L61 d.1)
set_option maxRecDepth 100000 in
set_option maxHeartbeats 4000000 in
theorem K61 (x : Int) (hc : c61 x) : CallOk Try.prog 61 [.c (ci .u64 x)] [] (r61 x) (L61 x) := by
  have hc : 0 ≤ x ∧ x < 16777216 := hc
  obtain ⟨hx0, hx1⟩ := hc
  have gok := (Gam.cons_ok E73_ok (Gam.nil_ok _))
  refine callOk' Try.func61 8 [.tmp 2] _ rfl rfl rfl (by kernel_rfl) (by simp) [] rfl rfl (by simp) ?_
  simp only [params]
  refine AWP.sR gok [0] (by apply aops_x (d := 2) (ag_n rfl) rfl (by first | (simp (disch := decide) only [hx0, hx1, go_sem, seval] <;> rfl) | (simp (disch := first | decide | omega) only [if_pos, nws, hx0, hx1, go_sem, seval] <;> rfl)) rfl; apply aops_end; rfl) (by (simp (disch := omega) only [go_sem, seval, lay, nws]); rfl) ?_
  refine AWP.seq ?_
  refine AWP.condF (b := _) rfl rfl ?_
  refine AWP.skip ?_
  change AWP _ _ _ _ _
  refine AWP.sR gok [2] (by apply aops_mv (t := 0) (d := 6) (ag_n rfl) rfl rfl (by first | (simp only [look_lay, look, seval] <;> rfl) | fail) rfl; apply aops_x (d := 7) (ag_n rfl) rfl (by (simp (disch := first | decide | omega) only [if_pos, nws, hx0, hx1, go_sem, seval] <;> rfl)) rfl; apply aops_as (t := 7) (d := 2) (ag_n rfl) rfl rfl (by first | (simp only [look_lay, look, seval] <;> rfl) | fail) rfl; apply aops_end; rfl) (by (simp (disch := omega) only [go_sem, seval, lay, nws]); rfl) ?_
  refine AWP.ret ?_
  refine ⟨.inr rfl, _, (by simp only [go_sem, seval, hx0, hx1] <;> rfl), ?_⟩
  simp only [go_sem, seval, hx0, hx1, Option.some.injEq, AV.c.injEq, AV.agg.injEq, CV.v.injEq, Value.int.injEq, Value.bool.injEq, Row.raw.injEq, List.cons.injEq, CV.sl.injEq, and_true, true_and, and_self]
theorem E61_ok : EntryOk Try.prog 61 E61 := pureN_ok (fun d hc => K61 d.1 hc) (fun _ => rfl) (fun _ => rfl)
attribute [go_sem] E61 c61 r61 L61
end Go.Proofs.Ytbdnhoddkdiogaa
