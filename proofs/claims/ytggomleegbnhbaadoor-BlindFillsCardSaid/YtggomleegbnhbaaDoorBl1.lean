import Derived.Test.YtggomleegbnhbaaDoorAi4
import Derived.Test.YtggomleegbnhbaaDoorTab
set_option linter.unusedSimpArgs false
set_option linter.unusedVariables false
namespace Go.Proofs.YtggomleegbnhbaaDoor
open Go.RowKit
/-! Texts and pads. -/
def byteOk (x : Int) : Prop := 0 ≤ x ∧ x < 256
def bytesOk (l : List Int) : Prop := ∀ x ∈ l, byteOk x
abbrev bx (a b : Int) : Int := bits .xor .u8 a b
theorem bits_nat (a b : Nat) (ha : a < 256) (hb : b < 256) : bx (a : Int) (b : Int) = ((a ^^^ b : Nat) : Int) := by
  show IntKind.u8.wrap (((BitVec.ofInt 8 (a : Int) ^^^ BitVec.ofInt 8 (b : Int)).toNat : Nat) : Int) = _
  have h := Nat.xor_lt_two_pow (n := 8) ha hb
  rw [BitVec.toNat_xor, BitVec.toNat_ofInt, BitVec.toNat_ofInt]
  have e1 : ((a : Int) % (2 ^ 8 : Nat)).toNat = a := by omega
  have e2 : ((b : Int) % (2 ^ 8 : Nat)).toNat = b := by omega
  rw [e1, e2]
  exact wrap_u8' (by omega) (by omega)
theorem xor_lt (a b : Nat) (ha : a < 256) (hb : b < 256) : a ^^^ b < 256 := Nat.xor_lt_two_pow (n := 8) ha hb
theorem bx_ok {a b : Int} (ha : byteOk a) (hb : byteOk b) : byteOk (bx a b) := by
  obtain ⟨a, rfl⟩ := Int.eq_ofNat_of_zero_le ha.1
  obtain ⟨b, rfl⟩ := Int.eq_ofNat_of_zero_le hb.1
  have := xor_lt a b (by have := ha.2; omega) (by have := hb.2; omega)
  rw [bits_nat a b (by have := ha.2; omega) (by have := hb.2; omega)]
  exact ⟨by omega, by omega⟩
theorem bx_comm {a b : Int} (ha : byteOk a) (hb : byteOk b) : bx a b = bx b a := by
  obtain ⟨a, rfl⟩ := Int.eq_ofNat_of_zero_le ha.1
  obtain ⟨b, rfl⟩ := Int.eq_ofNat_of_zero_le hb.1
  rw [bits_nat a b (by have := ha.2; omega) (by have := hb.2; omega), bits_nat b a (by have := hb.2; omega) (by have := ha.2; omega), Nat.xor_comm]
theorem bx_assoc {a b c : Int} (ha : byteOk a) (hb : byteOk b) (hc : byteOk c) : bx (bx a b) c = bx a (bx b c) := by
  obtain ⟨a, rfl⟩ := Int.eq_ofNat_of_zero_le ha.1
  obtain ⟨b, rfl⟩ := Int.eq_ofNat_of_zero_le hb.1
  obtain ⟨c, rfl⟩ := Int.eq_ofNat_of_zero_le hc.1
  have h1 : a < 256 := by have := ha.2; omega
  have h2 : b < 256 := by have := hb.2; omega
  have h3 : c < 256 := by have := hc.2; omega
  rw [bits_nat a b h1 h2, bits_nat b c h2 h3, bits_nat _ c (xor_lt a b h1 h2) h3, bits_nat a _ h1 (xor_lt b c h2 h3), Nat.xor_assoc]
theorem bx_self {a : Int} (ha : byteOk a) : bx a a = 0 := by
  obtain ⟨a, rfl⟩ := Int.eq_ofNat_of_zero_le ha.1
  rw [bits_nat a a (by have := ha.2; omega) (by have := ha.2; omega), Nat.xor_self]; rfl
theorem bx_zero {a : Int} (ha : byteOk a) : bx a 0 = a := by
  obtain ⟨a, rfl⟩ := Int.eq_ofNat_of_zero_le ha.1
  rw [show (0 : Int) = ((0 : Nat) : Int) from rfl, bits_nat a 0 (by have := ha.2; omega) (by omega), Nat.xor_zero]
theorem bx_cancel {a b : Int} (ha : byteOk a) (hb : byteOk b) : bx (bx a b) b = a := by rw [bx_assoc ha hb hb, bx_self hb, bx_zero ha]
/-- The first n places sealed. -/
def sealN (t p : List Int) : Nat → List Int
  | 0 => t
  | n + 1 => (sealN t p n).set n (bx ((sealN t p n)[n]?.getD 0) (p[n]?.getD 0))
theorem sealN_len (t p : List Int) : ∀ n, (sealN t p n).length = t.length
  | 0 => rfl
  | n + 1 => by rw [sealN, List.length_set, sealN_len t p n]
theorem sealN_at (t p : List Int) : ∀ n i, n ≤ t.length → (sealN t p n)[i]? = if i < n then some (bx (t[i]?.getD 0) (p[i]?.getD 0)) else t[i]?
  | 0, i, _ => by simp [sealN]
  | n + 1, i, h => by
    have ih := sealN_at t p n
    rw [sealN, List.getElem?_set, sealN_len]
    by_cases hi : n = i
    · subst hi
      rw [if_pos rfl, if_pos (by omega), if_pos (by omega), ih n (by omega), if_neg (by omega)]
    · rw [if_neg hi, ih i (by omega)]
      by_cases h1 : i < n
      · rw [if_pos h1, if_pos (by omega)]
      · rw [if_neg h1, if_neg (by omega)]
def sealF (t p : List Int) : List Int := if t.length = p.length then sealN t p p.length else []
theorem sealF_len {t p : List Int} (h : t.length = p.length) : (sealF t p).length = t.length := by rw [sealF, if_pos h, sealN_len]
theorem sealF_le (t p : List Int) : (sealF t p).length ≤ t.length := by
  unfold sealF; split
  · rw [sealN_len]; exact Nat.le_refl _
  · simp
theorem sealF_at {t p : List Int} (h : t.length = p.length) {i : Nat} (hi : i < t.length) : (sealF t p)[i]? = some (bx (t[i]?.getD 0) (p[i]?.getD 0)) := by
  rw [sealF, if_pos h, sealN_at t p _ i (by omega), if_pos (by omega)]
theorem at_ok {l : List Int} (h : bytesOk l) {i : Nat} (hi : i < l.length) : byteOk (l[i]?.getD 0) := by
  rw [List.getElem?_eq_getElem hi]; exact h _ (List.getElem_mem hi)
theorem sealF_ok {t p : List Int} (ht : bytesOk t) (hp : bytesOk p) : bytesOk (sealF t p) := fun x hx => by
  by_cases h : t.length = p.length
  · obtain ⟨i, hi, rfl⟩ := List.getElem_of_mem hx
    rw [sealF_len h] at hi
    have := sealF_at h hi
    rw [List.getElem?_eq_getElem (by rw [sealF_len h]; exact hi), Option.some.injEq] at this
    rw [this]
    exact bx_ok (at_ok ht hi) (at_ok hp (by omega))
  · rw [sealF, if_neg h] at hx; simp at hx
abbrev c14 (s : (List Int)) : Prop := s.length ≤ 4000000000
abbrev r14 (s : (List Int)) : AV := .c (.sl 0 0 s.length 1)
abbrev L14 (s : (List Int)) : Hp := [some (.ty (.i .u8) s)]
def E14 : Entry := pureN [(.sl (.i .u8))] (fun d => c14 d.1) (fun d => r14 d.1) (fun d => L14 d.1)
set_option maxRecDepth 100000 in
set_option maxHeartbeats 4000000 in
theorem K14 (s : (List Int)) (hc : c14 s) : CallOk Tryd.prog 14 [.c (.rs (.i .u8) s)] [] (r14 s) (L14 s) := by
  have hc : s.length ≤ 4000000000 := hc
  by_cases h0 : s = []
  · subst h0
    refine callOk' Tryd.func14 8 [.tmp 2] _ rfl rfl rfl (by kernel_rfl) (by simp) [0] rfl rfl (by simp) ?_
    simp only [params]
    refine AWP.sR (Gam.nil_ok _) [0] (by apply aops_x (d := 2) (ag_n rfl) rfl (by first | (simp (disch := decide) only [go_sem, seval] <;> rfl) | (simp (disch := first | decide | omega) only [if_pos, nws, go_sem, seval] <;> rfl)) rfl; apply aops_end; rfl) (by (simp (disch := omega) only [go_sem, seval, lay, nws]); rfl) ?_
    refine AWP.seq ?_
    refine AWP.sR (Gam.nil_ok _) [0, 4] (by apply aops_mv (t := 0) (d := 3) (ag_n rfl) rfl rfl (by first | (simp only [look_lay, look, seval] <;> rfl) | fail) rfl; apply aops_x (d := 4) (ag_n rfl) rfl (by first | (simp (disch := decide) only [go_sem, seval] <;> rfl) | (simp (disch := first | decide | omega) only [if_pos, nws, go_sem, seval] <;> rfl)) rfl; apply aops_end; rfl) (by (simp (disch := omega) only [go_sem, seval, lay, nws]); rfl) ?_
    refine AWP.condU rfl ?_ ?_
    · skip
      refine AWP.sR (Gam.nil_ok _) [2] (by apply aops_x (d := 2) (ag_n rfl) rfl (by first | (simp (disch := decide) only [go_sem, seval] <;> rfl) | (simp (disch := first | decide | omega) only [if_pos, nws, go_sem, seval] <;> rfl)) rfl; apply aops_end; rfl) (by (simp (disch := omega) only [go_sem, seval, lay, nws]); rfl) ?_
      refine AWP.ghost (Ghost.nil 2 1 (.i .u8) rfl (by simp)) ?_
      refine AWP.ret ?_
      refine ⟨.inr rfl, _, (by simp only [go_sem, seval] <;> rfl), ?_⟩
      simp only [go_sem, seval, Option.some.injEq, AV.c.injEq, AV.agg.injEq, CV.v.injEq, Value.int.injEq, Value.bool.injEq, Row.raw.injEq, List.cons.injEq, CV.sl.injEq, and_true, true_and, and_self]
    · skip
      refine AWP.skip ?_
      change AWP _ _ _ _ _
      refine AWP.sR (Gam.nil_ok _) [2] (by apply aops_x (d := 5) (ag_n rfl) rfl (by (simp (disch := first | decide | omega) only [if_pos, nws, go_sem, seval] <;> rfl)) rfl; apply aops_mv (t := 0) (d := 6) (ag_n rfl) rfl rfl (by first | (simp only [look_lay, look, seval] <;> rfl) | fail) rfl; apply aops_x (d := 7) (ag_n rfl) rfl (by (simp (disch := first | decide | omega) only [if_pos, nws, go_sem, seval] <;> rfl)) rfl; apply aops_as (t := 7) (d := 2) (ag_n rfl) rfl rfl (by first | (simp only [look_lay, look, seval] <;> rfl) | fail) rfl; apply aops_end; rfl) (by (simp (disch := omega) only [go_sem, seval, lay, nws]); rfl) ?_
      refine AWP.ghost (Ghost.gc (ρ := [1]) (by simp only [go_sem, seval] <;> rfl) rfl rfl rfl) ?_
      refine AWP.ret ?_
      refine ⟨.inr rfl, _, (by simp only [go_sem, seval] <;> rfl), ?_⟩
      simp only [go_sem, seval, Option.some.injEq, AV.c.injEq, AV.agg.injEq, CV.v.injEq, Value.int.injEq, Value.bool.injEq, Row.raw.injEq, List.cons.injEq, CV.sl.injEq, and_true, true_and, and_self]
  · skip
    have hp : 0 < s.length := List.length_pos_iff.2 h0
    refine callOk' Tryd.func14 8 [.tmp 2] _ rfl rfl rfl (by kernel_rfl) (by simp) [0] rfl rfl (by simp) ?_
    simp only [params]
    refine AWP.sR (Gam.nil_ok _) [0] (by apply aops_x (d := 2) (ag_n rfl) rfl (by first | (simp (disch := decide) only [hp, go_sem, seval] <;> rfl) | (simp (disch := first | decide | omega) only [if_pos, nws, hp, go_sem, seval] <;> rfl)) rfl; apply aops_end; rfl) (by (simp (disch := omega) only [go_sem, seval, lay, nws]); rfl) ?_
    refine AWP.seq ?_
    refine AWP.sR (Gam.nil_ok _) [0, 4] (by apply aops_mv (t := 0) (d := 3) (ag_n rfl) rfl rfl (by first | (simp only [look_lay, look, seval] <;> rfl) | fail) rfl; apply aops_x (d := 4) (ag_n rfl) rfl (by first | (simp (disch := decide) only [hp, go_sem, seval] <;> rfl) | (simp (disch := first | decide | omega) only [if_pos, nws, hp, go_sem, seval] <;> rfl)) rfl; apply aops_end; rfl) (by (simp (disch := omega) only [go_sem, seval, lay, nws]); rfl) ?_
    refine AWP.condF (b := _) rfl (by first | rfl | (simp only [decide_eq_true_eq, decide_eq_false_iff_not]; omega)) ?_
    refine AWP.skip ?_
    change AWP _ _ _ _ _
    refine AWP.sR (Gam.nil_ok _) [2] (by apply aops_x (d := 5) (ag_n rfl) rfl (by (simp (disch := first | decide | omega) only [if_pos, nws, hp, go_sem, seval] <;> rfl)) rfl; apply aops_mv (t := 0) (d := 6) (ag_n rfl) rfl rfl (by first | (simp only [look_lay, look, seval] <;> rfl) | fail) rfl; apply aops_x (d := 7) (ag_n rfl) rfl (by (simp (disch := first | decide | omega) only [if_pos, nws, hp, go_sem, seval] <;> rfl)) rfl; apply aops_as (t := 7) (d := 2) (ag_n rfl) rfl rfl (by first | (simp only [look_lay, look, seval] <;> rfl) | fail) rfl; apply aops_end; rfl) (by (simp (disch := omega) only [go_sem, seval, lay, nws]); rfl) ?_
    refine AWP.ghost (Ghost.gc (ρ := [1]) (by simp only [go_sem, seval] <;> rfl) rfl rfl rfl) ?_
    refine AWP.ret ?_
    refine ⟨.inr rfl, _, (by simp only [go_sem, seval, hp] <;> rfl), ?_⟩
    simp only [go_sem, seval, hp, Option.some.injEq, AV.c.injEq, AV.agg.injEq, CV.v.injEq, Value.int.injEq, Value.bool.injEq, Row.raw.injEq, List.cons.injEq, CV.sl.injEq, and_true, true_and, and_self]
theorem E14_ok : EntryOk Tryd.prog 14 E14 := pureN_ok (fun d hc => K14 d.1 hc) (fun _ => rfl) (fun _ => rfl)
attribute [go_sem] E14 c14 r14 L14
abbrev c15 (a : Int) (b : Int) : Prop := True
abbrev r15 (a : Int) (b : Int) : AV := .c (ci .u8 (bx a b))
abbrev L15 (a : Int) (b : Int) : Hp := []
def E15 : Entry := pureN [(.i .u8), (.i .u8)] (fun d => c15 d.1 d.2.1) (fun d => r15 d.1 d.2.1) (fun d => L15 d.1 d.2.1)
set_option maxRecDepth 100000 in
set_option maxHeartbeats 4000000 in
theorem K15 (a : Int) (b : Int) (hc : c15 a b) : CallOk Tryd.prog 15 [.c (ci .u8 a), .c (ci .u8 b)] [] (r15 a b) (L15 a b) := by
  refine callOk' Tryd.func15 8 [.tmp 4] _ rfl rfl rfl (by kernel_rfl) (by simp) [] rfl rfl (by simp) ?_
  simp only [params]
  refine AWP.sR (Gam.nil_ok _) [0, 1] (by apply aops_x (d := 4) (ag_n rfl) rfl (by first | (simp (disch := decide) only [go_sem, seval] <;> rfl) | (simp (disch := first | decide | omega) only [if_pos, nws, go_sem, seval] <;> rfl)) rfl; apply aops_end; rfl) (by (simp (disch := omega) only [go_sem, seval, lay, nws]); rfl) ?_
  refine AWP.sR (Gam.nil_ok _) [4] (by apply aops_mv (t := 0) (d := 5) (ag_n rfl) rfl rfl (by first | (simp only [look_lay, look, seval] <;> rfl) | fail) rfl; apply aops_mv (t := 1) (d := 6) (ag_n rfl) rfl rfl (by first | (simp only [look_lay, look, seval] <;> rfl) | fail) rfl; apply aops_x (d := 7) (ag_n rfl) rfl (by first | (simp (disch := decide) only [go_sem, seval] <;> rfl) | (simp (disch := first | decide | omega) only [if_pos, nws, go_sem, seval] <;> rfl)) rfl; apply aops_as (t := 7) (d := 4) (ag_n rfl) rfl rfl (by first | (simp only [look_lay, look, seval] <;> rfl) | fail) rfl; apply aops_end; rfl) (by (simp (disch := omega) only [go_sem, seval, lay, nws]); rfl) ?_
  refine AWP.ret ?_
  refine ⟨.inr rfl, _, (by simp only [go_sem, seval] <;> rfl), ?_⟩
  simp only [go_sem, seval, Option.some.injEq, AV.c.injEq, AV.agg.injEq, CV.v.injEq, Value.int.injEq, Value.bool.injEq, Row.raw.injEq, List.cons.injEq, CV.sl.injEq, and_true, true_and, and_self]
theorem E15_ok : EntryOk Tryd.prog 15 E15 := pureN_ok (fun d hc => K15 d.1 d.2.1 hc) (fun _ => rfl) (fun _ => rfl)
attribute [go_sem] E15 c15 r15 L15
abbrev c10 (t : (List Int)) (pd : (List Int)) : Prop := t.length ≤ 4000000000 ∧ pd.length ≤ 4000000000
abbrev r10 (t : (List Int)) (pd : (List Int)) : AV := .tup [.c (.sl 0 0 (sealF t pd).length 1), .c (ci .i64 (if t.length = pd.length then 0 else 1))]
abbrev L10 (t : (List Int)) (pd : (List Int)) : Hp := [some (.ty (.i .u8) (sealF t pd))]
def E10 : Entry := pureN [(.sl (.i .u8)), (.sl (.i .u8))] (fun d => c10 d.1 d.2.1) (fun d => r10 d.1 d.2.1) (fun d => L10 d.1 d.2.1)
set_option maxRecDepth 100000 in
set_option maxHeartbeats 4000000 in
theorem K10 (t : (List Int)) (pd : (List Int)) (hc : c10 t pd) : CallOk Tryd.prog 10 [.c (.rs (.i .u8) t), .c (.rs (.i .u8) pd)] [] (r10 t pd) (L10 t pd) := by
  have hc : t.length ≤ 4000000000 ∧ pd.length ≤ 4000000000 := hc
  obtain ⟨ht, hp⟩ := hc
  have gok := (Gam.cons_ok E14_ok (Gam.cons_ok E15_ok (Gam.nil_ok _)))
  refine callOk' Tryd.func10 34 [.tmp 4, .tmp 5] _ rfl rfl rfl (by kernel_rfl) (by simp) [0] rfl rfl (by simp) ?_
  simp only [params]
  refine AWP.sR gok [0, 1] (by apply aops_x (d := 4) (ag_n rfl) rfl (by first | (simp (disch := decide) only [go_sem, seval] <;> rfl) | (simp (disch := first | decide | omega) only [if_pos, nws, go_sem, seval] <;> rfl)) rfl; apply aops_x (d := 5) (ag_n rfl) rfl (by first | (simp (disch := decide) only [go_sem, seval] <;> rfl) | (simp (disch := first | decide | omega) only [if_pos, nws, go_sem, seval] <;> rfl)) rfl; apply aops_end; rfl) (by (simp (disch := omega) only [go_sem, seval, lay, nws]); rfl) ?_
  refine AWP.seq ?_
  refine AWP.sR gok [0, 1, 13] (by apply aops_mv (t := 0) (d := 9) (ag_n rfl) rfl rfl (by first | (simp only [look_lay, look, seval] <;> rfl) | fail) rfl; apply aops_x (d := 10) (ag_n rfl) rfl (by first | (simp (disch := decide) only [go_sem, seval] <;> rfl) | (simp (disch := first | decide | omega) only [if_pos, nws, go_sem, seval] <;> rfl)) rfl; apply aops_mv (t := 1) (d := 11) (ag_n rfl) rfl rfl (by first | (simp only [look_lay, look, seval] <;> rfl) | fail) rfl; apply aops_x (d := 12) (ag_n rfl) rfl (by first | (simp (disch := decide) only [go_sem, seval] <;> rfl) | (simp (disch := first | decide | omega) only [if_pos, nws, go_sem, seval] <;> rfl)) rfl; apply aops_x (d := 13) (ag_n rfl) rfl (by first | (simp (disch := decide) only [go_sem, seval] <;> rfl) | (simp (disch := first | decide | omega) only [if_pos, nws, go_sem, seval] <;> rfl)) rfl; apply aops_end; rfl) (by (simp (disch := omega) only [go_sem, seval, lay, nws]); rfl) ?_
  refine AWP.cond (b := _) rfl (fun h => ?_) (fun h => ?_) <;> (try simp only [decide_eq_true_eq, decide_eq_false_iff_not] at h)
  · skip
    refine AWP.sR gok [4, 5] (by apply aops_x (d := 4) (ag_n rfl) rfl (by first | (simp (disch := decide) only [go_sem, seval] <;> rfl) | (simp (disch := first | decide | omega) only [if_pos, nws, go_sem, seval] <;> rfl)) rfl; apply aops_x (d := 5) (ag_n rfl) rfl (by first | (simp (disch := decide) only [go_sem, seval] <;> rfl) | (simp (disch := first | decide | omega) only [if_pos, nws, go_sem, seval] <;> rfl)) rfl; apply aops_end; rfl) (by (simp (disch := omega) only [go_sem, seval, lay, nws]); rfl) ?_
    refine AWP.ghost (Ghost.nil 4 1 (.i .u8) rfl (by simp)) ?_
    refine AWP.ret ?_
    refine ⟨.inr rfl, _, (by simp only [go_sem, seval] <;> rfl), ?_⟩
    simp only [go_sem, seval, Option.some.injEq, AV.c.injEq, AV.agg.injEq, CV.v.injEq, Value.int.injEq, Value.bool.injEq, Row.raw.injEq, List.cons.injEq, CV.sl.injEq, and_true, true_and, and_self]
    have hne : ¬ t.length = pd.length := by omega
    have e : sealF t pd = [] := by rw [sealF, if_neg hne]
    show AV.tup [.c (.sl 0 0 0 1), .c (ci .i64 1)] = AV.tup [.c (.sl 0 0 (sealF t pd).length 1), .c (ci .i64 (if t.length = pd.length then 0 else 1))] ∧ _
    rw [e, if_neg hne]; exact ⟨rfl, rfl⟩
  · skip
    refine AWP.skip ?_
    change AWP _ _ _ _ _
    have hl : t.length = pd.length := by omega
    refine AWP.sR gok [1, 6] (by apply aops_mv (t := 0) (d := 14) (ag_n rfl) rfl rfl (by first | (simp only [look_lay, look, seval] <;> rfl) | fail) rfl; apply aops_x (d := 15) (ag_n rfl) rfl (by (simp (disch := first | decide | omega) only [if_pos, nws, go_sem, seval] <;> rfl)) rfl; apply aops_as (t := 15) (d := 6) (ag_n rfl) rfl rfl (by first | (simp only [look_lay, look, seval] <;> rfl) | fail) rfl; apply aops_end; rfl) (by (simp (disch := omega) only [go_sem, seval, lay, nws]); rfl) ?_
    refine AWP.seq ?_
    refine AWP.sR gok [6, 16, 17, 18] (by apply aops_mv (t := 1) (d := 16) (ag_n rfl) rfl rfl (by first | (simp only [look_lay, look, seval] <;> rfl) | fail) rfl; apply aops_x (d := 17) (ag_n rfl) rfl (by first | (simp (disch := decide) only [go_sem, seval] <;> rfl) | (simp (disch := first | decide | omega) only [if_pos, nws, go_sem, seval] <;> rfl)) rfl; apply aops_x (d := 18) (ag_n rfl) rfl (by first | (simp (disch := decide) only [go_sem, seval] <;> rfl) | (simp (disch := first | decide | omega) only [if_pos, nws, go_sem, seval] <;> rfl)) rfl; apply aops_end; rfl) (by (simp (disch := omega) only [go_sem, seval, lay, nws]); rfl) ?_
    refine AWP.block ?_
    refine AWP.loopP (fun (p : Nat) => ⟨34, [(6, .c (.sl 0 0 t.length 1)), (16, .c (.rs (.i .u8) pd)), (17, .c (ci .i64 (pd.length : Int))), (18, .c (ci .i64 (p : Int)))], [some (.ty (.i .u8) (sealN t pd p))]⟩) (fun p => p ≤ pd.length) (fun p => pd.length - p) 0 (Ghost.refl _ _) (Nat.zero_le _) ?_
    rintro i hi
    refine AWP.sR gok [6, 16, 17, 18, 19] (by apply aops_x (d := 19) (ag_n rfl) rfl (by first | (simp (disch := decide) only [go_sem, seval] <;> rfl) | (simp (disch := first | decide | omega) only [if_pos, nws, go_sem, seval] <;> rfl)) rfl; apply aops_end; rfl) (by (simp (disch := omega) only [go_sem, seval, lay, nws]); rfl) ?_
    refine AWP.seq ?_
    refine AWP.cond (b := _) rfl (fun h => ?_) (fun h => ?_) <;> (try simp only [decide_eq_true_eq, decide_eq_false_iff_not] at h)
    · skip
      refine AWP.skip ?_
      change AWP _ _ _ _ _
      refine AWP.seqBlock ?_
      have hi' : i < pd.length := by omega
      obtain ⟨y, hy⟩ : ∃ y, pd[i]? = some y := ⟨_, List.getElem?_eq_getElem hi'⟩
      obtain ⟨x, hx⟩ : ∃ x, (sealN t pd i)[i]? = some x := ⟨_, List.getElem?_eq_getElem (by rw [sealN_len]; omega)⟩
      have hsl := sealN_len t pd i
      have hil : i < (sealN t pd i).length := by omega
      refine AWP.sR gok [6, 7, 8, 16, 17, 18] (by apply aops_mv (t := 18) (d := 20) (ag_n rfl) rfl rfl (by first | (simp only [look_lay, look, seval] <;> rfl) | fail) rfl; apply aops_x (d := 21) (ag_n rfl) rfl (by (simp (disch := first | decide | omega) only [if_pos, nws, hy, go_sem, seval] <;> rfl)) rfl; apply aops_x (d := 22) (ag_n rfl) rfl (by first | (simp (disch := decide) only [hy, go_sem, seval] <;> rfl) | (simp (disch := first | decide | omega) only [if_pos, nws, hy, go_sem, seval] <;> rfl)) rfl; apply aops_as (t := 20) (d := 7) (ag_n rfl) rfl rfl (by first | (simp only [look_lay, look, seval] <;> rfl) | fail) rfl; apply aops_as (t := 22) (d := 8) (ag_n rfl) rfl rfl (by first | (simp only [look_lay, look, seval] <;> rfl) | fail) rfl; apply aops_end; rfl) (by (simp (disch := omega) only [go_sem, seval, lay, nws]); rfl) ?_
      refine AWP.rT gok [6, 16, 17, 18] (by apply aops_mv (t := 6) (d := 23) (ag_n rfl) rfl rfl (by first | (simp only [look_lay, look, seval] <;> rfl) | fail) rfl; apply aops_mv (t := 7) (d := 24) (ag_n rfl) rfl rfl (by first | (simp only [look_lay, look, seval] <;> rfl) | fail) rfl; apply aops_mv (t := 6) (d := 25) (ag_n rfl) rfl rfl (by first | (simp only [look_lay, look, seval] <;> rfl) | fail) rfl; apply aops_mv (t := 7) (d := 26) (ag_n rfl) rfl rfl (by first | (simp only [look_lay, look, seval] <;> rfl) | fail) rfl; apply aops_x (d := 27) (ag_n rfl) rfl (by (simp (disch := first | decide | omega) only [if_pos, nws, hx, hsl, go_sem, seval] <;> rfl)) rfl; apply aops_x (d := 28) (ag_n rfl) rfl (by first | (simp (disch := decide) only [hx, hsl, go_sem, seval] <;> rfl) | (simp (disch := first | decide | omega) only [if_pos, nws, hx, hsl, go_sem, seval] <;> rfl)) rfl; apply aops_mv (t := 8) (d := 29) (ag_n rfl) rfl rfl (by first | (simp only [look_lay, look, seval] <;> rfl) | fail) rfl; apply aops_x (d := 30) (ag_n rfl) rfl (by (simp (disch := first | decide | omega) only [if_pos, nws, hx, hsl, go_sem, seval] <;> rfl)) rfl; apply aops_x (d := 31) (ag_n rfl) rfl (by (simp (disch := first | decide | omega) only [if_pos, nws, hx, hsl, go_sem, seval] <;> rfl)) rfl; apply aops_s (ag_n rfl) rfl (by first | (simp (disch := decide) only [hx, hsl, go_sem, seval] <;> rfl) | (simp (disch := first | decide | omega) only [if_pos, nws, hx, hsl, go_sem, seval] <;> rfl)); apply aops_end; rfl) (by (simp (disch := omega) only [go_sem, seval, lay, nws]); rfl) ?_
      change AWP _ _ _ _ _
      refine AWP.rT gok [6, 16, 17, 18] (by apply aops_x (d := 32) (ag_n rfl) rfl (by first | (simp (disch := decide) only [go_sem, seval] <;> rfl) | (simp (disch := first | decide | omega) only [if_pos, nws, go_sem, seval] <;> rfl)) rfl; apply aops_mv (t := 32) (d := 18) (ag_n rfl) rfl rfl (by first | (simp only [look_lay, look, seval] <;> rfl) | fail) rfl; apply aops_end; rfl) (by (simp (disch := omega) only [go_sem, seval, lay, nws]); rfl) ?_
      exact ⟨i + 1, Ghost.of_eq (by simp only [sealN, hx, hy, Option.getD_some, Int.natCast_add, Int.cast_ofNat_Int] <;> rfl), by omega, by omega⟩
    · skip
      refine AWP.exit ?_
      change AWP _ _ _ _ _
      refine AWP.sR gok [4, 5] (by apply aops_mv (t := 6) (d := 33) (ag_n rfl) rfl rfl (by first | (simp only [look_lay, look, seval] <;> rfl) | fail) rfl; apply aops_as (t := 33) (d := 4) (ag_n rfl) rfl rfl (by first | (simp only [look_lay, look, seval] <;> rfl) | fail) rfl; apply aops_x (d := 5) (ag_n rfl) rfl (by first | (simp (disch := decide) only [go_sem, seval] <;> rfl) | (simp (disch := first | decide | omega) only [if_pos, nws, go_sem, seval] <;> rfl)) rfl; apply aops_end; rfl) (by (simp (disch := omega) only [go_sem, seval, lay, nws]); rfl) ?_
      refine AWP.ret ?_
      refine ⟨.inr rfl, _, (by simp only [go_sem, seval] <;> rfl), ?_⟩
      simp only [go_sem, seval, Option.some.injEq, AV.c.injEq, AV.agg.injEq, CV.v.injEq, Value.int.injEq, Value.bool.injEq, Row.raw.injEq, List.cons.injEq, CV.sl.injEq, and_true, true_and, and_self]
      have ei : i = pd.length := by omega
      subst ei
      have e : sealF t pd = sealN t pd pd.length := by rw [sealF, if_pos hl]
      show AV.tup [.c (.sl 0 0 t.length 1), .c (ci .i64 0)] = AV.tup [.c (.sl 0 0 (sealF t pd).length 1), .c (ci .i64 (if t.length = pd.length then 0 else 1))] ∧ _
      rw [if_pos hl, sealF_len hl, e]; exact ⟨rfl, rfl⟩
theorem E10_ok : EntryOk Tryd.prog 10 E10 := pureN_ok (fun d hc => K10 d.1 d.2.1 hc) (fun _ => rfl) (fun _ => rfl)
attribute [go_sem] E10 c10 r10 L10

theorem take_eq_step {a b : List Int} {i : Nat} {x y : Int} (h : a.take i = b.take i) (hx : a[i]? = some x) (hy : b[i]? = some y) (e : x = y) : a.take (i + 1) = b.take (i + 1) := by
  rw [List.take_add_one, List.take_add_one, h, hx, hy, e]
abbrev c9 (a : (List Int)) (b : (List Int)) : Prop := a.length ≤ 4000000000 ∧ b.length ≤ 4000000000
abbrev r9 (a : (List Int)) (b : (List Int)) : AV := .c (cb (decide (a = b)))
abbrev L9 (a : (List Int)) (b : (List Int)) : Hp := []
def E9 : Entry := pureN [(.sl (.i .u8)), (.sl (.i .u8))] (fun d => c9 d.1 d.2.1) (fun d => r9 d.1 d.2.1) (fun d => L9 d.1 d.2.1)
set_option maxRecDepth 100000 in
set_option maxHeartbeats 4000000 in
theorem K9 (a : (List Int)) (b : (List Int)) (hc : c9 a b) : CallOk Tryd.prog 9 [.c (.rs (.i .u8) a), .c (.rs (.i .u8) b)] [] (r9 a b) (L9 a b) := by
  have hc : a.length ≤ 4000000000 ∧ b.length ≤ 4000000000 := hc
  obtain ⟨ha, hb⟩ := hc
  refine callOk' Tryd.func9 26 [.tmp 4] _ rfl rfl rfl (by kernel_rfl) (by simp) [] rfl rfl (by simp) ?_
  simp only [params]
  refine AWP.sR (Gam.nil_ok _) [0, 1] (by apply aops_x (d := 4) (ag_n rfl) rfl (by first | (simp (disch := decide) only [go_sem, seval] <;> rfl) | (simp (disch := first | decide | omega) only [if_pos, nws, go_sem, seval] <;> rfl)) rfl; apply aops_end; rfl) (by (simp (disch := omega) only [go_sem, seval, lay, nws]); rfl) ?_
  refine AWP.seq ?_
  refine AWP.sR (Gam.nil_ok _) [0, 1, 10] (by apply aops_mv (t := 0) (d := 6) (ag_n rfl) rfl rfl (by first | (simp only [look_lay, look, seval] <;> rfl) | fail) rfl; apply aops_x (d := 7) (ag_n rfl) rfl (by first | (simp (disch := decide) only [go_sem, seval] <;> rfl) | (simp (disch := first | decide | omega) only [if_pos, nws, go_sem, seval] <;> rfl)) rfl; apply aops_mv (t := 1) (d := 8) (ag_n rfl) rfl rfl (by first | (simp only [look_lay, look, seval] <;> rfl) | fail) rfl; apply aops_x (d := 9) (ag_n rfl) rfl (by first | (simp (disch := decide) only [go_sem, seval] <;> rfl) | (simp (disch := first | decide | omega) only [if_pos, nws, go_sem, seval] <;> rfl)) rfl; apply aops_x (d := 10) (ag_n rfl) rfl (by first | (simp (disch := decide) only [go_sem, seval] <;> rfl) | (simp (disch := first | decide | omega) only [if_pos, nws, go_sem, seval] <;> rfl)) rfl; apply aops_end; rfl) (by (simp (disch := omega) only [go_sem, seval, lay, nws]); rfl) ?_
  refine AWP.cond (b := _) rfl (fun h => ?_) (fun h => ?_) <;> (try simp only [decide_eq_true_eq, decide_eq_false_iff_not] at h)
  · skip
    refine AWP.sR (Gam.nil_ok _) [4] (by apply aops_x (d := 4) (ag_n rfl) rfl (by first | (simp (disch := decide) only [go_sem, seval] <;> rfl) | (simp (disch := first | decide | omega) only [if_pos, nws, go_sem, seval] <;> rfl)) rfl; apply aops_end; rfl) (by (simp (disch := omega) only [go_sem, seval, lay, nws]); rfl) ?_
    refine AWP.ret ?_
    refine ⟨.inr rfl, _, (by simp only [go_sem, seval] <;> rfl), ?_⟩
    simp only [go_sem, seval, Option.some.injEq, AV.c.injEq, AV.agg.injEq, CV.v.injEq, Value.int.injEq, Value.bool.injEq, Row.raw.injEq, List.cons.injEq, CV.sl.injEq, and_true, true_and, and_self]
    rw [decide_eq_false (fun e => h (by rw [e]))]
  · skip
    refine AWP.skip ?_
    change AWP _ _ _ _ _
    refine AWP.seq ?_
    have hl : a.length = b.length := by omega
    refine AWP.sR (Gam.nil_ok _) [0, 1, 12, 13] (by apply aops_mv (t := 0) (d := 11) (ag_n rfl) rfl rfl (by first | (simp only [look_lay, look, seval] <;> rfl) | fail) rfl; apply aops_x (d := 12) (ag_n rfl) rfl (by first | (simp (disch := decide) only [go_sem, seval] <;> rfl) | (simp (disch := first | decide | omega) only [if_pos, nws, go_sem, seval] <;> rfl)) rfl; apply aops_x (d := 13) (ag_n rfl) rfl (by first | (simp (disch := decide) only [go_sem, seval] <;> rfl) | (simp (disch := first | decide | omega) only [if_pos, nws, go_sem, seval] <;> rfl)) rfl; apply aops_end; rfl) (by (simp (disch := omega) only [go_sem, seval, lay, nws]); rfl) ?_
    refine AWP.block ?_
    refine AWP.loopP (fun (p : Nat) => ⟨26, [(0, .c (.rs (.i .u8) a)), (1, .c (.rs (.i .u8) b)), (12, .c (ci .i64 (a.length : Int))), (13, .c (ci .i64 (p : Int)))], []⟩) (fun p => p ≤ a.length ∧ a.take p = b.take p) (fun p => a.length - p) 0 (Ghost.refl _ _) ⟨Nat.zero_le _, rfl⟩ ?_
    rintro i ⟨hi, ht⟩
    refine AWP.sR (Gam.nil_ok _) [0, 1, 12, 13, 14] (by apply aops_x (d := 14) (ag_n rfl) rfl (by first | (simp (disch := decide) only [go_sem, seval] <;> rfl) | (simp (disch := first | decide | omega) only [if_pos, nws, go_sem, seval] <;> rfl)) rfl; apply aops_end; rfl) (by (simp (disch := omega) only [go_sem, seval, lay, nws]); rfl) ?_
    refine AWP.seq ?_
    refine AWP.cond (b := _) rfl (fun h => ?_) (fun h => ?_) <;> (try simp only [decide_eq_true_eq, decide_eq_false_iff_not] at h)
    · skip
      refine AWP.skip ?_
      change AWP _ _ _ _ _
      refine AWP.seqBlock ?_
      have hi' : i < a.length := by omega
      obtain ⟨x, hx⟩ : ∃ x, a[i]? = some x := ⟨_, List.getElem?_eq_getElem hi'⟩
      obtain ⟨y, hy⟩ : ∃ y, b[i]? = some y := ⟨_, List.getElem?_eq_getElem (by omega)⟩
      have hib : i < b.length := by omega
      refine AWP.sR (Gam.nil_ok _) [0, 1, 5, 12, 13] (by apply aops_mv (t := 13) (d := 15) (ag_n rfl) rfl rfl (by first | (simp only [look_lay, look, seval] <;> rfl) | fail) rfl; apply aops_as (t := 15) (d := 5) (ag_n rfl) rfl rfl (by first | (simp only [look_lay, look, seval] <;> rfl) | fail) rfl; apply aops_end; rfl) (by (simp (disch := omega) only [go_sem, seval, lay, nws]); rfl) ?_
      refine AWP.sD (Gam.nil_ok _) (by kernel_rfl) [0, 1, 12, 13, 24] [⟨[], true, 0⟩, ⟨[], true, 0⟩, ⟨[], true, 0⟩, ⟨[], true, 0⟩, ⟨[], true, 0⟩, ⟨[], true, 0⟩, ⟨[], true, 0⟩, ⟨[], true, 0⟩, ⟨[], true, 0⟩] (by kernel_rfl) (by first | rfl | simp only [go_sem, ↓reduceIte, Nat.reduceLT, Nat.reduceAdd]) (by first | rfl | simp only [go_sem, ↓reduceIte, Nat.reduceLT, Nat.reduceAdd]) (by (repeat (first | apply arun_step (by first | exact ag_n rfl | exact ag_b rfl rfl rfl (by first | (simp only [look_lay, look, seval] <;> rfl) | fail) (by first | rfl | (simp only [hx, hy, hib, decide_true, decide_false] <;> rfl) | fail) | fail) (by first | (simp (disch := decide) only [hx, hy, hib, go_sem, seval]; rfl) | (simp (disch := first | decide | omega) only [if_pos, nws, hx, hy, hib, go_sem, seval]; rfl)) (by first | (intro h; cases h; done) | (intro _; rfl) | (intro _; simp only [go_sem, seval, lay])) (by first | rfl | simp only [go_sem, seval, lay]) (by first | rfl | simp only [go_sem, seval, lay]) (by first | rfl | simp only [go_sem, seval, lay]) (by simp only [go_sem, seval, lay]; rfl) | apply arun_pass (by first | exact ag_f rfl rfl rfl (by first | (simp only [look_lay, look, seval] <;> rfl) | fail) (by first | rfl | (simp only [hx, hy, hib, decide_true, decide_false] <;> rfl) | fail) | exact ag_u rfl rfl rfl (by first | (simp only [look_lay, look, seval] <;> rfl) | fail) | fail) rfl (by simp only [go_sem, seval, lay]; rfl))); exact rfl) (by (simp (disch := omega) only [go_sem, seval, lay, nws]); rfl) ?_
      refine AWP.cond (b := _) rfl (fun h => ?_) (fun h => ?_) <;> (try simp only [decide_eq_true_eq, decide_eq_false_iff_not] at h)
      · skip
        refine AWP.sR (Gam.nil_ok _) [4] (by apply aops_x (d := 4) (ag_n rfl) rfl (by first | (simp (disch := decide) only [go_sem, seval] <;> rfl) | (simp (disch := first | decide | omega) only [if_pos, nws, go_sem, seval] <;> rfl)) rfl; apply aops_end; rfl) (by (simp (disch := omega) only [go_sem, seval, lay, nws]); rfl) ?_
        refine AWP.ret ?_
        refine ⟨.inr rfl, _, (by simp only [go_sem, seval] <;> rfl), ?_⟩
        simp only [go_sem, seval, Option.some.injEq, AV.c.injEq, AV.agg.injEq, CV.v.injEq, Value.int.injEq, Value.bool.injEq, Row.raw.injEq, List.cons.injEq, CV.sl.injEq, and_true, true_and, and_self]
        rw [decide_eq_false (fun e => h (by subst e; rw [hx] at hy; exact Option.some.inj hy))]
      · skip
        refine AWP.skip ?_
        change AWP _ _ _ _ _
        refine AWP.rT (Gam.nil_ok _) [0, 1, 12, 13] (by apply aops_x (d := 25) (ag_n rfl) rfl (by first | (simp (disch := decide) only [go_sem, seval] <;> rfl) | (simp (disch := first | decide | omega) only [if_pos, nws, go_sem, seval] <;> rfl)) rfl; apply aops_mv (t := 25) (d := 13) (ag_n rfl) rfl rfl (by first | (simp only [look_lay, look, seval] <;> rfl) | fail) rfl; apply aops_end; rfl) (by (simp (disch := omega) only [go_sem, seval, lay, nws]); rfl) ?_
        exact ⟨i + 1, Ghost.of_eq (by simp only [Int.natCast_add, Int.cast_ofNat_Int] <;> rfl), ⟨by omega, take_eq_step ht hx hy (Decidable.not_not.1 h)⟩, by omega⟩
    · skip
      refine AWP.exit ?_
      change AWP _ _ _ _ _
      refine AWP.sR (Gam.nil_ok _) [4] (by apply aops_x (d := 4) (ag_n rfl) rfl (by first | (simp (disch := decide) only [go_sem, seval] <;> rfl) | (simp (disch := first | decide | omega) only [if_pos, nws, go_sem, seval] <;> rfl)) rfl; apply aops_end; rfl) (by (simp (disch := omega) only [go_sem, seval, lay, nws]); rfl) ?_
      refine AWP.ret ?_
      refine ⟨.inr rfl, _, (by simp only [go_sem, seval] <;> rfl), ?_⟩
      simp only [go_sem, seval, Option.some.injEq, AV.c.injEq, AV.agg.injEq, CV.v.injEq, Value.int.injEq, Value.bool.injEq, Row.raw.injEq, List.cons.injEq, CV.sl.injEq, and_true, true_and, and_self]
      have ei : i = a.length := by omega
      subst ei
      rw [List.take_length, hl, List.take_length] at ht
      rw [decide_eq_true ht]
theorem E9_ok : EntryOk Tryd.prog 9 E9 := pureN_ok (fun d hc => K9 d.1 d.2.1 hc) (fun _ => rfl) (fun _ => rfl)
attribute [go_sem] E9 c9 r9 L9
end Go.Proofs.YtggomleegbnhbaaDoor
