import Derived.Test.YtbdnhoddkdiogaaMkA
import Derived.Test.YtbdnhoddkdiogaaAi3
set_option linter.unusedSimpArgs false
set_option linter.unusedVariables false
namespace Go.Proofs.Ytbdnhoddkdiogaa
open Go.RowKit
/-- A number as bytes of 7 bits. -/
def num : Nat → Nat → List Int
  | 0, _ => []
  | k + 1, n => if n < 128 then [(n : Int)] else ((n % 128 + 128 : Nat) : Int) :: num k (n / 128)
theorem num_len : ∀ k n, (num k n).length ≤ k
  | 0, n => by simp [num]
  | k + 1, n => by
    rw [num]; split
    · simp
    · simp only [List.length_cons]; have := num_len k (n / 128); omega
theorem num_ok : ∀ k n, bytesOk (num k n)
  | 0, n => bytesOk_nil
  | k + 1, n => by
    rw [num]; split
    · exact bytesOk_cons.2 ⟨by omega, bytesOk_nil⟩
    · exact bytesOk_cons.2 ⟨by omega, num_ok k _⟩
theorem num_inj : ∀ (k n m : Nat) (a b : List Int), n < 128 ^ k → m < 128 ^ k → num k n ++ a = num k m ++ b → n = m ∧ a = b
  | 0, n, m, a, b, hn, hm, h => by
    rw [Nat.pow_zero] at hn hm
    exact ⟨by omega, by simpa [num] using h⟩
  | k + 1, n, m, a, b, hn, hm, h => by
    rw [Nat.pow_succ] at hn hm
    rw [num, num] at h
    split at h <;> split at h <;> simp only [List.cons_append, List.nil_append, List.cons.injEq] at h
    · exact ⟨by omega, h.2⟩
    · omega
    · omega
    · obtain ⟨h1, h2⟩ := h
      obtain ⟨h3, h4⟩ := num_inj k _ _ a b (by omega) (by omega) h2
      exact ⟨by omega, h4⟩
def texted (x : List Int) : List Int := num 10 x.length ++ x
def joined (l : List (List Int)) : List Int := l.flatMap texted
theorem joined_cons (x : List Int) (l : List (List Int)) : joined (x :: l) = num 10 x.length ++ (x ++ joined l) := by simp [joined, texted]
theorem joined_snoc (l : List (List Int)) (x : List Int) : joined (l ++ [x]) = joined l ++ texted x := by simp [joined]
theorem num_pos (k n : Nat) : 0 < (num (k + 1) n).length := by rw [num]; split <;> simp
theorem joined_inj : ∀ (l k : List (List Int)), (∀ x ∈ l, x.length ≤ 1000000) → (∀ x ∈ k, x.length ≤ 1000000) → joined l = joined k → l = k
  | [], [], _, _, _ => rfl
  | [], y :: k, _, _, h => by
    rw [joined_cons] at h
    have h2 := congrArg List.length h
    have np : 0 < (num 10 y.length).length := num_pos 9 y.length
    rw [List.length_append] at h2
    simp only [joined, List.flatMap_nil, List.length_nil] at h2; omega
  | x :: l, [], _, _, h => by
    rw [joined_cons] at h
    have h2 := congrArg List.length h
    have np : 0 < (num 10 x.length).length := num_pos 9 x.length
    rw [List.length_append] at h2
    simp only [joined, List.flatMap_nil, List.length_nil] at h2; omega
  | x :: l, y :: k, hl, hk, h => by
    rw [joined_cons, joined_cons] at h
    have b1 := hl x (by simp)
    have b2 := hk y (by simp)
    obtain ⟨h1, h2⟩ := num_inj 10 x.length y.length _ _ (by omega) (by omega) h
    obtain ⟨h3, h4⟩ := List.append_inj h2 h1
    rw [h3, joined_inj l k (fun z hz => hl z (by simp [hz])) (fun z hz => hk z (by simp [hz])) h4]
theorem or128 (m : Nat) : bits .or .u8 (IntKind.u8.wrap (m : Int)) 128 = ((m % 128 + 128 : Nat) : Int) := by
  have h : ∀ x : Fin 256, bits .or .u8 ((x : Nat) : Int) 128 = (((x : Nat) % 128 + 128 : Nat) : Int) := by decide +kernel
  have := h ⟨m % 256, Nat.mod_lt _ (by omega)⟩
  rw [show IntKind.u8.wrap (m : Int) = ((m % 256 : Nat) : Int) by simp [IntKind.wrap, IntKind.bits, IntKind.signed]]
  rw [this]; simp only; omega
theorem pw7 : (2 : Int) ^ (Int.toNat 7) = 128 := by decide
abbrev c68 (xs : List Int) (n : Int) : Prop := 0 ≤ n ∧ n < 18446744073709551616 ∧ xs.length ≤ 1000000
abbrev f68 (xs : List Int) (n : Int) : List Int := xs ++ num 10 n.toNat
set_option maxRecDepth 100000 in
set_option maxHeartbeats 4000000 in
theorem K68 (xs : List Int) (n : Int) (hc : c68 xs n) : CallOk Try.prog 68 [.c (.sl 0 0 xs.length 1), .c (ci .u64 n)] [some (.ty (.i .u8) xs)] (.c (.sl 1 0 (f68 xs n).length 1)) [none, some (.ty (.i .u8) (f68 xs n))] := by
  have hc : 0 ≤ n ∧ n < 18446744073709551616 ∧ xs.length ≤ 1000000 := hc
  obtain ⟨n, rfl⟩ := Int.eq_ofNat_of_zero_le hc.1
  refine callOk' Try.func68 20 [.tmp 4] _ rfl rfl rfl (by kernel_rfl) (by simp) [0, 3] rfl rfl (by simp) ?_
  simp only [params]
  refine AWP.sR (Gam.nil_ok _) [0, 1] (by apply aops_x (d := 4) (ag_n rfl) rfl (by first | (simp (disch := decide) only [pw7, or128, go_sem, seval] <;> rfl) | (simp (disch := first | decide | omega) only [if_pos, nws, pw7, or128, go_sem, seval] <;> rfl)) rfl; apply aops_end; rfl) (by (simp (disch := omega) only [go_sem, seval, lay, nws]); rfl) ?_
  refine AWP.seqBlock ?_
  refine AWP.loopP (fun (p : Nat × List Int × Nat) => ⟨20, [(0, .c (.sl 1 0 p.2.1.length 1)), (1, .c (ci .u64 (p.2.2 : Int)))], [none, some (.ty (.i .u8) p.2.1)]⟩) (fun p => p.2.2 < 128 * 128 ^ p.1 ∧ p.1 ≤ 9 ∧ p.2.1.length + p.1 ≤ 1000010 ∧ p.2.1 ++ num (p.1 + 1) p.2.2 = xs ++ num 10 n) (fun p => p.1) ⟨9, xs, n⟩ (Ghost.move 0 (id := 0) (o := 0) (len := xs.length) (e := 1) (r := .ty (.i .u8) xs) (r' := .ty (.i .u8) xs) rfl rfl (by simp [Row.part, Ty.sz]) (by simp)) ⟨by simp only; omega, by simp, by simp only; omega, rfl⟩ ?_
  rintro ⟨k, ys, m⟩ ⟨hm, hk, hy, he⟩
  simp only at hm hk hy he ⊢
  refine AWP.seq ?_
  refine AWP.sR (Gam.nil_ok _) [0, 1, 6] (by apply aops_mv (t := 1) (d := 5) (ag_n rfl) rfl rfl (by simp only [look_lay, look, seval] <;> rfl) rfl; apply aops_x (d := 6) (ag_n rfl) rfl (by first | (simp (disch := decide) only [pw7, or128, go_sem, seval] <;> rfl) | (simp (disch := first | decide | omega) only [if_pos, nws, pw7, or128, go_sem, seval] <;> rfl)) rfl; apply aops_end; rfl) (by (simp (disch := omega) only [go_sem, seval, lay, nws]); rfl) ?_
  refine AWP.cond (b := _) rfl (fun h => ?_) (fun h => ?_) <;> (try simp only [decide_eq_true_eq, decide_eq_false_iff_not] at h)
  · skip
    refine AWP.skip ?_
    change AWP _ _ _ _ _
    refine AWP.block ?_
    refine AWP.sR (Gam.nil_ok _) [0, 1] (by apply aops_mv (t := 0) (d := 7) (ag_n rfl) rfl rfl (by simp only [look_lay, look, seval] <;> rfl) rfl; apply aops_mv (t := 1) (d := 8) (ag_n rfl) rfl rfl (by simp only [look_lay, look, seval] <;> rfl) rfl; apply aops_x (d := 9) (ag_n rfl) rfl (by first | (simp (disch := decide) only [pw7, or128, go_sem, seval] <;> rfl) | (simp (disch := first | decide | omega) only [if_pos, nws, pw7, or128, go_sem, seval] <;> rfl)) rfl; apply aops_x (d := 10) (ag_n rfl) rfl (by first | (simp (disch := decide) only [pw7, or128, go_sem, seval] <;> rfl) | (simp (disch := first | decide | omega) only [if_pos, nws, pw7, or128, go_sem, seval] <;> rfl)) rfl; apply aops_x (d := 11) (ag_n rfl) rfl (by (simp (disch := first | decide | omega) only [if_pos, nws, pw7, or128, go_sem, seval] <;> rfl)) rfl; apply aops_x (d := 12) (ag_n rfl) rfl (by (simp (disch := first | decide | omega) only [if_pos, nws, pw7, or128, go_sem, seval] <;> rfl)) rfl; apply aops_as (t := 12) (d := 0) (ag_n rfl) rfl rfl (by simp only [look_lay, look, seval] <;> rfl) rfl; apply aops_end; rfl) (by (simp (disch := omega) only [go_sem, seval, lay, nws]); rfl) ?_
    refine AWP.rT (Gam.nil_ok _) [0, 1] (by apply aops_mv (t := 1) (d := 13) (ag_n rfl) rfl rfl (by simp only [look_lay, look, seval] <;> rfl) rfl; apply aops_x (d := 14) (ag_n rfl) rfl (by (simp (disch := first | decide | omega) only [if_pos, nws, pw7, or128, go_sem, seval] <;> rfl)) rfl; apply aops_as (t := 14) (d := 1) (ag_n rfl) rfl rfl (by simp only [look_lay, look, seval] <;> rfl) rfl; apply aops_end; rfl) (by (simp (disch := omega) only [go_sem, seval, lay, nws]); rfl) ?_
    obtain ⟨j, rfl⟩ : ∃ j, k = j + 1 := ⟨k - 1, by cases k <;> simp_all <;> omega⟩
    rw [Nat.pow_succ] at hm
    refine ⟨⟨j, ys ++ [((m % 128 + 128 : Nat) : Int)], m / 128⟩, Ghost.gc (ρ := [0, 3]) (by simp only [go_sem, seval, List.length_append] <;> rfl) rfl rfl rfl, ⟨?_, by simp only; omega, by simp only [List.length_append, List.length_cons, List.length_nil]; omega, ?_⟩, by simp only; omega⟩
    · simp only; rw [Nat.div_lt_iff_lt_mul (by omega)]; omega
    · simp only
      rw [← he]; conv => rhs; rw [num, if_neg (by omega)]
      rw [List.append_assoc]; rfl
  · skip
    refine AWP.exit ?_
    change AWP _ _ _ _ _
    refine AWP.sR (Gam.nil_ok _) [4] (by apply aops_mv (t := 0) (d := 15) (ag_n rfl) rfl rfl (by simp only [look_lay, look, seval] <;> rfl) rfl; apply aops_mv (t := 1) (d := 16) (ag_n rfl) rfl rfl (by simp only [look_lay, look, seval] <;> rfl) rfl; apply aops_x (d := 17) (ag_n rfl) rfl (by first | (simp (disch := decide) only [pw7, or128, go_sem, seval] <;> rfl) | (simp (disch := first | decide | omega) only [if_pos, nws, pw7, or128, go_sem, seval] <;> rfl)) rfl; apply aops_x (d := 18) (ag_n rfl) rfl (by (simp (disch := first | decide | omega) only [if_pos, nws, pw7, or128, go_sem, seval] <;> rfl)) rfl; apply aops_x (d := 19) (ag_n rfl) rfl (by (simp (disch := first | decide | omega) only [if_pos, nws, pw7, or128, go_sem, seval] <;> rfl)) rfl; apply aops_as (t := 19) (d := 4) (ag_n rfl) rfl rfl (by simp only [look_lay, look, seval] <;> rfl) rfl; apply aops_end; rfl) (by (simp (disch := omega) only [go_sem, seval, lay, nws]); rfl) ?_
    refine AWP.ret ?_
    refine ⟨.inr rfl, _, (by simp only [go_sem, seval, pw7, or128] <;> rfl), ?_⟩
    simp only [go_sem, seval, pw7, or128, Option.some.injEq, AV.c.injEq, AV.agg.injEq, CV.v.injEq, Value.int.injEq, Value.bool.injEq, Row.raw.injEq, List.cons.injEq, CV.sl.injEq, and_true, true_and, and_self]
    have e : xs ++ num 10 n = ys ++ [(m : Int)] := by rw [← he, num, if_pos (by omega)]
    have ef : f68 xs (n : Int) = ys ++ [(m : Int)] := by show xs ++ num 10 (n : Int).toNat = _; rw [Int.toNat_natCast, e]
    rw [ef]
    exact ⟨by simp, rfl⟩
def E68 : Entry := appE (.i .u8) [(.i .u64)] (fun xs d => c68 xs d.1) (fun xs d => f68 xs d.1)
theorem E68_ok : EntryOk Try.prog 68 E68 := appE_ok rfl fun xs d hc => K68 xs d.1 hc
attribute [go_sem] E68 c68 f68
abbrev c49 (xs : List Int) (t : (List Int)) : Prop := xs.length ≤ 1000000 ∧ t.length ≤ 1000000
abbrev f49 (xs : List Int) (t : (List Int)) : List Int := xs ++ texted t
set_option maxRecDepth 100000 in
set_option maxHeartbeats 4000000 in
theorem K49 (xs : List Int) (t : (List Int)) (hc : c49 xs t) : CallOk Try.prog 49 [.c (.sl 0 0 xs.length 1), .c (.rs (.i .u8) t)] [some (.ty (.i .u8) xs)] (.c (.sl 1 0 (f49 xs t).length 1)) [none, some (.ty (.i .u8) (f49 xs t))] := by
  have hc : xs.length ≤ 1000000 ∧ t.length ≤ 1000000 := hc
  have nl := num_len 10 t.length
  have el : (xs ++ num 10 t.length).length = xs.length + (num 10 t.length).length := List.length_append
  have gok := (Gam.cons_ok E68_ok (Gam.nil_ok _))
  refine callOk' Try.func49 12 [.tmp 4] _ rfl rfl rfl (by kernel_rfl) (by simp) [0, 2] rfl rfl (by simp) ?_
  simp only [params]
  refine AWP.sR gok [0, 1] (by apply aops_x (d := 4) (ag_n rfl) rfl (by first | (simp (disch := decide) only [el, go_sem, seval] <;> rfl) | (simp (disch := first | decide | omega) only [if_pos, nws, el, go_sem, seval] <;> rfl)) rfl; apply aops_end; rfl) (by (simp (disch := omega) only [go_sem, seval, lay, nws]); rfl) ?_
  refine AWP.sR gok [4] (by apply aops_mv (t := 0) (d := 5) (ag_n rfl) rfl rfl (by simp only [look_lay, look, seval] <;> rfl) rfl; apply aops_mv (t := 1) (d := 6) (ag_n rfl) rfl rfl (by simp only [look_lay, look, seval] <;> rfl) rfl; apply aops_x (d := 7) (ag_n rfl) rfl (by first | (simp (disch := decide) only [el, go_sem, seval] <;> rfl) | (simp (disch := first | decide | omega) only [if_pos, nws, el, go_sem, seval] <;> rfl)) rfl; apply aops_x (d := 8) (ag_n rfl) rfl (by first | (simp (disch := decide) only [el, go_sem, seval] <;> rfl) | (simp (disch := first | decide | omega) only [if_pos, nws, el, go_sem, seval] <;> rfl)) rfl; apply aops_x (d := 9) (ag_n rfl) rfl (by (simp (disch := first | decide | omega) only [if_pos, nws, el, go_sem, seval] <;> rfl)) rfl; apply aops_mv (t := 1) (d := 10) (ag_n rfl) rfl rfl (by simp only [look_lay, look, seval] <;> rfl) rfl; apply aops_x (d := 11) (ag_n rfl) rfl (by (simp (disch := first | decide | omega) only [if_pos, nws, el, go_sem, seval] <;> rfl)) rfl; apply aops_as (t := 11) (d := 4) (ag_n rfl) rfl rfl (by simp only [look_lay, look, seval] <;> rfl) rfl; apply aops_end; rfl) (by (simp (disch := omega) only [go_sem, seval, lay, nws]); rfl) ?_
  refine AWP.ret ?_
  refine ⟨.inr rfl, _, (by simp only [go_sem, seval, el] <;> rfl), ?_⟩
  simp only [go_sem, seval, el, Option.some.injEq, AV.c.injEq, AV.agg.injEq, CV.v.injEq, Value.int.injEq, Value.bool.injEq, Row.raw.injEq, List.cons.injEq, CV.sl.injEq, and_true, true_and, and_self]
  have ef : f49 xs t = xs ++ (num 10 t.length ++ t) := rfl
  rw [ef]
  exact ⟨by simp; omega, rfl⟩
def E49 : Entry := appE (.i .u8) [(.sl (.i .u8))] (fun xs d => c49 xs d.1) (fun xs d => f49 xs d.1)
theorem E49_ok : EntryOk Try.prog 49 E49 := appE_ok rfl fun xs d hc => K49 xs d.1 hc
attribute [go_sem] E49 c49 f49
abbrev c67 (n : Int) : Prop := 0 ≤ n ∧ n < 18446744073709551616
abbrev r67 (n : Int) : AV := .c (.sl 0 0 (num 10 n.toNat).length 1)
abbrev L67 (n : Int) : Hp := [some (.ty (.i .u8) (num 10 n.toNat))]
def E67 : Entry := pureN [(.i .u64)] (fun d => c67 d.1) (fun d => r67 d.1) (fun d => L67 d.1)
set_option maxRecDepth 100000 in
set_option maxHeartbeats 4000000 in
theorem K67 (n : Int) (hc : c67 n) : CallOk Try.prog 67 [.c (ci .u64 n)] [] (r67 n) (L67 n) := by
  have hc : 0 ≤ n ∧ n < 18446744073709551616 := hc
  obtain ⟨n, rfl⟩ := Int.eq_ofNat_of_zero_le hc.1
  refine callOk' Try.func67 20 [.tmp 2] _ rfl rfl rfl (by kernel_rfl) (by simp) [2] rfl rfl (by simp) ?_
  simp only [params]
  refine AWP.sR (Gam.nil_ok _) [0] (by apply aops_x (d := 2) (ag_n rfl) rfl (by first | (simp (disch := decide) only [go_sem, seval] <;> rfl) | (simp (disch := first | decide | omega) only [if_pos, nws, go_sem, seval] <;> rfl)) rfl; apply aops_end; rfl) (by (simp (disch := omega) only [go_sem, seval, lay, nws]); rfl) ?_
  refine AWP.sR (Gam.nil_ok _) [0, 3] (by apply aops_x (d := 3) (ag_n rfl) rfl (by first | (simp (disch := decide) only [go_sem, seval] <;> rfl) | (simp (disch := first | decide | omega) only [if_pos, nws, go_sem, seval] <;> rfl)) rfl; apply aops_end; rfl) (by (simp (disch := omega) only [go_sem, seval, lay, nws]); rfl) ?_
  refine AWP.seqBlock ?_
  refine AWP.loopP (fun (p : Nat × List Int × Nat) => ⟨20, [(0, .c (ci .u64 (p.2.2 : Int))), (3, .c (.sl 0 0 p.2.1.length 1))], [some (.ty (.i .u8) p.2.1)]⟩) (fun p => p.2.2 < 128 * 128 ^ p.1 ∧ (p.1 ≤ 9 ∧ p.2.2 < 18446744073709551616) ∧ p.2.1.length + p.1 ≤ 10 ∧ p.2.1 ++ num (p.1 + 1) p.2.2 = num 10 n) (fun p => p.1) ⟨9, [], n⟩ (Ghost.nil 3 1 (.i .u8) rfl (by simp)) ⟨by simp only; omega, by simp only; omega, by simp, rfl⟩ ?_
  rintro ⟨k, ys, m⟩ ⟨hm, hk, hy, he⟩
  simp only at hm hk hy he ⊢
  refine AWP.seq ?_
  refine AWP.sR (Gam.nil_ok _) [0, 3, 5] (by apply aops_mv (t := 0) (d := 4) (ag_n rfl) rfl rfl (by simp only [look_lay, look, seval] <;> rfl) rfl; apply aops_x (d := 5) (ag_n rfl) rfl (by first | (simp (disch := decide) only [go_sem, seval] <;> rfl) | (simp (disch := first | decide | omega) only [if_pos, nws, go_sem, seval] <;> rfl)) rfl; apply aops_end; rfl) (by (simp (disch := omega) only [go_sem, seval, lay, nws]); rfl) ?_
  refine AWP.cond (b := _) rfl (fun h => ?_) (fun h => ?_) <;> (try simp only [decide_eq_true_eq, decide_eq_false_iff_not] at h)
  · skip
    refine AWP.skip ?_
    change AWP _ _ _ _ _
    refine AWP.block ?_
    refine AWP.sR (Gam.nil_ok _) [0, 3] (by apply aops_mv (t := 3) (d := 6) (ag_n rfl) rfl rfl (by simp only [look_lay, look, seval] <;> rfl) rfl; apply aops_mv (t := 0) (d := 7) (ag_n rfl) rfl rfl (by simp only [look_lay, look, seval] <;> rfl) rfl; apply aops_x (d := 8) (ag_n rfl) rfl (by (simp (disch := first | decide | omega) only [if_pos, nws, go_sem, seval] <;> rfl)) rfl; apply aops_x (d := 9) (ag_n rfl) rfl (by first | (simp (disch := decide) only [go_sem, seval] <;> rfl) | (simp (disch := first | decide | omega) only [if_pos, nws, go_sem, seval] <;> rfl)) rfl; apply aops_x (d := 10) (ag_n rfl) rfl (by first | (simp (disch := decide) only [go_sem, seval] <;> rfl) | (simp (disch := first | decide | omega) only [if_pos, nws, go_sem, seval] <;> rfl)) rfl; apply aops_x (d := 11) (ag_n rfl) rfl (by (simp (disch := first | decide | omega) only [if_pos, nws, go_sem, seval] <;> rfl)) rfl; apply aops_x (d := 12) (ag_n rfl) rfl (by (simp (disch := first | decide | omega) only [if_pos, nws, go_sem, seval] <;> rfl)) rfl; apply aops_as (t := 12) (d := 3) (ag_n rfl) rfl rfl (by simp only [look_lay, look, seval] <;> rfl) rfl; apply aops_end; rfl) (by (simp (disch := omega) only [go_sem, seval, lay, nws]); rfl) ?_
    refine AWP.rT (Gam.nil_ok _) [0, 3] (by apply aops_mv (t := 0) (d := 13) (ag_n rfl) rfl rfl (by simp only [look_lay, look, seval] <;> rfl) rfl; apply aops_x (d := 14) (ag_n rfl) rfl (by (simp (disch := first | decide | omega) only [if_pos, nws, go_sem, seval] <;> rfl)) rfl; apply aops_as (t := 14) (d := 0) (ag_n rfl) rfl rfl (by simp only [look_lay, look, seval] <;> rfl) rfl; apply aops_end; rfl) (by (simp (disch := omega) only [go_sem, seval, lay, nws]); rfl) ?_
    obtain ⟨j, rfl⟩ : ∃ j, k = j + 1 := ⟨k - 1, by cases k <;> simp_all <;> omega⟩
    rw [Nat.pow_succ] at hm
    rw [show (m : Int) % 128 + 128 = ((m % 128 + 128 : Nat) : Int) by omega, show (m : Int) / 128 = ((m / 128 : Nat) : Int) by omega]
    refine ⟨⟨j, ys ++ [((m % 128 + 128 : Nat) : Int)], m / 128⟩, Ghost.gc (ρ := [2]) (by simp only [go_sem, seval, List.length_append] <;> rfl) rfl rfl rfl, ⟨?_, by simp only; omega, by simp only [List.length_append, List.length_cons, List.length_nil]; omega, ?_⟩, by simp only; omega⟩
    · simp only; rw [Nat.div_lt_iff_lt_mul (by omega)]; omega
    · simp only
      rw [← he]; conv => rhs; rw [num, if_neg (by omega)]
      rw [List.append_assoc]; rfl
  · skip
    refine AWP.exit ?_
    change AWP _ _ _ _ _
    refine AWP.sR (Gam.nil_ok _) [2] (by apply aops_mv (t := 3) (d := 15) (ag_n rfl) rfl rfl (by simp only [look_lay, look, seval] <;> rfl) rfl; apply aops_mv (t := 0) (d := 16) (ag_n rfl) rfl rfl (by simp only [look_lay, look, seval] <;> rfl) rfl; apply aops_x (d := 17) (ag_n rfl) rfl (by first | (simp (disch := decide) only [go_sem, seval] <;> rfl) | (simp (disch := first | decide | omega) only [if_pos, nws, go_sem, seval] <;> rfl)) rfl; apply aops_x (d := 18) (ag_n rfl) rfl (by (simp (disch := first | decide | omega) only [if_pos, nws, go_sem, seval] <;> rfl)) rfl; apply aops_x (d := 19) (ag_n rfl) rfl (by (simp (disch := first | decide | omega) only [if_pos, nws, go_sem, seval] <;> rfl)) rfl; apply aops_as (t := 19) (d := 2) (ag_n rfl) rfl rfl (by simp only [look_lay, look, seval] <;> rfl) rfl; apply aops_end; rfl) (by (simp (disch := omega) only [go_sem, seval, lay, nws]); rfl) ?_
    refine AWP.ret ?_
    refine ⟨.inr rfl, _, (by simp only [go_sem, seval] <;> rfl), ?_⟩
    simp only [go_sem, seval, Option.some.injEq, AV.c.injEq, AV.agg.injEq, CV.v.injEq, Value.int.injEq, Value.bool.injEq, Row.raw.injEq, List.cons.injEq, CV.sl.injEq, and_true, true_and, and_self]
    have e : num 10 n = ys ++ [(m : Int)] := by rw [← he, num, if_pos (by omega)]
    rw [Int.toNat_natCast, e]
    exact ⟨by simp, rfl⟩
theorem E67_ok : EntryOk Try.prog 67 E67 := pureN_ok (fun d hc => K67 d.1 hc) (fun _ => rfl) (fun _ => rfl)
attribute [go_sem] E67 c67 r67 L67
abbrev c48 (t : (List Int)) : Prop := t.length ≤ 1000000
abbrev r48 (t : (List Int)) : AV := .c (.sl 0 0 (texted t).length 1)
abbrev L48 (t : (List Int)) : Hp := [some (.ty (.i .u8) (texted t))]
def E48 : Entry := pureN [(.sl (.i .u8))] (fun d => c48 d.1) (fun d => r48 d.1) (fun d => L48 d.1)
set_option maxRecDepth 100000 in
set_option maxHeartbeats 4000000 in
theorem K48 (t : (List Int)) (hc : c48 t) : CallOk Try.prog 48 [.c (.rs (.i .u8) t)] [] (r48 t) (L48 t) := by
  have hc : t.length ≤ 1000000 := hc
  have nl := num_len 10 t.length
  have gok := (Gam.cons_ok E67_ok (Gam.nil_ok _))
  refine callOk' Try.func48 9 [.tmp 2] _ rfl rfl rfl (by kernel_rfl) (by simp) [1] rfl rfl (by simp) ?_
  simp only [params]
  refine AWP.sR gok [0] (by apply aops_x (d := 2) (ag_n rfl) rfl (by first | (simp (disch := decide) only [go_sem, seval] <;> rfl) | (simp (disch := first | decide | omega) only [if_pos, nws, go_sem, seval] <;> rfl)) rfl; apply aops_end; rfl) (by (simp (disch := omega) only [go_sem, seval, lay, nws]); rfl) ?_
  refine AWP.sR gok [2] (by apply aops_mv (t := 0) (d := 3) (ag_n rfl) rfl rfl (by simp only [look_lay, look, seval] <;> rfl) rfl; apply aops_x (d := 4) (ag_n rfl) rfl (by first | (simp (disch := decide) only [go_sem, seval] <;> rfl) | (simp (disch := first | decide | omega) only [if_pos, nws, go_sem, seval] <;> rfl)) rfl; apply aops_x (d := 5) (ag_n rfl) rfl (by first | (simp (disch := decide) only [go_sem, seval] <;> rfl) | (simp (disch := first | decide | omega) only [if_pos, nws, go_sem, seval] <;> rfl)) rfl; apply aops_x (d := 6) (ag_n rfl) rfl (by (simp (disch := first | decide | omega) only [if_pos, nws, go_sem, seval] <;> rfl)) rfl; apply aops_mv (t := 0) (d := 7) (ag_n rfl) rfl rfl (by simp only [look_lay, look, seval] <;> rfl) rfl; apply aops_x (d := 8) (ag_n rfl) rfl (by (simp (disch := first | decide | omega) only [if_pos, nws, go_sem, seval] <;> rfl)) rfl; apply aops_as (t := 8) (d := 2) (ag_n rfl) rfl rfl (by simp only [look_lay, look, seval] <;> rfl) rfl; apply aops_end; rfl) (by (simp (disch := omega) only [go_sem, seval, lay, nws]); rfl) ?_
  refine AWP.ret ?_
  refine ⟨.inr rfl, _, (by simp only [go_sem, seval] <;> rfl), ?_⟩
  simp only [go_sem, seval, Option.some.injEq, AV.c.injEq, AV.agg.injEq, CV.v.injEq, Value.int.injEq, Value.bool.injEq, Row.raw.injEq, List.cons.injEq, CV.sl.injEq, and_true, true_and, and_self]
  unfold texted
  exact ⟨by simp, rfl⟩
theorem E48_ok : EntryOk Try.prog 48 E48 := pureN_ok (fun d hc => K48 d.1 hc) (fun _ => rfl) (fun _ => rfl)
attribute [go_sem] E48 c48 r48 L48
end Go.Proofs.Ytbdnhoddkdiogaa
