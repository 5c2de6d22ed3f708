import Derived.Test.YtcnoooodnmjdmaaTab
import Derived.Test.YtcnoooodnmjdmaaAi3
import Derived.Lib.Mul64
import Derived.Laws.Bits64b
set_option linter.unusedSimpArgs false
set_option linter.unusedVariables false
namespace Go.Proofs.Ytcnoooodnmjdmaa
open Go.RowKit
def heldf (n : Int) : Int := max 1 (min n 4096)
def cmpI (x y : Int) : Int := if x < y then -1 else if y < x then 1 else 0
theorem maskN (a : Nat) (ha : a < 18446744073709551616) : bits .and .u64 (a : Int) 4294967295 = ((a % 4294967296 : Nat) : Int) := by
  have h := bits_and_u64_nat a 4294967295 ha (by omega)
  have e : a &&& 4294967295 = a % 4294967296 := Nat.and_two_pow_sub_one_eq_mod a 32
  rw [e] at h
  exact h
theorem divN (a : Nat) : (a : Int) / 4294967296 = ((a / 4294967296 : Nat) : Int) := by omega
theorem mulN (a b : Nat) : (a : Int) * (b : Int) = ((a * b : Nat) : Int) := (Int.natCast_mul a b).symm
theorem addN (a b : Nat) : (a : Int) + (b : Int) = ((a + b : Nat) : Int) := (Int.natCast_add a b).symm
theorem wrapN (a : Nat) (ha : a < 18446744073709551616) : IntKind.u64.wrap (a : Int) = (a : Int) := by rw [IntKind.wrap_u64]; omega
theorem wrapM (a : Nat) : IntKind.u64.wrap (a : Int) = ((a % 18446744073709551616 : Nat) : Int) := by rw [IntKind.wrap_u64]; omega
theorem pow32 : (2 : Int) ^ (Int.toNat 32) = 4294967296 := by decide
abbrev c26 (n : Int) : Prop := True
abbrev r26 (n : Int) : AV := .c (ci .u64 (heldf n))
abbrev L26 (n : Int) : Hp := []
def E26 : Entry := pureN [(.i .i64)] (fun d => c26 d.1) (fun d => r26 d.1) (fun d => L26 d.1)
set_option maxRecDepth 100000 in
set_option maxHeartbeats 4000000 in
theorem K26 (n : Int) (hc : c26 n) : CallOk Try.prog 26 [.c (ci .i64 n)] [] (r26 n) (L26 n) := by
  refine callOk' Try.func26 7 [.tmp 2] _ rfl rfl rfl (by kernel_rfl) (by simp) [] rfl rfl (by simp) ?_
  simp only [params]
  refine AWP.sR (Gam.nil_ok _) [0] (by apply aops_x (d := 2) (ag_n rfl) rfl (by first | (simp (disch := decide) only [go_sem, seval] <;> rfl) | (simp (disch := first | decide | omega) only [if_pos, nws, go_sem, seval] <;> rfl)) rfl; apply aops_end; rfl) (by (simp (disch := omega) only [go_sem, seval, lay, nws]); rfl) ?_
  refine AWP.sR (Gam.nil_ok _) [2] (by apply aops_mv (t := 0) (d := 3) (ag_n rfl) rfl rfl (by first | (simp only [look_lay, look, seval] <;> rfl) | fail) rfl; apply aops_x (d := 4) (ag_n rfl) rfl (by (simp (disch := first | decide | omega) only [if_pos, nws, go_sem, seval] <;> rfl)) rfl; apply aops_x (d := 5) (ag_n rfl) rfl (by (simp (disch := first | decide | omega) only [if_pos, nws, go_sem, seval] <;> rfl)) rfl; apply aops_x (d := 6) (ag_n rfl) rfl (by first | (simp (disch := decide) only [go_sem, seval] <;> rfl) | (simp (disch := first | decide | omega) only [if_pos, nws, go_sem, seval] <;> rfl)) rfl; apply aops_as (t := 6) (d := 2) (ag_n rfl) rfl rfl (by first | (simp only [look_lay, look, seval] <;> rfl) | fail) rfl; apply aops_end; rfl) (by (simp (disch := omega) only [go_sem, seval, lay, nws]); rfl) ?_
  refine AWP.ret ?_
  refine ⟨.inr rfl, _, (by simp only [go_sem, seval] <;> rfl), ?_⟩
  simp only [go_sem, seval, Option.some.injEq, AV.c.injEq, AV.agg.injEq, CV.v.injEq, Value.int.injEq, Value.bool.injEq, Row.raw.injEq, List.cons.injEq, CV.sl.injEq, and_true, true_and, and_self]
  simp only [heldf]
  omega
theorem E26_ok : EntryOk Try.prog 26 E26 := pureN_ok (fun d hc => K26 d.1 hc) (fun _ => rfl) (fun _ => rfl)
attribute [go_sem] E26 c26 r26 L26
abbrev c32 (n : Int) : Prop := True
abbrev r32 (n : Int) : AV := .c (cb false)
abbrev L32 (n : Int) : Hp := []
def E32 : Entry := pureN [(.i .u64)] (fun d => c32 d.1) (fun d => r32 d.1) (fun d => L32 d.1)
set_option maxRecDepth 100000 in
set_option maxHeartbeats 4000000 in
theorem K32 (n : Int) (hc : c32 n) : CallOk Try.prog 32 [.c (ci .u64 n)] [] (r32 n) (L32 n) := by
  refine callOk' Try.func32 6 [.tmp 2] _ rfl rfl rfl (by kernel_rfl) (by simp) [] rfl rfl (by simp) ?_
  simp only [params]
  refine AWP.sR (Gam.nil_ok _) [0] (by apply aops_x (d := 2) (ag_n rfl) rfl (by first | (simp (disch := decide) only [go_sem, seval] <;> rfl) | (simp (disch := first | decide | omega) only [if_pos, nws, go_sem, seval] <;> rfl)) rfl; apply aops_end; rfl) (by (simp (disch := omega) only [go_sem, seval, lay, nws]); rfl) ?_
  refine AWP.sR (Gam.nil_ok _) [2] (by apply aops_mv (t := 0) (d := 3) (ag_n rfl) rfl rfl (by first | (simp only [look_lay, look, seval] <;> rfl) | fail) rfl; apply aops_mv (t := 0) (d := 4) (ag_n rfl) rfl rfl (by first | (simp only [look_lay, look, seval] <;> rfl) | fail) rfl; apply aops_x (d := 5) (ag_n rfl) rfl (by first | (simp (disch := decide) only [go_sem, seval] <;> rfl) | (simp (disch := first | decide | omega) only [if_pos, nws, go_sem, seval] <;> rfl)) rfl; apply aops_as (t := 5) (d := 2) (ag_n rfl) rfl rfl (by first | (simp only [look_lay, look, seval] <;> rfl) | fail) rfl; apply aops_end; rfl) (by (simp (disch := omega) only [go_sem, seval, lay, nws]); rfl) ?_
  refine AWP.ret ?_
  refine ⟨.inr rfl, _, (by simp only [go_sem, seval] <;> rfl), ?_⟩
  simp only [go_sem, seval, Option.some.injEq, AV.c.injEq, AV.agg.injEq, CV.v.injEq, Value.int.injEq, Value.bool.injEq, Row.raw.injEq, List.cons.injEq, CV.sl.injEq, and_true, true_and, and_self]
  simp
theorem E32_ok : EntryOk Try.prog 32 E32 := pureN_ok (fun d hc => K32 d.1 hc) (fun _ => rfl) (fun _ => rfl)
attribute [go_sem] E32 c32 r32 L32
abbrev c29 (x' : Int) (y' : Int) : Prop := 0 ≤ x' ∧ x' < 18446744073709551616 ∧ 0 ≤ y' ∧ y' < 18446744073709551616
abbrev r29 (x' : Int) (y' : Int) : AV := .tup [.c (ci .u64 (x' * y' / 18446744073709551616)), .c (ci .u64 (x' * y' % 18446744073709551616))]
abbrev L29 (x' : Int) (y' : Int) : Hp := []
def E29 : Entry := pureN [(.i .u64), (.i .u64)] (fun d => c29 d.1 d.2.1) (fun d => r29 d.1 d.2.1) (fun d => L29 d.1 d.2.1)
set_option maxRecDepth 100000 in
set_option maxHeartbeats 4000000 in
theorem K29 (x' : Int) (y' : Int) (hc : c29 x' y') : CallOk Try.prog 29 [.c (ci .u64 x'), .c (ci .u64 y')] [] (r29 x' y') (L29 x' y') := by
  have hc : 0 ≤ x' ∧ x' < 18446744073709551616 ∧ 0 ≤ y' ∧ y' < 18446744073709551616 := hc
  obtain ⟨x, rfl⟩ := Int.eq_ofNat_of_zero_le hc.1
  obtain ⟨y, rfl⟩ := Int.eq_ofNat_of_zero_le hc.2.2.1
  have hx : x < 18446744073709551616 := by omega
  have hy : y < 18446744073709551616 := by omega
  obtain ⟨bd, bt, bw, hhi⟩ := Lib.mul64_hi x y hx hy
  have ba := Lib.half_mul_le (a := x / 4294967296) (b := y / 4294967296) (by omega) (by omega)
  have bb := Lib.half_mul_le (a := x / 4294967296) (b := y % 4294967296) (by omega) (by omega)
  have bc := Lib.half_mul_le (a := x % 4294967296) (b := y / 4294967296) (by omega) (by omega)
  have ba' : x / 4294967296 * (y / 4294967296) < 18446744073709551616 := by omega
  have bb' : x / 4294967296 * (y % 4294967296) < 18446744073709551616 := by omega
  have bc' : x % 4294967296 * (y / 4294967296) < 18446744073709551616 := by omega
  have bh1 : x / 4294967296 * (y / 4294967296) + (x / 4294967296 * (y % 4294967296) + x % 4294967296 * (y % 4294967296) / 4294967296) / 4294967296 < 18446744073709551616 := by omega
  have bh : x / 4294967296 * (y / 4294967296) + (x / 4294967296 * (y % 4294967296) + x % 4294967296 * (y % 4294967296) / 4294967296) / 4294967296 + ((x / 4294967296 * (y % 4294967296) + x % 4294967296 * (y % 4294967296) / 4294967296) % 4294967296 + x % 4294967296 * (y / 4294967296)) / 4294967296 < 18446744073709551616 := by omega
  refine callOk' Try.func29 51 [.tmp 4, .tmp 5] _ rfl rfl rfl (by kernel_rfl) (by simp) [] rfl rfl (by simp) ?_
  simp only [params]
  refine AWP.sR (Gam.nil_ok _) [0, 1] (by apply aops_x (d := 4) (ag_n rfl) rfl (by first | (simp (disch := decide) only [pow32, go_sem, seval] <;> rfl) | (simp (disch := first | decide | omega) only [if_pos, nws, pow32, go_sem, seval] <;> rfl)) rfl; apply aops_x (d := 5) (ag_n rfl) rfl (by first | (simp (disch := decide) only [pow32, go_sem, seval] <;> rfl) | (simp (disch := first | decide | omega) only [if_pos, nws, pow32, go_sem, seval] <;> rfl)) rfl; apply aops_end; rfl) (by (simp (disch := omega) only [go_sem, seval, lay, nws]); rfl) ?_
  refine AWP.sR (Gam.nil_ok _) [0, 1, 6] (by apply aops_mv (t := 0) (d := 14) (ag_n rfl) rfl rfl (by first | (simp only [look_lay, look, seval] <;> rfl) | fail) rfl; apply aops_x (d := 15) (ag_n rfl) rfl (by first | (simp (disch := decide) only [pow32, go_sem, seval] <;> rfl) | (simp (disch := first | decide | omega) only [if_pos, nws, pow32, go_sem, seval] <;> rfl)) rfl; apply aops_as (t := 15) (d := 6) (ag_n rfl) rfl rfl (by first | (simp only [look_lay, look, seval] <;> rfl) | fail) rfl; apply aops_end; rfl) (by (simp (disch := omega) only [go_sem, seval, lay, nws]); rfl) ?_
  refine AWP.sR (Gam.nil_ok _) [0, 1, 6, 7] (by apply aops_mv (t := 0) (d := 16) (ag_n rfl) rfl rfl (by first | (simp only [look_lay, look, seval] <;> rfl) | fail) rfl; apply aops_x (d := 17) (ag_n rfl) rfl (by (simp (disch := first | decide | omega) only [if_pos, nws, pow32, go_sem, seval] <;> rfl)) rfl; apply aops_as (t := 17) (d := 7) (ag_n rfl) rfl rfl (by first | (simp only [look_lay, look, seval] <;> rfl) | fail) rfl; apply aops_end; rfl) (by (simp (disch := omega) only [go_sem, seval, lay, nws]); rfl) ?_
  refine AWP.sR (Gam.nil_ok _) [0, 1, 6, 7, 8] (by apply aops_mv (t := 1) (d := 18) (ag_n rfl) rfl rfl (by first | (simp only [look_lay, look, seval] <;> rfl) | fail) rfl; apply aops_x (d := 19) (ag_n rfl) rfl (by first | (simp (disch := decide) only [pow32, go_sem, seval] <;> rfl) | (simp (disch := first | decide | omega) only [if_pos, nws, pow32, go_sem, seval] <;> rfl)) rfl; apply aops_as (t := 19) (d := 8) (ag_n rfl) rfl rfl (by first | (simp only [look_lay, look, seval] <;> rfl) | fail) rfl; apply aops_end; rfl) (by (simp (disch := omega) only [go_sem, seval, lay, nws]); rfl) ?_
  refine AWP.sR (Gam.nil_ok _) [0, 1, 6, 7, 8, 9] (by apply aops_mv (t := 1) (d := 20) (ag_n rfl) rfl rfl (by first | (simp only [look_lay, look, seval] <;> rfl) | fail) rfl; apply aops_x (d := 21) (ag_n rfl) rfl (by (simp (disch := first | decide | omega) only [if_pos, nws, pow32, go_sem, seval] <;> rfl)) rfl; apply aops_as (t := 21) (d := 9) (ag_n rfl) rfl rfl (by first | (simp only [look_lay, look, seval] <;> rfl) | fail) rfl; apply aops_end; rfl) (by (simp (disch := omega) only [go_sem, seval, lay, nws]); rfl) ?_
  refine AWP.sR (Gam.nil_ok _) [0, 1, 6, 7, 8, 9, 10] (by apply aops_mv (t := 6) (d := 22) (ag_n rfl) rfl rfl (by first | (simp only [look_lay, look, seval] <;> rfl) | fail) rfl; apply aops_mv (t := 8) (d := 23) (ag_n rfl) rfl rfl (by first | (simp only [look_lay, look, seval] <;> rfl) | fail) rfl; apply aops_x (d := 24) (ag_n rfl) rfl (by first | (simp (disch := decide) only [pow32, go_sem, seval] <;> rfl) | (simp (disch := first | decide | omega) only [if_pos, nws, pow32, go_sem, seval] <;> rfl)) rfl; apply aops_as (t := 24) (d := 10) (ag_n rfl) rfl rfl (by first | (simp only [look_lay, look, seval] <;> rfl) | fail) rfl; apply aops_end; rfl) (by (simp (disch := omega) only [go_sem, seval, lay, nws]); rfl) ?_
  refine AWP.sR (Gam.nil_ok _) [0, 1, 6, 7, 9, 11] (by apply aops_mv (t := 7) (d := 25) (ag_n rfl) rfl rfl (by first | (simp only [look_lay, look, seval] <;> rfl) | fail) rfl; apply aops_mv (t := 8) (d := 26) (ag_n rfl) rfl rfl (by first | (simp only [look_lay, look, seval] <;> rfl) | fail) rfl; apply aops_x (d := 27) (ag_n rfl) rfl (by first | (simp (disch := decide) only [pow32, go_sem, seval] <;> rfl) | (simp (disch := first | decide | omega) only [if_pos, nws, pow32, go_sem, seval] <;> rfl)) rfl; apply aops_mv (t := 10) (d := 28) (ag_n rfl) rfl rfl (by first | (simp only [look_lay, look, seval] <;> rfl) | fail) rfl; apply aops_x (d := 29) (ag_n rfl) rfl (by (simp (disch := first | decide | omega) only [if_pos, nws, pow32, go_sem, seval] <;> rfl)) rfl; apply aops_x (d := 30) (ag_n rfl) rfl (by first | (simp (disch := decide) only [pow32, go_sem, seval] <;> rfl) | (simp (disch := first | decide | omega) only [if_pos, nws, pow32, go_sem, seval] <;> rfl)) rfl; apply aops_as (t := 30) (d := 11) (ag_n rfl) rfl rfl (by first | (simp only [look_lay, look, seval] <;> rfl) | fail) rfl; apply aops_end; rfl) (by (simp (disch := omega) only [go_sem, seval, lay, nws]); rfl) ?_
  refine AWP.sR (Gam.nil_ok _) [0, 1, 6, 7, 9, 11, 12] (by apply aops_mv (t := 11) (d := 31) (ag_n rfl) rfl rfl (by first | (simp only [look_lay, look, seval] <;> rfl) | fail) rfl; apply aops_x (d := 32) (ag_n rfl) rfl (by first | (simp (disch := decide) only [pow32, go_sem, seval] <;> rfl) | (simp (disch := first | decide | omega) only [if_pos, nws, pow32, go_sem, seval] <;> rfl)) rfl; apply aops_as (t := 32) (d := 12) (ag_n rfl) rfl rfl (by first | (simp only [look_lay, look, seval] <;> rfl) | fail) rfl; apply aops_end; rfl) (by (simp (disch := omega) only [go_sem, seval, lay, nws]); rfl) ?_
  refine AWP.sR (Gam.nil_ok _) [0, 1, 6, 7, 9, 12, 13] (by apply aops_mv (t := 11) (d := 33) (ag_n rfl) rfl rfl (by first | (simp only [look_lay, look, seval] <;> rfl) | fail) rfl; apply aops_x (d := 34) (ag_n rfl) rfl (by (simp (disch := first | decide | omega) only [if_pos, nws, pow32, go_sem, seval] <;> rfl)) rfl; apply aops_as (t := 34) (d := 13) (ag_n rfl) rfl rfl (by first | (simp only [look_lay, look, seval] <;> rfl) | fail) rfl; apply aops_end; rfl) (by (simp (disch := omega) only [go_sem, seval, lay, nws]); rfl) ?_
  refine AWP.sR (Gam.nil_ok _) [0, 1, 7, 9, 12, 13] (by apply aops_mv (t := 12) (d := 35) (ag_n rfl) rfl rfl (by first | (simp only [look_lay, look, seval] <;> rfl) | fail) rfl; apply aops_mv (t := 6) (d := 36) (ag_n rfl) rfl rfl (by first | (simp only [look_lay, look, seval] <;> rfl) | fail) rfl; apply aops_mv (t := 9) (d := 37) (ag_n rfl) rfl rfl (by first | (simp only [look_lay, look, seval] <;> rfl) | fail) rfl; apply aops_x (d := 38) (ag_n rfl) rfl (by first | (simp (disch := decide) only [pow32, go_sem, seval] <;> rfl) | (simp (disch := first | decide | omega) only [if_pos, nws, pow32, go_sem, seval] <;> rfl)) rfl; apply aops_x (d := 39) (ag_n rfl) rfl (by first | (simp (disch := decide) only [pow32, go_sem, seval] <;> rfl) | (simp (disch := first | decide | omega) only [if_pos, nws, pow32, go_sem, seval] <;> rfl)) rfl; apply aops_as (t := 39) (d := 12) (ag_n rfl) rfl rfl (by first | (simp only [look_lay, look, seval] <;> rfl) | fail) rfl; apply aops_end; rfl) (by (simp (disch := omega) only [go_sem, seval, lay, nws]); rfl) ?_
  refine AWP.sR (Gam.nil_ok _) [0, 1, 4] (by apply aops_mv (t := 7) (d := 40) (ag_n rfl) rfl rfl (by first | (simp only [look_lay, look, seval] <;> rfl) | fail) rfl; apply aops_mv (t := 9) (d := 41) (ag_n rfl) rfl rfl (by first | (simp only [look_lay, look, seval] <;> rfl) | fail) rfl; apply aops_x (d := 42) (ag_n rfl) rfl (by first | (simp (disch := decide) only [pow32, go_sem, seval] <;> rfl) | (simp (disch := first | decide | omega) only [if_pos, nws, pow32, go_sem, seval] <;> rfl)) rfl; apply aops_mv (t := 13) (d := 43) (ag_n rfl) rfl rfl (by first | (simp only [look_lay, look, seval] <;> rfl) | fail) rfl; apply aops_x (d := 44) (ag_n rfl) rfl (by first | (simp (disch := decide) only [pow32, go_sem, seval] <;> rfl) | (simp (disch := first | decide | omega) only [if_pos, nws, pow32, go_sem, seval] <;> rfl)) rfl; apply aops_mv (t := 12) (d := 45) (ag_n rfl) rfl rfl (by first | (simp only [look_lay, look, seval] <;> rfl) | fail) rfl; apply aops_x (d := 46) (ag_n rfl) rfl (by (simp (disch := first | decide | omega) only [if_pos, nws, pow32, go_sem, seval] <;> rfl)) rfl; apply aops_x (d := 47) (ag_n rfl) rfl (by first | (simp (disch := decide) only [pow32, go_sem, seval] <;> rfl) | (simp (disch := first | decide | omega) only [if_pos, nws, pow32, go_sem, seval] <;> rfl)) rfl; apply aops_as (t := 47) (d := 4) (ag_n rfl) rfl rfl (by first | (simp only [look_lay, look, seval] <;> rfl) | fail) rfl; apply aops_end; rfl) (by (simp (disch := omega) only [go_sem, seval, lay, nws]); rfl) ?_
  refine AWP.sR (Gam.nil_ok _) [4, 5] (by apply aops_mv (t := 0) (d := 48) (ag_n rfl) rfl rfl (by first | (simp only [look_lay, look, seval] <;> rfl) | fail) rfl; apply aops_mv (t := 1) (d := 49) (ag_n rfl) rfl rfl (by first | (simp only [look_lay, look, seval] <;> rfl) | fail) rfl; apply aops_x (d := 50) (ag_n rfl) rfl (by first | (simp (disch := decide) only [pow32, go_sem, seval] <;> rfl) | (simp (disch := first | decide | omega) only [if_pos, nws, pow32, go_sem, seval] <;> rfl)) rfl; apply aops_as (t := 50) (d := 5) (ag_n rfl) rfl rfl (by first | (simp only [look_lay, look, seval] <;> rfl) | fail) rfl; apply aops_end; rfl) (by (simp (disch := omega) only [go_sem, seval, lay, nws]); rfl) ?_
  refine AWP.ret ?_
  refine ⟨.inr rfl, _, (by simp only [go_sem, seval, pow32] <;> rfl), ?_⟩
  simp only [go_sem, seval, pow32, Option.some.injEq, AV.c.injEq, AV.agg.injEq, CV.v.injEq, Value.int.injEq, Value.bool.injEq, Row.raw.injEq, List.cons.injEq, CV.sl.injEq, and_true, true_and, and_self]
  simp only [maskN x hx, maskN y hy, divN, mulN, addN, wrapN _ bd, wrapN _ bb', wrapN _ bt, maskN _ bt, wrapN _ bc', wrapN _ bw, wrapN _ ba', wrapN _ bh1, wrapN _ bh, wrapM (x * y)]
  rw [hhi]
  constructor <;> rfl
theorem E29_ok : EntryOk Try.prog 29 E29 := pureN_ok (fun d hc => K29 d.1 d.2.1 hc) (fun _ => rfl) (fun _ => rfl)
attribute [go_sem] E29 c29 r29 L29
abbrev c30 (x : Int) (y : Int) : Prop := True
abbrev r30 (x : Int) (y : Int) : AV := .c (ci .i64 (cmpI x y))
abbrev L30 (x : Int) (y : Int) : Hp := []
def E30 : Entry := pureN [(.i .u64), (.i .u64)] (fun d => c30 d.1 d.2.1) (fun d => r30 d.1 d.2.1) (fun d => L30 d.1 d.2.1)
set_option maxRecDepth 100000 in
set_option maxHeartbeats 4000000 in
theorem K30 (x : Int) (y : Int) (hc : c30 x y) : CallOk Try.prog 30 [.c (ci .u64 x), .c (ci .u64 y)] [] (r30 x y) (L30 x y) := by
  have gok := (Gam.cons_ok E32_ok (Gam.nil_ok _))
  refine callOk' Try.func30 20 [.tmp 4] _ rfl rfl rfl (by kernel_rfl) (by simp) [] rfl rfl (by simp) ?_
  simp only [params]
  refine AWP.sR gok [0, 1] (by apply aops_x (d := 4) (ag_n rfl) rfl (by first | (simp (disch := decide) only [go_sem, seval] <;> rfl) | (simp (disch := first | decide | omega) only [if_pos, nws, go_sem, seval] <;> rfl)) rfl; apply aops_end; rfl) (by (simp (disch := omega) only [go_sem, seval, lay, nws]); rfl) ?_
  refine AWP.sR gok [0, 1, 5] (by apply aops_mv (t := 0) (d := 7) (ag_n rfl) rfl rfl (by first | (simp only [look_lay, look, seval] <;> rfl) | fail) rfl; apply aops_x (d := 8) (ag_n rfl) rfl (by (simp (disch := first | decide | omega) only [if_pos, nws, go_sem, seval] <;> rfl)) rfl; apply aops_as (t := 8) (d := 5) (ag_n rfl) rfl rfl (by first | (simp only [look_lay, look, seval] <;> rfl) | fail) rfl; apply aops_end; rfl) (by (simp (disch := omega) only [go_sem, seval, lay, nws]); rfl) ?_
  refine AWP.sR gok [0, 1, 5, 6] (by apply aops_mv (t := 1) (d := 9) (ag_n rfl) rfl rfl (by first | (simp only [look_lay, look, seval] <;> rfl) | fail) rfl; apply aops_x (d := 10) (ag_n rfl) rfl (by (simp (disch := first | decide | omega) only [if_pos, nws, go_sem, seval] <;> rfl)) rfl; apply aops_as (t := 10) (d := 6) (ag_n rfl) rfl rfl (by first | (simp only [look_lay, look, seval] <;> rfl) | fail) rfl; apply aops_end; rfl) (by (simp (disch := omega) only [go_sem, seval, lay, nws]); rfl) ?_
  refine AWP.seq ?_
  refine AWP.sR gok [0, 1, 6, 11] (by apply aops_mv (t := 5) (d := 11) (ag_n rfl) rfl rfl (by first | (simp only [look_lay, look, seval] <;> rfl) | fail) rfl; apply aops_end; rfl) (by (simp (disch := omega) only [go_sem, seval, lay, nws]); rfl) ?_
  refine AWP.condF (b := _) rfl (by first | rfl | (simp only [decide_eq_true_eq, decide_eq_false_iff_not]; omega)) ?_
  refine AWP.skip ?_
  change AWP _ _ _ _ _
  refine AWP.seq ?_
  refine AWP.sR gok [0, 1, 13] (by apply aops_mv (t := 6) (d := 13) (ag_n rfl) rfl rfl (by first | (simp only [look_lay, look, seval] <;> rfl) | fail) rfl; apply aops_end; rfl) (by (simp (disch := omega) only [go_sem, seval, lay, nws]); rfl) ?_
  refine AWP.condF (b := _) rfl (by first | rfl | (simp only [decide_eq_true_eq, decide_eq_false_iff_not]; omega)) ?_
  refine AWP.skip ?_
  change AWP _ _ _ _ _
  refine AWP.seq ?_
  refine AWP.sR gok [0, 1, 16] (by apply aops_mv (t := 0) (d := 14) (ag_n rfl) rfl rfl (by first | (simp only [look_lay, look, seval] <;> rfl) | fail) rfl; apply aops_mv (t := 1) (d := 15) (ag_n rfl) rfl rfl (by first | (simp only [look_lay, look, seval] <;> rfl) | fail) rfl; apply aops_x (d := 16) (ag_n rfl) rfl (by first | (simp (disch := decide) only [go_sem, seval] <;> rfl) | (simp (disch := first | decide | omega) only [if_pos, nws, go_sem, seval] <;> rfl)) rfl; apply aops_end; rfl) (by (simp (disch := omega) only [go_sem, seval, lay, nws]); rfl) ?_
  refine AWP.cond (b := _) rfl (fun h => ?_) (fun h => ?_) <;> (try simp only [decide_eq_true_eq, decide_eq_false_iff_not] at h)
  · skip
    refine AWP.sR gok [4] (by apply aops_x (d := 4) (ag_n rfl) rfl (by first | (simp (disch := decide) only [go_sem, seval] <;> rfl) | (simp (disch := first | decide | omega) only [if_pos, nws, go_sem, seval] <;> rfl)) rfl; apply aops_end; rfl) (by (simp (disch := omega) only [go_sem, seval, lay, nws]); rfl) ?_
    refine AWP.ret ?_
    refine ⟨.inr rfl, _, (by simp only [go_sem, seval] <;> rfl), ?_⟩
    simp only [go_sem, seval, Option.some.injEq, AV.c.injEq, AV.agg.injEq, CV.v.injEq, Value.int.injEq, Value.bool.injEq, Row.raw.injEq, List.cons.injEq, CV.sl.injEq, and_true, true_and, and_self]
    simp only [cmpI]
    first | rw [if_pos (by omega)] | rw [if_neg (by omega), if_pos (by omega)] | rw [if_neg (by omega), if_neg (by omega)]
  · skip
    refine AWP.skip ?_
    change AWP _ _ _ _ _
    refine AWP.seq ?_
    refine AWP.sR gok [19] (by apply aops_mv (t := 0) (d := 17) (ag_n rfl) rfl rfl (by first | (simp only [look_lay, look, seval] <;> rfl) | fail) rfl; apply aops_mv (t := 1) (d := 18) (ag_n rfl) rfl rfl (by first | (simp only [look_lay, look, seval] <;> rfl) | fail) rfl; apply aops_x (d := 19) (ag_n rfl) rfl (by first | (simp (disch := decide) only [go_sem, seval] <;> rfl) | (simp (disch := first | decide | omega) only [if_pos, nws, go_sem, seval] <;> rfl)) rfl; apply aops_end; rfl) (by (simp (disch := omega) only [go_sem, seval, lay, nws]); rfl) ?_
    refine AWP.cond (b := _) rfl (fun h => ?_) (fun h => ?_) <;> (try simp only [decide_eq_true_eq, decide_eq_false_iff_not] at h)
    · skip
      refine AWP.sR gok [4] (by apply aops_x (d := 4) (ag_n rfl) rfl (by first | (simp (disch := decide) only [go_sem, seval] <;> rfl) | (simp (disch := first | decide | omega) only [if_pos, nws, go_sem, seval] <;> rfl)) rfl; apply aops_end; rfl) (by (simp (disch := omega) only [go_sem, seval, lay, nws]); rfl) ?_
      refine AWP.ret ?_
      refine ⟨.inr rfl, _, (by simp only [go_sem, seval] <;> rfl), ?_⟩
      simp only [go_sem, seval, Option.some.injEq, AV.c.injEq, AV.agg.injEq, CV.v.injEq, Value.int.injEq, Value.bool.injEq, Row.raw.injEq, List.cons.injEq, CV.sl.injEq, and_true, true_and, and_self]
      simp only [cmpI]
      first | rw [if_pos (by omega)] | rw [if_neg (by omega), if_pos (by omega)] | rw [if_neg (by omega), if_neg (by omega)]
    · skip
      refine AWP.skip ?_
      change AWP _ _ _ _ _
      refine AWP.sR gok [4] (by apply aops_x (d := 4) (ag_n rfl) rfl (by first | (simp (disch := decide) only [go_sem, seval] <;> rfl) | (simp (disch := first | decide | omega) only [if_pos, nws, go_sem, seval] <;> rfl)) rfl; apply aops_end; rfl) (by (simp (disch := omega) only [go_sem, seval, lay, nws]); rfl) ?_
      refine AWP.ret ?_
      refine ⟨.inr rfl, _, (by simp only [go_sem, seval] <;> rfl), ?_⟩
      simp only [go_sem, seval, Option.some.injEq, AV.c.injEq, AV.agg.injEq, CV.v.injEq, Value.int.injEq, Value.bool.injEq, Row.raw.injEq, List.cons.injEq, CV.sl.injEq, and_true, true_and, and_self]
      simp only [cmpI]
      first | rw [if_pos (by omega)] | rw [if_neg (by omega), if_pos (by omega)] | rw [if_neg (by omega), if_neg (by omega)]
theorem E30_ok : EntryOk Try.prog 30 E30 := pureN_ok (fun d hc => K30 d.1 d.2.1 hc) (fun _ => rfl) (fun _ => rfl)
attribute [go_sem] E30 c30 r30 L30
end Go.Proofs.Ytcnoooodnmjdmaa
