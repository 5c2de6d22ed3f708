import Derived.Test.YtbdnhoddkdiogaaAi3
import Derived.Test.YtbdnhoddkdiogaaTab
import Derived.Test.YtbdnhoddkdiogaaShP
import Derived.Test.YtbdnhoddkdiogaaShO
import Derived.Test.YtbdnhoddkdiogaaMkA
section
set_option linter.unusedSimpArgs false
set_option linter.unusedVariables false
namespace Go.Proofs.Ytbdnhoddkdiogaa
open Go.RowKit
/-! The document's digest: sums of limbs. -/
def carryG : Nat → Int → List Int
  | 0, _ => []
  | f + 1, c => if 0 < c then (c % 65536) :: carryG f (c / 65536) else []
def timesG (n : Int) : List Int → Int → List Int
  | [], c => carryG 5 c
  | a :: l, c => ((c + a * n) % 65536) :: timesG n l ((c + a * n) / 65536)
def limbs (l : List Int) : Prop := ∀ x ∈ l, 0 ≤ x ∧ x < 65536
instance (l : List Int) : Decidable (limbs l) := inferInstanceAs (Decidable (∀ x ∈ l, 0 ≤ x ∧ x < 65536))
theorem carryG_len : ∀ f c, (carryG f c).length ≤ f
  | 0, _ => Nat.le_refl _
  | f + 1, c => by
    unfold carryG
    split
    · simp only [List.length_cons]; exact Nat.succ_le_succ (carryG_len f _)
    · simp
theorem timesG_len (n : Int) : ∀ l c, (timesG n l c).length ≤ l.length + 5
  | [], c => by unfold timesG; have := carryG_len 5 c; simp only [List.length_nil]; omega
  | a :: l, c => by unfold timesG; have := timesG_len n l ((c + a * n) / 65536); simp only [List.length_cons]; omega
theorem carryG_fuel : ∀ (f : Nat) (c : Int), c < 65536 ^ f → carryG (f + 1) c = carryG f c
  | 0, c, h => by unfold carryG; rw [if_neg (by simp at h; omega)]
  | f + 1, c, h => by
    rw [show carryG (f + 2) c = if 0 < c then (c % 65536) :: carryG (f + 1) (c / 65536) else [] from rfl, show carryG (f + 1) c = if 0 < c then (c % 65536) :: carryG f (c / 65536) else [] from rfl]
    rw [carryG_fuel f (c / 65536) (by rw [Int.pow_succ] at h; exact Int.ediv_lt_of_lt_mul (by omega) h)]
theorem carryG_step (c : Int) (h : 0 < c) (h1 : c < 18446744073709551616) : carryG 5 c = (c % 65536) :: carryG 5 (c / 65536) := by
  have e : (65536 : Int) ^ 4 = 18446744073709551616 := by decide
  rw [show carryG 5 c = if 0 < c then (c % 65536) :: carryG 4 (c / 65536) else [] from rfl, if_pos h, carryG_fuel 4 (c / 65536) (by rw [e]; omega)]
theorem carryG_limbs : ∀ f c, limbs (carryG f c)
  | 0, _ => by intro x hx; simp [carryG] at hx
  | f + 1, c => by
    unfold carryG
    split
    · intro x hx
      rcases List.mem_cons.1 hx with rfl | hx
      · omega
      · exact carryG_limbs f _ x hx
    · intro x hx; simp at hx
theorem timesG_limbs (n : Int) : ∀ l c, limbs (timesG n l c)
  | [], c => carryG_limbs _ _
  | a :: l, c => by
    unfold timesG
    intro x hx
    rcases List.mem_cons.1 hx with rfl | hx
    · omega
    · exact timesG_limbs n l _ x hx
abbrev c76 (l : (List Int)) (n : Int) : Prop := limbs l ∧ l.length ≤ 1000 ∧ 0 ≤ n ∧ n < 1099511627776
abbrev r76 (l : (List Int)) (n : Int) : AV := .c (.sl 0 0 (timesG n l 0).length 1)
abbrev L76 (l : (List Int)) (n : Int) : Hp := [some (.ty (.i .u64) (timesG n l 0))]
def E76 : Entry := pureN [(.sl (.i .u64)), (.i .u64)] (fun d => c76 d.1 d.2.1) (fun d => r76 d.1 d.2.1) (fun d => L76 d.1 d.2.1)
set_option maxRecDepth 100000 in
set_option maxHeartbeats 4000000 in
theorem K76 (l : (List Int)) (n : Int) (hc : c76 l n) : CallOk Try.prog 76 [.c (.rs (.i .u64) l), .c (ci .u64 n)] [] (r76 l n) (L76 l n) := by
  have hc : limbs l ∧ l.length ≤ 1000 ∧ 0 ≤ n ∧ n < 1099511627776 := hc
  obtain ⟨hl, hl1, hn, hn1⟩ := hc
  have tl := timesG_len n l 0
  refine callOk' Try.func76 40 [.tmp 4] _ rfl rfl rfl (by kernel_rfl) (by simp) [0] rfl rfl (by simp) ?_
  simp only [params]
  refine AWP.sR (Gam.nil_ok _) [0, 1] (by apply aops_x (d := 4) (ag_n rfl) rfl (by first | (simp (disch := decide) only [go_sem, seval] <;> rfl) | (simp (disch := first | decide | omega) only [if_pos, nws, go_sem, seval] <;> rfl)) rfl; apply aops_end; rfl) (by (simp (disch := omega) only [go_sem, seval, lay, nws]); rfl) ?_
  refine AWP.sR (Gam.nil_ok _) [0, 1, 5] (by apply aops_x (d := 5) (ag_n rfl) rfl (by first | (simp (disch := decide) only [go_sem, seval] <;> rfl) | (simp (disch := first | decide | omega) only [if_pos, nws, go_sem, seval] <;> rfl)) rfl; apply aops_end; rfl) (by (simp (disch := omega) only [go_sem, seval, lay, nws]); rfl) ?_
  refine AWP.sR (Gam.nil_ok _) [0, 1, 5, 6] (by apply aops_x (d := 6) (ag_n rfl) rfl (by first | (simp (disch := decide) only [go_sem, seval] <;> rfl) | (simp (disch := first | decide | omega) only [if_pos, nws, go_sem, seval] <;> rfl)) rfl; apply aops_end; rfl) (by (simp (disch := omega) only [go_sem, seval, lay, nws]); rfl) ?_
  refine AWP.seq ?_
  refine AWP.sR (Gam.nil_ok _) [0, 1, 5, 6, 7] (by apply aops_x (d := 7) (ag_n rfl) rfl (by first | (simp (disch := decide) only [go_sem, seval] <;> rfl) | (simp (disch := first | decide | omega) only [if_pos, nws, go_sem, seval] <;> rfl)) rfl; apply aops_end; rfl) (by (simp (disch := omega) only [go_sem, seval, lay, nws]); rfl) ?_
  refine AWP.block ?_
  refine AWP.loopP (fun (p : Nat × Int × List Int) => ⟨40, [(0, .c (.rs (.i .u64) l)), (1, .c (ci .u64 n)), (5, .c (.sl 0 0 p.2.2.length 1)), (6, .c (ci .u64 p.2.1)), (7, .c (ci .i64 (p.1 : Int)))], [some (.ty (.i .u64) p.2.2)]⟩) (fun p => p.2.2.length = p.1 ∧ (0 ≤ p.2.1 ∧ p.2.1 < 2199023255552) ∧ p.2.2 ++ timesG n (l.drop p.1) p.2.1 = timesG n l 0) (fun p => (l.length - p.1) * 18446744073709551616 + p.2.1.toNat) ⟨0, 0, []⟩ (Ghost.nil 5 1 (.i .u64) rfl (by simp)) ⟨by simp, by simp, by simp⟩ ?_
  rintro ⟨i, c, out⟩ ⟨h1, ⟨hc0, hc1⟩, h3⟩
  simp only at h1 hc0 hc1 h3 ⊢
  have ol : i ≤ 1005 := by
    have := congrArg List.length h3
    simp only [List.length_append] at this
    omega
  refine AWP.seq ?_
  refine AWP.sX (Gam.nil_ok _) [0, 1, 5, 6, 7, 16] (s2 := ⟨40, [(0, .c (.rs (.i .u64) l)), (1, .c (ci .u64 n)), (5, .c (.sl 0 0 out.length 1)), (6, .c (ci .u64 c)), (7, .c (ci .i64 (i : Int))), (16, .c (cb (if (i : Int) < (l.length : Int) then true else decide (c > 0))))], [some (.ty (.i .u64) out)]⟩) (by (by_cases hi : (i : Int) < (l.length : Int)) <;> refine ⟨_, (by apply aops_mv (t := 7) (d := 9) (ag_n rfl) rfl rfl (by first | (simp only [look_lay, look, seval] <;> rfl) | fail) rfl; apply aops_mv (t := 0) (d := 10) (ag_n rfl) rfl rfl (by first | (simp only [look_lay, look, seval] <;> rfl) | fail) rfl; apply aops_x (d := 11) (ag_n rfl) rfl (by (simp (disch := first | decide | omega) only [if_pos, nws, hi, go_sem, seval] <;> rfl)) rfl; apply aops_x (d := 12) (ag_n rfl) rfl (by (simp (disch := first | decide | omega) only [if_pos, nws, hi, go_sem, seval] <;> rfl)) rfl; apply aops_mv (t := 12) (d := 13) (ag_n rfl) rfl rfl (by first | (simp only [look_lay, look, seval] <;> rfl) | fail) rfl; (first | apply aops_mv (t := 6) (d := 14) (ag_b (j := 4) (d := 13) rfl rfl rfl (by first | (simp only [look_lay, look, seval] <;> rfl) | fail) (by first | rfl | (simp only [hi, decide_true, decide_false] <;> rfl) | fail)) rfl rfl (by first | (simp only [look_lay, look, seval] <;> rfl) | fail) rfl | apply aops_ps (d := 14) (by first | exact ag_f (j := 4) (d := 13) rfl rfl rfl (by first | (simp only [look_lay, look, seval] <;> rfl) | fail) (by first | rfl | (simp only [hi, decide_true, decide_false] <;> rfl) | fail) | exact ag_u (j := 4) (d := 13) rfl rfl rfl (by first | (simp only [look_lay, look, seval] <;> rfl) | fail) | fail) rfl rfl); (first | apply aops_x (d := 15) (ag_b (j := 4) (d := 13) rfl rfl rfl (by first | (simp only [look_lay, look, seval] <;> rfl) | fail) (by first | rfl | (simp only [hi, decide_true, decide_false] <;> rfl) | fail)) rfl (by (simp (disch := first | decide | omega) only [if_pos, nws, hi, go_sem, seval] <;> rfl)) rfl | apply aops_ps (d := 15) (by first | exact ag_f (j := 4) (d := 13) rfl rfl rfl (by first | (simp only [look_lay, look, seval] <;> rfl) | fail) (by first | rfl | (simp only [hi, decide_true, decide_false] <;> rfl) | fail) | exact ag_u (j := 4) (d := 13) rfl rfl rfl (by first | (simp only [look_lay, look, seval] <;> rfl) | fail) | fail) rfl rfl); apply aops_x (d := 16) (ag_n rfl) rfl (by (simp (disch := first | decide | omega) only [if_pos, nws, hi, go_sem, seval] <;> rfl)) rfl; apply aops_end; rfl), (by (simp (disch := omega) only [hi, go_sem, seval, lay, nws]) <;> rfl)⟩) ?_
  refine AWP.cond (b := _) rfl (fun h => ?_) (fun h => ?_) <;> (try simp only [decide_eq_true_eq, decide_eq_false_iff_not] at h)
  · skip
    refine AWP.skip ?_
    change AWP _ _ _ _ _
    refine AWP.seqBlock ?_
    have hcs := h
    refine AWP.sR (Gam.nil_ok _) [0, 1, 5, 7, 8] (by apply aops_mv (t := 6) (d := 19) (ag_n rfl) rfl rfl (by first | (simp only [look_lay, look, seval] <;> rfl) | fail) rfl; apply aops_as (t := 19) (d := 8) (ag_n rfl) rfl rfl (by first | (simp only [look_lay, look, seval] <;> rfl) | fail) rfl; apply aops_end; rfl) (by (simp (disch := omega) only [go_sem, seval, lay, nws]); rfl) ?_
    refine AWP.seq ?_
    refine AWP.sR (Gam.nil_ok _) [0, 1, 5, 7, 8, 23] (by apply aops_mv (t := 7) (d := 20) (ag_n rfl) rfl rfl (by first | (simp only [look_lay, look, seval] <;> rfl) | fail) rfl; apply aops_mv (t := 0) (d := 21) (ag_n rfl) rfl rfl (by first | (simp only [look_lay, look, seval] <;> rfl) | fail) rfl; apply aops_x (d := 22) (ag_n rfl) rfl (by first | (simp (disch := decide) only [go_sem, seval] <;> rfl) | (simp (disch := first | decide | omega) only [if_pos, nws, go_sem, seval] <;> rfl)) rfl; apply aops_x (d := 23) (ag_n rfl) rfl (by first | (simp (disch := decide) only [go_sem, seval] <;> rfl) | (simp (disch := first | decide | omega) only [if_pos, nws, go_sem, seval] <;> rfl)) rfl; apply aops_end; rfl) (by (simp (disch := omega) only [go_sem, seval, lay, nws]); rfl) ?_
    refine AWP.cond (b := _) rfl (fun h => ?_) (fun h => ?_) <;> (try simp only [decide_eq_true_eq, decide_eq_false_iff_not] at h)
    · skip
      have hi : i < l.length := by omega
      obtain ⟨a, ha⟩ : ∃ a, l[i]? = some a := ⟨_, List.getElem?_eq_getElem hi⟩
      have hab := hl a (List.mem_of_getElem? ha)
      have hp1 : a * n ≤ 65535 * n := Int.mul_le_mul_of_nonneg_right (by omega) hn
      have hp0 : 0 ≤ a * n := Int.mul_nonneg hab.1 hn
      have hd : l.drop i = a :: l.drop (i + 1) := by rw [List.drop_eq_getElem_cons hi]; congr 1; rw [List.getElem?_eq_getElem hi] at ha; exact Option.some.inj ha
      rw [hd] at h3
      refine AWP.rT (Gam.nil_ok _) [0, 1, 5, 7, 8] (by apply aops_mv (t := 8) (d := 24) (ag_n rfl) rfl rfl (by first | (simp only [look_lay, look, seval] <;> rfl) | fail) rfl; apply aops_mv (t := 0) (d := 25) (ag_n rfl) rfl rfl (by first | (simp only [look_lay, look, seval] <;> rfl) | fail) rfl; apply aops_mv (t := 7) (d := 26) (ag_n rfl) rfl rfl (by first | (simp only [look_lay, look, seval] <;> rfl) | fail) rfl; apply aops_x (d := 27) (ag_n rfl) rfl (by (simp (disch := first | decide | omega) only [if_pos, nws, ha, go_sem, seval] <;> rfl)) rfl; apply aops_x (d := 28) (ag_n rfl) rfl (by first | (simp (disch := decide) only [ha, go_sem, seval] <;> rfl) | (simp (disch := first | decide | omega) only [if_pos, nws, ha, go_sem, seval] <;> rfl)) rfl; apply aops_mv (t := 1) (d := 29) (ag_n rfl) rfl rfl (by first | (simp only [look_lay, look, seval] <;> rfl) | fail) rfl; apply aops_x (d := 30) (ag_n rfl) rfl (by first | (simp (disch := decide) only [ha, go_sem, seval] <;> rfl) | (simp (disch := first | decide | omega) only [if_pos, nws, ha, go_sem, seval] <;> rfl)) rfl; apply aops_x (d := 31) (ag_n rfl) rfl (by first | (simp (disch := decide) only [ha, go_sem, seval] <;> rfl) | (simp (disch := first | decide | omega) only [if_pos, nws, ha, go_sem, seval] <;> rfl)) rfl; apply aops_as (t := 31) (d := 8) (ag_n rfl) rfl rfl (by first | (simp only [look_lay, look, seval] <;> rfl) | fail) rfl; apply aops_end; rfl) (by (simp (disch := omega) only [go_sem, seval, lay, nws]); rfl) ?_
      change AWP _ _ _ _ _
      refine AWP.sR (Gam.nil_ok _) [0, 1, 5, 7, 8] (by apply aops_mv (t := 5) (d := 32) (ag_n rfl) rfl rfl (by first | (simp only [look_lay, look, seval] <;> rfl) | fail) rfl; apply aops_mv (t := 8) (d := 33) (ag_n rfl) rfl rfl (by first | (simp only [look_lay, look, seval] <;> rfl) | fail) rfl; apply aops_x (d := 34) (ag_n rfl) rfl (by (simp (disch := first | decide | omega) only [if_pos, nws, go_sem, seval] <;> rfl)) rfl; apply aops_x (d := 35) (ag_n rfl) rfl (by (simp (disch := first | decide | omega) only [if_pos, nws, go_sem, seval] <;> rfl)) rfl; apply aops_x (d := 36) (ag_n rfl) rfl (by (simp (disch := first | decide | omega) only [if_pos, nws, go_sem, seval] <;> rfl)) rfl; apply aops_as (t := 36) (d := 5) (ag_n rfl) rfl rfl (by first | (simp only [look_lay, look, seval] <;> rfl) | fail) rfl; apply aops_end; rfl) (by (simp (disch := omega) only [go_sem, seval, lay, nws]); rfl) ?_
      refine AWP.rT (Gam.nil_ok _) [0, 1, 5, 6, 7] (by apply aops_mv (t := 8) (d := 37) (ag_n rfl) rfl rfl (by first | (simp only [look_lay, look, seval] <;> rfl) | fail) rfl; apply aops_x (d := 38) (ag_n rfl) rfl (by (simp (disch := first | decide | omega) only [if_pos, nws, go_sem, seval] <;> rfl)) rfl; apply aops_as (t := 38) (d := 6) (ag_n rfl) rfl rfl (by first | (simp only [look_lay, look, seval] <;> rfl) | fail) rfl; apply aops_end; rfl) (by (simp (disch := omega) only [go_sem, seval, lay, nws]); rfl) ?_
      change AWP _ _ _ _ _
      refine AWP.rT (Gam.nil_ok _) [0, 1, 5, 6, 7] (by apply aops_mv (t := 7) (d := 17) (ag_n rfl) rfl rfl (by first | (simp only [look_lay, look, seval] <;> rfl) | fail) rfl; apply aops_x (d := 18) (ag_n rfl) rfl (by first | (simp (disch := decide) only [go_sem, seval] <;> rfl) | (simp (disch := first | decide | omega) only [if_pos, nws, go_sem, seval] <;> rfl)) rfl; apply aops_as (t := 18) (d := 7) (ag_n rfl) rfl rfl (by first | (simp only [look_lay, look, seval] <;> rfl) | fail) rfl; apply aops_end; rfl) (by (simp (disch := omega) only [go_sem, seval, lay, nws]); rfl) ?_
      first
      | (have hd : l.drop i = a :: l.drop (i + 1) := hd
         refine ⟨(i + 1, (c + a * n) / 65536, out ++ [(c + a * n) % 65536]), Ghost.trans (Ghost.gc (ρ := [2]) (by simp only [go_sem, seval] <;> rfl) rfl rfl rfl) (Ghost.of_eq (by simp only [List.length_append, List.length_cons, List.length_nil, Int.natCast_add, Int.cast_ofNat_Int])), ⟨by simp only [List.length_append, List.length_cons, List.length_nil]; omega, ⟨by simp only; omega, by simp only; omega⟩, ?_⟩, by simp only; omega⟩
         simp only [List.append_assoc, List.cons_append, List.nil_append]
         rw [← h3]; rfl)
      | (have hi : l.length ≤ i := by omega
         have hz : 0 < c := by simpa only [if_neg h, decide_eq_true_eq, gt_iff_lt] using hcs
         have hd : l.drop i = [] := List.drop_eq_nil_of_le hi
         have hd1 : l.drop (i + 1) = [] := List.drop_eq_nil_of_le (by omega)
         refine ⟨(i + 1, c / 65536, out ++ [c % 65536]), Ghost.trans (Ghost.gc (ρ := [2]) (by simp only [go_sem, seval] <;> rfl) rfl rfl rfl) (Ghost.of_eq (by simp only [List.length_append, List.length_cons, List.length_nil, Int.natCast_add, Int.cast_ofNat_Int])), ⟨by simp only [List.length_append, List.length_cons, List.length_nil]; omega, ⟨by simp only; omega, by simp only; omega⟩, ?_⟩, by simp only; omega⟩
         simp only [List.append_assoc, List.cons_append, List.nil_append]
         rw [← h3, hd, hd1]
         exact congrArg (out ++ ·) (carryG_step c hz (by omega)).symm)
    · skip
      refine AWP.skip ?_
      change AWP _ _ _ _ _
      refine AWP.sR (Gam.nil_ok _) [0, 1, 5, 7, 8] (by apply aops_mv (t := 5) (d := 32) (ag_n rfl) rfl rfl (by first | (simp only [look_lay, look, seval] <;> rfl) | fail) rfl; apply aops_mv (t := 8) (d := 33) (ag_n rfl) rfl rfl (by first | (simp only [look_lay, look, seval] <;> rfl) | fail) rfl; apply aops_x (d := 34) (ag_n rfl) rfl (by (simp (disch := first | decide | omega) only [if_pos, nws, go_sem, seval] <;> rfl)) rfl; apply aops_x (d := 35) (ag_n rfl) rfl (by (simp (disch := first | decide | omega) only [if_pos, nws, go_sem, seval] <;> rfl)) rfl; apply aops_x (d := 36) (ag_n rfl) rfl (by (simp (disch := first | decide | omega) only [if_pos, nws, go_sem, seval] <;> rfl)) rfl; apply aops_as (t := 36) (d := 5) (ag_n rfl) rfl rfl (by first | (simp only [look_lay, look, seval] <;> rfl) | fail) rfl; apply aops_end; rfl) (by (simp (disch := omega) only [go_sem, seval, lay, nws]); rfl) ?_
      refine AWP.rT (Gam.nil_ok _) [0, 1, 5, 6, 7] (by apply aops_mv (t := 8) (d := 37) (ag_n rfl) rfl rfl (by first | (simp only [look_lay, look, seval] <;> rfl) | fail) rfl; apply aops_x (d := 38) (ag_n rfl) rfl (by (simp (disch := first | decide | omega) only [if_pos, nws, go_sem, seval] <;> rfl)) rfl; apply aops_as (t := 38) (d := 6) (ag_n rfl) rfl rfl (by first | (simp only [look_lay, look, seval] <;> rfl) | fail) rfl; apply aops_end; rfl) (by (simp (disch := omega) only [go_sem, seval, lay, nws]); rfl) ?_
      change AWP _ _ _ _ _
      refine AWP.rT (Gam.nil_ok _) [0, 1, 5, 6, 7] (by apply aops_mv (t := 7) (d := 17) (ag_n rfl) rfl rfl (by first | (simp only [look_lay, look, seval] <;> rfl) | fail) rfl; apply aops_x (d := 18) (ag_n rfl) rfl (by first | (simp (disch := decide) only [go_sem, seval] <;> rfl) | (simp (disch := first | decide | omega) only [if_pos, nws, go_sem, seval] <;> rfl)) rfl; apply aops_as (t := 18) (d := 7) (ag_n rfl) rfl rfl (by first | (simp only [look_lay, look, seval] <;> rfl) | fail) rfl; apply aops_end; rfl) (by (simp (disch := omega) only [go_sem, seval, lay, nws]); rfl) ?_
      first
      | (have hd : l.drop i = a :: l.drop (i + 1) := hd
         refine ⟨(i + 1, (c + a * n) / 65536, out ++ [(c + a * n) % 65536]), Ghost.trans (Ghost.gc (ρ := [2]) (by simp only [go_sem, seval] <;> rfl) rfl rfl rfl) (Ghost.of_eq (by simp only [List.length_append, List.length_cons, List.length_nil, Int.natCast_add, Int.cast_ofNat_Int])), ⟨by simp only [List.length_append, List.length_cons, List.length_nil]; omega, ⟨by simp only; omega, by simp only; omega⟩, ?_⟩, by simp only; omega⟩
         simp only [List.append_assoc, List.cons_append, List.nil_append]
         rw [← h3]; rfl)
      | (have hi : l.length ≤ i := by omega
         have hz : 0 < c := by simpa only [if_neg h, decide_eq_true_eq, gt_iff_lt] using hcs
         have hd : l.drop i = [] := List.drop_eq_nil_of_le hi
         have hd1 : l.drop (i + 1) = [] := List.drop_eq_nil_of_le (by omega)
         refine ⟨(i + 1, c / 65536, out ++ [c % 65536]), Ghost.trans (Ghost.gc (ρ := [2]) (by simp only [go_sem, seval] <;> rfl) rfl rfl rfl) (Ghost.of_eq (by simp only [List.length_append, List.length_cons, List.length_nil, Int.natCast_add, Int.cast_ofNat_Int])), ⟨by simp only [List.length_append, List.length_cons, List.length_nil]; omega, ⟨by simp only; omega, by simp only; omega⟩, ?_⟩, by simp only; omega⟩
         simp only [List.append_assoc, List.cons_append, List.nil_append]
         rw [← h3, hd, hd1]
         exact congrArg (out ++ ·) (carryG_step c hz (by omega)).symm)
  · skip
    refine AWP.exit ?_
    change AWP _ _ _ _ _
    have hi : ¬ ((i : Int) < (l.length : Int)) := fun e => by rw [if_pos e] at h; cases h
    rw [if_neg hi] at h
    have hz : c = 0 := by have := of_decide_eq_false h; omega
    rw [List.drop_eq_nil_of_le (show l.length ≤ i by omega), hz, show timesG n [] 0 = [] from rfl, List.append_nil] at h3
    have ol2 : out.length ≤ 1005 := by omega
    refine AWP.sR (Gam.nil_ok _) [4] (by apply aops_mv (t := 5) (d := 39) (ag_n rfl) rfl rfl (by first | (simp only [look_lay, look, seval] <;> rfl) | fail) rfl; apply aops_as (t := 39) (d := 4) (ag_n rfl) rfl rfl (by first | (simp only [look_lay, look, seval] <;> rfl) | fail) rfl; apply aops_end; rfl) (by (simp (disch := omega) only [go_sem, seval, lay, nws]); rfl) ?_
    refine AWP.ret ?_
    refine ⟨.inr rfl, _, (by simp only [go_sem, seval] <;> rfl), ?_⟩
    simp only [go_sem, seval, Option.some.injEq, AV.c.injEq, AV.agg.injEq, CV.v.injEq, Value.int.injEq, Value.bool.injEq, Row.raw.injEq, List.cons.injEq, CV.sl.injEq, and_true, true_and, and_self]
    rw [h3]; exact ⟨rfl, rfl⟩
theorem E76_ok : EntryOk Try.prog 76 E76 := pureN_ok (fun d hc => K76 d.1 d.2.1 hc) (fun _ => rfl) (fun _ => rfl)
attribute [go_sem] E76 c76 r76 L76
end Go.Proofs.Ytbdnhoddkdiogaa
end
section
set_option linter.unusedSimpArgs false
set_option linter.unusedVariables false
namespace Go.Proofs.Ytbdnhoddkdiogaa
open Go.RowKit
/-! The document's digest: is a product greater than a number that is shifted by words? -/
def prodG (fs : List Int) (acc : List Int) : List Int := fs.foldl (fun acc f => timesG f acc 0) acc
def topG : List Int → List Int → Bool
  | x :: xs, y :: ys => if x = y then topG xs ys else decide (y < x)
  | _, _ => false
def padG (a : List Int) (n : Nat) : List Int := a ++ List.replicate (n - a.length) 0
def aboveG (fs : List Int) (p : Int) (w : Nat) : Bool :=
  let a := prodG fs [1]
  let b := List.replicate (2 * w) 0 ++ [p]
  let a1 := padG a b.length
  topG a1.reverse (padG b a1.length).reverse
def facts (l : List Int) : Prop := ∀ x ∈ l, 0 ≤ x ∧ x < 1099511627776
instance (l : List Int) : Decidable (facts l) := inferInstanceAs (Decidable (∀ x ∈ l, 0 ≤ x ∧ x < 1099511627776))
theorem prodG_limbs : ∀ fs acc, limbs acc → limbs (prodG fs acc)
  | [], _, h => h
  | f :: fs, acc, h => prodG_limbs fs _ (timesG_limbs f acc 0)
theorem prodG_len : ∀ fs acc, (prodG fs acc).length ≤ acc.length + 5 * fs.length
  | [], _ => by simp [prodG]
  | f :: fs, acc => by
    have := prodG_len fs (timesG f acc 0)
    have := timesG_len f acc 0
    simp only [prodG, List.foldl_cons, List.length_cons] at *; omega
theorem prodG_snoc (fs : List Int) (f : Int) (acc : List Int) : prodG (fs ++ [f]) acc = timesG f (prodG fs acc) 0 := by simp [prodG]
theorem prodG_take (fs : List Int) (i : Nat) (f : Int) (h : fs[i]? = some f) : prodG (fs.take (i + 1)) [1] = timesG f (prodG (fs.take i) [1]) 0 := by
  rw [List.take_add_one, h]; exact prodG_snoc _ _ _
theorem padG_len (a : List Int) (n : Nat) : (padG a n).length = max a.length n := by simp [padG]; omega
def padded (a : List Int) (n : Nat) (q : List Int) : Prop := ∃ k, q = a ++ List.replicate k 0 ∧ k ≤ n - a.length
theorem padded_end {a q : List Int} {n : Nat} (h : padded a n q) (h1 : ¬ q.length < n) : q = padG a n := by
  obtain ⟨k, rfl, hk⟩ := h
  simp only [List.length_append, List.length_replicate] at h1
  unfold padG; congr 2; omega
theorem padded_snoc {a q : List Int} {n : Nat} (h : padded a n q) (h1 : q.length < n) : padded a n (q ++ [0]) := by
  obtain ⟨k, rfl, hk⟩ := h
  simp only [List.length_append, List.length_replicate] at h1
  exact ⟨k + 1, by rw [List.replicate_succ', List.append_assoc], by omega⟩
theorem padded_zero (a : List Int) (n : Nat) : padded a n a := ⟨0, by simp, Nat.zero_le _⟩
theorem padded_len {a q : List Int} {n : Nat} (h : padded a n q) : q.length ≤ max a.length n := by
  obtain ⟨k, rfl, hk⟩ := h
  simp only [List.length_append, List.length_replicate]; omega
theorem topG_step (a b : List Int) (m : Nat) (x y : Int) (hx : a[m]? = some x) (hy : b[m]? = some y) : topG (a.take (m + 1)).reverse (b.take (m + 1)).reverse = if x = y then topG (a.take m).reverse (b.take m).reverse else decide (y < x) := by
  rw [List.take_add_one, List.take_add_one, hx, hy]
  simp [topG]
abbrev c65 (fs : (List Int)) (v : Int) (w : Int) : Prop := facts fs ∧ fs.length ≤ 10 ∧ (0 ≤ v ∧ v < 18446744073709551616) ∧ 0 ≤ w ∧ w ≤ 10
abbrev r65 (fs : (List Int)) (v : Int) (w : Int) : AV := .c (cb (aboveG fs v w.toNat))
abbrev L65 (fs : (List Int)) (v : Int) (w : Int) : Hp := []
def E65 : Entry := pureN [(.sl (.i .u64)), (.i .u64), (.i .i64)] (fun d => c65 d.1 d.2.1 d.2.2.1) (fun d => r65 d.1 d.2.1 d.2.2.1) (fun d => L65 d.1 d.2.1 d.2.2.1)
set_option maxRecDepth 100000 in
set_option maxHeartbeats 4000000 in
theorem K65 (fs : (List Int)) (v : Int) (w : Int) (hc : c65 fs v w) : CallOk Try.prog 65 [.c (.rs (.i .u64) fs), .c (ci .u64 v), .c (ci .i64 w)] [] (r65 fs v w) (L65 fs v w) := by
  have hc : facts fs ∧ fs.length ≤ 10 ∧ (0 ≤ v ∧ v < 18446744073709551616) ∧ 0 ≤ w ∧ w ≤ 10 := hc
  obtain ⟨hf, hfl, hv, hw, hw1⟩ := hc
  obtain ⟨w, rfl⟩ := Int.eq_ofNat_of_zero_le hw
  have hw2 : w ≤ 10 := by omega
  have gok := (Gam.cons_ok E76_ok (Gam.nil_ok _))
  refine callOk' Try.func65 77 [.tmp 6] _ rfl rfl rfl (by kernel_rfl) (by simp) [] rfl rfl (by simp) ?_
  simp only [params]
  refine AWP.sR gok [0, 1, 2] (by apply aops_x (d := 6) (ag_n rfl) rfl (by first | (simp (disch := decide) only [go_sem, seval] <;> rfl) | (simp (disch := first | decide | omega) only [if_pos, nws, go_sem, seval] <;> rfl)) rfl; apply aops_end; rfl) (by (simp (disch := omega) only [go_sem, seval, lay, nws]); rfl) ?_
  refine AWP.sR gok [0, 1, 2, 7] (by apply aops_x (d := 12) (ag_n rfl) rfl (by (simp (disch := first | decide | omega) only [if_pos, nws, go_sem, seval] <;> rfl)) rfl; apply aops_as (t := 12) (d := 7) (ag_n rfl) rfl rfl (by first | (simp only [look_lay, look, seval] <;> rfl) | fail) rfl; apply aops_end; rfl) (by (simp (disch := omega) only [go_sem, seval, lay, nws]); rfl) ?_
  refine AWP.seq ?_
  refine AWP.sR gok [0, 1, 2, 7, 14, 15] (by apply aops_mv (t := 0) (d := 13) (ag_n rfl) rfl rfl (by first | (simp only [look_lay, look, seval] <;> rfl) | fail) rfl; apply aops_x (d := 14) (ag_n rfl) rfl (by first | (simp (disch := decide) only [go_sem, seval] <;> rfl) | (simp (disch := first | decide | omega) only [if_pos, nws, go_sem, seval] <;> rfl)) rfl; apply aops_x (d := 15) (ag_n rfl) rfl (by first | (simp (disch := decide) only [go_sem, seval] <;> rfl) | (simp (disch := first | decide | omega) only [if_pos, nws, go_sem, seval] <;> rfl)) rfl; apply aops_end; rfl) (by (simp (disch := omega) only [go_sem, seval, lay, nws]); rfl) ?_
  refine AWP.block ?_
  refine AWP.loopP (fun (p : Nat × List Int) => ⟨77, [(0, .c (.rs (.i .u64) fs)), (1, .c (ci .u64 v)), (2, .c (ci .i64 (w : Int))), (7, .c (.sl 0 0 p.2.length 1)), (14, .c (ci .i64 (fs.length : Int))), (15, .c (ci .i64 (p.1 : Int)))], [some (.ty (.i .u64) p.2)]⟩) (fun p => p.1 ≤ fs.length ∧ p.2 = prodG (fs.take p.1) [1]) (fun p => fs.length - p.1) ⟨0, [1]⟩ (Ghost.refl _ _) ⟨by simp, by simp [prodG]⟩ ?_
  rintro ⟨i, acc⟩ ⟨h1, h2⟩
  simp only at h1 h2 ⊢
  have al : acc.length ≤ 51 := by rw [h2]; have := prodG_len (fs.take i) [1]; rw [List.length_take] at this; simp only [List.length_cons, List.length_nil] at this; omega
  have ab : limbs acc := by rw [h2]; exact prodG_limbs _ _ (by decide)
  refine AWP.sR gok [0, 1, 2, 7, 14, 15, 16] (by apply aops_x (d := 16) (ag_n rfl) rfl (by first | (simp (disch := decide) only [go_sem, seval] <;> rfl) | (simp (disch := first | decide | omega) only [if_pos, nws, go_sem, seval] <;> rfl)) rfl; apply aops_end; rfl) (by (simp (disch := omega) only [go_sem, seval, lay, nws]); rfl) ?_
  refine AWP.seq ?_
  refine AWP.cond (b := _) rfl (fun h => ?_) (fun h => ?_) <;> (try simp only [decide_eq_true_eq, decide_eq_false_iff_not] at h)
  · skip
    refine AWP.skip ?_
    change AWP _ _ _ _ _
    refine AWP.seqBlock ?_
    have h' : i < fs.length := by omega
    obtain ⟨x, hx⟩ : ∃ x, fs[i]? = some x := ⟨_, List.getElem?_eq_getElem h'⟩
    have xb := hf x (List.mem_of_getElem? hx)
    refine AWP.sR gok [0, 1, 2, 7, 8, 14, 15] (by apply aops_mv (t := 15) (d := 17) (ag_n rfl) rfl rfl (by first | (simp only [look_lay, look, seval] <;> rfl) | fail) rfl; apply aops_as (t := 17) (d := 8) (ag_n rfl) rfl rfl (by first | (simp only [look_lay, look, seval] <;> rfl) | fail) rfl; apply aops_end; rfl) (by (simp (disch := omega) only [go_sem, seval, lay, nws]); rfl) ?_
    refine AWP.rT gok [0, 1, 2, 7, 14, 15] (by apply aops_mv (t := 7) (d := 18) (ag_n rfl) rfl rfl (by first | (simp only [look_lay, look, seval] <;> rfl) | fail) rfl; apply aops_mv (t := 0) (d := 19) (ag_n rfl) rfl rfl (by first | (simp only [look_lay, look, seval] <;> rfl) | fail) rfl; apply aops_mv (t := 8) (d := 20) (ag_n rfl) rfl rfl (by first | (simp only [look_lay, look, seval] <;> rfl) | fail) rfl; apply aops_x (d := 21) (ag_n rfl) rfl (by (simp (disch := first | decide | omega) only [if_pos, nws, hx, ab, go_sem, seval] <;> rfl)) rfl; apply aops_x (d := 22) (ag_n rfl) rfl (by first | (simp (disch := decide) only [hx, ab, go_sem, seval] <;> rfl) | (simp (disch := first | decide | omega) only [if_pos, nws, hx, ab, go_sem, seval] <;> rfl)) rfl; apply aops_x (d := 23) (ag_n rfl) rfl (by (simp (disch := first | decide | omega) only [if_pos, nws, hx, ab, go_sem, seval] <;> rfl)) rfl; apply aops_as (t := 23) (d := 7) (ag_n rfl) rfl rfl (by first | (simp only [look_lay, look, seval] <;> rfl) | fail) rfl; apply aops_end; rfl) (by (simp (disch := omega) only [go_sem, seval, lay, nws]); rfl) ?_
    change AWP _ _ _ _ _
    refine AWP.rT gok [0, 1, 2, 7, 14, 15] (by apply aops_x (d := 24) (ag_n rfl) rfl (by first | (simp (disch := decide) only [go_sem, seval] <;> rfl) | (simp (disch := first | decide | omega) only [if_pos, nws, go_sem, seval] <;> rfl)) rfl; apply aops_mv (t := 24) (d := 15) (ag_n rfl) rfl rfl (by first | (simp only [look_lay, look, seval] <;> rfl) | fail) rfl; apply aops_end; rfl) (by (simp (disch := omega) only [go_sem, seval, lay, nws]); rfl) ?_
    refine ⟨(i + 1, timesG x acc 0), Ghost.gc (ρ := [1]) (by simp only [go_sem, seval] <;> rfl) rfl rfl rfl, ⟨by simp only; omega, ?_⟩, by simp only; omega⟩
    simp only
    rw [prodG_take fs i x hx, h2]
  · skip
    refine AWP.exit ?_
    change AWP _ _ _ _ _
    have e : i = fs.length := by omega
    rw [e, List.take_length] at h2
    refine AWP.sR gok [2, 7, 9] (by apply aops_mv (t := 1) (d := 25) (ag_n rfl) rfl rfl (by first | (simp only [look_lay, look, seval] <;> rfl) | fail) rfl; apply aops_x (d := 26) (ag_n rfl) rfl (by (simp (disch := first | decide | omega) only [if_pos, nws, go_sem, seval] <;> rfl)) rfl; apply aops_as (t := 26) (d := 9) (ag_n rfl) rfl rfl (by first | (simp only [look_lay, look, seval] <;> rfl) | fail) rfl; apply aops_end; rfl) (by (simp (disch := omega) only [go_sem, seval, lay, nws]); rfl) ?_
    refine AWP.seq ?_
    refine AWP.sR gok [2, 7, 9, 10] (by apply aops_x (d := 10) (ag_n rfl) rfl (by first | (simp (disch := decide) only [go_sem, seval] <;> rfl) | (simp (disch := first | decide | omega) only [if_pos, nws, go_sem, seval] <;> rfl)) rfl; apply aops_end; rfl) (by (simp (disch := omega) only [go_sem, seval, lay, nws]); rfl) ?_
    refine AWP.block ?_
    refine AWP.loopP (fun (p : Nat × List Int) => ⟨77, [(2, .c (ci .i64 (w : Int))), (7, .c (.sl 0 0 acc.length 1)), (9, .c (.sl 1 0 p.2.length 1)), (10, .c (ci .i64 (p.1 : Int)))], [some (.ty (.i .u64) acc), some (.ty (.i .u64) p.2)]⟩) (fun p => p.1 ≤ 2 * w ∧ p.2 = List.replicate p.1 0 ++ [v]) (fun p => 2 * w - p.1) ⟨0, [v]⟩ (Ghost.refl _ _) ⟨by simp, by simp⟩ ?_
    rintro ⟨k, b⟩ ⟨k1, k2⟩
    simp only at k1 k2 ⊢
    have bl : b.length = k + 1 := by rw [k2]; simp
    refine AWP.seq ?_
    refine AWP.sR gok [2, 7, 9, 10, 30] (by apply aops_mv (t := 10) (d := 27) (ag_n rfl) rfl rfl (by first | (simp only [look_lay, look, seval] <;> rfl) | fail) rfl; apply aops_mv (t := 2) (d := 28) (ag_n rfl) rfl rfl (by first | (simp only [look_lay, look, seval] <;> rfl) | fail) rfl; apply aops_x (d := 29) (ag_n rfl) rfl (by first | (simp (disch := decide) only [go_sem, seval] <;> rfl) | (simp (disch := first | decide | omega) only [if_pos, nws, go_sem, seval] <;> rfl)) rfl; apply aops_x (d := 30) (ag_n rfl) rfl (by first | (simp (disch := decide) only [go_sem, seval] <;> rfl) | (simp (disch := first | decide | omega) only [if_pos, nws, go_sem, seval] <;> rfl)) rfl; apply aops_end; rfl) (by (simp (disch := omega) only [go_sem, seval, lay, nws]); rfl) ?_
    refine AWP.cond (b := _) rfl (fun h => ?_) (fun h => ?_) <;> (try simp only [decide_eq_true_eq, decide_eq_false_iff_not] at h)
    · skip
      refine AWP.skip ?_
      change AWP _ _ _ _ _
      refine AWP.seqBlock ?_
      refine AWP.rT gok [2, 7, 9, 10] (by apply aops_x (d := 33) (ag_n rfl) rfl (by (simp (disch := first | decide | omega) only [if_pos, nws, go_sem, seval] <;> rfl)) rfl; apply aops_mv (t := 9) (d := 34) (ag_n rfl) rfl rfl (by first | (simp only [look_lay, look, seval] <;> rfl) | fail) rfl; apply aops_x (d := 35) (ag_n rfl) rfl (by (simp (disch := first | decide | omega) only [if_pos, nws, go_sem, seval] <;> rfl)) rfl; apply aops_as (t := 35) (d := 9) (ag_n rfl) rfl rfl (by first | (simp only [look_lay, look, seval] <;> rfl) | fail) rfl; apply aops_end; rfl) (by (simp (disch := omega) only [go_sem, seval, lay, nws]); rfl) ?_
      change AWP _ _ _ _ _
      refine AWP.rT gok [2, 7, 9, 10] (by apply aops_mv (t := 10) (d := 31) (ag_n rfl) rfl rfl (by first | (simp only [look_lay, look, seval] <;> rfl) | fail) rfl; apply aops_x (d := 32) (ag_n rfl) rfl (by first | (simp (disch := decide) only [go_sem, seval] <;> rfl) | (simp (disch := first | decide | omega) only [if_pos, nws, go_sem, seval] <;> rfl)) rfl; apply aops_as (t := 32) (d := 10) (ag_n rfl) rfl rfl (by first | (simp only [look_lay, look, seval] <;> rfl) | fail) rfl; apply aops_end; rfl) (by (simp (disch := omega) only [go_sem, seval, lay, nws]); rfl) ?_
      refine ⟨(k + 1, 0 :: b), Ghost.trans (Ghost.gc (ρ := [0, 3]) (by simp only [go_sem, seval] <;> rfl) rfl rfl rfl) (Ghost.of_eq (by simp only [List.length_cons, List.length_nil, List.cons_append, List.nil_append, Int.natCast_add, Int.cast_ofNat_Int, Nat.add_comm])), ⟨by simp only; omega, ?_⟩, by simp only; omega⟩
      simp only
      rw [k2]; rfl
    · skip
      refine AWP.exit ?_
      change AWP _ _ _ _ _
      refine AWP.seqBlock ?_
      refine AWP.loopP (fun (p : List Int) => ⟨77, [(7, .c (.sl 0 0 p.length 1)), (9, .c (.sl 1 0 b.length 1))], [some (.ty (.i .u64) p), some (.ty (.i .u64) b)]⟩) (fun p => padded acc b.length p) (fun p => b.length - p.length) acc (Ghost.trans (Ghost.trim _ [7, 9] _) (Ghost.of_eq (by (simp (disch := omega) only [go_sem, seval, lay, nws]) <;> rfl))) (padded_zero acc b.length) ?_
      rintro a ha
      change padded acc b.length a at ha
      have al2 : a.length ≤ 60 := by have := padded_len ha; omega
      refine AWP.seq ?_
      refine AWP.sR gok [7, 9, 40] (by apply aops_mv (t := 7) (d := 36) (ag_n rfl) rfl rfl (by first | (simp only [look_lay, look, seval] <;> rfl) | fail) rfl; apply aops_x (d := 37) (ag_n rfl) rfl (by first | (simp (disch := decide) only [go_sem, seval] <;> rfl) | (simp (disch := first | decide | omega) only [if_pos, nws, go_sem, seval] <;> rfl)) rfl; apply aops_mv (t := 9) (d := 38) (ag_n rfl) rfl rfl (by first | (simp only [look_lay, look, seval] <;> rfl) | fail) rfl; apply aops_x (d := 39) (ag_n rfl) rfl (by first | (simp (disch := decide) only [go_sem, seval] <;> rfl) | (simp (disch := first | decide | omega) only [if_pos, nws, go_sem, seval] <;> rfl)) rfl; apply aops_x (d := 40) (ag_n rfl) rfl (by first | (simp (disch := decide) only [go_sem, seval] <;> rfl) | (simp (disch := first | decide | omega) only [if_pos, nws, go_sem, seval] <;> rfl)) rfl; apply aops_end; rfl) (by (simp (disch := omega) only [go_sem, seval, lay, nws]); rfl) ?_
      refine AWP.cond (b := _) rfl (fun h => ?_) (fun h => ?_) <;> (try simp only [decide_eq_true_eq, decide_eq_false_iff_not] at h)
      · skip
        refine AWP.skip ?_
        change AWP _ _ _ _ _
        refine AWP.block ?_
        refine AWP.rT gok [7, 9] (by apply aops_mv (t := 7) (d := 41) (ag_n rfl) rfl rfl (by first | (simp only [look_lay, look, seval] <;> rfl) | fail) rfl; apply aops_x (d := 42) (ag_n rfl) rfl (by (simp (disch := first | decide | omega) only [if_pos, nws, go_sem, seval] <;> rfl)) rfl; apply aops_x (d := 43) (ag_n rfl) rfl (by (simp (disch := first | decide | omega) only [if_pos, nws, go_sem, seval] <;> rfl)) rfl; apply aops_as (t := 43) (d := 7) (ag_n rfl) rfl rfl (by first | (simp only [look_lay, look, seval] <;> rfl) | fail) rfl; apply aops_end; rfl) (by (simp (disch := omega) only [go_sem, seval, lay, nws]); rfl) ?_
        refine ⟨a ++ [0], Ghost.trans (Ghost.gc (ρ := [3, 1]) (by simp only [go_sem, seval] <;> rfl) rfl rfl rfl) (Ghost.of_eq (by simp only [List.length_append, List.length_cons, List.length_nil])), padded_snoc ha (by omega), by simp only [List.length_append, List.length_cons, List.length_nil]; omega⟩
      · skip
        refine AWP.exit ?_
        change AWP _ _ _ _ _
        refine AWP.seqBlock ?_
        refine AWP.loopP (fun (p : List Int) => ⟨77, [(7, .c (.sl 0 0 a.length 1)), (9, .c (.sl 1 0 p.length 1))], [some (.ty (.i .u64) a), some (.ty (.i .u64) p)]⟩) (fun p => padded b a.length p) (fun p => a.length - p.length) b (Ghost.trans (Ghost.trim _ [7, 9] _) (Ghost.of_eq (by (simp (disch := omega) only [go_sem, seval, lay, nws]) <;> rfl))) (padded_zero b a.length) ?_
        rintro b2 hb2
        change padded b a.length b2 at hb2
        have bl2 : b2.length ≤ 60 := by have := padded_len hb2; omega
        refine AWP.seq ?_
        refine AWP.sR gok [7, 9, 48] (by apply aops_mv (t := 9) (d := 44) (ag_n rfl) rfl rfl (by first | (simp only [look_lay, look, seval] <;> rfl) | fail) rfl; apply aops_x (d := 45) (ag_n rfl) rfl (by first | (simp (disch := decide) only [go_sem, seval] <;> rfl) | (simp (disch := first | decide | omega) only [if_pos, nws, go_sem, seval] <;> rfl)) rfl; apply aops_mv (t := 7) (d := 46) (ag_n rfl) rfl rfl (by first | (simp only [look_lay, look, seval] <;> rfl) | fail) rfl; apply aops_x (d := 47) (ag_n rfl) rfl (by first | (simp (disch := decide) only [go_sem, seval] <;> rfl) | (simp (disch := first | decide | omega) only [if_pos, nws, go_sem, seval] <;> rfl)) rfl; apply aops_x (d := 48) (ag_n rfl) rfl (by first | (simp (disch := decide) only [go_sem, seval] <;> rfl) | (simp (disch := first | decide | omega) only [if_pos, nws, go_sem, seval] <;> rfl)) rfl; apply aops_end; rfl) (by (simp (disch := omega) only [go_sem, seval, lay, nws]); rfl) ?_
        refine AWP.cond (b := _) rfl (fun h => ?_) (fun h => ?_) <;> (try simp only [decide_eq_true_eq, decide_eq_false_iff_not] at h)
        · skip
          refine AWP.skip ?_
          change AWP _ _ _ _ _
          refine AWP.block ?_
          refine AWP.rT gok [7, 9] (by apply aops_mv (t := 9) (d := 49) (ag_n rfl) rfl rfl (by first | (simp only [look_lay, look, seval] <;> rfl) | fail) rfl; apply aops_x (d := 50) (ag_n rfl) rfl (by (simp (disch := first | decide | omega) only [if_pos, nws, go_sem, seval] <;> rfl)) rfl; apply aops_x (d := 51) (ag_n rfl) rfl (by (simp (disch := first | decide | omega) only [if_pos, nws, go_sem, seval] <;> rfl)) rfl; apply aops_as (t := 51) (d := 9) (ag_n rfl) rfl rfl (by first | (simp only [look_lay, look, seval] <;> rfl) | fail) rfl; apply aops_end; rfl) (by (simp (disch := omega) only [go_sem, seval, lay, nws]); rfl) ?_
          refine ⟨b2 ++ [0], Ghost.trans (Ghost.gc (ρ := [0, 3]) (by simp only [go_sem, seval] <;> rfl) rfl rfl rfl) (Ghost.of_eq (by simp only [List.length_append, List.length_cons, List.length_nil])), padded_snoc hb2 (by omega), by simp only [List.length_append, List.length_cons, List.length_nil]; omega⟩
        · skip
          refine AWP.exit ?_
          change AWP _ _ _ _ _
          refine AWP.seq ?_
          have ea : a = padG acc b.length := padded_end ha (by omega)
          have eb : b2 = padG b a.length := padded_end hb2 (by omega)
          have el : b2.length = a.length := by rw [eb, padG_len]; have := congrArg List.length ea; rw [padG_len] at this; omega
          have eF : aboveG fs v w = topG a.reverse b2.reverse := by
            unfold aboveG
            have : k = 2 * w := by omega
            simp only []
            rw [← h2, ← this, ← k2, ← ea, ← eb]
          refine AWP.sR gok [7, 9, 11] (by apply aops_mv (t := 9) (d := 52) (ag_n rfl) rfl rfl (by first | (simp only [look_lay, look, seval] <;> rfl) | fail) rfl; apply aops_x (d := 53) (ag_n rfl) rfl (by first | (simp (disch := decide) only [go_sem, seval] <;> rfl) | (simp (disch := first | decide | omega) only [if_pos, nws, go_sem, seval] <;> rfl)) rfl; apply aops_x (d := 54) (ag_n rfl) rfl (by first | (simp (disch := decide) only [go_sem, seval] <;> rfl) | (simp (disch := first | decide | omega) only [if_pos, nws, go_sem, seval] <;> rfl)) rfl; apply aops_as (t := 54) (d := 11) (ag_n rfl) rfl rfl (by first | (simp only [look_lay, look, seval] <;> rfl) | fail) rfl; apply aops_end; rfl) (by (simp (disch := omega) only [go_sem, seval, lay, nws]); rfl) ?_
          refine AWP.block ?_
          refine AWP.loopP (fun (p : Nat) => ⟨77, [(7, .c (.sl 0 0 a.length 1)), (9, .c (.sl 1 0 b2.length 1)), (11, .c (ci .i64 ((p : Int) - 1)))], [some (.ty (.i .u64) a), some (.ty (.i .u64) b2)]⟩) (fun p => p ≤ b2.length ∧ aboveG fs v w = topG (a.take p).reverse (b2.take p).reverse) (fun p => p) b2.length (Ghost.refl _ _) ⟨Nat.le_refl _, by simp only [List.take_length]; rw [el, List.take_length]; exact eF⟩ ?_
          rintro j ⟨j1, j2⟩
          refine AWP.seq ?_
          refine AWP.sR gok [7, 9, 11, 56] (by apply aops_mv (t := 11) (d := 55) (ag_n rfl) rfl rfl (by first | (simp only [look_lay, look, seval] <;> rfl) | fail) rfl; apply aops_x (d := 56) (ag_n rfl) rfl (by first | (simp (disch := decide) only [go_sem, seval] <;> rfl) | (simp (disch := first | decide | omega) only [if_pos, nws, go_sem, seval] <;> rfl)) rfl; apply aops_end; rfl) (by (simp (disch := omega) only [go_sem, seval, lay, nws]); rfl) ?_
          refine AWP.cond (b := _) rfl (fun h => ?_) (fun h => ?_) <;> (try simp only [decide_eq_true_eq, decide_eq_false_iff_not] at h)
          · skip
            refine AWP.skip ?_
            change AWP _ _ _ _ _
            refine AWP.seqBlock ?_
            obtain ⟨m, rfl⟩ : ∃ m, j = m + 1 := ⟨j - 1, by omega⟩
            have em : ((m + 1 : Nat) : Int) - 1 = (m : Int) := by omega
            rw [em]
            obtain ⟨x, hx⟩ : ∃ x, a[m]? = some x := ⟨_, List.getElem?_eq_getElem (by omega)⟩
            obtain ⟨y, hy⟩ : ∃ y, b2[m]? = some y := ⟨_, List.getElem?_eq_getElem (by omega)⟩
            rw [topG_step a b2 m x y hx hy] at j2
            refine AWP.sD gok (by kernel_rfl) [7, 9, 11, 67] [⟨[], true, 0⟩, ⟨[], true, 0⟩, ⟨[], true, 0⟩, ⟨[0], true, 0⟩, ⟨[], true, 0⟩, ⟨[], true, 0⟩, ⟨[], true, 0⟩, ⟨[1], true, 0⟩, ⟨[], true, 0⟩] (by kernel_rfl) (by first | rfl | simp only [go_sem, ↓reduceIte, Nat.reduceLT, Nat.reduceAdd]) (by first | rfl | simp only [go_sem, ↓reduceIte, Nat.reduceLT, Nat.reduceAdd]) (by (repeat (first | apply arun_step (by first | exact ag_n rfl | exact ag_b rfl rfl rfl (by first | (simp only [look_lay, look, seval] <;> rfl) | fail) (by first | rfl | (simp only [hx, hy, Int.toNat_natCast, decide_true, decide_false] <;> rfl) | fail) | fail) (by first | (simp (disch := decide) only [hx, hy, Int.toNat_natCast, go_sem, seval]; rfl) | (simp (disch := first | decide | omega) only [if_pos, nws, hx, hy, Int.toNat_natCast, go_sem, seval]; rfl)) (by first | (intro h; cases h; done) | (intro _; rfl) | (intro _; simp only [go_sem, seval, lay])) (by first | rfl | simp only [go_sem, seval, lay]) (by first | rfl | simp only [go_sem, seval, lay]) (by first | rfl | simp only [go_sem, seval, lay]) (by simp only [go_sem, seval, lay]; rfl) | apply arun_pass (by first | exact ag_f rfl rfl rfl (by first | (simp only [look_lay, look, seval] <;> rfl) | fail) (by first | rfl | (simp only [hx, hy, Int.toNat_natCast, decide_true, decide_false] <;> rfl) | fail) | exact ag_u rfl rfl rfl (by first | (simp only [look_lay, look, seval] <;> rfl) | fail) | fail) rfl (by simp only [go_sem, seval, lay]; rfl))); exact rfl) (by (simp (disch := omega) only [go_sem, seval, lay, nws]); rfl) ?_
            refine AWP.cond (b := _) rfl (fun h => ?_) (fun h => ?_) <;> (try simp only [decide_eq_true_eq, decide_eq_false_iff_not] at h)
            · skip
              refine AWP.sD gok (by kernel_rfl) [6] [⟨[], true, 0⟩, ⟨[], true, 0⟩, ⟨[], true, 0⟩, ⟨[0], true, 0⟩, ⟨[], true, 0⟩, ⟨[], true, 0⟩, ⟨[], true, 0⟩, ⟨[1], true, 0⟩, ⟨[], true, 0⟩, ⟨[], true, 0⟩] (by kernel_rfl) (by first | rfl | simp only [go_sem, ↓reduceIte, Nat.reduceLT, Nat.reduceAdd]) (by first | rfl | simp only [go_sem, ↓reduceIte, Nat.reduceLT, Nat.reduceAdd]) (by (repeat (first | apply arun_step (by first | exact ag_n rfl | exact ag_b rfl rfl rfl (by first | (simp only [look_lay, look, seval] <;> rfl) | fail) (by first | rfl | (simp only [hx, hy, Int.toNat_natCast, decide_true, decide_false] <;> rfl) | fail) | fail) (by first | (simp (disch := decide) only [hx, hy, Int.toNat_natCast, go_sem, seval]; rfl) | (simp (disch := first | decide | omega) only [if_pos, nws, hx, hy, Int.toNat_natCast, go_sem, seval]; rfl)) (by first | (intro h; cases h; done) | (intro _; rfl) | (intro _; simp only [go_sem, seval, lay])) (by first | rfl | simp only [go_sem, seval, lay]) (by first | rfl | simp only [go_sem, seval, lay]) (by first | rfl | simp only [go_sem, seval, lay]) (by simp only [go_sem, seval, lay]; rfl) | apply arun_pass (by first | exact ag_f rfl rfl rfl (by first | (simp only [look_lay, look, seval] <;> rfl) | fail) (by first | rfl | (simp only [hx, hy, Int.toNat_natCast, decide_true, decide_false] <;> rfl) | fail) | exact ag_u rfl rfl rfl (by first | (simp only [look_lay, look, seval] <;> rfl) | fail) | fail) rfl (by simp only [go_sem, seval, lay]; rfl))); exact rfl) (by (simp (disch := omega) only [go_sem, seval, lay, nws]); rfl) ?_
              refine AWP.ret ?_
              refine ⟨.inr rfl, _, (by simp only [go_sem, seval] <;> rfl), ?_⟩
              simp only [go_sem, seval, Option.some.injEq, AV.c.injEq, AV.agg.injEq, CV.v.injEq, Value.int.injEq, Value.bool.injEq, Row.raw.injEq, List.cons.injEq, CV.sl.injEq, and_true, true_and, and_self]
              rw [Int.toNat_natCast, j2, if_neg h]
            · skip
              refine AWP.skip ?_
              change AWP _ _ _ _ _
              refine AWP.rT gok [7, 9, 11] (by apply aops_mv (t := 11) (d := 57) (ag_n rfl) rfl rfl (by first | (simp only [look_lay, look, seval] <;> rfl) | fail) rfl; apply aops_x (d := 58) (ag_n rfl) rfl (by first | (simp (disch := decide) only [go_sem, seval] <;> rfl) | (simp (disch := first | decide | omega) only [if_pos, nws, go_sem, seval] <;> rfl)) rfl; apply aops_as (t := 58) (d := 11) (ag_n rfl) rfl rfl (by first | (simp only [look_lay, look, seval] <;> rfl) | fail) rfl; apply aops_end; rfl) (by (simp (disch := omega) only [go_sem, seval, lay, nws]); rfl) ?_
              have hxy : x = y := Decidable.of_not_not h
              rw [if_pos hxy] at j2
              exact ⟨m, Ghost.of_eq rfl, ⟨by omega, j2⟩, Nat.lt_succ_self _⟩
          · skip
            refine AWP.exit ?_
            change AWP _ _ _ _ _
            refine AWP.sR gok [6] (by apply aops_x (d := 6) (ag_n rfl) rfl (by first | (simp (disch := decide) only [go_sem, seval] <;> rfl) | (simp (disch := first | decide | omega) only [if_pos, nws, go_sem, seval] <;> rfl)) rfl; apply aops_end; rfl) (by (simp (disch := omega) only [go_sem, seval, lay, nws]); rfl) ?_
            refine AWP.ret ?_
            refine ⟨.inr rfl, _, (by simp only [go_sem, seval] <;> rfl), ?_⟩
            simp only [go_sem, seval, Option.some.injEq, AV.c.injEq, AV.agg.injEq, CV.v.injEq, Value.int.injEq, Value.bool.injEq, Row.raw.injEq, List.cons.injEq, CV.sl.injEq, and_true, true_and, and_self]
            have ej : j = 0 := by omega
            rw [Int.toNat_natCast, j2, ej]; rfl
theorem E65_ok : EntryOk Try.prog 65 E65 := pureN_ok (fun d hc => K65 d.1 d.2.1 d.2.2.1 hc) (fun _ => rfl) (fun _ => rfl)
attribute [go_sem] E65 c65 r65 L65
end Go.Proofs.Ytbdnhoddkdiogaa
end
section
set_option linter.unusedSimpArgs false
set_option linter.unusedVariables false
namespace Go.Proofs.Ytbdnhoddkdiogaa
open Go.RowKit
def rootG (mk : Int → List Int) (v : Int) (w : Nat) : Nat → Int → Int → Int
  | 0, _, r => r
  | f + 1, bit, r => if 0 < bit then rootG mk v w f (bit / 2) (if aboveG (mk (r + bit)) v w then r else r + bit) else r
theorem rootG_end (mk : Int → List Int) (v : Int) (w f : Nat) (bit r : Int) (h : ¬ 0 < bit) : rootG mk v w f bit r = r := by
  cases f with
  | zero => rfl
  | succ f => unfold rootG; rw [if_neg h]
def squareG (v : Int) : Int := rootG (fun r => [r, r]) v 2 38 68719476736 0
def cubeG (v : Int) : Int := rootG (fun r => [r, r, r]) v 3 38 68719476736 0
abbrev c44 (v : Int) : Prop := (0 ≤ v ∧ v < 18446744073709551616)
abbrev r44 (v : Int) : AV := .c (ci .u32 (squareG v % 4294967296))
abbrev L44 (v : Int) : Hp := []
def E44 : Entry := pureN [(.i .u64)] (fun d => c44 d.1) (fun d => r44 d.1) (fun d => L44 d.1)
set_option maxRecDepth 100000 in
set_option maxHeartbeats 4000000 in
theorem K44 (v : Int) (hc : c44 v) : CallOk Try.prog 44 [.c (ci .u64 v)] [] (r44 v) (L44 v) := by
  have hc : (0 ≤ v ∧ v < 18446744073709551616) := hc
  have gok := (Gam.cons_ok E65_ok (Gam.nil_ok _))
  refine callOk' Try.func44 23 [.tmp 2] _ rfl rfl rfl (by kernel_rfl) (by simp) [] rfl rfl (by simp) ?_
  simp only [params]
  refine AWP.sR gok [0] (by apply aops_x (d := 2) (ag_n rfl) rfl (by first | (simp (disch := decide) only [go_sem, seval] <;> rfl) | (simp (disch := first | decide | omega) only [if_pos, nws, go_sem, seval] <;> rfl)) rfl; apply aops_end; rfl) (by (simp (disch := omega) only [go_sem, seval, lay, nws]); rfl) ?_
  refine AWP.sR gok [0, 3] (by apply aops_x (d := 3) (ag_n rfl) rfl (by first | (simp (disch := decide) only [go_sem, seval] <;> rfl) | (simp (disch := first | decide | omega) only [if_pos, nws, go_sem, seval] <;> rfl)) rfl; apply aops_end; rfl) (by (simp (disch := omega) only [go_sem, seval, lay, nws]); rfl) ?_
  refine AWP.seq ?_
  refine AWP.sR gok [0, 3, 4] (by apply aops_x (d := 4) (ag_n rfl) rfl (by first | (simp (disch := decide) only [go_sem, seval] <;> rfl) | (simp (disch := first | decide | omega) only [if_pos, nws, go_sem, seval] <;> rfl)) rfl; apply aops_end; rfl) (by (simp (disch := omega) only [go_sem, seval, lay, nws]); rfl) ?_
  refine AWP.block ?_
  refine AWP.loopP (fun (p : Nat × Int × Int) => ⟨23, [(0, .c (ci .u64 v)), (3, .c (ci .u64 p.2.2)), (4, .c (ci .u64 p.2.1))], []⟩) (fun p => (0 ≤ p.2.1 ∧ p.2.1 < 2 ^ p.1) ∧ (0 ≤ p.2.2 ∧ p.2.2 + 2 * p.2.1 ≤ 274877906944) ∧ rootG (fun r => [r, r]) v 2 p.1 p.2.1 p.2.2 = squareG v) (fun p => p.2.1.toNat) ⟨38, 68719476736, 0⟩ (Ghost.refl _ _) ⟨by decide, by decide, rfl⟩ ?_
  rintro ⟨f, bit, r⟩ ⟨⟨b0, b1⟩, ⟨r0, r1⟩, h3⟩
  simp only at b0 b1 r0 r1 h3 ⊢
  refine AWP.seq ?_
  refine AWP.sR gok [0, 3, 4, 7] (by apply aops_mv (t := 4) (d := 6) (ag_n rfl) rfl rfl (by first | (simp only [look_lay, look, seval] <;> rfl) | fail) rfl; apply aops_x (d := 7) (ag_n rfl) rfl (by first | (simp (disch := decide) only [go_sem, seval] <;> rfl) | (simp (disch := first | decide | omega) only [if_pos, nws, go_sem, seval] <;> rfl)) rfl; apply aops_end; rfl) (by (simp (disch := omega) only [go_sem, seval, lay, nws]); rfl) ?_
  refine AWP.cond (b := _) rfl (fun h => ?_) (fun h => ?_) <;> (try simp only [decide_eq_true_eq, decide_eq_false_iff_not] at h)
  · skip
    refine AWP.skip ?_
    change AWP _ _ _ _ _
    refine AWP.seqBlock ?_
    obtain ⟨g, rfl⟩ : ∃ g, f = g + 1 := ⟨f - 1, by
      cases f with
      | zero => simp at b1; omega
      | succ f => rfl⟩
    have hb : 0 < bit := by omega
    rw [show rootG (fun r => [r, r]) v 2 (g + 1) bit r = if 0 < bit then rootG (fun r => [r, r]) v 2 g (bit / 2) (if aboveG [r + bit, r + bit] v 2 then r else r + bit) else r from rfl, if_pos hb] at h3
    have b2 : bit / 2 < 2 ^ g := by rw [Int.pow_succ] at b1; exact Int.ediv_lt_of_lt_mul (by omega) b1
    have fa : facts [r + bit, r + bit] := by
      intro x hx
      simp only [List.mem_cons, List.not_mem_nil, or_false, or_self] at hx
      omega
    have tn : (2 : Int).toNat = 2 := rfl
    refine AWP.sR gok [0, 3, 4, 5] (by apply aops_mv (t := 3) (d := 10) (ag_n rfl) rfl rfl (by first | (simp only [look_lay, look, seval] <;> rfl) | fail) rfl; apply aops_mv (t := 4) (d := 11) (ag_n rfl) rfl rfl (by first | (simp only [look_lay, look, seval] <;> rfl) | fail) rfl; apply aops_x (d := 12) (ag_n rfl) rfl (by first | (simp (disch := decide) only [go_sem, seval] <;> rfl) | (simp (disch := first | decide | omega) only [if_pos, nws, go_sem, seval] <;> rfl)) rfl; apply aops_as (t := 12) (d := 5) (ag_n rfl) rfl rfl (by first | (simp only [look_lay, look, seval] <;> rfl) | fail) rfl; apply aops_end; rfl) (by (simp (disch := omega) only [go_sem, seval, lay, nws]); rfl) ?_
    refine AWP.sR gok [0, 3, 4, 5, 18] (by apply aops_mv (t := 5) (d := 13) (ag_n rfl) rfl rfl (by first | (simp only [look_lay, look, seval] <;> rfl) | fail) rfl; apply aops_mv (t := 5) (d := 14) (ag_n rfl) rfl rfl (by first | (simp only [look_lay, look, seval] <;> rfl) | fail) rfl; apply aops_x (d := 15) (ag_n rfl) rfl (by (simp (disch := first | decide | omega) only [if_pos, nws, fa, tn, go_sem, seval] <;> rfl)) rfl; apply aops_mv (t := 0) (d := 16) (ag_n rfl) rfl rfl (by first | (simp only [look_lay, look, seval] <;> rfl) | fail) rfl; apply aops_x (d := 17) (ag_n rfl) rfl (by (simp (disch := first | decide | omega) only [if_pos, nws, fa, tn, go_sem, seval] <;> rfl)) rfl; apply aops_x (d := 18) (ag_n rfl) rfl (by first | (simp (disch := decide) only [fa, tn, go_sem, seval] <;> rfl) | (simp (disch := first | decide | omega) only [if_pos, nws, fa, tn, go_sem, seval] <;> rfl)) rfl; apply aops_end; rfl) (by (simp (disch := omega) only [go_sem, seval, lay, nws]); rfl) ?_
    refine AWP.cond (b := _) rfl (fun h => ?_) (fun h => ?_) <;> (try simp only [decide_eq_true_eq, decide_eq_false_iff_not] at h)
    · skip
      refine AWP.rT gok [0, 3, 4] (by apply aops_mv (t := 5) (d := 19) (ag_n rfl) rfl rfl (by first | (simp only [look_lay, look, seval] <;> rfl) | fail) rfl; apply aops_as (t := 19) (d := 3) (ag_n rfl) rfl rfl (by first | (simp only [look_lay, look, seval] <;> rfl) | fail) rfl; apply aops_end; rfl) (by (simp (disch := omega) only [go_sem, seval, lay, nws]); rfl) ?_
      change AWP _ _ _ _ _
      refine AWP.rT gok [0, 3, 4] (by apply aops_mv (t := 4) (d := 8) (ag_n rfl) rfl rfl (by first | (simp only [look_lay, look, seval] <;> rfl) | fail) rfl; apply aops_x (d := 9) (ag_n rfl) rfl (by (simp (disch := first | decide | omega) only [if_pos, nws, go_sem, seval] <;> rfl)) rfl; apply aops_as (t := 9) (d := 4) (ag_n rfl) rfl rfl (by first | (simp only [look_lay, look, seval] <;> rfl) | fail) rfl; apply aops_end; rfl) (by (simp (disch := omega) only [go_sem, seval, lay, nws]); rfl) ?_
      have hm : (bit / 2).toNat < bit.toNat := by omega
      first
      | (have hh : aboveG [r + bit, r + bit] v 2 = false := by simpa using h
         simp only [hh, Bool.false_eq_true, ↓reduceIte] at h3
         exact ⟨(g, bit / 2, r + bit), Ghost.gc (ρ := []) (by simp only [go_sem, seval] <;> rfl) rfl rfl rfl, ⟨⟨by simp only; omega, b2⟩, ⟨by simp only; omega, by simp only; omega⟩, h3⟩, hm⟩)
      | (have hh : aboveG [r + bit, r + bit] v 2 = true := by simpa using h
         simp only [hh, ↓reduceIte] at h3
         exact ⟨(g, bit / 2, r), Ghost.gc (ρ := []) (by simp only [go_sem, seval] <;> rfl) rfl rfl rfl, ⟨⟨by simp only; omega, b2⟩, ⟨by simp only; omega, by simp only; omega⟩, h3⟩, hm⟩)
    · skip
      refine AWP.skip ?_
      change AWP _ _ _ _ _
      refine AWP.rT gok [0, 3, 4] (by apply aops_mv (t := 4) (d := 8) (ag_n rfl) rfl rfl (by first | (simp only [look_lay, look, seval] <;> rfl) | fail) rfl; apply aops_x (d := 9) (ag_n rfl) rfl (by (simp (disch := first | decide | omega) only [if_pos, nws, go_sem, seval] <;> rfl)) rfl; apply aops_as (t := 9) (d := 4) (ag_n rfl) rfl rfl (by first | (simp only [look_lay, look, seval] <;> rfl) | fail) rfl; apply aops_end; rfl) (by (simp (disch := omega) only [go_sem, seval, lay, nws]); rfl) ?_
      have hm : (bit / 2).toNat < bit.toNat := by omega
      first
      | (have hh : aboveG [r + bit, r + bit] v 2 = false := by simpa using h
         simp only [hh, Bool.false_eq_true, ↓reduceIte] at h3
         exact ⟨(g, bit / 2, r + bit), Ghost.gc (ρ := []) (by simp only [go_sem, seval] <;> rfl) rfl rfl rfl, ⟨⟨by simp only; omega, b2⟩, ⟨by simp only; omega, by simp only; omega⟩, h3⟩, hm⟩)
      | (have hh : aboveG [r + bit, r + bit] v 2 = true := by simpa using h
         simp only [hh, ↓reduceIte] at h3
         exact ⟨(g, bit / 2, r), Ghost.gc (ρ := []) (by simp only [go_sem, seval] <;> rfl) rfl rfl rfl, ⟨⟨by simp only; omega, b2⟩, ⟨by simp only; omega, by simp only; omega⟩, h3⟩, hm⟩)
  · skip
    refine AWP.exit ?_
    change AWP _ _ _ _ _
    have hz : ¬ 0 < bit := by omega
    rw [rootG_end _ _ _ _ _ _ hz] at h3
    refine AWP.sR gok [2] (by apply aops_mv (t := 3) (d := 20) (ag_n rfl) rfl rfl (by first | (simp only [look_lay, look, seval] <;> rfl) | fail) rfl; apply aops_x (d := 21) (ag_n rfl) rfl (by (simp (disch := first | decide | omega) only [if_pos, nws, go_sem, seval] <;> rfl)) rfl; apply aops_x (d := 22) (ag_n rfl) rfl (by first | (simp (disch := decide) only [go_sem, seval] <;> rfl) | (simp (disch := first | decide | omega) only [if_pos, nws, go_sem, seval] <;> rfl)) rfl; apply aops_as (t := 22) (d := 2) (ag_n rfl) rfl rfl (by first | (simp only [look_lay, look, seval] <;> rfl) | fail) rfl; apply aops_end; rfl) (by (simp (disch := omega) only [go_sem, seval, lay, nws]); rfl) ?_
    refine AWP.ret ?_
    refine ⟨.inr rfl, _, (by simp only [go_sem, seval] <;> rfl), ?_⟩
    simp only [go_sem, seval, Option.some.injEq, AV.c.injEq, AV.agg.injEq, CV.v.injEq, Value.int.injEq, Value.bool.injEq, Row.raw.injEq, List.cons.injEq, CV.sl.injEq, and_true, true_and, and_self]
    rw [h3]
theorem E44_ok : EntryOk Try.prog 44 E44 := pureN_ok (fun d hc => K44 d.1 hc) (fun _ => rfl) (fun _ => rfl)
attribute [go_sem] E44 c44 r44 L44
abbrev c45 (v : Int) : Prop := (0 ≤ v ∧ v < 18446744073709551616)
abbrev r45 (v : Int) : AV := .c (ci .u32 (cubeG v % 4294967296))
abbrev L45 (v : Int) : Hp := []
def E45 : Entry := pureN [(.i .u64)] (fun d => c45 d.1) (fun d => r45 d.1) (fun d => L45 d.1)
set_option maxRecDepth 100000 in
set_option maxHeartbeats 4000000 in
theorem K45 (v : Int) (hc : c45 v) : CallOk Try.prog 45 [.c (ci .u64 v)] [] (r45 v) (L45 v) := by
  have hc : (0 ≤ v ∧ v < 18446744073709551616) := hc
  have gok := (Gam.cons_ok E65_ok (Gam.nil_ok _))
  refine callOk' Try.func45 24 [.tmp 2] _ rfl rfl rfl (by kernel_rfl) (by simp) [] rfl rfl (by simp) ?_
  simp only [params]
  refine AWP.sR gok [0] (by apply aops_x (d := 2) (ag_n rfl) rfl (by first | (simp (disch := decide) only [go_sem, seval] <;> rfl) | (simp (disch := first | decide | omega) only [if_pos, nws, go_sem, seval] <;> rfl)) rfl; apply aops_end; rfl) (by (simp (disch := omega) only [go_sem, seval, lay, nws]); rfl) ?_
  refine AWP.sR gok [0, 3] (by apply aops_x (d := 3) (ag_n rfl) rfl (by first | (simp (disch := decide) only [go_sem, seval] <;> rfl) | (simp (disch := first | decide | omega) only [if_pos, nws, go_sem, seval] <;> rfl)) rfl; apply aops_end; rfl) (by (simp (disch := omega) only [go_sem, seval, lay, nws]); rfl) ?_
  refine AWP.seq ?_
  refine AWP.sR gok [0, 3, 4] (by apply aops_x (d := 4) (ag_n rfl) rfl (by first | (simp (disch := decide) only [go_sem, seval] <;> rfl) | (simp (disch := first | decide | omega) only [if_pos, nws, go_sem, seval] <;> rfl)) rfl; apply aops_end; rfl) (by (simp (disch := omega) only [go_sem, seval, lay, nws]); rfl) ?_
  refine AWP.block ?_
  refine AWP.loopP (fun (p : Nat × Int × Int) => ⟨24, [(0, .c (ci .u64 v)), (3, .c (ci .u64 p.2.2)), (4, .c (ci .u64 p.2.1))], []⟩) (fun p => (0 ≤ p.2.1 ∧ p.2.1 < 2 ^ p.1) ∧ (0 ≤ p.2.2 ∧ p.2.2 + 2 * p.2.1 ≤ 274877906944) ∧ rootG (fun r => [r, r, r]) v 3 p.1 p.2.1 p.2.2 = cubeG v) (fun p => p.2.1.toNat) ⟨38, 68719476736, 0⟩ (Ghost.refl _ _) ⟨by decide, by decide, rfl⟩ ?_
  rintro ⟨f, bit, r⟩ ⟨⟨b0, b1⟩, ⟨r0, r1⟩, h3⟩
  simp only at b0 b1 r0 r1 h3 ⊢
  refine AWP.seq ?_
  refine AWP.sR gok [0, 3, 4, 7] (by apply aops_mv (t := 4) (d := 6) (ag_n rfl) rfl rfl (by first | (simp only [look_lay, look, seval] <;> rfl) | fail) rfl; apply aops_x (d := 7) (ag_n rfl) rfl (by first | (simp (disch := decide) only [go_sem, seval] <;> rfl) | (simp (disch := first | decide | omega) only [if_pos, nws, go_sem, seval] <;> rfl)) rfl; apply aops_end; rfl) (by (simp (disch := omega) only [go_sem, seval, lay, nws]); rfl) ?_
  refine AWP.cond (b := _) rfl (fun h => ?_) (fun h => ?_) <;> (try simp only [decide_eq_true_eq, decide_eq_false_iff_not] at h)
  · skip
    refine AWP.skip ?_
    change AWP _ _ _ _ _
    refine AWP.seqBlock ?_
    obtain ⟨g, rfl⟩ : ∃ g, f = g + 1 := ⟨f - 1, by
      cases f with
      | zero => simp at b1; omega
      | succ f => rfl⟩
    have hb : 0 < bit := by omega
    rw [show rootG (fun r => [r, r, r]) v 3 (g + 1) bit r = if 0 < bit then rootG (fun r => [r, r, r]) v 3 g (bit / 2) (if aboveG [r + bit, r + bit, r + bit] v 3 then r else r + bit) else r from rfl, if_pos hb] at h3
    have b2 : bit / 2 < 2 ^ g := by rw [Int.pow_succ] at b1; exact Int.ediv_lt_of_lt_mul (by omega) b1
    have fa : facts [r + bit, r + bit, r + bit] := by
      intro x hx
      simp only [List.mem_cons, List.not_mem_nil, or_false, or_self] at hx
      omega
    have tn : (3 : Int).toNat = 3 := rfl
    refine AWP.sR gok [0, 3, 4, 5] (by apply aops_mv (t := 3) (d := 10) (ag_n rfl) rfl rfl (by first | (simp only [look_lay, look, seval] <;> rfl) | fail) rfl; apply aops_mv (t := 4) (d := 11) (ag_n rfl) rfl rfl (by first | (simp only [look_lay, look, seval] <;> rfl) | fail) rfl; apply aops_x (d := 12) (ag_n rfl) rfl (by first | (simp (disch := decide) only [go_sem, seval] <;> rfl) | (simp (disch := first | decide | omega) only [if_pos, nws, go_sem, seval] <;> rfl)) rfl; apply aops_as (t := 12) (d := 5) (ag_n rfl) rfl rfl (by first | (simp only [look_lay, look, seval] <;> rfl) | fail) rfl; apply aops_end; rfl) (by (simp (disch := omega) only [go_sem, seval, lay, nws]); rfl) ?_
    refine AWP.sR gok [0, 3, 4, 5, 19] (by apply aops_mv (t := 5) (d := 13) (ag_n rfl) rfl rfl (by first | (simp only [look_lay, look, seval] <;> rfl) | fail) rfl; apply aops_mv (t := 5) (d := 14) (ag_n rfl) rfl rfl (by first | (simp only [look_lay, look, seval] <;> rfl) | fail) rfl; apply aops_mv (t := 5) (d := 15) (ag_n rfl) rfl rfl (by first | (simp only [look_lay, look, seval] <;> rfl) | fail) rfl; apply aops_x (d := 16) (ag_n rfl) rfl (by (simp (disch := first | decide | omega) only [if_pos, nws, fa, tn, go_sem, seval] <;> rfl)) rfl; apply aops_mv (t := 0) (d := 17) (ag_n rfl) rfl rfl (by first | (simp only [look_lay, look, seval] <;> rfl) | fail) rfl; apply aops_x (d := 18) (ag_n rfl) rfl (by (simp (disch := first | decide | omega) only [if_pos, nws, fa, tn, go_sem, seval] <;> rfl)) rfl; apply aops_x (d := 19) (ag_n rfl) rfl (by first | (simp (disch := decide) only [fa, tn, go_sem, seval] <;> rfl) | (simp (disch := first | decide | omega) only [if_pos, nws, fa, tn, go_sem, seval] <;> rfl)) rfl; apply aops_end; rfl) (by (simp (disch := omega) only [go_sem, seval, lay, nws]); rfl) ?_
    refine AWP.cond (b := _) rfl (fun h => ?_) (fun h => ?_) <;> (try simp only [decide_eq_true_eq, decide_eq_false_iff_not] at h)
    · skip
      refine AWP.rT gok [0, 3, 4] (by apply aops_mv (t := 5) (d := 20) (ag_n rfl) rfl rfl (by first | (simp only [look_lay, look, seval] <;> rfl) | fail) rfl; apply aops_as (t := 20) (d := 3) (ag_n rfl) rfl rfl (by first | (simp only [look_lay, look, seval] <;> rfl) | fail) rfl; apply aops_end; rfl) (by (simp (disch := omega) only [go_sem, seval, lay, nws]); rfl) ?_
      change AWP _ _ _ _ _
      refine AWP.rT gok [0, 3, 4] (by apply aops_mv (t := 4) (d := 8) (ag_n rfl) rfl rfl (by first | (simp only [look_lay, look, seval] <;> rfl) | fail) rfl; apply aops_x (d := 9) (ag_n rfl) rfl (by (simp (disch := first | decide | omega) only [if_pos, nws, go_sem, seval] <;> rfl)) rfl; apply aops_as (t := 9) (d := 4) (ag_n rfl) rfl rfl (by first | (simp only [look_lay, look, seval] <;> rfl) | fail) rfl; apply aops_end; rfl) (by (simp (disch := omega) only [go_sem, seval, lay, nws]); rfl) ?_
      have hm : (bit / 2).toNat < bit.toNat := by omega
      first
      | (have hh : aboveG [r + bit, r + bit, r + bit] v 3 = false := by simpa using h
         simp only [hh, Bool.false_eq_true, ↓reduceIte] at h3
         exact ⟨(g, bit / 2, r + bit), Ghost.gc (ρ := []) (by simp only [go_sem, seval] <;> rfl) rfl rfl rfl, ⟨⟨by simp only; omega, b2⟩, ⟨by simp only; omega, by simp only; omega⟩, h3⟩, hm⟩)
      | (have hh : aboveG [r + bit, r + bit, r + bit] v 3 = true := by simpa using h
         simp only [hh, ↓reduceIte] at h3
         exact ⟨(g, bit / 2, r), Ghost.gc (ρ := []) (by simp only [go_sem, seval] <;> rfl) rfl rfl rfl, ⟨⟨by simp only; omega, b2⟩, ⟨by simp only; omega, by simp only; omega⟩, h3⟩, hm⟩)
    · skip
      refine AWP.skip ?_
      change AWP _ _ _ _ _
      refine AWP.rT gok [0, 3, 4] (by apply aops_mv (t := 4) (d := 8) (ag_n rfl) rfl rfl (by first | (simp only [look_lay, look, seval] <;> rfl) | fail) rfl; apply aops_x (d := 9) (ag_n rfl) rfl (by (simp (disch := first | decide | omega) only [if_pos, nws, go_sem, seval] <;> rfl)) rfl; apply aops_as (t := 9) (d := 4) (ag_n rfl) rfl rfl (by first | (simp only [look_lay, look, seval] <;> rfl) | fail) rfl; apply aops_end; rfl) (by (simp (disch := omega) only [go_sem, seval, lay, nws]); rfl) ?_
      have hm : (bit / 2).toNat < bit.toNat := by omega
      first
      | (have hh : aboveG [r + bit, r + bit, r + bit] v 3 = false := by simpa using h
         simp only [hh, Bool.false_eq_true, ↓reduceIte] at h3
         exact ⟨(g, bit / 2, r + bit), Ghost.gc (ρ := []) (by simp only [go_sem, seval] <;> rfl) rfl rfl rfl, ⟨⟨by simp only; omega, b2⟩, ⟨by simp only; omega, by simp only; omega⟩, h3⟩, hm⟩)
      | (have hh : aboveG [r + bit, r + bit, r + bit] v 3 = true := by simpa using h
         simp only [hh, ↓reduceIte] at h3
         exact ⟨(g, bit / 2, r), Ghost.gc (ρ := []) (by simp only [go_sem, seval] <;> rfl) rfl rfl rfl, ⟨⟨by simp only; omega, b2⟩, ⟨by simp only; omega, by simp only; omega⟩, h3⟩, hm⟩)
  · skip
    refine AWP.exit ?_
    change AWP _ _ _ _ _
    have hz : ¬ 0 < bit := by omega
    rw [rootG_end _ _ _ _ _ _ hz] at h3
    refine AWP.sR gok [2] (by apply aops_mv (t := 3) (d := 21) (ag_n rfl) rfl rfl (by first | (simp only [look_lay, look, seval] <;> rfl) | fail) rfl; apply aops_x (d := 22) (ag_n rfl) rfl (by (simp (disch := first | decide | omega) only [if_pos, nws, go_sem, seval] <;> rfl)) rfl; apply aops_x (d := 23) (ag_n rfl) rfl (by first | (simp (disch := decide) only [go_sem, seval] <;> rfl) | (simp (disch := first | decide | omega) only [if_pos, nws, go_sem, seval] <;> rfl)) rfl; apply aops_as (t := 23) (d := 2) (ag_n rfl) rfl rfl (by first | (simp only [look_lay, look, seval] <;> rfl) | fail) rfl; apply aops_end; rfl) (by (simp (disch := omega) only [go_sem, seval, lay, nws]); rfl) ?_
    refine AWP.ret ?_
    refine ⟨.inr rfl, _, (by simp only [go_sem, seval] <;> rfl), ?_⟩
    simp only [go_sem, seval, Option.some.injEq, AV.c.injEq, AV.agg.injEq, CV.v.injEq, Value.int.injEq, Value.bool.injEq, Row.raw.injEq, List.cons.injEq, CV.sl.injEq, and_true, true_and, and_self]
    rw [h3]
theorem E45_ok : EntryOk Try.prog 45 E45 := pureN_ok (fun d hc => K45 d.1 hc) (fun _ => rfl) (fun _ => rfl)
attribute [go_sem] E45 c45 r45 L45
end Go.Proofs.Ytbdnhoddkdiogaa
end
section
set_option linter.unusedSimpArgs false
set_option linter.unusedVariables false
namespace Go.Proofs.Ytbdnhoddkdiogaa
open Go.RowKit
def primeTo (n : Int) (l : List Int) : Bool := l.all fun q => decide (n % q ≠ 0)
def pri : Nat → List Int × Int
  | 0 => ([], 2)
  | k + 1 => let s := pri k; (if primeTo s.2 s.1 then s.1 ++ [s.2] else s.1, s.2 + 1)
theorem pri_n : ∀ k, (pri k).2 = (k : Int) + 2
  | 0 => rfl
  | k + 1 => by rw [show (pri (k + 1)).2 = (pri k).2 + 1 from rfl, pri_n k]; omega
theorem pri_mono (k : Nat) : (pri k).1.length ≤ (pri (k + 1)).1.length := by
  rw [show (pri (k + 1)).1 = if primeTo (pri k).2 (pri k).1 then (pri k).1 ++ [(pri k).2] else (pri k).1 from rfl]
  split
  · simp
  · exact Nat.le_refl _
theorem pri_mono' {j k : Nat} (h : j ≤ k) : (pri j).1.length ≤ (pri k).1.length := by
  induction h with
  | refl => exact Nat.le_refl _
  | step _ ih => exact Nat.le_trans ih (pri_mono _)
theorem pri_ok : ∀ k, ∀ q ∈ (pri k).1, 2 ≤ q ∧ q < (k : Int) + 2
  | 0 => by intro q hq; simp [pri] at hq
  | k + 1 => by
    intro q hq
    rw [show (pri (k + 1)).1 = if primeTo (pri k).2 (pri k).1 then (pri k).1 ++ [(pri k).2] else (pri k).1 from rfl] at hq
    have n := pri_n k
    split at hq
    · rcases List.mem_append.1 hq with hq | hq
      · have := pri_ok k q hq; omega
      · simp only [List.mem_singleton] at hq; omega
    · have := pri_ok k q hq; omega
def primesK : List Int := [2, 3, 5, 7, 11, 13, 17, 19, 23, 29, 31, 37, 41, 43, 47, 53, 59, 61, 67, 71, 73, 79, 83, 89, 97, 101, 103, 107, 109, 113, 127, 131, 137, 139, 149, 151, 157, 163, 167, 173, 179, 181, 191, 193, 197, 199, 211, 223, 227, 229, 233, 239, 241, 251, 257, 263, 269, 271, 277, 281, 283, 293, 307, 311]
theorem pri_309 : (pri 309).1.length = 63 := by decide +kernel
theorem pri_310 : (pri 310).1 = primesK := by decide +kernel
theorem primesK_len : primesK.length = 64 := by decide
abbrev c43 (many : Int) : Prop := many = 64
abbrev r43 (many : Int) : AV := .c (.sl 0 0 primesK.length 1)
abbrev L43 (many : Int) : Hp := [some (.ty (.i .u64) primesK)]
def E43 : Entry := pureN [(.i .i64)] (fun d => c43 d.1) (fun d => r43 d.1) (fun d => L43 d.1)
set_option maxRecDepth 100000 in
set_option maxHeartbeats 4000000 in
theorem K43 (many : Int) (hc : c43 many) : CallOk Try.prog 43 [.c (ci .i64 many)] [] (r43 many) (L43 many) := by
  have hc : many = 64 := hc
  subst hc
  refine callOk' Try.func43 35 [.tmp 2] _ rfl rfl rfl (by kernel_rfl) (by simp) [0] rfl rfl (by simp) ?_
  simp only [params]
  refine AWP.sR (Gam.nil_ok _) [0] (by apply aops_x (d := 2) (ag_n rfl) rfl (by first | (simp (disch := decide) only [go_sem, seval] <;> rfl) | (simp (disch := first | decide | omega) only [if_pos, nws, go_sem, seval] <;> rfl)) rfl; apply aops_end; rfl) (by (simp (disch := omega) only [go_sem, seval, lay, nws]); rfl) ?_
  refine AWP.sR (Gam.nil_ok _) [0, 3] (by apply aops_x (d := 3) (ag_n rfl) rfl (by first | (simp (disch := decide) only [go_sem, seval] <;> rfl) | (simp (disch := first | decide | omega) only [if_pos, nws, go_sem, seval] <;> rfl)) rfl; apply aops_end; rfl) (by (simp (disch := omega) only [go_sem, seval, lay, nws]); rfl) ?_
  refine AWP.seq ?_
  refine AWP.sR (Gam.nil_ok _) [0, 3, 4] (by apply aops_x (d := 4) (ag_n rfl) rfl (by first | (simp (disch := decide) only [go_sem, seval] <;> rfl) | (simp (disch := first | decide | omega) only [if_pos, nws, go_sem, seval] <;> rfl)) rfl; apply aops_end; rfl) (by (simp (disch := omega) only [go_sem, seval, lay, nws]); rfl) ?_
  refine AWP.block ?_
  refine AWP.loopP (fun (p : Nat × List Int × Int) => ⟨35, [(0, .c (ci .i64 64)), (3, .c (.sl 0 0 p.2.1.length 1)), (4, .c (ci .u64 p.2.2))], [some (.ty (.i .u64) p.2.1)]⟩) (fun p => p.1 ≤ 310 ∧ p.2 = pri p.1) (fun p => 310 - p.1) ⟨0, [], 2⟩ (Ghost.nil 3 1 (.i .u64) rfl (by simp)) ⟨by decide, rfl⟩ ?_
  rintro ⟨k, out, n⟩ ⟨k1, k2⟩
  simp only at k1 k2 ⊢
  have kn : n = (k : Int) + 2 := by rw [← pri_n k, ← k2]
  have ko : ∀ q ∈ out, 2 ≤ q ∧ q < (k : Int) + 2 := by have := pri_ok k; rw [← k2] at this; exact this
  have kl : out.length ≤ 64 := by
    have := pri_mono' k1
    rw [pri_310, primesK_len, ← k2] at this; exact this
  refine AWP.seq ?_
  refine AWP.sR (Gam.nil_ok _) [0, 3, 4, 10] (by apply aops_mv (t := 3) (d := 7) (ag_n rfl) rfl rfl (by first | (simp only [look_lay, look, seval] <;> rfl) | fail) rfl; apply aops_x (d := 8) (ag_n rfl) rfl (by first | (simp (disch := decide) only [go_sem, seval] <;> rfl) | (simp (disch := first | decide | omega) only [if_pos, nws, go_sem, seval] <;> rfl)) rfl; apply aops_mv (t := 0) (d := 9) (ag_n rfl) rfl rfl (by first | (simp only [look_lay, look, seval] <;> rfl) | fail) rfl; apply aops_x (d := 10) (ag_n rfl) rfl (by first | (simp (disch := decide) only [go_sem, seval] <;> rfl) | (simp (disch := first | decide | omega) only [if_pos, nws, go_sem, seval] <;> rfl)) rfl; apply aops_end; rfl) (by (simp (disch := omega) only [go_sem, seval, lay, nws]); rfl) ?_
  refine AWP.cond (b := _) rfl (fun h => ?_) (fun h => ?_) <;> (try simp only [decide_eq_true_eq, decide_eq_false_iff_not] at h)
  · skip
    refine AWP.skip ?_
    change AWP _ _ _ _ _
    refine AWP.seqBlock ?_
    have kk : k < 310 := by
      rcases Nat.lt_or_ge k 310 with h1 | h1
      · exact h1
      · have e : k = 310 := by omega
        have : out.length = 64 := by rw [show out = (pri k).1 by rw [← k2], e, pri_310, primesK_len]
        omega
    refine AWP.sR (Gam.nil_ok _) [0, 3, 4, 5] (by apply aops_x (d := 5) (ag_n rfl) rfl (by first | (simp (disch := decide) only [go_sem, seval] <;> rfl) | (simp (disch := first | decide | omega) only [if_pos, nws, go_sem, seval] <;> rfl)) rfl; apply aops_end; rfl) (by (simp (disch := omega) only [go_sem, seval, lay, nws]); rfl) ?_
    refine AWP.seq ?_
    refine AWP.sR (Gam.nil_ok _) [0, 3, 4, 5, 14, 15] (by apply aops_mv (t := 3) (d := 13) (ag_n rfl) rfl rfl (by first | (simp only [look_lay, look, seval] <;> rfl) | fail) rfl; apply aops_x (d := 14) (ag_n rfl) rfl (by first | (simp (disch := decide) only [go_sem, seval] <;> rfl) | (simp (disch := first | decide | omega) only [if_pos, nws, go_sem, seval] <;> rfl)) rfl; apply aops_x (d := 15) (ag_n rfl) rfl (by first | (simp (disch := decide) only [go_sem, seval] <;> rfl) | (simp (disch := first | decide | omega) only [if_pos, nws, go_sem, seval] <;> rfl)) rfl; apply aops_end; rfl) (by (simp (disch := omega) only [go_sem, seval, lay, nws]); rfl) ?_
    refine AWP.block ?_
    refine AWP.loopP (fun (p : Nat × Bool) => ⟨35, [(0, .c (ci .i64 64)), (3, .c (.sl 0 0 out.length 1)), (4, .c (ci .u64 n)), (5, .c (cb p.2)), (14, .c (ci .i64 (out.length : Int))), (15, .c (ci .i64 (p.1 : Int)))], [some (.ty (.i .u64) out)]⟩) (fun p => p.1 ≤ out.length ∧ p.2 = primeTo n (out.take p.1)) (fun p => out.length - p.1) ⟨0, true⟩ (Ghost.refl _ _) ⟨Nat.zero_le _, rfl⟩ ?_
    rintro ⟨i, b⟩ ⟨i1, i2⟩
    simp only at i1 i2 ⊢
    refine AWP.sR (Gam.nil_ok _) [0, 3, 4, 5, 14, 15, 16] (by apply aops_x (d := 16) (ag_n rfl) rfl (by first | (simp (disch := decide) only [go_sem, seval] <;> rfl) | (simp (disch := first | decide | omega) only [if_pos, nws, go_sem, seval] <;> rfl)) rfl; apply aops_end; rfl) (by (simp (disch := omega) only [go_sem, seval, lay, nws]); rfl) ?_
    refine AWP.seq ?_
    refine AWP.cond (b := _) rfl (fun h => ?_) (fun h => ?_) <;> (try simp only [decide_eq_true_eq, decide_eq_false_iff_not] at h)
    · skip
      refine AWP.skip ?_
      change AWP _ _ _ _ _
      refine AWP.seqBlock ?_
      have h' : i < out.length := by omega
      obtain ⟨x, hx⟩ : ∃ x, out[i]? = some x := ⟨_, List.getElem?_eq_getElem h'⟩
      have xb := ko x (List.mem_of_getElem? hx)
      have x0 : (x == 0) = false := by simp; omega
      refine AWP.sR (Gam.nil_ok _) [0, 3, 4, 5, 6, 14, 15] (by apply aops_mv (t := 15) (d := 17) (ag_n rfl) rfl rfl (by first | (simp only [look_lay, look, seval] <;> rfl) | fail) rfl; apply aops_as (t := 17) (d := 6) (ag_n rfl) rfl rfl (by first | (simp only [look_lay, look, seval] <;> rfl) | fail) rfl; apply aops_end; rfl) (by (simp (disch := omega) only [go_sem, seval, lay, nws]); rfl) ?_
      refine AWP.rX (Gam.nil_ok _) [0, 3, 4, 5, 14, 15] (s2 := ⟨35, [(0, .c (ci .i64 64)), (3, .c (.sl 0 0 out.length 1)), (4, .c (ci .u64 n)), (5, .c (cb (b && decide (n % x ≠ 0)))), (14, .c (ci .i64 (out.length : Int))), (15, .c (ci .i64 (i : Int)))], [some (.ty (.i .u64) out)]⟩) (by (cases b) <;> refine ⟨_, (by apply aops_mv (t := 5) (d := 18) (ag_n rfl) rfl rfl (by first | (simp only [look_lay, look, seval] <;> rfl) | fail) rfl; apply aops_mv (t := 18) (d := 19) (ag_n rfl) rfl rfl (by first | (simp only [look_lay, look, seval] <;> rfl) | fail) rfl; (first | apply aops_mv (t := 4) (d := 20) (ag_b (j := 1) (d := 19) rfl rfl rfl (by first | (simp only [look_lay, look, seval] <;> rfl) | fail) (by first | rfl | (simp only [hx, x0, decide_true, decide_false] <;> rfl) | fail)) rfl rfl (by first | (simp only [look_lay, look, seval] <;> rfl) | fail) rfl | apply aops_ps (d := 20) (by first | exact ag_f (j := 1) (d := 19) rfl rfl rfl (by first | (simp only [look_lay, look, seval] <;> rfl) | fail) (by first | rfl | (simp only [hx, x0, decide_true, decide_false] <;> rfl) | fail) | exact ag_u (j := 1) (d := 19) rfl rfl rfl (by first | (simp only [look_lay, look, seval] <;> rfl) | fail) | fail) rfl rfl); (first | apply aops_mv (t := 3) (d := 21) (ag_b (j := 1) (d := 19) rfl rfl rfl (by first | (simp only [look_lay, look, seval] <;> rfl) | fail) (by first | rfl | (simp only [hx, x0, decide_true, decide_false] <;> rfl) | fail)) rfl rfl (by first | (simp only [look_lay, look, seval] <;> rfl) | fail) rfl | apply aops_ps (d := 21) (by first | exact ag_f (j := 1) (d := 19) rfl rfl rfl (by first | (simp only [look_lay, look, seval] <;> rfl) | fail) (by first | rfl | (simp only [hx, x0, decide_true, decide_false] <;> rfl) | fail) | exact ag_u (j := 1) (d := 19) rfl rfl rfl (by first | (simp only [look_lay, look, seval] <;> rfl) | fail) | fail) rfl rfl); (first | apply aops_mv (t := 6) (d := 22) (ag_b (j := 1) (d := 19) rfl rfl rfl (by first | (simp only [look_lay, look, seval] <;> rfl) | fail) (by first | rfl | (simp only [hx, x0, decide_true, decide_false] <;> rfl) | fail)) rfl rfl (by first | (simp only [look_lay, look, seval] <;> rfl) | fail) rfl | apply aops_ps (d := 22) (by first | exact ag_f (j := 1) (d := 19) rfl rfl rfl (by first | (simp only [look_lay, look, seval] <;> rfl) | fail) (by first | rfl | (simp only [hx, x0, decide_true, decide_false] <;> rfl) | fail) | exact ag_u (j := 1) (d := 19) rfl rfl rfl (by first | (simp only [look_lay, look, seval] <;> rfl) | fail) | fail) rfl rfl); (first | apply aops_x (d := 23) (ag_b (j := 1) (d := 19) rfl rfl rfl (by first | (simp only [look_lay, look, seval] <;> rfl) | fail) (by first | rfl | (simp only [hx, x0, decide_true, decide_false] <;> rfl) | fail)) rfl (by (simp (disch := first | decide | omega) only [if_pos, nws, hx, x0, go_sem, seval] <;> rfl)) rfl | apply aops_ps (d := 23) (by first | exact ag_f (j := 1) (d := 19) rfl rfl rfl (by first | (simp only [look_lay, look, seval] <;> rfl) | fail) (by first | rfl | (simp only [hx, x0, decide_true, decide_false] <;> rfl) | fail) | exact ag_u (j := 1) (d := 19) rfl rfl rfl (by first | (simp only [look_lay, look, seval] <;> rfl) | fail) | fail) rfl rfl); (first | apply aops_x (d := 24) (ag_b (j := 1) (d := 19) rfl rfl rfl (by first | (simp only [look_lay, look, seval] <;> rfl) | fail) (by first | rfl | (simp only [hx, x0, decide_true, decide_false] <;> rfl) | fail)) rfl (by (simp (disch := first | decide | omega) only [if_pos, nws, hx, x0, go_sem, seval] <;> rfl)) rfl | apply aops_ps (d := 24) (by first | exact ag_f (j := 1) (d := 19) rfl rfl rfl (by first | (simp only [look_lay, look, seval] <;> rfl) | fail) (by first | rfl | (simp only [hx, x0, decide_true, decide_false] <;> rfl) | fail) | exact ag_u (j := 1) (d := 19) rfl rfl rfl (by first | (simp only [look_lay, look, seval] <;> rfl) | fail) | fail) rfl rfl); (first | apply aops_x (d := 25) (ag_b (j := 1) (d := 19) rfl rfl rfl (by first | (simp only [look_lay, look, seval] <;> rfl) | fail) (by first | rfl | (simp only [hx, x0, decide_true, decide_false] <;> rfl) | fail)) rfl (by (simp (disch := first | decide | omega) only [if_pos, nws, hx, x0, go_sem, seval] <;> rfl)) rfl | apply aops_ps (d := 25) (by first | exact ag_f (j := 1) (d := 19) rfl rfl rfl (by first | (simp only [look_lay, look, seval] <;> rfl) | fail) (by first | rfl | (simp only [hx, x0, decide_true, decide_false] <;> rfl) | fail) | exact ag_u (j := 1) (d := 19) rfl rfl rfl (by first | (simp only [look_lay, look, seval] <;> rfl) | fail) | fail) rfl rfl); (first | apply aops_x (d := 26) (ag_b (j := 1) (d := 19) rfl rfl rfl (by first | (simp only [look_lay, look, seval] <;> rfl) | fail) (by first | rfl | (simp only [hx, x0, decide_true, decide_false] <;> rfl) | fail)) rfl (by (simp (disch := first | decide | omega) only [if_pos, nws, hx, x0, go_sem, seval] <;> rfl)) rfl | apply aops_ps (d := 26) (by first | exact ag_f (j := 1) (d := 19) rfl rfl rfl (by first | (simp only [look_lay, look, seval] <;> rfl) | fail) (by first | rfl | (simp only [hx, x0, decide_true, decide_false] <;> rfl) | fail) | exact ag_u (j := 1) (d := 19) rfl rfl rfl (by first | (simp only [look_lay, look, seval] <;> rfl) | fail) | fail) rfl rfl); apply aops_x (d := 27) (ag_n rfl) rfl (by (simp (disch := first | decide | omega) only [if_pos, nws, hx, x0, go_sem, seval] <;> rfl)) rfl; apply aops_as (t := 27) (d := 5) (ag_n rfl) rfl rfl (by first | (simp only [look_lay, look, seval] <;> rfl) | fail) rfl; apply aops_end; rfl), (by (simp (disch := omega) only [hx, x0, go_sem, seval, lay, nws]) <;> rfl)⟩) ?_
      change AWP _ _ _ _ _
      refine AWP.rT (Gam.nil_ok _) [0, 3, 4, 5, 14, 15] (by apply aops_x (d := 28) (ag_n rfl) rfl (by first | (simp (disch := decide) only [go_sem, seval] <;> rfl) | (simp (disch := first | decide | omega) only [if_pos, nws, go_sem, seval] <;> rfl)) rfl; apply aops_mv (t := 28) (d := 15) (ag_n rfl) rfl rfl (by first | (simp only [look_lay, look, seval] <;> rfl) | fail) rfl; apply aops_end; rfl) (by (simp (disch := omega) only [go_sem, seval, lay, nws]); rfl) ?_
      refine ⟨(i + 1, b && decide (n % x ≠ 0)), Ghost.gc (ρ := [0]) (by simp only [go_sem, seval] <;> rfl) rfl rfl rfl, ⟨by simp only; omega, ?_⟩, by simp only; omega⟩
      simp only
      rw [List.take_add_one, hx, i2]
      simp [primeTo, List.all_append]
    · skip
      refine AWP.exit ?_
      change AWP _ _ _ _ _
      have e : i = out.length := by omega
      rw [e, List.take_length] at i2
      have ps : pri (k + 1) = (if primeTo n out then out ++ [n] else out, n + 1) := by rw [show pri (k + 1) = (if primeTo (pri k).2 (pri k).1 then (pri k).1 ++ [(pri k).2] else (pri k).1, (pri k).2 + 1) from rfl, ← k2]
      refine AWP.sR (Gam.nil_ok _) [0, 3, 4, 29] (by apply aops_mv (t := 5) (d := 29) (ag_n rfl) rfl rfl (by first | (simp only [look_lay, look, seval] <;> rfl) | fail) rfl; apply aops_end; rfl) (by (simp (disch := omega) only [go_sem, seval, lay, nws]); rfl) ?_
      refine AWP.cond (b := _) rfl (fun h => ?_) (fun h => ?_) <;> (try simp only [decide_eq_true_eq, decide_eq_false_iff_not] at h)
      · skip
        refine AWP.rT (Gam.nil_ok _) [0, 3, 4] (by apply aops_mv (t := 3) (d := 30) (ag_n rfl) rfl rfl (by first | (simp only [look_lay, look, seval] <;> rfl) | fail) rfl; apply aops_mv (t := 4) (d := 31) (ag_n rfl) rfl rfl (by first | (simp only [look_lay, look, seval] <;> rfl) | fail) rfl; apply aops_x (d := 32) (ag_n rfl) rfl (by (simp (disch := first | decide | omega) only [if_pos, nws, go_sem, seval] <;> rfl)) rfl; apply aops_x (d := 33) (ag_n rfl) rfl (by (simp (disch := first | decide | omega) only [if_pos, nws, go_sem, seval] <;> rfl)) rfl; apply aops_as (t := 33) (d := 3) (ag_n rfl) rfl rfl (by first | (simp only [look_lay, look, seval] <;> rfl) | fail) rfl; apply aops_end; rfl) (by (simp (disch := omega) only [go_sem, seval, lay, nws]); rfl) ?_
        change AWP _ _ _ _ _
        refine AWP.rT (Gam.nil_ok _) [0, 3, 4] (by apply aops_mv (t := 4) (d := 11) (ag_n rfl) rfl rfl (by first | (simp only [look_lay, look, seval] <;> rfl) | fail) rfl; apply aops_x (d := 12) (ag_n rfl) rfl (by first | (simp (disch := decide) only [go_sem, seval] <;> rfl) | (simp (disch := first | decide | omega) only [if_pos, nws, go_sem, seval] <;> rfl)) rfl; apply aops_as (t := 12) (d := 4) (ag_n rfl) rfl rfl (by first | (simp only [look_lay, look, seval] <;> rfl) | fail) rfl; apply aops_end; rfl) (by (simp (disch := omega) only [go_sem, seval, lay, nws]); rfl) ?_
        first
        | (have hb : primeTo n out = true := by rw [← i2]; exact h
           refine ⟨(k + 1, out ++ [n], n + 1), Ghost.trans (Ghost.gc (ρ := [2]) (by simp only [go_sem, seval] <;> rfl) rfl rfl rfl) (Ghost.of_eq (by simp only [List.length_append, List.length_cons, List.length_nil])), ⟨by simp only; omega, ?_⟩, by simp only; omega⟩
           simp only
           rw [ps, if_pos hb])
        | (have hb : ¬ primeTo n out = true := by rw [← i2]; simp [h]
           refine ⟨(k + 1, out, n + 1), Ghost.gc (ρ := [0]) (by simp only [go_sem, seval] <;> rfl) rfl rfl rfl, ⟨by simp only; omega, ?_⟩, by simp only; omega⟩
           simp only
           rw [ps, if_neg hb])
      · skip
        refine AWP.skip ?_
        change AWP _ _ _ _ _
        refine AWP.rT (Gam.nil_ok _) [0, 3, 4] (by apply aops_mv (t := 4) (d := 11) (ag_n rfl) rfl rfl (by first | (simp only [look_lay, look, seval] <;> rfl) | fail) rfl; apply aops_x (d := 12) (ag_n rfl) rfl (by first | (simp (disch := decide) only [go_sem, seval] <;> rfl) | (simp (disch := first | decide | omega) only [if_pos, nws, go_sem, seval] <;> rfl)) rfl; apply aops_as (t := 12) (d := 4) (ag_n rfl) rfl rfl (by first | (simp only [look_lay, look, seval] <;> rfl) | fail) rfl; apply aops_end; rfl) (by (simp (disch := omega) only [go_sem, seval, lay, nws]); rfl) ?_
        first
        | (have hb : primeTo n out = true := by rw [← i2]; exact h
           refine ⟨(k + 1, out ++ [n], n + 1), Ghost.trans (Ghost.gc (ρ := [2]) (by simp only [go_sem, seval] <;> rfl) rfl rfl rfl) (Ghost.of_eq (by simp only [List.length_append, List.length_cons, List.length_nil])), ⟨by simp only; omega, ?_⟩, by simp only; omega⟩
           simp only
           rw [ps, if_pos hb])
        | (have hb : ¬ primeTo n out = true := by rw [← i2]; simp [h]
           refine ⟨(k + 1, out, n + 1), Ghost.gc (ρ := [0]) (by simp only [go_sem, seval] <;> rfl) rfl rfl rfl, ⟨by simp only; omega, ?_⟩, by simp only; omega⟩
           simp only
           rw [ps, if_neg hb])
  · skip
    refine AWP.exit ?_
    change AWP _ _ _ _ _
    have ke : k = 310 := by
      rcases Nat.lt_or_ge k 310 with h1 | h1
      · have := pri_mono' (show k ≤ 309 by omega)
        rw [pri_309, ← k2] at this
        simp only at this
        omega
      · omega
    have eo : out = primesK := by rw [show out = (pri k).1 by rw [← k2], ke, pri_310]
    refine AWP.sR (Gam.nil_ok _) [2] (by apply aops_mv (t := 3) (d := 34) (ag_n rfl) rfl rfl (by first | (simp only [look_lay, look, seval] <;> rfl) | fail) rfl; apply aops_as (t := 34) (d := 2) (ag_n rfl) rfl rfl (by first | (simp only [look_lay, look, seval] <;> rfl) | fail) rfl; apply aops_end; rfl) (by (simp (disch := omega) only [go_sem, seval, lay, nws]); rfl) ?_
    refine AWP.ret ?_
    refine ⟨.inr rfl, _, (by simp only [go_sem, seval] <;> rfl), ?_⟩
    simp only [go_sem, seval, Option.some.injEq, AV.c.injEq, AV.agg.injEq, CV.v.injEq, Value.int.injEq, Value.bool.injEq, Row.raw.injEq, List.cons.injEq, CV.sl.injEq, and_true, true_and, and_self]
    rw [eo]; exact ⟨rfl, rfl⟩
theorem E43_ok : EntryOk Try.prog 43 E43 := pureN_ok (fun d hc => K43 d.1 hc) (fun _ => rfl) (fun _ => rfl)
attribute [go_sem] E43 c43 r43 L43
def turnG (x n : Int) : Int := bits .or .u32 (x / 2 ^ n.toNat) (IntKind.u32.wrap (x * 2 ^ (32 - n).toNat))
abbrev c46 (x : Int) (n : Int) : Prop := (0 ≤ x ∧ x < 4294967296) ∧ 0 ≤ n ∧ n ≤ 32
abbrev r46 (x : Int) (n : Int) : AV := .c (ci .u32 (turnG x n))
abbrev L46 (x : Int) (n : Int) : Hp := []
def E46 : Entry := pureN [(.i .u32), (.i .u64)] (fun d => c46 d.1 d.2.1) (fun d => r46 d.1 d.2.1) (fun d => L46 d.1 d.2.1)
set_option maxRecDepth 100000 in
set_option maxHeartbeats 4000000 in
theorem K46 (x : Int) (n : Int) (hc : c46 x n) : CallOk Try.prog 46 [.c (ci .u32 x), .c (ci .u64 n)] [] (r46 x n) (L46 x n) := by
  have hc : (0 ≤ x ∧ x < 4294967296) ∧ 0 ≤ n ∧ n ≤ 32 := hc
  refine callOk' Try.func46 13 [.tmp 4] _ rfl rfl rfl (by kernel_rfl) (by simp) [] rfl rfl (by simp) ?_
  simp only [params]
  refine AWP.sR (Gam.nil_ok _) [0, 1] (by apply aops_x (d := 4) (ag_n rfl) rfl (by first | (simp (disch := decide) only [go_sem, seval] <;> rfl) | (simp (disch := first | decide | omega) only [if_pos, nws, go_sem, seval] <;> rfl)) rfl; apply aops_end; rfl) (by (simp (disch := omega) only [go_sem, seval, lay, nws]); rfl) ?_
  refine AWP.sR (Gam.nil_ok _) [4] (by apply aops_mv (t := 0) (d := 5) (ag_n rfl) rfl rfl (by first | (simp only [look_lay, look, seval] <;> rfl) | fail) rfl; apply aops_mv (t := 1) (d := 6) (ag_n rfl) rfl rfl (by first | (simp only [look_lay, look, seval] <;> rfl) | fail) rfl; apply aops_x (d := 7) (ag_n rfl) rfl (by (simp (disch := first | decide | omega) only [if_pos, nws, go_sem, seval] <;> rfl)) rfl; apply aops_mv (t := 0) (d := 8) (ag_n rfl) rfl rfl (by first | (simp only [look_lay, look, seval] <;> rfl) | fail) rfl; apply aops_mv (t := 1) (d := 9) (ag_n rfl) rfl rfl (by first | (simp only [look_lay, look, seval] <;> rfl) | fail) rfl; apply aops_x (d := 10) (ag_n rfl) rfl (by first | (simp (disch := decide) only [go_sem, seval] <;> rfl) | (simp (disch := first | decide | omega) only [if_pos, nws, go_sem, seval] <;> rfl)) rfl; apply aops_x (d := 11) (ag_n rfl) rfl (by (simp (disch := first | decide | omega) only [if_pos, nws, go_sem, seval] <;> rfl)) rfl; apply aops_x (d := 12) (ag_n rfl) rfl (by first | (simp (disch := decide) only [go_sem, seval] <;> rfl) | (simp (disch := first | decide | omega) only [if_pos, nws, go_sem, seval] <;> rfl)) rfl; apply aops_as (t := 12) (d := 4) (ag_n rfl) rfl rfl (by first | (simp only [look_lay, look, seval] <;> rfl) | fail) rfl; apply aops_end; rfl) (by (simp (disch := omega) only [go_sem, seval, lay, nws]); rfl) ?_
  refine AWP.ret ?_
  refine ⟨.inr rfl, _, (by simp only [go_sem, seval] <;> rfl), ?_⟩
  simp only [go_sem, seval, Option.some.injEq, AV.c.injEq, AV.agg.injEq, CV.v.injEq, Value.int.injEq, Value.bool.injEq, Row.raw.injEq, List.cons.injEq, CV.sl.injEq, and_true, true_and, and_self]
  rfl
theorem E46_ok : EntryOk Try.prog 46 E46 := pureN_ok (fun d hc => K46 d.1 d.2.1 hc) (fun _ => rfl) (fun _ => rfl)
attribute [go_sem] E46 c46 r46 L46
end Go.Proofs.Ytbdnhoddkdiogaa
end
section
set_option linter.unusedSimpArgs false
set_option linter.unusedVariables false
namespace Go.Proofs.Ytbdnhoddkdiogaa
open Go.RowKit
/-! The document's constants, reckoned by the kernel. -/
set_option maxRecDepth 100000 in
theorem square_start : (primesK.take 8).map (fun v => squareG v % 4294967296) = Sha.start := by decide +kernel
set_option maxRecDepth 100000 in
theorem cube_rounds : primesK.map (fun v => cubeG v % 4294967296) = Sha.rounds := by decide +kernel
end Go.Proofs.Ytbdnhoddkdiogaa
end
section
set_option linter.unusedSimpArgs false
set_option linter.unusedVariables false
/- Plain laws for the document's digest. -/
namespace Go.Proofs.Ytbdnhoddkdiogaa
open Go.RowKit
/-- What stands in unlike bits: or is a sum. -/
theorem or_sum (k a b : Nat) (h1 : (2 ^ k * a : Nat) < 4294967296) (h2 : b < 2 ^ k) (h3 : b < 4294967296) : bits .or .u32 ((2 ^ k * a : Nat) : Int) (b : Int) = ((2 ^ k * a + b : Nat) : Int) := by
  rw [u32_or _ _ (by omega) (by omega) (by omega) (by omega), Int.toNat_natCast, Int.toNat_natCast, Nat.two_pow_add_eq_or_of_lt h2]
theorem or_24 (x y : Int) (h1 : 0 ≤ x) (h2 : x < 256) (h3 : 0 ≤ y) (h4 : y < 256) : bits .or .u32 (x * 16777216) (y * 65536) = x * 16777216 + y * 65536 := by
  obtain ⟨a, rfl⟩ := Int.eq_ofNat_of_zero_le h1
  obtain ⟨b, rfl⟩ := Int.eq_ofNat_of_zero_le h3
  have := or_sum 24 a (b * 65536) (by omega) (by omega) (by omega)
  simp only [Nat.reducePow] at this
  rw [show ((a : Int) * 16777216) = ((16777216 * a : Nat) : Int) by omega, show ((b : Int) * 65536) = ((b * 65536 : Nat) : Int) by omega, this]
  omega
theorem or_16 (x y : Int) (h1 : 0 ≤ x) (h2 : x < 65536) (h3 : 0 ≤ y) (h4 : y < 256) : bits .or .u32 (x * 65536) (y * 256) = x * 65536 + y * 256 := by
  obtain ⟨a, rfl⟩ := Int.eq_ofNat_of_zero_le h1
  obtain ⟨b, rfl⟩ := Int.eq_ofNat_of_zero_le h3
  have := or_sum 16 a (b * 256) (by omega) (by omega) (by omega)
  simp only [Nat.reducePow] at this
  rw [show ((a : Int) * 65536) = ((65536 * a : Nat) : Int) by omega, show ((b : Int) * 256) = ((b * 256 : Nat) : Int) by omega, this]
  omega
theorem or_8 (x y : Int) (h1 : 0 ≤ x) (h2 : x < 16777216) (h3 : 0 ≤ y) (h4 : y < 256) : bits .or .u32 (x * 256) y = x * 256 + y := by
  obtain ⟨a, rfl⟩ := Int.eq_ofNat_of_zero_le h1
  obtain ⟨b, rfl⟩ := Int.eq_ofNat_of_zero_le h3
  have := or_sum 8 a b (by omega) (by omega) (by omega)
  simp only [Nat.reducePow] at this
  rw [show ((a : Int) * 256) = ((256 * a : Nat) : Int) by omega, this]
  omega

theorem add_turned (a b : List Int) : Sha.add a b = Sha.add b a := by
  unfold Sha.add
  apply List.map_congr_left
  intro i _
  rw [Int.add_comm]
theorem or_turned (a b : Int) (h1 : 0 ≤ a) (h2 : a < 4294967296) (h3 : 0 ≤ b) (h4 : b < 4294967296) : bits .or .u32 a b = bits .or .u32 b a := by
  rw [u32_or a b h1 h2 h3 h4, u32_or b a h3 h4 h1 h2, Nat.or_comm]

theorem not_xor (e : Int) (h0 : 0 ≤ e) (h1 : e < 4294967296) : bits .xor .u32 IntKind.u32.max e = 4294967295 - e := by
  obtain ⟨n, rfl⟩ := Int.eq_ofNat_of_zero_le h0
  have hn : n < 2 ^ 32 := by omega
  have hm : IntKind.u32.max = 4294967295 := by decide
  rw [hm, u32_xor _ _ (by omega) (by omega) h0 h1]
  have key : (4294967295 : Nat) ^^^ n = 2 ^ 32 - (n + 1) := by
    apply Nat.eq_of_testBit_eq
    intro i
    rw [Nat.testBit_xor, show (4294967295 : Nat) = 2 ^ 32 - 1 from rfl, Nat.testBit_two_pow_sub_one, Nat.testBit_two_pow_sub_succ hn]
    by_cases hi : i < 32
    · simp [hi]
    · have : n.testBit i = false := Nat.testBit_lt_two_pow (Nat.lt_of_lt_of_le hn (Nat.pow_le_pow_right (by omega) (by omega)))
      simp [hi, this]
  rw [show ((4294967295 : Int)).toNat = 4294967295 from rfl, Int.toNat_natCast, key]
  omega

theorem turn_rot (x : Int) (n : Nat) (h0 : 0 ≤ x) (h1 : x < 4294967296) (hn : n ≤ 32) : turnG x (n : Int) = Sha.rot (2 ^ (32 - n)) (2 ^ n) x := by
  have e1 : (32 - (n : Int)).toNat = 32 - n := by omega
  have e2 : IntKind.u32.wrap (x * 2 ^ (32 - n)) = x * 2 ^ (32 - n) % 4294967296 := by unfold IntKind.wrap; simp [IntKind.signed, IntKind.bits]
  have p : (0 : Int) < 2 ^ n := Int.pow_pos (by decide)
  have d0 : 0 ≤ x / 2 ^ n := Int.ediv_nonneg h0 (Int.le_of_lt p)
  have d1 : x / 2 ^ n ≤ x := Int.ediv_le_self _ h0
  unfold turnG Sha.rot
  rw [e1, Int.toNat_natCast, e2]
  exact or_turned _ _ d0 (by omega) (by omega) (by omega)
theorem turn_lit (x n m d : Int) (h0 : 0 ≤ x) (h1 : x < 4294967296) (hn : (n.toNat : Int) = n) (hl : n.toNat ≤ 32) (hm : (2 : Int) ^ (32 - n.toNat) = m) (hd : (2 : Int) ^ n.toNat = d) : turnG x n = Sha.rot m d x := by
  rw [← hn, turn_rot x _ h0 h1 hl, hm, hd]
theorem turn_bound (x n : Int) (h0 : 0 ≤ x) (h1 : x < 4294967296) : 0 ≤ turnG x n ∧ turnG x n < 4294967296 := by
  have p : (0 : Int) < 2 ^ n.toNat := Int.pow_pos (by decide)
  have d0 : 0 ≤ x / 2 ^ n.toNat := Int.ediv_nonneg h0 (Int.le_of_lt p)
  have d1 : x / 2 ^ n.toNat ≤ x := Int.ediv_le_self _ h0
  unfold turnG
  obtain ⟨a, ha⟩ := Int.eq_ofNat_of_zero_le d0
  have e2 : IntKind.u32.wrap (x * 2 ^ (32 - n).toNat) = x * 2 ^ (32 - n).toNat % 4294967296 := by unfold IntKind.wrap; simp [IntKind.signed, IntKind.bits]
  rw [e2]
  obtain ⟨b, hb⟩ := Int.eq_ofNat_of_zero_le (show 0 ≤ x * 2 ^ (32 - n).toNat % 4294967296 by omega)
  rw [ha, hb, Go.u32_or_nat _ _ (by omega) (by omega)]
  have : a ||| b < 2 ^ 32 := Nat.or_lt_two_pow (by omega) (by omega)
  omega
/-- The words by letters. -/
theorem sig0_turn (x : Int) (h0 : 0 ≤ x) (h1 : x < 4294967296) : bits .xor .u32 (bits .xor .u32 (turnG x 7) (turnG x 18)) (x / 8) = Sha.sig0 x := by
  unfold Sha.sig0
  rw [turn_lit x 7 33554432 128 h0 h1 rfl (by decide) rfl rfl, turn_lit x 18 16384 262144 h0 h1 rfl (by decide) rfl rfl]
theorem sig1_turn (x : Int) (h0 : 0 ≤ x) (h1 : x < 4294967296) : bits .xor .u32 (bits .xor .u32 (turnG x 17) (turnG x 19)) (x / 1024) = Sha.sig1 x := by
  unfold Sha.sig1
  rw [turn_lit x 17 32768 131072 h0 h1 rfl (by decide) rfl rfl, turn_lit x 19 8192 524288 h0 h1 rfl (by decide) rfl rfl]
theorem u32w (x : Int) : IntKind.u32.wrap x = x % 4294967296 := by unfold IntKind.wrap; simp [IntKind.signed, IntKind.bits]
theorem u8w (x : Int) : IntKind.u8.wrap x = x % 256 := by unfold IntKind.wrap; simp [IntKind.signed, IntKind.bits]
theorem getD_of {l : List Int} {i : Nat} {x : Int} (h : l[i]? = some x) : l.getD i 0 = x := by rw [List.getD_eq_getElem?_getD, h]; rfl
theorem next_lt (t w : List Int) (k i n : Nat) (a b c d : Int) (hi : i < 16) (hk : n = k + 4 * i) (ha : t[n]? = some a) (hb : t[n + 1]? = some b) (hc : t[n + 2]? = some c) (hd : t[n + 3]? = some d)
    (ba : 0 ≤ a ∧ a < 256) (bb : 0 ≤ b ∧ b < 256) (bc : 0 ≤ c ∧ c < 256) (bd : 0 ≤ d ∧ d < 256) :
    Sha.next (t.drop k) w i = bits .or .u32 (bits .or .u32 (bits .or .u32 (a * 16777216) (b * 65536)) (c * 256)) d := by
  unfold Sha.next Sha.word
  rw [if_pos hi, Sha.drop_getD, Sha.drop_getD, Sha.drop_getD, Sha.drop_getD, ← Nat.add_assoc, ← Nat.add_assoc, ← Nat.add_assoc, ← hk, getD_of ha, getD_of hb, getD_of hc, getD_of hd]
  rw [or_24 a b ba.1 ba.2 bb.1 bb.2, show a * 16777216 + b * 65536 = (a * 256 + b) * 65536 by omega, or_16 _ c (by omega) (by omega) bc.1 bc.2, show (a * 256 + b) * 65536 + c * 256 = ((a * 256 + b) * 256 + c) * 256 by omega, or_8 _ d (by omega) (by omega) bd.1 bd.2]
theorem next_ge (ts u : List Int) (n : Nat) (a b c d : Int) (hn : 16 ≤ n) (ha : u[n - 15]? = some a) (hb : u[n - 2]? = some b) (hc : u[n - 16]? = some c) (hd : u[n - 7]? = some d) (ba : 0 ≤ a ∧ a < 4294967296) (bb : 0 ≤ b ∧ b < 4294967296) :
    Sha.next ts u n = IntKind.u32.wrap (IntKind.u32.wrap (IntKind.u32.wrap (c + d) + bits .xor .u32 (bits .xor .u32 (turnG a 7) (turnG a 18)) (a / 8)) + bits .xor .u32 (bits .xor .u32 (turnG b 17) (turnG b 19)) (b / 1024)) := by
  unfold Sha.next
  rw [if_neg (by omega), getD_of ha, getD_of hb, getD_of hc, getD_of hd, sig0_turn a ba.1 ba.2, sig1_turn b bb.1 bb.2, u32w, u32w, u32w]
  omega
theorem step_turn (s0 s1 s2 s3 s4 s5 s6 s7 x y : Int) (b0 : 0 ≤ s0 ∧ s0 < 4294967296) (b4 : 0 ≤ s4 ∧ s4 < 4294967296) :
    Sha.step [s0, s1, s2, s3, s4, s5, s6, s7] x y =
      [IntKind.u32.wrap (IntKind.u32.wrap (IntKind.u32.wrap (IntKind.u32.wrap (IntKind.u32.wrap (s7 + bits .xor .u32 (bits .xor .u32 (turnG s4 6) (turnG s4 11)) (turnG s4 25)) + bits .xor .u32 (bits .and .u32 s4 s5) (bits .and .u32 (4294967295 - s4) s6)) + x) + y) +
          IntKind.u32.wrap (bits .xor .u32 (bits .xor .u32 (turnG s0 2) (turnG s0 13)) (turnG s0 22) + bits .xor .u32 (bits .xor .u32 (bits .and .u32 s0 s1) (bits .and .u32 s0 s2)) (bits .and .u32 s1 s2))),
        s0, s1, s2,
        IntKind.u32.wrap (s3 + IntKind.u32.wrap (IntKind.u32.wrap (IntKind.u32.wrap (IntKind.u32.wrap (s7 + bits .xor .u32 (bits .xor .u32 (turnG s4 6) (turnG s4 11)) (turnG s4 25)) + bits .xor .u32 (bits .and .u32 s4 s5) (bits .and .u32 (4294967295 - s4) s6)) + x) + y)),
        s4, s5, s6] := by
  have e1 : bits .xor .u32 (bits .xor .u32 (turnG s4 6) (turnG s4 11)) (turnG s4 25) = bits .xor .u32 (bits .xor .u32 (Sha.rot 67108864 64 s4) (Sha.rot 2097152 2048 s4)) (Sha.rot 128 33554432 s4) := by
    rw [turn_lit s4 6 67108864 64 b4.1 b4.2 rfl (by decide) rfl rfl, turn_lit s4 11 2097152 2048 b4.1 b4.2 rfl (by decide) rfl rfl, turn_lit s4 25 128 33554432 b4.1 b4.2 rfl (by decide) rfl rfl]
  have e2 : bits .xor .u32 (bits .xor .u32 (turnG s0 2) (turnG s0 13)) (turnG s0 22) = bits .xor .u32 (bits .xor .u32 (Sha.rot 1073741824 4 s0) (Sha.rot 524288 8192 s0)) (Sha.rot 1024 4194304 s0) := by
    rw [turn_lit s0 2 1073741824 4 b0.1 b0.2 rfl (by decide) rfl rfl, turn_lit s0 13 524288 8192 b0.1 b0.2 rfl (by decide) rfl rfl, turn_lit s0 22 1024 4194304 b0.1 b0.2 rfl (by decide) rfl rfl]
  rw [e1, e2, ← not_xor s4 b4.1 b4.2]
  simp only [Sha.step, Sha.one, Sha.two, List.getD_cons_zero, List.getD_cons_succ, u32w]
  generalize bits .xor .u32 (bits .xor .u32 (Sha.rot 67108864 64 s4) (Sha.rot 2097152 2048 s4)) (Sha.rot 128 33554432 s4) = A
  generalize bits .xor .u32 (bits .xor .u32 (Sha.rot 1073741824 4 s0) (Sha.rot 524288 8192 s0)) (Sha.rot 1024 4194304 s0) = B
  generalize bits .xor .u32 (bits .and .u32 s4 s5) (bits .and .u32 (bits .xor .u32 IntKind.u32.max s4) s6) = C
  generalize bits .xor .u32 (bits .xor .u32 (bits .and .u32 s0 s1) (bits .and .u32 s0 s2)) (bits .and .u32 s1 s2) = D
  have f1 : (((s7 + A + C + x + y) % 4294967296 + (B + D) % 4294967296) % 4294967296 : Int) = (((((s7 + A) % 4294967296 + C) % 4294967296 + x) % 4294967296 + y) % 4294967296 + (B + D) % 4294967296) % 4294967296 := by omega
  have f2 : ((s3 + (s7 + A + C + x + y) % 4294967296) % 4294967296 : Int) = (s3 + ((((s7 + A) % 4294967296 + C) % 4294967296 + x) % 4294967296 + y) % 4294967296) % 4294967296 := by omega
  rw [f1, f2]
theorem adds_step (g s a : List Int) (i : Nat) (x y : Int) (h : a = Sha.adds g s i) (hx : a[i]? = some x) (hy : s[i]? = some y) : a.set i (IntKind.u32.wrap (x + y)) = Sha.adds g s (i + 1) := by
  have e : x = g.getD i 0 := by rw [← Sha.adds_getD g s i i (Nat.le_refl _), ← h, getD_of hx]
  rw [Sha.adds, u32w, ← h, getD_of hy, e]
theorem outs_step (h o : List Int) (q : Nat) (x : Int) (hq : q < 32) (ho : o = Sha.pad (Sha.outs h q) 32) (hx : h[q / 4]? = some x) : o.set q (IntKind.u8.wrap (x / 2 ^ (24 - 8 * (q % 4)))) = Sha.pad (Sha.outs h (q + 1)) 32 := by
  have l := Sha.outs_length h q
  have := Sha.pad_set (Sha.outs h q) 32 (IntKind.u8.wrap (x / 2 ^ (24 - 8 * (q % 4)))) (by omega)
  rw [l] at this
  rw [ho, this, u8w, Sha.outs, Sha.outByte, getD_of hx]
end Go.Proofs.Ytbdnhoddkdiogaa
end
section
set_option linter.unusedSimpArgs false
set_option linter.unusedVariables false
namespace Go.Proofs.Ytbdnhoddkdiogaa
open Go.RowKit
theorem map_at {f : Int → Int} {l m : List Int} (h : l.map f = m) {i : Nat} {x : Int} (hx : l[i]? = some x) : m[i]? = some (f x) := by rw [← h, List.getElem?_map, hx]; rfl
theorem primesK_ok : ∀ x ∈ primesK, 0 ≤ x ∧ x < 18446744073709551616 := by decide
theorem sched_mem (t : List Int) (k : Nat) (hb : ∀ x ∈ t, 0 ≤ x ∧ x < 256) (n : Nat) : ∀ x ∈ Sha.sched (t.drop k) n, 0 ≤ x ∧ x < 4294967296 := by
  intro x hx
  obtain ⟨i, hi, rfl⟩ := List.getElem_of_mem hx
  have := Sha.sched_bound (t.drop k) (fun i => Sha.getD_byte (fun x hx => hb x (List.mem_of_mem_drop hx)) i) n i
  rw [List.getD_eq_getElem?_getD, List.getElem?_eq_getElem hi] at this
  exact this
theorem eight (s : List Int) (h : s.length = 8) : ∃ a b c d e f g x, s = [a, b, c, d, e, f, g, x] := by
  match s, h with
  | [a, b, c, d, e, f, g, x], _ => exact ⟨a, b, c, d, e, f, g, x, rfl⟩
theorem rounds_ok : ∀ x ∈ Sha.rounds, 0 ≤ x ∧ x < 4294967296 := by decide
abbrev c17 (xs : (List Int)) : Prop := bytesOk xs ∧ xs.length ≤ 2147483648
abbrev r17 (xs : (List Int)) : AV := .agg (.ty (.i .u8) (dg xs))
abbrev L17 (xs : (List Int)) : Hp := []
def E17 : Entry := pureN [(.sl (.i .u8))] (fun d => c17 d.1) (fun d => r17 d.1) (fun d => L17 d.1)
set_option maxRecDepth 100000 in
set_option maxHeartbeats 4000000 in
theorem K17 (xs : (List Int)) (hc : c17 xs) : CallOk Try.prog 17 [.c (.rs (.i .u8) xs)] [] (r17 xs) (L17 xs) := by
  have hc : bytesOk xs ∧ xs.length ≤ 2147483648 := hc
  obtain ⟨hx, hl⟩ := hc
  have gok := (Gam.cons_ok E43_ok (Gam.cons_ok E44_ok (Gam.cons_ok E45_ok (Gam.cons_ok E46_ok (Gam.nil_ok _)))))
  refine callOk' Try.func17 312 [.cell 2 25] _ rfl rfl rfl (by kernel_rfl) (by simp) [] rfl rfl (by simp) ?_
  simp only [params]
  refine AWP.sR gok [0, 2] (by apply aops_x (d := 2) (ag_n rfl) rfl (by first | (simp (disch := decide) only [go_sem, seval] <;> rfl) | (simp (disch := first | decide | omega) only [if_pos, nws, go_sem, seval] <;> rfl)) rfl; apply aops_end; rfl) (by (simp (disch := omega) only [go_sem, seval, lay, nws]); rfl) ?_
  refine AWP.sR gok [0, 2, 3] (by apply aops_x (d := 26) (ag_n rfl) rfl (by (simp (disch := first | decide | omega) only [if_pos, nws, go_sem, seval] <;> rfl)) rfl; apply aops_as (t := 26) (d := 3) (ag_n rfl) rfl rfl (by first | (simp only [look_lay, look, seval] <;> rfl) | fail) rfl; apply aops_end; rfl) (by (simp (disch := omega) only [go_sem, seval, lay, nws]); rfl) ?_
  refine AWP.sR gok [0, 2, 3, 4] (by apply aops_x (d := 4) (ag_n rfl) rfl (by first | (simp (disch := decide) only [go_sem, seval] <;> rfl) | (simp (disch := first | decide | omega) only [if_pos, nws, go_sem, seval] <;> rfl)) rfl; apply aops_end; rfl) (by (simp (disch := omega) only [go_sem, seval, lay, nws]); rfl) ?_
  refine AWP.sR gok [0, 2, 3, 4, 5] (by apply aops_x (d := 5) (ag_n rfl) rfl (by first | (simp (disch := decide) only [go_sem, seval] <;> rfl) | (simp (disch := first | decide | omega) only [if_pos, nws, go_sem, seval] <;> rfl)) rfl; apply aops_end; rfl) (by (simp (disch := omega) only [go_sem, seval, lay, nws]); rfl) ?_
  refine AWP.seq ?_
  refine AWP.sR gok [0, 2, 3, 4, 5, 28, 29] (by apply aops_mv (t := 3) (d := 27) (ag_n rfl) rfl rfl (by first | (simp only [look_lay, look, seval] <;> rfl) | fail) rfl; apply aops_x (d := 28) (ag_n rfl) rfl (by first | (simp (disch := decide) only [go_sem, seval] <;> rfl) | (simp (disch := first | decide | omega) only [if_pos, nws, go_sem, seval] <;> rfl)) rfl; apply aops_x (d := 29) (ag_n rfl) rfl (by first | (simp (disch := decide) only [go_sem, seval] <;> rfl) | (simp (disch := first | decide | omega) only [if_pos, nws, go_sem, seval] <;> rfl)) rfl; apply aops_end; rfl) (by (simp (disch := omega) only [go_sem, seval, lay, nws]); rfl) ?_
  refine AWP.block ?_
  refine AWP.loopP (fun (p : Nat) => ⟨312, [(0, .c (.rs (.i .u8) xs)), (2, .c (.ptr 0 0 1 0)), (3, .c (.sl 1 0 64 1)), (4, .c (.sl 2 0 (Sha.start.take p).length 1)), (5, .c (.sl 3 0 (Sha.rounds.take p).length 1)), (28, .c (ci .i64 64)), (29, .c (ci .i64 (p : Int)))], [some (.ty (.i .u8) (List.replicate 32 0)), some (.ty (.i .u64) primesK), some (.ty (.i .u32) (Sha.start.take p)), some (.ty (.i .u32) (Sha.rounds.take p))]⟩) (fun p => p ≤ 64) (fun p => 64 - p) 0 (Ghost.trans (Ghost.nil 4 1 (.i .u32) rfl (by simp)) (Ghost.nil 5 1 (.i .u32) rfl (by simp))) (Nat.zero_le _) ?_
  rintro i hi
  refine AWP.sR gok [0, 2, 3, 4, 5, 28, 29, 30] (by apply aops_x (d := 30) (ag_n rfl) rfl (by first | (simp (disch := decide) only [go_sem, seval] <;> rfl) | (simp (disch := first | decide | omega) only [if_pos, nws, go_sem, seval] <;> rfl)) rfl; apply aops_end; rfl) (by (simp (disch := omega) only [go_sem, seval, lay, nws]); rfl) ?_
  refine AWP.seq ?_
  refine AWP.cond (b := _) rfl (fun h => ?_) (fun h => ?_) <;> (try simp only [decide_eq_true_eq, decide_eq_false_iff_not] at h)
  · skip
    refine AWP.skip ?_
    change AWP _ _ _ _ _
    refine AWP.seqBlock ?_
    have h' : i < primesK.length := by rw [primesK_len]; omega
    obtain ⟨x, hx1⟩ : ∃ x, primesK[i]? = some x := ⟨_, List.getElem?_eq_getElem h'⟩
    have xb := primesK_ok x (List.mem_of_getElem? hx1)
    refine AWP.sR gok [0, 2, 3, 4, 5, 6, 28, 29] (by apply aops_mv (t := 29) (d := 31) (ag_n rfl) rfl rfl (by first | (simp only [look_lay, look, seval] <;> rfl) | fail) rfl; apply aops_as (t := 31) (d := 6) (ag_n rfl) rfl rfl (by first | (simp only [look_lay, look, seval] <;> rfl) | fail) rfl; apply aops_end; rfl) (by (simp (disch := omega) only [go_sem, seval, lay, nws]); rfl) ?_
    refine AWP.seq ?_
    refine AWP.sR gok [0, 2, 3, 4, 5, 6, 28, 29, 33] (by apply aops_mv (t := 6) (d := 32) (ag_n rfl) rfl rfl (by first | (simp only [look_lay, look, seval] <;> rfl) | fail) rfl; apply aops_x (d := 33) (ag_n rfl) rfl (by first | (simp (disch := decide) only [go_sem, seval] <;> rfl) | (simp (disch := first | decide | omega) only [if_pos, nws, go_sem, seval] <;> rfl)) rfl; apply aops_end; rfl) (by (simp (disch := omega) only [go_sem, seval, lay, nws]); rfl) ?_
    refine AWP.cond (b := _) rfl (fun h => ?_) (fun h => ?_) <;> (try simp only [decide_eq_true_eq, decide_eq_false_iff_not] at h)
    · skip
      refine AWP.rT gok [0, 2, 3, 4, 5, 6, 28, 29] (by apply aops_mv (t := 4) (d := 34) (ag_n rfl) rfl rfl (by first | (simp only [look_lay, look, seval] <;> rfl) | fail) rfl; apply aops_mv (t := 3) (d := 35) (ag_n rfl) rfl rfl (by first | (simp only [look_lay, look, seval] <;> rfl) | fail) rfl; apply aops_mv (t := 6) (d := 36) (ag_n rfl) rfl rfl (by first | (simp only [look_lay, look, seval] <;> rfl) | fail) rfl; apply aops_x (d := 37) (ag_n rfl) rfl (by (simp (disch := first | decide | omega) only [if_pos, nws, hx1, xb, go_sem, seval] <;> rfl)) rfl; apply aops_x (d := 38) (ag_n rfl) rfl (by first | (simp (disch := decide) only [hx1, xb, go_sem, seval] <;> rfl) | (simp (disch := first | decide | omega) only [if_pos, nws, hx1, xb, go_sem, seval] <;> rfl)) rfl; apply aops_x (d := 39) (ag_n rfl) rfl (by (simp (disch := first | decide | omega) only [if_pos, nws, hx1, xb, go_sem, seval] <;> rfl)) rfl; apply aops_x (d := 40) (ag_n rfl) rfl (by (simp (disch := first | decide | omega) only [if_pos, nws, hx1, xb, go_sem, seval] <;> rfl)) rfl; apply aops_x (d := 41) (ag_n rfl) rfl (by (simp (disch := first | decide | omega) only [if_pos, nws, hx1, xb, go_sem, seval] <;> rfl)) rfl; apply aops_as (t := 41) (d := 4) (ag_n rfl) rfl rfl (by first | (simp only [look_lay, look, seval] <;> rfl) | fail) rfl; apply aops_end; rfl) (by (simp (disch := omega) only [go_sem, seval, lay, nws]); rfl) ?_
      change AWP _ _ _ _ _
      refine AWP.rT gok [0, 2, 3, 4, 5, 28, 29] (by apply aops_mv (t := 5) (d := 42) (ag_n rfl) rfl rfl (by first | (simp only [look_lay, look, seval] <;> rfl) | fail) rfl; apply aops_mv (t := 3) (d := 43) (ag_n rfl) rfl rfl (by first | (simp only [look_lay, look, seval] <;> rfl) | fail) rfl; apply aops_mv (t := 6) (d := 44) (ag_n rfl) rfl rfl (by first | (simp only [look_lay, look, seval] <;> rfl) | fail) rfl; apply aops_x (d := 45) (ag_n rfl) rfl (by (simp (disch := first | decide | omega) only [if_pos, nws, hx1, xb, go_sem, seval] <;> rfl)) rfl; apply aops_x (d := 46) (ag_n rfl) rfl (by first | (simp (disch := decide) only [hx1, xb, go_sem, seval] <;> rfl) | (simp (disch := first | decide | omega) only [if_pos, nws, hx1, xb, go_sem, seval] <;> rfl)) rfl; apply aops_x (d := 47) (ag_n rfl) rfl (by (simp (disch := first | decide | omega) only [if_pos, nws, hx1, xb, go_sem, seval] <;> rfl)) rfl; apply aops_x (d := 48) (ag_n rfl) rfl (by (simp (disch := first | decide | omega) only [if_pos, nws, hx1, xb, go_sem, seval] <;> rfl)) rfl; apply aops_x (d := 49) (ag_n rfl) rfl (by (simp (disch := first | decide | omega) only [if_pos, nws, hx1, xb, go_sem, seval] <;> rfl)) rfl; apply aops_as (t := 49) (d := 5) (ag_n rfl) rfl rfl (by first | (simp only [look_lay, look, seval] <;> rfl) | fail) rfl; apply aops_end; rfl) (by (simp (disch := omega) only [go_sem, seval, lay, nws]); rfl) ?_
      change AWP _ _ _ _ _
      refine AWP.rT gok [0, 2, 3, 4, 5, 28, 29] (by apply aops_x (d := 50) (ag_n rfl) rfl (by first | (simp (disch := decide) only [go_sem, seval] <;> rfl) | (simp (disch := first | decide | omega) only [if_pos, nws, go_sem, seval] <;> rfl)) rfl; apply aops_mv (t := 50) (d := 29) (ag_n rfl) rfl rfl (by first | (simp only [look_lay, look, seval] <;> rfl) | fail) rfl; apply aops_end; rfl) (by (simp (disch := omega) only [go_sem, seval, lay, nws]); rfl) ?_
      have cr : Sha.rounds.take (i + 1) = Sha.rounds.take i ++ [cubeG x % 4294967296] := by rw [List.take_add_one, map_at cube_rounds hx1]; rfl
      first
      | (have h8 : i < 8 := by omega
         have cs : Sha.start.take (i + 1) = Sha.start.take i ++ [squareG x % 4294967296] := by rw [List.take_add_one, map_at square_start (show (primesK.take 8)[i]? = some x by rw [List.getElem?_take_of_lt h8]; exact hx1)]; rfl
         refine ⟨i + 1, Ghost.trans (Ghost.gc (ρ := [0, 1, 5, 7]) (by simp only [go_sem, seval] <;> rfl) rfl rfl rfl) (Ghost.of_eq (by simp only [cr, cs, List.length_take, List.length_append, List.length_cons, List.length_nil] <;> rfl)), by omega, by omega⟩)
      | (have h8 : 8 ≤ i := by omega
         have cs : Sha.start.take (i + 1) = Sha.start.take i := by rw [List.take_of_length_le (show Sha.start.length ≤ i + 1 from Nat.le_succ_of_le h8), List.take_of_length_le (show Sha.start.length ≤ i from h8)]
         refine ⟨i + 1, Ghost.trans (Ghost.gc (ρ := [0, 1, 2, 5]) (by simp only [go_sem, seval] <;> rfl) rfl rfl rfl) (Ghost.of_eq (by simp only [cr, cs, List.length_take, List.length_append, List.length_cons, List.length_nil] <;> rfl)), by omega, by omega⟩)
    · skip
      refine AWP.skip ?_
      change AWP _ _ _ _ _
      refine AWP.rT gok [0, 2, 3, 4, 5, 28, 29] (by apply aops_mv (t := 5) (d := 42) (ag_n rfl) rfl rfl (by first | (simp only [look_lay, look, seval] <;> rfl) | fail) rfl; apply aops_mv (t := 3) (d := 43) (ag_n rfl) rfl rfl (by first | (simp only [look_lay, look, seval] <;> rfl) | fail) rfl; apply aops_mv (t := 6) (d := 44) (ag_n rfl) rfl rfl (by first | (simp only [look_lay, look, seval] <;> rfl) | fail) rfl; apply aops_x (d := 45) (ag_n rfl) rfl (by (simp (disch := first | decide | omega) only [if_pos, nws, hx1, xb, go_sem, seval] <;> rfl)) rfl; apply aops_x (d := 46) (ag_n rfl) rfl (by first | (simp (disch := decide) only [hx1, xb, go_sem, seval] <;> rfl) | (simp (disch := first | decide | omega) only [if_pos, nws, hx1, xb, go_sem, seval] <;> rfl)) rfl; apply aops_x (d := 47) (ag_n rfl) rfl (by (simp (disch := first | decide | omega) only [if_pos, nws, hx1, xb, go_sem, seval] <;> rfl)) rfl; apply aops_x (d := 48) (ag_n rfl) rfl (by (simp (disch := first | decide | omega) only [if_pos, nws, hx1, xb, go_sem, seval] <;> rfl)) rfl; apply aops_x (d := 49) (ag_n rfl) rfl (by (simp (disch := first | decide | omega) only [if_pos, nws, hx1, xb, go_sem, seval] <;> rfl)) rfl; apply aops_as (t := 49) (d := 5) (ag_n rfl) rfl rfl (by first | (simp only [look_lay, look, seval] <;> rfl) | fail) rfl; apply aops_end; rfl) (by (simp (disch := omega) only [go_sem, seval, lay, nws]); rfl) ?_
      change AWP _ _ _ _ _
      refine AWP.rT gok [0, 2, 3, 4, 5, 28, 29] (by apply aops_x (d := 50) (ag_n rfl) rfl (by first | (simp (disch := decide) only [go_sem, seval] <;> rfl) | (simp (disch := first | decide | omega) only [if_pos, nws, go_sem, seval] <;> rfl)) rfl; apply aops_mv (t := 50) (d := 29) (ag_n rfl) rfl rfl (by first | (simp only [look_lay, look, seval] <;> rfl) | fail) rfl; apply aops_end; rfl) (by (simp (disch := omega) only [go_sem, seval, lay, nws]); rfl) ?_
      have cr : Sha.rounds.take (i + 1) = Sha.rounds.take i ++ [cubeG x % 4294967296] := by rw [List.take_add_one, map_at cube_rounds hx1]; rfl
      first
      | (have h8 : i < 8 := by omega
         have cs : Sha.start.take (i + 1) = Sha.start.take i ++ [squareG x % 4294967296] := by rw [List.take_add_one, map_at square_start (show (primesK.take 8)[i]? = some x by rw [List.getElem?_take_of_lt h8]; exact hx1)]; rfl
         refine ⟨i + 1, Ghost.trans (Ghost.gc (ρ := [0, 1, 5, 7]) (by simp only [go_sem, seval] <;> rfl) rfl rfl rfl) (Ghost.of_eq (by simp only [cr, cs, List.length_take, List.length_append, List.length_cons, List.length_nil] <;> rfl)), by omega, by omega⟩)
      | (have h8 : 8 ≤ i := by omega
         have cs : Sha.start.take (i + 1) = Sha.start.take i := by rw [List.take_of_length_le (show Sha.start.length ≤ i + 1 from Nat.le_succ_of_le h8), List.take_of_length_le (show Sha.start.length ≤ i from h8)]
         refine ⟨i + 1, Ghost.trans (Ghost.gc (ρ := [0, 1, 2, 5]) (by simp only [go_sem, seval] <;> rfl) rfl rfl rfl) (Ghost.of_eq (by simp only [cr, cs, List.length_take, List.length_append, List.length_cons, List.length_nil] <;> rfl)), by omega, by omega⟩)
  · skip
    refine AWP.exit ?_
    change AWP _ _ _ _ _
    have ei : i = 64 := by omega
    have es : Sha.start.take i = Sha.start := by rw [ei]; rfl
    have er : Sha.rounds.take i = Sha.rounds := by rw [ei]; rfl
    rw [es, er]
    have ls : Sha.start.length = 8 := rfl
    have lr : Sha.rounds.length = 64 := rfl
    refine AWP.sR gok [0, 2, 4, 5, 7] (by apply aops_x (d := 51) (ag_n rfl) rfl (by (simp (disch := first | decide | omega) only [if_pos, nws, go_sem, seval] <;> rfl)) rfl; apply aops_mv (t := 0) (d := 52) (ag_n rfl) rfl rfl (by first | (simp only [look_lay, look, seval] <;> rfl) | fail) rfl; apply aops_x (d := 53) (ag_n rfl) rfl (by (simp (disch := first | decide | omega) only [if_pos, nws, go_sem, seval] <;> rfl)) rfl; apply aops_x (d := 54) (ag_n rfl) rfl (by (simp (disch := first | decide | omega) only [if_pos, nws, go_sem, seval] <;> rfl)) rfl; apply aops_x (d := 55) (ag_n rfl) rfl (by (simp (disch := first | decide | omega) only [if_pos, nws, go_sem, seval] <;> rfl)) rfl; apply aops_as (t := 55) (d := 7) (ag_n rfl) rfl rfl (by first | (simp only [look_lay, look, seval] <;> rfl) | fail) rfl; apply aops_end; rfl) (by (simp (disch := omega) only [go_sem, seval, lay, nws]); rfl) ?_
    refine AWP.seqBlock ?_
    refine AWP.loopP (fun (p : List Int) => ⟨312, [(0, .c (.rs (.i .u8) xs)), (2, .c (.ptr 0 0 1 0)), (4, .c (.sl 1 0 8 1)), (5, .c (.sl 2 0 64 1)), (7, .c (.sl 3 0 p.length 1))], [some (.ty (.i .u8) (List.replicate 32 0)), some (.ty (.i .u32) Sha.start), some (.ty (.i .u32) Sha.rounds), some (.ty (.i .u8) p)]⟩) (fun p => ∃ k, k ≤ (119 - xs.length % 64) % 64 ∧ p = xs ++ 128 :: List.replicate k 0) (fun p => 100 - (p.length - xs.length)) (xs ++ [128]) (Ghost.trans (Ghost.gc (ρ := [0, 2, 3, 7]) (by simp only [go_sem, seval] <;> rfl) rfl rfl rfl) (Ghost.of_eq (by simp only [ei, ls, lr, List.length_append, List.length_cons, List.length_nil] <;> rfl))) ⟨0, by omega, rfl⟩ ?_
    rintro q ⟨k, k1, k2⟩
    have ql : q.length = xs.length + 1 + k := by rw [k2]; simp; omega
    refine AWP.seq ?_
    refine AWP.sR gok [0, 2, 4, 5, 7, 59] (by apply aops_mv (t := 7) (d := 56) (ag_n rfl) rfl rfl (by first | (simp only [look_lay, look, seval] <;> rfl) | fail) rfl; apply aops_x (d := 57) (ag_n rfl) rfl (by first | (simp (disch := decide) only [go_sem, seval] <;> rfl) | (simp (disch := first | decide | omega) only [if_pos, nws, go_sem, seval] <;> rfl)) rfl; apply aops_x (d := 58) (ag_n rfl) rfl (by (simp (disch := first | decide | omega) only [if_pos, nws, go_sem, seval] <;> rfl)) rfl; apply aops_x (d := 59) (ag_n rfl) rfl (by first | (simp (disch := decide) only [go_sem, seval] <;> rfl) | (simp (disch := first | decide | omega) only [if_pos, nws, go_sem, seval] <;> rfl)) rfl; apply aops_end; rfl) (by (simp (disch := omega) only [go_sem, seval, lay, nws]); rfl) ?_
    refine AWP.cond (b := _) rfl (fun h => ?_) (fun h => ?_) <;> (try simp only [decide_eq_true_eq, decide_eq_false_iff_not] at h)
    · skip
      refine AWP.skip ?_
      change AWP _ _ _ _ _
      refine AWP.block ?_
      refine AWP.rT gok [0, 2, 4, 5, 7] (by apply aops_mv (t := 7) (d := 60) (ag_n rfl) rfl rfl (by first | (simp only [look_lay, look, seval] <;> rfl) | fail) rfl; apply aops_x (d := 61) (ag_n rfl) rfl (by (simp (disch := first | decide | omega) only [if_pos, nws, go_sem, seval] <;> rfl)) rfl; apply aops_x (d := 62) (ag_n rfl) rfl (by (simp (disch := first | decide | omega) only [if_pos, nws, go_sem, seval] <;> rfl)) rfl; apply aops_as (t := 62) (d := 7) (ag_n rfl) rfl rfl (by first | (simp only [look_lay, look, seval] <;> rfl) | fail) rfl; apply aops_end; rfl) (by (simp (disch := omega) only [go_sem, seval, lay, nws]); rfl) ?_
      have hk : k < (119 - xs.length % 64) % 64 := by omega
      refine ⟨q ++ [0], Ghost.trans (Ghost.gc (ρ := [0, 1, 2, 5]) (by simp only [go_sem, seval] <;> rfl) rfl rfl rfl) (Ghost.of_eq (by simp only [List.length_append, List.length_cons, List.length_nil] <;> rfl)), ⟨k + 1, by omega, ?_⟩, by simp only [List.length_append, List.length_cons, List.length_nil]; omega⟩
      rw [k2, List.replicate_succ', List.append_assoc, List.cons_append]
    · skip
      refine AWP.exit ?_
      change AWP _ _ _ _ _
      have e0 : q = Sha.front xs (Sha.zeros xs.length) := by
        have : k = Sha.zeros xs.length := by unfold Sha.zeros; omega
        rw [k2, this]; simp [Sha.front]
      refine AWP.sR gok [2, 4, 5, 7, 8] (by apply aops_mv (t := 0) (d := 63) (ag_n rfl) rfl rfl (by first | (simp only [look_lay, look, seval] <;> rfl) | fail) rfl; apply aops_x (d := 64) (ag_n rfl) rfl (by first | (simp (disch := decide) only [go_sem, seval] <;> rfl) | (simp (disch := first | decide | omega) only [if_pos, nws, go_sem, seval] <;> rfl)) rfl; apply aops_x (d := 65) (ag_n rfl) rfl (by first | (simp (disch := decide) only [go_sem, seval] <;> rfl) | (simp (disch := first | decide | omega) only [if_pos, nws, go_sem, seval] <;> rfl)) rfl; apply aops_x (d := 66) (ag_n rfl) rfl (by first | (simp (disch := decide) only [go_sem, seval] <;> rfl) | (simp (disch := first | decide | omega) only [if_pos, nws, go_sem, seval] <;> rfl)) rfl; apply aops_as (t := 66) (d := 8) (ag_n rfl) rfl rfl (by first | (simp only [look_lay, look, seval] <;> rfl) | fail) rfl; apply aops_end; rfl) (by (simp (disch := omega) only [go_sem, seval, lay, nws]); rfl) ?_
      refine AWP.seq ?_
      refine AWP.sR gok [2, 4, 5, 7, 8, 9] (by apply aops_x (d := 9) (ag_n rfl) rfl (by first | (simp (disch := decide) only [go_sem, seval] <;> rfl) | (simp (disch := first | decide | omega) only [if_pos, nws, go_sem, seval] <;> rfl)) rfl; apply aops_end; rfl) (by (simp (disch := omega) only [go_sem, seval, lay, nws]); rfl) ?_
      refine AWP.block ?_
      refine AWP.loopP (fun (p : Nat × List Int) => ⟨312, [(2, .c (.ptr 0 0 1 0)), (4, .c (.sl 1 0 8 1)), (5, .c (.sl 2 0 64 1)), (7, .c (.sl 3 0 p.2.length 1)), (8, .c (ci .u64 ((xs.length : Int) * 8))), (9, .c (ci .i64 (56 - 8 * (p.1 : Int))))], [some (.ty (.i .u8) (List.replicate 32 0)), some (.ty (.i .u32) Sha.start), some (.ty (.i .u32) Sha.rounds), some (.ty (.i .u8) p.2)]⟩) (fun p => p.1 ≤ 8 ∧ p.2 = Sha.front xs (Sha.zeros xs.length) ++ Sha.lenBytes xs.length p.1) (fun p => 8 - p.1) (0, q) (Ghost.of_eq (by (simp (disch := omega) only [go_sem, seval, lay, nws]) <;> rfl)) ⟨Nat.zero_le _, by rw [e0]; simp [Sha.lenBytes]⟩ ?_
      rintro ⟨j, r⟩ ⟨j1, j2⟩
      simp only at j1 j2 ⊢
      have rl : r.length = q.length + j := by rw [j2, ← e0, List.length_append, Sha.lenBytes_length]
      refine AWP.seq ?_
      refine AWP.sR gok [2, 4, 5, 7, 8, 9, 68] (by apply aops_mv (t := 9) (d := 67) (ag_n rfl) rfl rfl (by first | (simp only [look_lay, look, seval] <;> rfl) | fail) rfl; apply aops_x (d := 68) (ag_n rfl) rfl (by first | (simp (disch := decide) only [go_sem, seval] <;> rfl) | (simp (disch := first | decide | omega) only [if_pos, nws, go_sem, seval] <;> rfl)) rfl; apply aops_end; rfl) (by (simp (disch := omega) only [go_sem, seval, lay, nws]); rfl) ?_
      refine AWP.cond (b := _) rfl (fun h => ?_) (fun h => ?_) <;> (try simp only [decide_eq_true_eq, decide_eq_false_iff_not] at h)
      · skip
        refine AWP.skip ?_
        change AWP _ _ _ _ _
        refine AWP.seqBlock ?_
        have hj : j < 8 := by omega
        have ej : ((56 : Int) - 8 * (j : Int)).toNat = 8 * (7 - j) := by omega
        refine AWP.rT gok [2, 4, 5, 7, 8, 9] (by apply aops_mv (t := 7) (d := 71) (ag_n rfl) rfl rfl (by first | (simp only [look_lay, look, seval] <;> rfl) | fail) rfl; apply aops_mv (t := 8) (d := 72) (ag_n rfl) rfl rfl (by first | (simp only [look_lay, look, seval] <;> rfl) | fail) rfl; apply aops_mv (t := 9) (d := 73) (ag_n rfl) rfl rfl (by first | (simp only [look_lay, look, seval] <;> rfl) | fail) rfl; apply aops_x (d := 74) (ag_n rfl) rfl (by first | (simp (disch := decide) only [ej, go_sem, seval] <;> rfl) | (simp (disch := first | decide | omega) only [if_pos, nws, ej, go_sem, seval] <;> rfl)) rfl; apply aops_x (d := 75) (ag_n rfl) rfl (by (simp (disch := first | decide | omega) only [if_pos, nws, ej, go_sem, seval] <;> rfl)) rfl; apply aops_x (d := 76) (ag_n rfl) rfl (by first | (simp (disch := decide) only [ej, go_sem, seval] <;> rfl) | (simp (disch := first | decide | omega) only [if_pos, nws, ej, go_sem, seval] <;> rfl)) rfl; apply aops_x (d := 77) (ag_n rfl) rfl (by (simp (disch := first | decide | omega) only [if_pos, nws, ej, go_sem, seval] <;> rfl)) rfl; apply aops_x (d := 78) (ag_n rfl) rfl (by (simp (disch := first | decide | omega) only [if_pos, nws, ej, go_sem, seval] <;> rfl)) rfl; apply aops_as (t := 78) (d := 7) (ag_n rfl) rfl rfl (by first | (simp only [look_lay, look, seval] <;> rfl) | fail) rfl; apply aops_end; rfl) (by (simp (disch := omega) only [go_sem, seval, lay, nws]); rfl) ?_
        change AWP _ _ _ _ _
        refine AWP.rT gok [2, 4, 5, 7, 8, 9] (by apply aops_mv (t := 9) (d := 69) (ag_n rfl) rfl rfl (by first | (simp only [look_lay, look, seval] <;> rfl) | fail) rfl; apply aops_x (d := 70) (ag_n rfl) rfl (by first | (simp (disch := decide) only [go_sem, seval] <;> rfl) | (simp (disch := first | decide | omega) only [if_pos, nws, go_sem, seval] <;> rfl)) rfl; apply aops_as (t := 70) (d := 9) (ag_n rfl) rfl rfl (by first | (simp only [look_lay, look, seval] <;> rfl) | fail) rfl; apply aops_end; rfl) (by (simp (disch := omega) only [go_sem, seval, lay, nws]); rfl) ?_
        have el : Sha.lenByte xs.length j = IntKind.u8.wrap ((xs.length : Int) * 8 / 2 ^ (8 * (7 - j))) := by rw [u8w]; rfl
        have e9 : (56 : Int) - 8 * (j : Int) - 8 = 56 - 8 * ((j + 1 : Nat) : Int) := by omega
        refine ⟨(j + 1, r ++ [Sha.lenByte xs.length j]), Ghost.trans (Ghost.gc (ρ := [0, 1, 2, 5]) (by simp only [go_sem, seval] <;> rfl) rfl rfl rfl) (Ghost.of_eq (by rw [el]; simp only [List.length_append, List.length_cons, List.length_nil, e9] <;> rfl)), ⟨by simp only; omega, ?_⟩, by simp only; omega⟩
        simp only
        rw [j2, Sha.lenBytes, List.append_assoc]
      · skip
        refine AWP.exit ?_
        change AWP _ _ _ _ _
        refine AWP.seq ?_
        have ej : j = 8 := by omega
        have et : r = Sha.text xs := by rw [j2, ej]; rfl
        rw [et]
        have hb2 : ∀ x ∈ Sha.text xs, 0 ≤ x ∧ x < 256 := Sha.text_bound xs hx
        have hl2 : (Sha.text xs).length ≤ 2147484000 := by rw [Sha.text_length]; unfold Sha.zeros; omega
        have hm2 : (Sha.text xs).length % 64 = 0 := Sha.text_blocks xs
        have eF : Sha.of xs = Sha.outs (Sha.hashes (Sha.text xs) ((Sha.text xs).length / 64)) 32 := rfl
        generalize Sha.text xs = t at hb2 hl2 hm2 eF ⊢
        have eh : Sha.start = Sha.hashes t 0 := rfl
        refine AWP.sR gok [2, 4, 5, 7, 10] (by apply aops_x (d := 10) (ag_n rfl) rfl (by first | (simp (disch := decide) only [go_sem, seval] <;> rfl) | (simp (disch := first | decide | omega) only [if_pos, nws, go_sem, seval] <;> rfl)) rfl; apply aops_end; rfl) (by (simp (disch := omega) only [go_sem, seval, lay, nws]); rfl) ?_
        refine AWP.block ?_
        refine AWP.loopP (fun (p : Nat) => ⟨312, [(2, .c (.ptr 0 0 1 0)), (4, .c (.sl 1 0 8 1)), (5, .c (.sl 2 0 64 1)), (7, .c (.sl 3 0 t.length 1)), (10, .c (ci .i64 (64 * (p : Int))))], [some (.ty (.i .u8) (List.replicate 32 0)), some (.ty (.i .u32) (Sha.hashes t p)), some (.ty (.i .u32) Sha.rounds), some (.ty (.i .u8) t)]⟩) (fun p => 64 * p ≤ t.length) (fun p => t.length - 64 * p) 0 (Ghost.of_eq (by rfl)) (Nat.zero_le _) ?_
        rintro m hm
        have hh := Sha.hashes_length t m
        have hhb := Sha.hashes_bound t m
        refine AWP.seq ?_
        refine AWP.sR gok [2, 4, 5, 7, 10, 82] (by apply aops_mv (t := 10) (d := 79) (ag_n rfl) rfl rfl (by first | (simp only [look_lay, look, seval] <;> rfl) | fail) rfl; apply aops_mv (t := 7) (d := 80) (ag_n rfl) rfl rfl (by first | (simp only [look_lay, look, seval] <;> rfl) | fail) rfl; apply aops_x (d := 81) (ag_n rfl) rfl (by first | (simp (disch := decide) only [go_sem, seval] <;> rfl) | (simp (disch := first | decide | omega) only [if_pos, nws, go_sem, seval] <;> rfl)) rfl; apply aops_x (d := 82) (ag_n rfl) rfl (by first | (simp (disch := decide) only [go_sem, seval] <;> rfl) | (simp (disch := first | decide | omega) only [if_pos, nws, go_sem, seval] <;> rfl)) rfl; apply aops_end; rfl) (by (simp (disch := omega) only [go_sem, seval, lay, nws]); rfl) ?_
        refine AWP.cond (b := _) rfl (fun h => ?_) (fun h => ?_) <;> (try simp only [decide_eq_true_eq, decide_eq_false_iff_not] at h)
        · skip
          refine AWP.skip ?_
          change AWP _ _ _ _ _
          refine AWP.seqBlock ?_
          have hm3 : 64 * m + 64 ≤ t.length := by omega
          generalize eH : Sha.hashes t m = g at hh hhb ⊢
          refine AWP.sR gok [2, 4, 5, 7, 10, 11] (by apply aops_x (d := 11) (ag_n rfl) rfl (by first | (simp (disch := decide) only [go_sem, seval] <;> rfl) | (simp (disch := first | decide | omega) only [if_pos, nws, go_sem, seval] <;> rfl)) rfl; apply aops_end; rfl) (by (simp (disch := omega) only [go_sem, seval, lay, nws]); rfl) ?_
          refine AWP.seq ?_
          refine AWP.sR gok [2, 4, 5, 7, 10, 11, 12] (by apply aops_x (d := 12) (ag_n rfl) rfl (by first | (simp (disch := decide) only [go_sem, seval] <;> rfl) | (simp (disch := first | decide | omega) only [if_pos, nws, go_sem, seval] <;> rfl)) rfl; apply aops_end; rfl) (by (simp (disch := omega) only [go_sem, seval, lay, nws]); rfl) ?_
          refine AWP.block ?_
          refine AWP.loopP (fun (p : List Int) => ⟨312, [(2, .c (.ptr 0 0 1 0)), (4, .c (.sl 1 0 8 1)), (5, .c (.sl 2 0 64 1)), (7, .c (.sl 3 0 t.length 1)), (10, .c (ci .i64 (64 * (m : Int)))), (11, .c (.sl 4 0 p.length 1)), (12, .c (ci .i64 (p.length : Int)))], [some (.ty (.i .u8) (List.replicate 32 0)), some (.ty (.i .u32) g), some (.ty (.i .u32) Sha.rounds), some (.ty (.i .u8) t), some (.ty (.i .u32) p)]⟩) (fun p => p.length ≤ 16 ∧ p = Sha.sched (t.drop (64 * m)) p.length) (fun p => 16 - p.length) [] (Ghost.nil 11 1 (.i .u32) rfl (by simp)) ⟨Nat.zero_le _, rfl⟩ ?_
          rintro w ⟨w1, w2⟩
          refine AWP.seq ?_
          refine AWP.sR gok [2, 4, 5, 7, 10, 11, 12, 86] (by apply aops_mv (t := 12) (d := 85) (ag_n rfl) rfl rfl (by first | (simp only [look_lay, look, seval] <;> rfl) | fail) rfl; apply aops_x (d := 86) (ag_n rfl) rfl (by first | (simp (disch := decide) only [go_sem, seval] <;> rfl) | (simp (disch := first | decide | omega) only [if_pos, nws, go_sem, seval] <;> rfl)) rfl; apply aops_end; rfl) (by (simp (disch := omega) only [go_sem, seval, lay, nws]); rfl) ?_
          refine AWP.cond (b := _) rfl (fun h => ?_) (fun h => ?_) <;> (try simp only [decide_eq_true_eq, decide_eq_false_iff_not] at h)
          · skip
            refine AWP.skip ?_
            change AWP _ _ _ _ _
            refine AWP.seqBlock ?_
            refine AWP.sR gok [2, 4, 5, 7, 10, 11, 12, 13] (by apply aops_mv (t := 10) (d := 89) (ag_n rfl) rfl rfl (by first | (simp only [look_lay, look, seval] <;> rfl) | fail) rfl; apply aops_mv (t := 12) (d := 90) (ag_n rfl) rfl rfl (by first | (simp only [look_lay, look, seval] <;> rfl) | fail) rfl; apply aops_x (d := 91) (ag_n rfl) rfl (by first | (simp (disch := decide) only [go_sem, seval] <;> rfl) | (simp (disch := first | decide | omega) only [if_pos, nws, go_sem, seval] <;> rfl)) rfl; apply aops_x (d := 92) (ag_n rfl) rfl (by first | (simp (disch := decide) only [go_sem, seval] <;> rfl) | (simp (disch := first | decide | omega) only [if_pos, nws, go_sem, seval] <;> rfl)) rfl; apply aops_as (t := 92) (d := 13) (ag_n rfl) rfl rfl (by first | (simp only [look_lay, look, seval] <;> rfl) | fail) rfl; apply aops_end; rfl) (by (simp (disch := omega) only [go_sem, seval, lay, nws]); rfl) ?_
            obtain ⟨k, hk⟩ : ∃ k : Nat, k = 64 * m + 4 * w.length := ⟨_, rfl⟩
            have ek : 64 * (m : Int) + 4 * (w.length : Int) = (k : Int) := by omega
            rw [ek]
            have i1 : ((k : Int) + 1).toNat = k + 1 := by omega
            have i2 : ((k : Int) + 2).toNat = k + 2 := by omega
            have i3 : ((k : Int) + 3).toNat = k + 3 := by omega
            obtain ⟨a, ha⟩ : ∃ a, t[k]? = some a := ⟨_, List.getElem?_eq_getElem (by omega)⟩
            obtain ⟨b, hb⟩ : ∃ b, t[k + 1]? = some b := ⟨_, List.getElem?_eq_getElem (by omega)⟩
            obtain ⟨c, hc⟩ : ∃ c, t[k + 2]? = some c := ⟨_, List.getElem?_eq_getElem (by omega)⟩
            obtain ⟨d, hd⟩ : ∃ d, t[k + 3]? = some d := ⟨_, List.getElem?_eq_getElem (by omega)⟩
            have ba := hb2 a (List.mem_of_getElem? ha)
            have bb := hb2 b (List.mem_of_getElem? hb)
            have bc := hb2 c (List.mem_of_getElem? hc)
            have bd := hb2 d (List.mem_of_getElem? hd)
            refine AWP.dT gok (by kernel_rfl) [2, 4, 5, 7, 10, 11, 12] [⟨[], true, 0⟩, ⟨[], true, 0⟩, ⟨[], true, 0⟩, ⟨[], true, 0⟩, ⟨[3], true, 0⟩, ⟨[], true, 0⟩, ⟨[], true, 0⟩, ⟨[], true, 0⟩, ⟨[], true, 0⟩, ⟨[], true, 0⟩, ⟨[], true, 0⟩, ⟨[3], true, 0⟩, ⟨[], true, 0⟩, ⟨[], true, 0⟩, ⟨[], true, 0⟩, ⟨[], true, 0⟩, ⟨[], true, 0⟩, ⟨[], true, 0⟩, ⟨[], true, 0⟩, ⟨[3], true, 0⟩, ⟨[], true, 0⟩, ⟨[], true, 0⟩, ⟨[], true, 0⟩, ⟨[], true, 0⟩, ⟨[], true, 0⟩, ⟨[], true, 0⟩, ⟨[], true, 0⟩, ⟨[3], true, 0⟩, ⟨[], true, 0⟩, ⟨[], true, 0⟩, ⟨[], true, 1⟩, ⟨[4, 5], false, 1⟩, ⟨[], true, 0⟩] (by kernel_rfl) (by first | rfl | simp only [go_sem, ↓reduceIte, Nat.reduceLT, Nat.reduceAdd]) (by first | rfl | simp only [go_sem, ↓reduceIte, Nat.reduceLT, Nat.reduceAdd]) (by (repeat (first | apply arun_step (by first | exact ag_n rfl | exact ag_b rfl rfl rfl (by first | (simp only [look_lay, look, seval] <;> rfl) | fail) (by first | rfl | (simp only [i1, i2, i3, ha, hb, hc, hd, decide_true, decide_false] <;> rfl) | fail) | fail) (by first | (simp (disch := decide) only [i1, i2, i3, ha, hb, hc, hd, go_sem, seval]; rfl) | (simp (disch := first | decide | omega) only [if_pos, nws, i1, i2, i3, ha, hb, hc, hd, go_sem, seval]; rfl)) (by first | (intro h; cases h; done) | (intro _; rfl) | (intro _; simp only [go_sem, seval, lay])) (by first | rfl | simp only [go_sem, seval, lay]) (by first | rfl | simp only [go_sem, seval, lay]) (by first | rfl | simp only [go_sem, seval, lay]) (by simp only [go_sem, seval, lay]; rfl) | apply arun_pass (by first | exact ag_f rfl rfl rfl (by first | (simp only [look_lay, look, seval] <;> rfl) | fail) (by first | rfl | (simp only [i1, i2, i3, ha, hb, hc, hd, decide_true, decide_false] <;> rfl) | fail) | exact ag_u rfl rfl rfl (by first | (simp only [look_lay, look, seval] <;> rfl) | fail) | fail) rfl (by simp only [go_sem, seval, lay]; rfl))); exact rfl) (by (simp (disch := omega) only [go_sem, seval, lay, nws]); rfl) ?_
            change AWP _ _ _ _ _
            refine AWP.rT gok [2, 4, 5, 7, 10, 11, 12] (by apply aops_mv (t := 12) (d := 87) (ag_n rfl) rfl rfl (by first | (simp only [look_lay, look, seval] <;> rfl) | fail) rfl; apply aops_x (d := 88) (ag_n rfl) rfl (by first | (simp (disch := decide) only [go_sem, seval] <;> rfl) | (simp (disch := first | decide | omega) only [if_pos, nws, go_sem, seval] <;> rfl)) rfl; apply aops_as (t := 88) (d := 12) (ag_n rfl) rfl rfl (by first | (simp only [look_lay, look, seval] <;> rfl) | fail) rfl; apply aops_end; rfl) (by (simp (disch := omega) only [go_sem, seval, lay, nws]); rfl) ?_
            have en := next_lt t w (64 * m) w.length k a b c d (by omega) hk ha hb hc hd ba bb bc bd
            refine ⟨w ++ [Sha.next (t.drop (64 * m)) w w.length], Ghost.trans (Ghost.gc (ρ := [0, 1, 2, 3, 6]) (by simp only [go_sem, seval] <;> rfl) rfl rfl rfl) (Ghost.of_eq (by rw [en]; simp only [List.length_append, List.length_cons, List.length_nil] <;> rfl)), ⟨by simp only [List.length_append, List.length_cons, List.length_nil]; omega, ?_⟩, by simp only [List.length_append, List.length_cons, List.length_nil]; omega⟩
            rw [List.length_append]
            show _ = Sha.sched (t.drop (64 * m)) w.length ++ [Sha.next (t.drop (64 * m)) (Sha.sched (t.drop (64 * m)) w.length) w.length]
            rw [← w2]
          · skip
            refine AWP.exit ?_
            change AWP _ _ _ _ _
            refine AWP.seq ?_
            have w3 : w.length = 16 := by omega
            refine AWP.sR gok [2, 4, 5, 7, 10, 11, 14] (by apply aops_x (d := 14) (ag_n rfl) rfl (by first | (simp (disch := decide) only [go_sem, seval] <;> rfl) | (simp (disch := first | decide | omega) only [if_pos, nws, go_sem, seval] <;> rfl)) rfl; apply aops_end; rfl) (by (simp (disch := omega) only [go_sem, seval, lay, nws]); rfl) ?_
            refine AWP.block ?_
            refine AWP.loopP (fun (p : List Int) => ⟨312, [(2, .c (.ptr 0 0 1 0)), (4, .c (.sl 1 0 8 1)), (5, .c (.sl 2 0 64 1)), (7, .c (.sl 3 0 t.length 1)), (10, .c (ci .i64 (64 * (m : Int)))), (11, .c (.sl 4 0 p.length 1)), (14, .c (ci .i64 (p.length : Int)))], [some (.ty (.i .u8) (List.replicate 32 0)), some (.ty (.i .u32) g), some (.ty (.i .u32) Sha.rounds), some (.ty (.i .u8) t), some (.ty (.i .u32) p)]⟩) (fun p => (16 ≤ p.length ∧ p.length ≤ 64) ∧ p = Sha.sched (t.drop (64 * m)) p.length) (fun p => 64 - p.length) w (Ghost.of_eq (by simp only [w3] <;> rfl)) ⟨⟨by omega, by omega⟩, w2⟩ ?_
            rintro u ⟨⟨u0, u1⟩, u2⟩
            refine AWP.seq ?_
            refine AWP.sR gok [2, 4, 5, 7, 10, 11, 14, 126] (by apply aops_mv (t := 14) (d := 125) (ag_n rfl) rfl rfl (by first | (simp only [look_lay, look, seval] <;> rfl) | fail) rfl; apply aops_x (d := 126) (ag_n rfl) rfl (by first | (simp (disch := decide) only [go_sem, seval] <;> rfl) | (simp (disch := first | decide | omega) only [if_pos, nws, go_sem, seval] <;> rfl)) rfl; apply aops_end; rfl) (by (simp (disch := omega) only [go_sem, seval, lay, nws]); rfl) ?_
            refine AWP.cond (b := _) rfl (fun h => ?_) (fun h => ?_) <;> (try simp only [decide_eq_true_eq, decide_eq_false_iff_not] at h)
            · skip
              refine AWP.skip ?_
              change AWP _ _ _ _ _
              refine AWP.seqBlock ?_
              have i1 : ((u.length : Int) - 15).toNat = u.length - 15 := by omega
              have i2 : ((u.length : Int) - 2).toNat = u.length - 2 := by omega
              have i3 : ((u.length : Int) - 16).toNat = u.length - 16 := by omega
              have i4 : ((u.length : Int) - 7).toNat = u.length - 7 := by omega
              have ub : ∀ x ∈ u, 0 ≤ x ∧ x < 4294967296 := by
                rw [u2]
                exact sched_mem t (64 * m) hb2 _
              obtain ⟨a, ha⟩ : ∃ a, u[u.length - 15]? = some a := ⟨_, List.getElem?_eq_getElem (by omega)⟩
              obtain ⟨b, hb⟩ : ∃ b, u[u.length - 2]? = some b := ⟨_, List.getElem?_eq_getElem (by omega)⟩
              obtain ⟨c, hc⟩ : ∃ c, u[u.length - 16]? = some c := ⟨_, List.getElem?_eq_getElem (by omega)⟩
              obtain ⟨d, hd⟩ : ∃ d, u[u.length - 7]? = some d := ⟨_, List.getElem?_eq_getElem (by omega)⟩
              have ba := ub a (List.mem_of_getElem? ha)
              have bb := ub b (List.mem_of_getElem? hb)
              have bc := ub c (List.mem_of_getElem? hc)
              have bd := ub d (List.mem_of_getElem? hd)
              refine AWP.sR gok [2, 4, 5, 7, 10, 11, 14, 15] (by apply aops_mv (t := 11) (d := 129) (ag_n rfl) rfl rfl (by first | (simp only [look_lay, look, seval] <;> rfl) | fail) rfl; apply aops_mv (t := 14) (d := 130) (ag_n rfl) rfl rfl (by first | (simp only [look_lay, look, seval] <;> rfl) | fail) rfl; apply aops_x (d := 131) (ag_n rfl) rfl (by first | (simp (disch := decide) only [i1, ha, go_sem, seval] <;> rfl) | (simp (disch := first | decide | omega) only [if_pos, nws, i1, ha, go_sem, seval] <;> rfl)) rfl; apply aops_x (d := 132) (ag_n rfl) rfl (by (simp (disch := first | decide | omega) only [if_pos, nws, i1, ha, go_sem, seval] <;> rfl)) rfl; apply aops_x (d := 133) (ag_n rfl) rfl (by first | (simp (disch := decide) only [i1, ha, go_sem, seval] <;> rfl) | (simp (disch := first | decide | omega) only [if_pos, nws, i1, ha, go_sem, seval] <;> rfl)) rfl; apply aops_as (t := 133) (d := 15) (ag_n rfl) rfl rfl (by first | (simp only [look_lay, look, seval] <;> rfl) | fail) rfl; apply aops_end; rfl) (by (simp (disch := omega) only [go_sem, seval, lay, nws]); rfl) ?_
              refine AWP.sR gok [2, 4, 5, 7, 10, 11, 14, 15, 16] (by apply aops_mv (t := 11) (d := 134) (ag_n rfl) rfl rfl (by first | (simp only [look_lay, look, seval] <;> rfl) | fail) rfl; apply aops_mv (t := 14) (d := 135) (ag_n rfl) rfl rfl (by first | (simp only [look_lay, look, seval] <;> rfl) | fail) rfl; apply aops_x (d := 136) (ag_n rfl) rfl (by first | (simp (disch := decide) only [i2, hb, go_sem, seval] <;> rfl) | (simp (disch := first | decide | omega) only [if_pos, nws, i2, hb, go_sem, seval] <;> rfl)) rfl; apply aops_x (d := 137) (ag_n rfl) rfl (by (simp (disch := first | decide | omega) only [if_pos, nws, i2, hb, go_sem, seval] <;> rfl)) rfl; apply aops_x (d := 138) (ag_n rfl) rfl (by first | (simp (disch := decide) only [i2, hb, go_sem, seval] <;> rfl) | (simp (disch := first | decide | omega) only [if_pos, nws, i2, hb, go_sem, seval] <;> rfl)) rfl; apply aops_as (t := 138) (d := 16) (ag_n rfl) rfl rfl (by first | (simp only [look_lay, look, seval] <;> rfl) | fail) rfl; apply aops_end; rfl) (by (simp (disch := omega) only [go_sem, seval, lay, nws]); rfl) ?_
              refine AWP.dT gok (by kernel_rfl) [2, 4, 5, 7, 10, 11, 14] [⟨[], true, 0⟩, ⟨[], true, 0⟩, ⟨[], true, 0⟩, ⟨[], true, 0⟩, ⟨[], true, 0⟩, ⟨[4], true, 0⟩, ⟨[], true, 0⟩, ⟨[], true, 0⟩, ⟨[], true, 0⟩, ⟨[], true, 0⟩, ⟨[4], true, 0⟩, ⟨[], true, 0⟩, ⟨[], true, 0⟩, ⟨[], true, 0⟩, ⟨[], true, 0⟩, ⟨[], true, 0⟩, ⟨[], true, 0⟩, ⟨[], true, 0⟩, ⟨[], true, 0⟩, ⟨[], true, 0⟩, ⟨[], true, 0⟩, ⟨[], true, 0⟩, ⟨[], true, 0⟩, ⟨[], true, 0⟩, ⟨[], true, 0⟩, ⟨[], true, 0⟩, ⟨[], true, 0⟩, ⟨[], true, 0⟩, ⟨[], true, 0⟩, ⟨[], true, 0⟩, ⟨[], true, 1⟩, ⟨[4, 5], false, 1⟩, ⟨[], true, 0⟩] (by kernel_rfl) (by first | rfl | simp only [go_sem, ↓reduceIte, Nat.reduceLT, Nat.reduceAdd]) (by first | rfl | simp only [go_sem, ↓reduceIte, Nat.reduceLT, Nat.reduceAdd]) (by (repeat (first | apply arun_step (by first | exact ag_n rfl | exact ag_b rfl rfl rfl (by first | (simp only [look_lay, look, seval] <;> rfl) | fail) (by first | rfl | (simp only [i3, i4, hc, hd, decide_true, decide_false] <;> rfl) | fail) | fail) (by first | (simp (disch := decide) only [i3, i4, hc, hd, go_sem, seval]; rfl) | (simp (disch := first | decide | omega) only [if_pos, nws, i3, i4, hc, hd, go_sem, seval]; rfl)) (by first | (intro h; cases h; done) | (intro _; rfl) | (intro _; simp only [go_sem, seval, lay])) (by first | rfl | simp only [go_sem, seval, lay]) (by first | rfl | simp only [go_sem, seval, lay]) (by first | rfl | simp only [go_sem, seval, lay]) (by simp only [go_sem, seval, lay]; rfl) | apply arun_pass (by first | exact ag_f rfl rfl rfl (by first | (simp only [look_lay, look, seval] <;> rfl) | fail) (by first | rfl | (simp only [i3, i4, hc, hd, decide_true, decide_false] <;> rfl) | fail) | exact ag_u rfl rfl rfl (by first | (simp only [look_lay, look, seval] <;> rfl) | fail) | fail) rfl (by simp only [go_sem, seval, lay]; rfl))); exact rfl) (by (simp (disch := omega) only [go_sem, seval, lay, nws]); rfl) ?_
              change AWP _ _ _ _ _
              refine AWP.rT gok [2, 4, 5, 7, 10, 11, 14] (by apply aops_mv (t := 14) (d := 127) (ag_n rfl) rfl rfl (by first | (simp only [look_lay, look, seval] <;> rfl) | fail) rfl; apply aops_x (d := 128) (ag_n rfl) rfl (by first | (simp (disch := decide) only [go_sem, seval] <;> rfl) | (simp (disch := first | decide | omega) only [if_pos, nws, go_sem, seval] <;> rfl)) rfl; apply aops_as (t := 128) (d := 14) (ag_n rfl) rfl rfl (by first | (simp only [look_lay, look, seval] <;> rfl) | fail) rfl; apply aops_end; rfl) (by (simp (disch := omega) only [go_sem, seval, lay, nws]); rfl) ?_
              have en := next_ge (t.drop (64 * m)) u u.length a b c d (by omega) ha hb hc hd ba bb
              refine ⟨u ++ [Sha.next (t.drop (64 * m)) u u.length], Ghost.trans (Ghost.gc (ρ := [0, 1, 2, 3, 6]) (by simp only [go_sem, seval] <;> rfl) rfl rfl rfl) (Ghost.of_eq (by rw [en]; simp only [List.length_append, List.length_cons, List.length_nil] <;> rfl)), ⟨⟨by simp only [List.length_append, List.length_cons, List.length_nil]; omega, by simp only [List.length_append, List.length_cons, List.length_nil]; omega⟩, ?_⟩, by simp only [List.length_append, List.length_cons, List.length_nil]; omega⟩
              rw [List.length_append]
              show _ = Sha.sched (t.drop (64 * m)) u.length ++ [Sha.next (t.drop (64 * m)) (Sha.sched (t.drop (64 * m)) u.length) u.length]
              rw [← u2]
            · skip
              refine AWP.exit ?_
              change AWP _ _ _ _ _
              have u3 : u.length = 64 := by omega
              rw [u3] at u2
              have u_ok : ∀ x ∈ u, 0 ≤ x ∧ x < 4294967296 := by rw [u2]; exact sched_mem t (64 * m) hb2 _
              refine AWP.sR gok [2, 4, 5, 7, 10, 11, 17] (by apply aops_x (d := 171) (ag_n rfl) rfl (by (simp (disch := first | decide | omega) only [if_pos, nws, go_sem, seval] <;> rfl)) rfl; apply aops_mv (t := 4) (d := 172) (ag_n rfl) rfl rfl (by first | (simp only [look_lay, look, seval] <;> rfl) | fail) rfl; apply aops_x (d := 173) (ag_n rfl) rfl (by (simp (disch := first | decide | omega) only [if_pos, nws, go_sem, seval] <;> rfl)) rfl; apply aops_as (t := 173) (d := 17) (ag_n rfl) rfl rfl (by first | (simp only [look_lay, look, seval] <;> rfl) | fail) rfl; apply aops_end; rfl) (by (simp (disch := omega) only [go_sem, seval, lay, nws]); rfl) ?_
              refine AWP.seq ?_
              refine AWP.sR gok [2, 4, 5, 7, 10, 11, 17, 18] (by apply aops_x (d := 18) (ag_n rfl) rfl (by first | (simp (disch := decide) only [go_sem, seval] <;> rfl) | (simp (disch := first | decide | omega) only [if_pos, nws, go_sem, seval] <;> rfl)) rfl; apply aops_end; rfl) (by (simp (disch := omega) only [go_sem, seval, lay, nws]); rfl) ?_
              refine AWP.block ?_
              refine AWP.loopP (fun (p : Nat × List Int) => ⟨312, [(2, .c (.ptr 0 0 1 0)), (4, .c (.sl 1 0 8 1)), (5, .c (.sl 2 0 64 1)), (7, .c (.sl 3 0 t.length 1)), (10, .c (ci .i64 (64 * (m : Int)))), (11, .c (.sl 4 0 64 1)), (17, .c (.sl 5 0 8 1)), (18, .c (ci .i64 (p.1 : Int)))], [some (.ty (.i .u8) (List.replicate 32 0)), some (.ty (.i .u32) g), some (.ty (.i .u32) Sha.rounds), some (.ty (.i .u8) t), some (.ty (.i .u32) u), some (.ty (.i .u32) p.2)]⟩) (fun p => p.1 ≤ 64 ∧ p.2 = Sha.mixed g u Sha.rounds p.1) (fun p => 64 - p.1) (0, g) (Ghost.trans (Ghost.gc (ρ := [0, 1, 2, 3, 4, 6]) (by simp only [go_sem, seval] <;> rfl) rfl rfl rfl) (Ghost.of_eq (by simp only [hh, u3] <;> rfl))) ⟨Nat.zero_le _, rfl⟩ ?_
              rintro ⟨n, s⟩ ⟨n1, n2⟩
              simp only at n1 n2 ⊢
              have sb : ∀ x ∈ s, 0 ≤ x ∧ x < 4294967296 := by rw [n2]; exact Sha.mixed_bound g u Sha.rounds hhb n
              have sl : s.length = 8 := by rw [n2]; exact Sha.mixed_length g u Sha.rounds hh n
              obtain ⟨s0, s1, s2, s3, s4, s5, s6, s7, rfl⟩ := eight s sl
              refine AWP.seq ?_
              refine AWP.sR gok [2, 4, 5, 7, 10, 11, 17, 18, 175] (by apply aops_mv (t := 18) (d := 174) (ag_n rfl) rfl rfl (by first | (simp only [look_lay, look, seval] <;> rfl) | fail) rfl; apply aops_x (d := 175) (ag_n rfl) rfl (by first | (simp (disch := decide) only [go_sem, seval] <;> rfl) | (simp (disch := first | decide | omega) only [if_pos, nws, go_sem, seval] <;> rfl)) rfl; apply aops_end; rfl) (by (simp (disch := omega) only [go_sem, seval, lay, nws]); rfl) ?_
              refine AWP.cond (b := _) rfl (fun h => ?_) (fun h => ?_) <;> (try simp only [decide_eq_true_eq, decide_eq_false_iff_not] at h)
              · skip
                refine AWP.skip ?_
                change AWP _ _ _ _ _
                refine AWP.seqBlock ?_
                obtain ⟨x, hx1⟩ : ∃ x, Sha.rounds[n]? = some x := ⟨_, List.getElem?_eq_getElem (by have : Sha.rounds.length = 64 := rfl; omega)⟩
                obtain ⟨y, hy1⟩ : ∃ y, u[n]? = some y := ⟨_, List.getElem?_eq_getElem (by omega)⟩
                have xb := rounds_ok x (List.mem_of_getElem? hx1)
                have yb := u_ok y (List.mem_of_getElem? hy1)
                have b0 := sb s0 (by simp)
                have b1 := sb s1 (by simp)
                have b2 := sb s2 (by simp)
                have b3 := sb s3 (by simp)
                have b4 := sb s4 (by simp)
                have b5 := sb s5 (by simp)
                have b6 := sb s6 (by simp)
                have b7 := sb s7 (by simp)
                refine AWP.sR gok [2, 4, 5, 7, 10, 11, 17, 18, 19] (by apply aops_mv (t := 17) (d := 178) (ag_n rfl) rfl rfl (by first | (simp only [look_lay, look, seval] <;> rfl) | fail) rfl; apply aops_x (d := 179) (ag_n rfl) rfl (by (simp (disch := first | decide | omega) only [if_pos, nws, go_sem, seval] <;> rfl)) rfl; apply aops_x (d := 180) (ag_n rfl) rfl (by first | (simp (disch := decide) only [go_sem, seval] <;> rfl) | (simp (disch := first | decide | omega) only [if_pos, nws, go_sem, seval] <;> rfl)) rfl; apply aops_as (t := 180) (d := 19) (ag_n rfl) rfl rfl (by first | (simp only [look_lay, look, seval] <;> rfl) | fail) rfl; apply aops_end; rfl) (by (simp (disch := omega) only [go_sem, seval, lay, nws]); rfl) ?_
                refine AWP.sR gok [2, 4, 5, 7, 10, 11, 17, 18, 19, 20] (by apply aops_mv (t := 17) (d := 181) (ag_n rfl) rfl rfl (by first | (simp only [look_lay, look, seval] <;> rfl) | fail) rfl; apply aops_x (d := 182) (ag_n rfl) rfl (by (simp (disch := first | decide | omega) only [if_pos, nws, go_sem, seval] <;> rfl)) rfl; apply aops_x (d := 183) (ag_n rfl) rfl (by first | (simp (disch := decide) only [go_sem, seval] <;> rfl) | (simp (disch := first | decide | omega) only [if_pos, nws, go_sem, seval] <;> rfl)) rfl; apply aops_as (t := 183) (d := 20) (ag_n rfl) rfl rfl (by first | (simp only [look_lay, look, seval] <;> rfl) | fail) rfl; apply aops_end; rfl) (by (simp (disch := omega) only [go_sem, seval, lay, nws]); rfl) ?_
                refine AWP.sD gok (by kernel_rfl) [2, 4, 5, 7, 10, 11, 17, 18, 20, 21] [⟨[], true, 0⟩, ⟨[], true, 0⟩, ⟨[5], true, 0⟩, ⟨[], true, 0⟩, ⟨[], true, 0⟩, ⟨[], true, 0⟩, ⟨[], true, 0⟩, ⟨[], true, 0⟩, ⟨[], true, 0⟩, ⟨[], true, 0⟩, ⟨[], true, 0⟩, ⟨[], true, 0⟩, ⟨[], true, 0⟩, ⟨[], true, 0⟩, ⟨[], true, 0⟩, ⟨[5], true, 0⟩, ⟨[], true, 0⟩, ⟨[], true, 0⟩, ⟨[], true, 0⟩, ⟨[], true, 0⟩, ⟨[], true, 0⟩, ⟨[5], true, 0⟩, ⟨[], true, 0⟩, ⟨[], true, 0⟩, ⟨[], true, 0⟩, ⟨[], true, 0⟩, ⟨[], true, 0⟩, ⟨[], true, 0⟩, ⟨[2], true, 0⟩, ⟨[], true, 0⟩, ⟨[], true, 0⟩, ⟨[], true, 0⟩, ⟨[], true, 0⟩, ⟨[4], true, 0⟩, ⟨[], true, 0⟩, ⟨[], true, 0⟩] (by kernel_rfl) (by first | rfl | simp only [go_sem, ↓reduceIte, Nat.reduceLT, Nat.reduceAdd]) (by first | rfl | simp only [go_sem, ↓reduceIte, Nat.reduceLT, Nat.reduceAdd]) (by (repeat (first | apply arun_step (by first | exact ag_n rfl | exact ag_b rfl rfl rfl (by first | (simp only [look_lay, look, seval] <;> rfl) | fail) (by first | rfl | (simp only [hx1, hy1, decide_true, decide_false] <;> rfl) | fail) | fail) (by first | (simp (disch := decide) only [hx1, hy1, go_sem, seval]; rfl) | (simp (disch := first | decide | omega) only [if_pos, nws, hx1, hy1, go_sem, seval]; rfl)) (by first | (intro h; cases h; done) | (intro _; rfl) | (intro _; simp only [go_sem, seval, lay])) (by first | rfl | simp only [go_sem, seval, lay]) (by first | rfl | simp only [go_sem, seval, lay]) (by first | rfl | simp only [go_sem, seval, lay]) (by simp only [go_sem, seval, lay]; rfl) | apply arun_pass (by first | exact ag_f rfl rfl rfl (by first | (simp only [look_lay, look, seval] <;> rfl) | fail) (by first | rfl | (simp only [hx1, hy1, decide_true, decide_false] <;> rfl) | fail) | exact ag_u rfl rfl rfl (by first | (simp only [look_lay, look, seval] <;> rfl) | fail) | fail) rfl (by simp only [go_sem, seval, lay]; rfl))); exact rfl) (by (simp (disch := omega) only [go_sem, seval, lay, nws]); rfl) ?_
                refine AWP.sD gok (by kernel_rfl) [2, 4, 5, 7, 10, 11, 17, 18, 21, 22] [⟨[], true, 0⟩, ⟨[], true, 0⟩, ⟨[], true, 0⟩, ⟨[], true, 0⟩, ⟨[], true, 0⟩, ⟨[], true, 0⟩, ⟨[], true, 0⟩, ⟨[], true, 0⟩, ⟨[], true, 0⟩, ⟨[], true, 0⟩, ⟨[], true, 0⟩, ⟨[5], true, 0⟩, ⟨[], true, 0⟩, ⟨[], true, 0⟩, ⟨[], true, 0⟩, ⟨[], true, 0⟩, ⟨[5], true, 0⟩, ⟨[], true, 0⟩, ⟨[], true, 0⟩, ⟨[], true, 0⟩, ⟨[], true, 0⟩, ⟨[5], true, 0⟩, ⟨[], true, 0⟩, ⟨[], true, 0⟩, ⟨[5], true, 0⟩, ⟨[], true, 0⟩, ⟨[], true, 0⟩, ⟨[], true, 0⟩, ⟨[], true, 0⟩] (by kernel_rfl) (by first | rfl | simp only [go_sem, ↓reduceIte, Nat.reduceLT, Nat.reduceAdd]) (by first | rfl | simp only [go_sem, ↓reduceIte, Nat.reduceLT, Nat.reduceAdd]) (by (repeat (first | apply arun_step (by first | exact ag_n rfl | exact ag_b rfl rfl rfl (by first | (simp only [look_lay, look, seval] <;> rfl) | fail) (by first | rfl | (simp only [decide_true, decide_false] <;> rfl) | fail) | fail) (by first | (simp (disch := decide) only [go_sem, seval]; rfl) | (simp (disch := first | decide | omega) only [if_pos, nws, go_sem, seval]; rfl)) (by first | (intro h; cases h; done) | (intro _; rfl) | (intro _; simp only [go_sem, seval, lay])) (by first | rfl | simp only [go_sem, seval, lay]) (by first | rfl | simp only [go_sem, seval, lay]) (by first | rfl | simp only [go_sem, seval, lay]) (by simp only [go_sem, seval, lay]; rfl) | apply arun_pass (by first | exact ag_f rfl rfl rfl (by first | (simp only [look_lay, look, seval] <;> rfl) | fail) (by first | rfl | (simp only [decide_true, decide_false] <;> rfl) | fail) | exact ag_u rfl rfl rfl (by first | (simp only [look_lay, look, seval] <;> rfl) | fail) | fail) rfl (by simp only [go_sem, seval, lay]; rfl))); exact rfl) (by (simp (disch := omega) only [go_sem, seval, lay, nws]); rfl) ?_
                refine AWP.dT gok (by kernel_rfl) [2, 4, 5, 7, 10, 11, 17, 18] [⟨[], true, 0⟩, ⟨[], true, 0⟩, ⟨[], true, 0⟩, ⟨[], true, 0⟩, ⟨[], true, 0⟩, ⟨[5], true, 0⟩, ⟨[], true, 0⟩, ⟨[], true, 0⟩, ⟨[5], true, 0⟩, ⟨[], true, 0⟩, ⟨[], true, 0⟩, ⟨[5], true, 0⟩, ⟨[], true, 0⟩, ⟨[], true, 0⟩, ⟨[5], true, 0⟩, ⟨[], true, 0⟩, ⟨[], true, 0⟩, ⟨[], true, 0⟩, ⟨[], true, 0⟩, ⟨[5], true, 0⟩, ⟨[], true, 0⟩, ⟨[], true, 0⟩, ⟨[5], true, 0⟩, ⟨[], true, 0⟩, ⟨[], true, 0⟩, ⟨[5], true, 0⟩, ⟨[], true, 1⟩, ⟨[], true, 0⟩] (by kernel_rfl) (by first | rfl | simp only [go_sem, ↓reduceIte, Nat.reduceLT, Nat.reduceAdd]) (by first | rfl | simp only [go_sem, ↓reduceIte, Nat.reduceLT, Nat.reduceAdd]) (by (repeat (first | apply arun_step (by first | exact ag_n rfl | exact ag_b rfl rfl rfl (by first | (simp only [look_lay, look, seval] <;> rfl) | fail) (by first | rfl | (simp only [decide_true, decide_false] <;> rfl) | fail) | fail) (by first | (simp (disch := decide) only [go_sem, seval]; rfl) | (simp (disch := first | decide | omega) only [if_pos, nws, go_sem, seval]; rfl)) (by first | (intro h; cases h; done) | (intro _; rfl) | (intro _; simp only [go_sem, seval, lay])) (by first | rfl | simp only [go_sem, seval, lay]) (by first | rfl | simp only [go_sem, seval, lay]) (by first | rfl | simp only [go_sem, seval, lay]) (by simp only [go_sem, seval, lay]; rfl) | apply arun_pass (by first | exact ag_f rfl rfl rfl (by first | (simp only [look_lay, look, seval] <;> rfl) | fail) (by first | rfl | (simp only [decide_true, decide_false] <;> rfl) | fail) | exact ag_u rfl rfl rfl (by first | (simp only [look_lay, look, seval] <;> rfl) | fail) | fail) rfl (by simp only [go_sem, seval, lay]; rfl))); exact rfl) (by (simp (disch := omega) only [go_sem, seval, lay, nws]); rfl) ?_
                change AWP _ _ _ _ _
                refine AWP.rT gok [2, 4, 5, 7, 10, 11, 17, 18] (by apply aops_mv (t := 18) (d := 176) (ag_n rfl) rfl rfl (by first | (simp only [look_lay, look, seval] <;> rfl) | fail) rfl; apply aops_x (d := 177) (ag_n rfl) rfl (by first | (simp (disch := decide) only [go_sem, seval] <;> rfl) | (simp (disch := first | decide | omega) only [if_pos, nws, go_sem, seval] <;> rfl)) rfl; apply aops_as (t := 177) (d := 18) (ag_n rfl) rfl rfl (by first | (simp only [look_lay, look, seval] <;> rfl) | fail) rfl; apply aops_end; rfl) (by (simp (disch := omega) only [go_sem, seval, lay, nws]); rfl) ?_
                have en := step_turn s0 s1 s2 s3 s4 s5 s6 s7 x y b0 b4
                refine ⟨(n + 1, Sha.step [s0, s1, s2, s3, s4, s5, s6, s7] x y), Ghost.trans (Ghost.gc (ρ := [0, 1, 2, 3, 4, 6]) (by simp only [go_sem, seval] <;> rfl) rfl rfl rfl) (Ghost.of_eq (by rw [en]; rfl)), ⟨by simp only; omega, ?_⟩, by simp only; omega⟩
                show _ = Sha.step (Sha.mixed g u Sha.rounds n) (Sha.rounds.getD n 0) (u.getD n 0)
                rw [← n2, getD_of hx1, getD_of hy1]
              · skip
                refine AWP.exit ?_
                change AWP _ _ _ _ _
                have n3 : n = 64 := by omega
                rw [n3] at n2
                generalize es : [s0, s1, s2, s3, s4, s5, s6, s7] = s at sb sl n2 ⊢
                refine AWP.sR gok [2, 4, 5, 7, 10, 17, 275, 276] (by apply aops_mv (t := 4) (d := 274) (ag_n rfl) rfl rfl (by first | (simp only [look_lay, look, seval] <;> rfl) | fail) rfl; apply aops_x (d := 275) (ag_n rfl) rfl (by first | (simp (disch := decide) only [go_sem, seval] <;> rfl) | (simp (disch := first | decide | omega) only [if_pos, nws, go_sem, seval] <;> rfl)) rfl; apply aops_x (d := 276) (ag_n rfl) rfl (by first | (simp (disch := decide) only [go_sem, seval] <;> rfl) | (simp (disch := first | decide | omega) only [if_pos, nws, go_sem, seval] <;> rfl)) rfl; apply aops_end; rfl) (by (simp (disch := omega) only [go_sem, seval, lay, nws]); rfl) ?_
                refine AWP.block ?_
                refine AWP.loopP (fun (p : Nat × List Int) => ⟨312, [(2, .c (.ptr 0 0 1 0)), (4, .c (.sl 1 0 8 1)), (5, .c (.sl 2 0 64 1)), (7, .c (.sl 3 0 t.length 1)), (10, .c (ci .i64 (64 * (m : Int)))), (17, .c (.sl 4 0 8 1)), (275, .c (ci .i64 8)), (276, .c (ci .i64 (p.1 : Int)))], [some (.ty (.i .u8) (List.replicate 32 0)), some (.ty (.i .u32) p.2), some (.ty (.i .u32) Sha.rounds), some (.ty (.i .u8) t), some (.ty (.i .u32) s)]⟩) (fun p => p.1 ≤ 8 ∧ p.2 = Sha.adds g s p.1) (fun p => 8 - p.1) (0, g) (Ghost.trans (Ghost.gc (ρ := [0, 1, 2, 3, 5]) (by simp only [go_sem, seval] <;> rfl) rfl rfl rfl) (Ghost.of_eq (by simp only [hh, sl] <;> rfl))) ⟨Nat.zero_le _, rfl⟩ ?_
                rintro ⟨i, a⟩ ⟨i1, i2⟩
                simp only at i1 i2 ⊢
                refine AWP.sR gok [2, 4, 5, 7, 10, 17, 275, 276, 277] (by apply aops_x (d := 277) (ag_n rfl) rfl (by first | (simp (disch := decide) only [go_sem, seval] <;> rfl) | (simp (disch := first | decide | omega) only [if_pos, nws, go_sem, seval] <;> rfl)) rfl; apply aops_end; rfl) (by (simp (disch := omega) only [go_sem, seval, lay, nws]); rfl) ?_
                refine AWP.seq ?_
                refine AWP.cond (b := _) rfl (fun h => ?_) (fun h => ?_) <;> (try simp only [decide_eq_true_eq, decide_eq_false_iff_not] at h)
                · skip
                  refine AWP.skip ?_
                  change AWP _ _ _ _ _
                  refine AWP.seqBlock ?_
                  have i3 : i < 8 := by omega
                  have al : a.length = 8 := by rw [i2, Sha.adds_length, hh]
                  obtain ⟨x, hx1⟩ : ∃ x, a[i]? = some x := ⟨_, List.getElem?_eq_getElem (by omega)⟩
                  obtain ⟨y, hy1⟩ : ∃ y, s[i]? = some y := ⟨_, List.getElem?_eq_getElem (by omega)⟩
                  refine AWP.sR gok [2, 4, 5, 7, 10, 17, 23, 275, 276] (by apply aops_mv (t := 276) (d := 278) (ag_n rfl) rfl rfl (by first | (simp only [look_lay, look, seval] <;> rfl) | fail) rfl; apply aops_as (t := 278) (d := 23) (ag_n rfl) rfl rfl (by first | (simp only [look_lay, look, seval] <;> rfl) | fail) rfl; apply aops_end; rfl) (by (simp (disch := omega) only [go_sem, seval, lay, nws]); rfl) ?_
                  refine AWP.dT gok (by kernel_rfl) [2, 4, 5, 7, 10, 17, 275, 276] [⟨[], true, 0⟩, ⟨[], true, 0⟩, ⟨[], true, 0⟩, ⟨[], true, 0⟩, ⟨[], true, 0⟩, ⟨[1], true, 0⟩, ⟨[], true, 0⟩, ⟨[], true, 0⟩, ⟨[], true, 0⟩, ⟨[4], true, 0⟩, ⟨[], true, 0⟩, ⟨[], true, 0⟩, ⟨[1], false, 0⟩] (by kernel_rfl) (by first | rfl | simp only [go_sem, ↓reduceIte, Nat.reduceLT, Nat.reduceAdd]) (by first | rfl | simp only [go_sem, ↓reduceIte, Nat.reduceLT, Nat.reduceAdd]) (by (repeat (first | apply arun_step (by first | exact ag_n rfl | exact ag_b rfl rfl rfl (by first | (simp only [look_lay, look, seval] <;> rfl) | fail) (by first | rfl | (simp only [hx1, hy1, decide_true, decide_false] <;> rfl) | fail) | fail) (by first | (simp (disch := decide) only [hx1, hy1, go_sem, seval]; rfl) | (simp (disch := first | decide | omega) only [if_pos, nws, hx1, hy1, go_sem, seval]; rfl)) (by first | (intro h; cases h; done) | (intro _; rfl) | (intro _; simp only [go_sem, seval, lay])) (by first | rfl | simp only [go_sem, seval, lay]) (by first | rfl | simp only [go_sem, seval, lay]) (by first | rfl | simp only [go_sem, seval, lay]) (by simp only [go_sem, seval, lay]; rfl) | apply arun_pass (by first | exact ag_f rfl rfl rfl (by first | (simp only [look_lay, look, seval] <;> rfl) | fail) (by first | rfl | (simp only [hx1, hy1, decide_true, decide_false] <;> rfl) | fail) | exact ag_u rfl rfl rfl (by first | (simp only [look_lay, look, seval] <;> rfl) | fail) | fail) rfl (by simp only [go_sem, seval, lay]; rfl))); exact rfl) (by (simp (disch := omega) only [go_sem, seval, lay, nws]); rfl) ?_
                  change AWP _ _ _ _ _
                  refine AWP.rT gok [2, 4, 5, 7, 10, 17, 275, 276] (by apply aops_x (d := 291) (ag_n rfl) rfl (by first | (simp (disch := decide) only [go_sem, seval] <;> rfl) | (simp (disch := first | decide | omega) only [if_pos, nws, go_sem, seval] <;> rfl)) rfl; apply aops_mv (t := 291) (d := 276) (ag_n rfl) rfl rfl (by first | (simp only [look_lay, look, seval] <;> rfl) | fail) rfl; apply aops_end; rfl) (by (simp (disch := omega) only [go_sem, seval, lay, nws]); rfl) ?_
                  refine ⟨(i + 1, Sha.adds g s (i + 1)), Ghost.of_eq (by rw [← adds_step g s a i x y i2 hx1 hy1]; rfl), ⟨by simp only; omega, rfl⟩, by simp only; omega⟩
                · skip
                  refine AWP.exit ?_
                  change AWP _ _ _ _ _
                  refine AWP.rT gok [2, 4, 5, 7, 10] (by apply aops_mv (t := 10) (d := 83) (ag_n rfl) rfl rfl (by first | (simp only [look_lay, look, seval] <;> rfl) | fail) rfl; apply aops_x (d := 84) (ag_n rfl) rfl (by first | (simp (disch := decide) only [go_sem, seval] <;> rfl) | (simp (disch := first | decide | omega) only [if_pos, nws, go_sem, seval] <;> rfl)) rfl; apply aops_as (t := 84) (d := 10) (ag_n rfl) rfl rfl (by first | (simp only [look_lay, look, seval] <;> rfl) | fail) rfl; apply aops_end; rfl) (by (simp (disch := omega) only [go_sem, seval, lay, nws]); rfl) ?_
                  have i8 : i = 8 := by omega
                  have ea : a = Sha.hashes t (m + 1) := by
                    show a = Sha.add (Sha.mixed (Sha.hashes t m) (Sha.sched (t.drop (64 * m)) 64) Sha.rounds 64) (Sha.hashes t m)
                    rw [i2, i8, Sha.adds_eight g s hh, add_turned, eH, ← u2, ← n2]
                  refine ⟨m + 1, Ghost.trans (Ghost.gc (ρ := [0, 1, 2, 3]) (by simp only [go_sem, seval] <;> rfl) rfl rfl rfl) (Ghost.of_eq (by rw [ea, show (64 * (m : Int) + 64) = 64 * ((m + 1 : Nat) : Int) by omega]; rfl)), by omega, by omega⟩
        · skip
          refine AWP.exit ?_
          change AWP _ _ _ _ _
          refine AWP.sR gok [2, 4, 24] (by apply aops_x (d := 292) (ag_n rfl) rfl (by first | (simp (disch := decide) only [go_sem, seval] <;> rfl) | (simp (disch := first | decide | omega) only [if_pos, nws, go_sem, seval] <;> rfl)) rfl; apply aops_x (d := 24) (ag_n rfl) rfl (by first | (simp (disch := decide) only [go_sem, seval] <;> rfl) | (simp (disch := first | decide | omega) only [if_pos, nws, go_sem, seval] <;> rfl)) rfl; apply aops_s (ag_n rfl) rfl (by first | (simp (disch := decide) only [go_sem, seval] <;> rfl) | (simp (disch := first | decide | omega) only [if_pos, nws, go_sem, seval] <;> rfl)); apply aops_end; rfl) (by (simp (disch := omega) only [go_sem, seval, lay, nws]); rfl) ?_
          refine AWP.seq ?_
          refine AWP.sR gok [2, 4, 24, 293] (by apply aops_x (d := 293) (ag_n rfl) rfl (by first | (simp (disch := decide) only [go_sem, seval] <;> rfl) | (simp (disch := first | decide | omega) only [if_pos, nws, go_sem, seval] <;> rfl)) rfl; apply aops_end; rfl) (by (simp (disch := omega) only [go_sem, seval, lay, nws]); rfl) ?_
          refine AWP.block ?_
          refine AWP.loopP (fun (p : Nat × List Int) => ⟨312, [(2, .c (.ptr 0 0 1 0)), (4, .c (.sl 1 0 8 1)), (24, .c (.ptr 2 0 1 0)), (293, .c (ci .i64 (p.1 : Int)))], [some (.ty (.i .u8) (List.replicate 32 0)), some (.ty (.i .u32) (Sha.hashes t m)), some (.ty (.i .u8) p.2)]⟩) (fun p => p.1 ≤ 32 ∧ p.2 = Sha.pad (Sha.outs (Sha.hashes t m) p.1) 32) (fun p => 32 - p.1) (0, List.replicate 32 0) (Ghost.trans (Ghost.gc (ρ := [0, 1, 4]) (by simp only [go_sem, seval] <;> rfl) rfl rfl rfl) (Ghost.of_eq (by simp only [hh] <;> rfl))) ⟨Nat.zero_le _, rfl⟩ ?_
          rintro ⟨q, o⟩ ⟨q1, q2⟩
          simp only at q1 q2 ⊢
          refine AWP.sR gok [2, 4, 24, 293, 294] (by apply aops_x (d := 294) (ag_n rfl) rfl (by first | (simp (disch := decide) only [go_sem, seval] <;> rfl) | (simp (disch := first | decide | omega) only [if_pos, nws, go_sem, seval] <;> rfl)) rfl; apply aops_end; rfl) (by (simp (disch := omega) only [go_sem, seval, lay, nws]); rfl) ?_
          refine AWP.seq ?_
          refine AWP.cond (b := _) rfl (fun h => ?_) (fun h => ?_) <;> (try simp only [decide_eq_true_eq, decide_eq_false_iff_not] at h)
          · skip
            refine AWP.skip ?_
            change AWP _ _ _ _ _
            refine AWP.seqBlock ?_
            have q3 : q < 32 := by omega
            have j1 : (((q : Int) / 4)).toNat = q / 4 := by omega
            have j2 : ((24 : Int) - 8 * ((q : Int) % 4)).toNat = 24 - 8 * (q % 4) := by omega
            obtain ⟨x, hx1⟩ : ∃ x, (Sha.hashes t m)[q / 4]? = some x := ⟨_, List.getElem?_eq_getElem (by omega)⟩
            have ol : o.length = 32 := by rw [q2]; exact Sha.pad_length _ _ (by rw [Sha.outs_length]; omega)
            refine AWP.sR gok [2, 4, 24, 25, 293] (by apply aops_mv (t := 293) (d := 295) (ag_n rfl) rfl rfl (by first | (simp only [look_lay, look, seval] <;> rfl) | fail) rfl; apply aops_as (t := 295) (d := 25) (ag_n rfl) rfl rfl (by first | (simp only [look_lay, look, seval] <;> rfl) | fail) rfl; apply aops_end; rfl) (by (simp (disch := omega) only [go_sem, seval, lay, nws]); rfl) ?_
            refine AWP.rT gok [2, 4, 24, 293] (by apply aops_mv (t := 25) (d := 296) (ag_n rfl) rfl rfl (by first | (simp only [look_lay, look, seval] <;> rfl) | fail) rfl; apply aops_mv (t := 4) (d := 297) (ag_n rfl) rfl rfl (by first | (simp only [look_lay, look, seval] <;> rfl) | fail) rfl; apply aops_mv (t := 25) (d := 298) (ag_n rfl) rfl rfl (by first | (simp only [look_lay, look, seval] <;> rfl) | fail) rfl; apply aops_x (d := 299) (ag_n rfl) rfl (by (simp (disch := first | decide | omega) only [if_pos, nws, j1, j2, hx1, ol, go_sem, seval] <;> rfl)) rfl; apply aops_x (d := 300) (ag_n rfl) rfl (by (simp (disch := first | decide | omega) only [if_pos, nws, j1, j2, hx1, ol, go_sem, seval] <;> rfl)) rfl; apply aops_x (d := 301) (ag_n rfl) rfl (by first | (simp (disch := decide) only [j1, j2, hx1, ol, go_sem, seval] <;> rfl) | (simp (disch := first | decide | omega) only [if_pos, nws, j1, j2, hx1, ol, go_sem, seval] <;> rfl)) rfl; apply aops_mv (t := 25) (d := 302) (ag_n rfl) rfl rfl (by first | (simp only [look_lay, look, seval] <;> rfl) | fail) rfl; apply aops_x (d := 303) (ag_n rfl) rfl (by (simp (disch := first | decide | omega) only [if_pos, nws, j1, j2, hx1, ol, go_sem, seval] <;> rfl)) rfl; apply aops_x (d := 304) (ag_n rfl) rfl (by first | (simp (disch := decide) only [j1, j2, hx1, ol, go_sem, seval] <;> rfl) | (simp (disch := first | decide | omega) only [if_pos, nws, j1, j2, hx1, ol, go_sem, seval] <;> rfl)) rfl; apply aops_x (d := 305) (ag_n rfl) rfl (by first | (simp (disch := decide) only [j1, j2, hx1, ol, go_sem, seval] <;> rfl) | (simp (disch := first | decide | omega) only [if_pos, nws, j1, j2, hx1, ol, go_sem, seval] <;> rfl)) rfl; apply aops_x (d := 306) (ag_n rfl) rfl (by first | (simp (disch := decide) only [j1, j2, hx1, ol, go_sem, seval] <;> rfl) | (simp (disch := first | decide | omega) only [if_pos, nws, j1, j2, hx1, ol, go_sem, seval] <;> rfl)) rfl; apply aops_x (d := 307) (ag_n rfl) rfl (by (simp (disch := first | decide | omega) only [if_pos, nws, j1, j2, hx1, ol, go_sem, seval] <;> rfl)) rfl; apply aops_x (d := 308) (ag_n rfl) rfl (by first | (simp (disch := decide) only [j1, j2, hx1, ol, go_sem, seval] <;> rfl) | (simp (disch := first | decide | omega) only [if_pos, nws, j1, j2, hx1, ol, go_sem, seval] <;> rfl)) rfl; apply aops_x (d := 309) (ag_n rfl) rfl (by (simp (disch := first | decide | omega) only [if_pos, nws, j1, j2, hx1, ol, go_sem, seval] <;> rfl)) rfl; apply aops_s (ag_n rfl) rfl (by first | (simp (disch := decide) only [j1, j2, hx1, ol, go_sem, seval] <;> rfl) | (simp (disch := first | decide | omega) only [if_pos, nws, j1, j2, hx1, ol, go_sem, seval] <;> rfl)); apply aops_end; rfl) (by (simp (disch := omega) only [go_sem, seval, lay, nws]); rfl) ?_
            change AWP _ _ _ _ _
            refine AWP.rT gok [2, 4, 24, 293] (by apply aops_x (d := 310) (ag_n rfl) rfl (by first | (simp (disch := decide) only [go_sem, seval] <;> rfl) | (simp (disch := first | decide | omega) only [if_pos, nws, go_sem, seval] <;> rfl)) rfl; apply aops_mv (t := 310) (d := 293) (ag_n rfl) rfl rfl (by first | (simp only [look_lay, look, seval] <;> rfl) | fail) rfl; apply aops_end; rfl) (by (simp (disch := omega) only [go_sem, seval, lay, nws]); rfl) ?_
            refine ⟨(q + 1, Sha.pad (Sha.outs (Sha.hashes t m) (q + 1)) 32), Ghost.of_eq (by rw [← outs_step (Sha.hashes t m) o q x q3 q2 hx1]; rfl), ⟨by simp only; omega, rfl⟩, by simp only; omega⟩
          · skip
            refine AWP.exit ?_
            change AWP _ _ _ _ _
            have ol : o.length = 32 := by rw [q2]; exact Sha.pad_length _ _ (by rw [Sha.outs_length]; omega)
            refine AWP.sR gok [2] (by apply aops_x (d := 311) (ag_n rfl) rfl (by first | (simp (disch := decide) only [ol, go_sem, seval] <;> rfl) | (simp (disch := first | decide | omega) only [if_pos, nws, ol, go_sem, seval] <;> rfl)) rfl; apply aops_s (ag_n rfl) rfl (by first | (simp (disch := decide) only [ol, go_sem, seval] <;> rfl) | (simp (disch := first | decide | omega) only [if_pos, nws, ol, go_sem, seval] <;> rfl)); apply aops_end; rfl) (by (simp (disch := omega) only [go_sem, seval, lay, nws]); rfl) ?_
            refine AWP.ret ?_
            refine ⟨.inr rfl, _, (by simp only [go_sem, seval, ol] <;> rfl), ?_⟩
            simp only [go_sem, seval, ol, Option.some.injEq, AV.c.injEq, AV.agg.injEq, CV.v.injEq, Value.int.injEq, Value.bool.injEq, Row.raw.injEq, List.cons.injEq, CV.sl.injEq, and_true, true_and, and_self]
            have em : m = t.length / 64 := by omega
            have eq : q = 32 := by omega
            rw [dg_eq, eF, q2, eq, ← em]
            unfold Sha.pad
            rw [Sha.outs_length]
            simp
theorem E17_ok : EntryOk Try.prog 17 E17 := pureN_ok (fun d hc => K17 d.1 hc) (fun _ => rfl) (fun _ => rfl)
attribute [go_sem] E17 c17 r17 L17
end Go.Proofs.Ytbdnhoddkdiogaa
end
