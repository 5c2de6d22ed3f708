import Derived.Test.YtggomleegbnhbaaDoorBk3
set_option linter.unusedSimpArgs false
set_option linter.unusedVariables false
namespace Go.Proofs.YtggomleegbnhbaaDoor
open Go.RowKit
theorem wf_bytes {xs : List Int} (h : wfD (.sl (.i .u8)) xs) : bytesOk xs := fun x hx => wf_u8 (h.2 x hx)
/-! Polynomials: without zeros behind. -/
def trimF : List Int → List Int
  | [] => []
  | x :: l => if trimF l = [] then (if x = 0 then [] else [x]) else x :: trimF l
theorem trimF_len : ∀ l, (trimF l).length ≤ l.length
  | [] => Nat.le_refl _
  | x :: l => by
    have := trimF_len l
    unfold trimF
    split
    · split <;> simp
    · simp; exact this
theorem trimF_snoc0 : ∀ l : List Int, trimF (l ++ [0]) = trimF l
  | [] => rfl
  | x :: l => by
    show (if trimF (l ++ [0]) = [] then _ else x :: trimF (l ++ [0])) = _
    rw [trimF_snoc0 l]; rfl
theorem trimF_snoc {x : Int} (hx : x ≠ 0) : ∀ l : List Int, trimF (l ++ [x]) = l ++ [x]
  | [] => by show (if ([] : List Int) = [] then (if x = 0 then [] else [x]) else _) = _; rw [if_pos rfl, if_neg hx]; rfl
  | y :: l => by
    show (if trimF (l ++ [x]) = [] then _ else y :: trimF (l ++ [x])) = _
    rw [trimF_snoc hx l, if_neg (by simp)]; rfl
theorem trimF_take : ∀ l : List Int, l.take (trimF l).length = trimF l
  | [] => rfl
  | x :: l => by
    have ih := trimF_take l
    unfold trimF
    split
    · split <;> simp
    · rw [List.length_cons, List.take_succ_cons, ih]
theorem take_snoc {a : List Int} {k : Nat} {x : Int} (h : a[k]? = some x) : a.take (k + 1) = a.take k ++ [x] := by rw [List.take_add_one, h]; rfl
def lastZ (a : List Int) : Nat → Bool
  | 0 => false
  | k + 1 => decide (a[k]?.getD 1 = 0)
theorem lastZ_stop {a : List Int} {k : Nat} (hk : k ≤ a.length) (ht : trimF (a.take k) = trimF a) (h : lastZ a k = false) : (trimF a).length = k := by
  cases k with
  | zero => rw [← ht]; rfl
  | succ k =>
    obtain ⟨x, hx⟩ : ∃ x, a[k]? = some x := ⟨_, List.getElem?_eq_getElem hk⟩
    have h : decide (a[k]?.getD 1 = 0) = false := h
    rw [hx, Option.getD_some] at h
    rw [take_snoc hx, trimF_snoc (of_decide_eq_false h)] at ht
    rw [← ht]; simp; omega
theorem lastZ_step {a : List Int} {k : Nat} (hk : k + 1 ≤ a.length) (ht : trimF (a.take (k + 1)) = trimF a) (h : lastZ a (k + 1) = true) : trimF (a.take k) = trimF a := by
  obtain ⟨x, hx⟩ : ∃ x, a[k]? = some x := ⟨_, List.getElem?_eq_getElem hk⟩
  have h : decide (a[k]?.getD 1 = 0) = true := h
  rw [hx, Option.getD_some] at h
  rw [take_snoc hx, of_decide_eq_true h, trimF_snoc0] at ht
  exact ht
theorem lastZ_take (a : List Int) (k : Nat) : lastZ (a.take k) k = lastZ a k := by
  cases k with
  | zero => rfl
  | succ k => show decide ((a.take (k + 1))[k]?.getD 1 = 0) = decide (a[k]?.getD 1 = 0); rw [List.getElem?_take, if_pos (by omega)]
def dropZ : List Int → List Int
  | [] => []
  | x :: l => if x = 0 then dropZ l else x :: l
def headZ : List Int → Bool
  | [] => false
  | x :: _ => decide (x = 0)
theorem dropZ_len : ∀ l : List Int, (dropZ l).length ≤ l.length
  | [] => Nat.le_refl _
  | x :: l => by
    unfold dropZ; split
    · exact Nat.le_trans (dropZ_len l) (by simp)
    · exact Nat.le_refl _
theorem dropZ_nil : ∀ l : List Int, dropZ l = [] ↔ ∀ x ∈ l, x = 0
  | [] => ⟨fun _ x hx => (List.not_mem_nil hx).elim, fun _ => rfl⟩
  | x :: l => by
    unfold dropZ
    by_cases h : x = 0
    · rw [if_pos h, dropZ_nil l]
      exact ⟨fun g y hy => by rcases List.mem_cons.1 hy with rfl | hy; exact h; exact g y hy, fun g y hy => g y (List.mem_cons_of_mem _ hy)⟩
    · rw [if_neg h]
      exact ⟨fun g => (List.cons_ne_nil _ _ g).elim, fun g => (h (g x List.mem_cons_self)).elim⟩
theorem trimF_zero : ∀ l : List Int, trimF l = [] ↔ ∀ x ∈ l, x = 0
  | [] => ⟨fun _ x hx => (List.not_mem_nil hx).elim, fun _ => rfl⟩
  | x :: l => by
    unfold trimF
    by_cases h : trimF l = []
    · rw [if_pos h]
      have ih := (trimF_zero l).1 h
      by_cases h0 : x = 0
      · rw [if_pos h0]; exact ⟨fun _ y hy => by rcases List.mem_cons.1 hy with rfl | hy; exact h0; exact ih y hy, fun _ => rfl⟩
      · rw [if_neg h0]; exact ⟨fun g => (List.cons_ne_nil _ _ g).elim, fun g => (h0 (g x List.mem_cons_self)).elim⟩
    · rw [if_neg h]
      exact ⟨fun g => (List.cons_ne_nil _ _ g).elim, fun g => (h ((trimF_zero l).2 fun y hy => g y (List.mem_cons_of_mem _ hy))).elim⟩
theorem trim_both (l : List Int) : dropZ (trimF l) = [] ↔ ∀ x ∈ l, x = 0 := by
  rw [dropZ_nil]
  constructor
  · intro h
    -- a trimmed list of zeros is empty
    have : trimF l = [] := by
      have h2 : ∀ l : List Int, trimF l ≠ [] → ¬ ∀ x ∈ trimF l, x = 0 := fun l => by
        induction l with
        | nil => exact fun g => (g rfl).elim
        | cons x l ih =>
          unfold trimF
          by_cases h : trimF l = []
          · rw [if_pos h]
            by_cases h0 : x = 0
            · rw [if_pos h0]; exact fun g => (g rfl).elim
            · rw [if_neg h0]; exact fun _ g => h0 (g x List.mem_cons_self)
          · rw [if_neg h]; exact fun _ g => ih h fun y hy => g y (List.mem_cons_of_mem _ hy)
      exact Classical.byContradiction fun g => h2 l g h
    exact (trimF_zero l).1 this
  · intro h x hx
    rw [(trimF_zero l).2 h] at hx
    exact (List.not_mem_nil hx).elim
abbrev c20 (a : (List Int)) (c : Int) : Prop := c = 0 ∧ a.length ≤ 4000000000
abbrev r20 (a : (List Int)) (c : Int) : AV := .c (.rs (.i .u8) (trimF a))
abbrev L20 (a : (List Int)) (c : Int) : Hp := []
def E20 : Entry := foreN [(.sl (.i .u8)), (.i .u8)] (fun d => c20 d.1 d.2.1) (fun d => r20 d.1 d.2.1) (fun d => L20 d.1 d.2.1)
set_option maxRecDepth 100000 in
set_option maxHeartbeats 4000000 in
theorem K20 (a : (List Int)) (c : Int) (hc : c20 a c) : CallOk Tryd.prog 20 [.c (.rs (.i .u8) a), .c (ci .u8 c)] [] (r20 a c) (L20 a c) := by
  have hc : c = 0 ∧ a.length ≤ 4000000000 := hc
  obtain ⟨rfl, ha⟩ := hc
  refine callOk' Tryd.func20 24 [.tmp 4] _ rfl rfl rfl (by kernel_rfl) (by simp) [] rfl rfl (by simp) ?_
  simp only [params]
  refine AWP.sR (Gam.nil_ok _) [0, 1] (by apply aops_x (d := 4) (ag_n rfl) rfl (by first | (simp (disch := decide) only [go_sem, seval] <;> rfl) | (simp (disch := first | decide | omega) only [if_pos, nws, go_sem, seval] <;> rfl)) rfl; apply aops_end; rfl) (by (simp (disch := omega) only [go_sem, seval, lay, nws]); rfl) ?_
  refine AWP.seqBlock ?_
  refine AWP.loopP (fun (p : Nat) => ⟨24, [(0, .c (.rs (.i .u8) (a.take p))), (1, .c (ci .u8 0))], []⟩) (fun p => p ≤ a.length ∧ trimF (a.take p) = trimF a) (fun p => p) a.length (Ghost.of_eq (by rw [List.take_length])) ⟨Nat.le_refl _, by rw [List.take_length]⟩ ?_
  rintro k ⟨hk, ht⟩
  obtain ⟨b, hb⟩ : ∃ b, a.take k = b := ⟨_, rfl⟩
  have bl : b.length = k := by rw [← hb, List.length_take]; omega
  have bz : lastZ b k = lastZ a k := by rw [← hb, lastZ_take]
  rw [hb]
  refine AWP.seq ?_
  refine AWP.sX (Gam.nil_ok _) [0, 1, 17] (s2 := ⟨24, [(0, .c (.rs (.i .u8) b)), (1, .c (ci .u8 0)), (17, .c (cb (lastZ b k)))], []⟩) (by ((rcases k with _ | k; have hx := hk; have hk0 := hk; have hkk := hk; rotate_left; (obtain ⟨x, hx⟩ : ∃ x, b[k]? = some x := ⟨_, List.getElem?_eq_getElem (by omega)⟩); (have hk0 : (0 : Int) < (k : Int) + 1 := by omega); (have hkk : k < b.length := by omega); rotate_left)) <;> refine ⟨_, (by apply aops_mv (t := 0) (d := 5) (ag_n rfl) rfl rfl (by first | (simp only [look_lay, look, seval] <;> rfl) | fail) rfl; apply aops_x (d := 6) (ag_n rfl) rfl (by (simp (disch := first | decide | omega) only [if_pos, nws, bl, hx, hk0, hkk, Int.natCast_add, Int.cast_ofNat_Int, Int.add_sub_cancel, Int.natCast_nonneg, lastZ, gt_iff_lt, go_sem, seval] <;> rfl)) rfl; apply aops_x (d := 7) (ag_n rfl) rfl (by (simp (disch := first | decide | omega) only [if_pos, nws, bl, hx, hk0, hkk, Int.natCast_add, Int.cast_ofNat_Int, Int.add_sub_cancel, Int.natCast_nonneg, lastZ, gt_iff_lt, go_sem, seval] <;> rfl)) rfl; apply aops_mv (t := 7) (d := 8) (ag_n rfl) rfl rfl (by first | (simp only [look_lay, look, seval] <;> rfl) | fail) rfl; (first | apply aops_mv (t := 0) (d := 9) (ag_b (j := 3) (d := 8) rfl rfl rfl (by first | (simp only [look_lay, look, seval] <;> rfl) | fail) (by first | rfl | (simp only [bl, hx, hk0, hkk, Int.natCast_add, Int.cast_ofNat_Int, Int.add_sub_cancel, Int.natCast_nonneg, lastZ, gt_iff_lt, decide_true, decide_false] <;> rfl) | fail)) rfl rfl (by first | (simp only [look_lay, look, seval] <;> rfl) | fail) rfl | apply aops_ps (d := 9) (by first | exact ag_f (j := 3) (d := 8) rfl rfl rfl (by first | (simp only [look_lay, look, seval] <;> rfl) | fail) (by first | rfl | (simp only [bl, hx, hk0, hkk, Int.natCast_add, Int.cast_ofNat_Int, Int.add_sub_cancel, Int.natCast_nonneg, lastZ, gt_iff_lt, decide_true, decide_false] <;> rfl) | fail) | exact ag_u (j := 3) (d := 8) rfl rfl rfl (by first | (simp only [look_lay, look, seval] <;> rfl) | fail) | fail) rfl rfl); (first | apply aops_mv (t := 0) (d := 10) (ag_b (j := 3) (d := 8) rfl rfl rfl (by first | (simp only [look_lay, look, seval] <;> rfl) | fail) (by first | rfl | (simp only [bl, hx, hk0, hkk, Int.natCast_add, Int.cast_ofNat_Int, Int.add_sub_cancel, Int.natCast_nonneg, lastZ, gt_iff_lt, decide_true, decide_false] <;> rfl) | fail)) rfl rfl (by first | (simp only [look_lay, look, seval] <;> rfl) | fail) rfl | apply aops_ps (d := 10) (by first | exact ag_f (j := 3) (d := 8) rfl rfl rfl (by first | (simp only [look_lay, look, seval] <;> rfl) | fail) (by first | rfl | (simp only [bl, hx, hk0, hkk, Int.natCast_add, Int.cast_ofNat_Int, Int.add_sub_cancel, Int.natCast_nonneg, lastZ, gt_iff_lt, decide_true, decide_false] <;> rfl) | fail) | exact ag_u (j := 3) (d := 8) rfl rfl rfl (by first | (simp only [look_lay, look, seval] <;> rfl) | fail) | fail) rfl rfl); (first | apply aops_x (d := 11) (ag_b (j := 3) (d := 8) rfl rfl rfl (by first | (simp only [look_lay, look, seval] <;> rfl) | fail) (by first | rfl | (simp only [bl, hx, hk0, hkk, Int.natCast_add, Int.cast_ofNat_Int, Int.add_sub_cancel, Int.natCast_nonneg, lastZ, gt_iff_lt, decide_true, decide_false] <;> rfl) | fail)) rfl (by (simp (disch := first | decide | omega) only [if_pos, nws, bl, hx, hk0, hkk, Int.natCast_add, Int.cast_ofNat_Int, Int.add_sub_cancel, Int.natCast_nonneg, lastZ, gt_iff_lt, go_sem, seval] <;> rfl)) rfl | apply aops_ps (d := 11) (by first | exact ag_f (j := 3) (d := 8) rfl rfl rfl (by first | (simp only [look_lay, look, seval] <;> rfl) | fail) (by first | rfl | (simp only [bl, hx, hk0, hkk, Int.natCast_add, Int.cast_ofNat_Int, Int.add_sub_cancel, Int.natCast_nonneg, lastZ, gt_iff_lt, decide_true, decide_false] <;> rfl) | fail) | exact ag_u (j := 3) (d := 8) rfl rfl rfl (by first | (simp only [look_lay, look, seval] <;> rfl) | fail) | fail) rfl rfl); (first | apply aops_x (d := 12) (ag_b (j := 3) (d := 8) rfl rfl rfl (by first | (simp only [look_lay, look, seval] <;> rfl) | fail) (by first | rfl | (simp only [bl, hx, hk0, hkk, Int.natCast_add, Int.cast_ofNat_Int, Int.add_sub_cancel, Int.natCast_nonneg, lastZ, gt_iff_lt, decide_true, decide_false] <;> rfl) | fail)) rfl (by (simp (disch := first | decide | omega) only [if_pos, nws, bl, hx, hk0, hkk, Int.natCast_add, Int.cast_ofNat_Int, Int.add_sub_cancel, Int.natCast_nonneg, lastZ, gt_iff_lt, go_sem, seval] <;> rfl)) rfl | apply aops_ps (d := 12) (by first | exact ag_f (j := 3) (d := 8) rfl rfl rfl (by first | (simp only [look_lay, look, seval] <;> rfl) | fail) (by first | rfl | (simp only [bl, hx, hk0, hkk, Int.natCast_add, Int.cast_ofNat_Int, Int.add_sub_cancel, Int.natCast_nonneg, lastZ, gt_iff_lt, decide_true, decide_false] <;> rfl) | fail) | exact ag_u (j := 3) (d := 8) rfl rfl rfl (by first | (simp only [look_lay, look, seval] <;> rfl) | fail) | fail) rfl rfl); (first | apply aops_x (d := 13) (ag_b (j := 3) (d := 8) rfl rfl rfl (by first | (simp only [look_lay, look, seval] <;> rfl) | fail) (by first | rfl | (simp only [bl, hx, hk0, hkk, Int.natCast_add, Int.cast_ofNat_Int, Int.add_sub_cancel, Int.natCast_nonneg, lastZ, gt_iff_lt, decide_true, decide_false] <;> rfl) | fail)) rfl (by (simp (disch := first | decide | omega) only [if_pos, nws, bl, hx, hk0, hkk, Int.natCast_add, Int.cast_ofNat_Int, Int.add_sub_cancel, Int.natCast_nonneg, lastZ, gt_iff_lt, go_sem, seval] <;> rfl)) rfl | apply aops_ps (d := 13) (by first | exact ag_f (j := 3) (d := 8) rfl rfl rfl (by first | (simp only [look_lay, look, seval] <;> rfl) | fail) (by first | rfl | (simp only [bl, hx, hk0, hkk, Int.natCast_add, Int.cast_ofNat_Int, Int.add_sub_cancel, Int.natCast_nonneg, lastZ, gt_iff_lt, decide_true, decide_false] <;> rfl) | fail) | exact ag_u (j := 3) (d := 8) rfl rfl rfl (by first | (simp only [look_lay, look, seval] <;> rfl) | fail) | fail) rfl rfl); (first | apply aops_x (d := 14) (ag_b (j := 3) (d := 8) rfl rfl rfl (by first | (simp only [look_lay, look, seval] <;> rfl) | fail) (by first | rfl | (simp only [bl, hx, hk0, hkk, Int.natCast_add, Int.cast_ofNat_Int, Int.add_sub_cancel, Int.natCast_nonneg, lastZ, gt_iff_lt, decide_true, decide_false] <;> rfl) | fail)) rfl (by (simp (disch := first | decide | omega) only [if_pos, nws, bl, hx, hk0, hkk, Int.natCast_add, Int.cast_ofNat_Int, Int.add_sub_cancel, Int.natCast_nonneg, lastZ, gt_iff_lt, go_sem, seval] <;> rfl)) rfl | apply aops_ps (d := 14) (by first | exact ag_f (j := 3) (d := 8) rfl rfl rfl (by first | (simp only [look_lay, look, seval] <;> rfl) | fail) (by first | rfl | (simp only [bl, hx, hk0, hkk, Int.natCast_add, Int.cast_ofNat_Int, Int.add_sub_cancel, Int.natCast_nonneg, lastZ, gt_iff_lt, decide_true, decide_false] <;> rfl) | fail) | exact ag_u (j := 3) (d := 8) rfl rfl rfl (by first | (simp only [look_lay, look, seval] <;> rfl) | fail) | fail) rfl rfl); (first | apply aops_mv (t := 1) (d := 15) (ag_b (j := 3) (d := 8) rfl rfl rfl (by first | (simp only [look_lay, look, seval] <;> rfl) | fail) (by first | rfl | (simp only [bl, hx, hk0, hkk, Int.natCast_add, Int.cast_ofNat_Int, Int.add_sub_cancel, Int.natCast_nonneg, lastZ, gt_iff_lt, decide_true, decide_false] <;> rfl) | fail)) rfl rfl (by first | (simp only [look_lay, look, seval] <;> rfl) | fail) rfl | apply aops_ps (d := 15) (by first | exact ag_f (j := 3) (d := 8) rfl rfl rfl (by first | (simp only [look_lay, look, seval] <;> rfl) | fail) (by first | rfl | (simp only [bl, hx, hk0, hkk, Int.natCast_add, Int.cast_ofNat_Int, Int.add_sub_cancel, Int.natCast_nonneg, lastZ, gt_iff_lt, decide_true, decide_false] <;> rfl) | fail) | exact ag_u (j := 3) (d := 8) rfl rfl rfl (by first | (simp only [look_lay, look, seval] <;> rfl) | fail) | fail) rfl rfl); (first | apply aops_x (d := 16) (ag_b (j := 3) (d := 8) rfl rfl rfl (by first | (simp only [look_lay, look, seval] <;> rfl) | fail) (by first | rfl | (simp only [bl, hx, hk0, hkk, Int.natCast_add, Int.cast_ofNat_Int, Int.add_sub_cancel, Int.natCast_nonneg, lastZ, gt_iff_lt, decide_true, decide_false] <;> rfl) | fail)) rfl (by (simp (disch := first | decide | omega) only [if_pos, nws, bl, hx, hk0, hkk, Int.natCast_add, Int.cast_ofNat_Int, Int.add_sub_cancel, Int.natCast_nonneg, lastZ, gt_iff_lt, go_sem, seval] <;> rfl)) rfl | apply aops_ps (d := 16) (by first | exact ag_f (j := 3) (d := 8) rfl rfl rfl (by first | (simp only [look_lay, look, seval] <;> rfl) | fail) (by first | rfl | (simp only [bl, hx, hk0, hkk, Int.natCast_add, Int.cast_ofNat_Int, Int.add_sub_cancel, Int.natCast_nonneg, lastZ, gt_iff_lt, decide_true, decide_false] <;> rfl) | fail) | exact ag_u (j := 3) (d := 8) rfl rfl rfl (by first | (simp only [look_lay, look, seval] <;> rfl) | fail) | fail) rfl rfl); apply aops_x (d := 17) (ag_n rfl) rfl (by (simp (disch := first | decide | omega) only [if_pos, nws, bl, hx, hk0, hkk, Int.natCast_add, Int.cast_ofNat_Int, Int.add_sub_cancel, Int.natCast_nonneg, lastZ, gt_iff_lt, go_sem, seval] <;> rfl)) rfl; apply aops_end; rfl), (by (simp (disch := omega) only [bl, hx, hk0, hkk, Int.natCast_add, Int.cast_ofNat_Int, Int.add_sub_cancel, Int.natCast_nonneg, lastZ, gt_iff_lt, go_sem, seval, lay, nws]) <;> rfl)⟩) ?_
  refine AWP.cond (b := _) rfl (fun h => ?_) (fun h => ?_) <;> (try simp only [decide_eq_true_eq, decide_eq_false_iff_not] at h)
  · skip
    refine AWP.skip ?_
    change AWP _ _ _ _ _
    refine AWP.block ?_
    rw [bz] at h
    obtain ⟨k, rfl⟩ : ∃ j, k = j + 1 := by cases k with | zero => cases h | succ j => exact ⟨j, rfl⟩
    have hbk : b.take k = a.take k := by rw [← hb, List.take_take]; congr 1; omega
    refine AWP.rT (Gam.nil_ok _) [0, 1] (by apply aops_mv (t := 0) (d := 18) (ag_n rfl) rfl rfl (by first | (simp only [look_lay, look, seval] <;> rfl) | fail) rfl; apply aops_mv (t := 0) (d := 19) (ag_n rfl) rfl rfl (by first | (simp only [look_lay, look, seval] <;> rfl) | fail) rfl; apply aops_x (d := 20) (ag_n rfl) rfl (by first | (simp (disch := decide) only [bl, Int.natCast_add, Int.cast_ofNat_Int, Int.add_sub_cancel, Int.natCast_nonneg, hbk, Nat.sub_zero, go_sem, seval] <;> rfl) | (simp (disch := first | decide | omega) only [if_pos, nws, bl, Int.natCast_add, Int.cast_ofNat_Int, Int.add_sub_cancel, Int.natCast_nonneg, hbk, Nat.sub_zero, go_sem, seval] <;> rfl)) rfl; apply aops_x (d := 21) (ag_n rfl) rfl (by first | (simp (disch := decide) only [bl, Int.natCast_add, Int.cast_ofNat_Int, Int.add_sub_cancel, Int.natCast_nonneg, hbk, Nat.sub_zero, go_sem, seval] <;> rfl) | (simp (disch := first | decide | omega) only [if_pos, nws, bl, Int.natCast_add, Int.cast_ofNat_Int, Int.add_sub_cancel, Int.natCast_nonneg, hbk, Nat.sub_zero, go_sem, seval] <;> rfl)) rfl; apply aops_x (d := 22) (ag_n rfl) rfl (by (simp (disch := first | decide | omega) only [if_pos, nws, bl, Int.natCast_add, Int.cast_ofNat_Int, Int.add_sub_cancel, Int.natCast_nonneg, hbk, Nat.sub_zero, go_sem, seval] <;> rfl)) rfl; apply aops_as (t := 22) (d := 0) (ag_n rfl) rfl rfl (by first | (simp only [look_lay, look, seval] <;> rfl) | fail) rfl; apply aops_end; rfl) (by (simp (disch := omega) only [go_sem, seval, lay, nws]); rfl) ?_
    exact ⟨k, Ghost.of_eq rfl, ⟨by omega, lastZ_step hk ht h⟩, by omega⟩
  · skip
    refine AWP.exit ?_
    change AWP _ _ _ _ _
    refine AWP.sR (Gam.nil_ok _) [4] (by apply aops_mv (t := 0) (d := 23) (ag_n rfl) rfl rfl (by first | (simp only [look_lay, look, seval] <;> rfl) | fail) rfl; apply aops_as (t := 23) (d := 4) (ag_n rfl) rfl rfl (by first | (simp only [look_lay, look, seval] <;> rfl) | fail) rfl; apply aops_end; rfl) (by (simp (disch := omega) only [go_sem, seval, lay, nws]); rfl) ?_
    refine AWP.ret ?_
    refine ⟨.inr rfl, _, (by simp only [go_sem, seval] <;> rfl), ?_⟩
    simp only [go_sem, seval, Option.some.injEq, AV.c.injEq, AV.agg.injEq, CV.v.injEq, Value.int.injEq, Value.bool.injEq, Row.raw.injEq, List.cons.injEq, CV.sl.injEq, and_true, true_and, and_self]
    rw [bz] at h
    have e := lastZ_stop hk ht h
    rw [← hb, ← trimF_take a, e]
theorem E20_ok : EntryOk Tryd.prog 20 E20 := foreN_ok (fun d hc => K20 d.1 d.2.1 hc)  
attribute [go_sem] E20 c20 r20 L20
abbrev c19 (a : (List Int)) (c : Int) : Prop := c = 0 ∧ a.length ≤ 4000000000
abbrev r19 (a : (List Int)) (c : Int) : AV := .c (if dropZ a = [] then CV.v (.slice none 0 0) else CV.rs (.i .u8) (dropZ a))
abbrev L19 (a : (List Int)) (c : Int) : Hp := []
def E19 : Entry := foreN [(.sl (.i .u8)), (.i .u8)] (fun d => c19 d.1 d.2.1) (fun d => r19 d.1 d.2.1) (fun d => L19 d.1 d.2.1)
set_option maxRecDepth 100000 in
set_option maxHeartbeats 4000000 in
theorem K19 (a : (List Int)) (c : Int) (hc : c19 a c) : CallOk Tryd.prog 19 [.c (.rs (.i .u8) a), .c (ci .u8 c)] [] (r19 a c) (L19 a c) := by
  have hc : c = 0 ∧ a.length ≤ 4000000000 := hc
  obtain ⟨rfl, ha⟩ := hc
  refine callOk' Tryd.func19 21 [.tmp 4] _ rfl rfl rfl (by kernel_rfl) (by simp) [] rfl rfl (by simp) ?_
  simp only [params]
  refine AWP.sR (Gam.nil_ok _) [0, 1] (by apply aops_x (d := 4) (ag_n rfl) rfl (by first | (simp (disch := decide) only [go_sem, seval] <;> rfl) | (simp (disch := first | decide | omega) only [if_pos, nws, go_sem, seval] <;> rfl)) rfl; apply aops_end; rfl) (by (simp (disch := omega) only [go_sem, seval, lay, nws]); rfl) ?_
  refine AWP.seqBlock ?_
  refine AWP.loopP (fun (p : List Int) => ⟨21, [(0, .c (.rs (.i .u8) p)), (1, .c (ci .u8 0))], []⟩) (fun p => dropZ p = dropZ a ∧ p.length ≤ 4000000000) (fun p => p.length) a (Ghost.refl _ _) ⟨rfl, ha⟩ ?_
  rintro l ⟨hl, hll⟩
  refine AWP.seq ?_
  refine AWP.sX (Gam.nil_ok _) [0, 1, 14] (s2 := ⟨21, [(0, .c (.rs (.i .u8) l)), (1, .c (ci .u8 0)), (14, .c (cb (headZ l)))], []⟩) (by ((rcases l with _ | ⟨x, l⟩; have hk0 := hll; rotate_left; (have hk0 : (0 : Int) < (l.length : Int) + 1 := by omega); rotate_left)) <;> refine ⟨_, (by apply aops_mv (t := 0) (d := 5) (ag_n rfl) rfl rfl (by first | (simp only [look_lay, look, seval] <;> rfl) | fail) rfl; apply aops_x (d := 6) (ag_n rfl) rfl (by (simp (disch := first | decide | omega) only [if_pos, nws, hk0, headZ, List.length_cons, List.length_nil, Int.natCast_add, Int.cast_ofNat_Int, gt_iff_lt, go_sem, seval] <;> rfl)) rfl; apply aops_x (d := 7) (ag_n rfl) rfl (by (simp (disch := first | decide | omega) only [if_pos, nws, hk0, headZ, List.length_cons, List.length_nil, Int.natCast_add, Int.cast_ofNat_Int, gt_iff_lt, go_sem, seval] <;> rfl)) rfl; apply aops_mv (t := 7) (d := 8) (ag_n rfl) rfl rfl (by first | (simp only [look_lay, look, seval] <;> rfl) | fail) rfl; (first | apply aops_mv (t := 0) (d := 9) (ag_b (j := 3) (d := 8) rfl rfl rfl (by first | (simp only [look_lay, look, seval] <;> rfl) | fail) (by first | rfl | (simp only [hk0, headZ, List.length_cons, List.length_nil, Int.natCast_add, Int.cast_ofNat_Int, gt_iff_lt, decide_true, decide_false] <;> rfl) | fail)) rfl rfl (by first | (simp only [look_lay, look, seval] <;> rfl) | fail) rfl | apply aops_ps (d := 9) (by first | exact ag_f (j := 3) (d := 8) rfl rfl rfl (by first | (simp only [look_lay, look, seval] <;> rfl) | fail) (by first | rfl | (simp only [hk0, headZ, List.length_cons, List.length_nil, Int.natCast_add, Int.cast_ofNat_Int, gt_iff_lt, decide_true, decide_false] <;> rfl) | fail) | exact ag_u (j := 3) (d := 8) rfl rfl rfl (by first | (simp only [look_lay, look, seval] <;> rfl) | fail) | fail) rfl rfl); (first | apply aops_x (d := 10) (ag_b (j := 3) (d := 8) rfl rfl rfl (by first | (simp only [look_lay, look, seval] <;> rfl) | fail) (by first | rfl | (simp only [hk0, headZ, List.length_cons, List.length_nil, Int.natCast_add, Int.cast_ofNat_Int, gt_iff_lt, decide_true, decide_false] <;> rfl) | fail)) rfl (by (simp (disch := first | decide | omega) only [if_pos, nws, hk0, headZ, List.length_cons, List.length_nil, Int.natCast_add, Int.cast_ofNat_Int, gt_iff_lt, go_sem, seval] <;> rfl)) rfl | apply aops_ps (d := 10) (by first | exact ag_f (j := 3) (d := 8) rfl rfl rfl (by first | (simp only [look_lay, look, seval] <;> rfl) | fail) (by first | rfl | (simp only [hk0, headZ, List.length_cons, List.length_nil, Int.natCast_add, Int.cast_ofNat_Int, gt_iff_lt, decide_true, decide_false] <;> rfl) | fail) | exact ag_u (j := 3) (d := 8) rfl rfl rfl (by first | (simp only [look_lay, look, seval] <;> rfl) | fail) | fail) rfl rfl); (first | apply aops_x (d := 11) (ag_b (j := 3) (d := 8) rfl rfl rfl (by first | (simp only [look_lay, look, seval] <;> rfl) | fail) (by first | rfl | (simp only [hk0, headZ, List.length_cons, List.length_nil, Int.natCast_add, Int.cast_ofNat_Int, gt_iff_lt, decide_true, decide_false] <;> rfl) | fail)) rfl (by (simp (disch := first | decide | omega) only [if_pos, nws, hk0, headZ, List.length_cons, List.length_nil, Int.natCast_add, Int.cast_ofNat_Int, gt_iff_lt, go_sem, seval] <;> rfl)) rfl | apply aops_ps (d := 11) (by first | exact ag_f (j := 3) (d := 8) rfl rfl rfl (by first | (simp only [look_lay, look, seval] <;> rfl) | fail) (by first | rfl | (simp only [hk0, headZ, List.length_cons, List.length_nil, Int.natCast_add, Int.cast_ofNat_Int, gt_iff_lt, decide_true, decide_false] <;> rfl) | fail) | exact ag_u (j := 3) (d := 8) rfl rfl rfl (by first | (simp only [look_lay, look, seval] <;> rfl) | fail) | fail) rfl rfl); (first | apply aops_mv (t := 1) (d := 12) (ag_b (j := 3) (d := 8) rfl rfl rfl (by first | (simp only [look_lay, look, seval] <;> rfl) | fail) (by first | rfl | (simp only [hk0, headZ, List.length_cons, List.length_nil, Int.natCast_add, Int.cast_ofNat_Int, gt_iff_lt, decide_true, decide_false] <;> rfl) | fail)) rfl rfl (by first | (simp only [look_lay, look, seval] <;> rfl) | fail) rfl | apply aops_ps (d := 12) (by first | exact ag_f (j := 3) (d := 8) rfl rfl rfl (by first | (simp only [look_lay, look, seval] <;> rfl) | fail) (by first | rfl | (simp only [hk0, headZ, List.length_cons, List.length_nil, Int.natCast_add, Int.cast_ofNat_Int, gt_iff_lt, decide_true, decide_false] <;> rfl) | fail) | exact ag_u (j := 3) (d := 8) rfl rfl rfl (by first | (simp only [look_lay, look, seval] <;> rfl) | fail) | fail) rfl rfl); (first | apply aops_x (d := 13) (ag_b (j := 3) (d := 8) rfl rfl rfl (by first | (simp only [look_lay, look, seval] <;> rfl) | fail) (by first | rfl | (simp only [hk0, headZ, List.length_cons, List.length_nil, Int.natCast_add, Int.cast_ofNat_Int, gt_iff_lt, decide_true, decide_false] <;> rfl) | fail)) rfl (by (simp (disch := first | decide | omega) only [if_pos, nws, hk0, headZ, List.length_cons, List.length_nil, Int.natCast_add, Int.cast_ofNat_Int, gt_iff_lt, go_sem, seval] <;> rfl)) rfl | apply aops_ps (d := 13) (by first | exact ag_f (j := 3) (d := 8) rfl rfl rfl (by first | (simp only [look_lay, look, seval] <;> rfl) | fail) (by first | rfl | (simp only [hk0, headZ, List.length_cons, List.length_nil, Int.natCast_add, Int.cast_ofNat_Int, gt_iff_lt, decide_true, decide_false] <;> rfl) | fail) | exact ag_u (j := 3) (d := 8) rfl rfl rfl (by first | (simp only [look_lay, look, seval] <;> rfl) | fail) | fail) rfl rfl); apply aops_x (d := 14) (ag_n rfl) rfl (by (simp (disch := first | decide | omega) only [if_pos, nws, hk0, headZ, List.length_cons, List.length_nil, Int.natCast_add, Int.cast_ofNat_Int, gt_iff_lt, go_sem, seval] <;> rfl)) rfl; apply aops_end; rfl), (by (simp (disch := omega) only [hk0, headZ, List.length_cons, List.length_nil, Int.natCast_add, Int.cast_ofNat_Int, gt_iff_lt, go_sem, seval, lay, nws]) <;> rfl)⟩) ?_
  refine AWP.cond (b := _) rfl (fun h => ?_) (fun h => ?_) <;> (try simp only [decide_eq_true_eq, decide_eq_false_iff_not] at h)
  · skip
    refine AWP.skip ?_
    change AWP _ _ _ _ _
    refine AWP.block ?_
    obtain ⟨x, m, rfl⟩ : ∃ x m, l = x :: m := by cases l with | nil => cases h | cons x m => exact ⟨x, m, rfl⟩
    have hx0 : x = 0 := of_decide_eq_true h
    refine AWP.rT (Gam.nil_ok _) [0, 1] (by apply aops_mv (t := 0) (d := 15) (ag_n rfl) rfl rfl (by first | (simp only [look_lay, look, seval] <;> rfl) | fail) rfl; apply aops_x (d := 16) (ag_n rfl) rfl (by (simp (disch := first | decide | omega) only [if_pos, nws, List.length_cons, List.drop_succ_cons, List.drop_zero, Nat.add_sub_cancel, List.take_length, go_sem, seval] <;> rfl)) rfl; apply aops_as (t := 16) (d := 0) (ag_n rfl) rfl rfl (by first | (simp only [look_lay, look, seval] <;> rfl) | fail) rfl; apply aops_end; rfl) (by (simp (disch := omega) only [go_sem, seval, lay, nws]); rfl) ?_
    exact ⟨m, Ghost.of_eq rfl, ⟨by rw [← hl, hx0]; rfl, by simp only [List.length_cons] at hll; omega⟩, by simp only [List.length_cons]; omega⟩
  · skip
    refine AWP.exit ?_
    change AWP _ _ _ _ _
    refine AWP.seq ?_
    refine AWP.sR (Gam.nil_ok _) [0, 19] (by apply aops_mv (t := 0) (d := 17) (ag_n rfl) rfl rfl (by first | (simp only [look_lay, look, seval] <;> rfl) | fail) rfl; apply aops_x (d := 18) (ag_n rfl) rfl (by first | (simp (disch := decide) only [go_sem, seval] <;> rfl) | (simp (disch := first | decide | omega) only [if_pos, nws, go_sem, seval] <;> rfl)) rfl; apply aops_x (d := 19) (ag_n rfl) rfl (by first | (simp (disch := decide) only [go_sem, seval] <;> rfl) | (simp (disch := first | decide | omega) only [if_pos, nws, go_sem, seval] <;> rfl)) rfl; apply aops_end; rfl) (by (simp (disch := omega) only [go_sem, seval, lay, nws]); rfl) ?_
    refine AWP.cond (b := _) rfl (fun h => ?_) (fun h => ?_) <;> (try simp only [decide_eq_true_eq, decide_eq_false_iff_not] at h)
    · skip
      refine AWP.sR (Gam.nil_ok _) [4] (by apply aops_x (d := 4) (ag_n rfl) rfl (by first | (simp (disch := decide) only [go_sem, seval] <;> rfl) | (simp (disch := first | decide | omega) only [if_pos, nws, go_sem, seval] <;> rfl)) rfl; apply aops_end; rfl) (by (simp (disch := omega) only [go_sem, seval, lay, nws]); rfl) ?_
      refine AWP.ret ?_
      refine ⟨.inr rfl, _, (by simp only [go_sem, seval] <;> rfl), ?_⟩
      simp only [go_sem, seval, Option.some.injEq, AV.c.injEq, AV.agg.injEq, CV.v.injEq, Value.int.injEq, Value.bool.injEq, Row.raw.injEq, List.cons.injEq, CV.sl.injEq, and_true, true_and, and_self]
      have e : l = [] := List.length_eq_zero_iff.1 (by omega)
      subst e
      rw [if_pos (show dropZ a = [] from hl.symm)]
    · skip
      refine AWP.skip ?_
      change AWP _ _ _ _ _
      refine AWP.sR (Gam.nil_ok _) [4] (by apply aops_mv (t := 0) (d := 20) (ag_n rfl) rfl rfl (by first | (simp only [look_lay, look, seval] <;> rfl) | fail) rfl; apply aops_as (t := 20) (d := 4) (ag_n rfl) rfl rfl (by first | (simp only [look_lay, look, seval] <;> rfl) | fail) rfl; apply aops_end; rfl) (by (simp (disch := omega) only [go_sem, seval, lay, nws]); rfl) ?_
      refine AWP.ret ?_
      refine ⟨.inr rfl, _, (by simp only [go_sem, seval] <;> rfl), ?_⟩
      simp only [go_sem, seval, Option.some.injEq, AV.c.injEq, AV.agg.injEq, CV.v.injEq, Value.int.injEq, Value.bool.injEq, Row.raw.injEq, List.cons.injEq, CV.sl.injEq, and_true, true_and, and_self]
      have e : dropZ a = l := by
        cases l with
        | nil => simp at *
        | cons x m =>
          rw [← hl]
          have hx : ¬ x = 0 := of_decide_eq_false (by assumption)
          unfold dropZ; rw [if_neg hx]
      rw [e, if_neg (fun g => by subst g; simp at *)]
theorem E19_ok : EntryOk Tryd.prog 19 E19 := foreN_ok (fun d hc => K19 d.1 d.2.1 hc)  
attribute [go_sem] E19 c19 r19 L19
end Go.Proofs.YtggomleegbnhbaaDoor
