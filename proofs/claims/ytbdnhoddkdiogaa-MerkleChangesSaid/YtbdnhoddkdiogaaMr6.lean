import Derived.Test.YtbdnhoddkdiogaaMr5
import Derived.Test.YtbdnhoddkdiogaaSp0
set_option linter.unusedSimpArgs false
set_option linter.unusedVariables false
namespace Go.Proofs.Ytbdnhoddkdiogaa
open Go.RowKit
theorem innerF_len : ∀ (n : Nat) (l : List (List Int)), l.length ≤ n → 1 ≤ l.length → (innerF l).length + 1 ≤ 2 * l.length := fun n => by
  induction n with
  | zero => intro l h h1; omega
  | succ n ih =>
    intro l h h0
    by_cases h1 : l.length = 1
    · rw [innerF_1 l h1]; simp; omega
    · have sp := splitN_spec l.length (by omega)
      have i1 := ih (l.take (splitN l.length)) (by rw [List.length_take]; omega) (by rw [List.length_take]; omega)
      have i2 := ih (l.drop (splitN l.length)) (by rw [List.length_drop]; omega) (by rw [List.length_drop]; omega)
      rw [innerF_2 l (by omega)]
      simp only [List.length_append, List.length_cons, List.length_nil]
      have l1 : (l.take (splitN l.length)).length = splitN l.length := by rw [List.length_take]; omega
      have l2 : (l.drop (splitN l.length)).length = l.length - splitN l.length := by rw [List.length_drop]
      rw [l1] at i1; rw [l2] at i2
      omega
theorem innerF_le (l : List (List Int)) : (innerF l).length ≤ 2 * l.length + 1 := by
  rcases Nat.eq_zero_or_pos l.length with h | h
  · rw [innerF_0 l h]; simp
  · have := innerF_len l.length l (Nat.le_refl _) h; omega
def bitsOk (l : List (List Int)) : Prop := ∀ x ∈ l, bytesOk x ∧ x.length ≤ 1000001
theorem bitsOk_app {a b : List (List Int)} (ha : bitsOk a) (hb : bitsOk b) : bitsOk (a ++ b) := fun x hx => (List.mem_append.1 hx).elim (ha x) (hb x)
theorem node_ok {a b : List Int} (ha : digestOk a) (hb : digestOk b) : bytesOk (1 :: (a ++ b)) ∧ (1 :: (a ++ b)).length ≤ 1000001 :=
  ⟨bytesOk_cons.2 ⟨by omega, bytesOk_append.2 ⟨ha.1, hb.1⟩⟩, by simp [ha.2, hb.2]⟩
theorem bitsOk_one {x : List Int} (h : bytesOk x ∧ x.length ≤ 1000001) : bitsOk [x] := fun y hy => by simp only [List.mem_singleton] at hy; subst hy; exact h
theorem root_ok (l : List (List Int)) : digestOk (rootF l) := ⟨rootF_ok l, rootF_len l⟩
theorem innerF_ok : ∀ (n : Nat) (l : List (List Int)), l.length ≤ n → textsOk l → bitsOk (innerF l) := fun n => by
  induction n with
  | zero => intro l h _; rw [innerF_0 l (by omega)]; exact bitsOk_one ⟨bytesOk_nil, by simp⟩
  | succ n ih =>
    intro l h ht
    by_cases h0 : l.length = 0
    · rw [innerF_0 l h0]; exact bitsOk_one ⟨bytesOk_nil, by simp⟩
    · by_cases h1 : l.length = 1
      · rw [innerF_1 l h1]
        have : l.headD [] ∈ l := by
          match l, h1 with
          | [x], _ => simp
        have := ht _ this
        exact bitsOk_one ⟨bytesOk_cons.2 ⟨by omega, this.1⟩, Nat.succ_le_succ this.2⟩
      · have sp := splitN_spec l.length (by omega)
        rw [innerF_2 l (by omega)]
        exact bitsOk_app (bitsOk_app (ih _ (by rw [List.length_take]; omega) (textsOk_take ht _)) (ih _ (by rw [List.length_drop]; omega) (textsOk_drop ht _))) (bitsOk_one (node_ok (root_ok _) (root_ok _)))
theorem pathF_ok (t : List Int) (ht : bytesOk t ∧ t.length ≤ 1000000) : ∀ (n : Nat) (a : Int) (m : Nat) (p : List (List Int)), p.length = n → digestsOk p → digestOk (pathF t a m p).1 ∧ bitsOk (pathF t a m p).2 ∧ (pathF t a m p).2.length ≤ n + 1 := fun n => by
  have leaf : digestOk (leafF t) := ⟨dg_ok _, dg_len _⟩
  have one : bitsOk [0 :: t] := bitsOk_one ⟨bytesOk_cons.2 ⟨by omega, ht.1⟩, by simp; omega⟩
  induction n with
  | zero =>
    intro a m p hp hd
    rw [pathF_0 t a m p (.inr hp)]; exact ⟨leaf, one, by simp⟩
  | succ n ih =>
    intro a m p hp hd
    by_cases hm : m ≤ 1
    · rw [pathF_0 t a m p (.inl hm)]; exact ⟨leaf, one, by simp⟩
    · obtain ⟨q, hq⟩ : ∃ q, p[n]? = some q := ⟨_, List.getElem?_eq_getElem (by omega)⟩
      have gq : p.getD n [] = q := by rw [List.getD_eq_getElem?_getD, hq]; rfl
      have qo := hd q (List.mem_of_getElem? hq)
      rw [pathF_2 t a m n p hp (by omega), gq]
      split
      · obtain ⟨i1, i2, i3⟩ := ih a (splitN m) (p.take n) (by rw [List.length_take]; omega) (digestsOk_take hd n)
        exact ⟨⟨dg_ok _, dg_len _⟩, bitsOk_app i2 (bitsOk_one (node_ok i1 qo)), by simp; omega⟩
      · obtain ⟨i1, i2, i3⟩ := ih (a - (splitN m : Int)) (m - splitN m) (p.take n) (by rw [List.length_take]; omega) (digestsOk_take hd n)
        exact ⟨⟨dg_ok _, dg_len _⟩, bitsOk_app i2 (bitsOk_one (node_ok qo i1)), by simp; omega⟩
abbrev c60 (l : (List (List Int))) : Prop := textsOk l ∧ l.length ≤ 1000
abbrev r60 (l : (List (List Int))) : AV := .c (.sl 0 0 (innerF l).length 1)
abbrev L60 (l : (List (List Int))) : Hp := [some (.ty (.sl (.i .u8)) (innerF l))]
def E60 : Entry := foreN [(.sl (.sl (.i .u8)))] (fun d => c60 d.1) (fun d => r60 d.1) (fun d => L60 d.1)
def En60 (N : Nat) : Entry := foreN [(.sl (.sl (.i .u8)))] (fun d => d.1.length < N ∧ c60 d.1) (fun d => r60 d.1) (fun d => L60 d.1)
attribute [go_sem] En60 c60 r60 L60
set_option maxRecDepth 100000 in
set_option maxHeartbeats 4000000 in
theorem K60 (N : Nat) (ih : EntryOk Try.prog 60 (En60 N)) (l : (List (List Int))) (hm : l.length < N + 1) (hc : c60 l) : CallOk Try.prog 60 [.c (.rs (.sl (.i .u8)) l)] [] (r60 l) (L60 l) := by
  have hc : textsOk l ∧ l.length ≤ 1000 := hc
  have gok := (Gam.cons_ok ih (Gam.cons_ok E30_ok (Gam.nil_ok _)))
  refine callOk' Try.func60 53 [.tmp 2] _ rfl rfl rfl (by kernel_rfl) (by simp) [0] rfl rfl (by simp) ?_
  simp only [params]
  refine AWP.sR gok [0] (by apply aops_x (d := 2) (ag_n rfl) rfl (by first | (simp (disch := decide) only [rootF_len, go_sem, seval] <;> rfl) | (simp (disch := first | decide | omega) only [if_pos, nws, rootF_len, go_sem, seval] <;> rfl)) rfl; apply aops_end; rfl) (by (simp (disch := omega) only [go_sem, seval, lay, nws]); rfl) ?_
  refine AWP.seq ?_
  refine AWP.sR gok [0, 9] (by apply aops_mv (t := 0) (d := 7) (ag_n rfl) rfl rfl (by simp only [look_lay, look, seval] <;> rfl) rfl; apply aops_x (d := 8) (ag_n rfl) rfl (by first | (simp (disch := decide) only [rootF_len, go_sem, seval] <;> rfl) | (simp (disch := first | decide | omega) only [if_pos, nws, rootF_len, go_sem, seval] <;> rfl)) rfl; apply aops_x (d := 9) (ag_n rfl) rfl (by first | (simp (disch := decide) only [rootF_len, go_sem, seval] <;> rfl) | (simp (disch := first | decide | omega) only [if_pos, nws, rootF_len, go_sem, seval] <;> rfl)) rfl; apply aops_end; rfl) (by (simp (disch := omega) only [go_sem, seval, lay, nws]); rfl) ?_
  refine AWP.cond (b := _) rfl (fun h => ?_) (fun h => ?_) <;> (try simp only [decide_eq_true_eq, decide_eq_false_iff_not] at h)
  · skip
    refine AWP.sR gok [2] (by apply aops_x (d := 10) (ag_n rfl) rfl (by (simp (disch := first | decide | omega) only [if_pos, nws, rootF_len, go_sem, seval] <;> rfl)) rfl; apply aops_x (d := 11) (ag_n rfl) rfl (by (simp (disch := first | decide | omega) only [if_pos, nws, rootF_len, go_sem, seval] <;> rfl)) rfl; apply aops_as (t := 11) (d := 2) (ag_n rfl) rfl rfl (by simp only [look_lay, look, seval] <;> rfl) rfl; apply aops_end; rfl) (by (simp (disch := omega) only [go_sem, seval, lay, nws]); rfl) ?_
    refine AWP.ghost (Ghost.trans (Ghost.frz 1 (by simp only [go_sem, seval] <;> rfl)) (Ghost.trans (Ghost.typed 1 (.sl (.i .u8)) (by simp only [go_sem, seval] <;> rfl) (by simp only [go_sem, seval] <;> rfl)) (Ghost.gc (ρ := [1]) (by simp only [go_sem, seval] <;> rfl) rfl rfl rfl))) ?_
    refine AWP.ret ?_
    refine ⟨.inr rfl, _, (by simp only [go_sem, seval, rootF_len] <;> rfl), ?_⟩
    simp only [go_sem, seval, rootF_len, Option.some.injEq, AV.c.injEq, AV.agg.injEq, CV.v.injEq, Value.int.injEq, Value.bool.injEq, Row.raw.injEq, List.cons.injEq, CV.sl.injEq, and_true, true_and, and_self]
    rw [innerF_0 l (by omega)]
    exact ⟨rfl, rfl⟩
  · skip
    refine AWP.skip ?_
    change AWP _ _ _ _ _
    refine AWP.seq ?_
    refine AWP.sR gok [0, 14] (by apply aops_mv (t := 0) (d := 12) (ag_n rfl) rfl rfl (by simp only [look_lay, look, seval] <;> rfl) rfl; apply aops_x (d := 13) (ag_n rfl) rfl (by first | (simp (disch := decide) only [rootF_len, go_sem, seval] <;> rfl) | (simp (disch := first | decide | omega) only [if_pos, nws, rootF_len, go_sem, seval] <;> rfl)) rfl; apply aops_x (d := 14) (ag_n rfl) rfl (by first | (simp (disch := decide) only [rootF_len, go_sem, seval] <;> rfl) | (simp (disch := first | decide | omega) only [if_pos, nws, rootF_len, go_sem, seval] <;> rfl)) rfl; apply aops_end; rfl) (by (simp (disch := omega) only [go_sem, seval, lay, nws]); rfl) ?_
    refine AWP.cond (b := _) rfl (fun h => ?_) (fun h => ?_) <;> (try simp only [decide_eq_true_eq, decide_eq_false_iff_not] at h)
    · skip
      obtain ⟨x, hx⟩ : ∃ x, l[0]? = some x := ⟨_, List.getElem?_eq_getElem (by omega)⟩
      have ht := hc.1 x (List.mem_of_getElem? hx)
      have ht1 := ht.2
      refine AWP.sR gok [2] (by apply aops_x (d := 15) (ag_n rfl) rfl (by (simp (disch := first | decide | omega) only [if_pos, nws, rootF_len, hx, go_sem, seval] <;> rfl)) rfl; apply aops_mv (t := 0) (d := 16) (ag_n rfl) rfl rfl (by simp only [look_lay, look, seval] <;> rfl) rfl; apply aops_x (d := 17) (ag_n rfl) rfl (by (simp (disch := first | decide | omega) only [if_pos, nws, rootF_len, hx, go_sem, seval] <;> rfl)) rfl; apply aops_x (d := 18) (ag_n rfl) rfl (by first | (simp (disch := decide) only [rootF_len, hx, go_sem, seval] <;> rfl) | (simp (disch := first | decide | omega) only [if_pos, nws, rootF_len, hx, go_sem, seval] <;> rfl)) rfl; apply aops_x (d := 19) (ag_n rfl) rfl (by (simp (disch := first | decide | omega) only [if_pos, nws, rootF_len, hx, go_sem, seval] <;> rfl)) rfl; apply aops_x (d := 20) (ag_n rfl) rfl (by (simp (disch := first | decide | omega) only [if_pos, nws, rootF_len, hx, go_sem, seval] <;> rfl)) rfl; apply aops_as (t := 20) (d := 2) (ag_n rfl) rfl rfl (by simp only [look_lay, look, seval] <;> rfl) rfl; apply aops_end; rfl) (by (simp (disch := omega) only [go_sem, seval, lay, nws]); rfl) ?_
      have f1 : 1 + x.length ≤ x.length + 1 := by omega
      have f2 : (0 :: x).take (1 + x.length) = 0 :: x := List.take_of_length_le (by simp only [List.length_cons]; omega)
      refine AWP.ghost (Ghost.trans (Ghost.frz 2 (by simp only [go_sem, seval, f1, f2] <;> rfl)) (Ghost.trans (Ghost.typed 2 (.sl (.i .u8)) (by simp only [go_sem, seval] <;> rfl) (by simp only [go_sem, seval] <;> rfl)) (Ghost.gc (ρ := [2]) (by simp only [go_sem, seval] <;> rfl) rfl rfl rfl))) ?_
      refine AWP.ret ?_
      refine ⟨.inr rfl, _, (by simp only [go_sem, seval, rootF_len] <;> rfl), ?_⟩
      simp only [go_sem, seval, rootF_len, Option.some.injEq, AV.c.injEq, AV.agg.injEq, CV.v.injEq, Value.int.injEq, Value.bool.injEq, Row.raw.injEq, List.cons.injEq, CV.sl.injEq, and_true, true_and, and_self]
      rw [innerF_1 l (by omega), headD_get l x hx]
      exact ⟨rfl, rfl⟩
    · skip
      refine AWP.skip ?_
      change AWP _ _ _ _ _
      have h2 : 2 ≤ l.length := by omega
      have sp := splitN_spec l.length h2
      refine AWP.sR gok [0, 3] (by apply aops_x (d := 3) (ag_n rfl) rfl (by first | (simp (disch := decide) only [rootF_len, go_sem, seval] <;> rfl) | (simp (disch := first | decide | omega) only [if_pos, nws, rootF_len, go_sem, seval] <;> rfl)) rfl; apply aops_end; rfl) (by (simp (disch := omega) only [go_sem, seval, lay, nws]); rfl) ?_
      refine AWP.seqBlock ?_
      refine AWP.loopP (fun (p : Nat × Nat) => ⟨53, [(0, .c (.rs (.sl (.i .u8)) l)), (3, .c (ci .i64 (p.1 : Int)))], []⟩) (fun p => p.1 = 2 ^ p.2 ∧ p.1 < l.length) (fun p => l.length - p.1) ⟨1, 0⟩ (Ghost.refl _ _) ⟨rfl, by simp only; omega⟩ ?_
      rintro ⟨k, j⟩ ⟨hk, hm⟩
      simp only at hk hm ⊢
      have k1 : 1 ≤ k := by rw [hk]; exact Nat.pow_pos (by omega)
      refine AWP.seq ?_
      refine AWP.sR gok [0, 3, 25] (by apply aops_mv (t := 3) (d := 21) (ag_n rfl) rfl rfl (by simp only [look_lay, look, seval] <;> rfl) rfl; apply aops_x (d := 22) (ag_n rfl) rfl (by first | (simp (disch := decide) only [rootF_len, go_sem, seval] <;> rfl) | (simp (disch := first | decide | omega) only [if_pos, nws, rootF_len, go_sem, seval] <;> rfl)) rfl; apply aops_mv (t := 0) (d := 23) (ag_n rfl) rfl rfl (by simp only [look_lay, look, seval] <;> rfl) rfl; apply aops_x (d := 24) (ag_n rfl) rfl (by first | (simp (disch := decide) only [rootF_len, go_sem, seval] <;> rfl) | (simp (disch := first | decide | omega) only [if_pos, nws, rootF_len, go_sem, seval] <;> rfl)) rfl; apply aops_x (d := 25) (ag_n rfl) rfl (by first | (simp (disch := decide) only [rootF_len, go_sem, seval] <;> rfl) | (simp (disch := first | decide | omega) only [if_pos, nws, rootF_len, go_sem, seval] <;> rfl)) rfl; apply aops_end; rfl) (by (simp (disch := omega) only [go_sem, seval, lay, nws]); rfl) ?_
      refine AWP.cond (b := _) rfl (fun h => ?_) (fun h => ?_) <;> (try simp only [decide_eq_true_eq, decide_eq_false_iff_not] at h)
      · skip
        refine AWP.skip ?_
        change AWP _ _ _ _ _
        refine AWP.block ?_
        refine AWP.rT gok [0, 3] (by apply aops_mv (t := 3) (d := 26) (ag_n rfl) rfl rfl (by simp only [look_lay, look, seval] <;> rfl) rfl; apply aops_x (d := 27) (ag_n rfl) rfl (by first | (simp (disch := decide) only [rootF_len, go_sem, seval] <;> rfl) | (simp (disch := first | decide | omega) only [if_pos, nws, rootF_len, go_sem, seval] <;> rfl)) rfl; apply aops_as (t := 27) (d := 3) (ag_n rfl) rfl rfl (by simp only [look_lay, look, seval] <;> rfl) rfl; apply aops_end; rfl) (by (simp (disch := omega) only [go_sem, seval, lay, nws]); rfl) ?_
        refine ⟨(2 * k, j + 1), Ghost.of_eq (by simp), ⟨by simp only; rw [hk, Nat.pow_succ]; omega, by simp only; omega⟩, by simp only; omega⟩
      · skip
        refine AWP.exit ?_
        change AWP _ _ _ _ _
        have ek : k = splitN l.length := split_uniq l.length k j h2 hk hm (by omega)
        have t1 := textsOk_take hc.1 k
        have t2 := textsOk_drop hc.1 k
        have l1 : (l.take k).length = k := by rw [List.length_take]; omega
        have l2 : (l.drop k).length = l.length - k := by rw [List.length_drop]
        have e2 : (l.drop k).take (l.length - k) = l.drop k := List.take_of_length_le (by rw [l2]; exact Nat.le_refl _)
        have n1 := innerF_le (l.take k)
        have n2 := innerF_le (l.drop k)
        rw [l1] at n1
        rw [l2] at n2
        have ft : (rootF (l.take k) ++ rootF (l.drop k)).take 64 = rootF (l.take k) ++ rootF (l.drop k) := List.take_of_length_le (by rw [List.length_append, rootF_len, rootF_len]; exact Nat.le_refl _)
        refine AWP.sD gok (by kernel_rfl) [0, 3, 4, 5] [⟨[], true, 0⟩, ⟨[], true, 0⟩, ⟨[], true, 0⟩, ⟨[], true, 0⟩, ⟨[], true, 0⟩, ⟨[], true, 0⟩, ⟨[], true, 0⟩, ⟨[], true, 0⟩, ⟨[], true, 1⟩, ⟨[], true, 1⟩, ⟨[0], false, 0⟩, ⟨[1], false, 0⟩] (by kernel_rfl) (by first | rfl | simp only [go_sem, ↓reduceIte, Nat.reduceLT, Nat.reduceAdd]) (by first | rfl | simp only [go_sem, ↓reduceIte, Nat.reduceLT, Nat.reduceAdd]) (by (repeat (first | apply arun_step (by first | rfl | (simp only [go_sem, seval, lay]; rfl)) (by first | (simp (disch := decide) only [rootF_len, t1, t2, l1, l2, e2, Nat.sub_zero, go_sem, seval]; rfl) | (simp (disch := first | decide | omega) only [if_pos, nws, rootF_len, t1, t2, l1, l2, e2, Nat.sub_zero, go_sem, seval]; rfl)) (by first | (intro h; cases h; done) | (intro _; rfl) | (intro _; simp only [go_sem, seval, lay])) (by first | rfl | simp only [go_sem, seval, lay]) (by first | rfl | simp only [go_sem, seval, lay]) (by first | rfl | simp only [go_sem, seval, lay]) (by simp only [go_sem, seval, lay]; rfl) | apply arun_pass (by first | rfl | (simp only [go_sem, seval, lay]; rfl)) rfl (by simp only [go_sem, seval, lay]; rfl))); exact rfl) (by (simp (disch := omega) only [go_sem, seval, lay, nws]); rfl) ?_
        refine AWP.sD gok (by kernel_rfl) [4, 5, 6] [⟨[], true, 0⟩, ⟨[], true, 0⟩, ⟨[], true, 0⟩, ⟨[], true, 1⟩, ⟨[], true, 0⟩, ⟨[], true, 0⟩, ⟨[], true, 0⟩, ⟨[], true, 1⟩, ⟨[2, 3], false, 1⟩, ⟨[], true, 0⟩] (by kernel_rfl) (by first | rfl | simp only [go_sem, ↓reduceIte, Nat.reduceLT, Nat.reduceAdd]) (by first | rfl | simp only [go_sem, ↓reduceIte, Nat.reduceLT, Nat.reduceAdd]) (by (repeat (first | apply arun_step (by first | rfl | (simp only [go_sem, seval, lay]; rfl)) (by first | (simp (disch := decide) only [rootF_len, t1, t2, l1, l2, e2, Nat.sub_zero, go_sem, seval]; rfl) | (simp (disch := first | decide | omega) only [if_pos, nws, rootF_len, t1, t2, l1, l2, e2, Nat.sub_zero, go_sem, seval]; rfl)) (by first | (intro h; cases h; done) | (intro _; rfl) | (intro _; simp only [go_sem, seval, lay])) (by first | rfl | simp only [go_sem, seval, lay]) (by first | rfl | simp only [go_sem, seval, lay]) (by first | rfl | simp only [go_sem, seval, lay]) (by simp only [go_sem, seval, lay]; rfl) | apply arun_pass (by first | rfl | (simp only [go_sem, seval, lay]; rfl)) rfl (by simp only [go_sem, seval, lay]; rfl))); exact rfl) (by (simp (disch := omega) only [go_sem, seval, lay, nws]); rfl) ?_
        refine AWP.sD gok (by kernel_rfl) [2] [⟨[], true, 0⟩, ⟨[], true, 1⟩, ⟨[0], true, 0⟩, ⟨[5, 0], false, 1⟩, ⟨[1], true, 0⟩, ⟨[6, 1], false, 1⟩, ⟨[], true, 1⟩, ⟨[4, 7, 8], false, 1⟩, ⟨[], true, 0⟩] (by kernel_rfl) (by first | rfl | simp only [go_sem, ↓reduceIte, Nat.reduceLT, Nat.reduceAdd]) (by first | rfl | simp only [go_sem, ↓reduceIte, Nat.reduceLT, Nat.reduceAdd]) (by (repeat (first | apply arun_step (by first | rfl | (simp only [go_sem, seval, lay]; rfl)) (by first | (simp (disch := decide) only [rootF_len, Nat.sub_zero, List.length_append, ft, go_sem, seval]; rfl) | (simp (disch := first | decide | omega) only [if_pos, nws, rootF_len, Nat.sub_zero, List.length_append, ft, go_sem, seval]; rfl)) (by first | (intro h; cases h; done) | (intro _; rfl) | (intro _; simp only [go_sem, seval, lay])) (by first | rfl | simp only [go_sem, seval, lay]) (by first | rfl | simp only [go_sem, seval, lay]) (by first | rfl | simp only [go_sem, seval, lay]) (by simp only [go_sem, seval, lay]; rfl) | apply arun_pass (by first | rfl | (simp only [go_sem, seval, lay]; rfl)) rfl (by simp only [go_sem, seval, lay]; rfl))); exact rfl) (by (simp (disch := omega) only [go_sem, seval, lay, nws]); rfl) ?_
        refine AWP.ghost (Ghost.gc (ρ := [9]) (by simp only [go_sem, seval] <;> rfl) rfl rfl rfl) ?_
        refine AWP.ret ?_
        refine ⟨.inr rfl, _, (by simp only [go_sem, seval, rootF_len] <;> rfl), ?_⟩
        simp only [go_sem, seval, rootF_len, Option.some.injEq, AV.c.injEq, AV.agg.injEq, CV.v.injEq, Value.int.injEq, Value.bool.injEq, Row.raw.injEq, List.cons.injEq, CV.sl.injEq, and_true, true_and, and_self]
        rw [innerF_2 l h2, ← ek]
        exact ⟨by simp only [List.length_append, List.length_cons, List.length_nil], by rw [List.append_assoc]⟩
theorem En60_ok : ∀ N, EntryOk Try.prog 60 (En60 N)
  | 0 => foreN_ok (fun d hc => absurd hc.1 (Nat.not_lt_zero _))  
  | N + 1 => foreN_ok (fun d hc => K60 N (En60_ok N) d.1 hc.1 hc.2)  
theorem E60_ok : EntryOk Try.prog 60 E60 := foreN_ok (fun d hc => K60 _ (En60_ok _) d.1 (Nat.lt_succ_self _) hc)  
attribute [go_sem] E60
end Go.Proofs.Ytbdnhoddkdiogaa
