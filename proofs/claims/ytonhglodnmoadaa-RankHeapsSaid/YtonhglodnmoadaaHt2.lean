import Derived.Test.YtonhglodnmoadaaHt1
set_option linter.unusedSimpArgs false
set_option linter.unusedVariables false
namespace Go.Proofs.Ytonhglodnmoadaa
open Go.RowKit
abbrev c47 (l : List (Ty.D enT)) (n : Int) (k : Int) : Prop := (0 ≤ k ∧ k < l.length) ∧ l.length ≤ 100000
abbrev r47 (l : List (Ty.D enT)) (n : Int) (k : Int) : AV := .tup []
abbrev f47 (l : List (Ty.D enT)) (n : Int) (k : Int) : List (Ty.D enT) := HeapLaw.up ltI (l.length + 1) l k.toNat
abbrev q47 (l : List (Ty.D enT)) (n : Int) (k : Int) : Int := n
abbrev L47 (l : List (Ty.D enT)) (n : Int) (k : Int) : Hp := []
set_option maxRecDepth 100000 in
set_option maxHeartbeats 4000000 in
theorem K47 (l : List (Ty.D enT)) (n : Int) (k : Int) (hc : c47 l n k) : CallOk Try.prog 47 [.c (.ptr 0 0 1 0), .c (ci .i64 k)] [some (.raw [.v (.func (.func 22) #[] #[]), .sl 1 0 (l).length 3, ci .i64 n]), some (.ty enT (l))] (r47 l n k) (some (.raw [.v (.func (.func 22) #[] #[]), .sl 1 0 (f47 l n k).length 3, ci .i64 (q47 l n k)]) :: some (.ty enT (f47 l n k)) :: L47 l n k) := by
  have hc : (0 ≤ k ∧ k < l.length) ∧ l.length ≤ 100000 := hc
  obtain ⟨⟨hk0, hk1⟩, hl⟩ := hc
  obtain ⟨k, rfl⟩ := Int.eq_ofNat_of_zero_le hk0
  have gok := (Gam.cons_ok E58_ok (Gam.nil_ok _))
  refine callOk' Try.func47 54 [] _ rfl rfl rfl (by kernel_rfl) (by simp) [0, 1] rfl rfl (by simp) ?_
  simp only [params]
  refine AWP.block ?_
  refine AWP.loopP (fun (p : Nat × List ((Int × Int) × Int) × Nat) => ⟨54, [(0, .c (.ptr 0 0 1 0)), (1, .c (ci .i64 (p.1 : Int)))], [some (.raw [.v (.func (.func 22) #[] #[]), .sl 1 0 p.2.1.length 3, ci .i64 n]), some (.ty enT p.2.1)]⟩) (fun p => (p.1 < p.2.1.length ∧ p.2.1.length = l.length) ∧ p.1 < p.2.2 ∧ HeapLaw.up ltI p.2.2 p.2.1 p.1 = HeapLaw.up ltI (l.length + 1) l k) (fun p => p.1) (k, l, l.length + 1) (Ghost.refl _ _) ⟨⟨by simp only; omega, rfl⟩, by simp only; omega, rfl⟩ ?_
  rintro ⟨i, xs, f⟩ ⟨⟨i1, i2⟩, i3, i4⟩
  simp only at i1 i2 i3 i4 ⊢
  obtain ⟨g, rfl⟩ : ∃ g, f = g + 1 := ⟨f - 1, by omega⟩
  refine AWP.seq ?_
  refine AWP.sR gok [0, 1, 6] (by apply aops_mv (t := 1) (d := 5) (ag_n rfl) rfl rfl (by first | (simp only [look_lay, look, seval] <;> rfl) | fail) rfl; apply aops_x (d := 6) (ag_n rfl) rfl (by first | (simp (disch := decide) only [go_sem, seval] <;> rfl) | (simp (disch := first | decide | omega) only [if_pos, nws, go_sem, seval] <;> rfl)) rfl; apply aops_end; rfl) (by (simp (disch := omega) only [go_sem, seval, lay, nws]); rfl) ?_
  refine AWP.cond (b := _) rfl (fun h => ?_) (fun h => ?_) <;> (try simp only [decide_eq_true_eq, decide_eq_false_iff_not] at h)
  · skip
    refine AWP.skip ?_
    change AWP _ _ _ _ _
    refine AWP.block ?_
    have hi0 : i ≠ 0 := by omega
    obtain ⟨a, ha⟩ : ∃ a, xs[i]? = some a := ⟨_, List.getElem?_eq_getElem i1⟩
    obtain ⟨b, hb⟩ : ∃ b, xs[(i - 1) / 2]? = some b := ⟨_, List.getElem?_eq_getElem (by omega)⟩
    have us := HeapLaw.up_step (lt := ltI) xs i g a b hi0 ha hb
    have eo : ((i : Int) - 1) / 2 = (((i - 1) / 2 : Nat) : Int) := by omega
    have ol : (i - 1) / 2 < xs.length := by omega
    have hn2 : ¬ 3 = xs.length * 3 := by omega
    have hb2 : (xs.set i b)[(i - 1) / 2]? = some b := by rw [List.getElem?_set_ne (by omega), hb]
    refine AWP.sR gok [0, 1, 4] (by apply aops_mv (t := 1) (d := 7) (ag_n rfl) rfl rfl (by first | (simp only [look_lay, look, seval] <;> rfl) | fail) rfl; apply aops_x (d := 8) (ag_n rfl) rfl (by first | (simp (disch := decide) only [eo, go_sem, seval] <;> rfl) | (simp (disch := first | decide | omega) only [if_pos, nws, eo, go_sem, seval] <;> rfl)) rfl; apply aops_x (d := 9) (ag_n rfl) rfl (by (simp (disch := first | decide | omega) only [if_pos, nws, eo, go_sem, seval] <;> rfl)) rfl; apply aops_as (t := 9) (d := 4) (ag_n rfl) rfl rfl (by first | (simp only [look_lay, look, seval] <;> rfl) | fail) rfl; apply aops_end; rfl) (by (simp (disch := omega) only [go_sem, seval, lay, nws]); rfl) ?_
    refine AWP.seq ?_
    refine AWP.sD gok (by kernel_rfl) [0, 1, 4, 26] [⟨[], true, 0⟩, ⟨[], true, 0⟩, ⟨[], true, 0⟩, ⟨[], true, 0⟩, ⟨[0], true, 0⟩, ⟨[], true, 0⟩, ⟨[], true, 0⟩, ⟨[1], true, 0⟩, ⟨[], true, 0⟩, ⟨[], true, 0⟩, ⟨[], true, 0⟩, ⟨[0], true, 0⟩, ⟨[], true, 0⟩, ⟨[], true, 0⟩, ⟨[1], true, 0⟩, ⟨[0, 1], true, 0⟩, ⟨[], true, 0⟩] (by kernel_rfl) (by first | rfl | simp only [go_sem, ↓reduceIte, Nat.reduceLT, Nat.reduceAdd]) (by first | rfl | simp only [go_sem, ↓reduceIte, Nat.reduceLT, Nat.reduceAdd]) (by (repeat (first | apply arun_step (by first | exact ag_n rfl | exact ag_b rfl rfl rfl (by first | (simp only [look_lay, look, seval] <;> rfl) | fail) (by first | rfl | (simp only [ha, hb, decide_true, decide_false] <;> rfl) | fail) | fail) (by first | (simp (disch := decide) only [ha, hb, go_sem, seval]; rfl) | (simp (disch := first | decide | omega) only [if_pos, nws, ha, hb, go_sem, seval]; rfl)) (by first | (intro h; cases h; done) | (intro _; rfl) | (intro _; simp only [go_sem, seval, lay])) (by first | rfl | simp only [go_sem, seval, lay]) (by first | rfl | simp only [go_sem, seval, lay]) (by first | rfl | simp only [go_sem, seval, lay]) (by simp only [go_sem, seval, lay]; rfl) | apply arun_pass (by first | exact ag_f rfl rfl rfl (by first | (simp only [look_lay, look, seval] <;> rfl) | fail) (by first | rfl | (simp only [ha, hb, decide_true, decide_false] <;> rfl) | fail) | exact ag_u rfl rfl rfl (by first | (simp only [look_lay, look, seval] <;> rfl) | fail) | fail) rfl (by simp only [go_sem, seval, lay]; rfl))); exact rfl) (by (simp (disch := omega) only [go_sem, seval, lay, nws]); rfl) ?_
    refine AWP.cond (b := _) rfl (fun h => ?_) (fun h => ?_) <;> (try simp only [decide_eq_true_eq, decide_eq_false_iff_not] at h)
    · skip
      refine AWP.ret ?_
      refine ⟨.inr rfl, _, (by simp only [go_sem, seval] <;> rfl), ?_⟩
      simp only [go_sem, seval, Option.some.injEq, AV.c.injEq, AV.agg.injEq, CV.v.injEq, Value.int.injEq, Value.bool.injEq, Row.raw.injEq, List.cons.injEq, CV.sl.injEq, and_true, true_and, and_self]
      have hab : ltI a b = false := by simpa using h
      rw [hab, if_neg (by simp)] at us
      have e : f47 l n (k : Int) = xs := by rw [← us, i4]; rfl
      rw [e]; exact ⟨rfl, rfl⟩
    · skip
      refine AWP.skip ?_
      change AWP _ _ _ _ _
      refine AWP.sD gok (by kernel_rfl) [0, 4] [⟨[], true, 0⟩, ⟨[], true, 0⟩, ⟨[], true, 0⟩, ⟨[0], true, 0⟩, ⟨[], true, 0⟩, ⟨[], true, 0⟩, ⟨[], true, 0⟩, ⟨[], true, 0⟩, ⟨[0], true, 0⟩, ⟨[], true, 0⟩, ⟨[], true, 0⟩, ⟨[], true, 0⟩, ⟨[], true, 0⟩, ⟨[0], true, 0⟩, ⟨[], true, 0⟩, ⟨[], true, 0⟩, ⟨[1], true, 0⟩, ⟨[], true, 0⟩, ⟨[], true, 0⟩, ⟨[], true, 0⟩, ⟨[0], true, 0⟩, ⟨[], true, 0⟩, ⟨[], true, 0⟩, ⟨[1], true, 0⟩, ⟨[], true, 0⟩, ⟨[1], false, 0⟩, ⟨[], true, 0⟩, ⟨[1], false, 0⟩] (by kernel_rfl) (by first | rfl | simp only [go_sem, ↓reduceIte, Nat.reduceLT, Nat.reduceAdd]) (by first | rfl | simp only [go_sem, ↓reduceIte, Nat.reduceLT, Nat.reduceAdd]) (by (repeat (first | apply arun_step (by first | exact ag_n rfl | exact ag_b rfl rfl rfl (by first | (simp only [look_lay, look, seval] <;> rfl) | fail) (by first | rfl | (simp only [ha, hb, List.length_set, hn2, hb2, and_false, decide_true, decide_false] <;> rfl) | fail) | fail) (by first | (simp (disch := decide) only [ha, hb, List.length_set, hn2, hb2, and_false, go_sem, seval]; rfl) | (simp (disch := first | decide | omega) only [if_pos, nws, ha, hb, List.length_set, hn2, hb2, and_false, go_sem, seval]; rfl)) (by first | (intro h; cases h; done) | (intro _; rfl) | (intro _; simp only [go_sem, seval, lay])) (by first | rfl | simp only [go_sem, seval, lay]) (by first | rfl | simp only [go_sem, seval, lay]) (by first | rfl | simp only [go_sem, seval, lay]) (by simp only [go_sem, seval, lay]; rfl) | apply arun_pass (by first | exact ag_f rfl rfl rfl (by first | (simp only [look_lay, look, seval] <;> rfl) | fail) (by first | rfl | (simp only [ha, hb, List.length_set, hn2, hb2, and_false, decide_true, decide_false] <;> rfl) | fail) | exact ag_u rfl rfl rfl (by first | (simp only [look_lay, look, seval] <;> rfl) | fail) | fail) rfl (by simp only [go_sem, seval, lay]; rfl))); exact rfl) (by (simp (disch := omega) only [go_sem, seval, lay, nws]); rfl) ?_
      refine AWP.rT gok [0, 1] (by apply aops_mv (t := 4) (d := 53) (ag_n rfl) rfl rfl (by first | (simp only [look_lay, look, seval] <;> rfl) | fail) rfl; apply aops_as (t := 53) (d := 1) (ag_n rfl) rfl rfl (by first | (simp only [look_lay, look, seval] <;> rfl) | fail) rfl; apply aops_end; rfl) (by (simp (disch := omega) only [go_sem, seval, lay, nws]); rfl) ?_
      have hab : ltI a b = true := by simpa using h
      rw [if_pos hab] at us
      exact ⟨((i - 1) / 2, HeapLaw.swp xs i ((i - 1) / 2), g), Ghost.of_eq (by rw [HeapLaw.swp_eq ha hb]; simp only [List.length_set]), ⟨⟨by simp only; rw [HeapLaw.swp_len]; omega, by simp only; rw [HeapLaw.swp_len]; exact i2⟩, by simp only; omega, by simp only; rw [← us, i4]⟩, by simp only; omega⟩
  · skip
    refine AWP.exit ?_
    refine ⟨.inl rfl, _, (by simp only [go_sem, seval] <;> rfl), ?_⟩
    simp only [go_sem, seval, Option.some.injEq, AV.c.injEq, AV.agg.injEq, CV.v.injEq, Value.int.injEq, Value.bool.injEq, Row.raw.injEq, List.cons.injEq, CV.sl.injEq, and_true, true_and, and_self]
    have e0 : i = 0 := by omega
    subst e0
    rw [HeapLaw.up_stop] at i4
    have e : f47 l n (k : Int) = xs := by rw [i4]; rfl
    rw [e]; exact ⟨rfl, rfl⟩
def E47 : Entry := objE 22 enT [(.i .i64)] (fun l p d => c47 l p d.1) (fun l p d => r47 l p d.1) (fun l p d => f47 l p d.1) (fun l p d => q47 l p d.1) (fun l p d => L47 l p d.1)
theorem E47_ok : EntryOk Try.prog 47 E47 := objE_ok rfl (fun _ _ _ => rfl) (fun _ _ _ => rfl) fun l p d hc => K47 l p d.1 hc
attribute [go_sem] E47 c47 r47 f47 q47 L47
end Go.Proofs.Ytonhglodnmoadaa
