import Derived.Test.YtggomleegbnhbaaBl6
set_option linter.unusedSimpArgs false
set_option linter.unusedVariables false
namespace Go.Proofs.Ytggomleegbnhbaa
open Go.RowKit
def twF : List (Int × Int) → List Bool → Bool
  | [], _ => false
  | p :: l, s => if s[p.1.toNat]?.getD false = true then true else twF l (s.set p.1.toNat true)
def twiceF (l : List (Int × Int)) : Bool := twF l (List.replicate 256 false)
def ptsOk (l : List (Int × Int)) : Prop := ∀ p ∈ l, byteOk p.1 ∧ byteOk p.2
instance (l : List (Int × Int)) : Decidable (ptsOk l) := inferInstanceAs (Decidable (∀ p ∈ l, byteOk p.1 ∧ byteOk p.2))
abbrev c35 (l : (List (Int × Int))) : Prop := ptsOk l ∧ l.length ≤ 1000000
abbrev r35 (l : (List (Int × Int))) : AV := .c (cb (twiceF l))
abbrev L35 (l : (List (Int × Int))) : Hp := []
def E35 : Entry := pureN [(.sl (.pr (.i .u8) (.i .u8)))] (fun d => c35 d.1) (fun d => r35 d.1) (fun d => L35 d.1)
set_option maxRecDepth 100000 in
set_option maxHeartbeats 4000000 in
theorem K35 (l : (List (Int × Int))) (hc : c35 l) : CallOk Try.prog 35 [.c (.rs (.pr (.i .u8) (.i .u8)) l)] [] (r35 l) (L35 l) := by
  have hc : ptsOk l ∧ l.length ≤ 1000000 := hc
  obtain ⟨hp, hl⟩ := hc
  refine callOk' Try.func35 20 [.tmp 2] _ rfl rfl rfl (by kernel_rfl) (by simp) [] rfl rfl (by simp) ?_
  simp only [params]
  refine AWP.sR (Gam.nil_ok _) [0] (by apply aops_x (d := 2) (ag_n rfl) rfl (by first | (simp (disch := decide) only [go_sem, seval] <;> rfl) | (simp (disch := first | decide | omega) only [if_pos, nws, go_sem, seval] <;> rfl)) rfl; apply aops_end; rfl) (by (simp (disch := omega) only [go_sem, seval, lay, nws]); rfl) ?_
  refine AWP.sR (Gam.nil_ok _) [0, 3] (by apply aops_x (d := 3) (ag_n rfl) rfl (by first | (simp (disch := decide) only [go_sem, seval] <;> rfl) | (simp (disch := first | decide | omega) only [if_pos, nws, go_sem, seval] <;> rfl)) rfl; apply aops_end; rfl) (by (simp (disch := omega) only [go_sem, seval, lay, nws]); rfl) ?_
  refine AWP.seq ?_
  refine AWP.sR (Gam.nil_ok _) [3, 6, 7, 8] (by apply aops_mv (t := 0) (d := 6) (ag_n rfl) rfl rfl (by first | (simp only [look_lay, look, seval] <;> rfl) | fail) rfl; apply aops_x (d := 7) (ag_n rfl) rfl (by first | (simp (disch := decide) only [go_sem, seval] <;> rfl) | (simp (disch := first | decide | omega) only [if_pos, nws, go_sem, seval] <;> rfl)) rfl; apply aops_x (d := 8) (ag_n rfl) rfl (by first | (simp (disch := decide) only [go_sem, seval] <;> rfl) | (simp (disch := first | decide | omega) only [if_pos, nws, go_sem, seval] <;> rfl)) rfl; apply aops_end; rfl) (by (simp (disch := omega) only [go_sem, seval, lay, nws]); rfl) ?_
  refine AWP.block ?_
  refine AWP.loopP (fun (p : Nat × List Bool) => ⟨20, [(3, .c (.ptr 0 0 1 0)), (6, .c (.rs (.pr (.i .u8) (.i .u8)) l)), (7, .c (ci .i64 (l.length : Int))), (8, .c (ci .i64 (p.1 : Int)))], [some (.ty .bo p.2)]⟩) (fun p => p.1 ≤ l.length ∧ p.2.length = 256 ∧ twF (l.drop p.1) p.2 = twiceF l) (fun p => l.length - p.1) (0, List.replicate 256 false) (Ghost.refl _ _) ⟨Nat.zero_le _, by simp, rfl⟩ ?_
  rintro ⟨i, s⟩ ⟨hi, hs, ht⟩
  simp only at hi hs ht ⊢
  refine AWP.sR (Gam.nil_ok _) [3, 6, 7, 8, 9] (by apply aops_x (d := 9) (ag_n rfl) rfl (by first | (simp (disch := decide) only [go_sem, seval] <;> rfl) | (simp (disch := first | decide | omega) only [if_pos, nws, go_sem, seval] <;> rfl)) rfl; apply aops_end; rfl) (by (simp (disch := omega) only [go_sem, seval, lay, nws]); rfl) ?_
  refine AWP.seq ?_
  refine AWP.cond (b := _) rfl (fun h => ?_) (fun h => ?_) <;> (try simp only [decide_eq_true_eq, decide_eq_false_iff_not] at h)
  · skip
    refine AWP.skip ?_
    change AWP _ _ _ _ _
    refine AWP.seqBlock ?_
    obtain ⟨⟨x, y⟩, hx⟩ : ∃ x, l[i]? = some x := ⟨_, List.getElem?_eq_getElem (by omega)⟩
    have hil : i < l.length := by omega
    have hxo := (hp _ (List.mem_of_getElem? hx)).1
    obtain ⟨x, rfl⟩ := Int.eq_ofNat_of_zero_le hxo.1
    have hx2 : x < 256 := by have := hxo.2; simp only at this; omega
    have hxs : x < s.length := by omega
    obtain ⟨b, hb⟩ : ∃ b, s[x]? = some b := ⟨_, List.getElem?_eq_getElem (by omega)⟩
    have hd : l.drop i = ((x : Int), y) :: l.drop (i + 1) := by rw [List.drop_eq_getElem_cons hil]; congr 1; rw [List.getElem?_eq_getElem hil] at hx; exact Option.some.inj hx
    rw [hd] at ht
    have ht : (if s[x]?.getD false = true then true else twF (l.drop (i + 1)) (s.set x true)) = twiceF l := ht
    rw [hb, Option.getD_some] at ht
    refine AWP.sR (Gam.nil_ok _) [3, 5, 6, 7, 8] (by apply aops_x (d := 10) (ag_n rfl) rfl (by (simp (disch := first | decide | omega) only [if_pos, nws, hx, go_sem, seval] <;> rfl)) rfl; apply aops_x (d := 11) (ag_n rfl) rfl (by first | (simp (disch := decide) only [hx, go_sem, seval] <;> rfl) | (simp (disch := first | decide | omega) only [if_pos, nws, hx, go_sem, seval] <;> rfl)) rfl; apply aops_x (d := 5) (ag_n rfl) rfl (by first | (simp (disch := decide) only [hx, go_sem, seval] <;> rfl) | (simp (disch := first | decide | omega) only [if_pos, nws, hx, go_sem, seval] <;> rfl)) rfl; apply aops_s (ag_n rfl) rfl (by first | (simp (disch := decide) only [hx, go_sem, seval] <;> rfl) | (simp (disch := first | decide | omega) only [if_pos, nws, hx, go_sem, seval] <;> rfl)); apply aops_end; rfl) (by (simp (disch := omega) only [go_sem, seval, lay, nws]); rfl) ?_
    refine AWP.seq ?_
    refine AWP.sR (Gam.nil_ok _) [3, 5, 6, 7, 8, 15] (by apply aops_x (d := 12) (ag_n rfl) rfl (by first | (simp (disch := decide) only [hb, hs, hx2, go_sem, seval] <;> rfl) | (simp (disch := first | decide | omega) only [if_pos, nws, hb, hs, hx2, go_sem, seval] <;> rfl)) rfl; apply aops_x (d := 13) (ag_n rfl) rfl (by first | (simp (disch := decide) only [hb, hs, hx2, go_sem, seval] <;> rfl) | (simp (disch := first | decide | omega) only [if_pos, nws, hb, hs, hx2, go_sem, seval] <;> rfl)) rfl; apply aops_x (d := 14) (ag_n rfl) rfl (by (simp (disch := first | decide | omega) only [if_pos, nws, hb, hs, hx2, go_sem, seval] <;> rfl)) rfl; apply aops_x (d := 15) (ag_n rfl) rfl (by first | (simp (disch := decide) only [hb, hs, hx2, go_sem, seval] <;> rfl) | (simp (disch := first | decide | omega) only [if_pos, nws, hb, hs, hx2, go_sem, seval] <;> rfl)) rfl; apply aops_end; rfl) (by (simp (disch := omega) only [go_sem, seval, lay, nws]); rfl) ?_
    refine AWP.cond (b := _) rfl (fun h => ?_) (fun h => ?_) <;> (try simp only [decide_eq_true_eq, decide_eq_false_iff_not] at h)
    · skip
      refine AWP.sR (Gam.nil_ok _) [2] (by apply aops_x (d := 2) (ag_n rfl) rfl (by first | (simp (disch := decide) only [go_sem, seval] <;> rfl) | (simp (disch := first | decide | omega) only [if_pos, nws, go_sem, seval] <;> rfl)) rfl; apply aops_end; rfl) (by (simp (disch := omega) only [go_sem, seval, lay, nws]); rfl) ?_
      refine AWP.ret ?_
      refine ⟨.inr rfl, _, (by simp only [go_sem, seval] <;> rfl), ?_⟩
      simp only [go_sem, seval, Option.some.injEq, AV.c.injEq, AV.agg.injEq, CV.v.injEq, Value.int.injEq, Value.bool.injEq, Row.raw.injEq, List.cons.injEq, CV.sl.injEq, and_true, true_and, and_self]
      rw [if_pos h] at ht; rw [← ht]
    · skip
      refine AWP.skip ?_
      change AWP _ _ _ _ _
      refine AWP.rT (Gam.nil_ok _) [3, 6, 7, 8] (by apply aops_x (d := 16) (ag_n rfl) rfl (by first | (simp (disch := decide) only [hs, hx2, go_sem, seval] <;> rfl) | (simp (disch := first | decide | omega) only [if_pos, nws, hs, hx2, go_sem, seval] <;> rfl)) rfl; apply aops_x (d := 17) (ag_n rfl) rfl (by first | (simp (disch := decide) only [hs, hx2, go_sem, seval] <;> rfl) | (simp (disch := first | decide | omega) only [if_pos, nws, hs, hx2, go_sem, seval] <;> rfl)) rfl; apply aops_x (d := 18) (ag_n rfl) rfl (by (simp (disch := first | decide | omega) only [if_pos, nws, hs, hx2, go_sem, seval] <;> rfl)) rfl; apply aops_s (ag_n rfl) rfl (by first | (simp (disch := decide) only [hs, hx2, go_sem, seval] <;> rfl) | (simp (disch := first | decide | omega) only [if_pos, nws, hs, hx2, go_sem, seval] <;> rfl)); apply aops_end; rfl) (by (simp (disch := omega) only [go_sem, seval, lay, nws]); rfl) ?_
      change AWP _ _ _ _ _
      refine AWP.rT (Gam.nil_ok _) [3, 6, 7, 8] (by apply aops_x (d := 19) (ag_n rfl) rfl (by first | (simp (disch := decide) only [go_sem, seval] <;> rfl) | (simp (disch := first | decide | omega) only [if_pos, nws, go_sem, seval] <;> rfl)) rfl; apply aops_mv (t := 19) (d := 8) (ag_n rfl) rfl rfl (by first | (simp only [look_lay, look, seval] <;> rfl) | fail) rfl; apply aops_end; rfl) (by (simp (disch := omega) only [go_sem, seval, lay, nws]); rfl) ?_
      rw [h, if_neg (by decide)] at ht; exact ⟨(i + 1, s.set x true), Ghost.trans (Ghost.gc (ρ := [0]) (by simp only [go_sem, seval] <;> rfl) rfl rfl rfl) (Ghost.of_eq (by simp only [Int.natCast_add, Int.cast_ofNat_Int])), ⟨by simp only; omega, by simp only [List.length_set]; exact hs, ht⟩, by simp only; omega⟩
  · skip
    refine AWP.exit ?_
    change AWP _ _ _ _ _
    refine AWP.sR (Gam.nil_ok _) [2] (by apply aops_x (d := 2) (ag_n rfl) rfl (by first | (simp (disch := decide) only [go_sem, seval] <;> rfl) | (simp (disch := first | decide | omega) only [if_pos, nws, go_sem, seval] <;> rfl)) rfl; apply aops_end; rfl) (by (simp (disch := omega) only [go_sem, seval, lay, nws]); rfl) ?_
    refine AWP.ret ?_
    refine ⟨.inr rfl, _, (by simp only [go_sem, seval] <;> rfl), ?_⟩
    simp only [go_sem, seval, Option.some.injEq, AV.c.injEq, AV.agg.injEq, CV.v.injEq, Value.int.injEq, Value.bool.injEq, Row.raw.injEq, List.cons.injEq, CV.sl.injEq, and_true, true_and, and_self]
    have ei : i = l.length := by omega
    subst ei
    rw [List.drop_length] at ht; rw [← ht]; rfl
theorem E35_ok : EntryOk Try.prog 35 E35 := pureN_ok (fun d hc => K35 d.1 hc) (fun _ => rfl) (fun _ => rfl)
attribute [go_sem] E35 c35 r35 L35
theorem trimF_sub : ∀ l : List Int, ∀ x ∈ trimF l, x ∈ l := fun l x hx => by
  rw [← trimF_take l] at hx; exact List.mem_of_mem_take hx
theorem trimF_ok {l : List Int} (h : bytesOk l) : bytesOk (trimF l) := fun x hx => h x (trimF_sub l x hx)
theorem trimF_nil : ∀ {l : List Int}, (∀ x ∈ l, x = 0) → trimF l = []
  | [], _ => rfl
  | x :: l, h => by
    unfold trimF
    rw [if_pos (trimF_nil fun y hy => h y (List.mem_cons_of_mem _ hy)), if_pos (h x List.mem_cons_self)]
theorem trimF_le : ∀ {l : List Int} {n : Nat}, (∀ k, n ≤ k → l[k]?.getD 0 = 0) → (trimF l).length ≤ n
  | [], n, _ => Nat.zero_le _
  | x :: l, 0, h => by
    rw [trimF_nil fun y hy => by
      obtain ⟨i, hi, rfl⟩ := List.getElem_of_mem hy
      have := h i (Nat.zero_le _)
      rwa [List.getElem?_eq_getElem hi] at this]
    simp
  | x :: l, n + 1, h => by
    have ih := trimF_le (l := l) (n := n) fun k hk => h (k + 1) (by omega)
    unfold trimF
    split
    · split <;> simp
    · rw [List.length_cons]; omega
theorem set_ok {l : List Int} (h : bytesOk l) {v : Int} (hv : byteOk v) (i : Nat) : bytesOk (l.set i v) := fun x hx => by
  rcases List.mem_or_eq_of_mem_set hx with h1 | rfl
  · exact h x h1
  · exact hv
theorem gd_ok {l : List Int} (h : bytesOk l) (i : Nat) : byteOk (l[i]?.getD 0) := getD_ok h i
theorem mulStep_ok {x : Int} {b : List Int} {i : Nat} {out : List Int} (hx : byteOk x) (hb : bytesOk b) (ho : bytesOk out) : ∀ n, bytesOk (mulStep x b i out n)
  | 0 => ho
  | n + 1 => set_ok (mulStep_ok hx hb ho n) (bx_ok (gd_ok (mulStep_ok hx hb ho n) _) (mulT_ok hx (gd_ok hb _))) _
theorem mulM_ok {a b : List Int} (ha : bytesOk a) (hb : bytesOk b) : ∀ i, bytesOk (mulM a b i)
  | 0 => fun x hx => by rw [(List.mem_replicate.1 hx).2]; exact ⟨by decide, by decide⟩
  | i + 1 => mulStep_ok (gd_ok ha i) hb (mulM_ok ha hb i) _
theorem mulP_ok {a b : List Int} (ha : bytesOk a) (hb : bytesOk b) : bytesOk (mulP a b) := trimF_ok (mulM_ok ha hb _)
theorem mulStep_far {x : Int} {b : List Int} {i : Nat} {out : List Int} {k : Nat} : ∀ n, i + n ≤ k → (mulStep x b i out n)[k]? = out[k]?
  | 0, _ => rfl
  | n + 1, h => by rw [mulStep, List.getElem?_set_ne (by omega), mulStep_far n (by omega)]
theorem mulM_far (a b : List Int) {k : Nat} : ∀ i, i + b.length ≤ k + 1 → (mulM a b i)[k]?.getD 0 = 0
  | 0, _ => by
    unfold mulM
    rw [List.getElem?_replicate]; split <;> rfl
  | i + 1, h => by rw [mulM, mulStep_far _ (by omega), mulM_far a b i (by omega)]
theorem mulP_len (a b : List Int) : (mulP a b).length ≤ a.length + b.length - 1 := trimF_le fun k hk => mulM_far a b _ (by omega)
theorem sealN_ok' {t p : List Int} (ht : bytesOk t) (hp : bytesOk p) : ∀ n, bytesOk (sealN t p n)
  | 0 => ht
  | n + 1 => set_ok (sealN_ok' ht hp n) (bx_ok (gd_ok (sealN_ok' ht hp n) _) (gd_ok hp _)) _
theorem addP_ok {a b : List Int} (ha : bytesOk a) (hb : bytesOk b) : bytesOk (addP a b) := by
  unfold addP; split
  · exact trimF_ok (sealN_ok' hb ha _)
  · exact trimF_ok (sealN_ok' ha hb _)
theorem addP_len (a b : List Int) {n : Nat} (ha : a.length ≤ n) (hb : b.length ≤ n) : (addP a b).length ≤ n := by
  unfold addP; split
  · exact Nat.le_trans (trimF_len _) (by rw [sealN_len]; exact hb)
  · exact Nat.le_trans (trimF_len _) (by rw [sealN_len]; exact ha)
theorem evalF_ok {x : Int} (hx : byteOk x) : ∀ {a : List Int}, bytesOk a → byteOk (evalF a x)
  | [], _ => (by decide : byteOk 0)
  | c :: a, h => bx_ok (mulT_ok (evalF_ok hx fun y hy => h y (List.mem_cons_of_mem _ hy)) hx) (h c List.mem_cons_self)
theorem divT_ok {a b : Int} (ha : byteOk a) (hb : byteOk b) : byteOk (divT a b) := by
  have h1 := (lg_at (a := a.toNat) (by have := ha.2; have := ha.1; omega)).2
  have h2 := (lg_at (a := b.toNat) (by have := hb.2; have := hb.1; omega)).2
  unfold divT divN
  split
  · exact (by decide : byteOk 0)
  · exact (ex_at (by omega)).2
def thStep (s : List Int × List Int) (p : Int × Int) : List Int × List Int :=
  (addP s.1 (mulP s.2 [divT (bx p.2 (evalF s.1 p.1)) (evalF s.2 p.1)]), mulP s.2 [p.1, 1])
def thN (l : List (Int × Int)) : Nat → List Int × List Int
  | 0 => ([], [1])
  | i + 1 => thStep (thN l i) (l[i]?.getD (0, 0))
theorem one_ok {a : Int} (h : byteOk a) : bytesOk [a] := fun x hx => by rw [List.mem_singleton.1 hx]; exact h
theorem two_ok {a b : Int} (h : byteOk a) (k : byteOk b) : bytesOk [a, b] := fun x hx => by
  rcases List.mem_cons.1 hx with rfl | hx
  · exact h
  · rw [List.mem_singleton.1 hx]; exact k
theorem ptAt_ok {l : List (Int × Int)} (h : ptsOk l) (i : Nat) : byteOk (l[i]?.getD (0, 0)).1 ∧ byteOk (l[i]?.getD (0, 0)).2 := by
  by_cases hi : i < l.length
  · rw [List.getElem?_eq_getElem hi]; exact h _ (List.getElem_mem hi)
  · rw [List.getElem?_eq_none (by omega)]; exact ⟨⟨by decide, by decide⟩, ⟨by decide, by decide⟩⟩
theorem thN_ok {l : List (Int × Int)} (h : ptsOk l) : ∀ i, bytesOk (thN l i).1 ∧ bytesOk (thN l i).2
  | 0 => ⟨fun x hx => (List.not_mem_nil hx).elim, one_ok (by decide : byteOk 1)⟩
  | i + 1 => by
    obtain ⟨h1, h2⟩ := thN_ok h i
    have hp := ptAt_ok h i
    exact ⟨addP_ok h1 (mulP_ok h2 (one_ok (divT_ok (bx_ok hp.2 (evalF_ok hp.1 h1)) (evalF_ok hp.1 h2)))), mulP_ok h2 (two_ok hp.1 (by decide : byteOk 1))⟩
theorem thN_len (l : List (Int × Int)) : ∀ i, (thN l i).1.length ≤ i ∧ (thN l i).2.length ≤ i + 1
  | 0 => ⟨Nat.le_refl _, Nat.le_refl _⟩
  | i + 1 => by
    obtain ⟨h1, h2⟩ := thN_len l i
    refine ⟨addP_len _ _ (by omega) (Nat.le_trans (mulP_len _ _) ?_), Nat.le_trans (mulP_len _ _) ?_⟩
    · simp only [List.length_cons, List.length_nil]; omega
    · simp only [List.length_cons, List.length_nil]; omega
def thruF (l : List (Int × Int)) : List Int := if twiceF l = true then [] else (thN l l.length).1
set_option maxRecDepth 100000 in
set_option maxHeartbeats 4000000 in
theorem thru_c (l : List (Int × Int)) (hp : ptsOk l) (ll : l.length ≤ 100000) : CallOk Try.prog 30 [.c (.ptr 0 0 1 0), .c (.rs (.pr (.i .u8) (.i .u8)) l)] [some (.ty FT [Tab])] (.tup [.c (.sl 1 0 (thruF l).length 1), .c (ci .i64 (if twiceF l = true then 1 else 0))]) [some (.ty FT [Tab]), some (.ty (.i .u8) (thruF l))] := by
  have ll2 : l.length ≤ 1000000 := by omega
  by_cases ht : twiceF l = true
  · have e : thruF l = [] := by unfold thruF; rw [if_pos ht]
    rw [e, if_pos ht]
    have gok := (Gam.cons_ok E21_ok (Gam.cons_ok E29_ok (Gam.cons_ok E35_ok (Gam.cons_ok E36_ok (Gam.cons_ok E37_ok (Gam.cons_ok E38_ok (Gam.nil_ok _)))))))
    refine callOk' Try.func30 54 [.tmp 4, .tmp 5] _ rfl rfl rfl (by kernel_rfl) (by simp) [0, 1] rfl rfl (by simp) ?_
    simp only [params]
    refine AWP.sR gok [0, 1] (by apply aops_x (d := 4) (ag_n rfl) rfl (by first | (simp (disch := decide) only [hp, ll2, ht, go_sem, seval] <;> rfl) | (simp (disch := first | decide | omega) only [if_pos, nws, hp, ll2, ht, go_sem, seval] <;> rfl)) rfl; apply aops_x (d := 5) (ag_n rfl) rfl (by first | (simp (disch := decide) only [hp, ll2, ht, go_sem, seval] <;> rfl) | (simp (disch := first | decide | omega) only [if_pos, nws, hp, ll2, ht, go_sem, seval] <;> rfl)) rfl; apply aops_end; rfl) (by (simp (disch := omega) only [go_sem, seval, lay, nws]); rfl) ?_
    refine AWP.seq ?_
    refine AWP.sR gok [0, 1, 13] (by apply aops_mv (t := 1) (d := 12) (ag_n rfl) rfl rfl (by first | (simp only [look_lay, look, seval] <;> rfl) | fail) rfl; apply aops_x (d := 13) (ag_n rfl) rfl (by (simp (disch := first | decide | omega) only [if_pos, nws, hp, ll2, ht, go_sem, seval] <;> rfl)) rfl; apply aops_end; rfl) (by (simp (disch := omega) only [go_sem, seval, lay, nws]); rfl) ?_
    refine AWP.condT (b := _) rfl (by first | rfl | (simp only [decide_eq_true_eq, decide_eq_false_iff_not]; omega)) ?_
    refine AWP.sR gok [4, 5] (by apply aops_x (d := 4) (ag_n rfl) rfl (by first | (simp (disch := decide) only [hp, ll2, ht, go_sem, seval] <;> rfl) | (simp (disch := first | decide | omega) only [if_pos, nws, hp, ll2, ht, go_sem, seval] <;> rfl)) rfl; apply aops_x (d := 5) (ag_n rfl) rfl (by first | (simp (disch := decide) only [hp, ll2, ht, go_sem, seval] <;> rfl) | (simp (disch := first | decide | omega) only [if_pos, nws, hp, ll2, ht, go_sem, seval] <;> rfl)) rfl; apply aops_end; rfl) (by (simp (disch := omega) only [go_sem, seval, lay, nws]); rfl) ?_
    refine AWP.ghost (Ghost.nil 4 1 (.i .u8) rfl (by simp)) ?_
    refine AWP.ret ?_
    refine ⟨.inr rfl, _, (by simp only [go_sem, seval, hp, ll2, ht] <;> rfl), ?_⟩
    simp only [go_sem, seval, hp, ll2, ht, Option.some.injEq, AV.c.injEq, AV.agg.injEq, CV.v.injEq, Value.int.injEq, Value.bool.injEq, Row.raw.injEq, List.cons.injEq, CV.sl.injEq, and_true, true_and, and_self]
  · have ht' : twiceF l = false := by simpa using ht
    have e : thruF l = (thN l l.length).1 := by unfold thruF; rw [if_neg ht]
    rw [e, if_neg ht]
    have gok := (Gam.cons_ok E21_ok (Gam.cons_ok E29_ok (Gam.cons_ok E35_ok (Gam.cons_ok E36_ok (Gam.cons_ok E37_ok (Gam.cons_ok E38_ok (Gam.nil_ok _)))))))
    refine callOk' Try.func30 54 [.tmp 4, .tmp 5] _ rfl rfl rfl (by kernel_rfl) (by simp) [0, 2] rfl rfl (by simp) ?_
    simp only [params]
    refine AWP.sR gok [0, 1] (by apply aops_x (d := 4) (ag_n rfl) rfl (by first | (simp (disch := decide) only [hp, ll2, ht', go_sem, seval] <;> rfl) | (simp (disch := first | decide | omega) only [if_pos, nws, hp, ll2, ht', go_sem, seval] <;> rfl)) rfl; apply aops_x (d := 5) (ag_n rfl) rfl (by first | (simp (disch := decide) only [hp, ll2, ht', go_sem, seval] <;> rfl) | (simp (disch := first | decide | omega) only [if_pos, nws, hp, ll2, ht', go_sem, seval] <;> rfl)) rfl; apply aops_end; rfl) (by (simp (disch := omega) only [go_sem, seval, lay, nws]); rfl) ?_
    refine AWP.seq ?_
    refine AWP.sR gok [0, 1, 13] (by apply aops_mv (t := 1) (d := 12) (ag_n rfl) rfl rfl (by first | (simp only [look_lay, look, seval] <;> rfl) | fail) rfl; apply aops_x (d := 13) (ag_n rfl) rfl (by (simp (disch := first | decide | omega) only [if_pos, nws, hp, ll2, ht', go_sem, seval] <;> rfl)) rfl; apply aops_end; rfl) (by (simp (disch := omega) only [go_sem, seval, lay, nws]); rfl) ?_
    refine AWP.condF (b := _) rfl (by first | rfl | (simp only [decide_eq_true_eq, decide_eq_false_iff_not]; omega)) ?_
    refine AWP.skip ?_
    change AWP _ _ _ _ _
    refine AWP.sR gok [0, 1, 6] (by apply aops_x (d := 6) (ag_n rfl) rfl (by first | (simp (disch := decide) only [hp, ll2, ht', go_sem, seval] <;> rfl) | (simp (disch := first | decide | omega) only [if_pos, nws, hp, ll2, ht', go_sem, seval] <;> rfl)) rfl; apply aops_end; rfl) (by (simp (disch := omega) only [go_sem, seval, lay, nws]); rfl) ?_
    refine AWP.sR gok [0, 1, 6, 7] (by apply aops_x (d := 14) (ag_n rfl) rfl (by (simp (disch := first | decide | omega) only [if_pos, nws, hp, ll2, ht', go_sem, seval] <;> rfl)) rfl; apply aops_as (t := 14) (d := 7) (ag_n rfl) rfl rfl (by first | (simp only [look_lay, look, seval] <;> rfl) | fail) rfl; apply aops_end; rfl) (by (simp (disch := omega) only [go_sem, seval, lay, nws]); rfl) ?_
    refine AWP.seq ?_
    refine AWP.sR gok [0, 6, 7, 15, 16, 17] (by apply aops_mv (t := 1) (d := 15) (ag_n rfl) rfl rfl (by first | (simp only [look_lay, look, seval] <;> rfl) | fail) rfl; apply aops_x (d := 16) (ag_n rfl) rfl (by first | (simp (disch := decide) only [hp, ll2, ht', go_sem, seval] <;> rfl) | (simp (disch := first | decide | omega) only [if_pos, nws, hp, ll2, ht', go_sem, seval] <;> rfl)) rfl; apply aops_x (d := 17) (ag_n rfl) rfl (by first | (simp (disch := decide) only [hp, ll2, ht', go_sem, seval] <;> rfl) | (simp (disch := first | decide | omega) only [if_pos, nws, hp, ll2, ht', go_sem, seval] <;> rfl)) rfl; apply aops_end; rfl) (by (simp (disch := omega) only [go_sem, seval, lay, nws]); rfl) ?_
    refine AWP.block ?_
    refine AWP.loopP (fun (p : Nat) => ⟨54, [(0, .c (.ptr 0 0 1 0)), (6, .c (.sl 2 0 (thN l p).1.length 1)), (7, .c (.sl 1 0 (thN l p).2.length 1)), (15, .c (.rs (.pr (.i .u8) (.i .u8)) l)), (16, .c (ci .i64 (l.length : Int))), (17, .c (ci .i64 (p : Int)))], [some (.ty FT [Tab]), some (.ty (.i .u8) (thN l p).2), some (.ty (.i .u8) (thN l p).1)]⟩) (fun p => p ≤ l.length) (fun p => l.length - p) 0 (Ghost.nil 6 1 (.i .u8) rfl (by simp)) (Nat.zero_le _) ?_
    rintro i hi
    refine AWP.sR gok [0, 6, 7, 15, 16, 17, 18] (by apply aops_x (d := 18) (ag_n rfl) rfl (by first | (simp (disch := decide) only [hp, ll2, ht', go_sem, seval] <;> rfl) | (simp (disch := first | decide | omega) only [if_pos, nws, hp, ll2, ht', go_sem, seval] <;> rfl)) rfl; apply aops_end; rfl) (by (simp (disch := omega) only [go_sem, seval, lay, nws]); rfl) ?_
    refine AWP.seq ?_
    refine AWP.cond (b := _) rfl (fun h => ?_) (fun h => ?_) <;> (try simp only [decide_eq_true_eq, decide_eq_false_iff_not] at h)
    · skip
      refine AWP.skip ?_
      change AWP _ _ _ _ _
      refine AWP.seqBlock ?_
      obtain ⟨⟨x, y⟩, hx⟩ : ∃ x, l[i]? = some x := ⟨_, List.getElem?_eq_getElem (by omega)⟩
      have hil : i < l.length := by omega
      obtain ⟨hxo, hyo⟩ := hp _ (List.mem_of_getElem? hx)
      simp only at hxo hyo
      obtain ⟨ho, hn⟩ := thN_ok hp i
      obtain ⟨lo, ln⟩ := thN_len l i
      have es : thN l (i + 1) = thStep (thN l i) (x, y) := by show thStep (thN l i) (l[i]?.getD (0, 0)) = _; rw [hx]; rfl
      generalize thN l i = S at ho hn lo ln es
      obtain ⟨o, n⟩ := S
      simp only at ho hn lo ln
      have e1 := evalF_ok hxo ho
      have e2 := evalF_ok hxo hn
      have e3 := bx_ok hyo e1
      have e4 := divT_ok e3 e2
      have lo4 : o.length < 4000000000 := by omega
      have ln4 : n.length < 4000000000 := by omega
      have lo6 : o.length ≤ 1000000 := by omega
      have ln6 : n.length ≤ 1000000 := by omega
      have c1 := one_ok e4
      have c2 := two_ok hxo (by decide : byteOk 1)
      have lm := Nat.le_trans (mulP_len n [divT (bx y (evalF o x)) (evalF n x)]) (by simp only [List.length_cons, List.length_nil]; omega : _ ≤ 1000000)
      refine AWP.sR gok [0, 6, 7, 9, 15, 16, 17] (by apply aops_x (d := 19) (ag_n rfl) rfl (by (simp (disch := first | decide | omega) only [if_pos, nws, hp, ll2, ht', hx, go_sem, seval] <;> rfl)) rfl; apply aops_x (d := 20) (ag_n rfl) rfl (by first | (simp (disch := decide) only [hp, ll2, ht', hx, go_sem, seval] <;> rfl) | (simp (disch := first | decide | omega) only [if_pos, nws, hp, ll2, ht', hx, go_sem, seval] <;> rfl)) rfl; apply aops_x (d := 9) (ag_n rfl) rfl (by first | (simp (disch := decide) only [hp, ll2, ht', hx, go_sem, seval] <;> rfl) | (simp (disch := first | decide | omega) only [if_pos, nws, hp, ll2, ht', hx, go_sem, seval] <;> rfl)) rfl; apply aops_s (ag_n rfl) rfl (by first | (simp (disch := decide) only [hp, ll2, ht', hx, go_sem, seval] <;> rfl) | (simp (disch := first | decide | omega) only [if_pos, nws, hp, ll2, ht', hx, go_sem, seval] <;> rfl)); apply aops_end; rfl) (by (simp (disch := omega) only [go_sem, seval, lay, nws]); rfl) ?_
      refine AWP.sD gok (by kernel_rfl) [0, 6, 7, 9, 10, 15, 16, 17] [⟨[], true, 0⟩, ⟨[], true, 0⟩, ⟨[3], true, 0⟩, ⟨[], true, 0⟩, ⟨[], true, 0⟩, ⟨[], true, 0⟩, ⟨[3], true, 0⟩, ⟨[0, 2], true, 0⟩, ⟨[], true, 0⟩, ⟨[], true, 0⟩, ⟨[], true, 0⟩, ⟨[], true, 0⟩, ⟨[3], true, 0⟩, ⟨[0, 1], true, 0⟩, ⟨[0], true, 0⟩, ⟨[], true, 0⟩, ⟨[], true, 0⟩, ⟨[], true, 0⟩, ⟨[], true, 0⟩, ⟨[], true, 0⟩] (by kernel_rfl) (by first | rfl | simp only [go_sem, ↓reduceIte, Nat.reduceLT, Nat.reduceAdd]) (by first | rfl | simp only [go_sem, ↓reduceIte, Nat.reduceLT, Nat.reduceAdd]) (by (repeat (first | apply arun_step (by first | exact ag_n rfl | exact ag_b rfl rfl rfl (by first | (simp only [look_lay, look, seval] <;> rfl) | fail) (by first | rfl | (simp only [hp, ll2, ht', hxo, hyo, ho, hn, e1, e2, e3, lo4, ln4, decide_true, decide_false] <;> rfl) | fail) | fail) (by first | (simp (disch := decide) only [hp, ll2, ht', hxo, hyo, ho, hn, e1, e2, e3, lo4, ln4, go_sem, seval]; rfl) | (simp (disch := first | decide | omega) only [if_pos, nws, hp, ll2, ht', hxo, hyo, ho, hn, e1, e2, e3, lo4, ln4, go_sem, seval]; rfl)) (by first | (intro h; cases h; done) | (intro _; rfl) | (intro _; simp only [go_sem, seval, lay])) (by first | rfl | simp only [go_sem, seval, lay]) (by first | rfl | simp only [go_sem, seval, lay]) (by first | rfl | simp only [go_sem, seval, lay]) (by simp only [go_sem, seval, lay]; rfl) | apply arun_pass (by first | exact ag_f rfl rfl rfl (by first | (simp only [look_lay, look, seval] <;> rfl) | fail) (by first | rfl | (simp only [hp, ll2, ht', hxo, hyo, ho, hn, e1, e2, e3, lo4, ln4, decide_true, decide_false] <;> rfl) | fail) | exact ag_u rfl rfl rfl (by first | (simp only [look_lay, look, seval] <;> rfl) | fail) | fail) rfl (by simp only [go_sem, seval, lay]; rfl))); exact rfl) (by (simp (disch := omega) only [go_sem, seval, lay, nws]); rfl) ?_
      refine AWP.sR gok [0, 6, 7, 9, 15, 16, 17] (by apply aops_mv (t := 6) (d := 39) (ag_n rfl) rfl rfl (by first | (simp only [look_lay, look, seval] <;> rfl) | fail) rfl; apply aops_mv (t := 0) (d := 40) (ag_n rfl) rfl rfl (by first | (simp only [look_lay, look, seval] <;> rfl) | fail) rfl; apply aops_mv (t := 7) (d := 41) (ag_n rfl) rfl rfl (by first | (simp only [look_lay, look, seval] <;> rfl) | fail) rfl; apply aops_mv (t := 10) (d := 42) (ag_n rfl) rfl rfl (by first | (simp only [look_lay, look, seval] <;> rfl) | fail) rfl; apply aops_x (d := 43) (ag_n rfl) rfl (by (simp (disch := first | decide | omega) only [if_pos, nws, hp, ll2, ht', hn, c1, ln6, lo6, lm, go_sem, seval] <;> rfl)) rfl; apply aops_x (d := 44) (ag_n rfl) rfl (by (simp (disch := first | decide | omega) only [if_pos, nws, hp, ll2, ht', hn, c1, ln6, lo6, lm, go_sem, seval] <;> rfl)) rfl; apply aops_x (d := 45) (ag_n rfl) rfl (by (simp (disch := first | decide | omega) only [if_pos, nws, hp, ll2, ht', hn, c1, ln6, lo6, lm, go_sem, seval] <;> rfl)) rfl; apply aops_as (t := 45) (d := 6) (ag_n rfl) rfl rfl (by first | (simp only [look_lay, look, seval] <;> rfl) | fail) rfl; apply aops_end; rfl) (by (simp (disch := omega) only [go_sem, seval, lay, nws]); rfl) ?_
      refine AWP.rT gok [0, 6, 7, 15, 16, 17] (by apply aops_mv (t := 0) (d := 46) (ag_n rfl) rfl rfl (by first | (simp only [look_lay, look, seval] <;> rfl) | fail) rfl; apply aops_mv (t := 7) (d := 47) (ag_n rfl) rfl rfl (by first | (simp only [look_lay, look, seval] <;> rfl) | fail) rfl; apply aops_x (d := 48) (ag_n rfl) rfl (by first | (simp (disch := decide) only [hp, ll2, ht', hn, c2, ln6, go_sem, seval] <;> rfl) | (simp (disch := first | decide | omega) only [if_pos, nws, hp, ll2, ht', hn, c2, ln6, go_sem, seval] <;> rfl)) rfl; apply aops_x (d := 49) (ag_n rfl) rfl (by first | (simp (disch := decide) only [hp, ll2, ht', hn, c2, ln6, go_sem, seval] <;> rfl) | (simp (disch := first | decide | omega) only [if_pos, nws, hp, ll2, ht', hn, c2, ln6, go_sem, seval] <;> rfl)) rfl; apply aops_x (d := 50) (ag_n rfl) rfl (by (simp (disch := first | decide | omega) only [if_pos, nws, hp, ll2, ht', hn, c2, ln6, go_sem, seval] <;> rfl)) rfl; apply aops_x (d := 51) (ag_n rfl) rfl (by (simp (disch := first | decide | omega) only [if_pos, nws, hp, ll2, ht', hn, c2, ln6, go_sem, seval] <;> rfl)) rfl; apply aops_as (t := 51) (d := 7) (ag_n rfl) rfl rfl (by first | (simp only [look_lay, look, seval] <;> rfl) | fail) rfl; apply aops_end; rfl) (by (simp (disch := omega) only [go_sem, seval, lay, nws]); rfl) ?_
      change AWP _ _ _ _ _
      refine AWP.rT gok [0, 6, 7, 15, 16, 17] (by apply aops_x (d := 52) (ag_n rfl) rfl (by first | (simp (disch := decide) only [hp, ll2, ht', go_sem, seval] <;> rfl) | (simp (disch := first | decide | omega) only [if_pos, nws, hp, ll2, ht', go_sem, seval] <;> rfl)) rfl; apply aops_mv (t := 52) (d := 17) (ag_n rfl) rfl rfl (by first | (simp only [look_lay, look, seval] <;> rfl) | fail) rfl; apply aops_end; rfl) (by (simp (disch := omega) only [go_sem, seval, lay, nws]); rfl) ?_
      exact ⟨i + 1, Ghost.trans (Ghost.gc (ρ := [0, 8, 6]) (by simp only [go_sem, seval] <;> rfl) rfl rfl rfl) (Ghost.of_eq (by rw [es]; simp only [thStep, Int.natCast_add, Int.cast_ofNat_Int])), by omega, by omega⟩
    · skip
      refine AWP.exit ?_
      change AWP _ _ _ _ _
      refine AWP.sR gok [4, 5] (by apply aops_mv (t := 6) (d := 53) (ag_n rfl) rfl rfl (by first | (simp only [look_lay, look, seval] <;> rfl) | fail) rfl; apply aops_as (t := 53) (d := 4) (ag_n rfl) rfl rfl (by first | (simp only [look_lay, look, seval] <;> rfl) | fail) rfl; apply aops_x (d := 5) (ag_n rfl) rfl (by first | (simp (disch := decide) only [hp, ll2, ht', go_sem, seval] <;> rfl) | (simp (disch := first | decide | omega) only [if_pos, nws, hp, ll2, ht', go_sem, seval] <;> rfl)) rfl; apply aops_end; rfl) (by (simp (disch := omega) only [go_sem, seval, lay, nws]); rfl) ?_
      refine AWP.ret ?_
      refine ⟨.inr rfl, _, (by simp only [go_sem, seval, hp, ll2, ht'] <;> rfl), ?_⟩
      simp only [go_sem, seval, hp, ll2, ht', Option.some.injEq, AV.c.injEq, AV.agg.injEq, CV.v.injEq, Value.int.injEq, Value.bool.injEq, Row.raw.injEq, List.cons.injEq, CV.sl.injEq, and_true, true_and, and_self]
      have ei : i = l.length := by omega
      subst ei; exact ⟨rfl, rfl⟩
def E30 : Entry := withE FT [.sl (.pr (.i .u8) (.i .u8))] (fun l d => l = [Tab] ∧ ptsOk d.1 ∧ d.1.length ≤ 100000) (fun l d => .tup [.c (.sl 1 0 (thruF d.1).length 1), .c (ci .i64 (if twiceF d.1 = true then 1 else 0))]) (fun _ d => [some (.ty (.i .u8) (thruF d.1))])
theorem E30_ok : EntryOk Try.prog 30 E30 := withE_ok rfl (fun _ _ => rfl) (fun _ _ => rfl) fun l d hc => by
  obtain ⟨rfl, h1, h2⟩ := hc
  exact thru_c d.1 h1 h2
attribute [go_sem] E30
end Go.Proofs.Ytggomleegbnhbaa
