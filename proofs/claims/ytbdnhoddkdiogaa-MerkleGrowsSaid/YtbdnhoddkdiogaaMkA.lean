import Derived.Test.YtbdnhoddkdiogaaAi3
import Derived.Test.YtbdnhoddkdiogaaShB
import Derived.Test.YtbdnhoddkdiogaaTab
import Derived.Test.YtbdnhoddkdiogaaSh5
import Derived.Lib.Tables
import Derived.Test.YtbdnhoddkdiogaaSh6
section
set_option linter.unusedSimpArgs false
set_option linter.unusedVariables false
/- What was shown of a call by other means, as a contract over AHI. -/
namespace Go.Proofs.Ytbdnhoddkdiogaa
open Go.RowKit
theorem bridge {P : Program} {g : FuncId} {al : List AV} {r : AV} {v : Value} (hc : callable P g = true) (hr : ∀ w own σ, RepA w own σ r v)
    (h : ∀ (own : Nat → Prop) (σ : Sg) (w : World) (vs : List Value), vs.length = al.length → (∀ (i : Nat) x, al[i]? = some x → ∃ v, vs[i]? = some v ∧ Rep1 w own σ x v) → Calls P g vs.toArray w (fun e w' => e = .returned v ∧ Below w.heap.size w w')) :
    CallOk P g al [] r [] := by
  refine ⟨hc, fun X σ w vs hh hl hv => (h _ σ w vs hl hv).mono fun e w' ⟨he, hb⟩ => ⟨v, he, σ, hr _ _ _, ?_, ?_⟩⟩
  · exact ⟨hh.dom, fun id r h => by simp at h, fun b hx => Nat.lt_of_lt_of_le (hh.xlt b hx) hb.size, fun b hx ho => by obtain ⟨id, r, x, h, _⟩ := ho; simp at h, fun id id' r r' b x x' h => by simp at h⟩
  · exact ⟨hb.os, hb.tape, hb.output, ⟨hb.size, fun b hlt _ => hb.block b hlt, fun b ho => by obtain ⟨id, r, x, h, _⟩ := ho; simp at h⟩, fun _ _ h => h, Nat.le_refl _, fun _ _ => rfl⟩
theorem holds_of_rs {w : World} {own : Nat → Prop} {xs : List Int} {v : Value} (h : RepSl w own (.i .u8) xs v) (hl : xs.length ≤ 140737488351232) : HoldsB w v xs := by
  rcases h with ⟨rfl, a, c, rfl⟩ | ⟨b, off, c, rfl, h1, h2, _, h4, h5⟩
  · exact .inl ⟨⟨a, c, rfl⟩, rfl⟩
  · refine .inr ⟨b, off, c, rfl, h1, by unfold maxLen at h2; omega, hl, h4, fun i hi => ?_⟩
    have := h5 i _ (List.getElem?_eq_getElem hi)
    have h6 : w.cell? ⟨b, off + i * 1 + 0, none⟩ = some (.int .u8 xs[i]) := this
    rw [show off + i = off + i * 1 + 0 by omega, h6, List.getD_eq_getElem?_getD, List.getElem?_eq_getElem hi]; rfl
/-- A digest as a value. -/
theorem digest_rep (xs : List Int) (w : World) (own : Nat → Prop) (σ : Sg) : RepA w own σ (.agg (.ty (.i .u8) xs)) (.agg (Sha.bytes xs)) := by
  refine ⟨xs.map (Value.int .u8), by simp [Sha.bytes], by simp [Row.size, Ty.sz], fun i x hx => ?_⟩
  have : (xs.map (Value.int .u8))[i * 1 + 0]? = some (.int .u8 x) := by rw [Nat.mul_one, Nat.add_zero, List.getElem?_map, hx]; rfl
  exact this
/-- Bytes. -/
def bytesOk (xs : List Int) : Prop := ∀ x ∈ xs, 0 ≤ x ∧ x < 256
instance (xs : List Int) : Decidable (bytesOk xs) := inferInstanceAs (Decidable (∀ x ∈ xs, 0 ≤ x ∧ x < 256))
theorem wf_bytes {xs : List Int} (h : wfD (.sl (.i .u8)) xs) : bytesOk xs := fun x hx => wf_u8 (h.2 x hx)
theorem rep_rs {w : World} {own : Nat → Prop} {σ : Sg} {xs : List Int} {al : List AV} {vs : List Value} {j : Nat} (h : ∀ (i : Nat) x, al[i]? = some x → ∃ v, vs[i]? = some v ∧ Rep1 w own σ x v) (hj : al[j]? = some (.c (.rs (.i .u8) xs))) : ∃ v, vs[j]? = some v ∧ RepSl w own (.i .u8) xs v := h j _ hj
end Go.Proofs.Ytbdnhoddkdiogaa
end
section
set_option linter.unusedSimpArgs false
set_option linter.unusedVariables false
namespace Go.Proofs.Ytbdnhoddkdiogaa
open Go.RowKit
theorem of_c (xs : List Int) (hb : bytesOk xs) (hl : xs.length ≤ 1099511627776) : CallOk Try.prog 16 [.c (.rs (.i .u8) xs)] [] (.agg (.ty (.i .u8) (Sha.of xs))) [] :=
  bridge (by kernel_rfl) (digest_rep _) fun own σ w vs hl1 hv => by
    obtain ⟨v, h1, h2⟩ := rep_rs (j := 0) hv rfl
    match vs, hl1 with
    | [u], _ => cases h1; exact of_any v xs w (holds_of_rs h2 (by omega)) hb hl
/-- The digest. -/
@[irreducible] def dg (xs : List Int) : List Int := Sha.of xs
theorem dg_eq (xs : List Int) : dg xs = Sha.of xs := by unfold dg; rfl
abbrev c16 (xs : (List Int)) : Prop := bytesOk xs ∧ xs.length ≤ 1099511627776
abbrev r16 (xs : (List Int)) : AV := .agg (.ty (.i .u8) (dg xs))
abbrev L16 (xs : (List Int)) : Hp := []
def E16 : Entry := pureN [(.sl (.i .u8))] (fun d => c16 d.1) (fun d => r16 d.1) (fun d => L16 d.1)
set_option maxRecDepth 100000 in
set_option maxHeartbeats 4000000 in
theorem K16 (xs : (List Int)) (hc : c16 xs) : CallOk Try.prog 16 [.c (.rs (.i .u8) xs)] [] (r16 xs) (L16 xs) := by
  have hc : bytesOk xs ∧ xs.length ≤ 1099511627776 := hc
  unfold r16; rw [dg_eq]; exact of_c xs hc.1 hc.2
theorem E16_ok : EntryOk Try.prog 16 E16 := pureN_ok (fun d hc => K16 d.1 hc) (fun _ => rfl) (fun _ => rfl)
attribute [go_sem] E16 c16 r16 L16
theorem bytesOk_cons {x : Int} {xs : List Int} : bytesOk (x :: xs) ↔ (0 ≤ x ∧ x < 256) ∧ bytesOk xs := by simp [bytesOk]
theorem bytesOk_append {xs ys : List Int} : bytesOk (xs ++ ys) ↔ bytesOk xs ∧ bytesOk ys := by
  simp only [bytesOk, List.mem_append]
  exact ⟨fun h => ⟨fun x hx => h x (.inl hx), fun x hx => h x (.inr hx)⟩, fun h x hx => hx.elim (h.1 x) (h.2 x)⟩
theorem bytesOk_nil : bytesOk [] := by simp [bytesOk]
/-! The width of a number. -/
def lenN (x : Nat) : Nat := if x = 0 then 0 else Nat.log2 x + 1
theorem len8_N (i : Nat) (h : i < 256) : Lib.len8 (i : Int) = (lenN i : Int) := by
  have h' : ∀ x : Fin 256, Lib.len8 ((x : Nat) : Int) = (lenN (x : Nat) : Int) := by decide +kernel
  exact h' ⟨i, h⟩
theorem len8_get (i : Int) (h0 : 0 ≤ i) (h1 : i < 256) : Lib.len8tab[i.toNat]? = some ((Lib.len8tab[i.toNat]?).getD 0) := by
  have h2 : i.toNat < Lib.len8tab.size := by rw [Lib.len8tab_size]; omega
  rw [ByteArray.getElem?_lt' _ _ h2]; rfl
theorem len8_val (i : Int) : ((((Lib.len8tab[i.toNat]?).getD 0).toNat : Nat) : Int) = Lib.len8 i := rfl
theorem lenN_shift (x k : Nat) (h : 2 ^ k ≤ x) : lenN x = k + lenN (x / 2 ^ k) := by
  have hp : 0 < 2 ^ k := Nat.pow_pos (by omega)
  have h1 : 0 < x / 2 ^ k := Nat.div_pos h hp
  have hx : x ≠ 0 := by omega
  have hd : x / 2 ^ k ≠ 0 := by omega
  rw [lenN, if_neg hx, lenN, if_neg hd]
  have e : Nat.log2 x = k + Nat.log2 (x / 2 ^ k) := by
    rw [Nat.log2_eq_iff hx]
    have h2 := (Nat.log2_eq_iff hd).1 (rfl : Nat.log2 (x / 2 ^ k) = Nat.log2 (x / 2 ^ k))
    generalize Nat.log2 (x / 2 ^ k) = m at h2 ⊢
    obtain ⟨h3, h4⟩ := h2
    constructor
    · rw [Nat.pow_add, Nat.mul_comm]
      exact (Nat.le_div_iff_mul_le hp).1 h3
    · rw [show k + m + 1 = m + 1 + k by omega, Nat.pow_add]
      exact (Nat.div_lt_iff_lt_mul hp).1 h4
  omega
theorem pw16 : (2 : Int) ^ (Int.toNat 16) = 65536 := by decide
theorem pw8 : (2 : Int) ^ (Int.toNat 8) = 256 := by decide
theorem lenI_shift (x : Int) (k : Nat) (h : 2 ^ k ≤ x) : (lenN x.toNat : Int) = (k : Int) + (lenN (x / 2 ^ k).toNat : Int) := by
  obtain ⟨m, rfl⟩ := Int.eq_ofNat_of_zero_le (show 0 ≤ x by have : (0 : Int) ≤ 2 ^ k := Int.pow_nonneg (by omega); omega)
  have h' : 2 ^ k ≤ m := by
    have : ((2 ^ k : Nat) : Int) ≤ (m : Int) := by rw [Int.natCast_pow]; exact h
    exact Int.ofNat_le.1 this
  have e : ((m : Int) / 2 ^ k).toNat = m / 2 ^ k := by
    rw [show ((2 : Int) ^ k) = ((2 ^ k : Nat) : Int) by rw [Int.natCast_pow]; rfl, ← Int.natCast_ediv]; rfl
  rw [e, Int.toNat_natCast, lenN_shift m k h']; omega
theorem len8_I (x : Int) (h0 : 0 ≤ x) (h1 : x < 256) : Lib.len8 x = (lenN x.toNat : Int) := by
  obtain ⟨m, rfl⟩ := Int.eq_ofNat_of_zero_le h0
  exact len8_N m (by omega)
theorem wrap8 (y : Int) : 0 ≤ IntKind.u8.wrap y ∧ IntKind.u8.wrap y < 256 := by simp [IntKind.wrap, IntKind.bits, IntKind.signed]; omega
theorem get8 {S : ByteArray} {i : Int} (hS : S = Lib.len8tab) (h0 : 0 ≤ i) (h1 : i < 256) : ∃ b : UInt8, S[i.toNat]? = some b ∧ ((b.toNat : Nat) : Int) = Lib.len8 i := ⟨_, by rw [hS]; exact len8_get i h0 h1, rfl⟩
theorem aop_index8 {Γ : Gam} {s : St} {S : ByteArray} {k : IntKind} {i : Int} {x : Operand} (hS : S = Lib.len8tab) (hx : ev s x = some (.c (.v (.int k i)))) (h0 : 0 ≤ i) (h1 : i < 256) :
    aop Try.prog Γ s (.index 9 (.const (.string S)) x) = some (.c (.v (.int .u8 (Lib.len8 i))), s.H) := by
  obtain ⟨b, hb, hv⟩ := get8 hS h0 h1
  clear hS
  have hc : ev s (.const (.string S)) = some (.c (.v (.string S))) := cA_string _
  rw [← hv]
  simp only [aop, hc, hx, aindex, Try.underlying9, natI, if_pos h0, hb, sm, Option.map_some]
abbrev c78 (x : Int) : Prop := 0 ≤ x ∧ x < 4294967296
abbrev r78 (x : Int) : AV := .c (ci .i64 (lenN x.toNat : Int))
abbrev L78 (x : Int) : Hp := []
def E78 : Entry := pureN [(.i .u64)] (fun d => c78 d.1) (fun d => r78 d.1) (fun d => L78 d.1)
set_option maxRecDepth 100000 in
set_option maxHeartbeats 4000000 in
theorem K78 (x : Int) (hc : c78 x) : CallOk Try.prog 78 [.c (ci .u64 x)] [] (r78 x) (L78 x) := by
  have hc : 0 ≤ x ∧ x < 4294967296 := hc
  have q1 : 65536 ≤ x → (lenN x.toNat : Int) = 16 + (lenN (x / 65536).toNat : Int) := fun h => lenI_shift x 16 h
  have q2 : 256 ≤ x → (lenN x.toNat : Int) = 8 + (lenN (x / 256).toNat : Int) := fun h => lenI_shift x 8 h
  have q3 : 256 ≤ x / 65536 → (lenN (x / 65536).toNat : Int) = 8 + (lenN (x / 65536 / 256).toNat : Int) := fun h => lenI_shift _ 8 h
  have r : ∀ y : Int, 0 ≤ y → y < 256 → 0 ≤ (lenN y.toNat : Int) ∧ (lenN y.toNat : Int) ≤ 8 := fun y h0 h1 => by
    have h' : ∀ x : Fin 256, lenN (x : Nat) ≤ 8 := by decide +kernel
    have := h' ⟨y.toNat, by omega⟩
    simp only at this; omega
  refine callOk' Try.func78 25 [.tmp 2] _ rfl rfl rfl (by kernel_rfl) (by simp) [] rfl rfl (by simp) ?_
  simp only [params]
  refine AWP.sR (Gam.nil_ok _) [0, 2] (by apply aops_x (d := 2) (ag_n rfl) rfl (by first | (simp (disch := decide) only [pw16, pw8, go_sem, seval] <;> rfl) | (simp (disch := first | decide | omega) only [if_pos, nws, pw16, pw8, go_sem, seval] <;> rfl)) rfl; apply aops_end; rfl) (by (simp (disch := omega) only [go_sem, seval, lay, nws]); rfl) ?_
  refine AWP.seq ?_
  refine AWP.sR (Gam.nil_ok _) [0, 2, 4] (by apply aops_mv (t := 0) (d := 3) (ag_n rfl) rfl rfl (by first | (simp only [look_lay, look, seval] <;> rfl) | fail) rfl; apply aops_x (d := 4) (ag_n rfl) rfl (by first | (simp (disch := decide) only [pw16, pw8, go_sem, seval] <;> rfl) | (simp (disch := first | decide | omega) only [if_pos, nws, pw16, pw8, go_sem, seval] <;> rfl)) rfl; apply aops_end; rfl) (by (simp (disch := omega) only [go_sem, seval, lay, nws]); rfl) ?_
  refine AWP.condF (b := _) rfl (by first | rfl | (simp only [decide_eq_true_eq, decide_eq_false_iff_not]; omega)) ?_
  refine AWP.skip ?_
  change AWP _ _ _ _ _
  refine AWP.seq ?_
  refine AWP.sR (Gam.nil_ok _) [0, 2, 8] (by apply aops_mv (t := 0) (d := 7) (ag_n rfl) rfl rfl (by first | (simp only [look_lay, look, seval] <;> rfl) | fail) rfl; apply aops_x (d := 8) (ag_n rfl) rfl (by first | (simp (disch := decide) only [pw16, pw8, go_sem, seval] <;> rfl) | (simp (disch := first | decide | omega) only [if_pos, nws, pw16, pw8, go_sem, seval] <;> rfl)) rfl; apply aops_end; rfl) (by (simp (disch := omega) only [go_sem, seval, lay, nws]); rfl) ?_
  refine AWP.cond (b := _) rfl (fun h => ?_) (fun h => ?_) <;> (try simp only [decide_eq_true_eq, decide_eq_false_iff_not] at h)
  · skip
    refine AWP.sR (Gam.nil_ok _) [0, 2] (by apply aops_mv (t := 0) (d := 9) (ag_n rfl) rfl rfl (by first | (simp only [look_lay, look, seval] <;> rfl) | fail) rfl; apply aops_x (d := 10) (ag_n rfl) rfl (by (simp (disch := first | decide | omega) only [if_pos, nws, pw16, pw8, go_sem, seval] <;> rfl)) rfl; apply aops_as (t := 10) (d := 0) (ag_n rfl) rfl rfl (by first | (simp only [look_lay, look, seval] <;> rfl) | fail) rfl; apply aops_end; rfl) (by (simp (disch := omega) only [go_sem, seval, lay, nws]); rfl) ?_
    refine AWP.rT (Gam.nil_ok _) [0, 2] (by apply aops_mv (t := 2) (d := 11) (ag_n rfl) rfl rfl (by first | (simp only [look_lay, look, seval] <;> rfl) | fail) rfl; apply aops_x (d := 12) (ag_n rfl) rfl (by first | (simp (disch := decide) only [pw16, pw8, go_sem, seval] <;> rfl) | (simp (disch := first | decide | omega) only [if_pos, nws, pw16, pw8, go_sem, seval] <;> rfl)) rfl; apply aops_as (t := 12) (d := 2) (ag_n rfl) rfl rfl (by first | (simp only [look_lay, look, seval] <;> rfl) | fail) rfl; apply aops_end; rfl) (by (simp (disch := omega) only [go_sem, seval, lay, nws]); rfl) ?_
    change AWP _ _ _ _ _
    refine AWP.seq ?_
    refine AWP.sR (Gam.nil_ok _) [0, 2, 14] (by apply aops_mv (t := 0) (d := 13) (ag_n rfl) rfl rfl (by first | (simp only [look_lay, look, seval] <;> rfl) | fail) rfl; apply aops_x (d := 14) (ag_n rfl) rfl (by first | (simp (disch := decide) only [pw16, pw8, go_sem, seval] <;> rfl) | (simp (disch := first | decide | omega) only [if_pos, nws, pw16, pw8, go_sem, seval] <;> rfl)) rfl; apply aops_end; rfl) (by (simp (disch := omega) only [go_sem, seval, lay, nws]); rfl) ?_
    refine AWP.cond (b := _) rfl (fun h => ?_) (fun h => ?_) <;> (try simp only [decide_eq_true_eq, decide_eq_false_iff_not] at h)
    · skip
      refine AWP.sR (Gam.nil_ok _) [0, 2] (by apply aops_mv (t := 0) (d := 15) (ag_n rfl) rfl rfl (by first | (simp only [look_lay, look, seval] <;> rfl) | fail) rfl; apply aops_x (d := 16) (ag_n rfl) rfl (by (simp (disch := first | decide | omega) only [if_pos, nws, pw16, pw8, go_sem, seval] <;> rfl)) rfl; apply aops_as (t := 16) (d := 0) (ag_n rfl) rfl rfl (by first | (simp only [look_lay, look, seval] <;> rfl) | fail) rfl; apply aops_end; rfl) (by (simp (disch := omega) only [go_sem, seval, lay, nws]); rfl) ?_
      refine AWP.rT (Gam.nil_ok _) [0, 2] (by apply aops_mv (t := 2) (d := 17) (ag_n rfl) rfl rfl (by first | (simp only [look_lay, look, seval] <;> rfl) | fail) rfl; apply aops_x (d := 18) (ag_n rfl) rfl (by first | (simp (disch := decide) only [pw16, pw8, go_sem, seval] <;> rfl) | (simp (disch := first | decide | omega) only [if_pos, nws, pw16, pw8, go_sem, seval] <;> rfl)) rfl; apply aops_as (t := 18) (d := 2) (ag_n rfl) rfl rfl (by first | (simp only [look_lay, look, seval] <;> rfl) | fail) rfl; apply aops_end; rfl) (by (simp (disch := omega) only [go_sem, seval, lay, nws]); rfl) ?_
      change AWP _ _ _ _ _
      refine AWP.sR (Gam.nil_ok _) [2] (by apply aops_mv (t := 2) (d := 19) (ag_n rfl) rfl rfl (by first | (simp only [look_lay, look, seval] <;> rfl) | fail) rfl; apply aops_mv (t := 0) (d := 20) (ag_n rfl) rfl rfl (by first | (simp only [look_lay, look, seval] <;> rfl) | fail) rfl; apply aops_x (d := 21) (ag_n rfl) rfl (by first | (simp (disch := decide) only [pw16, pw8, go_sem, seval] <;> rfl) | (simp (disch := first | decide | omega) only [if_pos, nws, pw16, pw8, go_sem, seval] <;> rfl)) rfl; apply aops_x (d := 22) (ag_n rfl) rfl (aop_index8 (by kernel_rfl) (by simp only [ev, look_lay, look, Nat.reduceEqDiff, ↓reduceIte] <;> rfl) (wrap8 _).1 (wrap8 _).2) rfl; apply aops_x (d := 23) (ag_n rfl) rfl (by first | (simp (disch := decide) only [pw16, pw8, go_sem, seval] <;> rfl) | (simp (disch := first | decide | omega) only [if_pos, nws, pw16, pw8, go_sem, seval] <;> rfl)) rfl; apply aops_x (d := 24) (ag_n rfl) rfl (by first | (simp (disch := decide) only [pw16, pw8, go_sem, seval] <;> rfl) | (simp (disch := first | decide | omega) only [if_pos, nws, pw16, pw8, go_sem, seval] <;> rfl)) rfl; apply aops_as (t := 24) (d := 2) (ag_n rfl) rfl rfl (by first | (simp only [look_lay, look, seval] <;> rfl) | fail) rfl; apply aops_end; rfl) (by (simp (disch := omega) only [go_sem, seval, lay, nws]); rfl) ?_
      refine AWP.ret ?_
      refine ⟨.inr rfl, _, (by simp only [go_sem, seval, pw16, pw8] <;> rfl), ?_⟩
      simp only [go_sem, seval, pw16, pw8, Option.some.injEq, AV.c.injEq, AV.agg.injEq, CV.v.injEq, Value.int.injEq, Value.bool.injEq, Row.raw.injEq, List.cons.injEq, CV.sl.injEq, and_true, true_and, and_self]
      have z : ∀ y : Int, 0 ≤ y → y < 256 → Lib.len8 y = (lenN y.toNat : Int) := len8_I
      first
      | (rw [z (x / 65536 / 256) (by omega) (by omega)]; have := r (x / 65536 / 256) (by omega) (by omega); have := q1 (by omega); have := q3 (by omega); simp (disch := omega) only [wrap_i64']; omega)
      | (rw [z (x / 65536) (by omega) (by omega)]; have := r (x / 65536) (by omega) (by omega); have := q1 (by omega); simp (disch := omega) only [wrap_i64']; omega)
      | (rw [z (x / 256) (by omega) (by omega)]; have := r (x / 256) (by omega) (by omega); have := q2 (by omega); simp (disch := omega) only [wrap_i64']; omega)
      | (rw [z x (by omega) (by omega)]; have := r x (by omega) (by omega); simp (disch := omega) only [wrap_i64']; omega)
    · skip
      refine AWP.skip ?_
      change AWP _ _ _ _ _
      refine AWP.sR (Gam.nil_ok _) [2] (by apply aops_mv (t := 2) (d := 19) (ag_n rfl) rfl rfl (by first | (simp only [look_lay, look, seval] <;> rfl) | fail) rfl; apply aops_mv (t := 0) (d := 20) (ag_n rfl) rfl rfl (by first | (simp only [look_lay, look, seval] <;> rfl) | fail) rfl; apply aops_x (d := 21) (ag_n rfl) rfl (by first | (simp (disch := decide) only [pw16, pw8, go_sem, seval] <;> rfl) | (simp (disch := first | decide | omega) only [if_pos, nws, pw16, pw8, go_sem, seval] <;> rfl)) rfl; apply aops_x (d := 22) (ag_n rfl) rfl (aop_index8 (by kernel_rfl) (by simp only [ev, look_lay, look, Nat.reduceEqDiff, ↓reduceIte] <;> rfl) (wrap8 _).1 (wrap8 _).2) rfl; apply aops_x (d := 23) (ag_n rfl) rfl (by first | (simp (disch := decide) only [pw16, pw8, go_sem, seval] <;> rfl) | (simp (disch := first | decide | omega) only [if_pos, nws, pw16, pw8, go_sem, seval] <;> rfl)) rfl; apply aops_x (d := 24) (ag_n rfl) rfl (by first | (simp (disch := decide) only [pw16, pw8, go_sem, seval] <;> rfl) | (simp (disch := first | decide | omega) only [if_pos, nws, pw16, pw8, go_sem, seval] <;> rfl)) rfl; apply aops_as (t := 24) (d := 2) (ag_n rfl) rfl rfl (by first | (simp only [look_lay, look, seval] <;> rfl) | fail) rfl; apply aops_end; rfl) (by (simp (disch := omega) only [go_sem, seval, lay, nws]); rfl) ?_
      refine AWP.ret ?_
      refine ⟨.inr rfl, _, (by simp only [go_sem, seval, pw16, pw8] <;> rfl), ?_⟩
      simp only [go_sem, seval, pw16, pw8, Option.some.injEq, AV.c.injEq, AV.agg.injEq, CV.v.injEq, Value.int.injEq, Value.bool.injEq, Row.raw.injEq, List.cons.injEq, CV.sl.injEq, and_true, true_and, and_self]
      have z : ∀ y : Int, 0 ≤ y → y < 256 → Lib.len8 y = (lenN y.toNat : Int) := len8_I
      first
      | (rw [z (x / 65536 / 256) (by omega) (by omega)]; have := r (x / 65536 / 256) (by omega) (by omega); have := q1 (by omega); have := q3 (by omega); simp (disch := omega) only [wrap_i64']; omega)
      | (rw [z (x / 65536) (by omega) (by omega)]; have := r (x / 65536) (by omega) (by omega); have := q1 (by omega); simp (disch := omega) only [wrap_i64']; omega)
      | (rw [z (x / 256) (by omega) (by omega)]; have := r (x / 256) (by omega) (by omega); have := q2 (by omega); simp (disch := omega) only [wrap_i64']; omega)
      | (rw [z x (by omega) (by omega)]; have := r x (by omega) (by omega); simp (disch := omega) only [wrap_i64']; omega)
  · skip
    refine AWP.skip ?_
    change AWP _ _ _ _ _
    refine AWP.seq ?_
    refine AWP.sR (Gam.nil_ok _) [0, 2, 14] (by apply aops_mv (t := 0) (d := 13) (ag_n rfl) rfl rfl (by first | (simp only [look_lay, look, seval] <;> rfl) | fail) rfl; apply aops_x (d := 14) (ag_n rfl) rfl (by first | (simp (disch := decide) only [pw16, pw8, go_sem, seval] <;> rfl) | (simp (disch := first | decide | omega) only [if_pos, nws, pw16, pw8, go_sem, seval] <;> rfl)) rfl; apply aops_end; rfl) (by (simp (disch := omega) only [go_sem, seval, lay, nws]); rfl) ?_
    refine AWP.cond (b := _) rfl (fun h => ?_) (fun h => ?_) <;> (try simp only [decide_eq_true_eq, decide_eq_false_iff_not] at h)
    · skip
      refine AWP.sR (Gam.nil_ok _) [0, 2] (by apply aops_mv (t := 0) (d := 15) (ag_n rfl) rfl rfl (by first | (simp only [look_lay, look, seval] <;> rfl) | fail) rfl; apply aops_x (d := 16) (ag_n rfl) rfl (by (simp (disch := first | decide | omega) only [if_pos, nws, pw16, pw8, go_sem, seval] <;> rfl)) rfl; apply aops_as (t := 16) (d := 0) (ag_n rfl) rfl rfl (by first | (simp only [look_lay, look, seval] <;> rfl) | fail) rfl; apply aops_end; rfl) (by (simp (disch := omega) only [go_sem, seval, lay, nws]); rfl) ?_
      refine AWP.rT (Gam.nil_ok _) [0, 2] (by apply aops_mv (t := 2) (d := 17) (ag_n rfl) rfl rfl (by first | (simp only [look_lay, look, seval] <;> rfl) | fail) rfl; apply aops_x (d := 18) (ag_n rfl) rfl (by first | (simp (disch := decide) only [pw16, pw8, go_sem, seval] <;> rfl) | (simp (disch := first | decide | omega) only [if_pos, nws, pw16, pw8, go_sem, seval] <;> rfl)) rfl; apply aops_as (t := 18) (d := 2) (ag_n rfl) rfl rfl (by first | (simp only [look_lay, look, seval] <;> rfl) | fail) rfl; apply aops_end; rfl) (by (simp (disch := omega) only [go_sem, seval, lay, nws]); rfl) ?_
      change AWP _ _ _ _ _
      refine AWP.sR (Gam.nil_ok _) [2] (by apply aops_mv (t := 2) (d := 19) (ag_n rfl) rfl rfl (by first | (simp only [look_lay, look, seval] <;> rfl) | fail) rfl; apply aops_mv (t := 0) (d := 20) (ag_n rfl) rfl rfl (by first | (simp only [look_lay, look, seval] <;> rfl) | fail) rfl; apply aops_x (d := 21) (ag_n rfl) rfl (by first | (simp (disch := decide) only [pw16, pw8, go_sem, seval] <;> rfl) | (simp (disch := first | decide | omega) only [if_pos, nws, pw16, pw8, go_sem, seval] <;> rfl)) rfl; apply aops_x (d := 22) (ag_n rfl) rfl (aop_index8 (by kernel_rfl) (by simp only [ev, look_lay, look, Nat.reduceEqDiff, ↓reduceIte] <;> rfl) (wrap8 _).1 (wrap8 _).2) rfl; apply aops_x (d := 23) (ag_n rfl) rfl (by first | (simp (disch := decide) only [pw16, pw8, go_sem, seval] <;> rfl) | (simp (disch := first | decide | omega) only [if_pos, nws, pw16, pw8, go_sem, seval] <;> rfl)) rfl; apply aops_x (d := 24) (ag_n rfl) rfl (by first | (simp (disch := decide) only [pw16, pw8, go_sem, seval] <;> rfl) | (simp (disch := first | decide | omega) only [if_pos, nws, pw16, pw8, go_sem, seval] <;> rfl)) rfl; apply aops_as (t := 24) (d := 2) (ag_n rfl) rfl rfl (by first | (simp only [look_lay, look, seval] <;> rfl) | fail) rfl; apply aops_end; rfl) (by (simp (disch := omega) only [go_sem, seval, lay, nws]); rfl) ?_
      refine AWP.ret ?_
      refine ⟨.inr rfl, _, (by simp only [go_sem, seval, pw16, pw8] <;> rfl), ?_⟩
      simp only [go_sem, seval, pw16, pw8, Option.some.injEq, AV.c.injEq, AV.agg.injEq, CV.v.injEq, Value.int.injEq, Value.bool.injEq, Row.raw.injEq, List.cons.injEq, CV.sl.injEq, and_true, true_and, and_self]
      have z : ∀ y : Int, 0 ≤ y → y < 256 → Lib.len8 y = (lenN y.toNat : Int) := len8_I
      first
      | (rw [z (x / 65536 / 256) (by omega) (by omega)]; have := r (x / 65536 / 256) (by omega) (by omega); have := q1 (by omega); have := q3 (by omega); simp (disch := omega) only [wrap_i64']; omega)
      | (rw [z (x / 65536) (by omega) (by omega)]; have := r (x / 65536) (by omega) (by omega); have := q1 (by omega); simp (disch := omega) only [wrap_i64']; omega)
      | (rw [z (x / 256) (by omega) (by omega)]; have := r (x / 256) (by omega) (by omega); have := q2 (by omega); simp (disch := omega) only [wrap_i64']; omega)
      | (rw [z x (by omega) (by omega)]; have := r x (by omega) (by omega); simp (disch := omega) only [wrap_i64']; omega)
    · skip
      refine AWP.skip ?_
      change AWP _ _ _ _ _
      refine AWP.sR (Gam.nil_ok _) [2] (by apply aops_mv (t := 2) (d := 19) (ag_n rfl) rfl rfl (by first | (simp only [look_lay, look, seval] <;> rfl) | fail) rfl; apply aops_mv (t := 0) (d := 20) (ag_n rfl) rfl rfl (by first | (simp only [look_lay, look, seval] <;> rfl) | fail) rfl; apply aops_x (d := 21) (ag_n rfl) rfl (by first | (simp (disch := decide) only [pw16, pw8, go_sem, seval] <;> rfl) | (simp (disch := first | decide | omega) only [if_pos, nws, pw16, pw8, go_sem, seval] <;> rfl)) rfl; apply aops_x (d := 22) (ag_n rfl) rfl (aop_index8 (by kernel_rfl) (by simp only [ev, look_lay, look, Nat.reduceEqDiff, ↓reduceIte] <;> rfl) (wrap8 _).1 (wrap8 _).2) rfl; apply aops_x (d := 23) (ag_n rfl) rfl (by first | (simp (disch := decide) only [pw16, pw8, go_sem, seval] <;> rfl) | (simp (disch := first | decide | omega) only [if_pos, nws, pw16, pw8, go_sem, seval] <;> rfl)) rfl; apply aops_x (d := 24) (ag_n rfl) rfl (by first | (simp (disch := decide) only [pw16, pw8, go_sem, seval] <;> rfl) | (simp (disch := first | decide | omega) only [if_pos, nws, pw16, pw8, go_sem, seval] <;> rfl)) rfl; apply aops_as (t := 24) (d := 2) (ag_n rfl) rfl rfl (by first | (simp only [look_lay, look, seval] <;> rfl) | fail) rfl; apply aops_end; rfl) (by (simp (disch := omega) only [go_sem, seval, lay, nws]); rfl) ?_
      refine AWP.ret ?_
      refine ⟨.inr rfl, _, (by simp only [go_sem, seval, pw16, pw8] <;> rfl), ?_⟩
      simp only [go_sem, seval, pw16, pw8, Option.some.injEq, AV.c.injEq, AV.agg.injEq, CV.v.injEq, Value.int.injEq, Value.bool.injEq, Row.raw.injEq, List.cons.injEq, CV.sl.injEq, and_true, true_and, and_self]
      have z : ∀ y : Int, 0 ≤ y → y < 256 → Lib.len8 y = (lenN y.toNat : Int) := len8_I
      first
      | (rw [z (x / 65536 / 256) (by omega) (by omega)]; have := r (x / 65536 / 256) (by omega) (by omega); have := q1 (by omega); have := q3 (by omega); simp (disch := omega) only [wrap_i64']; omega)
      | (rw [z (x / 65536) (by omega) (by omega)]; have := r (x / 65536) (by omega) (by omega); have := q1 (by omega); simp (disch := omega) only [wrap_i64']; omega)
      | (rw [z (x / 256) (by omega) (by omega)]; have := r (x / 256) (by omega) (by omega); have := q2 (by omega); simp (disch := omega) only [wrap_i64']; omega)
      | (rw [z x (by omega) (by omega)]; have := r x (by omega) (by omega); simp (disch := omega) only [wrap_i64']; omega)
theorem E78_ok : EntryOk Try.prog 78 E78 := pureN_ok (fun d hc => K78 d.1 hc) (fun _ => rfl) (fun _ => rfl)
attribute [go_sem] E78 c78 r78 L78
abbrev c69 (x : Int) : Prop := 0 ≤ x ∧ x < 4294967296
abbrev r69 (x : Int) : AV := .c (ci .i64 (lenN x.toNat : Int))
abbrev L69 (x : Int) : Hp := []
def E69 : Entry := pureN [(.i .u64)] (fun d => c69 d.1) (fun d => r69 d.1) (fun d => L69 d.1)
set_option maxRecDepth 100000 in
set_option maxHeartbeats 4000000 in
theorem K69 (x : Int) (hc : c69 x) : CallOk Try.prog 69 [.c (ci .u64 x)] [] (r69 x) (L69 x) := by
  have hc : 0 ≤ x ∧ x < 4294967296 := hc
  have gok := (Gam.cons_ok E78_ok (Gam.nil_ok _))
  refine callOk' Try.func69 8 [.tmp 2] _ rfl rfl rfl (by kernel_rfl) (by simp) [] rfl rfl (by simp) ?_
  simp only [params]
  refine AWP.sR gok [0] (by apply aops_x (d := 2) (ag_n rfl) rfl (by first | (simp (disch := decide) only [go_sem, seval] <;> rfl) | (simp (disch := first | decide | omega) only [if_pos, nws, go_sem, seval] <;> rfl)) rfl; apply aops_end; rfl) (by (simp (disch := omega) only [go_sem, seval, lay, nws]); rfl) ?_
  refine AWP.seq ?_
  refine AWP.condF (b := _) rfl (by first | rfl | (simp only [decide_eq_true_eq, decide_eq_false_iff_not]; omega)) ?_
  refine AWP.skip ?_
  change AWP _ _ _ _ _
  refine AWP.sR gok [2] (by apply aops_mv (t := 0) (d := 6) (ag_n rfl) rfl rfl (by first | (simp only [look_lay, look, seval] <;> rfl) | fail) rfl; apply aops_x (d := 7) (ag_n rfl) rfl (by (simp (disch := first | decide | omega) only [if_pos, nws, go_sem, seval] <;> rfl)) rfl; apply aops_as (t := 7) (d := 2) (ag_n rfl) rfl rfl (by first | (simp only [look_lay, look, seval] <;> rfl) | fail) rfl; apply aops_end; rfl) (by (simp (disch := omega) only [go_sem, seval, lay, nws]); rfl) ?_
  refine AWP.ret ?_
  refine ⟨.inr rfl, _, (by simp only [go_sem, seval] <;> rfl), ?_⟩
  simp only [go_sem, seval, Option.some.injEq, AV.c.injEq, AV.agg.injEq, CV.v.injEq, Value.int.injEq, Value.bool.injEq, Row.raw.injEq, List.cons.injEq, CV.sl.injEq, and_true, true_and, and_self]
theorem E69_ok : EntryOk Try.prog 69 E69 := pureN_ok (fun d hc => K69 d.1 hc) (fun _ => rfl) (fun _ => rfl)
attribute [go_sem] E69 c69 r69 L69
end Go.Proofs.Ytbdnhoddkdiogaa
end
section
set_option linter.unusedSimpArgs false
set_option linter.unusedVariables false
namespace Go.Proofs.Ytbdnhoddkdiogaa
open Go.RowKit
/-- The greatest power of two below a number above 1. -/
def splitN (n : Nat) : Nat := 2 ^ (lenN (n - 1) - 1)
theorem splitN_spec (n : Nat) (h : 2 ≤ n) : 1 ≤ splitN n ∧ splitN n < n ∧ n ≤ 2 * splitN n := by
  unfold splitN lenN
  rw [if_neg (show n - 1 ≠ 0 by omega)]
  have hd : n - 1 ≠ 0 := by omega
  have h2 := (Nat.log2_eq_iff hd).1 (rfl : Nat.log2 (n - 1) = Nat.log2 (n - 1))
  simp only [Nat.add_sub_cancel]
  rw [Nat.pow_succ] at h2
  have : 1 ≤ 2 ^ (n - 1).log2 := Nat.pow_pos (by omega)
  omega
theorem lenN_le (n : Nat) (h1 : 1 ≤ n) (h : n < 4294967296) : 1 ≤ lenN n ∧ lenN n ≤ 32 := by
  unfold lenN
  rw [if_neg (by omega)]
  have : Nat.log2 n < 32 := (Nat.log2_lt (by omega)).2 (by omega)
  omega
theorem dg_len (xs : List Int) : (dg xs).length = 32 := by rw [dg_eq]; exact Sha.outs_length _ _
theorem dg_ok (xs : List Int) : bytesOk (dg xs) := by
  rw [dg_eq]
  have : ∀ (h : List Int) (q : Nat), bytesOk (Sha.outs h q) := fun h q => by
    induction q with
    | zero => exact bytesOk_nil
    | succ q ih =>
      refine bytesOk_append.2 ⟨ih, bytesOk_cons.2 ⟨?_, bytesOk_nil⟩⟩
      unfold Sha.outByte; omega
  exact this _ _
abbrev c52 (n : Int) : Prop := 2 ≤ n ∧ n ≤ 4294967296
abbrev r52 (n : Int) : AV := .c (ci .i64 (splitN n.toNat : Int))
abbrev L52 (n : Int) : Hp := []
def E52 : Entry := pureN [(.i .i64)] (fun d => c52 d.1) (fun d => r52 d.1) (fun d => L52 d.1)
set_option maxRecDepth 100000 in
set_option maxHeartbeats 4000000 in
theorem K52 (n : Int) (hc : c52 n) : CallOk Try.prog 52 [.c (ci .i64 n)] [] (r52 n) (L52 n) := by
  have hc : 2 ≤ n ∧ n ≤ 4294967296 := hc
  obtain ⟨m, rfl⟩ := Int.eq_ofNat_of_zero_le (show 0 ≤ n by omega)
  have b := lenN_le (m - 1) (by omega) (by omega)
  have e : ((m : Int) - 1).toNat = m - 1 := by omega
  have gok := (Gam.cons_ok E69_ok (Gam.nil_ok _))
  refine callOk' Try.func52 9 [.tmp 2] _ rfl rfl rfl (by kernel_rfl) (by simp) [] rfl rfl (by simp) ?_
  simp only [params]
  refine AWP.sR gok [0] (by apply aops_x (d := 2) (ag_n rfl) rfl (by first | (simp (disch := decide) only [e, go_sem, seval] <;> rfl) | (simp (disch := first | decide | omega) only [if_pos, nws, e, go_sem, seval] <;> rfl)) rfl; apply aops_end; rfl) (by (simp (disch := omega) only [go_sem, seval, lay, nws]); rfl) ?_
  refine AWP.sR gok [2] (by apply aops_mv (t := 0) (d := 3) (ag_n rfl) rfl rfl (by first | (simp only [look_lay, look, seval] <;> rfl) | fail) rfl; apply aops_x (d := 4) (ag_n rfl) rfl (by first | (simp (disch := decide) only [e, go_sem, seval] <;> rfl) | (simp (disch := first | decide | omega) only [if_pos, nws, e, go_sem, seval] <;> rfl)) rfl; apply aops_x (d := 5) (ag_n rfl) rfl (by first | (simp (disch := decide) only [e, go_sem, seval] <;> rfl) | (simp (disch := first | decide | omega) only [if_pos, nws, e, go_sem, seval] <;> rfl)) rfl; apply aops_x (d := 6) (ag_n rfl) rfl (by (simp (disch := first | decide | omega) only [if_pos, nws, e, go_sem, seval] <;> rfl)) rfl; apply aops_x (d := 7) (ag_n rfl) rfl (by first | (simp (disch := decide) only [e, go_sem, seval] <;> rfl) | (simp (disch := first | decide | omega) only [if_pos, nws, e, go_sem, seval] <;> rfl)) rfl; apply aops_x (d := 8) (ag_n rfl) rfl (by (simp (disch := first | decide | omega) only [if_pos, nws, e, go_sem, seval] <;> rfl)) rfl; apply aops_as (t := 8) (d := 2) (ag_n rfl) rfl rfl (by first | (simp only [look_lay, look, seval] <;> rfl) | fail) rfl; apply aops_end; rfl) (by (simp (disch := omega) only [go_sem, seval, lay, nws]); rfl) ?_
  refine AWP.ret ?_
  refine ⟨.inr rfl, _, (by simp only [go_sem, seval, e] <;> rfl), ?_⟩
  simp only [go_sem, seval, e, Option.some.injEq, AV.c.injEq, AV.agg.injEq, CV.v.injEq, Value.int.injEq, Value.bool.injEq, Row.raw.injEq, List.cons.injEq, CV.sl.injEq, and_true, true_and, and_self]
  rw [Int.toNat_natCast]
  unfold splitN
  obtain ⟨k, hk⟩ : ∃ k, lenN (m - 1) = k + 1 := ⟨lenN (m - 1) - 1, by omega⟩
  rw [hk] at b ⊢
  rw [show ((((k + 1 : Nat) : Int) - 1).toNat) = k by omega, Nat.add_sub_cancel, Int.one_mul, show ((2 : Int) ^ k) = ((2 ^ k : Nat) : Int) by rw [Int.natCast_pow]; rfl]
  have : 2 ^ k ≤ 2 ^ 31 := Nat.pow_le_pow_right (by omega) (by omega)
  generalize 2 ^ k = q at this ⊢
  rw [wrap_i64' (by omega) (by omega)]
theorem E52_ok : EntryOk Try.prog 52 E52 := pureN_ok (fun d hc => K52 d.1 hc) (fun _ => rfl) (fun _ => rfl)
attribute [go_sem] E52 c52 r52 L52
/-! Bytes together. -/
set_option maxRecDepth 100000 in
theorem growNil (n : Int) (hc : 0 < n ∧ n ≤ 1000000) : CallOk Try.prog 79 [.c (.v (.slice none 0 0)), .c (ci .i64 n)] [] (.c (.sl 0 0 0 1)) [some (.ty (.i .u8) [])] := by
  refine callOk' Try.func79 27 [.tmp 4] _ rfl rfl rfl (by kernel_rfl) (by simp) [0] rfl rfl (by simp) ?_
  simp only [params]
  refine AWP.sR (Gam.nil_ok _) [0, 1] (by apply aops_x (d := 4) (ag_n rfl) rfl (by first | (simp (disch := decide) only [go_sem, seval] <;> rfl) | (simp (disch := first | decide | omega) only [if_pos, nws, go_sem, seval] <;> rfl)) rfl; apply aops_end; rfl) (by (simp (disch := omega) only [go_sem, seval, lay, nws]); rfl) ?_
  refine AWP.seq ?_
  refine AWP.sR (Gam.nil_ok _) [0, 1, 6] (by apply aops_mv (t := 1) (d := 5) (ag_n rfl) rfl rfl (by first | (simp only [look_lay, look, seval] <;> rfl) | fail) rfl; apply aops_x (d := 6) (ag_n rfl) rfl (by first | (simp (disch := decide) only [go_sem, seval] <;> rfl) | (simp (disch := first | decide | omega) only [if_pos, nws, go_sem, seval] <;> rfl)) rfl; apply aops_end; rfl) (by (simp (disch := omega) only [go_sem, seval, lay, nws]); rfl) ?_
  refine AWP.condF (b := _) rfl (by first | rfl | (simp only [decide_eq_true_eq, decide_eq_false_iff_not]; omega)) ?_
  refine AWP.skip ?_
  change AWP _ _ _ _ _
  refine AWP.seq ?_
  refine AWP.sR (Gam.nil_ok _) [0, 1] (by apply aops_mv (t := 1) (d := 8) (ag_n rfl) rfl rfl (by first | (simp only [look_lay, look, seval] <;> rfl) | fail) rfl; apply aops_mv (t := 0) (d := 9) (ag_n rfl) rfl rfl (by first | (simp only [look_lay, look, seval] <;> rfl) | fail) rfl; apply aops_x (d := 10) (ag_n rfl) rfl (by (simp (disch := first | decide | omega) only [if_pos, nws, go_sem, seval] <;> rfl)) rfl; apply aops_mv (t := 0) (d := 11) (ag_n rfl) rfl rfl (by first | (simp only [look_lay, look, seval] <;> rfl) | fail) rfl; apply aops_x (d := 12) (ag_n rfl) rfl (by first | (simp (disch := decide) only [go_sem, seval] <;> rfl) | (simp (disch := first | decide | omega) only [if_pos, nws, go_sem, seval] <;> rfl)) rfl; apply aops_x (d := 13) (ag_n rfl) rfl (by first | (simp (disch := decide) only [go_sem, seval] <;> rfl) | (simp (disch := first | decide | omega) only [if_pos, nws, go_sem, seval] <;> rfl)) rfl; apply aops_x (d := 14) (ag_n rfl) rfl (by first | (simp (disch := decide) only [go_sem, seval] <;> rfl) | (simp (disch := first | decide | omega) only [if_pos, nws, go_sem, seval] <;> rfl)) rfl; apply aops_as (t := 14) (d := 1) (ag_n rfl) rfl rfl (by first | (simp only [look_lay, look, seval] <;> rfl) | fail) rfl; apply aops_end; rfl) (by (simp (disch := omega) only [go_sem, seval, lay, nws]); rfl) ?_
  refine AWP.sR (Gam.nil_ok _) [0, 1, 16] (by apply aops_mv (t := 1) (d := 15) (ag_n rfl) rfl rfl (by first | (simp only [look_lay, look, seval] <;> rfl) | fail) rfl; apply aops_x (d := 16) (ag_n rfl) rfl (by first | (simp (disch := decide) only [go_sem, seval] <;> rfl) | (simp (disch := first | decide | omega) only [if_pos, nws, go_sem, seval] <;> rfl)) rfl; apply aops_end; rfl) (by (simp (disch := omega) only [go_sem, seval, lay, nws]); rfl) ?_
  refine AWP.condT (b := _) rfl (by first | rfl | (simp only [decide_eq_true_eq, decide_eq_false_iff_not]; omega)) ?_
  refine AWP.rT (Gam.nil_ok _) [0] (by apply aops_mv (t := 0) (d := 17) (ag_n rfl) rfl rfl (by first | (simp only [look_lay, look, seval] <;> rfl) | fail) rfl; apply aops_mv (t := 0) (d := 18) (ag_n rfl) rfl rfl (by first | (simp only [look_lay, look, seval] <;> rfl) | fail) rfl; apply aops_x (d := 19) (ag_n rfl) rfl (by (simp (disch := first | decide | omega) only [if_pos, nws, go_sem, seval] <;> rfl)) rfl; apply aops_x (d := 20) (ag_n rfl) rfl (by (simp (disch := first | decide | omega) only [if_pos, nws, go_sem, seval] <;> rfl)) rfl; apply aops_mv (t := 1) (d := 21) (ag_n rfl) rfl rfl (by first | (simp only [look_lay, look, seval] <;> rfl) | fail) rfl; apply aops_x (d := 22) (ag_n rfl) rfl (by (simp (disch := first | decide | omega) only [if_pos, nws, go_sem, seval] <;> rfl)) rfl; apply aops_mv (t := 0) (d := 23) (ag_n rfl) rfl rfl (by first | (simp only [look_lay, look, seval] <;> rfl) | fail) rfl; apply aops_x (d := 24) (ag_n rfl) rfl (by first | (simp (disch := decide) only [go_sem, seval] <;> rfl) | (simp (disch := first | decide | omega) only [if_pos, nws, go_sem, seval] <;> rfl)) rfl; apply aops_x (d := 25) (ag_n rfl) rfl (by (simp (disch := first | decide | omega) only [if_pos, nws, go_sem, seval] <;> rfl)) rfl; apply aops_as (t := 25) (d := 0) (ag_n rfl) rfl rfl (by first | (simp only [look_lay, look, seval] <;> rfl) | fail) rfl; apply aops_end; rfl) (by (simp (disch := omega) only [go_sem, seval, lay, nws]); rfl) ?_
  change AWP _ _ _ _ _
  refine AWP.sR (Gam.nil_ok _) [4] (by apply aops_mv (t := 0) (d := 26) (ag_n rfl) rfl rfl (by first | (simp only [look_lay, look, seval] <;> rfl) | fail) rfl; apply aops_as (t := 26) (d := 4) (ag_n rfl) rfl rfl (by first | (simp only [look_lay, look, seval] <;> rfl) | fail) rfl; apply aops_end; rfl) (by (simp (disch := omega) only [go_sem, seval, lay, nws]); rfl) ?_
  refine AWP.ret ?_
  refine ⟨.inr rfl, _, (by simp only [go_sem, seval] <;> rfl), ?_⟩
  simp only [go_sem, seval, Option.some.injEq, AV.c.injEq, AV.agg.injEq, CV.v.injEq, Value.int.injEq, Value.bool.injEq, Row.raw.injEq, List.cons.injEq, CV.sl.injEq, and_true, true_and, and_self]
def E79 : Entry := fun args H => match args with
  | [.c (.v (.slice none 0 0)), .c (.v (.int .i64 n))] => if 0 < n ∧ n ≤ 1000000 then some (.c (.sl H.length 0 0 1), H ++ [some (.ty (.i .u8) [])]) else none
  | _ => none
theorem E79_ok : EntryOk Try.prog 79 E79 := fun args H r H' h => by
  unfold E79 at h
  split at h
  · split at h
    · rename_i n hc
      cases h
      have := frameOk0 (C := H) [] (growNil n hc) rfl (by simp) rfl (by simp) (by simp) rfl (args := [.c (.v (.slice none 0 0)), .c (ci .i64 n)]) (fun i y hy => by
        match i, hy with
        | 0, hy => cases hy; rfl
        | 1, hy => cases hy; rfl)
      simpa [ats, patch, AV.mapId, CV.mapId, Row.mapId] using this
    · cases h
  · cases h
attribute [go_sem] E79
theorem take_flatten_len (l : List (List Int)) (i : Nat) (x : List Int) (h : l[i]? = some x) : (l.take (i + 1)).flatten = (l.take i).flatten ++ x := by
  rw [List.take_add_one, h]
  simp
theorem take_flatten_le (l : List (List Int)) (i : Nat) : (l.take i).flatten.length ≤ l.flatten.length := by
  have : l.flatten.length = (l.take i).flatten.length + (l.drop i).flatten.length := by rw [← List.length_append, ← List.flatten_append, List.take_append_drop]
  omega
abbrev c70 (l : (List (List Int))) : Prop := 0 < l.flatten.length ∧ l.flatten.length ≤ 1000000 ∧ l.length ≤ 1000000
abbrev r70 (l : (List (List Int))) : AV := .c (.sl 0 0 l.flatten.length 1)
abbrev L70 (l : (List (List Int))) : Hp := [some (.ty (.i .u8) l.flatten)]
def E70 : Entry := pureN [(.sl (.sl (.i .u8)))] (fun d => c70 d.1) (fun d => r70 d.1) (fun d => L70 d.1)
set_option maxRecDepth 100000 in
set_option maxHeartbeats 4000000 in
theorem K70 (l : (List (List Int))) (hc : c70 l) : CallOk Try.prog 70 [.c (.rs (.sl (.i .u8)) l)] [] (r70 l) (L70 l) := by
  have hc : 0 < l.flatten.length ∧ l.flatten.length ≤ 1000000 ∧ l.length ≤ 1000000 := hc
  obtain ⟨hc1, hc2, hc3⟩ := hc
  have gok := (Gam.cons_ok E79_ok (Gam.nil_ok _))
  refine callOk' Try.func70 36 [.tmp 2] _ rfl rfl rfl (by kernel_rfl) (by simp) [0] rfl rfl (by simp) ?_
  simp only [params]
  refine AWP.sR gok [0] (by apply aops_x (d := 2) (ag_n rfl) rfl (by first | (simp (disch := decide) only [go_sem, seval] <;> rfl) | (simp (disch := first | decide | omega) only [if_pos, nws, go_sem, seval] <;> rfl)) rfl; apply aops_end; rfl) (by (simp (disch := omega) only [go_sem, seval, lay, nws]); rfl) ?_
  refine AWP.sR gok [0, 3] (by apply aops_x (d := 3) (ag_n rfl) rfl (by first | (simp (disch := decide) only [go_sem, seval] <;> rfl) | (simp (disch := first | decide | omega) only [if_pos, nws, go_sem, seval] <;> rfl)) rfl; apply aops_end; rfl) (by (simp (disch := omega) only [go_sem, seval, lay, nws]); rfl) ?_
  refine AWP.seq ?_
  refine AWP.sR gok [0, 3, 9, 10, 11] (by apply aops_mv (t := 0) (d := 9) (ag_n rfl) rfl rfl (by first | (simp only [look_lay, look, seval] <;> rfl) | fail) rfl; apply aops_x (d := 10) (ag_n rfl) rfl (by first | (simp (disch := decide) only [go_sem, seval] <;> rfl) | (simp (disch := first | decide | omega) only [if_pos, nws, go_sem, seval] <;> rfl)) rfl; apply aops_x (d := 11) (ag_n rfl) rfl (by first | (simp (disch := decide) only [go_sem, seval] <;> rfl) | (simp (disch := first | decide | omega) only [if_pos, nws, go_sem, seval] <;> rfl)) rfl; apply aops_end; rfl) (by (simp (disch := omega) only [go_sem, seval, lay, nws]); rfl) ?_
  refine AWP.block ?_
  refine AWP.loopP (fun (p : Nat × Int) => ⟨36, [(0, .c (.rs (.sl (.i .u8)) l)), (3, .c (ci .i64 p.2)), (9, .c (.rs (.sl (.i .u8)) l)), (10, .c (ci .i64 (l.length : Int))), (11, .c (ci .i64 (p.1 : Int)))], []⟩) (fun p => p.1 ≤ l.length ∧ p.2 = ((l.take p.1).flatten.length : Int)) (fun p => l.length - p.1) ⟨0, 0⟩ (Ghost.refl _ _) ⟨by simp, by simp⟩ ?_
  rintro ⟨i, s⟩ ⟨hi, hs⟩
  simp only at hi hs ⊢
  refine AWP.sR gok [0, 3, 9, 10, 11, 12] (by apply aops_x (d := 12) (ag_n rfl) rfl (by first | (simp (disch := decide) only [go_sem, seval] <;> rfl) | (simp (disch := first | decide | omega) only [if_pos, nws, go_sem, seval] <;> rfl)) rfl; apply aops_end; rfl) (by (simp (disch := omega) only [go_sem, seval, lay, nws]); rfl) ?_
  refine AWP.seq ?_
  refine AWP.cond (b := _) rfl (fun h => ?_) (fun h => ?_) <;> (try simp only [decide_eq_true_eq, decide_eq_false_iff_not] at h)
  · skip
    refine AWP.skip ?_
    change AWP _ _ _ _ _
    refine AWP.seqBlock ?_
    have h' : i < l.length := by omega
    obtain ⟨x, hx⟩ : ∃ x, l[i]? = some x := ⟨_, List.getElem?_eq_getElem h'⟩
    have e1 := take_flatten_len l i x hx
    have e2 := take_flatten_le l (i + 1)
    rw [e1, List.length_append] at e2
    refine AWP.sR gok [0, 3, 5, 9, 10, 11] (by apply aops_x (d := 13) (ag_n rfl) rfl (by (simp (disch := first | decide | omega) only [if_pos, nws, hx, go_sem, seval] <;> rfl)) rfl; apply aops_x (d := 14) (ag_n rfl) rfl (by first | (simp (disch := decide) only [hx, go_sem, seval] <;> rfl) | (simp (disch := first | decide | omega) only [if_pos, nws, hx, go_sem, seval] <;> rfl)) rfl; apply aops_as (t := 14) (d := 5) (ag_n rfl) rfl rfl (by first | (simp only [look_lay, look, seval] <;> rfl) | fail) rfl; apply aops_end; rfl) (by (simp (disch := omega) only [go_sem, seval, lay, nws]); rfl) ?_
    refine AWP.sR gok [0, 3, 9, 10, 11] (by apply aops_mv (t := 3) (d := 15) (ag_n rfl) rfl rfl (by first | (simp only [look_lay, look, seval] <;> rfl) | fail) rfl; apply aops_mv (t := 5) (d := 16) (ag_n rfl) rfl rfl (by first | (simp only [look_lay, look, seval] <;> rfl) | fail) rfl; apply aops_x (d := 17) (ag_n rfl) rfl (by first | (simp (disch := decide) only [go_sem, seval] <;> rfl) | (simp (disch := first | decide | omega) only [if_pos, nws, go_sem, seval] <;> rfl)) rfl; apply aops_x (d := 18) (ag_n rfl) rfl (by first | (simp (disch := decide) only [go_sem, seval] <;> rfl) | (simp (disch := first | decide | omega) only [if_pos, nws, go_sem, seval] <;> rfl)) rfl; apply aops_as (t := 18) (d := 3) (ag_n rfl) rfl rfl (by first | (simp only [look_lay, look, seval] <;> rfl) | fail) rfl; apply aops_end; rfl) (by (simp (disch := omega) only [go_sem, seval, lay, nws]); rfl) ?_
    refine AWP.sR gok [0, 3, 9, 10, 11, 20] (by apply aops_mv (t := 3) (d := 19) (ag_n rfl) rfl rfl (by first | (simp only [look_lay, look, seval] <;> rfl) | fail) rfl; apply aops_x (d := 20) (ag_n rfl) rfl (by first | (simp (disch := decide) only [go_sem, seval] <;> rfl) | (simp (disch := first | decide | omega) only [if_pos, nws, go_sem, seval] <;> rfl)) rfl; apply aops_end; rfl) (by (simp (disch := omega) only [go_sem, seval, lay, nws]); rfl) ?_
    refine AWP.condF (b := _) rfl (by first | rfl | (simp only [decide_eq_true_eq, decide_eq_false_iff_not]; omega)) ?_
    refine AWP.skip ?_
    change AWP _ _ _ _ _
    refine AWP.rT gok [0, 3, 9, 10, 11] (by apply aops_x (d := 22) (ag_n rfl) rfl (by first | (simp (disch := decide) only [go_sem, seval] <;> rfl) | (simp (disch := first | decide | omega) only [if_pos, nws, go_sem, seval] <;> rfl)) rfl; apply aops_mv (t := 22) (d := 11) (ag_n rfl) rfl rfl (by first | (simp only [look_lay, look, seval] <;> rfl) | fail) rfl; apply aops_end; rfl) (by (simp (disch := omega) only [go_sem, seval, lay, nws]); rfl) ?_
    refine ⟨(i + 1, _), Ghost.refl _ _, ⟨by simp only; omega, ?_⟩, by simp only; omega⟩
    simp only
    rw [e1, List.length_append, hs]; omega
  · skip
    refine AWP.exit ?_
    change AWP _ _ _ _ _
    have ei : i = l.length := by omega
    rw [ei, List.take_length] at hs
    subst hs
    refine AWP.sR gok [0, 6] (by apply aops_mv (t := 3) (d := 23) (ag_n rfl) rfl rfl (by first | (simp only [look_lay, look, seval] <;> rfl) | fail) rfl; apply aops_x (d := 24) (ag_n rfl) rfl (by (simp (disch := first | decide | omega) only [if_pos, nws, go_sem, seval] <;> rfl)) rfl; apply aops_as (t := 24) (d := 6) (ag_n rfl) rfl rfl (by first | (simp only [look_lay, look, seval] <;> rfl) | fail) rfl; apply aops_end; rfl) (by (simp (disch := omega) only [go_sem, seval, lay, nws]); rfl) ?_
    refine AWP.seq ?_
    refine AWP.sR gok [6, 25, 26, 27] (by apply aops_mv (t := 0) (d := 25) (ag_n rfl) rfl rfl (by first | (simp only [look_lay, look, seval] <;> rfl) | fail) rfl; apply aops_x (d := 26) (ag_n rfl) rfl (by first | (simp (disch := decide) only [go_sem, seval] <;> rfl) | (simp (disch := first | decide | omega) only [if_pos, nws, go_sem, seval] <;> rfl)) rfl; apply aops_x (d := 27) (ag_n rfl) rfl (by first | (simp (disch := decide) only [go_sem, seval] <;> rfl) | (simp (disch := first | decide | omega) only [if_pos, nws, go_sem, seval] <;> rfl)) rfl; apply aops_end; rfl) (by (simp (disch := omega) only [go_sem, seval, lay, nws]); rfl) ?_
    refine AWP.block ?_
    refine AWP.loopP (fun (p : Nat × List Int) => ⟨36, [(6, .c (.sl 0 0 p.2.length 1)), (25, .c (.rs (.sl (.i .u8)) l)), (26, .c (ci .i64 (l.length : Int))), (27, .c (ci .i64 (p.1 : Int)))], [some (.ty (.i .u8) p.2)]⟩) (fun p => p.1 ≤ l.length ∧ p.2 = (l.take p.1).flatten) (fun p => l.length - p.1) ⟨0, []⟩ (Ghost.refl _ _) ⟨by simp, by simp⟩ ?_
    rintro ⟨i, xs⟩ ⟨hi, hs⟩
    simp only at hi hs ⊢
    refine AWP.sR gok [6, 25, 26, 27, 28] (by apply aops_x (d := 28) (ag_n rfl) rfl (by first | (simp (disch := decide) only [go_sem, seval] <;> rfl) | (simp (disch := first | decide | omega) only [if_pos, nws, go_sem, seval] <;> rfl)) rfl; apply aops_end; rfl) (by (simp (disch := omega) only [go_sem, seval, lay, nws]); rfl) ?_
    refine AWP.seq ?_
    refine AWP.cond (b := _) rfl (fun h => ?_) (fun h => ?_) <;> (try simp only [decide_eq_true_eq, decide_eq_false_iff_not] at h)
    · skip
      refine AWP.skip ?_
      change AWP _ _ _ _ _
      refine AWP.seqBlock ?_
      have h' : i < l.length := by omega
      obtain ⟨x, hx⟩ : ∃ x, l[i]? = some x := ⟨_, List.getElem?_eq_getElem h'⟩
      have e1 := take_flatten_len l i x hx
      have e2 := take_flatten_le l (i + 1)
      rw [e1, ← hs, List.length_append] at e2
      refine AWP.sR gok [6, 8, 25, 26, 27] (by apply aops_x (d := 29) (ag_n rfl) rfl (by (simp (disch := first | decide | omega) only [if_pos, nws, hx, go_sem, seval] <;> rfl)) rfl; apply aops_x (d := 30) (ag_n rfl) rfl (by first | (simp (disch := decide) only [hx, go_sem, seval] <;> rfl) | (simp (disch := first | decide | omega) only [if_pos, nws, hx, go_sem, seval] <;> rfl)) rfl; apply aops_as (t := 30) (d := 8) (ag_n rfl) rfl rfl (by first | (simp only [look_lay, look, seval] <;> rfl) | fail) rfl; apply aops_end; rfl) (by (simp (disch := omega) only [go_sem, seval, lay, nws]); rfl) ?_
      refine AWP.rT gok [6, 25, 26, 27] (by apply aops_mv (t := 6) (d := 31) (ag_n rfl) rfl rfl (by first | (simp only [look_lay, look, seval] <;> rfl) | fail) rfl; apply aops_mv (t := 8) (d := 32) (ag_n rfl) rfl rfl (by first | (simp only [look_lay, look, seval] <;> rfl) | fail) rfl; apply aops_x (d := 33) (ag_n rfl) rfl (by (simp (disch := first | decide | omega) only [if_pos, nws, go_sem, seval] <;> rfl)) rfl; apply aops_as (t := 33) (d := 6) (ag_n rfl) rfl rfl (by first | (simp only [look_lay, look, seval] <;> rfl) | fail) rfl; apply aops_end; rfl) (by (simp (disch := omega) only [go_sem, seval, lay, nws]); rfl) ?_
      change AWP _ _ _ _ _
      refine AWP.rT gok [6, 25, 26, 27] (by apply aops_x (d := 34) (ag_n rfl) rfl (by first | (simp (disch := decide) only [go_sem, seval] <;> rfl) | (simp (disch := first | decide | omega) only [if_pos, nws, go_sem, seval] <;> rfl)) rfl; apply aops_mv (t := 34) (d := 27) (ag_n rfl) rfl rfl (by first | (simp only [look_lay, look, seval] <;> rfl) | fail) rfl; apply aops_end; rfl) (by (simp (disch := omega) only [go_sem, seval, lay, nws]); rfl) ?_
      refine ⟨(i + 1, xs ++ x), Ghost.gc (ρ := [1]) (by simp only [go_sem, seval, List.length_append]; rfl) rfl rfl rfl, ⟨by simp only; omega, ?_⟩, by simp only; omega⟩
      simp only
      rw [e1, hs]
    · skip
      refine AWP.exit ?_
      change AWP _ _ _ _ _
      refine AWP.sR gok [2] (by apply aops_mv (t := 6) (d := 35) (ag_n rfl) rfl rfl (by first | (simp only [look_lay, look, seval] <;> rfl) | fail) rfl; apply aops_as (t := 35) (d := 2) (ag_n rfl) rfl rfl (by first | (simp only [look_lay, look, seval] <;> rfl) | fail) rfl; apply aops_end; rfl) (by (simp (disch := omega) only [go_sem, seval, lay, nws]); rfl) ?_
      refine AWP.ret ?_
      refine ⟨.inr rfl, _, (by simp only [go_sem, seval] <;> rfl), ?_⟩
      simp only [go_sem, seval, Option.some.injEq, AV.c.injEq, AV.agg.injEq, CV.v.injEq, Value.int.injEq, Value.bool.injEq, Row.raw.injEq, List.cons.injEq, CV.sl.injEq, and_true, true_and, and_self]
      have ei : i = l.length := by omega
      rw [ei, List.take_length] at hs
      subst hs
      exact ⟨rfl, rfl⟩
theorem E70_ok : EntryOk Try.prog 70 E70 := pureN_ok (fun d hc => K70 d.1 hc) (fun _ => rfl) (fun _ => rfl)
attribute [go_sem] E70 c70 r70 L70
def leafF (xs : List Int) : List Int := dg (0 :: xs)
def bothF (a b : List Int) : List Int := dg (1 :: (a ++ b))
abbrev c51 (xs : (List Int)) : Prop := bytesOk xs ∧ xs.length ≤ 1000000
abbrev r51 (xs : (List Int)) : AV := .agg (.ty (.i .u8) (leafF xs))
abbrev L51 (xs : (List Int)) : Hp := []
def E51 : Entry := pureN [(.sl (.i .u8))] (fun d => c51 d.1) (fun d => r51 d.1) (fun d => L51 d.1)
set_option maxRecDepth 100000 in
set_option maxHeartbeats 4000000 in
theorem K51 (xs : (List Int)) (hc : c51 xs) : CallOk Try.prog 51 [.c (.rs (.i .u8) xs)] [] (r51 xs) (L51 xs) := by
  have hc : bytesOk xs ∧ xs.length ≤ 1000000 := hc
  have hb : bytesOk (0 :: xs) := bytesOk_cons.2 ⟨by omega, hc.1⟩
  have gok := (Gam.cons_ok E16_ok (Gam.nil_ok _))
  refine callOk' Try.func51 7 [.cell 2 25] _ rfl rfl rfl (by kernel_rfl) (by simp) [] rfl rfl (by simp) ?_
  simp only [params]
  refine AWP.sR gok [0, 2] (by apply aops_x (d := 2) (ag_n rfl) rfl (by first | (simp (disch := decide) only [hb, dg_len, go_sem, seval] <;> rfl) | (simp (disch := first | decide | omega) only [if_pos, nws, hb, dg_len, go_sem, seval] <;> rfl)) rfl; apply aops_end; rfl) (by (simp (disch := omega) only [go_sem, seval, lay, nws]); rfl) ?_
  refine AWP.sR gok [2] (by apply aops_x (d := 3) (ag_n rfl) rfl (by (simp (disch := first | decide | omega) only [if_pos, nws, hb, dg_len, go_sem, seval] <;> rfl)) rfl; apply aops_mv (t := 0) (d := 4) (ag_n rfl) rfl rfl (by first | (simp only [look_lay, look, seval] <;> rfl) | fail) rfl; apply aops_x (d := 5) (ag_n rfl) rfl (by (simp (disch := first | decide | omega) only [if_pos, nws, hb, dg_len, go_sem, seval] <;> rfl)) rfl; apply aops_x (d := 6) (ag_n rfl) rfl (by (simp (disch := first | decide | omega) only [if_pos, nws, hb, dg_len, go_sem, seval] <;> rfl)) rfl; apply aops_s (ag_n rfl) rfl (by first | (simp (disch := decide) only [hb, dg_len, go_sem, seval] <;> rfl) | (simp (disch := first | decide | omega) only [if_pos, nws, hb, dg_len, go_sem, seval] <;> rfl)); apply aops_end; rfl) (by (simp (disch := omega) only [go_sem, seval, lay, nws]); rfl) ?_
  refine AWP.ret ?_
  refine ⟨.inr rfl, _, (by simp only [go_sem, seval, hb, dg_len] <;> rfl), ?_⟩
  simp only [go_sem, seval, hb, dg_len, Option.some.injEq, AV.c.injEq, AV.agg.injEq, CV.v.injEq, Value.int.injEq, Value.bool.injEq, Row.raw.injEq, List.cons.injEq, CV.sl.injEq, and_true, true_and, and_self]
  rfl
theorem E51_ok : EntryOk Try.prog 51 E51 := pureN_ok (fun d hc => K51 d.1 hc) (fun _ => rfl) (fun _ => rfl)
attribute [go_sem] E51 c51 r51 L51
abbrev c53 (a : (List Int)) (b : (List Int)) : Prop := (bytesOk a ∧ a.length = 32) ∧ bytesOk b ∧ b.length = 32
abbrev r53 (a : (List Int)) (b : (List Int)) : AV := .agg (.ty (.i .u8) (bothF a b))
abbrev L53 (a : (List Int)) (b : (List Int)) : Hp := []
def E53 : Entry := pureN [(.ar 32 (.i .u8)), (.ar 32 (.i .u8))] (fun d => c53 d.1 d.2.1) (fun d => r53 d.1 d.2.1) (fun d => L53 d.1 d.2.1)
set_option maxRecDepth 100000 in
set_option maxHeartbeats 4000000 in
theorem K53 (a : (List Int)) (b : (List Int)) (hc : c53 a b) : CallOk Try.prog 53 [.agg (.ty (.i .u8) a), .agg (.ty (.i .u8) b)] [] (r53 a b) (L53 a b) := by
  have hc : (bytesOk a ∧ a.length = 32) ∧ bytesOk b ∧ b.length = 32 := hc
  obtain ⟨⟨a1, a2⟩, b1, b2⟩ := hc
  have e : [[1], a, b].flatten = 1 :: (a ++ b) := by simp
  have hb : bytesOk (1 :: (a ++ b)) := bytesOk_cons.2 ⟨by omega, bytesOk_append.2 ⟨a1, b1⟩⟩
  have hl : (a ++ b).length = 64 := by simp [a2, b2]
  have gok := (Gam.cons_ok E16_ok (Gam.cons_ok E70_ok (Gam.nil_ok _)))
  refine callOk' Try.func53 11 [.cell 4 25] _ rfl rfl rfl (by kernel_rfl) (by simp) [] rfl rfl (by simp) ?_
  simp only [params]
  refine AWP.sR gok [2, 3, 4] (by apply aops_x (d := 2) (ag_n rfl) rfl (by first | (simp (disch := decide) only [e, hb, hl, a2, b2, dg_len, go_sem, seval] <;> rfl) | (simp (disch := first | decide | omega) only [if_pos, nws, e, hb, hl, a2, b2, dg_len, go_sem, seval] <;> rfl)) rfl; apply aops_x (d := 3) (ag_n rfl) rfl (by first | (simp (disch := decide) only [e, hb, hl, a2, b2, dg_len, go_sem, seval] <;> rfl) | (simp (disch := first | decide | omega) only [if_pos, nws, e, hb, hl, a2, b2, dg_len, go_sem, seval] <;> rfl)) rfl; apply aops_x (d := 4) (ag_n rfl) rfl (by first | (simp (disch := decide) only [e, hb, hl, a2, b2, dg_len, go_sem, seval] <;> rfl) | (simp (disch := first | decide | omega) only [if_pos, nws, e, hb, hl, a2, b2, dg_len, go_sem, seval] <;> rfl)) rfl; apply aops_end; rfl) (by (simp (disch := omega) only [go_sem, seval, lay, nws]); rfl) ?_
  refine AWP.sD gok (by kernel_rfl) [4] [⟨[], true, 1⟩, ⟨[0], true, 0⟩, ⟨[1], true, 0⟩, ⟨[], true, 1⟩, ⟨[3, 0, 1, 4], true, 1⟩, ⟨[5], true, 0⟩, ⟨[2], false, 0⟩] (by kernel_rfl) (by first | rfl | simp only [go_sem, ↓reduceIte, Nat.reduceLT, Nat.reduceAdd]) (by first | rfl | simp only [go_sem, ↓reduceIte, Nat.reduceLT, Nat.reduceAdd]) (by (repeat (first | apply arun_step (by first | exact ag_n rfl | exact ag_b rfl rfl rfl (by first | (simp only [look_lay, look, seval] <;> rfl) | fail) (by first | rfl | (simp only [e, hb, hl, a2, b2, dg_len, decide_true, decide_false] <;> rfl) | fail) | fail) (by first | (simp (disch := decide) only [e, hb, hl, a2, b2, dg_len, go_sem, seval]; rfl) | (simp (disch := first | decide | omega) only [if_pos, nws, e, hb, hl, a2, b2, dg_len, go_sem, seval]; rfl)) (by first | (intro h; cases h; done) | (intro _; rfl) | (intro _; simp only [go_sem, seval, lay])) (by first | rfl | simp only [go_sem, seval, lay]) (by first | rfl | simp only [go_sem, seval, lay]) (by first | rfl | simp only [go_sem, seval, lay]) (by simp only [go_sem, seval, lay]; rfl) | apply arun_pass (by first | exact ag_f rfl rfl rfl (by first | (simp only [look_lay, look, seval] <;> rfl) | fail) (by first | rfl | (simp only [e, hb, hl, a2, b2, dg_len, decide_true, decide_false] <;> rfl) | fail) | exact ag_u rfl rfl rfl (by first | (simp only [look_lay, look, seval] <;> rfl) | fail) | fail) rfl (by simp only [go_sem, seval, lay]; rfl))); exact rfl) (by (simp (disch := omega) only [go_sem, seval, lay, nws]); rfl) ?_
  refine AWP.ret ?_
  refine ⟨.inr rfl, _, (by simp only [go_sem, seval, e, hb, hl, a2, b2, dg_len] <;> rfl), ?_⟩
  simp only [go_sem, seval, e, hb, hl, a2, b2, dg_len, Option.some.injEq, AV.c.injEq, AV.agg.injEq, CV.v.injEq, Value.int.injEq, Value.bool.injEq, Row.raw.injEq, List.cons.injEq, CV.sl.injEq, and_true, true_and, and_self]
  rfl
theorem E53_ok : EntryOk Try.prog 53 E53 := pureN_ok (fun d hc => K53 d.1 d.2.1 hc) (fun _ => rfl) (fun _ => rfl)
attribute [go_sem] E53 c53 r53 L53
end Go.Proofs.Ytbdnhoddkdiogaa
end
section
set_option linter.unusedSimpArgs false
set_option linter.unusedVariables false
namespace Go.Proofs.Ytbdnhoddkdiogaa
open Go.RowKit
def textsOk (l : List (List Int)) : Prop := ∀ t ∈ l, bytesOk t ∧ t.length ≤ 1000000
instance (l : List (List Int)) : Decidable (textsOk l) := inferInstanceAs (Decidable (∀ t ∈ l, bytesOk t ∧ t.length ≤ 1000000))
theorem textsOk_take {l : List (List Int)} (h : textsOk l) (k : Nat) : textsOk (l.take k) := fun t ht => h t (List.mem_of_mem_take ht)
theorem textsOk_drop {l : List (List Int)} (h : textsOk l) (k : Nat) : textsOk (l.drop k) := fun t ht => h t (List.mem_of_mem_drop ht)
/-! What stands for a list of texts. -/
def rootN : Nat → List (List Int) → List Int
  | 0, _ => dg []
  | n + 1, l => if l.length = 0 then dg [] else if l.length = 1 then leafF (l.headD []) else bothF (rootN n (l.take (splitN l.length))) (rootN n (l.drop (splitN l.length)))
theorem rootN_fuel : ∀ (n m : Nat) (l : List (List Int)), l.length ≤ n → l.length ≤ m → rootN n l = rootN m l
  | 0, m, l, h1, h2 => by
    cases m with
    | zero => rfl
    | succ m => rw [rootN, rootN, if_pos (by omega)]
  | n + 1, m, l, h1, h2 => by
    cases m with
    | zero => rw [rootN, rootN, if_pos (by omega)]
    | succ m =>
      rw [rootN, rootN]
      by_cases h0 : l.length = 0
      · rw [if_pos h0, if_pos h0]
      · by_cases h3 : l.length = 1
        · rw [if_neg h0, if_neg h0, if_pos h3, if_pos h3]
        · have := splitN_spec l.length (by omega)
          rw [if_neg h0, if_neg h0, if_neg h3, if_neg h3, rootN_fuel n m _ (by rw [List.length_take]; omega) (by rw [List.length_take]; omega), rootN_fuel n m _ (by rw [List.length_drop]; omega) (by rw [List.length_drop]; omega)]
def rootF (l : List (List Int)) : List Int := rootN l.length l
theorem rootF_0 (l : List (List Int)) (h : l.length = 0) : rootF l = dg [] := by unfold rootF; rw [h]; rfl
theorem rootF_1 (l : List (List Int)) (h : l.length = 1) : rootF l = leafF (l.headD []) := by unfold rootF; rw [h, rootN, if_neg (by omega), if_pos h]
theorem rootF_2 (l : List (List Int)) (h : 2 ≤ l.length) : rootF l = bothF (rootF (l.take (splitN l.length))) (rootF (l.drop (splitN l.length))) := by
  have := splitN_spec l.length h
  unfold rootF
  obtain ⟨n, hn⟩ : ∃ n, l.length = n + 1 := ⟨l.length - 1, by omega⟩
  rw [rootN_fuel l.length (n + 1) l (by omega) (by omega), rootN, if_neg (by omega), if_neg (by omega), rootN_fuel n _ (l.take _) (by rw [List.length_take]; omega) (Nat.le_refl _), rootN_fuel n _ (l.drop _) (by rw [List.length_drop]; omega) (Nat.le_refl _)]
theorem leafF_len (x : List Int) : (leafF x).length = 32 := dg_len _
theorem bothF_len (x y : List Int) : (bothF x y).length = 32 := dg_len _
theorem rootF_len (l : List (List Int)) : (rootF l).length = 32 := by
  by_cases h0 : l.length = 0
  · rw [rootF_0 l h0]; exact dg_len _
  · by_cases h1 : l.length = 1
    · rw [rootF_1 l h1]; exact dg_len _
    · rw [rootF_2 l (by omega)]; exact dg_len _
theorem rootF_ok (l : List (List Int)) : bytesOk (rootF l) := by
  by_cases h0 : l.length = 0
  · rw [rootF_0 l h0]; exact dg_ok _
  · by_cases h1 : l.length = 1
    · rw [rootF_1 l h1]; exact dg_ok _
    · rw [rootF_2 l (by omega)]; exact dg_ok _
theorem headD_get (l : List (List Int)) (x : List Int) (h : l[0]? = some x) : l.headD [] = x := by cases l <;> simp_all
abbrev c29 (l : (List (List Int))) : Prop := textsOk l ∧ l.length ≤ 1000000
abbrev r29 (l : (List (List Int))) : AV := .agg (.ty (.i .u8) (rootF l))
abbrev L29 (l : (List (List Int))) : Hp := []
def E29 : Entry := pureN [(.sl (.sl (.i .u8)))] (fun d => c29 d.1) (fun d => r29 d.1) (fun d => L29 d.1)
def En29 (N : Nat) : Entry := pureN [(.sl (.sl (.i .u8)))] (fun d => d.1.length < N ∧ c29 d.1) (fun d => r29 d.1) (fun d => L29 d.1)
attribute [go_sem] En29 c29 r29 L29
set_option maxRecDepth 100000 in
set_option maxHeartbeats 4000000 in
theorem K29 (N : Nat) (ih : EntryOk Try.prog 29 (En29 N)) (l : (List (List Int))) (hm : l.length < N + 1) (hc : c29 l) : CallOk Try.prog 29 [.c (.rs (.sl (.i .u8)) l)] [] (r29 l) (L29 l) := by
  have hc : textsOk l ∧ l.length ≤ 1000000 := hc
  have n0 : bytesOk [] := bytesOk_nil
  have gok := (Gam.cons_ok ih (Gam.cons_ok E16_ok (Gam.cons_ok E51_ok (Gam.cons_ok E52_ok (Gam.cons_ok E53_ok (Gam.nil_ok _))))))
  refine callOk' Try.func29 27 [.cell 2 25] _ rfl rfl rfl (by kernel_rfl) (by simp) [] rfl rfl (by simp) ?_
  simp only [params]
  refine AWP.sR gok [0, 2] (by apply aops_x (d := 2) (ag_n rfl) rfl (by first | (simp (disch := decide) only [leafF_len, bothF_len, dg_len, rootF_len, go_sem, seval] <;> rfl) | (simp (disch := first | decide | omega) only [if_pos, nws, leafF_len, bothF_len, dg_len, rootF_len, go_sem, seval] <;> rfl)) rfl; apply aops_end; rfl) (by (simp (disch := omega) only [go_sem, seval, lay, nws]); rfl) ?_
  refine AWP.seq ?_
  refine AWP.sR gok [0, 2, 5] (by apply aops_mv (t := 0) (d := 4) (ag_n rfl) rfl rfl (by first | (simp only [look_lay, look, seval] <;> rfl) | fail) rfl; apply aops_x (d := 5) (ag_n rfl) rfl (by first | (simp (disch := decide) only [leafF_len, bothF_len, dg_len, rootF_len, go_sem, seval] <;> rfl) | (simp (disch := first | decide | omega) only [if_pos, nws, leafF_len, bothF_len, dg_len, rootF_len, go_sem, seval] <;> rfl)) rfl; apply aops_end; rfl) (by (simp (disch := omega) only [go_sem, seval, lay, nws]); rfl) ?_
  refine AWP.block ?_
  refine AWP.sR gok [0, 2, 5, 6] (by apply aops_x (d := 7) (ag_n rfl) rfl (by first | (simp (disch := decide) only [leafF_len, bothF_len, dg_len, rootF_len, go_sem, seval] <;> rfl) | (simp (disch := first | decide | omega) only [if_pos, nws, leafF_len, bothF_len, dg_len, rootF_len, go_sem, seval] <;> rfl)) rfl; apply aops_as (t := 7) (d := 6) (ag_n rfl) rfl rfl (by first | (simp only [look_lay, look, seval] <;> rfl) | fail) rfl; apply aops_end; rfl) (by (simp (disch := omega) only [go_sem, seval, lay, nws]); rfl) ?_
  refine AWP.cond (b := _) rfl (fun h => ?_) (fun h => ?_) <;> (try simp only [decide_eq_true_eq, decide_eq_false_iff_not] at h)
  · skip
    refine AWP.sR gok [2] (by apply aops_x (d := 8) (ag_n rfl) rfl (by (simp (disch := first | decide | omega) only [if_pos, nws, leafF_len, bothF_len, dg_len, rootF_len, n0, go_sem, seval] <;> rfl)) rfl; apply aops_s (ag_n rfl) rfl (by first | (simp (disch := decide) only [leafF_len, bothF_len, dg_len, rootF_len, n0, go_sem, seval] <;> rfl) | (simp (disch := first | decide | omega) only [if_pos, nws, leafF_len, bothF_len, dg_len, rootF_len, n0, go_sem, seval] <;> rfl)); apply aops_end; rfl) (by (simp (disch := omega) only [go_sem, seval, lay, nws]); rfl) ?_
    refine AWP.ret ?_
    refine ⟨.inr rfl, _, (by simp only [go_sem, seval, leafF_len, bothF_len, dg_len, rootF_len] <;> rfl), ?_⟩
    simp only [go_sem, seval, leafF_len, bothF_len, dg_len, rootF_len, Option.some.injEq, AV.c.injEq, AV.agg.injEq, CV.v.injEq, Value.int.injEq, Value.bool.injEq, Row.raw.injEq, List.cons.injEq, CV.sl.injEq, and_true, true_and, and_self]
    rw [rootF_0 l (by omega)]
  · skip
    refine AWP.sR gok [0, 2, 9] (by apply aops_x (d := 10) (ag_n rfl) rfl (by first | (simp (disch := decide) only [leafF_len, bothF_len, dg_len, rootF_len, go_sem, seval] <;> rfl) | (simp (disch := first | decide | omega) only [if_pos, nws, leafF_len, bothF_len, dg_len, rootF_len, go_sem, seval] <;> rfl)) rfl; apply aops_as (t := 10) (d := 9) (ag_n rfl) rfl rfl (by first | (simp only [look_lay, look, seval] <;> rfl) | fail) rfl; apply aops_end; rfl) (by (simp (disch := omega) only [go_sem, seval, lay, nws]); rfl) ?_
    refine AWP.cond (b := _) rfl (fun h => ?_) (fun h => ?_) <;> (try simp only [decide_eq_true_eq, decide_eq_false_iff_not] at h)
    · skip
      obtain ⟨x, hx⟩ : ∃ x, l[0]? = some x := ⟨_, List.getElem?_eq_getElem (by omega)⟩
      have ht := hc.1 x (List.mem_of_getElem? hx)
      have ht1 := ht.1
      refine AWP.sR gok [2] (by apply aops_mv (t := 0) (d := 11) (ag_n rfl) rfl rfl (by first | (simp only [look_lay, look, seval] <;> rfl) | fail) rfl; apply aops_x (d := 12) (ag_n rfl) rfl (by (simp (disch := first | decide | omega) only [if_pos, nws, leafF_len, bothF_len, dg_len, rootF_len, hx, ht1, go_sem, seval] <;> rfl)) rfl; apply aops_x (d := 13) (ag_n rfl) rfl (by first | (simp (disch := decide) only [leafF_len, bothF_len, dg_len, rootF_len, hx, ht1, go_sem, seval] <;> rfl) | (simp (disch := first | decide | omega) only [if_pos, nws, leafF_len, bothF_len, dg_len, rootF_len, hx, ht1, go_sem, seval] <;> rfl)) rfl; apply aops_x (d := 14) (ag_n rfl) rfl (by (simp (disch := first | decide | omega) only [if_pos, nws, leafF_len, bothF_len, dg_len, rootF_len, hx, ht1, go_sem, seval] <;> rfl)) rfl; apply aops_s (ag_n rfl) rfl (by first | (simp (disch := decide) only [leafF_len, bothF_len, dg_len, rootF_len, hx, ht1, go_sem, seval] <;> rfl) | (simp (disch := first | decide | omega) only [if_pos, nws, leafF_len, bothF_len, dg_len, rootF_len, hx, ht1, go_sem, seval] <;> rfl)); apply aops_end; rfl) (by (simp (disch := omega) only [go_sem, seval, lay, nws]); rfl) ?_
      refine AWP.ret ?_
      refine ⟨.inr rfl, _, (by simp only [go_sem, seval, leafF_len, bothF_len, dg_len, rootF_len] <;> rfl), ?_⟩
      simp only [go_sem, seval, leafF_len, bothF_len, dg_len, rootF_len, Option.some.injEq, AV.c.injEq, AV.agg.injEq, CV.v.injEq, Value.int.injEq, Value.bool.injEq, Row.raw.injEq, List.cons.injEq, CV.sl.injEq, and_true, true_and, and_self]
      rw [rootF_1 l (by omega), headD_get l x hx]
    · skip
      refine AWP.skip ?_
      change AWP _ _ _ _ _
      have h2 : 2 ≤ l.length := by omega
      have sp := splitN_spec l.length h2
      refine AWP.sR gok [0, 2, 3] (by apply aops_mv (t := 0) (d := 15) (ag_n rfl) rfl rfl (by first | (simp only [look_lay, look, seval] <;> rfl) | fail) rfl; apply aops_x (d := 16) (ag_n rfl) rfl (by first | (simp (disch := decide) only [leafF_len, bothF_len, dg_len, rootF_len, Int.toNat_natCast, go_sem, seval] <;> rfl) | (simp (disch := first | decide | omega) only [if_pos, nws, leafF_len, bothF_len, dg_len, rootF_len, Int.toNat_natCast, go_sem, seval] <;> rfl)) rfl; apply aops_x (d := 17) (ag_n rfl) rfl (by (simp (disch := first | decide | omega) only [if_pos, nws, leafF_len, bothF_len, dg_len, rootF_len, Int.toNat_natCast, go_sem, seval] <;> rfl)) rfl; apply aops_as (t := 17) (d := 3) (ag_n rfl) rfl rfl (by first | (simp only [look_lay, look, seval] <;> rfl) | fail) rfl; apply aops_end; rfl) (by (simp (disch := omega) only [go_sem, seval, lay, nws]); rfl) ?_
      have t1 := textsOk_take hc.1 (splitN l.length)
      have t2 := textsOk_drop hc.1 (splitN l.length)
      have l1 : (l.take (splitN l.length)).length = splitN l.length := by rw [List.length_take]; omega
      have l2 : (l.drop (splitN l.length)).length = l.length - splitN l.length := by rw [List.length_drop]
      have e2 : (l.drop (splitN l.length)).take (l.length - splitN l.length) = l.drop (splitN l.length) := List.take_of_length_le (by rw [l2]; exact Nat.le_refl _)
      have o1 := rootF_ok (l.take (splitN l.length))
      have o2 := rootF_ok (l.drop (splitN l.length))
      refine AWP.sD gok (by kernel_rfl) [2] [⟨[], true, 0⟩, ⟨[], true, 0⟩, ⟨[], true, 0⟩, ⟨[], true, 0⟩, ⟨[], true, 0⟩, ⟨[], true, 0⟩, ⟨[], true, 0⟩, ⟨[], true, 0⟩, ⟨[], true, 0⟩, ⟨[0], false, 0⟩] (by kernel_rfl) (by first | rfl | simp only [go_sem, ↓reduceIte, Nat.reduceLT, Nat.reduceAdd]) (by first | rfl | simp only [go_sem, ↓reduceIte, Nat.reduceLT, Nat.reduceAdd]) (by (repeat (first | apply arun_step (by first | exact ag_n rfl | exact ag_b rfl rfl rfl (by first | (simp only [look_lay, look, seval] <;> rfl) | fail) (by first | rfl | (simp only [leafF_len, bothF_len, dg_len, rootF_len, t1, t2, l1, l2, e2, o1, o2, Nat.sub_zero, rootF_len, decide_true, decide_false] <;> rfl) | fail) | fail) (by first | (simp (disch := decide) only [leafF_len, bothF_len, dg_len, rootF_len, t1, t2, l1, l2, e2, o1, o2, Nat.sub_zero, rootF_len, go_sem, seval]; rfl) | (simp (disch := first | decide | omega) only [if_pos, nws, leafF_len, bothF_len, dg_len, rootF_len, t1, t2, l1, l2, e2, o1, o2, Nat.sub_zero, rootF_len, go_sem, seval]; rfl)) (by first | (intro h; cases h; done) | (intro _; rfl) | (intro _; simp only [go_sem, seval, lay])) (by first | rfl | simp only [go_sem, seval, lay]) (by first | rfl | simp only [go_sem, seval, lay]) (by first | rfl | simp only [go_sem, seval, lay]) (by simp only [go_sem, seval, lay]; rfl) | apply arun_pass (by first | exact ag_f rfl rfl rfl (by first | (simp only [look_lay, look, seval] <;> rfl) | fail) (by first | rfl | (simp only [leafF_len, bothF_len, dg_len, rootF_len, t1, t2, l1, l2, e2, o1, o2, Nat.sub_zero, rootF_len, decide_true, decide_false] <;> rfl) | fail) | exact ag_u rfl rfl rfl (by first | (simp only [look_lay, look, seval] <;> rfl) | fail) | fail) rfl (by simp only [go_sem, seval, lay]; rfl))); exact rfl) (by (simp (disch := omega) only [go_sem, seval, lay, nws]); rfl) ?_
      refine AWP.ret ?_
      refine ⟨.inr rfl, _, (by simp only [go_sem, seval, leafF_len, bothF_len, dg_len, rootF_len] <;> rfl), ?_⟩
      simp only [go_sem, seval, leafF_len, bothF_len, dg_len, rootF_len, Option.some.injEq, AV.c.injEq, AV.agg.injEq, CV.v.injEq, Value.int.injEq, Value.bool.injEq, Row.raw.injEq, List.cons.injEq, CV.sl.injEq, and_true, true_and, and_self]
      rw [rootF_2 l h2]
theorem En29_ok : ∀ N, EntryOk Try.prog 29 (En29 N)
  | 0 => pureN_ok (fun d hc => absurd hc.1 (Nat.not_lt_zero _)) (fun _ => rfl) (fun _ => rfl)
  | N + 1 => pureN_ok (fun d hc => K29 N (En29_ok N) d.1 hc.1 hc.2) (fun _ => rfl) (fun _ => rfl)
theorem E29_ok : EntryOk Try.prog 29 E29 := pureN_ok (fun d hc => K29 _ (En29_ok _) d.1 (Nat.lt_succ_self _) hc) (fun _ => rfl) (fun _ => rfl)
attribute [go_sem] E29
end Go.Proofs.Ytbdnhoddkdiogaa
end
section
set_option linter.unusedSimpArgs false
set_option linter.unusedVariables false
namespace Go.Proofs.Ytbdnhoddkdiogaa
open Go.RowKit
abbrev dgT : Ty := .ar 32 (.i .u8)
/-! The trees beside a place. -/
def besideN : Nat → List (List Int) → Nat → List (List Int)
  | 0, _, _ => []
  | n + 1, l, at_ => if l.length ≤ 1 then [] else if at_ < splitN l.length then besideN n (l.take (splitN l.length)) at_ ++ [rootF (l.drop (splitN l.length))]
    else besideN n (l.drop (splitN l.length)) (at_ - splitN l.length) ++ [rootF (l.take (splitN l.length))]
theorem besideN_fuel : ∀ (n m : Nat) (l : List (List Int)) (a : Nat), l.length ≤ n → l.length ≤ m → besideN n l a = besideN m l a
  | 0, m, l, a, h1, h2 => by
    cases m with
    | zero => rfl
    | succ m => rw [besideN, besideN, if_pos (by omega)]
  | n + 1, m, l, a, h1, h2 => by
    cases m with
    | zero => rw [besideN, besideN, if_pos (by omega)]
    | succ m =>
      rw [besideN, besideN]
      by_cases h0 : l.length ≤ 1
      · rw [if_pos h0, if_pos h0]
      · have := splitN_spec l.length (by omega)
        rw [if_neg h0, if_neg h0, besideN_fuel n m _ _ (by rw [List.length_take]; omega) (by rw [List.length_take]; omega), besideN_fuel n m _ _ (by rw [List.length_drop]; omega) (by rw [List.length_drop]; omega)]
def besideF (l : List (List Int)) (a : Nat) : List (List Int) := besideN l.length l a
theorem besideF_1 (l : List (List Int)) (a : Nat) (h : l.length ≤ 1) : besideF l a = [] := by
  unfold besideF
  cases hn : l.length with
  | zero => rfl
  | succ n => rw [besideN, if_pos h]
theorem besideF_2 (l : List (List Int)) (a : Nat) (h : 2 ≤ l.length) : besideF l a = if a < splitN l.length then besideF (l.take (splitN l.length)) a ++ [rootF (l.drop (splitN l.length))]
    else besideF (l.drop (splitN l.length)) (a - splitN l.length) ++ [rootF (l.take (splitN l.length))] := by
  have := splitN_spec l.length h
  unfold besideF
  obtain ⟨n, hn⟩ : ∃ n, l.length = n + 1 := ⟨l.length - 1, by omega⟩
  rw [besideN_fuel l.length (n + 1) l a (by omega) (by omega), besideN, if_neg (by omega), besideN_fuel n _ (l.take _) _ (by rw [List.length_take]; omega) (Nat.le_refl _), besideN_fuel n _ (l.drop _) _ (by rw [List.length_drop]; omega) (Nat.le_refl _)]
theorem besideF_le : ∀ (k : List (List Int)) (b : Nat), (besideF k b).length ≤ k.length := fun k => by
  generalize hn : k.length = n
  induction n using Nat.strongRecOn generalizing k with
  | _ n ih =>
    intro b
    by_cases h : k.length ≤ 1
    · rw [besideF_1 k b h]; simp
    · have sp := splitN_spec k.length (by omega)
      rw [besideF_2 k b (by omega)]
      split
      · have := ih _ (by rw [← hn]; exact sp.2.1) (k.take (splitN k.length)) (by rw [List.length_take]; omega) b
        simp only [List.length_append, List.length_cons, List.length_nil]; omega
      · have := ih (k.length - splitN k.length) (by omega) (k.drop (splitN k.length)) (by rw [List.length_drop]) (b - splitN k.length)
        simp only [List.length_append, List.length_cons, List.length_nil]; omega
abbrev c50 (l : (List (List Int))) (a : Int) : Prop := (textsOk l ∧ l.length ≤ 1000000) ∧ 0 ≤ a ∧ a < l.length
abbrev r50 (l : (List (List Int))) (a : Int) : AV := .c (.sl 0 0 (besideF l a.toNat).length 32)
abbrev L50 (l : (List (List Int))) (a : Int) : Hp := [some (.ty dgT (besideF l a.toNat))]
def E50 : Entry := pureN [(.sl (.sl (.i .u8))), (.i .i64)] (fun d => c50 d.1 d.2.1) (fun d => r50 d.1 d.2.1) (fun d => L50 d.1 d.2.1)
def En50 (N : Nat) : Entry := pureN [(.sl (.sl (.i .u8))), (.i .i64)] (fun d => d.1.length < N ∧ c50 d.1 d.2.1) (fun d => r50 d.1 d.2.1) (fun d => L50 d.1 d.2.1)
attribute [go_sem] En50 c50 r50 L50
set_option maxRecDepth 100000 in
set_option maxHeartbeats 4000000 in
theorem K50 (N : Nat) (ih : EntryOk Try.prog 50 (En50 N)) (l : (List (List Int))) (a : Int) (hm : l.length < N + 1) (hc : c50 l a) : CallOk Try.prog 50 [.c (.rs (.sl (.i .u8)) l), .c (ci .i64 a)] [] (r50 l a) (L50 l a) := by
  have hc : (textsOk l ∧ l.length ≤ 1000000) ∧ 0 ≤ a ∧ a < l.length := hc
  have blen : ∀ k b, (besideF k b).length ≤ k.length := besideF_le
  have gok := (Gam.cons_ok ih (Gam.cons_ok E29_ok (Gam.cons_ok E52_ok (Gam.nil_ok _))))
  refine callOk' Try.func50 39 [.tmp 4] _ rfl rfl rfl (by kernel_rfl) (by simp) [0] rfl rfl (by simp) ?_
  simp only [params]
  refine AWP.sR gok [0, 1] (by apply aops_x (d := 4) (ag_n rfl) rfl (by first | (simp (disch := decide) only [rootF_len, go_sem, seval] <;> rfl) | (simp (disch := first | decide | omega) only [if_pos, nws, rootF_len, go_sem, seval] <;> rfl)) rfl; apply aops_end; rfl) (by (simp (disch := omega) only [go_sem, seval, lay, nws]); rfl) ?_
  refine AWP.seq ?_
  refine AWP.sR gok [0, 1, 8] (by apply aops_mv (t := 0) (d := 6) (ag_n rfl) rfl rfl (by first | (simp only [look_lay, look, seval] <;> rfl) | fail) rfl; apply aops_x (d := 7) (ag_n rfl) rfl (by first | (simp (disch := decide) only [rootF_len, go_sem, seval] <;> rfl) | (simp (disch := first | decide | omega) only [if_pos, nws, rootF_len, go_sem, seval] <;> rfl)) rfl; apply aops_x (d := 8) (ag_n rfl) rfl (by first | (simp (disch := decide) only [rootF_len, go_sem, seval] <;> rfl) | (simp (disch := first | decide | omega) only [if_pos, nws, rootF_len, go_sem, seval] <;> rfl)) rfl; apply aops_end; rfl) (by (simp (disch := omega) only [go_sem, seval, lay, nws]); rfl) ?_
  refine AWP.cond (b := _) rfl (fun h => ?_) (fun h => ?_) <;> (try simp only [decide_eq_true_eq, decide_eq_false_iff_not] at h)
  · skip
    refine AWP.sR gok [4] (by apply aops_x (d := 4) (ag_n rfl) rfl (by first | (simp (disch := decide) only [rootF_len, go_sem, seval] <;> rfl) | (simp (disch := first | decide | omega) only [if_pos, nws, rootF_len, go_sem, seval] <;> rfl)) rfl; apply aops_end; rfl) (by (simp (disch := omega) only [go_sem, seval, lay, nws]); rfl) ?_
    refine AWP.ghost (Ghost.nil 4 32 dgT rfl (by simp)) ?_
    refine AWP.ret ?_
    refine ⟨.inr rfl, _, (by simp only [go_sem, seval, rootF_len] <;> rfl), ?_⟩
    simp only [go_sem, seval, rootF_len, Option.some.injEq, AV.c.injEq, AV.agg.injEq, CV.v.injEq, Value.int.injEq, Value.bool.injEq, Row.raw.injEq, List.cons.injEq, CV.sl.injEq, and_true, true_and, and_self]
    rw [besideF_1 l _ (by omega)]
    exact ⟨rfl, rfl⟩
  · skip
    refine AWP.skip ?_
    change AWP _ _ _ _ _
    have h2 : 2 ≤ l.length := by omega
    have sp := splitN_spec l.length h2
    have bf := besideF_2 l a.toNat h2
    refine AWP.sR gok [0, 1, 5] (by apply aops_mv (t := 0) (d := 9) (ag_n rfl) rfl rfl (by first | (simp only [look_lay, look, seval] <;> rfl) | fail) rfl; apply aops_x (d := 10) (ag_n rfl) rfl (by first | (simp (disch := decide) only [rootF_len, Int.toNat_natCast, go_sem, seval] <;> rfl) | (simp (disch := first | decide | omega) only [if_pos, nws, rootF_len, Int.toNat_natCast, go_sem, seval] <;> rfl)) rfl; apply aops_x (d := 11) (ag_n rfl) rfl (by (simp (disch := first | decide | omega) only [if_pos, nws, rootF_len, Int.toNat_natCast, go_sem, seval] <;> rfl)) rfl; apply aops_as (t := 11) (d := 5) (ag_n rfl) rfl rfl (by first | (simp only [look_lay, look, seval] <;> rfl) | fail) rfl; apply aops_end; rfl) (by (simp (disch := omega) only [go_sem, seval, lay, nws]); rfl) ?_
    refine AWP.seq ?_
    have t1 := textsOk_take hc.1.1 (splitN l.length)
    have t2 := textsOk_drop hc.1.1 (splitN l.length)
    have l1 : (l.take (splitN l.length)).length = splitN l.length := by rw [List.length_take]; omega
    have l2 : (l.drop (splitN l.length)).length = l.length - splitN l.length := by rw [List.length_drop]
    have e2 : (l.drop (splitN l.length)).take (l.length - splitN l.length) = l.drop (splitN l.length) := List.take_of_length_le (by rw [l2]; exact Nat.le_refl _)
    have b1 := blen (l.take (splitN l.length)) a.toNat
    have b2 := blen (l.drop (splitN l.length)) (a - splitN l.length).toNat
    rw [l1] at b1
    rw [l2] at b2
    refine AWP.sR gok [0, 1, 5, 14] (by apply aops_mv (t := 1) (d := 12) (ag_n rfl) rfl rfl (by first | (simp only [look_lay, look, seval] <;> rfl) | fail) rfl; apply aops_mv (t := 5) (d := 13) (ag_n rfl) rfl rfl (by first | (simp only [look_lay, look, seval] <;> rfl) | fail) rfl; apply aops_x (d := 14) (ag_n rfl) rfl (by first | (simp (disch := decide) only [rootF_len, go_sem, seval] <;> rfl) | (simp (disch := first | decide | omega) only [if_pos, nws, rootF_len, go_sem, seval] <;> rfl)) rfl; apply aops_end; rfl) (by (simp (disch := omega) only [go_sem, seval, lay, nws]); rfl) ?_
    refine AWP.cond (b := _) rfl (fun h => ?_) (fun h => ?_) <;> (try simp only [decide_eq_true_eq, decide_eq_false_iff_not] at h)
    · skip
      refine AWP.sD gok (by kernel_rfl) [4] [⟨[], true, 0⟩, ⟨[], true, 0⟩, ⟨[], true, 0⟩, ⟨[], true, 0⟩, ⟨[], true, 1⟩, ⟨[], true, 0⟩, ⟨[], true, 0⟩, ⟨[], true, 0⟩, ⟨[], true, 0⟩, ⟨[], true, 1⟩, ⟨[0, 1], false, 1⟩, ⟨[], true, 0⟩] (by kernel_rfl) (by first | rfl | simp only [go_sem, ↓reduceIte, Nat.reduceLT, Nat.reduceAdd]) (by first | rfl | simp only [go_sem, ↓reduceIte, Nat.reduceLT, Nat.reduceAdd]) (by (repeat (first | apply arun_step (by first | exact ag_n rfl | exact ag_b rfl rfl rfl (by first | (simp only [look_lay, look, seval] <;> rfl) | fail) (by first | rfl | (simp only [rootF_len, t1, t2, l1, l2, e2, Nat.sub_zero, decide_true, decide_false] <;> rfl) | fail) | fail) (by first | (simp (disch := decide) only [rootF_len, t1, t2, l1, l2, e2, Nat.sub_zero, go_sem, seval]; rfl) | (simp (disch := first | decide | omega) only [if_pos, nws, rootF_len, t1, t2, l1, l2, e2, Nat.sub_zero, go_sem, seval]; rfl)) (by first | (intro h; cases h; done) | (intro _; rfl) | (intro _; simp only [go_sem, seval, lay])) (by first | rfl | simp only [go_sem, seval, lay]) (by first | rfl | simp only [go_sem, seval, lay]) (by first | rfl | simp only [go_sem, seval, lay]) (by simp only [go_sem, seval, lay]; rfl) | apply arun_pass (by first | exact ag_f rfl rfl rfl (by first | (simp only [look_lay, look, seval] <;> rfl) | fail) (by first | rfl | (simp only [rootF_len, t1, t2, l1, l2, e2, Nat.sub_zero, decide_true, decide_false] <;> rfl) | fail) | exact ag_u rfl rfl rfl (by first | (simp only [look_lay, look, seval] <;> rfl) | fail) | fail) rfl (by simp only [go_sem, seval, lay]; rfl))); exact rfl) (by (simp (disch := omega) only [go_sem, seval, lay, nws]); rfl) ?_
      refine AWP.ghost (Ghost.gc (ρ := [2]) (by simp only [go_sem, seval] <;> rfl) rfl rfl rfl) ?_
      refine AWP.ret ?_
      refine ⟨.inr rfl, _, (by simp only [go_sem, seval, rootF_len] <;> rfl), ?_⟩
      simp only [go_sem, seval, rootF_len, Option.some.injEq, AV.c.injEq, AV.agg.injEq, CV.v.injEq, Value.int.injEq, Value.bool.injEq, Row.raw.injEq, List.cons.injEq, CV.sl.injEq, and_true, true_and, and_self]
      rw [bf, if_pos (by omega)]; simp
    · skip
      refine AWP.skip ?_
      change AWP _ _ _ _ _
      refine AWP.sD gok (by kernel_rfl) [4] [⟨[], true, 0⟩, ⟨[], true, 0⟩, ⟨[], true, 0⟩, ⟨[], true, 0⟩, ⟨[], true, 0⟩, ⟨[], true, 0⟩, ⟨[], true, 1⟩, ⟨[], true, 0⟩, ⟨[], true, 0⟩, ⟨[], true, 0⟩, ⟨[], true, 0⟩, ⟨[], true, 1⟩, ⟨[0, 1], false, 1⟩, ⟨[], true, 0⟩] (by kernel_rfl) (by first | rfl | simp only [go_sem, ↓reduceIte, Nat.reduceLT, Nat.reduceAdd]) (by first | rfl | simp only [go_sem, ↓reduceIte, Nat.reduceLT, Nat.reduceAdd]) (by (repeat (first | apply arun_step (by first | exact ag_n rfl | exact ag_b rfl rfl rfl (by first | (simp only [look_lay, look, seval] <;> rfl) | fail) (by first | rfl | (simp only [rootF_len, t1, t2, l1, l2, e2, Nat.sub_zero, decide_true, decide_false] <;> rfl) | fail) | fail) (by first | (simp (disch := decide) only [rootF_len, t1, t2, l1, l2, e2, Nat.sub_zero, go_sem, seval]; rfl) | (simp (disch := first | decide | omega) only [if_pos, nws, rootF_len, t1, t2, l1, l2, e2, Nat.sub_zero, go_sem, seval]; rfl)) (by first | (intro h; cases h; done) | (intro _; rfl) | (intro _; simp only [go_sem, seval, lay])) (by first | rfl | simp only [go_sem, seval, lay]) (by first | rfl | simp only [go_sem, seval, lay]) (by first | rfl | simp only [go_sem, seval, lay]) (by simp only [go_sem, seval, lay]; rfl) | apply arun_pass (by first | exact ag_f rfl rfl rfl (by first | (simp only [look_lay, look, seval] <;> rfl) | fail) (by first | rfl | (simp only [rootF_len, t1, t2, l1, l2, e2, Nat.sub_zero, decide_true, decide_false] <;> rfl) | fail) | exact ag_u rfl rfl rfl (by first | (simp only [look_lay, look, seval] <;> rfl) | fail) | fail) rfl (by simp only [go_sem, seval, lay]; rfl))); exact rfl) (by (simp (disch := omega) only [go_sem, seval, lay, nws]); rfl) ?_
      refine AWP.ghost (Ghost.gc (ρ := [2]) (by simp only [go_sem, seval] <;> rfl) rfl rfl rfl) ?_
      refine AWP.ret ?_
      refine ⟨.inr rfl, _, (by simp only [go_sem, seval, rootF_len] <;> rfl), ?_⟩
      simp only [go_sem, seval, rootF_len, Option.some.injEq, AV.c.injEq, AV.agg.injEq, CV.v.injEq, Value.int.injEq, Value.bool.injEq, Row.raw.injEq, List.cons.injEq, CV.sl.injEq, and_true, true_and, and_self]
      rw [bf, if_neg (by omega), show (a - splitN l.length).toNat = a.toNat - splitN l.length by omega]; simp
theorem En50_ok : ∀ N, EntryOk Try.prog 50 (En50 N)
  | 0 => pureN_ok (fun d hc => absurd hc.1 (Nat.not_lt_zero _)) (fun _ => rfl) (fun _ => rfl)
  | N + 1 => pureN_ok (fun d hc => K50 N (En50_ok N) d.1 d.2.1 hc.1 hc.2) (fun _ => rfl) (fun _ => rfl)
theorem E50_ok : EntryOk Try.prog 50 E50 := pureN_ok (fun d hc => K50 _ (En50_ok _) d.1 d.2.1 (Nat.lt_succ_self _) hc) (fun _ => rfl) (fun _ => rfl)
attribute [go_sem] E50
end Go.Proofs.Ytbdnhoddkdiogaa
end
section
set_option linter.unusedSimpArgs false
set_option linter.unusedVariables false
namespace Go.Proofs.Ytbdnhoddkdiogaa
open Go.RowKit
def proofF (l : List (List Int)) (a : Int) : List (List Int) := if 0 ≤ a ∧ a < l.length then besideF l a.toNat else []
abbrev c28 (l : (List (List Int))) (a : Int) : Prop := textsOk l ∧ l.length ≤ 1000000
abbrev r28 (l : (List (List Int))) (a : Int) : AV := .tup [.c (.sl 0 0 (proofF l a).length 32), .c (ci .i64 (if 0 ≤ a ∧ a < l.length then 0 else 5))]
abbrev L28 (l : (List (List Int))) (a : Int) : Hp := [some (.ty dgT (proofF l a))]
def E28 : Entry := pureN [(.sl (.sl (.i .u8))), (.i .i64)] (fun d => c28 d.1 d.2.1) (fun d => r28 d.1 d.2.1) (fun d => L28 d.1 d.2.1)
set_option maxRecDepth 100000 in
set_option maxHeartbeats 4000000 in
theorem K28 (l : (List (List Int))) (a : Int) (hc : c28 l a) : CallOk Try.prog 28 [.c (.rs (.sl (.i .u8)) l), .c (ci .i64 a)] [] (r28 l a) (L28 l a) := by
  have hc : textsOk l ∧ l.length ≤ 1000000 := hc
  by_cases h1 : a < 0
  · skip
    have gok := (Gam.cons_ok E50_ok (Gam.nil_ok _))
    refine callOk' Try.func28 17 [.tmp 4, .tmp 5] _ rfl rfl rfl (by kernel_rfl) (by simp) [0] rfl rfl (by simp) ?_
    simp only [params]
    refine AWP.sR gok [0, 1] (by apply aops_x (d := 4) (ag_n rfl) rfl (by first | (simp (disch := decide) only [h1, go_sem, seval] <;> rfl) | (simp (disch := first | decide | omega) only [if_pos, nws, h1, go_sem, seval] <;> rfl)) rfl; apply aops_x (d := 5) (ag_n rfl) rfl (by first | (simp (disch := decide) only [h1, go_sem, seval] <;> rfl) | (simp (disch := first | decide | omega) only [if_pos, nws, h1, go_sem, seval] <;> rfl)) rfl; apply aops_end; rfl) (by (simp (disch := omega) only [go_sem, seval, lay, nws]); rfl) ?_
    refine AWP.seq ?_
    refine AWP.sR gok [0, 1, 13] (by apply aops_mv (t := 1) (d := 6) (ag_n rfl) rfl rfl (by first | (simp only [look_lay, look, seval] <;> rfl) | fail) rfl; apply aops_x (d := 7) (ag_n rfl) rfl (by first | (simp (disch := decide) only [h1, go_sem, seval] <;> rfl) | (simp (disch := first | decide | omega) only [if_pos, nws, h1, go_sem, seval] <;> rfl)) rfl; apply aops_mv (t := 7) (d := 8) (ag_n rfl) rfl rfl (by first | (simp only [look_lay, look, seval] <;> rfl) | fail) rfl; (first | apply aops_mv (t := 1) (d := 9) (ag_b (j := 2) (d := 8) rfl rfl rfl (by first | (simp only [look_lay, look, seval] <;> rfl) | fail) rfl) rfl rfl (by first | (simp only [look_lay, look, seval] <;> rfl) | fail) rfl | apply aops_ps (d := 9) (by first | exact ag_f (j := 2) (d := 8) rfl rfl rfl (by first | (simp only [look_lay, look, seval] <;> rfl) | fail) rfl | exact ag_u (j := 2) (d := 8) rfl rfl rfl (by first | (simp only [look_lay, look, seval] <;> rfl) | fail) | fail) rfl rfl); (first | apply aops_mv (t := 0) (d := 10) (ag_b (j := 2) (d := 8) rfl rfl rfl (by first | (simp only [look_lay, look, seval] <;> rfl) | fail) rfl) rfl rfl (by first | (simp only [look_lay, look, seval] <;> rfl) | fail) rfl | apply aops_ps (d := 10) (by first | exact ag_f (j := 2) (d := 8) rfl rfl rfl (by first | (simp only [look_lay, look, seval] <;> rfl) | fail) rfl | exact ag_u (j := 2) (d := 8) rfl rfl rfl (by first | (simp only [look_lay, look, seval] <;> rfl) | fail) | fail) rfl rfl); (first | apply aops_x (d := 11) (ag_b (j := 2) (d := 8) rfl rfl rfl (by first | (simp only [look_lay, look, seval] <;> rfl) | fail) rfl) rfl (by first | (simp (disch := decide) only [h1, go_sem, seval] <;> rfl) | (simp (disch := first | decide | omega) only [if_pos, nws, h1, go_sem, seval] <;> rfl)) rfl | apply aops_ps (d := 11) (by first | exact ag_f (j := 2) (d := 8) rfl rfl rfl (by first | (simp only [look_lay, look, seval] <;> rfl) | fail) rfl | exact ag_u (j := 2) (d := 8) rfl rfl rfl (by first | (simp only [look_lay, look, seval] <;> rfl) | fail) | fail) rfl rfl); (first | apply aops_x (d := 12) (ag_b (j := 2) (d := 8) rfl rfl rfl (by first | (simp only [look_lay, look, seval] <;> rfl) | fail) rfl) rfl (by first | (simp (disch := decide) only [h1, go_sem, seval] <;> rfl) | (simp (disch := first | decide | omega) only [if_pos, nws, h1, go_sem, seval] <;> rfl)) rfl | apply aops_ps (d := 12) (by first | exact ag_f (j := 2) (d := 8) rfl rfl rfl (by first | (simp only [look_lay, look, seval] <;> rfl) | fail) rfl | exact ag_u (j := 2) (d := 8) rfl rfl rfl (by first | (simp only [look_lay, look, seval] <;> rfl) | fail) | fail) rfl rfl); apply aops_x (d := 13) (ag_n rfl) rfl (by first | (simp (disch := decide) only [h1, go_sem, seval] <;> rfl) | (simp (disch := first | decide | omega) only [if_pos, nws, h1, go_sem, seval] <;> rfl)) rfl; apply aops_end; rfl) (by (simp (disch := omega) only [go_sem, seval, lay, nws]); rfl) ?_
    refine AWP.condT (b := _) rfl rfl ?_
    refine AWP.sR gok [4, 5] (by apply aops_x (d := 4) (ag_n rfl) rfl (by first | (simp (disch := decide) only [h1, go_sem, seval] <;> rfl) | (simp (disch := first | decide | omega) only [if_pos, nws, h1, go_sem, seval] <;> rfl)) rfl; apply aops_x (d := 5) (ag_n rfl) rfl (by first | (simp (disch := decide) only [h1, go_sem, seval] <;> rfl) | (simp (disch := first | decide | omega) only [if_pos, nws, h1, go_sem, seval] <;> rfl)) rfl; apply aops_end; rfl) (by (simp (disch := omega) only [go_sem, seval, lay, nws]); rfl) ?_
    refine AWP.ghost (Ghost.nil 4 32 dgT rfl (by simp)) ?_
    refine AWP.ret ?_
    refine ⟨.inr rfl, _, (by simp only [go_sem, seval, h1] <;> rfl), ?_⟩
    simp only [go_sem, seval, h1, Option.some.injEq, AV.c.injEq, AV.agg.injEq, CV.v.injEq, Value.int.injEq, Value.bool.injEq, Row.raw.injEq, List.cons.injEq, CV.sl.injEq, and_true, true_and, and_self]
    unfold r28 proofF; rw [if_neg (by omega), if_neg (by omega)]; exact ⟨rfl, rfl⟩
  · skip
    by_cases h2 : (l.length : Int) ≤ a
    · skip
      have gok := (Gam.cons_ok E50_ok (Gam.nil_ok _))
      refine callOk' Try.func28 17 [.tmp 4, .tmp 5] _ rfl rfl rfl (by kernel_rfl) (by simp) [0] rfl rfl (by simp) ?_
      simp only [params]
      refine AWP.sR gok [0, 1] (by apply aops_x (d := 4) (ag_n rfl) rfl (by first | (simp (disch := decide) only [h1, h2, go_sem, seval] <;> rfl) | (simp (disch := first | decide | omega) only [if_pos, nws, h1, h2, go_sem, seval] <;> rfl)) rfl; apply aops_x (d := 5) (ag_n rfl) rfl (by first | (simp (disch := decide) only [h1, h2, go_sem, seval] <;> rfl) | (simp (disch := first | decide | omega) only [if_pos, nws, h1, h2, go_sem, seval] <;> rfl)) rfl; apply aops_end; rfl) (by (simp (disch := omega) only [go_sem, seval, lay, nws]); rfl) ?_
      refine AWP.seq ?_
      refine AWP.sR gok [0, 1, 13] (by apply aops_mv (t := 1) (d := 6) (ag_n rfl) rfl rfl (by first | (simp only [look_lay, look, seval] <;> rfl) | fail) rfl; apply aops_x (d := 7) (ag_n rfl) rfl (by first | (simp (disch := decide) only [h1, h2, go_sem, seval] <;> rfl) | (simp (disch := first | decide | omega) only [if_pos, nws, h1, h2, go_sem, seval] <;> rfl)) rfl; apply aops_mv (t := 7) (d := 8) (ag_n rfl) rfl rfl (by first | (simp only [look_lay, look, seval] <;> rfl) | fail) rfl; (first | apply aops_mv (t := 1) (d := 9) (ag_b (j := 2) (d := 8) rfl rfl rfl (by first | (simp only [look_lay, look, seval] <;> rfl) | fail) rfl) rfl rfl (by first | (simp only [look_lay, look, seval] <;> rfl) | fail) rfl | apply aops_ps (d := 9) (by first | exact ag_f (j := 2) (d := 8) rfl rfl rfl (by first | (simp only [look_lay, look, seval] <;> rfl) | fail) rfl | exact ag_u (j := 2) (d := 8) rfl rfl rfl (by first | (simp only [look_lay, look, seval] <;> rfl) | fail) | fail) rfl rfl); (first | apply aops_mv (t := 0) (d := 10) (ag_b (j := 2) (d := 8) rfl rfl rfl (by first | (simp only [look_lay, look, seval] <;> rfl) | fail) rfl) rfl rfl (by first | (simp only [look_lay, look, seval] <;> rfl) | fail) rfl | apply aops_ps (d := 10) (by first | exact ag_f (j := 2) (d := 8) rfl rfl rfl (by first | (simp only [look_lay, look, seval] <;> rfl) | fail) rfl | exact ag_u (j := 2) (d := 8) rfl rfl rfl (by first | (simp only [look_lay, look, seval] <;> rfl) | fail) | fail) rfl rfl); (first | apply aops_x (d := 11) (ag_b (j := 2) (d := 8) rfl rfl rfl (by first | (simp only [look_lay, look, seval] <;> rfl) | fail) rfl) rfl (by first | (simp (disch := decide) only [h1, h2, go_sem, seval] <;> rfl) | (simp (disch := first | decide | omega) only [if_pos, nws, h1, h2, go_sem, seval] <;> rfl)) rfl | apply aops_ps (d := 11) (by first | exact ag_f (j := 2) (d := 8) rfl rfl rfl (by first | (simp only [look_lay, look, seval] <;> rfl) | fail) rfl | exact ag_u (j := 2) (d := 8) rfl rfl rfl (by first | (simp only [look_lay, look, seval] <;> rfl) | fail) | fail) rfl rfl); (first | apply aops_x (d := 12) (ag_b (j := 2) (d := 8) rfl rfl rfl (by first | (simp only [look_lay, look, seval] <;> rfl) | fail) rfl) rfl (by first | (simp (disch := decide) only [h1, h2, go_sem, seval] <;> rfl) | (simp (disch := first | decide | omega) only [if_pos, nws, h1, h2, go_sem, seval] <;> rfl)) rfl | apply aops_ps (d := 12) (by first | exact ag_f (j := 2) (d := 8) rfl rfl rfl (by first | (simp only [look_lay, look, seval] <;> rfl) | fail) rfl | exact ag_u (j := 2) (d := 8) rfl rfl rfl (by first | (simp only [look_lay, look, seval] <;> rfl) | fail) | fail) rfl rfl); apply aops_x (d := 13) (ag_n rfl) rfl (by first | (simp (disch := decide) only [h1, h2, go_sem, seval] <;> rfl) | (simp (disch := first | decide | omega) only [if_pos, nws, h1, h2, go_sem, seval] <;> rfl)) rfl; apply aops_end; rfl) (by (simp (disch := omega) only [go_sem, seval, lay, nws]); rfl) ?_
      refine AWP.condT (b := _) rfl rfl ?_
      refine AWP.sR gok [4, 5] (by apply aops_x (d := 4) (ag_n rfl) rfl (by first | (simp (disch := decide) only [h1, h2, go_sem, seval] <;> rfl) | (simp (disch := first | decide | omega) only [if_pos, nws, h1, h2, go_sem, seval] <;> rfl)) rfl; apply aops_x (d := 5) (ag_n rfl) rfl (by first | (simp (disch := decide) only [h1, h2, go_sem, seval] <;> rfl) | (simp (disch := first | decide | omega) only [if_pos, nws, h1, h2, go_sem, seval] <;> rfl)) rfl; apply aops_end; rfl) (by (simp (disch := omega) only [go_sem, seval, lay, nws]); rfl) ?_
      refine AWP.ghost (Ghost.nil 4 32 dgT rfl (by simp)) ?_
      refine AWP.ret ?_
      refine ⟨.inr rfl, _, (by simp only [go_sem, seval, h1, h2] <;> rfl), ?_⟩
      simp only [go_sem, seval, h1, h2, Option.some.injEq, AV.c.injEq, AV.agg.injEq, CV.v.injEq, Value.int.injEq, Value.bool.injEq, Row.raw.injEq, List.cons.injEq, CV.sl.injEq, and_true, true_and, and_self]
      unfold r28 proofF; rw [if_neg (by omega), if_neg (by omega)]; exact ⟨rfl, rfl⟩
    · skip
      have pf : proofF l a = besideF l a.toNat := by unfold proofF; rw [if_pos (by omega)]
      have gok := (Gam.cons_ok E50_ok (Gam.nil_ok _))
      refine callOk' Try.func28 17 [.tmp 4, .tmp 5] _ rfl rfl rfl (by kernel_rfl) (by simp) [0] rfl rfl (by simp) ?_
      simp only [params]
      refine AWP.sR gok [0, 1] (by apply aops_x (d := 4) (ag_n rfl) rfl (by first | (simp (disch := decide) only [h1, h2, go_sem, seval] <;> rfl) | (simp (disch := first | decide | omega) only [if_pos, nws, h1, h2, go_sem, seval] <;> rfl)) rfl; apply aops_x (d := 5) (ag_n rfl) rfl (by first | (simp (disch := decide) only [h1, h2, go_sem, seval] <;> rfl) | (simp (disch := first | decide | omega) only [if_pos, nws, h1, h2, go_sem, seval] <;> rfl)) rfl; apply aops_end; rfl) (by (simp (disch := omega) only [go_sem, seval, lay, nws]); rfl) ?_
      refine AWP.seq ?_
      refine AWP.sR gok [0, 1, 13] (by apply aops_mv (t := 1) (d := 6) (ag_n rfl) rfl rfl (by first | (simp only [look_lay, look, seval] <;> rfl) | fail) rfl; apply aops_x (d := 7) (ag_n rfl) rfl (by first | (simp (disch := decide) only [h1, h2, go_sem, seval] <;> rfl) | (simp (disch := first | decide | omega) only [if_pos, nws, h1, h2, go_sem, seval] <;> rfl)) rfl; apply aops_mv (t := 7) (d := 8) (ag_n rfl) rfl rfl (by first | (simp only [look_lay, look, seval] <;> rfl) | fail) rfl; (first | apply aops_mv (t := 1) (d := 9) (ag_b (j := 2) (d := 8) rfl rfl rfl (by first | (simp only [look_lay, look, seval] <;> rfl) | fail) rfl) rfl rfl (by first | (simp only [look_lay, look, seval] <;> rfl) | fail) rfl | apply aops_ps (d := 9) (by first | exact ag_f (j := 2) (d := 8) rfl rfl rfl (by first | (simp only [look_lay, look, seval] <;> rfl) | fail) rfl | exact ag_u (j := 2) (d := 8) rfl rfl rfl (by first | (simp only [look_lay, look, seval] <;> rfl) | fail) | fail) rfl rfl); (first | apply aops_mv (t := 0) (d := 10) (ag_b (j := 2) (d := 8) rfl rfl rfl (by first | (simp only [look_lay, look, seval] <;> rfl) | fail) rfl) rfl rfl (by first | (simp only [look_lay, look, seval] <;> rfl) | fail) rfl | apply aops_ps (d := 10) (by first | exact ag_f (j := 2) (d := 8) rfl rfl rfl (by first | (simp only [look_lay, look, seval] <;> rfl) | fail) rfl | exact ag_u (j := 2) (d := 8) rfl rfl rfl (by first | (simp only [look_lay, look, seval] <;> rfl) | fail) | fail) rfl rfl); (first | apply aops_x (d := 11) (ag_b (j := 2) (d := 8) rfl rfl rfl (by first | (simp only [look_lay, look, seval] <;> rfl) | fail) rfl) rfl (by first | (simp (disch := decide) only [h1, h2, go_sem, seval] <;> rfl) | (simp (disch := first | decide | omega) only [if_pos, nws, h1, h2, go_sem, seval] <;> rfl)) rfl | apply aops_ps (d := 11) (by first | exact ag_f (j := 2) (d := 8) rfl rfl rfl (by first | (simp only [look_lay, look, seval] <;> rfl) | fail) rfl | exact ag_u (j := 2) (d := 8) rfl rfl rfl (by first | (simp only [look_lay, look, seval] <;> rfl) | fail) | fail) rfl rfl); (first | apply aops_x (d := 12) (ag_b (j := 2) (d := 8) rfl rfl rfl (by first | (simp only [look_lay, look, seval] <;> rfl) | fail) rfl) rfl (by first | (simp (disch := decide) only [h1, h2, go_sem, seval] <;> rfl) | (simp (disch := first | decide | omega) only [if_pos, nws, h1, h2, go_sem, seval] <;> rfl)) rfl | apply aops_ps (d := 12) (by first | exact ag_f (j := 2) (d := 8) rfl rfl rfl (by first | (simp only [look_lay, look, seval] <;> rfl) | fail) rfl | exact ag_u (j := 2) (d := 8) rfl rfl rfl (by first | (simp only [look_lay, look, seval] <;> rfl) | fail) | fail) rfl rfl); apply aops_x (d := 13) (ag_n rfl) rfl (by first | (simp (disch := decide) only [h1, h2, go_sem, seval] <;> rfl) | (simp (disch := first | decide | omega) only [if_pos, nws, h1, h2, go_sem, seval] <;> rfl)) rfl; apply aops_end; rfl) (by (simp (disch := omega) only [go_sem, seval, lay, nws]); rfl) ?_
      refine AWP.condF (b := _) rfl rfl ?_
      refine AWP.skip ?_
      change AWP _ _ _ _ _
      refine AWP.sR gok [4, 5] (by apply aops_mv (t := 0) (d := 14) (ag_n rfl) rfl rfl (by first | (simp only [look_lay, look, seval] <;> rfl) | fail) rfl; apply aops_mv (t := 1) (d := 15) (ag_n rfl) rfl rfl (by first | (simp only [look_lay, look, seval] <;> rfl) | fail) rfl; apply aops_x (d := 16) (ag_n rfl) rfl (by (simp (disch := first | decide | omega) only [if_pos, nws, h1, h2, hc.1, go_sem, seval] <;> rfl)) rfl; apply aops_as (t := 16) (d := 4) (ag_n rfl) rfl rfl (by first | (simp only [look_lay, look, seval] <;> rfl) | fail) rfl; apply aops_x (d := 5) (ag_n rfl) rfl (by first | (simp (disch := decide) only [h1, h2, hc.1, go_sem, seval] <;> rfl) | (simp (disch := first | decide | omega) only [if_pos, nws, h1, h2, hc.1, go_sem, seval] <;> rfl)) rfl; apply aops_end; rfl) (by (simp (disch := omega) only [go_sem, seval, lay, nws]); rfl) ?_
      refine AWP.ret ?_
      refine ⟨.inr rfl, _, (by simp only [go_sem, seval, h1, h2] <;> rfl), ?_⟩
      simp only [go_sem, seval, h1, h2, Option.some.injEq, AV.c.injEq, AV.agg.injEq, CV.v.injEq, Value.int.injEq, Value.bool.injEq, Row.raw.injEq, List.cons.injEq, CV.sl.injEq, and_true, true_and, and_self]
      unfold r28; rw [pf, if_pos (by omega)]; exact ⟨rfl, rfl⟩
theorem E28_ok : EntryOk Try.prog 28 E28 := pureN_ok (fun d hc => K28 d.1 d.2.1 hc) (fun _ => rfl) (fun _ => rfl)
attribute [go_sem] E28 c28 r28 L28
/-! Which way to go. -/
def dirsN : Nat → Nat → Nat → List Bool
  | 0, _, _ => []
  | n + 1, a, m => if m ≤ 1 then [] else if splitN m ≤ a then true :: dirsN n (a - splitN m) (m - splitN m) else false :: dirsN n a (splitN m)
theorem dirsN_fuel : ∀ (n k a m : Nat), m ≤ n → m ≤ k → dirsN n a m = dirsN k a m
  | 0, k, a, m, h1, h2 => by
    cases k with
    | zero => rfl
    | succ k => rw [dirsN, dirsN, if_pos (by omega)]
  | n + 1, k, a, m, h1, h2 => by
    cases k with
    | zero => rw [dirsN, dirsN, if_pos (by omega)]
    | succ k =>
      rw [dirsN, dirsN]
      by_cases h0 : m ≤ 1
      · rw [if_pos h0, if_pos h0]
      · have := splitN_spec m (by omega)
        rw [if_neg h0, if_neg h0, dirsN_fuel n k _ _ (by omega) (by omega), dirsN_fuel n k _ (splitN m) (by omega) (by omega)]
def dirsF (a m : Nat) : List Bool := dirsN m a m
theorem dirsF_1 (a m : Nat) (h : m ≤ 1) : dirsF a m = [] := by
  unfold dirsF
  cases m with
  | zero => rfl
  | succ n => rw [dirsN, if_pos h]
theorem dirsF_2 (a m : Nat) (h : 2 ≤ m) : dirsF a m = if splitN m ≤ a then true :: dirsF (a - splitN m) (m - splitN m) else false :: dirsF a (splitN m) := by
  have := splitN_spec m h
  unfold dirsF
  obtain ⟨n, hn⟩ : ∃ n, m = n + 1 := ⟨m - 1, by omega⟩
  rw [dirsN_fuel m (n + 1) a m (by omega) (by omega), dirsN, if_neg (by omega), dirsN_fuel n _ _ (m - splitN m) (by omega) (Nat.le_refl _), dirsN_fuel n _ _ (splitN m) (by omega) (Nat.le_refl _)]
theorem dirsF_len : ∀ m a, (dirsF a m).length ≤ m := fun m => by
  induction m using Nat.strongRecOn with
  | _ m ih =>
    intro a
    by_cases h : m ≤ 1
    · rw [dirsF_1 a m h]; simp
    · have sp := splitN_spec m (by omega)
      rw [dirsF_2 a m (by omega)]
      split
      · have := ih (m - splitN m) (by omega) (a - splitN m); simp only [List.length_cons]; omega
      · have := ih (splitN m) (by omega) a; simp only [List.length_cons]; omega
/-! A function that turns a row of the caller's. -/
def rowE (t : Ty) (c : List t.D → Prop) [∀ l, Decidable (c l)] (f : List t.D → List t.D) : Entry := fun args H => match args with
  | [.c (.sl id 0 n e)] => match hrow H id with
    | some (.ty t' xs) => if h : t' = t then (if e = t.sz ∧ n = xs.length ∧ c (h ▸ xs) ∧ id < H.length then some (.tup [], H.set id (some (.ty t (f (h ▸ xs))))) else none) else none
    | _ => none
  | _ => none
theorem rowE_ok {P : Program} {g : FuncId} {t : Ty} {c : List t.D → Prop} [∀ l, Decidable (c l)] {f : List t.D → List t.D} (h : ∀ xs : List t.D, c xs → CallOk P g [.c (.sl 0 0 xs.length t.sz)] [some (.ty t xs)] (.tup []) [some (.ty t (f xs))]) : EntryOk P g (rowE t c f) := fun args H r H' hr => by
  unfold rowE at hr
  split at hr
  · rename_i id n e
    split at hr
    · rename_i t' xs hrow1
      split at hr
      · rename_i ht
        subst ht
        split at hr
        · rename_i hc
          obtain ⟨rfl, rfl, hc, hid⟩ := hc
          cases hr
          have hH : H[id]? = some (some (.ty t' xs)) := by unfold hrow at hrow1; split at hrow1 <;> simp_all
          have := frameOk0 (C := H) [id] (h xs hc) rfl (by simp) rfl (by simpa using hid) (fun i q hq => by
            cases i with
            | zero => simp at hq; subst hq; simpa [ats, Row.mapId] using hH
            | succ i => simp at hq) rfl (args := [.c (.sl id 0 xs.length t'.sz)]) (fun i y hy => by
            match i, hy with
            | 0, hy => cases hy; rfl)
          simpa [ats, patch, AV.mapId, Row.mapId] using this
        · cases hr
      · cases hr
    · cases hr
  · cases hr
attribute [go_sem] rowE
def mirr (xs : List Bool) (i : Nat) : List Bool := (List.range xs.length).map fun m => if m < i ∨ xs.length - 1 - i < m then xs.getD (xs.length - 1 - m) false else xs.getD m false
theorem mirr_len (xs : List Bool) (i : Nat) : (mirr xs i).length = xs.length := by simp [mirr]
theorem mirr_at (xs : List Bool) (i m : Nat) (h : m < xs.length) : (mirr xs i)[m]? = some (if m < i ∨ xs.length - 1 - i < m then xs.getD (xs.length - 1 - m) false else xs.getD m false) := by
  unfold mirr; rw [List.getElem?_map, List.getElem?_range h]; rfl
theorem mirr_0 (xs : List Bool) : mirr xs 0 = xs := by
  apply List.ext_getElem?
  intro m
  by_cases h : m < xs.length
  · rw [mirr_at xs 0 m h, if_neg (by omega), List.getD_eq_getElem?_getD, List.getElem?_eq_getElem h]; rfl
  · rw [List.getElem?_eq_none (by rw [mirr_len]; omega), List.getElem?_eq_none (by omega)]
theorem mirr_end (xs : List Bool) (i : Nat) (h : xs.length ≤ 2 * i + 1) : mirr xs i = xs.reverse := by
  apply List.ext_getElem?
  intro m
  by_cases hm : m < xs.length
  · rw [mirr_at xs i m hm, List.getElem?_reverse hm]
    by_cases hc : m < i ∨ xs.length - 1 - i < m
    · rw [if_pos hc, List.getD_eq_getElem?_getD, List.getElem?_eq_getElem (by omega)]; rfl
    · rw [if_neg hc, show xs.length - 1 - m = m by omega, List.getD_eq_getElem?_getD, List.getElem?_eq_getElem hm]; rfl
  · rw [List.getElem?_eq_none (by rw [mirr_len]; omega), List.getElem?_eq_none (by simp; omega)]
theorem mirr_step (xs : List Bool) (i : Nat) (h : 2 * i + 1 < xs.length) : ((mirr xs i).set i (xs.getD (xs.length - 1 - i) false)).set (xs.length - 1 - i) (xs.getD i false) = mirr xs (i + 1) := by
  apply List.ext_getElem?
  intro m
  by_cases hm : m < xs.length
  · rw [mirr_at xs (i + 1) m hm]
    by_cases h1 : m = xs.length - 1 - i
    · subst h1
      rw [List.getElem?_set_self (by simp [mirr_len]; omega), if_pos (by omega), show xs.length - 1 - (xs.length - 1 - i) = i by omega]
    · rw [List.getElem?_set_ne (fun e => h1 e.symm)]
      by_cases h2 : m = i
      · subst h2
        rw [List.getElem?_set_self (by rw [mirr_len]; omega), if_pos (by omega)]
      · rw [List.getElem?_set_ne (fun e => h2 e.symm), mirr_at xs i m hm]
        by_cases hc : m < i ∨ xs.length - 1 - i < m
        · rw [if_pos hc, if_pos (by omega)]
        · rw [if_neg hc, if_neg (by omega)]
  · rw [List.getElem?_eq_none (by simp [mirr_len]; omega), List.getElem?_eq_none (by rw [mirr_len]; omega)]
set_option maxRecDepth 100000 in
set_option maxHeartbeats 4000000 in
theorem reverse_c (xs : List Bool) (hc : xs.length ≤ 1000000) : CallOk Try.prog 71 [.c (.sl 0 0 xs.length 1)] [some (.ty .bo xs)] (.tup []) [some (.ty .bo xs.reverse)] := by
  refine callOk' Try.func71 28 [] _ rfl rfl rfl (by kernel_rfl) (by simp) [0] rfl rfl (by simp) ?_
  simp only [params]
  refine AWP.sR (Gam.nil_ok _) [0, 2, 3] (by apply aops_mv (t := 0) (d := 4) (ag_n rfl) rfl rfl (by first | (simp only [look_lay, look, seval] <;> rfl) | fail) rfl; apply aops_x (d := 5) (ag_n rfl) rfl (by first | (simp (disch := decide) only [go_sem, seval] <;> rfl) | (simp (disch := first | decide | omega) only [if_pos, nws, go_sem, seval] <;> rfl)) rfl; apply aops_x (d := 6) (ag_n rfl) rfl (by first | (simp (disch := decide) only [go_sem, seval] <;> rfl) | (simp (disch := first | decide | omega) only [if_pos, nws, go_sem, seval] <;> rfl)) rfl; apply aops_x (d := 2) (ag_n rfl) rfl (by first | (simp (disch := decide) only [go_sem, seval] <;> rfl) | (simp (disch := first | decide | omega) only [if_pos, nws, go_sem, seval] <;> rfl)) rfl; apply aops_as (t := 6) (d := 3) (ag_n rfl) rfl rfl (by first | (simp only [look_lay, look, seval] <;> rfl) | fail) rfl; apply aops_end; rfl) (by (simp (disch := omega) only [go_sem, seval, lay, nws]); rfl) ?_
  refine AWP.block ?_
  refine AWP.loopP (fun (p : Nat × List Bool) => ⟨28, [(0, .c (.sl 0 0 xs.length 1)), (2, .c (ci .i64 (p.1 : Int))), (3, .c (ci .i64 ((xs.length : Int) - 1 - (p.1 : Int))))], [some (.ty .bo p.2)]⟩) (fun p => p.1 ≤ xs.length ∧ p.2 = mirr xs p.1) (fun p => xs.length - p.1) ⟨0, xs⟩ (Ghost.of_eq (by simp)) ⟨by simp, by simp [mirr_0]⟩ ?_
  rintro ⟨i, ys⟩ ⟨hi, hy⟩
  simp only at hi hy ⊢
  refine AWP.seq ?_
  refine AWP.sR (Gam.nil_ok _) [0, 2, 3, 9] (by apply aops_mv (t := 2) (d := 7) (ag_n rfl) rfl rfl (by first | (simp only [look_lay, look, seval] <;> rfl) | fail) rfl; apply aops_mv (t := 3) (d := 8) (ag_n rfl) rfl rfl (by first | (simp only [look_lay, look, seval] <;> rfl) | fail) rfl; apply aops_x (d := 9) (ag_n rfl) rfl (by first | (simp (disch := decide) only [go_sem, seval] <;> rfl) | (simp (disch := first | decide | omega) only [if_pos, nws, go_sem, seval] <;> rfl)) rfl; apply aops_end; rfl) (by (simp (disch := omega) only [go_sem, seval, lay, nws]); rfl) ?_
  refine AWP.cond (b := _) rfl (fun h => ?_) (fun h => ?_) <;> (try simp only [decide_eq_true_eq, decide_eq_false_iff_not] at h)
  · skip
    refine AWP.skip ?_
    change AWP _ _ _ _ _
    refine AWP.seqBlock ?_
    have h2 : 2 * i + 1 < xs.length := by omega
    have e : ((xs.length : Int) - 1 - (i : Int)) = ((xs.length - 1 - i : Nat) : Int) := by omega
    have yl : ys.length = xs.length := by rw [hy, mirr_len]
    have y1 : ys[i]? = some (xs.getD i false) := by rw [hy, mirr_at xs i i (by omega), if_neg (by omega)]
    have y2 : ys[xs.length - 1 - i]? = some (xs.getD (xs.length - 1 - i) false) := by rw [hy, mirr_at xs i _ (by omega), if_neg (by omega)]
    have y3 : (ys.set i (xs.getD (xs.length - 1 - i) false))[xs.length - 1 - i]? = some (xs.getD (xs.length - 1 - i) false) := by rw [List.getElem?_set_ne (by omega)]; exact y2
    rw [e]
    refine AWP.dT (Gam.nil_ok _) (by kernel_rfl) [0, 2, 3] [⟨[], true, 0⟩, ⟨[], true, 0⟩, ⟨[], true, 0⟩, ⟨[], true, 0⟩, ⟨[], true, 0⟩, ⟨[], true, 0⟩, ⟨[], true, 0⟩, ⟨[0], true, 0⟩, ⟨[], true, 0⟩, ⟨[], true, 0⟩, ⟨[], true, 0⟩, ⟨[0], true, 0⟩, ⟨[], true, 0⟩, ⟨[0], false, 0⟩, ⟨[], true, 0⟩, ⟨[0], false, 0⟩] (by kernel_rfl) (by first | rfl | simp only [go_sem, ↓reduceIte, Nat.reduceLT, Nat.reduceAdd]) (by first | rfl | simp only [go_sem, ↓reduceIte, Nat.reduceLT, Nat.reduceAdd]) (by (repeat (first | apply arun_step (by first | exact ag_n rfl | exact ag_b rfl rfl rfl (by first | (simp only [look_lay, look, seval] <;> rfl) | fail) (by first | rfl | (simp only [y1, y2, y3, decide_true, decide_false] <;> rfl) | fail) | fail) (by first | (simp (disch := decide) only [y1, y2, y3, go_sem, seval]; rfl) | (simp (disch := first | decide | omega) only [if_pos, nws, y1, y2, y3, go_sem, seval]; rfl)) (by first | (intro h; cases h; done) | (intro _; rfl) | (intro _; simp only [go_sem, seval, lay])) (by first | rfl | simp only [go_sem, seval, lay]) (by first | rfl | simp only [go_sem, seval, lay]) (by first | rfl | simp only [go_sem, seval, lay]) (by simp only [go_sem, seval, lay]; rfl) | apply arun_pass (by first | exact ag_f rfl rfl rfl (by first | (simp only [look_lay, look, seval] <;> rfl) | fail) (by first | rfl | (simp only [y1, y2, y3, decide_true, decide_false] <;> rfl) | fail) | exact ag_u rfl rfl rfl (by first | (simp only [look_lay, look, seval] <;> rfl) | fail) | fail) rfl (by simp only [go_sem, seval, lay]; rfl))); exact rfl) (by (simp (disch := omega) only [go_sem, seval, lay, nws]); rfl) ?_
    change AWP _ _ _ _ _
    refine AWP.rT (Gam.nil_ok _) [0, 2, 3] (by apply aops_mv (t := 2) (d := 10) (ag_n rfl) rfl rfl (by first | (simp only [look_lay, look, seval] <;> rfl) | fail) rfl; apply aops_x (d := 11) (ag_n rfl) rfl (by first | (simp (disch := decide) only [go_sem, seval] <;> rfl) | (simp (disch := first | decide | omega) only [if_pos, nws, go_sem, seval] <;> rfl)) rfl; apply aops_mv (t := 3) (d := 12) (ag_n rfl) rfl rfl (by first | (simp only [look_lay, look, seval] <;> rfl) | fail) rfl; apply aops_x (d := 13) (ag_n rfl) rfl (by first | (simp (disch := decide) only [go_sem, seval] <;> rfl) | (simp (disch := first | decide | omega) only [if_pos, nws, go_sem, seval] <;> rfl)) rfl; apply aops_as (t := 11) (d := 2) (ag_n rfl) rfl rfl (by first | (simp only [look_lay, look, seval] <;> rfl) | fail) rfl; apply aops_as (t := 13) (d := 3) (ag_n rfl) rfl rfl (by first | (simp only [look_lay, look, seval] <;> rfl) | fail) rfl; apply aops_end; rfl) (by (simp (disch := omega) only [go_sem, seval, lay, nws]); rfl) ?_
    refine ⟨(i + 1, mirr xs (i + 1)), Ghost.of_eq ?_, ⟨by simp only; omega, rfl⟩, by simp only; omega⟩
    simp only
    rw [hy, mirr_step xs i h2, show (((xs.length - 1 - i : Nat) : Int) - 1) = (xs.length : Int) - 1 - ((i + 1 : Nat) : Int) by omega]
    rfl
  · skip
    refine AWP.exit ?_
    refine ⟨.inl rfl, _, (by simp only [go_sem, seval] <;> rfl), ?_⟩
    simp only [go_sem, seval, Option.some.injEq, AV.c.injEq, AV.agg.injEq, CV.v.injEq, Value.int.injEq, Value.bool.injEq, Row.raw.injEq, List.cons.injEq, CV.sl.injEq, and_true, true_and, and_self]
    rw [hy, mirr_end xs i (by omega)]
def E71 : Entry := rowE .bo (fun xs => xs.length ≤ 1000000) List.reverse
theorem E71_ok : EntryOk Try.prog 71 E71 := rowE_ok (fun xs hc => reverse_c xs hc)
attribute [go_sem] E71
end Go.Proofs.Ytbdnhoddkdiogaa
end
section
set_option linter.unusedSimpArgs false
set_option linter.unusedVariables false
namespace Go.Proofs.Ytbdnhoddkdiogaa
open Go.RowKit
theorem dirsF_log (m : Nat) (h : m ≤ 1048576) : ∀ a, a < m → (dirsF a m).length ≤ 20 := fun a ha => by
  have key : ∀ (j m a : Nat), m ≤ 2 ^ j → (dirsF a m).length ≤ j := fun j => by
    induction j with
    | zero => intro m a h; rw [dirsF_1 a m (by simpa using h)]; simp
    | succ j ih =>
      intro m a h
      by_cases h1 : m ≤ 1
      · rw [dirsF_1 a m h1]; simp
      · have sp := splitN_spec m (by omega)
        have hk : splitN m ≤ 2 ^ j := by
          unfold splitN
          refine Nat.pow_le_pow_right (by omega) ?_
          unfold lenN
          rw [if_neg (by omega), Nat.add_sub_cancel]
          have : Nat.log2 (m - 1) < j + 1 := (Nat.log2_lt (by omega)).2 (by omega)
          omega
        rw [Nat.pow_succ] at h
        rw [dirsF_2 a m (by omega)]
        split
        · have := ih (m - splitN m) (a - splitN m) (by omega); simp only [List.length_cons]; omega
        · have := ih (splitN m) a hk; simp only [List.length_cons]; omega
  exact key 20 m a h
abbrev c57 (a : Int) (m : Int) : Prop := 0 ≤ a ∧ a < m ∧ m ≤ 1048576
abbrev r57 (a : Int) (m : Int) : AV := .c (.sl 0 0 (dirsF a.toNat m.toNat).reverse.length 1)
abbrev L57 (a : Int) (m : Int) : Hp := [some (.ty .bo (dirsF a.toNat m.toNat).reverse)]
def E57 : Entry := pureN [(.i .i64), (.i .i64)] (fun d => c57 d.1 d.2.1) (fun d => r57 d.1 d.2.1) (fun d => L57 d.1 d.2.1)
set_option maxRecDepth 100000 in
set_option maxHeartbeats 4000000 in
theorem K57 (a : Int) (m : Int) (hc : c57 a m) : CallOk Try.prog 57 [.c (ci .i64 a), .c (ci .i64 m)] [] (r57 a m) (L57 a m) := by
  have hc : 0 ≤ a ∧ a < m ∧ m ≤ 1048576 := hc
  obtain ⟨a0, rfl⟩ := Int.eq_ofNat_of_zero_le hc.1
  obtain ⟨m0, rfl⟩ := Int.eq_ofNat_of_zero_le (show 0 ≤ m by omega)
  have dl := dirsF_log m0 (by omega) a0 (by omega)
  have gok := (Gam.cons_ok E52_ok (Gam.cons_ok E71_ok (Gam.nil_ok _)))
  refine callOk' Try.func57 30 [.tmp 4] _ rfl rfl rfl (by kernel_rfl) (by simp) [0] rfl rfl (by simp) ?_
  simp only [params]
  refine AWP.sR gok [0, 1] (by apply aops_x (d := 4) (ag_n rfl) rfl (by first | (simp (disch := decide) only [go_sem, seval] <;> rfl) | (simp (disch := first | decide | omega) only [if_pos, nws, go_sem, seval] <;> rfl)) rfl; apply aops_end; rfl) (by (simp (disch := omega) only [go_sem, seval, lay, nws]); rfl) ?_
  refine AWP.sR gok [0, 1, 5] (by apply aops_x (d := 5) (ag_n rfl) rfl (by first | (simp (disch := decide) only [go_sem, seval] <;> rfl) | (simp (disch := first | decide | omega) only [if_pos, nws, go_sem, seval] <;> rfl)) rfl; apply aops_end; rfl) (by (simp (disch := omega) only [go_sem, seval, lay, nws]); rfl) ?_
  refine AWP.seqBlock ?_
  refine AWP.loopP (fun (p : Nat × Nat × List Bool) => ⟨30, [(0, .c (ci .i64 (p.1 : Int))), (1, .c (ci .i64 (p.2.1 : Int))), (5, .c (.sl 0 0 p.2.2.length 1))], [some (.ty .bo p.2.2)]⟩) (fun p => p.1 < p.2.1 ∧ p.2.1 ≤ 1048576 ∧ p.2.2 ++ dirsF p.1 p.2.1 = dirsF a0 m0) (fun p => p.2.1) ⟨a0, m0, []⟩ (Ghost.nil 5 1 .bo rfl (by simp)) ⟨by simp only; omega, by simp only; omega, by simp⟩ ?_
  rintro ⟨a, m, out⟩ ⟨h1, h2, h3⟩
  simp only at h1 h2 h3 ⊢
  refine AWP.seq ?_
  refine AWP.sR gok [0, 1, 5, 9] (by apply aops_mv (t := 1) (d := 8) (ag_n rfl) rfl rfl (by first | (simp only [look_lay, look, seval] <;> rfl) | fail) rfl; apply aops_x (d := 9) (ag_n rfl) rfl (by first | (simp (disch := decide) only [go_sem, seval] <;> rfl) | (simp (disch := first | decide | omega) only [if_pos, nws, go_sem, seval] <;> rfl)) rfl; apply aops_end; rfl) (by (simp (disch := omega) only [go_sem, seval, lay, nws]); rfl) ?_
  refine AWP.cond (b := _) rfl (fun h => ?_) (fun h => ?_) <;> (try simp only [decide_eq_true_eq, decide_eq_false_iff_not] at h)
  · skip
    refine AWP.skip ?_
    change AWP _ _ _ _ _
    refine AWP.block ?_
    have hm : 2 ≤ m := by omega
    have sp := splitN_spec m hm
    have d2 := dirsF_2 a m hm
    have ol : out.length ≤ 20 := by
      have := congrArg List.length h3
      simp only [List.length_append] at this
      omega
    refine AWP.sR gok [0, 1, 5, 6] (by apply aops_mv (t := 1) (d := 10) (ag_n rfl) rfl rfl (by first | (simp only [look_lay, look, seval] <;> rfl) | fail) rfl; apply aops_x (d := 11) (ag_n rfl) rfl (by (simp (disch := first | decide | omega) only [if_pos, nws, Int.toNat_natCast, go_sem, seval] <;> rfl)) rfl; apply aops_as (t := 11) (d := 6) (ag_n rfl) rfl rfl (by first | (simp only [look_lay, look, seval] <;> rfl) | fail) rfl; apply aops_end; rfl) (by (simp (disch := omega) only [go_sem, seval, lay, nws]); rfl) ?_
    refine AWP.sR gok [0, 1, 5, 6, 7] (by apply aops_mv (t := 0) (d := 12) (ag_n rfl) rfl rfl (by first | (simp only [look_lay, look, seval] <;> rfl) | fail) rfl; apply aops_mv (t := 6) (d := 13) (ag_n rfl) rfl rfl (by first | (simp only [look_lay, look, seval] <;> rfl) | fail) rfl; apply aops_x (d := 14) (ag_n rfl) rfl (by first | (simp (disch := decide) only [ge_iff_le, go_sem, seval] <;> rfl) | (simp (disch := first | decide | omega) only [if_pos, nws, ge_iff_le, go_sem, seval] <;> rfl)) rfl; apply aops_as (t := 14) (d := 7) (ag_n rfl) rfl rfl (by first | (simp only [look_lay, look, seval] <;> rfl) | fail) rfl; apply aops_end; rfl) (by (simp (disch := omega) only [go_sem, seval, lay, nws]); rfl) ?_
    refine AWP.sR gok [0, 1, 5, 6, 7] (by apply aops_mv (t := 5) (d := 15) (ag_n rfl) rfl rfl (by first | (simp only [look_lay, look, seval] <;> rfl) | fail) rfl; apply aops_mv (t := 7) (d := 16) (ag_n rfl) rfl rfl (by first | (simp only [look_lay, look, seval] <;> rfl) | fail) rfl; apply aops_x (d := 17) (ag_n rfl) rfl (by (simp (disch := first | decide | omega) only [if_pos, nws, go_sem, seval] <;> rfl)) rfl; apply aops_x (d := 18) (ag_n rfl) rfl (by (simp (disch := first | decide | omega) only [if_pos, nws, go_sem, seval] <;> rfl)) rfl; apply aops_as (t := 18) (d := 5) (ag_n rfl) rfl rfl (by first | (simp only [look_lay, look, seval] <;> rfl) | fail) rfl; apply aops_end; rfl) (by (simp (disch := omega) only [go_sem, seval, lay, nws]); rfl) ?_
    refine AWP.sR gok [0, 1, 5, 6, 19] (by apply aops_mv (t := 7) (d := 19) (ag_n rfl) rfl rfl (by first | (simp only [look_lay, look, seval] <;> rfl) | fail) rfl; apply aops_end; rfl) (by (simp (disch := omega) only [go_sem, seval, lay, nws]); rfl) ?_
    refine AWP.cond (b := _) rfl (fun h => ?_) (fun h => ?_) <;> (try simp only [decide_eq_true_eq, decide_eq_false_iff_not] at h)
    · skip
      refine AWP.rT gok [0, 1, 5] (by apply aops_mv (t := 0) (d := 20) (ag_n rfl) rfl rfl (by first | (simp only [look_lay, look, seval] <;> rfl) | fail) rfl; apply aops_mv (t := 6) (d := 21) (ag_n rfl) rfl rfl (by first | (simp only [look_lay, look, seval] <;> rfl) | fail) rfl; apply aops_x (d := 22) (ag_n rfl) rfl (by first | (simp (disch := decide) only [go_sem, seval] <;> rfl) | (simp (disch := first | decide | omega) only [if_pos, nws, go_sem, seval] <;> rfl)) rfl; apply aops_mv (t := 1) (d := 23) (ag_n rfl) rfl rfl (by first | (simp only [look_lay, look, seval] <;> rfl) | fail) rfl; apply aops_mv (t := 6) (d := 24) (ag_n rfl) rfl rfl (by first | (simp only [look_lay, look, seval] <;> rfl) | fail) rfl; apply aops_x (d := 25) (ag_n rfl) rfl (by first | (simp (disch := decide) only [go_sem, seval] <;> rfl) | (simp (disch := first | decide | omega) only [if_pos, nws, go_sem, seval] <;> rfl)) rfl; apply aops_as (t := 22) (d := 0) (ag_n rfl) rfl rfl (by first | (simp only [look_lay, look, seval] <;> rfl) | fail) rfl; apply aops_as (t := 25) (d := 1) (ag_n rfl) rfl rfl (by first | (simp only [look_lay, look, seval] <;> rfl) | fail) rfl; apply aops_end; rfl) (by (simp (disch := omega) only [go_sem, seval, lay, nws]); rfl) ?_
      first
      | (have hk : splitN m ≤ a := by omega
         have e1 : (a : Int) - (splitN m : Int) = ((a - splitN m : Nat) : Int) := by omega
         have e2 : (m : Int) - (splitN m : Int) = ((m - splitN m : Nat) : Int) := by omega
         refine ⟨(a - splitN m, m - splitN m, out ++ [true]), Ghost.trans (Ghost.gc (ρ := [2]) (by simp only [go_sem, seval] <;> rfl) rfl rfl rfl) (Ghost.of_eq (by simp only [e1, e2, decide_eq_true h, List.length_append, List.length_cons, List.length_nil])), ⟨by simp only; omega, by simp only; omega, ?_⟩, by simp only; omega⟩
         simp only
         rw [← h3, d2, if_pos hk, List.append_assoc]; rfl)
      | (have hk : ¬ splitN m ≤ a := by omega
         refine ⟨(a, splitN m, out ++ [false]), Ghost.trans (Ghost.gc (ρ := [2]) (by simp only [go_sem, seval] <;> rfl) rfl rfl rfl) (Ghost.of_eq (by simp only [decide_eq_false h, List.length_append, List.length_cons, List.length_nil])), ⟨by simp only; omega, by simp only; omega, ?_⟩, by simp only; omega⟩
         simp only
         rw [← h3, d2, if_neg hk, List.append_assoc]; rfl)
    · skip
      refine AWP.rT gok [0, 1, 5] (by apply aops_mv (t := 6) (d := 26) (ag_n rfl) rfl rfl (by first | (simp only [look_lay, look, seval] <;> rfl) | fail) rfl; apply aops_as (t := 26) (d := 1) (ag_n rfl) rfl rfl (by first | (simp only [look_lay, look, seval] <;> rfl) | fail) rfl; apply aops_end; rfl) (by (simp (disch := omega) only [go_sem, seval, lay, nws]); rfl) ?_
      first
      | (have hk : splitN m ≤ a := by omega
         have e1 : (a : Int) - (splitN m : Int) = ((a - splitN m : Nat) : Int) := by omega
         have e2 : (m : Int) - (splitN m : Int) = ((m - splitN m : Nat) : Int) := by omega
         refine ⟨(a - splitN m, m - splitN m, out ++ [true]), Ghost.trans (Ghost.gc (ρ := [2]) (by simp only [go_sem, seval] <;> rfl) rfl rfl rfl) (Ghost.of_eq (by simp only [e1, e2, decide_eq_true h, List.length_append, List.length_cons, List.length_nil])), ⟨by simp only; omega, by simp only; omega, ?_⟩, by simp only; omega⟩
         simp only
         rw [← h3, d2, if_pos hk, List.append_assoc]; rfl)
      | (have hk : ¬ splitN m ≤ a := by omega
         refine ⟨(a, splitN m, out ++ [false]), Ghost.trans (Ghost.gc (ρ := [2]) (by simp only [go_sem, seval] <;> rfl) rfl rfl rfl) (Ghost.of_eq (by simp only [decide_eq_false h, List.length_append, List.length_cons, List.length_nil])), ⟨by simp only; omega, by simp only; omega, ?_⟩, by simp only; omega⟩
         simp only
         rw [← h3, d2, if_neg hk, List.append_assoc]; rfl)
  · skip
    refine AWP.exit ?_
    change AWP _ _ _ _ _
    have d1 : dirsF a m = [] := dirsF_1 a m (by omega)
    rw [d1, List.append_nil] at h3
    have ol : out.length ≤ 20 := by rw [h3]; exact dl
    refine AWP.sR gok [5] (by apply aops_mv (t := 5) (d := 27) (ag_n rfl) rfl rfl (by first | (simp only [look_lay, look, seval] <;> rfl) | fail) rfl; apply aops_x (d := 28) (ag_n rfl) rfl (by (simp (disch := first | decide | omega) only [if_pos, nws, go_sem, seval] <;> rfl)) rfl; apply aops_end; rfl) (by (simp (disch := omega) only [go_sem, seval, lay, nws]); rfl) ?_
    refine AWP.sR gok [4] (by apply aops_mv (t := 5) (d := 29) (ag_n rfl) rfl rfl (by first | (simp only [look_lay, look, seval] <;> rfl) | fail) rfl; apply aops_as (t := 29) (d := 4) (ag_n rfl) rfl rfl (by first | (simp only [look_lay, look, seval] <;> rfl) | fail) rfl; apply aops_end; rfl) (by (simp (disch := omega) only [go_sem, seval, lay, nws]); rfl) ?_
    refine AWP.ret ?_
    refine ⟨.inr rfl, _, (by simp only [go_sem, seval] <;> rfl), ?_⟩
    simp only [go_sem, seval, Option.some.injEq, AV.c.injEq, AV.agg.injEq, CV.v.injEq, Value.int.injEq, Value.bool.injEq, Row.raw.injEq, List.cons.injEq, CV.sl.injEq, and_true, true_and, and_self]
    rw [h3, List.length_reverse]; exact ⟨rfl, rfl⟩
theorem E57_ok : EntryOk Try.prog 57 E57 := pureN_ok (fun d hc => K57 d.1 d.2.1 hc) (fun _ => rfl) (fun _ => rfl)
attribute [go_sem] E57 c57 r57 L57
end Go.Proofs.Ytbdnhoddkdiogaa
end
section
set_option linter.unusedSimpArgs false
set_option linter.unusedVariables false
namespace Go.Proofs.Ytbdnhoddkdiogaa
open Go.RowKit
def digestOk (d : List Int) : Prop := bytesOk d ∧ d.length = 32
instance (d : List Int) : Decidable (digestOk d) := inferInstanceAs (Decidable (bytesOk d ∧ d.length = 32))
def digestsOk (l : List (List Int)) : Prop := ∀ d ∈ l, digestOk d
instance (l : List (List Int)) : Decidable (digestsOk l) := inferInstanceAs (Decidable (∀ d ∈ l, digestOk d))
def upF (ds : List Bool) (p : List (List Int)) (d : List Int) : Nat → List Int
  | 0 => d
  | i + 1 => if ds.getD i false = true then bothF (p.getD i []) (upF ds p d i) else bothF (upF ds p d i) (p.getD i [])
theorem upF_len (ds : List Bool) (p : List (List Int)) (d : List Int) (h : d.length = 32) : ∀ i, (upF ds p d i).length = 32
  | 0 => h
  | i + 1 => by rw [upF]; split <;> exact dg_len _
theorem upF_ok (ds : List Bool) (p : List (List Int)) (d : List Int) (h : bytesOk d) : ∀ i, bytesOk (upF ds p d i)
  | 0 => h
  | i + 1 => by rw [upF]; split <;> exact dg_ok _
def showsF (r t : List Int) (a m : Int) (p : List (List Int)) : Bool :=
  if 0 ≤ a ∧ a < m ∧ m ≤ 1048576 then (if (dirsF a.toNat m.toNat).length = p.length then decide (upF (dirsF a.toNat m.toNat).reverse p (leafF t) p.length = r) else false) else false
abbrev c33 (r : (List Int)) (t : (List Int)) (a : Int) (m : Int) (pf : (List (List Int))) : Prop := digestOk r ∧ (bytesOk t ∧ t.length ≤ 1000000) ∧ digestsOk pf ∧ pf.length ≤ 1000000
abbrev r33 (r : (List Int)) (t : (List Int)) (a : Int) (m : Int) (pf : (List (List Int))) : AV := .c (cb (showsF r t a m pf))
abbrev L33 (r : (List Int)) (t : (List Int)) (a : Int) (m : Int) (pf : (List (List Int))) : Hp := []
def E33 : Entry := pureN [(.ar 32 (.i .u8)), (.sl (.i .u8)), (.i .i64), (.i .i64), (.sl (.ar 32 (.i .u8)))] (fun d => c33 d.1 d.2.1 d.2.2.1 d.2.2.2.1 d.2.2.2.2.1) (fun d => r33 d.1 d.2.1 d.2.2.1 d.2.2.2.1 d.2.2.2.2.1) (fun d => L33 d.1 d.2.1 d.2.2.1 d.2.2.2.1 d.2.2.2.2.1)
set_option maxRecDepth 100000 in
set_option maxHeartbeats 4000000 in
theorem K33 (r : (List Int)) (t : (List Int)) (a : Int) (m : Int) (pf : (List (List Int))) (hc : c33 r t a m pf) : CallOk Try.prog 33 [.agg (.ty (.i .u8) r), .c (.rs (.i .u8) t), .c (ci .i64 a), .c (ci .i64 m), .c (.rs (.ar 32 (.i .u8)) pf)] [] (r33 r t a m pf) (L33 r t a m pf) := by
  have hc : digestOk r ∧ (bytesOk t ∧ t.length ≤ 1000000) ∧ digestsOk pf ∧ pf.length ≤ 1000000 := hc
  obtain ⟨⟨hr1, hr2⟩, ⟨ht1, ht2⟩, hp, hpl⟩ := hc
  by_cases h1 : a < 0
  · skip
    have gok := (Gam.cons_ok E51_ok (Gam.cons_ok E53_ok (Gam.cons_ok E57_ok (Gam.nil_ok _))))
    refine callOk' Try.func33 60 [.tmp 10] _ rfl rfl rfl (by kernel_rfl) (by simp) [] rfl rfl (by simp) ?_
    simp only [params]
    refine AWP.sR gok [1, 2, 3, 4, 5] (by apply aops_x (d := 5) (ag_n rfl) rfl (by first | (simp (disch := decide) only [h1, go_sem, seval] <;> rfl) | (simp (disch := first | decide | omega) only [if_pos, nws, h1, go_sem, seval] <;> rfl)) rfl; apply aops_x (d := 10) (ag_n rfl) rfl (by first | (simp (disch := decide) only [h1, go_sem, seval] <;> rfl) | (simp (disch := first | decide | omega) only [if_pos, nws, h1, go_sem, seval] <;> rfl)) rfl; apply aops_end; rfl) (by (simp (disch := omega) only [go_sem, seval, lay, nws]); rfl) ?_
    refine AWP.seq ?_
    refine AWP.sR gok [1, 2, 3, 4, 5, 25] (by apply aops_mv (t := 2) (d := 15) (ag_n rfl) rfl rfl (by first | (simp only [look_lay, look, seval] <;> rfl) | fail) rfl; apply aops_x (d := 16) (ag_n rfl) rfl (by first | (simp (disch := decide) only [h1, go_sem, seval] <;> rfl) | (simp (disch := first | decide | omega) only [if_pos, nws, h1, go_sem, seval] <;> rfl)) rfl; apply aops_mv (t := 16) (d := 17) (ag_n rfl) rfl rfl (by first | (simp only [look_lay, look, seval] <;> rfl) | fail) rfl; (first | apply aops_mv (t := 2) (d := 18) (ag_b (j := 2) (d := 17) rfl rfl rfl (by first | (simp only [look_lay, look, seval] <;> rfl) | fail) rfl) rfl rfl (by first | (simp only [look_lay, look, seval] <;> rfl) | fail) rfl | apply aops_ps (d := 18) (by first | exact ag_f (j := 2) (d := 17) rfl rfl rfl (by first | (simp only [look_lay, look, seval] <;> rfl) | fail) rfl | exact ag_u (j := 2) (d := 17) rfl rfl rfl (by first | (simp only [look_lay, look, seval] <;> rfl) | fail) | fail) rfl rfl); (first | apply aops_mv (t := 3) (d := 19) (ag_b (j := 2) (d := 17) rfl rfl rfl (by first | (simp only [look_lay, look, seval] <;> rfl) | fail) rfl) rfl rfl (by first | (simp only [look_lay, look, seval] <;> rfl) | fail) rfl | apply aops_ps (d := 19) (by first | exact ag_f (j := 2) (d := 17) rfl rfl rfl (by first | (simp only [look_lay, look, seval] <;> rfl) | fail) rfl | exact ag_u (j := 2) (d := 17) rfl rfl rfl (by first | (simp only [look_lay, look, seval] <;> rfl) | fail) | fail) rfl rfl); (first | apply aops_x (d := 20) (ag_b (j := 2) (d := 17) rfl rfl rfl (by first | (simp only [look_lay, look, seval] <;> rfl) | fail) rfl) rfl (by first | (simp (disch := decide) only [h1, go_sem, seval] <;> rfl) | (simp (disch := first | decide | omega) only [if_pos, nws, h1, go_sem, seval] <;> rfl)) rfl | apply aops_ps (d := 20) (by first | exact ag_f (j := 2) (d := 17) rfl rfl rfl (by first | (simp only [look_lay, look, seval] <;> rfl) | fail) rfl | exact ag_u (j := 2) (d := 17) rfl rfl rfl (by first | (simp only [look_lay, look, seval] <;> rfl) | fail) | fail) rfl rfl); apply aops_x (d := 21) (ag_n rfl) rfl (by first | (simp (disch := decide) only [h1, go_sem, seval] <;> rfl) | (simp (disch := first | decide | omega) only [if_pos, nws, h1, go_sem, seval] <;> rfl)) rfl; apply aops_mv (t := 21) (d := 22) (ag_n rfl) rfl rfl (by first | (simp only [look_lay, look, seval] <;> rfl) | fail) rfl; (first | apply aops_mv (t := 3) (d := 23) (ag_b (j := 7) (d := 22) rfl rfl rfl (by first | (simp only [look_lay, look, seval] <;> rfl) | fail) rfl) rfl rfl (by first | (simp only [look_lay, look, seval] <;> rfl) | fail) rfl | apply aops_ps (d := 23) (by first | exact ag_f (j := 7) (d := 22) rfl rfl rfl (by first | (simp only [look_lay, look, seval] <;> rfl) | fail) rfl | exact ag_u (j := 7) (d := 22) rfl rfl rfl (by first | (simp only [look_lay, look, seval] <;> rfl) | fail) | fail) rfl rfl); (first | apply aops_x (d := 24) (ag_b (j := 7) (d := 22) rfl rfl rfl (by first | (simp only [look_lay, look, seval] <;> rfl) | fail) rfl) rfl (by first | (simp (disch := decide) only [h1, go_sem, seval] <;> rfl) | (simp (disch := first | decide | omega) only [if_pos, nws, h1, go_sem, seval] <;> rfl)) rfl | apply aops_ps (d := 24) (by first | exact ag_f (j := 7) (d := 22) rfl rfl rfl (by first | (simp only [look_lay, look, seval] <;> rfl) | fail) rfl | exact ag_u (j := 7) (d := 22) rfl rfl rfl (by first | (simp only [look_lay, look, seval] <;> rfl) | fail) | fail) rfl rfl); apply aops_x (d := 25) (ag_n rfl) rfl (by first | (simp (disch := decide) only [h1, go_sem, seval] <;> rfl) | (simp (disch := first | decide | omega) only [if_pos, nws, h1, go_sem, seval] <;> rfl)) rfl; apply aops_end; rfl) (by (simp (disch := omega) only [go_sem, seval, lay, nws]); rfl) ?_
    refine AWP.condT (b := _) rfl rfl ?_
    refine AWP.sR gok [10] (by apply aops_x (d := 10) (ag_n rfl) rfl (by first | (simp (disch := decide) only [h1, go_sem, seval] <;> rfl) | (simp (disch := first | decide | omega) only [if_pos, nws, h1, go_sem, seval] <;> rfl)) rfl; apply aops_end; rfl) (by (simp (disch := omega) only [go_sem, seval, lay, nws]); rfl) ?_
    refine AWP.ret ?_
    refine ⟨.inr rfl, _, (by simp only [go_sem, seval, h1] <;> rfl), ?_⟩
    simp only [go_sem, seval, h1, Option.some.injEq, AV.c.injEq, AV.agg.injEq, CV.v.injEq, Value.int.injEq, Value.bool.injEq, Row.raw.injEq, List.cons.injEq, CV.sl.injEq, and_true, true_and, and_self]
    unfold showsF; rw [if_neg (by omega)]
  · by_cases h2 : m ≤ a
    · skip
      have gok := (Gam.cons_ok E51_ok (Gam.cons_ok E53_ok (Gam.cons_ok E57_ok (Gam.nil_ok _))))
      refine callOk' Try.func33 60 [.tmp 10] _ rfl rfl rfl (by kernel_rfl) (by simp) [] rfl rfl (by simp) ?_
      simp only [params]
      refine AWP.sR gok [1, 2, 3, 4, 5] (by apply aops_x (d := 5) (ag_n rfl) rfl (by first | (simp (disch := decide) only [h1, h2, go_sem, seval] <;> rfl) | (simp (disch := first | decide | omega) only [if_pos, nws, h1, h2, go_sem, seval] <;> rfl)) rfl; apply aops_x (d := 10) (ag_n rfl) rfl (by first | (simp (disch := decide) only [h1, h2, go_sem, seval] <;> rfl) | (simp (disch := first | decide | omega) only [if_pos, nws, h1, h2, go_sem, seval] <;> rfl)) rfl; apply aops_end; rfl) (by (simp (disch := omega) only [go_sem, seval, lay, nws]); rfl) ?_
      refine AWP.seq ?_
      refine AWP.sR gok [1, 2, 3, 4, 5, 25] (by apply aops_mv (t := 2) (d := 15) (ag_n rfl) rfl rfl (by first | (simp only [look_lay, look, seval] <;> rfl) | fail) rfl; apply aops_x (d := 16) (ag_n rfl) rfl (by first | (simp (disch := decide) only [h1, h2, go_sem, seval] <;> rfl) | (simp (disch := first | decide | omega) only [if_pos, nws, h1, h2, go_sem, seval] <;> rfl)) rfl; apply aops_mv (t := 16) (d := 17) (ag_n rfl) rfl rfl (by first | (simp only [look_lay, look, seval] <;> rfl) | fail) rfl; (first | apply aops_mv (t := 2) (d := 18) (ag_b (j := 2) (d := 17) rfl rfl rfl (by first | (simp only [look_lay, look, seval] <;> rfl) | fail) rfl) rfl rfl (by first | (simp only [look_lay, look, seval] <;> rfl) | fail) rfl | apply aops_ps (d := 18) (by first | exact ag_f (j := 2) (d := 17) rfl rfl rfl (by first | (simp only [look_lay, look, seval] <;> rfl) | fail) rfl | exact ag_u (j := 2) (d := 17) rfl rfl rfl (by first | (simp only [look_lay, look, seval] <;> rfl) | fail) | fail) rfl rfl); (first | apply aops_mv (t := 3) (d := 19) (ag_b (j := 2) (d := 17) rfl rfl rfl (by first | (simp only [look_lay, look, seval] <;> rfl) | fail) rfl) rfl rfl (by first | (simp only [look_lay, look, seval] <;> rfl) | fail) rfl | apply aops_ps (d := 19) (by first | exact ag_f (j := 2) (d := 17) rfl rfl rfl (by first | (simp only [look_lay, look, seval] <;> rfl) | fail) rfl | exact ag_u (j := 2) (d := 17) rfl rfl rfl (by first | (simp only [look_lay, look, seval] <;> rfl) | fail) | fail) rfl rfl); (first | apply aops_x (d := 20) (ag_b (j := 2) (d := 17) rfl rfl rfl (by first | (simp only [look_lay, look, seval] <;> rfl) | fail) rfl) rfl (by first | (simp (disch := decide) only [h1, h2, go_sem, seval] <;> rfl) | (simp (disch := first | decide | omega) only [if_pos, nws, h1, h2, go_sem, seval] <;> rfl)) rfl | apply aops_ps (d := 20) (by first | exact ag_f (j := 2) (d := 17) rfl rfl rfl (by first | (simp only [look_lay, look, seval] <;> rfl) | fail) rfl | exact ag_u (j := 2) (d := 17) rfl rfl rfl (by first | (simp only [look_lay, look, seval] <;> rfl) | fail) | fail) rfl rfl); apply aops_x (d := 21) (ag_n rfl) rfl (by first | (simp (disch := decide) only [h1, h2, go_sem, seval] <;> rfl) | (simp (disch := first | decide | omega) only [if_pos, nws, h1, h2, go_sem, seval] <;> rfl)) rfl; apply aops_mv (t := 21) (d := 22) (ag_n rfl) rfl rfl (by first | (simp only [look_lay, look, seval] <;> rfl) | fail) rfl; (first | apply aops_mv (t := 3) (d := 23) (ag_b (j := 7) (d := 22) rfl rfl rfl (by first | (simp only [look_lay, look, seval] <;> rfl) | fail) rfl) rfl rfl (by first | (simp only [look_lay, look, seval] <;> rfl) | fail) rfl | apply aops_ps (d := 23) (by first | exact ag_f (j := 7) (d := 22) rfl rfl rfl (by first | (simp only [look_lay, look, seval] <;> rfl) | fail) rfl | exact ag_u (j := 7) (d := 22) rfl rfl rfl (by first | (simp only [look_lay, look, seval] <;> rfl) | fail) | fail) rfl rfl); (first | apply aops_x (d := 24) (ag_b (j := 7) (d := 22) rfl rfl rfl (by first | (simp only [look_lay, look, seval] <;> rfl) | fail) rfl) rfl (by first | (simp (disch := decide) only [h1, h2, go_sem, seval] <;> rfl) | (simp (disch := first | decide | omega) only [if_pos, nws, h1, h2, go_sem, seval] <;> rfl)) rfl | apply aops_ps (d := 24) (by first | exact ag_f (j := 7) (d := 22) rfl rfl rfl (by first | (simp only [look_lay, look, seval] <;> rfl) | fail) rfl | exact ag_u (j := 7) (d := 22) rfl rfl rfl (by first | (simp only [look_lay, look, seval] <;> rfl) | fail) | fail) rfl rfl); apply aops_x (d := 25) (ag_n rfl) rfl (by first | (simp (disch := decide) only [h1, h2, go_sem, seval] <;> rfl) | (simp (disch := first | decide | omega) only [if_pos, nws, h1, h2, go_sem, seval] <;> rfl)) rfl; apply aops_end; rfl) (by (simp (disch := omega) only [go_sem, seval, lay, nws]); rfl) ?_
      refine AWP.condT (b := _) rfl rfl ?_
      refine AWP.sR gok [10] (by apply aops_x (d := 10) (ag_n rfl) rfl (by first | (simp (disch := decide) only [h1, h2, go_sem, seval] <;> rfl) | (simp (disch := first | decide | omega) only [if_pos, nws, h1, h2, go_sem, seval] <;> rfl)) rfl; apply aops_end; rfl) (by (simp (disch := omega) only [go_sem, seval, lay, nws]); rfl) ?_
      refine AWP.ret ?_
      refine ⟨.inr rfl, _, (by simp only [go_sem, seval, h1, h2] <;> rfl), ?_⟩
      simp only [go_sem, seval, h1, h2, Option.some.injEq, AV.c.injEq, AV.agg.injEq, CV.v.injEq, Value.int.injEq, Value.bool.injEq, Row.raw.injEq, List.cons.injEq, CV.sl.injEq, and_true, true_and, and_self]
      unfold showsF; rw [if_neg (by omega)]
    · by_cases h3 : 1048576 < m
      · skip
        have gok := (Gam.cons_ok E51_ok (Gam.cons_ok E53_ok (Gam.cons_ok E57_ok (Gam.nil_ok _))))
        refine callOk' Try.func33 60 [.tmp 10] _ rfl rfl rfl (by kernel_rfl) (by simp) [] rfl rfl (by simp) ?_
        simp only [params]
        refine AWP.sR gok [1, 2, 3, 4, 5] (by apply aops_x (d := 5) (ag_n rfl) rfl (by first | (simp (disch := decide) only [h1, h2, h3, go_sem, seval] <;> rfl) | (simp (disch := first | decide | omega) only [if_pos, nws, h1, h2, h3, go_sem, seval] <;> rfl)) rfl; apply aops_x (d := 10) (ag_n rfl) rfl (by first | (simp (disch := decide) only [h1, h2, h3, go_sem, seval] <;> rfl) | (simp (disch := first | decide | omega) only [if_pos, nws, h1, h2, h3, go_sem, seval] <;> rfl)) rfl; apply aops_end; rfl) (by (simp (disch := omega) only [go_sem, seval, lay, nws]); rfl) ?_
        refine AWP.seq ?_
        refine AWP.sR gok [1, 2, 3, 4, 5, 25] (by apply aops_mv (t := 2) (d := 15) (ag_n rfl) rfl rfl (by first | (simp only [look_lay, look, seval] <;> rfl) | fail) rfl; apply aops_x (d := 16) (ag_n rfl) rfl (by first | (simp (disch := decide) only [h1, h2, h3, go_sem, seval] <;> rfl) | (simp (disch := first | decide | omega) only [if_pos, nws, h1, h2, h3, go_sem, seval] <;> rfl)) rfl; apply aops_mv (t := 16) (d := 17) (ag_n rfl) rfl rfl (by first | (simp only [look_lay, look, seval] <;> rfl) | fail) rfl; (first | apply aops_mv (t := 2) (d := 18) (ag_b (j := 2) (d := 17) rfl rfl rfl (by first | (simp only [look_lay, look, seval] <;> rfl) | fail) rfl) rfl rfl (by first | (simp only [look_lay, look, seval] <;> rfl) | fail) rfl | apply aops_ps (d := 18) (by first | exact ag_f (j := 2) (d := 17) rfl rfl rfl (by first | (simp only [look_lay, look, seval] <;> rfl) | fail) rfl | exact ag_u (j := 2) (d := 17) rfl rfl rfl (by first | (simp only [look_lay, look, seval] <;> rfl) | fail) | fail) rfl rfl); (first | apply aops_mv (t := 3) (d := 19) (ag_b (j := 2) (d := 17) rfl rfl rfl (by first | (simp only [look_lay, look, seval] <;> rfl) | fail) rfl) rfl rfl (by first | (simp only [look_lay, look, seval] <;> rfl) | fail) rfl | apply aops_ps (d := 19) (by first | exact ag_f (j := 2) (d := 17) rfl rfl rfl (by first | (simp only [look_lay, look, seval] <;> rfl) | fail) rfl | exact ag_u (j := 2) (d := 17) rfl rfl rfl (by first | (simp only [look_lay, look, seval] <;> rfl) | fail) | fail) rfl rfl); (first | apply aops_x (d := 20) (ag_b (j := 2) (d := 17) rfl rfl rfl (by first | (simp only [look_lay, look, seval] <;> rfl) | fail) rfl) rfl (by first | (simp (disch := decide) only [h1, h2, h3, go_sem, seval] <;> rfl) | (simp (disch := first | decide | omega) only [if_pos, nws, h1, h2, h3, go_sem, seval] <;> rfl)) rfl | apply aops_ps (d := 20) (by first | exact ag_f (j := 2) (d := 17) rfl rfl rfl (by first | (simp only [look_lay, look, seval] <;> rfl) | fail) rfl | exact ag_u (j := 2) (d := 17) rfl rfl rfl (by first | (simp only [look_lay, look, seval] <;> rfl) | fail) | fail) rfl rfl); apply aops_x (d := 21) (ag_n rfl) rfl (by first | (simp (disch := decide) only [h1, h2, h3, go_sem, seval] <;> rfl) | (simp (disch := first | decide | omega) only [if_pos, nws, h1, h2, h3, go_sem, seval] <;> rfl)) rfl; apply aops_mv (t := 21) (d := 22) (ag_n rfl) rfl rfl (by first | (simp only [look_lay, look, seval] <;> rfl) | fail) rfl; (first | apply aops_mv (t := 3) (d := 23) (ag_b (j := 7) (d := 22) rfl rfl rfl (by first | (simp only [look_lay, look, seval] <;> rfl) | fail) rfl) rfl rfl (by first | (simp only [look_lay, look, seval] <;> rfl) | fail) rfl | apply aops_ps (d := 23) (by first | exact ag_f (j := 7) (d := 22) rfl rfl rfl (by first | (simp only [look_lay, look, seval] <;> rfl) | fail) rfl | exact ag_u (j := 7) (d := 22) rfl rfl rfl (by first | (simp only [look_lay, look, seval] <;> rfl) | fail) | fail) rfl rfl); (first | apply aops_x (d := 24) (ag_b (j := 7) (d := 22) rfl rfl rfl (by first | (simp only [look_lay, look, seval] <;> rfl) | fail) rfl) rfl (by first | (simp (disch := decide) only [h1, h2, h3, go_sem, seval] <;> rfl) | (simp (disch := first | decide | omega) only [if_pos, nws, h1, h2, h3, go_sem, seval] <;> rfl)) rfl | apply aops_ps (d := 24) (by first | exact ag_f (j := 7) (d := 22) rfl rfl rfl (by first | (simp only [look_lay, look, seval] <;> rfl) | fail) rfl | exact ag_u (j := 7) (d := 22) rfl rfl rfl (by first | (simp only [look_lay, look, seval] <;> rfl) | fail) | fail) rfl rfl); apply aops_x (d := 25) (ag_n rfl) rfl (by first | (simp (disch := decide) only [h1, h2, h3, go_sem, seval] <;> rfl) | (simp (disch := first | decide | omega) only [if_pos, nws, h1, h2, h3, go_sem, seval] <;> rfl)) rfl; apply aops_end; rfl) (by (simp (disch := omega) only [go_sem, seval, lay, nws]); rfl) ?_
        refine AWP.condT (b := _) rfl rfl ?_
        refine AWP.sR gok [10] (by apply aops_x (d := 10) (ag_n rfl) rfl (by first | (simp (disch := decide) only [h1, h2, h3, go_sem, seval] <;> rfl) | (simp (disch := first | decide | omega) only [if_pos, nws, h1, h2, h3, go_sem, seval] <;> rfl)) rfl; apply aops_end; rfl) (by (simp (disch := omega) only [go_sem, seval, lay, nws]); rfl) ?_
        refine AWP.ret ?_
        refine ⟨.inr rfl, _, (by simp only [go_sem, seval, h1, h2, h3] <;> rfl), ?_⟩
        simp only [go_sem, seval, h1, h2, h3, Option.some.injEq, AV.c.injEq, AV.agg.injEq, CV.v.injEq, Value.int.injEq, Value.bool.injEq, Row.raw.injEq, List.cons.injEq, CV.sl.injEq, and_true, true_and, and_self]
        unfold showsF; rw [if_neg (by omega)]
      · skip
        have hs : showsF r t a m pf = if (dirsF a.toNat m.toNat).length = pf.length then decide (upF (dirsF a.toNat m.toNat).reverse pf (leafF t) pf.length = r) else false := by unfold showsF; rw [if_pos (by omega)]
        have dl := dirsF_log m.toNat (by omega) a.toNat (by omega)
        obtain ⟨ds, hds⟩ : ∃ ds, ds = (dirsF a.toNat m.toNat).reverse := ⟨_, rfl⟩
        have dl2 : ds.length = (dirsF a.toNat m.toNat).length := by rw [hds, List.length_reverse]
        rw [← hds, ← dl2] at hs
        have gok := (Gam.cons_ok E51_ok (Gam.cons_ok E53_ok (Gam.cons_ok E57_ok (Gam.nil_ok _))))
        refine callOk' Try.func33 60 [.tmp 10] _ rfl rfl rfl (by kernel_rfl) (by simp) [] rfl rfl (by simp) ?_
        simp only [params]
        refine AWP.sR gok [1, 2, 3, 4, 5] (by apply aops_x (d := 5) (ag_n rfl) rfl (by first | (simp (disch := decide) only [h1, h2, h3, hr2, leafF_len, go_sem, seval] <;> rfl) | (simp (disch := first | decide | omega) only [if_pos, nws, h1, h2, h3, hr2, leafF_len, go_sem, seval] <;> rfl)) rfl; apply aops_x (d := 10) (ag_n rfl) rfl (by first | (simp (disch := decide) only [h1, h2, h3, hr2, leafF_len, go_sem, seval] <;> rfl) | (simp (disch := first | decide | omega) only [if_pos, nws, h1, h2, h3, hr2, leafF_len, go_sem, seval] <;> rfl)) rfl; apply aops_end; rfl) (by (simp (disch := omega) only [go_sem, seval, lay, nws]); rfl) ?_
        refine AWP.seq ?_
        refine AWP.sR gok [1, 2, 3, 4, 5, 25] (by apply aops_mv (t := 2) (d := 15) (ag_n rfl) rfl rfl (by first | (simp only [look_lay, look, seval] <;> rfl) | fail) rfl; apply aops_x (d := 16) (ag_n rfl) rfl (by first | (simp (disch := decide) only [h1, h2, h3, hr2, leafF_len, go_sem, seval] <;> rfl) | (simp (disch := first | decide | omega) only [if_pos, nws, h1, h2, h3, hr2, leafF_len, go_sem, seval] <;> rfl)) rfl; apply aops_mv (t := 16) (d := 17) (ag_n rfl) rfl rfl (by first | (simp only [look_lay, look, seval] <;> rfl) | fail) rfl; (first | apply aops_mv (t := 2) (d := 18) (ag_b (j := 2) (d := 17) rfl rfl rfl (by first | (simp only [look_lay, look, seval] <;> rfl) | fail) rfl) rfl rfl (by first | (simp only [look_lay, look, seval] <;> rfl) | fail) rfl | apply aops_ps (d := 18) (by first | exact ag_f (j := 2) (d := 17) rfl rfl rfl (by first | (simp only [look_lay, look, seval] <;> rfl) | fail) rfl | exact ag_u (j := 2) (d := 17) rfl rfl rfl (by first | (simp only [look_lay, look, seval] <;> rfl) | fail) | fail) rfl rfl); (first | apply aops_mv (t := 3) (d := 19) (ag_b (j := 2) (d := 17) rfl rfl rfl (by first | (simp only [look_lay, look, seval] <;> rfl) | fail) rfl) rfl rfl (by first | (simp only [look_lay, look, seval] <;> rfl) | fail) rfl | apply aops_ps (d := 19) (by first | exact ag_f (j := 2) (d := 17) rfl rfl rfl (by first | (simp only [look_lay, look, seval] <;> rfl) | fail) rfl | exact ag_u (j := 2) (d := 17) rfl rfl rfl (by first | (simp only [look_lay, look, seval] <;> rfl) | fail) | fail) rfl rfl); (first | apply aops_x (d := 20) (ag_b (j := 2) (d := 17) rfl rfl rfl (by first | (simp only [look_lay, look, seval] <;> rfl) | fail) rfl) rfl (by first | (simp (disch := decide) only [h1, h2, h3, hr2, leafF_len, go_sem, seval] <;> rfl) | (simp (disch := first | decide | omega) only [if_pos, nws, h1, h2, h3, hr2, leafF_len, go_sem, seval] <;> rfl)) rfl | apply aops_ps (d := 20) (by first | exact ag_f (j := 2) (d := 17) rfl rfl rfl (by first | (simp only [look_lay, look, seval] <;> rfl) | fail) rfl | exact ag_u (j := 2) (d := 17) rfl rfl rfl (by first | (simp only [look_lay, look, seval] <;> rfl) | fail) | fail) rfl rfl); apply aops_x (d := 21) (ag_n rfl) rfl (by first | (simp (disch := decide) only [h1, h2, h3, hr2, leafF_len, go_sem, seval] <;> rfl) | (simp (disch := first | decide | omega) only [if_pos, nws, h1, h2, h3, hr2, leafF_len, go_sem, seval] <;> rfl)) rfl; apply aops_mv (t := 21) (d := 22) (ag_n rfl) rfl rfl (by first | (simp only [look_lay, look, seval] <;> rfl) | fail) rfl; (first | apply aops_mv (t := 3) (d := 23) (ag_b (j := 7) (d := 22) rfl rfl rfl (by first | (simp only [look_lay, look, seval] <;> rfl) | fail) rfl) rfl rfl (by first | (simp only [look_lay, look, seval] <;> rfl) | fail) rfl | apply aops_ps (d := 23) (by first | exact ag_f (j := 7) (d := 22) rfl rfl rfl (by first | (simp only [look_lay, look, seval] <;> rfl) | fail) rfl | exact ag_u (j := 7) (d := 22) rfl rfl rfl (by first | (simp only [look_lay, look, seval] <;> rfl) | fail) | fail) rfl rfl); (first | apply aops_x (d := 24) (ag_b (j := 7) (d := 22) rfl rfl rfl (by first | (simp only [look_lay, look, seval] <;> rfl) | fail) rfl) rfl (by first | (simp (disch := decide) only [h1, h2, h3, hr2, leafF_len, go_sem, seval] <;> rfl) | (simp (disch := first | decide | omega) only [if_pos, nws, h1, h2, h3, hr2, leafF_len, go_sem, seval] <;> rfl)) rfl | apply aops_ps (d := 24) (by first | exact ag_f (j := 7) (d := 22) rfl rfl rfl (by first | (simp only [look_lay, look, seval] <;> rfl) | fail) rfl | exact ag_u (j := 7) (d := 22) rfl rfl rfl (by first | (simp only [look_lay, look, seval] <;> rfl) | fail) | fail) rfl rfl); apply aops_x (d := 25) (ag_n rfl) rfl (by first | (simp (disch := decide) only [h1, h2, h3, hr2, leafF_len, go_sem, seval] <;> rfl) | (simp (disch := first | decide | omega) only [if_pos, nws, h1, h2, h3, hr2, leafF_len, go_sem, seval] <;> rfl)) rfl; apply aops_end; rfl) (by (simp (disch := omega) only [go_sem, seval, lay, nws]); rfl) ?_
        refine AWP.condF (b := _) rfl rfl ?_
        refine AWP.skip ?_
        change AWP _ _ _ _ _
        refine AWP.sR gok [1, 4, 5, 11] (by apply aops_mv (t := 2) (d := 26) (ag_n rfl) rfl rfl (by first | (simp only [look_lay, look, seval] <;> rfl) | fail) rfl; apply aops_mv (t := 3) (d := 27) (ag_n rfl) rfl rfl (by first | (simp only [look_lay, look, seval] <;> rfl) | fail) rfl; apply aops_x (d := 28) (ag_n rfl) rfl (by (simp (disch := first | decide | omega) only [if_pos, nws, h1, h2, h3, hr2, leafF_len, ← hds, go_sem, seval] <;> rfl)) rfl; apply aops_as (t := 28) (d := 11) (ag_n rfl) rfl rfl (by first | (simp only [look_lay, look, seval] <;> rfl) | fail) rfl; apply aops_end; rfl) (by (simp (disch := omega) only [go_sem, seval, lay, nws]); rfl) ?_
        refine AWP.seq ?_
        refine AWP.sR gok [1, 4, 5, 11, 33] (by apply aops_mv (t := 11) (d := 29) (ag_n rfl) rfl rfl (by first | (simp only [look_lay, look, seval] <;> rfl) | fail) rfl; apply aops_x (d := 30) (ag_n rfl) rfl (by first | (simp (disch := decide) only [h1, h2, h3, hr2, leafF_len, go_sem, seval] <;> rfl) | (simp (disch := first | decide | omega) only [if_pos, nws, h1, h2, h3, hr2, leafF_len, go_sem, seval] <;> rfl)) rfl; apply aops_mv (t := 4) (d := 31) (ag_n rfl) rfl rfl (by first | (simp only [look_lay, look, seval] <;> rfl) | fail) rfl; apply aops_x (d := 32) (ag_n rfl) rfl (by first | (simp (disch := decide) only [h1, h2, h3, hr2, leafF_len, go_sem, seval] <;> rfl) | (simp (disch := first | decide | omega) only [if_pos, nws, h1, h2, h3, hr2, leafF_len, go_sem, seval] <;> rfl)) rfl; apply aops_x (d := 33) (ag_n rfl) rfl (by first | (simp (disch := decide) only [h1, h2, h3, hr2, leafF_len, go_sem, seval] <;> rfl) | (simp (disch := first | decide | omega) only [if_pos, nws, h1, h2, h3, hr2, leafF_len, go_sem, seval] <;> rfl)) rfl; apply aops_end; rfl) (by (simp (disch := omega) only [go_sem, seval, lay, nws]); rfl) ?_
        refine AWP.cond (b := _) rfl (fun h => ?_) (fun h => ?_) <;> (try simp only [decide_eq_true_eq, decide_eq_false_iff_not] at h)
        · skip
          refine AWP.sR gok [10] (by apply aops_x (d := 10) (ag_n rfl) rfl (by first | (simp (disch := decide) only [h1, h2, h3, hr2, leafF_len, go_sem, seval] <;> rfl) | (simp (disch := first | decide | omega) only [if_pos, nws, h1, h2, h3, hr2, leafF_len, go_sem, seval] <;> rfl)) rfl; apply aops_end; rfl) (by (simp (disch := omega) only [go_sem, seval, lay, nws]); rfl) ?_
          refine AWP.ret ?_
          refine ⟨.inr rfl, _, (by simp only [go_sem, seval, h1, h2, h3, hr2, leafF_len] <;> rfl), ?_⟩
          simp only [go_sem, seval, h1, h2, h3, hr2, leafF_len, Option.some.injEq, AV.c.injEq, AV.agg.injEq, CV.v.injEq, Value.int.injEq, Value.bool.injEq, Row.raw.injEq, List.cons.injEq, CV.sl.injEq, and_true, true_and, and_self]
          rw [hs, if_neg (by omega)]
        · skip
          refine AWP.skip ?_
          change AWP _ _ _ _ _
          refine AWP.sR gok [4, 5, 11, 12] (by apply aops_mv (t := 1) (d := 34) (ag_n rfl) rfl rfl (by first | (simp only [look_lay, look, seval] <;> rfl) | fail) rfl; apply aops_x (d := 35) (ag_n rfl) rfl (by (simp (disch := first | decide | omega) only [if_pos, nws, h1, h2, h3, hr2, leafF_len, ht1, go_sem, seval] <;> rfl)) rfl; apply aops_x (d := 12) (ag_n rfl) rfl (by first | (simp (disch := decide) only [h1, h2, h3, hr2, leafF_len, ht1, go_sem, seval] <;> rfl) | (simp (disch := first | decide | omega) only [if_pos, nws, h1, h2, h3, hr2, leafF_len, ht1, go_sem, seval] <;> rfl)) rfl; apply aops_s (ag_n rfl) rfl (by first | (simp (disch := decide) only [h1, h2, h3, hr2, leafF_len, ht1, go_sem, seval] <;> rfl) | (simp (disch := first | decide | omega) only [if_pos, nws, h1, h2, h3, hr2, leafF_len, ht1, go_sem, seval] <;> rfl)); apply aops_end; rfl) (by (simp (disch := omega) only [go_sem, seval, lay, nws]); rfl) ?_
          refine AWP.seq ?_
          refine AWP.sR gok [4, 5, 12, 36, 37, 38] (by apply aops_mv (t := 11) (d := 36) (ag_n rfl) rfl rfl (by first | (simp only [look_lay, look, seval] <;> rfl) | fail) rfl; apply aops_x (d := 37) (ag_n rfl) rfl (by first | (simp (disch := decide) only [h1, h2, h3, hr2, leafF_len, go_sem, seval] <;> rfl) | (simp (disch := first | decide | omega) only [if_pos, nws, h1, h2, h3, hr2, leafF_len, go_sem, seval] <;> rfl)) rfl; apply aops_x (d := 38) (ag_n rfl) rfl (by first | (simp (disch := decide) only [h1, h2, h3, hr2, leafF_len, go_sem, seval] <;> rfl) | (simp (disch := first | decide | omega) only [if_pos, nws, h1, h2, h3, hr2, leafF_len, go_sem, seval] <;> rfl)) rfl; apply aops_end; rfl) (by (simp (disch := omega) only [go_sem, seval, lay, nws]); rfl) ?_
          refine AWP.block ?_
          refine AWP.loopP (fun (p : Nat × List Int) => ⟨60, [(4, .c (.rs (.ar 32 (.i .u8)) pf)), (5, .c (.ptr 0 0 1 0)), (12, .c (.ptr 2 0 1 0)), (36, .c (.sl 1 0 ds.length 1)), (37, .c (ci .i64 (ds.length : Int))), (38, .c (ci .i64 (p.1 : Int)))], [some (.ty (.i .u8) r), some (.ty .bo ds), some (.ty (.i .u8) p.2)]⟩) (fun p => p.1 ≤ ds.length ∧ p.2 = upF ds pf (leafF t) p.1) (fun p => ds.length - p.1) ⟨0, leafF t⟩ (Ghost.refl _ _) ⟨by simp, rfl⟩ ?_
          rintro ⟨i, d⟩ ⟨hi, hd⟩
          simp only at hi hd ⊢
          have hd1 : d.length = 32 := by rw [hd]; exact upF_len _ _ _ (leafF_len _) i
          have hd2 : bytesOk d := by rw [hd]; exact upF_ok _ _ _ (dg_ok _) i
          refine AWP.sR gok [4, 5, 12, 36, 37, 38, 39] (by apply aops_x (d := 39) (ag_n rfl) rfl (by first | (simp (disch := decide) only [h1, h2, h3, hr2, leafF_len, go_sem, seval] <;> rfl) | (simp (disch := first | decide | omega) only [if_pos, nws, h1, h2, h3, hr2, leafF_len, go_sem, seval] <;> rfl)) rfl; apply aops_end; rfl) (by (simp (disch := omega) only [go_sem, seval, lay, nws]); rfl) ?_
          refine AWP.seq ?_
          refine AWP.cond (b := _) rfl (fun h => ?_) (fun h => ?_) <;> (try simp only [decide_eq_true_eq, decide_eq_false_iff_not] at h)
          · skip
            refine AWP.skip ?_
            change AWP _ _ _ _ _
            refine AWP.seqBlock ?_
            have h' : i < ds.length := by omega
            obtain ⟨b, hb⟩ : ∃ b, ds[i]? = some b := ⟨_, List.getElem?_eq_getElem h'⟩
            obtain ⟨q, hq⟩ : ∃ q, pf[i]? = some q := ⟨_, List.getElem?_eq_getElem (by omega)⟩
            obtain ⟨q1, q2⟩ := hp q (List.mem_of_getElem? hq)
            have bb : (bothF q d).length = 32 := dg_len _
            have bc : (bothF d q).length = 32 := dg_len _
            refine AWP.sR gok [4, 5, 12, 13, 14, 36, 37, 38] (by apply aops_mv (t := 38) (d := 40) (ag_n rfl) rfl rfl (by first | (simp only [look_lay, look, seval] <;> rfl) | fail) rfl; apply aops_x (d := 41) (ag_n rfl) rfl (by (simp (disch := first | decide | omega) only [if_pos, nws, h1, h2, h3, hr2, leafF_len, hb, go_sem, seval] <;> rfl)) rfl; apply aops_x (d := 42) (ag_n rfl) rfl (by first | (simp (disch := decide) only [h1, h2, h3, hr2, leafF_len, hb, go_sem, seval] <;> rfl) | (simp (disch := first | decide | omega) only [if_pos, nws, h1, h2, h3, hr2, leafF_len, hb, go_sem, seval] <;> rfl)) rfl; apply aops_as (t := 40) (d := 13) (ag_n rfl) rfl rfl (by first | (simp only [look_lay, look, seval] <;> rfl) | fail) rfl; apply aops_as (t := 42) (d := 14) (ag_n rfl) rfl rfl (by first | (simp only [look_lay, look, seval] <;> rfl) | fail) rfl; apply aops_end; rfl) (by (simp (disch := omega) only [go_sem, seval, lay, nws]); rfl) ?_
            refine AWP.sR gok [4, 5, 12, 13, 36, 37, 38, 43] (by apply aops_mv (t := 14) (d := 43) (ag_n rfl) rfl rfl (by first | (simp only [look_lay, look, seval] <;> rfl) | fail) rfl; apply aops_end; rfl) (by (simp (disch := omega) only [go_sem, seval, lay, nws]); rfl) ?_
            refine AWP.cond (b := _) rfl (fun h => ?_) (fun h => ?_) <;> (try simp only [decide_eq_true_eq, decide_eq_false_iff_not] at h)
            · skip
              refine AWP.dT gok (by kernel_rfl) [4, 5, 12, 36, 37, 38] [⟨[], true, 0⟩, ⟨[], true, 0⟩, ⟨[], true, 0⟩, ⟨[], true, 0⟩, ⟨[2], true, 0⟩, ⟨[], true, 0⟩, ⟨[2], false, 0⟩] (by kernel_rfl) (by first | rfl | simp only [go_sem, ↓reduceIte, Nat.reduceLT, Nat.reduceAdd]) (by first | rfl | simp only [go_sem, ↓reduceIte, Nat.reduceLT, Nat.reduceAdd]) (by (repeat (first | apply arun_step (by first | exact ag_n rfl | exact ag_b rfl rfl rfl (by first | (simp only [look_lay, look, seval] <;> rfl) | fail) (by first | rfl | (simp only [h1, h2, h3, hr2, leafF_len, hq, hd1, hd2, q1, q2, bb, bc, decide_true, decide_false] <;> rfl) | fail) | fail) (by first | (simp (disch := decide) only [h1, h2, h3, hr2, leafF_len, hq, hd1, hd2, q1, q2, bb, bc, go_sem, seval]; rfl) | (simp (disch := first | decide | omega) only [if_pos, nws, h1, h2, h3, hr2, leafF_len, hq, hd1, hd2, q1, q2, bb, bc, go_sem, seval]; rfl)) (by first | (intro h; cases h; done) | (intro _; rfl) | (intro _; simp only [go_sem, seval, lay])) (by first | rfl | simp only [go_sem, seval, lay]) (by first | rfl | simp only [go_sem, seval, lay]) (by first | rfl | simp only [go_sem, seval, lay]) (by simp only [go_sem, seval, lay]; rfl) | apply arun_pass (by first | exact ag_f rfl rfl rfl (by first | (simp only [look_lay, look, seval] <;> rfl) | fail) (by first | rfl | (simp only [h1, h2, h3, hr2, leafF_len, hq, hd1, hd2, q1, q2, bb, bc, decide_true, decide_false] <;> rfl) | fail) | exact ag_u rfl rfl rfl (by first | (simp only [look_lay, look, seval] <;> rfl) | fail) | fail) rfl (by simp only [go_sem, seval, lay]; rfl))); exact rfl) (by (simp (disch := omega) only [go_sem, seval, lay, nws]); rfl) ?_
              change AWP _ _ _ _ _
              refine AWP.rT gok [4, 5, 12, 36, 37, 38] (by apply aops_x (d := 56) (ag_n rfl) rfl (by first | (simp (disch := decide) only [h1, h2, h3, hr2, leafF_len, go_sem, seval] <;> rfl) | (simp (disch := first | decide | omega) only [if_pos, nws, h1, h2, h3, hr2, leafF_len, go_sem, seval] <;> rfl)) rfl; apply aops_mv (t := 56) (d := 38) (ag_n rfl) rfl rfl (by first | (simp only [look_lay, look, seval] <;> rfl) | fail) rfl; apply aops_end; rfl) (by (simp (disch := omega) only [go_sem, seval, lay, nws]); rfl) ?_
              refine ⟨(i + 1, _), Ghost.refl _ _, ⟨by simp only; omega, ?_⟩, by simp only; omega⟩
              simp only
              rw [upF, List.getD_eq_getElem?_getD, List.getD_eq_getElem?_getD, hb, hq, ← hd]
              simp only [Option.getD_some]
              first | (rw [if_pos h]; rfl) | (rw [if_neg (by simp [h])]; rfl)
            · skip
              refine AWP.dT gok (by kernel_rfl) [4, 5, 12, 36, 37, 38] [⟨[2], true, 0⟩, ⟨[], true, 0⟩, ⟨[], true, 0⟩, ⟨[], true, 0⟩, ⟨[], true, 0⟩, ⟨[], true, 0⟩, ⟨[2], false, 0⟩] (by kernel_rfl) (by first | rfl | simp only [go_sem, ↓reduceIte, Nat.reduceLT, Nat.reduceAdd]) (by first | rfl | simp only [go_sem, ↓reduceIte, Nat.reduceLT, Nat.reduceAdd]) (by (repeat (first | apply arun_step (by first | exact ag_n rfl | exact ag_b rfl rfl rfl (by first | (simp only [look_lay, look, seval] <;> rfl) | fail) (by first | rfl | (simp only [h1, h2, h3, hr2, leafF_len, hq, hd1, hd2, q1, q2, bb, bc, decide_true, decide_false] <;> rfl) | fail) | fail) (by first | (simp (disch := decide) only [h1, h2, h3, hr2, leafF_len, hq, hd1, hd2, q1, q2, bb, bc, go_sem, seval]; rfl) | (simp (disch := first | decide | omega) only [if_pos, nws, h1, h2, h3, hr2, leafF_len, hq, hd1, hd2, q1, q2, bb, bc, go_sem, seval]; rfl)) (by first | (intro h; cases h; done) | (intro _; rfl) | (intro _; simp only [go_sem, seval, lay])) (by first | rfl | simp only [go_sem, seval, lay]) (by first | rfl | simp only [go_sem, seval, lay]) (by first | rfl | simp only [go_sem, seval, lay]) (by simp only [go_sem, seval, lay]; rfl) | apply arun_pass (by first | exact ag_f rfl rfl rfl (by first | (simp only [look_lay, look, seval] <;> rfl) | fail) (by first | rfl | (simp only [h1, h2, h3, hr2, leafF_len, hq, hd1, hd2, q1, q2, bb, bc, decide_true, decide_false] <;> rfl) | fail) | exact ag_u rfl rfl rfl (by first | (simp only [look_lay, look, seval] <;> rfl) | fail) | fail) rfl (by simp only [go_sem, seval, lay]; rfl))); exact rfl) (by (simp (disch := omega) only [go_sem, seval, lay, nws]); rfl) ?_
              change AWP _ _ _ _ _
              refine AWP.rT gok [4, 5, 12, 36, 37, 38] (by apply aops_x (d := 56) (ag_n rfl) rfl (by first | (simp (disch := decide) only [h1, h2, h3, hr2, leafF_len, go_sem, seval] <;> rfl) | (simp (disch := first | decide | omega) only [if_pos, nws, h1, h2, h3, hr2, leafF_len, go_sem, seval] <;> rfl)) rfl; apply aops_mv (t := 56) (d := 38) (ag_n rfl) rfl rfl (by first | (simp only [look_lay, look, seval] <;> rfl) | fail) rfl; apply aops_end; rfl) (by (simp (disch := omega) only [go_sem, seval, lay, nws]); rfl) ?_
              refine ⟨(i + 1, _), Ghost.refl _ _, ⟨by simp only; omega, ?_⟩, by simp only; omega⟩
              simp only
              rw [upF, List.getD_eq_getElem?_getD, List.getD_eq_getElem?_getD, hb, hq, ← hd]
              simp only [Option.getD_some]
              first | (rw [if_pos h]; rfl) | (rw [if_neg (by simp [h])]; rfl)
          · skip
            refine AWP.exit ?_
            change AWP _ _ _ _ _
            refine AWP.sR gok [10] (by apply aops_x (d := 57) (ag_n rfl) rfl (by first | (simp (disch := decide) only [h1, h2, h3, hr2, leafF_len, hd1, go_sem, seval] <;> rfl) | (simp (disch := first | decide | omega) only [if_pos, nws, h1, h2, h3, hr2, leafF_len, hd1, go_sem, seval] <;> rfl)) rfl; apply aops_x (d := 58) (ag_n rfl) rfl (by first | (simp (disch := decide) only [h1, h2, h3, hr2, leafF_len, hd1, go_sem, seval] <;> rfl) | (simp (disch := first | decide | omega) only [if_pos, nws, h1, h2, h3, hr2, leafF_len, hd1, go_sem, seval] <;> rfl)) rfl; apply aops_x (d := 59) (ag_n rfl) rfl (by first | (simp (disch := decide) only [h1, h2, h3, hr2, leafF_len, hd1, go_sem, seval] <;> rfl) | (simp (disch := first | decide | omega) only [if_pos, nws, h1, h2, h3, hr2, leafF_len, hd1, go_sem, seval] <;> rfl)) rfl; apply aops_as (t := 59) (d := 10) (ag_n rfl) rfl rfl (by first | (simp only [look_lay, look, seval] <;> rfl) | fail) rfl; apply aops_end; rfl) (by (simp (disch := omega) only [go_sem, seval, lay, nws]); rfl) ?_
            refine AWP.ret ?_
            refine ⟨.inr rfl, _, (by simp only [go_sem, seval, h1, h2, h3, hr2, leafF_len] <;> rfl), ?_⟩
            simp only [go_sem, seval, h1, h2, h3, hr2, leafF_len, Option.some.injEq, AV.c.injEq, AV.agg.injEq, CV.v.injEq, Value.int.injEq, Value.bool.injEq, Row.raw.injEq, List.cons.injEq, CV.sl.injEq, and_true, true_and, and_self]
            rw [hs, if_pos (by omega), beq_eq_decide', hd, show i = pf.length by omega]
theorem E33_ok : EntryOk Try.prog 33 E33 := pureN_ok (fun d hc => K33 d.1 d.2.1 d.2.2.1 d.2.2.2.1 d.2.2.2.2.1 hc) (fun _ => rfl) (fun _ => rfl)
attribute [go_sem] E33 c33 r33 L33
end Go.Proofs.Ytbdnhoddkdiogaa
end
section
set_option linter.unusedSimpArgs false
set_option linter.unusedVariables false
namespace Go.Proofs.Ytbdnhoddkdiogaa
open Go.RowKit
/-! The digest, reckoned strictly. -/
def fN {α : Type} (n : Nat) (k : Nat → α) : α := Nat.rec (k 0) (fun m _ => k (m + 1)) n
theorem fN_eq {α : Type} (n : Nat) (k : Nat → α) : fN n k = k n := by cases n <;> rfl
def fI {α : Type} (x : Int) (k : Int → α) : α := match x with | .ofNat n => fN n fun n => k (.ofNat n) | .negSucc n => k (.negSucc n)
theorem fI_eq {α : Type} (x : Int) (k : Int → α) : fI x k = k x := by cases x <;> simp [fI, fN_eq]
def fL {α : Type} : List Int → (List Int → α) → α
  | [], k => k []
  | x :: xs, k => fI x fun x => fL xs fun xs => k (x :: xs)
theorem fL_eq {α : Type} : ∀ (xs : List Int) (k : List Int → α), fL xs k = k xs
  | [], k => rfl
  | x :: xs, k => by rw [fL, fI_eq, fL_eq xs]
def schedK {α : Type} (xs : List Int) : Nat → (List Int → α) → α
  | 0, k => k []
  | n + 1, k => schedK xs n fun l => fI (Sha.next xs l n) fun v => fL (l ++ [v]) k
theorem schedK_eq {α : Type} (xs : List Int) : ∀ (n : Nat) (k : List Int → α), schedK xs n k = k (Sha.sched xs n)
  | 0, k => rfl
  | n + 1, k => by rw [schedK, schedK_eq xs n, fI_eq, fL_eq]; rfl
def mixedK {α : Type} (h wl kl : List Int) : Nat → (List Int → α) → α
  | 0, k => k h
  | n + 1, k => mixedK h wl kl n fun s => fL (Sha.step s (kl.getD n 0) (wl.getD n 0)) k
theorem mixedK_eq {α : Type} (h wl kl : List Int) : ∀ (n : Nat) (k : List Int → α), mixedK h wl kl n k = k (Sha.mixed h wl kl n)
  | 0, k => rfl
  | n + 1, k => by rw [mixedK, mixedK_eq h wl kl n, fL_eq]; rfl
def hashesK {α : Type} (t : List Int) : Nat → (List Int → α) → α
  | 0, k => k Sha.start
  | m + 1, k => hashesK t m fun h => fL (t.drop (64 * m)) fun b => schedK b 64 fun w => mixedK h w Sha.rounds 64 fun s => fL (Sha.add s h) k
theorem hashesK_eq {α : Type} (t : List Int) : ∀ (n : Nat) (k : List Int → α), hashesK t n k = k (Sha.hashes t n)
  | 0, k => rfl
  | n + 1, k => by rw [hashesK, hashesK_eq t n, fL_eq, schedK_eq, mixedK_eq, fL_eq]; rfl
def ofK {α : Type} (xs : List Int) (k : List Int → α) : α := fL (Sha.text xs) fun t => hashesK t (t.length / 64) fun h => fL (Sha.outs h 32) k
theorem ofK_eq {α : Type} (xs : List Int) (k : List Int → α) : ofK xs k = k (dg xs) := by
  unfold ofK; rw [fL_eq, hashesK_eq, fL_eq, dg_eq]; rfl
theorem empty_hex : ofK [] (fun d => decide (d = [227, 176, 196, 66, 152, 252, 28, 20, 154, 251, 244, 200, 153, 111, 185, 36, 39, 174, 65, 228, 100, 155, 147, 76, 164, 149, 153, 27, 120, 82, 184, 85])) = true := by decide +kernel
end Go.Proofs.Ytbdnhoddkdiogaa
end
section
set_option linter.unusedSimpArgs false
set_option linter.unusedVariables false
namespace Go.Proofs.Ytbdnhoddkdiogaa
open Go.RowKit
/-! What a law begins with. -/
def ofS : Entry := fun args H => match views H [.sl (.i .u8)] args with
  | some d => if bytesOk d.1 ∧ d.1.length ≤ 1099511627776 then ofK d.1 (fun x => some (.agg (.ty (.i .u8) x), H)) else none
  | none => none
theorem ofS_ok : EntryOk Try.prog 16 ofS := fun args H r H' h => by
  unfold ofS at h
  split at h
  · rename_i d hd
    split at h
    · rename_i hc
      rw [ofK_eq] at h
      cases h
      refine E16_ok args H _ _ ?_
      unfold E16 pureN
      rw [hd]
      show (if c16 d.1 then some _ else none) = _
      rw [if_pos hc]
      simp only [shiftA, shiftH, AV.mapId, Row.mapId, List.map_nil, List.append_nil]
    · cases h
  · cases h
theorem hex_c (D : List Int) (hc : bytesOk D ∧ D.length = 32) : CallOk Try.prog 18 [.agg (.ty (.i .u8) D)] [] (.c (.v (.string (strOfNums (Sha.hexs D))))) [] :=
  bridge (v := .string (strOfNums (Sha.hexs D))) (by kernel_rfl) (fun w own σ => ⟨rfl, rfl⟩) fun own σ w vs hl1 hv => by
    obtain ⟨v, h1, h2⟩ := hv 0 _ rfl
    obtain ⟨us, rfl, hu1, hu2⟩ := h2
    match vs, hl1 with
    | [u], _ =>
      cases h1
      have e : us.toArray = Sha.bytes D := by
        apply Array.ext'
        simp only [Sha.bytes]
        apply List.ext_getElem?
        intro i
        by_cases hi : i < D.length
        · have := hu2 i D[i] (List.getElem?_eq_getElem hi)
          have h3 : us[i * 1 + 0]? = some (.int .u8 D[i]) := this
          rw [Nat.mul_one, Nat.add_zero] at h3
          simp [h3, hi]
        · have hl : us.length = D.length := by simpa [Row.size, Ty.sz] using hu1
          have h4 : us[i]? = none := List.getElem?_eq_none (by rw [hl]; omega)
          rw [h4, List.getElem?_eq_none (by rw [List.length_map]; omega)]
      rw [e]
      exact hex_any D hc.2 hc.1 w
abbrev c18 (D : (List Int)) : Prop := bytesOk D ∧ D.length = 32
abbrev r18 (D : (List Int)) : AV := .c (.v (.string (strOfNums (Sha.hexs D))))
abbrev L18 (D : (List Int)) : Hp := []
def E18 : Entry := pureN [(.ar 32 (.i .u8))] (fun d => c18 d.1) (fun d => r18 d.1) (fun d => L18 d.1)
set_option maxRecDepth 100000 in
set_option maxHeartbeats 4000000 in
theorem K18 (D : (List Int)) (hc : c18 D) : CallOk Try.prog 18 [.agg (.ty (.i .u8) D)] [] (r18 D) (L18 D) := by
  have hc : bytesOk D ∧ D.length = 32 := hc
  exact hex_c D hc
theorem E18_ok : EntryOk Try.prog 18 E18 := pureN_ok (fun d hc => K18 d.1 hc) (fun _ => rfl) (fun _ => rfl)
attribute [go_sem] E18 c18 r18 L18
theorem awake11_c : CallOk Try.prog 26 [] [] (.c (cb true)) [] := closed_true (Gam.cons_ok ofS_ok (Gam.cons_ok E18_ok (Gam.nil_ok _))) (by kernel_rfl) (m := 500) (n := 20) (by kernel_rfl)
abbrev c26 : Prop := True
abbrev r26 : AV := .c (cb true)
abbrev L26 : Hp := []
def E26 : Entry := pureN [] (fun d => c26 ) (fun d => r26 ) (fun d => L26 )
set_option maxRecDepth 100000 in
set_option maxHeartbeats 4000000 in
theorem K26 (hc : c26) : CallOk Try.prog 26 [] [] (r26) (L26) := by
  exact awake11_c
theorem E26_ok : EntryOk Try.prog 26 E26 := pureN_ok (fun d hc => K26 hc) (fun _ => rfl) (fun _ => rfl)
attribute [go_sem] E26 c26 r26 L26
end Go.Proofs.Ytbdnhoddkdiogaa
end
section
set_option linter.unusedSimpArgs false
set_option linter.unusedVariables false
namespace Go.Proofs.Ytbdnhoddkdiogaa
open Go.RowKit
def fewF (l : List (List Int)) : Bool := l.all (fun t => decide (t.length ≤ 20)) && decide (l.length ≤ 12)
theorem fewF_spec {l : List (List Int)} (h : fewF l = true) : l.length ≤ 12 ∧ ∀ t ∈ l, t.length ≤ 20 := by
  unfold fewF at h
  rw [Bool.and_eq_true, List.all_eq_true] at h
  exact ⟨of_decide_eq_true h.2, fun t ht => of_decide_eq_true (h.1 t ht)⟩
abbrev c27 (l : (List (List Int))) : Prop := l.length ≤ 9223372036854775807
abbrev r27 (l : (List (List Int))) : AV := .c (cb (fewF l))
abbrev L27 (l : (List (List Int))) : Hp := []
def E27 : Entry := pureN [(.sl (.sl (.i .u8)))] (fun d => c27 d.1) (fun d => r27 d.1) (fun d => L27 d.1)
set_option maxRecDepth 100000 in
set_option maxHeartbeats 4000000 in
theorem K27 (l : (List (List Int))) (hc : c27 l) : CallOk Try.prog 27 [.c (.rs (.sl (.i .u8)) l)] [] (r27 l) (L27 l) := by
  have hc : l.length ≤ 9223372036854775807 := hc
  refine callOk' Try.func27 19 [.tmp 2] _ rfl rfl rfl (by kernel_rfl) (by simp) [] rfl rfl (by simp) ?_
  simp only [params]
  refine AWP.sR (Gam.nil_ok _) [0] (by apply aops_x (d := 2) (ag_n rfl) rfl (by first | (simp (disch := decide) only [go_sem, seval] <;> rfl) | (simp (disch := first | decide | omega) only [if_pos, nws, go_sem, seval] <;> rfl)) rfl; apply aops_end; rfl) (by (simp (disch := omega) only [go_sem, seval, lay, nws]); rfl) ?_
  refine AWP.seq ?_
  refine AWP.sR (Gam.nil_ok _) [0, 5, 6] (by apply aops_mv (t := 0) (d := 4) (ag_n rfl) rfl rfl (by first | (simp only [look_lay, look, seval] <;> rfl) | fail) rfl; apply aops_x (d := 5) (ag_n rfl) rfl (by first | (simp (disch := decide) only [go_sem, seval] <;> rfl) | (simp (disch := first | decide | omega) only [if_pos, nws, go_sem, seval] <;> rfl)) rfl; apply aops_x (d := 6) (ag_n rfl) rfl (by first | (simp (disch := decide) only [go_sem, seval] <;> rfl) | (simp (disch := first | decide | omega) only [if_pos, nws, go_sem, seval] <;> rfl)) rfl; apply aops_end; rfl) (by (simp (disch := omega) only [go_sem, seval, lay, nws]); rfl) ?_
  refine AWP.block ?_
  refine AWP.loopP (fun (p : Nat) => ⟨19, [(0, .c (.rs (.sl (.i .u8)) l)), (5, .c (ci .i64 (l.length : Int))), (6, .c (ci .i64 (p : Int)))], []⟩) (fun p => p ≤ l.length ∧ (l.take p).all (fun t => decide (t.length ≤ 20)) = true) (fun p => l.length - p) 0 (Ghost.refl _ _) ⟨by simp, by simp⟩ ?_
  rintro i ⟨hi, ha⟩
  refine AWP.sR (Gam.nil_ok _) [0, 5, 6, 7] (by apply aops_x (d := 7) (ag_n rfl) rfl (by first | (simp (disch := decide) only [go_sem, seval] <;> rfl) | (simp (disch := first | decide | omega) only [if_pos, nws, go_sem, seval] <;> rfl)) rfl; apply aops_end; rfl) (by (simp (disch := omega) only [go_sem, seval, lay, nws]); rfl) ?_
  refine AWP.seq ?_
  refine AWP.cond (b := _) rfl (fun h => ?_) (fun h => ?_) <;> (try simp only [decide_eq_true_eq, decide_eq_false_iff_not] at h)
  · skip
    refine AWP.skip ?_
    change AWP _ _ _ _ _
    refine AWP.seqBlock ?_
    have h' : i < l.length := by omega
    obtain ⟨x, hx⟩ : ∃ x, l[i]? = some x := ⟨_, List.getElem?_eq_getElem h'⟩
    refine AWP.sR (Gam.nil_ok _) [0, 3, 5, 6] (by apply aops_mv (t := 6) (d := 8) (ag_n rfl) rfl rfl (by first | (simp only [look_lay, look, seval] <;> rfl) | fail) rfl; apply aops_as (t := 8) (d := 3) (ag_n rfl) rfl rfl (by first | (simp only [look_lay, look, seval] <;> rfl) | fail) rfl; apply aops_end; rfl) (by (simp (disch := omega) only [go_sem, seval, lay, nws]); rfl) ?_
    refine AWP.sR (Gam.nil_ok _) [0, 5, 6, 14] (by apply aops_mv (t := 0) (d := 9) (ag_n rfl) rfl rfl (by first | (simp only [look_lay, look, seval] <;> rfl) | fail) rfl; apply aops_mv (t := 3) (d := 10) (ag_n rfl) rfl rfl (by first | (simp only [look_lay, look, seval] <;> rfl) | fail) rfl; apply aops_x (d := 11) (ag_n rfl) rfl (by (simp (disch := first | decide | omega) only [if_pos, nws, hx, go_sem, seval] <;> rfl)) rfl; apply aops_x (d := 12) (ag_n rfl) rfl (by first | (simp (disch := decide) only [hx, go_sem, seval] <;> rfl) | (simp (disch := first | decide | omega) only [if_pos, nws, hx, go_sem, seval] <;> rfl)) rfl; apply aops_x (d := 13) (ag_n rfl) rfl (by first | (simp (disch := decide) only [hx, go_sem, seval] <;> rfl) | (simp (disch := first | decide | omega) only [if_pos, nws, hx, go_sem, seval] <;> rfl)) rfl; apply aops_x (d := 14) (ag_n rfl) rfl (by first | (simp (disch := decide) only [hx, go_sem, seval] <;> rfl) | (simp (disch := first | decide | omega) only [if_pos, nws, hx, go_sem, seval] <;> rfl)) rfl; apply aops_end; rfl) (by (simp (disch := omega) only [go_sem, seval, lay, nws]); rfl) ?_
    refine AWP.cond (b := _) rfl (fun h => ?_) (fun h => ?_) <;> (try simp only [decide_eq_true_eq, decide_eq_false_iff_not] at h)
    · skip
      refine AWP.sR (Gam.nil_ok _) [2] (by apply aops_x (d := 2) (ag_n rfl) rfl (by first | (simp (disch := decide) only [go_sem, seval] <;> rfl) | (simp (disch := first | decide | omega) only [if_pos, nws, go_sem, seval] <;> rfl)) rfl; apply aops_end; rfl) (by (simp (disch := omega) only [go_sem, seval, lay, nws]); rfl) ?_
      refine AWP.ret ?_
      refine ⟨.inr rfl, _, (by simp only [go_sem, seval] <;> rfl), ?_⟩
      simp only [go_sem, seval, Option.some.injEq, AV.c.injEq, AV.agg.injEq, CV.v.injEq, Value.int.injEq, Value.bool.injEq, Row.raw.injEq, List.cons.injEq, CV.sl.injEq, and_true, true_and, and_self]
      unfold fewF
      have : l.all (fun t => decide (t.length ≤ 20)) = false := by
        rw [List.all_eq_false]
        exact ⟨x, List.mem_of_getElem? hx, by simp; omega⟩
      rw [this]; rfl
    · skip
      refine AWP.skip ?_
      change AWP _ _ _ _ _
      refine AWP.rT (Gam.nil_ok _) [0, 5, 6] (by apply aops_x (d := 15) (ag_n rfl) rfl (by first | (simp (disch := decide) only [go_sem, seval] <;> rfl) | (simp (disch := first | decide | omega) only [if_pos, nws, go_sem, seval] <;> rfl)) rfl; apply aops_mv (t := 15) (d := 6) (ag_n rfl) rfl rfl (by first | (simp only [look_lay, look, seval] <;> rfl) | fail) rfl; apply aops_end; rfl) (by (simp (disch := omega) only [go_sem, seval, lay, nws]); rfl) ?_
      refine ⟨i + 1, Ghost.refl _ _, ⟨by omega, ?_⟩, by omega⟩
      rw [List.take_add_one, hx, List.all_append, ha]
      simp; omega
  · skip
    refine AWP.exit ?_
    change AWP _ _ _ _ _
    refine AWP.sR (Gam.nil_ok _) [2] (by apply aops_mv (t := 0) (d := 16) (ag_n rfl) rfl rfl (by first | (simp only [look_lay, look, seval] <;> rfl) | fail) rfl; apply aops_x (d := 17) (ag_n rfl) rfl (by first | (simp (disch := decide) only [go_sem, seval] <;> rfl) | (simp (disch := first | decide | omega) only [if_pos, nws, go_sem, seval] <;> rfl)) rfl; apply aops_x (d := 18) (ag_n rfl) rfl (by first | (simp (disch := decide) only [go_sem, seval] <;> rfl) | (simp (disch := first | decide | omega) only [if_pos, nws, go_sem, seval] <;> rfl)) rfl; apply aops_as (t := 18) (d := 2) (ag_n rfl) rfl rfl (by first | (simp only [look_lay, look, seval] <;> rfl) | fail) rfl; apply aops_end; rfl) (by (simp (disch := omega) only [go_sem, seval, lay, nws]); rfl) ?_
    refine AWP.ret ?_
    refine ⟨.inr rfl, _, (by simp only [go_sem, seval] <;> rfl), ?_⟩
    simp only [go_sem, seval, Option.some.injEq, AV.c.injEq, AV.agg.injEq, CV.v.injEq, Value.int.injEq, Value.bool.injEq, Row.raw.injEq, List.cons.injEq, CV.sl.injEq, and_true, true_and, and_self]
    have e : i = l.length := by omega
    rw [e, List.take_length] at ha
    unfold fewF
    rw [ha, Bool.true_and]
    exact decide_eq_decide.2 (by omega)
theorem E27_ok : EntryOk Try.prog 27 E27 := pureN_ok (fun d hc => K27 d.1 hc) (fun _ => rfl) (fun _ => rfl)
attribute [go_sem] E27 c27 r27 L27
/-! What is proved is shown. -/
theorem upF_app (ds ds' : List Bool) (p p' : List (List Int)) (d : List Int) (h : ds.length = p.length) : ∀ i, i ≤ ds.length → upF (ds ++ ds') (p ++ p') d i = upF ds p d i
  | 0, _ => rfl
  | i + 1, hi => by
    rw [upF, upF, upF_app ds ds' p p' d h i (by omega)]
    simp only [List.getD_eq_getElem?_getD]
    rw [List.getElem?_append_left (by omega), List.getElem?_append_left (by omega)]
theorem proof_shows : ∀ (n : Nat) (l : List (List Int)) (k : Nat), l.length = n → k < n → (dirsF k n).length = (besideF l k).length ∧ upF (dirsF k n).reverse (besideF l k) (leafF (l.getD k [])) (besideF l k).length = rootF l := fun n => by
  induction n using Nat.strongRecOn with
  | _ n ih =>
    intro l k hl hk
    by_cases h1 : n ≤ 1
    · have hk0 : k = 0 := by omega
      subst hk0
      rw [dirsF_1 0 n h1, besideF_1 l 0 (by omega), rootF_1 l (by omega)]
      refine ⟨rfl, ?_⟩
      cases l with
      | nil => simp at hl; omega
      | cons x l => rfl
    · have h2 : 2 ≤ n := by omega
      have sp := splitN_spec n h2
      have bf := besideF_2 l k (by omega)
      rw [hl] at bf
      rw [rootF_2 l (by omega), hl]
      by_cases hs : k < splitN n
      · rw [if_pos hs] at bf
        have d2 := dirsF_2 k n h2
        rw [if_neg (by omega)] at d2
        obtain ⟨i1, i2⟩ := ih (splitN n) sp.2.1 (l.take (splitN n)) k (by rw [List.length_take]; omega) hs
        rw [bf, d2]
        refine ⟨by simp [i1], ?_⟩
        rw [List.reverse_cons, List.length_append, List.length_cons, List.length_nil, Nat.zero_add, upF, upF_app _ _ _ _ _ (by rw [List.length_reverse, i1]) _ (by rw [List.length_reverse, i1]; exact Nat.le_refl _)]
        have e1 : ((dirsF k (splitN n)).reverse ++ [false]).getD (besideF (l.take (splitN n)) k).length false = false := by
          rw [List.getD_eq_getElem?_getD, List.getElem?_append_right (by rw [List.length_reverse, i1]; exact Nat.le_refl _), List.length_reverse, i1, Nat.sub_self]; rfl
        have e2 : (besideF (l.take (splitN n)) k ++ [rootF (l.drop (splitN n))]).getD (besideF (l.take (splitN n)) k).length [] = rootF (l.drop (splitN n)) := by
          rw [List.getD_eq_getElem?_getD, List.getElem?_append_right (Nat.le_refl _), Nat.sub_self]; rfl
        rw [e1, e2, if_neg (by simp)]
        congr 1
        rw [← i2]
        congr 2
        rw [List.getD_eq_getElem?_getD, List.getD_eq_getElem?_getD, List.getElem?_take_of_lt hs]
      · rw [if_neg hs] at bf
        have d2 := dirsF_2 k n h2
        rw [if_pos (by omega)] at d2
        obtain ⟨i1, i2⟩ := ih (n - splitN n) (by omega) (l.drop (splitN n)) (k - splitN n) (by rw [List.length_drop]; omega) (by omega)
        rw [bf, d2]
        refine ⟨by simp [i1], ?_⟩
        rw [List.reverse_cons, List.length_append, List.length_cons, List.length_nil, Nat.zero_add, upF, upF_app _ _ _ _ _ (by rw [List.length_reverse, i1]) _ (by rw [List.length_reverse, i1]; exact Nat.le_refl _)]
        have e1 : ((dirsF (k - splitN n) (n - splitN n)).reverse ++ [true]).getD (besideF (l.drop (splitN n)) (k - splitN n)).length false = true := by
          rw [List.getD_eq_getElem?_getD, List.getElem?_append_right (by rw [List.length_reverse, i1]; exact Nat.le_refl _), List.length_reverse, i1, Nat.sub_self]; rfl
        have e2 : (besideF (l.drop (splitN n)) (k - splitN n) ++ [rootF (l.take (splitN n))]).getD (besideF (l.drop (splitN n)) (k - splitN n)).length [] = rootF (l.take (splitN n)) := by
          rw [List.getD_eq_getElem?_getD, List.getElem?_append_right (Nat.le_refl _), Nat.sub_self]; rfl
        rw [e1, e2, if_pos rfl]
        congr 1
        rw [← i2]
        congr 2
        rw [List.getD_eq_getElem?_getD, List.getD_eq_getElem?_getD, List.getElem?_drop, show splitN n + (k - splitN n) = k by omega]
theorem besideF_ok : ∀ (l : List (List Int)) (k : Nat), digestsOk (besideF l k) := fun l => by
  generalize hn : l.length = n
  induction n using Nat.strongRecOn generalizing l with
  | _ n ih =>
    intro k
    by_cases h : l.length ≤ 1
    · rw [besideF_1 l k h]; intro d hd; simp at hd
    · have sp := splitN_spec l.length (by omega)
      have ap : ∀ (p : List (List Int)) (m : List (List Int)), digestsOk p → digestsOk (p ++ [rootF m]) := fun p m hp d hd => by
        rcases List.mem_append.1 hd with h | h
        · exact hp d h
        · rw [List.mem_singleton] at h; subst h; exact ⟨rootF_ok m, rootF_len m⟩
      rw [besideF_2 l k (by omega)]
      split
      · exact ap _ _ (ih _ (by rw [← hn]; exact sp.2.1) (l.take (splitN l.length)) (by rw [List.length_take]; omega) k)
      · exact ap _ _ (ih (l.length - splitN l.length) (by omega) (l.drop (splitN l.length)) (by rw [List.length_drop]) (k - splitN l.length))
theorem shows_true (l : List (List Int)) (k : Nat) (hk : k < l.length) (hl : l.length ≤ 1048576) : showsF (rootF l) (l.getD k []) k l.length (besideF l k) = true := by
  obtain ⟨h1, h2⟩ := proof_shows l.length l k rfl hk
  unfold showsF
  rw [if_pos (by omega), Int.toNat_natCast, Int.toNat_natCast, if_pos h1, h2]
  exact decide_eq_true rfl
theorem shows_len (l : List (List Int)) (k : Nat) (hk : k < l.length) (r t : List Int) (p : List (List Int)) (h : p.length ≠ (besideF l k).length) : showsF r t k l.length p = false := by
  obtain ⟨h1, -⟩ := proof_shows l.length l k rfl hk
  unfold showsF
  split
  · rw [Int.toNat_natCast, Int.toNat_natCast, if_neg (by omega)]
  · rfl
end Go.Proofs.Ytbdnhoddkdiogaa
end
section
set_option linter.unusedSimpArgs false
set_option linter.unusedVariables false
namespace Go.Proofs.Ytbdnhoddkdiogaa
open Go.RowKit
theorem wf_texts {l : List (List Int)} (h : wfD (.sl (.sl (.i .u8))) l) (hf : fewF l = true) : textsOk l ∧ l.length ≤ 12 := by
  obtain ⟨h1, h2⟩ := fewF_spec hf
  exact ⟨fun t ht => ⟨wf_bytes (h.2 t ht), by have := h2 t ht; omega⟩, h1⟩
theorem wf_digest {d : List Int} (h : wfD (.ar 32 (.i .u8)) d) : digestOk d := ⟨fun x hx => wf_u8 (h.2 x hx), h.1⟩
theorem digestsOk_append {p q : List (List Int)} (hp : digestsOk p) (hq : digestsOk q) : digestsOk (p ++ q) := fun d hd => (List.mem_append.1 hd).elim (hp d) (hq d)
set_option maxRecDepth 100000 in
set_option maxHeartbeats 4000000 in
theorem K11 (l : (List (List Int))) (a : Int) (more : (List Int)) (w_l : wfD (.sl (.sl (.i .u8))) l) (w_a : wfD (.i .u8) a) (w_more : wfD (.ar 32 (.i .u8)) more) : CallOk Try.prog 11 [.c (.rs (.sl (.i .u8)) l), .c (ci .u8 a), .agg (.ty (.i .u8) more)] [] (.c (cb true)) [] := by
  have b_a := wf_u8 w_a
  have wm := wf_digest w_more
  have ll : l.length ≤ 9223372036854775807 := by
    have lm : l.length ≤ maxLen := Nat.le_trans w_l.1 (by decide)
    unfold maxLen at lm; exact lm
  cases hf : fewF l
  · skip
    have gok := (Gam.cons_ok E26_ok (Gam.cons_ok E27_ok (Gam.cons_ok E28_ok (Gam.cons_ok E29_ok (Gam.cons_ok E33_ok (Gam.nil_ok _))))))
    refine callOk' Try.func11 89 [.tmp 6] _ rfl rfl rfl (by kernel_rfl) (by simp) [] rfl rfl (by simp) ?_
    simp only [params]
    refine AWP.sR gok [0, 1, 5] (by apply aops_x (d := 5) (ag_n rfl) rfl (by first | (simp (disch := decide) only [hf, go_sem, seval] <;> rfl) | (simp (disch := first | decide | omega) only [if_pos, nws, hf, go_sem, seval] <;> rfl)) rfl; apply aops_x (d := 6) (ag_n rfl) rfl (by first | (simp (disch := decide) only [hf, go_sem, seval] <;> rfl) | (simp (disch := first | decide | omega) only [if_pos, nws, hf, go_sem, seval] <;> rfl)) rfl; apply aops_end; rfl) (by (simp (disch := omega) only [go_sem, seval, lay, nws]); rfl) ?_
    refine AWP.seq ?_
    refine AWP.sR gok [0, 1, 5, 22] (by apply aops_x (d := 11) (ag_n rfl) rfl (by (simp (disch := first | decide | omega) only [if_pos, nws, hf, go_sem, seval] <;> rfl)) rfl; apply aops_x (d := 12) (ag_n rfl) rfl (by first | (simp (disch := decide) only [hf, go_sem, seval] <;> rfl) | (simp (disch := first | decide | omega) only [if_pos, nws, hf, go_sem, seval] <;> rfl)) rfl; apply aops_mv (t := 12) (d := 13) (ag_n rfl) rfl rfl (by first | (simp only [look_lay, look, seval] <;> rfl) | fail) rfl; (first | apply aops_mv (t := 0) (d := 14) (ag_b (j := 2) (d := 13) rfl rfl rfl (by first | (simp only [look_lay, look, seval] <;> rfl) | fail) rfl) rfl rfl (by first | (simp only [look_lay, look, seval] <;> rfl) | fail) rfl | apply aops_ps (d := 14) (by first | exact ag_f (j := 2) (d := 13) rfl rfl rfl (by first | (simp only [look_lay, look, seval] <;> rfl) | fail) rfl | exact ag_u (j := 2) (d := 13) rfl rfl rfl (by first | (simp only [look_lay, look, seval] <;> rfl) | fail) | fail) rfl rfl); (first | apply aops_x (d := 15) (ag_b (j := 2) (d := 13) rfl rfl rfl (by first | (simp only [look_lay, look, seval] <;> rfl) | fail) rfl) rfl (by (simp (disch := first | decide | omega) only [if_pos, nws, hf, go_sem, seval] <;> rfl)) rfl | apply aops_ps (d := 15) (by first | exact ag_f (j := 2) (d := 13) rfl rfl rfl (by first | (simp only [look_lay, look, seval] <;> rfl) | fail) rfl | exact ag_u (j := 2) (d := 13) rfl rfl rfl (by first | (simp only [look_lay, look, seval] <;> rfl) | fail) | fail) rfl rfl); (first | apply aops_x (d := 16) (ag_b (j := 2) (d := 13) rfl rfl rfl (by first | (simp only [look_lay, look, seval] <;> rfl) | fail) rfl) rfl (by first | (simp (disch := decide) only [hf, go_sem, seval] <;> rfl) | (simp (disch := first | decide | omega) only [if_pos, nws, hf, go_sem, seval] <;> rfl)) rfl | apply aops_ps (d := 16) (by first | exact ag_f (j := 2) (d := 13) rfl rfl rfl (by first | (simp only [look_lay, look, seval] <;> rfl) | fail) rfl | exact ag_u (j := 2) (d := 13) rfl rfl rfl (by first | (simp only [look_lay, look, seval] <;> rfl) | fail) | fail) rfl rfl); apply aops_x (d := 17) (ag_n rfl) rfl (by first | (simp (disch := decide) only [hf, go_sem, seval] <;> rfl) | (simp (disch := first | decide | omega) only [if_pos, nws, hf, go_sem, seval] <;> rfl)) rfl; apply aops_mv (t := 17) (d := 18) (ag_n rfl) rfl rfl (by first | (simp only [look_lay, look, seval] <;> rfl) | fail) rfl; (first | apply aops_mv (t := 0) (d := 19) (ag_b (j := 7) (d := 18) rfl rfl rfl (by first | (simp only [look_lay, look, seval] <;> rfl) | fail) rfl) rfl rfl (by first | (simp only [look_lay, look, seval] <;> rfl) | fail) rfl | apply aops_ps (d := 19) (by first | exact ag_f (j := 7) (d := 18) rfl rfl rfl (by first | (simp only [look_lay, look, seval] <;> rfl) | fail) rfl | exact ag_u (j := 7) (d := 18) rfl rfl rfl (by first | (simp only [look_lay, look, seval] <;> rfl) | fail) | fail) rfl rfl); (first | apply aops_x (d := 20) (ag_b (j := 7) (d := 18) rfl rfl rfl (by first | (simp only [look_lay, look, seval] <;> rfl) | fail) rfl) rfl (by first | (simp (disch := decide) only [hf, go_sem, seval] <;> rfl) | (simp (disch := first | decide | omega) only [if_pos, nws, hf, go_sem, seval] <;> rfl)) rfl | apply aops_ps (d := 20) (by first | exact ag_f (j := 7) (d := 18) rfl rfl rfl (by first | (simp only [look_lay, look, seval] <;> rfl) | fail) rfl | exact ag_u (j := 7) (d := 18) rfl rfl rfl (by first | (simp only [look_lay, look, seval] <;> rfl) | fail) | fail) rfl rfl); (first | apply aops_x (d := 21) (ag_b (j := 7) (d := 18) rfl rfl rfl (by first | (simp only [look_lay, look, seval] <;> rfl) | fail) rfl) rfl (by first | (simp (disch := decide) only [hf, go_sem, seval] <;> rfl) | (simp (disch := first | decide | omega) only [if_pos, nws, hf, go_sem, seval] <;> rfl)) rfl | apply aops_ps (d := 21) (by first | exact ag_f (j := 7) (d := 18) rfl rfl rfl (by first | (simp only [look_lay, look, seval] <;> rfl) | fail) rfl | exact ag_u (j := 7) (d := 18) rfl rfl rfl (by first | (simp only [look_lay, look, seval] <;> rfl) | fail) | fail) rfl rfl); apply aops_x (d := 22) (ag_n rfl) rfl (by first | (simp (disch := decide) only [hf, go_sem, seval] <;> rfl) | (simp (disch := first | decide | omega) only [if_pos, nws, hf, go_sem, seval] <;> rfl)) rfl; apply aops_end; rfl) (by (simp (disch := omega) only [go_sem, seval, lay, nws]); rfl) ?_
    refine AWP.condT (b := _) rfl rfl ?_
    refine AWP.sR gok [6] (by apply aops_x (d := 23) (ag_n rfl) rfl (by (simp (disch := first | decide | omega) only [if_pos, nws, hf, go_sem, seval] <;> rfl)) rfl; apply aops_as (t := 23) (d := 6) (ag_n rfl) rfl rfl (by first | (simp only [look_lay, look, seval] <;> rfl) | fail) rfl; apply aops_end; rfl) (by (simp (disch := omega) only [go_sem, seval, lay, nws]); rfl) ?_
    refine AWP.ret ?_
    refine ⟨.inr rfl, _, (by simp only [go_sem, seval, hf] <;> rfl), ?_⟩
    simp only [go_sem, seval, hf, Option.some.injEq, AV.c.injEq, AV.agg.injEq, CV.v.injEq, Value.int.injEq, Value.bool.injEq, Row.raw.injEq, List.cons.injEq, CV.sl.injEq, and_true, true_and, and_self]
  · obtain ⟨tx, l12⟩ := wf_texts w_l hf
    by_cases h0 : l.length = 0
    · skip
      have gok := (Gam.cons_ok E26_ok (Gam.cons_ok E27_ok (Gam.cons_ok E28_ok (Gam.cons_ok E29_ok (Gam.cons_ok E33_ok (Gam.nil_ok _))))))
      refine callOk' Try.func11 89 [.tmp 6] _ rfl rfl rfl (by kernel_rfl) (by simp) [] rfl rfl (by simp) ?_
      simp only [params]
      refine AWP.sR gok [0, 1, 5] (by apply aops_x (d := 5) (ag_n rfl) rfl (by first | (simp (disch := decide) only [hf, h0, go_sem, seval] <;> rfl) | (simp (disch := first | decide | omega) only [if_pos, nws, hf, h0, go_sem, seval] <;> rfl)) rfl; apply aops_x (d := 6) (ag_n rfl) rfl (by first | (simp (disch := decide) only [hf, h0, go_sem, seval] <;> rfl) | (simp (disch := first | decide | omega) only [if_pos, nws, hf, h0, go_sem, seval] <;> rfl)) rfl; apply aops_end; rfl) (by (simp (disch := omega) only [go_sem, seval, lay, nws]); rfl) ?_
      refine AWP.seq ?_
      refine AWP.sR gok [0, 1, 5, 22] (by apply aops_x (d := 11) (ag_n rfl) rfl (by (simp (disch := first | decide | omega) only [if_pos, nws, hf, h0, go_sem, seval] <;> rfl)) rfl; apply aops_x (d := 12) (ag_n rfl) rfl (by first | (simp (disch := decide) only [hf, h0, go_sem, seval] <;> rfl) | (simp (disch := first | decide | omega) only [if_pos, nws, hf, h0, go_sem, seval] <;> rfl)) rfl; apply aops_mv (t := 12) (d := 13) (ag_n rfl) rfl rfl (by first | (simp only [look_lay, look, seval] <;> rfl) | fail) rfl; (first | apply aops_mv (t := 0) (d := 14) (ag_b (j := 2) (d := 13) rfl rfl rfl (by first | (simp only [look_lay, look, seval] <;> rfl) | fail) rfl) rfl rfl (by first | (simp only [look_lay, look, seval] <;> rfl) | fail) rfl | apply aops_ps (d := 14) (by first | exact ag_f (j := 2) (d := 13) rfl rfl rfl (by first | (simp only [look_lay, look, seval] <;> rfl) | fail) rfl | exact ag_u (j := 2) (d := 13) rfl rfl rfl (by first | (simp only [look_lay, look, seval] <;> rfl) | fail) | fail) rfl rfl); (first | apply aops_x (d := 15) (ag_b (j := 2) (d := 13) rfl rfl rfl (by first | (simp only [look_lay, look, seval] <;> rfl) | fail) rfl) rfl (by (simp (disch := first | decide | omega) only [if_pos, nws, hf, h0, go_sem, seval] <;> rfl)) rfl | apply aops_ps (d := 15) (by first | exact ag_f (j := 2) (d := 13) rfl rfl rfl (by first | (simp only [look_lay, look, seval] <;> rfl) | fail) rfl | exact ag_u (j := 2) (d := 13) rfl rfl rfl (by first | (simp only [look_lay, look, seval] <;> rfl) | fail) | fail) rfl rfl); (first | apply aops_x (d := 16) (ag_b (j := 2) (d := 13) rfl rfl rfl (by first | (simp only [look_lay, look, seval] <;> rfl) | fail) rfl) rfl (by first | (simp (disch := decide) only [hf, h0, go_sem, seval] <;> rfl) | (simp (disch := first | decide | omega) only [if_pos, nws, hf, h0, go_sem, seval] <;> rfl)) rfl | apply aops_ps (d := 16) (by first | exact ag_f (j := 2) (d := 13) rfl rfl rfl (by first | (simp only [look_lay, look, seval] <;> rfl) | fail) rfl | exact ag_u (j := 2) (d := 13) rfl rfl rfl (by first | (simp only [look_lay, look, seval] <;> rfl) | fail) | fail) rfl rfl); apply aops_x (d := 17) (ag_n rfl) rfl (by first | (simp (disch := decide) only [hf, h0, go_sem, seval] <;> rfl) | (simp (disch := first | decide | omega) only [if_pos, nws, hf, h0, go_sem, seval] <;> rfl)) rfl; apply aops_mv (t := 17) (d := 18) (ag_n rfl) rfl rfl (by first | (simp only [look_lay, look, seval] <;> rfl) | fail) rfl; (first | apply aops_mv (t := 0) (d := 19) (ag_b (j := 7) (d := 18) rfl rfl rfl (by first | (simp only [look_lay, look, seval] <;> rfl) | fail) rfl) rfl rfl (by first | (simp only [look_lay, look, seval] <;> rfl) | fail) rfl | apply aops_ps (d := 19) (by first | exact ag_f (j := 7) (d := 18) rfl rfl rfl (by first | (simp only [look_lay, look, seval] <;> rfl) | fail) rfl | exact ag_u (j := 7) (d := 18) rfl rfl rfl (by first | (simp only [look_lay, look, seval] <;> rfl) | fail) | fail) rfl rfl); (first | apply aops_x (d := 20) (ag_b (j := 7) (d := 18) rfl rfl rfl (by first | (simp only [look_lay, look, seval] <;> rfl) | fail) rfl) rfl (by first | (simp (disch := decide) only [hf, h0, go_sem, seval] <;> rfl) | (simp (disch := first | decide | omega) only [if_pos, nws, hf, h0, go_sem, seval] <;> rfl)) rfl | apply aops_ps (d := 20) (by first | exact ag_f (j := 7) (d := 18) rfl rfl rfl (by first | (simp only [look_lay, look, seval] <;> rfl) | fail) rfl | exact ag_u (j := 7) (d := 18) rfl rfl rfl (by first | (simp only [look_lay, look, seval] <;> rfl) | fail) | fail) rfl rfl); (first | apply aops_x (d := 21) (ag_b (j := 7) (d := 18) rfl rfl rfl (by first | (simp only [look_lay, look, seval] <;> rfl) | fail) rfl) rfl (by first | (simp (disch := decide) only [hf, h0, go_sem, seval] <;> rfl) | (simp (disch := first | decide | omega) only [if_pos, nws, hf, h0, go_sem, seval] <;> rfl)) rfl | apply aops_ps (d := 21) (by first | exact ag_f (j := 7) (d := 18) rfl rfl rfl (by first | (simp only [look_lay, look, seval] <;> rfl) | fail) rfl | exact ag_u (j := 7) (d := 18) rfl rfl rfl (by first | (simp only [look_lay, look, seval] <;> rfl) | fail) | fail) rfl rfl); apply aops_x (d := 22) (ag_n rfl) rfl (by first | (simp (disch := decide) only [hf, h0, go_sem, seval] <;> rfl) | (simp (disch := first | decide | omega) only [if_pos, nws, hf, h0, go_sem, seval] <;> rfl)) rfl; apply aops_end; rfl) (by (simp (disch := omega) only [go_sem, seval, lay, nws]); rfl) ?_
      refine AWP.condT (b := _) rfl rfl ?_
      refine AWP.sR gok [6] (by apply aops_x (d := 23) (ag_n rfl) rfl (by (simp (disch := first | decide | omega) only [if_pos, nws, hf, h0, go_sem, seval] <;> rfl)) rfl; apply aops_as (t := 23) (d := 6) (ag_n rfl) rfl rfl (by first | (simp only [look_lay, look, seval] <;> rfl) | fail) rfl; apply aops_end; rfl) (by (simp (disch := omega) only [go_sem, seval, lay, nws]); rfl) ?_
      refine AWP.ret ?_
      refine ⟨.inr rfl, _, (by simp only [go_sem, seval, hf, h0] <;> rfl), ?_⟩
      simp only [go_sem, seval, hf, h0, Option.some.injEq, AV.c.injEq, AV.agg.injEq, CV.v.injEq, Value.int.injEq, Value.bool.injEq, Row.raw.injEq, List.cons.injEq, CV.sl.injEq, and_true, true_and, and_self]
    · obtain ⟨k, hk⟩ : ∃ k : Nat, a % (l.length : Int) = (k : Int) := ⟨(a % (l.length : Int)).toNat, by have := Int.emod_nonneg a (show (l.length : Int) ≠ 0 by omega); omega⟩
      have hkl : k < l.length := by have := Int.emod_lt_of_pos a (show (0 : Int) < l.length by omega); omega
      obtain ⟨x, hx⟩ : ∃ x, l[k]? = some x := ⟨_, List.getElem?_eq_getElem hkl⟩
      obtain ⟨x1, x2⟩ := tx x (List.mem_of_getElem? hx)
      have gx : l.getD k [] = x := by rw [List.getD_eq_getElem?_getD, hx]; rfl
      have pf : proofF l (k : Int) = besideF l k := by unfold proofF; rw [if_pos (by omega), Int.toNat_natCast]
      have e5 : (if (0 : Int) ≤ (k : Int) ∧ (k : Int) < (l.length : Int) then (0 : Int) else 5) = 0 := if_pos (by omega)
      have bl := besideF_le l k
      have bo := besideF_ok l k
      have bm : digestsOk (besideF l k ++ [more]) := digestsOk_append bo (fun d hd => by rw [List.mem_singleton] at hd; subst hd; exact wm)
      have bml : (besideF l k ++ [more]).length = (besideF l k).length + 1 := by simp
      have bt : digestsOk ((besideF l k).take ((besideF l k).length - 1)) := fun d hd => bo d (List.mem_of_mem_take hd)
      have s1 := shows_true l k hkl (by omega)
      rw [gx] at s1
      have s2 : showsF (rootF l) x (k : Int) (l.length : Int) (besideF l k ++ [more]) = false := shows_len l k hkl _ _ _ (by simp)
      have ro : digestOk (rootF l) := ⟨rootF_ok l, rootF_len l⟩
      by_cases hp0 : (besideF l k).length = 0
      · skip
        have gok := (Gam.cons_ok E26_ok (Gam.cons_ok E27_ok (Gam.cons_ok E28_ok (Gam.cons_ok E29_ok (Gam.cons_ok E33_ok (Gam.nil_ok _))))))
        refine callOk' Try.func11 89 [.tmp 6] _ rfl rfl rfl (by kernel_rfl) (by simp) [] rfl rfl (by simp) ?_
        simp only [params]
        refine AWP.sR gok [0, 1, 5] (by apply aops_x (d := 5) (ag_n rfl) rfl (by first | (simp (disch := decide) only [hf, h0, hk, pf, e5, rootF_len, go_sem, seval] <;> rfl) | (simp (disch := first | decide | omega) only [if_pos, nws, hf, h0, hk, pf, e5, rootF_len, go_sem, seval] <;> rfl)) rfl; apply aops_x (d := 6) (ag_n rfl) rfl (by first | (simp (disch := decide) only [hf, h0, hk, pf, e5, rootF_len, go_sem, seval] <;> rfl) | (simp (disch := first | decide | omega) only [if_pos, nws, hf, h0, hk, pf, e5, rootF_len, go_sem, seval] <;> rfl)) rfl; apply aops_end; rfl) (by (simp (disch := omega) only [go_sem, seval, lay, nws]); rfl) ?_
        refine AWP.seq ?_
        refine AWP.sR gok [0, 1, 5, 22] (by apply aops_x (d := 11) (ag_n rfl) rfl (by (simp (disch := first | decide | omega) only [if_pos, nws, hf, h0, hk, pf, e5, rootF_len, go_sem, seval] <;> rfl)) rfl; apply aops_x (d := 12) (ag_n rfl) rfl (by first | (simp (disch := decide) only [hf, h0, hk, pf, e5, rootF_len, go_sem, seval] <;> rfl) | (simp (disch := first | decide | omega) only [if_pos, nws, hf, h0, hk, pf, e5, rootF_len, go_sem, seval] <;> rfl)) rfl; apply aops_mv (t := 12) (d := 13) (ag_n rfl) rfl rfl (by first | (simp only [look_lay, look, seval] <;> rfl) | fail) rfl; (first | apply aops_mv (t := 0) (d := 14) (ag_b (j := 2) (d := 13) rfl rfl rfl (by first | (simp only [look_lay, look, seval] <;> rfl) | fail) rfl) rfl rfl (by first | (simp only [look_lay, look, seval] <;> rfl) | fail) rfl | apply aops_ps (d := 14) (by first | exact ag_f (j := 2) (d := 13) rfl rfl rfl (by first | (simp only [look_lay, look, seval] <;> rfl) | fail) rfl | exact ag_u (j := 2) (d := 13) rfl rfl rfl (by first | (simp only [look_lay, look, seval] <;> rfl) | fail) | fail) rfl rfl); (first | apply aops_x (d := 15) (ag_b (j := 2) (d := 13) rfl rfl rfl (by first | (simp only [look_lay, look, seval] <;> rfl) | fail) rfl) rfl (by (simp (disch := first | decide | omega) only [if_pos, nws, hf, h0, hk, pf, e5, rootF_len, go_sem, seval] <;> rfl)) rfl | apply aops_ps (d := 15) (by first | exact ag_f (j := 2) (d := 13) rfl rfl rfl (by first | (simp only [look_lay, look, seval] <;> rfl) | fail) rfl | exact ag_u (j := 2) (d := 13) rfl rfl rfl (by first | (simp only [look_lay, look, seval] <;> rfl) | fail) | fail) rfl rfl); (first | apply aops_x (d := 16) (ag_b (j := 2) (d := 13) rfl rfl rfl (by first | (simp only [look_lay, look, seval] <;> rfl) | fail) rfl) rfl (by first | (simp (disch := decide) only [hf, h0, hk, pf, e5, rootF_len, go_sem, seval] <;> rfl) | (simp (disch := first | decide | omega) only [if_pos, nws, hf, h0, hk, pf, e5, rootF_len, go_sem, seval] <;> rfl)) rfl | apply aops_ps (d := 16) (by first | exact ag_f (j := 2) (d := 13) rfl rfl rfl (by first | (simp only [look_lay, look, seval] <;> rfl) | fail) rfl | exact ag_u (j := 2) (d := 13) rfl rfl rfl (by first | (simp only [look_lay, look, seval] <;> rfl) | fail) | fail) rfl rfl); apply aops_x (d := 17) (ag_n rfl) rfl (by first | (simp (disch := decide) only [hf, h0, hk, pf, e5, rootF_len, go_sem, seval] <;> rfl) | (simp (disch := first | decide | omega) only [if_pos, nws, hf, h0, hk, pf, e5, rootF_len, go_sem, seval] <;> rfl)) rfl; apply aops_mv (t := 17) (d := 18) (ag_n rfl) rfl rfl (by first | (simp only [look_lay, look, seval] <;> rfl) | fail) rfl; (first | apply aops_mv (t := 0) (d := 19) (ag_b (j := 7) (d := 18) rfl rfl rfl (by first | (simp only [look_lay, look, seval] <;> rfl) | fail) rfl) rfl rfl (by first | (simp only [look_lay, look, seval] <;> rfl) | fail) rfl | apply aops_ps (d := 19) (by first | exact ag_f (j := 7) (d := 18) rfl rfl rfl (by first | (simp only [look_lay, look, seval] <;> rfl) | fail) rfl | exact ag_u (j := 7) (d := 18) rfl rfl rfl (by first | (simp only [look_lay, look, seval] <;> rfl) | fail) | fail) rfl rfl); (first | apply aops_x (d := 20) (ag_b (j := 7) (d := 18) rfl rfl rfl (by first | (simp only [look_lay, look, seval] <;> rfl) | fail) rfl) rfl (by first | (simp (disch := decide) only [hf, h0, hk, pf, e5, rootF_len, go_sem, seval] <;> rfl) | (simp (disch := first | decide | omega) only [if_pos, nws, hf, h0, hk, pf, e5, rootF_len, go_sem, seval] <;> rfl)) rfl | apply aops_ps (d := 20) (by first | exact ag_f (j := 7) (d := 18) rfl rfl rfl (by first | (simp only [look_lay, look, seval] <;> rfl) | fail) rfl | exact ag_u (j := 7) (d := 18) rfl rfl rfl (by first | (simp only [look_lay, look, seval] <;> rfl) | fail) | fail) rfl rfl); (first | apply aops_x (d := 21) (ag_b (j := 7) (d := 18) rfl rfl rfl (by first | (simp only [look_lay, look, seval] <;> rfl) | fail) rfl) rfl (by first | (simp (disch := decide) only [hf, h0, hk, pf, e5, rootF_len, go_sem, seval] <;> rfl) | (simp (disch := first | decide | omega) only [if_pos, nws, hf, h0, hk, pf, e5, rootF_len, go_sem, seval] <;> rfl)) rfl | apply aops_ps (d := 21) (by first | exact ag_f (j := 7) (d := 18) rfl rfl rfl (by first | (simp only [look_lay, look, seval] <;> rfl) | fail) rfl | exact ag_u (j := 7) (d := 18) rfl rfl rfl (by first | (simp only [look_lay, look, seval] <;> rfl) | fail) | fail) rfl rfl); apply aops_x (d := 22) (ag_n rfl) rfl (by first | (simp (disch := decide) only [hf, h0, hk, pf, e5, rootF_len, go_sem, seval] <;> rfl) | (simp (disch := first | decide | omega) only [if_pos, nws, hf, h0, hk, pf, e5, rootF_len, go_sem, seval] <;> rfl)) rfl; apply aops_end; rfl) (by (simp (disch := omega) only [go_sem, seval, lay, nws]); rfl) ?_
        refine AWP.condF (b := _) rfl (by first | rfl | (simp only [decide_eq_true_eq, decide_eq_false_iff_not]; omega)) ?_
        refine AWP.skip ?_
        change AWP _ _ _ _ _
        refine AWP.sR gok [0, 5, 7] (by apply aops_mv (t := 1) (d := 24) (ag_n rfl) rfl rfl (by first | (simp only [look_lay, look, seval] <;> rfl) | fail) rfl; apply aops_x (d := 25) (ag_n rfl) rfl (by first | (simp (disch := decide) only [hf, h0, hk, pf, e5, rootF_len, go_sem, seval] <;> rfl) | (simp (disch := first | decide | omega) only [if_pos, nws, hf, h0, hk, pf, e5, rootF_len, go_sem, seval] <;> rfl)) rfl; apply aops_mv (t := 0) (d := 26) (ag_n rfl) rfl rfl (by first | (simp only [look_lay, look, seval] <;> rfl) | fail) rfl; apply aops_x (d := 27) (ag_n rfl) rfl (by first | (simp (disch := decide) only [hf, h0, hk, pf, e5, rootF_len, go_sem, seval] <;> rfl) | (simp (disch := first | decide | omega) only [if_pos, nws, hf, h0, hk, pf, e5, rootF_len, go_sem, seval] <;> rfl)) rfl; apply aops_x (d := 28) (ag_n rfl) rfl (by (simp (disch := first | decide | omega) only [if_pos, nws, hf, h0, hk, pf, e5, rootF_len, go_sem, seval] <;> rfl)) rfl; apply aops_as (t := 28) (d := 7) (ag_n rfl) rfl rfl (by first | (simp only [look_lay, look, seval] <;> rfl) | fail) rfl; apply aops_end; rfl) (by (simp (disch := omega) only [go_sem, seval, lay, nws]); rfl) ?_
        refine AWP.sR gok [0, 5, 7, 8] (by apply aops_mv (t := 0) (d := 29) (ag_n rfl) rfl rfl (by first | (simp only [look_lay, look, seval] <;> rfl) | fail) rfl; apply aops_x (d := 30) (ag_n rfl) rfl (by (simp (disch := first | decide | omega) only [if_pos, nws, hf, h0, hk, pf, e5, rootF_len, tx, go_sem, seval] <;> rfl)) rfl; apply aops_x (d := 8) (ag_n rfl) rfl (by first | (simp (disch := decide) only [hf, h0, hk, pf, e5, rootF_len, tx, go_sem, seval] <;> rfl) | (simp (disch := first | decide | omega) only [if_pos, nws, hf, h0, hk, pf, e5, rootF_len, tx, go_sem, seval] <;> rfl)) rfl; apply aops_s (ag_n rfl) rfl (by first | (simp (disch := decide) only [hf, h0, hk, pf, e5, rootF_len, tx, go_sem, seval] <;> rfl) | (simp (disch := first | decide | omega) only [if_pos, nws, hf, h0, hk, pf, e5, rootF_len, tx, go_sem, seval] <;> rfl)); apply aops_end; rfl) (by (simp (disch := omega) only [go_sem, seval, lay, nws]); rfl) ?_
        refine AWP.sR gok [0, 5, 7, 8, 9, 10] (by apply aops_mv (t := 0) (d := 32) (ag_n rfl) rfl rfl (by first | (simp only [look_lay, look, seval] <;> rfl) | fail) rfl; apply aops_mv (t := 7) (d := 33) (ag_n rfl) rfl rfl (by first | (simp only [look_lay, look, seval] <;> rfl) | fail) rfl; apply aops_x (d := 34) (ag_n rfl) rfl (by (simp (disch := first | decide | omega) only [if_pos, nws, hf, h0, hk, pf, e5, rootF_len, tx, go_sem, seval] <;> rfl)) rfl; apply aops_mv (t := 34) (d := 31) (ag_n rfl) rfl rfl (by first | (simp only [look_lay, look, seval] <;> rfl) | fail) rfl; apply aops_x (d := 35) (ag_n rfl) rfl (by first | (simp (disch := decide) only [hf, h0, hk, pf, e5, rootF_len, tx, go_sem, seval] <;> rfl) | (simp (disch := first | decide | omega) only [if_pos, nws, hf, h0, hk, pf, e5, rootF_len, tx, go_sem, seval] <;> rfl)) rfl; apply aops_x (d := 36) (ag_n rfl) rfl (by first | (simp (disch := decide) only [hf, h0, hk, pf, e5, rootF_len, tx, go_sem, seval] <;> rfl) | (simp (disch := first | decide | omega) only [if_pos, nws, hf, h0, hk, pf, e5, rootF_len, tx, go_sem, seval] <;> rfl)) rfl; apply aops_as (t := 35) (d := 9) (ag_n rfl) rfl rfl (by first | (simp only [look_lay, look, seval] <;> rfl) | fail) rfl; apply aops_as (t := 36) (d := 10) (ag_n rfl) rfl rfl (by first | (simp only [look_lay, look, seval] <;> rfl) | fail) rfl; apply aops_end; rfl) (by (simp (disch := omega) only [go_sem, seval, lay, nws]); rfl) ?_
        refine AWP.seq ?_
        refine AWP.sD gok (by kernel_rfl) [0, 7, 8, 9, 68] [⟨[], true, 0⟩, ⟨[], true, 0⟩, ⟨[], true, 0⟩, ⟨[1], true, 0⟩, ⟨[], true, 0⟩, ⟨[], true, 0⟩, ⟨[], true, 0⟩, ⟨[], true, 0⟩, ⟨[], true, 0⟩, ⟨[], true, 0⟩, ⟨[], true, 0⟩, ⟨[], true, 0⟩, ⟨[2], true, 0⟩, ⟨[], true, 0⟩, ⟨[], true, 0⟩, ⟨[], true, 0⟩, ⟨[1], true, 0⟩, ⟨[], true, 0⟩, ⟨[], true, 0⟩, ⟨[], true, 0⟩, ⟨[], true, 0⟩, ⟨[], true, 0⟩, ⟨[], true, 0⟩, ⟨[], true, 0⟩, ⟨[], true, 1⟩, ⟨[], true, 0⟩, ⟨[3, 2], false, 1⟩, ⟨[0], true, 0⟩, ⟨[], true, 1⟩, ⟨[4, 5], false, 1⟩, ⟨[6], true, 0⟩, ⟨[], true, 0⟩] (by kernel_rfl) (by first | rfl | simp only [go_sem, ↓reduceIte, Nat.reduceLT, Nat.reduceAdd]) (by first | rfl | simp only [go_sem, ↓reduceIte, Nat.reduceLT, Nat.reduceAdd]) (by (repeat (first | apply arun_step (by first | exact ag_n rfl | exact ag_b rfl rfl rfl (by first | (simp only [look_lay, look, seval] <;> rfl) | fail) (by first | rfl | (simp only [hf, h0, hk, pf, e5, rootF_len, hx, s1, s2, ro, x1, bo, bm, bml, wm.2, decide_true, decide_false] <;> rfl) | fail) | fail) (by first | (simp (disch := decide) only [hf, h0, hk, pf, e5, rootF_len, hx, s1, s2, ro, x1, bo, bm, bml, wm.2, go_sem, seval]; rfl) | (simp (disch := first | decide | omega) only [if_pos, nws, hf, h0, hk, pf, e5, rootF_len, hx, s1, s2, ro, x1, bo, bm, bml, wm.2, go_sem, seval]; rfl)) (by first | (intro h; cases h; done) | (intro _; rfl) | (intro _; simp only [go_sem, seval, lay])) (by first | rfl | simp only [go_sem, seval, lay]) (by first | rfl | simp only [go_sem, seval, lay]) (by first | rfl | simp only [go_sem, seval, lay]) (by simp only [go_sem, seval, lay]; rfl) | apply arun_pass (by first | exact ag_f rfl rfl rfl (by first | (simp only [look_lay, look, seval] <;> rfl) | fail) (by first | rfl | (simp only [hf, h0, hk, pf, e5, rootF_len, hx, s1, s2, ro, x1, bo, bm, bml, wm.2, decide_true, decide_false] <;> rfl) | fail) | exact ag_u rfl rfl rfl (by first | (simp only [look_lay, look, seval] <;> rfl) | fail) | fail) rfl (by simp only [go_sem, seval, lay]; rfl))); exact rfl) (by (simp (disch := omega) only [go_sem, seval, lay, nws]); rfl) ?_
        refine AWP.condF (b := _) rfl rfl ?_
        refine AWP.skip ?_
        change AWP _ _ _ _ _
        refine AWP.sD gok (by kernel_rfl) [6] [⟨[], true, 0⟩, ⟨[], true, 0⟩, ⟨[], true, 0⟩, ⟨[], true, 0⟩, ⟨[1], true, 0⟩, ⟨[], true, 0⟩, ⟨[], true, 0⟩, ⟨[], true, 0⟩, ⟨[], true, 0⟩, ⟨[], true, 0⟩, ⟨[], true, 0⟩, ⟨[], true, 0⟩, ⟨[], true, 0⟩, ⟨[], true, 0⟩, ⟨[], true, 0⟩, ⟨[], true, 0⟩, ⟨[], true, 0⟩, ⟨[2], true, 0⟩, ⟨[], true, 0⟩, ⟨[], true, 0⟩, ⟨[], true, 0⟩] (by kernel_rfl) (by first | rfl | simp only [go_sem, ↓reduceIte, Nat.reduceLT, Nat.reduceAdd]) (by first | rfl | simp only [go_sem, ↓reduceIte, Nat.reduceLT, Nat.reduceAdd]) (by (repeat (first | apply arun_step (by first | exact ag_n rfl | exact ag_b rfl rfl rfl (by first | (simp only [look_lay, look, seval] <;> rfl) | fail) (by first | rfl | (simp only [hf, h0, hk, pf, e5, rootF_len, hx, hp0, decide_true, decide_false] <;> rfl) | fail) | fail) (by first | (simp (disch := decide) only [hf, h0, hk, pf, e5, rootF_len, hx, hp0, go_sem, seval]; rfl) | (simp (disch := first | decide | omega) only [if_pos, nws, hf, h0, hk, pf, e5, rootF_len, hx, hp0, go_sem, seval]; rfl)) (by first | (intro h; cases h; done) | (intro _; rfl) | (intro _; simp only [go_sem, seval, lay])) (by first | rfl | simp only [go_sem, seval, lay]) (by first | rfl | simp only [go_sem, seval, lay]) (by first | rfl | simp only [go_sem, seval, lay]) (by simp only [go_sem, seval, lay]; rfl) | apply arun_pass (by first | exact ag_f rfl rfl rfl (by first | (simp only [look_lay, look, seval] <;> rfl) | fail) (by first | rfl | (simp only [hf, h0, hk, pf, e5, rootF_len, hx, hp0, decide_true, decide_false] <;> rfl) | fail) | exact ag_u rfl rfl rfl (by first | (simp only [look_lay, look, seval] <;> rfl) | fail) | fail) rfl (by simp only [go_sem, seval, lay]; rfl))); exact rfl) (by (simp (disch := omega) only [go_sem, seval, lay, nws]); rfl) ?_
        refine AWP.ret ?_
        refine ⟨.inr rfl, _, (by simp only [go_sem, seval, hf, h0, hk, pf, e5, rootF_len] <;> rfl), ?_⟩
        simp only [go_sem, seval, hf, h0, hk, pf, e5, rootF_len, Option.some.injEq, AV.c.injEq, AV.agg.injEq, CV.v.injEq, Value.int.injEq, Value.bool.injEq, Row.raw.injEq, List.cons.injEq, CV.sl.injEq, and_true, true_and, and_self]
      · have s3 : showsF (rootF l) x (k : Int) (l.length : Int) ((besideF l k).take ((besideF l k).length - 1)) = false := shows_len l k hkl _ _ _ (by rw [List.length_take]; omega)
        have hp1 : ¬ (((besideF l k).length : Int) = 0) := by omega
        have e7 : ¬ ((besideF l k).length - 1 = (besideF l k).length) := by omega
        have e6 : (((besideF l k).length : Int) - 1).toNat = (besideF l k).length - 1 := by omega
        have gok := (Gam.cons_ok E26_ok (Gam.cons_ok E27_ok (Gam.cons_ok E28_ok (Gam.cons_ok E29_ok (Gam.cons_ok E33_ok (Gam.nil_ok _))))))
        refine callOk' Try.func11 89 [.tmp 6] _ rfl rfl rfl (by kernel_rfl) (by simp) [] rfl rfl (by simp) ?_
        simp only [params]
        refine AWP.sR gok [0, 1, 5] (by apply aops_x (d := 5) (ag_n rfl) rfl (by first | (simp (disch := decide) only [hf, h0, hk, pf, e5, rootF_len, go_sem, seval] <;> rfl) | (simp (disch := first | decide | omega) only [if_pos, nws, hf, h0, hk, pf, e5, rootF_len, go_sem, seval] <;> rfl)) rfl; apply aops_x (d := 6) (ag_n rfl) rfl (by first | (simp (disch := decide) only [hf, h0, hk, pf, e5, rootF_len, go_sem, seval] <;> rfl) | (simp (disch := first | decide | omega) only [if_pos, nws, hf, h0, hk, pf, e5, rootF_len, go_sem, seval] <;> rfl)) rfl; apply aops_end; rfl) (by (simp (disch := omega) only [go_sem, seval, lay, nws]); rfl) ?_
        refine AWP.seq ?_
        refine AWP.sR gok [0, 1, 5, 22] (by apply aops_x (d := 11) (ag_n rfl) rfl (by (simp (disch := first | decide | omega) only [if_pos, nws, hf, h0, hk, pf, e5, rootF_len, go_sem, seval] <;> rfl)) rfl; apply aops_x (d := 12) (ag_n rfl) rfl (by first | (simp (disch := decide) only [hf, h0, hk, pf, e5, rootF_len, go_sem, seval] <;> rfl) | (simp (disch := first | decide | omega) only [if_pos, nws, hf, h0, hk, pf, e5, rootF_len, go_sem, seval] <;> rfl)) rfl; apply aops_mv (t := 12) (d := 13) (ag_n rfl) rfl rfl (by first | (simp only [look_lay, look, seval] <;> rfl) | fail) rfl; (first | apply aops_mv (t := 0) (d := 14) (ag_b (j := 2) (d := 13) rfl rfl rfl (by first | (simp only [look_lay, look, seval] <;> rfl) | fail) rfl) rfl rfl (by first | (simp only [look_lay, look, seval] <;> rfl) | fail) rfl | apply aops_ps (d := 14) (by first | exact ag_f (j := 2) (d := 13) rfl rfl rfl (by first | (simp only [look_lay, look, seval] <;> rfl) | fail) rfl | exact ag_u (j := 2) (d := 13) rfl rfl rfl (by first | (simp only [look_lay, look, seval] <;> rfl) | fail) | fail) rfl rfl); (first | apply aops_x (d := 15) (ag_b (j := 2) (d := 13) rfl rfl rfl (by first | (simp only [look_lay, look, seval] <;> rfl) | fail) rfl) rfl (by (simp (disch := first | decide | omega) only [if_pos, nws, hf, h0, hk, pf, e5, rootF_len, go_sem, seval] <;> rfl)) rfl | apply aops_ps (d := 15) (by first | exact ag_f (j := 2) (d := 13) rfl rfl rfl (by first | (simp only [look_lay, look, seval] <;> rfl) | fail) rfl | exact ag_u (j := 2) (d := 13) rfl rfl rfl (by first | (simp only [look_lay, look, seval] <;> rfl) | fail) | fail) rfl rfl); (first | apply aops_x (d := 16) (ag_b (j := 2) (d := 13) rfl rfl rfl (by first | (simp only [look_lay, look, seval] <;> rfl) | fail) rfl) rfl (by first | (simp (disch := decide) only [hf, h0, hk, pf, e5, rootF_len, go_sem, seval] <;> rfl) | (simp (disch := first | decide | omega) only [if_pos, nws, hf, h0, hk, pf, e5, rootF_len, go_sem, seval] <;> rfl)) rfl | apply aops_ps (d := 16) (by first | exact ag_f (j := 2) (d := 13) rfl rfl rfl (by first | (simp only [look_lay, look, seval] <;> rfl) | fail) rfl | exact ag_u (j := 2) (d := 13) rfl rfl rfl (by first | (simp only [look_lay, look, seval] <;> rfl) | fail) | fail) rfl rfl); apply aops_x (d := 17) (ag_n rfl) rfl (by first | (simp (disch := decide) only [hf, h0, hk, pf, e5, rootF_len, go_sem, seval] <;> rfl) | (simp (disch := first | decide | omega) only [if_pos, nws, hf, h0, hk, pf, e5, rootF_len, go_sem, seval] <;> rfl)) rfl; apply aops_mv (t := 17) (d := 18) (ag_n rfl) rfl rfl (by first | (simp only [look_lay, look, seval] <;> rfl) | fail) rfl; (first | apply aops_mv (t := 0) (d := 19) (ag_b (j := 7) (d := 18) rfl rfl rfl (by first | (simp only [look_lay, look, seval] <;> rfl) | fail) rfl) rfl rfl (by first | (simp only [look_lay, look, seval] <;> rfl) | fail) rfl | apply aops_ps (d := 19) (by first | exact ag_f (j := 7) (d := 18) rfl rfl rfl (by first | (simp only [look_lay, look, seval] <;> rfl) | fail) rfl | exact ag_u (j := 7) (d := 18) rfl rfl rfl (by first | (simp only [look_lay, look, seval] <;> rfl) | fail) | fail) rfl rfl); (first | apply aops_x (d := 20) (ag_b (j := 7) (d := 18) rfl rfl rfl (by first | (simp only [look_lay, look, seval] <;> rfl) | fail) rfl) rfl (by first | (simp (disch := decide) only [hf, h0, hk, pf, e5, rootF_len, go_sem, seval] <;> rfl) | (simp (disch := first | decide | omega) only [if_pos, nws, hf, h0, hk, pf, e5, rootF_len, go_sem, seval] <;> rfl)) rfl | apply aops_ps (d := 20) (by first | exact ag_f (j := 7) (d := 18) rfl rfl rfl (by first | (simp only [look_lay, look, seval] <;> rfl) | fail) rfl | exact ag_u (j := 7) (d := 18) rfl rfl rfl (by first | (simp only [look_lay, look, seval] <;> rfl) | fail) | fail) rfl rfl); (first | apply aops_x (d := 21) (ag_b (j := 7) (d := 18) rfl rfl rfl (by first | (simp only [look_lay, look, seval] <;> rfl) | fail) rfl) rfl (by first | (simp (disch := decide) only [hf, h0, hk, pf, e5, rootF_len, go_sem, seval] <;> rfl) | (simp (disch := first | decide | omega) only [if_pos, nws, hf, h0, hk, pf, e5, rootF_len, go_sem, seval] <;> rfl)) rfl | apply aops_ps (d := 21) (by first | exact ag_f (j := 7) (d := 18) rfl rfl rfl (by first | (simp only [look_lay, look, seval] <;> rfl) | fail) rfl | exact ag_u (j := 7) (d := 18) rfl rfl rfl (by first | (simp only [look_lay, look, seval] <;> rfl) | fail) | fail) rfl rfl); apply aops_x (d := 22) (ag_n rfl) rfl (by first | (simp (disch := decide) only [hf, h0, hk, pf, e5, rootF_len, go_sem, seval] <;> rfl) | (simp (disch := first | decide | omega) only [if_pos, nws, hf, h0, hk, pf, e5, rootF_len, go_sem, seval] <;> rfl)) rfl; apply aops_end; rfl) (by (simp (disch := omega) only [go_sem, seval, lay, nws]); rfl) ?_
        refine AWP.condF (b := _) rfl (by first | rfl | (simp only [decide_eq_true_eq, decide_eq_false_iff_not]; omega)) ?_
        refine AWP.skip ?_
        change AWP _ _ _ _ _
        refine AWP.sR gok [0, 5, 7] (by apply aops_mv (t := 1) (d := 24) (ag_n rfl) rfl rfl (by first | (simp only [look_lay, look, seval] <;> rfl) | fail) rfl; apply aops_x (d := 25) (ag_n rfl) rfl (by first | (simp (disch := decide) only [hf, h0, hk, pf, e5, rootF_len, go_sem, seval] <;> rfl) | (simp (disch := first | decide | omega) only [if_pos, nws, hf, h0, hk, pf, e5, rootF_len, go_sem, seval] <;> rfl)) rfl; apply aops_mv (t := 0) (d := 26) (ag_n rfl) rfl rfl (by first | (simp only [look_lay, look, seval] <;> rfl) | fail) rfl; apply aops_x (d := 27) (ag_n rfl) rfl (by first | (simp (disch := decide) only [hf, h0, hk, pf, e5, rootF_len, go_sem, seval] <;> rfl) | (simp (disch := first | decide | omega) only [if_pos, nws, hf, h0, hk, pf, e5, rootF_len, go_sem, seval] <;> rfl)) rfl; apply aops_x (d := 28) (ag_n rfl) rfl (by (simp (disch := first | decide | omega) only [if_pos, nws, hf, h0, hk, pf, e5, rootF_len, go_sem, seval] <;> rfl)) rfl; apply aops_as (t := 28) (d := 7) (ag_n rfl) rfl rfl (by first | (simp only [look_lay, look, seval] <;> rfl) | fail) rfl; apply aops_end; rfl) (by (simp (disch := omega) only [go_sem, seval, lay, nws]); rfl) ?_
        refine AWP.sR gok [0, 5, 7, 8] (by apply aops_mv (t := 0) (d := 29) (ag_n rfl) rfl rfl (by first | (simp only [look_lay, look, seval] <;> rfl) | fail) rfl; apply aops_x (d := 30) (ag_n rfl) rfl (by (simp (disch := first | decide | omega) only [if_pos, nws, hf, h0, hk, pf, e5, rootF_len, tx, go_sem, seval] <;> rfl)) rfl; apply aops_x (d := 8) (ag_n rfl) rfl (by first | (simp (disch := decide) only [hf, h0, hk, pf, e5, rootF_len, tx, go_sem, seval] <;> rfl) | (simp (disch := first | decide | omega) only [if_pos, nws, hf, h0, hk, pf, e5, rootF_len, tx, go_sem, seval] <;> rfl)) rfl; apply aops_s (ag_n rfl) rfl (by first | (simp (disch := decide) only [hf, h0, hk, pf, e5, rootF_len, tx, go_sem, seval] <;> rfl) | (simp (disch := first | decide | omega) only [if_pos, nws, hf, h0, hk, pf, e5, rootF_len, tx, go_sem, seval] <;> rfl)); apply aops_end; rfl) (by (simp (disch := omega) only [go_sem, seval, lay, nws]); rfl) ?_
        refine AWP.sR gok [0, 5, 7, 8, 9, 10] (by apply aops_mv (t := 0) (d := 32) (ag_n rfl) rfl rfl (by first | (simp only [look_lay, look, seval] <;> rfl) | fail) rfl; apply aops_mv (t := 7) (d := 33) (ag_n rfl) rfl rfl (by first | (simp only [look_lay, look, seval] <;> rfl) | fail) rfl; apply aops_x (d := 34) (ag_n rfl) rfl (by (simp (disch := first | decide | omega) only [if_pos, nws, hf, h0, hk, pf, e5, rootF_len, tx, go_sem, seval] <;> rfl)) rfl; apply aops_mv (t := 34) (d := 31) (ag_n rfl) rfl rfl (by first | (simp only [look_lay, look, seval] <;> rfl) | fail) rfl; apply aops_x (d := 35) (ag_n rfl) rfl (by first | (simp (disch := decide) only [hf, h0, hk, pf, e5, rootF_len, tx, go_sem, seval] <;> rfl) | (simp (disch := first | decide | omega) only [if_pos, nws, hf, h0, hk, pf, e5, rootF_len, tx, go_sem, seval] <;> rfl)) rfl; apply aops_x (d := 36) (ag_n rfl) rfl (by first | (simp (disch := decide) only [hf, h0, hk, pf, e5, rootF_len, tx, go_sem, seval] <;> rfl) | (simp (disch := first | decide | omega) only [if_pos, nws, hf, h0, hk, pf, e5, rootF_len, tx, go_sem, seval] <;> rfl)) rfl; apply aops_as (t := 35) (d := 9) (ag_n rfl) rfl rfl (by first | (simp only [look_lay, look, seval] <;> rfl) | fail) rfl; apply aops_as (t := 36) (d := 10) (ag_n rfl) rfl rfl (by first | (simp only [look_lay, look, seval] <;> rfl) | fail) rfl; apply aops_end; rfl) (by (simp (disch := omega) only [go_sem, seval, lay, nws]); rfl) ?_
        refine AWP.seq ?_
        refine AWP.sD gok (by kernel_rfl) [0, 7, 8, 9, 68] [⟨[], true, 0⟩, ⟨[], true, 0⟩, ⟨[], true, 0⟩, ⟨[1], true, 0⟩, ⟨[], true, 0⟩, ⟨[], true, 0⟩, ⟨[], true, 0⟩, ⟨[], true, 0⟩, ⟨[], true, 0⟩, ⟨[], true, 0⟩, ⟨[], true, 0⟩, ⟨[], true, 0⟩, ⟨[2], true, 0⟩, ⟨[], true, 0⟩, ⟨[], true, 0⟩, ⟨[], true, 0⟩, ⟨[1], true, 0⟩, ⟨[], true, 0⟩, ⟨[], true, 0⟩, ⟨[], true, 0⟩, ⟨[], true, 0⟩, ⟨[], true, 0⟩, ⟨[], true, 0⟩, ⟨[], true, 0⟩, ⟨[], true, 1⟩, ⟨[], true, 0⟩, ⟨[3, 2], false, 1⟩, ⟨[0], true, 0⟩, ⟨[], true, 1⟩, ⟨[4, 5], false, 1⟩, ⟨[6], true, 0⟩, ⟨[], true, 0⟩] (by kernel_rfl) (by first | rfl | simp only [go_sem, ↓reduceIte, Nat.reduceLT, Nat.reduceAdd]) (by first | rfl | simp only [go_sem, ↓reduceIte, Nat.reduceLT, Nat.reduceAdd]) (by (repeat (first | apply arun_step (by first | exact ag_n rfl | exact ag_b rfl rfl rfl (by first | (simp only [look_lay, look, seval] <;> rfl) | fail) (by first | rfl | (simp only [hf, h0, hk, pf, e5, rootF_len, hx, s1, s2, ro, x1, bo, bm, bml, wm.2, decide_true, decide_false] <;> rfl) | fail) | fail) (by first | (simp (disch := decide) only [hf, h0, hk, pf, e5, rootF_len, hx, s1, s2, ro, x1, bo, bm, bml, wm.2, go_sem, seval]; rfl) | (simp (disch := first | decide | omega) only [if_pos, nws, hf, h0, hk, pf, e5, rootF_len, hx, s1, s2, ro, x1, bo, bm, bml, wm.2, go_sem, seval]; rfl)) (by first | (intro h; cases h; done) | (intro _; rfl) | (intro _; simp only [go_sem, seval, lay])) (by first | rfl | simp only [go_sem, seval, lay]) (by first | rfl | simp only [go_sem, seval, lay]) (by first | rfl | simp only [go_sem, seval, lay]) (by simp only [go_sem, seval, lay]; rfl) | apply arun_pass (by first | exact ag_f rfl rfl rfl (by first | (simp only [look_lay, look, seval] <;> rfl) | fail) (by first | rfl | (simp only [hf, h0, hk, pf, e5, rootF_len, hx, s1, s2, ro, x1, bo, bm, bml, wm.2, decide_true, decide_false] <;> rfl) | fail) | exact ag_u rfl rfl rfl (by first | (simp only [look_lay, look, seval] <;> rfl) | fail) | fail) rfl (by simp only [go_sem, seval, lay]; rfl))); exact rfl) (by (simp (disch := omega) only [go_sem, seval, lay, nws]); rfl) ?_
        refine AWP.condF (b := _) rfl rfl ?_
        refine AWP.skip ?_
        change AWP _ _ _ _ _
        refine AWP.sD gok (by kernel_rfl) [6] [⟨[], true, 0⟩, ⟨[], true, 0⟩, ⟨[], true, 0⟩, ⟨[], true, 0⟩, ⟨[1], true, 0⟩, ⟨[], true, 0⟩, ⟨[], true, 0⟩, ⟨[], true, 0⟩, ⟨[], true, 0⟩, ⟨[], true, 0⟩, ⟨[], true, 0⟩, ⟨[], true, 0⟩, ⟨[], true, 0⟩, ⟨[], true, 0⟩, ⟨[], true, 0⟩, ⟨[], true, 0⟩, ⟨[], true, 0⟩, ⟨[2], true, 0⟩, ⟨[], true, 0⟩, ⟨[], true, 0⟩, ⟨[], true, 0⟩] (by kernel_rfl) (by first | rfl | simp only [go_sem, ↓reduceIte, Nat.reduceLT, Nat.reduceAdd]) (by first | rfl | simp only [go_sem, ↓reduceIte, Nat.reduceLT, Nat.reduceAdd]) (by (repeat (first | apply arun_step (by first | exact ag_n rfl | exact ag_b rfl rfl rfl (by first | (simp only [look_lay, look, seval] <;> rfl) | fail) (by first | rfl | (simp only [hf, h0, hk, pf, e5, rootF_len, hx, hp1, s3, ro, x1, bt, e6, e7, Nat.sub_zero, decide_true, decide_false] <;> rfl) | fail) | fail) (by first | (simp (disch := decide) only [hf, h0, hk, pf, e5, rootF_len, hx, hp1, s3, ro, x1, bt, e6, e7, Nat.sub_zero, go_sem, seval]; rfl) | (simp (disch := first | decide | omega) only [if_pos, nws, hf, h0, hk, pf, e5, rootF_len, hx, hp1, s3, ro, x1, bt, e6, e7, Nat.sub_zero, go_sem, seval]; rfl)) (by first | (intro h; cases h; done) | (intro _; rfl) | (intro _; simp only [go_sem, seval, lay])) (by first | rfl | simp only [go_sem, seval, lay]) (by first | rfl | simp only [go_sem, seval, lay]) (by first | rfl | simp only [go_sem, seval, lay]) (by simp only [go_sem, seval, lay]; rfl) | apply arun_pass (by first | exact ag_f rfl rfl rfl (by first | (simp only [look_lay, look, seval] <;> rfl) | fail) (by first | rfl | (simp only [hf, h0, hk, pf, e5, rootF_len, hx, hp1, s3, ro, x1, bt, e6, e7, Nat.sub_zero, decide_true, decide_false] <;> rfl) | fail) | exact ag_u rfl rfl rfl (by first | (simp only [look_lay, look, seval] <;> rfl) | fail) | fail) rfl (by simp only [go_sem, seval, lay]; rfl))); exact rfl) (by (simp (disch := omega) only [go_sem, seval, lay, nws]); rfl) ?_
        refine AWP.ret ?_
        refine ⟨.inr rfl, _, (by simp only [go_sem, seval, hf, h0, hk, pf, e5, rootF_len] <;> rfl), ?_⟩
        simp only [go_sem, seval, hf, h0, hk, pf, e5, rootF_len, Option.some.injEq, AV.c.injEq, AV.agg.injEq, CV.v.injEq, Value.int.injEq, Value.bool.injEq, Row.raw.injEq, List.cons.injEq, CV.sl.injEq, and_true, true_and, and_self]
end Go.Proofs.Ytbdnhoddkdiogaa
end
