import Derived.Test.YtcnoooodnmjdmaaOde
set_option linter.unusedSimpArgs false
set_option linter.unusedVariables false
namespace Go.Proofs.Ytcnoooodnmjdmaa
open Go.RowKit Sorts
/-! In which order heads stand plays no part. -/
theorem up_unique {α : Type} {lt : α → α → Bool} : ∀ {l r : List α}, l.Perm r → Up lt l → Up lt r → (∀ a ∈ l, ∀ b ∈ l, lt a b = false → lt b a = false → a = b) → l = r
  | [], r, hp, _, _, _ => (List.Perm.nil_eq hp)
  | x :: l, [], hp, _, _, _ => absurd hp.length_eq (by simp)
  | x :: l, y :: r, hp, hl, hr, ht => by
    have hx := List.pairwise_cons.1 hl
    have hy := List.pairwise_cons.1 hr
    have e : x = y := by
      have h1 : x ∈ y :: r := hp.mem_iff.1 (by simp)
      have h2 : y ∈ x :: l := hp.mem_iff.2 (by simp)
      rcases List.mem_cons.1 h1 with h1 | h1
      · exact h1
      · rcases List.mem_cons.1 h2 with h2 | h2
        · exact h2.symm
        · exact ht x (by simp) y (by simp [h2]) (hy.1 x h1) (hx.1 y h2)
    subst e
    rw [up_unique (hp.cons_inv) hx.2 hy.2 fun a ha b hb => ht a (by simp [ha]) b (by simp [hb])]
theorem iota_at (n i : Nat) : (iota n)[i]? = if i < n then some (i : Int) else none := by
  unfold iota
  rw [List.getElem?_map]
  by_cases h : i < n
  · rw [if_pos h, List.getElem?_range h]; rfl
  · rw [if_neg h, List.getElem?_eq_none (by simp; omega)]; rfl
def tau (n : Nat) (a : Int) : Int := (n : Int) - 1 - a
theorem iota_tau (n : Nat) : (iota n).map (tau n) = (iota n).reverse := by
  refine List.ext_getElem? fun i => ?_
  rw [List.getElem?_map, iota_at]
  by_cases h : i < n
  · rw [if_pos h, List.getElem?_reverse (by rw [iota_len]; exact h), iota_len, iota_at, if_pos (by omega)]
    simp only [Option.map_some, tau]; congr 1; omega
  · rw [if_neg h, List.getElem?_eq_none (by rw [List.length_reverse, iota_len]; omega)]; rfl
/-- Heads, each with its place as its number. -/
def ownF (l : List Hd) : List Hd := l.mapIdx fun i h => (h.1, h.2.1, h.2.2.1, h.2.2.2.1, (i : Int), h.2.2.2.2.2)
theorem own_len (l : List Hd) : (ownF l).length = l.length := by simp [ownF]
theorem own_at {l : List Hd} {i : Nat} {h : Hd} (hi : l[i]? = some h) : (ownF l)[i]? = some (h.1, h.2.1, h.2.2.1, h.2.2.2.1, (i : Int), h.2.2.2.2.2) := by unfold ownF; rw [List.getElem?_mapIdx, hi]; rfl
theorem tau_in {hs : List Hd} {a : Int} (h : inH hs a) : inH hs (tau hs.length a) := by obtain ⟨h1, h2⟩ := h; unfold tau; exact ⟨by omega, by omega⟩
theorem back_at {hs : List Hd} {a : Int} (h : inH hs a) : hAt hs.reverse (tau hs.length a) = hAt hs a := by
  obtain ⟨h1, h2⟩ := h
  unfold hAt tau
  rw [List.getElem?_reverse (by omega)]
  congr 2; omega
theorem own_num {l : List Hd} {a : Int} (h : inH (ownF l) a) : (hAt (ownF l) a).2.2.2.2.1 = a := by
  obtain ⟨h1, h2⟩ := h
  rw [own_len] at h2
  unfold hAt
  rw [own_at (List.getElem?_eq_getElem (show a.toNat < l.length by omega))]
  show (a.toNat : Int) = a
  omega
theorem ahead_total {x y : Hd} (h1 : aheadF x y = false) (h2 : aheadF y x = false) : x.2.2.2.2.1 = y.2.2.2.2.1 := by
  have n1 : ¬ aheadF x y = true := by simp [h1]
  have n2 : ¬ aheadF y x = true := by simp [h2]
  rw [ahead_iff] at n1 n2
  omega
theorem rev_in {hs : List Hd} {a : Int} : inH hs.reverse a ↔ inH hs a := by unfold inH; rw [List.length_reverse]
theorem lt_tau {hs : List Hd} {a b : Int} (ha : inH hs a) (hb : inH hs b) : ltH hs.reverse (tau hs.length a) (tau hs.length b) = ltH hs a b := by unfold ltH; rw [back_at ha, back_at hb]
theorem sorted_back (l : List Hd) : sorted (ownF l).reverse = (sorted (ownF l)).map (tau (ownF l).length) := by
  generalize hhs : ownF l = hs
  have hw := ltH_weak hs.reverse
  have hin : ∀ x ∈ sorted hs, inH hs x := fun x hx => iota_in hs x (sortF_mem.1 hx)
  refine up_unique ?_ (sortF_up hw _) ?_ fun a ha b hb h1 h2 => ?_
  · unfold sorted
    rw [List.length_reverse]
    refine (sortF_perm _).trans ?_
    have h1 := ((sortF_perm (lt := ltH hs) (iota hs.length)).map (tau hs.length)).symm
    rw [iota_tau] at h1
    exact (List.reverse_perm _).symm.trans h1
  · refine List.pairwise_map.2 ((sortF_up (ltH_weak hs) (iota hs.length)).imp_of_mem fun {a b} ha hb h => ?_)
    rw [lt_tau (hin b hb) (hin a ha)]; exact h
  · have ha1 : inH hs.reverse a := iota_in hs.reverse a (sortF_mem.1 ha)
    have hb1 : inH hs.reverse b := iota_in hs.reverse b (sortF_mem.1 hb)
    have e1 : ∀ {x : Int}, inH hs x → tau hs.length (tau hs.length x) = x := fun {x} _ => by unfold tau; omega
    have ha2 := rev_in.1 ha1
    have hb2 := rev_in.1 hb1
    have t1 := lt_tau (tau_in ha2) (tau_in hb2)
    have t2 := lt_tau (tau_in hb2) (tau_in ha2)
    rw [e1 ha2, e1 hb2] at t1 t2
    rw [t1] at h1
    rw [t2] at h2
    have h3 := ahead_total h1 h2
    subst hhs
    rw [own_num (tau_in ha2), own_num (tau_in hb2)] at h3
    unfold tau at h3; omega
/-- The states of both. -/
def Turn (n : Nat) (S T : Sq) : Prop := S.1 = T.1 ∧ S.2.1 = T.2.1 ∧ S.2.2.length = n ∧ T.2.2.length = n ∧ ∀ i, i < n → T.2.2[n - 1 - i]? = S.2.2[i]?
theorem may_turn {hs : List Hd} {S T : Sq} (h : Turn hs.length S T) {a : Int} (ha : inH hs a) : mayF hs.reverse T (tau hs.length a) = mayF hs S a := by
  obtain ⟨h1, h2, h3, h4, h5⟩ := h
  unfold mayF
  have ht := tau_in ha
  have hr : inH hs.reverse (tau hs.length a) := rev_in.2 ht
  obtain ⟨a0, a1⟩ := ha
  have hc : T.2.2[(tau hs.length a).toNat]? = S.2.2[a.toNat]? := by
    have := h5 a.toNat (by omega)
    rw [← this]; congr 1; unfold tau; omega
  refine decide_eq_decide.2 ?_
  unfold mayP
  rw [back_at ⟨a0, a1⟩, hc, ← h1, ← h2]
  simp only [hr, show inH hs a from ⟨a0, a1⟩]
theorem come_turn {hs : List Hd} {S T : Sq} (h : Turn hs.length S T) {a : Int} (ha : inH hs a) : Turn hs.length (comeF hs S a) (comeF hs.reverse T (tau hs.length a)) := by
  obtain ⟨h1, h2, h3, h4, h5⟩ := h
  obtain ⟨a0, a1⟩ := id ha
  unfold comeF
  rw [back_at ha, ← h1, ← h2]
  refine ⟨rfl, rfl, by simp [h3], by simp [h4], fun i hi => ?_⟩
  simp only
  rw [List.getElem?_set, List.getElem?_set]
  by_cases e : a.toNat = i
  · rw [if_pos e, if_pos (by unfold tau; omega), if_pos (by unfold tau; omega), if_pos (by omega)]
  · rw [if_neg e, if_neg (by unfold tau; omega)]
    exact h5 i hi
theorem pick_turn (hs : List Hd) (ps : List Int) (hin : ∀ x ∈ ps, inH hs x) : ∀ (f : Nat) (S T : Sq), Turn hs.length S T → pickN hs.reverse (ps.map (tau hs.length)) f T = (pickN hs ps f S).map (tau hs.length)
  | 0, S, T, h => rfl
  | f + 1, S, T, h => by
    have hf : (ps.map (tau hs.length)).find? (fun a => mayF hs.reverse T a) = (ps.find? (fun a => mayF hs S a)).map (tau hs.length) := by
      rw [List.find?_map]
      congr 1
      have : ∀ qs : List Int, (∀ x ∈ qs, inH hs x) → qs.find? ((fun a => mayF hs.reverse T a) ∘ tau hs.length) = qs.find? (fun a => mayF hs S a) := fun qs => by
        induction qs with
        | nil => intro _; rfl
        | cons x qs ih =>
          intro hq
          rw [List.find?_cons, List.find?_cons, ih fun y hy => hq y (by simp [hy])]
          simp only [Function.comp, may_turn h (hq x (by simp))]
      exact this ps hin
    rw [pickN, hf, pickN]
    cases hc : ps.find? (fun a => mayF hs S a) with
    | none => rfl
    | some a =>
      have ha := hin a (List.mem_of_find?_eq_some hc)
      show tau hs.length a :: pickN hs.reverse (ps.map (tau hs.length)) f (comeF hs.reverse T (tau hs.length a)) = tau hs.length a :: (pickN hs ps f (comeF hs S a)).map (tau hs.length)
      rw [pick_turn hs ps hin f _ _ (come_turn h ha)]
theorem picks_turn (l : List Hd) (ns : List Int) (room : Int) : pickF (ownF l).reverse ns room = (pickF (ownF l) ns room).map (tau l.length) := by
  have hin : ∀ x ∈ sorted (ownF l), inH (ownF l) x := fun x hx => iota_in _ x (sortF_mem.1 hx)
  unfold pickF
  rw [sorted_back, List.length_reverse, pick_turn (ownF l) _ hin _ (S0 (ownF l) ns room), own_len]
  refine ⟨rfl, rfl, by simp, by simp, fun i hi => ?_⟩
  simp only [S0, List.length_reverse, List.getElem?_replicate]
  rw [if_pos hi, if_pos (by omega)]
end Go.Proofs.Ytcnoooodnmjdmaa
