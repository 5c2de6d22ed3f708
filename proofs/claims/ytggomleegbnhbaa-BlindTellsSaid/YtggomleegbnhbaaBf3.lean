import Derived.Test.YtggomleegbnhbaaBlb
set_option linter.unusedSimpArgs false
set_option linter.unusedVariables false
namespace Go.Proofs.Ytggomleegbnhbaa
open Go.RowKit
/-! Who is known: few, each once. -/
theorem set_get (s : List Bool) (i j : Nat) (h : (s.set i true)[j]?.getD false = true) : j = i ∨ s[j]?.getD false = true := by
  by_cases e : i = j
  · exact .inl e.symm
  · rw [List.getElem?_set_ne e] at h; exact .inr h
theorem set_keep (s : List Bool) (i j : Nat) (h : s[j]?.getD false = true) : (s.set i true)[j]?.getD false = true := by
  by_cases e : i = j
  · subst e
    by_cases hl : i < s.length
    · rw [List.getElem?_set_self hl]; rfl
    · rw [List.getElem?_eq_none (by omega)] at h; cases h
  · rw [List.getElem?_set_ne e]; exact h
theorem fwF_cons (x : Int) (l : List Int) (has : List Bool) (out : List Int) (k : Int) : fwF (x :: l) has out k = if has[x.toNat % 10]?.getD false = false ∧ (out.length : Int) + 1 < k then fwF l (has.set (x.toNat % 10) true) (out ++ [((x.toNat % 10 : Nat) : Int)]) k else fwF l has out k := rfl
theorem fw_inv : ∀ (who : List Int) (has : List Bool) (out : List Int) (k : Int), has.length = 10 → out.Nodup → (∀ v ∈ out, 0 ≤ v ∧ v < 10 ∧ has[v.toNat]?.getD false = true) → (out.length : Int) < k →
    (fwF who has out k).Nodup ∧ (∀ v ∈ fwF who has out k, 0 ≤ v ∧ v < 10) ∧ ((fwF who has out k).length : Int) < k
  | [], has, out, k, _, h1, h2, h3 => ⟨h1, fun v hv => ⟨(h2 v hv).1, (h2 v hv).2.1⟩, h3⟩
  | x :: l, has, out, k, h0, h1, h2, h3 => by
    rw [fwF_cons]
    by_cases hc : has[x.toNat % 10]?.getD false = false ∧ (out.length : Int) + 1 < k
    · rw [if_pos hc]
      refine fw_inv l _ _ k (by rw [List.length_set]; exact h0) ?_ ?_ ?_
      · refine List.pairwise_append.2 ⟨h1, List.pairwise_singleton _ _, fun a ha b hb e => ?_⟩
        rw [List.mem_singleton.1 hb] at e
        have := (h2 a ha).2.2
        rw [e, Int.toNat_natCast, hc.1] at this
        cases this
      · intro v hv
        rcases List.mem_append.1 hv with hv | hv
        · exact ⟨(h2 v hv).1, (h2 v hv).2.1, set_keep _ _ _ (h2 v hv).2.2⟩
        · rw [List.mem_singleton.1 hv]
          exact ⟨by omega, by omega, by rw [Int.toNat_natCast, List.getElem?_set_self (by omega)]; rfl⟩
      · simp only [List.length_append, List.length_cons, List.length_nil]; omega
    · rw [if_neg hc]
      exact fw_inv l has out k h0 h1 h2 h3
theorem few_ok (who : List Int) {k : Int} (hk : 1 ≤ k) : (fewF who k).Nodup ∧ (∀ v ∈ fewF who k, 0 ≤ v ∧ v < 10) ∧ ((fewF who k).length : Int) < k :=
  fw_inv who _ [] k List.length_replicate List.Pairwise.nil (fun v hv => (List.not_mem_nil hv).elim) (by simp only [List.length_nil]; omega)
theorem tuF_go : ∀ (l : List Int) (s : List Bool) (q : List (Int × Int)), s.length = 200 → l.Nodup → (∀ w ∈ l, 0 ≤ w ∧ w < 200 ∧ s[w.toNat]?.getD false = false) → tuF l s q = some (q ++ l.map (fun w => (w + 1, 0)))
  | [], s, q, _, _, _ => by simp [tuF]
  | w :: l, s, q, hs, hn, hw => by
    obtain ⟨n1, n2⟩ := List.nodup_cons.1 hn
    obtain ⟨w1, w2, w3⟩ := hw w List.mem_cons_self
    have hb : badF s w = false := by unfold badF; rw [if_neg (by omega), if_neg (by omega)]; exact w3
    show (if badF s w = true then none else tuF l (s.set w.toNat true) (q ++ [(w + 1, 0)])) = _
    rw [hb, if_neg (by decide), tuF_go l _ _ (by rw [List.length_set]; exact hs) n2 fun v hv => ?_]
    · rw [List.append_assoc]; rfl
    · obtain ⟨v1, v2, v3⟩ := hw v (List.mem_cons_of_mem _ hv)
      refine ⟨v1, v2, ?_⟩
      rw [List.getElem?_set_ne]
      · exact v3
      · intro e
        have : w = v := by omega
        exact n1 (this ▸ hv)
theorem twF_go : ∀ (l : List (Int × Int)) (s : List Bool), ptsOk l → (l.map (·.1)).Nodup → (∀ p ∈ l, s[p.1.toNat]?.getD false = false) → twF l s = false
  | [], _, _, _, _ => rfl
  | p :: l, s, ho, hn, hp => by
    obtain ⟨n1, n2⟩ := List.nodup_cons.1 hn
    show (if s[p.1.toNat]?.getD false = true then true else twF l (s.set p.1.toNat true)) = false
    rw [hp p List.mem_cons_self, if_neg (by decide)]
    refine twF_go l _ (fun q hq => ho q (List.mem_cons_of_mem _ hq)) n2 fun q hq => ?_
    rw [List.getElem?_set_ne]
    · exact hp q (List.mem_cons_of_mem _ hq)
    · intro e
      have h1 := (ho p List.mem_cons_self).1.1
      have h2 := (ho q (List.mem_cons_of_mem _ hq)).1.1
      have : q.1 = p.1 := by omega
      exact n1 (List.mem_map.2 ⟨q, hq, this⟩)
theorem turn_good {who : List Int} (hn : who.Nodup) (hw : ∀ w ∈ who, 0 ≤ w ∧ w < 200) : turnErr who = 0 := by
  have e : turnPts who = some ([(0, 1)] ++ who.map (fun w => (w + 1, 0))) := tuF_go who _ _ List.length_replicate hn fun w h => ⟨(hw w h).1, (hw w h).2, by
    have := hw w h
    rw [List.getElem?_replicate]; split <;> rfl⟩
  have h2 : twiceF ([(0, 1)] ++ who.map (fun w => (w + 1, 0))) = false := by
    refine twF_go _ _ (fun p hp => ?_) ?_ fun p hp => by rw [List.getElem?_replicate]; split <;> rfl
    · rcases List.mem_append.1 hp with hp | hp
      · rw [List.mem_singleton.1 hp]; exact ⟨ok0, ok1⟩
      · obtain ⟨w, hw1, rfl⟩ := List.mem_map.1 hp
        have := hw w hw1
        exact ⟨⟨by simp only; omega, by simp only; omega⟩, ok0⟩
    · rw [List.map_append, List.map_map]
      refine List.pairwise_append.2 ⟨List.pairwise_singleton _ _, List.pairwise_map.2 (hn.imp fun {a b} h e => h (by simp only [Function.comp] at e; omega)), fun a ha b hb e => ?_⟩
      obtain ⟨w, hw1, rfl⟩ := List.mem_map.1 hb
      have := hw w hw1
      have ha : a = 0 := List.mem_singleton.1 ha
      rw [ha] at e
      simp only [Function.comp] at e
      omega
  unfold turnErr
  rw [e]
  show (if twiceF _ = true then 1 else 0) = (0 : Int)
  rw [h2, if_neg (by decide)]
/-! What remapping adds. -/
def dS (t : List Int) (d : Int) (a : Nat) : Nat → Nat → Int
  | 0, _ => 0
  | n + 1, p => if p = a + n then bx (dS t d a n p) (mulT (t[n + 1]?.getD 0) d) else dS t d a n p
def dN (t sec oth : List Int) (k : Nat) : Nat → Nat → Int
  | 0, _ => 0
  | i + 1, p => bx (dN t sec oth k i p) (dS t (bx (sec[i]?.getD 0) (oth[i]?.getD 0)) (i * k) (t.length - 1) p)
theorem dS_ok {t : List Int} {d : Int} {a : Nat} (ht : bytesOk t) (hd : byteOk d) : ∀ n p, byteOk (dS t d a n p)
  | 0, _ => ok0
  | n + 1, p => by
    unfold dS; split
    · exact bx_ok (dS_ok ht hd n p) (mulT_ok (gd_ok ht _) hd)
    · exact dS_ok ht hd n p
theorem dN_ok {t sec oth : List Int} {k : Nat} (ht : bytesOk t) (hs : bytesOk sec) (ho : bytesOk oth) : ∀ n p, byteOk (dN t sec oth k n p)
  | 0, _ => ok0
  | n + 1, p => bx_ok (dN_ok ht hs ho n p) (dS_ok ht (bx_ok (gd_ok hs _) (gd_ok ho _)) _ _)
theorem remS_ok {t : List Int} {d : Int} {a : Nat} {out : List Int} (ht : bytesOk t) (hd : byteOk d) (ho : bytesOk out) : ∀ n, bytesOk (remS t d a out n)
  | 0 => ho
  | n + 1 => set_ok (remS_ok ht hd ho n) (bx_ok (gd_ok (remS_ok ht hd ho n) _) (mulT_ok (gd_ok ht _) hd)) _
theorem remN_ok {t sec oth cs : List Int} {k : Nat} (ht : bytesOk t) (hs : bytesOk sec) (ho : bytesOk oth) (hc : bytesOk cs) : ∀ n, bytesOk (remN t sec oth cs k n)
  | 0 => hc
  | n + 1 => remS_ok ht (bx_ok (gd_ok hs _) (gd_ok ho _)) (remN_ok ht hs ho hc n) _
theorem remS_at {t : List Int} {d : Int} {a : Nat} {out : List Int} (ht : bytesOk t) (hd : byteOk d) (ho : bytesOk out) {p : Nat} (hp : p < out.length) : ∀ n, (remS t d a out n)[p]?.getD 0 = bx (out[p]?.getD 0) (dS t d a n p)
  | 0 => (bx_zero (gd_ok ho p)).symm
  | n + 1 => by
    have ih := remS_at ht hd ho hp (a := a) n
    have hl := remS_len t d a out n
    unfold remS dS
    by_cases e : p = a + n
    · subst e
      rw [List.getElem?_set_self (by rw [hl]; exact hp), if_pos rfl, Option.getD_some, ih, bx_assoc (gd_ok ho _) (dS_ok ht hd _ _) (mulT_ok (gd_ok ht _) hd)]
    · rw [List.getElem?_set_ne (fun h => e h.symm), if_neg e, ih]
theorem remN_at {t sec oth cs : List Int} {k : Nat} (ht : bytesOk t) (hs : bytesOk sec) (ho : bytesOk oth) (hc : bytesOk cs) {p : Nat} (hp : p < cs.length) : ∀ n, (remN t sec oth cs k n)[p]?.getD 0 = bx (cs[p]?.getD 0) (dN t sec oth k n p)
  | 0 => (bx_zero (gd_ok hc p)).symm
  | n + 1 => by
    have hd := bx_ok (gd_ok hs n) (gd_ok ho n)
    unfold remN dN
    rw [remS_at ht hd (remN_ok ht hs ho hc n) (by rw [remN_len]; exact hp), remN_at ht hs ho hc hp n, bx_assoc (gd_ok hc _) (dN_ok ht hs ho _ _) (dS_ok ht hd _ _)]
theorem dN_symm {t sec oth : List Int} {k : Nat} (hs : bytesOk sec) (ho : bytesOk oth) : ∀ n p, dN t sec oth k n p = dN t oth sec k n p
  | 0, _ => rfl
  | n + 1, p => by unfold dN; rw [dN_symm hs ho n p, bx_comm (gd_ok hs n) (gd_ok ho n)]
theorem dS_zero {t : List Int} {a : Nat} : ∀ n p, dS t 0 a n p = 0
  | 0, _ => rfl
  | n + 1, p => by
    unfold dS; rw [dS_zero n p, mulT_zero]; split <;> rfl
theorem dN_same {t sec : List Int} {k : Nat} (hs : bytesOk sec) : ∀ n p, dN t sec sec k n p = 0
  | 0, _ => rfl
  | n + 1, p => by unfold dN; rw [dN_same hs n p, bx_self (gd_ok hs n), dS_zero]; rfl
theorem ext_getD {a b : List Int} (h : a.length = b.length) (hp : ∀ p, p < a.length → a[p]?.getD 0 = b[p]?.getD 0) : a = b := by
  apply List.ext_getElem h
  intro p h1 h2
  have := hp p h1
  rwa [List.getElem?_eq_getElem h1, List.getElem?_eq_getElem h2] at this
theorem rem_back {t sec oth cs : List Int} {k n : Nat} (ht : bytesOk t) (hs : bytesOk sec) (ho : bytesOk oth) (hc : bytesOk cs) : remN t oth sec (remN t sec oth cs k n) k n = cs := by
  refine ext_getD (by rw [remN_len, remN_len]) fun p hp => ?_
  rw [remN_len, remN_len] at hp
  rw [remN_at ht ho hs (remN_ok ht hs ho hc n) (by rw [remN_len]; exact hp), remN_at ht hs ho hc hp, dN_symm ho hs, bx_cancel (gd_ok hc p) (dN_ok ht hs ho _ _)]
theorem rem_same {t sec cs : List Int} {k n : Nat} (ht : bytesOk t) (hs : bytesOk sec) (hc : bytesOk cs) : remN t sec sec cs k n = cs := by
  refine ext_getD (by rw [remN_len]) fun p hp => ?_
  rw [remN_len] at hp
  rw [remN_at ht hs hs hc hp, dN_same hs, bx_zero (gd_ok hc p)]
end Go.Proofs.Ytggomleegbnhbaa
