import Derived.Test.YtggomleegbnhbaaBf1
set_option linter.unusedSimpArgs false
set_option linter.unusedVariables false
namespace Go.Proofs.Ytggomleegbnhbaa
open Go.RowKit
/-! What polynomials come to. -/
def powT (r : Int) : Nat → Int
  | 0 => 1
  | k + 1 => mulT (powT r k) r
theorem powT_ok {r : Int} (hr : byteOk r) : ∀ k, byteOk (powT r k)
  | 0 => ok1
  | k + 1 => mulT_ok (powT_ok hr k) hr
theorem powT_add {r : Int} (hr : byteOk r) (i : Nat) : ∀ n, powT r (i + n) = mulT (powT r n) (powT r i)
  | 0 => (one_mulT (powT_ok hr i)).symm
  | n + 1 => by
    show mulT (powT r (i + n)) r = mulT (mulT (powT r n) r) (powT r i)
    rw [powT_add hr i n, mulT_assoc (powT_ok hr n) (powT_ok hr i) hr, mulT_comm (powT_ok hr i) hr, mulT_assoc (powT_ok hr n) hr (powT_ok hr i)]
theorem bx_swap {a b c : Int} (ha : byteOk a) (hb : byteOk b) (hc : byteOk c) : bx (bx a b) c = bx (bx a c) b := by
  rw [bx_assoc ha hb hc, bx_assoc ha hc hb, bx_comm hb hc]
theorem eval_cons (c : Int) (a : List Int) (r : Int) : evalF (c :: a) r = bx (mulT (evalF a r) r) c := rfl
theorem tl_ok {c : Int} {a : List Int} (h : bytesOk (c :: a)) : bytesOk a := fun y hy => h y (List.mem_cons_of_mem _ hy)
theorem hd_ok {c : Int} {a : List Int} (h : bytesOk (c :: a)) : byteOk c := h c List.mem_cons_self
theorem eval_set {r v : Int} (hr : byteOk r) (hv : byteOk v) : ∀ {l : List Int} (k : Nat), bytesOk l → k < l.length → evalF (l.set k (bx (l[k]?.getD 0) v)) r = bx (evalF l r) (mulT v (powT r k))
  | [], _, _, hk => by simp at hk
  | c :: a, 0, hl, _ => by
    show bx (mulT (evalF a r) r) (bx c v) = bx (bx (mulT (evalF a r) r) c) (mulT v 1)
    rw [mulT_one hv, bx_assoc (mulT_ok (evalF_ok hr (tl_ok hl)) hr) (hd_ok hl) hv]
  | c :: a, k + 1, hl, hk => by
    have he := evalF_ok hr (tl_ok hl)
    show bx (mulT (evalF (a.set k (bx (a[k]?.getD 0) v)) r) r) c = bx (bx (mulT (evalF a r) r) c) (mulT v (mulT (powT r k) r))
    rw [eval_set hr hv k (tl_ok hl) (by simpa using hk), bx_mulT he (mulT_ok hv (powT_ok hr k)) hr, mulT_assoc hv (powT_ok hr k) hr,
      bx_swap (mulT_ok he hr) (mulT_ok hv (mulT_ok (powT_ok hr k) hr)) (hd_ok hl)]
theorem trimF_cons (x : Int) (l : List Int) : trimF (x :: l) = if trimF l = [] then (if x = 0 then [] else [x]) else x :: trimF l := rfl
theorem eval_trim {r : Int} (hr : byteOk r) : ∀ {l : List Int}, bytesOk l → evalF (trimF l) r = evalF l r
  | [], _ => rfl
  | x :: l, h => by
    have ih := eval_trim hr (tl_ok h)
    have hx := hd_ok h
    rw [trimF_cons]
    by_cases h1 : trimF l = []
    · rw [if_pos h1]
      rw [h1] at ih
      have ih : 0 = evalF l r := ih
      rw [eval_cons, ← ih, zero_mulT, zero_bx hx]
      split
      · rename_i e; rw [e]; rfl
      · rw [eval_cons]; show bx (mulT 0 r) x = x; rw [zero_mulT, zero_bx hx]
    · rw [if_neg h1, eval_cons, eval_cons, ih]
theorem eval_zeros (r : Int) : ∀ n, evalF (List.replicate n 0) r = 0
  | 0 => rfl
  | n + 1 => by
    rw [List.replicate_succ, eval_cons, eval_zeros r n, zero_mulT]; rfl
def sumF (b : List Int) (r : Int) : Nat → Int
  | 0 => 0
  | n + 1 => bx (sumF b r n) (mulT (b[n]?.getD 0) (powT r n))
theorem sumF_ok {b : List Int} {r : Int} (hb : bytesOk b) (hr : byteOk r) : ∀ n, byteOk (sumF b r n)
  | 0 => ok0
  | n + 1 => bx_ok (sumF_ok hb hr n) (mulT_ok (gd_ok hb n) (powT_ok hr n))
theorem sumF_cons {c r : Int} {a : List Int} (hr : byteOk r) (h : bytesOk (c :: a)) : ∀ n, sumF (c :: a) r (n + 1) = bx (mulT (sumF a r n) r) c
  | 0 => by
    show bx 0 (mulT c 1) = bx (mulT 0 r) c
    rw [mulT_one (hd_ok h), zero_mulT]
  | n + 1 => by
    have hs := sumF_ok (tl_ok h) hr n
    have hg := gd_ok (tl_ok h) n
    have hp := powT_ok hr n
    show bx (sumF (c :: a) r (n + 1)) (mulT (a[n]?.getD 0) (mulT (powT r n) r)) = bx (mulT (bx (sumF a r n) (mulT (a[n]?.getD 0) (powT r n))) r) c
    rw [sumF_cons hr h n, bx_mulT hs (mulT_ok hg hp) hr, mulT_assoc hg hp hr, bx_swap (mulT_ok hs hr) (hd_ok h) (mulT_ok hg (mulT_ok hp hr))]
theorem sumF_all {r : Int} (hr : byteOk r) : ∀ {b : List Int}, bytesOk b → sumF b r b.length = evalF b r
  | [], _ => rfl
  | c :: a, h => by rw [List.length_cons, sumF_cons hr h, sumF_all hr (tl_ok h)]; rfl
theorem eval_mulStep {x r : Int} {b out : List Int} {i : Nat} (hx : byteOk x) (hr : byteOk r) (hb : bytesOk b) (ho : bytesOk out) : ∀ n, i + n ≤ out.length → evalF (mulStep x b i out n) r = bx (evalF out r) (mulT (mulT x (sumF b r n)) (powT r i))
  | 0, _ => by
    show evalF out r = bx (evalF out r) (mulT (mulT x 0) (powT r i))
    rw [mulT_zero, zero_mulT, bx_zero (evalF_ok hr ho)]
  | n + 1, h => by
    have hg := gd_ok hb n
    have hp := powT_ok hr n
    have hi := powT_ok hr i
    have hs := sumF_ok hb hr n
    have e : mulT (mulT x (b[n]?.getD 0)) (powT r (i + n)) = mulT (mulT x (mulT (b[n]?.getD 0) (powT r n))) (powT r i) := by
      rw [powT_add hr, mulT_assoc hx hg (mulT_ok hp hi), ← mulT_assoc hg hp hi, ← mulT_assoc hx (mulT_ok hg hp) hi]
    rw [mulStep, eval_set hr (mulT_ok hx hg) _ (mulStep_ok hx hb ho n) (by rw [mulStep_len]; omega), eval_mulStep hx hr hb ho n (by omega), e]
    show _ = bx (evalF out r) (mulT (mulT x (bx (sumF b r n) (mulT (b[n]?.getD 0) (powT r n)))) (powT r i))
    rw [mulT_bx hx hs (mulT_ok hg hp), bx_mulT (mulT_ok hx hs) (mulT_ok hx (mulT_ok hg hp)) hi, bx_assoc (evalF_ok hr ho) (mulT_ok (mulT_ok hx hs) hi) (mulT_ok (mulT_ok hx (mulT_ok hg hp)) hi)]
theorem eval_mulM {r : Int} {a b : List Int} (hr : byteOk r) (ha : bytesOk a) (hb : bytesOk b) : ∀ i, i ≤ a.length → evalF (mulM a b i) r = mulT (sumF a r i) (evalF b r)
  | 0, _ => by
    show evalF (List.replicate _ 0) r = mulT 0 _
    rw [eval_zeros, zero_mulT]
  | i + 1, h => by
    have hg := gd_ok ha i
    have hp := powT_ok hr i
    have hs := sumF_ok ha hr i
    have he := evalF_ok hr hb
    rw [mulM, eval_mulStep hg hr hb (mulM_ok ha hb i) _ (by rw [mulM_len]; omega), eval_mulM hr ha hb i (by omega), sumF_all hr hb]
    show _ = mulT (bx (sumF a r i) (mulT (a[i]?.getD 0) (powT r i))) (evalF b r)
    rw [bx_mulT hs (mulT_ok hg hp) he, mulT_assoc hg he hp, mulT_comm he hp, ← mulT_assoc hg hp he]
theorem eval_mulP {r : Int} {a b : List Int} (hr : byteOk r) (ha : bytesOk a) (hb : bytesOk b) : evalF (mulP a b) r = mulT (evalF a r) (evalF b r) := by
  unfold mulP
  rw [eval_trim hr (mulM_ok ha hb _), eval_mulM hr ha hb _ (Nat.le_refl _), sumF_all hr ha]
theorem eval_sealN {r : Int} {t p : List Int} (hr : byteOk r) (ht : bytesOk t) (hp : bytesOk p) : ∀ n, n ≤ t.length → evalF (sealN t p n) r = bx (evalF t r) (sumF p r n)
  | 0, _ => (bx_zero (evalF_ok hr ht)).symm
  | n + 1, h => by
    rw [sealN, eval_set hr (gd_ok hp n) _ (sealN_ok' ht hp n) (by rw [sealN_len]; omega), eval_sealN hr ht hp n (by omega)]
    exact bx_assoc (evalF_ok hr ht) (sumF_ok hp hr n) (mulT_ok (gd_ok hp n) (powT_ok hr n))
theorem eval_addP {r : Int} {a b : List Int} (hr : byteOk r) (ha : bytesOk a) (hb : bytesOk b) : evalF (addP a b) r = bx (evalF a r) (evalF b r) := by
  unfold addP
  split
  · rw [eval_trim hr (sealN_ok' hb ha _), eval_sealN hr hb ha _ (by omega), sumF_all hr ha, bx_comm (evalF_ok hr hb) (evalF_ok hr ha)]
  · rw [eval_trim hr (sealN_ok' ha hb _), eval_sealN hr ha hb _ (by omega), sumF_all hr hb]
/-! Through points. -/
theorem eval_one {r c : Int} (hc : byteOk c) : evalF [c] r = c := by show bx (mulT 0 r) c = c; rw [zero_mulT, zero_bx hc]
theorem eval_lin {r x : Int} (hr : byteOk r) : evalF [x, 1] r = bx r x := by
  show bx (mulT (bx (mulT 0 r) 1) r) x = _
  rw [zero_mulT, zero_bx ok1, one_mulT hr]
def ptX (l : List (Int × Int)) (i : Nat) : Int := (l[i]?.getD (0, 0)).1
def ptY (l : List (Int × Int)) (i : Nat) : Int := (l[i]?.getD (0, 0)).2
theorem ptX_ok {l : List (Int × Int)} (h : ptsOk l) (i : Nat) : byteOk (ptX l i) := (ptAt_ok h i).1
theorem ptY_ok {l : List (Int × Int)} (h : ptsOk l) (i : Nat) : byteOk (ptY l i) := (ptAt_ok h i).2
theorem node_succ {l : List (Int × Int)} (h : ptsOk l) {r : Int} (hr : byteOk r) (i : Nat) : evalF (thN l (i + 1)).2 r = mulT (evalF (thN l i).2 r) (bx r (ptX l i)) := by
  show evalF (mulP _ _) r = _
  rw [eval_mulP hr (thN_ok h i).2 (two_ok (ptAt_ok h i).1 ok1), eval_lin hr]; rfl
theorem node_zero {l : List (Int × Int)} (h : ptsOk l) : ∀ i j, j < i → evalF (thN l i).2 (ptX l j) = 0
  | i + 1, j, hj => by
    rw [node_succ h (ptX_ok h j)]
    by_cases e : j = i
    · subst e; rw [bx_self (ptX_ok h j), mulT_zero]
    · rw [node_zero h i j (by omega), zero_mulT]
theorem node_ne {l : List (Int × Int)} (h : ptsOk l) {r : Int} (hr : byteOk r) : ∀ i, (∀ j, j < i → ptX l j ≠ r) → evalF (thN l i).2 r ≠ 0
  | 0, _ => by
    show evalF [1] r ≠ 0
    rw [eval_one ok1]; decide
  | i + 1, hn => by
    rw [node_succ h hr]
    exact mulT_ne (evalF_ok hr (thN_ok h i).2) (bx_ok hr (ptAt_ok h i).1) (node_ne h hr i fun j hj => hn j (by omega)) (fun e => hn i (by omega) (bx_eq_zero hr (ptAt_ok h i).1 e).symm)
theorem thru_at {l : List (Int × Int)} (h : ptsOk l) (nd : ∀ i j, i < l.length → j < i → ptX l j ≠ ptX l i) : ∀ i, i ≤ l.length → ∀ j, j < i → evalF (thN l i).1 (ptX l j) = ptY l j
  | i + 1, hi, j, hj => by
    have hx := ptX_ok h j
    have o := thN_ok h i
    have oi := ptAt_ok h i
    have cOk := divT_ok (bx_ok oi.2 (evalF_ok oi.1 o.1)) (evalF_ok oi.1 o.2)
    show evalF (addP (thN l i).1 (mulP (thN l i).2 [_])) (ptX l j) = _
    rw [eval_addP hx o.1 (mulP_ok o.2 (one_ok cOk)), eval_mulP hx o.2 (one_ok cOk), eval_one cOk]
    by_cases e : j = i
    · subst e
      have hne := node_ne h hx j fun k hk => nd j k (by omega) hk
      show bx (evalF (thN l j).1 (ptX l j)) (mulT (evalF (thN l j).2 (ptX l j)) (divT (bx (ptY l j) (evalF (thN l j).1 (ptX l j))) (evalF (thN l j).2 (ptX l j)))) = _
      rw [mulT_div (bx_ok (ptY_ok h j) (evalF_ok hx o.1)) (evalF_ok hx o.2) hne, bx_comm (evalF_ok hx o.1) (bx_ok (ptY_ok h j) (evalF_ok hx o.1))]
      exact bx_cancel (ptY_ok h j) (evalF_ok hx o.1)
    · rw [node_zero h i j (by omega), zero_mulT, thru_at h nd i (by omega) j (by omega), bx_zero (ptY_ok h j)]
/-! Twice. -/
theorem twF_false : ∀ (l : List (Int × Int)) (s : List Bool), s.length = 256 → ptsOk l → twF l s = false → (∀ p ∈ l, s[p.1.toNat]?.getD false = false) ∧ ∀ i j, i < l.length → j < i → ptX l j ≠ ptX l i
  | [], s, _, _, _ => ⟨fun p hp => (List.not_mem_nil hp).elim, fun i j hi _ => (Nat.not_lt_zero _ hi).elim⟩
  | p :: l, s, hs, ho, h => by
    have h : (if s[p.1.toNat]?.getD false = true then true else twF l (s.set p.1.toNat true)) = false := h
    by_cases h1 : s[p.1.toNat]?.getD false = true
    · rw [if_pos h1] at h; cases h
    rw [if_neg h1] at h
    have po := ho p List.mem_cons_self
    have pl : p.1.toNat < s.length := by have := po.1.1; have := po.1.2; omega
    obtain ⟨g1, g2⟩ := twF_false l _ (by rw [List.length_set]; exact hs) (fun q hq => ho q (List.mem_cons_of_mem _ hq)) h
    refine ⟨fun q hq => ?_, fun i j hi hj => ?_⟩
    · rcases List.mem_cons.1 hq with rfl | hq
      · simpa using h1
      · have := g1 q hq
        rw [List.getElem?_set] at this
        split at this
        · cases this
        · exact this
    · match i, j with
      | i + 1, j + 1 => exact g2 i j (by simpa using hi) (by omega)
      | i + 1, 0 =>
        intro e
        have e : p.1 = ptX l i := e
        have hi' : i < l.length := by simpa using hi
        have := g1 l[i] (List.getElem_mem hi')
        have e2 : l[i].1 = p.1 := by rw [e]; unfold ptX; rw [List.getElem?_eq_getElem hi']; rfl
        rw [e2, List.getElem?_set_self pl] at this
        cases this
theorem twice_false {l : List (Int × Int)} (ho : ptsOk l) (h : twiceF l = false) : ∀ i j, i < l.length → j < i → ptX l j ≠ ptX l i := (twF_false l _ List.length_replicate ho h).2
end Go.Proofs.Ytggomleegbnhbaa
