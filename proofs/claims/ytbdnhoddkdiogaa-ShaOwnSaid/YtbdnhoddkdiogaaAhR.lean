/- AHI, part R: a region that draws its order, in the walk. -/
import Derived.Test.YtbdnhoddkdiogaaAhQ
set_option linter.unusedSimpArgs false
set_option linter.unusedVariables false
namespace Go.Proofs.Ytbdnhoddkdiogaa
open Go.RowKit

section
variable {P : Program} {Γ : Gam} {X : Nat → Prop} {s : St} {B : Nat}
section
variable {ops : Array Oper} {pl : List Pl} {S : Nat → St} {I : Nat → Inf} {σ0 σ : Sg} {w0 w : World} {l : Array Bool} {ver : Loc → Nat} {C : Hp} {a : Act}
theorem count_set {l : Array Bool} {i n : Nat} (hi : l.getD i true = false) (h : l.toList.count false = n + 1) : (l.setIfInBounds i true).toList.count false = n := by
  have hil : i < l.size := by
    rcases Nat.lt_or_ge i l.size with h' | h'
    · exact h'
    · simp [Array.getElem?_eq_none h'] at hi
  have hv : l.toList[i]'(by simpa using hil) = false := by simpa [hil] using hi
  rw [Array.toList_setIfInBounds, List.count_set (by simpa using hil), hv, h]
  simp
theorem all_done {l : Array Bool} (h : l.toList.count false = 0) (k : Nat) (hk : k < l.size) : dn l k := by
  have h1 : l.toList[k]'(by simpa using hk) ≠ false := fun e => List.count_eq_zero.1 h (e ▸ List.getElem_mem _)
  simpa [dn, hk] using h1
theorem Inv.any (hΓ : GamOk P Γ) (hr : Run P Γ ops pl S I) {Q : Exit → Act → World → Prop} (hQ : ∀ (l : Array Bool) ver σ C a w, (∀ k, k < ops.size → dn l k) → Inv X ops S I σ0 w0 l ver σ C a w → Q .normal a w) :
    ∀ (n : Nat) (l : Array Bool) (ver : Loc → Nat) (σ : Sg) (C : Hp) (a : Act) (w : World), l.toList.count false = n → Inv X ops S I σ0 w0 l ver σ C a w → wpAny P .any ops Q n l a w
  | 0, l, ver, σ, C, a, w, hn, hv => by
    have hall : ∀ k, k < ops.size → dn l k := fun k hk => all_done hn k (by rw [hv.size]; exact hk)
    refine ⟨?_, hQ l ver σ C a w hall hv⟩
    cases hrd : Region.ready .any ops l with
    | nil => rfl
    | cons j r =>
      have hj : j ∈ Region.ready .any ops l := by rw [hrd]; simp
      obtain ⟨h1, o, ho, h2⟩ := mem_ready.1 hj
      have hjl : j < ops.size := (Array.getElem?_eq_some_iff.1 ho).1
      have := hall j hjl
      have hjs : j < l.size := by rw [hv.size]; exact hjl
      simp [dn, hjs] at this h1
      rw [this] at h1; cases h1
  | n + 1, l, ver, σ, C, a, w, hn, hv => by
    have hdone : ∀ k, k < ops.size → ¬ dn l k → l.getD k true = false := fun k hk h => by
      have hks : k < l.size := by rw [hv.size]; exact hk
      simp [dn, hks] at h ⊢
      exact h
    refine ⟨fun hrd => ?_, fun j hj => ?_⟩
    · -- the first one that is not done is ready
      exfalso
      have key : ∀ k, k < ops.size → dn l k := by
        intro k
        induction k using Nat.strongRecOn with
        | _ k ih =>
          intro hk
          apply Classical.byContradiction
          intro h
          obtain ⟨o, p, ho, hp⟩ := hr.at hk
          have : k ∈ Region.ready .any ops l := mem_ready.2 ⟨hdone k hk h, o, ho, fun e he hb => by
            have hd : e.on ∈ direct o := List.mem_map.2 ⟨e, List.mem_filter.2 ⟨by simpa using he, hb⟩, rfl⟩
            have hlt := hr.ord.dir k hk e.on (by rw [(hr.inf k o p ho hp).2.2.2.2.2.2]; exact hd)
            exact ih e.on hlt (by omega)⟩
          rw [hrd] at this; cases this
      have hz : l.toList.count false = 0 := List.count_eq_zero.2 fun hm => by
        obtain ⟨k, hk, he⟩ := List.getElem_of_mem hm
        have hks : k < l.size := by simpa using hk
        have := key k (by rw [← hv.size]; exact hks)
        simp [dn, hks] at this
        have he' : l[k] = false := by simpa using he
        rw [he'] at this; cases this
      omega
    · obtain ⟨h1, o, ho, h2⟩ := mem_ready.1 hj
      have hjl : j < ops.size := (Array.getElem?_eq_some_iff.1 ho).1
      have hjs : j < l.size := by rw [hv.size]; exact hjl
      refine hv.op hΓ hr ho (fun h => by simp [dn, hjs] at h h1; rw [h] at h1; cases h1) (fun k hk => ?_) fun ver' σ' C' a' w' hv' => Inv.any hΓ hr hQ n _ ver' σ' C' a' w' (count_set h1 hn) hv'
      obtain ⟨e, he, rfl⟩ := List.mem_map.1 hk
      obtain ⟨he1, he2⟩ := List.mem_filter.1 he
      exact h2 e (by simpa using he1) he2
theorem Inv.end (hr : Run P Γ ops pl S I) (hall : ∀ k, k < ops.size → dn l k) (hv : Inv X ops S I σ0 w0 l ver σ C a w) : StRep X σ (S ops.size) a w ∧ C = (S ops.size).H := by
  have hno : ∀ loc k, ver loc ≤ k → k < ops.size → ¬ wrs (I k) loc := fun loc k h1 h2 h3 => by have := hv.v1 loc k h2 (hall k h2) h3; omega
  have hle : ∀ loc, ver loc ≤ ops.size := fun loc => by rcases hv.v2 loc with h | ⟨k, h1, -, -, h2⟩ <;> omega
  have hC : C = (S ops.size).H := by
    apply List.ext_getElem?
    intro id
    rcases Nat.lt_or_ge id (S ops.size).H.length with h | h
    · rw [hv.ccon id h, ← hr.heap (hle _) (Nat.le_refl _) (hno _), List.getElem?_eq_getElem h]; rfl
    · rw [List.getElem?_eq_none h, List.getElem?_eq_none (by rw [hv.clen]; exact h)]
  subst hC
  exact ⟨⟨by rw [hv.tmps, hr.n _ (Nat.le_refl _)], hv.defers, fun t x _ hx => hv.slots t x (by rw [← hr.slot (hle _) (Nat.le_refl _) (hno _)]; exact hx), hv.heap⟩, rfl⟩
end
/-- A region that draws its order. -/
theorem AWP.drawn (hΓ : GamOk P Γ) (hm : P.follows .mixedOrders = true) (pl : List Pl) {id : Nat} {ops : Array Oper} {Q : Exit → St → Prop} (hc : drawnOk ops pl s.H.length = true) (he : underE s.H.length s.env = true) (hh : underH s.H.length s.H = true)
    (h : arun P Γ ops.toList ops.toList pl s (fun s' => Q .normal s')) : AWP P B (.region id ops true) Q s := fun X σ a w hs => by
  refine wp_region_any hm ?_
  obtain ⟨S, h0, hst, hq⟩ := arun_states h
  simp only [drawnOk, Bool.and_eq_true, decide_eq_true_eq] at hc
  obtain ⟨hlen, hpairs⟩ := hc
  have hll : ops.toList.length = pl.length := by simpa using hlen
  have hil : (infs ops s.H.length [] ops.toList pl).length = ops.size := by rw [infs_len ops hll]; simp
  obtain ⟨I, hI⟩ : ∃ I : Nat → Inf, ∀ i, i < ops.size → (infs ops s.H.length [] ops.toList pl)[i]? = some (I i) :=
    ⟨fun i => ((infs ops s.H.length [] ops.toList pl)[i]?).getD ⟨[], none, [], false, 0, 0, [], []⟩, fun i hi => by simp [hil, hi]⟩
  have hst' : ∀ i o p, ops[i]? = some o → pl[i]? = some p → astep P Γ ops.toList o p (S i) (S (i + 1)) := fun i o p ho hp => hst i o p (by simpa using ho) hp
  have hinf : ∀ i o p, ops[i]? = some o → pl[i]? = some p → (I i).rd = o.looksAt ops ∧ (I i).d = o.dst ∧ (I i).m = p.m ∧ (I i).q = p.q ∧ (I i).lo = (S i).H.length ∧ (I i).hi = (S (i + 1)).H.length ∧ (I i).dir = direct o := fun i o p ho hp => by
    obtain ⟨x, hx, hx'⟩ := infs_at ops (A := []) (lo := s.H.length) hst (by rw [h0]) i o p (by simpa using ho) hp
    rw [hI i (Array.getElem?_eq_some_iff.1 ho).1] at hx
    cases hx
    exact hx'
  have hat : ∀ i, i < ops.size → ∃ o p, ops[i]? = some o ∧ pl[i]? = some p := fun i hi => ⟨ops[i], pl[i]'(hlen ▸ hi), Array.getElem?_eq_getElem hi, List.getElem?_eq_getElem (hlen ▸ hi)⟩
  have hmono : ∀ {i j : Nat}, i ≤ j → j ≤ ops.size → (S i).H.length ≤ (S j).H.length := fun {i j} => by
    induction j with
    | zero => intro h _; rw [Nat.le_zero.1 h]; exact Nat.le_refl _
    | succ j ih =>
      intro h hj
      rcases Nat.lt_or_ge j i with h1 | h1
      · rw [show i = j + 1 by omega]; exact Nat.le_refl _
      · obtain ⟨o, p, ho, hp⟩ := hat j (by omega)
        have := (astep_len (hst' j o p ho hp)).2.1
        have := ih h1 (by omega)
        omega
  have hord : Ord ops.size I := by
    have := ord_of (l := infs ops s.H.length [] ops.toList pl) (I := I) (fun i hi => hI i (by omega)) (fun i k hi hk => by
      obtain ⟨o, p, ho, hp⟩ := hat i (by omega)
      obtain ⟨o', p', ho', hp'⟩ := hat k (by omega)
      rw [(hinf i o p ho hp).2.2.2.2.1, (hinf k o' p' ho' hp').2.2.2.2.2.1]
      exact hmono (by omega) (by omega)) hpairs
    rwa [hil] at this
  have hrun : Run P Γ ops pl S I := ⟨hst', by rw [h0]; exact ⟨fun t x hx => underE_at he t x hx, fun i r hr => underH_at hh i r hr⟩, hlen, hinf, hord⟩
  have hsz := hmono (Nat.zero_le _) (Nat.le_refl ops.size)
  obtain ⟨d1, d2⟩ := hs.heap.drew
  obtain ⟨d3, d4⟩ := d1.pad ((S ops.size).H.length - s.H.length)
  have hd0 : ∀ k, ¬ dn (Array.replicate ops.size false) k := fun k h => by
    simp only [dn, Array.getD_eq_getD_getElem?, Array.getElem?_replicate] at h
    split at h <;> cases h
  refine Inv.any (X := X) (σ0 := σ) (w0 := w.drew) hΓ hrun (fun l ver σ' C a' w' hall hv => ?_) ops.size _ (fun _ => 0) σ (s.H ++ List.replicate ((S ops.size).H.length - s.H.length) none) a w.drew (by simp [List.count_replicate]) ?_
  · obtain ⟨g1, rfl⟩ := hv.end hrun hall
    refine ⟨σ', S ops.size, by simpa using hq, g1, ?_⟩
    have hk : Keeps w.drew (ownB σ s.H) w' (ownB σ' (S ops.size).H) := by have := hv.keeps; rwa [h0] at this
    refine ⟨hv.os, hv.tape, hv.output, d2.keeps.trans hk, fun id hid x hx => ?_, fun hB => ⟨by rw [h0] at hsz; omega, fun id hid => ?_⟩⟩
    · rw [hv.same id (by rw [h0]; exact hs.heap.lt hx)]; exact hx
    · exact hv.same id (by rw [h0]; omega)
  · have hlen' : (s.H ++ List.replicate ((S ops.size).H.length - s.H.length) none).length = (S ops.size).H.length := by rw [h0] at hsz; simp; omega
    refine ⟨by simp, fun i hi hd => (hd0 i hd).elim, fun loc k hk hd => (hd0 k hd).elim, fun _ => .inl rfl, hlen', fun id hid => ?_, d3, fun t x hx => ?_, fun id y hy => ?_, by rw [h0]; exact hs.size, hs.defers, rfl, rfl, rfl, by rw [h0]; exact d4, fun _ _ => rfl⟩
    · show _ = some (((S 0).H[id]?).join)
      rw [h0]
      rcases Nat.lt_or_ge id s.H.length with h1 | h1
      · rw [List.getElem?_append_left h1, List.getElem?_eq_getElem h1]; rfl
      · rw [List.getElem?_append_right h1, List.getElem?_replicate, if_pos (by omega), List.getElem?_eq_none h1]; rfl
    · have hx' : look (S 0).env t = some x := hx
      rw [h0] at hx'
      obtain ⟨v, h1, h2⟩ := hs.env t x trivial hx'
      exact ⟨v, h1, (h2.step d2).mono (keepsX d4) (fun _ _ h => h)⟩
    · left; rw [h0]; exact hs.heap.lt hy
/-- A drawn region ahead. -/
theorem AWP.seqD {s' : St} (hΓ : GamOk P Γ) (hm : P.follows .mixedOrders = true) (K : List Nat) (pl : List Pl) {id : Nat} {ops : Array Oper} {d : Code} {Q : Exit → St → Prop} (hc : drawnOk ops pl s.H.length = true) (he : underE s.H.length s.env = true) (hh : underH s.H.length s.H = true)
    (h : arun P Γ ops.toList ops.toList pl s (fun s1 => s1 = s')) (hq : AWP P B d Q (trim K s')) : AWP P B (.seq (.region id ops true) d) Q s :=
  AWP.seq (AWP.drawn hΓ hm pl hc he hh (by
    have : (fun s1 => s1 = s') = (fun s1 : St => s1 = s') := rfl
    refine arun_mono (fun s1 (e : s1 = s') => ?_) h
    subst e
    exact AWP.ghost (Ghost.trim B K s1) hq))
where
  arun_mono {l : List Oper} {pl : List Pl} {s : St} {ops : List Oper} {Q Q' : St → Prop} (hQ : ∀ s, Q s → Q' s) (h : arun P Γ ops l pl s Q) : arun P Γ ops l pl s Q' := by
    induction l generalizing pl s with
    | nil => cases pl with
      | nil => exact hQ _ h
      | cons p pl => simp [arun] at h
    | cons o l ih => cases pl with
      | nil => simp [arun] at h
      | cons p pl =>
        simp only [arun] at h ⊢
        split at h
        · split at h
          · rename_i x H' hx
            rw [hx] at *
            obtain ⟨h1, h2, h3, h4, h5⟩ := h
            refine ⟨h1, h2, h3, h4, ?_⟩
            split at h5
            · exact ih h5
            · exact h5.elim
          · exact h.elim
        · obtain ⟨h1, h2⟩ := h
          refine ⟨h1, ?_⟩
          split at h2
          · exact ih h2
          · exact h2.elim
        · exact h.elim
end
end Go.Proofs.Ytbdnhoddkdiogaa
