/- What is needed to walk a function that holds a range over a function: the walk up to it; what is deferred rides along. -/
import Derived.Test.YtbdnhoddkdiogaaAi3
import Derived.RangeFuncLeaves
set_option linter.unusedSimpArgs false
set_option linter.unusedVariables false
namespace Go.Proofs.Ytbdnhoddkdiogaa
open Go.RowKit
section
variable {P : Program} {Γ : Gam} {X : Nat → Prop} {s : St} {B : Nat}
/-- A region that draws its order, by what the walk of its operations asks. -/
theorem drawn_any (hΓ : GamOk P Γ) (pl : List Pl) {ops : Array Oper} {N : St → Prop} (hc : drawnOk ops pl s.H.length = true) (he : underE s.H.length s.env = true) (hh : underH s.H.length s.H = true)
    (h : arun P Γ ops.toList ops.toList pl s N) {σ : Sg} {a : Act} {w : World} (hs : StRep X σ s a w) :
    wpAny P .any ops (fun e a' w' => e = .normal ∧ ∃ σ' s', N s' ∧ StRep X σ' s' a' w' ∧ StepB B σ s.H w σ' s'.H w') ops.size (Array.replicate ops.size false) a w.drew := by
  obtain ⟨S, h0, hst, hq⟩ := arun_states h
  simp only [drawnOk, Bool.and_eq_true, decide_eq_true_eq] at hc
  obtain ⟨hlen, hpairs⟩ := hc
  have hll : ops.toList.length = pl.length := by simpa using hlen
  have hil : (infs ops s.H.length [] ops.toList pl).length = ops.size := by rw [infs_len ops hll]; simp
  obtain ⟨I, hI⟩ : ∃ I : Nat → Inf, ∀ i, i < ops.size → (infs ops s.H.length [] ops.toList pl)[i]? = some (I i) :=
    ⟨fun i => ((infs ops s.H.length [] ops.toList pl)[i]?).getD ⟨[], none, [], false, 0, 0, [], []⟩, fun i hi => by simp [hil, hi]⟩
  have hst' : ∀ i o p, ops[i]? = some o → pl[i]? = some p → astep P Γ ops.toList o p (S i) (S (i + 1)) := fun i o p ho hp => hst i o p (by simpa using ho) hp
  have hinf : ∀ i o p, ops[i]? = some o → pl[i]? = some p → (I i).rd = o.looksAt ops ∧ (I i).d = o.dst ∧ (I i).m = p.m ∧ (I i).q = p.q ∧ (I i).lo = (S i).H.length ∧ (I i).hi = (S (i + 1)).H.length ∧ (I i).dir = direct o := fun i o p ho hp => by
    obtain ⟨x, hx, hx'⟩ := infs_at ops (A := []) (lo := s.H.length) hst (by rw [h0]) i o p (by simpa using ho) hp
    rw [hI i (Array.getElem?_eq_some_iff.1 ho).1] at hx
    cases hx
    exact hx'
  have hat : ∀ i, i < ops.size → ∃ o p, ops[i]? = some o ∧ pl[i]? = some p := fun i hi => ⟨ops[i], pl[i]'(hlen ▸ hi), Array.getElem?_eq_getElem hi, List.getElem?_eq_getElem (hlen ▸ hi)⟩
  have hmono : ∀ {i j : Nat}, i ≤ j → j ≤ ops.size → (S i).H.length ≤ (S j).H.length := fun {i j} => by
    induction j with
    | zero => intro h _; rw [Nat.le_zero.1 h]; exact Nat.le_refl _
    | succ j ih =>
      intro h hj
      rcases Nat.lt_or_ge j i with h1 | h1
      · rw [show i = j + 1 by omega]; exact Nat.le_refl _
      · obtain ⟨o, p, ho, hp⟩ := hat j (by omega)
        have := (astep_len (hst' j o p ho hp)).2.1
        have := ih h1 (by omega)
        omega
  have hord : Ord ops.size I := by
    have := ord_of (l := infs ops s.H.length [] ops.toList pl) (I := I) (fun i hi => hI i (by omega)) (fun i k hi hk => by
      obtain ⟨o, p, ho, hp⟩ := hat i (by omega)
      obtain ⟨o', p', ho', hp'⟩ := hat k (by omega)
      rw [(hinf i o p ho hp).2.2.2.2.1, (hinf k o' p' ho' hp').2.2.2.2.2.1]
      exact hmono (by omega) (by omega)) hpairs
    rwa [hil] at this
  have hrun : Run P Γ ops pl S I := ⟨hst', by rw [h0]; exact ⟨fun t x hx => underE_at he t x hx, fun i r hr => underH_at hh i r hr⟩, hlen, hinf, hord⟩
  have hsz := hmono (Nat.zero_le _) (Nat.le_refl ops.size)
  obtain ⟨d1, d2⟩ := hs.heap.drew
  obtain ⟨d3, d4⟩ := d1.pad ((S ops.size).H.length - s.H.length)
  have hd0 : ∀ k, ¬ dn (Array.replicate ops.size false) k := fun k h => by
    simp only [dn, Array.getD_eq_getD_getElem?, Array.getElem?_replicate] at h
    split at h <;> cases h
  refine Inv.any (X := X) (σ0 := σ) (w0 := w.drew) hΓ hrun (fun l ver σ' C a' w' hall hv => ?_) ops.size _ (fun _ => 0) σ (s.H ++ List.replicate ((S ops.size).H.length - s.H.length) none) a w.drew (by simp [List.count_replicate]) ?_
  · obtain ⟨g1, rfl⟩ := hv.end hrun hall
    refine ⟨rfl, σ', S ops.size, by simpa using hq, g1, ?_⟩
    have hk : Keeps w.drew (ownB σ s.H) w' (ownB σ' (S ops.size).H) := by have := hv.keeps; rwa [h0] at this
    refine ⟨hv.os, hv.tape, hv.output, d2.keeps.trans hk, fun id hid x hx => ?_, fun hB => ⟨by rw [h0] at hsz; omega, fun id hid => ?_⟩⟩
    · rw [hv.same id (by rw [h0]; exact hs.heap.lt hx)]; exact hx
    · exact hv.same id (by rw [h0]; omega)
  · have hlen' : (s.H ++ List.replicate ((S ops.size).H.length - s.H.length) none).length = (S ops.size).H.length := by rw [h0] at hsz; simp; omega
    refine ⟨by simp, fun i hi hd => (hd0 i hd).elim, fun loc k hk hd => (hd0 k hd).elim, fun _ => .inl rfl, hlen', fun id hid => ?_, d3, fun t x hx => ?_, fun id y hy => ?_, by rw [h0]; exact hs.size, hs.defers, rfl, rfl, rfl, by rw [h0]; exact d4, fun _ _ => rfl⟩
    · show _ = some (((S 0).H[id]?).join)
      rw [h0]
      rcases Nat.lt_or_ge id s.H.length with h1 | h1
      · rw [List.getElem?_append_left h1, List.getElem?_eq_getElem h1]; rfl
      · rw [List.getElem?_append_right h1, List.getElem?_replicate, if_pos (by omega), List.getElem?_eq_none h1]; rfl
    · have hx' : look (S 0).env t = some x := hx
      rw [h0] at hx'
      obtain ⟨v, h1, h2⟩ := hs.env t x trivial hx'
      exact ⟨v, h1, (h2.step d2).mono (keepsX d4) (fun _ _ h => h)⟩
    · left; rw [h0]; exact hs.heap.lt hy
/-- A drawn region ahead. -/
theorem put_shift (a : Act) (D : List Deferred) (d : Option Tmp) (v : Value) : ({ a with defers := a.defers ++ D } : Act).put d v = { a.put d v with defers := (a.put d v).defers ++ D } := by cases d <;> rfl
theorem upon_shift {o : Oper} {D : List Deferred} {a : Act} {next next' : Act → World → Prop} {Q Q' : Exit → Act → World → Prop} (hn : ∀ a w, next a w → next' { a with defers := a.defers ++ D } w) (hq : ∀ e a w, Q e a w → Q' e { a with defers := a.defers ++ D } w) :
    ∀ r : Result Next, o.upon P a next Q r → o.upon P { a with defers := a.defers ++ D } next' Q' r
  | .ok (.value v) w, h => by show next' _ _; rw [put_shift]; exact hn _ _ h
  | .ok .skip w, h => by show next' _ _; rw [put_shift]; exact hn _ _ h
  | .ok (.defer d) w, h => by
    have e : ({ tmps := a.tmps, defers := d :: (a.defers ++ D) } : Act).put o.dst undef = { ({ a with defers := d :: a.defers } : Act).put o.dst undef with defers := (({ a with defers := d :: a.defers } : Act).put o.dst undef).defers ++ D } := put_shift { a with defers := d :: a.defers } D o.dst undef
    show next' _ _
    rw [e]; exact hn _ _ h
  | .ok (.enter f args) w, h => Calls.mono h fun e w' he => by
      cases e with
      | returned v => show next' _ _; rw [put_shift]; exact hn _ _ he
      | panicked c => exact hq _ _ _ he
      | outgrown => obtain ⟨a0, w0, h0⟩ := he; exact ⟨_, w0, hq _ _ _ h0⟩
  | .ok (.row row args) w, h => Rows.mono h fun v w' he => by rw [put_shift]; exact hn _ _ he
  | .halt (.panic v) w, h => hq _ _ _ h
theorem wpAny_shift {ops : Array Oper} {md : Region.Mode} {D : List Deferred} {Q Q' : Exit → Act → World → Prop} (hq : ∀ e a w, Q e a w → Q' e { a with defers := a.defers ++ D } w) :
    ∀ (n : Nat) (l : Array Bool) (a : Act) (w : World), wpAny P md ops Q n l a w → wpAny P md ops Q' n l { a with defers := a.defers ++ D } w
  | 0, l, a, w, h => ⟨h.1, hq _ _ _ h.2⟩
  | n + 1, l, a, w, h => ⟨fun h0 => hq _ _ _ (h.1 h0), fun i hi => by
      have h1 := h.2 i hi
      unfold wpOp at h1 ⊢
      cases ho : ops[i]? with
      | none => rw [ho] at h1; exact wpAny_shift hq n _ _ _ h1
      | some o =>
        rw [ho] at h1
        simp only at h1 ⊢
        split
        · rename_i hw
          rw [if_pos hw] at h1
          rcases h1 with h1 | ⟨h1, a0, w0, h2⟩
          · left
            exact upon_shift (fun a w hk => wpAny_shift hq n _ _ _ hk) hq _ h1
          · exact .inr ⟨h1, _, w0, hq _ _ _ h2⟩
        · rename_i hw
          rw [if_neg hw] at h1
          rw [put_shift]; exact wpAny_shift hq n _ _ _ h1⟩
/-- A region that draws its order, with what is deferred riding along. -/
theorem drawn_shift (hΓ : GamOk P Γ) (hm : P.follows .mixedOrders = true) (pl : List Pl) {id : Nat} {ops : Array Oper} {N : St → Prop} (hc : drawnOk ops pl s.H.length = true) (he : underE s.H.length s.env = true) (hh : underH s.H.length s.H = true)
    (h : arun P Γ ops.toList ops.toList pl s N) {σ : Sg} {a : Act} {w : World} (hs : StRep X σ s a w) {D : List Deferred} {Q : Exit → Act → World → Prop}
    (hq : ∀ σ' s' a' w', N s' → StRep X σ' s' a' w' → StepB B σ s.H w σ' s'.H w' → Q .normal { a' with defers := D } w') : (Code.region id ops true).wp P Q { a with defers := D } w := by
  refine wp_region_any hm ?_
  have h1 := wpAny_shift (D := D) (Q' := Q) (fun e a w ⟨he, σ', s', h1, h2, h3⟩ => by
    subst he
    have := hq σ' s' a w h1 h2 h3
    rw [h2.defers]; exact this) _ _ _ _ (drawn_any (X := X) (B := B) hΓ pl hc he hh h hs)
  rw [hs.defers] at h1
  exact h1
/-- The walk up to a piece of code that is walked otherwise. -/
def AWF (P : Program) (B : Nat) (X : Nat → Prop) (σ0 : Sg) (H0 : Hp) (w0 : World) (R : Exit → Act → World → Prop) (c : Code) (s : St) : Prop :=
  ∀ σ a w, StRep X σ s a w → StepB B σ0 H0 w0 σ s.H w → c.wp P R a w
variable {σ0 : Sg} {H0 : Hp} {w0 : World} {R : Exit → Act → World → Prop} {s' s2 : St}
theorem AWF.seq {A D : Code} (h : AWP P B A (fun e s1 => match e with | .normal => AWF P B X σ0 H0 w0 R D s1 | _ => False) s) : AWF P B X σ0 H0 w0 R (.seq A D) s := fun σ a w hs hst => by
  refine wp_seq (wp_mono (h X σ a w hs) ?_)
  rintro e a1 w1 ⟨σ1, s1, hq, hs1, hst1⟩
  cases e with
  | normal => exact hq σ1 a1 w1 hs1 (hst.trans hst1)
  | exit id => exact hq.elim
  | goto l => exact hq.elim
  | ret => exact hq.elim
  | panic ch => exact hq.elim
  | outgrown => exact hq.elim
theorem AWF.seqQ {A D : Code} (h : AWF P B X σ0 H0 w0 (Exit.then (D.wp P R) R) A s) : AWF P B X σ0 H0 w0 R (.seq A D) s := fun σ a w hs hst => wp_seq (h σ a w hs hst)
theorem AWF.ghost {c : Code} (hg : Ghost B s s') (h : AWF P B X σ0 H0 w0 R c s') : AWF P B X σ0 H0 w0 R c s := fun σ a w hs hst =>
  let ⟨σ', hs', hst'⟩ := hg X σ a w hs; h σ' a w hs' (hst.trans hst')
theorem AWF.sR (hΓ : GamOk P Γ) (K : List Nat) {id : Nat} {ops : Array Oper} {d : Code} (h : aops P Γ ops.toList ops.toList s = some s') (ht : trim K s' = s2) (hq : AWF P B X σ0 H0 w0 R d s2) : AWF P B X σ0 H0 w0 R (.seq (.region id ops false) d) s :=
  AWF.seq (AWP.rT hΓ K h ht hq)
theorem AWF.seqBlock {id : Nat} {c d : Code} (h : AWP P B c (blockQ id (fun e s1 => match e with | .normal => AWF P B X σ0 H0 w0 R d s1 | _ => False)) s) : AWF P B X σ0 H0 w0 R (.seq (.block id c) d) s := AWF.seq (AWP.block h)
/-- A function's contract, by the walk up to such a piece. -/
theorem callOkF {H H' : Hp} {g : FuncId} {fn : Func} {args : List AV} {r : AV} (hf : P.funcs[g]? = some fn) (nt : Nat) {c : Code} (hb : fn.body = some c) (hnt : fn.ntmps = nt) (hc : callable P g = true) (hlen : args.length ≤ nt) (n : Nat)
    (h : ∀ X σ w, HeapRep X σ H w → AWF P H.length X σ H w (bodyPostM Fence.wide n P fn (fun e w' => ∃ v, e = .returned v ∧ Post X σ H w r H' v w')) c ⟨nt, params 0 args, H⟩) : CallOk P g args H r H' := by
  subst hnt
  refine ⟨hc, fun X σ w vs hh hl hv => ?_⟩
  refine callsIn_wide.1 (callsIn_of_wp_marks (n := n) (F := Fence.wide) hf hb trivial ?_ rfl)
  refine wpIn_wide.2 (h X σ w hh σ _ w ⟨?_, rfl, ?_, hh⟩ (StepB.refl _ _ _ _))
  · simp; omega
  · intro t x _ hx
    obtain ⟨h1, h2⟩ := look_params hx
    obtain ⟨v, h3, h4⟩ := hv _ _ h2
    have ht := (List.getElem?_eq_some_iff.1 h3).1
    exact ⟨v, by
      show (vs.toArray ++ _)[t]? = _
      rw [Array.getElem?_append_left (by simpa using ht)]; simpa using h3, h4.toA⟩
end
end Go.Proofs.Ytbdnhoddkdiogaa
