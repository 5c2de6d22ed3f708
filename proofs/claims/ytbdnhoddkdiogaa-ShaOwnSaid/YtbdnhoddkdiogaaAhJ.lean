/- AHI, part J: a region in its own order; code; a function's body. -/
import Derived.Test.YtbdnhoddkdiogaaAhI
set_option linter.unusedSimpArgs false
set_option linter.unusedVariables false
namespace Go.Proofs.Ytbdnhoddkdiogaa
open Go.RowKit

def put (s : St) (dst : Option Tmp) (x : AV) (H' : Hp) : Option St :=
  match dst with
  | none => some ⟨s.n, s.env, H'⟩
  | some d => if d < s.n then some ⟨s.n, lay s.env d x, H'⟩ else none
def aguard (ops : List Oper) (s : St) (o : Oper) : Option Bool :=
  match o.guard with
  | none => some true
  | some (j, want) => match ops[j]? with
    | some q => match q.dst with
      | some d => (match look s.env d with | some (.c (.v (.bool b))) => some (b == want) | some (.tup []) => some false | _ => none)
      | none => none
    | none => none
/-- The operations one behind the other. -/
def aops (P : Program) (Γ : Gam) (ops : List Oper) : List Oper → St → Option St
  | [], s => some s
  | o :: l, s => match aguard ops s o with
    | some true => (match aop P Γ s o.op with
      | some (x, H') => (match put s o.dst x H' with | some s' => aops P Γ ops l s' | none => none)
      | none => none)
    | some false => (match put s o.dst (.tup []) s.H with | some s' => aops P Γ ops l s' | none => none)
    | none => none
def trim (K : List Nat) (s : St) : St := ⟨s.n, s.env.filter fun p => K.contains p.1, s.H⟩
structure StRep (X : Nat → Prop) (σ : Sg) (s : St) (a : Act) (w : World) : Prop where
  size : a.tmps.size = s.n
  defers : a.defers = []
  env : EnvRep X σ s a w (fun _ => True)
  heap : HeapRep X σ s.H w
section
variable {P : Program} {X : Nat → Prop} {σ σ' : Sg} {s s' : St} {H H' : Hp} {a : Act} {w w' : World} {B : Nat}
theorem look_filter (K : List Nat) (t : Nat) : ∀ (l : List (Nat × AV)) (x : AV), look (l.filter fun p => K.contains p.1) t = some x → look l t = some x
  | [], x, h => h
  | (k, b) :: l, x, h => by
    rw [List.filter_cons] at h
    split at h
    · simp only [look] at h ⊢
      split
      · rename_i hk; rw [if_pos hk] at h; exact h
      · rename_i hk; rw [if_neg hk] at h; exact look_filter K t l x h
    · rename_i hk
      have := look_filter K t l x h
      simp only [look]
      split
      · rename_i hkt
        subst hkt
        exfalso
        -- no entry of this key is left
        have hnone : ∀ (l : List (Nat × AV)), look (l.filter fun p => K.contains p.1) k = none := fun l => by
          induction l with
          | nil => rfl
          | cons p l ih =>
            rw [List.filter_cons]
            split
            · rename_i hp
              simp only [look]
              rw [if_neg (fun e => hk (by rw [← e]; exact hp)), ih]
            · exact ih
        rw [hnone] at h; cases h
      · exact this
theorem StRep.trim (h : StRep X σ s a w) (K : List Nat) : StRep X σ (trim K s) a w :=
  ⟨h.size, h.defers, fun t x ht hx => h.env t x ht (look_filter K t _ x hx), h.heap⟩
/-- A slot is written. -/
theorem StRep.put (h : StRep X σ s a w) {dst : Option Tmp} {x : AV} {H' : Hp} {v : Value} (hp : put s dst x H' = some s') (hx : RepA w' (own X σ' H') σ' x v) (hh : HeapRep X σ' H' w') (hs : Step σ s.H w σ' H' w') : StRep X σ' s' (a.put dst v) w' := by
  unfold Go.Proofs.Ytbdnhoddkdiogaa.put at hp
  cases dst with
  | none =>
    cases hp
    exact ⟨h.size, h.defers, fun t y ht hy => by obtain ⟨u, h1, h2⟩ := h.env t y ht hy; exact ⟨u, h1, h2.step hs⟩, hh⟩
  | some d =>
    simp only at hp
    split at hp
    · rename_i hd
      cases hp
      refine ⟨by simp [Act.put, h.size], h.defers, fun t y ht hy => ?_, hh⟩
      simp only [look_lay] at hy
      split at hy
      · rename_i htd
        cases hy
        subst htd
        exact ⟨v, by simp [Act.put, h.size, hd], hx⟩
      · rename_i htd
        obtain ⟨u, h1, h2⟩ := h.env t y ht hy
        exact ⟨u, by simp only [Act.put]; rw [Array.getElem?_setIfInBounds_ne (fun e => htd e.symm)]; exact h1, h2.step hs⟩
    · cases hp
theorem guard_rep (h : StRep X σ s a w) {ops : Array Oper} {o : Oper} {b : Bool} (hg : aguard ops.toList s o = some b) : Region.wanted o (yielded ops a.tmps) = b := by
  unfold aguard at hg
  unfold Region.wanted
  split at hg
  · rename_i h0; cases hg; simp [h0]
  · rename_i j want h0
    simp only [h0]
    split at hg
    · rename_i q hq
      split at hg
      · rename_i d hd
        have hq' : ops[j]? = some q := by simpa using hq
        split at hg
        · rename_i c hc
          cases hg
          obtain ⟨v, h1, h2⟩ := h.env d _ trivial hc
          obtain ⟨rfl, -⟩ := h2
          simp [yielded, hq', hd, h1]
        · rename_i hc
          cases hg
          obtain ⟨v, h1, h2⟩ := h.env d _ trivial hc
          obtain ⟨vs, rfl, -⟩ := h2
          simp [yielded, hq', hd, h1]
        · cases hg
      · cases hg
    · cases hg
theorem wpList_sound {Γ : Gam} (hΓ : GamOk P Γ) {ops : Array Oper} {Q : Exit → Act → World → Prop} : ∀ {l : List Oper} {σ : Sg} {s : St} {a : Act} {w : World}, aops P Γ ops.toList l s = some s' → StRep X σ s a w →
    (∀ σ' a' w', StRep X σ' s' a' w' → Step σ s.H w σ' s'.H w' → Q .normal a' w') → wpList P ops Q l a w
  | [], σ, s, a, w, h, hs, hq => by cases h; exact hq σ a w hs (Step.refl _ _ _)
  | o :: l, σ, s, a, w, h, hs, hq => by
    simp only [aops] at h
    split at h
    · rename_i hg
      have hw := guard_rep hs hg
      split at h
      · rename_i x H' hx
        split at h
        · rename_i s1 h1
          have hH1 : s1.H = H' := by
            unfold Go.Proofs.Ytbdnhoddkdiogaa.put at h1
            split at h1
            · cases h1; rfl
            · split at h1
              · cases h1; rfl
              · cases h1
          refine wpList_step fun K hK => ?_
          rw [if_pos hw]
          refine op_sound hΓ hx (fun t x _ => hs.env t x trivial) hs.heap fun v w' hp => hK _ _ ?_
          obtain ⟨σ', p1, p2, p3⟩ := hp
          exact wpList_sound hΓ h (hs.put h1 p1 p2 p3) fun σ2 a2 w2 h2 h3 => hq σ2 a2 w2 h2 (p3.trans (by rw [hH1] at h3; exact h3))
        · cases h
      · cases h
    · rename_i hg
      have hw := guard_rep hs hg
      split at h
      · rename_i s1 h1
        have hH1 : s1.H = s.H := by
          unfold Go.Proofs.Ytbdnhoddkdiogaa.put at h1
          split at h1
          · cases h1; rfl
          · split at h1
            · cases h1; rfl
            · cases h1
        refine wpList_step fun K hK => ?_
        rw [if_neg (by rw [hw]; simp)]
        refine hK _ _ ?_
        have := hs.put (v := undef) h1 ⟨[], rfl, rfl, fun i a ha => by simp at ha⟩ hs.heap (Step.refl _ _ _)
        exact wpList_sound hΓ h this fun σ2 a2 w2 h2 h3 => hq σ2 a2 w2 h2 (by rw [hH1] at h3; exact h3)
      · cases h
    · cases h

/-! ### Code -/
/-- What is left behind, where the first B numbers alone stay what they are. -/
structure StepB (B : Nat) (σ : Sg) (H : Hp) (w : World) (σ' : Sg) (H' : Hp) (w' : World) : Prop where
  os : w'.os = w.os
  tape : w'.tape = w.tape
  output : w'.output = w.output
  keeps : Keeps w (ownB σ H) w' (ownB σ' H')
  ext : ∀ id, id < B → ∀ x, σ id = some x → σ' id = some x
  same : B ≤ H.length → B ≤ H'.length ∧ ∀ id, id < B → σ' id = σ id
theorem Step.toB {B : Nat} (h : Step σ H w σ' H' w') : StepB B σ H w σ' H' w' := ⟨h.os, h.tape, h.output, h.keeps, fun id _ => h.ext id, fun hB => ⟨Nat.le_trans hB h.len, fun id hid => h.same id (Nat.lt_of_lt_of_le hid hB)⟩⟩
theorem StepB.refl (B : Nat) (σ : Sg) (H : Hp) (w : World) : StepB B σ H w σ H w := (Step.refl σ H w).toB
theorem StepB.trans {B : Nat} {σ'' : Sg} {H'' : Hp} {w'' : World} (h : StepB B σ H w σ' H' w') (k : StepB B σ' H' w' σ'' H'' w'') : StepB B σ H w σ'' H'' w'' :=
  ⟨k.os.trans h.os, k.tape.trans h.tape, k.output.trans h.output, h.keeps.trans k.keeps, fun id hid x hx => k.ext _ hid _ (h.ext _ hid _ hx), fun hB => ⟨(k.same (h.same hB).1).1, fun id hid => ((k.same (h.same hB).1).2 id hid).trans ((h.same hB).2 id hid)⟩⟩
/-- Whatever world it is run in, code comes to what Q says of the frame and the heap. -/
def AWP (P : Program) (B : Nat) (c : Code) (Q : Exit → St → Prop) (s : St) : Prop :=
  ∀ X σ a w, StRep X σ s a w → c.wp P (fun e a' w' => ∃ σ' s', Q e s' ∧ StRep X σ' s' a' w' ∧ StepB B σ s.H w σ' s'.H w') a w
/-- One state stands for another one. -/
def Ghost (B : Nat) (s s' : St) : Prop := ∀ X σ a w, StRep X σ s a w → ∃ σ', StRep X σ' s' a w ∧ StepB B σ s.H w σ' s'.H w
theorem Ghost.refl (B : Nat) (s : St) : Ghost B s s := fun X σ a w h => ⟨σ, h, StepB.refl _ _ _ _⟩
theorem Ghost.trans {s s' s'' : St} (h : Ghost B s s') (k : Ghost B s' s'') : Ghost B s s'' := fun X σ a w hs => by
  obtain ⟨σ1, h1, h2⟩ := h X σ a w hs
  obtain ⟨σ2, h3, h4⟩ := k X σ1 a w h1
  exact ⟨σ2, h3, h2.trans h4⟩
theorem Ghost.trim (B : Nat) (K : List Nat) (s : St) : Ghost B s (trim K s) := fun X σ a w h => ⟨σ, h.trim K, StepB.refl _ _ _ _⟩
def thenQ (N : St → Prop) (Q : Exit → St → Prop) : Exit → St → Prop
  | .normal, s => N s
  | e, s => Q e s
def blockQ (id : Nat) (Q : Exit → St → Prop) : Exit → St → Prop
  | .exit id', s => if id' = id then Q .normal s else Q (.exit id') s
  | e, s => Q e s
theorem AWP.mono {c : Code} {Q Q' : Exit → St → Prop} (hq : ∀ e s, Q e s → Q' e s) (h : AWP P B c Q s) : AWP P B c Q' s := fun X σ a w hs =>
  Code.wp_mono (fun e a w ⟨σ', s', h1, h2, h3⟩ => ⟨σ', s', hq _ _ h1, h2, h3⟩) (h X σ a w hs)
theorem AWP.ghost {c : Code} {Q : Exit → St → Prop} (hg : Ghost B s s') (h : AWP P B c Q s') : AWP P B c Q s := fun X σ a w hs => by
  obtain ⟨σ1, h1, h2⟩ := hg X σ a w hs
  exact Code.wp_mono (fun e a w ⟨σ', s', h3, h4, h5⟩ => ⟨σ', s', h3, h4, h2.trans h5⟩) (h X σ1 a w h1)
theorem AWP.skip {Q : Exit → St → Prop} (h : Q .normal s) : AWP P B .skip Q s := fun X σ a w hs => wp_skip ⟨σ, s, h, hs, StepB.refl _ _ _ _⟩
theorem AWP.ret {Q : Exit → St → Prop} (h : Q .ret s) : AWP P B .ret Q s := fun X σ a w hs => wp_ret ⟨σ, s, h, hs, StepB.refl _ _ _ _⟩
theorem AWP.exit {id : Nat} {Q : Exit → St → Prop} (h : Q (.exit id) s) : AWP P B (.exit id) Q s := fun X σ a w hs => wp_exit ⟨σ, s, h, hs, StepB.refl _ _ _ _⟩
theorem AWP.label {l : Nat} {Q : Exit → St → Prop} (h : Q .normal s) : AWP P B (.label l) Q s := fun X σ a w hs => wp_label ⟨σ, s, h, hs, StepB.refl _ _ _ _⟩
theorem AWP.seq {c d : Code} {Q : Exit → St → Prop} (h : AWP P B c (thenQ (AWP P B d Q) Q) s) : AWP P B (.seq c d) Q s := fun X σ a w hs =>
  wp_seq (Code.wp_mono (fun e a1 w1 ⟨σ1, s1, h1, h2, h3⟩ => by
    cases e with
    | normal => exact Code.wp_mono (fun e a2 w2 ⟨σ2, s2, h4, h5, h6⟩ => ⟨σ2, s2, h4, h5, h3.trans h6⟩) (h1 X σ1 a1 w1 h2)
    | _ => exact ⟨σ1, s1, h1, h2, h3⟩) (h X σ a w hs))
theorem AWP.block {id : Nat} {c : Code} {Q : Exit → St → Prop} (h : AWP P B c (blockQ id Q) s) : AWP P B (.block id c) Q s := fun X σ a w hs =>
  wp_block (Code.wp_mono (fun e a1 w1 ⟨σ1, s1, h1, h2, h3⟩ => by
    cases e with
    | exit id' =>
      simp only [Exit.inBlock]
      simp only [blockQ] at h1
      split
      · rename_i he; rw [if_pos he] at h1; exact ⟨σ1, s1, h1, h2, h3⟩
      · rename_i he; rw [if_neg he] at h1; exact ⟨σ1, s1, h1, h2, h3⟩
    | _ => exact ⟨σ1, s1, h1, h2, h3⟩) (h X σ a w hs))
/-- A test. -/
def testB (s : St) (c : Operand) : Option Bool := match ev s c with | some (.c (.v (.bool b))) => some b | _ => none
theorem AWP.cond {c : Operand} {x y : Code} {b : Bool} {Q : Exit → St → Prop} (hc : testB s c = some b) (ht : b = true → AWP P B x Q s) (hf : b = false → AWP P B y Q s) : AWP P B (.cond c x y) Q s := fun X σ a w hs => by
  have he : a.eval c = .bool b := by
    unfold testB at hc
    split at hc
    · rename_i b' hb
      cases hc
      exact (ev_rep hs.env (fun _ _ => trivial) hb).1
    · cases hc
  exact wp_cond_split he (fun h => ht h X σ a w hs) (fun h => hf h X σ a w hs)
theorem AWP.region {Γ : Gam} (hΓ : GamOk P Γ) {id : Nat} {ops : Array Oper} {Q : Exit → St → Prop} (h : aops P Γ ops.toList ops.toList s = some s') (hq : Q .normal s') : AWP P B (.region id ops false) Q s := fun X σ a w hs =>
  wp_region_list (wpList_sound hΓ h hs fun σ' a' w' h1 h2 => ⟨σ', s', hq, h1, h2.toB⟩)
theorem AWP.loop {c : Code} {Q : Exit → St → Prop} (I : St → Prop) (μ : St → Nat) (h0 : ∃ s0, Ghost B s s0 ∧ I s0) (round : ∀ s, I s → AWP P B c (thenQ (fun s' => ∃ s'', Ghost B s' s'' ∧ I s'' ∧ μ s'' < μ s) Q) s) : AWP P B (.loop c) Q s := fun X σ a w hs => by
  obtain ⟨s0, hg, hI0⟩ := h0
  obtain ⟨σ0, hs0, hst0⟩ := hg X σ a w hs
  have key : ∀ (n : Nat) (σ1 : Sg) (s1 : St) (a1 : Act) (w1 : World), μ s1 = n → I s1 → StRep X σ1 s1 a1 w1 → StepB B σ s.H w σ1 s1.H w1 →
      ∀ b k cs, ∃ e a' w', (∃ σ' s', Q e s' ∧ StRep X σ' s' a' w' ∧ StepB B σ s.H w σ' s'.H w') ∧ Arrives P (lone (b.at a1 (.code c :: .inLoop c :: k)) cs w1) b k cs e a' w' := by
    intro n
    induction n using Nat.strongRecOn with
    | _ n ih =>
      intro σ1 s1 a1 w1 hn hI hs1 hst1 b k cs
      obtain ⟨e, a2, w2, ⟨σ2, s2, hq, hs2, hst2⟩, harr⟩ := round s1 hI X σ1 a1 w1 hs1 b (.inLoop c :: k) cs
      cases e with
      | normal =>
        obtain ⟨s3, hg3, hI3, hlt⟩ := hq
        obtain ⟨σ3, hs3, hst3⟩ := hg3 X σ2 a2 w2 hs2
        obtain ⟨e4, a4, w4, hq4, harr4⟩ := ih (μ s3) (hn ▸ hlt) σ3 s3 a2 w2 rfl hI3 hs3 ((hst1.trans hst2).trans hst3) b k cs
        exact ⟨e4, a4, w4, hq4, .of_steps (Steps.trans harr (.one step_inLoop)) harr4⟩
      | exit id => exact ⟨_, a2, w2, ⟨σ2, s2, hq, hs2, hst1.trans hst2⟩, .pass (x := .inLoop c) rfl (fun _ _ => .inl (by simp)) harr⟩
      | goto l => exact ⟨_, a2, w2, ⟨σ2, s2, hq, hs2, hst1.trans hst2⟩, .pass (x := .inLoop c) rfl (fun _ _ => .inl (by simp)) harr⟩
      | ret => exact ⟨_, a2, w2, ⟨σ2, s2, hq, hs2, hst1.trans hst2⟩, .pass (x := .inLoop c) rfl (fun _ _ => .inl (by simp)) harr⟩
      | panic ch => exact ⟨_, a2, w2, ⟨σ2, s2, hq, hs2, hst1.trans hst2⟩, .pass (x := .inLoop c) rfl (fun _ _ => .inl (by simp)) harr⟩
      | outgrown => exact ⟨_, a2, w2, ⟨σ2, s2, hq, hs2, hst1.trans hst2⟩, .pass (x := .inLoop c) rfl (fun _ _ => .inl (by simp)) harr⟩
  intro b k cs
  obtain ⟨e, a', w', hq, harr⟩ := key _ σ0 s0 a w rfl hI0 hs0 hst0 b k cs
  exact ⟨e, a', w', hq, .of_steps (.one step_loop) harr⟩
end
end Go.Proofs.Ytbdnhoddkdiogaa
