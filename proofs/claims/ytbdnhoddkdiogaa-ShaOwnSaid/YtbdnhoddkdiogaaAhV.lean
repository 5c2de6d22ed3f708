/- AHI, part V: the walk as a program: closed runs, with fuel, calls included. -/
import Derived.Test.YtbdnhoddkdiogaaAhU
import Derived.LoopN
set_option linter.unusedSimpArgs false
set_option linter.unusedVariables false
namespace Go.Proofs.Ytbdnhoddkdiogaa
open Go.RowKit

def CV.ids : CV → List Nat
  | .ptr id _ _ _ => [id] | .sl id _ _ _ => [id] | .fn _ l => l | _ => []
def Row.ids : Row → List Nat
  | .raw l => l.flatMap CV.ids | .ty _ _ => []
def AV.ids1 : AV → List Nat
  | .c x => x.ids | .agg r => r.ids | .tup _ => []
def AV.ids : AV → List Nat
  | .c x => x.ids | .agg r => r.ids | .tup l => l.flatMap AV.ids1
def addNew : List Nat → List Nat → List Nat
  | [], A => A
  | x :: l, A => addNew l (if A.contains x then A else A ++ [x])
/-- The rows that can be come to. -/
def reach (H : Hp) : Nat → List Nat → List Nat → List Nat
  | 0, _, A => A
  | n + 1, l, A => match l with
    | [] => A
    | id :: l => if A.contains id then reach H n l A else match hrow H id with
      | some r => reach H n (r.ids ++ l) (A ++ [id])
      | none => reach H n l A
def evIds (s : St) (x : Operand) : List Nat := match ev s x with | some a => a.ids | none => []
/-- The rows that an operation needs. -/
def needs (s : St) : Op → List Nat
  | .load _ x => addNew (evIds s x) []
  | .store _ x _ => addNew (evIds s x) []
  | .slice _ x _ _ _ => (match ev s x with | some (.c (.ptr id _ _ _)) => [id] | _ => [])
  | .call c => match c.callee with
    | .builtin _ => addNew (c.args.toList.flatMap (evIds s)) []
    | .value f => reach s.H 10000 (evIds s f ++ c.args.toList.flatMap (evIds s)) []
    | _ => []
  | _ => []
/-- Operations that leave all rows. -/
def quietOp : Op → Bool
  | .store _ _ _ => false
  | .call c => match c.callee with | .builtin .len => true | .builtin .max => true | .builtin .min => true | _ => false
  | _ => true
section
variable {P : Program} {Γ : Gam} {s s' : St} {H H' : Hp} {x : AV}
theorem sm_H {y : Option AV} (h : sm H y = some (x, H')) : H' = H := by
  unfold sm at h
  cases y with
  | none => cases h
  | some a => cases h; rfl
theorem take_self_append {α : Type} (l m : List α) : (l ++ m).take l.length = l := by simp
theorem quiet_aop {o : Op} (hq : quietOp o = true) (h : aop P Γ s o = some (x, H')) : H'.take s.H.length = s.H ∧ s.H.length ≤ H'.length := by
  have same : H' = s.H → H'.take s.H.length = s.H ∧ s.H.length ≤ H'.length := fun e => by subst e; simp
  have app : (∃ r, H' = s.H ++ r) → H'.take s.H.length = s.H ∧ s.H.length ≤ H'.length := fun ⟨r, e⟩ => by subst e; simp
  cases o with
  | move x => exact same (sm_H h)
  | assign x => exact same (sm_H h)
  | pick c x y =>
    simp only [aop] at h
    split at h
    · split at h <;> exact same (sm_H h)
    · cases h
  | alloc t => simp only [aop] at h; obtain ⟨r, -, e⟩ := Option.map_eq_some_iff.1 h; cases e; exact app ⟨_, rfl⟩
  | box t x =>
    simp only [aop] at h
    split at h
    · obtain ⟨r, -, e⟩ := Option.map_eq_some_iff.1 h; cases e; exact app ⟨_, rfl⟩
    · cases h
  | build t ps => exact same (sm_H h)
  | buildSlice t n ps =>
    simp only [aop, abuildSlice, abuild0] at h
    split at h
    · repeat (first | (split at h) | (cases h))
      all_goals first | exact app ⟨_, rfl⟩ | (cases h; done) | (split at h <;> cases h <;> exact app ⟨_, rfl⟩) | skip
    · repeat (first | (split at h) | (cases h))
      all_goals first | exact app ⟨_, rfl⟩ | (cases h; done) | (split at h <;> cases h <;> exact app ⟨_, rfl⟩) | skip
  | load t x =>
    simp only [aop] at h
    split at h
    · exact same (sm_H h)
    · cases h
  | store t x y => cases hq
  | nilCheck x =>
    simp only [aop] at h
    split at h <;> cases h <;> exact same rfl
  | binOp op t x y u =>
    simp only [aop] at h
    split at h
    · exact same (sm_H h)
    · cases h
  | unOp op t x =>
    simp only [aop] at h
    split at h
    · exact same (sm_H h)
    · cases h
  | convert a b x =>
    simp only [aop] at h
    split at h
    · exact same (sm_H h)
    · cases h
  | makeFunc f a b =>
    cases f with
    | func g =>
      simp only [aop] at h
      split at h
      · split at h
        · cases h; exact same rfl
        · obtain ⟨r, -, e⟩ := Option.map_eq_some_iff.1 h; cases e; exact same rfl
      · cases h
    | _ => simp only [aop] at h; cases h
  | makeSlice t l c =>
    simp only [aop] at h
    split at h
    · unfold amake at h
      repeat (first | (split at h) | (cases h))
      all_goals first | exact app ⟨_, rfl⟩ | (cases h; done) | skip
    · cases h
  | slice t x lo hi m =>
    cases m with
    | none =>
      simp only [aop] at h
      split at h
      · exact same (sm_H h)
      · cases h
    | some m =>
      simp only [aop] at h
      split at h
      · exact same (sm_H h)
      · cases h
  | fieldAddr t x f =>
    simp only [aop] at h
    split at h
    · exact same (sm_H h)
    · cases h
  | field t x f =>
    simp only [aop] at h
    split at h
    · exact same (sm_H h)
    · cases h
  | indexAddr t x i =>
    simp only [aop] at h
    split at h
    · exact same (sm_H h)
    · cases h
  | index t x i =>
    simp only [aop] at h
    split at h
    · exact same (sm_H h)
    · cases h
  | extract x i =>
    simp only [aop] at h
    split at h
    · exact same (sm_H h)
    · cases h
  | call c =>
    obtain ⟨cal, args, ts⟩ := c
    simp only [quietOp] at hq
    simp only [aop, acall] at h
    cases cal with
    | builtin b =>
      simp only at h hq
      split at h
      · unfold abuiltin at h
        split at h
        all_goals first
          | (cases hq; done)
          | skip
        all_goals (repeat (first | (split at h) | (cases h)))
        all_goals first | exact same rfl | (cases hq; done) | (cases h; done) | (obtain ⟨r, -, e⟩ := Option.map_eq_some_iff.1 h; cases e; exact same rfl) | skip
      · cases h
    | value f => cases hq
    | invoke r m => cases hq
  | _ => simp only [aop] at h; cases h
/-- One operation, its plan found. -/
def autoOne (P : Program) (Γ : Gam) (ops : List Oper) (o : Oper) (s : St) : Option (Pl × St) :=
  match aguard ops s o with
  | some true => match needs s o.op with
    | m => match aop P Γ ⟨s.n, s.env, maskH m 0 s.H⟩ o.op with
      | some (x, H') => if s.H.length ≤ H'.length ∧ x.under H'.length = true ∧ underH H'.length H' = true then
          match (⟨m, quietOp o.op, H'.length - s.H.length⟩ : Pl) with
          | p => match put s o.dst x (mergeH p.w 0 s.H H') with | some s' => some (p, s') | none => none
        else none
      | none => none
  | some false => match put s o.dst (.tup []) s.H with | some s' => some (⟨[], true, 0⟩, s') | none => none
  | none => none
def autoRun (P : Program) (Γ : Gam) (ops : List Oper) : List Oper → St → Option (List Pl × St)
  | [], s => some ([], s)
  | o :: l, s => match autoOne P Γ ops o s with
    | some (p, s1) => match autoRun P Γ ops l s1 with | some (pl, s') => some (p :: pl, s') | none => none
    | none => none
theorem autoRun_sound {ops : List Oper} : ∀ {l : List Oper} {s s' : St} {pl : List Pl}, autoRun P Γ ops l s = some (pl, s') → arun P Γ ops l pl s (fun s1 => s1 = s')
  | [], s, s', pl, h => by cases h; exact rfl
  | o :: l, s, s', pl, h => by
    simp only [autoRun] at h
    split at h
    · rename_i p s1 h1
      split at h
      · rename_i pl1 s2 h2
        cases h
        have ih := autoRun_sound h2
        unfold autoOne at h1
        split at h1
        · rename_i hg
          simp only at h1
          split at h1
          · rename_i x H' hx
            split at h1
            · rename_i hc
              split at h1
              · rename_i s3 h3
                cases h1
                refine arun_step hg hx (fun hq => ?_) (by simp only; omega) hc.2.1 hc.2.2 h3 ih
                have := (quiet_aop hq hx).1
                simpa [maskH_len] using this
              · cases h1
            · cases h1
          · cases h1
        · rename_i hg
          split at h1
          · rename_i s3 h3
            cases h1
            exact arun_pass hg rfl h3 ih
          · cases h1
        · cases h1
      · cases h
    · cases h
/-- Code, with fuel. -/
def xrun (P : Program) (Γ : Gam) : Nat → Code → St → Option (Exit × St)
  | 0, _, _ => none
  | n + 1, c, s => match c with
    | .skip => some (.normal, s)
    | .label _ => some (.normal, s)
    | .exit id => some (.exit id, s)
    | .ret => some (.ret, s)
    | .region _ ops false => match aops P Γ ops.toList ops.toList s with | some s' => some (.normal, s') | none => none
    | .region _ ops true => match autoRun P Γ ops.toList ops.toList s with
      | some (pl, s') => if drawnOk ops pl s.H.length = true ∧ underE s.H.length s.env = true ∧ underH s.H.length s.H = true then some (.normal, s') else none
      | none => none
    | .seq a b => match xrun P Γ n a s with
      | some (.normal, s') => xrun P Γ n b s'
      | r => r
    | .cond c x y => match testB s c with | some true => xrun P Γ n x s | some false => xrun P Γ n y s | none => none
    | .block id c => match xrun P Γ n c s with
      | some (.exit id', s') => if id' = id then some (.normal, s') else some (.exit id', s')
      | r => r
    | .loop c => match xrun P Γ n c s with
      | some (.normal, s') => xrun P Γ n (.loop c) s'
      | r => r
    | _ => none
/-- Rounds of a loop. -/
def awpRounds (P : Program) (B : Nat) (c : Code) (Q : Exit → St → Prop) : Nat → St → Prop
  | 0, _ => False
  | n + 1, s => AWP P B c (thenQ (awpRounds P B c Q n) Q) s
theorem AWP.rounds {B : Nat} {c : Code} {Q : Exit → St → Prop} : ∀ {n : Nat} {s : St}, awpRounds P B c Q n s → AWP P B (.loop c) Q s := by
  intro n s h X σ a w hs
  refine wp_loop_rounds n ?_
  have key : ∀ (n : Nat) (s1 : St) (σ1 : Sg) (a1 : Act) (w1 : World), awpRounds P B c Q n s1 → StRep X σ1 s1 a1 w1 → StepB B σ s.H w σ1 s1.H w1 →
      Code.rounds P c (fun e a' w' => ∃ σ' s', Q e s' ∧ StRep X σ' s' a' w' ∧ StepB B σ s.H w σ' s'.H w') n a1 w1 := by
    intro n
    induction n with
    | zero => intro s1 σ1 a1 w1 h; exact h.elim
    | succ n ih =>
      intro s1 σ1 a1 w1 h hs1 hst1
      rw [rounds_succ]
      refine Code.wp_mono (fun e a2 w2 ⟨σ2, s2, h1, h2, h3⟩ => ?_) (h X σ1 a1 w1 hs1)
      cases e with
      | normal => exact ih s2 σ2 a2 w2 h1 h2 (hst1.trans h3)
      | _ => exact ⟨σ2, s2, h1, h2, hst1.trans h3⟩
  exact key n s σ a w h hs (StepB.refl _ _ _ _)
theorem xrun_sound (hΓ : GamOk P Γ) (hm : P.follows .mixedOrders = true) {B : Nat} : ∀ (n : Nat) {c : Code} {s s' : St} {e : Exit}, xrun P Γ n c s = some (e, s') → AWP P B c (fun e1 s1 => e1 = e ∧ s1 = s') s ∧ ∀ c', c = .loop c' → awpRounds P B c' (fun e1 s1 => e1 = e ∧ s1 = s') n s := by
  intro n
  induction n with
  | zero => intro c s s' e h; simp [xrun] at h
  | succ n ih =>
    intro c s s' e h
    have ih' : ∀ {c : Code} {s s' : St} {e : Exit}, xrun P Γ n c s = some (e, s') → AWP P B c (fun e1 s1 => e1 = e ∧ s1 = s') s := fun h => (ih h).1
    unfold xrun at h
    cases c with
    | skip => cases h; exact ⟨AWP.skip ⟨rfl, rfl⟩, fun c' h => by cases h⟩
    | label l => cases h; exact ⟨AWP.label ⟨rfl, rfl⟩, fun c' h => by cases h⟩
    | exit id => cases h; exact ⟨AWP.exit ⟨rfl, rfl⟩, fun c' h => by cases h⟩
    | ret => cases h; exact ⟨AWP.ret ⟨rfl, rfl⟩, fun c' h => by cases h⟩
    | region id ops d =>
      refine ⟨?_, fun c' h => by cases h⟩
      cases d with
      | false =>
        simp only at h
        split at h
        · rename_i s1 h1; cases h; exact AWP.region hΓ h1 ⟨rfl, rfl⟩
        · cases h
      | true =>
        simp only at h
        split at h
        · rename_i pl s1 h1
          split at h
          · rename_i hc; cases h
            refine AWP.drawn hΓ hm pl hc.1 hc.2.1 hc.2.2 ?_
            have := autoRun_sound h1
            simpa using this
          · cases h
        · cases h
    | seq a b =>
      refine ⟨?_, fun c' h => by cases h⟩
      simp only at h
      split at h
      · rename_i s1 h1
        refine AWP.seq (AWP.mono (fun e1 s2 hq => ?_) (ih' h1))
        obtain ⟨rfl, rfl⟩ := hq
        exact ih' h
      · rename_i hne
        refine AWP.seq (AWP.mono (fun e1 s2 hq => ?_) (ih' h))
        obtain ⟨rfl, rfl⟩ := hq
        cases e1 with
        | normal => exact (hne _ h).elim
        | _ => exact ⟨rfl, rfl⟩
    | cond c x y =>
      refine ⟨?_, fun c' h => by cases h⟩
      simp only at h
      split at h
      · rename_i hb; exact AWP.cond hb (fun _ => ih' h) (fun e => by cases e)
      · rename_i hb; exact AWP.cond hb (fun e => by cases e) (fun _ => ih' h)
      · cases h
    | block id c =>
      refine ⟨?_, fun c' h => by cases h⟩
      simp only at h
      split at h
      · rename_i id' s1 h1
        refine AWP.block (AWP.mono (fun e1 s2 hq => ?_) (ih' h1))
        obtain ⟨rfl, rfl⟩ := hq
        simp only [blockQ]
        split at h
        · rename_i hid; cases h; rw [if_pos hid]; exact ⟨rfl, rfl⟩
        · rename_i hid; cases h; rw [if_neg hid]; exact ⟨rfl, rfl⟩
      · rename_i hne
        refine AWP.block (AWP.mono (fun e1 s2 hq => ?_) (ih' h))
        obtain ⟨rfl, rfl⟩ := hq
        cases e1 with
        | exit id' => exact (hne _ _ h).elim
        | _ => exact ⟨rfl, rfl⟩
    | loop c =>
      have hr : awpRounds P B c (fun e1 s1 => e1 = e ∧ s1 = s') (n + 1) s := by
        simp only at h
        split at h
        · rename_i s1 h1
          refine AWP.mono (fun e1 s2 hq => ?_) (ih' h1)
          obtain ⟨rfl, rfl⟩ := hq
          exact (ih h).2 c rfl
        · rename_i hne
          refine AWP.mono (fun e1 s2 hq => ?_) (ih' h)
          obtain ⟨rfl, rfl⟩ := hq
          cases e1 with
          | normal => exact (hne _ h).elim
          | _ => exact ⟨rfl, rfl⟩
      exact ⟨AWP.rounds hr, fun c' e => by cases e; exact hr⟩
    | _ => cases h
/-- A body, run; all rows are kept. -/
def xbody (P : Program) (Γ : Gam) (n : Nat) (g : FuncId) (args : List AV) (H : Hp) : Option (List AV × St) :=
  match P.funcs[g]? with
  | some fn => match fn.body with
    | some c => if callable P g = true ∧ args.length ≤ fn.ntmps then
        match xrun P Γ n c ⟨fn.ntmps, params 0 args, H⟩ with
        | some (.normal, s) => (match aresult P s fn.results.toList with | some xs => some (xs, s) | none => none)
        | some (.ret, s) => (match aresult P s fn.results.toList with | some xs => some (xs, s) | none => none)
        | _ => none
      else none
    | none => none
  | none => none
theorem xbody_sound (hΓ : GamOk P Γ) (hm : P.follows .mixedOrders = true) {n : Nat} {g : FuncId} {args xs : List AV} {H H' : Hp} {s : St} {r : AV} (ρ : List Nat) (hx : xbody P Γ n g args H = some (xs, s)) (hr : (tupled xs).ren ρ = some r) (hH : gcH ρ s.H ρ = some H')
    (hn : nodupB ρ = true) (hB : firstB H.length ρ = true) (hl : H.length ≤ ρ.length) : CallOk P g args H r H' := by
  unfold xbody at hx
  split at hx
  · rename_i fn hf
    split at hx
    · rename_i c hb
      split at hx
      · rename_i hc
        split at hx
        · rename_i s1 h1
          split at hx
          · rename_i ys h2
            cases hx
            refine callOk hf hb hc.1 hc.2 ρ hn hB hl (AWP.mono (fun e s2 hq => ?_) (xrun_sound hΓ hm n h1).1)
            obtain ⟨rfl, rfl⟩ := hq
            exact ⟨.inl rfl, xs, h2, hr, hH⟩
          · cases hx
        · rename_i s1 h1
          split at hx
          · rename_i ys h2
            cases hx
            refine callOk hf hb hc.1 hc.2 ρ hn hB hl (AWP.mono (fun e s2 hq => ?_) (xrun_sound hΓ hm n h1).1)
            obtain ⟨rfl, rfl⟩ := hq
            exact ⟨.inr rfl, xs, h2, hr, hH⟩
          · cases hx
        · cases hx
      · cases hx
    · cases hx
  · cases hx
/-- Calls by fuel, where Γ does not know them. -/
def crun (P : Program) (Γ : Gam) (m : Nat) : Nat → Gam
  | 0 => Γ
  | n + 1 => fun g args H => match Γ g args H with
    | some r => some r
    | none => match xbody P (crun P Γ m n) m g args H with
      | some (xs, s) => match List.range s.H.length with
        | ρ => match (tupled xs).ren ρ, gcH ρ s.H ρ with
          | some r, some H' => if nodupB ρ = true ∧ firstB H.length ρ = true ∧ H.length ≤ ρ.length then some (r, H') else none
          | _, _ => none
      | none => none
theorem crun_ok (hΓ : GamOk P Γ) (hm : P.follows .mixedOrders = true) (m : Nat) : ∀ n, GamOk P (crun P Γ m n)
  | 0 => hΓ
  | n + 1 => fun g args H r H' h => by
    unfold crun at h
    split at h
    · rename_i r1 h1; cases h; exact hΓ _ _ _ _ _ h1
    · split at h
      · rename_i xs s hx
        simp only at h
        split at h
        · rename_i r1 H1 h1 h2
          split at h
          · rename_i hc; cases h; exact xbody_sound (crun_ok hΓ hm m n) hm _ hx h1 h2 hc.1 hc.2.1 hc.2.2
          · cases h
        · cases h
      · cases h
/-- A closed call that yields true. -/
def isTrue : Option (List AV × St) → Bool
  | some ([.c (.v (.bool true))], _) => true | _ => false
theorem closed_true (hΓ : GamOk P Γ) (hm : P.follows .mixedOrders = true) {m n : Nat} {g : FuncId} (h : isTrue (xbody P (crun P Γ m n) m g [] []) = true) : CallOk P g [] [] (.c (cb true)) [] := by
  unfold isTrue at h
  split at h
  · rename_i s hx
    exact xbody_sound (crun_ok hΓ hm m n) hm [] hx rfl rfl rfl rfl (Nat.le_refl _)
  · cases h
end
end Go.Proofs.Ytbdnhoddkdiogaa
