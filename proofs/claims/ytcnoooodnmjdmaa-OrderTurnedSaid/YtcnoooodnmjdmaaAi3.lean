import Derived.Test.YtcnoooodnmjdmaaAi2
import Derived.LoopN
import Derived.OpenShut
import Derived.ChangeArms
import Derived.Deep.Matrix
import Derived.Below
section
set_option linter.unusedSimpArgs false
set_option linter.unusedVariables false
/- AHI, part V: the walk as a program: closed runs, with fuel, calls included. -/
namespace Go.Proofs.Ytcnoooodnmjdmaa
open Go.RowKit

def CV.ids : CV → List Nat
  | .ptr id _ _ _ => [id] | .sl id _ _ _ => [id] | .fn _ l => l | _ => []
def Row.ids : Row → List Nat
  | .raw l => l.flatMap CV.ids | .ty _ _ => []
def AV.ids1 : AV → List Nat
  | .c x => x.ids | .agg r => r.ids | .tup _ => []
def AV.ids : AV → List Nat
  | .c x => x.ids | .agg r => r.ids | .tup l => l.flatMap AV.ids1
def addNew : List Nat → List Nat → List Nat
  | [], A => A
  | x :: l, A => addNew l (if A.contains x then A else A ++ [x])
/-- The rows that can be come to. -/
def reach (H : Hp) : Nat → List Nat → List Nat → List Nat
  | 0, _, A => A
  | n + 1, l, A => match l with
    | [] => A
    | id :: l => if A.contains id then reach H n l A else match hrow H id with
      | some r => reach H n (r.ids ++ l) (A ++ [id])
      | none => reach H n l A
def evIds (s : St) (x : Operand) : List Nat := match ev s x with | some a => a.ids | none => []
/-- The rows that an operation needs. -/
def needs (s : St) : Op → List Nat
  | .load _ x => addNew (evIds s x) []
  | .store _ x _ => addNew (evIds s x) []
  | .slice _ x _ _ _ => (match ev s x with | some (.c (.ptr id _ _ _)) => [id] | _ => [])
  | .call c => match c.callee with
    | .builtin _ => addNew (c.args.toList.flatMap (evIds s)) []
    | .value f => reach s.H 10000 (evIds s f ++ c.args.toList.flatMap (evIds s)) []
    | _ => []
  | _ => []
/-- Operations that leave all rows. -/
def quietOp : Op → Bool
  | .store _ _ _ => false
  | .convert a b _ => a != b
  | .call c => match c.callee with | .builtin .len => true | .builtin .max => true | .builtin .min => true | _ => false
  | _ => true
section
variable {P : Program} {Γ : Gam} {s s' : St} {H H' : Hp} {x : AV}
theorem sm_H {y : Option AV} (h : sm H y = some (x, H')) : H' = H := by
  unfold sm at h
  cases y with
  | none => cases h
  | some a => cases h; rfl
theorem take_self_append {α : Type} (l m : List α) : (l ++ m).take l.length = l := by simp
theorem quiet_aop {o : Op} (hq : quietOp o = true) (h : aop P Γ s o = some (x, H')) : H'.take s.H.length = s.H ∧ s.H.length ≤ H'.length := by
  have same : H' = s.H → H'.take s.H.length = s.H ∧ s.H.length ≤ H'.length := fun e => by subst e; simp
  have app : (∃ r, H' = s.H ++ r) → H'.take s.H.length = s.H ∧ s.H.length ≤ H'.length := fun ⟨r, e⟩ => by subst e; simp
  cases o with
  | move x => exact same (sm_H h)
  | assign x => exact same (sm_H h)
  | pick c x y =>
    simp only [aop] at h
    split at h
    · split at h <;> exact same (sm_H h)
    · cases h
  | alloc t => simp only [aop] at h; obtain ⟨r, -, e⟩ := Option.map_eq_some_iff.1 h; cases e; exact app ⟨_, rfl⟩
  | box t x =>
    simp only [aop] at h
    split at h
    · obtain ⟨r, -, e⟩ := Option.map_eq_some_iff.1 h; cases e; exact app ⟨_, rfl⟩
    · cases h
  | build t ps => exact same (sm_H h)
  | buildSlice t n ps =>
    simp only [aop, abuildSlice, abuild0] at h
    split at h
    · repeat (first | (split at h) | (cases h))
      all_goals first | exact app ⟨_, rfl⟩ | (cases h; done) | (split at h <;> cases h <;> exact app ⟨_, rfl⟩) | skip
    · repeat (first | (split at h) | (cases h))
      all_goals first | exact app ⟨_, rfl⟩ | (cases h; done) | (split at h <;> cases h <;> exact app ⟨_, rfl⟩) | skip
  | load t x =>
    simp only [aop] at h
    split at h
    · exact same (sm_H h)
    · cases h
  | store t x y => cases hq
  | nilCheck x =>
    simp only [aop] at h
    split at h <;> cases h <;> exact same rfl
  | binOp op t x y u =>
    simp only [aop] at h
    split at h
    · exact same (sm_H h)
    · cases h
  | unOp op t x =>
    simp only [aop] at h
    split at h
    · exact same (sm_H h)
    · cases h
  | convert a b x =>
    simp only [aop] at h
    split at h
    · split at h
      · cases h; exact same rfl
      · split at h
        · cases h; exact same rfl
        · have hab : a ≠ b := by simpa [quietOp] using hq
          unfold aself at h
          rw [if_neg hab] at h
          cases h
    · cases h
  | makeFunc f a b =>
    cases f with
    | func g =>
      simp only [aop] at h
      split at h
      · split at h
        · cases h; exact same rfl
        · obtain ⟨r, -, e⟩ := Option.map_eq_some_iff.1 h; cases e; exact same rfl
      · cases h
    | _ => simp only [aop] at h; cases h
  | makeSlice t l c =>
    simp only [aop] at h
    split at h
    · unfold amake at h
      repeat (first | (split at h) | (cases h))
      all_goals first | exact app ⟨_, rfl⟩ | (cases h; done) | skip
    · cases h
  | slice t x lo hi m =>
    cases m with
    | none =>
      simp only [aop] at h
      split at h
      · exact same (sm_H h)
      · cases h
    | some m =>
      simp only [aop] at h
      split at h
      · exact same (sm_H h)
      · cases h
  | fieldAddr t x f =>
    simp only [aop] at h
    split at h
    · exact same (sm_H h)
    · cases h
  | field t x f =>
    simp only [aop] at h
    split at h
    · exact same (sm_H h)
    · cases h
  | indexAddr t x i =>
    simp only [aop] at h
    split at h
    · exact same (sm_H h)
    · cases h
  | index t x i =>
    simp only [aop] at h
    split at h
    · exact same (sm_H h)
    · cases h
  | extract x i =>
    simp only [aop] at h
    split at h
    · exact same (sm_H h)
    · cases h
  | call c =>
    obtain ⟨cal, args, ts⟩ := c
    simp only [quietOp] at hq
    simp only [aop, acall] at h
    cases cal with
    | builtin b =>
      simp only at h hq
      split at h
      · unfold abuiltin at h
        split at h
        all_goals first
          | (cases hq; done)
          | skip
        all_goals (repeat (first | (split at h) | (cases h)))
        all_goals first | exact same rfl | (cases hq; done) | (cases h; done) | (obtain ⟨r, -, e⟩ := Option.map_eq_some_iff.1 h; cases e; exact same rfl) | skip
      · cases h
    | value f => cases hq
    | invoke r m => cases hq
  | _ => simp only [aop] at h; cases h
/-- One operation, its plan found. -/
def autoOne (P : Program) (Γ : Gam) (ops : List Oper) (o : Oper) (s : St) : Option (Pl × St) :=
  match aguard ops s o with
  | some true => match needs s o.op with
    | m => match aop P Γ ⟨s.n, s.env, maskH m 0 s.H⟩ o.op with
      | some (x, H') => if s.H.length ≤ H'.length ∧ x.under H'.length = true ∧ underH H'.length H' = true then
          match (⟨m, quietOp o.op, H'.length - s.H.length⟩ : Pl) with
          | p => match put s o.dst x (mergeH p.w 0 s.H H') with | some s' => some (p, s') | none => none
        else none
      | none => none
  | some false => match put s o.dst (.tup []) s.H with | some s' => some (⟨[], true, 0⟩, s') | none => none
  | none => none
def autoRun (P : Program) (Γ : Gam) (ops : List Oper) : List Oper → St → Option (List Pl × St)
  | [], s => some ([], s)
  | o :: l, s => match autoOne P Γ ops o s with
    | some (p, s1) => match autoRun P Γ ops l s1 with | some (pl, s') => some (p :: pl, s') | none => none
    | none => none
theorem autoRun_sound {ops : List Oper} : ∀ {l : List Oper} {s s' : St} {pl : List Pl}, autoRun P Γ ops l s = some (pl, s') → arun P Γ ops l pl s (fun s1 => s1 = s')
  | [], s, s', pl, h => by cases h; exact rfl
  | o :: l, s, s', pl, h => by
    simp only [autoRun] at h
    split at h
    · rename_i p s1 h1
      split at h
      · rename_i pl1 s2 h2
        cases h
        have ih := autoRun_sound h2
        unfold autoOne at h1
        split at h1
        · rename_i hg
          simp only at h1
          split at h1
          · rename_i x H' hx
            split at h1
            · rename_i hc
              split at h1
              · rename_i s3 h3
                cases h1
                refine arun_step hg hx (fun hq => ?_) (by simp only; omega) hc.2.1 hc.2.2 h3 ih
                have := (quiet_aop hq hx).1
                simpa [maskH_len] using this
              · cases h1
            · cases h1
          · cases h1
        · rename_i hg
          split at h1
          · rename_i s3 h3
            cases h1
            exact arun_pass hg rfl (by simpa using h3) ih
          · cases h1
        · cases h1
      · cases h
    · cases h
/-- Code, with fuel. -/
def xrun (P : Program) (Γ : Gam) : Nat → Code → St → Option (Exit × St)
  | 0, _, _ => none
  | n + 1, c, s => match c with
    | .skip => some (.normal, s)
    | .label _ => some (.normal, s)
    | .exit id => some (.exit id, s)
    | .ret => some (.ret, s)
    | .region _ ops false => match aops P Γ ops.toList ops.toList s with | some s' => some (.normal, s') | none => none
    | .region _ ops true => match autoRun P Γ ops.toList ops.toList s with
      | some (pl, s') => if drawnOk ops pl s.H.length = true ∧ underE s.H.length s.env = true ∧ underH s.H.length s.H = true then some (.normal, s') else none
      | none => none
    | .seq a b => match xrun P Γ n a s with
      | some (.normal, s') => xrun P Γ n b s'
      | r => r
    | .cond c x y => match testB s c with | some true => xrun P Γ n x s | some false => xrun P Γ n y s | none => none
    | .block id c => match xrun P Γ n c s with
      | some (.exit id', s') => if id' = id then some (.normal, s') else some (.exit id', s')
      | r => r
    | .loop c => match xrun P Γ n c s with
      | some (.normal, s') => xrun P Γ n (.loop c) s'
      | r => r
    | _ => none
/-- Rounds of a loop. -/
def awpRounds (P : Program) (B : Nat) (c : Code) (Q : Exit → St → Prop) : Nat → St → Prop
  | 0, _ => False
  | n + 1, s => AWP P B c (thenQ (awpRounds P B c Q n) Q) s
theorem AWP.rounds {B : Nat} {c : Code} {Q : Exit → St → Prop} : ∀ {n : Nat} {s : St}, awpRounds P B c Q n s → AWP P B (.loop c) Q s := by
  intro n s h X σ a w hs
  refine wp_loop_rounds n ?_
  have key : ∀ (n : Nat) (s1 : St) (σ1 : Sg) (a1 : Act) (w1 : World), awpRounds P B c Q n s1 → StRep X σ1 s1 a1 w1 → StepB B σ s.H w σ1 s1.H w1 →
      Code.rounds P c (fun e a' w' => ∃ σ' s', Q e s' ∧ StRep X σ' s' a' w' ∧ StepB B σ s.H w σ' s'.H w') n a1 w1 := by
    intro n
    induction n with
    | zero => intro s1 σ1 a1 w1 h; exact h.elim
    | succ n ih =>
      intro s1 σ1 a1 w1 h hs1 hst1
      rw [rounds_succ]
      refine Code.wp_mono (fun e a2 w2 ⟨σ2, s2, h1, h2, h3⟩ => ?_) (h X σ1 a1 w1 hs1)
      cases e with
      | normal => exact ih s2 σ2 a2 w2 h1 h2 (hst1.trans h3)
      | _ => exact ⟨σ2, s2, h1, h2, hst1.trans h3⟩
  exact key n s σ a w h hs (StepB.refl _ _ _ _)
theorem xrun_sound (hΓ : GamOk P Γ) (hm : P.follows .mixedOrders = true) {B : Nat} : ∀ (n : Nat) {c : Code} {s s' : St} {e : Exit}, xrun P Γ n c s = some (e, s') → AWP P B c (fun e1 s1 => e1 = e ∧ s1 = s') s ∧ ∀ c', c = .loop c' → awpRounds P B c' (fun e1 s1 => e1 = e ∧ s1 = s') n s := by
  intro n
  induction n with
  | zero => intro c s s' e h; simp [xrun] at h
  | succ n ih =>
    intro c s s' e h
    have ih' : ∀ {c : Code} {s s' : St} {e : Exit}, xrun P Γ n c s = some (e, s') → AWP P B c (fun e1 s1 => e1 = e ∧ s1 = s') s := fun h => (ih h).1
    unfold xrun at h
    cases c with
    | skip => cases h; exact ⟨AWP.skip ⟨rfl, rfl⟩, fun c' h => by cases h⟩
    | label l => cases h; exact ⟨AWP.label ⟨rfl, rfl⟩, fun c' h => by cases h⟩
    | exit id => cases h; exact ⟨AWP.exit ⟨rfl, rfl⟩, fun c' h => by cases h⟩
    | ret => cases h; exact ⟨AWP.ret ⟨rfl, rfl⟩, fun c' h => by cases h⟩
    | region id ops d =>
      refine ⟨?_, fun c' h => by cases h⟩
      cases d with
      | false =>
        simp only at h
        split at h
        · rename_i s1 h1; cases h; exact AWP.region hΓ h1 ⟨rfl, rfl⟩
        · cases h
      | true =>
        simp only at h
        split at h
        · rename_i pl s1 h1
          split at h
          · rename_i hc; cases h
            refine AWP.drawn hΓ hm pl hc.1 hc.2.1 hc.2.2 ?_
            have := autoRun_sound h1
            simpa using this
          · cases h
        · cases h
    | seq a b =>
      refine ⟨?_, fun c' h => by cases h⟩
      simp only at h
      split at h
      · rename_i s1 h1
        refine AWP.seq (AWP.mono (fun e1 s2 hq => ?_) (ih' h1))
        obtain ⟨rfl, rfl⟩ := hq
        exact ih' h
      · rename_i hne
        refine AWP.seq (AWP.mono (fun e1 s2 hq => ?_) (ih' h))
        obtain ⟨rfl, rfl⟩ := hq
        cases e1 with
        | normal => exact (hne _ h).elim
        | _ => exact ⟨rfl, rfl⟩
    | cond c x y =>
      refine ⟨?_, fun c' h => by cases h⟩
      simp only at h
      split at h
      · rename_i hb; exact AWP.cond hb (fun _ => ih' h) (fun e => by cases e)
      · rename_i hb; exact AWP.cond hb (fun e => by cases e) (fun _ => ih' h)
      · cases h
    | block id c =>
      refine ⟨?_, fun c' h => by cases h⟩
      simp only at h
      split at h
      · rename_i id' s1 h1
        refine AWP.block (AWP.mono (fun e1 s2 hq => ?_) (ih' h1))
        obtain ⟨rfl, rfl⟩ := hq
        simp only [blockQ]
        split at h
        · rename_i hid; cases h; rw [if_pos hid]; exact ⟨rfl, rfl⟩
        · rename_i hid; cases h; rw [if_neg hid]; exact ⟨rfl, rfl⟩
      · rename_i hne
        refine AWP.block (AWP.mono (fun e1 s2 hq => ?_) (ih' h))
        obtain ⟨rfl, rfl⟩ := hq
        cases e1 with
        | exit id' => exact (hne _ _ h).elim
        | _ => exact ⟨rfl, rfl⟩
    | loop c =>
      have hr : awpRounds P B c (fun e1 s1 => e1 = e ∧ s1 = s') (n + 1) s := by
        simp only at h
        split at h
        · rename_i s1 h1
          refine AWP.mono (fun e1 s2 hq => ?_) (ih' h1)
          obtain ⟨rfl, rfl⟩ := hq
          exact (ih h).2 c rfl
        · rename_i hne
          refine AWP.mono (fun e1 s2 hq => ?_) (ih' h)
          obtain ⟨rfl, rfl⟩ := hq
          cases e1 with
          | normal => exact (hne _ h).elim
          | _ => exact ⟨rfl, rfl⟩
      exact ⟨AWP.rounds hr, fun c' e => by cases e; exact hr⟩
    | _ => cases h
/-- A body, run; all rows are kept. -/
def xbody (P : Program) (Γ : Gam) (n : Nat) (g : FuncId) (args : List AV) (H : Hp) : Option (List AV × St) :=
  match P.funcs[g]? with
  | some fn => match fn.body with
    | some c => if callable P g = true ∧ args.length ≤ fn.ntmps then
        match xrun P Γ n c ⟨fn.ntmps, params 0 args, H⟩ with
        | some (.normal, s) => (match aresult P s fn.results.toList with | some xs => some (xs, s) | none => none)
        | some (.ret, s) => (match aresult P s fn.results.toList with | some xs => some (xs, s) | none => none)
        | _ => none
      else none
    | none => none
  | none => none
theorem xbody_sound (hΓ : GamOk P Γ) (hm : P.follows .mixedOrders = true) {n : Nat} {g : FuncId} {args xs : List AV} {H H' : Hp} {s : St} {r : AV} (ρ : List Nat) (hx : xbody P Γ n g args H = some (xs, s)) (hr : (tupled xs).ren ρ = some r) (hH : gcH ρ s.H ρ = some H')
    (hn : nodupB ρ = true) (hB : firstB H.length ρ = true) (hl : H.length ≤ ρ.length) : CallOk P g args H r H' := by
  unfold xbody at hx
  split at hx
  · rename_i fn hf
    split at hx
    · rename_i c hb
      split at hx
      · rename_i hc
        split at hx
        · rename_i s1 h1
          split at hx
          · rename_i ys h2
            cases hx
            refine callOk hf hb hc.1 hc.2 ρ hn hB hl (AWP.mono (fun e s2 hq => ?_) (xrun_sound hΓ hm n h1).1)
            obtain ⟨rfl, rfl⟩ := hq
            exact ⟨.inl rfl, xs, h2, hr, hH⟩
          · cases hx
        · rename_i s1 h1
          split at hx
          · rename_i ys h2
            cases hx
            refine callOk hf hb hc.1 hc.2 ρ hn hB hl (AWP.mono (fun e s2 hq => ?_) (xrun_sound hΓ hm n h1).1)
            obtain ⟨rfl, rfl⟩ := hq
            exact ⟨.inr rfl, xs, h2, hr, hH⟩
          · cases hx
        · cases hx
      · cases hx
    · cases hx
  · cases hx
/-- Calls by fuel, where Γ does not know them. -/
def crun (P : Program) (Γ : Gam) (m : Nat) : Nat → Gam
  | 0 => Γ
  | n + 1 => fun g args H => match Γ g args H with
    | some r => some r
    | none => match xbody P (crun P Γ m n) m g args H with
      | some (xs, s) => match List.range s.H.length with
        | ρ => match (tupled xs).ren ρ, gcH ρ s.H ρ with
          | some r, some H' => if nodupB ρ = true ∧ firstB H.length ρ = true ∧ H.length ≤ ρ.length then some (r, H') else none
          | _, _ => none
      | none => none
theorem crun_ok (hΓ : GamOk P Γ) (hm : P.follows .mixedOrders = true) (m : Nat) : ∀ n, GamOk P (crun P Γ m n)
  | 0 => hΓ
  | n + 1 => fun g args H r H' h => by
    unfold crun at h
    split at h
    · rename_i r1 h1; cases h; exact hΓ _ _ _ _ _ h1
    · split at h
      · rename_i xs s hx
        simp only at h
        split at h
        · rename_i r1 H1 h1 h2
          split at h
          · rename_i hc; cases h; exact xbody_sound (crun_ok hΓ hm m n) hm _ hx h1 h2 hc.1 hc.2.1 hc.2.2
          · cases h
        · cases h
      · cases h
/-- A closed call that yields true. -/
def isTrue : Option (List AV × St) → Bool
  | some ([.c (.v (.bool true))], _) => true | _ => false
theorem closed_true (hΓ : GamOk P Γ) (hm : P.follows .mixedOrders = true) {m n : Nat} {g : FuncId} (h : isTrue (xbody P (crun P Γ m n) m g [] []) = true) : CallOk P g [] [] (.c (cb true)) [] := by
  unfold isTrue at h
  split at h
  · rename_i s hx
    exact xbody_sound (crun_ok hΓ hm m n) hm [] hx rfl rfl rfl rfl (Nat.le_refl _)
  · cases h
end
end Go.Proofs.Ytcnoooodnmjdmaa
end
section
set_option linter.unusedSimpArgs false
set_option linter.unusedVariables false
/- AHI, part W: what is known of a function as an entry; entries together are what calls may lean on. -/
namespace Go.Proofs.Ytcnoooodnmjdmaa
open Go.RowKit

abbrev Entry := List AV → Hp → Option (AV × Hp)
def EntryOk (P : Program) (g : FuncId) (e : Entry) : Prop := ∀ args H r H', e args H = some (r, H') → CallOk P g args H r H'
def Gam.nil : Gam := fun _ _ _ => none
def Gam.cons (f : FuncId) (e : Entry) (Γ : Gam) : Gam := fun g args H => if g = f then e args H else Γ g args H
theorem Gam.nil_ok (P : Program) : GamOk P Gam.nil := fun _ _ _ _ _ h => by cases h
theorem Gam.cons_ok {P : Program} {f : FuncId} {e : Entry} {Γ : Gam} (h : EntryOk P f e) (hΓ : GamOk P Γ) : GamOk P (Gam.cons f e Γ) := fun g args H r H' hr => by
  unfold Gam.cons at hr
  split at hr
  · rename_i hg; subst hg; exact h _ _ _ _ hr
  · exact hΓ _ _ _ _ _ hr
/-- Typed things. -/
@[reducible] def Ds : List Ty → Type
  | [] => Unit | t :: l => t.D × Ds l
def views (H : Hp) : (ts : List Ty) → List AV → Option (Ds ts)
  | [], [] => some ()
  | t :: ts, x :: l => match view H t x, views H ts l with | some d, some ds => some (d, ds) | _, _ => none
  | _, _ => none
def ros : (ts : List Ty) → Ds ts → List AV
  | [], _ => []
  | t :: ts, d => ro t d.1 :: ros ts d.2
theorem views_spec {H : Hp} : ∀ {ts : List Ty} {args : List AV} {d : Ds ts}, views H ts args = some d → args.length = (ros ts d).length ∧ ∀ (i : Nat) y, (ros ts d)[i]? = some y → ∃ x t e, args[i]? = some x ∧ view H t x = some e ∧ y = ro t e
  | [], [], d, h => ⟨rfl, fun i y hy => by simp [ros] at hy⟩
  | [], _ :: _, d, h => by simp [views] at h
  | _ :: _, [], d, h => by simp [views] at h
  | t :: ts, x :: l, d, h => by
    simp only [views] at h
    split at h
    · rename_i e ds he hds
      cases h
      obtain ⟨h1, h2⟩ := views_spec hds
      refine ⟨by simp [ros, h1], fun i y hy => ?_⟩
      cases i with
      | zero => simp only [ros, List.getElem?_cons_zero, Option.some.injEq] at hy; exact ⟨x, t, e, rfl, he, hy.symm⟩
      | succ i => simp only [ros, List.getElem?_cons_succ] at hy; exact h2 i y hy
    · cases h
def flatH (H : Hp) : Bool := H.all fun | none => true | some q => q.flat
theorem flatH_spec {H : Hp} (h : flatH H = true) : ∀ q, some q ∈ H → q.flat = true := fun q hq => by
  have := List.all_eq_true.1 h _ hq
  exact this
def shiftA (n : Nat) (r : AV) : AV := r.mapId (n + ·)
def shiftH (n : Nat) (L : Hp) : Hp := L.map (Option.map (Row.mapId (n + ·)))
/-- A function of things that are read alone. -/
def pureN (ts : List Ty) (c : Ds ts → Prop) [∀ d, Decidable (c d)] (r : Ds ts → AV) (L : Ds ts → Hp) : Entry := fun args H =>
  match views H ts args with
  | some d => if c d then some (shiftA H.length (r d), H ++ shiftH H.length (L d)) else none
  | none => none
theorem pureN_ok {P : Program} {g : FuncId} {ts : List Ty} {c : Ds ts → Prop} [∀ d, Decidable (c d)] {r : Ds ts → AV} {L : Ds ts → Hp} (h : ∀ d, c d → CallOk P g (ros ts d) [] (r d) (L d)) (hr : ∀ d, (r d).flat = true) (hL : ∀ d, flatH (L d) = true) : EntryOk P g (pureN ts c r L) := fun args H x H' hx => by
  unfold pureN at hx
  split at hx
  · rename_i d hd
    split at hx
    · rename_i hc
      cases hx
      obtain ⟨h1, h2⟩ := views_spec hd
      exact lendOk (h d hc) h1 h2 (hr d) (flatH_spec (hL d))
    · cases hx
  · cases hx
/-- A function of things that are read alone, none of which is the caller's own: what it tells may lean on them. -/
def bare (H : Hp) : Hp := H.map fun _ => none
def foreN (ts : List Ty) (c : Ds ts → Prop) [∀ d, Decidable (c d)] (r : Ds ts → AV) (L : Ds ts → Hp) : Entry := fun args H =>
  match views (bare H) ts args with
  | some d => if c d then some (shiftA H.length (r d), H ++ shiftH H.length (L d)) else none
  | none => none
theorem foreN_ok {P : Program} {g : FuncId} {ts : List Ty} {c : Ds ts → Prop} [∀ d, Decidable (c d)] {r : Ds ts → AV} {L : Ds ts → Hp} (h : ∀ d, c d → CallOk P g (ros ts d) [] (r d) (L d)) : EntryOk P g (foreN ts c r L) := fun args H x H' hx => by
  unfold foreN at hx
  split at hx
  · rename_i d hd
    split at hx
    · rename_i hc
      cases hx
      obtain ⟨h1, h2⟩ := views_spec hd
      have ea : ats [] H.length = (H.length + ·) := by funext i; simp [ats]
      have := frameG (C := H) [] (fun _ => False) (fun _ h => by cases h) (h d hc) rfl (Nat.zero_le _) rfl (fun _ h => by cases h) (fun i q hq => by simp at hq) h1 (fun i y hy => by
        obtain ⟨x, t, e, g1, g2, rfl⟩ := h2 i y hy
        refine ⟨x, g1, fun X σ w v hh hp hr => ?_⟩
        have hh' : HeapRep (own X σ H) σ (bare H) w := by
          refine ⟨fun id hid => hh.dom id (by simpa [bare] using hid), fun id r hr => ?_, fun b hb => hb.elim (fun h => hh.own_lt h) (hh.xlt b), fun b _ ho => ?_, fun id id' r r' b x x' h1 => ?_⟩
          · simp [bare] at hr
          · obtain ⟨id, r, x, h1, -⟩ := ho; simp [bare] at h1
          · simp [bare] at h1
        refine view_rep hh' (fun b hb => ?_) g2 (Rep1.mono (w := w) (own := own X σ H) ⟨Nat.le_refl _, fun _ _ _ => rfl, fun b hb => .inl ?_⟩ (fun _ _ h => h) hr)
        · rcases hb with ⟨i, q, y, hq, -⟩ | hb | ⟨id, q, y, g1, g2, -, -⟩
          · simp at hq
          · exact .inr hb
          · exact .inl ⟨id, q, y, g1, g2⟩
        · rcases hb with ⟨id, q, y, hq, -⟩ | hb
          · simp [bare] at hq
          · exact hb) (.inl fun _ h => h)
      rw [ea] at this
      exact this
    · cases hx
  · cases hx
/-- A test that is known. -/
theorem AWP.condT {P : Program} {B : Nat} {s : St} {c : Operand} {x y : Code} {b : Bool} {Q : Exit → St → Prop} (hc : testB s c = some b) (hb : b = true) (h : AWP P B x Q s) : AWP P B (.cond c x y) Q s := AWP.cond hc (fun _ => h) (fun e => by rw [hb] at e; cases e)
theorem AWP.condF {P : Program} {B : Nat} {s : St} {c : Operand} {x y : Code} {b : Bool} {Q : Exit → St → Prop} (hc : testB s c = some b) (hb : b = false) (h : AWP P B y Q s) : AWP P B (.cond c x y) Q s := AWP.cond hc (fun e => by rw [hb] at e; cases e) (fun _ => h)
theorem Ghost.of_eq {B : Nat} {s s' : St} (h : s = s') : Ghost B s s' := h ▸ Ghost.refl _ _
theorem wrap_i32' {x : Int} (h : -2147483648 ≤ x) (h' : x < 2147483648) : IntKind.i32.wrap x = x := by simp [IntKind.wrap, IntKind.bits, IntKind.signed]; omega
theorem wrap_u16' {x : Int} (h : 0 ≤ x) (h' : x < 65536) : IntKind.u16.wrap x = x := by simp [IntKind.wrap, IntKind.bits, IntKind.signed]; omega
theorem tdiv_nn {a b : Int} (h : 0 ≤ a) : a.tdiv b = a / b := Int.tdiv_eq_ediv_of_nonneg h
theorem tmod_nn {a b : Int} (h : 0 ≤ a) : a.tmod b = a % b := Int.tmod_eq_emod_of_nonneg h
theorem getElem?_get {α : Type} {xs : List α} {i : Nat} (h : i < xs.length) : xs[i]? = some xs[i] := List.getElem?_eq_getElem h
/-- A region told by cases: what it leaves is given ahead. -/
theorem AWP.sX {P : Program} {Γ : Gam} {B : Nat} {s s2 : St} {Q : Exit → St → Prop} (hΓ : GamOk P Γ) (K : List Nat) {id : Nat} {ops : Array Oper} {d : Code} (h : ∃ s1, aops P Γ ops.toList ops.toList s = some s1 ∧ trim K s1 = s2) (hq : AWP P B d Q s2) : AWP P B (.seq (.region id ops false) d) Q s := h.elim fun _ h => AWP.sR hΓ K h.1 h.2 hq
theorem AWP.rX {P : Program} {Γ : Gam} {B : Nat} {s s2 : St} {Q : Exit → St → Prop} (hΓ : GamOk P Γ) (K : List Nat) {id : Nat} {ops : Array Oper} (h : ∃ s1, aops P Γ ops.toList ops.toList s = some s1 ∧ trim K s1 = s2) (hq : Q .normal s2) : AWP P B (.region id ops false) Q s := h.elim fun _ h => AWP.rT hΓ K h.1 h.2 hq
theorem AWP.sXG {P : Program} {Γ : Gam} {B : Nat} {s s2 : St} {Q : Exit → St → Prop} (hΓ : GamOk P Γ) {id : Nat} {ops : Array Oper} {d : Code} (h : ∃ s1, aops P Γ ops.toList ops.toList s = some s1 ∧ Ghost B s1 s2) (hq : AWP P B d Q s2) : AWP P B (.seq (.region id ops false) d) Q s := h.elim fun _ h => AWP.seq (AWP.region hΓ h.1 (AWP.ghost h.2 hq))
/-- A way that ends in any state that is as good. -/
theorem AWP.normG {P : Program} {B : Nat} {c : Code} {s s2 : St} {Q : Exit → St → Prop} (h : AWP P B c (fun e s1 => match e with | .normal => Ghost B s1 s2 | _ => False) s) (hq : Q .normal s2) : AWP P B c Q s := fun X σ a w hs =>
  Code.wp_mono (fun e a' w' ⟨σ', s1, h1, h2, h3⟩ => by
    cases e with
    | normal =>
      obtain ⟨σ2, h4, h5⟩ := (show Ghost B s1 s2 from h1) X σ' a' w' h2
      exact ⟨σ2, s2, hq, h4, h3.trans h5⟩
    | _ => exact h1.elim) (h X σ a w hs)
theorem AWP.rXG {P : Program} {Γ : Gam} {B : Nat} {s s2 : St} {Q : Exit → St → Prop} (hΓ : GamOk P Γ) {id : Nat} {ops : Array Oper} (h : ∃ s1, aops P Γ ops.toList ops.toList s = some s1 ∧ Ghost B s1 s2) (hq : Q .normal s2) : AWP P B (.region id ops false) Q s :=
  h.elim fun _ h => AWP.normG (s2 := s2) (AWP.region hΓ h.1 h.2) hq
theorem AWP.dXG {P : Program} {Γ : Gam} {B : Nat} {s s2 : St} {Q : Exit → St → Prop} (hΓ : GamOk P Γ) (hm : P.follows .mixedOrders = true) (pl : List Pl) {id : Nat} {ops : Array Oper} (hc : drawnOk ops pl s.H.length = true) (he : underE s.H.length s.env = true) (hh : underH s.H.length s.H = true)
    (h : ∃ s1, arun P Γ ops.toList ops.toList pl s (fun s' => s' = s1) ∧ Ghost B s1 s2) (hq : Q .normal s2) : AWP P B (.region id ops true) Q s := h.elim fun s1 h =>
  AWP.normG (s2 := s2) (fun X σ a w hs => Code.wp_mono (fun e a' w' ⟨σ', s3, h1, h2, h3⟩ => by
    cases e with
    | normal => have e1 : s3 = s1 := h1; subst e1; exact ⟨σ', s3, h.2, h2, h3⟩
    | _ => exact h1.elim) (AWP.drawn (B := B) (Q := fun e s' => match e with | .normal => s' = s1 | _ => False) hΓ hm pl hc he hh h.1 X σ a w hs)) hq
theorem AWP.sDG {P : Program} {Γ : Gam} {B : Nat} {s s2 : St} {Q : Exit → St → Prop} (hΓ : GamOk P Γ) (hm : P.follows .mixedOrders = true) (pl : List Pl) {id : Nat} {ops : Array Oper} {d : Code} (hc : drawnOk ops pl s.H.length = true) (he : underE s.H.length s.env = true) (hh : underH s.H.length s.H = true)
    (h : ∃ s1, arun P Γ ops.toList ops.toList pl s (fun s' => s' = s1) ∧ Ghost B s1 s2) (hq : AWP P B d Q s2) : AWP P B (.seq (.region id ops true) d) Q s := AWP.seq (AWP.dXG (s2 := s2) hΓ hm pl hc he hh h hq)
/-- The side facts of one operation, as one simp lemma. -/
theorem nws : (∀ {x : Int}, -9223372036854775808 ≤ x → x < 9223372036854775808 → IntKind.i64.wrap x = x) ∧ (∀ {x : Int}, 0 ≤ x → x < 18446744073709551616 → IntKind.u64.wrap x = x) ∧ (∀ {x : Int}, 0 ≤ x → x < 256 → IntKind.u8.wrap x = x) ∧ (∀ {x : Int}, 0 ≤ x → x < 4294967296 → IntKind.u32.wrap x = x) ∧ (∀ {x : Int}, -2147483648 ≤ x → x < 2147483648 → IntKind.i32.wrap x = x) ∧ (∀ {x : Int}, 0 ≤ x → x < 65536 → IntKind.u16.wrap x = x) ∧ (∀ {a b : Int}, 0 ≤ a → a.tdiv b = a / b) ∧ (∀ {a b : Int}, 0 ≤ a → a.tmod b = a % b) ∧ (∀ {n : Nat}, ((n : Int)).toNat = n) ∧ ((0 : Int).toNat = 0) ∧ (∀ {α : Type} {xs : List α} {i : Nat} (h : i < xs.length), xs[i]? = some xs[i]) ∧ (∀ {α : Type} {n : Nat} {l : List α}, (l.take n).length = min n l.length) ∧ (∀ {α : Type} {n : Nat} {l : List α}, (l.drop n).length = l.length - n) :=
  ⟨fun a b => wrap_i64' a b, fun a b => wrap_u64' a b, fun a b => wrap_u8' a b, fun a b => wrap_u32' a b, fun a b => wrap_i32' a b, fun a b => wrap_u16' a b, fun a => tdiv_nn a, fun a => tmod_nn a, Int.toNat_natCast _, Int.toNat_zero, fun h => getElem?_get h, List.length_take, List.length_drop⟩
section
variable {P : Program} {Γ : Gam} {ops l : List Oper} {o q : Oper} {s s1 s' : St} {x : AV} {H H' : Hp} {n j d t : Nat} {env : List (Nat × AV)} {b want : Bool}
theorem aops_end (h : l = []) : aops P Γ ops l s = some s := by subst h; rfl
theorem ag_n (hg : o.guard = none) : aguard ops s o = some true := by simp [aguard, hg]
theorem ag_b (hg : o.guard = some (j, want)) (hq : ops[j]? = some q) (hd : q.dst = some d) (hl : look s.env d = some (.c (.v (.bool b)))) (hb : (b == want) = true) : aguard ops s o = some true := by simp [aguard, hg, hq, hd, hl]; simpa using hb
theorem ag_f (hg : o.guard = some (j, want)) (hq : ops[j]? = some q) (hd : q.dst = some d) (hl : look s.env d = some (.c (.v (.bool b)))) (hb : (b == want) = false) : aguard ops s o = some false := by simp [aguard, hg, hq, hd, hl]; simpa using hb
theorem ag_u (hg : o.guard = some (j, want)) (hq : ops[j]? = some q) (hd : q.dst = some d) (hl : look s.env d = some (.tup [])) : aguard ops s o = some false := by simp [aguard, hg, hq, hd, hl]
theorem aops_mv (hg : aguard ops ⟨n, env, H⟩ o = some true) (ho : o.op = .move (.tmp t)) (hd : o.dst = some d) (hx : look env t = some x) (hlt : Nat.blt d n = true) (h : aops P Γ ops l ⟨n, lay env d x, H⟩ = some s') : aops P Γ ops (o :: l) ⟨n, env, H⟩ = some s' := by
  refine aops_step hg (x := x) (H' := H) ?_ ?_ h
  · rw [ho]; simp [aop, ev, hx, sm]
  · have hlt' : d < n := Nat.blt_eq.mp hlt
    simp [put, hd, hlt']
theorem aops_as (hg : aguard ops ⟨n, env, H⟩ o = some true) (ho : o.op = .assign (.tmp t)) (hd : o.dst = some d) (hx : look env t = some x) (hlt : Nat.blt d n = true) (h : aops P Γ ops l ⟨n, lay env d x, H⟩ = some s') : aops P Γ ops (o :: l) ⟨n, env, H⟩ = some s' := by
  refine aops_step hg (x := x) (H' := H) ?_ ?_ h
  · rw [ho]; simp [aop, ev, hx, sm]
  · have hlt' : d < n := Nat.blt_eq.mp hlt
    simp [put, hd, hlt']
theorem aops_x (hg : aguard ops ⟨n, env, H⟩ o = some true) (hd : o.dst = some d) (hx : aop P Γ ⟨n, env, H⟩ o.op = some (x, H')) (hlt : Nat.blt d n = true) (h : aops P Γ ops l ⟨n, lay env d x, H'⟩ = some s') : aops P Γ ops (o :: l) ⟨n, env, H⟩ = some s' := by
  refine aops_step hg hx ?_ h
  have hlt' : d < n := Nat.blt_eq.mp hlt
  simp [put, hd, hlt']
theorem aops_s (hg : aguard ops ⟨n, env, H⟩ o = some true) (hd : o.dst = none) (hx : aop P Γ ⟨n, env, H⟩ o.op = some (x, H')) (h : aops P Γ ops l ⟨n, env, H'⟩ = some s') : aops P Γ ops (o :: l) ⟨n, env, H⟩ = some s' := by
  refine aops_step hg hx ?_ h
  simp [put, hd]
theorem aops_ps (hg : aguard ops ⟨n, env, H⟩ o = some false) (hd : o.dst = some d) (hlt : Nat.blt d n = true) (h : aops P Γ ops l ⟨n, lay env d (.tup []), H⟩ = some s') : aops P Γ ops (o :: l) ⟨n, env, H⟩ = some s' := by
  refine aops_pass hg ?_ h
  have hlt' : d < n := Nat.blt_eq.mp hlt
  simp [put, hd, hlt']
theorem aops_pn (hg : aguard ops ⟨n, env, H⟩ o = some false) (hd : o.dst = none) (h : aops P Γ ops l ⟨n, env, H⟩ = some s') : aops P Γ ops (o :: l) ⟨n, env, H⟩ = some s' := by
  refine aops_pass hg ?_ h
  simp [put, hd]
end
attribute [go_sem] foreN bare decide_true decide_false List.getElem_cons_zero List.getElem_cons_succ Ty.isLeaf Gam.nil Gam.cons pureN views ros shiftA shiftH List.map_cons List.map_nil Option.map_some Option.map_none
end Go.Proofs.Ytcnoooodnmjdmaa
end
section
set_option linter.unusedSimpArgs false
set_option linter.unusedVariables false
/- AHI, part X: what comes in, opened: a thing of any kind; a law that is called. -/
namespace Go.Proofs.Ytcnoooodnmjdmaa
open Go.RowKit Go.ChangeShapes Go.WideShapes

def okFs (q : TypeId → Ty → Bool) (sz : TypeId → Nat) : List Field → Nat → Ty → Bool
  | [], _, _ => false
  | [f], o, T => decide (f.offset = o) && decide (sz f.type = T.sz) && q f.type T
  | f :: fs, o, .pr A B => decide (f.offset = o) && decide (sz f.type = A.sz) && q f.type A && okFs q sz fs (o + A.sz) B
  | _, _, _ => false
/-- A type of the program is of that kind. -/
def okTy (P : Program) : Nat → TypeId → Ty → Bool
  | 0, _, _ => false
  | n + 1, t, T => match P.underlying t with
    | some (.int k) => (match T with | .i k' => decide (k = k') | _ => false)
    | some .bool => (match T with | .bo => true | _ => false)
    | some .string => (match T with | .st => true | _ => false)
    | some (.float k) => (match T with | .f k' => decide (k = k') | _ => false)
    | some (.slice e) => (match T with | .sl E => okTy P n e E && decide (P.cellsOf e = E.sz) && decide (0 < E.sz) && decide (0 < P.bytesOf e) | _ => false)
    | some (.array m e) => (match T with | .ar m' E => decide (m = m') && okTy P n e E && decide (P.cellsOf e = E.sz) && decide (P.cellsOf t = m * E.sz) | _ => false)
    | some (.struct fs) => okFs (okTy P n) P.cellsOf fs.toList 0 T && decide (P.cellsOf t = T.sz)
    | _ => false
/-- Numbers lie in their kinds. -/
def wfD : (t : Ty) → t.D → Prop
  | .i k, n => (Lit.int k n).wf = true
  | .bo, _ => True
  | .st, s => s.size ≤ maxLen
  | .f k, n => (Lit.float k n).wf = true
  | .sl e, xs => xs.length ≤ 140737488351232 ∧ ∀ x ∈ xs, wfD e x
  | .pr a b, x => wfD a x.1 ∧ wfD b x.2
  | .ar n e, xs => xs.length = n ∧ ∀ x ∈ xs, wfD e x
abbrev no : Nat → Prop := fun _ => False
section
variable {H : Type} {enc : TypeId × Value → H} {P : Program} {w : World} {base : Nat} {spare : Nat → Bool} {held : Bool}
theorem trod_float {k : FloatKind} {fuel : Nat} {t : TypeId} {cs : List Value} {x : DataW H × List MemPlace} (ht : P.underlying t = some (.float k)) (h : DataW.trod enc P w base spare held fuel t cs = some x) : ∃ n, cs = [.float k n] ∧ (Lit.float k n).wf = true := by
  cases fuel with
  | zero => simp [DataW.trod] at h
  | succ n =>
    unfold DataW.trod at h
    rw [ht] at h
    split at h <;> simp_all
theorem chooseLt {α : Type} {n : Nat} {p : Nat → α → Prop} (h : ∀ i, i < n → ∃ d, p i d) [Nonempty α] : ∃ D : Nat → α, ∀ i, i < n → p i (D i) :=
  ⟨fun i => if hi : i < n then (h i hi).choose else Classical.choice inferInstance, fun i hi => by simp only [dif_pos hi]; exact (h i hi).choose_spec⟩
theorem Ty.inh : ∀ t : Ty, Nonempty t.D
  | .i _ => ⟨(0 : Int)⟩ | .bo => ⟨true⟩ | .st => ⟨(⟨#[]⟩ : ByteArray)⟩ | .f _ => ⟨(0 : Nat)⟩ | .sl _ => ⟨[]⟩ | .ar _ _ => ⟨[]⟩
  | .pr a b => by obtain ⟨x⟩ := Ty.inh a; obtain ⟨y⟩ := Ty.inh b; exact ⟨(x, y)⟩
theorem mapM_len {α β : Type} {f : α → Option β} : ∀ {l : List α} {ys : List β}, l.mapM f = some ys → ys.length = l.length ∧ ∀ (i : Nat) x, l[i]? = some x → ∃ y, f x = some y ∧ ys[i]? = some y
  | [], ys, h => by simp at h; subst h; exact ⟨rfl, fun i x hx => by simp at hx⟩
  | a :: l, ys, h => by
    simp only [List.mapM_cons, Option.bind_eq_bind, Option.bind_eq_some_iff, Option.pure_def, Option.some.injEq] at h
    obtain ⟨b, hb, bs, hbs, rfl⟩ := h
    obtain ⟨h1, h2⟩ := mapM_len hbs
    refine ⟨by simp [h1], fun i x hx => ?_⟩
    cases i with
    | zero => cases hx; exact ⟨b, hb, rfl⟩
    | succ i => exact h2 i x (by simpa using hx)
theorem cells_at {a : Addr} {n : Nat} {cs : List Value} (h : w.cells? base a n = some cs) : cs.length = n ∧ ∀ (j : Nat) v, cs[j]? = some v → w.cell? (a.add j) = some v := by
  unfold World.cells? at h
  split at h
  · obtain ⟨h1, h2⟩ := mapM_len h
    simp at h1
    refine ⟨h1, fun j v hv => ?_⟩
    have hj : j < n := by rw [← h1]; exact (List.getElem?_eq_some_iff.1 hv).1
    obtain ⟨y, hy, hy2⟩ := h2 j j (by simp [hj])
    rw [hv] at hy2; cases hy2; exact hy
  · cases h
theorem spot_of {a : Addr} {v : Value} (h : w.cell? a = some v) : a.spot = none ∧ a.block < w.heap.size := by
  unfold World.cell? at h
  split at h
  · rename_i c _ _ hb
    split at h
    · cases h
    · rename_i hs
      refine ⟨by simpa using hs, ?_⟩
      rcases Nat.lt_or_ge a.block w.heap.size with h' | h'
      · exact h'
      · rw [Array.getElem?_eq_none h'] at hb; cases hb
  · cases h
theorem weightsAll_mem {e : TypeId} {d : DataW H} : ∀ {l : List (DataW H)}, d ∈ l → (DataW.weightsAll P e l).all (· ≤ reachBytes) = true → (d.weights P e).all (· ≤ reachBytes) = true
  | [], h, _ => by cases h
  | x :: l, h, hz => by
    simp only [DataW.weightsAll, List.all_append, Bool.and_eq_true] at hz
    rcases List.mem_cons.1 h with rfl | h
    · exact hz.1
    · exact weightsAll_mem h hz.2
theorem weightsEach_at {t : TypeId} {d : DataW H} : ∀ {i : Nat} {ts : List TypeId} {l : List (DataW H)}, (DataW.weightsEach P ts l).all (· ≤ reachBytes) = true → ts[i]? = some t → l[i]? = some d → (d.weights P t).all (· ≤ reachBytes) = true
  | i, [], l, _, h, _ => by simp at h
  | i, _ :: _, [], _, _, h => by simp at h
  | 0, t' :: ts, d' :: l, hz, h, h' => by
    simp only [DataW.weightsEach, List.all_append, Bool.and_eq_true] at hz
    simp only [List.getElem?_cons_zero, Option.some.injEq] at h h'
    subst h; subst h'
    exact hz.1
  | i + 1, t' :: ts, d' :: l, hz, h, h' => by
    simp only [DataW.weightsEach, List.all_append, Bool.and_eq_true] at hz
    exact weightsEach_at (i := i) hz.2 (by simpa using h) (by simpa using h')
theorem openD : ∀ (n : Nat) {t : TypeId} {T : Ty}, okTy P n t T = true → ∀ {fuel : Nat} {cs : List Value} {x : DataW H × List MemPlace}, DataW.trod enc P w base spare held fuel t cs = some x → (x.1.weights P t).all (· ≤ reachBytes) = true →
    ∃ d : T.D, RepD w no T d (fun j => cs[j]?) ∧ cs.length = T.sz ∧ wfD T d := by
  intro n
  induction n with
  | zero => intro t T h; simp [okTy] at h
  | succ n ih =>
    intro t T hT fuel cs x h hz
    unfold okTy at hT
    split at hT
    · rename_i k ht
      split at hT
      · rename_i k'
        have hk := of_decide_eq_true hT
        subst hk
        obtain ⟨m, rfl, -, hw⟩ := DataW.trod_int ht h
        exact ⟨m, rfl, rfl, hw⟩
      · cases hT
    · rename_i ht
      split at hT
      · obtain ⟨b, rfl, -⟩ := DataW.trod_bool ht h
        exact ⟨b, rfl, rfl, trivial⟩
      · cases hT
    · rename_i ht
      split at hT
      · obtain ⟨s, rfl, -, hs⟩ := DataW.trod_string ht h
        exact ⟨s, rfl, rfl, hs⟩
      · cases hT
    · rename_i k ht
      split at hT
      · have hk := of_decide_eq_true hT
        subst hk
        obtain ⟨m, rfl, hw⟩ := trod_float ht h
        exact ⟨m, rfl, rfl, hw⟩
      · cases hT
    · rename_i e ht
      split at hT
      · rename_i E
        simp only [Bool.and_eq_true, decide_eq_true_eq] at hT
        obtain ⟨⟨⟨hE, hce⟩, hpos⟩, hby⟩ := hT
        rcases DataW.trod_slice ht h with ⟨rfl, -⟩ | ⟨a, len, cap, elems, rest, m, rfl, rfl, hxe, hb, hl, hc, hel, hget, -, -⟩
        · exact ⟨[], ⟨_, rfl, .inl ⟨rfl, _, _, rfl⟩⟩, rfl, by simp, by simp⟩
        · rw [hxe] at hz
          unfold DataW.weights at hz
          simp only [ht, List.all_cons, List.all_append, Bool.and_eq_true, decide_eq_true_eq, List.length_map] at hz
          have hlz : len ≤ 140737488351232 := by
            have h1 : len * 1 ≤ (elems.length + rest.length) * P.bytesOf e := Nat.mul_le_mul (by omega) hby
            have h2 : reachBytes ≤ 140737488351232 := by decide
            omega
          have each : ∀ i, i < len → ∃ d : E.D, RepD w no E d (fun j => w.cell? ((a.add (i * E.sz)).add j)) ∧ wfD E d ∧ ∃ v, w.cell? ((a.add (i * E.sz)).add 0) = some v := fun i hi => by
            have h1 := hget i hi
            rw [hce, List.getElem?_eq_getElem (by omega)] at h1
            obtain ⟨cs', h2, h3⟩ := Option.bind_eq_some_iff.1 h1
            obtain ⟨d, h4, h5, h6⟩ := ih hE h3 (weightsAll_mem (List.mem_map_of_mem (List.getElem_mem (by omega))) hz.2.1)
            obtain ⟨h7, h8⟩ := cells_at h2
            refine ⟨d, h4.cells h8, h6, ?_⟩
            exact ⟨cs'[0], h8 0 _ (List.getElem?_eq_getElem (by omega))⟩
          by_cases h0 : len = 0
          · subst h0
            exact ⟨[], ⟨_, rfl, .inl ⟨rfl, _, _, rfl⟩⟩, rfl, by simp, by simp⟩
          · obtain ⟨_, -, -, v0, hv0⟩ := each 0 (by omega)
            have ha : (a.add (0 * E.sz)).add 0 = a := by simp [Addr.add]
            rw [ha] at hv0
            obtain ⟨hsp, hlt⟩ := spot_of hv0
            haveI := Ty.inh E
            obtain ⟨D, hD⟩ := chooseLt each
            have hadd : ∀ i j, (a.add (i * E.sz)).add j = ⟨a.block, a.off + i * E.sz + j, none⟩ := fun i j => by
              obtain ⟨b, off, sp⟩ := a
              simp only at hsp
              subst hsp
              unfold Addr.add
              split <;> split <;> simp_all
            have ha' : a = ⟨a.block, a.off, none⟩ := by obtain ⟨b, off, sp⟩ := a; simp only at hsp; subst hsp; rfl
            refine ⟨(List.range len).map D, ⟨_, rfl, .inr ⟨a.block, a.off, cap, by rw [← ha']; simp, by simpa using hl, hc, fun h => h, hlt, fun i y hy => ?_⟩⟩, rfl, by simp; omega, fun y hy => ?_⟩
            · rw [List.getElem?_map] at hy
              obtain ⟨i', hi', rfl⟩ := Option.map_eq_some_iff.1 hy
              have hi2 : i < len := by have := (List.getElem?_eq_some_iff.1 hi').1; simpa using this
              have : i' = i := by rw [List.getElem?_range hi2] at hi'; exact (Option.some.inj hi').symm
              subst this
              have := (hD i' hi2).1
              simp only [hadd] at this
              exact this
            · obtain ⟨i, hi, rfl⟩ := List.mem_map.1 hy
              exact (hD i (by simpa using hi)).2.1
      · cases hT
    · rename_i m e ht
      split at hT
      · rename_i m' E
        simp only [Bool.and_eq_true, decide_eq_true_eq] at hT
        obtain ⟨⟨⟨rfl, hE⟩, hce⟩, hct⟩ := hT
        obtain ⟨xs, k, rfl, hxe, hcl, hxl, hget⟩ := DataW.trod_array ht h
        have each : ∀ i, i < m → ∃ d : E.D, RepD w no E d (fun j => cs[i * E.sz + j]?) ∧ wfD E d := fun i hi => by
          have h1 := hget i hi
          rw [hce, List.getElem?_eq_getElem (by omega)] at h1
          rw [hxe] at hz
          unfold DataW.weights at hz
          simp only [ht] at hz
          obtain ⟨d, h4, h5, h6⟩ := ih hE h1 (weightsAll_mem (List.mem_map_of_mem (List.getElem_mem (by omega))) hz)
          refine ⟨d, h4.cells fun j v hv => ?_, h6⟩
          rw [List.getElem?_take] at hv
          split at hv
          · rw [List.getElem?_drop] at hv; exact hv
          · cases hv
        haveI := Ty.inh E
        obtain ⟨D, hD⟩ := chooseLt each
        refine ⟨(List.range m).map D, ⟨by simp, fun i y hy => ?_⟩, by rw [hcl, hct]; rfl, by simp, fun y hy => ?_⟩
        · rw [List.getElem?_map] at hy
          obtain ⟨i', hi', rfl⟩ := Option.map_eq_some_iff.1 hy
          have hi2 : i < m := by have := (List.getElem?_eq_some_iff.1 hi').1; simpa using this
          have : i' = i := by rw [List.getElem?_range hi2] at hi'; exact (Option.some.inj hi').symm
          subst this
          exact (hD i' hi2).1
        · obtain ⟨i, hi, rfl⟩ := List.mem_map.1 hy
          exact (hD i (by simpa using hi)).2
      · cases hT
    · rename_i fs ht
      simp only [Bool.and_eq_true, decide_eq_true_eq] at hT
      obtain ⟨hF, hct⟩ := hT
      obtain ⟨xs, k, rfl, hxe, hcl, hxl, hget⟩ := DataW.trod_struct ht h
      have one : ∀ (f : Field) (A : Ty) (i : Nat), fs.toList[i]? = some f → okTy P n f.type A = true → P.cellsOf f.type = A.sz → ∃ d : A.D, RepD w no A d (fun j => cs[f.offset + j]?) ∧ wfD A d := fun f A i hf hA hs => by
        have hf' : fs[i]? = some f := by simpa using hf
        have h1 := hget i f hf'
        have hi : i < xs.length := by rw [hxl]; exact (Array.getElem?_eq_some_iff.1 hf').1
        rw [hs, List.getElem?_eq_getElem hi] at h1
        rw [hxe] at hz
        unfold DataW.weights at hz
        simp only [ht] at hz
        obtain ⟨d, h4, h5, h6⟩ := ih hA h1 (weightsEach_at (i := i) hz (by rw [List.getElem?_map, hf]; rfl) (by rw [List.getElem?_map, List.getElem?_eq_getElem hi]; rfl))
        refine ⟨d, h4.cells fun j v hv => ?_, h6⟩
        rw [List.getElem?_take] at hv
        split at hv
        · rw [List.getElem?_drop] at hv; exact hv
        · cases hv
      have key : ∀ (l : List Field) (o i0 : Nat) (T : Ty), okFs (okTy P n) P.cellsOf l o T = true → (∀ j, fs.toList[i0 + j]? = l[j]?) → ∃ d : T.D, RepD w no T d (fun j => cs[o + j]?) ∧ wfD T d := by
        intro l
        induction l with
        | nil => intro o i0 T h; simp [okFs] at h
        | cons f l ihl =>
          intro o i0 T h hat
          cases l with
          | nil =>
            simp only [okFs, Bool.and_eq_true, decide_eq_true_eq] at h
            obtain ⟨⟨rfl, hs⟩, hq⟩ := h
            exact one f T i0 (by simpa using hat 0) hq hs
          | cons f' l =>
            cases T with
            | pr A B =>
              simp only [okFs, Bool.and_eq_true, decide_eq_true_eq] at h
              obtain ⟨⟨⟨rfl, hs⟩, hq⟩, hr⟩ := h
              obtain ⟨a, ha, wa⟩ := one f A i0 (by simpa using hat 0) hq hs
              obtain ⟨b, hb, wb⟩ := ihl _ (i0 + 1) B hr (fun j => by have := hat (j + 1); rw [List.getElem?_cons_succ] at this; rw [← this]; congr 1; omega)
              exact ⟨(a, b), ⟨ha, by simpa [Nat.add_assoc] using hb⟩, wa, wb⟩
            | _ => simp [okFs] at h
      obtain ⟨d, hd, hw⟩ := key fs.toList 0 0 T hF (fun j => by simp)
      exact ⟨d, by simpa using hd, by rw [hcl, hct], hw⟩
    · cases hT
/-- A parameter. -/
theorem openP (n : Nat) {t : TypeId} {T : Ty} (hT : (okTy P n t T && (match P.underlying t with | some (.struct _) => !T.isLeaf | _ => true)) = true) {r : Reach} {b0 : Nat} {v : Value} {d : DataW H} {ps : List MemPlace} (hval : Value.okWide P w r b0 t v) (h : DataW.Trod enc P w base spare held t v d ps) (hz : (d.weights P t).all (· ≤ reachBytes) = true) :
    ∃ x : T.D, Rep1 w no (fun _ => none) (ro T x) v ∧ wfD T x := by
  rw [Bool.and_eq_true] at hT
  obtain ⟨hT, hS⟩ := hT
  obtain ⟨fuel, hf⟩ := h
  obtain ⟨x, hr, hl, hw⟩ := openD n hT hf hz
  refine ⟨x, ?_, hw⟩
  cases n with
  | zero => simp [okTy] at hT
  | succ n =>
  have leafv : (∀ fs, P.underlying t ≠ some (.struct fs)) → (∀ m e, P.underlying t ≠ some (.array m e)) → v.cells.toList = [v] := fun h1 h2 => by
    have hc : Cell.okWide P w r b0 t v := by
      unfold Value.okWide at hval
      split at hval
      · rename_i fs hh; exact (h1 fs hh).elim
      · rename_i m e hh; exact (h2 m e hh).elim
      · exact hval
    cases v with
    | agg cs =>
      exfalso
      unfold Cell.okWide at hc
      split at hc <;> first | (rename_i hh _; cases hh; done) | skip
      all_goals first | (unfold Cell.ok at hc; split at hc <;> simp_all; done) | simp_all
    | _ => rfl
  have aggv : ∀ {m : Nat}, ((∃ fs, P.underlying t = some (.struct fs)) ∨ ∃ k e, P.underlying t = some (.array k e)) → ∃ cs, v = .agg cs := fun h1 => by
    unfold Value.okWide at hval
    split at hval
    · obtain ⟨cs, e, -⟩ := hval; exact ⟨cs, e⟩
    · obtain ⟨cs, e, -⟩ := hval; exact ⟨cs, e⟩
    · rename_i h2 h3
      rcases h1 with ⟨fs, h1⟩ | ⟨k, e, h1⟩
      · exact (h2 fs h1).elim
      · exact (h3 k e h1).elim
  unfold okTy at hT
  split at hT
  · rename_i k ht
    rw [leafv (by simp [ht]) (by simp [ht])] at hr
    cases T <;> simp at hT
    subst hT
    have : some v = some (Value.int k x) := hr
    cases this
    exact ⟨rfl, rfl⟩
  · rename_i ht
    rw [leafv (by simp [ht]) (by simp [ht])] at hr
    cases T <;> simp at hT
    have : some v = some (Value.bool x) := hr
    cases this
    exact ⟨rfl, rfl⟩
  · rename_i ht
    rw [leafv (by simp [ht]) (by simp [ht])] at hr
    cases T <;> simp at hT
    have : some v = some (Value.string x) := hr
    cases this
    exact ⟨rfl, rfl⟩
  · rename_i k ht
    rw [leafv (by simp [ht]) (by simp [ht])] at hr
    cases T <;> simp at hT
    subst hT
    have : some v = some (Value.float k x) := hr
    cases this
    exact ⟨rfl, rfl⟩
  · rename_i e ht
    rw [leafv (by simp [ht]) (by simp [ht])] at hr
    cases T <;> simp at hT
    obtain ⟨v', hv', hs⟩ := hr
    cases hv'
    exact hs
  · rename_i m e ht
    obtain ⟨cs, rfl⟩ := aggv (m := 0) (.inr ⟨m, e, ht⟩)
    simp only [Value.cells] at hr hl
    cases T <;> simp at hT
    exact ⟨cs.toList, by simp, by simpa [Row.size, Ty.sz, hr.1] using hl, fun i y hy => by simpa using hr.2 i y hy⟩
  · rename_i fs ht
    obtain ⟨cs, rfl⟩ := aggv (m := 0) (.inl ⟨fs, ht⟩)
    simp only [Value.cells] at hr hl
    rw [ht] at hS
    cases T with
    | pr A B =>
      refine ⟨cs.toList, by simp, by simpa [Row.size] using hl, fun i y hy => ?_⟩
      cases i with
      | zero => cases hy; simpa using hr
      | succ i => simp at hy
    | ar m E => exact ⟨cs.toList, by simp, by simpa [Row.size, Ty.sz, hr.1] using hl, fun i y hy => by simpa using hr.2 i y hy⟩
    | _ => simp [Ty.isLeaf] at hS
  · cases hT
end
def repAll (w : World) : (ts : List Ty) → Ds ts → List Value → Prop
  | [], _, [] => True
  | t :: ts, d, v :: vs => Rep1 w no (fun _ => none) (ro t d.1) v ∧ repAll w ts d.2 vs
  | _, _, _ => False
theorem repAll_at {w : World} : ∀ {ts : List Ty} {d : Ds ts} {vs : List Value}, repAll w ts d vs → vs.length = (ros ts d).length ∧ ∀ (i : Nat) y, (ros ts d)[i]? = some y → ∃ v, vs[i]? = some v ∧ Rep1 w no (fun _ => none) y v
  | [], _, [], _ => ⟨rfl, fun i y hy => by simp [ros] at hy⟩
  | [], _, _ :: _, h => h.elim
  | _ :: _, _, [], h => h.elim
  | t :: ts, d, v :: vs, h => by
    obtain ⟨h1, h2⟩ := repAll_at h.2
    refine ⟨by simp [ros, h1], fun i y hy => ?_⟩
    cases i with
    | zero => simp only [ros, List.getElem?_cons_zero, Option.some.injEq] at hy; subst hy; exact ⟨v, rfl, h.1⟩
    | succ i => simp only [ros, List.getElem?_cons_succ] at hy; exact h2 i y hy
/-- A law, called with things that can be read. -/
theorem lawOk {P : Program} {g : FuncId} {ts : List Ty} {d : Ds ts} {vs : List Value} {w : World} (hc : CallOk P g (ros ts d) [] (.c (cb true)) []) (hr : repAll w ts d vs) :
    Calls P g vs.toArray w fun e w' => e = .returned (.bool true) ∧ Below w.heap.size w w' := by
  obtain ⟨h1, h2⟩ := repAll_at hr
  have hno : own no (fun _ => none) [] = no := by
    funext b
    apply propext
    constructor
    · rintro (⟨id, r, x, h, -⟩ | h)
      · simp at h
      · exact h
    · exact fun h => h.elim
  have hh : HeapRep no (fun _ => none) [] w := ⟨fun _ _ => rfl, fun id r h => by simp at h, fun b h => h.elim, fun b h => h.elim, fun id id' r r' b x x' h => by simp at h⟩
  refine (hc.2 no (fun _ => none) w vs hh h1 (fun i x hx => (by rw [hno]; exact h2 i x hx))).mono fun e w' ⟨v, he, σ', h3, _, h5⟩ => ?_
  obtain ⟨rfl, -⟩ := h3
  refine ⟨he, h5.os, h5.tape, h5.output, h5.keeps.size, fun k hk => h5.keeps.block k hk fun ⟨id, r, x, h, _⟩ => (by simp at h)⟩
theorem wf_u64 {n : Int} (h : wfD (.i .u64) n) : 0 ≤ n ∧ n < 18446744073709551616 := by simp [wfD, Lit.wf, IntKind.min, IntKind.max, IntKind.signed, IntKind.bits] at h; omega
theorem wf_u32 {n : Int} (h : wfD (.i .u32) n) : 0 ≤ n ∧ n < 4294967296 := by simp [wfD, Lit.wf, IntKind.min, IntKind.max, IntKind.signed, IntKind.bits] at h; omega
theorem wf_u16 {n : Int} (h : wfD (.i .u16) n) : 0 ≤ n ∧ n < 65536 := by simp [wfD, Lit.wf, IntKind.min, IntKind.max, IntKind.signed, IntKind.bits] at h; omega
theorem wf_u8 {n : Int} (h : wfD (.i .u8) n) : 0 ≤ n ∧ n < 256 := by simp [wfD, Lit.wf, IntKind.min, IntKind.max, IntKind.signed, IntKind.bits] at h; omega
theorem wf_i64 {n : Int} (h : wfD (.i .i64) n) : -9223372036854775808 ≤ n ∧ n < 9223372036854775808 := by simp [wfD, Lit.wf, IntKind.min, IntKind.max, IntKind.signed, IntKind.bits] at h; omega
theorem wf_i8 {n : Int} (h : wfD (.i .i8) n) : -128 ≤ n ∧ n < 128 := by simp [wfD, Lit.wf, IntKind.min, IntKind.max, IntKind.signed, IntKind.bits] at h; omega
end Go.Proofs.Ytcnoooodnmjdmaa
end
section
set_option linter.unusedSimpArgs false
set_option linter.unusedVariables false
/- AHI, part Y: entries for functions that turn a row of the caller's, or go on with it. -/
namespace Go.Proofs.Ytcnoooodnmjdmaa
open Go.RowKit
theorem hrow_at {H : Hp} {id : Nat} {r : Row} (h : hrow H id = some r) : H[id]? = some (some r) := by unfold hrow at h; split at h <;> simp_all
/-- Of that kind. -/
def castL (t' t : Ty) (xs : List t'.D) : Option (List t.D) := if h : t' = t then some (h ▸ xs) else none
theorem castL_same (t : Ty) (xs : List t.D) : castL t t xs = some xs := by simp [castL]
theorem castL_some {t' t : Ty} {ys : List t'.D} {xs : List t.D} (h : castL t' t ys = some xs) : Row.ty t' ys = .ty t xs := by
  unfold castL at h
  split at h
  · rename_i ht; subst ht; cases h; rfl
  · cases h
/-- A row is turned where it lies. -/
def turnE (t : Ty) (ts : List Ty) (c : List t.D → Ds ts → Prop) [∀ l d, Decidable (c l d)] (f : List t.D → Ds ts → List t.D) : Entry := fun args H => match args with
  | .c (.sl id 0 n e) :: rest => match hrow H id with
    | some (.ty t' ys) => match castL t' t ys with
      | some xs => (match views (H.set id none) ts rest with
        | some d => if e = t.sz ∧ n = xs.length ∧ c xs d ∧ id < H.length then some (.tup [], H.set id (some (.ty t (f xs d)))) else none
        | none => none)
      | none => none
    | _ => none
  | _ => none
/-- A row is gone on with; it comes back under a new number. -/
def appE (t : Ty) (ts : List Ty) (c : List t.D → Ds ts → Prop) [∀ l d, Decidable (c l d)] (f : List t.D → Ds ts → List t.D) : Entry := fun args H => match args with
  | .c (.sl id 0 n e) :: rest => match hrow H id with
    | some (.ty t' ys) => match castL t' t ys with
      | some xs => (match views (H.set id none) ts rest with
        | some d => if e = t.sz ∧ n = xs.length ∧ c xs d ∧ id < H.length then some (.c (.sl H.length 0 (f xs d).length t.sz), H.set id none ++ [some (.ty t (f xs d))]) else none
        | none => none)
      | none => none
    | _ => none
  | _ => none
theorem argsOk {H : Hp} {id n : Nat} {t : Ty} {xs : List t.D} {ts : List Ty} {rest : List AV} {d : Ds ts} (hv : views (H.set id none) ts rest = some d) :
    (AV.c (.sl id 0 xs.length t.sz) :: rest).length = (AV.c (.sl 0 0 xs.length t.sz) :: ros ts d).length ∧ ∀ (i : Nat) y, (AV.c (.sl 0 0 xs.length t.sz) :: ros ts d)[i]? = some y → ∃ x, (AV.c (.sl id 0 xs.length t.sz) :: rest)[i]? = some x ∧ ArgOk H [id] (ats [id] H.length) x y := by
  obtain ⟨h1, h2⟩ := views_spec hv
  refine ⟨by simp [h1], fun i y hy => ?_⟩
  cases i with
  | zero => cases hy; exact ⟨_, rfl, .inl (by simp [AV.map1, CV.mapId, ats])⟩
  | succ i =>
    obtain ⟨x, t', e, hx, hview, rfl⟩ := h2 i y (by simpa using hy)
    exact ⟨x, by simpa using hx, .inr ⟨t', e, hview, rfl⟩⟩
theorem turnE_ok {P : Program} {g : FuncId} {t : Ty} {ts : List Ty} {c : List t.D → Ds ts → Prop} [∀ l d, Decidable (c l d)] {f : List t.D → Ds ts → List t.D} (hf : t.flat = true)
    (h : ∀ (xs : List t.D) d, c xs d → CallOk P g (.c (.sl 0 0 xs.length t.sz) :: ros ts d) [some (.ty t xs)] (.tup []) [some (.ty t (f xs d))]) : EntryOk P g (turnE t ts c f) := fun args H r H' hr => by
  unfold turnE at hr
  split at hr
  · rename_i id n e rest
    split at hr
    · rename_i t' ys hrow1
      split at hr
      · rename_i xs ht
        rw [castL_some ht] at hrow1
        split at hr
        · rename_i d hv
          split at hr
          · rename_i hc
            obtain ⟨rfl, rfl, hc, hid⟩ := hc
            cases hr
            have hH := hrow_at hrow1
            obtain ⟨a1, a2⟩ := argsOk (n := 0) (xs := xs) hv
            have := frameOk (C := H) [id] (h xs d hc) rfl (by simp) rfl (by simpa using hid) (fun i q hq => by
              cases i with
              | zero => simp at hq; subst hq; simpa [ats, Row.mapId] using hH
              | succ i => simp at hq) a1 a2 rfl (fun q hq => by simp at hq; subst hq; exact hf)
            simpa [ats, patch, AV.mapId, Row.mapId] using this
          · cases hr
        · cases hr
      · cases hr
    · cases hr
  · cases hr
theorem appE_ok {P : Program} {g : FuncId} {t : Ty} {ts : List Ty} {c : List t.D → Ds ts → Prop} [∀ l d, Decidable (c l d)] {f : List t.D → Ds ts → List t.D} (hf : t.flat = true)
    (h : ∀ (xs : List t.D) d, c xs d → CallOk P g (.c (.sl 0 0 xs.length t.sz) :: ros ts d) [some (.ty t xs)] (.c (.sl 1 0 (f xs d).length t.sz)) [none, some (.ty t (f xs d))]) : EntryOk P g (appE t ts c f) := fun args H r H' hr => by
  unfold appE at hr
  split at hr
  · rename_i id n e rest
    split at hr
    · rename_i t' ys hrow1
      split at hr
      · rename_i xs ht
        rw [castL_some ht] at hrow1
        split at hr
        · rename_i d hv
          split at hr
          · rename_i hc
            obtain ⟨rfl, rfl, hc, hid⟩ := hc
            cases hr
            have hH := hrow_at hrow1
            obtain ⟨a1, a2⟩ := argsOk (n := 0) (xs := xs) hv
            have := frameOk (C := H) [id] (h xs d hc) rfl (by simp) rfl (by simpa using hid) (fun i q hq => by
              cases i with
              | zero => simp at hq; subst hq; simpa [ats, Row.mapId] using hH
              | succ i => simp at hq) a1 a2 rfl (fun q hq => by simp at hq; subst hq; exact hf)
            simpa [ats, patch, AV.mapId, CV.mapId, Row.mapId] using this
          · cases hr
        · cases hr
      · cases hr
    · cases hr
  · cases hr
attribute [go_sem] turnE appE castL_same
end Go.Proofs.Ytcnoooodnmjdmaa
end
