import Derived.RangeFuncCalls
import Derived.OwnWalkIn
set_option linter.unusedSimpArgs false
set_option linter.unusedVariables false
/-! Inside a round of a range over a function: what is no defer statement means the same. -/
namespace Go.Proofs.Ytbdnhoddkdiogaa
open Go
theorem upon_round {F : Fence} {n : Nat} {P : Program} {o : Oper} {a : Act} {next : Act → World → Prop} {Q : Exit → Act → World → Prop} {l : Nat} (r : Result Next) : o.uponIn (F.inRound l) n P a next Q r = o.uponIn F n P a next Q r := by
  cases r with
  | ok v w => cases v <;> rfl
  | halt h w => cases h <;> rfl
theorem wpListIn_round {F : Fence} {n : Nat} {P : Program} {ops : Array Oper} {Q : Exit → Act → World → Prop} {l : Nat} (hF : F.round = none) : ∀ (rest : List Oper), (∀ o ∈ rest, ∀ c, o.op ≠ .defer c) → wpListIn (F.inRound l) n P ops Q rest = wpListIn F n P ops Q rest
  | [], _ => by funext a w; rfl
  | o :: rest, h => by
    funext a w
    have ih := wpListIn_round (l := l) (n := n) (P := P) (ops := ops) (Q := Q) hF rest (fun o' ho => h o' (List.mem_cons_of_mem _ ho))
    have ho := h o List.mem_cons_self
    unfold wpListIn
    rw [ih]
    unfold Oper.wpIn
    rw [Oper.semAt_plain _ _ _ ho, Oper.semAt_plain _ _ _ ho, upon_round]
    rfl
theorem upon_wide {n : Nat} {P : Program} {o : Oper} {a : Act} {next next' : Act → World → Prop} {Q : Exit → Act → World → Prop} (hn : ∀ a w, next a w → next' a w)
    (hr : ∀ row args w R, Rows P row args w R → RowsIn Fence.wide (n - 1) P row args w R) : ∀ r : Result Next, o.upon P a next Q r → o.uponIn Fence.wide n P a next' Q r
  | .ok (.value v) w, h => hn _ _ h
  | .ok .skip w, h => hn _ _ h
  | .ok (.defer d) w, h => hn _ _ h
  | .ok (.enter f args) w, h => ⟨fun hd => by simp [Fence.wide] at hd, callsIn_wide.2 (Calls.mono h fun e w' he => by
      cases e with
      | returned v => exact hn _ _ he
      | panicked c => exact he
      | outgrown => exact he)⟩
  | .ok (.row row args) w, h => ⟨fun hd => by simp [Fence.wide] at hd, hr _ _ _ _ (Rows.mono h fun v w' he => hn _ _ he)⟩
  | .halt (.panic v) w, h => h
theorem wpListIn_of {n : Nat} {P : Program} {ops : Array Oper} {Q : Exit → Act → World → Prop} (hQ : ¬ LetsOut Q) (hr : ∀ row args w R, Rows P row args w R → RowsIn Fence.wide (n - 1) P row args w R) : ∀ (rest : List Oper) (a : Act) (w : World), wpList P ops Q rest a w → wpListIn Fence.wide n P ops Q rest a w
  | [], a, w, h => h
  | o :: rest, a, w, h => by
    unfold wpList at h
    unfold wpListIn
    split at h
    · rename_i hw
      rw [if_pos hw]
      refine ⟨fun _ _ => trivial, ?_⟩
      have h1 : o.wp P a w (wpList P ops Q rest) Q := h.resolve_right fun g => hQ g.2
      have e : o.semAt Fence.wide.round a.eval = execOp a.eval o := by show o.semAt none a.eval = _; simp [Oper.semAt]
      rw [e]
      exact upon_wide (wpListIn_of hQ hr rest) hr _ h1
    · rename_i hw
      rw [if_neg hw]
      exact ⟨fun _ _ => trivial, wpListIn_of hQ hr rest _ _ h⟩
theorem rows_wide {n : Nat} {P : Program} {row : String} {args : Array Value} {w : World} {R : Value → World → Prop} (h : Rows P row args w R) : RowsIn Fence.wide n P row args w R := fun c cs _ =>
  let ⟨v, w', r, s⟩ := h c cs
  ⟨v, w', r, stepsIn_wide.2 s⟩
/-- What the plain walk shows of a region's operations holds inside a round, too. -/
theorem wpListIn_plain_round {n l : Nat} {P : Program} {ops : Array Oper} {Q : Exit → Act → World → Prop} (hQ : ¬ LetsOut Q) {rest : List Oper} (hd : ∀ o ∈ rest, ∀ c, o.op ≠ .defer c) {a : Act} {w : World} (h : wpList P ops Q rest a w) : wpListIn (Fence.wide.inRound l) n P ops Q rest a w := by
  rw [wpListIn_round rfl rest hd]
  exact wpListIn_of hQ (fun _ _ _ _ => rows_wide) rest a w h
end Go.Proofs.Ytbdnhoddkdiogaa
