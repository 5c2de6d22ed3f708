/- The call of the document's turning, as an operation. -/
import Derived.Test.YtbdnhoddkdiogaaShF
import Derived.Test.YtbdnhoddkdiogaaShT
import Derived.Test.YtbdnhoddkdiogaaShK
set_option linter.unusedSimpArgs false
set_option linter.unusedVariables false
namespace Go.Proofs.Ytbdnhoddkdiogaa
open Go.RowKit
theorem turn_enters (a : Act) (o : Oper) (x : Operand) (n : Int) (u : Value) (ts : Array TypeId) (ho : o.op = .call { callee := .value (.func 46), args := #[x, .const (.int .u64 n)], argTypes := ts }) (ex : a.eval x = u) (w : World) :
    (execOp a.eval o).run Try.prog w = .ok (.enter 46 #[u, .int .u64 n]) w := by
  have h3 : a.eval (.func 46) = .func (.func 46) #[] #[] := rfl
  have h4 : a.eval (.const (.int .u64 n)) = .int .u64 n := rfl
  generalize a.eval = ρ at *
  unfold execOp
  simp [go_sem, ho, ex, h3, h4]
theorem step_turn {w : World} {o : Oper} {a : Act} {K : Act → World → Prop} {Q : Exit → Act → World → Prop} {ops : Array Oper} {X : Prop} (x : Operand) (n z r : Int) (ts : Array TypeId) (hg : Region.wanted o (yielded ops a.tmps) = true)
    (ho : o.op = .call { callee := .value (.func 46), args := #[x, .const (.int .u64 n)], argTypes := ts }) (ex : a.eval x = .int .u32 z)
    (hc : Calls Try.prog 46 #[.int .u32 z, .int .u64 n] w fun e w' => e = .returned (.int .u32 r) ∧ w = w') (d : Nat) (hd : o.dst = some d) (h : K (a.put (some d) (.int .u32 r)) w) :
    if Region.wanted o (yielded ops a.tmps) = true then Oper.wp Try.prog o a w K Q else X := by
  rw [if_pos hg]
  unfold Oper.wp
  rw [turn_enters a o x n _ ts ho ex w]
  show Calls _ _ _ _ _
  refine hc.mono fun e w' ⟨h1, h2⟩ => ?_
  subst h1 h2
  rw [← hd] at h
  exact h

section
variable {P : Program} {ops : Array Oper} {C : World → Prop} {K : Act → Prop} {o : Oper} {a : Act} {v : Value}
theorem quietY (d : Nat) (hy : YieldsIf P ops C o v a) (hw : Region.wanted o (yielded ops a.tmps) = true) (hd : o.dst = some d) (hk : K (a.put (some d) v)) : o.quiet P a C K := by
  rcases hy with ⟨_, h⟩ | ⟨h, _⟩
  · exact quiet_run v h (by rw [hd]; exact hk)
  · rw [hw] at h; cases h
end
/-- A region's walk by itself, whatever is asked behind it. -/
theorem quiet_gen {P : Program} {ops : Array Oper} {C : World → Prop} {l : List Oper} {a : Act} {Φ : Act → Prop} (R : Act → Prop) (h : ∀ Ψ : Act → Prop, (∀ a', R a' → Ψ a') → wpQuiet P ops C Ψ l a) (hR : ∀ a', R a' → Φ a') : wpQuiet P ops C Φ l a := h Φ hR
theorem quietTurn {o : Oper} {a : Act} {K : Act → Prop} {w : World} (x : Operand) (n z r : Int) (ts : Array TypeId)
    (ho : o.op = .call { callee := .value (.func 46), args := #[x, .const (.int .u64 n)], argTypes := ts }) (ex : a.eval x = .int .u32 z)
    (hc : ∀ W, Calls Try.prog 46 #[.int .u32 z, .int .u64 n] W fun e w' => e = .returned (.int .u32 r) ∧ W = w') (d : Nat) (hd : o.dst = some d) (hk : K (a.put (some d) (.int .u32 r))) : o.quiet Try.prog a (Below w.heap.size w) K :=
  quiet_call 46 #[.int .u32 z, .int .u64 n] (.int .u32 r) (fun W => turn_enters a o x n _ ts ho ex W) (fun W _ => (hc W).mono fun _ _ ⟨h1, h2⟩ => ⟨h1, h2 ▸ Below.refl _ _⟩) (by rw [hd]; exact hk)
theorem run_sub32 {P : Program} (t : TypeId) (a b r : Int) (h : a - b = r) (h0 : 0 ≤ r) (h1 : r < 4294967296) (W : World) : (binOp .sub t (.int .u32 a) (.int .u32 b)).run P W = .ok (.int .u32 r) W := by
  have e : IntKind.u32.wrap (a - b) = r := by rw [h]; unfold IntKind.wrap; simp [IntKind.signed, IntKind.bits]; omega
  simp [go_sem, e]
theorem run_sum32 {P : Program} (t : TypeId) (a b r : Int) (h : (a + b) % 4294967296 = r) (W : World) : (binOp .add t (.int .u32 a) (.int .u32 b)).run P W = .ok (.int .u32 r) W := h ▸ run_add32 t a b W
theorem not_xor (e : Int) (h0 : 0 ≤ e) (h1 : e < 4294967296) : bits .xor .u32 IntKind.u32.max e = 4294967295 - e := by
  obtain ⟨n, rfl⟩ := Int.eq_ofNat_of_zero_le h0
  have hn : n < 2 ^ 32 := by omega
  have hm : IntKind.u32.max = 4294967295 := by decide
  rw [hm, u32_xor _ _ (by omega) (by omega) h0 h1]
  have key : (4294967295 : Nat) ^^^ n = 2 ^ 32 - (n + 1) := by
    apply Nat.eq_of_testBit_eq
    intro i
    rw [Nat.testBit_xor, show (4294967295 : Nat) = 2 ^ 32 - 1 from rfl, Nat.testBit_two_pow_sub_one, Nat.testBit_two_pow_sub_succ hn]
    by_cases hi : i < 32
    · simp [hi]
    · have : n.testBit i = false := Nat.testBit_lt_two_pow (Nat.lt_of_lt_of_le hn (Nat.pow_le_pow_right (by omega) (by omega)))
      simp [hi, this]
  rw [show ((4294967295 : Int)).toNat = 4294967295 from rfl, Int.toNat_natCast, key]
  omega
end Go.Proofs.Ytbdnhoddkdiogaa
