/- AHI, part M: what simp needs to walk: operators on plain values, conditions. -/
import Derived.Test.YtbdnhoddkdiogaaAhL
import Derived.Laws.Entries
set_option linter.unusedSimpArgs false
set_option linter.unusedVariables false
namespace Go.Proofs.Ytbdnhoddkdiogaa
open Go.RowKit

theorem beq_eq_decide' {α : Type} [BEq α] [LawfulBEq α] [DecidableEq α] (x y : α) : (x == y) = decide (x = y) := by
  by_cases h : x = y
  · subst h; simp
  · simp [h, beq_eq_false_iff_ne.2 h]
theorem bne_eq_decide' {α : Type} [BEq α] [LawfulBEq α] [DecidableEq α] (x y : α) : (!(x == y)) = decide (x ≠ y) := by
  rw [beq_eq_decide']; simp
section
variable (k k' : IntKind) (x y : Int)
theorem vb_of {op : BinOp} {z : Value} (h : binOp op 0 (.int k x) (.int k' y) = pure z) (hz : z.oneCell' = true) : vbin op (.int k x) (.int k' y) = some z := by
  show oneV (val? (binOp op 0 (.int k x) (.int k' y))) = some z
  rw [h]; show (if z.oneCell' = true then some z else none) = some z; rw [if_pos hz]
theorem vu_of {op : UnOp} {z : Value} (h : Op.unary op (.int k x) = pure z) (hz : z.oneCell' = true) : vun op (.int k x) = some z := by
  show oneV (val? (Op.unary op (.int k x))) = some z
  rw [h]; show (if z.oneCell' = true then some z else none) = some z; rw [if_pos hz]
theorem vb_add : vbin .add (.int k x) (.int k y) = some (.int k (k.wrap (x + y))) := vb_of _ _ _ _ (by simp [binOp, Op.intArith]) rfl
theorem vb_sub : vbin .sub (.int k x) (.int k y) = some (.int k (k.wrap (x - y))) := vb_of _ _ _ _ (by simp [binOp, Op.intArith]) rfl
theorem vb_mul : vbin .mul (.int k x) (.int k y) = some (.int k (k.wrap (x * y))) := vb_of _ _ _ _ (by simp [binOp, Op.intArith]) rfl
theorem vb_and : vbin .and (.int k x) (.int k y) = some (.int k (bits .and k x y)) := vb_of _ _ _ _ (by simp [binOp, intBits_and]) rfl
theorem vb_or : vbin .or (.int k x) (.int k y) = some (.int k (bits .or k x y)) := vb_of _ _ _ _ (by simp [binOp, intBits_or]) rfl
theorem vb_xor : vbin .xor (.int k x) (.int k y) = some (.int k (bits .xor k x y)) := vb_of _ _ _ _ (by simp [binOp, intBits_xor]) rfl
theorem vb_andNot : vbin .andNot (.int k x) (.int k y) = some (.int k (bits .andNot k x y)) := vb_of _ _ _ _ (by simp [binOp, intBits_andNot]) rfl
theorem vb_quo (h : y ≠ 0) : vbin .quo (.int k x) (.int k y) = some (.int k (k.wrap (x.tdiv y))) := vb_of _ _ _ _ (by simp [binOp, Op.intDiv, h]) rfl
theorem vb_rem (h : y ≠ 0) : vbin .rem (.int k x) (.int k y) = some (.int k (x.tmod y)) := vb_of _ _ _ _ (by simp [binOp, Op.intDiv, h]) rfl
theorem vb_eql : vbin .eql (.int k x) (.int k y) = some (.bool (decide (x = y))) := by rw [← beq_eq_decide']; exact vb_of _ _ _ _ (by simp [binOp, Op.intCmp]) rfl
theorem vb_neq : vbin .neq (.int k x) (.int k y) = some (.bool (decide (x ≠ y))) := by rw [← bne_eq_decide']; exact vb_of _ _ _ _ (by simp [binOp, Op.intCmp, bne]) rfl
theorem vb_lss : vbin .lss (.int k x) (.int k y) = some (.bool (decide (x < y))) := vb_of _ _ _ _ (by simp [binOp, Op.intCmp]) rfl
theorem vb_leq : vbin .leq (.int k x) (.int k y) = some (.bool (decide (x ≤ y))) := vb_of _ _ _ _ (by simp [binOp, Op.intCmp]) rfl
theorem vb_gtr : vbin .gtr (.int k x) (.int k y) = some (.bool (decide (y < x))) := vb_of _ _ _ _ (by simp [binOp, Op.intCmp]) rfl
theorem vb_geq : vbin .geq (.int k x) (.int k y) = some (.bool (decide (y ≤ x))) := vb_of _ _ _ _ (by simp [binOp, Op.intCmp]) rfl
theorem vb_shl (h₀ : 0 ≤ y) (h₁ : y ≤ k.bits) : vbin .shl (.int k x) (.int k' y) = some (.int k (k.wrap (x * 2 ^ y.toNat))) := vb_of _ _ _ _ (by simp [binOp, shift_shl k k' x y h₀ h₁]) rfl
theorem vb_shr (h₀ : 0 ≤ y) (h₁ : y ≤ k.bits) : vbin .shr (.int k x) (.int k' y) = some (.int k (x / 2 ^ y.toNat)) := vb_of _ _ _ _ (by simp [binOp, shift_shr k k' x y h₀ h₁]) rfl
theorem vb_shr_i8 (h₀ : 0 ≤ y) (h₁ : y ≤ 8) : vbin .shr (.int .i8 x) (.int k' y) = some (.int .i8 (x / 2 ^ y.toNat)) := vb_shr .i8 k' x y h₀ h₁
theorem vb_shl_i8 (h₀ : 0 ≤ y) (h₁ : y ≤ 8) : vbin .shl (.int .i8 x) (.int k' y) = some (.int .i8 (IntKind.i8.wrap (x * 2 ^ y.toNat))) := vb_shl .i8 k' x y h₀ h₁
theorem vb_shr_i16 (h₀ : 0 ≤ y) (h₁ : y ≤ 16) : vbin .shr (.int .i16 x) (.int k' y) = some (.int .i16 (x / 2 ^ y.toNat)) := vb_shr .i16 k' x y h₀ h₁
theorem vb_shl_i16 (h₀ : 0 ≤ y) (h₁ : y ≤ 16) : vbin .shl (.int .i16 x) (.int k' y) = some (.int .i16 (IntKind.i16.wrap (x * 2 ^ y.toNat))) := vb_shl .i16 k' x y h₀ h₁
theorem vb_shr_i32 (h₀ : 0 ≤ y) (h₁ : y ≤ 32) : vbin .shr (.int .i32 x) (.int k' y) = some (.int .i32 (x / 2 ^ y.toNat)) := vb_shr .i32 k' x y h₀ h₁
theorem vb_shl_i32 (h₀ : 0 ≤ y) (h₁ : y ≤ 32) : vbin .shl (.int .i32 x) (.int k' y) = some (.int .i32 (IntKind.i32.wrap (x * 2 ^ y.toNat))) := vb_shl .i32 k' x y h₀ h₁
theorem vb_shr_i64 (h₀ : 0 ≤ y) (h₁ : y ≤ 64) : vbin .shr (.int .i64 x) (.int k' y) = some (.int .i64 (x / 2 ^ y.toNat)) := vb_shr .i64 k' x y h₀ h₁
theorem vb_shl_i64 (h₀ : 0 ≤ y) (h₁ : y ≤ 64) : vbin .shl (.int .i64 x) (.int k' y) = some (.int .i64 (IntKind.i64.wrap (x * 2 ^ y.toNat))) := vb_shl .i64 k' x y h₀ h₁
theorem vb_shr_u8 (h₀ : 0 ≤ y) (h₁ : y ≤ 8) : vbin .shr (.int .u8 x) (.int k' y) = some (.int .u8 (x / 2 ^ y.toNat)) := vb_shr .u8 k' x y h₀ h₁
theorem vb_shl_u8 (h₀ : 0 ≤ y) (h₁ : y ≤ 8) : vbin .shl (.int .u8 x) (.int k' y) = some (.int .u8 (IntKind.u8.wrap (x * 2 ^ y.toNat))) := vb_shl .u8 k' x y h₀ h₁
theorem vb_shr_u16 (h₀ : 0 ≤ y) (h₁ : y ≤ 16) : vbin .shr (.int .u16 x) (.int k' y) = some (.int .u16 (x / 2 ^ y.toNat)) := vb_shr .u16 k' x y h₀ h₁
theorem vb_shl_u16 (h₀ : 0 ≤ y) (h₁ : y ≤ 16) : vbin .shl (.int .u16 x) (.int k' y) = some (.int .u16 (IntKind.u16.wrap (x * 2 ^ y.toNat))) := vb_shl .u16 k' x y h₀ h₁
theorem vb_shr_u32 (h₀ : 0 ≤ y) (h₁ : y ≤ 32) : vbin .shr (.int .u32 x) (.int k' y) = some (.int .u32 (x / 2 ^ y.toNat)) := vb_shr .u32 k' x y h₀ h₁
theorem vb_shl_u32 (h₀ : 0 ≤ y) (h₁ : y ≤ 32) : vbin .shl (.int .u32 x) (.int k' y) = some (.int .u32 (IntKind.u32.wrap (x * 2 ^ y.toNat))) := vb_shl .u32 k' x y h₀ h₁
theorem vb_shr_u64 (h₀ : 0 ≤ y) (h₁ : y ≤ 64) : vbin .shr (.int .u64 x) (.int k' y) = some (.int .u64 (x / 2 ^ y.toNat)) := vb_shr .u64 k' x y h₀ h₁
theorem vb_shl_u64 (h₀ : 0 ≤ y) (h₁ : y ≤ 64) : vbin .shl (.int .u64 x) (.int k' y) = some (.int .u64 (IntKind.u64.wrap (x * 2 ^ y.toNat))) := vb_shl .u64 k' x y h₀ h₁
theorem vu_neg : vun .neg (.int k x) = some (.int k (k.wrap (0 - x))) := vu_of _ _ (by simp [Op.unary, Op.intArith]) rfl
theorem vu_not (b : Bool) : vun .not (.bool b) = some (.bool !b) := rfl
end
section
variable (a b : ByteArray)
theorem vb_seql : vbin .eql (.string a) (.string b) = some (.bool (decide (a.toList = b.toList))) := by rw [← beq_eq_decide']; rfl
theorem vb_sneq : vbin .neq (.string a) (.string b) = some (.bool (decide (a.toList ≠ b.toList))) := by rw [← bne_eq_decide']; rfl
end
section
variable (op : BinOp)
end
/-! ### Constants -/
theorem cA_int (k : IntKind) (x : Int) : constAV (.int k x) = some (.c (.v (.int k x))) := by simp [constAV, Value.oneCell']
theorem cA_bool (b : Bool) : constAV (.bool b) = some (.c (.v (.bool b))) := by simp [constAV, Value.oneCell']
theorem cA_string (s : ByteArray) : constAV (.string s) = some (.c (.v (.string s))) := by simp [constAV, Value.oneCell']
theorem cA_slice (a : Option Addr) (l c : Nat) : constAV (.slice a l c) = some (.c (.v (.slice a l c))) := by simp [constAV, Value.oneCell']
theorem cA_pointer (a : Option Addr) : constAV (.pointer a) = some (.c (.v (.pointer a))) := by simp [constAV, Value.oneCell']
theorem cA_nilFunc : constAV .nilFunc = some (.c (.v .nilFunc)) := by simp [constAV, Value.oneCell']
theorem cA_float (k : FloatKind) (x : Nat) : constAV (.float k x) = some (.c (.v (.float k x))) := by simp [constAV, Value.oneCell']
theorem natI_int (k : IntKind) (n : Int) : natI (.c (.v (.int k n))) = some n := rfl
theorem wrap_u8' {x : Int} (h : 0 ≤ x) (h' : x < 256) : IntKind.u8.wrap x = x := by simp [IntKind.wrap, IntKind.bits, IntKind.signed]; omega
theorem wrap_u32' {x : Int} (h : 0 ≤ x) (h' : x < 4294967296) : IntKind.u32.wrap x = x := by simp [IntKind.wrap, IntKind.bits, IntKind.signed]; omega
theorem wrap_u64' {x : Int} (h : 0 ≤ x) (h' : x < 18446744073709551616) : IntKind.u64.wrap x = x := by simp [IntKind.wrap, IntKind.bits, IntKind.signed]; omega
theorem wrap_i64' {x : Int} (h : -9223372036854775808 ≤ x) (h' : x < 9223372036854775808) : IntKind.i64.wrap x = x := by simp [IntKind.wrap, IntKind.bits, IntKind.signed]; omega
section
variable {P : Program} {Γ : Gam} {B : Nat} {s s' : St} {Q : Exit → St → Prop}
/-- A region ahead. -/
theorem AWP.seqR (hΓ : GamOk P Γ) (K : List Nat) {id : Nat} {ops : Array Oper} {d : Code} (h : aops P Γ ops.toList ops.toList s = some s') (hq : AWP P B d Q (trim K s')) : AWP P B (.seq (.region id ops false) d) Q s :=
  AWP.seq (AWP.region hΓ h (AWP.ghost (Ghost.trim B K s') hq))
theorem AWP.regionT (hΓ : GamOk P Γ) (K : List Nat) {id : Nat} {ops : Array Oper} (h : aops P Γ ops.toList ops.toList s = some s') (hq : Q .normal (trim K s')) : AWP P B (.region id ops false) Q s := fun X σ a w hs =>
  wp_region_list (wpList_sound hΓ h hs fun σ' a' w' h1 h2 => ⟨σ', Go.Proofs.Ytbdnhoddkdiogaa.trim K s', hq, h1.trim K, h2.toB⟩)
theorem AWP.seqBlock {id : Nat} {c d : Code} (h : AWP P B c (blockQ id (thenQ (AWP P B d Q) Q)) s) : AWP P B (.seq (.block id c) d) Q s := AWP.seq (AWP.block h)
theorem AWP.seqRet {d : Code} (h : Q .ret s) : AWP P B (.seq .ret d) Q s := AWP.seq (AWP.ret h)
theorem AWP.seqExit {id : Nat} {d : Code} (h : Q (.exit id) s) : AWP P B (.seq (.exit id) d) Q s := AWP.seq (AWP.exit h)
theorem AWP.seqSkip {d : Code} (h : AWP P B d Q s) : AWP P B (.seq .skip d) Q s := AWP.seq (AWP.skip h)
/-- A loop whose states are told by parameters. -/
theorem AWP.loopP {α : Type} {c : Code} (st : α → St) (I : α → Prop) (μ : α → Nat) (a0 : α) (hg : Ghost B s (st a0)) (h0 : I a0) (round : ∀ a, I a → AWP P B c (thenQ (fun s' => ∃ a', Ghost B s' (st a') ∧ I a' ∧ μ a' < μ a) Q) (st a)) : AWP P B (.loop c) Q s := by
  have key : ∀ (n : Nat) (a1 : α), μ a1 = n → I a1 → ∀ X σ a w, StRep X σ (st a1) a w → ∀ b k cs, ∃ e a' w', (∃ σ' s', Q e s' ∧ StRep X σ' s' a' w' ∧ StepB B σ (st a1).H w σ' s'.H w') ∧ Arrives P (lone (b.at a (.code c :: .inLoop c :: k)) cs w) b k cs e a' w' := by
    intro n
    induction n using Nat.strongRecOn with
    | _ n ih =>
      intro a1 hn hI1 X σ1 f1 w1 hs1 b k cs
      obtain ⟨e, a2, w2, ⟨σ2, s2, hq, hs2, hst2⟩, harr⟩ := round a1 hI1 X σ1 f1 w1 hs1 b (.inLoop c :: k) cs
      cases e with
      | normal =>
        obtain ⟨a3, hg3, hI3, hlt⟩ := hq
        obtain ⟨σ3, hs3, hst3⟩ := hg3 X σ2 a2 w2 hs2
        obtain ⟨e4, a4, w4, ⟨σ4, s4, hq4, hs4, hst4⟩, harr4⟩ := ih (μ a3) (hn ▸ hlt) a3 rfl hI3 X σ3 a2 w2 hs3 b k cs
        exact ⟨e4, a4, w4, ⟨σ4, s4, hq4, hs4, (hst2.trans hst3).trans hst4⟩, .of_steps (Steps.trans harr (.one step_inLoop)) harr4⟩
      | exit id => exact ⟨_, a2, w2, ⟨σ2, s2, hq, hs2, hst2⟩, .pass (x := .inLoop c) rfl (fun _ _ => .inl (by simp)) harr⟩
      | goto l => exact ⟨_, a2, w2, ⟨σ2, s2, hq, hs2, hst2⟩, .pass (x := .inLoop c) rfl (fun _ _ => .inl (by simp)) harr⟩
      | ret => exact ⟨_, a2, w2, ⟨σ2, s2, hq, hs2, hst2⟩, .pass (x := .inLoop c) rfl (fun _ _ => .inl (by simp)) harr⟩
      | panic ch => exact ⟨_, a2, w2, ⟨σ2, s2, hq, hs2, hst2⟩, .pass (x := .inLoop c) rfl (fun _ _ => .inl (by simp)) harr⟩
      | outgrown => exact ⟨_, a2, w2, ⟨σ2, s2, hq, hs2, hst2⟩, .pass (x := .inLoop c) rfl (fun _ _ => .inl (by simp)) harr⟩
  refine AWP.ghost hg fun X σ a w hs b k cs => ?_
  obtain ⟨e, a', w', hq, harr⟩ := key _ a0 rfl h0 X σ a w hs b k cs
  exact ⟨e, a', w', hq, .of_steps (.one step_loop) harr⟩
/-- A body, its literals ahead. -/
theorem callOk' {H H' : Hp} {g : FuncId} {fn : Func} {args : List AV} {r : AV} (hf : P.funcs[g]? = some fn) (n : Nat) (rs : List ResultVar) (c : Code) (hb : fn.body = some c) (hn : fn.ntmps = n) (hr : fn.results.toList = rs) (hc : callable P g = true) (hlen : args.length ≤ n) (ρ : List Nat) (hnd : nodupB ρ = true) (hB : firstB H.length ρ = true) (hl : H.length ≤ ρ.length)
    (h : AWP P H.length c (fun e s => (e = .normal ∨ e = .ret) ∧ ∃ xs, aresult P s rs = some xs ∧ (tupled xs).ren ρ = some r ∧ gcH ρ s.H ρ = some H') ⟨n, params 0 args, H⟩) : CallOk P g args H r H' := by
  subst hn hr
  exact callOk hf hb hc hlen ρ hnd hB hl h
end
theorem beq_tt : (true == true) = true := rfl
theorem beq_tf : (true == false) = false := rfl
theorem beq_ft : (false == true) = false := rfl
theorem beq_ff : (false == false) = true := rfl
theorem dite_u {α : Type} {c : Prop} [Decidable c] {a b : α} (h : c) : (if c then a else b) = a := if_pos h
end Go.Proofs.Ytbdnhoddkdiogaa
