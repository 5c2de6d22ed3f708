/- Laws for a region that draws its order, whose operations read old blocks and whose callees leave what was there: each operation by one law. No program in sight. -/
import Derived.WalkKit
import Derived.Deep.QuietTactic
import Derived.BigQuiet
import Derived.Laws.StructEq
import Derived.Test.YtbdnhoddkdiogaaShQ
set_option linter.unusedSimpArgs false
set_option linter.unusedVariables false
namespace Go.Proofs.Ytbdnhoddkdiogaa
open Go.RowKit

section
variable {P : Program} {ops : Array Oper} {C : World → Prop} {K : Act → Prop} {Q : Act → Prop} {o : Oper} {a : Act} {rest : List Oper} {w : World}

/-- The class of worlds: what was there stays. -/
theorem wp_region_quietB {id : Nat} {Q : Exit → Act → World → Prop} {l : List Oper} (hm : P.follows .mixedOrders = true) (hB : Region.lexB .any l.toArray = true)
    (h : wpQuiet P l.toArray (Below w.heap.size w) (fun a' => ∀ w', Below w.heap.size w w' → Q .normal a' w') l a) : (Code.region id l.toArray true).wp P Q a w :=
  wp_region_quiet (C := Below w.heap.size w) hm hB (Below.refl _ _).drew (by simpa using h)

theorem quiet_run (v : Value) (hr : ∀ w', C w' → (execOp a.eval o).run P w' = .ok (.value v) w') (hk : K (a.put o.dst v)) : o.quiet P a C K :=
  ⟨v, fun w hw => by unfold Oper.quietAt; rw [hr w hw]; exact ⟨rfl, rfl⟩, hk⟩
/-- A slot's value, named. -/
theorem quiet_moveV (x : Operand) (v : Value) (ho : o.op = .move x) (hv : a.eval x = v) (hk : K (a.put o.dst v)) : o.quiet P a C K := BigFrame.quiet_move x ho (hv ▸ hk)
theorem quiet_assignV (x : Operand) (v : Value) (ho : o.op = .assign x) (hv : a.eval x = v) (hk : K (a.put o.dst v)) : o.quiet P a C K := BigFrame.quiet_assign x ho (hv ▸ hk)
/-- A whole array out of an old block. -/
theorem quiet_load_row (ty : TypeId) (x : Operand) (ho : o.op = .load ty x) (g : Nat) (hx : a.eval x = .pointer (some ⟨g, 0, none⟩)) (t : TypeId) (cs : Array Value) (fr : Nat × Nat) (d : TypeDesc)
    (hg : ∀ w', C w' → w'.heap[g]? = some (.cells cs t fr)) (hu : P.underlying ty = some d) (hd : (match d with | .struct _ | .array _ _ => true | _ => false) = true) (hi : (P.info? ty).map (·.size) = some cs.size)
    (hk : K (a.put o.dst (.agg cs))) : o.quiet P a C K :=
  quiet_run (.agg cs) (fun w' hw => by
    unfold execOp
    simp only [ho, hx, Instr.loadAt, Instr.sureAddr, Sem.run_bind, Sem.run_pure, Result.andThen_ok, run_loadVar_row w' g t ty cs fr d (hg w' hw) hu hd hi]) hk
/-- A binary operation whose run is known in every world. -/
theorem quiet_bin (op : BinOp) (t t2 : TypeId) (x y : Operand) (ho : o.op = .binOp op t x y t2) (u v r : Value) (hx : a.eval x = u) (hy : a.eval y = v) (hg : ∀ w, (eqGuard op t x y u v).run P w = .ok () w)
    (hr : ∀ w, (binOp op t u v).run P w = .ok r w) (hk : K (a.put o.dst r)) : o.quiet P a C K :=
  quiet_run r (fun w' _ => by
    unfold execOp
    simp only [ho, hx, hy, Sem.run_bind, hg, hr, Result.andThen_ok, Sem.run_pure]) hk
/-- A call, by a contract whose callee leaves what was there. -/
theorem quiet_call (f : FuncId) (args : Array Value) (v : Value) (he : ∀ w', (execOp a.eval o).run P w' = .ok (.enter f args) w') (hc : ∀ w', Below w.heap.size w w' → Calls P f args w' fun e w'' => e = .returned v ∧ Below w'.heap.size w' w'')
    (hk : K (a.put o.dst v)) : o.quiet P a (Below w.heap.size w) K :=
  ⟨v, fun w' hw => by
    unfold Oper.quietAt; rw [he w']
    exact ⟨rfl, (hc w' hw).mono fun _ _ ⟨h1, h2⟩ => ⟨h1, hw.trans (h2.mono hw.size)⟩⟩, hk⟩

/-- Whether two rows of bytes are one. -/
theorem all_range_eqI : ∀ (xs ys : List Int), xs.length = ys.length → ((List.range xs.length).all fun i => xs.getD i 0 == ys.getD i 0) = (xs == ys)
  | [], [], _ => rfl
  | x :: xs, y :: ys, h => by
    have ih := all_range_eqI xs ys (by simpa using h)
    rw [List.length_cons, List.range_succ_eq_map, List.all_cons, List.all_map]
    simp only [List.getD_cons_zero, Function.comp_def, List.getD_cons_succ, ih]
    simp [List.cons_beq_cons]
  | [], _ :: _, h => by simp at h
  | _ :: _, [], h => by simp at h
theorem run_equalIn_bytesI (d : Nat) (t e : TypeId) (n : Nat) (ht : P.underlying t = some (.array n e)) (he : P.underlying e = some (.int .u8)) (hsz : ∀ w, (sizeOf e).run P w = .ok 1 w)
    (xs ys : List Int) (hx : xs.length = n) (hy : ys.length = n) (w : World) :
    (Op.equalIn (d + 2) t (.agg (Sha.bytes xs)) (.agg (Sha.bytes ys))).run P w = .ok (xs == ys) w := by
  rw [← all_range_eqI xs ys (hx.trans hy.symm), hx, List.range_eq_range', Op.equalIn]
  simp only [Sem.run_bind, run_underlying ht, Result.andThen_ok, hsz, Std.Legacy.Range.forIn_eq_forIn_range', Std.Legacy.Range.size, Nat.sub_zero, Nat.add_sub_cancel, Nat.div_one]
  have hl : ∀ i ∈ List.range' 0 n 1, i < n := fun i hi => by simpa using (List.mem_range'_1.1 hi).2
  generalize List.range' 0 n 1 = l at hl ⊢
  induction l with
  | nil => simp
  | cons i l ih =>
    have hi : i < n := hl i (by simp)
    have px : (part e (Sha.bytes xs) (i * 1)).run P w = .ok (.int .u8 (xs.getD i 0)) w := by
      simp [Sha.bytes, part, isAgg, run_underlying he, List.getD, List.getElem?_eq_getElem (show i < xs.length by omega)]
    have py : (part e (Sha.bytes ys) (i * 1)).run P w = .ok (.int .u8 (ys.getD i 0)) w := by
      simp [Sha.bytes, part, isAgg, run_underlying he, List.getD, List.getElem?_eq_getElem (show i < ys.length by omega)]
    have pe : (Op.equalIn (d + 1) e (.int .u8 (xs.getD i 0)) (.int .u8 (ys.getD i 0))).run P w = .ok (xs.getD i 0 == ys.getD i 0) w := run_equalIn_int w d e .u8 .u8 _ _ he
    simp only [List.forIn_cons, Sem.run_bind, px, py, pe, Result.andThen_ok, List.all_cons]
    cases hb : (xs.getD i 0 == ys.getD i 0)
    · simp
    · simp only [Bool.not_true, Bool.false_eq_true, if_false, Sem.run_pure, Result.andThen_ok, Bool.true_and]
      exact ih fun j hj => hl j (by simp [hj])
theorem run_eql_bytesI (t e : TypeId) (n : Nat) (ht : P.underlying t = some (.array n e)) (he : P.underlying e = some (.int .u8)) (hsz : ∀ w, (sizeOf e).run P w = .ok 1 w)
    (xs ys : List Int) (hx : xs.length = n) (hy : ys.length = n) (w : World) :
    (binOp .eql t (.agg (Sha.bytes xs)) (.agg (Sha.bytes ys))).run P w = .ok (.bool (xs == ys)) w := by
  rw [run_eql_struct, run_equalIn_bytesI 9998 t e n ht he hsz xs ys hx hy]
  rfl
theorem run_neq_bytesI (t e : TypeId) (n : Nat) (ht : P.underlying t = some (.array n e)) (he : P.underlying e = some (.int .u8)) (hsz : ∀ w, (sizeOf e).run P w = .ok 1 w)
    (xs ys : List Int) (hx : xs.length = n) (hy : ys.length = n) (w : World) :
    (binOp .neq t (.agg (Sha.bytes xs)) (.agg (Sha.bytes ys))).run P w = .ok (.bool (!(xs == ys))) w := by
  rw [run_neq_struct, run_equalIn_bytesI 9998 t e n ht he hsz xs ys hx hy]
  rfl
end
end Go.Proofs.Ytbdnhoddkdiogaa
