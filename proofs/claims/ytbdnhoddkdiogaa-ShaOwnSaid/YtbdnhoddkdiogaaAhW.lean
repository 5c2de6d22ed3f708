/- AHI, part W: what is known of a function as an entry; entries together are what calls may lean on. -/
import Derived.Test.YtbdnhoddkdiogaaAhV
set_option linter.unusedSimpArgs false
set_option linter.unusedVariables false
namespace Go.Proofs.Ytbdnhoddkdiogaa
open Go.RowKit

abbrev Entry := List AV → Hp → Option (AV × Hp)
def EntryOk (P : Program) (g : FuncId) (e : Entry) : Prop := ∀ args H r H', e args H = some (r, H') → CallOk P g args H r H'
def Gam.nil : Gam := fun _ _ _ => none
def Gam.cons (f : FuncId) (e : Entry) (Γ : Gam) : Gam := fun g args H => if g = f then e args H else Γ g args H
theorem Gam.nil_ok (P : Program) : GamOk P Gam.nil := fun _ _ _ _ _ h => by cases h
theorem Gam.cons_ok {P : Program} {f : FuncId} {e : Entry} {Γ : Gam} (h : EntryOk P f e) (hΓ : GamOk P Γ) : GamOk P (Gam.cons f e Γ) := fun g args H r H' hr => by
  unfold Gam.cons at hr
  split at hr
  · rename_i hg; subst hg; exact h _ _ _ _ hr
  · exact hΓ _ _ _ _ _ hr
/-- Typed things. -/
@[reducible] def Ds : List Ty → Type
  | [] => Unit | t :: l => t.D × Ds l
def views (H : Hp) : (ts : List Ty) → List AV → Option (Ds ts)
  | [], [] => some ()
  | t :: ts, x :: l => match view H t x, views H ts l with | some d, some ds => some (d, ds) | _, _ => none
  | _, _ => none
def ros : (ts : List Ty) → Ds ts → List AV
  | [], _ => []
  | t :: ts, d => ro t d.1 :: ros ts d.2
theorem views_spec {H : Hp} : ∀ {ts : List Ty} {args : List AV} {d : Ds ts}, views H ts args = some d → args.length = (ros ts d).length ∧ ∀ (i : Nat) y, (ros ts d)[i]? = some y → ∃ x t e, args[i]? = some x ∧ view H t x = some e ∧ y = ro t e
  | [], [], d, h => ⟨rfl, fun i y hy => by simp [ros] at hy⟩
  | [], _ :: _, d, h => by simp [views] at h
  | _ :: _, [], d, h => by simp [views] at h
  | t :: ts, x :: l, d, h => by
    simp only [views] at h
    split at h
    · rename_i e ds he hds
      cases h
      obtain ⟨h1, h2⟩ := views_spec hds
      refine ⟨by simp [ros, h1], fun i y hy => ?_⟩
      cases i with
      | zero => simp only [ros, List.getElem?_cons_zero, Option.some.injEq] at hy; exact ⟨x, t, e, rfl, he, hy.symm⟩
      | succ i => simp only [ros, List.getElem?_cons_succ] at hy; exact h2 i y hy
    · cases h
def flatH (H : Hp) : Bool := H.all fun | none => true | some q => q.flat
theorem flatH_spec {H : Hp} (h : flatH H = true) : ∀ q, some q ∈ H → q.flat = true := fun q hq => by
  have := List.all_eq_true.1 h _ hq
  exact this
def shiftA (n : Nat) (r : AV) : AV := r.mapId (n + ·)
def shiftH (n : Nat) (L : Hp) : Hp := L.map (Option.map (Row.mapId (n + ·)))
/-- A function of things that are read alone. -/
def pureN (ts : List Ty) (c : Ds ts → Prop) [∀ d, Decidable (c d)] (r : Ds ts → AV) (L : Ds ts → Hp) : Entry := fun args H =>
  match views H ts args with
  | some d => if c d then some (shiftA H.length (r d), H ++ shiftH H.length (L d)) else none
  | none => none
theorem pureN_ok {P : Program} {g : FuncId} {ts : List Ty} {c : Ds ts → Prop} [∀ d, Decidable (c d)] {r : Ds ts → AV} {L : Ds ts → Hp} (h : ∀ d, c d → CallOk P g (ros ts d) [] (r d) (L d)) (hr : ∀ d, (r d).flat = true) (hL : ∀ d, flatH (L d) = true) : EntryOk P g (pureN ts c r L) := fun args H x H' hx => by
  unfold pureN at hx
  split at hx
  · rename_i d hd
    split at hx
    · rename_i hc
      cases hx
      obtain ⟨h1, h2⟩ := views_spec hd
      exact lendOk (h d hc) h1 h2 (hr d) (flatH_spec (hL d))
    · cases hx
  · cases hx
/-- A test that is known. -/
theorem AWP.condT {P : Program} {B : Nat} {s : St} {c : Operand} {x y : Code} {b : Bool} {Q : Exit → St → Prop} (hc : testB s c = some b) (hb : b = true) (h : AWP P B x Q s) : AWP P B (.cond c x y) Q s := AWP.cond hc (fun _ => h) (fun e => by rw [hb] at e; cases e)
theorem AWP.condF {P : Program} {B : Nat} {s : St} {c : Operand} {x y : Code} {b : Bool} {Q : Exit → St → Prop} (hc : testB s c = some b) (hb : b = false) (h : AWP P B y Q s) : AWP P B (.cond c x y) Q s := AWP.cond hc (fun e => by rw [hb] at e; cases e) (fun _ => h)
theorem Ghost.of_eq {B : Nat} {s s' : St} (h : s = s') : Ghost B s s' := h ▸ Ghost.refl _ _
theorem wrap_i32' {x : Int} (h : -2147483648 ≤ x) (h' : x < 2147483648) : IntKind.i32.wrap x = x := by simp [IntKind.wrap, IntKind.bits, IntKind.signed]; omega
theorem wrap_u16' {x : Int} (h : 0 ≤ x) (h' : x < 65536) : IntKind.u16.wrap x = x := by simp [IntKind.wrap, IntKind.bits, IntKind.signed]; omega
theorem tdiv_nn {a b : Int} (h : 0 ≤ a) : a.tdiv b = a / b := Int.tdiv_eq_ediv_of_nonneg h
theorem tmod_nn {a b : Int} (h : 0 ≤ a) : a.tmod b = a % b := Int.tmod_eq_emod_of_nonneg h
theorem getElem?_get {α : Type} {xs : List α} {i : Nat} (h : i < xs.length) : xs[i]? = some xs[i] := List.getElem?_eq_getElem h
section
variable {P : Program} {Γ : Gam} {ops l : List Oper} {o q : Oper} {s s1 s' : St} {x : AV} {H H' : Hp} {n j d t : Nat} {env : List (Nat × AV)} {b want : Bool}
theorem aops_end (h : l = []) : aops P Γ ops l s = some s := by subst h; rfl
theorem ag_n (hg : o.guard = none) : aguard ops s o = some true := by simp [aguard, hg]
theorem ag_b (hg : o.guard = some (j, want)) (hq : ops[j]? = some q) (hd : q.dst = some d) (hl : look s.env d = some (.c (.v (.bool b)))) (hb : (b == want) = true) : aguard ops s o = some true := by simp [aguard, hg, hq, hd, hl]; simpa using hb
theorem ag_f (hg : o.guard = some (j, want)) (hq : ops[j]? = some q) (hd : q.dst = some d) (hl : look s.env d = some (.c (.v (.bool b)))) (hb : (b == want) = false) : aguard ops s o = some false := by simp [aguard, hg, hq, hd, hl]; simpa using hb
theorem ag_u (hg : o.guard = some (j, want)) (hq : ops[j]? = some q) (hd : q.dst = some d) (hl : look s.env d = some (.tup [])) : aguard ops s o = some false := by simp [aguard, hg, hq, hd, hl]
theorem aops_mv (hg : aguard ops ⟨n, env, H⟩ o = some true) (ho : o.op = .move (.tmp t)) (hd : o.dst = some d) (hx : look env t = some x) (hlt : Nat.blt d n = true) (h : aops P Γ ops l ⟨n, lay env d x, H⟩ = some s') : aops P Γ ops (o :: l) ⟨n, env, H⟩ = some s' := by
  refine aops_step hg (x := x) (H' := H) ?_ ?_ h
  · rw [ho]; simp [aop, ev, hx, sm]
  · have hlt' : d < n := Nat.blt_eq.mp hlt
    simp [put, hd, hlt']
theorem aops_as (hg : aguard ops ⟨n, env, H⟩ o = some true) (ho : o.op = .assign (.tmp t)) (hd : o.dst = some d) (hx : look env t = some x) (hlt : Nat.blt d n = true) (h : aops P Γ ops l ⟨n, lay env d x, H⟩ = some s') : aops P Γ ops (o :: l) ⟨n, env, H⟩ = some s' := by
  refine aops_step hg (x := x) (H' := H) ?_ ?_ h
  · rw [ho]; simp [aop, ev, hx, sm]
  · have hlt' : d < n := Nat.blt_eq.mp hlt
    simp [put, hd, hlt']
theorem aops_x (hg : aguard ops ⟨n, env, H⟩ o = some true) (hd : o.dst = some d) (hx : aop P Γ ⟨n, env, H⟩ o.op = some (x, H')) (hlt : Nat.blt d n = true) (h : aops P Γ ops l ⟨n, lay env d x, H'⟩ = some s') : aops P Γ ops (o :: l) ⟨n, env, H⟩ = some s' := by
  refine aops_step hg hx ?_ h
  have hlt' : d < n := Nat.blt_eq.mp hlt
  simp [put, hd, hlt']
theorem aops_s (hg : aguard ops ⟨n, env, H⟩ o = some true) (hd : o.dst = none) (hx : aop P Γ ⟨n, env, H⟩ o.op = some (x, H')) (h : aops P Γ ops l ⟨n, env, H'⟩ = some s') : aops P Γ ops (o :: l) ⟨n, env, H⟩ = some s' := by
  refine aops_step hg hx ?_ h
  simp [put, hd]
theorem aops_ps (hg : aguard ops ⟨n, env, H⟩ o = some false) (hd : o.dst = some d) (hlt : Nat.blt d n = true) (h : aops P Γ ops l ⟨n, lay env d (.tup []), H⟩ = some s') : aops P Γ ops (o :: l) ⟨n, env, H⟩ = some s' := by
  refine aops_pass hg ?_ h
  have hlt' : d < n := Nat.blt_eq.mp hlt
  simp [put, hd, hlt']
theorem aops_pn (hg : aguard ops ⟨n, env, H⟩ o = some false) (hd : o.dst = none) (h : aops P Γ ops l ⟨n, env, H⟩ = some s') : aops P Γ ops (o :: l) ⟨n, env, H⟩ = some s' := by
  refine aops_pass hg ?_ h
  simp [put, hd]
end
attribute [go_sem] Ty.isLeaf Gam.nil Gam.cons pureN views ros shiftA shiftH List.map_cons List.map_nil Option.map_some Option.map_none
end Go.Proofs.Ytbdnhoddkdiogaa
