/- AHI, part Y: entries for functions that turn a row of the caller's, or go on with it. -/
import Derived.Test.YtbdnhoddkdiogaaAhX
set_option linter.unusedSimpArgs false
set_option linter.unusedVariables false
namespace Go.Proofs.Ytbdnhoddkdiogaa
open Go.RowKit
theorem hrow_at {H : Hp} {id : Nat} {r : Row} (h : hrow H id = some r) : H[id]? = some (some r) := by unfold hrow at h; split at h <;> simp_all
/-- Of that kind. -/
def castL (t' t : Ty) (xs : List t'.D) : Option (List t.D) := if h : t' = t then some (h ▸ xs) else none
theorem castL_same (t : Ty) (xs : List t.D) : castL t t xs = some xs := by simp [castL]
theorem castL_some {t' t : Ty} {ys : List t'.D} {xs : List t.D} (h : castL t' t ys = some xs) : Row.ty t' ys = .ty t xs := by
  unfold castL at h
  split at h
  · rename_i ht; subst ht; cases h; rfl
  · cases h
/-- A row is turned where it lies. -/
def turnE (t : Ty) (ts : List Ty) (c : List t.D → Ds ts → Prop) [∀ l d, Decidable (c l d)] (f : List t.D → Ds ts → List t.D) : Entry := fun args H => match args with
  | .c (.sl id 0 n e) :: rest => match hrow H id with
    | some (.ty t' ys) => match castL t' t ys with
      | some xs => (match views (H.set id none) ts rest with
        | some d => if e = t.sz ∧ n = xs.length ∧ c xs d ∧ id < H.length then some (.tup [], H.set id (some (.ty t (f xs d)))) else none
        | none => none)
      | none => none
    | _ => none
  | _ => none
/-- A row is gone on with; it comes back under a new number. -/
def appE (t : Ty) (ts : List Ty) (c : List t.D → Ds ts → Prop) [∀ l d, Decidable (c l d)] (f : List t.D → Ds ts → List t.D) : Entry := fun args H => match args with
  | .c (.sl id 0 n e) :: rest => match hrow H id with
    | some (.ty t' ys) => match castL t' t ys with
      | some xs => (match views (H.set id none) ts rest with
        | some d => if e = t.sz ∧ n = xs.length ∧ c xs d ∧ id < H.length then some (.c (.sl H.length 0 (f xs d).length t.sz), H.set id none ++ [some (.ty t (f xs d))]) else none
        | none => none)
      | none => none
    | _ => none
  | _ => none
theorem argsOk {H : Hp} {id n : Nat} {t : Ty} {xs : List t.D} {ts : List Ty} {rest : List AV} {d : Ds ts} (hv : views (H.set id none) ts rest = some d) :
    (AV.c (.sl id 0 xs.length t.sz) :: rest).length = (AV.c (.sl 0 0 xs.length t.sz) :: ros ts d).length ∧ ∀ (i : Nat) y, (AV.c (.sl 0 0 xs.length t.sz) :: ros ts d)[i]? = some y → ∃ x, (AV.c (.sl id 0 xs.length t.sz) :: rest)[i]? = some x ∧ ArgOk H [id] (ats [id] H.length) x y := by
  obtain ⟨h1, h2⟩ := views_spec hv
  refine ⟨by simp [h1], fun i y hy => ?_⟩
  cases i with
  | zero => cases hy; exact ⟨_, rfl, .inl (by simp [AV.map1, CV.mapId, ats])⟩
  | succ i =>
    obtain ⟨x, t', e, hx, hview, rfl⟩ := h2 i y (by simpa using hy)
    exact ⟨x, by simpa using hx, .inr ⟨t', e, hview, rfl⟩⟩
theorem turnE_ok {P : Program} {g : FuncId} {t : Ty} {ts : List Ty} {c : List t.D → Ds ts → Prop} [∀ l d, Decidable (c l d)] {f : List t.D → Ds ts → List t.D} (hf : t.flat = true)
    (h : ∀ (xs : List t.D) d, c xs d → CallOk P g (.c (.sl 0 0 xs.length t.sz) :: ros ts d) [some (.ty t xs)] (.tup []) [some (.ty t (f xs d))]) : EntryOk P g (turnE t ts c f) := fun args H r H' hr => by
  unfold turnE at hr
  split at hr
  · rename_i id n e rest
    split at hr
    · rename_i t' ys hrow1
      split at hr
      · rename_i xs ht
        rw [castL_some ht] at hrow1
        split at hr
        · rename_i d hv
          split at hr
          · rename_i hc
            obtain ⟨rfl, rfl, hc, hid⟩ := hc
            cases hr
            have hH := hrow_at hrow1
            obtain ⟨a1, a2⟩ := argsOk (n := 0) (xs := xs) hv
            have := frameOk (C := H) [id] (h xs d hc) rfl (by simp) rfl (by simpa using hid) (fun i q hq => by
              cases i with
              | zero => simp at hq; subst hq; simpa [ats, Row.mapId] using hH
              | succ i => simp at hq) a1 a2 rfl (fun q hq => by simp at hq; subst hq; exact hf)
            simpa [ats, patch, AV.mapId, Row.mapId] using this
          · cases hr
        · cases hr
      · cases hr
    · cases hr
  · cases hr
theorem appE_ok {P : Program} {g : FuncId} {t : Ty} {ts : List Ty} {c : List t.D → Ds ts → Prop} [∀ l d, Decidable (c l d)] {f : List t.D → Ds ts → List t.D} (hf : t.flat = true)
    (h : ∀ (xs : List t.D) d, c xs d → CallOk P g (.c (.sl 0 0 xs.length t.sz) :: ros ts d) [some (.ty t xs)] (.c (.sl 1 0 (f xs d).length t.sz)) [none, some (.ty t (f xs d))]) : EntryOk P g (appE t ts c f) := fun args H r H' hr => by
  unfold appE at hr
  split at hr
  · rename_i id n e rest
    split at hr
    · rename_i t' ys hrow1
      split at hr
      · rename_i xs ht
        rw [castL_some ht] at hrow1
        split at hr
        · rename_i d hv
          split at hr
          · rename_i hc
            obtain ⟨rfl, rfl, hc, hid⟩ := hc
            cases hr
            have hH := hrow_at hrow1
            obtain ⟨a1, a2⟩ := argsOk (n := 0) (xs := xs) hv
            have := frameOk (C := H) [id] (h xs d hc) rfl (by simp) rfl (by simpa using hid) (fun i q hq => by
              cases i with
              | zero => simp at hq; subst hq; simpa [ats, Row.mapId] using hH
              | succ i => simp at hq) a1 a2 rfl (fun q hq => by simp at hq; subst hq; exact hf)
            simpa [ats, patch, AV.mapId, CV.mapId, Row.mapId] using this
          · cases hr
        · cases hr
      · cases hr
    · cases hr
  · cases hr
attribute [go_sem] turnE appE castL_same
end Go.Proofs.Ytbdnhoddkdiogaa
