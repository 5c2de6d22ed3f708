import Derived.Test.YtcnoooodnmjdmaaOdb
set_option linter.unusedSimpArgs false
set_option linter.unusedVariables false
namespace Go.Proofs.Ytcnoooodnmjdmaa
open Go.RowKit Sorts
/-! What is picked is right, and behind it none may come. -/
abbrev stK (hs : List Hd) (S : Sq) (p : List Int) : Sq := p.foldl (comeF hs) S
theorem pick_may (hs : List Hd) (ps : List Int) : ∀ (f : Nat) (S : Sq) (k : Nat) (a : Int), (pickN hs ps f S)[k]? = some a → mayF hs (stK hs S ((pickN hs ps f S).take k)) a = true
  | 0, S, k, a, h => by simp [pickN] at h
  | f + 1, S, k, a, h => by
    cases hf : ps.find? (fun a => mayF hs S a) with
    | none =>
      have e : pickN hs ps (f + 1) S = [] := by unfold pickN; rw [hf]
      rw [e] at h; simp at h
    | some b =>
      have e : pickN hs ps (f + 1) S = b :: pickN hs ps f (comeF hs S b) := by rw [pickN]; rw [hf]
      rw [e] at h ⊢
      cases k with
      | zero =>
        simp at h; subst h
        exact List.find?_some (p := fun a => mayF hs S a) hf
      | succ k =>
        rw [List.getElem?_cons_succ] at h
        exact pick_may hs ps f (comeF hs S b) k a h
theorem pick_end (hs : List Hd) (ps : List Int) : ∀ (f : Nat) (S : Sq), wait S < f → ∀ a ∈ ps, mayF hs (stK hs S (pickN hs ps f S)) a = false
  | 0, S, h, a, ha => absurd h (Nat.not_lt_zero _)
  | f + 1, S, h, a, ha => by
    cases hf : ps.find? (fun a => mayF hs S a) with
    | none =>
      have e : pickN hs ps (f + 1) S = [] := by unfold pickN; rw [hf]
      rw [e]
      have := List.find?_eq_none.1 hf a ha
      simpa using this
    | some b =>
      have e : pickN hs ps (f + 1) S = b :: pickN hs ps f (comeF hs S b) := by rw [pickN]; rw [hf]
      rw [e]
      have hm : mayF hs S b = true := List.find?_some (p := fun a => mayF hs S a) hf
      have := wait_come hm
      exact pick_end hs ps f (comeF hs S b) (by omega) a ha
theorem run_of (hs : List Hd) : ∀ (p : List Int) (S : Sq), (∀ (k : Nat) (a : Int), p[k]? = some a → mayF hs (stK hs S (p.take k)) a = true) → runF hs S p = some (stK hs S p)
  | [], S, h => rfl
  | a :: p, S, h => by
    have h0 := h 0 a rfl
    rw [runF, if_pos (by simpa using h0)]
    exact run_of hs p (comeF hs S a) fun k b hb => by
      have := h (k + 1) b (by simpa using hb)
      simpa using this
theorem run_app (hs : List Hd) : ∀ (p q : List Int) (S S1 : Sq), runF hs S p = some S1 → runF hs S (p ++ q) = runF hs S1 q
  | [], q, S, S1, h => by cases h; rfl
  | a :: p, q, S, S1, h => by
    rw [runF] at h
    split at h
    · rename_i hm
      rw [List.cons_append, runF, if_pos hm]
      exact run_app hs p q _ _ h
    · cases h
theorem pick_run (hs : List Hd) (ns : List Int) (room : Int) (c : Nat) : runF hs (S0 hs ns room) ((pickF hs ns room).take c) = some (stK hs (S0 hs ns room) ((pickF hs ns room).take c)) :=
  run_of hs _ _ fun k a ha => by
    rw [List.getElem?_take] at ha
    split at ha
    · rename_i hk
      rw [List.take_take, Nat.min_eq_left (by omega)]
      exact pick_may hs _ _ _ k a ha
    · cases ha
theorem pick_le (hs : List Hd) (ns : List Int) (room : Int) : (pickF hs ns room).length ≤ hs.length := by
  have := pick_len hs (sorted hs) (hs.length + 1) (S0 hs ns room)
  rw [wait_0] at this
  exact this
theorem pick_right (hs : List Hd) (ns : List Int) (room : Int) (c : Nat) : rightF hs ns room ((pickF hs ns room).take c) = true := by unfold rightF; rw [pick_run]; rfl
theorem pick_right_all (hs : List Hd) (ns : List Int) (room : Int) : rightF hs ns room (pickF hs ns room) = true := by
  have := pick_right hs ns room (pickF hs ns room).length
  rwa [List.take_length] at this
theorem pick_stop (hs : List Hd) (ns : List Int) (room : Int) (i : Nat) (hi : i < hs.length) : rightF hs ns room (pickF hs ns room ++ [(i : Int)]) = false := by
  have h := pick_run hs ns room (pickF hs ns room).length
  rw [List.take_length] at h
  unfold rightF
  rw [run_app hs _ _ _ _ h, runF]
  have := pick_end hs (sorted hs) (hs.length + 1) (S0 hs ns room) (by rw [wait_0]; omega) (i : Int) (sortF_mem.2 (List.mem_map.2 ⟨i, List.mem_range.2 hi, rfl⟩))
  rw [if_neg (by simpa [pickF] using this)]; rfl
theorem hs_ok {l : List Hd} (h : wfD (.sl HT) l) : hsOk l := fun x hx => by
  have := h.2 x hx
  exact wf_u64 this.2.2.1
end Go.Proofs.Ytcnoooodnmjdmaa
