/- AHI, more entries: values alone; objects with values behind; structs in slots typed. -/
import Derived.Test.YtcnoooodnmjdmaaAi4
set_option linter.unusedSimpArgs false
set_option linter.unusedVariables false
namespace Go.Proofs.Ytcnoooodnmjdmaa
open Go.RowKit
section
variable {P : Program} {X : Nat → Prop} {σ : Sg} {s : St} {H : Hp} {w : World} {B : Nat}
/-- A struct in a slot is typed. -/
theorem Ghost.aggTy (t : Nat) (k : Ty) {r : Row} {x : k.D} (hl : look s.env t = some (.agg r)) (hx : Row.one k r = some x) : Ghost B s ⟨s.n, lay s.env t (.agg (oneRow k x)), s.H⟩ := fun X σ a w hs => by
  refine ⟨σ, ⟨hs.size, hs.defers, fun u y hu hy => ?_, hs.heap⟩, StepB.refl _ _ _ _⟩
  simp only [look_lay] at hy
  split at hy
  · rename_i hut
    subst hut
    cases hy
    obtain ⟨v, h3, vs, rfl, h4, h5⟩ := hs.env u _ trivial hl
    obtain ⟨h6, h7⟩ := rowOne_rep h5 hx
    obtain ⟨h8, h9⟩ := oneRow_rep h6
    exact ⟨_, h3, vs, rfl, by rw [h4, h7, h9], h8⟩
  · exact hs.env u y hu hy
/-- Ways that come together. -/
theorem AWP.join1 {α : Type} {id : Nat} {c : Code} {Q : Exit → St → Prop} (st : α → St) (I : α → Prop) (h : AWP P B c (blockQ id (thenQ (fun s' => ∃ a, Ghost B s' (st a) ∧ I a) Q)) s) (hd : ∀ a, I a → Q .normal (st a)) : AWP P B (.block id c) Q s :=
  AWP.block (fun X σ a w hs => Code.wp_mono (fun e a' w' ⟨σ', s', h1, h2, h3⟩ => by
    have key : ∀ s1, (∃ x, Ghost B s1 (st x) ∧ I x) → (∀ σ1, StRep X σ1 s1 a' w' → StepB B σ s.H w σ1 s1.H w' → ∃ σ2 s2, Q .normal s2 ∧ StRep X σ2 s2 a' w' ∧ StepB B σ s.H w σ2 s2.H w') := fun s1 ⟨x, hg, hI⟩ σ1 g1 g2 => by
      obtain ⟨σ2, g3, g4⟩ := hg X σ1 a' w' g1
      exact ⟨σ2, st x, hd x hI, g3, g2.trans g4⟩
    cases e with
    | normal => exact key s' h1 σ' h2 h3
    | exit id' =>
      by_cases hid : id' = id
      · have h1' : ∃ x, Ghost B s' (st x) ∧ I x := by simpa [blockQ, thenQ, hid] using h1
        obtain ⟨σ2, s2, g1, g2, g3⟩ := key s' h1' σ' h2 h3
        exact ⟨σ2, s2, by simp only [blockQ, hid, if_true]; exact g1, g2, g3⟩
      · have h1' : Q (.exit id') s' := by simpa [blockQ, thenQ, hid] using h1
        exact ⟨σ', s', by simp only [blockQ, hid, if_false]; exact h1', h2, h3⟩
    | _ => exact ⟨σ', s', h1, h2, h3⟩) (h X σ a w hs))
theorem AWP.join {α : Type} {id : Nat} {c d : Code} {Q : Exit → St → Prop} (st : α → St) (I : α → Prop) (h : AWP P B c (blockQ id (thenQ (fun s' => ∃ a, Ghost B s' (st a) ∧ I a) (thenQ (AWP P B d Q) Q))) s) (hd : ∀ a, I a → AWP P B d Q (st a)) : AWP P B (.seq (.block id c) d) Q s :=
  AWP.seq (AWP.join1 st I h hd)
/-- Plain values. -/
def vals : List AV → Option (List Value)
  | [] => some []
  | .c (.v x) :: l => (vals l).map (x :: ·)
  | _ :: _ => none
theorem vals_some : ∀ {l : List AV} {vs : List Value}, vals l = some vs → l = vs.map fun v => .c (.v v)
  | [], vs, h => by cases h; rfl
  | x :: l, vs, h => by
    unfold vals at h
    split at h
    · rename_i heq; cases heq
    · rename_i y l' heq
      cases heq
      obtain ⟨us, hu, rfl⟩ := Option.map_eq_some_iff.1 h
      rw [vals_some hu]; rfl
    · cases h
/-- A function of plain values, that makes nothing. -/
def valsE (p : List Value → Bool) (r : List Value → AV) : Entry := fun args H => match vals args with
  | some vs => if p vs = true then some (shiftA H.length (r vs), H) else none
  | none => none
theorem ats_nil (n i : Nat) : ats [] n i = n + i := by simp [ats]
theorem valsE_ok {g : FuncId} {p : List Value → Bool} {r : List Value → AV} (h : ∀ vs, p vs = true → CallOk P g (vs.map fun v => .c (.v v)) [] (r vs) []) : EntryOk P g (valsE p r) := fun args H R H' hr => by
  unfold valsE at hr
  split at hr
  · rename_i vs hv
    split at hr
    · rename_i hp
      cases hr
      have ha := vals_some hv
      have := frameOk0 (C := H) (args := args) [] (h vs hp) rfl (by simp) rfl (by simp) (fun i q hq => by simp at hq) (by rw [ha]) (fun i y hy => by
        rw [ha, hy]
        obtain ⟨v, -, rfl⟩ := List.mem_map.1 (List.mem_of_getElem? hy)
        rfl)
      have e : ats [] H.length = fun i => H.length + i := funext fun i => ats_nil _ _
      simp only [e] at this
      simpa [patch, shiftA] using this
    · cases hr
  · cases hr
/-- A method on an object, plain values behind. -/
def objVE (F : FuncId) (t : Ty) (c : List t.D → Int → List Value → Prop) [∀ l p d, Decidable (c l p d)] (r : List t.D → Int → List Value → AV) (f : List t.D → Int → List Value → List t.D) (q : List t.D → Int → List Value → Int) : Entry := fun args H => match args with
  | .c (.ptr id 0 1 0) :: rest => match hrow H id with
    | some (.raw [.v (.func (.func g) fa fb), .sl e 0 n sz, .v (.int .i64 p)]) => match hrow H e with
      | some (.ty t' ys) => match castL t' t ys with
        | some xs => (match vals rest with
          | some d => if g = F ∧ fa.size = 0 ∧ fb.size = 0 ∧ sz = t.sz ∧ n = xs.length ∧ id ≠ e ∧ c xs p d then some ((r xs p d).mapId (ats [id, e] H.length), patch (ats [id, e] H.length) [id, e] [some (.raw [.v (.func (.func F) #[] #[]), .sl 1 0 (f xs p d).length t.sz, ci .i64 (q xs p d)]), some (.ty t (f xs p d))] H) else none
          | none => none)
        | none => none
      | _ => none
    | _ => none
  | _ => none
theorem objVE_ok {g : FuncId} {F : FuncId} {t : Ty} {c : List t.D → Int → List Value → Prop} [∀ l p d, Decidable (c l p d)] {r : List t.D → Int → List Value → AV} {f : List t.D → Int → List Value → List t.D} {q : List t.D → Int → List Value → Int}
    (h : ∀ (xs : List t.D) (p : Int) d, c xs p d → CallOk P g (.c (.ptr 0 0 1 0) :: d.map fun v => .c (.v v)) [some (.raw [.v (.func (.func F) #[] #[]), .sl 1 0 xs.length t.sz, ci .i64 p]), some (.ty t xs)] (r xs p d)
      [some (.raw [.v (.func (.func F) #[] #[]), .sl 1 0 (f xs p d).length t.sz, ci .i64 (q xs p d)]), some (.ty t (f xs p d))]) : EntryOk P g (objVE F t c r f q) := fun args H R H' hr => by
  unfold objVE at hr
  split at hr
  · rename_i id rest
    split at hr
    · rename_i g' fa fb e n sz p hrow1
      split at hr
      · rename_i t' ys hrow2
        split at hr
        · rename_i xs ht
          rw [castL_some ht] at hrow2
          split at hr
          · rename_i d hv
            split at hr
            · rename_i hc
              obtain ⟨rfl, ha, hb, rfl, rfl, hne, hc⟩ := hc
              obtain rfl : fa = #[] := Array.eq_empty_of_size_eq_zero ha
              obtain rfl : fb = #[] := Array.eq_empty_of_size_eq_zero hb
              cases hr
              have i1 := (List.getElem?_eq_some_iff.1 (hrow_at hrow1)).1
              have i2 := (List.getElem?_eq_some_iff.1 (hrow_at hrow2)).1
              have hvs := vals_some hv
              refine frameOk0 [id, e] (h xs p d hc) rfl (by simp) (by simp [nodupB, hne]) (by simp [i1, i2]) (fun i x hx => ?_) (by simp [hvs]) (fun i y hy => ?_)
              · match i, hx with
                | 0, hx => cases hx; simpa [ats, Row.mapId, CV.mapId] using hrow_at hrow1
                | 1, hx => cases hx; simpa [ats, Row.mapId] using hrow_at hrow2
              · cases i with
                | zero => cases hy; simp [AV.map1, CV.mapId, ats]
                | succ i =>
                  have hy' : (d.map fun v => AV.c (.v v))[i]? = some y := hy
                  obtain ⟨v, -, rfl⟩ := List.mem_map.1 (List.mem_of_getElem? hy')
                  rw [hvs]; exact hy'
            · cases hr
          · cases hr
        · cases hr
      · cases hr
    · cases hr
  · cases hr
end
attribute [go_sem] vals valsE objVE shiftA
end Go.Proofs.Ytcnoooodnmjdmaa
