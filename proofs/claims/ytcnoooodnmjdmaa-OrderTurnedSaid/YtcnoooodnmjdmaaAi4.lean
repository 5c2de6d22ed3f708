/- AHI, objects: rows shown otherwise; methods on what a pointer of the call's own leads to. -/
import Derived.Test.YtcnoooodnmjdmaaAi3
set_option linter.unusedSimpArgs false
set_option linter.unusedVariables false
namespace Go.Proofs.Ytcnoooodnmjdmaa
open Go.RowKit
section
variable {P : Program} {X : Nat → Prop} {σ : Sg} {s : St} {H : Hp} {w : World} {B : Nat}
theorem HeapRep.reshow (hh : HeapRep X σ H w) {id : Nat} {r r' : Row} (hid : H[id]? = some (some r)) (hsz : r'.size ≤ r.size) (hr : ∀ (o : Nat → Prop) (g : Cells), RowRep w o σ r g → RowRep w o σ r' g) :
    HeapRep X σ (H.set id (some r')) w ∧ Step σ H w σ (H.set id (some r')) w := by
  have hil := (List.getElem?_eq_some_iff.1 hid).1
  have ho : ∀ c, ownB σ (H.set id (some r')) c ↔ ownB σ H c := fun c => by
    constructor
    · rintro ⟨n, q, x, h1, h2⟩
      rcases set_cases h1 with ⟨rfl, h1, -⟩ | ⟨hk, h1⟩
      · exact ⟨n, r, x, hid, h2⟩
      · exact ⟨n, q, x, h1, h2⟩
    · rintro ⟨n, q, x, h1, h2⟩
      by_cases hk : id = n
      · subst hk; exact ⟨id, _, x, List.getElem?_set_self hil, h2⟩
      · exact ⟨n, q, x, by rw [List.getElem?_set_ne hk]; exact h1, h2⟩
  have hk : Keeps w (ownB σ H) w (ownB σ (H.set id (some r'))) := ⟨Nat.le_refl _, fun _ _ _ => rfl, fun b hb => .inl ((ho b).1 hb)⟩
  have hst : Step σ H w σ (H.set id (some r')) w := ⟨rfl, rfl, rfl, hk, fun _ _ h => h, by simp, fun _ _ => rfl⟩
  refine ⟨hh.next hk (fun _ _ h => h) (fun n hn => hh.dom n (by simpa using hn)) (fun n q hq => ?_) (fun n n' q q' c x x' h1 h2 h3 h4 => ?_), hst⟩
  · rcases set_cases hq with ⟨rfl, h1, -⟩ | ⟨hne, h1⟩
    · cases h1
      rcases hh.row n r hid with h5 | ⟨b, base, ext, h5, h6, h7, h8, h9⟩
      · exact .inr (.inl h5)
      · exact .inr (.inr ⟨b, base, ext, h5, h6, by omega, h8, (hr _ _ h9).mono (keepsX hk) (fun _ _ h => h) (fun _ _ h => h)⟩)
    · exact .inl ⟨h1, fun h => h, fun _ _ _ => rfl⟩
  · rcases set_cases h1 with ⟨rfl, g1, -⟩ | ⟨hne, g1⟩ <;> rcases set_cases h2 with ⟨e2, g2, -⟩ | ⟨hne', g2⟩
    · exact e2.symm
    · exact hh.inj n n' r q' c x x' hid g2 h3 h4
    · subst e2; exact hh.inj n n' q r c x x' g1 hid h3 h4
    · exact hh.inj n n' q q' c x x' g1 g2 h3 h4
theorem Ghost.heap {H' : Hp} (h : ∀ X σ w, HeapRep X σ s.H w → HeapRep X σ H' w ∧ Step σ s.H w σ H' w) : Ghost B s ⟨s.n, s.env, H'⟩ := fun X σ a w hs => by
  obtain ⟨g1, g2⟩ := h X σ w hs.heap
  refine ⟨σ, ⟨hs.size, hs.defers, fun t y ht hy => ?_, g1⟩, g2.toB⟩
  obtain ⟨v, h1, h2⟩ := hs.env t y ht hy
  exact ⟨v, h1, h2.step g2⟩
/-- What stands behind the first n elements is forgotten. -/
theorem Ghost.cut (id n : Nat) {t : Ty} {xs : List t.D} (hr : hrow s.H id = some (Row.ty t xs)) : Ghost B s ⟨s.n, s.env, s.H.set id (some (Row.ty t (xs.take n)))⟩ := by
  have hsz : Row.size (.ty t (xs.take n)) ≤ Row.size (.ty t xs) := Nat.mul_le_mul_right _ (by rw [List.length_take]; omega)
  refine Ghost.heap fun X σ w hh => hh.reshow (hrow_some hr) hsz fun o g h i x hx => ?_
  rw [List.getElem?_take] at hx
  split at hx
  · exact h i x hx
  · cases hx
/-- Nil in a row stands for a slice of nothing. -/
theorem Ghost.nilAt (id j e : Nat) (k : Ty) {l : List CV} (hr : hrow s.H id = some (.raw l)) (hl : l[j]? = some (.v (.slice none 0 0))) :
    Ghost B s ⟨s.n, s.env, (s.H ++ [some (Row.ty k [])]).set id (some (.raw (l.set j (.sl s.H.length 0 0 e))))⟩ :=
  Ghost.heap fun X σ w hh => by
    obtain ⟨h1, h2⟩ := hh.nowhere (Row.ty k [])
    have hid := hrow_some hr
    have hil := (List.getElem?_eq_some_iff.1 hid).1
    obtain ⟨h3, h4⟩ := h1.reshow (r' := Row.raw (l.set j (.sl s.H.length 0 0 e))) (by rw [List.getElem?_append_left hil]; exact hid) (by simp [Row.size]) (fun o g h i c hc => by
      by_cases hi : j = i
      · subst hi
        rw [List.getElem?_set_self (List.getElem?_eq_some_iff.1 hl).1] at hc; cases hc
        obtain ⟨v, g1, g2⟩ := h j _ hl
        exact ⟨v, g1, .inl ⟨rfl, none, g2.1⟩⟩
      · rw [List.getElem?_set_ne hi] at hc; exact h i c hc)
    exact ⟨h3, h2.trans h4⟩
/-- A method on an object: the row that the pointer leads to (a function, a slice of things, a number), the things; then things that are only read. -/
def objE (F : FuncId) (t : Ty) (ts : List Ty) (c : List t.D → Int → Ds ts → Prop) [∀ l p d, Decidable (c l p d)] (r : List t.D → Int → Ds ts → AV) (f : List t.D → Int → Ds ts → List t.D) (q : List t.D → Int → Ds ts → Int) (L : List t.D → Int → Ds ts → Hp) : Entry := fun args H => match args with
  | .c (.ptr id 0 1 0) :: rest => match hrow H id with
    | some (.raw [.v (.func (.func g) fa fb), .sl e 0 n sz, .v (.int .i64 p)]) => match hrow H e with
      | some (.ty t' ys) => match castL t' t ys with
        | some xs => (match views (dead [id, e] H) ts rest with
          | some d => if g = F ∧ fa.size = 0 ∧ fb.size = 0 ∧ sz = t.sz ∧ n = xs.length ∧ id ≠ e ∧ c xs p d then some ((r xs p d).mapId (ats [id, e] H.length), patch (ats [id, e] H.length) [id, e] (some (.raw [.v (.func (.func F) #[] #[]), .sl 1 0 (f xs p d).length t.sz, ci .i64 (q xs p d)]) :: some (.ty t (f xs p d)) :: L xs p d) H) else none
          | none => none)
        | none => none
      | _ => none
    | _ => none
  | _ => none
theorem objE_ok {P : Program} {g : FuncId} {F : FuncId} {t : Ty} {ts : List Ty} {c : List t.D → Int → Ds ts → Prop} [∀ l p d, Decidable (c l p d)] {r : List t.D → Int → Ds ts → AV} {f : List t.D → Int → Ds ts → List t.D} {q : List t.D → Int → Ds ts → Int} {L : List t.D → Int → Ds ts → Hp}
    (hf : t.flat = true) (hrf : ∀ l p d, (r l p d).flat = true) (hLf : ∀ l p d, flatH (L l p d) = true)
    (h : ∀ (xs : List t.D) (p : Int) d, c xs p d → CallOk P g (.c (.ptr 0 0 1 0) :: ros ts d) [some (.raw [.v (.func (.func F) #[] #[]), .sl 1 0 xs.length t.sz, ci .i64 p]), some (.ty t xs)] (r xs p d)
      (some (.raw [.v (.func (.func F) #[] #[]), .sl 1 0 (f xs p d).length t.sz, ci .i64 (q xs p d)]) :: some (.ty t (f xs p d)) :: L xs p d)) : EntryOk P g (objE F t ts c r f q L) := fun args H R H' hr => by
  unfold objE at hr
  split at hr
  · rename_i id rest
    split at hr
    · rename_i g' fa fb e n sz p hrow1
      split at hr
      · rename_i t' ys hrow2
        split at hr
        · rename_i xs ht
          rw [castL_some ht] at hrow2
          split at hr
          · rename_i d hv
            split at hr
            · rename_i hc
              obtain ⟨rfl, ha, hb, rfl, rfl, hne, hc⟩ := hc
              obtain rfl : fa = #[] := Array.eq_empty_of_size_eq_zero ha
              obtain rfl : fb = #[] := Array.eq_empty_of_size_eq_zero hb
              cases hr
              have i1 := (List.getElem?_eq_some_iff.1 (hrow_at hrow1)).1
              have i2 := (List.getElem?_eq_some_iff.1 (hrow_at hrow2)).1
              obtain ⟨h1, h2⟩ := views_spec hv
              refine frameOk [id, e] (h xs p d hc) rfl (by simp) (by simp [nodupB, hne]) (by simp [i1, i2]) (fun i x hx => ?_) (by simp [h1]) (fun i y hy => ?_) (hrf _ _ _) (fun x hx => ?_)
              · match i, hx with
                | 0, hx => cases hx; simpa [ats, Row.mapId, CV.mapId] using hrow_at hrow1
                | 1, hx => cases hx; simpa [ats, Row.mapId] using hrow_at hrow2
              · cases i with
                | zero => cases hy; exact ⟨_, rfl, .inl (by simp [AV.map1, CV.mapId, ats])⟩
                | succ i =>
                  obtain ⟨x, t', e', hx, hview, rfl⟩ := h2 i y (by simpa using hy)
                  exact ⟨x, by simpa using hx, .inr ⟨t', e', hview, rfl⟩⟩
              · rcases List.mem_cons.1 hx with hx | hx
                · cases hx; simp [Row.flat, CV.flat]
                · rcases List.mem_cons.1 hx with hx | hx
                  · cases hx; simpa [Row.flat] using hf
                  · exact flatH_spec (hLf _ _ _) x hx
            · cases hr
          · cases hr
        · cases hr
      · cases hr
    · cases hr
  · cases hr
/-- A method on an object that lays its things anew: the row that the pointer leads to (a function, a slice of things, a number), the things; then things that are only read. -/
def objPE (F : FuncId) (t : Ty) (ts : List Ty) (c : List t.D → Int → Ds ts → Prop) [∀ l p d, Decidable (c l p d)] (r : List t.D → Int → Ds ts → AV) (f : List t.D → Int → Ds ts → List t.D) (q : List t.D → Int → Ds ts → Int) (L : List t.D → Int → Ds ts → Hp) : Entry := fun args H => match args with
  | .c (.ptr id 0 1 0) :: rest => match hrow H id with
    | some (.raw [.v (.func (.func g) fa fb), .sl e 0 n sz, .v (.int .i64 p)]) => match hrow H e with
      | some (.ty t' ys) => match castL t' t ys with
        | some xs => (match views (dead [id, e] H) ts rest with
          | some d => if g = F ∧ fa.size = 0 ∧ fb.size = 0 ∧ sz = t.sz ∧ n = xs.length ∧ id ≠ e ∧ c xs p d then some ((r xs p d).mapId (ats [id, e] H.length), patch (ats [id, e] H.length) [id, e] (some (.raw [.v (.func (.func F) #[] #[]), .sl 2 0 (f xs p d).length t.sz, ci .i64 (q xs p d)]) :: none :: some (.ty t (f xs p d)) :: L xs p d) H) else none
          | none => none)
        | none => none
      | _ => none
    | _ => none
  | _ => none
theorem objPE_ok {P : Program} {g : FuncId} {F : FuncId} {t : Ty} {ts : List Ty} {c : List t.D → Int → Ds ts → Prop} [∀ l p d, Decidable (c l p d)] {r : List t.D → Int → Ds ts → AV} {f : List t.D → Int → Ds ts → List t.D} {q : List t.D → Int → Ds ts → Int} {L : List t.D → Int → Ds ts → Hp}
    (hf : t.flat = true) (hrf : ∀ l p d, (r l p d).flat = true) (hLf : ∀ l p d, flatH (L l p d) = true)
    (h : ∀ (xs : List t.D) (p : Int) d, c xs p d → CallOk P g (.c (.ptr 0 0 1 0) :: ros ts d) [some (.raw [.v (.func (.func F) #[] #[]), .sl 1 0 xs.length t.sz, ci .i64 p]), some (.ty t xs)] (r xs p d)
      (some (.raw [.v (.func (.func F) #[] #[]), .sl 2 0 (f xs p d).length t.sz, ci .i64 (q xs p d)]) :: none :: some (.ty t (f xs p d)) :: L xs p d)) : EntryOk P g (objPE F t ts c r f q L) := fun args H R H' hr => by
  unfold objPE at hr
  split at hr
  · rename_i id rest
    split at hr
    · rename_i g' fa fb e n sz p hrow1
      split at hr
      · rename_i t' ys hrow2
        split at hr
        · rename_i xs ht
          rw [castL_some ht] at hrow2
          split at hr
          · rename_i d hv
            split at hr
            · rename_i hc
              obtain ⟨rfl, ha, hb, rfl, rfl, hne, hc⟩ := hc
              obtain rfl : fa = #[] := Array.eq_empty_of_size_eq_zero ha
              obtain rfl : fb = #[] := Array.eq_empty_of_size_eq_zero hb
              cases hr
              have i1 := (List.getElem?_eq_some_iff.1 (hrow_at hrow1)).1
              have i2 := (List.getElem?_eq_some_iff.1 (hrow_at hrow2)).1
              obtain ⟨h1, h2⟩ := views_spec hv
              refine frameOk [id, e] (h xs p d hc) rfl (by simp) (by simp [nodupB, hne]) (by simp [i1, i2]) (fun i x hx => ?_) (by simp [h1]) (fun i y hy => ?_) (hrf _ _ _) (fun x hx => ?_)
              · match i, hx with
                | 0, hx => cases hx; simpa [ats, Row.mapId, CV.mapId] using hrow_at hrow1
                | 1, hx => cases hx; simpa [ats, Row.mapId] using hrow_at hrow2
              · cases i with
                | zero => cases hy; exact ⟨_, rfl, .inl (by simp [AV.map1, CV.mapId, ats])⟩
                | succ i =>
                  obtain ⟨x, t', e', hx, hview, rfl⟩ := h2 i y (by simpa using hy)
                  exact ⟨x, by simpa using hx, .inr ⟨t', e', hview, rfl⟩⟩
              · rcases List.mem_cons.1 hx with hx | hx
                · cases hx; simp [Row.flat, CV.flat]
                · rcases List.mem_cons.1 hx with hx | hx
                  · cases hx
                  rcases List.mem_cons.1 hx with hx | hx
                  · cases hx; simpa [Row.flat] using hf
                  · exact flatH_spec (hLf _ _ _) x hx
            · cases hr
          · cases hr
        · cases hr
      · cases hr
    · cases hr
  · cases hr
/-- A function that reads what a pointer of the caller's own leads to, and things besides. -/
def withE (t : Ty) (ts : List Ty) (c : List t.D → Ds ts → Prop) [∀ l d, Decidable (c l d)] (r : List t.D → Ds ts → AV) (L : List t.D → Ds ts → Hp) : Entry := fun args H => match args with
  | .c (.ptr id 0 1 0) :: rest => match hrow H id with
    | some (.ty t' ys) => match castL t' t ys with
      | some xs => (match views (dead [id] H) ts rest with
        | some d => if c xs d then some ((r xs d).mapId (ats [id] H.length), patch (ats [id] H.length) [id] (some (.ty t xs) :: L xs d) H) else none
        | none => none)
      | none => none
    | _ => none
  | _ => none
theorem withE_ok {P : Program} {g : FuncId} {t : Ty} {ts : List Ty} {c : List t.D → Ds ts → Prop} [∀ l d, Decidable (c l d)] {r : List t.D → Ds ts → AV} {L : List t.D → Ds ts → Hp}
    (hf : t.flat = true) (hrf : ∀ l d, (r l d).flat = true) (hLf : ∀ l d, flatH (L l d) = true)
    (h : ∀ (xs : List t.D) d, c xs d → CallOk P g (.c (.ptr 0 0 1 0) :: ros ts d) [some (.ty t xs)] (r xs d) (some (.ty t xs) :: L xs d)) : EntryOk P g (withE t ts c r L) := fun args H R H' hr => by
  unfold withE at hr
  split at hr
  · rename_i id rest
    split at hr
    · rename_i t' ys hrow1
      split at hr
      · rename_i xs ht
        rw [castL_some ht] at hrow1
        split at hr
        · rename_i d hv
          split at hr
          · rename_i hc
            cases hr
            have i1 := (List.getElem?_eq_some_iff.1 (hrow_at hrow1)).1
            obtain ⟨h1, h2⟩ := views_spec hv
            refine frameOk [id] (h xs d hc) rfl (by simp) (by simp [nodupB]) (by simp [i1]) (fun i x hx => ?_) (by simp [h1]) (fun i y hy => ?_) (hrf _ _) (fun x hx => ?_)
            · match i, hx with
              | 0, hx => cases hx; simpa [ats, Row.mapId] using hrow_at hrow1
            · cases i with
              | zero => cases hy; exact ⟨_, rfl, .inl (by simp [AV.map1, CV.mapId, ats])⟩
              | succ i =>
                obtain ⟨x, t', e', hx, hview, rfl⟩ := h2 i y (by simpa using hy)
                exact ⟨x, by simpa using hx, .inr ⟨t', e', hview, rfl⟩⟩
            · rcases List.mem_cons.1 hx with hx | hx
              · cases hx; simpa [Row.flat] using hf
              · exact flatH_spec (hLf _ _) x hx
          · cases hr
        · cases hr
      · cases hr
    · cases hr
  · cases hr
/-- Either entry. -/
def orE (e e' : Entry) : Entry := fun args H => match e args H with | some z => some z | none => e' args H
theorem orE_ok {P : Program} {g : FuncId} {e e' : Entry} (h : EntryOk P g e) (h' : EntryOk P g e') : EntryOk P g (orE e e') := fun args H r H' hr => by
  unfold orE at hr
  split at hr
  · rename_i z hz; cases hr; exact h _ _ _ _ hz
  · exact h' _ _ _ _ hr
end
attribute [go_sem] objE objPE withE orE dead ats patch List.size_toArray ne_eq
end Go.Proofs.Ytcnoooodnmjdmaa
