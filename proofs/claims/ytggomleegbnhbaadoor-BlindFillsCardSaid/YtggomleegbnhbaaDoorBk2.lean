import Derived.Test.YtggomleegbnhbaaDoorBk1
import Derived.Test.YtggomleegbnhbaaDoorBl3
/- A polynomial's value. -/
set_option linter.unusedSimpArgs false
set_option linter.unusedVariables false
namespace Go.Proofs.YtggomleegbnhbaaDoor
open Go.RowKit Go.Shelf
attribute [local go_sem] Oper.semAt_some
section
variable {w w' W W' : World} {X : Nat → Prop} {σ : Sg} {own own' : Nat → Prop}
theorem RepD.flatw : ∀ {t : Ty} {x : t.D} {g : Cells}, t.flat = true → RepD w own t x g → RepD w' own' t x g
  | .i _, _, _, _, h => h
  | .bo, _, _, _, h => h
  | .st, _, _, _, h => h
  | .f _, _, _, _, h => h
  | .sl _, _, _, hf, _ => by cases hf
  | .pr a b, _, _, hf, ⟨h1, h2⟩ => by
    simp only [Ty.flat, Bool.and_eq_true] at hf
    exact ⟨RepD.flatw hf.1 h1, RepD.flatw hf.2 h2⟩
  | .ar n e, _, _, hf, ⟨h1, h2⟩ => ⟨h1, fun i x hx => RepD.flatw (t := e) hf (h2 i x hx)⟩
/-- One flat row: what counts is its own block. -/
theorem HeapRep.flat1 {t : Ty} {xs : List t.D} (hf : t.flat = true) (hh : HeapRep X σ [some (.ty t xs)] W) (hsz : W.heap.size ≤ W'.heap.size) (hb : ∀ b, ownB σ [some (.ty t xs)] b → W'.heap[b]? = W.heap[b]?) : HeapRep X σ [some (.ty t xs)] W' := by
  refine ⟨hh.dom, fun id r hr => ?_, fun b hx => Nat.lt_of_lt_of_le (hh.xlt b hx) hsz, hh.xdis, hh.inj⟩
  have e : id = 0 ∧ r = .ty t xs := by
    cases id with
    | zero => simpa using hr.symm
    | succ n => simp at hr
  obtain ⟨rfl, rfl⟩ := e
  rcases hh.row 0 _ hr with h0 | ⟨b, base, ext, h1, h2, h3, h4, h5⟩
  · exact .inl h0
  · have hbb := hb b ⟨0, _, _, hr, h1⟩
    exact .inr ⟨b, base, ext, h1, Nat.lt_of_lt_of_le h2 hsz, h3, fun k hk => by rw [World.cell?_of_block (w := W) hbb, World.frozen?_of_block (w := W) hbb]; exact h4 k hk, fun i x hx => RepD.flatw hf (RepD.cells (fun j v hv => by show W'.cell? _ = _; rw [World.cell?_of_block (w := W) hbb]; exact hv) (h5 i x hx))⟩
/-- What a call keeps while it runs. -/
structure Kept (X : Nat → Prop) (σ : Sg) (H : Hp) (w W : World) : Prop where
  heap : HeapRep X σ H W
  os : W.os = w.os
  tape : W.tape = w.tape
  output : W.output = w.output
  size : w.heap.size ≤ W.heap.size
  block : ∀ b, b < w.heap.size → ¬ ownB σ H b → W.heap[b]? = w.heap[b]?
theorem Kept.refl {H : Hp} (h : HeapRep X σ H w) : Kept X σ H w w := ⟨h, rfl, rfl, rfl, Nat.le_refl _, fun _ _ _ => rfl⟩
theorem Kept.step {H : Hp} (h : Kept X σ H w W) : Step σ H w σ H W := ⟨h.os, h.tape, h.output, ⟨h.size, h.block, fun _ h => .inl h⟩, fun _ _ h => h, Nat.le_refl _, fun _ _ => rfl⟩
theorem Kept.next {t : Ty} {xs : List t.D} (hf : t.flat = true) (h : Kept X σ [some (.ty t xs)] w W) (h0 : HeapRep X σ [some (.ty t xs)] w) (os : W'.os = W.os) (tape : W'.tape = W.tape) (output : W'.output = W.output) (hsz : W.heap.size ≤ W'.heap.size) (hb : ∀ b, b < w.heap.size → W'.heap[b]? = W.heap[b]?) : Kept X σ [some (.ty t xs)] w W' :=
  ⟨h.heap.flat1 hf hsz (fun b ho => hb b (h0.own_lt ho)), os.trans h.os, tape.trans h.tape, output.trans h.output, Nat.le_trans h.size hsz, fun b hbs ho => (hb b hbs).trans (h.block b hbs ho)⟩
theorem Kept.alloc {t : Ty} {xs : List t.D} (hf : t.flat = true) (h : Kept X σ [some (.ty t xs)] w W) (h0 : HeapRep X σ [some (.ty t xs)] w) (o : Obj) : Kept X σ [some (.ty t xs)] w (W.alloc o) :=
  h.next hf h0 rfl rfl rfl (by simp) (fun b hb => Below.heap_alloc _ _ _ (Nat.lt_of_lt_of_le hb h.size))
theorem Kept.set {t : Ty} {xs : List t.D} (hf : t.flat = true) (h : Kept X σ [some (.ty t xs)] w W) (h0 : HeapRep X σ [some (.ty t xs)] w) {B : Nat} (hB : w.heap.size ≤ B) (o : Nat) (v : Value) : Kept X σ [some (.ty t xs)] w (W.setCell ⟨B, o, none⟩ v) :=
  h.next hf h0 rfl rfl rfl (by simp [World.setCell]) (fun b hb => Below.heap_setCell _ _ _ _ (by simp only; omega))
theorem Kept.grown {t : Ty} {xs : List t.D} (hf : t.flat = true) (h : Kept X σ [some (.ty t xs)] w W) (h0 : HeapRep X σ [some (.ty t xs)] w) {row : Option Nat} (hg : W.grownBy W' row) (hr : ∀ r, row = some r → w.heap.size ≤ r) : Kept X σ [some (.ty t xs)] w W' :=
  h.next hf h0 hg.os hg.tape hg.output hg.size (fun b hb => hg.block b (Nat.lt_of_lt_of_le hb h.size) (fun e => by have := hr b e.symm; omega))
/-- Behind a call that hands the row back. -/
theorem Kept.call {t : Ty} {xs : List t.D} (h : Kept X σ [some (.ty t xs)] w W) {σ' : Sg} (h1 : HeapRep X σ' [some (.ty t xs)] W') (h2 : Step σ [some (.ty t xs)] W σ' [some (.ty t xs)] W') : Kept X σ [some (.ty t xs)] w W' ∧ (∀ b, b < W.heap.size → ¬ ownB σ [some (.ty t xs)] b → W'.heap[b]? = W.heap[b]?) ∧ W.heap.size ≤ W'.heap.size := by
  have e : σ' = σ := funext fun id => by
    by_cases hi : id < 1
    · exact h2.same id (by simpa using hi)
    · rw [h1.dom id (by simp; omega), h.heap.dom id (by simp; omega)]
  subst e
  exact ⟨⟨h1, h2.os.trans h.os, h2.tape.trans h.tape, h2.output.trans h.output, Nat.le_trans h.size h2.keeps.size, fun b hb ho => (h2.keeps.block b (Nat.lt_of_lt_of_le hb h.size) ho).trans (h.block b hb ho)⟩, h2.keeps.block, h2.keeps.size⟩
end
/-- Horner. -/
def evalF : List Int → Int → Int
  | [], _ => 0
  | c :: a, x => bx (mulT (evalF a x) x) c
def accF (zs : List Int) (x : Int) (pre : List Nat) : Int := pre.foldl (fun acc i => bx (mulT acc x) ((zs[i]?).getD 0)) 0
theorem mulT_ok {a b : Int} (ha : byteOk a) (hb : byteOk b) : byteOk (mulT a b) := mulN_ok (by have := ha.2; omega) (by have := hb.2; omega)
theorem getD_ok {zs : List Int} (hz : bytesOk zs) (i : Nat) : byteOk ((zs[i]?).getD 0) := by
  by_cases hi : i < zs.length
  · exact at_ok hz hi
  · rw [List.getElem?_eq_none (by omega)]; exact ⟨by decide, by decide⟩
theorem accF_ok {zs : List Int} {x : Int} (hz : bytesOk zs) (hx : byteOk x) : ∀ (pre : List Nat) (a : Int), byteOk a → byteOk (pre.foldl (fun acc i => bx (mulT acc x) ((zs[i]?).getD 0)) a)
  | [], a, h => h
  | i :: pre, a, h => accF_ok hz hx pre _ (bx_ok (mulT_ok h hx) (getD_ok hz i))
theorem accF_snoc (zs : List Int) (x : Int) (pre : List Nat) (i : Nat) : accF zs x (pre ++ [i]) = bx (mulT (accF zs x pre) x) ((zs[i]?).getD 0) := by
  unfold accF; rw [List.foldl_append]; rfl
theorem accF_rev (zs : List Int) (x : Int) : ∀ k, k ≤ zs.length → accF zs x (rev zs k) = evalF (zs.drop (zs.length - k)) x
  | 0, _ => by rw [Nat.sub_zero, List.drop_length]; rfl
  | k + 1, h => by
    rw [rev_succ, accF_snoc, accF_rev zs x k (by omega)]
    have hi : zs.length - (k + 1) < zs.length := by omega
    rw [List.drop_eq_getElem_cons hi, show zs.length - (k + 1) + 1 = zs.length - k by omega, show zs.length - 1 - k = zs.length - (k + 1) by omega, List.getElem?_eq_getElem hi]
    rfl
abbrev FH : Hp := [some (.ty FT [Tab])]
theorem FT_flat : FT.flat = true := rfl
/-- The field's block holds cells. -/
theorem own_cells {X : Nat → Prop} {σ : Sg} {W : World} (hh : HeapRep X σ FH W) {b : Nat} (hb : ownB σ FH b) : ∃ c e r, W.heap[b]? = some (.cells c e r) := by
  obtain ⟨id, r, x, h1, h2⟩ := hb
  have e : r = .ty FT [Tab] := by
    cases id with
    | zero => simpa using h1.symm
    | succ n => simp at h1
  subst e
  rcases hh.row id _ h1 with h0 | ⟨b', base, ext, g1, g2, g3, g4, g5⟩
  · rw [h0] at h2; cases h2
  · rw [g1] at h2
    cases h2
    have hs : 0 < ext := by
      have : (Row.ty FT [Tab]).size = 766 := rfl
      omega
    obtain ⟨v, hv⟩ := Option.isSome_iff_exists.1 (g4 0 hs).1
    exact cells_of hv
theorem keepsOthers {X : Nat → Prop} {σ : Sg} {W W' : World} (hh : HeapRep X σ FH W) (hsz : W.heap.size ≤ W'.heap.size) (hb : ∀ b, b < W.heap.size → ¬ ownB σ FH b → W'.heap[b]? = W.heap[b]?) : KeepsOthers W W' :=
  ⟨hsz, fun k o ho hc => by
    have hk := (Array.getElem?_eq_some_iff.1 ho).1
    rw [hb k hk (fun hown => by
      obtain ⟨c, e, r, h1⟩ := own_cells hh hown
      rw [ho] at h1; cases h1; cases hc)]
    exact ho⟩
set_option maxRecDepth 100000 in
set_option maxHeartbeats 4000000 in
theorem eval_in (zs : List Int) (x : Int) (hz : bytesOk zs) (hx : byteOk x) (hl : zs.length < 4000000000) (X : Nat → Prop) (σ : Sg) (w : World) (fp : Option Addr) (sa : Option Addr) (slen scap : Nat) (b : Nat)
    (hh : HeapRep X σ FH w) (hf : Rep w (own X σ FH) σ (.ptr 0 0 1 0) (.pointer fp)) (hs : Bytes b w (.slice sa slen scap) zs) (hb : zs ≠ [] → b < w.heap.size ∧ ¬ ownB σ FH b) :
    Calls Tryd.prog 34 #[.pointer fp, .slice sa slen scap, .int .u8 x] w fun e W => e = .returned (.int .u8 (evalF zs x)) ∧ Kept X σ FH w W := by
  refine (callsIn_wide (n := 9)).1 ?_
  have hMul : ∀ (W : World) (a : Int), byteOk a → Kept X σ FH w W → Calls Tryd.prog 18 #[.pointer fp, .int .u8 a, .int .u8 x] W fun e W' => e = .returned (.int .u8 (mulT a x)) ∧ Kept X σ FH w W' ∧ (∀ b, b < W.heap.size → ¬ ownB σ FH b → W'.heap[b]? = W.heap[b]?) ∧ W.heap.size ≤ W'.heap.size := fun W a ha hk => by
    refine ((mul_c a x ha hx).2 X σ W [.pointer fp, .int .u8 a, .int .u8 x] hk.heap rfl (fun i y hy => ?_)).mono ?_
    · match i, hy with
      | 0, hy => cases hy; exact ⟨_, rfl, hf⟩
      | 1, hy => cases hy; exact ⟨_, rfl, rfl, rfl⟩
      | 2, hy => cases hy; exact ⟨_, rfl, rfl, rfl⟩
    · rintro e W' ⟨v, rfl, σ', hr, h1, h2⟩
      obtain ⟨g1, g2, g3⟩ := hk.call h1 h2
      exact ⟨by rw [hr.1], g1, g2, g3⟩
  refine callsIn_of_wp_marks Tryd.func34 rfl trivial ?_ rfl
  simp only [Tryd.ntmps34, List.size_toArray, List.length_cons, List.length_nil, Nat.reduceAdd, Nat.reduceSub, Array.replicate_succ, Array.replicate_zero, List.push_toArray, List.append_toArray, List.nil_append, List.cons_append]
  have f1 : Fence.wide.fn 39 := trivial
  have f2 : Fence.wide.fn 18 := trivial
  have f3 : Fence.wide.fn 15 := trivial
  gi_wp2_with (gi_at_call 39; refine (back_in Fence.wide (9 - 1) trivial rfl _ _ _ _).mono ?_; rintro e w' ⟨rfl, rfl⟩)
  have hAdd : ∀ (W : World) (a c : Int), Kept X σ FH w W → Calls Tryd.prog 15 #[.int .u8 a, .int .u8 c] W fun e W' => e = .returned (.int .u8 (bx a c)) ∧ Kept X σ FH w W' ∧ (∀ b, b < W.heap.size → W'.heap[b]? = W.heap[b]?) ∧ W.heap.size ≤ W'.heap.size := fun W a c hk => by
    refine ((K15 a c trivial).2 (fun _ => False) (fun _ => none) W [.int .u8 a, .int .u8 c] ⟨fun _ _ => rfl, fun id r hr => by simp at hr, fun _ h => h.elim, fun _ h => h.elim, fun _ _ _ _ _ _ _ h => by simp at h⟩ rfl (fun i y hy => ?_)).mono ?_
    · match i, hy with
      | 0, hy => cases hy; exact ⟨_, rfl, rfl, rfl⟩
      | 1, hy => cases hy; exact ⟨_, rfl, rfl, rfl⟩
    · rintro e W' ⟨v, rfl, σ', hr, h1, h2⟩
      have hb : ∀ b, b < W.heap.size → W'.heap[b]? = W.heap[b]? := fun b hb => h2.keeps.block b hb (fun ⟨_, _, _, h, _⟩ => by simp at h)
      exact ⟨by rw [hr.1], hk.next FT_flat hh h2.os h2.tape h2.output h2.keeps.size (fun b hb' => hb b (Nat.lt_of_lt_of_le hb' hk.size)), hb, h2.keeps.size⟩
  have hown : ∀ b, ownB σ FH b → b < w.heap.size := fun b hb => hh.own_lt hb
  have n0 := Boxed.new w 35 (.pointer fp)
  have n1 := Boxed.new (w.alloc (.cells #[.pointer fp] 35)) 5 (.int .u8 x)
  have n2 := Boxed.new ((w.alloc (.cells #[.pointer fp] 35)).alloc (.cells #[.int .u8 x] 5)) 5 (.int .u8 0)
  have n3 := Boxed.new (((w.alloc (.cells #[.pointer fp] 35)).alloc (.cells #[.int .u8 x] 5)).alloc (.cells #[.int .u8 0] 5)) 22 (.slice sa slen scap)
  simp only [World.size_alloc] at n1 n2 n3
  have k0 := (((Kept.refl hh).alloc FT_flat hh (.cells #[.pointer fp] 35)).alloc FT_flat hh (.cells #[.int .u8 x] 5)).alloc FT_flat hh (.cells #[.int .u8 0] 5)
  have k1 := k0.alloc FT_flat hh (.cells #[.slice sa slen scap] 22)
  have hsW : Bytes b ((((w.alloc (.cells #[.pointer fp] 35)).alloc (.cells #[.int .u8 x] 5)).alloc (.cells #[.int .u8 0] 5)).alloc (.cells #[.slice sa slen scap] 22)) (.slice sa slen scap) zs := by
    rcases hs with hs | ⟨off, cap, e, hc⟩
    · exact .inl hs
    · refine .inr ⟨off, cap, e, fun j hj => ?_⟩
      have hbz := (hb (fun e => by rw [e] at hj; simp at hj)).1
      rw [World.cell?_of_block (w := w) (by
        show (_ : World).heap[b]? = _
        rw [Below.heap_alloc _ _ _ (by simp; omega), Below.heap_alloc _ _ _ (by simp; omega), Below.heap_alloc _ _ _ (by simp; omega), Below.heap_alloc _ _ _ hbz])]
      exact hc j hj
  refine wpIn_rangeFunc_ownF rfl (by decide) (gf := 42) (lb := #[.pointer (some ⟨w.heap.size + 1 + 1 + 1, 0, none⟩)]) rfl trivial (enters_of Tryd.func42 (by kernel_rfl) rfl)
    (back_stops Fence.wide (9 - 1) trivial rfl (by decide) (w.heap.size + 1 + 1 + 1) b _ zs (by omega) _ (by simp) n3.cell (fun h => by have := (hb h).1; simp; omega) hsW)
    Kpb.trans (fun W l o o' _ ho hc _ => Kpb.put W l o o' ho hc) (Below.refl _ _) (fun _ => rfl)
    (fun pre W => Kept X σ FH w W ∧ Boxed W w.heap.size 35 (.pointer fp) ∧ Boxed W (w.heap.size + 1) 5 (.int .u8 x) ∧ Boxed W (w.heap.size + 1 + 1) 5 (.int .u8 (accF zs x pre)))
    (fun _ _ _ => False)
    (fun s A B row hs hg hr => ?own)
    (fun _ _ _ _ _ hs _ _ => hs)
    ⟨k1, ((n0.alloc _).alloc _).alloc _, (n1.alloc _).alloc _, n2.alloc _⟩
    (fun i => { tmps := #[.pointer fp, .slice sa slen scap, .int .u8 x, .pointer (some ⟨w.heap.size, 0, none⟩), undef, .pointer (some ⟨w.heap.size + 1, 0, none⟩), .int .u8 0, .pointer (some ⟨w.heap.size + 1 + 1, 0, none⟩), undef, .int .u8 (zs[i]?.getD 0), .slice sa slen scap, .func (.func 42) #[] #[.pointer (some ⟨w.heap.size + 1 + 1 + 1, 0, none⟩)], .int .i64 (i : Int), .int .u8 (zs[i]?.getD 0), undef, undef, undef, undef, undef, undef, undef], defers := [] }) ?assign ?body ?done ?stop
  case own =>
    have ne : ∀ {B' : Nat} {t : TypeId} {v : Value}, Boxed A B' t v → some B' ≠ row := fun hbx e => by
      obtain ⟨_, o, ho, hc⟩ := hr _ e.symm
      rw [show A.heap[_]? = _ from hbx] at ho; cases ho; cases hc
    exact ⟨hs.1.grown FT_flat hh hg (fun r e => Nat.le_trans (by simp; omega) (hr r e).1), hs.2.1.kept hg (ne hs.2.1), hs.2.2.1.kept hg (ne hs.2.2.1), hs.2.2.2.kept hg (ne hs.2.2.2)⟩
  case assign =>
    intro l i W K hK
    gi_wp2
    exact hK
  case body =>
    rintro l pre i W ⟨hk, b0, b1, b2⟩ hlen
    have c0 := b0.cell
    have c1 := b1.cell
    have c2 := b2.cell
    obtain ⟨A, hA⟩ : ∃ A, accF zs x pre = A := ⟨_, rfl⟩
    have hAok : byteOk A := by rw [← hA]; exact accF_ok hz hx pre 0 ⟨by decide, by decide⟩
    have hsn := accF_snoc zs x pre i
    obtain ⟨c, hc⟩ : ∃ c, zs[i]?.getD 0 = c := ⟨_, rfl⟩
    rw [hA] at b2 c2 hsn
    rw [hc] at hsn ⊢
    have f4 : (Fence.wide.inRound l).fn 18 := trivial
    have f5 : (Fence.wide.inRound l).fn 15 := trivial
    gi_wp2_with (gi_at_call 18; refine (CallsIn.inRound l (callsIn_wide.2 (hMul W A hAok hk))).mono ?_; rintro e W2 ⟨rfl, hk2, hb2, hs2⟩)
    refine (CallsIn.inRound l (callsIn_wide.2 (hAdd W2 (mulT A x) c hk2))).mono ?_
    rintro e W3 ⟨rfl, hk3, hb3, hs3⟩
    have hnb : ∀ B', w.heap.size ≤ B' → ¬ ownB σ FH B' := fun B' hB ho => Nat.lt_irrefl _ (Nat.lt_of_lt_of_le (hown B' ho) hB)
    have kp : ∀ {B' : Nat} {t : TypeId} {v : Value}, w.heap.size ≤ B' → Boxed W B' t v → Boxed W3 B' t v := fun {B' t v} hB hbx => by
      have h1 := hbx.lt
      show W3.heap[B']? = _
      rw [hb3 B' (Nat.lt_of_lt_of_le h1 hs2), hb2 B' h1 (hnb B' hB)]; exact hbx
    have d0 := kp (Nat.le_refl _) b0
    have d1 := kp (by omega) b1
    have d2 := kp (by omega) b2
    have e2 := d2.cell
    have e2f := d2.frozen
    gi_wp2
    refine ⟨(keepsOthers hk.heap hs2 hb2).trans ((⟨hs3, fun k o ho _ => (hb3 k (Array.getElem?_eq_some_iff.1 ho).1).trans ho⟩ : KeepsOthers W2 W3).trans (KeepsOthers.setCell _ _ _)), ?_, hk3.set FT_flat hh (by omega) 0 _, ?_, ?_, ?_⟩
    · intro blk hblk c' e' r' hc'
      have h1 := (Array.getElem?_eq_some_iff.1 hc').1
      have hzs : zs ≠ [] := fun h => by rw [h] at hlen; simp at hlen
      have hne : blk ≠ w.heap.size + 1 + 1 ∧ ¬ ownB σ FH blk := by
        rcases hblk with rfl | rfl
        · exact ⟨by omega, hnb _ (by omega)⟩
        · exact ⟨by have := (hb hzs).1; omega, (hb hzs).2⟩
      rw [Below.heap_setCell _ _ _ _ hne.1, hb3 blk (Nat.lt_of_lt_of_le h1 hs2), hb2 blk h1 hne.2]
    · show (World.setCell _ _ _).heap[_]? = _
      rw [Below.heap_setCell _ _ _ _ (by simp only; omega)]; exact d0
    · show (World.setCell _ _ _).heap[_]? = _
      rw [Below.heap_setCell _ _ _ _ (by simp only; omega)]; exact d1
    · rw [hsn]; exact d2.set _
  case done =>
    rintro D ys W hD rfl ⟨hk, b0, b1, b2⟩ hK
    have c2 := b2.cell
    gi_wp2
    refine ⟨by simp, .inl ⟨_, _, rfl, run_takeDeferred hK, ?_⟩⟩
    have e := accF_rev zs x zs.length (Nat.le_refl _)
    rw [Nat.sub_self, List.drop_zero] at e
    rw [e]
    exact ⟨_, results_tmp rfl _ _ _, rfl, hk.grown FT_flat hh (grownBy_putObj' _ D _) (fun r e => by cases e; simp at hD; omega)⟩
  case stop =>
    rintro D c pre W _ _ h _
    exact h.elim
end Go.Proofs.YtggomleegbnhbaaDoor
