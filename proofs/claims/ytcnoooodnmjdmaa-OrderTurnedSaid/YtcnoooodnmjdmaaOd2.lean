import Derived.Test.YtcnoooodnmjdmaaOd1
set_option linter.unusedSimpArgs false
set_option linter.unusedVariables false
namespace Go.Proofs.Ytcnoooodnmjdmaa
open Go.RowKit
/-! Places are compared by what lies there: a closure over the heads. -/
abbrev Fc : FuncId := 16
abbrev IT : Ty := .i .i64
def rowAs (t : Ty) (H : Hp) (id : Nat) : Option (List t.D) := match hrow H id with | some (.ty t' ys) => castL t' t ys | _ => none
theorem rowAs_some {t : Ty} {H : Hp} {id : Nat} {xs : List t.D} (h : rowAs t H id = some xs) : H[id]? = some (some (.ty t xs)) := by
  unfold rowAs at h
  split at h
  · rename_i t' ys hr
    rw [castL_some h] at hr
    exact hrow_at hr
  · cases h
theorem castL_rs {t' t : Ty} {ys : List t'.D} {xs : List t.D} (h : castL t' t ys = some xs) : CV.rs t' ys = .rs t xs := by
  unfold castL at h
  split at h
  · rename_i e; subst e; cases h; rfl
  · cases h
def rsRow (t : Ty) (H : Hp) (id : Nat) : Option (List t.D) := match hrow H id with | some (.raw [.rs t' ys]) => castL t' t ys | _ => none
theorem rsRow_some {t : Ty} {H : Hp} {id : Nat} {xs : List t.D} (h : rsRow t H id = some xs) : H[id]? = some (some (.raw [.rs t xs])) := by
  unfold rsRow at h
  split at h
  · rename_i t' ys hr
    rw [castL_rs h] at hr
    exact hrow_at hr
  · cases h
theorem lt_of {H : Hp} {b : Nat} {r : Option Row} (h : H[b]? = some r) : b < H.length := (List.getElem?_eq_some_iff.1 h).1
attribute [go_sem] rowAs rsRow
abbrev dh : Hd := (0, 0, 0, 0, 0, false)
def hAt (hs : List Hd) (a : Int) : Hd := (hs[a.toNat]?).getD dh
def ltH (hs : List Hd) (a b : Int) : Bool := aheadF (hAt hs a) (hAt hs b)
def cmpF (hs : List Hd) (a b : Int) : Int := if ltH hs a b = true then -1 else if ltH hs b a = true then 1 else 0
def hsOk (hs : List Hd) : Prop := ∀ h ∈ hs, hOk h
instance (hs : List Hd) : Decidable (hsOk hs) := inferInstanceAs (Decidable (∀ h ∈ hs, hOk h))
def inH (hs : List Hd) (a : Int) : Prop := 0 ≤ a ∧ a < (hs.length : Int)
instance (hs : List Hd) (a : Int) : Decidable (inH hs a) := inferInstanceAs (Decidable (_ ∧ _))
theorem hAt_some {hs : List Hd} {a : Int} (h : inH hs a) : hs[a.toNat]? = some (hAt hs a) := by
  obtain ⟨h1, h2⟩ := h
  unfold hAt
  rw [List.getElem?_eq_getElem (by omega)]; rfl
theorem hAt_ok {hs : List Hd} (hh : hsOk hs) {a : Int} (h : inH hs a) : hOk (hAt hs a) := hh _ (List.mem_of_getElem? (hAt_some h))
set_option maxRecDepth 100000 in
theorem Kcmp (hs : List Hd) (a b : Int) (hh : hsOk hs) (ha : inH hs a) (hb : inH hs b) : CallOk Try.prog Fc [.c (ci .i64 a), .c (ci .i64 b), .c (.ptr 0 0 1 0)] [some (.raw [.rs HT hs])] (.c (ci .i64 (cmpF hs a b))) [some (.raw [.rs HT hs])] := by
  have hx := hAt_some ha
  have hy := hAt_some hb
  have ox := hAt_ok hh ha
  have oy := hAt_ok hh hb
  have e : cmpF hs a b = if aheadF (hAt hs a) (hAt hs b) = true then -1 else if aheadF (hAt hs b) (hAt hs a) = true then 1 else 0 := rfl
  obtain ⟨ha1, ha2⟩ := ha
  obtain ⟨hb1, hb2⟩ := hb
  rw [e]
  generalize hAt hs a = x at hx ox ⊢
  generalize hAt hs b = y at hy oy ⊢
  have gok := (Gam.cons_ok E17_ok (Gam.nil_ok _))
  refine callOk' Try.func16 26 [.tmp 5] _ rfl rfl rfl (by kernel_rfl) (by simp) [0] rfl rfl (by simp) ?_
  simp only [params]
  refine AWP.sR gok [0, 1, 2] (by apply aops_x (d := 5) (ag_n rfl) rfl (by first | (simp (disch := decide) only [go_sem, seval] <;> rfl) | (simp (disch := first | decide | omega) only [if_pos, nws, go_sem, seval] <;> rfl)) rfl; apply aops_end; rfl) (by (simp (disch := omega) only [go_sem, seval, lay, nws]); rfl) ?_
  refine AWP.seqBlock ?_
  refine AWP.sD gok (by kernel_rfl) [0, 1, 2, 6] [⟨[0], true, 0⟩, ⟨[], true, 0⟩, ⟨[], true, 0⟩, ⟨[0], true, 0⟩, ⟨[0], true, 0⟩, ⟨[], true, 0⟩, ⟨[], true, 0⟩, ⟨[0], true, 0⟩, ⟨[], true, 0⟩, ⟨[], true, 0⟩] (by kernel_rfl) (by first | rfl | simp only [go_sem, ↓reduceIte, Nat.reduceLT, Nat.reduceAdd]) (by first | rfl | simp only [go_sem, ↓reduceIte, Nat.reduceLT, Nat.reduceAdd]) (by (repeat (first | apply arun_step (by first | exact ag_n rfl | exact ag_b rfl rfl rfl (by first | (simp only [look_lay, look, seval] <;> rfl) | fail) (by first | rfl | (simp only [hx, hy, ha1, ha2, hb1, hb2, ox, oy, decide_true, decide_false] <;> rfl) | fail) | fail) (by first | (simp (disch := decide) only [hx, hy, ha1, ha2, hb1, hb2, ox, oy, go_sem, seval]; rfl) | (simp (disch := first | decide | omega) only [if_pos, nws, hx, hy, ha1, ha2, hb1, hb2, ox, oy, go_sem, seval]; rfl)) (by first | (intro h; cases h; done) | (intro _; rfl) | (intro _; simp only [go_sem, seval, lay])) (by first | rfl | simp only [go_sem, seval, lay]) (by first | rfl | simp only [go_sem, seval, lay]) (by first | rfl | simp only [go_sem, seval, lay]) (by simp only [go_sem, seval, lay]; rfl) | apply arun_pass (by first | exact ag_f rfl rfl rfl (by first | (simp only [look_lay, look, seval] <;> rfl) | fail) (by first | rfl | (simp only [hx, hy, ha1, ha2, hb1, hb2, ox, oy, decide_true, decide_false] <;> rfl) | fail) | exact ag_u rfl rfl rfl (by first | (simp only [look_lay, look, seval] <;> rfl) | fail) | fail) rfl (by simp only [go_sem, seval, lay]; rfl))); exact rfl) (by (simp (disch := omega) only [go_sem, seval, lay, nws]); rfl) ?_
  refine AWP.cond (b := _) rfl (fun h => ?_) (fun h => ?_) <;> (try simp only [decide_eq_true_eq, decide_eq_false_iff_not] at h)
  · skip
    refine AWP.sR gok [5] (by apply aops_x (d := 5) (ag_n rfl) rfl (by first | (simp (disch := decide) only [go_sem, seval] <;> rfl) | (simp (disch := first | decide | omega) only [if_pos, nws, go_sem, seval] <;> rfl)) rfl; apply aops_end; rfl) (by (simp (disch := omega) only [go_sem, seval, lay, nws]); rfl) ?_
    refine AWP.ret ?_
    refine ⟨.inr rfl, _, (by simp only [go_sem, seval] <;> rfl), ?_⟩
    simp only [go_sem, seval, Option.some.injEq, AV.c.injEq, AV.agg.injEq, CV.v.injEq, Value.int.injEq, Value.bool.injEq, Row.raw.injEq, List.cons.injEq, CV.sl.injEq, and_true, true_and, and_self]
    simp_all
  · skip
    refine AWP.sD gok (by kernel_rfl) [16] [⟨[0], true, 0⟩, ⟨[], true, 0⟩, ⟨[], true, 0⟩, ⟨[0], true, 0⟩, ⟨[0], true, 0⟩, ⟨[], true, 0⟩, ⟨[], true, 0⟩, ⟨[0], true, 0⟩, ⟨[], true, 0⟩, ⟨[], true, 0⟩] (by kernel_rfl) (by first | rfl | simp only [go_sem, ↓reduceIte, Nat.reduceLT, Nat.reduceAdd]) (by first | rfl | simp only [go_sem, ↓reduceIte, Nat.reduceLT, Nat.reduceAdd]) (by (repeat (first | apply arun_step (by first | exact ag_n rfl | exact ag_b rfl rfl rfl (by first | (simp only [look_lay, look, seval] <;> rfl) | fail) (by first | rfl | (simp only [hx, hy, ha1, ha2, hb1, hb2, ox, oy, decide_true, decide_false] <;> rfl) | fail) | fail) (by first | (simp (disch := decide) only [hx, hy, ha1, ha2, hb1, hb2, ox, oy, go_sem, seval]; rfl) | (simp (disch := first | decide | omega) only [if_pos, nws, hx, hy, ha1, ha2, hb1, hb2, ox, oy, go_sem, seval]; rfl)) (by first | (intro h; cases h; done) | (intro _; rfl) | (intro _; simp only [go_sem, seval, lay])) (by first | rfl | simp only [go_sem, seval, lay]) (by first | rfl | simp only [go_sem, seval, lay]) (by first | rfl | simp only [go_sem, seval, lay]) (by simp only [go_sem, seval, lay]; rfl) | apply arun_pass (by first | exact ag_f rfl rfl rfl (by first | (simp only [look_lay, look, seval] <;> rfl) | fail) (by first | rfl | (simp only [hx, hy, ha1, ha2, hb1, hb2, ox, oy, decide_true, decide_false] <;> rfl) | fail) | exact ag_u rfl rfl rfl (by first | (simp only [look_lay, look, seval] <;> rfl) | fail) | fail) rfl (by simp only [go_sem, seval, lay]; rfl))); exact rfl) (by (simp (disch := omega) only [go_sem, seval, lay, nws]); rfl) ?_
    refine AWP.cond (b := _) rfl (fun h => ?_) (fun h => ?_) <;> (try simp only [decide_eq_true_eq, decide_eq_false_iff_not] at h)
    · skip
      refine AWP.sR gok [5] (by apply aops_x (d := 5) (ag_n rfl) rfl (by first | (simp (disch := decide) only [go_sem, seval] <;> rfl) | (simp (disch := first | decide | omega) only [if_pos, nws, go_sem, seval] <;> rfl)) rfl; apply aops_end; rfl) (by (simp (disch := omega) only [go_sem, seval, lay, nws]); rfl) ?_
      refine AWP.ret ?_
      refine ⟨.inr rfl, _, (by simp only [go_sem, seval] <;> rfl), ?_⟩
      simp only [go_sem, seval, Option.some.injEq, AV.c.injEq, AV.agg.injEq, CV.v.injEq, Value.int.injEq, Value.bool.injEq, Row.raw.injEq, List.cons.injEq, CV.sl.injEq, and_true, true_and, and_self]
      simp_all
    · skip
      refine AWP.skip ?_
      change AWP _ _ _ _ _
      refine AWP.sR gok [5] (by apply aops_x (d := 5) (ag_n rfl) rfl (by first | (simp (disch := decide) only [go_sem, seval] <;> rfl) | (simp (disch := first | decide | omega) only [if_pos, nws, go_sem, seval] <;> rfl)) rfl; apply aops_end; rfl) (by (simp (disch := omega) only [go_sem, seval, lay, nws]); rfl) ?_
      refine AWP.ret ?_
      refine ⟨.inr rfl, _, (by simp only [go_sem, seval] <;> rfl), ?_⟩
      simp only [go_sem, seval, Option.some.injEq, AV.c.injEq, AV.agg.injEq, CV.v.injEq, Value.int.injEq, Value.bool.injEq, Row.raw.injEq, List.cons.injEq, CV.sl.injEq, and_true, true_and, and_self]
      simp_all
def Ecmp : Entry := fun args H => match args with
  | [.c (.v (.int .i64 a)), .c (.v (.int .i64 b)), .c (.ptr k 0 1 0)] => match rsRow HT H k with
    | some hs => if hsOk hs ∧ inH hs a ∧ inH hs b then some (.c (ci .i64 (cmpF hs a b)), patch (ats [k] H.length) [k] [some (.raw [.rs HT hs])] H) else none
    | none => none
  | _ => none
theorem Ecmp_ok : EntryOk Try.prog Fc Ecmp := fun args H r H' h => by
  unfold Ecmp at h
  split at h
  · rename_i a b k
    split at h
    · rename_i hs hr
      split at h
      · rename_i hc
        cases h
        have h1 := rsRow_some hr
        exact frameOk0 (C := H) [k] (Kcmp hs a b hc.1 hc.2.1 hc.2.2) rfl (by simp) rfl (by simp [lt_of h1]) (fun i q hq => by
          match i, hq with
          | 0, hq => cases hq; simpa [ats, Row.mapId, CV.mapId] using h1) rfl (fun i y hy => by
          match i, hy with
          | 0, hy => cases hy; simp [AV.map1, CV.mapId]
          | 1, hy => cases hy; simp [AV.map1, CV.mapId]
          | 2, hy => cases hy; simp [AV.map1, CV.mapId, ats])
      · cases h
    · cases h
  · cases h
attribute [go_sem] Ecmp
end Go.Proofs.Ytcnoooodnmjdmaa
