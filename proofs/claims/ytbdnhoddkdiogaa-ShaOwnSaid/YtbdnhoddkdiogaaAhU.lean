/- AHI, part U: what simp walks with. Written by gensimp.py. -/
import Derived.Test.YtbdnhoddkdiogaaAhT
set_option linter.unusedSimpArgs false
set_option linter.unusedVariables false
namespace Go.Proofs.Ytbdnhoddkdiogaa
open Go.RowKit
/-- One operation. -/
def one (P : Program) (Γ : Gam) (ops : List Oper) (o : Oper) (s : St) : Option St :=
  match aguard ops s o with
  | some true => (match aop P Γ s o.op with | some (x, H') => put s o.dst x H' | none => none)
  | some false => put s o.dst (.tup []) s.H
  | none => none
attribute [go_sem] one look_lay aguard aop put look ev ev1 evs oev sm acall abuiltin thenQ blockQ testB trim vAV natI_int cA_int cA_bool cA_string cA_slice cA_pointer cA_nilFunc cA_float vb_add vb_sub vb_mul vb_and vb_or vb_xor vb_andNot vb_quo vb_rem vb_eql vb_neq vb_lss vb_leq vb_gtr vb_geq vb_shl_i8 vb_shr_i8 vb_shl_i16 vb_shr_i16 vb_shl_i32 vb_shr_i32 vb_shl_i64 vb_shr_i64 vb_shl_u8 vb_shr_u8 vb_shl_u16 vb_shr_u16 vb_shl_u32 vb_shr_u32 vb_shl_u64 vb_shr_u64 vu_neg vu_not vb_seql vb_sneq abin aun aconv aload astore hrow elems aappend acopy alen alenT alenS aindexAddr afieldAddr afield aindex apart aslice aslice3 bound amake abuild abuildSlice allParts evParts fillL AV.one AV.ones AV.cells AV.allSz isRowT slOrStr strOk noStr Row.at Row.sub Row.put Row.puts Row.at0 Row.sub0 Row.put0 Row.puts0 Row.eN ite_self Row.part Row.app Row.over Row.size Row.as_ty Row.one enc leaf setD oneRow subD Ty.sz Option.map_some Option.map_none Option.bind_some Option.getD_some Option.isSome_some if_true if_false ite_true ite_false List.getElem?_cons_zero List.getElem?_cons_succ List.set_cons_zero List.set_cons_succ List.length_cons List.length_nil List.nil_append List.cons_append List.append_assoc List.filter_cons List.filter_nil List.contains_cons List.contains_nil List.toList_toArray beq_self_eq_true beq_tt beq_tf beq_ft beq_ff Bool.true_or Bool.or_true Bool.or_false Bool.false_or Bool.true_and Bool.and_true Bool.and_false Bool.false_and decide_eq_true_eq decide_eq_false_iff_not Nat.zero_add Nat.add_zero Nat.mul_one Nat.one_mul true_and and_true false_and and_false and_self or_false false_or true_or or_true Bool.not_true Bool.not_false eq_self forall_const true_implies false_implies implies_true Bool.true_eq_false Bool.false_eq_true not_true_eq_false not_false_eq_true azeros acap abuild0 aresult tupled params gc gcH gcEnv AV.ren AV.ren1 CV.ren Row.ren renL renA idx idx.go underE underH AV.under AV.under1 CV.under Row.under maskH mergeH Pl.w view vdec ro AV.mapId AV.map1 CV.mapId Row.mapId Row.as decs decF decD single? Row.cells encL List.take_succ_cons List.take_zero List.take_nil List.drop_succ_cons List.drop_zero List.all_cons List.all_nil List.map_cons List.map_nil List.append_nil isNilP isNilS isNilF ptrNil slNil fnNil aeq aeqRow idsOf intsV natI AV.row dite_true dite_false List.foldl_cons List.foldl_nil List.flatMap_cons List.flatMap_nil LIM
section
variable {P : Program} {Γ : Gam} {ops l : List Oper} {o : Oper} {s s1 s' : St} {x : AV} {H' : Hp}
theorem aops_one (h1 : one P Γ ops o s = some s1) (h : aops P Γ ops l s1 = some s') : aops P Γ ops (o :: l) s = some s' := by
  unfold one at h1
  simp only [aops]
  split at h1
  · rename_i hg
    rw [hg]
    split at h1
    · rename_i x H' hx; simp only [hx, h1]; exact h
    · cases h1
  · rename_i hg; rw [hg]; simp only [h1]; exact h
  · cases h1
theorem aops_step (hg : aguard ops s o = some true) (hx : aop P Γ s o.op = some (x, H')) (hp : put s o.dst x H' = some s1) (h : aops P Γ ops l s1 = some s') : aops P Γ ops (o :: l) s = some s' := by
  simp only [aops, hg, hx, hp, h]
theorem aops_pass (hg : aguard ops s o = some false) (hp : put s o.dst (.tup []) s.H = some s1) (h : aops P Γ ops l s1 = some s') : aops P Γ ops (o :: l) s = some s' := by
  simp only [aops, hg, hp, h]
theorem arun_step {p : Pl} {pl : List Pl} {Q : St → Prop} (hg : aguard ops s o = some true) (hx : aop P Γ ⟨s.n, s.env, maskH p.m 0 s.H⟩ o.op = some (x, H')) (hq : p.q = true → H'.take s.H.length = maskH p.m 0 s.H) (hn : H'.length = s.H.length + p.n)
    (hu : x.under H'.length = true) (hU : underH H'.length H' = true) (hp : put s o.dst x (mergeH p.w 0 s.H H') = some s1) (h : arun P Γ ops l pl s1 Q) : arun P Γ ops (o :: l) (p :: pl) s Q := by
  simp only [arun, hg, hx, hp]
  exact ⟨hq, hn, hu, hU, h⟩
theorem arun_pass {p : Pl} {pl : List Pl} {Q : St → Prop} (hg : aguard ops s o = some false) (hn : p.n = 0) (hp : put s o.dst (.tup []) s.H = some s1) (h : arun P Γ ops l pl s1 Q) : arun P Γ ops (o :: l) (p :: pl) s Q := by
  simp only [arun, hg, hp]
  exact ⟨hn, h⟩
end
section
variable {P : Program} {Γ : Gam} {B : Nat} {s s' s2 : St} {Q : Exit → St → Prop}
theorem AWP.sR (hΓ : GamOk P Γ) (K : List Nat) {id : Nat} {ops : Array Oper} {d : Code} (h : aops P Γ ops.toList ops.toList s = some s') (ht : trim K s' = s2) (hq : AWP P B d Q s2) : AWP P B (.seq (.region id ops false) d) Q s := AWP.seqR hΓ K h (ht ▸ hq)
theorem AWP.rT (hΓ : GamOk P Γ) (K : List Nat) {id : Nat} {ops : Array Oper} (h : aops P Γ ops.toList ops.toList s = some s') (ht : trim K s' = s2) (hq : Q .normal s2) : AWP P B (.region id ops false) Q s := AWP.regionT hΓ K h (ht ▸ hq)
theorem AWP.sD (hΓ : GamOk P Γ) (hm : P.follows .mixedOrders = true) (K : List Nat) (pl : List Pl) {id : Nat} {ops : Array Oper} {d : Code} (hc : drawnOk ops pl s.H.length = true) (he : underE s.H.length s.env = true) (hh : underH s.H.length s.H = true)
    (h : arun P Γ ops.toList ops.toList pl s (fun s1 => s1 = s')) (ht : trim K s' = s2) (hq : AWP P B d Q s2) : AWP P B (.seq (.region id ops true) d) Q s := AWP.seqD hΓ hm K pl hc he hh h (ht ▸ hq)
theorem AWP.dT (hΓ : GamOk P Γ) (hm : P.follows .mixedOrders = true) (K : List Nat) (pl : List Pl) {id : Nat} {ops : Array Oper} (hc : drawnOk ops pl s.H.length = true) (he : underE s.H.length s.env = true) (hh : underH s.H.length s.H = true)
    (h : arun P Γ ops.toList ops.toList pl s (fun s1 => s1 = s')) (ht : trim K s' = s2) (hq : Q .normal s2) : AWP P B (.region id ops true) Q s := fun X σ a w hs =>
  Code.wp_mono (fun e a' w' ⟨σ', s1, h1, h2, h3⟩ => by
    cases e with
    | normal => have e1 : s1 = s' := h1; subst e1; exact ⟨σ', trim K s1, ht ▸ hq, h2.trim K, h3⟩
    | _ => exact h1.elim) (AWP.drawn (B := B) (Q := fun e s1 => match e with | .normal => s1 = s' | _ => False) hΓ hm pl hc he hh h X σ a w hs)
end
end Go.Proofs.Ytbdnhoddkdiogaa
