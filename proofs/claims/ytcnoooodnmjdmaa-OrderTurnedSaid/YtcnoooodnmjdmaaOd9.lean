import Derived.Test.YtcnoooodnmjdmaaOd8
set_option linter.unusedSimpArgs false
set_option linter.unusedVariables false
namespace Go.Proofs.Ytcnoooodnmjdmaa
open Go.RowKit Sorts
/-! Whether places may come so. -/
set_option maxRecDepth 100000
def SOk (hs : List Hd) (S : Sq) : Prop := S.2.2.length = hs.length ∧ -9223372036854775808 ≤ S.2.1 ∧ S.2.1 < 9223372036854775808
theorem come_ok {hs : List Hd} {S : Sq} {a : Int} (h : SOk hs S) (hm : mayF hs S a = true) : SOk hs (comeF hs S a) := by
  unfold mayF at hm
  have h1 := (of_decide_eq_true hm).2.2
  obtain ⟨-, h2, h3⟩ := h1
  obtain ⟨g1, g2, g3⟩ := h
  refine ⟨by simp [comeF, g1], ?_, ?_⟩ <;> simp only [comeF] <;> omega
def runF (hs : List Hd) : Sq → List Int → Option Sq
  | S, [] => some S
  | S, a :: l => if mayF hs S a = true then runF hs (comeF hs S a) l else none
abbrev S0 (hs : List Hd) (ns : List Int) (room : Int) : Sq := (ns, room, List.replicate hs.length false)
def rightF (hs : List Hd) (ns : List Int) (room : Int) (ps : List Int) : Bool := (runF hs (S0 hs ns room) ps).isSome
theorem drop_cons {α : Type} {ps : List α} {k : Nat} {a : α} (h : ps[k]? = some a) : ps.drop k = a :: ps.drop (k + 1) := by
  obtain ⟨hk, rfl⟩ := List.getElem?_eq_some_iff.1 h
  exact List.drop_eq_getElem_cons hk
theorem S0_ok (hs : List Hd) (ns : List Int) {room : Int} (h : -9223372036854775808 ≤ room ∧ room < 9223372036854775808) : SOk hs (S0 hs ns room) := ⟨by simp [S0], h⟩
abbrev c11 (hs : (List (Ty.D HT))) (ns : (List Int)) (room : Int) (ps : (List Int)) : Prop := (hs.length ≤ 100000 ∧ ns.length ≤ 100000 ∧ ps.length ≤ 100000) ∧ (-9223372036854775808 ≤ room ∧ room < 9223372036854775808)
abbrev r11 (hs : (List (Ty.D HT))) (ns : (List Int)) (room : Int) (ps : (List Int)) : AV := .c (cb (rightF hs ns room ps))
abbrev L11 (hs : (List (Ty.D HT))) (ns : (List Int)) (room : Int) (ps : (List Int)) : Hp := []
def E11 : Entry := pureN [(.sl HT), (.sl (.i .u64)), (.i .i64), (.sl (.i .i64))] (fun d => c11 d.1 d.2.1 d.2.2.1 d.2.2.2.1) (fun d => r11 d.1 d.2.1 d.2.2.1 d.2.2.2.1) (fun d => L11 d.1 d.2.1 d.2.2.1 d.2.2.2.1)
set_option maxRecDepth 100000 in
set_option maxHeartbeats 4000000 in
theorem K11 (hs : (List (Ty.D HT))) (ns : (List Int)) (room : Int) (ps : (List Int)) (hc : c11 hs ns room ps) : CallOk Try.prog 11 [.c (.rs HT hs), .c (.rs (.i .u64) ns), .c (ci .i64 room), .c (.rs (.i .i64) ps)] [] (r11 hs ns room ps) (L11 hs ns room ps) := by
  have hc : (hs.length ≤ 100000 ∧ ns.length ≤ 100000 ∧ ps.length ≤ 100000) ∧ (-9223372036854775808 ≤ room ∧ room < 9223372036854775808) := hc
  obtain ⟨⟨l1, l2, l3⟩, hr⟩ := hc
  have gok := (Gam.cons_ok E14_ok (Gam.cons_ok Emay_ok (Gam.cons_ok Ecome_ok (Gam.nil_ok _))))
  refine callOk' Try.func11 30 [.tmp 8] _ rfl rfl rfl (by kernel_rfl) (by simp) [] rfl rfl (by simp) ?_
  simp only [params]
  refine AWP.sR gok [0, 1, 2, 3] (by apply aops_x (d := 8) (ag_n rfl) rfl (by first | (simp (disch := decide) only [go_sem, seval] <;> rfl) | (simp (disch := first | decide | omega) only [if_pos, nws, go_sem, seval] <;> rfl)) rfl; apply aops_end; rfl) (by (simp (disch := omega) only [go_sem, seval, lay, nws]); rfl) ?_
  refine AWP.sR gok [3, 9] (by apply aops_mv (t := 0) (d := 12) (ag_n rfl) rfl rfl (by first | (simp only [look_lay, look, seval] <;> rfl) | fail) rfl; apply aops_mv (t := 1) (d := 13) (ag_n rfl) rfl rfl (by first | (simp only [look_lay, look, seval] <;> rfl) | fail) rfl; apply aops_mv (t := 2) (d := 14) (ag_n rfl) rfl rfl (by first | (simp only [look_lay, look, seval] <;> rfl) | fail) rfl; apply aops_x (d := 15) (ag_n rfl) rfl (by (simp (disch := first | decide | omega) only [if_pos, nws, l1, l2, go_sem, seval] <;> rfl)) rfl; apply aops_as (t := 15) (d := 9) (ag_n rfl) rfl rfl (by first | (simp only [look_lay, look, seval] <;> rfl) | fail) rfl; apply aops_end; rfl) (by (simp (disch := omega) only [go_sem, seval, lay, nws]); rfl) ?_
  refine AWP.seq ?_
  refine AWP.sR gok [9, 16, 17, 18] (by apply aops_mv (t := 3) (d := 16) (ag_n rfl) rfl rfl (by first | (simp only [look_lay, look, seval] <;> rfl) | fail) rfl; apply aops_x (d := 17) (ag_n rfl) rfl (by first | (simp (disch := decide) only [go_sem, seval] <;> rfl) | (simp (disch := first | decide | omega) only [if_pos, nws, go_sem, seval] <;> rfl)) rfl; apply aops_x (d := 18) (ag_n rfl) rfl (by first | (simp (disch := decide) only [go_sem, seval] <;> rfl) | (simp (disch := first | decide | omega) only [if_pos, nws, go_sem, seval] <;> rfl)) rfl; apply aops_end; rfl) (by (simp (disch := omega) only [go_sem, seval, lay, nws]); rfl) ?_
  refine AWP.block ?_
  refine AWP.loopP (fun (p : Nat × Sq) => ⟨30, [(9, .c (.ptr 0 0 1 0)), (16, .c (.rs (.i .i64) ps)), (17, .c (ci .i64 (ps.length : Int))), (18, .c (ci .i64 (p.1 : Int)))], stRows hs p.2⟩) (fun p => p.1 ≤ ps.length ∧ SOk hs p.2 ∧ runF hs (S0 hs ns room) ps = runF hs p.2 (ps.drop p.1)) (fun p => ps.length - p.1) (0, S0 hs ns room) (Ghost.trans (Ghost.trim _ [9, 16, 17, 18] _) (Ghost.of_eq (by simp only [stRows, S0, List.length_replicate]; (simp (disch := omega) only [go_sem, seval, lay, nws]) <;> rfl))) ⟨Nat.zero_le _, S0_ok hs ns hr, rfl⟩ ?_
  rintro ⟨k, S⟩ ⟨i1, i2, i3⟩
  simp only at i1 i2 i3 ⊢
  obtain ⟨hl, hroom⟩ := id i2
  refine AWP.sR gok [9, 16, 17, 18, 19] (by apply aops_x (d := 19) (ag_n rfl) rfl (by first | (simp (disch := decide) only [go_sem, seval] <;> rfl) | (simp (disch := first | decide | omega) only [if_pos, nws, go_sem, seval] <;> rfl)) rfl; apply aops_end; rfl) (by (simp (disch := omega) only [go_sem, seval, lay, nws]); rfl) ?_
  refine AWP.seq ?_
  refine AWP.cond (b := _) rfl (fun h => ?_) (fun h => ?_) <;> (try simp only [decide_eq_true_eq, decide_eq_false_iff_not] at h)
  · skip
    refine AWP.skip ?_
    change AWP _ _ _ _ _
    refine AWP.seqBlock ?_
    obtain ⟨a, ha⟩ : ∃ a, ps[k]? = some a := ⟨_, List.getElem?_eq_getElem (by omega)⟩
    rw [drop_cons ha] at i3
    refine AWP.sR gok [9, 11, 16, 17, 18] (by apply aops_x (d := 20) (ag_n rfl) rfl (by (simp (disch := first | decide | omega) only [if_pos, nws, ha, go_sem, seval] <;> rfl)) rfl; apply aops_x (d := 21) (ag_n rfl) rfl (by first | (simp (disch := decide) only [ha, go_sem, seval] <;> rfl) | (simp (disch := first | decide | omega) only [if_pos, nws, ha, go_sem, seval] <;> rfl)) rfl; apply aops_as (t := 21) (d := 11) (ag_n rfl) rfl rfl (by first | (simp only [look_lay, look, seval] <;> rfl) | fail) rfl; apply aops_end; rfl) (by (simp (disch := omega) only [go_sem, seval, lay, nws]); rfl) ?_
    refine AWP.seq ?_
    refine AWP.sR gok [9, 11, 16, 17, 18, 25] (by apply aops_mv (t := 9) (d := 22) (ag_n rfl) rfl rfl (by first | (simp only [look_lay, look, seval] <;> rfl) | fail) rfl; apply aops_mv (t := 11) (d := 23) (ag_n rfl) rfl rfl (by first | (simp only [look_lay, look, seval] <;> rfl) | fail) rfl; apply aops_x (d := 24) (ag_n rfl) rfl (by (simp (disch := first | decide | omega) only [if_pos, nws, hl, go_sem, seval] <;> rfl)) rfl; apply aops_x (d := 25) (ag_n rfl) rfl (by first | (simp (disch := decide) only [hl, go_sem, seval] <;> rfl) | (simp (disch := first | decide | omega) only [if_pos, nws, hl, go_sem, seval] <;> rfl)) rfl; apply aops_end; rfl) (by (simp (disch := omega) only [go_sem, seval, lay, nws]); rfl) ?_
    refine AWP.cond (b := _) rfl (fun h => ?_) (fun h => ?_) <;> (try simp only [decide_eq_true_eq, decide_eq_false_iff_not] at h)
    · skip
      refine AWP.sR gok [8] (by apply aops_x (d := 8) (ag_n rfl) rfl (by first | (simp (disch := decide) only [go_sem, seval] <;> rfl) | (simp (disch := first | decide | omega) only [if_pos, nws, go_sem, seval] <;> rfl)) rfl; apply aops_end; rfl) (by (simp (disch := omega) only [go_sem, seval, lay, nws]); rfl) ?_
      refine AWP.ret ?_
      refine ⟨.inr rfl, _, (by simp only [go_sem, seval] <;> rfl), ?_⟩
      simp only [go_sem, seval, Option.some.injEq, AV.c.injEq, AV.agg.injEq, CV.v.injEq, Value.int.injEq, Value.bool.injEq, Row.raw.injEq, List.cons.injEq, CV.sl.injEq, and_true, true_and, and_self]
      unfold rightF; rw [i3, runF, if_neg (by simpa using h)]; rfl
    · skip
      refine AWP.skip ?_
      change AWP _ _ _ _ _
      have hm : mayF hs S a = true := by simpa using h
      have hroom1 := hroom.1
      have hroom2 := hroom.2
      refine AWP.rT gok [9, 16, 17, 18] (by apply aops_mv (t := 9) (d := 26) (ag_n rfl) rfl rfl (by first | (simp only [look_lay, look, seval] <;> rfl) | fail) rfl; apply aops_mv (t := 11) (d := 27) (ag_n rfl) rfl rfl (by first | (simp only [look_lay, look, seval] <;> rfl) | fail) rfl; apply aops_x (d := 28) (ag_n rfl) rfl (by (simp (disch := first | decide | omega) only [if_pos, nws, hl, hroom1, hroom2, hm, go_sem, seval] <;> rfl)) rfl; apply aops_end; rfl) (by (simp (disch := omega) only [go_sem, seval, lay, nws]); rfl) ?_
      change AWP _ _ _ _ _
      refine AWP.rT gok [9, 16, 17, 18] (by apply aops_x (d := 29) (ag_n rfl) rfl (by first | (simp (disch := decide) only [go_sem, seval] <;> rfl) | (simp (disch := first | decide | omega) only [if_pos, nws, go_sem, seval] <;> rfl)) rfl; apply aops_mv (t := 29) (d := 18) (ag_n rfl) rfl rfl (by first | (simp only [look_lay, look, seval] <;> rfl) | fail) rfl; apply aops_end; rfl) (by (simp (disch := omega) only [go_sem, seval, lay, nws]); rfl) ?_
      exact ⟨(k + 1, comeF hs S a), Ghost.of_eq (by simp only [Int.natCast_add, Int.cast_ofNat_Int] <;> rfl), ⟨by simp only; omega, come_ok i2 hm, by simp only; rw [i3, runF, if_pos hm]⟩, by simp only; omega⟩
  · skip
    refine AWP.exit ?_
    change AWP _ _ _ _ _
    refine AWP.sR gok [8] (by apply aops_x (d := 8) (ag_n rfl) rfl (by first | (simp (disch := decide) only [go_sem, seval] <;> rfl) | (simp (disch := first | decide | omega) only [if_pos, nws, go_sem, seval] <;> rfl)) rfl; apply aops_end; rfl) (by (simp (disch := omega) only [go_sem, seval, lay, nws]); rfl) ?_
    refine AWP.ret ?_
    refine ⟨.inr rfl, _, (by simp only [go_sem, seval] <;> rfl), ?_⟩
    simp only [go_sem, seval, Option.some.injEq, AV.c.injEq, AV.agg.injEq, CV.v.injEq, Value.int.injEq, Value.bool.injEq, Row.raw.injEq, List.cons.injEq, CV.sl.injEq, and_true, true_and, and_self]
    obtain rfl : k = ps.length := by omega
    unfold rightF; rw [i3, List.drop_length]; rfl
theorem E11_ok : EntryOk Try.prog 11 E11 := pureN_ok (fun d hc => K11 d.1 d.2.1 d.2.2.1 d.2.2.2.1 hc) (fun _ => rfl) (fun _ => rfl)
attribute [go_sem] E11 c11 r11 L11
/-! The places of the ones that come, in order. -/
def pickN (hs : List Hd) (ps : List Int) : Nat → Sq → List Int
  | 0, _ => []
  | f + 1, S => match ps.find? (fun a => mayF hs S a) with
    | some a => a :: pickN hs ps f (comeF hs S a)
    | none => []
def iota (n : Nat) : List Int := (List.range n).map fun (i : Nat) => (i : Int)
abbrev sorted (hs : List Hd) : List Int := sortF (ltH hs) (iota hs.length)
def pickF (hs : List Hd) (ns : List Int) (room : Int) : List Int := pickN hs (sorted hs) (hs.length + 1) (S0 hs ns room)
theorem iota_len (n : Nat) : (iota n).length = n := by simp [iota]
theorem iota_in (hs : List Hd) : ∀ x ∈ iota hs.length, inH hs x := fun x hx => by
  obtain ⟨i, hi, rfl⟩ := List.mem_map.1 hx
  have := List.mem_range.1 hi
  exact ⟨by omega, by omega⟩
/-- While places are laid. -/
def lays (n i : Nat) : List Int := iota i ++ List.replicate (n - i) 0
theorem lays_set {n i : Nat} (h : i < n) : (lays n i).set i (i : Int) = lays n (i + 1) := by
  unfold lays
  rw [List.set_append_right _ _ (by rw [iota_len]; omega), iota_len, Nat.sub_self]
  obtain ⟨d, hd⟩ : ∃ d, n - i = d + 1 := ⟨n - i - 1, by omega⟩
  rw [hd, List.replicate_succ, List.set_cons_zero, show n - (i + 1) = d by omega]
  unfold iota
  rw [List.range_succ, List.map_append, List.append_assoc]; rfl
theorem lays_len (n i : Nat) (h : i ≤ n) : (lays n i).length = n := by unfold lays; rw [List.length_append, iota_len, List.length_replicate]; omega
theorem lays_zero (n : Nat) : lays n 0 = List.replicate n 0 := by simp [lays, iota]
theorem lays_all (n : Nat) : lays n n = iota n := by simp [lays]
theorem find_of {α : Type} {p : α → Bool} {ps : List α} {k : Nat} {a : α} (ha : ps[k]? = some a) (hp : p a = true) (h : ∀ (j : Nat) (b : α), j < k → ps[j]? = some b → p b = false) : ps.find? p = some a := by
  induction ps generalizing k with
  | nil => simp at ha
  | cons x ps ih =>
    cases k with
    | zero => simp at ha; subst ha; simp [hp]
    | succ k =>
      have hx := h 0 x (Nat.succ_pos k) rfl
      rw [List.find?_cons_of_neg (by simp [hx])]
      exact ih (by simpa using ha) fun j b hj hb => h (j + 1) b (by omega) (by simpa using hb)
theorem find_none {α : Type} {p : α → Bool} {ps : List α} (h : ∀ (j : Nat) (b : α), ps[j]? = some b → p b = false) : ps.find? p = none := by
  rw [List.find?_eq_none]
  intro x hx
  obtain ⟨j, hj⟩ := List.mem_iff_getElem?.1 hx
  simp [h j x hj]
/-- How many have not come. -/
def wait (S : Sq) : Nat := S.2.2.count false
theorem countf_set {l : List Bool} {i : Nat} (h : l[i]? = some false) : (l.set i true).count false + 1 = l.count false := by
  induction l generalizing i with
  | nil => simp at h
  | cons x l ih =>
    cases i with
    | zero => simp at h; subst h; simp
    | succ i =>
      have := ih (i := i) (by simpa using h)
      simp only [List.set_cons_succ, List.count_cons]; omega
theorem wait_come {hs : List Hd} {S : Sq} {a : Int} (hm : mayF hs S a = true) : wait (comeF hs S a) + 1 = wait S := by
  unfold mayF at hm
  obtain ⟨⟨-, h⟩, -⟩ := of_decide_eq_true hm
  exact countf_set h
theorem wait_0 (hs : List Hd) (ns : List Int) (room : Int) : wait (S0 hs ns room) = hs.length := by simp [wait, S0]
theorem pick_len (hs : List Hd) (ps : List Int) : ∀ (f : Nat) (S : Sq), (pickN hs ps f S).length ≤ wait S
  | 0, S => Nat.zero_le _
  | f + 1, S => by
    unfold pickN
    split
    · rename_i a ha
      have := wait_come (hs := hs) (S := S) (a := a) (by simpa using List.find?_some ha)
      have := pick_len hs ps f (comeF hs S a)
      simp only [List.length_cons]; omega
    · exact Nat.zero_le _
end Go.Proofs.Ytcnoooodnmjdmaa
