import Derived.Test.YtbdnhoddkdiogaaMk8
set_option linter.unusedSimpArgs false
set_option linter.unusedVariables false
namespace Go.Proofs.Ytbdnhoddkdiogaa
open Go.RowKit
/-! What a law begins with. -/
def ofS : Entry := fun args H => match views H [.sl (.i .u8)] args with
  | some d => if bytesOk d.1 ∧ d.1.length ≤ 1099511627776 then ofK d.1 (fun x => some (.agg (.ty (.i .u8) x), H)) else none
  | none => none
theorem ofS_ok : EntryOk Try.prog 16 ofS := fun args H r H' h => by
  unfold ofS at h
  split at h
  · rename_i d hd
    split at h
    · rename_i hc
      rw [ofK_eq] at h
      cases h
      refine E16_ok args H _ _ ?_
      unfold E16 pureN
      rw [hd]
      show (if c16 d.1 then some _ else none) = _
      rw [if_pos hc]
      simp only [shiftA, shiftH, AV.mapId, Row.mapId, List.map_nil, List.append_nil]
    · cases h
  · cases h
theorem hex_c (D : List Int) (hc : bytesOk D ∧ D.length = 32) : CallOk Try.prog 18 [.agg (.ty (.i .u8) D)] [] (.c (.v (.string (strOfNums (Sha.hexs D))))) [] :=
  bridge (v := .string (strOfNums (Sha.hexs D))) (by kernel_rfl) (fun w own σ => ⟨rfl, rfl⟩) fun own σ w vs hl1 hv => by
    obtain ⟨v, h1, h2⟩ := hv 0 _ rfl
    obtain ⟨us, rfl, hu1, hu2⟩ := h2
    match vs, hl1 with
    | [u], _ =>
      cases h1
      have e : us.toArray = Sha.bytes D := by
        apply Array.ext'
        simp only [Sha.bytes]
        apply List.ext_getElem?
        intro i
        by_cases hi : i < D.length
        · have := hu2 i D[i] (List.getElem?_eq_getElem hi)
          have h3 : us[i * 1 + 0]? = some (.int .u8 D[i]) := this
          rw [Nat.mul_one, Nat.add_zero] at h3
          simp [h3, hi]
        · have hl : us.length = D.length := by simpa [Row.size, Ty.sz] using hu1
          have h4 : us[i]? = none := List.getElem?_eq_none (by rw [hl]; omega)
          rw [h4, List.getElem?_eq_none (by rw [List.length_map]; omega)]
      rw [e]
      exact hex_any D hc.2 hc.1 w
abbrev c18 (D : (List Int)) : Prop := bytesOk D ∧ D.length = 32
abbrev r18 (D : (List Int)) : AV := .c (.v (.string (strOfNums (Sha.hexs D))))
abbrev L18 (D : (List Int)) : Hp := []
def E18 : Entry := pureN [(.ar 32 (.i .u8))] (fun d => c18 d.1) (fun d => r18 d.1) (fun d => L18 d.1)
set_option maxRecDepth 100000 in
set_option maxHeartbeats 4000000 in
theorem K18 (D : (List Int)) (hc : c18 D) : CallOk Try.prog 18 [.agg (.ty (.i .u8) D)] [] (r18 D) (L18 D) := by
  have hc : bytesOk D ∧ D.length = 32 := hc
  exact hex_c D hc
theorem E18_ok : EntryOk Try.prog 18 E18 := pureN_ok (fun d hc => K18 d.1 hc) (fun _ => rfl) (fun _ => rfl)
theorem awake11_c : CallOk Try.prog 26 [] [] (.c (cb true)) [] := closed_true (Gam.cons_ok ofS_ok (Gam.cons_ok E18_ok (Gam.nil_ok _))) (by kernel_rfl) (m := 500) (n := 20) (by kernel_rfl)
abbrev c26 : Prop := True
abbrev r26 : AV := .c (cb true)
abbrev L26 : Hp := []
def E26 : Entry := pureN [] (fun d => c26 ) (fun d => r26 ) (fun d => L26 )
set_option maxRecDepth 100000 in
set_option maxHeartbeats 4000000 in
theorem K26 (hc : c26) : CallOk Try.prog 26 [] [] (r26) (L26) := by
  exact awake11_c
theorem E26_ok : EntryOk Try.prog 26 E26 := pureN_ok (fun d hc => K26 hc) (fun _ => rfl) (fun _ => rfl)
end Go.Proofs.Ytbdnhoddkdiogaa
