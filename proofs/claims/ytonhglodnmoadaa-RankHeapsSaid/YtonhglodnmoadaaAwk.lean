import Derived.Test.YtonhglodnmoadaaAi4
import Derived.Test.YtonhglodnmoadaaTab
set_option linter.unusedSimpArgs false
set_option linter.unusedVariables false
namespace Go.Proofs.Ytonhglodnmoadaa
open Go.RowKit
theorem awake_c : CallOk Try.prog 10 [] [] (.c (cb true)) [] := closed_true (Gam.nil_ok _) (by kernel_rfl) (m := 500) (n := 20) (by kernel_rfl)
abbrev c10 : Prop := True
abbrev r10 : AV := .c (cb true)
abbrev L10 : Hp := []
def E10 : Entry := pureN [] (fun d => c10 ) (fun d => r10 ) (fun d => L10 )
set_option maxRecDepth 100000 in
set_option maxHeartbeats 4000000 in
theorem K10 (hc : c10) : CallOk Try.prog 10 [] [] (r10) (L10) := by
  exact awake_c
theorem E10_ok : EntryOk Try.prog 10 E10 := pureN_ok (fun d hc => K10 hc) (fun _ => rfl) (fun _ => rfl)
attribute [go_sem] E10 c10 r10 L10
end Go.Proofs.Ytonhglodnmoadaa
