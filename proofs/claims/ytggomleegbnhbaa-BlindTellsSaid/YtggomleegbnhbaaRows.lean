/-
  No cell of these rows narrows 'for every input' (looked for: loops, veiled, ifaces, maps, wideKeys, modest, calm, conditions, laid).
  DERIVED. THE GIVEN ROWS OF THIS SEAT. 4 by the template 'for every input the law returns true; each argument reads behind the call as it read before'; 0 by the template 'total and deterministic' (their statements: YtggomleegbnhbaaTotals.lean).
  GIVEN WITH THE SEED: the statements are not yours to turn. If you find one false, say at which input.
  Laid BY PROGRAM, IN A SANDBOX (cutbox-rows.mjs): the forced cells as the released guide's own fill.sh prints them over the translation 9b789dd858b401dc… (all of the seat's roots in one cut). By AI agents, Wed Nov 11 2026. No macro, syntax, notation, axiom, sorry.
-/
import Derived.Test.YtggomleegbnhbaaChecked
import GoSem.Claim
import GoSem.ClaimJoined
import GoSem.ClaimMapViews
import Derived.JoinedTies
import Derived.KernelRfl
namespace Go.Proofs.Ytggomleegbnhbaa
/- THE CELL 'sum', in the pinned program and in every row, IS THE sha256 OF THE DUMP (.gsa) THAT YtggomleegbnhbaaProg.lean LOADS. Nothing in Lean hashes anything: it is a label: what it is worth is what the hold of that sum in a sandbox is worth. -/
noncomputable def Try.pinned : Pinned := { name := "ytggomleegbnhbaa", sum := "9b789dd858b401dc9802fa23a9b82fa528261f55618a66106b80c35a832721a6", checked := Try.checked }
namespace Rows
def none {H : Type} : Left H := { results := [], args := [] }

/-- 'shroudlaw06.BlindTells': WHATEVER THE INPUT: true; the input reads as it did. -/
def blindTellsSpec : ChangeSpec := { name := "blindTells", fn := fun _ => fun
  | [d1, d2, d3, d4, d5] => { results := [.lit (.bool true)], args := [d1, d2, d3, d4, d5] }
  | _ => none }
def blindTellsRow : OpenClaim := { program := "ytggomleegbnhbaa", sum := "9b789dd858b401dc9802fa23a9b82fa528261f55618a66106b80c35a832721a6", func := "shroud/shroudlaw06.BlindTells", spec := "blindTells", unfollowed := true, recurses := true, apart := false }
def BlindTellsSaid : Prop := blindTellsRow.holds Try.pinned (OpenSpec.ofChange blindTellsSpec)

/-- ITS FALSE NEIGHBOUR: 'it returns false'. Refute it at one input. -/
def blindTellsWrong : ChangeSpec := { name := "blindTells", fn := fun _ => fun
  | [d1, d2, d3, d4, d5] => { results := [.lit (.bool false)], args := [d1, d2, d3, d4, d5] }
  | _ => none }
def BlindTellsWrongFalsely : Prop := blindTellsRow.holds Try.pinned (OpenSpec.ofChange blindTellsWrong)

/-- 'shroudlaw06.BlindBack': WHATEVER THE INPUT: true; the input reads as it did. -/
def blindBackSpec : ChangeSpec := { name := "blindBack", fn := fun _ => fun
  | [d1, d2, d3, d4, d5] => { results := [.lit (.bool true)], args := [d1, d2, d3, d4, d5] }
  | _ => none }
def blindBackRow : OpenClaim := { program := "ytggomleegbnhbaa", sum := "9b789dd858b401dc9802fa23a9b82fa528261f55618a66106b80c35a832721a6", func := "shroud/shroudlaw06.BlindBack", spec := "blindBack", unfollowed := true, recurses := true, apart := false }
def BlindBackSaid : Prop := blindBackRow.holds Try.pinned (OpenSpec.ofChange blindBackSpec)

/-- ITS FALSE NEIGHBOUR: 'it returns false'. Refute it at one input. -/
def blindBackWrong : ChangeSpec := { name := "blindBack", fn := fun _ => fun
  | [d1, d2, d3, d4, d5] => { results := [.lit (.bool false)], args := [d1, d2, d3, d4, d5] }
  | _ => none }
def BlindBackWrongFalsely : Prop := blindBackRow.holds Try.pinned (OpenSpec.ofChange blindBackWrong)

/-- 'shroudlaw06.BlindPads': WHATEVER THE INPUT: true; the input reads as it did. -/
def blindPadsSpec : ChangeSpec := { name := "blindPads", fn := fun _ => fun
  | [d1, d2, d3] => { results := [.lit (.bool true)], args := [d1, d2, d3] }
  | _ => none }
def blindPadsRow : OpenClaim := { program := "ytggomleegbnhbaa", sum := "9b789dd858b401dc9802fa23a9b82fa528261f55618a66106b80c35a832721a6", func := "shroud/shroudlaw06.BlindPads", spec := "blindPads", unfollowed := true, recurses := true, apart := false }
def BlindPadsSaid : Prop := blindPadsRow.holds Try.pinned (OpenSpec.ofChange blindPadsSpec)

/-- ITS FALSE NEIGHBOUR: 'it returns false'. Refute it at one input. -/
def blindPadsWrong : ChangeSpec := { name := "blindPads", fn := fun _ => fun
  | [d1, d2, d3] => { results := [.lit (.bool false)], args := [d1, d2, d3] }
  | _ => none }
def BlindPadsWrongFalsely : Prop := blindPadsRow.holds Try.pinned (OpenSpec.ofChange blindPadsWrong)

/-- 'shroudlaw06.BlindShares': WHATEVER THE INPUT: true; the input reads as it did. -/
def blindSharesSpec : ChangeSpec := { name := "blindShares", fn := fun _ => fun
  | [d1, d2, d3, d4, d5] => { results := [.lit (.bool true)], args := [d1, d2, d3, d4, d5] }
  | _ => none }
def blindSharesRow : OpenClaim := { program := "ytggomleegbnhbaa", sum := "9b789dd858b401dc9802fa23a9b82fa528261f55618a66106b80c35a832721a6", func := "shroud/shroudlaw06.BlindShares", spec := "blindShares", unfollowed := true, recurses := true, apart := false }
def BlindSharesSaid : Prop := blindSharesRow.holds Try.pinned (OpenSpec.ofChange blindSharesSpec)

/-- ITS FALSE NEIGHBOUR: 'it returns false'. Refute it at one input. -/
def blindSharesWrong : ChangeSpec := { name := "blindShares", fn := fun _ => fun
  | [d1, d2, d3, d4, d5] => { results := [.lit (.bool false)], args := [d1, d2, d3, d4, d5] }
  | _ => none }
def BlindSharesWrongFalsely : Prop := blindSharesRow.holds Try.pinned (OpenSpec.ofChange blindSharesWrong)

/- THE SECOND FORM. 'bulk': how many values and letters a reading holds, each counted each time it is reached (what is shared counts as often as it is met; a slice's spare places count too). A statement '..UptoSaid' is the law's where the arguments, and the package variables that the reading takes, are together of bulk at most 1048576: NARROWER than '..Said'. Prove '..Said' where nothing that the law and all that it calls make is longer than what came in: it says more and counts as full. Else prove '..UptoSaid'. A law counts once. -/
mutual
def uptoBulk {H : Type} : DataW H → Nat
  | .lit (.string bytes) => bytes.length + 1
  | .lit _ => 1
  | .nil => 1
  | .ptr d => uptoBulk d + 1
  | .slice elems spare => uptoBulkAll elems + uptoBulkAll spare + 1
  | .agg parts => uptoBulkAll parts + 1
  | .iface _ d => uptoBulk d + 1
  | .map entries => uptoBulkEntries entries + 1
  | .held _ => 1
def uptoBulkAll {H : Type} : List (DataW H) → Nat
  | [] => 0
  | d :: r => uptoBulk d + uptoBulkAll r
def uptoBulkEntries {H : Type} : List (Lit × DataW H) → Nat
  | [] => 0
  | x :: r => uptoBulkEntry x + uptoBulkEntries r
def uptoBulkEntry {H : Type} : Lit × DataW H → Nat
  | (.string bytes, d) => bytes.length + uptoBulk d + 1
  | (_, d) => uptoBulk d + 1
 end
def uptoSmall : (H : Type) → List (DataW H) → Bool := fun _ ds => decide (uptoBulkAll ds ≤ 1048576)
def OpenSpec.upto (s : _root_.Go.ChangeSpec) : _root_.Go.OpenSpec := { _root_.Go.OpenSpec.ofChange s with cond := some uptoSmall }

/-- 'shroudlaw06.BlindTells', WHERE WHAT IT READS IS OF BULK AT MOST 1048576: true; the input reads as it did. -/
def blindTellsUptoRow : OpenClaim := { program := "ytggomleegbnhbaa", sum := "9b789dd858b401dc9802fa23a9b82fa528261f55618a66106b80c35a832721a6", func := "shroud/shroudlaw06.BlindTells", spec := "blindTells", unfollowed := true, recurses := true, apart := false, narrowed := true }
def BlindTellsUptoSaid : Prop := blindTellsUptoRow.holds Try.pinned (OpenSpec.upto blindTellsSpec)

/-- 'shroudlaw06.BlindBack', WHERE WHAT IT READS IS OF BULK AT MOST 1048576: true; the input reads as it did. -/
def blindBackUptoRow : OpenClaim := { program := "ytggomleegbnhbaa", sum := "9b789dd858b401dc9802fa23a9b82fa528261f55618a66106b80c35a832721a6", func := "shroud/shroudlaw06.BlindBack", spec := "blindBack", unfollowed := true, recurses := true, apart := false, narrowed := true }
def BlindBackUptoSaid : Prop := blindBackUptoRow.holds Try.pinned (OpenSpec.upto blindBackSpec)

/-- 'shroudlaw06.BlindPads', WHERE WHAT IT READS IS OF BULK AT MOST 1048576: true; the input reads as it did. -/
def blindPadsUptoRow : OpenClaim := { program := "ytggomleegbnhbaa", sum := "9b789dd858b401dc9802fa23a9b82fa528261f55618a66106b80c35a832721a6", func := "shroud/shroudlaw06.BlindPads", spec := "blindPads", unfollowed := true, recurses := true, apart := false, narrowed := true }
def BlindPadsUptoSaid : Prop := blindPadsUptoRow.holds Try.pinned (OpenSpec.upto blindPadsSpec)

/-- 'shroudlaw06.BlindShares', WHERE WHAT IT READS IS OF BULK AT MOST 1048576: true; the input reads as it did. -/
def blindSharesUptoRow : OpenClaim := { program := "ytggomleegbnhbaa", sum := "9b789dd858b401dc9802fa23a9b82fa528261f55618a66106b80c35a832721a6", func := "shroud/shroudlaw06.BlindShares", spec := "blindShares", unfollowed := true, recurses := true, apart := false, narrowed := true }
def BlindSharesUptoSaid : Prop := blindSharesUptoRow.holds Try.pinned (OpenSpec.upto blindSharesSpec)

end Rows
end Go.Proofs.Ytggomleegbnhbaa
