/-
  No cell of these rows narrows 'for every input' (looked for: loops, veiled, ifaces, maps, wideKeys, modest, calm, conditions, laid).
  DERIVED. THE GIVEN ROWS OF THIS SEAT. 5 by the template 'for every input the law returns true; each argument reads behind the call as it read before'; 0 by the template 'total and deterministic' (their statements: YtcnoooodnmjdmaaTotals.lean).
  GIVEN WITH THE SEED: the statements are not yours to turn. If you find one false, say at which input.
  Laid BY PROGRAM, IN A SANDBOX (cutbox-rows.mjs): the forced cells as the released guide's own fill.sh prints them over the translation 3fc41ac7716b94ca… (all of the seat's roots in one cut). By AI agents, Wed Nov 11 2026. No macro, syntax, notation, axiom, sorry.
-/
import Derived.Test.YtcnoooodnmjdmaaChecked
import GoSem.Claim
import GoSem.ClaimJoined
import GoSem.ClaimMapViews
import Derived.JoinedTies
import Derived.KernelRfl
namespace Go.Proofs.Ytcnoooodnmjdmaa
/- THE CELL 'sum', in the pinned program and in every row, IS THE sha256 OF THE DUMP (.gsa) THAT YtcnoooodnmjdmaaProg.lean LOADS. Nothing in Lean hashes anything: it is a label: what it is worth is what the hold of that sum in a sandbox is worth. -/
noncomputable def Try.pinned : Pinned := { name := "ytcnoooodnmjdmaa", sum := "3fc41ac7716b94ca10406864a2ebe5e4b2f94a8b782fe2cc7dc441f413e3ee47", checked := Try.checked }
namespace Rows
def none {H : Type} : Left H := { results := [], args := [] }

/-- 'shroudlaw19.OrderRight': WHATEVER THE INPUT: true; the input reads as it did. -/
def orderRightSpec : ChangeSpec := { name := "orderRight", fn := fun _ => fun
  | [d1, d2, d3, d4] => { results := [.lit (.bool true)], args := [d1, d2, d3, d4] }
  | _ => none }
def orderRightRow : OpenClaim := { program := "ytcnoooodnmjdmaa", sum := "3fc41ac7716b94ca10406864a2ebe5e4b2f94a8b782fe2cc7dc441f413e3ee47", func := "shroud/shroudlaw19.OrderRight", spec := "orderRight", unfollowed := true, recurses := true, apart := false }
def OrderRightSaid : Prop := orderRightRow.holds Try.pinned (OpenSpec.ofChange orderRightSpec)

/-- ITS FALSE NEIGHBOUR: 'it returns false'. Refute it at one input. -/
def orderRightWrong : ChangeSpec := { name := "orderRight", fn := fun _ => fun
  | [d1, d2, d3, d4] => { results := [.lit (.bool false)], args := [d1, d2, d3, d4] }
  | _ => none }
def OrderRightWrongFalsely : Prop := orderRightRow.holds Try.pinned (OpenSpec.ofChange orderRightWrong)

/-- 'shroudlaw19.OrderNonces': WHATEVER THE INPUT: true; the input reads as it did. -/
def orderNoncesSpec : ChangeSpec := { name := "orderNonces", fn := fun _ => fun
  | [d1, d2, d3] => { results := [.lit (.bool true)], args := [d1, d2, d3] }
  | _ => none }
def orderNoncesRow : OpenClaim := { program := "ytcnoooodnmjdmaa", sum := "3fc41ac7716b94ca10406864a2ebe5e4b2f94a8b782fe2cc7dc441f413e3ee47", func := "shroud/shroudlaw19.OrderNonces", spec := "orderNonces", unfollowed := true, recurses := true, apart := false }
def OrderNoncesSaid : Prop := orderNoncesRow.holds Try.pinned (OpenSpec.ofChange orderNoncesSpec)

/-- ITS FALSE NEIGHBOUR: 'it returns false'. Refute it at one input. -/
def orderNoncesWrong : ChangeSpec := { name := "orderNonces", fn := fun _ => fun
  | [d1, d2, d3] => { results := [.lit (.bool false)], args := [d1, d2, d3] }
  | _ => none }
def OrderNoncesWrongFalsely : Prop := orderNoncesRow.holds Try.pinned (OpenSpec.ofChange orderNoncesWrong)

/-- 'shroudlaw19.OrderTurned': WHATEVER THE INPUT: true; the input reads as it did. -/
def orderTurnedSpec : ChangeSpec := { name := "orderTurned", fn := fun _ => fun
  | [d1, d2, d3] => { results := [.lit (.bool true)], args := [d1, d2, d3] }
  | _ => none }
def orderTurnedRow : OpenClaim := { program := "ytcnoooodnmjdmaa", sum := "3fc41ac7716b94ca10406864a2ebe5e4b2f94a8b782fe2cc7dc441f413e3ee47", func := "shroud/shroudlaw19.OrderTurned", spec := "orderTurned", unfollowed := true, recurses := true, apart := false }
def OrderTurnedSaid : Prop := orderTurnedRow.holds Try.pinned (OpenSpec.ofChange orderTurnedSpec)

/-- ITS FALSE NEIGHBOUR: 'it returns false'. Refute it at one input. -/
def orderTurnedWrong : ChangeSpec := { name := "orderTurned", fn := fun _ => fun
  | [d1, d2, d3] => { results := [.lit (.bool false)], args := [d1, d2, d3] }
  | _ => none }
def OrderTurnedWrongFalsely : Prop := orderTurnedRow.holds Try.pinned (OpenSpec.ofChange orderTurnedWrong)

/-- 'shroudlaw19.OrderGreedy': WHATEVER THE INPUT: true; the input reads as it did. -/
def orderGreedySpec : ChangeSpec := { name := "orderGreedy", fn := fun _ => fun
  | [d1, d2] => { results := [.lit (.bool true)], args := [d1, d2] }
  | _ => none }
def orderGreedyRow : OpenClaim := { program := "ytcnoooodnmjdmaa", sum := "3fc41ac7716b94ca10406864a2ebe5e4b2f94a8b782fe2cc7dc441f413e3ee47", func := "shroud/shroudlaw19.OrderGreedy", spec := "orderGreedy", unfollowed := true, recurses := true, apart := false }
def OrderGreedySaid : Prop := orderGreedyRow.holds Try.pinned (OpenSpec.ofChange orderGreedySpec)

/-- ITS FALSE NEIGHBOUR: 'it returns false'. Refute it at one input. -/
def orderGreedyWrong : ChangeSpec := { name := "orderGreedy", fn := fun _ => fun
  | [d1, d2] => { results := [.lit (.bool false)], args := [d1, d2] }
  | _ => none }
def OrderGreedyWrongFalsely : Prop := orderGreedyRow.holds Try.pinned (OpenSpec.ofChange orderGreedyWrong)

/-- 'shroudlaw19.OrderBlind': WHATEVER THE INPUT: true; the input reads as it did. -/
def orderBlindSpec : ChangeSpec := { name := "orderBlind", fn := fun _ => fun
  | [d1, d2, d3, d4, d5] => { results := [.lit (.bool true)], args := [d1, d2, d3, d4, d5] }
  | _ => none }
def orderBlindRow : OpenClaim := { program := "ytcnoooodnmjdmaa", sum := "3fc41ac7716b94ca10406864a2ebe5e4b2f94a8b782fe2cc7dc441f413e3ee47", func := "shroud/shroudlaw19.OrderBlind", spec := "orderBlind", unfollowed := true, recurses := true, apart := false }
def OrderBlindSaid : Prop := orderBlindRow.holds Try.pinned (OpenSpec.ofChange orderBlindSpec)

/-- ITS FALSE NEIGHBOUR: 'it returns false'. Refute it at one input. -/
def orderBlindWrong : ChangeSpec := { name := "orderBlind", fn := fun _ => fun
  | [d1, d2, d3, d4, d5] => { results := [.lit (.bool false)], args := [d1, d2, d3, d4, d5] }
  | _ => none }
def OrderBlindWrongFalsely : Prop := orderBlindRow.holds Try.pinned (OpenSpec.ofChange orderBlindWrong)

/- THE SECOND FORM. 'bulk': how many values and letters a reading holds, each counted each time it is reached (what is shared counts as often as it is met; a slice's spare places count too). A statement '..UptoSaid' is the law's where the arguments, and the package variables that the reading takes, are together of bulk at most 1048576: NARROWER than '..Said'. Prove '..Said' where nothing that the law and all that it calls make is longer than what came in: it says more and counts as full. Else prove '..UptoSaid'. A law counts once. -/
mutual
def uptoBulk {H : Type} : DataW H → Nat
  | .lit (.string bytes) => bytes.length + 1
  | .lit _ => 1
  | .nil => 1
  | .ptr d => uptoBulk d + 1
  | .slice elems spare => uptoBulkAll elems + uptoBulkAll spare + 1
  | .agg parts => uptoBulkAll parts + 1
  | .iface _ d => uptoBulk d + 1
  | .map entries => uptoBulkEntries entries + 1
  | .held _ => 1
def uptoBulkAll {H : Type} : List (DataW H) → Nat
  | [] => 0
  | d :: r => uptoBulk d + uptoBulkAll r
def uptoBulkEntries {H : Type} : List (Lit × DataW H) → Nat
  | [] => 0
  | x :: r => uptoBulkEntry x + uptoBulkEntries r
def uptoBulkEntry {H : Type} : Lit × DataW H → Nat
  | (.string bytes, d) => bytes.length + uptoBulk d + 1
  | (_, d) => uptoBulk d + 1
 end
def uptoSmall : (H : Type) → List (DataW H) → Bool := fun _ ds => decide (uptoBulkAll ds ≤ 1048576)
def OpenSpec.upto (s : _root_.Go.ChangeSpec) : _root_.Go.OpenSpec := { _root_.Go.OpenSpec.ofChange s with cond := some uptoSmall }

/-- 'shroudlaw19.OrderRight', WHERE WHAT IT READS IS OF BULK AT MOST 1048576: true; the input reads as it did. -/
def orderRightUptoRow : OpenClaim := { program := "ytcnoooodnmjdmaa", sum := "3fc41ac7716b94ca10406864a2ebe5e4b2f94a8b782fe2cc7dc441f413e3ee47", func := "shroud/shroudlaw19.OrderRight", spec := "orderRight", unfollowed := true, recurses := true, apart := false, narrowed := true }
def OrderRightUptoSaid : Prop := orderRightUptoRow.holds Try.pinned (OpenSpec.upto orderRightSpec)

/-- 'shroudlaw19.OrderNonces', WHERE WHAT IT READS IS OF BULK AT MOST 1048576: true; the input reads as it did. -/
def orderNoncesUptoRow : OpenClaim := { program := "ytcnoooodnmjdmaa", sum := "3fc41ac7716b94ca10406864a2ebe5e4b2f94a8b782fe2cc7dc441f413e3ee47", func := "shroud/shroudlaw19.OrderNonces", spec := "orderNonces", unfollowed := true, recurses := true, apart := false, narrowed := true }
def OrderNoncesUptoSaid : Prop := orderNoncesUptoRow.holds Try.pinned (OpenSpec.upto orderNoncesSpec)

/-- 'shroudlaw19.OrderTurned', WHERE WHAT IT READS IS OF BULK AT MOST 1048576: true; the input reads as it did. -/
def orderTurnedUptoRow : OpenClaim := { program := "ytcnoooodnmjdmaa", sum := "3fc41ac7716b94ca10406864a2ebe5e4b2f94a8b782fe2cc7dc441f413e3ee47", func := "shroud/shroudlaw19.OrderTurned", spec := "orderTurned", unfollowed := true, recurses := true, apart := false, narrowed := true }
def OrderTurnedUptoSaid : Prop := orderTurnedUptoRow.holds Try.pinned (OpenSpec.upto orderTurnedSpec)

/-- 'shroudlaw19.OrderGreedy', WHERE WHAT IT READS IS OF BULK AT MOST 1048576: true; the input reads as it did. -/
def orderGreedyUptoRow : OpenClaim := { program := "ytcnoooodnmjdmaa", sum := "3fc41ac7716b94ca10406864a2ebe5e4b2f94a8b782fe2cc7dc441f413e3ee47", func := "shroud/shroudlaw19.OrderGreedy", spec := "orderGreedy", unfollowed := true, recurses := true, apart := false, narrowed := true }
def OrderGreedyUptoSaid : Prop := orderGreedyUptoRow.holds Try.pinned (OpenSpec.upto orderGreedySpec)

/-- 'shroudlaw19.OrderBlind', WHERE WHAT IT READS IS OF BULK AT MOST 1048576: true; the input reads as it did. -/
def orderBlindUptoRow : OpenClaim := { program := "ytcnoooodnmjdmaa", sum := "3fc41ac7716b94ca10406864a2ebe5e4b2f94a8b782fe2cc7dc441f413e3ee47", func := "shroud/shroudlaw19.OrderBlind", spec := "orderBlind", unfollowed := true, recurses := true, apart := false, narrowed := true }
def OrderBlindUptoSaid : Prop := orderBlindUptoRow.holds Try.pinned (OpenSpec.upto orderBlindSpec)

end Rows
end Go.Proofs.Ytcnoooodnmjdmaa
