/-
  No cell of these rows narrows 'for every input' (looked for: loops, veiled, ifaces, maps, wideKeys, modest, calm, conditions, laid).
  DERIVED. THE GIVEN ROWS OF THIS SEAT. 12 by the template 'for every input the law returns true; each argument reads behind the call as it read before'; 0 by the template 'total and deterministic' (their statements: YtbdnhoddkdiogaaTotals.lean).
  GIVEN WITH THE SEED: the statements are not yours to turn. If you find one false, say at which input.
  Laid BY PROGRAM, IN A SANDBOX (cutbox-rows.mjs): the forced cells as the released guide's own fill.sh prints them over the translation 12ee42c470e8bd65… (all of the seat's roots in one cut). By AI agents, Wed Nov 11 2026. No macro, syntax, notation, axiom, sorry.
-/
import Derived.Test.YtbdnhoddkdiogaaChecked
import GoSem.Claim
import GoSem.ClaimJoined
import GoSem.ClaimMapViews
import Derived.JoinedTies
import Derived.KernelRfl
namespace Go.Proofs.Ytbdnhoddkdiogaa
/- THE CELL 'sum', in the pinned program and in every row, IS THE sha256 OF THE DUMP (.gsa) THAT YtbdnhoddkdiogaaProg.lean LOADS. Nothing in Lean hashes anything: it is a label: what it is worth is what the hold of that sum in a sandbox is worth. -/
noncomputable def Try.pinned : Pinned := { name := "ytbdnhoddkdiogaa", sum := "12ee42c470e8bd6536e0b014e90580ecd9f4243a6cf17b4c9a21f43f3176e852", checked := Try.checked }
namespace Rows
def none {H : Type} : Left H := { results := [], args := [] }

/-- 'shroudlaw10.ShaDigests': WHATEVER THE INPUT: true; the input reads as it did. -/
def shaDigestsSpec : ChangeSpec := { name := "shaDigests", fn := fun _ => fun
  | [d] => { results := [.lit (.bool true)], args := [d] }
  | _ => none }
def shaDigestsRow : OpenClaim := { program := "ytbdnhoddkdiogaa", sum := "12ee42c470e8bd6536e0b014e90580ecd9f4243a6cf17b4c9a21f43f3176e852", func := "shroud/shroudlaw10.ShaDigests", spec := "shaDigests", inPlace := ["internal/bytealg.Compare"], apart := false }
def ShaDigestsSaid : Prop := shaDigestsRow.holds Try.pinned (OpenSpec.ofChange shaDigestsSpec)

/-- ITS FALSE NEIGHBOUR: 'it returns false'. Refute it at one input. -/
def shaDigestsWrong : ChangeSpec := { name := "shaDigests", fn := fun _ => fun
  | [d] => { results := [.lit (.bool false)], args := [d] }
  | _ => none }
def ShaDigestsWrongFalsely : Prop := shaDigestsRow.holds Try.pinned (OpenSpec.ofChange shaDigestsWrong)

/-- 'shroudlaw10.ShaHex': WHATEVER THE INPUT: true; the input reads as it did. -/
def shaHexSpec : ChangeSpec := { name := "shaHex", fn := fun _ => fun
  | [d] => { results := [.lit (.bool true)], args := [d] }
  | _ => none }
def shaHexRow : OpenClaim := { program := "ytbdnhoddkdiogaa", sum := "12ee42c470e8bd6536e0b014e90580ecd9f4243a6cf17b4c9a21f43f3176e852", func := "shroud/shroudlaw10.ShaHex", spec := "shaHex", inPlace := ["internal/bytealg.Compare"], apart := false }
def ShaHexSaid : Prop := shaHexRow.holds Try.pinned (OpenSpec.ofChange shaHexSpec)

/-- ITS FALSE NEIGHBOUR: 'it returns false'. Refute it at one input. -/
def shaHexWrong : ChangeSpec := { name := "shaHex", fn := fun _ => fun
  | [d] => { results := [.lit (.bool false)], args := [d] }
  | _ => none }
def ShaHexWrongFalsely : Prop := shaHexRow.holds Try.pinned (OpenSpec.ofChange shaHexWrong)

/-- 'shroudlaw10.ShaLess': WHATEVER THE INPUT: true; the input reads as it did. -/
def shaLessSpec : ChangeSpec := { name := "shaLess", fn := fun _ => fun
  | [d1, d2, d3] => { results := [.lit (.bool true)], args := [d1, d2, d3] }
  | _ => none }
def shaLessRow : OpenClaim := { program := "ytbdnhoddkdiogaa", sum := "12ee42c470e8bd6536e0b014e90580ecd9f4243a6cf17b4c9a21f43f3176e852", func := "shroud/shroudlaw10.ShaLess", spec := "shaLess", inPlace := ["internal/bytealg.Compare"], apart := false }
def ShaLessSaid : Prop := shaLessRow.holds Try.pinned (OpenSpec.ofChange shaLessSpec)

/-- ITS FALSE NEIGHBOUR: 'it returns false'. Refute it at one input. -/
def shaLessWrong : ChangeSpec := { name := "shaLess", fn := fun _ => fun
  | [d1, d2, d3] => { results := [.lit (.bool false)], args := [d1, d2, d3] }
  | _ => none }
def ShaLessWrongFalsely : Prop := shaLessRow.holds Try.pinned (OpenSpec.ofChange shaLessWrong)

/-- 'shroudlaw10.ShaHexes': WHATEVER THE INPUT: true; the input reads as it did. -/
def shaHexesSpec : ChangeSpec := { name := "shaHexes", fn := fun _ => fun
  | [d1, d2] => { results := [.lit (.bool true)], args := [d1, d2] }
  | _ => none }
def shaHexesRow : OpenClaim := { program := "ytbdnhoddkdiogaa", sum := "12ee42c470e8bd6536e0b014e90580ecd9f4243a6cf17b4c9a21f43f3176e852", func := "shroud/shroudlaw10.ShaHexes", spec := "shaHexes", inPlace := ["internal/bytealg.Compare"], apart := false }
def ShaHexesSaid : Prop := shaHexesRow.holds Try.pinned (OpenSpec.ofChange shaHexesSpec)

/-- ITS FALSE NEIGHBOUR: 'it returns false'. Refute it at one input. -/
def shaHexesWrong : ChangeSpec := { name := "shaHexes", fn := fun _ => fun
  | [d1, d2] => { results := [.lit (.bool false)], args := [d1, d2] }
  | _ => none }
def ShaHexesWrongFalsely : Prop := shaHexesRow.holds Try.pinned (OpenSpec.ofChange shaHexesWrong)

/-- 'shroudlaw10.ShaParts': WHATEVER THE INPUT: true; the input reads as it did. -/
def shaPartsSpec : ChangeSpec := { name := "shaParts", fn := fun _ => fun
  | [d1, d2] => { results := [.lit (.bool true)], args := [d1, d2] }
  | _ => none }
def shaPartsRow : OpenClaim := { program := "ytbdnhoddkdiogaa", sum := "12ee42c470e8bd6536e0b014e90580ecd9f4243a6cf17b4c9a21f43f3176e852", func := "shroud/shroudlaw10.ShaParts", spec := "shaParts", inPlace := ["internal/bytealg.Compare"], apart := false }
def ShaPartsSaid : Prop := shaPartsRow.holds Try.pinned (OpenSpec.ofChange shaPartsSpec)

/-- ITS FALSE NEIGHBOUR: 'it returns false'. Refute it at one input. -/
def shaPartsWrong : ChangeSpec := { name := "shaParts", fn := fun _ => fun
  | [d1, d2] => { results := [.lit (.bool false)], args := [d1, d2] }
  | _ => none }
def ShaPartsWrongFalsely : Prop := shaPartsRow.holds Try.pinned (OpenSpec.ofChange shaPartsWrong)

/-- 'shroudlaw10.ShaOwn': WHATEVER THE INPUT: true; the input reads as it did. -/
def shaOwnSpec : ChangeSpec := { name := "shaOwn", fn := fun _ => fun
  | [d1, d2] => { results := [.lit (.bool true)], args := [d1, d2] }
  | _ => none }
def shaOwnRow : OpenClaim := { program := "ytbdnhoddkdiogaa", sum := "12ee42c470e8bd6536e0b014e90580ecd9f4243a6cf17b4c9a21f43f3176e852", func := "shroud/shroudlaw10.ShaOwn", spec := "shaOwn", inPlace := ["internal/bytealg.Compare"], apart := false }
def ShaOwnSaid : Prop := shaOwnRow.holds Try.pinned (OpenSpec.ofChange shaOwnSpec)

/-- ITS FALSE NEIGHBOUR: 'it returns false'. Refute it at one input. -/
def shaOwnWrong : ChangeSpec := { name := "shaOwn", fn := fun _ => fun
  | [d1, d2] => { results := [.lit (.bool false)], args := [d1, d2] }
  | _ => none }
def ShaOwnWrongFalsely : Prop := shaOwnRow.holds Try.pinned (OpenSpec.ofChange shaOwnWrong)

/-- 'shroudlaw11.MerkleTells': WHATEVER THE INPUT: true; the input reads as it did. -/
def merkleTellsSpec : ChangeSpec := { name := "merkleTells", fn := fun _ => fun
  | [d1, d2] => { results := [.lit (.bool true)], args := [d1, d2] }
  | _ => none }
def merkleTellsRow : OpenClaim := { program := "ytbdnhoddkdiogaa", sum := "12ee42c470e8bd6536e0b014e90580ecd9f4243a6cf17b4c9a21f43f3176e852", func := "shroud/shroudlaw11.MerkleTells", spec := "merkleTells", recurses := true, apart := false }
def MerkleTellsSaid : Prop := merkleTellsRow.holds Try.pinned (OpenSpec.ofChange merkleTellsSpec)

/-- ITS FALSE NEIGHBOUR: 'it returns false'. Refute it at one input. -/
def merkleTellsWrong : ChangeSpec := { name := "merkleTells", fn := fun _ => fun
  | [d1, d2] => { results := [.lit (.bool false)], args := [d1, d2] }
  | _ => none }
def MerkleTellsWrongFalsely : Prop := merkleTellsRow.holds Try.pinned (OpenSpec.ofChange merkleTellsWrong)

/-- 'shroudlaw11.MerkleJudges': WHATEVER THE INPUT: true; the input reads as it did. -/
def merkleJudgesSpec : ChangeSpec := { name := "merkleJudges", fn := fun _ => fun
  | [d1, d2, d3, d4, d5, d6] => { results := [.lit (.bool true)], args := [d1, d2, d3, d4, d5, d6] }
  | _ => none }
def merkleJudgesRow : OpenClaim := { program := "ytbdnhoddkdiogaa", sum := "12ee42c470e8bd6536e0b014e90580ecd9f4243a6cf17b4c9a21f43f3176e852", func := "shroud/shroudlaw11.MerkleJudges", spec := "merkleJudges", recurses := true, apart := false }
def MerkleJudgesSaid : Prop := merkleJudgesRow.holds Try.pinned (OpenSpec.ofChange merkleJudgesSpec)

/-- ITS FALSE NEIGHBOUR: 'it returns false'. Refute it at one input. -/
def merkleJudgesWrong : ChangeSpec := { name := "merkleJudges", fn := fun _ => fun
  | [d1, d2, d3, d4, d5, d6] => { results := [.lit (.bool false)], args := [d1, d2, d3, d4, d5, d6] }
  | _ => none }
def MerkleJudgesWrongFalsely : Prop := merkleJudgesRow.holds Try.pinned (OpenSpec.ofChange merkleJudgesWrong)

/-- 'shroudlaw11.MerkleShows': WHATEVER THE INPUT: true; the input reads as it did. -/
def merkleShowsSpec : ChangeSpec := { name := "merkleShows", fn := fun _ => fun
  | [d1, d2, d3] => { results := [.lit (.bool true)], args := [d1, d2, d3] }
  | _ => none }
def merkleShowsRow : OpenClaim := { program := "ytbdnhoddkdiogaa", sum := "12ee42c470e8bd6536e0b014e90580ecd9f4243a6cf17b4c9a21f43f3176e852", func := "shroud/shroudlaw11.MerkleShows", spec := "merkleShows", recurses := true, apart := false }
def MerkleShowsSaid : Prop := merkleShowsRow.holds Try.pinned (OpenSpec.ofChange merkleShowsSpec)

/-- ITS FALSE NEIGHBOUR: 'it returns false'. Refute it at one input. -/
def merkleShowsWrong : ChangeSpec := { name := "merkleShows", fn := fun _ => fun
  | [d1, d2, d3] => { results := [.lit (.bool false)], args := [d1, d2, d3] }
  | _ => none }
def MerkleShowsWrongFalsely : Prop := merkleShowsRow.holds Try.pinned (OpenSpec.ofChange merkleShowsWrong)

/-- 'shroudlaw11.MerkleBinds': WHATEVER THE INPUT: true; the input reads as it did. -/
def merkleBindsSpec : ChangeSpec := { name := "merkleBinds", fn := fun _ => fun
  | [d1, d2, d3, d4, d5, d6] => { results := [.lit (.bool true)], args := [d1, d2, d3, d4, d5, d6] }
  | _ => none }
def merkleBindsRow : OpenClaim := { program := "ytbdnhoddkdiogaa", sum := "12ee42c470e8bd6536e0b014e90580ecd9f4243a6cf17b4c9a21f43f3176e852", func := "shroud/shroudlaw11.MerkleBinds", spec := "merkleBinds", recurses := true, apart := false }
def MerkleBindsSaid : Prop := merkleBindsRow.holds Try.pinned (OpenSpec.ofChange merkleBindsSpec)

/-- ITS FALSE NEIGHBOUR: 'it returns false'. Refute it at one input. -/
def merkleBindsWrong : ChangeSpec := { name := "merkleBinds", fn := fun _ => fun
  | [d1, d2, d3, d4, d5, d6] => { results := [.lit (.bool false)], args := [d1, d2, d3, d4, d5, d6] }
  | _ => none }
def MerkleBindsWrongFalsely : Prop := merkleBindsRow.holds Try.pinned (OpenSpec.ofChange merkleBindsWrong)

/-- 'shroudlaw11.MerkleChanges': WHATEVER THE INPUT: true; the input reads as it did. -/
def merkleChangesSpec : ChangeSpec := { name := "merkleChanges", fn := fun _ => fun
  | [d1, d2, d3] => { results := [.lit (.bool true)], args := [d1, d2, d3] }
  | _ => none }
def merkleChangesRow : OpenClaim := { program := "ytbdnhoddkdiogaa", sum := "12ee42c470e8bd6536e0b014e90580ecd9f4243a6cf17b4c9a21f43f3176e852", func := "shroud/shroudlaw11.MerkleChanges", spec := "merkleChanges", recurses := true, apart := false }
def MerkleChangesSaid : Prop := merkleChangesRow.holds Try.pinned (OpenSpec.ofChange merkleChangesSpec)

/-- ITS FALSE NEIGHBOUR: 'it returns false'. Refute it at one input. -/
def merkleChangesWrong : ChangeSpec := { name := "merkleChanges", fn := fun _ => fun
  | [d1, d2, d3] => { results := [.lit (.bool false)], args := [d1, d2, d3] }
  | _ => none }
def MerkleChangesWrongFalsely : Prop := merkleChangesRow.holds Try.pinned (OpenSpec.ofChange merkleChangesWrong)

/-- 'shroudlaw11.MerkleGrows': WHATEVER THE INPUT: true; the input reads as it did. -/
def merkleGrowsSpec : ChangeSpec := { name := "merkleGrows", fn := fun _ => fun
  | [d1, d2] => { results := [.lit (.bool true)], args := [d1, d2] }
  | _ => none }
def merkleGrowsRow : OpenClaim := { program := "ytbdnhoddkdiogaa", sum := "12ee42c470e8bd6536e0b014e90580ecd9f4243a6cf17b4c9a21f43f3176e852", func := "shroud/shroudlaw11.MerkleGrows", spec := "merkleGrows", unfollowed := true, recurses := true, apart := false }
def MerkleGrowsSaid : Prop := merkleGrowsRow.holds Try.pinned (OpenSpec.ofChange merkleGrowsSpec)

/-- ITS FALSE NEIGHBOUR: 'it returns false'. Refute it at one input. -/
def merkleGrowsWrong : ChangeSpec := { name := "merkleGrows", fn := fun _ => fun
  | [d1, d2] => { results := [.lit (.bool false)], args := [d1, d2] }
  | _ => none }
def MerkleGrowsWrongFalsely : Prop := merkleGrowsRow.holds Try.pinned (OpenSpec.ofChange merkleGrowsWrong)

/- THE SECOND FORM. 'bulk': how many values and letters a reading holds, each counted each time it is reached (what is shared counts as often as it is met; a slice's spare places count too). A statement '..UptoSaid' is the law's where the arguments, and the package variables that the reading takes, are together of bulk at most 1048576: NARROWER than '..Said'. Prove '..Said' where nothing that the law and all that it calls make is longer than what came in: it says more and counts as full. Else prove '..UptoSaid'. A law counts once. -/
mutual
def uptoBulk {H : Type} : DataW H → Nat
  | .lit (.string bytes) => bytes.length + 1
  | .lit _ => 1
  | .nil => 1
  | .ptr d => uptoBulk d + 1
  | .slice elems spare => uptoBulkAll elems + uptoBulkAll spare + 1
  | .agg parts => uptoBulkAll parts + 1
  | .iface _ d => uptoBulk d + 1
  | .map entries => uptoBulkEntries entries + 1
  | .held _ => 1
def uptoBulkAll {H : Type} : List (DataW H) → Nat
  | [] => 0
  | d :: r => uptoBulk d + uptoBulkAll r
def uptoBulkEntries {H : Type} : List (Lit × DataW H) → Nat
  | [] => 0
  | x :: r => uptoBulkEntry x + uptoBulkEntries r
def uptoBulkEntry {H : Type} : Lit × DataW H → Nat
  | (.string bytes, d) => bytes.length + uptoBulk d + 1
  | (_, d) => uptoBulk d + 1
 end
def uptoSmall : (H : Type) → List (DataW H) → Bool := fun _ ds => decide (uptoBulkAll ds ≤ 1048576)
def OpenSpec.upto (s : _root_.Go.ChangeSpec) : _root_.Go.OpenSpec := { _root_.Go.OpenSpec.ofChange s with cond := some uptoSmall }

/-- 'shroudlaw10.ShaDigests', WHERE WHAT IT READS IS OF BULK AT MOST 1048576: true; the input reads as it did. -/
def shaDigestsUptoRow : OpenClaim := { program := "ytbdnhoddkdiogaa", sum := "12ee42c470e8bd6536e0b014e90580ecd9f4243a6cf17b4c9a21f43f3176e852", func := "shroud/shroudlaw10.ShaDigests", spec := "shaDigests", inPlace := ["internal/bytealg.Compare"], apart := false, narrowed := true }
def ShaDigestsUptoSaid : Prop := shaDigestsUptoRow.holds Try.pinned (OpenSpec.upto shaDigestsSpec)

/-- 'shroudlaw10.ShaHex', WHERE WHAT IT READS IS OF BULK AT MOST 1048576: true; the input reads as it did. -/
def shaHexUptoRow : OpenClaim := { program := "ytbdnhoddkdiogaa", sum := "12ee42c470e8bd6536e0b014e90580ecd9f4243a6cf17b4c9a21f43f3176e852", func := "shroud/shroudlaw10.ShaHex", spec := "shaHex", inPlace := ["internal/bytealg.Compare"], apart := false, narrowed := true }
def ShaHexUptoSaid : Prop := shaHexUptoRow.holds Try.pinned (OpenSpec.upto shaHexSpec)

/-- 'shroudlaw10.ShaLess', WHERE WHAT IT READS IS OF BULK AT MOST 1048576: true; the input reads as it did. -/
def shaLessUptoRow : OpenClaim := { program := "ytbdnhoddkdiogaa", sum := "12ee42c470e8bd6536e0b014e90580ecd9f4243a6cf17b4c9a21f43f3176e852", func := "shroud/shroudlaw10.ShaLess", spec := "shaLess", inPlace := ["internal/bytealg.Compare"], apart := false, narrowed := true }
def ShaLessUptoSaid : Prop := shaLessUptoRow.holds Try.pinned (OpenSpec.upto shaLessSpec)

/-- 'shroudlaw10.ShaHexes', WHERE WHAT IT READS IS OF BULK AT MOST 1048576: true; the input reads as it did. -/
def shaHexesUptoRow : OpenClaim := { program := "ytbdnhoddkdiogaa", sum := "12ee42c470e8bd6536e0b014e90580ecd9f4243a6cf17b4c9a21f43f3176e852", func := "shroud/shroudlaw10.ShaHexes", spec := "shaHexes", inPlace := ["internal/bytealg.Compare"], apart := false, narrowed := true }
def ShaHexesUptoSaid : Prop := shaHexesUptoRow.holds Try.pinned (OpenSpec.upto shaHexesSpec)

/-- 'shroudlaw10.ShaParts', WHERE WHAT IT READS IS OF BULK AT MOST 1048576: true; the input reads as it did. -/
def shaPartsUptoRow : OpenClaim := { program := "ytbdnhoddkdiogaa", sum := "12ee42c470e8bd6536e0b014e90580ecd9f4243a6cf17b4c9a21f43f3176e852", func := "shroud/shroudlaw10.ShaParts", spec := "shaParts", inPlace := ["internal/bytealg.Compare"], apart := false, narrowed := true }
def ShaPartsUptoSaid : Prop := shaPartsUptoRow.holds Try.pinned (OpenSpec.upto shaPartsSpec)

/-- 'shroudlaw10.ShaOwn', WHERE WHAT IT READS IS OF BULK AT MOST 1048576: true; the input reads as it did. -/
def shaOwnUptoRow : OpenClaim := { program := "ytbdnhoddkdiogaa", sum := "12ee42c470e8bd6536e0b014e90580ecd9f4243a6cf17b4c9a21f43f3176e852", func := "shroud/shroudlaw10.ShaOwn", spec := "shaOwn", inPlace := ["internal/bytealg.Compare"], apart := false, narrowed := true }
def ShaOwnUptoSaid : Prop := shaOwnUptoRow.holds Try.pinned (OpenSpec.upto shaOwnSpec)

/-- 'shroudlaw11.MerkleTells', WHERE WHAT IT READS IS OF BULK AT MOST 1048576: true; the input reads as it did. -/
def merkleTellsUptoRow : OpenClaim := { program := "ytbdnhoddkdiogaa", sum := "12ee42c470e8bd6536e0b014e90580ecd9f4243a6cf17b4c9a21f43f3176e852", func := "shroud/shroudlaw11.MerkleTells", spec := "merkleTells", recurses := true, apart := false, narrowed := true }
def MerkleTellsUptoSaid : Prop := merkleTellsUptoRow.holds Try.pinned (OpenSpec.upto merkleTellsSpec)

/-- 'shroudlaw11.MerkleJudges', WHERE WHAT IT READS IS OF BULK AT MOST 1048576: true; the input reads as it did. -/
def merkleJudgesUptoRow : OpenClaim := { program := "ytbdnhoddkdiogaa", sum := "12ee42c470e8bd6536e0b014e90580ecd9f4243a6cf17b4c9a21f43f3176e852", func := "shroud/shroudlaw11.MerkleJudges", spec := "merkleJudges", recurses := true, apart := false, narrowed := true }
def MerkleJudgesUptoSaid : Prop := merkleJudgesUptoRow.holds Try.pinned (OpenSpec.upto merkleJudgesSpec)

/-- 'shroudlaw11.MerkleShows', WHERE WHAT IT READS IS OF BULK AT MOST 1048576: true; the input reads as it did. -/
def merkleShowsUptoRow : OpenClaim := { program := "ytbdnhoddkdiogaa", sum := "12ee42c470e8bd6536e0b014e90580ecd9f4243a6cf17b4c9a21f43f3176e852", func := "shroud/shroudlaw11.MerkleShows", spec := "merkleShows", recurses := true, apart := false, narrowed := true }
def MerkleShowsUptoSaid : Prop := merkleShowsUptoRow.holds Try.pinned (OpenSpec.upto merkleShowsSpec)

/-- 'shroudlaw11.MerkleBinds', WHERE WHAT IT READS IS OF BULK AT MOST 1048576: true; the input reads as it did. -/
def merkleBindsUptoRow : OpenClaim := { program := "ytbdnhoddkdiogaa", sum := "12ee42c470e8bd6536e0b014e90580ecd9f4243a6cf17b4c9a21f43f3176e852", func := "shroud/shroudlaw11.MerkleBinds", spec := "merkleBinds", recurses := true, apart := false, narrowed := true }
def MerkleBindsUptoSaid : Prop := merkleBindsUptoRow.holds Try.pinned (OpenSpec.upto merkleBindsSpec)

/-- 'shroudlaw11.MerkleChanges', WHERE WHAT IT READS IS OF BULK AT MOST 1048576: true; the input reads as it did. -/
def merkleChangesUptoRow : OpenClaim := { program := "ytbdnhoddkdiogaa", sum := "12ee42c470e8bd6536e0b014e90580ecd9f4243a6cf17b4c9a21f43f3176e852", func := "shroud/shroudlaw11.MerkleChanges", spec := "merkleChanges", recurses := true, apart := false, narrowed := true }
def MerkleChangesUptoSaid : Prop := merkleChangesUptoRow.holds Try.pinned (OpenSpec.upto merkleChangesSpec)

/-- 'shroudlaw11.MerkleGrows', WHERE WHAT IT READS IS OF BULK AT MOST 1048576: true; the input reads as it did. -/
def merkleGrowsUptoRow : OpenClaim := { program := "ytbdnhoddkdiogaa", sum := "12ee42c470e8bd6536e0b014e90580ecd9f4243a6cf17b4c9a21f43f3176e852", func := "shroud/shroudlaw11.MerkleGrows", spec := "merkleGrows", unfollowed := true, recurses := true, apart := false, narrowed := true }
def MerkleGrowsUptoSaid : Prop := merkleGrowsUptoRow.holds Try.pinned (OpenSpec.upto merkleGrowsSpec)

end Rows
end Go.Proofs.Ytbdnhoddkdiogaa
