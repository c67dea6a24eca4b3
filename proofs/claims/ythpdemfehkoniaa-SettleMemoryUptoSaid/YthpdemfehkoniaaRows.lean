/-
  No cell of these rows narrows 'for every input' (looked for: loops, veiled, ifaces, maps, wideKeys, modest, calm, conditions, laid).
  DERIVED. THE GIVEN ROWS OF THIS SEAT. 7 by the template 'for every input the law returns true; each argument reads behind the call as it read before'; 0 by the template 'total and deterministic' (their statements: YthpdemfehkoniaaTotals.lean).
  GIVEN WITH THE SEED: the statements are not yours to turn. If you find one false, say at which input.
  Laid BY PROGRAM, IN A SANDBOX (cutbox-rows.mjs): the forced cells as the released guide's own fill.sh prints them over the translation f9d655f0f8d62c01… (all of the seat's roots in one cut). By AI agents, Wed Nov 11 2026. No macro, syntax, notation, axiom, sorry.
-/
import Derived.Test.YthpdemfehkoniaaChecked
import GoSem.Claim
import GoSem.ClaimJoined
import GoSem.ClaimMapViews
import Derived.JoinedTies
import Derived.KernelRfl
namespace Go.Proofs.Ythpdemfehkoniaa
/- THE CELL 'sum', in the pinned program and in every row, IS THE sha256 OF THE DUMP (.gsa) THAT YthpdemfehkoniaaProg.lean LOADS. Nothing in Lean hashes anything: it is a label: what it is worth is what the hold of that sum in a sandbox is worth. -/
noncomputable def Try.pinned : Pinned := { name := "ythpdemfehkoniaa", sum := "f9d655f0f8d62c01a896ca18aab775a7579dc5fe37601b845fd71bb599b96995", checked := Try.checked }
namespace Rows
def none {H : Type} : Left H := { results := [], args := [] }

/-- 'barrowlaw26.SettleOps': WHATEVER THE INPUT: true; the input reads as it did. -/
def settleOpsSpec : ChangeSpec := { name := "settleOps", fn := fun _ => fun
  | [d1, d2] => { results := [.lit (.bool true)], args := [d1, d2] }
  | _ => none }
def settleOpsRow : OpenClaim := { program := "ythpdemfehkoniaa", sum := "f9d655f0f8d62c01a896ca18aab775a7579dc5fe37601b845fd71bb599b96995", func := "barrow/barrowlaw26.SettleOps", spec := "settleOps", apart := false }
def SettleOpsSaid : Prop := settleOpsRow.holds Try.pinned (OpenSpec.ofChange settleOpsSpec)

/-- ITS FALSE NEIGHBOUR: 'it returns false'. Refute it at one input. -/
def settleOpsWrong : ChangeSpec := { name := "settleOps", fn := fun _ => fun
  | [d1, d2] => { results := [.lit (.bool false)], args := [d1, d2] }
  | _ => none }
def SettleOpsWrongFalsely : Prop := settleOpsRow.holds Try.pinned (OpenSpec.ofChange settleOpsWrong)

/-- 'barrowlaw26.SettlePairs': WHATEVER THE INPUT: true; the input reads as it did. -/
def settlePairsSpec : ChangeSpec := { name := "settlePairs", fn := fun _ => fun
  | [d] => { results := [.lit (.bool true)], args := [d] }
  | _ => none }
def settlePairsRow : OpenClaim := { program := "ythpdemfehkoniaa", sum := "f9d655f0f8d62c01a896ca18aab775a7579dc5fe37601b845fd71bb599b96995", func := "barrow/barrowlaw26.SettlePairs", spec := "settlePairs", apart := false }
def SettlePairsSaid : Prop := settlePairsRow.holds Try.pinned (OpenSpec.ofChange settlePairsSpec)

/-- ITS FALSE NEIGHBOUR: 'it returns false'. Refute it at one input. -/
def settlePairsWrong : ChangeSpec := { name := "settlePairs", fn := fun _ => fun
  | [d] => { results := [.lit (.bool false)], args := [d] }
  | _ => none }
def SettlePairsWrongFalsely : Prop := settlePairsRow.holds Try.pinned (OpenSpec.ofChange settlePairsWrong)

/-- 'barrowlaw26.SettleRounds': WHATEVER THE INPUT: true; the input reads as it did. -/
def settleRoundsSpec : ChangeSpec := { name := "settleRounds", fn := fun _ => fun
  | [d] => { results := [.lit (.bool true)], args := [d] }
  | _ => none }
def settleRoundsRow : OpenClaim := { program := "ythpdemfehkoniaa", sum := "f9d655f0f8d62c01a896ca18aab775a7579dc5fe37601b845fd71bb599b96995", func := "barrow/barrowlaw26.SettleRounds", spec := "settleRounds", apart := false }
def SettleRoundsSaid : Prop := settleRoundsRow.holds Try.pinned (OpenSpec.ofChange settleRoundsSpec)

/-- ITS FALSE NEIGHBOUR: 'it returns false'. Refute it at one input. -/
def settleRoundsWrong : ChangeSpec := { name := "settleRounds", fn := fun _ => fun
  | [d] => { results := [.lit (.bool false)], args := [d] }
  | _ => none }
def SettleRoundsWrongFalsely : Prop := settleRoundsRow.holds Try.pinned (OpenSpec.ofChange settleRoundsWrong)

/-- 'barrowlaw26.SettleReach': WHATEVER THE INPUT: true; the input reads as it did. -/
def settleReachSpec : ChangeSpec := { name := "settleReach", fn := fun _ => fun
  | [d1, d2] => { results := [.lit (.bool true)], args := [d1, d2] }
  | _ => none }
def settleReachRow : OpenClaim := { program := "ythpdemfehkoniaa", sum := "f9d655f0f8d62c01a896ca18aab775a7579dc5fe37601b845fd71bb599b96995", func := "barrow/barrowlaw26.SettleReach", spec := "settleReach", apart := false }
def SettleReachSaid : Prop := settleReachRow.holds Try.pinned (OpenSpec.ofChange settleReachSpec)

/-- ITS FALSE NEIGHBOUR: 'it returns false'. Refute it at one input. -/
def settleReachWrong : ChangeSpec := { name := "settleReach", fn := fun _ => fun
  | [d1, d2] => { results := [.lit (.bool false)], args := [d1, d2] }
  | _ => none }
def SettleReachWrongFalsely : Prop := settleReachRow.holds Try.pinned (OpenSpec.ofChange settleReachWrong)

/-- 'barrowlaw26.SettleReachGrows': WHATEVER THE INPUT: true; the input reads as it did. -/
def settleReachGrowsSpec : ChangeSpec := { name := "settleReachGrows", fn := fun _ => fun
  | [d1, d2, d3] => { results := [.lit (.bool true)], args := [d1, d2, d3] }
  | _ => none }
def settleReachGrowsRow : OpenClaim := { program := "ythpdemfehkoniaa", sum := "f9d655f0f8d62c01a896ca18aab775a7579dc5fe37601b845fd71bb599b96995", func := "barrow/barrowlaw26.SettleReachGrows", spec := "settleReachGrows", apart := false }
def SettleReachGrowsSaid : Prop := settleReachGrowsRow.holds Try.pinned (OpenSpec.ofChange settleReachGrowsSpec)

/-- ITS FALSE NEIGHBOUR: 'it returns false'. Refute it at one input. -/
def settleReachGrowsWrong : ChangeSpec := { name := "settleReachGrows", fn := fun _ => fun
  | [d1, d2, d3] => { results := [.lit (.bool false)], args := [d1, d2, d3] }
  | _ => none }
def SettleReachGrowsWrongFalsely : Prop := settleReachGrowsRow.holds Try.pinned (OpenSpec.ofChange settleReachGrowsWrong)

/-- 'barrowlaw26.SettleMemory': WHATEVER THE INPUT: true; the input reads as it did. -/
def settleMemorySpec : ChangeSpec := { name := "settleMemory", fn := fun _ => fun
  | [d] => { results := [.lit (.bool true)], args := [d] }
  | _ => none }
def settleMemoryRow : OpenClaim := { program := "ythpdemfehkoniaa", sum := "f9d655f0f8d62c01a896ca18aab775a7579dc5fe37601b845fd71bb599b96995", func := "barrow/barrowlaw26.SettleMemory", spec := "settleMemory", apart := false }
def SettleMemorySaid : Prop := settleMemoryRow.holds Try.pinned (OpenSpec.ofChange settleMemorySpec)

/-- ITS FALSE NEIGHBOUR: 'it returns false'. Refute it at one input. -/
def settleMemoryWrong : ChangeSpec := { name := "settleMemory", fn := fun _ => fun
  | [d] => { results := [.lit (.bool false)], args := [d] }
  | _ => none }
def SettleMemoryWrongFalsely : Prop := settleMemoryRow.holds Try.pinned (OpenSpec.ofChange settleMemoryWrong)

/-- 'barrowlaw26.SettleEnough': WHATEVER THE INPUT: true; the input reads as it did. -/
def settleEnoughSpec : ChangeSpec := { name := "settleEnough", fn := fun _ => fun
  | [d1, d2, d3] => { results := [.lit (.bool true)], args := [d1, d2, d3] }
  | _ => none }
def settleEnoughRow : OpenClaim := { program := "ythpdemfehkoniaa", sum := "f9d655f0f8d62c01a896ca18aab775a7579dc5fe37601b845fd71bb599b96995", func := "barrow/barrowlaw26.SettleEnough", spec := "settleEnough", apart := false }
def SettleEnoughSaid : Prop := settleEnoughRow.holds Try.pinned (OpenSpec.ofChange settleEnoughSpec)

/-- ITS FALSE NEIGHBOUR: 'it returns false'. Refute it at one input. -/
def settleEnoughWrong : ChangeSpec := { name := "settleEnough", fn := fun _ => fun
  | [d1, d2, d3] => { results := [.lit (.bool false)], args := [d1, d2, d3] }
  | _ => none }
def SettleEnoughWrongFalsely : Prop := settleEnoughRow.holds Try.pinned (OpenSpec.ofChange settleEnoughWrong)

/- THE SECOND FORM. 'bulk': how many values and letters a reading holds, each counted each time it is reached (what is shared counts as often as it is met; a slice's spare places count too). A statement '..UptoSaid' is the law's where the arguments, and the package variables that the reading takes, are together of bulk at most 1048576: NARROWER than '..Said'. Prove '..Said' where nothing that the law and all that it calls make is longer than what came in: it says more and counts as full. Else prove '..UptoSaid'. A law counts once. -/
mutual
def uptoBulk {H : Type} : DataW H → Nat
  | .lit (.string bytes) => bytes.length + 1
  | .lit _ => 1
  | .nil => 1
  | .ptr d => uptoBulk d + 1
  | .slice elems spare => uptoBulkAll elems + uptoBulkAll spare + 1
  | .agg parts => uptoBulkAll parts + 1
  | .iface _ d => uptoBulk d + 1
  | .map entries => uptoBulkEntries entries + 1
  | .held _ => 1
def uptoBulkAll {H : Type} : List (DataW H) → Nat
  | [] => 0
  | d :: r => uptoBulk d + uptoBulkAll r
def uptoBulkEntries {H : Type} : List (Lit × DataW H) → Nat
  | [] => 0
  | x :: r => uptoBulkEntry x + uptoBulkEntries r
def uptoBulkEntry {H : Type} : Lit × DataW H → Nat
  | (.string bytes, d) => bytes.length + uptoBulk d + 1
  | (_, d) => uptoBulk d + 1
 end
def uptoSmall : (H : Type) → List (DataW H) → Bool := fun _ ds => decide (uptoBulkAll ds ≤ 1048576)
def OpenSpec.upto (s : _root_.Go.ChangeSpec) : _root_.Go.OpenSpec := { _root_.Go.OpenSpec.ofChange s with cond := some uptoSmall }

/-- 'barrowlaw26.SettleOps', WHERE WHAT IT READS IS OF BULK AT MOST 1048576: true; the input reads as it did. -/
def settleOpsUptoRow : OpenClaim := { program := "ythpdemfehkoniaa", sum := "f9d655f0f8d62c01a896ca18aab775a7579dc5fe37601b845fd71bb599b96995", func := "barrow/barrowlaw26.SettleOps", spec := "settleOps", apart := false, narrowed := true }
def SettleOpsUptoSaid : Prop := settleOpsUptoRow.holds Try.pinned (OpenSpec.upto settleOpsSpec)

/-- 'barrowlaw26.SettlePairs', WHERE WHAT IT READS IS OF BULK AT MOST 1048576: true; the input reads as it did. -/
def settlePairsUptoRow : OpenClaim := { program := "ythpdemfehkoniaa", sum := "f9d655f0f8d62c01a896ca18aab775a7579dc5fe37601b845fd71bb599b96995", func := "barrow/barrowlaw26.SettlePairs", spec := "settlePairs", apart := false, narrowed := true }
def SettlePairsUptoSaid : Prop := settlePairsUptoRow.holds Try.pinned (OpenSpec.upto settlePairsSpec)

/-- 'barrowlaw26.SettleRounds', WHERE WHAT IT READS IS OF BULK AT MOST 1048576: true; the input reads as it did. -/
def settleRoundsUptoRow : OpenClaim := { program := "ythpdemfehkoniaa", sum := "f9d655f0f8d62c01a896ca18aab775a7579dc5fe37601b845fd71bb599b96995", func := "barrow/barrowlaw26.SettleRounds", spec := "settleRounds", apart := false, narrowed := true }
def SettleRoundsUptoSaid : Prop := settleRoundsUptoRow.holds Try.pinned (OpenSpec.upto settleRoundsSpec)

/-- 'barrowlaw26.SettleReach', WHERE WHAT IT READS IS OF BULK AT MOST 1048576: true; the input reads as it did. -/
def settleReachUptoRow : OpenClaim := { program := "ythpdemfehkoniaa", sum := "f9d655f0f8d62c01a896ca18aab775a7579dc5fe37601b845fd71bb599b96995", func := "barrow/barrowlaw26.SettleReach", spec := "settleReach", apart := false, narrowed := true }
def SettleReachUptoSaid : Prop := settleReachUptoRow.holds Try.pinned (OpenSpec.upto settleReachSpec)

/-- 'barrowlaw26.SettleReachGrows', WHERE WHAT IT READS IS OF BULK AT MOST 1048576: true; the input reads as it did. -/
def settleReachGrowsUptoRow : OpenClaim := { program := "ythpdemfehkoniaa", sum := "f9d655f0f8d62c01a896ca18aab775a7579dc5fe37601b845fd71bb599b96995", func := "barrow/barrowlaw26.SettleReachGrows", spec := "settleReachGrows", apart := false, narrowed := true }
def SettleReachGrowsUptoSaid : Prop := settleReachGrowsUptoRow.holds Try.pinned (OpenSpec.upto settleReachGrowsSpec)

/-- 'barrowlaw26.SettleMemory', WHERE WHAT IT READS IS OF BULK AT MOST 1048576: true; the input reads as it did. -/
def settleMemoryUptoRow : OpenClaim := { program := "ythpdemfehkoniaa", sum := "f9d655f0f8d62c01a896ca18aab775a7579dc5fe37601b845fd71bb599b96995", func := "barrow/barrowlaw26.SettleMemory", spec := "settleMemory", apart := false, narrowed := true }
def SettleMemoryUptoSaid : Prop := settleMemoryUptoRow.holds Try.pinned (OpenSpec.upto settleMemorySpec)

/-- 'barrowlaw26.SettleEnough', WHERE WHAT IT READS IS OF BULK AT MOST 1048576: true; the input reads as it did. -/
def settleEnoughUptoRow : OpenClaim := { program := "ythpdemfehkoniaa", sum := "f9d655f0f8d62c01a896ca18aab775a7579dc5fe37601b845fd71bb599b96995", func := "barrow/barrowlaw26.SettleEnough", spec := "settleEnough", apart := false, narrowed := true }
def SettleEnoughUptoSaid : Prop := settleEnoughUptoRow.holds Try.pinned (OpenSpec.upto settleEnoughSpec)

end Rows
end Go.Proofs.Ythpdemfehkoniaa
