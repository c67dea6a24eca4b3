/-
  No cell of these rows narrows 'for every input' (looked for: loops, veiled, ifaces, maps, wideKeys, modest, calm, conditions, laid).
  DERIVED. THE GIVEN ROWS OF THIS SEAT. 4 by the template 'for every input the law returns true; each argument reads behind the call as it read before'; 0 by the template 'total and deterministic' (their statements: YtdgcmihnbkamgaaTotals.lean).
  GIVEN WITH THE SEED: the statements are not yours to turn. If you find one false, say at which input.
  Laid BY PROGRAM, IN A SANDBOX (cutbox-rows.mjs): the forced cells as the released guide's own fill.sh prints them over the translation 2dbc64f54ceab6d3… (all of the seat's roots in one cut). By AI agents, Wed Nov 11 2026. No macro, syntax, notation, axiom, sorry.
-/
import Derived.Test.YtdgcmihnbkamgaaChecked
import GoSem.Claim
import GoSem.ClaimJoined
import GoSem.ClaimMapViews
import Derived.JoinedTies
import Derived.KernelRfl
namespace Go.Proofs.Ytdgcmihnbkamgaa
/- THE CELL 'sum', in the pinned program and in every row, IS THE sha256 OF THE DUMP (.gsa) THAT YtdgcmihnbkamgaaProg.lean LOADS. Nothing in Lean hashes anything: it is a label: what it is worth is what the hold of that sum in a sandbox is worth. -/
noncomputable def Try.pinned : Pinned := { name := "ytdgcmihnbkamgaa", sum := "2dbc64f54ceab6d3d5c8e1aa935f330794cfdf08aca171a2c60c693121840ad6", checked := Try.checked }
namespace Rows
def none {H : Type} : Left H := { results := [], args := [] }

/-- 'barrowlaw19.PoolCopies': WHATEVER THE INPUT: true; the input reads as it did. -/
def poolCopiesSpec : ChangeSpec := { name := "poolCopies", fn := fun _ => fun
  | [d] => { results := [.lit (.bool true)], args := [d] }
  | _ => none }
def poolCopiesRow : OpenClaim := { program := "ytdgcmihnbkamgaa", sum := "2dbc64f54ceab6d3d5c8e1aa935f330794cfdf08aca171a2c60c693121840ad6", func := "barrow/barrowlaw19.PoolCopies", spec := "poolCopies", apart := false }
def PoolCopiesSaid : Prop := poolCopiesRow.holds Try.pinned (OpenSpec.ofChange poolCopiesSpec)

/-- ITS FALSE NEIGHBOUR: 'it returns false'. Refute it at one input. -/
def poolCopiesWrong : ChangeSpec := { name := "poolCopies", fn := fun _ => fun
  | [d] => { results := [.lit (.bool false)], args := [d] }
  | _ => none }
def PoolCopiesWrongFalsely : Prop := poolCopiesRow.holds Try.pinned (OpenSpec.ofChange poolCopiesWrong)

/-- 'barrowlaw19.PoolAnswers': WHATEVER THE INPUT: true; the input reads as it did. -/
def poolAnswersSpec : ChangeSpec := { name := "poolAnswers", fn := fun _ => fun
  | [d] => { results := [.lit (.bool true)], args := [d] }
  | _ => none }
def poolAnswersRow : OpenClaim := { program := "ytdgcmihnbkamgaa", sum := "2dbc64f54ceab6d3d5c8e1aa935f330794cfdf08aca171a2c60c693121840ad6", func := "barrow/barrowlaw19.PoolAnswers", spec := "poolAnswers", unfollowed := true, recurses := true, apart := false }
def PoolAnswersSaid : Prop := poolAnswersRow.holds Try.pinned (OpenSpec.ofChange poolAnswersSpec)

/-- ITS FALSE NEIGHBOUR: 'it returns false'. Refute it at one input. -/
def poolAnswersWrong : ChangeSpec := { name := "poolAnswers", fn := fun _ => fun
  | [d] => { results := [.lit (.bool false)], args := [d] }
  | _ => none }
def PoolAnswersWrongFalsely : Prop := poolAnswersRow.holds Try.pinned (OpenSpec.ofChange poolAnswersWrong)

/-- 'barrowlaw19.PoolOnce': WHATEVER THE INPUT: true; the input reads as it did. -/
def poolOnceSpec : ChangeSpec := { name := "poolOnce", fn := fun _ => fun
  | [d] => { results := [.lit (.bool true)], args := [d] }
  | _ => none }
def poolOnceRow : OpenClaim := { program := "ytdgcmihnbkamgaa", sum := "2dbc64f54ceab6d3d5c8e1aa935f330794cfdf08aca171a2c60c693121840ad6", func := "barrow/barrowlaw19.PoolOnce", spec := "poolOnce", unfollowed := true, recurses := true, apart := false }
def PoolOnceSaid : Prop := poolOnceRow.holds Try.pinned (OpenSpec.ofChange poolOnceSpec)

/-- ITS FALSE NEIGHBOUR: 'it returns false'. Refute it at one input. -/
def poolOnceWrong : ChangeSpec := { name := "poolOnce", fn := fun _ => fun
  | [d] => { results := [.lit (.bool false)], args := [d] }
  | _ => none }
def PoolOnceWrongFalsely : Prop := poolOnceRow.holds Try.pinned (OpenSpec.ofChange poolOnceWrong)

/-- 'barrowlaw19.PoolBytes': WHATEVER THE INPUT: true; the input reads as it did. -/
def poolBytesSpec : ChangeSpec := { name := "poolBytes", fn := fun _ => fun
  | [d] => { results := [.lit (.bool true)], args := [d] }
  | _ => none }
def poolBytesRow : OpenClaim := { program := "ytdgcmihnbkamgaa", sum := "2dbc64f54ceab6d3d5c8e1aa935f330794cfdf08aca171a2c60c693121840ad6", func := "barrow/barrowlaw19.PoolBytes", spec := "poolBytes", unfollowed := true, recurses := true, apart := false }
def PoolBytesSaid : Prop := poolBytesRow.holds Try.pinned (OpenSpec.ofChange poolBytesSpec)

/-- ITS FALSE NEIGHBOUR: 'it returns false'. Refute it at one input. -/
def poolBytesWrong : ChangeSpec := { name := "poolBytes", fn := fun _ => fun
  | [d] => { results := [.lit (.bool false)], args := [d] }
  | _ => none }
def PoolBytesWrongFalsely : Prop := poolBytesRow.holds Try.pinned (OpenSpec.ofChange poolBytesWrong)

/- THE SECOND FORM. 'bulk': how many values and letters a reading holds, each counted each time it is reached (what is shared counts as often as it is met; a slice's spare places count too). A statement '..UptoSaid' is the law's where the arguments, and the package variables that the reading takes, are together of bulk at most 1048576: NARROWER than '..Said'. Prove '..Said' where nothing that the law and all that it calls make is longer than what came in: it says more and counts as full. Else prove '..UptoSaid'. A law counts once. -/
mutual
def uptoBulk {H : Type} : DataW H → Nat
  | .lit (.string bytes) => bytes.length + 1
  | .lit _ => 1
  | .nil => 1
  | .ptr d => uptoBulk d + 1
  | .slice elems spare => uptoBulkAll elems + uptoBulkAll spare + 1
  | .agg parts => uptoBulkAll parts + 1
  | .iface _ d => uptoBulk d + 1
  | .map entries => uptoBulkEntries entries + 1
  | .held _ => 1
def uptoBulkAll {H : Type} : List (DataW H) → Nat
  | [] => 0
  | d :: r => uptoBulk d + uptoBulkAll r
def uptoBulkEntries {H : Type} : List (Lit × DataW H) → Nat
  | [] => 0
  | x :: r => uptoBulkEntry x + uptoBulkEntries r
def uptoBulkEntry {H : Type} : Lit × DataW H → Nat
  | (.string bytes, d) => bytes.length + uptoBulk d + 1
  | (_, d) => uptoBulk d + 1
 end
def uptoSmall : (H : Type) → List (DataW H) → Bool := fun _ ds => decide (uptoBulkAll ds ≤ 1048576)
def OpenSpec.upto (s : _root_.Go.ChangeSpec) : _root_.Go.OpenSpec := { _root_.Go.OpenSpec.ofChange s with cond := some uptoSmall }

/-- 'barrowlaw19.PoolCopies', WHERE WHAT IT READS IS OF BULK AT MOST 1048576: true; the input reads as it did. -/
def poolCopiesUptoRow : OpenClaim := { program := "ytdgcmihnbkamgaa", sum := "2dbc64f54ceab6d3d5c8e1aa935f330794cfdf08aca171a2c60c693121840ad6", func := "barrow/barrowlaw19.PoolCopies", spec := "poolCopies", apart := false, narrowed := true }
def PoolCopiesUptoSaid : Prop := poolCopiesUptoRow.holds Try.pinned (OpenSpec.upto poolCopiesSpec)

/-- 'barrowlaw19.PoolAnswers', WHERE WHAT IT READS IS OF BULK AT MOST 1048576: true; the input reads as it did. -/
def poolAnswersUptoRow : OpenClaim := { program := "ytdgcmihnbkamgaa", sum := "2dbc64f54ceab6d3d5c8e1aa935f330794cfdf08aca171a2c60c693121840ad6", func := "barrow/barrowlaw19.PoolAnswers", spec := "poolAnswers", unfollowed := true, recurses := true, apart := false, narrowed := true }
def PoolAnswersUptoSaid : Prop := poolAnswersUptoRow.holds Try.pinned (OpenSpec.upto poolAnswersSpec)

/-- 'barrowlaw19.PoolOnce', WHERE WHAT IT READS IS OF BULK AT MOST 1048576: true; the input reads as it did. -/
def poolOnceUptoRow : OpenClaim := { program := "ytdgcmihnbkamgaa", sum := "2dbc64f54ceab6d3d5c8e1aa935f330794cfdf08aca171a2c60c693121840ad6", func := "barrow/barrowlaw19.PoolOnce", spec := "poolOnce", unfollowed := true, recurses := true, apart := false, narrowed := true }
def PoolOnceUptoSaid : Prop := poolOnceUptoRow.holds Try.pinned (OpenSpec.upto poolOnceSpec)

/-- 'barrowlaw19.PoolBytes', WHERE WHAT IT READS IS OF BULK AT MOST 1048576: true; the input reads as it did. -/
def poolBytesUptoRow : OpenClaim := { program := "ytdgcmihnbkamgaa", sum := "2dbc64f54ceab6d3d5c8e1aa935f330794cfdf08aca171a2c60c693121840ad6", func := "barrow/barrowlaw19.PoolBytes", spec := "poolBytes", unfollowed := true, recurses := true, apart := false, narrowed := true }
def PoolBytesUptoSaid : Prop := poolBytesUptoRow.holds Try.pinned (OpenSpec.upto poolBytesSpec)

end Rows
end Go.Proofs.Ytdgcmihnbkamgaa
