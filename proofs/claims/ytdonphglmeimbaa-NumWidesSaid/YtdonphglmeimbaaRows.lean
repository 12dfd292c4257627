/-
  No cell of these rows narrows 'for every input' (looked for: loops, veiled, ifaces, maps, wideKeys, modest, calm, conditions, laid).
  DERIVED. THE GIVEN ROWS OF THIS SEAT. 6 by the template 'for every input the law returns true; each argument reads behind the call as it read before'; 0 by the template 'total and deterministic' (their statements: YtdonphglmeimbaaTotals.lean).
  GIVEN WITH THE SEED: the statements are not yours to turn. If you find one false, say at which input.
  Laid BY PROGRAM, IN A SANDBOX (cutbox-rows.mjs): the forced cells as the released guide's own fill.sh prints them over the translation e7640cd012853a67… (all of the seat's roots in one cut). By AI agents, Wed Nov 11 2026. No macro, syntax, notation, axiom, sorry.
-/
import Derived.Test.YtdonphglmeimbaaChecked
import GoSem.Claim
import GoSem.ClaimJoined
import GoSem.ClaimMapViews
import Derived.JoinedTies
import Derived.KernelRfl
namespace Go.Proofs.Ytdonphglmeimbaa
/- THE CELL 'sum', in the pinned program and in every row, IS THE sha256 OF THE DUMP (.gsa) THAT YtdonphglmeimbaaProg.lean LOADS. Nothing in Lean hashes anything: it is a label: what it is worth is what the hold of that sum in a sandbox is worth. -/
noncomputable def Try.pinned : Pinned := { name := "ytdonphglmeimbaa", sum := "e7640cd012853a67cd696a9ea02c99a0baeb027f042546b642e9a022c5c5f98c", checked := Try.checked }
namespace Rows
def none {H : Type} : Left H := { results := [], args := [] }

/-- 'pluviallaw01.NumShifts': WHATEVER THE INPUT: true; the input reads as it did. -/
def numShiftsSpec : ChangeSpec := { name := "numShifts", fn := fun _ => fun
  | [d1, d2, d3] => { results := [.lit (.bool true)], args := [d1, d2, d3] }
  | _ => none }
def numShiftsRow : OpenClaim := { program := "ytdonphglmeimbaa", sum := "e7640cd012853a67cd696a9ea02c99a0baeb027f042546b642e9a022c5c5f98c", func := "pluvial/pluviallaw01.NumShifts", spec := "numShifts", apart := false }
def NumShiftsSaid : Prop := numShiftsRow.holds Try.pinned (OpenSpec.ofChange numShiftsSpec)

/-- ITS FALSE NEIGHBOUR: 'it returns false'. Refute it at one input. -/
def numShiftsWrong : ChangeSpec := { name := "numShifts", fn := fun _ => fun
  | [d1, d2, d3] => { results := [.lit (.bool false)], args := [d1, d2, d3] }
  | _ => none }
def NumShiftsWrongFalsely : Prop := numShiftsRow.holds Try.pinned (OpenSpec.ofChange numShiftsWrong)

/-- 'pluviallaw01.NumZigs': WHATEVER THE INPUT: true; the input reads as it did. -/
def numZigsSpec : ChangeSpec := { name := "numZigs", fn := fun _ => fun
  | [d1, d2, d3, d4] => { results := [.lit (.bool true)], args := [d1, d2, d3, d4] }
  | _ => none }
def numZigsRow : OpenClaim := { program := "ytdonphglmeimbaa", sum := "e7640cd012853a67cd696a9ea02c99a0baeb027f042546b642e9a022c5c5f98c", func := "pluvial/pluviallaw01.NumZigs", spec := "numZigs", apart := false }
def NumZigsSaid : Prop := numZigsRow.holds Try.pinned (OpenSpec.ofChange numZigsSpec)

/-- ITS FALSE NEIGHBOUR: 'it returns false'. Refute it at one input. -/
def numZigsWrong : ChangeSpec := { name := "numZigs", fn := fun _ => fun
  | [d1, d2, d3, d4] => { results := [.lit (.bool false)], args := [d1, d2, d3, d4] }
  | _ => none }
def NumZigsWrongFalsely : Prop := numZigsRow.holds Try.pinned (OpenSpec.ofChange numZigsWrong)

/-- 'pluviallaw01.NumWides': WHATEVER THE INPUT: true; the input reads as it did. -/
def numWidesSpec : ChangeSpec := { name := "numWides", fn := fun _ => fun
  | [d1, d2, d3, d4, d5] => { results := [.lit (.bool true)], args := [d1, d2, d3, d4, d5] }
  | _ => none }
def numWidesRow : OpenClaim := { program := "ytdonphglmeimbaa", sum := "e7640cd012853a67cd696a9ea02c99a0baeb027f042546b642e9a022c5c5f98c", func := "pluvial/pluviallaw01.NumWides", spec := "numWides", inPlace := ["math/bits.Add64"], named := ["math/bits.divideError", "math/bits.overflowError"], apart := false }
def NumWidesSaid : Prop := numWidesRow.holds Try.pinned (OpenSpec.ofChange numWidesSpec)

/-- ITS FALSE NEIGHBOUR: 'it returns false'. Refute it at one input. -/
def numWidesWrong : ChangeSpec := { name := "numWides", fn := fun _ => fun
  | [d1, d2, d3, d4, d5] => { results := [.lit (.bool false)], args := [d1, d2, d3, d4, d5] }
  | _ => none }
def NumWidesWrongFalsely : Prop := numWidesRow.holds Try.pinned (OpenSpec.ofChange numWidesWrong)

/-- 'pluviallaw01.NumSums': WHATEVER THE INPUT: true; the input reads as it did. -/
def numSumsSpec : ChangeSpec := { name := "numSums", fn := fun _ => fun
  | [d1, d2, d3, d4, d5, d6] => { results := [.lit (.bool true)], args := [d1, d2, d3, d4, d5, d6] }
  | _ => none }
def numSumsRow : OpenClaim := { program := "ytdonphglmeimbaa", sum := "e7640cd012853a67cd696a9ea02c99a0baeb027f042546b642e9a022c5c5f98c", func := "pluvial/pluviallaw01.NumSums", spec := "numSums", inPlace := ["math/bits.Add64"], apart := false }
def NumSumsSaid : Prop := numSumsRow.holds Try.pinned (OpenSpec.ofChange numSumsSpec)

/-- ITS FALSE NEIGHBOUR: 'it returns false'. Refute it at one input. -/
def numSumsWrong : ChangeSpec := { name := "numSums", fn := fun _ => fun
  | [d1, d2, d3, d4, d5, d6] => { results := [.lit (.bool false)], args := [d1, d2, d3, d4, d5, d6] }
  | _ => none }
def NumSumsWrongFalsely : Prop := numSumsRow.holds Try.pinned (OpenSpec.ofChange numSumsWrong)

/-- 'pluviallaw01.NumTurns': WHATEVER THE INPUT: true; the input reads as it did. -/
def numTurnsSpec : ChangeSpec := { name := "numTurns", fn := fun _ => fun
  | [d1, d2, d3, d4, d5] => { results := [.lit (.bool true)], args := [d1, d2, d3, d4, d5] }
  | _ => none }
def numTurnsRow : OpenClaim := { program := "ytdonphglmeimbaa", sum := "e7640cd012853a67cd696a9ea02c99a0baeb027f042546b642e9a022c5c5f98c", func := "pluvial/pluviallaw01.NumTurns", spec := "numTurns", inPlace := ["math/bits.Add64"], apart := false }
def NumTurnsSaid : Prop := numTurnsRow.holds Try.pinned (OpenSpec.ofChange numTurnsSpec)

/-- ITS FALSE NEIGHBOUR: 'it returns false'. Refute it at one input. -/
def numTurnsWrong : ChangeSpec := { name := "numTurns", fn := fun _ => fun
  | [d1, d2, d3, d4, d5] => { results := [.lit (.bool false)], args := [d1, d2, d3, d4, d5] }
  | _ => none }
def NumTurnsWrongFalsely : Prop := numTurnsRow.holds Try.pinned (OpenSpec.ofChange numTurnsWrong)

/-- 'pluviallaw01.NumCeils': WHATEVER THE INPUT: true; the input reads as it did. -/
def numCeilsSpec : ChangeSpec := { name := "numCeils", fn := fun _ => fun
  | [d1, d2, d3] => { results := [.lit (.bool true)], args := [d1, d2, d3] }
  | _ => none }
def numCeilsRow : OpenClaim := { program := "ytdonphglmeimbaa", sum := "e7640cd012853a67cd696a9ea02c99a0baeb027f042546b642e9a022c5c5f98c", func := "pluvial/pluviallaw01.NumCeils", spec := "numCeils", inPlace := ["math/bits.Add64"], named := ["math/bits.divideError", "math/bits.overflowError"], apart := false }
def NumCeilsSaid : Prop := numCeilsRow.holds Try.pinned (OpenSpec.ofChange numCeilsSpec)

/-- ITS FALSE NEIGHBOUR: 'it returns false'. Refute it at one input. -/
def numCeilsWrong : ChangeSpec := { name := "numCeils", fn := fun _ => fun
  | [d1, d2, d3] => { results := [.lit (.bool false)], args := [d1, d2, d3] }
  | _ => none }
def NumCeilsWrongFalsely : Prop := numCeilsRow.holds Try.pinned (OpenSpec.ofChange numCeilsWrong)

/- THE SECOND FORM. 'bulk': how many values and letters a reading holds, each counted each time it is reached (what is shared counts as often as it is met; a slice's spare places count too). A statement '..UptoSaid' is the law's where the arguments, and the package variables that the reading takes, are together of bulk at most 1048576: NARROWER than '..Said'. Prove '..Said' where nothing that the law and all that it calls make is longer than what came in: it says more and counts as full. Else prove '..UptoSaid'. A law counts once. -/
mutual
def uptoBulk {H : Type} : DataW H → Nat
  | .lit (.string bytes) => bytes.length + 1
  | .lit _ => 1
  | .nil => 1
  | .ptr d => uptoBulk d + 1
  | .slice elems spare => uptoBulkAll elems + uptoBulkAll spare + 1
  | .agg parts => uptoBulkAll parts + 1
  | .iface _ d => uptoBulk d + 1
  | .map entries => uptoBulkEntries entries + 1
  | .held _ => 1
def uptoBulkAll {H : Type} : List (DataW H) → Nat
  | [] => 0
  | d :: r => uptoBulk d + uptoBulkAll r
def uptoBulkEntries {H : Type} : List (Lit × DataW H) → Nat
  | [] => 0
  | x :: r => uptoBulkEntry x + uptoBulkEntries r
def uptoBulkEntry {H : Type} : Lit × DataW H → Nat
  | (.string bytes, d) => bytes.length + uptoBulk d + 1
  | (_, d) => uptoBulk d + 1
 end
def uptoSmall : (H : Type) → List (DataW H) → Bool := fun _ ds => decide (uptoBulkAll ds ≤ 1048576)
def OpenSpec.upto (s : _root_.Go.ChangeSpec) : _root_.Go.OpenSpec := { _root_.Go.OpenSpec.ofChange s with cond := some uptoSmall }

/-- 'pluviallaw01.NumShifts', WHERE WHAT IT READS IS OF BULK AT MOST 1048576: true; the input reads as it did. -/
def numShiftsUptoRow : OpenClaim := { program := "ytdonphglmeimbaa", sum := "e7640cd012853a67cd696a9ea02c99a0baeb027f042546b642e9a022c5c5f98c", func := "pluvial/pluviallaw01.NumShifts", spec := "numShifts", apart := false, narrowed := true }
def NumShiftsUptoSaid : Prop := numShiftsUptoRow.holds Try.pinned (OpenSpec.upto numShiftsSpec)

/-- 'pluviallaw01.NumZigs', WHERE WHAT IT READS IS OF BULK AT MOST 1048576: true; the input reads as it did. -/
def numZigsUptoRow : OpenClaim := { program := "ytdonphglmeimbaa", sum := "e7640cd012853a67cd696a9ea02c99a0baeb027f042546b642e9a022c5c5f98c", func := "pluvial/pluviallaw01.NumZigs", spec := "numZigs", apart := false, narrowed := true }
def NumZigsUptoSaid : Prop := numZigsUptoRow.holds Try.pinned (OpenSpec.upto numZigsSpec)

/-- 'pluviallaw01.NumWides', WHERE WHAT IT READS IS OF BULK AT MOST 1048576: true; the input reads as it did. -/
def numWidesUptoRow : OpenClaim := { program := "ytdonphglmeimbaa", sum := "e7640cd012853a67cd696a9ea02c99a0baeb027f042546b642e9a022c5c5f98c", func := "pluvial/pluviallaw01.NumWides", spec := "numWides", inPlace := ["math/bits.Add64"], named := ["math/bits.divideError", "math/bits.overflowError"], apart := false, narrowed := true }
def NumWidesUptoSaid : Prop := numWidesUptoRow.holds Try.pinned (OpenSpec.upto numWidesSpec)

/-- 'pluviallaw01.NumSums', WHERE WHAT IT READS IS OF BULK AT MOST 1048576: true; the input reads as it did. -/
def numSumsUptoRow : OpenClaim := { program := "ytdonphglmeimbaa", sum := "e7640cd012853a67cd696a9ea02c99a0baeb027f042546b642e9a022c5c5f98c", func := "pluvial/pluviallaw01.NumSums", spec := "numSums", inPlace := ["math/bits.Add64"], apart := false, narrowed := true }
def NumSumsUptoSaid : Prop := numSumsUptoRow.holds Try.pinned (OpenSpec.upto numSumsSpec)

/-- 'pluviallaw01.NumTurns', WHERE WHAT IT READS IS OF BULK AT MOST 1048576: true; the input reads as it did. -/
def numTurnsUptoRow : OpenClaim := { program := "ytdonphglmeimbaa", sum := "e7640cd012853a67cd696a9ea02c99a0baeb027f042546b642e9a022c5c5f98c", func := "pluvial/pluviallaw01.NumTurns", spec := "numTurns", inPlace := ["math/bits.Add64"], apart := false, narrowed := true }
def NumTurnsUptoSaid : Prop := numTurnsUptoRow.holds Try.pinned (OpenSpec.upto numTurnsSpec)

/-- 'pluviallaw01.NumCeils', WHERE WHAT IT READS IS OF BULK AT MOST 1048576: true; the input reads as it did. -/
def numCeilsUptoRow : OpenClaim := { program := "ytdonphglmeimbaa", sum := "e7640cd012853a67cd696a9ea02c99a0baeb027f042546b642e9a022c5c5f98c", func := "pluvial/pluviallaw01.NumCeils", spec := "numCeils", inPlace := ["math/bits.Add64"], named := ["math/bits.divideError", "math/bits.overflowError"], apart := false, narrowed := true }
def NumCeilsUptoSaid : Prop := numCeilsUptoRow.holds Try.pinned (OpenSpec.upto numCeilsSpec)

end Rows
end Go.Proofs.Ytdonphglmeimbaa
