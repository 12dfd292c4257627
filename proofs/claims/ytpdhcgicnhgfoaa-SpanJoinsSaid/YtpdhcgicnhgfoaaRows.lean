/-
  No cell of these rows narrows 'for every input' (looked for: loops, veiled, ifaces, maps, wideKeys, modest, calm, conditions, laid).
  DERIVED. THE GIVEN ROWS OF THIS SEAT. 4 by the template 'for every input the law returns true; each argument reads behind the call as it read before'; 0 by the template 'total and deterministic' (their statements: YtpdhcgicnhgfoaaTotals.lean).
  GIVEN WITH THE SEED: the statements are not yours to turn. If you find one false, say at which input.
  Laid BY PROGRAM, IN A SANDBOX (cutbox-rows.mjs): the forced cells as the released guide's own fill.sh prints them over the translation 7b3eb86798a1c7e1… (all of the seat's roots in one cut). By AI agents, Wed Nov 11 2026. No macro, syntax, notation, axiom, sorry.
-/
import Derived.Test.YtpdhcgicnhgfoaaChecked
import GoSem.Claim
import GoSem.ClaimJoined
import GoSem.ClaimMapViews
import Derived.JoinedTies
import Derived.KernelRfl
namespace Go.Proofs.Ytpdhcgicnhgfoaa
/- THE CELL 'sum', in the pinned program and in every row, IS THE sha256 OF THE DUMP (.gsa) THAT YtpdhcgicnhgfoaaProg.lean LOADS. Nothing in Lean hashes anything: it is a label: what it is worth is what the hold of that sum in a sandbox is worth. -/
noncomputable def Try.pinned : Pinned := { name := "ytpdhcgicnhgfoaa", sum := "7b3eb86798a1c7e136b7ecd4a36b48ee7871cd3631bf50e1f1ea2f238f1aed4d", checked := Try.checked }
namespace Rows
def none {H : Type} : Left H := { results := [], args := [] }

/-- 'pluviallaw06.SpanGaps': WHATEVER THE INPUT: true; the input reads as it did. -/
def spanGapsSpec : ChangeSpec := { name := "spanGaps", fn := fun _ => fun
  | [d1, d2, d3] => { results := [.lit (.bool true)], args := [d1, d2, d3] }
  | _ => none }
def spanGapsRow : OpenClaim := { program := "ytpdhcgicnhgfoaa", sum := "7b3eb86798a1c7e136b7ecd4a36b48ee7871cd3631bf50e1f1ea2f238f1aed4d", func := "pluvial/pluviallaw06.SpanGaps", spec := "spanGaps", apart := false }
def SpanGapsSaid : Prop := spanGapsRow.holds Try.pinned (OpenSpec.ofChange spanGapsSpec)

/-- ITS FALSE NEIGHBOUR: 'it returns false'. Refute it at one input. -/
def spanGapsWrong : ChangeSpec := { name := "spanGaps", fn := fun _ => fun
  | [d1, d2, d3] => { results := [.lit (.bool false)], args := [d1, d2, d3] }
  | _ => none }
def SpanGapsWrongFalsely : Prop := spanGapsRow.holds Try.pinned (OpenSpec.ofChange spanGapsWrong)

/-- 'pluviallaw06.SpanJoins': WHATEVER THE INPUT: true; the input reads as it did. -/
def spanJoinsSpec : ChangeSpec := { name := "spanJoins", fn := fun _ => fun
  | [d1, d2, d3, d4, d5] => { results := [.lit (.bool true)], args := [d1, d2, d3, d4, d5] }
  | _ => none }
def spanJoinsRow : OpenClaim := { program := "ytpdhcgicnhgfoaa", sum := "7b3eb86798a1c7e136b7ecd4a36b48ee7871cd3631bf50e1f1ea2f238f1aed4d", func := "pluvial/pluviallaw06.SpanJoins", spec := "spanJoins", apart := false }
def SpanJoinsSaid : Prop := spanJoinsRow.holds Try.pinned (OpenSpec.ofChange spanJoinsSpec)

/-- ITS FALSE NEIGHBOUR: 'it returns false'. Refute it at one input. -/
def spanJoinsWrong : ChangeSpec := { name := "spanJoins", fn := fun _ => fun
  | [d1, d2, d3, d4, d5] => { results := [.lit (.bool false)], args := [d1, d2, d3, d4, d5] }
  | _ => none }
def SpanJoinsWrongFalsely : Prop := spanJoinsRow.holds Try.pinned (OpenSpec.ofChange spanJoinsWrong)

/-- 'pluviallaw06.SpanHolds': WHATEVER THE INPUT: true; the input reads as it did. -/
def spanHoldsSpec : ChangeSpec := { name := "spanHolds", fn := fun _ => fun
  | [d1, d2, d3, d4, d5] => { results := [.lit (.bool true)], args := [d1, d2, d3, d4, d5] }
  | _ => none }
def spanHoldsRow : OpenClaim := { program := "ytpdhcgicnhgfoaa", sum := "7b3eb86798a1c7e136b7ecd4a36b48ee7871cd3631bf50e1f1ea2f238f1aed4d", func := "pluvial/pluviallaw06.SpanHolds", spec := "spanHolds", apart := false }
def SpanHoldsSaid : Prop := spanHoldsRow.holds Try.pinned (OpenSpec.ofChange spanHoldsSpec)

/-- ITS FALSE NEIGHBOUR: 'it returns false'. Refute it at one input. -/
def spanHoldsWrong : ChangeSpec := { name := "spanHolds", fn := fun _ => fun
  | [d1, d2, d3, d4, d5] => { results := [.lit (.bool false)], args := [d1, d2, d3, d4, d5] }
  | _ => none }
def SpanHoldsWrongFalsely : Prop := spanHoldsRow.holds Try.pinned (OpenSpec.ofChange spanHoldsWrong)

/-- 'pluviallaw06.SpanTakes': WHATEVER THE INPUT: true; the input reads as it did. -/
def spanTakesSpec : ChangeSpec := { name := "spanTakes", fn := fun _ => fun
  | [d1, d2] => { results := [.lit (.bool true)], args := [d1, d2] }
  | _ => none }
def spanTakesRow : OpenClaim := { program := "ytpdhcgicnhgfoaa", sum := "7b3eb86798a1c7e136b7ecd4a36b48ee7871cd3631bf50e1f1ea2f238f1aed4d", func := "pluvial/pluviallaw06.SpanTakes", spec := "spanTakes", apart := false }
def SpanTakesSaid : Prop := spanTakesRow.holds Try.pinned (OpenSpec.ofChange spanTakesSpec)

/-- ITS FALSE NEIGHBOUR: 'it returns false'. Refute it at one input. -/
def spanTakesWrong : ChangeSpec := { name := "spanTakes", fn := fun _ => fun
  | [d1, d2] => { results := [.lit (.bool false)], args := [d1, d2] }
  | _ => none }
def SpanTakesWrongFalsely : Prop := spanTakesRow.holds Try.pinned (OpenSpec.ofChange spanTakesWrong)

/- THE SECOND FORM. 'bulk': how many values and letters a reading holds, each counted each time it is reached (what is shared counts as often as it is met; a slice's spare places count too). A statement '..UptoSaid' is the law's where the arguments, and the package variables that the reading takes, are together of bulk at most 1048576: NARROWER than '..Said'. Prove '..Said' where nothing that the law and all that it calls make is longer than what came in: it says more and counts as full. Else prove '..UptoSaid'. A law counts once. -/
mutual
def uptoBulk {H : Type} : DataW H → Nat
  | .lit (.string bytes) => bytes.length + 1
  | .lit _ => 1
  | .nil => 1
  | .ptr d => uptoBulk d + 1
  | .slice elems spare => uptoBulkAll elems + uptoBulkAll spare + 1
  | .agg parts => uptoBulkAll parts + 1
  | .iface _ d => uptoBulk d + 1
  | .map entries => uptoBulkEntries entries + 1
  | .held _ => 1
def uptoBulkAll {H : Type} : List (DataW H) → Nat
  | [] => 0
  | d :: r => uptoBulk d + uptoBulkAll r
def uptoBulkEntries {H : Type} : List (Lit × DataW H) → Nat
  | [] => 0
  | x :: r => uptoBulkEntry x + uptoBulkEntries r
def uptoBulkEntry {H : Type} : Lit × DataW H → Nat
  | (.string bytes, d) => bytes.length + uptoBulk d + 1
  | (_, d) => uptoBulk d + 1
 end
def uptoSmall : (H : Type) → List (DataW H) → Bool := fun _ ds => decide (uptoBulkAll ds ≤ 1048576)
def OpenSpec.upto (s : _root_.Go.ChangeSpec) : _root_.Go.OpenSpec := { _root_.Go.OpenSpec.ofChange s with cond := some uptoSmall }

/-- 'pluviallaw06.SpanGaps', WHERE WHAT IT READS IS OF BULK AT MOST 1048576: true; the input reads as it did. -/
def spanGapsUptoRow : OpenClaim := { program := "ytpdhcgicnhgfoaa", sum := "7b3eb86798a1c7e136b7ecd4a36b48ee7871cd3631bf50e1f1ea2f238f1aed4d", func := "pluvial/pluviallaw06.SpanGaps", spec := "spanGaps", apart := false, narrowed := true }
def SpanGapsUptoSaid : Prop := spanGapsUptoRow.holds Try.pinned (OpenSpec.upto spanGapsSpec)

/-- 'pluviallaw06.SpanJoins', WHERE WHAT IT READS IS OF BULK AT MOST 1048576: true; the input reads as it did. -/
def spanJoinsUptoRow : OpenClaim := { program := "ytpdhcgicnhgfoaa", sum := "7b3eb86798a1c7e136b7ecd4a36b48ee7871cd3631bf50e1f1ea2f238f1aed4d", func := "pluvial/pluviallaw06.SpanJoins", spec := "spanJoins", apart := false, narrowed := true }
def SpanJoinsUptoSaid : Prop := spanJoinsUptoRow.holds Try.pinned (OpenSpec.upto spanJoinsSpec)

/-- 'pluviallaw06.SpanHolds', WHERE WHAT IT READS IS OF BULK AT MOST 1048576: true; the input reads as it did. -/
def spanHoldsUptoRow : OpenClaim := { program := "ytpdhcgicnhgfoaa", sum := "7b3eb86798a1c7e136b7ecd4a36b48ee7871cd3631bf50e1f1ea2f238f1aed4d", func := "pluvial/pluviallaw06.SpanHolds", spec := "spanHolds", apart := false, narrowed := true }
def SpanHoldsUptoSaid : Prop := spanHoldsUptoRow.holds Try.pinned (OpenSpec.upto spanHoldsSpec)

/-- 'pluviallaw06.SpanTakes', WHERE WHAT IT READS IS OF BULK AT MOST 1048576: true; the input reads as it did. -/
def spanTakesUptoRow : OpenClaim := { program := "ytpdhcgicnhgfoaa", sum := "7b3eb86798a1c7e136b7ecd4a36b48ee7871cd3631bf50e1f1ea2f238f1aed4d", func := "pluvial/pluviallaw06.SpanTakes", spec := "spanTakes", apart := false, narrowed := true }
def SpanTakesUptoSaid : Prop := spanTakesUptoRow.holds Try.pinned (OpenSpec.upto spanTakesSpec)

end Rows
end Go.Proofs.Ytpdhcgicnhgfoaa
