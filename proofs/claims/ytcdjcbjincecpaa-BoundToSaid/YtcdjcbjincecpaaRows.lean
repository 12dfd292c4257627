/-
  No cell of these rows narrows 'for every input' (looked for: loops, veiled, ifaces, maps, wideKeys, modest, calm, conditions, laid).
  DERIVED. THE GIVEN ROWS OF THIS SEAT. 4 by the template 'for every input the law returns true; each argument reads behind the call as it read before'; 0 by the template 'total and deterministic' (their statements: YtcdjcbjincecpaaTotals.lean).
  GIVEN WITH THE SEED: the statements are not yours to turn. If you find one false, say at which input.
  Laid BY PROGRAM, IN A SANDBOX (cutbox-rows.mjs): the forced cells as the released guide's own fill.sh prints them over the translation fa1acd6629ec5c6f… (all of the seat's roots in one cut). By AI agents, Wed Nov 11 2026. No macro, syntax, notation, axiom, sorry.
-/
import Derived.Test.YtcdjcbjincecpaaChecked
import GoSem.Claim
import GoSem.ClaimJoined
import GoSem.ClaimMapViews
import Derived.JoinedTies
import Derived.KernelRfl
namespace Go.Proofs.Ytcdjcbjincecpaa
/- THE CELL 'sum', in the pinned program and in every row, IS THE sha256 OF THE DUMP (.gsa) THAT YtcdjcbjincecpaaProg.lean LOADS. Nothing in Lean hashes anything: it is a label: what it is worth is what the hold of that sum in a sandbox is worth. -/
noncomputable def Try.pinned : Pinned := { name := "ytcdjcbjincecpaa", sum := "fa1acd6629ec5c6f2018ad7c0e0f6e38ba714b2c35eb2c680633d7d77425e004", checked := Try.checked }
namespace Rows
def none {H : Type} : Left H := { results := [], args := [] }

/-- 'pluviallaw04.BoundSteps': WHATEVER THE INPUT: true; the input reads as it did. -/
def boundStepsSpec : ChangeSpec := { name := "boundSteps", fn := fun _ => fun
  | [d1, d2, d3, d4] => { results := [.lit (.bool true)], args := [d1, d2, d3, d4] }
  | _ => none }
def boundStepsRow : OpenClaim := { program := "ytcdjcbjincecpaa", sum := "fa1acd6629ec5c6f2018ad7c0e0f6e38ba714b2c35eb2c680633d7d77425e004", func := "pluvial/pluviallaw04.BoundSteps", spec := "boundSteps", apart := false }
def BoundStepsSaid : Prop := boundStepsRow.holds Try.pinned (OpenSpec.ofChange boundStepsSpec)

/-- ITS FALSE NEIGHBOUR: 'it returns false'. Refute it at one input. -/
def boundStepsWrong : ChangeSpec := { name := "boundSteps", fn := fun _ => fun
  | [d1, d2, d3, d4] => { results := [.lit (.bool false)], args := [d1, d2, d3, d4] }
  | _ => none }
def BoundStepsWrongFalsely : Prop := boundStepsRow.holds Try.pinned (OpenSpec.ofChange boundStepsWrong)

/-- 'pluviallaw04.BoundTo': WHATEVER THE INPUT: true; the input reads as it did. -/
def boundToSpec : ChangeSpec := { name := "boundTo", fn := fun _ => fun
  | [d1, d2, d3, d4, d5] => { results := [.lit (.bool true)], args := [d1, d2, d3, d4, d5] }
  | _ => none }
def boundToRow : OpenClaim := { program := "ytcdjcbjincecpaa", sum := "fa1acd6629ec5c6f2018ad7c0e0f6e38ba714b2c35eb2c680633d7d77425e004", func := "pluvial/pluviallaw04.BoundTo", spec := "boundTo", apart := false }
def BoundToSaid : Prop := boundToRow.holds Try.pinned (OpenSpec.ofChange boundToSpec)

/-- ITS FALSE NEIGHBOUR: 'it returns false'. Refute it at one input. -/
def boundToWrong : ChangeSpec := { name := "boundTo", fn := fun _ => fun
  | [d1, d2, d3, d4, d5] => { results := [.lit (.bool false)], args := [d1, d2, d3, d4, d5] }
  | _ => none }
def BoundToWrongFalsely : Prop := boundToRow.holds Try.pinned (OpenSpec.ofChange boundToWrong)

/-- 'pluviallaw04.BoundPlaces': WHATEVER THE INPUT: true; the input reads as it did. -/
def boundPlacesSpec : ChangeSpec := { name := "boundPlaces", fn := fun _ => fun
  | [d1, d2, d3] => { results := [.lit (.bool true)], args := [d1, d2, d3] }
  | _ => none }
def boundPlacesRow : OpenClaim := { program := "ytcdjcbjincecpaa", sum := "fa1acd6629ec5c6f2018ad7c0e0f6e38ba714b2c35eb2c680633d7d77425e004", func := "pluvial/pluviallaw04.BoundPlaces", spec := "boundPlaces", apart := false }
def BoundPlacesSaid : Prop := boundPlacesRow.holds Try.pinned (OpenSpec.ofChange boundPlacesSpec)

/-- ITS FALSE NEIGHBOUR: 'it returns false'. Refute it at one input. -/
def boundPlacesWrong : ChangeSpec := { name := "boundPlaces", fn := fun _ => fun
  | [d1, d2, d3] => { results := [.lit (.bool false)], args := [d1, d2, d3] }
  | _ => none }
def BoundPlacesWrongFalsely : Prop := boundPlacesRow.holds Try.pinned (OpenSpec.ofChange boundPlacesWrong)

/-- 'pluviallaw04.BoundOrders': WHATEVER THE INPUT: true; the input reads as it did. -/
def boundOrdersSpec : ChangeSpec := { name := "boundOrders", fn := fun _ => fun
  | [d1, d2, d3] => { results := [.lit (.bool true)], args := [d1, d2, d3] }
  | _ => none }
def boundOrdersRow : OpenClaim := { program := "ytcdjcbjincecpaa", sum := "fa1acd6629ec5c6f2018ad7c0e0f6e38ba714b2c35eb2c680633d7d77425e004", func := "pluvial/pluviallaw04.BoundOrders", spec := "boundOrders", apart := false }
def BoundOrdersSaid : Prop := boundOrdersRow.holds Try.pinned (OpenSpec.ofChange boundOrdersSpec)

/-- ITS FALSE NEIGHBOUR: 'it returns false'. Refute it at one input. -/
def boundOrdersWrong : ChangeSpec := { name := "boundOrders", fn := fun _ => fun
  | [d1, d2, d3] => { results := [.lit (.bool false)], args := [d1, d2, d3] }
  | _ => none }
def BoundOrdersWrongFalsely : Prop := boundOrdersRow.holds Try.pinned (OpenSpec.ofChange boundOrdersWrong)

/- THE SECOND FORM. 'bulk': how many values and letters a reading holds, each counted each time it is reached (what is shared counts as often as it is met; a slice's spare places count too). A statement '..UptoSaid' is the law's where the arguments, and the package variables that the reading takes, are together of bulk at most 1048576: NARROWER than '..Said'. Prove '..Said' where nothing that the law and all that it calls make is longer than what came in: it says more and counts as full. Else prove '..UptoSaid'. A law counts once. -/
mutual
def uptoBulk {H : Type} : DataW H → Nat
  | .lit (.string bytes) => bytes.length + 1
  | .lit _ => 1
  | .nil => 1
  | .ptr d => uptoBulk d + 1
  | .slice elems spare => uptoBulkAll elems + uptoBulkAll spare + 1
  | .agg parts => uptoBulkAll parts + 1
  | .iface _ d => uptoBulk d + 1
  | .map entries => uptoBulkEntries entries + 1
  | .held _ => 1
def uptoBulkAll {H : Type} : List (DataW H) → Nat
  | [] => 0
  | d :: r => uptoBulk d + uptoBulkAll r
def uptoBulkEntries {H : Type} : List (Lit × DataW H) → Nat
  | [] => 0
  | x :: r => uptoBulkEntry x + uptoBulkEntries r
def uptoBulkEntry {H : Type} : Lit × DataW H → Nat
  | (.string bytes, d) => bytes.length + uptoBulk d + 1
  | (_, d) => uptoBulk d + 1
 end
def uptoSmall : (H : Type) → List (DataW H) → Bool := fun _ ds => decide (uptoBulkAll ds ≤ 1048576)
def OpenSpec.upto (s : _root_.Go.ChangeSpec) : _root_.Go.OpenSpec := { _root_.Go.OpenSpec.ofChange s with cond := some uptoSmall }

/-- 'pluviallaw04.BoundSteps', WHERE WHAT IT READS IS OF BULK AT MOST 1048576: true; the input reads as it did. -/
def boundStepsUptoRow : OpenClaim := { program := "ytcdjcbjincecpaa", sum := "fa1acd6629ec5c6f2018ad7c0e0f6e38ba714b2c35eb2c680633d7d77425e004", func := "pluvial/pluviallaw04.BoundSteps", spec := "boundSteps", apart := false, narrowed := true }
def BoundStepsUptoSaid : Prop := boundStepsUptoRow.holds Try.pinned (OpenSpec.upto boundStepsSpec)

/-- 'pluviallaw04.BoundTo', WHERE WHAT IT READS IS OF BULK AT MOST 1048576: true; the input reads as it did. -/
def boundToUptoRow : OpenClaim := { program := "ytcdjcbjincecpaa", sum := "fa1acd6629ec5c6f2018ad7c0e0f6e38ba714b2c35eb2c680633d7d77425e004", func := "pluvial/pluviallaw04.BoundTo", spec := "boundTo", apart := false, narrowed := true }
def BoundToUptoSaid : Prop := boundToUptoRow.holds Try.pinned (OpenSpec.upto boundToSpec)

/-- 'pluviallaw04.BoundPlaces', WHERE WHAT IT READS IS OF BULK AT MOST 1048576: true; the input reads as it did. -/
def boundPlacesUptoRow : OpenClaim := { program := "ytcdjcbjincecpaa", sum := "fa1acd6629ec5c6f2018ad7c0e0f6e38ba714b2c35eb2c680633d7d77425e004", func := "pluvial/pluviallaw04.BoundPlaces", spec := "boundPlaces", apart := false, narrowed := true }
def BoundPlacesUptoSaid : Prop := boundPlacesUptoRow.holds Try.pinned (OpenSpec.upto boundPlacesSpec)

/-- 'pluviallaw04.BoundOrders', WHERE WHAT IT READS IS OF BULK AT MOST 1048576: true; the input reads as it did. -/
def boundOrdersUptoRow : OpenClaim := { program := "ytcdjcbjincecpaa", sum := "fa1acd6629ec5c6f2018ad7c0e0f6e38ba714b2c35eb2c680633d7d77425e004", func := "pluvial/pluviallaw04.BoundOrders", spec := "boundOrders", apart := false, narrowed := true }
def BoundOrdersUptoSaid : Prop := boundOrdersUptoRow.holds Try.pinned (OpenSpec.upto boundOrdersSpec)

end Rows
end Go.Proofs.Ytcdjcbjincecpaa
