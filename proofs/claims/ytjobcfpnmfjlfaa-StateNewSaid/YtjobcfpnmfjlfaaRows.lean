/-
  No cell of these rows narrows 'for every input' (looked for: loops, veiled, ifaces, maps, wideKeys, modest, calm, conditions, laid).
  DERIVED. THE GIVEN ROWS OF THIS SEAT. 6 by the template 'for every input the law returns true; each argument reads behind the call as it read before'; 0 by the template 'total and deterministic' (their statements: YtjobcfpnmfjlfaaTotals.lean).
  GIVEN WITH THE SEED: the statements are not yours to turn. If you find one false, say at which input.
  Laid BY PROGRAM, IN A SANDBOX (cutbox-rows.mjs): the forced cells as the released guide's own fill.sh prints them over the translation 7f90ffec44b37cd0… (all of the seat's roots in one cut). By AI agents, Wed Nov 11 2026. No macro, syntax, notation, axiom, sorry.
-/
import Derived.Test.YtjobcfpnmfjlfaaChecked
import GoSem.Claim
import GoSem.ClaimJoined
import GoSem.ClaimMapViews
import Derived.JoinedTies
import Derived.KernelRfl
namespace Go.Proofs.Ytjobcfpnmfjlfaa
/- THE CELL 'sum', in the pinned program and in every row, IS THE sha256 OF THE DUMP (.gsa) THAT YtjobcfpnmfjlfaaProg.lean LOADS. Nothing in Lean hashes anything: it is a label: what it is worth is what the hold of that sum in a sandbox is worth. -/
noncomputable def Try.pinned : Pinned := { name := "ytjobcfpnmfjlfaa", sum := "7f90ffec44b37cd0115f1f2ceee3369e8597889930f89c09996b1d7dd3ab3270", checked := Try.checked }
namespace Rows
def none {H : Type} : Left H := { results := [], args := [] }

/-- 'cellplanelaw12.StateNew': WHATEVER THE INPUT: true; the input reads as it did. -/
def stateNewSpec : ChangeSpec := { name := "stateNew", fn := fun _ => fun
  | [d] => { results := [.lit (.bool true)], args := [d] }
  | _ => none }
def stateNewRow : OpenClaim := { program := "ytjobcfpnmfjlfaa", sum := "7f90ffec44b37cd0115f1f2ceee3369e8597889930f89c09996b1d7dd3ab3270", func := "cellplane/cellplanelaw12.StateNew", spec := "stateNew", apart := false }
def StateNewSaid : Prop := stateNewRow.holds Try.pinned (OpenSpec.ofChange stateNewSpec)

/-- ITS FALSE NEIGHBOUR: 'it returns false'. Refute it at one input. -/
def stateNewWrong : ChangeSpec := { name := "stateNew", fn := fun _ => fun
  | [d] => { results := [.lit (.bool false)], args := [d] }
  | _ => none }
def StateNewWrongFalsely : Prop := stateNewRow.holds Try.pinned (OpenSpec.ofChange stateNewWrong)

/-- 'cellplanelaw12.StateCapacity': WHATEVER THE INPUT: true; the input reads as it did. -/
def stateCapacitySpec : ChangeSpec := { name := "stateCapacity", fn := fun _ => fun
  | [d1, d2] => { results := [.lit (.bool true)], args := [d1, d2] }
  | _ => none }
def stateCapacityRow : OpenClaim := { program := "ytjobcfpnmfjlfaa", sum := "7f90ffec44b37cd0115f1f2ceee3369e8597889930f89c09996b1d7dd3ab3270", func := "cellplane/cellplanelaw12.StateCapacity", spec := "stateCapacity", apart := false }
def StateCapacitySaid : Prop := stateCapacityRow.holds Try.pinned (OpenSpec.ofChange stateCapacitySpec)

/-- ITS FALSE NEIGHBOUR: 'it returns false'. Refute it at one input. -/
def stateCapacityWrong : ChangeSpec := { name := "stateCapacity", fn := fun _ => fun
  | [d1, d2] => { results := [.lit (.bool false)], args := [d1, d2] }
  | _ => none }
def StateCapacityWrongFalsely : Prop := stateCapacityRow.holds Try.pinned (OpenSpec.ofChange stateCapacityWrong)

/-- 'cellplanelaw12.StateVersions': WHATEVER THE INPUT: true; the input reads as it did. -/
def stateVersionsSpec : ChangeSpec := { name := "stateVersions", fn := fun _ => fun
  | [d1, d2] => { results := [.lit (.bool true)], args := [d1, d2] }
  | _ => none }
def stateVersionsRow : OpenClaim := { program := "ytjobcfpnmfjlfaa", sum := "7f90ffec44b37cd0115f1f2ceee3369e8597889930f89c09996b1d7dd3ab3270", func := "cellplane/cellplanelaw12.StateVersions", spec := "stateVersions", apart := false }
def StateVersionsSaid : Prop := stateVersionsRow.holds Try.pinned (OpenSpec.ofChange stateVersionsSpec)

/-- ITS FALSE NEIGHBOUR: 'it returns false'. Refute it at one input. -/
def stateVersionsWrong : ChangeSpec := { name := "stateVersions", fn := fun _ => fun
  | [d1, d2] => { results := [.lit (.bool false)], args := [d1, d2] }
  | _ => none }
def StateVersionsWrongFalsely : Prop := stateVersionsRow.holds Try.pinned (OpenSpec.ofChange stateVersionsWrong)

/-- 'cellplanelaw12.StatePlaces': WHATEVER THE INPUT: true; the input reads as it did. -/
def statePlacesSpec : ChangeSpec := { name := "statePlaces", fn := fun _ => fun
  | [d1, d2] => { results := [.lit (.bool true)], args := [d1, d2] }
  | _ => none }
def statePlacesRow : OpenClaim := { program := "ytjobcfpnmfjlfaa", sum := "7f90ffec44b37cd0115f1f2ceee3369e8597889930f89c09996b1d7dd3ab3270", func := "cellplane/cellplanelaw12.StatePlaces", spec := "statePlaces", apart := false }
def StatePlacesSaid : Prop := statePlacesRow.holds Try.pinned (OpenSpec.ofChange statePlacesSpec)

/-- ITS FALSE NEIGHBOUR: 'it returns false'. Refute it at one input. -/
def statePlacesWrong : ChangeSpec := { name := "statePlaces", fn := fun _ => fun
  | [d1, d2] => { results := [.lit (.bool false)], args := [d1, d2] }
  | _ => none }
def StatePlacesWrongFalsely : Prop := statePlacesRow.holds Try.pinned (OpenSpec.ofChange statePlacesWrong)

/-- 'cellplanelaw12.StateEpochs': WHATEVER THE INPUT: true; the input reads as it did. -/
def stateEpochsSpec : ChangeSpec := { name := "stateEpochs", fn := fun _ => fun
  | [d1, d2] => { results := [.lit (.bool true)], args := [d1, d2] }
  | _ => none }
def stateEpochsRow : OpenClaim := { program := "ytjobcfpnmfjlfaa", sum := "7f90ffec44b37cd0115f1f2ceee3369e8597889930f89c09996b1d7dd3ab3270", func := "cellplane/cellplanelaw12.StateEpochs", spec := "stateEpochs", apart := false }
def StateEpochsSaid : Prop := stateEpochsRow.holds Try.pinned (OpenSpec.ofChange stateEpochsSpec)

/-- ITS FALSE NEIGHBOUR: 'it returns false'. Refute it at one input. -/
def stateEpochsWrong : ChangeSpec := { name := "stateEpochs", fn := fun _ => fun
  | [d1, d2] => { results := [.lit (.bool false)], args := [d1, d2] }
  | _ => none }
def StateEpochsWrongFalsely : Prop := stateEpochsRow.holds Try.pinned (OpenSpec.ofChange stateEpochsWrong)

/-- 'cellplanelaw12.StateWindows': WHATEVER THE INPUT: true; the input reads as it did. -/
def stateWindowsSpec : ChangeSpec := { name := "stateWindows", fn := fun _ => fun
  | [d1, d2] => { results := [.lit (.bool true)], args := [d1, d2] }
  | _ => none }
def stateWindowsRow : OpenClaim := { program := "ytjobcfpnmfjlfaa", sum := "7f90ffec44b37cd0115f1f2ceee3369e8597889930f89c09996b1d7dd3ab3270", func := "cellplane/cellplanelaw12.StateWindows", spec := "stateWindows", apart := false }
def StateWindowsSaid : Prop := stateWindowsRow.holds Try.pinned (OpenSpec.ofChange stateWindowsSpec)

/-- ITS FALSE NEIGHBOUR: 'it returns false'. Refute it at one input. -/
def stateWindowsWrong : ChangeSpec := { name := "stateWindows", fn := fun _ => fun
  | [d1, d2] => { results := [.lit (.bool false)], args := [d1, d2] }
  | _ => none }
def StateWindowsWrongFalsely : Prop := stateWindowsRow.holds Try.pinned (OpenSpec.ofChange stateWindowsWrong)

/- THE SECOND FORM. 'bulk': how many values and letters a reading holds, each counted each time it is reached (what is shared counts as often as it is met; a slice's spare places count too). A statement '..UptoSaid' is the law's where the arguments, and the package variables that the reading takes, are together of bulk at most 1048576: NARROWER than '..Said'. Prove '..Said' where nothing that the law and all that it calls make is longer than what came in: it says more and counts as full. Else prove '..UptoSaid'. A law counts once. -/
mutual
def uptoBulk {H : Type} : DataW H → Nat
  | .lit (.string bytes) => bytes.length + 1
  | .lit _ => 1
  | .nil => 1
  | .ptr d => uptoBulk d + 1
  | .slice elems spare => uptoBulkAll elems + uptoBulkAll spare + 1
  | .agg parts => uptoBulkAll parts + 1
  | .iface _ d => uptoBulk d + 1
  | .map entries => uptoBulkEntries entries + 1
  | .held _ => 1
def uptoBulkAll {H : Type} : List (DataW H) → Nat
  | [] => 0
  | d :: r => uptoBulk d + uptoBulkAll r
def uptoBulkEntries {H : Type} : List (Lit × DataW H) → Nat
  | [] => 0
  | x :: r => uptoBulkEntry x + uptoBulkEntries r
def uptoBulkEntry {H : Type} : Lit × DataW H → Nat
  | (.string bytes, d) => bytes.length + uptoBulk d + 1
  | (_, d) => uptoBulk d + 1
 end
def uptoSmall : (H : Type) → List (DataW H) → Bool := fun _ ds => decide (uptoBulkAll ds ≤ 1048576)
def OpenSpec.upto (s : _root_.Go.ChangeSpec) : _root_.Go.OpenSpec := { _root_.Go.OpenSpec.ofChange s with cond := some uptoSmall }

/-- 'cellplanelaw12.StateNew', WHERE WHAT IT READS IS OF BULK AT MOST 1048576: true; the input reads as it did. -/
def stateNewUptoRow : OpenClaim := { program := "ytjobcfpnmfjlfaa", sum := "7f90ffec44b37cd0115f1f2ceee3369e8597889930f89c09996b1d7dd3ab3270", func := "cellplane/cellplanelaw12.StateNew", spec := "stateNew", apart := false, narrowed := true }
def StateNewUptoSaid : Prop := stateNewUptoRow.holds Try.pinned (OpenSpec.upto stateNewSpec)

/-- 'cellplanelaw12.StateCapacity', WHERE WHAT IT READS IS OF BULK AT MOST 1048576: true; the input reads as it did. -/
def stateCapacityUptoRow : OpenClaim := { program := "ytjobcfpnmfjlfaa", sum := "7f90ffec44b37cd0115f1f2ceee3369e8597889930f89c09996b1d7dd3ab3270", func := "cellplane/cellplanelaw12.StateCapacity", spec := "stateCapacity", apart := false, narrowed := true }
def StateCapacityUptoSaid : Prop := stateCapacityUptoRow.holds Try.pinned (OpenSpec.upto stateCapacitySpec)

/-- 'cellplanelaw12.StateVersions', WHERE WHAT IT READS IS OF BULK AT MOST 1048576: true; the input reads as it did. -/
def stateVersionsUptoRow : OpenClaim := { program := "ytjobcfpnmfjlfaa", sum := "7f90ffec44b37cd0115f1f2ceee3369e8597889930f89c09996b1d7dd3ab3270", func := "cellplane/cellplanelaw12.StateVersions", spec := "stateVersions", apart := false, narrowed := true }
def StateVersionsUptoSaid : Prop := stateVersionsUptoRow.holds Try.pinned (OpenSpec.upto stateVersionsSpec)

/-- 'cellplanelaw12.StatePlaces', WHERE WHAT IT READS IS OF BULK AT MOST 1048576: true; the input reads as it did. -/
def statePlacesUptoRow : OpenClaim := { program := "ytjobcfpnmfjlfaa", sum := "7f90ffec44b37cd0115f1f2ceee3369e8597889930f89c09996b1d7dd3ab3270", func := "cellplane/cellplanelaw12.StatePlaces", spec := "statePlaces", apart := false, narrowed := true }
def StatePlacesUptoSaid : Prop := statePlacesUptoRow.holds Try.pinned (OpenSpec.upto statePlacesSpec)

/-- 'cellplanelaw12.StateEpochs', WHERE WHAT IT READS IS OF BULK AT MOST 1048576: true; the input reads as it did. -/
def stateEpochsUptoRow : OpenClaim := { program := "ytjobcfpnmfjlfaa", sum := "7f90ffec44b37cd0115f1f2ceee3369e8597889930f89c09996b1d7dd3ab3270", func := "cellplane/cellplanelaw12.StateEpochs", spec := "stateEpochs", apart := false, narrowed := true }
def StateEpochsUptoSaid : Prop := stateEpochsUptoRow.holds Try.pinned (OpenSpec.upto stateEpochsSpec)

/-- 'cellplanelaw12.StateWindows', WHERE WHAT IT READS IS OF BULK AT MOST 1048576: true; the input reads as it did. -/
def stateWindowsUptoRow : OpenClaim := { program := "ytjobcfpnmfjlfaa", sum := "7f90ffec44b37cd0115f1f2ceee3369e8597889930f89c09996b1d7dd3ab3270", func := "cellplane/cellplanelaw12.StateWindows", spec := "stateWindows", apart := false, narrowed := true }
def StateWindowsUptoSaid : Prop := stateWindowsUptoRow.holds Try.pinned (OpenSpec.upto stateWindowsSpec)

end Rows
end Go.Proofs.Ytjobcfpnmfjlfaa
