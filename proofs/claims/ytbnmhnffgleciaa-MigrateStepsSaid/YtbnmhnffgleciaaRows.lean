/-
  No cell of these rows narrows 'for every input' (looked for: loops, veiled, ifaces, maps, wideKeys, modest, calm, conditions, laid).
  DERIVED. THE GIVEN ROWS OF THIS SEAT. 4 by the template 'for every input the law returns true; each argument reads behind the call as it read before'; 0 by the template 'total and deterministic' (their statements: YtbnmhnffgleciaaTotals.lean).
  GIVEN WITH THE SEED: the statements are not yours to turn. If you find one false, say at which input.
  Laid BY PROGRAM, IN A SANDBOX (cutbox-rows.mjs): the forced cells as the released guide's own fill.sh prints them over the translation 1ec515a939416188… (all of the seat's roots in one cut). By AI agents, Wed Nov 11 2026. No macro, syntax, notation, axiom, sorry.
-/
import Derived.Test.YtbnmhnffgleciaaChecked
import GoSem.Claim
import GoSem.ClaimJoined
import GoSem.ClaimMapViews
import Derived.JoinedTies
import Derived.KernelRfl
namespace Go.Proofs.Ytbnmhnffgleciaa
/- THE CELL 'sum', in the pinned program and in every row, IS THE sha256 OF THE DUMP (.gsa) THAT YtbnmhnffgleciaaProg.lean LOADS. Nothing in Lean hashes anything: it is a label: what it is worth is what the hold of that sum in a sandbox is worth. -/
noncomputable def Try.pinned : Pinned := { name := "ytbnmhnffgleciaa", sum := "1ec515a93941618825827b398ddb6d6ca8fbebc9d5b21a88565f7b0ed2cd2489", checked := Try.checked }
namespace Rows
def none {H : Type} : Left H := { results := [], args := [] }

/-- 'cellplanelaw31.MigrateOrder': WHATEVER THE INPUT: true; the input reads as it did. -/
def migrateOrderSpec : ChangeSpec := { name := "migrateOrder", fn := fun _ => fun
  | [d1, d2] => { results := [.lit (.bool true)], args := [d1, d2] }
  | _ => none }
def migrateOrderRow : OpenClaim := { program := "ytbnmhnffgleciaa", sum := "1ec515a93941618825827b398ddb6d6ca8fbebc9d5b21a88565f7b0ed2cd2489", func := "cellplane/cellplanelaw31.MigrateOrder", spec := "migrateOrder", apart := false }
def MigrateOrderSaid : Prop := migrateOrderRow.holds Try.pinned (OpenSpec.ofChange migrateOrderSpec)

/-- ITS FALSE NEIGHBOUR: 'it returns false'. Refute it at one input. -/
def migrateOrderWrong : ChangeSpec := { name := "migrateOrder", fn := fun _ => fun
  | [d1, d2] => { results := [.lit (.bool false)], args := [d1, d2] }
  | _ => none }
def MigrateOrderWrongFalsely : Prop := migrateOrderRow.holds Try.pinned (OpenSpec.ofChange migrateOrderWrong)

/-- 'cellplanelaw31.MigrateEnds': WHATEVER THE INPUT: true; the input reads as it did. -/
def migrateEndsSpec : ChangeSpec := { name := "migrateEnds", fn := fun _ => fun
  | [d1, d2, d3] => { results := [.lit (.bool true)], args := [d1, d2, d3] }
  | _ => none }
def migrateEndsRow : OpenClaim := { program := "ytbnmhnffgleciaa", sum := "1ec515a93941618825827b398ddb6d6ca8fbebc9d5b21a88565f7b0ed2cd2489", func := "cellplane/cellplanelaw31.MigrateEnds", spec := "migrateEnds", apart := false }
def MigrateEndsSaid : Prop := migrateEndsRow.holds Try.pinned (OpenSpec.ofChange migrateEndsSpec)

/-- ITS FALSE NEIGHBOUR: 'it returns false'. Refute it at one input. -/
def migrateEndsWrong : ChangeSpec := { name := "migrateEnds", fn := fun _ => fun
  | [d1, d2, d3] => { results := [.lit (.bool false)], args := [d1, d2, d3] }
  | _ => none }
def MigrateEndsWrongFalsely : Prop := migrateEndsRow.holds Try.pinned (OpenSpec.ofChange migrateEndsWrong)

/-- 'cellplanelaw31.MigrateSteps': WHATEVER THE INPUT: true; the input reads as it did. -/
def migrateStepsSpec : ChangeSpec := { name := "migrateSteps", fn := fun _ => fun
  | [d1, d2, d3] => { results := [.lit (.bool true)], args := [d1, d2, d3] }
  | _ => none }
def migrateStepsRow : OpenClaim := { program := "ytbnmhnffgleciaa", sum := "1ec515a93941618825827b398ddb6d6ca8fbebc9d5b21a88565f7b0ed2cd2489", func := "cellplane/cellplanelaw31.MigrateSteps", spec := "migrateSteps", apart := false }
def MigrateStepsSaid : Prop := migrateStepsRow.holds Try.pinned (OpenSpec.ofChange migrateStepsSpec)

/-- ITS FALSE NEIGHBOUR: 'it returns false'. Refute it at one input. -/
def migrateStepsWrong : ChangeSpec := { name := "migrateSteps", fn := fun _ => fun
  | [d1, d2, d3] => { results := [.lit (.bool false)], args := [d1, d2, d3] }
  | _ => none }
def MigrateStepsWrongFalsely : Prop := migrateStepsRow.holds Try.pinned (OpenSpec.ofChange migrateStepsWrong)

/-- 'cellplanelaw31.MigrateCopies': WHATEVER THE INPUT: true; the input reads as it did. -/
def migrateCopiesSpec : ChangeSpec := { name := "migrateCopies", fn := fun _ => fun
  | [d1, d2] => { results := [.lit (.bool true)], args := [d1, d2] }
  | _ => none }
def migrateCopiesRow : OpenClaim := { program := "ytbnmhnffgleciaa", sum := "1ec515a93941618825827b398ddb6d6ca8fbebc9d5b21a88565f7b0ed2cd2489", func := "cellplane/cellplanelaw31.MigrateCopies", spec := "migrateCopies", apart := false }
def MigrateCopiesSaid : Prop := migrateCopiesRow.holds Try.pinned (OpenSpec.ofChange migrateCopiesSpec)

/-- ITS FALSE NEIGHBOUR: 'it returns false'. Refute it at one input. -/
def migrateCopiesWrong : ChangeSpec := { name := "migrateCopies", fn := fun _ => fun
  | [d1, d2] => { results := [.lit (.bool false)], args := [d1, d2] }
  | _ => none }
def MigrateCopiesWrongFalsely : Prop := migrateCopiesRow.holds Try.pinned (OpenSpec.ofChange migrateCopiesWrong)

/- THE SECOND FORM. 'bulk': how many values and letters a reading holds, each counted each time it is reached (what is shared counts as often as it is met; a slice's spare places count too). A statement '..UptoSaid' is the law's where the arguments, and the package variables that the reading takes, are together of bulk at most 1048576: NARROWER than '..Said'. Prove '..Said' where nothing that the law and all that it calls make is longer than what came in: it says more and counts as full. Else prove '..UptoSaid'. A law counts once. -/
mutual
def uptoBulk {H : Type} : DataW H → Nat
  | .lit (.string bytes) => bytes.length + 1
  | .lit _ => 1
  | .nil => 1
  | .ptr d => uptoBulk d + 1
  | .slice elems spare => uptoBulkAll elems + uptoBulkAll spare + 1
  | .agg parts => uptoBulkAll parts + 1
  | .iface _ d => uptoBulk d + 1
  | .map entries => uptoBulkEntries entries + 1
  | .held _ => 1
def uptoBulkAll {H : Type} : List (DataW H) → Nat
  | [] => 0
  | d :: r => uptoBulk d + uptoBulkAll r
def uptoBulkEntries {H : Type} : List (Lit × DataW H) → Nat
  | [] => 0
  | x :: r => uptoBulkEntry x + uptoBulkEntries r
def uptoBulkEntry {H : Type} : Lit × DataW H → Nat
  | (.string bytes, d) => bytes.length + uptoBulk d + 1
  | (_, d) => uptoBulk d + 1
 end
def uptoSmall : (H : Type) → List (DataW H) → Bool := fun _ ds => decide (uptoBulkAll ds ≤ 1048576)
def OpenSpec.upto (s : _root_.Go.ChangeSpec) : _root_.Go.OpenSpec := { _root_.Go.OpenSpec.ofChange s with cond := some uptoSmall }

/-- 'cellplanelaw31.MigrateOrder', WHERE WHAT IT READS IS OF BULK AT MOST 1048576: true; the input reads as it did. -/
def migrateOrderUptoRow : OpenClaim := { program := "ytbnmhnffgleciaa", sum := "1ec515a93941618825827b398ddb6d6ca8fbebc9d5b21a88565f7b0ed2cd2489", func := "cellplane/cellplanelaw31.MigrateOrder", spec := "migrateOrder", apart := false, narrowed := true }
def MigrateOrderUptoSaid : Prop := migrateOrderUptoRow.holds Try.pinned (OpenSpec.upto migrateOrderSpec)

/-- 'cellplanelaw31.MigrateEnds', WHERE WHAT IT READS IS OF BULK AT MOST 1048576: true; the input reads as it did. -/
def migrateEndsUptoRow : OpenClaim := { program := "ytbnmhnffgleciaa", sum := "1ec515a93941618825827b398ddb6d6ca8fbebc9d5b21a88565f7b0ed2cd2489", func := "cellplane/cellplanelaw31.MigrateEnds", spec := "migrateEnds", apart := false, narrowed := true }
def MigrateEndsUptoSaid : Prop := migrateEndsUptoRow.holds Try.pinned (OpenSpec.upto migrateEndsSpec)

/-- 'cellplanelaw31.MigrateSteps', WHERE WHAT IT READS IS OF BULK AT MOST 1048576: true; the input reads as it did. -/
def migrateStepsUptoRow : OpenClaim := { program := "ytbnmhnffgleciaa", sum := "1ec515a93941618825827b398ddb6d6ca8fbebc9d5b21a88565f7b0ed2cd2489", func := "cellplane/cellplanelaw31.MigrateSteps", spec := "migrateSteps", apart := false, narrowed := true }
def MigrateStepsUptoSaid : Prop := migrateStepsUptoRow.holds Try.pinned (OpenSpec.upto migrateStepsSpec)

/-- 'cellplanelaw31.MigrateCopies', WHERE WHAT IT READS IS OF BULK AT MOST 1048576: true; the input reads as it did. -/
def migrateCopiesUptoRow : OpenClaim := { program := "ytbnmhnffgleciaa", sum := "1ec515a93941618825827b398ddb6d6ca8fbebc9d5b21a88565f7b0ed2cd2489", func := "cellplane/cellplanelaw31.MigrateCopies", spec := "migrateCopies", apart := false, narrowed := true }
def MigrateCopiesUptoSaid : Prop := migrateCopiesUptoRow.holds Try.pinned (OpenSpec.upto migrateCopiesSpec)

end Rows
end Go.Proofs.Ytbnmhnffgleciaa
