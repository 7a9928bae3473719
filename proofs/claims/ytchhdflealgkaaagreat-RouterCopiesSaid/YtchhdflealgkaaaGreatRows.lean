/-
  No cell of these rows narrows 'for every input' (looked for: loops, veiled, ifaces, maps, wideKeys, modest, calm, conditions, laid).
  DERIVED. THE GIVEN ROWS OF THIS SEAT. 5 by the template 'for every input the law returns true; each argument reads behind the call as it read before'; 0 by the template 'total and deterministic' (their statements: YtchhdflealgkaaaGreatTotals.lean).
  GIVEN WITH THE SEED: the statements are not yours to turn. If you find one false, say at which input.
  Laid BY PROGRAM, IN A SANDBOX (cutbox-rows.mjs): the forced cells as the released guide's own fill.sh prints them over the translation 8b6f6311fe460cd7… (all of the seat's roots in one cut). By AI agents, Wed Nov 11 2026. No macro, syntax, notation, axiom, sorry.
-/
import Derived.Test.YtchhdflealgkaaaGreatChecked
import GoSem.Claim
import GoSem.ClaimJoined
import GoSem.ClaimMapViews
import Derived.JoinedTies
import Derived.KernelRfl
namespace Go.Proofs.YtchhdflealgkaaaGreat
/- THE CELL 'sum', in the pinned program and in every row, IS THE sha256 OF THE DUMP (.gsa) THAT YtchhdflealgkaaaGreatProg.lean LOADS. Nothing in Lean hashes anything: it is a label: what it is worth is what the hold of that sum in a sandbox is worth. -/
noncomputable def Tryz.pinned : Pinned := { name := "ytchhdflealgkaaagreat", sum := "8b6f6311fe460cd7049bfb08c52f552440334044515ad0bbf9ec6cfe9ce1751b", checked := Tryz.checked }
namespace Rows
def none {H : Type} : Left H := { results := [], args := [] }

/-- 'cellplanelaw16.RouterPlays': WHATEVER THE INPUT: true; the input reads as it did. -/
def routerPlaysSpec : ChangeSpec := { name := "routerPlays", fn := fun _ => fun
  | [d1, d2, d3, d4] => { results := [.lit (.bool true)], args := [d1, d2, d3, d4] }
  | _ => none }
def routerPlaysRow : OpenClaim := { program := "ytchhdflealgkaaagreat", sum := "8b6f6311fe460cd7049bfb08c52f552440334044515ad0bbf9ec6cfe9ce1751b", func := "cellplane/cellplanelaw16.RouterPlays", spec := "routerPlays", unfollowed := true, recurses := true, apart := false }
def RouterPlaysSaid : Prop := routerPlaysRow.holds Tryz.pinned (OpenSpec.ofChange routerPlaysSpec)

/-- ITS FALSE NEIGHBOUR: 'it returns false'. Refute it at one input. -/
def routerPlaysWrong : ChangeSpec := { name := "routerPlays", fn := fun _ => fun
  | [d1, d2, d3, d4] => { results := [.lit (.bool false)], args := [d1, d2, d3, d4] }
  | _ => none }
def RouterPlaysWrongFalsely : Prop := routerPlaysRow.holds Tryz.pinned (OpenSpec.ofChange routerPlaysWrong)

/-- 'cellplanelaw16.RouterCopies': WHATEVER THE INPUT: true; the input reads as it did. -/
def routerCopiesSpec : ChangeSpec := { name := "routerCopies", fn := fun _ => fun
  | [d1, d2, d3, d4, d5] => { results := [.lit (.bool true)], args := [d1, d2, d3, d4, d5] }
  | _ => none }
def routerCopiesRow : OpenClaim := { program := "ytchhdflealgkaaagreat", sum := "8b6f6311fe460cd7049bfb08c52f552440334044515ad0bbf9ec6cfe9ce1751b", func := "cellplane/cellplanelaw16.RouterCopies", spec := "routerCopies", inPlace := ["maps.clone"], unfollowed := true, recurses := true, apart := false }
def RouterCopiesSaid : Prop := routerCopiesRow.holds Tryz.pinned (OpenSpec.ofChange routerCopiesSpec)

/-- ITS FALSE NEIGHBOUR: 'it returns false'. Refute it at one input. -/
def routerCopiesWrong : ChangeSpec := { name := "routerCopies", fn := fun _ => fun
  | [d1, d2, d3, d4, d5] => { results := [.lit (.bool false)], args := [d1, d2, d3, d4, d5] }
  | _ => none }
def RouterCopiesWrongFalsely : Prop := routerCopiesRow.holds Tryz.pinned (OpenSpec.ofChange routerCopiesWrong)

/-- 'cellplanelaw31.MigrateBegins': WHATEVER THE INPUT: true; the input reads as it did. -/
def migrateBeginsSpec : ChangeSpec := { name := "migrateBegins", fn := fun _ => fun
  | [d1, d2, d3, d4, d5] => { results := [.lit (.bool true)], args := [d1, d2, d3, d4, d5] }
  | _ => none }
def migrateBeginsRow : OpenClaim := { program := "ytchhdflealgkaaagreat", sum := "8b6f6311fe460cd7049bfb08c52f552440334044515ad0bbf9ec6cfe9ce1751b", func := "cellplane/cellplanelaw31.MigrateBegins", spec := "migrateBegins", apart := false }
def MigrateBeginsSaid : Prop := migrateBeginsRow.holds Tryz.pinned (OpenSpec.ofChange migrateBeginsSpec)

/-- ITS FALSE NEIGHBOUR: 'it returns false'. Refute it at one input. -/
def migrateBeginsWrong : ChangeSpec := { name := "migrateBegins", fn := fun _ => fun
  | [d1, d2, d3, d4, d5] => { results := [.lit (.bool false)], args := [d1, d2, d3, d4, d5] }
  | _ => none }
def MigrateBeginsWrongFalsely : Prop := migrateBeginsRow.holds Tryz.pinned (OpenSpec.ofChange migrateBeginsWrong)

/-- 'cellplanelaw31.MigrateEntries': WHATEVER THE INPUT: true; the input reads as it did. -/
def migrateEntriesSpec : ChangeSpec := { name := "migrateEntries", fn := fun _ => fun
  | [d1, d2, d3, d4, d5] => { results := [.lit (.bool true)], args := [d1, d2, d3, d4, d5] }
  | _ => none }
def migrateEntriesRow : OpenClaim := { program := "ytchhdflealgkaaagreat", sum := "8b6f6311fe460cd7049bfb08c52f552440334044515ad0bbf9ec6cfe9ce1751b", func := "cellplane/cellplanelaw31.MigrateEntries", spec := "migrateEntries", apart := false }
def MigrateEntriesSaid : Prop := migrateEntriesRow.holds Tryz.pinned (OpenSpec.ofChange migrateEntriesSpec)

/-- ITS FALSE NEIGHBOUR: 'it returns false'. Refute it at one input. -/
def migrateEntriesWrong : ChangeSpec := { name := "migrateEntries", fn := fun _ => fun
  | [d1, d2, d3, d4, d5] => { results := [.lit (.bool false)], args := [d1, d2, d3, d4, d5] }
  | _ => none }
def MigrateEntriesWrongFalsely : Prop := migrateEntriesRow.holds Tryz.pinned (OpenSpec.ofChange migrateEntriesWrong)

/-- 'cellplanelaw31.MigrateLog': WHATEVER THE INPUT: true; the input reads as it did. -/
def migrateLogSpec : ChangeSpec := { name := "migrateLog", fn := fun _ => fun
  | [d1, d2, d3, d4, d5] => { results := [.lit (.bool true)], args := [d1, d2, d3, d4, d5] }
  | _ => none }
def migrateLogRow : OpenClaim := { program := "ytchhdflealgkaaagreat", sum := "8b6f6311fe460cd7049bfb08c52f552440334044515ad0bbf9ec6cfe9ce1751b", func := "cellplane/cellplanelaw31.MigrateLog", spec := "migrateLog", apart := false }
def MigrateLogSaid : Prop := migrateLogRow.holds Tryz.pinned (OpenSpec.ofChange migrateLogSpec)

/-- ITS FALSE NEIGHBOUR: 'it returns false'. Refute it at one input. -/
def migrateLogWrong : ChangeSpec := { name := "migrateLog", fn := fun _ => fun
  | [d1, d2, d3, d4, d5] => { results := [.lit (.bool false)], args := [d1, d2, d3, d4, d5] }
  | _ => none }
def MigrateLogWrongFalsely : Prop := migrateLogRow.holds Tryz.pinned (OpenSpec.ofChange migrateLogWrong)

/- THE SECOND FORM. 'bulk': how many values and letters a reading holds, each counted each time it is reached (what is shared counts as often as it is met; a slice's spare places count too). A statement '..UptoSaid' is the law's where the arguments, and the package variables that the reading takes, are together of bulk at most 1048576: NARROWER than '..Said'. Prove '..Said' where nothing that the law and all that it calls make is longer than what came in: it says more and counts as full. Else prove '..UptoSaid'. A law counts once. -/
mutual
def uptoBulk {H : Type} : DataW H → Nat
  | .lit (.string bytes) => bytes.length + 1
  | .lit _ => 1
  | .nil => 1
  | .ptr d => uptoBulk d + 1
  | .slice elems spare => uptoBulkAll elems + uptoBulkAll spare + 1
  | .agg parts => uptoBulkAll parts + 1
  | .iface _ d => uptoBulk d + 1
  | .map entries => uptoBulkEntries entries + 1
  | .held _ => 1
def uptoBulkAll {H : Type} : List (DataW H) → Nat
  | [] => 0
  | d :: r => uptoBulk d + uptoBulkAll r
def uptoBulkEntries {H : Type} : List (Lit × DataW H) → Nat
  | [] => 0
  | x :: r => uptoBulkEntry x + uptoBulkEntries r
def uptoBulkEntry {H : Type} : Lit × DataW H → Nat
  | (.string bytes, d) => bytes.length + uptoBulk d + 1
  | (_, d) => uptoBulk d + 1
 end
def uptoSmall : (H : Type) → List (DataW H) → Bool := fun _ ds => decide (uptoBulkAll ds ≤ 1048576)
def OpenSpec.upto (s : _root_.Go.ChangeSpec) : _root_.Go.OpenSpec := { _root_.Go.OpenSpec.ofChange s with cond := some uptoSmall }

/-- 'cellplanelaw16.RouterPlays', WHERE WHAT IT READS IS OF BULK AT MOST 1048576: true; the input reads as it did. -/
def routerPlaysUptoRow : OpenClaim := { program := "ytchhdflealgkaaagreat", sum := "8b6f6311fe460cd7049bfb08c52f552440334044515ad0bbf9ec6cfe9ce1751b", func := "cellplane/cellplanelaw16.RouterPlays", spec := "routerPlays", unfollowed := true, recurses := true, apart := false, narrowed := true }
def RouterPlaysUptoSaid : Prop := routerPlaysUptoRow.holds Tryz.pinned (OpenSpec.upto routerPlaysSpec)

/-- 'cellplanelaw16.RouterCopies', WHERE WHAT IT READS IS OF BULK AT MOST 1048576: true; the input reads as it did. -/
def routerCopiesUptoRow : OpenClaim := { program := "ytchhdflealgkaaagreat", sum := "8b6f6311fe460cd7049bfb08c52f552440334044515ad0bbf9ec6cfe9ce1751b", func := "cellplane/cellplanelaw16.RouterCopies", spec := "routerCopies", inPlace := ["maps.clone"], unfollowed := true, recurses := true, apart := false, narrowed := true }
def RouterCopiesUptoSaid : Prop := routerCopiesUptoRow.holds Tryz.pinned (OpenSpec.upto routerCopiesSpec)

/-- 'cellplanelaw31.MigrateBegins', WHERE WHAT IT READS IS OF BULK AT MOST 1048576: true; the input reads as it did. -/
def migrateBeginsUptoRow : OpenClaim := { program := "ytchhdflealgkaaagreat", sum := "8b6f6311fe460cd7049bfb08c52f552440334044515ad0bbf9ec6cfe9ce1751b", func := "cellplane/cellplanelaw31.MigrateBegins", spec := "migrateBegins", apart := false, narrowed := true }
def MigrateBeginsUptoSaid : Prop := migrateBeginsUptoRow.holds Tryz.pinned (OpenSpec.upto migrateBeginsSpec)

/-- 'cellplanelaw31.MigrateEntries', WHERE WHAT IT READS IS OF BULK AT MOST 1048576: true; the input reads as it did. -/
def migrateEntriesUptoRow : OpenClaim := { program := "ytchhdflealgkaaagreat", sum := "8b6f6311fe460cd7049bfb08c52f552440334044515ad0bbf9ec6cfe9ce1751b", func := "cellplane/cellplanelaw31.MigrateEntries", spec := "migrateEntries", apart := false, narrowed := true }
def MigrateEntriesUptoSaid : Prop := migrateEntriesUptoRow.holds Tryz.pinned (OpenSpec.upto migrateEntriesSpec)

/-- 'cellplanelaw31.MigrateLog', WHERE WHAT IT READS IS OF BULK AT MOST 1048576: true; the input reads as it did. -/
def migrateLogUptoRow : OpenClaim := { program := "ytchhdflealgkaaagreat", sum := "8b6f6311fe460cd7049bfb08c52f552440334044515ad0bbf9ec6cfe9ce1751b", func := "cellplane/cellplanelaw31.MigrateLog", spec := "migrateLog", apart := false, narrowed := true }
def MigrateLogUptoSaid : Prop := migrateLogUptoRow.holds Tryz.pinned (OpenSpec.upto migrateLogSpec)

end Rows
end Go.Proofs.YtchhdflealgkaaaGreat
