/-
  No cell of these rows narrows 'for every input' (looked for: loops, veiled, ifaces, maps, wideKeys, modest, calm, conditions, laid).
  DERIVED. THE GIVEN ROWS OF THIS SEAT. 8 by the template 'for every input the law returns true; each argument reads behind the call as it read before'; 0 by the template 'total and deterministic' (their statements: YtnnpgbleacapfaaGreatTotals.lean).
  GIVEN WITH THE SEED: the statements are not yours to turn. If you find one false, say at which input.
  Laid BY PROGRAM, IN A SANDBOX (cutbox-rows.mjs): the forced cells as the released guide's own fill.sh prints them over the translation 03e690cdd48e389c… (all of the seat's roots in one cut). By AI agents, Wed Nov 11 2026. No macro, syntax, notation, axiom, sorry.
-/
import Derived.Test.YtnnpgbleacapfaaGreatChecked
import GoSem.Claim
import GoSem.ClaimJoined
import GoSem.ClaimMapViews
import Derived.JoinedTies
import Derived.KernelRfl
namespace Go.Proofs.YtnnpgbleacapfaaGreat
/- THE CELL 'sum', in the pinned program and in every row, IS THE sha256 OF THE DUMP (.gsa) THAT YtnnpgbleacapfaaGreatProg.lean LOADS. Nothing in Lean hashes anything: it is a label: what it is worth is what the hold of that sum in a sandbox is worth. -/
noncomputable def Tryz.pinned : Pinned := { name := "ytnnpgbleacapfaagreat", sum := "03e690cdd48e389ca16450240dfed45f1ecb348ad7ce036126ff88e89d97f88e", checked := Tryz.checked }
namespace Rows
def none {H : Type} : Left H := { results := [], args := [] }

/-- 'cellplanelaw39.SchemaNexts': WHATEVER THE INPUT: true; the input reads as it did. -/
def schemaNextsSpec : ChangeSpec := { name := "schemaNexts", fn := fun _ => fun
  | [d1, d2, d3, d4, d5, d6] => { results := [.lit (.bool true)], args := [d1, d2, d3, d4, d5, d6] }
  | _ => none }
def schemaNextsRow : OpenClaim := { program := "ytnnpgbleacapfaagreat", sum := "03e690cdd48e389ca16450240dfed45f1ecb348ad7ce036126ff88e89d97f88e", func := "cellplane/cellplanelaw39.SchemaNexts", spec := "schemaNexts", unfollowed := true, recurses := true, apart := false }
def SchemaNextsSaid : Prop := schemaNextsRow.holds Tryz.pinned (OpenSpec.ofChange schemaNextsSpec)

/-- ITS FALSE NEIGHBOUR: 'it returns false'. Refute it at one input. -/
def schemaNextsWrong : ChangeSpec := { name := "schemaNexts", fn := fun _ => fun
  | [d1, d2, d3, d4, d5, d6] => { results := [.lit (.bool false)], args := [d1, d2, d3, d4, d5, d6] }
  | _ => none }
def SchemaNextsWrongFalsely : Prop := schemaNextsRow.holds Tryz.pinned (OpenSpec.ofChange schemaNextsWrong)

/-- 'cellplanelaw39.SchemaGoes': WHATEVER THE INPUT: true; the input reads as it did. -/
def schemaGoesSpec : ChangeSpec := { name := "schemaGoes", fn := fun _ => fun
  | [d1, d2, d3, d4] => { results := [.lit (.bool true)], args := [d1, d2, d3, d4] }
  | _ => none }
def schemaGoesRow : OpenClaim := { program := "ytnnpgbleacapfaagreat", sum := "03e690cdd48e389ca16450240dfed45f1ecb348ad7ce036126ff88e89d97f88e", func := "cellplane/cellplanelaw39.SchemaGoes", spec := "schemaGoes", unfollowed := true, recurses := true, apart := false }
def SchemaGoesSaid : Prop := schemaGoesRow.holds Tryz.pinned (OpenSpec.ofChange schemaGoesSpec)

/-- ITS FALSE NEIGHBOUR: 'it returns false'. Refute it at one input. -/
def schemaGoesWrong : ChangeSpec := { name := "schemaGoes", fn := fun _ => fun
  | [d1, d2, d3, d4] => { results := [.lit (.bool false)], args := [d1, d2, d3, d4] }
  | _ => none }
def SchemaGoesWrongFalsely : Prop := schemaGoesRow.holds Tryz.pinned (OpenSpec.ofChange schemaGoesWrong)

/-- 'cellplanelaw39.SchemaMoves': WHATEVER THE INPUT: true; the input reads as it did. -/
def schemaMovesSpec : ChangeSpec := { name := "schemaMoves", fn := fun _ => fun
  | [d1, d2, d3, d4, d5] => { results := [.lit (.bool true)], args := [d1, d2, d3, d4, d5] }
  | _ => none }
def schemaMovesRow : OpenClaim := { program := "ytnnpgbleacapfaagreat", sum := "03e690cdd48e389ca16450240dfed45f1ecb348ad7ce036126ff88e89d97f88e", func := "cellplane/cellplanelaw39.SchemaMoves", spec := "schemaMoves", unfollowed := true, recurses := true, apart := false }
def SchemaMovesSaid : Prop := schemaMovesRow.holds Tryz.pinned (OpenSpec.ofChange schemaMovesSpec)

/-- ITS FALSE NEIGHBOUR: 'it returns false'. Refute it at one input. -/
def schemaMovesWrong : ChangeSpec := { name := "schemaMoves", fn := fun _ => fun
  | [d1, d2, d3, d4, d5] => { results := [.lit (.bool false)], args := [d1, d2, d3, d4, d5] }
  | _ => none }
def SchemaMovesWrongFalsely : Prop := schemaMovesRow.holds Tryz.pinned (OpenSpec.ofChange schemaMovesWrong)

/-- 'cellplanelaw39.SchemaWaits': WHATEVER THE INPUT: true; the input reads as it did. -/
def schemaWaitsSpec : ChangeSpec := { name := "schemaWaits", fn := fun _ => fun
  | [d1, d2, d3, d4] => { results := [.lit (.bool true)], args := [d1, d2, d3, d4] }
  | _ => none }
def schemaWaitsRow : OpenClaim := { program := "ytnnpgbleacapfaagreat", sum := "03e690cdd48e389ca16450240dfed45f1ecb348ad7ce036126ff88e89d97f88e", func := "cellplane/cellplanelaw39.SchemaWaits", spec := "schemaWaits", unfollowed := true, recurses := true, apart := false }
def SchemaWaitsSaid : Prop := schemaWaitsRow.holds Tryz.pinned (OpenSpec.ofChange schemaWaitsSpec)

/-- ITS FALSE NEIGHBOUR: 'it returns false'. Refute it at one input. -/
def schemaWaitsWrong : ChangeSpec := { name := "schemaWaits", fn := fun _ => fun
  | [d1, d2, d3, d4] => { results := [.lit (.bool false)], args := [d1, d2, d3, d4] }
  | _ => none }
def SchemaWaitsWrongFalsely : Prop := schemaWaitsRow.holds Tryz.pinned (OpenSpec.ofChange schemaWaitsWrong)

/-- 'cellplanelaw39.SchemaReads': WHATEVER THE INPUT: true; the input reads as it did. -/
def schemaReadsSpec : ChangeSpec := { name := "schemaReads", fn := fun _ => fun
  | [d1, d2, d3, d4] => { results := [.lit (.bool true)], args := [d1, d2, d3, d4] }
  | _ => none }
def schemaReadsRow : OpenClaim := { program := "ytnnpgbleacapfaagreat", sum := "03e690cdd48e389ca16450240dfed45f1ecb348ad7ce036126ff88e89d97f88e", func := "cellplane/cellplanelaw39.SchemaReads", spec := "schemaReads", unfollowed := true, recurses := true, apart := false }
def SchemaReadsSaid : Prop := schemaReadsRow.holds Tryz.pinned (OpenSpec.ofChange schemaReadsSpec)

/-- ITS FALSE NEIGHBOUR: 'it returns false'. Refute it at one input. -/
def schemaReadsWrong : ChangeSpec := { name := "schemaReads", fn := fun _ => fun
  | [d1, d2, d3, d4] => { results := [.lit (.bool false)], args := [d1, d2, d3, d4] }
  | _ => none }
def SchemaReadsWrongFalsely : Prop := schemaReadsRow.holds Tryz.pinned (OpenSpec.ofChange schemaReadsWrong)

/-- 'cellplanelaw31.MigrateBegins': WHATEVER THE INPUT: true; the input reads as it did. -/
def migrateBeginsSpec : ChangeSpec := { name := "migrateBegins", fn := fun _ => fun
  | [d1, d2, d3, d4, d5] => { results := [.lit (.bool true)], args := [d1, d2, d3, d4, d5] }
  | _ => none }
def migrateBeginsRow : OpenClaim := { program := "ytnnpgbleacapfaagreat", sum := "03e690cdd48e389ca16450240dfed45f1ecb348ad7ce036126ff88e89d97f88e", func := "cellplane/cellplanelaw31.MigrateBegins", spec := "migrateBegins", apart := false }
def MigrateBeginsSaid : Prop := migrateBeginsRow.holds Tryz.pinned (OpenSpec.ofChange migrateBeginsSpec)

/-- ITS FALSE NEIGHBOUR: 'it returns false'. Refute it at one input. -/
def migrateBeginsWrong : ChangeSpec := { name := "migrateBegins", fn := fun _ => fun
  | [d1, d2, d3, d4, d5] => { results := [.lit (.bool false)], args := [d1, d2, d3, d4, d5] }
  | _ => none }
def MigrateBeginsWrongFalsely : Prop := migrateBeginsRow.holds Tryz.pinned (OpenSpec.ofChange migrateBeginsWrong)

/-- 'cellplanelaw31.MigrateEntries': WHATEVER THE INPUT: true; the input reads as it did. -/
def migrateEntriesSpec : ChangeSpec := { name := "migrateEntries", fn := fun _ => fun
  | [d1, d2, d3, d4, d5] => { results := [.lit (.bool true)], args := [d1, d2, d3, d4, d5] }
  | _ => none }
def migrateEntriesRow : OpenClaim := { program := "ytnnpgbleacapfaagreat", sum := "03e690cdd48e389ca16450240dfed45f1ecb348ad7ce036126ff88e89d97f88e", func := "cellplane/cellplanelaw31.MigrateEntries", spec := "migrateEntries", apart := false }
def MigrateEntriesSaid : Prop := migrateEntriesRow.holds Tryz.pinned (OpenSpec.ofChange migrateEntriesSpec)

/-- ITS FALSE NEIGHBOUR: 'it returns false'. Refute it at one input. -/
def migrateEntriesWrong : ChangeSpec := { name := "migrateEntries", fn := fun _ => fun
  | [d1, d2, d3, d4, d5] => { results := [.lit (.bool false)], args := [d1, d2, d3, d4, d5] }
  | _ => none }
def MigrateEntriesWrongFalsely : Prop := migrateEntriesRow.holds Tryz.pinned (OpenSpec.ofChange migrateEntriesWrong)

/-- 'cellplanelaw31.MigrateLog': WHATEVER THE INPUT: true; the input reads as it did. -/
def migrateLogSpec : ChangeSpec := { name := "migrateLog", fn := fun _ => fun
  | [d1, d2, d3, d4, d5] => { results := [.lit (.bool true)], args := [d1, d2, d3, d4, d5] }
  | _ => none }
def migrateLogRow : OpenClaim := { program := "ytnnpgbleacapfaagreat", sum := "03e690cdd48e389ca16450240dfed45f1ecb348ad7ce036126ff88e89d97f88e", func := "cellplane/cellplanelaw31.MigrateLog", spec := "migrateLog", apart := false }
def MigrateLogSaid : Prop := migrateLogRow.holds Tryz.pinned (OpenSpec.ofChange migrateLogSpec)

/-- ITS FALSE NEIGHBOUR: 'it returns false'. Refute it at one input. -/
def migrateLogWrong : ChangeSpec := { name := "migrateLog", fn := fun _ => fun
  | [d1, d2, d3, d4, d5] => { results := [.lit (.bool false)], args := [d1, d2, d3, d4, d5] }
  | _ => none }
def MigrateLogWrongFalsely : Prop := migrateLogRow.holds Tryz.pinned (OpenSpec.ofChange migrateLogWrong)

/- THE SECOND FORM. 'bulk': how many values and letters a reading holds, each counted each time it is reached (what is shared counts as often as it is met; a slice's spare places count too). A statement '..UptoSaid' is the law's where the arguments, and the package variables that the reading takes, are together of bulk at most 1048576: NARROWER than '..Said'. Prove '..Said' where nothing that the law and all that it calls make is longer than what came in: it says more and counts as full. Else prove '..UptoSaid'. A law counts once. -/
mutual
def uptoBulk {H : Type} : DataW H → Nat
  | .lit (.string bytes) => bytes.length + 1
  | .lit _ => 1
  | .nil => 1
  | .ptr d => uptoBulk d + 1
  | .slice elems spare => uptoBulkAll elems + uptoBulkAll spare + 1
  | .agg parts => uptoBulkAll parts + 1
  | .iface _ d => uptoBulk d + 1
  | .map entries => uptoBulkEntries entries + 1
  | .held _ => 1
def uptoBulkAll {H : Type} : List (DataW H) → Nat
  | [] => 0
  | d :: r => uptoBulk d + uptoBulkAll r
def uptoBulkEntries {H : Type} : List (Lit × DataW H) → Nat
  | [] => 0
  | x :: r => uptoBulkEntry x + uptoBulkEntries r
def uptoBulkEntry {H : Type} : Lit × DataW H → Nat
  | (.string bytes, d) => bytes.length + uptoBulk d + 1
  | (_, d) => uptoBulk d + 1
 end
def uptoSmall : (H : Type) → List (DataW H) → Bool := fun _ ds => decide (uptoBulkAll ds ≤ 1048576)
def OpenSpec.upto (s : _root_.Go.ChangeSpec) : _root_.Go.OpenSpec := { _root_.Go.OpenSpec.ofChange s with cond := some uptoSmall }

/-- 'cellplanelaw39.SchemaNexts', WHERE WHAT IT READS IS OF BULK AT MOST 1048576: true; the input reads as it did. -/
def schemaNextsUptoRow : OpenClaim := { program := "ytnnpgbleacapfaagreat", sum := "03e690cdd48e389ca16450240dfed45f1ecb348ad7ce036126ff88e89d97f88e", func := "cellplane/cellplanelaw39.SchemaNexts", spec := "schemaNexts", unfollowed := true, recurses := true, apart := false, narrowed := true }
def SchemaNextsUptoSaid : Prop := schemaNextsUptoRow.holds Tryz.pinned (OpenSpec.upto schemaNextsSpec)

/-- 'cellplanelaw39.SchemaGoes', WHERE WHAT IT READS IS OF BULK AT MOST 1048576: true; the input reads as it did. -/
def schemaGoesUptoRow : OpenClaim := { program := "ytnnpgbleacapfaagreat", sum := "03e690cdd48e389ca16450240dfed45f1ecb348ad7ce036126ff88e89d97f88e", func := "cellplane/cellplanelaw39.SchemaGoes", spec := "schemaGoes", unfollowed := true, recurses := true, apart := false, narrowed := true }
def SchemaGoesUptoSaid : Prop := schemaGoesUptoRow.holds Tryz.pinned (OpenSpec.upto schemaGoesSpec)

/-- 'cellplanelaw39.SchemaMoves', WHERE WHAT IT READS IS OF BULK AT MOST 1048576: true; the input reads as it did. -/
def schemaMovesUptoRow : OpenClaim := { program := "ytnnpgbleacapfaagreat", sum := "03e690cdd48e389ca16450240dfed45f1ecb348ad7ce036126ff88e89d97f88e", func := "cellplane/cellplanelaw39.SchemaMoves", spec := "schemaMoves", unfollowed := true, recurses := true, apart := false, narrowed := true }
def SchemaMovesUptoSaid : Prop := schemaMovesUptoRow.holds Tryz.pinned (OpenSpec.upto schemaMovesSpec)

/-- 'cellplanelaw39.SchemaWaits', WHERE WHAT IT READS IS OF BULK AT MOST 1048576: true; the input reads as it did. -/
def schemaWaitsUptoRow : OpenClaim := { program := "ytnnpgbleacapfaagreat", sum := "03e690cdd48e389ca16450240dfed45f1ecb348ad7ce036126ff88e89d97f88e", func := "cellplane/cellplanelaw39.SchemaWaits", spec := "schemaWaits", unfollowed := true, recurses := true, apart := false, narrowed := true }
def SchemaWaitsUptoSaid : Prop := schemaWaitsUptoRow.holds Tryz.pinned (OpenSpec.upto schemaWaitsSpec)

/-- 'cellplanelaw39.SchemaReads', WHERE WHAT IT READS IS OF BULK AT MOST 1048576: true; the input reads as it did. -/
def schemaReadsUptoRow : OpenClaim := { program := "ytnnpgbleacapfaagreat", sum := "03e690cdd48e389ca16450240dfed45f1ecb348ad7ce036126ff88e89d97f88e", func := "cellplane/cellplanelaw39.SchemaReads", spec := "schemaReads", unfollowed := true, recurses := true, apart := false, narrowed := true }
def SchemaReadsUptoSaid : Prop := schemaReadsUptoRow.holds Tryz.pinned (OpenSpec.upto schemaReadsSpec)

/-- 'cellplanelaw31.MigrateBegins', WHERE WHAT IT READS IS OF BULK AT MOST 1048576: true; the input reads as it did. -/
def migrateBeginsUptoRow : OpenClaim := { program := "ytnnpgbleacapfaagreat", sum := "03e690cdd48e389ca16450240dfed45f1ecb348ad7ce036126ff88e89d97f88e", func := "cellplane/cellplanelaw31.MigrateBegins", spec := "migrateBegins", apart := false, narrowed := true }
def MigrateBeginsUptoSaid : Prop := migrateBeginsUptoRow.holds Tryz.pinned (OpenSpec.upto migrateBeginsSpec)

/-- 'cellplanelaw31.MigrateEntries', WHERE WHAT IT READS IS OF BULK AT MOST 1048576: true; the input reads as it did. -/
def migrateEntriesUptoRow : OpenClaim := { program := "ytnnpgbleacapfaagreat", sum := "03e690cdd48e389ca16450240dfed45f1ecb348ad7ce036126ff88e89d97f88e", func := "cellplane/cellplanelaw31.MigrateEntries", spec := "migrateEntries", apart := false, narrowed := true }
def MigrateEntriesUptoSaid : Prop := migrateEntriesUptoRow.holds Tryz.pinned (OpenSpec.upto migrateEntriesSpec)

/-- 'cellplanelaw31.MigrateLog', WHERE WHAT IT READS IS OF BULK AT MOST 1048576: true; the input reads as it did. -/
def migrateLogUptoRow : OpenClaim := { program := "ytnnpgbleacapfaagreat", sum := "03e690cdd48e389ca16450240dfed45f1ecb348ad7ce036126ff88e89d97f88e", func := "cellplane/cellplanelaw31.MigrateLog", spec := "migrateLog", apart := false, narrowed := true }
def MigrateLogUptoSaid : Prop := migrateLogUptoRow.holds Tryz.pinned (OpenSpec.upto migrateLogSpec)

end Rows
end Go.Proofs.YtnnpgbleacapfaaGreat
