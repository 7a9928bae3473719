/-
  No cell of these rows narrows 'for every input' (looked for: loops, veiled, ifaces, maps, wideKeys, modest, calm, conditions, laid).
  DERIVED. THE GIVEN ROWS OF THIS SEAT. 2 by the template 'for every input the law returns true; each argument reads behind the call as it read before'; 0 by the template 'total and deterministic' (their statements: YtbmlgcjoeeejbaaTotals.lean).
  GIVEN WITH THE SEED: the statements are not yours to turn. If you find one false, say at which input.
  Laid BY PROGRAM, IN A SANDBOX (cutbox-rows.mjs): the forced cells as the released guide's own fill.sh prints them over the translation 6c092a3f35e95a30… (all of the seat's roots in one cut). By AI agents, Wed Nov 11 2026. No macro, syntax, notation, axiom, sorry.
-/
import Derived.Test.YtbmlgcjoeeejbaaChecked
import GoSem.Claim
import GoSem.ClaimJoined
import GoSem.ClaimMapViews
import Derived.JoinedTies
import Derived.KernelRfl
namespace Go.Proofs.Ytbmlgcjoeeejbaa
/- THE CELL 'sum', in the pinned program and in every row, IS THE sha256 OF THE DUMP (.gsa) THAT YtbmlgcjoeeejbaaProg.lean LOADS. Nothing in Lean hashes anything: it is a label: what it is worth is what the hold of that sum in a sandbox is worth. -/
noncomputable def Try.pinned : Pinned := { name := "ytbmlgcjoeeejbaa", sum := "6c092a3f35e95a30e676c2dd9ea87f64e5b64b355104f7a2b8e2ab147dd89b0d", checked := Try.checked }
namespace Rows
def none {H : Type} : Left H := { results := [], args := [] }

/-- 'cellplanelaw15.AtlasForged': WHATEVER THE INPUT: true; the input reads as it did. -/
def atlasForgedSpec : ChangeSpec := { name := "atlasForged", fn := fun _ => fun
  | [d1, d2, d3, d4, d5] => { results := [.lit (.bool true)], args := [d1, d2, d3, d4, d5] }
  | _ => none }
def atlasForgedRow : OpenClaim := { program := "ytbmlgcjoeeejbaa", sum := "6c092a3f35e95a30e676c2dd9ea87f64e5b64b355104f7a2b8e2ab147dd89b0d", func := "cellplane/cellplanelaw15.AtlasForged", spec := "atlasForged", unfollowed := true, recurses := true, apart := false }
def AtlasForgedSaid : Prop := atlasForgedRow.holds Try.pinned (OpenSpec.ofChange atlasForgedSpec)

/-- ITS FALSE NEIGHBOUR: 'it returns false'. Refute it at one input. -/
def atlasForgedWrong : ChangeSpec := { name := "atlasForged", fn := fun _ => fun
  | [d1, d2, d3, d4, d5] => { results := [.lit (.bool false)], args := [d1, d2, d3, d4, d5] }
  | _ => none }
def AtlasForgedWrongFalsely : Prop := atlasForgedRow.holds Try.pinned (OpenSpec.ofChange atlasForgedWrong)

/-- 'cellplanelaw15.AtlasBack': WHATEVER THE INPUT: true; the input reads as it did. -/
def atlasBackSpec : ChangeSpec := { name := "atlasBack", fn := fun _ => fun
  | [d1, d2, d3, d4] => { results := [.lit (.bool true)], args := [d1, d2, d3, d4] }
  | _ => none }
def atlasBackRow : OpenClaim := { program := "ytbmlgcjoeeejbaa", sum := "6c092a3f35e95a30e676c2dd9ea87f64e5b64b355104f7a2b8e2ab147dd89b0d", func := "cellplane/cellplanelaw15.AtlasBack", spec := "atlasBack", unfollowed := true, recurses := true, apart := false }
def AtlasBackSaid : Prop := atlasBackRow.holds Try.pinned (OpenSpec.ofChange atlasBackSpec)

/-- ITS FALSE NEIGHBOUR: 'it returns false'. Refute it at one input. -/
def atlasBackWrong : ChangeSpec := { name := "atlasBack", fn := fun _ => fun
  | [d1, d2, d3, d4] => { results := [.lit (.bool false)], args := [d1, d2, d3, d4] }
  | _ => none }
def AtlasBackWrongFalsely : Prop := atlasBackRow.holds Try.pinned (OpenSpec.ofChange atlasBackWrong)

/- THE SECOND FORM. 'bulk': how many values and letters a reading holds, each counted each time it is reached (what is shared counts as often as it is met; a slice's spare places count too). A statement '..UptoSaid' is the law's where the arguments, and the package variables that the reading takes, are together of bulk at most 1048576: NARROWER than '..Said'. Prove '..Said' where nothing that the law and all that it calls make is longer than what came in: it says more and counts as full. Else prove '..UptoSaid'. A law counts once. -/
mutual
def uptoBulk {H : Type} : DataW H → Nat
  | .lit (.string bytes) => bytes.length + 1
  | .lit _ => 1
  | .nil => 1
  | .ptr d => uptoBulk d + 1
  | .slice elems spare => uptoBulkAll elems + uptoBulkAll spare + 1
  | .agg parts => uptoBulkAll parts + 1
  | .iface _ d => uptoBulk d + 1
  | .map entries => uptoBulkEntries entries + 1
  | .held _ => 1
def uptoBulkAll {H : Type} : List (DataW H) → Nat
  | [] => 0
  | d :: r => uptoBulk d + uptoBulkAll r
def uptoBulkEntries {H : Type} : List (Lit × DataW H) → Nat
  | [] => 0
  | x :: r => uptoBulkEntry x + uptoBulkEntries r
def uptoBulkEntry {H : Type} : Lit × DataW H → Nat
  | (.string bytes, d) => bytes.length + uptoBulk d + 1
  | (_, d) => uptoBulk d + 1
 end
def uptoSmall : (H : Type) → List (DataW H) → Bool := fun _ ds => decide (uptoBulkAll ds ≤ 1048576)
def OpenSpec.upto (s : _root_.Go.ChangeSpec) : _root_.Go.OpenSpec := { _root_.Go.OpenSpec.ofChange s with cond := some uptoSmall }

/-- 'cellplanelaw15.AtlasForged', WHERE WHAT IT READS IS OF BULK AT MOST 1048576: true; the input reads as it did. -/
def atlasForgedUptoRow : OpenClaim := { program := "ytbmlgcjoeeejbaa", sum := "6c092a3f35e95a30e676c2dd9ea87f64e5b64b355104f7a2b8e2ab147dd89b0d", func := "cellplane/cellplanelaw15.AtlasForged", spec := "atlasForged", unfollowed := true, recurses := true, apart := false, narrowed := true }
def AtlasForgedUptoSaid : Prop := atlasForgedUptoRow.holds Try.pinned (OpenSpec.upto atlasForgedSpec)

/-- 'cellplanelaw15.AtlasBack', WHERE WHAT IT READS IS OF BULK AT MOST 1048576: true; the input reads as it did. -/
def atlasBackUptoRow : OpenClaim := { program := "ytbmlgcjoeeejbaa", sum := "6c092a3f35e95a30e676c2dd9ea87f64e5b64b355104f7a2b8e2ab147dd89b0d", func := "cellplane/cellplanelaw15.AtlasBack", spec := "atlasBack", unfollowed := true, recurses := true, apart := false, narrowed := true }
def AtlasBackUptoSaid : Prop := atlasBackUptoRow.holds Try.pinned (OpenSpec.upto atlasBackSpec)

end Rows
end Go.Proofs.Ytbmlgcjoeeejbaa
