/-
  No cell of these rows narrows 'for every input' (looked for: loops, veiled, ifaces, maps, wideKeys, modest, calm, conditions, laid).
  DERIVED. THE GIVEN ROWS OF THIS SEAT. 9 by the template 'for every input the law returns true; each argument reads behind the call as it read before'; 0 by the template 'total and deterministic' (their statements: YtdjkeplekchfdaaTotals.lean).
  GIVEN WITH THE SEED: the statements are not yours to turn. If you find one false, say at which input.
  Laid BY PROGRAM, IN A SANDBOX (cutbox-rows.mjs): the forced cells as the released guide's own fill.sh prints them over the translation 57da45ecd9b75a50… (all of the seat's roots in one cut). By AI agents, Wed Nov 11 2026. No macro, syntax, notation, axiom, sorry.
-/
import Derived.Test.YtdjkeplekchfdaaChecked
import GoSem.Claim
import GoSem.ClaimJoined
import GoSem.ClaimMapViews
import Derived.JoinedTies
import Derived.KernelRfl
namespace Go.Proofs.Ytdjkeplekchfdaa
/- THE CELL 'sum', in the pinned program and in every row, IS THE sha256 OF THE DUMP (.gsa) THAT YtdjkeplekchfdaaProg.lean LOADS. Nothing in Lean hashes anything: it is a label: what it is worth is what the hold of that sum in a sandbox is worth. -/
noncomputable def Try.pinned : Pinned := { name := "ytdjkeplekchfdaa", sum := "57da45ecd9b75a50c6de6024f45e7ab5ae1c628871fb6fbd30db7675776079ad", checked := Try.checked }
namespace Rows
def none {H : Type} : Left H := { results := [], args := [] }

/-- 'cellplanelaw16.RouterNew': WHATEVER THE INPUT: true; the input reads as it did. -/
def routerNewSpec : ChangeSpec := { name := "routerNew", fn := fun _ => fun
  | [d1, d2, d3, d4, d5] => { results := [.lit (.bool true)], args := [d1, d2, d3, d4, d5] }
  | _ => none }
def routerNewRow : OpenClaim := { program := "ytdjkeplekchfdaa", sum := "57da45ecd9b75a50c6de6024f45e7ab5ae1c628871fb6fbd30db7675776079ad", func := "cellplane/cellplanelaw16.RouterNew", spec := "routerNew", apart := false }
def RouterNewSaid : Prop := routerNewRow.holds Try.pinned (OpenSpec.ofChange routerNewSpec)

/-- ITS FALSE NEIGHBOUR: 'it returns false'. Refute it at one input. -/
def routerNewWrong : ChangeSpec := { name := "routerNew", fn := fun _ => fun
  | [d1, d2, d3, d4, d5] => { results := [.lit (.bool false)], args := [d1, d2, d3, d4, d5] }
  | _ => none }
def RouterNewWrongFalsely : Prop := routerNewRow.holds Try.pinned (OpenSpec.ofChange routerNewWrong)

/-- 'cellplanelaw15.AtlasMake': WHATEVER THE INPUT: true; the input reads as it did. -/
def atlasMakeSpec : ChangeSpec := { name := "atlasMake", fn := fun _ => fun
  | [d1, d2, d3, d4] => { results := [.lit (.bool true)], args := [d1, d2, d3, d4] }
  | _ => none }
def atlasMakeRow : OpenClaim := { program := "ytdjkeplekchfdaa", sum := "57da45ecd9b75a50c6de6024f45e7ab5ae1c628871fb6fbd30db7675776079ad", func := "cellplane/cellplanelaw15.AtlasMake", spec := "atlasMake", apart := false }
def AtlasMakeSaid : Prop := atlasMakeRow.holds Try.pinned (OpenSpec.ofChange atlasMakeSpec)

/-- ITS FALSE NEIGHBOUR: 'it returns false'. Refute it at one input. -/
def atlasMakeWrong : ChangeSpec := { name := "atlasMake", fn := fun _ => fun
  | [d1, d2, d3, d4] => { results := [.lit (.bool false)], args := [d1, d2, d3, d4] }
  | _ => none }
def AtlasMakeWrongFalsely : Prop := atlasMakeRow.holds Try.pinned (OpenSpec.ofChange atlasMakeWrong)

/-- 'cellplanelaw15.AtlasValid': WHATEVER THE INPUT: true; the input reads as it did. -/
def atlasValidSpec : ChangeSpec := { name := "atlasValid", fn := fun _ => fun
  | [d1, d2, d3, d4, d5, d6] => { results := [.lit (.bool true)], args := [d1, d2, d3, d4, d5, d6] }
  | _ => none }
def atlasValidRow : OpenClaim := { program := "ytdjkeplekchfdaa", sum := "57da45ecd9b75a50c6de6024f45e7ab5ae1c628871fb6fbd30db7675776079ad", func := "cellplane/cellplanelaw15.AtlasValid", spec := "atlasValid", apart := false }
def AtlasValidSaid : Prop := atlasValidRow.holds Try.pinned (OpenSpec.ofChange atlasValidSpec)

/-- ITS FALSE NEIGHBOUR: 'it returns false'. Refute it at one input. -/
def atlasValidWrong : ChangeSpec := { name := "atlasValid", fn := fun _ => fun
  | [d1, d2, d3, d4, d5, d6] => { results := [.lit (.bool false)], args := [d1, d2, d3, d4, d5, d6] }
  | _ => none }
def AtlasValidWrongFalsely : Prop := atlasValidRow.holds Try.pinned (OpenSpec.ofChange atlasValidWrong)

/-- 'cellplanelaw15.AtlasFollows': WHATEVER THE INPUT: true; the input reads as it did. -/
def atlasFollowsSpec : ChangeSpec := { name := "atlasFollows", fn := fun _ => fun
  | [d1, d2, d3, d4, d5, d6] => { results := [.lit (.bool true)], args := [d1, d2, d3, d4, d5, d6] }
  | _ => none }
def atlasFollowsRow : OpenClaim := { program := "ytdjkeplekchfdaa", sum := "57da45ecd9b75a50c6de6024f45e7ab5ae1c628871fb6fbd30db7675776079ad", func := "cellplane/cellplanelaw15.AtlasFollows", spec := "atlasFollows", apart := false }
def AtlasFollowsSaid : Prop := atlasFollowsRow.holds Try.pinned (OpenSpec.ofChange atlasFollowsSpec)

/-- ITS FALSE NEIGHBOUR: 'it returns false'. Refute it at one input. -/
def atlasFollowsWrong : ChangeSpec := { name := "atlasFollows", fn := fun _ => fun
  | [d1, d2, d3, d4, d5, d6] => { results := [.lit (.bool false)], args := [d1, d2, d3, d4, d5, d6] }
  | _ => none }
def AtlasFollowsWrongFalsely : Prop := atlasFollowsRow.holds Try.pinned (OpenSpec.ofChange atlasFollowsWrong)

/-- 'cellplanelaw16.RouterRises': WHATEVER THE INPUT: true; the input reads as it did. -/
def routerRisesSpec : ChangeSpec := { name := "routerRises", fn := fun _ => fun
  | [d1, d2, d3, d4] => { results := [.lit (.bool true)], args := [d1, d2, d3, d4] }
  | _ => none }
def routerRisesRow : OpenClaim := { program := "ytdjkeplekchfdaa", sum := "57da45ecd9b75a50c6de6024f45e7ab5ae1c628871fb6fbd30db7675776079ad", func := "cellplane/cellplanelaw16.RouterRises", spec := "routerRises", unfollowed := true, recurses := true, apart := false }
def RouterRisesSaid : Prop := routerRisesRow.holds Try.pinned (OpenSpec.ofChange routerRisesSpec)

/-- ITS FALSE NEIGHBOUR: 'it returns false'. Refute it at one input. -/
def routerRisesWrong : ChangeSpec := { name := "routerRises", fn := fun _ => fun
  | [d1, d2, d3, d4] => { results := [.lit (.bool false)], args := [d1, d2, d3, d4] }
  | _ => none }
def RouterRisesWrongFalsely : Prop := routerRisesRow.holds Try.pinned (OpenSpec.ofChange routerRisesWrong)

/-- 'cellplanelaw16.RouterForged': WHATEVER THE INPUT: true; the input reads as it did. -/
def routerForgedSpec : ChangeSpec := { name := "routerForged", fn := fun _ => fun
  | [d1, d2, d3, d4, d5] => { results := [.lit (.bool true)], args := [d1, d2, d3, d4, d5] }
  | _ => none }
def routerForgedRow : OpenClaim := { program := "ytdjkeplekchfdaa", sum := "57da45ecd9b75a50c6de6024f45e7ab5ae1c628871fb6fbd30db7675776079ad", func := "cellplane/cellplanelaw16.RouterForged", spec := "routerForged", unfollowed := true, recurses := true, apart := false }
def RouterForgedSaid : Prop := routerForgedRow.holds Try.pinned (OpenSpec.ofChange routerForgedSpec)

/-- ITS FALSE NEIGHBOUR: 'it returns false'. Refute it at one input. -/
def routerForgedWrong : ChangeSpec := { name := "routerForged", fn := fun _ => fun
  | [d1, d2, d3, d4, d5] => { results := [.lit (.bool false)], args := [d1, d2, d3, d4, d5] }
  | _ => none }
def RouterForgedWrongFalsely : Prop := routerForgedRow.holds Try.pinned (OpenSpec.ofChange routerForgedWrong)

/-- 'cellplanelaw16.RouterEnds': WHATEVER THE INPUT: true; the input reads as it did. -/
def routerEndsSpec : ChangeSpec := { name := "routerEnds", fn := fun _ => fun
  | [d1, d2, d3, d4] => { results := [.lit (.bool true)], args := [d1, d2, d3, d4] }
  | _ => none }
def routerEndsRow : OpenClaim := { program := "ytdjkeplekchfdaa", sum := "57da45ecd9b75a50c6de6024f45e7ab5ae1c628871fb6fbd30db7675776079ad", func := "cellplane/cellplanelaw16.RouterEnds", spec := "routerEnds", unfollowed := true, recurses := true, apart := false }
def RouterEndsSaid : Prop := routerEndsRow.holds Try.pinned (OpenSpec.ofChange routerEndsSpec)

/-- ITS FALSE NEIGHBOUR: 'it returns false'. Refute it at one input. -/
def routerEndsWrong : ChangeSpec := { name := "routerEnds", fn := fun _ => fun
  | [d1, d2, d3, d4] => { results := [.lit (.bool false)], args := [d1, d2, d3, d4] }
  | _ => none }
def RouterEndsWrongFalsely : Prop := routerEndsRow.holds Try.pinned (OpenSpec.ofChange routerEndsWrong)

/-- 'cellplanelaw15.AtlasForged': WHATEVER THE INPUT: true; the input reads as it did. -/
def atlasForgedSpec : ChangeSpec := { name := "atlasForged", fn := fun _ => fun
  | [d1, d2, d3, d4, d5] => { results := [.lit (.bool true)], args := [d1, d2, d3, d4, d5] }
  | _ => none }
def atlasForgedRow : OpenClaim := { program := "ytdjkeplekchfdaa", sum := "57da45ecd9b75a50c6de6024f45e7ab5ae1c628871fb6fbd30db7675776079ad", func := "cellplane/cellplanelaw15.AtlasForged", spec := "atlasForged", unfollowed := true, recurses := true, apart := false }
def AtlasForgedSaid : Prop := atlasForgedRow.holds Try.pinned (OpenSpec.ofChange atlasForgedSpec)

/-- ITS FALSE NEIGHBOUR: 'it returns false'. Refute it at one input. -/
def atlasForgedWrong : ChangeSpec := { name := "atlasForged", fn := fun _ => fun
  | [d1, d2, d3, d4, d5] => { results := [.lit (.bool false)], args := [d1, d2, d3, d4, d5] }
  | _ => none }
def AtlasForgedWrongFalsely : Prop := atlasForgedRow.holds Try.pinned (OpenSpec.ofChange atlasForgedWrong)

/-- 'cellplanelaw15.AtlasBack': WHATEVER THE INPUT: true; the input reads as it did. -/
def atlasBackSpec : ChangeSpec := { name := "atlasBack", fn := fun _ => fun
  | [d1, d2, d3, d4] => { results := [.lit (.bool true)], args := [d1, d2, d3, d4] }
  | _ => none }
def atlasBackRow : OpenClaim := { program := "ytdjkeplekchfdaa", sum := "57da45ecd9b75a50c6de6024f45e7ab5ae1c628871fb6fbd30db7675776079ad", func := "cellplane/cellplanelaw15.AtlasBack", spec := "atlasBack", unfollowed := true, recurses := true, apart := false }
def AtlasBackSaid : Prop := atlasBackRow.holds Try.pinned (OpenSpec.ofChange atlasBackSpec)

/-- ITS FALSE NEIGHBOUR: 'it returns false'. Refute it at one input. -/
def atlasBackWrong : ChangeSpec := { name := "atlasBack", fn := fun _ => fun
  | [d1, d2, d3, d4] => { results := [.lit (.bool false)], args := [d1, d2, d3, d4] }
  | _ => none }
def AtlasBackWrongFalsely : Prop := atlasBackRow.holds Try.pinned (OpenSpec.ofChange atlasBackWrong)

/- THE SECOND FORM. 'bulk': how many values and letters a reading holds, each counted each time it is reached (what is shared counts as often as it is met; a slice's spare places count too). A statement '..UptoSaid' is the law's where the arguments, and the package variables that the reading takes, are together of bulk at most 1048576: NARROWER than '..Said'. Prove '..Said' where nothing that the law and all that it calls make is longer than what came in: it says more and counts as full. Else prove '..UptoSaid'. A law counts once. -/
mutual
def uptoBulk {H : Type} : DataW H → Nat
  | .lit (.string bytes) => bytes.length + 1
  | .lit _ => 1
  | .nil => 1
  | .ptr d => uptoBulk d + 1
  | .slice elems spare => uptoBulkAll elems + uptoBulkAll spare + 1
  | .agg parts => uptoBulkAll parts + 1
  | .iface _ d => uptoBulk d + 1
  | .map entries => uptoBulkEntries entries + 1
  | .held _ => 1
def uptoBulkAll {H : Type} : List (DataW H) → Nat
  | [] => 0
  | d :: r => uptoBulk d + uptoBulkAll r
def uptoBulkEntries {H : Type} : List (Lit × DataW H) → Nat
  | [] => 0
  | x :: r => uptoBulkEntry x + uptoBulkEntries r
def uptoBulkEntry {H : Type} : Lit × DataW H → Nat
  | (.string bytes, d) => bytes.length + uptoBulk d + 1
  | (_, d) => uptoBulk d + 1
 end
def uptoSmall : (H : Type) → List (DataW H) → Bool := fun _ ds => decide (uptoBulkAll ds ≤ 1048576)
def OpenSpec.upto (s : _root_.Go.ChangeSpec) : _root_.Go.OpenSpec := { _root_.Go.OpenSpec.ofChange s with cond := some uptoSmall }

/-- 'cellplanelaw16.RouterNew', WHERE WHAT IT READS IS OF BULK AT MOST 1048576: true; the input reads as it did. -/
def routerNewUptoRow : OpenClaim := { program := "ytdjkeplekchfdaa", sum := "57da45ecd9b75a50c6de6024f45e7ab5ae1c628871fb6fbd30db7675776079ad", func := "cellplane/cellplanelaw16.RouterNew", spec := "routerNew", apart := false, narrowed := true }
def RouterNewUptoSaid : Prop := routerNewUptoRow.holds Try.pinned (OpenSpec.upto routerNewSpec)

/-- 'cellplanelaw15.AtlasMake', WHERE WHAT IT READS IS OF BULK AT MOST 1048576: true; the input reads as it did. -/
def atlasMakeUptoRow : OpenClaim := { program := "ytdjkeplekchfdaa", sum := "57da45ecd9b75a50c6de6024f45e7ab5ae1c628871fb6fbd30db7675776079ad", func := "cellplane/cellplanelaw15.AtlasMake", spec := "atlasMake", apart := false, narrowed := true }
def AtlasMakeUptoSaid : Prop := atlasMakeUptoRow.holds Try.pinned (OpenSpec.upto atlasMakeSpec)

/-- 'cellplanelaw15.AtlasValid', WHERE WHAT IT READS IS OF BULK AT MOST 1048576: true; the input reads as it did. -/
def atlasValidUptoRow : OpenClaim := { program := "ytdjkeplekchfdaa", sum := "57da45ecd9b75a50c6de6024f45e7ab5ae1c628871fb6fbd30db7675776079ad", func := "cellplane/cellplanelaw15.AtlasValid", spec := "atlasValid", apart := false, narrowed := true }
def AtlasValidUptoSaid : Prop := atlasValidUptoRow.holds Try.pinned (OpenSpec.upto atlasValidSpec)

/-- 'cellplanelaw15.AtlasFollows', WHERE WHAT IT READS IS OF BULK AT MOST 1048576: true; the input reads as it did. -/
def atlasFollowsUptoRow : OpenClaim := { program := "ytdjkeplekchfdaa", sum := "57da45ecd9b75a50c6de6024f45e7ab5ae1c628871fb6fbd30db7675776079ad", func := "cellplane/cellplanelaw15.AtlasFollows", spec := "atlasFollows", apart := false, narrowed := true }
def AtlasFollowsUptoSaid : Prop := atlasFollowsUptoRow.holds Try.pinned (OpenSpec.upto atlasFollowsSpec)

/-- 'cellplanelaw16.RouterRises', WHERE WHAT IT READS IS OF BULK AT MOST 1048576: true; the input reads as it did. -/
def routerRisesUptoRow : OpenClaim := { program := "ytdjkeplekchfdaa", sum := "57da45ecd9b75a50c6de6024f45e7ab5ae1c628871fb6fbd30db7675776079ad", func := "cellplane/cellplanelaw16.RouterRises", spec := "routerRises", unfollowed := true, recurses := true, apart := false, narrowed := true }
def RouterRisesUptoSaid : Prop := routerRisesUptoRow.holds Try.pinned (OpenSpec.upto routerRisesSpec)

/-- 'cellplanelaw16.RouterForged', WHERE WHAT IT READS IS OF BULK AT MOST 1048576: true; the input reads as it did. -/
def routerForgedUptoRow : OpenClaim := { program := "ytdjkeplekchfdaa", sum := "57da45ecd9b75a50c6de6024f45e7ab5ae1c628871fb6fbd30db7675776079ad", func := "cellplane/cellplanelaw16.RouterForged", spec := "routerForged", unfollowed := true, recurses := true, apart := false, narrowed := true }
def RouterForgedUptoSaid : Prop := routerForgedUptoRow.holds Try.pinned (OpenSpec.upto routerForgedSpec)

/-- 'cellplanelaw16.RouterEnds', WHERE WHAT IT READS IS OF BULK AT MOST 1048576: true; the input reads as it did. -/
def routerEndsUptoRow : OpenClaim := { program := "ytdjkeplekchfdaa", sum := "57da45ecd9b75a50c6de6024f45e7ab5ae1c628871fb6fbd30db7675776079ad", func := "cellplane/cellplanelaw16.RouterEnds", spec := "routerEnds", unfollowed := true, recurses := true, apart := false, narrowed := true }
def RouterEndsUptoSaid : Prop := routerEndsUptoRow.holds Try.pinned (OpenSpec.upto routerEndsSpec)

/-- 'cellplanelaw15.AtlasForged', WHERE WHAT IT READS IS OF BULK AT MOST 1048576: true; the input reads as it did. -/
def atlasForgedUptoRow : OpenClaim := { program := "ytdjkeplekchfdaa", sum := "57da45ecd9b75a50c6de6024f45e7ab5ae1c628871fb6fbd30db7675776079ad", func := "cellplane/cellplanelaw15.AtlasForged", spec := "atlasForged", unfollowed := true, recurses := true, apart := false, narrowed := true }
def AtlasForgedUptoSaid : Prop := atlasForgedUptoRow.holds Try.pinned (OpenSpec.upto atlasForgedSpec)

/-- 'cellplanelaw15.AtlasBack', WHERE WHAT IT READS IS OF BULK AT MOST 1048576: true; the input reads as it did. -/
def atlasBackUptoRow : OpenClaim := { program := "ytdjkeplekchfdaa", sum := "57da45ecd9b75a50c6de6024f45e7ab5ae1c628871fb6fbd30db7675776079ad", func := "cellplane/cellplanelaw15.AtlasBack", spec := "atlasBack", unfollowed := true, recurses := true, apart := false, narrowed := true }
def AtlasBackUptoSaid : Prop := atlasBackUptoRow.holds Try.pinned (OpenSpec.upto atlasBackSpec)

end Rows
end Go.Proofs.Ytdjkeplekchfdaa
