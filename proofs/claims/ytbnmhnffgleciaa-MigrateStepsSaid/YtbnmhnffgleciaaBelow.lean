import Derived.Test.YtbnmhnffgleciaaLib
namespace Go.Proofs.Ytbnmhnffgleciaa
open Go.RowKit

/-- The worlds that are as w below block B. -/
def Later (B : Nat) (w : World) : Type := { w' : World // Below B w w' }
def Later.world {B : Nat} {w : World} (x : Later B w) : World := x.1
theorem Later.below {B : Nat} {w : World} (x : Later B w) : Below B w x.world := x.2
theorem Later.cell {B : Nat} {w : World} (x : Later B w) {b o : Nat} (hb : b < B) : x.world.cell? ⟨b, o, none⟩ = w.cell? ⟨b, o, none⟩ := x.below.cell (p := ⟨b, o, none⟩) hb

section
variable {P : Program}
/-- A region that draws its order, whose operations read what lies below B and whose callees leave that alone: one walk in the order of the text. -/
theorem wp_region_below (B : Nat) {id : Nat} {Q : Exit → Act → World → Prop} {a : Act} {w : World} {l : List Oper} (hm : P.follows .mixedOrders = true) (hB : Region.lexB .any l.toArray = true)
    (h : wpQuiet P l.toArray (fun w' => ∃ x : Later B w, w' = x.world) (fun a' => ∀ w', (∃ x : Later B w, w' = x.world) → Q .normal a' w') l a) : (Code.region id l.toArray true).wp P Q a w :=
  wp_region_quiet (C := fun w' => ∃ x : Later B w, w' = x.world) hm hB ⟨⟨w.drew, (Below.refl B w).drew⟩, rfl⟩ (by simpa using h)

/-- A callee that leaves what lies below B alone. -/
theorem quiet_below {B : Nat} {w : World} (x : Later B w) {f : FuncId} {args : Array Value} {v : Value}
    (h : Calls P f args x.world fun e w' => e = .returned v ∧ Below B x.world w') : Calls P f args x.world fun e w'' => e = .returned v ∧ ∃ y : Later B w, w'' = y.world :=
  h.mono fun _ w' ⟨he, hb⟩ => ⟨he, ⟨⟨w', x.below.trans hb⟩, rfl⟩⟩
end
end Go.Proofs.Ytbnmhnffgleciaa
