import Derived.Test.YtdjkeplekchfdaaPn12
namespace Go.Proofs.Ytdjkeplekchfdaa
open Go.RowKit
set_option linter.unusedSimpArgs false
set_option linter.unusedVariables false
/-! The bytes of an atlas. -/
structure Atl where
 number:Int
 tick:Int
 routes:List (Int×Int)
 parent:Int
 sum:Int
def routeB (r:Int×Int):List Int:=intBy r.1++intBy r.2
def bodyI (a:Atl):List Int:=intBy a.number++intBy a.tick++intBy a.routes.length++a.routes.flatMap routeB
structure AtlIn (a:Atl):Prop where
 n:in64 a.number
 t:in64 a.tick
 len:a.routes.length≤1000
 r:∀ x ∈ a.routes,in64 x.1∧in64 x.2
theorem AtlIn.at_ {a:Atl} (h:AtlIn a) {i:Int} (hi:0≤i∧i<a.routes.length):in64 (a.routes.getD i.toNat (0,0)).1∧in64 (a.routes.getD i.toNat (0,0)).2:=by
 rw[List.getD_eq_getElem?_getD,List.getElem?_eq_getElem (by omega)]
 exact h.r _ (List.getElem_mem _)
end Go.Proofs.Ytdjkeplekchfdaa
