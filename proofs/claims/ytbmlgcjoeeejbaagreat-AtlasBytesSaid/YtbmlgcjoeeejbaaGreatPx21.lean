import Derived.Test.YtbmlgcjoeeejbaaGreatPx20
namespace Go.Proofs.YtbmlgcjoeeejbaaGreat
open Go.RowKit
set_option linter.unusedSimpArgs false
set_option linter.unusedVariables false
theorem vx_load_row {τ:TT} {fr:AF} {mem:AM} {t:TypeId} {x:Operand} {r k ty sz n:Nat} {el:Nat→List Value} {ti:TI} {l:List Value} {v:Value} (he:el k=l) (hx:ev fr x=some (.pointer (some ⟨r,0,some k⟩))) (ht:lk τ t=some ti) (hm:lk mem r=some (.row ty sz n el)) (hv:(match takeN 0 ti.size l with | some l=>ofC ti.agg l | none=>none)=some v):vx τ fr mem (.load t x)=some v:=by
 show (match ev fr x with | some p=>ldx τ mem t p | none=>none)=some v
 rw[hx]
 show ldx τ mem t (.pointer (some ⟨r,0,some k⟩))=some v
 unfold ldx
 simp only[ht,hm,he]
 exact hv
end Go.Proofs.YtbmlgcjoeeejbaaGreat
