import Derived.Test.YtbnmhnffgleciaaEvent
import Derived.Test.YtbnmhnffgleciaaSteps
namespace Go.Proofs.Ytbnmhnffgleciaa
open Go.ChangeShapes Go.WideShapes Go.ChangeAt Go.RowKit Go.Deep
set_option linter.unusedSimpArgs false
set_option linter.unusedVariables false

section
variable {H : Type} {enc : TypeId × Value → H} {w : World} {base : Nat} {spare : Nat → Bool} {held : Bool}
theorem open_who {b0 : Nat} {v : Value} {d : DataW H} {p : List MemPlace} (hv : Value.okWide Try.prog w .any b0 35 v) (h : DataW.Trod enc Try.prog w base spare held 35 v d p) :
    ∃ z : Int × Int × Int × Int, v = .agg #[.int .i64 z.1, .int .i64 z.2.1, .int .i64 z.2.2.1, .int .i64 z.2.2.2] ∧ True := by
  have hex : ∃ cs, v = .agg cs ∧ cs.size = Try.prog.cellsOf 35 := by
    simp only [Value.okWide, Try.underlying35] at hv
    obtain ⟨cs, h1, h2, _⟩ := hv
    exact ⟨cs, h1, h2⟩
  obtain ⟨cs, rfl, hsz⟩ := hex
  obtain ⟨fuel, hf⟩ := h
  obtain ⟨xs, m, _, _, hlen, hxl, hx⟩ := DataW.trod_array Try.underlying35 hf
  have hc4 : Try.prog.cellsOf 35 = 4 := by kernel_rfl
  have hc1 : Try.prog.cellsOf 3 = 1 := by kernel_rfl
  rw [hc4] at hsz
  rw [hc1] at hx
  obtain ⟨l⟩ := cs
  match l, hsz with
  | [c0, c1, c2, c3], _ =>
    match xs, hxl with
    | [y0, y1, y2, y3], _ =>
      have t0 := hx 0 (by omega)
      have t1 := hx 1 (by omega)
      have t2 := hx 2 (by omega)
      have t3 := hx 3 (by omega)
      simp [Value.cells] at t0 t1 t2 t3
      obtain ⟨a, ha, _, _⟩ := DataW.trod_int Try.underlying3 t0
      obtain ⟨b, hb, _, _⟩ := DataW.trod_int Try.underlying3 t1
      obtain ⟨e, he, _, _⟩ := DataW.trod_int Try.underlying3 t2
      obtain ⟨f, hff, _, _⟩ := DataW.trod_int Try.underlying3 t3
      simp at ha hb he hff
      subst ha hb he hff
      exact ⟨(a, b, e, f), rfl, trivial⟩
end

theorem steps_law (z : Int × Int × Int × Int) (A : Option Addr) (c : Nat) (zs : List Int) (A2 : Option Addr) (c2 : Nat) (raw : List (Int × Int)) (w : World) (_hz : True) (hr : Rd w (· < w.heap.size) A (zs.map (Value.int .i64)))
    (hm : zs.length ≤ maxLen) (hr2 : Rd w (· < w.heap.size) A2 (evCells raw)) (hm2 : raw.length ≤ maxLen) :
    Calls Try.prog 5 #[.agg #[.int .i64 z.1, .int .i64 z.2.1, .int .i64 z.2.2.1, .int .i64 z.2.2.2], .slice A zs.length c, .slice A2 raw.length c2] w fun e w' => e = .returned (.bool true) ∧ Below w.heap.size w w' :=
  steps_any z.1 z.2.1 z.2.2.1 z.2.2.2 A c zs A2 c2 raw w hr hm hr2 hm2
end Go.Proofs.Ytbnmhnffgleciaa
