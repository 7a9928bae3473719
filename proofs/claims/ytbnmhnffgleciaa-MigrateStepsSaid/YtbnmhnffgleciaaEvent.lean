import Derived.Test.YtbnmhnffgleciaaRows
import Derived.Test.YtbnmhnffgleciaaOpen
import Derived.Test.YtbnmhnffgleciaaMade
namespace Go.Proofs.Ytbnmhnffgleciaa
open Go.ChangeShapes Go.WideShapes Go.ChangeAt Go.RowKit Go.Deep
set_option linter.unusedSimpArgs false
set_option linter.unusedVariables false

theorem seatOwn : ownKnob Try.prog.godebug = none := by kernel_rfl
theorem seatLaid : laidOutB Try.prog = true := by kernel_rfl

section
variable {H : Type} {enc : TypeId × Value → H} {w : World} {base : Nat} {spare : Nat → Bool} {held : Bool}
/-- The cells of an event. -/
theorem trod_event {fuel : Nat} {cs : List Value} {x : DataW H × List MemPlace} (h : DataW.trod enc Try.prog w base spare held fuel 30 cs = some x) :
    ∃ e : { e : Int × Int // (Lit.int .i64 e.1).wf = true ∧ (Lit.int .i64 e.2).wf = true }, cs = [.int .i64 e.1.1, .int .i64 e.1.2] := by
  obtain ⟨hl, hc⟩ := trod_struct_cell Try.underlying30 (by kernel_rfl) (by kernel_rfl) h
  obtain ⟨v0, n0, y0, g0, t0⟩ := hc 0 _ rfl
  obtain ⟨v1, n1, y1, g1, t1⟩ := hc 1 _ rfl
  obtain ⟨a, ha, _, wa⟩ := DataW.trod_int Try.underlying3 t0
  obtain ⟨b, hb, _, wb⟩ := DataW.trod_int Try.underlying3 t1
  simp at ha hb
  subst ha hb
  refine ⟨⟨(a, b), wa, wb⟩, ?_⟩
  match cs, hl with
  | [c0, c1], _ =>
    simp at g0 g1
    rw [g0, g1]

theorem open_events {fuel : Nat} {A : Option Addr} {len cap : Nat} {x : DataW H × List MemPlace} (h : DataW.trod enc Try.prog w base spare held fuel 23 [.slice A len cap] = some x) :
    len ≤ maxLen ∧ ∃ raw : List (Int × Int), raw.length = len ∧ (∀ e ∈ raw, (Lit.int .i64 e.1).wf = true ∧ (Lit.int .i64 e.2).wf = true) ∧ Rd w (· < w.heap.size) A (evCells raw) := by
  obtain ⟨hm, css, h1, h2, h3⟩ := open_rows Try.underlying23 (by kernel_rfl) (sz := 2) (by omega) h
  refine ⟨hm, ?_⟩
  have hx : ∀ c ∈ css, ∃ e : { e : Int × Int // (Lit.int .i64 e.1).wf = true ∧ (Lit.int .i64 e.2).wf = true }, c = [Value.int .i64 e.1.1, .int .i64 e.1.2] := by
    intro c hc
    obtain ⟨_, n, y, hy⟩ := h2 c hc
    exact trod_event hy
  obtain ⟨r, hr⟩ := map_of_all hx
  refine ⟨r.map (·.1), by rw [← h1, hr]; simp, ?_, ?_⟩
  · intro z hz
    obtain ⟨e, _, rfl⟩ := List.mem_map.1 hz
    exact e.2
  · have : css.flatten = evCells (r.map (·.1)) := by
      rw [hr]
      clear hr
      induction r with
      | nil => rfl
      | cons a l ih => simp [evCells] at ih ⊢; exact ih
    rwa [this] at h3

theorem open_event {b0 : Nat} {v : Value} {d : DataW H} {p : List MemPlace} (hv : Value.okWide Try.prog w .any b0 30 v) (h : DataW.Trod enc Try.prog w base spare held 30 v d p) :
    ∃ z : Int × Int, v = .agg #[.int .i64 z.1, .int .i64 z.2] ∧ ((Lit.int .i64 z.1).wf = true ∧ (Lit.int .i64 z.2).wf = true) := by
  obtain ⟨cs, rfl, hsz⟩ := okWide_struct Try.underlying30 hv
  obtain ⟨fuel, hf⟩ := h
  obtain ⟨⟨e, he⟩, hc⟩ := trod_event hf
  refine ⟨e, ?_, he⟩
  obtain ⟨l⟩ := cs
  simp [Value.cells] at hc
  rw [hc]
end
end Go.Proofs.Ytbnmhnffgleciaa
