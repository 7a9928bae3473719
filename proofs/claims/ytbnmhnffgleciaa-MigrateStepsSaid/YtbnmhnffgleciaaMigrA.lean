import Derived.Test.YtbnmhnffgleciaaRows
import Derived.Test.YtbnmhnffgleciaaLib
namespace Go.Proofs.Ytbnmhnffgleciaa
open Go.RowKit
set_option linter.unusedSimpArgs false
set_option linter.unusedVariables false

/-- The phase behind an event from PhaseFence on. -/
def fenceM (p ev n : Int) : Int :=
  if p = 3 then (if ev = 1 ∧ 0 < n then 3 else if ev = 1 ∧ n = 0 then 4 else 0)
  else if p = 4 then (if ev = 3 ∧ 0 ≤ n ∧ n ≤ 1073741824 then 5 else 0)
  else if p = 5 then (if ev = 4 then 6 else 0)
  else 0

def afterM (p ev n : Int) : Int :=
  if ev = 8 ∧ p ≠ 6 ∧ p ≠ 10 then 10
  else if p = 1 ∨ p = 2 then
    (if ev = 1 ∧ 8 < n then 1 else if ev = 1 ∧ 0 ≤ n then 2 else if ev = 2 ∧ p = 2 then 3 else if ev = 5 then 7 else 0)
  else if p = 3 ∨ p = 4 ∨ p = 5 then (if ev = 5 then 8 else fenceM p ev n)
  else if p = 7 then (if ev = 6 then 10 else 0)
  else if p = 8 then (if ev = 6 then 9 else 0)
  else if p = 9 then (if ev = 7 then 10 else 0)
  else 0

set_option maxHeartbeats 1000000 in
theorem fence_any (g : Nat) (p ev n : Int) (w : World) (hp : w.cell? ⟨g, 4, none⟩ = some (.int .i64 p)) :
    Calls Try.prog 32 #[.pointer (some ⟨g, 0, none⟩), .int .i64 ev, .int .i64 n] w fun e w' => e = .returned (.int .i64 (fenceM p ev n)) ∧ w = w' := by
  go_enter Try.func32, Try.ntmps32
  go_wp2
  all_goals
    go_ret
    refine ⟨ret_i64 ?_, rfl⟩
    simp only [beq_iff_eq, beq_eq_false_iff_ne, ne_eq] at *
    unfold fenceM
    repeat first | rw [if_pos (by omega)] | rw [if_neg (by omega)]

set_option maxHeartbeats 1000000 in
theorem after_any (g : Nat) (p ev n : Int) (w : World) (hp : w.cell? ⟨g, 4, none⟩ = some (.int .i64 p)) :
    Calls Try.prog 28 #[.pointer (some ⟨g, 0, none⟩), .int .i64 ev, .int .i64 n] w fun e w' => e = .returned (.int .i64 (afterM p ev n)) ∧ w = w' := by
  go_enter Try.func28, Try.ntmps28
  go_wp2_with (go_at_call 32; refine (fence_any _ p _ _ _ hp).mono ?_; rintro e w' ⟨rfl, rfl⟩)
  all_goals
    go_ret
    refine ⟨ret_i64 ?_, rfl⟩
    go_light
    first
      | (simp [afterM, *]; done)
      | (simp_all [afterM] <;> omega)
end Go.Proofs.Ytbnmhnffgleciaa
