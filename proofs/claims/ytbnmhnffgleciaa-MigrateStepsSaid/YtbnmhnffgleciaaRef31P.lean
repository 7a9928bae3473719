import Derived.Test.YtbnmhnffgleciaaMigr
namespace Go.Proofs.Ytbnmhnffgleciaa
set_option linter.unusedSimpArgs false
set_option linter.unusedVariables false

def progM (p n : Int) : Int :=
  if n < 0 then 0 else if p = 1 ∨ p = 2 then (if n ≤ 8 then 2 else 1) else if p = 3 ∧ n = 0 then 4 else if p = 3 then 3 else 0
def tab31 : List (Int × Int × Int) := [(2, 2, 3), (5, 4, 6), (1, 5, 7), (2, 5, 7), (3, 5, 8), (4, 5, 8), (5, 5, 8), (7, 6, 10), (8, 6, 9), (9, 7, 10)]
def tabFind (p ev : Int) : List (Int × Int × Int) → Int
  | [] => 0
  | r :: l => if r.1 = p ∧ r.2.1 = ev then r.2.2 else tabFind p ev l
def refAfterM (p ev n : Int) : Int :=
  if ev = 1 then progM p n else if ev = 3 ∧ p = 4 ∧ 0 ≤ n ∧ n ≤ 1073741824 then 5 else if ev = 8 ∧ p ≠ 6 ∧ p ≠ 10 then 10 else tabFind p ev tab31

set_option maxHeartbeats 4000000 in
theorem refAfter_eq (p ev n : Int) : refAfterM p ev n = afterM p ev n := by
  have hp : p = 1 ∨ p = 2 ∨ p = 3 ∨ p = 4 ∨ p = 5 ∨ p = 6 ∨ p = 7 ∨ p = 8 ∨ p = 9 ∨ p = 10 ∨ (p ≠ 1 ∧ p ≠ 2 ∧ p ≠ 3 ∧ p ≠ 4 ∧ p ≠ 5 ∧ p ≠ 6 ∧ p ≠ 7 ∧ p ≠ 8 ∧ p ≠ 9 ∧ p ≠ 10) := by omega
  by_cases h1 : ev = 1
  · subst h1
    rcases hp with rfl | rfl | rfl | rfl | rfl | rfl | rfl | rfl | rfl | rfl | ⟨a1, a2, a3, a4, a5, a6, a7, a8, a9, a10⟩
    all_goals simp [refAfterM, afterM, fenceM, progM, *]
    all_goals repeat' split
    all_goals omega
  · by_cases h3 : ev = 3
    · subst h3
      rcases hp with rfl | rfl | rfl | rfl | rfl | rfl | rfl | rfl | rfl | rfl | ⟨a1, a2, a3, a4, a5, a6, a7, a8, a9, a10⟩
      all_goals simp [refAfterM, afterM, fenceM, tabFind, tab31, *]
    · have he : ev = 2 ∨ ev = 4 ∨ ev = 5 ∨ ev = 6 ∨ ev = 7 ∨ ev = 8 ∨ (ev ≠ 2 ∧ ev ≠ 4 ∧ ev ≠ 5 ∧ ev ≠ 6 ∧ ev ≠ 7 ∧ ev ≠ 8) := by omega
      rcases he with rfl | rfl | rfl | rfl | rfl | rfl | ⟨e2, e4, e5, e6, e7, e8⟩
      all_goals rcases hp with rfl | rfl | rfl | rfl | rfl | rfl | rfl | rfl | rfl | rfl | ⟨a1, a2, a3, a4, a5, a6, a7, a8, a9, a10⟩
      all_goals simp [refAfterM, afterM, fenceM, tabFind, tab31, *, Ne.symm, eq_comm]
end Go.Proofs.Ytbnmhnffgleciaa
