import Derived.Test.YtbnmhnffgleciaaMigr
namespace Go.Proofs.Ytbnmhnffgleciaa
set_option linter.unusedSimpArgs false
set_option linter.unusedVariables false

/-- The lines of the table. -/
inductive Line (p ev n : Int) : Int → Prop where
  | lost (h : ev = 8) (h6 : p ≠ 6) (h10 : p ≠ 10) : Line p ev n 10
  | far (h : p = 1 ∨ p = 2) (he : ev = 1) (hn : 8 < n) : Line p ev n 1
  | near (h : p = 1 ∨ p = 2) (he : ev = 1) (hn : 0 ≤ n) (hn : n ≤ 8) : Line p ev n 2
  | closed (h : p = 2) (he : ev = 2) : Line p ev n 3
  | drop (h : p = 1 ∨ p = 2) (he : ev = 5) : Line p ev n 7
  | back (h : p = 3 ∨ p = 4 ∨ p = 5) (he : ev = 5) : Line p ev n 8
  | fence (h : p = 3) (he : ev = 1) (hn : 0 < n) : Line p ev n 3
  | whole (h : p = 3) (he : ev = 1) (hn : n = 0) : Line p ev n 4
  | cut (h : p = 4) (he : ev = 3) (hn : 0 ≤ n) (hn : n ≤ 1073741824) : Line p ev n 5
  | done (h : p = 5) (he : ev = 4) : Line p ev n 6
  | dropped (h : p = 7) (he : ev = 6) : Line p ev n 10
  | backed (h : p = 8) (he : ev = 6) : Line p ev n 9
  | regranted (h : p = 9) (he : ev = 7) : Line p ev n 10

theorem fenceM_line {p ev n a : Int} (h : fenceM p ev n = a) (ha : a ≠ 0) : Line p ev n a := by
  unfold fenceM at h
  repeat' split at h
  all_goals subst h
  all_goals first
    | exact absurd rfl ha
    | exact .lost (by omega) (by omega) (by omega)
    | exact .far (by omega) (by omega) (by omega)
    | exact .near (by omega) (by omega) (by omega) (by omega)
    | exact .closed (by omega) (by omega)
    | exact .drop (by omega) (by omega)
    | exact .back (by omega) (by omega)
    | exact .fence (by omega) (by omega) (by omega)
    | exact .whole (by omega) (by omega) (by omega)
    | exact .cut (by omega) (by omega) (by omega) (by omega)
    | exact .done (by omega) (by omega)
    | exact .dropped (by omega) (by omega)
    | exact .backed (by omega) (by omega)
    | exact .regranted (by omega) (by omega)
theorem afterM_line {p ev n a : Int} (h : afterM p ev n = a) (ha : a ≠ 0) : Line p ev n a := by
  unfold afterM at h
  by_cases h35 : ¬ (ev = 8 ∧ p ≠ 6 ∧ p ≠ 10) ∧ ¬ ev = 5 ∧ (p = 3 ∨ p = 4 ∨ p = 5)
  · rw [if_neg h35.1, if_neg (by omega), if_pos h35.2.2, if_neg h35.2.1] at h
    exact fenceM_line h ha
  · repeat' split at h
    all_goals first | (exfalso; omega) | subst h
    all_goals first
      | exact absurd rfl ha
      | exact .lost (by omega) (by omega) (by omega)
      | exact .far (by omega) (by omega) (by omega)
      | exact .near (by omega) (by omega) (by omega) (by omega)
      | exact .closed (by omega) (by omega)
      | exact .drop (by omega) (by omega)
      | exact .back (by omega) (by omega)
      | exact .fence (by omega) (by omega) (by omega)
      | exact .whole (by omega) (by omega) (by omega)
      | exact .cut (by omega) (by omega) (by omega) (by omega)
      | exact .done (by omega) (by omega)
      | exact .dropped (by omega) (by omega)
      | exact .backed (by omega) (by omega)
      | exact .regranted (by omega) (by omega)

/-- What ties the stage to the phase. -/
def OrdI (p s : Int) (closed ab : Bool) : Prop :=
  1 ≤ p ∧ p ≤ 10 ∧ 0 ≤ s ∧ s ≤ 4 ∧ closed = decide (1 ≤ s) ∧ (p ≤ 6 → ab = false) ∧ (p = 1 ∨ p = 2 ∨ p = 7 → s = 0) ∧ (p = 3 → s = 1) ∧ (p = 4 → s = 2) ∧ (p = 5 → s = 3) ∧ (p = 6 → s = 4) ∧
    (p = 8 ∨ p = 9 → 1 ≤ s ∧ s ≤ 3) ∧ (p = 10 → s ≤ 3)

def stageM (s ev n : Int) : Int :=
  if ev = 2 ∧ s = 0 then 1 else if ev = 1 ∧ n = 0 ∧ s = 1 then 2 else if ev = 3 ∧ s = 2 then 3 else if ev = 4 ∧ s = 3 then 4 else s
def abM (s ev n : Int) (ab : Bool) : Bool :=
  if ev = 2 ∧ s = 0 then ab else if ev = 1 ∧ n = 0 ∧ s = 1 then ab else if ev = 3 ∧ s = 2 then ab else if ev = 4 ∧ s = 3 then ab else if ev = 5 ∨ ev = 8 then true else ab

theorem ordI_step {p s ev n : Int} {closed ab : Bool} (h : OrdI p s closed ab) (ha : afterM p ev n ≠ 0) :
    OrdI (afterM p ev n) (stageM s ev n) (closedM p ev n closed) (abM s ev n ab) := by
  have hl := afterM_line rfl ha
  obtain ⟨h1, h2, h3, h4, h5, h6, h7, h8, h9, h10, h11, h12, h13⟩ := h
  subst h5
  unfold closedM
  generalize afterM p ev n = a at *
  cases hl
  case lost he h6' h10' =>
    subst he
    simp [stageM, abM, OrdI]
    omega
  case far hp he hn =>
    subst he
    have hs : s = 0 := by omega
    have hab : ab = false := h6 (by omega)
    simp [stageM, abM, OrdI, hs, hab]
  case near hp he hn _ =>
    subst he
    have hs : s = 0 := by omega
    have hab : ab = false := h6 (by omega)
    simp [stageM, abM, OrdI, hs, hab]
  case closed hp he =>
    subst he
    have hs : s = 0 := by omega
    have hab : ab = false := h6 (by omega)
    simp [stageM, abM, OrdI, hs, hab]
  case drop hp he =>
    subst he
    have hs : s = 0 := by omega
    simp [stageM, abM, OrdI, hs]
  case back hp he =>
    subst he
    simp [stageM, abM, OrdI]
    omega
  case fence hp he hn =>
    subst he
    have hs : s = 1 := by omega
    have hab : ab = false := h6 (by omega)
    have : n ≠ 0 := by omega
    simp [stageM, abM, OrdI, hs, hab, this]
  case whole hp he hn =>
    subst he
    have hs : s = 1 := by omega
    have hab : ab = false := h6 (by omega)
    simp [stageM, abM, OrdI, hs, hab, hn]
  case cut hp he hn _ =>
    subst he
    have hs : s = 2 := by omega
    have hab : ab = false := h6 (by omega)
    simp [stageM, abM, OrdI, hs, hab]
  case done hp he =>
    subst he
    have hs : s = 3 := by omega
    have hab : ab = false := h6 (by omega)
    simp [stageM, abM, OrdI, hs, hab]
  case dropped hp he =>
    subst he
    simp [stageM, abM, OrdI]
    omega
  case backed hp he =>
    subst he
    simp [stageM, abM, OrdI]
    omega
  case regranted hp he =>
    subst he
    simp [stageM, abM, OrdI]
    omega
end Go.Proofs.Ytbnmhnffgleciaa
