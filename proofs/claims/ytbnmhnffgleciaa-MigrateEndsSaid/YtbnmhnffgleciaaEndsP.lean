import Derived.Test.YtbnmhnffgleciaaOrderP
namespace Go.Proofs.Ytbnmhnffgleciaa
set_option linter.unusedSimpArgs false
set_option linter.unusedVariables false

/-- Which phases are behind the fence. -/
def MigI (p : Int) (closed : Bool) : Prop := 1 ≤ p ∧ p ≤ 10 ∧ (p = 1 ∨ p = 2 ∨ p = 7 → closed = false) ∧ (p = 3 ∨ p = 4 ∨ p = 5 ∨ p = 6 ∨ p = 8 ∨ p = 9 → closed = true)

theorem migI_step {p ev n : Int} {closed : Bool} (h : MigI p closed) : MigI (phaseM p ev n) (closedM p ev n closed) := by
  by_cases ha : afterM p ev n = 0
  · simpa [phaseM, closedM, ha] using h
  · have hl := afterM_line rfl ha
    obtain ⟨h1, h2, h3, h4⟩ := h
    have e1 : phaseM p ev n = afterM p ev n := by simp [phaseM, ha]
    have e2 : closedM p ev n closed = if ev = 2 then true else closed := by simp [closedM, ha]
    rw [e1, e2]
    generalize afterM p ev n = a at *
    cases hl
    case lost he _ _ => subst he; simp [MigI]
    case far hp he _ => subst he; simpa [MigI] using h3 (by omega)
    case near hp he _ _ => subst he; simpa [MigI] using h3 (by omega)
    case closed hp he => subst he; simp [MigI]
    case drop hp he => subst he; simpa [MigI] using h3 (by omega)
    case back hp he => subst he; simpa [MigI] using h4 (by omega)
    case fence hp he _ => subst he; simpa [MigI] using h4 (by omega)
    case whole hp he _ => subst he; simpa [MigI] using h4 (by omega)
    case cut hp he _ _ => subst he; simpa [MigI] using h4 (by omega)
    case done hp he => subst he; simpa [MigI] using h4 (by omega)
    case dropped hp he => subst he; simp [MigI]
    case backed hp he => subst he; simpa [MigI] using h4 (by omega)
    case regranted hp he => subst he; simp [MigI]

/-- What holds before round k of the tasks. -/
def EndI (back : Bool) (k : Nat) (p : Int) (closed : Bool) (ds : List Int) : Prop :=
  ds.length = k ∧
  ((back = false ∧ 1 ≤ p ∧ p ≤ 6 ∧ ((k : Int) + 1 ≤ p ∨ p = 6) ∧ (ds.contains 6) = false) ∨
   (back = true ∧ p = 7 ∧ k = 0 ∧ closed = false ∧ (ds.contains 6) = false) ∨
   (back = true ∧ p = 8 ∧ k = 0 ∧ closed = true ∧ (ds.contains 6) = false) ∨
   (back = true ∧ p = 9 ∧ k ≤ 1 ∧ closed = true ∧ (ds.contains 6) = false) ∨
   (back = true ∧ p = 10 ∧ (ds.contains 6) = closed))

theorem endI_start {p : Int} {closed : Bool} (h : MigI p closed) (h6 : p ≠ 6) (h10 : p ≠ 10) : EndI (decide (7 ≤ p)) 0 p closed [] := by
  obtain ⟨h1, h2, h3, h4⟩ := h
  refine ⟨rfl, ?_⟩
  by_cases hp : 7 ≤ p
  · have : p = 7 ∨ p = 8 ∨ p = 9 := by omega
    rcases this with rfl | rfl | rfl
    · exact .inr (.inl ⟨rfl, rfl, rfl, h3 (by omega), rfl⟩)
    · exact .inr (.inr (.inl ⟨rfl, rfl, rfl, h4 (by omega), rfl⟩))
    · exact .inr (.inr (.inr (.inl ⟨rfl, rfl, by omega, h4 (by omega), rfl⟩)))
  · exact .inl ⟨by simpa using hp, h1, by omega, by omega, rfl⟩
theorem endI_drop {p : Int} {closed : Bool} (h : MigI p closed) (h7 : p < 6) : EndI true 0 (phaseM p 5 0) (closedM p 5 0 closed) [] := by
  obtain ⟨h1, h2, h3, h4⟩ := h
  refine ⟨rfl, ?_⟩
  have : p = 1 ∨ p = 2 ∨ p = 3 ∨ p = 4 ∨ p = 5 := by omega
  rcases this with rfl | rfl | rfl | rfl | rfl
  · exact .inr (.inl ⟨rfl, rfl, rfl, by simpa [closedM] using h3 (by omega), rfl⟩)
  · exact .inr (.inl ⟨rfl, rfl, rfl, by simpa [closedM] using h3 (by omega), rfl⟩)
  · exact .inr (.inr (.inl ⟨rfl, rfl, rfl, by simpa [closedM] using h4 (by omega), rfl⟩))
  · exact .inr (.inr (.inl ⟨rfl, rfl, rfl, by simpa [closedM] using h4 (by omega), rfl⟩))
  · exact .inr (.inr (.inl ⟨rfl, rfl, rfl, by simpa [closedM] using h4 (by omega), rfl⟩))
theorem afterM_drop {p : Int} (h1 : 1 ≤ p) (h7 : p < 6) : afterM p 5 0 ≠ 0 := by
  have : p = 1 ∨ p = 2 ∨ p = 3 ∨ p = 4 ∨ p = 5 := by omega
  rcases this with rfl | rfl | rfl | rfl | rfl <;> decide

/-- The event that does a task. -/
def taskEv (t : Int) : Int := if t = 1 then 1 else if t = 2 then 2 else if t = 3 then 3 else if t = 4 then 4 else if t = 5 then 6 else 7
def taskN (t : Int) : Int := if t = 3 then 7 else 0

theorem endI_range {back : Bool} {k : Nat} {p : Int} {closed : Bool} {ds : List Int} (h : EndI back k p closed ds) : p = 1 ∨ p = 2 ∨ p = 3 ∨ p = 4 ∨ p = 5 ∨ p = 6 ∨ p = 7 ∨ p = 8 ∨ p = 9 ∨ p = 10 := by
  rcases h.2 with h | h | h | h | h <;> omega

theorem endI_go {back : Bool} {k : Nat} {p : Int} {closed : Bool} {ds : List Int} (h : EndI back k p closed ds) (h6 : p ≠ 6) (h10 : p ≠ 10) :
    EndI back (k + 1) (phaseM p (taskEv (taskM p)) (taskN (taskM p))) (closedM p (taskEv (taskM p)) (taskN (taskM p)) closed) (ds ++ [taskM p]) := by
  obtain ⟨hl, h⟩ := h
  refine ⟨by simp [hl], ?_⟩
  rcases h with ⟨rfl, a1, a2, a3, a4⟩ | ⟨rfl, rfl, a2, rfl, a4⟩ | ⟨rfl, rfl, a2, rfl, a4⟩ | ⟨rfl, rfl, a2, rfl, a4⟩ | ⟨rfl, rfl, a2⟩
  · have : p = 1 ∨ p = 2 ∨ p = 3 ∨ p = 4 ∨ p = 5 := by omega
    refine .inl ⟨rfl, ?_⟩
    have e6 : (ds ++ [taskM p]).contains 6 = false := by
      rw [List.contains_append, a4]
      rcases this with rfl | rfl | rfl | rfl | rfl <;> rfl
    refine ⟨?_, ?_, ?_, e6⟩
    · rcases this with rfl | rfl | rfl | rfl | rfl <;> decide
    · rcases this with rfl | rfl | rfl | rfl | rfl <;> decide
    · have e : phaseM p (taskEv (taskM p)) (taskN (taskM p)) = p + 1 := by rcases this with rfl | rfl | rfl | rfl | rfl <;> decide
      rw [e]
      omega
  · exact .inr (.inr (.inr (.inr ⟨rfl, rfl, by rw [List.contains_append, a4]; rfl⟩)))
  · exact .inr (.inr (.inr (.inl ⟨rfl, rfl, by omega, rfl, by rw [List.contains_append, a4]; rfl⟩)))
  · exact .inr (.inr (.inr (.inr ⟨rfl, rfl, by rw [List.contains_append, a4]; rfl⟩)))
  · exact absurd rfl h10
theorem endI_stay {back : Bool} {k : Nat} {p : Int} {closed : Bool} {ds : List Int} (h : EndI back k p closed ds) (hp : p = 6 ∨ p = 10) : EndI back (k + 1) p closed (ds ++ [0]) := by
  obtain ⟨hl, h⟩ := h
  refine ⟨by simp [hl], ?_⟩
  have e : (ds ++ [0]).contains (6 : Int) = ds.contains 6 := by rw [List.contains_append]; simp
  rw [e]
  rcases h with ⟨rfl, a1, a2, a3, a4⟩ | ⟨rfl, rfl, a2, rfl, a4⟩ | ⟨rfl, rfl, a2, rfl, a4⟩ | ⟨rfl, rfl, a2, rfl, a4⟩ | ⟨rfl, rfl, a2⟩
  · exact .inl ⟨rfl, by omega, by omega, by omega, a4⟩
  · omega
  · omega
  · omega
  · exact .inr (.inr (.inr (.inr ⟨rfl, rfl, a2⟩)))
theorem take_contains (ds : List Int) (k : Nat) (hk : k < ds.length) : (ds.take (k + 1)).contains 6 = ((ds.take k).contains 6 || (ds[k] == 6)) := by
  rw [List.take_succ_eq_append_getElem hk, List.contains_append]
  congr 1
  show ((6 == ds[k]) || false) = _
  rw [Bool.or_false]
  exact BEq.comm
theorem task_cases {back : Bool} {k : Nat} {p : Int} {closed : Bool} {ds : List Int} (h : EndI back k p closed ds) :
    (taskM p = 0 ∧ EndI back (k + 1) p closed (ds ++ [0])) ∨
    (∃ t ev n : Int, taskM p = t ∧ afterM p ev n ≠ 0 ∧ EndI back (k + 1) (phaseM p ev n) (closedM p ev n closed) (ds ++ [t]) ∧ ((t = 1 ∧ ev = 1 ∧ n = 0) ∨ (t = 2 ∧ ev = 2 ∧ n = 0) ∨ (t = 3 ∧ ev = 3 ∧ n = 7) ∨ (t = 4 ∧ ev = 4 ∧ n = 0) ∨ (t = 5 ∧ ev = 6 ∧ n = 0) ∨ (t = 6 ∧ ev = 7 ∧ n = 0))) := by
  by_cases hp : p = 6 ∨ p = 10
  · exact .inl ⟨by rcases hp with rfl | rfl <;> rfl, endI_stay h hp⟩
  · have hg := endI_go h (by omega) (by omega)
    refine .inr ⟨taskM p, taskEv (taskM p), taskN (taskM p), rfl, ?_, hg, ?_⟩
    · have hr := endI_range h
      clear h hg
      rcases hr with rfl | rfl | rfl | rfl | rfl | rfl | rfl | rfl | rfl | rfl
      all_goals first | (exfalso; omega) | (simp [taskM, taskEv, taskN, afterM, fenceM]; done)
    · have hr := endI_range h
      clear h hg
      rcases hr with rfl | rfl | rfl | rfl | rfl | rfl | rfl | rfl | rfl | rfl
      all_goals first | (exfalso; omega) | (simp [taskM, taskEv, taskN]; done)
theorem endI_end {back : Bool} {p : Int} {closed : Bool} {ds : List Int} (h : EndI back 8 p closed ds) : (back = false ∧ p = 6 ∧ ds.contains 6 = false) ∨ (back = true ∧ p = 10 ∧ ds.contains 6 = closed) := by
  rcases h.2 with h | h | h | h | h
  · exact .inl ⟨h.1, by omega, h.2.2.2.2⟩
  · omega
  · omega
  · omega
  · exact .inr h
end Go.Proofs.Ytbnmhnffgleciaa
