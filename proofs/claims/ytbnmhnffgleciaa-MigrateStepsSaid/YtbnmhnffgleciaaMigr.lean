import Derived.Test.YtbnmhnffgleciaaRows
import Derived.Test.YtbnmhnffgleciaaMigrA
namespace Go.Proofs.Ytbnmhnffgleciaa
open Go.RowKit
set_option linter.unusedSimpArgs false
set_option linter.unusedVariables false

/-- Block g is a migration. -/
def MigAt (w : World) (g : Nat) (who : Int × Int × Int × Int) (p : Int) (closed : Bool) (early : Int) : Prop :=
  Blk w g 46 #[.int .i64 who.1, .int .i64 who.2.1, .int .i64 who.2.2.1, .int .i64 who.2.2.2, .int .i64 p, .bool closed, .int .i64 early]

set_option maxHeartbeats 1000000 in
theorem migNew_any (a b c d : Int) (w : World) :
    Calls Try.prog 9 #[.int .i64 a, .int .i64 b, .int .i64 c, .int .i64 d] w fun e w' => e = .returned (.pointer (some ⟨w.heap.size, 0, none⟩)) ∧ MigAt w' w.heap.size (a, b, c, d) 1 false 0 ∧ Below w.heap.size w w' := by
  go_enter Try.func9, Try.ntmps9
  go_wp2
  go_ret
  exact ⟨rfl, Blk.new _ _ _, (Below.refl _ _).alloc (Nat.le_refl _) _⟩

section
variable {w : World} {g : Nat} {who : Int × Int × Int × Int} {p : Int} {closed : Bool} {early : Int}
theorem MigAt.c0 (h : MigAt w g who p closed early) : w.cell? ⟨g, 0, none⟩ = some (.int .i64 who.1) := Blk.cell' h rfl
theorem MigAt.c1 (h : MigAt w g who p closed early) : w.cell? ⟨g, 1, none⟩ = some (.int .i64 who.2.1) := Blk.cell' h rfl
theorem MigAt.c2 (h : MigAt w g who p closed early) : w.cell? ⟨g, 2, none⟩ = some (.int .i64 who.2.2.1) := Blk.cell' h rfl
theorem MigAt.c3 (h : MigAt w g who p closed early) : w.cell? ⟨g, 3, none⟩ = some (.int .i64 who.2.2.2) := Blk.cell' h rfl
theorem MigAt.c4 (h : MigAt w g who p closed early) : w.cell? ⟨g, 4, none⟩ = some (.int .i64 p) := Blk.cell' h rfl
theorem MigAt.c5 (h : MigAt w g who p closed early) : w.cell? ⟨g, 5, none⟩ = some (.bool closed) := Blk.cell' h rfl
theorem MigAt.c6 (h : MigAt w g who p closed early) : w.cell? ⟨g, 6, none⟩ = some (.int .i64 early) := Blk.cell' h rfl
end

set_option maxHeartbeats 1000000 in
theorem phase_any (g : Nat) (p : Int) (w : World) (hp : w.cell? ⟨g, 4, none⟩ = some (.int .i64 p)) :
    Calls Try.prog 13 #[.pointer (some ⟨g, 0, none⟩)] w fun e w' => e = .returned (.int .i64 p) ∧ w = w' := by
  go_enter Try.func13, Try.ntmps13
  go_wp2
  go_ret
  exact ⟨rfl, rfl⟩

set_option maxHeartbeats 1000000 in
theorem closed_any (g : Nat) (p : Bool) (w : World) (hp : w.cell? ⟨g, 5, none⟩ = some (.bool p)) :
    Calls Try.prog 12 #[.pointer (some ⟨g, 0, none⟩)] w fun e w' => e = .returned (.bool p) ∧ w = w' := by
  go_enter Try.func12, Try.ntmps12
  go_wp2
  go_ret
  exact ⟨rfl, rfl⟩

set_option maxHeartbeats 1000000 in
theorem earliest_any (g : Nat) (p : Int) (w : World) (hp : w.cell? ⟨g, 6, none⟩ = some (.int .i64 p)) :
    Calls Try.prog 18 #[.pointer (some ⟨g, 0, none⟩)] w fun e w' => e = .returned (.int .i64 p) ∧ w = w' := by
  go_enter Try.func18, Try.ntmps18
  go_wp2
  go_ret
  exact ⟨rfl, rfl⟩

set_option maxHeartbeats 1000000 in
theorem tenant_any (g : Nat) (p : Int) (w : World) (hp : w.cell? ⟨g, 0, none⟩ = some (.int .i64 p)) :
    Calls Try.prog 19 #[.pointer (some ⟨g, 0, none⟩)] w fun e w' => e = .returned (.int .i64 p) ∧ w = w' := by
  go_enter Try.func19, Try.ntmps19
  go_wp2
  go_ret
  exact ⟨rfl, rfl⟩

set_option maxHeartbeats 1000000 in
theorem from_any (g : Nat) (p : Int) (w : World) (hp : w.cell? ⟨g, 1, none⟩ = some (.int .i64 p)) :
    Calls Try.prog 20 #[.pointer (some ⟨g, 0, none⟩)] w fun e w' => e = .returned (.int .i64 p) ∧ w = w' := by
  go_enter Try.func20, Try.ntmps20
  go_wp2
  go_ret
  exact ⟨rfl, rfl⟩

set_option maxHeartbeats 1000000 in
theorem to_any (g : Nat) (p : Int) (w : World) (hp : w.cell? ⟨g, 2, none⟩ = some (.int .i64 p)) :
    Calls Try.prog 21 #[.pointer (some ⟨g, 0, none⟩)] w fun e w' => e = .returned (.int .i64 p) ∧ w = w' := by
  go_enter Try.func21, Try.ntmps21
  go_wp2
  go_ret
  exact ⟨rfl, rfl⟩

def taskM (p : Int) : Int :=
  if p = 1 ∨ p = 3 then 1 else if p = 2 then 2 else if p = 4 then 3 else if p = 5 then 4 else if p = 7 ∨ p = 8 then 5 else if p = 9 then 6 else 0

set_option maxHeartbeats 1000000 in
theorem task_any (g : Nat) (p : Int) (w : World) (hp : w.cell? ⟨g, 4, none⟩ = some (.int .i64 p)) :
    Calls Try.prog 14 #[.pointer (some ⟨g, 0, none⟩)] w fun e w' => e = .returned (.int .i64 (taskM p)) ∧ w = w' := by
  go_enter Try.func14, Try.ntmps14
  go_wp2
  all_goals
    go_ret
    refine ⟨ret_i64 ?_, rfl⟩
    go_light
    try simp only [beq_iff_eq, beq_eq_false_iff_ne, bne_iff_ne, bne_eq_false_iff_eq, ne_eq] at *
    unfold taskM
    repeat first | rw [if_pos (by omega)] | rw [if_neg (by omega)]

/-- What Step makes of a migration. -/
def closedM (p ev n : Int) (closed : Bool) : Bool := if afterM p ev n ≠ 0 ∧ ev = 2 then true else closed
def earlyM (p ev n : Int) (early : Int) : Int := if afterM p ev n ≠ 0 ∧ ev = 3 then n + 1 else early
def phaseM (p ev n : Int) : Int := if afterM p ev n ≠ 0 then afterM p ev n else p

theorem afterM_cut {p ev n : Int} (h : afterM p ev n ≠ 0) (he : ev = 3) : 0 ≤ n ∧ n ≤ 1073741824 := by
  unfold afterM fenceM at h
  subst he
  repeat (split at h <;> try omega)

def StepPost (g : Nat) (who : Int × Int × Int × Int) (p ev n : Int) (closed : Bool) (early : Int) (w : World) (e : Ending) (w' : World) : Prop :=
  e = .returned (.bool (decide (afterM p ev n ≠ 0))) ∧ MigAt w' g who (phaseM p ev n) (closedM p ev n closed) (earlyM p ev n early) ∧ w.grownBy w' (some g)

theorem stepPost_no {g : Nat} {who : Int × Int × Int × Int} {p ev n : Int} {closed : Bool} {early : Int} {w : World} (h : MigAt w g who p closed early) (h0 : afterM p ev n = 0) :
    StepPost g who p ev n closed early w (.returned (.bool false)) w := by
  refine ⟨by simp [h0], ?_, grown_refl _ _⟩
  simpa [phaseM, closedM, earlyM, h0] using h
theorem stepPost_yes {g : Nat} {who : Int × Int × Int × Int} {p ev n : Int} {closed : Bool} {early : Int} {w w' : World} (h0 : afterM p ev n ≠ 0)
    (h : MigAt w' g who (afterM p ev n) (if ev = 2 then true else closed) (if ev = 3 then n + 1 else early)) (hg : w.grownBy w' (some g)) :
    StepPost g who p ev n closed early w (.returned (.bool true)) w' := by
  refine ⟨by simp [h0], ?_, hg⟩
  simpa [phaseM, closedM, earlyM, h0] using h

set_option maxHeartbeats 1000000 in
theorem step_any (g : Nat) (who : Int × Int × Int × Int) (p ev n : Int) (closed : Bool) (early : Int) (w : World) (hm : MigAt w g who p closed early) :
    Calls Try.prog 11 #[.pointer (some ⟨g, 0, none⟩), .int .i64 ev, .int .i64 n] w (StepPost g who p ev n closed early w) := by
  have hp := hm.c4
  have f4 := hm.frozen 4
  have f5 := hm.frozen 5
  have f6 := hm.frozen 6
  have hc5 := hm.c5
  have hc6 := hm.c6
  have HM := Lib.hid hm
  clear hm
  have hn : afterM p ev n ≠ 0 → (ev == 3) = true → 0 ≤ n ∧ n ≤ 1073741824 := fun h he => afterM_cut h (by simpa using he)
  have hy : ∀ w', afterM p ev n ≠ 0 → MigAt w' g who (afterM p ev n) (if ev = 2 then true else closed) (if ev = 3 then n + 1 else early) → w.grownBy w' (some g) →
    StepPost g who p ev n closed early w (.returned (.bool true)) w' := fun w' => stepPost_yes
  have HY := Lib.hid hy
  have hno : MigAt w g who p closed early → afterM p ev n = 0 → StepPost g who p ev n closed early w (.returned (.bool false)) w := stepPost_no
  have HN := Lib.hid hno
  clear hy hno
  generalize StepPost g who p ev n closed early w = post at *
  have hcall := after_any g p ev n w hp
  generalize afterM p ev n = a at *
  have HC := Lib.hid hcall
  have Hn := Lib.hid hn
  clear hcall hn
  by_cases h0 : a = 0
  · have h0' : (a == 0) = true := by simpa using h0
    have H0 := Lib.hid h0
    clear h0
    go_enter Try.func11, Try.ntmps11
    go_wp2_with (go_at_call 28; refine HC.out.mono ?_; rintro e w' ⟨rfl, rfl⟩)
    exact HN.out HM.out H0.out
  · have h0' : (a == 0) = false := by simpa using h0
    have H0 := Lib.hid h0
    clear h0
    by_cases h2 : ev = 2
    · have h2' : (ev == 2) = true := by simpa using h2
      have h3' : (ev == 3) = false := by simp; omega
      have H2 := Lib.hid h2
      clear h2
      go_enter Try.func11, Try.ntmps11
      go_wp2_with (go_at_call 28; refine HC.out.mono ?_; rintro e w' ⟨rfl, rfl⟩)
      refine HY.out _ H0.out ?_ (grown_set (grown_set (grown_refl _ _) _ _) _ _)
      rw [if_pos H2.out, if_neg (by rw [H2.out]; decide)]
      exact (Blk.set_ (Blk.set_ HM.out 5 (.bool true)) 4 (.int .i64 a))
    · have h2' : (ev == 2) = false := by simpa using h2
      have H2 := Lib.hid h2
      clear h2
      by_cases h3 : ev = 3
      · have h3' : (ev == 3) = true := by simpa using h3
        have H3 := Lib.hid h3
        have hn1 := (Hn.out H0.out h3').1
        have hn2 := (Hn.out H0.out h3').2
        clear h3
        go_enter Try.func11, Try.ntmps11
        go_wp2_with (go_at_call 28; refine HC.out.mono ?_; rintro e w' ⟨rfl, rfl⟩)
        refine HY.out _ H0.out ?_ (grown_set (grown_set (grown_refl _ _) _ _) _ _)
        rw [if_neg H2.out, if_pos H3.out]
        exact (Blk.set_ (Blk.set_ HM.out 6 (.int .i64 (n + 1))) 4 (.int .i64 a))
      · have h3' : (ev == 3) = false := by simpa using h3
        have H3 := Lib.hid h3
        clear h3
        go_enter Try.func11, Try.ntmps11
        go_wp2_with (go_at_call 28; refine HC.out.mono ?_; rintro e w' ⟨rfl, rfl⟩)
        refine HY.out _ H0.out ?_ (grown_set (grown_refl _ _) _ _)
        rw [if_neg H2.out, if_neg H3.out]
        exact (Blk.set_ HM.out 4 (.int .i64 a))
end Go.Proofs.Ytbnmhnffgleciaa
