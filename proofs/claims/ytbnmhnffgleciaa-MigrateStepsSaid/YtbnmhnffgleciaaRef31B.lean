import Derived.Test.YtbnmhnffgleciaaRef31
namespace Go.Proofs.Ytbnmhnffgleciaa
open Go.RowKit
set_option linter.unusedSimpArgs false
set_option linter.unusedVariables false

/-- Block g is a migration of the reference. -/
def RMigAt (w : World) (g : Nat) (who : Int × Int × Int × Int) (p : Int) (closed : Bool) (early : Int) : Prop :=
  Blk w g 39 #[.int .i64 who.1, .int .i64 who.2.1, .int .i64 who.2.2.1, .int .i64 who.2.2.2, .int .i64 p, .int .i64 early, .bool closed]

section
variable {w : World} {g : Nat} {who : Int × Int × Int × Int} {p : Int} {closed : Bool} {early : Int}
theorem RMigAt.c4 (h : RMigAt w g who p closed early) : w.cell? ⟨g, 4, none⟩ = some (.int .i64 p) := Blk.cell' h rfl
theorem RMigAt.c5 (h : RMigAt w g who p closed early) : w.cell? ⟨g, 5, none⟩ = some (.int .i64 early) := Blk.cell' h rfl
theorem RMigAt.c6 (h : RMigAt w g who p closed early) : w.cell? ⟨g, 6, none⟩ = some (.bool closed) := Blk.cell' h rfl
end

set_option maxHeartbeats 1000000 in
theorem rmigNew_any (a b c d : Int) (w : World) :
    Calls Try.prog 15 #[.int .i64 a, .int .i64 b, .int .i64 c, .int .i64 d] w fun e w' => e = .returned (.pointer (some ⟨w.heap.size, 0, none⟩)) ∧ RMigAt w' w.heap.size (a, b, c, d) 1 false 0 ∧ Below w.heap.size w w' := by
  go_enter Try.func15, Try.ntmps15
  go_wp2
  go_ret
  exact ⟨rfl, Blk.new _ _ _, (Below.refl _ _).alloc (Nat.le_refl _) _⟩

set_option maxHeartbeats 1000000 in
theorem rtask_any (p : Int) (w : World) :
    Calls Try.prog 17 #[.int .i64 p] w fun e w' => e = .returned (.int .i64 (taskM p)) ∧ w = w' := by
  go_enter Try.func17, Try.ntmps17
  go_wp2
  all_goals
    go_ret
    refine ⟨ret_i64 ?_, rfl⟩
    go_light
    first
      | (simp [taskM, *]; done)
      | (simp_all [taskM]; done)

def RStepPost (g : Nat) (who : Int × Int × Int × Int) (p ev n : Int) (closed : Bool) (early : Int) (w : World) (e : Ending) (w' : World) : Prop :=
  e = .returned (.bool (decide (afterM p ev n ≠ 0))) ∧ RMigAt w' g who (phaseM p ev n) (closedM p ev n closed) (earlyM p ev n early) ∧ w.grownBy w' (some g)

theorem rstepPost_no {g : Nat} {who : Int × Int × Int × Int} {p ev n : Int} {closed : Bool} {early : Int} {w w' : World} (h : RMigAt w' g who p closed early) (h0 : afterM p ev n = 0) (hg : w.grownBy w' (some g)) :
    RStepPost g who p ev n closed early w (.returned (.bool false)) w' := by
  refine ⟨by simp [h0], ?_, hg⟩
  simpa [phaseM, closedM, earlyM, h0] using h
theorem rstepPost_yes {g : Nat} {who : Int × Int × Int × Int} {p ev n : Int} {closed : Bool} {early : Int} {w w' : World} (h0 : afterM p ev n ≠ 0)
    (h : RMigAt w' g who (afterM p ev n) (if ev = 2 then true else closed) (if ev = 3 then n + 1 else early)) (hg : w.grownBy w' (some g)) :
    RStepPost g who p ev n closed early w (.returned (.bool true)) w' := by
  refine ⟨by simp [h0], ?_, hg⟩
  simpa [phaseM, closedM, earlyM, h0] using h

set_option maxHeartbeats 1000000 in
theorem rstep_any (g : Nat) (who : Int × Int × Int × Int) (p ev n : Int) (closed : Bool) (early : Int) (w : World) (hm : RMigAt w g who p closed early) :
    Calls Try.prog 16 #[.pointer (some ⟨g, 0, none⟩), .int .i64 ev, .int .i64 n] w (RStepPost g who p ev n closed early w) := by
  have hp := hm.c4
  have hn : afterM p ev n ≠ 0 → (ev == 3) = true → 0 ≤ n ∧ n ≤ 1073741824 := fun h he => afterM_cut h (by simpa using he)
  have hy : ∀ w', afterM p ev n ≠ 0 → RMigAt w' g who (afterM p ev n) (if ev = 2 then true else closed) (if ev = 3 then n + 1 else early) → w.grownBy w' (some g) →
    RStepPost g who p ev n closed early w (.returned (.bool true)) w' := fun w' => rstepPost_yes
  have HY := Lib.hid hy
  have hno : ∀ w', RMigAt w' g who p closed early → afterM p ev n = 0 → w.grownBy w' (some g) → RStepPost g who p ev n closed early w (.returned (.bool false)) w' := fun w' => rstepPost_no
  have HN := Lib.hid hno
  clear hy hno
  generalize RStepPost g who p ev n closed early w = post at *
  have HM := Lib.hid hm
  have hgl := hm.lt
  clear hm
  have hcall := refAfter_any p ev n w
  rw [refAfter_eq] at hcall
  generalize afterM p ev n = a at *
  have HC := Lib.hid hcall
  have Hn := Lib.hid hn
  clear hcall hn
  go_enter Try.func16, Try.ntmps16
  go_wp2_with fail
  refine HC.out.mono ?_
  rintro e w1 ⟨rfl, hb⟩
  have hm1 : RMigAt w1 g who p closed early := Blk.below HM.out hb hgl
  have hg1 : w.grownBy w1 (some g) := grown_of_below hb _
  have f4 := hm1.frozen 4
  have f5 := hm1.frozen 5
  have f6 := hm1.frozen 6
  have hc4 := hm1.c4
  have hc5 := hm1.c5
  have hc6 := hm1.c6
  have HM1 := Lib.hid hm1
  clear hm1 hb HM hp HC
  by_cases h0 : a = 0
  · have h0' : (a == 0) = true := by simpa using h0
    have H0 := Lib.hid h0
    clear h0
    go_wp2
    exact HN.out _ HM1.out H0.out hg1
  · have h0' : (a == 0) = false := by simpa using h0
    have H0 := Lib.hid h0
    clear h0
    by_cases h2 : ev = 2
    · have h2' : (ev == 2) = true := by simpa using h2
      have h3' : (ev == 3) = false := by simp; omega
      have H2 := Lib.hid h2
      clear h2
      go_wp2
      refine HY.out _ H0.out ?_ (grown_set (grown_set hg1 _ _) _ _)
      rw [if_pos H2.out, if_neg (by rw [H2.out]; decide)]
      exact (Blk.set_ (Blk.set_ HM1.out 4 (.int .i64 a)) 6 (.bool true))
    · have h2' : (ev == 2) = false := by simpa using h2
      have H2 := Lib.hid h2
      clear h2
      by_cases h3 : ev = 3
      · have h3' : (ev == 3) = true := by simpa using h3
        have H3 := Lib.hid h3
        have hn1 := (Hn.out H0.out h3').1
        have hn2 := (Hn.out H0.out h3').2
        clear h3
        go_wp2
        refine HY.out _ H0.out ?_ (grown_set (grown_set hg1 _ _) _ _)
        rw [if_neg H2.out, if_pos H3.out]
        exact (Blk.set_ (Blk.set_ HM1.out 4 (.int .i64 a)) 5 (.int .i64 (n + 1)))
      · have h3' : (ev == 3) = false := by simpa using h3
        have H3 := Lib.hid h3
        clear h3
        go_wp2
        refine HY.out _ H0.out ?_ (grown_set hg1 _ _)
        rw [if_neg H2.out, if_neg H3.out]
        exact (Blk.set_ HM1.out 4 (.int .i64 a))

set_option maxHeartbeats 1000000 in
theorem migCopy_any (g : Nat) (who : Int × Int × Int × Int) (p : Int) (closed : Bool) (early : Int) (w : World) (hm : MigAt w g who p closed early) :
    Calls Try.prog 22 #[.pointer (some ⟨g, 0, none⟩)] w fun e w' => e = .returned (.pointer (some ⟨w.heap.size, 0, none⟩)) ∧ MigAt w' w.heap.size who p closed early ∧ Below w.heap.size w w' := by
  have c0 := hm.c0
  have c1 := hm.c1
  have c2 := hm.c2
  have c3 := hm.c3
  have c4 := hm.c4
  have c5 := hm.c5
  have c6 := hm.c6
  clear hm
  go_enter Try.func22, Try.ntmps22
  go_wp2
  go_ret
  exact ⟨rfl, Blk.new _ _ _, (Below.refl _ _).alloc (Nat.le_refl _) _⟩
end Go.Proofs.Ytbnmhnffgleciaa
