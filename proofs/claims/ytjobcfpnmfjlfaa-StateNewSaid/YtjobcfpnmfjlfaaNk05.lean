import Derived.Test.YtjobcfpnmfjlfaaNk04
import Derived.Laws.OwnMore
namespace Go.Proofs.Ytjobcfpnmfjlfaa
open Go.RowKit
set_option linter.unusedSimpArgs false
set_option linter.unusedVariables false

theorem putL_twice {cs : Array Value} {off : Nat} {l l' : List Value} (h : l.length = l'.length) : putL (putL cs off l) off l' = putL cs off l' := by
  apply Array.ext_getElem?
  intro j
  rw [putL_get, putL_get, putL_get, putL_size, h]
  by_cases hc : off ≤ j ∧ j < off + l'.length ∧ j < cs.size
  · rw [if_pos hc, if_pos hc]
  · rw [if_neg hc, if_neg hc, if_neg hc]
theorem InRow.trans {w wx wy : World} {g : Nat} {T : TypeId} {cs : Array Value} {off : Nat} {l l' : List Value} (h : InRow w g T cs off l wx) (k : InRow wx g T (putL cs off l) off l' wy) (hl : l.length = l'.length) : InRow w g T cs off l' wy :=
  ⟨by rw [← putL_twice hl]; exact k.blk, by have := h.fits; omega, grown_trans h.grown k.grown⟩
set_option maxHeartbeats 16000000 in
set_option maxRecDepth 100000 in
theorem stOnTenant_any (e : Ent) (t : TS) (g off : Nat) (cs : Array Value) (w : World) (hk : e.kind = 1 ∨ e.kind = 2 ∨ e.kind = 3 ∨ e.kind = 4 ∨ e.kind = 5 ∨ e.kind = 6 ∨ e.kind = 7 ∨ e.kind = 8) (htk : 0 ≤ e.tick ∧ e.tick ≤ 1073741824)
    (hto : e.kind = 2 → e.cell = t.home ∨ e.cell = t.standby ∨ e.cell = t.target) (hB : Blk w g 50 cs) (hrow : RowAt cs off (tsC t)) :
    Calls Try.prog 62 #[.pointer (some ⟨g, off, none⟩), .agg (entC e).toArray] w fun r w' => r = .returned (.tuple #[]) ∧ InRow w g 50 cs off (tsC (tenEff t e)) w' := by
  obtain ⟨kind, tick, tenant, cell, other, epoch, since, till, n⟩ := e
  simp only at hk hto htk
  rcases hk with rfl | rfl | rfl | rfl | rfl | rfl | rfl | rfl
  · skip
    clear hto
    have hBe := Blk.new w 45 #[.int .i64 1, .int .i64 tick, .int .i64 tenant, .int .i64 cell, .int .i64 other, .int .i64 epoch, .int .i64 since, .int .i64 till, .int .i64 n]
    have hR0 := (InRow.start hB hrow (by simp [tsC])).alloc (.cells #[.int .i64 1, .int .i64 tick, .int .i64 tenant, .int .i64 cell, .int .i64 other, .int .i64 epoch, .int .i64 since, .int .i64 till, .int .i64 n] 45)
    have hgw := hB.lt
    clear hB hrow
    unfold entC
    go_enter Try.func62, Try.ntmps62
    go_upto_region 1 with fail
    generalize w.alloc _ = W at *
    have hge := hBe.lt
    have hgn : w.heap.size ≠ g := by omega
    have v0 := hBe.cell' (i := 0) (v := .int .i64 1) rfl
    have v1 := hBe.cell' (i := 1) (v := .int .i64 tick) rfl
    have v2 := hBe.cell' (i := 2) (v := .int .i64 tenant) rfl
    have v3 := hBe.cell' (i := 3) (v := .int .i64 cell) rfl
    have v4 := hBe.cell' (i := 4) (v := .int .i64 other) rfl
    have v5 := hBe.cell' (i := 5) (v := .int .i64 epoch) rfl
    have v6 := hBe.cell' (i := 6) (v := .int .i64 since) rfl
    have v7 := hBe.cell' (i := 7) (v := .int .i64 till) rfl
    have v8 := hBe.cell' (i := 8) (v := .int .i64 n) rfl
    have r0 := hR0.cell0 (v := .bool t.placed) rfl
    have rf0 := hR0.frozen (off)
    have r1 := hR0.cell (j := 1) (v := .bool t.shed) rfl
    have rf1 := hR0.frozen (off + 1)
    have r2 := hR0.cell (j := 2) (v := .int .i64 t.home) rfl
    have rf2 := hR0.frozen (off + 2)
    have r3 := hR0.cell (j := 3) (v := .int .i64 t.standby) rfl
    have rf3 := hR0.frozen (off + 3)
    have r4 := hR0.cell (j := 4) (v := .int .i64 t.next) rfl
    have rf4 := hR0.frozen (off + 4)
    have r5 := hR0.cell (j := 5) (v := .int .i64 t.target) rfl
    have rf5 := hR0.frozen (off + 5)
    have r6 := hR0.cell (j := 6) (v := .int .i64 t.epoch) rfl
    have rf6 := hR0.frozen (off + 6)
    have r7 := hR0.cell (j := 7) (v := .int .i64 t.win.cell) rfl
    have rf7 := hR0.frozen (off + 7)
    have r8 := hR0.cell (j := 8) (v := .int .i64 t.win.epoch) rfl
    have rf8 := hR0.frozen (off + 8)
    have r9 := hR0.cell (j := 9) (v := .int .i64 t.win.version) rfl
    have rf9 := hR0.frozen (off + 9)
    have r10 := hR0.cell (j := 10) (v := .int .i64 t.win.since) rfl
    have rf10 := hR0.frozen (off + 10)
    have r11 := hR0.cell (j := 11) (v := .int .i64 t.win.till) rfl
    have rf11 := hR0.frozen (off + 11)
    go_wp2
    refine wp_region_seq (fun w' : World => Blk w' w.heap.size 45 #[.int .i64 1, .int .i64 tick, .int .i64 tenant, .int .i64 cell, .int .i64 other, .int .i64 epoch, .int .i64 since, .int .i64 till, .int .i64 n]) 15 [(0, false), (1, false), (2, false), (3, false), (4, false), (5, false), (6, false), (7, false), (8, false), (9, true), (10, false), (11, false), (12, true), (13, false), (14, false)] (by kernel_rfl) (by kernel_rfl) hBe ?_
    simp only [List.take_succ_cons, List.take_zero, List.drop_succ_cons, List.drop_zero]
    repeat (refine wpSeqH_fix _ ?_ rfl (by exact fun _ _ _ h => h) (Or.inl ⟨by rfl, ?_⟩) ?_; rotate_left; (intro w' hSw; (try dsimp only at hSw); have q0 := hSw.cell' (i := 0) (v := .int .i64 1) rfl; have q1 := hSw.cell' (i := 1) (v := .int .i64 tick) rfl; have q2 := hSw.cell' (i := 2) (v := .int .i64 tenant) rfl; have q3 := hSw.cell' (i := 3) (v := .int .i64 cell) rfl; have q4 := hSw.cell' (i := 4) (v := .int .i64 other) rfl; have q5 := hSw.cell' (i := 5) (v := .int .i64 epoch) rfl; have q6 := hSw.cell' (i := 6) (v := .int .i64 since) rfl; have q7 := hSw.cell' (i := 7) (v := .int .i64 till) rfl; have q8 := hSw.cell' (i := 8) (v := .int .i64 n) rfl; go_simp; (try with_reducible rfl)); (simp only [List.getElem_toArray, List.getElem_cons_zero, List.getElem_cons_succ, Act.put, List.setIfInBounds_toArray, List.set_cons_zero, List.set_cons_succ]))
    refine wpSeqH_act rfl rfl ?_
    go_simp
    refine ⟨hBe.far hgn _, ?_⟩
    skip
    repeat (refine wpSeqH_fix _ ?_ rfl (by exact fun _ _ _ h => h) (Or.inl ⟨by rfl, ?_⟩) ?_; rotate_left; (intro w' hSw; (try dsimp only at hSw); have q0 := hSw.cell' (i := 0) (v := .int .i64 1) rfl; have q1 := hSw.cell' (i := 1) (v := .int .i64 tick) rfl; have q2 := hSw.cell' (i := 2) (v := .int .i64 tenant) rfl; have q3 := hSw.cell' (i := 3) (v := .int .i64 cell) rfl; have q4 := hSw.cell' (i := 4) (v := .int .i64 other) rfl; have q5 := hSw.cell' (i := 5) (v := .int .i64 epoch) rfl; have q6 := hSw.cell' (i := 6) (v := .int .i64 since) rfl; have q7 := hSw.cell' (i := 7) (v := .int .i64 till) rfl; have q8 := hSw.cell' (i := 8) (v := .int .i64 n) rfl; go_simp; (try with_reducible rfl)); (simp only [List.getElem_toArray, List.getElem_cons_zero, List.getElem_cons_succ, Act.put, List.setIfInBounds_toArray, List.set_cons_zero, List.set_cons_succ]))
    refine wpSeqH_act rfl rfl ?_
    go_simp
    refine ⟨(hBe.far (p := ⟨g, off, none⟩) hgn _).far hgn _, ?_⟩
    repeat (refine wpSeqH_fix _ ?_ rfl (by exact fun _ _ _ h => h) (Or.inl ⟨by rfl, ?_⟩) ?_; rotate_left; (intro w' hSw; (try dsimp only at hSw); have q0 := hSw.cell' (i := 0) (v := .int .i64 1) rfl; have q1 := hSw.cell' (i := 1) (v := .int .i64 tick) rfl; have q2 := hSw.cell' (i := 2) (v := .int .i64 tenant) rfl; have q3 := hSw.cell' (i := 3) (v := .int .i64 cell) rfl; have q4 := hSw.cell' (i := 4) (v := .int .i64 other) rfl; have q5 := hSw.cell' (i := 5) (v := .int .i64 epoch) rfl; have q6 := hSw.cell' (i := 6) (v := .int .i64 since) rfl; have q7 := hSw.cell' (i := 7) (v := .int .i64 till) rfl; have q8 := hSw.cell' (i := 8) (v := .int .i64 n) rfl; go_simp; (try with_reducible rfl)); (simp only [List.getElem_toArray, List.getElem_cons_zero, List.getElem_cons_succ, Act.put, List.setIfInBounds_toArray, List.set_cons_zero, List.set_cons_succ]))
    refine wpSeqH_end ?_
    simp only [List.getElem_toArray, List.getElem_cons_zero, List.getElem_cons_succ, Act.put, List.setIfInBounds_toArray, List.set_cons_zero, List.set_cons_succ, thenK]
    go_wp2
    go_end0
    have hfin := (((hR0.set0 (by simp [tsC, csC]) (.bool true)).set (j := 2) (by simp [tsC, csC]) (.int .i64 cell)).set (j := 3) (by simp [tsC, csC]) (.int .i64 other))
    clear v0 v1 v2 v3 v4 v5 v6 v7 v8
    refine ⟨rfl, ?_⟩
    (first | exact hfin | exact hfin.drew | exact hfin.drew.drew)
  · skip
    have HG := Lib.hid (fun W cs' (hb : Blk W g 50 cs') hr => stGranted_any ⟨2, tick, tenant, cell, other, epoch, since, till, n⟩ t g off cs' W (hto rfl) hb hr)
    clear hto
    unfold entC at HG
    simp only at HG
    have hBe := Blk.new w 45 #[.int .i64 2, .int .i64 tick, .int .i64 tenant, .int .i64 cell, .int .i64 other, .int .i64 epoch, .int .i64 since, .int .i64 till, .int .i64 n]
    have hR0 := (InRow.start hB hrow (by simp [tsC])).alloc (.cells #[.int .i64 2, .int .i64 tick, .int .i64 tenant, .int .i64 cell, .int .i64 other, .int .i64 epoch, .int .i64 since, .int .i64 till, .int .i64 n] 45)
    have hgw := hB.lt
    clear hB hrow
    unfold entC
    go_enter Try.func62, Try.ntmps62
    go_upto_region 1 with fail
    generalize w.alloc _ = W at *
    have hge := hBe.lt
    have hgn : w.heap.size ≠ g := by omega
    have v0 := hBe.cell' (i := 0) (v := .int .i64 2) rfl
    have v1 := hBe.cell' (i := 1) (v := .int .i64 tick) rfl
    have v2 := hBe.cell' (i := 2) (v := .int .i64 tenant) rfl
    have v3 := hBe.cell' (i := 3) (v := .int .i64 cell) rfl
    have v4 := hBe.cell' (i := 4) (v := .int .i64 other) rfl
    have v5 := hBe.cell' (i := 5) (v := .int .i64 epoch) rfl
    have v6 := hBe.cell' (i := 6) (v := .int .i64 since) rfl
    have v7 := hBe.cell' (i := 7) (v := .int .i64 till) rfl
    have v8 := hBe.cell' (i := 8) (v := .int .i64 n) rfl
    have r0 := hR0.cell0 (v := .bool t.placed) rfl
    have rf0 := hR0.frozen (off)
    have r1 := hR0.cell (j := 1) (v := .bool t.shed) rfl
    have rf1 := hR0.frozen (off + 1)
    have r2 := hR0.cell (j := 2) (v := .int .i64 t.home) rfl
    have rf2 := hR0.frozen (off + 2)
    have r3 := hR0.cell (j := 3) (v := .int .i64 t.standby) rfl
    have rf3 := hR0.frozen (off + 3)
    have r4 := hR0.cell (j := 4) (v := .int .i64 t.next) rfl
    have rf4 := hR0.frozen (off + 4)
    have r5 := hR0.cell (j := 5) (v := .int .i64 t.target) rfl
    have rf5 := hR0.frozen (off + 5)
    have r6 := hR0.cell (j := 6) (v := .int .i64 t.epoch) rfl
    have rf6 := hR0.frozen (off + 6)
    have r7 := hR0.cell (j := 7) (v := .int .i64 t.win.cell) rfl
    have rf7 := hR0.frozen (off + 7)
    have r8 := hR0.cell (j := 8) (v := .int .i64 t.win.epoch) rfl
    have rf8 := hR0.frozen (off + 8)
    have r9 := hR0.cell (j := 9) (v := .int .i64 t.win.version) rfl
    have rf9 := hR0.frozen (off + 9)
    have r10 := hR0.cell (j := 10) (v := .int .i64 t.win.since) rfl
    have rf10 := hR0.frozen (off + 10)
    have r11 := hR0.cell (j := 11) (v := .int .i64 t.win.till) rfl
    have rf11 := hR0.frozen (off + 11)
    go_wp2_with fail
    refine (HG.out _ _ hR0.blk (putL_row hR0.fits)).mono ?_
    rintro r w1 ⟨rfl, hR1⟩
    have HF := Lib.hid (hR0.trans hR1 rfl)
    clear v0 v1 v2 v3 v4 v5 v6 v7 v8 r0 rf0 r1 rf1 r2 rf2 r3 rf3 r4 rf4 r5 rf5 r6 rf6 r7 rf7 r8 rf8 r9 rf9 r10 rf10 r11 rf11 hR0 hR1 hBe hge hgn
    go_wp2
    go_end0
    exact ⟨rfl, HF.out⟩
  · skip
    clear hto
    have e1 : IntKind.i64.wrap (tick + 1) = tick + 1 := IntWalk.i64_in _ (by omega)
    rcases (show (tick + 1) < t.win.till ∨ t.win.till ≤ (tick + 1) by omega) with hm | hm
    · have hBe := Blk.new w 45 #[.int .i64 3, .int .i64 tick, .int .i64 tenant, .int .i64 cell, .int .i64 other, .int .i64 epoch, .int .i64 since, .int .i64 till, .int .i64 n]
      have hR0 := (InRow.start hB hrow (by simp [tsC])).alloc (.cells #[.int .i64 3, .int .i64 tick, .int .i64 tenant, .int .i64 cell, .int .i64 other, .int .i64 epoch, .int .i64 since, .int .i64 till, .int .i64 n] 45)
      have hgw := hB.lt
      clear hB hrow
      unfold entC
      go_enter Try.func62, Try.ntmps62
      go_upto_region 1 with fail
      generalize w.alloc _ = W at *
      have hge := hBe.lt
      have hgn : w.heap.size ≠ g := by omega
      have v0 := hBe.cell' (i := 0) (v := .int .i64 3) rfl
      have v1 := hBe.cell' (i := 1) (v := .int .i64 tick) rfl
      have v2 := hBe.cell' (i := 2) (v := .int .i64 tenant) rfl
      have v3 := hBe.cell' (i := 3) (v := .int .i64 cell) rfl
      have v4 := hBe.cell' (i := 4) (v := .int .i64 other) rfl
      have v5 := hBe.cell' (i := 5) (v := .int .i64 epoch) rfl
      have v6 := hBe.cell' (i := 6) (v := .int .i64 since) rfl
      have v7 := hBe.cell' (i := 7) (v := .int .i64 till) rfl
      have v8 := hBe.cell' (i := 8) (v := .int .i64 n) rfl
      have r0 := hR0.cell0 (v := .bool t.placed) rfl
      have rf0 := hR0.frozen (off)
      have r1 := hR0.cell (j := 1) (v := .bool t.shed) rfl
      have rf1 := hR0.frozen (off + 1)
      have r2 := hR0.cell (j := 2) (v := .int .i64 t.home) rfl
      have rf2 := hR0.frozen (off + 2)
      have r3 := hR0.cell (j := 3) (v := .int .i64 t.standby) rfl
      have rf3 := hR0.frozen (off + 3)
      have r4 := hR0.cell (j := 4) (v := .int .i64 t.next) rfl
      have rf4 := hR0.frozen (off + 4)
      have r5 := hR0.cell (j := 5) (v := .int .i64 t.target) rfl
      have rf5 := hR0.frozen (off + 5)
      have r6 := hR0.cell (j := 6) (v := .int .i64 t.epoch) rfl
      have rf6 := hR0.frozen (off + 6)
      have r7 := hR0.cell (j := 7) (v := .int .i64 t.win.cell) rfl
      have rf7 := hR0.frozen (off + 7)
      have r8 := hR0.cell (j := 8) (v := .int .i64 t.win.epoch) rfl
      have rf8 := hR0.frozen (off + 8)
      have r9 := hR0.cell (j := 9) (v := .int .i64 t.win.version) rfl
      have rf9 := hR0.frozen (off + 9)
      have r10 := hR0.cell (j := 10) (v := .int .i64 t.win.since) rfl
      have rf10 := hR0.frozen (off + 10)
      have r11 := hR0.cell (j := 11) (v := .int .i64 t.win.till) rfl
      have rf11 := hR0.frozen (off + 11)
      go_wp2
      refine wp_region_seq (fun w' : World => Blk w' w.heap.size 45 #[.int .i64 3, .int .i64 tick, .int .i64 tenant, .int .i64 cell, .int .i64 other, .int .i64 epoch, .int .i64 since, .int .i64 till, .int .i64 n] ∧ w'.cell? ⟨g, off + 7 + 3, none⟩ = some (.int .i64 (t.win.since)) ∧ w'.cell? ⟨g, off + 7 + 4, none⟩ = some (.int .i64 (t.win.till))) 13 [(0, false), (1, false), (2, false), (3, false), (4, false), (5, false), (6, false), (7, false), (8, false), (9, false), (10, false), (11, false), (12, false)] (by kernel_rfl) (by kernel_rfl) ⟨hBe, hR0.cell (j := 10) rfl, hR0.cell (j := 11) rfl⟩ ?_
      simp only [List.take_succ_cons, List.take_zero, List.drop_succ_cons, List.drop_zero]
      repeat (refine wpSeqH_fix _ ?_ rfl (by exact fun _ _ _ h => h) (Or.inl ⟨by rfl, ?_⟩) ?_; rotate_left; (rintro w' ⟨hSw, hS1, hS2⟩; have q1 := hSw.cell' (i := 1) (v := .int .i64 tick) rfl; go_simp; (try with_reducible rfl)); (simp only [List.getElem_toArray, List.getElem_cons_zero, List.getElem_cons_succ, Act.put, List.setIfInBounds_toArray, List.set_cons_zero, List.set_cons_succ]))
      refine wpSeqH_end ?_
      simp only [List.getElem_toArray, List.getElem_cons_zero, List.getElem_cons_succ, Act.put, List.setIfInBounds_toArray, List.set_cons_zero, List.set_cons_succ, thenK]
      go_wp2
      have hR1 := (hR0.set (j := 11) (by simp [tsC]) (.int .i64 (tick + 1))).drew
      have hBe1 : Blk (W.setCell ⟨g, off + 7 + 4, none⟩ (.int .i64 (tick + 1))).drew w.heap.size 45 #[.int .i64 3, .int .i64 tick, .int .i64 tenant, .int .i64 cell, .int .i64 other, .int .i64 epoch, .int .i64 since, .int .i64 till, .int .i64 n] := hBe.far hgn _
      replace hR1 : InRow w g 50 cs off ((tsC t).set 11 (.int .i64 (tick + 1))) (W.setCell ⟨g, off + 7 + 4, none⟩ (.int .i64 (tick + 1))).drew := hR1
      clear hR0 hBe v0 v1 v2 v3 v4 v5 v6 v7 v8 r0 rf0 r1 rf1 r2 rf2 r3 rf3 r4 rf4 r5 rf5 r6 rf6 r7 rf7 r8 rf8 r9 rf9 r10 rf10 r11 rf11
      generalize (W.setCell ⟨g, off + 7 + 4, none⟩ (.int .i64 (tick + 1))).drew = W3 at *
      have s10 : W3.cell? ⟨g, off + 7 + 3, none⟩ = some (.int .i64 t.win.since) := hR1.cell (j := 10) rfl
      have s10f : W3.frozen? ⟨g, off + 7 + 3, none⟩ = false := hR1.frozen _
      rcases (show (tick + 1) < t.win.since ∨ t.win.since ≤ (tick + 1) by omega) with hs | hs
      · refine wp_region_seq (fun w' : World => Blk w' w.heap.size 45 #[.int .i64 3, .int .i64 tick, .int .i64 tenant, .int .i64 cell, .int .i64 other, .int .i64 epoch, .int .i64 since, .int .i64 till, .int .i64 n] ∧ w'.cell? ⟨g, off + 7 + 3, none⟩ = some (.int .i64 (t.win.since)) ∧ w'.cell? ⟨g, off + 7 + 4, none⟩ = some (.int .i64 (tick + 1))) 15 [(0, false), (1, false), (2, false), (3, false), (4, false), (5, false), (6, false), (7, false), (8, false), (9, false), (10, false), (11, false), (12, false), (13, false), (14, false)] (by kernel_rfl) (by kernel_rfl) ⟨hBe1, hR1.cell (j := 10) rfl, hR1.cell (j := 11) rfl⟩ ?_
        simp only [List.take_succ_cons, List.take_zero, List.drop_succ_cons, List.drop_zero]
        repeat (refine wpSeqH_fix _ ?_ rfl (by exact fun _ _ _ h => h) (Or.inl ⟨by rfl, ?_⟩) ?_; rotate_left; (rintro w' ⟨hSw, hS1, hS2⟩; have q1 := hSw.cell' (i := 1) (v := .int .i64 tick) rfl; go_simp; (try with_reducible rfl)); (simp only [List.getElem_toArray, List.getElem_cons_zero, List.getElem_cons_succ, Act.put, List.setIfInBounds_toArray, List.set_cons_zero, List.set_cons_succ]))
        refine wpSeqH_end ?_
        simp only [List.getElem_toArray, List.getElem_cons_zero, List.getElem_cons_succ, Act.put, List.setIfInBounds_toArray, List.set_cons_zero, List.set_cons_succ, thenK]
        go_wp2
        go_end0
        have hfin := (hR1.set (j := 10) (by simp [tsC]) (.int .i64 (tick + 1))).drew
        refine ⟨rfl, ?_⟩
        rw [show tenEff t ⟨3, tick, tenant, cell, other, epoch, since, till, n⟩ = { t with win := { t.win with till := tick + 1, since := tick + 1 } } by simp [tenEff, cutW]; omega]
        (first | exact hfin | exact hfin.drew)
      · refine wp_region_seq (fun w' : World => Blk w' w.heap.size 45 #[.int .i64 3, .int .i64 tick, .int .i64 tenant, .int .i64 cell, .int .i64 other, .int .i64 epoch, .int .i64 since, .int .i64 till, .int .i64 n] ∧ w'.cell? ⟨g, off + 7 + 3, none⟩ = some (.int .i64 (t.win.since)) ∧ w'.cell? ⟨g, off + 7 + 4, none⟩ = some (.int .i64 (tick + 1))) 15 [(0, false), (1, false), (2, false), (3, false), (4, false), (5, false), (6, false), (7, false), (8, false), (9, false), (10, false), (11, false), (12, false), (13, false), (14, false)] (by kernel_rfl) (by kernel_rfl) ⟨hBe1, hR1.cell (j := 10) rfl, hR1.cell (j := 11) rfl⟩ ?_
        simp only [List.take_succ_cons, List.take_zero, List.drop_succ_cons, List.drop_zero]
        repeat (refine wpSeqH_fix _ ?_ rfl (by exact fun _ _ _ h => h) (Or.inl ⟨by rfl, ?_⟩) ?_; rotate_left; (rintro w' ⟨hSw, hS1, hS2⟩; have q1 := hSw.cell' (i := 1) (v := .int .i64 tick) rfl; go_simp; (try with_reducible rfl)); (simp only [List.getElem_toArray, List.getElem_cons_zero, List.getElem_cons_succ, Act.put, List.setIfInBounds_toArray, List.set_cons_zero, List.set_cons_succ]))
        refine wpSeqH_end ?_
        simp only [List.getElem_toArray, List.getElem_cons_zero, List.getElem_cons_succ, Act.put, List.setIfInBounds_toArray, List.set_cons_zero, List.set_cons_succ, thenK]
        go_wp2
        go_end0
        have hfin := (hR1.set (j := 10) (by simp [tsC]) (.int .i64 (t.win.since))).drew
        refine ⟨rfl, ?_⟩
        rw [show tenEff t ⟨3, tick, tenant, cell, other, epoch, since, till, n⟩ = { t with win := { t.win with till := tick + 1, since := t.win.since } } by simp [tenEff, cutW]; omega]
        (first | exact hfin | exact hfin.drew)
    · have hBe := Blk.new w 45 #[.int .i64 3, .int .i64 tick, .int .i64 tenant, .int .i64 cell, .int .i64 other, .int .i64 epoch, .int .i64 since, .int .i64 till, .int .i64 n]
      have hR0 := (InRow.start hB hrow (by simp [tsC])).alloc (.cells #[.int .i64 3, .int .i64 tick, .int .i64 tenant, .int .i64 cell, .int .i64 other, .int .i64 epoch, .int .i64 since, .int .i64 till, .int .i64 n] 45)
      have hgw := hB.lt
      clear hB hrow
      unfold entC
      go_enter Try.func62, Try.ntmps62
      go_upto_region 1 with fail
      generalize w.alloc _ = W at *
      have hge := hBe.lt
      have hgn : w.heap.size ≠ g := by omega
      have v0 := hBe.cell' (i := 0) (v := .int .i64 3) rfl
      have v1 := hBe.cell' (i := 1) (v := .int .i64 tick) rfl
      have v2 := hBe.cell' (i := 2) (v := .int .i64 tenant) rfl
      have v3 := hBe.cell' (i := 3) (v := .int .i64 cell) rfl
      have v4 := hBe.cell' (i := 4) (v := .int .i64 other) rfl
      have v5 := hBe.cell' (i := 5) (v := .int .i64 epoch) rfl
      have v6 := hBe.cell' (i := 6) (v := .int .i64 since) rfl
      have v7 := hBe.cell' (i := 7) (v := .int .i64 till) rfl
      have v8 := hBe.cell' (i := 8) (v := .int .i64 n) rfl
      have r0 := hR0.cell0 (v := .bool t.placed) rfl
      have rf0 := hR0.frozen (off)
      have r1 := hR0.cell (j := 1) (v := .bool t.shed) rfl
      have rf1 := hR0.frozen (off + 1)
      have r2 := hR0.cell (j := 2) (v := .int .i64 t.home) rfl
      have rf2 := hR0.frozen (off + 2)
      have r3 := hR0.cell (j := 3) (v := .int .i64 t.standby) rfl
      have rf3 := hR0.frozen (off + 3)
      have r4 := hR0.cell (j := 4) (v := .int .i64 t.next) rfl
      have rf4 := hR0.frozen (off + 4)
      have r5 := hR0.cell (j := 5) (v := .int .i64 t.target) rfl
      have rf5 := hR0.frozen (off + 5)
      have r6 := hR0.cell (j := 6) (v := .int .i64 t.epoch) rfl
      have rf6 := hR0.frozen (off + 6)
      have r7 := hR0.cell (j := 7) (v := .int .i64 t.win.cell) rfl
      have rf7 := hR0.frozen (off + 7)
      have r8 := hR0.cell (j := 8) (v := .int .i64 t.win.epoch) rfl
      have rf8 := hR0.frozen (off + 8)
      have r9 := hR0.cell (j := 9) (v := .int .i64 t.win.version) rfl
      have rf9 := hR0.frozen (off + 9)
      have r10 := hR0.cell (j := 10) (v := .int .i64 t.win.since) rfl
      have rf10 := hR0.frozen (off + 10)
      have r11 := hR0.cell (j := 11) (v := .int .i64 t.win.till) rfl
      have rf11 := hR0.frozen (off + 11)
      go_wp2
      refine wp_region_seq (fun w' : World => Blk w' w.heap.size 45 #[.int .i64 3, .int .i64 tick, .int .i64 tenant, .int .i64 cell, .int .i64 other, .int .i64 epoch, .int .i64 since, .int .i64 till, .int .i64 n] ∧ w'.cell? ⟨g, off + 7 + 3, none⟩ = some (.int .i64 (t.win.since)) ∧ w'.cell? ⟨g, off + 7 + 4, none⟩ = some (.int .i64 (t.win.till))) 13 [(0, false), (1, false), (2, false), (3, false), (4, false), (5, false), (6, false), (7, false), (8, false), (9, false), (10, false), (11, false), (12, false)] (by kernel_rfl) (by kernel_rfl) ⟨hBe, hR0.cell (j := 10) rfl, hR0.cell (j := 11) rfl⟩ ?_
      simp only [List.take_succ_cons, List.take_zero, List.drop_succ_cons, List.drop_zero]
      repeat (refine wpSeqH_fix _ ?_ rfl (by exact fun _ _ _ h => h) (Or.inl ⟨by rfl, ?_⟩) ?_; rotate_left; (rintro w' ⟨hSw, hS1, hS2⟩; have q1 := hSw.cell' (i := 1) (v := .int .i64 tick) rfl; go_simp; (try with_reducible rfl)); (simp only [List.getElem_toArray, List.getElem_cons_zero, List.getElem_cons_succ, Act.put, List.setIfInBounds_toArray, List.set_cons_zero, List.set_cons_succ]))
      refine wpSeqH_end ?_
      simp only [List.getElem_toArray, List.getElem_cons_zero, List.getElem_cons_succ, Act.put, List.setIfInBounds_toArray, List.set_cons_zero, List.set_cons_succ, thenK]
      go_wp2
      have hR1 := (hR0.set (j := 11) (by simp [tsC]) (.int .i64 (t.win.till))).drew
      have hBe1 : Blk (W.setCell ⟨g, off + 7 + 4, none⟩ (.int .i64 (t.win.till))).drew w.heap.size 45 #[.int .i64 3, .int .i64 tick, .int .i64 tenant, .int .i64 cell, .int .i64 other, .int .i64 epoch, .int .i64 since, .int .i64 till, .int .i64 n] := hBe.far hgn _
      replace hR1 : InRow w g 50 cs off ((tsC t).set 11 (.int .i64 (t.win.till))) (W.setCell ⟨g, off + 7 + 4, none⟩ (.int .i64 (t.win.till))).drew := hR1
      clear hR0 hBe v0 v1 v2 v3 v4 v5 v6 v7 v8 r0 rf0 r1 rf1 r2 rf2 r3 rf3 r4 rf4 r5 rf5 r6 rf6 r7 rf7 r8 rf8 r9 rf9 r10 rf10 r11 rf11
      generalize (W.setCell ⟨g, off + 7 + 4, none⟩ (.int .i64 (t.win.till))).drew = W3 at *
      have s10 : W3.cell? ⟨g, off + 7 + 3, none⟩ = some (.int .i64 t.win.since) := hR1.cell (j := 10) rfl
      have s10f : W3.frozen? ⟨g, off + 7 + 3, none⟩ = false := hR1.frozen _
      rcases (show (t.win.till) < t.win.since ∨ t.win.since ≤ (t.win.till) by omega) with hs | hs
      · refine wp_region_seq (fun w' : World => Blk w' w.heap.size 45 #[.int .i64 3, .int .i64 tick, .int .i64 tenant, .int .i64 cell, .int .i64 other, .int .i64 epoch, .int .i64 since, .int .i64 till, .int .i64 n] ∧ w'.cell? ⟨g, off + 7 + 3, none⟩ = some (.int .i64 (t.win.since)) ∧ w'.cell? ⟨g, off + 7 + 4, none⟩ = some (.int .i64 (t.win.till))) 15 [(0, false), (1, false), (2, false), (3, false), (4, false), (5, false), (6, false), (7, false), (8, false), (9, false), (10, false), (11, false), (12, false), (13, false), (14, false)] (by kernel_rfl) (by kernel_rfl) ⟨hBe1, hR1.cell (j := 10) rfl, hR1.cell (j := 11) rfl⟩ ?_
        simp only [List.take_succ_cons, List.take_zero, List.drop_succ_cons, List.drop_zero]
        repeat (refine wpSeqH_fix _ ?_ rfl (by exact fun _ _ _ h => h) (Or.inl ⟨by rfl, ?_⟩) ?_; rotate_left; (rintro w' ⟨hSw, hS1, hS2⟩; have q1 := hSw.cell' (i := 1) (v := .int .i64 tick) rfl; go_simp; (try with_reducible rfl)); (simp only [List.getElem_toArray, List.getElem_cons_zero, List.getElem_cons_succ, Act.put, List.setIfInBounds_toArray, List.set_cons_zero, List.set_cons_succ]))
        refine wpSeqH_end ?_
        simp only [List.getElem_toArray, List.getElem_cons_zero, List.getElem_cons_succ, Act.put, List.setIfInBounds_toArray, List.set_cons_zero, List.set_cons_succ, thenK]
        go_wp2
        go_end0
        have hfin := (hR1.set (j := 10) (by simp [tsC]) (.int .i64 (t.win.till))).drew
        refine ⟨rfl, ?_⟩
        rw [show tenEff t ⟨3, tick, tenant, cell, other, epoch, since, till, n⟩ = { t with win := { t.win with till := t.win.till, since := t.win.till } } by simp [tenEff, cutW]; omega]
        (first | exact hfin | exact hfin.drew)
      · refine wp_region_seq (fun w' : World => Blk w' w.heap.size 45 #[.int .i64 3, .int .i64 tick, .int .i64 tenant, .int .i64 cell, .int .i64 other, .int .i64 epoch, .int .i64 since, .int .i64 till, .int .i64 n] ∧ w'.cell? ⟨g, off + 7 + 3, none⟩ = some (.int .i64 (t.win.since)) ∧ w'.cell? ⟨g, off + 7 + 4, none⟩ = some (.int .i64 (t.win.till))) 15 [(0, false), (1, false), (2, false), (3, false), (4, false), (5, false), (6, false), (7, false), (8, false), (9, false), (10, false), (11, false), (12, false), (13, false), (14, false)] (by kernel_rfl) (by kernel_rfl) ⟨hBe1, hR1.cell (j := 10) rfl, hR1.cell (j := 11) rfl⟩ ?_
        simp only [List.take_succ_cons, List.take_zero, List.drop_succ_cons, List.drop_zero]
        repeat (refine wpSeqH_fix _ ?_ rfl (by exact fun _ _ _ h => h) (Or.inl ⟨by rfl, ?_⟩) ?_; rotate_left; (rintro w' ⟨hSw, hS1, hS2⟩; have q1 := hSw.cell' (i := 1) (v := .int .i64 tick) rfl; go_simp; (try with_reducible rfl)); (simp only [List.getElem_toArray, List.getElem_cons_zero, List.getElem_cons_succ, Act.put, List.setIfInBounds_toArray, List.set_cons_zero, List.set_cons_succ]))
        refine wpSeqH_end ?_
        simp only [List.getElem_toArray, List.getElem_cons_zero, List.getElem_cons_succ, Act.put, List.setIfInBounds_toArray, List.set_cons_zero, List.set_cons_succ, thenK]
        go_wp2
        go_end0
        have hfin := (hR1.set (j := 10) (by simp [tsC]) (.int .i64 (t.win.since))).drew
        refine ⟨rfl, ?_⟩
        rw [show tenEff t ⟨3, tick, tenant, cell, other, epoch, since, till, n⟩ = { t with win := { t.win with till := t.win.till, since := t.win.since } } by simp [tenEff, cutW]; omega]
        (first | exact hfin | exact hfin.drew)
  · skip
    clear hto
    have hBe := Blk.new w 45 #[.int .i64 4, .int .i64 tick, .int .i64 tenant, .int .i64 cell, .int .i64 other, .int .i64 epoch, .int .i64 since, .int .i64 till, .int .i64 n]
    have hR0 := (InRow.start hB hrow (by simp [tsC])).alloc (.cells #[.int .i64 4, .int .i64 tick, .int .i64 tenant, .int .i64 cell, .int .i64 other, .int .i64 epoch, .int .i64 since, .int .i64 till, .int .i64 n] 45)
    have hgw := hB.lt
    clear hB hrow
    unfold entC
    go_enter Try.func62, Try.ntmps62
    go_upto_region 1 with fail
    generalize w.alloc _ = W at *
    have hge := hBe.lt
    have hgn : w.heap.size ≠ g := by omega
    have v0 := hBe.cell' (i := 0) (v := .int .i64 4) rfl
    have v1 := hBe.cell' (i := 1) (v := .int .i64 tick) rfl
    have v2 := hBe.cell' (i := 2) (v := .int .i64 tenant) rfl
    have v3 := hBe.cell' (i := 3) (v := .int .i64 cell) rfl
    have v4 := hBe.cell' (i := 4) (v := .int .i64 other) rfl
    have v5 := hBe.cell' (i := 5) (v := .int .i64 epoch) rfl
    have v6 := hBe.cell' (i := 6) (v := .int .i64 since) rfl
    have v7 := hBe.cell' (i := 7) (v := .int .i64 till) rfl
    have v8 := hBe.cell' (i := 8) (v := .int .i64 n) rfl
    have r0 := hR0.cell0 (v := .bool t.placed) rfl
    have rf0 := hR0.frozen (off)
    have r1 := hR0.cell (j := 1) (v := .bool t.shed) rfl
    have rf1 := hR0.frozen (off + 1)
    have r2 := hR0.cell (j := 2) (v := .int .i64 t.home) rfl
    have rf2 := hR0.frozen (off + 2)
    have r3 := hR0.cell (j := 3) (v := .int .i64 t.standby) rfl
    have rf3 := hR0.frozen (off + 3)
    have r4 := hR0.cell (j := 4) (v := .int .i64 t.next) rfl
    have rf4 := hR0.frozen (off + 4)
    have r5 := hR0.cell (j := 5) (v := .int .i64 t.target) rfl
    have rf5 := hR0.frozen (off + 5)
    have r6 := hR0.cell (j := 6) (v := .int .i64 t.epoch) rfl
    have rf6 := hR0.frozen (off + 6)
    have r7 := hR0.cell (j := 7) (v := .int .i64 t.win.cell) rfl
    have rf7 := hR0.frozen (off + 7)
    have r8 := hR0.cell (j := 8) (v := .int .i64 t.win.epoch) rfl
    have rf8 := hR0.frozen (off + 8)
    have r9 := hR0.cell (j := 9) (v := .int .i64 t.win.version) rfl
    have rf9 := hR0.frozen (off + 9)
    have r10 := hR0.cell (j := 10) (v := .int .i64 t.win.since) rfl
    have rf10 := hR0.frozen (off + 10)
    have r11 := hR0.cell (j := 11) (v := .int .i64 t.win.till) rfl
    have rf11 := hR0.frozen (off + 11)
    go_wp2
    go_end0
    have hfin := (hR0.set (j := 4) (by simp [tsC, csC]) (.int .i64 cell))
    clear v0 v1 v2 v3 v4 v5 v6 v7 v8
    refine ⟨rfl, ?_⟩
    (first | exact hfin | exact hfin.drew | exact hfin.drew.drew)
  · skip
    clear hto
    have hBe := Blk.new w 45 #[.int .i64 5, .int .i64 tick, .int .i64 tenant, .int .i64 cell, .int .i64 other, .int .i64 epoch, .int .i64 since, .int .i64 till, .int .i64 n]
    have hR0 := (InRow.start hB hrow (by simp [tsC])).alloc (.cells #[.int .i64 5, .int .i64 tick, .int .i64 tenant, .int .i64 cell, .int .i64 other, .int .i64 epoch, .int .i64 since, .int .i64 till, .int .i64 n] 45)
    have hgw := hB.lt
    clear hB hrow
    unfold entC
    go_enter Try.func62, Try.ntmps62
    go_upto_region 1 with fail
    generalize w.alloc _ = W at *
    have hge := hBe.lt
    have hgn : w.heap.size ≠ g := by omega
    have v0 := hBe.cell' (i := 0) (v := .int .i64 5) rfl
    have v1 := hBe.cell' (i := 1) (v := .int .i64 tick) rfl
    have v2 := hBe.cell' (i := 2) (v := .int .i64 tenant) rfl
    have v3 := hBe.cell' (i := 3) (v := .int .i64 cell) rfl
    have v4 := hBe.cell' (i := 4) (v := .int .i64 other) rfl
    have v5 := hBe.cell' (i := 5) (v := .int .i64 epoch) rfl
    have v6 := hBe.cell' (i := 6) (v := .int .i64 since) rfl
    have v7 := hBe.cell' (i := 7) (v := .int .i64 till) rfl
    have v8 := hBe.cell' (i := 8) (v := .int .i64 n) rfl
    have r0 := hR0.cell0 (v := .bool t.placed) rfl
    have rf0 := hR0.frozen (off)
    have r1 := hR0.cell (j := 1) (v := .bool t.shed) rfl
    have rf1 := hR0.frozen (off + 1)
    have r2 := hR0.cell (j := 2) (v := .int .i64 t.home) rfl
    have rf2 := hR0.frozen (off + 2)
    have r3 := hR0.cell (j := 3) (v := .int .i64 t.standby) rfl
    have rf3 := hR0.frozen (off + 3)
    have r4 := hR0.cell (j := 4) (v := .int .i64 t.next) rfl
    have rf4 := hR0.frozen (off + 4)
    have r5 := hR0.cell (j := 5) (v := .int .i64 t.target) rfl
    have rf5 := hR0.frozen (off + 5)
    have r6 := hR0.cell (j := 6) (v := .int .i64 t.epoch) rfl
    have rf6 := hR0.frozen (off + 6)
    have r7 := hR0.cell (j := 7) (v := .int .i64 t.win.cell) rfl
    have rf7 := hR0.frozen (off + 7)
    have r8 := hR0.cell (j := 8) (v := .int .i64 t.win.epoch) rfl
    have rf8 := hR0.frozen (off + 8)
    have r9 := hR0.cell (j := 9) (v := .int .i64 t.win.version) rfl
    have rf9 := hR0.frozen (off + 9)
    have r10 := hR0.cell (j := 10) (v := .int .i64 t.win.since) rfl
    have rf10 := hR0.frozen (off + 10)
    have r11 := hR0.cell (j := 11) (v := .int .i64 t.win.till) rfl
    have rf11 := hR0.frozen (off + 11)
    go_wp2
    go_end0
    have hfin := ((hR0.set (j := 3) (by simp [tsC, csC]) (.int .i64 cell)).set (j := 4) (by simp [tsC, csC]) (.int .i64 (-1)))
    clear v0 v1 v2 v3 v4 v5 v6 v7 v8
    refine ⟨rfl, ?_⟩
    (first | exact hfin | exact hfin.drew | exact hfin.drew.drew)
  · skip
    clear hto
    have hBe := Blk.new w 45 #[.int .i64 6, .int .i64 tick, .int .i64 tenant, .int .i64 cell, .int .i64 other, .int .i64 epoch, .int .i64 since, .int .i64 till, .int .i64 n]
    have hR0 := (InRow.start hB hrow (by simp [tsC])).alloc (.cells #[.int .i64 6, .int .i64 tick, .int .i64 tenant, .int .i64 cell, .int .i64 other, .int .i64 epoch, .int .i64 since, .int .i64 till, .int .i64 n] 45)
    have hgw := hB.lt
    clear hB hrow
    unfold entC
    go_enter Try.func62, Try.ntmps62
    go_upto_region 1 with fail
    generalize w.alloc _ = W at *
    have hge := hBe.lt
    have hgn : w.heap.size ≠ g := by omega
    have v0 := hBe.cell' (i := 0) (v := .int .i64 6) rfl
    have v1 := hBe.cell' (i := 1) (v := .int .i64 tick) rfl
    have v2 := hBe.cell' (i := 2) (v := .int .i64 tenant) rfl
    have v3 := hBe.cell' (i := 3) (v := .int .i64 cell) rfl
    have v4 := hBe.cell' (i := 4) (v := .int .i64 other) rfl
    have v5 := hBe.cell' (i := 5) (v := .int .i64 epoch) rfl
    have v6 := hBe.cell' (i := 6) (v := .int .i64 since) rfl
    have v7 := hBe.cell' (i := 7) (v := .int .i64 till) rfl
    have v8 := hBe.cell' (i := 8) (v := .int .i64 n) rfl
    have r0 := hR0.cell0 (v := .bool t.placed) rfl
    have rf0 := hR0.frozen (off)
    have r1 := hR0.cell (j := 1) (v := .bool t.shed) rfl
    have rf1 := hR0.frozen (off + 1)
    have r2 := hR0.cell (j := 2) (v := .int .i64 t.home) rfl
    have rf2 := hR0.frozen (off + 2)
    have r3 := hR0.cell (j := 3) (v := .int .i64 t.standby) rfl
    have rf3 := hR0.frozen (off + 3)
    have r4 := hR0.cell (j := 4) (v := .int .i64 t.next) rfl
    have rf4 := hR0.frozen (off + 4)
    have r5 := hR0.cell (j := 5) (v := .int .i64 t.target) rfl
    have rf5 := hR0.frozen (off + 5)
    have r6 := hR0.cell (j := 6) (v := .int .i64 t.epoch) rfl
    have rf6 := hR0.frozen (off + 6)
    have r7 := hR0.cell (j := 7) (v := .int .i64 t.win.cell) rfl
    have rf7 := hR0.frozen (off + 7)
    have r8 := hR0.cell (j := 8) (v := .int .i64 t.win.epoch) rfl
    have rf8 := hR0.frozen (off + 8)
    have r9 := hR0.cell (j := 9) (v := .int .i64 t.win.version) rfl
    have rf9 := hR0.frozen (off + 9)
    have r10 := hR0.cell (j := 10) (v := .int .i64 t.win.since) rfl
    have rf10 := hR0.frozen (off + 10)
    have r11 := hR0.cell (j := 11) (v := .int .i64 t.win.till) rfl
    have rf11 := hR0.frozen (off + 11)
    go_wp2
    go_end0
    have hfin := (hR0.set (j := 5) (by simp [tsC, csC]) (.int .i64 cell))
    clear v0 v1 v2 v3 v4 v5 v6 v7 v8
    refine ⟨rfl, ?_⟩
    (first | exact hfin | exact hfin.drew | exact hfin.drew.drew)
  · skip
    clear hto
    have hBe := Blk.new w 45 #[.int .i64 7, .int .i64 tick, .int .i64 tenant, .int .i64 cell, .int .i64 other, .int .i64 epoch, .int .i64 since, .int .i64 till, .int .i64 n]
    have hR0 := (InRow.start hB hrow (by simp [tsC])).alloc (.cells #[.int .i64 7, .int .i64 tick, .int .i64 tenant, .int .i64 cell, .int .i64 other, .int .i64 epoch, .int .i64 since, .int .i64 till, .int .i64 n] 45)
    have hgw := hB.lt
    clear hB hrow
    unfold entC
    go_enter Try.func62, Try.ntmps62
    go_upto_region 1 with fail
    generalize w.alloc _ = W at *
    have hge := hBe.lt
    have hgn : w.heap.size ≠ g := by omega
    have v0 := hBe.cell' (i := 0) (v := .int .i64 7) rfl
    have v1 := hBe.cell' (i := 1) (v := .int .i64 tick) rfl
    have v2 := hBe.cell' (i := 2) (v := .int .i64 tenant) rfl
    have v3 := hBe.cell' (i := 3) (v := .int .i64 cell) rfl
    have v4 := hBe.cell' (i := 4) (v := .int .i64 other) rfl
    have v5 := hBe.cell' (i := 5) (v := .int .i64 epoch) rfl
    have v6 := hBe.cell' (i := 6) (v := .int .i64 since) rfl
    have v7 := hBe.cell' (i := 7) (v := .int .i64 till) rfl
    have v8 := hBe.cell' (i := 8) (v := .int .i64 n) rfl
    have r0 := hR0.cell0 (v := .bool t.placed) rfl
    have rf0 := hR0.frozen (off)
    have r1 := hR0.cell (j := 1) (v := .bool t.shed) rfl
    have rf1 := hR0.frozen (off + 1)
    have r2 := hR0.cell (j := 2) (v := .int .i64 t.home) rfl
    have rf2 := hR0.frozen (off + 2)
    have r3 := hR0.cell (j := 3) (v := .int .i64 t.standby) rfl
    have rf3 := hR0.frozen (off + 3)
    have r4 := hR0.cell (j := 4) (v := .int .i64 t.next) rfl
    have rf4 := hR0.frozen (off + 4)
    have r5 := hR0.cell (j := 5) (v := .int .i64 t.target) rfl
    have rf5 := hR0.frozen (off + 5)
    have r6 := hR0.cell (j := 6) (v := .int .i64 t.epoch) rfl
    have rf6 := hR0.frozen (off + 6)
    have r7 := hR0.cell (j := 7) (v := .int .i64 t.win.cell) rfl
    have rf7 := hR0.frozen (off + 7)
    have r8 := hR0.cell (j := 8) (v := .int .i64 t.win.epoch) rfl
    have rf8 := hR0.frozen (off + 8)
    have r9 := hR0.cell (j := 9) (v := .int .i64 t.win.version) rfl
    have rf9 := hR0.frozen (off + 9)
    have r10 := hR0.cell (j := 10) (v := .int .i64 t.win.since) rfl
    have rf10 := hR0.frozen (off + 10)
    have r11 := hR0.cell (j := 11) (v := .int .i64 t.win.till) rfl
    have rf11 := hR0.frozen (off + 11)
    go_wp2
    go_end0
    have hfin := (hR0.set (j := 5) (by simp [tsC, csC]) (.int .i64 (-1)))
    clear v0 v1 v2 v3 v4 v5 v6 v7 v8
    refine ⟨rfl, ?_⟩
    (first | exact hfin | exact hfin.drew | exact hfin.drew.drew)
  · skip
    clear hto
    by_cases hn : n = 1
    · subst hn
      have hBe := Blk.new w 45 #[.int .i64 8, .int .i64 tick, .int .i64 tenant, .int .i64 cell, .int .i64 other, .int .i64 epoch, .int .i64 since, .int .i64 till, .int .i64 1]
      have hR0 := (InRow.start hB hrow (by simp [tsC])).alloc (.cells #[.int .i64 8, .int .i64 tick, .int .i64 tenant, .int .i64 cell, .int .i64 other, .int .i64 epoch, .int .i64 since, .int .i64 till, .int .i64 1] 45)
      have hgw := hB.lt
      clear hB hrow
      unfold entC
      go_enter Try.func62, Try.ntmps62
      go_upto_region 1 with fail
      generalize w.alloc _ = W at *
      have hge := hBe.lt
      have hgn : w.heap.size ≠ g := by omega
      have v0 := hBe.cell' (i := 0) (v := .int .i64 8) rfl
      have v1 := hBe.cell' (i := 1) (v := .int .i64 tick) rfl
      have v2 := hBe.cell' (i := 2) (v := .int .i64 tenant) rfl
      have v3 := hBe.cell' (i := 3) (v := .int .i64 cell) rfl
      have v4 := hBe.cell' (i := 4) (v := .int .i64 other) rfl
      have v5 := hBe.cell' (i := 5) (v := .int .i64 epoch) rfl
      have v6 := hBe.cell' (i := 6) (v := .int .i64 since) rfl
      have v7 := hBe.cell' (i := 7) (v := .int .i64 till) rfl
      have v8 := hBe.cell' (i := 8) (v := .int .i64 1) rfl
      have r0 := hR0.cell0 (v := .bool t.placed) rfl
      have rf0 := hR0.frozen (off)
      have r1 := hR0.cell (j := 1) (v := .bool t.shed) rfl
      have rf1 := hR0.frozen (off + 1)
      have r2 := hR0.cell (j := 2) (v := .int .i64 t.home) rfl
      have rf2 := hR0.frozen (off + 2)
      have r3 := hR0.cell (j := 3) (v := .int .i64 t.standby) rfl
      have rf3 := hR0.frozen (off + 3)
      have r4 := hR0.cell (j := 4) (v := .int .i64 t.next) rfl
      have rf4 := hR0.frozen (off + 4)
      have r5 := hR0.cell (j := 5) (v := .int .i64 t.target) rfl
      have rf5 := hR0.frozen (off + 5)
      have r6 := hR0.cell (j := 6) (v := .int .i64 t.epoch) rfl
      have rf6 := hR0.frozen (off + 6)
      have r7 := hR0.cell (j := 7) (v := .int .i64 t.win.cell) rfl
      have rf7 := hR0.frozen (off + 7)
      have r8 := hR0.cell (j := 8) (v := .int .i64 t.win.epoch) rfl
      have rf8 := hR0.frozen (off + 8)
      have r9 := hR0.cell (j := 9) (v := .int .i64 t.win.version) rfl
      have rf9 := hR0.frozen (off + 9)
      have r10 := hR0.cell (j := 10) (v := .int .i64 t.win.since) rfl
      have rf10 := hR0.frozen (off + 10)
      have r11 := hR0.cell (j := 11) (v := .int .i64 t.win.till) rfl
      have rf11 := hR0.frozen (off + 11)
      go_wp2
      go_end0
      have hfin := ((hR0.set (j := 1) (by simp [tsC, csC]) (.bool true)).set (j := 5) (by simp [tsC, csC]) (.int .i64 (-1)))
      clear v0 v1 v2 v3 v4 v5 v6 v7 v8
      refine ⟨rfl, ?_⟩
      (first | exact hfin | exact hfin.drew | exact hfin.drew.drew)
    · have hn2 : (n == 1) = false := beq_eq_false_iff_ne.2 hn
      have hBe := Blk.new w 45 #[.int .i64 8, .int .i64 tick, .int .i64 tenant, .int .i64 cell, .int .i64 other, .int .i64 epoch, .int .i64 since, .int .i64 till, .int .i64 n]
      have hR0 := (InRow.start hB hrow (by simp [tsC])).alloc (.cells #[.int .i64 8, .int .i64 tick, .int .i64 tenant, .int .i64 cell, .int .i64 other, .int .i64 epoch, .int .i64 since, .int .i64 till, .int .i64 n] 45)
      have hgw := hB.lt
      clear hB hrow
      unfold entC
      go_enter Try.func62, Try.ntmps62
      go_upto_region 1 with fail
      generalize w.alloc _ = W at *
      have hge := hBe.lt
      have hgn : w.heap.size ≠ g := by omega
      have v0 := hBe.cell' (i := 0) (v := .int .i64 8) rfl
      have v1 := hBe.cell' (i := 1) (v := .int .i64 tick) rfl
      have v2 := hBe.cell' (i := 2) (v := .int .i64 tenant) rfl
      have v3 := hBe.cell' (i := 3) (v := .int .i64 cell) rfl
      have v4 := hBe.cell' (i := 4) (v := .int .i64 other) rfl
      have v5 := hBe.cell' (i := 5) (v := .int .i64 epoch) rfl
      have v6 := hBe.cell' (i := 6) (v := .int .i64 since) rfl
      have v7 := hBe.cell' (i := 7) (v := .int .i64 till) rfl
      have v8 := hBe.cell' (i := 8) (v := .int .i64 n) rfl
      have r0 := hR0.cell0 (v := .bool t.placed) rfl
      have rf0 := hR0.frozen (off)
      have r1 := hR0.cell (j := 1) (v := .bool t.shed) rfl
      have rf1 := hR0.frozen (off + 1)
      have r2 := hR0.cell (j := 2) (v := .int .i64 t.home) rfl
      have rf2 := hR0.frozen (off + 2)
      have r3 := hR0.cell (j := 3) (v := .int .i64 t.standby) rfl
      have rf3 := hR0.frozen (off + 3)
      have r4 := hR0.cell (j := 4) (v := .int .i64 t.next) rfl
      have rf4 := hR0.frozen (off + 4)
      have r5 := hR0.cell (j := 5) (v := .int .i64 t.target) rfl
      have rf5 := hR0.frozen (off + 5)
      have r6 := hR0.cell (j := 6) (v := .int .i64 t.epoch) rfl
      have rf6 := hR0.frozen (off + 6)
      have r7 := hR0.cell (j := 7) (v := .int .i64 t.win.cell) rfl
      have rf7 := hR0.frozen (off + 7)
      have r8 := hR0.cell (j := 8) (v := .int .i64 t.win.epoch) rfl
      have rf8 := hR0.frozen (off + 8)
      have r9 := hR0.cell (j := 9) (v := .int .i64 t.win.version) rfl
      have rf9 := hR0.frozen (off + 9)
      have r10 := hR0.cell (j := 10) (v := .int .i64 t.win.since) rfl
      have rf10 := hR0.frozen (off + 10)
      have r11 := hR0.cell (j := 11) (v := .int .i64 t.win.till) rfl
      have rf11 := hR0.frozen (off + 11)
      go_wp2
      go_end0
      have hfin := (hR0.set (j := 1) (by simp [tsC, csC]) (.bool false))
      clear v0 v1 v2 v3 v4 v5 v6 v7 v8
      refine ⟨rfl, ?_⟩
      rw [show tenEff t ⟨8, tick, tenant, cell, other, epoch, since, till, n⟩ = { t with shed := false } by simp [tenEff, hn]]
      (first | exact hfin | exact hfin.drew | exact hfin.drew.drew)
end Go.Proofs.Ytjobcfpnmfjlfaa

namespace Go.Proofs.Ytjobcfpnmfjlfaa
open Go.RowKit
set_option linter.unusedSimpArgs false
set_option linter.unusedVariables false
theorem tsInfo : (Try.prog.info? 50).map (fun i => (i.zero, i.size, i.bytes)) = some (some (.agg #[.bool false, .bool false, .int .i64 0, .int .i64 0, .int .i64 0, .int .i64 0, .int .i64 0, .int .i64 0, .int .i64 0, .int .i64 0, .int .i64 0, .int .i64 0]), 12, 88) := by kernel_rfl
theorem csInfo : (Try.prog.info? 67).map (fun i => (i.zero, i.size, i.bytes)) = some (some (.agg #[.int .i64 0, .int .i64 0, .int .i64 0, .int .i64 0]), 4, 32) := by kernel_rfl

theorem tsNil (n cp : Nat) (w : World) : Sem.run Try.prog (binOp BinOp.eql 33 (.slice none n cp) (.slice none 0 0)) w = .ok (.bool true) w := by kernel_rfl
theorem tsSome (ad : Addr) (n cp : Nat) (w : World) : Sem.run Try.prog (binOp BinOp.eql 33 (.slice (some ad) n cp) (.slice none 0 0)) w = .ok (.bool false) w := by kernel_rfl
theorem csNil (n cp : Nat) (w : World) : Sem.run Try.prog (binOp BinOp.eql 34 (.slice none n cp) (.slice none 0 0)) w = .ok (.bool true) w := by kernel_rfl
theorem csSome (ad : Addr) (n cp : Nat) (w : World) : Sem.run Try.prog (binOp BinOp.eql 34 (.slice (some ad) n cp) (.slice none 0 0)) w = .ok (.bool false) w := by kernel_rfl
/-- A list of structs in new memory. -/
def RowPost (T : TypeId) (size : Nat) (w : World) (n : Nat) (xs : List Value) (e : Ending) (w' : World) : Prop :=
  ∃ (A : Option Addr) (cp : Nat), e = .returned (.slice A n cp) ∧ w'.ownsRow w.heap.size T size (.slice A n cp) n xs ∧ Below w.heap.size w w'

set_option maxHeartbeats 2000000 in
set_option maxRecDepth 100000 in
theorem cloneTs_any (A : Option Addr) (cp : Nat) (l : List TS) (w : World) (hl : l.length ≤ 100) (hr : Rd w (· < w.heap.size) A (flat tsC l)) :
    Calls Try.prog 59 #[.slice A l.length cp] w (RowPost 50 12 w l.length (flat tsC l)) := by
  obtain ⟨ii, hii, hi0, hi1, hi2⟩ := info_parts tsInfo
  have hlen := flat_length (enc := tsC) (sz := 12) (fun _ => rfl) l
  cases A with
  | none =>
    have h0 : l = [] := by
      cases l with
      | nil => rfl
      | cons a r =>
        obtain ⟨b, o, hA, _⟩ := hr (by simp [flat, tsC])
        cases hA
    subst h0
    go_enter Try.func59, Try.ntmps59
    have hq := tsNil 0 cp w
    go_wp2
    go_ret
    exact ⟨none, 0, rfl, World.ownsRow_nil _ _ _ _, Below.refl _ _⟩
  | some ad =>
    have hq := tsSome ad l.length cp w
    have h0 := World.ownsRow_lit (base := w.heap.size) (e := 50) (size := 12) w #[] 0 (Nat.le_refl _) (by unfold maxLen; omega) rfl
    have hb0 := (Below.refl w.heap.size w).alloc (Nat.le_refl _) (.cells #[] 50)
    have h1 := (hr.alloc (.cells #[] 50))
    have hone : ∀ u ∈ flat tsC l, u.oneCell' = true := by
      intro u hu
      obtain ⟨a, _, ha⟩ := List.mem_flatMap.1 (show u ∈ l.flatMap tsC from hu)
      simp only [tsC, List.mem_cons, List.not_mem_nil, or_false] at ha
      rcases ha with rfl | rfl | rfl | rfl | rfl | rfl | rfl | rfl | rfl | rfl | rfl | rfl <;> rfl
    go_enter Try.func59, Try.ntmps59
    go_wp2_with (at_builtin; refine wpList_append_rd _ rfl _ _ _ rfl w.heap.size 50 ii _ 12 88 Try.underlying33 hii hi0 hi1 hi2 rfl (by omega) _ 0 [] rfl h0 _ (some ad) l.length cp (flat tsC l) rfl hlen h1 hone ?c1 ?c2 ?c3 ?_)
    case c1 => unfold maxLen; omega
    case c2 => omega
    intro v' w2 hown hg hat
    (try rw [Nat.zero_add] at hown); (try rw [List.nil_append] at hown)
    obtain ⟨A', cp', rfl⟩ := own_form hown
    have HO := Lib.hid hown
    have HB := Lib.hid (hb0.grown hg (by simp) (fun k hk => by injection hk with hk; rw [← hk]; exact Nat.le_refl _))
    clear hown hg hat h0 hb0 hq
    go_wp2
    go_ret
    exact ⟨A', cp', rfl, HO.out, HB.out⟩
set_option maxHeartbeats 2000000 in
set_option maxRecDepth 100000 in
theorem cloneCs_any (A : Option Addr) (cp : Nat) (l : List CS) (w : World) (hl : l.length ≤ 100) (hr : Rd w (· < w.heap.size) A (flat csC l)) :
    Calls Try.prog 60 #[.slice A l.length cp] w (RowPost 67 4 w l.length (flat csC l)) := by
  obtain ⟨ii, hii, hi0, hi1, hi2⟩ := info_parts csInfo
  have hlen := flat_length (enc := csC) (sz := 4) (fun _ => rfl) l
  cases A with
  | none =>
    have h0 : l = [] := by
      cases l with
      | nil => rfl
      | cons a r =>
        obtain ⟨b, o, hA, _⟩ := hr (by simp [flat, csC])
        cases hA
    subst h0
    go_enter Try.func60, Try.ntmps60
    have hq := csNil 0 cp w
    go_wp2
    go_ret
    exact ⟨none, 0, rfl, World.ownsRow_nil _ _ _ _, Below.refl _ _⟩
  | some ad =>
    have hq := csSome ad l.length cp w
    have h0 := World.ownsRow_lit (base := w.heap.size) (e := 67) (size := 4) w #[] 0 (Nat.le_refl _) (by unfold maxLen; omega) rfl
    have hb0 := (Below.refl w.heap.size w).alloc (Nat.le_refl _) (.cells #[] 67)
    have h1 := (hr.alloc (.cells #[] 67))
    have hone : ∀ u ∈ flat csC l, u.oneCell' = true := by
      intro u hu
      obtain ⟨a, _, ha⟩ := List.mem_flatMap.1 (show u ∈ l.flatMap csC from hu)
      simp only [csC, List.mem_cons, List.not_mem_nil, or_false] at ha
      rcases ha with rfl | rfl | rfl | rfl <;> rfl
    go_enter Try.func60, Try.ntmps60
    go_wp2_with (at_builtin; refine wpList_append_rd _ rfl _ _ _ rfl w.heap.size 67 ii _ 4 32 Try.underlying34 hii hi0 hi1 hi2 rfl (by omega) _ 0 [] rfl h0 _ (some ad) l.length cp (flat csC l) rfl hlen h1 hone ?c1 ?c2 ?c3 ?_)
    case c1 => unfold maxLen; omega
    case c2 => omega
    intro v' w2 hown hg hat
    (try rw [Nat.zero_add] at hown); (try rw [List.nil_append] at hown)
    obtain ⟨A', cp', rfl⟩ := own_form hown
    have HO := Lib.hid hown
    have HB := Lib.hid (hb0.grown hg (by simp) (fun k hk => by injection hk with hk; rw [← hk]; exact Nat.le_refl _))
    clear hown hg hat h0 hb0 hq
    go_wp2
    go_ret
    exact ⟨A', cp', rfl, HO.out, HB.out⟩
end Go.Proofs.Ytjobcfpnmfjlfaa

namespace Go.Proofs.Ytjobcfpnmfjlfaa
open Go.RowKit
set_option linter.unusedSimpArgs false
set_option linter.unusedVariables false

/-- A state whose lists lie in memory of the call's own. -/
structure StOwn (w : World) (base : Nat) (y : StA) (s : St) : Prop where
  tenants : w.ownsRow base 50 12 (.slice y.at_ s.tenants.length y.ct) s.tenants.length (flat tsC s.tenants)
  cells : w.ownsRow base 67 4 (.slice y.ac s.cells.length y.cc) s.cells.length (flat csC s.cells)
theorem StOwn.ok {w : World} {base : Nat} {y : StA} {s : St} (h : StOwn w base y s) : StOk w (· < w.heap.size) y s :=
  ⟨(Rd.of_own h.tenants).more fun b hb => hb.2, (Rd.of_own h.cells).more fun b hb => hb.2⟩
theorem own_setFar2 {w : World} {base : Nat} {e : TypeId} {size : Nat} {v : Value} {n : Nat} {xs : List Value} (h : w.ownsRow base e size v n xs) {p : Addr} (hp : p.block < base) (u : Value) : (w.setCell p u).ownsRow base e size v n xs := by
  refine ⟨h.1, h.2.imp id ?_⟩
  rintro ⟨g, cap, cur, rfl, hg, hb, rest⟩
  exact ⟨g, cap, cur, rfl, hg, (Below.heap_setCell w p u g (by omega)).trans hb, rest⟩
theorem own_grownNe {w w' : World} {base : Nat} {e : TypeId} {size : Nat} {v : Value} {n : Nat} {xs : List Value} (h : w.ownsRow base e size v n xs) {row : Option Nat} (hg : w.grownBy w' row) (hr : ∀ k, row = some k → v.ownBlock = some k → False) : w'.ownsRow base e size v n xs := by
  refine ⟨h.1, h.2.imp id ?_⟩
  rintro ⟨g, cap, cur, hv, hb, hh, rest⟩
  subst hv
  have hlt : g < w.heap.size := by
    refine Classical.byContradiction fun hn => ?_
    rw [Array.getElem?_eq_none (by omega)] at hh
    cases hh
  exact ⟨g, cap, cur, rfl, hb, (hg.block g hlt (fun q => hr g q.symm rfl)).trans hh, rest⟩
theorem own_blk {w : World} {base : Nat} {T : TypeId} {size : Nat} {A : Option Addr} {cp n : Nat} {xs : List Value} (h : w.ownsRow base T size (.slice A n cp) n xs) (hn : 0 < n) :
    ∃ g cur, A = some ⟨g, 0, none⟩ ∧ base ≤ g ∧ Blk w g T cur ∧ cur.toList.take (n * size) = xs ∧ cur.size = cp * size ∧ n ≤ cp ∧ cp ≤ maxLen := by
  rcases h.2 with ⟨h1, h2⟩ | ⟨g, cap, cur, hv, hb, hh, h1, h2, h3, h4⟩
  · omega
  · injection hv with hv1 hv2 hv3
    subst hv3
    exact ⟨g, cur, hv1, hb, hh, h4, h3, h1, h2⟩
/-- One element of an owned row is replaced. -/
theorem own_put {α : Type} {enc : α → List Value} {size : Nat} (hs : ∀ x, (enc x).length = size) (hpos : 0 < size) {w w' : World} {base : Nat} {T : TypeId} {g cp : Nat} {l : List α} {cur : Array Value} {k : Nat} {t : α} (hk : k < l.length) (hb : base ≤ g)
    (ht : cur.toList.take (l.length * size) = flat enc l) (hsz : cur.size = cp * size) (hn : l.length ≤ cp) (hm : cp ≤ maxLen) (h : InRow w g T cur (k * size) (enc t) w') :
    w'.ownsRow base T size (.slice (some ⟨g, 0, none⟩) l.length cp) l.length (flat enc (l.set k t)) := by
  refine ⟨by rw [flat_length hs, List.length_set], .inr ⟨g, cp, _, rfl, hb, h.blk, hn, hm, by rw [putL_size, hsz], ?_⟩⟩
  have hle : l.length * size ≤ cur.size := by rw [hsz]; exact Nat.mul_le_mul_right _ hn
  apply List.ext_getElem?
  intro j
  by_cases hj : j < l.length * size
  · rw [List.getElem?_take_of_lt hj]
    have hi : j / size < l.length := Nat.div_lt_of_lt_mul (by rw [Nat.mul_comm]; exact hj)
    have hr : j % size < size := Nat.mod_lt _ hpos
    have hj2 : j = j / size * size + j % size := by rw [Nat.mul_comm]; exact (Nat.div_add_mod j size).symm
    have e1 : (putL cur (k * size) (enc t)).toList[j]? = (putL cur (k * size) (enc t))[j]? := by simp
    rw [e1, putL_get, hs]
    by_cases hik : j / size = k
    · have hx : (l.set k t)[j / size]? = some t := by rw [hik]; simp [hk]
      have hv : (enc t)[j % size]? = some ((enc t)[j % size]'(by rw [hs]; exact hr)) := List.getElem?_eq_getElem _
      have := flat_get hs (l.set k t) (j / size) t hx (j % size) _ hv
      rw [← hj2] at this
      rw [this, if_pos ⟨by rw [← hik]; omega, by rw [← hik]; omega, by omega⟩, ← hv]
      congr 1
      rw [← hik]
      omega
    · have hx : (l.set k t)[j / size]? = some l[j / size] := by rw [List.getElem?_set_ne (fun h => hik h.symm), List.getElem?_eq_getElem hi]
      have hx2 : l[j / size]? = some l[j / size] := List.getElem?_eq_getElem hi
      have hv : (enc l[j / size])[j % size]? = some ((enc l[j / size])[j % size]'(by rw [hs]; exact hr)) := List.getElem?_eq_getElem _
      have a1 := flat_get hs (l.set k t) (j / size) _ hx (j % size) _ hv
      have a2 := flat_get hs l (j / size) _ hx2 (j % size) _ hv
      rw [← hj2] at a1 a2
      rw [a1]
      have hnot : ¬ (k * size ≤ j ∧ j < k * size + size ∧ j < cur.size) := by
        rintro ⟨q1, q2, _⟩
        apply hik
        have : j / size = k := by
          rw [Nat.div_eq_of_lt_le]
          · exact q1
          · rw [Nat.add_mul]; omega
        exact this
      rw [if_neg hnot, ← a2, ← ht, List.getElem?_take_of_lt hj]
      simp
  · rw [List.getElem?_eq_none (by rw [List.length_take]; exact Nat.le_trans (Nat.min_le_left _ _) (Nat.le_of_not_lt hj)), List.getElem?_eq_none (by rw [flat_length hs, List.length_set]; exact Nat.le_of_not_lt hj)]
theorem own_row {α : Type} {enc : α → List Value} {size : Nat} (hs : ∀ x, (enc x).length = size) {l : List α} {cur : Array Value} {k : Nat} {t : α} (hk : l[k]? = some t) (ht : cur.toList.take (l.length * size) = flat enc l) : RowAt cur (k * size) (enc t) := by
  intro j v hv
  have h1 := flat_get hs l k t hk j v hv
  rw [← ht] at h1
  have hlt : k * size + j < (cur.toList.take (l.length * size)).length := (List.getElem?_eq_some_iff.1 h1).1
  rw [List.length_take] at hlt
  rw [List.getElem?_take_of_lt (by omega)] at h1
  simpa using h1
/-- What effect hands back. -/
def EffPost (w : World) (s : St) (e : Ending) (w' : World) : Prop :=
  ∃ y : StA, e = .returned (.agg (stC y s)) ∧ StOwn w' w.heap.size y s ∧ Below w.heap.size w w'
/-- The state of affairs within effect. -/
structure EB (w : World) (base : Nat) (s : St) (y : StA) (E : Array Value) (wx : World) : Prop where
  box : Blk wx w.heap.size 36 (stC y s)
  ent : Blk wx (w.heap.size + 1) 45 E
  res : Blk wx (w.heap.size + 1 + 1) 36 #[.int .i64 0, .int .i64 0, .slice none 0 0, .slice none 0 0, .int .i64 0, .int .i64 0, .int .i64 0, .int .i64 0]
  own : StOwn wx base y s
  ne : ∀ k j, (Value.slice y.at_ s.tenants.length y.ct).ownBlock = some k → (Value.slice y.ac s.cells.length y.cc).ownBlock = some j → k ≠ j
  le : w.heap.size + 1 + 1 < base
  below : Below w.heap.size w wx
theorem EB.drew {w : World} {base : Nat} {s : St} {y : StA} {E : Array Value} {wx : World} (h : EB w base s y E wx) : EB w base s y E wx.drew :=
  ⟨h.box, h.ent, h.res, ⟨h.own.tenants, h.own.cells⟩, h.ne, h.le, h.below.drew⟩
/-- A number of the state is replaced. -/
theorem EB.put {w : World} {base : Nat} {s s' : St} {y : StA} {E : Array Value} {wx : World} (h : EB w base s y E wx) {j : Nat} {v : Value} (ht : s'.tenants = s.tenants) (hc : s'.cells = s.cells) (he : (stC y s).setIfInBounds j v = stC y s') : EB w base s' y E (wx.setCell ⟨w.heap.size, j, none⟩ v) := by
  have hle := h.le
  refine ⟨by rw [← he]; exact h.box.set_ j v, h.ent.far (by simp) _, h.res.far (by simp; omega) _, ⟨?_, ?_⟩, ?_, h.le, h.below.setCell (p := ⟨w.heap.size, j, none⟩) (Nat.le_refl _) v⟩
  · rw [ht]; exact own_setFar2 h.own.tenants (by simp; omega) _
  · rw [hc]; exact own_setFar2 h.own.cells (by simp; omega) _
  · rw [ht, hc]; exact h.ne
/-- A tenant is replaced. -/
theorem EB.ten {w : World} {base : Nat} {s : St} {y : StA} {E : Array Value} {wx wy : World} (h : EB w base s y E wx) {g : Nat} {cur : Array Value} {k : Nat} {t : TS} (hk : k < s.tenants.length) (hA : y.at_ = some ⟨g, 0, none⟩) (hg : base ≤ g)
    (ht : cur.toList.take (s.tenants.length * 12) = flat tsC s.tenants) (hsz : cur.size = y.ct * 12) (hn : s.tenants.length ≤ y.ct) (hm : y.ct ≤ maxLen) (hr : InRow wx g 50 cur (k * 12) (tsC t) wy) : EB w base { s with tenants := s.tenants.set k t } y E wy := by
  have hle := h.le
  obtain ⟨at_, ct, ac, cc⟩ := y
  simp only at hA
  subst hA
  have hl : (s.tenants.set k t).length = s.tenants.length := List.length_set
  refine ⟨?_, h.ent.grown hr.grown (by intro q; injection q; omega), h.res.grown hr.grown (by intro q; injection q; omega), ⟨?_, ?_⟩, ?_, h.le, h.below.grown hr.grown h.below.size (fun j hj => by injection hj with hj; omega)⟩
  · have := h.box.grown hr.grown (by intro q; injection q; omega)
    unfold stC at this ⊢
    simp only [hl]
    exact this
  · simp only [hl]
    exact own_put (enc := tsC) (size := 12) (fun _ => rfl) (by omega) hk hg ht hsz hn hm hr
  · exact own_grownNe h.own.cells hr.grown fun j hj q => h.ne g j rfl q (by injection hj)
  · simp only [hl]
    exact h.ne
theorem EB.cel {w : World} {base : Nat} {s : St} {y : StA} {E : Array Value} {wx wy : World} (h : EB w base s y E wx) {g : Nat} {cur : Array Value} {k : Nat} {t : CS} (hk : k < s.cells.length) (hA : y.ac = some ⟨g, 0, none⟩) (hg : base ≤ g)
    (ht : cur.toList.take (s.cells.length * 4) = flat csC s.cells) (hsz : cur.size = y.cc * 4) (hn : s.cells.length ≤ y.cc) (hm : y.cc ≤ maxLen) (hr : InRow wx g 67 cur (k * 4) (csC t) wy) : EB w base { s with cells := s.cells.set k t } y E wy := by
  have hle := h.le
  obtain ⟨at_, ct, ac, cc⟩ := y
  simp only at hA
  subst hA
  have hl : (s.cells.set k t).length = s.cells.length := List.length_set
  refine ⟨?_, h.ent.grown hr.grown (by intro q; injection q; omega), h.res.grown hr.grown (by intro q; injection q; omega), ⟨?_, ?_⟩, ?_, h.le, h.below.grown hr.grown h.below.size (fun j hj => by injection hj with hj; omega)⟩
  · have := h.box.grown hr.grown (by intro q; injection q; omega)
    unfold stC at this ⊢
    simp only [hl]
    exact this
  · exact own_grownNe h.own.tenants hr.grown fun j hj q => h.ne j g q rfl (by injection hj with hj; exact hj.symm)
  · simp only [hl]
    exact own_put (enc := csC) (size := 4) (fun _ => rfl) (by omega) hk hg ht hsz hn hm hr
  · simp only [hl]
    exact h.ne
end Go.Proofs.Ytjobcfpnmfjlfaa

namespace Go.Proofs.Ytjobcfpnmfjlfaa
open Go.RowKit
set_option linter.unusedSimpArgs false
set_option linter.unusedVariables false
theorem csSize8 : (Try.prog.info? 67).map (·.size) = some 4 := by kernel_rfl
theorem vrSize8 : (Try.prog.info? 65).map (·.size) = some 2 := by kernel_rfl

def WantRel (ll : List Int) (xn : Nat) (w1 : World) (gk : Nat) (so si : Value) (wr : World) : Prop :=
  ∃ k : Nat, gk + k = ll.length ∧ si = .int .i64 k ∧ so = .int .i64 ((ll.take k).countP (fun z => decide (z ≠ (xn : Int))) : Nat) ∧ wr = w1
theorem others_count (s : St) (k : Nat) : (unproven s).countP (fun z => decide (z ≠ (k : Int))) = others s k := by
  unfold unproven others
  rw [List.countP_map, ← List.countP_eq_length_filter, List.countP_filter]
  apply List.countP_congr
  intro i hi
  simp
theorem take_countP {α : Type} (l : List α) (p : α → Bool) {k : Nat} (hk : k < l.length) : (l.take (k + 1)).countP p = (l.take k).countP p + if p l[k] then 1 else 0 := by
  rw [List.take_succ_eq_append_getElem hk, List.countP_append]
  simp [List.countP_cons]
theorem flat_int8 (l : List Int) : flat intC l = l.map (Value.int .i64) := by
  induction l with
  | nil => rfl
  | cons a l ih => simp only [flat, List.flatMap_cons, intC] at ih ⊢; simp [ih]

set_option maxHeartbeats 16000000 in
set_option maxRecDepth 100000 in
theorem stWant_any (x : CfgA) (c : Cfg) (y : StA) (s : St) (e : Ent) (w : World) (hV : CfgV c) (hc : CfgOk w (· < w.heap.size) x c) (hI : StInv c s) (hs : StOk w (· < w.heap.size) y s) (hx0 : 0 ≤ e.cell) (hx1 : e.cell < s.cells.length) (hn : 0 ≤ e.n ∧ e.n < c.versions.length) :
    Calls Try.prog 53 #[.agg (cfgC x c), .agg (stC y s), .agg (entC e).toArray] w fun r w' => r = .returned (.int .i64 (wantE c s e)) ∧ Below w.heap.size w w' := by
  have hnc := hV.nc
  have hntt := hV.nt
  obtain ⟨az, cz, ac, cc, at_, ct, av, cv, ar, cr, ao, co⟩ := x
  have HV := Lib.hid hV
  have HKc := Lib.hid hc
  clear hV hc
  obtain ⟨sat, sct, sac, scc⟩ := y
  have HKs := Lib.hid hs
  have hsl : 1 ≤ s.cells.length ∧ s.cells.length ≤ 16 := by have := hI.lc; omega
  have hst : s.tenants.length ≤ 32 := by have := hI.lt; omega
  have HI := Lib.hid hI
  clear hs hI
  obtain ⟨kind, tick, tenant, cell, other, epoch, since, till, n⟩ := e
  try simp only at *
  obtain ⟨xn, rfl⟩ := Int.eq_ofNat_of_zero_le hx0
  have hxn : xn < s.cells.length := by omega
  obtain ⟨bx, ofx, x, rfl, hbx, hzx, hcx⟩ := HKs.out.cells.row (enc := csC) (sz := 4) (fun _ => rfl) (by omega) hxn
  have HX : Hid (csAt s xn = x) := Lib.hid (by unfold csAt; rw [Int.toNat_natCast, getD_some hzx])
  have HXI := Lib.hid (HI.out.cel _ (List.mem_of_getElem? hzx))
  have hbx1 : bx < w.heap.size := hbx
  have hpr := HI.out.proven
  have hbl := HV.out.blast
  have hvo := verOf_eq (c := c) hn
  have HVO := Lib.hid hvo
  clear hvo
  have HR : Hid (wantE c s ⟨kind, tick, tenant, xn, other, epoch, since, till, n⟩ = if x.wanted = n then 4 else if s.low < (verOf c n).1 ∨ (verOf c n).2 < s.high then 13 else if x.running = n ∨ hasB s.proven n = true then 0 else if s.evac ≠ 0 then 12 else if c.blast ≤ (others s xn : Nat) then 14 else 0) := Lib.hid (by unfold wantE; rw [HX.out, HVO.out])
  have hL : Below w.heap.size w (((w.alloc (.cells #[.int .i64 c.regions, .slice az c.zones.length cz, .slice ac c.cells.length cc, .slice at_ c.tenants.length ct, .slice av c.versions.length cv, .slice ar c.replicas.length cr, .slice ao c.observers.length co, .int .i64 c.blast, .int .i64 c.lease, .int .i64 c.bake] 30)).alloc (.cells #[.int .i64 s.tick, .int .i64 s.count, .slice sat s.tenants.length sct, .slice (some ⟨bx, ofx, none⟩) s.cells.length scc, .int .i64 s.proven, .int .i64 s.evac, .int .i64 s.low, .int .i64 s.high] 36)).alloc (.cells #[.int .i64 kind, .int .i64 tick, .int .i64 tenant, .int .i64 xn, .int .i64 other, .int .i64 epoch, .int .i64 since, .int .i64 till, .int .i64 n] 45)) := ((((Below.refl w.heap.size w).alloc (by simp <;> omega) (.cells #[.int .i64 c.regions, .slice az c.zones.length cz, .slice ac c.cells.length cc, .slice at_ c.tenants.length ct, .slice av c.versions.length cv, .slice ar c.replicas.length cr, .slice ao c.observers.length co, .int .i64 c.blast, .int .i64 c.lease, .int .i64 c.bake] 30)).alloc (by simp <;> omega) (.cells #[.int .i64 s.tick, .int .i64 s.count, .slice sat s.tenants.length sct, .slice (some ⟨bx, ofx, none⟩) s.cells.length scc, .int .i64 s.proven, .int .i64 s.evac, .int .i64 s.low, .int .i64 s.high] 36)).alloc (by simp <;> omega) (.cells #[.int .i64 kind, .int .i64 tick, .int .i64 tenant, .int .i64 xn, .int .i64 other, .int .i64 epoch, .int .i64 since, .int .i64 till, .int .i64 n] 45))
  have hBc : Blk (((w.alloc (.cells #[.int .i64 c.regions, .slice az c.zones.length cz, .slice ac c.cells.length cc, .slice at_ c.tenants.length ct, .slice av c.versions.length cv, .slice ar c.replicas.length cr, .slice ao c.observers.length co, .int .i64 c.blast, .int .i64 c.lease, .int .i64 c.bake] 30)).alloc (.cells #[.int .i64 s.tick, .int .i64 s.count, .slice sat s.tenants.length sct, .slice (some ⟨bx, ofx, none⟩) s.cells.length scc, .int .i64 s.proven, .int .i64 s.evac, .int .i64 s.low, .int .i64 s.high] 36)).alloc (.cells #[.int .i64 kind, .int .i64 tick, .int .i64 tenant, .int .i64 xn, .int .i64 other, .int .i64 epoch, .int .i64 since, .int .i64 till, .int .i64 n] 45)) (w.heap.size) 30 #[.int .i64 c.regions, .slice az c.zones.length cz, .slice ac c.cells.length cc, .slice at_ c.tenants.length ct, .slice av c.versions.length cv, .slice ar c.replicas.length cr, .slice ao c.observers.length co, .int .i64 c.blast, .int .i64 c.lease, .int .i64 c.bake] := by
    have := (((Blk.new w 30 #[.int .i64 c.regions, .slice az c.zones.length cz, .slice ac c.cells.length cc, .slice at_ c.tenants.length ct, .slice av c.versions.length cv, .slice ar c.replicas.length cr, .slice ao c.observers.length co, .int .i64 c.blast, .int .i64 c.lease, .int .i64 c.bake]).alloc (.cells #[.int .i64 s.tick, .int .i64 s.count, .slice sat s.tenants.length sct, .slice (some ⟨bx, ofx, none⟩) s.cells.length scc, .int .i64 s.proven, .int .i64 s.evac, .int .i64 s.low, .int .i64 s.high] 36)).alloc (.cells #[.int .i64 kind, .int .i64 tick, .int .i64 tenant, .int .i64 xn, .int .i64 other, .int .i64 epoch, .int .i64 since, .int .i64 till, .int .i64 n] 45))
    simpa using this
  have hBs : Blk (((w.alloc (.cells #[.int .i64 c.regions, .slice az c.zones.length cz, .slice ac c.cells.length cc, .slice at_ c.tenants.length ct, .slice av c.versions.length cv, .slice ar c.replicas.length cr, .slice ao c.observers.length co, .int .i64 c.blast, .int .i64 c.lease, .int .i64 c.bake] 30)).alloc (.cells #[.int .i64 s.tick, .int .i64 s.count, .slice sat s.tenants.length sct, .slice (some ⟨bx, ofx, none⟩) s.cells.length scc, .int .i64 s.proven, .int .i64 s.evac, .int .i64 s.low, .int .i64 s.high] 36)).alloc (.cells #[.int .i64 kind, .int .i64 tick, .int .i64 tenant, .int .i64 xn, .int .i64 other, .int .i64 epoch, .int .i64 since, .int .i64 till, .int .i64 n] 45)) (w.heap.size + 1) 36 #[.int .i64 s.tick, .int .i64 s.count, .slice sat s.tenants.length sct, .slice (some ⟨bx, ofx, none⟩) s.cells.length scc, .int .i64 s.proven, .int .i64 s.evac, .int .i64 s.low, .int .i64 s.high] := by
    have := ((Blk.new (w.alloc (.cells #[.int .i64 c.regions, .slice az c.zones.length cz, .slice ac c.cells.length cc, .slice at_ c.tenants.length ct, .slice av c.versions.length cv, .slice ar c.replicas.length cr, .slice ao c.observers.length co, .int .i64 c.blast, .int .i64 c.lease, .int .i64 c.bake] 30)) 36 #[.int .i64 s.tick, .int .i64 s.count, .slice sat s.tenants.length sct, .slice (some ⟨bx, ofx, none⟩) s.cells.length scc, .int .i64 s.proven, .int .i64 s.evac, .int .i64 s.low, .int .i64 s.high]).alloc (.cells #[.int .i64 kind, .int .i64 tick, .int .i64 tenant, .int .i64 xn, .int .i64 other, .int .i64 epoch, .int .i64 since, .int .i64 till, .int .i64 n] 45))
    simpa using this
  have hBe : Blk (((w.alloc (.cells #[.int .i64 c.regions, .slice az c.zones.length cz, .slice ac c.cells.length cc, .slice at_ c.tenants.length ct, .slice av c.versions.length cv, .slice ar c.replicas.length cr, .slice ao c.observers.length co, .int .i64 c.blast, .int .i64 c.lease, .int .i64 c.bake] 30)).alloc (.cells #[.int .i64 s.tick, .int .i64 s.count, .slice sat s.tenants.length sct, .slice (some ⟨bx, ofx, none⟩) s.cells.length scc, .int .i64 s.proven, .int .i64 s.evac, .int .i64 s.low, .int .i64 s.high] 36)).alloc (.cells #[.int .i64 kind, .int .i64 tick, .int .i64 tenant, .int .i64 xn, .int .i64 other, .int .i64 epoch, .int .i64 since, .int .i64 till, .int .i64 n] 45)) (w.heap.size + 1 + 1) 45 #[.int .i64 kind, .int .i64 tick, .int .i64 tenant, .int .i64 xn, .int .i64 other, .int .i64 epoch, .int .i64 since, .int .i64 till, .int .i64 n] := by
    have := (Blk.new ((w.alloc (.cells #[.int .i64 c.regions, .slice az c.zones.length cz, .slice ac c.cells.length cc, .slice at_ c.tenants.length ct, .slice av c.versions.length cv, .slice ar c.replicas.length cr, .slice ao c.observers.length co, .int .i64 c.blast, .int .i64 c.lease, .int .i64 c.bake] 30)).alloc (.cells #[.int .i64 s.tick, .int .i64 s.count, .slice sat s.tenants.length sct, .slice (some ⟨bx, ofx, none⟩) s.cells.length scc, .int .i64 s.proven, .int .i64 s.evac, .int .i64 s.low, .int .i64 s.high] 36)) 45 #[.int .i64 kind, .int .i64 tick, .int .i64 tenant, .int .i64 xn, .int .i64 other, .int .i64 epoch, .int .i64 since, .int .i64 till, .int .i64 n])
    simpa using this
  unfold cfgC stC entC
  simp only
  go_enter Try.func53, Try.ntmps53
  go_upto_region 1 with fail
  generalize ((w.alloc _).alloc _).alloc _ = W at *
  have hgc := hBc.lt
  have d0 := hBc.cell' (i := 0) (v := .int .i64 c.regions) rfl
  have d1 := hBc.cell' (i := 1) (v := .slice az c.zones.length cz) rfl
  have d2 := hBc.cell' (i := 2) (v := .slice ac c.cells.length cc) rfl
  have d3 := hBc.cell' (i := 3) (v := .slice at_ c.tenants.length ct) rfl
  have d4 := hBc.cell' (i := 4) (v := .slice av c.versions.length cv) rfl
  have d5 := hBc.cell' (i := 5) (v := .slice ar c.replicas.length cr) rfl
  have d6 := hBc.cell' (i := 6) (v := .slice ao c.observers.length co) rfl
  have d7 := hBc.cell' (i := 7) (v := .int .i64 c.blast) rfl
  have d8 := hBc.cell' (i := 8) (v := .int .i64 c.lease) rfl
  have d9 := hBc.cell' (i := 9) (v := .int .i64 c.bake) rfl
  clear hBc
  have hgs := hBs.lt
  have su0 := hBs.cell' (i := 0) (v := .int .i64 s.tick) rfl
  have su1 := hBs.cell' (i := 1) (v := .int .i64 s.count) rfl
  have su2 := hBs.cell' (i := 2) (v := .slice sat s.tenants.length sct) rfl
  have su3 := hBs.cell' (i := 3) (v := .slice (some ⟨bx, ofx, none⟩) s.cells.length scc) rfl
  have su4 := hBs.cell' (i := 4) (v := .int .i64 s.proven) rfl
  have su5 := hBs.cell' (i := 5) (v := .int .i64 s.evac) rfl
  have su6 := hBs.cell' (i := 6) (v := .int .i64 s.low) rfl
  have su7 := hBs.cell' (i := 7) (v := .int .i64 s.high) rfl
  clear hBs
  have hge := hBe.lt
  have v0 := hBe.cell' (i := 0) (v := .int .i64 kind) rfl
  have v1 := hBe.cell' (i := 1) (v := .int .i64 tick) rfl
  have v2 := hBe.cell' (i := 2) (v := .int .i64 tenant) rfl
  have v3 := hBe.cell' (i := 3) (v := .int .i64 xn) rfl
  have v4 := hBe.cell' (i := 4) (v := .int .i64 other) rfl
  have v5 := hBe.cell' (i := 5) (v := .int .i64 epoch) rfl
  have v6 := hBe.cell' (i := 6) (v := .int .i64 since) rfl
  have v7 := hBe.cell' (i := 7) (v := .int .i64 till) rfl
  have v8 := hBe.cell' (i := 8) (v := .int .i64 n) rfl
  clear hBe
  have HL := Lib.hid hL
  have HWc := Lib.hid (HKc.out.belowW hL)
  have HWs := Lib.hid (HKs.out.belowW hL)
  clear hL
  have x0 : W.cell? ⟨bx, ofx + xn * 4, none⟩ = some (.int .i64 x.mode) := (HL.out.cell (p := ⟨bx, ofx + xn * 4, none⟩) hbx1).trans (hcx 0 _ rfl)
  have x1 : W.cell? ⟨bx, ofx + xn * 4 + 1, none⟩ = some (.int .i64 x.running) := (HL.out.cell (p := ⟨bx, ofx + xn * 4 + 1, none⟩) hbx1).trans (hcx 1 _ rfl)
  have x2 : W.cell? ⟨bx, ofx + xn * 4 + 2, none⟩ = some (.int .i64 x.wanted) := (HL.out.cell (p := ⟨bx, ofx + xn * 4 + 2, none⟩) hbx1).trans (hcx 2 _ rfl)
  have x3 : W.cell? ⟨bx, ofx + xn * 4 + 3, none⟩ = some (.int .i64 x.since) := (HL.out.cell (p := ⟨bx, ofx + xn * 4 + 3, none⟩) hbx1).trans (hcx 3 _ rfl)
  have hbxW : bx < W.heap.size := Nat.lt_of_lt_of_le hbx1 HL.out.size
  clear hcx hzx hbx hbx1
  have HVR := Lib.hid (fun yy hyy => stVersionOf_any ⟨az, cz, ac, cc, at_, ct, av, cv, ar, cr, ao, co⟩ c n yy HV.out (HWc.out.belowW hyy))
  go_cut [7, 8] (fun v7 v8 wx => ∃ ga gb, v7 = .pointer (some ⟨ga, 0, none⟩) ∧ v8 = .pointer (some ⟨gb, 0, none⟩) ∧ TwoC W 67 65 #[.int .i64 x.mode, .int .i64 x.running, .int .i64 x.wanted, .int .i64 x.since] #[.int .i64 (verOf c n).1, .int .i64 (verOf c n).2] ga gb wx)
  case first =>
    refine wp_region_seqI (fun w' : World => Below W.heap.size W w') 13 [0, 1, 2, 3, 4, 5, 6, 7, 8] [9, 10, 11, 12] (fun i => if i = 12 then [10, 11] else []) (by kernel_rfl) (by kernel_rfl) (Below.refl _ _).drew ?_
    simp only [List.take_succ_cons, List.take_zero, List.drop_succ_cons, List.drop_zero]
    repeat (refine wpSeqI_fix _ ?_ rfl (by first | exact fun _ _ _ h => h | exact fun _ _ _ h => hpan _ _ _ _ _ h) (Or.inl ⟨by rfl, ?_⟩) ?_; rotate_left; (intro w' hSw; (try dsimp only at hSw); obtain ⟨hc, hf⟩ := bcell hSw; clear hf hSw; go_simp; (try with_reducible rfl)); (simp only [List.getElem_toArray, List.getElem_cons_zero, List.getElem_cons_succ, Act.put, List.setIfInBounds_toArray, List.set_cons_zero, List.set_cons_succ]))
    refine wpSeqI_acts (fun a0 d a wx => ∃ va vb vc ga gb, a = (((a0.put (some 7) va).put (some 8) vb).put (some 21) vc) ∧ TwoJ W 67 65 #[.int .i64 0, .int .i64 0, .int .i64 0, .int .i64 0] #[.int .i64 x.mode, .int .i64 x.running, .int .i64 x.wanted, .int .i64 x.since] #[.int .i64 0, .int .i64 0] 10 11 12 d va vb ga gb wx ∧ (d 9 = true → vc = .agg #[.int .i64 (verOf c n).1, .int .i64 (verOf c n).2])) ?j1 ?j2 ?j3
    case j1 =>
      intro d hd
      refine ⟨_, _, _, 0, 0, rfl, TwoJ.start (Below.refl _ _).drew (hd 10 (by simp)) (hd 11 (by simp)) (hd 12 (by simp)), fun q => (by rw [hd 9 (by simp)] at q; cases q)⟩
    case j2 =>
      refine acts_cons (actStep_op rfl rfl ?s9) (acts_cons (actStep_op rfl rfl ?s10) (acts_cons (actStep_op rfl rfl ?s11) (acts_cons (actStep_op rfl rfl ?s12) acts_nil)))
      case s9 =>
        rintro d a wx h0 hp hS ⟨va, vb, vc, ga, gb, rfl, hJ, hcv⟩
        have HJ := Lib.hid hJ
        clear hJ hS hp h0 hcv
        simp only [List.getElem_toArray, List.getElem_cons_zero, List.getElem_cons_succ, Act.put, List.setIfInBounds_toArray, List.set_cons_zero, List.set_cons_succ]
        go_simp
        refine (HVR.out wx HJ.out.below).mono ?_
        rintro r wy ⟨rfl, hbq⟩
        exact ⟨(HJ.out.later hbq).below, _, _, _, ⟨rfl, rfl, rfl⟩, ⟨ga, gb, (HJ.out.later hbq).other (by decide) (by decide) (by decide)⟩, fun _ => rfl⟩
      case s10 =>
        rintro d a wx h0 hp hS ⟨va, vb, vc, ga, gb, rfl, hJ, hcv⟩
        have HJ := Lib.hid (hJ.allocA h0 (by decide) (by decide))
        clear hJ hS hp h0
        simp only [List.getElem_toArray, List.getElem_cons_zero, List.getElem_cons_succ, Act.put, List.setIfInBounds_toArray, List.set_cons_zero, List.set_cons_succ]
        go_simp
        exact ⟨HJ.out.below, _, _, _, ⟨rfl, rfl, rfl⟩, ⟨_, gb, HJ.out⟩, hcv⟩
      case s11 =>
        rintro d a wx h0 hp hS ⟨va, vb, vc, ga, gb, rfl, hJ, hcv⟩
        have HJ := Lib.hid (hJ.allocB (by decide) (by decide))
        clear hJ hS hp h0
        simp only [List.getElem_toArray, List.getElem_cons_zero, List.getElem_cons_succ, Act.put, List.setIfInBounds_toArray, List.set_cons_zero, List.set_cons_succ]
        go_simp
        exact ⟨HJ.out.below, _, _, _, ⟨rfl, rfl, rfl⟩, ⟨ga, _, HJ.out⟩, hcv⟩
      case s12 =>
        rintro d a wx h0 hp hS ⟨va, vb, vc, ga, gb, rfl, hJ, hcv⟩
        have HJ := Lib.hid (hJ.storeA (hp 10 (by simp)) (hp 11 (by simp)) (by decide) (by decide) (putL_full rfl) (putL_full rfl))
        obtain ⟨rfl, hk, hle⟩ := hJ.a (hp 10 (by simp))
        clear hJ hS hp h0
        simp only [List.getElem_toArray, List.getElem_cons_zero, List.getElem_cons_succ, Act.put, List.setIfInBounds_toArray, List.set_cons_zero, List.set_cons_succ]
        refine wp_store_mid _ _ _ (by rfl) ga 0 #[.int .i64 x.mode, .int .i64 x.running, .int .i64 x.wanted, .int .i64 x.since] (by go_simp) (by go_simp) (hk.there 0 4 (by split <;> simp)) csSize8 (by simp [Value.oneCell']) ?_
        refine ⟨HJ.out.below, ?_⟩
        go_simp
        exact ⟨_, _, _, ⟨rfl, rfl, rfl⟩, ⟨ga, gb, HJ.out⟩, hcv⟩
    case j3 =>
      rintro d a wx hp hS ⟨va, vb, vc, ga, gb, rfl, hJ, hcv⟩
      obtain ⟨rfl, hka, hla⟩ := hJ.a (hp 10 (by simp))
      obtain ⟨rfl, hkb, hlb⟩ := hJ.b (hp 11 (by simp))
      obtain rfl := hcv (hp 9 (by simp))
      have HJ := Lib.hid (hJ.done1 (FB := #[.int .i64 (verOf c n).1, .int .i64 (verOf c n).2]) (hp 10 (by simp)) (hp 11 (by simp)) (hp 12 (by simp)) (putL_full rfl))
      clear hJ hS hp
      simp only [List.getElem_toArray, List.getElem_cons_zero, List.getElem_cons_succ, Act.put, List.setIfInBounds_toArray, List.set_cons_zero, List.set_cons_succ, thenK]
      refine wpList_store_mid (by rfl) _ _ _ (by rfl) gb 0 #[.int .i64 (verOf c n).1, .int .i64 (verOf c n).2] (by go_simp) (by go_simp) (hkb.there 0 2 (by simp)) vrSize8 (by simp [Value.oneCell']) ?_
      go_wp2
      go_meet
      exact ⟨ga, gb, rfl, rfl, HJ.out⟩
  case rest =>
    obtain ⟨ga, gb, rfl, rfl, hC⟩ := hcut
    have hL2 := hC.below
    clear x0 x1 x2 x3 hbxW
    obtain ⟨W2, rfl⟩ : ∃ W2, W2 = wc := ⟨_, rfl⟩
    replace d0 : W2.cell? ⟨w.heap.size, 0, none⟩ = some (.int .i64 c.regions) := (hL2.cell (p := ⟨w.heap.size, 0, none⟩) hgc).trans d0
    replace d1 : W2.cell? ⟨w.heap.size, 1, none⟩ = some (.slice az c.zones.length cz) := (hL2.cell (p := ⟨w.heap.size, 1, none⟩) hgc).trans d1
    replace d2 : W2.cell? ⟨w.heap.size, 2, none⟩ = some (.slice ac c.cells.length cc) := (hL2.cell (p := ⟨w.heap.size, 2, none⟩) hgc).trans d2
    replace d3 : W2.cell? ⟨w.heap.size, 3, none⟩ = some (.slice at_ c.tenants.length ct) := (hL2.cell (p := ⟨w.heap.size, 3, none⟩) hgc).trans d3
    replace d4 : W2.cell? ⟨w.heap.size, 4, none⟩ = some (.slice av c.versions.length cv) := (hL2.cell (p := ⟨w.heap.size, 4, none⟩) hgc).trans d4
    replace d5 : W2.cell? ⟨w.heap.size, 5, none⟩ = some (.slice ar c.replicas.length cr) := (hL2.cell (p := ⟨w.heap.size, 5, none⟩) hgc).trans d5
    replace d6 : W2.cell? ⟨w.heap.size, 6, none⟩ = some (.slice ao c.observers.length co) := (hL2.cell (p := ⟨w.heap.size, 6, none⟩) hgc).trans d6
    replace d7 : W2.cell? ⟨w.heap.size, 7, none⟩ = some (.int .i64 c.blast) := (hL2.cell (p := ⟨w.heap.size, 7, none⟩) hgc).trans d7
    replace d8 : W2.cell? ⟨w.heap.size, 8, none⟩ = some (.int .i64 c.lease) := (hL2.cell (p := ⟨w.heap.size, 8, none⟩) hgc).trans d8
    replace d9 : W2.cell? ⟨w.heap.size, 9, none⟩ = some (.int .i64 c.bake) := (hL2.cell (p := ⟨w.heap.size, 9, none⟩) hgc).trans d9
    replace hgc : w.heap.size < W2.heap.size := Nat.lt_of_lt_of_le hgc hL2.size
    replace su0 : W2.cell? ⟨w.heap.size + 1, 0, none⟩ = some (.int .i64 s.tick) := (hL2.cell (p := ⟨w.heap.size + 1, 0, none⟩) hgs).trans su0
    replace su1 : W2.cell? ⟨w.heap.size + 1, 1, none⟩ = some (.int .i64 s.count) := (hL2.cell (p := ⟨w.heap.size + 1, 1, none⟩) hgs).trans su1
    replace su2 : W2.cell? ⟨w.heap.size + 1, 2, none⟩ = some (.slice sat s.tenants.length sct) := (hL2.cell (p := ⟨w.heap.size + 1, 2, none⟩) hgs).trans su2
    replace su3 : W2.cell? ⟨w.heap.size + 1, 3, none⟩ = some (.slice (some ⟨bx, ofx, none⟩) s.cells.length scc) := (hL2.cell (p := ⟨w.heap.size + 1, 3, none⟩) hgs).trans su3
    replace su4 : W2.cell? ⟨w.heap.size + 1, 4, none⟩ = some (.int .i64 s.proven) := (hL2.cell (p := ⟨w.heap.size + 1, 4, none⟩) hgs).trans su4
    replace su5 : W2.cell? ⟨w.heap.size + 1, 5, none⟩ = some (.int .i64 s.evac) := (hL2.cell (p := ⟨w.heap.size + 1, 5, none⟩) hgs).trans su5
    replace su6 : W2.cell? ⟨w.heap.size + 1, 6, none⟩ = some (.int .i64 s.low) := (hL2.cell (p := ⟨w.heap.size + 1, 6, none⟩) hgs).trans su6
    replace su7 : W2.cell? ⟨w.heap.size + 1, 7, none⟩ = some (.int .i64 s.high) := (hL2.cell (p := ⟨w.heap.size + 1, 7, none⟩) hgs).trans su7
    replace hgs : w.heap.size + 1 < W2.heap.size := Nat.lt_of_lt_of_le hgs hL2.size
    replace v0 : W2.cell? ⟨w.heap.size + 1 + 1, 0, none⟩ = some (.int .i64 kind) := (hL2.cell (p := ⟨w.heap.size + 1 + 1, 0, none⟩) hge).trans v0
    replace v1 : W2.cell? ⟨w.heap.size + 1 + 1, 1, none⟩ = some (.int .i64 tick) := (hL2.cell (p := ⟨w.heap.size + 1 + 1, 1, none⟩) hge).trans v1
    replace v2 : W2.cell? ⟨w.heap.size + 1 + 1, 2, none⟩ = some (.int .i64 tenant) := (hL2.cell (p := ⟨w.heap.size + 1 + 1, 2, none⟩) hge).trans v2
    replace v3 : W2.cell? ⟨w.heap.size + 1 + 1, 3, none⟩ = some (.int .i64 xn) := (hL2.cell (p := ⟨w.heap.size + 1 + 1, 3, none⟩) hge).trans v3
    replace v4 : W2.cell? ⟨w.heap.size + 1 + 1, 4, none⟩ = some (.int .i64 other) := (hL2.cell (p := ⟨w.heap.size + 1 + 1, 4, none⟩) hge).trans v4
    replace v5 : W2.cell? ⟨w.heap.size + 1 + 1, 5, none⟩ = some (.int .i64 epoch) := (hL2.cell (p := ⟨w.heap.size + 1 + 1, 5, none⟩) hge).trans v5
    replace v6 : W2.cell? ⟨w.heap.size + 1 + 1, 6, none⟩ = some (.int .i64 since) := (hL2.cell (p := ⟨w.heap.size + 1 + 1, 6, none⟩) hge).trans v6
    replace v7 : W2.cell? ⟨w.heap.size + 1 + 1, 7, none⟩ = some (.int .i64 till) := (hL2.cell (p := ⟨w.heap.size + 1 + 1, 7, none⟩) hge).trans v7
    replace v8 : W2.cell? ⟨w.heap.size + 1 + 1, 8, none⟩ = some (.int .i64 n) := (hL2.cell (p := ⟨w.heap.size + 1 + 1, 8, none⟩) hge).trans v8
    replace hge : w.heap.size + 1 + 1 < W2.heap.size := Nat.lt_of_lt_of_le hge hL2.size
    replace HWc := Lib.hid (HWc.out.belowW hL2)
    replace HWs := Lib.hid (HWs.out.belowW hL2)
    have p0 := hC.a.cell' (i := 0) (v := .int .i64 x.mode) rfl
    have p1 := hC.a.cell' (i := 1) (v := .int .i64 x.running) rfl
    have p2 := hC.a.cell' (i := 2) (v := .int .i64 x.wanted) rfl
    have p3 := hC.a.cell' (i := 3) (v := .int .i64 x.since) rfl
    have q0 := hC.b.cell' (i := 0) (v := .int .i64 (verOf c n).1) rfl
    have q1 := hC.b.cell' (i := 1) (v := .int .i64 (verOf c n).2) rfl
    replace HL := Lib.hid (HL.out.trans (hL2.mono HL.out.size))
    clear hL2 hC HVR
    generalize verOf c n = vv at *
    by_cases a1 : x.wanted = n
    · have b1 : (x.wanted == n) = true := beq_iff_eq.2 a1
      go_wp2
      go_ret
      refine ⟨ret_i64 ?_, HL.out⟩
      rw [HR.out, if_pos a1]
    have b1 : (x.wanted == n) = false := beq_eq_false_iff_ne.2 a1
    by_cases a2 : s.low < vv.1
    · go_wp2
      go_ret
      refine ⟨ret_i64 ?_, HL.out⟩
      rw [HR.out, if_neg a1, if_pos (.inl a2)]
    by_cases a3 : vv.2 < s.high
    · go_wp2
      go_ret
      refine ⟨ret_i64 ?_, HL.out⟩
      rw [HR.out, if_neg a1, if_pos (.inr a3)]
    have a23 : ¬ (s.low < vv.1 ∨ vv.2 < s.high) := by omega
    by_cases a4 : x.running = n
    · have b4 : (x.running == n) = true := beq_iff_eq.2 a4
      go_wp2
      go_ret
      refine ⟨ret_i64 ?_, HL.out⟩
      rw [HR.out, if_neg a1, if_neg a23, if_pos (.inl a4)]
    have b4 : (x.running == n) = false := beq_eq_false_iff_ne.2 a4
    by_cases hhb : hasB s.proven n = true
    · go_wp2_with (go_at_call 75; (with_reducible refine (stHas_any _ _ _ (by omega) (by omega)).mono ?_); rintro r wq ⟨rfl, rfl⟩; rw [hhb])
      go_ret
      refine ⟨ret_i64 ?_, HL.out⟩
      rw [HR.out, if_neg a1, if_neg a23, if_pos (.inr hhb)]
    replace hhb : hasB s.proven n = false := by simpa using hhb
    have a45 : ¬ (x.running = n ∨ hasB s.proven n = true) := by simp [a4, hhb]
    by_cases a5 : s.evac ≠ 0
    · have b5 : (s.evac != 0) = true := by simpa using a5
      go_wp2_with (go_at_call 75; (with_reducible refine (stHas_any _ _ _ (by omega) (by omega)).mono ?_); rintro r wq ⟨rfl, rfl⟩; rw [hhb])
      go_ret
      refine ⟨ret_i64 ?_, HL.out⟩
      rw [HR.out, if_neg a1, if_neg a23, if_neg a45, if_pos a5]
    have b5 : (s.evac != 0) = false := by simpa using a5
    have HRR : Hid (wantE c s ⟨kind, tick, tenant, xn, other, epoch, since, till, n⟩ = if c.blast ≤ (others s xn : Nat) then 14 else 0) := Lib.hid (by rw [HR.out, if_neg a1, if_neg a23, if_neg a45, if_neg a5])
    have HUN := Lib.hid (stUnproven_any c ⟨sat, sct, some ⟨bx, ofx, none⟩, scc⟩ s W2 HV.out HI.out HWs.out)
    clear HR a23 a45
    go_wp2_with (go_at_call 75; (with_reducible refine (stHas_any _ _ _ (by omega) (by omega)).mono ?_); rintro r wq ⟨rfl, rfl⟩; rw [hhb])
    refine HUN.out.mono ?_
    rintro r w1 ⟨A1, cp1, rfl, hO1, hb1⟩
    have HO1 := Lib.hid hO1
    have HL1 := Lib.hid (HL.out.trans (hb1.mono HL.out.size))
    have hull : (unproven s).length ≤ s.cells.length := by rw [unproven_pick]; exact pickK_len _ _
    have HOT := Lib.hid (others_count s xn)
    replace d7 : w1.cell? ⟨w.heap.size, 7, none⟩ = some (.int .i64 c.blast) := (hb1.cell (p := ⟨w.heap.size, 7, none⟩) hgc).trans d7
    replace v3 : w1.cell? ⟨w.heap.size + 1 + 1, 3, none⟩ = some (.int .i64 xn) := (hb1.cell (p := ⟨w.heap.size + 1 + 1, 3, none⟩) hge).trans v3
    clear hO1 hb1 HUN HL
    generalize hll : unproven s = ll at *
    clear hll
    go_wp2
    go_loopg [9, 57] ll.length (fun gk so si wr => WantRel ll xn w1 gk so si wr)
    case atStart => exact ⟨0, by omega, rfl, rfl, rfl⟩
    case round =>
      rename_i J K aJ aK
      obtain ⟨k, hgk, rfl, rfl, rfl⟩ := hrel
      have hcl : (ll.take k).countP (fun z => decide (z ≠ (xn : Int))) ≤ k := Nat.le_trans List.countP_le_length (by simp; omega)
      by_cases hk : k < ll.length
      · have hlt : (k : Int) < (ll.length : Int) := by omega
        obtain ⟨g1, cap1, hv1, _, hlt1⟩ := HO1.out.form (by omega)
        simp only [Value.slice.injEq, true_and] at hv1
        obtain ⟨rfl, rfl⟩ := hv1
        have c0 := HO1.out.cellAt k (by omega)
        rw [flat_int8, List.getElem?_map, List.getElem?_eq_getElem hk] at c0
        simp only [Option.map_some] at c0
        have HTK := Lib.hid (take_countP ll (fun z => decide (z ≠ (xn : Int))) hk)
        generalize ll[k] = m at *
        generalize (ll.take k).countP (fun z => decide (z ≠ (xn : Int))) = cnt at *
        by_cases hm : m = (xn : Int)
        · have hmb : (m != (xn : Int)) = false := by simp [hm]
          go_wp2
          go_roundg (gk - 1)
          case measure => omega
          case rel => exact ⟨k + 1, by omega, by go_num, by rw [HTK.out]; simp [hm], rfl⟩
        · have hmb : (m != (xn : Int)) = true := by simp [hm]
          go_wp2
          go_roundg (gk - 1)
          case measure => omega
          case rel => exact ⟨k + 1, by omega, by go_num, by rw [HTK.out]; simp [hm], rfl⟩
      · have hge : ¬ (k : Int) < (ll.length : Int) := by omega
        have htk : ll.take k = ll := List.take_of_length_le (by omega)
        rw [htk]
        rw [htk] at hcl
        rw [HOT.out] at hcl ⊢
        by_cases hfin : c.blast ≤ (others s xn : Nat)
        · go_wp2
          go_ret
          exact ⟨ret_i64 (by rw [HRR.out, if_pos hfin]), HL1.out⟩
        · go_wp2
          go_ret
          exact ⟨ret_i64 (by rw [HRR.out, if_neg (by omega)]), HL1.out⟩
end Go.Proofs.Ytjobcfpnmfjlfaa

namespace Go.Proofs.Ytjobcfpnmfjlfaa
open Go.RowKit
set_option linter.unusedSimpArgs false
set_option linter.unusedVariables false

theorem BlkOk.fresh {C : Ctx} {ρ : Nat → Pl} {nx i : Nat} {w : World} {t : TypeId} {sz n : Nat} {el : Nat → List Value} {α : Type} {enc : α → List Value} {l : List α} (d : α) (h : BlkOk C ρ nx i w (.row t sz n el)) (ho : frT t = true) (hl : l.length = n) (he : ∀ k, k < n → el k = enc (l.getD k d)) (hs : ∀ x, (enc x).length = sz) (hpos : 0 < sz) :
    Rd w (fun b => C.w0.heap.size ≤ b ∧ b < w.heap.size) (ρ i).A (flat enc l) := by
  subst hl
  obtain ⟨h1, h2, h3⟩ := h
  have hb : BlkOk C ρ nx i w (.row t sz l.length (fun k => enc (l.getD k d))) := by
    refine ⟨h1, fun k hk => by have := h2 k hk; rw [he k hk] at this; exact this, h3.imp id ?_⟩
    rintro ⟨b, off, hA, hat, hc⟩
    exact ⟨b, off, hA, hat, fun k hk j v hv => hc k hk j v (by rw [he k hk]; exact hv)⟩
  refine rd_of_row hs hpos hb fun hne b off hA hlt => ?_
  rcases h3 with h0 | ⟨b2, off2, hA2, hat, -⟩
  · exact absurd h0 hne
  · rw [hA] at hA2
    cases hA2
    exact ⟨hat.new ho, hlt⟩
def cpl (x : CfgA) (c : Cfg) : Nat → Pl := fun j => match j with
  | 0 => ⟨x.az, 1, c.zones.length, false⟩
  | 1 => ⟨x.ac, 2, c.cells.length, false⟩
  | 2 => ⟨x.at_, 7, c.tenants.length, false⟩
  | 3 => ⟨x.av, 2, c.versions.length, false⟩
  | 4 => ⟨x.ar, 1, c.replicas.length, false⟩
  | _ => ⟨x.ao, 1, c.observers.length, false⟩
theorem getD_rep {α : Type} {n k : Nat} {a d : α} (h : k < n) : (List.replicate n a).getD k d = a := by
  rw [List.getD_eq_getElem?_getD, List.getElem?_replicate, if_pos h]; rfl
theorem stNew_calls (x : CfgA) (c : Cfg) (w : World) (hc : CfgOk w (· < w.heap.size) x c) (hnt : c.tenants.length ≤ 1000) (hnc : c.cells.length ≤ 1000) :
    Calls Try.prog 13 #[.agg (cfgC x c)] w fun e w' => ∃ y, e = .returned (.agg (stC y (stNew c))) ∧ StOk w' (fun b => w.heap.size ≤ b ∧ b < w'.heap.size) y (stNew c) ∧ Below w.heap.size w w' := by
  have hpc : CfgPl (cpl x c) CN1 x c := ⟨rfl, rfl, rfl, rfl, rfl, rfl⟩
  have hm : MemAt { w0 := w, bor := [], n0 := 6, ρ0 := cpl x c, nt := (Try.f13).ntmps } (cpl x c) (cfgM CN1 c) 6 w := MemAt.rows trivial (by
    have := cfg_blks (C := { w0 := w, bor := [], n0 := 6, ρ0 := cpl x c, nt := (Try.f13).ntmps }) (nx := 6) (r := []) hpc hc (fun b hb => hb) (by decide) trivial
    exact this)
  have hv0 : #[Value.agg (cfgC x c)] = ([cfgV CN1 ⟨x.cz, x.cc, x.ct, x.cv, x.cr, x.co⟩ c].map (den (cpl x c))).toArray := by
    rw [List.map_cons, den_cfg]
    rfl
  rw [hv0]
  refine (calls_sx ttOk ft_nil mixed Try.func13 rfl (D := newD) (by kernel_rfl) (vs := [cfgV CN1 ⟨x.cz, x.cc, x.ct, x.cv, x.cr, x.co⟩ c]) rfl ⟨rfl, rfl⟩ rfl hm (fun v hv => ?_) (new_sx _ c hnt hnc)).mono ?_
  · obtain rfl : v = _ := by simpa using hv
    intro u hu
    simp at hu
    rcases hu with rfl | rfl | rfl | rfl | rfl | rfl | rfl | rfl | rfl | rfl <;> first | trivial | exact ⟨by decide, rfl⟩
  · rintro e w' ⟨v, mem', nx', ρ', rfl, ⟨rfl, ⟨eT, hT, hT2⟩, ⟨eC, hC, hC2⟩⟩, hv, hm'⟩
    refine ⟨⟨(ρ' 8).A, c.tenants.length, (ρ' 9).A, c.cells.length⟩, ?_, ⟨?_, ?_⟩, ⟨hm'.rest.os, hm'.rest.tape, hm'.rest.output, hm'.rest.size, fun b hlt => hm'.rest.block b hlt (by simp)⟩⟩
    · simp [den, den2, den1, dA_whole, stC, stNew, newV]
    · exact (hm'.blk 8 _ hT).fresh (enc := tsC) (l := (stNew c).tenants) default rfl (by simp [stNew]) (fun k hk => by rw [hT2 k hk]; simp only [stNew]; rw [getD_rep hk]) (fun _ => rfl) (by omega)
    · exact (hm'.blk 9 _ hC).fresh (enc := csC) (l := (stNew c).cells) default rfl (by simp [stNew]) (fun k hk => by rw [hC2 k hk]; simp only [stNew]; rw [getD_rep hk]) (fun _ => rfl) (by omega)
def ctNewS : CT := fun vs mem nx K => ∃ N x c, vs = [cfgV N x c] ∧ keeps mem (cfgM N c) ∧ (c.tenants.length ≤ 1000 ∧ c.cells.length ≤ 1000) ∧ ∀ y, K (stV ⟨nx + 1, nx, 500000⟩ y (stNew c)) (stM ⟨nx + 1, nx, 500000⟩ (stNew c) ++ mem) (nx + 2)
theorem newSOk : CSound Try.prog 13 ctNewS := ⟨by kernel_rfl, fun {C ρ fr mem nx a w vs K} hc hs hv => by
  obtain ⟨N, x, c, rfl, hk, ⟨hnt, hnc⟩, hK⟩ := hc
  rw [List.map_cons, den_cfg]
  refine (stNew_calls (cfgX ρ N x) c w (hs.cfg hk (fun b h _ => h)) hnt hnc).mono ?_
  rintro e w' ⟨y, rfl, hst, hb⟩
  obtain ⟨q1, q2, q3, q4⟩ := hs.addSt hb hst
  exact ⟨_, _, _, _, by rw [q2], hK ⟨y.ct, y.cc⟩, q1, q3, q4⟩⟩
end Go.Proofs.Ytjobcfpnmfjlfaa

namespace Go.Proofs.Ytjobcfpnmfjlfaa
open Go.RowKit
set_option linter.unusedSimpArgs false
set_option linter.unusedVariables false
theorem tsSize : (Try.prog.info? 50).map (·.size) = some 12 := by kernel_rfl
theorem csSize : (Try.prog.info? 67).map (·.size) = some 4 := by kernel_rfl
theorem vrSize : (Try.prog.info? 65).map (·.size) = some 2 := by kernel_rfl

set_option maxHeartbeats 60000000 in
set_option maxRecDepth 100000 in
theorem stGrant_any (x : CfgA) (c : Cfg) (y : StA) (s : St) (e : Ent) (w : World) (hV : CfgV c) (hc : CfgOk w (· < w.heap.size) x c) (hI : StInv c s) (hs : StOk w (· < w.heap.size) y s) (ht0 : 0 ≤ e.tenant) (ht1 : e.tenant < s.tenants.length) (hx0 : 0 ≤ e.cell) (hx1 : e.cell < s.cells.length) (htk : 0 ≤ e.tick ∧ e.tick ≤ 1073741824) (hep : 0 ≤ e.epoch ∧ e.epoch ≤ 1048576) (hsi : 0 ≤ e.since ∧ e.since ≤ 1073741824) (htl : 0 ≤ e.till ∧ e.till ≤ 1073741824) :
    Calls Try.prog 50 #[.agg (cfgC x c), .agg (stC y s), .agg (entC e).toArray] w fun r w' => r = .returned (.int .i64 (grantE c s e)) ∧ Below w.heap.size w w' := by
  have hnc := hV.nc
  have hntt := hV.nt
  obtain ⟨az, cz, ac, cc, at_, ct, av, cv, ar, cr, ao, co⟩ := x
  have HV := Lib.hid hV
  have HKc := Lib.hid hc
  clear hV hc
  obtain ⟨sat, sct, sac, scc⟩ := y
  have HKs := Lib.hid hs
  have hsl : 1 ≤ s.cells.length ∧ s.cells.length ≤ 16 := by have := hI.lc; omega
  have hst : s.tenants.length ≤ 32 := by have := hI.lt; omega
  have HI := Lib.hid hI
  clear hs hI
  obtain ⟨kind, tick, tenant, cell, other, epoch, since, till, n⟩ := e
  try simp only at *
  obtain ⟨tn, rfl⟩ := Int.eq_ofNat_of_zero_le ht0
  have htn : tn < s.tenants.length := by omega
  obtain ⟨bt, oft, t, rfl, hbt, hzt, hct⟩ := HKs.out.tenants.row (enc := tsC) (sz := 12) (fun _ => rfl) (by omega) htn
  have HT : Hid (tsAt s tn = t) := Lib.hid (by unfold tsAt; rw [Int.toNat_natCast, getD_some hzt])
  have HTI := Lib.hid (HI.out.ten _ (List.mem_of_getElem? hzt))
  have hbt1 : bt < w.heap.size := hbt
  obtain ⟨xn, rfl⟩ := Int.eq_ofNat_of_zero_le hx0
  have hxn : xn < s.cells.length := by omega
  obtain ⟨bx, ofx, x, rfl, hbx, hzx, hcx⟩ := HKs.out.cells.row (enc := csC) (sz := 4) (fun _ => rfl) (by omega) hxn
  have HX : Hid (csAt s xn = x) := Lib.hid (by unfold csAt; rw [Int.toNat_natCast, getD_some hzx])
  have HXI := Lib.hid (HI.out.cel _ (List.mem_of_getElem? hzx))
  have hbx1 : bx < w.heap.size := hbx
  have HR : Hid (grantE c s ⟨kind, tick, tn, xn, other, epoch, since, till, n⟩ = if t.placed = false ∨ (t.shed = true ∧ (xn : Int) ≠ t.standby) then 4 else if (xn : Int) ≠ t.home ∧ (xn : Int) ≠ t.standby ∧ (xn : Int) ≠ t.target then 5 else if x.mode = 3 ∨ (x.mode = 2 ∧ (xn : Int) ≠ t.home) then 6 else if epoch ≠ t.epoch + 1 ∧ ¬ ((xn : Int) = t.home ∧ epoch = t.epoch) then 7 else if n ≠ x.running ∨ x.running ≠ x.wanted then 8 else if since < tick ∨ tick + c.lease < since ∨ till ≤ since ∨ c.lease < till - since ∨ since < t.win.till ∨ ((xn : Int) ≠ t.home ∧ tick < t.win.till) then 9 else 0) := Lib.hid (by unfold grantE; rw [HT.out, HX.out])
  have hls := HV.out.lease
  have hte := HTI.out.epoch
  have htw := HTI.out.wtill
  have hL : Below w.heap.size w (((w.alloc (.cells #[.int .i64 c.regions, .slice az c.zones.length cz, .slice ac c.cells.length cc, .slice at_ c.tenants.length ct, .slice av c.versions.length cv, .slice ar c.replicas.length cr, .slice ao c.observers.length co, .int .i64 c.blast, .int .i64 c.lease, .int .i64 c.bake] 30)).alloc (.cells #[.int .i64 s.tick, .int .i64 s.count, .slice (some ⟨bt, oft, none⟩) s.tenants.length sct, .slice (some ⟨bx, ofx, none⟩) s.cells.length scc, .int .i64 s.proven, .int .i64 s.evac, .int .i64 s.low, .int .i64 s.high] 36)).alloc (.cells #[.int .i64 kind, .int .i64 tick, .int .i64 tn, .int .i64 xn, .int .i64 other, .int .i64 epoch, .int .i64 since, .int .i64 till, .int .i64 n] 45)) := ((((Below.refl w.heap.size w).alloc (by simp <;> omega) (.cells #[.int .i64 c.regions, .slice az c.zones.length cz, .slice ac c.cells.length cc, .slice at_ c.tenants.length ct, .slice av c.versions.length cv, .slice ar c.replicas.length cr, .slice ao c.observers.length co, .int .i64 c.blast, .int .i64 c.lease, .int .i64 c.bake] 30)).alloc (by simp <;> omega) (.cells #[.int .i64 s.tick, .int .i64 s.count, .slice (some ⟨bt, oft, none⟩) s.tenants.length sct, .slice (some ⟨bx, ofx, none⟩) s.cells.length scc, .int .i64 s.proven, .int .i64 s.evac, .int .i64 s.low, .int .i64 s.high] 36)).alloc (by simp <;> omega) (.cells #[.int .i64 kind, .int .i64 tick, .int .i64 tn, .int .i64 xn, .int .i64 other, .int .i64 epoch, .int .i64 since, .int .i64 till, .int .i64 n] 45))
  have hBc : Blk (((w.alloc (.cells #[.int .i64 c.regions, .slice az c.zones.length cz, .slice ac c.cells.length cc, .slice at_ c.tenants.length ct, .slice av c.versions.length cv, .slice ar c.replicas.length cr, .slice ao c.observers.length co, .int .i64 c.blast, .int .i64 c.lease, .int .i64 c.bake] 30)).alloc (.cells #[.int .i64 s.tick, .int .i64 s.count, .slice (some ⟨bt, oft, none⟩) s.tenants.length sct, .slice (some ⟨bx, ofx, none⟩) s.cells.length scc, .int .i64 s.proven, .int .i64 s.evac, .int .i64 s.low, .int .i64 s.high] 36)).alloc (.cells #[.int .i64 kind, .int .i64 tick, .int .i64 tn, .int .i64 xn, .int .i64 other, .int .i64 epoch, .int .i64 since, .int .i64 till, .int .i64 n] 45)) (w.heap.size) 30 #[.int .i64 c.regions, .slice az c.zones.length cz, .slice ac c.cells.length cc, .slice at_ c.tenants.length ct, .slice av c.versions.length cv, .slice ar c.replicas.length cr, .slice ao c.observers.length co, .int .i64 c.blast, .int .i64 c.lease, .int .i64 c.bake] := by
    have := (((Blk.new w 30 #[.int .i64 c.regions, .slice az c.zones.length cz, .slice ac c.cells.length cc, .slice at_ c.tenants.length ct, .slice av c.versions.length cv, .slice ar c.replicas.length cr, .slice ao c.observers.length co, .int .i64 c.blast, .int .i64 c.lease, .int .i64 c.bake]).alloc (.cells #[.int .i64 s.tick, .int .i64 s.count, .slice (some ⟨bt, oft, none⟩) s.tenants.length sct, .slice (some ⟨bx, ofx, none⟩) s.cells.length scc, .int .i64 s.proven, .int .i64 s.evac, .int .i64 s.low, .int .i64 s.high] 36)).alloc (.cells #[.int .i64 kind, .int .i64 tick, .int .i64 tn, .int .i64 xn, .int .i64 other, .int .i64 epoch, .int .i64 since, .int .i64 till, .int .i64 n] 45))
    simpa using this
  have hBs : Blk (((w.alloc (.cells #[.int .i64 c.regions, .slice az c.zones.length cz, .slice ac c.cells.length cc, .slice at_ c.tenants.length ct, .slice av c.versions.length cv, .slice ar c.replicas.length cr, .slice ao c.observers.length co, .int .i64 c.blast, .int .i64 c.lease, .int .i64 c.bake] 30)).alloc (.cells #[.int .i64 s.tick, .int .i64 s.count, .slice (some ⟨bt, oft, none⟩) s.tenants.length sct, .slice (some ⟨bx, ofx, none⟩) s.cells.length scc, .int .i64 s.proven, .int .i64 s.evac, .int .i64 s.low, .int .i64 s.high] 36)).alloc (.cells #[.int .i64 kind, .int .i64 tick, .int .i64 tn, .int .i64 xn, .int .i64 other, .int .i64 epoch, .int .i64 since, .int .i64 till, .int .i64 n] 45)) (w.heap.size + 1) 36 #[.int .i64 s.tick, .int .i64 s.count, .slice (some ⟨bt, oft, none⟩) s.tenants.length sct, .slice (some ⟨bx, ofx, none⟩) s.cells.length scc, .int .i64 s.proven, .int .i64 s.evac, .int .i64 s.low, .int .i64 s.high] := by
    have := ((Blk.new (w.alloc (.cells #[.int .i64 c.regions, .slice az c.zones.length cz, .slice ac c.cells.length cc, .slice at_ c.tenants.length ct, .slice av c.versions.length cv, .slice ar c.replicas.length cr, .slice ao c.observers.length co, .int .i64 c.blast, .int .i64 c.lease, .int .i64 c.bake] 30)) 36 #[.int .i64 s.tick, .int .i64 s.count, .slice (some ⟨bt, oft, none⟩) s.tenants.length sct, .slice (some ⟨bx, ofx, none⟩) s.cells.length scc, .int .i64 s.proven, .int .i64 s.evac, .int .i64 s.low, .int .i64 s.high]).alloc (.cells #[.int .i64 kind, .int .i64 tick, .int .i64 tn, .int .i64 xn, .int .i64 other, .int .i64 epoch, .int .i64 since, .int .i64 till, .int .i64 n] 45))
    simpa using this
  have hBe : Blk (((w.alloc (.cells #[.int .i64 c.regions, .slice az c.zones.length cz, .slice ac c.cells.length cc, .slice at_ c.tenants.length ct, .slice av c.versions.length cv, .slice ar c.replicas.length cr, .slice ao c.observers.length co, .int .i64 c.blast, .int .i64 c.lease, .int .i64 c.bake] 30)).alloc (.cells #[.int .i64 s.tick, .int .i64 s.count, .slice (some ⟨bt, oft, none⟩) s.tenants.length sct, .slice (some ⟨bx, ofx, none⟩) s.cells.length scc, .int .i64 s.proven, .int .i64 s.evac, .int .i64 s.low, .int .i64 s.high] 36)).alloc (.cells #[.int .i64 kind, .int .i64 tick, .int .i64 tn, .int .i64 xn, .int .i64 other, .int .i64 epoch, .int .i64 since, .int .i64 till, .int .i64 n] 45)) (w.heap.size + 1 + 1) 45 #[.int .i64 kind, .int .i64 tick, .int .i64 tn, .int .i64 xn, .int .i64 other, .int .i64 epoch, .int .i64 since, .int .i64 till, .int .i64 n] := by
    have := (Blk.new ((w.alloc (.cells #[.int .i64 c.regions, .slice az c.zones.length cz, .slice ac c.cells.length cc, .slice at_ c.tenants.length ct, .slice av c.versions.length cv, .slice ar c.replicas.length cr, .slice ao c.observers.length co, .int .i64 c.blast, .int .i64 c.lease, .int .i64 c.bake] 30)).alloc (.cells #[.int .i64 s.tick, .int .i64 s.count, .slice (some ⟨bt, oft, none⟩) s.tenants.length sct, .slice (some ⟨bx, ofx, none⟩) s.cells.length scc, .int .i64 s.proven, .int .i64 s.evac, .int .i64 s.low, .int .i64 s.high] 36)) 45 #[.int .i64 kind, .int .i64 tick, .int .i64 tn, .int .i64 xn, .int .i64 other, .int .i64 epoch, .int .i64 since, .int .i64 till, .int .i64 n])
    simpa using this
  unfold cfgC stC entC
  simp only
  go_enter Try.func50, Try.ntmps50
  go_upto_region 1 with fail
  generalize ((w.alloc _).alloc _).alloc _ = W at *
  have hgc := hBc.lt
  have d0 := hBc.cell' (i := 0) (v := .int .i64 c.regions) rfl
  have d1 := hBc.cell' (i := 1) (v := .slice az c.zones.length cz) rfl
  have d2 := hBc.cell' (i := 2) (v := .slice ac c.cells.length cc) rfl
  have d3 := hBc.cell' (i := 3) (v := .slice at_ c.tenants.length ct) rfl
  have d4 := hBc.cell' (i := 4) (v := .slice av c.versions.length cv) rfl
  have d5 := hBc.cell' (i := 5) (v := .slice ar c.replicas.length cr) rfl
  have d6 := hBc.cell' (i := 6) (v := .slice ao c.observers.length co) rfl
  have d7 := hBc.cell' (i := 7) (v := .int .i64 c.blast) rfl
  have d8 := hBc.cell' (i := 8) (v := .int .i64 c.lease) rfl
  have d9 := hBc.cell' (i := 9) (v := .int .i64 c.bake) rfl
  clear hBc
  have hgs := hBs.lt
  have su0 := hBs.cell' (i := 0) (v := .int .i64 s.tick) rfl
  have su1 := hBs.cell' (i := 1) (v := .int .i64 s.count) rfl
  have su2 := hBs.cell' (i := 2) (v := .slice (some ⟨bt, oft, none⟩) s.tenants.length sct) rfl
  have su3 := hBs.cell' (i := 3) (v := .slice (some ⟨bx, ofx, none⟩) s.cells.length scc) rfl
  have su4 := hBs.cell' (i := 4) (v := .int .i64 s.proven) rfl
  have su5 := hBs.cell' (i := 5) (v := .int .i64 s.evac) rfl
  have su6 := hBs.cell' (i := 6) (v := .int .i64 s.low) rfl
  have su7 := hBs.cell' (i := 7) (v := .int .i64 s.high) rfl
  clear hBs
  have hge := hBe.lt
  have v0 := hBe.cell' (i := 0) (v := .int .i64 kind) rfl
  have v1 := hBe.cell' (i := 1) (v := .int .i64 tick) rfl
  have v2 := hBe.cell' (i := 2) (v := .int .i64 tn) rfl
  have v3 := hBe.cell' (i := 3) (v := .int .i64 xn) rfl
  have v4 := hBe.cell' (i := 4) (v := .int .i64 other) rfl
  have v5 := hBe.cell' (i := 5) (v := .int .i64 epoch) rfl
  have v6 := hBe.cell' (i := 6) (v := .int .i64 since) rfl
  have v7 := hBe.cell' (i := 7) (v := .int .i64 till) rfl
  have v8 := hBe.cell' (i := 8) (v := .int .i64 n) rfl
  clear hBe
  have HL := Lib.hid hL
  have HWc := Lib.hid (HKc.out.belowW hL)
  have HWs := Lib.hid (HKs.out.belowW hL)
  clear hL
  have t0 : W.cell? ⟨bt, oft + tn * 12, none⟩ = some (.bool t.placed) := (HL.out.cell (p := ⟨bt, oft + tn * 12, none⟩) hbt1).trans (hct 0 _ rfl)
  have t1 : W.cell? ⟨bt, oft + tn * 12 + 1, none⟩ = some (.bool t.shed) := (HL.out.cell (p := ⟨bt, oft + tn * 12 + 1, none⟩) hbt1).trans (hct 1 _ rfl)
  have t2 : W.cell? ⟨bt, oft + tn * 12 + 2, none⟩ = some (.int .i64 t.home) := (HL.out.cell (p := ⟨bt, oft + tn * 12 + 2, none⟩) hbt1).trans (hct 2 _ rfl)
  have t3 : W.cell? ⟨bt, oft + tn * 12 + 3, none⟩ = some (.int .i64 t.standby) := (HL.out.cell (p := ⟨bt, oft + tn * 12 + 3, none⟩) hbt1).trans (hct 3 _ rfl)
  have t4 : W.cell? ⟨bt, oft + tn * 12 + 4, none⟩ = some (.int .i64 t.next) := (HL.out.cell (p := ⟨bt, oft + tn * 12 + 4, none⟩) hbt1).trans (hct 4 _ rfl)
  have t5 : W.cell? ⟨bt, oft + tn * 12 + 5, none⟩ = some (.int .i64 t.target) := (HL.out.cell (p := ⟨bt, oft + tn * 12 + 5, none⟩) hbt1).trans (hct 5 _ rfl)
  have t6 : W.cell? ⟨bt, oft + tn * 12 + 6, none⟩ = some (.int .i64 t.epoch) := (HL.out.cell (p := ⟨bt, oft + tn * 12 + 6, none⟩) hbt1).trans (hct 6 _ rfl)
  have t7 : W.cell? ⟨bt, oft + tn * 12 + 7, none⟩ = some (.int .i64 t.win.cell) := (HL.out.cell (p := ⟨bt, oft + tn * 12 + 7, none⟩) hbt1).trans (hct 7 _ rfl)
  have t8 : W.cell? ⟨bt, oft + tn * 12 + 8, none⟩ = some (.int .i64 t.win.epoch) := (HL.out.cell (p := ⟨bt, oft + tn * 12 + 8, none⟩) hbt1).trans (hct 8 _ rfl)
  have t9 : W.cell? ⟨bt, oft + tn * 12 + 9, none⟩ = some (.int .i64 t.win.version) := (HL.out.cell (p := ⟨bt, oft + tn * 12 + 9, none⟩) hbt1).trans (hct 9 _ rfl)
  have t10 : W.cell? ⟨bt, oft + tn * 12 + 10, none⟩ = some (.int .i64 t.win.since) := (HL.out.cell (p := ⟨bt, oft + tn * 12 + 10, none⟩) hbt1).trans (hct 10 _ rfl)
  have t11 : W.cell? ⟨bt, oft + tn * 12 + 11, none⟩ = some (.int .i64 t.win.till) := (HL.out.cell (p := ⟨bt, oft + tn * 12 + 11, none⟩) hbt1).trans (hct 11 _ rfl)
  have hbtW : bt < W.heap.size := Nat.lt_of_lt_of_le hbt1 HL.out.size
  clear hct hzt hbt hbt1
  have x0 : W.cell? ⟨bx, ofx + xn * 4, none⟩ = some (.int .i64 x.mode) := (HL.out.cell (p := ⟨bx, ofx + xn * 4, none⟩) hbx1).trans (hcx 0 _ rfl)
  have x1 : W.cell? ⟨bx, ofx + xn * 4 + 1, none⟩ = some (.int .i64 x.running) := (HL.out.cell (p := ⟨bx, ofx + xn * 4 + 1, none⟩) hbx1).trans (hcx 1 _ rfl)
  have x2 : W.cell? ⟨bx, ofx + xn * 4 + 2, none⟩ = some (.int .i64 x.wanted) := (HL.out.cell (p := ⟨bx, ofx + xn * 4 + 2, none⟩) hbx1).trans (hcx 2 _ rfl)
  have x3 : W.cell? ⟨bx, ofx + xn * 4 + 3, none⟩ = some (.int .i64 x.since) := (HL.out.cell (p := ⟨bx, ofx + xn * 4 + 3, none⟩) hbx1).trans (hcx 3 _ rfl)
  have hbxW : bx < W.heap.size := Nat.lt_of_lt_of_le hbx1 HL.out.size
  clear hcx hzx hbx hbx1
  go_cut [7, 8] (fun v7 v8 wx => ∃ ga gb, v7 = .pointer (some ⟨ga, 0, none⟩) ∧ v8 = .pointer (some ⟨gb, 0, none⟩) ∧ TwoC W 50 67 #[.bool t.placed, .bool t.shed, .int .i64 t.home, .int .i64 t.standby, .int .i64 t.next, .int .i64 t.target, .int .i64 t.epoch, .int .i64 t.win.cell, .int .i64 t.win.epoch, .int .i64 t.win.version, .int .i64 t.win.since, .int .i64 t.win.till] #[.int .i64 x.mode, .int .i64 x.running, .int .i64 x.wanted, .int .i64 x.since] ga gb wx)
  case first =>
    refine wp_region_seqI (fun w' : World => Below W.heap.size W w') 15 [0, 1, 2, 3, 4, 5, 6, 7, 8, 9, 10, 11] [12, 13, 14] (fun i => if i = 14 then [12, 13] else []) (by kernel_rfl) (by kernel_rfl) (Below.refl _ _).drew ?_
    simp only [List.take_succ_cons, List.take_zero, List.drop_succ_cons, List.drop_zero]
    repeat (refine wpSeqI_fix _ ?_ rfl (by first | exact fun _ _ _ h => h | exact fun _ _ _ h => hpan _ _ _ _ _ h) (Or.inl ⟨by rfl, ?_⟩) ?_; rotate_left; (intro w' hSw; (try dsimp only at hSw); obtain ⟨hc, hf⟩ := bcell hSw; clear hf hSw; go_simp; (try with_reducible rfl)); (simp only [List.getElem_toArray, List.getElem_cons_zero, List.getElem_cons_succ, Act.put, List.setIfInBounds_toArray, List.set_cons_zero, List.set_cons_succ]))
    refine wpSeqI_acts (fun a0 d a wx => ∃ va vb ga gb, a = ((a0.put (some 7) va).put (some 8) vb) ∧ TwoJ W 50 67 #[.bool false, .bool false, .int .i64 0, .int .i64 0, .int .i64 0, .int .i64 0, .int .i64 0, .int .i64 0, .int .i64 0, .int .i64 0, .int .i64 0, .int .i64 0] #[.bool t.placed, .bool t.shed, .int .i64 t.home, .int .i64 t.standby, .int .i64 t.next, .int .i64 t.target, .int .i64 t.epoch, .int .i64 t.win.cell, .int .i64 t.win.epoch, .int .i64 t.win.version, .int .i64 t.win.since, .int .i64 t.win.till] #[.int .i64 0, .int .i64 0, .int .i64 0, .int .i64 0] 12 13 14 d va vb ga gb wx) ?j1 ?j2 ?j3
    case j1 =>
      intro d hd
      refine ⟨_, _, 0, 0, rfl, TwoJ.start (Below.refl _ _).drew (hd 12 (by simp)) (hd 13 (by simp)) (hd 14 (by simp))⟩
    case j2 =>
      refine acts_cons (actStep_op rfl rfl ?s12) (acts_cons (actStep_op rfl rfl ?s13) (acts_cons (actStep_op rfl rfl ?s14) acts_nil))
      case s12 =>
        rintro d a wx h0 hp hS ⟨va, vb, ga, gb, rfl, hJ⟩
        have HJ := Lib.hid (hJ.allocA h0 (by decide) (by decide))
        clear hJ hS hp h0
        simp only [List.getElem_toArray, List.getElem_cons_zero, List.getElem_cons_succ, Act.put, List.setIfInBounds_toArray, List.set_cons_zero, List.set_cons_succ]
        go_simp
        exact ⟨HJ.out.below, _, _, ⟨rfl, rfl⟩, _, gb, HJ.out⟩
      case s13 =>
        rintro d a wx h0 hp hS ⟨va, vb, ga, gb, rfl, hJ⟩
        have HJ := Lib.hid (hJ.allocB (by decide) (by decide))
        clear hJ hS hp h0
        simp only [List.getElem_toArray, List.getElem_cons_zero, List.getElem_cons_succ, Act.put, List.setIfInBounds_toArray, List.set_cons_zero, List.set_cons_succ]
        go_simp
        exact ⟨HJ.out.below, _, _, ⟨rfl, rfl⟩, ga, _, HJ.out⟩
      case s14 =>
        rintro d a wx h0 hp hS ⟨va, vb, ga, gb, rfl, hJ⟩
        have HJ := Lib.hid (hJ.storeA (hp 12 (by simp)) (hp 13 (by simp)) (by decide) (by decide) (putL_full rfl) (putL_full rfl))
        obtain ⟨rfl, hk, hle⟩ := hJ.a (hp 12 (by simp))
        clear hJ hS hp h0
        simp only [List.getElem_toArray, List.getElem_cons_zero, List.getElem_cons_succ, Act.put, List.setIfInBounds_toArray, List.set_cons_zero, List.set_cons_succ]
        refine wp_store_mid _ _ _ (by rfl) ga 0 #[.bool t.placed, .bool t.shed, .int .i64 t.home, .int .i64 t.standby, .int .i64 t.next, .int .i64 t.target, .int .i64 t.epoch, .int .i64 t.win.cell, .int .i64 t.win.epoch, .int .i64 t.win.version, .int .i64 t.win.since, .int .i64 t.win.till] (by go_simp) (by go_simp) (hk.there 0 12 (by split <;> simp)) tsSize (by simp [Value.oneCell']) ?_
        refine ⟨HJ.out.below, ?_⟩
        go_simp
        exact ⟨_, _, ⟨rfl, rfl⟩, ga, gb, HJ.out⟩
    case j3 =>
      rintro d a wx hp hS ⟨va, vb, ga, gb, rfl, hJ⟩
      obtain ⟨rfl, hka, hla⟩ := hJ.a (hp 12 (by simp))
      obtain ⟨rfl, hkb, hlb⟩ := hJ.b (hp 13 (by simp))
      have HJ := Lib.hid (hJ.done1 (FB := #[.int .i64 x.mode, .int .i64 x.running, .int .i64 x.wanted, .int .i64 x.since]) (hp 12 (by simp)) (hp 13 (by simp)) (hp 14 (by simp)) (putL_full rfl))
      clear hJ hS hp
      simp only [List.getElem_toArray, List.getElem_cons_zero, List.getElem_cons_succ, Act.put, List.setIfInBounds_toArray, List.set_cons_zero, List.set_cons_succ, thenK]
      refine wpList_store_mid (by rfl) _ _ _ (by rfl) gb 0 #[.int .i64 x.mode, .int .i64 x.running, .int .i64 x.wanted, .int .i64 x.since] (by go_simp) (by go_simp) (hkb.there 0 4 (by simp)) csSize (by simp [Value.oneCell']) ?_
      go_wp2
      go_meet
      exact ⟨ga, gb, rfl, rfl, HJ.out⟩
  case rest =>
    obtain ⟨ga, gb, rfl, rfl, hC⟩ := hcut
    have hL2 := hC.below
    clear t0 t1 t2 t3 t4 t5 t6 t7 t8 t9 t10 t11 x0 x1 x2 x3 hbtW hbxW
    obtain ⟨W2, rfl⟩ : ∃ W2, W2 = wc := ⟨_, rfl⟩
    replace d0 : W2.cell? ⟨w.heap.size, 0, none⟩ = some (.int .i64 c.regions) := (hL2.cell (p := ⟨w.heap.size, 0, none⟩) hgc).trans d0
    replace d1 : W2.cell? ⟨w.heap.size, 1, none⟩ = some (.slice az c.zones.length cz) := (hL2.cell (p := ⟨w.heap.size, 1, none⟩) hgc).trans d1
    replace d2 : W2.cell? ⟨w.heap.size, 2, none⟩ = some (.slice ac c.cells.length cc) := (hL2.cell (p := ⟨w.heap.size, 2, none⟩) hgc).trans d2
    replace d3 : W2.cell? ⟨w.heap.size, 3, none⟩ = some (.slice at_ c.tenants.length ct) := (hL2.cell (p := ⟨w.heap.size, 3, none⟩) hgc).trans d3
    replace d4 : W2.cell? ⟨w.heap.size, 4, none⟩ = some (.slice av c.versions.length cv) := (hL2.cell (p := ⟨w.heap.size, 4, none⟩) hgc).trans d4
    replace d5 : W2.cell? ⟨w.heap.size, 5, none⟩ = some (.slice ar c.replicas.length cr) := (hL2.cell (p := ⟨w.heap.size, 5, none⟩) hgc).trans d5
    replace d6 : W2.cell? ⟨w.heap.size, 6, none⟩ = some (.slice ao c.observers.length co) := (hL2.cell (p := ⟨w.heap.size, 6, none⟩) hgc).trans d6
    replace d7 : W2.cell? ⟨w.heap.size, 7, none⟩ = some (.int .i64 c.blast) := (hL2.cell (p := ⟨w.heap.size, 7, none⟩) hgc).trans d7
    replace d8 : W2.cell? ⟨w.heap.size, 8, none⟩ = some (.int .i64 c.lease) := (hL2.cell (p := ⟨w.heap.size, 8, none⟩) hgc).trans d8
    replace d9 : W2.cell? ⟨w.heap.size, 9, none⟩ = some (.int .i64 c.bake) := (hL2.cell (p := ⟨w.heap.size, 9, none⟩) hgc).trans d9
    replace hgc : w.heap.size < W2.heap.size := Nat.lt_of_lt_of_le hgc hL2.size
    replace su0 : W2.cell? ⟨w.heap.size + 1, 0, none⟩ = some (.int .i64 s.tick) := (hL2.cell (p := ⟨w.heap.size + 1, 0, none⟩) hgs).trans su0
    replace su1 : W2.cell? ⟨w.heap.size + 1, 1, none⟩ = some (.int .i64 s.count) := (hL2.cell (p := ⟨w.heap.size + 1, 1, none⟩) hgs).trans su1
    replace su2 : W2.cell? ⟨w.heap.size + 1, 2, none⟩ = some (.slice (some ⟨bt, oft, none⟩) s.tenants.length sct) := (hL2.cell (p := ⟨w.heap.size + 1, 2, none⟩) hgs).trans su2
    replace su3 : W2.cell? ⟨w.heap.size + 1, 3, none⟩ = some (.slice (some ⟨bx, ofx, none⟩) s.cells.length scc) := (hL2.cell (p := ⟨w.heap.size + 1, 3, none⟩) hgs).trans su3
    replace su4 : W2.cell? ⟨w.heap.size + 1, 4, none⟩ = some (.int .i64 s.proven) := (hL2.cell (p := ⟨w.heap.size + 1, 4, none⟩) hgs).trans su4
    replace su5 : W2.cell? ⟨w.heap.size + 1, 5, none⟩ = some (.int .i64 s.evac) := (hL2.cell (p := ⟨w.heap.size + 1, 5, none⟩) hgs).trans su5
    replace su6 : W2.cell? ⟨w.heap.size + 1, 6, none⟩ = some (.int .i64 s.low) := (hL2.cell (p := ⟨w.heap.size + 1, 6, none⟩) hgs).trans su6
    replace su7 : W2.cell? ⟨w.heap.size + 1, 7, none⟩ = some (.int .i64 s.high) := (hL2.cell (p := ⟨w.heap.size + 1, 7, none⟩) hgs).trans su7
    replace hgs : w.heap.size + 1 < W2.heap.size := Nat.lt_of_lt_of_le hgs hL2.size
    replace v0 : W2.cell? ⟨w.heap.size + 1 + 1, 0, none⟩ = some (.int .i64 kind) := (hL2.cell (p := ⟨w.heap.size + 1 + 1, 0, none⟩) hge).trans v0
    replace v1 : W2.cell? ⟨w.heap.size + 1 + 1, 1, none⟩ = some (.int .i64 tick) := (hL2.cell (p := ⟨w.heap.size + 1 + 1, 1, none⟩) hge).trans v1
    replace v2 : W2.cell? ⟨w.heap.size + 1 + 1, 2, none⟩ = some (.int .i64 tn) := (hL2.cell (p := ⟨w.heap.size + 1 + 1, 2, none⟩) hge).trans v2
    replace v3 : W2.cell? ⟨w.heap.size + 1 + 1, 3, none⟩ = some (.int .i64 xn) := (hL2.cell (p := ⟨w.heap.size + 1 + 1, 3, none⟩) hge).trans v3
    replace v4 : W2.cell? ⟨w.heap.size + 1 + 1, 4, none⟩ = some (.int .i64 other) := (hL2.cell (p := ⟨w.heap.size + 1 + 1, 4, none⟩) hge).trans v4
    replace v5 : W2.cell? ⟨w.heap.size + 1 + 1, 5, none⟩ = some (.int .i64 epoch) := (hL2.cell (p := ⟨w.heap.size + 1 + 1, 5, none⟩) hge).trans v5
    replace v6 : W2.cell? ⟨w.heap.size + 1 + 1, 6, none⟩ = some (.int .i64 since) := (hL2.cell (p := ⟨w.heap.size + 1 + 1, 6, none⟩) hge).trans v6
    replace v7 : W2.cell? ⟨w.heap.size + 1 + 1, 7, none⟩ = some (.int .i64 till) := (hL2.cell (p := ⟨w.heap.size + 1 + 1, 7, none⟩) hge).trans v7
    replace v8 : W2.cell? ⟨w.heap.size + 1 + 1, 8, none⟩ = some (.int .i64 n) := (hL2.cell (p := ⟨w.heap.size + 1 + 1, 8, none⟩) hge).trans v8
    replace hge : w.heap.size + 1 + 1 < W2.heap.size := Nat.lt_of_lt_of_le hge hL2.size
    replace HWc := Lib.hid (HWc.out.belowW hL2)
    replace HWs := Lib.hid (HWs.out.belowW hL2)
    have p0 := hC.a.cell' (i := 0) (v := .bool t.placed) rfl
    have p1 := hC.a.cell' (i := 1) (v := .bool t.shed) rfl
    have p2 := hC.a.cell' (i := 2) (v := .int .i64 t.home) rfl
    have p3 := hC.a.cell' (i := 3) (v := .int .i64 t.standby) rfl
    have p4 := hC.a.cell' (i := 4) (v := .int .i64 t.next) rfl
    have p5 := hC.a.cell' (i := 5) (v := .int .i64 t.target) rfl
    have p6 := hC.a.cell' (i := 6) (v := .int .i64 t.epoch) rfl
    have p7 := hC.a.cell' (i := 7) (v := .int .i64 t.win.cell) rfl
    have p8 := hC.a.cell' (i := 8) (v := .int .i64 t.win.epoch) rfl
    have p9 := hC.a.cell' (i := 9) (v := .int .i64 t.win.version) rfl
    have p10 := hC.a.cell' (i := 10) (v := .int .i64 t.win.since) rfl
    have p11 := hC.a.cell' (i := 11) (v := .int .i64 t.win.till) rfl
    have q0 := hC.b.cell' (i := 0) (v := .int .i64 x.mode) rfl
    have q1 := hC.b.cell' (i := 1) (v := .int .i64 x.running) rfl
    have q2 := hC.b.cell' (i := 2) (v := .int .i64 x.wanted) rfl
    have q3 := hC.b.cell' (i := 3) (v := .int .i64 x.since) rfl
    replace HL := Lib.hid (HL.out.trans (hL2.mono HL.out.size))
    clear hL2 hC
    go_wp2
    all_goals
      go_ret
      refine ⟨ret_i64 ?_, (by first | exact HL.out | exact HL.out.trans ((Later.below _).mono HL.out.size))⟩
      rw [HR.out]
      go_light
      clear HR HL
      clear d0 d1 d2 d3 d4 d5 d6 d7 d8 d9 su0 su1 su2 su3 su4 su5 su6 su7 v0 v1 v2 v3 v4 v5 v6 v7 v8 p0 p1 p2 p3 p4 p5 p6 p7 p8 p9 p10 p11 q0 q1 q2 q3 HWc HWs HKc HKs HV HI HT HX HTI HXI hgc hgs hge
      simp_all
      try omega
end Go.Proofs.Ytjobcfpnmfjlfaa

namespace Go.Proofs.Ytjobcfpnmfjlfaa
open Go.RowKit
set_option linter.unusedSimpArgs false
set_option linter.unusedVariables false

/-! entry.formOf by the abstract machine. -/
def ttE : TT := [(100, tiRec [zi, zi, zi, zi] [0, 1, 2, 3] [1, 1, 1, 1] [1, 1, 1, 1]), (110, tiRec [zi, zi] [0, 1] [1, 1] [1, 1]),
  (112, tiRec [zi, zi, zi, zi, zi, zi, zi, zi, zi, zi, zi, zi] [0, 2, 4, 6, 8, 10] [2, 2, 2, 2, 2, 2] [2, 2, 2, 2, 2, 2])] ++ tt
theorem ttEok : TTok Try.prog ttE := by
  refine tt_mem _ _ ?_
  unfold ttE tt
  repeat (refine tt_cons ⟨by kernel_rfl, by kernel_rfl, plains (by rfl), by kernel_rfl, by kernel_rfl⟩ ?_)
  exact tt_nil
/-- The ranges of the fields of a kind. -/
def formC (nt nc nr nv k : Int) : Array Value := if inR k 1 16 = true then
    #[.int .i64 (fT nt k).1, .int .i64 (fT nt k).2, .int .i64 (fC nc k).1, .int .i64 (fC nc k).2, .int .i64 (fO nc nr k).1, .int .i64 (fO nc nr k).2, .int .i64 (fE k).1, .int .i64 (fE k).2, .int .i64 (fW k).1, .int .i64 (fW k).2, .int .i64 (fN nv k).1, .int .i64 (fN nv k).2]
  else #[.int .i64 0, .int .i64 0, .int .i64 0, .int .i64 0, .int .i64 0, .int .i64 0, .int .i64 0, .int .i64 0, .int .i64 0, .int .i64 0, .int .i64 0, .int .i64 0]
/-- A function of values only. -/
theorem val_calls {τ : TT} (hτ : TTok Try.prog τ) {f : FuncId} {fn : Func} {F : FT} {D : List (Nat × DQ)} (hF : FTok Try.prog F) (hf : (Try.prog).funcs[f]? = some fn) (hb : fn.body = some (bodyOf fn)) (hcode : codeB fn.ntmps D (bodyOf fn) = true) {vs : List Value} (hn : Nat.ble vs.length fn.ntmps = true) (w : World) (hv : ∀ v ∈ vs, pureV v) {R : Value → Prop} (h : sx τ F D (bodyOf fn) (argF 0 vs) [] 0 (endx τ fn.results.toList fun v _ _ => R v)) :
    Calls Try.prog f vs.toArray w fun e w' => ∃ v, R v ∧ (∃ ρ, e = .returned (den ρ v)) ∧ Below w.heap.size w w' := by
  have hm : MemAt { w0 := w, bor := [], n0 := 0, ρ0 := fun _ => ⟨none, 0, 0, false⟩, nt := fn.ntmps } (fun _ => ⟨none, 0, 0, false⟩) [] 0 w := MemAt.rows trivial trivial
  have e0 : vs.map (den fun _ => ⟨none, 0, 0, false⟩) = vs := by
    conv => rhs; rw [← List.map_id vs]
    exact List.map_congr_left fun v hv' => (pure_den (hv v hv') _ 0).1
  have := calls_sx hτ hF mixed hf hb hcode (vs := vs) hn ⟨rfl, rfl⟩ rfl hm (fun v hv' => (pure_den (hv v hv') _ 0).2) h
  rw [e0] at this
  refine this.mono ?_
  rintro e w' ⟨v, mem', nx', ρ', rfl, hR, -, hm'⟩
  exact ⟨v, hR, ⟨ρ', rfl⟩, ⟨hm'.rest.os, hm'.rest.tape, hm'.rest.output, hm'.rest.size, fun b hlt => hm'.rest.block b hlt (by simp)⟩⟩
theorem entBelow_any (n : Int) (w : World) (h0 : 0 ≤ n) (h1 : n ≤ 1000) :
    Calls Try.prog 87 #[.int .i64 n] w fun e w' => e = .returned (.agg #[.int .i64 0, .int .i64 (n - 1)]) ∧ Below w.heap.size w w' := by
  refine (val_calls (τ := ttE) ttEok ft_nil Try.func87 rfl (D := []) (by kernel_rfl) (vs := [.int .i64 n]) rfl w (fun v hv => by simp at hv; subst hv; trivial) (R := fun v => v = .agg #[.int .i64 0, .int .i64 (n - 1)]) ?_).mono ?_
  · show Value.agg #[.int .i64 0, .int .i64 (IntKind.i64.wrap (n - 1))] = _
    rw [wrapi (by omega)]
  · rintro e w' ⟨v, rfl, ⟨ρ, rfl⟩, hb⟩
    exact ⟨by simp [den, den2, den1], hb⟩
theorem entHas_any (lo hi n : Int) (w : World) :
    Calls Try.prog 83 #[.agg #[.int .i64 lo, .int .i64 hi], .int .i64 n] w fun e w' => e = .returned (.bool (inR n lo hi)) ∧ Below w.heap.size w w' := by
  refine (val_calls (τ := ttE) ttEok ft_nil Try.func83 rfl (D := []) (by kernel_rfl) (vs := [.agg #[.int .i64 lo, .int .i64 hi], .int .i64 n]) rfl w (fun v hv => by
    simp at hv
    rcases hv with rfl | rfl
    · intro u hu
      simp at hu
      rcases hu with rfl | rfl <;> trivial
    · trivial) (R := fun v => v = .bool (inR n lo hi)) ?_).mono ?_
  · refine ⟨fun h => ?_, fun h => ?_⟩
    · show Value.bool (decide (n ≤ hi)) = _
      unfold inR
      rw [h]
      rfl
    · show Value.bool false = _
      unfold inR
      rw [h]
      rfl
  · rintro e w' ⟨v, rfl, ⟨ρ, rfl⟩, hb⟩
    exact ⟨rfl, hb⟩
def ctBelow : CT := fun vs mem nx K => ∃ n, vs = [.int .i64 n] ∧ (True) ∧ (0 ≤ n ∧ n ≤ 1000) ∧ K (.agg #[.int .i64 0, .int .i64 (n - 1)]) mem nx
theorem belowOk : CSound Try.prog 87 ctBelow := (ptsOk (R := fun l z => ∃ n, l = [.vl (.int .i64 n)] ∧ z = .agg #[.int .i64 0, .int .i64 (n - 1)]) (pre := fun l => ∃ n, l = [.vl (.int .i64 n)] ∧ (0 ≤ n ∧ n ≤ 1000)) (by kernel_rfl) (by
  rintro ps w ⟨n, hps, hpre⟩ hok
  obtain ⟨ps0, rfl, hps0⟩ := dt_v hps
  obtain rfl := dt_nil hps0
  refine (entBelow_any n w hpre.1 hpre.2).mono ?_
  rintro e w' ⟨rfl, hb⟩
  exact ⟨_, ⟨n, rfl, rfl⟩, (fun u hu => by simp at hu; rcases hu with rfl | rfl <;> trivial), rfl, hb⟩)).mono (by
  rintro vs mem nx K ⟨n, rfl, hk, hpre, hK⟩
  exact ⟨[.vl _], rfl, ⟨trivial, trivial⟩, ⟨_, rfl, hpre⟩, by rintro z ⟨n', hl, hz⟩; cases hl; subst hz; exact hK⟩)
def foF0 : FT := [(87, ctBelow)]
theorem foF0ok : FTok Try.prog foF0 := ft_cons belowOk ft_nil
def foD0 : List (Nat × DQ) := [
  (2, { k := 16, L := [0], A := [10, 11, 12], pre := [(0, false), (1, false), (3, false), (4, false), (6, false), (7, false), (8, false), (9, false), (2, true), (5, true)], post := [(13, true), (14, true), (15, true)] }),
  (9, { k := 9, L := [3, 4, 5], pre := [(0, false), (1, false), (2, false), (3, false), (4, true), (5, false), (6, true), (7, false), (8, true)] }),
  (11, { k := 15, L := [3, 4, 8, 9, 6], pre := [(0, false), (1, false), (2, false), (3, false), (4, false), (5, false), (6, true), (7, false), (8, true), (9, false), (10, true), (11, false), (12, true), (13, false), (14, true)] }),
  (13, { k := 6, L := [3, 8], pre := [(0, false), (1, false), (2, false), (3, true), (4, false), (5, true)] }),
  (15, { k := 6, L := [3, 5], pre := [(0, false), (1, false), (2, false), (3, true), (4, false), (5, true)] }),
  (18, { k := 6, L := [3, 4], pre := [(0, false), (1, false), (2, false), (3, true), (4, false), (5, true)] }),
  (22, { k := 6, L := [3, 7], pre := [(0, false), (1, false), (2, false), (3, true), (4, false), (5, true)] }),
  (27, { k := 6, L := [4, 6], pre := [(0, false), (1, false), (2, false), (3, true), (4, false), (5, true)] }),
  (31, { k := 8, L := [0, 7], pre := [(0, false), (1, false), (3, false), (2, true), (4, false), (5, true), (6, false), (7, true)] })]
set_option maxRecDepth 100000 in
set_option maxHeartbeats 4000000 in
theorem formOf_sx (k nt nc nr nv : Int) (h0 : 0 ≤ nt ∧ nt ≤ 100) (h1 : 0 ≤ nc ∧ nc ≤ 100) (h2 : 0 ≤ nr ∧ nr ≤ 100) (h3 : 0 ≤ nv ∧ nv ≤ 100) :
    sx ttE foF0 foD0 (bodyOf Try.f82) (argF 0 [.int .i64 k, .agg #[.int .i64 nt, .int .i64 nc, .int .i64 nr, .int .i64 nv]]) [] 0 (endx ttE Try.f82.results.toList fun v _ _ => v = .tuple #[.agg (formC nt nc nr nv k), .bool (inR k 1 16)]) := by
  refine ⟨nt, rfl, trivial, ⟨by omega, by omega⟩, ?_⟩
  refine ⟨(by repeat (first | exact trivial | refine ⟨rfl, ?_⟩)), ?_⟩
  refine ⟨nc, rfl, trivial, ⟨by omega, by omega⟩, ?_⟩
  refine ⟨(by repeat (first | exact trivial | refine ⟨rfl, ?_⟩)), ?_⟩
  refine ⟨(by repeat (first | exact trivial | refine ⟨rfl, ?_⟩)), ?_⟩
  refine ⟨(by repeat (first | exact trivial | refine ⟨rfl, ?_⟩)), ?_⟩
  refine ⟨(by repeat (first | exact trivial | refine ⟨rfl, ?_⟩)), ?_⟩
  rw [wrapi (n := nc - 1) (by omega)]
  refine ⟨nv, rfl, trivial, ⟨by omega, by omega⟩, ?_⟩
  refine ⟨fun hk1 => ?_, fun nk1 => ?_⟩
  · refine ⟨(by repeat (first | exact trivial | refine ⟨rfl, ?_⟩)), ?_⟩
    refine ⟨(by repeat (first | exact trivial | refine ⟨rfl, ?_⟩)), ?_⟩
    refine ⟨(by repeat (first | exact trivial | refine ⟨rfl, ?_⟩)), ?_⟩
    obtain rfl : k = 1 := by simpa using hk1
    exact rfl
  · refine ⟨fun hk2 => ?_, fun nk2 => ?_⟩
    · refine ⟨(by repeat (first | exact trivial | refine ⟨rfl, ?_⟩)), ?_⟩
      refine ⟨(by repeat (first | exact trivial | refine ⟨rfl, ?_⟩)), ?_⟩
      refine ⟨(by repeat (first | exact trivial | refine ⟨rfl, ?_⟩)), ?_⟩
      refine ⟨(by repeat (first | exact trivial | refine ⟨rfl, ?_⟩)), ?_⟩
      refine ⟨(by repeat (first | exact trivial | refine ⟨rfl, ?_⟩)), ?_⟩
      obtain rfl : k = 2 := by simpa using hk2
      exact rfl
    · refine ⟨fun hk3 => ?_, fun nk3 => ?_⟩
      · refine ⟨(by repeat (first | exact trivial | refine ⟨rfl, ?_⟩)), ?_⟩
        refine ⟨(by repeat (first | exact trivial | refine ⟨rfl, ?_⟩)), ?_⟩
        obtain rfl : k = 3 := by simpa using hk3
        exact rfl
      · refine ⟨fun hk4 => ?_, fun nk4 => ?_⟩
        · refine ⟨(by repeat (first | exact trivial | refine ⟨rfl, ?_⟩)), ?_⟩
          refine ⟨(by repeat (first | exact trivial | refine ⟨rfl, ?_⟩)), ?_⟩
          obtain rfl : k = 4 := by simpa using hk4
          exact rfl
        · refine ⟨fun hk5 => ?_, fun nk5 => ?_⟩
          · refine ⟨fun _ => ?_, fun h => nomatch h⟩
            refine ⟨(by repeat (first | exact trivial | refine ⟨rfl, ?_⟩)), ?_⟩
            refine ⟨(by repeat (first | exact trivial | refine ⟨rfl, ?_⟩)), ?_⟩
            obtain rfl : k = 5 := by simpa using hk5
            exact rfl
          · refine ⟨fun hk6 => ?_, fun nk6 => ?_⟩
            · refine ⟨(by repeat (first | exact trivial | refine ⟨rfl, ?_⟩)), ?_⟩
              refine ⟨(by repeat (first | exact trivial | refine ⟨rfl, ?_⟩)), ?_⟩
              obtain rfl : k = 6 := by simpa using hk6
              exact rfl
            · refine ⟨fun hk7 => ?_, fun nk7 => ?_⟩
              · obtain rfl : k = 7 := by simpa using hk7
                exact rfl
              · refine ⟨fun hk8 => ?_, fun nk8 => ?_⟩
                · refine ⟨(by repeat (first | exact trivial | refine ⟨rfl, ?_⟩)), ?_⟩
                  refine ⟨(by repeat (first | exact trivial | refine ⟨rfl, ?_⟩)), ?_⟩
                  obtain rfl : k = 8 := by simpa using hk8
                  exact rfl
                · refine ⟨fun hk9 => ?_, fun nk9 => ?_⟩
                  · obtain rfl : k = 9 := by simpa using hk9
                    exact rfl
                  · refine ⟨fun hk10 => ?_, fun nk10 => ?_⟩
                    · refine ⟨fun _ => ?_, fun h => nomatch h⟩
                      refine ⟨(by repeat (first | exact trivial | refine ⟨rfl, ?_⟩)), ?_⟩
                      refine ⟨(by repeat (first | exact trivial | refine ⟨rfl, ?_⟩)), ?_⟩
                      obtain rfl : k = 10 := by simpa using hk10
                      exact rfl
                    · refine ⟨fun hk11 => ?_, fun nk11 => ?_⟩
                      · refine ⟨(by repeat (first | exact trivial | refine ⟨rfl, ?_⟩)), ?_⟩
                        refine ⟨(by repeat (first | exact trivial | refine ⟨rfl, ?_⟩)), ?_⟩
                        obtain rfl : k = 11 := by simpa using hk11
                        exact rfl
                      · refine ⟨fun hk12 => ?_, fun nk12 => ?_⟩
                        · obtain rfl : k = 12 := by simpa using hk12
                          exact rfl
                        · refine ⟨fun hk13 => ?_, fun nk13 => ?_⟩
                          · refine ⟨nr, rfl, trivial, ⟨by omega, by omega⟩, ?_⟩
                            refine ⟨(by repeat (first | exact trivial | refine ⟨rfl, ?_⟩)), ?_⟩
                            refine ⟨(by repeat (first | exact trivial | refine ⟨rfl, ?_⟩)), ?_⟩
                            refine ⟨(by repeat (first | exact trivial | refine ⟨rfl, ?_⟩)), ?_⟩
                            obtain rfl : k = 13 := by simpa using hk13
                            exact rfl
                          · refine ⟨fun hk14 => ?_, fun nk14 => ?_⟩
                            · refine ⟨fun _ => ?_, fun h => nomatch h⟩
                              obtain rfl : k = 14 := by simpa using hk14
                              exact rfl
                            · refine ⟨fun hk15 => ?_, fun nk15 => ?_⟩
                              · obtain rfl : k = 15 := by simpa using hk15
                                exact rfl
                              · refine ⟨fun hk16 => ?_, fun nk16 => ?_⟩
                                · obtain rfl : k = 16 := by simpa using hk16
                                  exact rfl
                                · simp only [beq_eq_false_iff_ne, ne_eq] at nk1 nk2 nk3 nk4 nk5 nk6 nk7 nk8 nk9 nk10 nk11 nk12 nk13 nk14 nk15 nk16
                                  have hno : inR k 1 16 = false := by
                                    unfold inR
                                    rw [Bool.and_eq_false_iff, decide_eq_false_iff_not, decide_eq_false_iff_not]
                                    omega
                                  unfold formC
                                  rw [if_neg (by rw [hno]; decide), hno]
                                  exact rfl
theorem entFormOf_any (k nt nc nr nv : Int) (w : World) (h0 : 0 ≤ nt ∧ nt ≤ 100) (h1 : 0 ≤ nc ∧ nc ≤ 100) (h2 : 0 ≤ nr ∧ nr ≤ 100) (h3 : 0 ≤ nv ∧ nv ≤ 100) :
    Calls Try.prog 82 #[.int .i64 k, .agg #[.int .i64 nt, .int .i64 nc, .int .i64 nr, .int .i64 nv]] w fun e w' => e = .returned (.tuple #[.agg (formC nt nc nr nv k), .bool (inR k 1 16)]) ∧ Below w.heap.size w w' := by
  refine (val_calls (τ := ttE) ttEok foF0ok Try.func82 rfl (D := foD0) (by kernel_rfl) (vs := [.int .i64 k, .agg #[.int .i64 nt, .int .i64 nc, .int .i64 nr, .int .i64 nv]]) rfl w (fun v hv => by
    simp at hv
    rcases hv with rfl | rfl
    · trivial
    · intro u hu
      simp at hu
      rcases hu with rfl | rfl | rfl | rfl <;> trivial) (R := fun v => v = .tuple #[.agg (formC nt nc nr nv k), .bool (inR k 1 16)]) (formOf_sx k nt nc nr nv h0 h1 h2 h3)).mono ?_
  rintro e w' ⟨v, rfl, ⟨ρ, rfl⟩, hb⟩
  refine ⟨?_, hb⟩
  unfold formC
  split <;> simp [den, den2, den1]
end Go.Proofs.Ytjobcfpnmfjlfaa

namespace Go.Proofs.Ytjobcfpnmfjlfaa
open Go.RowKit
set_option linter.unusedSimpArgs false
set_option linter.unusedVariables false

set_option maxHeartbeats 4000000 in
set_option maxRecDepth 100000 in
theorem entFits_any (e : Ent) (nt nc nr nv : Int) (w : World) (h0 : 0 ≤ nt ∧ nt ≤ 100) (h1 : 0 ≤ nc ∧ nc ≤ 100) (h2 : 0 ≤ nr ∧ nr ≤ 100) (h3 : 0 ≤ nv ∧ nv ≤ 100) :
    Calls Try.prog 68 #[.agg (entC e).toArray, .agg #[.int .i64 nt, .int .i64 nc, .int .i64 nr, .int .i64 nv]] w fun r w' => r = .returned (.bool (entOk nt nc nr nv e)) ∧ Below w.heap.size w w' := by
  obtain ⟨kind, tick, tenant, cell, other, epoch, since, till, n⟩ := e
  unfold entC
  simp only
  have hL : Below w.heap.size w ((w.alloc (.cells #[.int .i64 kind, .int .i64 tick, .int .i64 tenant, .int .i64 cell, .int .i64 other, .int .i64 epoch, .int .i64 since, .int .i64 till, .int .i64 n] 45)).alloc (.cells #[.int .i64 nt, .int .i64 nc, .int .i64 nr, .int .i64 nv] 100)) := ((Below.refl _ _).alloc (Nat.le_refl _) _).alloc (by simp) _
  have hBe : Blk ((w.alloc (.cells #[.int .i64 kind, .int .i64 tick, .int .i64 tenant, .int .i64 cell, .int .i64 other, .int .i64 epoch, .int .i64 since, .int .i64 till, .int .i64 n] 45)).alloc (.cells #[.int .i64 nt, .int .i64 nc, .int .i64 nr, .int .i64 nv] 100)) w.heap.size 45 #[.int .i64 kind, .int .i64 tick, .int .i64 tenant, .int .i64 cell, .int .i64 other, .int .i64 epoch, .int .i64 since, .int .i64 till, .int .i64 n] := (Blk.new _ _ _).alloc _
  have hBb : Blk ((w.alloc (.cells #[.int .i64 kind, .int .i64 tick, .int .i64 tenant, .int .i64 cell, .int .i64 other, .int .i64 epoch, .int .i64 since, .int .i64 till, .int .i64 n] 45)).alloc (.cells #[.int .i64 nt, .int .i64 nc, .int .i64 nr, .int .i64 nv] 100)) (w.heap.size + 1) 100 #[.int .i64 nt, .int .i64 nc, .int .i64 nr, .int .i64 nv] := by
    have := Blk.new (w.alloc (.cells #[.int .i64 kind, .int .i64 tick, .int .i64 tenant, .int .i64 cell, .int .i64 other, .int .i64 epoch, .int .i64 since, .int .i64 till, .int .i64 n] 45)) 100 #[.int .i64 nt, .int .i64 nc, .int .i64 nr, .int .i64 nv]
    simpa using this
  go_enter Try.func68, Try.ntmps68
  go_upto_region 1 with fail
  generalize (w.alloc _).alloc _ = W at *
  have v0 := hBe.cell' (i := 0) (v := .int .i64 kind) rfl
  have v1 := hBe.cell' (i := 1) (v := .int .i64 tick) rfl
  have v2 := hBe.cell' (i := 2) (v := .int .i64 tenant) rfl
  have v3 := hBe.cell' (i := 3) (v := .int .i64 cell) rfl
  have v4 := hBe.cell' (i := 4) (v := .int .i64 other) rfl
  have v5 := hBe.cell' (i := 5) (v := .int .i64 epoch) rfl
  have v6 := hBe.cell' (i := 6) (v := .int .i64 since) rfl
  have v7 := hBe.cell' (i := 7) (v := .int .i64 till) rfl
  have v8 := hBe.cell' (i := 8) (v := .int .i64 n) rfl
  have q0 := hBb.cell' (i := 0) (v := .int .i64 nt) rfl
  have q1 := hBb.cell' (i := 1) (v := .int .i64 nc) rfl
  have q2 := hBb.cell' (i := 2) (v := .int .i64 nr) rfl
  have q3 := hBb.cell' (i := 3) (v := .int .i64 nv) rfl
  have hge := hBe.lt
  have hgb := hBb.lt
  have HBe := Lib.hid hBe
  have HL := Lib.hid hL
  clear hBe hBb hL
  go_wp2_with fail
  refine (entFormOf_any kind nt nc nr nv W h0 h1 h2 h3).mono ?_
  rintro r wy ⟨rfl, hby⟩
  by_cases hk : inR kind 1 16 = true
  · have HR : Hid (entOk nt nc nr nv ⟨kind, tick, tenant, cell, other, epoch, since, till, n⟩ = (inR tick 0 1073741824 && inR tenant (fT nt kind).1 (fT nt kind).2 && inR cell (fC nc kind).1 (fC nc kind).2 && inR other (fO nc nr kind).1 (fO nc nr kind).2 && inR epoch (fE kind).1 (fE kind).2 && inR since (fW kind).1 (fW kind).2 && inR till (fW kind).1 (fW kind).2 && inR n (fN nv kind).1 (fN nv kind).2 && (decide (kind ≠ 1) || decide (other ≠ cell)))) := Lib.hid (by simp [entOk, inS, hk])
    have hfo : formC nt nc nr nv kind = #[.int .i64 (fT nt kind).1, .int .i64 (fT nt kind).2, .int .i64 (fC nc kind).1, .int .i64 (fC nc kind).2, .int .i64 (fO nc nr kind).1, .int .i64 (fO nc nr kind).2, .int .i64 (fE kind).1, .int .i64 (fE kind).2, .int .i64 (fW kind).1, .int .i64 (fW kind).2, .int .i64 (fN nv kind).1, .int .i64 (fN nv kind).2] := if_pos hk
    rw [hfo, hk]
    clear hfo hk h0 h1 h2 h3
    have hBf := Blk.new wy 112 #[.int .i64 (fT nt kind).1, .int .i64 (fT nt kind).2, .int .i64 (fC nc kind).1, .int .i64 (fC nc kind).2, .int .i64 (fO nc nr kind).1, .int .i64 (fO nc nr kind).2, .int .i64 (fE kind).1, .int .i64 (fE kind).2, .int .i64 (fW kind).1, .int .i64 (fW kind).2, .int .i64 (fN nv kind).1, .int .i64 (fN nv kind).2]
    have hL2 := (Below.refl wy.heap.size wy).alloc (Nat.le_refl _) (.cells #[.int .i64 (fT nt kind).1, .int .i64 (fT nt kind).2, .int .i64 (fC nc kind).1, .int .i64 (fC nc kind).2, .int .i64 (fO nc nr kind).1, .int .i64 (fO nc nr kind).2, .int .i64 (fE kind).1, .int .i64 (fE kind).2, .int .i64 (fW kind).1, .int .i64 (fW kind).2, .int .i64 (fN nv kind).1, .int .i64 (fN nv kind).2] 112)
    have hBe2 := (HBe.out.below hby HBe.out.lt).below hL2 ((HBe.out.below hby HBe.out.lt).lt)
    have hLL := (HL.out.trans (hby.mono HL.out.size)).trans (hL2.mono (HL.out.trans (hby.mono HL.out.size)).size)
    clear v0 v1 v2 v3 v4 v5 v6 v7 v8 q0 q1 q2 q3 hge hgb HBe HL hby
    go_upto_region 2 with fail
    generalize wy.alloc _ = W2 at *
    clear hL2
    have v0 := hBe2.cell' (i := 0) (v := .int .i64 kind) rfl
    have v1 := hBe2.cell' (i := 1) (v := .int .i64 tick) rfl
    have v2 := hBe2.cell' (i := 2) (v := .int .i64 tenant) rfl
    have v3 := hBe2.cell' (i := 3) (v := .int .i64 cell) rfl
    have v4 := hBe2.cell' (i := 4) (v := .int .i64 other) rfl
    have v5 := hBe2.cell' (i := 5) (v := .int .i64 epoch) rfl
    have v6 := hBe2.cell' (i := 6) (v := .int .i64 since) rfl
    have v7 := hBe2.cell' (i := 7) (v := .int .i64 till) rfl
    have v8 := hBe2.cell' (i := 8) (v := .int .i64 n) rfl
    have p0 := hBf.cell' (i := 0) (v := .int .i64 (fT nt kind).1) rfl
    have p1 := hBf.cell' (i := 1) (v := .int .i64 (fT nt kind).2) rfl
    have p2 := hBf.cell' (i := 2) (v := .int .i64 (fC nc kind).1) rfl
    have p3 := hBf.cell' (i := 3) (v := .int .i64 (fC nc kind).2) rfl
    have p4 := hBf.cell' (i := 4) (v := .int .i64 (fO nc nr kind).1) rfl
    have p5 := hBf.cell' (i := 5) (v := .int .i64 (fO nc nr kind).2) rfl
    have p6 := hBf.cell' (i := 6) (v := .int .i64 (fE kind).1) rfl
    have p7 := hBf.cell' (i := 7) (v := .int .i64 (fE kind).2) rfl
    have p8 := hBf.cell' (i := 8) (v := .int .i64 (fW kind).1) rfl
    have p9 := hBf.cell' (i := 9) (v := .int .i64 (fW kind).2) rfl
    have p10 := hBf.cell' (i := 10) (v := .int .i64 (fN nv kind).1) rfl
    have p11 := hBf.cell' (i := 11) (v := .int .i64 (fN nv kind).2) rfl
    have hge := hBe2.lt
    have hgf := hBf.lt
    have HL := Lib.hid hLL
    clear hBe2 hBf hLL
    generalize wy.heap.size = gf at *
    have hx : ∀ (y : Later W2.heap.size W2) b o, b < W2.heap.size → y.world.cell? ⟨b, o, none⟩ = W2.cell? ⟨b, o, none⟩ := fun y b o h => y.cell h
    refine start_later W2.heap.size ?_
    intro y0
    have HT : Hid (inR tick 0 1073741824 = (decide (0 ≤ tick) && decide (tick ≤ 1073741824))) := Lib.hid rfl
    generalize fT nt kind = f1 at *
    generalize fC nc kind = f2 at *
    generalize fO nc nr kind = f3 at *
    generalize fE kind = f4 at *
    generalize fW kind = f5 at *
    generalize fN nv kind = f6 at *
    go_wp2_with (go_at_call 83; (with_reducible refine (entHas_any _ _ _ _).mono ?_); rintro r wq ⟨rfl, hbq⟩; obtain ⟨yq, rfl⟩ := later_next _ (Nat.le_refl _) hbq; clear hbq)
    all_goals
      go_ret
      refine ⟨ret_bool ?_, (by first | exact HL.out | exact HL.out.trans ((Later.below _).mono HL.out.size))⟩
      go_light
      first | rw [HR.out, HT.out] | (obtain rfl : kind = 1 := (by clear HR HL HT; simp_all); rw [HR.out, HT.out])
      clear HR HL HT
      simp_all
      try omega
  · have hk : inR kind 1 16 = false := by simpa using hk
    have HR : Hid (entOk nt nc nr nv ⟨kind, tick, tenant, cell, other, epoch, since, till, n⟩ = false) := Lib.hid (by simp [entOk, hk])
    have hfo : formC nt nc nr nv kind = #[.int .i64 0, .int .i64 0, .int .i64 0, .int .i64 0, .int .i64 0, .int .i64 0, .int .i64 0, .int .i64 0, .int .i64 0, .int .i64 0, .int .i64 0, .int .i64 0] := if_neg (by simp [hk])
    have hLL := HL.out.trans (hby.mono HL.out.size)
    have HLL := Lib.hid (hLL.alloc hLL.size (.cells #[.int .i64 0, .int .i64 0, .int .i64 0, .int .i64 0, .int .i64 0, .int .i64 0, .int .i64 0, .int .i64 0, .int .i64 0, .int .i64 0, .int .i64 0, .int .i64 0] 112))
    rw [hfo, hk]
    clear hfo hk h0 h1 h2 h3 hby hLL v0 v1 v2 v3 v4 v5 v6 v7 v8 q0 q1 q2 q3 hge hgb HBe
    go_wp2
    go_ret
    exact ⟨ret_bool HR.out.symm, HLL.out⟩

theorem shape_of {c : Cfg} {e : Ent} (hV : CfgV c) (h : entV c e = true) : entOk 32 16 4 30 e = true := by
  have hk := ent_kind h
  obtain ⟨hti, hT, hC, hO, hE, hS, hU, hN, hne⟩ := ent_rng h
  have h1 := hV.nt
  have h2 := hV.nc
  have h3 := hV.reg
  have h4 := hV.nv
  obtain ⟨kind, tick, tenant, cell, other, epoch, since, till, n⟩ := e
  simp only at *
  clear h hV
  rcases hk with rfl | rfl | rfl | rfl | rfl | rfl | rfl | rfl | rfl | rfl | rfl | rfl | rfl | rfl | rfl | rfl
  all_goals
    simp [inS, inR, fT, fC, fO, fE, fW, fN] at hT hC hO hE hS hU hN hne
    simp [entOk, inS, inR, fT, fC, fO, fE, fW, fN]
    try omega

set_option maxHeartbeats 2000000 in
theorem entShape_any (e : Ent) (w : World) : Calls Try.prog 67 #[.agg (entC e).toArray] w fun r w' => r = .returned (.bool (entOk 32 16 4 30 e)) ∧ Below w.heap.size w w' := by
  have HF := Lib.hid (fun W => entFits_any e 32 16 4 30 W (by omega) (by omega) (by omega) (by omega))
  obtain ⟨kind, tick, tenant, cell, other, epoch, since, till, n⟩ := e
  unfold entC at *
  simp only at *
  have hbx := Blk.new w 45 #[.int .i64 kind, .int .i64 tick, .int .i64 tenant, .int .i64 cell, .int .i64 other, .int .i64 epoch, .int .i64 since, .int .i64 till, .int .i64 n]
  have hbel := (Below.refl w.heap.size w).alloc (Nat.le_refl _) (.cells #[.int .i64 kind, .int .i64 tick, .int .i64 tenant, .int .i64 cell, .int .i64 other, .int .i64 epoch, .int .i64 since, .int .i64 till, .int .i64 n] 45)
  have c0 := hbx.cell' (i := 0) (v := .int .i64 kind) rfl
  have c1 := hbx.cell' (i := 1) (v := .int .i64 tick) rfl
  have c2 := hbx.cell' (i := 2) (v := .int .i64 tenant) rfl
  have c3 := hbx.cell' (i := 3) (v := .int .i64 cell) rfl
  have c4 := hbx.cell' (i := 4) (v := .int .i64 other) rfl
  have c5 := hbx.cell' (i := 5) (v := .int .i64 epoch) rfl
  have c6 := hbx.cell' (i := 6) (v := .int .i64 since) rfl
  have c7 := hbx.cell' (i := 7) (v := .int .i64 till) rfl
  have c8 := hbx.cell' (i := 8) (v := .int .i64 n) rfl
  go_enter Try.func67, Try.ntmps67
  go_wp2_with fail
  refine (HF.out _).mono ?_
  rintro x w1 ⟨rfl, hb1⟩
  replace hbel := hbel.trans (hb1.mono hbel.size)
  clear hbx c0 c1 c2 c3 c4 c5 c6 c7 c8 hb1 HF
  go_wp2
  go_ret
  exact ⟨rfl, hbel⟩

set_option maxHeartbeats 2000000 in
theorem entValid_any (x : CfgA) (c : Cfg) (e : Ent) (w : World) (hV : CfgV c) :
    Calls Try.prog 43 #[.agg (cfgC x c), .agg (entC e).toArray] w fun r w' => r = .returned (.bool (entV c e)) ∧ Below w.heap.size w w' := by
  have hSh := shape_of (e := e) hV
  have h1 := hV.nt
  have h2 := hV.nc
  have h3 := hV.reg
  have h4 := hV.nv
  have HF := Lib.hid (fun W => entFits_any e c.tenants.length c.cells.length c.regions c.versions.length W (by omega) (by omega) (by omega) (by omega))
  have HS := Lib.hid (fun W => entShape_any e W)
  have HE : Hid (entOk (c.tenants.length : Int) c.cells.length c.regions c.versions.length e = entV c e) := Lib.hid rfl
  obtain ⟨az, cz, ac, cc, at_, ct, av, cv, ar, cr, ao, co⟩ := x
  obtain ⟨kind, tick, tenant, cell, other, epoch, since, till, n⟩ := e
  have HSh := Lib.hid hSh
  clear hSh hV
  unfold entC at HF HS
  simp only at HF HS
  have hL : Below w.heap.size w ((w.alloc (.cells #[.int .i64 c.regions, .slice az c.zones.length cz, .slice ac c.cells.length cc, .slice at_ c.tenants.length ct, .slice av c.versions.length cv, .slice ar c.replicas.length cr, .slice ao c.observers.length co, .int .i64 c.blast, .int .i64 c.lease, .int .i64 c.bake] 30)).alloc (.cells #[.int .i64 kind, .int .i64 tick, .int .i64 tenant, .int .i64 cell, .int .i64 other, .int .i64 epoch, .int .i64 since, .int .i64 till, .int .i64 n] 45)) := (((Below.refl w.heap.size w).alloc (by simp <;> omega) (.cells #[.int .i64 c.regions, .slice az c.zones.length cz, .slice ac c.cells.length cc, .slice at_ c.tenants.length ct, .slice av c.versions.length cv, .slice ar c.replicas.length cr, .slice ao c.observers.length co, .int .i64 c.blast, .int .i64 c.lease, .int .i64 c.bake] 30)).alloc (by simp <;> omega) (.cells #[.int .i64 kind, .int .i64 tick, .int .i64 tenant, .int .i64 cell, .int .i64 other, .int .i64 epoch, .int .i64 since, .int .i64 till, .int .i64 n] 45))
  have hBc : Blk ((w.alloc (.cells #[.int .i64 c.regions, .slice az c.zones.length cz, .slice ac c.cells.length cc, .slice at_ c.tenants.length ct, .slice av c.versions.length cv, .slice ar c.replicas.length cr, .slice ao c.observers.length co, .int .i64 c.blast, .int .i64 c.lease, .int .i64 c.bake] 30)).alloc (.cells #[.int .i64 kind, .int .i64 tick, .int .i64 tenant, .int .i64 cell, .int .i64 other, .int .i64 epoch, .int .i64 since, .int .i64 till, .int .i64 n] 45)) (w.heap.size) 30 #[.int .i64 c.regions, .slice az c.zones.length cz, .slice ac c.cells.length cc, .slice at_ c.tenants.length ct, .slice av c.versions.length cv, .slice ar c.replicas.length cr, .slice ao c.observers.length co, .int .i64 c.blast, .int .i64 c.lease, .int .i64 c.bake] := by
    have := ((Blk.new w 30 #[.int .i64 c.regions, .slice az c.zones.length cz, .slice ac c.cells.length cc, .slice at_ c.tenants.length ct, .slice av c.versions.length cv, .slice ar c.replicas.length cr, .slice ao c.observers.length co, .int .i64 c.blast, .int .i64 c.lease, .int .i64 c.bake]).alloc (.cells #[.int .i64 kind, .int .i64 tick, .int .i64 tenant, .int .i64 cell, .int .i64 other, .int .i64 epoch, .int .i64 since, .int .i64 till, .int .i64 n] 45))
    simpa using this
  have hBe : Blk ((w.alloc (.cells #[.int .i64 c.regions, .slice az c.zones.length cz, .slice ac c.cells.length cc, .slice at_ c.tenants.length ct, .slice av c.versions.length cv, .slice ar c.replicas.length cr, .slice ao c.observers.length co, .int .i64 c.blast, .int .i64 c.lease, .int .i64 c.bake] 30)).alloc (.cells #[.int .i64 kind, .int .i64 tick, .int .i64 tenant, .int .i64 cell, .int .i64 other, .int .i64 epoch, .int .i64 since, .int .i64 till, .int .i64 n] 45)) (w.heap.size + 1) 45 #[.int .i64 kind, .int .i64 tick, .int .i64 tenant, .int .i64 cell, .int .i64 other, .int .i64 epoch, .int .i64 since, .int .i64 till, .int .i64 n] := by
    have := (Blk.new (w.alloc (.cells #[.int .i64 c.regions, .slice az c.zones.length cz, .slice ac c.cells.length cc, .slice at_ c.tenants.length ct, .slice av c.versions.length cv, .slice ar c.replicas.length cr, .slice ao c.observers.length co, .int .i64 c.blast, .int .i64 c.lease, .int .i64 c.bake] 30)) 45 #[.int .i64 kind, .int .i64 tick, .int .i64 tenant, .int .i64 cell, .int .i64 other, .int .i64 epoch, .int .i64 since, .int .i64 till, .int .i64 n])
    simpa using this
  unfold cfgC entC
  simp only
  go_enter Try.func43, Try.ntmps43
  go_upto_region 1 with fail
  generalize (w.alloc _).alloc _ = W at *
  have hgc := hBc.lt
  have d0 := hBc.cell' (i := 0) (v := .int .i64 c.regions) rfl
  have d1 := hBc.cell' (i := 1) (v := .slice az c.zones.length cz) rfl
  have d2 := hBc.cell' (i := 2) (v := .slice ac c.cells.length cc) rfl
  have d3 := hBc.cell' (i := 3) (v := .slice at_ c.tenants.length ct) rfl
  have d4 := hBc.cell' (i := 4) (v := .slice av c.versions.length cv) rfl
  have d5 := hBc.cell' (i := 5) (v := .slice ar c.replicas.length cr) rfl
  have d6 := hBc.cell' (i := 6) (v := .slice ao c.observers.length co) rfl
  have d7 := hBc.cell' (i := 7) (v := .int .i64 c.blast) rfl
  have d8 := hBc.cell' (i := 8) (v := .int .i64 c.lease) rfl
  have d9 := hBc.cell' (i := 9) (v := .int .i64 c.bake) rfl
  clear hBc
  have hge := hBe.lt
  have v0 := hBe.cell' (i := 0) (v := .int .i64 kind) rfl
  have v1 := hBe.cell' (i := 1) (v := .int .i64 tick) rfl
  have v2 := hBe.cell' (i := 2) (v := .int .i64 tenant) rfl
  have v3 := hBe.cell' (i := 3) (v := .int .i64 cell) rfl
  have v4 := hBe.cell' (i := 4) (v := .int .i64 other) rfl
  have v5 := hBe.cell' (i := 5) (v := .int .i64 epoch) rfl
  have v6 := hBe.cell' (i := 6) (v := .int .i64 since) rfl
  have v7 := hBe.cell' (i := 7) (v := .int .i64 till) rfl
  have v8 := hBe.cell' (i := 8) (v := .int .i64 n) rfl
  clear hBe
  have HL := Lib.hid hL
  clear hL
  have hx : ∀ (y : Later W.heap.size W) b o, b < W.heap.size → y.world.cell? ⟨b, o, none⟩ = W.cell? ⟨b, o, none⟩ := fun y b o h => y.cell h
  refine start_later W.heap.size ?_
  intro y0
  go_wp2_with fail
  refine (HS.out _).mono ?_
  rintro r wq ⟨rfl, hbq⟩
  obtain ⟨yq, rfl⟩ := later_next _ (Nat.le_refl _) hbq
  clear hbq
  by_cases hsh : entOk 32 16 4 30 ⟨kind, tick, tenant, cell, other, epoch, since, till, n⟩ = true
  · rw [hsh]
    go_wp2_with fail
    refine (HF.out _).mono ?_
    rintro r wq ⟨rfl, hbq⟩
    obtain ⟨yr, rfl⟩ := later_next _ (Nat.le_refl _) hbq
    clear hbq
    go_wp2
    go_ret
    exact ⟨ret_bool HE.out, HL.out.trans (yr.below.mono HL.out.size)⟩
  · have hsh2 : entOk 32 16 4 30 ⟨kind, tick, tenant, cell, other, epoch, since, till, n⟩ = false := by simpa using hsh
    have HN : Hid (entV c ⟨kind, tick, tenant, cell, other, epoch, since, till, n⟩ = false) := Lib.hid (by rw [Bool.eq_false_iff]; exact fun h => hsh (HSh.out h))
    rw [hsh2]
    clear hsh hsh2
    go_wp2
    go_ret
    exact ⟨ret_bool HN.out.symm, HL.out.trans (yq.below.mono HL.out.size)⟩
end Go.Proofs.Ytjobcfpnmfjlfaa

namespace Go.Proofs.Ytjobcfpnmfjlfaa
open Go.RowKit
set_option linter.unusedSimpArgs false
set_option linter.unusedVariables false

set_option maxHeartbeats 16000000 in
set_option maxRecDepth 100000 in
theorem stRefused_any (x : CfgA) (c : Cfg) (y : StA) (s : St) (e : Ent) (w : World) (hV : CfgV c) (hc : CfgOk w (· < w.heap.size) x c) (hI : StInv c s) (hs : StOk w (· < w.heap.size) y s) :
    Calls Try.prog 28 #[.agg (cfgC x c), .agg (stC y s), .agg (entC e).toArray] w fun r w' => r = .returned (.int .i64 (refusedE c s e)) ∧ Below w.heap.size w w' := by
  have hnc := hV.nc
  have hntt := hV.nt
  obtain ⟨az, cz, ac, cc, at_, ct, av, cv, ar, cr, ao, co⟩ := x
  have HV := Lib.hid hV
  have HKc := Lib.hid hc
  clear hV hc
  obtain ⟨sat, sct, sac, scc⟩ := y
  have HKs := Lib.hid hs
  have hsl : 1 ≤ s.cells.length ∧ s.cells.length ≤ 16 := by have := hI.lc; omega
  have hst : s.tenants.length ≤ 32 := by have := hI.lt; omega
  have HI := Lib.hid hI
  clear hs hI
  obtain ⟨kind, tick, tenant, cell, other, epoch, since, till, n⟩ := e
  try simp only at *
  have HVA := Lib.hid (fun W => entValid_any ⟨az, cz, ac, cc, at_, ct, av, cv, ar, cr, ao, co⟩ c ⟨kind, tick, tenant, cell, other, epoch, since, till, n⟩ W HV.out)
  unfold cfgC entC at HVA
  simp only at HVA
  have hL : Below w.heap.size w (((w.alloc (.cells #[.int .i64 c.regions, .slice az c.zones.length cz, .slice ac c.cells.length cc, .slice at_ c.tenants.length ct, .slice av c.versions.length cv, .slice ar c.replicas.length cr, .slice ao c.observers.length co, .int .i64 c.blast, .int .i64 c.lease, .int .i64 c.bake] 30)).alloc (.cells #[.int .i64 s.tick, .int .i64 s.count, .slice sat s.tenants.length sct, .slice sac s.cells.length scc, .int .i64 s.proven, .int .i64 s.evac, .int .i64 s.low, .int .i64 s.high] 36)).alloc (.cells #[.int .i64 kind, .int .i64 tick, .int .i64 tenant, .int .i64 cell, .int .i64 other, .int .i64 epoch, .int .i64 since, .int .i64 till, .int .i64 n] 45)) := ((((Below.refl w.heap.size w).alloc (by simp <;> omega) (.cells #[.int .i64 c.regions, .slice az c.zones.length cz, .slice ac c.cells.length cc, .slice at_ c.tenants.length ct, .slice av c.versions.length cv, .slice ar c.replicas.length cr, .slice ao c.observers.length co, .int .i64 c.blast, .int .i64 c.lease, .int .i64 c.bake] 30)).alloc (by simp <;> omega) (.cells #[.int .i64 s.tick, .int .i64 s.count, .slice sat s.tenants.length sct, .slice sac s.cells.length scc, .int .i64 s.proven, .int .i64 s.evac, .int .i64 s.low, .int .i64 s.high] 36)).alloc (by simp <;> omega) (.cells #[.int .i64 kind, .int .i64 tick, .int .i64 tenant, .int .i64 cell, .int .i64 other, .int .i64 epoch, .int .i64 since, .int .i64 till, .int .i64 n] 45))
  have hBc : Blk (((w.alloc (.cells #[.int .i64 c.regions, .slice az c.zones.length cz, .slice ac c.cells.length cc, .slice at_ c.tenants.length ct, .slice av c.versions.length cv, .slice ar c.replicas.length cr, .slice ao c.observers.length co, .int .i64 c.blast, .int .i64 c.lease, .int .i64 c.bake] 30)).alloc (.cells #[.int .i64 s.tick, .int .i64 s.count, .slice sat s.tenants.length sct, .slice sac s.cells.length scc, .int .i64 s.proven, .int .i64 s.evac, .int .i64 s.low, .int .i64 s.high] 36)).alloc (.cells #[.int .i64 kind, .int .i64 tick, .int .i64 tenant, .int .i64 cell, .int .i64 other, .int .i64 epoch, .int .i64 since, .int .i64 till, .int .i64 n] 45)) (w.heap.size) 30 #[.int .i64 c.regions, .slice az c.zones.length cz, .slice ac c.cells.length cc, .slice at_ c.tenants.length ct, .slice av c.versions.length cv, .slice ar c.replicas.length cr, .slice ao c.observers.length co, .int .i64 c.blast, .int .i64 c.lease, .int .i64 c.bake] := by
    have := (((Blk.new w 30 #[.int .i64 c.regions, .slice az c.zones.length cz, .slice ac c.cells.length cc, .slice at_ c.tenants.length ct, .slice av c.versions.length cv, .slice ar c.replicas.length cr, .slice ao c.observers.length co, .int .i64 c.blast, .int .i64 c.lease, .int .i64 c.bake]).alloc (.cells #[.int .i64 s.tick, .int .i64 s.count, .slice sat s.tenants.length sct, .slice sac s.cells.length scc, .int .i64 s.proven, .int .i64 s.evac, .int .i64 s.low, .int .i64 s.high] 36)).alloc (.cells #[.int .i64 kind, .int .i64 tick, .int .i64 tenant, .int .i64 cell, .int .i64 other, .int .i64 epoch, .int .i64 since, .int .i64 till, .int .i64 n] 45))
    simpa using this
  have hBs : Blk (((w.alloc (.cells #[.int .i64 c.regions, .slice az c.zones.length cz, .slice ac c.cells.length cc, .slice at_ c.tenants.length ct, .slice av c.versions.length cv, .slice ar c.replicas.length cr, .slice ao c.observers.length co, .int .i64 c.blast, .int .i64 c.lease, .int .i64 c.bake] 30)).alloc (.cells #[.int .i64 s.tick, .int .i64 s.count, .slice sat s.tenants.length sct, .slice sac s.cells.length scc, .int .i64 s.proven, .int .i64 s.evac, .int .i64 s.low, .int .i64 s.high] 36)).alloc (.cells #[.int .i64 kind, .int .i64 tick, .int .i64 tenant, .int .i64 cell, .int .i64 other, .int .i64 epoch, .int .i64 since, .int .i64 till, .int .i64 n] 45)) (w.heap.size + 1) 36 #[.int .i64 s.tick, .int .i64 s.count, .slice sat s.tenants.length sct, .slice sac s.cells.length scc, .int .i64 s.proven, .int .i64 s.evac, .int .i64 s.low, .int .i64 s.high] := by
    have := ((Blk.new (w.alloc (.cells #[.int .i64 c.regions, .slice az c.zones.length cz, .slice ac c.cells.length cc, .slice at_ c.tenants.length ct, .slice av c.versions.length cv, .slice ar c.replicas.length cr, .slice ao c.observers.length co, .int .i64 c.blast, .int .i64 c.lease, .int .i64 c.bake] 30)) 36 #[.int .i64 s.tick, .int .i64 s.count, .slice sat s.tenants.length sct, .slice sac s.cells.length scc, .int .i64 s.proven, .int .i64 s.evac, .int .i64 s.low, .int .i64 s.high]).alloc (.cells #[.int .i64 kind, .int .i64 tick, .int .i64 tenant, .int .i64 cell, .int .i64 other, .int .i64 epoch, .int .i64 since, .int .i64 till, .int .i64 n] 45))
    simpa using this
  have hBe : Blk (((w.alloc (.cells #[.int .i64 c.regions, .slice az c.zones.length cz, .slice ac c.cells.length cc, .slice at_ c.tenants.length ct, .slice av c.versions.length cv, .slice ar c.replicas.length cr, .slice ao c.observers.length co, .int .i64 c.blast, .int .i64 c.lease, .int .i64 c.bake] 30)).alloc (.cells #[.int .i64 s.tick, .int .i64 s.count, .slice sat s.tenants.length sct, .slice sac s.cells.length scc, .int .i64 s.proven, .int .i64 s.evac, .int .i64 s.low, .int .i64 s.high] 36)).alloc (.cells #[.int .i64 kind, .int .i64 tick, .int .i64 tenant, .int .i64 cell, .int .i64 other, .int .i64 epoch, .int .i64 since, .int .i64 till, .int .i64 n] 45)) (w.heap.size + 1 + 1) 45 #[.int .i64 kind, .int .i64 tick, .int .i64 tenant, .int .i64 cell, .int .i64 other, .int .i64 epoch, .int .i64 since, .int .i64 till, .int .i64 n] := by
    have := (Blk.new ((w.alloc (.cells #[.int .i64 c.regions, .slice az c.zones.length cz, .slice ac c.cells.length cc, .slice at_ c.tenants.length ct, .slice av c.versions.length cv, .slice ar c.replicas.length cr, .slice ao c.observers.length co, .int .i64 c.blast, .int .i64 c.lease, .int .i64 c.bake] 30)).alloc (.cells #[.int .i64 s.tick, .int .i64 s.count, .slice sat s.tenants.length sct, .slice sac s.cells.length scc, .int .i64 s.proven, .int .i64 s.evac, .int .i64 s.low, .int .i64 s.high] 36)) 45 #[.int .i64 kind, .int .i64 tick, .int .i64 tenant, .int .i64 cell, .int .i64 other, .int .i64 epoch, .int .i64 since, .int .i64 till, .int .i64 n])
    simpa using this
  unfold cfgC stC entC
  simp only
  go_enter Try.func28, Try.ntmps28
  go_upto_region 1 with fail
  generalize ((w.alloc _).alloc _).alloc _ = W at *
  have hgc := hBc.lt
  have d0 := hBc.cell' (i := 0) (v := .int .i64 c.regions) rfl
  have d1 := hBc.cell' (i := 1) (v := .slice az c.zones.length cz) rfl
  have d2 := hBc.cell' (i := 2) (v := .slice ac c.cells.length cc) rfl
  have d3 := hBc.cell' (i := 3) (v := .slice at_ c.tenants.length ct) rfl
  have d4 := hBc.cell' (i := 4) (v := .slice av c.versions.length cv) rfl
  have d5 := hBc.cell' (i := 5) (v := .slice ar c.replicas.length cr) rfl
  have d6 := hBc.cell' (i := 6) (v := .slice ao c.observers.length co) rfl
  have d7 := hBc.cell' (i := 7) (v := .int .i64 c.blast) rfl
  have d8 := hBc.cell' (i := 8) (v := .int .i64 c.lease) rfl
  have d9 := hBc.cell' (i := 9) (v := .int .i64 c.bake) rfl
  clear hBc
  have hgs := hBs.lt
  have su0 := hBs.cell' (i := 0) (v := .int .i64 s.tick) rfl
  have su1 := hBs.cell' (i := 1) (v := .int .i64 s.count) rfl
  have su2 := hBs.cell' (i := 2) (v := .slice sat s.tenants.length sct) rfl
  have su3 := hBs.cell' (i := 3) (v := .slice sac s.cells.length scc) rfl
  have su4 := hBs.cell' (i := 4) (v := .int .i64 s.proven) rfl
  have su5 := hBs.cell' (i := 5) (v := .int .i64 s.evac) rfl
  have su6 := hBs.cell' (i := 6) (v := .int .i64 s.low) rfl
  have su7 := hBs.cell' (i := 7) (v := .int .i64 s.high) rfl
  clear hBs
  have hge := hBe.lt
  have v0 := hBe.cell' (i := 0) (v := .int .i64 kind) rfl
  have v1 := hBe.cell' (i := 1) (v := .int .i64 tick) rfl
  have v2 := hBe.cell' (i := 2) (v := .int .i64 tenant) rfl
  have v3 := hBe.cell' (i := 3) (v := .int .i64 cell) rfl
  have v4 := hBe.cell' (i := 4) (v := .int .i64 other) rfl
  have v5 := hBe.cell' (i := 5) (v := .int .i64 epoch) rfl
  have v6 := hBe.cell' (i := 6) (v := .int .i64 since) rfl
  have v7 := hBe.cell' (i := 7) (v := .int .i64 till) rfl
  have v8 := hBe.cell' (i := 8) (v := .int .i64 n) rfl
  clear hBe
  have HL := Lib.hid hL
  have HWc := Lib.hid (HKc.out.belowW hL)
  have HWs := Lib.hid (HKs.out.belowW hL)
  clear hL
  have hl1 : ((s.tenants.length : Int) != (c.tenants.length : Int)) = false := by rw [HI.out.lt]; simp
  have hl2 : ((s.cells.length : Int) != (c.cells.length : Int)) = false := by rw [HI.out.lc]; simp
  have hx : ∀ (y : Later W.heap.size W) b o, b < W.heap.size → y.world.cell? ⟨b, o, none⟩ = W.cell? ⟨b, o, none⟩ := fun y b o h => y.cell h
  refine start_later W.heap.size ?_
  intro y0
  go_wp2_with fail
  refine (HVA.out _).mono ?_
  rintro r wq ⟨rfl, hbq⟩
  obtain ⟨yq, rfl⟩ := later_next _ (Nat.le_refl _) hbq
  clear hbq HVA
  by_cases hv : entV c ⟨kind, tick, tenant, cell, other, epoch, since, till, n⟩ = true
  · by_cases hcn : 4096 ≤ s.count
    · have HRF : Hid (refusedE c s ⟨kind, tick, tenant, cell, other, epoch, since, till, n⟩ = 2) := Lib.hid (by unfold refusedE; rw [if_neg (by simp [hv]), if_pos hcn])
      rw [hv]
      go_wp2
      go_ret
      exact ⟨ret_i64 HRF.out.symm, HL.out.trans (yq.below.mono HL.out.size)⟩
    · by_cases htt : tick < s.tick
      · have HRF : Hid (refusedE c s ⟨kind, tick, tenant, cell, other, epoch, since, till, n⟩ = 3) := Lib.hid (by unfold refusedE; rw [if_neg (by simp [hv]), if_neg hcn, if_pos htt])
        rw [hv]
        go_wp2
        go_ret
        exact ⟨ret_i64 HRF.out.symm, HL.out.trans (yq.below.mono HL.out.size)⟩
      · have HRF : Hid (refusedE c s ⟨kind, tick, tenant, cell, other, epoch, since, till, n⟩ = kindE c s ⟨kind, tick, tenant, cell, other, epoch, since, till, n⟩) := Lib.hid (by unfold refusedE; rw [if_neg (by simp [hv]), if_neg hcn, if_neg htt])
        have hkk := ent_kind hv
        obtain ⟨htk, hT, hC, hO, hE, hS, hU, hN, hne⟩ := ent_rng hv
        rw [hv]
        simp only at hkk htk hT hC hO hE hS hU hN hne
        clear hv hne
        rcases hkk with rfl | rfl | rfl | rfl | rfl | rfl | rfl | rfl | rfl | rfl | rfl | rfl | rfl | rfl | rfl | rfl
        · simp [inS, inR, fT, fC, fO, fE, fW, fN] at hT hC hO hE hS hU hN
          have ht : 0 ≤ tenant ∧ tenant < s.tenants.length := by have := HI.out.lt; omega
          have hcl : 0 ≤ cell ∧ cell < s.cells.length := by have := HI.out.lc; omega
          have hot : other = -1 ∨ (0 ≤ other ∧ other < s.cells.length) := by have := HI.out.lc; omega
          have HKD : Hid (∀ yy : Later W.heap.size W, Calls Try.prog 44 #[.agg #[.int .i64 c.regions, .slice az c.zones.length cz, .slice ac c.cells.length cc, .slice at_ c.tenants.length ct, .slice av c.versions.length cv, .slice ar c.replicas.length cr, .slice ao c.observers.length co, .int .i64 c.blast, .int .i64 c.lease, .int .i64 c.bake], .agg #[.int .i64 s.tick, .int .i64 s.count, .slice sat s.tenants.length sct, .slice sac s.cells.length scc, .int .i64 s.proven, .int .i64 s.evac, .int .i64 s.low, .int .i64 s.high], .agg #[.int .i64 1, .int .i64 tick, .int .i64 tenant, .int .i64 cell, .int .i64 other, .int .i64 epoch, .int .i64 since, .int .i64 till, .int .i64 n]] yy.world fun r w' => r = .returned (.int .i64 (placeE c s ⟨1, tick, tenant, cell, other, epoch, since, till, n⟩)) ∧ Below yy.world.heap.size yy.world w') := Lib.hid (fun yy => stPlace_any ⟨az, cz, ac, cc, at_, ct, av, cv, ar, cr, ao, co⟩ c ⟨sat, sct, sac, scc⟩ s ⟨1, tick, tenant, cell, other, epoch, since, till, n⟩ yy.world HV.out (HWc.out.laterW yy) HI.out (HWs.out.laterW yy) ht.1 ht.2 hcl hot)
          go_wp2_with (go_at_call 44; (with_reducible refine (HKD.out _).mono ?_); rintro r wq ⟨rfl, hbq⟩; obtain ⟨yq, rfl⟩ := later_next _ (Nat.le_refl _) hbq; clear hbq)
          go_ret
          exact ⟨ret_i64 (by rw [HRF.out]; rfl), HL.out.trans ((Later.below _).mono HL.out.size)⟩
        · simp [inS, inR, fT, fC, fO, fE, fW, fN] at hT hC hO hE hS hU hN
          have ht : 0 ≤ tenant ∧ tenant < s.tenants.length := by have := HI.out.lt; omega
          have hcl : 0 ≤ cell ∧ cell < s.cells.length := by have := HI.out.lc; omega
          have hep : 0 ≤ epoch ∧ epoch ≤ 1048576 := by omega
          have hsi : 0 ≤ since ∧ since ≤ 1073741824 := by omega
          have htl : 0 ≤ till ∧ till ≤ 1073741824 := by omega
          have HKD : Hid (∀ yy : Later W.heap.size W, Calls Try.prog 50 #[.agg #[.int .i64 c.regions, .slice az c.zones.length cz, .slice ac c.cells.length cc, .slice at_ c.tenants.length ct, .slice av c.versions.length cv, .slice ar c.replicas.length cr, .slice ao c.observers.length co, .int .i64 c.blast, .int .i64 c.lease, .int .i64 c.bake], .agg #[.int .i64 s.tick, .int .i64 s.count, .slice sat s.tenants.length sct, .slice sac s.cells.length scc, .int .i64 s.proven, .int .i64 s.evac, .int .i64 s.low, .int .i64 s.high], .agg #[.int .i64 2, .int .i64 tick, .int .i64 tenant, .int .i64 cell, .int .i64 other, .int .i64 epoch, .int .i64 since, .int .i64 till, .int .i64 n]] yy.world fun r w' => r = .returned (.int .i64 (grantE c s ⟨2, tick, tenant, cell, other, epoch, since, till, n⟩)) ∧ Below yy.world.heap.size yy.world w') := Lib.hid (fun yy => stGrant_any ⟨az, cz, ac, cc, at_, ct, av, cv, ar, cr, ao, co⟩ c ⟨sat, sct, sac, scc⟩ s ⟨2, tick, tenant, cell, other, epoch, since, till, n⟩ yy.world HV.out (HWc.out.laterW yy) HI.out (HWs.out.laterW yy) ht.1 ht.2 hcl.1 hcl.2 htk hep hsi htl)
          go_wp2_with (go_at_call 50; (with_reducible refine (HKD.out _).mono ?_); rintro r wq ⟨rfl, hbq⟩; obtain ⟨yq, rfl⟩ := later_next _ (Nat.le_refl _) hbq; clear hbq)
          go_ret
          exact ⟨ret_i64 (by rw [HRF.out]; rfl), HL.out.trans ((Later.below _).mono HL.out.size)⟩
        · simp [inS, inR, fT, fC, fO, fE, fW, fN] at hT hC hO hE hS hU hN
          have ht : 0 ≤ tenant ∧ tenant < s.tenants.length := by have := HI.out.lt; omega
          have HKD : Hid (∀ yy : Later W.heap.size W, Calls Try.prog 51 #[.agg #[.int .i64 s.tick, .int .i64 s.count, .slice sat s.tenants.length sct, .slice sac s.cells.length scc, .int .i64 s.proven, .int .i64 s.evac, .int .i64 s.low, .int .i64 s.high], .agg #[.int .i64 3, .int .i64 tick, .int .i64 tenant, .int .i64 cell, .int .i64 other, .int .i64 epoch, .int .i64 since, .int .i64 till, .int .i64 n]] yy.world fun r w' => r = .returned (.int .i64 (cutE s ⟨3, tick, tenant, cell, other, epoch, since, till, n⟩)) ∧ Below yy.world.heap.size yy.world w') := Lib.hid (fun yy => stCut_any c ⟨sat, sct, sac, scc⟩ s ⟨3, tick, tenant, cell, other, epoch, since, till, n⟩ yy.world HV.out HI.out (HWs.out.laterW yy) ht.1 ht.2)
          go_wp2_with (go_at_call 51; (with_reducible refine (HKD.out _).mono ?_); rintro r wq ⟨rfl, hbq⟩; obtain ⟨yq, rfl⟩ := later_next _ (Nat.le_refl _) hbq; clear hbq)
          go_ret
          exact ⟨ret_i64 (by rw [HRF.out]; rfl), HL.out.trans ((Later.below _).mono HL.out.size)⟩
        · simp [inS, inR, fT, fC, fO, fE, fW, fN] at hT hC hO hE hS hU hN
          have ht : 0 ≤ tenant ∧ tenant < s.tenants.length := by have := HI.out.lt; omega
          have hcl : cell = -1 ∨ (0 ≤ cell ∧ cell < s.cells.length) := by have := HI.out.lc; omega
          have HKD : Hid (∀ yy : Later W.heap.size W, Calls Try.prog 45 #[.agg #[.int .i64 c.regions, .slice az c.zones.length cz, .slice ac c.cells.length cc, .slice at_ c.tenants.length ct, .slice av c.versions.length cv, .slice ar c.replicas.length cr, .slice ao c.observers.length co, .int .i64 c.blast, .int .i64 c.lease, .int .i64 c.bake], .agg #[.int .i64 s.tick, .int .i64 s.count, .slice sat s.tenants.length sct, .slice sac s.cells.length scc, .int .i64 s.proven, .int .i64 s.evac, .int .i64 s.low, .int .i64 s.high], .agg #[.int .i64 4, .int .i64 tick, .int .i64 tenant, .int .i64 cell, .int .i64 other, .int .i64 epoch, .int .i64 since, .int .i64 till, .int .i64 n]] yy.world fun r w' => r = .returned (.int .i64 (standbyE c s ⟨4, tick, tenant, cell, other, epoch, since, till, n⟩)) ∧ Below yy.world.heap.size yy.world w') := Lib.hid (fun yy => stStandby_any ⟨az, cz, ac, cc, at_, ct, av, cv, ar, cr, ao, co⟩ c ⟨sat, sct, sac, scc⟩ s ⟨4, tick, tenant, cell, other, epoch, since, till, n⟩ yy.world HV.out (HWc.out.laterW yy) HI.out (HWs.out.laterW yy) ht.1 ht.2 hcl)
          go_wp2_with (go_at_call 45; (with_reducible refine (HKD.out _).mono ?_); rintro r wq ⟨rfl, hbq⟩; obtain ⟨yq, rfl⟩ := later_next _ (Nat.le_refl _) hbq; clear hbq)
          go_ret
          exact ⟨ret_i64 (by rw [HRF.out]; rfl), HL.out.trans ((Later.below _).mono HL.out.size)⟩
        · simp [inS, inR, fT, fC, fO, fE, fW, fN] at hT hC hO hE hS hU hN
          have ht : 0 ≤ tenant ∧ tenant < s.tenants.length := by have := HI.out.lt; omega
          have hcl : 0 ≤ cell ∧ cell < s.cells.length := by have := HI.out.lc; omega
          have HKD : Hid (∀ yy : Later W.heap.size W, Calls Try.prog 46 #[.agg #[.int .i64 s.tick, .int .i64 s.count, .slice sat s.tenants.length sct, .slice sac s.cells.length scc, .int .i64 s.proven, .int .i64 s.evac, .int .i64 s.low, .int .i64 s.high], .agg #[.int .i64 5, .int .i64 tick, .int .i64 tenant, .int .i64 cell, .int .i64 other, .int .i64 epoch, .int .i64 since, .int .i64 till, .int .i64 n]] yy.world fun r w' => r = .returned (.int .i64 (readyE s ⟨5, tick, tenant, cell, other, epoch, since, till, n⟩)) ∧ Below yy.world.heap.size yy.world w') := Lib.hid (fun yy => stReady_any c ⟨sat, sct, sac, scc⟩ s ⟨5, tick, tenant, cell, other, epoch, since, till, n⟩ yy.world HV.out HI.out (HWs.out.laterW yy) ht.1 ht.2 hcl)
          go_wp2_with (go_at_call 46; (with_reducible refine (HKD.out _).mono ?_); rintro r wq ⟨rfl, hbq⟩; obtain ⟨yq, rfl⟩ := later_next _ (Nat.le_refl _) hbq; clear hbq)
          go_ret
          exact ⟨ret_i64 (by rw [HRF.out]; rfl), HL.out.trans ((Later.below _).mono HL.out.size)⟩
        · simp [inS, inR, fT, fC, fO, fE, fW, fN] at hT hC hO hE hS hU hN
          have ht : 0 ≤ tenant ∧ tenant < s.tenants.length := by have := HI.out.lt; omega
          have hcl : 0 ≤ cell ∧ cell < s.cells.length := by have := HI.out.lc; omega
          have HKD : Hid (∀ yy : Later W.heap.size W, Calls Try.prog 47 #[.agg #[.int .i64 c.regions, .slice az c.zones.length cz, .slice ac c.cells.length cc, .slice at_ c.tenants.length ct, .slice av c.versions.length cv, .slice ar c.replicas.length cr, .slice ao c.observers.length co, .int .i64 c.blast, .int .i64 c.lease, .int .i64 c.bake], .agg #[.int .i64 s.tick, .int .i64 s.count, .slice sat s.tenants.length sct, .slice sac s.cells.length scc, .int .i64 s.proven, .int .i64 s.evac, .int .i64 s.low, .int .i64 s.high], .agg #[.int .i64 6, .int .i64 tick, .int .i64 tenant, .int .i64 cell, .int .i64 other, .int .i64 epoch, .int .i64 since, .int .i64 till, .int .i64 n]] yy.world fun r w' => r = .returned (.int .i64 (migrateE c s ⟨6, tick, tenant, cell, other, epoch, since, till, n⟩)) ∧ Below yy.world.heap.size yy.world w') := Lib.hid (fun yy => stMigrate_any ⟨az, cz, ac, cc, at_, ct, av, cv, ar, cr, ao, co⟩ c ⟨sat, sct, sac, scc⟩ s ⟨6, tick, tenant, cell, other, epoch, since, till, n⟩ yy.world HV.out (HWc.out.laterW yy) HI.out (HWs.out.laterW yy) ht.1 ht.2 hcl)
          go_wp2_with (go_at_call 47; (with_reducible refine (HKD.out _).mono ?_); rintro r wq ⟨rfl, hbq⟩; obtain ⟨yq, rfl⟩ := later_next _ (Nat.le_refl _) hbq; clear hbq)
          go_ret
          exact ⟨ret_i64 (by rw [HRF.out]; rfl), HL.out.trans ((Later.below _).mono HL.out.size)⟩
        · simp [inS, inR, fT, fC, fO, fE, fW, fN] at hT hC hO hE hS hU hN
          have ht : 0 ≤ tenant ∧ tenant < s.tenants.length := by have := HI.out.lt; omega
          have HKD : Hid (∀ yy : Later W.heap.size W, Calls Try.prog 48 #[.agg #[.int .i64 s.tick, .int .i64 s.count, .slice sat s.tenants.length sct, .slice sac s.cells.length scc, .int .i64 s.proven, .int .i64 s.evac, .int .i64 s.low, .int .i64 s.high], .agg #[.int .i64 7, .int .i64 tick, .int .i64 tenant, .int .i64 cell, .int .i64 other, .int .i64 epoch, .int .i64 since, .int .i64 till, .int .i64 n]] yy.world fun r w' => r = .returned (.int .i64 (abandonE s ⟨7, tick, tenant, cell, other, epoch, since, till, n⟩)) ∧ Below yy.world.heap.size yy.world w') := Lib.hid (fun yy => stAbandon_any c ⟨sat, sct, sac, scc⟩ s ⟨7, tick, tenant, cell, other, epoch, since, till, n⟩ yy.world HV.out HI.out (HWs.out.laterW yy) ht.1 ht.2)
          go_wp2_with (go_at_call 48; (with_reducible refine (HKD.out _).mono ?_); rintro r wq ⟨rfl, hbq⟩; obtain ⟨yq, rfl⟩ := later_next _ (Nat.le_refl _) hbq; clear hbq)
          go_ret
          exact ⟨ret_i64 (by rw [HRF.out]; rfl), HL.out.trans ((Later.below _).mono HL.out.size)⟩
        · simp [inS, inR, fT, fC, fO, fE, fW, fN] at hT hC hO hE hS hU hN
          have ht : 0 ≤ tenant ∧ tenant < s.tenants.length := by have := HI.out.lt; omega
          have HKD : Hid (∀ yy : Later W.heap.size W, Calls Try.prog 49 #[.agg #[.int .i64 s.tick, .int .i64 s.count, .slice sat s.tenants.length sct, .slice sac s.cells.length scc, .int .i64 s.proven, .int .i64 s.evac, .int .i64 s.low, .int .i64 s.high], .agg #[.int .i64 8, .int .i64 tick, .int .i64 tenant, .int .i64 cell, .int .i64 other, .int .i64 epoch, .int .i64 since, .int .i64 till, .int .i64 n]] yy.world fun r w' => r = .returned (.int .i64 (shedE s ⟨8, tick, tenant, cell, other, epoch, since, till, n⟩)) ∧ Below yy.world.heap.size yy.world w') := Lib.hid (fun yy => stShed_any c ⟨sat, sct, sac, scc⟩ s ⟨8, tick, tenant, cell, other, epoch, since, till, n⟩ yy.world HV.out HI.out (HWs.out.laterW yy) ht.1 ht.2)
          go_wp2_with (go_at_call 49; (with_reducible refine (HKD.out _).mono ?_); rintro r wq ⟨rfl, hbq⟩; obtain ⟨yq, rfl⟩ := later_next _ (Nat.le_refl _) hbq; clear hbq)
          go_ret
          exact ⟨ret_i64 (by rw [HRF.out]; rfl), HL.out.trans ((Later.below _).mono HL.out.size)⟩
        · simp [inS, inR, fT, fC, fO, fE, fW, fN] at hT hC hO hE hS hU hN
          have hcl : 0 ≤ cell ∧ cell < s.cells.length := by have := HI.out.lc; omega
          have HKD : Hid (∀ yy : Later W.heap.size W, Calls Try.prog 52 #[.agg #[.int .i64 s.tick, .int .i64 s.count, .slice sat s.tenants.length sct, .slice sac s.cells.length scc, .int .i64 s.proven, .int .i64 s.evac, .int .i64 s.low, .int .i64 s.high], .agg #[.int .i64 9, .int .i64 tick, .int .i64 tenant, .int .i64 cell, .int .i64 other, .int .i64 epoch, .int .i64 since, .int .i64 till, .int .i64 n]] yy.world fun r w' => r = .returned (.int .i64 (modeE s ⟨9, tick, tenant, cell, other, epoch, since, till, n⟩)) ∧ Below yy.world.heap.size yy.world w') := Lib.hid (fun yy => stMode_any c ⟨sat, sct, sac, scc⟩ s ⟨9, tick, tenant, cell, other, epoch, since, till, n⟩ yy.world HV.out HI.out (HWs.out.laterW yy) hcl.1 hcl.2)
          go_wp2_with (go_at_call 52; (with_reducible refine (HKD.out _).mono ?_); rintro r wq ⟨rfl, hbq⟩; obtain ⟨yq, rfl⟩ := later_next _ (Nat.le_refl _) hbq; clear hbq)
          go_ret
          exact ⟨ret_i64 (by rw [HRF.out]; rfl), HL.out.trans ((Later.below _).mono HL.out.size)⟩
        · simp [inS, inR, fT, fC, fO, fE, fW, fN] at hT hC hO hE hS hU hN
          have hcl : 0 ≤ cell ∧ cell < s.cells.length := by have := HI.out.lc; omega
          have hn : 0 ≤ n ∧ n < c.versions.length := by omega
          have HKD : Hid (∀ yy : Later W.heap.size W, Calls Try.prog 53 #[.agg #[.int .i64 c.regions, .slice az c.zones.length cz, .slice ac c.cells.length cc, .slice at_ c.tenants.length ct, .slice av c.versions.length cv, .slice ar c.replicas.length cr, .slice ao c.observers.length co, .int .i64 c.blast, .int .i64 c.lease, .int .i64 c.bake], .agg #[.int .i64 s.tick, .int .i64 s.count, .slice sat s.tenants.length sct, .slice sac s.cells.length scc, .int .i64 s.proven, .int .i64 s.evac, .int .i64 s.low, .int .i64 s.high], .agg #[.int .i64 10, .int .i64 tick, .int .i64 tenant, .int .i64 cell, .int .i64 other, .int .i64 epoch, .int .i64 since, .int .i64 till, .int .i64 n]] yy.world fun r w' => r = .returned (.int .i64 (wantE c s ⟨10, tick, tenant, cell, other, epoch, since, till, n⟩)) ∧ Below yy.world.heap.size yy.world w') := Lib.hid (fun yy => stWant_any ⟨az, cz, ac, cc, at_, ct, av, cv, ar, cr, ao, co⟩ c ⟨sat, sct, sac, scc⟩ s ⟨10, tick, tenant, cell, other, epoch, since, till, n⟩ yy.world HV.out (HWc.out.laterW yy) HI.out (HWs.out.laterW yy) hcl.1 hcl.2 hn)
          go_wp2_with (go_at_call 53; (with_reducible refine (HKD.out _).mono ?_); rintro r wq ⟨rfl, hbq⟩; obtain ⟨yq, rfl⟩ := later_next _ (Nat.le_refl _) hbq; clear hbq)
          go_ret
          exact ⟨ret_i64 (by rw [HRF.out]; rfl), HL.out.trans ((Later.below _).mono HL.out.size)⟩
        · simp [inS, inR, fT, fC, fO, fE, fW, fN] at hT hC hO hE hS hU hN
          have hcl : 0 ≤ cell ∧ cell < s.cells.length := by have := HI.out.lc; omega
          have HKD : Hid (∀ yy : Later W.heap.size W, Calls Try.prog 54 #[.agg #[.int .i64 s.tick, .int .i64 s.count, .slice sat s.tenants.length sct, .slice sac s.cells.length scc, .int .i64 s.proven, .int .i64 s.evac, .int .i64 s.low, .int .i64 s.high], .agg #[.int .i64 11, .int .i64 tick, .int .i64 tenant, .int .i64 cell, .int .i64 other, .int .i64 epoch, .int .i64 since, .int .i64 till, .int .i64 n]] yy.world fun r w' => r = .returned (.int .i64 (runsE s ⟨11, tick, tenant, cell, other, epoch, since, till, n⟩)) ∧ Below yy.world.heap.size yy.world w') := Lib.hid (fun yy => stRuns_any c ⟨sat, sct, sac, scc⟩ s ⟨11, tick, tenant, cell, other, epoch, since, till, n⟩ yy.world HV.out HI.out (HWs.out.laterW yy) hcl.1 hcl.2)
          go_wp2_with (go_at_call 54; (with_reducible refine (HKD.out _).mono ?_); rintro r wq ⟨rfl, hbq⟩; obtain ⟨yq, rfl⟩ := later_next _ (Nat.le_refl _) hbq; clear hbq)
          go_ret
          exact ⟨ret_i64 (by rw [HRF.out]; rfl), HL.out.trans ((Later.below _).mono HL.out.size)⟩
        · simp [inS, inR, fT, fC, fO, fE, fW, fN] at hT hC hO hE hS hU hN
          have HKD : Hid (∀ yy : Later W.heap.size W, Calls Try.prog 55 #[.agg #[.int .i64 c.regions, .slice az c.zones.length cz, .slice ac c.cells.length cc, .slice at_ c.tenants.length ct, .slice av c.versions.length cv, .slice ar c.replicas.length cr, .slice ao c.observers.length co, .int .i64 c.blast, .int .i64 c.lease, .int .i64 c.bake], .agg #[.int .i64 s.tick, .int .i64 s.count, .slice sat s.tenants.length sct, .slice sac s.cells.length scc, .int .i64 s.proven, .int .i64 s.evac, .int .i64 s.low, .int .i64 s.high], .agg #[.int .i64 12, .int .i64 tick, .int .i64 tenant, .int .i64 cell, .int .i64 other, .int .i64 epoch, .int .i64 since, .int .i64 till, .int .i64 n]] yy.world fun r w' => r = .returned (.int .i64 (proveE c s ⟨12, tick, tenant, cell, other, epoch, since, till, n⟩)) ∧ Below yy.world.heap.size yy.world w') := Lib.hid (fun yy => stProve_any ⟨az, cz, ac, cc, at_, ct, av, cv, ar, cr, ao, co⟩ c ⟨sat, sct, sac, scc⟩ s ⟨12, tick, tenant, cell, other, epoch, since, till, n⟩ yy.world HV.out (HWc.out.laterW yy) HI.out (HWs.out.laterW yy) htk)
          go_wp2_with (go_at_call 55; (with_reducible refine (HKD.out _).mono ?_); rintro r wq ⟨rfl, hbq⟩; obtain ⟨yq, rfl⟩ := later_next _ (Nat.le_refl _) hbq; clear hbq)
          go_ret
          exact ⟨ret_i64 (by rw [HRF.out]; rfl), HL.out.trans ((Later.below _).mono HL.out.size)⟩
        · simp [inS, inR, fT, fC, fO, fE, fW, fN] at hT hC hO hE hS hU hN
          have HKD : Hid (∀ yy : Later W.heap.size W, Calls Try.prog 56 #[.agg #[.int .i64 s.tick, .int .i64 s.count, .slice sat s.tenants.length sct, .slice sac s.cells.length scc, .int .i64 s.proven, .int .i64 s.evac, .int .i64 s.low, .int .i64 s.high], .agg #[.int .i64 13, .int .i64 tick, .int .i64 tenant, .int .i64 cell, .int .i64 other, .int .i64 epoch, .int .i64 since, .int .i64 till, .int .i64 n]] yy.world fun r w' => r = .returned (.int .i64 (evacE s ⟨13, tick, tenant, cell, other, epoch, since, till, n⟩)) ∧ Below yy.world.heap.size yy.world w') := Lib.hid (fun yy => stEvac_any c ⟨sat, sct, sac, scc⟩ s ⟨13, tick, tenant, cell, other, epoch, since, till, n⟩ yy.world HV.out HI.out (HWs.out.laterW yy) )
          go_wp2_with (go_at_call 56; (with_reducible refine (HKD.out _).mono ?_); rintro r wq ⟨rfl, hbq⟩; obtain ⟨yq, rfl⟩ := later_next _ (Nat.le_refl _) hbq; clear hbq)
          go_ret
          exact ⟨ret_i64 (by rw [HRF.out]; rfl), HL.out.trans ((Later.below _).mono HL.out.size)⟩
        · simp [inS, inR, fT, fC, fO, fE, fW, fN] at hT hC hO hE hS hU hN
          have HKD : Hid (∀ yy : Later W.heap.size W, Calls Try.prog 57 #[.agg #[.int .i64 c.regions, .slice az c.zones.length cz, .slice ac c.cells.length cc, .slice at_ c.tenants.length ct, .slice av c.versions.length cv, .slice ar c.replicas.length cr, .slice ao c.observers.length co, .int .i64 c.blast, .int .i64 c.lease, .int .i64 c.bake], .agg #[.int .i64 s.tick, .int .i64 s.count, .slice sat s.tenants.length sct, .slice sac s.cells.length scc, .int .i64 s.proven, .int .i64 s.evac, .int .i64 s.low, .int .i64 s.high]] yy.world fun r w' => r = .returned (.int .i64 (expandE c s)) ∧ Below yy.world.heap.size yy.world w') := Lib.hid (fun yy => stExpand_any ⟨az, cz, ac, cc, at_, ct, av, cv, ar, cr, ao, co⟩ c ⟨sat, sct, sac, scc⟩ s yy.world HV.out (HWc.out.laterW yy) HI.out (HWs.out.laterW yy) )
          go_wp2_with (go_at_call 57; (with_reducible refine (HKD.out _).mono ?_); rintro r wq ⟨rfl, hbq⟩; obtain ⟨yq, rfl⟩ := later_next _ (Nat.le_refl _) hbq; clear hbq)
          go_ret
          exact ⟨ret_i64 (by rw [HRF.out]; rfl), HL.out.trans ((Later.below _).mono HL.out.size)⟩
        · simp [inS, inR, fT, fC, fO, fE, fW, fN] at hT hC hO hE hS hU hN
          have HKD : Hid (∀ yy : Later W.heap.size W, Calls Try.prog 58 #[.agg #[.int .i64 s.tick, .int .i64 s.count, .slice sat s.tenants.length sct, .slice sac s.cells.length scc, .int .i64 s.proven, .int .i64 s.evac, .int .i64 s.low, .int .i64 s.high]] yy.world fun r w' => r = .returned (.int .i64 (contractE s)) ∧ Below yy.world.heap.size yy.world w') := Lib.hid (fun yy => stContract_any c ⟨sat, sct, sac, scc⟩ s yy.world HV.out HI.out (HWs.out.laterW yy) )
          go_wp2_with (go_at_call 58; (with_reducible refine (HKD.out _).mono ?_); rintro r wq ⟨rfl, hbq⟩; obtain ⟨yq, rfl⟩ := later_next _ (Nat.le_refl _) hbq; clear hbq)
          go_ret
          exact ⟨ret_i64 (by rw [HRF.out]; rfl), HL.out.trans ((Later.below _).mono HL.out.size)⟩
        · simp [inS, inR, fT, fC, fO, fE, fW, fN] at hT hC hO hE hS hU hN
          go_wp2
          go_ret
          exact ⟨ret_i64 (by rw [HRF.out]; rfl), HL.out.trans ((Later.below _).mono HL.out.size)⟩
  · have hv2 : entV c ⟨kind, tick, tenant, cell, other, epoch, since, till, n⟩ = false := by simpa using hv
    have HRF : Hid (refusedE c s ⟨kind, tick, tenant, cell, other, epoch, since, till, n⟩ = 1) := Lib.hid (by unfold refusedE; rw [if_pos hv2])
    rw [hv2]
    clear hv hv2
    go_wp2
    go_ret
    exact ⟨ret_i64 HRF.out.symm, HL.out.trans (yq.below.mono HL.out.size)⟩
end Go.Proofs.Ytjobcfpnmfjlfaa
