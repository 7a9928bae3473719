import Derived.Test.YtjobcfpnmfjlfaaNk03
namespace Go.Proofs.Ytjobcfpnmfjlfaa
open Go.RowKit
set_option linter.unusedSimpArgs false
set_option linter.unusedVariables false
theorem modeAt_eq {s : St} {k : Int} (h : 0 ≤ k ∧ k < s.cells.length) : modeAt s k = (csAt s k).mode := if_pos h
theorem shedE_m {c : Cfg} {s : St} {e : Ent} {t : TS} (hI : StInv c s) (h : tsAt s e.tenant = t) (hT : TsInv c t) : shedE s e = if e.n = 0 then (if t.shed = false then 4 else if modeAt s t.home = 3 then 6 else 0) else if t.placed = false ∨ t.shed = true then 4 else if e.tick < t.win.till then 9 else 0 := by
  unfold shedE
  rw [h]
  by_cases hsh : t.shed = true
  · rw [modeAt_eq ⟨hT.placed (hT.shed hsh), by have := hT.home; have := hI.lc; omega⟩]
  · simp [hsh]
theorem placeE_m {c : Cfg} {s : St} {e : Ent} {t : TS} (h : tsAt s e.tenant = t) (hcl : 0 ≤ e.cell ∧ e.cell < s.cells.length) (hot : e.other = -1 ∨ (0 ≤ e.other ∧ e.other < s.cells.length)) :
    placeE c s e = if t.placed = true then 4 else if modeAt s e.cell ≠ 1 ∨ (e.other ≠ -1 ∧ modeAt s e.other ≠ 1) then 6 else if frozenB c s e.cell = true ∨ (e.other ≠ -1 ∧ frozenB c s e.other = true) then 12 else if mayB c e.tenant e.cell = false ∨ (e.other ≠ -1 ∧ mayB c e.tenant e.other = false) ∨ nearB c e.cell e.other = true then 11 else 0 := by
  unfold placeE
  rw [h, modeAt_eq hcl]
  rcases hot with ho | ho
  · simp [ho]
  · rw [modeAt_eq ho]
theorem standbyE_m {c : Cfg} {s : St} {e : Ent} {t : TS} (h : tsAt s e.tenant = t) (hT : TsInv c t) (hcl : e.cell = -1 ∨ (0 ≤ e.cell ∧ e.cell < s.cells.length)) :
    standbyE c s e = if t.placed = false then 4 else if e.cell = -1 then 0 else if e.cell = t.home ∨ e.cell = t.standby ∨ e.cell = t.target then 5 else if modeAt s e.cell ≠ 1 then 6 else if frozenB c s e.cell = true then 12 else if mayB c e.tenant e.cell = false ∨ apartB c e.cell t.home = false ∨ nearB c e.cell t.target = true then 11 else 0 := by
  unfold standbyE
  rw [h]
  by_cases hpl : t.placed = true
  · rcases hcl with ho | ho
    · simp [ho]
    · have hh := hT.placed hpl
      rw [modeAt_eq ho]
      have hne : t.home ≠ -1 := by omega
      simp [nearB, hne]
  · simp [hpl]

set_option maxHeartbeats 2000000 in
set_option maxRecDepth 100000 in
theorem stAbandon_any (c : Cfg) (y : StA) (s : St) (e : Ent) (w : World) (hV : CfgV c) (hI : StInv c s) (hs : StOk w (· < w.heap.size) y s) (ht0 : 0 ≤ e.tenant) (ht1 : e.tenant < s.tenants.length) :
    Calls Try.prog 48 #[.agg (stC y s), .agg (entC e).toArray] w fun r w' => r = .returned (.int .i64 (abandonE s e)) ∧ Below w.heap.size w w' := by
  have hnc := hV.nc
  have hntt := hV.nt
  have HV := Lib.hid hV
  clear hV
  obtain ⟨sat, sct, sac, scc⟩ := y
  have HKs := Lib.hid hs
  have hsl : 1 ≤ s.cells.length ∧ s.cells.length ≤ 16 := by have := hI.lc; omega
  have hst : s.tenants.length ≤ 32 := by have := hI.lt; omega
  have HI := Lib.hid hI
  clear hs hI
  obtain ⟨kind, tick, tenant, cell, other, epoch, since, till, n⟩ := e
  try simp only at *
  obtain ⟨tn, rfl⟩ := Int.eq_ofNat_of_zero_le ht0
  have htn : tn < s.tenants.length := by omega
  obtain ⟨bt, oft, t, rfl, hbt, hzt, hct⟩ := HKs.out.tenants.row (enc := tsC) (sz := 12) (fun _ => rfl) (by omega) htn
  have HT : Hid (tsAt s tn = t) := Lib.hid (by unfold tsAt; rw [Int.toNat_natCast, getD_some hzt])
  have HTI := Lib.hid (HI.out.ten _ (List.mem_of_getElem? hzt))
  have hbt1 : bt < w.heap.size := hbt
  have HR : Hid (abandonE s ⟨kind, tick, tn, cell, other, epoch, since, till, n⟩ = if t.placed = false ∨ t.target = -1 then 4 else 0) := Lib.hid (by unfold abandonE; rw [HT.out])
  have hL : Below w.heap.size w ((w.alloc (.cells #[.int .i64 s.tick, .int .i64 s.count, .slice (some ⟨bt, oft, none⟩) s.tenants.length sct, .slice sac s.cells.length scc, .int .i64 s.proven, .int .i64 s.evac, .int .i64 s.low, .int .i64 s.high] 36)).alloc (.cells #[.int .i64 kind, .int .i64 tick, .int .i64 tn, .int .i64 cell, .int .i64 other, .int .i64 epoch, .int .i64 since, .int .i64 till, .int .i64 n] 45)) := (((Below.refl w.heap.size w).alloc (by simp <;> omega) (.cells #[.int .i64 s.tick, .int .i64 s.count, .slice (some ⟨bt, oft, none⟩) s.tenants.length sct, .slice sac s.cells.length scc, .int .i64 s.proven, .int .i64 s.evac, .int .i64 s.low, .int .i64 s.high] 36)).alloc (by simp <;> omega) (.cells #[.int .i64 kind, .int .i64 tick, .int .i64 tn, .int .i64 cell, .int .i64 other, .int .i64 epoch, .int .i64 since, .int .i64 till, .int .i64 n] 45))
  have hBs : Blk ((w.alloc (.cells #[.int .i64 s.tick, .int .i64 s.count, .slice (some ⟨bt, oft, none⟩) s.tenants.length sct, .slice sac s.cells.length scc, .int .i64 s.proven, .int .i64 s.evac, .int .i64 s.low, .int .i64 s.high] 36)).alloc (.cells #[.int .i64 kind, .int .i64 tick, .int .i64 tn, .int .i64 cell, .int .i64 other, .int .i64 epoch, .int .i64 since, .int .i64 till, .int .i64 n] 45)) (w.heap.size) 36 #[.int .i64 s.tick, .int .i64 s.count, .slice (some ⟨bt, oft, none⟩) s.tenants.length sct, .slice sac s.cells.length scc, .int .i64 s.proven, .int .i64 s.evac, .int .i64 s.low, .int .i64 s.high] := by
    have := ((Blk.new w 36 #[.int .i64 s.tick, .int .i64 s.count, .slice (some ⟨bt, oft, none⟩) s.tenants.length sct, .slice sac s.cells.length scc, .int .i64 s.proven, .int .i64 s.evac, .int .i64 s.low, .int .i64 s.high]).alloc (.cells #[.int .i64 kind, .int .i64 tick, .int .i64 tn, .int .i64 cell, .int .i64 other, .int .i64 epoch, .int .i64 since, .int .i64 till, .int .i64 n] 45))
    simpa using this
  have hBe : Blk ((w.alloc (.cells #[.int .i64 s.tick, .int .i64 s.count, .slice (some ⟨bt, oft, none⟩) s.tenants.length sct, .slice sac s.cells.length scc, .int .i64 s.proven, .int .i64 s.evac, .int .i64 s.low, .int .i64 s.high] 36)).alloc (.cells #[.int .i64 kind, .int .i64 tick, .int .i64 tn, .int .i64 cell, .int .i64 other, .int .i64 epoch, .int .i64 since, .int .i64 till, .int .i64 n] 45)) (w.heap.size + 1) 45 #[.int .i64 kind, .int .i64 tick, .int .i64 tn, .int .i64 cell, .int .i64 other, .int .i64 epoch, .int .i64 since, .int .i64 till, .int .i64 n] := by
    have := (Blk.new (w.alloc (.cells #[.int .i64 s.tick, .int .i64 s.count, .slice (some ⟨bt, oft, none⟩) s.tenants.length sct, .slice sac s.cells.length scc, .int .i64 s.proven, .int .i64 s.evac, .int .i64 s.low, .int .i64 s.high] 36)) 45 #[.int .i64 kind, .int .i64 tick, .int .i64 tn, .int .i64 cell, .int .i64 other, .int .i64 epoch, .int .i64 since, .int .i64 till, .int .i64 n])
    simpa using this
  unfold stC entC
  simp only
  go_enter Try.func48, Try.ntmps48
  go_upto_region 1 with fail
  generalize (w.alloc _).alloc _ = W at *
  have hgs := hBs.lt
  have su0 := hBs.cell' (i := 0) (v := .int .i64 s.tick) rfl
  have su1 := hBs.cell' (i := 1) (v := .int .i64 s.count) rfl
  have su2 := hBs.cell' (i := 2) (v := .slice (some ⟨bt, oft, none⟩) s.tenants.length sct) rfl
  have su3 := hBs.cell' (i := 3) (v := .slice sac s.cells.length scc) rfl
  have su4 := hBs.cell' (i := 4) (v := .int .i64 s.proven) rfl
  have su5 := hBs.cell' (i := 5) (v := .int .i64 s.evac) rfl
  have su6 := hBs.cell' (i := 6) (v := .int .i64 s.low) rfl
  have su7 := hBs.cell' (i := 7) (v := .int .i64 s.high) rfl
  clear hBs
  have hge := hBe.lt
  have v0 := hBe.cell' (i := 0) (v := .int .i64 kind) rfl
  have v1 := hBe.cell' (i := 1) (v := .int .i64 tick) rfl
  have v2 := hBe.cell' (i := 2) (v := .int .i64 tn) rfl
  have v3 := hBe.cell' (i := 3) (v := .int .i64 cell) rfl
  have v4 := hBe.cell' (i := 4) (v := .int .i64 other) rfl
  have v5 := hBe.cell' (i := 5) (v := .int .i64 epoch) rfl
  have v6 := hBe.cell' (i := 6) (v := .int .i64 since) rfl
  have v7 := hBe.cell' (i := 7) (v := .int .i64 till) rfl
  have v8 := hBe.cell' (i := 8) (v := .int .i64 n) rfl
  clear hBe
  have HL := Lib.hid hL
  have HWs := Lib.hid (HKs.out.belowW hL)
  clear hL
  have t0 : W.cell? ⟨bt, oft + tn * 12, none⟩ = some (.bool t.placed) := (HL.out.cell (p := ⟨bt, oft + tn * 12, none⟩) hbt1).trans (hct 0 _ rfl)
  have t1 : W.cell? ⟨bt, oft + tn * 12 + 1, none⟩ = some (.bool t.shed) := (HL.out.cell (p := ⟨bt, oft + tn * 12 + 1, none⟩) hbt1).trans (hct 1 _ rfl)
  have t2 : W.cell? ⟨bt, oft + tn * 12 + 2, none⟩ = some (.int .i64 t.home) := (HL.out.cell (p := ⟨bt, oft + tn * 12 + 2, none⟩) hbt1).trans (hct 2 _ rfl)
  have t3 : W.cell? ⟨bt, oft + tn * 12 + 3, none⟩ = some (.int .i64 t.standby) := (HL.out.cell (p := ⟨bt, oft + tn * 12 + 3, none⟩) hbt1).trans (hct 3 _ rfl)
  have t4 : W.cell? ⟨bt, oft + tn * 12 + 4, none⟩ = some (.int .i64 t.next) := (HL.out.cell (p := ⟨bt, oft + tn * 12 + 4, none⟩) hbt1).trans (hct 4 _ rfl)
  have t5 : W.cell? ⟨bt, oft + tn * 12 + 5, none⟩ = some (.int .i64 t.target) := (HL.out.cell (p := ⟨bt, oft + tn * 12 + 5, none⟩) hbt1).trans (hct 5 _ rfl)
  have t6 : W.cell? ⟨bt, oft + tn * 12 + 6, none⟩ = some (.int .i64 t.epoch) := (HL.out.cell (p := ⟨bt, oft + tn * 12 + 6, none⟩) hbt1).trans (hct 6 _ rfl)
  have t7 : W.cell? ⟨bt, oft + tn * 12 + 7, none⟩ = some (.int .i64 t.win.cell) := (HL.out.cell (p := ⟨bt, oft + tn * 12 + 7, none⟩) hbt1).trans (hct 7 _ rfl)
  have t8 : W.cell? ⟨bt, oft + tn * 12 + 8, none⟩ = some (.int .i64 t.win.epoch) := (HL.out.cell (p := ⟨bt, oft + tn * 12 + 8, none⟩) hbt1).trans (hct 8 _ rfl)
  have t9 : W.cell? ⟨bt, oft + tn * 12 + 9, none⟩ = some (.int .i64 t.win.version) := (HL.out.cell (p := ⟨bt, oft + tn * 12 + 9, none⟩) hbt1).trans (hct 9 _ rfl)
  have t10 : W.cell? ⟨bt, oft + tn * 12 + 10, none⟩ = some (.int .i64 t.win.since) := (HL.out.cell (p := ⟨bt, oft + tn * 12 + 10, none⟩) hbt1).trans (hct 10 _ rfl)
  have t11 : W.cell? ⟨bt, oft + tn * 12 + 11, none⟩ = some (.int .i64 t.win.till) := (HL.out.cell (p := ⟨bt, oft + tn * 12 + 11, none⟩) hbt1).trans (hct 11 _ rfl)
  have hbtW : bt < W.heap.size := Nat.lt_of_lt_of_le hbt1 HL.out.size
  clear hct hzt hbt hbt1
  have hBb := Blk.new W 50 #[.bool t.placed, .bool t.shed, .int .i64 t.home, .int .i64 t.standby, .int .i64 t.next, .int .i64 t.target, .int .i64 t.epoch, .int .i64 t.win.cell, .int .i64 t.win.epoch, .int .i64 t.win.version, .int .i64 t.win.since, .int .i64 t.win.till]
  have hL2 := (Below.refl W.heap.size W).alloc (Nat.le_refl _) (.cells #[.bool t.placed, .bool t.shed, .int .i64 t.home, .int .i64 t.standby, .int .i64 t.next, .int .i64 t.target, .int .i64 t.epoch, .int .i64 t.win.cell, .int .i64 t.win.epoch, .int .i64 t.win.version, .int .i64 t.win.since, .int .i64 t.win.till] 50)
  go_upto_region 2 with fail
  clear t0 t1 t2 t3 t4 t5 t6 t7 t8 t9 t10 t11 hbtW
  generalize W.alloc _ = W2 at *
  have p0 := hBb.cell' (i := 0) (v := .bool t.placed) rfl
  have p1 := hBb.cell' (i := 1) (v := .bool t.shed) rfl
  have p2 := hBb.cell' (i := 2) (v := .int .i64 t.home) rfl
  have p3 := hBb.cell' (i := 3) (v := .int .i64 t.standby) rfl
  have p4 := hBb.cell' (i := 4) (v := .int .i64 t.next) rfl
  have p5 := hBb.cell' (i := 5) (v := .int .i64 t.target) rfl
  have p6 := hBb.cell' (i := 6) (v := .int .i64 t.epoch) rfl
  have p7 := hBb.cell' (i := 7) (v := .int .i64 t.win.cell) rfl
  have p8 := hBb.cell' (i := 8) (v := .int .i64 t.win.epoch) rfl
  have p9 := hBb.cell' (i := 9) (v := .int .i64 t.win.version) rfl
  have p10 := hBb.cell' (i := 10) (v := .int .i64 t.win.since) rfl
  have p11 := hBb.cell' (i := 11) (v := .int .i64 t.win.till) rfl
  have hgb := hBb.lt
  clear hBb
  replace su0 : W2.cell? ⟨w.heap.size, 0, none⟩ = some (.int .i64 s.tick) := (hL2.cell (p := ⟨w.heap.size, 0, none⟩) hgs).trans su0
  replace su1 : W2.cell? ⟨w.heap.size, 1, none⟩ = some (.int .i64 s.count) := (hL2.cell (p := ⟨w.heap.size, 1, none⟩) hgs).trans su1
  replace su2 : W2.cell? ⟨w.heap.size, 2, none⟩ = some (.slice (some ⟨bt, oft, none⟩) s.tenants.length sct) := (hL2.cell (p := ⟨w.heap.size, 2, none⟩) hgs).trans su2
  replace su3 : W2.cell? ⟨w.heap.size, 3, none⟩ = some (.slice sac s.cells.length scc) := (hL2.cell (p := ⟨w.heap.size, 3, none⟩) hgs).trans su3
  replace su4 : W2.cell? ⟨w.heap.size, 4, none⟩ = some (.int .i64 s.proven) := (hL2.cell (p := ⟨w.heap.size, 4, none⟩) hgs).trans su4
  replace su5 : W2.cell? ⟨w.heap.size, 5, none⟩ = some (.int .i64 s.evac) := (hL2.cell (p := ⟨w.heap.size, 5, none⟩) hgs).trans su5
  replace su6 : W2.cell? ⟨w.heap.size, 6, none⟩ = some (.int .i64 s.low) := (hL2.cell (p := ⟨w.heap.size, 6, none⟩) hgs).trans su6
  replace su7 : W2.cell? ⟨w.heap.size, 7, none⟩ = some (.int .i64 s.high) := (hL2.cell (p := ⟨w.heap.size, 7, none⟩) hgs).trans su7
  replace hgs : w.heap.size < W2.heap.size := Nat.lt_of_lt_of_le hgs hL2.size
  replace v0 : W2.cell? ⟨w.heap.size + 1, 0, none⟩ = some (.int .i64 kind) := (hL2.cell (p := ⟨w.heap.size + 1, 0, none⟩) hge).trans v0
  replace v1 : W2.cell? ⟨w.heap.size + 1, 1, none⟩ = some (.int .i64 tick) := (hL2.cell (p := ⟨w.heap.size + 1, 1, none⟩) hge).trans v1
  replace v2 : W2.cell? ⟨w.heap.size + 1, 2, none⟩ = some (.int .i64 tn) := (hL2.cell (p := ⟨w.heap.size + 1, 2, none⟩) hge).trans v2
  replace v3 : W2.cell? ⟨w.heap.size + 1, 3, none⟩ = some (.int .i64 cell) := (hL2.cell (p := ⟨w.heap.size + 1, 3, none⟩) hge).trans v3
  replace v4 : W2.cell? ⟨w.heap.size + 1, 4, none⟩ = some (.int .i64 other) := (hL2.cell (p := ⟨w.heap.size + 1, 4, none⟩) hge).trans v4
  replace v5 : W2.cell? ⟨w.heap.size + 1, 5, none⟩ = some (.int .i64 epoch) := (hL2.cell (p := ⟨w.heap.size + 1, 5, none⟩) hge).trans v5
  replace v6 : W2.cell? ⟨w.heap.size + 1, 6, none⟩ = some (.int .i64 since) := (hL2.cell (p := ⟨w.heap.size + 1, 6, none⟩) hge).trans v6
  replace v7 : W2.cell? ⟨w.heap.size + 1, 7, none⟩ = some (.int .i64 till) := (hL2.cell (p := ⟨w.heap.size + 1, 7, none⟩) hge).trans v7
  replace v8 : W2.cell? ⟨w.heap.size + 1, 8, none⟩ = some (.int .i64 n) := (hL2.cell (p := ⟨w.heap.size + 1, 8, none⟩) hge).trans v8
  replace hge : w.heap.size + 1 < W2.heap.size := Nat.lt_of_lt_of_le hge hL2.size
  replace HWs := Lib.hid (HWs.out.belowW hL2)
  replace HL := Lib.hid (HL.out.trans (hL2.mono HL.out.size))
  clear hL2
  generalize W.heap.size = gb at *
  go_wp2
  all_goals
    go_ret
    refine ⟨ret_i64 ?_, (by first | exact HL.out | exact HL.out.trans ((Later.below _).mono HL.out.size))⟩
    rw [HR.out]
    go_light
    clear HR HL
    simp_all
    try omega

set_option maxHeartbeats 2000000 in
set_option maxRecDepth 100000 in
theorem stCut_any (c : Cfg) (y : StA) (s : St) (e : Ent) (w : World) (hV : CfgV c) (hI : StInv c s) (hs : StOk w (· < w.heap.size) y s) (ht0 : 0 ≤ e.tenant) (ht1 : e.tenant < s.tenants.length) :
    Calls Try.prog 51 #[.agg (stC y s), .agg (entC e).toArray] w fun r w' => r = .returned (.int .i64 (cutE s e)) ∧ Below w.heap.size w w' := by
  have hnc := hV.nc
  have hntt := hV.nt
  have HV := Lib.hid hV
  clear hV
  obtain ⟨sat, sct, sac, scc⟩ := y
  have HKs := Lib.hid hs
  have hsl : 1 ≤ s.cells.length ∧ s.cells.length ≤ 16 := by have := hI.lc; omega
  have hst : s.tenants.length ≤ 32 := by have := hI.lt; omega
  have HI := Lib.hid hI
  clear hs hI
  obtain ⟨kind, tick, tenant, cell, other, epoch, since, till, n⟩ := e
  try simp only at *
  obtain ⟨tn, rfl⟩ := Int.eq_ofNat_of_zero_le ht0
  have htn : tn < s.tenants.length := by omega
  obtain ⟨bt, oft, t, rfl, hbt, hzt, hct⟩ := HKs.out.tenants.row (enc := tsC) (sz := 12) (fun _ => rfl) (by omega) htn
  have HT : Hid (tsAt s tn = t) := Lib.hid (by unfold tsAt; rw [Int.toNat_natCast, getD_some hzt])
  have HTI := Lib.hid (HI.out.ten _ (List.mem_of_getElem? hzt))
  have hbt1 : bt < w.heap.size := hbt
  have HR : Hid (cutE s ⟨kind, tick, tn, cell, other, epoch, since, till, n⟩ = if t.placed = false then 4 else if epoch ≠ t.epoch then 7 else 0) := Lib.hid (by unfold cutE; rw [HT.out])
  have hL : Below w.heap.size w ((w.alloc (.cells #[.int .i64 s.tick, .int .i64 s.count, .slice (some ⟨bt, oft, none⟩) s.tenants.length sct, .slice sac s.cells.length scc, .int .i64 s.proven, .int .i64 s.evac, .int .i64 s.low, .int .i64 s.high] 36)).alloc (.cells #[.int .i64 kind, .int .i64 tick, .int .i64 tn, .int .i64 cell, .int .i64 other, .int .i64 epoch, .int .i64 since, .int .i64 till, .int .i64 n] 45)) := (((Below.refl w.heap.size w).alloc (by simp <;> omega) (.cells #[.int .i64 s.tick, .int .i64 s.count, .slice (some ⟨bt, oft, none⟩) s.tenants.length sct, .slice sac s.cells.length scc, .int .i64 s.proven, .int .i64 s.evac, .int .i64 s.low, .int .i64 s.high] 36)).alloc (by simp <;> omega) (.cells #[.int .i64 kind, .int .i64 tick, .int .i64 tn, .int .i64 cell, .int .i64 other, .int .i64 epoch, .int .i64 since, .int .i64 till, .int .i64 n] 45))
  have hBs : Blk ((w.alloc (.cells #[.int .i64 s.tick, .int .i64 s.count, .slice (some ⟨bt, oft, none⟩) s.tenants.length sct, .slice sac s.cells.length scc, .int .i64 s.proven, .int .i64 s.evac, .int .i64 s.low, .int .i64 s.high] 36)).alloc (.cells #[.int .i64 kind, .int .i64 tick, .int .i64 tn, .int .i64 cell, .int .i64 other, .int .i64 epoch, .int .i64 since, .int .i64 till, .int .i64 n] 45)) (w.heap.size) 36 #[.int .i64 s.tick, .int .i64 s.count, .slice (some ⟨bt, oft, none⟩) s.tenants.length sct, .slice sac s.cells.length scc, .int .i64 s.proven, .int .i64 s.evac, .int .i64 s.low, .int .i64 s.high] := by
    have := ((Blk.new w 36 #[.int .i64 s.tick, .int .i64 s.count, .slice (some ⟨bt, oft, none⟩) s.tenants.length sct, .slice sac s.cells.length scc, .int .i64 s.proven, .int .i64 s.evac, .int .i64 s.low, .int .i64 s.high]).alloc (.cells #[.int .i64 kind, .int .i64 tick, .int .i64 tn, .int .i64 cell, .int .i64 other, .int .i64 epoch, .int .i64 since, .int .i64 till, .int .i64 n] 45))
    simpa using this
  have hBe : Blk ((w.alloc (.cells #[.int .i64 s.tick, .int .i64 s.count, .slice (some ⟨bt, oft, none⟩) s.tenants.length sct, .slice sac s.cells.length scc, .int .i64 s.proven, .int .i64 s.evac, .int .i64 s.low, .int .i64 s.high] 36)).alloc (.cells #[.int .i64 kind, .int .i64 tick, .int .i64 tn, .int .i64 cell, .int .i64 other, .int .i64 epoch, .int .i64 since, .int .i64 till, .int .i64 n] 45)) (w.heap.size + 1) 45 #[.int .i64 kind, .int .i64 tick, .int .i64 tn, .int .i64 cell, .int .i64 other, .int .i64 epoch, .int .i64 since, .int .i64 till, .int .i64 n] := by
    have := (Blk.new (w.alloc (.cells #[.int .i64 s.tick, .int .i64 s.count, .slice (some ⟨bt, oft, none⟩) s.tenants.length sct, .slice sac s.cells.length scc, .int .i64 s.proven, .int .i64 s.evac, .int .i64 s.low, .int .i64 s.high] 36)) 45 #[.int .i64 kind, .int .i64 tick, .int .i64 tn, .int .i64 cell, .int .i64 other, .int .i64 epoch, .int .i64 since, .int .i64 till, .int .i64 n])
    simpa using this
  unfold stC entC
  simp only
  go_enter Try.func51, Try.ntmps51
  go_upto_region 1 with fail
  generalize (w.alloc _).alloc _ = W at *
  have hgs := hBs.lt
  have su0 := hBs.cell' (i := 0) (v := .int .i64 s.tick) rfl
  have su1 := hBs.cell' (i := 1) (v := .int .i64 s.count) rfl
  have su2 := hBs.cell' (i := 2) (v := .slice (some ⟨bt, oft, none⟩) s.tenants.length sct) rfl
  have su3 := hBs.cell' (i := 3) (v := .slice sac s.cells.length scc) rfl
  have su4 := hBs.cell' (i := 4) (v := .int .i64 s.proven) rfl
  have su5 := hBs.cell' (i := 5) (v := .int .i64 s.evac) rfl
  have su6 := hBs.cell' (i := 6) (v := .int .i64 s.low) rfl
  have su7 := hBs.cell' (i := 7) (v := .int .i64 s.high) rfl
  clear hBs
  have hge := hBe.lt
  have v0 := hBe.cell' (i := 0) (v := .int .i64 kind) rfl
  have v1 := hBe.cell' (i := 1) (v := .int .i64 tick) rfl
  have v2 := hBe.cell' (i := 2) (v := .int .i64 tn) rfl
  have v3 := hBe.cell' (i := 3) (v := .int .i64 cell) rfl
  have v4 := hBe.cell' (i := 4) (v := .int .i64 other) rfl
  have v5 := hBe.cell' (i := 5) (v := .int .i64 epoch) rfl
  have v6 := hBe.cell' (i := 6) (v := .int .i64 since) rfl
  have v7 := hBe.cell' (i := 7) (v := .int .i64 till) rfl
  have v8 := hBe.cell' (i := 8) (v := .int .i64 n) rfl
  clear hBe
  have HL := Lib.hid hL
  have HWs := Lib.hid (HKs.out.belowW hL)
  clear hL
  have t0 : W.cell? ⟨bt, oft + tn * 12, none⟩ = some (.bool t.placed) := (HL.out.cell (p := ⟨bt, oft + tn * 12, none⟩) hbt1).trans (hct 0 _ rfl)
  have t1 : W.cell? ⟨bt, oft + tn * 12 + 1, none⟩ = some (.bool t.shed) := (HL.out.cell (p := ⟨bt, oft + tn * 12 + 1, none⟩) hbt1).trans (hct 1 _ rfl)
  have t2 : W.cell? ⟨bt, oft + tn * 12 + 2, none⟩ = some (.int .i64 t.home) := (HL.out.cell (p := ⟨bt, oft + tn * 12 + 2, none⟩) hbt1).trans (hct 2 _ rfl)
  have t3 : W.cell? ⟨bt, oft + tn * 12 + 3, none⟩ = some (.int .i64 t.standby) := (HL.out.cell (p := ⟨bt, oft + tn * 12 + 3, none⟩) hbt1).trans (hct 3 _ rfl)
  have t4 : W.cell? ⟨bt, oft + tn * 12 + 4, none⟩ = some (.int .i64 t.next) := (HL.out.cell (p := ⟨bt, oft + tn * 12 + 4, none⟩) hbt1).trans (hct 4 _ rfl)
  have t5 : W.cell? ⟨bt, oft + tn * 12 + 5, none⟩ = some (.int .i64 t.target) := (HL.out.cell (p := ⟨bt, oft + tn * 12 + 5, none⟩) hbt1).trans (hct 5 _ rfl)
  have t6 : W.cell? ⟨bt, oft + tn * 12 + 6, none⟩ = some (.int .i64 t.epoch) := (HL.out.cell (p := ⟨bt, oft + tn * 12 + 6, none⟩) hbt1).trans (hct 6 _ rfl)
  have t7 : W.cell? ⟨bt, oft + tn * 12 + 7, none⟩ = some (.int .i64 t.win.cell) := (HL.out.cell (p := ⟨bt, oft + tn * 12 + 7, none⟩) hbt1).trans (hct 7 _ rfl)
  have t8 : W.cell? ⟨bt, oft + tn * 12 + 8, none⟩ = some (.int .i64 t.win.epoch) := (HL.out.cell (p := ⟨bt, oft + tn * 12 + 8, none⟩) hbt1).trans (hct 8 _ rfl)
  have t9 : W.cell? ⟨bt, oft + tn * 12 + 9, none⟩ = some (.int .i64 t.win.version) := (HL.out.cell (p := ⟨bt, oft + tn * 12 + 9, none⟩) hbt1).trans (hct 9 _ rfl)
  have t10 : W.cell? ⟨bt, oft + tn * 12 + 10, none⟩ = some (.int .i64 t.win.since) := (HL.out.cell (p := ⟨bt, oft + tn * 12 + 10, none⟩) hbt1).trans (hct 10 _ rfl)
  have t11 : W.cell? ⟨bt, oft + tn * 12 + 11, none⟩ = some (.int .i64 t.win.till) := (HL.out.cell (p := ⟨bt, oft + tn * 12 + 11, none⟩) hbt1).trans (hct 11 _ rfl)
  have hbtW : bt < W.heap.size := Nat.lt_of_lt_of_le hbt1 HL.out.size
  clear hct hzt hbt hbt1
  have hBb := Blk.new W 50 #[.bool t.placed, .bool t.shed, .int .i64 t.home, .int .i64 t.standby, .int .i64 t.next, .int .i64 t.target, .int .i64 t.epoch, .int .i64 t.win.cell, .int .i64 t.win.epoch, .int .i64 t.win.version, .int .i64 t.win.since, .int .i64 t.win.till]
  have hL2 := (Below.refl W.heap.size W).alloc (Nat.le_refl _) (.cells #[.bool t.placed, .bool t.shed, .int .i64 t.home, .int .i64 t.standby, .int .i64 t.next, .int .i64 t.target, .int .i64 t.epoch, .int .i64 t.win.cell, .int .i64 t.win.epoch, .int .i64 t.win.version, .int .i64 t.win.since, .int .i64 t.win.till] 50)
  go_upto_region 2 with fail
  clear t0 t1 t2 t3 t4 t5 t6 t7 t8 t9 t10 t11 hbtW
  generalize W.alloc _ = W2 at *
  have p0 := hBb.cell' (i := 0) (v := .bool t.placed) rfl
  have p1 := hBb.cell' (i := 1) (v := .bool t.shed) rfl
  have p2 := hBb.cell' (i := 2) (v := .int .i64 t.home) rfl
  have p3 := hBb.cell' (i := 3) (v := .int .i64 t.standby) rfl
  have p4 := hBb.cell' (i := 4) (v := .int .i64 t.next) rfl
  have p5 := hBb.cell' (i := 5) (v := .int .i64 t.target) rfl
  have p6 := hBb.cell' (i := 6) (v := .int .i64 t.epoch) rfl
  have p7 := hBb.cell' (i := 7) (v := .int .i64 t.win.cell) rfl
  have p8 := hBb.cell' (i := 8) (v := .int .i64 t.win.epoch) rfl
  have p9 := hBb.cell' (i := 9) (v := .int .i64 t.win.version) rfl
  have p10 := hBb.cell' (i := 10) (v := .int .i64 t.win.since) rfl
  have p11 := hBb.cell' (i := 11) (v := .int .i64 t.win.till) rfl
  have hgb := hBb.lt
  clear hBb
  replace su0 : W2.cell? ⟨w.heap.size, 0, none⟩ = some (.int .i64 s.tick) := (hL2.cell (p := ⟨w.heap.size, 0, none⟩) hgs).trans su0
  replace su1 : W2.cell? ⟨w.heap.size, 1, none⟩ = some (.int .i64 s.count) := (hL2.cell (p := ⟨w.heap.size, 1, none⟩) hgs).trans su1
  replace su2 : W2.cell? ⟨w.heap.size, 2, none⟩ = some (.slice (some ⟨bt, oft, none⟩) s.tenants.length sct) := (hL2.cell (p := ⟨w.heap.size, 2, none⟩) hgs).trans su2
  replace su3 : W2.cell? ⟨w.heap.size, 3, none⟩ = some (.slice sac s.cells.length scc) := (hL2.cell (p := ⟨w.heap.size, 3, none⟩) hgs).trans su3
  replace su4 : W2.cell? ⟨w.heap.size, 4, none⟩ = some (.int .i64 s.proven) := (hL2.cell (p := ⟨w.heap.size, 4, none⟩) hgs).trans su4
  replace su5 : W2.cell? ⟨w.heap.size, 5, none⟩ = some (.int .i64 s.evac) := (hL2.cell (p := ⟨w.heap.size, 5, none⟩) hgs).trans su5
  replace su6 : W2.cell? ⟨w.heap.size, 6, none⟩ = some (.int .i64 s.low) := (hL2.cell (p := ⟨w.heap.size, 6, none⟩) hgs).trans su6
  replace su7 : W2.cell? ⟨w.heap.size, 7, none⟩ = some (.int .i64 s.high) := (hL2.cell (p := ⟨w.heap.size, 7, none⟩) hgs).trans su7
  replace hgs : w.heap.size < W2.heap.size := Nat.lt_of_lt_of_le hgs hL2.size
  replace v0 : W2.cell? ⟨w.heap.size + 1, 0, none⟩ = some (.int .i64 kind) := (hL2.cell (p := ⟨w.heap.size + 1, 0, none⟩) hge).trans v0
  replace v1 : W2.cell? ⟨w.heap.size + 1, 1, none⟩ = some (.int .i64 tick) := (hL2.cell (p := ⟨w.heap.size + 1, 1, none⟩) hge).trans v1
  replace v2 : W2.cell? ⟨w.heap.size + 1, 2, none⟩ = some (.int .i64 tn) := (hL2.cell (p := ⟨w.heap.size + 1, 2, none⟩) hge).trans v2
  replace v3 : W2.cell? ⟨w.heap.size + 1, 3, none⟩ = some (.int .i64 cell) := (hL2.cell (p := ⟨w.heap.size + 1, 3, none⟩) hge).trans v3
  replace v4 : W2.cell? ⟨w.heap.size + 1, 4, none⟩ = some (.int .i64 other) := (hL2.cell (p := ⟨w.heap.size + 1, 4, none⟩) hge).trans v4
  replace v5 : W2.cell? ⟨w.heap.size + 1, 5, none⟩ = some (.int .i64 epoch) := (hL2.cell (p := ⟨w.heap.size + 1, 5, none⟩) hge).trans v5
  replace v6 : W2.cell? ⟨w.heap.size + 1, 6, none⟩ = some (.int .i64 since) := (hL2.cell (p := ⟨w.heap.size + 1, 6, none⟩) hge).trans v6
  replace v7 : W2.cell? ⟨w.heap.size + 1, 7, none⟩ = some (.int .i64 till) := (hL2.cell (p := ⟨w.heap.size + 1, 7, none⟩) hge).trans v7
  replace v8 : W2.cell? ⟨w.heap.size + 1, 8, none⟩ = some (.int .i64 n) := (hL2.cell (p := ⟨w.heap.size + 1, 8, none⟩) hge).trans v8
  replace hge : w.heap.size + 1 < W2.heap.size := Nat.lt_of_lt_of_le hge hL2.size
  replace HWs := Lib.hid (HWs.out.belowW hL2)
  replace HL := Lib.hid (HL.out.trans (hL2.mono HL.out.size))
  clear hL2
  generalize W.heap.size = gb at *
  go_wp2
  all_goals
    go_ret
    refine ⟨ret_i64 ?_, (by first | exact HL.out | exact HL.out.trans ((Later.below _).mono HL.out.size))⟩
    rw [HR.out]
    go_light
    clear HR HL
    simp_all
    try omega

set_option maxHeartbeats 2000000 in
set_option maxRecDepth 100000 in
theorem stReady_any (c : Cfg) (y : StA) (s : St) (e : Ent) (w : World) (hV : CfgV c) (hI : StInv c s) (hs : StOk w (· < w.heap.size) y s) (ht0 : 0 ≤ e.tenant) (ht1 : e.tenant < s.tenants.length) (hcl : 0 ≤ e.cell ∧ e.cell < s.cells.length) :
    Calls Try.prog 46 #[.agg (stC y s), .agg (entC e).toArray] w fun r w' => r = .returned (.int .i64 (readyE s e)) ∧ Below w.heap.size w w' := by
  have hnc := hV.nc
  have hntt := hV.nt
  have HV := Lib.hid hV
  clear hV
  obtain ⟨sat, sct, sac, scc⟩ := y
  have HKs := Lib.hid hs
  have hsl : 1 ≤ s.cells.length ∧ s.cells.length ≤ 16 := by have := hI.lc; omega
  have hst : s.tenants.length ≤ 32 := by have := hI.lt; omega
  have HI := Lib.hid hI
  clear hs hI
  obtain ⟨kind, tick, tenant, cell, other, epoch, since, till, n⟩ := e
  try simp only at *
  obtain ⟨tn, rfl⟩ := Int.eq_ofNat_of_zero_le ht0
  have htn : tn < s.tenants.length := by omega
  obtain ⟨bt, oft, t, rfl, hbt, hzt, hct⟩ := HKs.out.tenants.row (enc := tsC) (sz := 12) (fun _ => rfl) (by omega) htn
  have HT : Hid (tsAt s tn = t) := Lib.hid (by unfold tsAt; rw [Int.toNat_natCast, getD_some hzt])
  have HTI := Lib.hid (HI.out.ten _ (List.mem_of_getElem? hzt))
  have hbt1 : bt < w.heap.size := hbt
  have HR : Hid (readyE s ⟨kind, tick, tn, cell, other, epoch, since, till, n⟩ = if t.placed = false then 4 else if cell ≠ t.next then 5 else if modeAt s cell = 3 then 6 else 0) := Lib.hid (by unfold readyE; rw [HT.out, modeAt_eq hcl])
  have hL : Below w.heap.size w ((w.alloc (.cells #[.int .i64 s.tick, .int .i64 s.count, .slice (some ⟨bt, oft, none⟩) s.tenants.length sct, .slice sac s.cells.length scc, .int .i64 s.proven, .int .i64 s.evac, .int .i64 s.low, .int .i64 s.high] 36)).alloc (.cells #[.int .i64 kind, .int .i64 tick, .int .i64 tn, .int .i64 cell, .int .i64 other, .int .i64 epoch, .int .i64 since, .int .i64 till, .int .i64 n] 45)) := (((Below.refl w.heap.size w).alloc (by simp <;> omega) (.cells #[.int .i64 s.tick, .int .i64 s.count, .slice (some ⟨bt, oft, none⟩) s.tenants.length sct, .slice sac s.cells.length scc, .int .i64 s.proven, .int .i64 s.evac, .int .i64 s.low, .int .i64 s.high] 36)).alloc (by simp <;> omega) (.cells #[.int .i64 kind, .int .i64 tick, .int .i64 tn, .int .i64 cell, .int .i64 other, .int .i64 epoch, .int .i64 since, .int .i64 till, .int .i64 n] 45))
  have hBs : Blk ((w.alloc (.cells #[.int .i64 s.tick, .int .i64 s.count, .slice (some ⟨bt, oft, none⟩) s.tenants.length sct, .slice sac s.cells.length scc, .int .i64 s.proven, .int .i64 s.evac, .int .i64 s.low, .int .i64 s.high] 36)).alloc (.cells #[.int .i64 kind, .int .i64 tick, .int .i64 tn, .int .i64 cell, .int .i64 other, .int .i64 epoch, .int .i64 since, .int .i64 till, .int .i64 n] 45)) (w.heap.size) 36 #[.int .i64 s.tick, .int .i64 s.count, .slice (some ⟨bt, oft, none⟩) s.tenants.length sct, .slice sac s.cells.length scc, .int .i64 s.proven, .int .i64 s.evac, .int .i64 s.low, .int .i64 s.high] := by
    have := ((Blk.new w 36 #[.int .i64 s.tick, .int .i64 s.count, .slice (some ⟨bt, oft, none⟩) s.tenants.length sct, .slice sac s.cells.length scc, .int .i64 s.proven, .int .i64 s.evac, .int .i64 s.low, .int .i64 s.high]).alloc (.cells #[.int .i64 kind, .int .i64 tick, .int .i64 tn, .int .i64 cell, .int .i64 other, .int .i64 epoch, .int .i64 since, .int .i64 till, .int .i64 n] 45))
    simpa using this
  have hBe : Blk ((w.alloc (.cells #[.int .i64 s.tick, .int .i64 s.count, .slice (some ⟨bt, oft, none⟩) s.tenants.length sct, .slice sac s.cells.length scc, .int .i64 s.proven, .int .i64 s.evac, .int .i64 s.low, .int .i64 s.high] 36)).alloc (.cells #[.int .i64 kind, .int .i64 tick, .int .i64 tn, .int .i64 cell, .int .i64 other, .int .i64 epoch, .int .i64 since, .int .i64 till, .int .i64 n] 45)) (w.heap.size + 1) 45 #[.int .i64 kind, .int .i64 tick, .int .i64 tn, .int .i64 cell, .int .i64 other, .int .i64 epoch, .int .i64 since, .int .i64 till, .int .i64 n] := by
    have := (Blk.new (w.alloc (.cells #[.int .i64 s.tick, .int .i64 s.count, .slice (some ⟨bt, oft, none⟩) s.tenants.length sct, .slice sac s.cells.length scc, .int .i64 s.proven, .int .i64 s.evac, .int .i64 s.low, .int .i64 s.high] 36)) 45 #[.int .i64 kind, .int .i64 tick, .int .i64 tn, .int .i64 cell, .int .i64 other, .int .i64 epoch, .int .i64 since, .int .i64 till, .int .i64 n])
    simpa using this
  unfold stC entC
  simp only
  go_enter Try.func46, Try.ntmps46
  go_upto_region 1 with fail
  generalize (w.alloc _).alloc _ = W at *
  have hgs := hBs.lt
  have su0 := hBs.cell' (i := 0) (v := .int .i64 s.tick) rfl
  have su1 := hBs.cell' (i := 1) (v := .int .i64 s.count) rfl
  have su2 := hBs.cell' (i := 2) (v := .slice (some ⟨bt, oft, none⟩) s.tenants.length sct) rfl
  have su3 := hBs.cell' (i := 3) (v := .slice sac s.cells.length scc) rfl
  have su4 := hBs.cell' (i := 4) (v := .int .i64 s.proven) rfl
  have su5 := hBs.cell' (i := 5) (v := .int .i64 s.evac) rfl
  have su6 := hBs.cell' (i := 6) (v := .int .i64 s.low) rfl
  have su7 := hBs.cell' (i := 7) (v := .int .i64 s.high) rfl
  clear hBs
  have hge := hBe.lt
  have v0 := hBe.cell' (i := 0) (v := .int .i64 kind) rfl
  have v1 := hBe.cell' (i := 1) (v := .int .i64 tick) rfl
  have v2 := hBe.cell' (i := 2) (v := .int .i64 tn) rfl
  have v3 := hBe.cell' (i := 3) (v := .int .i64 cell) rfl
  have v4 := hBe.cell' (i := 4) (v := .int .i64 other) rfl
  have v5 := hBe.cell' (i := 5) (v := .int .i64 epoch) rfl
  have v6 := hBe.cell' (i := 6) (v := .int .i64 since) rfl
  have v7 := hBe.cell' (i := 7) (v := .int .i64 till) rfl
  have v8 := hBe.cell' (i := 8) (v := .int .i64 n) rfl
  clear hBe
  have HL := Lib.hid hL
  have HWs := Lib.hid (HKs.out.belowW hL)
  clear hL
  have t0 : W.cell? ⟨bt, oft + tn * 12, none⟩ = some (.bool t.placed) := (HL.out.cell (p := ⟨bt, oft + tn * 12, none⟩) hbt1).trans (hct 0 _ rfl)
  have t1 : W.cell? ⟨bt, oft + tn * 12 + 1, none⟩ = some (.bool t.shed) := (HL.out.cell (p := ⟨bt, oft + tn * 12 + 1, none⟩) hbt1).trans (hct 1 _ rfl)
  have t2 : W.cell? ⟨bt, oft + tn * 12 + 2, none⟩ = some (.int .i64 t.home) := (HL.out.cell (p := ⟨bt, oft + tn * 12 + 2, none⟩) hbt1).trans (hct 2 _ rfl)
  have t3 : W.cell? ⟨bt, oft + tn * 12 + 3, none⟩ = some (.int .i64 t.standby) := (HL.out.cell (p := ⟨bt, oft + tn * 12 + 3, none⟩) hbt1).trans (hct 3 _ rfl)
  have t4 : W.cell? ⟨bt, oft + tn * 12 + 4, none⟩ = some (.int .i64 t.next) := (HL.out.cell (p := ⟨bt, oft + tn * 12 + 4, none⟩) hbt1).trans (hct 4 _ rfl)
  have t5 : W.cell? ⟨bt, oft + tn * 12 + 5, none⟩ = some (.int .i64 t.target) := (HL.out.cell (p := ⟨bt, oft + tn * 12 + 5, none⟩) hbt1).trans (hct 5 _ rfl)
  have t6 : W.cell? ⟨bt, oft + tn * 12 + 6, none⟩ = some (.int .i64 t.epoch) := (HL.out.cell (p := ⟨bt, oft + tn * 12 + 6, none⟩) hbt1).trans (hct 6 _ rfl)
  have t7 : W.cell? ⟨bt, oft + tn * 12 + 7, none⟩ = some (.int .i64 t.win.cell) := (HL.out.cell (p := ⟨bt, oft + tn * 12 + 7, none⟩) hbt1).trans (hct 7 _ rfl)
  have t8 : W.cell? ⟨bt, oft + tn * 12 + 8, none⟩ = some (.int .i64 t.win.epoch) := (HL.out.cell (p := ⟨bt, oft + tn * 12 + 8, none⟩) hbt1).trans (hct 8 _ rfl)
  have t9 : W.cell? ⟨bt, oft + tn * 12 + 9, none⟩ = some (.int .i64 t.win.version) := (HL.out.cell (p := ⟨bt, oft + tn * 12 + 9, none⟩) hbt1).trans (hct 9 _ rfl)
  have t10 : W.cell? ⟨bt, oft + tn * 12 + 10, none⟩ = some (.int .i64 t.win.since) := (HL.out.cell (p := ⟨bt, oft + tn * 12 + 10, none⟩) hbt1).trans (hct 10 _ rfl)
  have t11 : W.cell? ⟨bt, oft + tn * 12 + 11, none⟩ = some (.int .i64 t.win.till) := (HL.out.cell (p := ⟨bt, oft + tn * 12 + 11, none⟩) hbt1).trans (hct 11 _ rfl)
  have hbtW : bt < W.heap.size := Nat.lt_of_lt_of_le hbt1 HL.out.size
  clear hct hzt hbt hbt1
  have hBb := Blk.new W 50 #[.bool t.placed, .bool t.shed, .int .i64 t.home, .int .i64 t.standby, .int .i64 t.next, .int .i64 t.target, .int .i64 t.epoch, .int .i64 t.win.cell, .int .i64 t.win.epoch, .int .i64 t.win.version, .int .i64 t.win.since, .int .i64 t.win.till]
  have hL2 := (Below.refl W.heap.size W).alloc (Nat.le_refl _) (.cells #[.bool t.placed, .bool t.shed, .int .i64 t.home, .int .i64 t.standby, .int .i64 t.next, .int .i64 t.target, .int .i64 t.epoch, .int .i64 t.win.cell, .int .i64 t.win.epoch, .int .i64 t.win.version, .int .i64 t.win.since, .int .i64 t.win.till] 50)
  go_upto_region 2 with fail
  clear t0 t1 t2 t3 t4 t5 t6 t7 t8 t9 t10 t11 hbtW
  generalize W.alloc _ = W2 at *
  have p0 := hBb.cell' (i := 0) (v := .bool t.placed) rfl
  have p1 := hBb.cell' (i := 1) (v := .bool t.shed) rfl
  have p2 := hBb.cell' (i := 2) (v := .int .i64 t.home) rfl
  have p3 := hBb.cell' (i := 3) (v := .int .i64 t.standby) rfl
  have p4 := hBb.cell' (i := 4) (v := .int .i64 t.next) rfl
  have p5 := hBb.cell' (i := 5) (v := .int .i64 t.target) rfl
  have p6 := hBb.cell' (i := 6) (v := .int .i64 t.epoch) rfl
  have p7 := hBb.cell' (i := 7) (v := .int .i64 t.win.cell) rfl
  have p8 := hBb.cell' (i := 8) (v := .int .i64 t.win.epoch) rfl
  have p9 := hBb.cell' (i := 9) (v := .int .i64 t.win.version) rfl
  have p10 := hBb.cell' (i := 10) (v := .int .i64 t.win.since) rfl
  have p11 := hBb.cell' (i := 11) (v := .int .i64 t.win.till) rfl
  have hgb := hBb.lt
  clear hBb
  replace su0 : W2.cell? ⟨w.heap.size, 0, none⟩ = some (.int .i64 s.tick) := (hL2.cell (p := ⟨w.heap.size, 0, none⟩) hgs).trans su0
  replace su1 : W2.cell? ⟨w.heap.size, 1, none⟩ = some (.int .i64 s.count) := (hL2.cell (p := ⟨w.heap.size, 1, none⟩) hgs).trans su1
  replace su2 : W2.cell? ⟨w.heap.size, 2, none⟩ = some (.slice (some ⟨bt, oft, none⟩) s.tenants.length sct) := (hL2.cell (p := ⟨w.heap.size, 2, none⟩) hgs).trans su2
  replace su3 : W2.cell? ⟨w.heap.size, 3, none⟩ = some (.slice sac s.cells.length scc) := (hL2.cell (p := ⟨w.heap.size, 3, none⟩) hgs).trans su3
  replace su4 : W2.cell? ⟨w.heap.size, 4, none⟩ = some (.int .i64 s.proven) := (hL2.cell (p := ⟨w.heap.size, 4, none⟩) hgs).trans su4
  replace su5 : W2.cell? ⟨w.heap.size, 5, none⟩ = some (.int .i64 s.evac) := (hL2.cell (p := ⟨w.heap.size, 5, none⟩) hgs).trans su5
  replace su6 : W2.cell? ⟨w.heap.size, 6, none⟩ = some (.int .i64 s.low) := (hL2.cell (p := ⟨w.heap.size, 6, none⟩) hgs).trans su6
  replace su7 : W2.cell? ⟨w.heap.size, 7, none⟩ = some (.int .i64 s.high) := (hL2.cell (p := ⟨w.heap.size, 7, none⟩) hgs).trans su7
  replace hgs : w.heap.size < W2.heap.size := Nat.lt_of_lt_of_le hgs hL2.size
  replace v0 : W2.cell? ⟨w.heap.size + 1, 0, none⟩ = some (.int .i64 kind) := (hL2.cell (p := ⟨w.heap.size + 1, 0, none⟩) hge).trans v0
  replace v1 : W2.cell? ⟨w.heap.size + 1, 1, none⟩ = some (.int .i64 tick) := (hL2.cell (p := ⟨w.heap.size + 1, 1, none⟩) hge).trans v1
  replace v2 : W2.cell? ⟨w.heap.size + 1, 2, none⟩ = some (.int .i64 tn) := (hL2.cell (p := ⟨w.heap.size + 1, 2, none⟩) hge).trans v2
  replace v3 : W2.cell? ⟨w.heap.size + 1, 3, none⟩ = some (.int .i64 cell) := (hL2.cell (p := ⟨w.heap.size + 1, 3, none⟩) hge).trans v3
  replace v4 : W2.cell? ⟨w.heap.size + 1, 4, none⟩ = some (.int .i64 other) := (hL2.cell (p := ⟨w.heap.size + 1, 4, none⟩) hge).trans v4
  replace v5 : W2.cell? ⟨w.heap.size + 1, 5, none⟩ = some (.int .i64 epoch) := (hL2.cell (p := ⟨w.heap.size + 1, 5, none⟩) hge).trans v5
  replace v6 : W2.cell? ⟨w.heap.size + 1, 6, none⟩ = some (.int .i64 since) := (hL2.cell (p := ⟨w.heap.size + 1, 6, none⟩) hge).trans v6
  replace v7 : W2.cell? ⟨w.heap.size + 1, 7, none⟩ = some (.int .i64 till) := (hL2.cell (p := ⟨w.heap.size + 1, 7, none⟩) hge).trans v7
  replace v8 : W2.cell? ⟨w.heap.size + 1, 8, none⟩ = some (.int .i64 n) := (hL2.cell (p := ⟨w.heap.size + 1, 8, none⟩) hge).trans v8
  replace hge : w.heap.size + 1 < W2.heap.size := Nat.lt_of_lt_of_le hge hL2.size
  replace HWs := Lib.hid (HWs.out.belowW hL2)
  replace HL := Lib.hid (HL.out.trans (hL2.mono HL.out.size))
  clear hL2
  generalize W.heap.size = gb at *
  have H_mode : Hid (∀ (k : Int) (yy : Later W2.heap.size W2), Calls Try.prog 69 #[.agg #[.int .i64 s.tick, .int .i64 s.count, .slice (some ⟨bt, oft, none⟩) s.tenants.length sct, .slice sac s.cells.length scc, .int .i64 s.proven, .int .i64 s.evac, .int .i64 s.low, .int .i64 s.high], .int .i64 k] yy.world fun e w' => e = .returned (.int .i64 (modeAt s k)) ∧ Below yy.world.heap.size yy.world w') := Lib.hid (fun k yy => stModeOf_any ⟨some ⟨bt, oft, none⟩, sct, sac, scc⟩ s k _ (by omega) (HWs.out.laterW yy))
  have hx : ∀ (y : Later W2.heap.size W2) b o, b < W2.heap.size → y.world.cell? ⟨b, o, none⟩ = W2.cell? ⟨b, o, none⟩ := fun y b o h => y.cell h
  refine start_later W2.heap.size ?_
  intro y0
  go_wp2_with (first
    | (go_at_call 69; (with_reducible refine (H_mode.out _ _).mono ?_); rintro r wq ⟨rfl, hbq⟩; obtain ⟨yq, rfl⟩ := later_next _ (Nat.le_refl _) hbq; clear hbq)
    )
  all_goals
    go_ret
    refine ⟨ret_i64 ?_, (by first | exact HL.out | exact HL.out.trans ((Later.below _).mono HL.out.size))⟩
    rw [HR.out]
    go_light
    clear HR HL
    simp_all
    try omega

set_option maxHeartbeats 2000000 in
set_option maxRecDepth 100000 in
theorem stShed_any (c : Cfg) (y : StA) (s : St) (e : Ent) (w : World) (hV : CfgV c) (hI : StInv c s) (hs : StOk w (· < w.heap.size) y s) (ht0 : 0 ≤ e.tenant) (ht1 : e.tenant < s.tenants.length) :
    Calls Try.prog 49 #[.agg (stC y s), .agg (entC e).toArray] w fun r w' => r = .returned (.int .i64 (shedE s e)) ∧ Below w.heap.size w w' := by
  have hnc := hV.nc
  have hntt := hV.nt
  have HV := Lib.hid hV
  clear hV
  obtain ⟨sat, sct, sac, scc⟩ := y
  have HKs := Lib.hid hs
  have hsl : 1 ≤ s.cells.length ∧ s.cells.length ≤ 16 := by have := hI.lc; omega
  have hst : s.tenants.length ≤ 32 := by have := hI.lt; omega
  have HI := Lib.hid hI
  clear hs hI
  obtain ⟨kind, tick, tenant, cell, other, epoch, since, till, n⟩ := e
  try simp only at *
  obtain ⟨tn, rfl⟩ := Int.eq_ofNat_of_zero_le ht0
  have htn : tn < s.tenants.length := by omega
  obtain ⟨bt, oft, t, rfl, hbt, hzt, hct⟩ := HKs.out.tenants.row (enc := tsC) (sz := 12) (fun _ => rfl) (by omega) htn
  have HT : Hid (tsAt s tn = t) := Lib.hid (by unfold tsAt; rw [Int.toNat_natCast, getD_some hzt])
  have HTI := Lib.hid (HI.out.ten _ (List.mem_of_getElem? hzt))
  have hbt1 : bt < w.heap.size := hbt
  have HR := Lib.hid (shedE_m (e := ⟨kind, tick, tn, cell, other, epoch, since, till, n⟩) HI.out HT.out HTI.out)
  have hL : Below w.heap.size w ((w.alloc (.cells #[.int .i64 s.tick, .int .i64 s.count, .slice (some ⟨bt, oft, none⟩) s.tenants.length sct, .slice sac s.cells.length scc, .int .i64 s.proven, .int .i64 s.evac, .int .i64 s.low, .int .i64 s.high] 36)).alloc (.cells #[.int .i64 kind, .int .i64 tick, .int .i64 tn, .int .i64 cell, .int .i64 other, .int .i64 epoch, .int .i64 since, .int .i64 till, .int .i64 n] 45)) := (((Below.refl w.heap.size w).alloc (by simp <;> omega) (.cells #[.int .i64 s.tick, .int .i64 s.count, .slice (some ⟨bt, oft, none⟩) s.tenants.length sct, .slice sac s.cells.length scc, .int .i64 s.proven, .int .i64 s.evac, .int .i64 s.low, .int .i64 s.high] 36)).alloc (by simp <;> omega) (.cells #[.int .i64 kind, .int .i64 tick, .int .i64 tn, .int .i64 cell, .int .i64 other, .int .i64 epoch, .int .i64 since, .int .i64 till, .int .i64 n] 45))
  have hBs : Blk ((w.alloc (.cells #[.int .i64 s.tick, .int .i64 s.count, .slice (some ⟨bt, oft, none⟩) s.tenants.length sct, .slice sac s.cells.length scc, .int .i64 s.proven, .int .i64 s.evac, .int .i64 s.low, .int .i64 s.high] 36)).alloc (.cells #[.int .i64 kind, .int .i64 tick, .int .i64 tn, .int .i64 cell, .int .i64 other, .int .i64 epoch, .int .i64 since, .int .i64 till, .int .i64 n] 45)) (w.heap.size) 36 #[.int .i64 s.tick, .int .i64 s.count, .slice (some ⟨bt, oft, none⟩) s.tenants.length sct, .slice sac s.cells.length scc, .int .i64 s.proven, .int .i64 s.evac, .int .i64 s.low, .int .i64 s.high] := by
    have := ((Blk.new w 36 #[.int .i64 s.tick, .int .i64 s.count, .slice (some ⟨bt, oft, none⟩) s.tenants.length sct, .slice sac s.cells.length scc, .int .i64 s.proven, .int .i64 s.evac, .int .i64 s.low, .int .i64 s.high]).alloc (.cells #[.int .i64 kind, .int .i64 tick, .int .i64 tn, .int .i64 cell, .int .i64 other, .int .i64 epoch, .int .i64 since, .int .i64 till, .int .i64 n] 45))
    simpa using this
  have hBe : Blk ((w.alloc (.cells #[.int .i64 s.tick, .int .i64 s.count, .slice (some ⟨bt, oft, none⟩) s.tenants.length sct, .slice sac s.cells.length scc, .int .i64 s.proven, .int .i64 s.evac, .int .i64 s.low, .int .i64 s.high] 36)).alloc (.cells #[.int .i64 kind, .int .i64 tick, .int .i64 tn, .int .i64 cell, .int .i64 other, .int .i64 epoch, .int .i64 since, .int .i64 till, .int .i64 n] 45)) (w.heap.size + 1) 45 #[.int .i64 kind, .int .i64 tick, .int .i64 tn, .int .i64 cell, .int .i64 other, .int .i64 epoch, .int .i64 since, .int .i64 till, .int .i64 n] := by
    have := (Blk.new (w.alloc (.cells #[.int .i64 s.tick, .int .i64 s.count, .slice (some ⟨bt, oft, none⟩) s.tenants.length sct, .slice sac s.cells.length scc, .int .i64 s.proven, .int .i64 s.evac, .int .i64 s.low, .int .i64 s.high] 36)) 45 #[.int .i64 kind, .int .i64 tick, .int .i64 tn, .int .i64 cell, .int .i64 other, .int .i64 epoch, .int .i64 since, .int .i64 till, .int .i64 n])
    simpa using this
  unfold stC entC
  simp only
  go_enter Try.func49, Try.ntmps49
  go_upto_region 1 with fail
  generalize (w.alloc _).alloc _ = W at *
  have hgs := hBs.lt
  have su0 := hBs.cell' (i := 0) (v := .int .i64 s.tick) rfl
  have su1 := hBs.cell' (i := 1) (v := .int .i64 s.count) rfl
  have su2 := hBs.cell' (i := 2) (v := .slice (some ⟨bt, oft, none⟩) s.tenants.length sct) rfl
  have su3 := hBs.cell' (i := 3) (v := .slice sac s.cells.length scc) rfl
  have su4 := hBs.cell' (i := 4) (v := .int .i64 s.proven) rfl
  have su5 := hBs.cell' (i := 5) (v := .int .i64 s.evac) rfl
  have su6 := hBs.cell' (i := 6) (v := .int .i64 s.low) rfl
  have su7 := hBs.cell' (i := 7) (v := .int .i64 s.high) rfl
  clear hBs
  have hge := hBe.lt
  have v0 := hBe.cell' (i := 0) (v := .int .i64 kind) rfl
  have v1 := hBe.cell' (i := 1) (v := .int .i64 tick) rfl
  have v2 := hBe.cell' (i := 2) (v := .int .i64 tn) rfl
  have v3 := hBe.cell' (i := 3) (v := .int .i64 cell) rfl
  have v4 := hBe.cell' (i := 4) (v := .int .i64 other) rfl
  have v5 := hBe.cell' (i := 5) (v := .int .i64 epoch) rfl
  have v6 := hBe.cell' (i := 6) (v := .int .i64 since) rfl
  have v7 := hBe.cell' (i := 7) (v := .int .i64 till) rfl
  have v8 := hBe.cell' (i := 8) (v := .int .i64 n) rfl
  clear hBe
  have HL := Lib.hid hL
  have HWs := Lib.hid (HKs.out.belowW hL)
  clear hL
  have t0 : W.cell? ⟨bt, oft + tn * 12, none⟩ = some (.bool t.placed) := (HL.out.cell (p := ⟨bt, oft + tn * 12, none⟩) hbt1).trans (hct 0 _ rfl)
  have t1 : W.cell? ⟨bt, oft + tn * 12 + 1, none⟩ = some (.bool t.shed) := (HL.out.cell (p := ⟨bt, oft + tn * 12 + 1, none⟩) hbt1).trans (hct 1 _ rfl)
  have t2 : W.cell? ⟨bt, oft + tn * 12 + 2, none⟩ = some (.int .i64 t.home) := (HL.out.cell (p := ⟨bt, oft + tn * 12 + 2, none⟩) hbt1).trans (hct 2 _ rfl)
  have t3 : W.cell? ⟨bt, oft + tn * 12 + 3, none⟩ = some (.int .i64 t.standby) := (HL.out.cell (p := ⟨bt, oft + tn * 12 + 3, none⟩) hbt1).trans (hct 3 _ rfl)
  have t4 : W.cell? ⟨bt, oft + tn * 12 + 4, none⟩ = some (.int .i64 t.next) := (HL.out.cell (p := ⟨bt, oft + tn * 12 + 4, none⟩) hbt1).trans (hct 4 _ rfl)
  have t5 : W.cell? ⟨bt, oft + tn * 12 + 5, none⟩ = some (.int .i64 t.target) := (HL.out.cell (p := ⟨bt, oft + tn * 12 + 5, none⟩) hbt1).trans (hct 5 _ rfl)
  have t6 : W.cell? ⟨bt, oft + tn * 12 + 6, none⟩ = some (.int .i64 t.epoch) := (HL.out.cell (p := ⟨bt, oft + tn * 12 + 6, none⟩) hbt1).trans (hct 6 _ rfl)
  have t7 : W.cell? ⟨bt, oft + tn * 12 + 7, none⟩ = some (.int .i64 t.win.cell) := (HL.out.cell (p := ⟨bt, oft + tn * 12 + 7, none⟩) hbt1).trans (hct 7 _ rfl)
  have t8 : W.cell? ⟨bt, oft + tn * 12 + 8, none⟩ = some (.int .i64 t.win.epoch) := (HL.out.cell (p := ⟨bt, oft + tn * 12 + 8, none⟩) hbt1).trans (hct 8 _ rfl)
  have t9 : W.cell? ⟨bt, oft + tn * 12 + 9, none⟩ = some (.int .i64 t.win.version) := (HL.out.cell (p := ⟨bt, oft + tn * 12 + 9, none⟩) hbt1).trans (hct 9 _ rfl)
  have t10 : W.cell? ⟨bt, oft + tn * 12 + 10, none⟩ = some (.int .i64 t.win.since) := (HL.out.cell (p := ⟨bt, oft + tn * 12 + 10, none⟩) hbt1).trans (hct 10 _ rfl)
  have t11 : W.cell? ⟨bt, oft + tn * 12 + 11, none⟩ = some (.int .i64 t.win.till) := (HL.out.cell (p := ⟨bt, oft + tn * 12 + 11, none⟩) hbt1).trans (hct 11 _ rfl)
  have hbtW : bt < W.heap.size := Nat.lt_of_lt_of_le hbt1 HL.out.size
  clear hct hzt hbt hbt1
  have hBb := Blk.new W 50 #[.bool t.placed, .bool t.shed, .int .i64 t.home, .int .i64 t.standby, .int .i64 t.next, .int .i64 t.target, .int .i64 t.epoch, .int .i64 t.win.cell, .int .i64 t.win.epoch, .int .i64 t.win.version, .int .i64 t.win.since, .int .i64 t.win.till]
  have hL2 := (Below.refl W.heap.size W).alloc (Nat.le_refl _) (.cells #[.bool t.placed, .bool t.shed, .int .i64 t.home, .int .i64 t.standby, .int .i64 t.next, .int .i64 t.target, .int .i64 t.epoch, .int .i64 t.win.cell, .int .i64 t.win.epoch, .int .i64 t.win.version, .int .i64 t.win.since, .int .i64 t.win.till] 50)
  go_upto_region 2 with fail
  clear t0 t1 t2 t3 t4 t5 t6 t7 t8 t9 t10 t11 hbtW
  generalize W.alloc _ = W2 at *
  have p0 := hBb.cell' (i := 0) (v := .bool t.placed) rfl
  have p1 := hBb.cell' (i := 1) (v := .bool t.shed) rfl
  have p2 := hBb.cell' (i := 2) (v := .int .i64 t.home) rfl
  have p3 := hBb.cell' (i := 3) (v := .int .i64 t.standby) rfl
  have p4 := hBb.cell' (i := 4) (v := .int .i64 t.next) rfl
  have p5 := hBb.cell' (i := 5) (v := .int .i64 t.target) rfl
  have p6 := hBb.cell' (i := 6) (v := .int .i64 t.epoch) rfl
  have p7 := hBb.cell' (i := 7) (v := .int .i64 t.win.cell) rfl
  have p8 := hBb.cell' (i := 8) (v := .int .i64 t.win.epoch) rfl
  have p9 := hBb.cell' (i := 9) (v := .int .i64 t.win.version) rfl
  have p10 := hBb.cell' (i := 10) (v := .int .i64 t.win.since) rfl
  have p11 := hBb.cell' (i := 11) (v := .int .i64 t.win.till) rfl
  have hgb := hBb.lt
  clear hBb
  replace su0 : W2.cell? ⟨w.heap.size, 0, none⟩ = some (.int .i64 s.tick) := (hL2.cell (p := ⟨w.heap.size, 0, none⟩) hgs).trans su0
  replace su1 : W2.cell? ⟨w.heap.size, 1, none⟩ = some (.int .i64 s.count) := (hL2.cell (p := ⟨w.heap.size, 1, none⟩) hgs).trans su1
  replace su2 : W2.cell? ⟨w.heap.size, 2, none⟩ = some (.slice (some ⟨bt, oft, none⟩) s.tenants.length sct) := (hL2.cell (p := ⟨w.heap.size, 2, none⟩) hgs).trans su2
  replace su3 : W2.cell? ⟨w.heap.size, 3, none⟩ = some (.slice sac s.cells.length scc) := (hL2.cell (p := ⟨w.heap.size, 3, none⟩) hgs).trans su3
  replace su4 : W2.cell? ⟨w.heap.size, 4, none⟩ = some (.int .i64 s.proven) := (hL2.cell (p := ⟨w.heap.size, 4, none⟩) hgs).trans su4
  replace su5 : W2.cell? ⟨w.heap.size, 5, none⟩ = some (.int .i64 s.evac) := (hL2.cell (p := ⟨w.heap.size, 5, none⟩) hgs).trans su5
  replace su6 : W2.cell? ⟨w.heap.size, 6, none⟩ = some (.int .i64 s.low) := (hL2.cell (p := ⟨w.heap.size, 6, none⟩) hgs).trans su6
  replace su7 : W2.cell? ⟨w.heap.size, 7, none⟩ = some (.int .i64 s.high) := (hL2.cell (p := ⟨w.heap.size, 7, none⟩) hgs).trans su7
  replace hgs : w.heap.size < W2.heap.size := Nat.lt_of_lt_of_le hgs hL2.size
  replace v0 : W2.cell? ⟨w.heap.size + 1, 0, none⟩ = some (.int .i64 kind) := (hL2.cell (p := ⟨w.heap.size + 1, 0, none⟩) hge).trans v0
  replace v1 : W2.cell? ⟨w.heap.size + 1, 1, none⟩ = some (.int .i64 tick) := (hL2.cell (p := ⟨w.heap.size + 1, 1, none⟩) hge).trans v1
  replace v2 : W2.cell? ⟨w.heap.size + 1, 2, none⟩ = some (.int .i64 tn) := (hL2.cell (p := ⟨w.heap.size + 1, 2, none⟩) hge).trans v2
  replace v3 : W2.cell? ⟨w.heap.size + 1, 3, none⟩ = some (.int .i64 cell) := (hL2.cell (p := ⟨w.heap.size + 1, 3, none⟩) hge).trans v3
  replace v4 : W2.cell? ⟨w.heap.size + 1, 4, none⟩ = some (.int .i64 other) := (hL2.cell (p := ⟨w.heap.size + 1, 4, none⟩) hge).trans v4
  replace v5 : W2.cell? ⟨w.heap.size + 1, 5, none⟩ = some (.int .i64 epoch) := (hL2.cell (p := ⟨w.heap.size + 1, 5, none⟩) hge).trans v5
  replace v6 : W2.cell? ⟨w.heap.size + 1, 6, none⟩ = some (.int .i64 since) := (hL2.cell (p := ⟨w.heap.size + 1, 6, none⟩) hge).trans v6
  replace v7 : W2.cell? ⟨w.heap.size + 1, 7, none⟩ = some (.int .i64 till) := (hL2.cell (p := ⟨w.heap.size + 1, 7, none⟩) hge).trans v7
  replace v8 : W2.cell? ⟨w.heap.size + 1, 8, none⟩ = some (.int .i64 n) := (hL2.cell (p := ⟨w.heap.size + 1, 8, none⟩) hge).trans v8
  replace hge : w.heap.size + 1 < W2.heap.size := Nat.lt_of_lt_of_le hge hL2.size
  replace HWs := Lib.hid (HWs.out.belowW hL2)
  replace HL := Lib.hid (HL.out.trans (hL2.mono HL.out.size))
  clear hL2
  generalize W.heap.size = gb at *
  have H_mode : Hid (∀ (k : Int) (yy : Later W2.heap.size W2), Calls Try.prog 69 #[.agg #[.int .i64 s.tick, .int .i64 s.count, .slice (some ⟨bt, oft, none⟩) s.tenants.length sct, .slice sac s.cells.length scc, .int .i64 s.proven, .int .i64 s.evac, .int .i64 s.low, .int .i64 s.high], .int .i64 k] yy.world fun e w' => e = .returned (.int .i64 (modeAt s k)) ∧ Below yy.world.heap.size yy.world w') := Lib.hid (fun k yy => stModeOf_any ⟨some ⟨bt, oft, none⟩, sct, sac, scc⟩ s k _ (by omega) (HWs.out.laterW yy))
  have hx : ∀ (y : Later W2.heap.size W2) b o, b < W2.heap.size → y.world.cell? ⟨b, o, none⟩ = W2.cell? ⟨b, o, none⟩ := fun y b o h => y.cell h
  refine start_later W2.heap.size ?_
  intro y0
  go_wp2_with (first
    | (go_at_call 69; (with_reducible refine (H_mode.out _ _).mono ?_); rintro r wq ⟨rfl, hbq⟩; obtain ⟨yq, rfl⟩ := later_next _ (Nat.le_refl _) hbq; clear hbq)
    )
  all_goals
    go_ret
    refine ⟨ret_i64 ?_, (by first | exact HL.out | exact HL.out.trans ((Later.below _).mono HL.out.size))⟩
    rw [HR.out]
    go_light
    clear HR HL
    simp_all
    try omega

set_option maxHeartbeats 2000000 in
set_option maxRecDepth 100000 in
theorem stPlace_any (x : CfgA) (c : Cfg) (y : StA) (s : St) (e : Ent) (w : World) (hV : CfgV c) (hc : CfgOk w (· < w.heap.size) x c) (hI : StInv c s) (hs : StOk w (· < w.heap.size) y s) (ht0 : 0 ≤ e.tenant) (ht1 : e.tenant < s.tenants.length) (hcl : 0 ≤ e.cell ∧ e.cell < s.cells.length) (hot : e.other = -1 ∨ (0 ≤ e.other ∧ e.other < s.cells.length)) :
    Calls Try.prog 44 #[.agg (cfgC x c), .agg (stC y s), .agg (entC e).toArray] w fun r w' => r = .returned (.int .i64 (placeE c s e)) ∧ Below w.heap.size w w' := by
  have hnc := hV.nc
  have hntt := hV.nt
  obtain ⟨az, cz, ac, cc, at_, ct, av, cv, ar, cr, ao, co⟩ := x
  have HV := Lib.hid hV
  have HKc := Lib.hid hc
  clear hV hc
  obtain ⟨sat, sct, sac, scc⟩ := y
  have HKs := Lib.hid hs
  have hsl : 1 ≤ s.cells.length ∧ s.cells.length ≤ 16 := by have := hI.lc; omega
  have hst : s.tenants.length ≤ 32 := by have := hI.lt; omega
  have HI := Lib.hid hI
  clear hs hI
  obtain ⟨kind, tick, tenant, cell, other, epoch, since, till, n⟩ := e
  try simp only at *
  obtain ⟨tn, rfl⟩ := Int.eq_ofNat_of_zero_le ht0
  have htn : tn < s.tenants.length := by omega
  obtain ⟨bt, oft, t, rfl, hbt, hzt, hct⟩ := HKs.out.tenants.row (enc := tsC) (sz := 12) (fun _ => rfl) (by omega) htn
  have HT : Hid (tsAt s tn = t) := Lib.hid (by unfold tsAt; rw [Int.toNat_natCast, getD_some hzt])
  have HTI := Lib.hid (HI.out.ten _ (List.mem_of_getElem? hzt))
  have hbt1 : bt < w.heap.size := hbt
  have HR := Lib.hid (placeE_m (c := c) (e := ⟨kind, tick, tn, cell, other, epoch, since, till, n⟩) HT.out hcl hot)
  clear hot
  have hL : Below w.heap.size w (((w.alloc (.cells #[.int .i64 c.regions, .slice az c.zones.length cz, .slice ac c.cells.length cc, .slice at_ c.tenants.length ct, .slice av c.versions.length cv, .slice ar c.replicas.length cr, .slice ao c.observers.length co, .int .i64 c.blast, .int .i64 c.lease, .int .i64 c.bake] 30)).alloc (.cells #[.int .i64 s.tick, .int .i64 s.count, .slice (some ⟨bt, oft, none⟩) s.tenants.length sct, .slice sac s.cells.length scc, .int .i64 s.proven, .int .i64 s.evac, .int .i64 s.low, .int .i64 s.high] 36)).alloc (.cells #[.int .i64 kind, .int .i64 tick, .int .i64 tn, .int .i64 cell, .int .i64 other, .int .i64 epoch, .int .i64 since, .int .i64 till, .int .i64 n] 45)) := ((((Below.refl w.heap.size w).alloc (by simp <;> omega) (.cells #[.int .i64 c.regions, .slice az c.zones.length cz, .slice ac c.cells.length cc, .slice at_ c.tenants.length ct, .slice av c.versions.length cv, .slice ar c.replicas.length cr, .slice ao c.observers.length co, .int .i64 c.blast, .int .i64 c.lease, .int .i64 c.bake] 30)).alloc (by simp <;> omega) (.cells #[.int .i64 s.tick, .int .i64 s.count, .slice (some ⟨bt, oft, none⟩) s.tenants.length sct, .slice sac s.cells.length scc, .int .i64 s.proven, .int .i64 s.evac, .int .i64 s.low, .int .i64 s.high] 36)).alloc (by simp <;> omega) (.cells #[.int .i64 kind, .int .i64 tick, .int .i64 tn, .int .i64 cell, .int .i64 other, .int .i64 epoch, .int .i64 since, .int .i64 till, .int .i64 n] 45))
  have hBc : Blk (((w.alloc (.cells #[.int .i64 c.regions, .slice az c.zones.length cz, .slice ac c.cells.length cc, .slice at_ c.tenants.length ct, .slice av c.versions.length cv, .slice ar c.replicas.length cr, .slice ao c.observers.length co, .int .i64 c.blast, .int .i64 c.lease, .int .i64 c.bake] 30)).alloc (.cells #[.int .i64 s.tick, .int .i64 s.count, .slice (some ⟨bt, oft, none⟩) s.tenants.length sct, .slice sac s.cells.length scc, .int .i64 s.proven, .int .i64 s.evac, .int .i64 s.low, .int .i64 s.high] 36)).alloc (.cells #[.int .i64 kind, .int .i64 tick, .int .i64 tn, .int .i64 cell, .int .i64 other, .int .i64 epoch, .int .i64 since, .int .i64 till, .int .i64 n] 45)) (w.heap.size) 30 #[.int .i64 c.regions, .slice az c.zones.length cz, .slice ac c.cells.length cc, .slice at_ c.tenants.length ct, .slice av c.versions.length cv, .slice ar c.replicas.length cr, .slice ao c.observers.length co, .int .i64 c.blast, .int .i64 c.lease, .int .i64 c.bake] := by
    have := (((Blk.new w 30 #[.int .i64 c.regions, .slice az c.zones.length cz, .slice ac c.cells.length cc, .slice at_ c.tenants.length ct, .slice av c.versions.length cv, .slice ar c.replicas.length cr, .slice ao c.observers.length co, .int .i64 c.blast, .int .i64 c.lease, .int .i64 c.bake]).alloc (.cells #[.int .i64 s.tick, .int .i64 s.count, .slice (some ⟨bt, oft, none⟩) s.tenants.length sct, .slice sac s.cells.length scc, .int .i64 s.proven, .int .i64 s.evac, .int .i64 s.low, .int .i64 s.high] 36)).alloc (.cells #[.int .i64 kind, .int .i64 tick, .int .i64 tn, .int .i64 cell, .int .i64 other, .int .i64 epoch, .int .i64 since, .int .i64 till, .int .i64 n] 45))
    simpa using this
  have hBs : Blk (((w.alloc (.cells #[.int .i64 c.regions, .slice az c.zones.length cz, .slice ac c.cells.length cc, .slice at_ c.tenants.length ct, .slice av c.versions.length cv, .slice ar c.replicas.length cr, .slice ao c.observers.length co, .int .i64 c.blast, .int .i64 c.lease, .int .i64 c.bake] 30)).alloc (.cells #[.int .i64 s.tick, .int .i64 s.count, .slice (some ⟨bt, oft, none⟩) s.tenants.length sct, .slice sac s.cells.length scc, .int .i64 s.proven, .int .i64 s.evac, .int .i64 s.low, .int .i64 s.high] 36)).alloc (.cells #[.int .i64 kind, .int .i64 tick, .int .i64 tn, .int .i64 cell, .int .i64 other, .int .i64 epoch, .int .i64 since, .int .i64 till, .int .i64 n] 45)) (w.heap.size + 1) 36 #[.int .i64 s.tick, .int .i64 s.count, .slice (some ⟨bt, oft, none⟩) s.tenants.length sct, .slice sac s.cells.length scc, .int .i64 s.proven, .int .i64 s.evac, .int .i64 s.low, .int .i64 s.high] := by
    have := ((Blk.new (w.alloc (.cells #[.int .i64 c.regions, .slice az c.zones.length cz, .slice ac c.cells.length cc, .slice at_ c.tenants.length ct, .slice av c.versions.length cv, .slice ar c.replicas.length cr, .slice ao c.observers.length co, .int .i64 c.blast, .int .i64 c.lease, .int .i64 c.bake] 30)) 36 #[.int .i64 s.tick, .int .i64 s.count, .slice (some ⟨bt, oft, none⟩) s.tenants.length sct, .slice sac s.cells.length scc, .int .i64 s.proven, .int .i64 s.evac, .int .i64 s.low, .int .i64 s.high]).alloc (.cells #[.int .i64 kind, .int .i64 tick, .int .i64 tn, .int .i64 cell, .int .i64 other, .int .i64 epoch, .int .i64 since, .int .i64 till, .int .i64 n] 45))
    simpa using this
  have hBe : Blk (((w.alloc (.cells #[.int .i64 c.regions, .slice az c.zones.length cz, .slice ac c.cells.length cc, .slice at_ c.tenants.length ct, .slice av c.versions.length cv, .slice ar c.replicas.length cr, .slice ao c.observers.length co, .int .i64 c.blast, .int .i64 c.lease, .int .i64 c.bake] 30)).alloc (.cells #[.int .i64 s.tick, .int .i64 s.count, .slice (some ⟨bt, oft, none⟩) s.tenants.length sct, .slice sac s.cells.length scc, .int .i64 s.proven, .int .i64 s.evac, .int .i64 s.low, .int .i64 s.high] 36)).alloc (.cells #[.int .i64 kind, .int .i64 tick, .int .i64 tn, .int .i64 cell, .int .i64 other, .int .i64 epoch, .int .i64 since, .int .i64 till, .int .i64 n] 45)) (w.heap.size + 1 + 1) 45 #[.int .i64 kind, .int .i64 tick, .int .i64 tn, .int .i64 cell, .int .i64 other, .int .i64 epoch, .int .i64 since, .int .i64 till, .int .i64 n] := by
    have := (Blk.new ((w.alloc (.cells #[.int .i64 c.regions, .slice az c.zones.length cz, .slice ac c.cells.length cc, .slice at_ c.tenants.length ct, .slice av c.versions.length cv, .slice ar c.replicas.length cr, .slice ao c.observers.length co, .int .i64 c.blast, .int .i64 c.lease, .int .i64 c.bake] 30)).alloc (.cells #[.int .i64 s.tick, .int .i64 s.count, .slice (some ⟨bt, oft, none⟩) s.tenants.length sct, .slice sac s.cells.length scc, .int .i64 s.proven, .int .i64 s.evac, .int .i64 s.low, .int .i64 s.high] 36)) 45 #[.int .i64 kind, .int .i64 tick, .int .i64 tn, .int .i64 cell, .int .i64 other, .int .i64 epoch, .int .i64 since, .int .i64 till, .int .i64 n])
    simpa using this
  unfold cfgC stC entC
  simp only
  go_enter Try.func44, Try.ntmps44
  go_upto_region 1 with fail
  generalize ((w.alloc _).alloc _).alloc _ = W at *
  have hgc := hBc.lt
  have d0 := hBc.cell' (i := 0) (v := .int .i64 c.regions) rfl
  have d1 := hBc.cell' (i := 1) (v := .slice az c.zones.length cz) rfl
  have d2 := hBc.cell' (i := 2) (v := .slice ac c.cells.length cc) rfl
  have d3 := hBc.cell' (i := 3) (v := .slice at_ c.tenants.length ct) rfl
  have d4 := hBc.cell' (i := 4) (v := .slice av c.versions.length cv) rfl
  have d5 := hBc.cell' (i := 5) (v := .slice ar c.replicas.length cr) rfl
  have d6 := hBc.cell' (i := 6) (v := .slice ao c.observers.length co) rfl
  have d7 := hBc.cell' (i := 7) (v := .int .i64 c.blast) rfl
  have d8 := hBc.cell' (i := 8) (v := .int .i64 c.lease) rfl
  have d9 := hBc.cell' (i := 9) (v := .int .i64 c.bake) rfl
  clear hBc
  have hgs := hBs.lt
  have su0 := hBs.cell' (i := 0) (v := .int .i64 s.tick) rfl
  have su1 := hBs.cell' (i := 1) (v := .int .i64 s.count) rfl
  have su2 := hBs.cell' (i := 2) (v := .slice (some ⟨bt, oft, none⟩) s.tenants.length sct) rfl
  have su3 := hBs.cell' (i := 3) (v := .slice sac s.cells.length scc) rfl
  have su4 := hBs.cell' (i := 4) (v := .int .i64 s.proven) rfl
  have su5 := hBs.cell' (i := 5) (v := .int .i64 s.evac) rfl
  have su6 := hBs.cell' (i := 6) (v := .int .i64 s.low) rfl
  have su7 := hBs.cell' (i := 7) (v := .int .i64 s.high) rfl
  clear hBs
  have hge := hBe.lt
  have v0 := hBe.cell' (i := 0) (v := .int .i64 kind) rfl
  have v1 := hBe.cell' (i := 1) (v := .int .i64 tick) rfl
  have v2 := hBe.cell' (i := 2) (v := .int .i64 tn) rfl
  have v3 := hBe.cell' (i := 3) (v := .int .i64 cell) rfl
  have v4 := hBe.cell' (i := 4) (v := .int .i64 other) rfl
  have v5 := hBe.cell' (i := 5) (v := .int .i64 epoch) rfl
  have v6 := hBe.cell' (i := 6) (v := .int .i64 since) rfl
  have v7 := hBe.cell' (i := 7) (v := .int .i64 till) rfl
  have v8 := hBe.cell' (i := 8) (v := .int .i64 n) rfl
  clear hBe
  have HL := Lib.hid hL
  have HWc := Lib.hid (HKc.out.belowW hL)
  have HWs := Lib.hid (HKs.out.belowW hL)
  clear hL
  have t0 : W.cell? ⟨bt, oft + tn * 12, none⟩ = some (.bool t.placed) := (HL.out.cell (p := ⟨bt, oft + tn * 12, none⟩) hbt1).trans (hct 0 _ rfl)
  have t1 : W.cell? ⟨bt, oft + tn * 12 + 1, none⟩ = some (.bool t.shed) := (HL.out.cell (p := ⟨bt, oft + tn * 12 + 1, none⟩) hbt1).trans (hct 1 _ rfl)
  have t2 : W.cell? ⟨bt, oft + tn * 12 + 2, none⟩ = some (.int .i64 t.home) := (HL.out.cell (p := ⟨bt, oft + tn * 12 + 2, none⟩) hbt1).trans (hct 2 _ rfl)
  have t3 : W.cell? ⟨bt, oft + tn * 12 + 3, none⟩ = some (.int .i64 t.standby) := (HL.out.cell (p := ⟨bt, oft + tn * 12 + 3, none⟩) hbt1).trans (hct 3 _ rfl)
  have t4 : W.cell? ⟨bt, oft + tn * 12 + 4, none⟩ = some (.int .i64 t.next) := (HL.out.cell (p := ⟨bt, oft + tn * 12 + 4, none⟩) hbt1).trans (hct 4 _ rfl)
  have t5 : W.cell? ⟨bt, oft + tn * 12 + 5, none⟩ = some (.int .i64 t.target) := (HL.out.cell (p := ⟨bt, oft + tn * 12 + 5, none⟩) hbt1).trans (hct 5 _ rfl)
  have t6 : W.cell? ⟨bt, oft + tn * 12 + 6, none⟩ = some (.int .i64 t.epoch) := (HL.out.cell (p := ⟨bt, oft + tn * 12 + 6, none⟩) hbt1).trans (hct 6 _ rfl)
  have t7 : W.cell? ⟨bt, oft + tn * 12 + 7, none⟩ = some (.int .i64 t.win.cell) := (HL.out.cell (p := ⟨bt, oft + tn * 12 + 7, none⟩) hbt1).trans (hct 7 _ rfl)
  have t8 : W.cell? ⟨bt, oft + tn * 12 + 8, none⟩ = some (.int .i64 t.win.epoch) := (HL.out.cell (p := ⟨bt, oft + tn * 12 + 8, none⟩) hbt1).trans (hct 8 _ rfl)
  have t9 : W.cell? ⟨bt, oft + tn * 12 + 9, none⟩ = some (.int .i64 t.win.version) := (HL.out.cell (p := ⟨bt, oft + tn * 12 + 9, none⟩) hbt1).trans (hct 9 _ rfl)
  have t10 : W.cell? ⟨bt, oft + tn * 12 + 10, none⟩ = some (.int .i64 t.win.since) := (HL.out.cell (p := ⟨bt, oft + tn * 12 + 10, none⟩) hbt1).trans (hct 10 _ rfl)
  have t11 : W.cell? ⟨bt, oft + tn * 12 + 11, none⟩ = some (.int .i64 t.win.till) := (HL.out.cell (p := ⟨bt, oft + tn * 12 + 11, none⟩) hbt1).trans (hct 11 _ rfl)
  have hbtW : bt < W.heap.size := Nat.lt_of_lt_of_le hbt1 HL.out.size
  clear hct hzt hbt hbt1
  have H_mode : Hid (∀ (k : Int) (yy : Later W.heap.size W), Calls Try.prog 69 #[.agg #[.int .i64 s.tick, .int .i64 s.count, .slice (some ⟨bt, oft, none⟩) s.tenants.length sct, .slice sac s.cells.length scc, .int .i64 s.proven, .int .i64 s.evac, .int .i64 s.low, .int .i64 s.high], .int .i64 k] yy.world fun e w' => e = .returned (.int .i64 (modeAt s k)) ∧ Below yy.world.heap.size yy.world w') := Lib.hid (fun k yy => stModeOf_any ⟨some ⟨bt, oft, none⟩, sct, sac, scc⟩ s k _ (by omega) (HWs.out.laterW yy))
  have H_froz : Hid (∀ (k : Int) (yy : Later W.heap.size W), Calls Try.prog 70 #[.agg #[.int .i64 c.regions, .slice az c.zones.length cz, .slice ac c.cells.length cc, .slice at_ c.tenants.length ct, .slice av c.versions.length cv, .slice ar c.replicas.length cr, .slice ao c.observers.length co, .int .i64 c.blast, .int .i64 c.lease, .int .i64 c.bake], .agg #[.int .i64 s.tick, .int .i64 s.count, .slice (some ⟨bt, oft, none⟩) s.tenants.length sct, .slice sac s.cells.length scc, .int .i64 s.proven, .int .i64 s.evac, .int .i64 s.low, .int .i64 s.high], .int .i64 k] yy.world fun e w' => e = .returned (.bool (frozenB c s k)) ∧ Below yy.world.heap.size yy.world w') := Lib.hid (fun k yy => stFrozen_any ⟨az, cz, ac, cc, at_, ct, av, cv, ar, cr, ao, co⟩ c ⟨some ⟨bt, oft, none⟩, sct, sac, scc⟩ s k _ HV.out (HWc.out.laterW yy) HI.out)
  have H_may : Hid (∀ (k l : Int) (yy : Later W.heap.size W), Calls Try.prog 71 #[.agg #[.int .i64 c.regions, .slice az c.zones.length cz, .slice ac c.cells.length cc, .slice at_ c.tenants.length ct, .slice av c.versions.length cv, .slice ar c.replicas.length cr, .slice ao c.observers.length co, .int .i64 c.blast, .int .i64 c.lease, .int .i64 c.bake], .int .i64 k, .int .i64 l] yy.world fun e w' => e = .returned (.bool (mayB c k l)) ∧ Below yy.world.heap.size yy.world w') := Lib.hid (fun k l yy => tenantMay_any ⟨az, cz, ac, cc, at_, ct, av, cv, ar, cr, ao, co⟩ c k l _ HV.out (HWc.out.laterW yy))
  have H_near : Hid (∀ (k l : Int) (yy : Later W.heap.size W), Calls Try.prog 72 #[.agg #[.int .i64 c.regions, .slice az c.zones.length cz, .slice ac c.cells.length cc, .slice at_ c.tenants.length ct, .slice av c.versions.length cv, .slice ar c.replicas.length cr, .slice ao c.observers.length co, .int .i64 c.blast, .int .i64 c.lease, .int .i64 c.bake], .int .i64 k, .int .i64 l] yy.world fun e w' => e = .returned (.bool (nearB c k l)) ∧ Below yy.world.heap.size yy.world w') := Lib.hid (fun k l yy => stNear_any ⟨az, cz, ac, cc, at_, ct, av, cv, ar, cr, ao, co⟩ c k l _ HV.out (HWc.out.laterW yy))
  have hx : ∀ (y : Later W.heap.size W) b o, b < W.heap.size → y.world.cell? ⟨b, o, none⟩ = W.cell? ⟨b, o, none⟩ := fun y b o h => y.cell h
  refine start_later W.heap.size ?_
  intro y0
  go_wp2_with (first
    | (go_at_call 69; (with_reducible refine (H_mode.out _ _).mono ?_); rintro r wq ⟨rfl, hbq⟩; obtain ⟨yq, rfl⟩ := later_next _ (Nat.le_refl _) hbq; clear hbq)
    | (go_at_call 70; (with_reducible refine (H_froz.out _ _).mono ?_); rintro r wq ⟨rfl, hbq⟩; obtain ⟨yq, rfl⟩ := later_next _ (Nat.le_refl _) hbq; clear hbq)
    | (go_at_call 71; (with_reducible refine (H_may.out _ _ _).mono ?_); rintro r wq ⟨rfl, hbq⟩; obtain ⟨yq, rfl⟩ := later_next _ (Nat.le_refl _) hbq; clear hbq)
    | (go_at_call 72; (with_reducible refine (H_near.out _ _ _).mono ?_); rintro r wq ⟨rfl, hbq⟩; obtain ⟨yq, rfl⟩ := later_next _ (Nat.le_refl _) hbq; clear hbq)
    )
  all_goals
    go_ret
    refine ⟨ret_i64 ?_, (by first | exact HL.out | exact HL.out.trans ((Later.below _).mono HL.out.size))⟩
    rw [HR.out]
    go_light
    clear HR HL
    simp_all
    try omega

set_option maxHeartbeats 2000000 in
set_option maxRecDepth 100000 in
theorem stMigrate_any (x : CfgA) (c : Cfg) (y : StA) (s : St) (e : Ent) (w : World) (hV : CfgV c) (hc : CfgOk w (· < w.heap.size) x c) (hI : StInv c s) (hs : StOk w (· < w.heap.size) y s) (ht0 : 0 ≤ e.tenant) (ht1 : e.tenant < s.tenants.length) (hcl : 0 ≤ e.cell ∧ e.cell < s.cells.length) :
    Calls Try.prog 47 #[.agg (cfgC x c), .agg (stC y s), .agg (entC e).toArray] w fun r w' => r = .returned (.int .i64 (migrateE c s e)) ∧ Below w.heap.size w w' := by
  have hnc := hV.nc
  have hntt := hV.nt
  obtain ⟨az, cz, ac, cc, at_, ct, av, cv, ar, cr, ao, co⟩ := x
  have HV := Lib.hid hV
  have HKc := Lib.hid hc
  clear hV hc
  obtain ⟨sat, sct, sac, scc⟩ := y
  have HKs := Lib.hid hs
  have hsl : 1 ≤ s.cells.length ∧ s.cells.length ≤ 16 := by have := hI.lc; omega
  have hst : s.tenants.length ≤ 32 := by have := hI.lt; omega
  have HI := Lib.hid hI
  clear hs hI
  obtain ⟨kind, tick, tenant, cell, other, epoch, since, till, n⟩ := e
  try simp only at *
  obtain ⟨tn, rfl⟩ := Int.eq_ofNat_of_zero_le ht0
  have htn : tn < s.tenants.length := by omega
  obtain ⟨bt, oft, t, rfl, hbt, hzt, hct⟩ := HKs.out.tenants.row (enc := tsC) (sz := 12) (fun _ => rfl) (by omega) htn
  have HT : Hid (tsAt s tn = t) := Lib.hid (by unfold tsAt; rw [Int.toNat_natCast, getD_some hzt])
  have HTI := Lib.hid (HI.out.ten _ (List.mem_of_getElem? hzt))
  have hbt1 : bt < w.heap.size := hbt
  have HR : Hid (migrateE c s ⟨kind, tick, tn, cell, other, epoch, since, till, n⟩ = if t.placed = false ∨ t.shed = true ∨ t.target ≠ -1 then 4 else if cell = t.home ∨ cell = t.standby ∨ cell = t.next then 5 else if modeAt s cell ≠ 1 then 6 else if frozenB c s cell = true then 12 else if mayB c tn cell = false ∨ nearB c cell t.standby = true ∨ nearB c cell t.next = true then 11 else 0) := Lib.hid (by unfold migrateE; rw [HT.out, modeAt_eq hcl])
  have hL : Below w.heap.size w (((w.alloc (.cells #[.int .i64 c.regions, .slice az c.zones.length cz, .slice ac c.cells.length cc, .slice at_ c.tenants.length ct, .slice av c.versions.length cv, .slice ar c.replicas.length cr, .slice ao c.observers.length co, .int .i64 c.blast, .int .i64 c.lease, .int .i64 c.bake] 30)).alloc (.cells #[.int .i64 s.tick, .int .i64 s.count, .slice (some ⟨bt, oft, none⟩) s.tenants.length sct, .slice sac s.cells.length scc, .int .i64 s.proven, .int .i64 s.evac, .int .i64 s.low, .int .i64 s.high] 36)).alloc (.cells #[.int .i64 kind, .int .i64 tick, .int .i64 tn, .int .i64 cell, .int .i64 other, .int .i64 epoch, .int .i64 since, .int .i64 till, .int .i64 n] 45)) := ((((Below.refl w.heap.size w).alloc (by simp <;> omega) (.cells #[.int .i64 c.regions, .slice az c.zones.length cz, .slice ac c.cells.length cc, .slice at_ c.tenants.length ct, .slice av c.versions.length cv, .slice ar c.replicas.length cr, .slice ao c.observers.length co, .int .i64 c.blast, .int .i64 c.lease, .int .i64 c.bake] 30)).alloc (by simp <;> omega) (.cells #[.int .i64 s.tick, .int .i64 s.count, .slice (some ⟨bt, oft, none⟩) s.tenants.length sct, .slice sac s.cells.length scc, .int .i64 s.proven, .int .i64 s.evac, .int .i64 s.low, .int .i64 s.high] 36)).alloc (by simp <;> omega) (.cells #[.int .i64 kind, .int .i64 tick, .int .i64 tn, .int .i64 cell, .int .i64 other, .int .i64 epoch, .int .i64 since, .int .i64 till, .int .i64 n] 45))
  have hBc : Blk (((w.alloc (.cells #[.int .i64 c.regions, .slice az c.zones.length cz, .slice ac c.cells.length cc, .slice at_ c.tenants.length ct, .slice av c.versions.length cv, .slice ar c.replicas.length cr, .slice ao c.observers.length co, .int .i64 c.blast, .int .i64 c.lease, .int .i64 c.bake] 30)).alloc (.cells #[.int .i64 s.tick, .int .i64 s.count, .slice (some ⟨bt, oft, none⟩) s.tenants.length sct, .slice sac s.cells.length scc, .int .i64 s.proven, .int .i64 s.evac, .int .i64 s.low, .int .i64 s.high] 36)).alloc (.cells #[.int .i64 kind, .int .i64 tick, .int .i64 tn, .int .i64 cell, .int .i64 other, .int .i64 epoch, .int .i64 since, .int .i64 till, .int .i64 n] 45)) (w.heap.size) 30 #[.int .i64 c.regions, .slice az c.zones.length cz, .slice ac c.cells.length cc, .slice at_ c.tenants.length ct, .slice av c.versions.length cv, .slice ar c.replicas.length cr, .slice ao c.observers.length co, .int .i64 c.blast, .int .i64 c.lease, .int .i64 c.bake] := by
    have := (((Blk.new w 30 #[.int .i64 c.regions, .slice az c.zones.length cz, .slice ac c.cells.length cc, .slice at_ c.tenants.length ct, .slice av c.versions.length cv, .slice ar c.replicas.length cr, .slice ao c.observers.length co, .int .i64 c.blast, .int .i64 c.lease, .int .i64 c.bake]).alloc (.cells #[.int .i64 s.tick, .int .i64 s.count, .slice (some ⟨bt, oft, none⟩) s.tenants.length sct, .slice sac s.cells.length scc, .int .i64 s.proven, .int .i64 s.evac, .int .i64 s.low, .int .i64 s.high] 36)).alloc (.cells #[.int .i64 kind, .int .i64 tick, .int .i64 tn, .int .i64 cell, .int .i64 other, .int .i64 epoch, .int .i64 since, .int .i64 till, .int .i64 n] 45))
    simpa using this
  have hBs : Blk (((w.alloc (.cells #[.int .i64 c.regions, .slice az c.zones.length cz, .slice ac c.cells.length cc, .slice at_ c.tenants.length ct, .slice av c.versions.length cv, .slice ar c.replicas.length cr, .slice ao c.observers.length co, .int .i64 c.blast, .int .i64 c.lease, .int .i64 c.bake] 30)).alloc (.cells #[.int .i64 s.tick, .int .i64 s.count, .slice (some ⟨bt, oft, none⟩) s.tenants.length sct, .slice sac s.cells.length scc, .int .i64 s.proven, .int .i64 s.evac, .int .i64 s.low, .int .i64 s.high] 36)).alloc (.cells #[.int .i64 kind, .int .i64 tick, .int .i64 tn, .int .i64 cell, .int .i64 other, .int .i64 epoch, .int .i64 since, .int .i64 till, .int .i64 n] 45)) (w.heap.size + 1) 36 #[.int .i64 s.tick, .int .i64 s.count, .slice (some ⟨bt, oft, none⟩) s.tenants.length sct, .slice sac s.cells.length scc, .int .i64 s.proven, .int .i64 s.evac, .int .i64 s.low, .int .i64 s.high] := by
    have := ((Blk.new (w.alloc (.cells #[.int .i64 c.regions, .slice az c.zones.length cz, .slice ac c.cells.length cc, .slice at_ c.tenants.length ct, .slice av c.versions.length cv, .slice ar c.replicas.length cr, .slice ao c.observers.length co, .int .i64 c.blast, .int .i64 c.lease, .int .i64 c.bake] 30)) 36 #[.int .i64 s.tick, .int .i64 s.count, .slice (some ⟨bt, oft, none⟩) s.tenants.length sct, .slice sac s.cells.length scc, .int .i64 s.proven, .int .i64 s.evac, .int .i64 s.low, .int .i64 s.high]).alloc (.cells #[.int .i64 kind, .int .i64 tick, .int .i64 tn, .int .i64 cell, .int .i64 other, .int .i64 epoch, .int .i64 since, .int .i64 till, .int .i64 n] 45))
    simpa using this
  have hBe : Blk (((w.alloc (.cells #[.int .i64 c.regions, .slice az c.zones.length cz, .slice ac c.cells.length cc, .slice at_ c.tenants.length ct, .slice av c.versions.length cv, .slice ar c.replicas.length cr, .slice ao c.observers.length co, .int .i64 c.blast, .int .i64 c.lease, .int .i64 c.bake] 30)).alloc (.cells #[.int .i64 s.tick, .int .i64 s.count, .slice (some ⟨bt, oft, none⟩) s.tenants.length sct, .slice sac s.cells.length scc, .int .i64 s.proven, .int .i64 s.evac, .int .i64 s.low, .int .i64 s.high] 36)).alloc (.cells #[.int .i64 kind, .int .i64 tick, .int .i64 tn, .int .i64 cell, .int .i64 other, .int .i64 epoch, .int .i64 since, .int .i64 till, .int .i64 n] 45)) (w.heap.size + 1 + 1) 45 #[.int .i64 kind, .int .i64 tick, .int .i64 tn, .int .i64 cell, .int .i64 other, .int .i64 epoch, .int .i64 since, .int .i64 till, .int .i64 n] := by
    have := (Blk.new ((w.alloc (.cells #[.int .i64 c.regions, .slice az c.zones.length cz, .slice ac c.cells.length cc, .slice at_ c.tenants.length ct, .slice av c.versions.length cv, .slice ar c.replicas.length cr, .slice ao c.observers.length co, .int .i64 c.blast, .int .i64 c.lease, .int .i64 c.bake] 30)).alloc (.cells #[.int .i64 s.tick, .int .i64 s.count, .slice (some ⟨bt, oft, none⟩) s.tenants.length sct, .slice sac s.cells.length scc, .int .i64 s.proven, .int .i64 s.evac, .int .i64 s.low, .int .i64 s.high] 36)) 45 #[.int .i64 kind, .int .i64 tick, .int .i64 tn, .int .i64 cell, .int .i64 other, .int .i64 epoch, .int .i64 since, .int .i64 till, .int .i64 n])
    simpa using this
  unfold cfgC stC entC
  simp only
  go_enter Try.func47, Try.ntmps47
  go_upto_region 1 with fail
  generalize ((w.alloc _).alloc _).alloc _ = W at *
  have hgc := hBc.lt
  have d0 := hBc.cell' (i := 0) (v := .int .i64 c.regions) rfl
  have d1 := hBc.cell' (i := 1) (v := .slice az c.zones.length cz) rfl
  have d2 := hBc.cell' (i := 2) (v := .slice ac c.cells.length cc) rfl
  have d3 := hBc.cell' (i := 3) (v := .slice at_ c.tenants.length ct) rfl
  have d4 := hBc.cell' (i := 4) (v := .slice av c.versions.length cv) rfl
  have d5 := hBc.cell' (i := 5) (v := .slice ar c.replicas.length cr) rfl
  have d6 := hBc.cell' (i := 6) (v := .slice ao c.observers.length co) rfl
  have d7 := hBc.cell' (i := 7) (v := .int .i64 c.blast) rfl
  have d8 := hBc.cell' (i := 8) (v := .int .i64 c.lease) rfl
  have d9 := hBc.cell' (i := 9) (v := .int .i64 c.bake) rfl
  clear hBc
  have hgs := hBs.lt
  have su0 := hBs.cell' (i := 0) (v := .int .i64 s.tick) rfl
  have su1 := hBs.cell' (i := 1) (v := .int .i64 s.count) rfl
  have su2 := hBs.cell' (i := 2) (v := .slice (some ⟨bt, oft, none⟩) s.tenants.length sct) rfl
  have su3 := hBs.cell' (i := 3) (v := .slice sac s.cells.length scc) rfl
  have su4 := hBs.cell' (i := 4) (v := .int .i64 s.proven) rfl
  have su5 := hBs.cell' (i := 5) (v := .int .i64 s.evac) rfl
  have su6 := hBs.cell' (i := 6) (v := .int .i64 s.low) rfl
  have su7 := hBs.cell' (i := 7) (v := .int .i64 s.high) rfl
  clear hBs
  have hge := hBe.lt
  have v0 := hBe.cell' (i := 0) (v := .int .i64 kind) rfl
  have v1 := hBe.cell' (i := 1) (v := .int .i64 tick) rfl
  have v2 := hBe.cell' (i := 2) (v := .int .i64 tn) rfl
  have v3 := hBe.cell' (i := 3) (v := .int .i64 cell) rfl
  have v4 := hBe.cell' (i := 4) (v := .int .i64 other) rfl
  have v5 := hBe.cell' (i := 5) (v := .int .i64 epoch) rfl
  have v6 := hBe.cell' (i := 6) (v := .int .i64 since) rfl
  have v7 := hBe.cell' (i := 7) (v := .int .i64 till) rfl
  have v8 := hBe.cell' (i := 8) (v := .int .i64 n) rfl
  clear hBe
  have HL := Lib.hid hL
  have HWc := Lib.hid (HKc.out.belowW hL)
  have HWs := Lib.hid (HKs.out.belowW hL)
  clear hL
  have t0 : W.cell? ⟨bt, oft + tn * 12, none⟩ = some (.bool t.placed) := (HL.out.cell (p := ⟨bt, oft + tn * 12, none⟩) hbt1).trans (hct 0 _ rfl)
  have t1 : W.cell? ⟨bt, oft + tn * 12 + 1, none⟩ = some (.bool t.shed) := (HL.out.cell (p := ⟨bt, oft + tn * 12 + 1, none⟩) hbt1).trans (hct 1 _ rfl)
  have t2 : W.cell? ⟨bt, oft + tn * 12 + 2, none⟩ = some (.int .i64 t.home) := (HL.out.cell (p := ⟨bt, oft + tn * 12 + 2, none⟩) hbt1).trans (hct 2 _ rfl)
  have t3 : W.cell? ⟨bt, oft + tn * 12 + 3, none⟩ = some (.int .i64 t.standby) := (HL.out.cell (p := ⟨bt, oft + tn * 12 + 3, none⟩) hbt1).trans (hct 3 _ rfl)
  have t4 : W.cell? ⟨bt, oft + tn * 12 + 4, none⟩ = some (.int .i64 t.next) := (HL.out.cell (p := ⟨bt, oft + tn * 12 + 4, none⟩) hbt1).trans (hct 4 _ rfl)
  have t5 : W.cell? ⟨bt, oft + tn * 12 + 5, none⟩ = some (.int .i64 t.target) := (HL.out.cell (p := ⟨bt, oft + tn * 12 + 5, none⟩) hbt1).trans (hct 5 _ rfl)
  have t6 : W.cell? ⟨bt, oft + tn * 12 + 6, none⟩ = some (.int .i64 t.epoch) := (HL.out.cell (p := ⟨bt, oft + tn * 12 + 6, none⟩) hbt1).trans (hct 6 _ rfl)
  have t7 : W.cell? ⟨bt, oft + tn * 12 + 7, none⟩ = some (.int .i64 t.win.cell) := (HL.out.cell (p := ⟨bt, oft + tn * 12 + 7, none⟩) hbt1).trans (hct 7 _ rfl)
  have t8 : W.cell? ⟨bt, oft + tn * 12 + 8, none⟩ = some (.int .i64 t.win.epoch) := (HL.out.cell (p := ⟨bt, oft + tn * 12 + 8, none⟩) hbt1).trans (hct 8 _ rfl)
  have t9 : W.cell? ⟨bt, oft + tn * 12 + 9, none⟩ = some (.int .i64 t.win.version) := (HL.out.cell (p := ⟨bt, oft + tn * 12 + 9, none⟩) hbt1).trans (hct 9 _ rfl)
  have t10 : W.cell? ⟨bt, oft + tn * 12 + 10, none⟩ = some (.int .i64 t.win.since) := (HL.out.cell (p := ⟨bt, oft + tn * 12 + 10, none⟩) hbt1).trans (hct 10 _ rfl)
  have t11 : W.cell? ⟨bt, oft + tn * 12 + 11, none⟩ = some (.int .i64 t.win.till) := (HL.out.cell (p := ⟨bt, oft + tn * 12 + 11, none⟩) hbt1).trans (hct 11 _ rfl)
  have hbtW : bt < W.heap.size := Nat.lt_of_lt_of_le hbt1 HL.out.size
  clear hct hzt hbt hbt1
  have hBb := Blk.new W 50 #[.bool t.placed, .bool t.shed, .int .i64 t.home, .int .i64 t.standby, .int .i64 t.next, .int .i64 t.target, .int .i64 t.epoch, .int .i64 t.win.cell, .int .i64 t.win.epoch, .int .i64 t.win.version, .int .i64 t.win.since, .int .i64 t.win.till]
  have hL2 := (Below.refl W.heap.size W).alloc (Nat.le_refl _) (.cells #[.bool t.placed, .bool t.shed, .int .i64 t.home, .int .i64 t.standby, .int .i64 t.next, .int .i64 t.target, .int .i64 t.epoch, .int .i64 t.win.cell, .int .i64 t.win.epoch, .int .i64 t.win.version, .int .i64 t.win.since, .int .i64 t.win.till] 50)
  go_upto_region 2 with fail
  clear t0 t1 t2 t3 t4 t5 t6 t7 t8 t9 t10 t11 hbtW
  generalize W.alloc _ = W2 at *
  have p0 := hBb.cell' (i := 0) (v := .bool t.placed) rfl
  have p1 := hBb.cell' (i := 1) (v := .bool t.shed) rfl
  have p2 := hBb.cell' (i := 2) (v := .int .i64 t.home) rfl
  have p3 := hBb.cell' (i := 3) (v := .int .i64 t.standby) rfl
  have p4 := hBb.cell' (i := 4) (v := .int .i64 t.next) rfl
  have p5 := hBb.cell' (i := 5) (v := .int .i64 t.target) rfl
  have p6 := hBb.cell' (i := 6) (v := .int .i64 t.epoch) rfl
  have p7 := hBb.cell' (i := 7) (v := .int .i64 t.win.cell) rfl
  have p8 := hBb.cell' (i := 8) (v := .int .i64 t.win.epoch) rfl
  have p9 := hBb.cell' (i := 9) (v := .int .i64 t.win.version) rfl
  have p10 := hBb.cell' (i := 10) (v := .int .i64 t.win.since) rfl
  have p11 := hBb.cell' (i := 11) (v := .int .i64 t.win.till) rfl
  have hgb := hBb.lt
  clear hBb
  replace d0 : W2.cell? ⟨w.heap.size, 0, none⟩ = some (.int .i64 c.regions) := (hL2.cell (p := ⟨w.heap.size, 0, none⟩) hgc).trans d0
  replace d1 : W2.cell? ⟨w.heap.size, 1, none⟩ = some (.slice az c.zones.length cz) := (hL2.cell (p := ⟨w.heap.size, 1, none⟩) hgc).trans d1
  replace d2 : W2.cell? ⟨w.heap.size, 2, none⟩ = some (.slice ac c.cells.length cc) := (hL2.cell (p := ⟨w.heap.size, 2, none⟩) hgc).trans d2
  replace d3 : W2.cell? ⟨w.heap.size, 3, none⟩ = some (.slice at_ c.tenants.length ct) := (hL2.cell (p := ⟨w.heap.size, 3, none⟩) hgc).trans d3
  replace d4 : W2.cell? ⟨w.heap.size, 4, none⟩ = some (.slice av c.versions.length cv) := (hL2.cell (p := ⟨w.heap.size, 4, none⟩) hgc).trans d4
  replace d5 : W2.cell? ⟨w.heap.size, 5, none⟩ = some (.slice ar c.replicas.length cr) := (hL2.cell (p := ⟨w.heap.size, 5, none⟩) hgc).trans d5
  replace d6 : W2.cell? ⟨w.heap.size, 6, none⟩ = some (.slice ao c.observers.length co) := (hL2.cell (p := ⟨w.heap.size, 6, none⟩) hgc).trans d6
  replace d7 : W2.cell? ⟨w.heap.size, 7, none⟩ = some (.int .i64 c.blast) := (hL2.cell (p := ⟨w.heap.size, 7, none⟩) hgc).trans d7
  replace d8 : W2.cell? ⟨w.heap.size, 8, none⟩ = some (.int .i64 c.lease) := (hL2.cell (p := ⟨w.heap.size, 8, none⟩) hgc).trans d8
  replace d9 : W2.cell? ⟨w.heap.size, 9, none⟩ = some (.int .i64 c.bake) := (hL2.cell (p := ⟨w.heap.size, 9, none⟩) hgc).trans d9
  replace hgc : w.heap.size < W2.heap.size := Nat.lt_of_lt_of_le hgc hL2.size
  replace su0 : W2.cell? ⟨w.heap.size + 1, 0, none⟩ = some (.int .i64 s.tick) := (hL2.cell (p := ⟨w.heap.size + 1, 0, none⟩) hgs).trans su0
  replace su1 : W2.cell? ⟨w.heap.size + 1, 1, none⟩ = some (.int .i64 s.count) := (hL2.cell (p := ⟨w.heap.size + 1, 1, none⟩) hgs).trans su1
  replace su2 : W2.cell? ⟨w.heap.size + 1, 2, none⟩ = some (.slice (some ⟨bt, oft, none⟩) s.tenants.length sct) := (hL2.cell (p := ⟨w.heap.size + 1, 2, none⟩) hgs).trans su2
  replace su3 : W2.cell? ⟨w.heap.size + 1, 3, none⟩ = some (.slice sac s.cells.length scc) := (hL2.cell (p := ⟨w.heap.size + 1, 3, none⟩) hgs).trans su3
  replace su4 : W2.cell? ⟨w.heap.size + 1, 4, none⟩ = some (.int .i64 s.proven) := (hL2.cell (p := ⟨w.heap.size + 1, 4, none⟩) hgs).trans su4
  replace su5 : W2.cell? ⟨w.heap.size + 1, 5, none⟩ = some (.int .i64 s.evac) := (hL2.cell (p := ⟨w.heap.size + 1, 5, none⟩) hgs).trans su5
  replace su6 : W2.cell? ⟨w.heap.size + 1, 6, none⟩ = some (.int .i64 s.low) := (hL2.cell (p := ⟨w.heap.size + 1, 6, none⟩) hgs).trans su6
  replace su7 : W2.cell? ⟨w.heap.size + 1, 7, none⟩ = some (.int .i64 s.high) := (hL2.cell (p := ⟨w.heap.size + 1, 7, none⟩) hgs).trans su7
  replace hgs : w.heap.size + 1 < W2.heap.size := Nat.lt_of_lt_of_le hgs hL2.size
  replace v0 : W2.cell? ⟨w.heap.size + 1 + 1, 0, none⟩ = some (.int .i64 kind) := (hL2.cell (p := ⟨w.heap.size + 1 + 1, 0, none⟩) hge).trans v0
  replace v1 : W2.cell? ⟨w.heap.size + 1 + 1, 1, none⟩ = some (.int .i64 tick) := (hL2.cell (p := ⟨w.heap.size + 1 + 1, 1, none⟩) hge).trans v1
  replace v2 : W2.cell? ⟨w.heap.size + 1 + 1, 2, none⟩ = some (.int .i64 tn) := (hL2.cell (p := ⟨w.heap.size + 1 + 1, 2, none⟩) hge).trans v2
  replace v3 : W2.cell? ⟨w.heap.size + 1 + 1, 3, none⟩ = some (.int .i64 cell) := (hL2.cell (p := ⟨w.heap.size + 1 + 1, 3, none⟩) hge).trans v3
  replace v4 : W2.cell? ⟨w.heap.size + 1 + 1, 4, none⟩ = some (.int .i64 other) := (hL2.cell (p := ⟨w.heap.size + 1 + 1, 4, none⟩) hge).trans v4
  replace v5 : W2.cell? ⟨w.heap.size + 1 + 1, 5, none⟩ = some (.int .i64 epoch) := (hL2.cell (p := ⟨w.heap.size + 1 + 1, 5, none⟩) hge).trans v5
  replace v6 : W2.cell? ⟨w.heap.size + 1 + 1, 6, none⟩ = some (.int .i64 since) := (hL2.cell (p := ⟨w.heap.size + 1 + 1, 6, none⟩) hge).trans v6
  replace v7 : W2.cell? ⟨w.heap.size + 1 + 1, 7, none⟩ = some (.int .i64 till) := (hL2.cell (p := ⟨w.heap.size + 1 + 1, 7, none⟩) hge).trans v7
  replace v8 : W2.cell? ⟨w.heap.size + 1 + 1, 8, none⟩ = some (.int .i64 n) := (hL2.cell (p := ⟨w.heap.size + 1 + 1, 8, none⟩) hge).trans v8
  replace hge : w.heap.size + 1 + 1 < W2.heap.size := Nat.lt_of_lt_of_le hge hL2.size
  replace HWc := Lib.hid (HWc.out.belowW hL2)
  replace HWs := Lib.hid (HWs.out.belowW hL2)
  replace HL := Lib.hid (HL.out.trans (hL2.mono HL.out.size))
  clear hL2
  generalize W.heap.size = gb at *
  have H_mode : Hid (∀ (k : Int) (yy : Later W2.heap.size W2), Calls Try.prog 69 #[.agg #[.int .i64 s.tick, .int .i64 s.count, .slice (some ⟨bt, oft, none⟩) s.tenants.length sct, .slice sac s.cells.length scc, .int .i64 s.proven, .int .i64 s.evac, .int .i64 s.low, .int .i64 s.high], .int .i64 k] yy.world fun e w' => e = .returned (.int .i64 (modeAt s k)) ∧ Below yy.world.heap.size yy.world w') := Lib.hid (fun k yy => stModeOf_any ⟨some ⟨bt, oft, none⟩, sct, sac, scc⟩ s k _ (by omega) (HWs.out.laterW yy))
  have H_froz : Hid (∀ (k : Int) (yy : Later W2.heap.size W2), Calls Try.prog 70 #[.agg #[.int .i64 c.regions, .slice az c.zones.length cz, .slice ac c.cells.length cc, .slice at_ c.tenants.length ct, .slice av c.versions.length cv, .slice ar c.replicas.length cr, .slice ao c.observers.length co, .int .i64 c.blast, .int .i64 c.lease, .int .i64 c.bake], .agg #[.int .i64 s.tick, .int .i64 s.count, .slice (some ⟨bt, oft, none⟩) s.tenants.length sct, .slice sac s.cells.length scc, .int .i64 s.proven, .int .i64 s.evac, .int .i64 s.low, .int .i64 s.high], .int .i64 k] yy.world fun e w' => e = .returned (.bool (frozenB c s k)) ∧ Below yy.world.heap.size yy.world w') := Lib.hid (fun k yy => stFrozen_any ⟨az, cz, ac, cc, at_, ct, av, cv, ar, cr, ao, co⟩ c ⟨some ⟨bt, oft, none⟩, sct, sac, scc⟩ s k _ HV.out (HWc.out.laterW yy) HI.out)
  have H_may : Hid (∀ (k l : Int) (yy : Later W2.heap.size W2), Calls Try.prog 71 #[.agg #[.int .i64 c.regions, .slice az c.zones.length cz, .slice ac c.cells.length cc, .slice at_ c.tenants.length ct, .slice av c.versions.length cv, .slice ar c.replicas.length cr, .slice ao c.observers.length co, .int .i64 c.blast, .int .i64 c.lease, .int .i64 c.bake], .int .i64 k, .int .i64 l] yy.world fun e w' => e = .returned (.bool (mayB c k l)) ∧ Below yy.world.heap.size yy.world w') := Lib.hid (fun k l yy => tenantMay_any ⟨az, cz, ac, cc, at_, ct, av, cv, ar, cr, ao, co⟩ c k l _ HV.out (HWc.out.laterW yy))
  have H_near : Hid (∀ (k l : Int) (yy : Later W2.heap.size W2), Calls Try.prog 72 #[.agg #[.int .i64 c.regions, .slice az c.zones.length cz, .slice ac c.cells.length cc, .slice at_ c.tenants.length ct, .slice av c.versions.length cv, .slice ar c.replicas.length cr, .slice ao c.observers.length co, .int .i64 c.blast, .int .i64 c.lease, .int .i64 c.bake], .int .i64 k, .int .i64 l] yy.world fun e w' => e = .returned (.bool (nearB c k l)) ∧ Below yy.world.heap.size yy.world w') := Lib.hid (fun k l yy => stNear_any ⟨az, cz, ac, cc, at_, ct, av, cv, ar, cr, ao, co⟩ c k l _ HV.out (HWc.out.laterW yy))
  have hx : ∀ (y : Later W2.heap.size W2) b o, b < W2.heap.size → y.world.cell? ⟨b, o, none⟩ = W2.cell? ⟨b, o, none⟩ := fun y b o h => y.cell h
  refine start_later W2.heap.size ?_
  intro y0
  go_wp2_with (first
    | (go_at_call 69; (with_reducible refine (H_mode.out _ _).mono ?_); rintro r wq ⟨rfl, hbq⟩; obtain ⟨yq, rfl⟩ := later_next _ (Nat.le_refl _) hbq; clear hbq)
    | (go_at_call 70; (with_reducible refine (H_froz.out _ _).mono ?_); rintro r wq ⟨rfl, hbq⟩; obtain ⟨yq, rfl⟩ := later_next _ (Nat.le_refl _) hbq; clear hbq)
    | (go_at_call 71; (with_reducible refine (H_may.out _ _ _).mono ?_); rintro r wq ⟨rfl, hbq⟩; obtain ⟨yq, rfl⟩ := later_next _ (Nat.le_refl _) hbq; clear hbq)
    | (go_at_call 72; (with_reducible refine (H_near.out _ _ _).mono ?_); rintro r wq ⟨rfl, hbq⟩; obtain ⟨yq, rfl⟩ := later_next _ (Nat.le_refl _) hbq; clear hbq)
    )
  all_goals
    go_ret
    refine ⟨ret_i64 ?_, (by first | exact HL.out | exact HL.out.trans ((Later.below _).mono HL.out.size))⟩
    rw [HR.out]
    go_light
    clear HR HL
    simp_all
    try omega

set_option maxHeartbeats 2000000 in
set_option maxRecDepth 100000 in
theorem stStandby_any (x : CfgA) (c : Cfg) (y : StA) (s : St) (e : Ent) (w : World) (hV : CfgV c) (hc : CfgOk w (· < w.heap.size) x c) (hI : StInv c s) (hs : StOk w (· < w.heap.size) y s) (ht0 : 0 ≤ e.tenant) (ht1 : e.tenant < s.tenants.length) (hcl : e.cell = -1 ∨ (0 ≤ e.cell ∧ e.cell < s.cells.length)) :
    Calls Try.prog 45 #[.agg (cfgC x c), .agg (stC y s), .agg (entC e).toArray] w fun r w' => r = .returned (.int .i64 (standbyE c s e)) ∧ Below w.heap.size w w' := by
  have hnc := hV.nc
  have hntt := hV.nt
  obtain ⟨az, cz, ac, cc, at_, ct, av, cv, ar, cr, ao, co⟩ := x
  have HV := Lib.hid hV
  have HKc := Lib.hid hc
  clear hV hc
  obtain ⟨sat, sct, sac, scc⟩ := y
  have HKs := Lib.hid hs
  have hsl : 1 ≤ s.cells.length ∧ s.cells.length ≤ 16 := by have := hI.lc; omega
  have hst : s.tenants.length ≤ 32 := by have := hI.lt; omega
  have HI := Lib.hid hI
  clear hs hI
  obtain ⟨kind, tick, tenant, cell, other, epoch, since, till, n⟩ := e
  try simp only at *
  obtain ⟨tn, rfl⟩ := Int.eq_ofNat_of_zero_le ht0
  have htn : tn < s.tenants.length := by omega
  obtain ⟨bt, oft, t, rfl, hbt, hzt, hct⟩ := HKs.out.tenants.row (enc := tsC) (sz := 12) (fun _ => rfl) (by omega) htn
  have HT : Hid (tsAt s tn = t) := Lib.hid (by unfold tsAt; rw [Int.toNat_natCast, getD_some hzt])
  have HTI := Lib.hid (HI.out.ten _ (List.mem_of_getElem? hzt))
  have hbt1 : bt < w.heap.size := hbt
  have HR := Lib.hid (standbyE_m (c := c) (e := ⟨kind, tick, tn, cell, other, epoch, since, till, n⟩) HT.out HTI.out hcl)
  clear hcl
  have hL : Below w.heap.size w (((w.alloc (.cells #[.int .i64 c.regions, .slice az c.zones.length cz, .slice ac c.cells.length cc, .slice at_ c.tenants.length ct, .slice av c.versions.length cv, .slice ar c.replicas.length cr, .slice ao c.observers.length co, .int .i64 c.blast, .int .i64 c.lease, .int .i64 c.bake] 30)).alloc (.cells #[.int .i64 s.tick, .int .i64 s.count, .slice (some ⟨bt, oft, none⟩) s.tenants.length sct, .slice sac s.cells.length scc, .int .i64 s.proven, .int .i64 s.evac, .int .i64 s.low, .int .i64 s.high] 36)).alloc (.cells #[.int .i64 kind, .int .i64 tick, .int .i64 tn, .int .i64 cell, .int .i64 other, .int .i64 epoch, .int .i64 since, .int .i64 till, .int .i64 n] 45)) := ((((Below.refl w.heap.size w).alloc (by simp <;> omega) (.cells #[.int .i64 c.regions, .slice az c.zones.length cz, .slice ac c.cells.length cc, .slice at_ c.tenants.length ct, .slice av c.versions.length cv, .slice ar c.replicas.length cr, .slice ao c.observers.length co, .int .i64 c.blast, .int .i64 c.lease, .int .i64 c.bake] 30)).alloc (by simp <;> omega) (.cells #[.int .i64 s.tick, .int .i64 s.count, .slice (some ⟨bt, oft, none⟩) s.tenants.length sct, .slice sac s.cells.length scc, .int .i64 s.proven, .int .i64 s.evac, .int .i64 s.low, .int .i64 s.high] 36)).alloc (by simp <;> omega) (.cells #[.int .i64 kind, .int .i64 tick, .int .i64 tn, .int .i64 cell, .int .i64 other, .int .i64 epoch, .int .i64 since, .int .i64 till, .int .i64 n] 45))
  have hBc : Blk (((w.alloc (.cells #[.int .i64 c.regions, .slice az c.zones.length cz, .slice ac c.cells.length cc, .slice at_ c.tenants.length ct, .slice av c.versions.length cv, .slice ar c.replicas.length cr, .slice ao c.observers.length co, .int .i64 c.blast, .int .i64 c.lease, .int .i64 c.bake] 30)).alloc (.cells #[.int .i64 s.tick, .int .i64 s.count, .slice (some ⟨bt, oft, none⟩) s.tenants.length sct, .slice sac s.cells.length scc, .int .i64 s.proven, .int .i64 s.evac, .int .i64 s.low, .int .i64 s.high] 36)).alloc (.cells #[.int .i64 kind, .int .i64 tick, .int .i64 tn, .int .i64 cell, .int .i64 other, .int .i64 epoch, .int .i64 since, .int .i64 till, .int .i64 n] 45)) (w.heap.size) 30 #[.int .i64 c.regions, .slice az c.zones.length cz, .slice ac c.cells.length cc, .slice at_ c.tenants.length ct, .slice av c.versions.length cv, .slice ar c.replicas.length cr, .slice ao c.observers.length co, .int .i64 c.blast, .int .i64 c.lease, .int .i64 c.bake] := by
    have := (((Blk.new w 30 #[.int .i64 c.regions, .slice az c.zones.length cz, .slice ac c.cells.length cc, .slice at_ c.tenants.length ct, .slice av c.versions.length cv, .slice ar c.replicas.length cr, .slice ao c.observers.length co, .int .i64 c.blast, .int .i64 c.lease, .int .i64 c.bake]).alloc (.cells #[.int .i64 s.tick, .int .i64 s.count, .slice (some ⟨bt, oft, none⟩) s.tenants.length sct, .slice sac s.cells.length scc, .int .i64 s.proven, .int .i64 s.evac, .int .i64 s.low, .int .i64 s.high] 36)).alloc (.cells #[.int .i64 kind, .int .i64 tick, .int .i64 tn, .int .i64 cell, .int .i64 other, .int .i64 epoch, .int .i64 since, .int .i64 till, .int .i64 n] 45))
    simpa using this
  have hBs : Blk (((w.alloc (.cells #[.int .i64 c.regions, .slice az c.zones.length cz, .slice ac c.cells.length cc, .slice at_ c.tenants.length ct, .slice av c.versions.length cv, .slice ar c.replicas.length cr, .slice ao c.observers.length co, .int .i64 c.blast, .int .i64 c.lease, .int .i64 c.bake] 30)).alloc (.cells #[.int .i64 s.tick, .int .i64 s.count, .slice (some ⟨bt, oft, none⟩) s.tenants.length sct, .slice sac s.cells.length scc, .int .i64 s.proven, .int .i64 s.evac, .int .i64 s.low, .int .i64 s.high] 36)).alloc (.cells #[.int .i64 kind, .int .i64 tick, .int .i64 tn, .int .i64 cell, .int .i64 other, .int .i64 epoch, .int .i64 since, .int .i64 till, .int .i64 n] 45)) (w.heap.size + 1) 36 #[.int .i64 s.tick, .int .i64 s.count, .slice (some ⟨bt, oft, none⟩) s.tenants.length sct, .slice sac s.cells.length scc, .int .i64 s.proven, .int .i64 s.evac, .int .i64 s.low, .int .i64 s.high] := by
    have := ((Blk.new (w.alloc (.cells #[.int .i64 c.regions, .slice az c.zones.length cz, .slice ac c.cells.length cc, .slice at_ c.tenants.length ct, .slice av c.versions.length cv, .slice ar c.replicas.length cr, .slice ao c.observers.length co, .int .i64 c.blast, .int .i64 c.lease, .int .i64 c.bake] 30)) 36 #[.int .i64 s.tick, .int .i64 s.count, .slice (some ⟨bt, oft, none⟩) s.tenants.length sct, .slice sac s.cells.length scc, .int .i64 s.proven, .int .i64 s.evac, .int .i64 s.low, .int .i64 s.high]).alloc (.cells #[.int .i64 kind, .int .i64 tick, .int .i64 tn, .int .i64 cell, .int .i64 other, .int .i64 epoch, .int .i64 since, .int .i64 till, .int .i64 n] 45))
    simpa using this
  have hBe : Blk (((w.alloc (.cells #[.int .i64 c.regions, .slice az c.zones.length cz, .slice ac c.cells.length cc, .slice at_ c.tenants.length ct, .slice av c.versions.length cv, .slice ar c.replicas.length cr, .slice ao c.observers.length co, .int .i64 c.blast, .int .i64 c.lease, .int .i64 c.bake] 30)).alloc (.cells #[.int .i64 s.tick, .int .i64 s.count, .slice (some ⟨bt, oft, none⟩) s.tenants.length sct, .slice sac s.cells.length scc, .int .i64 s.proven, .int .i64 s.evac, .int .i64 s.low, .int .i64 s.high] 36)).alloc (.cells #[.int .i64 kind, .int .i64 tick, .int .i64 tn, .int .i64 cell, .int .i64 other, .int .i64 epoch, .int .i64 since, .int .i64 till, .int .i64 n] 45)) (w.heap.size + 1 + 1) 45 #[.int .i64 kind, .int .i64 tick, .int .i64 tn, .int .i64 cell, .int .i64 other, .int .i64 epoch, .int .i64 since, .int .i64 till, .int .i64 n] := by
    have := (Blk.new ((w.alloc (.cells #[.int .i64 c.regions, .slice az c.zones.length cz, .slice ac c.cells.length cc, .slice at_ c.tenants.length ct, .slice av c.versions.length cv, .slice ar c.replicas.length cr, .slice ao c.observers.length co, .int .i64 c.blast, .int .i64 c.lease, .int .i64 c.bake] 30)).alloc (.cells #[.int .i64 s.tick, .int .i64 s.count, .slice (some ⟨bt, oft, none⟩) s.tenants.length sct, .slice sac s.cells.length scc, .int .i64 s.proven, .int .i64 s.evac, .int .i64 s.low, .int .i64 s.high] 36)) 45 #[.int .i64 kind, .int .i64 tick, .int .i64 tn, .int .i64 cell, .int .i64 other, .int .i64 epoch, .int .i64 since, .int .i64 till, .int .i64 n])
    simpa using this
  unfold cfgC stC entC
  simp only
  go_enter Try.func45, Try.ntmps45
  go_upto_region 1 with fail
  generalize ((w.alloc _).alloc _).alloc _ = W at *
  have hgc := hBc.lt
  have d0 := hBc.cell' (i := 0) (v := .int .i64 c.regions) rfl
  have d1 := hBc.cell' (i := 1) (v := .slice az c.zones.length cz) rfl
  have d2 := hBc.cell' (i := 2) (v := .slice ac c.cells.length cc) rfl
  have d3 := hBc.cell' (i := 3) (v := .slice at_ c.tenants.length ct) rfl
  have d4 := hBc.cell' (i := 4) (v := .slice av c.versions.length cv) rfl
  have d5 := hBc.cell' (i := 5) (v := .slice ar c.replicas.length cr) rfl
  have d6 := hBc.cell' (i := 6) (v := .slice ao c.observers.length co) rfl
  have d7 := hBc.cell' (i := 7) (v := .int .i64 c.blast) rfl
  have d8 := hBc.cell' (i := 8) (v := .int .i64 c.lease) rfl
  have d9 := hBc.cell' (i := 9) (v := .int .i64 c.bake) rfl
  clear hBc
  have hgs := hBs.lt
  have su0 := hBs.cell' (i := 0) (v := .int .i64 s.tick) rfl
  have su1 := hBs.cell' (i := 1) (v := .int .i64 s.count) rfl
  have su2 := hBs.cell' (i := 2) (v := .slice (some ⟨bt, oft, none⟩) s.tenants.length sct) rfl
  have su3 := hBs.cell' (i := 3) (v := .slice sac s.cells.length scc) rfl
  have su4 := hBs.cell' (i := 4) (v := .int .i64 s.proven) rfl
  have su5 := hBs.cell' (i := 5) (v := .int .i64 s.evac) rfl
  have su6 := hBs.cell' (i := 6) (v := .int .i64 s.low) rfl
  have su7 := hBs.cell' (i := 7) (v := .int .i64 s.high) rfl
  clear hBs
  have hge := hBe.lt
  have v0 := hBe.cell' (i := 0) (v := .int .i64 kind) rfl
  have v1 := hBe.cell' (i := 1) (v := .int .i64 tick) rfl
  have v2 := hBe.cell' (i := 2) (v := .int .i64 tn) rfl
  have v3 := hBe.cell' (i := 3) (v := .int .i64 cell) rfl
  have v4 := hBe.cell' (i := 4) (v := .int .i64 other) rfl
  have v5 := hBe.cell' (i := 5) (v := .int .i64 epoch) rfl
  have v6 := hBe.cell' (i := 6) (v := .int .i64 since) rfl
  have v7 := hBe.cell' (i := 7) (v := .int .i64 till) rfl
  have v8 := hBe.cell' (i := 8) (v := .int .i64 n) rfl
  clear hBe
  have HL := Lib.hid hL
  have HWc := Lib.hid (HKc.out.belowW hL)
  have HWs := Lib.hid (HKs.out.belowW hL)
  clear hL
  have t0 : W.cell? ⟨bt, oft + tn * 12, none⟩ = some (.bool t.placed) := (HL.out.cell (p := ⟨bt, oft + tn * 12, none⟩) hbt1).trans (hct 0 _ rfl)
  have t1 : W.cell? ⟨bt, oft + tn * 12 + 1, none⟩ = some (.bool t.shed) := (HL.out.cell (p := ⟨bt, oft + tn * 12 + 1, none⟩) hbt1).trans (hct 1 _ rfl)
  have t2 : W.cell? ⟨bt, oft + tn * 12 + 2, none⟩ = some (.int .i64 t.home) := (HL.out.cell (p := ⟨bt, oft + tn * 12 + 2, none⟩) hbt1).trans (hct 2 _ rfl)
  have t3 : W.cell? ⟨bt, oft + tn * 12 + 3, none⟩ = some (.int .i64 t.standby) := (HL.out.cell (p := ⟨bt, oft + tn * 12 + 3, none⟩) hbt1).trans (hct 3 _ rfl)
  have t4 : W.cell? ⟨bt, oft + tn * 12 + 4, none⟩ = some (.int .i64 t.next) := (HL.out.cell (p := ⟨bt, oft + tn * 12 + 4, none⟩) hbt1).trans (hct 4 _ rfl)
  have t5 : W.cell? ⟨bt, oft + tn * 12 + 5, none⟩ = some (.int .i64 t.target) := (HL.out.cell (p := ⟨bt, oft + tn * 12 + 5, none⟩) hbt1).trans (hct 5 _ rfl)
  have t6 : W.cell? ⟨bt, oft + tn * 12 + 6, none⟩ = some (.int .i64 t.epoch) := (HL.out.cell (p := ⟨bt, oft + tn * 12 + 6, none⟩) hbt1).trans (hct 6 _ rfl)
  have t7 : W.cell? ⟨bt, oft + tn * 12 + 7, none⟩ = some (.int .i64 t.win.cell) := (HL.out.cell (p := ⟨bt, oft + tn * 12 + 7, none⟩) hbt1).trans (hct 7 _ rfl)
  have t8 : W.cell? ⟨bt, oft + tn * 12 + 8, none⟩ = some (.int .i64 t.win.epoch) := (HL.out.cell (p := ⟨bt, oft + tn * 12 + 8, none⟩) hbt1).trans (hct 8 _ rfl)
  have t9 : W.cell? ⟨bt, oft + tn * 12 + 9, none⟩ = some (.int .i64 t.win.version) := (HL.out.cell (p := ⟨bt, oft + tn * 12 + 9, none⟩) hbt1).trans (hct 9 _ rfl)
  have t10 : W.cell? ⟨bt, oft + tn * 12 + 10, none⟩ = some (.int .i64 t.win.since) := (HL.out.cell (p := ⟨bt, oft + tn * 12 + 10, none⟩) hbt1).trans (hct 10 _ rfl)
  have t11 : W.cell? ⟨bt, oft + tn * 12 + 11, none⟩ = some (.int .i64 t.win.till) := (HL.out.cell (p := ⟨bt, oft + tn * 12 + 11, none⟩) hbt1).trans (hct 11 _ rfl)
  have hbtW : bt < W.heap.size := Nat.lt_of_lt_of_le hbt1 HL.out.size
  clear hct hzt hbt hbt1
  have hBb := Blk.new W 50 #[.bool t.placed, .bool t.shed, .int .i64 t.home, .int .i64 t.standby, .int .i64 t.next, .int .i64 t.target, .int .i64 t.epoch, .int .i64 t.win.cell, .int .i64 t.win.epoch, .int .i64 t.win.version, .int .i64 t.win.since, .int .i64 t.win.till]
  have hL2 := (Below.refl W.heap.size W).alloc (Nat.le_refl _) (.cells #[.bool t.placed, .bool t.shed, .int .i64 t.home, .int .i64 t.standby, .int .i64 t.next, .int .i64 t.target, .int .i64 t.epoch, .int .i64 t.win.cell, .int .i64 t.win.epoch, .int .i64 t.win.version, .int .i64 t.win.since, .int .i64 t.win.till] 50)
  go_upto_region 2 with fail
  clear t0 t1 t2 t3 t4 t5 t6 t7 t8 t9 t10 t11 hbtW
  generalize W.alloc _ = W2 at *
  have p0 := hBb.cell' (i := 0) (v := .bool t.placed) rfl
  have p1 := hBb.cell' (i := 1) (v := .bool t.shed) rfl
  have p2 := hBb.cell' (i := 2) (v := .int .i64 t.home) rfl
  have p3 := hBb.cell' (i := 3) (v := .int .i64 t.standby) rfl
  have p4 := hBb.cell' (i := 4) (v := .int .i64 t.next) rfl
  have p5 := hBb.cell' (i := 5) (v := .int .i64 t.target) rfl
  have p6 := hBb.cell' (i := 6) (v := .int .i64 t.epoch) rfl
  have p7 := hBb.cell' (i := 7) (v := .int .i64 t.win.cell) rfl
  have p8 := hBb.cell' (i := 8) (v := .int .i64 t.win.epoch) rfl
  have p9 := hBb.cell' (i := 9) (v := .int .i64 t.win.version) rfl
  have p10 := hBb.cell' (i := 10) (v := .int .i64 t.win.since) rfl
  have p11 := hBb.cell' (i := 11) (v := .int .i64 t.win.till) rfl
  have hgb := hBb.lt
  clear hBb
  replace d0 : W2.cell? ⟨w.heap.size, 0, none⟩ = some (.int .i64 c.regions) := (hL2.cell (p := ⟨w.heap.size, 0, none⟩) hgc).trans d0
  replace d1 : W2.cell? ⟨w.heap.size, 1, none⟩ = some (.slice az c.zones.length cz) := (hL2.cell (p := ⟨w.heap.size, 1, none⟩) hgc).trans d1
  replace d2 : W2.cell? ⟨w.heap.size, 2, none⟩ = some (.slice ac c.cells.length cc) := (hL2.cell (p := ⟨w.heap.size, 2, none⟩) hgc).trans d2
  replace d3 : W2.cell? ⟨w.heap.size, 3, none⟩ = some (.slice at_ c.tenants.length ct) := (hL2.cell (p := ⟨w.heap.size, 3, none⟩) hgc).trans d3
  replace d4 : W2.cell? ⟨w.heap.size, 4, none⟩ = some (.slice av c.versions.length cv) := (hL2.cell (p := ⟨w.heap.size, 4, none⟩) hgc).trans d4
  replace d5 : W2.cell? ⟨w.heap.size, 5, none⟩ = some (.slice ar c.replicas.length cr) := (hL2.cell (p := ⟨w.heap.size, 5, none⟩) hgc).trans d5
  replace d6 : W2.cell? ⟨w.heap.size, 6, none⟩ = some (.slice ao c.observers.length co) := (hL2.cell (p := ⟨w.heap.size, 6, none⟩) hgc).trans d6
  replace d7 : W2.cell? ⟨w.heap.size, 7, none⟩ = some (.int .i64 c.blast) := (hL2.cell (p := ⟨w.heap.size, 7, none⟩) hgc).trans d7
  replace d8 : W2.cell? ⟨w.heap.size, 8, none⟩ = some (.int .i64 c.lease) := (hL2.cell (p := ⟨w.heap.size, 8, none⟩) hgc).trans d8
  replace d9 : W2.cell? ⟨w.heap.size, 9, none⟩ = some (.int .i64 c.bake) := (hL2.cell (p := ⟨w.heap.size, 9, none⟩) hgc).trans d9
  replace hgc : w.heap.size < W2.heap.size := Nat.lt_of_lt_of_le hgc hL2.size
  replace su0 : W2.cell? ⟨w.heap.size + 1, 0, none⟩ = some (.int .i64 s.tick) := (hL2.cell (p := ⟨w.heap.size + 1, 0, none⟩) hgs).trans su0
  replace su1 : W2.cell? ⟨w.heap.size + 1, 1, none⟩ = some (.int .i64 s.count) := (hL2.cell (p := ⟨w.heap.size + 1, 1, none⟩) hgs).trans su1
  replace su2 : W2.cell? ⟨w.heap.size + 1, 2, none⟩ = some (.slice (some ⟨bt, oft, none⟩) s.tenants.length sct) := (hL2.cell (p := ⟨w.heap.size + 1, 2, none⟩) hgs).trans su2
  replace su3 : W2.cell? ⟨w.heap.size + 1, 3, none⟩ = some (.slice sac s.cells.length scc) := (hL2.cell (p := ⟨w.heap.size + 1, 3, none⟩) hgs).trans su3
  replace su4 : W2.cell? ⟨w.heap.size + 1, 4, none⟩ = some (.int .i64 s.proven) := (hL2.cell (p := ⟨w.heap.size + 1, 4, none⟩) hgs).trans su4
  replace su5 : W2.cell? ⟨w.heap.size + 1, 5, none⟩ = some (.int .i64 s.evac) := (hL2.cell (p := ⟨w.heap.size + 1, 5, none⟩) hgs).trans su5
  replace su6 : W2.cell? ⟨w.heap.size + 1, 6, none⟩ = some (.int .i64 s.low) := (hL2.cell (p := ⟨w.heap.size + 1, 6, none⟩) hgs).trans su6
  replace su7 : W2.cell? ⟨w.heap.size + 1, 7, none⟩ = some (.int .i64 s.high) := (hL2.cell (p := ⟨w.heap.size + 1, 7, none⟩) hgs).trans su7
  replace hgs : w.heap.size + 1 < W2.heap.size := Nat.lt_of_lt_of_le hgs hL2.size
  replace v0 : W2.cell? ⟨w.heap.size + 1 + 1, 0, none⟩ = some (.int .i64 kind) := (hL2.cell (p := ⟨w.heap.size + 1 + 1, 0, none⟩) hge).trans v0
  replace v1 : W2.cell? ⟨w.heap.size + 1 + 1, 1, none⟩ = some (.int .i64 tick) := (hL2.cell (p := ⟨w.heap.size + 1 + 1, 1, none⟩) hge).trans v1
  replace v2 : W2.cell? ⟨w.heap.size + 1 + 1, 2, none⟩ = some (.int .i64 tn) := (hL2.cell (p := ⟨w.heap.size + 1 + 1, 2, none⟩) hge).trans v2
  replace v3 : W2.cell? ⟨w.heap.size + 1 + 1, 3, none⟩ = some (.int .i64 cell) := (hL2.cell (p := ⟨w.heap.size + 1 + 1, 3, none⟩) hge).trans v3
  replace v4 : W2.cell? ⟨w.heap.size + 1 + 1, 4, none⟩ = some (.int .i64 other) := (hL2.cell (p := ⟨w.heap.size + 1 + 1, 4, none⟩) hge).trans v4
  replace v5 : W2.cell? ⟨w.heap.size + 1 + 1, 5, none⟩ = some (.int .i64 epoch) := (hL2.cell (p := ⟨w.heap.size + 1 + 1, 5, none⟩) hge).trans v5
  replace v6 : W2.cell? ⟨w.heap.size + 1 + 1, 6, none⟩ = some (.int .i64 since) := (hL2.cell (p := ⟨w.heap.size + 1 + 1, 6, none⟩) hge).trans v6
  replace v7 : W2.cell? ⟨w.heap.size + 1 + 1, 7, none⟩ = some (.int .i64 till) := (hL2.cell (p := ⟨w.heap.size + 1 + 1, 7, none⟩) hge).trans v7
  replace v8 : W2.cell? ⟨w.heap.size + 1 + 1, 8, none⟩ = some (.int .i64 n) := (hL2.cell (p := ⟨w.heap.size + 1 + 1, 8, none⟩) hge).trans v8
  replace hge : w.heap.size + 1 + 1 < W2.heap.size := Nat.lt_of_lt_of_le hge hL2.size
  replace HWc := Lib.hid (HWc.out.belowW hL2)
  replace HWs := Lib.hid (HWs.out.belowW hL2)
  replace HL := Lib.hid (HL.out.trans (hL2.mono HL.out.size))
  clear hL2
  generalize W.heap.size = gb at *
  have H_mode : Hid (∀ (k : Int) (yy : Later W2.heap.size W2), Calls Try.prog 69 #[.agg #[.int .i64 s.tick, .int .i64 s.count, .slice (some ⟨bt, oft, none⟩) s.tenants.length sct, .slice sac s.cells.length scc, .int .i64 s.proven, .int .i64 s.evac, .int .i64 s.low, .int .i64 s.high], .int .i64 k] yy.world fun e w' => e = .returned (.int .i64 (modeAt s k)) ∧ Below yy.world.heap.size yy.world w') := Lib.hid (fun k yy => stModeOf_any ⟨some ⟨bt, oft, none⟩, sct, sac, scc⟩ s k _ (by omega) (HWs.out.laterW yy))
  have H_froz : Hid (∀ (k : Int) (yy : Later W2.heap.size W2), Calls Try.prog 70 #[.agg #[.int .i64 c.regions, .slice az c.zones.length cz, .slice ac c.cells.length cc, .slice at_ c.tenants.length ct, .slice av c.versions.length cv, .slice ar c.replicas.length cr, .slice ao c.observers.length co, .int .i64 c.blast, .int .i64 c.lease, .int .i64 c.bake], .agg #[.int .i64 s.tick, .int .i64 s.count, .slice (some ⟨bt, oft, none⟩) s.tenants.length sct, .slice sac s.cells.length scc, .int .i64 s.proven, .int .i64 s.evac, .int .i64 s.low, .int .i64 s.high], .int .i64 k] yy.world fun e w' => e = .returned (.bool (frozenB c s k)) ∧ Below yy.world.heap.size yy.world w') := Lib.hid (fun k yy => stFrozen_any ⟨az, cz, ac, cc, at_, ct, av, cv, ar, cr, ao, co⟩ c ⟨some ⟨bt, oft, none⟩, sct, sac, scc⟩ s k _ HV.out (HWc.out.laterW yy) HI.out)
  have H_may : Hid (∀ (k l : Int) (yy : Later W2.heap.size W2), Calls Try.prog 71 #[.agg #[.int .i64 c.regions, .slice az c.zones.length cz, .slice ac c.cells.length cc, .slice at_ c.tenants.length ct, .slice av c.versions.length cv, .slice ar c.replicas.length cr, .slice ao c.observers.length co, .int .i64 c.blast, .int .i64 c.lease, .int .i64 c.bake], .int .i64 k, .int .i64 l] yy.world fun e w' => e = .returned (.bool (mayB c k l)) ∧ Below yy.world.heap.size yy.world w') := Lib.hid (fun k l yy => tenantMay_any ⟨az, cz, ac, cc, at_, ct, av, cv, ar, cr, ao, co⟩ c k l _ HV.out (HWc.out.laterW yy))
  have H_near : Hid (∀ (k l : Int) (yy : Later W2.heap.size W2), Calls Try.prog 72 #[.agg #[.int .i64 c.regions, .slice az c.zones.length cz, .slice ac c.cells.length cc, .slice at_ c.tenants.length ct, .slice av c.versions.length cv, .slice ar c.replicas.length cr, .slice ao c.observers.length co, .int .i64 c.blast, .int .i64 c.lease, .int .i64 c.bake], .int .i64 k, .int .i64 l] yy.world fun e w' => e = .returned (.bool (nearB c k l)) ∧ Below yy.world.heap.size yy.world w') := Lib.hid (fun k l yy => stNear_any ⟨az, cz, ac, cc, at_, ct, av, cv, ar, cr, ao, co⟩ c k l _ HV.out (HWc.out.laterW yy))
  have H_apart : Hid (∀ (k l : Int) (yy : Later W2.heap.size W2), Calls Try.prog 73 #[.agg #[.int .i64 c.regions, .slice az c.zones.length cz, .slice ac c.cells.length cc, .slice at_ c.tenants.length ct, .slice av c.versions.length cv, .slice ar c.replicas.length cr, .slice ao c.observers.length co, .int .i64 c.blast, .int .i64 c.lease, .int .i64 c.bake], .int .i64 k, .int .i64 l] yy.world fun e w' => e = .returned (.bool (apartB c k l)) ∧ Below yy.world.heap.size yy.world w') := Lib.hid (fun k l yy => tenantApart_any ⟨az, cz, ac, cc, at_, ct, av, cv, ar, cr, ao, co⟩ c k l _ HV.out (HWc.out.laterW yy))
  have hx : ∀ (y : Later W2.heap.size W2) b o, b < W2.heap.size → y.world.cell? ⟨b, o, none⟩ = W2.cell? ⟨b, o, none⟩ := fun y b o h => y.cell h
  refine start_later W2.heap.size ?_
  intro y0
  go_wp2_with (first
    | (go_at_call 69; (with_reducible refine (H_mode.out _ _).mono ?_); rintro r wq ⟨rfl, hbq⟩; obtain ⟨yq, rfl⟩ := later_next _ (Nat.le_refl _) hbq; clear hbq)
    | (go_at_call 70; (with_reducible refine (H_froz.out _ _).mono ?_); rintro r wq ⟨rfl, hbq⟩; obtain ⟨yq, rfl⟩ := later_next _ (Nat.le_refl _) hbq; clear hbq)
    | (go_at_call 71; (with_reducible refine (H_may.out _ _ _).mono ?_); rintro r wq ⟨rfl, hbq⟩; obtain ⟨yq, rfl⟩ := later_next _ (Nat.le_refl _) hbq; clear hbq)
    | (go_at_call 72; (with_reducible refine (H_near.out _ _ _).mono ?_); rintro r wq ⟨rfl, hbq⟩; obtain ⟨yq, rfl⟩ := later_next _ (Nat.le_refl _) hbq; clear hbq)
    | (go_at_call 73; (with_reducible refine (H_apart.out _ _ _).mono ?_); rintro r wq ⟨rfl, hbq⟩; obtain ⟨yq, rfl⟩ := later_next _ (Nat.le_refl _) hbq; clear hbq)
    )
  all_goals
    go_ret
    refine ⟨ret_i64 ?_, (by first | exact HL.out | exact HL.out.trans ((Later.below _).mono HL.out.size))⟩
    rw [HR.out]
    go_light
    clear HR HL
    simp_all
    try omega
end Go.Proofs.Ytjobcfpnmfjlfaa

namespace Go.Proofs.Ytjobcfpnmfjlfaa
open Go.RowKit
set_option linter.unusedSimpArgs false
set_option linter.unusedVariables false

set_option maxHeartbeats 2000000 in
set_option maxRecDepth 100000 in
theorem stMode_any (c : Cfg) (y : StA) (s : St) (e : Ent) (w : World) (hV : CfgV c) (hI : StInv c s) (hs : StOk w (· < w.heap.size) y s) (hx0 : 0 ≤ e.cell) (hx1 : e.cell < s.cells.length) :
    Calls Try.prog 52 #[.agg (stC y s), .agg (entC e).toArray] w fun r w' => r = .returned (.int .i64 (modeE s e)) ∧ Below w.heap.size w w' := by
  have hnc := hV.nc
  have hntt := hV.nt
  have HV := Lib.hid hV
  clear hV
  obtain ⟨sat, sct, sac, scc⟩ := y
  have HKs := Lib.hid hs
  have hsl : 1 ≤ s.cells.length ∧ s.cells.length ≤ 16 := by have := hI.lc; omega
  have hst : s.tenants.length ≤ 32 := by have := hI.lt; omega
  have HI := Lib.hid hI
  clear hs hI
  obtain ⟨kind, tick, tenant, cell, other, epoch, since, till, n⟩ := e
  try simp only at *
  obtain ⟨xn, rfl⟩ := Int.eq_ofNat_of_zero_le hx0
  have hxn : xn < s.cells.length := by omega
  obtain ⟨bx, ofx, x, rfl, hbx, hzx, hcx⟩ := HKs.out.cells.row (enc := csC) (sz := 4) (fun _ => rfl) (by omega) hxn
  have HX : Hid (csAt s xn = x) := Lib.hid (by unfold csAt; rw [Int.toNat_natCast, getD_some hzx])
  have HXI := Lib.hid (HI.out.cel _ (List.mem_of_getElem? hzx))
  have hbx1 : bx < w.heap.size := hbx
  have HR : Hid (modeE s ⟨kind, tick, tenant, xn, other, epoch, since, till, n⟩ = if x.mode = n then 4 else 0) := Lib.hid (by unfold modeE; rw [HX.out])
  have hL : Below w.heap.size w ((w.alloc (.cells #[.int .i64 s.tick, .int .i64 s.count, .slice sat s.tenants.length sct, .slice (some ⟨bx, ofx, none⟩) s.cells.length scc, .int .i64 s.proven, .int .i64 s.evac, .int .i64 s.low, .int .i64 s.high] 36)).alloc (.cells #[.int .i64 kind, .int .i64 tick, .int .i64 tenant, .int .i64 xn, .int .i64 other, .int .i64 epoch, .int .i64 since, .int .i64 till, .int .i64 n] 45)) := (((Below.refl w.heap.size w).alloc (by simp <;> omega) (.cells #[.int .i64 s.tick, .int .i64 s.count, .slice sat s.tenants.length sct, .slice (some ⟨bx, ofx, none⟩) s.cells.length scc, .int .i64 s.proven, .int .i64 s.evac, .int .i64 s.low, .int .i64 s.high] 36)).alloc (by simp <;> omega) (.cells #[.int .i64 kind, .int .i64 tick, .int .i64 tenant, .int .i64 xn, .int .i64 other, .int .i64 epoch, .int .i64 since, .int .i64 till, .int .i64 n] 45))
  have hBs : Blk ((w.alloc (.cells #[.int .i64 s.tick, .int .i64 s.count, .slice sat s.tenants.length sct, .slice (some ⟨bx, ofx, none⟩) s.cells.length scc, .int .i64 s.proven, .int .i64 s.evac, .int .i64 s.low, .int .i64 s.high] 36)).alloc (.cells #[.int .i64 kind, .int .i64 tick, .int .i64 tenant, .int .i64 xn, .int .i64 other, .int .i64 epoch, .int .i64 since, .int .i64 till, .int .i64 n] 45)) (w.heap.size) 36 #[.int .i64 s.tick, .int .i64 s.count, .slice sat s.tenants.length sct, .slice (some ⟨bx, ofx, none⟩) s.cells.length scc, .int .i64 s.proven, .int .i64 s.evac, .int .i64 s.low, .int .i64 s.high] := by
    have := ((Blk.new w 36 #[.int .i64 s.tick, .int .i64 s.count, .slice sat s.tenants.length sct, .slice (some ⟨bx, ofx, none⟩) s.cells.length scc, .int .i64 s.proven, .int .i64 s.evac, .int .i64 s.low, .int .i64 s.high]).alloc (.cells #[.int .i64 kind, .int .i64 tick, .int .i64 tenant, .int .i64 xn, .int .i64 other, .int .i64 epoch, .int .i64 since, .int .i64 till, .int .i64 n] 45))
    simpa using this
  have hBe : Blk ((w.alloc (.cells #[.int .i64 s.tick, .int .i64 s.count, .slice sat s.tenants.length sct, .slice (some ⟨bx, ofx, none⟩) s.cells.length scc, .int .i64 s.proven, .int .i64 s.evac, .int .i64 s.low, .int .i64 s.high] 36)).alloc (.cells #[.int .i64 kind, .int .i64 tick, .int .i64 tenant, .int .i64 xn, .int .i64 other, .int .i64 epoch, .int .i64 since, .int .i64 till, .int .i64 n] 45)) (w.heap.size + 1) 45 #[.int .i64 kind, .int .i64 tick, .int .i64 tenant, .int .i64 xn, .int .i64 other, .int .i64 epoch, .int .i64 since, .int .i64 till, .int .i64 n] := by
    have := (Blk.new (w.alloc (.cells #[.int .i64 s.tick, .int .i64 s.count, .slice sat s.tenants.length sct, .slice (some ⟨bx, ofx, none⟩) s.cells.length scc, .int .i64 s.proven, .int .i64 s.evac, .int .i64 s.low, .int .i64 s.high] 36)) 45 #[.int .i64 kind, .int .i64 tick, .int .i64 tenant, .int .i64 xn, .int .i64 other, .int .i64 epoch, .int .i64 since, .int .i64 till, .int .i64 n])
    simpa using this
  unfold stC entC
  simp only
  go_enter Try.func52, Try.ntmps52
  go_upto_region 1 with fail
  generalize (w.alloc _).alloc _ = W at *
  have hgs := hBs.lt
  have su0 := hBs.cell' (i := 0) (v := .int .i64 s.tick) rfl
  have su1 := hBs.cell' (i := 1) (v := .int .i64 s.count) rfl
  have su2 := hBs.cell' (i := 2) (v := .slice sat s.tenants.length sct) rfl
  have su3 := hBs.cell' (i := 3) (v := .slice (some ⟨bx, ofx, none⟩) s.cells.length scc) rfl
  have su4 := hBs.cell' (i := 4) (v := .int .i64 s.proven) rfl
  have su5 := hBs.cell' (i := 5) (v := .int .i64 s.evac) rfl
  have su6 := hBs.cell' (i := 6) (v := .int .i64 s.low) rfl
  have su7 := hBs.cell' (i := 7) (v := .int .i64 s.high) rfl
  clear hBs
  have hge := hBe.lt
  have v0 := hBe.cell' (i := 0) (v := .int .i64 kind) rfl
  have v1 := hBe.cell' (i := 1) (v := .int .i64 tick) rfl
  have v2 := hBe.cell' (i := 2) (v := .int .i64 tenant) rfl
  have v3 := hBe.cell' (i := 3) (v := .int .i64 xn) rfl
  have v4 := hBe.cell' (i := 4) (v := .int .i64 other) rfl
  have v5 := hBe.cell' (i := 5) (v := .int .i64 epoch) rfl
  have v6 := hBe.cell' (i := 6) (v := .int .i64 since) rfl
  have v7 := hBe.cell' (i := 7) (v := .int .i64 till) rfl
  have v8 := hBe.cell' (i := 8) (v := .int .i64 n) rfl
  clear hBe
  have HL := Lib.hid hL
  have HWs := Lib.hid (HKs.out.belowW hL)
  clear hL
  have x0 : W.cell? ⟨bx, ofx + xn * 4, none⟩ = some (.int .i64 x.mode) := (HL.out.cell (p := ⟨bx, ofx + xn * 4, none⟩) hbx1).trans (hcx 0 _ rfl)
  have x1 : W.cell? ⟨bx, ofx + xn * 4 + 1, none⟩ = some (.int .i64 x.running) := (HL.out.cell (p := ⟨bx, ofx + xn * 4 + 1, none⟩) hbx1).trans (hcx 1 _ rfl)
  have x2 : W.cell? ⟨bx, ofx + xn * 4 + 2, none⟩ = some (.int .i64 x.wanted) := (HL.out.cell (p := ⟨bx, ofx + xn * 4 + 2, none⟩) hbx1).trans (hcx 2 _ rfl)
  have x3 : W.cell? ⟨bx, ofx + xn * 4 + 3, none⟩ = some (.int .i64 x.since) := (HL.out.cell (p := ⟨bx, ofx + xn * 4 + 3, none⟩) hbx1).trans (hcx 3 _ rfl)
  have hbxW : bx < W.heap.size := Nat.lt_of_lt_of_le hbx1 HL.out.size
  clear hcx hzx hbx hbx1
  have hx : ∀ (y : Later W.heap.size W) b o, b < W.heap.size → y.world.cell? ⟨b, o, none⟩ = W.cell? ⟨b, o, none⟩ := fun y b o h => y.cell h
  refine wp_region_below W.heap.size (by kernel_rfl) (by kernel_rfl) ?_
  repeat (first | go_big_quiet_step ((first | fail)) | quiet_step ((first | fail)))
  refine wpQuiet_nil ?_
  rintro w' ⟨y0, rfl⟩
  clear hx
  go_wp2
  all_goals
    go_ret
    refine ⟨ret_i64 ?_, (by first | exact HL.out | exact HL.out.trans ((Later.below _).mono HL.out.size))⟩
    rw [HR.out]
    go_light
    clear HR HL
    simp_all
    try omega

set_option maxHeartbeats 2000000 in
set_option maxRecDepth 100000 in
theorem stEvac_any (c : Cfg) (y : StA) (s : St) (e : Ent) (w : World) (hV : CfgV c) (hI : StInv c s) (hs : StOk w (· < w.heap.size) y s)  :
    Calls Try.prog 56 #[.agg (stC y s), .agg (entC e).toArray] w fun r w' => r = .returned (.int .i64 (evacE s e)) ∧ Below w.heap.size w w' := by
  have hnc := hV.nc
  have hntt := hV.nt
  have HV := Lib.hid hV
  clear hV
  obtain ⟨sat, sct, sac, scc⟩ := y
  have HKs := Lib.hid hs
  have hsl : 1 ≤ s.cells.length ∧ s.cells.length ≤ 16 := by have := hI.lc; omega
  have hst : s.tenants.length ≤ 32 := by have := hI.lt; omega
  have HI := Lib.hid hI
  clear hs hI
  obtain ⟨kind, tick, tenant, cell, other, epoch, since, till, n⟩ := e
  try simp only at *
  have hev := HI.out.evac
  have HR : Hid (evacE s ⟨kind, tick, tenant, cell, other, epoch, since, till, n⟩ = if hasB s.evac other = decide (n = 1) then 4 else 0) := Lib.hid rfl
  have hL : Below w.heap.size w ((w.alloc (.cells #[.int .i64 s.tick, .int .i64 s.count, .slice sat s.tenants.length sct, .slice sac s.cells.length scc, .int .i64 s.proven, .int .i64 s.evac, .int .i64 s.low, .int .i64 s.high] 36)).alloc (.cells #[.int .i64 kind, .int .i64 tick, .int .i64 tenant, .int .i64 cell, .int .i64 other, .int .i64 epoch, .int .i64 since, .int .i64 till, .int .i64 n] 45)) := (((Below.refl w.heap.size w).alloc (by simp <;> omega) (.cells #[.int .i64 s.tick, .int .i64 s.count, .slice sat s.tenants.length sct, .slice sac s.cells.length scc, .int .i64 s.proven, .int .i64 s.evac, .int .i64 s.low, .int .i64 s.high] 36)).alloc (by simp <;> omega) (.cells #[.int .i64 kind, .int .i64 tick, .int .i64 tenant, .int .i64 cell, .int .i64 other, .int .i64 epoch, .int .i64 since, .int .i64 till, .int .i64 n] 45))
  have hBs : Blk ((w.alloc (.cells #[.int .i64 s.tick, .int .i64 s.count, .slice sat s.tenants.length sct, .slice sac s.cells.length scc, .int .i64 s.proven, .int .i64 s.evac, .int .i64 s.low, .int .i64 s.high] 36)).alloc (.cells #[.int .i64 kind, .int .i64 tick, .int .i64 tenant, .int .i64 cell, .int .i64 other, .int .i64 epoch, .int .i64 since, .int .i64 till, .int .i64 n] 45)) (w.heap.size) 36 #[.int .i64 s.tick, .int .i64 s.count, .slice sat s.tenants.length sct, .slice sac s.cells.length scc, .int .i64 s.proven, .int .i64 s.evac, .int .i64 s.low, .int .i64 s.high] := by
    have := ((Blk.new w 36 #[.int .i64 s.tick, .int .i64 s.count, .slice sat s.tenants.length sct, .slice sac s.cells.length scc, .int .i64 s.proven, .int .i64 s.evac, .int .i64 s.low, .int .i64 s.high]).alloc (.cells #[.int .i64 kind, .int .i64 tick, .int .i64 tenant, .int .i64 cell, .int .i64 other, .int .i64 epoch, .int .i64 since, .int .i64 till, .int .i64 n] 45))
    simpa using this
  have hBe : Blk ((w.alloc (.cells #[.int .i64 s.tick, .int .i64 s.count, .slice sat s.tenants.length sct, .slice sac s.cells.length scc, .int .i64 s.proven, .int .i64 s.evac, .int .i64 s.low, .int .i64 s.high] 36)).alloc (.cells #[.int .i64 kind, .int .i64 tick, .int .i64 tenant, .int .i64 cell, .int .i64 other, .int .i64 epoch, .int .i64 since, .int .i64 till, .int .i64 n] 45)) (w.heap.size + 1) 45 #[.int .i64 kind, .int .i64 tick, .int .i64 tenant, .int .i64 cell, .int .i64 other, .int .i64 epoch, .int .i64 since, .int .i64 till, .int .i64 n] := by
    have := (Blk.new (w.alloc (.cells #[.int .i64 s.tick, .int .i64 s.count, .slice sat s.tenants.length sct, .slice sac s.cells.length scc, .int .i64 s.proven, .int .i64 s.evac, .int .i64 s.low, .int .i64 s.high] 36)) 45 #[.int .i64 kind, .int .i64 tick, .int .i64 tenant, .int .i64 cell, .int .i64 other, .int .i64 epoch, .int .i64 since, .int .i64 till, .int .i64 n])
    simpa using this
  unfold stC entC
  simp only
  go_enter Try.func56, Try.ntmps56
  go_upto_region 1 with fail
  generalize (w.alloc _).alloc _ = W at *
  have hgs := hBs.lt
  have su0 := hBs.cell' (i := 0) (v := .int .i64 s.tick) rfl
  have su1 := hBs.cell' (i := 1) (v := .int .i64 s.count) rfl
  have su2 := hBs.cell' (i := 2) (v := .slice sat s.tenants.length sct) rfl
  have su3 := hBs.cell' (i := 3) (v := .slice sac s.cells.length scc) rfl
  have su4 := hBs.cell' (i := 4) (v := .int .i64 s.proven) rfl
  have su5 := hBs.cell' (i := 5) (v := .int .i64 s.evac) rfl
  have su6 := hBs.cell' (i := 6) (v := .int .i64 s.low) rfl
  have su7 := hBs.cell' (i := 7) (v := .int .i64 s.high) rfl
  clear hBs
  have hge := hBe.lt
  have v0 := hBe.cell' (i := 0) (v := .int .i64 kind) rfl
  have v1 := hBe.cell' (i := 1) (v := .int .i64 tick) rfl
  have v2 := hBe.cell' (i := 2) (v := .int .i64 tenant) rfl
  have v3 := hBe.cell' (i := 3) (v := .int .i64 cell) rfl
  have v4 := hBe.cell' (i := 4) (v := .int .i64 other) rfl
  have v5 := hBe.cell' (i := 5) (v := .int .i64 epoch) rfl
  have v6 := hBe.cell' (i := 6) (v := .int .i64 since) rfl
  have v7 := hBe.cell' (i := 7) (v := .int .i64 till) rfl
  have v8 := hBe.cell' (i := 8) (v := .int .i64 n) rfl
  clear hBe
  have HL := Lib.hid hL
  have HWs := Lib.hid (HKs.out.belowW hL)
  clear hL
  have hx : ∀ (y : Later W.heap.size W) b o, b < W.heap.size → y.world.cell? ⟨b, o, none⟩ = W.cell? ⟨b, o, none⟩ := fun y b o h => y.cell h
  refine wp_region_below W.heap.size (by kernel_rfl) (by kernel_rfl) ?_
  repeat (first | go_big_quiet_step ((first | (go_at_call 75; exact quiet_sameW _ (stHas_any _ _ _ (by omega) (by omega))))) | quiet_step ((first | (go_at_call 75; exact quiet_sameW _ (stHas_any _ _ _ (by omega) (by omega))))))
  refine wpQuiet_nil ?_
  rintro w' ⟨y0, rfl⟩
  clear hx
  go_wp2
  all_goals
    go_ret
    refine ⟨ret_i64 ?_, (by first | exact HL.out | exact HL.out.trans ((Later.below _).mono HL.out.size))⟩
    rw [HR.out]
    go_light
    clear HR HL
    have e1 : (n == 1) = decide (n = 1) := (by rw [Bool.eq_iff_iff]; simp); rw [e1] at *; generalize hasB s.evac other = hb at *; cases hb <;> by_cases hn : n = 1 <;> simp_all
    try omega

set_option maxHeartbeats 2000000 in
set_option maxRecDepth 100000 in
theorem stContract_any (c : Cfg) (y : StA) (s : St) (w : World) (hV : CfgV c) (hI : StInv c s) (hs : StOk w (· < w.heap.size) y s)  :
    Calls Try.prog 58 #[.agg (stC y s)] w fun r w' => r = .returned (.int .i64 (contractE s)) ∧ Below w.heap.size w w' := by
  have hnc := hV.nc
  have hntt := hV.nt
  have HV := Lib.hid hV
  clear hV
  obtain ⟨sat, sct, sac, scc⟩ := y
  have HKs := Lib.hid hs
  have hsl : 1 ≤ s.cells.length ∧ s.cells.length ≤ 16 := by have := hI.lc; omega
  have hst : s.tenants.length ≤ 32 := by have := hI.lt; omega
  have HI := Lib.hid hI
  clear hs hI
  have HR : Hid (contractE s = if s.high = s.low then 4 else 0) := Lib.hid rfl
  have hL : Below w.heap.size w (w.alloc (.cells #[.int .i64 s.tick, .int .i64 s.count, .slice sat s.tenants.length sct, .slice sac s.cells.length scc, .int .i64 s.proven, .int .i64 s.evac, .int .i64 s.low, .int .i64 s.high] 36)) := ((Below.refl w.heap.size w).alloc (by simp <;> omega) (.cells #[.int .i64 s.tick, .int .i64 s.count, .slice sat s.tenants.length sct, .slice sac s.cells.length scc, .int .i64 s.proven, .int .i64 s.evac, .int .i64 s.low, .int .i64 s.high] 36))
  have hBs : Blk (w.alloc (.cells #[.int .i64 s.tick, .int .i64 s.count, .slice sat s.tenants.length sct, .slice sac s.cells.length scc, .int .i64 s.proven, .int .i64 s.evac, .int .i64 s.low, .int .i64 s.high] 36)) (w.heap.size) 36 #[.int .i64 s.tick, .int .i64 s.count, .slice sat s.tenants.length sct, .slice sac s.cells.length scc, .int .i64 s.proven, .int .i64 s.evac, .int .i64 s.low, .int .i64 s.high] := by
    have := (Blk.new w 36 #[.int .i64 s.tick, .int .i64 s.count, .slice sat s.tenants.length sct, .slice sac s.cells.length scc, .int .i64 s.proven, .int .i64 s.evac, .int .i64 s.low, .int .i64 s.high])
    simpa using this
  unfold stC
  simp only
  go_enter Try.func58, Try.ntmps58
  go_upto_region 1 with fail
  generalize w.alloc _ = W at *
  have hgs := hBs.lt
  have su0 := hBs.cell' (i := 0) (v := .int .i64 s.tick) rfl
  have su1 := hBs.cell' (i := 1) (v := .int .i64 s.count) rfl
  have su2 := hBs.cell' (i := 2) (v := .slice sat s.tenants.length sct) rfl
  have su3 := hBs.cell' (i := 3) (v := .slice sac s.cells.length scc) rfl
  have su4 := hBs.cell' (i := 4) (v := .int .i64 s.proven) rfl
  have su5 := hBs.cell' (i := 5) (v := .int .i64 s.evac) rfl
  have su6 := hBs.cell' (i := 6) (v := .int .i64 s.low) rfl
  have su7 := hBs.cell' (i := 7) (v := .int .i64 s.high) rfl
  clear hBs
  have HL := Lib.hid hL
  have HWs := Lib.hid (HKs.out.belowW hL)
  clear hL
  go_wp2
  all_goals
    go_ret
    refine ⟨ret_i64 ?_, (by first | exact HL.out | exact HL.out.trans ((Later.below _).mono HL.out.size))⟩
    rw [HR.out]
    go_light
    clear HR HL
    simp_all
    try omega

set_option maxHeartbeats 2000000 in
theorem stBooks_any (e : Ent) (w : World) : Calls Try.prog 30 #[.agg (entC e).toArray] w fun r w' => r = .returned (.bool (booksB e)) ∧ Below w.heap.size w w' := by
  obtain ⟨kind, tick, tenant, cell, other, epoch, since, till, n⟩ := e
  unfold entC
  go_enter Try.func30, Try.ntmps30
  go_wp2
  all_goals
    go_ret
    refine ⟨ret_bool ?_, (Below.refl _ _).alloc (Nat.le_refl _) _⟩
    go_light
    rw [Bool.eq_iff_iff]
    simp_all [booksB]
end Go.Proofs.Ytjobcfpnmfjlfaa

namespace Go.Proofs.Ytjobcfpnmfjlfaa
open Go.RowKit
set_option linter.unusedSimpArgs false
set_option linter.unusedVariables false

theorem any_take_no {α : Type} {l : List α} {p : α → Bool} (h : ∀ (k : Nat) (x : α), l[k]? = some x → p x = false) : l.any p = false := by
  rw [Bool.eq_false_iff]
  intro h2
  obtain ⟨x, hx, hp⟩ := List.any_eq_true.1 h2
  obtain ⟨k, hk, he⟩ := List.getElem_of_mem hx
  rw [h k x (by rw [List.getElem?_eq_getElem hk, he])] at hp
  cases hp
theorem any_yes {α : Type} {l : List α} {p : α → Bool} {k : Nat} {x : α} (h : l[k]? = some x) (hp : p x = true) : l.any p = true := List.any_eq_true.2 ⟨x, List.mem_of_getElem? h, hp⟩
theorem none_next {α : Type} {l : List α} {p : α → Bool} {k : Nat} {z : α} (h : ∀ (j : Nat) (x : α), j < k → l[j]? = some x → p x = false) (hz : l[k]? = some z) (hp : p z = false) : ∀ (j : Nat) (x : α), j < k + 1 → l[j]? = some x → p x = false := by
  intro j x hj hx
  by_cases hjk : j < k
  · exact h j x hjk hx
  · obtain rfl : j = k := by omega
    rw [hz] at hx
    injection hx with hx
    rw [← hx]
    exact hp
theorem any_none {α : Type} {l : List α} {p : α → Bool} {k : Nat} (h : ∀ (j : Nat) (x : α), j < k → l[j]? = some x → p x = false) (hk : l.length ≤ k) : l.any p = false :=
  any_take_no fun j x hx => h j x (Nat.lt_of_lt_of_le (List.getElem?_eq_some_iff.1 hx).1 hk) hx
/-- A loop over a list: none of the first k elements is wanted. -/
def NoneRel {α : Type} (W : World) (l : List α) (p : α → Bool) (gk : Nat) (si : Value) (wr : World) : Prop :=
  ∃ (k : Nat) (y : Later W.heap.size W), gk + k = l.length ∧ si = .int .i64 k ∧ wr = y.world ∧ ∀ (j : Nat) (x : α), j < k → l[j]? = some x → p x = false

set_option maxHeartbeats 2000000 in
set_option maxRecDepth 100000 in
theorem stProve_any (x : CfgA) (c : Cfg) (y : StA) (s : St) (e : Ent) (w : World) (hV : CfgV c) (hc : CfgOk w (· < w.heap.size) x c) (hI : StInv c s) (hs : StOk w (· < w.heap.size) y s) (htk : 0 ≤ e.tick ∧ e.tick ≤ 1073741824) :
    Calls Try.prog 55 #[.agg (cfgC x c), .agg (stC y s), .agg (entC e).toArray] w fun r w' => r = .returned (.int .i64 (proveE c s e)) ∧ Below w.heap.size w w' := by
  have hnc := hV.nc
  have hntt := hV.nt
  obtain ⟨az, cz, ac, cc, at_, ct, av, cv, ar, cr, ao, co⟩ := x
  have HV := Lib.hid hV
  have HKc := Lib.hid hc
  clear hV hc
  obtain ⟨sat, sct, sac, scc⟩ := y
  have HKs := Lib.hid hs
  have hsl : 1 ≤ s.cells.length ∧ s.cells.length ≤ 16 := by have := hI.lc; omega
  have hst : s.tenants.length ≤ 32 := by have := hI.lt; omega
  have HI := Lib.hid hI
  clear hs hI
  obtain ⟨kind, tick, tenant, cell, other, epoch, since, till, n⟩ := e
  try simp only at *
  have hpr := HI.out.proven
  have hbk := HV.out.bake
  have HR : Hid (proveE c s ⟨kind, tick, tenant, cell, other, epoch, since, till, n⟩ = if hasB s.proven n = true then 4 else if s.cells.any (bakedB c ⟨kind, tick, tenant, cell, other, epoch, since, till, n⟩) = true then 0 else 15) := Lib.hid rfl
  have hL : Below w.heap.size w (((w.alloc (.cells #[.int .i64 c.regions, .slice az c.zones.length cz, .slice ac c.cells.length cc, .slice at_ c.tenants.length ct, .slice av c.versions.length cv, .slice ar c.replicas.length cr, .slice ao c.observers.length co, .int .i64 c.blast, .int .i64 c.lease, .int .i64 c.bake] 30)).alloc (.cells #[.int .i64 s.tick, .int .i64 s.count, .slice sat s.tenants.length sct, .slice sac s.cells.length scc, .int .i64 s.proven, .int .i64 s.evac, .int .i64 s.low, .int .i64 s.high] 36)).alloc (.cells #[.int .i64 kind, .int .i64 tick, .int .i64 tenant, .int .i64 cell, .int .i64 other, .int .i64 epoch, .int .i64 since, .int .i64 till, .int .i64 n] 45)) := ((((Below.refl w.heap.size w).alloc (by simp <;> omega) (.cells #[.int .i64 c.regions, .slice az c.zones.length cz, .slice ac c.cells.length cc, .slice at_ c.tenants.length ct, .slice av c.versions.length cv, .slice ar c.replicas.length cr, .slice ao c.observers.length co, .int .i64 c.blast, .int .i64 c.lease, .int .i64 c.bake] 30)).alloc (by simp <;> omega) (.cells #[.int .i64 s.tick, .int .i64 s.count, .slice sat s.tenants.length sct, .slice sac s.cells.length scc, .int .i64 s.proven, .int .i64 s.evac, .int .i64 s.low, .int .i64 s.high] 36)).alloc (by simp <;> omega) (.cells #[.int .i64 kind, .int .i64 tick, .int .i64 tenant, .int .i64 cell, .int .i64 other, .int .i64 epoch, .int .i64 since, .int .i64 till, .int .i64 n] 45))
  have hBc : Blk (((w.alloc (.cells #[.int .i64 c.regions, .slice az c.zones.length cz, .slice ac c.cells.length cc, .slice at_ c.tenants.length ct, .slice av c.versions.length cv, .slice ar c.replicas.length cr, .slice ao c.observers.length co, .int .i64 c.blast, .int .i64 c.lease, .int .i64 c.bake] 30)).alloc (.cells #[.int .i64 s.tick, .int .i64 s.count, .slice sat s.tenants.length sct, .slice sac s.cells.length scc, .int .i64 s.proven, .int .i64 s.evac, .int .i64 s.low, .int .i64 s.high] 36)).alloc (.cells #[.int .i64 kind, .int .i64 tick, .int .i64 tenant, .int .i64 cell, .int .i64 other, .int .i64 epoch, .int .i64 since, .int .i64 till, .int .i64 n] 45)) (w.heap.size) 30 #[.int .i64 c.regions, .slice az c.zones.length cz, .slice ac c.cells.length cc, .slice at_ c.tenants.length ct, .slice av c.versions.length cv, .slice ar c.replicas.length cr, .slice ao c.observers.length co, .int .i64 c.blast, .int .i64 c.lease, .int .i64 c.bake] := by
    have := (((Blk.new w 30 #[.int .i64 c.regions, .slice az c.zones.length cz, .slice ac c.cells.length cc, .slice at_ c.tenants.length ct, .slice av c.versions.length cv, .slice ar c.replicas.length cr, .slice ao c.observers.length co, .int .i64 c.blast, .int .i64 c.lease, .int .i64 c.bake]).alloc (.cells #[.int .i64 s.tick, .int .i64 s.count, .slice sat s.tenants.length sct, .slice sac s.cells.length scc, .int .i64 s.proven, .int .i64 s.evac, .int .i64 s.low, .int .i64 s.high] 36)).alloc (.cells #[.int .i64 kind, .int .i64 tick, .int .i64 tenant, .int .i64 cell, .int .i64 other, .int .i64 epoch, .int .i64 since, .int .i64 till, .int .i64 n] 45))
    simpa using this
  have hBs : Blk (((w.alloc (.cells #[.int .i64 c.regions, .slice az c.zones.length cz, .slice ac c.cells.length cc, .slice at_ c.tenants.length ct, .slice av c.versions.length cv, .slice ar c.replicas.length cr, .slice ao c.observers.length co, .int .i64 c.blast, .int .i64 c.lease, .int .i64 c.bake] 30)).alloc (.cells #[.int .i64 s.tick, .int .i64 s.count, .slice sat s.tenants.length sct, .slice sac s.cells.length scc, .int .i64 s.proven, .int .i64 s.evac, .int .i64 s.low, .int .i64 s.high] 36)).alloc (.cells #[.int .i64 kind, .int .i64 tick, .int .i64 tenant, .int .i64 cell, .int .i64 other, .int .i64 epoch, .int .i64 since, .int .i64 till, .int .i64 n] 45)) (w.heap.size + 1) 36 #[.int .i64 s.tick, .int .i64 s.count, .slice sat s.tenants.length sct, .slice sac s.cells.length scc, .int .i64 s.proven, .int .i64 s.evac, .int .i64 s.low, .int .i64 s.high] := by
    have := ((Blk.new (w.alloc (.cells #[.int .i64 c.regions, .slice az c.zones.length cz, .slice ac c.cells.length cc, .slice at_ c.tenants.length ct, .slice av c.versions.length cv, .slice ar c.replicas.length cr, .slice ao c.observers.length co, .int .i64 c.blast, .int .i64 c.lease, .int .i64 c.bake] 30)) 36 #[.int .i64 s.tick, .int .i64 s.count, .slice sat s.tenants.length sct, .slice sac s.cells.length scc, .int .i64 s.proven, .int .i64 s.evac, .int .i64 s.low, .int .i64 s.high]).alloc (.cells #[.int .i64 kind, .int .i64 tick, .int .i64 tenant, .int .i64 cell, .int .i64 other, .int .i64 epoch, .int .i64 since, .int .i64 till, .int .i64 n] 45))
    simpa using this
  have hBe : Blk (((w.alloc (.cells #[.int .i64 c.regions, .slice az c.zones.length cz, .slice ac c.cells.length cc, .slice at_ c.tenants.length ct, .slice av c.versions.length cv, .slice ar c.replicas.length cr, .slice ao c.observers.length co, .int .i64 c.blast, .int .i64 c.lease, .int .i64 c.bake] 30)).alloc (.cells #[.int .i64 s.tick, .int .i64 s.count, .slice sat s.tenants.length sct, .slice sac s.cells.length scc, .int .i64 s.proven, .int .i64 s.evac, .int .i64 s.low, .int .i64 s.high] 36)).alloc (.cells #[.int .i64 kind, .int .i64 tick, .int .i64 tenant, .int .i64 cell, .int .i64 other, .int .i64 epoch, .int .i64 since, .int .i64 till, .int .i64 n] 45)) (w.heap.size + 1 + 1) 45 #[.int .i64 kind, .int .i64 tick, .int .i64 tenant, .int .i64 cell, .int .i64 other, .int .i64 epoch, .int .i64 since, .int .i64 till, .int .i64 n] := by
    have := (Blk.new ((w.alloc (.cells #[.int .i64 c.regions, .slice az c.zones.length cz, .slice ac c.cells.length cc, .slice at_ c.tenants.length ct, .slice av c.versions.length cv, .slice ar c.replicas.length cr, .slice ao c.observers.length co, .int .i64 c.blast, .int .i64 c.lease, .int .i64 c.bake] 30)).alloc (.cells #[.int .i64 s.tick, .int .i64 s.count, .slice sat s.tenants.length sct, .slice sac s.cells.length scc, .int .i64 s.proven, .int .i64 s.evac, .int .i64 s.low, .int .i64 s.high] 36)) 45 #[.int .i64 kind, .int .i64 tick, .int .i64 tenant, .int .i64 cell, .int .i64 other, .int .i64 epoch, .int .i64 since, .int .i64 till, .int .i64 n])
    simpa using this
  unfold cfgC stC entC
  simp only
  go_enter Try.func55, Try.ntmps55
  go_upto_region 1 with fail
  generalize ((w.alloc _).alloc _).alloc _ = W at *
  have hgc := hBc.lt
  have d0 := hBc.cell' (i := 0) (v := .int .i64 c.regions) rfl
  have d1 := hBc.cell' (i := 1) (v := .slice az c.zones.length cz) rfl
  have d2 := hBc.cell' (i := 2) (v := .slice ac c.cells.length cc) rfl
  have d3 := hBc.cell' (i := 3) (v := .slice at_ c.tenants.length ct) rfl
  have d4 := hBc.cell' (i := 4) (v := .slice av c.versions.length cv) rfl
  have d5 := hBc.cell' (i := 5) (v := .slice ar c.replicas.length cr) rfl
  have d6 := hBc.cell' (i := 6) (v := .slice ao c.observers.length co) rfl
  have d7 := hBc.cell' (i := 7) (v := .int .i64 c.blast) rfl
  have d8 := hBc.cell' (i := 8) (v := .int .i64 c.lease) rfl
  have d9 := hBc.cell' (i := 9) (v := .int .i64 c.bake) rfl
  clear hBc
  have hgs := hBs.lt
  have su0 := hBs.cell' (i := 0) (v := .int .i64 s.tick) rfl
  have su1 := hBs.cell' (i := 1) (v := .int .i64 s.count) rfl
  have su2 := hBs.cell' (i := 2) (v := .slice sat s.tenants.length sct) rfl
  have su3 := hBs.cell' (i := 3) (v := .slice sac s.cells.length scc) rfl
  have su4 := hBs.cell' (i := 4) (v := .int .i64 s.proven) rfl
  have su5 := hBs.cell' (i := 5) (v := .int .i64 s.evac) rfl
  have su6 := hBs.cell' (i := 6) (v := .int .i64 s.low) rfl
  have su7 := hBs.cell' (i := 7) (v := .int .i64 s.high) rfl
  clear hBs
  have hge := hBe.lt
  have v0 := hBe.cell' (i := 0) (v := .int .i64 kind) rfl
  have v1 := hBe.cell' (i := 1) (v := .int .i64 tick) rfl
  have v2 := hBe.cell' (i := 2) (v := .int .i64 tenant) rfl
  have v3 := hBe.cell' (i := 3) (v := .int .i64 cell) rfl
  have v4 := hBe.cell' (i := 4) (v := .int .i64 other) rfl
  have v5 := hBe.cell' (i := 5) (v := .int .i64 epoch) rfl
  have v6 := hBe.cell' (i := 6) (v := .int .i64 since) rfl
  have v7 := hBe.cell' (i := 7) (v := .int .i64 till) rfl
  have v8 := hBe.cell' (i := 8) (v := .int .i64 n) rfl
  clear hBe
  have HL := Lib.hid hL
  have HWc := Lib.hid (HKc.out.belowW hL)
  have HWs := Lib.hid (HKs.out.belowW hL)
  clear hL
  have hx : ∀ (y : Later W.heap.size W) b o, b < W.heap.size → y.world.cell? ⟨b, o, none⟩ = W.cell? ⟨b, o, none⟩ := fun y b o h => y.cell h
  refine start_later W.heap.size ?_
  intro y0
  go_wp2_with (first
    | (go_at_call 75; (with_reducible refine (stHas_any _ _ _ (by omega) (by omega)).mono ?_); rintro r wq ⟨rfl, rfl⟩)
    )
  · go_ret
    refine ⟨ret_i64 ?_, (by first | exact HL.out | exact HL.out.trans ((Later.below _).mono HL.out.size))⟩
    rw [HR.out]
    simp_all
  · have hno : hasB s.proven n = false := by simp_all
    have HN := Lib.hid hno
    rw [hno]
    clear hno
    have hz : ∀ (y : Later W.heap.size W) b, b < W.heap.size → b < y.world.heap.size := fun y b h => Nat.lt_of_lt_of_le h y.below.size
    go_loopg [17] s.cells.length (fun gk si wr => NoneRel W s.cells (bakedB c ⟨kind, tick, tenant, cell, other, epoch, since, till, n⟩) gk si wr)
    case atStart => exact ⟨0, y0, by omega, rfl, rfl, fun j x h => absurd h (Nat.not_lt_zero _)⟩
    case round =>
      rename_i J K aJ aK
      obtain ⟨k, y, hgk, rfl, rfl, hnone⟩ := hrel
      have HNo := Lib.hid hnone
      clear hnone
      by_cases hk : k < s.cells.length
      · obtain ⟨b, off, z, rfl, hb, hzz, hcell⟩ := HWs.out.cells.row (enc := csC) (sz := 4) (fun _ => rfl) (by omega) hk
        have hbW : b < W.heap.size := hb
        have e0 := hcell 0 (.int .i64 z.mode) rfl
        have e1 := hcell 1 (.int .i64 z.running) rfl
        have e2 := hcell 2 (.int .i64 z.wanted) rfl
        have e3 := hcell 3 (.int .i64 z.since) rfl
        simp only [Nat.add_zero] at e0
        have hzi := HI.out.cel _ (List.mem_of_getElem? hzz)
        have hsi := hzi.since
        have HZ := Lib.hid hzz
        have HNX := Lib.hid (none_next HNo.out hzz)
        clear hcell hzz hzi hb HNo
        have hlt : (k : Int) < (s.cells.length : Int) := by omega
        go_wp2
        all_goals first
          | (go_roundg (gk - 1)
             case measure => omega
             case rel =>
               refine ⟨k + 1, ⟨_, y.below.alloc y.below.size _⟩, by omega, by go_num, rfl, HNX.out ?_⟩
               go_light; (first | (simp [bakedB, *]; done) | (simp [bakedB]; omega) | (simp_all [bakedB]; done) | (simp_all [bakedB]; omega)))
          | (go_ret
             refine ⟨ret_i64 ?_, HL.out.trans ((y.below.alloc y.below.size _).mono HL.out.size)⟩
             have hyes : (bakedB c ⟨kind, tick, tenant, cell, other, epoch, since, till, n⟩) z = true := (by go_light; (first | (simp [bakedB, *]; done) | (simp [bakedB]; omega) | (simp_all [bakedB]; done) | (simp_all [bakedB]; omega)))
             rw [HR.out, any_yes HZ.out hyes]
             simp [HN.out])
      · have hge : ¬ (k : Int) < (s.cells.length : Int) := by omega
        have HA := Lib.hid (any_none (l := s.cells) HNo.out (by omega))
        clear HNo
        go_wp2
        go_ret
        refine ⟨ret_i64 ?_, HL.out.trans (y.below.mono HL.out.size)⟩
        rw [HR.out, HA.out]
        simp [HN.out]

set_option maxHeartbeats 2000000 in
set_option maxRecDepth 100000 in
theorem stRuns_any (c : Cfg) (y : StA) (s : St) (e : Ent) (w : World) (hV : CfgV c) (hI : StInv c s) (hs : StOk w (· < w.heap.size) y s) (hx0 : 0 ≤ e.cell) (hx1 : e.cell < s.cells.length) :
    Calls Try.prog 54 #[.agg (stC y s), .agg (entC e).toArray] w fun r w' => r = .returned (.int .i64 (runsE s e)) ∧ Below w.heap.size w w' := by
  have hnc := hV.nc
  have hntt := hV.nt
  have HV := Lib.hid hV
  clear hV
  obtain ⟨sat, sct, sac, scc⟩ := y
  have HKs := Lib.hid hs
  have hsl : 1 ≤ s.cells.length ∧ s.cells.length ≤ 16 := by have := hI.lc; omega
  have hst : s.tenants.length ≤ 32 := by have := hI.lt; omega
  have HI := Lib.hid hI
  clear hs hI
  obtain ⟨kind, tick, tenant, cell, other, epoch, since, till, n⟩ := e
  try simp only at *
  obtain ⟨xn, rfl⟩ := Int.eq_ofNat_of_zero_le hx0
  have hxn : xn < s.cells.length := by omega
  obtain ⟨bx, ofx, x, rfl, hbx, hzx, hcx⟩ := HKs.out.cells.row (enc := csC) (sz := 4) (fun _ => rfl) (by omega) hxn
  have HX : Hid (csAt s xn = x) := Lib.hid (by unfold csAt; rw [Int.toNat_natCast, getD_some hzx])
  have HXI := Lib.hid (HI.out.cel _ (List.mem_of_getElem? hzx))
  have hbx1 : bx < w.heap.size := hbx
  have hpr := HI.out.proven
  have HR : Hid (runsE s ⟨kind, tick, tenant, xn, other, epoch, since, till, n⟩ = if x.wanted ≠ n ∨ x.running = x.wanted then 4 else if hasB s.proven n = false ∧ s.evac ≠ 0 then 12 else if s.tenants.any (fun t => decide (t.win.cell = (xn : Int)) && decide (tick < t.win.till)) = true then 9 else 0) := Lib.hid (by unfold runsE; rw [HX.out])
  cases hhb : hasB s.proven n
  all_goals cases hee : (s.evac != 0)
  all_goals
    have hL : Below w.heap.size w ((w.alloc (.cells #[.int .i64 s.tick, .int .i64 s.count, .slice sat s.tenants.length sct, .slice (some ⟨bx, ofx, none⟩) s.cells.length scc, .int .i64 s.proven, .int .i64 s.evac, .int .i64 s.low, .int .i64 s.high] 36)).alloc (.cells #[.int .i64 kind, .int .i64 tick, .int .i64 tenant, .int .i64 xn, .int .i64 other, .int .i64 epoch, .int .i64 since, .int .i64 till, .int .i64 n] 45)) := (((Below.refl w.heap.size w).alloc (by simp <;> omega) (.cells #[.int .i64 s.tick, .int .i64 s.count, .slice sat s.tenants.length sct, .slice (some ⟨bx, ofx, none⟩) s.cells.length scc, .int .i64 s.proven, .int .i64 s.evac, .int .i64 s.low, .int .i64 s.high] 36)).alloc (by simp <;> omega) (.cells #[.int .i64 kind, .int .i64 tick, .int .i64 tenant, .int .i64 xn, .int .i64 other, .int .i64 epoch, .int .i64 since, .int .i64 till, .int .i64 n] 45))
    have hBs : Blk ((w.alloc (.cells #[.int .i64 s.tick, .int .i64 s.count, .slice sat s.tenants.length sct, .slice (some ⟨bx, ofx, none⟩) s.cells.length scc, .int .i64 s.proven, .int .i64 s.evac, .int .i64 s.low, .int .i64 s.high] 36)).alloc (.cells #[.int .i64 kind, .int .i64 tick, .int .i64 tenant, .int .i64 xn, .int .i64 other, .int .i64 epoch, .int .i64 since, .int .i64 till, .int .i64 n] 45)) (w.heap.size) 36 #[.int .i64 s.tick, .int .i64 s.count, .slice sat s.tenants.length sct, .slice (some ⟨bx, ofx, none⟩) s.cells.length scc, .int .i64 s.proven, .int .i64 s.evac, .int .i64 s.low, .int .i64 s.high] := by
      have := ((Blk.new w 36 #[.int .i64 s.tick, .int .i64 s.count, .slice sat s.tenants.length sct, .slice (some ⟨bx, ofx, none⟩) s.cells.length scc, .int .i64 s.proven, .int .i64 s.evac, .int .i64 s.low, .int .i64 s.high]).alloc (.cells #[.int .i64 kind, .int .i64 tick, .int .i64 tenant, .int .i64 xn, .int .i64 other, .int .i64 epoch, .int .i64 since, .int .i64 till, .int .i64 n] 45))
      simpa using this
    have hBe : Blk ((w.alloc (.cells #[.int .i64 s.tick, .int .i64 s.count, .slice sat s.tenants.length sct, .slice (some ⟨bx, ofx, none⟩) s.cells.length scc, .int .i64 s.proven, .int .i64 s.evac, .int .i64 s.low, .int .i64 s.high] 36)).alloc (.cells #[.int .i64 kind, .int .i64 tick, .int .i64 tenant, .int .i64 xn, .int .i64 other, .int .i64 epoch, .int .i64 since, .int .i64 till, .int .i64 n] 45)) (w.heap.size + 1) 45 #[.int .i64 kind, .int .i64 tick, .int .i64 tenant, .int .i64 xn, .int .i64 other, .int .i64 epoch, .int .i64 since, .int .i64 till, .int .i64 n] := by
      have := (Blk.new (w.alloc (.cells #[.int .i64 s.tick, .int .i64 s.count, .slice sat s.tenants.length sct, .slice (some ⟨bx, ofx, none⟩) s.cells.length scc, .int .i64 s.proven, .int .i64 s.evac, .int .i64 s.low, .int .i64 s.high] 36)) 45 #[.int .i64 kind, .int .i64 tick, .int .i64 tenant, .int .i64 xn, .int .i64 other, .int .i64 epoch, .int .i64 since, .int .i64 till, .int .i64 n])
      simpa using this
    unfold stC entC
    simp only
    go_enter Try.func54, Try.ntmps54
    go_upto_region 1 with fail
    generalize (w.alloc _).alloc _ = W at *
    have hgs := hBs.lt
    have su0 := hBs.cell' (i := 0) (v := .int .i64 s.tick) rfl
    have su1 := hBs.cell' (i := 1) (v := .int .i64 s.count) rfl
    have su2 := hBs.cell' (i := 2) (v := .slice sat s.tenants.length sct) rfl
    have su3 := hBs.cell' (i := 3) (v := .slice (some ⟨bx, ofx, none⟩) s.cells.length scc) rfl
    have su4 := hBs.cell' (i := 4) (v := .int .i64 s.proven) rfl
    have su5 := hBs.cell' (i := 5) (v := .int .i64 s.evac) rfl
    have su6 := hBs.cell' (i := 6) (v := .int .i64 s.low) rfl
    have su7 := hBs.cell' (i := 7) (v := .int .i64 s.high) rfl
    clear hBs
    have hge := hBe.lt
    have v0 := hBe.cell' (i := 0) (v := .int .i64 kind) rfl
    have v1 := hBe.cell' (i := 1) (v := .int .i64 tick) rfl
    have v2 := hBe.cell' (i := 2) (v := .int .i64 tenant) rfl
    have v3 := hBe.cell' (i := 3) (v := .int .i64 xn) rfl
    have v4 := hBe.cell' (i := 4) (v := .int .i64 other) rfl
    have v5 := hBe.cell' (i := 5) (v := .int .i64 epoch) rfl
    have v6 := hBe.cell' (i := 6) (v := .int .i64 since) rfl
    have v7 := hBe.cell' (i := 7) (v := .int .i64 till) rfl
    have v8 := hBe.cell' (i := 8) (v := .int .i64 n) rfl
    clear hBe
    have HL := Lib.hid hL
    have HWs := Lib.hid (HKs.out.belowW hL)
    clear hL
    have x0 : W.cell? ⟨bx, ofx + xn * 4, none⟩ = some (.int .i64 x.mode) := (HL.out.cell (p := ⟨bx, ofx + xn * 4, none⟩) hbx1).trans (hcx 0 _ rfl)
    have x1 : W.cell? ⟨bx, ofx + xn * 4 + 1, none⟩ = some (.int .i64 x.running) := (HL.out.cell (p := ⟨bx, ofx + xn * 4 + 1, none⟩) hbx1).trans (hcx 1 _ rfl)
    have x2 : W.cell? ⟨bx, ofx + xn * 4 + 2, none⟩ = some (.int .i64 x.wanted) := (HL.out.cell (p := ⟨bx, ofx + xn * 4 + 2, none⟩) hbx1).trans (hcx 2 _ rfl)
    have x3 : W.cell? ⟨bx, ofx + xn * 4 + 3, none⟩ = some (.int .i64 x.since) := (HL.out.cell (p := ⟨bx, ofx + xn * 4 + 3, none⟩) hbx1).trans (hcx 3 _ rfl)
    have hbxW : bx < W.heap.size := Nat.lt_of_lt_of_le hbx1 HL.out.size
    clear hcx hzx hbx hbx1
    have hBb := Blk.new W 67 #[.int .i64 x.mode, .int .i64 x.running, .int .i64 x.wanted, .int .i64 x.since]
    have hL2 := (Below.refl W.heap.size W).alloc (Nat.le_refl _) (.cells #[.int .i64 x.mode, .int .i64 x.running, .int .i64 x.wanted, .int .i64 x.since] 67)
    go_upto_region 2 with fail
    clear x0 x1 x2 x3 hbxW
    generalize W.alloc _ = W2 at *
    have p0 := hBb.cell' (i := 0) (v := .int .i64 x.mode) rfl
    have p1 := hBb.cell' (i := 1) (v := .int .i64 x.running) rfl
    have p2 := hBb.cell' (i := 2) (v := .int .i64 x.wanted) rfl
    have p3 := hBb.cell' (i := 3) (v := .int .i64 x.since) rfl
    have hgb := hBb.lt
    clear hBb
    replace su0 : W2.cell? ⟨w.heap.size, 0, none⟩ = some (.int .i64 s.tick) := (hL2.cell (p := ⟨w.heap.size, 0, none⟩) hgs).trans su0
    replace su1 : W2.cell? ⟨w.heap.size, 1, none⟩ = some (.int .i64 s.count) := (hL2.cell (p := ⟨w.heap.size, 1, none⟩) hgs).trans su1
    replace su2 : W2.cell? ⟨w.heap.size, 2, none⟩ = some (.slice sat s.tenants.length sct) := (hL2.cell (p := ⟨w.heap.size, 2, none⟩) hgs).trans su2
    replace su3 : W2.cell? ⟨w.heap.size, 3, none⟩ = some (.slice (some ⟨bx, ofx, none⟩) s.cells.length scc) := (hL2.cell (p := ⟨w.heap.size, 3, none⟩) hgs).trans su3
    replace su4 : W2.cell? ⟨w.heap.size, 4, none⟩ = some (.int .i64 s.proven) := (hL2.cell (p := ⟨w.heap.size, 4, none⟩) hgs).trans su4
    replace su5 : W2.cell? ⟨w.heap.size, 5, none⟩ = some (.int .i64 s.evac) := (hL2.cell (p := ⟨w.heap.size, 5, none⟩) hgs).trans su5
    replace su6 : W2.cell? ⟨w.heap.size, 6, none⟩ = some (.int .i64 s.low) := (hL2.cell (p := ⟨w.heap.size, 6, none⟩) hgs).trans su6
    replace su7 : W2.cell? ⟨w.heap.size, 7, none⟩ = some (.int .i64 s.high) := (hL2.cell (p := ⟨w.heap.size, 7, none⟩) hgs).trans su7
    replace hgs : w.heap.size < W2.heap.size := Nat.lt_of_lt_of_le hgs hL2.size
    replace v0 : W2.cell? ⟨w.heap.size + 1, 0, none⟩ = some (.int .i64 kind) := (hL2.cell (p := ⟨w.heap.size + 1, 0, none⟩) hge).trans v0
    replace v1 : W2.cell? ⟨w.heap.size + 1, 1, none⟩ = some (.int .i64 tick) := (hL2.cell (p := ⟨w.heap.size + 1, 1, none⟩) hge).trans v1
    replace v2 : W2.cell? ⟨w.heap.size + 1, 2, none⟩ = some (.int .i64 tenant) := (hL2.cell (p := ⟨w.heap.size + 1, 2, none⟩) hge).trans v2
    replace v3 : W2.cell? ⟨w.heap.size + 1, 3, none⟩ = some (.int .i64 xn) := (hL2.cell (p := ⟨w.heap.size + 1, 3, none⟩) hge).trans v3
    replace v4 : W2.cell? ⟨w.heap.size + 1, 4, none⟩ = some (.int .i64 other) := (hL2.cell (p := ⟨w.heap.size + 1, 4, none⟩) hge).trans v4
    replace v5 : W2.cell? ⟨w.heap.size + 1, 5, none⟩ = some (.int .i64 epoch) := (hL2.cell (p := ⟨w.heap.size + 1, 5, none⟩) hge).trans v5
    replace v6 : W2.cell? ⟨w.heap.size + 1, 6, none⟩ = some (.int .i64 since) := (hL2.cell (p := ⟨w.heap.size + 1, 6, none⟩) hge).trans v6
    replace v7 : W2.cell? ⟨w.heap.size + 1, 7, none⟩ = some (.int .i64 till) := (hL2.cell (p := ⟨w.heap.size + 1, 7, none⟩) hge).trans v7
    replace v8 : W2.cell? ⟨w.heap.size + 1, 8, none⟩ = some (.int .i64 n) := (hL2.cell (p := ⟨w.heap.size + 1, 8, none⟩) hge).trans v8
    replace hge : w.heap.size + 1 < W2.heap.size := Nat.lt_of_lt_of_le hge hL2.size
    replace HWs := Lib.hid (HWs.out.belowW hL2)
    replace HL := Lib.hid (HL.out.trans (hL2.mono HL.out.size))
    clear hL2
    generalize W.heap.size = gb at *
    have hx : ∀ (y : Later W2.heap.size W2) b o, b < W2.heap.size → y.world.cell? ⟨b, o, none⟩ = W2.cell? ⟨b, o, none⟩ := fun y b o h => y.cell h
    refine start_later W2.heap.size ?_
    intro y0
    go_wp2_with (first
      | (go_at_call 75; (with_reducible refine (stHas_any _ _ _ (by omega) (by omega)).mono ?_); rintro r wq ⟨rfl, rfl⟩; rw [hhb])
      )
    all_goals first
      | (go_ret
         refine ⟨ret_i64 ?_, (by first | exact HL.out | exact HL.out.trans ((Later.below _).mono HL.out.size))⟩
         rw [HR.out]
         go_light
         clear HR HL
         simp_all
         done)
      | (have hz : ∀ (y : Later W2.heap.size W2) b, b < W2.heap.size → b < y.world.heap.size := fun y b h => Nat.lt_of_lt_of_le h y.below.size
         go_loopg [40] s.tenants.length (fun gk si wr => NoneRel W2 s.tenants (fun t => decide (t.win.cell = (xn : Int)) && decide (tick < t.win.till)) gk si wr)
         case atStart => exact ⟨0, y0, by omega, rfl, rfl, fun j x h => absurd h (Nat.not_lt_zero _)⟩
         case round =>
           rename_i J K aJ aK
           obtain ⟨k, y, hgk, rfl, rfl, hnone⟩ := hrel
           have HNo := Lib.hid hnone
           clear hnone
           by_cases hk : k < s.tenants.length
           · obtain ⟨b, off, z, rfl, hb, hzz, hcell⟩ := HWs.out.tenants.row (enc := tsC) (sz := 12) (fun _ => rfl) (by omega) hk
             have hbW : b < W2.heap.size := hb
             have e0 := hcell 0 (.bool z.placed) rfl
             have e1 := hcell 1 (.bool z.shed) rfl
             have e2 := hcell 2 (.int .i64 z.home) rfl
             have e3 := hcell 3 (.int .i64 z.standby) rfl
             have e4 := hcell 4 (.int .i64 z.next) rfl
             have e5 := hcell 5 (.int .i64 z.target) rfl
             have e6 := hcell 6 (.int .i64 z.epoch) rfl
             have e7 := hcell 7 (.int .i64 z.win.cell) rfl
             have e8 := hcell 8 (.int .i64 z.win.epoch) rfl
             have e9 := hcell 9 (.int .i64 z.win.version) rfl
             have e10 := hcell 10 (.int .i64 z.win.since) rfl
             have e11 := hcell 11 (.int .i64 z.win.till) rfl
             simp only [Nat.add_zero] at e0
             have hzi := HI.out.ten _ (List.mem_of_getElem? hzz)
             have hsi := hzi.wtill
             have HZ := Lib.hid hzz
             have HNX := Lib.hid (none_next HNo.out hzz)
             clear hcell hzz hzi hb HNo
             have hlt : (k : Int) < (s.tenants.length : Int) := by omega
             go_wp2
             all_goals first
               | (go_roundg (gk - 1)
                  case measure => omega
                  case rel =>
                    refine ⟨k + 1, ⟨_, y.below.alloc y.below.size _⟩, by omega, by go_num, rfl, HNX.out ?_⟩
                    go_light; (first | (simp [*]; done) | (simp_all; done) | (simp_all; omega)))
               | (go_ret
                  refine ⟨ret_i64 ?_, HL.out.trans ((y.below.alloc y.below.size _).mono HL.out.size)⟩
                  have hyes : (fun t => decide (t.win.cell = (xn : Int)) && decide (tick < t.win.till)) z = true := (by go_light; (first | (simp [*]; done) | (simp_all; done) | (simp_all; omega)))
                  rw [HR.out, any_yes HZ.out hyes]
                  go_light; simp_all)
           · have hge : ¬ (k : Int) < (s.tenants.length : Int) := by omega
             have HA := Lib.hid (any_none (l := s.tenants) HNo.out (by omega))
             clear HNo
             go_wp2
             go_ret
             refine ⟨ret_i64 ?_, HL.out.trans (y.below.mono HL.out.size)⟩
             rw [HR.out, HA.out]
             go_light; simp_all)
end Go.Proofs.Ytjobcfpnmfjlfaa

namespace Go.Proofs.Ytjobcfpnmfjlfaa
open Go.RowKit
set_option linter.unusedSimpArgs false
set_option linter.unusedVariables false

theorem verField (a b : Int) (w : World) : Sem.run Try.prog (Instr.field 65 (.agg #[.int .i64 a, .int .i64 b]) 1) w = .ok (.int .i64 b) w := by kernel_rfl
theorem verOf_eq {c : Cfg} {k : Int} (h : 0 ≤ k ∧ k < c.versions.length) : verOf c k = verAt c k := if_pos h

set_option maxHeartbeats 2000000 in
set_option maxRecDepth 100000 in
theorem stExpand_any (x : CfgA) (c : Cfg) (y : StA) (s : St) (w : World) (hV : CfgV c) (hc : CfgOk w (· < w.heap.size) x c) (hI : StInv c s) (hs : StOk w (· < w.heap.size) y s)  :
    Calls Try.prog 57 #[.agg (cfgC x c), .agg (stC y s)] w fun r w' => r = .returned (.int .i64 (expandE c s)) ∧ Below w.heap.size w w' := by
  have hnc := hV.nc
  have hntt := hV.nt
  obtain ⟨az, cz, ac, cc, at_, ct, av, cv, ar, cr, ao, co⟩ := x
  have HV := Lib.hid hV
  have HKc := Lib.hid hc
  clear hV hc
  obtain ⟨sat, sct, sac, scc⟩ := y
  have HKs := Lib.hid hs
  have hsl : 1 ≤ s.cells.length ∧ s.cells.length ≤ 16 := by have := hI.lc; omega
  have hst : s.tenants.length ≤ 32 := by have := hI.lt; omega
  have HI := Lib.hid hI
  clear hs hI
  have hlo := HI.out.low
  have HR : Hid (expandE c s = if s.low < s.high then 4 else if 30 ≤ s.high then 2 else if s.cells.any (blockB c s) = true then 13 else 0) := Lib.hid rfl
  by_cases q1 : s.low < s.high
  all_goals by_cases q2 : (30 : Int) ≤ s.high
  all_goals
    have hL : Below w.heap.size w ((w.alloc (.cells #[.int .i64 c.regions, .slice az c.zones.length cz, .slice ac c.cells.length cc, .slice at_ c.tenants.length ct, .slice av c.versions.length cv, .slice ar c.replicas.length cr, .slice ao c.observers.length co, .int .i64 c.blast, .int .i64 c.lease, .int .i64 c.bake] 30)).alloc (.cells #[.int .i64 s.tick, .int .i64 s.count, .slice sat s.tenants.length sct, .slice sac s.cells.length scc, .int .i64 s.proven, .int .i64 s.evac, .int .i64 s.low, .int .i64 s.high] 36)) := (((Below.refl w.heap.size w).alloc (by simp <;> omega) (.cells #[.int .i64 c.regions, .slice az c.zones.length cz, .slice ac c.cells.length cc, .slice at_ c.tenants.length ct, .slice av c.versions.length cv, .slice ar c.replicas.length cr, .slice ao c.observers.length co, .int .i64 c.blast, .int .i64 c.lease, .int .i64 c.bake] 30)).alloc (by simp <;> omega) (.cells #[.int .i64 s.tick, .int .i64 s.count, .slice sat s.tenants.length sct, .slice sac s.cells.length scc, .int .i64 s.proven, .int .i64 s.evac, .int .i64 s.low, .int .i64 s.high] 36))
    have hBc : Blk ((w.alloc (.cells #[.int .i64 c.regions, .slice az c.zones.length cz, .slice ac c.cells.length cc, .slice at_ c.tenants.length ct, .slice av c.versions.length cv, .slice ar c.replicas.length cr, .slice ao c.observers.length co, .int .i64 c.blast, .int .i64 c.lease, .int .i64 c.bake] 30)).alloc (.cells #[.int .i64 s.tick, .int .i64 s.count, .slice sat s.tenants.length sct, .slice sac s.cells.length scc, .int .i64 s.proven, .int .i64 s.evac, .int .i64 s.low, .int .i64 s.high] 36)) (w.heap.size) 30 #[.int .i64 c.regions, .slice az c.zones.length cz, .slice ac c.cells.length cc, .slice at_ c.tenants.length ct, .slice av c.versions.length cv, .slice ar c.replicas.length cr, .slice ao c.observers.length co, .int .i64 c.blast, .int .i64 c.lease, .int .i64 c.bake] := by
      have := ((Blk.new w 30 #[.int .i64 c.regions, .slice az c.zones.length cz, .slice ac c.cells.length cc, .slice at_ c.tenants.length ct, .slice av c.versions.length cv, .slice ar c.replicas.length cr, .slice ao c.observers.length co, .int .i64 c.blast, .int .i64 c.lease, .int .i64 c.bake]).alloc (.cells #[.int .i64 s.tick, .int .i64 s.count, .slice sat s.tenants.length sct, .slice sac s.cells.length scc, .int .i64 s.proven, .int .i64 s.evac, .int .i64 s.low, .int .i64 s.high] 36))
      simpa using this
    have hBs : Blk ((w.alloc (.cells #[.int .i64 c.regions, .slice az c.zones.length cz, .slice ac c.cells.length cc, .slice at_ c.tenants.length ct, .slice av c.versions.length cv, .slice ar c.replicas.length cr, .slice ao c.observers.length co, .int .i64 c.blast, .int .i64 c.lease, .int .i64 c.bake] 30)).alloc (.cells #[.int .i64 s.tick, .int .i64 s.count, .slice sat s.tenants.length sct, .slice sac s.cells.length scc, .int .i64 s.proven, .int .i64 s.evac, .int .i64 s.low, .int .i64 s.high] 36)) (w.heap.size + 1) 36 #[.int .i64 s.tick, .int .i64 s.count, .slice sat s.tenants.length sct, .slice sac s.cells.length scc, .int .i64 s.proven, .int .i64 s.evac, .int .i64 s.low, .int .i64 s.high] := by
      have := (Blk.new (w.alloc (.cells #[.int .i64 c.regions, .slice az c.zones.length cz, .slice ac c.cells.length cc, .slice at_ c.tenants.length ct, .slice av c.versions.length cv, .slice ar c.replicas.length cr, .slice ao c.observers.length co, .int .i64 c.blast, .int .i64 c.lease, .int .i64 c.bake] 30)) 36 #[.int .i64 s.tick, .int .i64 s.count, .slice sat s.tenants.length sct, .slice sac s.cells.length scc, .int .i64 s.proven, .int .i64 s.evac, .int .i64 s.low, .int .i64 s.high])
      simpa using this
    unfold cfgC stC
    simp only
    go_enter Try.func57, Try.ntmps57
    go_upto_region 1 with fail
    generalize (w.alloc _).alloc _ = W at *
    have hgc := hBc.lt
    have d0 := hBc.cell' (i := 0) (v := .int .i64 c.regions) rfl
    have d1 := hBc.cell' (i := 1) (v := .slice az c.zones.length cz) rfl
    have d2 := hBc.cell' (i := 2) (v := .slice ac c.cells.length cc) rfl
    have d3 := hBc.cell' (i := 3) (v := .slice at_ c.tenants.length ct) rfl
    have d4 := hBc.cell' (i := 4) (v := .slice av c.versions.length cv) rfl
    have d5 := hBc.cell' (i := 5) (v := .slice ar c.replicas.length cr) rfl
    have d6 := hBc.cell' (i := 6) (v := .slice ao c.observers.length co) rfl
    have d7 := hBc.cell' (i := 7) (v := .int .i64 c.blast) rfl
    have d8 := hBc.cell' (i := 8) (v := .int .i64 c.lease) rfl
    have d9 := hBc.cell' (i := 9) (v := .int .i64 c.bake) rfl
    clear hBc
    have hgs := hBs.lt
    have su0 := hBs.cell' (i := 0) (v := .int .i64 s.tick) rfl
    have su1 := hBs.cell' (i := 1) (v := .int .i64 s.count) rfl
    have su2 := hBs.cell' (i := 2) (v := .slice sat s.tenants.length sct) rfl
    have su3 := hBs.cell' (i := 3) (v := .slice sac s.cells.length scc) rfl
    have su4 := hBs.cell' (i := 4) (v := .int .i64 s.proven) rfl
    have su5 := hBs.cell' (i := 5) (v := .int .i64 s.evac) rfl
    have su6 := hBs.cell' (i := 6) (v := .int .i64 s.low) rfl
    have su7 := hBs.cell' (i := 7) (v := .int .i64 s.high) rfl
    clear hBs
    have HL := Lib.hid hL
    have HWc := Lib.hid (HKc.out.belowW hL)
    have HWs := Lib.hid (HKs.out.belowW hL)
    clear hL
    go_wp2
  · go_ret
    exact ⟨ret_i64 (by rw [HR.out, if_pos (by omega)]), HL.out⟩
  · go_ret
    exact ⟨ret_i64 (by rw [HR.out, if_pos (by omega)]), HL.out⟩
  · go_ret
    exact ⟨ret_i64 (by rw [HR.out, if_neg (by omega), if_pos (by omega)]), HL.out⟩
  · have HR2 : Hid (expandE c s = if s.cells.any (blockB c s) = true then 13 else 0) := Lib.hid (by rw [HR.out, if_neg (by omega), if_neg (by omega)])
    clear HR q1 q2
    go_loopg [20] s.cells.length (fun gk si wr => NoneRel W s.cells (blockB c s) gk si wr)
    case atStart => exact ⟨0, ⟨W, Below.refl _ _⟩, by omega, rfl, rfl, fun j x h => absurd h (Nat.not_lt_zero _)⟩
    case round =>
      rename_i J K aJ aK
      obtain ⟨k, y, hgk, rfl, rfl, hnone⟩ := hrel
      have HNo := Lib.hid hnone
      clear hnone
      have hx : ∀ (y : Later W.heap.size W) b o, b < W.heap.size → y.world.cell? ⟨b, o, none⟩ = W.cell? ⟨b, o, none⟩ := fun y b o h => y.cell h
      by_cases hk : k < s.cells.length
      · obtain ⟨b, off, z, rfl, hb, hzz, hcell⟩ := HWs.out.cells.row (enc := csC) (sz := 4) (fun _ => rfl) (by omega) hk
        have hbW : b < W.heap.size := hb
        have e0 := hcell 0 (.int .i64 z.mode) rfl
        have e1 := hcell 1 (.int .i64 z.running) rfl
        have e2 := hcell 2 (.int .i64 z.wanted) rfl
        have e3 := hcell 3 (.int .i64 z.since) rfl
        simp only [Nat.add_zero] at e0
        have hzi := HI.out.cel _ (List.mem_of_getElem? hzz)
        have HB : Hid (blockB c s z = (decide ((verOf c z.running).2 ≤ s.high) || decide ((verOf c z.wanted).2 ≤ s.high))) := Lib.hid (by unfold blockB; rw [verOf_eq hzi.running, verOf_eq hzi.wanted])
        have HZ := Lib.hid hzz
        have HNX := Lib.hid (none_next HNo.out hzz)
        clear hcell hzz hzi hb HNo
        have hlt : (k : Int) < (s.cells.length : Int) := by omega
        have hBb := Blk.new y.world 67 #[.int .i64 z.mode, .int .i64 z.running, .int .i64 z.wanted, .int .i64 z.since]
        have hL3 := y.below.alloc y.below.size (.cells #[.int .i64 z.mode, .int .i64 z.running, .int .i64 z.wanted, .int .i64 z.since] 67)
        go_upto_region 8 with fail
        generalize y.world.alloc _ = W3 at *
        generalize y.world.heap.size = gb at *
        have p1 := hBb.cell' (i := 1) (v := .int .i64 z.running) rfl
        have p2 := hBb.cell' (i := 2) (v := .int .i64 z.wanted) rfl
        have hgb := hBb.lt
        have HWc3 := Lib.hid (HWc.out.belowW hL3)
        replace d0 : W3.cell? ⟨w.heap.size, 0, none⟩ = some (.int .i64 c.regions) := (hL3.cell (p := ⟨w.heap.size, 0, none⟩) hgc).trans d0
        replace d1 : W3.cell? ⟨w.heap.size, 1, none⟩ = some (.slice az c.zones.length cz) := (hL3.cell (p := ⟨w.heap.size, 1, none⟩) hgc).trans d1
        replace d2 : W3.cell? ⟨w.heap.size, 2, none⟩ = some (.slice ac c.cells.length cc) := (hL3.cell (p := ⟨w.heap.size, 2, none⟩) hgc).trans d2
        replace d3 : W3.cell? ⟨w.heap.size, 3, none⟩ = some (.slice at_ c.tenants.length ct) := (hL3.cell (p := ⟨w.heap.size, 3, none⟩) hgc).trans d3
        replace d4 : W3.cell? ⟨w.heap.size, 4, none⟩ = some (.slice av c.versions.length cv) := (hL3.cell (p := ⟨w.heap.size, 4, none⟩) hgc).trans d4
        replace d5 : W3.cell? ⟨w.heap.size, 5, none⟩ = some (.slice ar c.replicas.length cr) := (hL3.cell (p := ⟨w.heap.size, 5, none⟩) hgc).trans d5
        replace d6 : W3.cell? ⟨w.heap.size, 6, none⟩ = some (.slice ao c.observers.length co) := (hL3.cell (p := ⟨w.heap.size, 6, none⟩) hgc).trans d6
        replace d7 : W3.cell? ⟨w.heap.size, 7, none⟩ = some (.int .i64 c.blast) := (hL3.cell (p := ⟨w.heap.size, 7, none⟩) hgc).trans d7
        replace d8 : W3.cell? ⟨w.heap.size, 8, none⟩ = some (.int .i64 c.lease) := (hL3.cell (p := ⟨w.heap.size, 8, none⟩) hgc).trans d8
        replace d9 : W3.cell? ⟨w.heap.size, 9, none⟩ = some (.int .i64 c.bake) := (hL3.cell (p := ⟨w.heap.size, 9, none⟩) hgc).trans d9
        replace su7 : W3.cell? ⟨w.heap.size + 1, 7, none⟩ = some (.int .i64 s.high) := (hL3.cell (p := ⟨w.heap.size + 1, 7, none⟩) hgs).trans su7
        replace hgc : w.heap.size < W3.heap.size := Nat.lt_of_lt_of_le hgc hL3.size
        replace hgs : w.heap.size + 1 < W3.heap.size := Nat.lt_of_lt_of_le hgs hL3.size
        have HL3 := Lib.hid hL3
        clear hBb hL3 e0 e1 e2 e3 hbW su0 su1 su2 su3 su4 su5 su6 hx
        have hx : ∀ (y : Later W3.heap.size W3) b o, b < W3.heap.size → y.world.cell? ⟨b, o, none⟩ = W3.cell? ⟨b, o, none⟩ := fun y b o h => y.cell h
        have H_ver : Hid (∀ (k : Int) (yy : Later W3.heap.size W3), Calls Try.prog 74 #[.agg #[.int .i64 c.regions, .slice az c.zones.length cz, .slice ac c.cells.length cc, .slice at_ c.tenants.length ct, .slice av c.versions.length cv, .slice ar c.replicas.length cr, .slice ao c.observers.length co, .int .i64 c.blast, .int .i64 c.lease, .int .i64 c.bake], .int .i64 k] yy.world fun e w' => e = .returned (.agg #[.int .i64 (verOf c k).1, .int .i64 (verOf c k).2]) ∧ Below yy.world.heap.size yy.world w') := Lib.hid (fun k yy => stVersionOf_any ⟨az, cz, ac, cc, at_, ct, av, cv, ar, cr, ao, co⟩ c k _ HV.out (HWc3.out.laterW yy))
        cases r1 : decide ((verOf c z.running).2 ≤ s.high)
        · refine wp_region_below W3.heap.size (by kernel_rfl) (by kernel_rfl) ?_
          repeat (first | go_big_quiet_step ((go_at_call 74; exact quiet_belowW _ (H_ver.out _ _))) | quiet_step ((go_at_call 74; exact quiet_belowW _ (H_ver.out _ _))) | (refine BigFrame.wpQuiet_want (by rfl) fun K hK => ⟨.int .i64 (verOf c z.running).2, fun w _ => (by unfold Oper.quietAt; go_simp; rw [verField]; exact ⟨rfl, rfl⟩), hK _ ?_⟩; simp only [List.getElem_toArray, List.getElem_cons_zero, List.getElem_cons_succ, Act.put, List.setIfInBounds_toArray, List.set_cons_zero, List.set_cons_succ]) | (refine BigFrame.wpQuiet_want (by rfl) fun K hK => ⟨.int .i64 (verOf c z.wanted).2, fun w _ => (by unfold Oper.quietAt; go_simp; rw [verField]; exact ⟨rfl, rfl⟩), hK _ ?_⟩; simp only [List.getElem_toArray, List.getElem_cons_zero, List.getElem_cons_succ, Act.put, List.setIfInBounds_toArray, List.set_cons_zero, List.set_cons_succ]))
          refine wpQuiet_nil ?_
          rintro w' ⟨y3, rfl⟩
          clear hx
          go_wp2
          all_goals first
            | (go_roundg (gk - 1)
               case measure => omega
               case rel =>
                 refine ⟨k + 1, ⟨_, HL3.out.trans (y3.below.mono HL3.out.size)⟩, by omega, by go_num, rfl, HNX.out ?_⟩
                 rw [HB.out, r1]
                 go_light
                 simp_all)
            | (go_ret
               refine ⟨ret_i64 ?_, HL.out.trans ((HL3.out.trans (y3.below.mono HL3.out.size)).mono HL.out.size)⟩
               rw [HR2.out, any_yes HZ.out (show blockB c s z = true by rw [HB.out, r1]; go_light; simp_all)]
               rfl)
        · refine wp_region_below W3.heap.size (by kernel_rfl) (by kernel_rfl) ?_
          repeat (first | go_big_quiet_step ((go_at_call 74; exact quiet_belowW _ (H_ver.out _ _))) | quiet_step ((go_at_call 74; exact quiet_belowW _ (H_ver.out _ _))) | (refine BigFrame.wpQuiet_want (by rfl) fun K hK => ⟨.int .i64 (verOf c z.running).2, fun w _ => (by unfold Oper.quietAt; go_simp; rw [verField]; exact ⟨rfl, rfl⟩), hK _ ?_⟩; simp only [List.getElem_toArray, List.getElem_cons_zero, List.getElem_cons_succ, Act.put, List.setIfInBounds_toArray, List.set_cons_zero, List.set_cons_succ]) | (refine BigFrame.wpQuiet_want (by rfl) fun K hK => ⟨.int .i64 (verOf c z.wanted).2, fun w _ => (by unfold Oper.quietAt; go_simp; rw [verField]; exact ⟨rfl, rfl⟩), hK _ ?_⟩; simp only [List.getElem_toArray, List.getElem_cons_zero, List.getElem_cons_succ, Act.put, List.setIfInBounds_toArray, List.set_cons_zero, List.set_cons_succ]))
          refine wpQuiet_nil ?_
          rintro w' ⟨y3, rfl⟩
          clear hx
          go_wp2
          go_ret
          refine ⟨ret_i64 ?_, HL.out.trans ((HL3.out.trans (y3.below.mono HL3.out.size)).mono HL.out.size)⟩
          rw [HR2.out, any_yes HZ.out (show blockB c s z = true by rw [HB.out, r1]; rfl)]
          rfl
      · have hge : ¬ (k : Int) < (s.cells.length : Int) := by omega
        have HA := Lib.hid (any_none (l := s.cells) HNo.out (by omega))
        clear HNo
        go_wp2
        go_ret
        refine ⟨ret_i64 ?_, HL.out.trans (y.below.mono HL.out.size)⟩
        rw [HR2.out, HA.out]
        rfl
end Go.Proofs.Ytjobcfpnmfjlfaa

namespace Go.Proofs.Ytjobcfpnmfjlfaa
open Go.RowKit
set_option linter.unusedSimpArgs false
set_option linter.unusedVariables false

theorem open_yes {a b : Bool} (h : true = (!a || !b)) : a = false ∨ (a = true ∧ b = false) := by cases a <;> cases b <;> simp_all
theorem open_no {a b : Bool} (h : false = (!a || !b)) : a = true ∧ b = true := by cases a <;> cases b <;> simp_all
def openP (s : St) (k : Nat) : Bool := openB s.proven (s.cells.getD k default)
theorem unproven_pick (s : St) : unproven s = pickK (openP s) s.cells.length := rfl

set_option maxHeartbeats 4000000 in
theorem stUnproven_any (c : Cfg) (y : StA) (s : St) (w : World) (hV : CfgV c) (hI : StInv c s) (hs : StOk w (· < w.heap.size) y s) :
    Calls Try.prog 76 #[.agg (stC y s)] w (IntsPost w (unproven s)) := by
  rw [unproven_pick]
  obtain ⟨ii, hii, hi0, hi1, hi2⟩ := info_parts r5intInfo
  have hnc := hV.nc
  have hntt := hV.nt
  clear hV
  obtain ⟨sat, sct, sac, scc⟩ := y
  have HKs := Lib.hid hs
  have hsl : 1 ≤ s.cells.length ∧ s.cells.length ≤ 16 := by have := hI.lc; omega
  have hst : s.tenants.length ≤ 32 := by have := hI.lt; omega
  have HI := Lib.hid hI
  clear hs hI
  have hpr := HI.out.proven
  obtain ⟨pd, hpd⟩ : ∃ pd : Nat → Bool, pd = openP s := ⟨_, rfl⟩
  have HP := Lib.hid hpd
  rw [← hpd]
  clear hpd
  have hL : Below w.heap.size w (w.alloc (.cells #[.int .i64 s.tick, .int .i64 s.count, .slice sat s.tenants.length sct, .slice sac s.cells.length scc, .int .i64 s.proven, .int .i64 s.evac, .int .i64 s.low, .int .i64 s.high] 36)) := ((Below.refl w.heap.size w).alloc (by simp <;> omega) (.cells #[.int .i64 s.tick, .int .i64 s.count, .slice sat s.tenants.length sct, .slice sac s.cells.length scc, .int .i64 s.proven, .int .i64 s.evac, .int .i64 s.low, .int .i64 s.high] 36))
  have hBs : Blk (w.alloc (.cells #[.int .i64 s.tick, .int .i64 s.count, .slice sat s.tenants.length sct, .slice sac s.cells.length scc, .int .i64 s.proven, .int .i64 s.evac, .int .i64 s.low, .int .i64 s.high] 36)) (w.heap.size) 36 #[.int .i64 s.tick, .int .i64 s.count, .slice sat s.tenants.length sct, .slice sac s.cells.length scc, .int .i64 s.proven, .int .i64 s.evac, .int .i64 s.low, .int .i64 s.high] := by
    have := (Blk.new w 36 #[.int .i64 s.tick, .int .i64 s.count, .slice sat s.tenants.length sct, .slice sac s.cells.length scc, .int .i64 s.proven, .int .i64 s.evac, .int .i64 s.low, .int .i64 s.high])
    simpa using this
  unfold stC
  simp only
  go_enter Try.func76, Try.ntmps76
  go_upto_region 1 with fail
  generalize w.alloc _ = W at *
  have hgs := hBs.lt
  have su0 := hBs.cell' (i := 0) (v := .int .i64 s.tick) rfl
  have su1 := hBs.cell' (i := 1) (v := .int .i64 s.count) rfl
  have su2 := hBs.cell' (i := 2) (v := .slice sat s.tenants.length sct) rfl
  have su3 := hBs.cell' (i := 3) (v := .slice sac s.cells.length scc) rfl
  have su4 := hBs.cell' (i := 4) (v := .int .i64 s.proven) rfl
  have su5 := hBs.cell' (i := 5) (v := .int .i64 s.evac) rfl
  have su6 := hBs.cell' (i := 6) (v := .int .i64 s.low) rfl
  have su7 := hBs.cell' (i := 7) (v := .int .i64 s.high) rfl
  clear hBs
  have HL := Lib.hid hL
  have HWs := Lib.hid (HKs.out.belowW hL)
  clear hL
  go_wp2
  go_loopg [3, 9] s.cells.length (fun gk so si wr => r5HomesRel W pd s.cells.length gk so si wr)
  case atStart => exact ⟨0, none, 0, by omega, rfl, rfl, World.ownsRow_nil _ _ _ _, Below.refl _ _⟩
  case round =>
    rename_i J K aJ aK
    obtain ⟨k, A, cp, hgk, rfl, rfl, hown, hbel⟩ := hrel
    have HO := Lib.hid hown
    have HB := Lib.hid hbel
    have hsz := hbel.size
    have hlen := pickK_len pd k
    obtain ⟨hc, hf⟩ := bcell hbel
    clear hown hbel hf
    by_cases hk : k < s.cells.length
    · have hlt : (k : Int) < (s.cells.length : Int) := by omega
      obtain ⟨b, off, z, rfl, hb, hzz, hcell⟩ := HWs.out.cells.row (enc := csC) (sz := 4) (fun _ => rfl) (by omega) hk
      have hbW : b < W.heap.size := hb
      have e0 := hcell 0 (.int .i64 z.mode) rfl
      have e1 := hcell 1 (.int .i64 z.running) rfl
      have e2 := hcell 2 (.int .i64 z.wanted) rfl
      have e3 := hcell 3 (.int .i64 z.since) rfl
      simp only [Nat.add_zero] at e0
      have HPK : Hid (pd k = (!hasB s.proven z.running || !hasB s.proven z.wanted)) := Lib.hid (by rw [HP.out]; unfold openP openB; rw [getD_some hzz])
      have HS := Lib.hid (pickK_succ pd k)
      have hBb := Blk.new wr 67 #[.int .i64 z.mode, .int .i64 z.running, .int .i64 z.wanted, .int .i64 z.since]
      have hB1 := HB.out.alloc hsz (.cells #[.int .i64 z.mode, .int .i64 z.running, .int .i64 z.wanted, .int .i64 z.since] 67)
      have hO1 := HO.out.alloc (.cells #[.int .i64 z.mode, .int .i64 z.running, .int .i64 z.wanted, .int .i64 z.since] 67)
      clear hcell hzz hb
      go_upto_region 5 with fail
      generalize wr.alloc _ = wz at *
      generalize wr.heap.size = gb at *
      have p1 := hBb.cell' (i := 1) (v := .int .i64 z.running) rfl
      have p2 := hBb.cell' (i := 2) (v := .int .i64 z.wanted) rfl
      replace su4 : wz.cell? ⟨w.heap.size, 4, none⟩ = some (.int .i64 s.proven) := (hB1.cell (p := ⟨w.heap.size, 4, none⟩) hgs).trans su4
      have HB1 := Lib.hid hB1
      have HO1 := Lib.hid hO1
      clear hBb hB1 hO1 e0 e1 e2 e3 hbW hc HB HO
      by_cases hp : pd k = true
      · have h12 : hasB s.proven z.running = false ∨ (hasB s.proven z.running = true ∧ hasB s.proven z.wanted = false) := by
          have := HPK.out
          rw [hp] at this
          exact open_yes this
        rcases h12 with h1 | ⟨h1, h2⟩
        all_goals
          go_wp2_with (first
            | (go_at_call 75; (with_reducible refine (stHas_any _ _ _ (by omega) (by omega)).mono ?_); rintro r wq ⟨rfl, rfl⟩; first | rw [h1] | rw [h2])
            | (at_builtin; refine wpList_append_lies _ rfl _ _ _ rfl W.heap.size 3 ii _ 1 8 Try.underlying22 hii hi0 hi1 hi2 rfl (by omega) _ (pickK pd k).length (flat intC (pickK pd k)) rfl (HO1.out.alloc _) ⟨wz.heap.size, 0, none⟩ 1 1 [.int .i64 k] rfl rfl ?c1 ?c2 ?c0 ?c3 ?c4 ?c5 (wz.heap.size + 1) ?c6 ?_))
          case c1 => exact World.news_of_block (cs := #[.int .i64 k]) (heap_alloc_new _ _)
          case c2 => simp [Value.oneCell']
          case c0 => omega
          case c3 => unfold maxLen; omega
          case c4 => omega
          case c5 => have := HB1.out.size; simp; omega
          case c6 => simp
          intro gg cq w9 hown9 hg9 hat9 hlt9
          have HB9 := Lib.hid ((HB1.out.alloc HB1.out.size _).grown hg9 (by have := HB1.out.size; simp; omega) (fun j hj => (HO1.out.lt j hj).1))
          have HX : Hid (w9.ownsRow W.heap.size 3 1 (.slice (some ⟨gg, 0, none⟩) (pickK pd (k + 1)).length cq) (pickK pd (k + 1)).length (flat intC (pickK pd (k + 1)))) := by
            refine Lib.hid ?_; rw [HS.out, if_pos hp, ← flat_snoc5, List.length_append]; exact hown9
          have hl9 : (pickK pd (k + 1)).length = (pickK pd k).length + 1 := by rw [HS.out, if_pos hp, List.length_append]; rfl
          have HL9 := Lib.hid hl9
          clear hown9 hg9 hat9 hlt9 HO1 HB1 hl9
          go_wp2
          go_roundg (gk - 1)
          case measure => omega
          case rel => exact ⟨k + 1, some ⟨gg, 0, none⟩, cq, by omega, by go_num, by rw [HL9.out], HX.out, HB9.out⟩
      · have hp : pd k = false := by simpa using hp
        have h12 : hasB s.proven z.running = true ∧ hasB s.proven z.wanted = true := by
          have := HPK.out
          rw [hp] at this
          exact open_no this
        obtain ⟨h1, h2⟩ := h12
        have HX : Hid (wz.ownsRow W.heap.size 3 1 (.slice A (pickK pd (k + 1)).length cp) (pickK pd (k + 1)).length (flat intC (pickK pd (k + 1)))) := by
          refine Lib.hid ?_; rw [HS.out, if_neg (by simp [hp])]; exact HO1.out
        have hl9 : (pickK pd (k + 1)).length = (pickK pd k).length := by rw [HS.out, if_neg (by simp [hp])]
        have HL9 := Lib.hid hl9
        clear hl9
        go_wp2_with (go_at_call 75; (with_reducible refine (stHas_any _ _ _ (by omega) (by omega)).mono ?_); rintro r wq ⟨rfl, rfl⟩; first | rw [h1] | rw [h2])
        go_roundg (gk - 1)
        case measure => omega
        case rel => exact ⟨k + 1, A, cp, by omega, by go_num, by rw [HL9.out], HX.out, HB1.out⟩
    · have hge : ¬ (k : Int) < (s.cells.length : Int) := by omega
      obtain rfl : k = s.cells.length := by omega
      go_wp2
      go_ret
      exact ⟨A, cp, rfl, own_base HO.out (Nat.le_of_lt hgs), HL.out.trans (HB.out.mono (Nat.le_of_lt hgs))⟩
end Go.Proofs.Ytjobcfpnmfjlfaa

namespace Go.Proofs.Ytjobcfpnmfjlfaa
open Go.RowKit
set_option linter.unusedSimpArgs false
set_option linter.unusedVariables false

/-- The cells l lie in cs from off on. -/
def RowAt (cs : Array Value) (off : Nat) (l : List Value) : Prop := ∀ (j : Nat) (v : Value), l[j]? = some v → cs[off + j]? = some v
theorem RowAt.fits {cs : Array Value} {off : Nat} {l : List Value} (h : RowAt cs off l) (hl : 0 < l.length) : off + l.length ≤ cs.size := by
  have h1 : l[l.length - 1]? = some l[l.length - 1] := List.getElem?_eq_getElem (by omega)
  have h2 := h _ _ h1
  have := (Array.getElem?_eq_some_iff.1 h2).1
  omega
theorem putL_same {cs : Array Value} {off : Nat} {l : List Value} (h : RowAt cs off l) : putL cs off l = cs := by
  apply Array.ext_getElem?
  intro j
  rw [putL_get]
  by_cases hj : off ≤ j ∧ j < off + l.length ∧ j < cs.size
  · rw [if_pos hj]
    have h1 : l[j - off]? = some l[j - off] := List.getElem?_eq_getElem (by omega)
    have h2 := h _ _ h1
    rw [h1, ← h2]
    congr 1
    omega
  · rw [if_neg hj]
theorem putL_set {cs : Array Value} {off : Nat} {l : List Value} (hf : off + l.length ≤ cs.size) {j : Nat} (hj : j < l.length) (v : Value) : (putL cs off l).setIfInBounds (off + j) v = putL cs off (l.set j v) := by
  apply Array.ext_getElem?
  intro i
  rw [Array.getElem?_setIfInBounds, putL_get, putL_get, putL_size, List.length_set]
  by_cases hi : off + j = i
  · subst hi
    rw [if_pos rfl, if_pos (show off + j < cs.size by omega), if_pos (by omega)]
    have : off + j - off = j := by omega
    rw [this]
    simp [hj]
  · rw [if_neg hi]
    by_cases hc : off ≤ i ∧ i < off + l.length ∧ i < cs.size
    · rw [if_pos hc, if_pos hc, List.getElem?_set_ne (by omega)]
    · rw [if_neg hc, if_neg hc]
theorem putL_row {cs : Array Value} {off : Nat} {l : List Value} (hf : off + l.length ≤ cs.size) : RowAt (putL cs off l) off l := by
  intro j v hv
  have hj := (List.getElem?_eq_some_iff.1 hv).1
  rw [putL_get, if_pos (by omega), show off + j - off = j by omega]
  exact hv
/-- A row in a block: the cells l lie in block g from off on, all else there is as in cs. -/
structure InRow (w : World) (g : Nat) (T : TypeId) (cs : Array Value) (off : Nat) (l : List Value) (wx : World) : Prop where
  blk : Blk wx g T (putL cs off l)
  fits : off + l.length ≤ cs.size
  grown : w.grownBy wx (some g)
theorem InRow.start {w : World} {g : Nat} {T : TypeId} {cs : Array Value} {off : Nat} {l : List Value} (hb : Blk w g T cs) (hr : RowAt cs off l) (hl : 0 < l.length) : InRow w g T cs off l w :=
  ⟨by rw [putL_same hr]; exact hb, hr.fits hl, grown_refl _ _⟩
section
variable {w wx : World} {g : Nat} {T : TypeId} {cs : Array Value} {off : Nat} {l : List Value}
theorem InRow.set (h : InRow w g T cs off l wx) {j : Nat} (hj : j < l.length) (v : Value) : InRow w g T cs off (l.set j v) (wx.setCell ⟨g, off + j, none⟩ v) :=
  ⟨by rw [← putL_set h.fits hj]; exact h.blk.set_ _ _, by rw [List.length_set]; exact h.fits, grown_set h.grown _ _⟩
theorem InRow.set0 (h : InRow w g T cs off l wx) (hj : 0 < l.length) (v : Value) : InRow w g T cs off (l.set 0 v) (wx.setCell ⟨g, off, none⟩ v) := h.set (j := 0) hj v
theorem InRow.alloc (h : InRow w g T cs off l wx) (o : Obj) : InRow w g T cs off l (wx.alloc o) := ⟨h.blk.alloc o, h.fits, grown_alloc h.grown o⟩
theorem InRow.drew (h : InRow w g T cs off l wx) : InRow w g T cs off l wx.drew := ⟨h.blk, h.fits, grown_drewN h.grown 1⟩
theorem InRow.cell (h : InRow w g T cs off l wx) {j : Nat} {v : Value} (hv : l[j]? = some v) : wx.cell? ⟨g, off + j, none⟩ = some v := h.blk.cell' (putL_row h.fits j v hv)
theorem InRow.cell0 (h : InRow w g T cs off l wx) {v : Value} (hv : l[0]? = some v) : wx.cell? ⟨g, off, none⟩ = some v := h.cell hv
theorem InRow.frozen (h : InRow w g T cs off l wx) (i : Nat) : wx.frozen? ⟨g, i, none⟩ = false := h.blk.frozen i
end
end Go.Proofs.Ytjobcfpnmfjlfaa

namespace Go.Proofs.Ytjobcfpnmfjlfaa
open Go.RowKit
set_option linter.unusedSimpArgs false
set_option linter.unusedVariables false

set_option maxHeartbeats 4000000 in
theorem stOnCell_any (e : Ent) (x : CS) (g off : Nat) (cs : Array Value) (w : World) (hk : e.kind = 9 ∨ e.kind = 10 ∨ e.kind = 11) (hB : Blk w g 67 cs) (hrow : RowAt cs off (csC x)) :
    Calls Try.prog 61 #[.pointer (some ⟨g, off, none⟩), .agg (entC e).toArray] w fun r w' => r = .returned (.tuple #[]) ∧ InRow w g 67 cs off (csC (celEff x e)) w' := by
  obtain ⟨kind, tick, tenant, cell, other, epoch, since, till, n⟩ := e
  simp only at hk
  rcases hk with rfl | rfl | rfl
  · skip
    have hBe := Blk.new w 45 #[.int .i64 9, .int .i64 tick, .int .i64 tenant, .int .i64 cell, .int .i64 other, .int .i64 epoch, .int .i64 since, .int .i64 till, .int .i64 n]
    have hR0 := (InRow.start hB hrow (by simp [csC])).alloc (.cells #[.int .i64 9, .int .i64 tick, .int .i64 tenant, .int .i64 cell, .int .i64 other, .int .i64 epoch, .int .i64 since, .int .i64 till, .int .i64 n] 45)
    have hgw := hB.lt
    clear hB hrow
    unfold entC
    go_enter Try.func61, Try.ntmps61
    go_upto_region 1 with fail
    generalize w.alloc _ = W at *
    have hge := hBe.lt
    have hgn : w.heap.size ≠ g := by omega
    have v0 := hBe.cell' (i := 0) (v := .int .i64 9) rfl
    have v1 := hBe.cell' (i := 1) (v := .int .i64 tick) rfl
    have v2 := hBe.cell' (i := 2) (v := .int .i64 tenant) rfl
    have v3 := hBe.cell' (i := 3) (v := .int .i64 cell) rfl
    have v4 := hBe.cell' (i := 4) (v := .int .i64 other) rfl
    have v5 := hBe.cell' (i := 5) (v := .int .i64 epoch) rfl
    have v6 := hBe.cell' (i := 6) (v := .int .i64 since) rfl
    have v7 := hBe.cell' (i := 7) (v := .int .i64 till) rfl
    have v8 := hBe.cell' (i := 8) (v := .int .i64 n) rfl
    have r0 := hR0.cell0 (v := .int .i64 x.mode) rfl
    have rf0 := hR0.frozen (off)
    have r1 := hR0.cell (j := 1) (v := .int .i64 x.running) rfl
    have rf1 := hR0.frozen (off + 1)
    have r2 := hR0.cell (j := 2) (v := .int .i64 x.wanted) rfl
    have rf2 := hR0.frozen (off + 2)
    have r3 := hR0.cell (j := 3) (v := .int .i64 x.since) rfl
    have rf3 := hR0.frozen (off + 3)
    go_wp2
    refine wp_region_seq (fun w' : World => Blk w' w.heap.size 45 #[.int .i64 9, .int .i64 tick, .int .i64 tenant, .int .i64 cell, .int .i64 other, .int .i64 epoch, .int .i64 since, .int .i64 till, .int .i64 n]) 11 [(0, false), (1, false), (2, false), (3, false), (4, false), (5, false), (6, false), (7, false), (8, true), (9, false), (10, false)] (by kernel_rfl) (by kernel_rfl) hBe ?_
    simp only [List.take_succ_cons, List.take_zero, List.drop_succ_cons, List.drop_zero]
    repeat (refine wpSeqH_fix _ ?_ rfl (by exact fun _ _ _ h => h) (Or.inl ⟨by rfl, ?_⟩) ?_; rotate_left; (intro w' hSw; (try dsimp only at hSw); have q0 := hSw.cell' (i := 0) (v := .int .i64 9) rfl; have q1 := hSw.cell' (i := 1) (v := .int .i64 tick) rfl; have q2 := hSw.cell' (i := 2) (v := .int .i64 tenant) rfl; have q3 := hSw.cell' (i := 3) (v := .int .i64 cell) rfl; have q4 := hSw.cell' (i := 4) (v := .int .i64 other) rfl; have q5 := hSw.cell' (i := 5) (v := .int .i64 epoch) rfl; have q6 := hSw.cell' (i := 6) (v := .int .i64 since) rfl; have q7 := hSw.cell' (i := 7) (v := .int .i64 till) rfl; have q8 := hSw.cell' (i := 8) (v := .int .i64 n) rfl; go_simp; (try with_reducible rfl)); (simp only [List.getElem_toArray, List.getElem_cons_zero, List.getElem_cons_succ, Act.put, List.setIfInBounds_toArray, List.set_cons_zero, List.set_cons_succ]))
    refine wpSeqH_act rfl rfl ?_
    go_simp
    refine ⟨hBe.far hgn _, ?_⟩
    skip
    repeat (refine wpSeqH_fix _ ?_ rfl (by exact fun _ _ _ h => h) (Or.inl ⟨by rfl, ?_⟩) ?_; rotate_left; (intro w' hSw; (try dsimp only at hSw); have q0 := hSw.cell' (i := 0) (v := .int .i64 9) rfl; have q1 := hSw.cell' (i := 1) (v := .int .i64 tick) rfl; have q2 := hSw.cell' (i := 2) (v := .int .i64 tenant) rfl; have q3 := hSw.cell' (i := 3) (v := .int .i64 cell) rfl; have q4 := hSw.cell' (i := 4) (v := .int .i64 other) rfl; have q5 := hSw.cell' (i := 5) (v := .int .i64 epoch) rfl; have q6 := hSw.cell' (i := 6) (v := .int .i64 since) rfl; have q7 := hSw.cell' (i := 7) (v := .int .i64 till) rfl; have q8 := hSw.cell' (i := 8) (v := .int .i64 n) rfl; go_simp; (try with_reducible rfl)); (simp only [List.getElem_toArray, List.getElem_cons_zero, List.getElem_cons_succ, Act.put, List.setIfInBounds_toArray, List.set_cons_zero, List.set_cons_succ]))
    refine wpSeqH_end ?_
    simp only [List.getElem_toArray, List.getElem_cons_zero, List.getElem_cons_succ, Act.put, List.setIfInBounds_toArray, List.set_cons_zero, List.set_cons_succ, thenK]
    go_wp2
    go_end0
    have hfin := ((hR0.set0 (by simp [tsC, csC]) (.int .i64 n)).set (j := 3) (by simp [tsC, csC]) (.int .i64 tick))
    clear v0 v1 v2 v3 v4 v5 v6 v7 v8
    refine ⟨rfl, ?_⟩
    (first | exact hfin | exact hfin.drew | exact hfin.drew.drew)
  · skip
    have hBe := Blk.new w 45 #[.int .i64 10, .int .i64 tick, .int .i64 tenant, .int .i64 cell, .int .i64 other, .int .i64 epoch, .int .i64 since, .int .i64 till, .int .i64 n]
    have hR0 := (InRow.start hB hrow (by simp [csC])).alloc (.cells #[.int .i64 10, .int .i64 tick, .int .i64 tenant, .int .i64 cell, .int .i64 other, .int .i64 epoch, .int .i64 since, .int .i64 till, .int .i64 n] 45)
    have hgw := hB.lt
    clear hB hrow
    unfold entC
    go_enter Try.func61, Try.ntmps61
    go_upto_region 1 with fail
    generalize w.alloc _ = W at *
    have hge := hBe.lt
    have hgn : w.heap.size ≠ g := by omega
    have v0 := hBe.cell' (i := 0) (v := .int .i64 10) rfl
    have v1 := hBe.cell' (i := 1) (v := .int .i64 tick) rfl
    have v2 := hBe.cell' (i := 2) (v := .int .i64 tenant) rfl
    have v3 := hBe.cell' (i := 3) (v := .int .i64 cell) rfl
    have v4 := hBe.cell' (i := 4) (v := .int .i64 other) rfl
    have v5 := hBe.cell' (i := 5) (v := .int .i64 epoch) rfl
    have v6 := hBe.cell' (i := 6) (v := .int .i64 since) rfl
    have v7 := hBe.cell' (i := 7) (v := .int .i64 till) rfl
    have v8 := hBe.cell' (i := 8) (v := .int .i64 n) rfl
    have r0 := hR0.cell0 (v := .int .i64 x.mode) rfl
    have rf0 := hR0.frozen (off)
    have r1 := hR0.cell (j := 1) (v := .int .i64 x.running) rfl
    have rf1 := hR0.frozen (off + 1)
    have r2 := hR0.cell (j := 2) (v := .int .i64 x.wanted) rfl
    have rf2 := hR0.frozen (off + 2)
    have r3 := hR0.cell (j := 3) (v := .int .i64 x.since) rfl
    have rf3 := hR0.frozen (off + 3)
    go_wp2
    go_end0
    have hfin := (hR0.set (j := 2) (by simp [tsC, csC]) (.int .i64 n))
    clear v0 v1 v2 v3 v4 v5 v6 v7 v8
    refine ⟨rfl, ?_⟩
    (first | exact hfin | exact hfin.drew | exact hfin.drew.drew)
  · skip
    have hBe := Blk.new w 45 #[.int .i64 11, .int .i64 tick, .int .i64 tenant, .int .i64 cell, .int .i64 other, .int .i64 epoch, .int .i64 since, .int .i64 till, .int .i64 n]
    have hR0 := (InRow.start hB hrow (by simp [csC])).alloc (.cells #[.int .i64 11, .int .i64 tick, .int .i64 tenant, .int .i64 cell, .int .i64 other, .int .i64 epoch, .int .i64 since, .int .i64 till, .int .i64 n] 45)
    have hgw := hB.lt
    clear hB hrow
    unfold entC
    go_enter Try.func61, Try.ntmps61
    go_upto_region 1 with fail
    generalize w.alloc _ = W at *
    have hge := hBe.lt
    have hgn : w.heap.size ≠ g := by omega
    have v0 := hBe.cell' (i := 0) (v := .int .i64 11) rfl
    have v1 := hBe.cell' (i := 1) (v := .int .i64 tick) rfl
    have v2 := hBe.cell' (i := 2) (v := .int .i64 tenant) rfl
    have v3 := hBe.cell' (i := 3) (v := .int .i64 cell) rfl
    have v4 := hBe.cell' (i := 4) (v := .int .i64 other) rfl
    have v5 := hBe.cell' (i := 5) (v := .int .i64 epoch) rfl
    have v6 := hBe.cell' (i := 6) (v := .int .i64 since) rfl
    have v7 := hBe.cell' (i := 7) (v := .int .i64 till) rfl
    have v8 := hBe.cell' (i := 8) (v := .int .i64 n) rfl
    have r0 := hR0.cell0 (v := .int .i64 x.mode) rfl
    have rf0 := hR0.frozen (off)
    have r1 := hR0.cell (j := 1) (v := .int .i64 x.running) rfl
    have rf1 := hR0.frozen (off + 1)
    have r2 := hR0.cell (j := 2) (v := .int .i64 x.wanted) rfl
    have rf2 := hR0.frozen (off + 2)
    have r3 := hR0.cell (j := 3) (v := .int .i64 x.since) rfl
    have rf3 := hR0.frozen (off + 3)
    go_wp2
    refine wp_region_seq (fun w' : World => Blk w' w.heap.size 45 #[.int .i64 11, .int .i64 tick, .int .i64 tenant, .int .i64 cell, .int .i64 other, .int .i64 epoch, .int .i64 since, .int .i64 till, .int .i64 n]) 11 [(0, false), (1, false), (2, false), (3, false), (4, false), (5, false), (6, false), (7, false), (8, true), (9, false), (10, false)] (by kernel_rfl) (by kernel_rfl) hBe ?_
    simp only [List.take_succ_cons, List.take_zero, List.drop_succ_cons, List.drop_zero]
    repeat (refine wpSeqH_fix _ ?_ rfl (by exact fun _ _ _ h => h) (Or.inl ⟨by rfl, ?_⟩) ?_; rotate_left; (intro w' hSw; (try dsimp only at hSw); have q0 := hSw.cell' (i := 0) (v := .int .i64 11) rfl; have q1 := hSw.cell' (i := 1) (v := .int .i64 tick) rfl; have q2 := hSw.cell' (i := 2) (v := .int .i64 tenant) rfl; have q3 := hSw.cell' (i := 3) (v := .int .i64 cell) rfl; have q4 := hSw.cell' (i := 4) (v := .int .i64 other) rfl; have q5 := hSw.cell' (i := 5) (v := .int .i64 epoch) rfl; have q6 := hSw.cell' (i := 6) (v := .int .i64 since) rfl; have q7 := hSw.cell' (i := 7) (v := .int .i64 till) rfl; have q8 := hSw.cell' (i := 8) (v := .int .i64 n) rfl; go_simp; (try with_reducible rfl)); (simp only [List.getElem_toArray, List.getElem_cons_zero, List.getElem_cons_succ, Act.put, List.setIfInBounds_toArray, List.set_cons_zero, List.set_cons_succ]))
    refine wpSeqH_act rfl rfl ?_
    go_simp
    refine ⟨hBe.far hgn _, ?_⟩
    skip
    repeat (refine wpSeqH_fix _ ?_ rfl (by exact fun _ _ _ h => h) (Or.inl ⟨by rfl, ?_⟩) ?_; rotate_left; (intro w' hSw; (try dsimp only at hSw); have q0 := hSw.cell' (i := 0) (v := .int .i64 11) rfl; have q1 := hSw.cell' (i := 1) (v := .int .i64 tick) rfl; have q2 := hSw.cell' (i := 2) (v := .int .i64 tenant) rfl; have q3 := hSw.cell' (i := 3) (v := .int .i64 cell) rfl; have q4 := hSw.cell' (i := 4) (v := .int .i64 other) rfl; have q5 := hSw.cell' (i := 5) (v := .int .i64 epoch) rfl; have q6 := hSw.cell' (i := 6) (v := .int .i64 since) rfl; have q7 := hSw.cell' (i := 7) (v := .int .i64 till) rfl; have q8 := hSw.cell' (i := 8) (v := .int .i64 n) rfl; go_simp; (try with_reducible rfl)); (simp only [List.getElem_toArray, List.getElem_cons_zero, List.getElem_cons_succ, Act.put, List.setIfInBounds_toArray, List.set_cons_zero, List.set_cons_succ]))
    refine wpSeqH_end ?_
    simp only [List.getElem_toArray, List.getElem_cons_zero, List.getElem_cons_succ, Act.put, List.setIfInBounds_toArray, List.set_cons_zero, List.set_cons_succ, thenK]
    go_wp2
    go_end0
    have hfin := ((hR0.set (j := 1) (by simp [tsC, csC]) (.int .i64 n)).set (j := 3) (by simp [tsC, csC]) (.int .i64 tick))
    clear v0 v1 v2 v3 v4 v5 v6 v7 v8
    refine ⟨rfl, ?_⟩
    (first | exact hfin | exact hfin.drew | exact hfin.drew.drew)

set_option maxHeartbeats 8000000 in
set_option maxRecDepth 100000 in
theorem stGranted_any (e : Ent) (t : TS) (g off : Nat) (cs : Array Value) (w : World) (hto : e.cell = t.home ∨ e.cell = t.standby ∨ e.cell = t.target) (hB : Blk w g 50 cs) (hrow : RowAt cs off (tsC t)) :
    Calls Try.prog 77 #[.pointer (some ⟨g, off, none⟩), .agg (entC e).toArray] w fun r w' => r = .returned (.tuple #[]) ∧ InRow w g 50 cs off (tsC (grantT t e)) w' := by
  obtain ⟨kind, tick, tenant, cell, other, epoch, since, till, n⟩ := e
  simp only at hto
  by_cases h1 : cell = t.home
  · subst h1
    have hBe := Blk.new w 45 #[.int .i64 kind, .int .i64 tick, .int .i64 tenant, .int .i64 t.home, .int .i64 other, .int .i64 epoch, .int .i64 since, .int .i64 till, .int .i64 n]
    have hR0 := (InRow.start hB hrow (by simp [tsC])).alloc (.cells #[.int .i64 kind, .int .i64 tick, .int .i64 tenant, .int .i64 t.home, .int .i64 other, .int .i64 epoch, .int .i64 since, .int .i64 till, .int .i64 n] 45)
    have hgw := hB.lt
    clear hB hrow
    unfold entC
    go_enter Try.func77, Try.ntmps77
    go_upto_region 1 with fail
    generalize w.alloc _ = W at *
    have hge := hBe.lt
    have hgn : w.heap.size ≠ g := by omega
    have v0 := hBe.cell' (i := 0) (v := .int .i64 kind) rfl
    have v1 := hBe.cell' (i := 1) (v := .int .i64 tick) rfl
    have v2 := hBe.cell' (i := 2) (v := .int .i64 tenant) rfl
    have v3 := hBe.cell' (i := 3) (v := .int .i64 t.home) rfl
    have v4 := hBe.cell' (i := 4) (v := .int .i64 other) rfl
    have v5 := hBe.cell' (i := 5) (v := .int .i64 epoch) rfl
    have v6 := hBe.cell' (i := 6) (v := .int .i64 since) rfl
    have v7 := hBe.cell' (i := 7) (v := .int .i64 till) rfl
    have v8 := hBe.cell' (i := 8) (v := .int .i64 n) rfl
    have r0 := hR0.cell0 (v := .bool t.placed) rfl
    have rf0 := hR0.frozen (off)
    have r1 := hR0.cell (j := 1) (v := .bool t.shed) rfl
    have rf1 := hR0.frozen (off + 1)
    have r2 := hR0.cell (j := 2) (v := .int .i64 t.home) rfl
    have rf2 := hR0.frozen (off + 2)
    have r3 := hR0.cell (j := 3) (v := .int .i64 t.standby) rfl
    have rf3 := hR0.frozen (off + 3)
    have r4 := hR0.cell (j := 4) (v := .int .i64 t.next) rfl
    have rf4 := hR0.frozen (off + 4)
    have r5 := hR0.cell (j := 5) (v := .int .i64 t.target) rfl
    have rf5 := hR0.frozen (off + 5)
    have r6 := hR0.cell (j := 6) (v := .int .i64 t.epoch) rfl
    have rf6 := hR0.frozen (off + 6)
    have r7 := hR0.cell (j := 7) (v := .int .i64 t.win.cell) rfl
    have rf7 := hR0.frozen (off + 7)
    have r8 := hR0.cell (j := 8) (v := .int .i64 t.win.epoch) rfl
    have rf8 := hR0.frozen (off + 8)
    have r9 := hR0.cell (j := 9) (v := .int .i64 t.win.version) rfl
    have rf9 := hR0.frozen (off + 9)
    have r10 := hR0.cell (j := 10) (v := .int .i64 t.win.since) rfl
    have rf10 := hR0.frozen (off + 10)
    have r11 := hR0.cell (j := 11) (v := .int .i64 t.win.till) rfl
    have rf11 := hR0.frozen (off + 11)
    go_wp2
    go_end0
    have hfin := ((((((hR0.set (j := 7) (by simp [tsC, csC]) (.int .i64 t.home)).set (j := 8) (by simp [tsC, csC]) (.int .i64 epoch)).set (j := 9) (by simp [tsC, csC]) (.int .i64 n)).set (j := 10) (by simp [tsC, csC]) (.int .i64 since)).set (j := 11) (by simp [tsC, csC]) (.int .i64 till)).set (j := 6) (by simp [tsC, csC]) (.int .i64 epoch))
    clear v0 v1 v2 v3 v4 v5 v6 v7 v8
    refine ⟨rfl, ?_⟩
    rw [show grantT t ⟨kind, tick, tenant, t.home, other, epoch, since, till, n⟩ = { t with win := ⟨t.home, epoch, n, since, till⟩, epoch := epoch } from if_pos rfl]
    (first | exact hfin | exact hfin.drew | exact hfin.drew.drew)
  · by_cases h2 : cell = t.standby
    · subst h2
      have hBe := Blk.new w 45 #[.int .i64 kind, .int .i64 tick, .int .i64 tenant, .int .i64 t.standby, .int .i64 other, .int .i64 epoch, .int .i64 since, .int .i64 till, .int .i64 n]
      have hR0 := (InRow.start hB hrow (by simp [tsC])).alloc (.cells #[.int .i64 kind, .int .i64 tick, .int .i64 tenant, .int .i64 t.standby, .int .i64 other, .int .i64 epoch, .int .i64 since, .int .i64 till, .int .i64 n] 45)
      have hgw := hB.lt
      clear hB hrow
      unfold entC
      go_enter Try.func77, Try.ntmps77
      go_upto_region 1 with fail
      generalize w.alloc _ = W at *
      have hge := hBe.lt
      have hgn : w.heap.size ≠ g := by omega
      have v0 := hBe.cell' (i := 0) (v := .int .i64 kind) rfl
      have v1 := hBe.cell' (i := 1) (v := .int .i64 tick) rfl
      have v2 := hBe.cell' (i := 2) (v := .int .i64 tenant) rfl
      have v3 := hBe.cell' (i := 3) (v := .int .i64 t.standby) rfl
      have v4 := hBe.cell' (i := 4) (v := .int .i64 other) rfl
      have v5 := hBe.cell' (i := 5) (v := .int .i64 epoch) rfl
      have v6 := hBe.cell' (i := 6) (v := .int .i64 since) rfl
      have v7 := hBe.cell' (i := 7) (v := .int .i64 till) rfl
      have v8 := hBe.cell' (i := 8) (v := .int .i64 n) rfl
      have r0 := hR0.cell0 (v := .bool t.placed) rfl
      have rf0 := hR0.frozen (off)
      have r1 := hR0.cell (j := 1) (v := .bool t.shed) rfl
      have rf1 := hR0.frozen (off + 1)
      have r2 := hR0.cell (j := 2) (v := .int .i64 t.home) rfl
      have rf2 := hR0.frozen (off + 2)
      have r3 := hR0.cell (j := 3) (v := .int .i64 t.standby) rfl
      have rf3 := hR0.frozen (off + 3)
      have r4 := hR0.cell (j := 4) (v := .int .i64 t.next) rfl
      have rf4 := hR0.frozen (off + 4)
      have r5 := hR0.cell (j := 5) (v := .int .i64 t.target) rfl
      have rf5 := hR0.frozen (off + 5)
      have r6 := hR0.cell (j := 6) (v := .int .i64 t.epoch) rfl
      have rf6 := hR0.frozen (off + 6)
      have r7 := hR0.cell (j := 7) (v := .int .i64 t.win.cell) rfl
      have rf7 := hR0.frozen (off + 7)
      have r8 := hR0.cell (j := 8) (v := .int .i64 t.win.epoch) rfl
      have rf8 := hR0.frozen (off + 8)
      have r9 := hR0.cell (j := 9) (v := .int .i64 t.win.version) rfl
      have rf9 := hR0.frozen (off + 9)
      have r10 := hR0.cell (j := 10) (v := .int .i64 t.win.since) rfl
      have rf10 := hR0.frozen (off + 10)
      have r11 := hR0.cell (j := 11) (v := .int .i64 t.win.till) rfl
      have rf11 := hR0.frozen (off + 11)
      go_wp2
      go_end0
      have hfin := (((((((((((hR0.set (j := 7) (by simp [tsC, csC]) (.int .i64 t.standby)).set (j := 8) (by simp [tsC, csC]) (.int .i64 epoch)).set (j := 9) (by simp [tsC, csC]) (.int .i64 n)).set (j := 10) (by simp [tsC, csC]) (.int .i64 since)).set (j := 11) (by simp [tsC, csC]) (.int .i64 till)).set (j := 6) (by simp [tsC, csC]) (.int .i64 epoch)).set (j := 2) (by simp [tsC, csC]) (.int .i64 t.standby)).set (j := 3) (by simp [tsC, csC]) (.int .i64 (-1))).set (j := 4) (by simp [tsC, csC]) (.int .i64 (-1))).set (j := 5) (by simp [tsC, csC]) (.int .i64 (-1))).set (j := 1) (by simp [tsC, csC]) (.bool false))
      clear v0 v1 v2 v3 v4 v5 v6 v7 v8
      refine ⟨rfl, ?_⟩
      rw [show grantT t ⟨kind, tick, tenant, t.standby, other, epoch, since, till, n⟩ = { t with win := ⟨t.standby, epoch, n, since, till⟩, epoch := epoch, home := t.standby, standby := -1, next := -1, target := -1, shed := false } from (if_neg h1).trans (if_pos rfl)]
      (first | exact hfin | exact hfin.drew | exact hfin.drew.drew)
    · have h3 : cell = t.target := by omega
      subst h3
      have hBe := Blk.new w 45 #[.int .i64 kind, .int .i64 tick, .int .i64 tenant, .int .i64 t.target, .int .i64 other, .int .i64 epoch, .int .i64 since, .int .i64 till, .int .i64 n]
      have hR0 := (InRow.start hB hrow (by simp [tsC])).alloc (.cells #[.int .i64 kind, .int .i64 tick, .int .i64 tenant, .int .i64 t.target, .int .i64 other, .int .i64 epoch, .int .i64 since, .int .i64 till, .int .i64 n] 45)
      have hgw := hB.lt
      clear hB hrow
      unfold entC
      go_enter Try.func77, Try.ntmps77
      go_upto_region 1 with fail
      generalize w.alloc _ = W at *
      have hge := hBe.lt
      have hgn : w.heap.size ≠ g := by omega
      have v0 := hBe.cell' (i := 0) (v := .int .i64 kind) rfl
      have v1 := hBe.cell' (i := 1) (v := .int .i64 tick) rfl
      have v2 := hBe.cell' (i := 2) (v := .int .i64 tenant) rfl
      have v3 := hBe.cell' (i := 3) (v := .int .i64 t.target) rfl
      have v4 := hBe.cell' (i := 4) (v := .int .i64 other) rfl
      have v5 := hBe.cell' (i := 5) (v := .int .i64 epoch) rfl
      have v6 := hBe.cell' (i := 6) (v := .int .i64 since) rfl
      have v7 := hBe.cell' (i := 7) (v := .int .i64 till) rfl
      have v8 := hBe.cell' (i := 8) (v := .int .i64 n) rfl
      have r0 := hR0.cell0 (v := .bool t.placed) rfl
      have rf0 := hR0.frozen (off)
      have r1 := hR0.cell (j := 1) (v := .bool t.shed) rfl
      have rf1 := hR0.frozen (off + 1)
      have r2 := hR0.cell (j := 2) (v := .int .i64 t.home) rfl
      have rf2 := hR0.frozen (off + 2)
      have r3 := hR0.cell (j := 3) (v := .int .i64 t.standby) rfl
      have rf3 := hR0.frozen (off + 3)
      have r4 := hR0.cell (j := 4) (v := .int .i64 t.next) rfl
      have rf4 := hR0.frozen (off + 4)
      have r5 := hR0.cell (j := 5) (v := .int .i64 t.target) rfl
      have rf5 := hR0.frozen (off + 5)
      have r6 := hR0.cell (j := 6) (v := .int .i64 t.epoch) rfl
      have rf6 := hR0.frozen (off + 6)
      have r7 := hR0.cell (j := 7) (v := .int .i64 t.win.cell) rfl
      have rf7 := hR0.frozen (off + 7)
      have r8 := hR0.cell (j := 8) (v := .int .i64 t.win.epoch) rfl
      have rf8 := hR0.frozen (off + 8)
      have r9 := hR0.cell (j := 9) (v := .int .i64 t.win.version) rfl
      have rf9 := hR0.frozen (off + 9)
      have r10 := hR0.cell (j := 10) (v := .int .i64 t.win.since) rfl
      have rf10 := hR0.frozen (off + 10)
      have r11 := hR0.cell (j := 11) (v := .int .i64 t.win.till) rfl
      have rf11 := hR0.frozen (off + 11)
      go_wp2
      go_end0
      have hfin := ((((((((hR0.set (j := 7) (by simp [tsC, csC]) (.int .i64 t.target)).set (j := 8) (by simp [tsC, csC]) (.int .i64 epoch)).set (j := 9) (by simp [tsC, csC]) (.int .i64 n)).set (j := 10) (by simp [tsC, csC]) (.int .i64 since)).set (j := 11) (by simp [tsC, csC]) (.int .i64 till)).set (j := 6) (by simp [tsC, csC]) (.int .i64 epoch)).set (j := 2) (by simp [tsC, csC]) (.int .i64 t.target)).set (j := 5) (by simp [tsC, csC]) (.int .i64 (-1)))
      clear v0 v1 v2 v3 v4 v5 v6 v7 v8
      refine ⟨rfl, ?_⟩
      rw [show grantT t ⟨kind, tick, tenant, t.target, other, epoch, since, till, n⟩ = { t with win := ⟨t.target, epoch, n, since, till⟩, epoch := epoch, home := t.target, target := -1 } from (if_neg h1).trans (if_neg h2)]
      (first | exact hfin | exact hfin.drew | exact hfin.drew.drew)
end Go.Proofs.Ytjobcfpnmfjlfaa
