import Derived.Test.YtnnpgbleacapfaaGreatPa18
namespace Go.Proofs.YtnnpgbleacapfaaGreat
open Go.RowKit
set_option linter.unusedSimpArgs false
set_option linter.unusedVariables false

set_option maxHeartbeats 2000000 in
set_option maxRecDepth 100000 in
theorem stMode_any (c : Cfg) (y : StA) (s : St) (e : Ent) (w : World) (hV : CfgV c) (hI : StInv c s) (hs : StOk w (· < w.heap.size) y s) (hx0 : 0 ≤ e.cell) (hx1 : e.cell < s.cells.length) :
    Calls Tryz.prog 84 #[.agg (stC y s), .agg (entC e).toArray] w fun r w' => r = .returned (.int .i64 (modeE s e)) ∧ Below w.heap.size w w' := by
  have hnc := hV.nc
  have hntt := hV.nt
  have HV := Lib.hid hV
  clear hV
  obtain ⟨sat, sct, sac, scc⟩ := y
  have HKs := Lib.hid hs
  have hsl : 1 ≤ s.cells.length ∧ s.cells.length ≤ 16 := by have := hI.lc; omega
  have hst : s.tenants.length ≤ 32 := by have := hI.lt; omega
  have HI := Lib.hid hI
  clear hs hI
  obtain ⟨kind, tick, tenant, cell, other, epoch, since, till, n⟩ := e
  try simp only at *
  obtain ⟨xn, rfl⟩ := Int.eq_ofNat_of_zero_le hx0
  have hxn : xn < s.cells.length := by omega
  obtain ⟨bx, ofx, x, rfl, hbx, hzx, hcx⟩ := HKs.out.cells.row (enc := csC) (sz := 4) (fun _ => rfl) (by omega) hxn
  have HX : Hid (csAt s xn = x) := Lib.hid (by unfold csAt; rw [Int.toNat_natCast, getD_some hzx])
  have HXI := Lib.hid (HI.out.cel _ (List.mem_of_getElem? hzx))
  have hbx1 : bx < w.heap.size := hbx
  have HR : Hid (modeE s ⟨kind, tick, tenant, xn, other, epoch, since, till, n⟩ = if x.mode = n then 4 else 0) := Lib.hid (by unfold modeE; rw [HX.out])
  have hL : Below w.heap.size w ((w.alloc (.cells #[.int .i64 s.tick, .int .i64 s.count, .slice sat s.tenants.length sct, .slice (some ⟨bx, ofx, none⟩) s.cells.length scc, .int .i64 s.proven, .int .i64 s.evac, .int .i64 s.low, .int .i64 s.high] 34)).alloc (.cells #[.int .i64 kind, .int .i64 tick, .int .i64 tenant, .int .i64 xn, .int .i64 other, .int .i64 epoch, .int .i64 since, .int .i64 till, .int .i64 n] 39)) := (((Below.refl w.heap.size w).alloc (by simp <;> omega) (.cells #[.int .i64 s.tick, .int .i64 s.count, .slice sat s.tenants.length sct, .slice (some ⟨bx, ofx, none⟩) s.cells.length scc, .int .i64 s.proven, .int .i64 s.evac, .int .i64 s.low, .int .i64 s.high] 34)).alloc (by simp <;> omega) (.cells #[.int .i64 kind, .int .i64 tick, .int .i64 tenant, .int .i64 xn, .int .i64 other, .int .i64 epoch, .int .i64 since, .int .i64 till, .int .i64 n] 39))
  have hBs : Blk ((w.alloc (.cells #[.int .i64 s.tick, .int .i64 s.count, .slice sat s.tenants.length sct, .slice (some ⟨bx, ofx, none⟩) s.cells.length scc, .int .i64 s.proven, .int .i64 s.evac, .int .i64 s.low, .int .i64 s.high] 34)).alloc (.cells #[.int .i64 kind, .int .i64 tick, .int .i64 tenant, .int .i64 xn, .int .i64 other, .int .i64 epoch, .int .i64 since, .int .i64 till, .int .i64 n] 39)) (w.heap.size) 34 #[.int .i64 s.tick, .int .i64 s.count, .slice sat s.tenants.length sct, .slice (some ⟨bx, ofx, none⟩) s.cells.length scc, .int .i64 s.proven, .int .i64 s.evac, .int .i64 s.low, .int .i64 s.high] := by
    have := ((Blk.new w 34 #[.int .i64 s.tick, .int .i64 s.count, .slice sat s.tenants.length sct, .slice (some ⟨bx, ofx, none⟩) s.cells.length scc, .int .i64 s.proven, .int .i64 s.evac, .int .i64 s.low, .int .i64 s.high]).alloc (.cells #[.int .i64 kind, .int .i64 tick, .int .i64 tenant, .int .i64 xn, .int .i64 other, .int .i64 epoch, .int .i64 since, .int .i64 till, .int .i64 n] 39))
    simpa using this
  have hBe : Blk ((w.alloc (.cells #[.int .i64 s.tick, .int .i64 s.count, .slice sat s.tenants.length sct, .slice (some ⟨bx, ofx, none⟩) s.cells.length scc, .int .i64 s.proven, .int .i64 s.evac, .int .i64 s.low, .int .i64 s.high] 34)).alloc (.cells #[.int .i64 kind, .int .i64 tick, .int .i64 tenant, .int .i64 xn, .int .i64 other, .int .i64 epoch, .int .i64 since, .int .i64 till, .int .i64 n] 39)) (w.heap.size + 1) 39 #[.int .i64 kind, .int .i64 tick, .int .i64 tenant, .int .i64 xn, .int .i64 other, .int .i64 epoch, .int .i64 since, .int .i64 till, .int .i64 n] := by
    have := (Blk.new (w.alloc (.cells #[.int .i64 s.tick, .int .i64 s.count, .slice sat s.tenants.length sct, .slice (some ⟨bx, ofx, none⟩) s.cells.length scc, .int .i64 s.proven, .int .i64 s.evac, .int .i64 s.low, .int .i64 s.high] 34)) 39 #[.int .i64 kind, .int .i64 tick, .int .i64 tenant, .int .i64 xn, .int .i64 other, .int .i64 epoch, .int .i64 since, .int .i64 till, .int .i64 n])
    simpa using this
  unfold stC entC
  simp only
  go_enter Tryz.func84, Tryz.ntmps84
  go_upto_region 1 with fail
  generalize (w.alloc _).alloc _ = W at *
  have hgs := hBs.lt
  have su0 := hBs.cell' (i := 0) (v := .int .i64 s.tick) rfl
  have su1 := hBs.cell' (i := 1) (v := .int .i64 s.count) rfl
  have su2 := hBs.cell' (i := 2) (v := .slice sat s.tenants.length sct) rfl
  have su3 := hBs.cell' (i := 3) (v := .slice (some ⟨bx, ofx, none⟩) s.cells.length scc) rfl
  have su4 := hBs.cell' (i := 4) (v := .int .i64 s.proven) rfl
  have su5 := hBs.cell' (i := 5) (v := .int .i64 s.evac) rfl
  have su6 := hBs.cell' (i := 6) (v := .int .i64 s.low) rfl
  have su7 := hBs.cell' (i := 7) (v := .int .i64 s.high) rfl
  clear hBs
  have hge := hBe.lt
  have v0 := hBe.cell' (i := 0) (v := .int .i64 kind) rfl
  have v1 := hBe.cell' (i := 1) (v := .int .i64 tick) rfl
  have v2 := hBe.cell' (i := 2) (v := .int .i64 tenant) rfl
  have v3 := hBe.cell' (i := 3) (v := .int .i64 xn) rfl
  have v4 := hBe.cell' (i := 4) (v := .int .i64 other) rfl
  have v5 := hBe.cell' (i := 5) (v := .int .i64 epoch) rfl
  have v6 := hBe.cell' (i := 6) (v := .int .i64 since) rfl
  have v7 := hBe.cell' (i := 7) (v := .int .i64 till) rfl
  have v8 := hBe.cell' (i := 8) (v := .int .i64 n) rfl
  clear hBe
  have HL := Lib.hid hL
  have HWs := Lib.hid (HKs.out.belowW hL)
  clear hL
  have x0 : W.cell? ⟨bx, ofx + xn * 4, none⟩ = some (.int .i64 x.mode) := (HL.out.cell (p := ⟨bx, ofx + xn * 4, none⟩) hbx1).trans (hcx 0 _ rfl)
  have x1 : W.cell? ⟨bx, ofx + xn * 4 + 1, none⟩ = some (.int .i64 x.running) := (HL.out.cell (p := ⟨bx, ofx + xn * 4 + 1, none⟩) hbx1).trans (hcx 1 _ rfl)
  have x2 : W.cell? ⟨bx, ofx + xn * 4 + 2, none⟩ = some (.int .i64 x.wanted) := (HL.out.cell (p := ⟨bx, ofx + xn * 4 + 2, none⟩) hbx1).trans (hcx 2 _ rfl)
  have x3 : W.cell? ⟨bx, ofx + xn * 4 + 3, none⟩ = some (.int .i64 x.since) := (HL.out.cell (p := ⟨bx, ofx + xn * 4 + 3, none⟩) hbx1).trans (hcx 3 _ rfl)
  have hbxW : bx < W.heap.size := Nat.lt_of_lt_of_le hbx1 HL.out.size
  clear hcx hzx hbx hbx1
  have hx : ∀ (y : Later W.heap.size W) b o, b < W.heap.size → y.world.cell? ⟨b, o, none⟩ = W.cell? ⟨b, o, none⟩ := fun y b o h => y.cell h
  refine wp_region_below W.heap.size (by kernel_rfl) (by kernel_rfl) ?_
  repeat (first | go_big_quiet_step ((first | fail)) | quiet_step ((first | fail)))
  refine wpQuiet_nil ?_
  rintro w' ⟨y0, rfl⟩
  clear hx
  go_wp2
  all_goals
    go_ret
    refine ⟨ret_i64 ?_, (by first | exact HL.out | exact HL.out.trans ((Later.below _).mono HL.out.size))⟩
    rw [HR.out]
    go_light
    clear HR HL
    simp_all
    try omega

set_option maxHeartbeats 2000000 in
set_option maxRecDepth 100000 in
theorem stEvac_any (c : Cfg) (y : StA) (s : St) (e : Ent) (w : World) (hV : CfgV c) (hI : StInv c s) (hs : StOk w (· < w.heap.size) y s)  :
    Calls Tryz.prog 88 #[.agg (stC y s), .agg (entC e).toArray] w fun r w' => r = .returned (.int .i64 (evacE s e)) ∧ Below w.heap.size w w' := by
  have hnc := hV.nc
  have hntt := hV.nt
  have HV := Lib.hid hV
  clear hV
  obtain ⟨sat, sct, sac, scc⟩ := y
  have HKs := Lib.hid hs
  have hsl : 1 ≤ s.cells.length ∧ s.cells.length ≤ 16 := by have := hI.lc; omega
  have hst : s.tenants.length ≤ 32 := by have := hI.lt; omega
  have HI := Lib.hid hI
  clear hs hI
  obtain ⟨kind, tick, tenant, cell, other, epoch, since, till, n⟩ := e
  try simp only at *
  have hev := HI.out.evac
  have HR : Hid (evacE s ⟨kind, tick, tenant, cell, other, epoch, since, till, n⟩ = if hasB s.evac other = decide (n = 1) then 4 else 0) := Lib.hid rfl
  have hL : Below w.heap.size w ((w.alloc (.cells #[.int .i64 s.tick, .int .i64 s.count, .slice sat s.tenants.length sct, .slice sac s.cells.length scc, .int .i64 s.proven, .int .i64 s.evac, .int .i64 s.low, .int .i64 s.high] 34)).alloc (.cells #[.int .i64 kind, .int .i64 tick, .int .i64 tenant, .int .i64 cell, .int .i64 other, .int .i64 epoch, .int .i64 since, .int .i64 till, .int .i64 n] 39)) := (((Below.refl w.heap.size w).alloc (by simp <;> omega) (.cells #[.int .i64 s.tick, .int .i64 s.count, .slice sat s.tenants.length sct, .slice sac s.cells.length scc, .int .i64 s.proven, .int .i64 s.evac, .int .i64 s.low, .int .i64 s.high] 34)).alloc (by simp <;> omega) (.cells #[.int .i64 kind, .int .i64 tick, .int .i64 tenant, .int .i64 cell, .int .i64 other, .int .i64 epoch, .int .i64 since, .int .i64 till, .int .i64 n] 39))
  have hBs : Blk ((w.alloc (.cells #[.int .i64 s.tick, .int .i64 s.count, .slice sat s.tenants.length sct, .slice sac s.cells.length scc, .int .i64 s.proven, .int .i64 s.evac, .int .i64 s.low, .int .i64 s.high] 34)).alloc (.cells #[.int .i64 kind, .int .i64 tick, .int .i64 tenant, .int .i64 cell, .int .i64 other, .int .i64 epoch, .int .i64 since, .int .i64 till, .int .i64 n] 39)) (w.heap.size) 34 #[.int .i64 s.tick, .int .i64 s.count, .slice sat s.tenants.length sct, .slice sac s.cells.length scc, .int .i64 s.proven, .int .i64 s.evac, .int .i64 s.low, .int .i64 s.high] := by
    have := ((Blk.new w 34 #[.int .i64 s.tick, .int .i64 s.count, .slice sat s.tenants.length sct, .slice sac s.cells.length scc, .int .i64 s.proven, .int .i64 s.evac, .int .i64 s.low, .int .i64 s.high]).alloc (.cells #[.int .i64 kind, .int .i64 tick, .int .i64 tenant, .int .i64 cell, .int .i64 other, .int .i64 epoch, .int .i64 since, .int .i64 till, .int .i64 n] 39))
    simpa using this
  have hBe : Blk ((w.alloc (.cells #[.int .i64 s.tick, .int .i64 s.count, .slice sat s.tenants.length sct, .slice sac s.cells.length scc, .int .i64 s.proven, .int .i64 s.evac, .int .i64 s.low, .int .i64 s.high] 34)).alloc (.cells #[.int .i64 kind, .int .i64 tick, .int .i64 tenant, .int .i64 cell, .int .i64 other, .int .i64 epoch, .int .i64 since, .int .i64 till, .int .i64 n] 39)) (w.heap.size + 1) 39 #[.int .i64 kind, .int .i64 tick, .int .i64 tenant, .int .i64 cell, .int .i64 other, .int .i64 epoch, .int .i64 since, .int .i64 till, .int .i64 n] := by
    have := (Blk.new (w.alloc (.cells #[.int .i64 s.tick, .int .i64 s.count, .slice sat s.tenants.length sct, .slice sac s.cells.length scc, .int .i64 s.proven, .int .i64 s.evac, .int .i64 s.low, .int .i64 s.high] 34)) 39 #[.int .i64 kind, .int .i64 tick, .int .i64 tenant, .int .i64 cell, .int .i64 other, .int .i64 epoch, .int .i64 since, .int .i64 till, .int .i64 n])
    simpa using this
  unfold stC entC
  simp only
  go_enter Tryz.func88, Tryz.ntmps88
  go_upto_region 1 with fail
  generalize (w.alloc _).alloc _ = W at *
  have hgs := hBs.lt
  have su0 := hBs.cell' (i := 0) (v := .int .i64 s.tick) rfl
  have su1 := hBs.cell' (i := 1) (v := .int .i64 s.count) rfl
  have su2 := hBs.cell' (i := 2) (v := .slice sat s.tenants.length sct) rfl
  have su3 := hBs.cell' (i := 3) (v := .slice sac s.cells.length scc) rfl
  have su4 := hBs.cell' (i := 4) (v := .int .i64 s.proven) rfl
  have su5 := hBs.cell' (i := 5) (v := .int .i64 s.evac) rfl
  have su6 := hBs.cell' (i := 6) (v := .int .i64 s.low) rfl
  have su7 := hBs.cell' (i := 7) (v := .int .i64 s.high) rfl
  clear hBs
  have hge := hBe.lt
  have v0 := hBe.cell' (i := 0) (v := .int .i64 kind) rfl
  have v1 := hBe.cell' (i := 1) (v := .int .i64 tick) rfl
  have v2 := hBe.cell' (i := 2) (v := .int .i64 tenant) rfl
  have v3 := hBe.cell' (i := 3) (v := .int .i64 cell) rfl
  have v4 := hBe.cell' (i := 4) (v := .int .i64 other) rfl
  have v5 := hBe.cell' (i := 5) (v := .int .i64 epoch) rfl
  have v6 := hBe.cell' (i := 6) (v := .int .i64 since) rfl
  have v7 := hBe.cell' (i := 7) (v := .int .i64 till) rfl
  have v8 := hBe.cell' (i := 8) (v := .int .i64 n) rfl
  clear hBe
  have HL := Lib.hid hL
  have HWs := Lib.hid (HKs.out.belowW hL)
  clear hL
  have hx : ∀ (y : Later W.heap.size W) b o, b < W.heap.size → y.world.cell? ⟨b, o, none⟩ = W.cell? ⟨b, o, none⟩ := fun y b o h => y.cell h
  refine wp_region_below W.heap.size (by kernel_rfl) (by kernel_rfl) ?_
  repeat (first | go_big_quiet_step ((first | (go_at_call 127; exact quiet_sameW _ (stHas_any _ _ _ (by omega) (by omega))))) | quiet_step ((first | (go_at_call 127; exact quiet_sameW _ (stHas_any _ _ _ (by omega) (by omega))))))
  refine wpQuiet_nil ?_
  rintro w' ⟨y0, rfl⟩
  clear hx
  go_wp2
  all_goals
    go_ret
    refine ⟨ret_i64 ?_, (by first | exact HL.out | exact HL.out.trans ((Later.below _).mono HL.out.size))⟩
    rw [HR.out]
    go_light
    clear HR HL
    have e1 : (n == 1) = decide (n = 1) := (by rw [Bool.eq_iff_iff]; simp); rw [e1] at *; generalize hasB s.evac other = hb at *; cases hb <;> by_cases hn : n = 1 <;> simp_all
    try omega

set_option maxHeartbeats 2000000 in
set_option maxRecDepth 100000 in
theorem stContract_any (c : Cfg) (y : StA) (s : St) (w : World) (hV : CfgV c) (hI : StInv c s) (hs : StOk w (· < w.heap.size) y s)  :
    Calls Tryz.prog 90 #[.agg (stC y s)] w fun r w' => r = .returned (.int .i64 (contractE s)) ∧ Below w.heap.size w w' := by
  have hnc := hV.nc
  have hntt := hV.nt
  have HV := Lib.hid hV
  clear hV
  obtain ⟨sat, sct, sac, scc⟩ := y
  have HKs := Lib.hid hs
  have hsl : 1 ≤ s.cells.length ∧ s.cells.length ≤ 16 := by have := hI.lc; omega
  have hst : s.tenants.length ≤ 32 := by have := hI.lt; omega
  have HI := Lib.hid hI
  clear hs hI
  have HR : Hid (contractE s = if s.high = s.low then 4 else 0) := Lib.hid rfl
  have hL : Below w.heap.size w (w.alloc (.cells #[.int .i64 s.tick, .int .i64 s.count, .slice sat s.tenants.length sct, .slice sac s.cells.length scc, .int .i64 s.proven, .int .i64 s.evac, .int .i64 s.low, .int .i64 s.high] 34)) := ((Below.refl w.heap.size w).alloc (by simp <;> omega) (.cells #[.int .i64 s.tick, .int .i64 s.count, .slice sat s.tenants.length sct, .slice sac s.cells.length scc, .int .i64 s.proven, .int .i64 s.evac, .int .i64 s.low, .int .i64 s.high] 34))
  have hBs : Blk (w.alloc (.cells #[.int .i64 s.tick, .int .i64 s.count, .slice sat s.tenants.length sct, .slice sac s.cells.length scc, .int .i64 s.proven, .int .i64 s.evac, .int .i64 s.low, .int .i64 s.high] 34)) (w.heap.size) 34 #[.int .i64 s.tick, .int .i64 s.count, .slice sat s.tenants.length sct, .slice sac s.cells.length scc, .int .i64 s.proven, .int .i64 s.evac, .int .i64 s.low, .int .i64 s.high] := by
    have := (Blk.new w 34 #[.int .i64 s.tick, .int .i64 s.count, .slice sat s.tenants.length sct, .slice sac s.cells.length scc, .int .i64 s.proven, .int .i64 s.evac, .int .i64 s.low, .int .i64 s.high])
    simpa using this
  unfold stC
  simp only
  go_enter Tryz.func90, Tryz.ntmps90
  go_upto_region 1 with fail
  generalize w.alloc _ = W at *
  have hgs := hBs.lt
  have su0 := hBs.cell' (i := 0) (v := .int .i64 s.tick) rfl
  have su1 := hBs.cell' (i := 1) (v := .int .i64 s.count) rfl
  have su2 := hBs.cell' (i := 2) (v := .slice sat s.tenants.length sct) rfl
  have su3 := hBs.cell' (i := 3) (v := .slice sac s.cells.length scc) rfl
  have su4 := hBs.cell' (i := 4) (v := .int .i64 s.proven) rfl
  have su5 := hBs.cell' (i := 5) (v := .int .i64 s.evac) rfl
  have su6 := hBs.cell' (i := 6) (v := .int .i64 s.low) rfl
  have su7 := hBs.cell' (i := 7) (v := .int .i64 s.high) rfl
  clear hBs
  have HL := Lib.hid hL
  have HWs := Lib.hid (HKs.out.belowW hL)
  clear hL
  go_wp2
  all_goals
    go_ret
    refine ⟨ret_i64 ?_, (by first | exact HL.out | exact HL.out.trans ((Later.below _).mono HL.out.size))⟩
    rw [HR.out]
    go_light
    clear HR HL
    simp_all
    try omega

set_option maxHeartbeats 2000000 in
theorem stBooks_any (e : Ent) (w : World) : Calls Tryz.prog 50 #[.agg (entC e).toArray] w fun r w' => r = .returned (.bool (booksB e)) ∧ Below w.heap.size w w' := by
  obtain ⟨kind, tick, tenant, cell, other, epoch, since, till, n⟩ := e
  unfold entC
  go_enter Tryz.func50, Tryz.ntmps50
  go_wp2
  all_goals
    go_ret
    refine ⟨ret_bool ?_, (Below.refl _ _).alloc (Nat.le_refl _) _⟩
    go_light
    rw [Bool.eq_iff_iff]
    simp_all [booksB]
end Go.Proofs.YtnnpgbleacapfaaGreat
