import Derived.Test.YtchhdflealgkaaaGreatPp17
namespace Go.Proofs.YtchhdflealgkaaaGreat
open Go.RowKit
set_option linter.unusedSimpArgs false
set_option linter.unusedVariables false
theorem any_take_no {α:Type} {l:List α} {p:α→Bool} (h:∀ (k:Nat) (x:α),l[k]?=some x→p x=false):l.any p=false:=by
 rw[Bool.eq_false_iff]
 intro h2
 obtain⟨x,hx,hp⟩:=List.any_eq_true.1 h2
 obtain⟨k,hk,he⟩:=List.getElem_of_mem hx
 rw[h k x (by rw[List.getElem?_eq_getElem hk,he])] at hp
 cases hp
theorem any_yes {α:Type} {l:List α} {p:α→Bool} {k:Nat} {x:α} (h:l[k]?=some x) (hp:p x=true):l.any p=true:=List.any_eq_true.2 ⟨x,List.mem_of_getElem? h,hp⟩
theorem none_next {α:Type} {l:List α} {p:α→Bool} {k:Nat} {z:α} (h:∀ (j:Nat) (x:α),j<k→l[j]?=some x→p x=false) (hz:l[k]?=some z) (hp:p z=false):∀ (j:Nat) (x:α),j<k+1→l[j]?=some x→p x=false:=by
 intro j x hj hx
 by_cases hjk:j<k
 ·exact h j x hjk hx
 ·obtain rfl:j=k:=by omega
  rw[hz] at hx
  injection hx with hx
  rw[← hx]
  exact hp
theorem any_none {α:Type} {l:List α} {p:α→Bool} {k:Nat} (h:∀ (j:Nat) (x:α),j<k→l[j]?=some x→p x=false) (hk:l.length≤k):l.any p=false:=
 any_take_no fun j x hx=>h j x (Nat.lt_of_lt_of_le (List.getElem?_eq_some_iff.1 hx).1 hk) hx
def NoneRel {α:Type} (W:World) (l:List α) (p:α→Bool) (gk:Nat) (si:Value) (wr:World):Prop:=
 ∃ (k:Nat) (y:Later W.heap.size W),gk+k=l.length∧si=.int .i64 k∧wr=y.world∧∀ (j:Nat) (x:α),j<k→l[j]?=some x→p x=false
set_option maxHeartbeats 2000000 in
set_option maxRecDepth 100000 in
theorem stProve_any (x : CfgA) (c : Cfg) (y : StA) (s : St) (e : Ent) (w : World) (hV : CfgV c) (hc : CfgOk w (· < w.heap.size) x c) (hI : StInv c s) (hs : StOk w (· < w.heap.size) y s) (htk : 0 ≤ e.tick ∧ e.tick ≤ 1073741824) :
    Calls Tryz.prog 113 #[.agg (cfgC x c), .agg (stC y s), .agg (entC e).toArray] w fun r w' => r = .returned (.int .i64 (proveE c s e)) ∧ Below w.heap.size w w' := by
  have hnc := hV.nc
  have hntt := hV.nt
  obtain ⟨az, cz, ac, cc, at_, ct, av, cv, ar, cr, ao, co⟩ := x
  have HV := Lib.hid hV
  have HKc := Lib.hid hc
  clear hV hc
  obtain ⟨sat, sct, sac, scc⟩ := y
  have HKs := Lib.hid hs
  have hsl : 1 ≤ s.cells.length ∧ s.cells.length ≤ 16 := by have := hI.lc; omega
  have hst : s.tenants.length ≤ 32 := by have := hI.lt; omega
  have HI := Lib.hid hI
  clear hs hI
  obtain ⟨kind, tick, tenant, cell, other, epoch, since, till, n⟩ := e
  try simp only at *
  have hpr := HI.out.proven
  have hbk := HV.out.bake
  have HR : Hid (proveE c s ⟨kind, tick, tenant, cell, other, epoch, since, till, n⟩ = if hasB s.proven n = true then 4 else if s.cells.any (bakedB c ⟨kind, tick, tenant, cell, other, epoch, since, till, n⟩) = true then 0 else 15) := Lib.hid rfl
  have hL : Below w.heap.size w (((w.alloc (.cells #[.int .i64 c.regions, .slice az c.zones.length cz, .slice ac c.cells.length cc, .slice at_ c.tenants.length ct, .slice av c.versions.length cv, .slice ar c.replicas.length cr, .slice ao c.observers.length co, .int .i64 c.blast, .int .i64 c.lease, .int .i64 c.bake] 31)).alloc (.cells #[.int .i64 s.tick, .int .i64 s.count, .slice sat s.tenants.length sct, .slice sac s.cells.length scc, .int .i64 s.proven, .int .i64 s.evac, .int .i64 s.low, .int .i64 s.high] 53)).alloc (.cells #[.int .i64 kind, .int .i64 tick, .int .i64 tenant, .int .i64 cell, .int .i64 other, .int .i64 epoch, .int .i64 since, .int .i64 till, .int .i64 n] 56)) := ((((Below.refl w.heap.size w).alloc (by simp <;> omega) (.cells #[.int .i64 c.regions, .slice az c.zones.length cz, .slice ac c.cells.length cc, .slice at_ c.tenants.length ct, .slice av c.versions.length cv, .slice ar c.replicas.length cr, .slice ao c.observers.length co, .int .i64 c.blast, .int .i64 c.lease, .int .i64 c.bake] 31)).alloc (by simp <;> omega) (.cells #[.int .i64 s.tick, .int .i64 s.count, .slice sat s.tenants.length sct, .slice sac s.cells.length scc, .int .i64 s.proven, .int .i64 s.evac, .int .i64 s.low, .int .i64 s.high] 53)).alloc (by simp <;> omega) (.cells #[.int .i64 kind, .int .i64 tick, .int .i64 tenant, .int .i64 cell, .int .i64 other, .int .i64 epoch, .int .i64 since, .int .i64 till, .int .i64 n] 56))
  have hBc : Blk (((w.alloc (.cells #[.int .i64 c.regions, .slice az c.zones.length cz, .slice ac c.cells.length cc, .slice at_ c.tenants.length ct, .slice av c.versions.length cv, .slice ar c.replicas.length cr, .slice ao c.observers.length co, .int .i64 c.blast, .int .i64 c.lease, .int .i64 c.bake] 31)).alloc (.cells #[.int .i64 s.tick, .int .i64 s.count, .slice sat s.tenants.length sct, .slice sac s.cells.length scc, .int .i64 s.proven, .int .i64 s.evac, .int .i64 s.low, .int .i64 s.high] 53)).alloc (.cells #[.int .i64 kind, .int .i64 tick, .int .i64 tenant, .int .i64 cell, .int .i64 other, .int .i64 epoch, .int .i64 since, .int .i64 till, .int .i64 n] 56)) (w.heap.size) 31 #[.int .i64 c.regions, .slice az c.zones.length cz, .slice ac c.cells.length cc, .slice at_ c.tenants.length ct, .slice av c.versions.length cv, .slice ar c.replicas.length cr, .slice ao c.observers.length co, .int .i64 c.blast, .int .i64 c.lease, .int .i64 c.bake] := by
    have := (((Blk.new w 31 #[.int .i64 c.regions, .slice az c.zones.length cz, .slice ac c.cells.length cc, .slice at_ c.tenants.length ct, .slice av c.versions.length cv, .slice ar c.replicas.length cr, .slice ao c.observers.length co, .int .i64 c.blast, .int .i64 c.lease, .int .i64 c.bake]).alloc (.cells #[.int .i64 s.tick, .int .i64 s.count, .slice sat s.tenants.length sct, .slice sac s.cells.length scc, .int .i64 s.proven, .int .i64 s.evac, .int .i64 s.low, .int .i64 s.high] 53)).alloc (.cells #[.int .i64 kind, .int .i64 tick, .int .i64 tenant, .int .i64 cell, .int .i64 other, .int .i64 epoch, .int .i64 since, .int .i64 till, .int .i64 n] 56))
    simpa using this
  have hBs : Blk (((w.alloc (.cells #[.int .i64 c.regions, .slice az c.zones.length cz, .slice ac c.cells.length cc, .slice at_ c.tenants.length ct, .slice av c.versions.length cv, .slice ar c.replicas.length cr, .slice ao c.observers.length co, .int .i64 c.blast, .int .i64 c.lease, .int .i64 c.bake] 31)).alloc (.cells #[.int .i64 s.tick, .int .i64 s.count, .slice sat s.tenants.length sct, .slice sac s.cells.length scc, .int .i64 s.proven, .int .i64 s.evac, .int .i64 s.low, .int .i64 s.high] 53)).alloc (.cells #[.int .i64 kind, .int .i64 tick, .int .i64 tenant, .int .i64 cell, .int .i64 other, .int .i64 epoch, .int .i64 since, .int .i64 till, .int .i64 n] 56)) (w.heap.size + 1) 53 #[.int .i64 s.tick, .int .i64 s.count, .slice sat s.tenants.length sct, .slice sac s.cells.length scc, .int .i64 s.proven, .int .i64 s.evac, .int .i64 s.low, .int .i64 s.high] := by
    have := ((Blk.new (w.alloc (.cells #[.int .i64 c.regions, .slice az c.zones.length cz, .slice ac c.cells.length cc, .slice at_ c.tenants.length ct, .slice av c.versions.length cv, .slice ar c.replicas.length cr, .slice ao c.observers.length co, .int .i64 c.blast, .int .i64 c.lease, .int .i64 c.bake] 31)) 53 #[.int .i64 s.tick, .int .i64 s.count, .slice sat s.tenants.length sct, .slice sac s.cells.length scc, .int .i64 s.proven, .int .i64 s.evac, .int .i64 s.low, .int .i64 s.high]).alloc (.cells #[.int .i64 kind, .int .i64 tick, .int .i64 tenant, .int .i64 cell, .int .i64 other, .int .i64 epoch, .int .i64 since, .int .i64 till, .int .i64 n] 56))
    simpa using this
  have hBe : Blk (((w.alloc (.cells #[.int .i64 c.regions, .slice az c.zones.length cz, .slice ac c.cells.length cc, .slice at_ c.tenants.length ct, .slice av c.versions.length cv, .slice ar c.replicas.length cr, .slice ao c.observers.length co, .int .i64 c.blast, .int .i64 c.lease, .int .i64 c.bake] 31)).alloc (.cells #[.int .i64 s.tick, .int .i64 s.count, .slice sat s.tenants.length sct, .slice sac s.cells.length scc, .int .i64 s.proven, .int .i64 s.evac, .int .i64 s.low, .int .i64 s.high] 53)).alloc (.cells #[.int .i64 kind, .int .i64 tick, .int .i64 tenant, .int .i64 cell, .int .i64 other, .int .i64 epoch, .int .i64 since, .int .i64 till, .int .i64 n] 56)) (w.heap.size + 1 + 1) 56 #[.int .i64 kind, .int .i64 tick, .int .i64 tenant, .int .i64 cell, .int .i64 other, .int .i64 epoch, .int .i64 since, .int .i64 till, .int .i64 n] := by
    have := (Blk.new ((w.alloc (.cells #[.int .i64 c.regions, .slice az c.zones.length cz, .slice ac c.cells.length cc, .slice at_ c.tenants.length ct, .slice av c.versions.length cv, .slice ar c.replicas.length cr, .slice ao c.observers.length co, .int .i64 c.blast, .int .i64 c.lease, .int .i64 c.bake] 31)).alloc (.cells #[.int .i64 s.tick, .int .i64 s.count, .slice sat s.tenants.length sct, .slice sac s.cells.length scc, .int .i64 s.proven, .int .i64 s.evac, .int .i64 s.low, .int .i64 s.high] 53)) 56 #[.int .i64 kind, .int .i64 tick, .int .i64 tenant, .int .i64 cell, .int .i64 other, .int .i64 epoch, .int .i64 since, .int .i64 till, .int .i64 n])
    simpa using this
  unfold cfgC stC entC
  simp only
  go_enter Tryz.func113, Tryz.ntmps113
  go_upto_region 1 with fail
  generalize ((w.alloc _).alloc _).alloc _ = W at *
  have hgc := hBc.lt
  have d0 := hBc.cell' (i := 0) (v := .int .i64 c.regions) rfl
  have d1 := hBc.cell' (i := 1) (v := .slice az c.zones.length cz) rfl
  have d2 := hBc.cell' (i := 2) (v := .slice ac c.cells.length cc) rfl
  have d3 := hBc.cell' (i := 3) (v := .slice at_ c.tenants.length ct) rfl
  have d4 := hBc.cell' (i := 4) (v := .slice av c.versions.length cv) rfl
  have d5 := hBc.cell' (i := 5) (v := .slice ar c.replicas.length cr) rfl
  have d6 := hBc.cell' (i := 6) (v := .slice ao c.observers.length co) rfl
  have d7 := hBc.cell' (i := 7) (v := .int .i64 c.blast) rfl
  have d8 := hBc.cell' (i := 8) (v := .int .i64 c.lease) rfl
  have d9 := hBc.cell' (i := 9) (v := .int .i64 c.bake) rfl
  clear hBc
  have hgs := hBs.lt
  have su0 := hBs.cell' (i := 0) (v := .int .i64 s.tick) rfl
  have su1 := hBs.cell' (i := 1) (v := .int .i64 s.count) rfl
  have su2 := hBs.cell' (i := 2) (v := .slice sat s.tenants.length sct) rfl
  have su3 := hBs.cell' (i := 3) (v := .slice sac s.cells.length scc) rfl
  have su4 := hBs.cell' (i := 4) (v := .int .i64 s.proven) rfl
  have su5 := hBs.cell' (i := 5) (v := .int .i64 s.evac) rfl
  have su6 := hBs.cell' (i := 6) (v := .int .i64 s.low) rfl
  have su7 := hBs.cell' (i := 7) (v := .int .i64 s.high) rfl
  clear hBs
  have hge := hBe.lt
  have v0 := hBe.cell' (i := 0) (v := .int .i64 kind) rfl
  have v1 := hBe.cell' (i := 1) (v := .int .i64 tick) rfl
  have v2 := hBe.cell' (i := 2) (v := .int .i64 tenant) rfl
  have v3 := hBe.cell' (i := 3) (v := .int .i64 cell) rfl
  have v4 := hBe.cell' (i := 4) (v := .int .i64 other) rfl
  have v5 := hBe.cell' (i := 5) (v := .int .i64 epoch) rfl
  have v6 := hBe.cell' (i := 6) (v := .int .i64 since) rfl
  have v7 := hBe.cell' (i := 7) (v := .int .i64 till) rfl
  have v8 := hBe.cell' (i := 8) (v := .int .i64 n) rfl
  clear hBe
  have HL := Lib.hid hL
  have HWc := Lib.hid (HKc.out.belowW hL)
  have HWs := Lib.hid (HKs.out.belowW hL)
  clear hL
  have hx : ∀ (y : Later W.heap.size W) b o, b < W.heap.size → y.world.cell? ⟨b, o, none⟩ = W.cell? ⟨b, o, none⟩ := fun y b o h => y.cell h
  refine start_later W.heap.size ?_
  intro y0
  go_wp2_with (first
    | (go_at_call 163; (with_reducible refine (stHas_any _ _ _ (by omega) (by omega)).mono ?_); rintro r wq ⟨rfl, rfl⟩)
    )
  · go_ret
    refine ⟨ret_i64 ?_, (by first | exact HL.out | exact HL.out.trans ((Later.below _).mono HL.out.size))⟩
    rw [HR.out]
    simp_all
  · have hno : hasB s.proven n = false := by simp_all
    have HN := Lib.hid hno
    rw [hno]
    clear hno
    have hz : ∀ (y : Later W.heap.size W) b, b < W.heap.size → b < y.world.heap.size := fun y b h => Nat.lt_of_lt_of_le h y.below.size
    go_loopg [17] s.cells.length (fun gk si wr => NoneRel W s.cells (bakedB c ⟨kind, tick, tenant, cell, other, epoch, since, till, n⟩) gk si wr)
    case atStart => exact ⟨0, y0, by omega, rfl, rfl, fun j x h => absurd h (Nat.not_lt_zero _)⟩
    case round =>
      rename_i J K aJ aK
      obtain ⟨k, y, hgk, rfl, rfl, hnone⟩ := hrel
      have HNo := Lib.hid hnone
      clear hnone
      by_cases hk : k < s.cells.length
      · obtain ⟨b, off, z, rfl, hb, hzz, hcell⟩ := HWs.out.cells.row (enc := csC) (sz := 4) (fun _ => rfl) (by omega) hk
        have hbW : b < W.heap.size := hb
        have e0 := hcell 0 (.int .i64 z.mode) rfl
        have e1 := hcell 1 (.int .i64 z.running) rfl
        have e2 := hcell 2 (.int .i64 z.wanted) rfl
        have e3 := hcell 3 (.int .i64 z.since) rfl
        simp only [Nat.add_zero] at e0
        have hzi := HI.out.cel _ (List.mem_of_getElem? hzz)
        have hsi := hzi.since
        have HZ := Lib.hid hzz
        have HNX := Lib.hid (none_next HNo.out hzz)
        clear hcell hzz hzi hb HNo
        have hlt : (k : Int) < (s.cells.length : Int) := by omega
        go_wp2
        all_goals first
          | (go_roundg (gk - 1)
             case measure => omega
             case rel =>
               refine ⟨k + 1, ⟨_, y.below.alloc y.below.size _⟩, by omega, by go_num, rfl, HNX.out ?_⟩
               go_light; (first | (simp [bakedB, *]; done) | (simp [bakedB]; omega) | (simp_all [bakedB]; done) | (simp_all [bakedB]; omega)))
          | (go_ret
             refine ⟨ret_i64 ?_, HL.out.trans ((y.below.alloc y.below.size _).mono HL.out.size)⟩
             have hyes : (bakedB c ⟨kind, tick, tenant, cell, other, epoch, since, till, n⟩) z = true := (by go_light; (first | (simp [bakedB, *]; done) | (simp [bakedB]; omega) | (simp_all [bakedB]; done) | (simp_all [bakedB]; omega)))
             rw [HR.out, any_yes HZ.out hyes]
             simp [HN.out])
      · have hge : ¬ (k : Int) < (s.cells.length : Int) := by omega
        have HA := Lib.hid (any_none (l := s.cells) HNo.out (by omega))
        clear HNo
        go_wp2
        go_ret
        refine ⟨ret_i64 ?_, HL.out.trans (y.below.mono HL.out.size)⟩
        rw [HR.out, HA.out]
        simp [HN.out]
set_option maxHeartbeats 2000000 in
set_option maxRecDepth 100000 in
theorem stRuns_any (c : Cfg) (y : StA) (s : St) (e : Ent) (w : World) (hV : CfgV c) (hI : StInv c s) (hs : StOk w (· < w.heap.size) y s) (hx0 : 0 ≤ e.cell) (hx1 : e.cell < s.cells.length) :
    Calls Tryz.prog 112 #[.agg (stC y s), .agg (entC e).toArray] w fun r w' => r = .returned (.int .i64 (runsE s e)) ∧ Below w.heap.size w w' := by
  have hnc := hV.nc
  have hntt := hV.nt
  have HV := Lib.hid hV
  clear hV
  obtain ⟨sat, sct, sac, scc⟩ := y
  have HKs := Lib.hid hs
  have hsl : 1 ≤ s.cells.length ∧ s.cells.length ≤ 16 := by have := hI.lc; omega
  have hst : s.tenants.length ≤ 32 := by have := hI.lt; omega
  have HI := Lib.hid hI
  clear hs hI
  obtain ⟨kind, tick, tenant, cell, other, epoch, since, till, n⟩ := e
  try simp only at *
  obtain ⟨xn, rfl⟩ := Int.eq_ofNat_of_zero_le hx0
  have hxn : xn < s.cells.length := by omega
  obtain ⟨bx, ofx, x, rfl, hbx, hzx, hcx⟩ := HKs.out.cells.row (enc := csC) (sz := 4) (fun _ => rfl) (by omega) hxn
  have HX : Hid (csAt s xn = x) := Lib.hid (by unfold csAt; rw [Int.toNat_natCast, getD_some hzx])
  have HXI := Lib.hid (HI.out.cel _ (List.mem_of_getElem? hzx))
  have hbx1 : bx < w.heap.size := hbx
  have hpr := HI.out.proven
  have HR : Hid (runsE s ⟨kind, tick, tenant, xn, other, epoch, since, till, n⟩ = if x.wanted ≠ n ∨ x.running = x.wanted then 4 else if hasB s.proven n = false ∧ s.evac ≠ 0 then 12 else if s.tenants.any (fun t => decide (t.win.cell = (xn : Int)) && decide (tick < t.win.till)) = true then 9 else 0) := Lib.hid (by unfold runsE; rw [HX.out])
  cases hhb : hasB s.proven n
  all_goals cases hee : (s.evac != 0)
  all_goals
    have hL : Below w.heap.size w ((w.alloc (.cells #[.int .i64 s.tick, .int .i64 s.count, .slice sat s.tenants.length sct, .slice (some ⟨bx, ofx, none⟩) s.cells.length scc, .int .i64 s.proven, .int .i64 s.evac, .int .i64 s.low, .int .i64 s.high] 53)).alloc (.cells #[.int .i64 kind, .int .i64 tick, .int .i64 tenant, .int .i64 xn, .int .i64 other, .int .i64 epoch, .int .i64 since, .int .i64 till, .int .i64 n] 56)) := (((Below.refl w.heap.size w).alloc (by simp <;> omega) (.cells #[.int .i64 s.tick, .int .i64 s.count, .slice sat s.tenants.length sct, .slice (some ⟨bx, ofx, none⟩) s.cells.length scc, .int .i64 s.proven, .int .i64 s.evac, .int .i64 s.low, .int .i64 s.high] 53)).alloc (by simp <;> omega) (.cells #[.int .i64 kind, .int .i64 tick, .int .i64 tenant, .int .i64 xn, .int .i64 other, .int .i64 epoch, .int .i64 since, .int .i64 till, .int .i64 n] 56))
    have hBs : Blk ((w.alloc (.cells #[.int .i64 s.tick, .int .i64 s.count, .slice sat s.tenants.length sct, .slice (some ⟨bx, ofx, none⟩) s.cells.length scc, .int .i64 s.proven, .int .i64 s.evac, .int .i64 s.low, .int .i64 s.high] 53)).alloc (.cells #[.int .i64 kind, .int .i64 tick, .int .i64 tenant, .int .i64 xn, .int .i64 other, .int .i64 epoch, .int .i64 since, .int .i64 till, .int .i64 n] 56)) (w.heap.size) 53 #[.int .i64 s.tick, .int .i64 s.count, .slice sat s.tenants.length sct, .slice (some ⟨bx, ofx, none⟩) s.cells.length scc, .int .i64 s.proven, .int .i64 s.evac, .int .i64 s.low, .int .i64 s.high] := by
      have := ((Blk.new w 53 #[.int .i64 s.tick, .int .i64 s.count, .slice sat s.tenants.length sct, .slice (some ⟨bx, ofx, none⟩) s.cells.length scc, .int .i64 s.proven, .int .i64 s.evac, .int .i64 s.low, .int .i64 s.high]).alloc (.cells #[.int .i64 kind, .int .i64 tick, .int .i64 tenant, .int .i64 xn, .int .i64 other, .int .i64 epoch, .int .i64 since, .int .i64 till, .int .i64 n] 56))
      simpa using this
    have hBe : Blk ((w.alloc (.cells #[.int .i64 s.tick, .int .i64 s.count, .slice sat s.tenants.length sct, .slice (some ⟨bx, ofx, none⟩) s.cells.length scc, .int .i64 s.proven, .int .i64 s.evac, .int .i64 s.low, .int .i64 s.high] 53)).alloc (.cells #[.int .i64 kind, .int .i64 tick, .int .i64 tenant, .int .i64 xn, .int .i64 other, .int .i64 epoch, .int .i64 since, .int .i64 till, .int .i64 n] 56)) (w.heap.size + 1) 56 #[.int .i64 kind, .int .i64 tick, .int .i64 tenant, .int .i64 xn, .int .i64 other, .int .i64 epoch, .int .i64 since, .int .i64 till, .int .i64 n] := by
      have := (Blk.new (w.alloc (.cells #[.int .i64 s.tick, .int .i64 s.count, .slice sat s.tenants.length sct, .slice (some ⟨bx, ofx, none⟩) s.cells.length scc, .int .i64 s.proven, .int .i64 s.evac, .int .i64 s.low, .int .i64 s.high] 53)) 56 #[.int .i64 kind, .int .i64 tick, .int .i64 tenant, .int .i64 xn, .int .i64 other, .int .i64 epoch, .int .i64 since, .int .i64 till, .int .i64 n])
      simpa using this
    unfold stC entC
    simp only
    go_enter Tryz.func112, Tryz.ntmps112
    go_upto_region 1 with fail
    generalize (w.alloc _).alloc _ = W at *
    have hgs := hBs.lt
    have su0 := hBs.cell' (i := 0) (v := .int .i64 s.tick) rfl
    have su1 := hBs.cell' (i := 1) (v := .int .i64 s.count) rfl
    have su2 := hBs.cell' (i := 2) (v := .slice sat s.tenants.length sct) rfl
    have su3 := hBs.cell' (i := 3) (v := .slice (some ⟨bx, ofx, none⟩) s.cells.length scc) rfl
    have su4 := hBs.cell' (i := 4) (v := .int .i64 s.proven) rfl
    have su5 := hBs.cell' (i := 5) (v := .int .i64 s.evac) rfl
    have su6 := hBs.cell' (i := 6) (v := .int .i64 s.low) rfl
    have su7 := hBs.cell' (i := 7) (v := .int .i64 s.high) rfl
    clear hBs
    have hge := hBe.lt
    have v0 := hBe.cell' (i := 0) (v := .int .i64 kind) rfl
    have v1 := hBe.cell' (i := 1) (v := .int .i64 tick) rfl
    have v2 := hBe.cell' (i := 2) (v := .int .i64 tenant) rfl
    have v3 := hBe.cell' (i := 3) (v := .int .i64 xn) rfl
    have v4 := hBe.cell' (i := 4) (v := .int .i64 other) rfl
    have v5 := hBe.cell' (i := 5) (v := .int .i64 epoch) rfl
    have v6 := hBe.cell' (i := 6) (v := .int .i64 since) rfl
    have v7 := hBe.cell' (i := 7) (v := .int .i64 till) rfl
    have v8 := hBe.cell' (i := 8) (v := .int .i64 n) rfl
    clear hBe
    have HL := Lib.hid hL
    have HWs := Lib.hid (HKs.out.belowW hL)
    clear hL
    have x0 : W.cell? ⟨bx, ofx + xn * 4, none⟩ = some (.int .i64 x.mode) := (HL.out.cell (p := ⟨bx, ofx + xn * 4, none⟩) hbx1).trans (hcx 0 _ rfl)
    have x1 : W.cell? ⟨bx, ofx + xn * 4 + 1, none⟩ = some (.int .i64 x.running) := (HL.out.cell (p := ⟨bx, ofx + xn * 4 + 1, none⟩) hbx1).trans (hcx 1 _ rfl)
    have x2 : W.cell? ⟨bx, ofx + xn * 4 + 2, none⟩ = some (.int .i64 x.wanted) := (HL.out.cell (p := ⟨bx, ofx + xn * 4 + 2, none⟩) hbx1).trans (hcx 2 _ rfl)
    have x3 : W.cell? ⟨bx, ofx + xn * 4 + 3, none⟩ = some (.int .i64 x.since) := (HL.out.cell (p := ⟨bx, ofx + xn * 4 + 3, none⟩) hbx1).trans (hcx 3 _ rfl)
    have hbxW : bx < W.heap.size := Nat.lt_of_lt_of_le hbx1 HL.out.size
    clear hcx hzx hbx hbx1
    have hBb := Blk.new W 78 #[.int .i64 x.mode, .int .i64 x.running, .int .i64 x.wanted, .int .i64 x.since]
    have hL2 := (Below.refl W.heap.size W).alloc (Nat.le_refl _) (.cells #[.int .i64 x.mode, .int .i64 x.running, .int .i64 x.wanted, .int .i64 x.since] 78)
    go_upto_region 2 with fail
    clear x0 x1 x2 x3 hbxW
    generalize W.alloc _ = W2 at *
    have p0 := hBb.cell' (i := 0) (v := .int .i64 x.mode) rfl
    have p1 := hBb.cell' (i := 1) (v := .int .i64 x.running) rfl
    have p2 := hBb.cell' (i := 2) (v := .int .i64 x.wanted) rfl
    have p3 := hBb.cell' (i := 3) (v := .int .i64 x.since) rfl
    have hgb := hBb.lt
    clear hBb
    replace su0 : W2.cell? ⟨w.heap.size, 0, none⟩ = some (.int .i64 s.tick) := (hL2.cell (p := ⟨w.heap.size, 0, none⟩) hgs).trans su0
    replace su1 : W2.cell? ⟨w.heap.size, 1, none⟩ = some (.int .i64 s.count) := (hL2.cell (p := ⟨w.heap.size, 1, none⟩) hgs).trans su1
    replace su2 : W2.cell? ⟨w.heap.size, 2, none⟩ = some (.slice sat s.tenants.length sct) := (hL2.cell (p := ⟨w.heap.size, 2, none⟩) hgs).trans su2
    replace su3 : W2.cell? ⟨w.heap.size, 3, none⟩ = some (.slice (some ⟨bx, ofx, none⟩) s.cells.length scc) := (hL2.cell (p := ⟨w.heap.size, 3, none⟩) hgs).trans su3
    replace su4 : W2.cell? ⟨w.heap.size, 4, none⟩ = some (.int .i64 s.proven) := (hL2.cell (p := ⟨w.heap.size, 4, none⟩) hgs).trans su4
    replace su5 : W2.cell? ⟨w.heap.size, 5, none⟩ = some (.int .i64 s.evac) := (hL2.cell (p := ⟨w.heap.size, 5, none⟩) hgs).trans su5
    replace su6 : W2.cell? ⟨w.heap.size, 6, none⟩ = some (.int .i64 s.low) := (hL2.cell (p := ⟨w.heap.size, 6, none⟩) hgs).trans su6
    replace su7 : W2.cell? ⟨w.heap.size, 7, none⟩ = some (.int .i64 s.high) := (hL2.cell (p := ⟨w.heap.size, 7, none⟩) hgs).trans su7
    replace hgs : w.heap.size < W2.heap.size := Nat.lt_of_lt_of_le hgs hL2.size
    replace v0 : W2.cell? ⟨w.heap.size + 1, 0, none⟩ = some (.int .i64 kind) := (hL2.cell (p := ⟨w.heap.size + 1, 0, none⟩) hge).trans v0
    replace v1 : W2.cell? ⟨w.heap.size + 1, 1, none⟩ = some (.int .i64 tick) := (hL2.cell (p := ⟨w.heap.size + 1, 1, none⟩) hge).trans v1
    replace v2 : W2.cell? ⟨w.heap.size + 1, 2, none⟩ = some (.int .i64 tenant) := (hL2.cell (p := ⟨w.heap.size + 1, 2, none⟩) hge).trans v2
    replace v3 : W2.cell? ⟨w.heap.size + 1, 3, none⟩ = some (.int .i64 xn) := (hL2.cell (p := ⟨w.heap.size + 1, 3, none⟩) hge).trans v3
    replace v4 : W2.cell? ⟨w.heap.size + 1, 4, none⟩ = some (.int .i64 other) := (hL2.cell (p := ⟨w.heap.size + 1, 4, none⟩) hge).trans v4
    replace v5 : W2.cell? ⟨w.heap.size + 1, 5, none⟩ = some (.int .i64 epoch) := (hL2.cell (p := ⟨w.heap.size + 1, 5, none⟩) hge).trans v5
    replace v6 : W2.cell? ⟨w.heap.size + 1, 6, none⟩ = some (.int .i64 since) := (hL2.cell (p := ⟨w.heap.size + 1, 6, none⟩) hge).trans v6
    replace v7 : W2.cell? ⟨w.heap.size + 1, 7, none⟩ = some (.int .i64 till) := (hL2.cell (p := ⟨w.heap.size + 1, 7, none⟩) hge).trans v7
    replace v8 : W2.cell? ⟨w.heap.size + 1, 8, none⟩ = some (.int .i64 n) := (hL2.cell (p := ⟨w.heap.size + 1, 8, none⟩) hge).trans v8
    replace hge : w.heap.size + 1 < W2.heap.size := Nat.lt_of_lt_of_le hge hL2.size
    replace HWs := Lib.hid (HWs.out.belowW hL2)
    replace HL := Lib.hid (HL.out.trans (hL2.mono HL.out.size))
    clear hL2
    generalize W.heap.size = gb at *
    have hx : ∀ (y : Later W2.heap.size W2) b o, b < W2.heap.size → y.world.cell? ⟨b, o, none⟩ = W2.cell? ⟨b, o, none⟩ := fun y b o h => y.cell h
    refine start_later W2.heap.size ?_
    intro y0
    go_wp2_with (first
      | (go_at_call 163; (with_reducible refine (stHas_any _ _ _ (by omega) (by omega)).mono ?_); rintro r wq ⟨rfl, rfl⟩; rw [hhb])
      )
    all_goals first
      | (go_ret
         refine ⟨ret_i64 ?_, (by first | exact HL.out | exact HL.out.trans ((Later.below _).mono HL.out.size))⟩
         rw [HR.out]
         go_light
         clear HR HL
         simp_all
         done)
      | (have hz : ∀ (y : Later W2.heap.size W2) b, b < W2.heap.size → b < y.world.heap.size := fun y b h => Nat.lt_of_lt_of_le h y.below.size
         go_loopg [40] s.tenants.length (fun gk si wr => NoneRel W2 s.tenants (fun t => decide (t.win.cell = (xn : Int)) && decide (tick < t.win.till)) gk si wr)
         case atStart => exact ⟨0, y0, by omega, rfl, rfl, fun j x h => absurd h (Nat.not_lt_zero _)⟩
         case round =>
           rename_i J K aJ aK
           obtain ⟨k, y, hgk, rfl, rfl, hnone⟩ := hrel
           have HNo := Lib.hid hnone
           clear hnone
           by_cases hk : k < s.tenants.length
           · obtain ⟨b, off, z, rfl, hb, hzz, hcell⟩ := HWs.out.tenants.row (enc := tsC) (sz := 12) (fun _ => rfl) (by omega) hk
             have hbW : b < W2.heap.size := hb
             have e0 := hcell 0 (.bool z.placed) rfl
             have e1 := hcell 1 (.bool z.shed) rfl
             have e2 := hcell 2 (.int .i64 z.home) rfl
             have e3 := hcell 3 (.int .i64 z.standby) rfl
             have e4 := hcell 4 (.int .i64 z.next) rfl
             have e5 := hcell 5 (.int .i64 z.target) rfl
             have e6 := hcell 6 (.int .i64 z.epoch) rfl
             have e7 := hcell 7 (.int .i64 z.win.cell) rfl
             have e8 := hcell 8 (.int .i64 z.win.epoch) rfl
             have e9 := hcell 9 (.int .i64 z.win.version) rfl
             have e10 := hcell 10 (.int .i64 z.win.since) rfl
             have e11 := hcell 11 (.int .i64 z.win.till) rfl
             simp only [Nat.add_zero] at e0
             have hzi := HI.out.ten _ (List.mem_of_getElem? hzz)
             have hsi := hzi.wtill
             have HZ := Lib.hid hzz
             have HNX := Lib.hid (none_next HNo.out hzz)
             clear hcell hzz hzi hb HNo
             have hlt : (k : Int) < (s.tenants.length : Int) := by omega
             go_wp2
             all_goals first
               | (go_roundg (gk - 1)
                  case measure => omega
                  case rel =>
                    refine ⟨k + 1, ⟨_, y.below.alloc y.below.size _⟩, by omega, by go_num, rfl, HNX.out ?_⟩
                    go_light; (first | (simp [*]; done) | (simp_all; done) | (simp_all; omega)))
               | (go_ret
                  refine ⟨ret_i64 ?_, HL.out.trans ((y.below.alloc y.below.size _).mono HL.out.size)⟩
                  have hyes : (fun t => decide (t.win.cell = (xn : Int)) && decide (tick < t.win.till)) z = true := (by go_light; (first | (simp [*]; done) | (simp_all; done) | (simp_all; omega)))
                  rw [HR.out, any_yes HZ.out hyes]
                  go_light; simp_all)
           · have hge : ¬ (k : Int) < (s.tenants.length : Int) := by omega
             have HA := Lib.hid (any_none (l := s.tenants) HNo.out (by omega))
             clear HNo
             go_wp2
             go_ret
             refine ⟨ret_i64 ?_, HL.out.trans (y.below.mono HL.out.size)⟩
             rw [HR.out, HA.out]
             go_light; simp_all)
end Go.Proofs.YtchhdflealgkaaaGreat
