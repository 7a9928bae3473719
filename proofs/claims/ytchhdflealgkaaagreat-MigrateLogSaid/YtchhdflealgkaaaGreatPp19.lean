import Derived.Test.YtchhdflealgkaaaGreatPp18
namespace Go.Proofs.YtchhdflealgkaaaGreat
open Go.RowKit
set_option linter.unusedSimpArgs false
set_option linter.unusedVariables false
theorem verField (a b:Int) (w:World):Sem.run Tryz.prog (Instr.field 88 (.agg #[.int .i64 a,.int .i64 b]) 1) w=.ok (.int .i64 b) w:=by kernel_rfl
theorem verOf_eq {c:Cfg} {k:Int} (h:0≤k∧k<c.versions.length):verOf c k=verAt c k:=if_pos h
set_option maxHeartbeats 2000000 in
set_option maxRecDepth 100000 in
theorem stExpand_any (x : CfgA) (c : Cfg) (y : StA) (s : St) (w : World) (hV : CfgV c) (hc : CfgOk w (· < w.heap.size) x c) (hI : StInv c s) (hs : StOk w (· < w.heap.size) y s)  :
    Calls Tryz.prog 115 #[.agg (cfgC x c), .agg (stC y s)] w fun r w' => r = .returned (.int .i64 (expandE c s)) ∧ Below w.heap.size w w' := by
  have hnc := hV.nc
  have hntt := hV.nt
  obtain ⟨az, cz, ac, cc, at_, ct, av, cv, ar, cr, ao, co⟩ := x
  have HV := Lib.hid hV
  have HKc := Lib.hid hc
  clear hV hc
  obtain ⟨sat, sct, sac, scc⟩ := y
  have HKs := Lib.hid hs
  have hsl : 1 ≤ s.cells.length ∧ s.cells.length ≤ 16 := by have := hI.lc; omega
  have hst : s.tenants.length ≤ 32 := by have := hI.lt; omega
  have HI := Lib.hid hI
  clear hs hI
  have hlo := HI.out.low
  have HR : Hid (expandE c s = if s.low < s.high then 4 else if 30 ≤ s.high then 2 else if s.cells.any (blockB c s) = true then 13 else 0) := Lib.hid rfl
  by_cases q1 : s.low < s.high
  all_goals by_cases q2 : (30 : Int) ≤ s.high
  all_goals
    have hL : Below w.heap.size w ((w.alloc (.cells #[.int .i64 c.regions, .slice az c.zones.length cz, .slice ac c.cells.length cc, .slice at_ c.tenants.length ct, .slice av c.versions.length cv, .slice ar c.replicas.length cr, .slice ao c.observers.length co, .int .i64 c.blast, .int .i64 c.lease, .int .i64 c.bake] 31)).alloc (.cells #[.int .i64 s.tick, .int .i64 s.count, .slice sat s.tenants.length sct, .slice sac s.cells.length scc, .int .i64 s.proven, .int .i64 s.evac, .int .i64 s.low, .int .i64 s.high] 53)) := (((Below.refl w.heap.size w).alloc (by simp <;> omega) (.cells #[.int .i64 c.regions, .slice az c.zones.length cz, .slice ac c.cells.length cc, .slice at_ c.tenants.length ct, .slice av c.versions.length cv, .slice ar c.replicas.length cr, .slice ao c.observers.length co, .int .i64 c.blast, .int .i64 c.lease, .int .i64 c.bake] 31)).alloc (by simp <;> omega) (.cells #[.int .i64 s.tick, .int .i64 s.count, .slice sat s.tenants.length sct, .slice sac s.cells.length scc, .int .i64 s.proven, .int .i64 s.evac, .int .i64 s.low, .int .i64 s.high] 53))
    have hBc : Blk ((w.alloc (.cells #[.int .i64 c.regions, .slice az c.zones.length cz, .slice ac c.cells.length cc, .slice at_ c.tenants.length ct, .slice av c.versions.length cv, .slice ar c.replicas.length cr, .slice ao c.observers.length co, .int .i64 c.blast, .int .i64 c.lease, .int .i64 c.bake] 31)).alloc (.cells #[.int .i64 s.tick, .int .i64 s.count, .slice sat s.tenants.length sct, .slice sac s.cells.length scc, .int .i64 s.proven, .int .i64 s.evac, .int .i64 s.low, .int .i64 s.high] 53)) (w.heap.size) 31 #[.int .i64 c.regions, .slice az c.zones.length cz, .slice ac c.cells.length cc, .slice at_ c.tenants.length ct, .slice av c.versions.length cv, .slice ar c.replicas.length cr, .slice ao c.observers.length co, .int .i64 c.blast, .int .i64 c.lease, .int .i64 c.bake] := by
      have := ((Blk.new w 31 #[.int .i64 c.regions, .slice az c.zones.length cz, .slice ac c.cells.length cc, .slice at_ c.tenants.length ct, .slice av c.versions.length cv, .slice ar c.replicas.length cr, .slice ao c.observers.length co, .int .i64 c.blast, .int .i64 c.lease, .int .i64 c.bake]).alloc (.cells #[.int .i64 s.tick, .int .i64 s.count, .slice sat s.tenants.length sct, .slice sac s.cells.length scc, .int .i64 s.proven, .int .i64 s.evac, .int .i64 s.low, .int .i64 s.high] 53))
      simpa using this
    have hBs : Blk ((w.alloc (.cells #[.int .i64 c.regions, .slice az c.zones.length cz, .slice ac c.cells.length cc, .slice at_ c.tenants.length ct, .slice av c.versions.length cv, .slice ar c.replicas.length cr, .slice ao c.observers.length co, .int .i64 c.blast, .int .i64 c.lease, .int .i64 c.bake] 31)).alloc (.cells #[.int .i64 s.tick, .int .i64 s.count, .slice sat s.tenants.length sct, .slice sac s.cells.length scc, .int .i64 s.proven, .int .i64 s.evac, .int .i64 s.low, .int .i64 s.high] 53)) (w.heap.size + 1) 53 #[.int .i64 s.tick, .int .i64 s.count, .slice sat s.tenants.length sct, .slice sac s.cells.length scc, .int .i64 s.proven, .int .i64 s.evac, .int .i64 s.low, .int .i64 s.high] := by
      have := (Blk.new (w.alloc (.cells #[.int .i64 c.regions, .slice az c.zones.length cz, .slice ac c.cells.length cc, .slice at_ c.tenants.length ct, .slice av c.versions.length cv, .slice ar c.replicas.length cr, .slice ao c.observers.length co, .int .i64 c.blast, .int .i64 c.lease, .int .i64 c.bake] 31)) 53 #[.int .i64 s.tick, .int .i64 s.count, .slice sat s.tenants.length sct, .slice sac s.cells.length scc, .int .i64 s.proven, .int .i64 s.evac, .int .i64 s.low, .int .i64 s.high])
      simpa using this
    unfold cfgC stC
    simp only
    go_enter Tryz.func115, Tryz.ntmps115
    go_upto_region 1 with fail
    generalize (w.alloc _).alloc _ = W at *
    have hgc := hBc.lt
    have d0 := hBc.cell' (i := 0) (v := .int .i64 c.regions) rfl
    have d1 := hBc.cell' (i := 1) (v := .slice az c.zones.length cz) rfl
    have d2 := hBc.cell' (i := 2) (v := .slice ac c.cells.length cc) rfl
    have d3 := hBc.cell' (i := 3) (v := .slice at_ c.tenants.length ct) rfl
    have d4 := hBc.cell' (i := 4) (v := .slice av c.versions.length cv) rfl
    have d5 := hBc.cell' (i := 5) (v := .slice ar c.replicas.length cr) rfl
    have d6 := hBc.cell' (i := 6) (v := .slice ao c.observers.length co) rfl
    have d7 := hBc.cell' (i := 7) (v := .int .i64 c.blast) rfl
    have d8 := hBc.cell' (i := 8) (v := .int .i64 c.lease) rfl
    have d9 := hBc.cell' (i := 9) (v := .int .i64 c.bake) rfl
    clear hBc
    have hgs := hBs.lt
    have su0 := hBs.cell' (i := 0) (v := .int .i64 s.tick) rfl
    have su1 := hBs.cell' (i := 1) (v := .int .i64 s.count) rfl
    have su2 := hBs.cell' (i := 2) (v := .slice sat s.tenants.length sct) rfl
    have su3 := hBs.cell' (i := 3) (v := .slice sac s.cells.length scc) rfl
    have su4 := hBs.cell' (i := 4) (v := .int .i64 s.proven) rfl
    have su5 := hBs.cell' (i := 5) (v := .int .i64 s.evac) rfl
    have su6 := hBs.cell' (i := 6) (v := .int .i64 s.low) rfl
    have su7 := hBs.cell' (i := 7) (v := .int .i64 s.high) rfl
    clear hBs
    have HL := Lib.hid hL
    have HWc := Lib.hid (HKc.out.belowW hL)
    have HWs := Lib.hid (HKs.out.belowW hL)
    clear hL
    go_wp2
  · go_ret
    exact ⟨ret_i64 (by rw [HR.out, if_pos (by omega)]), HL.out⟩
  · go_ret
    exact ⟨ret_i64 (by rw [HR.out, if_pos (by omega)]), HL.out⟩
  · go_ret
    exact ⟨ret_i64 (by rw [HR.out, if_neg (by omega), if_pos (by omega)]), HL.out⟩
  · have HR2 : Hid (expandE c s = if s.cells.any (blockB c s) = true then 13 else 0) := Lib.hid (by rw [HR.out, if_neg (by omega), if_neg (by omega)])
    clear HR q1 q2
    go_loopg [20] s.cells.length (fun gk si wr => NoneRel W s.cells (blockB c s) gk si wr)
    case atStart => exact ⟨0, ⟨W, Below.refl _ _⟩, by omega, rfl, rfl, fun j x h => absurd h (Nat.not_lt_zero _)⟩
    case round =>
      rename_i J K aJ aK
      obtain ⟨k, y, hgk, rfl, rfl, hnone⟩ := hrel
      have HNo := Lib.hid hnone
      clear hnone
      have hx : ∀ (y : Later W.heap.size W) b o, b < W.heap.size → y.world.cell? ⟨b, o, none⟩ = W.cell? ⟨b, o, none⟩ := fun y b o h => y.cell h
      by_cases hk : k < s.cells.length
      · obtain ⟨b, off, z, rfl, hb, hzz, hcell⟩ := HWs.out.cells.row (enc := csC) (sz := 4) (fun _ => rfl) (by omega) hk
        have hbW : b < W.heap.size := hb
        have e0 := hcell 0 (.int .i64 z.mode) rfl
        have e1 := hcell 1 (.int .i64 z.running) rfl
        have e2 := hcell 2 (.int .i64 z.wanted) rfl
        have e3 := hcell 3 (.int .i64 z.since) rfl
        simp only [Nat.add_zero] at e0
        have hzi := HI.out.cel _ (List.mem_of_getElem? hzz)
        have HB : Hid (blockB c s z = (decide ((verOf c z.running).2 ≤ s.high) || decide ((verOf c z.wanted).2 ≤ s.high))) := Lib.hid (by unfold blockB; rw [verOf_eq hzi.running, verOf_eq hzi.wanted])
        have HZ := Lib.hid hzz
        have HNX := Lib.hid (none_next HNo.out hzz)
        clear hcell hzz hzi hb HNo
        have hlt : (k : Int) < (s.cells.length : Int) := by omega
        have hBb := Blk.new y.world 78 #[.int .i64 z.mode, .int .i64 z.running, .int .i64 z.wanted, .int .i64 z.since]
        have hL3 := y.below.alloc y.below.size (.cells #[.int .i64 z.mode, .int .i64 z.running, .int .i64 z.wanted, .int .i64 z.since] 78)
        go_upto_region 8 with fail
        generalize y.world.alloc _ = W3 at *
        generalize y.world.heap.size = gb at *
        have p1 := hBb.cell' (i := 1) (v := .int .i64 z.running) rfl
        have p2 := hBb.cell' (i := 2) (v := .int .i64 z.wanted) rfl
        have hgb := hBb.lt
        have HWc3 := Lib.hid (HWc.out.belowW hL3)
        replace d0 : W3.cell? ⟨w.heap.size, 0, none⟩ = some (.int .i64 c.regions) := (hL3.cell (p := ⟨w.heap.size, 0, none⟩) hgc).trans d0
        replace d1 : W3.cell? ⟨w.heap.size, 1, none⟩ = some (.slice az c.zones.length cz) := (hL3.cell (p := ⟨w.heap.size, 1, none⟩) hgc).trans d1
        replace d2 : W3.cell? ⟨w.heap.size, 2, none⟩ = some (.slice ac c.cells.length cc) := (hL3.cell (p := ⟨w.heap.size, 2, none⟩) hgc).trans d2
        replace d3 : W3.cell? ⟨w.heap.size, 3, none⟩ = some (.slice at_ c.tenants.length ct) := (hL3.cell (p := ⟨w.heap.size, 3, none⟩) hgc).trans d3
        replace d4 : W3.cell? ⟨w.heap.size, 4, none⟩ = some (.slice av c.versions.length cv) := (hL3.cell (p := ⟨w.heap.size, 4, none⟩) hgc).trans d4
        replace d5 : W3.cell? ⟨w.heap.size, 5, none⟩ = some (.slice ar c.replicas.length cr) := (hL3.cell (p := ⟨w.heap.size, 5, none⟩) hgc).trans d5
        replace d6 : W3.cell? ⟨w.heap.size, 6, none⟩ = some (.slice ao c.observers.length co) := (hL3.cell (p := ⟨w.heap.size, 6, none⟩) hgc).trans d6
        replace d7 : W3.cell? ⟨w.heap.size, 7, none⟩ = some (.int .i64 c.blast) := (hL3.cell (p := ⟨w.heap.size, 7, none⟩) hgc).trans d7
        replace d8 : W3.cell? ⟨w.heap.size, 8, none⟩ = some (.int .i64 c.lease) := (hL3.cell (p := ⟨w.heap.size, 8, none⟩) hgc).trans d8
        replace d9 : W3.cell? ⟨w.heap.size, 9, none⟩ = some (.int .i64 c.bake) := (hL3.cell (p := ⟨w.heap.size, 9, none⟩) hgc).trans d9
        replace su7 : W3.cell? ⟨w.heap.size + 1, 7, none⟩ = some (.int .i64 s.high) := (hL3.cell (p := ⟨w.heap.size + 1, 7, none⟩) hgs).trans su7
        replace hgc : w.heap.size < W3.heap.size := Nat.lt_of_lt_of_le hgc hL3.size
        replace hgs : w.heap.size + 1 < W3.heap.size := Nat.lt_of_lt_of_le hgs hL3.size
        have HL3 := Lib.hid hL3
        clear hBb hL3 e0 e1 e2 e3 hbW su0 su1 su2 su3 su4 su5 su6 hx
        have hx : ∀ (y : Later W3.heap.size W3) b o, b < W3.heap.size → y.world.cell? ⟨b, o, none⟩ = W3.cell? ⟨b, o, none⟩ := fun y b o h => y.cell h
        have H_ver : Hid (∀ (k : Int) (yy : Later W3.heap.size W3), Calls Tryz.prog 162 #[.agg #[.int .i64 c.regions, .slice az c.zones.length cz, .slice ac c.cells.length cc, .slice at_ c.tenants.length ct, .slice av c.versions.length cv, .slice ar c.replicas.length cr, .slice ao c.observers.length co, .int .i64 c.blast, .int .i64 c.lease, .int .i64 c.bake], .int .i64 k] yy.world fun e w' => e = .returned (.agg #[.int .i64 (verOf c k).1, .int .i64 (verOf c k).2]) ∧ Below yy.world.heap.size yy.world w') := Lib.hid (fun k yy => stVersionOf_any ⟨az, cz, ac, cc, at_, ct, av, cv, ar, cr, ao, co⟩ c k _ HV.out (HWc3.out.laterW yy))
        cases r1 : decide ((verOf c z.running).2 ≤ s.high)
        · refine wp_region_below W3.heap.size (by kernel_rfl) (by kernel_rfl) ?_
          repeat (first | go_big_quiet_step ((go_at_call 162; exact quiet_belowW _ (H_ver.out _ _))) | quiet_step ((go_at_call 162; exact quiet_belowW _ (H_ver.out _ _))) | (refine BigFrame.wpQuiet_want (by rfl) fun K hK => ⟨.int .i64 (verOf c z.running).2, fun w _ => (by unfold Oper.quietAt; go_simp; rw [verField]; exact ⟨rfl, rfl⟩), hK _ ?_⟩; simp only [List.getElem_toArray, List.getElem_cons_zero, List.getElem_cons_succ, Act.put, List.setIfInBounds_toArray, List.set_cons_zero, List.set_cons_succ]) | (refine BigFrame.wpQuiet_want (by rfl) fun K hK => ⟨.int .i64 (verOf c z.wanted).2, fun w _ => (by unfold Oper.quietAt; go_simp; rw [verField]; exact ⟨rfl, rfl⟩), hK _ ?_⟩; simp only [List.getElem_toArray, List.getElem_cons_zero, List.getElem_cons_succ, Act.put, List.setIfInBounds_toArray, List.set_cons_zero, List.set_cons_succ]))
          refine wpQuiet_nil ?_
          rintro w' ⟨y3, rfl⟩
          clear hx
          go_wp2
          all_goals first
            | (go_roundg (gk - 1)
               case measure => omega
               case rel =>
                 refine ⟨k + 1, ⟨_, HL3.out.trans (y3.below.mono HL3.out.size)⟩, by omega, by go_num, rfl, HNX.out ?_⟩
                 rw [HB.out, r1]
                 go_light
                 simp_all)
            | (go_ret
               refine ⟨ret_i64 ?_, HL.out.trans ((HL3.out.trans (y3.below.mono HL3.out.size)).mono HL.out.size)⟩
               rw [HR2.out, any_yes HZ.out (show blockB c s z = true by rw [HB.out, r1]; go_light; simp_all)]
               rfl)
        · refine wp_region_below W3.heap.size (by kernel_rfl) (by kernel_rfl) ?_
          repeat (first | go_big_quiet_step ((go_at_call 162; exact quiet_belowW _ (H_ver.out _ _))) | quiet_step ((go_at_call 162; exact quiet_belowW _ (H_ver.out _ _))) | (refine BigFrame.wpQuiet_want (by rfl) fun K hK => ⟨.int .i64 (verOf c z.running).2, fun w _ => (by unfold Oper.quietAt; go_simp; rw [verField]; exact ⟨rfl, rfl⟩), hK _ ?_⟩; simp only [List.getElem_toArray, List.getElem_cons_zero, List.getElem_cons_succ, Act.put, List.setIfInBounds_toArray, List.set_cons_zero, List.set_cons_succ]) | (refine BigFrame.wpQuiet_want (by rfl) fun K hK => ⟨.int .i64 (verOf c z.wanted).2, fun w _ => (by unfold Oper.quietAt; go_simp; rw [verField]; exact ⟨rfl, rfl⟩), hK _ ?_⟩; simp only [List.getElem_toArray, List.getElem_cons_zero, List.getElem_cons_succ, Act.put, List.setIfInBounds_toArray, List.set_cons_zero, List.set_cons_succ]))
          refine wpQuiet_nil ?_
          rintro w' ⟨y3, rfl⟩
          clear hx
          go_wp2
          go_ret
          refine ⟨ret_i64 ?_, HL.out.trans ((HL3.out.trans (y3.below.mono HL3.out.size)).mono HL.out.size)⟩
          rw [HR2.out, any_yes HZ.out (show blockB c s z = true by rw [HB.out, r1]; rfl)]
          rfl
      · have hge : ¬ (k : Int) < (s.cells.length : Int) := by omega
        have HA := Lib.hid (any_none (l := s.cells) HNo.out (by omega))
        clear HNo
        go_wp2
        go_ret
        refine ⟨ret_i64 ?_, HL.out.trans (y.below.mono HL.out.size)⟩
        rw [HR2.out, HA.out]
        rfl
theorem open_yes {a b:Bool} (h:true=(!a||!b)):a=false∨(a=true∧b=false):=by cases a<;>cases b<;>simp_all
theorem open_no {a b:Bool} (h:false=(!a||!b)):a=true∧b=true:=by cases a<;>cases b<;>simp_all
def openP (s:St) (k:Nat):Bool:=openB s.proven (s.cells.getD k default)
theorem unproven_pick (s:St):unproven s=pickK (openP s) s.cells.length:=rfl
set_option maxHeartbeats 4000000 in
theorem stUnproven_any (c:Cfg) (y:StA) (s:St) (w:World) (hV:CfgV c) (hI:StInv c s) (hs:StOk w (·<w.heap.size) y s) :
  Calls Tryz.prog 164 #[.agg (stC y s)] w (IntsPost w (unproven s)):=by
 rw[unproven_pick]
 obtain⟨ii,hii,hi0,hi1,hi2⟩:=info_parts r5intInfo
 have hnc:=hV.nc
 have hntt:=hV.nt
 clear hV
 obtain⟨sat,sct,sac,scc⟩:=y
 have HKs:=Lib.hid hs
 have hsl:1≤s.cells.length∧s.cells.length≤16:=by have:=hI.lc;omega
 have hst:s.tenants.length≤32:=by have:=hI.lt;omega
 have HI:=Lib.hid hI
 clear hs hI
 have hpr:=HI.out.proven
 obtain⟨pd,hpd⟩:∃ pd:Nat→Bool,pd=openP s:=⟨_,rfl⟩
 have HP:=Lib.hid hpd
 rw[← hpd]
 clear hpd
 have hL:Below w.heap.size w (w.alloc (.cells #[.int .i64 s.tick,.int .i64 s.count,.slice sat s.tenants.length sct,.slice sac s.cells.length scc,.int .i64 s.proven,.int .i64 s.evac,.int .i64 s.low,.int .i64 s.high] 53)):=((Below.refl w.heap.size w).alloc (by simp<;>omega) (.cells #[.int .i64 s.tick,.int .i64 s.count,.slice sat s.tenants.length sct,.slice sac s.cells.length scc,.int .i64 s.proven,.int .i64 s.evac,.int .i64 s.low,.int .i64 s.high] 53))
 have hBs:Blk (w.alloc (.cells #[.int .i64 s.tick,.int .i64 s.count,.slice sat s.tenants.length sct,.slice sac s.cells.length scc,.int .i64 s.proven,.int .i64 s.evac,.int .i64 s.low,.int .i64 s.high] 53)) (w.heap.size) 53 #[.int .i64 s.tick,.int .i64 s.count,.slice sat s.tenants.length sct,.slice sac s.cells.length scc,.int .i64 s.proven,.int .i64 s.evac,.int .i64 s.low,.int .i64 s.high]:=by
  have:=(Blk.new w 53 #[.int .i64 s.tick,.int .i64 s.count,.slice sat s.tenants.length sct,.slice sac s.cells.length scc,.int .i64 s.proven,.int .i64 s.evac,.int .i64 s.low,.int .i64 s.high])
  simpa using this
 unfold stC
 simp only
 go_enter Tryz.func164,Tryz.ntmps164
 go_upto_region 1 with fail
 generalize w.alloc _=W at *
 have hgs:=hBs.lt
 have su0:=hBs.cell' (i:=0) (v:=.int .i64 s.tick) rfl
 have su1:=hBs.cell' (i:=1) (v:=.int .i64 s.count) rfl
 have su2:=hBs.cell' (i:=2) (v:=.slice sat s.tenants.length sct) rfl
 have su3:=hBs.cell' (i:=3) (v:=.slice sac s.cells.length scc) rfl
 have su4:=hBs.cell' (i:=4) (v:=.int .i64 s.proven) rfl
 have su5:=hBs.cell' (i:=5) (v:=.int .i64 s.evac) rfl
 have su6:=hBs.cell' (i:=6) (v:=.int .i64 s.low) rfl
 have su7:=hBs.cell' (i:=7) (v:=.int .i64 s.high) rfl
 clear hBs
 have HL:=Lib.hid hL
 have HWs:=Lib.hid (HKs.out.belowW hL)
 clear hL
 go_wp2
 go_loopg [3,9] s.cells.length (fun gk so si wr=>r5HomesRel W pd s.cells.length gk so si wr)
 case atStart=>exact⟨0,none,0,by omega,rfl,rfl,World.ownsRow_nil _ _ _ _,Below.refl _ _⟩
 case round=>
  rename_i J K aJ aK
  obtain⟨k,A,cp,hgk,rfl,rfl,hown,hbel⟩:=hrel
  have HO:=Lib.hid hown
  have HB:=Lib.hid hbel
  have hsz:=hbel.size
  have hlen:=pickK_len pd k
  obtain⟨hc,hf⟩:=bcell hbel
  clear hown hbel hf
  by_cases hk:k<s.cells.length
  ·have hlt:(k:Int)<(s.cells.length:Int):=by omega
   obtain⟨b,off,z,rfl,hb,hzz,hcell⟩:=HWs.out.cells.row (enc:=csC) (sz:=4) (fun _=>rfl) (by omega) hk
   have hbW:b<W.heap.size:=hb
   have e0:=hcell 0 (.int .i64 z.mode) rfl
   have e1:=hcell 1 (.int .i64 z.running) rfl
   have e2:=hcell 2 (.int .i64 z.wanted) rfl
   have e3:=hcell 3 (.int .i64 z.since) rfl
   simp only[Nat.add_zero] at e0
   have HPK:Hid (pd k=(!hasB s.proven z.running||!hasB s.proven z.wanted)):=Lib.hid (by rw[HP.out];unfold openP openB;rw[getD_some hzz])
   have HS:=Lib.hid (pickK_succ pd k)
   have hBb:=Blk.new wr 78 #[.int .i64 z.mode,.int .i64 z.running,.int .i64 z.wanted,.int .i64 z.since]
   have hB1:=HB.out.alloc hsz (.cells #[.int .i64 z.mode,.int .i64 z.running,.int .i64 z.wanted,.int .i64 z.since] 78)
   have hO1:=HO.out.alloc (.cells #[.int .i64 z.mode,.int .i64 z.running,.int .i64 z.wanted,.int .i64 z.since] 78)
   clear hcell hzz hb
   go_upto_region 5 with fail
   generalize wr.alloc _=wz at *
   generalize wr.heap.size=gb at *
   have p1:=hBb.cell' (i:=1) (v:=.int .i64 z.running) rfl
   have p2:=hBb.cell' (i:=2) (v:=.int .i64 z.wanted) rfl
   replace su4:wz.cell? ⟨w.heap.size,4,none⟩=some (.int .i64 s.proven):=(hB1.cell (p:=⟨w.heap.size,4,none⟩) hgs).trans su4
   have HB1:=Lib.hid hB1
   have HO1:=Lib.hid hO1
   clear hBb hB1 hO1 e0 e1 e2 e3 hbW hc HB HO
   by_cases hp:pd k=true
   ·have h12:hasB s.proven z.running=false∨(hasB s.proven z.running=true∧hasB s.proven z.wanted=false):=by
     have:=HPK.out
     rw[hp] at this
     exact open_yes this
    rcases h12 with h1 | ⟨h1,h2⟩
    all_goals
     go_wp2_with (first
      | (go_at_call 163;(with_reducible refine (stHas_any _ _ _ (by omega) (by omega)).mono ?_);rintro r wq ⟨rfl,rfl⟩;first | rw[h1] | rw[h2])
      | (at_builtin;refine wpList_append_lies _ rfl _ _ _ rfl W.heap.size 3 ii _ 1 8 Tryz.underlying22 hii hi0 hi1 hi2 rfl (by omega) _ (pickK pd k).length (flat intC (pickK pd k)) rfl (HO1.out.alloc _) ⟨wz.heap.size,0,none⟩ 1 1 [.int .i64 k] rfl rfl ?c1 ?c2 ?c0 ?c3 ?c4 ?c5 (wz.heap.size+1) ?c6 ?_))
     case c1=>exact World.news_of_block (cs:=#[.int .i64 k]) (heap_alloc_new _ _)
     case c2=>simp[Value.oneCell']
     case c0=>omega
     case c3=>unfold maxLen;omega
     case c4=>omega
     case c5=>have:=HB1.out.size;simp;omega
     case c6=>simp
     intro gg cq w9 hown9 hg9 hat9 hlt9
     have HB9:=Lib.hid ((HB1.out.alloc HB1.out.size _).grown hg9 (by have:=HB1.out.size;simp;omega) (fun j hj=>(HO1.out.lt j hj).1))
     have HX:Hid (w9.ownsRow W.heap.size 3 1 (.slice (some ⟨gg,0,none⟩) (pickK pd (k+1)).length cq) (pickK pd (k+1)).length (flat intC (pickK pd (k+1)))):=by
      refine Lib.hid ?_;rw[HS.out,if_pos hp,← flat_snoc5,List.length_append];exact hown9
     have hl9:(pickK pd (k+1)).length=(pickK pd k).length+1:=by rw[HS.out,if_pos hp,List.length_append];rfl
     have HL9:=Lib.hid hl9
     clear hown9 hg9 hat9 hlt9 HO1 HB1 hl9
     go_wp2
     go_roundg (gk-1)
     case measure=>omega
     case rel=>exact⟨k+1,some ⟨gg,0,none⟩,cq,by omega,by go_num,by rw[HL9.out],HX.out,HB9.out⟩
   ·have hp:pd k=false:=by simpa using hp
    have h12:hasB s.proven z.running=true∧hasB s.proven z.wanted=true:=by
     have:=HPK.out
     rw[hp] at this
     exact open_no this
    obtain⟨h1,h2⟩:=h12
    have HX:Hid (wz.ownsRow W.heap.size 3 1 (.slice A (pickK pd (k+1)).length cp) (pickK pd (k+1)).length (flat intC (pickK pd (k+1)))):=by
     refine Lib.hid ?_;rw[HS.out,if_neg (by simp[hp])];exact HO1.out
    have hl9:(pickK pd (k+1)).length=(pickK pd k).length:=by rw[HS.out,if_neg (by simp[hp])]
    have HL9:=Lib.hid hl9
    clear hl9
    go_wp2_with (go_at_call 163;(with_reducible refine (stHas_any _ _ _ (by omega) (by omega)).mono ?_);rintro r wq ⟨rfl,rfl⟩;first | rw[h1] | rw[h2])
    go_roundg (gk-1)
    case measure=>omega
    case rel=>exact⟨k+1,A,cp,by omega,by go_num,by rw[HL9.out],HX.out,HB1.out⟩
  ·have hge:¬ (k:Int)<(s.cells.length:Int):=by omega
   obtain rfl:k=s.cells.length:=by omega
   go_wp2
   go_ret
   exact⟨A,cp,rfl,own_base HO.out (Nat.le_of_lt hgs),HL.out.trans (HB.out.mono (Nat.le_of_lt hgs))⟩
end Go.Proofs.YtchhdflealgkaaaGreat
