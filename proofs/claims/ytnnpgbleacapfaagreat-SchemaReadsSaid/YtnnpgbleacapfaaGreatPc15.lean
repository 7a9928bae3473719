import Derived.Test.YtnnpgbleacapfaaGreatPc14
namespace Go.Proofs.YtnnpgbleacapfaaGreat
open Go.RowKit
set_option linter.unusedSimpArgs false
set_option linter.unusedVariables false
theorem verField (a b:Int) (w:World):Sem.run Tryz.prog (Instr.field 78 (.agg #[.int .i64 a,.int .i64 b]) 1) w=.ok (.int .i64 b) w:=by kernel_rfl
theorem verOf_eq {c:Cfg} {k:Int} (h:0≤k∧k<c.versions.length):verOf c k=verAt c k:=if_pos h
set_option maxHeartbeats 2000000 in
set_option maxRecDepth 100000 in
theorem stExpand_any (x : CfgA) (c : Cfg) (y : StA) (s : St) (w : World) (hV : CfgV c) (hc : CfgOk w (· < w.heap.size) x c) (hI : StInv c s) (hs : StOk w (· < w.heap.size) y s)  :
    Calls Tryz.prog 89 #[.agg (cfgC x c), .agg (stC y s)] w fun r w' => r = .returned (.int .i64 (expandE c s)) ∧ Below w.heap.size w w' := by
  have hnc := hV.nc
  have hntt := hV.nt
  obtain ⟨az, cz, ac, cc, at_, ct, av, cv, ar, cr, ao, co⟩ := x
  have HV := Lib.hid hV
  have HKc := Lib.hid hc
  clear hV hc
  obtain ⟨sat, sct, sac, scc⟩ := y
  have HKs := Lib.hid hs
  have hsl : 1 ≤ s.cells.length ∧ s.cells.length ≤ 16 := by have := hI.lc; omega
  have hst : s.tenants.length ≤ 32 := by have := hI.lt; omega
  have HI := Lib.hid hI
  clear hs hI
  have hlo := HI.out.low
  have HR : Hid (expandE c s = if s.low < s.high then 4 else if 30 ≤ s.high then 2 else if s.cells.any (blockB c s) = true then 13 else 0) := Lib.hid rfl
  by_cases q1 : s.low < s.high
  all_goals by_cases q2 : (30 : Int) ≤ s.high
  all_goals
    have hL : Below w.heap.size w ((w.alloc (.cells #[.int .i64 c.regions, .slice az c.zones.length cz, .slice ac c.cells.length cc, .slice at_ c.tenants.length ct, .slice av c.versions.length cv, .slice ar c.replicas.length cr, .slice ao c.observers.length co, .int .i64 c.blast, .int .i64 c.lease, .int .i64 c.bake] 30)).alloc (.cells #[.int .i64 s.tick, .int .i64 s.count, .slice sat s.tenants.length sct, .slice sac s.cells.length scc, .int .i64 s.proven, .int .i64 s.evac, .int .i64 s.low, .int .i64 s.high] 34)) := (((Below.refl w.heap.size w).alloc (by simp <;> omega) (.cells #[.int .i64 c.regions, .slice az c.zones.length cz, .slice ac c.cells.length cc, .slice at_ c.tenants.length ct, .slice av c.versions.length cv, .slice ar c.replicas.length cr, .slice ao c.observers.length co, .int .i64 c.blast, .int .i64 c.lease, .int .i64 c.bake] 30)).alloc (by simp <;> omega) (.cells #[.int .i64 s.tick, .int .i64 s.count, .slice sat s.tenants.length sct, .slice sac s.cells.length scc, .int .i64 s.proven, .int .i64 s.evac, .int .i64 s.low, .int .i64 s.high] 34))
    have hBc : Blk ((w.alloc (.cells #[.int .i64 c.regions, .slice az c.zones.length cz, .slice ac c.cells.length cc, .slice at_ c.tenants.length ct, .slice av c.versions.length cv, .slice ar c.replicas.length cr, .slice ao c.observers.length co, .int .i64 c.blast, .int .i64 c.lease, .int .i64 c.bake] 30)).alloc (.cells #[.int .i64 s.tick, .int .i64 s.count, .slice sat s.tenants.length sct, .slice sac s.cells.length scc, .int .i64 s.proven, .int .i64 s.evac, .int .i64 s.low, .int .i64 s.high] 34)) (w.heap.size) 30 #[.int .i64 c.regions, .slice az c.zones.length cz, .slice ac c.cells.length cc, .slice at_ c.tenants.length ct, .slice av c.versions.length cv, .slice ar c.replicas.length cr, .slice ao c.observers.length co, .int .i64 c.blast, .int .i64 c.lease, .int .i64 c.bake] := by
      have := ((Blk.new w 30 #[.int .i64 c.regions, .slice az c.zones.length cz, .slice ac c.cells.length cc, .slice at_ c.tenants.length ct, .slice av c.versions.length cv, .slice ar c.replicas.length cr, .slice ao c.observers.length co, .int .i64 c.blast, .int .i64 c.lease, .int .i64 c.bake]).alloc (.cells #[.int .i64 s.tick, .int .i64 s.count, .slice sat s.tenants.length sct, .slice sac s.cells.length scc, .int .i64 s.proven, .int .i64 s.evac, .int .i64 s.low, .int .i64 s.high] 34))
      simpa using this
    have hBs : Blk ((w.alloc (.cells #[.int .i64 c.regions, .slice az c.zones.length cz, .slice ac c.cells.length cc, .slice at_ c.tenants.length ct, .slice av c.versions.length cv, .slice ar c.replicas.length cr, .slice ao c.observers.length co, .int .i64 c.blast, .int .i64 c.lease, .int .i64 c.bake] 30)).alloc (.cells #[.int .i64 s.tick, .int .i64 s.count, .slice sat s.tenants.length sct, .slice sac s.cells.length scc, .int .i64 s.proven, .int .i64 s.evac, .int .i64 s.low, .int .i64 s.high] 34)) (w.heap.size + 1) 34 #[.int .i64 s.tick, .int .i64 s.count, .slice sat s.tenants.length sct, .slice sac s.cells.length scc, .int .i64 s.proven, .int .i64 s.evac, .int .i64 s.low, .int .i64 s.high] := by
      have := (Blk.new (w.alloc (.cells #[.int .i64 c.regions, .slice az c.zones.length cz, .slice ac c.cells.length cc, .slice at_ c.tenants.length ct, .slice av c.versions.length cv, .slice ar c.replicas.length cr, .slice ao c.observers.length co, .int .i64 c.blast, .int .i64 c.lease, .int .i64 c.bake] 30)) 34 #[.int .i64 s.tick, .int .i64 s.count, .slice sat s.tenants.length sct, .slice sac s.cells.length scc, .int .i64 s.proven, .int .i64 s.evac, .int .i64 s.low, .int .i64 s.high])
      simpa using this
    unfold cfgC stC
    simp only
    go_enter Tryz.func89, Tryz.ntmps89
    go_upto_region 1 with fail
    generalize (w.alloc _).alloc _ = W at *
    have hgc := hBc.lt
    have d0 := hBc.cell' (i := 0) (v := .int .i64 c.regions) rfl
    have d1 := hBc.cell' (i := 1) (v := .slice az c.zones.length cz) rfl
    have d2 := hBc.cell' (i := 2) (v := .slice ac c.cells.length cc) rfl
    have d3 := hBc.cell' (i := 3) (v := .slice at_ c.tenants.length ct) rfl
    have d4 := hBc.cell' (i := 4) (v := .slice av c.versions.length cv) rfl
    have d5 := hBc.cell' (i := 5) (v := .slice ar c.replicas.length cr) rfl
    have d6 := hBc.cell' (i := 6) (v := .slice ao c.observers.length co) rfl
    have d7 := hBc.cell' (i := 7) (v := .int .i64 c.blast) rfl
    have d8 := hBc.cell' (i := 8) (v := .int .i64 c.lease) rfl
    have d9 := hBc.cell' (i := 9) (v := .int .i64 c.bake) rfl
    clear hBc
    have hgs := hBs.lt
    have su0 := hBs.cell' (i := 0) (v := .int .i64 s.tick) rfl
    have su1 := hBs.cell' (i := 1) (v := .int .i64 s.count) rfl
    have su2 := hBs.cell' (i := 2) (v := .slice sat s.tenants.length sct) rfl
    have su3 := hBs.cell' (i := 3) (v := .slice sac s.cells.length scc) rfl
    have su4 := hBs.cell' (i := 4) (v := .int .i64 s.proven) rfl
    have su5 := hBs.cell' (i := 5) (v := .int .i64 s.evac) rfl
    have su6 := hBs.cell' (i := 6) (v := .int .i64 s.low) rfl
    have su7 := hBs.cell' (i := 7) (v := .int .i64 s.high) rfl
    clear hBs
    have HL := Lib.hid hL
    have HWc := Lib.hid (HKc.out.belowW hL)
    have HWs := Lib.hid (HKs.out.belowW hL)
    clear hL
    go_wp2
  · go_ret
    exact ⟨ret_i64 (by rw [HR.out, if_pos (by omega)]), HL.out⟩
  · go_ret
    exact ⟨ret_i64 (by rw [HR.out, if_pos (by omega)]), HL.out⟩
  · go_ret
    exact ⟨ret_i64 (by rw [HR.out, if_neg (by omega), if_pos (by omega)]), HL.out⟩
  · have HR2 : Hid (expandE c s = if s.cells.any (blockB c s) = true then 13 else 0) := Lib.hid (by rw [HR.out, if_neg (by omega), if_neg (by omega)])
    clear HR q1 q2
    go_loopg [20] s.cells.length (fun gk si wr => NoneRel W s.cells (blockB c s) gk si wr)
    case atStart => exact ⟨0, ⟨W, Below.refl _ _⟩, by omega, rfl, rfl, fun j x h => absurd h (Nat.not_lt_zero _)⟩
    case round =>
      rename_i J K aJ aK
      obtain ⟨k, y, hgk, rfl, rfl, hnone⟩ := hrel
      have HNo := Lib.hid hnone
      clear hnone
      have hx : ∀ (y : Later W.heap.size W) b o, b < W.heap.size → y.world.cell? ⟨b, o, none⟩ = W.cell? ⟨b, o, none⟩ := fun y b o h => y.cell h
      by_cases hk : k < s.cells.length
      · obtain ⟨b, off, z, rfl, hb, hzz, hcell⟩ := HWs.out.cells.row (enc := csC) (sz := 4) (fun _ => rfl) (by omega) hk
        have hbW : b < W.heap.size := hb
        have e0 := hcell 0 (.int .i64 z.mode) rfl
        have e1 := hcell 1 (.int .i64 z.running) rfl
        have e2 := hcell 2 (.int .i64 z.wanted) rfl
        have e3 := hcell 3 (.int .i64 z.since) rfl
        simp only [Nat.add_zero] at e0
        have hzi := HI.out.cel _ (List.mem_of_getElem? hzz)
        have HB : Hid (blockB c s z = (decide ((verOf c z.running).2 ≤ s.high) || decide ((verOf c z.wanted).2 ≤ s.high))) := Lib.hid (by unfold blockB; rw [verOf_eq hzi.running, verOf_eq hzi.wanted])
        have HZ := Lib.hid hzz
        have HNX := Lib.hid (none_next HNo.out hzz)
        clear hcell hzz hzi hb HNo
        have hlt : (k : Int) < (s.cells.length : Int) := by omega
        have hBb := Blk.new y.world 51 #[.int .i64 z.mode, .int .i64 z.running, .int .i64 z.wanted, .int .i64 z.since]
        have hL3 := y.below.alloc y.below.size (.cells #[.int .i64 z.mode, .int .i64 z.running, .int .i64 z.wanted, .int .i64 z.since] 51)
        go_upto_region 8 with fail
        generalize y.world.alloc _ = W3 at *
        generalize y.world.heap.size = gb at *
        have p1 := hBb.cell' (i := 1) (v := .int .i64 z.running) rfl
        have p2 := hBb.cell' (i := 2) (v := .int .i64 z.wanted) rfl
        have hgb := hBb.lt
        have HWc3 := Lib.hid (HWc.out.belowW hL3)
        replace d0 : W3.cell? ⟨w.heap.size, 0, none⟩ = some (.int .i64 c.regions) := (hL3.cell (p := ⟨w.heap.size, 0, none⟩) hgc).trans d0
        replace d1 : W3.cell? ⟨w.heap.size, 1, none⟩ = some (.slice az c.zones.length cz) := (hL3.cell (p := ⟨w.heap.size, 1, none⟩) hgc).trans d1
        replace d2 : W3.cell? ⟨w.heap.size, 2, none⟩ = some (.slice ac c.cells.length cc) := (hL3.cell (p := ⟨w.heap.size, 2, none⟩) hgc).trans d2
        replace d3 : W3.cell? ⟨w.heap.size, 3, none⟩ = some (.slice at_ c.tenants.length ct) := (hL3.cell (p := ⟨w.heap.size, 3, none⟩) hgc).trans d3
        replace d4 : W3.cell? ⟨w.heap.size, 4, none⟩ = some (.slice av c.versions.length cv) := (hL3.cell (p := ⟨w.heap.size, 4, none⟩) hgc).trans d4
        replace d5 : W3.cell? ⟨w.heap.size, 5, none⟩ = some (.slice ar c.replicas.length cr) := (hL3.cell (p := ⟨w.heap.size, 5, none⟩) hgc).trans d5
        replace d6 : W3.cell? ⟨w.heap.size, 6, none⟩ = some (.slice ao c.observers.length co) := (hL3.cell (p := ⟨w.heap.size, 6, none⟩) hgc).trans d6
        replace d7 : W3.cell? ⟨w.heap.size, 7, none⟩ = some (.int .i64 c.blast) := (hL3.cell (p := ⟨w.heap.size, 7, none⟩) hgc).trans d7
        replace d8 : W3.cell? ⟨w.heap.size, 8, none⟩ = some (.int .i64 c.lease) := (hL3.cell (p := ⟨w.heap.size, 8, none⟩) hgc).trans d8
        replace d9 : W3.cell? ⟨w.heap.size, 9, none⟩ = some (.int .i64 c.bake) := (hL3.cell (p := ⟨w.heap.size, 9, none⟩) hgc).trans d9
        replace su7 : W3.cell? ⟨w.heap.size + 1, 7, none⟩ = some (.int .i64 s.high) := (hL3.cell (p := ⟨w.heap.size + 1, 7, none⟩) hgs).trans su7
        replace hgc : w.heap.size < W3.heap.size := Nat.lt_of_lt_of_le hgc hL3.size
        replace hgs : w.heap.size + 1 < W3.heap.size := Nat.lt_of_lt_of_le hgs hL3.size
        have HL3 := Lib.hid hL3
        clear hBb hL3 e0 e1 e2 e3 hbW su0 su1 su2 su3 su4 su5 su6 hx
        have hx : ∀ (y : Later W3.heap.size W3) b o, b < W3.heap.size → y.world.cell? ⟨b, o, none⟩ = W3.cell? ⟨b, o, none⟩ := fun y b o h => y.cell h
        have H_ver : Hid (∀ (k : Int) (yy : Later W3.heap.size W3), Calls Tryz.prog 126 #[.agg #[.int .i64 c.regions, .slice az c.zones.length cz, .slice ac c.cells.length cc, .slice at_ c.tenants.length ct, .slice av c.versions.length cv, .slice ar c.replicas.length cr, .slice ao c.observers.length co, .int .i64 c.blast, .int .i64 c.lease, .int .i64 c.bake], .int .i64 k] yy.world fun e w' => e = .returned (.agg #[.int .i64 (verOf c k).1, .int .i64 (verOf c k).2]) ∧ Below yy.world.heap.size yy.world w') := Lib.hid (fun k yy => stVersionOf_any ⟨az, cz, ac, cc, at_, ct, av, cv, ar, cr, ao, co⟩ c k _ HV.out (HWc3.out.laterW yy))
        cases r1 : decide ((verOf c z.running).2 ≤ s.high)
        · refine wp_region_below W3.heap.size (by kernel_rfl) (by kernel_rfl) ?_
          repeat (first | go_big_quiet_step ((go_at_call 126; exact quiet_belowW _ (H_ver.out _ _))) | quiet_step ((go_at_call 126; exact quiet_belowW _ (H_ver.out _ _))) | (refine BigFrame.wpQuiet_want (by rfl) fun K hK => ⟨.int .i64 (verOf c z.running).2, fun w _ => (by unfold Oper.quietAt; go_simp; rw [verField]; exact ⟨rfl, rfl⟩), hK _ ?_⟩; simp only [List.getElem_toArray, List.getElem_cons_zero, List.getElem_cons_succ, Act.put, List.setIfInBounds_toArray, List.set_cons_zero, List.set_cons_succ]) | (refine BigFrame.wpQuiet_want (by rfl) fun K hK => ⟨.int .i64 (verOf c z.wanted).2, fun w _ => (by unfold Oper.quietAt; go_simp; rw [verField]; exact ⟨rfl, rfl⟩), hK _ ?_⟩; simp only [List.getElem_toArray, List.getElem_cons_zero, List.getElem_cons_succ, Act.put, List.setIfInBounds_toArray, List.set_cons_zero, List.set_cons_succ]))
          refine wpQuiet_nil ?_
          rintro w' ⟨y3, rfl⟩
          clear hx
          go_wp2
          all_goals first
            | (go_roundg (gk - 1)
               case measure => omega
               case rel =>
                 refine ⟨k + 1, ⟨_, HL3.out.trans (y3.below.mono HL3.out.size)⟩, by omega, by go_num, rfl, HNX.out ?_⟩
                 rw [HB.out, r1]
                 go_light
                 simp_all)
            | (go_ret
               refine ⟨ret_i64 ?_, HL.out.trans ((HL3.out.trans (y3.below.mono HL3.out.size)).mono HL.out.size)⟩
               rw [HR2.out, any_yes HZ.out (show blockB c s z = true by rw [HB.out, r1]; go_light; simp_all)]
               rfl)
        · refine wp_region_below W3.heap.size (by kernel_rfl) (by kernel_rfl) ?_
          repeat (first | go_big_quiet_step ((go_at_call 126; exact quiet_belowW _ (H_ver.out _ _))) | quiet_step ((go_at_call 126; exact quiet_belowW _ (H_ver.out _ _))) | (refine BigFrame.wpQuiet_want (by rfl) fun K hK => ⟨.int .i64 (verOf c z.running).2, fun w _ => (by unfold Oper.quietAt; go_simp; rw [verField]; exact ⟨rfl, rfl⟩), hK _ ?_⟩; simp only [List.getElem_toArray, List.getElem_cons_zero, List.getElem_cons_succ, Act.put, List.setIfInBounds_toArray, List.set_cons_zero, List.set_cons_succ]) | (refine BigFrame.wpQuiet_want (by rfl) fun K hK => ⟨.int .i64 (verOf c z.wanted).2, fun w _ => (by unfold Oper.quietAt; go_simp; rw [verField]; exact ⟨rfl, rfl⟩), hK _ ?_⟩; simp only [List.getElem_toArray, List.getElem_cons_zero, List.getElem_cons_succ, Act.put, List.setIfInBounds_toArray, List.set_cons_zero, List.set_cons_succ]))
          refine wpQuiet_nil ?_
          rintro w' ⟨y3, rfl⟩
          clear hx
          go_wp2
          go_ret
          refine ⟨ret_i64 ?_, HL.out.trans ((HL3.out.trans (y3.below.mono HL3.out.size)).mono HL.out.size)⟩
          rw [HR2.out, any_yes HZ.out (show blockB c s z = true by rw [HB.out, r1]; rfl)]
          rfl
      · have hge : ¬ (k : Int) < (s.cells.length : Int) := by omega
        have HA := Lib.hid (any_none (l := s.cells) HNo.out (by omega))
        clear HNo
        go_wp2
        go_ret
        refine ⟨ret_i64 ?_, HL.out.trans (y.below.mono HL.out.size)⟩
        rw [HR2.out, HA.out]
        rfl
theorem open_yes {a b:Bool} (h:true=(!a||!b)):a=false∨(a=true∧b=false):=by cases a<;>cases b<;>simp_all
theorem open_no {a b:Bool} (h:false=(!a||!b)):a=true∧b=true:=by cases a<;>cases b<;>simp_all
def openP (s:St) (k:Nat):Bool:=openB s.proven (s.cells.getD k default)
theorem unproven_pick (s:St):unproven s=pickK (openP s) s.cells.length:=rfl
set_option maxHeartbeats 4000000 in
theorem stUnproven_any (c:Cfg) (y:StA) (s:St) (w:World) (hV:CfgV c) (hI:StInv c s) (hs:StOk w (·<w.heap.size) y s) :
  Calls Tryz.prog 128 #[.agg (stC y s)] w (IntsPost w (unproven s)):=by
 rw[unproven_pick]
 obtain⟨ii,hii,hi0,hi1,hi2⟩:=info_parts r5intInfo
 have hnc:=hV.nc
 have hntt:=hV.nt
 clear hV
 obtain⟨sat,sct,sac,scc⟩:=y
 have HKs:=Lib.hid hs
 have hsl:1≤s.cells.length∧s.cells.length≤16:=by have:=hI.lc;omega
 have hst:s.tenants.length≤32:=by have:=hI.lt;omega
 have HI:=Lib.hid hI
 clear hs hI
 have hpr:=HI.out.proven
 obtain⟨pd,hpd⟩:∃ pd:Nat→Bool,pd=openP s:=⟨_,rfl⟩
 have HP:=Lib.hid hpd
 rw[← hpd]
 clear hpd
 have hL:Below w.heap.size w (w.alloc (.cells #[.int .i64 s.tick,.int .i64 s.count,.slice sat s.tenants.length sct,.slice sac s.cells.length scc,.int .i64 s.proven,.int .i64 s.evac,.int .i64 s.low,.int .i64 s.high] 34)):=((Below.refl w.heap.size w).alloc (by simp<;>omega) (.cells #[.int .i64 s.tick,.int .i64 s.count,.slice sat s.tenants.length sct,.slice sac s.cells.length scc,.int .i64 s.proven,.int .i64 s.evac,.int .i64 s.low,.int .i64 s.high] 34))
 have hBs:Blk (w.alloc (.cells #[.int .i64 s.tick,.int .i64 s.count,.slice sat s.tenants.length sct,.slice sac s.cells.length scc,.int .i64 s.proven,.int .i64 s.evac,.int .i64 s.low,.int .i64 s.high] 34)) (w.heap.size) 34 #[.int .i64 s.tick,.int .i64 s.count,.slice sat s.tenants.length sct,.slice sac s.cells.length scc,.int .i64 s.proven,.int .i64 s.evac,.int .i64 s.low,.int .i64 s.high]:=by
  have:=(Blk.new w 34 #[.int .i64 s.tick,.int .i64 s.count,.slice sat s.tenants.length sct,.slice sac s.cells.length scc,.int .i64 s.proven,.int .i64 s.evac,.int .i64 s.low,.int .i64 s.high])
  simpa using this
 unfold stC
 simp only
 go_enter Tryz.func128,Tryz.ntmps128
 go_upto_region 1 with fail
 generalize w.alloc _=W at *
 have hgs:=hBs.lt
 have su0:=hBs.cell' (i:=0) (v:=.int .i64 s.tick) rfl
 have su1:=hBs.cell' (i:=1) (v:=.int .i64 s.count) rfl
 have su2:=hBs.cell' (i:=2) (v:=.slice sat s.tenants.length sct) rfl
 have su3:=hBs.cell' (i:=3) (v:=.slice sac s.cells.length scc) rfl
 have su4:=hBs.cell' (i:=4) (v:=.int .i64 s.proven) rfl
 have su5:=hBs.cell' (i:=5) (v:=.int .i64 s.evac) rfl
 have su6:=hBs.cell' (i:=6) (v:=.int .i64 s.low) rfl
 have su7:=hBs.cell' (i:=7) (v:=.int .i64 s.high) rfl
 clear hBs
 have HL:=Lib.hid hL
 have HWs:=Lib.hid (HKs.out.belowW hL)
 clear hL
 go_wp2
 go_loopg [3,9] s.cells.length (fun gk so si wr=>r5HomesRel W pd s.cells.length gk so si wr)
 case atStart=>exact⟨0,none,0,by omega,rfl,rfl,World.ownsRow_nil _ _ _ _,Below.refl _ _⟩
 case round=>
  rename_i J K aJ aK
  obtain⟨k,A,cp,hgk,rfl,rfl,hown,hbel⟩:=hrel
  have HO:=Lib.hid hown
  have HB:=Lib.hid hbel
  have hsz:=hbel.size
  have hlen:=pickK_len pd k
  obtain⟨hc,hf⟩:=bcell hbel
  clear hown hbel hf
  by_cases hk:k<s.cells.length
  ·have hlt:(k:Int)<(s.cells.length:Int):=by omega
   obtain⟨b,off,z,rfl,hb,hzz,hcell⟩:=HWs.out.cells.row (enc:=csC) (sz:=4) (fun _=>rfl) (by omega) hk
   have hbW:b<W.heap.size:=hb
   have e0:=hcell 0 (.int .i64 z.mode) rfl
   have e1:=hcell 1 (.int .i64 z.running) rfl
   have e2:=hcell 2 (.int .i64 z.wanted) rfl
   have e3:=hcell 3 (.int .i64 z.since) rfl
   simp only[Nat.add_zero] at e0
   have HPK:Hid (pd k=(!hasB s.proven z.running||!hasB s.proven z.wanted)):=Lib.hid (by rw[HP.out];unfold openP openB;rw[getD_some hzz])
   have HS:=Lib.hid (pickK_succ pd k)
   have hBb:=Blk.new wr 51 #[.int .i64 z.mode,.int .i64 z.running,.int .i64 z.wanted,.int .i64 z.since]
   have hB1:=HB.out.alloc hsz (.cells #[.int .i64 z.mode,.int .i64 z.running,.int .i64 z.wanted,.int .i64 z.since] 51)
   have hO1:=HO.out.alloc (.cells #[.int .i64 z.mode,.int .i64 z.running,.int .i64 z.wanted,.int .i64 z.since] 51)
   clear hcell hzz hb
   go_upto_region 5 with fail
   generalize wr.alloc _=wz at *
   generalize wr.heap.size=gb at *
   have p1:=hBb.cell' (i:=1) (v:=.int .i64 z.running) rfl
   have p2:=hBb.cell' (i:=2) (v:=.int .i64 z.wanted) rfl
   replace su4:wz.cell? ⟨w.heap.size,4,none⟩=some (.int .i64 s.proven):=(hB1.cell (p:=⟨w.heap.size,4,none⟩) hgs).trans su4
   have HB1:=Lib.hid hB1
   have HO1:=Lib.hid hO1
   clear hBb hB1 hO1 e0 e1 e2 e3 hbW hc HB HO
   by_cases hp:pd k=true
   ·have h12:hasB s.proven z.running=false∨(hasB s.proven z.running=true∧hasB s.proven z.wanted=false):=by
     have:=HPK.out
     rw[hp] at this
     exact open_yes this
    rcases h12 with h1 | ⟨h1,h2⟩
    all_goals
     go_wp2_with (first
      | (go_at_call 127;(with_reducible refine (stHas_any _ _ _ (by omega) (by omega)).mono ?_);rintro r wq ⟨rfl,rfl⟩;first | rw[h1] | rw[h2])
      | (at_builtin;refine wpList_append_lies _ rfl _ _ _ rfl W.heap.size 3 ii _ 1 8 Tryz.underlying22 hii hi0 hi1 hi2 rfl (by omega) _ (pickK pd k).length (flat intC (pickK pd k)) rfl (HO1.out.alloc _) ⟨wz.heap.size,0,none⟩ 1 1 [.int .i64 k] rfl rfl ?c1 ?c2 ?c0 ?c3 ?c4 ?c5 (wz.heap.size+1) ?c6 ?_))
     case c1=>exact World.news_of_block (cs:=#[.int .i64 k]) (heap_alloc_new _ _)
     case c2=>simp[Value.oneCell']
     case c0=>omega
     case c3=>unfold maxLen;omega
     case c4=>omega
     case c5=>have:=HB1.out.size;simp;omega
     case c6=>simp
     intro gg cq w9 hown9 hg9 hat9 hlt9
     have HB9:=Lib.hid ((HB1.out.alloc HB1.out.size _).grown hg9 (by have:=HB1.out.size;simp;omega) (fun j hj=>(HO1.out.lt j hj).1))
     have HX:Hid (w9.ownsRow W.heap.size 3 1 (.slice (some ⟨gg,0,none⟩) (pickK pd (k+1)).length cq) (pickK pd (k+1)).length (flat intC (pickK pd (k+1)))):=by
      refine Lib.hid ?_;rw[HS.out,if_pos hp,← flat_snoc5,List.length_append];exact hown9
     have hl9:(pickK pd (k+1)).length=(pickK pd k).length+1:=by rw[HS.out,if_pos hp,List.length_append];rfl
     have HL9:=Lib.hid hl9
     clear hown9 hg9 hat9 hlt9 HO1 HB1 hl9
     go_wp2
     go_roundg (gk-1)
     case measure=>omega
     case rel=>exact⟨k+1,some ⟨gg,0,none⟩,cq,by omega,by go_num,by rw[HL9.out],HX.out,HB9.out⟩
   ·have hp:pd k=false:=by simpa using hp
    have h12:hasB s.proven z.running=true∧hasB s.proven z.wanted=true:=by
     have:=HPK.out
     rw[hp] at this
     exact open_no this
    obtain⟨h1,h2⟩:=h12
    have HX:Hid (wz.ownsRow W.heap.size 3 1 (.slice A (pickK pd (k+1)).length cp) (pickK pd (k+1)).length (flat intC (pickK pd (k+1)))):=by
     refine Lib.hid ?_;rw[HS.out,if_neg (by simp[hp])];exact HO1.out
    have hl9:(pickK pd (k+1)).length=(pickK pd k).length:=by rw[HS.out,if_neg (by simp[hp])]
    have HL9:=Lib.hid hl9
    clear hl9
    go_wp2_with (go_at_call 127;(with_reducible refine (stHas_any _ _ _ (by omega) (by omega)).mono ?_);rintro r wq ⟨rfl,rfl⟩;first | rw[h1] | rw[h2])
    go_roundg (gk-1)
    case measure=>omega
    case rel=>exact⟨k+1,A,cp,by omega,by go_num,by rw[HL9.out],HX.out,HB1.out⟩
  ·have hge:¬ (k:Int)<(s.cells.length:Int):=by omega
   obtain rfl:k=s.cells.length:=by omega
   go_wp2
   go_ret
   exact⟨A,cp,rfl,own_base HO.out (Nat.le_of_lt hgs),HL.out.trans (HB.out.mono (Nat.le_of_lt hgs))⟩
/-! ref04.InRegion -/
def regL (c:Cfg) (r:Int) (k:Nat):List Int:=((List.range k).filter fun i:Nat=>regionOf c (i:Int)==r).map Int.ofNat
theorem regL_succ (c:Cfg) (r:Int) (k:Nat):regL c r (k+1)=regL c r k++(if (regionOf c (k:Int)==r)=true then [(k:Int)] else []):=by
 unfold regL
 rw[List.range_succ,List.filter_append,List.map_append]
 congr 1
 by_cases h:(regionOf c (k:Int)==r)=true
 ·rw[if_pos h];simp only[List.filter,h];rfl
 ·rw[if_neg h];rw[Bool.not_eq_true] at h;simp only[List.filter,h];rfl
theorem regL_le (c:Cfg) (r:Int) (k:Nat):(regL c r k).length≤k:=by
 unfold regL
 rw[List.length_map]
 have:=List.length_filter_le (fun i:Nat=>regionOf c (i:Int)==r) (List.range k)
 simpa using this
theorem app_elR {α:Type} {enc:α→List Value} {d:α} {l:List α} {x:α} {n:Nat} {el el2:Nat→List Value} (hn:n=l.length) (h0:∀ k,k<n→el k=enc (l.getD k d)) (h1:∀ k,k<n→el2 k=el k) (h2:el2 (n+0)=enc x):∀ k,k<n+1→el2 k=enc ((l++[x]).getD k d):=by
 intro k hk
 by_cases hkn:k<n
 ·rw[h1 k hkn,h0 k hkn,List.getD_eq_getElem?_getD,List.getD_eq_getElem?_getD,List.getElem?_append_left (by omega)]
 ·obtain rfl:k=n:=by omega
  rw[Nat.add_zero] at h2
  rw[h2,List.getD_eq_getElem?_getD,List.getElem?_append_right (by omega),hn,Nat.sub_self]
  rfl
def riF:FT:=[(118,ctRegOf)]
theorem riFok:FTok Tryz.prog riF:=ft_cons regOfOk ft_nil
def riD:List (Nat×DQ):=[(3000003,{ k:=12,L:=[0,1,2,3,4,5,6,7,8,9,10],sl:=[1,2] })]
set_option maxRecDepth 100000 in
set_option maxHeartbeats 4000000 in
theorem inReg_sx (x:CfgK) (c:Cfg) (r:Int) (hV:CfgV c) :
  sx tt riF riD (bodyOf Tryz.f73) (argF 0 [cfgV CN1 x c,.int .i64 r]) (rdM c noS noS) 10 (endx tt Tryz.f73.results.toList fun v mem' _=>SlR mem' 1 intC 0 (regL c r c.cells.length) v):=by
 have hUle:=regL_le c r
 have hnc:=hV.nc
 refine⟨Int×Nat×Option (Nat×(Nat→List Value)),fun q=>match q with | (i,n,none)=>[(6,.int .i64 i),(5,zs0)] | (i,n,some (cap,el))=>[(6,.int .i64 i),(5,slc 11 n cap)],fun q=>match q with | (i,n,none)=>[] | (i,n,some (cap,el))=>[(11,.row (1000000+3) 1 cap el)],fun q=>match q with | (i,n,o)=>((0≤i∧i≤c.cells.length)∧n=(regL c r i.toNat).length)∧match o with | none=>n=0 | some (cap,el)=>n≤cap∧∀ k,k<n→el k=intC ((regL c r i.toNat).getD k 0),fun q=>match q with | (i,n,o)=>((c.cells.length:Int)-i).toNat,⟨(0,0,none),[],⟨⟨by omega,rfl⟩,rfl⟩,⟨rfl,rfl⟩,kp_,kp_⟩,?_⟩
 rintro⟨i,n,(_ | ⟨cap,el⟩)⟩ ⟨⟨hi,hn⟩,ho⟩
 ·refine⟨⟨by decide,rfl,rfl⟩,?_⟩
  refine⟨fun hlt1=>?_,fun hge=>?_⟩
  ·have hlt2:i<(c.cells.length:Int):=of_decide_eq_true hlt1
   have hub:n≤i.toNat:=by rw[hn];exact hUle i.toNat
   have hii:((i.toNat:Nat):Int)=i:=by omega
   refine⟨CN1,x,c,((i.toNat:Nat):Int),by rw[hii],kp_,hV,?_⟩
   refine⟨fun hb=>?_,fun hb=>?_⟩
   ·have hov:(regionOf c ((i.toNat:Nat):Int)==r)=true:=hb
    refine⟨⟨Nat.le_refl _,fun k hk=>by match k,hk with | 0,_=>rfl⟩,?_⟩
    refine⟨fun h=>absurd h (by decide),fun _=>⟨by decide,fun cap2 el2 hc2 hel2=>?_⟩⟩
    refine⟨(_,_,some (cap2,el2)),[(11,13)],?_,⟨rfl,rfl⟩,kp_,kp_⟩
    dsimp only
    rw[wrapi (n:=i+1) (by omega),show (i+1).toNat=i.toNat+1 by omega,regL_succ]
    rw[if_pos hov]
    refine⟨⟨⟨by omega,by rw[List.length_append,← hn,ho];rfl⟩,by omega,?_⟩,by omega⟩
    exact app_elR (n:=0) (el:=fun _=>[]) (enc:=intC) (by rw[← hn,ho]) (fun k hk=>absurd hk (by omega)) (fun k hk=>absurd hk (by omega)) (by rw[hel2 0 (by omega)];exact congrArg (fun z=>[Value.int .i64 z]) (by omega))
   ·have hov:¬ ((regionOf c ((i.toNat:Nat):Int)==r)=true):=fun q=>absurd (q.symm.trans hb) (by decide)
    refine⟨(_,n,none),[],?_,⟨rfl,rfl⟩,kp_,kp_⟩
    dsimp only
    rw[wrapi (n:=i+1) (by omega),show (i+1).toNat=i.toNat+1 by omega,regL_succ]
    rw[if_neg hov,List.append_nil]
    exact⟨⟨⟨by omega,hn⟩,ho⟩,by omega⟩
  ·have hge2:¬ i<(c.cells.length:Int):=of_decide_eq_false hge
   have hie:i.toNat=c.cells.length:=by omega
   rw[hie] at hn
   exact .inl ⟨rfl,List.eq_nil_of_length_eq_zero (by rw[← hn];exact ho)⟩
 ·refine⟨⟨by decide,rfl,rfl⟩,?_⟩
  refine⟨fun hlt1=>?_,fun hge=>?_⟩
  ·have hlt2:i<(c.cells.length:Int):=of_decide_eq_true hlt1
   have hub:n≤i.toNat:=by rw[hn];exact hUle i.toNat
   have hii:((i.toNat:Nat):Int)=i:=by omega
   refine⟨CN1,x,c,((i.toNat:Nat):Int),by rw[hii],kp_,hV,?_⟩
   refine⟨fun hb=>?_,fun hb=>?_⟩
   ·have hov:(regionOf c ((i.toNat:Nat):Int)==r)=true:=hb
    refine⟨⟨Nat.le_refl _,fun k hk=>by match k,hk with | 0,_=>rfl⟩,?_⟩
    refine⟨⟨rfl,ho.1⟩,fun hin el2 h1 h2=>?_,fun hgt=>⟨by show (n+1) * 8≤140737488355328;omega,fun cap2 el2 hc2 h1 h2=>?_⟩⟩
    ·refine⟨(_,_,some (cap,el2)),[],?_,⟨rfl,rfl⟩,kp_,kp_⟩
     dsimp only
     rw[wrapi (n:=i+1) (by omega),show (i+1).toNat=i.toNat+1 by omega,regL_succ]
     rw[if_pos hov]
     refine⟨⟨⟨by omega,by rw[List.length_append,← hn];rfl⟩,by omega,?_⟩,by omega⟩
     exact app_elR (enc:=intC) (el:=el) hn ho.2 h1 (by rw[h2 0 (by omega)];exact congrArg (fun z=>[Value.int .i64 z]) (by omega))
    ·refine⟨(_,_,some (cap2,el2)),[(11,13)],?_,⟨rfl,rfl⟩,kp_,kp_⟩
     dsimp only
     rw[wrapi (n:=i+1) (by omega),show (i+1).toNat=i.toNat+1 by omega,regL_succ]
     rw[if_pos hov]
     refine⟨⟨⟨by omega,by rw[List.length_append,← hn];rfl⟩,by omega,?_⟩,by omega⟩
     exact app_elR (enc:=intC) (el:=el) hn ho.2 h1 (by rw[h2 0 (by omega)];exact congrArg (fun z=>[Value.int .i64 z]) (by omega))
   ·have hov:¬ ((regionOf c ((i.toNat:Nat):Int)==r)=true):=fun q=>absurd (q.symm.trans hb) (by decide)
    refine⟨(_,n,some (cap,el)),[],?_,⟨rfl,rfl⟩,kp_,kp_⟩
    dsimp only
    rw[wrapi (n:=i+1) (by omega),show (i+1).toNat=i.toNat+1 by omega,regL_succ]
    rw[if_neg hov,List.append_nil]
    exact⟨⟨⟨by omega,hn⟩,ho⟩,by omega⟩
  ·have hge2:¬ i<(c.cells.length:Int):=of_decide_eq_false hge
   have hie:i.toNat=c.cells.length:=by omega
   rw[hie] at hn ho
   subst hn
   exact .inr ⟨11,cap,_,cap,el,rfl,rfl,rfl,ho.1,ho.2⟩
theorem inReg_calls (x:CfgA) (c:Cfg) (r:Int) (w:World) (hV:CfgV c) (hc:CfgOk w (·<w.heap.size) x c) :
  Calls Tryz.prog 73 #[.agg (cfgC x c),.int .i64 r] w fun e w'=>∃ A cp,e=.returned (.slice A (regL c r c.cells.length).length cp)∧Rd w' (fun b=>w.heap.size≤b∧b<w'.heap.size) A (flat intC (regL c r c.cells.length))∧Below w.heap.size w w':=by
 have:=rd_callsM ttOk (riFok.i _) Tryz.func73 rfl (D:=riD) (by kernel_rfl) (vs:=[cfgV CN1 (ck x) c,.int .i64 r]) rfl x c noA noS noA noS w hc (noS_ok w _) (noS_ok w _) (fun v hv=>by
  simp only[List.mem_cons,List.not_mem_nil,or_false] at hv
  rcases hv with rfl | rfl
  ·exact rpl_cfg_ok x c noA noS noA noS
  ·trivial) (inReg_sx (ck x) c r hV)
 rw[List.map_cons,rpl_cfg] at this
 refine this.mono ?_
 rintro e w' ⟨v,mem',nx',ρ',rfl,hR,hv,hm',hb⟩
 obtain⟨A,cp,e1,hr⟩:=hm'.slR (enc:=intC) (sz:=1) (fun _=>rfl) (by omega) hR
 refine⟨A,cp,?_,hr,hb⟩
 congr 1
 rcases hR with⟨rfl,-⟩ | ⟨r,cap,t,n,el,rfl,-⟩
 ·exact e1
 ·exact e1
theorem Sat.intsR {C:Ctx} {ρ:Nat→Pl} {fr:AF} {mem:AM} {nx:Nat} {a:Act} {w w':World} {K:Value→AM→Nat→Prop} (hs:Sat C ρ fr mem nx a w) (hb:Below w.heap.size w w') {A:Option Addr} {cp:Nat} {l:List Int} (hr:Rd w' (fun b=>w.heap.size≤b∧b<w'.heap.size) A (flat intC l)) (hK:K (slc nx l.length cp) ((nx,rowOfL 500000 1 intC 0 l)::mem) (nx+1)) :
  ∃ v mem' nx' ρ',Ending.returned (.slice A l.length cp)=.returned (den ρ' v)∧K v mem' nx'∧Sat C ρ' fr mem' nx' a w'∧okV ρ' nx' v∧ExtS ρ nx ρ' nx':=by
 obtain⟨q1,-⟩:=(hs.later hb).addList hs.frB hs.rest.size (enc:=intC) (sz:=1) (fun _=>rfl) (by omega) intC_plain 0 (t:=500000) rfl hr
 have q2:setPl ρ nx ⟨A,1,l.length,false⟩ nx=⟨A,1,l.length,false⟩:=setPl_same _ _ _
 refine⟨slc nx l.length cp,_,_,_,?_,hK,q1,?_,fun i hi=>setPl_lt _ _ hi,by omega⟩
 ·show Ending.returned (.slice A l.length cp)=.returned (.slice (setPl ρ nx ⟨A,1,l.length,false⟩ nx).A l.length cp)
  rw[q2]
 ·exact⟨show nx<nx+1 by omega,by rw[q2]⟩
def ctInReg:CT:=fun vs mem nx K=>∃ N x c r,vs=[cfgV N x c,.int .i64 r]∧keeps mem (cfgM N c)∧CfgV c∧∀ cp,K (slc nx (regL c r c.cells.length).length cp) ((nx,rowOfL 500000 1 intC 0 (regL c r c.cells.length))::mem) (nx+1)
theorem inRegOk:CSound Tryz.prog 73 ctInReg:=⟨by kernel_rfl,fun {C ρ fr mem nx a w vs K} hc hs hv=>by
 obtain⟨N,x,c,r,rfl,hk,hV,hK⟩:=hc
 rw[List.map_cons,den_cfg]
 refine (inReg_calls (cfgX ρ N x) c r w hV (hs.cfg hk (fun b hb _=>hb))).mono ?_
 rintro e w' ⟨A,cp,rfl,hr,hb⟩
 exact hs.intsR hb hr (hK cp)⟩
theorem regL_pos {c:Cfg} (hV:CfgV c) (hz:c.zones.getD 0 0=0) (hc:(c.cells.getD 0 (0,0)).1=0):1≤(regL c 0 c.cells.length).length:=by
 have hnc:=hV.nc
 have hnz:=hV.nz
 have h0:regionOf c ((0:Nat):Int)=0:=by
  have e:(c.cells.getD ((0:Nat):Int).toNat (0,0)).1=0:=hc
  unfold regionOf zoneOf regZone
  simp only[e]
  rw[if_pos (by omega),if_pos (by omega)]
  exact hz
 unfold regL
 rw[List.length_map]
 exact List.length_pos_of_mem (List.mem_filter.2 ⟨List.mem_range.2 (show 0<c.cells.length by omega),by rw[h0];rfl⟩)
/-! What Fold answers. -/
def foldGo (c:Cfg):Int→St→List Ent→St×Int×Int
 | i,s,[]=>(s,i,0)
 | i,s,e::r=>if (applyP c s e).2≠0 then (s,i,(applyP c s e).2) else foldGo c (i+1) (applyP c s e).1 r
def foldC (c:Cfg) (es:List Ent):St×Int×Int:=foldGo c 0 (stNew c) es
/-! ref12.granted,ref12.Cut -/
def grantedE (c:Cfg) (s:St) (e:Ent):Int:=
 let t:=tsAt s e.tenant
 let x:=csAt s e.cell
 if x.mode=3∨(x.mode=2∧e.cell≠t.home) then 6
 else if e.epoch≠t.epoch+1∧¬ (e.cell=t.home∧e.epoch=t.epoch) then 7
 else if e.n≠x.running∨x.running≠x.wanted then 8
 else if e.since<e.tick∨e.tick+c.lease<e.since∨e.till≤e.since∨c.lease<e.till-e.since∨e.since<t.win.till∨(e.cell≠t.home∧e.tick<t.win.till) then 9 else 0
theorem grantE_eq (c:Cfg) (s:St) (e:Ent):grantE c s e=if (tsAt s e.tenant).placed=false∨((tsAt s e.tenant).shed=true∧e.cell≠(tsAt s e.tenant).standby) then 4 else if e.cell≠(tsAt s e.tenant).home∧e.cell≠(tsAt s e.tenant).standby∧e.cell≠(tsAt s e.tenant).target then 5 else grantedE c s e:=rfl
def gdD:List (Nat×DQ):=[
 (5000005,{ k:=40,L:=LA,sl:=[3,4,5,6,7,8,9] }),(5000007,{ k:=40,L:=LA,sl:=[3,4,5,6,7,8,9] }),(5000009,{ k:=40,L:=LA,sl:=[3,4,5,6,7,8,9] }),(5000011,{ k:=40,L:=LA,sl:=[3,4,5,6,7,8,9] }),(5000013,{ k:=40,L:=LA,sl:=[3,4,5,6,7,8,9] })
]
abbrev gdPre (c:Cfg) (s:St) (e:Ent):Prop:=(0≤e.tenant∧e.tenant<s.tenants.length)∧(0≤e.cell∧e.cell<s.cells.length)∧(0≤e.tick∧e.tick≤1073741824)∧(0≤e.since∧e.since≤1073741824)∧(0≤e.till∧e.till≤1073741824)∧(0≤(tsAt s e.tenant).epoch∧(tsAt s e.tenant).epoch≤1048576)
set_option maxRecDepth 100000 in
set_option maxHeartbeats 4000000 in
theorem granted_sx (x:CfgK) (c:Cfg) (y:StK) (s:St) (e:Ent) (hV:CfgV c) (hp:gdPre c s e):sx tt [] gdD (bodyOf Tryz.f144) (argF 0 [cfgV CN1 x c,stV SN1 y s,entV' e]) (rdM c s noS) 10 (endx tt Tryz.f144.results.toList fun v _ _=>v=.int .i64 (grantedE c s e)∧pureV v):=by
 have hls:=hV.lease
 obtain⟨p1,p2,p3,p4,p5,p6⟩:=hp
 have p6b:0≤(s.tenants.getD e.tenant.toNat default).epoch∧(s.tenants.getD e.tenant.toNat default).epoch≤1048576:=p6
 have w1:IntKind.i64.wrap ((s.tenants.getD e.tenant.toNat default).epoch+1)=(s.tenants.getD e.tenant.toNat default).epoch+1:=wrapi (by omega)
 have w2:IntKind.i64.wrap (e.tick+c.lease)=e.tick+c.lease:=wrapi (by omega)
 have w3:IntKind.i64.wrap (e.till-e.since)=e.till-e.since:=wrapi (by omega)
 refine⟨⟨Nat.le_refl _,p1.1,p1.2⟩,?_⟩
 refine⟨⟨Nat.le_refl _,p2.1,p2.2⟩,?_⟩
 refine⟨Bool,fun b=>[(27,.bool b)],fun _=>[],fun b=>(b=true↔((s.cells.getD e.cell.toNat default).mode=3∨((s.cells.getD e.cell.toNat default).mode=2∧¬ e.cell=(s.tenants.getD e.tenant.toNat default).home))),?_,?_⟩
 ·repeat' (first | refine⟨fun _=>?_,fun h=>Bool.noConfusion h⟩ | refine⟨fun h=>Bool.noConfusion h,fun _=>?_⟩ | refine⟨fun _=>?_,fun _=>?_⟩ | refine⟨⟨Nat.le_refl _,by omega,by omega⟩,?_⟩ | fail)
  all_goals (refine⟨_,?_,kp_,kp_⟩;dsimp only;grind)
 ·rintro b1 hb1
  refine⟨⟨by decide,rfl,rfl⟩,?_⟩
  refine⟨fun qb1=>?_,fun qb1=>?_⟩
  ·unfold grantedE tsAt csAt
   refine⟨?_,trivial⟩
   congr 1
   grind
  ·refine⟨Bool,fun b=>[(40,.bool b)],fun _=>[],fun b=>(b=true↔(e.epoch≠(s.tenants.getD e.tenant.toNat default).epoch+1∧¬ (e.cell=(s.tenants.getD e.tenant.toNat default).home∧e.epoch=(s.tenants.getD e.tenant.toNat default).epoch))),?_,?_⟩
   ·repeat' (first | refine⟨fun _=>?_,fun h=>Bool.noConfusion h⟩ | refine⟨fun h=>Bool.noConfusion h,fun _=>?_⟩ | refine⟨fun _=>?_,fun _=>?_⟩ | refine⟨⟨Nat.le_refl _,by omega,by omega⟩,?_⟩ | fail)
    all_goals (refine⟨_,?_,kp_,kp_⟩;dsimp only;grind)
   ·rintro b2 hb2
    refine⟨⟨by decide,rfl,rfl⟩,?_⟩
    refine⟨fun qb2=>?_,fun qb2=>?_⟩
    ·unfold grantedE tsAt csAt
     refine⟨?_,trivial⟩
     congr 1
     grind
    ·refine⟨Bool,fun b=>[(69,.bool b)],fun _=>[],fun b=>(b=true↔(e.n≠(s.cells.getD e.cell.toNat default).running∨(s.cells.getD e.cell.toNat default).running≠(s.cells.getD e.cell.toNat default).wanted)),?_,?_⟩
     ·repeat' (first | refine⟨fun _=>?_,fun h=>Bool.noConfusion h⟩ | refine⟨fun h=>Bool.noConfusion h,fun _=>?_⟩ | refine⟨fun _=>?_,fun _=>?_⟩ | refine⟨⟨Nat.le_refl _,by omega,by omega⟩,?_⟩ | fail)
      all_goals (refine⟨_,?_,kp_,kp_⟩;dsimp only;grind)
     ·rintro b3 hb3
      refine⟨⟨by decide,rfl,rfl⟩,?_⟩
      refine⟨fun qb3=>?_,fun qb3=>?_⟩
      ·unfold grantedE tsAt csAt
       refine⟨?_,trivial⟩
       congr 1
       grind
      ·refine⟨Bool,fun b=>[(82,.bool b)],fun _=>[],fun b=>(b=true↔(e.since<e.tick∨e.tick+c.lease<e.since∨e.till≤e.since∨c.lease<e.till-e.since∨e.since<(s.tenants.getD e.tenant.toNat default).win.till)),?_,?_⟩
       ·repeat' (first | refine⟨fun _=>?_,fun h=>Bool.noConfusion h⟩ | refine⟨fun h=>Bool.noConfusion h,fun _=>?_⟩ | refine⟨fun _=>?_,fun _=>?_⟩ | refine⟨⟨Nat.le_refl _,by omega,by omega⟩,?_⟩ | fail)
        all_goals (refine⟨_,?_,kp_,kp_⟩;dsimp only;grind)
       ·rintro b4 hb4
        refine⟨⟨by decide,rfl,rfl⟩,?_⟩
        refine⟨fun qb4=>?_,fun qb4=>?_⟩
        ·unfold grantedE tsAt csAt
         refine⟨?_,trivial⟩
         congr 1
         grind
        ·refine⟨Bool,fun b=>[(123,.bool b)],fun _=>[],fun b=>(b=true↔(¬ e.cell=(s.tenants.getD e.tenant.toNat default).home∧e.tick<(s.tenants.getD e.tenant.toNat default).win.till)),?_,?_⟩
         ·repeat' (first | refine⟨fun _=>?_,fun h=>Bool.noConfusion h⟩ | refine⟨fun h=>Bool.noConfusion h,fun _=>?_⟩ | refine⟨fun _=>?_,fun _=>?_⟩ | refine⟨⟨Nat.le_refl _,by omega,by omega⟩,?_⟩ | fail)
          all_goals (refine⟨_,?_,kp_,kp_⟩;dsimp only;grind)
         ·rintro b5 hb5
          refine⟨⟨by decide,rfl,rfl⟩,?_⟩
          refine⟨fun qb5=>?_,fun qb5=>?_⟩
          ·unfold grantedE tsAt csAt
           refine⟨?_,trivial⟩
           congr 1
           grind
          ·unfold grantedE tsAt csAt
           refine⟨?_,trivial⟩
           congr 1
           grind
def ctGrantedR:CT:=fun vs mem nx K=>∃ N x c M y nT nC s e,vs=[cfgV N x c,stVg M y nT nC s,entV' e]∧(keeps mem (cfgM N c)∧HasSt mem M nT nC s)∧(CfgV c∧gdPre c s e)∧K (.int .i64 (grantedE c s e)) mem nx
theorem grantedROk:CSound Tryz.prog 144 ctGrantedR:=⟨by kernel_rfl,fun {C ρ fr mem nx a w vs K} hc hs hv=>by
 obtain⟨N,x,c,M,y,nT,nC,s,e,rfl,⟨h1,h2⟩,⟨hV,hp⟩,hK⟩:=hc
 obtain⟨rfl,rfl,h3,h4⟩:=h2
 have e0:([cfgV N x c,stV M y s,entV' e].map (den ρ)).toArray=#[.agg (cfgC (cfgX ρ N x) c),.agg (stC (stX ρ M y) s),entV' e]:=by
  rw[List.map_cons,List.map_cons,den_cfg,den_st]
  simp[den,den2,den1]
 rw[e0]
 have hcc:=hs.cfg (x:=x) h1 (S:=(·<w.heap.size)) (fun b h _=>h)
 have hss:=hs.stRow (y:=y) h3 h4
 have:=rd_calls ft_nil Tryz.func144 rfl (D:=gdD) (by kernel_rfl) (vs:=[cfgV CN1 (ck (cfgX ρ N x)) c,stV SN1 (sk (stX ρ M y)) s,entV' e]) rfl (cfgX ρ N x) c (stX ρ M y) s noA noS w hcc hss (noS_ok w _) (fun v hv=>by
  simp only[List.mem_cons,List.not_mem_nil,or_false] at hv
  rcases hv with rfl | rfl | rfl
  ·exact rpl_cfg_ok _ c _ s noA noS
  ·exact rpl_st_ok _ c _ s noA noS
  ·exact (pure_den (pure_ent e) _ _).2) (R:=fun v=>v=.int .i64 (grantedE c s e)) (granted_sx _ c _ s e hV hp)
 rw[List.map_cons,List.map_cons,rpl_cfg,rpl_st,List.map_cons,(pure_den (pure_ent e) _ 0).1] at this
 refine this.mono ?_
 rintro r w' ⟨v,rfl,-,rfl,hb⟩
 exact⟨.int .i64 (grantedE c s e),mem,nx,ρ,rfl,hK,hs.later hb,trivial,ExtS.refl _ _⟩⟩
abbrev winV (x:Win):Value:=.agg #[.int .i64 x.cell,.int .i64 x.epoch,.int .i64 x.version,.int .i64 x.since,.int .i64 x.till]
theorem pure_win (x:Win):pureV (winV x):=fun v hv=>by
 simp at hv
 rcases hv with rfl | rfl | rfl | rfl | rfl<;>trivial
def ctCutW:CT:=fun vs mem nx K=>∃ (x:Win) (t:Int),vs=[winV x,.int .i64 t]∧(-1000000000000≤t∧t≤1000000000000)∧K (winV (cutW x t)) mem nx
set_option maxRecDepth 100000 in
theorem cut_sx (x:Win) (t:Int) (ht:-1000000000000≤t∧t≤1000000000000):sx tt [] [] (bodyOf Tryz.f145) (argF 0 [winV x,.int .i64 t]) (rdM noC noS noS) 10 (endx tt Tryz.f145.results.toList fun v _ _=>v=winV (cutW x t)∧pureV v):=by
 have w1:IntKind.i64.wrap (t+1)=t+1:=wrapi (by omega)
 have hm:∀ a b:Int,(if b<a then b else a)=min a b:=fun a b=>by rw[Int.min_def];split<;>split<;>omega
 refine⟨?_,?_⟩
 ·show Value.agg #[_,_,_,.int .i64 (if (if IntKind.i64.wrap (t+1)<x.till then IntKind.i64.wrap (t+1) else x.till)<x.since then (if IntKind.i64.wrap (t+1)<x.till then IntKind.i64.wrap (t+1) else x.till) else x.since),.int .i64 (if IntKind.i64.wrap (t+1)<x.till then IntKind.i64.wrap (t+1) else x.till)]=_
  rw[w1,hm,hm]
  rfl
 ·intro u hu
  simp at hu
  rcases hu with rfl | rfl | rfl | rfl | rfl<;>trivial
theorem cutWOk:CSound Tryz.prog 145 ctCutW:=CSound.pure (by kernel_rfl) (by
 rintro vs mem nx K ⟨x,t,rfl,ht,hK⟩
 refine⟨_,hK,fun ρ n=>pure_den (pure_win _) ρ n,fun ρ w=>?_⟩
 have:=rd_calls ft_nil Tryz.func145 rfl (D:=[]) (by kernel_rfl) (vs:=[winV x,.int .i64 t]) rfl noX noC noA noS noA noS w (noC_ok _ _) (noS_ok w _) (noS_ok w _) (fun v hv=>by
  simp only[List.mem_cons,List.not_mem_nil,or_false] at hv
  rcases hv with rfl | rfl
  ·exact (pure_den (pure_win x) _ _).2
  ·trivial) (R:=fun v=>v=winV (cutW x t)) (cut_sx x t ht)
 rw[List.map_cons,(pure_den (pure_win x) _ 0).1] at this
 rw[List.map_cons,(pure_den (pure_win x) _ 0).1]
 refine this.mono ?_
 rintro e w' ⟨v,rfl,-,rfl,hb⟩
 exact⟨rfl,hb⟩)
/-! ref12.Apply: the functions that are walked inside. -/
theorem ov_yes {c:Cfg} {s:St} (h:decide (((overN c s c.cells.length:Nat):Int)>0)=true):overB c s=true:=by
 rw[← overN_pos]
 have:=of_decide_eq_true h
 exact decide_eq_true (by omega)
theorem ov_no {c:Cfg} {s:St} (h:decide (((overN c s c.cells.length:Nat):Int)>0)=false):overB c s=false:=by
 rw[← overN_pos]
 have:=of_decide_eq_false h
 exact decide_eq_false (by omega)
def placeF:FT:=[(103,ctNo),(140,ctFrozenR),(141,ctMay),(142,ctTogether),(143,ctFit)]
def placeD:List (Nat×DQ):=[(9000000,{ k:=0,L:=[143] }),(11,{ k:=13,L:=[18],pre:=[(0,false),(1,false),(2,false),(3,false),(4,false),(5,false),(6,false),(7,false),(8,false),(9,true),(10,false),(11,false),(12,true)] })]
theorem placeFok:FTokI Tryz.prog placeF (inlOf placeD):=fti_cons (noOk.i _) (fti_cons (frozenROk.i _) (fti_cons (mayOk.i _) (fti_cons (togetherOk.i _) (fti_cons (fitOk (by decide)) fti_nil))))
abbrev ctPlaceI:CT:=ctInl ttU placeF placeD Tryz.f105 (bodyOf Tryz.f105)
theorem placeIOk {I:List Nat} (hI:I.contains 105=true):CSoundI Tryz.prog I 105 ctPlaceI:=inl_ok ttUok placeFok mixed (by kernel_rfl) Tryz.func105 rfl (by kernel_rfl) hI
def grantF:FT:=[(103,ctNo),(144,ctGrantedR),(143,ctFit)]
def grantD:List (Nat×DQ):=[(9000000,{ k:=0,L:=[143] }),(2,{ k:=17,L:=LA,pre:=[(0,false),(1,false),(2,false),(3,false),(4,false),(5,false),(6,false),(7,false),(8,false),(9,false),(10,false),(11,false),(12,false),(13,false),(14,false),(15,false),(16,false)] }),(4,{ k:=23,L:=LA,pre:=[(0,false),(1,false),(2,false),(3,false),(4,false),(5,false),(6,false),(7,false),(8,false),(9,false),(10,false),(11,false),(12,false),(13,false),(14,false),(15,false),(16,false),(17,false),(18,false),(19,false),(20,false),(21,false),(22,false)] }),(5000003,{ k:=40,L:=LA,sl:=[3,4,5,6,7,8] }),(5000005,{ k:=40,L:=LA,sl:=[3,4,5,6,7,8] })]
theorem grantFok:FTokI Tryz.prog grantF (inlOf grantD):=fti_cons (noOk.i _) (fti_cons (grantedROk.i _) (fti_cons (fitOk (by decide)) fti_nil))
abbrev ctGrantI:CT:=ctInl ttU grantF grantD Tryz.f106 (bodyOf Tryz.f106)
theorem grantIOk {I:List Nat} (hI:I.contains 106=true):CSoundI Tryz.prog I 106 ctGrantI:=inl_ok ttUok grantFok mixed (by kernel_rfl) Tryz.func106 rfl (by kernel_rfl) hI
def cutF:FT:=[(103,ctNo),(145,ctCutW)]
def cutD:List (Nat×DQ):=[(9000000,{ k:=0,L:=[] }),(4,{ k:=6,L:=LA,pre:=[(0,false),(1,false),(2,false),(3,false),(4,false),(5,false)] }),(6,{ k:=8,L:=LA,pre:=[(0,false),(1,false),(2,false),(3,false),(4,false),(5,false),(6,false),(7,true)] })]
theorem cutFok:FTokI Tryz.prog cutF (inlOf cutD):=fti_cons (noOk.i _) (fti_cons (cutWOk.i _) fti_nil)
abbrev ctCutI:CT:=ctInl ttU cutF cutD Tryz.f107 (bodyOf Tryz.f107)
theorem cutIOk {I:List Nat} (hI:I.contains 107=true):CSoundI Tryz.prog I 107 ctCutI:=inl_ok ttUok cutFok mixed (by kernel_rfl) Tryz.func107 rfl (by kernel_rfl) hI
def standbyF:FT:=[(103,ctNo),(140,ctFrozenR),(141,ctMay),(142,ctTogether),(143,ctFit)]
def standbyD:List (Nat×DQ):=[(9000000,{ k:=0,L:=[143] }),(5,{ k:=23,L:=LA,pre:=[(0,false),(1,false),(2,false),(3,false),(4,false),(5,false),(6,false),(7,false),(8,false),(9,false),(10,false),(11,false),(12,false),(13,false),(14,false),(15,false),(16,false),(17,false),(18,false),(19,false),(20,false),(21,false),(22,false)] }),(11,{ k:=25,L:=LA,pre:=[(0,false),(1,false),(2,false),(3,false),(4,false),(5,true),(6,false),(7,false),(8,false),(9,false),(10,false),(11,false),(12,false),(13,false),(14,false),(15,true),(16,false),(17,false),(18,false),(19,false),(20,false),(21,false),(22,false),(23,false),(24,false)] }),(5000006,{ k:=40,L:=LA,sl:=[3,4,5,6,7,8] }),(5000012,{ k:=40,L:=LA,sl:=[3,4,5,6,7,8] }),(1000013,{ k:=40,L:=LA,sl:=[3,4,5,6,7,8] })]
theorem standbyFok:FTokI Tryz.prog standbyF (inlOf standbyD):=fti_cons (noOk.i _) (fti_cons (frozenROk.i _) (fti_cons (mayOk.i _) (fti_cons (togetherOk.i _) (fti_cons (fitOk (by decide)) fti_nil))))
abbrev ctStandbyI:CT:=ctInl ttU standbyF standbyD Tryz.f108 (bodyOf Tryz.f108)
theorem standbyIOk {I:List Nat} (hI:I.contains 108=true):CSoundI Tryz.prog I 108 ctStandbyI:=inl_ok ttUok standbyFok mixed (by kernel_rfl) Tryz.func108 rfl (by kernel_rfl) hI
def readyF:FT:=[(103,ctNo)]
def readyD:List (Nat×DQ):=[(9000000,{ k:=0,L:=[] }),(4,{ k:=6,L:=LA,pre:=[(0,false),(1,false),(2,false),(3,false),(4,false),(5,false)] })]
theorem readyFok:FTokI Tryz.prog readyF (inlOf readyD):=fti_cons (noOk.i _) fti_nil
abbrev ctReadyI:CT:=ctInl ttU readyF readyD Tryz.f109 (bodyOf Tryz.f109)
theorem readyIOk {I:List Nat} (hI:I.contains 109=true):CSoundI Tryz.prog I 109 ctReadyI:=inl_ok ttUok readyFok mixed (by kernel_rfl) Tryz.func109 rfl (by kernel_rfl) hI
def migrateF:FT:=[(103,ctNo),(140,ctFrozenR),(141,ctMay),(142,ctTogether),(143,ctFit)]
def migrateD:List (Nat×DQ):=[(9000000,{ k:=0,L:=[143] }),(4,{ k:=23,L:=LA,pre:=[(0,false),(1,false),(2,false),(3,false),(4,false),(5,false),(6,false),(7,false),(8,false),(9,false),(10,false),(11,false),(12,false),(13,false),(14,false),(15,false),(16,false),(17,false),(18,false),(19,false),(20,false),(21,false),(22,false)] }),(10,{ k:=25,L:=LA,pre:=[(0,false),(1,false),(2,false),(3,false),(4,false),(5,true),(6,false),(7,false),(8,false),(9,false),(10,false),(11,false),(12,false),(13,false),(14,false),(15,true),(16,false),(17,false),(18,false),(19,false),(20,false),(21,false),(22,false),(23,false),(24,false)] }),(5000003,{ k:=40,L:=LA,sl:=[3,4,5,6,7,8] }),(5000005,{ k:=40,L:=LA,sl:=[3,4,5,6,7,8] }),(5000011,{ k:=40,L:=LA,sl:=[3,4,5,6,7,8] })]
theorem migrateFok:FTokI Tryz.prog migrateF (inlOf migrateD):=fti_cons (noOk.i _) (fti_cons (frozenROk.i _) (fti_cons (mayOk.i _) (fti_cons (togetherOk.i _) (fti_cons (fitOk (by decide)) fti_nil))))
abbrev ctMigrateI:CT:=ctInl ttU migrateF migrateD Tryz.f110 (bodyOf Tryz.f110)
theorem migrateIOk {I:List Nat} (hI:I.contains 110=true):CSoundI Tryz.prog I 110 ctMigrateI:=inl_ok ttUok migrateFok mixed (by kernel_rfl) Tryz.func110 rfl (by kernel_rfl) hI
def abandonF:FT:=[(103,ctNo)]
def abandonD:List (Nat×DQ):=[(9000000,{ k:=0,L:=[] }),(5000003,{ k:=40,L:=LA,sl:=[2,3,4,5,6] })]
theorem abandonFok:FTokI Tryz.prog abandonF (inlOf abandonD):=fti_cons (noOk.i _) fti_nil
abbrev ctAbandonI:CT:=ctInl ttU abandonF abandonD Tryz.f111 (bodyOf Tryz.f111)
theorem abandonIOk {I:List Nat} (hI:I.contains 111=true):CSoundI Tryz.prog I 111 ctAbandonI:=inl_ok ttUok abandonFok mixed (by kernel_rfl) Tryz.func111 rfl (by kernel_rfl) hI
def shedF:FT:=[(103,ctNo),(143,ctFit)]
def shedD:List (Nat×DQ):=[(9000000,{ k:=0,L:=[143] }),(5,{ k:=7,L:=LA,pre:=[(0,false),(1,false),(2,false),(3,false),(4,false),(5,false),(6,false)] }),(11,{ k:=6,L:=LA,pre:=[(0,false),(1,false),(2,false),(3,false),(4,false),(5,false)] }),(5000004,{ k:=40,L:=LA,sl:=[3,4,5,6,7,8] })]
theorem shedFok:FTokI Tryz.prog shedF (inlOf shedD):=fti_cons (noOk.i _) (fti_cons (fitOk (by decide)) fti_nil)
abbrev ctShedI:CT:=ctInl ttU shedF shedD Tryz.f112 (bodyOf Tryz.f112)
theorem shedIOk {I:List Nat} (hI:I.contains 112=true):CSoundI Tryz.prog I 112 ctShedI:=inl_ok ttUok shedFok mixed (by kernel_rfl) Tryz.func112 rfl (by kernel_rfl) hI
def wantF:FT:=[(103,ctNo),(147,ctProvenR),(146,ctOpenR)]
def wantD:List (Nat×DQ):=[(9000000,{ k:=0,L:=[] }),(9,{ k:=6,L:=LA,pre:=[(0,false),(1,false),(2,false),(3,false),(4,false),(5,false)] }),(13,{ k:=11,L:=LA,pre:=[(0,false),(1,false),(2,false),(3,false),(4,false),(5,false),(6,false),(7,false),(8,false),(9,false),(10,false)] }),(15,{ k:=18,L:=LA,pre:=[(0,false),(1,false),(2,false),(3,false),(4,false),(5,false),(6,false),(7,false),(8,false),(9,false),(10,false),(11,true),(12,false),(13,false),(14,false),(15,false),(16,false),(17,false)] }),(2000005,{ k:=0,L:=LA,sl:=[3,4,5,6,7,8,9] }),(1000006,{ k:=40,L:=LA,sl:=[3,4,5,6,7,8,9,11] }),(5000012,{ k:=40,L:=LA,sl:=[3,4,5,6,7,8,9,10] }),(5000014,{ k:=40,L:=LA,sl:=[3,4,5,6,7,8,9,10] }),(5000016,{ k:=40,L:=LA,sl:=[3,4,5,6,7,8,9,10] })]
theorem wantFok:FTokI Tryz.prog wantF (inlOf wantD):=fti_cons (noOk.i _) (fti_cons (provenROk.i _) (fti_cons (openROk.i _) fti_nil))
abbrev ctWantI:CT:=ctInl ttU wantF wantD Tryz.f113 (bodyOf Tryz.f113)
theorem wantIOk {I:List Nat} (hI:I.contains 113=true):CSoundI Tryz.prog I 113 ctWantI:=inl_ok ttUok wantFok mixed (by kernel_rfl) Tryz.func113 rfl (by kernel_rfl) hI
def runsF:FT:=[(103,ctNo),(147,ctProvenR)]
def runsD:List (Nat×DQ):=[(9000000,{ k:=0,L:=[] }),(2,{ k:=16,L:=LA,pre:=[(0,false),(1,false),(2,false),(3,false),(4,false),(5,false),(6,false),(7,false),(8,false),(9,false),(10,false),(11,false),(12,false),(13,false),(14,false),(15,false)] }),(12,{ k:=9,L:=[17],pre:=[(0,false),(1,false),(2,false),(3,false),(4,false),(5,false),(6,false),(7,false),(8,true)] }),(5000003,{ k:=40,L:=LA,sl:=[2,3,4,5,6] }),(5000005,{ k:=40,L:=LA,sl:=[2,3,4,5,6] }),(2000007,{ k:=0,L:=LA,sl:=[2,3,4,5,6] }),(5000011,{ k:=50,L:=LA,sl:=[2,3,4,5,6,7] })]
theorem runsFok:FTokI Tryz.prog runsF (inlOf runsD):=fti_cons (noOk.i _) (fti_cons (provenROk.i _) fti_nil)
abbrev ctRunsI:CT:=ctInl ttU runsF runsD Tryz.f114 (bodyOf Tryz.f114)
theorem runsIOk {I:List Nat} (hI:I.contains 114=true):CSoundI Tryz.prog I 114 ctRunsI:=inl_ok ttUok runsFok mixed (by kernel_rfl) Tryz.func114 rfl (by kernel_rfl) hI
def proveF:FT:=[(103,ctNo),(147,ctProvenR)]
def proveD:List (Nat×DQ):=[(9000000,{ k:=0,L:=[] }),(2000004,{ k:=0,L:=LA,sl:=[3,4,5,6,7] }),(5000008,{ k:=40,L:=LA,sl:=[3,4,5,6,7,8] })]
theorem proveFok:FTokI Tryz.prog proveF (inlOf proveD):=fti_cons (noOk.i _) (fti_cons (provenROk.i _) fti_nil)
abbrev ctProveI:CT:=ctInl ttU proveF proveD Tryz.f115 (bodyOf Tryz.f115)
theorem proveIOk {I:List Nat} (hI:I.contains 115=true):CSoundI Tryz.prog I 115 ctProveI:=inl_ok ttUok proveFok mixed (by kernel_rfl) Tryz.func115 rfl (by kernel_rfl) hI
def expandF:FT:=[(103,ctNo)]
def expandD:List (Nat×DQ):=[(9000000,{ k:=0,L:=[] }),(9,{ k:=20,L:=LA,pre:=[(0,false),(1,false),(2,false),(3,false),(4,false),(5,false),(6,false),(7,false),(8,false),(9,false),(10,false),(11,false),(12,false),(13,false),(14,false),(15,false),(16,false),(17,false),(18,false),(19,false)] }),(2000006,{ k:=0,L:=LA,sl:=[2,3,4,5] }),(5000010,{ k:=40,L:=LA,sl:=[2,3,4,5,6] })]
theorem expandFok:FTokI Tryz.prog expandF (inlOf expandD):=fti_cons (noOk.i _) fti_nil
abbrev ctExpandI:CT:=ctInl ttU expandF expandD Tryz.f117 (bodyOf Tryz.f117)
theorem expandIOk {I:List Nat} (hI:I.contains 117=true):CSoundI Tryz.prog I 117 ctExpandI:=inl_ok ttUok expandFok mixed (by kernel_rfl) Tryz.func117 rfl (by kernel_rfl) hI
def arF:FT:=[(102,ctValid6),(103,ctNo),(104,ctCopied),(116,ctHas),(105,ctPlaceI),(106,ctGrantI),(107,ctCutI),(108,ctStandbyI),(109,ctReadyI),(110,ctMigrateI),(111,ctAbandonI),(112,ctShedI),(113,ctWantI),(114,ctRunsI),(115,ctProveI),(117,ctExpandI)]
def arD:List (Nat×DQ):=[(9000000,{ k:=0,L:=[105,106,107,108,109,110,111,112,113,114,115,117] }),(27,{ k:=9,L:=[11,12,14],pre:=[(0,false),(1,false),(2,false),(3,false),(4,false),(5,false),(6,false),(7,false),(8,false)] }),(29,{ k:=15,L:=[11,12],pre:=[(0,false),(1,false),(2,false),(3,false),(4,false),(5,false),(6,false),(7,false),(8,false),(9,false),(10,false),(11,false),(12,true),(13,false),(14,true)] }),(37,{ k:=8,L:=[11,12],pre:=[(0,false),(1,false),(2,false),(3,false),(5,false),(6,false),(7,false),(4,true)] })]
theorem arFok:FTokI Tryz.prog arF (inlOf arD):=fti_cons (valid6Ok.i _) (fti_cons (noOk.i _) (fti_cons (copiedOk.i _) (fti_cons (hasOk.i _) (fti_cons (placeIOk (by decide)) (fti_cons (grantIOk (by decide)) (fti_cons (cutIOk (by decide)) (fti_cons (standbyIOk (by decide)) (fti_cons (readyIOk (by decide)) (fti_cons (migrateIOk (by decide)) (fti_cons (abandonIOk (by decide)) (fti_cons (shedIOk (by decide)) (fti_cons (wantIOk (by decide)) (fti_cons (runsIOk (by decide)) (fti_cons (proveIOk (by decide)) (fti_cons (expandIOk (by decide)) (fti_nil))))))))))))))))
set_option maxRecDepth 100000 in
set_option maxHeartbeats 4000000 in
theorem apPlace (x:CfgK) (c:Cfg) (y:StK) (s:St) (e:Ent) (hA:ArH c s e) (hk:e.kind=1):sx ttU arF arD (bodyOf Tryz.f72) (argF 0 [cfgV CN1 x c,stV SN1 y s,entV' e]) (rdM c s noS) 10 (endx ttU Tryz.f72.results.toList fun v mem' _=>ApS mem' v (applyR c s e)):=by
 have hV:=hA.cfg
 have hI:=hA.inv
 have hE:=hA.ent
 have hcn:=hA.cnt
 have htk:=hA.tick
 have hlt:=hI.lt
 have hlc:=hI.lc
 have hnt:=hV.nt
 have hnc:=hV.nc
 have hct:=hI.count
 have hst:=hI.tick
 have hev:=hI.evac
 have hpv:=hI.proven
 have htb:=hA.tB
 have hP:kindE c s e=placeE c s e:=by unfold kindE;simp[hk]
 have hf:=hE
 simp[entV,entOk,inS,inR,fT,fC,fO,fE,fW,fN,hk] at hf
 refine⟨CN1,x,c,e,rfl,kp_,hV,?_⟩
 refine⟨fun h=>absurd h (by rw[hE];decide),fun _=>?_⟩
 refine⟨fun h=>absurd (of_decide_eq_true h) (by omega),fun _=>?_⟩
 refine⟨fun h=>absurd (of_decide_eq_true h) (by omega),fun _=>?_⟩
 refine⟨SN1,y,s,rfl,⟨.list rfl,.list rfl⟩,⟨by omega,by omega⟩,?_⟩
 intro y2
 refine⟨fun _=>?_,fun h=>absurd h (by rw[hk];decide)⟩
 rw[wrapi (n:=s.count+1) (by omega)]
 by_cases ho:0≤e.other
 ·refine⟨⟨Nat.le_refl _,by omega,by omega⟩,?_⟩
  refine⟨fun h1=>?_,fun h1=>?_⟩
  ·repeat (first | refine⟨fun _=>?_,fun h=>Bool.noConfusion h⟩ | refine⟨fun h=>Bool.noConfusion h,fun _=>?_⟩ | fail)
   refine⟨4,rfl,?_⟩
   exact ApS.err (hA.err (by rw[hP];unfold placeE tsAt csAt nearB;grind) (by decide))
  ·refine⟨⟨Nat.le_refl _,by omega,by omega⟩,?_⟩
   refine⟨fun h2=>?_,fun h2=>?_⟩
   ·repeat (first | refine⟨fun _=>?_,fun h=>Bool.noConfusion h⟩ | refine⟨fun h=>Bool.noConfusion h,fun _=>?_⟩ | fail)
    refine⟨6,rfl,?_⟩
    exact ApS.err (hA.err (by rw[hP];unfold placeE tsAt csAt nearB;grind) (by decide))
   ·refine⟨fun _=>?_,fun h=>absurd h (by simp;omega)⟩
    refine⟨⟨Nat.le_refl _,by omega,by omega⟩,?_⟩
    refine⟨fun h3=>?_,fun h3=>?_⟩
    ·repeat (first | refine⟨fun _=>?_,fun h=>Bool.noConfusion h⟩ | refine⟨fun h=>Bool.noConfusion h,fun _=>?_⟩ | fail)
     refine⟨6,rfl,?_⟩
     exact ApS.err (hA.err (by rw[hP];unfold placeE tsAt csAt nearB;grind) (by decide))
    ·refine⟨CN1,x,c,⟨15,14,0⟩,y2,_,_,⟨e.tick,s.count+1,s.tenants,s.cells,s.proven,s.evac,s.low,s.high⟩,e.cell,rfl,⟨kp_,⟨rfl,rfl,.list rfl,.list rfl⟩⟩,⟨hV,by dsimp only;omega⟩,?_⟩
     refine⟨fun h4=>?_,fun h4=>?_⟩
     ·replace h4:frozenB c s e.cell=true:=h4
      repeat (first | refine⟨fun _=>?_,fun h=>Bool.noConfusion h⟩ | refine⟨fun h=>Bool.noConfusion h,fun _=>?_⟩ | fail)
      refine⟨12,rfl,?_⟩
      exact ApS.err (hA.err (by rw[hP];unfold placeE tsAt csAt nearB;grind) (by decide))
     ·replace h4:frozenB c s e.cell=false:=h4
      refine⟨fun _=>?_,fun h=>absurd h (by simp;omega)⟩
      refine⟨CN1,x,c,⟨15,14,0⟩,y2,_,_,⟨e.tick,s.count+1,s.tenants,s.cells,s.proven,s.evac,s.low,s.high⟩,e.other,rfl,⟨kp_,⟨rfl,rfl,.list rfl,.list rfl⟩⟩,⟨hV,by dsimp only;omega⟩,?_⟩
      refine⟨fun h5=>?_,fun h5=>?_⟩
      ·replace h5:frozenB c s e.other=true:=h5
       repeat (first | refine⟨fun _=>?_,fun h=>Bool.noConfusion h⟩ | refine⟨fun h=>Bool.noConfusion h,fun _=>?_⟩ | fail)
       refine⟨12,rfl,?_⟩
       exact ApS.err (hA.err (by rw[hP];unfold placeE tsAt csAt nearB;grind) (by decide))
      ·replace h5:frozenB c s e.other=false:=h5
       refine⟨CN1,x,c,_,_,rfl,kp_,hV,?_⟩
       refine⟨fun h6=>?_,fun h6=>?_⟩
       ·repeat (first | refine⟨fun _=>?_,fun h=>Bool.noConfusion h⟩ | refine⟨fun h=>Bool.noConfusion h,fun _=>?_⟩ | fail)
        refine⟨11,rfl,?_⟩
        exact ApS.err (hA.err (by rw[hP];unfold placeE tsAt csAt nearB;grind) (by decide))
       ·refine⟨fun _=>?_,fun h=>absurd h (by simp;omega)⟩
        refine⟨CN1,x,c,_,_,rfl,kp_,hV,?_⟩
        refine⟨fun h7=>?_,fun h7=>?_⟩
        ·repeat (first | refine⟨fun _=>?_,fun h=>Bool.noConfusion h⟩ | refine⟨fun h=>Bool.noConfusion h,fun _=>?_⟩ | fail)
         refine⟨11,rfl,?_⟩
         exact ApS.err (hA.err (by rw[hP];unfold placeE tsAt csAt nearB;grind) (by decide))
        ·refine⟨CN1,x,c,_,_,rfl,kp_,hV,?_⟩
         refine⟨fun h8=>?_,fun h8=>?_⟩
         ·unfold togB at h8
          repeat (first | refine⟨fun _=>?_,fun h=>Bool.noConfusion h⟩ | refine⟨fun h=>Bool.noConfusion h,fun _=>?_⟩ | fail)
          refine⟨11,rfl,?_⟩
          exact ApS.err (hA.err (by rw[hP];unfold placeE tsAt csAt nearB;grind) (by decide))
         ·have hi:e.tenant.toNat<s.tenants.length:=by omega
          refine⟨tsC { (s.tenants.getD e.tenant.toNat default) with placed:=true },(by first | rfl | (show putN _ _ (tsC (List.getD _ _ _))=_;rw[getD_set hi];rfl)),?_⟩
          rw[setEl_set (by first | exact hi | (rw[List.length_set];exact hi))]
          try rw[List.set_set]
          refine⟨kp_,?_⟩
          refine⟨tsC { (s.tenants.getD e.tenant.toNat default) with placed:=true,home:=e.cell },(by first | rfl | (show putN _ _ (tsC (List.getD _ _ _))=_;rw[getD_set hi];rfl)),?_⟩
          rw[setEl_set (by first | exact hi | (rw[List.length_set];exact hi))]
          try rw[List.set_set]
          refine⟨kp_,?_⟩
          refine⟨tsC { (s.tenants.getD e.tenant.toNat default) with placed:=true,home:=e.cell,standby:=e.other },(by first | rfl | (show putN _ _ (tsC (List.getD _ _ _))=_;rw[getD_set hi];rfl)),?_⟩
          rw[setEl_set (by first | exact hi | (rw[List.length_set];exact hi))]
          try rw[List.set_set]
          unfold togB at h8
          have hk0:kindE c s e=0:=by rw[hP];unfold placeE tsAt csAt nearB;grind
          have heff:effOf s e=(⟨e.tick,s.count+1,s.tenants.set e.tenant.toNat { (s.tenants.getD e.tenant.toNat default) with placed:=true,home:=e.cell,standby:=e.other },s.cells,s.proven,s.evac,s.low,s.high⟩:St):=by simp[effOf,stamped,setTen,tenEff,tsAt,hk]
          refine⟨CN1,x,c,⟨15,14,0⟩,y2,_,_,(⟨e.tick,s.count+1,s.tenants.set e.tenant.toNat { (s.tenants.getD e.tenant.toNat default) with placed:=true,home:=e.cell,standby:=e.other },s.cells,s.proven,s.evac,s.low,s.high⟩:St),rfl,⟨kp_,⟨(by first | rfl | (simp)),rfl,⟨_,_,_,rfl,(by first | exact Nat.le_refl _ | (simp)),fun k hk=>rfl⟩,.list rfl⟩⟩,⟨hV,by simp;omega⟩,?_⟩
          intro cap
          refine⟨fun hov=>?_,fun hov=>?_⟩
          ·exact ApS.err (hA.over hk0 (by unfold fitsB;simp[hk]) (by rw[heff];exact ov_yes hov))
          ·exact ApS.ok (M:=⟨15,14,0⟩) (y:=y2) (s:=(⟨e.tick,s.count+1,s.tenants.set e.tenant.toNat { (s.tenants.getD e.tenant.toNat default) with placed:=true,home:=e.cell,standby:=e.other },s.cells,s.proven,s.evac,s.low,s.high⟩:St)) (by rw[hA.fine hk0 (fun _=>by rw[heff];exact ov_no hov),heff]) (by first | rfl | (simp)) rfl ⟨_,_,_,rfl,rfl,(by first | exact Nat.le_refl _ | (simp)),fun k hk=>rfl⟩ ⟨_,_,_,rfl,rfl,Nat.le_refl _,fun k hk=>rfl⟩
 ·refine⟨⟨Nat.le_refl _,by omega,by omega⟩,?_⟩
  refine⟨fun h1=>?_,fun h1=>?_⟩
  ·repeat (first | refine⟨fun _=>?_,fun h=>Bool.noConfusion h⟩ | refine⟨fun h=>Bool.noConfusion h,fun _=>?_⟩ | fail)
   refine⟨4,rfl,?_⟩
   exact ApS.err (hA.err (by rw[hP];unfold placeE tsAt csAt nearB;grind) (by decide))
  ·refine⟨⟨Nat.le_refl _,by omega,by omega⟩,?_⟩
   refine⟨fun h2=>?_,fun h2=>?_⟩
   ·repeat (first | refine⟨fun _=>?_,fun h=>Bool.noConfusion h⟩ | refine⟨fun h=>Bool.noConfusion h,fun _=>?_⟩ | fail)
    refine⟨6,rfl,?_⟩
    exact ApS.err (hA.err (by rw[hP];unfold placeE tsAt csAt nearB;grind) (by decide))
   ·refine⟨fun h=>absurd h (by simp;omega),fun _=>?_⟩
    repeat (first | refine⟨fun _=>?_,fun h=>Bool.noConfusion h⟩ | refine⟨fun h=>Bool.noConfusion h,fun _=>?_⟩ | fail)
    refine⟨CN1,x,c,⟨15,14,0⟩,y2,_,_,⟨e.tick,s.count+1,s.tenants,s.cells,s.proven,s.evac,s.low,s.high⟩,e.cell,rfl,⟨kp_,⟨rfl,rfl,.list rfl,.list rfl⟩⟩,⟨hV,by dsimp only;omega⟩,?_⟩
    refine⟨fun h4=>?_,fun h4=>?_⟩
    ·replace h4:frozenB c s e.cell=true:=h4
     repeat (first | refine⟨fun _=>?_,fun h=>Bool.noConfusion h⟩ | refine⟨fun h=>Bool.noConfusion h,fun _=>?_⟩ | fail)
     refine⟨12,rfl,?_⟩
     exact ApS.err (hA.err (by rw[hP];unfold placeE tsAt csAt nearB;grind) (by decide))
    ·replace h4:frozenB c s e.cell=false:=h4
     refine⟨fun h=>absurd h (by simp;omega),fun _=>?_⟩
     repeat (first | refine⟨fun _=>?_,fun h=>Bool.noConfusion h⟩ | refine⟨fun h=>Bool.noConfusion h,fun _=>?_⟩ | fail)
     refine⟨CN1,x,c,_,_,rfl,kp_,hV,?_⟩
     refine⟨fun h6=>?_,fun h6=>?_⟩
     ·repeat (first | refine⟨fun _=>?_,fun h=>Bool.noConfusion h⟩ | refine⟨fun h=>Bool.noConfusion h,fun _=>?_⟩ | fail)
      refine⟨11,rfl,?_⟩
      exact ApS.err (hA.err (by rw[hP];unfold placeE tsAt csAt nearB;grind) (by decide))
     ·refine⟨fun h=>absurd h (by simp;omega),fun _=>?_⟩
      repeat (first | refine⟨fun _=>?_,fun h=>Bool.noConfusion h⟩ | refine⟨fun h=>Bool.noConfusion h,fun _=>?_⟩ | fail)
      have hi:e.tenant.toNat<s.tenants.length:=by omega
      refine⟨tsC { (s.tenants.getD e.tenant.toNat default) with placed:=true },(by first | rfl | (show putN _ _ (tsC (List.getD _ _ _))=_;rw[getD_set hi];rfl)),?_⟩
      rw[setEl_set (by first | exact hi | (rw[List.length_set];exact hi))]
      try rw[List.set_set]
      refine⟨kp_,?_⟩
      refine⟨tsC { (s.tenants.getD e.tenant.toNat default) with placed:=true,home:=e.cell },(by first | rfl | (show putN _ _ (tsC (List.getD _ _ _))=_;rw[getD_set hi];rfl)),?_⟩
      rw[setEl_set (by first | exact hi | (rw[List.length_set];exact hi))]
      try rw[List.set_set]
      refine⟨kp_,?_⟩
      refine⟨tsC { (s.tenants.getD e.tenant.toNat default) with placed:=true,home:=e.cell,standby:=e.other },(by first | rfl | (show putN _ _ (tsC (List.getD _ _ _))=_;rw[getD_set hi];rfl)),?_⟩
      rw[setEl_set (by first | exact hi | (rw[List.length_set];exact hi))]
      try rw[List.set_set]
      have hk0:kindE c s e=0:=by rw[hP];unfold placeE tsAt csAt nearB;grind
      have heff:effOf s e=(⟨e.tick,s.count+1,s.tenants.set e.tenant.toNat { (s.tenants.getD e.tenant.toNat default) with placed:=true,home:=e.cell,standby:=e.other },s.cells,s.proven,s.evac,s.low,s.high⟩:St):=by simp[effOf,stamped,setTen,tenEff,tsAt,hk]
      refine⟨CN1,x,c,⟨15,14,0⟩,y2,_,_,(⟨e.tick,s.count+1,s.tenants.set e.tenant.toNat { (s.tenants.getD e.tenant.toNat default) with placed:=true,home:=e.cell,standby:=e.other },s.cells,s.proven,s.evac,s.low,s.high⟩:St),rfl,⟨kp_,⟨(by first | rfl | (simp)),rfl,⟨_,_,_,rfl,(by first | exact Nat.le_refl _ | (simp)),fun k hk=>rfl⟩,.list rfl⟩⟩,⟨hV,by simp;omega⟩,?_⟩
      intro cap
      refine⟨fun hov=>?_,fun hov=>?_⟩
      ·exact ApS.err (hA.over hk0 (by unfold fitsB;simp[hk]) (by rw[heff];exact ov_yes hov))
      ·exact ApS.ok (M:=⟨15,14,0⟩) (y:=y2) (s:=(⟨e.tick,s.count+1,s.tenants.set e.tenant.toNat { (s.tenants.getD e.tenant.toNat default) with placed:=true,home:=e.cell,standby:=e.other },s.cells,s.proven,s.evac,s.low,s.high⟩:St)) (by rw[hA.fine hk0 (fun _=>by rw[heff];exact ov_no hov),heff]) (by first | rfl | (simp)) rfl ⟨_,_,_,rfl,rfl,(by first | exact Nat.le_refl _ | (simp)),fun k hk=>rfl⟩ ⟨_,_,_,rfl,rfl,Nat.le_refl _,fun k hk=>rfl⟩
set_option maxRecDepth 100000 in
set_option maxHeartbeats 4000000 in
theorem apCut (x:CfgK) (c:Cfg) (y:StK) (s:St) (e:Ent) (hA:ArH c s e) (hk:e.kind=3):sx ttU arF arD (bodyOf Tryz.f72) (argF 0 [cfgV CN1 x c,stV SN1 y s,entV' e]) (rdM c s noS) 10 (endx ttU Tryz.f72.results.toList fun v mem' _=>ApS mem' v (applyR c s e)):=by
 have hV:=hA.cfg
 have hI:=hA.inv
 have hE:=hA.ent
 have hcn:=hA.cnt
 have htk:=hA.tick
 have hlt:=hI.lt
 have hlc:=hI.lc
 have hnt:=hV.nt
 have hnc:=hV.nc
 have hct:=hI.count
 have hst:=hI.tick
 have hev:=hI.evac
 have hpv:=hI.proven
 have htb:=hA.tB
 have hP:kindE c s e=cutE s e:=by unfold kindE;simp[hk]
 have hf:=hE
 simp[entV,entOk,inS,inR,fT,fC,fO,fE,fW,fN,hk] at hf
 refine⟨CN1,x,c,e,rfl,kp_,hV,?_⟩
 refine⟨fun h=>absurd h (by rw[hE];decide),fun _=>?_⟩
 refine⟨fun h=>absurd (of_decide_eq_true h) (by omega),fun _=>?_⟩
 refine⟨fun h=>absurd (of_decide_eq_true h) (by omega),fun _=>?_⟩
 refine⟨SN1,y,s,rfl,⟨.list rfl,.list rfl⟩,⟨by omega,by omega⟩,?_⟩
 intro y2
 refine⟨fun h=>absurd h (by rw[hk];decide),fun _=>?_⟩
 refine⟨fun h=>absurd h (by rw[hk];decide),fun _=>?_⟩
 refine⟨fun _=>?_,fun h=>absurd h (by rw[hk];decide)⟩
 rw[wrapi (n:=s.count+1) (by omega)]
 have hi:e.tenant.toNat<s.tenants.length:=by omega
 refine⟨⟨Nat.le_refl _,by omega,by omega⟩,?_⟩
 refine⟨fun h1=>?_,fun h1=>?_⟩
 ·repeat (first | refine⟨fun _=>?_,fun h=>Bool.noConfusion h⟩ | refine⟨fun h=>Bool.noConfusion h,fun _=>?_⟩ | fail)
  refine⟨4,rfl,?_⟩
  exact ApS.err (hA.err (by rw[hP];unfold cutE tsAt;grind) (by decide))
 ·refine⟨fun h2=>?_,fun h2=>?_⟩
  ·repeat (first | refine⟨fun _=>?_,fun h=>Bool.noConfusion h⟩ | refine⟨fun h=>Bool.noConfusion h,fun _=>?_⟩ | fail)
   refine⟨7,rfl,?_⟩
   exact ApS.err (hA.err (by rw[hP];unfold cutE tsAt;grind) (by decide))
  ·refine⟨(s.tenants.getD e.tenant.toNat default).win,e.tick,rfl,by omega,?_⟩
   refine⟨kp_,?_⟩
   refine⟨tsC { (s.tenants.getD e.tenant.toNat default) with win:=cutW (s.tenants.getD e.tenant.toNat default).win e.tick },(by first | rfl | (show putN _ _ (tsC (List.getD _ _ _))=_;rw[getD_set hi];rfl)),?_⟩
   rw[setEl_set (by first | exact hi | (rw[List.length_set];exact hi))]
   try rw[List.set_set]
   have hk0:kindE c s e=0:=by rw[hP];unfold cutE tsAt;grind
   have heff:effOf s e=(⟨e.tick,s.count+1,s.tenants.set e.tenant.toNat { (s.tenants.getD e.tenant.toNat default) with win:=cutW (s.tenants.getD e.tenant.toNat default).win e.tick },s.cells,s.proven,s.evac,s.low,s.high⟩:St):=by simp[effOf,stamped,setTen,setCel,tenEff,celEff,tsAt,csAt,hk]
   exact ApS.ok (M:=⟨15,14,0⟩) (y:=y2) (s:=(⟨e.tick,s.count+1,s.tenants.set e.tenant.toNat { (s.tenants.getD e.tenant.toNat default) with win:=cutW (s.tenants.getD e.tenant.toNat default).win e.tick },s.cells,s.proven,s.evac,s.low,s.high⟩:St)) (by rw[hA.fine hk0 (fun q=>absurd q (by unfold fitsB;simp[hk])),heff]) (by first | rfl | (simp)) (by first | rfl | (simp)) ⟨_,_,_,rfl,rfl,(by first | exact Nat.le_refl _ | (simp)),fun k hk=>rfl⟩ ⟨_,_,_,rfl,rfl,(by first | exact Nat.le_refl _ | (simp)),fun k hk=>rfl⟩
set_option maxRecDepth 100000 in
set_option maxHeartbeats 4000000 in
theorem apReady (x:CfgK) (c:Cfg) (y:StK) (s:St) (e:Ent) (hA:ArH c s e) (hk:e.kind=5):sx ttU arF arD (bodyOf Tryz.f72) (argF 0 [cfgV CN1 x c,stV SN1 y s,entV' e]) (rdM c s noS) 10 (endx ttU Tryz.f72.results.toList fun v mem' _=>ApS mem' v (applyR c s e)):=by
 have hV:=hA.cfg
 have hI:=hA.inv
 have hE:=hA.ent
 have hcn:=hA.cnt
 have htk:=hA.tick
 have hlt:=hI.lt
 have hlc:=hI.lc
 have hnt:=hV.nt
 have hnc:=hV.nc
 have hct:=hI.count
 have hst:=hI.tick
 have hev:=hI.evac
 have hpv:=hI.proven
 have htb:=hA.tB
 have hP:kindE c s e=readyE s e:=by unfold kindE;simp[hk]
 have hf:=hE
 simp[entV,entOk,inS,inR,fT,fC,fO,fE,fW,fN,hk] at hf
 refine⟨CN1,x,c,e,rfl,kp_,hV,?_⟩
 refine⟨fun h=>absurd h (by rw[hE];decide),fun _=>?_⟩
 refine⟨fun h=>absurd (of_decide_eq_true h) (by omega),fun _=>?_⟩
 refine⟨fun h=>absurd (of_decide_eq_true h) (by omega),fun _=>?_⟩
 refine⟨SN1,y,s,rfl,⟨.list rfl,.list rfl⟩,⟨by omega,by omega⟩,?_⟩
 intro y2
 refine⟨fun h=>absurd h (by rw[hk];decide),fun _=>?_⟩
 refine⟨fun h=>absurd h (by rw[hk];decide),fun _=>?_⟩
 refine⟨fun h=>absurd h (by rw[hk];decide),fun _=>?_⟩
 refine⟨fun h=>absurd h (by rw[hk];decide),fun _=>?_⟩
 refine⟨fun _=>?_,fun h=>absurd h (by rw[hk];decide)⟩
 rw[wrapi (n:=s.count+1) (by omega)]
 have hi:e.tenant.toNat<s.tenants.length:=by omega
 refine⟨⟨Nat.le_refl _,by omega,by omega⟩,?_⟩
 refine⟨fun h1=>?_,fun h1=>?_⟩
 ·repeat (first | refine⟨fun _=>?_,fun h=>Bool.noConfusion h⟩ | refine⟨fun h=>Bool.noConfusion h,fun _=>?_⟩ | fail)
  refine⟨4,rfl,?_⟩
  exact ApS.err (hA.err (by rw[hP];unfold readyE tsAt csAt;grind) (by decide))
 ·refine⟨fun h2=>?_,fun h2=>?_⟩
  ·repeat (first | refine⟨fun _=>?_,fun h=>Bool.noConfusion h⟩ | refine⟨fun h=>Bool.noConfusion h,fun _=>?_⟩ | fail)
   refine⟨5,rfl,?_⟩
   exact ApS.err (hA.err (by rw[hP];unfold readyE tsAt csAt;grind) (by decide))
  ·refine⟨⟨Nat.le_refl _,by omega,by omega⟩,?_⟩
   refine⟨fun h3=>?_,fun h3=>?_⟩
   ·repeat (first | refine⟨fun _=>?_,fun h=>Bool.noConfusion h⟩ | refine⟨fun h=>Bool.noConfusion h,fun _=>?_⟩ | fail)
    refine⟨6,rfl,?_⟩
    exact ApS.err (hA.err (by rw[hP];unfold readyE tsAt csAt;grind) (by decide))
   ·refine⟨tsC { (s.tenants.getD e.tenant.toNat default) with standby:=e.cell },(by first | rfl | (show putN _ _ (tsC (List.getD _ _ _))=_;rw[getD_set hi];rfl)),?_⟩
    rw[setEl_set (by first | exact hi | (rw[List.length_set];exact hi))]
    try rw[List.set_set]
    refine⟨tsC { (s.tenants.getD e.tenant.toNat default) with standby:=e.cell,next:=-1 },(by first | rfl | (show putN _ _ (tsC (List.getD _ _ _))=_;rw[getD_set hi];rfl)),?_⟩
    rw[setEl_set (by first | exact hi | (rw[List.length_set];exact hi))]
    try rw[List.set_set]
    have hk0:kindE c s e=0:=by rw[hP];unfold readyE tsAt csAt;grind
    have heff:effOf s e=(⟨e.tick,s.count+1,s.tenants.set e.tenant.toNat { (s.tenants.getD e.tenant.toNat default) with standby:=e.cell,next:=-1 },s.cells,s.proven,s.evac,s.low,s.high⟩:St):=by simp[effOf,stamped,setTen,setCel,tenEff,celEff,tsAt,csAt,hk]
    exact ApS.ok (M:=⟨15,14,0⟩) (y:=y2) (s:=(⟨e.tick,s.count+1,s.tenants.set e.tenant.toNat { (s.tenants.getD e.tenant.toNat default) with standby:=e.cell,next:=-1 },s.cells,s.proven,s.evac,s.low,s.high⟩:St)) (by rw[hA.fine hk0 (fun q=>absurd q (by unfold fitsB;simp[hk])),heff]) (by first | rfl | (simp)) (by first | rfl | (simp)) ⟨_,_,_,rfl,rfl,(by first | exact Nat.le_refl _ | (simp)),fun k hk=>rfl⟩ ⟨_,_,_,rfl,rfl,(by first | exact Nat.le_refl _ | (simp)),fun k hk=>rfl⟩
set_option maxRecDepth 100000 in
set_option maxHeartbeats 4000000 in
theorem apAbandon (x:CfgK) (c:Cfg) (y:StK) (s:St) (e:Ent) (hA:ArH c s e) (hk:e.kind=7):sx ttU arF arD (bodyOf Tryz.f72) (argF 0 [cfgV CN1 x c,stV SN1 y s,entV' e]) (rdM c s noS) 10 (endx ttU Tryz.f72.results.toList fun v mem' _=>ApS mem' v (applyR c s e)):=by
 have hV:=hA.cfg
 have hI:=hA.inv
 have hE:=hA.ent
 have hcn:=hA.cnt
 have htk:=hA.tick
 have hlt:=hI.lt
 have hlc:=hI.lc
 have hnt:=hV.nt
 have hnc:=hV.nc
 have hct:=hI.count
 have hst:=hI.tick
 have hev:=hI.evac
 have hpv:=hI.proven
 have htb:=hA.tB
 have hP:kindE c s e=abandonE s e:=by unfold kindE;simp[hk]
 have hf:=hE
 simp[entV,entOk,inS,inR,fT,fC,fO,fE,fW,fN,hk] at hf
 refine⟨CN1,x,c,e,rfl,kp_,hV,?_⟩
 refine⟨fun h=>absurd h (by rw[hE];decide),fun _=>?_⟩
 refine⟨fun h=>absurd (of_decide_eq_true h) (by omega),fun _=>?_⟩
 refine⟨fun h=>absurd (of_decide_eq_true h) (by omega),fun _=>?_⟩
 refine⟨SN1,y,s,rfl,⟨.list rfl,.list rfl⟩,⟨by omega,by omega⟩,?_⟩
 intro y2
 refine⟨fun h=>absurd h (by rw[hk];decide),fun _=>?_⟩
 refine⟨fun h=>absurd h (by rw[hk];decide),fun _=>?_⟩
 refine⟨fun h=>absurd h (by rw[hk];decide),fun _=>?_⟩
 refine⟨fun h=>absurd h (by rw[hk];decide),fun _=>?_⟩
 refine⟨fun h=>absurd h (by rw[hk];decide),fun _=>?_⟩
 refine⟨fun h=>absurd h (by rw[hk];decide),fun _=>?_⟩
 refine⟨fun _=>?_,fun h=>absurd h (by rw[hk];decide)⟩
 rw[wrapi (n:=s.count+1) (by omega)]
 have hTi:=hI.ten _ (List.mem_of_getElem? (getD_get (d:=default) (show e.tenant.toNat<s.tenants.length by omega)))
 obtain⟨hT1,hT2,hT3,hT4,hT5,hT6,hT7,hT8,hT9,hT10,hT11,hT12⟩:=hTi
 have hi:e.tenant.toNat<s.tenants.length:=by omega
 refine⟨⟨Nat.le_refl _,by omega,by omega⟩,?_⟩
 refine⟨Bool,fun b=>[(23,.bool b)],fun _=>[],fun b=>(b=true↔((s.tenants.getD e.tenant.toNat default).placed=false∨(s.tenants.getD e.tenant.toNat default).target<0)),?_,?_⟩
 ·repeat' (first | refine⟨fun _=>?_,fun h=>Bool.noConfusion h⟩ | refine⟨fun h=>Bool.noConfusion h,fun _=>?_⟩ | refine⟨fun _=>?_,fun _=>?_⟩ | refine⟨⟨Nat.le_refl _,by omega,by omega⟩,?_⟩ | fail)
  all_goals (refine⟨_,?_,kp_,kp_⟩;dsimp only;grind)
 ·rintro b1 hb1
  refine⟨⟨by decide,rfl,rfl⟩,?_⟩
  refine⟨fun h1=>?_,fun h1=>?_⟩
  ·repeat (first | refine⟨fun _=>?_,fun h=>Bool.noConfusion h⟩ | refine⟨fun h=>Bool.noConfusion h,fun _=>?_⟩ | fail)
   refine⟨4,rfl,?_⟩
   exact ApS.err (hA.err (by rw[hP];unfold abandonE tsAt;grind) (by decide))
  ·refine⟨tsC { (s.tenants.getD e.tenant.toNat default) with target:=-1 },(by first | rfl | (show putN _ _ (tsC (List.getD _ _ _))=_;rw[getD_set hi];rfl)),?_⟩
   rw[setEl_set (by first | exact hi | (rw[List.length_set];exact hi))]
   try rw[List.set_set]
   have hk0:kindE c s e=0:=by rw[hP];unfold abandonE tsAt;grind
   have heff:effOf s e=(⟨e.tick,s.count+1,s.tenants.set e.tenant.toNat { (s.tenants.getD e.tenant.toNat default) with target:=-1 },s.cells,s.proven,s.evac,s.low,s.high⟩:St):=by simp[effOf,stamped,setTen,setCel,tenEff,celEff,tsAt,csAt,hk]
   exact ApS.ok (M:=⟨15,14,0⟩) (y:=y2) (s:=(⟨e.tick,s.count+1,s.tenants.set e.tenant.toNat { (s.tenants.getD e.tenant.toNat default) with target:=-1 },s.cells,s.proven,s.evac,s.low,s.high⟩:St)) (by rw[hA.fine hk0 (fun q=>absurd q (by unfold fitsB;simp[hk])),heff]) (by first | rfl | (simp)) (by first | rfl | (simp)) ⟨_,_,_,rfl,rfl,(by first | exact Nat.le_refl _ | (simp)),fun k hk=>rfl⟩ ⟨_,_,_,rfl,rfl,(by first | exact Nat.le_refl _ | (simp)),fun k hk=>rfl⟩
set_option maxRecDepth 100000 in
set_option maxHeartbeats 4000000 in
theorem apGrant (x:CfgK) (c:Cfg) (y:StK) (s:St) (e:Ent) (hA:ArH c s e) (hk:e.kind=2):sx ttU arF arD (bodyOf Tryz.f72) (argF 0 [cfgV CN1 x c,stV SN1 y s,entV' e]) (rdM c s noS) 10 (endx ttU Tryz.f72.results.toList fun v mem' _=>ApS mem' v (applyR c s e)):=by
 have hV:=hA.cfg
 have hI:=hA.inv
 have hE:=hA.ent
 have hcn:=hA.cnt
 have htk:=hA.tick
 have hlt:=hI.lt
 have hlc:=hI.lc
 have hnt:=hV.nt
 have hnc:=hV.nc
 have hct:=hI.count
 have hst:=hI.tick
 have hev:=hI.evac
 have hpv:=hI.proven
 have htb:=hA.tB
 have hP:kindE c s e=grantE c s e:=by unfold kindE;simp[hk]
 have hf:=hE
 simp[entV,entOk,inS,inR,fT,fC,fO,fE,fW,fN,hk] at hf
 refine⟨CN1,x,c,e,rfl,kp_,hV,?_⟩
 refine⟨fun h=>absurd h (by rw[hE];decide),fun _=>?_⟩
 refine⟨fun h=>absurd (of_decide_eq_true h) (by omega),fun _=>?_⟩
 refine⟨fun h=>absurd (of_decide_eq_true h) (by omega),fun _=>?_⟩
 refine⟨SN1,y,s,rfl,⟨.list rfl,.list rfl⟩,⟨by omega,by omega⟩,?_⟩
 intro y2
 refine⟨fun h=>absurd h (by rw[hk];decide),fun _=>?_⟩
 refine⟨fun _=>?_,fun h=>absurd h (by rw[hk];decide)⟩
 rw[wrapi (n:=s.count+1) (by omega)]
 have hTi:=hI.ten _ (List.mem_of_getElem? (getD_get (d:=default) (show e.tenant.toNat<s.tenants.length by omega)))
 obtain⟨hT1,hT2,hT3,hT4,hT5,hT6,hT7,hT8,hT9,hT10,hT11,hT12⟩:=hTi
 have hi:e.tenant.toNat<s.tenants.length:=by omega
 refine⟨⟨Nat.le_refl _,by omega,by omega⟩,?_⟩
 refine⟨Bool,fun b=>[(15,.bool b)],fun _=>[],fun b=>(b=true↔((s.tenants.getD e.tenant.toNat default).placed=false∨((s.tenants.getD e.tenant.toNat default).shed=true∧e.cell≠(s.tenants.getD e.tenant.toNat default).standby))),?_,?_⟩
 ·repeat' (first | refine⟨fun _=>?_,fun h=>Bool.noConfusion h⟩ | refine⟨fun h=>Bool.noConfusion h,fun _=>?_⟩ | refine⟨fun _=>?_,fun _=>?_⟩ | refine⟨⟨Nat.le_refl _,by omega,by omega⟩,?_⟩ | fail)
  all_goals (refine⟨_,?_,kp_,kp_⟩;dsimp only;grind)
 ·rintro b1 hb1
  refine⟨⟨by decide,rfl,rfl⟩,?_⟩
  refine⟨fun h1=>?_,fun h1=>?_⟩
  ·refine⟨4,rfl,?_⟩
   exact ApS.err (hA.err (by rw[hP,grantE_eq];unfold tsAt;grind) (by decide))
  ·refine⟨Bool,fun b=>[(39,.bool b)],fun _=>[],fun b=>(b=true↔(e.cell≠(s.tenants.getD e.tenant.toNat default).home∧e.cell≠(s.tenants.getD e.tenant.toNat default).standby∧e.cell≠(s.tenants.getD e.tenant.toNat default).target)),?_,?_⟩
   ·repeat' (first | refine⟨fun _=>?_,fun h=>Bool.noConfusion h⟩ | refine⟨fun h=>Bool.noConfusion h,fun _=>?_⟩ | refine⟨fun _=>?_,fun _=>?_⟩ | refine⟨⟨Nat.le_refl _,by omega,by omega⟩,?_⟩ | fail)
    all_goals (refine⟨_,?_,kp_,kp_⟩;dsimp only;grind)
   ·rintro b2 hb2
    refine⟨⟨by decide,rfl,rfl⟩,?_⟩
    refine⟨fun h2=>?_,fun h2=>?_⟩
    ·refine⟨5,rfl,?_⟩
     exact ApS.err (hA.err (by rw[hP,grantE_eq];unfold tsAt;grind) (by decide))
    ·refine⟨CN1,x,c,⟨15,14,0⟩,y2,_,_,⟨e.tick,s.count+1,s.tenants,s.cells,s.proven,s.evac,s.low,s.high⟩,e,rfl,⟨kp_,⟨rfl,rfl,.list rfl,.list rfl⟩⟩,⟨hV,by dsimp only;omega,by dsimp only;omega,by omega,by omega,by omega,?_⟩,?_⟩
     ·show 0≤(s.tenants.getD e.tenant.toNat default).epoch∧(s.tenants.getD e.tenant.toNat default).epoch≤1048576
      exact hT5
     ·have hgr:grantedE c ⟨e.tick,s.count+1,s.tenants,s.cells,s.proven,s.evac,s.low,s.high⟩ e=grantedE c s e:=rfl
      rw[hgr]
      refine⟨fun h3=>?_,fun h3=>?_⟩
      ·have h3b:grantedE c s e≠0:=by simpa using h3
       refine⟨_,rfl,?_⟩
       exact ApS.err (hA.err (by rw[hP,grantE_eq];unfold tsAt;grind) h3b)
      ·have h3b:grantedE c s e=0:=by simpa using h3
       refine⟨tsC { (s.tenants.getD e.tenant.toNat default) with win:=⟨e.cell,e.epoch,e.n,e.since,e.till⟩ },(by first | rfl | (show putN _ _ (tsC (List.getD _ _ _))=_;rw[getD_set hi];rfl)),?_⟩
       rw[setEl_set (by first | exact hi | (rw[List.length_set];exact hi))]
       try rw[List.set_set]
       refine⟨tsC { (s.tenants.getD e.tenant.toNat default) with win:=⟨e.cell,e.epoch,e.n,e.since,e.till⟩,epoch:=e.epoch },(by first | rfl | (show putN _ _ (tsC (List.getD _ _ _))=_;rw[getD_set hi];rfl)),?_⟩
       rw[setEl_set (by first | exact hi | (rw[List.length_set];exact hi))]
       try rw[List.set_set]
       have hgd:(s.tenants.set e.tenant.toNat { (s.tenants.getD e.tenant.toNat default) with win:=⟨e.cell,e.epoch,e.n,e.since,e.till⟩,epoch:=e.epoch }).getD e.tenant.toNat default={ (s.tenants.getD e.tenant.toNat default) with win:=⟨e.cell,e.epoch,e.n,e.since,e.till⟩,epoch:=e.epoch }:=getD_set hi
       refine⟨fun q1=>?_,fun q1=>?_⟩
       ·rw[hgd] at q1
        have q2:e.cell=(s.tenants.getD e.tenant.toNat default).home:=by simpa using q1
        have hk0:kindE c s e=0:=by rw[hP,grantE_eq];unfold tsAt;grind
        have heff:effOf s e=(⟨e.tick,s.count+1,s.tenants.set e.tenant.toNat { (s.tenants.getD e.tenant.toNat default) with win:=⟨e.cell,e.epoch,e.n,e.since,e.till⟩,epoch:=e.epoch },s.cells,s.proven,s.evac,s.low,s.high⟩:St):=by
         unfold effOf stamped setTen tenEff grantT tsAt
         simp only[hk]
         grind
        refine⟨CN1,x,c,⟨15,14,0⟩,y2,_,_,(⟨e.tick,s.count+1,s.tenants.set e.tenant.toNat { (s.tenants.getD e.tenant.toNat default) with win:=⟨e.cell,e.epoch,e.n,e.since,e.till⟩,epoch:=e.epoch },s.cells,s.proven,s.evac,s.low,s.high⟩:St),rfl,⟨kp_,⟨(by first | rfl | (simp)),rfl,⟨_,_,_,rfl,(by first | exact Nat.le_refl _ | (simp)),fun k hk=>rfl⟩,.list rfl⟩⟩,⟨hV,by simp;omega⟩,?_⟩
        intro cap
        refine⟨fun hov=>?_,fun hov=>?_⟩
        ·exact ApS.err (hA.over hk0 (by unfold fitsB;simp[hk]) (by rw[heff];exact ov_yes hov))
        ·exact ApS.ok (M:=⟨15,14,0⟩) (y:=y2) (s:=(⟨e.tick,s.count+1,s.tenants.set e.tenant.toNat { (s.tenants.getD e.tenant.toNat default) with win:=⟨e.cell,e.epoch,e.n,e.since,e.till⟩,epoch:=e.epoch },s.cells,s.proven,s.evac,s.low,s.high⟩:St)) (by rw[hA.fine hk0 (fun _=>by rw[heff];exact ov_no hov),heff]) (by first | rfl | (simp)) rfl ⟨_,_,_,rfl,rfl,(by first | exact Nat.le_refl _ | (simp)),fun k hk=>rfl⟩ ⟨_,_,_,rfl,rfl,Nat.le_refl _,fun k hk=>rfl⟩
       ·rw[hgd] at q1
        have q2:¬ e.cell=(s.tenants.getD e.tenant.toNat default).home:=by simpa using q1
        refine⟨fun q3=>?_,fun q3=>?_⟩
        ·rw[hgd] at q3
         refine⟨tsC { (s.tenants.getD e.tenant.toNat default) with win:=⟨e.cell,e.epoch,e.n,e.since,e.till⟩,epoch:=e.epoch,home:=e.cell },(by first | rfl | (show putN _ _ (tsC (List.getD _ _ _))=_;rw[getD_set hi];rfl)),?_⟩
         rw[setEl_set (by first | exact hi | (rw[List.length_set];exact hi))]
         try rw[List.set_set]
         refine⟨tsC { (s.tenants.getD e.tenant.toNat default) with win:=⟨e.cell,e.epoch,e.n,e.since,e.till⟩,epoch:=e.epoch,home:=e.cell,standby:=-1 },(by first | rfl | (show putN _ _ (tsC (List.getD _ _ _))=_;rw[getD_set hi];rfl)),?_⟩
         rw[setEl_set (by first | exact hi | (rw[List.length_set];exact hi))]
         try rw[List.set_set]
         refine⟨tsC { (s.tenants.getD e.tenant.toNat default) with win:=⟨e.cell,e.epoch,e.n,e.since,e.till⟩,epoch:=e.epoch,home:=e.cell,standby:=-1,next:=-1 },(by first | rfl | (show putN _ _ (tsC (List.getD _ _ _))=_;rw[getD_set hi];rfl)),?_⟩
         rw[setEl_set (by first | exact hi | (rw[List.length_set];exact hi))]
         try rw[List.set_set]
         refine⟨tsC { (s.tenants.getD e.tenant.toNat default) with win:=⟨e.cell,e.epoch,e.n,e.since,e.till⟩,epoch:=e.epoch,home:=e.cell,standby:=-1,next:=-1,target:=-1 },(by first | rfl | (show putN _ _ (tsC (List.getD _ _ _))=_;rw[getD_set hi];rfl)),?_⟩
         rw[setEl_set (by first | exact hi | (rw[List.length_set];exact hi))]
         try rw[List.set_set]
         refine⟨tsC { (s.tenants.getD e.tenant.toNat default) with win:=⟨e.cell,e.epoch,e.n,e.since,e.till⟩,epoch:=e.epoch,home:=e.cell,standby:=-1,next:=-1,target:=-1,shed:=false },(by first | rfl | (show putN _ _ (tsC (List.getD _ _ _))=_;rw[getD_set hi];rfl)),?_⟩
         rw[setEl_set (by first | exact hi | (rw[List.length_set];exact hi))]
         try rw[List.set_set]
         have q4:e.cell=(s.tenants.getD e.tenant.toNat default).standby:=by simpa using q3
         have hk0:kindE c s e=0:=by rw[hP,grantE_eq];unfold tsAt;grind
         have heff:effOf s e=(⟨e.tick,s.count+1,s.tenants.set e.tenant.toNat { (s.tenants.getD e.tenant.toNat default) with win:=⟨e.cell,e.epoch,e.n,e.since,e.till⟩,epoch:=e.epoch,home:=e.cell,standby:=-1,next:=-1,target:=-1,shed:=false },s.cells,s.proven,s.evac,s.low,s.high⟩:St):=by
          unfold effOf stamped setTen tenEff grantT tsAt
          simp only[hk]
          grind
         refine⟨CN1,x,c,⟨15,14,0⟩,y2,_,_,(⟨e.tick,s.count+1,s.tenants.set e.tenant.toNat { (s.tenants.getD e.tenant.toNat default) with win:=⟨e.cell,e.epoch,e.n,e.since,e.till⟩,epoch:=e.epoch,home:=e.cell,standby:=-1,next:=-1,target:=-1,shed:=false },s.cells,s.proven,s.evac,s.low,s.high⟩:St),rfl,⟨kp_,⟨(by first | rfl | (simp)),rfl,⟨_,_,_,rfl,(by first | exact Nat.le_refl _ | (simp)),fun k hk=>rfl⟩,.list rfl⟩⟩,⟨hV,by simp;omega⟩,?_⟩
         intro cap
         refine⟨fun hov=>?_,fun hov=>?_⟩
         ·exact ApS.err (hA.over hk0 (by unfold fitsB;simp[hk]) (by rw[heff];exact ov_yes hov))
         ·exact ApS.ok (M:=⟨15,14,0⟩) (y:=y2) (s:=(⟨e.tick,s.count+1,s.tenants.set e.tenant.toNat { (s.tenants.getD e.tenant.toNat default) with win:=⟨e.cell,e.epoch,e.n,e.since,e.till⟩,epoch:=e.epoch,home:=e.cell,standby:=-1,next:=-1,target:=-1,shed:=false },s.cells,s.proven,s.evac,s.low,s.high⟩:St)) (by rw[hA.fine hk0 (fun _=>by rw[heff];exact ov_no hov),heff]) (by first | rfl | (simp)) rfl ⟨_,_,_,rfl,rfl,(by first | exact Nat.le_refl _ | (simp)),fun k hk=>rfl⟩ ⟨_,_,_,rfl,rfl,Nat.le_refl _,fun k hk=>rfl⟩
        ·rw[hgd] at q3
         refine⟨tsC { (s.tenants.getD e.tenant.toNat default) with win:=⟨e.cell,e.epoch,e.n,e.since,e.till⟩,epoch:=e.epoch,home:=e.cell },(by first | rfl | (show putN _ _ (tsC (List.getD _ _ _))=_;rw[getD_set hi];rfl)),?_⟩
         rw[setEl_set (by first | exact hi | (rw[List.length_set];exact hi))]
         try rw[List.set_set]
         refine⟨tsC { (s.tenants.getD e.tenant.toNat default) with win:=⟨e.cell,e.epoch,e.n,e.since,e.till⟩,epoch:=e.epoch,home:=e.cell,target:=-1 },(by first | rfl | (show putN _ _ (tsC (List.getD _ _ _))=_;rw[getD_set hi];rfl)),?_⟩
         rw[setEl_set (by first | exact hi | (rw[List.length_set];exact hi))]
         try rw[List.set_set]
         have q4:¬ e.cell=(s.tenants.getD e.tenant.toNat default).standby:=by simpa using q3
         have hk0:kindE c s e=0:=by rw[hP,grantE_eq];unfold tsAt;grind
         have heff:effOf s e=(⟨e.tick,s.count+1,s.tenants.set e.tenant.toNat { (s.tenants.getD e.tenant.toNat default) with win:=⟨e.cell,e.epoch,e.n,e.since,e.till⟩,epoch:=e.epoch,home:=e.cell,target:=-1 },s.cells,s.proven,s.evac,s.low,s.high⟩:St):=by
          unfold effOf stamped setTen tenEff grantT tsAt
          simp only[hk]
          grind
         refine⟨CN1,x,c,⟨15,14,0⟩,y2,_,_,(⟨e.tick,s.count+1,s.tenants.set e.tenant.toNat { (s.tenants.getD e.tenant.toNat default) with win:=⟨e.cell,e.epoch,e.n,e.since,e.till⟩,epoch:=e.epoch,home:=e.cell,target:=-1 },s.cells,s.proven,s.evac,s.low,s.high⟩:St),rfl,⟨kp_,⟨(by first | rfl | (simp)),rfl,⟨_,_,_,rfl,(by first | exact Nat.le_refl _ | (simp)),fun k hk=>rfl⟩,.list rfl⟩⟩,⟨hV,by simp;omega⟩,?_⟩
         intro cap
         refine⟨fun hov=>?_,fun hov=>?_⟩
         ·exact ApS.err (hA.over hk0 (by unfold fitsB;simp[hk]) (by rw[heff];exact ov_yes hov))
         ·exact ApS.ok (M:=⟨15,14,0⟩) (y:=y2) (s:=(⟨e.tick,s.count+1,s.tenants.set e.tenant.toNat { (s.tenants.getD e.tenant.toNat default) with win:=⟨e.cell,e.epoch,e.n,e.since,e.till⟩,epoch:=e.epoch,home:=e.cell,target:=-1 },s.cells,s.proven,s.evac,s.low,s.high⟩:St)) (by rw[hA.fine hk0 (fun _=>by rw[heff];exact ov_no hov),heff]) (by first | rfl | (simp)) rfl ⟨_,_,_,rfl,rfl,(by first | exact Nat.le_refl _ | (simp)),fun k hk=>rfl⟩ ⟨_,_,_,rfl,rfl,Nat.le_refl _,fun k hk=>rfl⟩
end Go.Proofs.YtnnpgbleacapfaaGreat
