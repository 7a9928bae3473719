import Derived.Test.YtjobcfpnmfjlfaaGreatPa10
namespace Go.Proofs.YtjobcfpnmfjlfaaGreat
open Go.RowKit
set_option linter.unusedSimpArgs false
set_option linter.unusedVariables false

def overP (c : Cfg) (s : St) (k : Nat) : Bool := decide ((c.cells.getD k (0, 0)).2 < (booked c s).getD k 0)
theorem over_pick (c : Cfg) (s : St) : over c s = pickK (overP c s) c.cells.length := rfl
theorem booked_len (c : Cfg) (s : St) : (booked c s).length = c.cells.length := by rw [← bookK_all c s (Nat.le_refl _)]; exact bookK_len _ _ _

set_option maxHeartbeats 4000000 in
set_option maxRecDepth 100000 in
theorem ldOver_any (x : CfgA) (c : Cfg) (y : StA) (s : St) (w : World) (hV : CfgV c) (hc : CfgOk w (· < w.heap.size) x c) (hI : StInv c s) (hs : StOk w (· < w.heap.size) y s) :
    Calls Tryz.prog 42 #[.agg (cfgC x c), .agg (stC y s)] w (IntsPost w (over c s)) := by
  rw [over_pick]
  obtain ⟨ii, hii, hi0, hi1, hi2⟩ := info_parts r5intInfo
  have hnc := hV.nc
  have hntt := hV.nt
  have hbl := booked_len c s
  obtain ⟨az, cz, ac, cc, at_, ct, av, cv, ar, cr, ao, co⟩ := x
  have HV := Lib.hid hV
  have HKc := Lib.hid hc
  clear hV hc
  obtain ⟨sat, sct, sac, scc⟩ := y
  have HKs := Lib.hid hs
  have hsl : 1 ≤ s.cells.length ∧ s.cells.length ≤ 16 := by have := hI.lc; omega
  have hst : s.tenants.length ≤ 32 := by have := hI.lt; omega
  have HI := Lib.hid hI
  clear hs hI
  obtain ⟨pd, hpd⟩ : ∃ pd : Nat → Bool, pd = overP c s := ⟨_, rfl⟩
  have HP := Lib.hid hpd
  rw [← hpd]
  clear hpd
  have hL : Below w.heap.size w ((w.alloc (.cells #[.int .i64 c.regions, .slice az c.zones.length cz, .slice ac c.cells.length cc, .slice at_ c.tenants.length ct, .slice av c.versions.length cv, .slice ar c.replicas.length cr, .slice ao c.observers.length co, .int .i64 c.blast, .int .i64 c.lease, .int .i64 c.bake] 30)).alloc (.cells #[.int .i64 s.tick, .int .i64 s.count, .slice sat s.tenants.length sct, .slice sac s.cells.length scc, .int .i64 s.proven, .int .i64 s.evac, .int .i64 s.low, .int .i64 s.high] 38)) := (((Below.refl w.heap.size w).alloc (by simp <;> omega) (.cells #[.int .i64 c.regions, .slice az c.zones.length cz, .slice ac c.cells.length cc, .slice at_ c.tenants.length ct, .slice av c.versions.length cv, .slice ar c.replicas.length cr, .slice ao c.observers.length co, .int .i64 c.blast, .int .i64 c.lease, .int .i64 c.bake] 30)).alloc (by simp <;> omega) (.cells #[.int .i64 s.tick, .int .i64 s.count, .slice sat s.tenants.length sct, .slice sac s.cells.length scc, .int .i64 s.proven, .int .i64 s.evac, .int .i64 s.low, .int .i64 s.high] 38))
  have hBc : Blk ((w.alloc (.cells #[.int .i64 c.regions, .slice az c.zones.length cz, .slice ac c.cells.length cc, .slice at_ c.tenants.length ct, .slice av c.versions.length cv, .slice ar c.replicas.length cr, .slice ao c.observers.length co, .int .i64 c.blast, .int .i64 c.lease, .int .i64 c.bake] 30)).alloc (.cells #[.int .i64 s.tick, .int .i64 s.count, .slice sat s.tenants.length sct, .slice sac s.cells.length scc, .int .i64 s.proven, .int .i64 s.evac, .int .i64 s.low, .int .i64 s.high] 38)) (w.heap.size) 30 #[.int .i64 c.regions, .slice az c.zones.length cz, .slice ac c.cells.length cc, .slice at_ c.tenants.length ct, .slice av c.versions.length cv, .slice ar c.replicas.length cr, .slice ao c.observers.length co, .int .i64 c.blast, .int .i64 c.lease, .int .i64 c.bake] := by
    have := ((Blk.new w 30 #[.int .i64 c.regions, .slice az c.zones.length cz, .slice ac c.cells.length cc, .slice at_ c.tenants.length ct, .slice av c.versions.length cv, .slice ar c.replicas.length cr, .slice ao c.observers.length co, .int .i64 c.blast, .int .i64 c.lease, .int .i64 c.bake]).alloc (.cells #[.int .i64 s.tick, .int .i64 s.count, .slice sat s.tenants.length sct, .slice sac s.cells.length scc, .int .i64 s.proven, .int .i64 s.evac, .int .i64 s.low, .int .i64 s.high] 38))
    simpa using this
  have hBs : Blk ((w.alloc (.cells #[.int .i64 c.regions, .slice az c.zones.length cz, .slice ac c.cells.length cc, .slice at_ c.tenants.length ct, .slice av c.versions.length cv, .slice ar c.replicas.length cr, .slice ao c.observers.length co, .int .i64 c.blast, .int .i64 c.lease, .int .i64 c.bake] 30)).alloc (.cells #[.int .i64 s.tick, .int .i64 s.count, .slice sat s.tenants.length sct, .slice sac s.cells.length scc, .int .i64 s.proven, .int .i64 s.evac, .int .i64 s.low, .int .i64 s.high] 38)) (w.heap.size + 1) 38 #[.int .i64 s.tick, .int .i64 s.count, .slice sat s.tenants.length sct, .slice sac s.cells.length scc, .int .i64 s.proven, .int .i64 s.evac, .int .i64 s.low, .int .i64 s.high] := by
    have := (Blk.new (w.alloc (.cells #[.int .i64 c.regions, .slice az c.zones.length cz, .slice ac c.cells.length cc, .slice at_ c.tenants.length ct, .slice av c.versions.length cv, .slice ar c.replicas.length cr, .slice ao c.observers.length co, .int .i64 c.blast, .int .i64 c.lease, .int .i64 c.bake] 30)) 38 #[.int .i64 s.tick, .int .i64 s.count, .slice sat s.tenants.length sct, .slice sac s.cells.length scc, .int .i64 s.proven, .int .i64 s.evac, .int .i64 s.low, .int .i64 s.high])
    simpa using this
  unfold cfgC stC
  simp only
  go_enter Tryz.func42, Tryz.ntmps42
  go_upto_region 1 with fail
  generalize (w.alloc _).alloc _ = W at *
  have hgc := hBc.lt
  have d0 := hBc.cell' (i := 0) (v := .int .i64 c.regions) rfl
  have d1 := hBc.cell' (i := 1) (v := .slice az c.zones.length cz) rfl
  have d2 := hBc.cell' (i := 2) (v := .slice ac c.cells.length cc) rfl
  have d3 := hBc.cell' (i := 3) (v := .slice at_ c.tenants.length ct) rfl
  have d4 := hBc.cell' (i := 4) (v := .slice av c.versions.length cv) rfl
  have d5 := hBc.cell' (i := 5) (v := .slice ar c.replicas.length cr) rfl
  have d6 := hBc.cell' (i := 6) (v := .slice ao c.observers.length co) rfl
  have d7 := hBc.cell' (i := 7) (v := .int .i64 c.blast) rfl
  have d8 := hBc.cell' (i := 8) (v := .int .i64 c.lease) rfl
  have d9 := hBc.cell' (i := 9) (v := .int .i64 c.bake) rfl
  clear hBc
  have hgs := hBs.lt
  have su0 := hBs.cell' (i := 0) (v := .int .i64 s.tick) rfl
  have su1 := hBs.cell' (i := 1) (v := .int .i64 s.count) rfl
  have su2 := hBs.cell' (i := 2) (v := .slice sat s.tenants.length sct) rfl
  have su3 := hBs.cell' (i := 3) (v := .slice sac s.cells.length scc) rfl
  have su4 := hBs.cell' (i := 4) (v := .int .i64 s.proven) rfl
  have su5 := hBs.cell' (i := 5) (v := .int .i64 s.evac) rfl
  have su6 := hBs.cell' (i := 6) (v := .int .i64 s.low) rfl
  have su7 := hBs.cell' (i := 7) (v := .int .i64 s.high) rfl
  clear hBs
  have HL := Lib.hid hL
  have HWc := Lib.hid (HKc.out.belowW hL)
  have HWs := Lib.hid (HKs.out.belowW hL)
  clear hL
  have HBK := Lib.hid (ldBooked_any ⟨az, cz, ac, cc, at_, ct, av, cv, ar, cr, ao, co⟩ c ⟨sat, sct, sac, scc⟩ s W HV.out HWc.out HI.out HWs.out)
  go_wp2_with fail
  refine HBK.out.mono ?_
  rintro r w1 ⟨A1, cp1, rfl, hO1, hb1⟩
  rw [hbl] at hO1 ⊢
  have hlt1 : W.heap.size < w1.heap.size ∨ True := .inr trivial
  have HWc1 := Lib.hid (HWc.out.belowW hb1)
  have HL1 := Lib.hid (HL.out.trans (hb1.mono HL.out.size))
  replace d0 : w1.cell? ⟨w.heap.size, 0, none⟩ = some (.int .i64 c.regions) := (hb1.cell (p := ⟨w.heap.size, 0, none⟩) hgc).trans d0
  replace d1 : w1.cell? ⟨w.heap.size, 1, none⟩ = some (.slice az c.zones.length cz) := (hb1.cell (p := ⟨w.heap.size, 1, none⟩) hgc).trans d1
  replace d2 : w1.cell? ⟨w.heap.size, 2, none⟩ = some (.slice ac c.cells.length cc) := (hb1.cell (p := ⟨w.heap.size, 2, none⟩) hgc).trans d2
  replace d3 : w1.cell? ⟨w.heap.size, 3, none⟩ = some (.slice at_ c.tenants.length ct) := (hb1.cell (p := ⟨w.heap.size, 3, none⟩) hgc).trans d3
  replace d4 : w1.cell? ⟨w.heap.size, 4, none⟩ = some (.slice av c.versions.length cv) := (hb1.cell (p := ⟨w.heap.size, 4, none⟩) hgc).trans d4
  replace d5 : w1.cell? ⟨w.heap.size, 5, none⟩ = some (.slice ar c.replicas.length cr) := (hb1.cell (p := ⟨w.heap.size, 5, none⟩) hgc).trans d5
  replace d6 : w1.cell? ⟨w.heap.size, 6, none⟩ = some (.slice ao c.observers.length co) := (hb1.cell (p := ⟨w.heap.size, 6, none⟩) hgc).trans d6
  replace d7 : w1.cell? ⟨w.heap.size, 7, none⟩ = some (.int .i64 c.blast) := (hb1.cell (p := ⟨w.heap.size, 7, none⟩) hgc).trans d7
  replace d8 : w1.cell? ⟨w.heap.size, 8, none⟩ = some (.int .i64 c.lease) := (hb1.cell (p := ⟨w.heap.size, 8, none⟩) hgc).trans d8
  replace d9 : w1.cell? ⟨w.heap.size, 9, none⟩ = some (.int .i64 c.bake) := (hb1.cell (p := ⟨w.heap.size, 9, none⟩) hgc).trans d9
  replace hgc : w.heap.size < w1.heap.size := Nat.lt_of_lt_of_le hgc hb1.size
  have HO1 := Lib.hid hO1
  clear HBK hO1 hb1 su0 su1 su2 su3 su4 su5 su6 su7 hgs HWc HWs HL hlt1
  generalize hbk : booked c s = bk at *
  have HBKE := Lib.hid hbk
  clear hbk
  go_wp2
  go_loopg [5, 12] c.cells.length (fun gk so si wr => r5HomesRel w1 pd c.cells.length gk so si wr)
  case atStart => exact ⟨0, none, 0, by omega, rfl, rfl, World.ownsRow_nil _ _ _ _, Below.refl _ _⟩
  case round =>
    rename_i J K aJ aK
    obtain ⟨k, A, cp, hgk, rfl, rfl, hown, hbel⟩ := hrel
    have HO := Lib.hid hown
    have HB := Lib.hid hbel
    have hsz := hbel.size
    have hlen := pickK_len pd k
    obtain ⟨hc, hf⟩ := bcell hbel
    clear hown hbel hf
    by_cases hk : k < c.cells.length
    · have hlt : (k : Int) < (c.cells.length : Int) := by omega
      have hkb : k < bk.length := by omega
      obtain ⟨b, off, z, rfl, hb, hzz, hcell⟩ := HWc1.out.cells.row (enc := pairC) (sz := 2) (fun _ => rfl) (by omega) hk
      obtain ⟨g1, cap1, hv1, _, hlt1⟩ := HO1.out.form (by omega)
      simp only [Value.slice.injEq, true_and] at hv1
      obtain ⟨rfl, rfl⟩ := hv1
      have c0 := HO1.out.cellAt k (by omega)
      rw [flat_int, List.getElem?_map, List.getElem?_eq_getElem hkb] at c0
      simp only [Option.map_some] at c0
      have hbW : b < w1.heap.size := hb
      have e1 := hcell 1 (.int .i64 z.2) rfl
      have HPK : Hid (pd k = decide (z.2 < bk[k])) := Lib.hid (by rw [HP.out]; unfold overP; rw [getD_some hzz, HBKE.out, getD_some (List.getElem?_eq_getElem hkb)])
      have HS := Lib.hid (pickK_succ pd k)
      generalize bk[k] = m at *
      clear hcell hzz hb
      by_cases hp : pd k = true
      · have hp2 : z.2 < m := by have := HPK.out; rw [hp] at this; simpa using this.symm
        go_wp2_with (at_builtin; refine wpList_append_lies _ rfl _ _ _ rfl w1.heap.size 3 ii _ 1 8 Tryz.underlying22 hii hi0 hi1 hi2 rfl (by omega) _ (pickK pd k).length (flat intC (pickK pd k)) rfl (HO.out.alloc _) ⟨wr.heap.size, 0, none⟩ 1 1 [.int .i64 k] rfl rfl ?c1 ?c2 ?c0 ?c3 ?c4 ?c5 (wr.heap.size + 1) ?c6 ?_)
        case c1 => exact World.news_of_block (cs := #[.int .i64 k]) (heap_alloc_new _ _)
        case c2 => simp [Value.oneCell']
        case c0 => omega
        case c3 => unfold maxLen; omega
        case c4 => omega
        case c5 => have := HB.out.size; simp; omega
        case c6 => simp
        intro gg cq w9 hown9 hg9 hat9 hlt9
        have HB9 := Lib.hid ((HB.out.alloc HB.out.size _).grown hg9 (by have := HB.out.size; simp; omega) (fun j hj => (HO.out.lt j hj).1))
        have HX : Hid (w9.ownsRow w1.heap.size 3 1 (.slice (some ⟨gg, 0, none⟩) (pickK pd (k + 1)).length cq) (pickK pd (k + 1)).length (flat intC (pickK pd (k + 1)))) := by
          refine Lib.hid ?_; rw [HS.out, if_pos hp, ← flat_snoc5, List.length_append]; exact hown9
        have hl9 : (pickK pd (k + 1)).length = (pickK pd k).length + 1 := by rw [HS.out, if_pos hp, List.length_append]; rfl
        have HL9 := Lib.hid hl9
        clear hown9 hg9 hat9 hlt9 HB hl9 hc
        go_wp2
        go_roundg (gk - 1)
        case measure => omega
        case rel => exact ⟨k + 1, some ⟨gg, 0, none⟩, cq, by omega, by go_num, by rw [HL9.out], HX.out, HB9.out⟩
      · have hp : pd k = false := by simpa using hp
        have hp2 : m ≤ z.2 := by have := HPK.out; rw [hp] at this; simpa using this.symm
        have HX : Hid (wr.ownsRow w1.heap.size 3 1 (.slice A (pickK pd (k + 1)).length cp) (pickK pd (k + 1)).length (flat intC (pickK pd (k + 1)))) := by
          refine Lib.hid ?_; rw [HS.out, if_neg (by simp [hp])]; exact HO.out
        have hl9 : (pickK pd (k + 1)).length = (pickK pd k).length := by rw [HS.out, if_neg (by simp [hp])]
        have HL9 := Lib.hid hl9
        clear hl9
        go_wp2
        go_roundg (gk - 1)
        case measure => omega
        case rel => exact ⟨k + 1, A, cp, by omega, by go_num, by rw [HL9.out], HX.out, HB.out⟩
    · have hge : ¬ (k : Int) < (c.cells.length : Int) := by omega
      obtain rfl : k = c.cells.length := by omega
      go_wp2
      go_ret
      exact ⟨A, cp, rfl, own_base HO.out (Nat.le_of_lt hgc), HL1.out.trans (HB.out.mono (Nat.le_of_lt hgc))⟩
end Go.Proofs.YtjobcfpnmfjlfaaGreat

namespace Go.Proofs.YtjobcfpnmfjlfaaGreat
open Go.RowKit
set_option linter.unusedSimpArgs false
set_option linter.unusedVariables false

/-! state.Apply: a state in rows of its own. -/
def ctRefused : CT := fun vs mem nx K => ∃ N x c M y s e, vs = [cfgV N x c, stV M y s, entV' e] ∧ keeps mem (cfgM N c) ∧ (HasRow mem M.t 12 tsC default s.tenants ∧ HasRow mem M.c 4 csC default s.cells) ∧ CfgV c ∧ StInv c s ∧ K (.int .i64 (refusedE c s e)) mem nx
theorem refusedOk : CSound Tryz.prog 39 ctRefused := ⟨by kernel_rfl, fun {C ρ fr mem nx a w vs K} hc hs hv => by
  obtain ⟨N, x, c, M, y, s, e, rfl, hk, ⟨h1, h2⟩, hV, hI, hK⟩ := hc
  rw [List.map_cons, den_cfg, List.map_cons, den_st, List.map_cons, (pure_den (pure_ent e) _ 0).1]
  refine (stRefused_any (cfgX ρ N x) c (stX ρ M y) s e w hV (hs.cfg hk (fun b hb _ => hb)) hI (hs.stRow h1 h2)).mono ?_
  rintro r w' ⟨rfl, hb⟩
  exact ⟨.int .i64 (refusedE c s e), mem, nx, ρ, rfl, hK, hs.later hb, trivial, ExtS.refl _ _⟩⟩
def ctOverP : CT := fun vs mem nx K => ∃ N x c M y s, vs = [cfgV N x c, stV M y s] ∧ keeps mem (cfgM N c) ∧ (HasRow mem M.t 12 tsC default s.tenants ∧ HasRow mem M.c 4 csC default s.cells) ∧ CfgV c ∧ StInv c s ∧ ∀ cp, K (slc nx (over c s).length cp) ((nx, rowOfL 500000 1 intC 0 (over c s)) :: mem) (nx + 1)
theorem overPOk : CSound Tryz.prog 42 ctOverP := ⟨by kernel_rfl, fun {C ρ fr mem nx a w vs K} hc hs hv => by
  obtain ⟨N, x, c, M, y, s, rfl, hk, ⟨h1, h2⟩, hV, hI, hK⟩ := hc
  rw [List.map_cons, den_cfg, List.map_cons, den_st]
  refine (ldOver_any (cfgX ρ N x) c (stX ρ M y) s w hV (hs.cfg hk (fun b hb _ => hb)) hI (hs.stRow h1 h2)).mono ?_
  rintro e w' ⟨A, cp, rfl, ho, hb⟩
  obtain ⟨q1, -⟩ := (hs.later hb).addList hs.frB hs.rest.size (enc := intC) (sz := 1) (fun _ => rfl) (by omega) intC_plain 0 (t := 500000) rfl (Rd.of_own ho)
  have q2 : setPl ρ nx ⟨A, 1, (over c s).length, false⟩ nx = ⟨A, 1, (over c s).length, false⟩ := setPl_same _ _ _
  refine ⟨slc nx (over c s).length cp, _, _, setPl ρ nx ⟨A, 1, (over c s).length, false⟩, ?_, hK cp, q1, ?_, fun i hi => setPl_lt _ _ hi, by omega⟩
  · show Ending.returned (.slice A (over c s).length cp) = .returned (.slice (setPl ρ nx ⟨A, 1, (over c s).length, false⟩ nx).A (over c s).length cp)
    rw [q2]
  · exact ⟨show nx < nx + 1 by omega, by rw [q2]⟩⟩
def apF : FT := [(39, ctRefused), (40, ctEff), (41, ctInl tt [] [] Tryz.f41 (bodyOf Tryz.f41)), (42, ctOverP)]
def apD : List (Nat × DQ) := [(9000000, { k := 0, L := [41] })]
theorem apFok : FTokI Tryz.prog apF (inlOf apD) := fti_cons (refusedOk.i _) (fti_cons (effOk.i _) (fti_cons (inl_ok ttOk fti_nil mixed (by kernel_rfl) Tryz.func41 rfl (by kernel_rfl) (by decide)) (fti_cons (overPOk.i _) fti_nil)))
theorem over_pos (c : Cfg) (s : St) : overB c s = decide (0 < (over c s).length) := by
  unfold overB over
  rw [List.length_map]
  cases h : (List.range c.cells.length).any fun i => decide ((c.cells.getD i (0, 0)).2 < (booked c s).getD i 0)
  · rw [List.any_eq_false] at h
    have : ((List.range c.cells.length).filter fun i => decide ((c.cells.getD i (0, 0)).2 < (booked c s).getD i 0)) = [] := List.filter_eq_nil_iff.2 h
    rw [this]
    rfl
  · rw [List.any_eq_true] at h
    obtain ⟨i, hi, hp⟩ := h
    have : i ∈ (List.range c.cells.length).filter fun i => decide ((c.cells.getD i (0, 0)).2 < (booked c s).getD i 0) := List.mem_filter.2 ⟨hi, hp⟩
    have := List.length_pos_of_mem this
    exact (decide_eq_true this).symm
theorem applyP_over {c : Cfg} {s : St} {e : Ent} (h : refusedE c s e = 0) (hb : booksB e = true) (ho : 0 < (over c (effOf s e)).length) : applyP c s e = (St.zero, 10) := by
  unfold applyP
  rw [if_neg (by omega), if_pos ⟨hb, by rw [over_pos]; simpa using ho⟩]
theorem applyP_fine {c : Cfg} {s : St} {e : Ent} (h : refusedE c s e = 0) (hb : booksB e = true → ¬ 0 < (over c (effOf s e)).length) : applyP c s e = (effOf s e, 0) := by
  unfold applyP
  rw [if_neg (by omega), if_neg]
  rintro ⟨h1, h2⟩
  rw [over_pos] at h2
  exact hb h1 (by simpa using h2)
/-- What Apply hands back. -/
def ApR (mem' : AM) (v : Value) (p : St × Int) : Prop := ∃ T Cc, v = .tuple #[.agg #[.int .i64 p.1.tick, .int .i64 p.1.count, T, Cc, .int .i64 p.1.proven, .int .i64 p.1.evac, .int .i64 p.1.low, .int .i64 p.1.high], .int .i64 p.2] ∧
  ((p.1 = St.zero ∧ T = zs0 ∧ Cc = zs0) ∨ ∃ rT rC, rT ≠ rC ∧ SlO mem' 12 tsC default p.1.tenants T rT ∧ SlO mem' 4 csC default p.1.cells Cc rC)
set_option maxRecDepth 100000 in
set_option maxHeartbeats 4000000 in
theorem apply_sx (x : CfgK) (c : Cfg) (y : StK) (s : St) (e : Ent) (hV : CfgV c) (hI : StInv c s) :
    sx tt apF apD (bodyOf Tryz.f15) (argF 0 [cfgV CN1 x c, stV SN1 y s, entV' e]) (rdM c s noS) 10 (endx tt Tryz.f15.results.toList fun v mem' _ => ApR mem' v (applyP c s e)) := by
  refine ⟨CN1, x, c, SN1, y, s, e, rfl, (by repeat (first | exact trivial | refine ⟨rfl, ?_⟩)), ⟨.list rfl, .list rfl⟩, hV, hI, ?_⟩
  refine ⟨fun hr => ?_, fun hr => ?_⟩
  · have hr : refusedE c s e ≠ 0 := by simpa using hr
    refine ⟨zs0, zs0, ?_, .inl ⟨?_, rfl, rfl⟩⟩
    · unfold applyP; rw [if_pos hr]; rfl
    · unfold applyP; rw [if_pos hr]
  · have hr : refusedE c s e = 0 := by simpa using hr
    have ha := acc_of hr
    refine ⟨_, y, s, e, rfl, ⟨.list rfl, .list rfl⟩, ⟨c, hV, hI, ha⟩, ?_⟩
    intro y2
    repeat' (first | refine ⟨fun _ => ?_, fun h => Bool.noConfusion h⟩ | refine ⟨fun h => Bool.noConfusion h, fun _ => ?_⟩ | refine ⟨CN1, x, c, ⟨15, 14, 0⟩, y2, effOf s e, rfl, (by repeat (first | exact trivial | refine ⟨rfl, ?_⟩)), ⟨.list rfl, .list rfl⟩, hV, hI.step hV hr, ?_⟩ | intro cp | refine ⟨fun _ => ?_, fun _ => ?_⟩ | fail)
    all_goals first
      | (have hq := applyP_over (c := c) (s := s) (e := e) hr (by unfold booksB; grind) (by grind)
         exact ⟨zs0, zs0, (by rw [hq]; rfl), .inl ⟨by rw [hq], rfl, rfl⟩⟩)
      | (have hq := applyP_fine (c := c) (s := s) (e := e) hr (by unfold booksB; grind)
         exact ⟨slc 15 (effOf s e).tenants.length y2.ct, slc 14 (effOf s e).cells.length y2.cc, (by rw [hq]), .inr ⟨15, 14, by decide, (by rw [hq]; exact ⟨_, _, _, _, _, rfl, rfl, rfl, rfl, Nat.le_refl _, fun k hk => rfl⟩), (by rw [hq]; exact ⟨_, _, _, _, _, rfl, rfl, rfl, rfl, Nat.le_refl _, fun k hk => rfl⟩)⟩⟩)
      | fail
theorem stApplyO_any (x : CfgA) (c : Cfg) (y : StA) (s : St) (e : Ent) (w : World) (hV : CfgV c) (hc : CfgOk w (· < w.heap.size) x c) (hI : StInv c s) (hs : StOk w (· < w.heap.size) y s) :
    Calls Tryz.prog 15 #[.agg (cfgC x c), .agg (stC y s), .agg (entC e).toArray] w fun r w' => ∃ y2, r = .returned (.tuple #[.agg (stC y2 (applyP c s e).1), .int .i64 (applyP c s e).2]) ∧ StOwn2 w.heap.size w' y2 (applyP c s e).1 ∧ Below w.heap.size w w' := by
  have := rd_callsM ttOk apFok Tryz.func15 rfl (D := apD) (by kernel_rfl) (vs := [cfgV CN1 (ck x) c, stV SN1 (sk y) s, entV' e]) rfl x c y s noA noS w hc hs (noS_ok w _) (fun v hv => by
    simp only [List.mem_cons, List.not_mem_nil, or_false] at hv
    rcases hv with rfl | rfl | rfl
    · exact rpl_cfg_ok x c y s noA noS
    · exact rpl_st_ok x c y s noA noS
    · exact (pure_den (pure_ent e) _ _).2) (apply_sx (ck x) c (sk y) s e hV hI)
  rw [List.map_cons, rpl_cfg, List.map_cons, rpl_st, List.map_cons, (pure_den (pure_ent e) _ 0).1] at this
  refine this.mono ?_
  rintro r w' ⟨v, mem', nx', ρ', rfl, ⟨T, Cc, rfl, hr⟩, hv, hm', hb⟩
  have key : ∃ y2, den2 ρ' (.agg #[.int .i64 (applyP c s e).1.tick, .int .i64 (applyP c s e).1.count, T, Cc, .int .i64 (applyP c s e).1.proven, .int .i64 (applyP c s e).1.evac, .int .i64 (applyP c s e).1.low, .int .i64 (applyP c s e).1.high]) = .agg (stC y2 (applyP c s e).1) ∧ StOwn2 w.heap.size w' y2 (applyP c s e).1 := by
    rcases hr with ⟨h0, rfl, rfl⟩ | ⟨rT, rC, hne, hT, hC⟩
    · rw [h0]; exact ⟨noA, by simp [den2, den1, stC, noA, St.zero], StOwn2.zero _ _⟩
    · exact hm'.own2 rfl hne hT hC
  obtain ⟨y2, e1, e2⟩ := key
  refine ⟨y2, ?_, e2, hb⟩
  rw [← e1]
  have d : ∀ z, den2 ρ' (.int .i64 z) = .int .i64 z := fun _ => rfl
  simp only [den, List.map_toArray, List.map_cons, List.map_nil, d]
/-- As a contract: rows of the caller's own. -/
def ctApplyO : CT := fun vs mem nx K => ∃ N x c M y s e, vs = [cfgV N x c, stV M y s, entV' e] ∧ keeps mem (cfgM N c) ∧ (HasRow mem M.t 12 tsC default s.tenants ∧ HasRow mem M.c 4 csC default s.cells) ∧ CfgV c ∧ StInv c s ∧ ∀ y2, K (.tuple #[stV ⟨nx + 1, nx, 0⟩ y2 (applyP c s e).1, .int .i64 (applyP c s e).2]) (stMO ⟨nx + 1, nx, 0⟩ (applyP c s e).1 ++ mem) (nx + 2)
theorem applyOOk : CSound Tryz.prog 15 ctApplyO := ⟨by kernel_rfl, fun {C ρ fr mem nx a w vs K} hc hs hv => by
  obtain ⟨N, x, c, M, y, s, e, rfl, hk1, ⟨h1, h2⟩, hV, hI, hK⟩ := hc
  rw [List.map_cons, den_cfg, List.map_cons, den_st, List.map_cons, (pure_den (pure_ent e) _ 0).1]
  refine (stApplyO_any (cfgX ρ N x) c (stX ρ M y) s e w hV (hs.cfg hk1 (fun b h _ => h)) hI (hs.stRow h1 h2)).mono ?_
  rintro r w' ⟨y2, rfl, ho, hb⟩
  obtain ⟨q1, q2, q3, q4⟩ := hs.addOwnSt hb ho
  refine ⟨.tuple #[stV ⟨nx + 1, nx, 0⟩ ⟨y2.ct, y2.cc⟩ (applyP c s e).1, .int .i64 (applyP c s e).2], _, _, _, ?_, hK ⟨y2.ct, y2.cc⟩, q1, ?_, q4⟩
  · rw [← q2]
    simp [den, den2, den1]
  · intro u hu
    simp at hu
    rcases hu with rfl | rfl
    · exact q3
    · trivial⟩
end Go.Proofs.YtjobcfpnmfjlfaaGreat

namespace Go.Proofs.YtjobcfpnmfjlfaaGreat
open Go.RowKit
set_option linter.unusedSimpArgs false
set_option linter.unusedVariables false

def ctApply : CT := fun vs mem nx K => ∃ N x c M y s e, vs = [cfgV N x c, stV M y s, entV' e] ∧ keeps mem (cfgM N c) ∧ keeps mem (stM M s) ∧ CfgV c ∧ StInv c s ∧ ∀ y2, K (.tuple #[stV ⟨nx + 1, nx, 500000⟩ y2 (applyP c s e).1, .int .i64 (applyP c s e).2]) (stM ⟨nx + 1, nx, 500000⟩ (applyP c s e).1 ++ mem) (nx + 2)
theorem applyOk : CSound Tryz.prog 15 ctApply := ⟨by kernel_rfl, fun {C ρ fr mem nx a w vs K} hc hs hv => by
  obtain ⟨N, x, c, M, y, s, e, rfl, hk1, hk2, hV, hI, hK⟩ := hc
  have e0 : ([cfgV N x c, stV M y s, entV' e].map (den ρ)).toArray = #[.agg (cfgC (cfgX ρ N x) c), .agg (stC (stX ρ M y) s), .agg (entC e).toArray] := by
    rw [List.map_cons, List.map_cons, List.map_cons, den_cfg, den_st]
    simp [den, den2, den1, entC]
  rw [e0]
  refine (stApplyO_any (cfgX ρ N x) c (stX ρ M y) s e w hV (hs.cfg hk1 (fun b h _ => h)) hI (hs.st hk2 (fun b h _ => h))).mono ?_
  rintro r w' ⟨y2, rfl, ho, hb⟩
  obtain ⟨q1, q2, q3, q4⟩ := hs.addSt hb (s := (applyP c s e).1) ho.ok
  refine ⟨.tuple #[stV ⟨nx + 1, nx, 500000⟩ ⟨y2.ct, y2.cc⟩ (applyP c s e).1, .int .i64 (applyP c s e).2], _, _, _, ?_, hK ⟨y2.ct, y2.cc⟩, q1, ?_, q4⟩
  · rw [← q2]
    simp [den, den2, den1]
  · intro u hu
    simp at hu
    rcases hu with rfl | rfl
    · exact q3
    · trivial⟩
end Go.Proofs.YtjobcfpnmfjlfaaGreat

namespace Go.Proofs.YtjobcfpnmfjlfaaGreat
open Go.RowKit
set_option linter.unusedSimpArgs false
set_option linter.unusedVariables false

/-! state.Fold -/
def foldGo (c : Cfg) : Int → St → List Ent → St × Int × Int
  | i, s, [] => (s, i, 0)
  | i, s, e :: r => if (applyP c s e).2 ≠ 0 then (s, i, (applyP c s e).2) else foldGo c (i + 1) (applyP c s e).1 r
def foldC (c : Cfg) (es : List Ent) : St × Int × Int := foldGo c 0 (stNew c) es
def foF : FT := [(38, ctNewS), (15, ctApply)]
theorem foFok : FTok Tryz.prog foF := ft_cons newSOk (ft_cons applyOk ft_nil)
def foD : List (Nat × DQ) := [(3000003, { k := 14, L := [0, 1, 2, 3, 4, 5, 6, 7, 8], sl := [1, 2, 4, 7, 14, 15] })]
abbrev foM (c : Cfg) (es : List Ent) : AM := cfgM CN1 c ++ [(6, rowOfL 3 9 entC default es)]
set_option maxRecDepth 100000 in
set_option maxHeartbeats 4000000 in
theorem fold_sx (x : CfgK) (c : Cfg) (cap : Nat) (es : List Ent) (hV : CfgV c) (hl : es.length ≤ 1000000) :
    sx tt foF foD (bodyOf Tryz.f14) (argF 0 [cfgV CN1 x c, slc 6 es.length cap]) (foM c es) 7 (endx tt Tryz.f14.results.toList fun v mem' _ => ∃ y, v = .tuple #[stV ⟨12, 13, 500000⟩ y (foldC c es).1, .int .i64 (foldC c es).2.1, .int .i64 (foldC c es).2.2] ∧ keeps mem' (stM ⟨12, 13, 500000⟩ (foldC c es).1)) := by
  have hnt := hV.nt
  have hnc := hV.nc
  refine ⟨CN1, x, c, rfl, ⟨rfl, rfl, rfl, rfl, rfl, rfl, trivial⟩, ⟨by omega, by omega⟩, ?_⟩
  intro y0
  refine ⟨St × StK × Int, fun q => match q with | (s, y, i) => [(16, .int .i64 i)], fun q => match q with | (s, y, i) => [(11, .box 38 [.int .i64 s.tick, .int .i64 s.count, slc 12 s.tenants.length y.ct, slc 13 s.cells.length y.cc, .int .i64 s.proven, .int .i64 s.evac, .int .i64 s.low, .int .i64 s.high]), (12, rowOfL 500000 12 tsC default s.tenants), (13, rowOfL 500000 4 csC default s.cells)], fun q => match q with | (s, y, i) => StInv c s ∧ (0 ≤ i ∧ i ≤ es.length) ∧ foldGo c i s (es.drop i.toNat) = foldC c es, fun q => match q with | (s, y, i) => ((es.length : Int) - i).toNat, ⟨(stNew c, y0, 0), [(12, 10), (13, 9)], ⟨stNew_inv hV, by omega, rfl⟩, ⟨rfl, rfl⟩, ⟨rfl, rfl, rfl, rfl, rfl, rfl, rfl, trivial⟩, ⟨rfl, rfl, rfl, rfl, rfl, rfl, rfl, rfl, rfl, rfl, rfl, rfl, trivial⟩⟩, ?_⟩
  rintro ⟨s, y, i⟩ ⟨hI, hi, hf⟩
  refine ⟨⟨by decide, rfl, rfl⟩, ?_⟩
  refine ⟨fun hlt => ?_, fun hge => ?_⟩
  · have hlt2 : i < (es.length : Int) := of_decide_eq_true hlt
    have hd : es.drop i.toNat = es.getD i.toNat default :: es.drop (i + 1).toNat := by
      rw [show (i + 1).toNat = i.toNat + 1 by omega, ← List.getElem_cons_drop (show i.toNat < es.length by omega)]
      congr 1
      rw [List.getD_eq_getElem?_getD, List.getElem?_eq_getElem (show i.toNat < es.length by omega)]
      rfl
    rw [hd] at hf
    refine ⟨⟨Nat.le_refl _, hi.1, hlt2⟩, ?_⟩
    refine ⟨CN1, x, c, ⟨12, 13, 500000⟩, y, s, es.getD i.toNat default, rfl, ⟨rfl, rfl, rfl, rfl, rfl, rfl, trivial⟩, ⟨rfl, rfl, trivial⟩, hV, hI, ?_⟩
    intro y2
    generalize es.getD i.toNat default = e at hf ⊢
    refine ⟨fun he => ?_, fun he => ?_⟩
    · have he2 : (applyP c s e).2 ≠ 0 := by simpa using he
      rw [foldGo, if_pos he2] at hf
      rw [← hf]
      exact ⟨y, rfl, ⟨rfl, rfl, trivial⟩⟩
    · have he2 : (applyP c s e).2 = 0 := by simpa using he
      rw [foldGo, if_neg (fun h => h he2)] at hf
      have hr := (applyP_ok (c := c) (s := s) (e := e) (x := (applyP c s e).1) (by rw [← he2]))
      refine ⟨((applyP c s e).1, y2, _), [(12, 16), (13, 15)], ?_, ⟨rfl, rfl⟩, ⟨rfl, rfl, rfl, rfl, rfl, rfl, rfl, trivial⟩, ⟨rfl, rfl, rfl, rfl, rfl, rfl, rfl, rfl, rfl, rfl, rfl, rfl, trivial⟩⟩
      dsimp only
      rw [wrapi (n := i + 1) (by omega)]
      exact ⟨⟨by rw [hr.2.1]; exact hI.step hV hr.1, by omega, hf⟩, by omega⟩
  · have hge2 : ¬ i < (es.length : Int) := of_decide_eq_false hge
    obtain rfl : i = es.length := by omega
    rw [Int.toNat_natCast, List.drop_length] at hf
    rw [foldGo] at hf
    rw [← hf]
    exact ⟨y, rfl, ⟨rfl, rfl, trivial⟩⟩
end Go.Proofs.YtjobcfpnmfjlfaaGreat

namespace Go.Proofs.YtjobcfpnmfjlfaaGreat
open Go.RowKit
set_option linter.unusedSimpArgs false
set_option linter.unusedVariables false

/-- What a kind uses, as letters. -/
def usesL (k : Int) : List UInt8 :=
  if k = 1 then [116, 99, 111] else if k = 2 then [116, 99, 101, 119, 118] else if k = 3 then [116, 101] else if k = 4 then [116, 67] else if k = 5 then [116, 99] else if k = 6 then [116, 99] else if k = 7 then [116]
  else if k = 8 then [116, 98] else if k = 9 then [99, 109] else if k = 10 then [99, 118] else if k = 11 then [99, 118] else if k = 12 then [118] else if k = 13 then [114, 98] else if k = 16 then [110] else []
def hasK (k : Int) (c : UInt8) : Bool := (usesL k).contains c

set_option maxHeartbeats 1000000 in
theorem r6uses_any (k : Int) (w : World) (h1 : 1 ≤ k) (h2 : k ≤ 16) :
    Calls Tryz.prog 121 #[.int .i64 k] w fun e w' => e = .returned (.string ⟨(usesL k).toArray⟩) ∧ Below w.heap.size w w' := by
  have hk : k = 1 ∨ k = 2 ∨ k = 3 ∨ k = 4 ∨ k = 5 ∨ k = 6 ∨ k = 7 ∨ k = 8 ∨ k = 9 ∨ k = 10 ∨ k = 11 ∨ k = 12 ∨ k = 13 ∨ k = 14 ∨ k = 15 ∨ k = 16 := by omega
  clear h1 h2
  rcases hk with rfl | rfl | rfl | rfl | rfl | rfl | rfl | rfl | rfl | rfl | rfl | rfl | rfl | rfl | rfl | rfl
  all_goals
    go_enter Tryz.func121, Tryz.ntmps121
    go_wp2
    go_ret
    exact ⟨rfl, (Below.refl _ _).alloc (Nat.le_refl _) _⟩

theorem ite_len {p : Prop} [Decidable p] {a b : List UInt8} (ha : a.length ≤ 5) (hb : b.length ≤ 5) : (if p then a else b).length ≤ 5 := by split <;> assumption
theorem usesL_len (k : Int) : (usesL k).length ≤ 5 := by unfold usesL; repeat' (first | refine ite_len ?_ ?_ | decide)

set_option maxHeartbeats 1000000 in
theorem r6has_any (k : Int) (c : UInt8) (w : World) (h1 : 1 ≤ k) (h2 : k ≤ 16) :
    Calls Tryz.prog 114 #[.int .i64 k, .int .u8 (c.toNat)] w fun e w' => e = .returned (.bool (hasK k c)) ∧ Below w.heap.size w w' := by
  have hlen := usesL_len k
  go_enter Tryz.func114, Tryz.ntmps114
  go_wp2_with fail
  refine (r6uses_any k w h1 h2).mono ?_
  rintro e w1 ⟨rfl, hb⟩
  have HB := Lib.hid hb
  have HK : Hid (hasK k c = (usesL k).contains c) := Lib.hid rfl
  clear hb
  generalize usesL k = l at *
  go_wp2
  go_loop [6] (fun i => ∃ n : Nat, n ≤ l.length ∧ i = .int .i64 n ∧ (l.take n).contains c = false) (fun i => l.length - (intOf i).toNat)
  case atStart => exact ⟨0, Nat.zero_le _, rfl, rfl⟩
  case round =>
    obtain ⟨n, hn, rfl, hno⟩ := hrel
    have HN := Lib.hid hno
    clear hno
    by_cases hlt : n < l.length
    · go_wp2
      · have h := ‹(_ == _) = true›
        have hz : l[n] = c := by
          have h' := eq_of_beq h
          apply UInt8.toNat_inj.1
          exact Int.ofNat.inj h'
        go_ret
        refine ⟨ret_bool ?_, HB.out⟩
        rw [HK.out]
        exact (List.contains_iff_mem.2 (hz ▸ List.getElem_mem hlt)).symm
      · have h := ‹(_ == _) = false›
        have hz : l[n] ≠ c := by
          intro h'
          have : l[n].toNat = c.toNat := by rw [h']
          exact (beq_eq_false_iff_ne.1 h) (congrArg Int.ofNat this)
        go_round
        case rel =>
          refine ⟨n + 1, by omega, by go_num, ?_⟩
          have := HN.out
          rw [List.take_succ_eq_append_getElem hlt, Bool.eq_false_iff]
          intro hc
          rw [List.contains_iff_mem, List.mem_append] at hc
          rcases hc with hc | hc
          · rw [List.contains_iff_mem.2 hc] at this
            cases this
          · exact hz (List.mem_singleton.1 hc).symm
        case measure => simp [intOf]; omega
    · go_wp2
      go_ret
      refine ⟨ret_bool ?_, HB.out⟩
      have := HN.out
      rw [List.take_of_length_le (by omega)] at this
      rw [HK.out, this]

set_option maxHeartbeats 400000 in
theorem r6in_any (n lo hi : Int) (w : World) :
    Calls Tryz.prog 97 #[.int .i64 n, .int .i64 lo, .int .i64 hi] w fun e w' => e = .returned (.bool (inR n lo hi)) ∧ w = w' := by
  go_enter Tryz.func97, Tryz.ntmps97
  go_wp2
  all_goals
    go_ret
    refine ⟨ret_bool ?_, rfl⟩
    go_light
    simp [inR, *] <;> omega

/-- What places answers, by what the kind uses. -/
def placesR (t c C o r : Bool) (e : Ent) (nt nc nr : Int) : Bool :=
  if (t != decide (e.tenant ≠ -1)) || (t && !inR e.tenant 0 (nt - 1)) then false
  else if (c && !inR e.cell 0 (nc - 1)) || (C && !inR e.cell (-1) (nc - 1)) || (!c && !C && decide (e.cell ≠ -1)) then false
  else if (o && (!inR e.other (-1) (nc - 1) || decide (e.other = e.cell))) || (r && !inR e.other 0 (nr - 1)) || (!o && !r && decide (e.other ≠ -1)) then false
  else true
def numbersR (e_ w_ v b m n : Bool) (e : Ent) (nv : Int) : Bool :=
  if (e_ && !inR e.epoch 1 1048576) || (!e_ && decide (e.epoch ≠ 0)) then false
  else if (w_ && (!inR e.since 0 1073741824 || !inR e.till 0 1073741824)) || (!w_ && (decide (e.since ≠ 0) || decide (e.till ≠ 0))) then false
  else if v then inR e.n 0 (nv - 1) else if b then inR e.n 0 1 else if m then inR e.n 1 3 else if n then inR e.n 0 1073741824 else decide (e.n = 0)

set_option maxHeartbeats 2000000 in
set_option maxRecDepth 100000 in
theorem r6numbers_any (e : Ent) (nv : Int) (w : World) (h1 : 1 ≤ e.kind) (h2 : e.kind ≤ 16) (hv : 0 ≤ nv) (hv2 : nv ≤ 100) :
    Calls Tryz.prog 99 #[.agg (entC e).toArray, .int .i64 nv] w fun x w' => x = .returned (.bool (numbersR (hasK e.kind 101) (hasK e.kind 119) (hasK e.kind 118) (hasK e.kind 98) (hasK e.kind 109) (hasK e.kind 110) e nv)) ∧ Below w.heap.size w w' := by
  obtain ⟨kind, tick, tenant, cell, other, epoch, since, till, n⟩ := e
  unfold entC
  simp only at *
  have HC : Hid (∀ (c : UInt8) (n : Int), (c.toNat : Int) = n → ∀ W, Calls Tryz.prog 114 #[.int .i64 kind, .int .u8 n] W fun e w' => e = .returned (.bool (hasK kind c)) ∧ Below W.heap.size W w') := Lib.hid (fun c n hn W => hn ▸ r6has_any kind c W h1 h2)
  have hbx := Blk.new w 45 #[.int .i64 kind, .int .i64 tick, .int .i64 tenant, .int .i64 cell, .int .i64 other, .int .i64 epoch, .int .i64 since, .int .i64 till, .int .i64 n]
  have hbel := (Below.refl w.heap.size w).alloc (Nat.le_refl _) (.cells #[.int .i64 kind, .int .i64 tick, .int .i64 tenant, .int .i64 cell, .int .i64 other, .int .i64 epoch, .int .i64 since, .int .i64 till, .int .i64 n] 45)
  have c0 := hbx.cell' (i := 0) (v := .int .i64 kind) rfl
  have c1 := hbx.cell' (i := 1) (v := .int .i64 tick) rfl
  have c2 := hbx.cell' (i := 2) (v := .int .i64 tenant) rfl
  have c3 := hbx.cell' (i := 3) (v := .int .i64 cell) rfl
  have c4 := hbx.cell' (i := 4) (v := .int .i64 other) rfl
  have c5 := hbx.cell' (i := 5) (v := .int .i64 epoch) rfl
  have c6 := hbx.cell' (i := 6) (v := .int .i64 since) rfl
  have c7 := hbx.cell' (i := 7) (v := .int .i64 till) rfl
  have c8 := hbx.cell' (i := 8) (v := .int .i64 n) rfl
  go_enter Tryz.func99, Tryz.ntmps99
  go_wp2_with fail
  generalize w.alloc _ = W at *
  go_wp2_with (first
    | (go_at_call 114; (with_reducible refine (HC.out 101 101 rfl _).mono ?_); rintro x wq ⟨rfl, hbq⟩; replace hbel := hbel.trans (hbq.mono hbel.size); replace hbx := hbx.below hbq hbx.lt; clear hbq; replace c0 := hbx.cell' (i := 0) (v := .int .i64 kind) rfl; replace c1 := hbx.cell' (i := 1) (v := .int .i64 tick) rfl; replace c2 := hbx.cell' (i := 2) (v := .int .i64 tenant) rfl; replace c3 := hbx.cell' (i := 3) (v := .int .i64 cell) rfl; replace c4 := hbx.cell' (i := 4) (v := .int .i64 other) rfl; replace c5 := hbx.cell' (i := 5) (v := .int .i64 epoch) rfl; replace c6 := hbx.cell' (i := 6) (v := .int .i64 since) rfl; replace c7 := hbx.cell' (i := 7) (v := .int .i64 till) rfl; replace c8 := hbx.cell' (i := 8) (v := .int .i64 n) rfl)
    | (go_at_call 114; (with_reducible refine (HC.out 119 119 rfl _).mono ?_); rintro x wq ⟨rfl, hbq⟩; replace hbel := hbel.trans (hbq.mono hbel.size); replace hbx := hbx.below hbq hbx.lt; clear hbq; replace c0 := hbx.cell' (i := 0) (v := .int .i64 kind) rfl; replace c1 := hbx.cell' (i := 1) (v := .int .i64 tick) rfl; replace c2 := hbx.cell' (i := 2) (v := .int .i64 tenant) rfl; replace c3 := hbx.cell' (i := 3) (v := .int .i64 cell) rfl; replace c4 := hbx.cell' (i := 4) (v := .int .i64 other) rfl; replace c5 := hbx.cell' (i := 5) (v := .int .i64 epoch) rfl; replace c6 := hbx.cell' (i := 6) (v := .int .i64 since) rfl; replace c7 := hbx.cell' (i := 7) (v := .int .i64 till) rfl; replace c8 := hbx.cell' (i := 8) (v := .int .i64 n) rfl)
    | (go_at_call 114; (with_reducible refine (HC.out 118 118 rfl _).mono ?_); rintro x wq ⟨rfl, hbq⟩; replace hbel := hbel.trans (hbq.mono hbel.size); replace hbx := hbx.below hbq hbx.lt; clear hbq; replace c0 := hbx.cell' (i := 0) (v := .int .i64 kind) rfl; replace c1 := hbx.cell' (i := 1) (v := .int .i64 tick) rfl; replace c2 := hbx.cell' (i := 2) (v := .int .i64 tenant) rfl; replace c3 := hbx.cell' (i := 3) (v := .int .i64 cell) rfl; replace c4 := hbx.cell' (i := 4) (v := .int .i64 other) rfl; replace c5 := hbx.cell' (i := 5) (v := .int .i64 epoch) rfl; replace c6 := hbx.cell' (i := 6) (v := .int .i64 since) rfl; replace c7 := hbx.cell' (i := 7) (v := .int .i64 till) rfl; replace c8 := hbx.cell' (i := 8) (v := .int .i64 n) rfl)
    | (go_at_call 114; (with_reducible refine (HC.out 98 98 rfl _).mono ?_); rintro x wq ⟨rfl, hbq⟩; replace hbel := hbel.trans (hbq.mono hbel.size); replace hbx := hbx.below hbq hbx.lt; clear hbq; replace c0 := hbx.cell' (i := 0) (v := .int .i64 kind) rfl; replace c1 := hbx.cell' (i := 1) (v := .int .i64 tick) rfl; replace c2 := hbx.cell' (i := 2) (v := .int .i64 tenant) rfl; replace c3 := hbx.cell' (i := 3) (v := .int .i64 cell) rfl; replace c4 := hbx.cell' (i := 4) (v := .int .i64 other) rfl; replace c5 := hbx.cell' (i := 5) (v := .int .i64 epoch) rfl; replace c6 := hbx.cell' (i := 6) (v := .int .i64 since) rfl; replace c7 := hbx.cell' (i := 7) (v := .int .i64 till) rfl; replace c8 := hbx.cell' (i := 8) (v := .int .i64 n) rfl)
    | (go_at_call 114; (with_reducible refine (HC.out 109 109 rfl _).mono ?_); rintro x wq ⟨rfl, hbq⟩; replace hbel := hbel.trans (hbq.mono hbel.size); replace hbx := hbx.below hbq hbx.lt; clear hbq; replace c0 := hbx.cell' (i := 0) (v := .int .i64 kind) rfl; replace c1 := hbx.cell' (i := 1) (v := .int .i64 tick) rfl; replace c2 := hbx.cell' (i := 2) (v := .int .i64 tenant) rfl; replace c3 := hbx.cell' (i := 3) (v := .int .i64 cell) rfl; replace c4 := hbx.cell' (i := 4) (v := .int .i64 other) rfl; replace c5 := hbx.cell' (i := 5) (v := .int .i64 epoch) rfl; replace c6 := hbx.cell' (i := 6) (v := .int .i64 since) rfl; replace c7 := hbx.cell' (i := 7) (v := .int .i64 till) rfl; replace c8 := hbx.cell' (i := 8) (v := .int .i64 n) rfl)
    | (go_at_call 114; (with_reducible refine (HC.out 110 110 rfl _).mono ?_); rintro x wq ⟨rfl, hbq⟩; replace hbel := hbel.trans (hbq.mono hbel.size); replace hbx := hbx.below hbq hbx.lt; clear hbq; replace c0 := hbx.cell' (i := 0) (v := .int .i64 kind) rfl; replace c1 := hbx.cell' (i := 1) (v := .int .i64 tick) rfl; replace c2 := hbx.cell' (i := 2) (v := .int .i64 tenant) rfl; replace c3 := hbx.cell' (i := 3) (v := .int .i64 cell) rfl; replace c4 := hbx.cell' (i := 4) (v := .int .i64 other) rfl; replace c5 := hbx.cell' (i := 5) (v := .int .i64 epoch) rfl; replace c6 := hbx.cell' (i := 6) (v := .int .i64 since) rfl; replace c7 := hbx.cell' (i := 7) (v := .int .i64 till) rfl; replace c8 := hbx.cell' (i := 8) (v := .int .i64 n) rfl)
    | (go_at_call 97; (with_reducible refine (r6in_any _ _ _ _).mono ?_); rintro x wq ⟨rfl, rfl⟩)
    )
  all_goals
    go_ret
    refine ⟨ret_bool ?_, hbel⟩
    go_light
    clear hbx hbel c0 c1 c2 c3 c4 c5 c6 c7 c8 HC
    simp_all [numbersR] <;> (rw [Bool.eq_iff_iff]; simp)

end Go.Proofs.YtjobcfpnmfjlfaaGreat

namespace Go.Proofs.YtjobcfpnmfjlfaaGreat
open Go.RowKit
set_option linter.unusedSimpArgs false
set_option linter.unusedVariables false

set_option maxHeartbeats 4000000 in
set_option maxRecDepth 100000 in
theorem r6places_any (e : Ent) (nt nc nr : Int) (w : World) (h1 : 1 ≤ e.kind) (h2 : e.kind ≤ 16) (hv : 0 ≤ nt) (hv2 : nt ≤ 100) (hw : 0 ≤ nc) (hw2 : nc ≤ 100) (hx : 0 ≤ nr) (hx2 : nr ≤ 100) :
    Calls Tryz.prog 98 #[.agg (entC e).toArray, .int .i64 nt, .int .i64 nc, .int .i64 nr] w fun x w' => x = .returned (.bool (placesR (hasK e.kind 116) (hasK e.kind 99) (hasK e.kind 67) (hasK e.kind 111) (hasK e.kind 114) e nt nc nr)) ∧ Below w.heap.size w w' := by
  obtain ⟨kind, tick, tenant, cell, other, epoch, since, till, n⟩ := e
  unfold entC
  simp only at *
  have HC : Hid (∀ (c : UInt8) (n : Int), (c.toNat : Int) = n → ∀ W, Calls Tryz.prog 114 #[.int .i64 kind, .int .u8 n] W fun e w' => e = .returned (.bool (hasK kind c)) ∧ Below W.heap.size W w') := Lib.hid (fun c n hn W => hn ▸ r6has_any kind c W h1 h2)
  have hbx := Blk.new w 45 #[.int .i64 kind, .int .i64 tick, .int .i64 tenant, .int .i64 cell, .int .i64 other, .int .i64 epoch, .int .i64 since, .int .i64 till, .int .i64 n]
  have hbel := (Below.refl w.heap.size w).alloc (Nat.le_refl _) (.cells #[.int .i64 kind, .int .i64 tick, .int .i64 tenant, .int .i64 cell, .int .i64 other, .int .i64 epoch, .int .i64 since, .int .i64 till, .int .i64 n] 45)
  have c0 := hbx.cell' (i := 0) (v := .int .i64 kind) rfl
  have c1 := hbx.cell' (i := 1) (v := .int .i64 tick) rfl
  have c2 := hbx.cell' (i := 2) (v := .int .i64 tenant) rfl
  have c3 := hbx.cell' (i := 3) (v := .int .i64 cell) rfl
  have c4 := hbx.cell' (i := 4) (v := .int .i64 other) rfl
  have c5 := hbx.cell' (i := 5) (v := .int .i64 epoch) rfl
  have c6 := hbx.cell' (i := 6) (v := .int .i64 since) rfl
  have c7 := hbx.cell' (i := 7) (v := .int .i64 till) rfl
  have c8 := hbx.cell' (i := 8) (v := .int .i64 n) rfl
  go_enter Tryz.func98, Tryz.ntmps98
  go_wp2_with fail
  generalize w.alloc _ = W at *
  have hg := hbx.lt
  have HX : Hid (∀ (y : Later W.heap.size W) b o, b < W.heap.size → y.world.cell? ⟨b, o, none⟩ = W.cell? ⟨b, o, none⟩) := Lib.hid (fun y b o h => y.cell h)
  have et : IntKind.i64.wrap (nt - 1) = nt - 1 := IntWalk.i64_in _ (by omega)
  go_upto_region 2 with fail
  go_cut [29] (fun s wx => s = .bool ((hasK kind 116 != decide (tenant ≠ -1)) || (hasK kind 116 && !inR tenant 0 (nt - 1))) ∧ Below W.heap.size W wx)
  case first =>
    have hx := HX.out
    by_cases ht : tenant = -1
    · have e1 : (tenant != -1) = false := by simp [ht]
      have HTT := Lib.hid ht
      clear ht
      cases hT : hasK kind 116
      all_goals
        refine wp_region_below W.heap.size (by kernel_rfl) (by kernel_rfl) ?_
        repeat (first | go_big_quiet_step ((first | (go_at_call 114; exact quiet_belowW _ (HC.out 116 116 rfl _)) | (go_at_call 97; exact quiet_sameW _ (r6in_any _ _ _ _)))) | quiet_step ((first | (go_at_call 114; exact quiet_belowW _ (HC.out 116 116 rfl _)) | (go_at_call 97; exact quiet_sameW _ (r6in_any _ _ _ _)))))
        refine wpQuiet_nil ?_
        rintro w' ⟨y, rfl⟩
        go_wp2
        go_meet
        exact ⟨by simp [HTT.out, hT], y.below⟩
    · have e1 : (tenant != -1) = true := by simp [ht]
      cases hT : hasK kind 116
      all_goals
        refine wp_region_below W.heap.size (by kernel_rfl) (by kernel_rfl) ?_
        repeat (first | go_big_quiet_step ((first | (go_at_call 114; exact quiet_belowW _ (HC.out 116 116 rfl _)) | (go_at_call 97; exact quiet_sameW _ (r6in_any _ _ _ _)))) | quiet_step ((first | (go_at_call 114; exact quiet_belowW _ (HC.out 116 116 rfl _)) | (go_at_call 97; exact quiet_sameW _ (r6in_any _ _ _ _)))))
        refine wpQuiet_nil ?_
        rintro w' ⟨y, rfl⟩
        go_wp2
        go_meet
        exact ⟨by simp [ht, hT], y.below⟩
  case rest =>
    obtain ⟨rfl, hbl⟩ := hcut
    replace hbel := hbel.trans (hbl.mono (Nat.le_of_lt hg))
    replace hbx := hbx.below hbl hg
    clear HX hbl et hg
    replace c0 := hbx.cell' (i := 0) (v := .int .i64 kind) rfl
    replace c1 := hbx.cell' (i := 1) (v := .int .i64 tick) rfl
    replace c2 := hbx.cell' (i := 2) (v := .int .i64 tenant) rfl
    replace c3 := hbx.cell' (i := 3) (v := .int .i64 cell) rfl
    replace c4 := hbx.cell' (i := 4) (v := .int .i64 other) rfl
    replace c5 := hbx.cell' (i := 5) (v := .int .i64 epoch) rfl
    replace c6 := hbx.cell' (i := 6) (v := .int .i64 since) rfl
    replace c7 := hbx.cell' (i := 7) (v := .int .i64 till) rfl
    replace c8 := hbx.cell' (i := 8) (v := .int .i64 n) rfl
    generalize hq : ((hasK kind 116 != decide (tenant ≠ -1)) || (hasK kind 116 && !inR tenant 0 (nt - 1))) = q at *
    have HQ := Lib.hid hq
    clear hq
    cases q
    · go_wp2_with (first
        | (go_at_call 114; (with_reducible refine (HC.out 99 99 rfl _).mono ?_); rintro x wq ⟨rfl, hbq⟩; replace hbel := hbel.trans (hbq.mono hbel.size); replace hbx := hbx.below hbq hbx.lt; clear hbq; replace c0 := hbx.cell' (i := 0) (v := .int .i64 kind) rfl; replace c1 := hbx.cell' (i := 1) (v := .int .i64 tick) rfl; replace c2 := hbx.cell' (i := 2) (v := .int .i64 tenant) rfl; replace c3 := hbx.cell' (i := 3) (v := .int .i64 cell) rfl; replace c4 := hbx.cell' (i := 4) (v := .int .i64 other) rfl; replace c5 := hbx.cell' (i := 5) (v := .int .i64 epoch) rfl; replace c6 := hbx.cell' (i := 6) (v := .int .i64 since) rfl; replace c7 := hbx.cell' (i := 7) (v := .int .i64 till) rfl; replace c8 := hbx.cell' (i := 8) (v := .int .i64 n) rfl)
        | (go_at_call 114; (with_reducible refine (HC.out 67 67 rfl _).mono ?_); rintro x wq ⟨rfl, hbq⟩; replace hbel := hbel.trans (hbq.mono hbel.size); replace hbx := hbx.below hbq hbx.lt; clear hbq; replace c0 := hbx.cell' (i := 0) (v := .int .i64 kind) rfl; replace c1 := hbx.cell' (i := 1) (v := .int .i64 tick) rfl; replace c2 := hbx.cell' (i := 2) (v := .int .i64 tenant) rfl; replace c3 := hbx.cell' (i := 3) (v := .int .i64 cell) rfl; replace c4 := hbx.cell' (i := 4) (v := .int .i64 other) rfl; replace c5 := hbx.cell' (i := 5) (v := .int .i64 epoch) rfl; replace c6 := hbx.cell' (i := 6) (v := .int .i64 since) rfl; replace c7 := hbx.cell' (i := 7) (v := .int .i64 till) rfl; replace c8 := hbx.cell' (i := 8) (v := .int .i64 n) rfl)
        | (go_at_call 114; (with_reducible refine (HC.out 111 111 rfl _).mono ?_); rintro x wq ⟨rfl, hbq⟩; replace hbel := hbel.trans (hbq.mono hbel.size); replace hbx := hbx.below hbq hbx.lt; clear hbq; replace c0 := hbx.cell' (i := 0) (v := .int .i64 kind) rfl; replace c1 := hbx.cell' (i := 1) (v := .int .i64 tick) rfl; replace c2 := hbx.cell' (i := 2) (v := .int .i64 tenant) rfl; replace c3 := hbx.cell' (i := 3) (v := .int .i64 cell) rfl; replace c4 := hbx.cell' (i := 4) (v := .int .i64 other) rfl; replace c5 := hbx.cell' (i := 5) (v := .int .i64 epoch) rfl; replace c6 := hbx.cell' (i := 6) (v := .int .i64 since) rfl; replace c7 := hbx.cell' (i := 7) (v := .int .i64 till) rfl; replace c8 := hbx.cell' (i := 8) (v := .int .i64 n) rfl)
        | (go_at_call 114; (with_reducible refine (HC.out 114 114 rfl _).mono ?_); rintro x wq ⟨rfl, hbq⟩; replace hbel := hbel.trans (hbq.mono hbel.size); replace hbx := hbx.below hbq hbx.lt; clear hbq; replace c0 := hbx.cell' (i := 0) (v := .int .i64 kind) rfl; replace c1 := hbx.cell' (i := 1) (v := .int .i64 tick) rfl; replace c2 := hbx.cell' (i := 2) (v := .int .i64 tenant) rfl; replace c3 := hbx.cell' (i := 3) (v := .int .i64 cell) rfl; replace c4 := hbx.cell' (i := 4) (v := .int .i64 other) rfl; replace c5 := hbx.cell' (i := 5) (v := .int .i64 epoch) rfl; replace c6 := hbx.cell' (i := 6) (v := .int .i64 since) rfl; replace c7 := hbx.cell' (i := 7) (v := .int .i64 till) rfl; replace c8 := hbx.cell' (i := 8) (v := .int .i64 n) rfl)
        | (go_at_call 97; (with_reducible refine (r6in_any _ _ _ _).mono ?_); rintro x wq ⟨rfl, rfl⟩)
        )
      all_goals
        go_ret
        refine ⟨ret_bool ?_, hbel⟩
        go_light
        clear hbx hbel c0 c1 c2 c3 c4 c5 c6 c7 c8 HC
        unfold placesR
        simp only [HQ.out]
        simp_all <;> (rw [Bool.eq_iff_iff]; simp)
    · go_wp2
      go_ret
      refine ⟨ret_bool ?_, hbel⟩
      unfold placesR
      simp only [HQ.out]
      rfl
end Go.Proofs.YtjobcfpnmfjlfaaGreat

namespace Go.Proofs.YtjobcfpnmfjlfaaGreat
open Go.RowKit
set_option linter.unusedSimpArgs false
set_option linter.unusedVariables false

/-- What right answers. -/
def rightR (e : Ent) (nt nc nr nv : Int) : Bool :=
  inR e.kind 1 16 && inR e.tick 0 1073741824 && placesR (hasK e.kind 116) (hasK e.kind 99) (hasK e.kind 67) (hasK e.kind 111) (hasK e.kind 114) e nt nc nr &&
    numbersR (hasK e.kind 101) (hasK e.kind 119) (hasK e.kind 118) (hasK e.kind 98) (hasK e.kind 109) (hasK e.kind 110) e nv

theorem rightR_eq (e : Ent) (nt nc nr nv : Int) : rightR e nt nc nr nv = entOk nt nc nr nv e := by
  obtain ⟨kind, tick, tenant, cell, other, epoch, since, till, n⟩ := e
  by_cases hk : inR kind 1 16 = true
  · have hb : 1 ≤ kind ∧ kind ≤ 16 := by simp [inR] at hk; omega
    have hk16 : kind = 1 ∨ kind = 2 ∨ kind = 3 ∨ kind = 4 ∨ kind = 5 ∨ kind = 6 ∨ kind = 7 ∨ kind = 8 ∨ kind = 9 ∨ kind = 10 ∨ kind = 11 ∨ kind = 12 ∨ kind = 13 ∨ kind = 14 ∨ kind = 15 ∨ kind = 16 := by omega
    clear hb hk
    rcases hk16 with rfl | rfl | rfl | rfl | rfl | rfl | rfl | rfl | rfl | rfl | rfl | rfl | rfl | rfl | rfl | rfl
    all_goals
      rw [Bool.eq_iff_iff]
      simp [rightR, entOk, placesR, numbersR, hasK, usesL, inS, inR, fT, fC, fO, fE, fW, fN]
      try omega
  · have hk' : inR kind 1 16 = false := by simpa using hk
    simp [rightR, entOk, hk']

set_option maxHeartbeats 2000000 in
set_option maxRecDepth 100000 in
theorem r6right_any (e : Ent) (nt nc nr nv : Int) (w : World) (hv : 0 ≤ nt) (hv2 : nt ≤ 100) (hw : 0 ≤ nc) (hw2 : nc ≤ 100) (hx : 0 ≤ nr) (hx2 : nr ≤ 100) (hy : 0 ≤ nv) (hy2 : nv ≤ 100) :
    Calls Tryz.prog 63 #[.agg (entC e).toArray, .int .i64 nt, .int .i64 nc, .int .i64 nr, .int .i64 nv] w fun x w' => x = .returned (.bool (entOk nt nc nr nv e)) ∧ Below w.heap.size w w' := by
  rw [← rightR_eq]
  by_cases hk : inR e.kind 1 16 = true
  · have hb : 1 ≤ e.kind ∧ e.kind ≤ 16 := by simp [inR] at hk; omega
    by_cases ht : inR e.tick 0 1073741824 = true
    · have HP := Lib.hid (fun W => r6places_any e nt nc nr W hb.1 hb.2 hv hv2 hw hw2 hx hx2)
      have HN := Lib.hid (fun W => r6numbers_any e nv W hb.1 hb.2 hy hy2)
      have HR : Hid (rightR e nt nc nr nv = (placesR (hasK e.kind 116) (hasK e.kind 99) (hasK e.kind 67) (hasK e.kind 111) (hasK e.kind 114) e nt nc nr &&
        numbersR (hasK e.kind 101) (hasK e.kind 119) (hasK e.kind 118) (hasK e.kind 98) (hasK e.kind 109) (hasK e.kind 110) e nv)) := Lib.hid (by unfold rightR; rw [hk, ht]; simp)
      clear hb
      generalize placesR _ _ _ _ _ _ _ _ _ = pb at *
      generalize numbersR _ _ _ _ _ _ _ _ = nb at *
      obtain ⟨kind, tick, tenant, cell, other, epoch, since, till, n⟩ := e
      unfold entC at *
      simp only at *
      have hbx := Blk.new w 45 #[.int .i64 kind, .int .i64 tick, .int .i64 tenant, .int .i64 cell, .int .i64 other, .int .i64 epoch, .int .i64 since, .int .i64 till, .int .i64 n]
      have hbel := (Below.refl w.heap.size w).alloc (Nat.le_refl _) (.cells #[.int .i64 kind, .int .i64 tick, .int .i64 tenant, .int .i64 cell, .int .i64 other, .int .i64 epoch, .int .i64 since, .int .i64 till, .int .i64 n] 45)
      have c0 := hbx.cell' (i := 0) (v := .int .i64 kind) rfl
      have c1 := hbx.cell' (i := 1) (v := .int .i64 tick) rfl
      have c2 := hbx.cell' (i := 2) (v := .int .i64 tenant) rfl
      have c3 := hbx.cell' (i := 3) (v := .int .i64 cell) rfl
      have c4 := hbx.cell' (i := 4) (v := .int .i64 other) rfl
      have c5 := hbx.cell' (i := 5) (v := .int .i64 epoch) rfl
      have c6 := hbx.cell' (i := 6) (v := .int .i64 since) rfl
      have c7 := hbx.cell' (i := 7) (v := .int .i64 till) rfl
      have c8 := hbx.cell' (i := 8) (v := .int .i64 n) rfl
      go_enter Tryz.func63, Tryz.ntmps63
      go_wp2_with (go_at_call 97; (with_reducible refine (r6in_any _ _ _ _).mono ?_); rintro x wq ⟨rfl, rfl⟩)
      refine (HP.out _).mono ?_
      rintro x w1 ⟨rfl, hb1⟩
      replace hbel := hbel.trans (hb1.mono hbel.size)
      replace hbx := hbx.below hb1 hbx.lt
      replace c0 := hbx.cell' (i := 0) (v := .int .i64 kind) rfl
      replace c1 := hbx.cell' (i := 1) (v := .int .i64 tick) rfl
      replace c2 := hbx.cell' (i := 2) (v := .int .i64 tenant) rfl
      replace c3 := hbx.cell' (i := 3) (v := .int .i64 cell) rfl
      replace c4 := hbx.cell' (i := 4) (v := .int .i64 other) rfl
      replace c5 := hbx.cell' (i := 5) (v := .int .i64 epoch) rfl
      replace c6 := hbx.cell' (i := 6) (v := .int .i64 since) rfl
      replace c7 := hbx.cell' (i := 7) (v := .int .i64 till) rfl
      replace c8 := hbx.cell' (i := 8) (v := .int .i64 n) rfl
      clear hb1
      cases pb
      · go_wp2
        go_ret
        exact ⟨ret_bool (by rw [HR.out]; rfl), hbel⟩
      · go_wp2_with fail
        refine (HN.out _).mono ?_
        rintro x w2 ⟨rfl, hb2⟩
        replace hbel := hbel.trans (hb2.mono hbel.size)
        clear hbx c0 c1 c2 c3 c4 c5 c6 c7 c8 hb2
        go_wp2
        go_ret
        exact ⟨ret_bool (by rw [HR.out]; rfl), hbel⟩
    · have ht' : inR e.tick 0 1073741824 = false := by simpa using ht
      have HR : Hid (rightR e nt nc nr nv = false) := Lib.hid (by unfold rightR; rw [hk, ht']; simp)
      obtain ⟨kind, tick, tenant, cell, other, epoch, since, till, n⟩ := e
      unfold entC
      simp only at *
      go_enter Tryz.func63, Tryz.ntmps63
      go_wp2_with (go_at_call 97; (with_reducible refine (r6in_any _ _ _ _).mono ?_); rintro x wq ⟨rfl, rfl⟩)
      go_ret
      exact ⟨ret_bool HR.out.symm, (Below.refl _ _).alloc (Nat.le_refl _) _⟩
  · have hk' : inR e.kind 1 16 = false := by simpa using hk
    have HR : Hid (rightR e nt nc nr nv = false) := Lib.hid (by unfold rightR; rw [hk']; simp)
    obtain ⟨kind, tick, tenant, cell, other, epoch, since, till, n⟩ := e
    unfold entC
    simp only at *
    go_enter Tryz.func63, Tryz.ntmps63
    go_wp2_with (go_at_call 97; (with_reducible refine (r6in_any _ _ _ _).mono ?_); rintro x wq ⟨rfl, rfl⟩)
    go_ret
    exact ⟨ret_bool HR.out.symm, (Below.refl _ _).alloc (Nat.le_refl _) _⟩

set_option maxHeartbeats 2000000 in
theorem r6Valid_any (x : CfgA) (c : Cfg) (e : Ent) (w : World) (hV : CfgV c) :
    Calls Tryz.prog 25 #[.agg (cfgC x c), .agg (entC e).toArray] w fun r w' => r = .returned (.bool (entV c e)) ∧ Below w.heap.size w w' := by
  obtain ⟨az, cz, ac, cc, at_, ct, av, cv, ar, cr, ao, co⟩ := x
  have h1 := hV.nt
  have h2 := hV.nc
  have h3 := hV.reg
  have h4 := hV.nv
  have m1 : min (c.tenants.length : Int) 32 = c.tenants.length := by omega
  have m2 : min (c.cells.length : Int) 16 = c.cells.length := by omega
  have m3 : min c.regions 4 = c.regions := by omega
  have m4 : min (c.versions.length : Int) 30 = c.versions.length := by omega
  have HR := Lib.hid (fun W => r6right_any e c.tenants.length c.cells.length c.regions c.versions.length W (by omega) (by omega) (by omega) (by omega) (by omega) (by omega) (by omega) (by omega))
  clear hV
  obtain ⟨kind, tick, tenant, cell, other, epoch, since, till, n⟩ := e
  unfold entC at *
  unfold cfgC
  simp only at *
  go_enter Tryz.func25, Tryz.ntmps25
  go_wp2_with fail
  refine (HR.out _).mono ?_
  rintro r w1 ⟨rfl, hb⟩
  have HB := Lib.hid ((((Below.refl w.heap.size w).alloc (Nat.le_refl _) _).alloc (by simp) _).trans (hb.mono (by simp; omega)))
  clear hb m1 m2 m3 m4
  go_wp2
  go_ret
  exact ⟨rfl, HB.out⟩
end Go.Proofs.YtjobcfpnmfjlfaaGreat

namespace Go.Proofs.YtjobcfpnmfjlfaaGreat
open Go.RowKit
set_option linter.unusedSimpArgs false
set_option linter.unusedVariables false

def CN0 : CN := ⟨2, 3, 4, 5, 6, 7, 3⟩
def SN0 : SN := ⟨8, 9, 3⟩
def gpl (g : Nat) (A : Option Addr) (n : Nat) (x : CfgA) (c : Cfg) (y : StA) (s : St) : Nat → Pl := fun j => match j with
  | 0 => ⟨some ⟨g, 0, none⟩, 0, 0, false⟩
  | 1 => ⟨A, 1, n, false⟩
  | 2 => ⟨x.az, 1, c.zones.length, false⟩
  | 3 => ⟨x.ac, 2, c.cells.length, false⟩
  | 4 => ⟨x.at_, 7, c.tenants.length, false⟩
  | 5 => ⟨x.av, 2, c.versions.length, false⟩
  | 6 => ⟨x.ar, 1, c.replicas.length, false⟩
  | 7 => ⟨x.ao, 1, c.observers.length, false⟩
  | 8 => ⟨y.at_, 12, s.tenants.length, false⟩
  | _ => ⟨y.ac, 4, s.cells.length, false⟩
set_option maxRecDepth 20000 in
/-- A function that is handed a tape, a configuration, a state and values. -/
theorem gen_calls {f : FuncId} {fn : Func} {F : FT} {D : List (Nat × DQ)} (hF : FTok Tryz.prog F) (hf : (Tryz.prog).funcs[f]? = some fn) (hb : fn.body = some (bodyOf fn)) (hcode : codeB fn.ntmps D (bodyOf fn) = true) {args : List Value} (hn : Nat.ble (args.length + 3) fn.ntmps = true) (hargs : ∀ v ∈ args, pureV v)
    (g : Nat) (A : Option Addr) (cap : Nat) (zs : List Int) (k : Int) (x : CfgA) (c : Cfg) (y : StA) (s : St) (w : World) (ht : TpAt w g A cap zs k) (hc : CfgOk w (fun b => b ≠ g ∧ b < w.heap.size) x c) (hs : StOk w (fun b => b ≠ g ∧ b < w.heap.size) y s) {R : Value → Int → Prop}
    (h : sx tt F D (bodyOf fn) (argF 0 (ptr 0 :: cfgV CN0 ⟨x.cz, x.cc, x.ct, x.cv, x.cr, x.co⟩ c :: stV SN0 ⟨y.ct, y.cc⟩ s :: args)) ((0, tapeB 1 zs.length cap k) :: (1, intRow zs) :: (cfgM CN0 c ++ stM SN0 s)) 10 (endx tt fn.results.toList fun v mem' _ => ∃ k', R v k' ∧ pureV v ∧ lk mem' 0 = some (tapeB 1 zs.length cap k'))) :
    Calls Tryz.prog f (.pointer (some ⟨g, 0, none⟩) :: .agg (cfgC x c) :: .agg (stC y s) :: args).toArray w fun e w' => ∃ v k', R v k' ∧ pureV v ∧ e = .returned v ∧ TpAt w' g A cap zs k' ∧ w.grownBy w' (some g) := by
  have hpc : CfgPl (gpl g A zs.length x c y s) CN0 x c := ⟨rfl, rfl, rfl, rfl, rfl, rfl⟩
  have hps : StPl (gpl g A zs.length x c y s) SN0 y s := ⟨rfl, rfl⟩
  have hrow : ∀ C nx, BlkOk C (gpl g A zs.length x c y s) nx 1 w (intRow zs) := fun C nx => row_of_rd (enc := intC) (sz := 1) (fun _ => rfl) (by omega) intC_plain 0 rfl ht.row (fun b hb => hb.2)
  have hblk : blksOk { w0 := w, bor := [g], n0 := 10, ρ0 := gpl g A zs.length x c y s, nt := fn.ntmps } (gpl g A zs.length x c y s) 10 w ((1, intRow zs) :: (cfgM CN0 c ++ stM SN0 s)) :=
    ⟨⟨by omega, rfl, hrow _ _⟩, cfg_blks hpc hc (fun b hb => hb.2) (by decide) (by have := st_blks (C := { w0 := w, bor := [g], n0 := 10, ρ0 := gpl g A zs.length x c y s, nt := fn.ntmps }) (nx := 10) (r := []) hps hs (fun b hb => hb.2) (by decide) trivial; exact this)⟩
  have hap : ∀ j t sz n el, lk ((1, intRow zs) :: (cfgM CN0 c ++ stM SN0 s)) j = some (.row t sz n el) → n = 0 ∨ bno (gpl g A zs.length x c y s) j ≠ some g := by
    have one : ∀ {α : Type} {enc : α → List Value} {sz : Nat} (hsz : ∀ x, (enc x).length = sz) (hpos : 0 < sz) {l : List α} {Ar : Option Addr}, Rd w (fun b => b ≠ g ∧ b < w.heap.size) Ar (flat enc l) → l.length = 0 ∨ Ar.map (·.block) ≠ some g := by
      intro α enc sz hsz hpos l Ar hrd
      by_cases h0 : l.length = 0
      · exact .inl h0
      · obtain ⟨b, off, x, hA, hb, -, -⟩ := hrd.row hsz hpos (k := 0) (by omega)
        subst hA
        exact .inr (by simp; exact hb.1)
    intro j t sz n el hj
    rcases lk_cons hj with ⟨rfl, q⟩ | ⟨_, hj⟩
    · cases q; exact one (enc := intC) (sz := 1) (fun _ => rfl) (by omega) ht.row
    rcases lk_cons hj with ⟨rfl, q⟩ | ⟨_, hj⟩
    · cases q; exact one (enc := intC) (sz := 1) (fun _ => rfl) (by omega) hc.zones
    rcases lk_cons hj with ⟨rfl, q⟩ | ⟨_, hj⟩
    · cases q; exact one (enc := pairC) (sz := 2) (fun _ => rfl) (by omega) hc.cells
    rcases lk_cons hj with ⟨rfl, q⟩ | ⟨_, hj⟩
    · cases q; exact one (enc := tenC) (sz := 7) (fun _ => rfl) (by omega) hc.tenants
    rcases lk_cons hj with ⟨rfl, q⟩ | ⟨_, hj⟩
    · cases q; exact one (enc := pairC) (sz := 2) (fun _ => rfl) (by omega) hc.versions
    rcases lk_cons hj with ⟨rfl, q⟩ | ⟨_, hj⟩
    · cases q; exact one (enc := intC) (sz := 1) (fun _ => rfl) (by omega) hc.replicas
    rcases lk_cons hj with ⟨rfl, q⟩ | ⟨_, hj⟩
    · cases q; exact one (enc := intC) (sz := 1) (fun _ => rfl) (by omega) hc.observers
    rcases lk_cons hj with ⟨rfl, q⟩ | ⟨_, hj⟩
    · cases q; exact one (enc := tsC) (sz := 12) (fun _ => rfl) (by omega) hs.tenants
    rcases lk_cons hj with ⟨rfl, q⟩ | ⟨_, hj⟩
    · cases q; exact one (enc := csC) (sz := 4) (fun _ => rfl) (by omega) hs.cells
    · simp [lk] at hj
  have hm := MemAt.one (ρ := gpl g A zs.length x c y s) (nx := 10) (nt := fn.ntmps) (w := w) (mem := (1, intRow zs) :: (cfgM CN0 c ++ stM SN0 s)) (g := g) (i := 0) (t := 91) (cs := [slc 1 zs.length cap, .int .i64 k]) trivial (by omega) rfl
    ⟨g, rfl, by
      have := ht.blk
      simpa [den1, dA_whole, gpl] using this, .inr (by simp), fun v hv => by
        simp at hv
        rcases hv with rfl | rfl
        · exact ⟨show (1 : Nat) < 10 by decide, rfl⟩
        · trivial⟩ hblk hap
  have hargs2 : (ptr 0 :: cfgV CN0 ⟨x.cz, x.cc, x.ct, x.cv, x.cr, x.co⟩ c :: stV SN0 ⟨y.ct, y.cc⟩ s :: args).map (den (gpl g A zs.length x c y s)) = .pointer (some ⟨g, 0, none⟩) :: .agg (cfgC x c) :: .agg (stC y s) :: args := by
    rw [List.map_cons, List.map_cons, List.map_cons]
    refine congr (congrArg List.cons rfl) (congr (congrArg List.cons ?_) (congr (congrArg List.cons ?_) ?_))
    · exact den_cfg _ CN0 _ c
    · exact den_st _ SN0 _ s
    · · conv => rhs; rw [← List.map_id args]
        exact List.map_congr_left fun v hv => (pure_den (hargs v hv) _ 0).1
  rw [← hargs2]
  refine (calls_sx ttOk hF mixed hf hb hcode (vs := ptr 0 :: cfgV CN0 ⟨x.cz, x.cc, x.ct, x.cv, x.cr, x.co⟩ c :: stV SN0 ⟨y.ct, y.cc⟩ s :: args) hn ⟨rfl, rfl⟩ rfl hm (fun v hv => ?_) h).mono ?_
  · rcases List.mem_cons.1 hv with rfl | hv
    · exact ⟨⟨show (0 : Nat) < 10 by decide, rfl⟩, ⟨g, 0, rfl⟩, fun k hk => by cases hk⟩
    · rcases List.mem_cons.1 hv with rfl | hv
      · intro u hu
        simp at hu
        rcases hu with rfl | rfl | rfl | rfl | rfl | rfl | rfl | rfl | rfl | rfl <;> first | trivial | exact ⟨by decide, rfl⟩
      · rcases List.mem_cons.1 hv with rfl | hv
        · intro u hu
          simp at hu
          rcases hu with rfl | rfl | rfl | rfl | rfl | rfl | rfl | rfl <;> first | trivial | exact ⟨by decide, rfl⟩
        · exact (pure_den (hargs v hv) _ _).2
  · rintro e w' ⟨v, mem', nx', ρ', rfl, ⟨k', hr, hpl, hlk⟩, -, hm'⟩
    have e0 : ρ' 0 = gpl g A zs.length x c y s 0 := hm'.low 0 (show (0 : Nat) < 10 by decide)
    have e1 : ρ' 1 = gpl g A zs.length x c y s 1 := hm'.low 1 (show (1 : Nat) < 10 by decide)
    obtain ⟨g', hA, hb, -, -⟩ := hm'.blk 0 _ hlk
    rw [e0] at hA
    cases hA
    have hgr : w.grownBy w' (some g) := ⟨hm'.rest.os, hm'.rest.tape, hm'.rest.output, hm'.rest.size, fun b hlt hne => hm'.rest.block b hlt (by simp; intro q; exact hne (by rw [q]))⟩
    refine ⟨v, k', hr, hpl, by rw [(pure_den hpl ρ' 0).1], ⟨?_, ?_⟩, hgr⟩
    · exact (ht.row.keep fun b hb => hgr.block b hb.2 (by intro q; injection q with q; exact hb.1 q)).more fun b hb => ⟨hb.1, Nat.lt_of_lt_of_le hb.2 hgr.size⟩
    · simpa [den1, dA_whole, e1, gpl] using hb
/-- How such a function is called. -/
def ctGen (R : List Int → Cfg → St → List Value → Int → Value → Int → Prop) (pre : Cfg → St → List Value → Int → Prop) : CT := fun vs mem nx K => ∃ i r cap zs k N x c M y s args, vs = ptr i :: cfgV N x c :: stV M y s :: args ∧ (lk mem i = some (tapeB r (zs : List Int).length cap k) ∧ lk mem r = some (intRow zs)) ∧ keeps mem (cfgM N c) ∧ keeps mem (stM M s) ∧
  (zs.length ≤ 400 ∧ 0 ≤ k ∧ k ≤ 900000) ∧ pre c s args k ∧ ∀ z k', R zs c s args k z k' → K z ((i, tapeB r zs.length cap k') :: mem) nx
theorem genOk {f : FuncId} {R : List Int → Cfg → St → List Value → Int → Value → Int → Prop} {pre : Cfg → St → List Value → Int → Prop} (ent : ((Tryz.prog).funcs[f]?).map (fun fn => (fn.name == "runtime.NumGoroutine", fn.body.isNone)) = some (false, false))
    (hpre : ∀ c s args k, pre c s args k → ∀ v ∈ args, pureV v)
    (h : ∀ args g A cap zs k x c y s w, zs.length ≤ 400 → 0 ≤ k → k ≤ 900000 → pre c s args k → TpAt w g A cap zs k → CfgOk w (fun b => b ≠ g ∧ b < w.heap.size) x c → StOk w (fun b => b ≠ g ∧ b < w.heap.size) y s →
      Calls Tryz.prog f (.pointer (some ⟨g, 0, none⟩) :: .agg (cfgC x c) :: .agg (stC y s) :: args).toArray w fun e w' => ∃ v k', R zs c s args k v k' ∧ pureV v ∧ e = .returned v ∧ TpAt w' g A cap zs k' ∧ w.grownBy w' (some g)) : CSound Tryz.prog f (ctGen R pre) :=
  ⟨ent, fun {C ρ fr mem nx a w vs K} hc hs hv => by
    obtain ⟨i, r, cap, zs, k, N, x, c, M, y, s, args, rfl, ⟨hi, hr⟩, hkc, hks, ⟨hz, hk0, hk1⟩, hp, hK⟩ := hc
    obtain ⟨g, hA, ht, hok⟩ := hs.tape hi hr
    have hargs := hpre c s args k hp
    have hvs : (ptr i :: cfgV N x c :: stV M y s :: args).map (den ρ) = .pointer (some ⟨g, 0, none⟩) :: .agg (cfgC (cfgX ρ N x) c) :: .agg (stC (stX ρ M y) s) :: args := by
      rw [List.map_cons, List.map_cons, List.map_cons, den_cfg, den_st]
      refine congr (congrArg List.cons ?_) (congr (congrArg List.cons rfl) (congr (congrArg List.cons rfl) ?_))
      · simp [den, den2, den1, dA_whole, hA]
      · conv => rhs; rw [← List.map_id args]
        exact List.map_congr_left fun v hv => (pure_den (hargs v hv) _ 0).1
    rw [hvs]
    have hS : ∀ b, b < w.heap.size → (∀ j t cs, lk mem j = some (.box t cs) → bno ρ j ≠ some b) → (fun b => b ≠ g ∧ b < w.heap.size) b := fun b hlt hb => ⟨by rintro rfl; exact hb i _ _ hi (by simp [bno, hA]), hlt⟩
    refine (h args g (ρ r).A cap zs k (cfgX ρ N x) c (stX ρ M y) s w hz hk0 hk1 hp ht (hs.cfg hkc hS) (hs.st hks hS)).mono ?_
    rintro e w' ⟨v, k', hR, hpl, rfl, ht', hg⟩
    refine ⟨v, _, nx, ρ, by rw [(pure_den hpl ρ 0).1], hK v k' hR, hs.grownBox (cs' := [slc r zs.length cap, .int .i64 k']) hi hA hg ?_ ?_, (pure_den hpl ρ nx).2, ExtS.refl _ _⟩
    · simpa [den1, dA_whole] using ht'.blk
    · intro u hu
      simp at hu
      rcases hu with rfl | rfl
      · exact hok
      · trivial⟩
def ctNone : CT := fun vs mem nx K => ∃ kind tick, vs = [.int .i64 kind, .int .i64 tick] ∧ K (.agg #[.int .i64 kind, .int .i64 tick, .int .i64 (-1), .int .i64 (-1), .int .i64 (-1), .int .i64 0, .int .i64 0, .int .i64 0, .int .i64 0]) mem nx
theorem noneOk : CSound Tryz.prog 44 ctNone := ⟨by kernel_rfl, fun {C ρ fr mem nx a w vs K} hc hs hv => by
  obtain ⟨kind, tick, rfl, hK⟩ := hc
  refine (mkNone_any kind tick w).mono ?_
  rintro e w' ⟨rfl, hb⟩
  have hp : pureV (.agg #[.int .i64 kind, .int .i64 tick, .int .i64 (-1), .int .i64 (-1), .int .i64 (-1), .int .i64 0, .int .i64 0, .int .i64 0, .int .i64 0]) := pure_ent ⟨kind, tick, -1, -1, -1, 0, 0, 0, 0⟩
  exact ⟨_, mem, nx, ρ, by rw [(pure_den hp ρ 0).1]; rfl, hK, hs.later hb, (pure_den hp ρ nx).2, ExtS.refl _ _⟩⟩
end Go.Proofs.YtjobcfpnmfjlfaaGreat

namespace Go.Proofs.YtjobcfpnmfjlfaaGreat
open Go.RowKit
set_option linter.unusedSimpArgs false
set_option linter.unusedVariables false

def ctHas : CT := fun vs mem nx K => ∃ set i, vs = [.int .i64 set, .int .i64 i] ∧ (0 ≤ set ∧ set < 4294967296) ∧ K (.bool (hasB set i)) mem nx
theorem hasOk : CSound Tryz.prog 61 ctHas := CSound.val (by kernel_rfl) (by
  rintro vs mem nx K ⟨set, i, rfl, hn, hK⟩
  refine ⟨_, hK, trivial, rfl, fun ρ w => ?_⟩
  refine (r4Has_any set i w hn.1 hn.2).mono ?_
  rintro e w' ⟨rfl, rfl⟩
  exact ⟨rfl, Below.refl _ _⟩)
def platF : FT := [(33, ctNext), (34, ctRange), (44, ctNone), (61, ctHas)]
theorem platFok : FTok Tryz.prog platF := ft_cons nextOk (ft_cons rangeOk (ft_cons noneOk (ft_cons hasOk ft_nil)))
def platD : List (Nat × DQ) := [
  (17, { k := 7, L := [14], pre := [(0, false), (1, false), (2, false), (3, false), (4, true), (5, false), (6, true)] }),
  (20, { k := 4, L := [14], pre := [(0, false), (1, false), (2, false), (3, true)] }),
  (1000030, { k := 15, L := [12], sl := [8, 9] })]
def EntR (k : Int) (v : Value) (k' : Int) : Prop := (∃ en, v = entV' en) ∧ k ≤ k' ∧ k' ≤ k + 20
set_option maxRecDepth 100000 in
theorem plat_sx (cap : Nat) (zs : List Int) (k tick : Int) (x : CfgK) (c : Cfg) (y : StK) (s : St) (hz : zs.length ≤ 400) (hk : 0 ≤ k ∧ k ≤ 990000) (hV : CfgV c) (hI : StInv c s) (ht : 0 ≤ tick ∧ tick ≤ 2147483648) :
    sx tt platF platD (bodyOf Tryz.f43) (argF 0 (ptr 0 :: cfgV CN0 x c :: stV SN0 y s :: [.int .i64 tick])) ((0, tapeB 1 zs.length cap k) :: (1, intRow zs) :: (cfgM CN0 c ++ stM SN0 s)) 10
      (endx tt Tryz.f43.results.toList fun v mem' _ => ∃ k', EntR k v k' ∧ pureV v ∧ lk mem' 0 = some (tapeB 1 zs.length cap k')) := by
  have hnc := hV.nc
  have hnv := hV.nv
  have hlc := hI.lc
  have hls := hV.lease
  have hbk := hV.bake
  have hrg := hV.reg
  have hev := hI.evac
  refine ⟨_, _, rfl, ?_⟩
  refine ⟨0, 1, cap, zs, _, _, rfl, ⟨rfl, rfl⟩, ⟨hz, by omega, by omega⟩, ⟨_, rfl, by omega, by omega⟩, ?_⟩
  rintro _ k1 ⟨_, r1, hnn, rfl, ⟨hr1, hk1⟩⟩
  cases hnn
  refine ⟨⟨Nat.le_refl _, by omega, by omega⟩, ?_⟩
  refine ⟨Ent × Int, fun _ => [], fun y => [(0, tapeB 1 zs.length cap y.2), (13, .box 45 [.int .i64 y.1.kind, .int .i64 y.1.tick, .int .i64 y.1.tenant, .int .i64 y.1.cell, .int .i64 y.1.other, .int .i64 y.1.epoch, .int .i64 y.1.since, .int .i64 y.1.till, .int .i64 y.1.n])], fun y => k ≤ y.2 ∧ y.2 ≤ k + 10, ?_, ?_⟩
  · refine ⟨0, 1, cap, zs, _, _, rfl, ⟨rfl, rfl⟩, ⟨hz, by omega, by omega⟩, ⟨_, rfl, by omega, by omega⟩, ?_⟩
    rintro _ k2 ⟨_, r2, hnn, rfl, ⟨hr2, hk2⟩⟩
    cases hnn
    refine ⟨fun _ => ?_, fun _ => ?_⟩
    · refine ⟨0, 1, cap, zs, _, _, rfl, ⟨rfl, rfl⟩, ⟨hz, by omega, by omega⟩, ⟨_, _, rfl, by omega, by omega, by omega⟩, ?_⟩
      rintro _ k3 ⟨_, _, r3, hnn, rfl, hr3, hk3⟩
      cases hnn
      exact ⟨(⟨_, _, _, _, _, _, _, _, _⟩, _), ⟨by omega, by omega⟩, ⟨rfl, rfl, trivial⟩, ⟨rfl, rfl, rfl, trivial⟩⟩
    refine ⟨fun _ => ?_, fun _ => ?_⟩
    · exact ⟨(⟨_, _, _, _, _, _, _, _, _⟩, _), ⟨by omega, by omega⟩, ⟨rfl, rfl, trivial⟩, ⟨rfl, rfl, rfl, trivial⟩⟩
    refine ⟨fun _ => ?_, fun _ => ?_⟩
    · refine ⟨fun _ => ?_, fun h => nomatch h⟩
      refine ⟨0, 1, cap, zs, _, _, rfl, ⟨rfl, rfl⟩, ⟨hz, by omega, by omega⟩, ⟨_, rfl, by omega, by omega⟩, ?_⟩
      rintro _ k3 ⟨_, r3, hnn, rfl, ⟨hr3, hk3⟩⟩
      cases hnn
      exact ⟨(⟨_, _, _, _, _, _, _, _, _⟩, _), ⟨by omega, by omega⟩, ⟨rfl, rfl, trivial⟩, ⟨rfl, rfl, rfl, trivial⟩⟩
    refine ⟨fun _ => ?_, fun _ => ?_⟩
    · refine ⟨fun _ => ?_, fun h => nomatch h⟩
      refine ⟨0, 1, cap, zs, _, _, rfl, ⟨rfl, rfl⟩, ⟨hz, by omega, by omega⟩, ⟨_, rfl, by omega, by omega⟩, ?_⟩
      rintro _ k3 ⟨_, r3, hnn, rfl, ⟨hr3, hk3⟩⟩
      cases hnn
      exact ⟨(⟨_, _, _, _, _, _, _, _, _⟩, _), ⟨by omega, by omega⟩, ⟨rfl, rfl, trivial⟩, ⟨rfl, rfl, rfl, trivial⟩⟩
    refine ⟨fun _ => ?_, fun _ => ?_⟩
    · refine ⟨0, 1, cap, zs, _, _, rfl, ⟨rfl, rfl⟩, ⟨hz, by omega, by omega⟩, ⟨_, rfl, by omega, by omega⟩, ?_⟩
      rintro _ k3 ⟨_, r3, hnn, rfl, ⟨hr3, hk3⟩⟩
      cases hnn
      exact ⟨(⟨_, _, _, _, _, _, _, _, _⟩, _), ⟨by omega, by omega⟩, ⟨rfl, rfl, trivial⟩, ⟨rfl, rfl, rfl, trivial⟩⟩
    refine ⟨fun _ => ?_, fun _ => ?_⟩
    · refine ⟨fun _ => ?_, fun h => nomatch h⟩
      refine ⟨⟨rfl, trivial⟩, ⟨rfl, trivial⟩, ?_⟩
      refine ⟨0, 1, cap, zs, _, _, rfl, ⟨rfl, rfl⟩, ⟨hz, by omega, by omega⟩, ⟨_, rfl, by omega, by omega⟩, ?_⟩
      rintro _ k3 ⟨_, r3, hnn, rfl, ⟨hr3, hk3⟩⟩
      cases hnn
      exact ⟨(⟨_, _, _, _, _, _, _, _, _⟩, _), ⟨by omega, by omega⟩, ⟨rfl, rfl, trivial⟩, ⟨rfl, rfl, rfl, trivial⟩⟩
    refine ⟨fun _ => ?_, fun _ => ?_⟩
    · refine ⟨fun _ => ?_, fun h => nomatch h⟩
      refine ⟨⟨rfl, trivial⟩, ⟨rfl, trivial⟩, ?_⟩
      refine ⟨0, 1, cap, zs, _, _, rfl, ⟨rfl, rfl⟩, ⟨hz, by omega, by omega⟩, ⟨_, rfl, by omega, by omega⟩, ?_⟩
      rintro _ k3 ⟨_, r3, hnn, rfl, ⟨hr3, hk3⟩⟩
      cases hnn
      exact ⟨(⟨_, _, _, _, _, _, _, _, _⟩, _), ⟨by omega, by omega⟩, ⟨rfl, rfl, trivial⟩, ⟨rfl, rfl, rfl, trivial⟩⟩
    refine ⟨fun _ => ?_, fun _ => ?_⟩
    · refine ⟨⟨rfl, trivial⟩, ⟨rfl, trivial⟩, ?_⟩
      refine ⟨0, 1, cap, zs, _, _, rfl, ⟨rfl, rfl⟩, ⟨hz, by omega, by omega⟩, ⟨_, rfl, by omega, by omega⟩, ?_⟩
      rintro _ k3 ⟨_, r3, hnn, rfl, ⟨hr3, hk3⟩⟩
      cases hnn
      exact ⟨(⟨_, _, _, _, _, _, _, _, _⟩, _), ⟨by omega, by omega⟩, ⟨rfl, rfl, trivial⟩, ⟨rfl, rfl, rfl, trivial⟩⟩
    refine ⟨fun _ => ?_, fun _ => ?_⟩
    · refine ⟨⟨rfl, trivial⟩, ?_⟩
      refine ⟨0, 1, cap, zs, _, _, rfl, ⟨rfl, rfl⟩, ⟨hz, by omega, by omega⟩, ⟨_, rfl, by rw [wrapi (by omega)]; omega, by rw [wrapi (by omega)]; omega⟩, ?_⟩
      rintro _ k3 ⟨_, r3, hnn, rfl, ⟨hr3, hk3⟩⟩
      cases hnn
      exact ⟨(⟨_, _, _, _, _, _, _, _, _⟩, _), ⟨by omega, by omega⟩, ⟨rfl, rfl, trivial⟩, ⟨rfl, rfl, rfl, trivial⟩⟩
    refine ⟨fun _ => ?_, fun _ => ?_⟩
    · refine ⟨0, 1, cap, zs, _, _, rfl, ⟨rfl, rfl⟩, ⟨hz, by omega, by omega⟩, ⟨_, rfl, by omega, by omega⟩, ?_⟩
      rintro _ k3 ⟨_, r3, hnn, rfl, ⟨hr3, hk3⟩⟩
      cases hnn
      refine ⟨_, _, rfl, ⟨by omega, by omega⟩, ?_⟩
      refine ⟨fun _ => ?_, fun _ => ?_⟩
      · exact ⟨(⟨_, _, _, _, _, _, _, _, _⟩, _), ⟨by omega, by omega⟩, ⟨rfl, rfl, trivial⟩, ⟨rfl, rfl, rfl, trivial⟩⟩
      · exact ⟨(⟨_, _, _, _, _, _, _, _, _⟩, _), ⟨by omega, by omega⟩, ⟨rfl, rfl, trivial⟩, ⟨rfl, rfl, rfl, trivial⟩⟩
    refine ⟨fun _ => ?_, fun _ => ?_⟩
    · refine ⟨fun _ => ?_, fun _ => ?_⟩
      · exact ⟨(⟨_, _, _, _, _, _, _, _, _⟩, _), ⟨by omega, by omega⟩, ⟨rfl, rfl, trivial⟩, ⟨rfl, rfl, rfl, trivial⟩⟩
      · exact ⟨(⟨_, _, _, _, _, _, _, _, _⟩, _), ⟨by omega, by omega⟩, ⟨rfl, rfl, trivial⟩, ⟨rfl, rfl, rfl, trivial⟩⟩
    refine ⟨0, 1, cap, zs, _, _, rfl, ⟨rfl, rfl⟩, ⟨hz, by omega, by omega⟩, ⟨_, rfl, by omega, by omega⟩, ?_⟩
    rintro _ k3 ⟨_, r3, hnn, rfl, ⟨hr3, hk3⟩⟩
    cases hnn
    exact ⟨(⟨_, _, _, _, _, _, _, _, _⟩, _), ⟨by omega, by omega⟩, ⟨rfl, rfl, trivial⟩, ⟨rfl, rfl, rfl, trivial⟩⟩
  · rintro ⟨en, k2⟩ hk2
    refine ⟨⟨by decide, rfl, rfl⟩, ?_⟩
    exact ⟨k2, ⟨⟨en, rfl⟩, by omega, by omega⟩, pure_ent en, rfl⟩
def prePlat (c : Cfg) (s : St) (args : List Value) (k : Int) : Prop := (CfgV c ∧ StInv c s) ∧ ∃ tick, args = [.int .i64 tick] ∧ 0 ≤ tick ∧ tick ≤ 2147483648
def ctPlatform : CT := ctGen (fun _ _ _ _ => EntR) prePlat
theorem platformOk : CSound Tryz.prog 43 ctPlatform := genOk (by kernel_rfl) (by
    rintro c s args k ⟨-, tick, rfl, -⟩ v hv
    simp at hv
    subst hv
    trivial) (by
  rintro args g A cap zs k x c y s w hz hk0 hk1 ⟨⟨hV, hI⟩, tick, rfl, h0, h1⟩ ht hc hs
  refine gen_calls platFok Tryz.func43 rfl (D := platD) (by kernel_rfl) rfl (fun v hv => by simp at hv; subst hv; trivial) g A cap zs k x c y s w ht hc hs (R := EntR k) ?_
  exact plat_sx cap zs k tick _ c _ s hz ⟨hk0, by omega⟩ hV hI ⟨h0, h1⟩)
end Go.Proofs.YtjobcfpnmfjlfaaGreat

namespace Go.Proofs.YtjobcfpnmfjlfaaGreat
open Go.RowKit
set_option linter.unusedSimpArgs false
set_option linter.unusedVariables false

theorem r12Copied_calls (y : StA) (s : St) (w : World) (hs : StOk w (· < w.heap.size) y s) (hm : s.tenants.length ≤ 1000000) (hm2 : s.cells.length ≤ 1000000) :
    Calls Tryz.prog 18 #[.agg (stC y s)] w fun e w' => ∃ y2, e = .returned (.agg (stC y2 s)) ∧ StOwn2 w.heap.size w' y2 s ∧ Below w.heap.size w w' := by
  have := rd_callsM ttOk (ft_nil.i _) Tryz.func18 rfl (D := []) (by kernel_rfl) (vs := [stV SN1 (sk y) s]) rfl noX noC y s noA noS w (noC_ok _ _) hs (noS_ok w _) (fun v hv => by
    simp only [List.mem_cons, List.not_mem_nil, or_false] at hv
    rcases hv with rfl
    exact rpl_st_ok noX noC y s noA noS) (copied_sx (sk y) s hm hm2)
  rw [List.map_cons, rpl_st] at this
  refine this.mono ?_
  rintro e w' ⟨v, mem', nx', ρ', rfl, ⟨T, Cc, rT, rC, hne, rfl, hT, hC⟩, hv, hm', hb⟩
  obtain ⟨y2, e1, e2⟩ := hm'.own2 rfl hne hT hC
  exact ⟨y2, congrArg Ending.returned e1, e2, hb⟩
def ctCopied : CT := fun vs mem nx K => ∃ M y s, vs = [stV M y s] ∧ (HasRow mem M.t 12 tsC default s.tenants ∧ HasRow mem M.c 4 csC default s.cells) ∧ (s.tenants.length ≤ 1000000 ∧ s.cells.length ≤ 1000000) ∧ ∀ y2, K (stV ⟨nx + 1, nx, 0⟩ y2 s) (stMO ⟨nx + 1, nx, 0⟩ s ++ mem) (nx + 2)
theorem copiedOk : CSound Tryz.prog 18 ctCopied := ⟨by kernel_rfl, fun {C ρ fr mem nx a w vs K} hc hs hv => by
  obtain ⟨M, y, s, rfl, ⟨h1, h2⟩, ⟨hm, hm2⟩, hK⟩ := hc
  rw [List.map_cons, den_st]
  refine (r12Copied_calls (stX ρ M y) s w (hs.stRow h1 h2) hm hm2).mono ?_
  rintro e w' ⟨y2, rfl, ho, hb⟩
  obtain ⟨q1, q2, q3, q4⟩ := hs.addOwnSt hb ho
  exact ⟨_, _, _, _, by rw [q2], hK ⟨y2.ct, y2.cc⟩, q1, q3, q4⟩⟩
/-! ref12.no, together -/
abbrev stZ : Value := .agg #[zi, zi, zs0, zs0, zi, zi, zi, zi]
theorem CSound.pure {f : FuncId} {ct : CT} (ent : ((Tryz.prog).funcs[f]?).map (fun fn => (fn.name == "runtime.NumGoroutine", fn.body.isNone)) = some (false, false))
    (h : ∀ vs mem nx K, ct vs mem nx K → ∃ v, K v mem nx ∧ (∀ ρ n, den ρ v = v ∧ okV ρ n v) ∧ ∀ ρ w, Calls Tryz.prog f (vs.map (den ρ)).toArray w fun e w' => e = .returned v ∧ Below w.heap.size w w') : CSound Tryz.prog f ct :=
  ⟨ent, fun {C ρ fr mem nx a w vs K} hc hs hv => by
    obtain ⟨v, hK, hp, hcalls⟩ := h vs mem nx K hc
    refine (hcalls ρ w).mono ?_
    rintro e w' ⟨rfl, hb⟩
    exact ⟨v, mem, nx, ρ, by rw [(hp ρ nx).1], hK, hs.later hb, (hp ρ nx).2, ExtS.refl _ _⟩⟩
def ctNo : CT := fun vs mem nx K => ∃ e, vs = [.int .i64 e] ∧ K (.tuple #[stZ, .int .i64 e]) mem nx
theorem noOk : CSound Tryz.prog 49 ctNo := CSound.pure (by kernel_rfl) (by
  rintro vs mem nx K ⟨e, rfl, hK⟩
  refine ⟨_, hK, fun ρ n => ⟨by simp [den, den2, den1], fun u hu => ?_⟩, fun ρ w => ?_⟩
  · simp at hu
    rcases hu with rfl | rfl
    · intro u hu
      simp at hu
      rcases hu with rfl | rfl | rfl <;> trivial
    · trivial
  · have := rd_callsM ttOk (ft_nil.i _) Tryz.func49 rfl (D := []) (by kernel_rfl) (vs := [.int .i64 e]) rfl noX noC noA noS noA noS w (noC_ok _ _) (noS_ok w _) (noS_ok w _) (fun v hv => by simp at hv; subst hv; trivial) (R := fun v _ _ => v = .tuple #[stZ, .int .i64 e]) rfl
    refine this.mono ?_
    rintro e2 w' ⟨v, mem', nx', ρ', rfl, rfl, -, -, hb⟩
    exact ⟨by simp [den, den2, den1], hb⟩)
def togB (c : Cfg) (a b : Int) : Bool := decide (0 ≤ a) && decide (0 ≤ b) && !apartB c a b
def tgF : FT := [(90, ctApart)]
theorem tgFok : FTok Tryz.prog tgF := ft_cons apartOk ft_nil
set_option maxRecDepth 100000 in
theorem together_sx (x : CfgK) (c : Cfg) (a b : Int) (hV : CfgV c) :
    sx tt tgF [] (bodyOf Tryz.f92) (argF 0 [cfgV CN1 x c, .int .i64 a, .int .i64 b]) (rdM c noS noS) 10 (endx tt Tryz.f92.results.toList fun v _ _ => v = .bool (togB c a b) ∧ pureV v) := by
  unfold togB
  refine ⟨fun h0 => ?_, fun h0 => ?_⟩
  · refine ⟨fun h1 => ?_, fun h1 => ?_⟩
    · refine ⟨CN1, x, c, a, b, rfl, by repeat (first | exact trivial | refine ⟨rfl, ?_⟩), hV, ?_⟩
      refine ⟨?_, trivial⟩
      have e0 : decide (0 ≤ a) = true := h0
      have e1 : decide (0 ≤ b) = true := h1
      rw [e0, e1]
      rfl
    · refine ⟨?_, trivial⟩
      have e0 : decide (0 ≤ a) = true := h0
      have e1 : decide (0 ≤ b) = false := h1
      rw [e0, e1]
      rfl
  · refine ⟨(fun h => nomatch h), fun _ => ?_⟩
    refine ⟨?_, trivial⟩
    have e0 : decide (0 ≤ a) = false := h0
    rw [e0]
    rfl
theorem r12Together_any (x : CfgA) (c : Cfg) (a b : Int) (w : World) (hV : CfgV c) (hc : CfgOk w (· < w.heap.size) x c) : Calls Tryz.prog 92 #[.agg (cfgC x c), .int .i64 a, .int .i64 b] w fun r w' => r = .returned (.bool (togB c a b)) ∧ Below w.heap.size w w' := by
  have := rd_calls tgFok Tryz.func92 rfl (D := []) (by kernel_rfl) (vs := [cfgV CN1 (ck x) c, .int .i64 a, .int .i64 b]) rfl x c noA noS noA noS w hc (noS_ok w _) (noS_ok w _) (fun v hv => by
    simp only [List.mem_cons, List.not_mem_nil, or_false] at hv
    rcases hv with rfl | rfl | rfl
    · exact rpl_cfg_ok x c noA noS noA noS
    · trivial
    · trivial) (R := fun v => v = .bool (togB c a b)) (together_sx (ck x) c a b hV)
  rw [List.map_cons, rpl_cfg] at this
  refine this.mono ?_
  rintro e w' ⟨v, rfl, -, rfl, hb⟩
  exact ⟨rfl, hb⟩
def ctTogether : CT := fun vs mem nx K => ∃ N x c a b, vs = [cfgV N x c, .int .i64 a, .int .i64 b] ∧ (keeps mem (cfgM N c)) ∧ (CfgV c) ∧ K (.bool (togB c a b)) mem nx
theorem togetherOk : CSound Tryz.prog 92 ctTogether := (ptsOk (R := fun l z => ∃ c a b, l = [.cf c, .vl (.int .i64 a), .vl (.int .i64 b)] ∧ z = .bool (togB c a b)) (pre := fun l => ∃ c a b, l = [.cf c, .vl (.int .i64 a), .vl (.int .i64 b)] ∧ (CfgV c)) (by kernel_rfl) (by
  rintro ps w ⟨c, a, b, hps, hpre⟩ hok
  obtain ⟨x, ps0, rfl, hps0⟩ := dt_c hps
  obtain ⟨ps1, rfl, hps1⟩ := dt_v hps0
  obtain ⟨ps2, rfl, hps2⟩ := dt_v hps1
  obtain rfl := dt_nil hps2
  have hpc := hok (.cf x c) (by simp)
  refine (r12Together_any x c a b w hpre hpc).mono ?_
  rintro e w' ⟨rfl, hb⟩
  exact ⟨_, ⟨c, a, b, rfl, rfl⟩, trivial, rfl, hb⟩)).mono (by
  rintro vs mem nx K ⟨N, x, c, a, b, rfl, hk, hpre, hK⟩
  exact ⟨[.cf N x c, .vl _, .vl _], rfl, ⟨hk, trivial, trivial, trivial⟩, ⟨_, _, _, rfl, hpre⟩, by rintro z ⟨c', a', b', hl, hz⟩; cases hl; subst hz; exact hK⟩)
def ctValid6 : CT := fun vs mem nx K => ∃ N x c e, vs = [cfgV N x c, entV' e] ∧ keeps mem (cfgM N c) ∧ CfgV c ∧ K (.bool (entV c e)) mem nx
theorem valid6Ok : CSound Tryz.prog 25 ctValid6 := ⟨by kernel_rfl, fun {C ρ fr mem nx a w vs K} hc hs hv => by
  obtain ⟨N, x, c, e, rfl, hk, hV, hK⟩ := hc
  have e0 : ([cfgV N x c, entV' e].map (den ρ)).toArray = #[.agg (cfgC (cfgX ρ N x) c), .agg (entC e).toArray] := by
    rw [List.map_cons, den_cfg]
    simp [den, den2, den1, entC]
  rw [e0]
  refine (r6Valid_any (cfgX ρ N x) c e w hV).mono ?_
  rintro r w' ⟨rfl, hb⟩
  exact ⟨.bool (entV c e), mem, nx, ρ, rfl, hK, hs.later hb, trivial, ExtS.refl _ _⟩⟩
def ctRegOf : CT := fun vs mem nx K => ∃ N x c k, vs = [cfgV N x c, .int .i64 k] ∧ (keeps mem (cfgM N c)) ∧ (CfgV c) ∧ K (.int .i64 (regionOf c k)) mem nx
theorem regOfOk : CSound Tryz.prog 112 ctRegOf := (ptsOk (R := fun l z => ∃ c k, l = [.cf c, .vl (.int .i64 k)] ∧ z = .int .i64 (regionOf c k)) (pre := fun l => ∃ c k, l = [.cf c, .vl (.int .i64 k)] ∧ (CfgV c)) (by kernel_rfl) (by
  rintro ps w ⟨c, k, hps, hpre⟩ hok
  obtain ⟨x, ps0, rfl, hps0⟩ := dt_c hps
  obtain ⟨ps1, rfl, hps1⟩ := dt_v hps0
  obtain rfl := dt_nil hps1
  have hpc := hok (.cf x c) (by simp)
  refine (r4RegionOf_any x c k w hpre hpc).mono ?_
  rintro e w' ⟨rfl, hb⟩
  exact ⟨_, ⟨c, k, rfl, rfl⟩, trivial, rfl, hb⟩)).mono (by
  rintro vs mem nx K ⟨N, x, c, k, rfl, hk, hpre, hK⟩
  exact ⟨[.cf N x c, .vl _], rfl, ⟨hk, trivial, trivial⟩, ⟨_, _, rfl, hpre⟩, by rintro z ⟨c', k', hl, hz⟩; cases hl; subst hz; exact hK⟩)
end Go.Proofs.YtjobcfpnmfjlfaaGreat

namespace Go.Proofs.YtjobcfpnmfjlfaaGreat
open Go.RowKit
set_option linter.unusedSimpArgs false
set_option linter.unusedVariables false

/-! ref11.Booked, ref11.Over -/
theorem addAt_in {l : List Int} {i n : Int} (h0 : 0 ≤ i) (h1 : i < l.length) : addAt l i n = l.set i.toNat (l.getD i.toNat 0 + n) := by unfold addAt; rw [if_pos ⟨h0, h1⟩]
theorem addAt_out {l : List Int} {i n : Int} (h : ¬ (0 ≤ i ∧ i < l.length)) : addAt l i n = l := by unfold addAt; rw [if_neg h]
theorem Within.getD {l : List Int} {m : Int} (h : Within l m) {k : Nat} (hk : k < l.length) : 0 ≤ l.getD k 0 ∧ l.getD k 0 ≤ m := by
  rw [getD_some (List.getElem?_eq_getElem hk)]
  exact h _ (List.getElem_mem hk)
abbrev rowI (n : Nat) (l : List Int) : ABlk := .row (1000000 + 3) 1 n (fun k => intC (l.getD k 0))
def bkF : FT := [(125, ctInl tt [] [] Tryz.f125 (bodyOf Tryz.f125))]
def bkD : List (Nat × DQ) := [(9000000, { k := 0, L := [125] }),
  (2000003, { k := 0, L := [0, 1, 2, 3, 4, 5, 6, 7, 8, 9, 10, 11], sl := [2, 3, 5] }),
  (5, { k := 13, L := [0, 1, 2, 3, 4, 5, 6, 7, 8, 9, 10, 11], A := [10, 11], pre := [(0, false), (1, false), (2, false), (3, false), (4, false), (5, false), (6, false), (7, false), (8, false), (9, false)], post := [(12, true)] }),
  (1000009, { k := 15, L := [0, 1, 2, 3, 4, 5, 6, 7, 8, 9, 10, 11, 13, 14], sl := [2, 3, 5, 6, 7, 8] }),
  (1000010, { k := 15, L := [0, 1, 2, 3, 4, 5, 6, 7, 8, 9, 10, 11, 13, 14], sl := [2, 3, 5, 6, 7, 8] }),
  (1000011, { k := 15, L := [0, 1, 2, 3, 4, 5, 6, 7, 8, 9, 10, 11, 13, 14], sl := [2, 3, 5, 6, 7, 8] }),
  (1000004, { k := 15, L := [0, 1, 2, 3, 4, 5, 6, 7, 8, 9, 10, 11], sl := [2, 3, 5, 6] })]
theorem bkFok : FTokI Tryz.prog bkF (inlOf bkD) := fti_cons (inl_ok ttOk (ft_nil.i _) mixed (by kernel_rfl) Tryz.func125 rfl (by kernel_rfl) (by decide)) fti_nil
set_option maxRecDepth 100000 in
set_option maxHeartbeats 4000000 in
theorem booked_sx (x : CfgK) (c : Cfg) (y : StK) (s : St) (hV : CfgV c) (hlt : s.tenants.length = c.tenants.length) :
    sx tt bkF bkD (bodyOf Tryz.f120) (argF 0 [cfgV CN1 x c, stV SN1 y s]) (rdM c s noS) 10 (endx tt Tryz.f120.results.toList fun v mem' _ => SlR mem' 1 intC 0 (booked c s) v) := by
  have hnt := hV.nt
  have hnc := hV.nc
  have e0 : (fun _ : Nat => [zi]) = fun k => intC ((bookK c s 0).getD k 0) := by
    funext k
    show [zi] = intC ((List.replicate c.cells.length (0 : Int)).getD k 0)
    rw [List.getD_eq_getElem?_getD, List.getElem?_replicate]
    split <;> rfl
  refine ⟨⟨rfl, by omega, by show _ * (8 : Int) ≤ _; omega⟩, ?_⟩
  refine ⟨Int × List Int, fun q => match q with | (i, l) => [(6, .int .i64 i)], fun q => match q with | (i, l) => [(12, rowI c.cells.length l)], fun q => match q with | (i, l) => (0 ≤ i ∧ i ≤ s.tenants.length) ∧ l = bookK c s i.toNat, fun q => match q with | (i, l) => ((s.tenants.length : Int) - i).toNat, ⟨(0, bookK c s 0), ⟨by omega, rfl⟩, (by repeat (first | exact trivial | refine ⟨rfl, ?_⟩)), ⟨?_, (by repeat (first | exact trivial | refine ⟨rfl, ?_⟩))⟩⟩, ?_⟩
  · show some (ABlk.row _ 1 _ (fun _ => [zi])) = _
    rw [e0]
    rfl
  · rintro ⟨i, l⟩ ⟨hi, hl⟩
    refine ⟨⟨rfl, rfl⟩, ?_⟩
    refine ⟨fun hlt1 => ?_, fun hge => ?_⟩
    · have hlt2 : i < (s.tenants.length : Int) := of_decide_eq_true hlt1
      have hk0 : i.toNat < s.tenants.length := by omega
      have hk1 : i.toNat < c.tenants.length := by omega
      have hd := tenAt_bd hV (getD_get (d := default) hk1)
      have hw0 := bookK_within hV s i.toNat
      have hl0 := bookK_len c s i.toNat
      have hsucc := bookK_succ (getD_get (d := default) hk0) (getD_get (d := default) hk1)
      refine ⟨List Int, fun _ => [], fun l => [(12, rowI c.cells.length l)], fun l => l = (bookT (bookK c s i.toNat) (s.tenants.getD i.toNat default) (c.tenants.getD i.toNat default)), ?_, ?_⟩
      · refine ⟨⟨Nat.le_refl _, hi.1, hlt2⟩, ?_⟩
        refine ⟨⟨Nat.le_refl _, hi.1, by omega⟩, ?_⟩
        refine ⟨(by repeat (first | exact trivial | refine ⟨rfl, ?_⟩)), ?_⟩
        refine ⟨fun hp => ?_, fun hp => ?_⟩
        · refine ⟨_, ?_, (by repeat (first | exact trivial | refine ⟨rfl, ?_⟩)), (by repeat (first | exact trivial | refine ⟨rfl, ?_⟩))⟩
          rw [hl]; unfold bookT; rw [if_pos (by simpa using hp)]
        · have hpl : (s.tenants.getD i.toNat default).placed = true := by simpa using hp
          refine ⟨List Int, fun _ => [], fun l => [(12, rowI c.cells.length l)], fun l => l = (if (s.tenants.getD i.toNat default).shed then (bookK c s i.toNat) else (addAt (addAt (bookK c s i.toNat) (s.tenants.getD i.toNat default).home (c.tenants.getD i.toNat default).load) (s.tenants.getD i.toNat default).target (c.tenants.getD i.toNat default).load)), ?_, ?_⟩
          · refine ⟨fun hs => ?_, fun hs => ?_⟩
            · have hs2 : (s.tenants.getD i.toNat default).shed = false := by simpa using hs
              refine ⟨List Int, fun _ => [], fun l => [(12, rowI c.cells.length l)], fun l => l = (addAt (bookK c s i.toNat) (s.tenants.getD i.toNat default).home (c.tenants.getD i.toNat default).load), ?_, ?_⟩
              · have hle := hl
                have hw := hw0
                rw [← hle] at hw
                have hlen : l.length = c.cells.length := by rw [hle]; exact hl0
                refine ⟨fun a0 => ?_, fun a0 => ?_⟩
                · refine ⟨fun a1 => ?_, fun a1 => ?_⟩
                  · have a1b : (s.tenants.getD i.toNat default).home < (l.length : Int) := by have q : (s.tenants.getD i.toNat default).home < ((c.cells.length : Int).toNat : Int) := of_decide_eq_true a1; omega
                    have a0b : 0 ≤ (s.tenants.getD i.toNat default).home := of_decide_eq_true a0
                    have hk : ((s.tenants.getD i.toNat default).home).toNat < l.length := by omega
                    have hg := hw.getD hk
                    refine ⟨⟨by omega, a0b, by omega⟩, ?_⟩
                    refine ⟨⟨by omega, a0b, by omega⟩, ?_⟩
                    refine ⟨intC (l.getD ((s.tenants.getD i.toNat default).home).toNat 0 + (c.tenants.getD i.toNat default).load), by rw [wrapi (n := l.getD ((s.tenants.getD i.toNat default).home).toNat 0 + (c.tenants.getD i.toNat default).load) (by omega)]; rfl, ?_⟩
                    rw [setEl_set hk]
                    refine ⟨_, ?_, (by repeat (first | exact trivial | refine ⟨rfl, ?_⟩)), (by repeat (first | exact trivial | refine ⟨rfl, ?_⟩))⟩
                    rw [← hle]; exact (addAt_in a0b a1b).symm
                  · refine ⟨_, ?_, (by repeat (first | exact trivial | refine ⟨rfl, ?_⟩)), (by repeat (first | exact trivial | refine ⟨rfl, ?_⟩))⟩
                    rw [← hle]; exact (addAt_out (by rintro ⟨-, q⟩; have q2 : ¬ (s.tenants.getD i.toNat default).home < ((c.cells.length : Int).toNat : Int) := of_decide_eq_false a1; omega)).symm
                · refine ⟨(fun h => nomatch h), fun _ => ?_⟩
                  refine ⟨_, ?_, (by repeat (first | exact trivial | refine ⟨rfl, ?_⟩)), (by repeat (first | exact trivial | refine ⟨rfl, ?_⟩))⟩
                  rw [← hle]; exact (addAt_out (by rintro ⟨q, -⟩; exact absurd q (of_decide_eq_false a0))).symm
              · rintro l hle
                refine ⟨⟨by decide, rfl, rfl⟩, ?_⟩
                have hw1 := hw0.add (n := (c.tenants.getD i.toNat default).load) (by omega) (s.tenants.getD i.toNat default).home
                have hw := hw1
                rw [← hle] at hw
                have hlen : l.length = c.cells.length := by rw [hle, addAt_len]; exact hl0
                refine ⟨fun a0 => ?_, fun a0 => ?_⟩
                · refine ⟨fun a1 => ?_, fun a1 => ?_⟩
                  · have a1b : (s.tenants.getD i.toNat default).target < (l.length : Int) := by have q : (s.tenants.getD i.toNat default).target < ((c.cells.length : Int).toNat : Int) := of_decide_eq_true a1; omega
                    have a0b : 0 ≤ (s.tenants.getD i.toNat default).target := of_decide_eq_true a0
                    have hk : ((s.tenants.getD i.toNat default).target).toNat < l.length := by omega
                    have hg := hw.getD hk
                    refine ⟨⟨by omega, a0b, by omega⟩, ?_⟩
                    refine ⟨⟨by omega, a0b, by omega⟩, ?_⟩
                    refine ⟨intC (l.getD ((s.tenants.getD i.toNat default).target).toNat 0 + (c.tenants.getD i.toNat default).load), by rw [wrapi (n := l.getD ((s.tenants.getD i.toNat default).target).toNat 0 + (c.tenants.getD i.toNat default).load) (by omega)]; rfl, ?_⟩
                    rw [setEl_set hk]
                    refine ⟨_, ?_, (by repeat (first | exact trivial | refine ⟨rfl, ?_⟩)), (by repeat (first | exact trivial | refine ⟨rfl, ?_⟩))⟩
                    rw [hs2, if_neg (by decide), ← hle]; exact (addAt_in a0b a1b).symm
                  · refine ⟨_, ?_, (by repeat (first | exact trivial | refine ⟨rfl, ?_⟩)), (by repeat (first | exact trivial | refine ⟨rfl, ?_⟩))⟩
                    rw [hs2, if_neg (by decide), ← hle]; exact (addAt_out (by rintro ⟨-, q⟩; have q2 : ¬ (s.tenants.getD i.toNat default).target < ((c.cells.length : Int).toNat : Int) := of_decide_eq_false a1; omega)).symm
                · refine ⟨(fun h => nomatch h), fun _ => ?_⟩
                  refine ⟨_, ?_, (by repeat (first | exact trivial | refine ⟨rfl, ?_⟩)), (by repeat (first | exact trivial | refine ⟨rfl, ?_⟩))⟩
                  rw [hs2, if_neg (by decide), ← hle]; exact (addAt_out (by rintro ⟨q, -⟩; exact absurd q (of_decide_eq_false a0))).symm
            · have hs2 : (s.tenants.getD i.toNat default).shed = true := by simpa using hs
              refine ⟨_, ?_, (by repeat (first | exact trivial | refine ⟨rfl, ?_⟩)), (by repeat (first | exact trivial | refine ⟨rfl, ?_⟩))⟩
              rw [hs2, if_pos rfl]; exact hl
          · rintro l hle
            refine ⟨⟨by decide, rfl, rfl⟩, ?_⟩
            refine ⟨List Int, fun _ => [], fun l => [(12, rowI c.cells.length l)], fun l => l = (addAt (if (s.tenants.getD i.toNat default).shed then (bookK c s i.toNat) else (addAt (addAt (bookK c s i.toNat) (s.tenants.getD i.toNat default).home (c.tenants.getD i.toNat default).load) (s.tenants.getD i.toNat default).target (c.tenants.getD i.toNat default).load)) (s.tenants.getD i.toNat default).standby (c.tenants.getD i.toNat default).shadow), ?_, ?_⟩
            · have hw2 : Within (if (s.tenants.getD i.toNat default).shed then (bookK c s i.toNat) else (addAt (addAt (bookK c s i.toNat) (s.tenants.getD i.toNat default).home (c.tenants.getD i.toNat default).load) (s.tenants.getD i.toNat default).target (c.tenants.getD i.toNat default).load)) ((i.toNat : Int) * 262144 + (c.tenants.getD i.toNat default).load + (c.tenants.getD i.toNat default).load) := by
                split
                · exact hw0.mono (by omega)
                · exact (hw0.add (n := (c.tenants.getD i.toNat default).load) (by omega) (s.tenants.getD i.toNat default).home).add (n := (c.tenants.getD i.toNat default).load) (by omega) (s.tenants.getD i.toNat default).target
              have hw := hw2
              rw [← hle] at hw
              have hlen : l.length = c.cells.length := by
                rw [hle]; split <;> simp only [addAt_len, hl0]
              refine ⟨fun a0 => ?_, fun a0 => ?_⟩
              · refine ⟨fun a1 => ?_, fun a1 => ?_⟩
                · have a1b : (s.tenants.getD i.toNat default).standby < (l.length : Int) := by have q : (s.tenants.getD i.toNat default).standby < ((c.cells.length : Int).toNat : Int) := of_decide_eq_true a1; omega
                  have a0b : 0 ≤ (s.tenants.getD i.toNat default).standby := of_decide_eq_true a0
                  have hk : ((s.tenants.getD i.toNat default).standby).toNat < l.length := by omega
                  have hg := hw.getD hk
                  refine ⟨⟨by omega, a0b, by omega⟩, ?_⟩
                  refine ⟨⟨by omega, a0b, by omega⟩, ?_⟩
                  refine ⟨intC (l.getD ((s.tenants.getD i.toNat default).standby).toNat 0 + (c.tenants.getD i.toNat default).shadow), by rw [wrapi (n := l.getD ((s.tenants.getD i.toNat default).standby).toNat 0 + (c.tenants.getD i.toNat default).shadow) (by omega)]; rfl, ?_⟩
                  rw [setEl_set hk]
                  refine ⟨_, ?_, (by repeat (first | exact trivial | refine ⟨rfl, ?_⟩)), (by repeat (first | exact trivial | refine ⟨rfl, ?_⟩))⟩
                  rw [← hle]; exact (addAt_in a0b a1b).symm
                · refine ⟨_, ?_, (by repeat (first | exact trivial | refine ⟨rfl, ?_⟩)), (by repeat (first | exact trivial | refine ⟨rfl, ?_⟩))⟩
                  rw [← hle]; exact (addAt_out (by rintro ⟨-, q⟩; have q2 : ¬ (s.tenants.getD i.toNat default).standby < ((c.cells.length : Int).toNat : Int) := of_decide_eq_false a1; omega)).symm
              · refine ⟨(fun h => nomatch h), fun _ => ?_⟩
                refine ⟨_, ?_, (by repeat (first | exact trivial | refine ⟨rfl, ?_⟩)), (by repeat (first | exact trivial | refine ⟨rfl, ?_⟩))⟩
                rw [← hle]; exact (addAt_out (by rintro ⟨q, -⟩; exact absurd q (of_decide_eq_false a0))).symm
            · rintro l hle
              refine ⟨⟨by decide, rfl, rfl⟩, ?_⟩
              have hw2 : Within (if (s.tenants.getD i.toNat default).shed then (bookK c s i.toNat) else (addAt (addAt (bookK c s i.toNat) (s.tenants.getD i.toNat default).home (c.tenants.getD i.toNat default).load) (s.tenants.getD i.toNat default).target (c.tenants.getD i.toNat default).load)) ((i.toNat : Int) * 262144 + (c.tenants.getD i.toNat default).load + (c.tenants.getD i.toNat default).load) := by
                split
                · exact hw0.mono (by omega)
                · exact (hw0.add (n := (c.tenants.getD i.toNat default).load) (by omega) (s.tenants.getD i.toNat default).home).add (n := (c.tenants.getD i.toNat default).load) (by omega) (s.tenants.getD i.toNat default).target
              have hw3 := hw2.add (n := (c.tenants.getD i.toNat default).shadow) (by omega) (s.tenants.getD i.toNat default).standby
              have hw := hw3
              rw [← hle] at hw
              have hlen : l.length = c.cells.length := by
                rw [hle, addAt_len]
                split <;> simp only [addAt_len, hl0]
              have hbt : (bookT (bookK c s i.toNat) (s.tenants.getD i.toNat default) (c.tenants.getD i.toNat default)) = addAt (addAt (if (s.tenants.getD i.toNat default).shed then (bookK c s i.toNat) else (addAt (addAt (bookK c s i.toNat) (s.tenants.getD i.toNat default).home (c.tenants.getD i.toNat default).load) (s.tenants.getD i.toNat default).target (c.tenants.getD i.toNat default).load)) (s.tenants.getD i.toNat default).standby (c.tenants.getD i.toNat default).shadow) (s.tenants.getD i.toNat default).next (c.tenants.getD i.toNat default).shadow := by unfold bookT; rw [if_neg (by rw [hpl]; decide)]
              rw [← hle] at hbt
              refine ⟨fun a0 => ?_, fun a0 => ?_⟩
              · refine ⟨fun a1 => ?_, fun a1 => ?_⟩
                · have a1b : (s.tenants.getD i.toNat default).next < (l.length : Int) := by have q : (s.tenants.getD i.toNat default).next < ((c.cells.length : Int).toNat : Int) := of_decide_eq_true a1; omega
                  have a0b : 0 ≤ (s.tenants.getD i.toNat default).next := of_decide_eq_true a0
                  have hk : ((s.tenants.getD i.toNat default).next).toNat < l.length := by omega
                  have hg := hw.getD hk
                  refine ⟨⟨by omega, a0b, by omega⟩, ?_⟩
                  refine ⟨⟨by omega, a0b, by omega⟩, ?_⟩
                  refine ⟨intC (l.getD ((s.tenants.getD i.toNat default).next).toNat 0 + (c.tenants.getD i.toNat default).shadow), by rw [wrapi (n := l.getD ((s.tenants.getD i.toNat default).next).toNat 0 + (c.tenants.getD i.toNat default).shadow) (by omega)]; rfl, ?_⟩
                  rw [setEl_set hk]
                  refine ⟨_, ?_, (by repeat (first | exact trivial | refine ⟨rfl, ?_⟩)), (by repeat (first | exact trivial | refine ⟨rfl, ?_⟩))⟩
                  rw [hbt]; exact (addAt_in a0b a1b).symm
                · refine ⟨_, ?_, (by repeat (first | exact trivial | refine ⟨rfl, ?_⟩)), (by repeat (first | exact trivial | refine ⟨rfl, ?_⟩))⟩
                  rw [hbt]; exact (addAt_out (by rintro ⟨-, q⟩; have q2 : ¬ (s.tenants.getD i.toNat default).next < ((c.cells.length : Int).toNat : Int) := of_decide_eq_false a1; omega)).symm
              · refine ⟨(fun h => nomatch h), fun _ => ?_⟩
                refine ⟨_, ?_, (by repeat (first | exact trivial | refine ⟨rfl, ?_⟩)), (by repeat (first | exact trivial | refine ⟨rfl, ?_⟩))⟩
                rw [hbt]; exact (addAt_out (by rintro ⟨q, -⟩; exact absurd q (of_decide_eq_false a0))).symm
      · rintro l hle
        refine ⟨⟨by decide, rfl, rfl⟩, ?_⟩
        refine ⟨(_, _), ?_, (by repeat (first | exact trivial | refine ⟨rfl, ?_⟩)), (by repeat (first | exact trivial | refine ⟨rfl, ?_⟩))⟩
        dsimp only
        rw [wrapi (n := i + 1) (by omega)]
        refine ⟨⟨by omega, ?_⟩, by omega⟩
        rw [show (i + 1).toNat = i.toNat + 1 by omega, hsucc]
        exact hle
    · have hge2 : ¬ i < (s.tenants.length : Int) := of_decide_eq_false hge
      have hb : bookK c s i.toNat = booked c s := bookK_all c s (by omega)
      rw [hb] at hl
      have hlen : (booked c s).length = c.cells.length := by rw [← hb]; exact bookK_len c s _
      subst hl
      exact .inr ⟨12, _, _, c.cells.length, _, by rw [hlen]; rfl, rfl, rfl, by omega, fun k hk => rfl⟩
end Go.Proofs.YtjobcfpnmfjlfaaGreat
