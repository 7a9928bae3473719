import Derived.Test.YtjobcfpnmfjlfaaGreatPa04
import Derived.Laws.OwnMore
import Derived.Laws.Bits64
namespace Go.Proofs.YtjobcfpnmfjlfaaGreat
open Go.RowKit
set_option linter.unusedSimpArgs false
set_option linter.unusedVariables false

instance laterNonempty {B : Nat} {w : World} : Nonempty (Later B w) := ⟨⟨w, Below.refl _ _⟩⟩
section
variable {P : Program}
theorem quiet_belowW {w : World} (x : Later w.heap.size w) {f : FuncId} {args : Array Value} {v : Value}
    (h : Calls P f args x.world fun e w' => e = .returned v ∧ Below x.world.heap.size x.world w') : Calls P f args x.world fun e w'' => e = .returned v ∧ ∃ y : Later w.heap.size w, w'' = y.world :=
  h.mono fun _ w' ⟨he, hb⟩ => ⟨he, ⟨⟨w', x.below.trans (hb.mono x.below.size)⟩, rfl⟩⟩
theorem quiet_sameW {B : Nat} {w : World} (x : Later B w) {f : FuncId} {args : Array Value} {v : Value}
    (h : Calls P f args x.world fun e w' => e = .returned v ∧ x.world = w') : Calls P f args x.world fun e w'' => e = .returned v ∧ ∃ y : Later B w, w'' = y.world :=
  h.mono fun _ w' ⟨he, hb⟩ => ⟨he, ⟨x, hb.symm⟩⟩
end
theorem CfgOk.laterW {w : World} {x : CfgA} {c : Cfg} (h : CfgOk w (· < w.heap.size) x c) (y : Later w.heap.size w) : CfgOk y.world (· < y.world.heap.size) x c := h.belowW y.below
theorem StOk.laterW {w : World} {x : StA} {c : St} (h : StOk w (· < w.heap.size) x c) (y : Later w.heap.size w) : StOk y.world (· < y.world.heap.size) x c := h.belowW y.below

set_option maxHeartbeats 1000000 in
theorem r5Apart_any (x : CfgA) (c : Cfg) (a b : Int) (w : World) (hV : CfgV c) (hok : CfgOk w (· < w.heap.size) x c) :
    Calls Tryz.prog 90 #[.agg (cfgC x c), .int .i64 a, .int .i64 b] w fun e w' => e = .returned (.bool (apartB c a b)) ∧ Below w.heap.size w w' := by
  obtain ⟨az, cz, ac, cc, at_, ct, av, cv, ar, cr, ao, co⟩ := x
  have HV := Lib.hid hV
  have HK := Lib.hid hok
  have HL := Lib.hid ((Below.refl w.heap.size w).alloc (Nat.le_refl _) (.cells (cfgC ⟨az, cz, ac, cc, at_, ct, av, cv, ar, cr, ao, co⟩ c) 30))
  have HW := Lib.hid (HK.out.allocW (.cells (cfgC ⟨az, cz, ac, cc, at_, ct, av, cv, ar, cr, ao, co⟩ c) 30))
  have hBx := Blk.new w 30 (cfgC ⟨az, cz, ac, cc, at_, ct, av, cv, ar, cr, ao, co⟩ c)
  have hg := hBx.lt
  have d0 := hBx.cell' (i := 0) (v := .int .i64 c.regions) rfl
  have d1 := hBx.cell' (i := 1) (v := .slice az c.zones.length cz) rfl
  have d2 := hBx.cell' (i := 2) (v := .slice ac c.cells.length cc) rfl
  have d3 := hBx.cell' (i := 3) (v := .slice at_ c.tenants.length ct) rfl
  have d4 := hBx.cell' (i := 4) (v := .slice av c.versions.length cv) rfl
  have d5 := hBx.cell' (i := 5) (v := .slice ar c.replicas.length cr) rfl
  have d6 := hBx.cell' (i := 6) (v := .slice ao c.observers.length co) rfl
  have d7 := hBx.cell' (i := 7) (v := .int .i64 c.blast) rfl
  have d8 := hBx.cell' (i := 8) (v := .int .i64 c.lease) rfl
  have d9 := hBx.cell' (i := 9) (v := .int .i64 c.bake) rfl
  clear hBx
  unfold cfgC at HL HW d0 d1 d2 d3 d4 d5 d6 d7 d8 d9 hg
  simp only at HL HW d0 d1 d2 d3 d4 d5 d6 d7 d8 d9 hg
  clear hok hV HK
  unfold cfgC
  simp only
  go_enter Tryz.func90, Tryz.ntmps90
  go_wp2_with fail
  generalize w.alloc _ = W at *
  have hx : ∀ (y : Later W.heap.size W) b o, b < W.heap.size → y.world.cell? ⟨b, o, none⟩ = W.cell? ⟨b, o, none⟩ := fun y b o h => y.cell h
  refine wp_region_below W.heap.size (by kernel_rfl) (by kernel_rfl) ?_
  repeat (quiet_step ((go_at_call 112; exact quiet_belowW _ (r4RegionOf_any ⟨az, cz, ac, cc, at_, ct, av, cv, ar, cr, ao, co⟩ c _ _ HV.out (HW.out.laterW _)))))
  refine wpQuiet_nil ?_
  rintro w' ⟨y, rfl⟩
  have HY := Lib.hid (HL.out.trans (y.below.mono (Nat.le_of_lt hg)))
  have HA : Hid (apartB c a b = (decide (0 ≤ regionOf c a) && decide (0 ≤ regionOf c b) && decide (regionOf c a ≠ regionOf c b))) := Lib.hid rfl
  generalize regionOf c a = ra at *
  generalize regionOf c b = rb at *
  clear hx d0 d1 d2 d3 d4 d5 d6 d7 d8 d9 hg
  go_wp2
  all_goals
    go_ret
    refine ⟨ret_bool ?_, HY.out⟩
    rw [HA.out, Bool.eq_iff_iff]
    go_light
    simp
    try omega

theorem tenAt_bd {c : Cfg} (hV : CfgV c) {n : Nat} {t : Ten} (h : c.tenants[n]? = some t) : 1 ≤ t.load ∧ t.load ≤ 65536 ∧ 0 ≤ t.shadow ∧ t.shadow ≤ t.load ∧ 1 ≤ t.allowed ∧ t.allowed ≤ 15 := by
  have h1 := hV.ten t (List.mem_of_getElem? h)
  have h2 : 2 ≤ shl1 c.regions ∧ shl1 c.regions ≤ 16 := by unfold shl1; repeat' split <;> omega
  simp [tenOk, inR] at h1
  omega

set_option maxHeartbeats 1000000 in
theorem r5May_any (x : CfgA) (c : Cfg) (t k : Int) (w : World) (hV : CfgV c) (hok : CfgOk w (· < w.heap.size) x c) :
    Calls Tryz.prog 89 #[.agg (cfgC x c), .int .i64 t, .int .i64 k] w fun e w' => e = .returned (.bool (mayB c t k)) ∧ Below w.heap.size w w' := by
  obtain ⟨az, cz, ac, cc, at_, ct, av, cv, ar, cr, ao, co⟩ := x
  have HV := Lib.hid hV
  have HK := Lib.hid hok
  have hnt := hV.nt
  clear hok hV
  by_cases ht : 0 ≤ t ∧ t < c.tenants.length
  · obtain ⟨ht0, ht1⟩ := ht
    obtain ⟨n, rfl⟩ := Int.eq_ofNat_of_zero_le ht0
    have hn : n < c.tenants.length := by omega
    obtain ⟨b, off, z, rfl, hb, hz, hcell⟩ := HK.out.tenants.row (enc := tenC) (sz := 7) (fun _ => rfl) (by omega) hn
    have e4 := hcell 4 (.int .i64 z.allowed) rfl
    have hzb := tenAt_bd HV.out hz
    have hm : mayB c n k = hasB z.allowed (regionOf c k) := by
      unfold mayB tenAt
      rw [Int.toNat_natCast, getD_some hz]
      simp [hn]
    have HM := Lib.hid hm
    have hb1 : b < w.heap.size := hb
    have HL := Lib.hid ((Below.refl w.heap.size w).alloc (Nat.le_refl _) (.cells (cfgC ⟨az, cz, ac, cc, some ⟨b, off, none⟩, ct, av, cv, ar, cr, ao, co⟩ c) 30))
    have HW := Lib.hid (HK.out.allocW (.cells (cfgC ⟨az, cz, ac, cc, some ⟨b, off, none⟩, ct, av, cv, ar, cr, ao, co⟩ c) 30))
    have hBx := Blk.new w 30 (cfgC ⟨az, cz, ac, cc, some ⟨b, off, none⟩, ct, av, cv, ar, cr, ao, co⟩ c)
    have hg := hBx.lt
    have d0 := hBx.cell' (i := 0) (v := .int .i64 c.regions) rfl
    have d1 := hBx.cell' (i := 1) (v := .slice az c.zones.length cz) rfl
    have d2 := hBx.cell' (i := 2) (v := .slice ac c.cells.length cc) rfl
    have d3 := hBx.cell' (i := 3) (v := .slice (some ⟨b, off, none⟩) c.tenants.length ct) rfl
    have d4 := hBx.cell' (i := 4) (v := .slice av c.versions.length cv) rfl
    have d5 := hBx.cell' (i := 5) (v := .slice ar c.replicas.length cr) rfl
    have d6 := hBx.cell' (i := 6) (v := .slice ao c.observers.length co) rfl
    have d7 := hBx.cell' (i := 7) (v := .int .i64 c.blast) rfl
    have d8 := hBx.cell' (i := 8) (v := .int .i64 c.lease) rfl
    have d9 := hBx.cell' (i := 9) (v := .int .i64 c.bake) rfl
    clear hBx
    unfold cfgC at HL HW d0 d1 d2 d3 d4 d5 d6 d7 d8 d9 hg
    simp only at HL HW d0 d1 d2 d3 d4 d5 d6 d7 d8 d9 hg
    have e4' : (w.alloc (.cells (cfgC ⟨az, cz, ac, cc, some ⟨b, off, none⟩, ct, av, cv, ar, cr, ao, co⟩ c) 30)).cell? ⟨b, off + n * 7 + 4, none⟩ = some (.int .i64 z.allowed) := by
      rw [World.cell?_alloc_lt w _ _ (show b < w.heap.size from hb)]; exact e4
    have hb2 : b < (w.alloc (.cells (cfgC ⟨az, cz, ac, cc, some ⟨b, off, none⟩, ct, av, cv, ar, cr, ao, co⟩ c) 30)).heap.size := Nat.lt_trans hb1 hg
    unfold cfgC at *
    simp only at *
    clear HK hcell hz hm e4
    go_enter Tryz.func89, Tryz.ntmps89
    go_wp2_with fail
    generalize w.alloc _ = W at *
    have hx : ∀ (y : Later W.heap.size W) b o, b < W.heap.size → y.world.cell? ⟨b, o, none⟩ = W.cell? ⟨b, o, none⟩ := fun y b o h => y.cell h
    refine wp_region_below W.heap.size (by kernel_rfl) (by kernel_rfl) ?_
    repeat (first | go_big_quiet_step ((first | (go_at_call 112; exact quiet_belowW _ (r4RegionOf_any ⟨az, cz, ac, cc, some ⟨b, off, none⟩, ct, av, cv, ar, cr, ao, co⟩ c _ _ HV.out (HW.out.laterW _))) | (go_at_call 61; exact quiet_sameW _ (r4Has_any _ _ _ (by omega) (by omega))))) | quiet_step ((first | (go_at_call 112; exact quiet_belowW _ (r4RegionOf_any ⟨az, cz, ac, cc, some ⟨b, off, none⟩, ct, av, cv, ar, cr, ao, co⟩ c _ _ HV.out (HW.out.laterW _))) | (go_at_call 61; exact quiet_sameW _ (r4Has_any _ _ _ (by omega) (by omega))))))
    refine wpQuiet_nil ?_
    rintro w' ⟨y, rfl⟩
    have HY := Lib.hid (HL.out.trans (y.below.mono (Nat.le_of_lt hg)))
    clear hx d0 d1 d2 d3 d4 d5 d6 d7 d8 d9 hg e4' hb1 hb2
    go_wp2
    go_ret
    exact ⟨ret_bool HM.out.symm, HY.out⟩
  · have hm : mayB c t k = false := by unfold mayB; simp; intro h1 h2; omega
    have HM := Lib.hid hm
    have hd : decide (0 ≤ t) = false ∨ (decide (0 ≤ t) = true ∧ 0 ≤ t ∧ decide (t < (c.tenants.length : Int)) = false) := by
      by_cases h0 : 0 ≤ t
      · right
        refine ⟨by simpa using h0, h0, ?_⟩
        simp
        omega
      · left; simpa using h0
    have HL := Lib.hid ((Below.refl w.heap.size w).alloc (Nat.le_refl _) (.cells (cfgC ⟨az, cz, ac, cc, at_, ct, av, cv, ar, cr, ao, co⟩ c) 30))
    have HW := Lib.hid (HK.out.allocW (.cells (cfgC ⟨az, cz, ac, cc, at_, ct, av, cv, ar, cr, ao, co⟩ c) 30))
    have hBx := Blk.new w 30 (cfgC ⟨az, cz, ac, cc, at_, ct, av, cv, ar, cr, ao, co⟩ c)
    have hg := hBx.lt
    have d0 := hBx.cell' (i := 0) (v := .int .i64 c.regions) rfl
    have d1 := hBx.cell' (i := 1) (v := .slice az c.zones.length cz) rfl
    have d2 := hBx.cell' (i := 2) (v := .slice ac c.cells.length cc) rfl
    have d3 := hBx.cell' (i := 3) (v := .slice at_ c.tenants.length ct) rfl
    have d4 := hBx.cell' (i := 4) (v := .slice av c.versions.length cv) rfl
    have d5 := hBx.cell' (i := 5) (v := .slice ar c.replicas.length cr) rfl
    have d6 := hBx.cell' (i := 6) (v := .slice ao c.observers.length co) rfl
    have d7 := hBx.cell' (i := 7) (v := .int .i64 c.blast) rfl
    have d8 := hBx.cell' (i := 8) (v := .int .i64 c.lease) rfl
    have d9 := hBx.cell' (i := 9) (v := .int .i64 c.bake) rfl
    clear hBx
    unfold cfgC at HL HW d0 d1 d2 d3 d4 d5 d6 d7 d8 d9 hg
    simp only at HL HW d0 d1 d2 d3 d4 d5 d6 d7 d8 d9 hg
    unfold cfgC
    simp only
    clear hm ht HK
    rcases hd with hd | ⟨hd1, hd2, hd3⟩
    all_goals
      go_enter Tryz.func89, Tryz.ntmps89
      go_wp2_with fail
      generalize w.alloc _ = W at *
      have hx : ∀ (y : Later W.heap.size W) b o, b < W.heap.size → y.world.cell? ⟨b, o, none⟩ = W.cell? ⟨b, o, none⟩ := fun y b o h => y.cell h
      refine wp_region_below W.heap.size (by kernel_rfl) (by kernel_rfl) ?_
      repeat (first | go_big_quiet_step (fail) | quiet_step (fail))
      refine wpQuiet_nil ?_
      rintro w' ⟨y, rfl⟩
      have HY := Lib.hid (HL.out.trans (y.below.mono (Nat.le_of_lt hg)))
      clear hx d0 d1 d2 d3 d4 d5 d6 d7 d8 d9 hg
      go_wp2
      go_ret
      exact ⟨ret_bool HM.out.symm, HY.out⟩

/-- The cells below k of which p holds. -/
def pickK (p : Nat → Bool) (k : Nat) : List Int := ((List.range k).filter p).map Int.ofNat
theorem pickK_succ (p : Nat → Bool) (k : Nat) : pickK p (k + 1) = if p k then pickK p k ++ [(k : Int)] else pickK p k := by
  unfold pickK
  rw [List.range_succ, List.filter_append, List.map_append]
  by_cases h : p k <;> simp [h]
theorem pickK_len (p : Nat → Bool) (k : Nat) : (pickK p k).length ≤ k := by
  unfold pickK
  rw [List.length_map]
  exact Nat.le_trans (List.length_filter_le _ _) (by simp)
theorem pickK_mem {p : Nat → Bool} {k : Nat} {z : Int} (h : z ∈ pickK p k) : ∃ n : Nat, z = n ∧ n < k ∧ p n = true := by
  unfold pickK at h
  obtain ⟨n, hn, rfl⟩ := List.mem_map.1 h
  obtain ⟨h1, h2⟩ := List.mem_filter.1 hn
  exact ⟨n, rfl, List.mem_range.1 h1, h2⟩
theorem r5intInfo : (Tryz.prog.info? 3).map (fun i => (i.zero, i.size, i.bytes)) = some (some (.int .i64 0), 1, 8) := by kernel_rfl
theorem flat_snoc5 {α : Type} (enc : α → List Value) (l : List α) (a : α) : flat enc l ++ enc a = flat enc (l ++ [a]) := by simp [flat]

theorem own_base {w : World} {base base' : Nat} {e : TypeId} {size : Nat} {v : Value} {n : Nat} {xs : List Value} (h : w.ownsRow base e size v n xs) (hb : base' ≤ base) : w.ownsRow base' e size v n xs := by
  refine ⟨h.1, h.2.imp id ?_⟩
  rintro ⟨g, cap, cur, rfl, hg, rest⟩
  exact ⟨g, cap, cur, rfl, Nat.le_trans hb hg, rest⟩
/-- A list of numbers in new memory. -/
def IntsPost (w : World) (l : List Int) (e : Ending) (w' : World) : Prop :=
  ∃ (A : Option Addr) (cp : Nat), e = .returned (.slice A l.length cp) ∧ w'.ownsRow w.heap.size 3 1 (.slice A l.length cp) l.length (flat intC l) ∧ Below w.heap.size w w'

def r5HomesRel (W : World) (p : Nat → Bool) (N gk : Nat) (so si : Value) (wr : World) : Prop :=
  ∃ (k : Nat) (A : Option Addr) (cp : Nat), gk + k = N ∧ si = .int .i64 k ∧ so = .slice A (pickK p k).length cp ∧ wr.ownsRow W.heap.size 3 1 (.slice A (pickK p k).length cp) (pickK p k).length (flat intC (pickK p k)) ∧ Below W.heap.size W wr
set_option maxHeartbeats 2000000 in
theorem r5Homes_any (x : CfgA) (c : Cfg) (t : Int) (w : World) (hV : CfgV c) (hok : CfgOk w (· < w.heap.size) x c) :
    Calls Tryz.prog 46 #[.agg (cfgC x c), .int .i64 t] w (IntsPost w (pickK (fun (n : Nat) => mayB c t n) c.cells.length)) := by
  obtain ⟨az, cz, ac, cc, at_, ct, av, cv, ar, cr, ao, co⟩ := x
  obtain ⟨ii, hii, hi0, hi1, hi2⟩ := info_parts r5intInfo
  have HV := Lib.hid hV
  have HK := Lib.hid hok
  have hnc := hV.nc
  have HL := Lib.hid ((Below.refl w.heap.size w).alloc (Nat.le_refl _) (.cells (cfgC ⟨az, cz, ac, cc, at_, ct, av, cv, ar, cr, ao, co⟩ c) 30))
  have HW := Lib.hid (HK.out.allocW (.cells (cfgC ⟨az, cz, ac, cc, at_, ct, av, cv, ar, cr, ao, co⟩ c) 30))
  have hBx := Blk.new w 30 (cfgC ⟨az, cz, ac, cc, at_, ct, av, cv, ar, cr, ao, co⟩ c)
  have hg := hBx.lt
  have d0 := hBx.cell' (i := 0) (v := .int .i64 c.regions) rfl
  have d1 := hBx.cell' (i := 1) (v := .slice az c.zones.length cz) rfl
  have d2 := hBx.cell' (i := 2) (v := .slice ac c.cells.length cc) rfl
  have d3 := hBx.cell' (i := 3) (v := .slice at_ c.tenants.length ct) rfl
  have d4 := hBx.cell' (i := 4) (v := .slice av c.versions.length cv) rfl
  have d5 := hBx.cell' (i := 5) (v := .slice ar c.replicas.length cr) rfl
  have d6 := hBx.cell' (i := 6) (v := .slice ao c.observers.length co) rfl
  have d7 := hBx.cell' (i := 7) (v := .int .i64 c.blast) rfl
  have d8 := hBx.cell' (i := 8) (v := .int .i64 c.lease) rfl
  have d9 := hBx.cell' (i := 9) (v := .int .i64 c.bake) rfl
  clear hBx
  unfold cfgC at HL HW d0 d1 d2 d3 d4 d5 d6 d7 d8 d9 hg
  simp only at HL HW d0 d1 d2 d3 d4 d5 d6 d7 d8 d9 hg
  clear hok hV HK
  obtain ⟨pd, hpd⟩ : ∃ pd : Nat → Bool, pd = fun (n : Nat) => mayB c t n := ⟨_, rfl⟩
  have HP := Lib.hid hpd
  rw [← hpd]
  clear hpd
  unfold cfgC
  simp only
  go_enter Tryz.func46, Tryz.ntmps46
  go_wp2_with fail
  generalize w.alloc _ = W at *
  go_loopg [5, 6] c.cells.length (fun gk so si wr => r5HomesRel W pd c.cells.length gk so si wr)
  case atStart => exact ⟨0, none, 0, rfl, rfl, rfl, World.ownsRow_nil _ _ _ _, Below.refl _ _⟩
  case round =>
    rename_i J K aJ aK
    obtain ⟨k, A, cp, hgk, rfl, rfl, hown, hbel⟩ := hrel
    have HO := Lib.hid hown
    have HB := Lib.hid hbel
    have hsz := hbel.size
    have hlen := pickK_len pd k
    obtain ⟨hc, hf⟩ := bcell hbel
    clear hown hbel hf
    by_cases hk : k < c.cells.length
    · have hlt : (k : Int) < (c.cells.length : Int) := by omega
      have hsucc := pickK_succ pd k
      have HS := Lib.hid hsucc
      clear hsucc
      go_wp2_with fail
      refine (r5May_any ⟨az, cz, ac, cc, at_, ct, av, cv, ar, cr, ao, co⟩ c t k wr HV.out (HW.out.belowW HB.out)).mono ?_
      rintro e wz ⟨rfl, hb1⟩
      have HB1 := Lib.hid (HB.out.trans (hb1.mono hsz))
      have HO1 := Lib.hid (own_below HO.out hb1 fun j hj => (HO.out.lt j hj).2)
      clear hb1
      by_cases hp : pd k = true
      · have hp2 : mayB c t k = true := by rw [HP.out] at hp; exact hp
        clear hc
        go_wp2_with (at_builtin; refine wpList_append_lies _ rfl _ _ _ rfl W.heap.size 3 ii _ 1 8 Tryz.underlying22 hii hi0 hi1 hi2 rfl (by omega) _ (pickK pd k).length (flat intC (pickK pd k)) rfl (HO1.out.alloc _) ⟨wz.heap.size, 0, none⟩ 1 1 [.int .i64 k] rfl rfl ?c1 ?c2 ?c0 ?c3 ?c4 ?c5 (wz.heap.size + 1) ?c6 ?_)
        case c1 => exact World.news_of_block (cs := #[.int .i64 k]) (heap_alloc_new _ _)
        case c2 => simp [Value.oneCell']
        case c0 => omega
        case c3 => unfold maxLen; omega
        case c4 => omega
        case c5 => have := HB1.out.size; simp; omega
        case c6 => simp
        intro gg cq w9 hown9 hg9 hat9 hlt9
        have HB9 := Lib.hid ((HB1.out.alloc HB1.out.size _).grown hg9 (by have := HB1.out.size; simp; omega) (fun j hj => (HO1.out.lt j hj).1))
        have HX : Hid (w9.ownsRow W.heap.size 3 1 (.slice (some ⟨gg, 0, none⟩) (pickK pd (k + 1)).length cq) (pickK pd (k + 1)).length (flat intC (pickK pd (k + 1)))) := by
          refine Lib.hid ?_; rw [HS.out, if_pos hp, ← flat_snoc5, List.length_append]; exact hown9
        have hl9 : (pickK pd (k + 1)).length = (pickK pd k).length + 1 := by rw [HS.out, if_pos hp, List.length_append]; rfl
        have HL9 := Lib.hid hl9
        clear hown9 hg9 hat9 hlt9 HO1 HB1 HO HB hl9
        go_wp2
        go_roundg (gk - 1)
        case measure => omega
        case rel => exact ⟨k + 1, some ⟨gg, 0, none⟩, cq, by omega, by go_num, by rw [HL9.out], HX.out, HB9.out⟩
      · have hp : pd k = false := by simpa using hp
        have hp2 : mayB c t k = false := by rw [HP.out] at hp; exact hp
        clear hc
        have HX : Hid (wz.ownsRow W.heap.size 3 1 (.slice A (pickK pd (k + 1)).length cp) (pickK pd (k + 1)).length (flat intC (pickK pd (k + 1)))) := by
          refine Lib.hid ?_; rw [HS.out, if_neg (by simp [hp])]; exact HO1.out
        have hl9 : (pickK pd (k + 1)).length = (pickK pd k).length := by rw [HS.out, if_neg (by simp [hp])]
        have HL9 := Lib.hid hl9
        clear HO HB hl9
        go_wp2
        go_roundg (gk - 1)
        case measure => omega
        case rel => exact ⟨k + 1, A, cp, by omega, by go_num, by rw [HL9.out], HX.out, HB1.out⟩
    · have hge : ¬ (k : Int) < (c.cells.length : Int) := by omega
      obtain rfl : k = c.cells.length := by omega
      go_wp2
      go_ret
      exact ⟨A, cp, rfl, own_base HO.out (Nat.le_of_lt hg), HL.out.trans (HB.out.mono (Nat.le_of_lt hg))⟩
def r5StandbysRel (W : World) (p : Nat → Bool) (N gk : Nat) (so si : Value) (wr : World) : Prop :=
  ∃ (k : Nat) (A : Option Addr) (cp : Nat), gk + k = N ∧ si = .int .i64 k ∧ so = .slice A (pickK p k).length cp ∧ wr.ownsRow W.heap.size 3 1 (.slice A (pickK p k).length cp) (pickK p k).length (flat intC (pickK p k)) ∧ Below W.heap.size W wr
set_option maxHeartbeats 2000000 in
theorem r5Standbys_any (x : CfgA) (c : Cfg) (t h : Int) (w : World) (hV : CfgV c) (hok : CfgOk w (· < w.heap.size) x c) :
    Calls Tryz.prog 47 #[.agg (cfgC x c), .int .i64 t, .int .i64 h] w (IntsPost w (pickK (fun (n : Nat) => (mayB c t n && apartB c h n)) c.cells.length)) := by
  obtain ⟨az, cz, ac, cc, at_, ct, av, cv, ar, cr, ao, co⟩ := x
  obtain ⟨ii, hii, hi0, hi1, hi2⟩ := info_parts r5intInfo
  have HV := Lib.hid hV
  have HK := Lib.hid hok
  have hnc := hV.nc
  have HL := Lib.hid ((Below.refl w.heap.size w).alloc (Nat.le_refl _) (.cells (cfgC ⟨az, cz, ac, cc, at_, ct, av, cv, ar, cr, ao, co⟩ c) 30))
  have HW := Lib.hid (HK.out.allocW (.cells (cfgC ⟨az, cz, ac, cc, at_, ct, av, cv, ar, cr, ao, co⟩ c) 30))
  have hBx := Blk.new w 30 (cfgC ⟨az, cz, ac, cc, at_, ct, av, cv, ar, cr, ao, co⟩ c)
  have hg := hBx.lt
  have d0 := hBx.cell' (i := 0) (v := .int .i64 c.regions) rfl
  have d1 := hBx.cell' (i := 1) (v := .slice az c.zones.length cz) rfl
  have d2 := hBx.cell' (i := 2) (v := .slice ac c.cells.length cc) rfl
  have d3 := hBx.cell' (i := 3) (v := .slice at_ c.tenants.length ct) rfl
  have d4 := hBx.cell' (i := 4) (v := .slice av c.versions.length cv) rfl
  have d5 := hBx.cell' (i := 5) (v := .slice ar c.replicas.length cr) rfl
  have d6 := hBx.cell' (i := 6) (v := .slice ao c.observers.length co) rfl
  have d7 := hBx.cell' (i := 7) (v := .int .i64 c.blast) rfl
  have d8 := hBx.cell' (i := 8) (v := .int .i64 c.lease) rfl
  have d9 := hBx.cell' (i := 9) (v := .int .i64 c.bake) rfl
  clear hBx
  unfold cfgC at HL HW d0 d1 d2 d3 d4 d5 d6 d7 d8 d9 hg
  simp only at HL HW d0 d1 d2 d3 d4 d5 d6 d7 d8 d9 hg
  clear hok hV HK
  obtain ⟨pd, hpd⟩ : ∃ pd : Nat → Bool, pd = fun (n : Nat) => (mayB c t n && apartB c h n) := ⟨_, rfl⟩
  have HP := Lib.hid hpd
  rw [← hpd]
  clear hpd
  unfold cfgC
  simp only
  go_enter Tryz.func47, Tryz.ntmps47
  go_wp2_with fail
  generalize w.alloc _ = W at *
  go_loopg [7, 8] c.cells.length (fun gk so si wr => r5StandbysRel W pd c.cells.length gk so si wr)
  case atStart => exact ⟨0, none, 0, rfl, rfl, rfl, World.ownsRow_nil _ _ _ _, Below.refl _ _⟩
  case round =>
    rename_i J K aJ aK
    obtain ⟨k, A, cp, hgk, rfl, rfl, hown, hbel⟩ := hrel
    have HO := Lib.hid hown
    have HB := Lib.hid hbel
    have hsz := hbel.size
    have hlen := pickK_len pd k
    obtain ⟨hc, hf⟩ := bcell hbel
    clear hown hbel hf
    by_cases hk : k < c.cells.length
    · have hlt : (k : Int) < (c.cells.length : Int) := by omega
      have hsucc := pickK_succ pd k
      have HS := Lib.hid hsucc
      clear hsucc
      go_wp2_with fail
      refine (r5May_any ⟨az, cz, ac, cc, at_, ct, av, cv, ar, cr, ao, co⟩ c t k wr HV.out (HW.out.belowW HB.out)).mono ?_
      rintro e wy ⟨rfl, hb0⟩
      have HB0 := Lib.hid (HB.out.trans (hb0.mono hsz))
      have HO0 := Lib.hid (own_below HO.out hb0 fun j hj => (HO.out.lt j hj).2)
      obtain ⟨hc0, hf0⟩ := bcell HB0.out
      clear hb0 hf0 hc
      by_cases hm : mayB c t k = true
      · go_wp2_with fail
        refine (r5Apart_any ⟨az, cz, ac, cc, at_, ct, av, cv, ar, cr, ao, co⟩ c h k wy HV.out (HW.out.belowW HB0.out)).mono ?_
        rintro e wz ⟨rfl, hb1⟩
        have HB1 := Lib.hid (HB0.out.trans (hb1.mono HB0.out.size))
        have HO1 := Lib.hid (own_below HO0.out hb1 fun j hj => (HO0.out.lt j hj).2)
        clear hb1 HB0 HO0
        have hc : True := trivial
        clear hc0
        by_cases hp : pd k = true
        · have hp2 : apartB c h k = true := by rw [HP.out] at hp; simp [hm] at hp; exact hp
          clear hc
          go_wp2_with (at_builtin; refine wpList_append_lies _ rfl _ _ _ rfl W.heap.size 3 ii _ 1 8 Tryz.underlying22 hii hi0 hi1 hi2 rfl (by omega) _ (pickK pd k).length (flat intC (pickK pd k)) rfl (HO1.out.alloc _) ⟨wz.heap.size, 0, none⟩ 1 1 [.int .i64 k] rfl rfl ?c1 ?c2 ?c0 ?c3 ?c4 ?c5 (wz.heap.size + 1) ?c6 ?_)
          case c1 => exact World.news_of_block (cs := #[.int .i64 k]) (heap_alloc_new _ _)
          case c2 => simp [Value.oneCell']
          case c0 => omega
          case c3 => unfold maxLen; omega
          case c4 => omega
          case c5 => have := HB1.out.size; simp; omega
          case c6 => simp
          intro gg cq w9 hown9 hg9 hat9 hlt9
          have HB9 := Lib.hid ((HB1.out.alloc HB1.out.size _).grown hg9 (by have := HB1.out.size; simp; omega) (fun j hj => (HO1.out.lt j hj).1))
          have HX : Hid (w9.ownsRow W.heap.size 3 1 (.slice (some ⟨gg, 0, none⟩) (pickK pd (k + 1)).length cq) (pickK pd (k + 1)).length (flat intC (pickK pd (k + 1)))) := by
            refine Lib.hid ?_; rw [HS.out, if_pos hp, ← flat_snoc5, List.length_append]; exact hown9
          have hl9 : (pickK pd (k + 1)).length = (pickK pd k).length + 1 := by rw [HS.out, if_pos hp, List.length_append]; rfl
          have HL9 := Lib.hid hl9
          clear hown9 hg9 hat9 hlt9 HO1 HB1 HO HB hl9
          go_wp2
          go_roundg (gk - 1)
          case measure => omega
          case rel => exact ⟨k + 1, some ⟨gg, 0, none⟩, cq, by omega, by go_num, by rw [HL9.out], HX.out, HB9.out⟩
        · have hp : pd k = false := by simpa using hp
          have hp2 : apartB c h k = false := by rw [HP.out] at hp; simp [hm] at hp; exact hp
          clear hc
          have HX : Hid (wz.ownsRow W.heap.size 3 1 (.slice A (pickK pd (k + 1)).length cp) (pickK pd (k + 1)).length (flat intC (pickK pd (k + 1)))) := by
            refine Lib.hid ?_; rw [HS.out, if_neg (by simp [hp])]; exact HO1.out
          have hl9 : (pickK pd (k + 1)).length = (pickK pd k).length := by rw [HS.out, if_neg (by simp [hp])]
          have HL9 := Lib.hid hl9
          clear HO HB hl9
          go_wp2
          go_roundg (gk - 1)
          case measure => omega
          case rel => exact ⟨k + 1, A, cp, by omega, by go_num, by rw [HL9.out], HX.out, HB1.out⟩
      · have hm : mayB c t k = false := by simpa using hm
        have hp : pd k = false := by rw [HP.out]; simp [hm]
        have HB1 := HB0
        have HO1 := HO0
        obtain ⟨wz, rfl⟩ : ∃ wz, wz = wy := ⟨_, rfl⟩
        clear HB0 HO0
        have hc : True := trivial
        clear hc0
        clear hc
        have HX : Hid (wz.ownsRow W.heap.size 3 1 (.slice A (pickK pd (k + 1)).length cp) (pickK pd (k + 1)).length (flat intC (pickK pd (k + 1)))) := by
          refine Lib.hid ?_; rw [HS.out, if_neg (by simp [hp])]; exact HO1.out
        have hl9 : (pickK pd (k + 1)).length = (pickK pd k).length := by rw [HS.out, if_neg (by simp [hp])]
        have HL9 := Lib.hid hl9
        clear HO HB hl9
        go_wp2
        go_roundg (gk - 1)
        case measure => omega
        case rel => exact ⟨k + 1, A, cp, by omega, by go_num, by rw [HL9.out], HX.out, HB1.out⟩
    · have hge : ¬ (k : Int) < (c.cells.length : Int) := by omega
      obtain rfl : k = c.cells.length := by omega
      go_wp2
      go_ret
      exact ⟨A, cp, rfl, own_base HO.out (Nat.le_of_lt hg), HL.out.trans (HB.out.mono (Nat.le_of_lt hg))⟩
end Go.Proofs.YtjobcfpnmfjlfaaGreat

namespace Go.Proofs.YtjobcfpnmfjlfaaGreat
open Go.RowKit
set_option linter.unusedSimpArgs false
set_option linter.unusedVariables false

set_option maxHeartbeats 1000000 in
theorem mkNone_any (kind tick : Int) (w : World) : Calls Tryz.prog 44 #[.int .i64 kind, .int .i64 tick] w fun r w' => r = .returned (.agg (entC ⟨kind, tick, -1, -1, -1, 0, 0, 0, 0⟩).toArray) ∧ Below w.heap.size w w' := by
  go_enter Tryz.func44, Tryz.ntmps44
  go_wp2
  refine bodyPost_ret (v := .agg #[.int .i64 kind, .int .i64 tick, .int .i64 (-1), .int .i64 (-1), .int .i64 (-1), .int .i64 0, .int .i64 0, .int .i64 0, .int .i64 0]) (by simp [results, Tryz.results44, go_sem]) rfl ?_
  exact ⟨rfl, (Below.refl _ _).alloc (Nat.le_refl _) _⟩

set_option maxHeartbeats 1000000 in
theorem mkLight_any (A : Option Addr) (n cp : Nat) (w : World) (hn : n ≤ maxLen) : Calls Tryz.prog 9 #[.slice A n cp] w fun r w' => r = .returned (.bool (decide (n ≤ 200))) ∧ w = w' := by
  unfold maxLen at hn
  go_enter Tryz.func9, Tryz.ntmps9
  go_wp2
  go_ret
  refine ⟨ret_bool ?_, rfl⟩
  rw [Bool.eq_iff_iff]
  simp
  try omega
end Go.Proofs.YtjobcfpnmfjlfaaGreat

namespace Go.Proofs.YtjobcfpnmfjlfaaGreat
open Go.RowKit
set_option linter.unusedSimpArgs false
set_option linter.unusedVariables false

/-! state.New -/
def CN1 : CN := ⟨0, 1, 2, 3, 4, 5, 3⟩
def newD : List (Nat × DQ) := [
  (1, { k := 10, L := [6], g := some (.fix 0 (.fix 1 (.fix 2 (.fix 4 (.fix 5 (.fix 6 (.three
    3 (.two 7 (.fix 8 (.act 9 .fin)) 9 (.act 7 (.fix 8 .fin)))
    7 (.two 3 (.fix 8 (.act 9 .fin)) 9 (.act 3 (.fix 8 .fin)))
    9 (.two 3 (.act 7 (.fix 8 .fin)) 7 (.act 3 (.fix 8 .fin)))))))))) }),
  (4000002, { k := 11, L := [6, 7], sl := [1, 2] }),
  (2000003, { k := 0, L := [7, 9, 10], sl := [2, 3, 17] }),
  (2000008, { k := 0, L := [7, 8, 10], sl := [2, 3, 30] })]
abbrev tsZ : List Value := [zb, zb, zi, zi, zi, zi, zi, zi, zi, zi, zi, zi]
abbrev csZ : List Value := [zi, zi, zi, zi]
abbrev tsB (n : Nat) (el : Nat → List Value) : ABlk := .row (1000000 + 58) 12 n el
abbrev csB (n : Nat) (el : Nat → List Value) : ABlk := .row (1000000 + 54) 4 n el
abbrev newV (n m : Nat) : List Value := [zi, zi, slc 8 n n, slc 9 m m, .int .i64 1, zi, zi, zi]
def NewR (n m : Nat) (v : Value) (mem' : AM) : Prop := v = .agg (newV n m).toArray ∧ (∃ el, lk mem' 8 = some (tsB n el) ∧ ∀ k, k < n → el k = tsC tsNew) ∧ ∃ el, lk mem' 9 = some (csB m el) ∧ ∀ k, k < m → el k = csC csNew
set_option maxRecDepth 100000 in
set_option maxHeartbeats 4000000 in
theorem new_sx (x : CfgK) (c : Cfg) (hnt : c.tenants.length ≤ 1000) (hnc : c.cells.length ≤ 1000) :
    sx tt [] newD (bodyOf Tryz.f38) (argF 0 [cfgV CN1 x c]) (cfgM CN1 c) 6
      (endx tt Tryz.f38.results.toList fun v mem' _ => NewR c.tenants.length c.cells.length v mem') := by
  refine ⟨Unit, fun _ => [(3, ptr 10)], fun _ => [(8, tsB c.tenants.length fun _ => tsZ), (9, csB c.cells.length fun _ => csZ), (10, .box 38 (newV c.tenants.length c.cells.length))], fun _ => True, ?_, ?_⟩
  · refine ⟨?_, ?_, ?_⟩
    · refine ⟨⟨rfl, by omega, by show _ * (88 : Int) ≤ _; omega⟩, ⟨rfl, trivial⟩, ?_⟩
      refine ⟨?_, ?_⟩
      · refine ⟨⟨rfl, by omega, by show _ * (32 : Int) ≤ _; omega⟩, ⟨rfl, trivial⟩, ?_⟩
        refine ⟨⟨rfl, trivial⟩, ?_⟩
        exact ⟨(), [], trivial, ⟨rfl, rfl⟩, ⟨rfl, rfl, rfl, trivial⟩, ⟨rfl, rfl, rfl, rfl, rfl, trivial⟩⟩
      · refine ⟨⟨rfl, trivial⟩, ?_⟩
        refine ⟨⟨rfl, by omega, by show _ * (32 : Int) ≤ _; omega⟩, ⟨rfl, trivial⟩, ?_⟩
        exact ⟨(), [(9, 10), (10, 9)], trivial, ⟨rfl, rfl⟩, ⟨rfl, rfl, rfl, trivial⟩, ⟨rfl, rfl, rfl, rfl, rfl, trivial⟩⟩
    · refine ⟨⟨rfl, by omega, by show _ * (32 : Int) ≤ _; omega⟩, ⟨rfl, trivial⟩, ?_⟩
      refine ⟨?_, ?_⟩
      · refine ⟨⟨rfl, by omega, by show _ * (88 : Int) ≤ _; omega⟩, ⟨rfl, trivial⟩, ?_⟩
        refine ⟨⟨rfl, trivial⟩, ?_⟩
        exact ⟨(), [(8, 9), (9, 8)], trivial, ⟨rfl, rfl⟩, ⟨rfl, rfl, rfl, trivial⟩, ⟨rfl, rfl, rfl, rfl, rfl, trivial⟩⟩
      · refine ⟨⟨rfl, trivial⟩, ?_⟩
        refine ⟨⟨rfl, by omega, by show _ * (88 : Int) ≤ _; omega⟩, ⟨rfl, trivial⟩, ?_⟩
        exact ⟨(), [(8, 10), (9, 8), (10, 9)], trivial, ⟨rfl, rfl⟩, ⟨rfl, rfl, rfl, trivial⟩, ⟨rfl, rfl, rfl, rfl, rfl, trivial⟩⟩
    · refine ⟨⟨rfl, trivial⟩, ?_⟩
      refine ⟨?_, ?_⟩
      · refine ⟨⟨rfl, by omega, by show _ * (88 : Int) ≤ _; omega⟩, ⟨rfl, trivial⟩, ?_⟩
        refine ⟨⟨rfl, by omega, by show _ * (32 : Int) ≤ _; omega⟩, ⟨rfl, trivial⟩, ?_⟩
        exact ⟨(), [(8, 9), (9, 10), (10, 8)], trivial, ⟨rfl, rfl⟩, ⟨rfl, rfl, rfl, trivial⟩, ⟨rfl, rfl, rfl, rfl, rfl, trivial⟩⟩
      · refine ⟨⟨rfl, by omega, by show _ * (32 : Int) ≤ _; omega⟩, ⟨rfl, trivial⟩, ?_⟩
        refine ⟨⟨rfl, by omega, by show _ * (88 : Int) ≤ _; omega⟩, ⟨rfl, trivial⟩, ?_⟩
        exact ⟨(), [(8, 10), (10, 8)], trivial, ⟨rfl, rfl⟩, ⟨rfl, rfl, rfl, trivial⟩, ⟨rfl, rfl, rfl, rfl, rfl, trivial⟩⟩
  · rintro ⟨⟩ -
    refine ⟨⟨by decide, rfl, rfl⟩, ?_⟩
    refine ⟨Int × (Nat → List Value), fun y => match y with | (i, el) => [(18, .int .i64 i)], fun y => match y with | (i, el) => [(8, tsB c.tenants.length el)], fun y => (0 ≤ y.1 ∧ y.1 ≤ (c.tenants.length : Int)) ∧ ∀ k : Nat, k < c.tenants.length → y.2 k = if (k : Int) < y.1 then tsC tsNew else tsZ, fun y => ((c.tenants.length : Int) - y.1).toNat, ⟨(0, fun _ => tsZ), ⟨⟨by dsimp only; omega, by dsimp only; omega⟩, ?_⟩, ⟨rfl, rfl, rfl, rfl, trivial⟩, ⟨rfl, rfl, rfl, rfl, trivial⟩⟩, ?_⟩
    · intro k hk
      dsimp only
      rw [if_neg (by omega)]
    · rintro ⟨i, el⟩ ⟨hi, hel⟩
      dsimp only at hi hel
      refine ⟨⟨rfl, rfl⟩, ?_⟩
      refine ⟨fun hlt => ?_, fun hge => ?_⟩
      · have hlt2 : i < (c.tenants.length : Int) := of_decide_eq_true hlt
        have hz : el i.toNat = tsZ := by rw [hel i.toNat (by omega), if_neg (by omega)]
        refine ⟨⟨Nat.le_refl _, hi.1, hlt2⟩, ?_⟩
        refine ⟨tsC tsNew, by rw [hz]; rfl, ?_⟩
        refine ⟨(_, _), ?_, ⟨rfl, rfl, rfl, rfl, trivial⟩, ⟨rfl, rfl, rfl, rfl, trivial⟩⟩
        dsimp only
        rw [wrapi (by omega)]
        refine ⟨⟨⟨by omega, by omega⟩, fun k hk => ?_⟩, by omega⟩
        unfold setEl
        by_cases hk2 : k = i.toNat
        · subst hk2
          rw [Nat.beq_refl, if_pos (by omega)]
        · have hb : Nat.beq k i.toNat = false := by
            cases hb : Nat.beq k i.toNat
            · rfl
            · exact absurd (Nat.eq_of_beq_eq_true hb) hk2
          rw [hb]
          show el k = _
          rw [hel k hk]
          by_cases hki : (k : Int) < i
          · rw [if_pos hki, if_pos (by omega)]
          · rw [if_neg hki, if_neg (by omega)]
      · have hge2 : ¬ i < (c.tenants.length : Int) := of_decide_eq_false hge
        have hT : ∀ k, k < c.tenants.length → el k = tsC tsNew := fun k hk => by rw [hel k hk, if_pos (by omega)]
        refine ⟨Int × (Nat → List Value), fun y => match y with | (i, el) => [(31, .int .i64 i)], fun y => match y with | (i, el) => [(9, csB c.cells.length el)], fun y => (0 ≤ y.1 ∧ y.1 ≤ (c.cells.length : Int)) ∧ ∀ k : Nat, k < c.cells.length → y.2 k = if (k : Int) < y.1 then csC csNew else csZ, fun y => ((c.cells.length : Int) - y.1).toNat, ⟨(0, fun _ => csZ), ⟨⟨by dsimp only; omega, by dsimp only; omega⟩, ?_⟩, ⟨rfl, rfl, rfl, rfl, trivial⟩, ⟨rfl, rfl, rfl, rfl, trivial⟩⟩, ?_⟩
        · intro k hk
          dsimp only
          rw [if_neg (by omega)]
        · rintro ⟨i, el⟩ ⟨hi, hel⟩
          dsimp only at hi hel
          refine ⟨⟨rfl, rfl⟩, ?_⟩
          refine ⟨fun hlt => ?_, fun hge => ?_⟩
          · have hlt2 : i < (c.cells.length : Int) := of_decide_eq_true hlt
            have hz : el i.toNat = csZ := by rw [hel i.toNat (by omega), if_neg (by omega)]
            refine ⟨⟨Nat.le_refl _, hi.1, hlt2⟩, ?_⟩
            refine ⟨csC csNew, by rw [hz]; rfl, ?_⟩
            refine ⟨(_, _), ?_, ⟨rfl, rfl, rfl, rfl, trivial⟩, ⟨rfl, rfl, rfl, rfl, trivial⟩⟩
            dsimp only
            rw [wrapi (by omega)]
            refine ⟨⟨⟨by omega, by omega⟩, fun k hk => ?_⟩, by omega⟩
            unfold setEl
            by_cases hk2 : k = i.toNat
            · subst hk2
              rw [Nat.beq_refl, if_pos (by omega)]
            · have hb : Nat.beq k i.toNat = false := by
                cases hb : Nat.beq k i.toNat
                · rfl
                · exact absurd (Nat.eq_of_beq_eq_true hb) hk2
              rw [hb]
              show el k = _
              rw [hel k hk]
              by_cases hki : (k : Int) < i
              · rw [if_pos hki, if_pos (by omega)]
              · rw [if_neg hki, if_neg (by omega)]
          · have hge2 : ¬ i < (c.cells.length : Int) := of_decide_eq_false hge
            have hC : ∀ k, k < c.cells.length → el k = csC csNew := fun k hk => by rw [hel k hk, if_pos (by omega)]
            exact ⟨rfl, ⟨_, rfl, hT⟩, ⟨_, rfl, hC⟩⟩
end Go.Proofs.YtjobcfpnmfjlfaaGreat

namespace Go.Proofs.YtjobcfpnmfjlfaaGreat
open Go.RowKit
set_option linter.unusedSimpArgs false
set_option linter.unusedVariables false

section
variable {C : Ctx} {ρ : Nat → Pl} {fr : AF} {mem : AM} {nx : Nat} {a : Act} {w w' : World}
/-- All that is written lies below B. -/
def FrB (C : Ctx) (ρ : Nat → Pl) (mem : AM) (B : Nat) : Prop := ∀ i b, lk (mem ++ C.fm) i = some b → exB b = true → (∃ t sz el, b = .row t sz 0 el) ∨ ∀ g, bno ρ i = some g → g < B
theorem Sat.frB (h : Sat C ρ fr mem nx a w) : FrB C ρ mem w.heap.size := by
  intro i b hi hb
  have hok := h.blk i b hi
  cases b with
  | box t cs =>
    obtain ⟨g, e1, e2, -⟩ := hok
    refine .inr fun g' hg => ?_
    simp [bno, e1] at hg
    subst hg
    exact e2.lt
  | row t sz n el =>
    obtain ⟨-, -, h3⟩ := hok
    rcases h3 with rfl | ⟨b, off, hA, hat, -⟩
    · exact .inl ⟨_, _, _, rfl⟩
    · refine .inr fun g hg => ?_
      simp [bno, hA] at hg
      subst hg
      exact hat.lt
/-- One more row that is only read. -/
theorem Sat.addPlain (h : Sat C ρ fr mem nx a w) {t : TypeId} {sz n : Nat} {el : Nat → List Value} {p : Pl} {B : Nat} (hF : FrB C ρ mem B) (ho : ownT t = false) (hp : p.res = false) (hok : BlkOk C (setPl ρ nx p) (nx + 1) nx w (.row t sz n el)) (hnew : n = 0 ∨ ∀ g, p.A.map (·.block) = some g → B ≤ g) :
    Sat C (setPl ρ nx p) fr ((nx, .row t sz n el) :: mem) (nx + 1) a w ∧ FrB C (setPl ρ nx p) ((nx, .row t sz n el) :: mem) B := by
  have hr : ∀ j, j < nx → (ρ j).res = false → setPl ρ nx p j = ρ j := fun j hj _ => setPl_lt ρ p hj
  have h1 := h.ren (ρ' := setPl ρ nx p) (m := nx + 1) hr (Nat.le_succ _) (fun j hj => setPl_lt ρ p (Nat.lt_of_lt_of_le hj h.n0))
  have e1 : bno (setPl ρ nx p) nx = p.A.map (·.block) := by unfold bno; rw [setPl_same]
  have e2 : ∀ j b, lk (mem ++ C.fm) j = some b → bno (setPl ρ nx p) j = bno ρ j := fun j b hj => by unfold bno; rw [setPl_lt ρ p (h.mlt j b hj).1]
  have key : ∀ j b', lk (mem ++ C.fm) j = some b' → Apart (setPl ρ nx p) nx j (.row t sz n el) b' ∧ Apart (setPl ρ nx p) j nx b' (.row t sz n el) := by
    intro j b' hj
    have hne : n ≠ 0 → ∀ g, bno ρ j = some g → g < B → bno (setPl ρ nx p) j ≠ bno (setPl ρ nx p) nx := by
      intro hn g hg hlt he
      rw [e1, e2 j b' hj, hg] at he
      have := hnew.resolve_left hn g he.symm
      omega
    cases b' with
    | box t2 cs2 =>
      refine ⟨trivial, ?_⟩
      by_cases hn : n = 0
      · exact .inl hn
      · refine .inr ?_
        obtain ⟨g, hA, -⟩ := h.blk j _ hj
        rcases hF j _ hj rfl with ⟨_, _, _, q⟩ | hlt
        · cases q
        · have hg : bno ρ j = some g := by simp [bno, hA]
          exact hne hn g hg (hlt g hg)
    | row t2 sz2 n2 el2 =>
      refine ⟨(fun q => absurd (ho.symm.trans q) (by decide)), fun ho2 => ?_⟩
      by_cases hn : n = 0
      · exact .inr (.inl hn)
      · by_cases hn2 : n2 = 0
        · exact .inl hn2
        · obtain ⟨-, -, h3⟩ := h.blk j _ hj
          rcases h3 with q | ⟨b, off, hA, -⟩
          · exact .inl q
          · rcases hF j _ hj ho2 with ⟨_, _, _, q⟩ | hlt
            · cases q; exact .inl rfl
            · have hg : bno ρ j = some b := by simp [bno, hA]
              exact .inr (.inr (hne hn b hg (hlt b hg)))
  refine ⟨⟨h1.fok, h1.sz, h1.dfr, fun i b' hi => ?_, fun i b' hi => ?_, fun i j b1 b2 hne hi hj => ?_, h1.n0, h1.low, h1.rest⟩, fun i b hi hb => ?_⟩
  · rcases lk_cons hi with ⟨rfl, rfl⟩ | ⟨hne, hi⟩
    · exact ⟨Nat.lt_succ_self _, by rw [setPl_same]; exact hp⟩
    · exact h1.mlt i b' hi
  · rcases lk_cons hi with ⟨rfl, rfl⟩ | ⟨hne, hi⟩
    · exact hok
    · exact h1.blk i b' hi
  · rcases lk_cons hi with ⟨rfl, rfl⟩ | ⟨hni, hi⟩
    · rcases lk_cons hj with ⟨rfl, rfl⟩ | ⟨hnj, hj⟩
      · exact absurd rfl hne
      · exact (key j b2 hj).1
    · rcases lk_cons hj with ⟨rfl, rfl⟩ | ⟨hnj, hj⟩
      · exact (key i b1 hi).2
      · exact h1.sep i j b1 b2 hne hi hj
  · rcases lk_cons hi with ⟨rfl, rfl⟩ | ⟨hne, hi⟩
    · simp only [exB] at hb
      rw [ho] at hb
      cases hb
    · rcases hF i b hi hb with q | q
      · exact .inl q
      · exact .inr fun g hg => q g (by rw [← e2 i b hi]; exact hg)
/-- A row of a list, made by the callee. -/
theorem Sat.addList (h : Sat C ρ fr mem nx a w) {B : Nat} (hF : FrB C ρ mem B) (hB : C.w0.heap.size ≤ B) {α : Type} {enc : α → List Value} {sz : Nat} (hs : ∀ x, (enc x).length = sz) (hpos : 0 < sz) (hpl : ∀ x, ∀ v ∈ enc x, plain1 v) {l : List α} (d : α) {t : TypeId} (ho : ownT t = false) {A : Option Addr} (hr : Rd w (fun b => B ≤ b ∧ b < w.heap.size) A (flat enc l)) :
    Sat C (setPl ρ nx ⟨A, sz, l.length, false⟩) fr ((nx, rowOfL t sz enc d l) :: mem) (nx + 1) a w ∧ FrB C (setPl ρ nx ⟨A, sz, l.length, false⟩) ((nx, rowOfL t sz enc d l) :: mem) B := by
  refine h.addPlain hF ho rfl (row_of_rd hs hpos hpl d (setPl_same _ _ _) hr (fun b hb => hb.2) ho (fun _ b hb => Nat.le_trans hB hb.1)) ?_
  by_cases h0 : l.length = 0
  · exact .inl h0
  · obtain ⟨b, off, x, hA, hb, -, -⟩ := hr.row hs hpos (k := 0) (by omega)
    refine .inr fun g hg => ?_
    simp [hA] at hg
    subst hg
    exact hb.1
def stPl (ρ : Nat → Pl) (nx : Nat) (y : StA) (s : St) : Nat → Pl := setPl (setPl ρ nx ⟨y.ac, 4, s.cells.length, false⟩) (nx + 1) ⟨y.at_, 12, s.tenants.length, false⟩
/-- A state that the callee has made: its rows get the names nx + 1 and nx. -/
theorem Sat.addSt (h0 : Sat C ρ fr mem nx a w) (hb : Below w.heap.size w w') {y : StA} {s : St} (hs : StOk w' (fun b => w.heap.size ≤ b ∧ b < w'.heap.size) y s) :
    Sat C (stPl ρ nx y s) fr (stM ⟨nx + 1, nx, 500000⟩ s ++ mem) (nx + 2) a w' ∧ den (stPl ρ nx y s) (stV ⟨nx + 1, nx, 500000⟩ ⟨y.ct, y.cc⟩ s) = .agg (stC y s) ∧ okV (stPl ρ nx y s) (nx + 2) (stV ⟨nx + 1, nx, 500000⟩ ⟨y.ct, y.cc⟩ s) ∧ ExtS ρ nx (stPl ρ nx y s) (nx + 2) := by
  obtain ⟨h1, f1⟩ := (h0.later hb).addList h0.frB h0.rest.size (enc := csC) (sz := 4) (fun _ => rfl) (by omega) csC_plain default (t := 500000) rfl hs.cells
  obtain ⟨h2, -⟩ := h1.addList f1 h0.rest.size (enc := tsC) (sz := 12) (fun _ => rfl) (by omega) tsC_plain default (t := 500000) rfl hs.tenants
  have q1 : stPl ρ nx y s nx = ⟨y.ac, 4, s.cells.length, false⟩ := by
    unfold stPl
    rw [setPl_lt _ _ (Nat.lt_succ_self _), setPl_same]
  have q2 : stPl ρ nx y s (nx + 1) = ⟨y.at_, 12, s.tenants.length, false⟩ := setPl_same _ _ _
  refine ⟨h2, ?_, ?_, fun i hi => ?_, by omega⟩
  · rw [den_st]
    congr 2
    simp [stX, q1, q2]
  · intro u hu
    simp at hu
    rcases hu with rfl | rfl | rfl | rfl | rfl | rfl | rfl | rfl <;> first | trivial | exact ⟨show nx + 1 < nx + 2 by omega, by rw [q2]⟩ | exact ⟨show nx < nx + 2 by omega, by rw [q1]⟩
  · unfold stPl
    rw [setPl_lt _ _ (by omega), setPl_lt _ _ hi]
end
end Go.Proofs.YtjobcfpnmfjlfaaGreat

namespace Go.Proofs.YtjobcfpnmfjlfaaGreat
open Go.RowKit
set_option linter.unusedSimpArgs false
set_option linter.unusedVariables false
/-! What holds of every reached state. No program in sight. -/

structure TsInv (c : Cfg) (t : TS) : Prop where
  home : -1 ≤ t.home ∧ t.home < c.cells.length
  standby : -1 ≤ t.standby ∧ t.standby < c.cells.length
  next : -1 ≤ t.next ∧ t.next < c.cells.length
  target : -1 ≤ t.target ∧ t.target < c.cells.length
  epoch : 0 ≤ t.epoch ∧ t.epoch ≤ 1048576
  wcell : -1 ≤ t.win.cell ∧ t.win.cell < c.cells.length
  wepoch : 0 ≤ t.win.epoch ∧ t.win.epoch ≤ 1048576
  wver : 0 ≤ t.win.version ∧ t.win.version < c.versions.length
  wsince : 0 ≤ t.win.since ∧ t.win.since ≤ 1073741824
  wtill : 0 ≤ t.win.till ∧ t.win.till ≤ 1073741824
  placed : t.placed = true → 0 ≤ t.home
  shed : t.shed = true → t.placed = true
structure CsInv (c : Cfg) (lo hi : Int) (x : CS) : Prop where
  mode : 1 ≤ x.mode ∧ x.mode ≤ 3
  running : 0 ≤ x.running ∧ x.running < c.versions.length
  wanted : 0 ≤ x.wanted ∧ x.wanted < c.versions.length
  since : 0 ≤ x.since ∧ x.since ≤ 1073741824
  runs : (verAt c x.running).1 ≤ lo ∧ hi ≤ (verAt c x.running).2
  wants : (verAt c x.wanted).1 ≤ lo ∧ hi ≤ (verAt c x.wanted).2
structure StInv (c : Cfg) (s : St) : Prop where
  lt : s.tenants.length = c.tenants.length
  lc : s.cells.length = c.cells.length
  tick : 0 ≤ s.tick ∧ s.tick ≤ 1073741824
  count : 0 ≤ s.count ∧ s.count ≤ 4096
  proven : 0 ≤ s.proven ∧ s.proven < 1073741824
  evac : 0 ≤ s.evac ∧ s.evac < 16
  low : 0 ≤ s.low ∧ s.low ≤ s.high ∧ s.high ≤ s.low + 1 ∧ s.high ≤ 30
  ten : ∀ t ∈ s.tenants, TsInv c t
  cel : ∀ x ∈ s.cells, CsInv c s.low s.high x

theorem verAt_zero {c : Cfg} (hV : CfgV c) : (verAt c 0).1 = 0 ∧ 0 ≤ (verAt c 0).2 := by
  have h := hV.nv
  have h0 : c.versions[0]? = some c.versions[0] := List.getElem?_eq_getElem (by omega)
  have h1 := hV.ver 0 _ h0
  unfold verAt
  rw [show (0 : Int).toNat = 0 from rfl, getD_some h0]
  simp [verOk] at h1
  omega
theorem stNew_inv {c : Cfg} (hV : CfgV c) : StInv c (stNew c) := by
  have h := hV.nv
  have hz := verAt_zero hV
  refine ⟨by simp [stNew], by simp [stNew], by simp [stNew], by simp [stNew], by simp [stNew], by simp [stNew], by simp [stNew], fun t ht => ?_, fun x hx => ?_⟩
  · obtain rfl := List.eq_of_mem_replicate (show t ∈ List.replicate c.tenants.length tsNew from ht)
    constructor <;> simp [tsNew] <;> omega
  · obtain rfl := List.eq_of_mem_replicate (show x ∈ List.replicate c.cells.length csNew from hx)
    constructor <;> simp [csNew, stNew] <;> omega

theorem tsAt_mem {s : St} {i : Int} (h0 : 0 ≤ i) (h1 : i < s.tenants.length) : s.tenants[i.toNat]? = some (tsAt s i) ∧ tsAt s i ∈ s.tenants := by
  have h : i.toNat < s.tenants.length := by omega
  have e := List.getElem?_eq_getElem h
  have : tsAt s i = s.tenants[i.toNat] := getD_some e
  rw [this]
  exact ⟨e, List.getElem_mem h⟩
theorem csAt_mem {s : St} {i : Int} (h0 : 0 ≤ i) (h1 : i < s.cells.length) : s.cells[i.toNat]? = some (csAt s i) ∧ csAt s i ∈ s.cells := by
  have h : i.toNat < s.cells.length := by omega
  have e := List.getElem?_eq_getElem h
  have : csAt s i = s.cells[i.toNat] := getD_some e
  rw [this]
  exact ⟨e, List.getElem_mem h⟩
theorem orBit_lt {a i : Int} {m : Nat} (h0 : 0 ≤ a) (h1 : a < 2 ^ m) (hi : i.toNat < m) : 0 ≤ orBit a i ∧ orBit a i < 2 ^ m := by
  obtain ⟨n, rfl⟩ := Int.eq_ofNat_of_zero_le h0
  have hn : n < 2 ^ m := by exact_mod_cast h1
  have h2 : 1 <<< i.toNat < 2 ^ m := by rw [Nat.one_shiftLeft]; exact Nat.pow_lt_pow_right (by omega) hi
  have := Nat.or_lt_two_pow hn h2
  unfold orBit
  rw [Int.toNat_natCast]
  refine ⟨Int.natCast_nonneg _, ?_⟩
  exact_mod_cast this
theorem flipBit_lt {a i : Int} {m : Nat} (h0 : 0 ≤ a) (h1 : a < 2 ^ m) (hi : i.toNat < m) : 0 ≤ flipBit a i ∧ flipBit a i < 2 ^ m := by
  obtain ⟨n, rfl⟩ := Int.eq_ofNat_of_zero_le h0
  have hn : n < 2 ^ m := by exact_mod_cast h1
  have h2 : 1 <<< i.toNat < 2 ^ m := by rw [Nat.one_shiftLeft]; exact Nat.pow_lt_pow_right (by omega) hi
  have := Nat.xor_lt_two_pow hn h2
  unfold flipBit
  rw [Int.toNat_natCast]
  refine ⟨Int.natCast_nonneg _, ?_⟩
  exact_mod_cast this

/-- The facts behind an entry that is not refused. -/
structure Acc (c : Cfg) (s : St) (e : Ent) : Prop where
  ent : entV c e = true
  cnt : s.count < 4096
  tick : s.tick ≤ e.tick
  kind : kindE c s e = 0
theorem acc_of {c : Cfg} {s : St} {e : Ent} (h : refusedE c s e = 0) : Acc c s e := by
  unfold refusedE at h
  by_cases h1 : entV c e = false
  · rw [if_pos h1] at h; omega
  rw [if_neg h1] at h
  by_cases h2 : 4096 ≤ s.count
  · rw [if_pos h2] at h; omega
  rw [if_neg h2] at h
  by_cases h3 : e.tick < s.tick
  · rw [if_pos h3] at h; omega
  rw [if_neg h3] at h
  exact ⟨by simpa using h1, by omega, by omega, h⟩
theorem ent_kind {c : Cfg} {e : Ent} (h : entV c e = true) : e.kind = 1 ∨ e.kind = 2 ∨ e.kind = 3 ∨ e.kind = 4 ∨ e.kind = 5 ∨ e.kind = 6 ∨ e.kind = 7 ∨ e.kind = 8 ∨ e.kind = 9 ∨ e.kind = 10 ∨ e.kind = 11 ∨ e.kind = 12 ∨ e.kind = 13 ∨ e.kind = 14 ∨ e.kind = 15 ∨ e.kind = 16 := by
  have : inR e.kind 1 16 = true := by
    unfold entV entOk at h
    simp only [Bool.and_eq_true] at h
    exact h.1.1.1.1.1.1.1.1.1
  simp [inR] at this
  omega
/-- The ranges of the fields of a valid entry. -/
theorem ent_rng {c : Cfg} {e : Ent} (h : entV c e = true) : (0 ≤ e.tick ∧ e.tick ≤ 1073741824) ∧ inS e.tenant (fT c.tenants.length e.kind) = true ∧ inS e.cell (fC c.cells.length e.kind) = true ∧ inS e.other (fO c.cells.length c.regions e.kind) = true ∧
    inS e.epoch (fE e.kind) = true ∧ inS e.since (fW e.kind) = true ∧ inS e.till (fW e.kind) = true ∧ inS e.n (fN c.versions.length e.kind) = true ∧ (e.kind ≠ 1 ∨ e.other ≠ e.cell) := by
  unfold entV entOk at h
  simp only [Bool.and_eq_true] at h
  obtain ⟨⟨⟨⟨⟨⟨⟨⟨⟨h1, h2⟩, h3⟩, h4⟩, h5⟩, h6⟩, h7⟩, h8⟩, h9⟩, h10⟩ := h
  refine ⟨by simpa [inR] using h2, h3, h4, h5, h6, h7, h8, h9, by simpa using h10⟩

theorem inv_setTen {c : Cfg} {s : St} (h : StInv c s) {e : Ent} (hc : s.count < 4096) (ht : s.tick ≤ e.tick) (ht2 : e.tick ≤ 1073741824) {i : Int} {t : TS} (hT : TsInv c t) : StInv c (setTen (stamped s e) i t) := by
  refine ⟨?_, h.lc, ⟨by have := h.tick; show 0 ≤ e.tick; omega, ht2⟩, ⟨by have := h.count; show 0 ≤ s.count + 1; omega, by show s.count + 1 ≤ 4096; omega⟩, h.proven, h.evac, h.low, fun t' ht' => ?_, h.cel⟩
  · show (s.tenants.set i.toNat t).length = _
    rw [List.length_set]; exact h.lt
  · rcases List.mem_or_eq_of_mem_set (show t' ∈ s.tenants.set i.toNat t from ht') with h1 | rfl
    · exact h.ten _ h1
    · exact hT
theorem inv_setCel {c : Cfg} {s : St} (h : StInv c s) {e : Ent} (hc : s.count < 4096) (ht : s.tick ≤ e.tick) (ht2 : e.tick ≤ 1073741824) {i : Int} {x : CS} (hX : CsInv c s.low s.high x) : StInv c (setCel (stamped s e) i x) := by
  refine ⟨h.lt, ?_, ⟨by have := h.tick; show 0 ≤ e.tick; omega, ht2⟩, ⟨by have := h.count; show 0 ≤ s.count + 1; omega, by show s.count + 1 ≤ 4096; omega⟩, h.proven, h.evac, h.low, h.ten, fun t' ht' => ?_⟩
  · show (s.cells.set i.toNat x).length = _
    rw [List.length_set]; exact h.lc
  · rcases List.mem_or_eq_of_mem_set (show t' ∈ s.cells.set i.toNat x from ht') with h1 | rfl
    · exact h.cel _ h1
    · exact hX

theorem StInv.step {c : Cfg} {s : St} {e : Ent} (hV : CfgV c) (h : StInv c s) (hr : refusedE c s e = 0) : StInv c (effOf s e) := by
  have ha := acc_of hr
  have hk := ent_kind ha.ent
  obtain ⟨hti, hT, hC, hO, hE, hS, hU, hN, hne⟩ := ent_rng ha.ent
  have hkd := ha.kind
  have hcnt := ha.cnt
  have htk := ha.tick
  have hlt := h.lt
  have hlc := h.lc
  have hnc := hV.nc
  have hnv := hV.nv
  have hreg := hV.reg
  clear ha hr
  obtain ⟨kind, tick, tenant, cell, other, epoch, since, till, n⟩ := e
  simp only at *
  by_cases h8 : kind ≤ 8
  · have hten : 0 ≤ tenant ∧ tenant < s.tenants.length := by
      have : fT c.tenants.length kind = (0, (c.tenants.length : Int) - 1) := if_pos h8
      rw [this] at hT
      simp [inS, inR] at hT
      omega
    have hti0 := h.ten _ (tsAt_mem hten.1 hten.2).2
    have eff : effOf s ⟨kind, tick, tenant, cell, other, epoch, since, till, n⟩ = setTen (stamped s ⟨kind, tick, tenant, cell, other, epoch, since, till, n⟩) tenant (tenEff (tsAt s tenant) ⟨kind, tick, tenant, cell, other, epoch, since, till, n⟩) := by
      unfold effOf
      exact if_pos h8
    rw [eff]
    refine inv_setTen h hcnt htk hti.2 ?_
    clear eff
    have hk' : kind = 1 ∨ kind = 2 ∨ kind = 3 ∨ kind = 4 ∨ kind = 5 ∨ kind = 6 ∨ kind = 7 ∨ kind = 8 := by omega
    obtain ⟨i1, i2, i3, i4, i5, i6, i7, i8, i9, i10, i11, i12⟩ := hti0
    generalize htd : tsAt s tenant = t at *
    rcases hk' with rfl | rfl | rfl | rfl | rfl | rfl | rfl | rfl
    · simp [inS, inR, fC, fO] at hC hO
      refine ⟨?_, ?_, i3, i4, i5, i6, i7, i8, i9, i10, ?_, ?_⟩ <;> simp [tenEff] <;> omega
    · simp [inS, inR, fC, fE, fW, fN] at hC hE hS hU hN
      simp only [tenEff, grantT]
      have hpl : t.placed = true := by
        cases hp : t.placed with
        | true => rfl
        | false => simp [kindE, grantE, htd, hp] at hkd
      simp only [show ¬ ((2 : Int) = 1) by omega, if_false, if_true]
      split
      · constructor <;> (try simp only) <;> first | omega | (intro hh; first | omega | exact i11 hh | exact i12 hh | exact hpl | exact hpl hn | cases hh)
      · split
        · constructor <;> (try simp only) <;> first | omega | (intro hh; first | omega | exact i11 hh | exact i12 hh | exact hpl | exact hpl hn | cases hh)
        · constructor <;> (try simp only) <;> first | omega | (intro hh; first | omega | exact i11 hh | exact i12 hh | exact hpl | exact hpl hn | cases hh)
    · refine ⟨i1, i2, i3, i4, i5, i6, i7, i8, ?_, ?_, i11, i12⟩ <;> simp [tenEff, cutW] <;> omega
    · simp [inS, inR, fC] at hC
      refine ⟨i1, i2, ?_, i4, i5, i6, i7, i8, i9, i10, i11, i12⟩ <;> simp [tenEff] <;> omega
    · simp [inS, inR, fC] at hC
      refine ⟨i1, ?_, ?_, i4, i5, i6, i7, i8, i9, i10, i11, i12⟩ <;> simp [tenEff] <;> omega
    · simp [inS, inR, fC] at hC
      refine ⟨i1, i2, i3, ?_, i5, i6, i7, i8, i9, i10, i11, i12⟩ <;> simp [tenEff] <;> omega
    · refine ⟨i1, i2, i3, ?_, i5, i6, i7, i8, i9, i10, i11, i12⟩ <;> simp [tenEff] <;> omega
    · have hpl : n = 1 → t.placed = true := by
        intro hn
        cases hp : t.placed with
        | true => rfl
        | false => simp [kindE, shedE, htd, hp, hn] at hkd
      by_cases hn : n = 1
      · simp only [tenEff, show ¬ ((8 : Int) = 1) by omega, show ¬ ((8 : Int) = 2) by omega, show ¬ ((8 : Int) = 3) by omega, show ¬ ((8 : Int) = 4) by omega, show ¬ ((8 : Int) = 5) by omega, show ¬ ((8 : Int) = 6) by omega, show ¬ ((8 : Int) = 7) by omega, if_false, if_true, hn]
        constructor <;> (try simp only) <;> first | omega | (intro hh; first | omega | exact i11 hh | exact i12 hh | exact hpl | exact hpl hn | cases hh)
      · simp only [tenEff, show ¬ ((8 : Int) = 1) by omega, show ¬ ((8 : Int) = 2) by omega, show ¬ ((8 : Int) = 3) by omega, show ¬ ((8 : Int) = 4) by omega, show ¬ ((8 : Int) = 5) by omega, show ¬ ((8 : Int) = 6) by omega, show ¬ ((8 : Int) = 7) by omega, if_false, if_true, hn]
        exact ⟨i1, i2, i3, i4, i5, i6, i7, i8, i9, i10, i11, fun h => by cases h⟩
  · by_cases h11 : kind ≤ 11
    · have eff : effOf s ⟨kind, tick, tenant, cell, other, epoch, since, till, n⟩ = setCel (stamped s ⟨kind, tick, tenant, cell, other, epoch, since, till, n⟩) cell (celEff (csAt s cell) ⟨kind, tick, tenant, cell, other, epoch, since, till, n⟩) := by
        unfold effOf
        rw [if_neg h8, if_pos h11]
      have hcel : 0 ≤ cell ∧ cell < s.cells.length := by
        have : fC c.cells.length kind = (0, (c.cells.length : Int) - 1) := if_pos (by omega)
        rw [this] at hC
        simp [inS, inR] at hC
        omega
      rw [eff]
      refine inv_setCel h hcnt htk hti.2 ?_
      have hx := h.cel _ (csAt_mem hcel.1 hcel.2).2
      generalize hxd : csAt s cell = x at *
      obtain ⟨i1, i2, i3, i4, i5, i6⟩ := hx
      have hk' : kind = 9 ∨ kind = 10 ∨ kind = 11 := by omega
      rcases hk' with rfl | rfl | rfl
      · simp [inS, inR, fN] at hN
        refine ⟨?_, i2, i3, ?_, i5, i6⟩ <;> simp [celEff] <;> omega
      · simp [inS, inR, fN] at hN
        have hw : (verAt c n).1 ≤ s.low ∧ s.high ≤ (verAt c n).2 := by
          simp [kindE, wantE, hxd] at hkd
          split at hkd
          · omega
          · split at hkd
            · omega
            · omega
        refine ⟨i1, i2, ?_, i4, i5, ?_⟩
        · simp [celEff]; omega
        · exact hw
      · simp [inS, inR, fN] at hN
        have hw : n = x.wanted := by
          simp [kindE, runsE, hxd] at hkd
          by_cases hh : x.wanted = n
          · exact hh.symm
          · simp [hh] at hkd
        subst hw
        exact ⟨i1, i3, i3, ⟨by simp [celEff]; omega, by simp [celEff]; omega⟩, i6, i6⟩
    · have hk' : kind = 12 ∨ kind = 13 ∨ kind = 14 ∨ kind = 15 ∨ kind = 16 := by omega
      have htick : 0 ≤ tick ∧ tick ≤ 1073741824 := hti
      have hcn : 0 ≤ s.count + 1 ∧ s.count + 1 ≤ 4096 := by have := h.count; omega
      rcases hk' with rfl | rfl | rfl | rfl | rfl
      · simp [inS, inR, fN] at hN
        have hp := h.proven
        have := orBit_lt (a := s.proven) (i := n) (m := 30) hp.1 (by simpa using hp.2) (by omega)
        exact ⟨hlt, hlc, htick, hcn, by simpa [effOf, stamped] using this, h.evac, h.low, h.ten, h.cel⟩
      · simp [inS, inR, fO] at hO
        have hp := h.evac
        have := flipBit_lt (a := s.evac) (i := other) (m := 4) hp.1 (by simpa using hp.2) (by omega)
        exact ⟨hlt, hlc, htick, hcn, h.proven, by simpa [effOf, stamped] using this, h.low, h.ten, h.cel⟩
      · have hlo := h.low
        have hx : ¬ s.low < s.high ∧ ¬ 30 ≤ s.high ∧ s.cells.any (blockB c s) = false := by
          simp only [kindE, expandE] at hkd
          simp at hkd
          by_cases h1 : s.low < s.high
          · simp [h1] at hkd
          · by_cases h2 : 30 ≤ s.high
            · simp [h1, h2] at hkd
            · refine ⟨h1, h2, ?_⟩
              rw [Bool.eq_false_iff]
              intro h3
              obtain ⟨x, hx, hb⟩ := List.any_eq_true.1 h3
              simp only [h1, h2, if_false] at hkd
              rw [if_pos ⟨x, hx, hb⟩] at hkd
              omega
        refine ⟨hlt, hlc, htick, hcn, h.proven, h.evac, ?_, h.ten, fun x hx' => ?_⟩
        · simp [effOf, stamped]; omega
        · have hb : blockB c s x = false := by
            rw [Bool.eq_false_iff]
            intro hb
            have := List.any_eq_true.2 ⟨x, (show x ∈ s.cells from hx'), hb⟩
            rw [hx.2.2] at this
            cases this
          simp [blockB] at hb
          obtain ⟨i1, i2, i3, i4, i5, i6⟩ := h.cel x hx'
          refine ⟨i1, i2, i3, i4, ⟨i5.1, ?_⟩, ⟨i6.1, ?_⟩⟩ <;> simp [effOf, stamped] <;> omega
      · have hlo := h.low
        refine ⟨hlt, hlc, htick, hcn, h.proven, h.evac, ?_, h.ten, fun x hx' => ?_⟩
        · simp [effOf, stamped]; omega
        · obtain ⟨i1, i2, i3, i4, i5, i6⟩ := h.cel x hx'
          refine ⟨i1, i2, i3, i4, ⟨?_, i5.2⟩, ⟨?_, i6.2⟩⟩ <;> simp [effOf, stamped] <;> omega
      · exact ⟨hlt, hlc, htick, hcn, h.proven, h.evac, h.low, h.ten, h.cel⟩
end Go.Proofs.YtjobcfpnmfjlfaaGreat

namespace Go.Proofs.YtjobcfpnmfjlfaaGreat
open Go.RowKit
set_option linter.unusedSimpArgs false
set_option linter.unusedVariables false

theorem BlkOk.fresh {C : Ctx} {ρ : Nat → Pl} {nx i : Nat} {w : World} {t : TypeId} {sz n : Nat} {el : Nat → List Value} {α : Type} {enc : α → List Value} {l : List α} (d : α) (h : BlkOk C ρ nx i w (.row t sz n el)) (ho : frT t = true) (hl : l.length = n) (he : ∀ k, k < n → el k = enc (l.getD k d)) (hs : ∀ x, (enc x).length = sz) (hpos : 0 < sz) :
    Rd w (fun b => C.w0.heap.size ≤ b ∧ b < w.heap.size) (ρ i).A (flat enc l) := by
  subst hl
  obtain ⟨h1, h2, h3⟩ := h
  have hb : BlkOk C ρ nx i w (.row t sz l.length (fun k => enc (l.getD k d))) := by
    refine ⟨h1, fun k hk => by have := h2 k hk; rw [he k hk] at this; exact this, h3.imp id ?_⟩
    rintro ⟨b, off, hA, hat, hc⟩
    exact ⟨b, off, hA, hat, fun k hk j v hv => hc k hk j v (by rw [he k hk]; exact hv)⟩
  refine rd_of_row hs hpos hb fun hne b off hA hlt => ?_
  rcases h3 with h0 | ⟨b2, off2, hA2, hat, -⟩
  · exact absurd h0 hne
  · rw [hA] at hA2
    cases hA2
    exact ⟨hat.new ho, hlt⟩
def cpl (x : CfgA) (c : Cfg) : Nat → Pl := fun j => match j with
  | 0 => ⟨x.az, 1, c.zones.length, false⟩
  | 1 => ⟨x.ac, 2, c.cells.length, false⟩
  | 2 => ⟨x.at_, 7, c.tenants.length, false⟩
  | 3 => ⟨x.av, 2, c.versions.length, false⟩
  | 4 => ⟨x.ar, 1, c.replicas.length, false⟩
  | _ => ⟨x.ao, 1, c.observers.length, false⟩
theorem getD_rep {α : Type} {n k : Nat} {a d : α} (h : k < n) : (List.replicate n a).getD k d = a := by
  rw [List.getD_eq_getElem?_getD, List.getElem?_replicate, if_pos h]; rfl
theorem stNew_calls (x : CfgA) (c : Cfg) (w : World) (hc : CfgOk w (· < w.heap.size) x c) (hnt : c.tenants.length ≤ 1000) (hnc : c.cells.length ≤ 1000) :
    Calls Tryz.prog 38 #[.agg (cfgC x c)] w fun e w' => ∃ y, e = .returned (.agg (stC y (stNew c))) ∧ StOk w' (fun b => w.heap.size ≤ b ∧ b < w'.heap.size) y (stNew c) ∧ Below w.heap.size w w' := by
  have hpc : CfgPl (cpl x c) CN1 x c := ⟨rfl, rfl, rfl, rfl, rfl, rfl⟩
  have hm : MemAt { w0 := w, bor := [], n0 := 6, ρ0 := cpl x c, nt := (Tryz.f38).ntmps } (cpl x c) (cfgM CN1 c) 6 w := MemAt.rows trivial (by
    have := cfg_blks (C := { w0 := w, bor := [], n0 := 6, ρ0 := cpl x c, nt := (Tryz.f38).ntmps }) (nx := 6) (r := []) hpc hc (fun b hb => hb) (by decide) trivial
    exact this)
  have hv0 : #[Value.agg (cfgC x c)] = ([cfgV CN1 ⟨x.cz, x.cc, x.ct, x.cv, x.cr, x.co⟩ c].map (den (cpl x c))).toArray := by
    rw [List.map_cons, den_cfg]
    rfl
  rw [hv0]
  refine (calls_sx ttOk ft_nil mixed Tryz.func38 rfl (D := newD) (by kernel_rfl) (vs := [cfgV CN1 ⟨x.cz, x.cc, x.ct, x.cv, x.cr, x.co⟩ c]) rfl ⟨rfl, rfl⟩ rfl hm (fun v hv => ?_) (new_sx _ c hnt hnc)).mono ?_
  · obtain rfl : v = _ := by simpa using hv
    intro u hu
    simp at hu
    rcases hu with rfl | rfl | rfl | rfl | rfl | rfl | rfl | rfl | rfl | rfl <;> first | trivial | exact ⟨by decide, rfl⟩
  · rintro e w' ⟨v, mem', nx', ρ', rfl, ⟨rfl, ⟨eT, hT, hT2⟩, ⟨eC, hC, hC2⟩⟩, hv, hm'⟩
    refine ⟨⟨(ρ' 8).A, c.tenants.length, (ρ' 9).A, c.cells.length⟩, ?_, ⟨?_, ?_⟩, ⟨hm'.rest.os, hm'.rest.tape, hm'.rest.output, hm'.rest.size, fun b hlt => hm'.rest.block b hlt (by simp)⟩⟩
    · simp [den, den2, den1, dA_whole, stC, stNew, newV]
    · exact (hm'.blk 8 _ hT).fresh (enc := tsC) (l := (stNew c).tenants) default rfl (by simp [stNew]) (fun k hk => by rw [hT2 k hk]; simp only [stNew]; rw [getD_rep hk]) (fun _ => rfl) (by omega)
    · exact (hm'.blk 9 _ hC).fresh (enc := csC) (l := (stNew c).cells) default rfl (by simp [stNew]) (fun k hk => by rw [hC2 k hk]; simp only [stNew]; rw [getD_rep hk]) (fun _ => rfl) (by omega)
def ctNewS : CT := fun vs mem nx K => ∃ N x c, vs = [cfgV N x c] ∧ keeps mem (cfgM N c) ∧ (c.tenants.length ≤ 1000 ∧ c.cells.length ≤ 1000) ∧ ∀ y, K (stV ⟨nx + 1, nx, 500000⟩ y (stNew c)) (stM ⟨nx + 1, nx, 500000⟩ (stNew c) ++ mem) (nx + 2)
theorem newSOk : CSound Tryz.prog 38 ctNewS := ⟨by kernel_rfl, fun {C ρ fr mem nx a w vs K} hc hs hv => by
  obtain ⟨N, x, c, rfl, hk, ⟨hnt, hnc⟩, hK⟩ := hc
  rw [List.map_cons, den_cfg]
  refine (stNew_calls (cfgX ρ N x) c w (hs.cfg hk (fun b h _ => h)) hnt hnc).mono ?_
  rintro e w' ⟨y, rfl, hst, hb⟩
  obtain ⟨q1, q2, q3, q4⟩ := hs.addSt hb hst
  exact ⟨_, _, _, _, by rw [q2], hK ⟨y.ct, y.cc⟩, q1, q3, q4⟩⟩
end Go.Proofs.YtjobcfpnmfjlfaaGreat

namespace Go.Proofs.YtjobcfpnmfjlfaaGreat
open Go.RowKit
set_option linter.unusedSimpArgs false
set_option linter.unusedVariables false
theorem i64_and_nat (a b : Nat) (ha : a < 4611686018427387904) (hb : b < 4611686018427387904) : bits .and .i64 (a : Int) (b : Int) = ((a &&& b : Nat) : Int) := by
  have hx : a &&& b < 2 ^ 62 := Nat.and_lt_two_pow _ (by omega)
  have h1 : (BitVec.ofInt 64 (a : Int)).toNat = a := by
    rw [BitVec.ofInt_natCast, BitVec.toNat_ofNat]; exact Nat.mod_eq_of_lt (by omega)
  have h2 : (BitVec.ofInt 64 (b : Int)).toNat = b := by
    rw [BitVec.ofInt_natCast, BitVec.toNat_ofNat]; exact Nat.mod_eq_of_lt (by omega)
  show IntKind.i64.wrap ((BitVec.ofInt 64 (a : Int) &&& BitVec.ofInt 64 (b : Int)).toNat : Int) = _
  rw [BitVec.toNat_and, h1, h2, IntKind.wrap_i64]
  omega
theorem i64_or_nat (a b : Nat) (ha : a < 4611686018427387904) (hb : b < 4611686018427387904) : bits .or .i64 (a : Int) (b : Int) = ((a ||| b : Nat) : Int) := by
  have hx : a ||| b < 2 ^ 62 := Nat.or_lt_two_pow (by omega) (by omega)
  have h1 : (BitVec.ofInt 64 (a : Int)).toNat = a := by
    rw [BitVec.ofInt_natCast, BitVec.toNat_ofNat]; exact Nat.mod_eq_of_lt (by omega)
  have h2 : (BitVec.ofInt 64 (b : Int)).toNat = b := by
    rw [BitVec.ofInt_natCast, BitVec.toNat_ofNat]; exact Nat.mod_eq_of_lt (by omega)
  show IntKind.i64.wrap ((BitVec.ofInt 64 (a : Int) ||| BitVec.ofInt 64 (b : Int)).toNat : Int) = _
  rw [BitVec.toNat_or, h1, h2, IntKind.wrap_i64]
  omega
theorem i64_and1 (z : Int) (h0 : 0 ≤ z) (h1 : z < 4611686018427387904) : bits .and .i64 z 1 = z % 2 := by
  obtain ⟨n, rfl⟩ := Int.eq_ofNat_of_zero_le h0
  have := i64_and_nat n 1 (by omega) (by omega)
  rw [Nat.and_one_is_mod] at this
  simpa using this
theorem i64_orBit (a n : Int) (h0 : 0 ≤ a) (h1 : a < 1073741824) (hn : 0 ≤ n) (hn2 : n < 30) : bits .or .i64 a (2 ^ n.toNat) = orBit a n := by
  obtain ⟨k, rfl⟩ := Int.eq_ofNat_of_zero_le h0
  have hp : 2 ^ n.toNat < 2 ^ 30 := Nat.pow_lt_pow_right (by omega) (by omega)
  have := i64_or_nat k (2 ^ n.toNat) (by omega) (by omega)
  unfold orBit
  rw [Nat.one_shiftLeft, Int.toNat_natCast]
  rw [← this]
  simp
theorem evac_or : ∀ (a : Fin 16) (b : Fin 4), Nat.testBit a b = false → (a.val ||| (1 <<< b.val)) = (a.val ^^^ (1 <<< b.val)) := by decide
theorem evac_andNot : ∀ (a : Fin 16) (b : Fin 4), Nat.testBit a b = true → bits .andNot .i64 (a.val : Int) (2 ^ b.val) = ((a.val ^^^ (1 <<< b.val) : Nat) : Int) := by decide +kernel
theorem bit_div2 (set i : Int) (h0 : 0 ≤ set) : ((set / 2 ^ i.toNat) % 2 == 1) = bitB set i := by
  obtain ⟨n, rfl⟩ := Int.eq_ofNat_of_zero_le h0
  unfold bitB
  rw [Nat.testBit_eq_decide_div_mod_eq]
  have e : ((n : Int) / 2 ^ i.toNat) = ((n / 2 ^ i.toNat : Nat) : Int) := by
    rw [Int.natCast_ediv]
    simp
  rw [e, Int.toNat_natCast]
  have : (n / 2 ^ i.toNat) % 2 = 0 ∨ (n / 2 ^ i.toNat) % 2 = 1 := by omega
  rw [Bool.eq_iff_iff]
  simp
  omega
theorem div_bd {z : Int} (i : Int) (h0 : 0 ≤ z) (h1 : z < 4611686018427387904) : 0 ≤ z / 2 ^ i.toNat ∧ z / 2 ^ i.toNat < 4611686018427387904 := by
  obtain ⟨n, rfl⟩ := Int.eq_ofNat_of_zero_le h0
  have e : ((n : Int) / 2 ^ i.toNat) = ((n / 2 ^ i.toNat : Nat) : Int) := by
    rw [Int.natCast_ediv]
    simp
  rw [e]
  have : n / 2 ^ i.toNat ≤ n := Nat.div_le_self _ _
  generalize n / 2 ^ i.toNat = q at *
  omega
end Go.Proofs.YtjobcfpnmfjlfaaGreat

namespace Go.Proofs.YtjobcfpnmfjlfaaGreat
open Go.RowKit
set_option linter.unusedSimpArgs false
set_option linter.unusedVariables false

set_option maxHeartbeats 400000 in
theorem topoWithin_any (n lo hi : Int) (w : World) :
    Calls Tryz.prog 126 #[.int .i64 n, .int .i64 lo, .int .i64 hi] w fun e w' => e = .returned (.bool (inR n lo hi)) ∧ w = w' := by
  go_enter Tryz.func126, Tryz.ntmps126
  go_wp2
  all_goals
    go_ret
    refine ⟨ret_bool ?_, rfl⟩
    go_light
    simp [inR, *] <;> omega
set_option maxHeartbeats 400000 in
theorem tenantWithin_any (n lo hi : Int) (w : World) :
    Calls Tryz.prog 118 #[.int .i64 n, .int .i64 lo, .int .i64 hi] w fun e w' => e = .returned (.bool (inR n lo hi)) ∧ w = w' := by
  go_enter Tryz.func118, Tryz.ntmps118
  go_wp2
  all_goals
    go_ret
    refine ⟨ret_bool ?_, rfl⟩
    go_light
    simp [inR, *] <;> omega
theorem inR_no {k : Int} {n : Nat} (h : ¬ (0 ≤ k ∧ k < (n : Int))) : inR k 0 ((n : Int) - 1) = false := by
  rw [Bool.eq_false_iff]; simp [inR]; omega
theorem inR_yes {k : Int} {n : Nat} (h : 0 ≤ k ∧ k < (n : Int)) : inR k 0 ((n : Int) - 1) = true := by
  simp [inR]; omega

set_option maxHeartbeats 400000 in
theorem topoZoneOf_any (x : CfgA) (c : Cfg) (k : Int) (w : World) (hV : CfgV c) (hok : CfgOk w (· < w.heap.size) x c) :
    Calls Tryz.prog 124 #[.agg (cfgC x c), .int .i64 k] w fun e w' => e = .returned (.int .i64 (zoneOf c k)) ∧ Below w.heap.size w w' := by
  obtain ⟨az, cz, ac, cc, at_, ct, av, cv, ar, cr, ao, co⟩ := x
  have hnc := hV.nc
  have HK := Lib.hid hok
  clear hok hV
  unfold cfgC
  simp only
  by_cases hk : 0 ≤ k ∧ k < c.cells.length
  · have HI := inR_yes hk
    obtain ⟨hk0, hk1⟩ := hk
    obtain ⟨n, rfl⟩ := Int.eq_ofNat_of_zero_le hk0
    have hn : n < c.cells.length := by omega
    obtain ⟨b, off, z, rfl, hb, hz, hcell⟩ := HK.out.cells.row (enc := pairC) (sz := 2) (fun _ => rfl) (by omega) hn
    have e0 := hcell 0 (.int .i64 z.1) rfl
    simp only [Nat.add_zero] at e0
    have hzo : zoneOf c n = z.1 := by unfold zoneOf; rw [if_pos ⟨hk0, hk1⟩, Int.toNat_natCast, getD_some hz]
    have HZ := Lib.hid hzo
    have hb1 : b < w.heap.size := hb
    clear hcell hz hzo
    go_enter Tryz.func124, Tryz.ntmps124
    go_wp2_with (go_at_call 126; (with_reducible refine (topoWithin_any _ _ _ _).mono ?_); rintro x wq ⟨rfl, rfl⟩; rw [HI])
    go_ret
    exact ⟨ret_i64 HZ.out.symm, (Below.refl _ _).alloc (Nat.le_refl _) _⟩
  · have HI := inR_no hk
    have hzo : zoneOf c k = -1 := by unfold zoneOf; rw [if_neg hk]
    have HZ := Lib.hid hzo
    clear hk hzo
    go_enter Tryz.func124, Tryz.ntmps124
    go_wp2_with (go_at_call 126; (with_reducible refine (topoWithin_any _ _ _ _).mono ?_); rintro x wq ⟨rfl, rfl⟩; rw [HI])
    go_ret
    exact ⟨ret_i64 HZ.out.symm, (Below.refl _ _).alloc (Nat.le_refl _) _⟩

set_option maxHeartbeats 400000 in
theorem topoRegZone_any (x : CfgA) (c : Cfg) (k : Int) (w : World) (hV : CfgV c) (hok : CfgOk w (· < w.heap.size) x c) :
    Calls Tryz.prog 123 #[.agg (cfgC x c), .int .i64 k] w fun e w' => e = .returned (.int .i64 (regZone c k)) ∧ Below w.heap.size w w' := by
  obtain ⟨az, cz, ac, cc, at_, ct, av, cv, ar, cr, ao, co⟩ := x
  have hnc := hV.nz
  have HK := Lib.hid hok
  clear hok hV
  unfold cfgC
  simp only
  by_cases hk : 0 ≤ k ∧ k < c.zones.length
  · have HI := inR_yes hk
    obtain ⟨hk0, hk1⟩ := hk
    obtain ⟨n, rfl⟩ := Int.eq_ofNat_of_zero_le hk0
    have hn : n < c.zones.length := by omega
    obtain ⟨b, off, z, rfl, hb, hz, hcell⟩ := HK.out.zones.row (enc := intC) (sz := 1) (fun _ => rfl) (by omega) hn
    have e0 := hcell 0 (.int .i64 z) rfl
    simp only [Nat.add_zero, Nat.mul_one] at e0
    have hzo : regZone c n = z := by unfold regZone; rw [if_pos ⟨hk0, hk1⟩, Int.toNat_natCast, getD_some hz]
    have HZ := Lib.hid hzo
    have hb1 : b < w.heap.size := hb
    clear hcell hz hzo
    go_enter Tryz.func123, Tryz.ntmps123
    go_wp2_with (go_at_call 126; (with_reducible refine (topoWithin_any _ _ _ _).mono ?_); rintro x wq ⟨rfl, rfl⟩; rw [HI])
    go_ret
    exact ⟨ret_i64 HZ.out.symm, (Below.refl _ _).alloc (Nat.le_refl _) _⟩
  · have HI := inR_no hk
    have hzo : regZone c k = -1 := by unfold regZone; rw [if_neg hk]
    have HZ := Lib.hid hzo
    clear hk hzo
    go_enter Tryz.func123, Tryz.ntmps123
    go_wp2_with (go_at_call 126; (with_reducible refine (topoWithin_any _ _ _ _).mono ?_); rintro x wq ⟨rfl, rfl⟩; rw [HI])
    go_ret
    exact ⟨ret_i64 HZ.out.symm, (Below.refl _ _).alloc (Nat.le_refl _) _⟩

set_option maxHeartbeats 1000000 in
theorem topoRegionOf_any (x : CfgA) (c : Cfg) (k : Int) (w : World) (hV : CfgV c) (hok : CfgOk w (· < w.heap.size) x c) :
    Calls Tryz.prog 117 #[.agg (cfgC x c), .int .i64 k] w fun e w' => e = .returned (.int .i64 (regionOf c k)) ∧ Below w.heap.size w w' := by
  obtain ⟨az, cz, ac, cc, at_, ct, av, cv, ar, cr, ao, co⟩ := x
  have HV := Lib.hid hV
  have HK := Lib.hid hok
  have HL := Lib.hid ((Below.refl w.heap.size w).alloc (Nat.le_refl _) (.cells (cfgC ⟨az, cz, ac, cc, at_, ct, av, cv, ar, cr, ao, co⟩ c) 30))
  have HW := Lib.hid (HK.out.allocW (.cells (cfgC ⟨az, cz, ac, cc, at_, ct, av, cv, ar, cr, ao, co⟩ c) 30))
  have hBx := Blk.new w 30 (cfgC ⟨az, cz, ac, cc, at_, ct, av, cv, ar, cr, ao, co⟩ c)
  have hg := hBx.lt
  have d0 := hBx.cell' (i := 0) (v := .int .i64 c.regions) rfl
  have d1 := hBx.cell' (i := 1) (v := .slice az c.zones.length cz) rfl
  have d2 := hBx.cell' (i := 2) (v := .slice ac c.cells.length cc) rfl
  have d3 := hBx.cell' (i := 3) (v := .slice at_ c.tenants.length ct) rfl
  have d4 := hBx.cell' (i := 4) (v := .slice av c.versions.length cv) rfl
  have d5 := hBx.cell' (i := 5) (v := .slice ar c.replicas.length cr) rfl
  have d6 := hBx.cell' (i := 6) (v := .slice ao c.observers.length co) rfl
  have d7 := hBx.cell' (i := 7) (v := .int .i64 c.blast) rfl
  have d8 := hBx.cell' (i := 8) (v := .int .i64 c.lease) rfl
  have d9 := hBx.cell' (i := 9) (v := .int .i64 c.bake) rfl
  clear hBx
  unfold cfgC at HL HW d0 d1 d2 d3 d4 d5 d6 d7 d8 d9 hg
  simp only at HL HW d0 d1 d2 d3 d4 d5 d6 d7 d8 d9 hg
  clear hok hV HK
  unfold cfgC
  simp only
  go_enter Tryz.func117, Tryz.ntmps117
  go_wp2_with fail
  generalize w.alloc _ = W at *
  have hx : ∀ (y : Later W.heap.size W) b o, b < W.heap.size → y.world.cell? ⟨b, o, none⟩ = W.cell? ⟨b, o, none⟩ := fun y b o h => y.cell h
  refine wp_region_below W.heap.size (by kernel_rfl) (by kernel_rfl) ?_
  repeat (quiet_step ((first | (go_at_call 124; exact quiet_belowW _ (topoZoneOf_any ⟨az, cz, ac, cc, at_, ct, av, cv, ar, cr, ao, co⟩ c _ _ HV.out (HW.out.laterW _))) | (go_at_call 123; exact quiet_belowW _ (topoRegZone_any ⟨az, cz, ac, cc, at_, ct, av, cv, ar, cr, ao, co⟩ c _ _ HV.out (HW.out.laterW _))))))
  refine wpQuiet_nil ?_
  rintro w' ⟨y, rfl⟩
  have HY := Lib.hid (HL.out.trans (y.below.mono (Nat.le_of_lt hg)))
  clear hx d0 d1 d2 d3 d4 d5 d6 d7 d8 d9 hg
  go_wp2
  go_ret
  exact ⟨ret_i64 rfl, HY.out⟩

set_option maxHeartbeats 1000000 in
theorem tenantApart_any (x : CfgA) (c : Cfg) (a b : Int) (w : World) (hV : CfgV c) (hok : CfgOk w (· < w.heap.size) x c) :
    Calls Tryz.prog 106 #[.agg (cfgC x c), .int .i64 a, .int .i64 b] w fun e w' => e = .returned (.bool (apartB c a b)) ∧ Below w.heap.size w w' := by
  obtain ⟨az, cz, ac, cc, at_, ct, av, cv, ar, cr, ao, co⟩ := x
  have HV := Lib.hid hV
  have HK := Lib.hid hok
  have HL := Lib.hid ((Below.refl w.heap.size w).alloc (Nat.le_refl _) (.cells (cfgC ⟨az, cz, ac, cc, at_, ct, av, cv, ar, cr, ao, co⟩ c) 30))
  have HW := Lib.hid (HK.out.allocW (.cells (cfgC ⟨az, cz, ac, cc, at_, ct, av, cv, ar, cr, ao, co⟩ c) 30))
  have hBx := Blk.new w 30 (cfgC ⟨az, cz, ac, cc, at_, ct, av, cv, ar, cr, ao, co⟩ c)
  have hg := hBx.lt
  have d0 := hBx.cell' (i := 0) (v := .int .i64 c.regions) rfl
  have d1 := hBx.cell' (i := 1) (v := .slice az c.zones.length cz) rfl
  have d2 := hBx.cell' (i := 2) (v := .slice ac c.cells.length cc) rfl
  have d3 := hBx.cell' (i := 3) (v := .slice at_ c.tenants.length ct) rfl
  have d4 := hBx.cell' (i := 4) (v := .slice av c.versions.length cv) rfl
  have d5 := hBx.cell' (i := 5) (v := .slice ar c.replicas.length cr) rfl
  have d6 := hBx.cell' (i := 6) (v := .slice ao c.observers.length co) rfl
  have d7 := hBx.cell' (i := 7) (v := .int .i64 c.blast) rfl
  have d8 := hBx.cell' (i := 8) (v := .int .i64 c.lease) rfl
  have d9 := hBx.cell' (i := 9) (v := .int .i64 c.bake) rfl
  clear hBx
  unfold cfgC at HL HW d0 d1 d2 d3 d4 d5 d6 d7 d8 d9 hg
  simp only at HL HW d0 d1 d2 d3 d4 d5 d6 d7 d8 d9 hg
  clear hok hV HK
  unfold cfgC
  simp only
  go_enter Tryz.func106, Tryz.ntmps106
  go_wp2_with fail
  generalize w.alloc _ = W at *
  have hx : ∀ (y : Later W.heap.size W) b o, b < W.heap.size → y.world.cell? ⟨b, o, none⟩ = W.cell? ⟨b, o, none⟩ := fun y b o h => y.cell h
  refine wp_region_below W.heap.size (by kernel_rfl) (by kernel_rfl) ?_
  repeat (quiet_step ((go_at_call 117; exact quiet_belowW _ (topoRegionOf_any ⟨az, cz, ac, cc, at_, ct, av, cv, ar, cr, ao, co⟩ c _ _ HV.out (HW.out.laterW _)))))
  refine wpQuiet_nil ?_
  rintro w' ⟨y, rfl⟩
  have HY := Lib.hid (HL.out.trans (y.below.mono (Nat.le_of_lt hg)))
  have HA : Hid (apartB c a b = (decide (0 ≤ regionOf c a) && decide (0 ≤ regionOf c b) && decide (regionOf c a ≠ regionOf c b))) := Lib.hid rfl
  generalize regionOf c a = ra at *
  generalize regionOf c b = rb at *
  clear hx d0 d1 d2 d3 d4 d5 d6 d7 d8 d9 hg
  go_wp2
  all_goals
    go_ret
    refine ⟨ret_bool ?_, HY.out⟩
    rw [HA.out, Bool.eq_iff_iff]
    go_light
    simp
    try omega

set_option maxHeartbeats 1000000 in
theorem tenantMay_any (x : CfgA) (c : Cfg) (t k : Int) (w : World) (hV : CfgV c) (hok : CfgOk w (· < w.heap.size) x c) :
    Calls Tryz.prog 104 #[.agg (cfgC x c), .int .i64 t, .int .i64 k] w fun e w' => e = .returned (.bool (mayB c t k)) ∧ Below w.heap.size w w' := by
  obtain ⟨az, cz, ac, cc, at_, ct, av, cv, ar, cr, ao, co⟩ := x
  have HV := Lib.hid hV
  have HK := Lib.hid hok
  have hnt := hV.nt
  have hrb := regionOf_bd hV k
  have hreg := hV.reg
  clear hok hV
  by_cases ht : 0 ≤ t ∧ t < c.tenants.length
  · have HI := inR_yes ht
    obtain ⟨ht0, ht1⟩ := ht
    obtain ⟨n, rfl⟩ := Int.eq_ofNat_of_zero_le ht0
    have hn : n < c.tenants.length := by omega
    obtain ⟨b, off, z, rfl, hb, hz, hcell⟩ := HK.out.tenants.row (enc := tenC) (sz := 7) (fun _ => rfl) (by omega) hn
    have e4 := hcell 4 (.int .i64 z.allowed) rfl
    have hzb := tenAt_bd HV.out hz
    have hm : mayB c n k = hasB z.allowed (regionOf c k) := by
      unfold mayB tenAt
      rw [Int.toNat_natCast, getD_some hz]
      simp [hn]
    have HM := Lib.hid hm
    have HBT := Lib.hid (bit_div2 z.allowed (regionOf c k) (by omega))
    have hb1 : b < w.heap.size := hb
    clear hcell hz hm
    unfold cfgC
    simp only
    go_enter Tryz.func104, Tryz.ntmps104
    go_wp2_with fail
    refine (topoRegionOf_any ⟨az, cz, ac, cc, some ⟨b, off, none⟩, ct, av, cv, ar, cr, ao, co⟩ c k _ HV.out (HK.out.allocW _)).mono ?_
    rintro e w1 ⟨rfl, hb1'⟩
    have HB : Hid (Below w.heap.size w w1) := ((Below.refl _ _).alloc (Nat.le_refl _) _).trans (hb1'.mono (by simp))
    obtain ⟨hc1, hf1⟩ := bcell hb1'
    have e1 : w1.cell? ⟨b, off + n * 7 + 4, none⟩ = some (.int .i64 z.allowed) := by rw [hc1 b _ (by simp; omega), World.cell?_alloc_lt w _ _ (show b < w.heap.size from hb)]; exact e4
    have d1 : w1.cell? ⟨w.heap.size, 3, none⟩ = some (.slice (some ⟨b, off, none⟩) c.tenants.length ct) := by rw [hc1 _ _ (by simp)]; go_simp
    clear hc1 hf1 hb1' e4
    generalize regionOf c k = r at *
    have hr : r = -1 ∨ r = 0 ∨ r = 1 ∨ r = 2 ∨ r = 3 := by omega
    clear hrb hreg
    rcases hr with rfl | rfl | rfl | rfl | rfl
    all_goals
      go_wp2_with (go_at_call 118; (with_reducible refine (tenantWithin_any _ _ _ _).mono ?_); rintro x wq ⟨rfl, rfl⟩; rw [HI])
      go_ret
      refine ⟨ret_bool ?_, HB.out⟩
      rw [HM.out]
      have := HBT.out
      try rw [i64_and1 _ (by omega) (by omega)]
      simp [hasB] at this ⊢
      try exact this
  · have hm : mayB c t k = false := by unfold mayB; simp; intro h1 h2; omega
    have HM := Lib.hid hm
    have HI := inR_no ht
    clear hm ht
    unfold cfgC
    simp only
    go_enter Tryz.func104, Tryz.ntmps104
    go_wp2_with fail
    refine (topoRegionOf_any ⟨az, cz, ac, cc, at_, ct, av, cv, ar, cr, ao, co⟩ c k _ HV.out (HK.out.allocW _)).mono ?_
    rintro e w1 ⟨rfl, hb1'⟩
    have HB : Hid (Below w.heap.size w w1) := ((Below.refl _ _).alloc (Nat.le_refl _) _).trans (hb1'.mono (by simp))
    obtain ⟨hc1, hf1⟩ := bcell hb1'
    have d1 : w1.cell? ⟨w.heap.size, 3, none⟩ = some (.slice at_ c.tenants.length ct) := by rw [hc1 _ _ (by simp)]; go_simp
    clear hc1 hf1 hb1'
    go_wp2_with (go_at_call 118; (with_reducible refine (tenantWithin_any _ _ _ _).mono ?_); rintro x wq ⟨rfl, rfl⟩; rw [HI])
    go_ret
    exact ⟨ret_bool HM.out.symm, HB.out⟩
end Go.Proofs.YtjobcfpnmfjlfaaGreat

namespace Go.Proofs.YtjobcfpnmfjlfaaGreat
open Go.RowKit
set_option linter.unusedSimpArgs false
set_option linter.unusedVariables false

section
variable {P : Program} {Q : Exit → Act → World → Prop}
/-- Whatever comes up belongs to acts; where nothing is left, all of acts is done. -/
def anyB (ops : Array Oper) (acts : List Nat) (pre : Nat → List Nat) : Nat → Array Bool → Bool
  | 0, ls => (Region.ready .any ops ls).isEmpty && acts.all fun i => ls.getD i false
  | n + 1, ls => ((Region.ready .any ops ls).all fun i => acts.contains i && !(ls.getD i true) && (pre i).all (fun j => ls.getD j false) && anyB ops acts pre n (ls.setIfInBounds i true)) && (!(Region.ready .any ops ls).isEmpty || acts.all fun i => ls.getD i false)
/-- One operation more is done. -/
def upd (d : Nat → Bool) (i : Nat) : Nat → Bool := fun j => if j = i then true else d j
def ActStep (P : Program) (ops : Array Oper) (Q : Exit → Act → World → Prop) (S : World → Prop) (J : (Nat → Bool) → Act → World → Prop) (pre : Nat → List Nat) (i : Nat) : Prop :=
  ∀ d a w, d i = false → (∀ j ∈ pre i, d j = true) → S w → J d a w → wpOp P ops Q i (fun a' w' => S w' ∧ J (upd d i) a' w') a w
theorem wpAnyH_acts {ops : Array Oper} {S : World → Prop} {acts : List Nat} {pre : Nat → List Nat} {J : (Nat → Bool) → Act → World → Prop} (hstep : ∀ i ∈ acts, ActStep P ops Q S J pre i)
    (hend : ∀ d a w, (∀ i ∈ acts, d i = true) → S w → J d a w → Q .normal a w) : ∀ (n : Nat) (ls : Array Bool) (a : Act) (w : World), anyB ops acts pre n ls = true → S w → J (fun j => ls.getD j false) a w → wpAnyH P .any ops Q S n ls a w
  | 0, ls, a, w, hB, hS, hJ => by
    simp only [anyB, Bool.and_eq_true, List.isEmpty_iff, List.all_eq_true] at hB
    exact wpAnyH_done hB.1 (hend _ a w hB.2 hS hJ) _
  | n + 1, ls, a, w, hB, hS, hJ => by
    simp only [anyB, Bool.and_eq_true, List.all_eq_true, Bool.or_eq_true] at hB
    obtain ⟨h1, h2⟩ := hB
    by_cases he : Region.ready .any ops ls = []
    · refine wpAnyH_done he (hend _ a w ?_ hS hJ) _
      rcases h2 with h2 | h2
      · simp [he] at h2
      · exact fun i hi => h2 i hi
    · refine wpAnyH_all rfl he fun i hi => ?_
      have h3 := h1 i hi
      simp only [List.contains_iff_mem, Bool.not_eq_true', List.all_eq_true] at h3
      obtain ⟨⟨⟨h4, h5⟩, h8⟩, h6⟩ := h3
      have hlt : i < ls.size := by
        refine Classical.byContradiction fun hn => ?_
        rw [Array.getD_eq_getD_getElem?, Array.getElem?_eq_none (by omega)] at h5
        cases h5
      have h7 : ls.getD i false = false := by
        rw [Array.getD_eq_getD_getElem?, Array.getElem?_eq_getElem hlt] at h5 ⊢
        exact h5
      have hd : (fun j => (ls.setIfInBounds i true).getD j false) = upd (fun j => ls.getD j false) i := by
        funext j
        unfold upd
        rw [Array.getD_eq_getD_getElem?, Array.getElem?_setIfInBounds]
        by_cases hj : i = j
        · subst hj; simp [hlt]
        · have : ¬ j = i := fun h => hj h.symm
          simp [hj, this, Array.getD_eq_getD_getElem?]
      exact wpOp_mono (fun a' w' ⟨hS', h'⟩ => ⟨hS', wpAnyH_acts hstep hend n _ a' w' h6 hS' (by rw [hd]; exact h')⟩) (hstep i h4 _ a w h7 h8 hS hJ)

/-- First the fixed operations, then those that act, in any order. -/
def wpSeqI (P : Program) (ops : Array Oper) (Q : Exit → Act → World → Prop) (S : World → Prop) (acts : List Nat) (pre : Nat → List Nat) : List Nat → Act → World → Prop
  | [], a, w => ∃ J : (Nat → Bool) → Act → World → Prop, (∀ d, (∀ i ∈ acts, d i = false) → J d a w) ∧ (∀ i ∈ acts, ActStep P ops Q S J pre i) ∧ (∀ d a w, (∀ i ∈ acts, d i = true) → S w → J d a w → Q .normal a w)
  | i :: r, a, w => ∃ (o : Oper) (v : Value), ops[i]? = some o ∧ (∀ c a w, Q (.panic c) (a.put o.dst v) w → Q (.panic c) a w) ∧ YieldsIf P ops S o v a ∧ wpSeqI P ops Q S acts pre r (a.put o.dst v) w
def seqIB (ops : Array Oper) (acts : List Nat) (pre : Nat → List Nat) (n : Nat) : List Nat → Array Bool → Bool
  | [], listed => anyB ops acts pre n listed && acts.all fun i => !(listed.getD i false)
  | i :: r, listed => Region.free .any ops listed i && (Region.ready .any ops listed).contains i && seqIB ops acts pre n r (listed.setIfInBounds i true)
theorem wpAnyH_of_seqI {ops : Array Oper} {S : World → Prop} {acts : List Nat} {pre : Nat → List Nat} {n : Nat} (hs : Region.noSelect ops = true) : ∀ (σ : List Nat) (listed : Array Bool) (a : Act) (w : World), seqIB ops acts pre n σ listed = true → S w →
    wpSeqI P ops Q S acts pre σ a w → wpAnyH P .any ops Q S (n + σ.length) listed a w
  | [], listed, a, w, hB, hS, ⟨J, h1, h2, h3⟩ => by
    simp only [seqIB, Bool.and_eq_true, List.all_eq_true, Bool.not_eq_true'] at hB
    exact wpAnyH_acts h2 h3 n _ a w hB.1 hS (h1 _ hB.2)
  | i :: r, listed, a, w, hB, hS, h => by
    simp only [seqIB, Bool.and_eq_true] at hB
    obtain ⟨⟨h1, h2⟩, h3⟩ := hB
    obtain ⟨o, v, ho, hQ, hy, hr⟩ := h
    exact wpAnyH_take ho hs h1 h2 hQ hy hS (wpAnyH_of_seqI hs r _ _ _ h3 hS hr)
def regSeqIB (l : List Oper) (k : Nat) (σ acts : List Nat) (pre : Nat → List Nat) : Bool :=
  lastB l k && Region.noSelect (l.take k).toArray && decide (acts.length + σ.length = k) && seqIB (l.take k).toArray acts pre acts.length σ (Array.replicate k false)
/-- A region that draws its order: of its first k operations the fixed ones σ, then acts in any order, then the others as they stand. -/
theorem wp_region_seqI {l : List Oper} {id : Nat} {a : Act} {w : World} (S : World → Prop) (k : Nat) (σ acts : List Nat) (pre : Nat → List Nat) (hm : P.follows .mixedOrders = true) (hB : regSeqIB l k σ acts pre = true) (hS : S w.drew)
    (h : wpSeqI P (l.take k).toArray (thenK (fun a w => wpList P l.toArray Q (l.drop k) a w) Q) S acts pre σ a w.drew) : (Code.region id l.toArray true).wp P Q a w := by
  simp only [regSeqIB, Bool.and_eq_true, decide_eq_true_eq] at hB
  obtain ⟨⟨⟨h1, h2⟩, h3⟩, h4⟩ := hB
  refine wp_region_last k hm h1 (wpAny_of_held (S := S) _ _ _ _ ?_)
  have := wpAnyH_of_seqI h2 σ _ a w.drew h4 hS h
  rw [h3] at this
  exact this
theorem wpSeqI_fix {ops : Array Oper} {S : World → Prop} {acts : List Nat} {pre : Nat → List Nat} {i : Nat} {r : List Nat} {a : Act} {w : World} (o : Oper) (v : Value) (ho : ops[i]? = some o) (hQ : ∀ c a w, Q (.panic c) (a.put o.dst v) w → Q (.panic c) a w)
    (hy : YieldsIf P ops S o v a) (h : wpSeqI P ops Q S acts pre r (a.put o.dst v) w) : wpSeqI P ops Q S acts pre (i :: r) a w := ⟨o, v, ho, hQ, hy, h⟩
/-- The invariant names the frame at the start of the acting part. -/
theorem wpSeqI_acts {ops : Array Oper} {S : World → Prop} {acts : List Nat} {pre : Nat → List Nat} {a : Act} {w : World} (J : Act → (Nat → Bool) → Act → World → Prop) (h1 : ∀ d, (∀ i ∈ acts, d i = false) → J a d a w)
    (h2 : ∀ i ∈ acts, ActStep P ops Q S (J a) pre i) (h3 : ∀ d b w, (∀ i ∈ acts, d i = true) → S w → J a d b w → Q .normal b w) : wpSeqI P ops Q S acts pre [] a w := ⟨J a, h1, h2, h3⟩
theorem actStep_op {ops : Array Oper} {S : World → Prop} {J : (Nat → Bool) → Act → World → Prop} {pre : Nat → List Nat} {i : Nat} {o : Oper} (ho : ops[i]? = some o) (hg : o.guard = none)
    (h : ∀ d a w, d i = false → (∀ j ∈ pre i, d j = true) → S w → J d a w → o.wp P a w (fun a' w' => S w' ∧ J (upd d i) a' w') Q) : ActStep P ops Q S J pre i := fun d a w h0 h1 h2 h3 => wpOp_act ho hg (h d a w h0 h1 h2 h3)
theorem acts_nil {p : Nat → Prop} : ∀ i ∈ ([] : List Nat), p i := fun i h => by cases h
theorem acts_cons {p : Nat → Prop} {i : Nat} {r : List Nat} (h1 : p i) (h2 : ∀ j ∈ r, p j) : ∀ j ∈ i :: r, p j := fun j h => by
  rcases List.mem_cons.1 h with rfl | h
  · exact h1
  · exact h2 j h
end
end Go.Proofs.YtjobcfpnmfjlfaaGreat

namespace Go.Proofs.YtjobcfpnmfjlfaaGreat
open Go.RowKit
set_option linter.unusedSimpArgs false
set_option linter.unusedVariables false

theorem later_next {B : Nat} {w wq : World} (y : Later B w) (hw : B ≤ w.heap.size) (hb : Below y.world.heap.size y.world wq) : ∃ y2 : Later B w, wq = y2.world :=
  ⟨⟨wq, y.below.trans (hb.mono (Nat.le_trans hw y.below.size))⟩, rfl⟩
theorem start_later {P : Program} {c : Code} {Q : Exit → Act → World → Prop} {a : Act} {w : World} (B : Nat) (h : ∀ y : Later B w, c.wp P Q a y.world) : c.wp P Q a w := h ⟨w, Below.refl _ _⟩

set_option maxHeartbeats 400000 in
theorem stHas_any (set i : Int) (w : World) (h0 : 0 ≤ set) (h1 : set < 1073741824) :
    Calls Tryz.prog 64 #[.int .i64 set, .int .i64 i] w fun e w' => e = .returned (.bool (hasB set i)) ∧ w = w' := by
  have HB := Lib.hid (bit_div2 set i h0)
  have HD := div_bd (z := set) i h0 (by omega)
  have HH : Hid (62 ≤ i → bitB set i = false) := by
    refine Lib.hid fun hi => ?_
    obtain ⟨n, rfl⟩ := Int.eq_ofNat_of_zero_le h0
    unfold bitB
    rw [Int.toNat_natCast]
    refine Nat.testBit_lt_two_pow (Nat.lt_of_lt_of_le (show n < 2 ^ 30 by omega) (Nat.pow_le_pow_right (by omega) (by omega)))
  go_enter Tryz.func64, Tryz.ntmps64
  go_wp2
  all_goals
    go_ret
    refine ⟨ret_bool ?_, rfl⟩
  · rw [i64_and1 _ (by omega) (by omega), HB.out]
    by_cases h62 : i < 62
    · simp [hasB, *]
    · rw [HH.out (by omega)]
      simp [hasB]
      omega
  · simp [hasB]
    omega
  · simp [hasB]
    omega

def modeAt (s : St) (k : Int) : Int := if 0 ≤ k ∧ k < s.cells.length then (csAt s k).mode else 0
set_option maxHeartbeats 400000 in
theorem stModeOf_any (x : StA) (s : St) (k : Int) (w : World) (hl : s.cells.length ≤ 100) (hok : StOk w (· < w.heap.size) x s) :
    Calls Tryz.prog 102 #[.agg (stC x s), .int .i64 k] w fun e w' => e = .returned (.int .i64 (modeAt s k)) ∧ Below w.heap.size w w' := by
  obtain ⟨at_, ct, ac, cc⟩ := x
  have HK := Lib.hid hok
  clear hok
  unfold stC
  simp only
  by_cases hk : 0 ≤ k ∧ k < s.cells.length
  · obtain ⟨hk0, hk1⟩ := hk
    obtain ⟨n, rfl⟩ := Int.eq_ofNat_of_zero_le hk0
    have hn : n < s.cells.length := by omega
    obtain ⟨b, off, z, rfl, hb, hz, hcell⟩ := HK.out.cells.row (enc := csC) (sz := 4) (fun _ => rfl) (by omega) hn
    have e0 := hcell 0 (.int .i64 z.mode) rfl
    simp only [Nat.add_zero] at e0
    have hzo : modeAt s n = z.mode := by unfold modeAt csAt; rw [if_pos ⟨hk0, hk1⟩, Int.toNat_natCast, getD_some hz]
    have HZ := Lib.hid hzo
    have hb1 : b < w.heap.size := hb
    clear hcell hz hzo
    go_enter Tryz.func102, Tryz.ntmps102
    go_wp2
    go_ret
    exact ⟨ret_i64 HZ.out.symm, (Below.refl _ _).alloc (Nat.le_refl _) _⟩
  · have hzo : modeAt s k = 0 := by unfold modeAt; rw [if_neg hk]
    have HZ := Lib.hid hzo
    have hd : k < 0 ∨ (0 ≤ k ∧ (s.cells.length : Int) ≤ k) := by omega
    clear hk hzo
    rcases hd with hd | ⟨hd1, hd⟩
    all_goals
      go_enter Tryz.func102, Tryz.ntmps102
      go_wp2
      go_ret
      exact ⟨ret_i64 HZ.out.symm, (Below.refl _ _).alloc (Nat.le_refl _) _⟩

def verOf (c : Cfg) (k : Int) : Int × Int := if 0 ≤ k ∧ k < c.versions.length then verAt c k else (0, 0)
set_option maxHeartbeats 400000 in
theorem stVersionOf_any (x : CfgA) (c : Cfg) (k : Int) (w : World) (hV : CfgV c) (hok : CfgOk w (· < w.heap.size) x c) :
    Calls Tryz.prog 107 #[.agg (cfgC x c), .int .i64 k] w fun e w' => e = .returned (.agg (pairC (verOf c k)).toArray) ∧ Below w.heap.size w w' := by
  obtain ⟨az, cz, ac, cc, at_, ct, av, cv, ar, cr, ao, co⟩ := x
  have hnc := hV.nv
  have HK := Lib.hid hok
  clear hok hV
  unfold cfgC
  simp only
  by_cases hk : 0 ≤ k ∧ k < c.versions.length
  · obtain ⟨hk0, hk1⟩ := hk
    obtain ⟨n, rfl⟩ := Int.eq_ofNat_of_zero_le hk0
    have hn : n < c.versions.length := by omega
    obtain ⟨b, off, z, rfl, hb, hz, hcell⟩ := HK.out.versions.row (enc := pairC) (sz := 2) (fun _ => rfl) (by omega) hn
    have e0 := hcell 0 (.int .i64 z.1) rfl
    have e1 := hcell 1 (.int .i64 z.2) rfl
    simp only [Nat.add_zero] at e0
    have hzo : verOf c n = z := by unfold verOf verAt; rw [if_pos ⟨hk0, hk1⟩, Int.toNat_natCast, getD_some hz]
    have HZ := Lib.hid hzo
    have hb1 : b < w.heap.size := hb
    have hg : b < (w.alloc (.cells #[.int .i64 c.regions, .slice az c.zones.length cz, .slice ac c.cells.length cc, .slice at_ c.tenants.length ct, .slice (some ⟨b, off, none⟩) c.versions.length cv, .slice ar c.replicas.length cr, .slice ao c.observers.length co, .int .i64 c.blast, .int .i64 c.lease, .int .i64 c.bake] 30)).heap.size := by simp; omega
    have e0' := (World.cell?_alloc_lt w (.cells #[.int .i64 c.regions, .slice az c.zones.length cz, .slice ac c.cells.length cc, .slice at_ c.tenants.length ct, .slice (some ⟨b, off, none⟩) c.versions.length cv, .slice ar c.replicas.length cr, .slice ao c.observers.length co, .int .i64 c.blast, .int .i64 c.lease, .int .i64 c.bake] 30) ⟨b, off + n * 2, none⟩ hb1).trans e0
    have e1' := (World.cell?_alloc_lt w (.cells #[.int .i64 c.regions, .slice az c.zones.length cz, .slice ac c.cells.length cc, .slice at_ c.tenants.length ct, .slice (some ⟨b, off, none⟩) c.versions.length cv, .slice ar c.replicas.length cr, .slice ao c.observers.length co, .int .i64 c.blast, .int .i64 c.lease, .int .i64 c.bake] 30) ⟨b, off + n * 2 + 1, none⟩ hb1).trans e1
    clear hcell hz hzo
    go_enter Tryz.func107, Tryz.ntmps107
    go_wp2
    rw [HZ.out]
    refine bodyPost_ret (v := .agg #[.int .i64 z.1, .int .i64 z.2]) (by simp [results, Tryz.results107, go_sem]) rfl ?_
    exact ⟨rfl, ((Below.refl _ _).alloc (Nat.le_refl _) _).alloc (by simp) _⟩
  · have hzo : verOf c k = (0, 0) := by unfold verOf; rw [if_neg hk]
    have HZ := Lib.hid hzo
    have hd : k < 0 ∨ (0 ≤ k ∧ (c.versions.length : Int) ≤ k) := by omega
    clear hk hzo
    rcases hd with hd | ⟨hd1, hd⟩
    all_goals
      go_enter Tryz.func107, Tryz.ntmps107
      go_wp2
      rw [HZ.out]
      refine bodyPost_ret (v := .agg #[.int .i64 0, .int .i64 0]) (by simp [results, Tryz.results107, go_sem]) rfl ?_
      exact ⟨rfl, ((Below.refl _ _).alloc (Nat.le_refl _) _).alloc (by simp) _⟩

set_option maxHeartbeats 1000000 in
theorem stNear_any (x : CfgA) (c : Cfg) (a b : Int) (w : World) (hV : CfgV c) (hok : CfgOk w (· < w.heap.size) x c) :
    Calls Tryz.prog 105 #[.agg (cfgC x c), .int .i64 a, .int .i64 b] w fun e w' => e = .returned (.bool (nearB c a b)) ∧ Below w.heap.size w w' := by
  obtain ⟨az, cz, ac, cc, at_, ct, av, cv, ar, cr, ao, co⟩ := x
  have HV := Lib.hid hV
  have HK := Lib.hid hok
  have HL := Lib.hid ((Below.refl w.heap.size w).alloc (Nat.le_refl _) (.cells (cfgC ⟨az, cz, ac, cc, at_, ct, av, cv, ar, cr, ao, co⟩ c) 30))
  have HW := Lib.hid (HK.out.allocW (.cells (cfgC ⟨az, cz, ac, cc, at_, ct, av, cv, ar, cr, ao, co⟩ c) 30))
  have hBx := Blk.new w 30 (cfgC ⟨az, cz, ac, cc, at_, ct, av, cv, ar, cr, ao, co⟩ c)
  have hg := hBx.lt
  have d0 := hBx.cell' (i := 0) (v := .int .i64 c.regions) rfl
  have d1 := hBx.cell' (i := 1) (v := .slice az c.zones.length cz) rfl
  have d2 := hBx.cell' (i := 2) (v := .slice ac c.cells.length cc) rfl
  have d3 := hBx.cell' (i := 3) (v := .slice at_ c.tenants.length ct) rfl
  have d4 := hBx.cell' (i := 4) (v := .slice av c.versions.length cv) rfl
  have d5 := hBx.cell' (i := 5) (v := .slice ar c.replicas.length cr) rfl
  have d6 := hBx.cell' (i := 6) (v := .slice ao c.observers.length co) rfl
  have d7 := hBx.cell' (i := 7) (v := .int .i64 c.blast) rfl
  have d8 := hBx.cell' (i := 8) (v := .int .i64 c.lease) rfl
  have d9 := hBx.cell' (i := 9) (v := .int .i64 c.bake) rfl
  clear hBx
  unfold cfgC at HL HW d0 d1 d2 d3 d4 d5 d6 d7 d8 d9 hg
  simp only at HL HW d0 d1 d2 d3 d4 d5 d6 d7 d8 d9 hg
  clear hok hV HK
  unfold cfgC
  simp only
  by_cases hb : b = -1
  · have hN : nearB c a b = false := by simp [nearB, hb]
    have HN := Lib.hid hN
    subst hb
    clear hN
    go_enter Tryz.func105, Tryz.ntmps105
    go_wp2
    go_ret
    exact ⟨ret_bool HN.out.symm, HL.out⟩
  · have hN : nearB c a b = !apartB c a b := by simp [nearB, hb]
    have HN := Lib.hid hN
    have hb2 : (b != -1) = true := by simpa using hb
    clear hN hb
    go_enter Tryz.func105, Tryz.ntmps105
    go_wp2_with fail
    refine (tenantApart_any ⟨az, cz, ac, cc, at_, ct, av, cv, ar, cr, ao, co⟩ c a b _ HV.out HW.out).mono ?_
    rintro e w1 ⟨rfl, hb1⟩
    have HB := Lib.hid (HL.out.trans (hb1.mono (Nat.le_of_lt hg)))
    clear hb1 d0 d1 d2 d3 d4 d5 d6 d7 d8 d9 hg
    go_wp2
    go_ret
    exact ⟨ret_bool HN.out.symm, HB.out⟩

set_option maxHeartbeats 1000000 in
theorem stFrozen_any (x : CfgA) (c : Cfg) (y : StA) (s : St) (k : Int) (w : World) (hV : CfgV c) (hc : CfgOk w (· < w.heap.size) x c) (hI : StInv c s) :
    Calls Tryz.prog 103 #[.agg (cfgC x c), .agg (stC y s), .int .i64 k] w fun e w' => e = .returned (.bool (frozenB c s k)) ∧ Below w.heap.size w w' := by
  obtain ⟨az, cz, ac, cc, at_, ct, av, cv, ar, cr, ao, co⟩ := x
  have HV := Lib.hid hV
  have HKc := Lib.hid hc
  obtain ⟨sat, sct, sac, scc⟩ := y
  have hev := hI.evac
  have HF : Hid (frozenB c s k = hasB s.evac (regionOf c k)) := Lib.hid rfl
  clear hV hc hI
  have hL : Below w.heap.size w ((w.alloc (.cells #[.int .i64 c.regions, .slice az c.zones.length cz, .slice ac c.cells.length cc, .slice at_ c.tenants.length ct, .slice av c.versions.length cv, .slice ar c.replicas.length cr, .slice ao c.observers.length co, .int .i64 c.blast, .int .i64 c.lease, .int .i64 c.bake] 30)).alloc (.cells #[.int .i64 s.tick, .int .i64 s.count, .slice sat s.tenants.length sct, .slice sac s.cells.length scc, .int .i64 s.proven, .int .i64 s.evac, .int .i64 s.low, .int .i64 s.high] 38)) := (((Below.refl w.heap.size w).alloc (by simp <;> omega) (.cells #[.int .i64 c.regions, .slice az c.zones.length cz, .slice ac c.cells.length cc, .slice at_ c.tenants.length ct, .slice av c.versions.length cv, .slice ar c.replicas.length cr, .slice ao c.observers.length co, .int .i64 c.blast, .int .i64 c.lease, .int .i64 c.bake] 30)).alloc (by simp <;> omega) (.cells #[.int .i64 s.tick, .int .i64 s.count, .slice sat s.tenants.length sct, .slice sac s.cells.length scc, .int .i64 s.proven, .int .i64 s.evac, .int .i64 s.low, .int .i64 s.high] 38))
  have hBc : Blk ((w.alloc (.cells #[.int .i64 c.regions, .slice az c.zones.length cz, .slice ac c.cells.length cc, .slice at_ c.tenants.length ct, .slice av c.versions.length cv, .slice ar c.replicas.length cr, .slice ao c.observers.length co, .int .i64 c.blast, .int .i64 c.lease, .int .i64 c.bake] 30)).alloc (.cells #[.int .i64 s.tick, .int .i64 s.count, .slice sat s.tenants.length sct, .slice sac s.cells.length scc, .int .i64 s.proven, .int .i64 s.evac, .int .i64 s.low, .int .i64 s.high] 38)) (w.heap.size) 30 #[.int .i64 c.regions, .slice az c.zones.length cz, .slice ac c.cells.length cc, .slice at_ c.tenants.length ct, .slice av c.versions.length cv, .slice ar c.replicas.length cr, .slice ao c.observers.length co, .int .i64 c.blast, .int .i64 c.lease, .int .i64 c.bake] := by
    have := ((Blk.new w 30 #[.int .i64 c.regions, .slice az c.zones.length cz, .slice ac c.cells.length cc, .slice at_ c.tenants.length ct, .slice av c.versions.length cv, .slice ar c.replicas.length cr, .slice ao c.observers.length co, .int .i64 c.blast, .int .i64 c.lease, .int .i64 c.bake]).alloc (.cells #[.int .i64 s.tick, .int .i64 s.count, .slice sat s.tenants.length sct, .slice sac s.cells.length scc, .int .i64 s.proven, .int .i64 s.evac, .int .i64 s.low, .int .i64 s.high] 38))
    simpa using this
  have hBs : Blk ((w.alloc (.cells #[.int .i64 c.regions, .slice az c.zones.length cz, .slice ac c.cells.length cc, .slice at_ c.tenants.length ct, .slice av c.versions.length cv, .slice ar c.replicas.length cr, .slice ao c.observers.length co, .int .i64 c.blast, .int .i64 c.lease, .int .i64 c.bake] 30)).alloc (.cells #[.int .i64 s.tick, .int .i64 s.count, .slice sat s.tenants.length sct, .slice sac s.cells.length scc, .int .i64 s.proven, .int .i64 s.evac, .int .i64 s.low, .int .i64 s.high] 38)) (w.heap.size + 1) 38 #[.int .i64 s.tick, .int .i64 s.count, .slice sat s.tenants.length sct, .slice sac s.cells.length scc, .int .i64 s.proven, .int .i64 s.evac, .int .i64 s.low, .int .i64 s.high] := by
    have := (Blk.new (w.alloc (.cells #[.int .i64 c.regions, .slice az c.zones.length cz, .slice ac c.cells.length cc, .slice at_ c.tenants.length ct, .slice av c.versions.length cv, .slice ar c.replicas.length cr, .slice ao c.observers.length co, .int .i64 c.blast, .int .i64 c.lease, .int .i64 c.bake] 30)) 38 #[.int .i64 s.tick, .int .i64 s.count, .slice sat s.tenants.length sct, .slice sac s.cells.length scc, .int .i64 s.proven, .int .i64 s.evac, .int .i64 s.low, .int .i64 s.high])
    simpa using this
  unfold cfgC stC
  simp only
  go_enter Tryz.func103, Tryz.ntmps103
  go_upto_region 1 with fail
  generalize (w.alloc _).alloc _ = W at *
  have hgc := hBc.lt
  have d0 := hBc.cell' (i := 0) (v := .int .i64 c.regions) rfl
  have d1 := hBc.cell' (i := 1) (v := .slice az c.zones.length cz) rfl
  have d2 := hBc.cell' (i := 2) (v := .slice ac c.cells.length cc) rfl
  have d3 := hBc.cell' (i := 3) (v := .slice at_ c.tenants.length ct) rfl
  have d4 := hBc.cell' (i := 4) (v := .slice av c.versions.length cv) rfl
  have d5 := hBc.cell' (i := 5) (v := .slice ar c.replicas.length cr) rfl
  have d6 := hBc.cell' (i := 6) (v := .slice ao c.observers.length co) rfl
  have d7 := hBc.cell' (i := 7) (v := .int .i64 c.blast) rfl
  have d8 := hBc.cell' (i := 8) (v := .int .i64 c.lease) rfl
  have d9 := hBc.cell' (i := 9) (v := .int .i64 c.bake) rfl
  clear hBc
  have hgs := hBs.lt
  have su0 := hBs.cell' (i := 0) (v := .int .i64 s.tick) rfl
  have su1 := hBs.cell' (i := 1) (v := .int .i64 s.count) rfl
  have su2 := hBs.cell' (i := 2) (v := .slice sat s.tenants.length sct) rfl
  have su3 := hBs.cell' (i := 3) (v := .slice sac s.cells.length scc) rfl
  have su4 := hBs.cell' (i := 4) (v := .int .i64 s.proven) rfl
  have su5 := hBs.cell' (i := 5) (v := .int .i64 s.evac) rfl
  have su6 := hBs.cell' (i := 6) (v := .int .i64 s.low) rfl
  have su7 := hBs.cell' (i := 7) (v := .int .i64 s.high) rfl
  clear hBs
  have HL := Lib.hid hL
  have HWc := Lib.hid (HKc.out.belowW hL)
  clear hL
  have hx : ∀ (y : Later W.heap.size W) b o, b < W.heap.size → y.world.cell? ⟨b, o, none⟩ = W.cell? ⟨b, o, none⟩ := fun y b o h => y.cell h
  refine wp_region_below W.heap.size (by kernel_rfl) (by kernel_rfl) ?_
  repeat (quiet_step ((first | (go_at_call 117; exact quiet_belowW _ (topoRegionOf_any ⟨az, cz, ac, cc, at_, ct, av, cv, ar, cr, ao, co⟩ c _ _ HV.out (HWc.out.laterW _))) | (go_at_call 64; exact quiet_sameW _ (stHas_any _ _ _ (by omega) (by omega))))))
  refine wpQuiet_nil ?_
  rintro w' ⟨y, rfl⟩
  have HY := Lib.hid (HL.out.trans (y.below.mono (Nat.le_of_lt hgc)))
  clear hx d0 d1 d2 d3 d4 d5 d6 d7 d8 d9 hgc hgs su0 su1 su2 su3 su4 su5 su6 su7
  go_wp2
  go_ret
  exact ⟨ret_bool HF.out.symm, HY.out⟩
end Go.Proofs.YtjobcfpnmfjlfaaGreat

namespace Go.Proofs.YtjobcfpnmfjlfaaGreat
open Go.RowKit
set_option linter.unusedSimpArgs false
set_option linter.unusedVariables false
theorem tsInfo : (Tryz.prog.info? 58).map (fun i => (i.zero, i.size, i.bytes)) = some (some (.agg #[.bool false, .bool false, .int .i64 0, .int .i64 0, .int .i64 0, .int .i64 0, .int .i64 0, .int .i64 0, .int .i64 0, .int .i64 0, .int .i64 0, .int .i64 0]), 12, 88) := by kernel_rfl
theorem csInfo : (Tryz.prog.info? 54).map (fun i => (i.zero, i.size, i.bytes)) = some (some (.agg #[.int .i64 0, .int .i64 0, .int .i64 0, .int .i64 0]), 4, 32) := by kernel_rfl

theorem tsNil (n cp : Nat) (w : World) : Sem.run Tryz.prog (binOp BinOp.eql 35 (.slice none n cp) (.slice none 0 0)) w = .ok (.bool true) w := by kernel_rfl
theorem tsSome (ad : Addr) (n cp : Nat) (w : World) : Sem.run Tryz.prog (binOp BinOp.eql 35 (.slice (some ad) n cp) (.slice none 0 0)) w = .ok (.bool false) w := by kernel_rfl
theorem csNil (n cp : Nat) (w : World) : Sem.run Tryz.prog (binOp BinOp.eql 36 (.slice none n cp) (.slice none 0 0)) w = .ok (.bool true) w := by kernel_rfl
theorem csSome (ad : Addr) (n cp : Nat) (w : World) : Sem.run Tryz.prog (binOp BinOp.eql 36 (.slice (some ad) n cp) (.slice none 0 0)) w = .ok (.bool false) w := by kernel_rfl
/-- A list of structs in new memory. -/
def RowPost (T : TypeId) (size : Nat) (w : World) (n : Nat) (xs : List Value) (e : Ending) (w' : World) : Prop :=
  ∃ (A : Option Addr) (cp : Nat), e = .returned (.slice A n cp) ∧ w'.ownsRow w.heap.size T size (.slice A n cp) n xs ∧ Below w.heap.size w w'

set_option maxHeartbeats 2000000 in
set_option maxRecDepth 100000 in
theorem cloneTs_any (A : Option Addr) (cp : Nat) (l : List TS) (w : World) (hl : l.length ≤ 100) (hr : Rd w (· < w.heap.size) A (flat tsC l)) :
    Calls Tryz.prog 84 #[.slice A l.length cp] w (RowPost 58 12 w l.length (flat tsC l)) := by
  obtain ⟨ii, hii, hi0, hi1, hi2⟩ := info_parts tsInfo
  have hlen := flat_length (enc := tsC) (sz := 12) (fun _ => rfl) l
  cases A with
  | none =>
    have h0 : l = [] := by
      cases l with
      | nil => rfl
      | cons a r =>
        obtain ⟨b, o, hA, _⟩ := hr (by simp [flat, tsC])
        cases hA
    subst h0
    go_enter Tryz.func84, Tryz.ntmps84
    have hq := tsNil 0 cp w
    go_wp2
    go_ret
    exact ⟨none, 0, rfl, World.ownsRow_nil _ _ _ _, Below.refl _ _⟩
  | some ad =>
    have hq := tsSome ad l.length cp w
    have h0 := World.ownsRow_lit (base := w.heap.size) (e := 58) (size := 12) w #[] 0 (Nat.le_refl _) (by unfold maxLen; omega) rfl
    have hb0 := (Below.refl w.heap.size w).alloc (Nat.le_refl _) (.cells #[] 58)
    have h1 := (hr.alloc (.cells #[] 58))
    have hone : ∀ u ∈ flat tsC l, u.oneCell' = true := by
      intro u hu
      obtain ⟨a, _, ha⟩ := List.mem_flatMap.1 (show u ∈ l.flatMap tsC from hu)
      simp only [tsC, List.mem_cons, List.not_mem_nil, or_false] at ha
      rcases ha with rfl | rfl | rfl | rfl | rfl | rfl | rfl | rfl | rfl | rfl | rfl | rfl <;> rfl
    go_enter Tryz.func84, Tryz.ntmps84
    go_wp2_with (at_builtin; refine wpList_append_rd _ rfl _ _ _ rfl w.heap.size 58 ii _ 12 88 Tryz.underlying35 hii hi0 hi1 hi2 rfl (by omega) _ 0 [] rfl h0 _ (some ad) l.length cp (flat tsC l) rfl hlen h1 hone ?c1 ?c2 ?c3 ?_)
    case c1 => unfold maxLen; omega
    case c2 => omega
    intro v' w2 hown hg hat
    (try rw [Nat.zero_add] at hown); (try rw [List.nil_append] at hown)
    obtain ⟨A', cp', rfl⟩ := own_form hown
    have HO := Lib.hid hown
    have HB := Lib.hid (hb0.grown hg (by simp) (fun k hk => by injection hk with hk; rw [← hk]; exact Nat.le_refl _))
    clear hown hg hat h0 hb0 hq
    go_wp2
    go_ret
    exact ⟨A', cp', rfl, HO.out, HB.out⟩
set_option maxHeartbeats 2000000 in
set_option maxRecDepth 100000 in
theorem cloneCs_any (A : Option Addr) (cp : Nat) (l : List CS) (w : World) (hl : l.length ≤ 100) (hr : Rd w (· < w.heap.size) A (flat csC l)) :
    Calls Tryz.prog 85 #[.slice A l.length cp] w (RowPost 54 4 w l.length (flat csC l)) := by
  obtain ⟨ii, hii, hi0, hi1, hi2⟩ := info_parts csInfo
  have hlen := flat_length (enc := csC) (sz := 4) (fun _ => rfl) l
  cases A with
  | none =>
    have h0 : l = [] := by
      cases l with
      | nil => rfl
      | cons a r =>
        obtain ⟨b, o, hA, _⟩ := hr (by simp [flat, csC])
        cases hA
    subst h0
    go_enter Tryz.func85, Tryz.ntmps85
    have hq := csNil 0 cp w
    go_wp2
    go_ret
    exact ⟨none, 0, rfl, World.ownsRow_nil _ _ _ _, Below.refl _ _⟩
  | some ad =>
    have hq := csSome ad l.length cp w
    have h0 := World.ownsRow_lit (base := w.heap.size) (e := 54) (size := 4) w #[] 0 (Nat.le_refl _) (by unfold maxLen; omega) rfl
    have hb0 := (Below.refl w.heap.size w).alloc (Nat.le_refl _) (.cells #[] 54)
    have h1 := (hr.alloc (.cells #[] 54))
    have hone : ∀ u ∈ flat csC l, u.oneCell' = true := by
      intro u hu
      obtain ⟨a, _, ha⟩ := List.mem_flatMap.1 (show u ∈ l.flatMap csC from hu)
      simp only [csC, List.mem_cons, List.not_mem_nil, or_false] at ha
      rcases ha with rfl | rfl | rfl | rfl <;> rfl
    go_enter Tryz.func85, Tryz.ntmps85
    go_wp2_with (at_builtin; refine wpList_append_rd _ rfl _ _ _ rfl w.heap.size 54 ii _ 4 32 Tryz.underlying36 hii hi0 hi1 hi2 rfl (by omega) _ 0 [] rfl h0 _ (some ad) l.length cp (flat csC l) rfl hlen h1 hone ?c1 ?c2 ?c3 ?_)
    case c1 => unfold maxLen; omega
    case c2 => omega
    intro v' w2 hown hg hat
    (try rw [Nat.zero_add] at hown); (try rw [List.nil_append] at hown)
    obtain ⟨A', cp', rfl⟩ := own_form hown
    have HO := Lib.hid hown
    have HB := Lib.hid (hb0.grown hg (by simp) (fun k hk => by injection hk with hk; rw [← hk]; exact Nat.le_refl _))
    clear hown hg hat h0 hb0 hq
    go_wp2
    go_ret
    exact ⟨A', cp', rfl, HO.out, HB.out⟩
end Go.Proofs.YtjobcfpnmfjlfaaGreat
