import Derived.Test.YtnnpgbleacapfaaPa08
namespace Go.Proofs.Ytnnpgbleacapfaa
open Go.RowKit
set_option linter.unusedSimpArgs false
set_option linter.unusedVariables false

theorem putL10 (z0 z1 z2 z3 z4 z5 z6 z7 z8 z9 v0 v1 v2 v3 v4 v5 v6 v7 v8 v9 : Value) : putL #[z0, z1, z2, z3, z4, z5, z6, z7, z8, z9] 0 [v0, v1, v2, v3, v4, v5, v6, v7, v8, v9] = #[v0, v1, v2, v3, v4, v5, v6, v7, v8, v9] := by simp [putL]

set_option maxHeartbeats 40000000 in
set_option maxRecDepth 100000 in
theorem mkConfig_any (A : Option Addr) (cap : Nat) (zs : List Int) (w : World) (hs : zs.length ≤ 400) (hr : Rd w (· < w.heap.size) A (zs.map (Value.int .i64))) :
    Calls Try.prog 6 #[.slice A zs.length cap] w (CfgPost w) := by
  obtain ⟨iz, hiz, hz0, hz1, hz2⟩ := info_parts zoneInfo
  obtain ⟨ic, hic, hc0, hc1, hc2⟩ := info_parts cellInfo
  obtain ⟨it, hit, ht0, ht1, ht2⟩ := info_parts tenInfo
  obtain ⟨iv, hiv, hv0, hv1, hv2⟩ := info_parts verInfo
  obtain ⟨ii, hii, hi0, hi1, hi2⟩ := info_parts intInfo
  have HR := Lib.hid hr
  clear hr
  go_enter Try.func6, Try.ntmps6
  go_wp2_with fail
  refine (mkTape_any A cap zs _ hs (HR.out.more (S' := (· < (w.heap.size + 1))) (fun b hb => Nat.lt_succ_of_lt hb) |>.alloc _ |> fun h => by simpa using h)).mono ?_
  rintro e w1 ⟨rfl, ht1, hb1⟩
  have p1 : PI w A cap zs 0 w1 := ⟨by simpa using ht1, (Blk.new w _ _).below hb1 (by simp), ((Below.refl _ _).alloc (Nat.le_refl _) _).trans (hb1.mono (by simp))⟩
  clear ht1 hb1 HR
  go_wp2_with fail
  refine (mkNext_any _ A cap zs _ 5 _ (by omega) (by omega) (by omega) p1.tape).mono ?_
  rintro e w2 ⟨r2, k2, hn2, rfl, ht2, hg2⟩
  have rh2 := hn2.hi
  have p2 := p1.next ht2 hg2
  have rl2 := hn2.lo
  have km2 := hn2.most
  have kn2 := hn2.le
  clear ht2 hg2 hn2 p1
  go_wp2_with fail
  refine (mkBetween_any _ _ _ _ (by omega) (by omega) (by omega)).mono ?_
  rintro e w3 ⟨⟨r, rr1, rr2, rr3, rfl⟩, rfl⟩
  clear rr3
  go_wp2_with fail
  refine (mkRange_any _ A cap zs _ 1 3 _ (by omega) (by omega) (by omega) (by omega) p2.tape).mono ?_
  rintro e w4 ⟨r4, k4, hn4, rh4, rfl, ht4, hg4⟩
  have p4 := p2.next ht4 hg4
  have rl4 := hn4.lo
  have km4 := hn4.most
  have kn4 := hn4.le
  clear ht4 hg4 hn4 p2
  go_wp2_with fail
  refine (mkRange_any _ A cap zs _ 2 12 _ (by omega) (by omega) (by omega) (by omega) p4.tape).mono ?_
  rintro e w5 ⟨r5, k5, hn5, rh5, rfl, ht5, hg5⟩
  have p5 := p4.next ht5 hg5
  have rl5 := hn5.lo
  have km5 := hn5.most
  have kn5 := hn5.le
  clear ht5 hg5 hn5 p4
  go_wp2_with fail
  refine (mkNext_any _ A cap zs _ 9 _ (by omega) (by omega) (by omega) p5.tape).mono ?_
  rintro e w6 ⟨r6, k6, hn6, rfl, ht6, hg6⟩
  have rh6 := hn6.hi
  have p6 := p5.next ht6 hg6
  have rl6 := hn6.lo
  have km6 := hn6.most
  have kn6 := hn6.le
  clear ht6 hg6 hn6 p5
  have ci := CI.new p6 r (1 + r4) (2 + r5) r6
  have g0 : w.heap.size + 1 < w6.heap.size := p6.tape.lt
  have b1 : 1 ≤ 1 + r4 ∧ 1 + r4 ≤ 3 := by omega
  have b2 : 2 ≤ 2 + r5 ∧ 2 + r5 ≤ 12 := by omega
  have b3 : 0 ≤ r6 ∧ r6 ≤ 8 := by omega
  have hk6 : k6 ≤ 4 := by omega
  clear p6 rl4 rh4 rl5 rh5 rl6 rh6 km2 km4 km5 km6 kn2 kn4 kn5 kn6 rl2
  go_upto_block 0 with fail
  unfold cf0 cfgC at ci
  simp only [List.length_nil] at ci
  generalize w6.alloc _ = wa at *
  generalize w6.heap.size = g at *
  generalize 1 + r4 = bl at *
  generalize 2 + r5 = le at *
  generalize hba : r6 = ba at *
  clear hba
  have HCI : Hid (CI w A cap zs g k6 (cf0 r bl le ba) (xz none 0) (cf0 r bl le ba) (g + 1) wa) := ci
  clear ci
  go_cut [] (fun wx => AfterZones w A cap zs g r bl le ba wx)
  case first =>
    go_wp2
    go_loopg [5] 7 (fun gk si wr => ZRel w A cap zs g r bl le ba (g + 1) gk si wr)
    case atStart => exact ⟨[], none, 0, k6, rfl, by simp, by simp; omega, rfl, rfl, HCI.out, World.ownsRow_nil _ _ _ _⟩
    case round =>
      rename_i J K aJ aK
      obtain ⟨l, az, cz, k, hgk, hl6, hk, rfl, hall, hci, hown⟩ := hrel
      have HA := Lib.hid hall
      have c0 := hci.box.cell' (i := 0) (v := .int .i64 r) rfl
      have HO := Lib.hid hown
      have HC := Lib.hid hci
      clear hall HCI hown hci
      go_upto_region 4 with fail
      go_cut [38] (fun s wx => ∃ (b : Bool) (k' : Nat), s = .bool b ∧ k' ≤ 5 + l.length ∧ CI w A cap zs g k' { cf0 r bl le ba with zones := l } (xz az cz) (cf0 r bl le ba) (g + 1) wx ∧ wx.ownsRow (g + 1) 55 1 (.slice az l.length cz) l.length (flat intC l) ∧ (b = true → l.length < 6) ∧ (b = false → r ≤ l.length))
      case first =>
        by_cases hlt : (l.length : Int) < r
        · go_wp2
          go_meet
          exact ⟨true, k, rfl, by omega, HC.out, HO.out, (fun _ => by omega), fun h => nomatch h⟩
        · go_wp2_with fail
          refine (mkYes_any _ A cap zs _ 3 _ (by omega) (by omega) (by omega) HC.out.tape).mono ?_
          rintro e w7 ⟨r7, k7, hn7, rfl, ht7, hg7⟩
          have p7 := Lib.hid (HC.out.next ht7 hg7)
          have km := hn7.most
          have HO7 := Lib.hid (own_grown HO.out hg7 (by rintro k ⟨⟩; have := HC.out.gt; omega))
          have hge : r ≤ (l.length : Int) := by omega
          clear HC HO ht7 hg7 hn7
          by_cases h0 : r7 = 0
          · subst h0
            go_wp2
            go_meet
            exact ⟨_, k7, rfl, by omega, p7.out, HO7.out, (fun h => by simp at h; omega), fun _ => hge⟩
          · go_wp2
            go_meet
            exact ⟨false, k7, rfl, by omega, p7.out, HO7.out, (fun h => nomatch h), fun _ => hge⟩
      case rest =>
        clear HC HO c0
        obtain ⟨b, k', rfl, hk', hci, hown, hb1, hb2⟩ := hcut
        have HO := Lib.hid hown
        clear hown
        cases b
        · have hge := hb2 rfl
          clear hb1 hb2
          go_wp2
          go_meet
          exact ⟨k', l, az, cz, by omega, by omega, by omega, HA.out, hci.up hci.sz (Nat.le_refl _) fun h => ⟨(Rd.of_own HO.out).more fun b hb => ⟨by omega, hb.2⟩, h.cells, h.tenants, h.versions, h.replicas, h.observers⟩⟩
        · have hlt := hb1 rfl
          clear hb1 hb2
          obtain ⟨z, hz⟩ : ∃ z, (l.length : Int).tmod r = z := ⟨_, rfl⟩
          have hz1' : 0 ≤ z ∧ z < r := by rw [← hz]; exact ⟨Int.tmod_nonneg _ (by omega), Int.tmod_lt_of_pos _ (by omega)⟩
          have hall' : (l ++ [z]).all (fun z => inR z 0 (r - 1)) = true := by rw [List.all_append, HA.out]; simp [inR]; omega
          have HA' := Lib.hid hall'
          have hr0 : ¬ r = 0 := by omega
          clear hall' HA
          go_upto_region 6 with fail
          replace hci := hci.grown (grown_drew1 wc none) (by rintro _ ⟨⟩)
          have HO' : Hid (wc.drew.ownsRow (g + 1) 55 1 (.slice az l.length cz) l.length (flat intC l)) := HO.out
          clear HO
          refine wp_region_seq (fun w' : World => w'.cell? ⟨g, 0, none⟩ = some (.int .i64 r) ∧ w'.cell? ⟨g, 1, none⟩ = some (.slice az l.length cz)) 9 [(0, false), (1, false), (2, false), (3, false), (4, false), (5, false), (6, false), (7, true), (8, true)] (by kernel_rfl) (by kernel_rfl) ⟨hci.box.cell' rfl, hci.box.cell' rfl⟩ ?_
          generalize wc.drew = wd at *
          simp only [List.take_succ_cons, List.take_zero, List.drop_succ_cons, List.drop_zero]
          repeat (refine wpSeqH_fix _ ?_ rfl (by first | exact fun _ _ _ h => h | exact fun _ _ _ h => hpan _ _ _ _ _ h) (Or.inl ⟨by rfl, ?_⟩) ?_; rotate_left; (intro w' hSw; (try dsimp only at hSw); go_split_ands; go_simp; (try with_reducible rfl)); (simp only [List.getElem_toArray, List.getElem_cons_zero, List.getElem_cons_succ, Act.put, List.setIfInBounds_toArray, List.set_cons_zero, List.set_cons_succ]))
          refine wpSeqH_act rfl rfl ?_
          go_simp
          have h2 := hci.grown (grown_alloc (grown_refl wd none) (.cells #[.int .i64 z] 55)) (by rintro _ ⟨⟩)
          have hsz := hci.sz
          refine ⟨⟨h2.box.cell' rfl, h2.box.cell' rfl⟩, ?_⟩
          refine wpSeqH_act rfl rfl ?_
          refine wp_append_lies _ (.tmp 42) (.tmp 48) _ rfl (g + 1) 55 iz _ 1 8 Try.underlying25 hiz hz0 hz1 hz2 rfl (by omega) _ l.length (flat intC l) rfl (HO'.out.alloc _) ⟨wd.heap.size, 0, none⟩ 1 1 [.int .i64 z] rfl rfl (World.news_of_block (heap_alloc_new _ _)) (by simp [Value.oneCell']) (by omega) (by unfold maxLen; omega) (by omega) (by simp; omega) (wd.heap.size + 1) (by simp) ?_
          intro gg cp w9 hown9 hg9 hat9 hlt9
          have h3 := h2.grown hg9 (fun k hk => (HO'.out.lt k hk).1)
          have HX : Hid (w9.ownsRow (g + 1) 55 1 (.slice (some ⟨gg, 0, none⟩) (l ++ [z]).length cp) (l ++ [z]).length (flat intC (l ++ [z]))) := by
            refine Lib.hid ?_; rw [← flat_snoc, List.length_append]; exact hown9
          clear hown9 hg9 hat9 hlt9 HO' h2 hci
          refine ⟨⟨h3.box.cell' rfl, h3.box.cell' rfl⟩, wpSeqH_end ?_⟩
          simp only [Act.put, List.setIfInBounds_toArray, List.set_cons_zero, List.set_cons_succ, thenK]
          have f1 := h3.box.frozen 1
          have c1 := h3.box.cell' (i := 1) (v := .slice az l.length cz) rfl
          go_wp2
          go_roundg (gk - 1)
          case measure => omega
          case rel => exact ⟨l ++ [z], some ⟨gg, 0, none⟩, cp, k', by simp; omega, by simp; omega, by simp; omega, by simp, HA'.out, h3.set (c' := { cf0 r bl le ba with zones := l ++ [z] }) (x' := xz (some ⟨gg, 0, none⟩) cp) 1 (.slice (some ⟨gg, 0, none⟩) (l.length + 1) cp) (by simp [cfgC, xz, cf0]) (fun W S h => ⟨fun h => absurd rfl h, h.cells, h.tenants, h.versions, h.replicas, h.observers⟩), own_setFar HX.out (by show g < g + 1; omega) _⟩
  case rest =>
    clear HCI
    obtain ⟨k0, zl, az, cz, hk0, hzl1, hzl2, hzall, hci0⟩ := hcut
    have HC0 : Hid (CI w A cap zs g k0 ⟨r, zl, [], [], [], [], [], bl, le, ba⟩ ⟨az, cz, none, 0, none, 0, none, 0, none, 0, none, 0⟩ ⟨r, zl, [], [], [], [], [], bl, le, ba⟩ wc.heap.size wc) := hci0
    have HZ := Lib.hid hzall
    clear hci0 hzall hk6
    generalize wc.heap.size = B at *
    go_upto_block 2 with fail
    go_cut [] (fun wx => AfterCells w A cap zs g r bl le ba zl wx)
    case first =>
      go_wp2
      go_loopg [6] 8 (fun gk si wr => CRel w A cap zs g r bl le ba zl az cz B gk si wr)
      case atStart => exact ⟨[], none, 0, k0, rfl, by simp, by simp; omega, rfl, rfl, HC0.out, World.ownsRow_nil _ _ _ _⟩
      case round =>
        rename_i J K aJ aK
        clear HC0
        obtain ⟨l, ac, cc, k, hgk, hl7, hk, rfl, hall, hci, hown⟩ := hrel
        have HA := Lib.hid hall
        have c1 := hci.box.cell' (i := 1) (v := .slice az zl.length cz) rfl
        have HO := Lib.hid hown
        have HC := Lib.hid hci
        clear hall hown hci
        go_upto_region 8 with fail
        go_cut [63] (fun s wx => ∃ (b : Bool) (k' : Nat), s = .bool b ∧ k' ≤ 21 + 2 * l.length ∧ CI w A cap zs g k' ⟨r, zl, l, [], [], [], [], bl, le, ba⟩ ⟨az, cz, ac, cc, none, 0, none, 0, none, 0, none, 0⟩ ⟨r, zl, [], [], [], [], [], bl, le, ba⟩ B wx ∧ wx.ownsRow B 57 2 (.slice ac l.length cc) l.length (flat pairC l) ∧ (b = true → l.length < 7) ∧ (b = false → 1 ≤ l.length))
        case first =>
          by_cases hlt : l.length < zl.length
          · have hlt' : (l.length : Int) < (zl.length : Int) := by omega
            go_wp2
            go_meet
            exact ⟨true, k, rfl, by omega, HC.out, HO.out, (fun _ => by omega), fun h => nomatch h⟩
          · have hlt' : ¬ (l.length : Int) < (zl.length : Int) := by omega
            go_wp2_with fail
            refine (mkYes_any _ A cap zs _ 2 _ (by omega) (by omega) (by omega) HC.out.tape).mono ?_
            rintro e w7 ⟨r7, k7, hn7, rfl, ht7, hg7⟩
            have p7 := Lib.hid (HC.out.next ht7 hg7)
            have km := hn7.most
            have HO7 := Lib.hid (own_grown HO.out hg7 (by rintro k ⟨⟩; have := HC.out.gt; have := HC.out.gB; omega))
            clear HC HO ht7 hg7 hn7
            by_cases h0 : r7 = 0
            · subst h0
              go_wp2
              go_meet
              exact ⟨_, k7, rfl, by omega, p7.out, HO7.out, (fun h => by simp at h; omega), fun _ => by omega⟩
            · go_wp2
              go_meet
              exact ⟨false, k7, rfl, by omega, p7.out, HO7.out, (fun h => nomatch h), fun _ => by omega⟩
        case rest =>
          clear HC HO c1
          obtain ⟨b, k', rfl, hk', hci, hown, hb1, hb2⟩ := hcut
          have HO := Lib.hid hown
          clear hown
          cases b
          · have hge := hb2 rfl
            clear hb1 hb2
            go_wp2
            go_meet
            exact ⟨k', l, az, cz, ac, cc, by omega, hge, hl7, HA.out, hci.up hci.sz (Nat.le_refl _) fun h => ⟨h.zones, (Rd.of_own HO.out).more fun b hb => ⟨by have := hci.gB; omega, hb.2⟩, h.tenants, h.versions, h.replicas, h.observers⟩⟩
          · have hlt := hb1 rfl
            clear hb1 hb2
            obtain ⟨z, hz⟩ : ∃ z, (l.length : Int).tmod (zl.length : Int) = z := ⟨_, rfl⟩
            have hz1' : 0 ≤ z ∧ z < zl.length := by rw [← hz]; exact ⟨Int.tmod_nonneg _ (by omega), Int.tmod_lt_of_pos _ (by omega)⟩
            have hr0 : ¬ (zl.length : Int) = 0 := by omega
            have hr0' : ¬ zl = [] := by rintro rfl; simp at hzl1
            go_upto_region 10 with fail
            replace hci := hci.grown (grown_drew1 wc none) (by rintro _ ⟨⟩)
            have HO' : Hid (wc.drew.ownsRow B 57 2 (.slice ac l.length cc) l.length (flat pairC l)) := HO.out
            clear HO
            refine wp_region_seq (fun w' : World => w'.cell? ⟨g, 1, none⟩ = some (.slice az zl.length cz) ∧ w'.cell? ⟨g, 2, none⟩ = some (.slice ac l.length cc)) 13 [(0, false), (1, false), (2, false), (3, false), (4, false), (5, false), (6, false), (7, false), (8, true), (9, false), (10, false), (11, true), (12, true)] (by kernel_rfl) (by kernel_rfl) ⟨hci.box.cell' rfl, hci.box.cell' rfl⟩ ?_
            generalize wc.drew = wd at *
            simp only [List.take_succ_cons, List.take_zero, List.drop_succ_cons, List.drop_zero]
            repeat (refine wpSeqH_fix _ ?_ rfl (by first | exact fun _ _ _ h => h | exact fun _ _ _ h => hpan _ _ _ _ _ h) (Or.inl ⟨by rfl, ?_⟩) ?_; rotate_left; (intro w' hSw; (try dsimp only at hSw); go_split_ands; go_simp; (try with_reducible rfl)); (simp only [List.getElem_toArray, List.getElem_cons_zero, List.getElem_cons_succ, Act.put, List.setIfInBounds_toArray, List.set_cons_zero, List.set_cons_succ]))
            refine wpSeqH_act rfl rfl ?_
            go_simp
            refine (mkRange_any _ A cap zs _ 1 4 _ (by omega) (by omega) (by omega) (by omega) hci.tape).mono ?_
            rintro e we ⟨r8, k8, hn8, rh8, rfl, ht8, hg8⟩
            replace hci := hci.next ht8 hg8
            have rl8 := hn8.lo
            have km8 := hn8.most
            have HO8 := Lib.hid (own_grown HO'.out hg8 (by rintro k ⟨⟩; have := hci.gt; have := hci.gB; omega))
            have e8 : IntKind.i64.wrap ((1 + r8) * 10) = (1 + r8) * 10 := IntWalk.i64_in _ (by omega)
            clear HO' ht8 hg8 hn8
            refine ⟨⟨hci.box.cell' rfl, hci.box.cell' rfl⟩, ?_⟩
            repeat (refine wpSeqH_fix _ ?_ rfl (by first | exact fun _ _ _ h => h | exact fun _ _ _ h => hpan _ _ _ _ _ h) (Or.inl ⟨by rfl, ?_⟩) ?_; rotate_left; (intro w' hSw; (try dsimp only at hSw); go_split_ands; go_simp; (try with_reducible rfl)); (simp only [List.getElem_toArray, List.getElem_cons_zero, List.getElem_cons_succ, Act.put, List.setIfInBounds_toArray, List.set_cons_zero, List.set_cons_succ]))
            clear e8
            refine wpSeqH_act rfl rfl ?_
            go_simp
            have h2 := hci.grown (grown_alloc (grown_refl we none) (.cells #[.int .i64 z, .int .i64 ((1 + r8) * 10)] 57)) (by rintro _ ⟨⟩)
            have hsz := hci.sz
            refine ⟨⟨h2.box.cell' rfl, h2.box.cell' rfl⟩, ?_⟩
            refine wpSeqH_act rfl rfl ?_
            refine wp_append_lies _ (.tmp 67) (.tmp 77) _ rfl B 57 ic _ 2 16 Try.underlying26 hic hc0 hc1 hc2 rfl (by omega) _ l.length (flat pairC l) rfl (HO8.out.alloc _) ⟨we.heap.size, 0, none⟩ 1 1 [.int .i64 z, .int .i64 ((1 + r8) * 10)] rfl rfl (World.news_of_block (heap_alloc_new _ _)) (by simp [Value.oneCell']) (by omega) (by unfold maxLen; omega) (by omega) (by simp; omega) (we.heap.size + 1) (by simp) ?_
            intro gg cp w9 hown9 hg9 hat9 hlt9
            have h3 := h2.grown hg9 (fun k hk => (HO8.out.lt k hk).1)
            have HX : Hid (w9.ownsRow B 57 2 (.slice (some ⟨gg, 0, none⟩) (l ++ [(z, (1 + r8) * 10)]).length cp) (l ++ [(z, (1 + r8) * 10)]).length (flat pairC (l ++ [(z, (1 + r8) * 10)]))) := by
              refine Lib.hid ?_; rw [← flat_snoc, List.length_append]; exact hown9
            clear hown9 hg9 hat9 hlt9 HO8 h2 hci
            refine ⟨⟨h3.box.cell' rfl, h3.box.cell' rfl⟩, wpSeqH_end ?_⟩
            simp only [Act.put, List.setIfInBounds_toArray, List.set_cons_zero, List.set_cons_succ, thenK]
            have f1 := h3.box.frozen 2
            have c1 := h3.box.cell' (i := 2) (v := .slice ac l.length cc) rfl
            clear hz hr0 hr0'
            go_wp2
            go_roundg (gk - 1)
            case measure => omega
            case rel => exact ⟨l ++ [(z, (1 + r8) * 10)], some ⟨gg, 0, none⟩, cp, k8, by simp; omega, by simp; omega, by simp; omega, by simp, (by rw [List.all_append, HA.out]; simp [inR]; omega), h3.set (c' := ⟨r, zl, l ++ [(z, (1 + r8) * 10)], [], [], [], [], bl, le, ba⟩) (x' := ⟨az, cz, some ⟨gg, 0, none⟩, cp, none, 0, none, 0, none, 0, none, 0⟩) 2 (.slice (some ⟨gg, 0, none⟩) (l.length + 1) cp) (by simp [cfgC]) (fun W S h => ⟨h.zones, fun h => absurd rfl h, h.tenants, h.versions, h.replicas, h.observers⟩), own_setFar HX.out (by show g < B; exact h3.gB) _⟩
    case rest =>
      clear HC0
      obtain ⟨k1, cl, az, cz, ac, cc, hk1, hcl1, hcl2, hcall, hci1⟩ := hcut
      have HC1 := Lib.hid hci1
      have HCA := Lib.hid hcall
      clear hci1 hcall
      generalize wc.heap.size = B at *
      go_wp2_with fail
      refine (mkNext_any _ A cap zs _ 6 _ (by omega) (by omega) (by omega) HC1.out.tape).mono ?_
      rintro e wn ⟨rn, kn, hnn, rfl, htn, hgn⟩
      have HC2 := Lib.hid (HC1.out.next htn hgn)
      have rnl := hnn.lo
      have rnh := hnn.hi
      have knm := hnn.most
      clear HC1 htn hgn hnn
      go_upto_block 4 with fail
      go_cut [] (fun wx => AfterTens w A cap zs g r bl le ba zl cl wx)
      case first =>
        obtain ⟨n0, rfl⟩ := Int.eq_ofNat_of_zero_le rnl
        go_wp2
        go_loopg [7] n0 (fun gk si wr => TRel w A cap zs g r bl le ba zl cl az cz ac cc B gk si wr)
        case atStart => exact ⟨[], none, 0, kn, by simp; omega, by simp; omega, rfl, rfl, HC2.out, World.ownsRow_nil _ _ _ _⟩
        case round =>
          rename_i J K aJ aK
          clear HC2
          obtain ⟨l, at_, ct, k, hgk, hk, rfl, hall, hci, hown⟩ := hrel
          have HA := Lib.hid hall
          have HO := Lib.hid hown
          clear hall hown
          by_cases hgt : 0 < gk
          · have hgt' : (0 : Int) < (gk : Int) := by omega
            go_wp2_with fail
            refine (mkRange_any _ A cap zs _ 1 12 _ (by omega) (by omega) (by omega) (by omega) hci.tape).mono ?_
            rintro e wa ⟨ra, ka, hna, rha, rfl, hta, hga⟩
            replace hci := hci.next hta hga
            have rla := hna.lo
            have kma := hna.most
            have HO' := Lib.hid (own_grown HO.out hga (by rintro k ⟨⟩; have := hci.gt; have := hci.gB; omega))
            clear HO hta hga hna
            have hn12 : 1 ≤ 1 + ra ∧ 1 + ra ≤ 12 := by omega
            generalize 1 + ra = n at *
            have hci' := Lib.hid hci
            clear hci
            go_upto_region 15 with fail
            refine ten15_any _ _ _ _ _ _ _ _ _ _ _ _ _ _ _ _ _ _ _ _ _ _ _ _ _ _ _ _ _ _ _ _ _ _ _ _ _ _ _ _ _ _ _ _ _ _ _ _ _ _ _ _ _ _ _ _ _ _ _ _ _ _ _ _ _ _ _ _ _ _ _ _ _ _ _ _ _ _ _ _ _ _ _ _ _ _ _ _ _ _ _ _ _ _ _ _ _ _ _ _ _ _ _ _ _ _ _ _ _ _ _ _ _ _ _ _ _ _ _ _ _ _ _ _ _ _ _ _ _ _ _ _ _ _ _ _ _ _ _ _ _ _ _ _ _ _ _ _ _ _ _ _ _ _ _ _ _ _ _ _ _ _ _ _ _ _ _ _ _ _ _ _ _ _ _ _ _ _ _ w A cap zs g ka n r _ _ _ B at_ ct l _ _ hn12 (by omega) rfl (by omega) hci'.out HO'.out (fun _ _ d _ _ h => by cases d <;> exact h) ?_
            intro u9 u88 u89 u90 u91 u92 u93 u94 u95 u96 u97 u98 u99 u100 u101 u102 u103 u104 u105 u106 wc hcut
            clear hci' HO'
            obtain ⟨b, kb, tn, rfl, hkb, htok, hti⟩ := hcut
            have HTK := Lib.hid htok
            clear htok hn12
            go_upto_region 16 with fail
            go_wp2_with fail
            refine (mkYes_any _ A cap zs _ 4 _ (by omega) (by omega) (by omega) hti.ci.tape).mono ?_
            rintro e wy ⟨ry, ky, hny, rfl, hty, hgy⟩
            replace hti := hti.next hty hgy
            have kmy := hny.most
            clear hty hgy hny
            generalize hyb : (ry == 0) = yb
            clear hyb
            go_upto_if 108 with fail
            go_cut [] (fun wx => ∃ (k' : Nat) (t' : Ten), k' ≤ ka + 7 ∧ tenOk r t' = true ∧ TIc w A cap zs g k' ⟨r, zl, cl, l, [], [], [], bl, le, ba⟩ ⟨az, cz, ac, cc, at_, ct, none, 0, none, 0, none, 0⟩ ⟨r, zl, cl, [], [], [], [], bl, le, ba⟩ B b t' (.slice at_ l.length ct) l.length (flat tenC l) wx)
            case first =>
              cases yb
              · go_wp2
                go_meet
                exact ⟨ky, tn, by omega, HTK.out, hti⟩
              · have esh : IntKind.i64.wrap (2 ^ r.toNat) = shl1 r := shl1_pow r (by omega) (by omega)
                have hsh := shl1_bd r
                have c0 := hti.ci.box.cell' (i := 0) (v := .int .i64 r) rfl
                go_wp2_with fail
                refine (mkRange_any _ A cap zs _ 1 (shl1 r - 1) _ (by omega) (by omega) (by omega) (by omega) hti.ci.tape).mono ?_
                rintro e wz ⟨rz, kz, hnz, rhz, rfl, htz, hgz⟩
                replace hti := hti.next htz hgz
                have rlz := hnz.lo
                have kmz := hnz.most
                clear htz hgz hnz c0 esh
                have c4 := hti.blk.cell' (i := 4) (v := .int .i64 tn.allowed) rfl
                have f4 := hti.blk.frozen 4
                go_wp2
                go_meet
                exact ⟨kz, { tn with allowed := 1 + rz }, by omega, tenOk_allowed HTK.out (by omega) (by omega), hti.setAllowed (1 + rz)⟩
            case rest =>
              clear hti HTK
              obtain ⟨k', t', hk', htok, hti⟩ := hcut
              have HTK := Lib.hid htok
              clear htok
              have c3 := hti.ci.box.cell' (i := 3) (v := .slice at_ l.length ct) rfl
              have b0 := hti.blk.cell' (i := 0) (v := .int .i64 t'.load) rfl
              have b1 := hti.blk.cell' (i := 1) (v := .int .i64 t'.shadow) rfl
              have b2 := hti.blk.cell' (i := 2) (v := .int .i64 t'.prio) rfl
              have b3 := hti.blk.cell' (i := 3) (v := .int .i64 t'.lag) rfl
              have b4 := hti.blk.cell' (i := 4) (v := .int .i64 t'.allowed) rfl
              have b5 := hti.blk.cell' (i := 5) (v := .int .i64 t'.group) rfl
              have b6 := hti.blk.cell' (i := 6) (v := .bool t'.noisy) rfl
              have HTI := Lib.hid hti
              have hsz := hti.ci.sz
              clear hti
              go_wp2_with (at_builtin; refine wpList_append_lies _ rfl _ _ _ rfl B 60 it _ 7 56 Try.underlying27 hit ht0 ht1 ht2 rfl (by omega) _ l.length (flat tenC l) rfl (HTI.out.own.alloc _) ⟨wc.heap.size, 0, none⟩ 1 1 (tenC t') rfl rfl ?c1 ?c2 ?c0 ?c3 ?c4 ?c5 (wc.heap.size + 1) ?c6 ?_)
              case c1 => exact World.news_of_block (cs := (tenC t').toArray) (heap_alloc_new _ _)
              case c2 => simp [tenC, Value.oneCell']
              case c0 => omega
              case c3 => unfold maxLen; omega
              case c4 => omega
              case c5 => simp; omega
              case c6 => simp
              intro gg cp w9 hown9 hg9 hat9 hlt9
              have h3 := (HTI.out.ci.alloc _).grown hg9 (fun k hk => (HTI.out.own.lt k hk).1)
              have HX : Hid (w9.ownsRow B 60 7 (.slice (some ⟨gg, 0, none⟩) (l ++ [t']).length cp) (l ++ [t']).length (flat tenC (l ++ [t']))) := by
                refine Lib.hid ?_; rw [← flat_snoc, List.length_append]; exact hown9
              clear hown9 hg9 hat9 hlt9 HTI c3 b0 b1 b2 b3 b4 b5 b6
              have f3 := h3.box.frozen 3
              have c3 := h3.box.cell' (i := 3) (v := .slice at_ l.length ct) rfl
              go_wp2
              go_roundg (gk - 1)
              case measure => omega
              case rel => exact ⟨l ++ [t'], some ⟨gg, 0, none⟩, cp, k', by simp; omega, by simp; omega, by go_num, (by rw [List.all_append, HA.out]; simp [HTK.out]), h3.set (c' := ⟨r, zl, cl, l ++ [t'], [], [], [], bl, le, ba⟩) (x' := ⟨az, cz, ac, cc, some ⟨gg, 0, none⟩, cp, none, 0, none, 0, none, 0⟩) 3 (.slice (some ⟨gg, 0, none⟩) (l.length + 1) cp) (by simp [cfgC]) (fun W S h => ⟨h.zones, h.cells, fun h => absurd rfl h, h.versions, h.replicas, h.observers⟩), own_setFar HX.out (by show g < B; exact h3.gB) _⟩
          · have hgt' : ¬ (0 : Int) < (gk : Int) := by omega
            go_wp2
            go_meet
            exact ⟨k, l, az, cz, ac, cc, at_, ct, by omega, by omega, HA.out, hci.up hci.sz (Nat.le_refl _) fun h => ⟨h.zones, h.cells, (Rd.of_own HO.out).more fun b hb => ⟨by have := hci.gB; omega, hb.2⟩, h.versions, h.replicas, h.observers⟩⟩
      case rest =>
        clear HC2 rnl rnh knm
        obtain ⟨k2, tl, az, cz, ac, cc, at_, ct, hk2, htl, htall, hci2⟩ := hcut
        have HTA := Lib.hid htall
        clear htall
        go_wp2_with fail
        refine (mkNext_any _ A cap zs _ 3 _ (by omega) (by omega) (by omega) hci2.tape).mono ?_
        rintro e wn2 ⟨rn, kn2, hnn, rfl, htn, hgn⟩
        have hci3 := hci2.next htn hgn
        have rnl := hnn.lo
        have rnh := hnn.hi
        have knm := hnn.most
        clear hci2 htn hgn hnn
        have hci4 := hci3.up hci3.sz (Nat.le_refl _) (fun h => h)
        have hgl : g < wn2.heap.size := hci4.gB
        have c4 := hci4.box.cell' (i := 4) (v := .slice none 0 0) rfl
        have f4 := hci4.box.frozen 4
        have HV := Lib.hid ((hci4.set (c' := ⟨r, zl, cl, tl, [(0, rn)], [], [], bl, le, ba⟩) (x' := ⟨az, cz, ac, cc, at_, ct, some ⟨wn2.heap.size, 0, none⟩, 1, none, 0, none, 0⟩) 4 (.slice (some ⟨wn2.heap.size, 0, none⟩) 1 1) (by simp [cfgC]) (fun W S h => ⟨h.zones, h.cells, h.tenants, fun h => absurd rfl h, h.replicas, h.observers⟩)).alloc (.cells #[.int .i64 0, .int .i64 rn] 36))
        have HVO : Hid (((wn2.setCell ⟨g, 4, none⟩ (.slice (some ⟨wn2.heap.size, 0, none⟩) 1 1)).alloc (.cells #[.int .i64 0, .int .i64 rn] 36)).ownsRow wn2.heap.size 36 2 (.slice (some ⟨wn2.heap.size, 0, none⟩) 1 1) 1 (flat pairC [(0, rn)])) := by
          have h := World.ownsRow_lit (base := wn2.heap.size) (e := 36) (size := 2) (wn2.setCell ⟨g, 4, none⟩ (.slice (some ⟨wn2.heap.size, 0, none⟩) 1 1)) #[.int .i64 0, .int .i64 rn] 1 (by simp [World.setCell]) (by unfold maxLen; omega) rfl
          have e : (wn2.setCell ⟨g, 4, none⟩ (.slice (some ⟨wn2.heap.size, 0, none⟩) 1 1)).heap.size = wn2.heap.size := by simp [World.setCell]
          rw [e] at h
          exact Lib.hid h
        clear hci3 hci4
        go_wp2_with fail
        refine (mkNext_any _ A cap zs _ 3 _ (by omega) (by omega) (by omega) HV.out.tape).mono ?_
        rintro e wn3 ⟨rn3, kn3, hnn3, rfl, htn3, hgn3⟩
        have HV3 := Lib.hid (HV.out.next htn3 hgn3)
        have HVO3 := Lib.hid (own_grown HVO.out hgn3 (by rintro k ⟨⟩; have := HV.out.gt; omega))
        have rnl3 := hnn3.lo
        have rnh3 := hnn3.hi
        have knm3 := hnn3.most
        clear HV HVO htn3 hgn3 hnn3 c4 f4
        generalize hBe : wn2.heap.size = B at *
        clear hBe
        go_upto_block 6 with fail
        go_cut [] (fun wx => AfterVers w A cap zs g r bl le ba zl cl tl wx)
        case first =>
          obtain ⟨n0, rfl⟩ := Int.eq_ofNat_of_zero_le rnl3
          go_wp2
          go_loopg [10] n0 (fun gk si wr => VRel w A cap zs g r bl le ba zl cl tl az cz ac cc at_ ct B gk si wr)
          case atStart => exact ⟨[(0, rn)], _, _, kn3, by simp; omega, by simp, by simp; omega, rfl, (by simp [versOk, verOk]; omega), HV3.out, HVO3.out⟩
          case round =>
            rename_i J K aJ aK
            clear HV3 HVO3
            obtain ⟨l, av, cv, k, hgk, hl1, hk, rfl, hall, hci, hown⟩ := hrel
            have HA := Lib.hid hall
            have HO := Lib.hid hown
            clear hall hown
            by_cases hgt : 0 < gk
            · have hgt' : (0 : Int) < (gk : Int) := by omega
              go_wp2_with fail
              refine (mkNext_any _ A cap zs _ 2 _ (by omega) (by omega) (by omega) hci.tape).mono ?_
              rintro e wc ⟨ra, ka, hna, rfl, hta, hga⟩
              replace hci := hci.next hta hga
              have rla := hna.lo
              have rha := hna.hi
              have kma := hna.most
              have HO' := Lib.hid (own_grown HO.out hga (by rintro k ⟨⟩; have := hci.gt; have := hci.gB; omega))
              clear HO hta hga hna
              go_upto_region 24 with fail
              replace hci := hci.grown (grown_drew1 wc none) (by rintro _ ⟨⟩)
              have HO : Hid (wc.drew.ownsRow B 36 2 (.slice av l.length cv) l.length (flat pairC l)) := HO'.out
              clear HO'
              refine wp_region_seq (fun w' : World => w'.cell? ⟨g, 4, none⟩ = some (.slice av l.length cv)) 10 [(0, false), (1, false), (2, false), (3, false), (4, false), (5, true), (6, false), (7, false), (8, true), (9, true)] (by kernel_rfl) (by kernel_rfl) (hci.box.cell' rfl) ?_
              generalize wc.drew = wd at *
              simp only [List.take_succ_cons, List.take_zero, List.drop_succ_cons, List.drop_zero]
              repeat (refine wpSeqH_fix _ ?_ rfl (by first | exact fun _ _ _ h => h | exact fun _ _ _ h => hpan _ _ _ _ _ h) (Or.inl ⟨by rfl, ?_⟩) ?_; rotate_left; (intro w' hSw; (try dsimp only at hSw); go_split_ands; go_simp; (try with_reducible rfl)); (simp only [List.getElem_toArray, List.getElem_cons_zero, List.getElem_cons_succ, Act.put, List.setIfInBounds_toArray, List.set_cons_zero, List.set_cons_succ]))
              refine wpSeqH_act rfl rfl ?_
              go_simp
              refine (mkNext_any _ A cap zs _ 3 _ (by omega) (by omega) (by omega) hci.tape).mono ?_
              rintro e we ⟨r8, k8, hn8, rfl, ht8, hg8⟩
              replace hci := hci.next ht8 hg8
              have rl8 := hn8.lo
              have rh8 := hn8.hi
              have km8 := hn8.most
              have HO8 := Lib.hid (own_grown HO.out hg8 (by rintro k ⟨⟩; have := hci.gt; have := hci.gB; omega))
              have e8 : IntKind.i64.wrap (ra + r8) = ra + r8 := IntWalk.i64_in _ (by omega)
              clear HO ht8 hg8 hn8
              refine ⟨hci.box.cell' rfl, ?_⟩
              repeat (refine wpSeqH_fix _ ?_ rfl (by first | exact fun _ _ _ h => h | exact fun _ _ _ h => hpan _ _ _ _ _ h) (Or.inl ⟨by rfl, ?_⟩) ?_; rotate_left; (intro w' hSw; (try dsimp only at hSw); go_split_ands; go_simp; (try with_reducible rfl)); (simp only [List.getElem_toArray, List.getElem_cons_zero, List.getElem_cons_succ, Act.put, List.setIfInBounds_toArray, List.set_cons_zero, List.set_cons_succ]))
              clear e8
              refine wpSeqH_act rfl rfl ?_
              go_simp
              have h2 := hci.alloc (.cells #[.int .i64 ra, .int .i64 (ra + r8)] 36)
              have hsz := hci.sz
              refine ⟨h2.box.cell' rfl, ?_⟩
              refine wpSeqH_act rfl rfl ?_
              refine wp_append_lies _ (.tmp 137) (.tmp 144) _ rfl B 36 iv _ 2 16 Try.underlying28 hiv hv0 hv1 hv2 rfl (by omega) _ l.length (flat pairC l) rfl (HO8.out.alloc _) ⟨we.heap.size, 0, none⟩ 1 1 [.int .i64 ra, .int .i64 (ra + r8)] rfl rfl (World.news_of_block (heap_alloc_new _ _)) (by simp [Value.oneCell']) (by omega) (by unfold maxLen; omega) (by omega) (by simp; omega) (we.heap.size + 1) (by simp) ?_
              intro gg cp w9 hown9 hg9 hat9 hlt9
              have h3 := h2.grown hg9 (fun k hk => (HO8.out.lt k hk).1)
              have HX : Hid (w9.ownsRow B 36 2 (.slice (some ⟨gg, 0, none⟩) (l ++ [(ra, ra + r8)]).length cp) (l ++ [(ra, ra + r8)]).length (flat pairC (l ++ [(ra, ra + r8)]))) := by
                refine Lib.hid ?_; rw [← flat_snoc, List.length_append]; exact hown9
              clear hown9 hg9 hat9 hlt9 HO8 h2 hci
              refine ⟨h3.box.cell' rfl, wpSeqH_end ?_⟩
              simp only [Act.put, List.setIfInBounds_toArray, List.set_cons_zero, List.set_cons_succ, thenK]
              have f1 := h3.box.frozen 4
              have c1 := h3.box.cell' (i := 4) (v := .slice av l.length cv) rfl
              go_wp2
              go_roundg (gk - 1)
              case measure => omega
              case rel => exact ⟨l ++ [(ra, ra + r8)], some ⟨gg, 0, none⟩, cp, k8, by simp; omega, by simp, by simp; omega, by go_num, versOk_snoc HA.out hl1 (by omega) (by omega) (by omega), h3.set (c' := ⟨r, zl, cl, tl, l ++ [(ra, ra + r8)], [], [], bl, le, ba⟩) (x' := ⟨az, cz, ac, cc, at_, ct, some ⟨gg, 0, none⟩, cp, none, 0, none, 0⟩) 4 (.slice (some ⟨gg, 0, none⟩) (l.length + 1) cp) (by simp [cfgC]) (fun W S h => ⟨h.zones, h.cells, h.tenants, fun h => absurd rfl h, h.replicas, h.observers⟩), own_setFar HX.out (by show g < B; exact h3.gB) _⟩
            · have hgt' : ¬ (0 : Int) < (gk : Int) := by omega
              go_wp2
              go_meet
              exact ⟨k, l, az, cz, ac, cc, at_, ct, av, cv, by omega, hl1, by omega, HA.out, hci.up hci.sz (Nat.le_refl _) fun h => ⟨h.zones, h.cells, h.tenants, (Rd.of_own HO.out).more fun b hb => ⟨by have := hci.gB; omega, hb.2⟩, h.replicas, h.observers⟩⟩
        case rest =>
          clear HV3 HVO3 rnl3 rnh3 knm3 rnl rnh knm
          obtain ⟨k3, vl, az, cz, ac, cc, at_, ct, av, cv, hk3, hvl1, hvl2, hvall, hci4⟩ := hcut
          have HVA := Lib.hid hvall
          clear hvall
          go_wp2_with fail
          refine (mkNext_any _ A cap zs _ 2 _ (by omega) (by omega) (by omega) hci4.tape).mono ?_
          rintro e wn ⟨rn, kn, hnn, rfl, htn, hgn⟩
          have HC7 := Lib.hid (hci4.next htn hgn)
          have rnl := hnn.lo
          have rnh := hnn.hi
          have knm := hnn.most
          clear hci4 htn hgn hnn
          go_upto_block 8 with fail
          obtain ⟨n0, hn0⟩ := Int.eq_ofNat_of_zero_le (show 0 ≤ 2 * rn + 1 by omega)
          rw [hn0]
          have hn0r : 1 ≤ n0 ∧ n0 ≤ 3 ∧ (n0 = 1 ∨ n0 = 3) := by omega
          clear hn0
          have HC8 := Lib.hid (HC7.out.up HC7.out.sz (Nat.le_refl _) (fun h => h))
          clear HC7
          generalize hBe : wn.heap.size = B at *
          clear hBe
          go_cut [] (fun wx => AfterReps w A cap zs g r bl le ba zl cl tl vl n0 wx)
          case first =>
            go_wp2
            go_loopg [12] n0 (fun gk si wr => RRel w A cap zs g r bl le ba zl cl tl vl az cz ac cc at_ ct av cv B n0 gk si wr)
            case atStart => exact ⟨[], none, 0, kn, rfl, by simp; omega, rfl, rfl, HC8.out, World.ownsRow_nil _ _ _ _⟩
            case round =>
              rename_i J K aJ aK
              clear HC8
              obtain ⟨l, ar, cr, k, hgk, hk, rfl, hall, hci, hown⟩ := hrel
              have HA := Lib.hid hall
              have HO' := Lib.hid hown
              clear hall hown
              by_cases hgt : 0 < gk
              · have hgt' : (0 : Int) < (gk : Int) := by omega
                go_upto_region 28 with fail
                obtain ⟨wc, rfl⟩ : ∃ wc : World, wc = wr := ⟨_, rfl⟩
                replace hci := hci.grown (grown_drew1 wc none) (by rintro _ ⟨⟩)
                have HO : Hid (wc.drew.ownsRow B 3 1 (.slice ar l.length cr) l.length (flat intC l)) := HO'.out
                clear HO'
                refine wp_region_seq (fun w' : World => w'.cell? ⟨g, 1, none⟩ = some (.slice az zl.length cz) ∧ w'.cell? ⟨g, 5, none⟩ = some (.slice ar l.length cr)) 9 [(0, false), (1, false), (2, false), (3, false), (4, false), (5, false), (6, true), (7, true), (8, true)] (by kernel_rfl) (by kernel_rfl) ⟨hci.box.cell' rfl, hci.box.cell' rfl⟩ ?_
                generalize wc.drew = wd at *
                simp only [List.take_succ_cons, List.take_zero, List.drop_succ_cons, List.drop_zero]
                repeat (refine wpSeqH_fix _ ?_ rfl (by first | exact fun _ _ _ h => h | exact fun _ _ _ h => hpan _ _ _ _ _ h) (Or.inl ⟨by rfl, ?_⟩) ?_; rotate_left; (intro w' hSw; (try dsimp only at hSw); go_split_ands; go_simp; (try with_reducible rfl)); (simp only [List.getElem_toArray, List.getElem_cons_zero, List.getElem_cons_succ, Act.put, List.setIfInBounds_toArray, List.set_cons_zero, List.set_cons_succ]))
                refine wpSeqH_act rfl rfl ?_
                go_simp
                refine (mkNext_any _ A cap zs _ _ _ (by omega) (by omega) (by omega) hci.tape).mono ?_
                rintro e we ⟨r8, k8, hn8, rfl, ht8, hg8⟩
                replace hci := hci.next ht8 hg8
                have rl8 := hn8.lo
                have rh8 := hn8.hi
                have km8 := hn8.most
                have HO8 := Lib.hid (own_grown HO.out hg8 (by rintro k ⟨⟩; have := hci.gt; have := hci.gB; omega))
                clear HO ht8 hg8 hn8
                refine ⟨⟨hci.box.cell' rfl, hci.box.cell' rfl⟩, ?_⟩
                refine wpSeqH_act rfl rfl ?_
                go_simp
                have h2 := hci.alloc (.cells #[.int .i64 r8] 3)
                have hsz := hci.sz
                refine ⟨⟨h2.box.cell' rfl, h2.box.cell' rfl⟩, ?_⟩
                refine wpSeqH_act rfl rfl ?_
                refine wp_append_lies _ (.tmp 156) (.tmp 162) _ rfl B 3 ii _ 1 8 Try.underlying22 hii hi0 hi1 hi2 rfl (by omega) _ l.length (flat intC l) rfl (HO8.out.alloc _) ⟨we.heap.size, 0, none⟩ 1 1 [.int .i64 r8] rfl rfl (World.news_of_block (heap_alloc_new _ _)) (by simp [Value.oneCell']) (by omega) (by unfold maxLen; omega) (by omega) (by simp; omega) (we.heap.size + 1) (by simp) ?_
                intro gg cp w9 hown9 hg9 hat9 hlt9
                have h3 := h2.grown hg9 (fun k hk => (HO8.out.lt k hk).1)
                have HX : Hid (w9.ownsRow B 3 1 (.slice (some ⟨gg, 0, none⟩) (l ++ [r8]).length cp) (l ++ [r8]).length (flat intC (l ++ [r8]))) := by
                  refine Lib.hid ?_; rw [← flat_snoc, List.length_append]; exact hown9
                clear hown9 hg9 hat9 hlt9 HO8 h2 hci
                refine ⟨⟨h3.box.cell' rfl, h3.box.cell' rfl⟩, wpSeqH_end ?_⟩
                simp only [Act.put, List.setIfInBounds_toArray, List.set_cons_zero, List.set_cons_succ, thenK]
                have f1 := h3.box.frozen 5
                have c1 := h3.box.cell' (i := 5) (v := .slice ar l.length cr) rfl
                go_wp2
                go_roundg (gk - 1)
                case measure => omega
                case rel => exact ⟨l ++ [r8], some ⟨gg, 0, none⟩, cp, k8, by simp; omega, by simp; omega, by go_num, (by rw [List.all_append, HA.out]; simp [inR]; omega), h3.set (c' := ⟨r, zl, cl, tl, vl, l ++ [r8], [], bl, le, ba⟩) (x' := ⟨az, cz, ac, cc, at_, ct, av, cv, some ⟨gg, 0, none⟩, cp, none, 0⟩) 5 (.slice (some ⟨gg, 0, none⟩) (l.length + 1) cp) (by simp [cfgC]) (fun W S h => ⟨h.zones, h.cells, h.tenants, h.versions, fun h => absurd rfl h, h.observers⟩), own_setFar HX.out (by show g < B; exact h3.gB) _⟩
              · have hgt' : ¬ (0 : Int) < (gk : Int) := by omega
                go_wp2
                go_meet
                exact ⟨k, l, az, cz, ac, cc, at_, ct, av, cv, ar, cr, by omega, by omega, HA.out, hci.up hci.sz (Nat.le_refl _) fun h => ⟨h.zones, h.cells, h.tenants, h.versions, (Rd.of_own HO'.out).more fun b hb => ⟨by have := hci.gB; omega, hb.2⟩, h.observers⟩⟩
          case rest =>
            clear HC8 rnl rnh knm
            obtain ⟨k5, rl, az, cz, ac, cc, at_, ct, av, cv, ar, cr, hk5, hrl, hrall, hci6⟩ := hcut
            have hrlo : rl.length = 1 ∨ rl.length = 3 := by omega
            have HRA := Lib.hid hrall
            clear hrall hrl hn0r
            go_wp2_with fail
            refine (mkRange_any _ A cap zs _ 1 4 _ (by omega) (by omega) (by omega) (by omega) hci6.tape).mono ?_
            rintro e wn ⟨rn, kn, hnn, rhn, rfl, htn, hgn⟩
            have HC7 := Lib.hid (hci6.next htn hgn)
            have rnl := hnn.lo
            have rnh := hnn.hi
            have knm := hnn.most
            clear hci6 htn hgn hnn
            go_upto_block 10 with fail
            obtain ⟨n0, hn0⟩ := Int.eq_ofNat_of_zero_le (show 0 ≤ 1 + rn by omega)
            rw [hn0]
            have hn0r : 1 ≤ n0 ∧ n0 ≤ 4 ∧ n0 ≤ 4 := by omega
            clear hn0
            have HC8 := Lib.hid (HC7.out.up HC7.out.sz (Nat.le_refl _) (fun h => h))
            clear HC7
            generalize hBe : wn.heap.size = B at *
            clear hBe
            go_cut [] (fun wx => AfterObs w A cap zs g r bl le ba zl cl tl vl rl n0 wx)
            case first =>
              go_wp2
              go_loopg [13] n0 (fun gk si wr => ORel w A cap zs g r bl le ba zl cl tl vl rl az cz ac cc at_ ct av cv ar cr B n0 gk si wr)
              case atStart => exact ⟨[], none, 0, kn, rfl, by simp; omega, rfl, rfl, HC8.out, World.ownsRow_nil _ _ _ _⟩
              case round =>
                rename_i J K aJ aK
                clear HC8
                obtain ⟨l, ao, co, k, hgk, hk, rfl, hall, hci, hown⟩ := hrel
                have HA := Lib.hid hall
                have HO' := Lib.hid hown
                clear hall hown
                by_cases hgt : 0 < gk
                · have hgt' : (0 : Int) < (gk : Int) := by omega
                  go_upto_region 32 with fail
                  obtain ⟨wc, rfl⟩ : ∃ wc : World, wc = wr := ⟨_, rfl⟩
                  replace hci := hci.grown (grown_drew1 wc none) (by rintro _ ⟨⟩)
                  have HO : Hid (wc.drew.ownsRow B 3 1 (.slice ao l.length co) l.length (flat intC l)) := HO'.out
                  clear HO'
                  refine wp_region_seq (fun w' : World => w'.cell? ⟨g, 1, none⟩ = some (.slice az zl.length cz) ∧ w'.cell? ⟨g, 6, none⟩ = some (.slice ao l.length co)) 9 [(0, false), (1, false), (2, false), (3, false), (4, false), (5, false), (6, true), (7, true), (8, true)] (by kernel_rfl) (by kernel_rfl) ⟨hci.box.cell' rfl, hci.box.cell' rfl⟩ ?_
                  generalize wc.drew = wd at *
                  simp only [List.take_succ_cons, List.take_zero, List.drop_succ_cons, List.drop_zero]
                  repeat (refine wpSeqH_fix _ ?_ rfl (by first | exact fun _ _ _ h => h | exact fun _ _ _ h => hpan _ _ _ _ _ h) (Or.inl ⟨by rfl, ?_⟩) ?_; rotate_left; (intro w' hSw; (try dsimp only at hSw); go_split_ands; go_simp; (try with_reducible rfl)); (simp only [List.getElem_toArray, List.getElem_cons_zero, List.getElem_cons_succ, Act.put, List.setIfInBounds_toArray, List.set_cons_zero, List.set_cons_succ]))
                  refine wpSeqH_act rfl rfl ?_
                  go_simp
                  refine (mkNext_any _ A cap zs _ _ _ (by omega) (by omega) (by omega) hci.tape).mono ?_
                  rintro e we ⟨r8, k8, hn8, rfl, ht8, hg8⟩
                  replace hci := hci.next ht8 hg8
                  have rl8 := hn8.lo
                  have rh8 := hn8.hi
                  have km8 := hn8.most
                  have HO8 := Lib.hid (own_grown HO.out hg8 (by rintro k ⟨⟩; have := hci.gt; have := hci.gB; omega))
                  clear HO ht8 hg8 hn8
                  refine ⟨⟨hci.box.cell' rfl, hci.box.cell' rfl⟩, ?_⟩
                  refine wpSeqH_act rfl rfl ?_
                  go_simp
                  have h2 := hci.alloc (.cells #[.int .i64 r8] 3)
                  have hsz := hci.sz
                  refine ⟨⟨h2.box.cell' rfl, h2.box.cell' rfl⟩, ?_⟩
                  refine wpSeqH_act rfl rfl ?_
                  refine wp_append_lies _ (.tmp 172) (.tmp 178) _ rfl B 3 ii _ 1 8 Try.underlying22 hii hi0 hi1 hi2 rfl (by omega) _ l.length (flat intC l) rfl (HO8.out.alloc _) ⟨we.heap.size, 0, none⟩ 1 1 [.int .i64 r8] rfl rfl (World.news_of_block (heap_alloc_new _ _)) (by simp [Value.oneCell']) (by omega) (by unfold maxLen; omega) (by omega) (by simp; omega) (we.heap.size + 1) (by simp) ?_
                  intro gg cp w9 hown9 hg9 hat9 hlt9
                  have h3 := h2.grown hg9 (fun k hk => (HO8.out.lt k hk).1)
                  have HX : Hid (w9.ownsRow B 3 1 (.slice (some ⟨gg, 0, none⟩) (l ++ [r8]).length cp) (l ++ [r8]).length (flat intC (l ++ [r8]))) := by
                    refine Lib.hid ?_; rw [← flat_snoc, List.length_append]; exact hown9
                  clear hown9 hg9 hat9 hlt9 HO8 h2 hci
                  refine ⟨⟨h3.box.cell' rfl, h3.box.cell' rfl⟩, wpSeqH_end ?_⟩
                  simp only [Act.put, List.setIfInBounds_toArray, List.set_cons_zero, List.set_cons_succ, thenK]
                  have f1 := h3.box.frozen 6
                  have c1 := h3.box.cell' (i := 6) (v := .slice ao l.length co) rfl
                  go_wp2
                  go_roundg (gk - 1)
                  case measure => omega
                  case rel => exact ⟨l ++ [r8], some ⟨gg, 0, none⟩, cp, k8, by simp; omega, by simp; omega, by go_num, (by rw [List.all_append, HA.out]; simp [inR]; omega), h3.set (c' := ⟨r, zl, cl, tl, vl, rl, l ++ [r8], bl, le, ba⟩) (x' := ⟨az, cz, ac, cc, at_, ct, av, cv, ar, cr, some ⟨gg, 0, none⟩, cp⟩) 6 (.slice (some ⟨gg, 0, none⟩) (l.length + 1) cp) (by simp [cfgC]) (fun W S h => ⟨h.zones, h.cells, h.tenants, h.versions, h.replicas, fun h => absurd rfl h⟩), own_setFar HX.out (by show g < B; exact h3.gB) _⟩
                · have hgt' : ¬ (0 : Int) < (gk : Int) := by omega
                  go_wp2
                  go_meet
                  exact ⟨k, l, _, by omega, HA.out, hci.up hci.sz (Nat.le_refl _) fun h => ⟨h.zones, h.cells, h.tenants, h.versions, h.replicas, (Rd.of_own HO'.out).more fun b hb => ⟨by have := hci.gB; omega, hb.2⟩⟩⟩
            case rest =>
              clear HC8 rnl rnh knm
              obtain ⟨k6, ol, x, hol, hoall, hci8⟩ := hcut
              have hol2 : 1 ≤ ol.length ∧ ol.length ≤ 4 := by omega
              have HOA := Lib.hid hoall
              clear hoall hol hn0r
              obtain ⟨az, cz, ac, cc, at_, ct, av, cv, ar, cr, ao, co⟩ := x
              have c0 := hci8.box.cell' (i := 0) (v := .int .i64 r) rfl
              have d0 := hci8.res.cell' (i := 0) (v := .int .i64 0) rfl
              have f0 := hci8.res.frozen 0
              have c1 := hci8.box.cell' (i := 1) (v := .slice az zl.length cz) rfl
              have d1 := hci8.res.cell' (i := 1) (v := .slice none 0 0) rfl
              have f1 := hci8.res.frozen 1
              have c2 := hci8.box.cell' (i := 2) (v := .slice ac cl.length cc) rfl
              have d2 := hci8.res.cell' (i := 2) (v := .slice none 0 0) rfl
              have f2 := hci8.res.frozen 2
              have c3 := hci8.box.cell' (i := 3) (v := .slice at_ tl.length ct) rfl
              have d3 := hci8.res.cell' (i := 3) (v := .slice none 0 0) rfl
              have f3 := hci8.res.frozen 3
              have c4 := hci8.box.cell' (i := 4) (v := .slice av vl.length cv) rfl
              have d4 := hci8.res.cell' (i := 4) (v := .slice none 0 0) rfl
              have f4 := hci8.res.frozen 4
              have c5 := hci8.box.cell' (i := 5) (v := .slice ar rl.length cr) rfl
              have d5 := hci8.res.cell' (i := 5) (v := .slice none 0 0) rfl
              have f5 := hci8.res.frozen 5
              have c6 := hci8.box.cell' (i := 6) (v := .slice ao ol.length co) rfl
              have d6 := hci8.res.cell' (i := 6) (v := .slice none 0 0) rfl
              have f6 := hci8.res.frozen 6
              have c7 := hci8.box.cell' (i := 7) (v := .int .i64 bl) rfl
              have d7 := hci8.res.cell' (i := 7) (v := .int .i64 0) rfl
              have f7 := hci8.res.frozen 7
              have c8 := hci8.box.cell' (i := 8) (v := .int .i64 le) rfl
              have d8 := hci8.res.cell' (i := 8) (v := .int .i64 0) rfl
              have f8 := hci8.res.frozen 8
              have c9 := hci8.box.cell' (i := 9) (v := .int .i64 ba) rfl
              have d9 := hci8.res.cell' (i := 9) (v := .int .i64 0) rfl
              have f9 := hci8.res.frozen 9
              have HC9 := Lib.hid hci8
              have hB : Blk ((((((((((wc.setCell ⟨w.heap.size, 0, none⟩ (.int .i64 r)).setCell ⟨w.heap.size, 1, none⟩ (.slice az zl.length cz)).setCell ⟨w.heap.size, 2, none⟩ (.slice ac cl.length cc)).setCell ⟨w.heap.size, 3, none⟩ (.slice at_ tl.length ct)).setCell ⟨w.heap.size, 4, none⟩ (.slice av vl.length cv)).setCell ⟨w.heap.size, 5, none⟩ (.slice ar rl.length cr)).setCell ⟨w.heap.size, 6, none⟩ (.slice ao ol.length co)).setCell ⟨w.heap.size, 7, none⟩ (.int .i64 bl)).setCell ⟨w.heap.size, 8, none⟩ (.int .i64 le)).setCell ⟨w.heap.size, 9, none⟩ (.int .i64 ba)) w.heap.size 30 #[.int .i64 r, .slice az zl.length cz, .slice ac cl.length cc, .slice at_ tl.length ct, .slice av vl.length cv, .slice ar rl.length cr, .slice ao ol.length co, .int .i64 bl, .int .i64 le, .int .i64 ba] := by simpa [cfgC] using ((((((((((HC9.out.res.set_ 0 (.int .i64 r)).set_ 1 (.slice az zl.length cz)).set_ 2 (.slice ac cl.length cc)).set_ 3 (.slice at_ tl.length ct)).set_ 4 (.slice av vl.length cv)).set_ 5 (.slice ar rl.length cr)).set_ 6 (.slice ao ol.length co)).set_ 7 (.int .i64 bl)).set_ 8 (.int .i64 le)).set_ 9 (.int .i64 ba))
              have HG := Lib.hid (grown_set (grown_set (grown_set (grown_set (grown_set (grown_set (grown_set (grown_set (grown_set (grown_set (grown_refl wc (some w.heap.size)) 0 (.int .i64 r)) 1 (.slice az zl.length cz)) 2 (.slice ac cl.length cc)) 3 (.slice at_ tl.length ct)) 4 (.slice av vl.length cv)) 5 (.slice ar rl.length cr)) 6 (.slice ao ol.length co)) 7 (.int .i64 bl)) 8 (.int .i64 le)) 9 (.int .i64 ba))
              have HB := Lib.hid hB
              clear hci8 hB
              go_wp2
              generalize ((((((((((wc.setCell ⟨w.heap.size, 0, none⟩ (.int .i64 r)).setCell ⟨w.heap.size, 1, none⟩ (.slice az zl.length cz)).setCell ⟨w.heap.size, 2, none⟩ (.slice ac cl.length cc)).setCell ⟨w.heap.size, 3, none⟩ (.slice at_ tl.length ct)).setCell ⟨w.heap.size, 4, none⟩ (.slice av vl.length cv)).setCell ⟨w.heap.size, 5, none⟩ (.slice ar rl.length cr)).setCell ⟨w.heap.size, 6, none⟩ (.slice ao ol.length co)).setCell ⟨w.heap.size, 7, none⟩ (.int .i64 bl)).setCell ⟨w.heap.size, 8, none⟩ (.int .i64 le)).setCell ⟨w.heap.size, 9, none⟩ (.int .i64 ba)) = W at *
              clear c0 d0 f0 c1 d1 f1 c2 d2 f2 c3 d3 f3 c4 d4 f4 c5 d5 f5 c6 d6 f6 c7 d7 f7 c8 d8 f8 c9 d9 f9
              have e0 := HB.out.cell' (i := 0) (v := .int .i64 r) rfl
              have e1 := HB.out.cell' (i := 1) (v := .slice az zl.length cz) rfl
              have e2 := HB.out.cell' (i := 2) (v := .slice ac cl.length cc) rfl
              have e3 := HB.out.cell' (i := 3) (v := .slice at_ tl.length ct) rfl
              have e4 := HB.out.cell' (i := 4) (v := .slice av vl.length cv) rfl
              have e5 := HB.out.cell' (i := 5) (v := .slice ar rl.length cr) rfl
              have e6 := HB.out.cell' (i := 6) (v := .slice ao ol.length co) rfl
              have e7 := HB.out.cell' (i := 7) (v := .int .i64 bl) rfl
              have e8 := HB.out.cell' (i := 8) (v := .int .i64 le) rfl
              have e9 := HB.out.cell' (i := 9) (v := .int .i64 ba) rfl
              have hc9 := HC9.out
              have hg9 := HG.out
              refine bodyPost_ret (v := .agg #[.int .i64 r, .slice az zl.length cz, .slice ac cl.length cc, .slice at_ tl.length ct, .slice av vl.length cv, .slice ar rl.length cr, .slice ao ol.length co, .int .i64 bl, .int .i64 le, .int .i64 ba]) (by simp [results, Try.results6, go_sem, e0, e1, e2, e3, e4, e5, e6, e7, e8, e9]) rfl ?_
              refine ⟨⟨az, cz, ac, cc, at_, ct, av, cv, ar, cr, ao, co⟩, ⟨r, zl, cl, tl, vl, rl, ol, bl, le, ba⟩, rfl, ?_, ?_, hc9.below.grown hg9 hc9.below.size (by rintro _ ⟨⟩; exact Nat.le_refl _)⟩
              · have hgt := hc9.gt
                exact (hc9.ok.keep fun b hb => hg9.block b hb.2 (by intro e; injection e; have := hb.1; omega)).more fun b hb => ⟨by have := hb.1; omega, Nat.lt_of_lt_of_le hb.2 hg9.size⟩
              · exact madeCfg_of r bl le ba zl cl tl vl rl ol (by omega) (by omega) (by omega) (by omega) (by omega) HZ.out HCA.out HTA.out HVA.out HRA.out HOA.out (by omega) (by omega) (by omega) (by omega) (by omega)
end Go.Proofs.Ytnnpgbleacapfaa
