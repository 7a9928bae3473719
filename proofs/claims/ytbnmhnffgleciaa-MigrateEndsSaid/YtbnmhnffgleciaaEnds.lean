import Derived.Test.YtbnmhnffgleciaaMade
import Derived.Test.YtbnmhnffgleciaaEndsP
import Derived.Test.YtbnmhnffgleciaaAwake31
namespace Go.Proofs.Ytbnmhnffgleciaa
open Go.RowKit
set_option linter.unusedSimpArgs false
set_option linter.unusedVariables false

structure EvRel (w : World) (m : Nat) (who : Int × Int × Int × Int) (I : Int → Bool → Prop) (A : Option Addr) (evs : List (Int × Int)) (wr : World) : Prop where
  mig : ∃ p closed early, MigAt wr m who p closed early ∧ I p closed
  rd : Rd wr (fun b => b ≠ m) A (evCells evs)
  below : Below w.heap.size w wr
  new : w.heap.size ≤ m

/-- Before round k of the tasks. -/
structure TaskRel (w : World) (m B : Nat) (back : Bool) (k : Nat) (v : Value) (ds : List Int) (wr : World) : Prop where
  le : k ≤ 8
  mig : ∃ p closed early, MigAt wr m (0, 0, 1, 1) p closed early ∧ EndI back k p closed ds
  own : wr.ownsRow B 3 1 v ds.length (ds.map (Value.int .i64))
  below : Below w.heap.size w wr
  new : w.heap.size ≤ m
  mB : m < B
  size : B ≤ wr.heap.size

theorem intInfo : (Try.prog.info? 3).map (fun i => (i.zero, i.size, i.bytes)) = some (some (.int .i64 0), 1, 8) := by kernel_rfl

theorem step_no (g : Nat) (who : Int × Int × Int × Int) (p ev n : Int) (closed : Bool) (early : Int) (w : World) (h0 : afterM p ev n = 0) (hm : MigAt w g who p closed early) :
    Calls Try.prog 11 #[.pointer (some ⟨g, 0, none⟩), .int .i64 ev, .int .i64 n] w fun e w' => e = .returned (.bool false) ∧ MigAt w' g who p closed early ∧ w.grownBy w' (some g) :=
  (step_any g who p ev n closed early w hm).mono fun e w' ⟨he, h1, h2⟩ => ⟨by rw [he]; simp [h0], by simpa [phaseM, closedM, earlyM, h0] using h1, h2⟩
theorem step_yes (g : Nat) (who : Int × Int × Int × Int) (p ev n : Int) (closed : Bool) (early : Int) (w : World) (h0 : afterM p ev n ≠ 0) (hm : MigAt w g who p closed early) :
    Calls Try.prog 11 #[.pointer (some ⟨g, 0, none⟩), .int .i64 ev, .int .i64 n] w fun e w' => e = .returned (.bool true) ∧ MigAt w' g who (phaseM p ev n) (closedM p ev n closed) (earlyM p ev n early) ∧ w.grownBy w' (some g) :=
  (step_any g who p ev n closed early w hm).mono fun e w' ⟨he, h1, h2⟩ => ⟨by rw [he]; simp [h0], h1, h2⟩

set_option maxHeartbeats 2000000 in
set_option maxRecDepth 100000 in
theorem ends_any (A : Option Addr) (c : Nat) (zs : List Int) (A2 : Option Addr) (c2 : Nat) (raw : List (Int × Int)) (ab : Bool) (w : World) (hr : Rd w (· < w.heap.size) A (zs.map (Value.int .i64)))
    (hm : zs.length ≤ maxLen) (hr2 : Rd w (· < w.heap.size) A2 (evCells raw)) (hm2 : raw.length ≤ maxLen) :
    Calls Try.prog 4 #[.slice A zs.length c, .slice A2 raw.length c2, .bool ab] w fun e w' => e = .returned (.bool true) ∧ Below w.heap.size w w' := by
  obtain ⟨i0, hi, hz0, hz1, hz2⟩ := info_parts evInfo
  have HR := Lib.hid hr
  have HR2 := Lib.hid hr2
  clear hr hr2
  have hm3 := hm2
  unfold maxLen at hm3
  go_enter Try.func4, Try.ntmps4
  go_wp2_with fail
  refine (awake31_any w).mono ?_
  rintro e w1 ⟨rfl, hb1⟩
  go_wp2_with fail
  refine (light_mill _ _ _ _ hm).mono ?_
  rintro e w1' ⟨rfl, rfl⟩
  by_cases hl : zs.length ≤ 150
  · by_cases hl2 : raw.length ≤ 60
    · have h60 : decide (60 < (raw.length : Int)) = false := by simp; omega
      go_wp2_with fail
      refine (migNew_any _ _ _ _ _).mono ?_
      rintro e w2 ⟨rfl, hm2, hb2⟩
      go_wp2_with fail
      have hb2' : Below w.heap.size w w2 := hb1.trans (hb2.mono hb1.size)
      have hr2 : Rd w2 (· < w2.heap.size) A (zs.map (Value.int .i64)) := (HR.out.below hb2' (fun b h => h)).more (fun b h => by have := hb2'.size; omega)
      refine (made_any A c zs w2 (by omega) hr2).mono ?_
      rintro e w3 ⟨v, rfl, evs, hlen, hown, htape, hb3⟩
      have hs2 : w1.heap.size < w2.heap.size := hm2.lt
      have hmg3 : MigAt w3 w1.heap.size (0, 0, 1, 1) 1 false 0 := Blk.below hm2 hb3 hs2
      have hb3' : Below w.heap.size w w3 := hb2'.trans (hb3.mono hb2'.size)
      have hrr : Rd w3 (· < w.heap.size) A2 (evCells raw) := HR2.out.below hb3' (fun b h => h)
      obtain ⟨Av, cv, rfl⟩ := own_form hown
      have hsz3 := hb3.size
      have htl : w2.heap.size < w3.heap.size := htape.lt
      clear htape hr2 HR HR2 hb3 hm2
      go_wp2_with (at_builtin; refine wpList_append_rd _ rfl _ _ _ rfl (w2.heap.size + 1) 30 i0 _ 2 16 Try.underlying23 hi hz0 hz1 hz2 rfl (by omega) _ evs.length (evCells evs) rfl hown _ A2 raw.length c2 (evCells raw) rfl (evCells_length _) hrr ?c1 ?c2 ?c3 ?c4 ?_)
      case c1 => intro u hu; simp [evCells] at hu; obtain ⟨_, _, _, rfl | rfl⟩ := hu <;> rfl
      case c2 => unfold maxLen; omega
      case c3 => omega
      case c4 => omega
      intro v' w4 hown4 hg4 hat4
      have hblk : ∀ k, (Value.slice Av evs.length cv).ownBlock = some k → w2.heap.size + 1 ≤ k := fun k hk => (hown.lt k hk).1
      obtain ⟨Av4, cv4, rfl⟩ := own_form hown4
      have hE : evCells evs ++ evCells raw = evCells (evs ++ raw) := by simp [evCells]
      rw [hE] at hown4
      have rel : EvRel w w1.heap.size (0, 0, 1, 1) MigI Av4 (evs ++ raw) w4 := by
        refine ⟨⟨1, false, 0, Blk.grown hmg3 hg4 (fun e => by have := hblk _ e.symm; omega), by simp [MigI]⟩, (Rd.of_own hown4).more (fun b hb => by have := hb.1; omega), ?_, hb1.size⟩
        exact hb3'.grown hg4 hb3'.size (fun k hk => by have := hblk k hk; have := hb2'.size; omega)
      have hN : evs.length + raw.length = (evs ++ raw).length := by simp
      rw [hN]
      have hN60 : (evs ++ raw).length ≤ 120 := by simp; omega
      clear hN hE hblk hat4 hg4 hown4 hown hrr hb3' hmg3 hb2' hi hz0 hz1 hz2
      generalize evs ++ raw = all at *
      go_wp2
      go_loopg [31] all.length (fun gk s31 wr => ∃ (k : Nat), gk + k = all.length ∧ s31 = .int .i64 k ∧ EvRel w w1.heap.size (0, 0, 1, 1) MigI Av4 all wr)
      case atStart => exact ⟨0, rfl, rfl, rel⟩
      case round =>
        clear rel
        rename_i J K aJ aK
        obtain ⟨k, hgk, rfl, rel⟩ := hrel
        by_cases hk : k < all.length
        · obtain ⟨b, off, rfl, hbm, hcell⟩ := rel.rd.at_ (k := k * 2) (by rw [evCells_length]; omega)
          obtain ⟨⟨ev', n'⟩, hkk⟩ : ∃ e, all[k]? = some e := ⟨_, List.getElem?_eq_getElem hk⟩
          have cE := hcell _ _ (evCells_get all k _ hkk).1
          have cN := hcell _ _ (evCells_get all k _ hkk).2
          simp only [← Nat.add_assoc] at cE cN
          have hlt : (k : Int) < (all.length : Int) := by omega
          have hk0 : (0 : Int) ≤ (k : Int) := by omega
          obtain ⟨p, closed, early, hmig, hI⟩ := rel.mig
          have hmig1 : MigAt (wr.alloc (.cells #[.int .i64 ev', .int .i64 n'] 30)) w1.heap.size (0, 0, 1, 1) p closed early := Blk.alloc hmig _
          have hstep := step_any _ _ _ ev' n' _ _ _ hmig1
          have HS := Lib.hid hstep
          clear hcell hkk hstep
          go_wp2_with fail
          refine HS.out.mono ?_
          rintro e w5 ⟨rfl, hmig5, hg5⟩
          have rel5 : EvRel w w1.heap.size (0, 0, 1, 1) MigI (some ⟨b, off, none⟩) all w5 :=
            ⟨⟨_, _, _, hmig5, migI_step hI⟩, (rel.rd.alloc _).grown hg5 (fun b hb e => by injection e; omega), (rel.below.alloc rel.below.size _).grown hg5 (by simp; have := rel.below.size; omega) (by rintro k ⟨⟩; have := rel.new; omega), rel.new⟩
          clear rel hmig1 hmig hmig5 hg5 cE cN HS hI
          go_wp2
          go_roundg (gk - 1)
          case measure => omega
          case rel => exact ⟨k + 1, by omega, by go_num, rel5⟩
        · have hge : ¬ ((k : Int) < (all.length : Int)) := by omega
          obtain ⟨⟨p, closed, early, hmig, hI⟩, hrd, hbel, hnew⟩ := rel
          have hc4 := hmig.c4
          have HI := Lib.hid hI
          clear hrd hI aJ aK
          by_cases hend : p = 6 ∨ p = 10
          · have t0 : taskM p = 0 := by rcases hend with rfl | rfl <;> rfl
            have a5 : afterM p 5 0 = 0 := by rcases hend with rfl | rfl <;> decide
            have a8 : afterM p 8 0 = 0 := by rcases hend with rfl | rfl <;> decide
            have hta := task_any _ _ _ hc4
            rw [t0] at hta
            have HTA := Lib.hid hta
            have s5 := step_no _ _ _ 5 0 _ _ _ a5 hmig
            have HS5 := Lib.hid s5
            have H8 := Lib.hid a8
            clear hta s5 a5 a8 t0
            rcases hend with rfl | rfl
            all_goals
              go_wp2_with (first
                | (go_at_call 13; ((with_reducible refine (phase_any _ _ _ hc4).mono ?_); rintro e w' ⟨rfl, rfl⟩))
                | (go_at_call 14; ((with_reducible refine HTA.out.mono ?_); rintro e w' ⟨rfl, rfl⟩)))
              refine HS5.out.mono ?_
              rintro e w5 ⟨rfl, hmig5, hg5⟩
              go_wp2_with fail
              refine (step_no _ _ _ 8 0 _ _ _ H8.out hmig5).mono ?_
              rintro e w6 ⟨rfl, hmig6, hg6⟩
              go_wp2
              go_ret
              refine ⟨rfl, ?_⟩
              have := hbel.grown (grown_trans hg5 hg6) hbel.size (by rintro k ⟨⟩; omega)
              exact this
          · have h6 : (p == 6) = false := by simp; omega
            have h10 : (p == 10) = false := by simp; omega
            have hms := hmig.lt
            go_upto_region 14 with (first
              | (go_at_call 13; ((with_reducible refine (phase_any _ _ _ hc4).mono ?_); rintro e w' ⟨rfl, rfl⟩))
              | fail)
            go_cut [70] (fun s70 wx => wr = wx ∧ s70 = .bool (ab && !decide (7 ≤ p)))
            case first =>
              cases ab
              · go_wp2
                go_meet
                exact ⟨rfl, rfl⟩
              · go_wp2
                go_meet
                exact ⟨rfl, rfl⟩
            case rest =>
              obtain ⟨rfl, rfl⟩ := hcut
              go_upto_if 70 with fail
              go_cut [10] (fun s10 wx => ∃ back, s10 = .bool back ∧ TaskRel w w1.heap.size wr.heap.size back 0 (.slice none 0 0) [] wx)
              case first =>
                by_cases hgo : ab = true ∧ p < 7
                · have hb : (ab && !decide (7 ≤ p)) = true := by rw [hgo.1]; simp; omega
                  rw [hb]
                  have hI := HI.out
                  have h5 : p < 6 := by have := hgo.2; have := hI.2.1; omega
                  have hst := step_yes _ _ _ 5 0 _ _ _ (afterM_drop hI.1 h5) hmig
                  have HS := Lib.hid hst
                  have HX := Lib.hid (endI_drop hI h5)
                  clear hst hb hgo hI
                  go_wp2_with fail
                  refine HS.out.mono ?_
                  rintro e w5 ⟨rfl, hmig5, hg5⟩
                  go_wp2
                  go_meet
                  exact ⟨true, rfl, by omega, ⟨_, _, _, hmig5, HX.out⟩, World.ownsRow_nil _ _ _ _, hbel.grown hg5 hbel.size (by rintro k ⟨⟩; omega), hnew, hms, hg5.size⟩
                · have hb : (ab && !decide (7 ≤ p)) = false := by
                    cases ab with
                    | false => rfl
                    | true =>
                      by_cases h7 : 7 ≤ p
                      · simp [h7]
                      · exact absurd ⟨rfl, by omega⟩ hgo
                  rw [hb]
                  have hX := endI_start HI.out (by omega) (by omega)
                  have HX := Lib.hid hX
                  clear hX hb hgo
                  go_wp2
                  go_meet
                  exact ⟨_, rfl, by omega, ⟨_, _, _, hmig, HX.out⟩, World.ownsRow_nil _ _ _ _, hbel, hnew, hms, Nat.le_refl _⟩
              case rest =>
                clear hmig hc4 HI hbel h6 h10 hend
                obtain ⟨back, rfl, rel⟩ := hcut
                generalize wr.heap.size = B at *
                go_wp2
                go_loopg [11, 73] 8 (fun gk s11 s73 wr => ∃ (k : Nat) (ds : List Int), gk + k = 8 ∧ s73 = .int .i64 k ∧ TaskRel w w1.heap.size B back k s11 ds wr)
                case atStart => exact ⟨0, [], rfl, rfl, rel⟩
                case round =>
                  clear rel
                  rename_i J K aJ aK
                  obtain ⟨k2, ds, hgk2, rfl, rel⟩ := hrel
                  obtain ⟨hle, ⟨p, closed, early, hmig, hI⟩, hown, hbel, hnew, hmB, hsz⟩ := rel
                  have hdl : ds.length = k2 := hI.1
                  obtain ⟨Ad, cd, rfl⟩ := own_form hown
                  by_cases hk2 : k2 < 8
                  · have hlt : (k2 : Int) < 8 := by omega
                    have hcs := task_cases hI
                    have HCS := Lib.hid hcs
                    have HDL := Lib.hid hdl
                    have hc4 := hmig.c4
                    have hms := hmig.lt
                    have HM := Lib.hid hmig
                    have HO := Lib.hid hown
                    have HB := Lib.hid hbel
                    have hds : ds.length ≤ 8 := by omega
                    clear hcs hI hmig hown hbel hdl
                    obtain ⟨i1, hi, hz0, hz1, hz2⟩ := info_parts intInfo
                    have htk := task_any _ _ _ hc4
                    have HTK := Lib.hid htk
                    clear htk
                    generalize htm : taskM p = t at *
                    have HTM := Lib.hid htm
                    clear htm
                    go_wp2_with fail
                    refine HTK.out.mono ?_
                    rintro e w' ⟨rfl, rfl⟩
                    go_wp2_with (at_builtin; refine wpList_append_lies _ rfl _ _ _ rfl B 3 i1 _ 1 8 Try.underlying22 hi hz0 hz1 hz2 rfl (by omega) _ ds.length (ds.map (Value.int .i64)) rfl (HO.out.alloc _) ⟨wr.heap.size, 0, none⟩ 1 1 [.int .i64 t] rfl rfl ?c1 ?c2 ?c0 ?c3 ?c4 ?c5 (wr.heap.size + 1) ?c6 ?_)
                    case c1 => exact World.news_of_block (cs := #[.int .i64 t]) (heap_alloc_new _ _)
                    case c2 => simp [Value.oneCell']
                    case c0 => omega
                    case c3 => unfold maxLen; omega
                    case c4 => omega
                    case c5 => simp; omega
                    case c6 => simp
                    intro g cp w9 hown9 hg9 hat9 hlt9
                    have hblk : ∀ x, (Value.slice Ad ds.length cd).ownBlock = some x → B ≤ x := fun x hx => (HO.out.lt x hx).1
                    have hmig9 : MigAt w9 w1.heap.size (0, 0, 1, 1) p closed early := Blk.grown (Blk.alloc HM.out _) hg9 (fun e => by have := hblk _ e.symm; omega)
                    have hbel9 : Below w.heap.size w w9 := (HB.out.alloc HB.out.size _).grown hg9 (by have := HB.out.size; simp; omega) (fun x hx => by have := hblk x hx; omega)
                    have hsz9 : B ≤ w9.heap.size := by have := hg9.size; simp at this; omega
                    have hown9' : w9.ownsRow B 3 1 (.slice (some ⟨g, 0, none⟩) (ds.length + 1) cp) (ds ++ [t]).length ((ds ++ [t]).map (Value.int .i64)) := by simpa using hown9
                    have HO9 := Lib.hid hown9'
                    clear hown9 hown9' hg9 hat9 hlt9 HO HM HB hc4 HTK hi hz0 hz1 hz2
                    have hc4 := hmig9.c4
                    have HM := Lib.hid hmig9
                    have HB := Lib.hid hbel9
                    have htk := task_any _ _ _ hc4
                    rw [HTM.out] at htk
                    have HTK := Lib.hid htk
                    clear htk hmig9 hbel9
                    have hcs := HCS.out
                    clear HCS HTM
                    rcases hcs with ⟨rfl, hE⟩ | ⟨t', ev, n', rfl, hne, hE, hsw⟩
                    · have HE := Lib.hid hE
                      clear hE
                      go_wp2_with (go_at_call 14; refine HTK.out.mono ?_; rintro e w' ⟨rfl, rfl⟩)
                      go_roundg (gk - 1)
                      case measure => omega
                      case rel => exact ⟨k2 + 1, ds ++ [0], by omega, by go_num, by omega, ⟨_, _, _, HM.out, HE.out⟩, by simpa using HO9.out, HB.out, hnew, hmB, hsz9⟩
                    · have HE := Lib.hid hE
                      have hst := step_yes _ _ _ ev n' _ _ _ hne HM.out
                      have HST := Lib.hid hst
                      clear hE hst hne
                      rcases hsw with ⟨rfl, rfl, rfl⟩ | ⟨rfl, rfl, rfl⟩ | ⟨rfl, rfl, rfl⟩ | ⟨rfl, rfl, rfl⟩ | ⟨rfl, rfl, rfl⟩ | ⟨rfl, rfl, rfl⟩
                      all_goals
                        go_wp2_with (go_at_call 14; refine HTK.out.mono ?_; rintro e w' ⟨rfl, rfl⟩)
                        refine HST.out.mono ?_
                        rintro e w10 ⟨rfl, hmig10, hg10⟩
                        have hbel10 : Below w.heap.size w w10 := HB.out.grown hg10 HB.out.size (by rintro x ⟨⟩; omega)
                        have HO10 := Lib.hid (own_grown HO9.out hg10 (by rintro x ⟨⟩; omega))
                        have hsz10 : B ≤ w10.heap.size := Nat.le_trans hsz9 hg10.size
                        have HM10 := Lib.hid hmig10
                        clear hmig10 hg10 HM HB HO9 hc4
                        go_wp2
                        go_roundg (gk - 1)
                        case measure => omega
                        case rel => exact ⟨k2 + 1, _, by omega, by go_num, by omega, ⟨_, _, _, HM10.out, HE.out⟩, by simpa using HO10.out, hbel10, hnew, hmB, hsz10⟩
                  · have hge2 : ¬ ((k2 : Int) < 8) := by omega
                    have hk8 : k2 = 8 := by omega
                    subst hk8
                    have hend := endI_end hI
                    have HE := Lib.hid hend
                    have hrd := (Rd.of_own hown).more (S' := fun b => True) (fun _ _ => trivial)
                    have HRD := Lib.hid hrd
                    have hc4 := hmig.c4
                    have hc5 := hmig.c5
                    have hdl' : ds.length = 8 := hdl
                    have HDL := Lib.hid hdl'
                    clear hend hrd hI hown hdl hdl' aJ aK hmig
                    rw [HDL.out]
                    obtain ⟨wo, hwo⟩ : ∃ wo : World, wo = wr := ⟨_, rfl⟩
                    go_wp2
                    rw [← hwo]
                    rw [← hwo] at hc4 hc5 hbel HRD
                    clear hwo
                    go_loopg [12, 109] 8 (fun gk s12 s109 wx => wo = wx ∧ ∃ k3 : Nat, gk + k3 = 8 ∧ s109 = .int .i64 k3 ∧ s12 = .bool ((ds.take k3).contains 6))
                    case atStart => exact ⟨rfl, 0, rfl, rfl, by simp⟩
                    case round =>
                      rename_i J2 K2 aJ2 aK2
                      obtain ⟨rfl, k3, hgk3, rfl, rfl⟩ := hrel
                      by_cases hk3 : k3 < 8
                      · have hkd : k3 < ds.length := by rw [HDL.out]; omega
                        obtain ⟨b, off, rfl, _, hcell⟩ := HRD.out.at_ (k := k3) (by simpa using hkd)
                        have cz := hcell k3 (.int .i64 ds[k3]) (by simp [hkd])
                        have htk : (ds.take (k3 + 1)).contains 6 = ((ds.take k3).contains 6 || (ds[k3] == 6)) := take_contains ds k3 hkd
                        generalize ds[k3] = z at *
                        have HTK := Lib.hid htk
                        have hlt3 : (k3 : Int) < 8 := by omega
                        have hk30 : (0 : Int) ≤ (k3 : Int) := by omega
                        clear htk hcell
                        generalize (ds.take k3).contains 6 = q at *
                        cases q
                        · go_wp2
                          go_roundg (gk - 1)
                          case measure => omega
                          case rel => exact ⟨rfl, k3 + 1, by omega, by go_num, by rw [HTK.out]; simp⟩
                        · go_wp2
                          go_roundg (gk - 1)
                          case measure => omega
                          case rel => exact ⟨rfl, k3 + 1, by omega, by go_num, by rw [HTK.out]; simp⟩
                      · have hge3 : ¬ ((k3 : Int) < 8) := by omega
                        have htk : ds.take k3 = ds := List.take_of_length_le (by rw [HDL.out]; omega)
                        rw [htk]
                        clear htk HRD
                        have hE := HE.out
                        generalize ds.contains 6 = q at *
                        rcases hE with ⟨rfl, rfl, rfl⟩ | ⟨rfl, rfl, rfl⟩
                        · go_wp2_with (go_at_call 13; refine (phase_any _ _ _ hc4).mono ?_; rintro e w' ⟨rfl, rfl⟩)
                          go_ret
                          exact ⟨rfl, hbel⟩
                        · go_wp2_with (first | (go_at_call 13; refine (phase_any _ _ _ hc4).mono ?_; rintro e w' ⟨rfl, rfl⟩) | (go_at_call 12; refine (closed_any _ _ _ hc5).mono ?_; rintro e w' ⟨rfl, rfl⟩))
                          go_ret
                          exact ⟨rfl, hbel⟩
    · go_wp2
      go_ret
      exact ⟨rfl, hb1⟩
  · go_wp2
    go_ret
    exact ⟨rfl, hb1⟩
end Go.Proofs.Ytbnmhnffgleciaa
