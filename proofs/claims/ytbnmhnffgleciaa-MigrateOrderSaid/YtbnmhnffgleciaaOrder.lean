import Derived.Test.YtbnmhnffgleciaaMade
import Derived.Test.YtbnmhnffgleciaaOrderP
import Derived.Test.YtbnmhnffgleciaaAwake31
namespace Go.Proofs.Ytbnmhnffgleciaa
open Go.RowKit
set_option linter.unusedSimpArgs false
set_option linter.unusedVariables false

structure OrdRel (w : World) (m : Nat) (A : Option Addr) (evs : List (Int × Int)) (k : Nat) (s : Int) (ab : Bool) (wr : World) : Prop where
  le : k ≤ evs.length
  mig : ∃ p closed early, MigAt wr m (0, 0, 1, 1) p closed early ∧ OrdI p s closed ab
  rd : Rd wr (fun b => b ≠ m) A (evCells evs)
  below : Below w.heap.size w wr
  new : w.heap.size ≤ m

set_option maxHeartbeats 1000000 in
set_option maxRecDepth 100000 in
theorem order_any (A A2 : Option Addr) (c c2 : Nat) (zs : List Int) (raw : List (Int × Int)) (w : World) (hr : Rd w (· < w.heap.size) A (zs.map (Value.int .i64))) (hr2 : Rd w (· < w.heap.size) A2 (evCells raw))
    (hm : zs.length ≤ maxLen) (hm2 : raw.length ≤ maxLen) :
    Calls Try.prog 3 #[.slice A zs.length c, .slice A2 raw.length c2] w fun e w' => e = .returned (.bool true) ∧ Below w.heap.size w w' := by
  obtain ⟨i0, hi, hz0, hz1, hz2⟩ := info_parts evInfo
  have HR := Lib.hid hr
  have HR2 := Lib.hid hr2
  clear hr hr2
  have hm3 := hm2
  unfold maxLen at hm3
  go_enter Try.func3, Try.ntmps3
  go_wp2_with fail
  refine (awake31_any w).mono ?_
  rintro e w1 ⟨rfl, hb1⟩
  go_wp2_with fail
  refine (light_mill _ _ _ _ hm).mono ?_
  rintro e w1' ⟨rfl, rfl⟩
  by_cases hl : zs.length ≤ 150
  · by_cases hl2 : raw.length ≤ 60
    · have h60 : decide (60 < (raw.length : Int)) = false := by simp; omega
      go_wp2_with fail
      refine (migNew_any _ _ _ _ _).mono ?_
      rintro e w2 ⟨rfl, hm2, hb2⟩
      go_wp2_with fail
      have hb2' : Below w.heap.size w w2 := hb1.trans (hb2.mono hb1.size)
      have hr2 : Rd w2 (· < w2.heap.size) A (zs.map (Value.int .i64)) := (HR.out.below hb2' (fun b h => h)).more (fun b h => by have := hb2'.size; omega)
      refine (made_any A c zs w2 (by omega) hr2).mono ?_
      rintro e w3 ⟨v, rfl, evs, hlen, hown, htape, hb3⟩
      have hs2 : w1.heap.size < w2.heap.size := hm2.lt
      have hmg3 : MigAt w3 w1.heap.size (0, 0, 1, 1) 1 false 0 := Blk.below hm2 hb3 hs2
      have hb3' : Below w.heap.size w w3 := hb2'.trans (hb3.mono hb2'.size)
      have hrr : Rd w3 (· < w.heap.size) A2 (evCells raw) := HR2.out.below hb3' (fun b h => h)
      obtain ⟨Av, cv, rfl⟩ := own_form hown
      have hsz3 := hb3.size
      have htl : w2.heap.size < w3.heap.size := htape.lt
      clear htape hr2 HR HR2 hb3 hm2
      go_wp2_with (at_builtin; refine wpList_append_rd _ rfl _ _ _ rfl (w2.heap.size + 1) 30 i0 _ 2 16 Try.underlying23 hi hz0 hz1 hz2 rfl (by omega) _ evs.length (evCells evs) rfl hown _ A2 raw.length c2 (evCells raw) rfl (evCells_length _) hrr ?c1 ?c2 ?c3 ?c4 ?_)
      case c1 => intro u hu; simp [evCells] at hu; obtain ⟨_, _, _, rfl | rfl⟩ := hu <;> rfl
      case c2 => unfold maxLen; omega
      case c3 => omega
      case c4 => omega
      intro v' w4 hown4 hg4 hat4
      have hblk : ∀ k, (Value.slice Av evs.length cv).ownBlock = some k → w2.heap.size + 1 ≤ k := fun k hk => (hown.lt k hk).1
      obtain ⟨Av4, cv4, rfl⟩ := own_form hown4
      have hE : evCells evs ++ evCells raw = evCells (evs ++ raw) := by simp [evCells]
      rw [hE] at hown4
      have rel : OrdRel w w1.heap.size Av4 (evs ++ raw) 0 0 false w4 := by
        refine ⟨Nat.zero_le _, ⟨1, false, 0, Blk.grown hmg3 hg4 (fun e => by have := hblk _ e.symm; omega), by simp [OrdI]⟩, (Rd.of_own hown4).more (fun b hb => by have := hb.1; omega), ?_, hb1.size⟩
        exact hb3'.grown hg4 hb3'.size (fun k hk => by have := hblk k hk; have := hb2'.size; omega)
      have hN : evs.length + raw.length = (evs ++ raw).length := by simp
      rw [hN]
      have hN60 : (evs ++ raw).length ≤ 120 := by simp; omega
      clear hN hE hblk hat4 hg4 hown4 hown hrr hb3' hmg3 hb2' hi hz0 hz1 hz2
      generalize evs ++ raw = all at *
      go_wp2
      go_loopg [6, 7, 26] all.length (fun gk s6 s7 s26 wr => ∃ (k : Nat) (s : Int) (ab : Bool), gk + k = all.length ∧ s6 = .int .i64 s ∧ s7 = .bool ab ∧ s26 = .int .i64 k ∧ OrdRel w w1.heap.size Av4 all k s ab wr)
      case atStart => exact ⟨0, 0, false, rfl, rfl, rfl, rfl, rel⟩
      case round =>
        clear rel
        rename_i J K aJ aK
        obtain ⟨k, s, ab, hgk, rfl, rfl, rfl, rel⟩ := hrel
        by_cases hk : k < all.length
        · obtain ⟨b, off, rfl, hbm, hcell⟩ := rel.rd.at_ (k := k * 2) (by rw [evCells_length]; omega)

          obtain ⟨⟨ev, n⟩, hkk⟩ : ∃ e, all[k]? = some e := ⟨_, List.getElem?_eq_getElem hk⟩
          have cE := hcell _ _ (evCells_get all k _ hkk).1
          have cN := hcell _ _ (evCells_get all k _ hkk).2
          simp only [← Nat.add_assoc] at cE cN
          have hlt : (k : Int) < (all.length : Int) := by omega
          have hk0 : (0 : Int) ≤ (k : Int) := by omega
          obtain ⟨p, closed, early, hmig, hI⟩ := rel.mig
          have HI := Lib.hid hI
          have hmw := hmig.lt
          clear hcell hI hkk
          go_wp2_with fail
          have hmig1 : MigAt (wr.alloc (.cells #[.int .i64 ev, .int .i64 n] 30)) w1.heap.size (0, 0, 1, 1) p closed early := Blk.alloc hmig _
          have hB1 := Blk.new wr 30 #[.int .i64 ev, .int .i64 n]
          have hrd1 := rel.rd.alloc (.cells #[.int .i64 ev, .int .i64 n] 30)
          have hbel1 := rel.below.alloc rel.below.size (.cells #[.int .i64 ev, .int .i64 n] 30)
          have hnew := rel.new
          generalize hwb : wr.alloc (.cells #[.int .i64 ev, .int .i64 n] 30) = wb at *
          generalize hgb : wr.heap.size = gb at *
          clear hwb hgb hmig rel cE cN
          refine (step_any _ _ _ _ _ _ _ _ hmig1).mono ?_
          rintro e w5 ⟨rfl, hmig5, hg5⟩
          have hB5 := hB1.grown hg5 (by intro e; injection e; omega)
          have cE := hB5.cell' (i := 0) (v := .int .i64 ev) rfl
          have cN := hB5.cell' (i := 1) (v := .int .i64 n) rfl
          have hrd5 := hrd1.grown hg5 (fun b hb e => by injection e; omega)
          have hbel5 : Below w.heap.size w w5 := hbel1.grown hg5 hbel1.size (by rintro k ⟨⟩; omega)
          by_cases ha : afterM p ev n = 0
          · have had : decide (afterM p ev n ≠ 0) = false := by simpa using ha
            rw [had]
            have hmig6 : MigAt w5 w1.heap.size (0, 0, 1, 1) p closed early := by simpa [phaseM, closedM, earlyM, ha] using hmig5
            clear hmig5 had ha
            go_wp2
            go_roundg (gk - 1)
            case measure => omega
            case rel => exact ⟨k + 1, s, ab, by omega, rfl, rfl, by go_num, ⟨by omega, ⟨p, closed, early, hmig6, HI.out⟩, hrd5, hbel5, hnew⟩⟩
          · have had : decide (afterM p ev n ≠ 0) = true := by simpa using ha
            rw [had]
            have hI := ordI_step HI.out ha
            have hmig6 : MigAt w5 w1.heap.size (0, 0, 1, 1) (afterM p ev n) (closedM p ev n closed) (earlyM p ev n early) := by simpa [phaseM, ha] using hmig5
            clear hmig5 had ha HI
            have fin : OrdRel w w1.heap.size (some ⟨b, off, none⟩) all (k + 1) (stageM s ev n) (abM s ev n ab) w5 := ⟨by omega, ⟨_, _, _, hmig6, hI⟩, hrd5, hbel5, hnew⟩
            have FIN := Lib.hid fin
            have HI := Lib.hid hI
            have hc4 := hmig6.c4
            have hc5 := hmig6.c5
            clear hB5 hB1 hrd5 hrd1 hbel5 hbel1 hg5 hmig1 hI fin hmig6 hnew hbm hmw
            generalize afterM p ev n = p' at *
            generalize closedM p ev n closed = closed' at *
            go_upto_block 2 with fail
            go_cut [6, 7] (fun s6 s7 wx => w5 = wx ∧ s6 = .int .i64 (stageM s ev n) ∧ s7 = .bool (abM s ev n ab))
            case first =>
              clear hc4 hc5 HI FIN
              go_wp2
              all_goals
                go_meet
                go_light
                clear cE cN aJ
                first
                  | (simp [stageM, abM, *]; done)
                  | (simp_all [stageM, abM]; done)
            case rest =>
              obtain ⟨rfl, rfl, rfl⟩ := hcut
              clear cE cN
              generalize stageM s ev n = s' at *
              generalize abM s ev n ab = ab' at *
              have hI := HI.out
              unfold OrdI at hI
              obtain ⟨i1, i2, i3, i4, i5, i6, i7, i8, i9, i10, i11, i12, i13⟩ := hI
              clear HI
              by_cases h4 : s' = 4
              · obtain rfl : p' = 6 := by omega
                have hab := i6 (by omega)
                clear i6 i7 i8 i9 i10 i11 i12 i13
                subst h4 hab i5
                go_wp2_with (first | (go_at_call 12; refine (closed_any _ _ _ hc5).mono ?_; rintro e w' ⟨rfl, rfl⟩) | (go_at_call 13; refine (phase_any _ _ _ hc4).mono ?_; rintro e w' ⟨rfl, rfl⟩))
                go_roundg (gk - 1)
                case measure => omega
                case rel => exact ⟨k + 1, 4, false, by omega, rfl, rfl, by go_num, FIN.out⟩
              · have h6 : p' ≠ 6 := by omega
                have e6 : (p' == 6) = false := by simpa using h6
                have e4 : (s' == 4) = false := by simpa using h4
                have h5 : (p' == 5) = true ∧ s' = 3 ∨ (p' == 5) = false := by
                  by_cases h : p' = 5
                  · exact .inl ⟨by simpa using h, by omega⟩
                  · exact .inr (by simpa using h)
                clear i6 i7 i8 i9 i10 i11 i12 i13 h4 h6
                subst i5
                rcases h5 with ⟨h5, rfl⟩ | h5
                all_goals
                  go_wp2_with (first | (go_at_call 12; refine (closed_any _ _ _ hc5).mono ?_; rintro e w' ⟨rfl, rfl⟩) | (go_at_call 13; refine (phase_any _ _ _ hc4).mono ?_; rintro e w' ⟨rfl, rfl⟩))
                  go_roundg (gk - 1)
                  case measure => omega
                  case rel => exact ⟨k + 1, _, ab', by omega, rfl, rfl, by go_num, FIN.out⟩
        · have hge : ¬ ((k : Int) < (all.length : Int)) := by omega
          go_wp2
          go_ret
          exact ⟨rfl, rel.below⟩
    · go_wp2
      go_ret
      exact ⟨rfl, hb1⟩
  · go_wp2
    go_ret
    exact ⟨rfl, hb1⟩
end Go.Proofs.Ytbnmhnffgleciaa
