import Derived.Test.YtbnmhnffgleciaaMade
import Derived.Test.YtbnmhnffgleciaaRef31B
import Derived.Test.YtbnmhnffgleciaaAwake31
namespace Go.Proofs.Ytbnmhnffgleciaa
open Go.RowKit
set_option linter.unusedSimpArgs false
set_option linter.unusedVariables false

/-- A migration and a row of events, in worlds that only grow. -/
structure LoopRel (w : World) (m e0 : Nat) (ev n : Int) (who : Int × Int × Int × Int) (I : Int → Bool → Prop) (A : Option Addr) (evs : List (Int × Int)) (wr : World) : Prop where
  mig : ∃ p closed early, MigAt wr m who p closed early ∧ I p closed
  rd : Rd wr (fun b => b ≠ m) A (evCells evs)
  below : Below w.heap.size w wr
  new : w.heap.size ≤ m
  ev : Blk wr e0 30 #[.int .i64 ev, .int .i64 n]
  evNe : e0 ≠ m

set_option maxHeartbeats 1000000 in
set_option maxRecDepth 100000 in
theorem copies_any (A : Option Addr) (c : Nat) (zs : List Int) (ev n : Int) (w : World) (hr : Rd w (· < w.heap.size) A (zs.map (Value.int .i64))) (hm : zs.length ≤ maxLen) :
    Calls Try.prog 6 #[.slice A zs.length c, .agg #[.int .i64 ev, .int .i64 n]] w fun e w' => e = .returned (.bool true) ∧ Below w.heap.size w w' := by
  have HR := Lib.hid hr
  clear hr
  have hb0 : Below w.heap.size w (w.alloc (.cells #[.int .i64 ev, .int .i64 n] 30)) := (Below.refl _ _).alloc (Nat.le_refl _) _
  have hE0 := Blk.new w 30 #[.int .i64 ev, .int .i64 n]
  go_enter Try.func6, Try.ntmps6
  go_wp2_with fail
  generalize w.alloc (.cells #[.int .i64 ev, .int .i64 n] 30) = w0 at *
  refine (awake31_any w0).mono ?_
  rintro e w1 ⟨rfl, hb1'⟩
  have hE1 := hE0.below hb1' hE0.lt
  have hs1 : w.heap.size < w1.heap.size := hE1.lt
  have hb1 : Below w.heap.size w w1 := hb0.trans (hb1'.mono hb0.size)
  clear hb1' hb0 hE0
  go_wp2_with fail
  refine (light_mill _ _ _ _ hm).mono ?_
  rintro e w1' ⟨rfl, rfl⟩
  by_cases hl : zs.length ≤ 150
  · go_wp2_with fail
    refine (migNew_any _ _ _ _ _).mono ?_
    rintro e w2 ⟨rfl, hm2, hb2⟩
    go_wp2_with fail
    have hb2' : Below w.heap.size w w2 := hb1.trans (hb2.mono hb1.size)
    have hr2 : Rd w2 (· < w2.heap.size) A (zs.map (Value.int .i64)) := (HR.out.below hb2' (fun b h => h)).more (fun b h => by have := hb2'.size; omega)
    refine (made_any A c zs w2 (by omega) hr2).mono ?_
    rintro e w3 ⟨v, rfl, evs, hlen, hown, htape, hb3⟩
    have hs2 : w1.heap.size < w2.heap.size := hm2.lt
    have hb3' : Below w.heap.size w w3 := hb2'.trans (hb3.mono hb2'.size)
    obtain ⟨Av, cv, rfl⟩ := own_form hown
    have rel : LoopRel w w1.heap.size w.heap.size ev n (4, 5, 6, 7) (fun _ _ => True) Av evs w3 := by
      refine ⟨⟨1, false, 0, Blk.below hm2 hb3 hs2, trivial⟩, (Rd.of_own hown).more (fun b hb => by have := hb.1; omega), hb3', hb1.size, (hE1.below hb2 hs1).below hb3 (by omega), by omega⟩
    clear htape hr2 HR hb3 hm2 hown hb3' hb2' hE1 hb2
    go_wp2
    go_loopg [20] evs.length (fun gk s20 wr => ∃ (k : Nat), gk + k = evs.length ∧ s20 = .int .i64 k ∧ LoopRel w w1.heap.size w.heap.size ev n (4, 5, 6, 7) (fun _ _ => True) Av evs wr)
    case atStart => exact ⟨0, rfl, rfl, rel⟩
    case round =>
      clear rel
      rename_i J K aJ aK
      obtain ⟨k, hgk, rfl, rel⟩ := hrel
      by_cases hk : k < evs.length
      · obtain ⟨b, off, rfl, hbm, hcell⟩ := rel.rd.at_ (k := k * 2) (by rw [evCells_length]; omega)
        obtain ⟨⟨ev', n'⟩, hkk⟩ : ∃ e, evs[k]? = some e := ⟨_, List.getElem?_eq_getElem hk⟩
        have cE := hcell _ _ (evCells_get evs k _ hkk).1
        have cN := hcell _ _ (evCells_get evs k _ hkk).2
        simp only [← Nat.add_assoc] at cE cN
        have hlt : (k : Int) < (evs.length : Int) := by omega
        have hk0 : (0 : Int) ≤ (k : Int) := by omega
        obtain ⟨p, closed, early, hmig, _⟩ := rel.mig
        clear hcell hkk
        go_wp2_with fail
        have hmig1 : MigAt (wr.alloc (.cells #[.int .i64 ev', .int .i64 n'] 30)) w1.heap.size (4, 5, 6, 7) p closed early := Blk.alloc hmig _
        refine (step_any _ _ _ _ _ _ _ _ hmig1).mono ?_
        rintro e w5 ⟨rfl, hmig5, hg5⟩
        have rel5 : LoopRel w w1.heap.size w.heap.size ev n (4, 5, 6, 7) (fun _ _ => True) (some ⟨b, off, none⟩) evs w5 :=
          ⟨⟨_, _, _, hmig5, trivial⟩, (rel.rd.alloc _).grown hg5 (fun b hb e => by injection e; omega), (rel.below.alloc rel.below.size _).grown hg5 (by simp; have := rel.below.size; omega) (by rintro k ⟨⟩; omega), rel.new,
            (rel.ev.alloc _).grown hg5 (by intro e; injection e; have := rel.evNe; omega), rel.evNe⟩
        clear rel hmig1 hmig hmig5 hg5 cE cN
        go_wp2
        go_roundg (gk - 1)
        case measure => omega
        case rel => exact ⟨k + 1, by omega, by go_num, rel5⟩
      · have hge : ¬ ((k : Int) < (evs.length : Int)) := by omega
        obtain ⟨⟨p, closed, early, hmig, _⟩, hrd, hbel, hnew, hev, hne⟩ := rel
        have hc4 := hmig.c4
        go_wp2_with fail
        refine (phase_any _ _ _ hc4).mono ?_
        rintro e w' ⟨rfl, rfl⟩
        go_wp2_with fail
        refine (migCopy_any _ _ _ _ _ _ hmig).mono ?_
        rintro e w5 ⟨rfl, hcop, hbc⟩
        have hmig5 : MigAt w5 w1.heap.size (4, 5, 6, 7) p closed early := Blk.below hmig hbc hmig.lt
        have hev5 := hev.below hbc hev.lt
        have hbel5 : Below w.heap.size w w5 := hbel.trans (hbc.mono hbel.size)
        have hsz : w1.heap.size < wr.heap.size := hmig.lt
        have hsz2 : wr.heap.size < w5.heap.size := hcop.lt
        clear hmig hev hrd hbel hbc hc4
        have d0 := hcop.c0
        have d1 := hcop.c1
        have d2 := hcop.c2
        have d4 := hcop.c4
        have d5 := hcop.c5
        have d6 := hcop.c6
        have m4 := hmig5.c4
        have m5 := hmig5.c5
        have m6 := hmig5.c6
        have v0 := hev5.cell' (i := 0) (v := .int .i64 ev) rfl
        have v1 := hev5.cell' (i := 1) (v := .int .i64 n) rfl
        have HM := Lib.hid hmig5
        have HC := Lib.hid hcop
        have HE := Lib.hid hev5
        have HB := Lib.hid hbel5
        clear hmig5 hcop hev5 hbel5
        generalize hgc : wr.heap.size = gc at *
        clear hgc
        go_upto_region 15 with (first
          | (go_at_call 13; ((with_reducible refine (phase_any _ _ _ d4).mono ?_); rintro e w' ⟨rfl, rfl⟩))
          | (go_at_call 19; ((with_reducible refine (tenant_any _ _ _ d0).mono ?_); rintro e w' ⟨rfl, rfl⟩))
          | (go_at_call 20; ((with_reducible refine (from_any _ _ _ d1).mono ?_); rintro e w' ⟨rfl, rfl⟩))
          | (go_at_call 21; ((with_reducible refine (to_any _ _ _ d2).mono ?_); rintro e w' ⟨rfl, rfl⟩))
          | (go_at_call 12; ((with_reducible refine (closed_any _ _ _ d5).mono ?_); rintro e w' ⟨rfl, rfl⟩))
          | (go_at_call 12; ((with_reducible refine (closed_any _ _ _ m5).mono ?_); rintro e w' ⟨rfl, rfl⟩))
          | (go_at_call 18; ((with_reducible refine (earliest_any _ _ _ d6).mono ?_); rintro e w' ⟨rfl, rfl⟩))
          | (go_at_call 18; ((with_reducible refine (earliest_any _ _ _ m6).mono ?_); rintro e w' ⟨rfl, rfl⟩)))
        clear d0 d1 d2 d4 d5 d6 m4 m5 m6
        go_wp2_with fail
        refine (refAfter_any _ _ _ _).mono ?_
        rintro e w6 ⟨rfl, hb6⟩
        rw [refAfter_eq]
        have hcop6 : MigAt w6 gc (4, 5, 6, 7) p closed early := Blk.below HC.out hb6 hsz2
        have hmig6 : MigAt w6 w1.heap.size (4, 5, 6, 7) p closed early := Blk.below HM.out hb6 (by omega)
        have hev6 := HE.out.below hb6 (by omega)
        have hbel6 : Below w.heap.size w w6 := HB.out.trans (hb6.mono HB.out.size)
        have v0 := hev6.cell' (i := 0) (v := .int .i64 ev) rfl
        have v1 := hev6.cell' (i := 1) (v := .int .i64 n) rfl
        clear HC HM HE HB hb6 hev6
        have HM := Lib.hid hmig6
        have HB := Lib.hid hbel6
        have hstep := step_any gc (4, 5, 6, 7) p ev n closed early w6 hcop6
        have HS := Lib.hid hstep
        clear hmig6 hbel6 hcop6 hstep
        go_wp2_with fail
        refine HS.out.mono ?_
        rintro e w7 ⟨rfl, hcop7, hg7⟩
        have hmig7 : MigAt w7 w1.heap.size (4, 5, 6, 7) p closed early := Blk.grown HM.out hg7 (by intro e; injection e; omega)
        have hbel7 : Below w.heap.size w w7 := HB.out.grown hg7 HB.out.size (by rintro k ⟨⟩; omega)
        have m4 := hmig7.c4
        have d4 := hcop7.c4
        clear HM HB HS hmig7 hcop7 hg7 v0 v1
        unfold phaseM at d4
        generalize afterM p ev n = a at *
        by_cases ha : a = 0
        · subst ha
          rw [if_neg (by simp)] at d4
          go_wp2_with (first
            | (go_at_call 13; ((with_reducible refine (phase_any _ _ _ m4).mono ?_); rintro e w' ⟨rfl, rfl⟩))
            | (go_at_call 13; ((with_reducible refine (phase_any _ _ _ d4).mono ?_); rintro e w' ⟨rfl, rfl⟩)))
          go_ret
          exact ⟨rfl, hbel7⟩
        · rw [if_pos ha] at d4
          have e0 : (a == 0) = false := by simpa using ha
          have e1 : (a != 0) = true := by simpa using ha
          have e2 : decide (a ≠ 0) = true := by simpa using ha
          rw [e2]
          clear ha
          go_wp2_with (first
            | (go_at_call 13; ((with_reducible refine (phase_any _ _ _ m4).mono ?_); rintro e w' ⟨rfl, rfl⟩))
            | (go_at_call 13; ((with_reducible refine (phase_any _ _ _ d4).mono ?_); rintro e w' ⟨rfl, rfl⟩)))
          go_ret
          exact ⟨rfl, hbel7⟩
  · go_wp2
    go_ret
    exact ⟨rfl, hb1⟩
theorem copies_law (A : Option Addr) (c : Nat) (zs : List Int) (z : Int × Int) (w : World) (hr : Rd w (· < w.heap.size) A (zs.map (Value.int .i64))) (hm : zs.length ≤ maxLen) (hz : (Lit.int .i64 z.1).wf = true ∧ (Lit.int .i64 z.2).wf = true) :
    Calls Try.prog 6 #[.slice A zs.length c, .agg #[.int .i64 z.1, .int .i64 z.2]] w fun e w' => e = .returned (.bool true) ∧ Below w.heap.size w w' := copies_any A c zs z.1 z.2 w hr hm
end Go.Proofs.Ytbnmhnffgleciaa
