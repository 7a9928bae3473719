import Derived.Test.YtbnmhnffgleciaaMade
import Derived.Test.YtbnmhnffgleciaaRef31B
import Derived.Test.YtbnmhnffgleciaaAwake31
import Derived.Test.YtbnmhnffgleciaaSplit
namespace Go.Proofs.Ytbnmhnffgleciaa
open Go.RowKit
set_option linter.unusedSimpArgs false
set_option linter.unusedVariables false

theorem wpOp_do {P : Program} {ops : Array Oper} {Q : Exit → Act → World → Prop} {i : Nat} {o : Oper} {K : Act → World → Prop} {a : Act} {w : World} (ho : ops[i]? = some o) (hg : o.guard = none) (h : o.wp P a w K Q) : wpOp P ops Q i K a w := by
  unfold wpOp
  simp only [ho]
  rw [if_pos (by simp [Region.wanted, hg])]
  exact .inl h

structure StepRel (w : World) (gw gm gr : Nat) (who : Int × Int × Int × Int) (A : Option Addr) (evs : List (Int × Int)) (wr : World) : Prop where
  both : ∃ p closed early, MigAt wr gm who p closed early ∧ RMigAt wr gr who p closed early
  rd : Rd wr (fun b => b ≠ gm ∧ b ≠ gr) A (evCells evs)
  below : Below w.heap.size w wr
  whoB : Blk wr gw 35 #[.int .i64 who.1, .int .i64 who.2.1, .int .i64 who.2.2.1, .int .i64 who.2.2.2]
  n1 : w.heap.size ≤ gm
  n2 : w.heap.size ≤ gr
  n3 : gm ≠ gr
  n4 : gw ≠ gm
  n5 : gw ≠ gr

set_option maxHeartbeats 2000000 in
set_option maxRecDepth 100000 in
theorem steps_any (a b d f : Int) (A : Option Addr) (c : Nat) (zs : List Int) (A2 : Option Addr) (c2 : Nat) (raw : List (Int × Int)) (w : World) (hr : Rd w (· < w.heap.size) A (zs.map (Value.int .i64)))
    (hm : zs.length ≤ maxLen) (hr2 : Rd w (· < w.heap.size) A2 (evCells raw)) (hm2 : raw.length ≤ maxLen) :
    Calls Try.prog 5 #[.agg #[.int .i64 a, .int .i64 b, .int .i64 d, .int .i64 f], .slice A zs.length c, .slice A2 raw.length c2] w fun e w' => e = .returned (.bool true) ∧ Below w.heap.size w w' := by
  have HR := Lib.hid hr
  have HR2 := Lib.hid hr2
  clear hr hr2
  have hm3 := hm2
  unfold maxLen at hm3
  have hb0 : Below w.heap.size w (w.alloc (.cells #[.int .i64 a, .int .i64 b, .int .i64 d, .int .i64 f] 35)) := (Below.refl _ _).alloc (Nat.le_refl _) _
  have hE0 := Blk.new w 35 #[.int .i64 a, .int .i64 b, .int .i64 d, .int .i64 f]
  go_enter Try.func5, Try.ntmps5
  go_wp2_with fail
  generalize w.alloc (.cells #[.int .i64 a, .int .i64 b, .int .i64 d, .int .i64 f] 35) = w0 at *
  refine (awake31_any w0).mono ?_
  rintro e w1 ⟨rfl, hb1'⟩
  have hE1 := hE0.below hb1' hE0.lt
  have hs1 : w.heap.size < w1.heap.size := hE1.lt
  have hb1 : Below w.heap.size w w1 := hb0.trans (hb1'.mono hb0.size)
  clear hb1' hb0 hE0
  go_wp2_with fail
  refine (light_mill _ _ _ _ hm).mono ?_
  rintro e w1' ⟨rfl, rfl⟩
  by_cases hl : zs.length ≤ 150
  · by_cases hl2 : raw.length ≤ 60
    · have h60 : decide (60 < (raw.length : Int)) = false := by simp; omega
      have q0 := hE1.cell' (i := 0) (v := .int .i64 a) rfl
      have q1 := hE1.cell' (i := 1) (v := .int .i64 b) rfl
      have q2 := hE1.cell' (i := 2) (v := .int .i64 d) rfl
      have q3 := hE1.cell' (i := 3) (v := .int .i64 f) rfl
      go_wp2
      have HE1 := Lib.hid hE1
      have HB1 := Lib.hid hb1
      clear hE1 hb1
      go_region_held3 (fun w' => w'.cell? ⟨w.heap.size, 0, none⟩ = some (.int .i64 a) ∧ w'.cell? ⟨w.heap.size, 1, none⟩ = some (.int .i64 b) ∧ w'.cell? ⟨w.heap.size, 2, none⟩ = some (.int .i64 d) ∧ w'.cell? ⟨w.heap.size, 3, none⟩ = some (.int .i64 f))
        (first
          | exact ⟨q0, q1, q2, q3⟩
          | exact ⟨(hb2.cell (p := ⟨w.heap.size, 0, none⟩) hs1).trans q0, (hb2.cell (p := ⟨w.heap.size, 1, none⟩) hs1).trans q1, (hb2.cell (p := ⟨w.heap.size, 2, none⟩) hs1).trans q2, (hb2.cell (p := ⟨w.heap.size, 3, none⟩) hs1).trans q3⟩
          | exact ⟨(hb3.cell (p := ⟨w.heap.size, 0, none⟩) (by omega)).trans ((hb2.cell (p := ⟨w.heap.size, 0, none⟩) hs1).trans q0), (hb3.cell (p := ⟨w.heap.size, 1, none⟩) (by omega)).trans ((hb2.cell (p := ⟨w.heap.size, 1, none⟩) hs1).trans q1), (hb3.cell (p := ⟨w.heap.size, 2, none⟩) (by omega)).trans ((hb2.cell (p := ⟨w.heap.size, 2, none⟩) hs1).trans q2), (hb3.cell (p := ⟨w.heap.size, 3, none⟩) (by omega)).trans ((hb2.cell (p := ⟨w.heap.size, 3, none⟩) hs1).trans q3)⟩)
        (first
          | (go_at_call 9; refine (migNew_any _ _ _ _ _).mono ?_; rintro e w2 ⟨rfl, hmg2, hb2⟩; have hs2 := Nat.lt_of_lt_of_le hs1 hb2.size)
          | (go_at_call 15; refine (rmigNew_any _ _ _ _ _).mono ?_; rintro e w3 ⟨rfl, hrg3, hb3⟩))
      have hs3 : w1.heap.size < w2.heap.size := hmg2.lt
      have hs4 : w2.heap.size < w3.heap.size := hrg3.lt
      have hmg3 : MigAt w3 w1.heap.size (a, b, d, f) 1 false 0 := Blk.below hmg2 hb3 hs3
      have hE1d : Blk w1.drew w.heap.size 35 #[.int .i64 a, .int .i64 b, .int .i64 d, .int .i64 f] := HE1.out
      have hwho3 := (hE1d.below hb2 hs1).below hb3 (by omega)
      have hb3' : Below w.heap.size w w3 := HB1.out.drew.trans ((hb2.mono (Nat.le_of_lt hs1)).trans (hb3.mono (by omega)))
      clear hE1d
      clear hmg2 hb2 hb3 q0 q1 q2 q3 HE1 HB1
      obtain ⟨i0, hi, hz0, hz1, hz2⟩ := info_parts evInfo
      have hblk4 := Blk.new w3 30 #[.int .i64 0, .int .i64 0]
      have hg4 : w3.grownBy (w3.alloc (.cells #[.int .i64 0, .int .i64 0] 30)) none := grown_alloc (grown_refl _ _) _
      have hs5 : (w3.alloc (.cells #[.int .i64 0, .int .i64 0] 30)).heap.size = w3.heap.size + 1 := by simp
      have HS5 := Lib.hid hs5
      have HBLK := Lib.hid hblk4
      have HG4 := Lib.hid hg4
      clear hblk4 hg4 hs5
      go_wp2_with fail
      generalize w3.alloc (.cells #[.int .i64 0, .int .i64 0] 30) = w4 at *
      have hs5 := HS5.out
      have hb4 : Below w.heap.size w w4 := hb3'.grown HG4.out hb3'.size (by rintro k ⟨⟩)
      have hr4 : Rd w4 (· < w4.heap.size) A (zs.map (Value.int .i64)) := (HR.out.below hb4 (fun b h => h)).more (fun b h => by have := hb4.size; omega)
      refine (made_any A c zs w4 (by omega) hr4).mono ?_
      rintro e w5 ⟨v5, rfl, evs, hlen, hown5, htape, hb5⟩
      obtain ⟨Av, cv, rfl⟩ := own_form hown5
      have hmg5 : MigAt w5 w1.heap.size (a, b, d, f) 1 false 0 := Blk.below (Blk.grown hmg3 HG4.out (by simp)) hb5 (by omega)
      have hrg5 : RMigAt w5 w2.heap.size (a, b, d, f) 1 false 0 := Blk.below (Blk.grown hrg3 HG4.out (by simp)) hb5 (by omega)
      have hwho5 := (hwho3.grown HG4.out (by simp)).below hb5 (by omega)
      have hb5' : Below w.heap.size w w5 := hb4.trans (hb5.mono hb4.size)
      have hraw5 : Rd w5 (· < w.heap.size) A2 (evCells raw) := HR2.out.below hb5' (fun b h => h)
      have hown4 : w5.ownsRow w3.heap.size 30 2 (.slice (some ⟨w3.heap.size, 0, none⟩) 1 1) 1 [.int .i64 0, .int .i64 0] := by
        refine own_below (w := w4) ⟨rfl, .inr ⟨w3.heap.size, 1, #[.int .i64 0, .int .i64 0], rfl, Nat.le_refl _, HBLK.out, Nat.le_refl _, by unfold maxLen; omega, rfl, rfl⟩⟩ hb5 ?_
        intro k hk
        simp [Value.ownBlock] at hk
        omega
      have hsrc := Rd.of_own hown5
      have hsz5 : w4.heap.size ≤ w5.heap.size := hb5.size
      have HM5 := Lib.hid hmg5
      have HR5 := Lib.hid hrg5
      have HW5 := Lib.hid hwho5
      have HB5 := Lib.hid hb5'
      have HX5 := Lib.hid hraw5
      have HO4 := Lib.hid hown4
      have HO5 := Lib.hid hown5
      clear htape hr4 HR HR2 hb5 hmg3 hrg3 hwho3 hb3' hb4 HBLK HG4 hmg5 hrg5 hwho5 hb5' hraw5 hown4 hown5 HS5
      go_wp2_with (at_builtin; refine wpList_append_rd _ rfl (.tmp 40) (.tmp 42) _ rfl w3.heap.size 30 i0 _ 2 16 Try.underlying23 hi hz0 hz1 hz2 rfl (by omega) _ 1 _ rfl HO4.out _ Av evs.length cv (evCells evs) rfl (evCells_length _) hsrc ?c1 ?c2 ?c3 ?c4 ?_)
      case c1 => intro u hu; simp [evCells] at hu; obtain ⟨_, _, _, rfl | rfl⟩ := hu <;> rfl
      case c2 => unfold maxLen; omega
      case c3 => omega
      case c4 => omega
      intro v6 w6 hown6 hg6 hat6
      obtain ⟨Av6, cv6, rfl⟩ := own_form hown6
      have hb45 : ∀ k, (Value.slice (some ⟨w3.heap.size, 0, none⟩) 1 1).ownBlock = some k → w3.heap.size ≤ k := fun k hk => by simp [Value.ownBlock] at hk; omega
      have hm6 : MigAt w6 w1.heap.size (a, b, d, f) 1 false 0 := Blk.grown HM5.out hg6 (fun e => by have := hb45 _ e.symm; omega)
      have hr6 : RMigAt w6 w2.heap.size (a, b, d, f) 1 false 0 := Blk.grown HR5.out hg6 (fun e => by have := hb45 _ e.symm; omega)
      have hw6 := HW5.out.grown hg6 (fun e => by have := hb45 _ e.symm; omega)
      have hb6 : Below w.heap.size w w6 := HB5.out.grown hg6 HB5.out.size (fun k hk => by have := hb45 k hk; omega)
      have hraw6 : Rd w6 (· < w.heap.size) A2 (evCells raw) := HX5.out.grown hg6 (fun b hb e => by have := hb45 _ e.symm; omega)
      have hsz6 : w3.heap.size ≤ w6.heap.size := Nat.le_trans (by omega) hg6.size
      have HO6 := Lib.hid hown6
      have HM6 := Lib.hid hm6
      have HR6 := Lib.hid hr6
      have HW6 := Lib.hid hw6
      have HB6 := Lib.hid hb6
      clear hown6 hg6 hat6 hb45 hm6 hr6 hw6 hb6 HM5 HR5 HW5 HB5 HX5 HO4 HO5 hsrc
      go_wp2_with (at_builtin; refine wpList_append_rd _ rfl (.tmp 43) (.tmp 44) _ rfl w3.heap.size 30 i0 _ 2 16 Try.underlying23 hi hz0 hz1 hz2 rfl (by omega) _ (1 + evs.length) _ rfl HO6.out _ A2 raw.length c2 (evCells raw) rfl (evCells_length _) hraw6 ?d1 ?d2 ?d3 ?d4 ?_)
      case d1 => intro u hu; simp [evCells] at hu; obtain ⟨_, _, _, rfl | rfl⟩ := hu <;> rfl
      case d2 => unfold maxLen; omega
      case d3 => omega
      case d4 => omega
      intro v7 w7 hown7 hg7 hat7
      obtain ⟨Av7, cv7, rfl⟩ := own_form hown7
      have hb67 : ∀ k, (Value.slice Av6 (1 + evs.length) cv6).ownBlock = some k → w3.heap.size ≤ k := fun k hk => (HO6.out.lt k hk).1
      have hE : Value.int .i64 0 :: Value.int .i64 0 :: (evCells evs ++ evCells raw) = evCells ((0, 0) :: (evs ++ raw)) := by simp [evCells]
      rw [hE] at hown7
      have rel : StepRel w w.heap.size w1.heap.size w2.heap.size (a, b, d, f) Av7 ((0, 0) :: (evs ++ raw)) w7 := by
        refine ⟨⟨1, false, 0, Blk.grown HM6.out hg7 (fun e => by have := hb67 _ e.symm; omega), Blk.grown HR6.out hg7 (fun e => by have := hb67 _ e.symm; omega)⟩, (Rd.of_own hown7).more (fun b hb => by have := hb.1; omega), ?_,
          HW6.out.grown hg7 (fun e => by have := hb67 _ e.symm; omega), by omega, by omega, by omega, by omega, by omega⟩
        exact HB6.out.grown hg7 HB6.out.size (fun k hk => by have := hb67 k hk; omega)
      have hN : 1 + evs.length + raw.length = ((0, 0) :: (evs ++ raw)).length := by simp; omega
      rw [hN]
      have hN60 : ((0, 0) :: (evs ++ raw)).length ≤ 121 := by simp; omega
      clear hN hE hb67 hat7 hg7 hown7 HO6 HM6 HR6 HW6 HB6 hraw6 hi hz0 hz1 hz2
      generalize (0, 0) :: (evs ++ raw) = all at *
      go_wp2
      go_loopg [47] all.length (fun gk s47 wr => ∃ (k : Nat), gk + k = all.length ∧ s47 = .int .i64 k ∧ StepRel w w.heap.size w1.heap.size w2.heap.size (a, b, d, f) Av7 all wr)
      case atStart => exact ⟨0, rfl, rfl, rel⟩
      case round =>
        clear rel
        rename_i J K aJ aK
        obtain ⟨k, hgk, rfl, rel⟩ := hrel
        by_cases hk : k < all.length
        · obtain ⟨b7, off, rfl, hbm, hcell⟩ := rel.rd.at_ (k := k * 2) (by rw [evCells_length]; omega)
          obtain ⟨⟨ev, n⟩, hkk⟩ : ∃ e, all[k]? = some e := ⟨_, List.getElem?_eq_getElem hk⟩
          have cE := hcell _ _ (evCells_get all k _ hkk).1
          have cN := hcell _ _ (evCells_get all k _ hkk).2
          simp only [← Nat.add_assoc] at cE cN
          have hlt : (k : Int) < (all.length : Int) := by omega
          have hk0 : (0 : Int) ≤ (k : Int) := by omega
          clear hcell hkk
          go_upto_region 9 with fail
          obtain ⟨⟨p, closed, early, hmig, hrm⟩, hrd, hbel, hwho, n1, n2, n3, n4, n5⟩ := rel
          have hmig1 : MigAt (wr.alloc (.cells #[.int .i64 ev, .int .i64 n] 30)).drew w1.heap.size (a, b, d, f) p closed early := Blk.alloc hmig _
          have hrm1 : RMigAt (wr.alloc (.cells #[.int .i64 ev, .int .i64 n] 30)).drew w2.heap.size (a, b, d, f) p closed early := Blk.alloc hrm _
          have hB1 : Blk (wr.alloc (.cells #[.int .i64 ev, .int .i64 n] 30)).drew wr.heap.size 30 #[.int .i64 ev, .int .i64 n] := Blk.new wr 30 #[.int .i64 ev, .int .i64 n]
          have hrd1 : Rd (wr.alloc (.cells #[.int .i64 ev, .int .i64 n] 30)).drew (fun b => b ≠ w1.heap.size ∧ b ≠ w2.heap.size) (some ⟨b7, off, none⟩) (evCells all) := hrd.alloc _
          have hbel1 : Below w.heap.size w (wr.alloc (.cells #[.int .i64 ev, .int .i64 n] 30)).drew := (hbel.alloc hbel.size _).drew
          have hwho1 : Blk (wr.alloc (.cells #[.int .i64 ev, .int .i64 n] 30)).drew w.heap.size 35 #[.int .i64 a, .int .i64 b, .int .i64 d, .int .i64 f] := hwho.alloc _
          have hm1 : w1.heap.size < wr.heap.size := hmig.lt
          have hm2' : w2.heap.size < wr.heap.size := hrm.lt
          refine wp_region_split 13 (by kernel_rfl) (by kernel_rfl) ?_
          simp only [List.take_succ_cons, List.take_zero, List.drop_succ_cons, List.drop_zero]
          change wpAny _ _ _ _ _ _ _ (wr.alloc (.cells #[.int .i64 ev, .int .i64 n] 30)).drew
          clear hmig hrm hrd hbel hwho cE cN
          generalize (wr.alloc (.cells #[.int .i64 ev, .int .i64 n] 30)).drew = wd at *
          generalize wr.heap.size = ge at *
          have hS : wd.cell? ⟨ge, 0, none⟩ = some (.int .i64 ev) ∧ wd.cell? ⟨ge, 1, none⟩ = some (.int .i64 n) := ⟨hB1.cell' rfl, hB1.cell' rfl⟩
          refine wpAny_of_held (S := fun w' : World => w'.cell? ⟨ge, 0, none⟩ = some (.int .i64 ev) ∧ w'.cell? ⟨ge, 1, none⟩ = some (.int .i64 n)) _ _ _ _ ?_
          refine wpAnyH_take (i := 0) (v := .pointer (some ⟨w1.heap.size, 0, none⟩)) rfl (by kernel_rfl) (by kernel_rfl) (by kernel_rfl) (fun _ _ _ h => h) (.inl ⟨rfl, fun w' hS => by obtain ⟨hE, hN⟩ := hS; go_simp⟩) hS ?_
          refine wpAnyH_take (i := 1) (v := .pointer (some ⟨ge, 0, none⟩)) rfl (by kernel_rfl) (by kernel_rfl) (by kernel_rfl) (fun _ _ _ h => h) (.inl ⟨rfl, fun w' hS => by obtain ⟨hE, hN⟩ := hS; go_simp⟩) hS ?_
          refine wpAnyH_take (i := 2) (v := .int .i64 ev) rfl (by kernel_rfl) (by kernel_rfl) (by kernel_rfl) (fun _ _ _ h => h) (.inl ⟨rfl, fun w' hS => by obtain ⟨hE, hN⟩ := hS; go_simp⟩) hS ?_
          refine wpAnyH_take (i := 3) (v := .pointer (some ⟨ge, 1, none⟩)) rfl (by kernel_rfl) (by kernel_rfl) (by kernel_rfl) (fun _ _ _ h => h) (.inl ⟨rfl, fun w' hS => by obtain ⟨hE, hN⟩ := hS; go_simp⟩) hS ?_
          refine wpAnyH_take (i := 4) (v := .int .i64 n) rfl (by kernel_rfl) (by kernel_rfl) (by kernel_rfl) (fun _ _ _ h => h) (.inl ⟨rfl, fun w' hS => by obtain ⟨hE, hN⟩ := hS; go_simp⟩) hS ?_
          refine wpAnyH_take (i := 6) (v := .pointer (some ⟨w2.heap.size, 0, none⟩)) rfl (by kernel_rfl) (by kernel_rfl) (by kernel_rfl) (fun _ _ _ h => h) (.inl ⟨rfl, fun w' hS => by obtain ⟨hE, hN⟩ := hS; go_simp⟩) hS ?_
          refine wpAnyH_take (i := 7) (v := .pointer (some ⟨ge, 0, none⟩)) rfl (by kernel_rfl) (by kernel_rfl) (by kernel_rfl) (fun _ _ _ h => h) (.inl ⟨rfl, fun w' hS => by obtain ⟨hE, hN⟩ := hS; go_simp⟩) hS ?_
          refine wpAnyH_take (i := 8) (v := .int .i64 ev) rfl (by kernel_rfl) (by kernel_rfl) (by kernel_rfl) (fun _ _ _ h => h) (.inl ⟨rfl, fun w' hS => by obtain ⟨hE, hN⟩ := hS; go_simp⟩) hS ?_
          refine wpAnyH_take (i := 9) (v := .pointer (some ⟨ge, 1, none⟩)) rfl (by kernel_rfl) (by kernel_rfl) (by kernel_rfl) (fun _ _ _ h => h) (.inl ⟨rfl, fun w' hS => by obtain ⟨hE, hN⟩ := hS; go_simp⟩) hS ?_
          refine wpAnyH_take (i := 10) (v := .int .i64 n) rfl (by kernel_rfl) (by kernel_rfl) (by kernel_rfl) (fun _ _ _ h => h) (.inl ⟨rfl, fun w' hS => by obtain ⟨hE, hN⟩ := hS; go_simp⟩) hS ?_
          refine wpAnyH_all (rs := [5]) (by kernel_rfl) (by simp) ?_
          intro i5 hi5
          obtain rfl : i5 = 5 := by simpa using hi5
          refine wpOp_do rfl rfl ?_
          go_simp
          refine (step_any _ _ _ _ _ _ _ _ hmig1).mono ?_
          rintro e w5 ⟨rfl, hmig5, hg5⟩
          generalize hsb : decide (afterM p ev n ≠ 0) = sb
          have HSB := Lib.hid hsb
          clear hsb
          have hB5 := hB1.grown hg5 (by intro e; injection e; omega)
          have hrm5 : RMigAt w5 w2.heap.size (a, b, d, f) p closed early := Blk.grown hrm1 hg5 (by intro e; injection e; omega)
          have hrd5 := hrd1.grown hg5 (fun b hb e => by injection e; omega)
          have hbel5 : Below w.heap.size w w5 := hbel1.grown hg5 hbel1.size (by rintro k ⟨⟩; omega)
          have hwho5 := hwho1.grown hg5 (by intro e; injection e; omega)
          clear hmig1 hg5 hB1 hrm1 hrd1 hbel1 hwho1 hS
          refine ⟨⟨hB5.cell' rfl, hB5.cell' rfl⟩, ?_⟩
          refine wpAnyH_all (rs := [11]) (by kernel_rfl) (by simp) ?_
          intro i5 hi5
          obtain rfl : i5 = 11 := by simpa using hi5
          refine wpOp_do rfl rfl ?_
          go_simp
          refine (rstep_any _ _ _ _ _ _ _ _ hrm5).mono ?_
          rintro e w6 ⟨rfl, hrm6, hg6⟩
          rw [HSB.out]
          have hB6 := hB5.grown hg6 (by intro e; injection e; omega)
          have hmig6 := Blk.grown hmig5 hg6 (by intro e; injection e; omega)
          have hrd6 := hrd5.grown hg6 (fun b hb e => by injection e; omega)
          have hbel6 : Below w.heap.size w w6 := hbel5.grown hg6 hbel5.size (by rintro k ⟨⟩; omega)
          have hwho6 := hwho5.grown hg6 (by intro e; injection e; omega)
          clear hmig5 hg6 hB5 hrm5 hrd5 hbel5 hwho5
          have hS6 : w6.cell? ⟨ge, 0, none⟩ = some (.int .i64 ev) ∧ w6.cell? ⟨ge, 1, none⟩ = some (.int .i64 n) := ⟨hB6.cell' rfl, hB6.cell' rfl⟩
          refine ⟨hS6, ?_⟩
          clear HSB
          generalize phaseM p ev n = p' at *
          generalize closedM p ev n closed = closed' at *
          generalize earlyM p ev n early = early' at *
          refine wpAnyH_take (i := 12) (v := .bool false) rfl (by kernel_rfl) (by kernel_rfl) (by kernel_rfl) (fun _ _ _ h => h) (.inl ⟨rfl, fun w' hS => by go_simp⟩) hS6 ?_
          refine wpAnyH_done (by kernel_rfl) ?_ _
          have m4 : w6.cell? ⟨w1.heap.size, 4, none⟩ = some (.int .i64 p') := MigAt.c4 hmig6
          have m5 : w6.cell? ⟨w1.heap.size, 5, none⟩ = some (.bool closed') := MigAt.c5 hmig6
          have m6 : w6.cell? ⟨w1.heap.size, 6, none⟩ = some (.int .i64 early') := MigAt.c6 hmig6
          have r4 := hrm6.c4
          have r5 := hrm6.c5
          have r6 := hrm6.c6
          have HM6 := Lib.hid hmig6
          have HR6 := Lib.hid hrm6
          have HD6 := Lib.hid hrd6
          have HB6 := Lib.hid hbel6
          have HW6 := Lib.hid hwho6
          clear hmig6 hrm6 hrd6 hbel6 hwho6 hB6 hS6
          refine ⟨fun w' => ∃ n, w' = w6.drewN n, ⟨0, rfl⟩, ?_⟩
          repeat (quiet_step ((first
            | (go_at_call 13; exact quiet_left (phase_any _ _ _ m4))
            | (go_at_call 14; exact quiet_left (task_any _ _ _ m4))
            | (go_at_call 12; exact quiet_left (closed_any _ _ _ m5))
            | (go_at_call 18; exact quiet_left (earliest_any _ _ _ m6))
            | (go_at_call 17; exact quiet_left (rtask_any _ _)))))
          refine wpQuiet_nil ?_
          intro _ hw'
          obtain ⟨nq, hw''⟩ := hw'
          subst hw''
          have fin : StepRel w w.heap.size w1.heap.size w2.heap.size (a, b, d, f) (some ⟨b7, off, none⟩) all (w6.drewN nq) := ⟨⟨p', closed', early', HM6.out, HR6.out⟩, HD6.out, below_drewN HB6.out _, HW6.out, n1, n2, n3, n4, n5⟩
          clear HM6 HR6 HD6 HB6 HW6 m4 m5 m6 r4 r5 r6
          generalize w6.drewN nq = wq at *
          go_wp2
          go_roundg (gk - 1)
          case measure => omega
          case rel => exact ⟨k + 1, by omega, by go_num, fin⟩
        · have hge : ¬ ((k : Int) < (all.length : Int)) := by omega
          obtain ⟨⟨p, closed, early, hmig, hrm⟩, hrd, hbel, hwho, _, _, _, _, _⟩ := rel
          have c0 := hmig.c0
          have c1 := hmig.c1
          have c2' := hmig.c2
          have q0 := hwho.cell' (i := 0) (v := .int .i64 a) rfl
          have q1 := hwho.cell' (i := 1) (v := .int .i64 b) rfl
          have q2 := hwho.cell' (i := 2) (v := .int .i64 d) rfl
          clear hmig hrm hrd hwho aJ aK
          simp only at c0 c1 c2'
          go_wp2
          go_quiet ((first
            | (go_at_call 19; exact quiet_left (tenant_any _ _ _ c0))
            | (go_at_call 20; exact quiet_left (from_any _ _ _ c1))
            | (go_at_call 21; exact quiet_left (to_any _ _ _ c2'))))
          go_wp2
          go_ret
          exact ⟨by simp, below_drewN hbel _⟩
    · go_wp2
      go_ret
      exact ⟨rfl, hb1⟩
  · go_wp2
    go_ret
    exact ⟨rfl, hb1⟩
end Go.Proofs.Ytbnmhnffgleciaa
