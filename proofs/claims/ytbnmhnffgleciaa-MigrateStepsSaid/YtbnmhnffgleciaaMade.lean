import Derived.Test.YtbnmhnffgleciaaTape
namespace Go.Proofs.Ytbnmhnffgleciaa
open Go.RowKit
set_option linter.unusedSimpArgs false
set_option linter.unusedVariables false

/-- The cells of events. -/
def evCells (l : List (Int × Int)) : List Value := l.flatMap fun e => [.int .i64 e.1, .int .i64 e.2]
theorem evCells_length (l : List (Int × Int)) : (evCells l).length = l.length * 2 := by
  induction l with
  | nil => rfl
  | cons a l ih => simp [evCells] at ih ⊢; omega
theorem evCells_snoc (l : List (Int × Int)) (a b : Int) : evCells l ++ [.int .i64 a, .int .i64 b] = evCells (l ++ [(a, b)]) := by simp [evCells]
theorem evCells_get (l : List (Int × Int)) : ∀ (k : Nat) (e : Int × Int), l[k]? = some e → (evCells l)[k * 2]? = some (.int .i64 e.1) ∧ (evCells l)[k * 2 + 1]? = some (.int .i64 e.2) := by
  induction l with
  | nil => intro k e h; simp at h
  | cons a l ih =>
    intro k e h
    cases k with
    | zero => simp at h; subst h; simp [evCells]
    | succ k =>
      have := ih k e (by simpa using h)
      have e1 : (k + 1) * 2 = k * 2 + 1 + 1 := by omega
      rw [e1]
      simpa [evCells] using this
theorem evInfo : (Try.prog.info? 30).map (fun i => (i.zero, i.size, i.bytes)) = some (some (.agg #[.int .i64 0, .int .i64 0]), 2, 16) := by kernel_rfl

def MadeRel (w : World) (A : Option Addr) (cap : Nat) (zs : List Int) (v : Value) (wr : World) : Prop :=
  ∃ evs : List (Int × Int), evs.length ≤ 60 ∧ wr.ownsRow (w.heap.size + 1) 30 2 v evs.length (evCells evs) ∧ TapeOk wr w.heap.size A cap zs ∧ Below w.heap.size w wr

structure MadeInv (w : World) (A : Option Addr) (cap : Nat) (zs : List Int) (b : Nat) (v : Value) (evs : List (Int × Int)) (wx : World) : Prop where
  at_ : w.heap.size < b
  ev : ∃ r1 r2 : Int, Blk wx b 30 #[.int .i64 r1, .int .i64 r2]
  tape : TapeOk wx w.heap.size A cap zs
  below : Below w.heap.size w wx
  own : wx.ownsRow (w.heap.size + 1) 30 2 v evs.length (evCells evs)
  far : v.ownBlock ≠ some b

section
variable {w : World} {A : Option Addr} {cap : Nat} {zs : List Int} {b : Nat} {v : Value} {evs : List (Int × Int)} {wx wy : World}
theorem MadeInv.next (h : MadeInv w A cap zs b v evs wx) (hg : wx.grownBy wy (some w.heap.size)) (ht : TapeOk wy w.heap.size A cap zs) : MadeInv w A cap zs b v evs wy := by
  obtain ⟨r1, r2, hB⟩ := h.ev
  have := h.at_
  exact ⟨h.at_, ⟨r1, r2, hB.grown hg (by intro e; injection e; omega)⟩, ht, h.below.grown hg h.below.size (by rintro k ⟨⟩; omega), own_grown h.own hg (by rintro k ⟨⟩; omega), h.far⟩
theorem own_far {w : World} {base : Nat} {e : TypeId} {size : Nat} {v : Value} {n : Nat} {xs : List Value} (h : w.ownsRow base e size v n xs) {p : Addr} (hp : v.ownBlock ≠ some p.block) (u : Value) :
    (w.setCell p u).ownsRow base e size v n xs := by
  refine ⟨h.1, h.2.imp id ?_⟩
  rintro ⟨g, cap, cur, rfl, hb, hh, rest⟩
  refine ⟨g, cap, cur, rfl, hb, ?_, rest⟩
  rw [Below.heap_setCell w p u g (fun e => hp (by rw [← e]; rfl))]
  exact hh
theorem MadeInv.set (h : MadeInv w A cap zs b v evs wx) (i : Nat) (n : Int) : MadeInv w A cap zs b v evs (wx.setCell ⟨b, i, none⟩ (.int .i64 n)) := by
  obtain ⟨r1, r2, hB⟩ := h.ev
  have hat := h.at_
  refine ⟨h.at_, ?_, h.tape.keep (fun k hk => Below.heap_setCell _ _ _ _ (by show k ≠ b; omega)), h.below.setCell (by show _ ≤ b; omega) _, own_far h.own h.far _, h.far⟩
  have := hB.set_ i (.int .i64 n)
  match i with
  | 0 => exact ⟨n, r2, this⟩
  | 1 => exact ⟨r1, n, this⟩
  | i + 2 =>
    refine ⟨r1, r2, ?_⟩
    rwa [Array.setIfInBounds_eq_of_size_le (by simp)] at this
end

def lenOf : Value → Nat | .slice _ n _ => n | _ => 0

set_option maxHeartbeats 1000000 in
theorem made_any (A : Option Addr) (cap : Nat) (zs : List Int) (w : World) (hs : zs.length ≤ 1000) (hr : Rd w (· < w.heap.size) A (zs.map (Value.int .i64))) :
    Calls Try.prog 10 #[.slice A zs.length cap] w fun e w' => ∃ v, e = .returned v ∧ MadeRel w A cap zs v w' := by
  obtain ⟨i0, hi, hz0, hz1, hz2⟩ := info_parts evInfo
  have HR := Lib.hid hr
  clear hr
  go_enter Try.func10, Try.ntmps10
  go_wp2_with fail
  refine (tapeNew_any A cap zs w hs HR.out).mono ?_
  rintro e w1 ⟨rfl, ht1, hb1⟩
  go_wp2
  go_loopg [4] 60 (fun k v wr => ∃ evs : List (Int × Int), evs.length + k = 60 ∧ wr.ownsRow (w.heap.size + 1) 30 2 v evs.length (evCells evs) ∧ TapeOk wr w.heap.size A cap zs ∧ Below w.heap.size w wr)
  case atStart => exact ⟨[], by simp, World.ownsRow_nil _ _ _ _, ht1, hb1⟩
  case round =>
    obtain ⟨evs, hlen, hown, ht, hb⟩ := hrel
    obtain ⟨Av, cv, rfl⟩ := own_form hown
    have HO := Lib.hid hown
    clear hown
    go_wp2_with fail
    refine (more_any _ A cap zs _ ht).mono ?_
    rintro e w' ⟨b, n, rfl, rfl⟩
    cases b
    · go_wp2
      go_ret
      exact ⟨_, rfl, evs, by omega, HO.out, ht.drewN _, below_drewN hb _⟩
    · by_cases h60 : evs.length < 60
      · have ht' := ht.drewN n
        have hb' := below_drewN hb n
        have HO' : Hid ((wr.drewN n).ownsRow (w.heap.size + 1) 30 2 (.slice Av evs.length cv) evs.length (evCells evs)) := HO.out
        clear ht hb HO
        generalize wr.drewN n = wr at *
        go_wp2_with fail
        refine (range_any _ A cap zs 1 8 _ (by omega) (by omega) (by omega) ht').mono ?_
        rintro e w2 ⟨r1, h10, h11, rfl, ht2, hg2⟩
        go_wp2_with fail
        refine (next_any _ A cap zs 12 _ (by omega) (by omega) ht2).mono ?_
        rintro e w3 ⟨r2, h20, h21, rfl, ht3, hg3⟩
        have hb3 : Below w.heap.size w w3 := (hb'.grown hg2 hb'.size (by rintro k ⟨⟩; omega)).grown hg3 (Nat.le_trans hb'.size hg2.size) (by rintro k ⟨⟩; omega)
        have HO3 : Hid (w3.ownsRow (w.heap.size + 1) 30 2 (.slice Av evs.length cv) evs.length (evCells evs)) :=
          own_grown (own_grown HO'.out hg2 (by rintro k ⟨⟩; omega)) hg3 (by rintro k ⟨⟩; omega)
        have hz3 : w.heap.size < w3.heap.size := ht3.lt
        clear hb' hg2 hg3 ht2 ht' HO'
        have inv : MadeInv w A cap zs w3.heap.size (.slice Av evs.length cv) evs (w3.alloc (.cells #[.int .i64 r1, .int .i64 r2] 30)) := by
          have hg4 := grown_alloc (grown_refl w3 none) (.cells #[.int .i64 r1, .int .i64 r2] 30)
          refine ⟨hz3, ⟨_, _, Blk.new _ _ _⟩, ht3.grown hg4 (by rintro k ⟨⟩), hb3.grown hg4 hb3.size (by rintro k ⟨⟩), own_grown HO3.out hg4 (by rintro k ⟨⟩), ?_⟩
          intro e
          have := (HO3.out.lt _ e).2
          omega
        clear HO3 hb3 ht3 hz3
        go_upto_region 5 with fail
        generalize w3.heap.size = b5 at *
        generalize w3.alloc (.cells #[.int .i64 r1, .int .i64 r2] 30) = w4 at *
        go_cut [27] (fun s27 wx => (∃ b, s27 = .bool b) ∧ MadeInv w A cap zs b5 (.slice Av evs.length cv) evs wx)
        case first =>
          go_wp2_with fail
          refine (next_any _ A cap zs 3 _ (by omega) (by omega) inv.tape).mono ?_
          rintro e w5 ⟨r3, h30, h31, rfl, ht5, hg5⟩
          have inv5 := inv.next hg5 ht5
          obtain ⟨q1, q2, hB⟩ := inv5.ev
          have c0 : w5.cell? ⟨b5, 0, none⟩ = some (.int .i64 q1) := hB.cell' rfl
          go_wp2_with fail
          all_goals
            go_meet
            exact ⟨⟨_, rfl⟩, inv5⟩
        case rest =>
          obtain ⟨⟨b27, rfl⟩, inv⟩ := hcut
          go_upto_if 27 with fail
          go_cut [] (fun wx => MadeInv w A cap zs b5 (.slice Av evs.length cv) evs wx)
          case first =>
            cases b27
            · go_wp2_with fail
              go_meet
              exact inv
            · go_wp2_with fail
              refine (range_any _ A cap zs 1 4 _ (by omega) (by omega) (by omega) inv.tape).mono ?_
              rintro e w6 ⟨r6, h60, h61, rfl, ht6, hg6⟩
              have inv6 := inv.next hg6 ht6
              obtain ⟨q1, q2, hB⟩ := inv6.ev
              have c0 : w6.cell? ⟨b5, 0, none⟩ = some (.int .i64 q1) := hB.cell' rfl
              have f0 : w6.frozen? ⟨b5, 0, none⟩ = false := hB.frozen 0
              go_wp2_with fail
              go_meet
              exact inv6.set 0 r6
          case rest =>
            clear inv
            have inv7 := hcut
            clear hcut
            go_upto_region 7 with fail
            go_cut [33] (fun s33 wx => (∃ b, s33 = .bool b) ∧ MadeInv w A cap zs b5 (.slice Av evs.length cv) evs wx)
            case first =>
              go_wp2_with fail
              refine (next_any _ A cap zs 2 _ (by omega) (by omega) inv7.tape).mono ?_
              rintro e w5 ⟨r3, h30, h31, rfl, ht5, hg5⟩
              have inv5 := inv7.next hg5 ht5
              go_wp2_with fail
              go_meet
              exact ⟨⟨_, rfl⟩, inv5⟩
            case rest =>
              clear inv7
              obtain ⟨⟨b33, rfl⟩, inv⟩ := hcut
              go_upto_if 33 with fail
              go_cut [] (fun wx => MadeInv w A cap zs b5 (.slice Av evs.length cv) evs wx)
              case first =>
                cases b33
                · go_wp2_with fail
                  go_meet
                  exact inv
                · obtain ⟨q1, q2, hB⟩ := inv.ev
                  have c0 := hB.cell' (i := 1) (v := .int .i64 q2) rfl
                  have f0 := hB.frozen 1
                  go_wp2_with fail
                  go_meet
                  exact inv.set 1 0
              case rest =>
                clear inv
                obtain ⟨hat, ⟨q1, q2, hB⟩, tape, hbel, hown, hfar⟩ := hcut
                have c0 := hB.cell' (i := 0) (v := .int .i64 q1) rfl
                have c1 := hB.cell' (i := 1) (v := .int .i64 q2) rfl
                have HW := Lib.hid hown
                have HT := Lib.hid tape
                have HL := Lib.hid hbel
                clear hown tape hbel
                go_wp2_with (at_builtin; refine wpList_append_lies _ rfl _ _ _ rfl (w.heap.size + 1) 30 i0 _ 2 16 Try.underlying23 hi hz0 hz1 hz2 rfl (by omega) _ evs.length (evCells evs) rfl (HW.out.alloc _) ⟨wc.heap.size, 0, none⟩ 1 1 [.int .i64 q1, .int .i64 q2] rfl rfl ?c1 ?c2 ?c0 ?c3 ?c4 ?c5 (wc.heap.size + 1) ?c6 ?_)
                case c1 => exact World.news_of_block (cs := #[.int .i64 q1, .int .i64 q2]) (heap_alloc_new _ _)
                case c2 => simp [Value.oneCell']
                case c0 => omega
                case c3 => unfold maxLen; omega
                case c4 => omega
                case c5 => have := HL.out.size; have := HT.out.lt; simp; omega
                case c6 => simp
                intro g cp w9 hown9 hg9 hat9 hlt9
                have hsz := HL.out.size
                have htl := HT.out.lt
                have HX : Hid (w9.ownsRow (w.heap.size + 1) 30 2 (.slice (some ⟨g, 0, none⟩) (evs.length + 1) cp) (evs ++ [(q1, q2)]).length (evCells (evs ++ [(q1, q2)]))) := by
                  refine Lib.hid ?_; rw [← evCells_snoc]; simpa using hown9
                have hT9 : TapeOk w9 w.heap.size A cap zs := (HT.out.grown (grown_alloc (grown_refl wc none) _) (by rintro k ⟨⟩)).grown hg9 (fun k hk => by have := (HW.out.lt k hk).1; omega)
                have hB9 : Below w.heap.size w w9 := (HL.out.alloc hsz _).grown hg9 (by simp; omega) (fun k hk => by have := (HW.out.lt k hk).1; omega)
                clear hown9 hg9 hat9 hlt9 HW HT HL
                go_wp2
                go_roundg (gk - 1)
                case measure => omega
                case rel => exact ⟨evs ++ [(q1, q2)], by simp; omega, by simpa using HX.out, hT9, hB9⟩
      · go_wp2
        go_ret
        exact ⟨_, rfl, evs, by omega, HO.out, ht.drewN _, below_drewN hb _⟩
end Go.Proofs.Ytbnmhnffgleciaa
