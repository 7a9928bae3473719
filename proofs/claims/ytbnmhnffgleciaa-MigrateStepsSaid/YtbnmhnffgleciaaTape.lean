import Derived.Test.YtbnmhnffgleciaaRows
import Derived.Test.YtbnmhnffgleciaaLib
namespace Go.Proofs.Ytbnmhnffgleciaa
open Go.RowKit

set_option maxHeartbeats 400000 in
theorem mod_any (v n : Int) (w : World) (hn : 1 ≤ n) (hn2 : n ≤ 1000000) :
    Calls Try.prog 31 #[.int .i64 v, .int .i64 n] w fun e w' => e = .returned (.int .i64 (v % n)) ∧ w = w' := by
  have hne : (n == 0) = false := by simp; omega
  have h1 : v.tmod n < n := Int.tmod_lt_of_pos _ (by omega)
  have h2 : -n < v.tmod n := Int.lt_tmod_of_pos _ (by omega)
  have H3 := Lib.hid (Int.tmod_eq_emod (a := v) (b := n))
  have H4 := Lib.hid (Int.emod_nonneg v (b := n) (by omega))
  have H5 := Lib.hid (Int.emod_lt_of_pos v (b := n) (by omega))
  go_enter Try.func31, Try.ntmps31
  go_wp2
  all_goals
    go_ret
    have h3 := H3.out
    have h4 := H4.out
    have h5 := H5.out
    refine ⟨ret_i64 ?_, rfl⟩
    split at h3 <;> omega

/-- Block g is a tape over the numbers zs. -/
structure TapeOk (w : World) (g : Nat) (A : Option Addr) (cap : Nat) (zs : List Int) : Prop where
  short : zs.length ≤ 1000
  row : Rd w (· < g) A (zs.map (Value.int .i64))
  blk : ∃ k : Nat, k ≤ zs.length ∧ Blk w g 55 #[.slice A zs.length cap, .int .i64 k]

theorem TapeOk.drewN {w : World} {g : Nat} {A : Option Addr} {cap : Nat} {zs : List Int} (h : TapeOk w g A cap zs) (n : Nat) : TapeOk (w.drewN n) g A cap zs := ⟨h.short, h.row, h.blk⟩
theorem TapeOk.keep {w w' : World} {g : Nat} {A : Option Addr} {cap : Nat} {zs : List Int} (h : TapeOk w g A cap zs) (hb : ∀ k, k < g + 1 → w'.heap[k]? = w.heap[k]?) : TapeOk w' g A cap zs :=
  ⟨h.short, h.row.keep fun k hk => hb k (Nat.lt_succ_of_lt hk), by
    obtain ⟨k, hk, hB⟩ := h.blk
    exact ⟨k, hk, (hb g (by omega)).trans hB⟩⟩
theorem TapeOk.lt {w : World} {g : Nat} {A : Option Addr} {cap : Nat} {zs : List Int} (h : TapeOk w g A cap zs) : g < w.heap.size := by
  obtain ⟨k, hk, hB⟩ := h.blk
  exact hB.lt
theorem TapeOk.grown {w w' : World} {g : Nat} {A : Option Addr} {cap : Nat} {zs : List Int} (h : TapeOk w g A cap zs) {row : Option Nat} (hg : w.grownBy w' row) (hr : ∀ k, row = some k → g < k) : TapeOk w' g A cap zs :=
  h.keep fun k hk => hg.block k (by have := h.lt; omega) (fun e => by have := hr k e.symm; omega)

def NextPost (n : Int) (g : Nat) (A : Option Addr) (cap : Nat) (zs : List Int) (w : World) (e : Ending) (w' : World) : Prop :=
  ∃ r : Int, 0 ≤ r ∧ r < n ∧ e = .returned (.int .i64 r) ∧ TapeOk w' g A cap zs ∧ w.grownBy w' (some g)

set_option maxHeartbeats 400000 in
theorem next_any (g : Nat) (A : Option Addr) (cap : Nat) (zs : List Int) (n : Int) (w : World) (hn : 1 ≤ n) (hn2 : n ≤ 1000000) (ht : TapeOk w g A cap zs) :
    Calls Try.prog 27 #[.pointer (some ⟨g, 0, none⟩), .int .i64 n] w (NextPost n g A cap zs w) := by
  obtain ⟨hs, hr, k, hk, hb⟩ := ht
  have c0 := hb.cell' (i := 0) rfl
  have c1 := hb.cell' (i := 1) rfl
  have hf := hb.frozen 1
  have HB := Lib.hid hb
  have HR := Lib.hid hr
  clear hb hr
  by_cases hlt : k < zs.length
  · have hd : decide (zs.length ≤ k) = false := by simp; omega
    obtain ⟨b, off, rfl, hbg, hcell⟩ := HR.out.at_ (k := k) (by simpa using hlt)
    have hcz := hcell k (.int .i64 (zs[k])) (by simp [hlt])
    clear hcell
    have cz2 : ((w.setCell ⟨g, 1, none⟩ (.int .i64 (k + 1))).cell? ⟨b, off + k, none⟩) = some (.int .i64 (zs[k])) := by
      rw [World.cell?_setCell_other _ _ _ _ (by intro e; injection e; have : b < g := hbg; omega)]; exact hcz
    generalize hz : zs[k] = z at *
    have e1 : IntKind.i64.wrap ((k : Int) + 1 - 1) = (k : Int) := by rw [IntWalk.i64_in _ (by omega)]; omega
    have i1 : (0 : Int) ≤ (k : Int) := by omega
    have i2 : (k : Int) < (zs.length : Int) := by omega
    go_enter Try.func27, Try.ntmps27
    go_wp2
    go_quiet (fail)
    go_wp2
    go_quiet ((go_at_call 31; exact quiet_left (mod_any _ _ _ hn hn2)))
    go_wp2
    go_ret
    have H := HB.out
    refine ⟨z % n, Int.emod_nonneg _ (by omega), Int.emod_lt_of_pos _ (by omega), rfl, ⟨hs, ?_, k + 1, by omega, ?_⟩, ?_⟩
    · exact HR.out.keep fun i hi => (Below.heap_setCell w _ _ i (by show i ≠ g; have : i < g := hi; omega))
    · exact (H.set_ 1 (.int .i64 (((k + 1 : Nat)) : Int)))
    · exact grown_drewN (grown_set (grown_drewN (grown_refl _ _) _) _ _) _
  · have hd : decide (zs.length ≤ k) = true := by simp; omega
    go_enter Try.func27, Try.ntmps27
    go_wp2
    go_quiet (fail)
    go_wp2
    go_ret
    exact ⟨0, by omega, by omega, rfl, ⟨hs, HR.out, k, hk, HB.out⟩, grown_drewN (grown_refl _ _) _⟩

def RangePost (lo hi : Int) (g : Nat) (A : Option Addr) (cap : Nat) (zs : List Int) (w : World) (e : Ending) (w' : World) : Prop :=
  ∃ r : Int, lo ≤ r ∧ r ≤ hi ∧ e = .returned (.int .i64 r) ∧ TapeOk w' g A cap zs ∧ w.grownBy w' (some g)

set_option maxHeartbeats 400000 in
theorem range_any (g : Nat) (A : Option Addr) (cap : Nat) (zs : List Int) (lo hi : Int) (w : World) (hn : lo ≤ hi) (hn2 : hi ≤ 10000) (hn3 : -10000 ≤ lo) (ht : TapeOk w g A cap zs) :
    Calls Try.prog 26 #[.pointer (some ⟨g, 0, none⟩), .int .i64 lo, .int .i64 hi] w (RangePost lo hi g A cap zs w) := by
  go_enter Try.func26, Try.ntmps26
  go_wp2_with fail
  refine (next_any g A cap zs _ _ (by omega) (by omega) ht).mono ?_
  rintro e w' ⟨r, h0, h1, rfl, h2, h3⟩
  go_wp2
  go_ret
  exact ⟨lo + r, by omega, by omega, rfl, h2, h3⟩

set_option maxHeartbeats 400000 in
theorem more_any (g : Nat) (A : Option Addr) (cap : Nat) (zs : List Int) (w : World) (ht : TapeOk w g A cap zs) :
    Calls Try.prog 25 #[.pointer (some ⟨g, 0, none⟩)] w fun e w' => ∃ (b : Bool) (n : Nat), e = .returned (.bool b) ∧ w' = w.drewN n := by
  obtain ⟨hs, hr, k, hk, hb⟩ := ht
  have c0 := hb.cell' (i := 0) rfl
  have c1 := hb.cell' (i := 1) rfl
  clear hb hr
  go_enter Try.func25, Try.ntmps25
  go_wp2
  go_quiet (fail)
  go_wp2
  go_ret
  exact ⟨_, _, rfl, rfl⟩

set_option maxHeartbeats 400000 in
theorem tapeNew_any (A : Option Addr) (cap : Nat) (zs : List Int) (w : World) (hs : zs.length ≤ 1000) (hr : Rd w (· < w.heap.size) A (zs.map (Value.int .i64))) :
    Calls Try.prog 24 #[.slice A zs.length cap] w fun e w' => e = .returned (.pointer (some ⟨w.heap.size, 0, none⟩)) ∧ TapeOk w' w.heap.size A cap zs ∧ Below w.heap.size w w' := by
  have HR := Lib.hid hr
  clear hr
  go_enter Try.func24, Try.ntmps24
  go_wp2
  go_ret
  refine ⟨rfl, ⟨hs, ?_, 0, Nat.zero_le _, Blk.new _ _ _⟩, (Below.refl _ _).alloc (Nat.le_refl _) _⟩
  exact HR.out.alloc _
end Go.Proofs.Ytbnmhnffgleciaa
