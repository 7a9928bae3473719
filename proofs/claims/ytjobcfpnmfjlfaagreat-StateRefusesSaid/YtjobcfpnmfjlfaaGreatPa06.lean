import Derived.Test.YtjobcfpnmfjlfaaGreatPa05
import Derived.Laws.OwnMore
namespace Go.Proofs.YtjobcfpnmfjlfaaGreat
open Go.RowKit
set_option linter.unusedSimpArgs false
set_option linter.unusedVariables false

theorem Blk.setCellsFar2 {w : World} {g b : Nat} {t : TypeId} {cs : Array Value} (h : Blk w g t cs) (hb : g ≠ b) (o : Nat) (vs : List Value) : Blk (w.setCells b o vs) g t cs := (setCells_far vs o g hb).trans h
theorem below_setCells2 {B : Nat} {w wx : World} (h : Below B w wx) {b : Nat} (hb : B ≤ b) : ∀ (vs : List Value) (o : Nat), Below B w (wx.setCells b o vs) := by
  intro vs
  induction vs generalizing wx with
  | nil => intro o; exact h
  | cons v r ih => intro o; rw [World.setCells]; exact ih (h.setCell (p := ⟨b, o, none⟩) hb v) _
theorem putL_get : ∀ (vs : List Value) (cs : Array Value) (o j : Nat), (putL cs o vs)[j]? = if o ≤ j ∧ j < o + vs.length ∧ j < cs.size then vs[j - o]? else cs[j]?
  | [], cs, o, j => by simp only [putL, List.length_nil]; rw [if_neg (by omega)]
  | v :: r, cs, o, j => by
    rw [putL, putL_get r, Array.size_setIfInBounds]
    by_cases h1 : j = o
    · subst h1
      rw [if_neg (by omega), Array.getElem?_setIfInBounds]
      by_cases h2 : j < cs.size
      · simp [h2]
      · simp [h2, Array.getElem?_eq_none (Nat.le_of_not_lt h2)]
    · by_cases h2 : o + 1 ≤ j ∧ j < o + 1 + r.length ∧ j < cs.size
      · rw [if_pos h2, if_pos (by simp only [List.length_cons]; omega)]
        have : j - o = (j - (o + 1)) + 1 := by omega
        rw [this, List.getElem?_cons_succ]
      · rw [if_neg h2, if_neg (by simp only [List.length_cons]; omega), Array.getElem?_setIfInBounds, if_neg (by omega)]
theorem putL_full {ZA FA : Array Value} (h : ZA.size = FA.size) : putL ZA 0 FA.toList = FA := by
  apply Array.ext_getElem?
  intro j
  rw [putL_get]
  by_cases hj : j < FA.size
  · rw [if_pos ⟨Nat.zero_le _, by simpa using hj, by omega⟩]
    simp
  · rw [if_neg (by omega), Array.getElem?_eq_none (by omega), Array.getElem?_eq_none (by omega)]
theorem upd_same (d : Nat → Bool) (i : Nat) : upd d i i = true := if_pos rfl
theorem upd_other (d : Nat → Bool) {i j : Nat} (h : j ≠ i) : upd d i j = d j := if_neg h

/-- Two new variables A and B in a region that draws its order; A may be stored into by operation is. -/
structure TwoJ (W : World) (Ta Tb : TypeId) (ZA FA ZB : Array Value) (ia ib is : Nat) (d : Nat → Bool) (va vb : Value) (ga gb : Nat) (wx : World) : Prop where
  below : Below W.heap.size W wx
  a : d ia = true → va = .pointer (some ⟨ga, 0, none⟩) ∧ Blk wx ga Ta (if d is = true then FA else ZA) ∧ W.heap.size ≤ ga
  b : d ib = true → vb = .pointer (some ⟨gb, 0, none⟩) ∧ Blk wx gb Tb ZB ∧ W.heap.size ≤ gb
  ne : d ia = true → d ib = true → ga ≠ gb
  st : d is = true → d ia = true
section
variable {W wx : World} {Ta Tb : TypeId} {ZA FA ZB : Array Value} {ia ib is : Nat} {d : Nat → Bool} {va vb : Value} {ga gb : Nat}
theorem TwoJ.later (h : TwoJ W Ta Tb ZA FA ZB ia ib is d va vb ga gb wx) {wy : World} (hb : Below wx.heap.size wx wy) : TwoJ W Ta Tb ZA FA ZB ia ib is d va vb ga gb wy :=
  ⟨h.below.trans (hb.mono h.below.size), fun q => ⟨(h.a q).1, (h.a q).2.1.below hb (h.a q).2.1.lt, (h.a q).2.2⟩, fun q => ⟨(h.b q).1, (h.b q).2.1.below hb (h.b q).2.1.lt, (h.b q).2.2⟩, h.ne, h.st⟩
theorem TwoJ.other (h : TwoJ W Ta Tb ZA FA ZB ia ib is d va vb ga gb wx) {i : Nat} (h1 : ia ≠ i) (h2 : ib ≠ i) (h3 : is ≠ i) : TwoJ W Ta Tb ZA FA ZB ia ib is (upd d i) va vb ga gb wx := by
  obtain ⟨q1, q2, q3, q4, q5⟩ := h
  refine ⟨q1, ?_, ?_, ?_, ?_⟩ <;> simp only [upd_other d h1, upd_other d h2, upd_other d h3] <;> assumption
theorem TwoJ.start (hb : Below W.heap.size W wx) (h1 : d ia = false) (h2 : d ib = false) (h3 : d is = false) : TwoJ W Ta Tb ZA FA ZB ia ib is d va vb ga gb wx :=
  ⟨hb, fun q => (by rw [h1] at q; cases q), fun q => (by rw [h2] at q; cases q), fun q => (by rw [h1] at q; cases q), fun q => (by rw [h3] at q; cases q)⟩
theorem TwoJ.allocA (h : TwoJ W Ta Tb ZA FA ZB ia ib is d va vb ga gb wx) (h0 : d ia = false) (h1 : ib ≠ ia) (h2 : is ≠ ia) : TwoJ W Ta Tb ZA FA ZB ia ib is (upd d ia) (.pointer (some ⟨wx.heap.size, 0, none⟩)) vb wx.heap.size gb (wx.alloc (.cells ZA Ta)) := by
  have h2' := h.later ((Below.refl wx.heap.size wx).alloc (Nat.le_refl _) (.cells ZA Ta))
  have hs : d is = false := Bool.eq_false_iff.2 fun q => by rw [h.st q] at h0; cases h0
  refine ⟨h2'.below, ?_, ?_, ?_, ?_⟩ <;> simp only [upd_same, upd_other d h1, upd_other d h2]
  · intro _
    rw [hs]
    exact ⟨trivial, Blk.new _ _ _, h.below.size⟩
  · exact h2'.b
  · intro _ q
    have := (h.b q).2.1.lt
    omega
  · intro _; trivial
theorem TwoJ.allocB (h : TwoJ W Ta Tb ZA FA ZB ia ib is d va vb ga gb wx) (h1 : ia ≠ ib) (h2 : is ≠ ib) : TwoJ W Ta Tb ZA FA ZB ia ib is (upd d ib) va (.pointer (some ⟨wx.heap.size, 0, none⟩)) ga wx.heap.size (wx.alloc (.cells ZB Tb)) := by
  have h2' := h.later ((Below.refl wx.heap.size wx).alloc (Nat.le_refl _) (.cells ZB Tb))
  refine ⟨h2'.below, ?_, ?_, ?_, ?_⟩ <;> simp only [upd_same, upd_other d h1, upd_other d h2]
  · exact h2'.a
  · intro _
    exact ⟨trivial, Blk.new _ _ _, h.below.size⟩
  · intro q _
    have := (h.a q).2.1.lt
    omega
  · exact h.st
theorem TwoJ.storeA (h : TwoJ W Ta Tb ZA FA ZB ia ib is d va vb ga gb wx) (h1 : d ia = true) (h1b : d ib = true) (h2 : ia ≠ is) (h3 : ib ≠ is) (hp : putL ZA 0 FA.toList = FA) (hp2 : putL FA 0 FA.toList = FA) : TwoJ W Ta Tb ZA FA ZB ia ib is (upd d is) va vb ga gb (wx.setCells ga 0 FA.toList) := by
  have ha := h.a h1
  refine ⟨below_setCells2 h.below ha.2.2 _ _, ?_, ?_, ?_, ?_⟩ <;> simp only [upd_same, upd_other d h2, upd_other d h3]
  · intro _
    refine ⟨ha.1, ?_, ha.2.2⟩
    have := ha.2.1.setCells FA.toList 0
    have e : putL (if d is = true then FA else ZA) 0 FA.toList = FA := by split <;> assumption
    rw [e] at this
    exact this
  · exact fun q => ⟨(h.b q).1, (h.b q).2.1.setCellsFar2 (Ne.symm (h.ne h1 h1b)) _ _, (h.b q).2.2⟩
  · exact h.ne
  · exact fun _ => h1
/-- Behind the region. -/
structure TwoC (W : World) (Ta Tb : TypeId) (FA FB : Array Value) (ga gb : Nat) (wx : World) : Prop where
  a : Blk wx ga Ta FA
  b : Blk wx gb Tb FB
  below : Below W.heap.size W wx
/-- Both stores come last. -/
theorem TwoJ.done2 {FB : Array Value} (h : TwoJ W Ta Tb ZA FA ZB ia ib is d va vb ga gb wx) (h1 : d ia = true) (h2 : d ib = true) (hs : d is = false) (hp : putL ZA 0 FA.toList = FA) (hp2 : putL ZB 0 FB.toList = FB) :
    TwoC W Ta Tb FA FB ga gb ((wx.setCells ga 0 FA.toList).setCells gb 0 FB.toList) := by
  have ha := h.a h1
  have hb := h.b h2
  rw [if_neg (by rw [hs]; simp)] at ha
  have q1 := ha.2.1.setCells FA.toList 0
  rw [hp] at q1
  have q2 := (hb.2.1.setCellsFar2 (Ne.symm (h.ne h1 h2)) 0 FA.toList).setCells FB.toList 0
  rw [hp2] at q2
  exact ⟨q1.setCellsFar2 (h.ne h1 h2) _ _, q2, below_setCells2 (below_setCells2 h.below ha.2.2 _ _) hb.2.2 _ _⟩
/-- A's store came before. -/
theorem TwoJ.done1 {FB : Array Value} (h : TwoJ W Ta Tb ZA FA ZB ia ib is d va vb ga gb wx) (h1 : d ia = true) (h2 : d ib = true) (hs : d is = true) (hp2 : putL ZB 0 FB.toList = FB) :
    TwoC W Ta Tb FA FB ga gb (wx.setCells gb 0 FB.toList) := by
  have ha := h.a h1
  have hb := h.b h2
  rw [if_pos hs] at ha
  have q2 := hb.2.1.setCells FB.toList 0
  rw [hp2] at q2
  exact ⟨ha.2.1.setCellsFar2 (h.ne h1 h2) _ _, q2, below_setCells2 h.below hb.2.2 _ _⟩
end
end Go.Proofs.YtjobcfpnmfjlfaaGreat

namespace Go.Proofs.YtjobcfpnmfjlfaaGreat
open Go.RowKit
set_option linter.unusedSimpArgs false
set_option linter.unusedVariables false

/-- The cells l lie in cs from off on. -/
def RowAt (cs : Array Value) (off : Nat) (l : List Value) : Prop := ∀ (j : Nat) (v : Value), l[j]? = some v → cs[off + j]? = some v
theorem RowAt.fits {cs : Array Value} {off : Nat} {l : List Value} (h : RowAt cs off l) (hl : 0 < l.length) : off + l.length ≤ cs.size := by
  have h1 : l[l.length - 1]? = some l[l.length - 1] := List.getElem?_eq_getElem (by omega)
  have h2 := h _ _ h1
  have := (Array.getElem?_eq_some_iff.1 h2).1
  omega
theorem putL_same {cs : Array Value} {off : Nat} {l : List Value} (h : RowAt cs off l) : putL cs off l = cs := by
  apply Array.ext_getElem?
  intro j
  rw [putL_get]
  by_cases hj : off ≤ j ∧ j < off + l.length ∧ j < cs.size
  · rw [if_pos hj]
    have h1 : l[j - off]? = some l[j - off] := List.getElem?_eq_getElem (by omega)
    have h2 := h _ _ h1
    rw [h1, ← h2]
    congr 1
    omega
  · rw [if_neg hj]
theorem putL_set {cs : Array Value} {off : Nat} {l : List Value} (hf : off + l.length ≤ cs.size) {j : Nat} (hj : j < l.length) (v : Value) : (putL cs off l).setIfInBounds (off + j) v = putL cs off (l.set j v) := by
  apply Array.ext_getElem?
  intro i
  rw [Array.getElem?_setIfInBounds, putL_get, putL_get, putL_size, List.length_set]
  by_cases hi : off + j = i
  · subst hi
    rw [if_pos rfl, if_pos (show off + j < cs.size by omega), if_pos (by omega)]
    have : off + j - off = j := by omega
    rw [this]
    simp [hj]
  · rw [if_neg hi]
    by_cases hc : off ≤ i ∧ i < off + l.length ∧ i < cs.size
    · rw [if_pos hc, if_pos hc, List.getElem?_set_ne (by omega)]
    · rw [if_neg hc, if_neg hc]
theorem putL_row {cs : Array Value} {off : Nat} {l : List Value} (hf : off + l.length ≤ cs.size) : RowAt (putL cs off l) off l := by
  intro j v hv
  have hj := (List.getElem?_eq_some_iff.1 hv).1
  rw [putL_get, if_pos (by omega), show off + j - off = j by omega]
  exact hv
/-- A row in a block: the cells l lie in block g from off on, all else there is as in cs. -/
structure InRow (w : World) (g : Nat) (T : TypeId) (cs : Array Value) (off : Nat) (l : List Value) (wx : World) : Prop where
  blk : Blk wx g T (putL cs off l)
  fits : off + l.length ≤ cs.size
  grown : w.grownBy wx (some g)
theorem InRow.start {w : World} {g : Nat} {T : TypeId} {cs : Array Value} {off : Nat} {l : List Value} (hb : Blk w g T cs) (hr : RowAt cs off l) (hl : 0 < l.length) : InRow w g T cs off l w :=
  ⟨by rw [putL_same hr]; exact hb, hr.fits hl, grown_refl _ _⟩
section
variable {w wx : World} {g : Nat} {T : TypeId} {cs : Array Value} {off : Nat} {l : List Value}
theorem InRow.set (h : InRow w g T cs off l wx) {j : Nat} (hj : j < l.length) (v : Value) : InRow w g T cs off (l.set j v) (wx.setCell ⟨g, off + j, none⟩ v) :=
  ⟨by rw [← putL_set h.fits hj]; exact h.blk.set_ _ _, by rw [List.length_set]; exact h.fits, grown_set h.grown _ _⟩
theorem InRow.set0 (h : InRow w g T cs off l wx) (hj : 0 < l.length) (v : Value) : InRow w g T cs off (l.set 0 v) (wx.setCell ⟨g, off, none⟩ v) := h.set (j := 0) hj v
theorem InRow.alloc (h : InRow w g T cs off l wx) (o : Obj) : InRow w g T cs off l (wx.alloc o) := ⟨h.blk.alloc o, h.fits, grown_alloc h.grown o⟩
theorem InRow.drew (h : InRow w g T cs off l wx) : InRow w g T cs off l wx.drew := ⟨h.blk, h.fits, grown_drewN h.grown 1⟩
theorem InRow.cell (h : InRow w g T cs off l wx) {j : Nat} {v : Value} (hv : l[j]? = some v) : wx.cell? ⟨g, off + j, none⟩ = some v := h.blk.cell' (putL_row h.fits j v hv)
theorem InRow.cell0 (h : InRow w g T cs off l wx) {v : Value} (hv : l[0]? = some v) : wx.cell? ⟨g, off, none⟩ = some v := h.cell hv
theorem InRow.frozen (h : InRow w g T cs off l wx) (i : Nat) : wx.frozen? ⟨g, i, none⟩ = false := h.blk.frozen i
end
end Go.Proofs.YtjobcfpnmfjlfaaGreat

namespace Go.Proofs.YtjobcfpnmfjlfaaGreat
open Go.RowKit
set_option linter.unusedSimpArgs false
set_option linter.unusedVariables false

theorem own_blk {w : World} {base : Nat} {T : TypeId} {size : Nat} {A : Option Addr} {cp n : Nat} {xs : List Value} (h : w.ownsRow base T size (.slice A n cp) n xs) (hn : 0 < n) :
    ∃ g cur, A = some ⟨g, 0, none⟩ ∧ base ≤ g ∧ Blk w g T cur ∧ cur.toList.take (n * size) = xs ∧ cur.size = cp * size ∧ n ≤ cp ∧ cp ≤ maxLen := by
  rcases h.2 with ⟨h1, h2⟩ | ⟨g, cap, cur, hv, hb, hh, h1, h2, h3, h4⟩
  · omega
  · injection hv with hv1 hv2 hv3
    subst hv3
    exact ⟨g, cur, hv1, hb, hh, h4, h3, h1, h2⟩
theorem own_row {α : Type} {enc : α → List Value} {size : Nat} (hs : ∀ x, (enc x).length = size) {l : List α} {cur : Array Value} {k : Nat} {t : α} (hk : l[k]? = some t) (ht : cur.toList.take (l.length * size) = flat enc l) : RowAt cur (k * size) (enc t) := by
  intro j v hv
  have h1 := flat_get hs l k t hk j v hv
  rw [← ht] at h1
  have hlt : k * size + j < (cur.toList.take (l.length * size)).length := (List.getElem?_eq_some_iff.1 h1).1
  rw [List.length_take] at hlt
  rw [List.getElem?_take_of_lt (by omega)] at h1
  simpa using h1
end Go.Proofs.YtjobcfpnmfjlfaaGreat

namespace Go.Proofs.YtjobcfpnmfjlfaaGreat
open Go.RowKit
set_option linter.unusedSimpArgs false
set_option linter.unusedVariables false

/-- A list lies in a row, which may be longer. -/
def HasRow {α : Type} (mem : AM) (r sz : Nat) (enc : α → List Value) (d : α) (l : List α) : Prop := ∃ t n el, lk mem r = some (.row t sz n el) ∧ l.length ≤ n ∧ ∀ k, k < l.length → el k = enc (l.getD k d)
theorem BlkOk.rdOf {C : Ctx} {ρ : Nat → Pl} {nx i : Nat} {w : World} {t : TypeId} {sz n : Nat} {el : Nat → List Value} {α : Type} {enc : α → List Value} {l : List α} {d : α} (h : BlkOk C ρ nx i w (.row t sz n el)) (hl : l.length ≤ n) (he : ∀ k, k < l.length → el k = enc (l.getD k d)) (hs : ∀ x, (enc x).length = sz) (hpos : 0 < sz) {S : Nat → Prop} (hS : l.length ≠ 0 → ∀ b off, (ρ i).A = some ⟨b, off, none⟩ → RowA C.w0.heap.size w t b off → S b) : Rd w S (ρ i).A (flat enc l) := by
  obtain ⟨-, -, h3⟩ := h
  intro hne
  have hl0 : l.length ≠ 0 := by
    intro h0
    rw [List.eq_nil_of_length_eq_zero h0] at hne
    exact hne rfl
  rcases h3 with h0 | ⟨b, off, hA, hlt, hc⟩
  · omega
  · refine ⟨b, off, hA, hS hl0 b off hA hlt, fun j v hv => ?_⟩
    obtain ⟨x, h1, h2⟩ := flat_at hs hpos l j v hv
    have hk : j / sz < l.length := (List.getElem?_eq_some_iff.1 h1).1
    have hx : l.getD (j / sz) d = x := by rw [List.getD_eq_getElem?_getD, h1]; rfl
    have := hc (j / sz) (by omega) (j % sz) v (by rw [he _ hk, hx]; exact h2)
    rw [← this]
    congr 2
    have := Nat.div_add_mod j sz
    rw [Nat.mul_comm] at this
    omega
theorem Sat.hasRd {C : Ctx} {ρ : Nat → Pl} {fr : AF} {mem : AM} {nx : Nat} {a : Act} {w : World} (h : Sat C ρ fr mem nx a w) {α : Type} {enc : α → List Value} {sz : Nat} (hsz : ∀ x, (enc x).length = sz) (hpos : 0 < sz) {l : List α} {d : α} {i : Nat} (hi : HasRow mem i sz enc d l) : Rd w (· < w.heap.size) (ρ i).A (flat enc l) := by
  obtain ⟨t, n, el, h1, h2, h3⟩ := hi
  exact (h.blk i _ (lk_app h1)).rdOf h2 h3 hsz hpos fun _ b off _ hr => hr.lt
/-- A list lies in a row that the call has made. -/
def NewRow {α : Type} (mem : AM) (r sz : Nat) (enc : α → List Value) (d : α) (l : List α) : Prop := ∃ t n el, lk mem r = some (.row t sz n el) ∧ frT t = true ∧ l.length ≤ n ∧ ∀ k, k < l.length → el k = enc (l.getD k d)
theorem MemAt.newRd {C : Ctx} {ρ : Nat → Pl} {mem : AM} {nx : Nat} {w : World} (h : MemAt C ρ mem nx w) {α : Type} {enc : α → List Value} {sz : Nat} (hsz : ∀ x, (enc x).length = sz) (hpos : 0 < sz) {l : List α} {d : α} {i : Nat} (hi : NewRow mem i sz enc d l) : Rd w (fun b => C.w0.heap.size ≤ b ∧ b < w.heap.size) (ρ i).A (flat enc l) := by
  obtain ⟨t, n, el, h1, h0, h2, h3⟩ := hi
  exact (h.blk i _ h1).rdOf h2 h3 hsz hpos fun _ b off _ hr => ⟨hr.new h0, hr.lt⟩
/-- A slice that holds a list, in a row that the call has made; or nil, if the list is empty. -/
def SlR {α : Type} (mem : AM) (sz : Nat) (enc : α → List Value) (d : α) (l : List α) (v : Value) : Prop :=
  (v = zs0 ∧ l = []) ∨ ∃ r cap t n el, v = slc r l.length cap ∧ lk mem r = some (.row t sz n el) ∧ frT t = true ∧ l.length ≤ n ∧ ∀ k, k < l.length → el k = enc (l.getD k d)
theorem MemAt.slR {C : Ctx} {ρ : Nat → Pl} {mem : AM} {nx : Nat} {w : World} (h : MemAt C ρ mem nx w) {α : Type} {enc : α → List Value} {sz : Nat} (hsz : ∀ x, (enc x).length = sz) (hpos : 0 < sz) {l : List α} {d : α} {v : Value} (hi : SlR mem sz enc d l v) :
    ∃ A c, den1 ρ v = .slice A l.length c ∧ Rd w (fun b => C.w0.heap.size ≤ b ∧ b < w.heap.size) A (flat enc l) := by
  rcases hi with ⟨rfl, rfl⟩ | ⟨r, cap, t, n, el, rfl, h1, h0, h2, h3⟩
  · exact ⟨none, 0, rfl, fun h => absurd rfl h⟩
  · exact ⟨_, cap, rfl, BlkOk.rdOf (h.blk r _ h1) h2 h3 hsz hpos fun _ b off _ hr => ⟨hr.new h0, hr.lt⟩⟩
theorem HasRow.list {α : Type} {mem : AM} {r sz : Nat} {enc : α → List Value} {d : α} {l : List α} {t : TypeId} (h : lk mem r = some (rowOfL t sz enc d l)) : HasRow mem r sz enc d l := ⟨_, _, _, h, Nat.le_refl _, fun k hk => rfl⟩
end Go.Proofs.YtjobcfpnmfjlfaaGreat

namespace Go.Proofs.YtjobcfpnmfjlfaaGreat
open Go.RowKit
set_option linter.unusedSimpArgs false
set_option linter.unusedVariables false

/-! Functions that read a configuration and states and give a value. -/
abbrev SN1 : SN := ⟨6, 7, 3⟩
abbrev SN2 : SN := ⟨8, 9, 3⟩
def rpl (x : CfgA) (c : Cfg) (y : StA) (s : St) (y2 : StA) (s2 : St) : Nat → Pl := fun j => match j with
  | 0 => ⟨x.az, 1, c.zones.length, false⟩
  | 1 => ⟨x.ac, 2, c.cells.length, false⟩
  | 2 => ⟨x.at_, 7, c.tenants.length, false⟩
  | 3 => ⟨x.av, 2, c.versions.length, false⟩
  | 4 => ⟨x.ar, 1, c.replicas.length, false⟩
  | 5 => ⟨x.ao, 1, c.observers.length, false⟩
  | 6 => ⟨y.at_, 12, s.tenants.length, false⟩
  | 7 => ⟨y.ac, 4, s.cells.length, false⟩
  | 8 => ⟨y2.at_, 12, s2.tenants.length, false⟩
  | _ => ⟨y2.ac, 4, s2.cells.length, false⟩
abbrev rdM (c : Cfg) (s s2 : St) : AM := cfgM CN1 c ++ (stM SN1 s ++ stM SN2 s2)
abbrev ck (x : CfgA) : CfgK := ⟨x.cz, x.cc, x.ct, x.cv, x.cr, x.co⟩
abbrev sk (y : StA) : StK := ⟨y.ct, y.cc⟩
theorem rpl_cfg (x : CfgA) (c : Cfg) (y : StA) (s : St) (y2 : StA) (s2 : St) : den (rpl x c y s y2 s2) (cfgV CN1 (ck x) c) = .agg (cfgC x c) := by rw [den_cfg]; rfl
theorem rpl_st (x : CfgA) (c : Cfg) (y : StA) (s : St) (y2 : StA) (s2 : St) : den (rpl x c y s y2 s2) (stV SN1 (sk y) s) = .agg (stC y s) := by rw [den_st]; rfl
theorem rpl_st2 (x : CfgA) (c : Cfg) (y : StA) (s : St) (y2 : StA) (s2 : St) : den (rpl x c y s y2 s2) (stV SN2 (sk y2) s2) = .agg (stC y2 s2) := by rw [den_st]; rfl
theorem rpl_cfg_ok (x : CfgA) (c : Cfg) (y : StA) (s : St) (y2 : StA) (s2 : St) : okV (rpl x c y s y2 s2) 10 (cfgV CN1 (ck x) c) := by
  intro u hu
  simp at hu
  rcases hu with rfl | rfl | rfl | rfl | rfl | rfl | rfl | rfl | rfl | rfl <;> first | trivial | exact ⟨by decide, rfl⟩
theorem rpl_st_ok (x : CfgA) (c : Cfg) (y : StA) (s : St) (y2 : StA) (s2 : St) : okV (rpl x c y s y2 s2) 10 (stV SN1 (sk y) s) := by
  intro u hu
  simp at hu
  rcases hu with rfl | rfl | rfl | rfl | rfl | rfl | rfl | rfl <;> first | trivial | exact ⟨by decide, rfl⟩
theorem rpl_st2_ok (x : CfgA) (c : Cfg) (y : StA) (s : St) (y2 : StA) (s2 : St) : okV (rpl x c y s y2 s2) 10 (stV SN2 (sk y2) s2) := by
  intro u hu
  simp at hu
  rcases hu with rfl | rfl | rfl | rfl | rfl | rfl | rfl | rfl <;> first | trivial | exact ⟨by decide, rfl⟩
theorem rd_calls {f : FuncId} {fn : Func} {F : FT} {D : List (Nat × DQ)} (hF : FTok Tryz.prog F) (hf : (Tryz.prog).funcs[f]? = some fn) (hb : fn.body = some (bodyOf fn)) (hcode : codeB fn.ntmps D (bodyOf fn) = true) {vs : List Value} (hn : Nat.ble vs.length fn.ntmps = true)
    (x : CfgA) (c : Cfg) (y : StA) (s : St) (y2 : StA) (s2 : St) (w : World) (hc : CfgOk w (· < w.heap.size) x c) (hs : StOk w (· < w.heap.size) y s) (hs2 : StOk w (· < w.heap.size) y2 s2) (hv : ∀ v ∈ vs, okV (rpl x c y s y2 s2) 10 v) {R : Value → Prop}
    (h : sx tt F D (bodyOf fn) (argF 0 vs) (rdM c s s2) 10 (endx tt fn.results.toList fun v _ _ => R v ∧ pureV v)) :
    Calls Tryz.prog f (vs.map (den (rpl x c y s y2 s2))).toArray w fun e w' => ∃ v, R v ∧ pureV v ∧ e = .returned v ∧ Below w.heap.size w w' := by
  have hpc : CfgPl (rpl x c y s y2 s2) CN1 x c := ⟨rfl, rfl, rfl, rfl, rfl, rfl⟩
  have hps : StPl (rpl x c y s y2 s2) SN1 y s := ⟨rfl, rfl⟩
  have hps2 : StPl (rpl x c y s y2 s2) SN2 y2 s2 := ⟨rfl, rfl⟩
  have hm : MemAt { w0 := w, bor := [], n0 := 10, ρ0 := rpl x c y s y2 s2, nt := fn.ntmps } (rpl x c y s y2 s2) (rdM c s s2) 10 w := MemAt.rows trivial (cfg_blks hpc hc (fun b hb => hb) (by decide) (st_blks hps hs (fun b hb => hb) (by decide) (by
    have := st_blks (C := { w0 := w, bor := [], n0 := 10, ρ0 := rpl x c y s y2 s2, nt := fn.ntmps }) (nx := 10) (r := []) hps2 hs2 (fun b hb => hb) (by decide) trivial
    exact this)))
  refine (calls_sx ttOk hF mixed hf hb hcode (vs := vs) hn ⟨rfl, rfl⟩ rfl hm hv h).mono ?_
  rintro e w' ⟨v, mem', nx', ρ', rfl, ⟨hR, hp⟩, -, hm'⟩
  exact ⟨v, hR, hp, by rw [(pure_den hp ρ' 0).1], ⟨hm'.rest.os, hm'.rest.tape, hm'.rest.output, hm'.rest.size, fun b hlt => hm'.rest.block b hlt (by simp)⟩⟩

/-! What such a function is handed, in the abstract and in the world. -/
inductive DT where
  | li (d : List Int)
  | cf (d : Cfg)
  | st (d : St)
  | vl (u : Value)
inductive PA where
  | li (i cap : Nat) (d : List Int)
  | cf (N : CN) (x : CfgK) (d : Cfg)
  | st (M : SN) (y : StK) (d : St)
  | vl (u : Value)
inductive PW where
  | li (A : Option Addr) (cap : Nat) (d : List Int)
  | cf (x : CfgA) (d : Cfg)
  | st (y : StA) (d : St)
  | vl (u : Value)
def PA.val : PA → Value
  | .li i cap l => slc i l.length cap
  | .cf N x c => cfgV N x c
  | .st M y s => stV M y s
  | .vl u => u
def PA.dt : PA → DT
  | .li _ _ l => .li l
  | .cf _ _ c => .cf c
  | .st _ _ s => .st s
  | .vl u => .vl u
def PA.keep (mem : AM) : PA → Prop
  | .li i _ l => lk mem i = some (intRow l)
  | .cf N _ c => keeps mem (cfgM N c)
  | .st M _ s => keeps mem (stM M s)
  | .vl u => pureV u
def PW.val : PW → Value
  | .li A cap l => .slice A l.length cap
  | .cf x c => .agg (cfgC x c)
  | .st y s => .agg (stC y s)
  | .vl u => u
def PW.dt : PW → DT
  | .li _ _ l => .li l
  | .cf _ c => .cf c
  | .st _ s => .st s
  | .vl u => .vl u
def PW.ok (w : World) : PW → Prop
  | .li A _ l => Rd w (· < w.heap.size) A (flat intC l)
  | .cf x c => CfgOk w (· < w.heap.size) x c
  | .st y s => StOk w (· < w.heap.size) y s
  | .vl u => pureV u
def PA.to (ρ : Nat → Pl) : PA → PW
  | .li i cap l => .li (ρ i).A cap l
  | .cf N x c => .cf (cfgX ρ N x) c
  | .st M y s => .st (stX ρ M y) s
  | .vl u => .vl u
def allK (mem : AM) (l : List PA) : Prop := List.rec (motive := fun _ => Prop) True (fun a _ ih => a.keep mem ∧ ih) l
theorem allK_mem {mem : AM} : ∀ {l : List PA}, allK mem l → ∀ a ∈ l, a.keep mem
  | [], _, a, ha => by cases ha
  | b :: r, h, a, ha => (List.mem_cons.1 ha).elim (fun e => e ▸ h.1) (allK_mem (l := r) h.2 a)
def ctPts (R : List DT → Value → Prop) (pre : List DT → Prop) : CT := fun vs mem nx K => ∃ l : List PA, vs = l.map PA.val ∧ allK mem l ∧ pre (l.map PA.dt) ∧ ∀ z, R (l.map PA.dt) z → K z mem nx
theorem ptsOk {f : FuncId} {R : List DT → Value → Prop} {pre : List DT → Prop} (ent : ((Tryz.prog).funcs[f]?).map (fun fn => (fn.name == "runtime.NumGoroutine", fn.body.isNone)) = some (false, false))
    (h : ∀ (ps : List PW) (w : World), pre (ps.map PW.dt) → (∀ p ∈ ps, p.ok w) → Calls Tryz.prog f (ps.map PW.val).toArray w fun e w' => ∃ v, R (ps.map PW.dt) v ∧ pureV v ∧ e = .returned v ∧ Below w.heap.size w w') : CSound Tryz.prog f (ctPts R pre) :=
  ⟨ent, fun {C ρ fr mem nx a w vs K} hc hs hv => by
    obtain ⟨l, rfl, hk, hp, hK⟩ := hc
    have hk' := allK_mem hk
    have e1 : (l.map PA.val).map (den ρ) = (l.map (PA.to ρ)).map PW.val := by
      rw [List.map_map, List.map_map]
      refine List.map_congr_left fun p hp => ?_
      cases p with
      | li i cap l => rfl
      | cf N x c => exact den_cfg ρ N x c
      | st M y s => exact den_st ρ M y s
      | vl u => exact (pure_den (hk' _ hp) ρ 0).1
    have e2 : (l.map (PA.to ρ)).map PW.dt = l.map PA.dt := by
      rw [List.map_map]
      refine List.map_congr_left fun p hp => ?_
      cases p <;> rfl
    rw [e1]
    refine (h (l.map (PA.to ρ)) w (by rw [e2]; exact hp) (fun p hp => ?_)).mono ?_
    · obtain ⟨q, hq, rfl⟩ := List.mem_map.1 hp
      cases q with
      | li i cap l => exact hs.rd (enc := intC) (sz := 1) (fun _ => rfl) (by omega) (show lk mem i = some (intRow l) from hk' _ hq) (fun b h _ => h)
      | cf N x c => exact hs.cfg (hk' _ hq) (fun b h _ => h)
      | st M y s => exact hs.st (hk' _ hq) (fun b h _ => h)
      | vl u => exact hk' _ hq
    · rintro e w' ⟨v, hR, hpl, rfl, hb⟩
      rw [e2] at hR
      exact ⟨v, mem, nx, ρ, by rw [(pure_den hpl ρ 0).1], hK v hR, hs.later hb, (pure_den hpl ρ nx).2, ExtS.refl _ _⟩⟩
theorem dt_nil {ps : List PW} (h : ps.map PW.dt = []) : ps = [] := List.map_eq_nil_iff.1 h
theorem dt_l {ps : List PW} {l : List Int} {r : List DT} (h : ps.map PW.dt = .li l :: r) : ∃ A cap qs, ps = .li A cap l :: qs ∧ qs.map PW.dt = r := by
  cases ps with
  | nil => cases h
  | cons p qs => cases p <;> simp [PW.dt] at h <;> obtain ⟨rfl, h⟩ := h; exact ⟨_, _, qs, rfl, h⟩
theorem dt_c {ps : List PW} {c : Cfg} {r : List DT} (h : ps.map PW.dt = .cf c :: r) : ∃ x qs, ps = .cf x c :: qs ∧ qs.map PW.dt = r := by
  cases ps with
  | nil => cases h
  | cons p qs => cases p <;> simp [PW.dt] at h <;> obtain ⟨rfl, h⟩ := h; exact ⟨_, qs, rfl, h⟩
theorem dt_s {ps : List PW} {s : St} {r : List DT} (h : ps.map PW.dt = .st s :: r) : ∃ y qs, ps = .st y s :: qs ∧ qs.map PW.dt = r := by
  cases ps with
  | nil => cases h
  | cons p qs => cases p <;> simp [PW.dt] at h <;> obtain ⟨rfl, h⟩ := h; exact ⟨_, qs, rfl, h⟩
theorem dt_v {ps : List PW} {u : Value} {r : List DT} (h : ps.map PW.dt = .vl u :: r) : ∃ qs, ps = .vl u :: qs ∧ qs.map PW.dt = r := by
  cases ps with
  | nil => cases h
  | cons p qs => cases p <;> simp [PW.dt] at h <;> obtain ⟨rfl, h⟩ := h; exact ⟨qs, rfl, h⟩
def noA : StA := ⟨none, 0, none, 0⟩
def noS : St := { tick := 0, count := 0, tenants := [], cells := [], proven := 0, evac := 0, low := 0, high := 0 }
theorem noS_ok (w : World) (S : Nat → Prop) : StOk w S noA noS := ⟨fun h => absurd rfl h, fun h => absurd rfl h⟩
/-! Functions that are handed lists of numbers. -/
def lpl (A0 : Option Addr) (n0 : Nat) (A1 : Option Addr) (n1 : Nat) : Nat → Pl := fun j => match j with
  | 0 => ⟨A0, 1, n0, false⟩
  | _ => ⟨A1, 1, n1, false⟩
theorem li_calls {f : FuncId} {fn : Func} {F : FT} {D : List (Nat × DQ)} (hF : FTok Tryz.prog F) (hf : (Tryz.prog).funcs[f]? = some fn) (hb : fn.body = some (bodyOf fn)) (hcode : codeB fn.ntmps D (bodyOf fn) = true) {vs : List Value} (hn : Nat.ble vs.length fn.ntmps = true)
    (A0 : Option Addr) (l0 : List Int) (A1 : Option Addr) (l1 : List Int) (w : World) (h0 : Rd w (· < w.heap.size) A0 (flat intC l0)) (h1 : Rd w (· < w.heap.size) A1 (flat intC l1)) (hv : ∀ v ∈ vs, okV (lpl A0 l0.length A1 l1.length) 2 v) {R : Value → Prop}
    (h : sx tt F D (bodyOf fn) (argF 0 vs) [(0, intRow l0), (1, intRow l1)] 2 (endx tt fn.results.toList fun v _ _ => R v ∧ pureV v)) :
    Calls Tryz.prog f (vs.map (den (lpl A0 l0.length A1 l1.length))).toArray w fun e w' => ∃ v, R v ∧ pureV v ∧ e = .returned v ∧ Below w.heap.size w w' := by
  have hm : MemAt { w0 := w, bor := [], n0 := 2, ρ0 := lpl A0 l0.length A1 l1.length, nt := fn.ntmps } (lpl A0 l0.length A1 l1.length) [(0, intRow l0), (1, intRow l1)] 2 w := MemAt.rows trivial
    ⟨⟨by decide, rfl, row_of_rd (enc := intC) (sz := 1) (fun _ => rfl) (by omega) intC_plain 0 rfl h0 (fun b hb => hb)⟩, ⟨by decide, rfl, row_of_rd (enc := intC) (sz := 1) (fun _ => rfl) (by omega) intC_plain 0 rfl h1 (fun b hb => hb)⟩, trivial⟩
  refine (calls_sx ttOk hF mixed hf hb hcode (vs := vs) hn ⟨rfl, rfl⟩ rfl hm hv h).mono ?_
  rintro e w' ⟨v, mem', nx', ρ', rfl, ⟨hR, hp⟩, -, hm'⟩
  exact ⟨v, hR, hp, by rw [(pure_den hp ρ' 0).1], ⟨hm'.rest.os, hm'.rest.tape, hm'.rest.output, hm'.rest.size, fun b hlt => hm'.rest.block b hlt (by simp)⟩⟩
end Go.Proofs.YtjobcfpnmfjlfaaGreat

namespace Go.Proofs.YtjobcfpnmfjlfaaGreat
open Go.RowKit
set_option linter.unusedSimpArgs false
set_option linter.unusedVariables false
/-! The laws of one step. No program in sight. -/

theorem applyP_ok {c : Cfg} {s x : St} {e : Ent} (h : applyP c s e = (x, 0)) : refusedE c s e = 0 ∧ x = effOf s e ∧ (booksB e = true → overB c x = false) := by
  unfold applyP at h
  by_cases h1 : refusedE c s e ≠ 0
  · rw [if_pos h1] at h
    exact absurd (congrArg Prod.snd h) h1
  · rw [if_neg h1] at h
    by_cases h2 : booksB e ∧ overB c (effOf s e)
    · rw [if_pos h2] at h
      exact absurd (congrArg Prod.snd h) (by simp)
    · rw [if_neg h2] at h
      have hx : effOf s e = x := congrArg Prod.fst h
      refine ⟨Classical.not_not.1 h1, hx.symm, fun hb => ?_⟩
      rw [← hx]
      cases ho : overB c (effOf s e) with
      | false => rfl
      | true => exact absurd ⟨hb, ho⟩ h2

/-! Capacity. -/
def bkAt (i : Int) (t : TS) (d : Ten) : Int :=
  if t.placed = false then 0 else (if t.shed then 0 else (if t.home = i then d.load else 0) + (if t.target = i then d.load else 0)) + (if t.standby = i then d.shadow else 0) + (if t.next = i then d.shadow else 0)
theorem addAt_length (l : List Int) (k n : Int) : (addAt l k n).length = l.length := by unfold addAt; split <;> simp
theorem addAt_getD (l : List Int) (k n : Int) {i : Nat} (hi : i < l.length) : (addAt l k n).getD i 0 = l.getD i 0 + (if k = i then n else 0) := by
  unfold addAt
  by_cases hk : 0 ≤ k ∧ k < l.length
  · rw [if_pos hk]
    obtain ⟨m, rfl⟩ := Int.eq_ofNat_of_zero_le hk.1
    rw [Int.toNat_natCast, List.getD_eq_getElem?_getD, List.getElem?_set]
    by_cases hm : m = i
    · subst hm
      simp [hi]
    · have : ¬ ((m : Int) = i) := by omega
      simp [hm, this]
  · rw [if_neg hk]
    have : ¬ (k = i) := by omega
    simp [this]
theorem bookT_length (l : List Int) (t : TS) (d : Ten) : (bookT l t d).length = l.length := by
  unfold bookT
  split
  · rfl
  · rw [addAt_length, addAt_length]
    split
    · rfl
    · rw [addAt_length, addAt_length]
theorem bookT_getD (l : List Int) (t : TS) (d : Ten) {i : Nat} (hi : i < l.length) : (bookT l t d).getD i 0 = l.getD i 0 + bkAt i t d := by
  unfold bookT bkAt
  by_cases hp : t.placed = false
  · rw [if_pos hp, if_pos hp]; omega
  · rw [if_neg hp, if_neg hp]
    by_cases hs : t.shed = true
    · rw [if_pos hs, if_pos hs, addAt_getD _ _ _ (by rw [addAt_length]; exact hi), addAt_getD _ _ _ hi]; omega
    · rw [if_neg hs, if_neg hs, addAt_getD _ _ _ (by simp only [addAt_length]; exact hi), addAt_getD _ _ _ (by simp only [addAt_length]; exact hi), addAt_getD _ _ _ (by simp only [addAt_length]; exact hi), addAt_getD _ _ _ hi]; omega
def sumI (i : Int) : List (TS × Ten) → Int
  | [] => 0
  | p :: q => bkAt i p.1 p.2 + sumI i q
theorem fold_getD {i : Nat} : ∀ (q : List (TS × Ten)) (l : List Int), i < l.length → (q.foldl (fun l p => bookT l p.1 p.2) l).getD i 0 = l.getD i 0 + sumI i q
  | [], l, _ => by simp [sumI]
  | p :: q, l, h => by
    rw [List.foldl_cons, fold_getD q _ (by rw [bookT_length]; exact h), bookT_getD _ _ _ h, sumI]
    omega
theorem booked_getD (c : Cfg) (s : St) {i : Nat} (hi : i < c.cells.length) : (booked c s).getD i 0 = sumI i (s.tenants.zip c.tenants) := by
  unfold booked
  rw [fold_getD _ _ (by simpa using hi)]
  rw [List.getD_eq_getElem?_getD, List.getElem?_replicate]
  simp [hi]
theorem sumI_set {i : Int} {t t' : TS} (ht : ∀ d : Ten, 0 ≤ d.load → 0 ≤ d.shadow → bkAt i t' d ≤ bkAt i t d) : ∀ (ts : List TS) (ds : List Ten) (k : Nat), ts[k]? = some t → (∀ d ∈ ds, 0 ≤ d.load ∧ 0 ≤ d.shadow) → sumI i ((ts.set k t').zip ds) ≤ sumI i (ts.zip ds)
  | [], ds, k, h, hd => by simp at h
  | a :: ts, [], k, h, hd => by cases k <;> simp [sumI]
  | a :: ts, d :: ds, 0, h, hd => by
    simp at h
    subst h
    have := hd d (by simp)
    have := ht d this.1 this.2
    simp only [List.set_cons_zero, List.zip_cons_cons, sumI]
    omega
  | a :: ts, d :: ds, k + 1, h, hd => by
    have ih := sumI_set ht ts ds k (by simpa using h) (fun d hd' => hd d (by simp [hd']))
    simp only [List.set_cons_succ, List.zip_cons_cons, sumI]
    omega
theorem overB_iff {c : Cfg} {s : St} : overB c s = false ↔ ∀ i : Nat, i < c.cells.length → (booked c s).getD i 0 ≤ (c.cells.getD i (0, 0)).2 := by
  unfold overB
  rw [Bool.eq_false_iff]
  constructor
  · intro h i hi
    refine Classical.byContradiction fun hn => h (List.any_eq_true.2 ⟨i, List.mem_range.2 hi, ?_⟩)
    simp only [decide_eq_true_eq]
    omega
  · intro h hn
    obtain ⟨i, hi, hd⟩ := List.any_eq_true.1 hn
    have := h i (List.mem_range.1 hi)
    simp only [decide_eq_true_eq] at hd
    omega
theorem ten_pos {c : Cfg} (hV : CfgV c) : ∀ d ∈ c.tenants, 0 ≤ d.load ∧ 0 ≤ d.shadow := by
  intro d hd
  have h1 := hV.ten d hd
  simp [tenOk, inR] at h1
  omega
theorem cap_new {c : Cfg} (hV : CfgV c) : overB c (stNew c) = false := by
  rw [overB_iff]
  intro i hi
  rw [booked_getD _ _ hi]
  have hcap : 1 ≤ (c.cells.getD i (0, 0)).2 := by
    rw [getD_some (List.getElem?_eq_getElem hi)]
    exact (hV.capy _ (List.getElem_mem hi)).1
  have : ∀ (n : Nat) (ds : List Ten), sumI i ((List.replicate n tsNew).zip ds) = 0 := by
    intro n
    induction n with
    | zero => intro ds; simp [sumI]
    | succ n ih =>
      intro ds
      cases ds with
      | nil => simp [sumI]
      | cons d ds =>
        have hb : bkAt i tsNew d = 0 := by simp [bkAt, tsNew]
        rw [List.replicate_succ, List.zip_cons_cons, sumI, ih, hb]
        rfl
  have := this c.tenants.length c.tenants
  unfold stNew
  simp only
  omega
theorem over_same {c : Cfg} {s x : St} (h : x.tenants = s.tenants) : overB c x = overB c s := by
  unfold overB booked
  rw [h]
theorem cap_step {c : Cfg} {s x : St} {e : Ent} (hV : CfgV c) (hI : StInv c s) (hc : overB c s = false) (h : applyP c s e = (x, 0)) : overB c x = false := by
  obtain ⟨hr, hx, hb⟩ := applyP_ok h
  by_cases hbk : booksB e = true
  · exact hb hbk
  have ha := acc_of hr
  have hk := ent_kind ha.ent
  obtain ⟨hti, hT, hC, hO, hE, hS, hU, hN, hne⟩ := ent_rng ha.ent
  have hkd := ha.kind
  subst hx
  have hlt := hI.lt
  clear hb h hr ha
  obtain ⟨kind, tick, tenant, cell, other, epoch, since, till, n⟩ := e
  simp only at *
  by_cases h8 : kind ≤ 8
  · have hten : 0 ≤ tenant ∧ tenant < s.tenants.length := by
      have : fT c.tenants.length kind = (0, (c.tenants.length : Int) - 1) := if_pos h8
      rw [this] at hT
      simp [inS, inR] at hT
      omega
    have hte : (effOf s ⟨kind, tick, tenant, cell, other, epoch, since, till, n⟩).tenants = s.tenants.set tenant.toNat (tenEff (tsAt s tenant) ⟨kind, tick, tenant, cell, other, epoch, since, till, n⟩) := by
      unfold effOf
      simp only [h8, if_true]
      rfl
    rw [overB_iff] at hc ⊢
    intro i hi
    refine Int.le_trans ?_ (hc i hi)
    rw [booked_getD _ _ hi, booked_getD _ _ hi, hte]
    refine sumI_set ?_ _ _ _ (tsAt_mem hten.1 hten.2).1 (ten_pos hV)
    intro d hd1 hd2
    have hI' := hI.ten _ (tsAt_mem hten.1 hten.2).2
    generalize htd : tsAt s tenant = t at *
    have hk' : kind = 3 ∨ (kind = 4 ∧ cell = -1) ∨ kind = 5 ∨ kind = 7 ∨ (kind = 8 ∧ n = 1) := by
      simp [booksB] at hbk
      have : kind = 8 → n = 0 ∨ n = 1 := by
        rintro rfl
        simp [inS, inR, fN] at hN
        omega
      omega
    have hi0 : (0 : Int) ≤ i := Int.natCast_nonneg _
    rcases hk' with rfl | ⟨rfl, rfl⟩ | rfl | rfl | ⟨rfl, rfl⟩
    · simp [bkAt, tenEff]
    · simp only [bkAt, tenEff]
      simp
      repeat' split
      all_goals omega
    · have hnx : cell = t.next ∧ t.placed = true := by
        simp only [kindE, readyE, htd] at hkd
        simp at hkd
        by_cases hp : t.placed = true
        · by_cases hcn : cell = t.next
          · exact ⟨hcn, hp⟩
          · simp [hp, hcn] at hkd
        · simp [hp] at hkd
      obtain ⟨rfl, hp⟩ := hnx
      simp only [bkAt, tenEff]
      simp [hp]
      repeat' split
      all_goals omega
    · simp only [bkAt, tenEff]
      simp
      repeat' split
      all_goals omega
    · simp only [bkAt, tenEff]
      simp
      repeat' split
      all_goals omega
  · rw [over_same (s := s)]
    · exact hc
    · unfold effOf
      simp only [h8, if_false]
      repeat' split
      all_goals rfl

/-! Versions. -/
def openN (s : St) : Nat := s.cells.countP (openB s.proven)
theorem ver_new (c : Cfg) : openN (stNew c) = 0 := by
  unfold openN stNew
  rw [List.countP_eq_zero]
  intro x hx
  obtain rfl := List.eq_of_mem_replicate hx
  show ¬ openB 1 csNew = true
  decide
theorem hasB_or {p n v : Int} (hp : 0 ≤ p) (h : hasB p v = true) : hasB (orBit p n) v = true := by
  simp only [hasB, Bool.and_eq_true, bitB] at h ⊢
  refine ⟨h.1, ?_⟩
  unfold orBit
  rw [Int.toNat_natCast, Nat.testBit_or, h.2]
  rfl
theorem countP_range {α : Type} [Inhabited α] (p : α → Bool) : ∀ l : List α, l.countP p = (List.range l.length).countP (fun i => p (l.getD i default)) := by
  intro l
  have h : l = (List.range l.length).map (fun i => l.getD i default) := by
    apply List.ext_getElem
    · simp
    · intro i h1 h2
      simp [List.getD_eq_getElem?_getD, h1]
  conv => lhs; rw [h]
  rw [List.countP_map]
  rfl
theorem countP_others (P : Nat → Bool) (k : Nat) : ∀ n, k < n → (List.range n).countP P = (List.range n).countP (fun i => decide (i ≠ k) && P i) + (if P k then 1 else 0) := by
  have hlt : ∀ n, n ≤ k → (List.range n).countP P = (List.range n).countP (fun i => decide (i ≠ k) && P i) := by
    intro n hn
    apply List.countP_congr
    intro i hi
    have := List.mem_range.1 hi
    have : i ≠ k := by omega
    simp [this]
  intro n
  induction n with
  | zero => intro h; omega
  | succ n ih =>
    intro h
    rw [List.range_succ, List.countP_append, List.countP_append]
    by_cases hk : k = n
    · subst hk
      rw [hlt k (Nat.le_refl _)]
      simp [List.countP_cons]
    · rw [ih (by omega)]
      have : n ≠ k := fun h => hk h.symm
      simp [List.countP_cons, this]
      omega
theorem others_eq {s : St} {k : Int} (h0 : 0 ≤ k) (h1 : k < s.cells.length) : openN s = others s k + (if openB s.proven (csAt s k) then 1 else 0) := by
  obtain ⟨m, rfl⟩ := Int.eq_ofNat_of_zero_le h0
  unfold openN others csAt
  rw [countP_range, countP_others _ m _ (by omega), List.countP_eq_length_filter]
  have e : ∀ i : Nat, decide (i ≠ m) = decide ((i : Int) ≠ (m : Int)) := by intro i; congr 1; rw [eq_iff_iff]; omega
  simp only [e, Int.toNat_natCast]
theorem ver_step {c : Cfg} {s x : St} {e : Ent} (hV : CfgV c) (hI : StInv c s) (hc : (openN s : Int) ≤ c.blast) (h : applyP c s e = (x, 0)) : (openN x : Int) ≤ c.blast := by
  obtain ⟨hr, hx, -⟩ := applyP_ok h
  have ha := acc_of hr
  have hk := ent_kind ha.ent
  obtain ⟨hti, hT, hC, hO, hE, hS, hU, hN, hne⟩ := ent_rng ha.ent
  have hkd := ha.kind
  subst hx
  have hlc := hI.lc
  have hnc := hV.nc
  clear h hr ha
  obtain ⟨kind, tick, tenant, cell, other, epoch, since, till, n⟩ := e
  simp only at *
  by_cases h11 : kind = 9 ∨ kind = 10 ∨ kind = 11
  · have hcel : 0 ≤ cell ∧ cell < s.cells.length := by
      have : fC c.cells.length kind = (0, (c.cells.length : Int) - 1) := if_pos (by omega)
      rw [this] at hC
      simp [inS, inR] at hC
      omega
    have hce : (effOf s ⟨kind, tick, tenant, cell, other, epoch, since, till, n⟩) = setCel (stamped s ⟨kind, tick, tenant, cell, other, epoch, since, till, n⟩) cell (celEff (csAt s cell) ⟨kind, tick, tenant, cell, other, epoch, since, till, n⟩) := by
      unfold effOf
      rw [if_neg (by simp only; omega), if_pos (by simp only; omega)]
    have hset : openN (effOf s ⟨kind, tick, tenant, cell, other, epoch, since, till, n⟩) = others s cell + (if openB s.proven (celEff (csAt s cell) ⟨kind, tick, tenant, cell, other, epoch, since, till, n⟩) then 1 else 0) := by
      rw [hce]
      have h2 : cell.toNat < s.cells.length := by omega
      have h3 := others_eq hcel.1 hcel.2
      have h4 : s.cells[cell.toNat] = csAt s cell := (getD_some (List.getElem?_eq_getElem h2)).symm
      show (s.cells.set cell.toNat _).countP (openB s.proven) = _
      rw [List.countP_set h2, h4]
      unfold openN at h3
      omega
    rw [hset]
    have h3 := others_eq hcel.1 hcel.2
    generalize hxd : csAt s cell = y at *
    rcases h11 with rfl | rfl | rfl
    · have : openB s.proven (celEff y ⟨9, tick, tenant, cell, other, epoch, since, till, n⟩) = openB s.proven y := rfl
      rw [this]
      omega
    · by_cases hq : y.running = n ∨ hasB s.proven n = true
      · have : openB s.proven (celEff y ⟨10, tick, tenant, cell, other, epoch, since, till, n⟩) = true → openB s.proven y = true := by
          simp only [openB, celEff]
          simp
          rcases hq with rfl | hq
          · intro h; left; rcases h with h | h <;> exact h
          · intro h; left; rcases h with h | h
            · exact h
            · rw [hq] at h; cases h
        by_cases ho : openB s.proven (celEff y ⟨10, tick, tenant, cell, other, epoch, since, till, n⟩) = true
        · rw [if_pos ho]; rw [if_pos (this ho)] at h3; omega
        · rw [if_neg ho]; omega
      · have : (others s cell : Int) < c.blast := by
          simp only [kindE, wantE, hxd] at hkd
          simp at hkd
          simp only [not_or, Bool.not_eq_true] at hq
          by_cases q1 : y.wanted = n
          · simp [q1] at hkd
          · by_cases q2 : s.low < (verAt c n).1 ∨ (verAt c n).2 < s.high
            · simp [q1, q2] at hkd
            · by_cases q3 : s.evac = 0
              · simp only [q1, q2, hq.1, hq.2, q3, if_false, or_self] at hkd
                simp at hkd
                omega
              · simp [q1, q2, hq.1, hq.2, q3] at hkd
        split <;> omega
    · have hw : n = y.wanted := by
        simp [kindE, runsE, hxd] at hkd
        by_cases hh : y.wanted = n
        · exact hh.symm
        · simp [hh] at hkd
      subst hw
      have : openB s.proven (celEff y ⟨11, tick, tenant, cell, other, epoch, since, till, y.wanted⟩) = true → openB s.proven y = true := by
        simp only [openB, celEff]
        simp
        intro h; right; exact h
      by_cases ho : openB s.proven (celEff y ⟨11, tick, tenant, cell, other, epoch, since, till, y.wanted⟩) = true
      · rw [if_pos ho]; rw [if_pos (this ho)] at h3; omega
      · rw [if_neg ho]; omega
  · by_cases h12 : kind = 12
    · subst h12
      refine Int.le_trans ?_ hc
      have hp := hI.proven
      have : openN (effOf s ⟨12, tick, tenant, cell, other, epoch, since, till, n⟩) ≤ openN s := by
        show s.cells.countP (openB (orBit s.proven n)) ≤ s.cells.countP (openB s.proven)
        apply List.countP_mono_left
        intro y hy
        simp only [openB, Bool.or_eq_true, Bool.not_eq_true']
        intro h
        rcases h with h | h
        · left
          cases hh : hasB s.proven y.running with
          | false => rfl
          | true => rw [hasB_or hp.1 hh] at h; cases h
        · right
          cases hh : hasB s.proven y.wanted with
          | false => rfl
          | true => rw [hasB_or hp.1 hh] at h; cases h
      omega
    · have : openN (effOf s ⟨kind, tick, tenant, cell, other, epoch, since, till, n⟩) = openN s := by
        unfold openN effOf
        have e1 : ¬ ((8 : Int) < kind ∧ kind ≤ 11) := by omega
        by_cases h8 : kind ≤ 8
        · simp only [h8, if_true]; rfl
        · have h11' : ¬ kind ≤ 11 := by omega
          simp only [h8, h11', h12, if_false]
          repeat' split
          all_goals rfl
      omega
theorem ent_ten {c : Cfg} {s : St} {e : Ent} (hI : StInv c s) (ha : entV c e = true) (h8 : e.kind ≤ 8) : 0 ≤ e.tenant ∧ e.tenant < s.tenants.length := by
  obtain ⟨hti, hT, -⟩ := ent_rng ha
  have : fT c.tenants.length e.kind = (0, (c.tenants.length : Int) - 1) := if_pos h8
  have hlt := hI.lt
  rw [this] at hT
  simp [inS, inR] at hT
  omega
end Go.Proofs.YtjobcfpnmfjlfaaGreat

namespace Go.Proofs.YtjobcfpnmfjlfaaGreat
open Go.RowKit
set_option linter.unusedSimpArgs false
set_option linter.unusedVariables false

/-! ref12.Same -/
def noC : Cfg := ⟨0, [], [], [], [], [], [], 0, 0, 0⟩
def noX : CfgA := ⟨none, 0, none, 0, none, 0, none, 0, none, 0, none, 0⟩
theorem noC_ok (w : World) (S : Nat → Prop) : CfgOk w S noX noC := ⟨fun h => absurd rfl h, fun h => absurd rfl h, fun h => absurd rfl h, fun h => absurd rfl h, fun h => absurd rfl h, fun h => absurd rfl h⟩
theorem nb {b : Bool} (h : (!b) = false) : b = true := by cases b <;> simp_all
theorem eqTs (a b : TS) : eqCs (tsC a) (tsC b) = true ↔ a = b := by
  obtain ⟨a1, a2, a3, a4, a5, a6, a7, ⟨a8, a9, a10, a11, a12⟩⟩ := a
  obtain ⟨b1, b2, b3, b4, b5, b6, b7, ⟨b8, b9, b10, b11, b12⟩⟩ := b
  simp [tsC, eqCs, eqC1]
theorem eqCsC (a b : CS) : eqCs (csC a) (csC b) = true ↔ a = b := by
  obtain ⟨a1, a2, a3, a4⟩ := a
  obtain ⟨b1, b2, b3, b4⟩ := b
  simp [csC, eqCs, eqC1]
theorem list_eq_of {α : Type} {l l2 : List α} (d : α) (hl : l.length = l2.length) (h : ∀ k : Nat, (k : Int) < l.length → l.getD k d = l2.getD k d) : l = l2 := by
  apply List.ext_getElem? 
  intro k
  by_cases hk : k < l.length
  · have := h k (by omega)
    rw [getD_get (d := d) hk, getD_get (d := d) (by omega), this]
  · rw [List.getElem?_eq_none (by omega), List.getElem?_eq_none (by omega)]
def smD : List (Nat × DQ) := [
  (2000004, { k := 0, L := [6, 7, 8, 9, 10, 11], sl := [2, 3] }),
  (2000009, { k := 0, L := [6, 7, 8, 9, 10, 11], sl := [2, 3] }),
  (6, { k := 10, L := [6, 8, 10, 11], g := some (.fix 0 (.fix 1 (.fix 2 (.fix 5 (.fix 6 (.fix 7 (.two 3 (.fix 4 (.act 8 (.fix 9 .fin))) 8 (.fix 9 (.act 3 (.fix 4 .fin)))))))))) }),
  (11, { k := 10, L := [7, 9, 10, 11], g := some (.fix 0 (.fix 1 (.fix 2 (.fix 5 (.fix 6 (.fix 7 (.two 3 (.fix 4 (.act 8 (.fix 9 .fin))) 8 (.fix 9 (.act 3 (.fix 4 .fin)))))))))) })]
set_option maxRecDepth 100000 in
set_option maxHeartbeats 4000000 in
theorem same_sx (y : StK) (s : St) (y2 : StK) (s2 : St) (hm : s.tenants.length ≤ 1000000) (hm2 : s.cells.length ≤ 1000000) :
    sx tt [] smD (bodyOf Tryz.f16) (argF 0 [stV SN1 y s, stV SN2 y2 s2]) (rdM noC s s2) 10 (endx tt Tryz.f16.results.toList fun v _ _ => (∃ b, v = .bool b ∧ (b = true ↔ s = s2)) ∧ pureV v) := by
  refine ⟨fun h0 => ?_, fun h0 => ?_⟩
  · refine ⟨fun _ => ?_, fun h => nomatch h⟩
    refine ⟨fun _ => ?_, fun h => nomatch h⟩
    refine ⟨fun _ => ?_, fun h => nomatch h⟩
    refine ⟨fun _ => ?_, fun h => nomatch h⟩
    refine ⟨fun _ => ?_, fun h => nomatch h⟩
    refine ⟨fun _ => ?_, fun h => nomatch h⟩
    refine ⟨fun _ => ?_, fun h => nomatch h⟩
    exact ⟨⟨false, rfl, (fun h => nomatch h), fun h => by subst h; simp at h0⟩, trivial⟩
  · have e0 : s.tick = s2.tick := by simpa using h0
    refine ⟨fun h1 => ?_, fun h1 => ?_⟩
    · refine ⟨fun _ => ?_, fun h => nomatch h⟩
      refine ⟨fun _ => ?_, fun h => nomatch h⟩
      refine ⟨fun _ => ?_, fun h => nomatch h⟩
      refine ⟨fun _ => ?_, fun h => nomatch h⟩
      refine ⟨fun _ => ?_, fun h => nomatch h⟩
      refine ⟨fun _ => ?_, fun h => nomatch h⟩
      exact ⟨⟨false, rfl, (fun h => nomatch h), fun h => by subst h; simp at h1⟩, trivial⟩
    · have e1 : s.count = s2.count := by simpa using h1
      refine ⟨fun h2 => ?_, fun h2 => ?_⟩
      · refine ⟨fun _ => ?_, fun h => nomatch h⟩
        refine ⟨fun _ => ?_, fun h => nomatch h⟩
        refine ⟨fun _ => ?_, fun h => nomatch h⟩
        refine ⟨fun _ => ?_, fun h => nomatch h⟩
        refine ⟨fun _ => ?_, fun h => nomatch h⟩
        exact ⟨⟨false, rfl, (fun h => nomatch h), fun h => by subst h; simp at h2⟩, trivial⟩
      · have e2 : s.proven = s2.proven := by simpa using h2
        refine ⟨fun h3 => ?_, fun h3 => ?_⟩
        · refine ⟨fun _ => ?_, fun h => nomatch h⟩
          refine ⟨fun _ => ?_, fun h => nomatch h⟩
          refine ⟨fun _ => ?_, fun h => nomatch h⟩
          refine ⟨fun _ => ?_, fun h => nomatch h⟩
          exact ⟨⟨false, rfl, (fun h => nomatch h), fun h => by subst h; simp at h3⟩, trivial⟩
        · have e3 : s.evac = s2.evac := by simpa using h3
          refine ⟨fun h4 => ?_, fun h4 => ?_⟩
          · refine ⟨fun _ => ?_, fun h => nomatch h⟩
            refine ⟨fun _ => ?_, fun h => nomatch h⟩
            refine ⟨fun _ => ?_, fun h => nomatch h⟩
            exact ⟨⟨false, rfl, (fun h => nomatch h), fun h => by subst h; simp at h4⟩, trivial⟩
          · have e4 : s.low = s2.low := by simpa using h4
            refine ⟨fun h5 => ?_, fun h5 => ?_⟩
            · refine ⟨fun _ => ?_, fun h => nomatch h⟩
              refine ⟨fun _ => ?_, fun h => nomatch h⟩
              exact ⟨⟨false, rfl, (fun h => nomatch h), fun h => by subst h; simp at h5⟩, trivial⟩
            · have e5 : s.high = s2.high := by simpa using h5
              refine ⟨fun h6 => ?_, fun h6 => ?_⟩
              · refine ⟨fun _ => ?_, fun h => nomatch h⟩
                exact ⟨⟨false, rfl, (fun h => nomatch h), fun h => by subst h; simp at h6⟩, trivial⟩
              · have e6 : s.tenants.length = s2.tenants.length := by have q := h6; simp at q; omega
                refine ⟨fun h7 => ?_, fun h7 => ?_⟩
                · exact ⟨⟨false, rfl, (fun h => nomatch h), fun h => by subst h; simp at h7⟩, trivial⟩
                · have e7 : s.cells.length = s2.cells.length := by have q := h7; simp at q; omega
                  refine ⟨Int, fun i => [(5, .int .i64 i)], fun _ => [], fun i => (0 ≤ i ∧ i ≤ s.tenants.length) ∧ ∀ k : Nat, (k : Int) < i → s.tenants.getD k default = s2.tenants.getD k default, fun i => ((s.tenants.length : Int) - i).toNat, ⟨0, ⟨by omega, fun k hk => absurd hk (by omega)⟩, (by repeat (first | exact trivial | refine ⟨rfl, ?_⟩)), (by repeat (first | exact trivial | refine ⟨rfl, ?_⟩))⟩, ?_⟩
                  rintro i ⟨hi, he⟩
                  refine ⟨⟨rfl, rfl⟩, ?_⟩
                  refine ⟨fun hlt => ?_, fun hge => ?_⟩
                  · have hlt2 : i < (s.tenants.length : Int) := of_decide_eq_true hlt
                    refine ⟨?_, ?_⟩
                    · refine ⟨⟨Nat.le_refl _, hi.1, hlt2⟩, (by repeat (first | exact trivial | refine ⟨rfl, ?_⟩)), ?_⟩
                      refine ⟨⟨Nat.le_refl _, hi.1, by omega⟩, (by repeat (first | exact trivial | refine ⟨rfl, ?_⟩)), ?_⟩
                      refine ⟨fun hne => ?_, fun heq => ?_⟩
                      · refine ⟨⟨false, rfl, (fun h => nomatch h), fun h => ?_⟩, trivial⟩
                        have hne2 : (!eqCs (tsC (s.tenants.getD i.toNat default)) (tsC (s2.tenants.getD i.toNat default))) = true := hne
                        subst h
                        rw [(eqTs _ _).2 rfl] at hne2
                        cases hne2
                      · have heq2 : (!eqCs (tsC (s.tenants.getD i.toNat default)) (tsC (s2.tenants.getD i.toNat default))) = false := heq
                        have hq : s.tenants.getD i.toNat default = s2.tenants.getD i.toNat default := (eqTs _ _).1 (nb heq2)
                        refine ⟨_, ?_, (by repeat (first | exact trivial | refine ⟨rfl, ?_⟩)), (by repeat (first | exact trivial | refine ⟨rfl, ?_⟩))⟩
                        rw [wrapi (n := i + 1) (by omega)]
                        dsimp only
                        refine ⟨⟨⟨by omega, by omega⟩, fun k hk => ?_⟩, by omega⟩
                        by_cases hki : (k : Int) < i
                        · exact he k hki
                        · obtain rfl : k = i.toNat := by omega
                          exact hq
                    · refine ⟨⟨Nat.le_refl _, hi.1, by omega⟩, (by repeat (first | exact trivial | refine ⟨rfl, ?_⟩)), ?_⟩
                      refine ⟨⟨Nat.le_refl _, hi.1, hlt2⟩, (by repeat (first | exact trivial | refine ⟨rfl, ?_⟩)), ?_⟩
                      refine ⟨fun hne => ?_, fun heq => ?_⟩
                      · refine ⟨⟨false, rfl, (fun h => nomatch h), fun h => ?_⟩, trivial⟩
                        have hne2 : (!eqCs (tsC (s.tenants.getD i.toNat default)) (tsC (s2.tenants.getD i.toNat default))) = true := hne
                        subst h
                        rw [(eqTs _ _).2 rfl] at hne2
                        cases hne2
                      · have heq2 : (!eqCs (tsC (s.tenants.getD i.toNat default)) (tsC (s2.tenants.getD i.toNat default))) = false := heq
                        have hq : s.tenants.getD i.toNat default = s2.tenants.getD i.toNat default := (eqTs _ _).1 (nb heq2)
                        refine ⟨_, ?_, (by repeat (first | exact trivial | refine ⟨rfl, ?_⟩)), (by repeat (first | exact trivial | refine ⟨rfl, ?_⟩))⟩
                        rw [wrapi (n := i + 1) (by omega)]
                        dsimp only
                        refine ⟨⟨⟨by omega, by omega⟩, fun k hk => ?_⟩, by omega⟩
                        by_cases hki : (k : Int) < i
                        · exact he k hki
                        · obtain rfl : k = i.toNat := by omega
                          exact hq
                  · have hge2 : ¬ i < (s.tenants.length : Int) := of_decide_eq_false hge
                    have eT : s.tenants = s2.tenants := list_eq_of default (by omega) fun k hk => he k (by omega)
                    refine ⟨Int, fun i => [(6, .int .i64 i)], fun _ => [], fun i => (0 ≤ i ∧ i ≤ s.cells.length) ∧ ∀ k : Nat, (k : Int) < i → s.cells.getD k default = s2.cells.getD k default, fun i => ((s.cells.length : Int) - i).toNat, ⟨0, ⟨by omega, fun k hk => absurd hk (by omega)⟩, (by repeat (first | exact trivial | refine ⟨rfl, ?_⟩)), (by repeat (first | exact trivial | refine ⟨rfl, ?_⟩))⟩, ?_⟩
                    rintro i ⟨hi, he⟩
                    refine ⟨⟨rfl, rfl⟩, ?_⟩
                    refine ⟨fun hlt => ?_, fun hge => ?_⟩
                    · have hlt2 : i < (s.cells.length : Int) := of_decide_eq_true hlt
                      refine ⟨?_, ?_⟩
                      · refine ⟨⟨Nat.le_refl _, hi.1, hlt2⟩, (by repeat (first | exact trivial | refine ⟨rfl, ?_⟩)), ?_⟩
                        refine ⟨⟨Nat.le_refl _, hi.1, by omega⟩, (by repeat (first | exact trivial | refine ⟨rfl, ?_⟩)), ?_⟩
                        refine ⟨fun hne => ?_, fun heq => ?_⟩
                        · refine ⟨⟨false, rfl, (fun h => nomatch h), fun h => ?_⟩, trivial⟩
                          have hne2 : (!eqCs (csC (s.cells.getD i.toNat default)) (csC (s2.cells.getD i.toNat default))) = true := hne
                          subst h
                          rw [(eqCsC _ _).2 rfl] at hne2
                          cases hne2
                        · have heq2 : (!eqCs (csC (s.cells.getD i.toNat default)) (csC (s2.cells.getD i.toNat default))) = false := heq
                          have hq : s.cells.getD i.toNat default = s2.cells.getD i.toNat default := (eqCsC _ _).1 (nb heq2)
                          refine ⟨_, ?_, (by repeat (first | exact trivial | refine ⟨rfl, ?_⟩)), (by repeat (first | exact trivial | refine ⟨rfl, ?_⟩))⟩
                          rw [wrapi (n := i + 1) (by omega)]
                          dsimp only
                          refine ⟨⟨⟨by omega, by omega⟩, fun k hk => ?_⟩, by omega⟩
                          by_cases hki : (k : Int) < i
                          · exact he k hki
                          · obtain rfl : k = i.toNat := by omega
                            exact hq
                      · refine ⟨⟨Nat.le_refl _, hi.1, by omega⟩, (by repeat (first | exact trivial | refine ⟨rfl, ?_⟩)), ?_⟩
                        refine ⟨⟨Nat.le_refl _, hi.1, hlt2⟩, (by repeat (first | exact trivial | refine ⟨rfl, ?_⟩)), ?_⟩
                        refine ⟨fun hne => ?_, fun heq => ?_⟩
                        · refine ⟨⟨false, rfl, (fun h => nomatch h), fun h => ?_⟩, trivial⟩
                          have hne2 : (!eqCs (csC (s.cells.getD i.toNat default)) (csC (s2.cells.getD i.toNat default))) = true := hne
                          subst h
                          rw [(eqCsC _ _).2 rfl] at hne2
                          cases hne2
                        · have heq2 : (!eqCs (csC (s.cells.getD i.toNat default)) (csC (s2.cells.getD i.toNat default))) = false := heq
                          have hq : s.cells.getD i.toNat default = s2.cells.getD i.toNat default := (eqCsC _ _).1 (nb heq2)
                          refine ⟨_, ?_, (by repeat (first | exact trivial | refine ⟨rfl, ?_⟩)), (by repeat (first | exact trivial | refine ⟨rfl, ?_⟩))⟩
                          rw [wrapi (n := i + 1) (by omega)]
                          dsimp only
                          refine ⟨⟨⟨by omega, by omega⟩, fun k hk => ?_⟩, by omega⟩
                          by_cases hki : (k : Int) < i
                          · exact he k hki
                          · obtain rfl : k = i.toNat := by omega
                            exact hq
                    · have hge2 : ¬ i < (s.cells.length : Int) := of_decide_eq_false hge
                      have eC : s.cells = s2.cells := list_eq_of default (by omega) fun k hk => he k (by omega)
                      refine ⟨⟨true, rfl, fun _ => ?_, fun _ => rfl⟩, trivial⟩
                      obtain ⟨a1, a2, a3, a4, a5, a6, a7, a8⟩ := s
                      obtain ⟨b1, b2, b3, b4, b5, b6, b7, b8⟩ := s2
                      simp only at e0 e1 e2 e3 e4 e5 eT eC
                      subst e0 e1 e2 e3 e4 e5 eT eC
                      rfl
theorem r12Same_any (y : StA) (s : St) (y2 : StA) (s2 : St) (w : World) (hs : StOk w (· < w.heap.size) y s) (hs2 : StOk w (· < w.heap.size) y2 s2) (hm : s.tenants.length ≤ 1000000) (hm2 : s.cells.length ≤ 1000000) :
    Calls Tryz.prog 16 #[.agg (stC y s), .agg (stC y2 s2)] w fun r w' => ∃ z, (∃ b, z = .bool b ∧ (b = true ↔ s = s2)) ∧ r = .returned z ∧ Below w.heap.size w w' := by
  have := rd_calls ft_nil Tryz.func16 rfl (D := smD) (by kernel_rfl) (vs := [stV SN1 (sk y) s, stV SN2 (sk y2) s2]) rfl noX noC y s y2 s2 w (noC_ok _ _) hs hs2 (fun v hv => by
    simp only [List.mem_cons, List.not_mem_nil, or_false] at hv
    rcases hv with rfl | rfl
    · exact rpl_st_ok noX noC y s y2 s2
    · exact rpl_st2_ok noX noC y s y2 s2) (R := fun v => ∃ b, v = .bool b ∧ (b = true ↔ s = s2)) (same_sx (sk y) s (sk y2) s2 hm hm2)
  rw [List.map_cons, List.map_cons, rpl_st, rpl_st2] at this
  refine this.mono ?_
  rintro e w' ⟨v, hR, -, rfl, hb⟩
  exact ⟨v, hR, rfl, hb⟩
end Go.Proofs.YtjobcfpnmfjlfaaGreat

namespace Go.Proofs.YtjobcfpnmfjlfaaGreat
open Go.RowKit
set_option linter.unusedSimpArgs false
set_option linter.unusedVariables false

/-! Rows that are the call's own: stores, and what a callee hands back. -/
theorem setEl_same (el : Nat → List Value) (k : Nat) (l : List Value) : setEl el k l k = l := by unfold setEl; rw [show Nat.beq k k = true from Nat.beq_refl k]
theorem setEl_set {α : Type} {enc : α → List Value} {d : α} {l : List α} {k : Nat} {x : α} (h : k < l.length) : setEl (fun j => enc (l.getD j d)) k (enc x) = fun j => enc ((l.set k x).getD j d) := by
  funext j
  unfold setEl
  by_cases hj : j = k
  · subst hj
    rw [show Nat.beq j j = true from Nat.beq_refl j]
    show enc x = _
    rw [List.getD_eq_getElem?_getD, List.getElem?_set_self h]
    rfl
  · have hb : Nat.beq j k = false := by
      cases hb : Nat.beq j k
      · rfl
      · exact absurd (Nat.eq_of_beq_eq_true hb) hj
    rw [hb]
    show enc _ = _
    rw [List.getD_eq_getElem?_getD, List.getD_eq_getElem?_getD, List.getElem?_set_ne (Ne.symm hj)]
theorem getD_set {α : Type} {d : α} {l : List α} {k : Nat} {x : α} (h : k < l.length) : (l.set k x).getD k d = x := by
  rw [List.getD_eq_getElem?_getD, List.getElem?_set_self h]; rfl

section
variable {C : Ctx} {ρ : Nat → Pl} {fr : AF} {mem : AM} {nx : Nat} {a : Act} {w w' : World}
/-- One more row, apart from all else. -/
theorem Sat.addOwn (h : Sat C ρ fr mem nx a w) {t : TypeId} {sz n : Nat} {el : Nat → List Value} {p : Pl} (hp : p.res = false) (hok : BlkOk C (setPl ρ nx p) (nx + 1) nx w (.row t sz n el))
    (hnew : n = 0 ∨ ∀ i b, lk (mem ++ C.fm) i = some b → (∃ t sz el, b = .row t sz 0 el) ∨ bno ρ i ≠ p.A.map (·.block)) : Sat C (setPl ρ nx p) fr ((nx, .row t sz n el) :: mem) (nx + 1) a w := by
  have hr : ∀ j, j < nx → (ρ j).res = false → setPl ρ nx p j = ρ j := fun j hj _ => setPl_lt ρ p hj
  have h1 := h.ren (ρ' := setPl ρ nx p) (m := nx + 1) hr (Nat.le_succ _) (fun j hj => setPl_lt ρ p (Nat.lt_of_lt_of_le hj h.n0))
  have e1 : bno (setPl ρ nx p) nx = p.A.map (·.block) := by unfold bno; rw [setPl_same]
  have e2 : ∀ j b, lk (mem ++ C.fm) j = some b → bno (setPl ρ nx p) j = bno ρ j := fun j b hj => by unfold bno; rw [setPl_lt ρ p (h.mlt j b hj).1]
  have key : ∀ j b', lk (mem ++ C.fm) j = some b' → Apart (setPl ρ nx p) nx j (.row t sz n el) b' ∧ Apart (setPl ρ nx p) j nx b' (.row t sz n el) := by
    intro j b' hj
    cases b' with
    | box t2 cs2 =>
      refine ⟨trivial, ?_⟩
      rcases hnew with hn | hn
      · exact .inl hn
      · refine .inr ?_
        rw [e1, e2 j _ hj]
        rcases hn j _ hj with ⟨_, _, _, q⟩ | q
        · cases q
        · exact q
    | row t2 sz2 n2 el2 =>
      simp only [Apart]
      rcases hnew with hn | hn
      · exact ⟨fun _ => .inl hn, fun _ => .inr (.inl hn)⟩
      · rcases hn j _ hj with ⟨_, _, _, q⟩ | q
        · cases q; exact ⟨fun _ => .inr (.inl rfl), fun _ => .inl rfl⟩
        · rw [e1, e2 j _ hj]; exact ⟨fun _ => .inr (.inr (Ne.symm q)), fun _ => .inr (.inr q)⟩
  refine ⟨h1.fok, h1.sz, h1.dfr, fun i b' hi => ?_, fun i b' hi => ?_, fun i j b1 b2 hne hi hj => ?_, h1.n0, h1.low, h1.rest⟩
  · rcases lk_cons hi with ⟨rfl, rfl⟩ | ⟨hne, hi⟩
    · exact ⟨Nat.lt_succ_self _, by rw [setPl_same]; exact hp⟩
    · exact h1.mlt i b' hi
  · rcases lk_cons hi with ⟨rfl, rfl⟩ | ⟨hne, hi⟩
    · exact hok
    · exact h1.blk i b' hi
  · rcases lk_cons hi with ⟨rfl, rfl⟩ | ⟨hni, hi⟩
    · rcases lk_cons hj with ⟨rfl, rfl⟩ | ⟨hnj, hj⟩
      · exact absurd rfl hne
      · exact (key j b2 hj).1
    · rcases lk_cons hj with ⟨rfl, rfl⟩ | ⟨hnj, hj⟩
      · exact (key i b1 hi).2
      · exact h1.sep i j b1 b2 hne hi hj
/-- A row that the callee has made: its whole block is known. -/
structure OwnL {α : Type} (B : Nat) (w : World) (A : Option Addr) (sz : Nat) (enc : α → List Value) (d : α) (l : List α) (b : Nat) : Prop where
  at_ : l ≠ [] → A = some ⟨b, 0, none⟩ ∧ B ≤ b ∧ ∃ ty cs, Blk w b ty cs
  cells : ∀ k, k < l.length → ∀ j v, (enc (l.getD k d))[j]? = some v → w.cell? ⟨b, k * sz + j, none⟩ = some v
theorem OwnL.blk {α : Type} {B : Nat} {A : Option Addr} {sz : Nat} {enc : α → List Value} {d : α} {l : List α} {b : Nat} (h : OwnL B w A sz enc d l b) (hB : C.w0.heap.size ≤ B) (hs : ∀ x, (enc x).length = sz) (hpl : ∀ x, ∀ v ∈ enc x, plain1 v) {ρ : Nat → Pl} {i nx : Nat} (hρ : ρ i = ⟨A, sz, l.length, false⟩) (t : TypeId) : BlkOk C ρ nx i w (.row t sz l.length (fun k => enc (l.getD k d))) := by
  refine ⟨⟨by rw [hρ], by rw [hρ]⟩, fun k hk => ⟨hs _, hpl _⟩, ?_⟩
  by_cases h0 : l = []
  · exact .inl (by rw [h0]; rfl)
  · obtain ⟨hA, hb, ty, cs, hblk⟩ := h.at_ h0
    refine .inr ⟨b, 0, by rw [hρ]; exact hA, ⟨hblk.lt, fun _ => ⟨rfl, Nat.le_trans hB hb, ty, cs, hblk⟩, fun _ => Nat.le_trans hB hb⟩, fun k hk j v hv => ?_⟩
    rw [Nat.zero_add]
    exact h.cells k hk j v hv
abbrev tsO (l : List TS) : ABlk := .row (1000000 + 58) 12 l.length (fun k => tsC (l.getD k default))
abbrev csO (l : List CS) : ABlk := .row (1000000 + 54) 4 l.length (fun k => csC (l.getD k default))
abbrev stMO (M : SN) (s : St) : AM := [(M.t, tsO s.tenants), (M.c, csO s.cells)]
/-- A state in rows of the callee's own, at bt and bc. -/
structure StOwn2 (B : Nat) (w : World) (y : StA) (s : St) : Prop where
  ex : ∃ bt bc, OwnL B w y.at_ 12 tsC default s.tenants bt ∧ OwnL B w y.ac 4 csC default s.cells bc ∧ (s.tenants ≠ [] → s.cells ≠ [] → bt ≠ bc)
theorem Sat.addOwnSt (h0 : Sat C ρ fr mem nx a w) (hb : Below w.heap.size w w') {y : StA} {s : St} (hs : StOwn2 w.heap.size w' y s) :
    Sat C (stPl ρ nx y s) fr (stMO ⟨nx + 1, nx, 0⟩ s ++ mem) (nx + 2) a w' ∧ den (stPl ρ nx y s) (stV ⟨nx + 1, nx, 0⟩ ⟨y.ct, y.cc⟩ s) = .agg (stC y s) ∧ okV (stPl ρ nx y s) (nx + 2) (stV ⟨nx + 1, nx, 0⟩ ⟨y.ct, y.cc⟩ s) ∧ ExtS ρ nx (stPl ρ nx y s) (nx + 2) := by
  obtain ⟨bt, bc, ht, hc, hne⟩ := hs.ex
  have hlt : ∀ i b, lk (mem ++ C.fm) i = some b → (∃ t sz el, b = .row t sz 0 el) ∨ ∃ g, bno ρ i = some g ∧ g < w.heap.size := by
    intro i b hi
    have hok := h0.blk i b hi
    cases b with
    | box t cs => obtain ⟨g, e1, e2⟩ := hok.lt; exact .inr ⟨g, e1, e2⟩
    | row t sz n el =>
      rcases hok.2.2 with rfl | ⟨b, off, hA, hat, -⟩
      · exact .inl ⟨_, _, _, rfl⟩
      · exact .inr ⟨b, by simp [bno, hA], hat.lt⟩
  have h1 := (h0.later hb).addOwn (p := ⟨y.ac, 4, s.cells.length, false⟩) rfl (hc.blk (t := 1000000 + 54) h0.rest.size (fun _ => rfl) csC_plain (setPl_same _ _ _)) (by
    by_cases hz : s.cells = []
    · exact .inl (by rw [hz]; rfl)
    · obtain ⟨hA, hle, -⟩ := hc.at_ hz
      refine .inr fun i b hi => ?_
      rcases hlt i b hi with q | ⟨g, e1, e2⟩
      · exact .inl q
      · refine .inr ?_
        rw [e1, hA]
        simp
        omega)
  have h2 := h1.addOwn (p := ⟨y.at_, 12, s.tenants.length, false⟩) rfl (ht.blk (t := 1000000 + 58) h0.rest.size (fun _ => rfl) tsC_plain (setPl_same _ _ _)) (by
    by_cases hz : s.tenants = []
    · exact .inl (by rw [hz]; rfl)
    · obtain ⟨hA, hle, -⟩ := ht.at_ hz
      refine .inr fun i b hi => ?_
      rcases lk_cons (l := mem ++ C.fm) hi with ⟨rfl, rfl⟩ | ⟨_, hi⟩
      · by_cases hz2 : s.cells = []
        · exact .inl ⟨_, _, _, by rw [hz2]; rfl⟩
        · obtain ⟨hA2, hle2, -⟩ := hc.at_ hz2
          refine .inr ?_
          unfold bno
          rw [setPl_same, hA, hA2]
          simp
          exact Ne.symm (hne hz hz2)
      · rcases hlt i b hi with q | ⟨g, e1, e2⟩
        · exact .inl q
        · refine .inr ?_
          have : bno (setPl ρ nx ⟨y.ac, 4, s.cells.length, false⟩) i = bno ρ i := by unfold bno; rw [setPl_lt _ _ (h0.mlt i b hi).1]
          rw [this, e1, hA]
          simp
          omega)
  have q1 : stPl ρ nx y s nx = ⟨y.ac, 4, s.cells.length, false⟩ := by
    unfold stPl
    rw [setPl_lt _ _ (Nat.lt_succ_self _), setPl_same]
  have q2 : stPl ρ nx y s (nx + 1) = ⟨y.at_, 12, s.tenants.length, false⟩ := setPl_same _ _ _
  refine ⟨h2, ?_, ?_, ⟨fun i hi => ?_, by omega⟩⟩
  · rw [den_st]
    simp [stX, q1, q2]
  · intro u hu
    simp at hu
    rcases hu with rfl | rfl | rfl | rfl | rfl | rfl | rfl | rfl
    · trivial
    · trivial
    · exact ⟨show nx + 1 < nx + 2 by omega, by show (stPl ρ nx y s (nx + 1)).res = false; rw [q2]⟩
    · exact ⟨show nx < nx + 2 by omega, by show (stPl ρ nx y s nx).res = false; rw [q1]⟩
    all_goals trivial
  · unfold stPl
    rw [setPl_lt _ _ (Nat.lt_succ_of_lt hi), setPl_lt _ _ hi]
end

/-! ref12.Copied -/
/-- A slice that holds a list in a row of the call's own; or nothing. -/
def SlO {α : Type} (mem : AM) (sz : Nat) (enc : α → List Value) (d : α) (l : List α) (v : Value) (r : Nat) : Prop :=
  ∃ n' cap t n el, v = slc r n' cap ∧ n' = l.length ∧ lk mem r = some (.row t sz n el) ∧ ownT t = true ∧ l.length ≤ n ∧ ∀ k, k < l.length → el k = enc (l.getD k d)
theorem MemAt.slO {C : Ctx} {ρ : Nat → Pl} {mem : AM} {nx : Nat} {w : World} (h : MemAt C ρ mem nx w) (hbor : C.bor = []) {α : Type} {enc : α → List Value} {sz : Nat} (hsz : ∀ x, (enc x).length = sz) (hpos : 0 < sz) {l : List α} {d : α} {v : Value} {r : Nat} (hi : SlO mem sz enc d l v r) :
    ∃ c b, den1 ρ v = .slice (ρ r).A l.length c ∧ OwnL C.w0.heap.size w (ρ r).A sz enc d l b ∧ (l ≠ [] → bno ρ r = some b) := by
  obtain ⟨n', cap, t, n, el, rfl, rfl, h1, h0, h2, h3⟩ := hi
  obtain ⟨q1, q2, q3⟩ := h.blk r _ h1
  by_cases hl : l = []
  · refine ⟨cap, 0, rfl, ⟨fun q => absurd hl q, fun k hk => by rw [hl] at hk; cases hk⟩, fun q => absurd hl q⟩
  · have hl0 : 0 < l.length := List.length_pos_iff.2 hl
    rcases q3 with q | ⟨b, off, hA, hat, hc⟩
    · omega
    · obtain ⟨rfl, hb, ty, cs, hblk⟩ := hat.own h0
      refine ⟨cap, b, rfl, ⟨fun _ => ⟨hA, hb, ty, cs, hblk⟩, fun k hk j v hv => ?_⟩, fun _ => by simp [bno, hA]⟩
      have := hc k (by omega) j v (by rw [h3 k hk]; exact hv)
      rw [Nat.zero_add] at this
      exact this
set_option maxRecDepth 100000 in
set_option maxHeartbeats 4000000 in
theorem copied_sx (y : StK) (s : St) (hm : s.tenants.length ≤ 1000000) (hm2 : s.cells.length ≤ 1000000) :
    sx tt [] [] (bodyOf Tryz.f18) (argF 0 [stV SN1 y s]) (rdM noC s noS) 10 (endx tt Tryz.f18.results.toList fun v mem' _ => ∃ T Cc rT rC, rT ≠ rC ∧ v = .agg #[.int .i64 s.tick, .int .i64 s.count, T, Cc, .int .i64 s.proven, .int .i64 s.evac, .int .i64 s.low, .int .i64 s.high] ∧ SlO mem' 12 tsC default s.tenants T rT ∧ SlO mem' 4 csC default s.cells Cc rC) := by
  refine ⟨⟨Nat.le_refl _, fun k hk => rfl⟩, ?_⟩
  refine ⟨⟨rfl, Nat.le_refl _⟩, fun hin elT g1 g2 => ?_, fun hgt => ⟨by show (0 + s.tenants.length) * 88 ≤ 140737488355328; omega, fun capT elT hcT g1 g2 => ?_⟩⟩
  · have helT : ∀ k, k < s.tenants.length → elT k = tsC (s.tenants.getD k default) := fun k hk => by have := g2 k hk; rw [Nat.zero_add] at this; exact this
    clear g1 g2
    have hzT : s.tenants.length ≤ 0 := by omega
    refine ⟨⟨Nat.le_refl _, fun k hk => rfl⟩, ?_⟩
    refine ⟨⟨rfl, Nat.le_refl _⟩, fun hin elC g1 g2 => ?_, fun hgt => ⟨by show (0 + s.cells.length) * 32 ≤ 140737488355328; omega, fun capC elC hcC g1 g2 => ?_⟩⟩
    · have helC : ∀ k, k < s.cells.length → elC k = csC (s.cells.getD k default) := fun k hk => by have := g2 k hk; rw [Nat.zero_add] at this; exact this
      clear g1 g2
      have hzC : s.cells.length ≤ 0 := by omega
      exact ⟨_, _, 12, 13, by decide, rfl, ⟨_, _, _, _, elT, rfl, Nat.zero_add _, rfl, rfl, hzT, helT⟩, ⟨_, _, _, _, elC, rfl, Nat.zero_add _, rfl, rfl, hzC, helC⟩⟩
    · have helC : ∀ k, k < s.cells.length → elC k = csC (s.cells.getD k default) := fun k hk => by have := g2 k hk; rw [Nat.zero_add] at this; exact this
      clear g1 g2
      have hzC : s.cells.length ≤ capC := by omega
      exact ⟨_, _, 12, 14, by decide, rfl, ⟨_, _, _, _, elT, rfl, Nat.zero_add _, rfl, rfl, hzT, helT⟩, ⟨_, _, _, _, elC, rfl, Nat.zero_add _, rfl, rfl, hzC, helC⟩⟩
  · have helT : ∀ k, k < s.tenants.length → elT k = tsC (s.tenants.getD k default) := fun k hk => by have := g2 k hk; rw [Nat.zero_add] at this; exact this
    clear g1 g2
    have hzT : s.tenants.length ≤ capT := by omega
    refine ⟨⟨Nat.le_refl _, fun k hk => rfl⟩, ?_⟩
    refine ⟨⟨rfl, Nat.le_refl _⟩, fun hin elC g1 g2 => ?_, fun hgt => ⟨by show (0 + s.cells.length) * 32 ≤ 140737488355328; omega, fun capC elC hcC g1 g2 => ?_⟩⟩
    · have helC : ∀ k, k < s.cells.length → elC k = csC (s.cells.getD k default) := fun k hk => by have := g2 k hk; rw [Nat.zero_add] at this; exact this
      clear g1 g2
      have hzC : s.cells.length ≤ 0 := by omega
      exact ⟨_, _, 13, 14, by decide, rfl, ⟨_, _, _, _, elT, rfl, Nat.zero_add _, rfl, rfl, hzT, helT⟩, ⟨_, _, _, _, elC, rfl, Nat.zero_add _, rfl, rfl, hzC, helC⟩⟩
    · have helC : ∀ k, k < s.cells.length → elC k = csC (s.cells.getD k default) := fun k hk => by have := g2 k hk; rw [Nat.zero_add] at this; exact this
      clear g1 g2
      have hzC : s.cells.length ≤ capC := by omega
      exact ⟨_, _, 13, 15, by decide, rfl, ⟨_, _, _, _, elT, rfl, Nat.zero_add _, rfl, rfl, hzT, helT⟩, ⟨_, _, _, _, elC, rfl, Nat.zero_add _, rfl, rfl, hzC, helC⟩⟩
end Go.Proofs.YtjobcfpnmfjlfaaGreat

namespace Go.Proofs.YtjobcfpnmfjlfaaGreat
open Go.RowKit
set_option linter.unusedSimpArgs false
set_option linter.unusedVariables false

/-! slices.Clone: rows of the callee's own. -/
theorem own_ownL {α : Type} {enc : α → List Value} {sz : Nat} (hs : ∀ x, (enc x).length = sz) (hpos : 0 < sz) (d : α) {w : World} {base : Nat} {T : TypeId} {A : Option Addr} {cp : Nat} {l : List α} (h : w.ownsRow base T sz (.slice A l.length cp) l.length (flat enc l)) : ∃ b, OwnL base w A sz enc d l b := by
  by_cases h0 : l = []
  · subst h0
    exact ⟨0, fun h => absurd rfl h, fun k hk => absurd hk (by simp)⟩
  · obtain ⟨g, cur, hA, hb, hblk, htk, hsz, hn, hm⟩ := own_blk h (List.length_pos_iff.2 h0)
    refine ⟨g, fun _ => ⟨hA, hb, _, _, hblk⟩, fun k hk j v hv => ?_⟩
    have hk2 : l[k]? = some (l.getD k d) := by rw [List.getD_eq_getElem?_getD, List.getElem?_eq_getElem hk]; rfl
    exact hblk.cell' (own_row hs hk2 htk j v hv)
theorem Sat.addOwnRow {C : Ctx} {ρ : Nat → Pl} {fr : AF} {mem : AM} {nx : Nat} {a : Act} {w w' : World} (h0 : Sat C ρ fr mem nx a w) (hb : Below w.heap.size w w') {α : Type} {enc : α → List Value} {sz : Nat} (hs : ∀ x, (enc x).length = sz) (hpl : ∀ x, ∀ v ∈ enc x, plain1 v) {d : α} {A : Option Addr} {l : List α} {b : Nat} (t : TypeId) (hc : OwnL w.heap.size w' A sz enc d l b) :
    Sat C (setPl ρ nx ⟨A, sz, l.length, false⟩) fr ((nx, .row (1000000 + t) sz l.length (fun k => enc (l.getD k d))) :: mem) (nx + 1) a w' := by
  refine (h0.later hb).addOwn (p := ⟨A, sz, l.length, false⟩) rfl (hc.blk (t := 1000000 + t) h0.rest.size hs hpl (setPl_same _ _ _)) ?_
  by_cases hz : l = []
  · exact .inl (by rw [hz]; rfl)
  · obtain ⟨hA, hle, -⟩ := hc.at_ hz
    refine .inr fun i b hi => ?_
    have hok := h0.blk i b hi
    cases b with
    | box t cs =>
      obtain ⟨g, e1, e2⟩ := hok.lt
      refine .inr ?_
      rw [e1, hA]
      simp
      omega
    | row t sz n el =>
      rcases hok.2.2 with rfl | ⟨b, off, hA2, hat, -⟩
      · exact .inl ⟨_, _, _, rfl⟩
      · refine .inr ?_
        have := hat.lt
        simp [bno, hA, hA2]
        omega
def ctCloneT : CT := fun vs mem nx K => ∃ r cap l, vs = [slc r (l : List TS).length cap] ∧ HasRow mem r 12 tsC default l ∧ l.length ≤ 100 ∧ ∀ cap2, K (slc nx l.length cap2) ((nx, tsO l) :: mem) (nx + 1)
theorem cloneTOk : CSound Tryz.prog 84 ctCloneT := ⟨by kernel_rfl, fun {C ρ fr mem nx a w vs K} hc hs hv => by
  obtain ⟨r, cap, l, rfl, hr, hl, hK⟩ := hc
  refine (cloneTs_any (ρ r).A cap l w hl (hs.hasRd (enc := tsC) (sz := 12) (fun _ => rfl) (by omega) hr)).mono ?_
  rintro e w' ⟨A, cp, rfl, ho, hb⟩
  obtain ⟨b, hL⟩ := own_ownL (enc := tsC) (fun _ => rfl) (by omega) default ho
  have q2 : setPl ρ nx ⟨A, 12, l.length, false⟩ nx = ⟨A, 12, l.length, false⟩ := setPl_same _ _ _
  have q3 := hs.addOwnRow (enc := tsC) (sz := 12) (d := default) hb (fun _ => rfl) tsC_plain 58 hL
  refine ⟨slc nx l.length cp, _, _, setPl ρ nx ⟨A, 12, l.length, false⟩, ?_, hK cp, q3, ?_, fun i hi => setPl_lt _ _ hi, by omega⟩
  · show Ending.returned (.slice A l.length cp) = .returned (.slice (setPl ρ nx ⟨A, 12, l.length, false⟩ nx).A l.length cp)
    rw [q2]
  · exact ⟨show nx < nx + 1 by omega, by rw [q2]⟩⟩
def ctCloneC : CT := fun vs mem nx K => ∃ r cap l, vs = [slc r (l : List CS).length cap] ∧ HasRow mem r 4 csC default l ∧ l.length ≤ 100 ∧ ∀ cap2, K (slc nx l.length cap2) ((nx, csO l) :: mem) (nx + 1)
theorem cloneCOk : CSound Tryz.prog 85 ctCloneC := ⟨by kernel_rfl, fun {C ρ fr mem nx a w vs K} hc hs hv => by
  obtain ⟨r, cap, l, rfl, hr, hl, hK⟩ := hc
  refine (cloneCs_any (ρ r).A cap l w hl (hs.hasRd (enc := csC) (sz := 4) (fun _ => rfl) (by omega) hr)).mono ?_
  rintro e w' ⟨A, cp, rfl, ho, hb⟩
  obtain ⟨b, hL⟩ := own_ownL (enc := csC) (fun _ => rfl) (by omega) default ho
  have q2 : setPl ρ nx ⟨A, 4, l.length, false⟩ nx = ⟨A, 4, l.length, false⟩ := setPl_same _ _ _
  have q3 := hs.addOwnRow (enc := csC) (sz := 4) (d := default) hb (fun _ => rfl) csC_plain 54 hL
  refine ⟨slc nx l.length cp, _, _, setPl ρ nx ⟨A, 4, l.length, false⟩, ?_, hK cp, q3, ?_, fun i hi => setPl_lt _ _ hi, by omega⟩
  · show Ending.returned (.slice A l.length cp) = .returned (.slice (setPl ρ nx ⟨A, 4, l.length, false⟩ nx).A l.length cp)
    rw [q2]
  · exact ⟨show nx < nx + 1 by omega, by rw [q2]⟩⟩
end Go.Proofs.YtjobcfpnmfjlfaaGreat
