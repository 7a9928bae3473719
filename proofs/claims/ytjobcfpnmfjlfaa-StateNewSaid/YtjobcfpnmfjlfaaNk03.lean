import Derived.Test.YtjobcfpnmfjlfaaNk02
import Derived.Laws.Bits64
namespace Go.Proofs.Ytjobcfpnmfjlfaa
open Go.RowKit
set_option linter.unusedSimpArgs false
set_option linter.unusedVariables false
/-! What holds of every reached state. No program in sight. -/

structure TsInv (c : Cfg) (t : TS) : Prop where
  home : -1 ≤ t.home ∧ t.home < c.cells.length
  standby : -1 ≤ t.standby ∧ t.standby < c.cells.length
  next : -1 ≤ t.next ∧ t.next < c.cells.length
  target : -1 ≤ t.target ∧ t.target < c.cells.length
  epoch : 0 ≤ t.epoch ∧ t.epoch ≤ 1048576
  wcell : -1 ≤ t.win.cell ∧ t.win.cell < c.cells.length
  wepoch : 0 ≤ t.win.epoch ∧ t.win.epoch ≤ 1048576
  wver : 0 ≤ t.win.version ∧ t.win.version < c.versions.length
  wsince : 0 ≤ t.win.since ∧ t.win.since ≤ 1073741824
  wtill : 0 ≤ t.win.till ∧ t.win.till ≤ 1073741824
  placed : t.placed = true → 0 ≤ t.home
  shed : t.shed = true → t.placed = true
structure CsInv (c : Cfg) (lo hi : Int) (x : CS) : Prop where
  mode : 1 ≤ x.mode ∧ x.mode ≤ 3
  running : 0 ≤ x.running ∧ x.running < c.versions.length
  wanted : 0 ≤ x.wanted ∧ x.wanted < c.versions.length
  since : 0 ≤ x.since ∧ x.since ≤ 1073741824
  runs : (verAt c x.running).1 ≤ lo ∧ hi ≤ (verAt c x.running).2
  wants : (verAt c x.wanted).1 ≤ lo ∧ hi ≤ (verAt c x.wanted).2
structure StInv (c : Cfg) (s : St) : Prop where
  lt : s.tenants.length = c.tenants.length
  lc : s.cells.length = c.cells.length
  tick : 0 ≤ s.tick ∧ s.tick ≤ 1073741824
  count : 0 ≤ s.count ∧ s.count ≤ 4096
  proven : 0 ≤ s.proven ∧ s.proven < 1073741824
  evac : 0 ≤ s.evac ∧ s.evac < 16
  low : 0 ≤ s.low ∧ s.low ≤ s.high ∧ s.high ≤ s.low + 1 ∧ s.high ≤ 30
  ten : ∀ t ∈ s.tenants, TsInv c t
  cel : ∀ x ∈ s.cells, CsInv c s.low s.high x

theorem verAt_zero {c : Cfg} (hV : CfgV c) : (verAt c 0).1 = 0 ∧ 0 ≤ (verAt c 0).2 := by
  have h := hV.nv
  have h0 : c.versions[0]? = some c.versions[0] := List.getElem?_eq_getElem (by omega)
  have h1 := hV.ver 0 _ h0
  unfold verAt
  rw [show (0 : Int).toNat = 0 from rfl, getD_some h0]
  simp [verOk] at h1
  omega
theorem stNew_inv {c : Cfg} (hV : CfgV c) : StInv c (stNew c) := by
  have h := hV.nv
  have hz := verAt_zero hV
  refine ⟨by simp [stNew], by simp [stNew], by simp [stNew], by simp [stNew], by simp [stNew], by simp [stNew], by simp [stNew], fun t ht => ?_, fun x hx => ?_⟩
  · obtain rfl := List.eq_of_mem_replicate (show t ∈ List.replicate c.tenants.length tsNew from ht)
    constructor <;> simp [tsNew] <;> omega
  · obtain rfl := List.eq_of_mem_replicate (show x ∈ List.replicate c.cells.length csNew from hx)
    constructor <;> simp [csNew, stNew] <;> omega

theorem tsAt_mem {s : St} {i : Int} (h0 : 0 ≤ i) (h1 : i < s.tenants.length) : s.tenants[i.toNat]? = some (tsAt s i) ∧ tsAt s i ∈ s.tenants := by
  have h : i.toNat < s.tenants.length := by omega
  have e := List.getElem?_eq_getElem h
  have : tsAt s i = s.tenants[i.toNat] := getD_some e
  rw [this]
  exact ⟨e, List.getElem_mem h⟩
theorem csAt_mem {s : St} {i : Int} (h0 : 0 ≤ i) (h1 : i < s.cells.length) : s.cells[i.toNat]? = some (csAt s i) ∧ csAt s i ∈ s.cells := by
  have h : i.toNat < s.cells.length := by omega
  have e := List.getElem?_eq_getElem h
  have : csAt s i = s.cells[i.toNat] := getD_some e
  rw [this]
  exact ⟨e, List.getElem_mem h⟩
theorem orBit_lt {a i : Int} {m : Nat} (h0 : 0 ≤ a) (h1 : a < 2 ^ m) (hi : i.toNat < m) : 0 ≤ orBit a i ∧ orBit a i < 2 ^ m := by
  obtain ⟨n, rfl⟩ := Int.eq_ofNat_of_zero_le h0
  have hn : n < 2 ^ m := by exact_mod_cast h1
  have h2 : 1 <<< i.toNat < 2 ^ m := by rw [Nat.one_shiftLeft]; exact Nat.pow_lt_pow_right (by omega) hi
  have := Nat.or_lt_two_pow hn h2
  unfold orBit
  rw [Int.toNat_natCast]
  refine ⟨Int.natCast_nonneg _, ?_⟩
  exact_mod_cast this
theorem flipBit_lt {a i : Int} {m : Nat} (h0 : 0 ≤ a) (h1 : a < 2 ^ m) (hi : i.toNat < m) : 0 ≤ flipBit a i ∧ flipBit a i < 2 ^ m := by
  obtain ⟨n, rfl⟩ := Int.eq_ofNat_of_zero_le h0
  have hn : n < 2 ^ m := by exact_mod_cast h1
  have h2 : 1 <<< i.toNat < 2 ^ m := by rw [Nat.one_shiftLeft]; exact Nat.pow_lt_pow_right (by omega) hi
  have := Nat.xor_lt_two_pow hn h2
  unfold flipBit
  rw [Int.toNat_natCast]
  refine ⟨Int.natCast_nonneg _, ?_⟩
  exact_mod_cast this

/-- The facts behind an entry that is not refused. -/
structure Acc (c : Cfg) (s : St) (e : Ent) : Prop where
  ent : entV c e = true
  cnt : s.count < 4096
  tick : s.tick ≤ e.tick
  kind : kindE c s e = 0
theorem acc_of {c : Cfg} {s : St} {e : Ent} (h : refusedE c s e = 0) : Acc c s e := by
  unfold refusedE at h
  by_cases h1 : entV c e = false
  · rw [if_pos h1] at h; omega
  rw [if_neg h1] at h
  by_cases h2 : 4096 ≤ s.count
  · rw [if_pos h2] at h; omega
  rw [if_neg h2] at h
  by_cases h3 : e.tick < s.tick
  · rw [if_pos h3] at h; omega
  rw [if_neg h3] at h
  exact ⟨by simpa using h1, by omega, by omega, h⟩
theorem ent_kind {c : Cfg} {e : Ent} (h : entV c e = true) : e.kind = 1 ∨ e.kind = 2 ∨ e.kind = 3 ∨ e.kind = 4 ∨ e.kind = 5 ∨ e.kind = 6 ∨ e.kind = 7 ∨ e.kind = 8 ∨ e.kind = 9 ∨ e.kind = 10 ∨ e.kind = 11 ∨ e.kind = 12 ∨ e.kind = 13 ∨ e.kind = 14 ∨ e.kind = 15 ∨ e.kind = 16 := by
  have : inR e.kind 1 16 = true := by
    unfold entV entOk at h
    simp only [Bool.and_eq_true] at h
    exact h.1.1.1.1.1.1.1.1.1
  simp [inR] at this
  omega
/-- The ranges of the fields of a valid entry. -/
theorem ent_rng {c : Cfg} {e : Ent} (h : entV c e = true) : (0 ≤ e.tick ∧ e.tick ≤ 1073741824) ∧ inS e.tenant (fT c.tenants.length e.kind) = true ∧ inS e.cell (fC c.cells.length e.kind) = true ∧ inS e.other (fO c.cells.length c.regions e.kind) = true ∧
    inS e.epoch (fE e.kind) = true ∧ inS e.since (fW e.kind) = true ∧ inS e.till (fW e.kind) = true ∧ inS e.n (fN c.versions.length e.kind) = true ∧ (e.kind ≠ 1 ∨ e.other ≠ e.cell) := by
  unfold entV entOk at h
  simp only [Bool.and_eq_true] at h
  obtain ⟨⟨⟨⟨⟨⟨⟨⟨⟨h1, h2⟩, h3⟩, h4⟩, h5⟩, h6⟩, h7⟩, h8⟩, h9⟩, h10⟩ := h
  refine ⟨by simpa [inR] using h2, h3, h4, h5, h6, h7, h8, h9, by simpa using h10⟩

theorem inv_setTen {c : Cfg} {s : St} (h : StInv c s) {e : Ent} (hc : s.count < 4096) (ht : s.tick ≤ e.tick) (ht2 : e.tick ≤ 1073741824) {i : Int} {t : TS} (hT : TsInv c t) : StInv c (setTen (stamped s e) i t) := by
  refine ⟨?_, h.lc, ⟨by have := h.tick; show 0 ≤ e.tick; omega, ht2⟩, ⟨by have := h.count; show 0 ≤ s.count + 1; omega, by show s.count + 1 ≤ 4096; omega⟩, h.proven, h.evac, h.low, fun t' ht' => ?_, h.cel⟩
  · show (s.tenants.set i.toNat t).length = _
    rw [List.length_set]; exact h.lt
  · rcases List.mem_or_eq_of_mem_set (show t' ∈ s.tenants.set i.toNat t from ht') with h1 | rfl
    · exact h.ten _ h1
    · exact hT
theorem inv_setCel {c : Cfg} {s : St} (h : StInv c s) {e : Ent} (hc : s.count < 4096) (ht : s.tick ≤ e.tick) (ht2 : e.tick ≤ 1073741824) {i : Int} {x : CS} (hX : CsInv c s.low s.high x) : StInv c (setCel (stamped s e) i x) := by
  refine ⟨h.lt, ?_, ⟨by have := h.tick; show 0 ≤ e.tick; omega, ht2⟩, ⟨by have := h.count; show 0 ≤ s.count + 1; omega, by show s.count + 1 ≤ 4096; omega⟩, h.proven, h.evac, h.low, h.ten, fun t' ht' => ?_⟩
  · show (s.cells.set i.toNat x).length = _
    rw [List.length_set]; exact h.lc
  · rcases List.mem_or_eq_of_mem_set (show t' ∈ s.cells.set i.toNat x from ht') with h1 | rfl
    · exact h.cel _ h1
    · exact hX

theorem StInv.step {c : Cfg} {s : St} {e : Ent} (hV : CfgV c) (h : StInv c s) (hr : refusedE c s e = 0) : StInv c (effOf s e) := by
  have ha := acc_of hr
  have hk := ent_kind ha.ent
  obtain ⟨hti, hT, hC, hO, hE, hS, hU, hN, hne⟩ := ent_rng ha.ent
  have hkd := ha.kind
  have hcnt := ha.cnt
  have htk := ha.tick
  have hlt := h.lt
  have hlc := h.lc
  have hnc := hV.nc
  have hnv := hV.nv
  have hreg := hV.reg
  clear ha hr
  obtain ⟨kind, tick, tenant, cell, other, epoch, since, till, n⟩ := e
  simp only at *
  by_cases h8 : kind ≤ 8
  · have hten : 0 ≤ tenant ∧ tenant < s.tenants.length := by
      have : fT c.tenants.length kind = (0, (c.tenants.length : Int) - 1) := if_pos h8
      rw [this] at hT
      simp [inS, inR] at hT
      omega
    have hti0 := h.ten _ (tsAt_mem hten.1 hten.2).2
    have eff : effOf s ⟨kind, tick, tenant, cell, other, epoch, since, till, n⟩ = setTen (stamped s ⟨kind, tick, tenant, cell, other, epoch, since, till, n⟩) tenant (tenEff (tsAt s tenant) ⟨kind, tick, tenant, cell, other, epoch, since, till, n⟩) := by
      unfold effOf
      exact if_pos h8
    rw [eff]
    refine inv_setTen h hcnt htk hti.2 ?_
    clear eff
    have hk' : kind = 1 ∨ kind = 2 ∨ kind = 3 ∨ kind = 4 ∨ kind = 5 ∨ kind = 6 ∨ kind = 7 ∨ kind = 8 := by omega
    obtain ⟨i1, i2, i3, i4, i5, i6, i7, i8, i9, i10, i11, i12⟩ := hti0
    generalize htd : tsAt s tenant = t at *
    rcases hk' with rfl | rfl | rfl | rfl | rfl | rfl | rfl | rfl
    · simp [inS, inR, fC, fO] at hC hO
      refine ⟨?_, ?_, i3, i4, i5, i6, i7, i8, i9, i10, ?_, ?_⟩ <;> simp [tenEff] <;> omega
    · simp [inS, inR, fC, fE, fW, fN] at hC hE hS hU hN
      simp only [tenEff, grantT]
      have hpl : t.placed = true := by
        cases hp : t.placed with
        | true => rfl
        | false => simp [kindE, grantE, htd, hp] at hkd
      simp only [show ¬ ((2 : Int) = 1) by omega, if_false, if_true]
      split
      · constructor <;> (try simp only) <;> first | omega | (intro hh; first | omega | exact i11 hh | exact i12 hh | exact hpl | exact hpl hn | cases hh)
      · split
        · constructor <;> (try simp only) <;> first | omega | (intro hh; first | omega | exact i11 hh | exact i12 hh | exact hpl | exact hpl hn | cases hh)
        · constructor <;> (try simp only) <;> first | omega | (intro hh; first | omega | exact i11 hh | exact i12 hh | exact hpl | exact hpl hn | cases hh)
    · refine ⟨i1, i2, i3, i4, i5, i6, i7, i8, ?_, ?_, i11, i12⟩ <;> simp [tenEff, cutW] <;> omega
    · simp [inS, inR, fC] at hC
      refine ⟨i1, i2, ?_, i4, i5, i6, i7, i8, i9, i10, i11, i12⟩ <;> simp [tenEff] <;> omega
    · simp [inS, inR, fC] at hC
      refine ⟨i1, ?_, ?_, i4, i5, i6, i7, i8, i9, i10, i11, i12⟩ <;> simp [tenEff] <;> omega
    · simp [inS, inR, fC] at hC
      refine ⟨i1, i2, i3, ?_, i5, i6, i7, i8, i9, i10, i11, i12⟩ <;> simp [tenEff] <;> omega
    · refine ⟨i1, i2, i3, ?_, i5, i6, i7, i8, i9, i10, i11, i12⟩ <;> simp [tenEff] <;> omega
    · have hpl : n = 1 → t.placed = true := by
        intro hn
        cases hp : t.placed with
        | true => rfl
        | false => simp [kindE, shedE, htd, hp, hn] at hkd
      by_cases hn : n = 1
      · simp only [tenEff, show ¬ ((8 : Int) = 1) by omega, show ¬ ((8 : Int) = 2) by omega, show ¬ ((8 : Int) = 3) by omega, show ¬ ((8 : Int) = 4) by omega, show ¬ ((8 : Int) = 5) by omega, show ¬ ((8 : Int) = 6) by omega, show ¬ ((8 : Int) = 7) by omega, if_false, if_true, hn]
        constructor <;> (try simp only) <;> first | omega | (intro hh; first | omega | exact i11 hh | exact i12 hh | exact hpl | exact hpl hn | cases hh)
      · simp only [tenEff, show ¬ ((8 : Int) = 1) by omega, show ¬ ((8 : Int) = 2) by omega, show ¬ ((8 : Int) = 3) by omega, show ¬ ((8 : Int) = 4) by omega, show ¬ ((8 : Int) = 5) by omega, show ¬ ((8 : Int) = 6) by omega, show ¬ ((8 : Int) = 7) by omega, if_false, if_true, hn]
        exact ⟨i1, i2, i3, i4, i5, i6, i7, i8, i9, i10, i11, fun h => by cases h⟩
  · by_cases h11 : kind ≤ 11
    · have eff : effOf s ⟨kind, tick, tenant, cell, other, epoch, since, till, n⟩ = setCel (stamped s ⟨kind, tick, tenant, cell, other, epoch, since, till, n⟩) cell (celEff (csAt s cell) ⟨kind, tick, tenant, cell, other, epoch, since, till, n⟩) := by
        unfold effOf
        rw [if_neg h8, if_pos h11]
      have hcel : 0 ≤ cell ∧ cell < s.cells.length := by
        have : fC c.cells.length kind = (0, (c.cells.length : Int) - 1) := if_pos (by omega)
        rw [this] at hC
        simp [inS, inR] at hC
        omega
      rw [eff]
      refine inv_setCel h hcnt htk hti.2 ?_
      have hx := h.cel _ (csAt_mem hcel.1 hcel.2).2
      generalize hxd : csAt s cell = x at *
      obtain ⟨i1, i2, i3, i4, i5, i6⟩ := hx
      have hk' : kind = 9 ∨ kind = 10 ∨ kind = 11 := by omega
      rcases hk' with rfl | rfl | rfl
      · simp [inS, inR, fN] at hN
        refine ⟨?_, i2, i3, ?_, i5, i6⟩ <;> simp [celEff] <;> omega
      · simp [inS, inR, fN] at hN
        have hw : (verAt c n).1 ≤ s.low ∧ s.high ≤ (verAt c n).2 := by
          simp [kindE, wantE, hxd] at hkd
          split at hkd
          · omega
          · split at hkd
            · omega
            · omega
        refine ⟨i1, i2, ?_, i4, i5, ?_⟩
        · simp [celEff]; omega
        · exact hw
      · simp [inS, inR, fN] at hN
        have hw : n = x.wanted := by
          simp [kindE, runsE, hxd] at hkd
          by_cases hh : x.wanted = n
          · exact hh.symm
          · simp [hh] at hkd
        subst hw
        exact ⟨i1, i3, i3, ⟨by simp [celEff]; omega, by simp [celEff]; omega⟩, i6, i6⟩
    · have hk' : kind = 12 ∨ kind = 13 ∨ kind = 14 ∨ kind = 15 ∨ kind = 16 := by omega
      have htick : 0 ≤ tick ∧ tick ≤ 1073741824 := hti
      have hcn : 0 ≤ s.count + 1 ∧ s.count + 1 ≤ 4096 := by have := h.count; omega
      rcases hk' with rfl | rfl | rfl | rfl | rfl
      · simp [inS, inR, fN] at hN
        have hp := h.proven
        have := orBit_lt (a := s.proven) (i := n) (m := 30) hp.1 (by simpa using hp.2) (by omega)
        exact ⟨hlt, hlc, htick, hcn, by simpa [effOf, stamped] using this, h.evac, h.low, h.ten, h.cel⟩
      · simp [inS, inR, fO] at hO
        have hp := h.evac
        have := flipBit_lt (a := s.evac) (i := other) (m := 4) hp.1 (by simpa using hp.2) (by omega)
        exact ⟨hlt, hlc, htick, hcn, h.proven, by simpa [effOf, stamped] using this, h.low, h.ten, h.cel⟩
      · have hlo := h.low
        have hx : ¬ s.low < s.high ∧ ¬ 30 ≤ s.high ∧ s.cells.any (blockB c s) = false := by
          simp only [kindE, expandE] at hkd
          simp at hkd
          by_cases h1 : s.low < s.high
          · simp [h1] at hkd
          · by_cases h2 : 30 ≤ s.high
            · simp [h1, h2] at hkd
            · refine ⟨h1, h2, ?_⟩
              rw [Bool.eq_false_iff]
              intro h3
              obtain ⟨x, hx, hb⟩ := List.any_eq_true.1 h3
              simp only [h1, h2, if_false] at hkd
              rw [if_pos ⟨x, hx, hb⟩] at hkd
              omega
        refine ⟨hlt, hlc, htick, hcn, h.proven, h.evac, ?_, h.ten, fun x hx' => ?_⟩
        · simp [effOf, stamped]; omega
        · have hb : blockB c s x = false := by
            rw [Bool.eq_false_iff]
            intro hb
            have := List.any_eq_true.2 ⟨x, (show x ∈ s.cells from hx'), hb⟩
            rw [hx.2.2] at this
            cases this
          simp [blockB] at hb
          obtain ⟨i1, i2, i3, i4, i5, i6⟩ := h.cel x hx'
          refine ⟨i1, i2, i3, i4, ⟨i5.1, ?_⟩, ⟨i6.1, ?_⟩⟩ <;> simp [effOf, stamped] <;> omega
      · have hlo := h.low
        refine ⟨hlt, hlc, htick, hcn, h.proven, h.evac, ?_, h.ten, fun x hx' => ?_⟩
        · simp [effOf, stamped]; omega
        · obtain ⟨i1, i2, i3, i4, i5, i6⟩ := h.cel x hx'
          refine ⟨i1, i2, i3, i4, ⟨?_, i5.2⟩, ⟨?_, i6.2⟩⟩ <;> simp [effOf, stamped] <;> omega
      · exact ⟨hlt, hlc, htick, hcn, h.proven, h.evac, h.low, h.ten, h.cel⟩
end Go.Proofs.Ytjobcfpnmfjlfaa

namespace Go.Proofs.Ytjobcfpnmfjlfaa
open Go.RowKit
set_option linter.unusedSimpArgs false
set_option linter.unusedVariables false
/-! The laws of one step. No program in sight. -/

theorem applyP_ok {c : Cfg} {s x : St} {e : Ent} (h : applyP c s e = (x, 0)) : refusedE c s e = 0 ∧ x = effOf s e ∧ (booksB e = true → overB c x = false) := by
  unfold applyP at h
  by_cases h1 : refusedE c s e ≠ 0
  · rw [if_pos h1] at h
    exact absurd (congrArg Prod.snd h) h1
  · rw [if_neg h1] at h
    by_cases h2 : booksB e ∧ overB c (effOf s e)
    · rw [if_pos h2] at h
      exact absurd (congrArg Prod.snd h) (by simp)
    · rw [if_neg h2] at h
      have hx : effOf s e = x := congrArg Prod.fst h
      refine ⟨Classical.not_not.1 h1, hx.symm, fun hb => ?_⟩
      rw [← hx]
      cases ho : overB c (effOf s e) with
      | false => rfl
      | true => exact absurd ⟨hb, ho⟩ h2

/-! Capacity. -/
def bkAt (i : Int) (t : TS) (d : Ten) : Int :=
  if t.placed = false then 0 else (if t.shed then 0 else (if t.home = i then d.load else 0) + (if t.target = i then d.load else 0)) + (if t.standby = i then d.shadow else 0) + (if t.next = i then d.shadow else 0)
theorem addAt_length (l : List Int) (k n : Int) : (addAt l k n).length = l.length := by unfold addAt; split <;> simp
theorem addAt_getD (l : List Int) (k n : Int) {i : Nat} (hi : i < l.length) : (addAt l k n).getD i 0 = l.getD i 0 + (if k = i then n else 0) := by
  unfold addAt
  by_cases hk : 0 ≤ k ∧ k < l.length
  · rw [if_pos hk]
    obtain ⟨m, rfl⟩ := Int.eq_ofNat_of_zero_le hk.1
    rw [Int.toNat_natCast, List.getD_eq_getElem?_getD, List.getElem?_set]
    by_cases hm : m = i
    · subst hm
      simp [hi]
    · have : ¬ ((m : Int) = i) := by omega
      simp [hm, this]
  · rw [if_neg hk]
    have : ¬ (k = i) := by omega
    simp [this]
theorem bookT_length (l : List Int) (t : TS) (d : Ten) : (bookT l t d).length = l.length := by
  unfold bookT
  split
  · rfl
  · rw [addAt_length, addAt_length]
    split
    · rfl
    · rw [addAt_length, addAt_length]
theorem bookT_getD (l : List Int) (t : TS) (d : Ten) {i : Nat} (hi : i < l.length) : (bookT l t d).getD i 0 = l.getD i 0 + bkAt i t d := by
  unfold bookT bkAt
  by_cases hp : t.placed = false
  · rw [if_pos hp, if_pos hp]; omega
  · rw [if_neg hp, if_neg hp]
    by_cases hs : t.shed = true
    · rw [if_pos hs, if_pos hs, addAt_getD _ _ _ (by rw [addAt_length]; exact hi), addAt_getD _ _ _ hi]; omega
    · rw [if_neg hs, if_neg hs, addAt_getD _ _ _ (by simp only [addAt_length]; exact hi), addAt_getD _ _ _ (by simp only [addAt_length]; exact hi), addAt_getD _ _ _ (by simp only [addAt_length]; exact hi), addAt_getD _ _ _ hi]; omega
def sumI (i : Int) : List (TS × Ten) → Int
  | [] => 0
  | p :: q => bkAt i p.1 p.2 + sumI i q
theorem fold_getD {i : Nat} : ∀ (q : List (TS × Ten)) (l : List Int), i < l.length → (q.foldl (fun l p => bookT l p.1 p.2) l).getD i 0 = l.getD i 0 + sumI i q
  | [], l, _ => by simp [sumI]
  | p :: q, l, h => by
    rw [List.foldl_cons, fold_getD q _ (by rw [bookT_length]; exact h), bookT_getD _ _ _ h, sumI]
    omega
theorem booked_getD (c : Cfg) (s : St) {i : Nat} (hi : i < c.cells.length) : (booked c s).getD i 0 = sumI i (s.tenants.zip c.tenants) := by
  unfold booked
  rw [fold_getD _ _ (by simpa using hi)]
  rw [List.getD_eq_getElem?_getD, List.getElem?_replicate]
  simp [hi]
theorem sumI_set {i : Int} {t t' : TS} (ht : ∀ d : Ten, 0 ≤ d.load → 0 ≤ d.shadow → bkAt i t' d ≤ bkAt i t d) : ∀ (ts : List TS) (ds : List Ten) (k : Nat), ts[k]? = some t → (∀ d ∈ ds, 0 ≤ d.load ∧ 0 ≤ d.shadow) → sumI i ((ts.set k t').zip ds) ≤ sumI i (ts.zip ds)
  | [], ds, k, h, hd => by simp at h
  | a :: ts, [], k, h, hd => by cases k <;> simp [sumI]
  | a :: ts, d :: ds, 0, h, hd => by
    simp at h
    subst h
    have := hd d (by simp)
    have := ht d this.1 this.2
    simp only [List.set_cons_zero, List.zip_cons_cons, sumI]
    omega
  | a :: ts, d :: ds, k + 1, h, hd => by
    have ih := sumI_set ht ts ds k (by simpa using h) (fun d hd' => hd d (by simp [hd']))
    simp only [List.set_cons_succ, List.zip_cons_cons, sumI]
    omega
theorem overB_iff {c : Cfg} {s : St} : overB c s = false ↔ ∀ i : Nat, i < c.cells.length → (booked c s).getD i 0 ≤ (c.cells.getD i (0, 0)).2 := by
  unfold overB
  rw [Bool.eq_false_iff]
  constructor
  · intro h i hi
    refine Classical.byContradiction fun hn => h (List.any_eq_true.2 ⟨i, List.mem_range.2 hi, ?_⟩)
    simp only [decide_eq_true_eq]
    omega
  · intro h hn
    obtain ⟨i, hi, hd⟩ := List.any_eq_true.1 hn
    have := h i (List.mem_range.1 hi)
    simp only [decide_eq_true_eq] at hd
    omega
theorem ten_pos {c : Cfg} (hV : CfgV c) : ∀ d ∈ c.tenants, 0 ≤ d.load ∧ 0 ≤ d.shadow := by
  intro d hd
  have h1 := hV.ten d hd
  simp [tenOk, inR] at h1
  omega
theorem cap_new {c : Cfg} (hV : CfgV c) : overB c (stNew c) = false := by
  rw [overB_iff]
  intro i hi
  rw [booked_getD _ _ hi]
  have hcap : 1 ≤ (c.cells.getD i (0, 0)).2 := by
    rw [getD_some (List.getElem?_eq_getElem hi)]
    exact (hV.capy _ (List.getElem_mem hi)).1
  have : ∀ (n : Nat) (ds : List Ten), sumI i ((List.replicate n tsNew).zip ds) = 0 := by
    intro n
    induction n with
    | zero => intro ds; simp [sumI]
    | succ n ih =>
      intro ds
      cases ds with
      | nil => simp [sumI]
      | cons d ds =>
        have hb : bkAt i tsNew d = 0 := by simp [bkAt, tsNew]
        rw [List.replicate_succ, List.zip_cons_cons, sumI, ih, hb]
        rfl
  have := this c.tenants.length c.tenants
  unfold stNew
  simp only
  omega
theorem over_same {c : Cfg} {s x : St} (h : x.tenants = s.tenants) : overB c x = overB c s := by
  unfold overB booked
  rw [h]
theorem cap_step {c : Cfg} {s x : St} {e : Ent} (hV : CfgV c) (hI : StInv c s) (hc : overB c s = false) (h : applyP c s e = (x, 0)) : overB c x = false := by
  obtain ⟨hr, hx, hb⟩ := applyP_ok h
  by_cases hbk : booksB e = true
  · exact hb hbk
  have ha := acc_of hr
  have hk := ent_kind ha.ent
  obtain ⟨hti, hT, hC, hO, hE, hS, hU, hN, hne⟩ := ent_rng ha.ent
  have hkd := ha.kind
  subst hx
  have hlt := hI.lt
  clear hb h hr ha
  obtain ⟨kind, tick, tenant, cell, other, epoch, since, till, n⟩ := e
  simp only at *
  by_cases h8 : kind ≤ 8
  · have hten : 0 ≤ tenant ∧ tenant < s.tenants.length := by
      have : fT c.tenants.length kind = (0, (c.tenants.length : Int) - 1) := if_pos h8
      rw [this] at hT
      simp [inS, inR] at hT
      omega
    have hte : (effOf s ⟨kind, tick, tenant, cell, other, epoch, since, till, n⟩).tenants = s.tenants.set tenant.toNat (tenEff (tsAt s tenant) ⟨kind, tick, tenant, cell, other, epoch, since, till, n⟩) := by
      unfold effOf
      simp only [h8, if_true]
      rfl
    rw [overB_iff] at hc ⊢
    intro i hi
    refine Int.le_trans ?_ (hc i hi)
    rw [booked_getD _ _ hi, booked_getD _ _ hi, hte]
    refine sumI_set ?_ _ _ _ (tsAt_mem hten.1 hten.2).1 (ten_pos hV)
    intro d hd1 hd2
    have hI' := hI.ten _ (tsAt_mem hten.1 hten.2).2
    generalize htd : tsAt s tenant = t at *
    have hk' : kind = 3 ∨ (kind = 4 ∧ cell = -1) ∨ kind = 5 ∨ kind = 7 ∨ (kind = 8 ∧ n = 1) := by
      simp [booksB] at hbk
      have : kind = 8 → n = 0 ∨ n = 1 := by
        rintro rfl
        simp [inS, inR, fN] at hN
        omega
      omega
    have hi0 : (0 : Int) ≤ i := Int.natCast_nonneg _
    rcases hk' with rfl | ⟨rfl, rfl⟩ | rfl | rfl | ⟨rfl, rfl⟩
    · simp [bkAt, tenEff]
    · simp only [bkAt, tenEff]
      simp
      repeat' split
      all_goals omega
    · have hnx : cell = t.next ∧ t.placed = true := by
        simp only [kindE, readyE, htd] at hkd
        simp at hkd
        by_cases hp : t.placed = true
        · by_cases hcn : cell = t.next
          · exact ⟨hcn, hp⟩
          · simp [hp, hcn] at hkd
        · simp [hp] at hkd
      obtain ⟨rfl, hp⟩ := hnx
      simp only [bkAt, tenEff]
      simp [hp]
      repeat' split
      all_goals omega
    · simp only [bkAt, tenEff]
      simp
      repeat' split
      all_goals omega
    · simp only [bkAt, tenEff]
      simp
      repeat' split
      all_goals omega
  · rw [over_same (s := s)]
    · exact hc
    · unfold effOf
      simp only [h8, if_false]
      repeat' split
      all_goals rfl

/-! Versions. -/
def openN (s : St) : Nat := s.cells.countP (openB s.proven)
theorem ver_new (c : Cfg) : openN (stNew c) = 0 := by
  unfold openN stNew
  rw [List.countP_eq_zero]
  intro x hx
  obtain rfl := List.eq_of_mem_replicate hx
  show ¬ openB 1 csNew = true
  decide
theorem hasB_or {p n v : Int} (hp : 0 ≤ p) (h : hasB p v = true) : hasB (orBit p n) v = true := by
  simp only [hasB, Bool.and_eq_true, bitB] at h ⊢
  refine ⟨h.1, ?_⟩
  unfold orBit
  rw [Int.toNat_natCast, Nat.testBit_or, h.2]
  rfl
theorem countP_range {α : Type} [Inhabited α] (p : α → Bool) : ∀ l : List α, l.countP p = (List.range l.length).countP (fun i => p (l.getD i default)) := by
  intro l
  have h : l = (List.range l.length).map (fun i => l.getD i default) := by
    apply List.ext_getElem
    · simp
    · intro i h1 h2
      simp [List.getD_eq_getElem?_getD, h1]
  conv => lhs; rw [h]
  rw [List.countP_map]
  rfl
theorem countP_others (P : Nat → Bool) (k : Nat) : ∀ n, k < n → (List.range n).countP P = (List.range n).countP (fun i => decide (i ≠ k) && P i) + (if P k then 1 else 0) := by
  have hlt : ∀ n, n ≤ k → (List.range n).countP P = (List.range n).countP (fun i => decide (i ≠ k) && P i) := by
    intro n hn
    apply List.countP_congr
    intro i hi
    have := List.mem_range.1 hi
    have : i ≠ k := by omega
    simp [this]
  intro n
  induction n with
  | zero => intro h; omega
  | succ n ih =>
    intro h
    rw [List.range_succ, List.countP_append, List.countP_append]
    by_cases hk : k = n
    · subst hk
      rw [hlt k (Nat.le_refl _)]
      simp [List.countP_cons]
    · rw [ih (by omega)]
      have : n ≠ k := fun h => hk h.symm
      simp [List.countP_cons, this]
      omega
theorem others_eq {s : St} {k : Int} (h0 : 0 ≤ k) (h1 : k < s.cells.length) : openN s = others s k + (if openB s.proven (csAt s k) then 1 else 0) := by
  obtain ⟨m, rfl⟩ := Int.eq_ofNat_of_zero_le h0
  unfold openN others csAt
  rw [countP_range, countP_others _ m _ (by omega), List.countP_eq_length_filter]
  have e : ∀ i : Nat, decide (i ≠ m) = decide ((i : Int) ≠ (m : Int)) := by intro i; congr 1; rw [eq_iff_iff]; omega
  simp only [e, Int.toNat_natCast]
theorem ver_step {c : Cfg} {s x : St} {e : Ent} (hV : CfgV c) (hI : StInv c s) (hc : (openN s : Int) ≤ c.blast) (h : applyP c s e = (x, 0)) : (openN x : Int) ≤ c.blast := by
  obtain ⟨hr, hx, -⟩ := applyP_ok h
  have ha := acc_of hr
  have hk := ent_kind ha.ent
  obtain ⟨hti, hT, hC, hO, hE, hS, hU, hN, hne⟩ := ent_rng ha.ent
  have hkd := ha.kind
  subst hx
  have hlc := hI.lc
  have hnc := hV.nc
  clear h hr ha
  obtain ⟨kind, tick, tenant, cell, other, epoch, since, till, n⟩ := e
  simp only at *
  by_cases h11 : kind = 9 ∨ kind = 10 ∨ kind = 11
  · have hcel : 0 ≤ cell ∧ cell < s.cells.length := by
      have : fC c.cells.length kind = (0, (c.cells.length : Int) - 1) := if_pos (by omega)
      rw [this] at hC
      simp [inS, inR] at hC
      omega
    have hce : (effOf s ⟨kind, tick, tenant, cell, other, epoch, since, till, n⟩) = setCel (stamped s ⟨kind, tick, tenant, cell, other, epoch, since, till, n⟩) cell (celEff (csAt s cell) ⟨kind, tick, tenant, cell, other, epoch, since, till, n⟩) := by
      unfold effOf
      rw [if_neg (by simp only; omega), if_pos (by simp only; omega)]
    have hset : openN (effOf s ⟨kind, tick, tenant, cell, other, epoch, since, till, n⟩) = others s cell + (if openB s.proven (celEff (csAt s cell) ⟨kind, tick, tenant, cell, other, epoch, since, till, n⟩) then 1 else 0) := by
      rw [hce]
      have h2 : cell.toNat < s.cells.length := by omega
      have h3 := others_eq hcel.1 hcel.2
      have h4 : s.cells[cell.toNat] = csAt s cell := (getD_some (List.getElem?_eq_getElem h2)).symm
      show (s.cells.set cell.toNat _).countP (openB s.proven) = _
      rw [List.countP_set h2, h4]
      unfold openN at h3
      omega
    rw [hset]
    have h3 := others_eq hcel.1 hcel.2
    generalize hxd : csAt s cell = y at *
    rcases h11 with rfl | rfl | rfl
    · have : openB s.proven (celEff y ⟨9, tick, tenant, cell, other, epoch, since, till, n⟩) = openB s.proven y := rfl
      rw [this]
      omega
    · by_cases hq : y.running = n ∨ hasB s.proven n = true
      · have : openB s.proven (celEff y ⟨10, tick, tenant, cell, other, epoch, since, till, n⟩) = true → openB s.proven y = true := by
          simp only [openB, celEff]
          simp
          rcases hq with rfl | hq
          · intro h; left; rcases h with h | h <;> exact h
          · intro h; left; rcases h with h | h
            · exact h
            · rw [hq] at h; cases h
        by_cases ho : openB s.proven (celEff y ⟨10, tick, tenant, cell, other, epoch, since, till, n⟩) = true
        · rw [if_pos ho]; rw [if_pos (this ho)] at h3; omega
        · rw [if_neg ho]; omega
      · have : (others s cell : Int) < c.blast := by
          simp only [kindE, wantE, hxd] at hkd
          simp at hkd
          simp only [not_or, Bool.not_eq_true] at hq
          by_cases q1 : y.wanted = n
          · simp [q1] at hkd
          · by_cases q2 : s.low < (verAt c n).1 ∨ (verAt c n).2 < s.high
            · simp [q1, q2] at hkd
            · by_cases q3 : s.evac = 0
              · simp only [q1, q2, hq.1, hq.2, q3, if_false, or_self] at hkd
                simp at hkd
                omega
              · simp [q1, q2, hq.1, hq.2, q3] at hkd
        split <;> omega
    · have hw : n = y.wanted := by
        simp [kindE, runsE, hxd] at hkd
        by_cases hh : y.wanted = n
        · exact hh.symm
        · simp [hh] at hkd
      subst hw
      have : openB s.proven (celEff y ⟨11, tick, tenant, cell, other, epoch, since, till, y.wanted⟩) = true → openB s.proven y = true := by
        simp only [openB, celEff]
        simp
        intro h; right; exact h
      by_cases ho : openB s.proven (celEff y ⟨11, tick, tenant, cell, other, epoch, since, till, y.wanted⟩) = true
      · rw [if_pos ho]; rw [if_pos (this ho)] at h3; omega
      · rw [if_neg ho]; omega
  · by_cases h12 : kind = 12
    · subst h12
      refine Int.le_trans ?_ hc
      have hp := hI.proven
      have : openN (effOf s ⟨12, tick, tenant, cell, other, epoch, since, till, n⟩) ≤ openN s := by
        show s.cells.countP (openB (orBit s.proven n)) ≤ s.cells.countP (openB s.proven)
        apply List.countP_mono_left
        intro y hy
        simp only [openB, Bool.or_eq_true, Bool.not_eq_true']
        intro h
        rcases h with h | h
        · left
          cases hh : hasB s.proven y.running with
          | false => rfl
          | true => rw [hasB_or hp.1 hh] at h; cases h
        · right
          cases hh : hasB s.proven y.wanted with
          | false => rfl
          | true => rw [hasB_or hp.1 hh] at h; cases h
      omega
    · have : openN (effOf s ⟨kind, tick, tenant, cell, other, epoch, since, till, n⟩) = openN s := by
        unfold openN effOf
        have e1 : ¬ ((8 : Int) < kind ∧ kind ≤ 11) := by omega
        by_cases h8 : kind ≤ 8
        · simp only [h8, if_true]; rfl
        · have h11' : ¬ kind ≤ 11 := by omega
          simp only [h8, h11', h12, if_false]
          repeat' split
          all_goals rfl
      omega
end Go.Proofs.Ytjobcfpnmfjlfaa

namespace Go.Proofs.Ytjobcfpnmfjlfaa
open Go.RowKit
set_option linter.unusedSimpArgs false
set_option linter.unusedVariables false
/-! The laws of one step: places, epochs, windows. -/

structure PlOk (c : Cfg) (i : Int) (t : TS) : Prop where
  home : 0 ≤ t.home ∧ mayB c i t.home = true
  standby : 0 ≤ t.standby → mayB c i t.standby = true ∧ apartB c t.standby t.home = true ∧ (0 ≤ t.target → apartB c t.standby t.target = true)
  next : 0 ≤ t.next → mayB c i t.next = true ∧ apartB c t.next t.home = true ∧ (0 ≤ t.target → apartB c t.next t.target = true)
  target : 0 ≤ t.target → mayB c i t.target = true
  ne : t.target ≠ t.home
structure PlInv (c : Cfg) (i : Int) (t : TS) : Prop where
  on : t.placed = true → PlOk c i t
  off : t.placed = false → t.standby = -1 ∧ t.next = -1 ∧ t.target = -1
def PlsInv (c : Cfg) (s : St) : Prop := ∀ (i : Nat) (t : TS), s.tenants[i]? = some t → PlInv c i t
theorem pl_new (c : Cfg) : PlsInv c (stNew c) := by
  intro i t h
  have hm : t ∈ List.replicate c.tenants.length tsNew := List.mem_of_getElem? h
  obtain rfl := List.eq_of_mem_replicate hm
  exact ⟨fun h => (by cases h), fun _ => ⟨rfl, rfl, rfl⟩⟩
theorem apartB_comm (c : Cfg) (a b : Int) : apartB c a b = apartB c b a := by
  unfold apartB
  rw [Bool.eq_iff_iff]
  simp
  constructor
  · rintro ⟨⟨h1, h2⟩, h3⟩; exact ⟨⟨h2, h1⟩, fun h => h3 h.symm⟩
  · rintro ⟨⟨h1, h2⟩, h3⟩; exact ⟨⟨h2, h1⟩, fun h => h3 h.symm⟩
theorem apartB_ne {c : Cfg} {a b : Int} (h : apartB c a b = true) : a ≠ b := by
  rintro rfl
  simp [apartB] at h
theorem near_apart {c : Cfg} {a b : Int} (h : nearB c a b = false) (hb : 0 ≤ b) : apartB c a b = true := by
  have : b ≠ -1 := by omega
  simpa [nearB, this] using h

/-- A step's tenants: all as before but one, which is changed as its entry says. -/
theorem eff_ten {s : St} {e : Ent} (h8 : e.kind ≤ 8) : (effOf s e).tenants = s.tenants.set e.tenant.toNat (tenEff (tsAt s e.tenant) e) := by
  unfold effOf
  simp only [h8, if_true]
  rfl
theorem eff_ten' {s : St} {e : Ent} (h8 : ¬ e.kind ≤ 8) : (effOf s e).tenants = s.tenants := by
  unfold effOf
  simp only [h8, if_false]
  repeat' split
  all_goals rfl
theorem eff_tick {s : St} {e : Ent} : (effOf s e).tick = e.tick := by
  unfold effOf
  simp only
  repeat' split
  all_goals rfl
theorem eff_count {s : St} {e : Ent} : (effOf s e).count = s.count + 1 := by
  unfold effOf
  simp only
  repeat' split
  all_goals rfl
theorem eff_cel {s : St} {e : Ent} (h : e.kind ≤ 8 ∨ 11 < e.kind) : (effOf s e).cells = s.cells := by
  unfold effOf
  simp only
  split
  · rfl
  · split
    · omega
    · repeat' split
      all_goals rfl
theorem eff_cel' {s : St} {e : Ent} (h1 : 8 < e.kind) (h2 : e.kind ≤ 11) : (effOf s e).cells = s.cells.set e.cell.toNat (celEff (csAt s e.cell) e) := by
  unfold effOf
  simp only [show ¬ e.kind ≤ 8 by omega, h2, if_false, if_true]
  rfl
theorem ent_ten {c : Cfg} {s : St} {e : Ent} (hI : StInv c s) (ha : entV c e = true) (h8 : e.kind ≤ 8) : 0 ≤ e.tenant ∧ e.tenant < s.tenants.length := by
  obtain ⟨hti, hT, -⟩ := ent_rng ha
  have : fT c.tenants.length e.kind = (0, (c.tenants.length : Int) - 1) := if_pos h8
  have hlt := hI.lt
  rw [this] at hT
  simp [inS, inR] at hT
  omega

theorem pl_ten {c : Cfg} {s : St} {e : Ent} (hV : CfgV c) (hI : StInv c s) (ha : Acc c s e) (h8 : e.kind ≤ 8) (hp : PlInv c e.tenant (tsAt s e.tenant)) : PlInv c e.tenant (tenEff (tsAt s e.tenant) e) := by
  have hk := ent_kind ha.ent
  obtain ⟨hti, hT, hC, hO, hE, hS, hU, hN, hne⟩ := ent_rng ha.ent
  have hkd := ha.kind
  have hnc := hV.nc
  clear ha
  obtain ⟨kind, tick, tenant, cell, other, epoch, since, till, n⟩ := e
  simp only at *
  have hk' : kind = 1 ∨ kind = 2 ∨ kind = 3 ∨ kind = 4 ∨ kind = 5 ∨ kind = 6 ∨ kind = 7 ∨ kind = 8 := by omega
  generalize htd : tsAt s tenant = t at *
  rcases hk' with rfl | rfl | rfl | rfl | rfl | rfl | rfl | rfl
  · simp [inS, inR, fC, fO] at hC hO
    simp only [kindE, placeE, htd] at hkd
    simp at hkd
    have hpl : t.placed = false := by
      cases h : t.placed with
      | false => rfl
      | true => simp [h] at hkd
    obtain ⟨hs, hn, ht⟩ := hp.off hpl
    rw [if_neg (by simp [hpl])] at hkd
    by_cases q1 : ¬(csAt s cell).mode = 1 ∨ ¬other = -1 ∧ ¬(csAt s other).mode = 1
    · rw [if_pos q1] at hkd; omega
    rw [if_neg q1] at hkd
    by_cases q2 : frozenB c s cell = true ∨ ¬other = -1 ∧ frozenB c s other = true
    · rw [if_pos q2] at hkd; omega
    rw [if_neg q2] at hkd
    have hkd := Classical.not_not.1 (fun h => h hkd)
    have q3 : ¬ (mayB c tenant cell = false ∨ ¬other = -1 ∧ mayB c tenant other = false ∨ nearB c cell other = true) := by simpa using hkd
    simp only [not_or, not_and, Bool.not_eq_false, Bool.not_eq_true] at q3
    obtain ⟨q4, q5, q6⟩ := q3
    refine ⟨fun _ => ⟨⟨by simp [tenEff]; omega, by simpa [tenEff] using q4⟩, ?_, ?_, ?_, ?_⟩, fun h => by simp [tenEff] at h⟩
    · intro h
      simp [tenEff] at h ⊢
      refine ⟨q5 (by omega), ?_, by omega⟩
      rw [apartB_comm]
      exact near_apart q6 h
    · intro h; simp [tenEff] at h; omega
    · intro h; simp [tenEff] at h; omega
    · simp [tenEff]; omega
  · simp only [kindE, grantE, htd] at hkd
    simp at hkd
    simp [inS, inR, fC] at hC
    have hpl : t.placed = true := by
      cases h : t.placed with
      | true => rfl
      | false => simp [h] at hkd
    have ho := hp.on hpl
    have hcell : cell = t.home ∨ cell = t.standby ∨ cell = t.target := by
      by_cases q1 : t.placed = false ∨ t.shed = true ∧ ¬cell = t.standby
      · rw [if_pos q1] at hkd; omega
      rw [if_neg q1] at hkd
      by_cases q2 : ¬cell = t.home ∧ ¬cell = t.standby ∧ ¬cell = t.target
      · rw [if_pos q2] at hkd; omega
      omega
    simp only [tenEff, grantT, show ¬ ((2 : Int) = 1) by omega, if_false, if_true]
    split
    · exact ⟨fun _ => ⟨ho.home, ho.standby, ho.next, ho.target, ho.ne⟩, fun h => (by rw [hpl] at h; cases h)⟩
    · split
      · rename_i h1 h2
        refine ⟨fun _ => ⟨⟨hC.1, ?_⟩, fun h => ?_, fun h => ?_, fun h => ?_, ?_⟩, fun h => (by rw [hpl] at h; cases h)⟩
        · rw [h2]; exact (ho.standby (by omega)).1
        · simp at h
        · simp at h
        · simp at h
        · simp only; omega
      · rename_i h1 h2
        have h3 : cell = t.target := by omega
        have h4 : 0 ≤ t.target := by omega
        refine ⟨fun _ => ⟨⟨hC.1, ?_⟩, fun h => ?_, fun h => ?_, fun h => ?_, ?_⟩, fun h => (by rw [hpl] at h; cases h)⟩
        · rw [h3]; exact ho.target h4
        · have := ho.standby h
          exact ⟨this.1, by simp only [h3]; exact this.2.2 h4, fun h => by simp at h⟩
        · have := ho.next h
          exact ⟨this.1, by simp only [h3]; exact this.2.2 h4, fun h => by simp at h⟩
        · simp at h
        · simp only; omega
  · exact ⟨fun h => ⟨(hp.on h).home, (hp.on h).standby, (hp.on h).next, (hp.on h).target, (hp.on h).ne⟩, hp.off⟩
  · simp only [kindE, standbyE, htd] at hkd
    simp at hkd
    simp [inS, inR, fC] at hC
    have hpl : t.placed = true := by
      cases h : t.placed with
      | true => rfl
      | false => simp [h] at hkd
    have ho := hp.on hpl
    refine ⟨fun _ => ⟨ho.home, ho.standby, fun h => ?_, ho.target, ho.ne⟩, fun h => by rw [show (tenEff t ⟨4, tick, tenant, cell, other, epoch, since, till, n⟩).placed = t.placed from rfl, hpl] at h; cases h⟩
    have hc0 : 0 ≤ cell := h
    rw [if_neg (by simp [hpl]), if_neg (by omega)] at hkd
    by_cases q1 : cell = t.home ∨ cell = t.standby ∨ cell = t.target
    · rw [if_pos q1] at hkd; omega
    rw [if_neg q1] at hkd
    by_cases q2 : (csAt s cell).mode = 1
    case neg => rw [if_neg q2] at hkd; omega
    rw [if_pos q2] at hkd
    by_cases q3 : frozenB c s cell = true
    · rw [if_pos q3] at hkd; omega
    rw [if_neg q3] at hkd
    have q4 : ¬ (mayB c tenant cell = false ∨ nearB c cell t.home = true ∨ nearB c cell t.target = true) := by simpa using hkd
    simp only [not_or, Bool.not_eq_false, Bool.not_eq_true] at q4
    exact ⟨q4.1, near_apart q4.2.1 ho.home.1, fun ht => near_apart q4.2.2 ht⟩
  · simp only [kindE, readyE, htd] at hkd
    simp at hkd
    simp [inS, inR, fC] at hC
    have hpl : t.placed = true := by
      cases h : t.placed with
      | true => rfl
      | false => simp [h] at hkd
    have ho := hp.on hpl
    have hc : cell = t.next := by
      refine Classical.byContradiction fun h => ?_
      simp [hpl, h] at hkd
    refine ⟨fun _ => ⟨ho.home, fun h => ?_, fun h => ?_, ho.target, ho.ne⟩, fun h => by rw [show (tenEff t ⟨5, tick, tenant, cell, other, epoch, since, till, n⟩).placed = t.placed from rfl, hpl] at h; cases h⟩
    · have h2 : 0 ≤ t.next := by rw [← hc]; exact h
      have := ho.next h2
      rw [← hc] at this
      exact this
    · exact absurd h (by simp [tenEff])
  · simp only [kindE, migrateE, htd] at hkd
    simp at hkd
    simp [inS, inR, fC] at hC
    have hpl : t.placed = true := by
      cases h : t.placed with
      | true => rfl
      | false => simp [h] at hkd
    have ho := hp.on hpl
    by_cases q0 : t.placed = false ∨ t.shed = true ∨ ¬t.target = -1
    · rw [if_pos q0] at hkd; omega
    rw [if_neg q0] at hkd
    by_cases q1 : cell = t.home ∨ cell = t.standby ∨ cell = t.next
    · rw [if_pos q1] at hkd; omega
    rw [if_neg q1] at hkd
    by_cases q2 : (csAt s cell).mode = 1
    case neg => rw [if_neg q2] at hkd; omega
    rw [if_pos q2] at hkd
    by_cases q3 : frozenB c s cell = true
    · rw [if_pos q3] at hkd; omega
    rw [if_neg q3] at hkd
    have q4 : ¬ (mayB c tenant cell = false ∨ nearB c cell t.standby = true ∨ nearB c cell t.next = true) := by simpa using hkd
    simp only [not_or, Bool.not_eq_false, Bool.not_eq_true] at q4
    refine ⟨fun _ => ⟨ho.home, fun h => ?_, fun h => ?_, fun h => q4.1, ?_⟩, fun h => by rw [show (tenEff t ⟨6, tick, tenant, cell, other, epoch, since, till, n⟩).placed = t.placed from rfl, hpl] at h; cases h⟩
    · have := ho.standby h
      refine ⟨this.1, this.2.1, fun _ => ?_⟩
      show apartB c t.standby cell = true
      rw [apartB_comm]; exact near_apart q4.2.1 h
    · have := ho.next h
      refine ⟨this.1, this.2.1, fun _ => ?_⟩
      show apartB c t.next cell = true
      rw [apartB_comm]; exact near_apart q4.2.2 h
    · show cell ≠ t.home
      omega
  · refine ⟨fun h => ?_, fun h => ⟨(hp.off h).1, (hp.off h).2.1, rfl⟩⟩
    have ho := hp.on h
    refine ⟨ho.home, fun h => ⟨(ho.standby h).1, (ho.standby h).2.1, fun h => absurd h (by simp [tenEff])⟩, fun h => ⟨(ho.next h).1, (ho.next h).2.1, fun h => absurd h (by simp [tenEff])⟩, fun h => absurd h (by simp [tenEff]), ?_⟩
    show (-1 : Int) ≠ t.home
    have := ho.home.1
    omega
  · by_cases hn : n = 1
    · subst hn
      refine ⟨fun h => ?_, fun h => ⟨(hp.off h).1, (hp.off h).2.1, rfl⟩⟩
      have ho := hp.on h
      refine ⟨ho.home, fun h => ⟨(ho.standby h).1, (ho.standby h).2.1, fun h => absurd h (by simp [tenEff])⟩, fun h => ⟨(ho.next h).1, (ho.next h).2.1, fun h => absurd h (by simp [tenEff])⟩, fun h => absurd h (by simp [tenEff]), ?_⟩
      show (-1 : Int) ≠ t.home
      have := ho.home.1
      omega
    · have : tenEff t ⟨8, tick, tenant, cell, other, epoch, since, till, n⟩ = { t with shed := false } := by simp [tenEff, hn]
      rw [this]
      exact ⟨fun h => ⟨(hp.on h).home, (hp.on h).standby, (hp.on h).next, (hp.on h).target, (hp.on h).ne⟩, hp.off⟩
theorem pl_step {c : Cfg} {s x : St} {e : Ent} (hV : CfgV c) (hI : StInv c s) (hc : PlsInv c s) (h : applyP c s e = (x, 0)) : PlsInv c x := by
  obtain ⟨hr, hx, -⟩ := applyP_ok h
  have ha := acc_of hr
  subst hx
  by_cases h8 : e.kind ≤ 8
  · have hten := ent_ten hI ha.ent h8
    intro i t hit
    rw [eff_ten h8, List.getElem?_set] at hit
    by_cases hi : e.tenant.toNat = i
    · have hi' : (i : Int) = e.tenant := by omega
      simp [hi, show i < s.tenants.length by omega] at hit
      subst hit
      rw [hi']
      have h2 := hc _ _ (tsAt_mem hten.1 hten.2).1
      rw [Int.toNat_of_nonneg hten.1] at h2
      exact pl_ten hV hI ha h8 h2
    · simp [hi] at hit
      exact hc i t hit
  · intro i t hit
    rw [eff_ten' h8] at hit
    exact hc i t hit

/-! Epochs. -/
structure EpOk (tick : Int) (a b : TS) : Prop where
  up : a.epoch ≤ b.epoch ∧ b.epoch ≤ a.epoch + 1
  home : a.placed = true → a.home ≠ b.home → b.epoch = a.epoch + 1 ∧ a.win.till ≤ tick
  placed : a.placed = true → b.placed = true
theorem ep_same (tick : Int) (a : TS) : EpOk tick a a := ⟨⟨by omega, by omega⟩, fun _ h => absurd rfl h, fun h => h⟩
theorem ep_step {c : Cfg} {s x : St} {e : Ent} (hV : CfgV c) (hI : StInv c s) (h : applyP c s e = (x, 0)) : s.tick ≤ x.tick ∧ x.count = s.count + 1 ∧ x.tenants.length = s.tenants.length ∧ ∀ (i : Nat) (a b : TS), s.tenants[i]? = some a → x.tenants[i]? = some b → EpOk x.tick a b := by
  obtain ⟨hr, hx, -⟩ := applyP_ok h
  have ha := acc_of hr
  subst hx
  rw [eff_tick, eff_count]
  refine ⟨ha.tick, rfl, ?_, ?_⟩
  · by_cases h8 : e.kind ≤ 8
    · rw [eff_ten h8]; simp
    · rw [eff_ten' h8]
  intro i a b h1 h2
  by_cases h8 : e.kind ≤ 8
  · have hten := ent_ten hI ha.ent h8
    rw [eff_ten h8, List.getElem?_set] at h2
    by_cases hi : e.tenant.toNat = i
    · simp [hi, show i < s.tenants.length by omega] at h2
      have hta := (tsAt_mem hten.1 hten.2).1
      rw [hi, h1] at hta
      injection hta with hta
      subst h2
      rw [← hta]
      have hkd := ha.kind
      have hk := ent_kind ha.ent
      clear ha h hr h1 hi hI
      obtain ⟨kind, tick, tenant, cell, other, epoch, since, till, n⟩ := e
      simp only at *
      have hk' : kind = 1 ∨ kind = 2 ∨ kind = 3 ∨ kind = 4 ∨ kind = 5 ∨ kind = 6 ∨ kind = 7 ∨ kind = 8 := by omega
      rcases hk' with rfl | rfl | rfl | rfl | rfl | rfl | rfl | rfl
      · have hpl : a.placed = false := by
          simp only [kindE, placeE, ← hta] at hkd
          simp at hkd
          cases h : a.placed with
          | false => rfl
          | true => simp [h] at hkd
        refine ⟨⟨by simp [tenEff], by simp [tenEff]; omega⟩, fun h => (by rw [hpl] at h; cases h), fun h => (by rw [hpl] at h; cases h)⟩
      · simp only [kindE, grantE, ← hta] at hkd
        simp at hkd
        by_cases q1 : a.placed = false ∨ a.shed = true ∧ ¬cell = a.standby
        · rw [if_pos q1] at hkd; omega
        rw [if_neg q1] at hkd
        by_cases q2 : ¬cell = a.home ∧ ¬cell = a.standby ∧ ¬cell = a.target
        · rw [if_pos q2] at hkd; omega
        rw [if_neg q2] at hkd
        by_cases q3 : (csAt s cell).mode = 3 ∨ (csAt s cell).mode = 2 ∧ ¬cell = a.home
        · rw [if_pos q3] at hkd; omega
        rw [if_neg q3] at hkd
        by_cases q4 : ¬epoch = a.epoch + 1 ∧ (cell = a.home → ¬epoch = a.epoch)
        · rw [if_pos q4] at hkd; omega
        rw [if_neg q4] at hkd
        by_cases q5 : ¬n = (csAt s cell).running ∨ ¬(csAt s cell).running = (csAt s cell).wanted
        · rw [if_pos q5] at hkd; omega
        rw [if_neg q5] at hkd
        have q6 : ¬ (since < tick ∨ tick + c.lease < since ∨ till ≤ since ∨ c.lease < till - since ∨ since < a.win.till ∨ ¬cell = a.home ∧ tick < a.win.till) := by simpa using hkd
        simp only [tenEff, grantT, show ¬ ((2 : Int) = 1) by omega, if_false, if_true]
        split
        · rename_i hh
          refine ⟨⟨?_, ?_⟩, fun _ h => absurd rfl h, fun h => h⟩ <;> simp only <;> omega
        · have hep : epoch = a.epoch + 1 := by omega
          split
          · refine ⟨⟨?_, ?_⟩, fun _ h => ⟨hep, ?_⟩, fun h => h⟩ <;> (try simp only) <;> omega
          · refine ⟨⟨?_, ?_⟩, fun _ h => ⟨hep, ?_⟩, fun h => h⟩ <;> (try simp only) <;> omega
      · exact ⟨⟨Int.le_refl _, by simp [tenEff]; omega⟩, fun _ h => absurd rfl h, fun h => h⟩
      · exact ⟨⟨Int.le_refl _, by simp [tenEff]; omega⟩, fun _ h => absurd rfl h, fun h => h⟩
      · exact ⟨⟨Int.le_refl _, by simp [tenEff]; omega⟩, fun _ h => absurd rfl h, fun h => h⟩
      · exact ⟨⟨Int.le_refl _, by simp [tenEff]; omega⟩, fun _ h => absurd rfl h, fun h => h⟩
      · exact ⟨⟨Int.le_refl _, by simp [tenEff]; omega⟩, fun _ h => absurd rfl h, fun h => h⟩
      · by_cases hn : n = 1
        · subst hn
          exact ⟨⟨Int.le_refl _, by simp [tenEff]; omega⟩, fun _ h => absurd rfl h, fun h => h⟩
        · have : tenEff a ⟨8, tick, tenant, cell, other, epoch, since, till, n⟩ = { a with shed := false } := by simp [tenEff, hn]
          rw [this]
          exact ⟨⟨Int.le_refl _, by simp only; omega⟩, fun _ h => absurd rfl h, fun h => h⟩
    · simp [hi] at h2
      rw [h1] at h2
      injection h2 with h2
      rw [← h2]
      exact ep_same _ _
  · rw [eff_ten' h8, h1] at h2
    injection h2 with h2
    rw [← h2]
    exact ep_same _ _

/-! Windows. -/
def WinOk (s : St) (t : TS) : Prop := t.win.till ≤ s.tick ∨ (t.placed = true ∧ t.shed = false ∧ t.win.cell = t.home ∧ t.win.epoch = t.epoch ∧ t.win.version = (csAt s t.home).running)
def WinInv (s : St) : Prop := ∀ t ∈ s.tenants, WinOk s t
theorem win_new (c : Cfg) : WinInv (stNew c) := by
  intro t ht
  obtain rfl := List.eq_of_mem_replicate (show t ∈ List.replicate c.tenants.length tsNew from ht)
  exact .inl (by simp [tsNew, stNew])
theorem win_keep {s x : St} {t : TS} (h : WinOk s t) (ht : s.tick ≤ x.tick) (hc : ∀ k, (csAt x k).running = (csAt s k).running) : WinOk x t := by
  rcases h with h | ⟨h1, h2, h3, h4, h5⟩
  · exact .inl (by omega)
  · exact .inr ⟨h1, h2, h3, h4, by rw [hc]; exact h5⟩
theorem win_step {c : Cfg} {s x : St} {e : Ent} (hV : CfgV c) (hI : StInv c s) (hP : PlsInv c s) (hc : WinInv s) (h : applyP c s e = (x, 0)) : WinInv x := by
  obtain ⟨hr, hx, -⟩ := applyP_ok h
  have ha := acc_of hr
  have hx' : x.tick = e.tick := by rw [hx]; exact eff_tick
  have htk := ha.tick
  by_cases h8 : e.kind ≤ 8
  · have hcc : ∀ k, (csAt x k).running = (csAt s k).running := by
      intro k
      rw [hx]; unfold csAt
      rw [eff_cel (.inl h8)]
    have hcs : ∀ k, csAt x k = csAt s k := by
      intro k
      rw [hx]; unfold csAt
      rw [eff_cel (.inl h8)]
    intro t ht
    rw [hx, eff_ten h8] at ht
    rcases List.mem_or_eq_of_mem_set ht with ht | rfl
    · exact win_keep (hc t ht) (by omega) hcc
    · have hten := ent_ten hI ha.ent h8
      have h0 := hc _ (tsAt_mem hten.1 hten.2).2
      have hp := hP _ _ (tsAt_mem hten.1 hten.2).1
      have hti := hI.ten _ (tsAt_mem hten.1 hten.2).2
      have hkd := ha.kind
      have hk := ent_kind ha.ent
      have h0' : WinOk x (tsAt s e.tenant) := win_keep h0 (by omega) hcc
      clear ha h hr ht hI hP
      obtain ⟨kind, tick, tenant, cell, other, epoch, since, till, n⟩ := e
      simp only at *
      have hk' : kind = 1 ∨ kind = 2 ∨ kind = 3 ∨ kind = 4 ∨ kind = 5 ∨ kind = 6 ∨ kind = 7 ∨ kind = 8 := by omega
      generalize htd : tsAt s tenant = a at *
      rcases hk' with rfl | rfl | rfl | rfl | rfl | rfl | rfl | rfl
      · have hpl : a.placed = false := by
          simp only [kindE, placeE, htd] at hkd
          simp at hkd
          cases h : a.placed with
          | false => rfl
          | true => simp [h] at hkd
        rcases h0' with h | ⟨h, -⟩
        · exact .inl h
        · rw [hpl] at h; cases h
      · simp only [kindE, grantE, htd] at hkd
        simp at hkd
        by_cases q1 : a.placed = false ∨ a.shed = true ∧ ¬cell = a.standby
        · rw [if_pos q1] at hkd; omega
        rw [if_neg q1] at hkd
        by_cases q2 : ¬cell = a.home ∧ ¬cell = a.standby ∧ ¬cell = a.target
        · rw [if_pos q2] at hkd; omega
        rw [if_neg q2] at hkd
        by_cases q3 : (csAt s cell).mode = 3 ∨ (csAt s cell).mode = 2 ∧ ¬cell = a.home
        · rw [if_pos q3] at hkd; omega
        rw [if_neg q3] at hkd
        by_cases q4 : ¬epoch = a.epoch + 1 ∧ (cell = a.home → ¬epoch = a.epoch)
        · rw [if_pos q4] at hkd; omega
        rw [if_neg q4] at hkd
        by_cases q5 : ¬n = (csAt s cell).running ∨ ¬(csAt s cell).running = (csAt s cell).wanted
        · rw [if_pos q5] at hkd; omega
        simp only [not_or, not_and, Bool.not_eq_false, Classical.not_not] at q1 q5
        have ho := hp.on q1.1
        simp only [tenEff, grantT, show ¬ ((2 : Int) = 1) by omega, if_false, if_true]
        right
        split
        · rename_i hh
          refine ⟨q1.1, ?_, hh, rfl, ?_⟩
          · show a.shed = false
            cases hs : a.shed with
            | false => rfl
            | true =>
              have h1 := q1.2 hs
              have h2 := ho.standby (by have := ho.home.1; omega)
              exact absurd (h1.symm.trans hh) (apartB_ne h2.2.1)
          · show n = (csAt x a.home).running
            rw [hcc, ← hh]; exact q5.1
        · split
          · exact ⟨q1.1, rfl, rfl, rfl, by show n = (csAt x cell).running; rw [hcc]; exact q5.1⟩
          · rename_i hh1 hh2
            refine ⟨q1.1, ?_, rfl, rfl, by show n = (csAt x cell).running; rw [hcc]; exact q5.1⟩
            show a.shed = false
            cases hs : a.shed with
            | false => rfl
            | true => exact absurd (q1.2 hs) hh2
      · rcases h0' with h | ⟨h1, h2, h3, h4, h5⟩
        · left
          show min a.win.till (tick + 1) ≤ x.tick
          omega
        · exact .inr ⟨h1, h2, h3, h4, h5⟩
      · exact h0'
      · exact h0'
      · exact h0'
      · exact h0'
      · simp only [kindE, shedE, htd] at hkd
        simp at hkd
        left
        by_cases hn : n = 0
        · rw [if_pos hn] at hkd
          have hs : a.shed = true := by
            cases h : a.shed with
            | true => rfl
            | false => simp [h] at hkd
          have : tenEff a ⟨8, tick, tenant, cell, other, epoch, since, till, n⟩ = { a with shed := false } := by simp [tenEff, hn]
          rw [this]
          rcases h0' with h | ⟨h1, h2, -⟩
          · exact h
          · rw [hs] at h2; cases h2
        · rw [if_neg hn] at hkd
          have hw : a.win.till ≤ tick := by
            by_cases q1 : a.placed = false ∨ a.shed = true
            · rw [if_pos q1] at hkd; omega
            rw [if_neg q1] at hkd
            have : ¬ tick < a.win.till := by simpa using hkd
            omega
          have : (tenEff a ⟨8, tick, tenant, cell, other, epoch, since, till, n⟩).win = a.win := by
            simp only [tenEff]
            simp
            split <;> rfl
          rw [this]
          omega
  · intro t ht
    rw [hx, eff_ten' h8] at ht
    by_cases h11 : e.kind = 11
    · rcases hc t ht with h | ⟨h1, h2, h3, h4, h5⟩
      · exact .inl (by omega)
      · by_cases hcl : e.tick < t.win.till
        · right
          refine ⟨h1, h2, h3, h4, ?_⟩
          have hne : t.home ≠ e.cell := by
            intro hh
            have hkd := ha.kind
            have : (s.tenants.any (fun t => decide (t.win.cell = e.cell) && decide (e.tick < t.win.till))) = true := List.any_eq_true.2 ⟨t, ht, by simp [h3, hh, hcl]⟩
            simp only [kindE, h11, runsE, this] at hkd
            simp at hkd
            by_cases q1 : ¬(csAt s e.cell).wanted = e.n ∨ (csAt s e.cell).running = (csAt s e.cell).wanted
            · rw [if_pos q1] at hkd; omega
            rw [if_neg q1] at hkd
            by_cases q2 : hasB s.proven e.n = false ∧ ¬s.evac = 0
            · rw [if_pos q2] at hkd; omega
            rw [if_neg q2] at hkd
            omega
          obtain ⟨-, -, hC, -⟩ := ent_rng ha.ent
          have hcel : 0 ≤ e.cell := by
            have : fC c.cells.length e.kind = (0, (c.cells.length : Int) - 1) := if_pos (by omega)
            rw [this] at hC
            simp [inS, inR] at hC
            omega
          have hh := (hI.ten t ht).placed h1
          rw [h5]
          unfold csAt
          rw [hx, eff_cel' (by omega) (by omega), List.getD_eq_getElem?_getD, List.getD_eq_getElem?_getD, List.getElem?_set_ne (by omega)]
        · exact .inl (by omega)
    · have hcc : ∀ k, (csAt x k).running = (csAt s k).running := by
        intro k
        rw [hx]; unfold csAt
        by_cases h2 : 11 < e.kind
        · rw [eff_cel (.inr h2)]
        · rw [eff_cel' (by omega) (by omega)]
          have hrun : (celEff (csAt s e.cell) e).running = (csAt s e.cell).running := by
            simp only [celEff, h11, if_false]
            split
            · rfl
            · split <;> rfl
          rw [List.getD_eq_getElem?_getD, List.getElem?_set]
          by_cases hk : e.cell.toNat = k.toNat
          · rw [if_pos hk]
            split
            · rename_i hl
              simp only [Option.getD_some, hrun]
              unfold csAt
              rw [hk]
            · rename_i hl
              rw [List.getD_eq_getElem?_getD, List.getElem?_eq_none (by omega)]
          · rw [if_neg hk, List.getD_eq_getElem?_getD]
      exact win_keep (hc t ht) (by omega) hcc
end Go.Proofs.Ytjobcfpnmfjlfaa

namespace Go.Proofs.Ytjobcfpnmfjlfaa
open Go.RowKit
set_option linter.unusedSimpArgs false
set_option linter.unusedVariables false

theorem CSound.mono {P : Program} {f : FuncId} {ct ct' : CT} (h : CSound P f ct) (hi : ∀ vs mem nx K, ct' vs mem nx K → ct vs mem nx K) : CSound P f ct' := ⟨h.ent, fun {C ρ fr mem nx a w vs K} hc hs hv => h.run (hi vs mem nx K hc) hs hv⟩
def ctMay : CT := fun vs mem nx K => ∃ N x c t k, vs = [cfgV N x c, .int .i64 t, .int .i64 k] ∧ (keeps mem (cfgM N c)) ∧ (CfgV c) ∧ K (.bool (mayB c t k)) mem nx
theorem mayOk : CSound Try.prog 65 ctMay := (ptsOk (R := fun l z => ∃ c t k, l = [.cf c, .vl (.int .i64 t), .vl (.int .i64 k)] ∧ z = .bool (mayB c t k)) (pre := fun l => ∃ c t k, l = [.cf c, .vl (.int .i64 t), .vl (.int .i64 k)] ∧ (CfgV c)) (by kernel_rfl) (by
  rintro ps w ⟨c, t, k, hps, hpre⟩ hok
  obtain ⟨x, ps0, rfl, hps0⟩ := dt_c hps
  obtain ⟨ps1, rfl, hps1⟩ := dt_v hps0
  obtain ⟨ps2, rfl, hps2⟩ := dt_v hps1
  obtain rfl := dt_nil hps2
  have hpc := hok (.cf x c) (by simp)
  refine (r5May_any x c t k w hpre hpc).mono ?_
  rintro e w' ⟨rfl, hb⟩
  exact ⟨_, ⟨c, t, k, rfl, rfl⟩, trivial, rfl, hb⟩)).mono (by
  rintro vs mem nx K ⟨N, x, c, t, k, rfl, hk, hpre, hK⟩
  exact ⟨[.cf N x c, .vl _, .vl _], rfl, ⟨hk, trivial, trivial, trivial⟩, ⟨_, _, _, rfl, hpre⟩, by rintro z ⟨c', t', k', hl, hz⟩; cases hl; subst hz; exact hK⟩)
def ctApart : CT := fun vs mem nx K => ∃ N x c t k, vs = [cfgV N x c, .int .i64 t, .int .i64 k] ∧ (keeps mem (cfgM N c)) ∧ (CfgV c) ∧ K (.bool (apartB c t k)) mem nx
theorem apartOk : CSound Try.prog 66 ctApart := (ptsOk (R := fun l z => ∃ c t k, l = [.cf c, .vl (.int .i64 t), .vl (.int .i64 k)] ∧ z = .bool (apartB c t k)) (pre := fun l => ∃ c t k, l = [.cf c, .vl (.int .i64 t), .vl (.int .i64 k)] ∧ (CfgV c)) (by kernel_rfl) (by
  rintro ps w ⟨c, t, k, hps, hpre⟩ hok
  obtain ⟨x, ps0, rfl, hps0⟩ := dt_c hps
  obtain ⟨ps1, rfl, hps1⟩ := dt_v hps0
  obtain ⟨ps2, rfl, hps2⟩ := dt_v hps1
  obtain rfl := dt_nil hps2
  have hpc := hok (.cf x c) (by simp)
  refine (r5Apart_any x c t k w hpre hpc).mono ?_
  rintro e w' ⟨rfl, hb⟩
  exact ⟨_, ⟨c, t, k, rfl, rfl⟩, trivial, rfl, hb⟩)).mono (by
  rintro vs mem nx K ⟨N, x, c, t, k, rfl, hk, hpre, hK⟩
  exact ⟨[.cf N x c, .vl _, .vl _], rfl, ⟨hk, trivial, trivial, trivial⟩, ⟨_, _, _, rfl, hpre⟩, by rintro z ⟨c', t', k', hl, hz⟩; cases hl; subst hz; exact hK⟩)
def plF : FT := [(65, ctMay), (66, ctApart)]
theorem plFok : FTok Try.prog plF := ft_cons mayOk (ft_cons apartOk ft_nil)
def plD : List (Nat × DQ) := [
  (2000002, { k := 0, L := [0, 1, 2, 3, 4, 5, 6, 7, 10, 11], sl := [2, 3] }),
  (2000008, { k := 0, L := [0, 1, 2, 3, 4, 5, 6, 7, 10, 11, 12, 13], sl := [2, 3, 5, 6, 7] }),
  (2000013, { k := 0, L := [0, 1, 2, 3, 4, 5, 6, 7, 10, 11, 12, 13], sl := [2, 3, 5, 6, 7] }),
  (10, { k := 15, L := [10, 13], pre := [(0, false), (1, false), (2, true), (3, false), (4, false), (5, false), (6, false), (7, false), (8, false), (9, false), (10, true), (11, false), (12, true), (13, false), (14, false)] }),
  (15, { k := 32, L := [10, 12, 13], pre := [(0, false), (1, false), (2, true), (3, false), (4, false), (5, false), (6, false), (7, false), (8, false), (11, false), (12, false), (9, true), (10, false), (13, true), (14, false), (15, false), (16, false), (17, false), (18, false), (19, false), (20, false), (21, false), (22, false), (25, false), (26, false), (23, true), (24, false), (27, true), (28, false), (29, false), (30, false), (31, false)] })]
set_option maxRecDepth 100000 in
set_option maxHeartbeats 4000000 in
theorem places_sx (x : CfgK) (c : Cfg) (y : StK) (s : St) (hV : CfgV c) (hI : StInv c s) (hpl : PlsInv c s) :
    sx tt plF plD (bodyOf Try.f40) (argF 0 [cfgV CN1 x c, stV SN1 y s]) (rdM c s noS) 10 (endx tt Try.f40.results.toList fun v _ _ => v = .bool true ∧ pureV v) := by
  have hnt := hV.nt
  have hlt := hI.lt
  refine ⟨Int, fun i => [(5, .int .i64 i)], fun _ => [], fun i => 0 ≤ i ∧ i ≤ s.tenants.length, fun i => ((s.tenants.length : Int) - i).toNat, ⟨0, ⟨by omega, by omega⟩, ⟨rfl, rfl, rfl, trivial⟩, ⟨rfl, rfl, rfl, rfl, rfl, rfl, rfl, rfl, rfl, rfl, trivial⟩⟩, ?_⟩
  rintro i hi
  refine ⟨⟨rfl, rfl⟩, ?_⟩
  refine ⟨fun hlt => ?_, fun hge => ?_⟩
  · have hlt2 : i < (s.tenants.length : Int) := of_decide_eq_true hlt
    have hP := hpl i.toNat _ (getD_get (d := default) (show i.toNat < s.tenants.length by omega))
    have hP2 := hP.on
    rw [show ((i.toNat : Nat) : Int) = i by omega] at hP2
    refine ⟨⟨Nat.le_refl _, hi.1, hlt2⟩, ?_⟩
    obtain ⟨t, ht⟩ : ∃ t, t = s.tenants.getD i.toNat default := ⟨_, rfl⟩
    rw [← ht] at hP2
    refine ⟨fun hp => ?_, fun hp => ?_⟩
    · refine ⟨_, ?_, ⟨rfl, rfl, rfl, trivial⟩, ⟨rfl, rfl, rfl, rfl, rfl, rfl, rfl, rfl, rfl, rfl, trivial⟩⟩
      rw [wrapi (n := i + 1) (by omega)]
      dsimp only
      refine ⟨⟨by omega, by omega⟩, by omega⟩
    · replace hP2 := hP2 (by
        rw [ht]
        cases hb : (s.tenants.getD i.toNat default).placed with
        | true => rfl
        | false => rw [hb] at hp; cases hp)
      rw [ht] at hP2
      obtain ⟨hhome, hstb, hnxt, htgt, hne⟩ := hP2
      refine ⟨Int, fun i => [(8, .int .i64 i)], fun _ => [], fun i => 0 ≤ i ∧ i ≤ 4, fun i => ((4 : Int) - i).toNat, ⟨0, ⟨by omega, by omega⟩, ⟨rfl, rfl, rfl, rfl, rfl, rfl, trivial⟩, ⟨rfl, rfl, rfl, rfl, rfl, rfl, rfl, rfl, rfl, rfl, rfl, rfl, trivial⟩⟩, ?_⟩
      · rintro k hk
        refine ⟨⟨rfl, rfl⟩, ?_⟩
        refine ⟨fun hlt => ?_, fun hge => ?_⟩
        · have hk2 : k < 4 := of_decide_eq_true hlt
          rcases (show k = 0 ∨ k = 1 ∨ k = 2 ∨ k = 3 by omega) with rfl | rfl | rfl | rfl
          · refine ⟨⟨by decide, by decide, by decide⟩, ⟨rfl, rfl, trivial⟩, ?_⟩
            refine ⟨fun h0 => ?_, fun h0 => ?_⟩
            · refine ⟨⟨by decide, by decide, by decide⟩, ⟨rfl, rfl, trivial⟩, ?_⟩
              refine ⟨CN1, x, c, _, _, rfl, ⟨rfl, rfl, rfl, rfl, rfl, rfl, trivial⟩, hV, ?_⟩
              have hm : mayB c i (s.tenants.getD i.toNat default).home = true := hhome.2
              refine ⟨⟨rfl, rfl, trivial⟩, ?_⟩
              rw [hm]
              refine ⟨(fun h => nomatch h), fun _ => ?_⟩
              refine ⟨_, ?_, ⟨rfl, rfl, rfl, rfl, rfl, rfl, trivial⟩, ⟨rfl, rfl, rfl, rfl, rfl, rfl, rfl, rfl, rfl, rfl, rfl, rfl, trivial⟩⟩
              rw [wrapi (n := 0 + 1) (by omega)]
              dsimp only
              refine ⟨⟨by omega, by omega⟩, by omega⟩
            · refine ⟨(fun h => nomatch h), fun _ => ?_⟩
              refine ⟨_, ?_, ⟨rfl, rfl, rfl, rfl, rfl, rfl, trivial⟩, ⟨rfl, rfl, rfl, rfl, rfl, rfl, rfl, rfl, rfl, rfl, rfl, rfl, trivial⟩⟩
              rw [wrapi (n := 0 + 1) (by omega)]
              dsimp only
              refine ⟨⟨by omega, by omega⟩, by omega⟩
          · refine ⟨⟨by decide, by decide, by decide⟩, ⟨rfl, rfl, trivial⟩, ?_⟩
            refine ⟨fun h0 => ?_, fun h0 => ?_⟩
            · refine ⟨⟨by decide, by decide, by decide⟩, ⟨rfl, rfl, trivial⟩, ?_⟩
              refine ⟨CN1, x, c, _, _, rfl, ⟨rfl, rfl, rfl, rfl, rfl, rfl, trivial⟩, hV, ?_⟩
              have hm : mayB c i (s.tenants.getD i.toNat default).standby = true := (hstb (of_decide_eq_true h0)).1
              refine ⟨⟨rfl, rfl, trivial⟩, ?_⟩
              rw [hm]
              refine ⟨(fun h => nomatch h), fun _ => ?_⟩
              refine ⟨_, ?_, ⟨rfl, rfl, rfl, rfl, rfl, rfl, trivial⟩, ⟨rfl, rfl, rfl, rfl, rfl, rfl, rfl, rfl, rfl, rfl, rfl, rfl, trivial⟩⟩
              rw [wrapi (n := 1 + 1) (by omega)]
              dsimp only
              refine ⟨⟨by omega, by omega⟩, by omega⟩
            · refine ⟨(fun h => nomatch h), fun _ => ?_⟩
              refine ⟨_, ?_, ⟨rfl, rfl, rfl, rfl, rfl, rfl, trivial⟩, ⟨rfl, rfl, rfl, rfl, rfl, rfl, rfl, rfl, rfl, rfl, rfl, rfl, trivial⟩⟩
              rw [wrapi (n := 1 + 1) (by omega)]
              dsimp only
              refine ⟨⟨by omega, by omega⟩, by omega⟩
          · refine ⟨⟨by decide, by decide, by decide⟩, ⟨rfl, rfl, trivial⟩, ?_⟩
            refine ⟨fun h0 => ?_, fun h0 => ?_⟩
            · refine ⟨⟨by decide, by decide, by decide⟩, ⟨rfl, rfl, trivial⟩, ?_⟩
              refine ⟨CN1, x, c, _, _, rfl, ⟨rfl, rfl, rfl, rfl, rfl, rfl, trivial⟩, hV, ?_⟩
              have hm : mayB c i (s.tenants.getD i.toNat default).next = true := (hnxt (of_decide_eq_true h0)).1
              refine ⟨⟨rfl, rfl, trivial⟩, ?_⟩
              rw [hm]
              refine ⟨(fun h => nomatch h), fun _ => ?_⟩
              refine ⟨_, ?_, ⟨rfl, rfl, rfl, rfl, rfl, rfl, trivial⟩, ⟨rfl, rfl, rfl, rfl, rfl, rfl, rfl, rfl, rfl, rfl, rfl, rfl, trivial⟩⟩
              rw [wrapi (n := 2 + 1) (by omega)]
              dsimp only
              refine ⟨⟨by omega, by omega⟩, by omega⟩
            · refine ⟨(fun h => nomatch h), fun _ => ?_⟩
              refine ⟨_, ?_, ⟨rfl, rfl, rfl, rfl, rfl, rfl, trivial⟩, ⟨rfl, rfl, rfl, rfl, rfl, rfl, rfl, rfl, rfl, rfl, rfl, rfl, trivial⟩⟩
              rw [wrapi (n := 2 + 1) (by omega)]
              dsimp only
              refine ⟨⟨by omega, by omega⟩, by omega⟩
          · refine ⟨⟨by decide, by decide, by decide⟩, ⟨rfl, rfl, trivial⟩, ?_⟩
            refine ⟨fun h0 => ?_, fun h0 => ?_⟩
            · refine ⟨⟨by decide, by decide, by decide⟩, ⟨rfl, rfl, trivial⟩, ?_⟩
              refine ⟨CN1, x, c, _, _, rfl, ⟨rfl, rfl, rfl, rfl, rfl, rfl, trivial⟩, hV, ?_⟩
              have hm : mayB c i (s.tenants.getD i.toNat default).target = true := htgt (of_decide_eq_true h0)
              refine ⟨⟨rfl, rfl, trivial⟩, ?_⟩
              rw [hm]
              refine ⟨(fun h => nomatch h), fun _ => ?_⟩
              refine ⟨_, ?_, ⟨rfl, rfl, rfl, rfl, rfl, rfl, trivial⟩, ⟨rfl, rfl, rfl, rfl, rfl, rfl, rfl, rfl, rfl, rfl, rfl, rfl, trivial⟩⟩
              rw [wrapi (n := 3 + 1) (by omega)]
              dsimp only
              refine ⟨⟨by omega, by omega⟩, by omega⟩
            · refine ⟨(fun h => nomatch h), fun _ => ?_⟩
              refine ⟨_, ?_, ⟨rfl, rfl, rfl, rfl, rfl, rfl, trivial⟩, ⟨rfl, rfl, rfl, rfl, rfl, rfl, rfl, rfl, rfl, rfl, rfl, rfl, trivial⟩⟩
              rw [wrapi (n := 3 + 1) (by omega)]
              dsimp only
              refine ⟨⟨by omega, by omega⟩, by omega⟩
        · refine ⟨Int, fun i => [(9, .int .i64 i)], fun _ => [], fun i => 1 ≤ i ∧ i ≤ 3, fun i => ((3 : Int) - i).toNat, ⟨1, ⟨by omega, by omega⟩, ⟨rfl, rfl, rfl, rfl, rfl, rfl, trivial⟩, ⟨rfl, rfl, rfl, rfl, rfl, rfl, rfl, rfl, rfl, rfl, rfl, rfl, trivial⟩⟩, ?_⟩
          · rintro k hk
            refine ⟨⟨rfl, rfl⟩, ?_⟩
            refine ⟨fun hlt => ?_, fun hge => ?_⟩
            · have hk2 : k < 3 := of_decide_eq_true hlt
              rcases (show k = 1 ∨ k = 2 by omega) with rfl | rfl
              · refine ⟨⟨by decide, by decide, by decide⟩, ⟨rfl, rfl, rfl, trivial⟩, ?_⟩
                refine ⟨fun h0 => ?_, fun h0 => ?_⟩
                · refine ⟨⟨by decide, by decide, by decide⟩, ⟨rfl, rfl, rfl, trivial⟩, ?_⟩
                  refine ⟨CN1, x, c, _, _, rfl, ⟨rfl, rfl, rfl, rfl, rfl, rfl, trivial⟩, hV, ?_⟩
                  have hm : apartB c (s.tenants.getD i.toNat default).standby (s.tenants.getD i.toNat default).home = true := (hstb (of_decide_eq_true h0)).2.1
                  refine ⟨⟨rfl, rfl, rfl, trivial⟩, ?_⟩
                  rw [hm]
                  refine ⟨(fun h => nomatch h), fun _ => ?_⟩
                  refine ⟨fun h1 => ?_, fun h1 => ?_⟩
                  · refine ⟨⟨by decide, by decide, by decide⟩, ⟨rfl, rfl, rfl, trivial⟩, ?_⟩
                    refine ⟨CN1, x, c, _, _, rfl, ⟨rfl, rfl, rfl, rfl, rfl, rfl, trivial⟩, hV, ?_⟩
                    have hm : apartB c (s.tenants.getD i.toNat default).standby (s.tenants.getD i.toNat default).target = true := (hstb (of_decide_eq_true h0)).2.2 (of_decide_eq_true h1)
                    refine ⟨⟨rfl, rfl, rfl, trivial⟩, ?_⟩
                    rw [hm]
                    refine ⟨(fun h => nomatch h), fun _ => ?_⟩
                    refine ⟨_, ?_, ⟨rfl, rfl, rfl, rfl, rfl, rfl, trivial⟩, ⟨rfl, rfl, rfl, rfl, rfl, rfl, rfl, rfl, rfl, rfl, rfl, rfl, trivial⟩⟩
                    rw [wrapi (n := 1 + 1) (by omega)]
                    dsimp only
                    refine ⟨⟨by omega, by omega⟩, by omega⟩
                  · refine ⟨(fun h => nomatch h), fun _ => ?_⟩
                    refine ⟨_, ?_, ⟨rfl, rfl, rfl, rfl, rfl, rfl, trivial⟩, ⟨rfl, rfl, rfl, rfl, rfl, rfl, rfl, rfl, rfl, rfl, rfl, rfl, trivial⟩⟩
                    rw [wrapi (n := 1 + 1) (by omega)]
                    dsimp only
                    refine ⟨⟨by omega, by omega⟩, by omega⟩
                · refine ⟨(fun h => nomatch h), fun _ => ?_⟩
                  refine ⟨_, ?_, ⟨rfl, rfl, rfl, rfl, rfl, rfl, trivial⟩, ⟨rfl, rfl, rfl, rfl, rfl, rfl, rfl, rfl, rfl, rfl, rfl, rfl, trivial⟩⟩
                  rw [wrapi (n := 1 + 1) (by omega)]
                  dsimp only
                  refine ⟨⟨by omega, by omega⟩, by omega⟩
              · refine ⟨⟨by decide, by decide, by decide⟩, ⟨rfl, rfl, rfl, trivial⟩, ?_⟩
                refine ⟨fun h0 => ?_, fun h0 => ?_⟩
                · refine ⟨⟨by decide, by decide, by decide⟩, ⟨rfl, rfl, rfl, trivial⟩, ?_⟩
                  refine ⟨CN1, x, c, _, _, rfl, ⟨rfl, rfl, rfl, rfl, rfl, rfl, trivial⟩, hV, ?_⟩
                  have hm : apartB c (s.tenants.getD i.toNat default).next (s.tenants.getD i.toNat default).home = true := (hnxt (of_decide_eq_true h0)).2.1
                  refine ⟨⟨rfl, rfl, rfl, trivial⟩, ?_⟩
                  rw [hm]
                  refine ⟨(fun h => nomatch h), fun _ => ?_⟩
                  refine ⟨fun h1 => ?_, fun h1 => ?_⟩
                  · refine ⟨⟨by decide, by decide, by decide⟩, ⟨rfl, rfl, rfl, trivial⟩, ?_⟩
                    refine ⟨CN1, x, c, _, _, rfl, ⟨rfl, rfl, rfl, rfl, rfl, rfl, trivial⟩, hV, ?_⟩
                    have hm : apartB c (s.tenants.getD i.toNat default).next (s.tenants.getD i.toNat default).target = true := (hnxt (of_decide_eq_true h0)).2.2 (of_decide_eq_true h1)
                    refine ⟨⟨rfl, rfl, rfl, trivial⟩, ?_⟩
                    rw [hm]
                    refine ⟨(fun h => nomatch h), fun _ => ?_⟩
                    refine ⟨_, ?_, ⟨rfl, rfl, rfl, rfl, rfl, rfl, trivial⟩, ⟨rfl, rfl, rfl, rfl, rfl, rfl, rfl, rfl, rfl, rfl, rfl, rfl, trivial⟩⟩
                    rw [wrapi (n := 2 + 1) (by omega)]
                    dsimp only
                    refine ⟨⟨by omega, by omega⟩, by omega⟩
                  · refine ⟨(fun h => nomatch h), fun _ => ?_⟩
                    refine ⟨_, ?_, ⟨rfl, rfl, rfl, rfl, rfl, rfl, trivial⟩, ⟨rfl, rfl, rfl, rfl, rfl, rfl, rfl, rfl, rfl, rfl, rfl, rfl, trivial⟩⟩
                    rw [wrapi (n := 2 + 1) (by omega)]
                    dsimp only
                    refine ⟨⟨by omega, by omega⟩, by omega⟩
                · refine ⟨(fun h => nomatch h), fun _ => ?_⟩
                  refine ⟨_, ?_, ⟨rfl, rfl, rfl, rfl, rfl, rfl, trivial⟩, ⟨rfl, rfl, rfl, rfl, rfl, rfl, rfl, rfl, rfl, rfl, rfl, rfl, trivial⟩⟩
                  rw [wrapi (n := 2 + 1) (by omega)]
                  dsimp only
                  refine ⟨⟨by omega, by omega⟩, by omega⟩
            · refine ⟨fun h => absurd (of_decide_eq_true h) (by omega), fun _ => ?_⟩
              refine ⟨fun h => absurd (by simpa using h) hne, fun _ => ?_⟩
              refine ⟨_, ?_, ⟨rfl, rfl, rfl, trivial⟩, ⟨rfl, rfl, rfl, rfl, rfl, rfl, rfl, rfl, rfl, rfl, trivial⟩⟩
              rw [wrapi (n := i + 1) (by omega)]
              dsimp only
              refine ⟨⟨by omega, by omega⟩, by omega⟩
  · exact ⟨rfl, trivial⟩
end Go.Proofs.Ytjobcfpnmfjlfaa

namespace Go.Proofs.Ytjobcfpnmfjlfaa
open Go.RowKit
set_option linter.unusedSimpArgs false
set_option linter.unusedVariables false

theorem flat_int (l : List Int) : flat intC l = l.map (Value.int .i64) := by
  induction l with
  | nil => rfl
  | cons a l ih => simp only [flat, List.flatMap_cons, intC] at ih ⊢; simp [ih]
theorem flat_int_set (l : List Int) (k : Nat) (z : Int) : (flat intC l).set k (.int .i64 z) = flat intC (l.set k z) := by
  rw [flat_int, flat_int, List.map_set]
theorem addAt_len (l : List Int) (i n : Int) : (addAt l i n).length = l.length := by unfold addAt; split <;> simp

/-- A row of numbers of the call's own, as add leaves it. -/
def AddPost (base : Nat) (A : Option Addr) (cp : Nat) (l : List Int) (w : World) (e : Ending) (w' : World) : Prop :=
  e = .returned (.tuple #[]) ∧ w'.ownsRow base 3 1 (.slice A l.length cp) l.length (flat intC l) ∧ w.grownBy w' (Value.slice A l.length cp).ownBlock

/-- The load booked by the first k tenants. -/
def bookK (c : Cfg) (s : St) (k : Nat) : List Int := ((s.tenants.zip c.tenants).take k).foldl (fun l p => bookT l p.1 p.2) (List.replicate c.cells.length 0)
theorem bookK_succ {c : Cfg} {s : St} {k : Nat} {t : TS} {d : Ten} (h1 : s.tenants[k]? = some t) (h2 : c.tenants[k]? = some d) : bookK c s (k + 1) = bookT (bookK c s k) t d := by
  have hz : (s.tenants.zip c.tenants)[k]? = some (t, d) := by
    rw [List.getElem?_zip_eq_some]
    exact ⟨h1, h2⟩
  obtain ⟨hk, he⟩ := List.getElem?_eq_some_iff.1 hz
  unfold bookK
  rw [List.take_succ_eq_append_getElem hk, List.foldl_append, he]
  rfl
theorem bookK_all (c : Cfg) (s : St) {k : Nat} (hk : s.tenants.length ≤ k) : bookK c s k = booked c s := by
  unfold bookK booked
  rw [List.take_of_length_le]
  rw [List.length_zip]
  omega
def Within (l : List Int) (m : Int) : Prop := ∀ z ∈ l, 0 ≤ z ∧ z ≤ m
theorem Within.add {l : List Int} {m n : Int} (h : Within l m) (hn : 0 ≤ n) (i : Int) : Within (addAt l i n) (m + n) := by
  unfold addAt
  split
  · rename_i hi
    intro z hz
    obtain ⟨k, rfl⟩ := Int.eq_ofNat_of_zero_le hi.1
    have hk : k < l.length := by omega
    rcases List.mem_or_eq_of_mem_set hz with hz | rfl
    · have := h z hz; omega
    · rw [Int.toNat_natCast, getD_some (List.getElem?_eq_getElem hk)]
      have := h _ (List.getElem_mem hk)
      omega
  · intro z hz
    have := h z hz
    omega
theorem bookT_len (l : List Int) (t : TS) (d : Ten) : (bookT l t d).length = l.length := by
  unfold bookT
  split
  · rfl
  · rw [addAt_len, addAt_len]
    split
    · rfl
    · rw [addAt_len, addAt_len]
theorem Within.mono {l : List Int} {m m' : Int} (h : Within l m) (hm : m ≤ m') : Within l m' := fun z hz => by have := h z hz; omega
theorem Within.book {l : List Int} {m : Int} (h : Within l m) (t : TS) {d : Ten} (h1 : 0 ≤ d.load) (h2 : 0 ≤ d.shadow) : Within (bookT l t d) (m + 2 * d.load + 2 * d.shadow) := by
  unfold bookT
  split
  · exact h.mono (by omega)
  · split
    · exact ((h.add h2 _).add h2 _).mono (by omega)
    · exact ((((h.add h1 _).add h1 _).add h2 _).add h2 _).mono (by omega)
theorem bookK_len (c : Cfg) (s : St) (k : Nat) : (bookK c s k).length = c.cells.length := by
  unfold bookK
  generalize (s.tenants.zip c.tenants).take k = q
  have : ∀ (q : List (TS × Ten)) (l : List Int), (q.foldl (fun l p => bookT l p.1 p.2) l).length = l.length := by
    intro q
    induction q with
    | nil => intro l; rfl
    | cons a q ih => intro l; rw [List.foldl_cons, ih, bookT_len]
  rw [this]
  simp
theorem bookK_within {c : Cfg} (hV : CfgV c) (s : St) : ∀ k, Within (bookK c s k) (k * 262144) := by
  intro k
  induction k with
  | zero =>
    intro z hz
    have : z = 0 := by
      have hz' : z ∈ List.replicate c.cells.length (0 : Int) := hz
      exact List.eq_of_mem_replicate hz'
    subst this
    simp
  | succ k ih =>
    cases h1 : s.tenants[k]? with
    | none =>
      have hk : s.tenants.length ≤ k := by simpa using h1
      rw [bookK_all c s (by omega), ← bookK_all c s hk]
      exact ih.mono (by omega)
    | some t =>
      cases h2 : c.tenants[k]? with
      | none =>
        have hk : c.tenants.length ≤ k := by simpa using h2
        have e : bookK c s (k + 1) = bookK c s k := by
          unfold bookK
          rw [List.take_of_length_le (by rw [List.length_zip]; omega), List.take_of_length_le (by rw [List.length_zip]; omega)]
        rw [e]
        exact ih.mono (by omega)
      | some d =>
        rw [bookK_succ h1 h2]
        have hd := tenAt_bd hV h2
        exact (ih.book t (by omega) (by omega)).mono (by omega)
end Go.Proofs.Ytjobcfpnmfjlfaa

namespace Go.Proofs.Ytjobcfpnmfjlfaa
open Go.RowKit
set_option linter.unusedSimpArgs false
set_option linter.unusedVariables false

section
variable {P : Program} {Q : Exit → Act → World → Prop}
/-- Whatever comes up belongs to acts; where nothing is left, all of acts is done. -/
def anyB (ops : Array Oper) (acts : List Nat) (pre : Nat → List Nat) : Nat → Array Bool → Bool
  | 0, ls => (Region.ready .any ops ls).isEmpty && acts.all fun i => ls.getD i false
  | n + 1, ls => ((Region.ready .any ops ls).all fun i => acts.contains i && !(ls.getD i true) && (pre i).all (fun j => ls.getD j false) && anyB ops acts pre n (ls.setIfInBounds i true)) && (!(Region.ready .any ops ls).isEmpty || acts.all fun i => ls.getD i false)
/-- One operation more is done. -/
def upd (d : Nat → Bool) (i : Nat) : Nat → Bool := fun j => if j = i then true else d j
def ActStep (P : Program) (ops : Array Oper) (Q : Exit → Act → World → Prop) (S : World → Prop) (J : (Nat → Bool) → Act → World → Prop) (pre : Nat → List Nat) (i : Nat) : Prop :=
  ∀ d a w, d i = false → (∀ j ∈ pre i, d j = true) → S w → J d a w → wpOp P ops Q i (fun a' w' => S w' ∧ J (upd d i) a' w') a w
theorem wpAnyH_acts {ops : Array Oper} {S : World → Prop} {acts : List Nat} {pre : Nat → List Nat} {J : (Nat → Bool) → Act → World → Prop} (hstep : ∀ i ∈ acts, ActStep P ops Q S J pre i)
    (hend : ∀ d a w, (∀ i ∈ acts, d i = true) → S w → J d a w → Q .normal a w) : ∀ (n : Nat) (ls : Array Bool) (a : Act) (w : World), anyB ops acts pre n ls = true → S w → J (fun j => ls.getD j false) a w → wpAnyH P .any ops Q S n ls a w
  | 0, ls, a, w, hB, hS, hJ => by
    simp only [anyB, Bool.and_eq_true, List.isEmpty_iff, List.all_eq_true] at hB
    exact wpAnyH_done hB.1 (hend _ a w hB.2 hS hJ) _
  | n + 1, ls, a, w, hB, hS, hJ => by
    simp only [anyB, Bool.and_eq_true, List.all_eq_true, Bool.or_eq_true] at hB
    obtain ⟨h1, h2⟩ := hB
    by_cases he : Region.ready .any ops ls = []
    · refine wpAnyH_done he (hend _ a w ?_ hS hJ) _
      rcases h2 with h2 | h2
      · simp [he] at h2
      · exact fun i hi => h2 i hi
    · refine wpAnyH_all rfl he fun i hi => ?_
      have h3 := h1 i hi
      simp only [List.contains_iff_mem, Bool.not_eq_true', List.all_eq_true] at h3
      obtain ⟨⟨⟨h4, h5⟩, h8⟩, h6⟩ := h3
      have hlt : i < ls.size := by
        refine Classical.byContradiction fun hn => ?_
        rw [Array.getD_eq_getD_getElem?, Array.getElem?_eq_none (by omega)] at h5
        cases h5
      have h7 : ls.getD i false = false := by
        rw [Array.getD_eq_getD_getElem?, Array.getElem?_eq_getElem hlt] at h5 ⊢
        exact h5
      have hd : (fun j => (ls.setIfInBounds i true).getD j false) = upd (fun j => ls.getD j false) i := by
        funext j
        unfold upd
        rw [Array.getD_eq_getD_getElem?, Array.getElem?_setIfInBounds]
        by_cases hj : i = j
        · subst hj; simp [hlt]
        · have : ¬ j = i := fun h => hj h.symm
          simp [hj, this, Array.getD_eq_getD_getElem?]
      exact wpOp_mono (fun a' w' ⟨hS', h'⟩ => ⟨hS', wpAnyH_acts hstep hend n _ a' w' h6 hS' (by rw [hd]; exact h')⟩) (hstep i h4 _ a w h7 h8 hS hJ)

/-- First the fixed operations, then those that act, in any order. -/
def wpSeqI (P : Program) (ops : Array Oper) (Q : Exit → Act → World → Prop) (S : World → Prop) (acts : List Nat) (pre : Nat → List Nat) : List Nat → Act → World → Prop
  | [], a, w => ∃ J : (Nat → Bool) → Act → World → Prop, (∀ d, (∀ i ∈ acts, d i = false) → J d a w) ∧ (∀ i ∈ acts, ActStep P ops Q S J pre i) ∧ (∀ d a w, (∀ i ∈ acts, d i = true) → S w → J d a w → Q .normal a w)
  | i :: r, a, w => ∃ (o : Oper) (v : Value), ops[i]? = some o ∧ (∀ c a w, Q (.panic c) (a.put o.dst v) w → Q (.panic c) a w) ∧ YieldsIf P ops S o v a ∧ wpSeqI P ops Q S acts pre r (a.put o.dst v) w
def seqIB (ops : Array Oper) (acts : List Nat) (pre : Nat → List Nat) (n : Nat) : List Nat → Array Bool → Bool
  | [], listed => anyB ops acts pre n listed && acts.all fun i => !(listed.getD i false)
  | i :: r, listed => Region.free .any ops listed i && (Region.ready .any ops listed).contains i && seqIB ops acts pre n r (listed.setIfInBounds i true)
theorem wpAnyH_of_seqI {ops : Array Oper} {S : World → Prop} {acts : List Nat} {pre : Nat → List Nat} {n : Nat} (hs : Region.noSelect ops = true) : ∀ (σ : List Nat) (listed : Array Bool) (a : Act) (w : World), seqIB ops acts pre n σ listed = true → S w →
    wpSeqI P ops Q S acts pre σ a w → wpAnyH P .any ops Q S (n + σ.length) listed a w
  | [], listed, a, w, hB, hS, ⟨J, h1, h2, h3⟩ => by
    simp only [seqIB, Bool.and_eq_true, List.all_eq_true, Bool.not_eq_true'] at hB
    exact wpAnyH_acts h2 h3 n _ a w hB.1 hS (h1 _ hB.2)
  | i :: r, listed, a, w, hB, hS, h => by
    simp only [seqIB, Bool.and_eq_true] at hB
    obtain ⟨⟨h1, h2⟩, h3⟩ := hB
    obtain ⟨o, v, ho, hQ, hy, hr⟩ := h
    exact wpAnyH_take ho hs h1 h2 hQ hy hS (wpAnyH_of_seqI hs r _ _ _ h3 hS hr)
def regSeqIB (l : List Oper) (k : Nat) (σ acts : List Nat) (pre : Nat → List Nat) : Bool :=
  lastB l k && Region.noSelect (l.take k).toArray && decide (acts.length + σ.length = k) && seqIB (l.take k).toArray acts pre acts.length σ (Array.replicate k false)
/-- A region that draws its order: of its first k operations the fixed ones σ, then acts in any order, then the others as they stand. -/
theorem wp_region_seqI {l : List Oper} {id : Nat} {a : Act} {w : World} (S : World → Prop) (k : Nat) (σ acts : List Nat) (pre : Nat → List Nat) (hm : P.follows .mixedOrders = true) (hB : regSeqIB l k σ acts pre = true) (hS : S w.drew)
    (h : wpSeqI P (l.take k).toArray (thenK (fun a w => wpList P l.toArray Q (l.drop k) a w) Q) S acts pre σ a w.drew) : (Code.region id l.toArray true).wp P Q a w := by
  simp only [regSeqIB, Bool.and_eq_true, decide_eq_true_eq] at hB
  obtain ⟨⟨⟨h1, h2⟩, h3⟩, h4⟩ := hB
  refine wp_region_last k hm h1 (wpAny_of_held (S := S) _ _ _ _ ?_)
  have := wpAnyH_of_seqI h2 σ _ a w.drew h4 hS h
  rw [h3] at this
  exact this
theorem wpSeqI_fix {ops : Array Oper} {S : World → Prop} {acts : List Nat} {pre : Nat → List Nat} {i : Nat} {r : List Nat} {a : Act} {w : World} (o : Oper) (v : Value) (ho : ops[i]? = some o) (hQ : ∀ c a w, Q (.panic c) (a.put o.dst v) w → Q (.panic c) a w)
    (hy : YieldsIf P ops S o v a) (h : wpSeqI P ops Q S acts pre r (a.put o.dst v) w) : wpSeqI P ops Q S acts pre (i :: r) a w := ⟨o, v, ho, hQ, hy, h⟩
/-- The invariant names the frame at the start of the acting part. -/
theorem wpSeqI_acts {ops : Array Oper} {S : World → Prop} {acts : List Nat} {pre : Nat → List Nat} {a : Act} {w : World} (J : Act → (Nat → Bool) → Act → World → Prop) (h1 : ∀ d, (∀ i ∈ acts, d i = false) → J a d a w)
    (h2 : ∀ i ∈ acts, ActStep P ops Q S (J a) pre i) (h3 : ∀ d b w, (∀ i ∈ acts, d i = true) → S w → J a d b w → Q .normal b w) : wpSeqI P ops Q S acts pre [] a w := ⟨J a, h1, h2, h3⟩
theorem actStep_op {ops : Array Oper} {S : World → Prop} {J : (Nat → Bool) → Act → World → Prop} {pre : Nat → List Nat} {i : Nat} {o : Oper} (ho : ops[i]? = some o) (hg : o.guard = none)
    (h : ∀ d a w, d i = false → (∀ j ∈ pre i, d j = true) → S w → J d a w → o.wp P a w (fun a' w' => S w' ∧ J (upd d i) a' w') Q) : ActStep P ops Q S J pre i := fun d a w h0 h1 h2 h3 => wpOp_act ho hg (h d a w h0 h1 h2 h3)
theorem acts_nil {p : Nat → Prop} : ∀ i ∈ ([] : List Nat), p i := fun i h => by cases h
theorem acts_cons {p : Nat → Prop} {i : Nat} {r : List Nat} (h1 : p i) (h2 : ∀ j ∈ r, p j) : ∀ j ∈ i :: r, p j := fun j h => by
  rcases List.mem_cons.1 h with rfl | h
  · exact h1
  · exact h2 j h
end
end Go.Proofs.Ytjobcfpnmfjlfaa

namespace Go.Proofs.Ytjobcfpnmfjlfaa
open Go.RowKit
set_option linter.unusedSimpArgs false
set_option linter.unusedVariables false

theorem Blk.setCellsFar2 {w : World} {g b : Nat} {t : TypeId} {cs : Array Value} (h : Blk w g t cs) (hb : g ≠ b) (o : Nat) (vs : List Value) : Blk (w.setCells b o vs) g t cs := (setCells_far vs o g hb).trans h
theorem below_setCells2 {B : Nat} {w wx : World} (h : Below B w wx) {b : Nat} (hb : B ≤ b) : ∀ (vs : List Value) (o : Nat), Below B w (wx.setCells b o vs) := by
  intro vs
  induction vs generalizing wx with
  | nil => intro o; exact h
  | cons v r ih => intro o; rw [World.setCells]; exact ih (h.setCell (p := ⟨b, o, none⟩) hb v) _
theorem putL_get : ∀ (vs : List Value) (cs : Array Value) (o j : Nat), (putL cs o vs)[j]? = if o ≤ j ∧ j < o + vs.length ∧ j < cs.size then vs[j - o]? else cs[j]?
  | [], cs, o, j => by simp only [putL, List.length_nil]; rw [if_neg (by omega)]
  | v :: r, cs, o, j => by
    rw [putL, putL_get r, Array.size_setIfInBounds]
    by_cases h1 : j = o
    · subst h1
      rw [if_neg (by omega), Array.getElem?_setIfInBounds]
      by_cases h2 : j < cs.size
      · simp [h2]
      · simp [h2, Array.getElem?_eq_none (Nat.le_of_not_lt h2)]
    · by_cases h2 : o + 1 ≤ j ∧ j < o + 1 + r.length ∧ j < cs.size
      · rw [if_pos h2, if_pos (by simp only [List.length_cons]; omega)]
        have : j - o = (j - (o + 1)) + 1 := by omega
        rw [this, List.getElem?_cons_succ]
      · rw [if_neg h2, if_neg (by simp only [List.length_cons]; omega), Array.getElem?_setIfInBounds, if_neg (by omega)]
theorem putL_full {ZA FA : Array Value} (h : ZA.size = FA.size) : putL ZA 0 FA.toList = FA := by
  apply Array.ext_getElem?
  intro j
  rw [putL_get]
  by_cases hj : j < FA.size
  · rw [if_pos ⟨Nat.zero_le _, by simpa using hj, by omega⟩]
    simp
  · rw [if_neg (by omega), Array.getElem?_eq_none (by omega), Array.getElem?_eq_none (by omega)]
theorem upd_same (d : Nat → Bool) (i : Nat) : upd d i i = true := if_pos rfl
theorem upd_other (d : Nat → Bool) {i j : Nat} (h : j ≠ i) : upd d i j = d j := if_neg h

/-- Two new variables A and B in a region that draws its order; A may be stored into by operation is. -/
structure TwoJ (W : World) (Ta Tb : TypeId) (ZA FA ZB : Array Value) (ia ib is : Nat) (d : Nat → Bool) (va vb : Value) (ga gb : Nat) (wx : World) : Prop where
  below : Below W.heap.size W wx
  a : d ia = true → va = .pointer (some ⟨ga, 0, none⟩) ∧ Blk wx ga Ta (if d is = true then FA else ZA) ∧ W.heap.size ≤ ga
  b : d ib = true → vb = .pointer (some ⟨gb, 0, none⟩) ∧ Blk wx gb Tb ZB ∧ W.heap.size ≤ gb
  ne : d ia = true → d ib = true → ga ≠ gb
  st : d is = true → d ia = true
section
variable {W wx : World} {Ta Tb : TypeId} {ZA FA ZB : Array Value} {ia ib is : Nat} {d : Nat → Bool} {va vb : Value} {ga gb : Nat}
theorem TwoJ.later (h : TwoJ W Ta Tb ZA FA ZB ia ib is d va vb ga gb wx) {wy : World} (hb : Below wx.heap.size wx wy) : TwoJ W Ta Tb ZA FA ZB ia ib is d va vb ga gb wy :=
  ⟨h.below.trans (hb.mono h.below.size), fun q => ⟨(h.a q).1, (h.a q).2.1.below hb (h.a q).2.1.lt, (h.a q).2.2⟩, fun q => ⟨(h.b q).1, (h.b q).2.1.below hb (h.b q).2.1.lt, (h.b q).2.2⟩, h.ne, h.st⟩
theorem TwoJ.other (h : TwoJ W Ta Tb ZA FA ZB ia ib is d va vb ga gb wx) {i : Nat} (h1 : ia ≠ i) (h2 : ib ≠ i) (h3 : is ≠ i) : TwoJ W Ta Tb ZA FA ZB ia ib is (upd d i) va vb ga gb wx := by
  obtain ⟨q1, q2, q3, q4, q5⟩ := h
  refine ⟨q1, ?_, ?_, ?_, ?_⟩ <;> simp only [upd_other d h1, upd_other d h2, upd_other d h3] <;> assumption
theorem TwoJ.start (hb : Below W.heap.size W wx) (h1 : d ia = false) (h2 : d ib = false) (h3 : d is = false) : TwoJ W Ta Tb ZA FA ZB ia ib is d va vb ga gb wx :=
  ⟨hb, fun q => (by rw [h1] at q; cases q), fun q => (by rw [h2] at q; cases q), fun q => (by rw [h1] at q; cases q), fun q => (by rw [h3] at q; cases q)⟩
theorem TwoJ.allocA (h : TwoJ W Ta Tb ZA FA ZB ia ib is d va vb ga gb wx) (h0 : d ia = false) (h1 : ib ≠ ia) (h2 : is ≠ ia) : TwoJ W Ta Tb ZA FA ZB ia ib is (upd d ia) (.pointer (some ⟨wx.heap.size, 0, none⟩)) vb wx.heap.size gb (wx.alloc (.cells ZA Ta)) := by
  have h2' := h.later ((Below.refl wx.heap.size wx).alloc (Nat.le_refl _) (.cells ZA Ta))
  have hs : d is = false := Bool.eq_false_iff.2 fun q => by rw [h.st q] at h0; cases h0
  refine ⟨h2'.below, ?_, ?_, ?_, ?_⟩ <;> simp only [upd_same, upd_other d h1, upd_other d h2]
  · intro _
    rw [hs]
    exact ⟨trivial, Blk.new _ _ _, h.below.size⟩
  · exact h2'.b
  · intro _ q
    have := (h.b q).2.1.lt
    omega
  · intro _; trivial
theorem TwoJ.allocB (h : TwoJ W Ta Tb ZA FA ZB ia ib is d va vb ga gb wx) (h1 : ia ≠ ib) (h2 : is ≠ ib) : TwoJ W Ta Tb ZA FA ZB ia ib is (upd d ib) va (.pointer (some ⟨wx.heap.size, 0, none⟩)) ga wx.heap.size (wx.alloc (.cells ZB Tb)) := by
  have h2' := h.later ((Below.refl wx.heap.size wx).alloc (Nat.le_refl _) (.cells ZB Tb))
  refine ⟨h2'.below, ?_, ?_, ?_, ?_⟩ <;> simp only [upd_same, upd_other d h1, upd_other d h2]
  · exact h2'.a
  · intro _
    exact ⟨trivial, Blk.new _ _ _, h.below.size⟩
  · intro q _
    have := (h.a q).2.1.lt
    omega
  · exact h.st
theorem TwoJ.storeA (h : TwoJ W Ta Tb ZA FA ZB ia ib is d va vb ga gb wx) (h1 : d ia = true) (h1b : d ib = true) (h2 : ia ≠ is) (h3 : ib ≠ is) (hp : putL ZA 0 FA.toList = FA) (hp2 : putL FA 0 FA.toList = FA) : TwoJ W Ta Tb ZA FA ZB ia ib is (upd d is) va vb ga gb (wx.setCells ga 0 FA.toList) := by
  have ha := h.a h1
  refine ⟨below_setCells2 h.below ha.2.2 _ _, ?_, ?_, ?_, ?_⟩ <;> simp only [upd_same, upd_other d h2, upd_other d h3]
  · intro _
    refine ⟨ha.1, ?_, ha.2.2⟩
    have := ha.2.1.setCells FA.toList 0
    have e : putL (if d is = true then FA else ZA) 0 FA.toList = FA := by split <;> assumption
    rw [e] at this
    exact this
  · exact fun q => ⟨(h.b q).1, (h.b q).2.1.setCellsFar2 (Ne.symm (h.ne h1 h1b)) _ _, (h.b q).2.2⟩
  · exact h.ne
  · exact fun _ => h1
/-- Behind the region. -/
structure TwoC (W : World) (Ta Tb : TypeId) (FA FB : Array Value) (ga gb : Nat) (wx : World) : Prop where
  a : Blk wx ga Ta FA
  b : Blk wx gb Tb FB
  below : Below W.heap.size W wx
/-- Both stores come last. -/
theorem TwoJ.done2 {FB : Array Value} (h : TwoJ W Ta Tb ZA FA ZB ia ib is d va vb ga gb wx) (h1 : d ia = true) (h2 : d ib = true) (hs : d is = false) (hp : putL ZA 0 FA.toList = FA) (hp2 : putL ZB 0 FB.toList = FB) :
    TwoC W Ta Tb FA FB ga gb ((wx.setCells ga 0 FA.toList).setCells gb 0 FB.toList) := by
  have ha := h.a h1
  have hb := h.b h2
  rw [if_neg (by rw [hs]; simp)] at ha
  have q1 := ha.2.1.setCells FA.toList 0
  rw [hp] at q1
  have q2 := (hb.2.1.setCellsFar2 (Ne.symm (h.ne h1 h2)) 0 FA.toList).setCells FB.toList 0
  rw [hp2] at q2
  exact ⟨q1.setCellsFar2 (h.ne h1 h2) _ _, q2, below_setCells2 (below_setCells2 h.below ha.2.2 _ _) hb.2.2 _ _⟩
/-- A's store came before. -/
theorem TwoJ.done1 {FB : Array Value} (h : TwoJ W Ta Tb ZA FA ZB ia ib is d va vb ga gb wx) (h1 : d ia = true) (h2 : d ib = true) (hs : d is = true) (hp2 : putL ZB 0 FB.toList = FB) :
    TwoC W Ta Tb FA FB ga gb (wx.setCells gb 0 FB.toList) := by
  have ha := h.a h1
  have hb := h.b h2
  rw [if_pos hs] at ha
  have q2 := hb.2.1.setCells FB.toList 0
  rw [hp2] at q2
  exact ⟨ha.2.1.setCellsFar2 (h.ne h1 h2) _ _, q2, below_setCells2 h.below hb.2.2 _ _⟩
end
end Go.Proofs.Ytjobcfpnmfjlfaa

namespace Go.Proofs.Ytjobcfpnmfjlfaa
open Go.RowKit
set_option linter.unusedSimpArgs false
set_option linter.unusedVariables false
theorem i64_and_nat (a b : Nat) (ha : a < 4611686018427387904) (hb : b < 4611686018427387904) : bits .and .i64 (a : Int) (b : Int) = ((a &&& b : Nat) : Int) := by
  have hx : a &&& b < 2 ^ 62 := Nat.and_lt_two_pow _ (by omega)
  have h1 : (BitVec.ofInt 64 (a : Int)).toNat = a := by
    rw [BitVec.ofInt_natCast, BitVec.toNat_ofNat]; exact Nat.mod_eq_of_lt (by omega)
  have h2 : (BitVec.ofInt 64 (b : Int)).toNat = b := by
    rw [BitVec.ofInt_natCast, BitVec.toNat_ofNat]; exact Nat.mod_eq_of_lt (by omega)
  show IntKind.i64.wrap ((BitVec.ofInt 64 (a : Int) &&& BitVec.ofInt 64 (b : Int)).toNat : Int) = _
  rw [BitVec.toNat_and, h1, h2, IntKind.wrap_i64]
  omega
theorem i64_or_nat (a b : Nat) (ha : a < 4611686018427387904) (hb : b < 4611686018427387904) : bits .or .i64 (a : Int) (b : Int) = ((a ||| b : Nat) : Int) := by
  have hx : a ||| b < 2 ^ 62 := Nat.or_lt_two_pow (by omega) (by omega)
  have h1 : (BitVec.ofInt 64 (a : Int)).toNat = a := by
    rw [BitVec.ofInt_natCast, BitVec.toNat_ofNat]; exact Nat.mod_eq_of_lt (by omega)
  have h2 : (BitVec.ofInt 64 (b : Int)).toNat = b := by
    rw [BitVec.ofInt_natCast, BitVec.toNat_ofNat]; exact Nat.mod_eq_of_lt (by omega)
  show IntKind.i64.wrap ((BitVec.ofInt 64 (a : Int) ||| BitVec.ofInt 64 (b : Int)).toNat : Int) = _
  rw [BitVec.toNat_or, h1, h2, IntKind.wrap_i64]
  omega
theorem i64_and1 (z : Int) (h0 : 0 ≤ z) (h1 : z < 4611686018427387904) : bits .and .i64 z 1 = z % 2 := by
  obtain ⟨n, rfl⟩ := Int.eq_ofNat_of_zero_le h0
  have := i64_and_nat n 1 (by omega) (by omega)
  rw [Nat.and_one_is_mod] at this
  simpa using this
theorem i64_orBit (a n : Int) (h0 : 0 ≤ a) (h1 : a < 1073741824) (hn : 0 ≤ n) (hn2 : n < 30) : bits .or .i64 a (2 ^ n.toNat) = orBit a n := by
  obtain ⟨k, rfl⟩ := Int.eq_ofNat_of_zero_le h0
  have hp : 2 ^ n.toNat < 2 ^ 30 := Nat.pow_lt_pow_right (by omega) (by omega)
  have := i64_or_nat k (2 ^ n.toNat) (by omega) (by omega)
  unfold orBit
  rw [Nat.one_shiftLeft, Int.toNat_natCast]
  rw [← this]
  simp
theorem evac_or : ∀ (a : Fin 16) (b : Fin 4), Nat.testBit a b = false → (a.val ||| (1 <<< b.val)) = (a.val ^^^ (1 <<< b.val)) := by decide
theorem evac_andNot : ∀ (a : Fin 16) (b : Fin 4), Nat.testBit a b = true → bits .andNot .i64 (a.val : Int) (2 ^ b.val) = ((a.val ^^^ (1 <<< b.val) : Nat) : Int) := by decide +kernel
theorem bit_div2 (set i : Int) (h0 : 0 ≤ set) : ((set / 2 ^ i.toNat) % 2 == 1) = bitB set i := by
  obtain ⟨n, rfl⟩ := Int.eq_ofNat_of_zero_le h0
  unfold bitB
  rw [Nat.testBit_eq_decide_div_mod_eq]
  have e : ((n : Int) / 2 ^ i.toNat) = ((n / 2 ^ i.toNat : Nat) : Int) := by
    rw [Int.natCast_ediv]
    simp
  rw [e, Int.toNat_natCast]
  have : (n / 2 ^ i.toNat) % 2 = 0 ∨ (n / 2 ^ i.toNat) % 2 = 1 := by omega
  rw [Bool.eq_iff_iff]
  simp
  omega
theorem div_bd {z : Int} (i : Int) (h0 : 0 ≤ z) (h1 : z < 4611686018427387904) : 0 ≤ z / 2 ^ i.toNat ∧ z / 2 ^ i.toNat < 4611686018427387904 := by
  obtain ⟨n, rfl⟩ := Int.eq_ofNat_of_zero_le h0
  have e : ((n : Int) / 2 ^ i.toNat) = ((n / 2 ^ i.toNat : Nat) : Int) := by
    rw [Int.natCast_ediv]
    simp
  rw [e]
  have : n / 2 ^ i.toNat ≤ n := Nat.div_le_self _ _
  generalize n / 2 ^ i.toNat = q at *
  omega
end Go.Proofs.Ytjobcfpnmfjlfaa

namespace Go.Proofs.Ytjobcfpnmfjlfaa
open Go.RowKit
set_option linter.unusedSimpArgs false
set_option linter.unusedVariables false

set_option maxHeartbeats 400000 in
theorem topoWithin_any (n lo hi : Int) (w : World) :
    Calls Try.prog 90 #[.int .i64 n, .int .i64 lo, .int .i64 hi] w fun e w' => e = .returned (.bool (inR n lo hi)) ∧ w = w' := by
  go_enter Try.func90, Try.ntmps90
  go_wp2
  all_goals
    go_ret
    refine ⟨ret_bool ?_, rfl⟩
    go_light
    simp [inR, *] <;> omega
set_option maxHeartbeats 400000 in
theorem tenantWithin_any (n lo hi : Int) (w : World) :
    Calls Try.prog 85 #[.int .i64 n, .int .i64 lo, .int .i64 hi] w fun e w' => e = .returned (.bool (inR n lo hi)) ∧ w = w' := by
  go_enter Try.func85, Try.ntmps85
  go_wp2
  all_goals
    go_ret
    refine ⟨ret_bool ?_, rfl⟩
    go_light
    simp [inR, *] <;> omega
theorem inR_no {k : Int} {n : Nat} (h : ¬ (0 ≤ k ∧ k < (n : Int))) : inR k 0 ((n : Int) - 1) = false := by
  rw [Bool.eq_false_iff]; simp [inR]; omega
theorem inR_yes {k : Int} {n : Nat} (h : 0 ≤ k ∧ k < (n : Int)) : inR k 0 ((n : Int) - 1) = true := by
  simp [inR]; omega

set_option maxHeartbeats 400000 in
theorem topoZoneOf_any (x : CfgA) (c : Cfg) (k : Int) (w : World) (hV : CfgV c) (hok : CfgOk w (· < w.heap.size) x c) :
    Calls Try.prog 89 #[.agg (cfgC x c), .int .i64 k] w fun e w' => e = .returned (.int .i64 (zoneOf c k)) ∧ Below w.heap.size w w' := by
  obtain ⟨az, cz, ac, cc, at_, ct, av, cv, ar, cr, ao, co⟩ := x
  have hnc := hV.nc
  have HK := Lib.hid hok
  clear hok hV
  unfold cfgC
  simp only
  by_cases hk : 0 ≤ k ∧ k < c.cells.length
  · have HI := inR_yes hk
    obtain ⟨hk0, hk1⟩ := hk
    obtain ⟨n, rfl⟩ := Int.eq_ofNat_of_zero_le hk0
    have hn : n < c.cells.length := by omega
    obtain ⟨b, off, z, rfl, hb, hz, hcell⟩ := HK.out.cells.row (enc := pairC) (sz := 2) (fun _ => rfl) (by omega) hn
    have e0 := hcell 0 (.int .i64 z.1) rfl
    simp only [Nat.add_zero] at e0
    have hzo : zoneOf c n = z.1 := by unfold zoneOf; rw [if_pos ⟨hk0, hk1⟩, Int.toNat_natCast, getD_some hz]
    have HZ := Lib.hid hzo
    have hb1 : b < w.heap.size := hb
    clear hcell hz hzo
    go_enter Try.func89, Try.ntmps89
    go_wp2_with (go_at_call 90; (with_reducible refine (topoWithin_any _ _ _ _).mono ?_); rintro x wq ⟨rfl, rfl⟩; rw [HI])
    go_ret
    exact ⟨ret_i64 HZ.out.symm, (Below.refl _ _).alloc (Nat.le_refl _) _⟩
  · have HI := inR_no hk
    have hzo : zoneOf c k = -1 := by unfold zoneOf; rw [if_neg hk]
    have HZ := Lib.hid hzo
    clear hk hzo
    go_enter Try.func89, Try.ntmps89
    go_wp2_with (go_at_call 90; (with_reducible refine (topoWithin_any _ _ _ _).mono ?_); rintro x wq ⟨rfl, rfl⟩; rw [HI])
    go_ret
    exact ⟨ret_i64 HZ.out.symm, (Below.refl _ _).alloc (Nat.le_refl _) _⟩

set_option maxHeartbeats 400000 in
theorem topoRegZone_any (x : CfgA) (c : Cfg) (k : Int) (w : World) (hV : CfgV c) (hok : CfgOk w (· < w.heap.size) x c) :
    Calls Try.prog 88 #[.agg (cfgC x c), .int .i64 k] w fun e w' => e = .returned (.int .i64 (regZone c k)) ∧ Below w.heap.size w w' := by
  obtain ⟨az, cz, ac, cc, at_, ct, av, cv, ar, cr, ao, co⟩ := x
  have hnc := hV.nz
  have HK := Lib.hid hok
  clear hok hV
  unfold cfgC
  simp only
  by_cases hk : 0 ≤ k ∧ k < c.zones.length
  · have HI := inR_yes hk
    obtain ⟨hk0, hk1⟩ := hk
    obtain ⟨n, rfl⟩ := Int.eq_ofNat_of_zero_le hk0
    have hn : n < c.zones.length := by omega
    obtain ⟨b, off, z, rfl, hb, hz, hcell⟩ := HK.out.zones.row (enc := intC) (sz := 1) (fun _ => rfl) (by omega) hn
    have e0 := hcell 0 (.int .i64 z) rfl
    simp only [Nat.add_zero, Nat.mul_one] at e0
    have hzo : regZone c n = z := by unfold regZone; rw [if_pos ⟨hk0, hk1⟩, Int.toNat_natCast, getD_some hz]
    have HZ := Lib.hid hzo
    have hb1 : b < w.heap.size := hb
    clear hcell hz hzo
    go_enter Try.func88, Try.ntmps88
    go_wp2_with (go_at_call 90; (with_reducible refine (topoWithin_any _ _ _ _).mono ?_); rintro x wq ⟨rfl, rfl⟩; rw [HI])
    go_ret
    exact ⟨ret_i64 HZ.out.symm, (Below.refl _ _).alloc (Nat.le_refl _) _⟩
  · have HI := inR_no hk
    have hzo : regZone c k = -1 := by unfold regZone; rw [if_neg hk]
    have HZ := Lib.hid hzo
    clear hk hzo
    go_enter Try.func88, Try.ntmps88
    go_wp2_with (go_at_call 90; (with_reducible refine (topoWithin_any _ _ _ _).mono ?_); rintro x wq ⟨rfl, rfl⟩; rw [HI])
    go_ret
    exact ⟨ret_i64 HZ.out.symm, (Below.refl _ _).alloc (Nat.le_refl _) _⟩

set_option maxHeartbeats 1000000 in
theorem topoRegionOf_any (x : CfgA) (c : Cfg) (k : Int) (w : World) (hV : CfgV c) (hok : CfgOk w (· < w.heap.size) x c) :
    Calls Try.prog 84 #[.agg (cfgC x c), .int .i64 k] w fun e w' => e = .returned (.int .i64 (regionOf c k)) ∧ Below w.heap.size w w' := by
  obtain ⟨az, cz, ac, cc, at_, ct, av, cv, ar, cr, ao, co⟩ := x
  have HV := Lib.hid hV
  have HK := Lib.hid hok
  have HL := Lib.hid ((Below.refl w.heap.size w).alloc (Nat.le_refl _) (.cells (cfgC ⟨az, cz, ac, cc, at_, ct, av, cv, ar, cr, ao, co⟩ c) 30))
  have HW := Lib.hid (HK.out.allocW (.cells (cfgC ⟨az, cz, ac, cc, at_, ct, av, cv, ar, cr, ao, co⟩ c) 30))
  have hBx := Blk.new w 30 (cfgC ⟨az, cz, ac, cc, at_, ct, av, cv, ar, cr, ao, co⟩ c)
  have hg := hBx.lt
  have d0 := hBx.cell' (i := 0) (v := .int .i64 c.regions) rfl
  have d1 := hBx.cell' (i := 1) (v := .slice az c.zones.length cz) rfl
  have d2 := hBx.cell' (i := 2) (v := .slice ac c.cells.length cc) rfl
  have d3 := hBx.cell' (i := 3) (v := .slice at_ c.tenants.length ct) rfl
  have d4 := hBx.cell' (i := 4) (v := .slice av c.versions.length cv) rfl
  have d5 := hBx.cell' (i := 5) (v := .slice ar c.replicas.length cr) rfl
  have d6 := hBx.cell' (i := 6) (v := .slice ao c.observers.length co) rfl
  have d7 := hBx.cell' (i := 7) (v := .int .i64 c.blast) rfl
  have d8 := hBx.cell' (i := 8) (v := .int .i64 c.lease) rfl
  have d9 := hBx.cell' (i := 9) (v := .int .i64 c.bake) rfl
  clear hBx
  unfold cfgC at HL HW d0 d1 d2 d3 d4 d5 d6 d7 d8 d9 hg
  simp only at HL HW d0 d1 d2 d3 d4 d5 d6 d7 d8 d9 hg
  clear hok hV HK
  unfold cfgC
  simp only
  go_enter Try.func84, Try.ntmps84
  go_wp2_with fail
  generalize w.alloc _ = W at *
  have hx : ∀ (y : Later W.heap.size W) b o, b < W.heap.size → y.world.cell? ⟨b, o, none⟩ = W.cell? ⟨b, o, none⟩ := fun y b o h => y.cell h
  refine wp_region_below W.heap.size (by kernel_rfl) (by kernel_rfl) ?_
  repeat (quiet_step ((first | (go_at_call 89; exact quiet_belowW _ (topoZoneOf_any ⟨az, cz, ac, cc, at_, ct, av, cv, ar, cr, ao, co⟩ c _ _ HV.out (HW.out.laterW _))) | (go_at_call 88; exact quiet_belowW _ (topoRegZone_any ⟨az, cz, ac, cc, at_, ct, av, cv, ar, cr, ao, co⟩ c _ _ HV.out (HW.out.laterW _))))))
  refine wpQuiet_nil ?_
  rintro w' ⟨y, rfl⟩
  have HY := Lib.hid (HL.out.trans (y.below.mono (Nat.le_of_lt hg)))
  clear hx d0 d1 d2 d3 d4 d5 d6 d7 d8 d9 hg
  go_wp2
  go_ret
  exact ⟨ret_i64 rfl, HY.out⟩

set_option maxHeartbeats 1000000 in
theorem tenantApart_any (x : CfgA) (c : Cfg) (a b : Int) (w : World) (hV : CfgV c) (hok : CfgOk w (· < w.heap.size) x c) :
    Calls Try.prog 73 #[.agg (cfgC x c), .int .i64 a, .int .i64 b] w fun e w' => e = .returned (.bool (apartB c a b)) ∧ Below w.heap.size w w' := by
  obtain ⟨az, cz, ac, cc, at_, ct, av, cv, ar, cr, ao, co⟩ := x
  have HV := Lib.hid hV
  have HK := Lib.hid hok
  have HL := Lib.hid ((Below.refl w.heap.size w).alloc (Nat.le_refl _) (.cells (cfgC ⟨az, cz, ac, cc, at_, ct, av, cv, ar, cr, ao, co⟩ c) 30))
  have HW := Lib.hid (HK.out.allocW (.cells (cfgC ⟨az, cz, ac, cc, at_, ct, av, cv, ar, cr, ao, co⟩ c) 30))
  have hBx := Blk.new w 30 (cfgC ⟨az, cz, ac, cc, at_, ct, av, cv, ar, cr, ao, co⟩ c)
  have hg := hBx.lt
  have d0 := hBx.cell' (i := 0) (v := .int .i64 c.regions) rfl
  have d1 := hBx.cell' (i := 1) (v := .slice az c.zones.length cz) rfl
  have d2 := hBx.cell' (i := 2) (v := .slice ac c.cells.length cc) rfl
  have d3 := hBx.cell' (i := 3) (v := .slice at_ c.tenants.length ct) rfl
  have d4 := hBx.cell' (i := 4) (v := .slice av c.versions.length cv) rfl
  have d5 := hBx.cell' (i := 5) (v := .slice ar c.replicas.length cr) rfl
  have d6 := hBx.cell' (i := 6) (v := .slice ao c.observers.length co) rfl
  have d7 := hBx.cell' (i := 7) (v := .int .i64 c.blast) rfl
  have d8 := hBx.cell' (i := 8) (v := .int .i64 c.lease) rfl
  have d9 := hBx.cell' (i := 9) (v := .int .i64 c.bake) rfl
  clear hBx
  unfold cfgC at HL HW d0 d1 d2 d3 d4 d5 d6 d7 d8 d9 hg
  simp only at HL HW d0 d1 d2 d3 d4 d5 d6 d7 d8 d9 hg
  clear hok hV HK
  unfold cfgC
  simp only
  go_enter Try.func73, Try.ntmps73
  go_wp2_with fail
  generalize w.alloc _ = W at *
  have hx : ∀ (y : Later W.heap.size W) b o, b < W.heap.size → y.world.cell? ⟨b, o, none⟩ = W.cell? ⟨b, o, none⟩ := fun y b o h => y.cell h
  refine wp_region_below W.heap.size (by kernel_rfl) (by kernel_rfl) ?_
  repeat (quiet_step ((go_at_call 84; exact quiet_belowW _ (topoRegionOf_any ⟨az, cz, ac, cc, at_, ct, av, cv, ar, cr, ao, co⟩ c _ _ HV.out (HW.out.laterW _)))))
  refine wpQuiet_nil ?_
  rintro w' ⟨y, rfl⟩
  have HY := Lib.hid (HL.out.trans (y.below.mono (Nat.le_of_lt hg)))
  have HA : Hid (apartB c a b = (decide (0 ≤ regionOf c a) && decide (0 ≤ regionOf c b) && decide (regionOf c a ≠ regionOf c b))) := Lib.hid rfl
  generalize regionOf c a = ra at *
  generalize regionOf c b = rb at *
  clear hx d0 d1 d2 d3 d4 d5 d6 d7 d8 d9 hg
  go_wp2
  all_goals
    go_ret
    refine ⟨ret_bool ?_, HY.out⟩
    rw [HA.out, Bool.eq_iff_iff]
    go_light
    simp
    try omega

set_option maxHeartbeats 1000000 in
theorem tenantMay_any (x : CfgA) (c : Cfg) (t k : Int) (w : World) (hV : CfgV c) (hok : CfgOk w (· < w.heap.size) x c) :
    Calls Try.prog 71 #[.agg (cfgC x c), .int .i64 t, .int .i64 k] w fun e w' => e = .returned (.bool (mayB c t k)) ∧ Below w.heap.size w w' := by
  obtain ⟨az, cz, ac, cc, at_, ct, av, cv, ar, cr, ao, co⟩ := x
  have HV := Lib.hid hV
  have HK := Lib.hid hok
  have hnt := hV.nt
  have hrb := regionOf_bd hV k
  have hreg := hV.reg
  clear hok hV
  by_cases ht : 0 ≤ t ∧ t < c.tenants.length
  · have HI := inR_yes ht
    obtain ⟨ht0, ht1⟩ := ht
    obtain ⟨n, rfl⟩ := Int.eq_ofNat_of_zero_le ht0
    have hn : n < c.tenants.length := by omega
    obtain ⟨b, off, z, rfl, hb, hz, hcell⟩ := HK.out.tenants.row (enc := tenC) (sz := 7) (fun _ => rfl) (by omega) hn
    have e4 := hcell 4 (.int .i64 z.allowed) rfl
    have hzb := tenAt_bd HV.out hz
    have hm : mayB c n k = hasB z.allowed (regionOf c k) := by
      unfold mayB tenAt
      rw [Int.toNat_natCast, getD_some hz]
      simp [hn]
    have HM := Lib.hid hm
    have HBT := Lib.hid (bit_div2 z.allowed (regionOf c k) (by omega))
    have hb1 : b < w.heap.size := hb
    clear hcell hz hm
    unfold cfgC
    simp only
    go_enter Try.func71, Try.ntmps71
    go_wp2_with fail
    refine (topoRegionOf_any ⟨az, cz, ac, cc, some ⟨b, off, none⟩, ct, av, cv, ar, cr, ao, co⟩ c k _ HV.out (HK.out.allocW _)).mono ?_
    rintro e w1 ⟨rfl, hb1'⟩
    have HB : Hid (Below w.heap.size w w1) := ((Below.refl _ _).alloc (Nat.le_refl _) _).trans (hb1'.mono (by simp))
    obtain ⟨hc1, hf1⟩ := bcell hb1'
    have e1 : w1.cell? ⟨b, off + n * 7 + 4, none⟩ = some (.int .i64 z.allowed) := by rw [hc1 b _ (by simp; omega), World.cell?_alloc_lt w _ _ (show b < w.heap.size from hb)]; exact e4
    have d1 : w1.cell? ⟨w.heap.size, 3, none⟩ = some (.slice (some ⟨b, off, none⟩) c.tenants.length ct) := by rw [hc1 _ _ (by simp)]; go_simp
    clear hc1 hf1 hb1' e4
    generalize regionOf c k = r at *
    have hr : r = -1 ∨ r = 0 ∨ r = 1 ∨ r = 2 ∨ r = 3 := by omega
    clear hrb hreg
    rcases hr with rfl | rfl | rfl | rfl | rfl
    all_goals
      go_wp2_with (go_at_call 85; (with_reducible refine (tenantWithin_any _ _ _ _).mono ?_); rintro x wq ⟨rfl, rfl⟩; rw [HI])
      go_ret
      refine ⟨ret_bool ?_, HB.out⟩
      rw [HM.out]
      have := HBT.out
      try rw [i64_and1 _ (by omega) (by omega)]
      simp [hasB] at this ⊢
      try exact this
  · have hm : mayB c t k = false := by unfold mayB; simp; intro h1 h2; omega
    have HM := Lib.hid hm
    have HI := inR_no ht
    clear hm ht
    unfold cfgC
    simp only
    go_enter Try.func71, Try.ntmps71
    go_wp2_with fail
    refine (topoRegionOf_any ⟨az, cz, ac, cc, at_, ct, av, cv, ar, cr, ao, co⟩ c k _ HV.out (HK.out.allocW _)).mono ?_
    rintro e w1 ⟨rfl, hb1'⟩
    have HB : Hid (Below w.heap.size w w1) := ((Below.refl _ _).alloc (Nat.le_refl _) _).trans (hb1'.mono (by simp))
    obtain ⟨hc1, hf1⟩ := bcell hb1'
    have d1 : w1.cell? ⟨w.heap.size, 3, none⟩ = some (.slice at_ c.tenants.length ct) := by rw [hc1 _ _ (by simp)]; go_simp
    clear hc1 hf1 hb1'
    go_wp2_with (go_at_call 85; (with_reducible refine (tenantWithin_any _ _ _ _).mono ?_); rintro x wq ⟨rfl, rfl⟩; rw [HI])
    go_ret
    exact ⟨ret_bool HM.out.symm, HB.out⟩
end Go.Proofs.Ytjobcfpnmfjlfaa

namespace Go.Proofs.Ytjobcfpnmfjlfaa
open Go.RowKit
set_option linter.unusedSimpArgs false
set_option linter.unusedVariables false

theorem later_next {B : Nat} {w wq : World} (y : Later B w) (hw : B ≤ w.heap.size) (hb : Below y.world.heap.size y.world wq) : ∃ y2 : Later B w, wq = y2.world :=
  ⟨⟨wq, y.below.trans (hb.mono (Nat.le_trans hw y.below.size))⟩, rfl⟩
theorem start_later {P : Program} {c : Code} {Q : Exit → Act → World → Prop} {a : Act} {w : World} (B : Nat) (h : ∀ y : Later B w, c.wp P Q a y.world) : c.wp P Q a w := h ⟨w, Below.refl _ _⟩

set_option maxHeartbeats 400000 in
theorem stHas_any (set i : Int) (w : World) (h0 : 0 ≤ set) (h1 : set < 1073741824) :
    Calls Try.prog 75 #[.int .i64 set, .int .i64 i] w fun e w' => e = .returned (.bool (hasB set i)) ∧ w = w' := by
  have HB := Lib.hid (bit_div2 set i h0)
  have HD := div_bd (z := set) i h0 (by omega)
  have HH : Hid (62 ≤ i → bitB set i = false) := by
    refine Lib.hid fun hi => ?_
    obtain ⟨n, rfl⟩ := Int.eq_ofNat_of_zero_le h0
    unfold bitB
    rw [Int.toNat_natCast]
    refine Nat.testBit_lt_two_pow (Nat.lt_of_lt_of_le (show n < 2 ^ 30 by omega) (Nat.pow_le_pow_right (by omega) (by omega)))
  go_enter Try.func75, Try.ntmps75
  go_wp2
  all_goals
    go_ret
    refine ⟨ret_bool ?_, rfl⟩
  · rw [i64_and1 _ (by omega) (by omega), HB.out]
    by_cases h62 : i < 62
    · simp [hasB, *]
    · rw [HH.out (by omega)]
      simp [hasB]
      omega
  · simp [hasB]
    omega
  · simp [hasB]
    omega

def modeAt (s : St) (k : Int) : Int := if 0 ≤ k ∧ k < s.cells.length then (csAt s k).mode else 0
set_option maxHeartbeats 400000 in
theorem stModeOf_any (x : StA) (s : St) (k : Int) (w : World) (hl : s.cells.length ≤ 100) (hok : StOk w (· < w.heap.size) x s) :
    Calls Try.prog 69 #[.agg (stC x s), .int .i64 k] w fun e w' => e = .returned (.int .i64 (modeAt s k)) ∧ Below w.heap.size w w' := by
  obtain ⟨at_, ct, ac, cc⟩ := x
  have HK := Lib.hid hok
  clear hok
  unfold stC
  simp only
  by_cases hk : 0 ≤ k ∧ k < s.cells.length
  · obtain ⟨hk0, hk1⟩ := hk
    obtain ⟨n, rfl⟩ := Int.eq_ofNat_of_zero_le hk0
    have hn : n < s.cells.length := by omega
    obtain ⟨b, off, z, rfl, hb, hz, hcell⟩ := HK.out.cells.row (enc := csC) (sz := 4) (fun _ => rfl) (by omega) hn
    have e0 := hcell 0 (.int .i64 z.mode) rfl
    simp only [Nat.add_zero] at e0
    have hzo : modeAt s n = z.mode := by unfold modeAt csAt; rw [if_pos ⟨hk0, hk1⟩, Int.toNat_natCast, getD_some hz]
    have HZ := Lib.hid hzo
    have hb1 : b < w.heap.size := hb
    clear hcell hz hzo
    go_enter Try.func69, Try.ntmps69
    go_wp2
    go_ret
    exact ⟨ret_i64 HZ.out.symm, (Below.refl _ _).alloc (Nat.le_refl _) _⟩
  · have hzo : modeAt s k = 0 := by unfold modeAt; rw [if_neg hk]
    have HZ := Lib.hid hzo
    have hd : k < 0 ∨ (0 ≤ k ∧ (s.cells.length : Int) ≤ k) := by omega
    clear hk hzo
    rcases hd with hd | ⟨hd1, hd⟩
    all_goals
      go_enter Try.func69, Try.ntmps69
      go_wp2
      go_ret
      exact ⟨ret_i64 HZ.out.symm, (Below.refl _ _).alloc (Nat.le_refl _) _⟩

def verOf (c : Cfg) (k : Int) : Int × Int := if 0 ≤ k ∧ k < c.versions.length then verAt c k else (0, 0)
set_option maxHeartbeats 400000 in
theorem stVersionOf_any (x : CfgA) (c : Cfg) (k : Int) (w : World) (hV : CfgV c) (hok : CfgOk w (· < w.heap.size) x c) :
    Calls Try.prog 74 #[.agg (cfgC x c), .int .i64 k] w fun e w' => e = .returned (.agg (pairC (verOf c k)).toArray) ∧ Below w.heap.size w w' := by
  obtain ⟨az, cz, ac, cc, at_, ct, av, cv, ar, cr, ao, co⟩ := x
  have hnc := hV.nv
  have HK := Lib.hid hok
  clear hok hV
  unfold cfgC
  simp only
  by_cases hk : 0 ≤ k ∧ k < c.versions.length
  · obtain ⟨hk0, hk1⟩ := hk
    obtain ⟨n, rfl⟩ := Int.eq_ofNat_of_zero_le hk0
    have hn : n < c.versions.length := by omega
    obtain ⟨b, off, z, rfl, hb, hz, hcell⟩ := HK.out.versions.row (enc := pairC) (sz := 2) (fun _ => rfl) (by omega) hn
    have e0 := hcell 0 (.int .i64 z.1) rfl
    have e1 := hcell 1 (.int .i64 z.2) rfl
    simp only [Nat.add_zero] at e0
    have hzo : verOf c n = z := by unfold verOf verAt; rw [if_pos ⟨hk0, hk1⟩, Int.toNat_natCast, getD_some hz]
    have HZ := Lib.hid hzo
    have hb1 : b < w.heap.size := hb
    have hg : b < (w.alloc (.cells #[.int .i64 c.regions, .slice az c.zones.length cz, .slice ac c.cells.length cc, .slice at_ c.tenants.length ct, .slice (some ⟨b, off, none⟩) c.versions.length cv, .slice ar c.replicas.length cr, .slice ao c.observers.length co, .int .i64 c.blast, .int .i64 c.lease, .int .i64 c.bake] 30)).heap.size := by simp; omega
    have e0' := (World.cell?_alloc_lt w (.cells #[.int .i64 c.regions, .slice az c.zones.length cz, .slice ac c.cells.length cc, .slice at_ c.tenants.length ct, .slice (some ⟨b, off, none⟩) c.versions.length cv, .slice ar c.replicas.length cr, .slice ao c.observers.length co, .int .i64 c.blast, .int .i64 c.lease, .int .i64 c.bake] 30) ⟨b, off + n * 2, none⟩ hb1).trans e0
    have e1' := (World.cell?_alloc_lt w (.cells #[.int .i64 c.regions, .slice az c.zones.length cz, .slice ac c.cells.length cc, .slice at_ c.tenants.length ct, .slice (some ⟨b, off, none⟩) c.versions.length cv, .slice ar c.replicas.length cr, .slice ao c.observers.length co, .int .i64 c.blast, .int .i64 c.lease, .int .i64 c.bake] 30) ⟨b, off + n * 2 + 1, none⟩ hb1).trans e1
    clear hcell hz hzo
    go_enter Try.func74, Try.ntmps74
    go_wp2
    rw [HZ.out]
    refine bodyPost_ret (v := .agg #[.int .i64 z.1, .int .i64 z.2]) (by simp [results, Try.results74, go_sem]) rfl ?_
    exact ⟨rfl, ((Below.refl _ _).alloc (Nat.le_refl _) _).alloc (by simp) _⟩
  · have hzo : verOf c k = (0, 0) := by unfold verOf; rw [if_neg hk]
    have HZ := Lib.hid hzo
    have hd : k < 0 ∨ (0 ≤ k ∧ (c.versions.length : Int) ≤ k) := by omega
    clear hk hzo
    rcases hd with hd | ⟨hd1, hd⟩
    all_goals
      go_enter Try.func74, Try.ntmps74
      go_wp2
      rw [HZ.out]
      refine bodyPost_ret (v := .agg #[.int .i64 0, .int .i64 0]) (by simp [results, Try.results74, go_sem]) rfl ?_
      exact ⟨rfl, ((Below.refl _ _).alloc (Nat.le_refl _) _).alloc (by simp) _⟩

set_option maxHeartbeats 1000000 in
theorem stNear_any (x : CfgA) (c : Cfg) (a b : Int) (w : World) (hV : CfgV c) (hok : CfgOk w (· < w.heap.size) x c) :
    Calls Try.prog 72 #[.agg (cfgC x c), .int .i64 a, .int .i64 b] w fun e w' => e = .returned (.bool (nearB c a b)) ∧ Below w.heap.size w w' := by
  obtain ⟨az, cz, ac, cc, at_, ct, av, cv, ar, cr, ao, co⟩ := x
  have HV := Lib.hid hV
  have HK := Lib.hid hok
  have HL := Lib.hid ((Below.refl w.heap.size w).alloc (Nat.le_refl _) (.cells (cfgC ⟨az, cz, ac, cc, at_, ct, av, cv, ar, cr, ao, co⟩ c) 30))
  have HW := Lib.hid (HK.out.allocW (.cells (cfgC ⟨az, cz, ac, cc, at_, ct, av, cv, ar, cr, ao, co⟩ c) 30))
  have hBx := Blk.new w 30 (cfgC ⟨az, cz, ac, cc, at_, ct, av, cv, ar, cr, ao, co⟩ c)
  have hg := hBx.lt
  have d0 := hBx.cell' (i := 0) (v := .int .i64 c.regions) rfl
  have d1 := hBx.cell' (i := 1) (v := .slice az c.zones.length cz) rfl
  have d2 := hBx.cell' (i := 2) (v := .slice ac c.cells.length cc) rfl
  have d3 := hBx.cell' (i := 3) (v := .slice at_ c.tenants.length ct) rfl
  have d4 := hBx.cell' (i := 4) (v := .slice av c.versions.length cv) rfl
  have d5 := hBx.cell' (i := 5) (v := .slice ar c.replicas.length cr) rfl
  have d6 := hBx.cell' (i := 6) (v := .slice ao c.observers.length co) rfl
  have d7 := hBx.cell' (i := 7) (v := .int .i64 c.blast) rfl
  have d8 := hBx.cell' (i := 8) (v := .int .i64 c.lease) rfl
  have d9 := hBx.cell' (i := 9) (v := .int .i64 c.bake) rfl
  clear hBx
  unfold cfgC at HL HW d0 d1 d2 d3 d4 d5 d6 d7 d8 d9 hg
  simp only at HL HW d0 d1 d2 d3 d4 d5 d6 d7 d8 d9 hg
  clear hok hV HK
  unfold cfgC
  simp only
  by_cases hb : b = -1
  · have hN : nearB c a b = false := by simp [nearB, hb]
    have HN := Lib.hid hN
    subst hb
    clear hN
    go_enter Try.func72, Try.ntmps72
    go_wp2
    go_ret
    exact ⟨ret_bool HN.out.symm, HL.out⟩
  · have hN : nearB c a b = !apartB c a b := by simp [nearB, hb]
    have HN := Lib.hid hN
    have hb2 : (b != -1) = true := by simpa using hb
    clear hN hb
    go_enter Try.func72, Try.ntmps72
    go_wp2_with fail
    refine (tenantApart_any ⟨az, cz, ac, cc, at_, ct, av, cv, ar, cr, ao, co⟩ c a b _ HV.out HW.out).mono ?_
    rintro e w1 ⟨rfl, hb1⟩
    have HB := Lib.hid (HL.out.trans (hb1.mono (Nat.le_of_lt hg)))
    clear hb1 d0 d1 d2 d3 d4 d5 d6 d7 d8 d9 hg
    go_wp2
    go_ret
    exact ⟨ret_bool HN.out.symm, HB.out⟩

set_option maxHeartbeats 1000000 in
theorem stFrozen_any (x : CfgA) (c : Cfg) (y : StA) (s : St) (k : Int) (w : World) (hV : CfgV c) (hc : CfgOk w (· < w.heap.size) x c) (hI : StInv c s) :
    Calls Try.prog 70 #[.agg (cfgC x c), .agg (stC y s), .int .i64 k] w fun e w' => e = .returned (.bool (frozenB c s k)) ∧ Below w.heap.size w w' := by
  obtain ⟨az, cz, ac, cc, at_, ct, av, cv, ar, cr, ao, co⟩ := x
  have HV := Lib.hid hV
  have HKc := Lib.hid hc
  obtain ⟨sat, sct, sac, scc⟩ := y
  have hev := hI.evac
  have HF : Hid (frozenB c s k = hasB s.evac (regionOf c k)) := Lib.hid rfl
  clear hV hc hI
  have hL : Below w.heap.size w ((w.alloc (.cells #[.int .i64 c.regions, .slice az c.zones.length cz, .slice ac c.cells.length cc, .slice at_ c.tenants.length ct, .slice av c.versions.length cv, .slice ar c.replicas.length cr, .slice ao c.observers.length co, .int .i64 c.blast, .int .i64 c.lease, .int .i64 c.bake] 30)).alloc (.cells #[.int .i64 s.tick, .int .i64 s.count, .slice sat s.tenants.length sct, .slice sac s.cells.length scc, .int .i64 s.proven, .int .i64 s.evac, .int .i64 s.low, .int .i64 s.high] 36)) := (((Below.refl w.heap.size w).alloc (by simp <;> omega) (.cells #[.int .i64 c.regions, .slice az c.zones.length cz, .slice ac c.cells.length cc, .slice at_ c.tenants.length ct, .slice av c.versions.length cv, .slice ar c.replicas.length cr, .slice ao c.observers.length co, .int .i64 c.blast, .int .i64 c.lease, .int .i64 c.bake] 30)).alloc (by simp <;> omega) (.cells #[.int .i64 s.tick, .int .i64 s.count, .slice sat s.tenants.length sct, .slice sac s.cells.length scc, .int .i64 s.proven, .int .i64 s.evac, .int .i64 s.low, .int .i64 s.high] 36))
  have hBc : Blk ((w.alloc (.cells #[.int .i64 c.regions, .slice az c.zones.length cz, .slice ac c.cells.length cc, .slice at_ c.tenants.length ct, .slice av c.versions.length cv, .slice ar c.replicas.length cr, .slice ao c.observers.length co, .int .i64 c.blast, .int .i64 c.lease, .int .i64 c.bake] 30)).alloc (.cells #[.int .i64 s.tick, .int .i64 s.count, .slice sat s.tenants.length sct, .slice sac s.cells.length scc, .int .i64 s.proven, .int .i64 s.evac, .int .i64 s.low, .int .i64 s.high] 36)) (w.heap.size) 30 #[.int .i64 c.regions, .slice az c.zones.length cz, .slice ac c.cells.length cc, .slice at_ c.tenants.length ct, .slice av c.versions.length cv, .slice ar c.replicas.length cr, .slice ao c.observers.length co, .int .i64 c.blast, .int .i64 c.lease, .int .i64 c.bake] := by
    have := ((Blk.new w 30 #[.int .i64 c.regions, .slice az c.zones.length cz, .slice ac c.cells.length cc, .slice at_ c.tenants.length ct, .slice av c.versions.length cv, .slice ar c.replicas.length cr, .slice ao c.observers.length co, .int .i64 c.blast, .int .i64 c.lease, .int .i64 c.bake]).alloc (.cells #[.int .i64 s.tick, .int .i64 s.count, .slice sat s.tenants.length sct, .slice sac s.cells.length scc, .int .i64 s.proven, .int .i64 s.evac, .int .i64 s.low, .int .i64 s.high] 36))
    simpa using this
  have hBs : Blk ((w.alloc (.cells #[.int .i64 c.regions, .slice az c.zones.length cz, .slice ac c.cells.length cc, .slice at_ c.tenants.length ct, .slice av c.versions.length cv, .slice ar c.replicas.length cr, .slice ao c.observers.length co, .int .i64 c.blast, .int .i64 c.lease, .int .i64 c.bake] 30)).alloc (.cells #[.int .i64 s.tick, .int .i64 s.count, .slice sat s.tenants.length sct, .slice sac s.cells.length scc, .int .i64 s.proven, .int .i64 s.evac, .int .i64 s.low, .int .i64 s.high] 36)) (w.heap.size + 1) 36 #[.int .i64 s.tick, .int .i64 s.count, .slice sat s.tenants.length sct, .slice sac s.cells.length scc, .int .i64 s.proven, .int .i64 s.evac, .int .i64 s.low, .int .i64 s.high] := by
    have := (Blk.new (w.alloc (.cells #[.int .i64 c.regions, .slice az c.zones.length cz, .slice ac c.cells.length cc, .slice at_ c.tenants.length ct, .slice av c.versions.length cv, .slice ar c.replicas.length cr, .slice ao c.observers.length co, .int .i64 c.blast, .int .i64 c.lease, .int .i64 c.bake] 30)) 36 #[.int .i64 s.tick, .int .i64 s.count, .slice sat s.tenants.length sct, .slice sac s.cells.length scc, .int .i64 s.proven, .int .i64 s.evac, .int .i64 s.low, .int .i64 s.high])
    simpa using this
  unfold cfgC stC
  simp only
  go_enter Try.func70, Try.ntmps70
  go_upto_region 1 with fail
  generalize (w.alloc _).alloc _ = W at *
  have hgc := hBc.lt
  have d0 := hBc.cell' (i := 0) (v := .int .i64 c.regions) rfl
  have d1 := hBc.cell' (i := 1) (v := .slice az c.zones.length cz) rfl
  have d2 := hBc.cell' (i := 2) (v := .slice ac c.cells.length cc) rfl
  have d3 := hBc.cell' (i := 3) (v := .slice at_ c.tenants.length ct) rfl
  have d4 := hBc.cell' (i := 4) (v := .slice av c.versions.length cv) rfl
  have d5 := hBc.cell' (i := 5) (v := .slice ar c.replicas.length cr) rfl
  have d6 := hBc.cell' (i := 6) (v := .slice ao c.observers.length co) rfl
  have d7 := hBc.cell' (i := 7) (v := .int .i64 c.blast) rfl
  have d8 := hBc.cell' (i := 8) (v := .int .i64 c.lease) rfl
  have d9 := hBc.cell' (i := 9) (v := .int .i64 c.bake) rfl
  clear hBc
  have hgs := hBs.lt
  have su0 := hBs.cell' (i := 0) (v := .int .i64 s.tick) rfl
  have su1 := hBs.cell' (i := 1) (v := .int .i64 s.count) rfl
  have su2 := hBs.cell' (i := 2) (v := .slice sat s.tenants.length sct) rfl
  have su3 := hBs.cell' (i := 3) (v := .slice sac s.cells.length scc) rfl
  have su4 := hBs.cell' (i := 4) (v := .int .i64 s.proven) rfl
  have su5 := hBs.cell' (i := 5) (v := .int .i64 s.evac) rfl
  have su6 := hBs.cell' (i := 6) (v := .int .i64 s.low) rfl
  have su7 := hBs.cell' (i := 7) (v := .int .i64 s.high) rfl
  clear hBs
  have HL := Lib.hid hL
  have HWc := Lib.hid (HKc.out.belowW hL)
  clear hL
  have hx : ∀ (y : Later W.heap.size W) b o, b < W.heap.size → y.world.cell? ⟨b, o, none⟩ = W.cell? ⟨b, o, none⟩ := fun y b o h => y.cell h
  refine wp_region_below W.heap.size (by kernel_rfl) (by kernel_rfl) ?_
  repeat (quiet_step ((first | (go_at_call 84; exact quiet_belowW _ (topoRegionOf_any ⟨az, cz, ac, cc, at_, ct, av, cv, ar, cr, ao, co⟩ c _ _ HV.out (HWc.out.laterW _))) | (go_at_call 75; exact quiet_sameW _ (stHas_any _ _ _ (by omega) (by omega))))))
  refine wpQuiet_nil ?_
  rintro w' ⟨y, rfl⟩
  have HY := Lib.hid (HL.out.trans (y.below.mono (Nat.le_of_lt hgc)))
  clear hx d0 d1 d2 d3 d4 d5 d6 d7 d8 d9 hgc hgs su0 su1 su2 su3 su4 su5 su6 su7
  go_wp2
  go_ret
  exact ⟨ret_bool HF.out.symm, HY.out⟩
end Go.Proofs.Ytjobcfpnmfjlfaa

namespace Go.Proofs.Ytjobcfpnmfjlfaa
open Go.RowKit
set_option linter.unusedSimpArgs false
set_option linter.unusedVariables false

set_option maxHeartbeats 1000000 in
theorem ldAdd_any (base : Nat) (A : Option Addr) (cp : Nat) (l : List Int) (i n : Int) (w : World) (hm : l.length ≤ 1000) (hown : w.ownsRow base 3 1 (.slice A l.length cp) l.length (flat intC l))
    (hl : ∀ z ∈ l, 0 ≤ z ∧ z ≤ 1000000000) (hn : 0 ≤ n) (hn2 : n ≤ 1000000) :
    Calls Try.prog 80 #[.slice A l.length cp, .int .i64 i, .int .i64 n] w (fun e w' => AddPost base A cp (addAt l i n) w e w') := by
  have hlen := addAt_len l i n
  by_cases hi : 0 ≤ i ∧ i < l.length
  · obtain ⟨h0, h1⟩ := hi
    obtain ⟨k, rfl⟩ := Int.eq_ofNat_of_zero_le h0
    have hk : k < l.length := by omega
    obtain ⟨g, cap', hv, _, hlt⟩ := hown.form (by omega)
    simp only [Value.slice.injEq, true_and] at hv
    obtain ⟨rfl, rfl⟩ := hv
    have c0 := hown.cellAt k (by omega)
    rw [flat_int, List.getElem?_map, List.getElem?_eq_getElem hk] at c0
    simp only [Option.map_some] at c0
    have f0 := hown.frozenAt k
    have hz := hl l[k] (List.getElem_mem hk)
    have ha : addAt l k n = l.set k (l[k] + n) := by
      unfold addAt
      rw [if_pos ⟨h0, h1⟩, Int.toNat_natCast, getD_some (List.getElem?_eq_getElem hk)]
    have hst := hown.stored k (.int .i64 (l[k] + n))
    rw [flat_int_set] at hst
    have hp : AddPost base (some ⟨g, 0, none⟩) cp (addAt l k n) w (.returned (.tuple #[])) (w.setCell ⟨g, k, none⟩ (.int .i64 (l[k] + n))) := by
      refine ⟨rfl, ?_, ?_⟩
      · rw [hlen, ha]; exact hst.1
      · exact hst.2
    have HP := Lib.hid hp
    clear hp hst ha hown hl hlen
    generalize l[k] = z at *
    go_enter Try.func80, Try.ntmps80
    go_wp2
    go_end0
    exact HP.out
  · have ha : addAt l i n = l := by unfold addAt; rw [if_neg hi]
    have hp : AddPost base A cp (addAt l i n) w (.returned (.tuple #[])) w := by rw [ha]; exact ⟨rfl, hown, grown_refl _ _⟩
    have HP := Lib.hid hp
    have hd : i < 0 ∨ (0 ≤ i ∧ (l.length : Int) ≤ i) := by omega
    clear hp ha hown hl hlen hi
    rcases hd with hd | ⟨hd1, hd⟩
    all_goals
      go_enter Try.func80, Try.ntmps80
      go_wp2
      go_end0
      exact HP.out


set_option maxHeartbeats 1000000 in
theorem ldActive_any (t : TS) (w : World) : Calls Try.prog 79 #[.agg (tsC t).toArray] w fun r w' => r = .returned (.bool (t.placed && !t.shed)) ∧ Below w.heap.size w w' := by
  unfold tsC
  go_enter Try.func79, Try.ntmps79
  go_wp2
  all_goals
    go_ret
    refine ⟨ret_bool ?_, (Below.refl _ _).alloc (Nat.le_refl _) _⟩
    go_light
    simp_all

set_option maxHeartbeats 1000000 in
theorem ldCount_any (x : CfgA) (c : Cfg) (y : StA) (s : St) (w : World) (hV : CfgV c) (hI : s.tenants.length = c.tenants.length) :
    Calls Try.prog 78 #[.agg (cfgC x c), .agg (stC y s)] w fun r w' => r = .returned (.int .i64 s.tenants.length) ∧ Below w.heap.size w w' := by
  have hnt := hV.nt
  obtain ⟨az, cz, ac, cc, at_, ct, av, cv, ar, cr, ao, co⟩ := x
  obtain ⟨sat, sct, sac, scc⟩ := y
  have HI := Lib.hid hI
  unfold cfgC stC
  simp only
  rw [hI]
  clear hI hV
  generalize c.tenants.length = m at *
  go_enter Try.func78, Try.ntmps78
  go_wp2
  all_goals
    go_ret
    exact ⟨rfl, ((Below.refl _ _).alloc (Nat.le_refl _) _).alloc (by simp) _⟩
end Go.Proofs.Ytjobcfpnmfjlfaa

namespace Go.Proofs.Ytjobcfpnmfjlfaa
open Go.RowKit
set_option linter.unusedSimpArgs false
set_option linter.unusedVariables false
theorem tenSize7 : (Try.prog.info? 63).map (·.size) = some 7 := by kernel_rfl
theorem tsSize12 : (Try.prog.info? 50).map (·.size) = some 12 := by kernel_rfl

/-- The loop of Booked. -/
def BookRel (W : World) (c : Cfg) (s : St) (A : Option Addr) (cp : Nat) (gk : Nat) (si : Value) (wr : World) : Prop :=
  ∃ k : Nat, gk + k = s.tenants.length ∧ si = .int .i64 k ∧ wr.ownsRow W.heap.size 3 1 (.slice A c.cells.length cp) c.cells.length (flat intC (bookK c s k)) ∧ Below W.heap.size W wr

theorem ldAdd2 (m base : Nat) (A : Option Addr) (cp : Nat) (l : List Int) (i n : Int) (w : World) (hlm : l.length = m) (hm : m ≤ 1000) (hown : w.ownsRow base 3 1 (.slice A m cp) m (flat intC l))
    (hl : ∀ z ∈ l, 0 ≤ z ∧ z ≤ 1000000000) (hn : 0 ≤ n) (hn2 : n ≤ 1000000) :
    Calls Try.prog 80 #[.slice A m cp, .int .i64 i, .int .i64 n] w (fun e w' => e = .returned (.tuple #[]) ∧ w'.ownsRow base 3 1 (.slice A m cp) m (flat intC (addAt l i n)) ∧ w.grownBy w' (Value.slice A m cp).ownBlock) := by
  subst hlm
  refine (ldAdd_any base A cp l i n w hm hown hl hn hn2).mono ?_
  rintro e w' ⟨h1, h2, h3⟩
  rw [addAt_len] at h2 h3
  exact ⟨h1, h2, h3⟩
theorem made_zeros (n : Nat) : (madeCells #[Value.int IntKind.i64 0] n).toList = flat intC (List.replicate n 0) := by
  rw [flat_int, toList_madeCells_one]
  simp
set_option maxHeartbeats 8000000 in
set_option maxRecDepth 100000 in
theorem ldBooked_any (x : CfgA) (c : Cfg) (y : StA) (s : St) (w : World) (hV : CfgV c) (hc : CfgOk w (· < w.heap.size) x c) (hI : StInv c s) (hs : StOk w (· < w.heap.size) y s) :
    Calls Try.prog 63 #[.agg (cfgC x c), .agg (stC y s)] w (IntsPost w (booked c s)) := by
  obtain ⟨ii, hii, hi0, hi1, hi2⟩ := info_parts r5intInfo
  have hnc := hV.nc
  have hntt := hV.nt
  have hlt0 := hI.lt
  have HLT := Lib.hid hlt0
  clear hlt0
  obtain ⟨az, cz, ac, cc, at_, ct, av, cv, ar, cr, ao, co⟩ := x
  have HV := Lib.hid hV
  have HKc := Lib.hid hc
  clear hV hc
  obtain ⟨sat, sct, sac, scc⟩ := y
  have HKs := Lib.hid hs
  have hsl : 1 ≤ s.cells.length ∧ s.cells.length ≤ 16 := by have := hI.lc; omega
  have hst : s.tenants.length ≤ 32 := by have := hI.lt; omega
  have HI := Lib.hid hI
  clear hs hI
  have HC := Lib.hid (fun W => ldCount_any ⟨az, cz, ac, cc, at_, ct, av, cv, ar, cr, ao, co⟩ c ⟨sat, sct, sac, scc⟩ s W HV.out HLT.out)
  unfold cfgC stC at HC
  simp only at HC
  have hL : Below w.heap.size w ((w.alloc (.cells #[.int .i64 c.regions, .slice az c.zones.length cz, .slice ac c.cells.length cc, .slice at_ c.tenants.length ct, .slice av c.versions.length cv, .slice ar c.replicas.length cr, .slice ao c.observers.length co, .int .i64 c.blast, .int .i64 c.lease, .int .i64 c.bake] 30)).alloc (.cells #[.int .i64 s.tick, .int .i64 s.count, .slice sat s.tenants.length sct, .slice sac s.cells.length scc, .int .i64 s.proven, .int .i64 s.evac, .int .i64 s.low, .int .i64 s.high] 36)) := (((Below.refl w.heap.size w).alloc (by simp <;> omega) (.cells #[.int .i64 c.regions, .slice az c.zones.length cz, .slice ac c.cells.length cc, .slice at_ c.tenants.length ct, .slice av c.versions.length cv, .slice ar c.replicas.length cr, .slice ao c.observers.length co, .int .i64 c.blast, .int .i64 c.lease, .int .i64 c.bake] 30)).alloc (by simp <;> omega) (.cells #[.int .i64 s.tick, .int .i64 s.count, .slice sat s.tenants.length sct, .slice sac s.cells.length scc, .int .i64 s.proven, .int .i64 s.evac, .int .i64 s.low, .int .i64 s.high] 36))
  have hBc : Blk ((w.alloc (.cells #[.int .i64 c.regions, .slice az c.zones.length cz, .slice ac c.cells.length cc, .slice at_ c.tenants.length ct, .slice av c.versions.length cv, .slice ar c.replicas.length cr, .slice ao c.observers.length co, .int .i64 c.blast, .int .i64 c.lease, .int .i64 c.bake] 30)).alloc (.cells #[.int .i64 s.tick, .int .i64 s.count, .slice sat s.tenants.length sct, .slice sac s.cells.length scc, .int .i64 s.proven, .int .i64 s.evac, .int .i64 s.low, .int .i64 s.high] 36)) (w.heap.size) 30 #[.int .i64 c.regions, .slice az c.zones.length cz, .slice ac c.cells.length cc, .slice at_ c.tenants.length ct, .slice av c.versions.length cv, .slice ar c.replicas.length cr, .slice ao c.observers.length co, .int .i64 c.blast, .int .i64 c.lease, .int .i64 c.bake] := by
    have := ((Blk.new w 30 #[.int .i64 c.regions, .slice az c.zones.length cz, .slice ac c.cells.length cc, .slice at_ c.tenants.length ct, .slice av c.versions.length cv, .slice ar c.replicas.length cr, .slice ao c.observers.length co, .int .i64 c.blast, .int .i64 c.lease, .int .i64 c.bake]).alloc (.cells #[.int .i64 s.tick, .int .i64 s.count, .slice sat s.tenants.length sct, .slice sac s.cells.length scc, .int .i64 s.proven, .int .i64 s.evac, .int .i64 s.low, .int .i64 s.high] 36))
    simpa using this
  have hBs : Blk ((w.alloc (.cells #[.int .i64 c.regions, .slice az c.zones.length cz, .slice ac c.cells.length cc, .slice at_ c.tenants.length ct, .slice av c.versions.length cv, .slice ar c.replicas.length cr, .slice ao c.observers.length co, .int .i64 c.blast, .int .i64 c.lease, .int .i64 c.bake] 30)).alloc (.cells #[.int .i64 s.tick, .int .i64 s.count, .slice sat s.tenants.length sct, .slice sac s.cells.length scc, .int .i64 s.proven, .int .i64 s.evac, .int .i64 s.low, .int .i64 s.high] 36)) (w.heap.size + 1) 36 #[.int .i64 s.tick, .int .i64 s.count, .slice sat s.tenants.length sct, .slice sac s.cells.length scc, .int .i64 s.proven, .int .i64 s.evac, .int .i64 s.low, .int .i64 s.high] := by
    have := (Blk.new (w.alloc (.cells #[.int .i64 c.regions, .slice az c.zones.length cz, .slice ac c.cells.length cc, .slice at_ c.tenants.length ct, .slice av c.versions.length cv, .slice ar c.replicas.length cr, .slice ao c.observers.length co, .int .i64 c.blast, .int .i64 c.lease, .int .i64 c.bake] 30)) 36 #[.int .i64 s.tick, .int .i64 s.count, .slice sat s.tenants.length sct, .slice sac s.cells.length scc, .int .i64 s.proven, .int .i64 s.evac, .int .i64 s.low, .int .i64 s.high])
    simpa using this
  unfold cfgC stC
  simp only
  go_enter Try.func63, Try.ntmps63
  go_upto_region 1 with fail
  generalize (w.alloc _).alloc _ = W at *
  have hgc := hBc.lt
  have d0 := hBc.cell' (i := 0) (v := .int .i64 c.regions) rfl
  have d1 := hBc.cell' (i := 1) (v := .slice az c.zones.length cz) rfl
  have d2 := hBc.cell' (i := 2) (v := .slice ac c.cells.length cc) rfl
  have d3 := hBc.cell' (i := 3) (v := .slice at_ c.tenants.length ct) rfl
  have d4 := hBc.cell' (i := 4) (v := .slice av c.versions.length cv) rfl
  have d5 := hBc.cell' (i := 5) (v := .slice ar c.replicas.length cr) rfl
  have d6 := hBc.cell' (i := 6) (v := .slice ao c.observers.length co) rfl
  have d7 := hBc.cell' (i := 7) (v := .int .i64 c.blast) rfl
  have d8 := hBc.cell' (i := 8) (v := .int .i64 c.lease) rfl
  have d9 := hBc.cell' (i := 9) (v := .int .i64 c.bake) rfl
  clear hBc
  have hgs := hBs.lt
  have su0 := hBs.cell' (i := 0) (v := .int .i64 s.tick) rfl
  have su1 := hBs.cell' (i := 1) (v := .int .i64 s.count) rfl
  have su2 := hBs.cell' (i := 2) (v := .slice sat s.tenants.length sct) rfl
  have su3 := hBs.cell' (i := 3) (v := .slice sac s.cells.length scc) rfl
  have su4 := hBs.cell' (i := 4) (v := .int .i64 s.proven) rfl
  have su5 := hBs.cell' (i := 5) (v := .int .i64 s.evac) rfl
  have su6 := hBs.cell' (i := 6) (v := .int .i64 s.low) rfl
  have su7 := hBs.cell' (i := 7) (v := .int .i64 s.high) rfl
  clear hBs
  have HL := Lib.hid hL
  have HWc := Lib.hid (HKc.out.belowW hL)
  have HWs := Lib.hid (HKs.out.belowW hL)
  clear hL
  go_wp2_with (at_make; refine wpList_make_full W rfl _ _ _ rfl W.heap.size 3 ii _ 1 Try.underlying22 hii hi0 hi1 .i64 .i64 _ _ c.cells.length rfl rfl rfl rfl ?b1 ?b2 ?b3 ?_)
  case b1 => rw [hi2]; omega
  case b2 => unfold maxLen; omega
  case b3 => exact Nat.le_refl _
  intro w1 hO1 hg1
  rw [made_zeros] at hO1
  have hB1 : Below W.heap.size W w1 := (Below.refl _ _).grown hg1 (Nat.le_refl _) (by rintro _ ⟨⟩)
  have hlt1 := (hO1.lt W.heap.size rfl).2
  obtain ⟨hc1, hf1⟩ := bcell hB1
  have HO1 := Lib.hid hO1
  have HB1 := Lib.hid hB1
  clear hO1 hg1 hB1 hf1
  go_wp2_with fail
  refine (HC.out _).mono ?_
  rintro r w2 ⟨rfl, hb2⟩
  have HO2 := Lib.hid (own_below HO1.out hb2 fun j hj => (HO1.out.lt j hj).2)
  have HB2 := Lib.hid (HB1.out.trans (hb2.mono HB1.out.size))
  clear hb2 HO1 HB1 hc1 hlt1 HC
  go_wp2
  have hgr : ∃ gr, gr = W.heap.size := ⟨_, rfl⟩
  obtain ⟨gr, hgr⟩ := hgr
  go_loopg [16] s.tenants.length (fun gk si wr => BookRel W c s (some ⟨W.heap.size, 0, none⟩) c.cells.length gk si wr)
  case atStart => exact ⟨0, by omega, rfl, HO2.out, HB2.out⟩
  case round =>
    rename_i J K aJ aK
    obtain ⟨k, hgk, rfl, hown, hbel⟩ := hrel
    have HO := Lib.hid hown
    have HB := Lib.hid hbel
    have hsz := hbel.size
    have hszlt : W.heap.size < wr.heap.size := (hown.lt W.heap.size rfl).2
    obtain ⟨hcW, hfW⟩ := bcell hbel
    clear hown hbel hfW HO2 HB2
    by_cases hk : k < s.tenants.length
    · have hlt : (k : Int) < (s.tenants.length : Int) := by omega
      have hk2 : k < c.tenants.length := by have := HLT.out; omega
      have hlt2 : (k : Int) < (c.tenants.length : Int) := by omega
      obtain ⟨bt, oft, t, rfl, hbt, hzt, hct⟩ := HWs.out.tenants.row (enc := tsC) (sz := 12) (fun _ => rfl) (by omega) hk
      obtain ⟨bd, ofd, de, rfl, hbd, hzd, hcd⟩ := HWc.out.tenants.row (enc := tenC) (sz := 7) (fun _ => rfl) (by omega) hk2
      have hbtW : bt < W.heap.size := hbt
      have hbdW : bd < W.heap.size := hbd
      have hbt2 : bt < wr.heap.size := Nat.lt_of_lt_of_le hbt hsz
      have hbd2 : bd < wr.heap.size := Nat.lt_of_lt_of_le hbd hsz
      have hgc2 : w.heap.size < wr.heap.size := Nat.lt_of_lt_of_le hgc hsz
      have hgs2 : w.heap.size + 1 < wr.heap.size := Nat.lt_of_lt_of_le hgs hsz
      have t0 := hct 0 (.bool t.placed) rfl
      have t1 := hct 1 (.bool t.shed) rfl
      have t2 := hct 2 (.int .i64 t.home) rfl
      have t3 := hct 3 (.int .i64 t.standby) rfl
      have t4 := hct 4 (.int .i64 t.next) rfl
      have t5 := hct 5 (.int .i64 t.target) rfl
      have t6 := hct 6 (.int .i64 t.epoch) rfl
      have t7 := hct 7 (.int .i64 t.win.cell) rfl
      have t8 := hct 8 (.int .i64 t.win.epoch) rfl
      have t9 := hct 9 (.int .i64 t.win.version) rfl
      have t10 := hct 10 (.int .i64 t.win.since) rfl
      have t11 := hct 11 (.int .i64 t.win.till) rfl
      have y0 := hcd 0 (.int .i64 de.load) rfl
      have y1 := hcd 1 (.int .i64 de.shadow) rfl
      have y2 := hcd 2 (.int .i64 de.prio) rfl
      have y3 := hcd 3 (.int .i64 de.lag) rfl
      have y4 := hcd 4 (.int .i64 de.allowed) rfl
      have y5 := hcd 5 (.int .i64 de.group) rfl
      have y6 := hcd 6 (.bool de.noisy) rfl
      simp only [Nat.add_zero] at t0 y0
      have hdb := tenAt_bd HV.out hzd
      have HS := Lib.hid (bookK_succ hzt hzd)
      have HWI := Lib.hid (bookK_within HV.out s k)
      clear hct hcd hzt hzd hbt hbd
      go_upto_region 5 with fail
      go_cut [7, 8, 16] from 16 to 58 (fun v7 v8 v16 wx => v16 = .int .i64 k ∧ ∃ ga gb, v7 = .pointer (some ⟨ga, 0, none⟩) ∧ v8 = .pointer (some ⟨gb, 0, none⟩) ∧ TwoC wr 63 50 #[.int .i64 de.load, .int .i64 de.shadow, .int .i64 de.prio, .int .i64 de.lag, .int .i64 de.allowed, .int .i64 de.group, .bool de.noisy] #[.bool t.placed, .bool t.shed, .int .i64 t.home, .int .i64 t.standby, .int .i64 t.next, .int .i64 t.target, .int .i64 t.epoch, .int .i64 t.win.cell, .int .i64 t.win.epoch, .int .i64 t.win.version, .int .i64 t.win.since, .int .i64 t.win.till] ga gb wx ∧ wr.heap.size ≤ ga ∧ wr.heap.size ≤ gb)
      case first =>
        refine wp_region_seqI (fun w' : World => Below wr.heap.size wr w') 13 [0, 1, 2, 3, 4, 5, 6, 7, 8, 9] [10, 11, 12] (fun i => if i = 12 then [10, 11] else []) (by kernel_rfl) (by kernel_rfl) (Below.refl _ _).drew ?_
        simp only [List.take_succ_cons, List.take_zero, List.drop_succ_cons, List.drop_zero]
        repeat (refine wpSeqI_fix _ ?_ rfl (by first | exact fun _ _ _ h => h | exact fun _ _ _ h => hpan _ _ _ _ _ h) (Or.inl ⟨by rfl, ?_⟩) ?_; rotate_left; (intro w' hSw; (try dsimp only at hSw); obtain ⟨hc, hf⟩ := bcell hSw; clear hf hSw; go_simp; (try with_reducible rfl)); (simp only [List.getElem_toArray, List.getElem_cons_zero, List.getElem_cons_succ, Act.put, List.setIfInBounds_toArray, List.set_cons_zero, List.set_cons_succ]))
        refine wpSeqI_acts (fun a0 d a wx => ∃ va vb ga gb, a = ((a0.put (some 7) va).put (some 8) vb) ∧ TwoJ wr 63 50 #[.int .i64 0, .int .i64 0, .int .i64 0, .int .i64 0, .int .i64 0, .int .i64 0, .bool false] #[.int .i64 de.load, .int .i64 de.shadow, .int .i64 de.prio, .int .i64 de.lag, .int .i64 de.allowed, .int .i64 de.group, .bool de.noisy] #[.bool false, .bool false, .int .i64 0, .int .i64 0, .int .i64 0, .int .i64 0, .int .i64 0, .int .i64 0, .int .i64 0, .int .i64 0, .int .i64 0, .int .i64 0] 10 11 12 d va vb ga gb wx) ?j1 ?j2 ?j3
        case j1 =>
          intro d hd
          refine ⟨_, _, 0, 0, rfl, TwoJ.start (Below.refl _ _).drew (hd 10 (by simp)) (hd 11 (by simp)) (hd 12 (by simp))⟩
        case j2 =>
          refine acts_cons (actStep_op rfl rfl ?s10) (acts_cons (actStep_op rfl rfl ?s11) (acts_cons (actStep_op rfl rfl ?s12) acts_nil))
          case s10 =>
            rintro d a wx h0 hp hS ⟨va, vb, ga, gb, rfl, hJ⟩
            have HJ := Lib.hid (hJ.allocA h0 (by decide) (by decide))
            clear hJ hS hp h0
            simp only [List.getElem_toArray, List.getElem_cons_zero, List.getElem_cons_succ, Act.put, List.setIfInBounds_toArray, List.set_cons_zero, List.set_cons_succ]
            go_simp
            exact ⟨HJ.out.below, _, _, ⟨rfl, rfl⟩, _, gb, HJ.out⟩
          case s11 =>
            rintro d a wx h0 hp hS ⟨va, vb, ga, gb, rfl, hJ⟩
            have HJ := Lib.hid (hJ.allocB (by decide) (by decide))
            clear hJ hS hp h0
            simp only [List.getElem_toArray, List.getElem_cons_zero, List.getElem_cons_succ, Act.put, List.setIfInBounds_toArray, List.set_cons_zero, List.set_cons_succ]
            go_simp
            exact ⟨HJ.out.below, _, _, ⟨rfl, rfl⟩, ga, _, HJ.out⟩
          case s12 =>
            rintro d a wx h0 hp hS ⟨va, vb, ga, gb, rfl, hJ⟩
            have HJ := Lib.hid (hJ.storeA (hp 10 (by simp)) (hp 11 (by simp)) (by decide) (by decide) (putL_full rfl) (putL_full rfl))
            obtain ⟨rfl, hk, hle⟩ := hJ.a (hp 10 (by simp))
            clear hJ hS hp h0
            simp only [List.getElem_toArray, List.getElem_cons_zero, List.getElem_cons_succ, Act.put, List.setIfInBounds_toArray, List.set_cons_zero, List.set_cons_succ]
            refine wp_store_mid _ _ _ (by rfl) ga 0 #[.int .i64 de.load, .int .i64 de.shadow, .int .i64 de.prio, .int .i64 de.lag, .int .i64 de.allowed, .int .i64 de.group, .bool de.noisy] (by go_simp) (by go_simp) (hk.there 0 7 (by split <;> simp)) tenSize7 (by simp [Value.oneCell']) ?_
            refine ⟨HJ.out.below, ?_⟩
            go_simp
            exact ⟨_, _, ⟨rfl, rfl⟩, ga, gb, HJ.out⟩
        case j3 =>
          rintro d a wx hp hS ⟨va, vb, ga, gb, rfl, hJ⟩
          obtain ⟨rfl, hka, hla⟩ := hJ.a (hp 10 (by simp))
          obtain ⟨rfl, hkb, hlb⟩ := hJ.b (hp 11 (by simp))
          have HJ := Lib.hid (hJ.done1 (FB := #[.bool t.placed, .bool t.shed, .int .i64 t.home, .int .i64 t.standby, .int .i64 t.next, .int .i64 t.target, .int .i64 t.epoch, .int .i64 t.win.cell, .int .i64 t.win.epoch, .int .i64 t.win.version, .int .i64 t.win.since, .int .i64 t.win.till]) (hp 10 (by simp)) (hp 11 (by simp)) (hp 12 (by simp)) (putL_full rfl))
          clear hJ hS hp
          simp only [List.getElem_toArray, List.getElem_cons_zero, List.getElem_cons_succ, Act.put, List.setIfInBounds_toArray, List.set_cons_zero, List.set_cons_succ, thenK]
          refine wpList_store_mid (by rfl) _ _ _ (by rfl) gb 0 #[.bool t.placed, .bool t.shed, .int .i64 t.home, .int .i64 t.standby, .int .i64 t.next, .int .i64 t.target, .int .i64 t.epoch, .int .i64 t.win.cell, .int .i64 t.win.epoch, .int .i64 t.win.version, .int .i64 t.win.since, .int .i64 t.win.till] (by go_simp) (by go_simp) (hkb.there 0 12 (by simp)) tsSize12 (by simp [Value.oneCell']) ?_
          go_wp2
          go_meet
          exact ⟨rfl, ga, gb, rfl, rfl, HJ.out, hla, hlb⟩
      case rest =>
        obtain ⟨rfl, ga, gb, rfl, rfl, hC, hC2⟩ := hcut
        have hA := hC.a
        have hBk := hC.b
        replace HO := Lib.hid (own_below HO.out hC.below fun j hj => (HO.out.lt j hj).2)
        replace HB := Lib.hid (HB.out.trans (hC.below.mono hsz))
        have hga : W.heap.size < ga := Nat.lt_of_lt_of_le hszlt hC2.1
        have hgb : W.heap.size < gb := Nat.lt_of_lt_of_le hszlt hC2.2
        clear t0 t1 t2 t3 t4 t5 t6 t7 t8 t9 t10 t11 y0 y1 y2 y3 y4 y5 y6 hcW hC hbt2 hbd2 hgc2 hgs2 hbtW hbdW hsz
        have p0 := hA.cell' (i := 0) (v := .int .i64 de.load) rfl
        have p1 := hA.cell' (i := 1) (v := .int .i64 de.shadow) rfl
        have q0 := hBk.cell' (i := 0) (v := .bool t.placed) rfl
        have q1 := hBk.cell' (i := 1) (v := .bool t.shed) rfl
        have q2 := hBk.cell' (i := 2) (v := .int .i64 t.home) rfl
        have q3 := hBk.cell' (i := 3) (v := .int .i64 t.standby) rfl
        have q4 := hBk.cell' (i := 4) (v := .int .i64 t.next) rfl
        have q5 := hBk.cell' (i := 5) (v := .int .i64 t.target) rfl
        have q6 := hBk.cell' (i := 6) (v := .int .i64 t.epoch) rfl
        have q7 := hBk.cell' (i := 7) (v := .int .i64 t.win.cell) rfl
        have q8 := hBk.cell' (i := 8) (v := .int .i64 t.win.epoch) rfl
        have q9 := hBk.cell' (i := 9) (v := .int .i64 t.win.version) rfl
        have q10 := hBk.cell' (i := 10) (v := .int .i64 t.win.since) rfl
        have q11 := hBk.cell' (i := 11) (v := .int .i64 t.win.till) rfl
        have hw0 := HWI.out
        cases hpl : t.placed
        · have HE : Hid (bookK c s (k + 1) = bookK c s k) := Lib.hid (by rw [HS.out]; unfold bookT; rw [if_pos hpl])
          rw [hpl] at q0
          go_wp2
          go_roundg (gk - 1)
          case measure => omega
          case rel => exact ⟨k + 1, by omega, by go_num, by rw [HE.out]; exact HO.out, HB.out⟩
        · have HAC := Lib.hid (fun W => ldActive_any t W)
          unfold tsC at HAC
          rw [hpl] at HAC
          go_wp2_with fail
          refine (HAC.out _).mono ?_
          rintro r wn ⟨rfl, hbn⟩
          clear HAC
          replace HO := Lib.hid (own_below HO.out hbn fun j hj => (HO.out.lt j hj).2)
          replace HB := Lib.hid (HB.out.trans (hbn.mono HB.out.size))
          replace hA := hA.below hbn hA.lt
          replace hBk := hBk.below hbn hBk.lt
          clear hbn
          replace p0 := hA.cell' (i := 0) (v := .int .i64 de.load) rfl
          replace p1 := hA.cell' (i := 1) (v := .int .i64 de.shadow) rfl
          replace q0 := hBk.cell' (i := 0) (v := .bool t.placed) rfl
          replace q1 := hBk.cell' (i := 1) (v := .bool t.shed) rfl
          replace q2 := hBk.cell' (i := 2) (v := .int .i64 t.home) rfl
          replace q3 := hBk.cell' (i := 3) (v := .int .i64 t.standby) rfl
          replace q4 := hBk.cell' (i := 4) (v := .int .i64 t.next) rfl
          replace q5 := hBk.cell' (i := 5) (v := .int .i64 t.target) rfl
          replace q6 := hBk.cell' (i := 6) (v := .int .i64 t.epoch) rfl
          replace q7 := hBk.cell' (i := 7) (v := .int .i64 t.win.cell) rfl
          replace q8 := hBk.cell' (i := 8) (v := .int .i64 t.win.epoch) rfl
          replace q9 := hBk.cell' (i := 9) (v := .int .i64 t.win.version) rfl
          replace q10 := hBk.cell' (i := 10) (v := .int .i64 t.win.since) rfl
          replace q11 := hBk.cell' (i := 11) (v := .int .i64 t.win.till) rfl
          cases hsh : t.shed
          · have HE : Hid (bookK c s (k + 1) = addAt (addAt (addAt (addAt (bookK c s k) t.home de.load) t.target de.load) t.standby de.shadow) t.next de.shadow) := Lib.hid (by rw [HS.out]; unfold bookT; rw [if_neg (by simp [hpl]), if_neg (by simp [hsh])])
            have hw1 := hw0.add (n := de.load) (by omega) t.home
            have hw2 := hw1.add (n := de.load) (by omega) t.target
            have hw3 := hw2.add (n := de.shadow) (by omega) t.standby
            go_wp2_with fail
            refine (ldAdd2 c.cells.length W.heap.size (some ⟨W.heap.size, 0, none⟩) c.cells.length (bookK c s k) t.home de.load _ (by (try simp only [addAt_len]); exact bookK_len _ _ _) (by omega) HO.out (by intro z hz; have := hw0 z hz; omega) (by omega) (by omega)).mono ?_
            rintro r wn ⟨rfl, hOn, hgn⟩
            replace HB := Lib.hid (HB.out.grown hgn HB.out.size (by rintro _ ⟨⟩; exact Nat.le_refl _))
            replace HO := Lib.hid hOn
            replace hA := hA.grown hgn (by intro q; have q2 : ga = W.heap.size := Option.some.inj q; omega)
            replace hBk := hBk.grown hgn (by intro q; have q2 : gb = W.heap.size := Option.some.inj q; omega)
            clear hOn hgn
            replace p0 := hA.cell' (i := 0) (v := .int .i64 de.load) rfl
            replace p1 := hA.cell' (i := 1) (v := .int .i64 de.shadow) rfl
            replace q0 := hBk.cell' (i := 0) (v := .bool t.placed) rfl
            replace q1 := hBk.cell' (i := 1) (v := .bool t.shed) rfl
            replace q2 := hBk.cell' (i := 2) (v := .int .i64 t.home) rfl
            replace q3 := hBk.cell' (i := 3) (v := .int .i64 t.standby) rfl
            replace q4 := hBk.cell' (i := 4) (v := .int .i64 t.next) rfl
            replace q5 := hBk.cell' (i := 5) (v := .int .i64 t.target) rfl
            replace q6 := hBk.cell' (i := 6) (v := .int .i64 t.epoch) rfl
            replace q7 := hBk.cell' (i := 7) (v := .int .i64 t.win.cell) rfl
            replace q8 := hBk.cell' (i := 8) (v := .int .i64 t.win.epoch) rfl
            replace q9 := hBk.cell' (i := 9) (v := .int .i64 t.win.version) rfl
            replace q10 := hBk.cell' (i := 10) (v := .int .i64 t.win.since) rfl
            replace q11 := hBk.cell' (i := 11) (v := .int .i64 t.win.till) rfl
            go_wp2_with fail
            refine (ldAdd2 c.cells.length W.heap.size (some ⟨W.heap.size, 0, none⟩) c.cells.length (addAt (bookK c s k) t.home de.load) t.target de.load _ (by (try simp only [addAt_len]); exact bookK_len _ _ _) (by omega) HO.out (by intro z hz; have := hw1 z hz; omega) (by omega) (by omega)).mono ?_
            rintro r wn ⟨rfl, hOn, hgn⟩
            replace HB := Lib.hid (HB.out.grown hgn HB.out.size (by rintro _ ⟨⟩; exact Nat.le_refl _))
            replace HO := Lib.hid hOn
            replace hA := hA.grown hgn (by intro q; have q2 : ga = W.heap.size := Option.some.inj q; omega)
            replace hBk := hBk.grown hgn (by intro q; have q2 : gb = W.heap.size := Option.some.inj q; omega)
            clear hOn hgn
            replace p0 := hA.cell' (i := 0) (v := .int .i64 de.load) rfl
            replace p1 := hA.cell' (i := 1) (v := .int .i64 de.shadow) rfl
            replace q0 := hBk.cell' (i := 0) (v := .bool t.placed) rfl
            replace q1 := hBk.cell' (i := 1) (v := .bool t.shed) rfl
            replace q2 := hBk.cell' (i := 2) (v := .int .i64 t.home) rfl
            replace q3 := hBk.cell' (i := 3) (v := .int .i64 t.standby) rfl
            replace q4 := hBk.cell' (i := 4) (v := .int .i64 t.next) rfl
            replace q5 := hBk.cell' (i := 5) (v := .int .i64 t.target) rfl
            replace q6 := hBk.cell' (i := 6) (v := .int .i64 t.epoch) rfl
            replace q7 := hBk.cell' (i := 7) (v := .int .i64 t.win.cell) rfl
            replace q8 := hBk.cell' (i := 8) (v := .int .i64 t.win.epoch) rfl
            replace q9 := hBk.cell' (i := 9) (v := .int .i64 t.win.version) rfl
            replace q10 := hBk.cell' (i := 10) (v := .int .i64 t.win.since) rfl
            replace q11 := hBk.cell' (i := 11) (v := .int .i64 t.win.till) rfl
            go_wp2_with fail
            refine (ldAdd2 c.cells.length W.heap.size (some ⟨W.heap.size, 0, none⟩) c.cells.length (addAt (addAt (bookK c s k) t.home de.load) t.target de.load) t.standby de.shadow _ (by (try simp only [addAt_len]); exact bookK_len _ _ _) (by omega) HO.out (by intro z hz; have := hw2 z hz; omega) (by omega) (by omega)).mono ?_
            rintro r wn ⟨rfl, hOn, hgn⟩
            replace HB := Lib.hid (HB.out.grown hgn HB.out.size (by rintro _ ⟨⟩; exact Nat.le_refl _))
            replace HO := Lib.hid hOn
            replace hA := hA.grown hgn (by intro q; have q2 : ga = W.heap.size := Option.some.inj q; omega)
            replace hBk := hBk.grown hgn (by intro q; have q2 : gb = W.heap.size := Option.some.inj q; omega)
            clear hOn hgn
            replace p0 := hA.cell' (i := 0) (v := .int .i64 de.load) rfl
            replace p1 := hA.cell' (i := 1) (v := .int .i64 de.shadow) rfl
            replace q0 := hBk.cell' (i := 0) (v := .bool t.placed) rfl
            replace q1 := hBk.cell' (i := 1) (v := .bool t.shed) rfl
            replace q2 := hBk.cell' (i := 2) (v := .int .i64 t.home) rfl
            replace q3 := hBk.cell' (i := 3) (v := .int .i64 t.standby) rfl
            replace q4 := hBk.cell' (i := 4) (v := .int .i64 t.next) rfl
            replace q5 := hBk.cell' (i := 5) (v := .int .i64 t.target) rfl
            replace q6 := hBk.cell' (i := 6) (v := .int .i64 t.epoch) rfl
            replace q7 := hBk.cell' (i := 7) (v := .int .i64 t.win.cell) rfl
            replace q8 := hBk.cell' (i := 8) (v := .int .i64 t.win.epoch) rfl
            replace q9 := hBk.cell' (i := 9) (v := .int .i64 t.win.version) rfl
            replace q10 := hBk.cell' (i := 10) (v := .int .i64 t.win.since) rfl
            replace q11 := hBk.cell' (i := 11) (v := .int .i64 t.win.till) rfl
            go_wp2_with fail
            refine (ldAdd2 c.cells.length W.heap.size (some ⟨W.heap.size, 0, none⟩) c.cells.length (addAt (addAt (addAt (bookK c s k) t.home de.load) t.target de.load) t.standby de.shadow) t.next de.shadow _ (by (try simp only [addAt_len]); exact bookK_len _ _ _) (by omega) HO.out (by intro z hz; have := hw3 z hz; omega) (by omega) (by omega)).mono ?_
            rintro r wn ⟨rfl, hOn, hgn⟩
            replace HB := Lib.hid (HB.out.grown hgn HB.out.size (by rintro _ ⟨⟩; exact Nat.le_refl _))
            replace HO := Lib.hid hOn
            replace hA := hA.grown hgn (by intro q; have q2 : ga = W.heap.size := Option.some.inj q; omega)
            replace hBk := hBk.grown hgn (by intro q; have q2 : gb = W.heap.size := Option.some.inj q; omega)
            clear hOn hgn
            replace p0 := hA.cell' (i := 0) (v := .int .i64 de.load) rfl
            replace p1 := hA.cell' (i := 1) (v := .int .i64 de.shadow) rfl
            replace q0 := hBk.cell' (i := 0) (v := .bool t.placed) rfl
            replace q1 := hBk.cell' (i := 1) (v := .bool t.shed) rfl
            replace q2 := hBk.cell' (i := 2) (v := .int .i64 t.home) rfl
            replace q3 := hBk.cell' (i := 3) (v := .int .i64 t.standby) rfl
            replace q4 := hBk.cell' (i := 4) (v := .int .i64 t.next) rfl
            replace q5 := hBk.cell' (i := 5) (v := .int .i64 t.target) rfl
            replace q6 := hBk.cell' (i := 6) (v := .int .i64 t.epoch) rfl
            replace q7 := hBk.cell' (i := 7) (v := .int .i64 t.win.cell) rfl
            replace q8 := hBk.cell' (i := 8) (v := .int .i64 t.win.epoch) rfl
            replace q9 := hBk.cell' (i := 9) (v := .int .i64 t.win.version) rfl
            replace q10 := hBk.cell' (i := 10) (v := .int .i64 t.win.since) rfl
            replace q11 := hBk.cell' (i := 11) (v := .int .i64 t.win.till) rfl
            go_wp2
            go_roundg (gk - 1)
            case measure => omega
            case rel => exact ⟨k + 1, by omega, by go_num, by rw [HE.out]; exact HO.out, HB.out⟩
          · have HE : Hid (bookK c s (k + 1) = addAt (addAt (bookK c s k) t.standby de.shadow) t.next de.shadow) := Lib.hid (by rw [HS.out]; unfold bookT; rw [if_neg (by simp [hpl]), if_pos hsh])
            have hw1 := hw0.add (n := de.shadow) (by omega) t.standby
            go_wp2_with fail
            refine (ldAdd2 c.cells.length W.heap.size (some ⟨W.heap.size, 0, none⟩) c.cells.length (bookK c s k) t.standby de.shadow _ (by (try simp only [addAt_len]); exact bookK_len _ _ _) (by omega) HO.out (by intro z hz; have := hw0 z hz; omega) (by omega) (by omega)).mono ?_
            rintro r wn ⟨rfl, hOn, hgn⟩
            replace HB := Lib.hid (HB.out.grown hgn HB.out.size (by rintro _ ⟨⟩; exact Nat.le_refl _))
            replace HO := Lib.hid hOn
            replace hA := hA.grown hgn (by intro q; have q2 : ga = W.heap.size := Option.some.inj q; omega)
            replace hBk := hBk.grown hgn (by intro q; have q2 : gb = W.heap.size := Option.some.inj q; omega)
            clear hOn hgn
            replace p0 := hA.cell' (i := 0) (v := .int .i64 de.load) rfl
            replace p1 := hA.cell' (i := 1) (v := .int .i64 de.shadow) rfl
            replace q0 := hBk.cell' (i := 0) (v := .bool t.placed) rfl
            replace q1 := hBk.cell' (i := 1) (v := .bool t.shed) rfl
            replace q2 := hBk.cell' (i := 2) (v := .int .i64 t.home) rfl
            replace q3 := hBk.cell' (i := 3) (v := .int .i64 t.standby) rfl
            replace q4 := hBk.cell' (i := 4) (v := .int .i64 t.next) rfl
            replace q5 := hBk.cell' (i := 5) (v := .int .i64 t.target) rfl
            replace q6 := hBk.cell' (i := 6) (v := .int .i64 t.epoch) rfl
            replace q7 := hBk.cell' (i := 7) (v := .int .i64 t.win.cell) rfl
            replace q8 := hBk.cell' (i := 8) (v := .int .i64 t.win.epoch) rfl
            replace q9 := hBk.cell' (i := 9) (v := .int .i64 t.win.version) rfl
            replace q10 := hBk.cell' (i := 10) (v := .int .i64 t.win.since) rfl
            replace q11 := hBk.cell' (i := 11) (v := .int .i64 t.win.till) rfl
            go_wp2_with fail
            refine (ldAdd2 c.cells.length W.heap.size (some ⟨W.heap.size, 0, none⟩) c.cells.length (addAt (bookK c s k) t.standby de.shadow) t.next de.shadow _ (by (try simp only [addAt_len]); exact bookK_len _ _ _) (by omega) HO.out (by intro z hz; have := hw1 z hz; omega) (by omega) (by omega)).mono ?_
            rintro r wn ⟨rfl, hOn, hgn⟩
            replace HB := Lib.hid (HB.out.grown hgn HB.out.size (by rintro _ ⟨⟩; exact Nat.le_refl _))
            replace HO := Lib.hid hOn
            replace hA := hA.grown hgn (by intro q; have q2 : ga = W.heap.size := Option.some.inj q; omega)
            replace hBk := hBk.grown hgn (by intro q; have q2 : gb = W.heap.size := Option.some.inj q; omega)
            clear hOn hgn
            replace p0 := hA.cell' (i := 0) (v := .int .i64 de.load) rfl
            replace p1 := hA.cell' (i := 1) (v := .int .i64 de.shadow) rfl
            replace q0 := hBk.cell' (i := 0) (v := .bool t.placed) rfl
            replace q1 := hBk.cell' (i := 1) (v := .bool t.shed) rfl
            replace q2 := hBk.cell' (i := 2) (v := .int .i64 t.home) rfl
            replace q3 := hBk.cell' (i := 3) (v := .int .i64 t.standby) rfl
            replace q4 := hBk.cell' (i := 4) (v := .int .i64 t.next) rfl
            replace q5 := hBk.cell' (i := 5) (v := .int .i64 t.target) rfl
            replace q6 := hBk.cell' (i := 6) (v := .int .i64 t.epoch) rfl
            replace q7 := hBk.cell' (i := 7) (v := .int .i64 t.win.cell) rfl
            replace q8 := hBk.cell' (i := 8) (v := .int .i64 t.win.epoch) rfl
            replace q9 := hBk.cell' (i := 9) (v := .int .i64 t.win.version) rfl
            replace q10 := hBk.cell' (i := 10) (v := .int .i64 t.win.since) rfl
            replace q11 := hBk.cell' (i := 11) (v := .int .i64 t.win.till) rfl
            go_wp2
            go_roundg (gk - 1)
            case measure => omega
            case rel => exact ⟨k + 1, by omega, by go_num, by rw [HE.out]; exact HO.out, HB.out⟩
    · have hge : ¬ (k : Int) < (s.tenants.length : Int) := by omega
      obtain rfl : k = s.tenants.length := by omega
      have HE : Hid (bookK c s s.tenants.length = booked c s) := Lib.hid (bookK_all c s (Nat.le_refl _))
      have HEL : Hid ((booked c s).length = c.cells.length) := Lib.hid (by rw [← HE.out]; exact bookK_len _ _ _)
      go_wp2
      go_ret
      refine ⟨some ⟨W.heap.size, 0, none⟩, c.cells.length, ?_, ?_, HL.out.trans (HB.out.mono (Nat.le_of_lt hgc))⟩
      · rw [HEL.out]; rfl
      · rw [HEL.out, ← HE.out]
        exact own_base HO.out (Nat.le_of_lt hgc)
end Go.Proofs.Ytjobcfpnmfjlfaa

namespace Go.Proofs.Ytjobcfpnmfjlfaa
open Go.RowKit
set_option linter.unusedSimpArgs false
set_option linter.unusedVariables false

def overP (c : Cfg) (s : St) (k : Nat) : Bool := decide ((c.cells.getD k (0, 0)).2 < (booked c s).getD k 0)
theorem over_pick (c : Cfg) (s : St) : over c s = pickK (overP c s) c.cells.length := rfl
theorem booked_len (c : Cfg) (s : St) : (booked c s).length = c.cells.length := by rw [← bookK_all c s (Nat.le_refl _)]; exact bookK_len _ _ _

set_option maxHeartbeats 4000000 in
set_option maxRecDepth 100000 in
theorem ldOver_any (x : CfgA) (c : Cfg) (y : StA) (s : St) (w : World) (hV : CfgV c) (hc : CfgOk w (· < w.heap.size) x c) (hI : StInv c s) (hs : StOk w (· < w.heap.size) y s) :
    Calls Try.prog 31 #[.agg (cfgC x c), .agg (stC y s)] w (IntsPost w (over c s)) := by
  rw [over_pick]
  obtain ⟨ii, hii, hi0, hi1, hi2⟩ := info_parts r5intInfo
  have hnc := hV.nc
  have hntt := hV.nt
  have hbl := booked_len c s
  obtain ⟨az, cz, ac, cc, at_, ct, av, cv, ar, cr, ao, co⟩ := x
  have HV := Lib.hid hV
  have HKc := Lib.hid hc
  clear hV hc
  obtain ⟨sat, sct, sac, scc⟩ := y
  have HKs := Lib.hid hs
  have hsl : 1 ≤ s.cells.length ∧ s.cells.length ≤ 16 := by have := hI.lc; omega
  have hst : s.tenants.length ≤ 32 := by have := hI.lt; omega
  have HI := Lib.hid hI
  clear hs hI
  obtain ⟨pd, hpd⟩ : ∃ pd : Nat → Bool, pd = overP c s := ⟨_, rfl⟩
  have HP := Lib.hid hpd
  rw [← hpd]
  clear hpd
  have hL : Below w.heap.size w ((w.alloc (.cells #[.int .i64 c.regions, .slice az c.zones.length cz, .slice ac c.cells.length cc, .slice at_ c.tenants.length ct, .slice av c.versions.length cv, .slice ar c.replicas.length cr, .slice ao c.observers.length co, .int .i64 c.blast, .int .i64 c.lease, .int .i64 c.bake] 30)).alloc (.cells #[.int .i64 s.tick, .int .i64 s.count, .slice sat s.tenants.length sct, .slice sac s.cells.length scc, .int .i64 s.proven, .int .i64 s.evac, .int .i64 s.low, .int .i64 s.high] 36)) := (((Below.refl w.heap.size w).alloc (by simp <;> omega) (.cells #[.int .i64 c.regions, .slice az c.zones.length cz, .slice ac c.cells.length cc, .slice at_ c.tenants.length ct, .slice av c.versions.length cv, .slice ar c.replicas.length cr, .slice ao c.observers.length co, .int .i64 c.blast, .int .i64 c.lease, .int .i64 c.bake] 30)).alloc (by simp <;> omega) (.cells #[.int .i64 s.tick, .int .i64 s.count, .slice sat s.tenants.length sct, .slice sac s.cells.length scc, .int .i64 s.proven, .int .i64 s.evac, .int .i64 s.low, .int .i64 s.high] 36))
  have hBc : Blk ((w.alloc (.cells #[.int .i64 c.regions, .slice az c.zones.length cz, .slice ac c.cells.length cc, .slice at_ c.tenants.length ct, .slice av c.versions.length cv, .slice ar c.replicas.length cr, .slice ao c.observers.length co, .int .i64 c.blast, .int .i64 c.lease, .int .i64 c.bake] 30)).alloc (.cells #[.int .i64 s.tick, .int .i64 s.count, .slice sat s.tenants.length sct, .slice sac s.cells.length scc, .int .i64 s.proven, .int .i64 s.evac, .int .i64 s.low, .int .i64 s.high] 36)) (w.heap.size) 30 #[.int .i64 c.regions, .slice az c.zones.length cz, .slice ac c.cells.length cc, .slice at_ c.tenants.length ct, .slice av c.versions.length cv, .slice ar c.replicas.length cr, .slice ao c.observers.length co, .int .i64 c.blast, .int .i64 c.lease, .int .i64 c.bake] := by
    have := ((Blk.new w 30 #[.int .i64 c.regions, .slice az c.zones.length cz, .slice ac c.cells.length cc, .slice at_ c.tenants.length ct, .slice av c.versions.length cv, .slice ar c.replicas.length cr, .slice ao c.observers.length co, .int .i64 c.blast, .int .i64 c.lease, .int .i64 c.bake]).alloc (.cells #[.int .i64 s.tick, .int .i64 s.count, .slice sat s.tenants.length sct, .slice sac s.cells.length scc, .int .i64 s.proven, .int .i64 s.evac, .int .i64 s.low, .int .i64 s.high] 36))
    simpa using this
  have hBs : Blk ((w.alloc (.cells #[.int .i64 c.regions, .slice az c.zones.length cz, .slice ac c.cells.length cc, .slice at_ c.tenants.length ct, .slice av c.versions.length cv, .slice ar c.replicas.length cr, .slice ao c.observers.length co, .int .i64 c.blast, .int .i64 c.lease, .int .i64 c.bake] 30)).alloc (.cells #[.int .i64 s.tick, .int .i64 s.count, .slice sat s.tenants.length sct, .slice sac s.cells.length scc, .int .i64 s.proven, .int .i64 s.evac, .int .i64 s.low, .int .i64 s.high] 36)) (w.heap.size + 1) 36 #[.int .i64 s.tick, .int .i64 s.count, .slice sat s.tenants.length sct, .slice sac s.cells.length scc, .int .i64 s.proven, .int .i64 s.evac, .int .i64 s.low, .int .i64 s.high] := by
    have := (Blk.new (w.alloc (.cells #[.int .i64 c.regions, .slice az c.zones.length cz, .slice ac c.cells.length cc, .slice at_ c.tenants.length ct, .slice av c.versions.length cv, .slice ar c.replicas.length cr, .slice ao c.observers.length co, .int .i64 c.blast, .int .i64 c.lease, .int .i64 c.bake] 30)) 36 #[.int .i64 s.tick, .int .i64 s.count, .slice sat s.tenants.length sct, .slice sac s.cells.length scc, .int .i64 s.proven, .int .i64 s.evac, .int .i64 s.low, .int .i64 s.high])
    simpa using this
  unfold cfgC stC
  simp only
  go_enter Try.func31, Try.ntmps31
  go_upto_region 1 with fail
  generalize (w.alloc _).alloc _ = W at *
  have hgc := hBc.lt
  have d0 := hBc.cell' (i := 0) (v := .int .i64 c.regions) rfl
  have d1 := hBc.cell' (i := 1) (v := .slice az c.zones.length cz) rfl
  have d2 := hBc.cell' (i := 2) (v := .slice ac c.cells.length cc) rfl
  have d3 := hBc.cell' (i := 3) (v := .slice at_ c.tenants.length ct) rfl
  have d4 := hBc.cell' (i := 4) (v := .slice av c.versions.length cv) rfl
  have d5 := hBc.cell' (i := 5) (v := .slice ar c.replicas.length cr) rfl
  have d6 := hBc.cell' (i := 6) (v := .slice ao c.observers.length co) rfl
  have d7 := hBc.cell' (i := 7) (v := .int .i64 c.blast) rfl
  have d8 := hBc.cell' (i := 8) (v := .int .i64 c.lease) rfl
  have d9 := hBc.cell' (i := 9) (v := .int .i64 c.bake) rfl
  clear hBc
  have hgs := hBs.lt
  have su0 := hBs.cell' (i := 0) (v := .int .i64 s.tick) rfl
  have su1 := hBs.cell' (i := 1) (v := .int .i64 s.count) rfl
  have su2 := hBs.cell' (i := 2) (v := .slice sat s.tenants.length sct) rfl
  have su3 := hBs.cell' (i := 3) (v := .slice sac s.cells.length scc) rfl
  have su4 := hBs.cell' (i := 4) (v := .int .i64 s.proven) rfl
  have su5 := hBs.cell' (i := 5) (v := .int .i64 s.evac) rfl
  have su6 := hBs.cell' (i := 6) (v := .int .i64 s.low) rfl
  have su7 := hBs.cell' (i := 7) (v := .int .i64 s.high) rfl
  clear hBs
  have HL := Lib.hid hL
  have HWc := Lib.hid (HKc.out.belowW hL)
  have HWs := Lib.hid (HKs.out.belowW hL)
  clear hL
  have HBK := Lib.hid (ldBooked_any ⟨az, cz, ac, cc, at_, ct, av, cv, ar, cr, ao, co⟩ c ⟨sat, sct, sac, scc⟩ s W HV.out HWc.out HI.out HWs.out)
  go_wp2_with fail
  refine HBK.out.mono ?_
  rintro r w1 ⟨A1, cp1, rfl, hO1, hb1⟩
  rw [hbl] at hO1 ⊢
  have hlt1 : W.heap.size < w1.heap.size ∨ True := .inr trivial
  have HWc1 := Lib.hid (HWc.out.belowW hb1)
  have HL1 := Lib.hid (HL.out.trans (hb1.mono HL.out.size))
  replace d0 : w1.cell? ⟨w.heap.size, 0, none⟩ = some (.int .i64 c.regions) := (hb1.cell (p := ⟨w.heap.size, 0, none⟩) hgc).trans d0
  replace d1 : w1.cell? ⟨w.heap.size, 1, none⟩ = some (.slice az c.zones.length cz) := (hb1.cell (p := ⟨w.heap.size, 1, none⟩) hgc).trans d1
  replace d2 : w1.cell? ⟨w.heap.size, 2, none⟩ = some (.slice ac c.cells.length cc) := (hb1.cell (p := ⟨w.heap.size, 2, none⟩) hgc).trans d2
  replace d3 : w1.cell? ⟨w.heap.size, 3, none⟩ = some (.slice at_ c.tenants.length ct) := (hb1.cell (p := ⟨w.heap.size, 3, none⟩) hgc).trans d3
  replace d4 : w1.cell? ⟨w.heap.size, 4, none⟩ = some (.slice av c.versions.length cv) := (hb1.cell (p := ⟨w.heap.size, 4, none⟩) hgc).trans d4
  replace d5 : w1.cell? ⟨w.heap.size, 5, none⟩ = some (.slice ar c.replicas.length cr) := (hb1.cell (p := ⟨w.heap.size, 5, none⟩) hgc).trans d5
  replace d6 : w1.cell? ⟨w.heap.size, 6, none⟩ = some (.slice ao c.observers.length co) := (hb1.cell (p := ⟨w.heap.size, 6, none⟩) hgc).trans d6
  replace d7 : w1.cell? ⟨w.heap.size, 7, none⟩ = some (.int .i64 c.blast) := (hb1.cell (p := ⟨w.heap.size, 7, none⟩) hgc).trans d7
  replace d8 : w1.cell? ⟨w.heap.size, 8, none⟩ = some (.int .i64 c.lease) := (hb1.cell (p := ⟨w.heap.size, 8, none⟩) hgc).trans d8
  replace d9 : w1.cell? ⟨w.heap.size, 9, none⟩ = some (.int .i64 c.bake) := (hb1.cell (p := ⟨w.heap.size, 9, none⟩) hgc).trans d9
  replace hgc : w.heap.size < w1.heap.size := Nat.lt_of_lt_of_le hgc hb1.size
  have HO1 := Lib.hid hO1
  clear HBK hO1 hb1 su0 su1 su2 su3 su4 su5 su6 su7 hgs HWc HWs HL hlt1
  generalize hbk : booked c s = bk at *
  have HBKE := Lib.hid hbk
  clear hbk
  go_wp2
  go_loopg [5, 12] c.cells.length (fun gk so si wr => r5HomesRel w1 pd c.cells.length gk so si wr)
  case atStart => exact ⟨0, none, 0, by omega, rfl, rfl, World.ownsRow_nil _ _ _ _, Below.refl _ _⟩
  case round =>
    rename_i J K aJ aK
    obtain ⟨k, A, cp, hgk, rfl, rfl, hown, hbel⟩ := hrel
    have HO := Lib.hid hown
    have HB := Lib.hid hbel
    have hsz := hbel.size
    have hlen := pickK_len pd k
    obtain ⟨hc, hf⟩ := bcell hbel
    clear hown hbel hf
    by_cases hk : k < c.cells.length
    · have hlt : (k : Int) < (c.cells.length : Int) := by omega
      have hkb : k < bk.length := by omega
      obtain ⟨b, off, z, rfl, hb, hzz, hcell⟩ := HWc1.out.cells.row (enc := pairC) (sz := 2) (fun _ => rfl) (by omega) hk
      obtain ⟨g1, cap1, hv1, _, hlt1⟩ := HO1.out.form (by omega)
      simp only [Value.slice.injEq, true_and] at hv1
      obtain ⟨rfl, rfl⟩ := hv1
      have c0 := HO1.out.cellAt k (by omega)
      rw [flat_int, List.getElem?_map, List.getElem?_eq_getElem hkb] at c0
      simp only [Option.map_some] at c0
      have hbW : b < w1.heap.size := hb
      have e1 := hcell 1 (.int .i64 z.2) rfl
      have HPK : Hid (pd k = decide (z.2 < bk[k])) := Lib.hid (by rw [HP.out]; unfold overP; rw [getD_some hzz, HBKE.out, getD_some (List.getElem?_eq_getElem hkb)])
      have HS := Lib.hid (pickK_succ pd k)
      generalize bk[k] = m at *
      clear hcell hzz hb
      by_cases hp : pd k = true
      · have hp2 : z.2 < m := by have := HPK.out; rw [hp] at this; simpa using this.symm
        go_wp2_with (at_builtin; refine wpList_append_lies _ rfl _ _ _ rfl w1.heap.size 3 ii _ 1 8 Try.underlying22 hii hi0 hi1 hi2 rfl (by omega) _ (pickK pd k).length (flat intC (pickK pd k)) rfl (HO.out.alloc _) ⟨wr.heap.size, 0, none⟩ 1 1 [.int .i64 k] rfl rfl ?c1 ?c2 ?c0 ?c3 ?c4 ?c5 (wr.heap.size + 1) ?c6 ?_)
        case c1 => exact World.news_of_block (cs := #[.int .i64 k]) (heap_alloc_new _ _)
        case c2 => simp [Value.oneCell']
        case c0 => omega
        case c3 => unfold maxLen; omega
        case c4 => omega
        case c5 => have := HB.out.size; simp; omega
        case c6 => simp
        intro gg cq w9 hown9 hg9 hat9 hlt9
        have HB9 := Lib.hid ((HB.out.alloc HB.out.size _).grown hg9 (by have := HB.out.size; simp; omega) (fun j hj => (HO.out.lt j hj).1))
        have HX : Hid (w9.ownsRow w1.heap.size 3 1 (.slice (some ⟨gg, 0, none⟩) (pickK pd (k + 1)).length cq) (pickK pd (k + 1)).length (flat intC (pickK pd (k + 1)))) := by
          refine Lib.hid ?_; rw [HS.out, if_pos hp, ← flat_snoc5, List.length_append]; exact hown9
        have hl9 : (pickK pd (k + 1)).length = (pickK pd k).length + 1 := by rw [HS.out, if_pos hp, List.length_append]; rfl
        have HL9 := Lib.hid hl9
        clear hown9 hg9 hat9 hlt9 HB hl9 hc
        go_wp2
        go_roundg (gk - 1)
        case measure => omega
        case rel => exact ⟨k + 1, some ⟨gg, 0, none⟩, cq, by omega, by go_num, by rw [HL9.out], HX.out, HB9.out⟩
      · have hp : pd k = false := by simpa using hp
        have hp2 : m ≤ z.2 := by have := HPK.out; rw [hp] at this; simpa using this.symm
        have HX : Hid (wr.ownsRow w1.heap.size 3 1 (.slice A (pickK pd (k + 1)).length cp) (pickK pd (k + 1)).length (flat intC (pickK pd (k + 1)))) := by
          refine Lib.hid ?_; rw [HS.out, if_neg (by simp [hp])]; exact HO.out
        have hl9 : (pickK pd (k + 1)).length = (pickK pd k).length := by rw [HS.out, if_neg (by simp [hp])]
        have HL9 := Lib.hid hl9
        clear hl9
        go_wp2
        go_roundg (gk - 1)
        case measure => omega
        case rel => exact ⟨k + 1, A, cp, by omega, by go_num, by rw [HL9.out], HX.out, HB.out⟩
    · have hge : ¬ (k : Int) < (c.cells.length : Int) := by omega
      obtain rfl : k = c.cells.length := by omega
      go_wp2
      go_ret
      exact ⟨A, cp, rfl, own_base HO.out (Nat.le_of_lt hgc), HL1.out.trans (HB.out.mono (Nat.le_of_lt hgc))⟩
end Go.Proofs.Ytjobcfpnmfjlfaa
