import Derived.Test.YtjobcfpnmfjlfaaGreatPa15
namespace Go.Proofs.YtjobcfpnmfjlfaaGreat
open Go.RowKit
set_option linter.unusedSimpArgs false
set_option linter.unusedVariables false

/-! make.Entries: any entries. -/
def enF : FT := [(20, ctTapeNew), (36, ctNewR), (37, ctMore), (19, ctEntry), (33, ctNext), (21, ctApplyR)]
theorem enFok : FTok Tryz.prog enF := ft_cons tapeNewOk (ft_cons newROk (ft_cons moreOk (ft_cons entryOk (ft_cons nextOk (ft_cons applyROk ft_nil)))))
def enD : List (Nat × DQ) := [(3000004, { k := 21, L := [0, 1, 2, 3, 4, 5, 6, 7, 8, 9, 10, 11, 12, 13], sl := [2, 4, 7, 8] })]
set_option maxRecDepth 100000 in
set_option maxHeartbeats 8000000 in
theorem entries_sx (d : UD) (x : CfgK) (cap0 : Nat) (n : Int) (hV : CfgV d.c) (hz : d.l0.length ≤ 400) (hn : 0 ≤ n ∧ n ≤ 1000) :
    sx tt enF enD (bodyOf Tryz.f26) (argF 0 [slc 0 d.l0.length cap0, cfgV CNu x d.c, .int .i64 n]) (uniM d) 13 (endx tt Tryz.f26.results.toList fun v mem' _ => ∃ es s, RInv d.c s ∧ (es.length : Int) ≤ n ∧ SlR mem' 9 entC default es v ∧ LenCap es.length v) := by
  have hnt := hV.nt
  have hnc := hV.nc
  refine ⟨0, cap0, d.l0, rfl, rfl, by omega, ?_⟩
  refine ⟨CNu, x, d.c, rfl, (by repeat (first | exact trivial | refine ⟨rfl, ?_⟩)), ⟨by omega, by omega, by omega⟩, ?_⟩
  intro y0
  refine ⟨St × StK × Int × List Ent × Option (Nat × (Nat → List Value)), fun q => match q with | (s, y, k, es, none) => [(9, zs0)] | (s, y, k, es, some (cap, el)) => [(9, slc 20 es.length cap)], fun q => match q with | (s, y, k, es, none) => [(14, tapeB 0 d.l0.length cap0 k), (17, .box 38 [.int .i64 s.tick, .int .i64 s.count, slc 18 s.tenants.length y.ct, slc 19 s.cells.length y.cc, .int .i64 s.proven, .int .i64 s.evac, .int .i64 s.low, .int .i64 s.high]), (18, rowOfL 500000 12 tsC default s.tenants), (19, rowOfL 500000 4 csC default s.cells)] | (s, y, k, es, some (cap, el)) => (20, .row (1000000 + 45) 9 cap el) :: [(14, tapeB 0 d.l0.length cap0 k), (17, .box 38 [.int .i64 s.tick, .int .i64 s.count, slc 18 s.tenants.length y.ct, slc 19 s.cells.length y.cc, .int .i64 s.proven, .int .i64 s.evac, .int .i64 s.low, .int .i64 s.high]), (18, rowOfL 500000 12 tsC default s.tenants), (19, rowOfL 500000 4 csC default s.cells)], fun q => match q with | (s, y, k, es, o) => RInv d.c s ∧ (0 ≤ k ∧ k ≤ 445) ∧ (es.length : Int) ≤ n ∧ match o with | none => es = [] | some (cap, el) => es.length ≤ cap ∧ ∀ j, j < es.length → el j = entC (es.getD j default), fun q => match q with | (s, y, k, es, o) => (1000 - k).toNat, ⟨(stNew d.c, y0, 0, [], none), [(18, 16), (19, 15)], ⟨.new hV, by omega, by simpa using hn.1, rfl⟩, ⟨rfl, rfl⟩, (by repeat (first | exact trivial | refine ⟨rfl, ?_⟩)), (by repeat (first | exact trivial | refine ⟨rfl, ?_⟩))⟩, ?_⟩
  rintro ⟨s, y, k, es, (_ | ⟨cap, el⟩)⟩ ⟨hR, hk, hn2, ho⟩
  · refine ⟨⟨by decide, rfl, rfl⟩, ?_⟩
    refine ⟨fun hc => ?_, fun hc => ?_⟩
    · refine ⟨14, 0, cap0, d.l0, _, [], rfl, ⟨rfl, rfl⟩, ⟨by omega, by omega, by omega⟩, rfl, ?_⟩
      rintro _ k1 ⟨b1, rfl, rfl, hb1⟩
      refine ⟨fun hb => ?_, fun hb => ?_⟩
      · have hkl := hb1 hb
        have hlen : (es.length : Int) < n := by rw [show es = [] from ho]; exact of_decide_eq_true hc
        clear hb1
        have hI := hR.inv
        have hcp := hR.cap
        refine ⟨14, 0, cap0, d.l0, _, CNu, x, d.c, ⟨18, 19, 500000⟩, y, s, [], rfl, ⟨rfl, rfl⟩, (by repeat (first | exact trivial | refine ⟨rfl, ?_⟩)), (by repeat (first | exact trivial | refine ⟨rfl, ?_⟩)), ⟨by omega, by omega, by omega⟩, ⟨⟨hV, hI, by omega⟩, rfl⟩, ?_⟩
        rintro _ k2 ⟨⟨en, rfl⟩, hk2a, hk2b, hk2c⟩
        refine ⟨CNu, x, d.c, ⟨18, 19, 500000⟩, y, s, en, rfl, ⟨(by repeat (first | exact trivial | refine ⟨rfl, ?_⟩)), .list rfl, .list rfl⟩, ⟨hV, hI⟩, ?_⟩
        intro y2
        rw [applyRP hV hI hcp]
        refine ⟨fun he => ?_, fun he => ?_⟩
        · have he2 : applyP d.c s en = ((applyP d.c s en).1, 0) := by
            have q : (applyP d.c s en).2 = 0 := by simpa using he
            rw [← q]
          have he0 : es = [] := ho
          subst he0
          refine ⟨⟨Nat.le_refl _, fun j hj => by match j, hj with | 0, _ => rfl⟩, ?_⟩
          refine ⟨fun h => absurd h (by decide), fun _ => ⟨by decide, fun cap2 el2 hc2 hel2 => ?_⟩⟩
          refine ⟨((applyP d.c s en).1, y2, k2, [en], some (cap2, el2)), [(18, 23), (19, 22), (20, 26)], ?_, ⟨rfl, rfl⟩, (by repeat (first | exact trivial | refine ⟨rfl, ?_⟩)), (by repeat (first | exact trivial | refine ⟨rfl, ?_⟩))⟩
          dsimp only
          refine ⟨⟨hR.step hV he2, by omega, by simp; omega, hc2, fun j hj => ?_⟩, by omega⟩
          obtain rfl : j = 0 := by simpa using hj
          exact hel2 0 (by omega)
        · refine ⟨14, 0, cap0, d.l0, _, _, rfl, ⟨rfl, rfl⟩, ⟨by omega, by omega, by omega⟩, ⟨_, rfl, by omega, by omega⟩, ?_⟩
          rintro _ k3 ⟨_, r3, hnn, rfl, ⟨hr3, hk3⟩⟩
          refine ⟨fun _ => ?_, fun _ => ?_⟩
          · refine ⟨(s, y, k3, es, none), [], ?_, ⟨rfl, rfl⟩, (by repeat (first | exact trivial | refine ⟨rfl, ?_⟩)), (by repeat (first | exact trivial | refine ⟨rfl, ?_⟩))⟩
            dsimp only
            exact ⟨⟨hR, by omega, hn2, ho⟩, by omega⟩
          · have he0 : es = [] := ho
            subst he0
            refine ⟨⟨Nat.le_refl _, fun j hj => by match j, hj with | 0, _ => rfl⟩, ?_⟩
            refine ⟨fun h => absurd h (by decide), fun _ => ⟨by decide, fun cap2 el2 hc2 hel2 => ?_⟩⟩
            refine ⟨(s, y, k3, [en], some (cap2, el2)), [(20, 26)], ?_, ⟨rfl, rfl⟩, (by repeat (first | exact trivial | refine ⟨rfl, ?_⟩)), (by repeat (first | exact trivial | refine ⟨rfl, ?_⟩))⟩
            dsimp only
            refine ⟨⟨hR, by omega, by simp; omega, hc2, fun j hj => ?_⟩, by omega⟩
            obtain rfl : j = 0 := by simpa using hj
            exact hel2 0 (by omega)
      · exact ⟨es, s, hR, hn2, .inl ⟨rfl, ho⟩, none, 0, 0, rfl, (by rw [ho]; decide)⟩
    · refine ⟨fun h => Bool.noConfusion h, fun _ => ?_⟩
      exact ⟨es, s, hR, hn2, .inl ⟨rfl, ho⟩, none, 0, 0, rfl, (by rw [ho]; decide)⟩
  · refine ⟨⟨by decide, rfl, rfl⟩, ?_⟩
    refine ⟨fun hc => ?_, fun hc => ?_⟩
    · refine ⟨14, 0, cap0, d.l0, _, [], rfl, ⟨rfl, rfl⟩, ⟨by omega, by omega, by omega⟩, rfl, ?_⟩
      rintro _ k1 ⟨b1, rfl, rfl, hb1⟩
      refine ⟨fun hb => ?_, fun hb => ?_⟩
      · have hkl := hb1 hb
        have hlen : (es.length : Int) < n := of_decide_eq_true hc
        clear hb1
        have hI := hR.inv
        have hcp := hR.cap
        refine ⟨14, 0, cap0, d.l0, _, CNu, x, d.c, ⟨18, 19, 500000⟩, y, s, [], rfl, ⟨rfl, rfl⟩, (by repeat (first | exact trivial | refine ⟨rfl, ?_⟩)), (by repeat (first | exact trivial | refine ⟨rfl, ?_⟩)), ⟨by omega, by omega, by omega⟩, ⟨⟨hV, hI, by omega⟩, rfl⟩, ?_⟩
        rintro _ k2 ⟨⟨en, rfl⟩, hk2a, hk2b, hk2c⟩
        refine ⟨CNu, x, d.c, ⟨18, 19, 500000⟩, y, s, en, rfl, ⟨(by repeat (first | exact trivial | refine ⟨rfl, ?_⟩)), .list rfl, .list rfl⟩, ⟨hV, hI⟩, ?_⟩
        intro y2
        rw [applyRP hV hI hcp]
        refine ⟨fun he => ?_, fun he => ?_⟩
        · have he2 : applyP d.c s en = ((applyP d.c s en).1, 0) := by
            have q : (applyP d.c s en).2 = 0 := by simpa using he
            rw [← q]
          refine ⟨⟨Nat.le_refl _, fun j hj => by match j, hj with | 0, _ => rfl⟩, ?_⟩
          refine ⟨⟨rfl, ho.1⟩, fun hin el2 g1 g2 => ?_, fun hgt => ⟨by show (es.length + 1) * 72 ≤ 140737488355328; omega, fun cap2 el2 hc2 g1 g2 => ?_⟩⟩
          · rw [show es.length + 1 = (es ++ [en]).length by simp]
            refine ⟨((applyP d.c s en).1, y2, k2, es ++ [en], some (cap, el2)), [(18, 23), (19, 22)], ?_, ⟨rfl, rfl⟩, (by repeat (first | exact trivial | refine ⟨rfl, ?_⟩)), (by repeat (first | exact trivial | refine ⟨rfl, ?_⟩))⟩
            dsimp only
            refine ⟨⟨hR.step hV he2, by omega, by simp; omega, by first | exact hc2 | (simp; omega), fun j hj => ?_⟩, by omega⟩
            by_cases hjn : j < es.length
            · rw [g1 j hjn, ho.2 j hjn, List.getD_eq_getElem?_getD, List.getD_eq_getElem?_getD, List.getElem?_append_left hjn]
            · obtain rfl : j = es.length := by simp at hj; omega
              have := g2 0 (by omega)
              rw [Nat.add_zero] at this
              rw [this, List.getD_eq_getElem?_getD, List.getElem?_append_right (Nat.le_refl _), Nat.sub_self]
              rfl
          · rw [show es.length + 1 = (es ++ [en]).length by simp] at hc2 ⊢
            refine ⟨((applyP d.c s en).1, y2, k2, es ++ [en], some (cap2, el2)), [(18, 23), (19, 22), (20, 26)], ?_, ⟨rfl, rfl⟩, (by repeat (first | exact trivial | refine ⟨rfl, ?_⟩)), (by repeat (first | exact trivial | refine ⟨rfl, ?_⟩))⟩
            dsimp only
            refine ⟨⟨hR.step hV he2, by omega, by simp; omega, by first | exact hc2 | (simp; omega), fun j hj => ?_⟩, by omega⟩
            by_cases hjn : j < es.length
            · rw [g1 j hjn, ho.2 j hjn, List.getD_eq_getElem?_getD, List.getD_eq_getElem?_getD, List.getElem?_append_left hjn]
            · obtain rfl : j = es.length := by simp at hj; omega
              have := g2 0 (by omega)
              rw [Nat.add_zero] at this
              rw [this, List.getD_eq_getElem?_getD, List.getElem?_append_right (Nat.le_refl _), Nat.sub_self]
              rfl
        · refine ⟨14, 0, cap0, d.l0, _, _, rfl, ⟨rfl, rfl⟩, ⟨by omega, by omega, by omega⟩, ⟨_, rfl, by omega, by omega⟩, ?_⟩
          rintro _ k3 ⟨_, r3, hnn, rfl, ⟨hr3, hk3⟩⟩
          refine ⟨fun _ => ?_, fun _ => ?_⟩
          · refine ⟨(s, y, k3, es, some (cap, el)), [], ?_, ⟨rfl, rfl⟩, (by repeat (first | exact trivial | refine ⟨rfl, ?_⟩)), (by repeat (first | exact trivial | refine ⟨rfl, ?_⟩))⟩
            dsimp only
            exact ⟨⟨hR, by omega, hn2, ho⟩, by omega⟩
          · refine ⟨⟨Nat.le_refl _, fun j hj => by match j, hj with | 0, _ => rfl⟩, ?_⟩
            refine ⟨⟨rfl, ho.1⟩, fun hin el2 g1 g2 => ?_, fun hgt => ⟨by show (es.length + 1) * 72 ≤ 140737488355328; omega, fun cap2 el2 hc2 g1 g2 => ?_⟩⟩
            · rw [show es.length + 1 = (es ++ [en]).length by simp]
              refine ⟨(s, y, k3, es ++ [en], some (cap, el2)), [], ?_, ⟨rfl, rfl⟩, (by repeat (first | exact trivial | refine ⟨rfl, ?_⟩)), (by repeat (first | exact trivial | refine ⟨rfl, ?_⟩))⟩
              dsimp only
              refine ⟨⟨hR, by omega, by simp; omega, by first | exact hc2 | (simp; omega), fun j hj => ?_⟩, by omega⟩
              by_cases hjn : j < es.length
              · rw [g1 j hjn, ho.2 j hjn, List.getD_eq_getElem?_getD, List.getD_eq_getElem?_getD, List.getElem?_append_left hjn]
              · obtain rfl : j = es.length := by simp at hj; omega
                have := g2 0 (by omega)
                rw [Nat.add_zero] at this
                rw [this, List.getD_eq_getElem?_getD, List.getElem?_append_right (Nat.le_refl _), Nat.sub_self]
                rfl
            · rw [show es.length + 1 = (es ++ [en]).length by simp] at hc2 ⊢
              refine ⟨(s, y, k3, es ++ [en], some (cap2, el2)), [(20, 26)], ?_, ⟨rfl, rfl⟩, (by repeat (first | exact trivial | refine ⟨rfl, ?_⟩)), (by repeat (first | exact trivial | refine ⟨rfl, ?_⟩))⟩
              dsimp only
              refine ⟨⟨hR, by omega, by simp; omega, by first | exact hc2 | (simp; omega), fun j hj => ?_⟩, by omega⟩
              by_cases hjn : j < es.length
              · rw [g1 j hjn, ho.2 j hjn, List.getD_eq_getElem?_getD, List.getD_eq_getElem?_getD, List.getElem?_append_left hjn]
              · obtain rfl : j = es.length := by simp at hj; omega
                have := g2 0 (by omega)
                rw [Nat.add_zero] at this
                rw [this, List.getD_eq_getElem?_getD, List.getElem?_append_right (Nat.le_refl _), Nat.sub_self]
                rfl
      · exact ⟨es, s, hR, hn2, .inr ⟨20, _, _, cap, el, rfl, rfl, rfl, ho.1, ho.2⟩, _, _, cap, rfl, ho.1⟩
    · refine ⟨fun h => Bool.noConfusion h, fun _ => ?_⟩
      exact ⟨es, s, hR, hn2, .inr ⟨20, _, _, cap, el, rfl, rfl, rfl, ho.1, ho.2⟩, _, _, cap, rfl, ho.1⟩
theorem mkEntries_calls (x : CfgA) (c : Cfg) (A0 : Option Addr) (cap0 : Nat) (l : List Int) (n : Int) (w : World) (hV : CfgV c) (hz : l.length ≤ 400) (hn : 0 ≤ n ∧ n ≤ 1000) (hc : CfgOk w (· < w.heap.size) x c) (hr : Rd w (· < w.heap.size) A0 (flat intC l)) :
    Calls Tryz.prog 26 #[.slice A0 l.length cap0, .agg (cfgC x c), .int .i64 n] w fun e w' => ∃ es A cap, e = .returned (.slice A (es : List Ent).length cap) ∧ (es.length : Int) ≤ n ∧ es.length ≤ cap ∧ Rd w' (fun b => w.heap.size ≤ b ∧ b < w'.heap.size) A (flat entC es) ∧ Below w.heap.size w w' := by
  have := uni_calls ttOk (enFok.i _) Tryz.func26 rfl (D := enD) (by kernel_rfl) (vs := [slc 0 l.length cap0, cfgV CNu (ck x) c, .int .i64 n]) rfl { a0 := A0, x := x } { l0 := l, c := c } w { r0 := hr, c := hc } (fun v hv => by
    simp only [List.mem_cons, List.not_mem_nil, or_false] at hv
    rcases hv with rfl | rfl | rfl
    · exact ⟨show (0 : Nat) < 13 by decide, rfl⟩
    · exact upl_cfg_ok { a0 := A0, x := x } { l0 := l, c := c }
    · trivial) (entries_sx { l0 := l, c := c } (ck x) cap0 n hV hz hn)
  rw [List.map_cons, List.map_cons] at this
  have e0 := upl_cfg { a0 := A0, x := x } { l0 := l, c := c }
  dsimp only at e0 this
  rw [e0] at this
  refine this.mono ?_
  rintro e w' ⟨v, mem', nx', ρ', rfl, ⟨es, s, hR, hen, hS, A1, m1, cap1, rfl, hcap⟩, hv, hm', hb⟩
  obtain ⟨A, cp, e1, hr'⟩ := hm'.slR (enc := entC) (sz := 9) (fun _ => rfl) (by omega) hS
  have e2 : den ρ' (.slice A1 m1 cap1) = .slice A es.length cp := e1
  have e3 : cap1 = cp := by cases A1 <;> simp [den1] at e1 <;> exact e1.2.2
  exact ⟨es, A, cp, by rw [e2], hen, e3 ▸ hcap, hr', hb⟩
def ctEntries : CT := fun vs mem nx K => ∃ N x c r cap l n, vs = [slc r (l : List Int).length cap, cfgV N x c, .int .i64 n] ∧ (keeps mem (cfgM N c) ∧ HasRow mem r 1 intC 0 l) ∧ (CfgV c ∧ l.length ≤ 400 ∧ 0 ≤ n ∧ n ≤ 1000) ∧ ∀ es cap', (es.length : Int) ≤ n → K (slc nx es.length cap') ((nx, rowOfL 500000 9 entC default es) :: mem) (nx + 1)
theorem entriesOk : CSound Tryz.prog 26 ctEntries := ⟨by kernel_rfl, fun {C ρ fr mem nx a w vs K} hc hs hv => by
  obtain ⟨N, x, c, r, cap, l, n, rfl, ⟨hk, hr⟩, ⟨hV, hl, hn⟩, hK⟩ := hc
  have e0 : ([slc r l.length cap, cfgV N x c, .int .i64 n].map (den ρ)).toArray = #[.slice (ρ r).A l.length cap, .agg (cfgC (cfgX ρ N x) c), .int .i64 n] := by
    rw [List.map_cons, List.map_cons, den_cfg]
    rfl
  rw [e0]
  refine (mkEntries_calls (cfgX ρ N x) c (ρ r).A cap l n w hV hl hn (hs.cfg hk (fun b h _ => h)) (hs.hasRd (enc := intC) (sz := 1) (fun _ => rfl) (by omega) hr)).mono ?_
  rintro e w' ⟨es, A, cp, rfl, hen, hcp, hrd, hb⟩
  obtain ⟨q1, -⟩ := (hs.later hb).addList hs.frB hs.rest.size (enc := entC) (sz := 9) (fun _ => rfl) (by omega) entC_plain default (t := 500000) rfl hrd
  have q2 : setPl ρ nx ⟨A, 9, es.length, false⟩ nx = ⟨A, 9, es.length, false⟩ := setPl_same _ _ _
  refine ⟨slc nx es.length cp, _, _, _, ?_, hK es cp hen, q1, ?_, fun i hi => setPl_lt _ _ hi, by omega⟩
  · show Ending.returned (.slice A es.length cp) = .returned (.slice (setPl ρ nx ⟨A, 9, es.length, false⟩ nx).A es.length cp)
    rw [q2]
  · exact ⟨show nx < nx + 1 by omega, by rw [q2]⟩⟩
end Go.Proofs.YtjobcfpnmfjlfaaGreat

namespace Go.Proofs.YtjobcfpnmfjlfaaGreat
open Go.RowKit
set_option linter.unusedSimpArgs false
set_option linter.unusedVariables false

/-! The unproven cells: the program's list and the reference's. -/
theorem app_el {α : Type} {enc : α → List Value} {d : α} {l : List α} {x : α} {n : Nat} {el el2 : Nat → List Value} (hn : n = l.length) (h0 : ∀ k, k < n → el k = enc (l.getD k d)) (h1 : ∀ k, k < n → el2 k = el k) (h2 : el2 (n + 0) = enc x) : ∀ k, k < n + 1 → el2 k = enc ((l ++ [x]).getD k d) := by
  intro k hk
  by_cases hkn : k < n
  · rw [h1 k hkn, h0 k hkn, List.getD_eq_getElem?_getD, List.getD_eq_getElem?_getD, List.getElem?_append_left (by omega)]
  · obtain rfl : k = n := by omega
    rw [Nat.add_zero] at h2
    rw [h2, List.getD_eq_getElem?_getD, List.getElem?_append_right (by omega), hn, Nat.sub_self]
    rfl
def unpL (s : St) (k : Nat) : List Int := ((List.range k).filter fun i => openB s.proven (s.cells.getD i default)).map Int.ofNat
theorem unpL_all (s : St) : unpL s s.cells.length = unproven s := rfl
theorem unpL_succ (s : St) (k : Nat) : unpL s (k + 1) = unpL s k ++ (if openB s.proven (s.cells.getD k default) = true then [(k : Int)] else []) := by
  unfold unpL
  rw [List.range_succ, List.filter_append, List.map_append]
  congr 1
  by_cases h : openB s.proven (s.cells.getD k default) = true
  · rw [if_pos h]; simp only [List.filter, h]; rfl
  · rw [if_neg h]; simp only [Bool.not_eq_true] at h; simp only [List.filter, h]; rfl
theorem unpL_le (s : St) (k : Nat) : (unpL s k).length ≤ k := by
  unfold unpL
  rw [List.length_map]
  have := List.length_filter_le (fun i => openB s.proven (s.cells.getD i default)) (List.range k)
  simpa using this
def upF : FT := [(65, ctOpenR)]
theorem upFok : FTok Tryz.prog upF := ft_cons openROk ft_nil
def upD : List (Nat × DQ) := [(3000003, { k := 12, L := [0, 1, 2, 3, 4, 5, 6, 7, 8, 9, 10], sl := [1] })]
set_option maxRecDepth 100000 in
set_option maxHeartbeats 4000000 in
theorem unpR_sx (y : StK) (s : St) (hm : s.cells.length ≤ 100) (hpv : 0 ≤ s.proven ∧ s.proven < 4294967296) :
    sx tt upF upD (bodyOf Tryz.f30) (argF 0 [stV SN1 y s]) (rdM noC s noS) 10 (endx tt Tryz.f30.results.toList fun v mem' _ => SlR mem' 1 intC 0 (unproven s) v) := by
  rw [← unpL_all]
  have hUle := unpL_le s
  refine ⟨Int × Nat × Option (Nat × (Nat → List Value)), fun q => match q with | (i, n, none) => [(4, .int .i64 i), (3, zs0)] | (i, n, some (cap, el)) => [(4, .int .i64 i), (3, slc 11 n cap)], fun q => match q with | (i, n, none) => [] | (i, n, some (cap, el)) => [(11, .row (1000000 + 3) 1 cap el)], fun q => match q with | (i, n, o) => ((0 ≤ i ∧ i ≤ s.cells.length) ∧ n = (unpL s i.toNat).length) ∧ match o with | none => n = 0 | some (cap, el) => n ≤ cap ∧ ∀ k, k < n → el k = intC ((unpL s i.toNat).getD k 0), fun q => match q with | (i, n, o) => ((s.cells.length : Int) - i).toNat, ⟨(0, 0, none), [], ⟨⟨by omega, rfl⟩, rfl⟩, ⟨rfl, rfl⟩, (by repeat (first | exact trivial | refine ⟨rfl, ?_⟩)), (by repeat (first | exact trivial | refine ⟨rfl, ?_⟩))⟩, ?_⟩
  rintro ⟨i, n, (_ | ⟨cap, el⟩)⟩ ⟨⟨hi, hn⟩, ho⟩
  · refine ⟨⟨by decide, rfl, rfl⟩, ?_⟩
    refine ⟨fun hlt1 => ?_, fun hge => ?_⟩
    · have hlt2 : i < (s.cells.length : Int) := of_decide_eq_true hlt1
      have hub : n ≤ i.toNat := by rw [hn]; exact hUle i.toNat
      refine ⟨SN1, y, _, _, s, i, rfl, ⟨rfl, rfl, .list rfl, .list rfl⟩, ⟨⟨by omega, by omega⟩, hi.1, hlt2⟩, ?_⟩
      refine ⟨fun hb => ?_, fun hb => ?_⟩
      · have hov : openB s.proven (s.cells.getD i.toNat default) = true := hb
        refine ⟨⟨Nat.le_refl _, fun k hk => by match k, hk with | 0, _ => rfl⟩, ?_⟩
        refine ⟨fun h => absurd h (by decide), fun _ => ⟨by decide, fun cap2 el2 hc2 hel2 => ?_⟩⟩
        refine ⟨(_, _, some (cap2, el2)), [(11, 13)], ?_, ⟨rfl, rfl⟩, (by repeat (first | exact trivial | refine ⟨rfl, ?_⟩)), (by repeat (first | exact trivial | refine ⟨rfl, ?_⟩))⟩
        dsimp only
        rw [wrapi (n := i + 1) (by omega), show (i + 1).toNat = i.toNat + 1 by omega, unpL_succ]
        rw [if_pos hov]
        refine ⟨⟨⟨by omega, by rw [List.length_append, ← hn, ho]; rfl⟩, by omega, ?_⟩, by omega⟩
        exact app_el (n := 0) (el := fun _ => []) (enc := intC) (by rw [← hn, ho]) (fun k hk => absurd hk (by omega)) (fun k hk => absurd hk (by omega)) (by rw [hel2 0 (by omega)]; exact congrArg (fun z => [Value.int .i64 z]) (by omega))
      · have hov : ¬ (openB s.proven (s.cells.getD i.toNat default) = true) := fun q => absurd (q.symm.trans hb) (by decide)
        refine ⟨(_, n, none), [], ?_, ⟨rfl, rfl⟩, (by repeat (first | exact trivial | refine ⟨rfl, ?_⟩)), (by repeat (first | exact trivial | refine ⟨rfl, ?_⟩))⟩
        dsimp only
        rw [wrapi (n := i + 1) (by omega), show (i + 1).toNat = i.toNat + 1 by omega, unpL_succ]
        rw [if_neg hov, List.append_nil]
        exact ⟨⟨⟨by omega, hn⟩, ho⟩, by omega⟩
    · have hge2 : ¬ i < (s.cells.length : Int) := of_decide_eq_false hge
      have hie : i.toNat = s.cells.length := by omega
      rw [hie] at hn
      exact .inl ⟨rfl, List.eq_nil_of_length_eq_zero (by rw [← hn]; exact ho)⟩
  · refine ⟨⟨by decide, rfl, rfl⟩, ?_⟩
    refine ⟨fun hlt1 => ?_, fun hge => ?_⟩
    · have hlt2 : i < (s.cells.length : Int) := of_decide_eq_true hlt1
      have hub : n ≤ i.toNat := by rw [hn]; exact hUle i.toNat
      refine ⟨SN1, y, _, _, s, i, rfl, ⟨rfl, rfl, .list rfl, .list rfl⟩, ⟨⟨by omega, by omega⟩, hi.1, hlt2⟩, ?_⟩
      refine ⟨fun hb => ?_, fun hb => ?_⟩
      · have hov : openB s.proven (s.cells.getD i.toNat default) = true := hb
        refine ⟨⟨Nat.le_refl _, fun k hk => by match k, hk with | 0, _ => rfl⟩, ?_⟩
        refine ⟨⟨rfl, ho.1⟩, fun hin el2 h1 h2 => ?_, fun hgt => ⟨by show (n + 1) * 8 ≤ 140737488355328; omega, fun cap2 el2 hc2 h1 h2 => ?_⟩⟩
        · refine ⟨(_, _, some (cap, el2)), [], ?_, ⟨rfl, rfl⟩, (by repeat (first | exact trivial | refine ⟨rfl, ?_⟩)), (by repeat (first | exact trivial | refine ⟨rfl, ?_⟩))⟩
          dsimp only
          rw [wrapi (n := i + 1) (by omega), show (i + 1).toNat = i.toNat + 1 by omega, unpL_succ]
          rw [if_pos hov]
          refine ⟨⟨⟨by omega, by rw [List.length_append, ← hn]; rfl⟩, by omega, ?_⟩, by omega⟩
          exact app_el (enc := intC) (el := el) hn ho.2 h1 (by rw [h2 0 (by omega)]; exact congrArg (fun z => [Value.int .i64 z]) (by omega))
        · refine ⟨(_, _, some (cap2, el2)), [(11, 13)], ?_, ⟨rfl, rfl⟩, (by repeat (first | exact trivial | refine ⟨rfl, ?_⟩)), (by repeat (first | exact trivial | refine ⟨rfl, ?_⟩))⟩
          dsimp only
          rw [wrapi (n := i + 1) (by omega), show (i + 1).toNat = i.toNat + 1 by omega, unpL_succ]
          rw [if_pos hov]
          refine ⟨⟨⟨by omega, by rw [List.length_append, ← hn]; rfl⟩, by omega, ?_⟩, by omega⟩
          exact app_el (enc := intC) (el := el) hn ho.2 h1 (by rw [h2 0 (by omega)]; exact congrArg (fun z => [Value.int .i64 z]) (by omega))
      · have hov : ¬ (openB s.proven (s.cells.getD i.toNat default) = true) := fun q => absurd (q.symm.trans hb) (by decide)
        refine ⟨(_, n, some (cap, el)), [], ?_, ⟨rfl, rfl⟩, (by repeat (first | exact trivial | refine ⟨rfl, ?_⟩)), (by repeat (first | exact trivial | refine ⟨rfl, ?_⟩))⟩
        dsimp only
        rw [wrapi (n := i + 1) (by omega), show (i + 1).toNat = i.toNat + 1 by omega, unpL_succ]
        rw [if_neg hov, List.append_nil]
        exact ⟨⟨⟨by omega, hn⟩, ho⟩, by omega⟩
    · have hge2 : ¬ i < (s.cells.length : Int) := of_decide_eq_false hge
      have hie : i.toNat = s.cells.length := by omega
      rw [hie] at hn ho
      subst hn
      exact .inr ⟨11, cap, _, cap, el, rfl, rfl, rfl, ho.1, ho.2⟩
theorem r12Unproven_calls (y : StA) (s : St) (w : World) (hs : StOk w (· < w.heap.size) y s) (hm : s.cells.length ≤ 100) (hpv : 0 ≤ s.proven ∧ s.proven < 4294967296) :
    Calls Tryz.prog 30 #[.agg (stC y s)] w fun e w' => ∃ A cp, e = .returned (.slice A (unproven s).length cp) ∧ Rd w' (fun b => w.heap.size ≤ b ∧ b < w'.heap.size) A (flat intC (unproven s)) ∧ Below w.heap.size w w' := by
  have := rd_callsM ttOk (upFok.i _) Tryz.func30 rfl (D := upD) (by kernel_rfl) (vs := [stV SN1 (sk y) s]) rfl noX noC y s noA noS w (noC_ok _ _) hs (noS_ok w _) (fun v hv => by
    simp only [List.mem_cons, List.not_mem_nil, or_false] at hv
    rcases hv with rfl
    exact rpl_st_ok noX noC y s noA noS) (unpR_sx (sk y) s hm hpv)
  rw [List.map_cons, rpl_st] at this
  refine this.mono ?_
  rintro e w' ⟨v, mem', nx', ρ', rfl, hR, hv, hm', hb⟩
  obtain ⟨A, cp, e1, hr⟩ := hm'.slR (enc := intC) (sz := 1) (fun _ => rfl) (by omega) hR
  refine ⟨A, cp, ?_, hr, hb⟩
  congr 1
  rcases hR with ⟨rfl, -⟩ | ⟨r, cap, t, n, el, rfl, -⟩
  · exact e1
  · exact e1
/-- A callee hands back a list of numbers in a new row. -/
theorem Sat.ints {C : Ctx} {ρ : Nat → Pl} {fr : AF} {mem : AM} {nx : Nat} {a : Act} {w w' : World} {K : Value → AM → Nat → Prop} (hs : Sat C ρ fr mem nx a w) (hb : Below w.heap.size w w') {A : Option Addr} {cp : Nat} {l : List Int} (hr : Rd w' (fun b => w.heap.size ≤ b ∧ b < w'.heap.size) A (flat intC l)) (hK : K (slc nx l.length cp) ((nx, rowOfL 500000 1 intC 0 l) :: mem) (nx + 1)) :
    ∃ v mem' nx' ρ', Ending.returned (.slice A l.length cp) = .returned (den ρ' v) ∧ K v mem' nx' ∧ Sat C ρ' fr mem' nx' a w' ∧ okV ρ' nx' v ∧ ExtS ρ nx ρ' nx' := by
  obtain ⟨q1, -⟩ := (hs.later hb).addList hs.frB hs.rest.size (enc := intC) (sz := 1) (fun _ => rfl) (by omega) intC_plain 0 (t := 500000) rfl hr
  have q2 : setPl ρ nx ⟨A, 1, l.length, false⟩ nx = ⟨A, 1, l.length, false⟩ := setPl_same _ _ _
  refine ⟨slc nx l.length cp, _, _, _, ?_, hK, q1, ?_, fun i hi => setPl_lt _ _ hi, by omega⟩
  · show Ending.returned (.slice A l.length cp) = .returned (.slice (setPl ρ nx ⟨A, 1, l.length, false⟩ nx).A l.length cp)
    rw [q2]
  · exact ⟨show nx < nx + 1 by omega, by rw [q2]⟩
def ctUnpR : CT := fun vs mem nx K => ∃ M y s, vs = [stV M y s] ∧ (HasRow mem M.t 12 tsC default s.tenants ∧ HasRow mem M.c 4 csC default s.cells) ∧ (s.cells.length ≤ 100 ∧ 0 ≤ s.proven ∧ s.proven < 4294967296) ∧ ∀ cp, K (slc nx (unproven s).length cp) ((nx, rowOfL 500000 1 intC 0 (unproven s)) :: mem) (nx + 1)
theorem unpROk : CSound Tryz.prog 30 ctUnpR := ⟨by kernel_rfl, fun {C ρ fr mem nx a w vs K} hc hs hv => by
  obtain ⟨M, y, s, rfl, ⟨h1, h2⟩, ⟨hm, hp⟩, hK⟩ := hc
  rw [List.map_cons, den_st]
  refine (r12Unproven_calls (stX ρ M y) s w (hs.stRow h1 h2) hm hp).mono ?_
  rintro e w' ⟨A, cp, rfl, hr, hb⟩
  exact hs.ints hb hr (hK cp)⟩
def ctUnpP : CT := fun vs mem nx K => ∃ M y s, vs = [stV M y s] ∧ (HasRow mem M.t 12 tsC default s.tenants ∧ HasRow mem M.c 4 csC default s.cells) ∧ (∃ c, CfgV c ∧ StInv c s) ∧ ∀ cp, K (slc nx (unproven s).length cp) ((nx, rowOfL 500000 1 intC 0 (unproven s)) :: mem) (nx + 1)
theorem unpPOk : CSound Tryz.prog 29 ctUnpP := ⟨by kernel_rfl, fun {C ρ fr mem nx a w vs K} hc hs hv => by
  obtain ⟨M, y, s, rfl, ⟨h1, h2⟩, ⟨c, hV, hI⟩, hK⟩ := hc
  rw [List.map_cons, den_st]
  refine (stUnproven_any c (stX ρ M y) s w hV hI (hs.stRow h1 h2)).mono ?_
  rintro e w' ⟨A, cp, rfl, ho, hb⟩
  exact hs.ints hb (Rd.of_own ho) (hK cp)⟩
end Go.Proofs.YtjobcfpnmfjlfaaGreat

namespace Go.Proofs.YtjobcfpnmfjlfaaGreat
open Go.RowKit
set_option linter.unusedSimpArgs false
set_option linter.unusedVariables false

/-! ref12.Same, whatever rows hold the states. -/
/-- A value that is a state. -/
def StIs (mem : AM) (v : Value) (s : St) : Prop := (∃ M y, v = stV M y s ∧ HasRow mem M.t 12 tsC default s.tenants ∧ HasRow mem M.c 4 csC default s.cells) ∨ (v = stZ ∧ s = St.zero)
theorem Sat.stIs {C : Ctx} {ρ : Nat → Pl} {fr : AF} {mem : AM} {nx : Nat} {a : Act} {w : World} (h : Sat C ρ fr mem nx a w) {v : Value} {s : St} (hs : StIs mem v s) : ∃ y, den ρ v = .agg (stC y s) ∧ StOk w (· < w.heap.size) y s := by
  rcases hs with ⟨M, y, rfl, h1, h2⟩ | ⟨rfl, rfl⟩
  · exact ⟨stX ρ M y, den_st _ _ _ _, h.stRow h1 h2⟩
  · exact ⟨noA, by simp [den, den2, den1, stC, noA, St.zero], ⟨fun q => absurd rfl q, fun q => absurd rfl q⟩⟩
def ctSameH : CT := fun vs mem nx K => ∃ v s v2 s2, vs = [v, v2] ∧ (StIs mem v s ∧ StIs mem v2 s2) ∧ (s.tenants.length ≤ 1000000 ∧ s.cells.length ≤ 1000000) ∧ ∀ b : Bool, (b = true ↔ s = s2) → K (.bool b) mem nx
theorem sameHOk : CSound Tryz.prog 16 ctSameH := ⟨by kernel_rfl, fun {C ρ fr mem nx a w vs K} hc hs hv => by
  obtain ⟨v, s, v2, s2, rfl, ⟨h1, h2⟩, ⟨hm, hm2⟩, hK⟩ := hc
  obtain ⟨y, e1, k1⟩ := hs.stIs h1
  obtain ⟨y2, e2, k2⟩ := hs.stIs h2
  rw [List.map_cons, List.map_cons, e1, e2]
  refine (r12Same_any y s y2 s2 w k1 k2 hm hm2).mono ?_
  rintro e w' ⟨z, ⟨b, rfl, hb⟩, rfl, hbw⟩
  exact ⟨.bool b, mem, nx, ρ, rfl, hK b hb, hs.later hbw, trivial, ExtS.refl _ _⟩⟩
/-! What Apply's answer is like. -/
theorem effOf_len (s : St) (e : Ent) : (effOf s e).tenants.length = s.tenants.length ∧ (effOf s e).cells.length = s.cells.length := by
  unfold effOf
  dsimp only
  repeat' split
  all_goals simp [setTen, setCel, stamped]
theorem applyP_len {c : Cfg} {s : St} {e : Ent} : (applyP c s e).1.tenants.length ≤ s.tenants.length ∧ (applyP c s e).1.cells.length ≤ s.cells.length := by
  have := effOf_len s e
  unfold applyP
  repeat' split
  all_goals simp [St.zero]
  omega
end Go.Proofs.YtjobcfpnmfjlfaaGreat

namespace Go.Proofs.YtjobcfpnmfjlfaaGreat
open Go.RowKit
set_option linter.unusedSimpArgs false
set_option linter.unusedVariables false

/-! law12.StateOwn -/
def owF : FT := [(9, ctLight), (10, ctAwake), (11, ctConfig), (17, ctState), (18, ctCopied), (20, ctTapeNew), (19, ctEntry), (15, ctApplyO), (16, ctSameH), (21, ctApplyR)]
theorem owFok : FTok Tryz.prog owF := ft_cons lightOk (ft_cons awakeOk (ft_cons configOk (ft_cons stateOk (ft_cons copiedOk (ft_cons tapeNewOk (ft_cons entryOk (ft_cons applyOOk (ft_cons sameHOk (ft_cons applyROk ft_nil)))))))))
def owD : List (Nat × DQ) := [(6, { k := 6, L := [19, 22], A := [5], pre := [(0, false), (2, false), (3, false), (1, true), (4, true)], post := [] }),
  (2000011, { k := 0, L := [0, 1, 2, 3, 4, 5, 6, 7, 8, 9, 10, 11, 12, 13, 14, 15, 16, 17, 18, 19, 20, 21, 22, 23, 24, 25, 26, 27, 29, 30], sl := [5, 6, 7, 8, 9, 10] }),
  (2000015, { k := 0, L := [0, 1, 2, 3, 4, 5, 6, 7, 8, 9, 10, 11, 12, 13, 14, 15, 16, 17, 18, 19, 20, 21, 22, 23, 24, 25, 26, 27, 28, 30], sl := [5, 6, 7, 8, 9, 10] })]
set_option maxRecDepth 100000 in
set_option maxHeartbeats 4000000 in
theorem own_sx (cap0 cap1 : Nat) (l more : List Int) (hm0 : l.length ≤ maxLen) (hm1 : more.length ≤ maxLen) :
    sx tt owF owD (bodyOf Tryz.f4) (argF 0 [slc 0 l.length cap0, slc 1 more.length cap1]) (uniM { l0 := l, l1 := more }) 13 (endx tt Tryz.f4.results.toList fun v _ _ => v = .bool true) := by
  refine ⟨0, cap0, l, rfl, rfl, hm0, ?_⟩
  refine ⟨fun h => ?_, fun h0 => ?_⟩
  · refine ⟨fun _ => ?_, fun h => nomatch h⟩
    refine ⟨rfl, ?_⟩
    exact rfl
  · refine ⟨1, cap1, more, rfl, rfl, hm1, ?_⟩
    refine ⟨fun _ => ?_, fun h1 => ?_⟩
    · refine ⟨rfl, ?_⟩
      exact rfl
    · have hm2 : more.length ≤ 200 := by simpa using h1
      refine ⟨0, cap0, l, rfl, rfl, (by have q : l.length ≤ 200 := (by simpa using h0); omega), ?_⟩
      intro xk c hM
      have hV := cfgV_of hM.valid
      have hnt := hV.nt
      have hnc := hV.nc
      refine ⟨⟨18, 17, 16, 15, 14, 13, 500000⟩, xk, c, 1, cap1, more, 20, rfl, ⟨(by repeat (first | exact trivial | refine ⟨rfl, ?_⟩)), ⟨_, _, _, rfl, Nat.le_refl _, fun k hk => rfl⟩⟩, ⟨hV, by omega, by decide⟩, ?_⟩
      intro es s y hR hen
      have hJ := hR.rinv hV (.new hV)
      have hI := hJ.inv
      have htn := hI.lt
      have hcn := hI.lc
      refine ⟨_, y, s, rfl, ⟨.list rfl, .list rfl⟩, ⟨by omega, by omega⟩, ?_⟩
      intro yw
      have hl : l.length ≤ 200 := by simpa using h0
      refine ⟨0, cap0, l, rfl, rfl, by omega, ?_⟩
      refine ⟨(by repeat (first | exact trivial | refine ⟨rfl, ?_⟩)), ?_⟩
      refine ⟨27, 0, cap0, l, _, ⟨18, 17, 16, 15, 14, 13, 500000⟩, xk, c, ⟨21, 20, 500000⟩, y, s, [], rfl, ⟨rfl, rfl⟩, (by repeat (first | exact trivial | refine ⟨rfl, ?_⟩)), (by repeat (first | exact trivial | refine ⟨rfl, ?_⟩)), ⟨by omega, by omega, by omega⟩, ⟨⟨hV, hI, by omega⟩, rfl⟩, ?_⟩
      rintro _ k2 ⟨⟨e, rfl⟩, hk2a, hk2b, hk2c⟩
      refine ⟨(by repeat (first | exact trivial | refine ⟨rfl, ?_⟩)), ?_⟩
      refine ⟨⟨18, 17, 16, 15, 14, 13, 500000⟩, xk, c, ⟨21, 20, 500000⟩, y, s, e, rfl, (by repeat (first | exact trivial | refine ⟨rfl, ?_⟩)), ⟨.list rfl, .list rfl⟩, hV, hI, ?_⟩
      intro y3
      have hAR := applyRP (e := e) hV hI hJ.cap
      generalize hp : applyP c s e = p at hAR
      have hpl := applyP_len (c := c) (s := s) (e := e)
      rw [hp] at hpl
      obtain ⟨p1, p2⟩ := p
      dsimp only at hpl
      refine ⟨_, s, _, s, rfl, ⟨.inl ⟨_, _, rfl, ⟨_, _, _, rfl, Nat.le_refl _, fun k hk => rfl⟩, ⟨_, _, _, rfl, Nat.le_refl _, fun k hk => rfl⟩⟩, .inl ⟨_, _, rfl, ⟨_, _, _, rfl, Nat.le_refl _, fun k hk => rfl⟩, ⟨_, _, _, rfl, Nat.le_refl _, fun k hk => rfl⟩⟩⟩, ⟨by omega, by omega⟩, ?_⟩
      intro b1 hb1
      obtain rfl : b1 = true := hb1.2 rfl
      refine ⟨fun q => absurd q (by simp), fun _ => ?_⟩
      refine ⟨List CS × Int, fun q => match q with | (cs, i) => [(11, .int .i64 i)], fun q => match q with | (cs, i) => [(28, .row (1000000 + 54) 4 p1.cells.length (fun k => csC (cs.getD k default)))], fun q => match q with | (cs, i) => cs.length = p1.cells.length ∧ (0 ≤ i ∧ i ≤ p1.cells.length), fun q => match q with | (cs, i) => ((p1.cells.length : Int) - i).toNat, ⟨(p1.cells, 0), ⟨rfl, by omega⟩, (by repeat (first | exact trivial | refine ⟨rfl, ?_⟩)), (by repeat (first | exact trivial | refine ⟨rfl, ?_⟩))⟩, ?_⟩
      rintro ⟨cs, i⟩ ⟨hcs, hi⟩
      refine ⟨⟨rfl, rfl⟩, ?_⟩
      refine ⟨fun hlt => ?_, fun hge => ?_⟩
      · have hlt2 : i < (p1.cells.length : Int) := of_decide_eq_true hlt
        have hin : i.toNat < cs.length := by omega
        refine ⟨⟨Nat.le_refl _, hi.1, hlt2⟩, ?_⟩
        refine ⟨csC { (cs.getD i.toNat default) with mode := 77 }, rfl, ?_⟩
        rw [setEl_set hin]
        refine ⟨(cs.set i.toNat { (cs.getD i.toNat default) with mode := 77 }, _), ?_, (by repeat (first | exact trivial | refine ⟨rfl, ?_⟩)), (by repeat (first | exact trivial | refine ⟨rfl, ?_⟩))⟩
        dsimp only
        rw [wrapi (n := i + 1) (by omega)]
        exact ⟨⟨by rw [List.length_set]; exact hcs, by omega⟩, by omega⟩
      · refine ⟨List TS × Int, fun q => match q with | (ts, i) => [(12, .int .i64 i)], fun q => match q with | (ts, i) => [(29, .row (1000000 + 58) 12 p1.tenants.length (fun k => tsC (ts.getD k default)))], fun q => match q with | (ts, i) => ts.length = p1.tenants.length ∧ (0 ≤ i ∧ i ≤ p1.tenants.length), fun q => match q with | (ts, i) => ((p1.tenants.length : Int) - i).toNat, ⟨(p1.tenants, 0), ⟨rfl, by omega⟩, (by repeat (first | exact trivial | refine ⟨rfl, ?_⟩)), (by repeat (first | exact trivial | refine ⟨rfl, ?_⟩))⟩, ?_⟩
        rintro ⟨ts, i⟩ ⟨hts, hi⟩
        refine ⟨⟨rfl, rfl⟩, ?_⟩
        refine ⟨fun hlt => ?_, fun hge => ?_⟩
        · have hlt2 : i < (p1.tenants.length : Int) := of_decide_eq_true hlt
          have hin : i.toNat < ts.length := by omega
          refine ⟨⟨Nat.le_refl _, hi.1, hlt2⟩, ?_⟩
          refine ⟨tsC { (ts.getD i.toNat default) with home := 77 }, rfl, ?_⟩
          rw [setEl_set hin]
          refine ⟨(ts.set i.toNat { (ts.getD i.toNat default) with home := 77 }, _), ?_, (by repeat (first | exact trivial | refine ⟨rfl, ?_⟩)), (by repeat (first | exact trivial | refine ⟨rfl, ?_⟩))⟩
          dsimp only
          rw [wrapi (n := i + 1) (by omega)]
          exact ⟨⟨by rw [List.length_set]; exact hts, by omega⟩, by omega⟩
        · refine ⟨⟨18, 17, 16, 15, 14, 13, 500000⟩, xk, c, ⟨21, 20, 500000⟩, y, s, e, rfl, (by repeat (first | exact trivial | refine ⟨rfl, ?_⟩)), ⟨.list rfl, .list rfl⟩, hV, hI, ?_⟩
          intro y4
          rw [hp]
          refine ⟨⟨18, 17, 16, 15, 14, 13, 500000⟩, xk, c, ⟨24, 23, 0⟩, yw, s, e, rfl, ⟨(by repeat (first | exact trivial | refine ⟨rfl, ?_⟩)), ⟨_, _, _, rfl, Nat.le_refl _, fun k hk => rfl⟩, ⟨_, _, _, rfl, Nat.le_refl _, fun k hk => rfl⟩⟩, ⟨hV, hI⟩, ?_⟩
          intro y5
          rw [hAR]
          refine ⟨rfl, ?_⟩
          refine ⟨fun _ => ?_, fun q => absurd q (by simp)⟩
          refine ⟨_, s, _, s, rfl, ⟨.inl ⟨_, _, rfl, ⟨_, _, _, rfl, Nat.le_refl _, fun k hk => rfl⟩, ⟨_, _, _, rfl, Nat.le_refl _, fun k hk => rfl⟩⟩, .inl ⟨_, _, rfl, ⟨_, _, _, rfl, Nat.le_refl _, fun k hk => rfl⟩, ⟨_, _, _, rfl, Nat.le_refl _, fun k hk => rfl⟩⟩⟩, ⟨by omega, by omega⟩, ?_⟩
          intro b2 hb2
          obtain rfl : b2 = true := hb2.2 rfl
          refine ⟨fun _ => ?_, fun q => absurd q (by simp)⟩
          refine ⟨fun _ => ?_, fun q => absurd q (by simp)⟩
          refine ⟨fun _ => ?_, fun q => absurd q (by simp)⟩
          refine ⟨_, p1, _, p1, rfl, ⟨.inl ⟨_, _, rfl, ⟨_, _, _, rfl, Nat.le_refl _, fun k hk => rfl⟩, ⟨_, _, _, rfl, Nat.le_refl _, fun k hk => rfl⟩⟩, .inl ⟨_, _, rfl, ⟨_, _, _, rfl, Nat.le_refl _, fun k hk => rfl⟩, ⟨_, _, _, rfl, Nat.le_refl _, fun k hk => rfl⟩⟩⟩, ⟨by omega, by omega⟩, ?_⟩
          intro b3 hb3
          obtain rfl : b3 = true := hb3.2 rfl
          rfl
theorem stateOwn_law (a0 : Option Addr) (cap0 : Nat) (z0 : List Int) (a1 : Option Addr) (cap1 : Nat) (z1 : List Int) (W : World) (hr0 : Rd W (· < W.heap.size) a0 (z0.map (Value.int .i64))) (hm0 : z0.length ≤ maxLen) (hr1 : Rd W (· < W.heap.size) a1 (z1.map (Value.int .i64))) (hm1 : z1.length ≤ maxLen) :
    Calls Tryz.prog 4 #[.slice a0 z0.length cap0, .slice a1 z1.length cap1] W fun e w' => e = .returned (.bool true) ∧ Below W.heap.size W w' := by
  rw [← flat_ints] at hr0 hr1
  refine (uni_calls ttOk (owFok.i _) Tryz.func4 rfl (D := owD) (by kernel_rfl) (vs := [slc 0 z0.length cap0, slc 1 z1.length cap1]) rfl { a0 := a0, a1 := a1 } { l0 := z0, l1 := z1 } W { r0 := hr0, r1 := hr1 } (fun v hv => by
    simp only [List.mem_cons, List.not_mem_nil, or_false] at hv
    rcases hv with rfl | rfl
    · exact ⟨show (0 : Nat) < 13 by decide, rfl⟩
    · exact ⟨show (1 : Nat) < 13 by decide, rfl⟩) (own_sx cap0 cap1 z0 z1 hm0 hm1)).mono ?_
  rintro e w' ⟨v, mem', nx', ρ', rfl, rfl, hv, hm', hb⟩
  exact ⟨rfl, hb⟩
end Go.Proofs.YtjobcfpnmfjlfaaGreat

namespace Go.Proofs.YtjobcfpnmfjlfaaGreat
open Go.RowKit
set_option linter.unusedSimpArgs false
set_option linter.unusedVariables false

/-! slices.Equal of tenants and of cells; ref01.SameInts. -/
def eqD : List (Nat × DQ) := [(2000004, { k := 0, L := [0, 1, 2, 3, 4, 5, 6, 7, 8, 9, 10, 11, 12], sl := [0, 1, 12] }), (6, { k := 8, L := [0, 1, 2, 3, 4, 5, 6, 7, 8, 9, 10, 11, 12], pre := [(0, false), (1, false), (2, false), (3, false), (4, false), (5, false), (6, false), (7, false)] })]
def eqD1 : List (Nat × DQ) := [(2000004, { k := 0, L := [0, 1, 2, 3, 4, 5, 6, 7, 8, 9, 10, 11, 12], sl := [0, 1] }), (6, { k := 8, L := [0, 1, 2, 3, 4, 5, 6, 7, 8, 9, 10, 11, 12], pre := [(0, false), (1, false), (2, false), (3, false), (4, false), (5, false), (6, false), (7, false)] })]
set_option maxRecDepth 100000 in
set_option maxHeartbeats 4000000 in
theorem eqT_sx (d : UD) (c0 c1 : Nat) (hm : d.s.tenants.length ≤ 1000000) :
    sx tt [] eqD (bodyOf Tryz.f66) (argF 0 [slc 9 d.s.tenants.length c0, slc 11 d.s2.tenants.length c1]) (uniM d) 13 (endx tt Tryz.f66.results.toList fun v _ _ => ∃ b, v = .bool b ∧ (b = true ↔ d.s.tenants = d.s2.tenants)) := by
  refine ⟨fun h => ?_, fun h => ?_⟩
  · refine ⟨false, rfl, (fun q => nomatch q), fun q => ?_⟩
    rw [q] at h
    simp at h
  · have hlen : d.s.tenants.length = d.s2.tenants.length := by have q := h; simp at q; omega
    refine ⟨Int, fun i => [(13, .int .i64 i)], fun _ => [], fun i => (0 ≤ i ∧ i ≤ d.s.tenants.length) ∧ ∀ k : Nat, (k : Int) < i → d.s.tenants.getD k default = d.s2.tenants.getD k default, fun i => ((d.s.tenants.length : Int) - i).toNat, ⟨0, ⟨by omega, fun k hk => absurd hk (by omega)⟩, (by repeat (first | exact trivial | refine ⟨rfl, ?_⟩)), (by repeat (first | exact trivial | refine ⟨rfl, ?_⟩))⟩, ?_⟩
    rintro i ⟨hi, he⟩
    refine ⟨⟨rfl, rfl⟩, ?_⟩
    refine ⟨fun hlt => ?_, fun hge => ?_⟩
    · have hlt2 : i < (d.s.tenants.length : Int) := of_decide_eq_true hlt
      refine ⟨⟨Nat.le_refl _, hi.1, hlt2⟩, ?_⟩
      refine ⟨⟨Nat.le_refl _, hi.1, by omega⟩, ?_⟩
      refine ⟨fun hne => ?_, fun heq => ?_⟩
      · have hne2 : (!eqCs (tsC (d.s.tenants.getD i.toNat default)) (tsC (d.s2.tenants.getD i.toNat default))) = true := hne
        refine ⟨false, rfl, (fun q => nomatch q), fun q => ?_⟩
        rw [q, (eqTs _ _).2 rfl] at hne2
        cases hne2
      · have heq2 : (!eqCs (tsC (d.s.tenants.getD i.toNat default)) (tsC (d.s2.tenants.getD i.toNat default))) = false := heq
        have hq : d.s.tenants.getD i.toNat default = d.s2.tenants.getD i.toNat default := (eqTs _ _).1 (nb heq2)
        refine ⟨_, ?_, (by repeat (first | exact trivial | refine ⟨rfl, ?_⟩)), (by repeat (first | exact trivial | refine ⟨rfl, ?_⟩))⟩
        rw [wrapi (n := i + 1) (by omega)]
        dsimp only
        refine ⟨⟨⟨by omega, by omega⟩, fun k hk => ?_⟩, by omega⟩
        by_cases hki : (k : Int) < i
        · exact he k hki
        · obtain rfl : k = i.toNat := by omega
          exact hq
    · have hge2 : ¬ i < (d.s.tenants.length : Int) := of_decide_eq_false hge
      exact ⟨true, rfl, fun _ => list_eq_of default hlen fun k hk => he k (by omega), fun _ => rfl⟩
set_option maxRecDepth 100000 in
set_option maxHeartbeats 4000000 in
theorem eqC_sx (d : UD) (c0 c1 : Nat) (hm : d.s.cells.length ≤ 1000000) :
    sx tt [] eqD (bodyOf Tryz.f67) (argF 0 [slc 10 d.s.cells.length c0, slc 12 d.s2.cells.length c1]) (uniM d) 13 (endx tt Tryz.f67.results.toList fun v _ _ => ∃ b, v = .bool b ∧ (b = true ↔ d.s.cells = d.s2.cells)) := by
  refine ⟨fun h => ?_, fun h => ?_⟩
  · refine ⟨false, rfl, (fun q => nomatch q), fun q => ?_⟩
    rw [q] at h
    simp at h
  · have hlen : d.s.cells.length = d.s2.cells.length := by have q := h; simp at q; omega
    refine ⟨Int, fun i => [(13, .int .i64 i)], fun _ => [], fun i => (0 ≤ i ∧ i ≤ d.s.cells.length) ∧ ∀ k : Nat, (k : Int) < i → d.s.cells.getD k default = d.s2.cells.getD k default, fun i => ((d.s.cells.length : Int) - i).toNat, ⟨0, ⟨by omega, fun k hk => absurd hk (by omega)⟩, (by repeat (first | exact trivial | refine ⟨rfl, ?_⟩)), (by repeat (first | exact trivial | refine ⟨rfl, ?_⟩))⟩, ?_⟩
    rintro i ⟨hi, he⟩
    refine ⟨⟨rfl, rfl⟩, ?_⟩
    refine ⟨fun hlt => ?_, fun hge => ?_⟩
    · have hlt2 : i < (d.s.cells.length : Int) := of_decide_eq_true hlt
      refine ⟨⟨Nat.le_refl _, hi.1, hlt2⟩, ?_⟩
      refine ⟨⟨Nat.le_refl _, hi.1, by omega⟩, ?_⟩
      refine ⟨fun hne => ?_, fun heq => ?_⟩
      · have hne2 : (!eqCs (csC (d.s.cells.getD i.toNat default)) (csC (d.s2.cells.getD i.toNat default))) = true := hne
        refine ⟨false, rfl, (fun q => nomatch q), fun q => ?_⟩
        rw [q, (eqCsC _ _).2 rfl] at hne2
        cases hne2
      · have heq2 : (!eqCs (csC (d.s.cells.getD i.toNat default)) (csC (d.s2.cells.getD i.toNat default))) = false := heq
        have hq : d.s.cells.getD i.toNat default = d.s2.cells.getD i.toNat default := (eqCsC _ _).1 (nb heq2)
        refine ⟨_, ?_, (by repeat (first | exact trivial | refine ⟨rfl, ?_⟩)), (by repeat (first | exact trivial | refine ⟨rfl, ?_⟩))⟩
        rw [wrapi (n := i + 1) (by omega)]
        dsimp only
        refine ⟨⟨⟨by omega, by omega⟩, fun k hk => ?_⟩, by omega⟩
        by_cases hki : (k : Int) < i
        · exact he k hki
        · obtain rfl : k = i.toNat := by omega
          exact hq
    · have hge2 : ¬ i < (d.s.cells.length : Int) := of_decide_eq_false hge
      exact ⟨true, rfl, fun _ => list_eq_of default hlen fun k hk => he k (by omega), fun _ => rfl⟩
set_option maxRecDepth 100000 in
set_option maxHeartbeats 4000000 in
theorem eqI_sx (d : UD) (c0 c1 : Nat) (hm : d.l0.length ≤ 1000000) :
    sx tt [] eqD1 (bodyOf Tryz.f28) (argF 0 [slc 0 d.l0.length c0, slc 1 d.l1.length c1]) (uniM d) 13 (endx tt Tryz.f28.results.toList fun v _ _ => ∃ b, v = .bool b ∧ (b = true ↔ d.l0 = d.l1)) := by
  refine ⟨fun h => ?_, fun h => ?_⟩
  · refine ⟨false, rfl, (fun q => nomatch q), fun q => ?_⟩
    rw [q] at h
    simp at h
  · have hlen : d.l0.length = d.l1.length := by have q := h; simp at q; omega
    refine ⟨Int, fun i => [(5, .int .i64 i)], fun _ => [], fun i => (0 ≤ i ∧ i ≤ d.l0.length) ∧ ∀ k : Nat, (k : Int) < i → d.l0.getD k 0 = d.l1.getD k 0, fun i => ((d.l0.length : Int) - i).toNat, ⟨0, ⟨by omega, fun k hk => absurd hk (by omega)⟩, (by repeat (first | exact trivial | refine ⟨rfl, ?_⟩)), (by repeat (first | exact trivial | refine ⟨rfl, ?_⟩))⟩, ?_⟩
    rintro i ⟨hi, he⟩
    refine ⟨⟨rfl, rfl⟩, ?_⟩
    refine ⟨fun hlt => ?_, fun hge => ?_⟩
    · have hlt2 : i < (d.l0.length : Int) := of_decide_eq_true hlt
      refine ⟨⟨Nat.le_refl _, hi.1, hlt2⟩, ?_⟩
      refine ⟨⟨Nat.le_refl _, hi.1, by omega⟩, ?_⟩
      refine ⟨fun hne => ?_, fun heq => ?_⟩
      · have hne2 : d.l0.getD i.toNat 0 ≠ d.l1.getD i.toNat 0 := by simpa using hne
        exact ⟨false, rfl, (fun q => nomatch q), fun q => absurd (by rw [q]) hne2⟩
      · have hq : d.l0.getD i.toNat 0 = d.l1.getD i.toNat 0 := by simpa using heq
        refine ⟨_, ?_, (by repeat (first | exact trivial | refine ⟨rfl, ?_⟩)), (by repeat (first | exact trivial | refine ⟨rfl, ?_⟩))⟩
        rw [wrapi (n := i + 1) (by omega)]
        dsimp only
        refine ⟨⟨⟨by omega, by omega⟩, fun k hk => ?_⟩, by omega⟩
        by_cases hki : (k : Int) < i
        · exact he k hki
        · obtain rfl : k = i.toNat := by omega
          exact hq
    · have hge2 : ¬ i < (d.l0.length : Int) := of_decide_eq_false hge
      exact ⟨true, rfl, fun _ => list_eq_of 0 hlen fun k hk => he k (by omega), fun _ => rfl⟩
theorem EqT_calls (A A2 : Option Addr) (c c2 : Nat) (l l2 : List TS) (w : World) (hm : l.length ≤ 1000000) (hr : Rd w (· < w.heap.size) A (flat tsC l)) (hr2 : Rd w (· < w.heap.size) A2 (flat tsC l2)) :
    Calls Tryz.prog 66 #[.slice A l.length c, .slice A2 l2.length c2] w fun e w' => ∃ b, e = .returned (.bool b) ∧ (b = true ↔ l = l2) ∧ Below w.heap.size w w' := by
  refine (uni_calls ttOk (FTok.i ft_nil _) Tryz.func66 rfl (D := eqD) (by kernel_rfl) (vs := [slc 9 l.length c, slc 11 l2.length c2]) rfl { y := { noA with at_ := A }, y2 := { noA with at_ := A2 } } { s := { noS with tenants := l }, s2 := { noS with tenants := l2 } } w { s := ⟨hr, fun h => absurd rfl h⟩, s2 := ⟨hr2, fun h => absurd rfl h⟩ } (fun v hv => by
    simp only [List.mem_cons, List.not_mem_nil, or_false] at hv
    rcases hv with rfl | rfl <;> exact ⟨by decide, rfl⟩) (eqT_sx { s := { noS with tenants := l }, s2 := { noS with tenants := l2 } } c c2 hm)).mono ?_
  rintro e w' ⟨v, mem', nx', ρ', rfl, ⟨b, rfl, hb⟩, hv, hm', hbw⟩
  exact ⟨b, rfl, hb, hbw⟩
def ctEqT : CT := fun vs mem nx K => ∃ r r2 c c2 l l2, vs = [slc r (l : List TS).length c, slc r2 (l2 : List TS).length c2] ∧ (HasRow mem r 12 tsC default l ∧ HasRow mem r2 12 tsC default l2) ∧ l.length ≤ 1000000 ∧ ∀ b, (b = true ↔ l = l2) → K (.bool b) mem nx
theorem eqTOk : CSound Tryz.prog 66 ctEqT := ⟨by kernel_rfl, fun {C ρ fr mem nx a w vs K} hc hs hv => by
  obtain ⟨r, r2, c, c2, l, l2, rfl, ⟨h1, h2⟩, hm, hK⟩ := hc
  refine (EqT_calls (ρ r).A (ρ r2).A c c2 l l2 w hm (hs.hasRd (enc := tsC) (sz := 12) (fun _ => rfl) (by omega) h1) (hs.hasRd (enc := tsC) (sz := 12) (fun _ => rfl) (by omega) h2)).mono ?_
  rintro e w' ⟨b, rfl, hb, hbw⟩
  exact ⟨.bool b, mem, nx, ρ, rfl, hK b hb, hs.later hbw, trivial, ExtS.refl _ _⟩⟩
theorem EqC_calls (A A2 : Option Addr) (c c2 : Nat) (l l2 : List CS) (w : World) (hm : l.length ≤ 1000000) (hr : Rd w (· < w.heap.size) A (flat csC l)) (hr2 : Rd w (· < w.heap.size) A2 (flat csC l2)) :
    Calls Tryz.prog 67 #[.slice A l.length c, .slice A2 l2.length c2] w fun e w' => ∃ b, e = .returned (.bool b) ∧ (b = true ↔ l = l2) ∧ Below w.heap.size w w' := by
  refine (uni_calls ttOk (FTok.i ft_nil _) Tryz.func67 rfl (D := eqD) (by kernel_rfl) (vs := [slc 10 l.length c, slc 12 l2.length c2]) rfl { y := { noA with ac := A }, y2 := { noA with ac := A2 } } { s := { noS with cells := l }, s2 := { noS with cells := l2 } } w { s := ⟨fun h => absurd rfl h, hr⟩, s2 := ⟨fun h => absurd rfl h, hr2⟩ } (fun v hv => by
    simp only [List.mem_cons, List.not_mem_nil, or_false] at hv
    rcases hv with rfl | rfl <;> exact ⟨by decide, rfl⟩) (eqC_sx { s := { noS with cells := l }, s2 := { noS with cells := l2 } } c c2 hm)).mono ?_
  rintro e w' ⟨v, mem', nx', ρ', rfl, ⟨b, rfl, hb⟩, hv, hm', hbw⟩
  exact ⟨b, rfl, hb, hbw⟩
def ctEqC : CT := fun vs mem nx K => ∃ r r2 c c2 l l2, vs = [slc r (l : List CS).length c, slc r2 (l2 : List CS).length c2] ∧ (HasRow mem r 4 csC default l ∧ HasRow mem r2 4 csC default l2) ∧ l.length ≤ 1000000 ∧ ∀ b, (b = true ↔ l = l2) → K (.bool b) mem nx
theorem eqCOk : CSound Tryz.prog 67 ctEqC := ⟨by kernel_rfl, fun {C ρ fr mem nx a w vs K} hc hs hv => by
  obtain ⟨r, r2, c, c2, l, l2, rfl, ⟨h1, h2⟩, hm, hK⟩ := hc
  refine (EqC_calls (ρ r).A (ρ r2).A c c2 l l2 w hm (hs.hasRd (enc := csC) (sz := 4) (fun _ => rfl) (by omega) h1) (hs.hasRd (enc := csC) (sz := 4) (fun _ => rfl) (by omega) h2)).mono ?_
  rintro e w' ⟨b, rfl, hb, hbw⟩
  exact ⟨.bool b, mem, nx, ρ, rfl, hK b hb, hs.later hbw, trivial, ExtS.refl _ _⟩⟩
theorem EqI_calls (A A2 : Option Addr) (c c2 : Nat) (l l2 : List Int) (w : World) (hm : l.length ≤ 1000000) (hr : Rd w (· < w.heap.size) A (flat intC l)) (hr2 : Rd w (· < w.heap.size) A2 (flat intC l2)) :
    Calls Tryz.prog 28 #[.slice A l.length c, .slice A2 l2.length c2] w fun e w' => ∃ b, e = .returned (.bool b) ∧ (b = true ↔ l = l2) ∧ Below w.heap.size w w' := by
  refine (uni_calls ttOk (FTok.i ft_nil _) Tryz.func28 rfl (D := eqD1) (by kernel_rfl) (vs := [slc 0 l.length c, slc 1 l2.length c2]) rfl { a0 := A, a1 := A2 } { l0 := l, l1 := l2 } w { r0 := hr, r1 := hr2 } (fun v hv => by
    simp only [List.mem_cons, List.not_mem_nil, or_false] at hv
    rcases hv with rfl | rfl <;> exact ⟨by decide, rfl⟩) (eqI_sx { l0 := l, l1 := l2 } c c2 hm)).mono ?_
  rintro e w' ⟨v, mem', nx', ρ', rfl, ⟨b, rfl, hb⟩, hv, hm', hbw⟩
  exact ⟨b, rfl, hb, hbw⟩
def ctEqI : CT := fun vs mem nx K => ∃ r r2 c c2 l l2, vs = [slc r (l : List Int).length c, slc r2 (l2 : List Int).length c2] ∧ (HasRow mem r 1 intC 0 l ∧ HasRow mem r2 1 intC 0 l2) ∧ l.length ≤ 1000000 ∧ ∀ b, (b = true ↔ l = l2) → K (.bool b) mem nx
theorem eqIOk : CSound Tryz.prog 28 ctEqI := ⟨by kernel_rfl, fun {C ρ fr mem nx a w vs K} hc hs hv => by
  obtain ⟨r, r2, c, c2, l, l2, rfl, ⟨h1, h2⟩, hm, hK⟩ := hc
  refine (EqI_calls (ρ r).A (ρ r2).A c c2 l l2 w hm (hs.hasRd (enc := intC) (sz := 1) (fun _ => rfl) (by omega) h1) (hs.hasRd (enc := intC) (sz := 1) (fun _ => rfl) (by omega) h2)).mono ?_
  rintro e w' ⟨b, rfl, hb, hbw⟩
  exact ⟨.bool b, mem, nx, ρ, rfl, hK b hb, hs.later hbw, trivial, ExtS.refl _ _⟩⟩
end Go.Proofs.YtjobcfpnmfjlfaaGreat

namespace Go.Proofs.YtjobcfpnmfjlfaaGreat
open Go.RowKit
set_option linter.unusedSimpArgs false
set_option linter.unusedVariables false

/-! state.Same -/
def sgF : FT := [(66, ctEqT), (67, ctEqC)]
theorem sgFok : FTok Tryz.prog sgF := ft_cons eqTOk (ft_cons eqCOk ft_nil)
theorem st_eq {s s2 : St} (e0 : s.tick = s2.tick) (e1 : s.count = s2.count) (e2 : s.tenants = s2.tenants) (e3 : s.cells = s2.cells) (e4 : s.proven = s2.proven) (e5 : s.evac = s2.evac) (e6 : s.low = s2.low) (e7 : s.high = s2.high) : s = s2 := by
  obtain ⟨a1, a2, a3, a4, a5, a6, a7, a8⟩ := s
  obtain ⟨b1, b2, b3, b4, b5, b6, b7, b8⟩ := s2
  simp only at e0 e1 e2 e3 e4 e5 e6 e7
  subst e0 e1 e2 e3 e4 e5 e6 e7
  rfl
set_option maxRecDepth 100000 in
set_option maxHeartbeats 4000000 in
theorem sSame_sx (d : UD) (y y2 : StK) (hm : d.s.tenants.length ≤ 1000000) (hm2 : d.s.cells.length ≤ 1000000) :
    sx tt sgF [] (bodyOf Tryz.f31) (argF 0 [stV SNu y d.s, stV SNv y2 d.s2]) (uniM d) 13 (endx tt Tryz.f31.results.toList fun v _ _ => ∃ b, v = .bool b ∧ (b = true ↔ d.s = d.s2)) := by
  have hEq := @st_eq d.s d.s2
  refine ⟨fun h0 => ?_, fun h0 => ?_⟩
  · have e0 : d.s.tick = d.s2.tick := of_decide_eq_true h0
    refine ⟨fun h1 => ?_, fun h1 => ?_⟩
    · have e1 : d.s.count = d.s2.count := of_decide_eq_true h1
      refine ⟨9, 11, _, _, d.s.tenants, d.s2.tenants, rfl, ⟨⟨_, _, _, rfl, Nat.le_refl _, fun k hk => rfl⟩, ⟨_, _, _, rfl, Nat.le_refl _, fun k hk => rfl⟩⟩, hm, ?_⟩
      intro b2 hb2
      refine ⟨fun h2 => ?_, fun h2 => ?_⟩
      · have e2 := hb2.1 h2
        refine ⟨10, 12, _, _, d.s.cells, d.s2.cells, rfl, ⟨⟨_, _, _, rfl, Nat.le_refl _, fun k hk => rfl⟩, ⟨_, _, _, rfl, Nat.le_refl _, fun k hk => rfl⟩⟩, hm2, ?_⟩
        intro b3 hb3
        refine ⟨fun h3 => ?_, fun h3 => ?_⟩
        · have e3 := hb3.1 h3
          refine ⟨fun h4 => ?_, fun h4 => ?_⟩
          · have e4 : d.s.proven = d.s2.proven := of_decide_eq_true h4
            refine ⟨fun h5 => ?_, fun h5 => ?_⟩
            · have e5 : d.s.evac = d.s2.evac := of_decide_eq_true h5
              refine ⟨fun h6 => ?_, fun h6 => ?_⟩
              · have e6 : d.s.low = d.s2.low := of_decide_eq_true h6
                exact ⟨decide (d.s.high = d.s2.high), rfl, fun q => hEq e0 e1 e2 e3 e4 e5 e6 (of_decide_eq_true q), fun q => by rw [q]; exact decide_eq_true rfl⟩
              · repeat (first | refine ⟨fun _ => ?_, fun h => Bool.noConfusion h⟩ | refine ⟨fun h => Bool.noConfusion h, fun _ => ?_⟩ | fail)
                refine ⟨false, rfl, (fun q => nomatch q), fun q => ?_⟩
                rw [q] at h6
                simp at h6
            · repeat (first | refine ⟨fun _ => ?_, fun h => Bool.noConfusion h⟩ | refine ⟨fun h => Bool.noConfusion h, fun _ => ?_⟩ | fail)
              refine ⟨false, rfl, (fun q => nomatch q), fun q => ?_⟩
              rw [q] at h5
              simp at h5
          · repeat (first | refine ⟨fun _ => ?_, fun h => Bool.noConfusion h⟩ | refine ⟨fun h => Bool.noConfusion h, fun _ => ?_⟩ | fail)
            refine ⟨false, rfl, (fun q => nomatch q), fun q => ?_⟩
            rw [q] at h4
            simp at h4
        · repeat (first | refine ⟨fun _ => ?_, fun h => Bool.noConfusion h⟩ | refine ⟨fun h => Bool.noConfusion h, fun _ => ?_⟩ | fail)
          refine ⟨false, rfl, (fun q => nomatch q), fun q => ?_⟩
          rw [hb3.2 (by rw [q])] at h3
          cases h3
      · repeat (first | refine ⟨fun _ => ?_, fun h => Bool.noConfusion h⟩ | refine ⟨fun h => Bool.noConfusion h, fun _ => ?_⟩ | fail)
        refine ⟨false, rfl, (fun q => nomatch q), fun q => ?_⟩
        rw [hb2.2 (by rw [q])] at h2
        cases h2
    · repeat (first | refine ⟨fun _ => ?_, fun h => Bool.noConfusion h⟩ | refine ⟨fun h => Bool.noConfusion h, fun _ => ?_⟩ | fail)
      refine ⟨false, rfl, (fun q => nomatch q), fun q => ?_⟩
      rw [q] at h1
      simp at h1
  · repeat (first | refine ⟨fun _ => ?_, fun h => Bool.noConfusion h⟩ | refine ⟨fun h => Bool.noConfusion h, fun _ => ?_⟩ | fail)
    refine ⟨false, rfl, (fun q => nomatch q), fun q => ?_⟩
    rw [q] at h0
    simp at h0
theorem sSame_calls (y : StA) (s : St) (y2 : StA) (s2 : St) (w : World) (hs : StOk w (· < w.heap.size) y s) (hs2 : StOk w (· < w.heap.size) y2 s2) (hm : s.tenants.length ≤ 1000000) (hm2 : s.cells.length ≤ 1000000) :
    Calls Tryz.prog 31 #[.agg (stC y s), .agg (stC y2 s2)] w fun e w' => ∃ b, e = .returned (.bool b) ∧ (b = true ↔ s = s2) ∧ Below w.heap.size w w' := by
  have := uni_calls ttOk (sgFok.i _) Tryz.func31 rfl (D := []) (by kernel_rfl) (vs := [stV SNu (sk y) s, stV SNv (sk y2) s2]) rfl { y := y, y2 := y2 } { s := s, s2 := s2 } w { s := hs, s2 := hs2 } (fun v hv => by
    simp only [List.mem_cons, List.not_mem_nil, or_false] at hv
    rcases hv with rfl | rfl
    · exact upl_st_ok { y := y, y2 := y2 } { s := s, s2 := s2 }
    · exact upl_st2_ok { y := y, y2 := y2 } { s := s, s2 := s2 }) (sSame_sx { s := s, s2 := s2 } (sk y) (sk y2) hm hm2)
  rw [List.map_cons, List.map_cons] at this
  have e0 := upl_st { y := y, y2 := y2 } { s := s, s2 := s2 }
  have e1 := upl_st2 { y := y, y2 := y2 } { s := s, s2 := s2 }
  dsimp only at e0 e1 this
  rw [e0, e1] at this
  refine this.mono ?_
  rintro e w' ⟨v, mem', nx', ρ', rfl, ⟨b, rfl, hb⟩, hv, hm', hbw⟩
  exact ⟨b, rfl, hb, hbw⟩
def ctSameS : CT := fun vs mem nx K => ∃ M y s M2 y2 s2, vs = [stV M y s, stV M2 y2 s2] ∧ (HasRow mem M.t 12 tsC default s.tenants ∧ HasRow mem M.c 4 csC default s.cells ∧ HasRow mem M2.t 12 tsC default s2.tenants ∧ HasRow mem M2.c 4 csC default s2.cells) ∧ (s.tenants.length ≤ 1000000 ∧ s.cells.length ≤ 1000000) ∧ ∀ b, (b = true ↔ s = s2) → K (.bool b) mem nx
theorem sameSOk : CSound Tryz.prog 31 ctSameS := ⟨by kernel_rfl, fun {C ρ fr mem nx a w vs K} hc hs hv => by
  obtain ⟨M, y, s, M2, y2, s2, rfl, ⟨h1, h2, h3, h4⟩, ⟨hm, hm2⟩, hK⟩ := hc
  rw [List.map_cons, List.map_cons, den_st, den_st]
  refine (sSame_calls (stX ρ M y) s (stX ρ M2 y2) s2 w (hs.stRow h1 h2) (hs.stRow h3 h4) hm hm2).mono ?_
  rintro e w' ⟨b, rfl, hb, hbw⟩
  exact ⟨.bool b, mem, nx, ρ, rfl, hK b hb, hs.later hbw, trivial, ExtS.refl _ _⟩⟩
end Go.Proofs.YtjobcfpnmfjlfaaGreat

namespace Go.Proofs.YtjobcfpnmfjlfaaGreat
open Go.RowKit
set_option linter.unusedSimpArgs false
set_option linter.unusedVariables false

/-! A quicker check of a region's order: who has come up is kept as one number. -/
def lsm (n L : Nat) : Array Bool := ((List.range n).map fun i => L.testBit i).toArray
theorem lsm_size (n L : Nat) : (lsm n L).size = n := by simp [lsm]
theorem lsm_zero (n : Nat) : Array.replicate n false = lsm n 0 := by
  apply Array.ext
  · simp [lsm]
  · intro i h1 h2; simp [lsm]
theorem lsm_set (n L i : Nat) : (lsm n L).setIfInBounds i true = lsm n (L ||| 2 ^ i) := by
  apply Array.ext
  · simp [lsm]
  · intro j h1 h2
    have hj : j < n := by simpa [lsm] using h2
    rw [Array.getElem_setIfInBounds (by rw [lsm_size]; exact hj)]
    by_cases h : i = j
    · subst h; simp [lsm, Nat.testBit_or, Nat.testBit_two_pow]
    · simp [lsm, Nat.testBit_or, Nat.testBit_two_pow, h]
noncomputable def fastB (ops : Array Oper) (n : Nat) (σ : List (Nat × Bool)) : Nat → Bool :=
  List.rec (motive := fun _ => Nat → Bool) (fun L => seqHB ops [] (lsm n L))
    (fun p _ ih L => match p.2 with
      | false => Region.free .any ops (lsm n L) p.1 && (Region.ready .any ops (lsm n L)).contains p.1 && ih (L ||| 2 ^ p.1)
      | true => (match Region.ready .any ops (lsm n L) with
        | [j] => Nat.beq j p.1 && ih (L ||| 2 ^ p.1)
        | _ => false)) σ
theorem fastB_float (ops : Array Oper) (n : Nat) : ∀ (σ : List (Nat × Bool)) (L m : Nat), σ.length < m → fastB ops n σ L = true → floatB ops [] m σ (lsm n L) [] = true
  | [], L, 0, hm, h => by simp at hm
  | [], L, m + 1, hm, h => h
  | p :: r, L, 0, hm, h => by simp at hm
  | (i, b) :: r, L, m + 1, hm, h => by
    cases b with
    | false =>
      have h : (Region.free .any ops (lsm n L) i && (Region.ready .any ops (lsm n L)).contains i && fastB ops n r (L ||| 2 ^ i)) = true := h
      simp only [Bool.and_eq_true] at h
      rw [floatB]
      simp only [Bool.and_eq_true]
      exact ⟨h.1, by rw [lsm_set]; exact fastB_float ops n r _ m (by simpa using hm) h.2⟩
    | true =>
      have h : (match Region.ready .any ops (lsm n L) with
        | [j] => Nat.beq j i && fastB ops n r (L ||| 2 ^ i)
        | _ => false) = true := h
      rw [floatB]
      split at h
      · rename_i j hj
        simp only [Bool.and_eq_true] at h
        have hji := Nat.eq_of_beq_eq_true h.1
        subst hji
        rw [hj]
        have := fastB_float ops n r _ m (by simpa using hm) h.2
        rw [lsm_set]
        simp [this]
      · cases h
/-- lastB, where all operations are drawn. -/
def lastF (l : List Oper) (k : Nat) : Bool := Nat.beq k l.length &&
  ((List.range k).all fun i => match l[i]? with
    | none => true
    | some o => (o.after.all fun e => !Region.binds .any e || decide (e.on < i)) && (match o.guard with | none => true | some (g, _) => decide (g < k))) &&
  Region.seqB .any l.toArray (l.drop k).length k (Array.replicate k true ++ Array.replicate (l.length - k) false)
theorem lastF_ok {l : List Oper} {k : Nat} (h : lastF l k = true) : lastB l k = true := by
  unfold lastF at h
  simp only [Bool.and_eq_true] at h
  obtain ⟨⟨h1, h2⟩, h3⟩ := h
  have hk := Nat.eq_of_beq_eq_true h1
  unfold lastB
  simp only [Bool.and_eq_true]
  refine ⟨⟨⟨decide_eq_true (by omega), h2⟩, ?_⟩, h3⟩
  rw [List.all_eq_true]
  intro j hj
  rw [show decide (j < k) = true from decide_eq_true (by rw [hk]; exact List.mem_range.1 hj)]
  rfl
noncomputable def dregF (l : List Oper) (d : DP) : Bool :=
  lastF l d.k && Region.noSelect (l.take d.k).toArray && decide (d.pre.length + d.A.length + d.post.length = d.k) && (match d.A, d.post with | [], [] => fastB (l.take d.k).toArray d.k d.pre 0 | _, _ => false)
theorem dregF_ok {l : List Oper} {d : DP} (h : dregF l d = true) : dregB l d = true := by
  unfold dregF at h
  simp only [Bool.and_eq_true] at h
  obtain ⟨⟨⟨h1, h2⟩, h3⟩, h4⟩ := h
  unfold dregB
  cases hA : d.A with
  | cons a r => rw [hA] at h4; simp at h4
  | nil =>
    cases hp : d.post with
    | cons a r => rw [hA, hp] at h4; simp at h4
    | nil =>
      rw [hA, hp] at h4
      rw [hA, hp] at h3
      simp only [Bool.and_eq_true]
      have hl : d.pre.length = d.k := by simpa using h3
      refine ⟨⟨⟨⟨⟨⟨lastF_ok h1, h2⟩, h3⟩, ?_⟩, ?_⟩, rfl⟩, rfl⟩
      · rw [lsm_zero]
        exact fastB_float _ _ _ _ _ (by omega) h4
      · unfold preDst
        rw [List.all_eq_true]
        intro p hp
        split <;> simp
/-- codeB; regions marked by sl are checked the quicker way. -/
noncomputable def codeF (nt : Nat) (D : List (Nat × DQ)) : Code → Bool
  | .region id ops draw => (ops.toList.all fun o => match o.dst with | some d => decide (d < nt) | none => true) && (match draw with
    | false => true
    | true => (match lk D id with | some d => (match d.g with | none => (match d.sl with | [] => dregB ops.toList d.toDP | _ :: _ => dregF ops.toList d.toDP) && (match d.A with | [] => true | _ :: _ => ops.toList.all fun o => inlOk (inlOf D) o.op) | some σ => gregB ops.toList d.k σ) | none => false))
  | .seq a b => codeF nt D a && codeF nt D b
  | .cond _ a b => codeF nt D a && codeF nt D b
  | .block _ a => codeF nt D a
  | .loop a => codeF nt D a
  | .scope a => codeF nt D a
  | _ => true
theorem codeF_ok {nt : Nat} {D : List (Nat × DQ)} (c : Code) (h : codeF nt D c = true) : codeB nt D c = true := by
  induction c with
  | region id ops draw =>
    unfold codeF at h
    unfold codeB
    simp only [Bool.and_eq_true] at h ⊢
    refine ⟨h.1, ?_⟩
    have h2 := h.2
    cases draw with
    | false => rfl
    | true =>
      revert h2
      cases hd : lk D id with
      | none => intro h2; exact h2
      | some d =>
        dsimp only
        cases hg : d.g with
        | some σ => intro h2; exact h2
        | none =>
          intro h2
          simp only [Bool.and_eq_true] at h2 ⊢
          refine ⟨?_, h2.2⟩
          have h3 := h2.1
          cases hs : d.sl with
          | nil => rw [hs] at h3; exact h3
          | cons a r => rw [hs] at h3; exact dregF_ok h3
  | seq a b iha ihb =>
    have h : (codeF nt D a && codeF nt D b) = true := h
    show (codeB nt D a && codeB nt D b) = true
    simp only [Bool.and_eq_true] at h ⊢
    exact ⟨iha h.1, ihb h.2⟩
  | cond _ a b iha ihb =>
    have h : (codeF nt D a && codeF nt D b) = true := h
    show (codeB nt D a && codeB nt D b) = true
    simp only [Bool.and_eq_true] at h ⊢
    exact ⟨iha h.1, ihb h.2⟩
  | block _ a ih => exact ih h
  | loop a ih => exact ih h
  | scope a ih => exact ih h
  | _ => rfl
end Go.Proofs.YtjobcfpnmfjlfaaGreat

namespace Go.Proofs.YtjobcfpnmfjlfaaGreat
open Go.RowKit
set_option linter.unusedSimpArgs false
set_option linter.unusedVariables false

/-! law12.StateFolds -/
theorem foldGo_inv {c : Cfg} (hV : CfgV c) : ∀ (es : List Ent) (i : Int) {s : St}, RInv c s → RInv c (foldGo c i s es).1
  | [], i, s, h => h
  | e :: es, i, s, h => by
    rw [foldGo]
    split
    · exact h
    · rename_i q
      exact foldGo_inv hV es _ (h.step hV (e := e) (x := (applyP c s e).1) (by rw [← show (applyP c s e).2 = 0 by simpa using q]))
def flF : FT := [(9, ctLight), (10, ctAwake), (11, ctConfig), (26, ctEntries), (14, ctFold), (27, ctFoldR), (13, ctMod), (17, ctState), (16, ctSameH), (29, ctUnpP), (30, ctUnpR), (28, ctEqI), (31, ctSameS)]
theorem flFok : FTok Tryz.prog flF := ft_cons lightOk (ft_cons awakeOk (ft_cons configOk (ft_cons entriesOk (ft_cons foldOk (ft_cons foldROk (ft_cons modOk (ft_cons stateOk (ft_cons sameHOk (ft_cons unpPOk (ft_cons unpROk (ft_cons eqIOk (ft_cons sameSOk ft_nil))))))))))))
def flD : List (Nat × DQ) := [(7, { k := 6, L := [19], A := [5], pre := [(0, false), (1, false), (2, false), (3, true), (4, true)], post := [] }),
  (8, { sl := [1], k := 38, L := [23, 26, 27], pre := [(0, true), (1, false), (2, false), (3, false), (4, true), (5, false), (6, false), (7, false), (8, false), (9, false), (10, false), (11, false), (12, false), (13, false), (14, false), (15, false), (16, false), (17, false), (19, false), (18, true), (20, true), (21, true), (22, false), (23, false), (24, false), (25, false), (27, false), (28, false), (26, true), (29, true), (30, false), (31, false), (32, false), (33, false), (34, false), (35, true), (36, false), (37, false)] })]
set_option maxRecDepth 100000 in
set_option maxHeartbeats 4000000 in
theorem folds_sx (cap0 cap1 : Nat) (l more : List Int) (n : Int) (hm0 : l.length ≤ maxLen) (hm1 : more.length ≤ maxLen) :
    sx tt flF flD (bodyOf Tryz.f7) (argF 0 [slc 0 l.length cap0, slc 1 more.length cap1, .int .i64 n]) (uniM { l0 := l, l1 := more }) 13 (endx tt Tryz.f7.results.toList fun v _ _ => v = .bool true) := by
  refine ⟨0, cap0, l, rfl, rfl, hm0, ?_⟩
  refine ⟨fun h => ?_, fun h0 => ?_⟩
  · refine ⟨fun _ => ?_, fun h => nomatch h⟩
    refine ⟨rfl, ?_⟩
    exact rfl
  · refine ⟨1, cap1, more, rfl, rfl, hm1, ?_⟩
    refine ⟨fun _ => ?_, fun h1 => ?_⟩
    · refine ⟨rfl, ?_⟩
      exact rfl
    · have hm2 : more.length ≤ 200 := by simpa using h1
      refine ⟨0, cap0, l, rfl, rfl, (by have q : l.length ≤ 200 := (by simpa using h0); omega), ?_⟩
      intro xk c hM
      have hV := cfgV_of hM.valid
      have hnt := hV.nt
      have hnc := hV.nc
      refine ⟨⟨18, 17, 16, 15, 14, 13, 500000⟩, xk, c, 1, cap1, more, 40, rfl, ⟨(by repeat (first | exact trivial | refine ⟨rfl, ?_⟩)), ⟨_, _, _, rfl, Nat.le_refl _, fun k hk => rfl⟩⟩, ⟨hV, by omega, by decide⟩, ?_⟩
      intro es cap2 hen
      refine ⟨⟨18, 17, 16, 15, 14, 13, 500000⟩, xk, c, 20, cap2, es, rfl, (by repeat (first | exact trivial | refine ⟨rfl, ?_⟩)), ⟨_, _, _, rfl, Nat.le_refl _, fun k hk => rfl⟩, hV, by omega, ?_⟩
      intro y1
      refine ⟨⟨18, 17, 16, 15, 14, 13, 500000⟩, xk, c, 20, cap2, es, rfl, ⟨(by repeat (first | exact trivial | refine ⟨rfl, ?_⟩)), ⟨_, _, _, rfl, Nat.le_refl _, fun k hk => rfl⟩⟩, ⟨hV, by omega⟩, ?_⟩
      intro y2
      have hI := (foldGo_inv hV es 0 (RInv.new hV)).inv
      change StInv c (foldC c es).1 at hI
      generalize foldC c es = r at hI ⊢
      obtain ⟨s, i, e⟩ := r
      dsimp only at hI
      have htn := hI.lt
      have hcn := hI.lc
      have hpv := hI.proven
      refine ⟨n, 40, rfl, ⟨by decide, by decide⟩, ?_⟩
      refine ⟨(by repeat (first | exact trivial | refine ⟨rfl, ?_⟩)), ?_⟩
      have hk0 : 0 ≤ n % 40 := Int.emod_nonneg _ (by decide)
      have hk1 : n % 40 < 40 := Int.emod_lt_of_pos _ (by decide)
      generalize n % 40 = k at hk0 hk1 ⊢
      refine ⟨⟨18, 17, 16, 15, 14, 13, 500000⟩, xk, c, 1, cap1, more, k, rfl, ⟨(by repeat (first | exact trivial | refine ⟨rfl, ?_⟩)), ⟨_, _, _, rfl, Nat.le_refl _, fun k hk => rfl⟩⟩, ⟨hV, by omega, hk0, by omega⟩, ?_⟩
      intro es2 s2 y3 hR2 hen2
      refine ⟨(by repeat (first | exact trivial | refine ⟨rfl, ?_⟩)), ?_⟩
      refine ⟨rfl, ?_⟩
      refine ⟨(by repeat (first | exact trivial | refine ⟨rfl, ?_⟩)), ?_⟩
      refine ⟨fun _ => ?_, fun q => absurd q (by simp)⟩
      refine ⟨_, s, _, s, rfl, ⟨.inl ⟨_, _, rfl, ⟨_, _, _, rfl, Nat.le_refl _, fun k hk => rfl⟩, ⟨_, _, _, rfl, Nat.le_refl _, fun k hk => rfl⟩⟩, .inl ⟨_, _, rfl, ⟨_, _, _, rfl, Nat.le_refl _, fun k hk => rfl⟩, ⟨_, _, _, rfl, Nat.le_refl _, fun k hk => rfl⟩⟩⟩, ⟨by omega, by omega⟩, ?_⟩
      intro b1 hb1
      obtain rfl : b1 = true := hb1.2 rfl
      refine ⟨(by repeat (first | exact trivial | refine ⟨rfl, ?_⟩)), ?_⟩
      refine ⟨fun _ => ?_, fun q => absurd q (by simp)⟩
      refine ⟨fun _ => ?_, fun q => absurd q (by simp)⟩
      refine ⟨fun _ => ?_, fun q => absurd q (by simp)⟩
      refine ⟨_, _, s, rfl, ⟨⟨_, _, _, rfl, Nat.le_refl _, fun k hk => rfl⟩, ⟨_, _, _, rfl, Nat.le_refl _, fun k hk => rfl⟩⟩, ⟨c, hV, hI⟩, ?_⟩
      intro cp1
      refine ⟨(by repeat (first | exact trivial | refine ⟨rfl, ?_⟩)), ?_⟩
      refine ⟨_, _, s, rfl, ⟨⟨_, _, _, rfl, Nat.le_refl _, fun k hk => rfl⟩, ⟨_, _, _, rfl, Nat.le_refl _, fun k hk => rfl⟩⟩, ⟨by omega, by omega, by omega⟩, ?_⟩
      intro cp2
      refine ⟨(by repeat (first | exact trivial | refine ⟨rfl, ?_⟩)), ?_⟩
      refine ⟨_, _, _, _, unproven s, unproven s, rfl, ⟨⟨_, _, _, rfl, Nat.le_refl _, fun k hk => rfl⟩, ⟨_, _, _, rfl, Nat.le_refl _, fun k hk => rfl⟩⟩, by have := unpL_le s s.cells.length; rw [unpL_all] at this; omega, ?_⟩
      intro b2 hb2
      obtain rfl : b2 = true := hb2.2 rfl
      refine ⟨(by repeat (first | exact trivial | refine ⟨rfl, ?_⟩)), ?_⟩
      refine ⟨fun _ => ?_, fun q => absurd q (by simp)⟩
      refine ⟨_, _, s, _, _, s2, rfl, ⟨⟨_, _, _, rfl, Nat.le_refl _, fun k hk => rfl⟩, ⟨_, _, _, rfl, Nat.le_refl _, fun k hk => rfl⟩, ⟨_, _, _, rfl, Nat.le_refl _, fun k hk => rfl⟩, ⟨_, _, _, rfl, Nat.le_refl _, fun k hk => rfl⟩⟩, ⟨by omega, by omega⟩, ?_⟩
      intro b3 hb3
      refine ⟨(by repeat (first | exact trivial | refine ⟨rfl, ?_⟩)), ?_⟩
      refine ⟨_, s, _, s2, rfl, ⟨.inl ⟨_, _, rfl, ⟨_, _, _, rfl, Nat.le_refl _, fun k hk => rfl⟩, ⟨_, _, _, rfl, Nat.le_refl _, fun k hk => rfl⟩⟩, .inl ⟨_, _, rfl, ⟨_, _, _, rfl, Nat.le_refl _, fun k hk => rfl⟩, ⟨_, _, _, rfl, Nat.le_refl _, fun k hk => rfl⟩⟩⟩, ⟨by omega, by omega⟩, ?_⟩
      intro b4 hb4
      refine ⟨(by repeat (first | exact trivial | refine ⟨rfl, ?_⟩)), ?_⟩
      obtain rfl : b4 = b3 := by cases b3 <;> cases b4 <;> simp_all
      refine ⟨fun _ => ?_, fun q => absurd q (by simp)⟩
      refine ⟨_, _, s, _, _, s, rfl, ⟨⟨_, _, _, rfl, Nat.le_refl _, fun k hk => rfl⟩, ⟨_, _, _, rfl, Nat.le_refl _, fun k hk => rfl⟩, ⟨_, _, _, rfl, Nat.le_refl _, fun k hk => rfl⟩, ⟨_, _, _, rfl, Nat.le_refl _, fun k hk => rfl⟩⟩, ⟨by omega, by omega⟩, ?_⟩
      intro b5 hb5
      obtain rfl : b5 = true := hb5.2 rfl
      refine ⟨(by repeat (first | exact trivial | refine ⟨rfl, ?_⟩)), ?_⟩
      rfl
theorem stateFolds_law (a0 : Option Addr) (cap0 : Nat) (z0 : List Int) (a1 : Option Addr) (cap1 : Nat) (z1 : List Int) (n : Int) (W : World) (hr0 : Rd W (· < W.heap.size) a0 (z0.map (Value.int .i64))) (hm0 : z0.length ≤ maxLen) (hr1 : Rd W (· < W.heap.size) a1 (z1.map (Value.int .i64))) (hm1 : z1.length ≤ maxLen) {Q : Prop} (_hq : Q) :
    Calls Tryz.prog 7 #[.slice a0 z0.length cap0, .slice a1 z1.length cap1, .int .i64 n] W fun e w' => e = .returned (.bool true) ∧ Below W.heap.size W w' := by
  rw [← flat_ints] at hr0 hr1
  refine (uni_calls ttOk (flFok.i _) Tryz.func7 rfl (D := flD) (codeF_ok _ (by kernel_rfl)) (vs := [slc 0 z0.length cap0, slc 1 z1.length cap1, .int .i64 n]) rfl { a0 := a0, a1 := a1 } { l0 := z0, l1 := z1 } W { r0 := hr0, r1 := hr1 } (fun v hv => by
    simp only [List.mem_cons, List.not_mem_nil, or_false] at hv
    rcases hv with rfl | rfl | rfl
    · exact ⟨show (0 : Nat) < 13 by decide, rfl⟩
    · exact ⟨show (1 : Nat) < 13 by decide, rfl⟩
    · trivial) (folds_sx cap0 cap1 z0 z1 n hm0 hm1)).mono ?_
  rintro e w' ⟨v, mem', nx', ρ', rfl, rfl, hv, hm', hb⟩
  exact ⟨rfl, hb⟩
end Go.Proofs.YtjobcfpnmfjlfaaGreat
