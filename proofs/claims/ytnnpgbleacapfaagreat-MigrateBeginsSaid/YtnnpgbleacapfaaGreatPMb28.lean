import Derived.Test.YtnnpgbleacapfaaGreatPa16
import Derived.Test.YtnnpgbleacapfaaGreatPa27
namespace Go.Proofs.YtnnpgbleacapfaaGreat
open Go.RowKit
set_option linter.unusedSimpArgs false
set_option linter.unusedVariables false

set_option maxHeartbeats 4000000 in
set_option maxRecDepth 100000 in
theorem awake31b_any (w : World) :
    Calls Tryz.prog 27 #[] w fun e w' => e = .returned (.bool true) ∧ Below w.heap.size w w' := by
  go_enter Tryz.func27, Tryz.ntmps27
  go_wp2
  go_ret
  exact ⟨rfl, (Below.refl _ _).alloc (Nat.le_refl _) _⟩
def ctAwake31 : CT := fun vs mem nx K => vs = [] ∧ K (.bool true) mem nx
theorem awake31Ok : CSound Tryz.prog 27 ctAwake31 := CSound.pure (by kernel_rfl) (by
  rintro vs mem nx K ⟨rfl, hK⟩
  exact ⟨_, hK, fun ρ n => ⟨rfl, trivial⟩, fun ρ w => awake31b_any w⟩)
end Go.Proofs.YtnnpgbleacapfaaGreat

namespace Go.Proofs.YtnnpgbleacapfaaGreat
open Go.RowKit
set_option linter.unusedSimpArgs false
set_option linter.unusedVariables false

/-! law31.MigrateBegins -/
abbrev ctCheckP : CT := ctInl tt [(20, ctApplyO)] [] Tryz.f45 (bodyOf Tryz.f45)
abbrev ckdD : List (Nat × DQ) := [(9000000, { k := 0, L := [45] })]
abbrev ckdF : FT := [(45, ctCheckP)]
abbrev ctChecked : CT := ctInl tt ckdF ckdD Tryz.f60 (bodyOf Tryz.f60)
abbrev bgpD : List (Nat × DQ) := [(9000000, { k := 0, L := [60] })]
abbrev ctBeginP : CT := ctInl tt [(60, ctChecked)] bgpD Tryz.f31 (bodyOf Tryz.f31)
abbrev ctCheckR : CT := ctInl tt [(72, ctApplyR)] [] Tryz.f46 (bodyOf Tryz.f46)
abbrev bgrD : List (Nat × DQ) := [(9000000, { k := 0, L := [46] })]
abbrev ctBeginR : CT := ctInl tt [(46, ctCheckR)] bgrD Tryz.f32 (bodyOf Tryz.f32)
theorem checkPOk {I : List Nat} (hI : I.contains 45 = true) : CSoundI Tryz.prog I 45 ctCheckP := inl_ok ttOk (fti_cons (applyOOk.i _) fti_nil) mixed (by kernel_rfl) Tryz.func45 rfl (by kernel_rfl) hI
theorem checkedOk {I : List Nat} (hI : I.contains 60 = true) : CSoundI Tryz.prog I 60 ctChecked := inl_ok ttOk (fti_cons (checkPOk (by decide)) fti_nil) mixed (by kernel_rfl) Tryz.func60 rfl (by kernel_rfl) hI
theorem beginPOk {I : List Nat} (hI : I.contains 31 = true) : CSoundI Tryz.prog I 31 ctBeginP := inl_ok ttOk (fti_cons (checkedOk (by decide)) fti_nil) mixed (by kernel_rfl) Tryz.func31 rfl (by kernel_rfl) hI
theorem checkROk {I : List Nat} (hI : I.contains 46 = true) : CSoundI Tryz.prog I 46 ctCheckR := inl_ok ttOk (fti_cons (applyROk.i _) fti_nil) mixed (by kernel_rfl) Tryz.func46 rfl (by kernel_rfl) hI
theorem beginROk {I : List Nat} (hI : I.contains 32 = true) : CSoundI Tryz.prog I 32 ctBeginR := inl_ok ttOk (fti_cons (checkROk (by decide)) fti_nil) mixed (by kernel_rfl) Tryz.func32 rfl (by kernel_rfl) hI
def mbF : FT := [(27, ctAwake31), (28, ctLight), (29, ctConfig), (30, ctState), (31, ctBeginP), (32, ctBeginR)]
def mbD : List (Nat × DQ) := [(9000000, { k := 0, L := [31, 32] }),
  (2000008, { k := 0, L := [0, 1, 2, 3, 4, 5, 6, 7, 8, 9, 10, 11, 12, 13, 14, 15, 16, 17, 18, 19, 20, 21, 22], sl := [2, 3, 4, 11, 12, 40] }),
  (2000011, { k := 0, L := [0, 1, 2, 3, 4, 5, 6, 7, 8, 9, 10, 11, 12, 13, 14, 15, 16, 17, 18, 19, 20, 21, 22], sl := [2, 3, 4, 11, 12, 13, 40, 41, 46] })]
theorem mbFok : FTokI Tryz.prog mbF (inlOf mbD) := fti_cons (awake31Ok.i _) (fti_cons (lightOk.i _) (fti_cons (configOk.i _) (fti_cons (stateOk.i _) (fti_cons (beginPOk (by decide)) (fti_cons (beginROk (by decide)) fti_nil)))))
set_option maxRecDepth 100000 in
set_option maxHeartbeats 4000000 in
theorem begins_sx (cap0 cap1 : Nat) (l more : List Int) (ten dst tick : Int) (hm0 : l.length ≤ maxLen) (hm1 : more.length ≤ maxLen) :
    sx tt mbF mbD (bodyOf Tryz.f8) (argF 0 [slc 0 l.length cap0, slc 1 more.length cap1, .int .i64 ten, .int .i64 dst, .int .i64 tick]) (uniM { l0 := l, l1 := more }) 13 (endx tt Tryz.f8.results.toList fun v _ _ => v = .bool true) := by
  refine ⟨rfl, ?_⟩
  refine ⟨fun q => absurd q (by simp), fun _ => ?_⟩
  refine ⟨0, cap0, l, rfl, rfl, hm0, ?_⟩
  refine ⟨fun h => ?_, fun h0 => ?_⟩
  · refine ⟨fun _ => ?_, fun h => nomatch h⟩
    rfl
  · refine ⟨1, cap1, more, rfl, rfl, hm1, ?_⟩
    refine ⟨fun _ => ?_, fun h1 => ?_⟩
    · rfl
    · have hm2 : more.length ≤ 200 := by simpa using h1
      refine ⟨0, cap0, l, rfl, rfl, (by have q : l.length ≤ 200 := (by simpa using h0); omega), ?_⟩
      intro xk c hM
      have hV := cfgV_of hM.valid
      have hnt := hV.nt
      have hnc := hV.nc
      refine ⟨⟨18, 17, 16, 15, 14, 13, 500000⟩, xk, c, 1, cap1, more, 40, rfl, ⟨(by repeat (first | exact trivial | refine ⟨rfl, ?_⟩)), ⟨_, _, _, rfl, Nat.le_refl _, fun k hk => rfl⟩⟩, ⟨hV, by omega, by decide⟩, ?_⟩
      intro es s y hR hen
      have hJ := hR.rinv hV (.new hV)
      have hI := hJ.inv
      have htn := hI.lt
      have hcn := hI.lc
      refine ⟨Int, fun i => [(41, .int .i64 i)], fun _ => [], fun i => 0 ≤ i ∧ i ≤ c.tenants.length, fun i => ((c.tenants.length : Int) - i).toNat, ⟨0, by omega, (by repeat (first | exact trivial | refine ⟨rfl, ?_⟩)), (by repeat (first | exact trivial | refine ⟨rfl, ?_⟩))⟩, ?_⟩
      rintro i hi
      refine ⟨⟨rfl, rfl⟩, ?_⟩
      refine ⟨fun hlt => ?_, fun hge => ?_⟩
      · have hlt2 : i < (c.tenants.length : Int) := of_decide_eq_true hlt
        refine ⟨Int, fun k => [(47, .int .i64 k)], fun _ => [], fun k => 0 ≤ k ∧ k ≤ c.cells.length, fun k => ((c.cells.length : Int) - k).toNat, ⟨0, by omega, (by repeat (first | exact trivial | refine ⟨rfl, ?_⟩)), (by repeat (first | exact trivial | refine ⟨rfl, ?_⟩))⟩, ?_⟩
        rintro k hk
        refine ⟨⟨rfl, rfl⟩, ?_⟩
        refine ⟨fun hlk => ?_, fun hgk => ?_⟩
        · have hlk2 : k < (c.cells.length : Int) := of_decide_eq_true hlk
          have hAR := applyRP (e := (⟨6, s.tick, i, k, -1, 0, 0, 0, 0⟩ : Ent)) hV hI hJ.cap
          refine ⟨⟨18, 17, 16, 15, 14, 13, 500000⟩, xk, c, ⟨21, 20, 500000⟩, y, s, (⟨6, s.tick, i, k, -1, 0, 0, 0, 0⟩ : Ent), rfl, (by repeat (first | exact trivial | refine ⟨rfl, ?_⟩)), ⟨.list rfl, .list rfl⟩, hV, hI, ?_⟩
          intro y3
          generalize hp : applyP c s (⟨6, s.tick, i, k, -1, 0, 0, 0, 0⟩ : Ent) = p at hAR
          obtain ⟨p1, p2⟩ := p
          refine ⟨fun hz => ?_, fun hz => ?_⟩
          · refine ⟨⟨18, 17, 16, 15, 14, 13, 500000⟩, xk, c, ⟨21, 20, 500000⟩, y, s, (⟨6, s.tick, i, k, -1, 0, 0, 0, 0⟩ : Ent), rfl, ⟨(by repeat (first | exact trivial | refine ⟨rfl, ?_⟩)), .list rfl, .list rfl⟩, ⟨hV, hI⟩, ?_⟩
            intro y4
            rw [hAR]
            refine ⟨fun _ => ?_, fun q => absurd (hz.symm.trans q) (by decide)⟩
            refine ⟨fun q => absurd q (by simp [eqCs, eqC1]), fun _ => ?_⟩
            refine ⟨fun q => absurd q (by simp), fun _ => ?_⟩
            refine ⟨_, ?_, (by repeat (first | exact trivial | refine ⟨rfl, ?_⟩)), (by repeat (first | exact trivial | refine ⟨rfl, ?_⟩))⟩
            rw [wrapi (n := k + 1) (by omega)]
            dsimp only
            refine ⟨⟨by omega, by omega⟩, by omega⟩
          · refine ⟨⟨18, 17, 16, 15, 14, 13, 500000⟩, xk, c, ⟨21, 20, 500000⟩, y, s, (⟨6, s.tick, i, k, -1, 0, 0, 0, 0⟩ : Ent), rfl, ⟨(by repeat (first | exact trivial | refine ⟨rfl, ?_⟩)), .list rfl, .list rfl⟩, ⟨hV, hI⟩, ?_⟩
            intro y4
            rw [hAR]
            refine ⟨fun q => absurd (hz.symm.trans q) (by decide), fun _ => ?_⟩
            refine ⟨fun q => absurd q (by simp [eqCs, eqC1]), fun _ => ?_⟩
            refine ⟨fun q => absurd q (by simp), fun _ => ?_⟩
            refine ⟨_, ?_, (by repeat (first | exact trivial | refine ⟨rfl, ?_⟩)), (by repeat (first | exact trivial | refine ⟨rfl, ?_⟩))⟩
            rw [wrapi (n := k + 1) (by omega)]
            dsimp only
            refine ⟨⟨by omega, by omega⟩, by omega⟩
        · refine ⟨_, ?_, (by repeat (first | exact trivial | refine ⟨rfl, ?_⟩)), (by repeat (first | exact trivial | refine ⟨rfl, ?_⟩))⟩
          rw [wrapi (n := i + 1) (by omega)]
          dsimp only
          refine ⟨⟨by omega, by omega⟩, by omega⟩
      · have hAR := applyRP (e := (⟨6, tick, ten, dst, -1, 0, 0, 0, 0⟩ : Ent)) hV hI hJ.cap
        refine ⟨⟨18, 17, 16, 15, 14, 13, 500000⟩, xk, c, ⟨21, 20, 500000⟩, y, s, (⟨6, tick, ten, dst, -1, 0, 0, 0, 0⟩ : Ent), rfl, (by repeat (first | exact trivial | refine ⟨rfl, ?_⟩)), ⟨.list rfl, .list rfl⟩, hV, hI, ?_⟩
        intro y3
        generalize hp : applyP c s (⟨6, tick, ten, dst, -1, 0, 0, 0, 0⟩ : Ent) = p at hAR
        obtain ⟨p1, p2⟩ := p
        refine ⟨fun hz => ?_, fun hz => ?_⟩
        · refine ⟨⟨18, 17, 16, 15, 14, 13, 500000⟩, xk, c, ⟨21, 20, 500000⟩, y, s, (⟨6, tick, ten, dst, -1, 0, 0, 0, 0⟩ : Ent), rfl, ⟨(by repeat (first | exact trivial | refine ⟨rfl, ?_⟩)), .list rfl, .list rfl⟩, ⟨hV, hI⟩, ?_⟩
          intro y4
          rw [hAR]
          refine ⟨fun _ => ?_, fun q => absurd (hz.symm.trans q) (by decide)⟩
          refine ⟨fun _ => ?_, fun q => absurd q (by simp [eqCs, eqC1])⟩
          exact congrArg Value.bool (by simp)
        · refine ⟨⟨18, 17, 16, 15, 14, 13, 500000⟩, xk, c, ⟨21, 20, 500000⟩, y, s, (⟨6, tick, ten, dst, -1, 0, 0, 0, 0⟩ : Ent), rfl, ⟨(by repeat (first | exact trivial | refine ⟨rfl, ?_⟩)), .list rfl, .list rfl⟩, ⟨hV, hI⟩, ?_⟩
          intro y4
          rw [hAR]
          refine ⟨fun q => absurd (hz.symm.trans q) (by decide), fun _ => ?_⟩
          refine ⟨fun _ => ?_, fun q => absurd q (by simp [eqCs, eqC1])⟩
          exact congrArg Value.bool (by simp)
theorem migrateBegins_law (a0 : Option Addr) (cap0 : Nat) (z0 : List Int) (a1 : Option Addr) (cap1 : Nat) (z1 : List Int) (ten dst tick : Int) (W : World) (hr0 : Rd W (· < W.heap.size) a0 (z0.map (Value.int .i64))) (hm0 : z0.length ≤ maxLen) (hr1 : Rd W (· < W.heap.size) a1 (z1.map (Value.int .i64))) (hm1 : z1.length ≤ maxLen) {Q Q2 Q3 : Prop} (_hq : Q) (_hq2 : Q2) (_hq3 : Q3) :
    Calls Tryz.prog 8 #[.slice a0 z0.length cap0, .slice a1 z1.length cap1, .int .i64 ten, .int .i64 dst, .int .i64 tick] W fun e w' => e = .returned (.bool true) ∧ Below W.heap.size W w' := by
  rw [← flat_ints] at hr0 hr1
  refine (uni_calls ttOk mbFok Tryz.func8 rfl (D := mbD) (by kernel_rfl) (vs := [slc 0 z0.length cap0, slc 1 z1.length cap1, .int .i64 ten, .int .i64 dst, .int .i64 tick]) rfl { a0 := a0, a1 := a1 } { l0 := z0, l1 := z1 } W { r0 := hr0, r1 := hr1 } (fun v hv => by
    simp only [List.mem_cons, List.not_mem_nil, or_false] at hv
    rcases hv with rfl | rfl | rfl | rfl | rfl
    · exact ⟨show (0 : Nat) < 13 by decide, rfl⟩
    · exact ⟨show (1 : Nat) < 13 by decide, rfl⟩
    · trivial
    · trivial
    · trivial) (begins_sx cap0 cap1 z0 z1 ten dst tick hm0 hm1)).mono ?_
  rintro e w' ⟨v, mem', nx', ρ', rfl, rfl, hv, hm', hb⟩
  exact ⟨rfl, hb⟩
end Go.Proofs.YtnnpgbleacapfaaGreat
