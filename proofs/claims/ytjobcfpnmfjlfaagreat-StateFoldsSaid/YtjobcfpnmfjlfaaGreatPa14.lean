import Derived.Test.YtjobcfpnmfjlfaaGreatPa13
import Derived.Laws.OwnMore
namespace Go.Proofs.YtjobcfpnmfjlfaaGreat
open Go.RowKit
set_option linter.unusedSimpArgs false
set_option linter.unusedVariables false

def ggrF : FT := [(33, ctNext), (34, ctRange), (35, ctYes)]
theorem ggrFok : FTok Tryz.prog ggrF := ft_cons nextOk (ft_cons rangeOk (ft_cons yesOk ft_nil))
def gcutQ : DQ := { k := 15, L := [1, 9, 10, 11, 13, 14], sl := [0, 5, 6, 7, 8, 9] }
def ggrD : List (Nat × DQ) := [
  (14, { k := 5, L := [12], pre := [(0, false), (1, false), (2, false), (3, true), (4, false)] }),
  (15, { k := 7, L := [12, 10], pre := [(0, false), (1, false), (2, false), (3, false), (4, false), (5, true), (6, false)] }),
  (18, { k := 10, g := some (.fix 0 (.fix 3 (.fix 5 (.three
    1 (.fix 2 (.two 4 (.fix 8 (.act 6 (.fix 7 (.act 9 .fin)))) 6 (.act 4 (.fix 7 (.fix 8 (.act 9 .fin))))))
    4 (.two 1 (.fix 2 (.fix 8 (.act 6 (.fix 7 (.act 9 .fin))))) 6 (.fix 7 (.act 1 (.fix 2 (.fix 8 (.act 9 .fin))))))
    6 (.two 1 (.fix 2 (.act 4 (.fix 7 (.fix 8 (.act 9 .fin))))) 4 (.fix 7 (.act 1 (.fix 2 (.fix 8 (.act 9 .fin))))))))))}),
  (1000007, gcutQ), (1000010, gcutQ), (1000012, gcutQ), (1000015, gcutQ), (1000019, gcutQ), (1000020, gcutQ)]
set_option maxRecDepth 100000 in
set_option maxHeartbeats 4000000 in
theorem grant_sx (cap : Nat) (zs : List Int) (k : Int) (x : CfgK) (c : Cfg) (y : StK) (s : St) (e : Ent) (hz : zs.length ≤ 400) (hk : 0 ≤ k ∧ k ≤ 990000) (hV : CfgV c) (hI : StInv c s) (ht : 0 ≤ e.tenant ∧ e.tenant < s.tenants.length) (hp : (tsAt s e.tenant).placed = true) :
    sx tt ggrF ggrD (bodyOf Tryz.f48) (argF 0 (ptr 0 :: cfgV CN0 x c :: stV SN0 y s :: [entV' e])) ((0, tapeB 1 zs.length cap k) :: (1, intRow zs) :: (cfgM CN0 c ++ stM SN0 s)) 10
      (endx tt Tryz.f48.results.toList fun v mem' _ => ∃ k', EntR k v k' ∧ pureV v ∧ lk mem' 0 = some (tapeB 1 zs.length cap k')) := by
  have hnc := hV.nc
  have hlc := hI.lc
  have hls := hV.lease
  have hti := hI.ten _ (tsAt_mem ht.1 ht.2).2
  have h1 := hti.placed hp
  have h2 := hti.home
  have h3 := hti.standby
  have h4 := hti.target
  unfold tsAt at h1 h2 h3 h4
  rw [← hlc] at h2 h3 h4
  replace h2 := h2.2
  replace h3 := h3.2
  replace h4 := h4.2
  clear hti hp hI hV
  obtain ⟨kind, tick, tenant, cell, other, epoch, since, till, n⟩ := e
  dsimp only [entV'] at *
  refine ⟨⟨Nat.le_refl _, by omega, by omega⟩, ?_⟩
  refine ⟨Ent × Int, fun _ => [], fun y => match y with | (⟨a1, a2, a3, a4, a5, a6, a7, a8, a9⟩, kk) => [(0, tapeB 1 zs.length cap kk), (12, .box 45 [.int .i64 a1, .int .i64 a2, .int .i64 a3, .int .i64 a4, .int .i64 a5, .int .i64 a6, .int .i64 a7, .int .i64 a8, .int .i64 a9])], fun y => (k ≤ y.2 ∧ y.2 ≤ k + 2) ∧ 0 ≤ y.1.cell ∧ y.1.cell < s.cells.length, ?_, ?_⟩
  · refine ⟨fun htg => ?_, fun _ => ?_⟩
    · simp only [decide_eq_true_eq, ge_iff_le] at htg
      refine ⟨0, 1, cap, zs, _, _, rfl, ⟨rfl, rfl⟩, ⟨hz, by omega, by omega⟩, ⟨_, rfl, by omega, by omega⟩, ?_⟩
      rintro _ k1 ⟨b1, rfl, hk1⟩
      refine ⟨fun _ => ?_, fun _ => ?_⟩
      · (refine ⟨(⟨_, _, _, _, _, _, _, _, _⟩, _), ?_, ⟨rfl, rfl, rfl, rfl, rfl, rfl, trivial⟩, ⟨rfl, rfl, rfl, rfl, rfl, rfl, rfl, rfl, trivial⟩⟩; dsimp only; (refine ⟨⟨by omega, by omega⟩, ?_, ?_⟩ <;> first | assumption | omega))
      · refine ⟨fun hs => ?_, fun _ => ?_⟩
        · simp only [decide_eq_true_eq, ge_iff_le] at hs
          refine ⟨0, 1, cap, zs, _, _, rfl, ⟨rfl, rfl⟩, ⟨hz, by omega, by omega⟩, ⟨_, rfl, by omega, by omega⟩, ?_⟩
          rintro _ k2 ⟨b2, rfl, hk2⟩
          refine ⟨fun _ => ?_, fun _ => ?_⟩
          · refine ⟨fun _ => ?_, fun h => nomatch h⟩
            (refine ⟨(⟨_, _, _, _, _, _, _, _, _⟩, _), ?_, ⟨rfl, rfl, rfl, rfl, rfl, rfl, trivial⟩, ⟨rfl, rfl, rfl, rfl, rfl, rfl, rfl, rfl, trivial⟩⟩; dsimp only; (refine ⟨⟨by omega, by omega⟩, ?_, ?_⟩ <;> first | assumption | omega))
          · refine ⟨fun _ => ?_, fun _ => ?_⟩
            · (refine ⟨(⟨_, _, _, _, _, _, _, _, _⟩, _), ?_, ⟨rfl, rfl, rfl, rfl, rfl, rfl, trivial⟩, ⟨rfl, rfl, rfl, rfl, rfl, rfl, rfl, rfl, trivial⟩⟩; dsimp only; (refine ⟨⟨by omega, by omega⟩, ?_, ?_⟩ <;> first | assumption | omega))
            · (refine ⟨(⟨_, _, _, _, _, _, _, _, _⟩, _), ?_, ⟨rfl, rfl, rfl, rfl, rfl, rfl, trivial⟩, ⟨rfl, rfl, rfl, rfl, rfl, rfl, rfl, rfl, trivial⟩⟩; dsimp only; (refine ⟨⟨by omega, by omega⟩, ?_, ?_⟩ <;> first | assumption | omega))
        · refine ⟨(fun h => nomatch h), fun _ => ?_⟩
          (refine ⟨(⟨_, _, _, _, _, _, _, _, _⟩, _), ?_, ⟨rfl, rfl, rfl, rfl, rfl, rfl, trivial⟩, ⟨rfl, rfl, rfl, rfl, rfl, rfl, rfl, rfl, trivial⟩⟩; dsimp only; (refine ⟨⟨by omega, by omega⟩, ?_, ?_⟩ <;> first | assumption | omega))
    · refine ⟨(fun h => nomatch h), fun _ => ?_⟩
      refine ⟨fun hs => ?_, fun _ => ?_⟩
      · simp only [decide_eq_true_eq, ge_iff_le] at hs
        refine ⟨0, 1, cap, zs, _, _, rfl, ⟨rfl, rfl⟩, ⟨hz, by omega, by omega⟩, ⟨_, rfl, by omega, by omega⟩, ?_⟩
        rintro _ k2 ⟨b2, rfl, hk2⟩
        refine ⟨fun _ => ?_, fun _ => ?_⟩
        · refine ⟨fun _ => ?_, fun h => nomatch h⟩
          (refine ⟨(⟨_, _, _, _, _, _, _, _, _⟩, _), ?_, ⟨rfl, rfl, rfl, rfl, rfl, rfl, trivial⟩, ⟨rfl, rfl, rfl, rfl, rfl, rfl, rfl, rfl, trivial⟩⟩; dsimp only; (refine ⟨⟨by omega, by omega⟩, ?_, ?_⟩ <;> first | assumption | omega))
        · refine ⟨fun _ => ?_, fun _ => ?_⟩
          · (refine ⟨(⟨_, _, _, _, _, _, _, _, _⟩, _), ?_, ⟨rfl, rfl, rfl, rfl, rfl, rfl, trivial⟩, ⟨rfl, rfl, rfl, rfl, rfl, rfl, rfl, rfl, trivial⟩⟩; dsimp only; (refine ⟨⟨by omega, by omega⟩, ?_, ?_⟩ <;> first | assumption | omega))
          · (refine ⟨(⟨_, _, _, _, _, _, _, _, _⟩, _), ?_, ⟨rfl, rfl, rfl, rfl, rfl, rfl, trivial⟩, ⟨rfl, rfl, rfl, rfl, rfl, rfl, rfl, rfl, trivial⟩⟩; dsimp only; (refine ⟨⟨by omega, by omega⟩, ?_, ?_⟩ <;> first | assumption | omega))
      · refine ⟨(fun h => nomatch h), fun _ => ?_⟩
        (refine ⟨(⟨_, _, _, _, _, _, _, _, _⟩, _), ?_, ⟨rfl, rfl, rfl, rfl, rfl, rfl, trivial⟩, ⟨rfl, rfl, rfl, rfl, rfl, rfl, rfl, rfl, trivial⟩⟩; dsimp only; (refine ⟨⟨by omega, by omega⟩, ?_, ?_⟩ <;> first | assumption | omega))
  · rintro ⟨⟨ekind, etick, etenant, ecell, eother, eepoch, esince, etill, en⟩, kk⟩ ⟨hkk, hcell⟩
    refine ⟨⟨by decide, rfl, rfl⟩, ?_⟩
    simp only at hkk hcell
    refine ⟨Ent × Int, fun _ => [], fun y => match y with | (⟨a1, a2, a3, a4, a5, a6, a7, a8, a9⟩, kk) => [(0, tapeB 1 zs.length cap kk), (12, .box 45 [.int .i64 a1, .int .i64 a2, .int .i64 a3, .int .i64 a4, .int .i64 a5, .int .i64 a6, .int .i64 a7, .int .i64 a8, .int .i64 a9])], fun y => (k ≤ y.2 ∧ y.2 ≤ k + 3) ∧ 0 ≤ y.1.cell ∧ y.1.cell < s.cells.length, ?_, ?_⟩
    · refine ⟨fun _ => ?_, fun _ => ?_⟩
      · refine ⟨fun _ => ?_, fun h => nomatch h⟩
        refine ⟨fun _ => ?_, fun h => nomatch h⟩
        (refine ⟨(⟨_, _, _, _, _, _, _, _, _⟩, _), ?_, ⟨rfl, rfl, rfl, rfl, rfl, rfl, trivial⟩, ⟨rfl, rfl, rfl, rfl, rfl, rfl, rfl, rfl, trivial⟩⟩; dsimp only; (refine ⟨⟨by omega, by omega⟩, ?_, ?_⟩ <;> first | assumption | omega))
      · refine ⟨fun _ => ?_, fun _ => ?_⟩
        · refine ⟨fun _ => ?_, fun h => nomatch h⟩
          (refine ⟨(⟨_, _, _, _, _, _, _, _, _⟩, _), ?_, ⟨rfl, rfl, rfl, rfl, rfl, rfl, trivial⟩, ⟨rfl, rfl, rfl, rfl, rfl, rfl, rfl, rfl, trivial⟩⟩; dsimp only; (refine ⟨⟨by omega, by omega⟩, ?_, ?_⟩ <;> first | assumption | omega))
        · refine ⟨0, 1, cap, zs, _, _, rfl, ⟨rfl, rfl⟩, ⟨hz, by omega, by omega⟩, ⟨_, rfl, by omega, by omega⟩, ?_⟩
          rintro _ k3 ⟨b3, rfl, hk3⟩
          refine ⟨fun _ => ?_, fun _ => ?_⟩
          · (refine ⟨(⟨_, _, _, _, _, _, _, _, _⟩, _), ?_, ⟨rfl, rfl, rfl, rfl, rfl, rfl, trivial⟩, ⟨rfl, rfl, rfl, rfl, rfl, rfl, rfl, rfl, trivial⟩⟩; dsimp only; (refine ⟨⟨by omega, by omega⟩, ?_, ?_⟩ <;> first | assumption | omega))
          · (refine ⟨(⟨_, _, _, _, _, _, _, _, _⟩, _), ?_, ⟨rfl, rfl, rfl, rfl, rfl, rfl, trivial⟩, ⟨rfl, rfl, rfl, rfl, rfl, rfl, rfl, rfl, trivial⟩⟩; dsimp only; (refine ⟨⟨by omega, by omega⟩, ?_, ?_⟩ <;> first | assumption | omega))
    · rintro ⟨⟨ekind, etick, etenant, ecell, eother, eepoch, esince, etill, en⟩, kk⟩ ⟨hkk, hcell⟩
      refine ⟨⟨by decide, rfl, rfl⟩, ?_⟩
      simp only at hkk hcell
      refine ⟨Ent × Int, fun _ => [], fun y => match y with | (⟨a1, a2, a3, a4, a5, a6, a7, a8, a9⟩, kk) => [(0, tapeB 1 zs.length cap kk), (12, .box 45 [.int .i64 a1, .int .i64 a2, .int .i64 a3, .int .i64 a4, .int .i64 a5, .int .i64 a6, .int .i64 a7, .int .i64 a8, .int .i64 a9])], fun y => (k ≤ y.2 ∧ y.2 ≤ k + 4) ∧ 0 ≤ y.1.cell ∧ y.1.cell < s.cells.length, ?_, ?_⟩
      · refine ⟨fun _ => ?_, fun _ => ?_⟩
        · refine ⟨0, 1, cap, zs, _, _, rfl, ⟨rfl, rfl⟩, ⟨hz, by omega, by omega⟩, ⟨_, rfl, by omega, by omega⟩, ?_⟩
          rintro _ k3 ⟨_, r3, hnn, rfl, ⟨hr3, hk3⟩⟩
          cases hnn
          refine ⟨fun _ => ?_, fun _ => ?_⟩
          · (refine ⟨(⟨_, _, _, _, _, _, _, _, _⟩, _), ?_, ⟨rfl, rfl, rfl, rfl, rfl, rfl, trivial⟩, ⟨rfl, rfl, rfl, rfl, rfl, rfl, rfl, rfl, trivial⟩⟩; dsimp only; (refine ⟨⟨by omega, by omega⟩, ?_, ?_⟩ <;> first | assumption | omega))
          · (refine ⟨(⟨_, _, _, _, _, _, _, _, _⟩, _), ?_, ⟨rfl, rfl, rfl, rfl, rfl, rfl, trivial⟩, ⟨rfl, rfl, rfl, rfl, rfl, rfl, rfl, rfl, trivial⟩⟩; dsimp only; (refine ⟨⟨by omega, by omega⟩, ?_, ?_⟩ <;> first | assumption | omega))
        · refine ⟨(fun h => nomatch h), fun _ => ?_⟩
          (refine ⟨(⟨_, _, _, _, _, _, _, _, _⟩, _), ?_, ⟨rfl, rfl, rfl, rfl, rfl, rfl, trivial⟩, ⟨rfl, rfl, rfl, rfl, rfl, rfl, rfl, rfl, trivial⟩⟩; dsimp only; (refine ⟨⟨by omega, by omega⟩, ?_, ?_⟩ <;> first | assumption | omega))
      · rintro ⟨⟨ekind, etick, etenant, ecell, eother, eepoch, esince, etill, en⟩, kk⟩ ⟨hkk, hcell⟩
        refine ⟨⟨by decide, rfl, rfl⟩, ?_⟩
        simp only at hkk hcell
        refine ⟨Ent × Int, fun _ => [], fun y => match y with | (⟨a1, a2, a3, a4, a5, a6, a7, a8, a9⟩, kk) => [(0, tapeB 1 zs.length cap kk), (12, .box 45 [.int .i64 a1, .int .i64 a2, .int .i64 a3, .int .i64 a4, .int .i64 a5, .int .i64 a6, .int .i64 a7, .int .i64 a8, .int .i64 a9])], fun y => (k ≤ y.2 ∧ y.2 ≤ k + 6) ∧ 0 ≤ y.1.cell ∧ y.1.cell < s.cells.length, ?_, ?_⟩
        · refine ⟨0, 1, cap, zs, _, _, rfl, ⟨rfl, rfl⟩, ⟨hz, by omega, by omega⟩, ⟨_, rfl, by omega, by omega⟩, ?_⟩
          rintro _ k3 ⟨b3, rfl, hk3⟩
          refine ⟨fun _ => ?_, fun _ => ?_⟩
          · refine ⟨0, 1, cap, zs, _, _, rfl, ⟨rfl, rfl⟩, ⟨hz, by omega, by omega⟩, ⟨_, rfl, by omega, by omega⟩, ?_⟩
            rintro _ k4 ⟨_, r4, hnn, rfl, ⟨hr4, hk4⟩⟩
            cases hnn
            refine ⟨⟨rfl, trivial⟩, ?_⟩
            (refine ⟨(⟨_, _, _, _, _, _, _, _, _⟩, _), ?_, ⟨rfl, rfl, rfl, rfl, rfl, rfl, trivial⟩, ⟨rfl, rfl, rfl, rfl, rfl, rfl, rfl, rfl, trivial⟩⟩; dsimp only; (refine ⟨⟨by omega, by omega⟩, ?_, ?_⟩ <;> first | assumption | omega))
          · (refine ⟨(⟨_, _, _, _, _, _, _, _, _⟩, _), ?_, ⟨rfl, rfl, rfl, rfl, rfl, rfl, trivial⟩, ⟨rfl, rfl, rfl, rfl, rfl, rfl, rfl, rfl, trivial⟩⟩; dsimp only; (refine ⟨⟨by omega, by omega⟩, ?_, ?_⟩ <;> first | assumption | omega))
        · rintro ⟨⟨ekind, etick, etenant, ecell, eother, eepoch, esince, etill, en⟩, kk⟩ ⟨hkk, hcell⟩
          refine ⟨⟨by decide, rfl, rfl⟩, ?_⟩
          simp only at hkk hcell
          refine ⟨0, 1, cap, zs, _, _, rfl, ⟨rfl, rfl⟩, ⟨hz, by omega, by omega⟩, ⟨_, _, rfl, by omega, by omega, by omega⟩, ?_⟩
          rintro _ k3 ⟨_, _, r3, hnn, rfl, hr3, hk3⟩
          cases hnn
          refine ⟨⟨rfl, rfl, trivial⟩, ?_⟩
          refine ⟨⟨Nat.le_refl _, by omega, by omega⟩, ?_⟩
          refine ⟨Ent × Int, fun _ => [], fun y => match y with | (⟨a1, a2, a3, a4, a5, a6, a7, a8, a9⟩, kk) => [(0, tapeB 1 zs.length cap kk), (12, .box 45 [.int .i64 a1, .int .i64 a2, .int .i64 a3, .int .i64 a4, .int .i64 a5, .int .i64 a6, .int .i64 a7, .int .i64 a8, .int .i64 a9])], fun y => (k ≤ y.2 ∧ y.2 ≤ k + 9) ∧ 0 ≤ y.1.cell ∧ y.1.cell < s.cells.length, ?_, ?_⟩
          · refine ⟨0, 1, cap, zs, _, _, rfl, ⟨rfl, rfl⟩, ⟨hz, by omega, by omega⟩, ⟨_, rfl, by omega, by omega⟩, ?_⟩
            rintro _ k5 ⟨b5, rfl, hk5⟩
            refine ⟨fun _ => ?_, fun _ => ?_⟩
            · refine ⟨Ent × Int, fun _ => [], fun y => match y with | (⟨a1, a2, a3, a4, a5, a6, a7, a8, a9⟩, kk) => [(0, tapeB 1 zs.length cap kk), (12, .box 45 [.int .i64 a1, .int .i64 a2, .int .i64 a3, .int .i64 a4, .int .i64 a5, .int .i64 a6, .int .i64 a7, .int .i64 a8, .int .i64 a9])], fun y => (k ≤ y.2 ∧ y.2 ≤ k + 9) ∧ 0 ≤ y.1.cell ∧ y.1.cell < s.cells.length, ?_, ?_⟩
              · refine ⟨?_, ?_, ?_⟩
                · refine ⟨trivial, ?_⟩
                  refine ⟨?_, ?_⟩
                  · refine ⟨trivial, ?_⟩
                    refine ⟨0, 1, cap, zs, _, _, rfl, ⟨rfl, rfl⟩, ⟨hz, by omega, by omega⟩, ⟨_, rfl, by omega, by omega⟩, ?_⟩
                    rintro _ k4 ⟨_, r4, hnn, rfl, ⟨hr4, hk4⟩⟩
                    cases hnn
                    refine ⟨trivial, ?_⟩
                    refine ⟨trivial, ?_⟩
                    (refine ⟨(⟨_, _, _, _, _, _, _, _, _⟩, _), ?_, ⟨rfl, rfl, rfl, rfl, rfl, rfl, trivial⟩, ⟨rfl, rfl, rfl, rfl, rfl, rfl, rfl, rfl, trivial⟩⟩; dsimp only; (refine ⟨⟨by omega, by omega⟩, ?_, ?_⟩ <;> first | assumption | omega))
                  · refine ⟨0, 1, cap, zs, _, _, rfl, ⟨rfl, rfl⟩, ⟨hz, by omega, by omega⟩, ⟨_, rfl, by omega, by omega⟩, ?_⟩
                    rintro _ k4 ⟨_, r4, hnn, rfl, ⟨hr4, hk4⟩⟩
                    cases hnn
                    refine ⟨trivial, ?_⟩
                    refine ⟨trivial, ?_⟩
                    refine ⟨trivial, ?_⟩
                    (refine ⟨(⟨_, _, _, _, _, _, _, _, _⟩, _), ?_, ⟨rfl, rfl, rfl, rfl, rfl, rfl, trivial⟩, ⟨rfl, rfl, rfl, rfl, rfl, rfl, rfl, rfl, trivial⟩⟩; dsimp only; (refine ⟨⟨by omega, by omega⟩, ?_, ?_⟩ <;> first | assumption | omega))
                · refine ⟨trivial, ?_⟩
                  refine ⟨?_, ?_⟩
                  · refine ⟨trivial, ?_⟩
                    refine ⟨0, 1, cap, zs, _, _, rfl, ⟨rfl, rfl⟩, ⟨hz, by omega, by omega⟩, ⟨_, rfl, by omega, by omega⟩, ?_⟩
                    rintro _ k4 ⟨_, r4, hnn, rfl, ⟨hr4, hk4⟩⟩
                    cases hnn
                    refine ⟨trivial, ?_⟩
                    refine ⟨trivial, ?_⟩
                    (refine ⟨(⟨_, _, _, _, _, _, _, _, _⟩, _), ?_, ⟨rfl, rfl, rfl, rfl, rfl, rfl, trivial⟩, ⟨rfl, rfl, rfl, rfl, rfl, rfl, rfl, rfl, trivial⟩⟩; dsimp only; (refine ⟨⟨by omega, by omega⟩, ?_, ?_⟩ <;> first | assumption | omega))
                  · refine ⟨0, 1, cap, zs, _, _, rfl, ⟨rfl, rfl⟩, ⟨hz, by omega, by omega⟩, ⟨_, rfl, by omega, by omega⟩, ?_⟩
                    rintro _ k4 ⟨_, r4, hnn, rfl, ⟨hr4, hk4⟩⟩
                    cases hnn
                    refine ⟨trivial, ?_⟩
                    refine ⟨trivial, ?_⟩
                    refine ⟨trivial, ?_⟩
                    (refine ⟨(⟨_, _, _, _, _, _, _, _, _⟩, _), ?_, ⟨rfl, rfl, rfl, rfl, rfl, rfl, trivial⟩, ⟨rfl, rfl, rfl, rfl, rfl, rfl, rfl, rfl, trivial⟩⟩; dsimp only; (refine ⟨⟨by omega, by omega⟩, ?_, ?_⟩ <;> first | assumption | omega))
                · refine ⟨0, 1, cap, zs, _, _, rfl, ⟨rfl, rfl⟩, ⟨hz, by omega, by omega⟩, ⟨_, rfl, by omega, by omega⟩, ?_⟩
                  rintro _ k4 ⟨_, r4, hnn, rfl, ⟨hr4, hk4⟩⟩
                  cases hnn
                  refine ⟨trivial, ?_⟩
                  refine ⟨?_, ?_⟩
                  · refine ⟨trivial, ?_⟩
                    refine ⟨trivial, ?_⟩
                    refine ⟨trivial, ?_⟩
                    (refine ⟨(⟨_, _, _, _, _, _, _, _, _⟩, _), ?_, ⟨rfl, rfl, rfl, rfl, rfl, rfl, trivial⟩, ⟨rfl, rfl, rfl, rfl, rfl, rfl, rfl, rfl, trivial⟩⟩; dsimp only; (refine ⟨⟨by omega, by omega⟩, ?_, ?_⟩ <;> first | assumption | omega))
                  · refine ⟨trivial, ?_⟩
                    refine ⟨trivial, ?_⟩
                    refine ⟨trivial, ?_⟩
                    (refine ⟨(⟨_, _, _, _, _, _, _, _, _⟩, _), ?_, ⟨rfl, rfl, rfl, rfl, rfl, rfl, trivial⟩, ⟨rfl, rfl, rfl, rfl, rfl, rfl, rfl, rfl, trivial⟩⟩; dsimp only; (refine ⟨⟨by omega, by omega⟩, ?_, ?_⟩ <;> first | assumption | omega))
              · rintro ⟨⟨ekind, etick, etenant, ecell, eother, eepoch, esince, etill, en⟩, kk⟩ ⟨hkk, hcell⟩
                refine ⟨⟨by decide, rfl, rfl⟩, ?_⟩
                simp only at hkk hcell
                (refine ⟨(⟨_, _, _, _, _, _, _, _, _⟩, _), ?_, ⟨rfl, rfl, rfl, rfl, rfl, rfl, trivial⟩, ⟨rfl, rfl, rfl, rfl, rfl, rfl, rfl, rfl, trivial⟩⟩; dsimp only; (refine ⟨⟨by omega, by omega⟩, ?_, ?_⟩ <;> first | assumption | omega))
            · (refine ⟨(⟨_, _, _, _, _, _, _, _, _⟩, _), ?_, ⟨rfl, rfl, rfl, rfl, rfl, rfl, trivial⟩, ⟨rfl, rfl, rfl, rfl, rfl, rfl, rfl, rfl, trivial⟩⟩; dsimp only; (refine ⟨⟨by omega, by omega⟩, ?_, ?_⟩ <;> first | assumption | omega))
          · rintro ⟨⟨ekind, etick, etenant, ecell, eother, eepoch, esince, etill, en⟩, kk⟩ ⟨hkk, hcell⟩
            refine ⟨⟨by decide, rfl, rfl⟩, ?_⟩
            simp only at hkk hcell
            exact ⟨kk, ⟨⟨⟨_, _, _, _, _, _, _, _, _⟩, rfl⟩, by omega, by omega⟩, pure_ent ⟨_, _, _, _, _, _, _, _, _⟩, rfl⟩
def preGrant (c : Cfg) (s : St) (args : List Value) (k : Int) : Prop := (CfgV c ∧ StInv c s) ∧ ∃ e, args = [entV' e] ∧ (0 ≤ e.tenant ∧ e.tenant < s.tenants.length) ∧ (tsAt s e.tenant).placed = true
def ctGrant : CT := ctGen (fun _ _ _ _ => EntR) preGrant
theorem grantOk : CSound Tryz.prog 48 ctGrant := genOk (by kernel_rfl) (by
    rintro c s args k ⟨-, e, rfl, -⟩ v hv
    simp at hv
    subst hv
    exact pure_ent e) (by
  rintro args g A cap zs k x c y s w hz hk0 hk1 ⟨⟨hV, hI⟩, e, rfl, h0, h1⟩ ht hc hs
  refine gen_calls ggrFok Tryz.func48 rfl (D := ggrD) (by kernel_rfl) rfl (fun v hv => by simp at hv; subst hv; exact pure_ent e) g A cap zs k x c y s w ht hc hs (R := EntR k) ?_
  exact grant_sx cap zs k _ c _ s e hz ⟨hk0, by omega⟩ hV hI h0 h1)
end Go.Proofs.YtjobcfpnmfjlfaaGreat

namespace Go.Proofs.YtjobcfpnmfjlfaaGreat
open Go.RowKit
set_option linter.unusedSimpArgs false
set_option linter.unusedVariables false

/-- A list of numbers that a function has made. -/
theorem ints_new {C : Ctx} {ρ : Nat → Pl} {fr : AF} {mem : AM} {nx : Nat} {a : Act} {w w' : World} (hs : Sat C ρ fr mem nx a w) {l : List Int} {A : Option Addr} {cp : Nat} (ho : w'.ownsRow w.heap.size 3 1 (.slice A l.length cp) l.length (flat intC l)) (hb : Below w.heap.size w w') :
    Sat C (setPl ρ nx ⟨A, 1, l.length, false⟩) fr ((nx, intRow l) :: mem) (nx + 1) a w' ∧ den (setPl ρ nx ⟨A, 1, l.length, false⟩) (slc nx l.length cp) = .slice A l.length cp ∧ okV (setPl ρ nx ⟨A, 1, l.length, false⟩) (nx + 1) (slc nx l.length cp) := by
  have hrd := Rd.of_own ho
  refine ⟨hs.add hb (row_of_rd (enc := intC) (sz := 1) (fun _ => rfl) (by omega) intC_plain 0 (setPl_same _ _ _) hrd (fun b hb => hb.2)) ?_ rfl, by simp [den, den2, den1, dA_whole, setPl_same], ⟨Nat.lt_succ_self nx, by rw [setPl_same]⟩⟩
  intro g hg
  cases A with
  | none => simp at hg
  | some ad =>
    simp at hg
    subst hg
    exact (ho.lt _ rfl).1
def ctHomes : CT := fun vs mem nx K => ∃ N x c t, vs = [cfgV N x c, .int .i64 t] ∧ keeps mem (cfgM N c) ∧ CfgV c ∧ ∀ (l : List Int) cp, l.length ≤ 16 → K (slc nx l.length cp) ((nx, intRow l) :: mem) (nx + 1)
theorem homesOk : CSound Tryz.prog 46 ctHomes := ⟨by kernel_rfl, fun {C ρ fr mem nx a w vs K} hc hs hv => by
  obtain ⟨N, x, c, t, rfl, hk, hV, hK⟩ := hc
  rw [show [cfgV N x c, .int .i64 t].map (den ρ) = [.agg (cfgC (cfgX ρ N x) c), .int .i64 t] by rw [List.map_cons, den_cfg]; rfl]
  refine (r5Homes_any (cfgX ρ N x) c t w hV (hs.cfg hk (fun b hb _ => hb))).mono ?_
  rintro e w' ⟨A, cp, rfl, ho, hb⟩
  obtain ⟨h1, h2, h3⟩ := ints_new hs ho hb
  exact ⟨_, _, _, _, by rw [h2], hK _ cp (Nat.le_trans (pickK_len _ _) hV.nc.2), h1, h3, ExtS.set _ _ _⟩⟩
def ctStandbys : CT := fun vs mem nx K => ∃ N x c t h, vs = [cfgV N x c, .int .i64 t, .int .i64 h] ∧ keeps mem (cfgM N c) ∧ CfgV c ∧ ∀ (l : List Int) cp, l.length ≤ 16 → K (slc nx l.length cp) ((nx, intRow l) :: mem) (nx + 1)
theorem standbysOk : CSound Tryz.prog 47 ctStandbys := ⟨by kernel_rfl, fun {C ρ fr mem nx a w vs K} hc hs hv => by
  obtain ⟨N, x, c, t, h, rfl, hk, hV, hK⟩ := hc
  rw [show [cfgV N x c, .int .i64 t, .int .i64 h].map (den ρ) = [.agg (cfgC (cfgX ρ N x) c), .int .i64 t, .int .i64 h] by rw [List.map_cons, den_cfg]; rfl]
  refine (r5Standbys_any (cfgX ρ N x) c t h w hV (hs.cfg hk (fun b hb _ => hb))).mono ?_
  rintro e w' ⟨A, cp, rfl, ho, hb⟩
  obtain ⟨h1, h2, h3⟩ := ints_new hs ho hb
  exact ⟨_, _, _, _, by rw [h2], hK _ cp (Nat.le_trans (pickK_len _ _) hV.nc.2), h1, h3, ExtS.set _ _ _⟩⟩
/-! pick -/
theorem pick_sx (cap cp : Nat) (zs l : List Int) (k : Int) (hz : zs.length ≤ 400) (hk : 0 ≤ k ∧ k ≤ 990000) (hl : l.length ≤ 16) :
    sx tt tpF [] (bodyOf Tryz.f45) (argF 0 [ptr 0, slc 2 l.length cp]) [(0, tapeB 1 zs.length cap k), (1, intRow zs), (2, intRow l)] 3
      (endx tt Tryz.f45.results.toList fun v mem' _ => ∃ k', (∃ r, v = .int .i64 r ∧ k ≤ k' ∧ k' ≤ k + 1) ∧ lk mem' 0 = some (tapeB 1 zs.length cap k')) := by
  refine ⟨fun _ => ?_, fun h0 => ?_⟩
  · exact ⟨k, ⟨_, rfl, by omega, by omega⟩, rfl⟩
  · have hpos : (l.length : Int) ≠ 0 := by simpa using h0
    refine ⟨0, 1, cap, zs, _, _, rfl, ⟨rfl, rfl⟩, ⟨hz, by omega, by omega⟩, ⟨_, rfl, by omega, by omega⟩, ?_⟩
    rintro _ k1 ⟨_, r1, hnn, rfl, ⟨hr1, hk1⟩⟩
    cases hnn
    refine ⟨⟨Nat.le_refl _, by omega, by omega⟩, ?_⟩
    exact ⟨k1, ⟨_, rfl, by omega, by omega⟩, rfl⟩
def ctPick : CT := fun vs mem nx K => ∃ i r cap zs k j cp l, vs = [ptr i, slc j (l : List Int).length cp] ∧ (lk mem i = some (tapeB r (zs : List Int).length cap k) ∧ lk mem r = some (intRow zs) ∧ lk mem j = some (intRow l)) ∧ (zs.length ≤ 400 ∧ 0 ≤ k ∧ k ≤ 990000) ∧ l.length ≤ 16 ∧
  ∀ z k', k ≤ k' ∧ k' ≤ k + 1 → K (.int .i64 z) ((i, tapeB r zs.length cap k') :: mem) nx
theorem pickOk : CSound Tryz.prog 45 ctPick := ⟨by kernel_rfl, fun {C ρ fr mem nx a w vs K} hc hs hv => by
  obtain ⟨i, r, cap, zs, k, j, cp, l, rfl, ⟨hi, hr, hj⟩, ⟨hz, hk0, hk1⟩, hl, hK⟩ := hc
  obtain ⟨g, hA, ht, hok⟩ := hs.tape hi hr
  have hrl := hs.rd (enc := intC) (sz := 1) (fun _ => rfl) (by omega) hj (S := fun b => b ≠ g ∧ b < w.heap.size) (fun b hlt hb => ⟨by rintro rfl; exact hb i _ _ hi (by simp [bno, hA]), hlt⟩)
  let σ : Nat → Pl := fun q => match q with | 0 => ⟨some ⟨g, 0, none⟩, 0, 0, false⟩ | 1 => ⟨(ρ r).A, 1, zs.length, false⟩ | _ => ⟨(ρ j).A, 1, l.length, false⟩
  have one : ∀ {l : List Int} {Ar : Option Addr}, Rd w (fun b => b ≠ g ∧ b < w.heap.size) Ar (flat intC l) → l.length = 0 ∨ Ar.map (·.block) ≠ some g := by
    intro l Ar hrd
    by_cases h0 : l.length = 0
    · exact .inl h0
    · obtain ⟨b, off, x, hA, hb, -, -⟩ := hrd.row (enc := intC) (sz := 1) (fun _ => rfl) (by omega) (k := 0) (by omega)
      subst hA
      exact .inr (by simp; exact hb.1)
  have hm := MemAt.one (ρ := σ) (nx := 3) (nt := Tryz.f45.ntmps) (w := w) (mem := [(1, intRow zs), (2, intRow l)]) (g := g) (i := 0) (t := 91) (cs := [slc 1 zs.length cap, .int .i64 k]) trivial (by omega) rfl
    ⟨g, rfl, by
      have := ht.blk
      simpa [den1, dA_whole, σ] using this, .inr (by simp), fun v hv => by
        simp at hv
        rcases hv with rfl | rfl
        · exact ⟨show (1 : Nat) < 3 by decide, rfl⟩
        · trivial⟩
    ⟨⟨by omega, rfl, row_of_rd (enc := intC) (sz := 1) (fun _ => rfl) (by omega) intC_plain 0 rfl ht.row (fun b hb => hb.2)⟩, ⟨by omega, rfl, row_of_rd (enc := intC) (sz := 1) (fun _ => rfl) (by omega) intC_plain 0 rfl hrl (fun b hb => hb.2)⟩, trivial⟩ (fun q t sz n el hq => by
      rcases lk_cons hq with ⟨rfl, e⟩ | ⟨_, hq⟩
      · cases e; exact one ht.row
      rcases lk_cons hq with ⟨rfl, e⟩ | ⟨_, hq⟩
      · cases e; exact one hrl
      · simp [lk] at hq)
  have hvs : [ptr i, slc j l.length cp].map (den ρ) = [ptr 0, slc 2 l.length cp].map (den σ) := by simp [den, den2, den1, dA_whole, hA, σ]
  rw [hvs]
  refine (calls_sx ttOk tpFok mixed Tryz.func45 rfl (D := []) (by kernel_rfl) (vs := [ptr 0, slc 2 l.length cp]) rfl ⟨rfl, rfl⟩ rfl hm (fun v hv => ?_) (pick_sx cap cp zs l k hz ⟨hk0, hk1⟩ hl)).mono ?_
  · simp at hv
    rcases hv with rfl | rfl
    · exact ⟨⟨show (0 : Nat) < 3 by decide, rfl⟩, ⟨g, 0, rfl⟩, fun k hk => by cases hk⟩
    · exact ⟨show (2 : Nat) < 3 by decide, rfl⟩
  · rintro e w' ⟨v, mem', nx', ρ', rfl, ⟨k', ⟨z, rfl, hkk⟩, hlk⟩, -, hm'⟩
    have e0 : ρ' 0 = σ 0 := hm'.low 0 (show (0 : Nat) < 3 by decide)
    have e1 : ρ' 1 = σ 1 := hm'.low 1 (show (1 : Nat) < 3 by decide)
    obtain ⟨g', hA', hb, -, -⟩ := hm'.blk 0 _ hlk
    rw [e0] at hA'
    cases hA'
    have hgr : w.grownBy w' (some g) := ⟨hm'.rest.os, hm'.rest.tape, hm'.rest.output, hm'.rest.size, fun b hlt hne => hm'.rest.block b hlt (by simp; intro q; exact hne (by rw [q]))⟩
    refine ⟨.int .i64 z, _, nx, ρ, rfl, hK z k' hkk, hs.grownBox (cs' := [slc r zs.length cap, .int .i64 k']) hi hA hgr ?_ ?_, trivial, ExtS.refl _ _⟩
    · simpa [den1, dA_whole, e1, σ] using hb
    · intro u hu
      simp at hu
      rcases hu with rfl | rfl
      · exact hok
      · trivial⟩
end Go.Proofs.YtjobcfpnmfjlfaaGreat

namespace Go.Proofs.YtjobcfpnmfjlfaaGreat
open Go.RowKit
set_option linter.unusedSimpArgs false
set_option linter.unusedVariables false

def entryF : FT := [(33, ctNext), (35, ctYes), (43, ctPlatform), (48, ctGrant), (44, ctNone), (45, ctPick), (46, ctHomes), (47, ctStandbys)]
theorem entryFok : FTok Tryz.prog entryF := ft_cons nextOk (ft_cons yesOk (ft_cons platformOk (ft_cons grantOk (ft_cons noneOk (ft_cons pickOk (ft_cons homesOk (ft_cons standbysOk ft_nil)))))))
def entryD : List (Nat × DQ) := [
  (1, { k := 5, L := [11], pre := [(0, false), (1, false), (2, false), (3, true), (4, false)] }),
  (19, { k := 5, L := [13], pre := [(0, false), (1, false), (2, false), (3, false), (4, true)] }),
  (23, { k := 5, L := [13], pre := [(0, false), (1, false), (2, false), (3, false), (4, true)] }),
  (1000004, { k := 13, L := [1, 2, 3, 4, 5, 6, 7, 8, 9, 10, 11, 12], sl := [0, 4, 5, 6] }), (1000032, { k := 15, L := [12], sl := [6, 11] })]
def EntR2 (zs : List Int) (k : Int) (v : Value) (k' : Int) : Prop := (∃ en, v = entV' en) ∧ k ≤ k' ∧ k' ≤ k + 40 ∧ (zs.length ≠ 0 → k < k')
set_option maxRecDepth 100000 in
set_option maxHeartbeats 4000000 in
theorem entry_sx (cap : Nat) (zs : List Int) (k : Int) (x : CfgK) (c : Cfg) (y : StK) (s : St) (hz : zs.length ≤ 400) (hk : 0 ≤ k ∧ k ≤ 880000) (hV : CfgV c) (hI : StInv c s) :
    sx tt entryF entryD (bodyOf Tryz.f19) (argF 0 (ptr 0 :: cfgV CN0 x c :: stV SN0 y s :: [])) ((0, tapeB 1 zs.length cap k) :: (1, intRow zs) :: (cfgM CN0 c ++ stM SN0 s)) 10
      (endx tt Tryz.f19.results.toList fun v mem' _ => ∃ k', EntR2 zs k v k' ∧ pureV v ∧ lk mem' 0 = some (tapeB 1 zs.length cap k')) := by
  have hnc := hV.nc
  have hnt := hV.nt
  have hlt := hI.lt
  have htk := hI.tick
  refine ⟨0, 1, cap, zs, _, _, rfl, ⟨rfl, rfl⟩, ⟨hz, by omega, by omega⟩, ⟨_, rfl, by omega, by omega⟩, ?_⟩
  rintro _ k1 ⟨_, r1, hnn, rfl, ⟨hr1, hk1⟩⟩
  cases hnn
  refine ⟨⟨rfl, trivial⟩, ?_⟩
  refine ⟨Int × Int, fun y => match y with | (tk, kk) => [(7, .int .i64 tk)], fun y => match y with | (tk, kk) => [(0, tapeB 1 zs.length cap kk)], fun y => (0 ≤ y.1 ∧ y.1 ≤ 2147483648) ∧ k ≤ y.2 ∧ y.2 ≤ k + 2 ∧ (zs.length ≠ 0 → k < y.2), ?_, ?_⟩
  · refine ⟨0, 1, cap, zs, _, _, rfl, ⟨rfl, rfl⟩, ⟨hz, by omega, by omega⟩, ⟨_, rfl, by omega, by omega⟩, ?_⟩
    rintro _ k2 ⟨b2, rfl, hk2⟩
    refine ⟨fun _ => ?_, fun _ => ?_⟩
    · (refine ⟨(_, _), ?_, ⟨rfl, rfl, rfl, rfl, rfl, trivial⟩, ⟨rfl, rfl, rfl, rfl, rfl, rfl, rfl, rfl, rfl, rfl, rfl, rfl, rfl, trivial⟩⟩; dsimp only; (split <;> (try rw [wrapi (by omega)] at *) <;> omega))
    · (refine ⟨(_, _), ?_, ⟨rfl, rfl, rfl, rfl, rfl, trivial⟩, ⟨rfl, rfl, rfl, rfl, rfl, rfl, rfl, rfl, rfl, rfl, rfl, rfl, rfl, trivial⟩⟩; dsimp only; (rw [wrapi (by omega)]; omega))
  · rintro ⟨tk, kk⟩ ⟨htk, hkk⟩
    refine ⟨⟨by decide, rfl, rfl⟩, ?_⟩
    dsimp only at htk hkk
    refine ⟨fun h0 => ?_, fun h0 => ?_⟩
    · refine ⟨fun _ => ?_, fun h => nomatch h⟩
      refine ⟨0, 1, cap, zs, _, CN0, x, c, SN0, y, s, [.int .i64 tk], rfl, ⟨rfl, rfl⟩, ⟨rfl, rfl, rfl, rfl, rfl, rfl, trivial⟩, ⟨rfl, rfl, trivial⟩, ⟨hz, by omega, by omega⟩, ⟨⟨hV, hI⟩, tk, rfl, htk.1, htk.2⟩, ?_⟩
      rintro _ k9 ⟨⟨en, rfl⟩, hk9⟩
      exact ⟨k9, ⟨⟨en, rfl⟩, by omega, by omega, by omega⟩, pure_ent en, rfl⟩
    · have hpos : (c.tenants.length : Int) ≠ 0 := by simpa using h0
      refine ⟨0, 1, cap, zs, _, _, rfl, ⟨rfl, rfl⟩, ⟨hz, by omega, by omega⟩, ⟨_, rfl, by omega, by omega⟩, ?_⟩
      rintro _ k8 ⟨b8, rfl, hk8⟩
      refine ⟨fun _ => ?_, fun _ => ?_⟩
      · refine ⟨0, 1, cap, zs, _, CN0, x, c, SN0, y, s, [.int .i64 tk], rfl, ⟨rfl, rfl⟩, ⟨rfl, rfl, rfl, rfl, rfl, rfl, trivial⟩, ⟨rfl, rfl, trivial⟩, ⟨hz, by omega, by omega⟩, ⟨⟨hV, hI⟩, tk, rfl, htk.1, htk.2⟩, ?_⟩
        rintro _ k9 ⟨⟨en, rfl⟩, hk9⟩
        exact ⟨k9, ⟨⟨en, rfl⟩, by omega, by omega, by omega⟩, pure_ent en, rfl⟩
      · refine ⟨0, 1, cap, zs, _, _, rfl, ⟨rfl, rfl⟩, ⟨hz, by omega, by omega⟩, ⟨_, rfl, by omega, by omega⟩, ?_⟩
        rintro _ k3 ⟨_, r3, hnn, rfl, ⟨hr3, hk3⟩⟩
        cases hnn
        refine ⟨⟨Nat.le_refl _, by omega, by omega⟩, ?_⟩
        obtain ⟨t, htd⟩ : ∃ t, t = s.tenants.getD r3.toNat default := ⟨_, rfl⟩
        refine ⟨fun hpl => ?_, fun hpl => ?_⟩
        · refine ⟨_, _, rfl, ?_⟩
          refine ⟨CN0, x, c, _, rfl, ⟨rfl, rfl, rfl, rfl, rfl, rfl, trivial⟩, hV, ?_⟩
          intro lH cpH hlH
          refine ⟨0, 1, cap, zs, _, _, _, _, rfl, ⟨rfl, rfl, rfl⟩, ⟨hz, by omega, by omega⟩, by assumption, ?_⟩
          intro v4 k4 hk4
          refine ⟨CN0, x, c, _, _, rfl, ⟨rfl, rfl, rfl, rfl, rfl, rfl, trivial⟩, hV, ?_⟩
          intro lS cpS hlS
          refine ⟨0, 1, cap, zs, _, _, _, _, rfl, ⟨rfl, rfl, rfl⟩, ⟨hz, by omega, by omega⟩, by assumption, ?_⟩
          intro v5 k5 hk5
          exact ⟨k5, ⟨⟨⟨_, _, _, _, _, _, _, _, _⟩, rfl⟩, by omega, by omega, by omega⟩, pure_ent ⟨_, _, _, _, _, _, _, _, _⟩, rfl⟩
        · replace hpl : (tsAt s r3).placed = true := by unfold tsAt; simpa using hpl
          refine ⟨_, _, rfl, ?_⟩
          refine ⟨Ent × Int, fun _ => [], fun y => match y with | (⟨a1, a2, a3, a4, a5, a6, a7, a8, a9⟩, kk) => [(0, tapeB 1 zs.length cap kk), (14, .box 45 [.int .i64 a1, .int .i64 a2, .int .i64 a3, .int .i64 a4, .int .i64 a5, .int .i64 a6, .int .i64 a7, .int .i64 a8, .int .i64 a9])], fun y => k ≤ y.2 ∧ y.2 ≤ k + 10 ∧ (zs.length ≠ 0 → k < y.2), ?_, ?_⟩
          · refine ⟨0, 1, cap, zs, _, _, rfl, ⟨rfl, rfl⟩, ⟨hz, by omega, by omega⟩, ⟨_, rfl, by omega, by omega⟩, ?_⟩
            rintro _ k6 ⟨_, r6, hnn, rfl, ⟨hr6, hk6⟩⟩
            cases hnn
            refine ⟨fun _ => ?_, fun _ => ?_⟩
            · refine ⟨⟨rfl, trivial⟩, ?_⟩
              (refine ⟨(⟨_, _, _, _, _, _, _, _, _⟩, _), ?_, ⟨rfl, rfl, trivial⟩, ⟨rfl, rfl, rfl, trivial⟩⟩; dsimp only; omega)
            refine ⟨fun _ => ?_, fun _ => ?_⟩
            · refine ⟨CN0, x, c, _, _, rfl, ⟨rfl, rfl, rfl, rfl, rfl, rfl, trivial⟩, hV, ?_⟩
              intro lS cpS hlS
              refine ⟨0, 1, cap, zs, _, _, _, _, rfl, ⟨rfl, rfl, rfl⟩, ⟨hz, by omega, by omega⟩, by assumption, ?_⟩
              intro v7 k7 hk7
              (refine ⟨(⟨_, _, _, _, _, _, _, _, _⟩, _), ?_, ⟨rfl, rfl, trivial⟩, ⟨rfl, rfl, rfl, trivial⟩⟩; dsimp only; omega)
            refine ⟨fun _ => ?_, fun _ => ?_⟩
            · refine ⟨⟨rfl, trivial⟩, ?_⟩
              (refine ⟨(⟨_, _, _, _, _, _, _, _, _⟩, _), ?_, ⟨rfl, rfl, trivial⟩, ⟨rfl, rfl, rfl, trivial⟩⟩; dsimp only; omega)
            refine ⟨fun _ => ?_, fun _ => ?_⟩
            · refine ⟨CN0, x, c, _, rfl, ⟨rfl, rfl, rfl, rfl, rfl, rfl, trivial⟩, hV, ?_⟩
              intro lH cpH hlH
              refine ⟨0, 1, cap, zs, _, _, _, _, rfl, ⟨rfl, rfl, rfl⟩, ⟨hz, by omega, by omega⟩, by assumption, ?_⟩
              intro v7 k7 hk7
              (refine ⟨(⟨_, _, _, _, _, _, _, _, _⟩, _), ?_, ⟨rfl, rfl, trivial⟩, ⟨rfl, rfl, rfl, trivial⟩⟩; dsimp only; omega)
            refine ⟨fun _ => ?_, fun _ => ?_⟩
            · (refine ⟨(⟨_, _, _, _, _, _, _, _, _⟩, _), ?_, ⟨rfl, rfl, trivial⟩, ⟨rfl, rfl, rfl, trivial⟩⟩; dsimp only; omega)
            refine ⟨fun _ => ?_, fun _ => ?_⟩
            · refine ⟨fun _ => ?_, fun _ => ?_⟩
              · (refine ⟨(⟨_, _, _, _, _, _, _, _, _⟩, _), ?_, ⟨rfl, rfl, trivial⟩, ⟨rfl, rfl, rfl, trivial⟩⟩; dsimp only; omega)
              · (refine ⟨(⟨_, _, _, _, _, _, _, _, _⟩, _), ?_, ⟨rfl, rfl, trivial⟩, ⟨rfl, rfl, rfl, trivial⟩⟩; dsimp only; omega)
            refine ⟨0, 1, cap, zs, _, CN0, x, c, SN0, y, s, [entV' ⟨2, tk, r3, -1, -1, 0, 0, 0, 0⟩], rfl, ⟨rfl, rfl⟩, ⟨rfl, rfl, rfl, rfl, rfl, rfl, trivial⟩, ⟨rfl, rfl, trivial⟩, ⟨hz, by omega, by omega⟩, ⟨⟨hV, hI⟩, ⟨2, tk, r3, -1, -1, 0, 0, 0, 0⟩, rfl, ⟨hr3.1, by show r3 < _; omega⟩, hpl⟩, ?_⟩
            rintro _ k9 ⟨⟨en, rfl⟩, hk9⟩
            exact ⟨k9, ⟨⟨en, rfl⟩, by omega, by omega, by omega⟩, pure_ent en, rfl⟩
          · rintro ⟨⟨ekind, etick, etenant, ecell, eother, eepoch, esince, etill, en⟩, k8⟩ hk8
            refine ⟨⟨by decide, rfl, rfl⟩, ?_⟩
            dsimp only at hk8
            exact ⟨k8, ⟨⟨⟨_, _, _, _, _, _, _, _, _⟩, rfl⟩, by omega, by omega, by omega⟩, pure_ent ⟨_, _, _, _, _, _, _, _, _⟩, rfl⟩
def ctEntry : CT := ctGen (fun zs _ _ _ => EntR2 zs) fun c s args k => (CfgV c ∧ StInv c s ∧ k ≤ 880000) ∧ args = []
theorem entryOk : CSound Tryz.prog 19 ctEntry := genOk (by kernel_rfl) (by
    rintro c s args k ⟨-, rfl⟩ v hv
    cases hv) (by
  rintro args g A cap zs k x c y s w hz hk0 hk1 ⟨⟨hV, hI, hk2⟩, rfl⟩ ht hc hs
  refine gen_calls entryFok Tryz.func19 rfl (D := entryD) (by kernel_rfl) rfl (fun v hv => by cases hv) g A cap zs k x c y s w ht hc hs (R := EntR2 zs k) ?_
  exact entry_sx cap zs k _ c _ s hz ⟨hk0, hk2⟩ hV hI)
end Go.Proofs.YtjobcfpnmfjlfaaGreat

namespace Go.Proofs.YtjobcfpnmfjlfaaGreat
open Go.RowKit
set_option linter.unusedSimpArgs false
set_option linter.unusedVariables false

/-! make.Log: entries that are accepted one after the other. -/
/-- A slice's room. -/
def LenCap (n : Nat) (v : Value) : Prop := ∃ A m cap, v = .slice A m cap ∧ n ≤ cap
def lgF : FT := [(20, ctTapeNew), (36, ctNewR), (37, ctMore), (19, ctEntry), (21, ctApplyR)]
theorem lgFok : FTok Tryz.prog lgF := ft_cons tapeNewOk (ft_cons newROk (ft_cons moreOk (ft_cons entryOk (ft_cons applyROk ft_nil))))
def lgD : List (Nat × DQ) := [(3000004, { k := 21, L := [0, 1, 2, 3, 4, 5, 6, 7, 8, 9, 10, 11, 12, 13], sl := [2, 4, 7, 8] })]
set_option maxRecDepth 100000 in
set_option maxHeartbeats 8000000 in
theorem log_sx (d : UD) (x : CfgK) (cap0 : Nat) (n : Int) (hV : CfgV d.c) (hz : d.l0.length ≤ 400) (hn : 0 ≤ n ∧ n ≤ 1000) :
    sx tt lgF lgD (bodyOf Tryz.f12) (argF 0 [slc 0 d.l0.length cap0, cfgV CNu x d.c, .int .i64 n]) (uniM d) 13 (endx tt Tryz.f12.results.toList fun v mem' _ => ∃ es s, Run d.c (stNew d.c) es s ∧ (es.length : Int) ≤ n ∧ SlR mem' 9 entC default es v ∧ LenCap es.length v) := by
  have hnt := hV.nt
  have hnc := hV.nc
  refine ⟨0, cap0, d.l0, rfl, rfl, by omega, ?_⟩
  refine ⟨CNu, x, d.c, rfl, (by repeat (first | exact trivial | refine ⟨rfl, ?_⟩)), ⟨by omega, by omega, by omega⟩, ?_⟩
  intro y0
  refine ⟨St × StK × Int × List Ent × Option (Nat × (Nat → List Value)), fun q => match q with | (s, y, k, es, none) => [(9, zs0)] | (s, y, k, es, some (cap, el)) => [(9, slc 20 es.length cap)], fun q => match q with | (s, y, k, es, none) => [(14, tapeB 0 d.l0.length cap0 k), (17, .box 38 [.int .i64 s.tick, .int .i64 s.count, slc 18 s.tenants.length y.ct, slc 19 s.cells.length y.cc, .int .i64 s.proven, .int .i64 s.evac, .int .i64 s.low, .int .i64 s.high]), (18, rowOfL 500000 12 tsC default s.tenants), (19, rowOfL 500000 4 csC default s.cells)] | (s, y, k, es, some (cap, el)) => (20, .row (1000000 + 45) 9 cap el) :: [(14, tapeB 0 d.l0.length cap0 k), (17, .box 38 [.int .i64 s.tick, .int .i64 s.count, slc 18 s.tenants.length y.ct, slc 19 s.cells.length y.cc, .int .i64 s.proven, .int .i64 s.evac, .int .i64 s.low, .int .i64 s.high]), (18, rowOfL 500000 12 tsC default s.tenants), (19, rowOfL 500000 4 csC default s.cells)], fun q => match q with | (s, y, k, es, o) => Run d.c (stNew d.c) es s ∧ (0 ≤ k ∧ k ≤ 445) ∧ (es.length : Int) ≤ n ∧ match o with | none => es = [] | some (cap, el) => es.length ≤ cap ∧ ∀ j, j < es.length → el j = entC (es.getD j default), fun q => match q with | (s, y, k, es, o) => (1000 - k).toNat, ⟨(stNew d.c, y0, 0, [], none), [(18, 16), (19, 15)], ⟨.nil _, by omega, by simpa using hn.1, rfl⟩, ⟨rfl, rfl⟩, (by repeat (first | exact trivial | refine ⟨rfl, ?_⟩)), (by repeat (first | exact trivial | refine ⟨rfl, ?_⟩))⟩, ?_⟩
  rintro ⟨s, y, k, es, (_ | ⟨cap, el⟩)⟩ ⟨hR, hk, hn2, ho⟩
  · refine ⟨⟨by decide, rfl, rfl⟩, ?_⟩
    refine ⟨fun hc => ?_, fun hc => ?_⟩
    · refine ⟨14, 0, cap0, d.l0, _, [], rfl, ⟨rfl, rfl⟩, ⟨by omega, by omega, by omega⟩, rfl, ?_⟩
      rintro _ k1 ⟨b1, rfl, rfl, hb1⟩
      refine ⟨fun hb => ?_, fun hb => ?_⟩
      · have hkl := hb1 hb
        have hlen : (es.length : Int) < n := by rw [show es = [] from ho]; exact of_decide_eq_true hc
        clear hb1
        have hI := (hR.rinv hV (.new hV)).inv
        have hcp := (hR.rinv hV (.new hV)).cap
        refine ⟨14, 0, cap0, d.l0, _, CNu, x, d.c, ⟨18, 19, 500000⟩, y, s, [], rfl, ⟨rfl, rfl⟩, (by repeat (first | exact trivial | refine ⟨rfl, ?_⟩)), (by repeat (first | exact trivial | refine ⟨rfl, ?_⟩)), ⟨by omega, by omega, by omega⟩, ⟨⟨hV, hI, by omega⟩, rfl⟩, ?_⟩
        rintro _ k2 ⟨⟨en, rfl⟩, hk2a, hk2b, hk2c⟩
        refine ⟨CNu, x, d.c, ⟨18, 19, 500000⟩, y, s, en, rfl, ⟨(by repeat (first | exact trivial | refine ⟨rfl, ?_⟩)), .list rfl, .list rfl⟩, ⟨hV, hI⟩, ?_⟩
        intro y2
        rw [applyRP hV hI hcp]
        refine ⟨fun he => ?_, fun he => ?_⟩
        · have he2 : applyP d.c s en = ((applyP d.c s en).1, 0) := by
            have q : (applyP d.c s en).2 = 0 := by simpa using he
            rw [← q]
          have he0 : es = [] := ho
          subst he0
          refine ⟨⟨Nat.le_refl _, fun j hj => by match j, hj with | 0, _ => rfl⟩, ?_⟩
          refine ⟨fun h => absurd h (by decide), fun _ => ⟨by decide, fun cap2 el2 hc2 hel2 => ?_⟩⟩
          refine ⟨((applyP d.c s en).1, y2, k2, [en], some (cap2, el2)), [(18, 23), (19, 22), (20, 26)], ?_, ⟨rfl, rfl⟩, (by repeat (first | exact trivial | refine ⟨rfl, ?_⟩)), (by repeat (first | exact trivial | refine ⟨rfl, ?_⟩))⟩
          dsimp only
          refine ⟨⟨hR.snoc he2, by omega, by simp; omega, hc2, fun j hj => ?_⟩, by omega⟩
          obtain rfl : j = 0 := by simpa using hj
          exact hel2 0 (by omega)
        · refine ⟨(s, y, k2, es, none), [], ?_, ⟨rfl, rfl⟩, (by repeat (first | exact trivial | refine ⟨rfl, ?_⟩)), (by repeat (first | exact trivial | refine ⟨rfl, ?_⟩))⟩
          dsimp only
          exact ⟨⟨hR, by omega, hn2, ho⟩, by omega⟩
      · exact ⟨es, s, hR, hn2, .inl ⟨rfl, ho⟩, none, 0, 0, rfl, (by rw [ho]; decide)⟩
    · refine ⟨fun h => Bool.noConfusion h, fun _ => ?_⟩
      exact ⟨es, s, hR, hn2, .inl ⟨rfl, ho⟩, none, 0, 0, rfl, (by rw [ho]; decide)⟩
  · refine ⟨⟨by decide, rfl, rfl⟩, ?_⟩
    refine ⟨fun hc => ?_, fun hc => ?_⟩
    · refine ⟨14, 0, cap0, d.l0, _, [], rfl, ⟨rfl, rfl⟩, ⟨by omega, by omega, by omega⟩, rfl, ?_⟩
      rintro _ k1 ⟨b1, rfl, rfl, hb1⟩
      refine ⟨fun hb => ?_, fun hb => ?_⟩
      · have hkl := hb1 hb
        have hlen : (es.length : Int) < n := of_decide_eq_true hc
        clear hb1
        have hI := (hR.rinv hV (.new hV)).inv
        have hcp := (hR.rinv hV (.new hV)).cap
        refine ⟨14, 0, cap0, d.l0, _, CNu, x, d.c, ⟨18, 19, 500000⟩, y, s, [], rfl, ⟨rfl, rfl⟩, (by repeat (first | exact trivial | refine ⟨rfl, ?_⟩)), (by repeat (first | exact trivial | refine ⟨rfl, ?_⟩)), ⟨by omega, by omega, by omega⟩, ⟨⟨hV, hI, by omega⟩, rfl⟩, ?_⟩
        rintro _ k2 ⟨⟨en, rfl⟩, hk2a, hk2b, hk2c⟩
        refine ⟨CNu, x, d.c, ⟨18, 19, 500000⟩, y, s, en, rfl, ⟨(by repeat (first | exact trivial | refine ⟨rfl, ?_⟩)), .list rfl, .list rfl⟩, ⟨hV, hI⟩, ?_⟩
        intro y2
        rw [applyRP hV hI hcp]
        refine ⟨fun he => ?_, fun he => ?_⟩
        · have he2 : applyP d.c s en = ((applyP d.c s en).1, 0) := by
            have q : (applyP d.c s en).2 = 0 := by simpa using he
            rw [← q]
          refine ⟨⟨Nat.le_refl _, fun j hj => by match j, hj with | 0, _ => rfl⟩, ?_⟩
          refine ⟨⟨rfl, ho.1⟩, fun hin el2 g1 g2 => ?_, fun hgt => ⟨by show (es.length + 1) * 72 ≤ 140737488355328; omega, fun cap2 el2 hc2 g1 g2 => ?_⟩⟩
          · rw [show es.length + 1 = (es ++ [en]).length by simp]
            refine ⟨((applyP d.c s en).1, y2, k2, es ++ [en], some (cap, el2)), [(18, 23), (19, 22)], ?_, ⟨rfl, rfl⟩, (by repeat (first | exact trivial | refine ⟨rfl, ?_⟩)), (by repeat (first | exact trivial | refine ⟨rfl, ?_⟩))⟩
            dsimp only
            refine ⟨⟨hR.snoc he2, by omega, by simp; omega, by first | exact hc2 | (simp; omega), fun j hj => ?_⟩, by omega⟩
            by_cases hjn : j < es.length
            · rw [g1 j hjn, ho.2 j hjn, List.getD_eq_getElem?_getD, List.getD_eq_getElem?_getD, List.getElem?_append_left hjn]
            · obtain rfl : j = es.length := by simp at hj; omega
              have := g2 0 (by omega)
              rw [Nat.add_zero] at this
              rw [this, List.getD_eq_getElem?_getD, List.getElem?_append_right (Nat.le_refl _), Nat.sub_self]
              rfl
          · rw [show es.length + 1 = (es ++ [en]).length by simp] at hc2 ⊢
            refine ⟨((applyP d.c s en).1, y2, k2, es ++ [en], some (cap2, el2)), [(18, 23), (19, 22), (20, 26)], ?_, ⟨rfl, rfl⟩, (by repeat (first | exact trivial | refine ⟨rfl, ?_⟩)), (by repeat (first | exact trivial | refine ⟨rfl, ?_⟩))⟩
            dsimp only
            refine ⟨⟨hR.snoc he2, by omega, by simp; omega, by first | exact hc2 | (simp; omega), fun j hj => ?_⟩, by omega⟩
            by_cases hjn : j < es.length
            · rw [g1 j hjn, ho.2 j hjn, List.getD_eq_getElem?_getD, List.getD_eq_getElem?_getD, List.getElem?_append_left hjn]
            · obtain rfl : j = es.length := by simp at hj; omega
              have := g2 0 (by omega)
              rw [Nat.add_zero] at this
              rw [this, List.getD_eq_getElem?_getD, List.getElem?_append_right (Nat.le_refl _), Nat.sub_self]
              rfl
        · refine ⟨(s, y, k2, es, some (cap, el)), [], ?_, ⟨rfl, rfl⟩, (by repeat (first | exact trivial | refine ⟨rfl, ?_⟩)), (by repeat (first | exact trivial | refine ⟨rfl, ?_⟩))⟩
          dsimp only
          exact ⟨⟨hR, by omega, hn2, ho⟩, by omega⟩
      · exact ⟨es, s, hR, hn2, .inr ⟨20, _, _, cap, el, rfl, rfl, rfl, ho.1, ho.2⟩, _, _, cap, rfl, ho.1⟩
    · refine ⟨fun h => Bool.noConfusion h, fun _ => ?_⟩
      exact ⟨es, s, hR, hn2, .inr ⟨20, _, _, cap, el, rfl, rfl, rfl, ho.1, ho.2⟩, _, _, cap, rfl, ho.1⟩
theorem mkLog_calls (x : CfgA) (c : Cfg) (A0 : Option Addr) (cap0 : Nat) (l : List Int) (n : Int) (w : World) (hV : CfgV c) (hz : l.length ≤ 400) (hn : 0 ≤ n ∧ n ≤ 1000) (hc : CfgOk w (· < w.heap.size) x c) (hr : Rd w (· < w.heap.size) A0 (flat intC l)) :
    Calls Tryz.prog 12 #[.slice A0 l.length cap0, .agg (cfgC x c), .int .i64 n] w fun e w' => ∃ es s A cap, e = .returned (.slice A (es : List Ent).length cap) ∧ Run c (stNew c) es s ∧ (es.length : Int) ≤ n ∧ es.length ≤ cap ∧ Rd w' (fun b => w.heap.size ≤ b ∧ b < w'.heap.size) A (flat entC es) ∧ Below w.heap.size w w' := by
  have := uni_calls ttOk (lgFok.i _) Tryz.func12 rfl (D := lgD) (by kernel_rfl) (vs := [slc 0 l.length cap0, cfgV CNu (ck x) c, .int .i64 n]) rfl { a0 := A0, x := x } { l0 := l, c := c } w { r0 := hr, c := hc } (fun v hv => by
    simp only [List.mem_cons, List.not_mem_nil, or_false] at hv
    rcases hv with rfl | rfl | rfl
    · exact ⟨show (0 : Nat) < 13 by decide, rfl⟩
    · exact upl_cfg_ok { a0 := A0, x := x } { l0 := l, c := c }
    · trivial) (log_sx { l0 := l, c := c } (ck x) cap0 n hV hz hn)
  rw [List.map_cons, List.map_cons] at this
  have e0 := upl_cfg { a0 := A0, x := x } { l0 := l, c := c }
  dsimp only at e0 this
  rw [e0] at this
  refine this.mono ?_
  rintro e w' ⟨v, mem', nx', ρ', rfl, ⟨es, s, hR, hen, hS, A1, m1, cap1, rfl, hcap⟩, hv, hm', hb⟩
  obtain ⟨A, cp, e1, hr'⟩ := hm'.slR (enc := entC) (sz := 9) (fun _ => rfl) (by omega) hS
  have e2 : den ρ' (.slice A1 m1 cap1) = .slice A es.length cp := e1
  have e3 : cap1 = cp := by cases A1 <;> simp [den1] at e1 <;> exact e1.2.2
  exact ⟨es, s, A, cp, by rw [e2], hR, hen, e3 ▸ hcap, hr', hb⟩
def ctLog : CT := fun vs mem nx K => ∃ N x c r cap l n, vs = [slc r (l : List Int).length cap, cfgV N x c, .int .i64 n] ∧ (keeps mem (cfgM N c) ∧ HasRow mem r 1 intC 0 l) ∧ (CfgV c ∧ l.length ≤ 400 ∧ 0 ≤ n ∧ n ≤ 1000) ∧ ∀ es s cap', Run c (stNew c) es s → (es.length : Int) ≤ n → es.length ≤ cap' → K (slc nx es.length cap') ((nx, rowOfL 500000 9 entC default es) :: mem) (nx + 1)
theorem logOk : CSound Tryz.prog 12 ctLog := ⟨by kernel_rfl, fun {C ρ fr mem nx a w vs K} hc hs hv => by
  obtain ⟨N, x, c, r, cap, l, n, rfl, ⟨hk, hr⟩, ⟨hV, hl, hn⟩, hK⟩ := hc
  have e0 : ([slc r l.length cap, cfgV N x c, .int .i64 n].map (den ρ)).toArray = #[.slice (ρ r).A l.length cap, .agg (cfgC (cfgX ρ N x) c), .int .i64 n] := by
    rw [List.map_cons, List.map_cons, den_cfg]
    rfl
  rw [e0]
  refine (mkLog_calls (cfgX ρ N x) c (ρ r).A cap l n w hV hl hn (hs.cfg hk (fun b h _ => h)) (hs.hasRd (enc := intC) (sz := 1) (fun _ => rfl) (by omega) hr)).mono ?_
  rintro e w' ⟨es, s, A, cp, rfl, hR, hen, hcp, hrd, hb⟩
  obtain ⟨q1, -⟩ := (hs.later hb).addList hs.frB hs.rest.size (enc := entC) (sz := 9) (fun _ => rfl) (by omega) entC_plain default (t := 500000) rfl hrd
  have q2 : setPl ρ nx ⟨A, 9, es.length, false⟩ nx = ⟨A, 9, es.length, false⟩ := setPl_same _ _ _
  refine ⟨slc nx es.length cp, _, _, _, ?_, hK es s cp hR hen hcp, q1, ?_, fun i hi => setPl_lt _ _ hi, by omega⟩
  · show Ending.returned (.slice A es.length cp) = .returned (.slice (setPl ρ nx ⟨A, 9, es.length, false⟩ nx).A es.length cp)
    rw [q2]
  · exact ⟨show nx < nx + 1 by omega, by rw [q2]⟩⟩
end Go.Proofs.YtjobcfpnmfjlfaaGreat

namespace Go.Proofs.YtjobcfpnmfjlfaaGreat
open Go.RowKit
set_option linter.unusedSimpArgs false
set_option linter.unusedVariables false

/-! make.State: the state of a log. -/
def msF : FT := [(12, ctLog), (27, ctFoldR)]
theorem msFok : FTok Tryz.prog msF := ft_cons logOk (ft_cons foldROk ft_nil)
def msD : List (Nat × DQ) := [(1, { k := 13, L := [13], A := [10], pre := [(0, false), (1, false), (2, false), (3, false), (4, true), (5, true), (6, false), (7, false), (8, false), (9, false)], post := [(11, true), (12, false)] })]
set_option maxRecDepth 100000 in
set_option maxHeartbeats 8000000 in
theorem mkState_sx (d : UD) (x : CfgK) (cap0 : Nat) (n : Int) (hV : CfgV d.c) (hz : d.l0.length ≤ 400) (hn : 0 ≤ n ∧ n ≤ 1000) :
    sx tt msF msD (bodyOf Tryz.f17) (argF 0 [slc 0 d.l0.length cap0, cfgV CNu x d.c, .int .i64 n]) (uniM d) 13 (endx tt Tryz.f17.results.toList fun v mem' _ => ∃ es s y, Run d.c (stNew d.c) es s ∧ (es.length : Int) ≤ n ∧ v = stV ⟨18, 17, 500000⟩ y s ∧ keeps mem' (stM ⟨18, 17, 500000⟩ s)) := by
  have hnt := hV.nt
  have hnc := hV.nc
  refine ⟨CNu, x, d.c, 0, cap0, d.l0, n, rfl, ⟨(by repeat (first | exact trivial | refine ⟨rfl, ?_⟩)), ?_⟩, ⟨hV, hz, hn⟩, ?_⟩
  · exact ⟨_, _, _, rfl, Nat.le_refl _, fun k hk => rfl⟩
  intro es s cap2 hR hen hcp
  refine ⟨(by repeat (first | exact trivial | refine ⟨rfl, ?_⟩)), ?_⟩
  refine ⟨CNu, x, d.c, 16, cap2, es, rfl, ⟨(by repeat (first | exact trivial | refine ⟨rfl, ?_⟩)), ⟨_, _, _, rfl, Nat.le_refl _, fun k hk => rfl⟩⟩, ⟨hV, by omega⟩, ?_⟩
  intro y
  rw [hR.foldC]
  refine ⟨(by repeat (first | exact trivial | refine ⟨rfl, ?_⟩)), ?_⟩
  refine ⟨(by repeat (first | exact trivial | refine ⟨rfl, ?_⟩)), ?_⟩
  exact ⟨es, s, y, hR, hen, rfl, (by repeat (first | exact trivial | refine ⟨rfl, ?_⟩))⟩
theorem mkState_calls (x : CfgA) (c : Cfg) (A0 : Option Addr) (cap0 : Nat) (l : List Int) (n : Int) (w : World) (hV : CfgV c) (hz : l.length ≤ 400) (hn : 0 ≤ n ∧ n ≤ 1000) (hc : CfgOk w (· < w.heap.size) x c) (hr : Rd w (· < w.heap.size) A0 (flat intC l)) :
    Calls Tryz.prog 17 #[.slice A0 l.length cap0, .agg (cfgC x c), .int .i64 n] w fun e w' => ∃ es s y, e = .returned (.agg (stC y s)) ∧ Run c (stNew c) es s ∧ (es.length : Int) ≤ n ∧ StOk w' (fun b => w.heap.size ≤ b ∧ b < w'.heap.size) y s ∧ Below w.heap.size w w' := by
  have := uni_calls ttOk (msFok.i _) Tryz.func17 rfl (D := msD) (by kernel_rfl) (vs := [slc 0 l.length cap0, cfgV CNu (ck x) c, .int .i64 n]) rfl { a0 := A0, x := x } { l0 := l, c := c } w { r0 := hr, c := hc } (fun v hv => by
    simp only [List.mem_cons, List.not_mem_nil, or_false] at hv
    rcases hv with rfl | rfl | rfl
    · exact ⟨show (0 : Nat) < 13 by decide, rfl⟩
    · exact upl_cfg_ok { a0 := A0, x := x } { l0 := l, c := c }
    · trivial) (mkState_sx { l0 := l, c := c } (ck x) cap0 n hV hz hn)
  rw [List.map_cons, List.map_cons] at this
  have e0 := upl_cfg { a0 := A0, x := x } { l0 := l, c := c }
  dsimp only at e0 this
  rw [e0] at this
  refine this.mono ?_
  rintro e w' ⟨v, mem', nx', ρ', rfl, ⟨es, s, y, hR, hen, rfl, k1, k2, -⟩, hv, hm', hb⟩
  refine ⟨es, s, ⟨(ρ' 18).A, y.ct, (ρ' 17).A, y.cc⟩, ?_, hR, hen, ⟨?_, ?_⟩, hb⟩
  · rw [den_st]
    rfl
  · exact (hm'.blk 18 _ k1).fresh (enc := tsC) default rfl rfl (fun k hk => rfl) (fun _ => rfl) (by omega)
  · exact (hm'.blk 17 _ k2).fresh (enc := csC) default rfl rfl (fun k hk => rfl) (fun _ => rfl) (by omega)
def ctState : CT := fun vs mem nx K => ∃ N x c r cap l n, vs = [slc r (l : List Int).length cap, cfgV N x c, .int .i64 n] ∧ (keeps mem (cfgM N c) ∧ HasRow mem r 1 intC 0 l) ∧ (CfgV c ∧ l.length ≤ 400 ∧ 0 ≤ n ∧ n ≤ 1000) ∧ ∀ es s y, Run c (stNew c) es s → (es.length : Int) ≤ n → K (stV ⟨nx + 1, nx, 500000⟩ y s) (stM ⟨nx + 1, nx, 500000⟩ s ++ mem) (nx + 2)
theorem stateOk : CSound Tryz.prog 17 ctState := ⟨by kernel_rfl, fun {C ρ fr mem nx a w vs K} hc hs hv => by
  obtain ⟨N, x, c, r, cap, l, n, rfl, ⟨hk, hr⟩, ⟨hV, hl, hn⟩, hK⟩ := hc
  have e0 : ([slc r l.length cap, cfgV N x c, .int .i64 n].map (den ρ)).toArray = #[.slice (ρ r).A l.length cap, .agg (cfgC (cfgX ρ N x) c), .int .i64 n] := by
    rw [List.map_cons, List.map_cons, den_cfg]
    rfl
  rw [e0]
  refine (mkState_calls (cfgX ρ N x) c (ρ r).A cap l n w hV hl hn (hs.cfg hk (fun b h _ => h)) (hs.hasRd (enc := intC) (sz := 1) (fun _ => rfl) (by omega) hr)).mono ?_
  rintro e w' ⟨es, s, y, rfl, hR, hen, hst, hb⟩
  obtain ⟨q1, q2, q3, q4⟩ := hs.addSt hb hst
  exact ⟨_, _, _, _, by rw [q2], hK es s ⟨y.ct, y.cc⟩ hR hen, q1, q3, q4⟩⟩
end Go.Proofs.YtjobcfpnmfjlfaaGreat

namespace Go.Proofs.YtjobcfpnmfjlfaaGreat
open Go.RowKit
set_option linter.unusedSimpArgs false
set_option linter.unusedVariables false

def ctSameR : CT := fun vs mem nx K => ∃ M y s M2 y2 s2, vs = [stV M y s, stV M2 y2 s2] ∧ (keeps mem (stM M s) ∧ keeps mem (stM M2 s2)) ∧ (s.tenants.length ≤ 1000000 ∧ s.cells.length ≤ 1000000) ∧ ∀ z, (∃ b, z = .bool b ∧ (b = true ↔ s = s2)) → K z mem nx
theorem sameROk : CSound Tryz.prog 16 ctSameR := (ptsOk (R := fun l z => ∃ s s2, l = [.st s, .st s2] ∧ ∃ b, z = .bool b ∧ (b = true ↔ s = s2)) (pre := fun l => ∃ s s2, l = [.st s, .st s2] ∧ (s.tenants.length ≤ 1000000 ∧ s.cells.length ≤ 1000000)) (by kernel_rfl) (by
  rintro ps w ⟨s, s2, hps, hpre⟩ hok
  obtain ⟨y, ps0, rfl, hps0⟩ := dt_s hps
  obtain ⟨y2, ps1, rfl, hps1⟩ := dt_s hps0
  obtain rfl := dt_nil hps1
  have hps := hok (.st y s) (by simp)
  have hps2 := hok (.st y2 s2) (by simp)
  refine (r12Same_any y s y2 s2 w hps hps2 hpre.1 hpre.2).mono ?_
  rintro e w' ⟨z, hz, rfl, hb⟩
  exact ⟨z, ⟨s, s2, rfl, hz⟩, (by obtain ⟨b, rfl, -⟩ := hz; trivial), rfl, hb⟩
  )).mono (by
  rintro vs mem nx K ⟨M, y, s, M2, y2, s2, rfl, hk, hpre, hK⟩
  exact ⟨[.st M y s, .st M2 y2 s2], rfl, ⟨hk.1, hk.2, trivial⟩, ⟨_, _, rfl, hpre⟩, by rintro z ⟨s', s2', hl, hz⟩; cases hl; exact hK z hz⟩)
end Go.Proofs.YtjobcfpnmfjlfaaGreat

namespace Go.Proofs.YtjobcfpnmfjlfaaGreat
open Go.RowKit
set_option linter.unusedSimpArgs false
set_option linter.unusedVariables false

theorem zoneInfo : (Tryz.prog.info? 72).map (fun i => (i.zero, i.size, i.bytes)) = some (some (.agg #[.int .i64 0]), 1, 8) := by kernel_rfl
theorem cellInfo : (Tryz.prog.info? 74).map (fun i => (i.zero, i.size, i.bytes)) = some (some (.agg #[.int .i64 0, .int .i64 0]), 2, 16) := by kernel_rfl
theorem verInfo : (Tryz.prog.info? 79).map (fun i => (i.zero, i.size, i.bytes)) = some (some (.agg #[.int .i64 0, .int .i64 0]), 2, 16) := by kernel_rfl
theorem tenInfo : (Tryz.prog.info? 77).map (fun i => (i.zero, i.size, i.bytes)) = some (some (.agg #[.int .i64 0, .int .i64 0, .int .i64 0, .int .i64 0, .int .i64 0, .int .i64 0, .bool false]), 7, 56) := by kernel_rfl
theorem tenSize : (Tryz.prog.info? 77).map (·.size) = some 7 := by kernel_rfl
theorem cfgSize : (Tryz.prog.info? 30).map (·.size) = some 10 := by kernel_rfl
theorem intInfo : (Tryz.prog.info? 3).map (fun i => (i.zero, i.size, i.bytes)) = some (some (.int .i64 0), 1, 8) := by kernel_rfl

theorem Blk.size_lt {w : World} {g : Nat} {t : TypeId} {cs : Array Value} (h : Blk w g t cs) : g < w.heap.size := h.lt

/-- A configuration in the making: the tape, its box, what lies finished below B. -/
structure CI (w : World) (A : Option Addr) (cap : Nat) (zs : List Int) (g k : Nat) (c : Cfg) (x : CfgA) (c0 : Cfg) (B : Nat) (wr : World) : Prop where
  tape : TapeAt wr (w.heap.size + 1) A cap zs k
  box : Blk wr g 30 (cfgC x c)
  res : Blk wr w.heap.size 30 (cfgC ⟨none, 0, none, 0, none, 0, none, 0, none, 0, none, 0⟩ ⟨0, [], [], [], [], [], [], 0, 0, 0⟩)
  below : Below w.heap.size w wr
  gt : w.heap.size + 1 < g
  gB : g < B
  sz : B ≤ wr.heap.size
  ok : CfgOk wr (fun b => g < b ∧ b < B) x c0

section
variable {w : World} {A : Option Addr} {cap : Nat} {zs : List Int} {g k k' : Nat} {c c' c0 : Cfg} {x x' : CfgA} {B : Nat} {wr w1 : World}
theorem CI.grown (h : CI w A cap zs g k c x c0 B wr) {row : Option Nat} (hg : wr.grownBy w1 row) (hr : ∀ b, row = some b → B ≤ b) : CI w A cap zs g k c x c0 B w1 := by
  have h1 := h.gt
  have h2 := h.gB
  have h3 := h.sz
  have hne : ∀ b, b < B → some b ≠ row := fun b hb e => by have := hr b e.symm; omega
  exact ⟨h.tape.grown hg (fun b e => by have := hr b e; omega), h.box.grown hg (hne _ h2), h.res.grown hg (hne _ (by omega)), h.below.grown hg h.below.size (fun b e => by have := hr b e; omega), h1, h2, Nat.le_trans h3 hg.size,
    h.ok.keep fun b hb => hg.block b (by have := hb.2; omega) (hne b hb.2)⟩
theorem CI.next (h : CI w A cap zs g k c x c0 B wr) (ht : TapeAt w1 (w.heap.size + 1) A cap zs k') (hg : wr.grownBy w1 (some (w.heap.size + 1))) : CI w A cap zs g k' c x c0 B w1 := by
  have h1 := h.gt
  have h2 := h.gB
  have h3 := h.sz
  have hne : ∀ b, b ≠ w.heap.size + 1 → some b ≠ some (w.heap.size + 1) := fun b hb e => hb (by injection e)
  exact ⟨ht, h.box.grown hg (hne _ (by omega)), h.res.grown hg (hne _ (by omega)), h.below.grown hg h.below.size (by rintro k ⟨⟩; omega), h1, h2, Nat.le_trans h3 hg.size,
    h.ok.keep fun b hb => hg.block b (by have := hb.2; omega) (hne b (by have := hb.1; omega))⟩
theorem CI.set (h : CI w A cap zs g k c x c0 B wr) (i : Nat) (v : Value) (hbox : (cfgC x c).setIfInBounds i v = cfgC x' c') (hok : ∀ W S, CfgOk W S x c0 → CfgOk W S x' c0) : CI w A cap zs g k c' x' c0 B (wr.setCell ⟨g, i, none⟩ v) := by
  have h1 := h.gt
  have h2 := h.gB
  have h3 := h.sz
  have hb := h.box.set_ i v
  rw [hbox] at hb
  exact ⟨h.tape.keep fun b hb => Below.heap_setCell _ _ _ _ (by show b ≠ g; omega), hb, h.res.far (by show w.heap.size ≠ g; omega) _, h.below.setCell (by show _ ≤ g; omega) _, h1, h2, by simpa [World.setCell] using h3,
    (hok _ _ h.ok).keep fun b hb => Below.heap_setCell _ _ _ _ (by show b ≠ g; have := hb.1; omega)⟩
/-- A finished row joins what lies below. -/
theorem CI.up (h : CI w A cap zs g k c x c0 B wr) {B' : Nat} (hB : B ≤ B') (hs : B' ≤ wr.heap.size) {c1 : Cfg} (hok : CfgOk wr (fun b => g < b ∧ b < B') x c0 → CfgOk wr (fun b => g < b ∧ b < B') x c1) : CI w A cap zs g k c x c1 B' wr :=
  ⟨h.tape, h.box, h.res, h.below, h.gt, Nat.lt_of_lt_of_le h.gB hB, hs, hok (h.ok.more fun b hb => ⟨hb.1, Nat.lt_of_lt_of_le hb.2 hB⟩)⟩
end

theorem grown_drew1 (w : World) (row : Option Nat) : w.grownBy w.drew row := ⟨rfl, rfl, rfl, Nat.le_refl _, fun _ _ _ => rfl⟩
theorem flat_snoc {α : Type} (enc : α → List Value) (l : List α) (a : α) : flat enc l ++ enc a = flat enc (l ++ [a]) := by simp [flat]
theorem own_setFar {w : World} {base : Nat} {e : TypeId} {size : Nat} {v : Value} {n : Nat} {xs : List Value} (h : w.ownsRow base e size v n xs) {p : Addr} (hp : p.block < base) (u : Value) :
    (w.setCell p u).ownsRow base e size v n xs := by
  refine ⟨h.1, h.2.imp id ?_⟩
  rintro ⟨g, cap, cur, rfl, hb, hh, rest⟩
  refine ⟨g, cap, cur, rfl, hb, ?_, rest⟩
  rw [Below.heap_setCell w p u g (by omega)]
  exact hh

theorem shl1_pow (r : Int) (h1 : 1 ≤ r) (h2 : r ≤ 4) : IntKind.i64.wrap (2 ^ r.toNat) = shl1 r := by
  have hr : r = 1 ∨ r = 2 ∨ r = 3 ∨ r = 4 := by omega
  rcases hr with rfl | rfl | rfl | rfl <;> rfl
theorem shl1_pow1 (r : Int) (h1 : 1 ≤ r) (h2 : r ≤ 4) : wrap64 (wrap64 (2 ^ min r.toNat 64) - 1) = shl1 r - 1 := by
  have hr : r = 1 ∨ r = 2 ∨ r = 3 ∨ r = 4 := by omega
  rcases hr with rfl | rfl | rfl | rfl <;> simp [shl1] <;> (unfold wrap64; simp)
theorem shl1_bd (r : Int) : 2 ≤ shl1 r ∧ shl1 r ≤ 16 := by unfold shl1; repeat' split <;> omega
theorem own_grownNeC {w w' : World} {base : Nat} {e : TypeId} {size : Nat} {v : Value} {n : Nat} {xs : List Value} (h : w.ownsRow base e size v n xs) {row : Option Nat} (hg : w.grownBy w' row) (hr : ∀ k, row = some k → v.ownBlock ≠ some k) :
    w'.ownsRow base e size v n xs := by
  refine ⟨h.1, h.2.imp id ?_⟩
  rintro ⟨g, cap, cur, rfl, hb, hh, rest⟩
  refine ⟨g, cap, cur, rfl, hb, ?_, rest⟩
  rw [hg.block g (Blk.lt hh) (fun e => hr g e.symm rfl)]
  exact hh
def cf0 (r bl le ba : Int) : Cfg := ⟨r, [], [], [], [], [], [], bl, le, ba⟩
def xz (az : Option Addr) (cz : Nat) : CfgA := ⟨az, cz, none, 0, none, 0, none, 0, none, 0, none, 0⟩
/-- Behind the loop over the zones. -/
def AfterZones (w : World) (A : Option Addr) (cap : Nat) (zs : List Int) (g : Nat) (r bl le ba : Int) (wx : World) : Prop :=
  ∃ (k : Nat) (zl : List Int) (az : Option Addr) (cz : Nat), k ≤ 20 ∧ 1 ≤ zl.length ∧ zl.length ≤ 6 ∧ zl.all (fun z => inR z 0 (r - 1)) = true ∧
    CI w A cap zs g k { cf0 r bl le ba with zones := zl } (xz az cz) { cf0 r bl le ba with zones := zl } wx.heap.size wx

/-- Ahead of the box: the tape and the result's cell. -/
structure PI (w : World) (A : Option Addr) (cap : Nat) (zs : List Int) (k : Nat) (wr : World) : Prop where
  tape : TapeAt wr (w.heap.size + 1) A cap zs k
  res : Blk wr w.heap.size 30 (cfgC ⟨none, 0, none, 0, none, 0, none, 0, none, 0, none, 0⟩ ⟨0, [], [], [], [], [], [], 0, 0, 0⟩)
  below : Below w.heap.size w wr
theorem PI.next {w : World} {A : Option Addr} {cap : Nat} {zs : List Int} {k k' : Nat} {wr w1 : World} (h : PI w A cap zs k wr) (ht : TapeAt w1 (w.heap.size + 1) A cap zs k') (hg : wr.grownBy w1 (some (w.heap.size + 1))) : PI w A cap zs k' w1 :=
  ⟨ht, h.res.grown hg (by intro e; injection e; omega), h.below.grown hg h.below.size (by rintro k ⟨⟩; omega)⟩
theorem CI.new {w : World} {A : Option Addr} {cap : Nat} {zs : List Int} {k : Nat} {wr : World} (h : PI w A cap zs k wr) (r bl le ba : Int) :
    CI w A cap zs wr.heap.size k (cf0 r bl le ba) ⟨none, 0, none, 0, none, 0, none, 0, none, 0, none, 0⟩ (cf0 r bl le ba) (wr.heap.size + 1) (wr.alloc (.cells (cfgC ⟨none, 0, none, 0, none, 0, none, 0, none, 0, none, 0⟩ (cf0 r bl le ba)) 30)) :=
  ⟨h.tape.alloc _, Blk.new _ _ _, h.res.alloc _, h.below.alloc h.below.size _, h.tape.lt, Nat.lt_succ_self _, by simp,
    ⟨fun h => absurd rfl h, fun h => absurd rfl h, fun h => absurd rfl h, fun h => absurd rfl h, fun h => absurd rfl h, fun h => absurd rfl h⟩⟩

def ZRel (w : World) (A : Option Addr) (cap : Nat) (zs : List Int) (g : Nat) (r bl le ba : Int) (B gk : Nat) (si : Value) (wr : World) : Prop :=
  ∃ (l : List Int) (az : Option Addr) (cz k : Nat), gk + l.length = 7 ∧ l.length ≤ 6 ∧ k ≤ 4 + l.length ∧ si = .int .i64 l.length ∧ l.all (fun z => inR z 0 (r - 1)) = true ∧
    CI w A cap zs g k { cf0 r bl le ba with zones := l } (xz az cz) (cf0 r bl le ba) B wr ∧ wr.ownsRow B 72 1 (.slice az l.length cz) l.length (flat intC l)

def CRel (w : World) (A : Option Addr) (cap : Nat) (zs : List Int) (g : Nat) (r bl le ba : Int) (zl : List Int) (az : Option Addr) (cz B gk : Nat) (si : Value) (wr : World) : Prop :=
  ∃ (l : List (Int × Int)) (ac : Option Addr) (cc k : Nat), gk + l.length = 8 ∧ l.length ≤ 7 ∧ k ≤ 20 + 2 * l.length ∧ si = .int .i64 l.length ∧ l.all (fun y => inR y.1 0 (zl.length - 1) && inR y.2 1 40) = true ∧
    CI w A cap zs g k ⟨r, zl, l, [], [], [], [], bl, le, ba⟩ ⟨az, cz, ac, cc, none, 0, none, 0, none, 0, none, 0⟩ ⟨r, zl, [], [], [], [], [], bl, le, ba⟩ B wr ∧ wr.ownsRow B 74 2 (.slice ac l.length cc) l.length (flat pairC l)
def AfterCells (w : World) (A : Option Addr) (cap : Nat) (zs : List Int) (g : Nat) (r bl le ba : Int) (zl : List Int) (wx : World) : Prop :=
  ∃ (k : Nat) (cl : List (Int × Int)) (az : Option Addr) (cz : Nat) (ac : Option Addr) (cc : Nat), k ≤ 40 ∧ 1 ≤ cl.length ∧ cl.length ≤ 7 ∧ cl.all (fun y => inR y.1 0 (zl.length - 1) && inR y.2 1 40) = true ∧
    CI w A cap zs g k ⟨r, zl, cl, [], [], [], [], bl, le, ba⟩ ⟨az, cz, ac, cc, none, 0, none, 0, none, 0, none, 0⟩ ⟨r, zl, cl, [], [], [], [], bl, le, ba⟩ wx.heap.size wx

def TRel (w : World) (A : Option Addr) (cap : Nat) (zs : List Int) (g : Nat) (r bl le ba : Int) (zl : List Int) (cl : List (Int × Int)) (az : Option Addr) (cz : Nat) (ac : Option Addr) (cc B gk : Nat) (si : Value) (wr : World) : Prop :=
  ∃ (l : List Ten) (at_ : Option Addr) (ct k : Nat), gk + l.length ≤ 5 ∧ k ≤ 41 + 10 * l.length ∧ si = .int .i64 gk ∧ l.all (tenOk r) = true ∧
    CI w A cap zs g k ⟨r, zl, cl, l, [], [], [], bl, le, ba⟩ ⟨az, cz, ac, cc, at_, ct, none, 0, none, 0, none, 0⟩ ⟨r, zl, cl, [], [], [], [], bl, le, ba⟩ B wr ∧ wr.ownsRow B 77 7 (.slice at_ l.length ct) l.length (flat tenC l)
def AfterTens (w : World) (A : Option Addr) (cap : Nat) (zs : List Int) (g : Nat) (r bl le ba : Int) (zl : List Int) (cl : List (Int × Int)) (wx : World) : Prop :=
  ∃ (k : Nat) (tl : List Ten) (az : Option Addr) (cz : Nat) (ac : Option Addr) (cc : Nat) (at_ : Option Addr) (ct : Nat), k ≤ 100 ∧ tl.length ≤ 5 ∧ tl.all (tenOk r) = true ∧
    CI w A cap zs g k ⟨r, zl, cl, tl, [], [], [], bl, le, ba⟩ ⟨az, cz, ac, cc, at_, ct, none, 0, none, 0, none, 0⟩ ⟨r, zl, cl, tl, [], [], [], bl, le, ba⟩ wx.heap.size wx

theorem CI.alloc {w : World} {A : Option Addr} {cap : Nat} {zs : List Int} {g k : Nat} {c c0 : Cfg} {x : CfgA} {B : Nat} {wr : World} (h : CI w A cap zs g k c x c0 B wr) (o : Obj) : CI w A cap zs g k c x c0 B (wr.alloc o) :=
  h.grown (grown_alloc (grown_refl wr none) o) (by rintro _ ⟨⟩)
/-- A tenant in a box of its own, beside what is made. -/
structure TIc (w : World) (A : Option Addr) (cap : Nat) (zs : List Int) (g k : Nat) (c : Cfg) (x : CfgA) (c0 : Cfg) (B b : Nat) (t : Ten) (v : Value) (n : Nat) (xs : List Value) (wr : World) : Prop where
  ci : CI w A cap zs g k c x c0 B wr
  own : wr.ownsRow B 77 7 v n xs
  blk : Blk wr b 77 (tenC t).toArray
  le : B ≤ b
  far : v.ownBlock ≠ some b
theorem TIc.next {w : World} {A : Option Addr} {cap : Nat} {zs : List Int} {g k k' : Nat} {c c0 : Cfg} {x : CfgA} {B b : Nat} {t : Ten} {v : Value} {n : Nat} {xs : List Value} {wr w1 : World} (h : TIc w A cap zs g k c x c0 B b t v n xs wr)
    (ht : TapeAt w1 (w.heap.size + 1) A cap zs k') (hg : wr.grownBy w1 (some (w.heap.size + 1))) : TIc w A cap zs g k' c x c0 B b t v n xs w1 := by
  have h1 := h.ci.gt
  have h2 := h.ci.gB
  have h3 := h.le
  exact ⟨h.ci.next ht hg, own_grown h.own hg (by rintro k ⟨⟩; omega), h.blk.grown hg (by intro e; injection e; omega), h.le, h.far⟩
theorem TIc.setAllowed {w : World} {A : Option Addr} {cap : Nat} {zs : List Int} {g k : Nat} {c c0 : Cfg} {x : CfgA} {B b : Nat} {t : Ten} {v : Value} {n : Nat} {xs : List Value} {wr : World} (h : TIc w A cap zs g k c x c0 B b t v n xs wr) (m : Int) :
    TIc w A cap zs g k c x c0 B b { t with allowed := m } v n xs (wr.setCell ⟨b, 4, none⟩ (.int .i64 m)) :=
  ⟨h.ci.grown (grown_set (grown_refl _ _) _ _) (by rintro _ ⟨⟩; exact h.le), own_grownNeC h.own (grown_set (grown_refl _ _) _ _) (by rintro _ ⟨⟩; exact h.far), by simpa [tenC] using h.blk.set_ 4 (.int .i64 m), h.le, h.far⟩
theorem tenOk_allowed {r : Int} {t : Ten} {m : Int} (h : tenOk r t = true) (h1 : 1 ≤ m) (h2 : m ≤ shl1 r - 1) : tenOk r { t with allowed := m } = true := by
  simp [tenOk, inR] at h ⊢
  omega
theorem putL7 (z0 z1 z2 z3 z4 z5 z6 v0 v1 v2 v3 v4 v5 v6 : Value) : putL #[z0, z1, z2, z3, z4, z5, z6] 0 [v0, v1, v2, v3, v4, v5, v6] = #[v0, v1, v2, v3, v4, v5, v6] := by simp [putL]
theorem TIc.store {w : World} {A : Option Addr} {cap : Nat} {zs : List Int} {g k : Nat} {c c0 : Cfg} {x : CfgA} {B b : Nat} {v : Value} {n : Nat} {xs : List Value} {wr : World} {z0 z1 z2 z3 z4 z5 z6 : Value} (h : CI w A cap zs g k c x c0 B wr)
    (ho : wr.ownsRow B 77 7 v n xs) (hb : Blk wr b 77 #[z0, z1, z2, z3, z4, z5, z6]) (hle : B ≤ b) (hf : v.ownBlock ≠ some b) (t : Ten) : TIc w A cap zs g k c x c0 B b t v n xs (wr.setCells b 0 (tenC t)) :=
  ⟨h.grown (grown_setCells _ 0 (grown_refl _ _)) (by rintro _ ⟨⟩; exact hle), own_grownNeC ho (grown_setCells _ 0 (grown_refl _ _)) (by rintro _ ⟨⟩; exact hf), (by have := Blk.setCells (tenC t) 0 hb; rwa [tenC, putL7] at this), hle, hf⟩
def TenCut (w : World) (A : Option Addr) (cap : Nat) (zs : List Int) (g k : Nat) (r : Int) (c : Cfg) (x : CfgA) (c0 : Cfg) (B : Nat) (v : Value) (n : Nat) (xs : List Value) (s9 : Value) (wr : World) : Prop :=
  ∃ (b k' : Nat) (t : Ten), s9 = .pointer (some ⟨b, 0, none⟩) ∧ k' ≤ k ∧ tenOk r t = true ∧ TIc w A cap zs g k' c x c0 B b t v n xs wr

def VRel (w : World) (A : Option Addr) (cap : Nat) (zs : List Int) (g : Nat) (r bl le ba : Int) (zl : List Int) (cl : List (Int × Int)) (tl : List Ten) (az : Option Addr) (cz : Nat) (ac : Option Addr) (cc : Nat) (at_ : Option Addr) (ct B gk : Nat) (si : Value) (wr : World) : Prop :=
  ∃ (l : List (Int × Int)) (av : Option Addr) (cv k : Nat), gk + l.length ≤ 3 ∧ 1 ≤ l.length ∧ k ≤ 105 + 10 * l.length ∧ si = .int .i64 gk ∧ versOk l = true ∧
    CI w A cap zs g k ⟨r, zl, cl, tl, l, [], [], bl, le, ba⟩ ⟨az, cz, ac, cc, at_, ct, av, cv, none, 0, none, 0⟩ ⟨r, zl, cl, tl, [], [], [], bl, le, ba⟩ B wr ∧ wr.ownsRow B 79 2 (.slice av l.length cv) l.length (flat pairC l)
def AfterVers (w : World) (A : Option Addr) (cap : Nat) (zs : List Int) (g : Nat) (r bl le ba : Int) (zl : List Int) (cl : List (Int × Int)) (tl : List Ten) (wx : World) : Prop :=
  ∃ (k : Nat) (vl : List (Int × Int)) (az : Option Addr) (cz : Nat) (ac : Option Addr) (cc : Nat) (at_ : Option Addr) (ct : Nat) (av : Option Addr) (cv : Nat), k ≤ 150 ∧ 1 ≤ vl.length ∧ vl.length ≤ 3 ∧ versOk vl = true ∧
    CI w A cap zs g k ⟨r, zl, cl, tl, vl, [], [], bl, le, ba⟩ ⟨az, cz, ac, cc, at_, ct, av, cv, none, 0, none, 0⟩ ⟨r, zl, cl, tl, vl, [], [], bl, le, ba⟩ wx.heap.size wx

theorem versOk_snoc {l : List (Int × Int)} {lo hi : Int} (h : versOk l = true) (h1 : 1 ≤ l.length) (a : 0 ≤ lo) (b : lo ≤ hi) (d : hi ≤ 30) : versOk (l ++ [(lo, hi)]) = true := by
  unfold versOk at *
  rw [List.all_eq_true] at *
  intro i hi'
  rw [List.mem_range, List.length_append] at hi'
  simp at hi'
  by_cases hlt : i < l.length
  · have := h i (List.mem_range.2 hlt)
    rw [List.getElem?_append_left hlt]
    exact this
  · obtain rfl : i = l.length := by omega
    have hne : l ≠ [] := by rintro rfl; simp at h1
    simp [verOk, hne]
    omega
/-- A configuration as Config makes it. -/
structure MadeCfg (c : Cfg) : Prop where
  valid : cfgErr c = 0
  regions : 1 ≤ c.regions ∧ c.regions ≤ 3
  zones : 1 ≤ c.zones.length ∧ c.zones.length ≤ 6
  cells : 1 ≤ c.cells.length ∧ c.cells.length ≤ 7
  tenants : c.tenants.length ≤ 5
  versions : 1 ≤ c.versions.length ∧ c.versions.length ≤ 3
  replicas : c.replicas.length = 1 ∨ c.replicas.length = 3
  observers : 1 ≤ c.observers.length ∧ c.observers.length ≤ 4
  blast : 1 ≤ c.blast ∧ c.blast ≤ 3
  lease : 2 ≤ c.lease ∧ c.lease ≤ 12
  bake : 0 ≤ c.bake ∧ c.bake ≤ 8
  caps : c.cells.all (fun y => inR y.1 0 (c.zones.length - 1) && inR y.2 1 40) = true
theorem madeCfg_of (r bl le ba : Int) (zl : List Int) (cl : List (Int × Int)) (tl : List Ten) (vl : List (Int × Int)) (rl ol : List Int) (h1 : 1 ≤ r ∧ r ≤ 3) (h2 : 1 ≤ zl.length ∧ zl.length ≤ 6) (h3 : 1 ≤ cl.length ∧ cl.length ≤ 7)
    (h4 : tl.length ≤ 5) (h5 : 1 ≤ vl.length ∧ vl.length ≤ 3) (a1 : zl.all (fun z => inR z 0 (r - 1)) = true) (a2 : cl.all (fun y => inR y.1 0 (zl.length - 1) && inR y.2 1 40) = true) (a3 : tl.all (tenOk r) = true) (a4 : versOk vl = true)
    (a5 : rl.all (fun z => inR z 0 (zl.length - 1)) = true) (a6 : ol.all (fun z => inR z 0 (zl.length - 1)) = true) (h6 : rl.length = 1 ∨ rl.length = 3) (h7 : 1 ≤ ol.length ∧ ol.length ≤ 4) (h8 : 1 ≤ bl ∧ bl ≤ 3) (h9 : 2 ≤ le ∧ le ≤ 12) (h10 : 0 ≤ ba ∧ ba ≤ 8) :
    MadeCfg ⟨r, zl, cl, tl, vl, rl, ol, bl, le, ba⟩ := by
  refine ⟨?_, h1, h2, h3, h4, h5, h6, h7, h8, h9, h10, a2⟩
  have b1 : cl.all (fun y => inR y.1 0 (zl.length - 1)) = true := by
    rw [List.all_eq_true] at a2 ⊢
    exact fun y hy => (Bool.and_eq_true _ _ ▸ a2 y hy).1
  have b2 : cl.all (fun y => inR y.2 1 4194304) = true := by
    rw [List.all_eq_true] at a2 ⊢
    intro y hy
    have := (Bool.and_eq_true _ _ ▸ a2 y hy).2
    simp [inR] at this ⊢
    omega
  have l1 : limitsB ⟨r, zl, cl, tl, vl, rl, ol, bl, le, ba⟩ = true := by simp [limitsB, inR]; omega
  have l2 : placesB ⟨r, zl, cl, tl, vl, rl, ol, bl, le, ba⟩ = true := by unfold placesB; rw [a1, b1, a5, a6]; rfl
  have l3 : valuesB ⟨r, zl, cl, tl, vl, rl, ol, bl, le, ba⟩ = true := by
    unfold valuesB
    rw [b2, a4]
    simp [inR]
    omega
  have l4 : ¬ rl.length % 2 = 0 := by omega
  have l5 : topoErr ⟨r, zl, cl, tl, vl, rl, ol, bl, le, ba⟩ = 0 := by simp [topoErr, l1, l2, l3, l4]
  simp only [cfgErr, l5, a3]
  rfl
/-- What Config answers: a configuration in new memory. -/
def CfgPost (w : World) (e : Ending) (w' : World) : Prop :=
  ∃ (x : CfgA) (c : Cfg), e = .returned (.agg (cfgC x c)) ∧ CfgOk w' (fun b => w.heap.size ≤ b ∧ b < w'.heap.size) x c ∧ MadeCfg c ∧ Below w.heap.size w w'
def RRel (w : World) (A : Option Addr) (cap : Nat) (zs : List Int) (g : Nat) (r bl le ba : Int) (zl : List Int) (cl : List (Int × Int)) (tl : List Ten) (vl : List (Int × Int)) (az : Option Addr) (cz : Nat) (ac : Option Addr) (cc : Nat) (at_ : Option Addr) (ct : Nat) (av : Option Addr) (cv B n0 gk : Nat) (si : Value) (wr : World) : Prop :=
  ∃ (l : List Int) (ar : Option Addr) (cr k : Nat), gk + l.length = n0 ∧ k ≤ 155 + 10 * l.length ∧ si = .int .i64 gk ∧ l.all (fun z => inR z 0 (zl.length - 1)) = true ∧
    CI w A cap zs g k ⟨r, zl, cl, tl, vl, l, [], bl, le, ba⟩ ⟨az, cz, ac, cc, at_, ct, av, cv, ar, cr, none, 0⟩ ⟨r, zl, cl, tl, vl, [], [], bl, le, ba⟩ B wr ∧ wr.ownsRow B 3 1 (.slice ar l.length cr) l.length (flat intC l)
def AfterReps (w : World) (A : Option Addr) (cap : Nat) (zs : List Int) (g : Nat) (r bl le ba : Int) (zl : List Int) (cl : List (Int × Int)) (tl : List Ten) (vl : List (Int × Int)) (n0 : Nat) (wx : World) : Prop :=
  ∃ (k : Nat) (rl : List Int) (az : Option Addr) (cz : Nat) (ac : Option Addr) (cc : Nat) (at_ : Option Addr) (ct : Nat) (av : Option Addr) (cv : Nat) (ar : Option Addr) (cr : Nat), k ≤ 200 ∧ rl.length = n0 ∧ rl.all (fun z => inR z 0 (zl.length - 1)) = true ∧
    CI w A cap zs g k ⟨r, zl, cl, tl, vl, rl, [], bl, le, ba⟩ ⟨az, cz, ac, cc, at_, ct, av, cv, ar, cr, none, 0⟩ ⟨r, zl, cl, tl, vl, rl, [], bl, le, ba⟩ wx.heap.size wx
def ORel (w : World) (A : Option Addr) (cap : Nat) (zs : List Int) (g : Nat) (r bl le ba : Int) (zl : List Int) (cl : List (Int × Int)) (tl : List Ten) (vl : List (Int × Int)) (rl : List Int) (az : Option Addr) (cz : Nat) (ac : Option Addr) (cc : Nat) (at_ : Option Addr) (ct : Nat) (av : Option Addr) (cv : Nat) (ar : Option Addr) (cr : Nat) (B n0 gk : Nat) (si : Value) (wr : World) : Prop :=
  ∃ (l : List Int) (ao : Option Addr) (co k : Nat), gk + l.length = n0 ∧ k ≤ 205 + 10 * l.length ∧ si = .int .i64 gk ∧ l.all (fun z => inR z 0 (zl.length - 1)) = true ∧
    CI w A cap zs g k ⟨r, zl, cl, tl, vl, rl, l, bl, le, ba⟩ ⟨az, cz, ac, cc, at_, ct, av, cv, ar, cr, ao, co⟩ ⟨r, zl, cl, tl, vl, rl, [], bl, le, ba⟩ B wr ∧ wr.ownsRow B 3 1 (.slice ao l.length co) l.length (flat intC l)
def AfterObs (w : World) (A : Option Addr) (cap : Nat) (zs : List Int) (g : Nat) (r bl le ba : Int) (zl : List Int) (cl : List (Int × Int)) (tl : List Ten) (vl : List (Int × Int)) (rl : List Int) (n0 : Nat) (wx : World) : Prop :=
  ∃ (k : Nat) (ol : List Int) (x : CfgA), ol.length = n0 ∧ ol.all (fun z => inR z 0 (zl.length - 1)) = true ∧
    CI w A cap zs g k ⟨r, zl, cl, tl, vl, rl, ol, bl, le, ba⟩ x ⟨r, zl, cl, tl, vl, rl, ol, bl, le, ba⟩ wx.heap.size wx

end Go.Proofs.YtjobcfpnmfjlfaaGreat

namespace Go.Proofs.YtjobcfpnmfjlfaaGreat
open Go.RowKit
set_option linter.unusedSimpArgs false
set_option linter.unusedVariables false

/-- The region with a number, out of a function's code. -/
def regAt (id : Nat) : Code → Option Code
  | .region i ops d => if i = id then some (.region i ops d) else none
  | .seq a b => match regAt id a with
    | some c => some c
    | none => regAt id b
  | .cond _ a b => match regAt id a with
    | some c => some c
    | none => regAt id b
  | .block _ c => regAt id c
  | .loop c => regAt id c
  | .scope c => regAt id c
  | _ => none
noncomputable def reg15 : Code := (Tryz.f11.body.bind (regAt 15)).getD .skip

set_option maxHeartbeats 4000000 in
set_option maxRecDepth 100000 in
theorem ten15_any (c0 c1 c2 c5 c6 c7 c9 c10 c11 c12 c13 c14 c15 c16 c17 c18 c19 c20 c21 c22 c23 c24 c25 c26 c27 c28 c29 c30 c31 c32 c33 c34 c35 c36 c37 c38 c39 c40 c41 c42 c43 c44 c45 c46 c47 c48 c49 c50 c51 c52 c53 c54 c55 c56 c57 c58 c59 c60 c61 c62 c63 c64 c65 c66 c67 c68 c69 c70 c71 c72 c73 c74 c75 c76 c77 c78 c79 c80 c81 c82 c83 c84 c85 c86 c87 c88 c89 c90 c91 c92 c93 c94 c95 c96 c97 c98 c99 c100 c101 c102 c103 c104 c105 c106 c107 c108 c109 c110 c111 c112 c113 c114 c115 c116 c117 c118 c119 c120 c121 c122 c123 c124 c125 c126 c127 c128 c129 c130 c131 c132 c133 c134 c135 c136 c137 c138 c139 c140 c141 c142 c143 c144 c145 c146 c147 c148 c149 c150 c151 c152 c153 c154 c155 c156 c157 c158 c159 c160 c161 c162 c163 c164 c165 c166 c167 c168 c169 c170 c171 c172 c173 c174 c175 c176 c177 c178 c179 c180 c181 : Value) (w : World) (A : Option Addr) (cap : Nat) (zs : List Int) (g ka : Nat) (n r : Int) (c : Cfg) (x : CfgA) (c0' : Cfg) (B : Nat) (at_ : Option Addr) (ct : Nat) (l : List Ten) (wa : World) (Q : Exit → Act → World → Prop)
    (hn : 1 ≤ n ∧ n ≤ 12) (hr : 1 ≤ r ∧ r ≤ 3) (hcr : c.regions = r) (hka : ka ≤ 1000) (hci : CI w A cap zs g ka c x c0' B wa) (hown : wa.ownsRow B 77 7 (.slice at_ l.length ct) l.length (flat tenC l))
    (hpan : ∀ c a d v w, Q (.panic c) (Act.put a d v) w → Q (.panic c) a w)
    (hQ : ∀ (u9 u88 u89 u90 u91 u92 u93 u94 u95 u96 u97 u98 u99 u100 u101 u102 u103 u104 u105 u106 : Value) (wx : World), TenCut w A cap zs g (ka + 5) r c x c0' B (.slice at_ l.length ct) l.length (flat tenC l) u9 wx → Q .normal ⟨#[c0, c1, c2, .pointer (some ⟨w.heap.size + 1, 0, none⟩), .pointer (some ⟨g, 0, none⟩), c5, c6, c7, .int .i64 n, u9, c10, c11, c12, c13, c14, c15, c16, c17, c18, c19, c20, c21, c22, c23, c24, c25, c26, c27, c28, c29, c30, c31, c32, c33, c34, c35, c36, c37, c38, c39, c40, c41, c42, c43, c44, c45, c46, c47, c48, c49, c50, c51, c52, c53, c54, c55, c56, c57, c58, c59, c60, c61, c62, c63, c64, c65, c66, c67, c68, c69, c70, c71, c72, c73, c74, c75, c76, c77, c78, c79, c80, c81, c82, c83, c84, c85, c86, c87, u88, u89, u90, u91, u92, u93, u94, u95, u96, u97, u98, u99, u100, u101, u102, u103, u104, u105, u106, c107, c108, c109, c110, c111, c112, c113, c114, c115, c116, c117, c118, c119, c120, c121, c122, c123, c124, c125, c126, c127, c128, c129, c130, c131, c132, c133, c134, c135, c136, c137, c138, c139, c140, c141, c142, c143, c144, c145, c146, c147, c148, c149, c150, c151, c152, c153, c154, c155, c156, c157, c158, c159, c160, c161, c162, c163, c164, c165, c166, c167, c168, c169, c170, c171, c172, c173, c174, c175, c176, c177, c178, c179, c180, c181], []⟩ wx) :
    Code.wp Tryz.prog reg15 Q ⟨#[c0, c1, c2, .pointer (some ⟨w.heap.size + 1, 0, none⟩), .pointer (some ⟨g, 0, none⟩), c5, c6, c7, .int .i64 n, c9, c10, c11, c12, c13, c14, c15, c16, c17, c18, c19, c20, c21, c22, c23, c24, c25, c26, c27, c28, c29, c30, c31, c32, c33, c34, c35, c36, c37, c38, c39, c40, c41, c42, c43, c44, c45, c46, c47, c48, c49, c50, c51, c52, c53, c54, c55, c56, c57, c58, c59, c60, c61, c62, c63, c64, c65, c66, c67, c68, c69, c70, c71, c72, c73, c74, c75, c76, c77, c78, c79, c80, c81, c82, c83, c84, c85, c86, c87, c88, c89, c90, c91, c92, c93, c94, c95, c96, c97, c98, c99, c100, c101, c102, c103, c104, c105, c106, c107, c108, c109, c110, c111, c112, c113, c114, c115, c116, c117, c118, c119, c120, c121, c122, c123, c124, c125, c126, c127, c128, c129, c130, c131, c132, c133, c134, c135, c136, c137, c138, c139, c140, c141, c142, c143, c144, c145, c146, c147, c148, c149, c150, c151, c152, c153, c154, c155, c156, c157, c158, c159, c160, c161, c162, c163, c164, c165, c166, c167, c168, c169, c170, c171, c172, c173, c174, c175, c176, c177, c178, c179, c180, c181], []⟩ wa := by
  conv => arg 2; whnf
  obtain ⟨hr1, hr2⟩ := hr
  obtain ⟨hn1, hn2⟩ := hn
  have inv := hci.grown (grown_drew1 wa none) (by rintro _ ⟨⟩)
  have iow := Lib.hid (own_grown hown (grown_drew1 wa none) (by rintro _ ⟨⟩))
  have en : IntKind.i64.wrap (n + 1) = n + 1 := IntWalk.i64_in _ (by omega)
  have hsh := shl1_bd r
  have eu : IntKind.u64.wrap r = r := by
    have hr3 : r = 1 ∨ r = 2 ∨ r = 3 := by omega
    rcases hr3 with rfl | rfl | rfl <;> rfl
  have esh : IntKind.i64.wrap (2 ^ r.toNat) = shl1 r := by
    have hr3 : r = 1 ∨ r = 2 ∨ r = 3 := by omega
    rcases hr3 with rfl | rfl | rfl <;> rfl
  have es1 : IntKind.i64.wrap (shl1 r - 1) = shl1 r - 1 := IntWalk.i64_in _ (by omega)
  obtain ⟨r', zl, cl, tl, vl, rl, ol, bl, le, ba⟩ := c
  obtain rfl : r = r' := hcr.symm
  clear hci hown
  refine wp_region_seqA (fun w' : World => w'.cell? ⟨g, 0, none⟩ = some (.int .i64 r)) 20 19 [(0, false), (1, false), (2, false), (3, false), (5, false), (7, false), (9, false), (10, false), (11, false), (12, false), (13, false), (14, false), (16, false), (4, true), (6, true), (8, true), (15, true), (17, true), (18, false)] (by kernel_rfl) (by kernel_rfl) (inv.box.cell' rfl) ?_
  generalize wa.drew = wd at *
  simp only [List.take_succ_cons, List.take_zero, List.drop_succ_cons, List.drop_zero]
  repeat (refine wpSeqA_fix _ ?_ rfl (by first | exact fun _ _ _ h => h | exact fun _ _ _ h => hpan _ _ _ _ _ h) (Or.inl ⟨by rfl, ?_⟩) ?_; rotate_left; (intro w' hSw; (try dsimp only at hSw); go_split_ands; go_simp; (try with_reducible rfl)); (simp only [List.getElem_toArray, List.getElem_cons_zero, List.getElem_cons_succ, Act.put, List.setIfInBounds_toArray, List.set_cons_zero, List.set_cons_succ]))
  refine wpSeqA_act rfl rfl rfl rfl ?_ ?_
  · go_simp
    refine (mkNext_any _ A cap zs _ (n + 1) _ (by omega) (by omega) (by omega) inv.tape).mono ?_
    rintro e wq ⟨q0, k0, hnq, rfl, htq, hgq⟩
    have iow := Lib.hid (own_grown iow.out hgq (by rintro k ⟨⟩; have := inv.gt; have := inv.gB; omega))
    replace inv := inv.next htq hgq
    have ql0 := hnq.lo
    have qh0 := hnq.hi
    have qm0 := hnq.most
    clear htq hgq hnq
    refine ⟨inv.box.cell' rfl, ?_⟩
    refine wpSeqA_act rfl rfl rfl rfl ?_ ?_
    · go_simp
      refine (mkNext_any _ A cap zs _ (4) _ (by omega) (by omega) (by omega) inv.tape).mono ?_
      rintro e wq ⟨q1, k1, hnq, rfl, htq, hgq⟩
      have iow := Lib.hid (own_grown iow.out hgq (by rintro k ⟨⟩; have := inv.gt; have := inv.gB; omega))
      replace inv := inv.next htq hgq
      have ql1 := hnq.lo
      have qh1 := hnq.hi
      have qm1 := hnq.most
      clear htq hgq hnq
      refine ⟨inv.box.cell' rfl, ?_⟩
      refine wpSeqA_act rfl rfl rfl rfl ?_ ?_
      · go_simp
        refine (mkRange_any _ A cap zs _ (-1) 3 _ (by omega) (by omega) (by omega) (by omega) inv.tape).mono ?_
        rintro e wq ⟨q2, k2, hnq, hq2, rfl, htq, hgq⟩
        have iow := Lib.hid (own_grown iow.out hgq (by rintro k ⟨⟩; have := inv.gt; have := inv.gB; omega))
        replace inv := inv.next htq hgq
        have ql2 := hnq.lo
        have qh2 := hnq.hi
        have qm2 := hnq.most
        clear htq hgq hnq
        refine ⟨inv.box.cell' rfl, ?_⟩
        refine wpSeqA_act rfl rfl rfl rfl ?_ ?_
        · go_simp
          refine (mkNext_any _ A cap zs _ (3) _ (by omega) (by omega) (by omega) inv.tape).mono ?_
          rintro e wq ⟨q3, k3, hnq, rfl, htq, hgq⟩
          have iow := Lib.hid (own_grown iow.out hgq (by rintro k ⟨⟩; have := inv.gt; have := inv.gB; omega))
          replace inv := inv.next htq hgq
          have ql3 := hnq.lo
          have qh3 := hnq.hi
          have qm3 := hnq.most
          clear htq hgq hnq
          refine ⟨inv.box.cell' rfl, ?_⟩
          refine wpSeqA_act rfl rfl rfl rfl ?_ ?_
          · go_simp
            refine (mkYes_any _ A cap zs _ (4) _ (by omega) (by omega) (by omega) inv.tape).mono ?_
            rintro e wq ⟨q4, k4, hnq, rfl, htq, hgq⟩
            have iow := Lib.hid (own_grown iow.out hgq (by rintro k ⟨⟩; have := inv.gt; have := inv.gB; omega))
            replace inv := inv.next htq hgq
            have ql4 := hnq.lo
            have qh4 := hnq.hi
            have qm4 := hnq.most
            clear htq hgq hnq
            refine ⟨inv.box.cell' rfl, ?_⟩
            repeat (refine wpSeqA_fix _ ?_ rfl (by first | exact fun _ _ _ h => h | exact fun _ _ _ h => hpan _ _ _ _ _ h) (Or.inl ⟨by rfl, ?_⟩) ?_; rotate_left; (intro w' hSw; (try dsimp only at hSw); go_split_ands; go_simp; (try with_reducible rfl)); (simp only [List.getElem_toArray, List.getElem_cons_zero, List.getElem_cons_succ, Act.put, List.setIfInBounds_toArray, List.set_cons_zero, List.set_cons_succ]))
            refine wpSeqA_end rfl rfl ?_
            go_simp
            have hbk := Blk.new wq 77 #[.int .i64 0, .int .i64 0, .int .i64 0, .int .i64 0, .int .i64 0, .int .i64 0, .bool false]
            have hle := inv.sz
            have hfar : (Value.slice at_ l.length ct).ownBlock ≠ some wq.heap.size := fun e => by have := (iow.out.lt _ e).2; omega
            replace inv := inv.alloc (.cells #[.int .i64 0, .int .i64 0, .int .i64 0, .int .i64 0, .int .i64 0, .int .i64 0, .bool false] 77)
            have iow := Lib.hid (iow.out.alloc (.cells #[.int .i64 0, .int .i64 0, .int .i64 0, .int .i64 0, .int .i64 0, .int .i64 0, .bool false] 77))
            generalize wq.alloc (.cells #[.int .i64 0, .int .i64 0, .int .i64 0, .int .i64 0, .int .i64 0, .int .i64 0, .bool false] 77) = wb at *
            generalize wq.heap.size = bb at *
            refine ⟨inv.box.cell' rfl, ?_⟩
            simp only [List.getElem_toArray, List.getElem_cons_zero, List.getElem_cons_succ, Act.put, List.setIfInBounds_toArray, List.set_cons_zero, List.set_cons_succ, thenK]
            refine wpList_store_mid (by rfl) _ _ _ (by rfl) bb 0 (tenC (⟨n, q0, q1, -1 + q2, shl1 r - 1, q3, q4 == 0⟩ : Ten)).toArray (by go_simp) (by simp only [tenC]; go_simp) (hbk.there 0 7 (by decide)) tenSize (by simp [tenC, Value.oneCell']) ?_
            have hti := TIc.store inv iow.out hbk hle hfar (⟨n, q0, q1, -1 + q2, shl1 r - 1, q3, q4 == 0⟩ : Ten)
            refine hQ _ _ _ _ _ _ _ _ _ _ _ _ _ _ _ _ _ _ _ _ _ ?_
            exact ⟨bb, k4, (⟨n, q0, q1, -1 + q2, shl1 r - 1, q3, q4 == 0⟩ : Ten), rfl, by omega, (by simp [tenOk, inR]; omega), hti⟩
          · go_simp
            have hbk := Blk.new wq 77 #[.int .i64 0, .int .i64 0, .int .i64 0, .int .i64 0, .int .i64 0, .int .i64 0, .bool false]
            have hle := inv.sz
            have hfar : (Value.slice at_ l.length ct).ownBlock ≠ some wq.heap.size := fun e => by have := (iow.out.lt _ e).2; omega
            replace inv := inv.alloc (.cells #[.int .i64 0, .int .i64 0, .int .i64 0, .int .i64 0, .int .i64 0, .int .i64 0, .bool false] 77)
            have iow := Lib.hid (iow.out.alloc (.cells #[.int .i64 0, .int .i64 0, .int .i64 0, .int .i64 0, .int .i64 0, .int .i64 0, .bool false] 77))
            generalize wq.alloc (.cells #[.int .i64 0, .int .i64 0, .int .i64 0, .int .i64 0, .int .i64 0, .int .i64 0, .bool false] 77) = wb at *
            generalize wq.heap.size = bb at *
            refine ⟨inv.box.cell' rfl, ?_⟩
            refine wpSeqH_act rfl rfl ?_
            go_simp
            refine (mkYes_any _ A cap zs _ (4) _ (by omega) (by omega) (by omega) inv.tape).mono ?_
            rintro e wq ⟨q4, k4, hnq, rfl, htq, hgq⟩
            have iow := Lib.hid (own_grown iow.out hgq (by rintro k ⟨⟩; have := inv.gt; have := inv.gB; omega))
            have hbk := hbk.grown hgq (by intro e; injection e; have := inv.gt; have := inv.gB; omega)
            replace inv := inv.next htq hgq
            have ql4 := hnq.lo
            have qh4 := hnq.hi
            have qm4 := hnq.most
            clear htq hgq hnq
            refine ⟨inv.box.cell' rfl, ?_⟩
            repeat (refine wpSeqH_fix _ ?_ rfl (by first | exact fun _ _ _ h => h | exact fun _ _ _ h => hpan _ _ _ _ _ h) (Or.inl ⟨by rfl, ?_⟩) ?_; rotate_left; (intro w' hSw; (try dsimp only at hSw); go_split_ands; go_simp; (try with_reducible rfl)); (simp only [List.getElem_toArray, List.getElem_cons_zero, List.getElem_cons_succ, Act.put, List.setIfInBounds_toArray, List.set_cons_zero, List.set_cons_succ]))
            refine wpSeqH_end ?_
            simp only [List.getElem_toArray, List.getElem_cons_zero, List.getElem_cons_succ, Act.put, List.setIfInBounds_toArray, List.set_cons_zero, List.set_cons_succ, thenK]
            refine wpList_store_mid (by rfl) _ _ _ (by rfl) bb 0 (tenC (⟨n, q0, q1, -1 + q2, shl1 r - 1, q3, q4 == 0⟩ : Ten)).toArray (by go_simp) (by simp only [tenC]; go_simp) (hbk.there 0 7 (by decide)) tenSize (by simp [tenC, Value.oneCell']) ?_
            have hti := TIc.store inv iow.out hbk hle hfar (⟨n, q0, q1, -1 + q2, shl1 r - 1, q3, q4 == 0⟩ : Ten)
            refine hQ _ _ _ _ _ _ _ _ _ _ _ _ _ _ _ _ _ _ _ _ _ ?_
            exact ⟨bb, k4, (⟨n, q0, q1, -1 + q2, shl1 r - 1, q3, q4 == 0⟩ : Ten), rfl, by omega, (by simp [tenOk, inR]; omega), hti⟩
        · go_simp
          have hbk := Blk.new wq 77 #[.int .i64 0, .int .i64 0, .int .i64 0, .int .i64 0, .int .i64 0, .int .i64 0, .bool false]
          have hle := inv.sz
          have hfar : (Value.slice at_ l.length ct).ownBlock ≠ some wq.heap.size := fun e => by have := (iow.out.lt _ e).2; omega
          replace inv := inv.alloc (.cells #[.int .i64 0, .int .i64 0, .int .i64 0, .int .i64 0, .int .i64 0, .int .i64 0, .bool false] 77)
          have iow := Lib.hid (iow.out.alloc (.cells #[.int .i64 0, .int .i64 0, .int .i64 0, .int .i64 0, .int .i64 0, .int .i64 0, .bool false] 77))
          generalize wq.alloc (.cells #[.int .i64 0, .int .i64 0, .int .i64 0, .int .i64 0, .int .i64 0, .int .i64 0, .bool false] 77) = wb at *
          generalize wq.heap.size = bb at *
          refine ⟨inv.box.cell' rfl, ?_⟩
          refine wpSeqH_act rfl rfl ?_
          go_simp
          refine (mkNext_any _ A cap zs _ (3) _ (by omega) (by omega) (by omega) inv.tape).mono ?_
          rintro e wq ⟨q3, k3, hnq, rfl, htq, hgq⟩
          have iow := Lib.hid (own_grown iow.out hgq (by rintro k ⟨⟩; have := inv.gt; have := inv.gB; omega))
          have hbk := hbk.grown hgq (by intro e; injection e; have := inv.gt; have := inv.gB; omega)
          replace inv := inv.next htq hgq
          have ql3 := hnq.lo
          have qh3 := hnq.hi
          have qm3 := hnq.most
          clear htq hgq hnq
          refine ⟨inv.box.cell' rfl, ?_⟩
          refine wpSeqH_act rfl rfl ?_
          go_simp
          refine (mkYes_any _ A cap zs _ (4) _ (by omega) (by omega) (by omega) inv.tape).mono ?_
          rintro e wq ⟨q4, k4, hnq, rfl, htq, hgq⟩
          have iow := Lib.hid (own_grown iow.out hgq (by rintro k ⟨⟩; have := inv.gt; have := inv.gB; omega))
          have hbk := hbk.grown hgq (by intro e; injection e; have := inv.gt; have := inv.gB; omega)
          replace inv := inv.next htq hgq
          have ql4 := hnq.lo
          have qh4 := hnq.hi
          have qm4 := hnq.most
          clear htq hgq hnq
          refine ⟨inv.box.cell' rfl, ?_⟩
          repeat (refine wpSeqH_fix _ ?_ rfl (by first | exact fun _ _ _ h => h | exact fun _ _ _ h => hpan _ _ _ _ _ h) (Or.inl ⟨by rfl, ?_⟩) ?_; rotate_left; (intro w' hSw; (try dsimp only at hSw); go_split_ands; go_simp; (try with_reducible rfl)); (simp only [List.getElem_toArray, List.getElem_cons_zero, List.getElem_cons_succ, Act.put, List.setIfInBounds_toArray, List.set_cons_zero, List.set_cons_succ]))
          refine wpSeqH_end ?_
          simp only [List.getElem_toArray, List.getElem_cons_zero, List.getElem_cons_succ, Act.put, List.setIfInBounds_toArray, List.set_cons_zero, List.set_cons_succ, thenK]
          refine wpList_store_mid (by rfl) _ _ _ (by rfl) bb 0 (tenC (⟨n, q0, q1, -1 + q2, shl1 r - 1, q3, q4 == 0⟩ : Ten)).toArray (by go_simp) (by simp only [tenC]; go_simp) (hbk.there 0 7 (by decide)) tenSize (by simp [tenC, Value.oneCell']) ?_
          have hti := TIc.store inv iow.out hbk hle hfar (⟨n, q0, q1, -1 + q2, shl1 r - 1, q3, q4 == 0⟩ : Ten)
          refine hQ _ _ _ _ _ _ _ _ _ _ _ _ _ _ _ _ _ _ _ _ _ ?_
          exact ⟨bb, k4, (⟨n, q0, q1, -1 + q2, shl1 r - 1, q3, q4 == 0⟩ : Ten), rfl, by omega, (by simp [tenOk, inR]; omega), hti⟩
      · go_simp
        have hbk := Blk.new wq 77 #[.int .i64 0, .int .i64 0, .int .i64 0, .int .i64 0, .int .i64 0, .int .i64 0, .bool false]
        have hle := inv.sz
        have hfar : (Value.slice at_ l.length ct).ownBlock ≠ some wq.heap.size := fun e => by have := (iow.out.lt _ e).2; omega
        replace inv := inv.alloc (.cells #[.int .i64 0, .int .i64 0, .int .i64 0, .int .i64 0, .int .i64 0, .int .i64 0, .bool false] 77)
        have iow := Lib.hid (iow.out.alloc (.cells #[.int .i64 0, .int .i64 0, .int .i64 0, .int .i64 0, .int .i64 0, .int .i64 0, .bool false] 77))
        generalize wq.alloc (.cells #[.int .i64 0, .int .i64 0, .int .i64 0, .int .i64 0, .int .i64 0, .int .i64 0, .bool false] 77) = wb at *
        generalize wq.heap.size = bb at *
        refine ⟨inv.box.cell' rfl, ?_⟩
        refine wpSeqH_act rfl rfl ?_
        go_simp
        refine (mkRange_any _ A cap zs _ (-1) 3 _ (by omega) (by omega) (by omega) (by omega) inv.tape).mono ?_
        rintro e wq ⟨q2, k2, hnq, hq2, rfl, htq, hgq⟩
        have iow := Lib.hid (own_grown iow.out hgq (by rintro k ⟨⟩; have := inv.gt; have := inv.gB; omega))
        have hbk := hbk.grown hgq (by intro e; injection e; have := inv.gt; have := inv.gB; omega)
        replace inv := inv.next htq hgq
        have ql2 := hnq.lo
        have qh2 := hnq.hi
        have qm2 := hnq.most
        clear htq hgq hnq
        refine ⟨inv.box.cell' rfl, ?_⟩
        refine wpSeqH_act rfl rfl ?_
        go_simp
        refine (mkNext_any _ A cap zs _ (3) _ (by omega) (by omega) (by omega) inv.tape).mono ?_
        rintro e wq ⟨q3, k3, hnq, rfl, htq, hgq⟩
        have iow := Lib.hid (own_grown iow.out hgq (by rintro k ⟨⟩; have := inv.gt; have := inv.gB; omega))
        have hbk := hbk.grown hgq (by intro e; injection e; have := inv.gt; have := inv.gB; omega)
        replace inv := inv.next htq hgq
        have ql3 := hnq.lo
        have qh3 := hnq.hi
        have qm3 := hnq.most
        clear htq hgq hnq
        refine ⟨inv.box.cell' rfl, ?_⟩
        refine wpSeqH_act rfl rfl ?_
        go_simp
        refine (mkYes_any _ A cap zs _ (4) _ (by omega) (by omega) (by omega) inv.tape).mono ?_
        rintro e wq ⟨q4, k4, hnq, rfl, htq, hgq⟩
        have iow := Lib.hid (own_grown iow.out hgq (by rintro k ⟨⟩; have := inv.gt; have := inv.gB; omega))
        have hbk := hbk.grown hgq (by intro e; injection e; have := inv.gt; have := inv.gB; omega)
        replace inv := inv.next htq hgq
        have ql4 := hnq.lo
        have qh4 := hnq.hi
        have qm4 := hnq.most
        clear htq hgq hnq
        refine ⟨inv.box.cell' rfl, ?_⟩
        repeat (refine wpSeqH_fix _ ?_ rfl (by first | exact fun _ _ _ h => h | exact fun _ _ _ h => hpan _ _ _ _ _ h) (Or.inl ⟨by rfl, ?_⟩) ?_; rotate_left; (intro w' hSw; (try dsimp only at hSw); go_split_ands; go_simp; (try with_reducible rfl)); (simp only [List.getElem_toArray, List.getElem_cons_zero, List.getElem_cons_succ, Act.put, List.setIfInBounds_toArray, List.set_cons_zero, List.set_cons_succ]))
        refine wpSeqH_end ?_
        simp only [List.getElem_toArray, List.getElem_cons_zero, List.getElem_cons_succ, Act.put, List.setIfInBounds_toArray, List.set_cons_zero, List.set_cons_succ, thenK]
        refine wpList_store_mid (by rfl) _ _ _ (by rfl) bb 0 (tenC (⟨n, q0, q1, -1 + q2, shl1 r - 1, q3, q4 == 0⟩ : Ten)).toArray (by go_simp) (by simp only [tenC]; go_simp) (hbk.there 0 7 (by decide)) tenSize (by simp [tenC, Value.oneCell']) ?_
        have hti := TIc.store inv iow.out hbk hle hfar (⟨n, q0, q1, -1 + q2, shl1 r - 1, q3, q4 == 0⟩ : Ten)
        refine hQ _ _ _ _ _ _ _ _ _ _ _ _ _ _ _ _ _ _ _ _ _ ?_
        exact ⟨bb, k4, (⟨n, q0, q1, -1 + q2, shl1 r - 1, q3, q4 == 0⟩ : Ten), rfl, by omega, (by simp [tenOk, inR]; omega), hti⟩
    · go_simp
      have hbk := Blk.new wq 77 #[.int .i64 0, .int .i64 0, .int .i64 0, .int .i64 0, .int .i64 0, .int .i64 0, .bool false]
      have hle := inv.sz
      have hfar : (Value.slice at_ l.length ct).ownBlock ≠ some wq.heap.size := fun e => by have := (iow.out.lt _ e).2; omega
      replace inv := inv.alloc (.cells #[.int .i64 0, .int .i64 0, .int .i64 0, .int .i64 0, .int .i64 0, .int .i64 0, .bool false] 77)
      have iow := Lib.hid (iow.out.alloc (.cells #[.int .i64 0, .int .i64 0, .int .i64 0, .int .i64 0, .int .i64 0, .int .i64 0, .bool false] 77))
      generalize wq.alloc (.cells #[.int .i64 0, .int .i64 0, .int .i64 0, .int .i64 0, .int .i64 0, .int .i64 0, .bool false] 77) = wb at *
      generalize wq.heap.size = bb at *
      refine ⟨inv.box.cell' rfl, ?_⟩
      refine wpSeqH_act rfl rfl ?_
      go_simp
      refine (mkNext_any _ A cap zs _ (4) _ (by omega) (by omega) (by omega) inv.tape).mono ?_
      rintro e wq ⟨q1, k1, hnq, rfl, htq, hgq⟩
      have iow := Lib.hid (own_grown iow.out hgq (by rintro k ⟨⟩; have := inv.gt; have := inv.gB; omega))
      have hbk := hbk.grown hgq (by intro e; injection e; have := inv.gt; have := inv.gB; omega)
      replace inv := inv.next htq hgq
      have ql1 := hnq.lo
      have qh1 := hnq.hi
      have qm1 := hnq.most
      clear htq hgq hnq
      refine ⟨inv.box.cell' rfl, ?_⟩
      refine wpSeqH_act rfl rfl ?_
      go_simp
      refine (mkRange_any _ A cap zs _ (-1) 3 _ (by omega) (by omega) (by omega) (by omega) inv.tape).mono ?_
      rintro e wq ⟨q2, k2, hnq, hq2, rfl, htq, hgq⟩
      have iow := Lib.hid (own_grown iow.out hgq (by rintro k ⟨⟩; have := inv.gt; have := inv.gB; omega))
      have hbk := hbk.grown hgq (by intro e; injection e; have := inv.gt; have := inv.gB; omega)
      replace inv := inv.next htq hgq
      have ql2 := hnq.lo
      have qh2 := hnq.hi
      have qm2 := hnq.most
      clear htq hgq hnq
      refine ⟨inv.box.cell' rfl, ?_⟩
      refine wpSeqH_act rfl rfl ?_
      go_simp
      refine (mkNext_any _ A cap zs _ (3) _ (by omega) (by omega) (by omega) inv.tape).mono ?_
      rintro e wq ⟨q3, k3, hnq, rfl, htq, hgq⟩
      have iow := Lib.hid (own_grown iow.out hgq (by rintro k ⟨⟩; have := inv.gt; have := inv.gB; omega))
      have hbk := hbk.grown hgq (by intro e; injection e; have := inv.gt; have := inv.gB; omega)
      replace inv := inv.next htq hgq
      have ql3 := hnq.lo
      have qh3 := hnq.hi
      have qm3 := hnq.most
      clear htq hgq hnq
      refine ⟨inv.box.cell' rfl, ?_⟩
      refine wpSeqH_act rfl rfl ?_
      go_simp
      refine (mkYes_any _ A cap zs _ (4) _ (by omega) (by omega) (by omega) inv.tape).mono ?_
      rintro e wq ⟨q4, k4, hnq, rfl, htq, hgq⟩
      have iow := Lib.hid (own_grown iow.out hgq (by rintro k ⟨⟩; have := inv.gt; have := inv.gB; omega))
      have hbk := hbk.grown hgq (by intro e; injection e; have := inv.gt; have := inv.gB; omega)
      replace inv := inv.next htq hgq
      have ql4 := hnq.lo
      have qh4 := hnq.hi
      have qm4 := hnq.most
      clear htq hgq hnq
      refine ⟨inv.box.cell' rfl, ?_⟩
      repeat (refine wpSeqH_fix _ ?_ rfl (by first | exact fun _ _ _ h => h | exact fun _ _ _ h => hpan _ _ _ _ _ h) (Or.inl ⟨by rfl, ?_⟩) ?_; rotate_left; (intro w' hSw; (try dsimp only at hSw); go_split_ands; go_simp; (try with_reducible rfl)); (simp only [List.getElem_toArray, List.getElem_cons_zero, List.getElem_cons_succ, Act.put, List.setIfInBounds_toArray, List.set_cons_zero, List.set_cons_succ]))
      refine wpSeqH_end ?_
      simp only [List.getElem_toArray, List.getElem_cons_zero, List.getElem_cons_succ, Act.put, List.setIfInBounds_toArray, List.set_cons_zero, List.set_cons_succ, thenK]
      refine wpList_store_mid (by rfl) _ _ _ (by rfl) bb 0 (tenC (⟨n, q0, q1, -1 + q2, shl1 r - 1, q3, q4 == 0⟩ : Ten)).toArray (by go_simp) (by simp only [tenC]; go_simp) (hbk.there 0 7 (by decide)) tenSize (by simp [tenC, Value.oneCell']) ?_
      have hti := TIc.store inv iow.out hbk hle hfar (⟨n, q0, q1, -1 + q2, shl1 r - 1, q3, q4 == 0⟩ : Ten)
      refine hQ _ _ _ _ _ _ _ _ _ _ _ _ _ _ _ _ _ _ _ _ _ ?_
      exact ⟨bb, k4, (⟨n, q0, q1, -1 + q2, shl1 r - 1, q3, q4 == 0⟩ : Ten), rfl, by omega, (by simp [tenOk, inR]; omega), hti⟩
  · go_simp
    have hbk := Blk.new wd 77 #[.int .i64 0, .int .i64 0, .int .i64 0, .int .i64 0, .int .i64 0, .int .i64 0, .bool false]
    have hle := inv.sz
    have hfar : (Value.slice at_ l.length ct).ownBlock ≠ some wd.heap.size := fun e => by have := (iow.out.lt _ e).2; omega
    replace inv := inv.alloc (.cells #[.int .i64 0, .int .i64 0, .int .i64 0, .int .i64 0, .int .i64 0, .int .i64 0, .bool false] 77)
    have iow := Lib.hid (iow.out.alloc (.cells #[.int .i64 0, .int .i64 0, .int .i64 0, .int .i64 0, .int .i64 0, .int .i64 0, .bool false] 77))
    generalize wd.alloc (.cells #[.int .i64 0, .int .i64 0, .int .i64 0, .int .i64 0, .int .i64 0, .int .i64 0, .bool false] 77) = wb at *
    generalize wd.heap.size = bb at *
    refine ⟨inv.box.cell' rfl, ?_⟩
    refine wpSeqH_act rfl rfl ?_
    go_simp
    refine (mkNext_any _ A cap zs _ (n + 1) _ (by omega) (by omega) (by omega) inv.tape).mono ?_
    rintro e wq ⟨q0, k0, hnq, rfl, htq, hgq⟩
    have iow := Lib.hid (own_grown iow.out hgq (by rintro k ⟨⟩; have := inv.gt; have := inv.gB; omega))
    have hbk := hbk.grown hgq (by intro e; injection e; have := inv.gt; have := inv.gB; omega)
    replace inv := inv.next htq hgq
    have ql0 := hnq.lo
    have qh0 := hnq.hi
    have qm0 := hnq.most
    clear htq hgq hnq
    refine ⟨inv.box.cell' rfl, ?_⟩
    refine wpSeqH_act rfl rfl ?_
    go_simp
    refine (mkNext_any _ A cap zs _ (4) _ (by omega) (by omega) (by omega) inv.tape).mono ?_
    rintro e wq ⟨q1, k1, hnq, rfl, htq, hgq⟩
    have iow := Lib.hid (own_grown iow.out hgq (by rintro k ⟨⟩; have := inv.gt; have := inv.gB; omega))
    have hbk := hbk.grown hgq (by intro e; injection e; have := inv.gt; have := inv.gB; omega)
    replace inv := inv.next htq hgq
    have ql1 := hnq.lo
    have qh1 := hnq.hi
    have qm1 := hnq.most
    clear htq hgq hnq
    refine ⟨inv.box.cell' rfl, ?_⟩
    refine wpSeqH_act rfl rfl ?_
    go_simp
    refine (mkRange_any _ A cap zs _ (-1) 3 _ (by omega) (by omega) (by omega) (by omega) inv.tape).mono ?_
    rintro e wq ⟨q2, k2, hnq, hq2, rfl, htq, hgq⟩
    have iow := Lib.hid (own_grown iow.out hgq (by rintro k ⟨⟩; have := inv.gt; have := inv.gB; omega))
    have hbk := hbk.grown hgq (by intro e; injection e; have := inv.gt; have := inv.gB; omega)
    replace inv := inv.next htq hgq
    have ql2 := hnq.lo
    have qh2 := hnq.hi
    have qm2 := hnq.most
    clear htq hgq hnq
    refine ⟨inv.box.cell' rfl, ?_⟩
    refine wpSeqH_act rfl rfl ?_
    go_simp
    refine (mkNext_any _ A cap zs _ (3) _ (by omega) (by omega) (by omega) inv.tape).mono ?_
    rintro e wq ⟨q3, k3, hnq, rfl, htq, hgq⟩
    have iow := Lib.hid (own_grown iow.out hgq (by rintro k ⟨⟩; have := inv.gt; have := inv.gB; omega))
    have hbk := hbk.grown hgq (by intro e; injection e; have := inv.gt; have := inv.gB; omega)
    replace inv := inv.next htq hgq
    have ql3 := hnq.lo
    have qh3 := hnq.hi
    have qm3 := hnq.most
    clear htq hgq hnq
    refine ⟨inv.box.cell' rfl, ?_⟩
    refine wpSeqH_act rfl rfl ?_
    go_simp
    refine (mkYes_any _ A cap zs _ (4) _ (by omega) (by omega) (by omega) inv.tape).mono ?_
    rintro e wq ⟨q4, k4, hnq, rfl, htq, hgq⟩
    have iow := Lib.hid (own_grown iow.out hgq (by rintro k ⟨⟩; have := inv.gt; have := inv.gB; omega))
    have hbk := hbk.grown hgq (by intro e; injection e; have := inv.gt; have := inv.gB; omega)
    replace inv := inv.next htq hgq
    have ql4 := hnq.lo
    have qh4 := hnq.hi
    have qm4 := hnq.most
    clear htq hgq hnq
    refine ⟨inv.box.cell' rfl, ?_⟩
    repeat (refine wpSeqH_fix _ ?_ rfl (by first | exact fun _ _ _ h => h | exact fun _ _ _ h => hpan _ _ _ _ _ h) (Or.inl ⟨by rfl, ?_⟩) ?_; rotate_left; (intro w' hSw; (try dsimp only at hSw); go_split_ands; go_simp; (try with_reducible rfl)); (simp only [List.getElem_toArray, List.getElem_cons_zero, List.getElem_cons_succ, Act.put, List.setIfInBounds_toArray, List.set_cons_zero, List.set_cons_succ]))
    refine wpSeqH_end ?_
    simp only [List.getElem_toArray, List.getElem_cons_zero, List.getElem_cons_succ, Act.put, List.setIfInBounds_toArray, List.set_cons_zero, List.set_cons_succ, thenK]
    refine wpList_store_mid (by rfl) _ _ _ (by rfl) bb 0 (tenC (⟨n, q0, q1, -1 + q2, shl1 r - 1, q3, q4 == 0⟩ : Ten)).toArray (by go_simp) (by simp only [tenC]; go_simp) (hbk.there 0 7 (by decide)) tenSize (by simp [tenC, Value.oneCell']) ?_
    have hti := TIc.store inv iow.out hbk hle hfar (⟨n, q0, q1, -1 + q2, shl1 r - 1, q3, q4 == 0⟩ : Ten)
    refine hQ _ _ _ _ _ _ _ _ _ _ _ _ _ _ _ _ _ _ _ _ _ ?_
    exact ⟨bb, k4, (⟨n, q0, q1, -1 + q2, shl1 r - 1, q3, q4 == 0⟩ : Ten), rfl, by omega, (by simp [tenOk, inR]; omega), hti⟩
end Go.Proofs.YtjobcfpnmfjlfaaGreat
