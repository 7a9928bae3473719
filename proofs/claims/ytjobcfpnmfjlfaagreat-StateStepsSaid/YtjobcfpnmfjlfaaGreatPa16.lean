import Derived.Test.YtjobcfpnmfjlfaaGreatPa15
namespace Go.Proofs.YtjobcfpnmfjlfaaGreat
open Go.RowKit
set_option linter.unusedSimpArgs false
set_option linter.unusedVariables false

/-! law12.StateSteps -/
def spF : FT := [(9, ctLight), (10, ctAwake), (11, ctConfig), (12, ctLog), (13, ctMod), (14, ctFold), (15, ctApply), (16, ctSameR)]
theorem spFok : FTok Tryz.prog spF := ft_cons lightOk (ft_cons awakeOk (ft_cons configOk (ft_cons logOk (ft_cons modOk (ft_cons foldOk (ft_cons applyOk (ft_cons sameROk ft_nil)))))))
def spD : List (Nat × DQ) := [(6, { k := 12, L := [19], A := [9], pre := [(0, false), (1, false), (2, false), (3, false), (4, true), (5, false), (6, false), (7, false), (8, false)], post := [(10, true), (11, false)] }),
  (12, { k := 12, L := [19, 20, 21], A := [10], pre := [(0, false), (1, false), (2, false), (3, false), (4, false), (5, false), (6, true), (7, false), (8, false), (9, false)], post := [(11, true)] }),
  (3000010, { k := 26, L := [0, 1, 2, 3, 4, 5, 6, 7, 8, 9, 10, 11, 12, 13, 14, 15, 16, 17, 18, 19, 20], sl := [7, 8, 10] })]
set_option maxRecDepth 100000 in
set_option maxHeartbeats 4000000 in
theorem steps_sx (cap0 cap1 : Nat) (l more : List Int) (cut : Int) (hm0 : l.length ≤ maxLen) (hm1 : more.length ≤ maxLen) :
    sx tt spF spD (bodyOf Tryz.f3) (argF 0 [slc 0 l.length cap0, slc 1 more.length cap1, .int .i64 cut]) (uniM { l0 := l, l1 := more }) 13 (endx tt Tryz.f3.results.toList fun v _ _ => v = .bool true) := by
  refine ⟨0, cap0, l, rfl, rfl, hm0, ?_⟩
  refine ⟨fun h => ?_, fun h0 => ?_⟩
  · refine ⟨fun _ => ?_, fun h => nomatch h⟩
    refine ⟨rfl, ?_⟩
    exact rfl
  · refine ⟨1, cap1, more, rfl, rfl, hm1, ?_⟩
    refine ⟨fun _ => ?_, fun h1 => ?_⟩
    · refine ⟨rfl, ?_⟩
      exact rfl
    · have hm2 : more.length ≤ 200 := by simpa using h1
      refine ⟨0, cap0, l, rfl, rfl, (by have q : l.length ≤ 200 := (by simpa using h0); omega), ?_⟩
      intro xk c hM
      have hV := cfgV_of hM.valid
      have hnt := hV.nt
      have hnc := hV.nc
      refine ⟨⟨18, 17, 16, 15, 14, 13, 500000⟩, xk, c, 1, cap1, more, 40, rfl, ⟨(by repeat (first | exact trivial | refine ⟨rfl, ?_⟩)), ⟨_, _, _, rfl, Nat.le_refl _, fun k hk => rfl⟩⟩, ⟨hV, by omega, by decide⟩, ?_⟩
      intro es sF cap2 hR hen hcp
      refine ⟨cut, (es.length : Int) + 1, (show [Value.int .i64 cut, .int .i64 (IntKind.i64.wrap ((es.length : Int) + 1))] = _ from by rw [wrapi (n := (es.length : Int) + 1) (by omega)]), ⟨by omega, by omega⟩, ?_⟩
      have hk0 : 0 ≤ cut % ((es.length : Int) + 1) := Int.emod_nonneg _ (by omega)
      have hk1 : cut % ((es.length : Int) + 1) < (es.length : Int) + 1 := Int.emod_lt_of_pos _ (by omega)
      generalize cut % ((es.length : Int) + 1) = k at hk0 hk1 ⊢
      refine ⟨⟨hk0, by omega⟩, ?_⟩
      have htl : (es.take k.toNat).length = k.toNat := by rw [List.length_take]; omega
      obtain ⟨s1, hR1, hR2⟩ := Run.split (l := es.take k.toNat) (r := es.drop k.toNat) (by rw [List.take_append_drop]; exact hR)
      refine ⟨⟨18, 17, 16, 15, 14, 13, 500000⟩, xk, c, 20, cap2, es.take k.toNat, by rw [htl], (by repeat (first | exact trivial | refine ⟨rfl, ?_⟩)), ⟨_, _, _, rfl, by rw [htl]; omega, fun j hj => ?_⟩, hV, by omega, ?_⟩
      · rw [htl] at hj
        simp [List.getD_eq_getElem?_getD, List.getElem?_take, hj]
      · intro y1
        have hI1 := hR1.rinv hV (.new hV)
        rw [hR1.foldC, htl, Int.toNat_of_nonneg hk0]
        refine ⟨(by repeat (first | exact trivial | refine ⟨rfl, ?_⟩)), ?_⟩
        refine ⟨(by repeat (first | exact trivial | refine ⟨rfl, ?_⟩)), ?_⟩
        refine ⟨fun q => absurd q (by simp), fun _ => ?_⟩
        refine ⟨fun q => absurd q (by simp), fun _ => ?_⟩
        refine ⟨St × StK × Int, fun q => match q with | (s, y, i) => [(13, .int .i64 i)], fun q => match q with | (s, y, i) => [(21, .box 38 [.int .i64 s.tick, .int .i64 s.count, slc 24 s.tenants.length y.ct, slc 25 s.cells.length y.cc, .int .i64 s.proven, .int .i64 s.evac, .int .i64 s.low, .int .i64 s.high]), (24, rowOfL 500000 12 tsC default s.tenants), (25, rowOfL 500000 4 csC default s.cells)], fun q => match q with | (s, y, i) => RInv c s ∧ (0 ≤ i ∧ i ≤ es.length) ∧ Run c s (es.drop i.toNat) sF, fun q => match q with | (s, y, i) => ((es.length : Int) - i).toNat, ⟨(s1, y1, k), [(24, 23), (25, 22)], ⟨hI1, ⟨hk0, by omega⟩, hR2⟩, ⟨rfl, rfl⟩, (by repeat (first | exact trivial | refine ⟨rfl, ?_⟩)), (by repeat (first | exact trivial | refine ⟨rfl, ?_⟩))⟩, ?_⟩
        rintro ⟨s, y, i⟩ ⟨hJ, hi, hf⟩
        refine ⟨⟨by decide, rfl, rfl⟩, ?_⟩
        refine ⟨fun hlt => ?_, fun hge => ?_⟩
        · have hlt2 : i < (es.length : Int) := of_decide_eq_true hlt
          have hd : es.drop i.toNat = (es.getD i.toNat default) :: es.drop (i + 1).toNat := by
            rw [show (i + 1).toNat = i.toNat + 1 by omega, ← List.getElem_cons_drop (show i.toNat < es.length by omega)]
            congr 1
            rw [List.getD_eq_getElem?_getD, List.getElem?_eq_getElem (show i.toNat < es.length by omega)]
            rfl
          rw [hd] at hf
          obtain ⟨x, hx, hr⟩ : ∃ x, applyP c s (es.getD i.toNat default) = (x, 0) ∧ Run c x (es.drop (i + 1).toNat) sF := by cases hf with | cons h1 hr => exact ⟨_, h1, hr⟩
          refine ⟨⟨Nat.le_refl _, hi.1, hlt2⟩, ?_⟩
          refine ⟨⟨18, 17, 16, 15, 14, 13, 500000⟩, xk, c, ⟨24, 25, 500000⟩, y, s, (es.getD i.toNat default), rfl, (by repeat (first | exact trivial | refine ⟨rfl, ?_⟩)), (by repeat (first | exact trivial | refine ⟨rfl, ?_⟩)), hV, hJ.inv, ?_⟩
          intro y2
          rw [hx]
          refine ⟨(by repeat (first | exact trivial | refine ⟨rfl, ?_⟩)), ?_⟩
          refine ⟨(by repeat (first | exact trivial | refine ⟨rfl, ?_⟩)), ?_⟩
          refine ⟨fun q => absurd q (by simp), fun _ => ?_⟩
          refine ⟨(x, y2, _), [(24, 28), (25, 27)], ?_, ⟨rfl, rfl⟩, (by repeat (first | exact trivial | refine ⟨rfl, ?_⟩)), (by repeat (first | exact trivial | refine ⟨rfl, ?_⟩))⟩
          dsimp only
          rw [wrapi (n := i + 1) (by omega)]
          exact ⟨⟨hJ.step hV hx, by omega, hr⟩, by omega⟩
        · have hge2 : ¬ i < (es.length : Int) := of_decide_eq_false hge
          obtain rfl : i = es.length := by omega
          rw [Int.toNat_natCast, List.drop_length] at hf
          cases hf
          have hct := hR.count
          have htn := hJ.inv.lt
          have hcn := hJ.inv.lc
          refine ⟨⟨18, 17, 16, 15, 14, 13, 500000⟩, xk, c, 20, cap2, es, rfl, (by repeat (first | exact trivial | refine ⟨rfl, ?_⟩)), ⟨_, _, _, rfl, Nat.le_refl _, fun k hk => rfl⟩, hV, by omega, ?_⟩
          intro y3
          rw [hR.foldC]
          refine ⟨rfl, ?_⟩
          refine ⟨fun _ => ?_, fun q => absurd q (by simp)⟩
          refine ⟨fun _ => ?_, fun q => absurd q (by simp)⟩
          refine ⟨fun _ => ?_, fun q => absurd q (by simp)⟩
          refine ⟨⟨24, 25, 500000⟩, y, sF, ⟨27, 26, 500000⟩, y3, sF, rfl, ⟨(by repeat (first | exact trivial | refine ⟨rfl, ?_⟩)), (by repeat (first | exact trivial | refine ⟨rfl, ?_⟩))⟩, ⟨by omega, by omega⟩, ?_⟩
          rintro z ⟨b, rfl, hb⟩
          obtain rfl : b = true := hb.2 rfl
          refine ⟨fun _ => ?_, fun q => absurd q (by simp)⟩
          have hc0 : (stNew c).count = 0 := rfl
          have hfin : (sF.count == (es.length : Int)) = true := by rw [hct, hc0]; simp
          exact congrArg Value.bool hfin
theorem stateSteps_law (a0 : Option Addr) (cap0 : Nat) (z0 : List Int) (a1 : Option Addr) (cap1 : Nat) (z1 : List Int) (cut : Int) (W : World) (hr0 : Rd W (· < W.heap.size) a0 (z0.map (Value.int .i64))) (hm0 : z0.length ≤ maxLen) (hr1 : Rd W (· < W.heap.size) a1 (z1.map (Value.int .i64))) (hm1 : z1.length ≤ maxLen) {Q : Prop} (_hq : Q) :
    Calls Tryz.prog 3 #[.slice a0 z0.length cap0, .slice a1 z1.length cap1, .int .i64 cut] W fun e w' => e = .returned (.bool true) ∧ Below W.heap.size W w' := by
  rw [← flat_ints] at hr0 hr1
  refine (uni_calls ttOk (spFok.i _) Tryz.func3 rfl (D := spD) (by kernel_rfl) (vs := [slc 0 z0.length cap0, slc 1 z1.length cap1, .int .i64 cut]) rfl { a0 := a0, a1 := a1 } { l0 := z0, l1 := z1 } W { r0 := hr0, r1 := hr1 } (fun v hv => by
    simp only [List.mem_cons, List.not_mem_nil, or_false] at hv
    rcases hv with rfl | rfl | rfl
    · exact ⟨show (0 : Nat) < 13 by decide, rfl⟩
    · exact ⟨show (1 : Nat) < 13 by decide, rfl⟩
    · trivial) (steps_sx cap0 cap1 z0 z1 cut hm0 hm1)).mono ?_
  rintro e w' ⟨v, mem', nx', ρ', rfl, rfl, hv, hm', hb⟩
  exact ⟨rfl, hb⟩
end Go.Proofs.YtjobcfpnmfjlfaaGreat
