import Derived.Test.YtjobcfpnmfjlfaaGreatPa15
namespace Go.Proofs.YtjobcfpnmfjlfaaGreat
open Go.RowKit
set_option linter.unusedSimpArgs false
set_option linter.unusedVariables false

/-! ref12.Same, whatever rows hold the states. -/
/-- A value that is a state. -/
def StIs (mem : AM) (v : Value) (s : St) : Prop := (∃ M y, v = stV M y s ∧ HasRow mem M.t 12 tsC default s.tenants ∧ HasRow mem M.c 4 csC default s.cells) ∨ (v = stZ ∧ s = St.zero)
theorem Sat.stIs {C : Ctx} {ρ : Nat → Pl} {fr : AF} {mem : AM} {nx : Nat} {a : Act} {w : World} (h : Sat C ρ fr mem nx a w) {v : Value} {s : St} (hs : StIs mem v s) : ∃ y, den ρ v = .agg (stC y s) ∧ StOk w (· < w.heap.size) y s := by
  rcases hs with ⟨M, y, rfl, h1, h2⟩ | ⟨rfl, rfl⟩
  · exact ⟨stX ρ M y, den_st _ _ _ _, h.stRow h1 h2⟩
  · exact ⟨noA, by simp [den, den2, den1, stC, noA, St.zero], ⟨fun q => absurd rfl q, fun q => absurd rfl q⟩⟩
def ctSameH : CT := fun vs mem nx K => ∃ v s v2 s2, vs = [v, v2] ∧ (StIs mem v s ∧ StIs mem v2 s2) ∧ (s.tenants.length ≤ 1000000 ∧ s.cells.length ≤ 1000000) ∧ ∀ b : Bool, (b = true ↔ s = s2) → K (.bool b) mem nx
theorem sameHOk : CSound Tryz.prog 16 ctSameH := ⟨by kernel_rfl, fun {C ρ fr mem nx a w vs K} hc hs hv => by
  obtain ⟨v, s, v2, s2, rfl, ⟨h1, h2⟩, ⟨hm, hm2⟩, hK⟩ := hc
  obtain ⟨y, e1, k1⟩ := hs.stIs h1
  obtain ⟨y2, e2, k2⟩ := hs.stIs h2
  rw [List.map_cons, List.map_cons, e1, e2]
  refine (r12Same_any y s y2 s2 w k1 k2 hm hm2).mono ?_
  rintro e w' ⟨z, ⟨b, rfl, hb⟩, rfl, hbw⟩
  exact ⟨.bool b, mem, nx, ρ, rfl, hK b hb, hs.later hbw, trivial, ExtS.refl _ _⟩⟩
/-! What Apply's answer is like. -/
theorem effOf_len (s : St) (e : Ent) : (effOf s e).tenants.length = s.tenants.length ∧ (effOf s e).cells.length = s.cells.length := by
  unfold effOf
  dsimp only
  repeat' split
  all_goals simp [setTen, setCel, stamped]
theorem applyP_len {c : Cfg} {s : St} {e : Ent} : (applyP c s e).1.tenants.length ≤ s.tenants.length ∧ (applyP c s e).1.cells.length ≤ s.cells.length := by
  have := effOf_len s e
  unfold applyP
  repeat' split
  all_goals simp [St.zero]
  omega
end Go.Proofs.YtjobcfpnmfjlfaaGreat

namespace Go.Proofs.YtjobcfpnmfjlfaaGreat
open Go.RowKit
set_option linter.unusedSimpArgs false
set_option linter.unusedVariables false

/-! law12.StateOwn -/
def owF : FT := [(9, ctLight), (10, ctAwake), (11, ctConfig), (17, ctState), (18, ctCopied), (20, ctTapeNew), (19, ctEntry), (15, ctApplyO), (16, ctSameH), (21, ctApplyR)]
theorem owFok : FTok Tryz.prog owF := ft_cons lightOk (ft_cons awakeOk (ft_cons configOk (ft_cons stateOk (ft_cons copiedOk (ft_cons tapeNewOk (ft_cons entryOk (ft_cons applyOOk (ft_cons sameHOk (ft_cons applyROk ft_nil)))))))))
def owD : List (Nat × DQ) := [(6, { k := 6, L := [19, 22], A := [5], pre := [(0, false), (2, false), (3, false), (1, true), (4, true)], post := [] }),
  (2000011, { k := 0, L := [0, 1, 2, 3, 4, 5, 6, 7, 8, 9, 10, 11, 12, 13, 14, 15, 16, 17, 18, 19, 20, 21, 22, 23, 24, 25, 26, 27, 29, 30], sl := [5, 6, 7, 8, 9, 10] }),
  (2000015, { k := 0, L := [0, 1, 2, 3, 4, 5, 6, 7, 8, 9, 10, 11, 12, 13, 14, 15, 16, 17, 18, 19, 20, 21, 22, 23, 24, 25, 26, 27, 28, 30], sl := [5, 6, 7, 8, 9, 10] })]
set_option maxRecDepth 100000 in
set_option maxHeartbeats 4000000 in
theorem own_sx (cap0 cap1 : Nat) (l more : List Int) (hm0 : l.length ≤ maxLen) (hm1 : more.length ≤ maxLen) :
    sx tt owF owD (bodyOf Tryz.f4) (argF 0 [slc 0 l.length cap0, slc 1 more.length cap1]) (uniM { l0 := l, l1 := more }) 13 (endx tt Tryz.f4.results.toList fun v _ _ => v = .bool true) := by
  refine ⟨0, cap0, l, rfl, rfl, hm0, ?_⟩
  refine ⟨fun h => ?_, fun h0 => ?_⟩
  · refine ⟨fun _ => ?_, fun h => nomatch h⟩
    refine ⟨rfl, ?_⟩
    exact rfl
  · refine ⟨1, cap1, more, rfl, rfl, hm1, ?_⟩
    refine ⟨fun _ => ?_, fun h1 => ?_⟩
    · refine ⟨rfl, ?_⟩
      exact rfl
    · have hm2 : more.length ≤ 200 := by simpa using h1
      refine ⟨0, cap0, l, rfl, rfl, (by have q : l.length ≤ 200 := (by simpa using h0); omega), ?_⟩
      intro xk c hM
      have hV := cfgV_of hM.valid
      have hnt := hV.nt
      have hnc := hV.nc
      refine ⟨⟨18, 17, 16, 15, 14, 13, 500000⟩, xk, c, 1, cap1, more, 20, rfl, ⟨(by repeat (first | exact trivial | refine ⟨rfl, ?_⟩)), ⟨_, _, _, rfl, Nat.le_refl _, fun k hk => rfl⟩⟩, ⟨hV, by omega, by decide⟩, ?_⟩
      intro es s y hR hen
      have hJ := hR.rinv hV (.new hV)
      have hI := hJ.inv
      have htn := hI.lt
      have hcn := hI.lc
      refine ⟨_, y, s, rfl, ⟨.list rfl, .list rfl⟩, ⟨by omega, by omega⟩, ?_⟩
      intro yw
      have hl : l.length ≤ 200 := by simpa using h0
      refine ⟨0, cap0, l, rfl, rfl, by omega, ?_⟩
      refine ⟨(by repeat (first | exact trivial | refine ⟨rfl, ?_⟩)), ?_⟩
      refine ⟨27, 0, cap0, l, _, ⟨18, 17, 16, 15, 14, 13, 500000⟩, xk, c, ⟨21, 20, 500000⟩, y, s, [], rfl, ⟨rfl, rfl⟩, (by repeat (first | exact trivial | refine ⟨rfl, ?_⟩)), (by repeat (first | exact trivial | refine ⟨rfl, ?_⟩)), ⟨by omega, by omega, by omega⟩, ⟨⟨hV, hI, by omega⟩, rfl⟩, ?_⟩
      rintro _ k2 ⟨⟨e, rfl⟩, hk2a, hk2b, hk2c⟩
      refine ⟨(by repeat (first | exact trivial | refine ⟨rfl, ?_⟩)), ?_⟩
      refine ⟨⟨18, 17, 16, 15, 14, 13, 500000⟩, xk, c, ⟨21, 20, 500000⟩, y, s, e, rfl, (by repeat (first | exact trivial | refine ⟨rfl, ?_⟩)), ⟨.list rfl, .list rfl⟩, hV, hI, ?_⟩
      intro y3
      have hAR := applyRP (e := e) hV hI hJ.cap
      generalize hp : applyP c s e = p at hAR
      have hpl := applyP_len (c := c) (s := s) (e := e)
      rw [hp] at hpl
      obtain ⟨p1, p2⟩ := p
      dsimp only at hpl
      refine ⟨_, s, _, s, rfl, ⟨.inl ⟨_, _, rfl, ⟨_, _, _, rfl, Nat.le_refl _, fun k hk => rfl⟩, ⟨_, _, _, rfl, Nat.le_refl _, fun k hk => rfl⟩⟩, .inl ⟨_, _, rfl, ⟨_, _, _, rfl, Nat.le_refl _, fun k hk => rfl⟩, ⟨_, _, _, rfl, Nat.le_refl _, fun k hk => rfl⟩⟩⟩, ⟨by omega, by omega⟩, ?_⟩
      intro b1 hb1
      obtain rfl : b1 = true := hb1.2 rfl
      refine ⟨fun q => absurd q (by simp), fun _ => ?_⟩
      refine ⟨List CS × Int, fun q => match q with | (cs, i) => [(11, .int .i64 i)], fun q => match q with | (cs, i) => [(28, .row (1000000 + 54) 4 p1.cells.length (fun k => csC (cs.getD k default)))], fun q => match q with | (cs, i) => cs.length = p1.cells.length ∧ (0 ≤ i ∧ i ≤ p1.cells.length), fun q => match q with | (cs, i) => ((p1.cells.length : Int) - i).toNat, ⟨(p1.cells, 0), ⟨rfl, by omega⟩, (by repeat (first | exact trivial | refine ⟨rfl, ?_⟩)), (by repeat (first | exact trivial | refine ⟨rfl, ?_⟩))⟩, ?_⟩
      rintro ⟨cs, i⟩ ⟨hcs, hi⟩
      refine ⟨⟨rfl, rfl⟩, ?_⟩
      refine ⟨fun hlt => ?_, fun hge => ?_⟩
      · have hlt2 : i < (p1.cells.length : Int) := of_decide_eq_true hlt
        have hin : i.toNat < cs.length := by omega
        refine ⟨⟨Nat.le_refl _, hi.1, hlt2⟩, ?_⟩
        refine ⟨csC { (cs.getD i.toNat default) with mode := 77 }, rfl, ?_⟩
        rw [setEl_set hin]
        refine ⟨(cs.set i.toNat { (cs.getD i.toNat default) with mode := 77 }, _), ?_, (by repeat (first | exact trivial | refine ⟨rfl, ?_⟩)), (by repeat (first | exact trivial | refine ⟨rfl, ?_⟩))⟩
        dsimp only
        rw [wrapi (n := i + 1) (by omega)]
        exact ⟨⟨by rw [List.length_set]; exact hcs, by omega⟩, by omega⟩
      · refine ⟨List TS × Int, fun q => match q with | (ts, i) => [(12, .int .i64 i)], fun q => match q with | (ts, i) => [(29, .row (1000000 + 58) 12 p1.tenants.length (fun k => tsC (ts.getD k default)))], fun q => match q with | (ts, i) => ts.length = p1.tenants.length ∧ (0 ≤ i ∧ i ≤ p1.tenants.length), fun q => match q with | (ts, i) => ((p1.tenants.length : Int) - i).toNat, ⟨(p1.tenants, 0), ⟨rfl, by omega⟩, (by repeat (first | exact trivial | refine ⟨rfl, ?_⟩)), (by repeat (first | exact trivial | refine ⟨rfl, ?_⟩))⟩, ?_⟩
        rintro ⟨ts, i⟩ ⟨hts, hi⟩
        refine ⟨⟨rfl, rfl⟩, ?_⟩
        refine ⟨fun hlt => ?_, fun hge => ?_⟩
        · have hlt2 : i < (p1.tenants.length : Int) := of_decide_eq_true hlt
          have hin : i.toNat < ts.length := by omega
          refine ⟨⟨Nat.le_refl _, hi.1, hlt2⟩, ?_⟩
          refine ⟨tsC { (ts.getD i.toNat default) with home := 77 }, rfl, ?_⟩
          rw [setEl_set hin]
          refine ⟨(ts.set i.toNat { (ts.getD i.toNat default) with home := 77 }, _), ?_, (by repeat (first | exact trivial | refine ⟨rfl, ?_⟩)), (by repeat (first | exact trivial | refine ⟨rfl, ?_⟩))⟩
          dsimp only
          rw [wrapi (n := i + 1) (by omega)]
          exact ⟨⟨by rw [List.length_set]; exact hts, by omega⟩, by omega⟩
        · refine ⟨⟨18, 17, 16, 15, 14, 13, 500000⟩, xk, c, ⟨21, 20, 500000⟩, y, s, e, rfl, (by repeat (first | exact trivial | refine ⟨rfl, ?_⟩)), ⟨.list rfl, .list rfl⟩, hV, hI, ?_⟩
          intro y4
          rw [hp]
          refine ⟨⟨18, 17, 16, 15, 14, 13, 500000⟩, xk, c, ⟨24, 23, 0⟩, yw, s, e, rfl, ⟨(by repeat (first | exact trivial | refine ⟨rfl, ?_⟩)), ⟨_, _, _, rfl, Nat.le_refl _, fun k hk => rfl⟩, ⟨_, _, _, rfl, Nat.le_refl _, fun k hk => rfl⟩⟩, ⟨hV, hI⟩, ?_⟩
          intro y5
          rw [hAR]
          refine ⟨rfl, ?_⟩
          refine ⟨fun _ => ?_, fun q => absurd q (by simp)⟩
          refine ⟨_, s, _, s, rfl, ⟨.inl ⟨_, _, rfl, ⟨_, _, _, rfl, Nat.le_refl _, fun k hk => rfl⟩, ⟨_, _, _, rfl, Nat.le_refl _, fun k hk => rfl⟩⟩, .inl ⟨_, _, rfl, ⟨_, _, _, rfl, Nat.le_refl _, fun k hk => rfl⟩, ⟨_, _, _, rfl, Nat.le_refl _, fun k hk => rfl⟩⟩⟩, ⟨by omega, by omega⟩, ?_⟩
          intro b2 hb2
          obtain rfl : b2 = true := hb2.2 rfl
          refine ⟨fun _ => ?_, fun q => absurd q (by simp)⟩
          refine ⟨fun _ => ?_, fun q => absurd q (by simp)⟩
          refine ⟨fun _ => ?_, fun q => absurd q (by simp)⟩
          refine ⟨_, p1, _, p1, rfl, ⟨.inl ⟨_, _, rfl, ⟨_, _, _, rfl, Nat.le_refl _, fun k hk => rfl⟩, ⟨_, _, _, rfl, Nat.le_refl _, fun k hk => rfl⟩⟩, .inl ⟨_, _, rfl, ⟨_, _, _, rfl, Nat.le_refl _, fun k hk => rfl⟩, ⟨_, _, _, rfl, Nat.le_refl _, fun k hk => rfl⟩⟩⟩, ⟨by omega, by omega⟩, ?_⟩
          intro b3 hb3
          obtain rfl : b3 = true := hb3.2 rfl
          rfl
theorem stateOwn_law (a0 : Option Addr) (cap0 : Nat) (z0 : List Int) (a1 : Option Addr) (cap1 : Nat) (z1 : List Int) (W : World) (hr0 : Rd W (· < W.heap.size) a0 (z0.map (Value.int .i64))) (hm0 : z0.length ≤ maxLen) (hr1 : Rd W (· < W.heap.size) a1 (z1.map (Value.int .i64))) (hm1 : z1.length ≤ maxLen) :
    Calls Tryz.prog 4 #[.slice a0 z0.length cap0, .slice a1 z1.length cap1] W fun e w' => e = .returned (.bool true) ∧ Below W.heap.size W w' := by
  rw [← flat_ints] at hr0 hr1
  refine (uni_calls ttOk (owFok.i _) Tryz.func4 rfl (D := owD) (by kernel_rfl) (vs := [slc 0 z0.length cap0, slc 1 z1.length cap1]) rfl { a0 := a0, a1 := a1 } { l0 := z0, l1 := z1 } W { r0 := hr0, r1 := hr1 } (fun v hv => by
    simp only [List.mem_cons, List.not_mem_nil, or_false] at hv
    rcases hv with rfl | rfl
    · exact ⟨show (0 : Nat) < 13 by decide, rfl⟩
    · exact ⟨show (1 : Nat) < 13 by decide, rfl⟩) (own_sx cap0 cap1 z0 z1 hm0 hm1)).mono ?_
  rintro e w' ⟨v, mem', nx', ρ', rfl, rfl, hv, hm', hb⟩
  exact ⟨rfl, hb⟩
end Go.Proofs.YtjobcfpnmfjlfaaGreat
