import Derived.Test.YtjobcfpnmfjlfaaGreatPa15
namespace Go.Proofs.YtjobcfpnmfjlfaaGreat
open Go.RowKit
set_option linter.unusedSimpArgs false
set_option linter.unusedVariables false

/-! ref12.Same, whatever rows hold the states. -/
/-- A value that is a state. -/
def StIs (mem : AM) (v : Value) (s : St) : Prop := (∃ M y, v = stV M y s ∧ HasRow mem M.t 12 tsC default s.tenants ∧ HasRow mem M.c 4 csC default s.cells) ∨ (v = stZ ∧ s = St.zero)
theorem Sat.stIs {C : Ctx} {ρ : Nat → Pl} {fr : AF} {mem : AM} {nx : Nat} {a : Act} {w : World} (h : Sat C ρ fr mem nx a w) {v : Value} {s : St} (hs : StIs mem v s) : ∃ y, den ρ v = .agg (stC y s) ∧ StOk w (· < w.heap.size) y s := by
  rcases hs with ⟨M, y, rfl, h1, h2⟩ | ⟨rfl, rfl⟩
  · exact ⟨stX ρ M y, den_st _ _ _ _, h.stRow h1 h2⟩
  · exact ⟨noA, by simp [den, den2, den1, stC, noA, St.zero], ⟨fun q => absurd rfl q, fun q => absurd rfl q⟩⟩
def ctSameH : CT := fun vs mem nx K => ∃ v s v2 s2, vs = [v, v2] ∧ (StIs mem v s ∧ StIs mem v2 s2) ∧ (s.tenants.length ≤ 1000000 ∧ s.cells.length ≤ 1000000) ∧ ∀ b : Bool, (b = true ↔ s = s2) → K (.bool b) mem nx
theorem sameHOk : CSound Tryz.prog 16 ctSameH := ⟨by kernel_rfl, fun {C ρ fr mem nx a w vs K} hc hs hv => by
  obtain ⟨v, s, v2, s2, rfl, ⟨h1, h2⟩, ⟨hm, hm2⟩, hK⟩ := hc
  obtain ⟨y, e1, k1⟩ := hs.stIs h1
  obtain ⟨y2, e2, k2⟩ := hs.stIs h2
  rw [List.map_cons, List.map_cons, e1, e2]
  refine (r12Same_any y s y2 s2 w k1 k2 hm hm2).mono ?_
  rintro e w' ⟨z, ⟨b, rfl, hb⟩, rfl, hbw⟩
  exact ⟨.bool b, mem, nx, ρ, rfl, hK b hb, hs.later hbw, trivial, ExtS.refl _ _⟩⟩
/-! What Apply's answer is like. -/
theorem effOf_len (s : St) (e : Ent) : (effOf s e).tenants.length = s.tenants.length ∧ (effOf s e).cells.length = s.cells.length := by
  unfold effOf
  dsimp only
  repeat' split
  all_goals simp [setTen, setCel, stamped]
theorem applyP_len {c : Cfg} {s : St} {e : Ent} : (applyP c s e).1.tenants.length ≤ s.tenants.length ∧ (applyP c s e).1.cells.length ≤ s.cells.length := by
  have := effOf_len s e
  unfold applyP
  repeat' split
  all_goals simp [St.zero]
  omega
end Go.Proofs.YtjobcfpnmfjlfaaGreat

namespace Go.Proofs.YtjobcfpnmfjlfaaGreat
open Go.RowKit
set_option linter.unusedSimpArgs false
set_option linter.unusedVariables false

/-! law12.StateOwn -/
def owF : FT := [(9, ctLight), (10, ctAwake), (11, ctConfig), (17, ctState), (18, ctCopied), (20, ctTapeNew), (19, ctEntry), (15, ctApplyO), (16, ctSameH), (21, ctApplyR)]
theorem owFok : FTok Tryz.prog owF := ft_cons lightOk (ft_cons awakeOk (ft_cons configOk (ft_cons stateOk (ft_cons copiedOk (ft_cons tapeNewOk (ft_cons entryOk (ft_cons applyOOk (ft_cons sameHOk (ft_cons applyROk ft_nil)))))))))
def owD : List (Nat × DQ) := [(6, { k := 6, L := [19, 22], A := [5], pre := [(0, false), (2, false), (3, false), (1, true), (4, true)], post := [] }),
  (2000011, { k := 0, L := [0, 1, 2, 3, 4, 5, 6, 7, 8, 9, 10, 11, 12, 13, 14, 15, 16, 17, 18, 19, 20, 21, 22, 23, 24, 25, 26, 27, 29, 30], sl := [5, 6, 7, 8, 9, 10] }),
  (2000015, { k := 0, L := [0, 1, 2, 3, 4, 5, 6, 7, 8, 9, 10, 11, 12, 13, 14, 15, 16, 17, 18, 19, 20, 21, 22, 23, 24, 25, 26, 27, 28, 30], sl := [5, 6, 7, 8, 9, 10] })]
set_option maxRecDepth 100000 in
set_option maxHeartbeats 4000000 in
theorem own_sx (cap0 cap1 : Nat) (l more : List Int) (hm0 : l.length ≤ maxLen) (hm1 : more.length ≤ maxLen) :
    sx tt owF owD (bodyOf Tryz.f4) (argF 0 [slc 0 l.length cap0, slc 1 more.length cap1]) (uniM { l0 := l, l1 := more }) 13 (endx tt Tryz.f4.results.toList fun v _ _ => v = .bool true) := by
  refine ⟨0, cap0, l, rfl, rfl, hm0, ?_⟩
  refine ⟨fun h => ?_, fun h0 => ?_⟩
  · refine ⟨fun _ => ?_, fun h => nomatch h⟩
    refine ⟨rfl, ?_⟩
    exact rfl
  · refine ⟨1, cap1, more, rfl, rfl, hm1, ?_⟩
    refine ⟨fun _ => ?_, fun h1 => ?_⟩
    · refine ⟨rfl, ?_⟩
      exact rfl
    · have hm2 : more.length ≤ 200 := by simpa using h1
      refine ⟨0, cap0, l, rfl, rfl, (by have q : l.length ≤ 200 := (by simpa using h0); omega), ?_⟩
      intro xk c hM
      have hV := cfgV_of hM.valid
      have hnt := hV.nt
      have hnc := hV.nc
      refine ⟨⟨18, 17, 16, 15, 14, 13, 500000⟩, xk, c, 1, cap1, more, 20, rfl, ⟨(by repeat (first | exact trivial | refine ⟨rfl, ?_⟩)), ⟨_, _, _, rfl, Nat.le_refl _, fun k hk => rfl⟩⟩, ⟨hV, by omega, by decide⟩, ?_⟩
      intro es s y hR hen
      have hJ := hR.rinv hV (.new hV)
      have hI := hJ.inv
      have htn := hI.lt
      have hcn := hI.lc
      refine ⟨_, y, s, rfl, ⟨.list rfl, .list rfl⟩, ⟨by omega, by omega⟩, ?_⟩
      intro yw
      have hl : l.length ≤ 200 := by simpa using h0
      refine ⟨0, cap0, l, rfl, rfl, by omega, ?_⟩
      refine ⟨(by repeat (first | exact trivial | refine ⟨rfl, ?_⟩)), ?_⟩
      refine ⟨27, 0, cap0, l, _, ⟨18, 17, 16, 15, 14, 13, 500000⟩, xk, c, ⟨21, 20, 500000⟩, y, s, [], rfl, ⟨rfl, rfl⟩, (by repeat (first | exact trivial | refine ⟨rfl, ?_⟩)), (by repeat (first | exact trivial | refine ⟨rfl, ?_⟩)), ⟨by omega, by omega, by omega⟩, ⟨⟨hV, hI, by omega⟩, rfl⟩, ?_⟩
      rintro _ k2 ⟨⟨e, rfl⟩, hk2a, hk2b, hk2c⟩
      refine ⟨(by repeat (first | exact trivial | refine ⟨rfl, ?_⟩)), ?_⟩
      refine ⟨⟨18, 17, 16, 15, 14, 13, 500000⟩, xk, c, ⟨21, 20, 500000⟩, y, s, e, rfl, (by repeat (first | exact trivial | refine ⟨rfl, ?_⟩)), ⟨.list rfl, .list rfl⟩, hV, hI, ?_⟩
      intro y3
      have hAR := applyRP (e := e) hV hI hJ.cap
      generalize hp : applyP c s e = p at hAR
      have hpl := applyP_len (c := c) (s := s) (e := e)
      rw [hp] at hpl
      obtain ⟨p1, p2⟩ := p
      dsimp only at hpl
      refine ⟨_, s, _, s, rfl, ⟨.inl ⟨_, _, rfl, ⟨_, _, _, rfl, Nat.le_refl _, fun k hk => rfl⟩, ⟨_, _, _, rfl, Nat.le_refl _, fun k hk => rfl⟩⟩, .inl ⟨_, _, rfl, ⟨_, _, _, rfl, Nat.le_refl _, fun k hk => rfl⟩, ⟨_, _, _, rfl, Nat.le_refl _, fun k hk => rfl⟩⟩⟩, ⟨by omega, by omega⟩, ?_⟩
      intro b1 hb1
      obtain rfl : b1 = true := hb1.2 rfl
      refine ⟨fun q => absurd q (by simp), fun _ => ?_⟩
      refine ⟨List CS × Int, fun q => match q with | (cs, i) => [(11, .int .i64 i)], fun q => match q with | (cs, i) => [(28, .row (1000000 + 54) 4 p1.cells.length (fun k => csC (cs.getD k default)))], fun q => match q with | (cs, i) => cs.length = p1.cells.length ∧ (0 ≤ i ∧ i ≤ p1.cells.length), fun q => match q with | (cs, i) => ((p1.cells.length : Int) - i).toNat, ⟨(p1.cells, 0), ⟨rfl, by omega⟩, (by repeat (first | exact trivial | refine ⟨rfl, ?_⟩)), (by repeat (first | exact trivial | refine ⟨rfl, ?_⟩))⟩, ?_⟩
      rintro ⟨cs, i⟩ ⟨hcs, hi⟩
      refine ⟨⟨rfl, rfl⟩, ?_⟩
      refine ⟨fun hlt => ?_, fun hge => ?_⟩
      · have hlt2 : i < (p1.cells.length : Int) := of_decide_eq_true hlt
        have hin : i.toNat < cs.length := by omega
        refine ⟨⟨Nat.le_refl _, hi.1, hlt2⟩, ?_⟩
        refine ⟨csC { (cs.getD i.toNat default) with mode := 77 }, rfl, ?_⟩
        rw [setEl_set hin]
        refine ⟨(cs.set i.toNat { (cs.getD i.toNat default) with mode := 77 }, _), ?_, (by repeat (first | exact trivial | refine ⟨rfl, ?_⟩)), (by repeat (first | exact trivial | refine ⟨rfl, ?_⟩))⟩
        dsimp only
        rw [wrapi (n := i + 1) (by omega)]
        exact ⟨⟨by rw [List.length_set]; exact hcs, by omega⟩, by omega⟩
      · refine ⟨List TS × Int, fun q => match q with | (ts, i) => [(12, .int .i64 i)], fun q => match q with | (ts, i) => [(29, .row (1000000 + 58) 12 p1.tenants.length (fun k => tsC (ts.getD k default)))], fun q => match q with | (ts, i) => ts.length = p1.tenants.length ∧ (0 ≤ i ∧ i ≤ p1.tenants.length), fun q => match q with | (ts, i) => ((p1.tenants.length : Int) - i).toNat, ⟨(p1.tenants, 0), ⟨rfl, by omega⟩, (by repeat (first | exact trivial | refine ⟨rfl, ?_⟩)), (by repeat (first | exact trivial | refine ⟨rfl, ?_⟩))⟩, ?_⟩
        rintro ⟨ts, i⟩ ⟨hts, hi⟩
        refine ⟨⟨rfl, rfl⟩, ?_⟩
        refine ⟨fun hlt => ?_, fun hge => ?_⟩
        · have hlt2 : i < (p1.tenants.length : Int) := of_decide_eq_true hlt
          have hin : i.toNat < ts.length := by omega
          refine ⟨⟨Nat.le_refl _, hi.1, hlt2⟩, ?_⟩
          refine ⟨tsC { (ts.getD i.toNat default) with home := 77 }, rfl, ?_⟩
          rw [setEl_set hin]
          refine ⟨(ts.set i.toNat { (ts.getD i.toNat default) with home := 77 }, _), ?_, (by repeat (first | exact trivial | refine ⟨rfl, ?_⟩)), (by repeat (first | exact trivial | refine ⟨rfl, ?_⟩))⟩
          dsimp only
          rw [wrapi (n := i + 1) (by omega)]
          exact ⟨⟨by rw [List.length_set]; exact hts, by omega⟩, by omega⟩
        · refine ⟨⟨18, 17, 16, 15, 14, 13, 500000⟩, xk, c, ⟨21, 20, 500000⟩, y, s, e, rfl, (by repeat (first | exact trivial | refine ⟨rfl, ?_⟩)), ⟨.list rfl, .list rfl⟩, hV, hI, ?_⟩
          intro y4
          rw [hp]
          refine ⟨⟨18, 17, 16, 15, 14, 13, 500000⟩, xk, c, ⟨24, 23, 0⟩, yw, s, e, rfl, ⟨(by repeat (first | exact trivial | refine ⟨rfl, ?_⟩)), ⟨_, _, _, rfl, Nat.le_refl _, fun k hk => rfl⟩, ⟨_, _, _, rfl, Nat.le_refl _, fun k hk => rfl⟩⟩, ⟨hV, hI⟩, ?_⟩
          intro y5
          rw [hAR]
          refine ⟨rfl, ?_⟩
          refine ⟨fun _ => ?_, fun q => absurd q (by simp)⟩
          refine ⟨_, s, _, s, rfl, ⟨.inl ⟨_, _, rfl, ⟨_, _, _, rfl, Nat.le_refl _, fun k hk => rfl⟩, ⟨_, _, _, rfl, Nat.le_refl _, fun k hk => rfl⟩⟩, .inl ⟨_, _, rfl, ⟨_, _, _, rfl, Nat.le_refl _, fun k hk => rfl⟩, ⟨_, _, _, rfl, Nat.le_refl _, fun k hk => rfl⟩⟩⟩, ⟨by omega, by omega⟩, ?_⟩
          intro b2 hb2
          obtain rfl : b2 = true := hb2.2 rfl
          refine ⟨fun _ => ?_, fun q => absurd q (by simp)⟩
          refine ⟨fun _ => ?_, fun q => absurd q (by simp)⟩
          refine ⟨fun _ => ?_, fun q => absurd q (by simp)⟩
          refine ⟨_, p1, _, p1, rfl, ⟨.inl ⟨_, _, rfl, ⟨_, _, _, rfl, Nat.le_refl _, fun k hk => rfl⟩, ⟨_, _, _, rfl, Nat.le_refl _, fun k hk => rfl⟩⟩, .inl ⟨_, _, rfl, ⟨_, _, _, rfl, Nat.le_refl _, fun k hk => rfl⟩, ⟨_, _, _, rfl, Nat.le_refl _, fun k hk => rfl⟩⟩⟩, ⟨by omega, by omega⟩, ?_⟩
          intro b3 hb3
          obtain rfl : b3 = true := hb3.2 rfl
          rfl
theorem stateOwn_law (a0 : Option Addr) (cap0 : Nat) (z0 : List Int) (a1 : Option Addr) (cap1 : Nat) (z1 : List Int) (W : World) (hr0 : Rd W (· < W.heap.size) a0 (z0.map (Value.int .i64))) (hm0 : z0.length ≤ maxLen) (hr1 : Rd W (· < W.heap.size) a1 (z1.map (Value.int .i64))) (hm1 : z1.length ≤ maxLen) :
    Calls Tryz.prog 4 #[.slice a0 z0.length cap0, .slice a1 z1.length cap1] W fun e w' => e = .returned (.bool true) ∧ Below W.heap.size W w' := by
  rw [← flat_ints] at hr0 hr1
  refine (uni_calls ttOk (owFok.i _) Tryz.func4 rfl (D := owD) (by kernel_rfl) (vs := [slc 0 z0.length cap0, slc 1 z1.length cap1]) rfl { a0 := a0, a1 := a1 } { l0 := z0, l1 := z1 } W { r0 := hr0, r1 := hr1 } (fun v hv => by
    simp only [List.mem_cons, List.not_mem_nil, or_false] at hv
    rcases hv with rfl | rfl
    · exact ⟨show (0 : Nat) < 13 by decide, rfl⟩
    · exact ⟨show (1 : Nat) < 13 by decide, rfl⟩) (own_sx cap0 cap1 z0 z1 hm0 hm1)).mono ?_
  rintro e w' ⟨v, mem', nx', ρ', rfl, rfl, hv, hm', hb⟩
  exact ⟨rfl, hb⟩
end Go.Proofs.YtjobcfpnmfjlfaaGreat

namespace Go.Proofs.YtjobcfpnmfjlfaaGreat
open Go.RowKit
set_option linter.unusedSimpArgs false
set_option linter.unusedVariables false

/-! slices.Equal of tenants and of cells; ref01.SameInts. -/
def eqD : List (Nat × DQ) := [(2000004, { k := 0, L := [0, 1, 2, 3, 4, 5, 6, 7, 8, 9, 10, 11, 12], sl := [0, 1, 12] }), (6, { k := 8, L := [0, 1, 2, 3, 4, 5, 6, 7, 8, 9, 10, 11, 12], pre := [(0, false), (1, false), (2, false), (3, false), (4, false), (5, false), (6, false), (7, false)] })]
def eqD1 : List (Nat × DQ) := [(2000004, { k := 0, L := [0, 1, 2, 3, 4, 5, 6, 7, 8, 9, 10, 11, 12], sl := [0, 1] }), (6, { k := 8, L := [0, 1, 2, 3, 4, 5, 6, 7, 8, 9, 10, 11, 12], pre := [(0, false), (1, false), (2, false), (3, false), (4, false), (5, false), (6, false), (7, false)] })]
set_option maxRecDepth 100000 in
set_option maxHeartbeats 4000000 in
theorem eqT_sx (d : UD) (c0 c1 : Nat) (hm : d.s.tenants.length ≤ 1000000) :
    sx tt [] eqD (bodyOf Tryz.f66) (argF 0 [slc 9 d.s.tenants.length c0, slc 11 d.s2.tenants.length c1]) (uniM d) 13 (endx tt Tryz.f66.results.toList fun v _ _ => ∃ b, v = .bool b ∧ (b = true ↔ d.s.tenants = d.s2.tenants)) := by
  refine ⟨fun h => ?_, fun h => ?_⟩
  · refine ⟨false, rfl, (fun q => nomatch q), fun q => ?_⟩
    rw [q] at h
    simp at h
  · have hlen : d.s.tenants.length = d.s2.tenants.length := by have q := h; simp at q; omega
    refine ⟨Int, fun i => [(13, .int .i64 i)], fun _ => [], fun i => (0 ≤ i ∧ i ≤ d.s.tenants.length) ∧ ∀ k : Nat, (k : Int) < i → d.s.tenants.getD k default = d.s2.tenants.getD k default, fun i => ((d.s.tenants.length : Int) - i).toNat, ⟨0, ⟨by omega, fun k hk => absurd hk (by omega)⟩, (by repeat (first | exact trivial | refine ⟨rfl, ?_⟩)), (by repeat (first | exact trivial | refine ⟨rfl, ?_⟩))⟩, ?_⟩
    rintro i ⟨hi, he⟩
    refine ⟨⟨rfl, rfl⟩, ?_⟩
    refine ⟨fun hlt => ?_, fun hge => ?_⟩
    · have hlt2 : i < (d.s.tenants.length : Int) := of_decide_eq_true hlt
      refine ⟨⟨Nat.le_refl _, hi.1, hlt2⟩, ?_⟩
      refine ⟨⟨Nat.le_refl _, hi.1, by omega⟩, ?_⟩
      refine ⟨fun hne => ?_, fun heq => ?_⟩
      · have hne2 : (!eqCs (tsC (d.s.tenants.getD i.toNat default)) (tsC (d.s2.tenants.getD i.toNat default))) = true := hne
        refine ⟨false, rfl, (fun q => nomatch q), fun q => ?_⟩
        rw [q, (eqTs _ _).2 rfl] at hne2
        cases hne2
      · have heq2 : (!eqCs (tsC (d.s.tenants.getD i.toNat default)) (tsC (d.s2.tenants.getD i.toNat default))) = false := heq
        have hq : d.s.tenants.getD i.toNat default = d.s2.tenants.getD i.toNat default := (eqTs _ _).1 (nb heq2)
        refine ⟨_, ?_, (by repeat (first | exact trivial | refine ⟨rfl, ?_⟩)), (by repeat (first | exact trivial | refine ⟨rfl, ?_⟩))⟩
        rw [wrapi (n := i + 1) (by omega)]
        dsimp only
        refine ⟨⟨⟨by omega, by omega⟩, fun k hk => ?_⟩, by omega⟩
        by_cases hki : (k : Int) < i
        · exact he k hki
        · obtain rfl : k = i.toNat := by omega
          exact hq
    · have hge2 : ¬ i < (d.s.tenants.length : Int) := of_decide_eq_false hge
      exact ⟨true, rfl, fun _ => list_eq_of default hlen fun k hk => he k (by omega), fun _ => rfl⟩
set_option maxRecDepth 100000 in
set_option maxHeartbeats 4000000 in
theorem eqC_sx (d : UD) (c0 c1 : Nat) (hm : d.s.cells.length ≤ 1000000) :
    sx tt [] eqD (bodyOf Tryz.f67) (argF 0 [slc 10 d.s.cells.length c0, slc 12 d.s2.cells.length c1]) (uniM d) 13 (endx tt Tryz.f67.results.toList fun v _ _ => ∃ b, v = .bool b ∧ (b = true ↔ d.s.cells = d.s2.cells)) := by
  refine ⟨fun h => ?_, fun h => ?_⟩
  · refine ⟨false, rfl, (fun q => nomatch q), fun q => ?_⟩
    rw [q] at h
    simp at h
  · have hlen : d.s.cells.length = d.s2.cells.length := by have q := h; simp at q; omega
    refine ⟨Int, fun i => [(13, .int .i64 i)], fun _ => [], fun i => (0 ≤ i ∧ i ≤ d.s.cells.length) ∧ ∀ k : Nat, (k : Int) < i → d.s.cells.getD k default = d.s2.cells.getD k default, fun i => ((d.s.cells.length : Int) - i).toNat, ⟨0, ⟨by omega, fun k hk => absurd hk (by omega)⟩, (by repeat (first | exact trivial | refine ⟨rfl, ?_⟩)), (by repeat (first | exact trivial | refine ⟨rfl, ?_⟩))⟩, ?_⟩
    rintro i ⟨hi, he⟩
    refine ⟨⟨rfl, rfl⟩, ?_⟩
    refine ⟨fun hlt => ?_, fun hge => ?_⟩
    · have hlt2 : i < (d.s.cells.length : Int) := of_decide_eq_true hlt
      refine ⟨⟨Nat.le_refl _, hi.1, hlt2⟩, ?_⟩
      refine ⟨⟨Nat.le_refl _, hi.1, by omega⟩, ?_⟩
      refine ⟨fun hne => ?_, fun heq => ?_⟩
      · have hne2 : (!eqCs (csC (d.s.cells.getD i.toNat default)) (csC (d.s2.cells.getD i.toNat default))) = true := hne
        refine ⟨false, rfl, (fun q => nomatch q), fun q => ?_⟩
        rw [q, (eqCsC _ _).2 rfl] at hne2
        cases hne2
      · have heq2 : (!eqCs (csC (d.s.cells.getD i.toNat default)) (csC (d.s2.cells.getD i.toNat default))) = false := heq
        have hq : d.s.cells.getD i.toNat default = d.s2.cells.getD i.toNat default := (eqCsC _ _).1 (nb heq2)
        refine ⟨_, ?_, (by repeat (first | exact trivial | refine ⟨rfl, ?_⟩)), (by repeat (first | exact trivial | refine ⟨rfl, ?_⟩))⟩
        rw [wrapi (n := i + 1) (by omega)]
        dsimp only
        refine ⟨⟨⟨by omega, by omega⟩, fun k hk => ?_⟩, by omega⟩
        by_cases hki : (k : Int) < i
        · exact he k hki
        · obtain rfl : k = i.toNat := by omega
          exact hq
    · have hge2 : ¬ i < (d.s.cells.length : Int) := of_decide_eq_false hge
      exact ⟨true, rfl, fun _ => list_eq_of default hlen fun k hk => he k (by omega), fun _ => rfl⟩
set_option maxRecDepth 100000 in
set_option maxHeartbeats 4000000 in
theorem eqI_sx (d : UD) (c0 c1 : Nat) (hm : d.l0.length ≤ 1000000) :
    sx tt [] eqD1 (bodyOf Tryz.f28) (argF 0 [slc 0 d.l0.length c0, slc 1 d.l1.length c1]) (uniM d) 13 (endx tt Tryz.f28.results.toList fun v _ _ => ∃ b, v = .bool b ∧ (b = true ↔ d.l0 = d.l1)) := by
  refine ⟨fun h => ?_, fun h => ?_⟩
  · refine ⟨false, rfl, (fun q => nomatch q), fun q => ?_⟩
    rw [q] at h
    simp at h
  · have hlen : d.l0.length = d.l1.length := by have q := h; simp at q; omega
    refine ⟨Int, fun i => [(5, .int .i64 i)], fun _ => [], fun i => (0 ≤ i ∧ i ≤ d.l0.length) ∧ ∀ k : Nat, (k : Int) < i → d.l0.getD k 0 = d.l1.getD k 0, fun i => ((d.l0.length : Int) - i).toNat, ⟨0, ⟨by omega, fun k hk => absurd hk (by omega)⟩, (by repeat (first | exact trivial | refine ⟨rfl, ?_⟩)), (by repeat (first | exact trivial | refine ⟨rfl, ?_⟩))⟩, ?_⟩
    rintro i ⟨hi, he⟩
    refine ⟨⟨rfl, rfl⟩, ?_⟩
    refine ⟨fun hlt => ?_, fun hge => ?_⟩
    · have hlt2 : i < (d.l0.length : Int) := of_decide_eq_true hlt
      refine ⟨⟨Nat.le_refl _, hi.1, hlt2⟩, ?_⟩
      refine ⟨⟨Nat.le_refl _, hi.1, by omega⟩, ?_⟩
      refine ⟨fun hne => ?_, fun heq => ?_⟩
      · have hne2 : d.l0.getD i.toNat 0 ≠ d.l1.getD i.toNat 0 := by simpa using hne
        exact ⟨false, rfl, (fun q => nomatch q), fun q => absurd (by rw [q]) hne2⟩
      · have hq : d.l0.getD i.toNat 0 = d.l1.getD i.toNat 0 := by simpa using heq
        refine ⟨_, ?_, (by repeat (first | exact trivial | refine ⟨rfl, ?_⟩)), (by repeat (first | exact trivial | refine ⟨rfl, ?_⟩))⟩
        rw [wrapi (n := i + 1) (by omega)]
        dsimp only
        refine ⟨⟨⟨by omega, by omega⟩, fun k hk => ?_⟩, by omega⟩
        by_cases hki : (k : Int) < i
        · exact he k hki
        · obtain rfl : k = i.toNat := by omega
          exact hq
    · have hge2 : ¬ i < (d.l0.length : Int) := of_decide_eq_false hge
      exact ⟨true, rfl, fun _ => list_eq_of 0 hlen fun k hk => he k (by omega), fun _ => rfl⟩
theorem EqT_calls (A A2 : Option Addr) (c c2 : Nat) (l l2 : List TS) (w : World) (hm : l.length ≤ 1000000) (hr : Rd w (· < w.heap.size) A (flat tsC l)) (hr2 : Rd w (· < w.heap.size) A2 (flat tsC l2)) :
    Calls Tryz.prog 66 #[.slice A l.length c, .slice A2 l2.length c2] w fun e w' => ∃ b, e = .returned (.bool b) ∧ (b = true ↔ l = l2) ∧ Below w.heap.size w w' := by
  refine (uni_calls ttOk (FTok.i ft_nil _) Tryz.func66 rfl (D := eqD) (by kernel_rfl) (vs := [slc 9 l.length c, slc 11 l2.length c2]) rfl { y := { noA with at_ := A }, y2 := { noA with at_ := A2 } } { s := { noS with tenants := l }, s2 := { noS with tenants := l2 } } w { s := ⟨hr, fun h => absurd rfl h⟩, s2 := ⟨hr2, fun h => absurd rfl h⟩ } (fun v hv => by
    simp only [List.mem_cons, List.not_mem_nil, or_false] at hv
    rcases hv with rfl | rfl <;> exact ⟨by decide, rfl⟩) (eqT_sx { s := { noS with tenants := l }, s2 := { noS with tenants := l2 } } c c2 hm)).mono ?_
  rintro e w' ⟨v, mem', nx', ρ', rfl, ⟨b, rfl, hb⟩, hv, hm', hbw⟩
  exact ⟨b, rfl, hb, hbw⟩
def ctEqT : CT := fun vs mem nx K => ∃ r r2 c c2 l l2, vs = [slc r (l : List TS).length c, slc r2 (l2 : List TS).length c2] ∧ (HasRow mem r 12 tsC default l ∧ HasRow mem r2 12 tsC default l2) ∧ l.length ≤ 1000000 ∧ ∀ b, (b = true ↔ l = l2) → K (.bool b) mem nx
theorem eqTOk : CSound Tryz.prog 66 ctEqT := ⟨by kernel_rfl, fun {C ρ fr mem nx a w vs K} hc hs hv => by
  obtain ⟨r, r2, c, c2, l, l2, rfl, ⟨h1, h2⟩, hm, hK⟩ := hc
  refine (EqT_calls (ρ r).A (ρ r2).A c c2 l l2 w hm (hs.hasRd (enc := tsC) (sz := 12) (fun _ => rfl) (by omega) h1) (hs.hasRd (enc := tsC) (sz := 12) (fun _ => rfl) (by omega) h2)).mono ?_
  rintro e w' ⟨b, rfl, hb, hbw⟩
  exact ⟨.bool b, mem, nx, ρ, rfl, hK b hb, hs.later hbw, trivial, ExtS.refl _ _⟩⟩
theorem EqC_calls (A A2 : Option Addr) (c c2 : Nat) (l l2 : List CS) (w : World) (hm : l.length ≤ 1000000) (hr : Rd w (· < w.heap.size) A (flat csC l)) (hr2 : Rd w (· < w.heap.size) A2 (flat csC l2)) :
    Calls Tryz.prog 67 #[.slice A l.length c, .slice A2 l2.length c2] w fun e w' => ∃ b, e = .returned (.bool b) ∧ (b = true ↔ l = l2) ∧ Below w.heap.size w w' := by
  refine (uni_calls ttOk (FTok.i ft_nil _) Tryz.func67 rfl (D := eqD) (by kernel_rfl) (vs := [slc 10 l.length c, slc 12 l2.length c2]) rfl { y := { noA with ac := A }, y2 := { noA with ac := A2 } } { s := { noS with cells := l }, s2 := { noS with cells := l2 } } w { s := ⟨fun h => absurd rfl h, hr⟩, s2 := ⟨fun h => absurd rfl h, hr2⟩ } (fun v hv => by
    simp only [List.mem_cons, List.not_mem_nil, or_false] at hv
    rcases hv with rfl | rfl <;> exact ⟨by decide, rfl⟩) (eqC_sx { s := { noS with cells := l }, s2 := { noS with cells := l2 } } c c2 hm)).mono ?_
  rintro e w' ⟨v, mem', nx', ρ', rfl, ⟨b, rfl, hb⟩, hv, hm', hbw⟩
  exact ⟨b, rfl, hb, hbw⟩
def ctEqC : CT := fun vs mem nx K => ∃ r r2 c c2 l l2, vs = [slc r (l : List CS).length c, slc r2 (l2 : List CS).length c2] ∧ (HasRow mem r 4 csC default l ∧ HasRow mem r2 4 csC default l2) ∧ l.length ≤ 1000000 ∧ ∀ b, (b = true ↔ l = l2) → K (.bool b) mem nx
theorem eqCOk : CSound Tryz.prog 67 ctEqC := ⟨by kernel_rfl, fun {C ρ fr mem nx a w vs K} hc hs hv => by
  obtain ⟨r, r2, c, c2, l, l2, rfl, ⟨h1, h2⟩, hm, hK⟩ := hc
  refine (EqC_calls (ρ r).A (ρ r2).A c c2 l l2 w hm (hs.hasRd (enc := csC) (sz := 4) (fun _ => rfl) (by omega) h1) (hs.hasRd (enc := csC) (sz := 4) (fun _ => rfl) (by omega) h2)).mono ?_
  rintro e w' ⟨b, rfl, hb, hbw⟩
  exact ⟨.bool b, mem, nx, ρ, rfl, hK b hb, hs.later hbw, trivial, ExtS.refl _ _⟩⟩
theorem EqI_calls (A A2 : Option Addr) (c c2 : Nat) (l l2 : List Int) (w : World) (hm : l.length ≤ 1000000) (hr : Rd w (· < w.heap.size) A (flat intC l)) (hr2 : Rd w (· < w.heap.size) A2 (flat intC l2)) :
    Calls Tryz.prog 28 #[.slice A l.length c, .slice A2 l2.length c2] w fun e w' => ∃ b, e = .returned (.bool b) ∧ (b = true ↔ l = l2) ∧ Below w.heap.size w w' := by
  refine (uni_calls ttOk (FTok.i ft_nil _) Tryz.func28 rfl (D := eqD1) (by kernel_rfl) (vs := [slc 0 l.length c, slc 1 l2.length c2]) rfl { a0 := A, a1 := A2 } { l0 := l, l1 := l2 } w { r0 := hr, r1 := hr2 } (fun v hv => by
    simp only [List.mem_cons, List.not_mem_nil, or_false] at hv
    rcases hv with rfl | rfl <;> exact ⟨by decide, rfl⟩) (eqI_sx { l0 := l, l1 := l2 } c c2 hm)).mono ?_
  rintro e w' ⟨v, mem', nx', ρ', rfl, ⟨b, rfl, hb⟩, hv, hm', hbw⟩
  exact ⟨b, rfl, hb, hbw⟩
def ctEqI : CT := fun vs mem nx K => ∃ r r2 c c2 l l2, vs = [slc r (l : List Int).length c, slc r2 (l2 : List Int).length c2] ∧ (HasRow mem r 1 intC 0 l ∧ HasRow mem r2 1 intC 0 l2) ∧ l.length ≤ 1000000 ∧ ∀ b, (b = true ↔ l = l2) → K (.bool b) mem nx
theorem eqIOk : CSound Tryz.prog 28 ctEqI := ⟨by kernel_rfl, fun {C ρ fr mem nx a w vs K} hc hs hv => by
  obtain ⟨r, r2, c, c2, l, l2, rfl, ⟨h1, h2⟩, hm, hK⟩ := hc
  refine (EqI_calls (ρ r).A (ρ r2).A c c2 l l2 w hm (hs.hasRd (enc := intC) (sz := 1) (fun _ => rfl) (by omega) h1) (hs.hasRd (enc := intC) (sz := 1) (fun _ => rfl) (by omega) h2)).mono ?_
  rintro e w' ⟨b, rfl, hb, hbw⟩
  exact ⟨.bool b, mem, nx, ρ, rfl, hK b hb, hs.later hbw, trivial, ExtS.refl _ _⟩⟩
end Go.Proofs.YtjobcfpnmfjlfaaGreat

namespace Go.Proofs.YtjobcfpnmfjlfaaGreat
open Go.RowKit
set_option linter.unusedSimpArgs false
set_option linter.unusedVariables false

/-! state.Same -/
def sgF : FT := [(66, ctEqT), (67, ctEqC)]
theorem sgFok : FTok Tryz.prog sgF := ft_cons eqTOk (ft_cons eqCOk ft_nil)
theorem st_eq {s s2 : St} (e0 : s.tick = s2.tick) (e1 : s.count = s2.count) (e2 : s.tenants = s2.tenants) (e3 : s.cells = s2.cells) (e4 : s.proven = s2.proven) (e5 : s.evac = s2.evac) (e6 : s.low = s2.low) (e7 : s.high = s2.high) : s = s2 := by
  obtain ⟨a1, a2, a3, a4, a5, a6, a7, a8⟩ := s
  obtain ⟨b1, b2, b3, b4, b5, b6, b7, b8⟩ := s2
  simp only at e0 e1 e2 e3 e4 e5 e6 e7
  subst e0 e1 e2 e3 e4 e5 e6 e7
  rfl
set_option maxRecDepth 100000 in
set_option maxHeartbeats 4000000 in
theorem sSame_sx (d : UD) (y y2 : StK) (hm : d.s.tenants.length ≤ 1000000) (hm2 : d.s.cells.length ≤ 1000000) :
    sx tt sgF [] (bodyOf Tryz.f31) (argF 0 [stV SNu y d.s, stV SNv y2 d.s2]) (uniM d) 13 (endx tt Tryz.f31.results.toList fun v _ _ => ∃ b, v = .bool b ∧ (b = true ↔ d.s = d.s2)) := by
  have hEq := @st_eq d.s d.s2
  refine ⟨fun h0 => ?_, fun h0 => ?_⟩
  · have e0 : d.s.tick = d.s2.tick := of_decide_eq_true h0
    refine ⟨fun h1 => ?_, fun h1 => ?_⟩
    · have e1 : d.s.count = d.s2.count := of_decide_eq_true h1
      refine ⟨9, 11, _, _, d.s.tenants, d.s2.tenants, rfl, ⟨⟨_, _, _, rfl, Nat.le_refl _, fun k hk => rfl⟩, ⟨_, _, _, rfl, Nat.le_refl _, fun k hk => rfl⟩⟩, hm, ?_⟩
      intro b2 hb2
      refine ⟨fun h2 => ?_, fun h2 => ?_⟩
      · have e2 := hb2.1 h2
        refine ⟨10, 12, _, _, d.s.cells, d.s2.cells, rfl, ⟨⟨_, _, _, rfl, Nat.le_refl _, fun k hk => rfl⟩, ⟨_, _, _, rfl, Nat.le_refl _, fun k hk => rfl⟩⟩, hm2, ?_⟩
        intro b3 hb3
        refine ⟨fun h3 => ?_, fun h3 => ?_⟩
        · have e3 := hb3.1 h3
          refine ⟨fun h4 => ?_, fun h4 => ?_⟩
          · have e4 : d.s.proven = d.s2.proven := of_decide_eq_true h4
            refine ⟨fun h5 => ?_, fun h5 => ?_⟩
            · have e5 : d.s.evac = d.s2.evac := of_decide_eq_true h5
              refine ⟨fun h6 => ?_, fun h6 => ?_⟩
              · have e6 : d.s.low = d.s2.low := of_decide_eq_true h6
                exact ⟨decide (d.s.high = d.s2.high), rfl, fun q => hEq e0 e1 e2 e3 e4 e5 e6 (of_decide_eq_true q), fun q => by rw [q]; exact decide_eq_true rfl⟩
              · repeat (first | refine ⟨fun _ => ?_, fun h => Bool.noConfusion h⟩ | refine ⟨fun h => Bool.noConfusion h, fun _ => ?_⟩ | fail)
                refine ⟨false, rfl, (fun q => nomatch q), fun q => ?_⟩
                rw [q] at h6
                simp at h6
            · repeat (first | refine ⟨fun _ => ?_, fun h => Bool.noConfusion h⟩ | refine ⟨fun h => Bool.noConfusion h, fun _ => ?_⟩ | fail)
              refine ⟨false, rfl, (fun q => nomatch q), fun q => ?_⟩
              rw [q] at h5
              simp at h5
          · repeat (first | refine ⟨fun _ => ?_, fun h => Bool.noConfusion h⟩ | refine ⟨fun h => Bool.noConfusion h, fun _ => ?_⟩ | fail)
            refine ⟨false, rfl, (fun q => nomatch q), fun q => ?_⟩
            rw [q] at h4
            simp at h4
        · repeat (first | refine ⟨fun _ => ?_, fun h => Bool.noConfusion h⟩ | refine ⟨fun h => Bool.noConfusion h, fun _ => ?_⟩ | fail)
          refine ⟨false, rfl, (fun q => nomatch q), fun q => ?_⟩
          rw [hb3.2 (by rw [q])] at h3
          cases h3
      · repeat (first | refine ⟨fun _ => ?_, fun h => Bool.noConfusion h⟩ | refine ⟨fun h => Bool.noConfusion h, fun _ => ?_⟩ | fail)
        refine ⟨false, rfl, (fun q => nomatch q), fun q => ?_⟩
        rw [hb2.2 (by rw [q])] at h2
        cases h2
    · repeat (first | refine ⟨fun _ => ?_, fun h => Bool.noConfusion h⟩ | refine ⟨fun h => Bool.noConfusion h, fun _ => ?_⟩ | fail)
      refine ⟨false, rfl, (fun q => nomatch q), fun q => ?_⟩
      rw [q] at h1
      simp at h1
  · repeat (first | refine ⟨fun _ => ?_, fun h => Bool.noConfusion h⟩ | refine ⟨fun h => Bool.noConfusion h, fun _ => ?_⟩ | fail)
    refine ⟨false, rfl, (fun q => nomatch q), fun q => ?_⟩
    rw [q] at h0
    simp at h0
theorem sSame_calls (y : StA) (s : St) (y2 : StA) (s2 : St) (w : World) (hs : StOk w (· < w.heap.size) y s) (hs2 : StOk w (· < w.heap.size) y2 s2) (hm : s.tenants.length ≤ 1000000) (hm2 : s.cells.length ≤ 1000000) :
    Calls Tryz.prog 31 #[.agg (stC y s), .agg (stC y2 s2)] w fun e w' => ∃ b, e = .returned (.bool b) ∧ (b = true ↔ s = s2) ∧ Below w.heap.size w w' := by
  have := uni_calls ttOk (sgFok.i _) Tryz.func31 rfl (D := []) (by kernel_rfl) (vs := [stV SNu (sk y) s, stV SNv (sk y2) s2]) rfl { y := y, y2 := y2 } { s := s, s2 := s2 } w { s := hs, s2 := hs2 } (fun v hv => by
    simp only [List.mem_cons, List.not_mem_nil, or_false] at hv
    rcases hv with rfl | rfl
    · exact upl_st_ok { y := y, y2 := y2 } { s := s, s2 := s2 }
    · exact upl_st2_ok { y := y, y2 := y2 } { s := s, s2 := s2 }) (sSame_sx { s := s, s2 := s2 } (sk y) (sk y2) hm hm2)
  rw [List.map_cons, List.map_cons] at this
  have e0 := upl_st { y := y, y2 := y2 } { s := s, s2 := s2 }
  have e1 := upl_st2 { y := y, y2 := y2 } { s := s, s2 := s2 }
  dsimp only at e0 e1 this
  rw [e0, e1] at this
  refine this.mono ?_
  rintro e w' ⟨v, mem', nx', ρ', rfl, ⟨b, rfl, hb⟩, hv, hm', hbw⟩
  exact ⟨b, rfl, hb, hbw⟩
def ctSameS : CT := fun vs mem nx K => ∃ M y s M2 y2 s2, vs = [stV M y s, stV M2 y2 s2] ∧ (HasRow mem M.t 12 tsC default s.tenants ∧ HasRow mem M.c 4 csC default s.cells ∧ HasRow mem M2.t 12 tsC default s2.tenants ∧ HasRow mem M2.c 4 csC default s2.cells) ∧ (s.tenants.length ≤ 1000000 ∧ s.cells.length ≤ 1000000) ∧ ∀ b, (b = true ↔ s = s2) → K (.bool b) mem nx
theorem sameSOk : CSound Tryz.prog 31 ctSameS := ⟨by kernel_rfl, fun {C ρ fr mem nx a w vs K} hc hs hv => by
  obtain ⟨M, y, s, M2, y2, s2, rfl, ⟨h1, h2, h3, h4⟩, ⟨hm, hm2⟩, hK⟩ := hc
  rw [List.map_cons, List.map_cons, den_st, den_st]
  refine (sSame_calls (stX ρ M y) s (stX ρ M2 y2) s2 w (hs.stRow h1 h2) (hs.stRow h3 h4) hm hm2).mono ?_
  rintro e w' ⟨b, rfl, hb, hbw⟩
  exact ⟨.bool b, mem, nx, ρ, rfl, hK b hb, hs.later hbw, trivial, ExtS.refl _ _⟩⟩
end Go.Proofs.YtjobcfpnmfjlfaaGreat

namespace Go.Proofs.YtjobcfpnmfjlfaaGreat
open Go.RowKit
set_option linter.unusedSimpArgs false
set_option linter.unusedVariables false

/-! A quicker check of a region's order: who has come up is kept as one number. -/
def lsm (n L : Nat) : Array Bool := ((List.range n).map fun i => L.testBit i).toArray
theorem lsm_size (n L : Nat) : (lsm n L).size = n := by simp [lsm]
theorem lsm_zero (n : Nat) : Array.replicate n false = lsm n 0 := by
  apply Array.ext
  · simp [lsm]
  · intro i h1 h2; simp [lsm]
theorem lsm_set (n L i : Nat) : (lsm n L).setIfInBounds i true = lsm n (L ||| 2 ^ i) := by
  apply Array.ext
  · simp [lsm]
  · intro j h1 h2
    have hj : j < n := by simpa [lsm] using h2
    rw [Array.getElem_setIfInBounds (by rw [lsm_size]; exact hj)]
    by_cases h : i = j
    · subst h; simp [lsm, Nat.testBit_or, Nat.testBit_two_pow]
    · simp [lsm, Nat.testBit_or, Nat.testBit_two_pow, h]
noncomputable def fastB (ops : Array Oper) (n : Nat) (σ : List (Nat × Bool)) : Nat → Bool :=
  List.rec (motive := fun _ => Nat → Bool) (fun L => seqHB ops [] (lsm n L))
    (fun p _ ih L => match p.2 with
      | false => Region.free .any ops (lsm n L) p.1 && (Region.ready .any ops (lsm n L)).contains p.1 && ih (L ||| 2 ^ p.1)
      | true => (match Region.ready .any ops (lsm n L) with
        | [j] => Nat.beq j p.1 && ih (L ||| 2 ^ p.1)
        | _ => false)) σ
theorem fastB_float (ops : Array Oper) (n : Nat) : ∀ (σ : List (Nat × Bool)) (L m : Nat), σ.length < m → fastB ops n σ L = true → floatB ops [] m σ (lsm n L) [] = true
  | [], L, 0, hm, h => by simp at hm
  | [], L, m + 1, hm, h => h
  | p :: r, L, 0, hm, h => by simp at hm
  | (i, b) :: r, L, m + 1, hm, h => by
    cases b with
    | false =>
      have h : (Region.free .any ops (lsm n L) i && (Region.ready .any ops (lsm n L)).contains i && fastB ops n r (L ||| 2 ^ i)) = true := h
      simp only [Bool.and_eq_true] at h
      rw [floatB]
      simp only [Bool.and_eq_true]
      exact ⟨h.1, by rw [lsm_set]; exact fastB_float ops n r _ m (by simpa using hm) h.2⟩
    | true =>
      have h : (match Region.ready .any ops (lsm n L) with
        | [j] => Nat.beq j i && fastB ops n r (L ||| 2 ^ i)
        | _ => false) = true := h
      rw [floatB]
      split at h
      · rename_i j hj
        simp only [Bool.and_eq_true] at h
        have hji := Nat.eq_of_beq_eq_true h.1
        subst hji
        rw [hj]
        have := fastB_float ops n r _ m (by simpa using hm) h.2
        rw [lsm_set]
        simp [this]
      · cases h
/-- lastB, where all operations are drawn. -/
def lastF (l : List Oper) (k : Nat) : Bool := Nat.beq k l.length &&
  ((List.range k).all fun i => match l[i]? with
    | none => true
    | some o => (o.after.all fun e => !Region.binds .any e || decide (e.on < i)) && (match o.guard with | none => true | some (g, _) => decide (g < k))) &&
  Region.seqB .any l.toArray (l.drop k).length k (Array.replicate k true ++ Array.replicate (l.length - k) false)
theorem lastF_ok {l : List Oper} {k : Nat} (h : lastF l k = true) : lastB l k = true := by
  unfold lastF at h
  simp only [Bool.and_eq_true] at h
  obtain ⟨⟨h1, h2⟩, h3⟩ := h
  have hk := Nat.eq_of_beq_eq_true h1
  unfold lastB
  simp only [Bool.and_eq_true]
  refine ⟨⟨⟨decide_eq_true (by omega), h2⟩, ?_⟩, h3⟩
  rw [List.all_eq_true]
  intro j hj
  rw [show decide (j < k) = true from decide_eq_true (by rw [hk]; exact List.mem_range.1 hj)]
  rfl
noncomputable def dregF (l : List Oper) (d : DP) : Bool :=
  lastF l d.k && Region.noSelect (l.take d.k).toArray && decide (d.pre.length + d.A.length + d.post.length = d.k) && (match d.A, d.post with | [], [] => fastB (l.take d.k).toArray d.k d.pre 0 | _, _ => false)
theorem dregF_ok {l : List Oper} {d : DP} (h : dregF l d = true) : dregB l d = true := by
  unfold dregF at h
  simp only [Bool.and_eq_true] at h
  obtain ⟨⟨⟨h1, h2⟩, h3⟩, h4⟩ := h
  unfold dregB
  cases hA : d.A with
  | cons a r => rw [hA] at h4; simp at h4
  | nil =>
    cases hp : d.post with
    | cons a r => rw [hA, hp] at h4; simp at h4
    | nil =>
      rw [hA, hp] at h4
      rw [hA, hp] at h3
      simp only [Bool.and_eq_true]
      have hl : d.pre.length = d.k := by simpa using h3
      refine ⟨⟨⟨⟨⟨⟨lastF_ok h1, h2⟩, h3⟩, ?_⟩, ?_⟩, rfl⟩, rfl⟩
      · rw [lsm_zero]
        exact fastB_float _ _ _ _ _ (by omega) h4
      · unfold preDst
        rw [List.all_eq_true]
        intro p hp
        split <;> simp
/-- codeB; regions marked by sl are checked the quicker way. -/
noncomputable def codeF (nt : Nat) (D : List (Nat × DQ)) : Code → Bool
  | .region id ops draw => (ops.toList.all fun o => match o.dst with | some d => decide (d < nt) | none => true) && (match draw with
    | false => true
    | true => (match lk D id with | some d => (match d.g with | none => (match d.sl with | [] => dregB ops.toList d.toDP | _ :: _ => dregF ops.toList d.toDP) && (match d.A with | [] => true | _ :: _ => ops.toList.all fun o => inlOk (inlOf D) o.op) | some σ => gregB ops.toList d.k σ) | none => false))
  | .seq a b => codeF nt D a && codeF nt D b
  | .cond _ a b => codeF nt D a && codeF nt D b
  | .block _ a => codeF nt D a
  | .loop a => codeF nt D a
  | .scope a => codeF nt D a
  | _ => true
theorem codeF_ok {nt : Nat} {D : List (Nat × DQ)} (c : Code) (h : codeF nt D c = true) : codeB nt D c = true := by
  induction c with
  | region id ops draw =>
    unfold codeF at h
    unfold codeB
    simp only [Bool.and_eq_true] at h ⊢
    refine ⟨h.1, ?_⟩
    have h2 := h.2
    cases draw with
    | false => rfl
    | true =>
      revert h2
      cases hd : lk D id with
      | none => intro h2; exact h2
      | some d =>
        dsimp only
        cases hg : d.g with
        | some σ => intro h2; exact h2
        | none =>
          intro h2
          simp only [Bool.and_eq_true] at h2 ⊢
          refine ⟨?_, h2.2⟩
          have h3 := h2.1
          cases hs : d.sl with
          | nil => rw [hs] at h3; exact h3
          | cons a r => rw [hs] at h3; exact dregF_ok h3
  | seq a b iha ihb =>
    have h : (codeF nt D a && codeF nt D b) = true := h
    show (codeB nt D a && codeB nt D b) = true
    simp only [Bool.and_eq_true] at h ⊢
    exact ⟨iha h.1, ihb h.2⟩
  | cond _ a b iha ihb =>
    have h : (codeF nt D a && codeF nt D b) = true := h
    show (codeB nt D a && codeB nt D b) = true
    simp only [Bool.and_eq_true] at h ⊢
    exact ⟨iha h.1, ihb h.2⟩
  | block _ a ih => exact ih h
  | loop a ih => exact ih h
  | scope a ih => exact ih h
  | _ => rfl
end Go.Proofs.YtjobcfpnmfjlfaaGreat

namespace Go.Proofs.YtjobcfpnmfjlfaaGreat
open Go.RowKit
set_option linter.unusedSimpArgs false
set_option linter.unusedVariables false

/-! law12.StateSame -/
set_option maxRecDepth 100000 in
set_option maxHeartbeats 4000000 in
theorem copied2_sx (y : StK) (s : St) (hm : s.tenants.length ≤ 1000000) (hm2 : s.cells.length ≤ 1000000) :
    sx tt [] [] (bodyOf Tryz.f18) (argF 0 [stV SN1 y s]) (rdM noC s noS) 10 (endx tt Tryz.f18.results.toList fun v mem' _ => ∃ T Cc rT rC, rT ≠ rC ∧ v = .agg #[.int .i64 s.tick, .int .i64 s.count, T, Cc, .int .i64 s.proven, .int .i64 s.evac, .int .i64 s.low, .int .i64 s.high] ∧ SlO mem' 12 tsC default s.tenants T rT ∧ SlO mem' 4 csC default s.cells Cc rC ∧ LenCap s.tenants.length T ∧ LenCap s.cells.length Cc) := by
  refine ⟨⟨Nat.le_refl _, fun k hk => rfl⟩, ?_⟩
  refine ⟨⟨rfl, Nat.le_refl _⟩, fun hin elT g1 g2 => ?_, fun hgt => ⟨by show (0 + s.tenants.length) * 88 ≤ 140737488355328; omega, fun capT elT hcT g1 g2 => ?_⟩⟩
  · have helT : ∀ k, k < s.tenants.length → elT k = tsC (s.tenants.getD k default) := fun k hk => by have := g2 k hk; rw [Nat.zero_add] at this; exact this
    clear g1 g2
    have hzT : s.tenants.length ≤ 0 := by omega
    refine ⟨⟨Nat.le_refl _, fun k hk => rfl⟩, ?_⟩
    refine ⟨⟨rfl, Nat.le_refl _⟩, fun hin elC g1 g2 => ?_, fun hgt => ⟨by show (0 + s.cells.length) * 32 ≤ 140737488355328; omega, fun capC elC hcC g1 g2 => ?_⟩⟩
    · have helC : ∀ k, k < s.cells.length → elC k = csC (s.cells.getD k default) := fun k hk => by have := g2 k hk; rw [Nat.zero_add] at this; exact this
      clear g1 g2
      have hzC : s.cells.length ≤ 0 := by omega
      exact ⟨_, _, 12, 13, by decide, rfl, ⟨_, _, _, _, elT, rfl, Nat.zero_add _, rfl, rfl, hzT, helT⟩, ⟨_, _, _, _, elC, rfl, Nat.zero_add _, rfl, rfl, hzC, helC⟩, ⟨_, _, _, rfl, hzT⟩, ⟨_, _, _, rfl, hzC⟩⟩
    · have helC : ∀ k, k < s.cells.length → elC k = csC (s.cells.getD k default) := fun k hk => by have := g2 k hk; rw [Nat.zero_add] at this; exact this
      clear g1 g2
      have hzC : s.cells.length ≤ capC := by omega
      exact ⟨_, _, 12, 14, by decide, rfl, ⟨_, _, _, _, elT, rfl, Nat.zero_add _, rfl, rfl, hzT, helT⟩, ⟨_, _, _, _, elC, rfl, Nat.zero_add _, rfl, rfl, hzC, helC⟩, ⟨_, _, _, rfl, hzT⟩, ⟨_, _, _, rfl, hzC⟩⟩
  · have helT : ∀ k, k < s.tenants.length → elT k = tsC (s.tenants.getD k default) := fun k hk => by have := g2 k hk; rw [Nat.zero_add] at this; exact this
    clear g1 g2
    have hzT : s.tenants.length ≤ capT := by omega
    refine ⟨⟨Nat.le_refl _, fun k hk => rfl⟩, ?_⟩
    refine ⟨⟨rfl, Nat.le_refl _⟩, fun hin elC g1 g2 => ?_, fun hgt => ⟨by show (0 + s.cells.length) * 32 ≤ 140737488355328; omega, fun capC elC hcC g1 g2 => ?_⟩⟩
    · have helC : ∀ k, k < s.cells.length → elC k = csC (s.cells.getD k default) := fun k hk => by have := g2 k hk; rw [Nat.zero_add] at this; exact this
      clear g1 g2
      have hzC : s.cells.length ≤ 0 := by omega
      exact ⟨_, _, 13, 14, by decide, rfl, ⟨_, _, _, _, elT, rfl, Nat.zero_add _, rfl, rfl, hzT, helT⟩, ⟨_, _, _, _, elC, rfl, Nat.zero_add _, rfl, rfl, hzC, helC⟩, ⟨_, _, _, rfl, hzT⟩, ⟨_, _, _, rfl, hzC⟩⟩
    · have helC : ∀ k, k < s.cells.length → elC k = csC (s.cells.getD k default) := fun k hk => by have := g2 k hk; rw [Nat.zero_add] at this; exact this
      clear g1 g2
      have hzC : s.cells.length ≤ capC := by omega
      exact ⟨_, _, 13, 15, by decide, rfl, ⟨_, _, _, _, elT, rfl, Nat.zero_add _, rfl, rfl, hzT, helT⟩, ⟨_, _, _, _, elC, rfl, Nat.zero_add _, rfl, rfl, hzC, helC⟩, ⟨_, _, _, rfl, hzT⟩, ⟨_, _, _, rfl, hzC⟩⟩
theorem r12Copied2_calls (y : StA) (s : St) (w : World) (hs : StOk w (· < w.heap.size) y s) (hm : s.tenants.length ≤ 1000000) (hm2 : s.cells.length ≤ 1000000) :
    Calls Tryz.prog 18 #[.agg (stC y s)] w fun e w' => ∃ y2, e = .returned (.agg (stC y2 s)) ∧ StOwn2 w.heap.size w' y2 s ∧ (s.tenants.length ≤ y2.ct ∧ s.cells.length ≤ y2.cc) ∧ Below w.heap.size w w' := by
  have := rd_callsM ttOk (ft_nil.i _) Tryz.func18 rfl (D := []) (by kernel_rfl) (vs := [stV SN1 (sk y) s]) rfl noX noC y s noA noS w (noC_ok _ _) hs (noS_ok w _) (fun v hv => by
    simp only [List.mem_cons, List.not_mem_nil, or_false] at hv
    rcases hv with rfl
    exact rpl_st_ok noX noC y s noA noS) (copied2_sx (sk y) s hm hm2)
  rw [List.map_cons, rpl_st] at this
  refine this.mono ?_
  rintro e w' ⟨v, mem', nx', ρ', rfl, ⟨T, Cc, rT, rC, hne, rfl, hT, hC, ⟨A1, m1, cap1, rfl, hc1⟩, ⟨A2, m2, cap2, rfl, hc2⟩⟩, hv, hm', hb⟩
  obtain ⟨y2, e1, e2⟩ := hm'.own2 rfl hne hT hC
  refine ⟨y2, congrArg Ending.returned e1, e2, ?_, hb⟩
  have h1 : den1 ρ' (.slice A1 m1 cap1) = .slice y2.at_ s.tenants.length y2.ct ∧ den1 ρ' (.slice A2 m2 cap2) = .slice y2.ac s.cells.length y2.cc := by
    simp [den2, stC] at e1
    exact ⟨e1.2.2.1, e1.2.2.2.1⟩
  have k1 : cap1 = y2.ct := by have := h1.1; cases A1 <;> simp [den1] at this <;> exact this.2.2
  have k2 : cap2 = y2.cc := by have := h1.2; cases A2 <;> simp [den1] at this <;> exact this.2.2
  exact ⟨k1 ▸ hc1, k2 ▸ hc2⟩
def ctCopied2 : CT := fun vs mem nx K => ∃ M y s, vs = [stV M y s] ∧ (HasRow mem M.t 12 tsC default s.tenants ∧ HasRow mem M.c 4 csC default s.cells) ∧ (s.tenants.length ≤ 1000000 ∧ s.cells.length ≤ 1000000) ∧ ∀ y2 : StK, s.tenants.length ≤ y2.ct → s.cells.length ≤ y2.cc → K (stV ⟨nx + 1, nx, 0⟩ y2 s) (stMO ⟨nx + 1, nx, 0⟩ s ++ mem) (nx + 2)
theorem copied2Ok : CSound Tryz.prog 18 ctCopied2 := ⟨by kernel_rfl, fun {C ρ fr mem nx a w vs K} hc hs hv => by
  obtain ⟨M, y, s, rfl, ⟨h1, h2⟩, ⟨hm, hm2⟩, hK⟩ := hc
  rw [List.map_cons, den_st]
  refine (r12Copied2_calls (stX ρ M y) s w (hs.stRow h1 h2) hm hm2).mono ?_
  rintro e w' ⟨y2, rfl, ho, ⟨hl1, hl2⟩, hb⟩
  obtain ⟨q1, q2, q3, q4⟩ := hs.addOwnSt hb ho
  exact ⟨_, _, _, _, by rw [q2], hK ⟨y2.ct, y2.cc⟩ hl1 hl2, q1, q3, q4⟩⟩
def slF : FT := [(9, ctLight), (10, ctAwake), (11, ctConfig), (17, ctState), (18, ctCopied2), (13, ctMod), (16, ctSameH), (31, ctSameS)]
theorem slFok : FTok Tryz.prog slF := ft_cons lightOk (ft_cons awakeOk (ft_cons configOk (ft_cons stateOk (ft_cons copied2Ok (ft_cons modOk (ft_cons sameHOk (ft_cons sameSOk ft_nil)))))))
def slD : List (Nat × DQ) := [(33, { sl := [1], k := 20, L := [22, 25], pre := [(0, true), (1, false), (2, false), (3, false), (5, false), (6, false), (4, true), (7, true), (8, false), (9, false), (10, false), (11, false), (12, false), (14, false), (15, false), (13, true), (16, true), (17, false), (18, false), (19, false)] }),
  (1000033, { k := 40, L := [0, 1, 2, 3, 4, 5, 6, 7, 8, 9, 10, 11, 12, 13, 14, 15, 16, 17, 18, 19, 20, 21, 22], sl := [7, 8, 9] }),
  (2000009, { k := 0, L := [0, 1, 2, 3, 4, 5, 6, 7, 8, 9, 10, 11, 12, 13, 14, 15, 16, 17, 18, 19, 20, 21, 22, 23, 25], sl := [2, 7, 8, 9] })]
set_option maxRecDepth 100000 in
set_option maxHeartbeats 4000000 in
theorem sameLaw_sx (cap0 : Nat) (l : List Int) (which by_ : Int) (hm0 : l.length ≤ maxLen) :
    sx tt slF slD (bodyOf Tryz.f8) (argF 0 [slc 0 l.length cap0, .int .i64 which, .int .i64 by_]) (uniM { l0 := l }) 13 (endx tt Tryz.f8.results.toList fun v _ _ => v = .bool true) := by
  refine ⟨0, cap0, l, rfl, rfl, hm0, ?_⟩
  refine ⟨fun _ => ?_, fun h0 => ?_⟩
  · refine ⟨rfl, ?_⟩
    exact rfl
  · have hl : l.length ≤ 200 := by simpa using h0
    refine ⟨0, cap0, l, rfl, rfl, by omega, ?_⟩
    intro xk c hM
    have hV := cfgV_of hM.valid
    have hnt := hV.nt
    have hnc := hV.nc
    refine ⟨⟨18, 17, 16, 15, 14, 13, 500000⟩, xk, c, 0, cap0, l, 30, rfl, ⟨(by repeat (first | exact trivial | refine ⟨rfl, ?_⟩)), ⟨_, _, _, rfl, Nat.le_refl _, fun k hk => rfl⟩⟩, ⟨hV, by omega, by decide⟩, ?_⟩
    intro es s y hR hen
    have hJ := hR.rinv hV (.new hV)
    have hI := hJ.inv
    have htn := hI.lt
    have hcn := hI.lc
    refine ⟨_, y, s, rfl, ⟨.list rfl, .list rfl⟩, ⟨by omega, by omega⟩, ?_⟩
    intro yw hct hcc
    refine ⟨by_, (s.cells.length : Int), rfl, ⟨by omega, by omega⟩, ?_⟩
    have hk0 : 0 ≤ by_ % (s.cells.length : Int) := Int.emod_nonneg _ (by omega)
    have hk1 : by_ % (s.cells.length : Int) < (s.cells.length : Int) := Int.emod_lt_of_pos _ (by omega)
    generalize by_ % (s.cells.length : Int) = k at hk0 hk1 ⊢
    have hin : k.toNat < s.cells.length := by omega
    refine ⟨St × List CS, fun _ => [], fun q => match q with | (t, cs) => [(25, .box 38 [.int .i64 t.tick, .int .i64 t.count, slc 24 t.tenants.length yw.ct, slc 23 t.cells.length yw.cc, .int .i64 t.proven, .int .i64 t.evac, .int .i64 t.low, .int .i64 t.high]), (24, .row (1000000 + 58) 12 s.tenants.length (fun k => tsC (t.tenants.getD k default))), (23, .row (1000000 + 54) 4 s.cells.length (fun k => csC (cs.getD k default)))], fun q => match q with | (t, cs) => t.tenants.length = s.tenants.length ∧ t.cells.length ≤ s.cells.length ∧ ∀ j, j < t.cells.length → cs.getD j default = t.cells.getD j default, ?_, ?_⟩
    · refine ⟨which, 12, rfl, ⟨by decide, by decide⟩, ?_⟩
      generalize which % 12 = m
      refine ⟨fun _ => ?_, fun _ => ?_⟩
      · exact ⟨({ s with tick := by_ }, s.cells), ⟨rfl, Nat.le_refl _, fun j hj => rfl⟩, (by repeat (first | exact trivial | refine ⟨rfl, ?_⟩)), (by repeat (first | exact trivial | refine ⟨rfl, ?_⟩))⟩
      refine ⟨fun _ => ?_, fun _ => ?_⟩
      · exact ⟨({ s with count := by_ }, s.cells), ⟨rfl, Nat.le_refl _, fun j hj => rfl⟩, (by repeat (first | exact trivial | refine ⟨rfl, ?_⟩)), (by repeat (first | exact trivial | refine ⟨rfl, ?_⟩))⟩
      refine ⟨fun _ => ?_, fun _ => ?_⟩
      · exact ⟨({ s with proven := by_ }, s.cells), ⟨rfl, Nat.le_refl _, fun j hj => rfl⟩, (by repeat (first | exact trivial | refine ⟨rfl, ?_⟩)), (by repeat (first | exact trivial | refine ⟨rfl, ?_⟩))⟩
      refine ⟨fun _ => ?_, fun _ => ?_⟩
      · exact ⟨({ s with evac := by_ }, s.cells), ⟨rfl, Nat.le_refl _, fun j hj => rfl⟩, (by repeat (first | exact trivial | refine ⟨rfl, ?_⟩)), (by repeat (first | exact trivial | refine ⟨rfl, ?_⟩))⟩
      refine ⟨fun _ => ?_, fun _ => ?_⟩
      · exact ⟨({ s with low := by_ }, s.cells), ⟨rfl, Nat.le_refl _, fun j hj => rfl⟩, (by repeat (first | exact trivial | refine ⟨rfl, ?_⟩)), (by repeat (first | exact trivial | refine ⟨rfl, ?_⟩))⟩
      refine ⟨fun _ => ?_, fun _ => ?_⟩
      · exact ⟨({ s with high := by_ }, s.cells), ⟨rfl, Nat.le_refl _, fun j hj => rfl⟩, (by repeat (first | exact trivial | refine ⟨rfl, ?_⟩)), (by repeat (first | exact trivial | refine ⟨rfl, ?_⟩))⟩
      refine ⟨fun _ => ?_, fun _ => ?_⟩
      · refine ⟨⟨Nat.le_refl _, hk0, hk1⟩, ?_⟩
        refine ⟨csC { (s.cells.getD k.toNat default) with mode := by_ }, rfl, ?_⟩
        rw [setEl_set hin]
        refine ⟨({ s with cells := s.cells.set k.toNat { (s.cells.getD k.toNat default) with mode := by_ } }, s.cells.set k.toNat { (s.cells.getD k.toNat default) with mode := by_ }), ⟨rfl, (by simp), fun j hj => rfl⟩, (by repeat (first | exact trivial | refine ⟨rfl, ?_⟩)), ?_⟩
        refine ⟨?_, (by repeat (first | exact trivial | refine ⟨rfl, ?_⟩))⟩
        show some (ABlk.box _ [_, _, _, slc 23 s.cells.length yw.cc, _, _, _, _]) = some (ABlk.box _ [_, _, _, slc 23 (s.cells.set _ _).length yw.cc, _, _, _, _])
        rw [List.length_set]
      refine ⟨fun _ => ?_, fun _ => ?_⟩
      · refine ⟨⟨Nat.le_refl _, hk0, hk1⟩, ?_⟩
        refine ⟨csC { (s.cells.getD k.toNat default) with running := by_ }, rfl, ?_⟩
        rw [setEl_set hin]
        refine ⟨({ s with cells := s.cells.set k.toNat { (s.cells.getD k.toNat default) with running := by_ } }, s.cells.set k.toNat { (s.cells.getD k.toNat default) with running := by_ }), ⟨rfl, (by simp), fun j hj => rfl⟩, (by repeat (first | exact trivial | refine ⟨rfl, ?_⟩)), ?_⟩
        refine ⟨?_, (by repeat (first | exact trivial | refine ⟨rfl, ?_⟩))⟩
        show some (ABlk.box _ [_, _, _, slc 23 s.cells.length yw.cc, _, _, _, _]) = some (ABlk.box _ [_, _, _, slc 23 (s.cells.set _ _).length yw.cc, _, _, _, _])
        rw [List.length_set]
      refine ⟨fun _ => ?_, fun _ => ?_⟩
      · refine ⟨⟨Nat.le_refl _, hk0, hk1⟩, ?_⟩
        refine ⟨csC { (s.cells.getD k.toNat default) with since := by_ }, rfl, ?_⟩
        rw [setEl_set hin]
        refine ⟨({ s with cells := s.cells.set k.toNat { (s.cells.getD k.toNat default) with since := by_ } }, s.cells.set k.toNat { (s.cells.getD k.toNat default) with since := by_ }), ⟨rfl, (by simp), fun j hj => rfl⟩, (by repeat (first | exact trivial | refine ⟨rfl, ?_⟩)), ?_⟩
        refine ⟨?_, (by repeat (first | exact trivial | refine ⟨rfl, ?_⟩))⟩
        show some (ABlk.box _ [_, _, _, slc 23 s.cells.length yw.cc, _, _, _, _]) = some (ABlk.box _ [_, _, _, slc 23 (s.cells.set _ _).length yw.cc, _, _, _, _])
        rw [List.length_set]
      refine ⟨fun _ => ?_, fun _ => ?_⟩
      · refine ⟨⟨hk0, by omega⟩, ?_⟩
        have htl : (s.cells.take k.toNat).length = k.toNat := by rw [List.length_take]; omega
        refine ⟨({ s with cells := s.cells.take k.toNat }, s.cells), ⟨rfl, (by rw [htl]; omega), fun j hj => ?_⟩, (by repeat (first | exact trivial | refine ⟨rfl, ?_⟩)), ?_⟩
        · rw [htl] at hj
          simp [List.getD_eq_getElem?_getD, List.getElem?_take, hj]
        refine ⟨?_, (by repeat (first | exact trivial | refine ⟨rfl, ?_⟩))⟩
        show some (ABlk.box _ [_, _, _, slc 23 k.toNat yw.cc, _, _, _, _]) = some (ABlk.box _ [_, _, _, slc 23 (s.cells.take _).length yw.cc, _, _, _, _])
        rw [htl]
      refine ⟨List TS × Int, fun q => match q with | (ts, i) => [(11, .int .i64 i)], fun q => match q with | (ts, i) => [(24, .row (1000000 + 58) 12 s.tenants.length (fun k => tsC (ts.getD k default)))], fun q => match q with | (ts, i) => ts.length = s.tenants.length ∧ 0 ≤ i ∧ i ≤ 1, fun q => match q with | (ts, i) => (1 - i).toNat, ⟨(s.tenants, 0), ⟨rfl, by decide, by decide⟩, (by repeat (first | exact trivial | refine ⟨rfl, ?_⟩)), (by repeat (first | exact trivial | refine ⟨rfl, ?_⟩))⟩, ?_⟩
      rintro ⟨ts, i⟩ ⟨hts, hi0, hi1⟩
      refine ⟨⟨rfl, rfl⟩, ?_⟩
      refine ⟨fun h1 => ?_, fun h1 => ?_⟩
      · refine ⟨fun h2 => ?_, fun h2 => ?_⟩
        · have hlt : i < (s.tenants.length : Int) := of_decide_eq_true h1
          have hle : i < 1 := of_decide_eq_true h2
          have hti : i.toNat < ts.length := by omega
          refine ⟨⟨Nat.le_refl _, hi0, hlt⟩, ?_⟩
          refine ⟨tsC { (ts.getD i.toNat default) with win := { (ts.getD i.toNat default).win with till := by_ } }, rfl, ?_⟩
          rw [setEl_set hti]
          refine ⟨⟨Nat.le_refl _, hi0, hlt⟩, ?_⟩
          refine ⟨tsC { (ts.getD i.toNat default) with win := { (ts.getD i.toNat default).win with till := by_ }, next := by_ }, (by show putN _ _ (tsC (List.getD _ _ _)) = _; rw [getD_set hti]; rfl), ?_⟩
          rw [setEl_set (by rw [List.length_set]; exact hti), List.set_set]
          refine ⟨(ts.set i.toNat { (ts.getD i.toNat default) with win := { (ts.getD i.toNat default).win with till := by_ }, next := by_ }, _), ?_, (by repeat (first | exact trivial | refine ⟨rfl, ?_⟩)), (by repeat (first | exact trivial | refine ⟨rfl, ?_⟩))⟩
          dsimp only
          rw [wrapi (n := i + 1) (by omega)]
          exact ⟨⟨by rw [List.length_set]; exact hts, by omega, by omega⟩, by omega⟩
        · refine ⟨({ s with tenants := ts }, s.cells), ⟨hts, Nat.le_refl _, fun j hj => rfl⟩, (by repeat (first | exact trivial | refine ⟨rfl, ?_⟩)), ?_⟩
          refine ⟨?_, (by repeat (first | exact trivial | refine ⟨rfl, ?_⟩))⟩
          show some (ABlk.box _ [_, _, slc 24 s.tenants.length yw.ct, _, _, _, _, _]) = some (ABlk.box _ [_, _, slc 24 ts.length yw.ct, _, _, _, _, _])
          rw [hts]
      · refine ⟨fun h => Bool.noConfusion h, fun _ => ?_⟩
        refine ⟨({ s with tenants := ts }, s.cells), ⟨hts, Nat.le_refl _, fun j hj => rfl⟩, (by repeat (first | exact trivial | refine ⟨rfl, ?_⟩)), ?_⟩
        refine ⟨?_, (by repeat (first | exact trivial | refine ⟨rfl, ?_⟩))⟩
        show some (ABlk.box _ [_, _, slc 24 s.tenants.length yw.ct, _, _, _, _, _]) = some (ABlk.box _ [_, _, slc 24 ts.length yw.ct, _, _, _, _, _])
        rw [hts]
    · rintro ⟨t, cs⟩ ⟨hl1, hl2, hl3⟩
      refine ⟨⟨by decide, rfl, rfl⟩, ?_⟩
      refine ⟨rfl, ?_⟩
      refine ⟨(by repeat (first | exact trivial | refine ⟨rfl, ?_⟩)), ?_⟩
      refine ⟨fun _ => ?_, fun q => absurd q (by simp)⟩
      refine ⟨_, _, s, ⟨24, 23, 0⟩, yw, t, rfl, ⟨⟨_, _, _, rfl, Nat.le_refl _, fun k hk => rfl⟩, ⟨_, _, _, rfl, Nat.le_refl _, fun k hk => rfl⟩, ⟨_, _, _, rfl, by rw [hl1]; exact Nat.le_refl _, fun j hj => rfl⟩, ⟨_, _, _, rfl, hl2, fun j hj => by rw [← hl3 j hj]⟩⟩, ⟨by omega, by omega⟩, ?_⟩
      intro b3 hb3
      refine ⟨(by repeat (first | exact trivial | refine ⟨rfl, ?_⟩)), ?_⟩
      refine ⟨_, s, _, t, rfl, ⟨.inl ⟨_, _, rfl, ⟨_, _, _, rfl, Nat.le_refl _, fun k hk => rfl⟩, ⟨_, _, _, rfl, Nat.le_refl _, fun k hk => rfl⟩⟩, .inl ⟨⟨24, 23, 0⟩, yw, rfl, ⟨_, _, _, rfl, by rw [hl1]; exact Nat.le_refl _, fun j hj => rfl⟩, ⟨_, _, _, rfl, hl2, fun j hj => by rw [← hl3 j hj]⟩⟩⟩, ⟨by omega, by omega⟩, ?_⟩
      intro b4 hb4
      refine ⟨(by repeat (first | exact trivial | refine ⟨rfl, ?_⟩)), ?_⟩
      obtain rfl : b4 = b3 := by cases b3 <;> cases b4 <;> simp_all
      refine ⟨fun _ => ?_, fun q => absurd q (by simp)⟩
      refine ⟨⟨24, 23, 0⟩, yw, t, _, _, s, rfl, ⟨⟨_, _, _, rfl, by rw [hl1]; exact Nat.le_refl _, fun j hj => rfl⟩, ⟨_, _, _, rfl, hl2, fun j hj => by rw [← hl3 j hj]⟩, ⟨_, _, _, rfl, Nat.le_refl _, fun k hk => rfl⟩, ⟨_, _, _, rfl, Nat.le_refl _, fun k hk => rfl⟩⟩, ⟨by omega, by omega⟩, ?_⟩
      intro b5 hb5
      refine ⟨(by repeat (first | exact trivial | refine ⟨rfl, ?_⟩)), ?_⟩
      refine ⟨_, s, _, t, rfl, ⟨.inl ⟨_, _, rfl, ⟨_, _, _, rfl, Nat.le_refl _, fun k hk => rfl⟩, ⟨_, _, _, rfl, Nat.le_refl _, fun k hk => rfl⟩⟩, .inl ⟨⟨24, 23, 0⟩, yw, rfl, ⟨_, _, _, rfl, by rw [hl1]; exact Nat.le_refl _, fun j hj => rfl⟩, ⟨_, _, _, rfl, hl2, fun j hj => by rw [← hl3 j hj]⟩⟩⟩, ⟨by omega, by omega⟩, ?_⟩
      intro b6 hb6
      refine ⟨(by repeat (first | exact trivial | refine ⟨rfl, ?_⟩)), ?_⟩
      obtain rfl : b6 = b5 := by cases b5 <;> cases b6 <;> simp_all
      show Value.bool (b6 == b6) = Value.bool true
      cases b6 <;> rfl
theorem stateSame_law (a0 : Option Addr) (cap0 : Nat) (z0 : List Int) (which by_ : Int) (W : World) (hr0 : Rd W (· < W.heap.size) a0 (z0.map (Value.int .i64))) (hm0 : z0.length ≤ maxLen) {Q Q2 : Prop} (_hq : Q) (_hq2 : Q2) :
    Calls Tryz.prog 8 #[.slice a0 z0.length cap0, .int .i64 which, .int .i64 by_] W fun e w' => e = .returned (.bool true) ∧ Below W.heap.size W w' := by
  rw [← flat_ints] at hr0
  refine (uni_calls ttOk (slFok.i _) Tryz.func8 rfl (D := slD) (codeF_ok _ (by kernel_rfl)) (vs := [slc 0 z0.length cap0, .int .i64 which, .int .i64 by_]) rfl { a0 := a0 } { l0 := z0 } W { r0 := hr0 } (fun v hv => by
    simp only [List.mem_cons, List.not_mem_nil, or_false] at hv
    rcases hv with rfl | rfl | rfl
    · exact ⟨show (0 : Nat) < 13 by decide, rfl⟩
    · trivial
    · trivial) (sameLaw_sx cap0 z0 which by_ hm0)).mono ?_
  rintro e w' ⟨v, mem', nx', ρ', rfl, rfl, hv, hm', hb⟩
  exact ⟨rfl, hb⟩
end Go.Proofs.YtjobcfpnmfjlfaaGreat
