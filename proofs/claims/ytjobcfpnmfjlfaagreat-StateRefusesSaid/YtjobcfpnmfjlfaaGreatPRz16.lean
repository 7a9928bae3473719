import Derived.Test.YtjobcfpnmfjlfaaGreatPa15
namespace Go.Proofs.YtjobcfpnmfjlfaaGreat
open Go.RowKit
set_option linter.unusedSimpArgs false
set_option linter.unusedVariables false

/-! ref12.Same, whatever rows hold the states. -/
/-- A value that is a state. -/
def StIs (mem : AM) (v : Value) (s : St) : Prop := (∃ M y, v = stV M y s ∧ HasRow mem M.t 12 tsC default s.tenants ∧ HasRow mem M.c 4 csC default s.cells) ∨ (v = stZ ∧ s = St.zero)
theorem Sat.stIs {C : Ctx} {ρ : Nat → Pl} {fr : AF} {mem : AM} {nx : Nat} {a : Act} {w : World} (h : Sat C ρ fr mem nx a w) {v : Value} {s : St} (hs : StIs mem v s) : ∃ y, den ρ v = .agg (stC y s) ∧ StOk w (· < w.heap.size) y s := by
  rcases hs with ⟨M, y, rfl, h1, h2⟩ | ⟨rfl, rfl⟩
  · exact ⟨stX ρ M y, den_st _ _ _ _, h.stRow h1 h2⟩
  · exact ⟨noA, by simp [den, den2, den1, stC, noA, St.zero], ⟨fun q => absurd rfl q, fun q => absurd rfl q⟩⟩
def ctSameH : CT := fun vs mem nx K => ∃ v s v2 s2, vs = [v, v2] ∧ (StIs mem v s ∧ StIs mem v2 s2) ∧ (s.tenants.length ≤ 1000000 ∧ s.cells.length ≤ 1000000) ∧ ∀ b : Bool, (b = true ↔ s = s2) → K (.bool b) mem nx
theorem sameHOk : CSound Tryz.prog 16 ctSameH := ⟨by kernel_rfl, fun {C ρ fr mem nx a w vs K} hc hs hv => by
  obtain ⟨v, s, v2, s2, rfl, ⟨h1, h2⟩, ⟨hm, hm2⟩, hK⟩ := hc
  obtain ⟨y, e1, k1⟩ := hs.stIs h1
  obtain ⟨y2, e2, k2⟩ := hs.stIs h2
  rw [List.map_cons, List.map_cons, e1, e2]
  refine (r12Same_any y s y2 s2 w k1 k2 hm hm2).mono ?_
  rintro e w' ⟨z, ⟨b, rfl, hb⟩, rfl, hbw⟩
  exact ⟨.bool b, mem, nx, ρ, rfl, hK b hb, hs.later hbw, trivial, ExtS.refl _ _⟩⟩
/-! What Apply's answer is like. -/
theorem effOf_len (s : St) (e : Ent) : (effOf s e).tenants.length = s.tenants.length ∧ (effOf s e).cells.length = s.cells.length := by
  unfold effOf
  dsimp only
  repeat' split
  all_goals simp [setTen, setCel, stamped]
theorem applyP_len {c : Cfg} {s : St} {e : Ent} : (applyP c s e).1.tenants.length ≤ s.tenants.length ∧ (applyP c s e).1.cells.length ≤ s.cells.length := by
  have := effOf_len s e
  unfold applyP
  repeat' split
  all_goals simp [St.zero]
  omega
end Go.Proofs.YtjobcfpnmfjlfaaGreat

namespace Go.Proofs.YtjobcfpnmfjlfaaGreat
open Go.RowKit
set_option linter.unusedSimpArgs false
set_option linter.unusedVariables false

/-! law12.StateOwn -/
def owF : FT := [(9, ctLight), (10, ctAwake), (11, ctConfig), (17, ctState), (18, ctCopied), (20, ctTapeNew), (19, ctEntry), (15, ctApplyO), (16, ctSameH), (21, ctApplyR)]
theorem owFok : FTok Tryz.prog owF := ft_cons lightOk (ft_cons awakeOk (ft_cons configOk (ft_cons stateOk (ft_cons copiedOk (ft_cons tapeNewOk (ft_cons entryOk (ft_cons applyOOk (ft_cons sameHOk (ft_cons applyROk ft_nil)))))))))
def owD : List (Nat × DQ) := [(6, { k := 6, L := [19, 22], A := [5], pre := [(0, false), (2, false), (3, false), (1, true), (4, true)], post := [] }),
  (2000011, { k := 0, L := [0, 1, 2, 3, 4, 5, 6, 7, 8, 9, 10, 11, 12, 13, 14, 15, 16, 17, 18, 19, 20, 21, 22, 23, 24, 25, 26, 27, 29, 30], sl := [5, 6, 7, 8, 9, 10] }),
  (2000015, { k := 0, L := [0, 1, 2, 3, 4, 5, 6, 7, 8, 9, 10, 11, 12, 13, 14, 15, 16, 17, 18, 19, 20, 21, 22, 23, 24, 25, 26, 27, 28, 30], sl := [5, 6, 7, 8, 9, 10] })]
set_option maxRecDepth 100000 in
set_option maxHeartbeats 4000000 in
theorem own_sx (cap0 cap1 : Nat) (l more : List Int) (hm0 : l.length ≤ maxLen) (hm1 : more.length ≤ maxLen) :
    sx tt owF owD (bodyOf Tryz.f4) (argF 0 [slc 0 l.length cap0, slc 1 more.length cap1]) (uniM { l0 := l, l1 := more }) 13 (endx tt Tryz.f4.results.toList fun v _ _ => v = .bool true) := by
  refine ⟨0, cap0, l, rfl, rfl, hm0, ?_⟩
  refine ⟨fun h => ?_, fun h0 => ?_⟩
  · refine ⟨fun _ => ?_, fun h => nomatch h⟩
    refine ⟨rfl, ?_⟩
    exact rfl
  · refine ⟨1, cap1, more, rfl, rfl, hm1, ?_⟩
    refine ⟨fun _ => ?_, fun h1 => ?_⟩
    · refine ⟨rfl, ?_⟩
      exact rfl
    · have hm2 : more.length ≤ 200 := by simpa using h1
      refine ⟨0, cap0, l, rfl, rfl, (by have q : l.length ≤ 200 := (by simpa using h0); omega), ?_⟩
      intro xk c hM
      have hV := cfgV_of hM.valid
      have hnt := hV.nt
      have hnc := hV.nc
      refine ⟨⟨18, 17, 16, 15, 14, 13, 500000⟩, xk, c, 1, cap1, more, 20, rfl, ⟨(by repeat (first | exact trivial | refine ⟨rfl, ?_⟩)), ⟨_, _, _, rfl, Nat.le_refl _, fun k hk => rfl⟩⟩, ⟨hV, by omega, by decide⟩, ?_⟩
      intro es s y hR hen
      have hJ := hR.rinv hV (.new hV)
      have hI := hJ.inv
      have htn := hI.lt
      have hcn := hI.lc
      refine ⟨_, y, s, rfl, ⟨.list rfl, .list rfl⟩, ⟨by omega, by omega⟩, ?_⟩
      intro yw
      have hl : l.length ≤ 200 := by simpa using h0
      refine ⟨0, cap0, l, rfl, rfl, by omega, ?_⟩
      refine ⟨(by repeat (first | exact trivial | refine ⟨rfl, ?_⟩)), ?_⟩
      refine ⟨27, 0, cap0, l, _, ⟨18, 17, 16, 15, 14, 13, 500000⟩, xk, c, ⟨21, 20, 500000⟩, y, s, [], rfl, ⟨rfl, rfl⟩, (by repeat (first | exact trivial | refine ⟨rfl, ?_⟩)), (by repeat (first | exact trivial | refine ⟨rfl, ?_⟩)), ⟨by omega, by omega, by omega⟩, ⟨⟨hV, hI, by omega⟩, rfl⟩, ?_⟩
      rintro _ k2 ⟨⟨e, rfl⟩, hk2a, hk2b, hk2c⟩
      refine ⟨(by repeat (first | exact trivial | refine ⟨rfl, ?_⟩)), ?_⟩
      refine ⟨⟨18, 17, 16, 15, 14, 13, 500000⟩, xk, c, ⟨21, 20, 500000⟩, y, s, e, rfl, (by repeat (first | exact trivial | refine ⟨rfl, ?_⟩)), ⟨.list rfl, .list rfl⟩, hV, hI, ?_⟩
      intro y3
      have hAR := applyRP (e := e) hV hI hJ.cap
      generalize hp : applyP c s e = p at hAR
      have hpl := applyP_len (c := c) (s := s) (e := e)
      rw [hp] at hpl
      obtain ⟨p1, p2⟩ := p
      dsimp only at hpl
      refine ⟨_, s, _, s, rfl, ⟨.inl ⟨_, _, rfl, ⟨_, _, _, rfl, Nat.le_refl _, fun k hk => rfl⟩, ⟨_, _, _, rfl, Nat.le_refl _, fun k hk => rfl⟩⟩, .inl ⟨_, _, rfl, ⟨_, _, _, rfl, Nat.le_refl _, fun k hk => rfl⟩, ⟨_, _, _, rfl, Nat.le_refl _, fun k hk => rfl⟩⟩⟩, ⟨by omega, by omega⟩, ?_⟩
      intro b1 hb1
      obtain rfl : b1 = true := hb1.2 rfl
      refine ⟨fun q => absurd q (by simp), fun _ => ?_⟩
      refine ⟨List CS × Int, fun q => match q with | (cs, i) => [(11, .int .i64 i)], fun q => match q with | (cs, i) => [(28, .row (1000000 + 54) 4 p1.cells.length (fun k => csC (cs.getD k default)))], fun q => match q with | (cs, i) => cs.length = p1.cells.length ∧ (0 ≤ i ∧ i ≤ p1.cells.length), fun q => match q with | (cs, i) => ((p1.cells.length : Int) - i).toNat, ⟨(p1.cells, 0), ⟨rfl, by omega⟩, (by repeat (first | exact trivial | refine ⟨rfl, ?_⟩)), (by repeat (first | exact trivial | refine ⟨rfl, ?_⟩))⟩, ?_⟩
      rintro ⟨cs, i⟩ ⟨hcs, hi⟩
      refine ⟨⟨rfl, rfl⟩, ?_⟩
      refine ⟨fun hlt => ?_, fun hge => ?_⟩
      · have hlt2 : i < (p1.cells.length : Int) := of_decide_eq_true hlt
        have hin : i.toNat < cs.length := by omega
        refine ⟨⟨Nat.le_refl _, hi.1, hlt2⟩, ?_⟩
        refine ⟨csC { (cs.getD i.toNat default) with mode := 77 }, rfl, ?_⟩
        rw [setEl_set hin]
        refine ⟨(cs.set i.toNat { (cs.getD i.toNat default) with mode := 77 }, _), ?_, (by repeat (first | exact trivial | refine ⟨rfl, ?_⟩)), (by repeat (first | exact trivial | refine ⟨rfl, ?_⟩))⟩
        dsimp only
        rw [wrapi (n := i + 1) (by omega)]
        exact ⟨⟨by rw [List.length_set]; exact hcs, by omega⟩, by omega⟩
      · refine ⟨List TS × Int, fun q => match q with | (ts, i) => [(12, .int .i64 i)], fun q => match q with | (ts, i) => [(29, .row (1000000 + 58) 12 p1.tenants.length (fun k => tsC (ts.getD k default)))], fun q => match q with | (ts, i) => ts.length = p1.tenants.length ∧ (0 ≤ i ∧ i ≤ p1.tenants.length), fun q => match q with | (ts, i) => ((p1.tenants.length : Int) - i).toNat, ⟨(p1.tenants, 0), ⟨rfl, by omega⟩, (by repeat (first | exact trivial | refine ⟨rfl, ?_⟩)), (by repeat (first | exact trivial | refine ⟨rfl, ?_⟩))⟩, ?_⟩
        rintro ⟨ts, i⟩ ⟨hts, hi⟩
        refine ⟨⟨rfl, rfl⟩, ?_⟩
        refine ⟨fun hlt => ?_, fun hge => ?_⟩
        · have hlt2 : i < (p1.tenants.length : Int) := of_decide_eq_true hlt
          have hin : i.toNat < ts.length := by omega
          refine ⟨⟨Nat.le_refl _, hi.1, hlt2⟩, ?_⟩
          refine ⟨tsC { (ts.getD i.toNat default) with home := 77 }, rfl, ?_⟩
          rw [setEl_set hin]
          refine ⟨(ts.set i.toNat { (ts.getD i.toNat default) with home := 77 }, _), ?_, (by repeat (first | exact trivial | refine ⟨rfl, ?_⟩)), (by repeat (first | exact trivial | refine ⟨rfl, ?_⟩))⟩
          dsimp only
          rw [wrapi (n := i + 1) (by omega)]
          exact ⟨⟨by rw [List.length_set]; exact hts, by omega⟩, by omega⟩
        · refine ⟨⟨18, 17, 16, 15, 14, 13, 500000⟩, xk, c, ⟨21, 20, 500000⟩, y, s, e, rfl, (by repeat (first | exact trivial | refine ⟨rfl, ?_⟩)), ⟨.list rfl, .list rfl⟩, hV, hI, ?_⟩
          intro y4
          rw [hp]
          refine ⟨⟨18, 17, 16, 15, 14, 13, 500000⟩, xk, c, ⟨24, 23, 0⟩, yw, s, e, rfl, ⟨(by repeat (first | exact trivial | refine ⟨rfl, ?_⟩)), ⟨_, _, _, rfl, Nat.le_refl _, fun k hk => rfl⟩, ⟨_, _, _, rfl, Nat.le_refl _, fun k hk => rfl⟩⟩, ⟨hV, hI⟩, ?_⟩
          intro y5
          rw [hAR]
          refine ⟨rfl, ?_⟩
          refine ⟨fun _ => ?_, fun q => absurd q (by simp)⟩
          refine ⟨_, s, _, s, rfl, ⟨.inl ⟨_, _, rfl, ⟨_, _, _, rfl, Nat.le_refl _, fun k hk => rfl⟩, ⟨_, _, _, rfl, Nat.le_refl _, fun k hk => rfl⟩⟩, .inl ⟨_, _, rfl, ⟨_, _, _, rfl, Nat.le_refl _, fun k hk => rfl⟩, ⟨_, _, _, rfl, Nat.le_refl _, fun k hk => rfl⟩⟩⟩, ⟨by omega, by omega⟩, ?_⟩
          intro b2 hb2
          obtain rfl : b2 = true := hb2.2 rfl
          refine ⟨fun _ => ?_, fun q => absurd q (by simp)⟩
          refine ⟨fun _ => ?_, fun q => absurd q (by simp)⟩
          refine ⟨fun _ => ?_, fun q => absurd q (by simp)⟩
          refine ⟨_, p1, _, p1, rfl, ⟨.inl ⟨_, _, rfl, ⟨_, _, _, rfl, Nat.le_refl _, fun k hk => rfl⟩, ⟨_, _, _, rfl, Nat.le_refl _, fun k hk => rfl⟩⟩, .inl ⟨_, _, rfl, ⟨_, _, _, rfl, Nat.le_refl _, fun k hk => rfl⟩, ⟨_, _, _, rfl, Nat.le_refl _, fun k hk => rfl⟩⟩⟩, ⟨by omega, by omega⟩, ?_⟩
          intro b3 hb3
          obtain rfl : b3 = true := hb3.2 rfl
          rfl
theorem stateOwn_law (a0 : Option Addr) (cap0 : Nat) (z0 : List Int) (a1 : Option Addr) (cap1 : Nat) (z1 : List Int) (W : World) (hr0 : Rd W (· < W.heap.size) a0 (z0.map (Value.int .i64))) (hm0 : z0.length ≤ maxLen) (hr1 : Rd W (· < W.heap.size) a1 (z1.map (Value.int .i64))) (hm1 : z1.length ≤ maxLen) :
    Calls Tryz.prog 4 #[.slice a0 z0.length cap0, .slice a1 z1.length cap1] W fun e w' => e = .returned (.bool true) ∧ Below W.heap.size W w' := by
  rw [← flat_ints] at hr0 hr1
  refine (uni_calls ttOk (owFok.i _) Tryz.func4 rfl (D := owD) (by kernel_rfl) (vs := [slc 0 z0.length cap0, slc 1 z1.length cap1]) rfl { a0 := a0, a1 := a1 } { l0 := z0, l1 := z1 } W { r0 := hr0, r1 := hr1 } (fun v hv => by
    simp only [List.mem_cons, List.not_mem_nil, or_false] at hv
    rcases hv with rfl | rfl
    · exact ⟨show (0 : Nat) < 13 by decide, rfl⟩
    · exact ⟨show (1 : Nat) < 13 by decide, rfl⟩) (own_sx cap0 cap1 z0 z1 hm0 hm1)).mono ?_
  rintro e w' ⟨v, mem', nx', ρ', rfl, rfl, hv, hm', hb⟩
  exact ⟨rfl, hb⟩
end Go.Proofs.YtjobcfpnmfjlfaaGreat

namespace Go.Proofs.YtjobcfpnmfjlfaaGreat
open Go.RowKit
set_option linter.unusedSimpArgs false
set_option linter.unusedVariables false

/-! make.Spoilt: some entry. -/
def sqF : FT := [(13, ctMod)]
theorem sqFok : FTok Tryz.prog sqF := ft_cons modOk ft_nil
set_option maxRecDepth 100000 in
theorem spoilt_sx (e : Ent) (which n : Int) : sx tt sqF [] (bodyOf Tryz.f22) (argF 0 [entV' e, .int .i64 which, .int .i64 n]) [] 0 (endx tt Tryz.f22.results.toList fun v _ _ => ∃ e2, v = entV' e2) := by
  refine ⟨which, 9, rfl, ⟨by decide, by decide⟩, ?_⟩
  refine ⟨fun _ => ⟨{ e with kind := n }, rfl⟩, fun _ => ?_⟩
  refine ⟨fun _ => ⟨{ e with tick := n }, rfl⟩, fun _ => ?_⟩
  refine ⟨fun _ => ⟨{ e with tenant := n }, rfl⟩, fun _ => ?_⟩
  refine ⟨fun _ => ⟨{ e with cell := n }, rfl⟩, fun _ => ?_⟩
  refine ⟨fun _ => ⟨{ e with other := n }, rfl⟩, fun _ => ?_⟩
  refine ⟨fun _ => ⟨{ e with epoch := n }, rfl⟩, fun _ => ?_⟩
  refine ⟨fun _ => ⟨{ e with since := n }, rfl⟩, fun _ => ?_⟩
  refine ⟨fun _ => ⟨{ e with till := n }, rfl⟩, fun _ => ?_⟩
  exact ⟨{ e with n := n }, rfl⟩
theorem ent_pure (e : Ent) : pureV (entV' e) := by
  intro u hu
  simp [entC] at hu
  rcases hu with rfl | rfl | rfl | rfl | rfl | rfl | rfl | rfl | rfl <;> trivial
def ctSpoilt : CT := fun vs mem nx K => ∃ e which n, vs = [entV' e, .int .i64 which, .int .i64 n] ∧ ∀ e2, K (entV' e2) mem nx
theorem spoiltOk : CSound Tryz.prog 22 ctSpoilt := ⟨by kernel_rfl, fun {C ρ fr mem nx a w vs K} hc hs hv => by
  obtain ⟨e, which, n, rfl, hK⟩ := hc
  have hp : ∀ v ∈ [entV' e, .int .i64 which, .int .i64 n], pureV v := by
    intro v hv
    simp only [List.mem_cons, List.not_mem_nil, or_false] at hv
    rcases hv with rfl | rfl | rfl
    · exact ent_pure e
    · trivial
    · trivial
  have e0 : [entV' e, .int .i64 which, .int .i64 n].map (den ρ) = [entV' e, .int .i64 which, .int .i64 n] := by
    conv => rhs; rw [← List.map_id [entV' e, .int .i64 which, .int .i64 n]]
    exact List.map_congr_left fun v hv => (pure_den (hp v hv) ρ 0).1
  rw [e0]
  refine (val_calls ttOk sqFok Tryz.func22 rfl (D := []) (by kernel_rfl) rfl w hp (spoilt_sx e which n)).mono ?_
  rintro en w' ⟨v, ⟨e2, rfl⟩, ⟨ρ2, rfl⟩, hb⟩
  refine ⟨entV' e2, mem, nx, ρ, ?_, hK e2, hs.later hb, (pure_den (ent_pure e2) ρ nx).2, ExtS.refl _ _⟩
  rw [(pure_den (ent_pure e2) ρ 0).1, (pure_den (ent_pure e2) ρ2 0).1]⟩
end Go.Proofs.YtjobcfpnmfjlfaaGreat

namespace Go.Proofs.YtjobcfpnmfjlfaaGreat
open Go.RowKit
set_option linter.unusedSimpArgs false
set_option linter.unusedVariables false

/-! law12.StateRefuses -/
def NoE (n : Int) : Prop := n ≠ 1 ∧ n ≠ 3
theorem NoE.ite {p : Prop} [Decidable p] {a b : Int} (ha : NoE a) (hb : NoE b) : NoE (if p then a else b) := by split; exact ha; exact hb
theorem kindE_ne (c : Cfg) (s : St) (e : Ent) : kindE c s e ≠ 1 ∧ kindE c s e ≠ 3 := by
  show NoE _
  unfold kindE placeE grantE cutE standbyE readyE migrateE abandonE shedE modeE wantE runsE proveE evacE expandE contractE
  dsimp only
  repeat' (first | refine NoE.ite ?_ ?_ | exact ⟨by decide, by decide⟩)
theorem applyP_full {c : Cfg} {s : St} {e : Ent} (h : 4096 ≤ s.count) : applyP c s e = (St.zero, if entV c e = false then 1 else 2) := by
  have hr : refusedE c s e = if entV c e = false then 1 else 2 := by
    unfold refusedE
    split <;> simp_all
  unfold applyP
  rw [hr, if_pos (by split <;> decide)]
theorem applyP_errs {c : Cfg} {s : St} {e : Ent} (h : s.count < 4096) : ((applyP c s e).2 ≠ 0 → (applyP c s e).1 = St.zero) ∧ ((applyP c s e).2 = 1 ↔ entV c e = false) ∧ (entV c e = true → ((applyP c s e).2 = 3 ↔ e.tick < s.tick)) := by
  have hk := kindE_ne c s e
  have hr : refusedE c s e = if entV c e = false then 1 else if e.tick < s.tick then 3 else kindE c s e := by
    unfold refusedE
    rw [if_neg (by omega : ¬ 4096 ≤ s.count)]
  unfold applyP
  rw [hr]
  grind
def rzF : FT := [(9, ctLight), (10, ctAwake), (11, ctConfig), (17, ctState), (18, ctCopied), (20, ctTapeNew), (19, ctEntry), (22, ctSpoilt), (15, ctApplyO), (16, ctSameH), (25, ctValid6), (24, ctInl tt [(15, ctApplyO)] [] Tryz.f24 (bodyOf Tryz.f24))]
def rzD : List (Nat × DQ) := [(9000000, { k := 0, L := [24] }), (5, { k := 9, L := [19, 22], A := [8], pre := [(0, false), (2, false), (3, false), (5, false), (6, false), (1, true), (4, true), (7, true)], post := [] })]
theorem rzFok : FTokI Tryz.prog rzF (inlOf rzD) := fti_cons (lightOk.i _) (fti_cons (awakeOk.i _) (fti_cons (configOk.i _) (fti_cons (stateOk.i _) (fti_cons (copiedOk.i _) (fti_cons (tapeNewOk.i _) (fti_cons (entryOk.i _) (fti_cons (spoiltOk.i _) (fti_cons (applyOOk.i _) (fti_cons (sameHOk.i _) (fti_cons (valid6Ok.i _) (fti_cons (inl_ok ttOk (fti_cons (applyOOk.i _) fti_nil) mixed (by kernel_rfl) Tryz.func24 rfl (by kernel_rfl) (by decide)) fti_nil)))))))))))
set_option maxRecDepth 100000 in
set_option maxHeartbeats 4000000 in
theorem refuses_sx (cap0 cap1 : Nat) (l more : List Int) (which by_ : Int) (hm0 : l.length ≤ maxLen) (hm1 : more.length ≤ maxLen) :
    sx tt rzF rzD (bodyOf Tryz.f6) (argF 0 [slc 0 l.length cap0, slc 1 more.length cap1, .int .i64 which, .int .i64 by_]) (uniM { l0 := l, l1 := more }) 13 (endx tt Tryz.f6.results.toList fun v _ _ => v = .bool true) := by
  refine ⟨0, cap0, l, rfl, rfl, hm0, ?_⟩
  refine ⟨fun h => ?_, fun h0 => ?_⟩
  · refine ⟨fun _ => ?_, fun h => nomatch h⟩
    refine ⟨rfl, ?_⟩
    exact rfl
  · refine ⟨1, cap1, more, rfl, rfl, hm1, ?_⟩
    refine ⟨fun _ => ?_, fun h1 => ?_⟩
    · refine ⟨rfl, ?_⟩
      exact rfl
    · have hm2 : more.length ≤ 200 := by simpa using h1
      refine ⟨0, cap0, l, rfl, rfl, (by have q : l.length ≤ 200 := (by simpa using h0); omega), ?_⟩
      intro xk c hM
      have hV := cfgV_of hM.valid
      have hnt := hV.nt
      have hnc := hV.nc
      refine ⟨⟨18, 17, 16, 15, 14, 13, 500000⟩, xk, c, 1, cap1, more, 20, rfl, ⟨(by repeat (first | exact trivial | refine ⟨rfl, ?_⟩)), ⟨_, _, _, rfl, Nat.le_refl _, fun k hk => rfl⟩⟩, ⟨hV, by omega, by decide⟩, ?_⟩
      intro es s y hR hen
      have hJ := hR.rinv hV (.new hV)
      have hI := hJ.inv
      have htn := hI.lt
      have hcn := hI.lc
      have hl : l.length ≤ 200 := by simpa using h0
      refine ⟨0, cap0, l, rfl, rfl, by omega, ?_⟩
      refine ⟨(by repeat (first | exact trivial | refine ⟨rfl, ?_⟩)), ?_⟩
      refine ⟨24, 0, cap0, l, _, ⟨18, 17, 16, 15, 14, 13, 500000⟩, xk, c, ⟨21, 20, 500000⟩, y, s, [], rfl, ⟨rfl, rfl⟩, (by repeat (first | exact trivial | refine ⟨rfl, ?_⟩)), (by repeat (first | exact trivial | refine ⟨rfl, ?_⟩)), ⟨by omega, by omega, by omega⟩, ⟨⟨hV, hI, by omega⟩, rfl⟩, ?_⟩
      rintro _ k2 ⟨⟨e0, rfl⟩, hk2a, hk2b, hk2c⟩
      refine ⟨(by repeat (first | exact trivial | refine ⟨rfl, ?_⟩)), ?_⟩
      refine ⟨e0, which, by_, rfl, fun e => ?_⟩
      refine ⟨(by repeat (first | exact trivial | refine ⟨rfl, ?_⟩)), ?_⟩
      refine ⟨_, y, s, rfl, ⟨.list rfl, .list rfl⟩, ⟨by omega, by omega⟩, ?_⟩
      intro yw
      refine ⟨⟨18, 17, 16, 15, 14, 13, 500000⟩, xk, c, ⟨21, 20, 500000⟩, y, s, e, rfl, (by repeat (first | exact trivial | refine ⟨rfl, ?_⟩)), ⟨.list rfl, .list rfl⟩, hV, hI, ?_⟩
      intro y3
      have hcount : s.count < 4096 := by have := hR.count; have h0 : (stNew c).count = 0 := rfl; omega
      have hI2 : StInv c { s with count := 4096 } := ⟨hI.lt, hI.lc, hI.tick, ⟨show (0 : Int) ≤ 4096 by decide, show (4096 : Int) ≤ 4096 by decide⟩, hI.proven, hI.evac, hI.low, hI.ten, hI.cel⟩
      refine ⟨⟨18, 17, 16, 15, 14, 13, 500000⟩, xk, c, ⟨26, 25, 0⟩, yw, { s with count := 4096 }, e, rfl, (by repeat (first | exact trivial | refine ⟨rfl, ?_⟩)), ⟨⟨_, _, _, rfl, Nat.le_refl _, fun k hk => rfl⟩, ⟨_, _, _, rfl, Nat.le_refl _, fun k hk => rfl⟩⟩, hV, hI2, ?_⟩
      intro y4
      refine ⟨⟨18, 17, 16, 15, 14, 13, 500000⟩, xk, c, e, rfl, (by repeat (first | exact trivial | refine ⟨rfl, ?_⟩)), hV, ?_⟩
      have hg := applyP_full (c := c) (s := { s with count := 4096 }) (e := e) (Int.le_refl _)
      obtain ⟨g, hg1⟩ : ∃ g : Int, g = if entV c e = false then 1 else 2 := ⟨_, rfl⟩
      rw [← hg1] at hg
      obtain ⟨hf0, hf1, hf3⟩ := applyP_errs (c := c) (s := s) (e := e) hcount
      have hpl := applyP_len (c := c) (s := s) (e := e)
      rw [hg]
      generalize applyP c s e = p at hf0 hf1 hf3 hpl
      obtain ⟨p1, p2⟩ := p
      dsimp only at hf0 hf1 hf3 hpl
      by_cases hz : p2 = 0 <;> cases hE : entV c e
      all_goals (refine ⟨rfl, ?_⟩)
      all_goals (repeat' (first | refine ⟨fun _ => ?_, fun h => Bool.noConfusion h⟩ | refine ⟨fun h => Bool.noConfusion h, fun _ => ?_⟩ | refine ⟨fun _ => ?_, fun h => absurd h (by grind)⟩ | refine ⟨fun h => absurd h (by grind), fun _ => ?_⟩ | refine ⟨_, p1, _, St.zero, rfl, ⟨.inl ⟨_, _, rfl, ⟨_, _, _, rfl, Nat.le_refl _, fun k hk => rfl⟩, ⟨_, _, _, rfl, Nat.le_refl _, fun k hk => rfl⟩⟩, .inr ⟨rfl, rfl⟩⟩, ⟨by omega, by omega⟩, fun b1 hb1 => ?_⟩ | fail))
      all_goals first
        | exact rfl
        | (show Value.bool ((p2 == 3) == decide (e.tick < s.tick)) = Value.bool true
           exact congrArg Value.bool (by grind))
        | fail
theorem stateRefuses_law (a0 : Option Addr) (cap0 : Nat) (z0 : List Int) (a1 : Option Addr) (cap1 : Nat) (z1 : List Int) (which by_ : Int) (W : World) (hr0 : Rd W (· < W.heap.size) a0 (z0.map (Value.int .i64))) (hm0 : z0.length ≤ maxLen) (hr1 : Rd W (· < W.heap.size) a1 (z1.map (Value.int .i64))) (hm1 : z1.length ≤ maxLen) {Q Q2 : Prop} (_hq : Q) (_hq2 : Q2) :
    Calls Tryz.prog 6 #[.slice a0 z0.length cap0, .slice a1 z1.length cap1, .int .i64 which, .int .i64 by_] W fun e w' => e = .returned (.bool true) ∧ Below W.heap.size W w' := by
  rw [← flat_ints] at hr0 hr1
  refine (uni_calls ttOk rzFok Tryz.func6 rfl (D := rzD) (by kernel_rfl) (vs := [slc 0 z0.length cap0, slc 1 z1.length cap1, .int .i64 which, .int .i64 by_]) rfl { a0 := a0, a1 := a1 } { l0 := z0, l1 := z1 } W { r0 := hr0, r1 := hr1 } (fun v hv => by
    simp only [List.mem_cons, List.not_mem_nil, or_false] at hv
    rcases hv with rfl | rfl | rfl | rfl
    · exact ⟨show (0 : Nat) < 13 by decide, rfl⟩
    · exact ⟨show (1 : Nat) < 13 by decide, rfl⟩
    · trivial
    · trivial) (refuses_sx cap0 cap1 z0 z1 which by_ hm0 hm1)).mono ?_
  rintro e w' ⟨v, mem', nx', ρ', rfl, rfl, hv, hm', hb⟩
  exact ⟨rfl, hb⟩
end Go.Proofs.YtjobcfpnmfjlfaaGreat
