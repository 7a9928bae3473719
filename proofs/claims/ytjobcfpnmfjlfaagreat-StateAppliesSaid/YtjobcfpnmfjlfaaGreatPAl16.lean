import Derived.Test.YtjobcfpnmfjlfaaGreatPa15
import Derived.Test.YtjobcfpnmfjlfaaGreatRows
namespace Go.Proofs.YtjobcfpnmfjlfaaGreat
open Go.ChangeShapes Go.WideShapes Go.ChangeAt Go.RowKit Go.Deep
set_option linter.unusedSimpArgs false
set_option linter.unusedVariables false

section
variable {H : Type} {enc : TypeId × Value → H} {w : World} {base : Nat} {spare : Nat → Bool} {held : Bool}
set_option maxRecDepth 100000 in
/-- An entry that is handed in. -/
theorem open_ent {b0 : Nat} {v : Value} {d : DataW H} {p : List MemPlace} (hv : Value.okWide Tryz.prog w .any b0 45 v) (h : DataW.Trod enc Tryz.prog w base spare held 45 v d p) :
    ∃ z : Ent, v = .agg (entC z).toArray ∧ True := by
  obtain ⟨cs, rfl, hsz⟩ := okWide_struct Tryz.underlying45 hv
  obtain ⟨fuel, hf⟩ := h
  obtain ⟨hl, hc⟩ := trod_struct_cell Tryz.underlying45 (by kernel_rfl) (by kernel_rfl) hf
  obtain ⟨v0, n0, y0, g0, t0⟩ := hc 0 _ rfl
  obtain ⟨v1, n1, y1, g1, t1⟩ := hc 1 _ rfl
  obtain ⟨v2, n2, y2, g2, t2⟩ := hc 2 _ rfl
  obtain ⟨v3, n3, y3, g3, t3⟩ := hc 3 _ rfl
  obtain ⟨v4, n4, y4, g4, t4⟩ := hc 4 _ rfl
  obtain ⟨v5, n5, y5, g5, t5⟩ := hc 5 _ rfl
  obtain ⟨v6, n6, y6, g6, t6⟩ := hc 6 _ rfl
  obtain ⟨v7, n7, y7, g7, t7⟩ := hc 7 _ rfl
  obtain ⟨v8, n8, y8, g8, t8⟩ := hc 8 _ rfl
  obtain ⟨x0, h0, _, _⟩ := DataW.trod_int Tryz.underlying3 t0
  obtain ⟨x1, h1, _, _⟩ := DataW.trod_int Tryz.underlying3 t1
  obtain ⟨x2, h2, _, _⟩ := DataW.trod_int Tryz.underlying3 t2
  obtain ⟨x3, h3, _, _⟩ := DataW.trod_int Tryz.underlying3 t3
  obtain ⟨x4, h4, _, _⟩ := DataW.trod_int Tryz.underlying3 t4
  obtain ⟨x5, h5, _, _⟩ := DataW.trod_int Tryz.underlying3 t5
  obtain ⟨x6, h6, _, _⟩ := DataW.trod_int Tryz.underlying3 t6
  obtain ⟨x7, h7, _, _⟩ := DataW.trod_int Tryz.underlying3 t7
  obtain ⟨x8, h8, _, _⟩ := DataW.trod_int Tryz.underlying3 t8
  simp at h0 h1 h2 h3 h4 h5 h6 h7 h8
  subst h0 h1 h2 h3 h4 h5 h6 h7 h8
  refine ⟨⟨x0, x1, x2, x3, x4, x5, x6, x7, x8⟩, ?_, trivial⟩
  obtain ⟨l⟩ := cs
  match l, hl with
  | [c0, c1, c2, c3, c4, c5, c6, c7, c8], _ =>
    simp [Value.cells] at g0 g1 g2 g3 g4 g5 g6 g7 g8
    rw [g0, g1, g2, g3, g4, g5, g6, g7, g8]
    rfl
end
end Go.Proofs.YtjobcfpnmfjlfaaGreat

namespace Go.Proofs.YtjobcfpnmfjlfaaGreat
open Go.RowKit
set_option linter.unusedSimpArgs false
set_option linter.unusedVariables false

/-! ref12.Same, whatever rows hold the states. -/
/-- A value that is a state. -/
def StIs (mem : AM) (v : Value) (s : St) : Prop := (∃ M y, v = stV M y s ∧ HasRow mem M.t 12 tsC default s.tenants ∧ HasRow mem M.c 4 csC default s.cells) ∨ (v = stZ ∧ s = St.zero)
theorem Sat.stIs {C : Ctx} {ρ : Nat → Pl} {fr : AF} {mem : AM} {nx : Nat} {a : Act} {w : World} (h : Sat C ρ fr mem nx a w) {v : Value} {s : St} (hs : StIs mem v s) : ∃ y, den ρ v = .agg (stC y s) ∧ StOk w (· < w.heap.size) y s := by
  rcases hs with ⟨M, y, rfl, h1, h2⟩ | ⟨rfl, rfl⟩
  · exact ⟨stX ρ M y, den_st _ _ _ _, h.stRow h1 h2⟩
  · exact ⟨noA, by simp [den, den2, den1, stC, noA, St.zero], ⟨fun q => absurd rfl q, fun q => absurd rfl q⟩⟩
def ctSameH : CT := fun vs mem nx K => ∃ v s v2 s2, vs = [v, v2] ∧ (StIs mem v s ∧ StIs mem v2 s2) ∧ (s.tenants.length ≤ 1000000 ∧ s.cells.length ≤ 1000000) ∧ ∀ b : Bool, (b = true ↔ s = s2) → K (.bool b) mem nx
theorem sameHOk : CSound Tryz.prog 16 ctSameH := ⟨by kernel_rfl, fun {C ρ fr mem nx a w vs K} hc hs hv => by
  obtain ⟨v, s, v2, s2, rfl, ⟨h1, h2⟩, ⟨hm, hm2⟩, hK⟩ := hc
  obtain ⟨y, e1, k1⟩ := hs.stIs h1
  obtain ⟨y2, e2, k2⟩ := hs.stIs h2
  rw [List.map_cons, List.map_cons, e1, e2]
  refine (r12Same_any y s y2 s2 w k1 k2 hm hm2).mono ?_
  rintro e w' ⟨z, ⟨b, rfl, hb⟩, rfl, hbw⟩
  exact ⟨.bool b, mem, nx, ρ, rfl, hK b hb, hs.later hbw, trivial, ExtS.refl _ _⟩⟩
/-! What Apply's answer is like. -/
theorem effOf_len (s : St) (e : Ent) : (effOf s e).tenants.length = s.tenants.length ∧ (effOf s e).cells.length = s.cells.length := by
  unfold effOf
  dsimp only
  repeat' split
  all_goals simp [setTen, setCel, stamped]
theorem applyP_len {c : Cfg} {s : St} {e : Ent} : (applyP c s e).1.tenants.length ≤ s.tenants.length ∧ (applyP c s e).1.cells.length ≤ s.cells.length := by
  have := effOf_len s e
  unfold applyP
  repeat' split
  all_goals simp [St.zero]
  omega
end Go.Proofs.YtjobcfpnmfjlfaaGreat

namespace Go.Proofs.YtjobcfpnmfjlfaaGreat
open Go.RowKit
set_option linter.unusedSimpArgs false
set_option linter.unusedVariables false

/-! law12.StateOwn -/
def owF : FT := [(9, ctLight), (10, ctAwake), (11, ctConfig), (17, ctState), (18, ctCopied), (20, ctTapeNew), (19, ctEntry), (15, ctApplyO), (16, ctSameH), (21, ctApplyR)]
theorem owFok : FTok Tryz.prog owF := ft_cons lightOk (ft_cons awakeOk (ft_cons configOk (ft_cons stateOk (ft_cons copiedOk (ft_cons tapeNewOk (ft_cons entryOk (ft_cons applyOOk (ft_cons sameHOk (ft_cons applyROk ft_nil)))))))))
def owD : List (Nat × DQ) := [(6, { k := 6, L := [19, 22], A := [5], pre := [(0, false), (2, false), (3, false), (1, true), (4, true)], post := [] }),
  (2000011, { k := 0, L := [0, 1, 2, 3, 4, 5, 6, 7, 8, 9, 10, 11, 12, 13, 14, 15, 16, 17, 18, 19, 20, 21, 22, 23, 24, 25, 26, 27, 29, 30], sl := [5, 6, 7, 8, 9, 10] }),
  (2000015, { k := 0, L := [0, 1, 2, 3, 4, 5, 6, 7, 8, 9, 10, 11, 12, 13, 14, 15, 16, 17, 18, 19, 20, 21, 22, 23, 24, 25, 26, 27, 28, 30], sl := [5, 6, 7, 8, 9, 10] })]
set_option maxRecDepth 100000 in
set_option maxHeartbeats 4000000 in
theorem own_sx (cap0 cap1 : Nat) (l more : List Int) (hm0 : l.length ≤ maxLen) (hm1 : more.length ≤ maxLen) :
    sx tt owF owD (bodyOf Tryz.f4) (argF 0 [slc 0 l.length cap0, slc 1 more.length cap1]) (uniM { l0 := l, l1 := more }) 13 (endx tt Tryz.f4.results.toList fun v _ _ => v = .bool true) := by
  refine ⟨0, cap0, l, rfl, rfl, hm0, ?_⟩
  refine ⟨fun h => ?_, fun h0 => ?_⟩
  · refine ⟨fun _ => ?_, fun h => nomatch h⟩
    refine ⟨rfl, ?_⟩
    exact rfl
  · refine ⟨1, cap1, more, rfl, rfl, hm1, ?_⟩
    refine ⟨fun _ => ?_, fun h1 => ?_⟩
    · refine ⟨rfl, ?_⟩
      exact rfl
    · have hm2 : more.length ≤ 200 := by simpa using h1
      refine ⟨0, cap0, l, rfl, rfl, (by have q : l.length ≤ 200 := (by simpa using h0); omega), ?_⟩
      intro xk c hM
      have hV := cfgV_of hM.valid
      have hnt := hV.nt
      have hnc := hV.nc
      refine ⟨⟨18, 17, 16, 15, 14, 13, 500000⟩, xk, c, 1, cap1, more, 20, rfl, ⟨(by repeat (first | exact trivial | refine ⟨rfl, ?_⟩)), ⟨_, _, _, rfl, Nat.le_refl _, fun k hk => rfl⟩⟩, ⟨hV, by omega, by decide⟩, ?_⟩
      intro es s y hR hen
      have hJ := hR.rinv hV (.new hV)
      have hI := hJ.inv
      have htn := hI.lt
      have hcn := hI.lc
      refine ⟨_, y, s, rfl, ⟨.list rfl, .list rfl⟩, ⟨by omega, by omega⟩, ?_⟩
      intro yw
      have hl : l.length ≤ 200 := by simpa using h0
      refine ⟨0, cap0, l, rfl, rfl, by omega, ?_⟩
      refine ⟨(by repeat (first | exact trivial | refine ⟨rfl, ?_⟩)), ?_⟩
      refine ⟨27, 0, cap0, l, _, ⟨18, 17, 16, 15, 14, 13, 500000⟩, xk, c, ⟨21, 20, 500000⟩, y, s, [], rfl, ⟨rfl, rfl⟩, (by repeat (first | exact trivial | refine ⟨rfl, ?_⟩)), (by repeat (first | exact trivial | refine ⟨rfl, ?_⟩)), ⟨by omega, by omega, by omega⟩, ⟨⟨hV, hI, by omega⟩, rfl⟩, ?_⟩
      rintro _ k2 ⟨⟨e, rfl⟩, hk2a, hk2b, hk2c⟩
      refine ⟨(by repeat (first | exact trivial | refine ⟨rfl, ?_⟩)), ?_⟩
      refine ⟨⟨18, 17, 16, 15, 14, 13, 500000⟩, xk, c, ⟨21, 20, 500000⟩, y, s, e, rfl, (by repeat (first | exact trivial | refine ⟨rfl, ?_⟩)), ⟨.list rfl, .list rfl⟩, hV, hI, ?_⟩
      intro y3
      have hAR := applyRP (e := e) hV hI hJ.cap
      generalize hp : applyP c s e = p at hAR
      have hpl := applyP_len (c := c) (s := s) (e := e)
      rw [hp] at hpl
      obtain ⟨p1, p2⟩ := p
      dsimp only at hpl
      refine ⟨_, s, _, s, rfl, ⟨.inl ⟨_, _, rfl, ⟨_, _, _, rfl, Nat.le_refl _, fun k hk => rfl⟩, ⟨_, _, _, rfl, Nat.le_refl _, fun k hk => rfl⟩⟩, .inl ⟨_, _, rfl, ⟨_, _, _, rfl, Nat.le_refl _, fun k hk => rfl⟩, ⟨_, _, _, rfl, Nat.le_refl _, fun k hk => rfl⟩⟩⟩, ⟨by omega, by omega⟩, ?_⟩
      intro b1 hb1
      obtain rfl : b1 = true := hb1.2 rfl
      refine ⟨fun q => absurd q (by simp), fun _ => ?_⟩
      refine ⟨List CS × Int, fun q => match q with | (cs, i) => [(11, .int .i64 i)], fun q => match q with | (cs, i) => [(28, .row (1000000 + 54) 4 p1.cells.length (fun k => csC (cs.getD k default)))], fun q => match q with | (cs, i) => cs.length = p1.cells.length ∧ (0 ≤ i ∧ i ≤ p1.cells.length), fun q => match q with | (cs, i) => ((p1.cells.length : Int) - i).toNat, ⟨(p1.cells, 0), ⟨rfl, by omega⟩, (by repeat (first | exact trivial | refine ⟨rfl, ?_⟩)), (by repeat (first | exact trivial | refine ⟨rfl, ?_⟩))⟩, ?_⟩
      rintro ⟨cs, i⟩ ⟨hcs, hi⟩
      refine ⟨⟨rfl, rfl⟩, ?_⟩
      refine ⟨fun hlt => ?_, fun hge => ?_⟩
      · have hlt2 : i < (p1.cells.length : Int) := of_decide_eq_true hlt
        have hin : i.toNat < cs.length := by omega
        refine ⟨⟨Nat.le_refl _, hi.1, hlt2⟩, ?_⟩
        refine ⟨csC { (cs.getD i.toNat default) with mode := 77 }, rfl, ?_⟩
        rw [setEl_set hin]
        refine ⟨(cs.set i.toNat { (cs.getD i.toNat default) with mode := 77 }, _), ?_, (by repeat (first | exact trivial | refine ⟨rfl, ?_⟩)), (by repeat (first | exact trivial | refine ⟨rfl, ?_⟩))⟩
        dsimp only
        rw [wrapi (n := i + 1) (by omega)]
        exact ⟨⟨by rw [List.length_set]; exact hcs, by omega⟩, by omega⟩
      · refine ⟨List TS × Int, fun q => match q with | (ts, i) => [(12, .int .i64 i)], fun q => match q with | (ts, i) => [(29, .row (1000000 + 58) 12 p1.tenants.length (fun k => tsC (ts.getD k default)))], fun q => match q with | (ts, i) => ts.length = p1.tenants.length ∧ (0 ≤ i ∧ i ≤ p1.tenants.length), fun q => match q with | (ts, i) => ((p1.tenants.length : Int) - i).toNat, ⟨(p1.tenants, 0), ⟨rfl, by omega⟩, (by repeat (first | exact trivial | refine ⟨rfl, ?_⟩)), (by repeat (first | exact trivial | refine ⟨rfl, ?_⟩))⟩, ?_⟩
        rintro ⟨ts, i⟩ ⟨hts, hi⟩
        refine ⟨⟨rfl, rfl⟩, ?_⟩
        refine ⟨fun hlt => ?_, fun hge => ?_⟩
        · have hlt2 : i < (p1.tenants.length : Int) := of_decide_eq_true hlt
          have hin : i.toNat < ts.length := by omega
          refine ⟨⟨Nat.le_refl _, hi.1, hlt2⟩, ?_⟩
          refine ⟨tsC { (ts.getD i.toNat default) with home := 77 }, rfl, ?_⟩
          rw [setEl_set hin]
          refine ⟨(ts.set i.toNat { (ts.getD i.toNat default) with home := 77 }, _), ?_, (by repeat (first | exact trivial | refine ⟨rfl, ?_⟩)), (by repeat (first | exact trivial | refine ⟨rfl, ?_⟩))⟩
          dsimp only
          rw [wrapi (n := i + 1) (by omega)]
          exact ⟨⟨by rw [List.length_set]; exact hts, by omega⟩, by omega⟩
        · refine ⟨⟨18, 17, 16, 15, 14, 13, 500000⟩, xk, c, ⟨21, 20, 500000⟩, y, s, e, rfl, (by repeat (first | exact trivial | refine ⟨rfl, ?_⟩)), ⟨.list rfl, .list rfl⟩, hV, hI, ?_⟩
          intro y4
          rw [hp]
          refine ⟨⟨18, 17, 16, 15, 14, 13, 500000⟩, xk, c, ⟨24, 23, 0⟩, yw, s, e, rfl, ⟨(by repeat (first | exact trivial | refine ⟨rfl, ?_⟩)), ⟨_, _, _, rfl, Nat.le_refl _, fun k hk => rfl⟩, ⟨_, _, _, rfl, Nat.le_refl _, fun k hk => rfl⟩⟩, ⟨hV, hI⟩, ?_⟩
          intro y5
          rw [hAR]
          refine ⟨rfl, ?_⟩
          refine ⟨fun _ => ?_, fun q => absurd q (by simp)⟩
          refine ⟨_, s, _, s, rfl, ⟨.inl ⟨_, _, rfl, ⟨_, _, _, rfl, Nat.le_refl _, fun k hk => rfl⟩, ⟨_, _, _, rfl, Nat.le_refl _, fun k hk => rfl⟩⟩, .inl ⟨_, _, rfl, ⟨_, _, _, rfl, Nat.le_refl _, fun k hk => rfl⟩, ⟨_, _, _, rfl, Nat.le_refl _, fun k hk => rfl⟩⟩⟩, ⟨by omega, by omega⟩, ?_⟩
          intro b2 hb2
          obtain rfl : b2 = true := hb2.2 rfl
          refine ⟨fun _ => ?_, fun q => absurd q (by simp)⟩
          refine ⟨fun _ => ?_, fun q => absurd q (by simp)⟩
          refine ⟨fun _ => ?_, fun q => absurd q (by simp)⟩
          refine ⟨_, p1, _, p1, rfl, ⟨.inl ⟨_, _, rfl, ⟨_, _, _, rfl, Nat.le_refl _, fun k hk => rfl⟩, ⟨_, _, _, rfl, Nat.le_refl _, fun k hk => rfl⟩⟩, .inl ⟨_, _, rfl, ⟨_, _, _, rfl, Nat.le_refl _, fun k hk => rfl⟩, ⟨_, _, _, rfl, Nat.le_refl _, fun k hk => rfl⟩⟩⟩, ⟨by omega, by omega⟩, ?_⟩
          intro b3 hb3
          obtain rfl : b3 = true := hb3.2 rfl
          rfl
theorem stateOwn_law (a0 : Option Addr) (cap0 : Nat) (z0 : List Int) (a1 : Option Addr) (cap1 : Nat) (z1 : List Int) (W : World) (hr0 : Rd W (· < W.heap.size) a0 (z0.map (Value.int .i64))) (hm0 : z0.length ≤ maxLen) (hr1 : Rd W (· < W.heap.size) a1 (z1.map (Value.int .i64))) (hm1 : z1.length ≤ maxLen) :
    Calls Tryz.prog 4 #[.slice a0 z0.length cap0, .slice a1 z1.length cap1] W fun e w' => e = .returned (.bool true) ∧ Below W.heap.size W w' := by
  rw [← flat_ints] at hr0 hr1
  refine (uni_calls ttOk (owFok.i _) Tryz.func4 rfl (D := owD) (by kernel_rfl) (vs := [slc 0 z0.length cap0, slc 1 z1.length cap1]) rfl { a0 := a0, a1 := a1 } { l0 := z0, l1 := z1 } W { r0 := hr0, r1 := hr1 } (fun v hv => by
    simp only [List.mem_cons, List.not_mem_nil, or_false] at hv
    rcases hv with rfl | rfl
    · exact ⟨show (0 : Nat) < 13 by decide, rfl⟩
    · exact ⟨show (1 : Nat) < 13 by decide, rfl⟩) (own_sx cap0 cap1 z0 z1 hm0 hm1)).mono ?_
  rintro e w' ⟨v, mem', nx', ρ', rfl, rfl, hv, hm', hb⟩
  exact ⟨rfl, hb⟩
end Go.Proofs.YtjobcfpnmfjlfaaGreat

namespace Go.Proofs.YtjobcfpnmfjlfaaGreat
open Go.RowKit
set_option linter.unusedSimpArgs false
set_option linter.unusedVariables false

/-! make.Spoilt: some entry. -/
def sqF : FT := [(13, ctMod)]
theorem sqFok : FTok Tryz.prog sqF := ft_cons modOk ft_nil
set_option maxRecDepth 100000 in
theorem spoilt_sx (e : Ent) (which n : Int) : sx tt sqF [] (bodyOf Tryz.f22) (argF 0 [entV' e, .int .i64 which, .int .i64 n]) [] 0 (endx tt Tryz.f22.results.toList fun v _ _ => ∃ e2, v = entV' e2) := by
  refine ⟨which, 9, rfl, ⟨by decide, by decide⟩, ?_⟩
  refine ⟨fun _ => ⟨{ e with kind := n }, rfl⟩, fun _ => ?_⟩
  refine ⟨fun _ => ⟨{ e with tick := n }, rfl⟩, fun _ => ?_⟩
  refine ⟨fun _ => ⟨{ e with tenant := n }, rfl⟩, fun _ => ?_⟩
  refine ⟨fun _ => ⟨{ e with cell := n }, rfl⟩, fun _ => ?_⟩
  refine ⟨fun _ => ⟨{ e with other := n }, rfl⟩, fun _ => ?_⟩
  refine ⟨fun _ => ⟨{ e with epoch := n }, rfl⟩, fun _ => ?_⟩
  refine ⟨fun _ => ⟨{ e with since := n }, rfl⟩, fun _ => ?_⟩
  refine ⟨fun _ => ⟨{ e with till := n }, rfl⟩, fun _ => ?_⟩
  exact ⟨{ e with n := n }, rfl⟩
theorem ent_pure (e : Ent) : pureV (entV' e) := by
  intro u hu
  simp [entC] at hu
  rcases hu with rfl | rfl | rfl | rfl | rfl | rfl | rfl | rfl | rfl <;> trivial
def ctSpoilt : CT := fun vs mem nx K => ∃ e which n, vs = [entV' e, .int .i64 which, .int .i64 n] ∧ ∀ e2, K (entV' e2) mem nx
theorem spoiltOk : CSound Tryz.prog 22 ctSpoilt := ⟨by kernel_rfl, fun {C ρ fr mem nx a w vs K} hc hs hv => by
  obtain ⟨e, which, n, rfl, hK⟩ := hc
  have hp : ∀ v ∈ [entV' e, .int .i64 which, .int .i64 n], pureV v := by
    intro v hv
    simp only [List.mem_cons, List.not_mem_nil, or_false] at hv
    rcases hv with rfl | rfl | rfl
    · exact ent_pure e
    · trivial
    · trivial
  have e0 : [entV' e, .int .i64 which, .int .i64 n].map (den ρ) = [entV' e, .int .i64 which, .int .i64 n] := by
    conv => rhs; rw [← List.map_id [entV' e, .int .i64 which, .int .i64 n]]
    exact List.map_congr_left fun v hv => (pure_den (hp v hv) ρ 0).1
  rw [e0]
  refine (val_calls ttOk sqFok Tryz.func22 rfl (D := []) (by kernel_rfl) rfl w hp (spoilt_sx e which n)).mono ?_
  rintro en w' ⟨v, ⟨e2, rfl⟩, ⟨ρ2, rfl⟩, hb⟩
  refine ⟨entV' e2, mem, nx, ρ, ?_, hK e2, hs.later hb, (pure_den (ent_pure e2) ρ nx).2, ExtS.refl _ _⟩
  rw [(pure_den (ent_pure e2) ρ 0).1, (pure_den (ent_pure e2) ρ2 0).1]⟩
end Go.Proofs.YtjobcfpnmfjlfaaGreat

namespace Go.Proofs.YtjobcfpnmfjlfaaGreat
open Go.RowKit
set_option linter.unusedSimpArgs false
set_option linter.unusedVariables false

/-! A tape over a row of the call's own: the row is only read from then on, and gets a second name. -/
section
variable {C : Ctx} {ρ : Nat → Pl} {fr : AF} {mem : AM} {nx : Nat} {a : Act} {w : World}
theorem Sat.unown (h : Sat C ρ fr mem nx a w) {r : Nat} {t : TypeId} {sz n : Nat} {el : Nat → List Value} (hr : lk mem r = some (.row t sz n el)) : Sat C ρ fr ((r, .row 0 sz n el) :: mem) nx a w := by
  have hr' : lk (mem ++ C.fm) r = some (.row t sz n el) := lk_app hr
  refine ⟨h.fok, h.sz, h.dfr, fun i b hi => ?_, fun i b hi => ?_, fun i j b b' hne hi hj => ?_, h.n0, h.low, h.rest⟩
  · rcases lk_cons (l := mem ++ C.fm) hi with ⟨rfl, rfl⟩ | ⟨_, hi⟩
    · exact h.mlt _ _ hr'
    · exact h.mlt i b hi
  · rcases lk_cons (l := mem ++ C.fm) hi with ⟨rfl, rfl⟩ | ⟨_, hi⟩
    · obtain ⟨q1, q2, q3⟩ := h.blk _ _ hr'
      refine ⟨q1, q2, q3.imp id ?_⟩
      rintro ⟨b, off, hA, hat, hc⟩
      exact ⟨b, off, hA, ⟨hat.lt, (fun q => by cases q), (fun q => by cases q)⟩, hc⟩
    · exact h.blk i b hi
  · rcases lk_cons (l := mem ++ C.fm) hi with ⟨rfl, rfl⟩ | ⟨_, hi⟩
    · rcases lk_cons (l := mem ++ C.fm) hj with ⟨rfl, rfl⟩ | ⟨_, hj⟩
      · exact absurd rfl hne
      · cases b' with
        | box _ _ => trivial
        | row _ _ _ _ => exact fun q => by cases q
    · rcases lk_cons (l := mem ++ C.fm) hj with ⟨rfl, rfl⟩ | ⟨_, hj⟩
      · have := h.sep i _ b _ hne hi hr'
        cases b with
        | box _ _ => exact this
        | row _ _ _ _ => exact this
      · exact h.sep i j b b' hne hi hj
theorem Sat.alias (h : Sat C ρ fr mem nx a w) {r n : Nat} {el : Nat → List Value} (hr : lk mem r = some (.row 0 1 n el)) {zs : List Int} (hl : zs.length ≤ n) (he : ∀ k, k < zs.length → el k = intC (zs.getD k 0)) :
    Sat C (setPl ρ nx ⟨(ρ r).A, 1, zs.length, false⟩) fr ((nx, intRow zs) :: mem) (nx + 1) a w := by
  have hr' : lk (mem ++ C.fm) r = some (.row 0 1 n el) := lk_app hr
  obtain ⟨p, hp⟩ : ∃ p : Pl, p = ⟨(ρ r).A, 1, zs.length, false⟩ := ⟨_, rfl⟩
  rw [← hp]
  have hk : ∀ j, j < nx → (ρ j).res = false → setPl ρ nx p j = ρ j := fun j hj _ => setPl_lt ρ p hj
  have h1 := h.ren (ρ' := setPl ρ nx p) (m := nx + 1) hk (Nat.le_succ _) (fun j hj => setPl_lt ρ p (Nat.lt_of_lt_of_le hj h.n0))
  have e1 : bno (setPl ρ nx p) nx = bno ρ r := by unfold bno; rw [setPl_same, hp]
  have e2 : ∀ j b, lk (mem ++ C.fm) j = some b → bno (setPl ρ nx p) j = bno ρ j := fun j b hj => by unfold bno; rw [setPl_lt ρ p (h.mlt j b hj).1]
  have key : ∀ j b', lk (mem ++ C.fm) j = some b' → Apart (setPl ρ nx p) j nx b' (intRow zs) := by
    intro j b' hj
    by_cases hjr : j = r
    · subst hjr
      rw [hr'] at hj
      cases hj
      exact fun q => by cases q
    · have hs := h.sep j r b' _ hjr hj hr'
      by_cases hz : zs.length = 0
      · cases b' with
        | box _ _ => exact .inl hz
        | row _ _ _ _ => exact fun _ => .inr (.inl hz)
      · cases b' with
        | box _ _ =>
          refine .inr ?_
          rw [e1, e2 j _ hj]
          exact hs.resolve_left (by omega)
        | row _ _ _ _ =>
          intro q
          rw [e1, e2 j _ hj]
          rcases hs q with h0 | h0 | h0
          · exact .inl h0
          · omega
          · exact .inr (.inr h0)
  refine ⟨h1.fok, h1.sz, h1.dfr, fun i b' hi => ?_, fun i b' hi => ?_, fun i j b1 b2 hne hi hj => ?_, h1.n0, h1.low, h1.rest⟩
  · rcases lk_cons hi with ⟨rfl, rfl⟩ | ⟨hne, hi⟩
    · exact ⟨Nat.lt_succ_self _, by rw [setPl_same, hp]⟩
    · exact h1.mlt i b' hi
  · rcases lk_cons hi with ⟨rfl, rfl⟩ | ⟨hne, hi⟩
    · obtain ⟨q1, q2, q3⟩ := h.blk _ _ hr'
      refine ⟨⟨by rw [setPl_same, hp], by rw [setPl_same, hp]⟩, fun k hk => ⟨rfl, intC_plain _⟩, ?_⟩
      by_cases hz : zs.length = 0
      · exact .inl hz
      · rcases q3 with h0 | ⟨b, off, hA, hat, hc⟩
        · omega
        · refine .inr ⟨b, off, by rw [setPl_same, hp]; exact hA, ⟨hat.lt, (fun q => by cases q), (fun q => by cases q)⟩, fun k hk j v hv => ?_⟩
          exact hc k (by omega) j v (by rw [he k hk]; exact hv)
    · exact h1.blk i b' hi
  · rcases lk_cons hi with ⟨rfl, rfl⟩ | ⟨hni, hi⟩
    · rcases lk_cons hj with ⟨rfl, rfl⟩ | ⟨hnj, hj⟩
      · exact absurd rfl hne
      · cases b2 with
        | box _ _ => trivial
        | row _ _ _ _ => exact fun q => by cases q
    · rcases lk_cons hj with ⟨rfl, rfl⟩ | ⟨hnj, hj⟩
      · exact key i b1 hi
      · exact h1.sep i j b1 b2 hne hi hj
end
def ctTapeNewH : CT := fun vs mem nx K => ∃ r cap n zs t nn el, vs = [slc r n cap] ∧ n = (zs : List Int).length ∧ lk mem r = some (.row t 1 nn el) ∧ zs.length ≤ nn ∧ (∀ k, k < zs.length → el k = intC (zs.getD k 0)) ∧ zs.length ≤ 400 ∧ K (ptr (nx + 1)) ((nx + 1, tapeB nx zs.length cap 0) :: (nx, intRow zs) :: (r, .row 0 1 nn el) :: mem) (nx + 2)
theorem tapeNewHOk : CSound Tryz.prog 20 ctTapeNewH := ⟨by kernel_rfl, fun {C ρ fr mem nx a w vs K} hc hs hv => by
  obtain ⟨r, cap, n, zs, t, nn, el, rfl, rfl, hr, hl, he, hz, hK⟩ := hc
  have h2 := (hs.unown hr).alias (r := r) (lk_same _ _ _) hl he
  have := tapeNewOk.run (K := K) (vs := [slc nx zs.length cap]) ⟨nx, cap, zs, rfl, lk_same _ _ _, hz, hK⟩ h2 (fun v hv => by
    simp only [List.mem_cons, List.not_mem_nil, or_false] at hv
    subst hv
    exact ⟨Nat.lt_succ_self _, by rw [setPl_same]⟩)
  have e0 : [slc nx zs.length cap].map (den (setPl ρ nx ⟨(ρ r).A, 1, zs.length, false⟩)) = [slc r zs.length cap].map (den ρ) := by
    simp [den, den2, den1, dA_whole, setPl_same]
  rw [e0] at this
  refine this.mono ?_
  rintro e w' ⟨v, mem', nx', ρ', rfl, hK', hs', hv', hx⟩
  exact ⟨v, mem', nx', ρ', rfl, hK', hs', hv', (ExtS.set ρ nx _).trans hx⟩⟩
end Go.Proofs.YtjobcfpnmfjlfaaGreat

namespace Go.Proofs.YtjobcfpnmfjlfaaGreat
open Go.RowKit
set_option linter.unusedSimpArgs false
set_option linter.unusedVariables false

/-! law12.StateApplies -/
def alF : FT := [(9, ctLight), (10, ctAwake), (11, ctConfig), (17, ctState), (20, ctTapeNewH), (19, ctEntry), (22, ctSpoilt), (15, ctApplyO), (21, ctApplyR), (16, ctSameH), (24, ctInl tt [(15, ctApplyO)] [] Tryz.f24 (bodyOf Tryz.f24)), (23, ctInl tt [(13, ctMod)] [] Tryz.f23 (bodyOf Tryz.f23))]
def alD : List (Nat × DQ) := [(9000000, { k := 0, L := [24, 23] }), (13, { k := 4, L := [28], pre := [(0, false), (1, false), (2, false), (3, true)], post := [] }),
  (4000006, { k := 26, L := [0, 1, 2, 3, 4, 5, 6, 7, 8, 9, 10, 11, 12, 13, 14, 15, 16, 17, 18, 19, 20, 21, 22, 23], sl := [3, 4, 7, 11, 12] }),
  (3000007, { k := 28, L := [0, 1, 2, 3, 4, 5, 6, 7, 8, 9, 10, 11, 12, 13, 14, 15, 16, 17, 18, 19, 20, 24], sl := [3, 4, 7, 11, 12, 13] }),
  (1000012, { k := 29, L := [0, 1, 2, 3, 4, 5, 6, 7, 8, 9, 10, 11, 12, 13, 14, 15, 16, 17, 18, 19, 20, 23, 24, 25, 26, 27], sl := [3, 4, 7, 11, 12, 13, 14, 15] }),
  (1000014, { k := 29, L := [0, 1, 2, 3, 4, 5, 6, 7, 8, 9, 10, 11, 12, 13, 14, 15, 16, 17, 18, 19, 20, 23, 24, 25, 26, 27], sl := [3, 4, 7, 11, 12, 13, 14, 15] }),
  (1000016, { k := 29, L := [0, 1, 2, 3, 4, 5, 6, 7, 8, 9, 10, 11, 12, 13, 14, 15, 16, 17, 18, 19, 20, 23, 24, 25, 26, 27], sl := [3, 4, 7, 11, 12, 13, 14, 15] })]
theorem alFok : FTokI Tryz.prog alF (inlOf alD) := fti_cons (lightOk.i _) (fti_cons (awakeOk.i _) (fti_cons (configOk.i _) (fti_cons (stateOk.i _) (fti_cons (tapeNewHOk.i _) (fti_cons (entryOk.i _) (fti_cons (spoiltOk.i _) (fti_cons (applyOOk.i _) (fti_cons (applyROk.i _) (fti_cons (sameHOk.i _) (fti_cons (inl_ok ttOk (fti_cons (applyOOk.i _) fti_nil) mixed (by kernel_rfl) Tryz.func24 rfl (by kernel_rfl) (by decide)) (fti_cons (inl_ok ttOk (fti_cons (modOk.i _) fti_nil) mixed (by kernel_rfl) Tryz.func23 rfl (by kernel_rfl) (by decide)) fti_nil)))))))))))
set_option maxRecDepth 100000 in
set_option maxHeartbeats 4000000 in
theorem applies_sx (cap0 cap1 : Nat) (l more : List Int) (raw : Ent) (which by_ : Int) (hm0 : l.length ≤ maxLen) (hm1 : more.length ≤ maxLen) :
    sx tt alF alD (bodyOf Tryz.f5) (argF 0 [slc 0 l.length cap0, slc 1 more.length cap1, entV' raw, .int .i64 which, .int .i64 by_]) (uniM { l0 := l, l1 := more }) 13 (endx tt Tryz.f5.results.toList fun v _ _ => v = .bool true) := by
  refine ⟨0, cap0, l, rfl, rfl, hm0, ?_⟩
  refine ⟨fun h => ?_, fun h0 => ?_⟩
  · refine ⟨fun _ => ?_, fun h => nomatch h⟩
    refine ⟨rfl, ?_⟩
    exact rfl
  · refine ⟨1, cap1, more, rfl, rfl, hm1, ?_⟩
    refine ⟨fun _ => ?_, fun h1 => ?_⟩
    · refine ⟨rfl, ?_⟩
      exact rfl
    · have hm2 : more.length ≤ 200 := by simpa using h1
      refine ⟨0, cap0, l, rfl, rfl, (by have q : l.length ≤ 200 := (by simpa using h0); omega), ?_⟩
      intro xk c hM
      have hV := cfgV_of hM.valid
      have hnt := hV.nt
      have hnc := hV.nc
      refine ⟨⟨19, 18, 17, 16, 15, 14, 500000⟩, xk, c, 1, cap1, more, 40, rfl, ⟨(by repeat (first | exact trivial | refine ⟨rfl, ?_⟩)), ⟨_, _, _, rfl, Nat.le_refl _, fun k hk => rfl⟩⟩, ⟨hV, by omega, by decide⟩, ?_⟩
      intro es s y hR hen
      have hJ := hR.rinv hV (.new hV)
      have hI := hJ.inv
      have htn := hI.lt
      have hcn := hI.lc
      have hl : l.length ≤ 200 := by simpa using h0
      refine ⟨Nat, fun _ => [(13, ptr 25)], fun cap => [(25, tapeB 24 (more ++ l).length cap 0), (24, intRow (more ++ l))], fun _ => True, ?_, ?_⟩
      · refine ⟨⟨Nat.le_refl _, fun k hk => rfl⟩, ?_⟩
        refine ⟨⟨rfl, Nat.le_refl _⟩, fun hin el2 g1 g2 => ?_, fun hgt => ⟨by show (0 + more.length) * 8 ≤ 140737488355328; omega, fun cap3 el2 hc3 g1 g2 => ?_⟩⟩
        · refine ⟨⟨Nat.le_refl _, fun k hk => rfl⟩, ?_⟩
          refine ⟨⟨rfl, hin⟩, fun hin2 el4 g3 g4 => ?_, fun hgt2 => ⟨by show (0 + more.length + l.length) * 8 ≤ 140737488355328; omega, fun cap4 el4 hc4 g3 g4 => ?_⟩⟩
          · refine ⟨24, 0, _, (more ++ l), _, 0, el4, rfl, (by simp), rfl, (by rw [List.length_append]; omega), fun k hk => ?_, (by rw [List.length_append]; omega), ?_⟩
            · have hlen : (more ++ l).length = more.length + l.length := List.length_append
              by_cases hkm : k < more.length
              · rw [g3 k (by omega)]
                have := g2 k hkm
                rw [Nat.zero_add] at this
                rw [this]
                show intC (more.getD k 0) = _
                rw [List.getD_eq_getElem?_getD, List.getD_eq_getElem?_getD, List.getElem?_append_left hkm]
              · have := g4 (k - more.length) (by omega)
                rw [show 0 + more.length + (k - more.length) = k by omega] at this
                rw [this]
                show intC (l.getD (k - more.length) 0) = _
                rw [List.getD_eq_getElem?_getD, List.getD_eq_getElem?_getD, List.getElem?_append_right (by omega)]
            exact ⟨0, [(25, 26), (24, 25)], trivial, ⟨rfl, rfl⟩, (by repeat (first | exact trivial | refine ⟨rfl, ?_⟩)), (by repeat (first | exact trivial | refine ⟨rfl, ?_⟩))⟩
          · refine ⟨25, cap4, _, (more ++ l), _, cap4, el4, rfl, (by simp), rfl, (by rw [List.length_append]; omega), fun k hk => ?_, (by rw [List.length_append]; omega), ?_⟩
            · have hlen : (more ++ l).length = more.length + l.length := List.length_append
              by_cases hkm : k < more.length
              · rw [g3 k (by omega)]
                have := g2 k hkm
                rw [Nat.zero_add] at this
                rw [this]
                show intC (more.getD k 0) = _
                rw [List.getD_eq_getElem?_getD, List.getD_eq_getElem?_getD, List.getElem?_append_left hkm]
              · have := g4 (k - more.length) (by omega)
                rw [show 0 + more.length + (k - more.length) = k by omega] at this
                rw [this]
                show intC (l.getD (k - more.length) 0) = _
                rw [List.getD_eq_getElem?_getD, List.getD_eq_getElem?_getD, List.getElem?_append_right (by omega)]
            exact ⟨cap4, [(25, 27), (24, 26)], trivial, ⟨rfl, rfl⟩, (by repeat (first | exact trivial | refine ⟨rfl, ?_⟩)), (by repeat (first | exact trivial | refine ⟨rfl, ?_⟩))⟩
        · refine ⟨⟨Nat.le_refl _, fun k hk => rfl⟩, ?_⟩
          refine ⟨⟨rfl, hc3⟩, fun hin2 el4 g3 g4 => ?_, fun hgt2 => ⟨by show (0 + more.length + l.length) * 8 ≤ 140737488355328; omega, fun cap4 el4 hc4 g3 g4 => ?_⟩⟩
          · refine ⟨25, cap3, _, (more ++ l), _, cap3, el4, rfl, (by simp), rfl, (by rw [List.length_append]; omega), fun k hk => ?_, (by rw [List.length_append]; omega), ?_⟩
            · have hlen : (more ++ l).length = more.length + l.length := List.length_append
              by_cases hkm : k < more.length
              · rw [g3 k (by omega)]
                have := g2 k hkm
                rw [Nat.zero_add] at this
                rw [this]
                show intC (more.getD k 0) = _
                rw [List.getD_eq_getElem?_getD, List.getD_eq_getElem?_getD, List.getElem?_append_left hkm]
              · have := g4 (k - more.length) (by omega)
                rw [show 0 + more.length + (k - more.length) = k by omega] at this
                rw [this]
                show intC (l.getD (k - more.length) 0) = _
                rw [List.getD_eq_getElem?_getD, List.getD_eq_getElem?_getD, List.getElem?_append_right (by omega)]
            exact ⟨cap3, [(25, 27), (24, 26)], trivial, ⟨rfl, rfl⟩, (by repeat (first | exact trivial | refine ⟨rfl, ?_⟩)), (by repeat (first | exact trivial | refine ⟨rfl, ?_⟩))⟩
          · refine ⟨26, cap4, _, (more ++ l), _, cap4, el4, rfl, (by simp), rfl, (by rw [List.length_append]; omega), fun k hk => ?_, (by rw [List.length_append]; omega), ?_⟩
            · have hlen : (more ++ l).length = more.length + l.length := List.length_append
              by_cases hkm : k < more.length
              · rw [g3 k (by omega)]
                have := g2 k hkm
                rw [Nat.zero_add] at this
                rw [this]
                show intC (more.getD k 0) = _
                rw [List.getD_eq_getElem?_getD, List.getD_eq_getElem?_getD, List.getElem?_append_left hkm]
              · have := g4 (k - more.length) (by omega)
                rw [show 0 + more.length + (k - more.length) = k by omega] at this
                rw [this]
                show intC (l.getD (k - more.length) 0) = _
                rw [List.getD_eq_getElem?_getD, List.getD_eq_getElem?_getD, List.getElem?_append_right (by omega)]
            exact ⟨cap4, [(25, 28), (24, 27)], trivial, ⟨rfl, rfl⟩, (by repeat (first | exact trivial | refine ⟨rfl, ?_⟩)), (by repeat (first | exact trivial | refine ⟨rfl, ?_⟩))⟩
      · rintro cap -
        refine ⟨⟨by decide, rfl, rfl⟩, ?_⟩
        have hzl : (more ++ l).length ≤ 400 := by rw [List.length_append]; omega
        clear htn hcn
        refine ⟨St × StK × Int × Int, fun q => match q with | (s, y, k, i) => [(14, .int .i64 i)], fun q => match q with | (s, y, k, i) => [(25, tapeB 24 (more ++ l).length cap k), (23, .box 38 [.int .i64 s.tick, .int .i64 s.count, slc 26 s.tenants.length y.ct, slc 27 s.cells.length y.cc, .int .i64 s.proven, .int .i64 s.evac, .int .i64 s.low, .int .i64 s.high]), (26, rowOfL 500000 12 tsC default s.tenants), (27, rowOfL 500000 4 csC default s.cells)], fun q => match q with | (s, y, k, i) => RInv c s ∧ (0 ≤ i ∧ i ≤ 8) ∧ (0 ≤ k ∧ k ≤ 40 * i), fun q => match q with | (s, y, k, i) => (8 - i).toNat, ⟨(s, y, 0, 0), [(26, 22), (27, 21)], ⟨hJ, by omega, by omega⟩, ⟨rfl, rfl⟩, (by repeat (first | exact trivial | refine ⟨rfl, ?_⟩)), (by repeat (first | exact trivial | refine ⟨rfl, ?_⟩))⟩, ?_⟩
        clear hJ hI hR
        rintro ⟨s, y, k, i⟩ ⟨hJ, hi, hk⟩
        have hI := hJ.inv
        have htn := hI.lt
        have hcn := hI.lc
        refine ⟨⟨by decide, rfl, rfl⟩, ?_⟩
        refine ⟨fun hlt => ?_, fun hge => ?_⟩
        · have hlt2 : i < 8 := of_decide_eq_true hlt
          refine ⟨25, 24, cap, (more ++ l), _, ⟨19, 18, 17, 16, 15, 14, 500000⟩, xk, c, ⟨26, 27, 500000⟩, y, s, [], rfl, ⟨rfl, rfl⟩, (by repeat (first | exact trivial | refine ⟨rfl, ?_⟩)), (by repeat (first | exact trivial | refine ⟨rfl, ?_⟩)), ⟨hzl, by omega, by omega⟩, ⟨⟨hV, hI, by omega⟩, rfl⟩, ?_⟩
          rintro _ k2 ⟨⟨e, rfl⟩, hk2a, hk2b, hk2c⟩
          refine ⟨Ent, fun _ => [], fun e => [(28, .box 45 [.int .i64 e.kind, .int .i64 e.tick, .int .i64 e.tenant, .int .i64 e.cell, .int .i64 e.other, .int .i64 e.epoch, .int .i64 e.since, .int .i64 e.till, .int .i64 e.n])], fun _ => True, ?_, ?_⟩
          · refine ⟨fun _ => ?_, fun _ => ?_⟩
            · refine ⟨e, which, by_, rfl, fun e2 => ?_⟩
              exact ⟨e2, trivial, (by repeat (first | exact trivial | refine ⟨rfl, ?_⟩)), (by repeat (first | exact trivial | refine ⟨rfl, ?_⟩))⟩
            · exact ⟨e, trivial, (by repeat (first | exact trivial | refine ⟨rfl, ?_⟩)), (by repeat (first | exact trivial | refine ⟨rfl, ?_⟩))⟩
          clear e
          rintro e -
          refine ⟨⟨by decide, rfl, rfl⟩, ?_⟩
          refine ⟨Ent, fun _ => [], fun e => [(28, .box 45 [.int .i64 e.kind, .int .i64 e.tick, .int .i64 e.tenant, .int .i64 e.cell, .int .i64 e.other, .int .i64 e.epoch, .int .i64 e.since, .int .i64 e.till, .int .i64 e.n])], fun _ => True, ?_, ?_⟩
          · refine ⟨fun _ => ?_, fun _ => ?_⟩
            · refine ⟨by_, 14, rfl, ⟨by decide, by decide⟩, ?_⟩
              refine ⟨(by repeat (first | exact trivial | refine ⟨rfl, ?_⟩)), ?_⟩
              refine ⟨e, which, _, rfl, fun e2 => ?_⟩
              exact ⟨e2, trivial, (by repeat (first | exact trivial | refine ⟨rfl, ?_⟩)), (by repeat (first | exact trivial | refine ⟨rfl, ?_⟩))⟩
            · exact ⟨e, trivial, (by repeat (first | exact trivial | refine ⟨rfl, ?_⟩)), (by repeat (first | exact trivial | refine ⟨rfl, ?_⟩))⟩
          clear e
          rintro e -
          refine ⟨⟨by decide, rfl, rfl⟩, ?_⟩
          refine ⟨Ent, fun _ => [], fun e => [(28, .box 45 [.int .i64 e.kind, .int .i64 e.tick, .int .i64 e.tenant, .int .i64 e.cell, .int .i64 e.other, .int .i64 e.epoch, .int .i64 e.since, .int .i64 e.till, .int .i64 e.n])], fun _ => True, ?_, ?_⟩
          · refine ⟨fun _ => ?_, fun _ => ?_⟩
            · exact ⟨raw, trivial, (by repeat (first | exact trivial | refine ⟨rfl, ?_⟩)), (by repeat (first | exact trivial | refine ⟨rfl, ?_⟩))⟩
            · exact ⟨e, trivial, (by repeat (first | exact trivial | refine ⟨rfl, ?_⟩)), (by repeat (first | exact trivial | refine ⟨rfl, ?_⟩))⟩
          clear e
          rintro e -
          refine ⟨⟨by decide, rfl, rfl⟩, ?_⟩
          refine ⟨⟨19, 18, 17, 16, 15, 14, 500000⟩, xk, c, ⟨26, 27, 500000⟩, y, s, e, rfl, (by repeat (first | exact trivial | refine ⟨rfl, ?_⟩)), ⟨.list rfl, .list rfl⟩, hV, hI, ?_⟩
          intro y3
          have hAR := applyRP (e := e) hV hI hJ.cap
          have hst : (applyP c s e).2 = 0 → RInv c (applyP c s e).1 := fun h => hJ.step hV (e := e) (by rw [← h])
          generalize hp : applyP c s e = p at hAR hst
          have hpl := applyP_len (c := c) (s := s) (e := e)
          rw [hp] at hpl
          obtain ⟨p1, p2⟩ := p
          dsimp only at hst hpl
          refine ⟨⟨19, 18, 17, 16, 15, 14, 500000⟩, xk, c, ⟨26, 27, 500000⟩, y, s, e, rfl, ⟨(by repeat (first | exact trivial | refine ⟨rfl, ?_⟩)), .list rfl, .list rfl⟩, ⟨hV, hI⟩, ?_⟩
          intro y4
          rw [hAR]
          refine ⟨fun q => absurd q (by simp), fun _ => ?_⟩
          refine ⟨_, p1, _, p1, rfl, ⟨.inl ⟨⟨30, 29, 0⟩, y3, rfl, ⟨_, _, _, rfl, Nat.le_refl _, fun k hk => rfl⟩, ⟨_, _, _, rfl, Nat.le_refl _, fun k hk => rfl⟩⟩, .inl ⟨⟨33, 32, 500000⟩, y4, rfl, ⟨_, _, _, rfl, Nat.le_refl _, fun k hk => rfl⟩, ⟨_, _, _, rfl, Nat.le_refl _, fun k hk => rfl⟩⟩⟩, ⟨by omega, by omega⟩, ?_⟩
          intro b1 hb1
          obtain rfl : b1 = true := hb1.2 rfl
          refine ⟨fun q => absurd q (by simp), fun _ => ?_⟩
          refine ⟨⟨19, 18, 17, 16, 15, 14, 500000⟩, xk, c, ⟨26, 27, 500000⟩, y, s, e, rfl, (by repeat (first | exact trivial | refine ⟨rfl, ?_⟩)), ⟨.list rfl, .list rfl⟩, hV, hI, ?_⟩
          intro y5
          rw [hp]
          refine ⟨fun q => absurd q (by simp), fun _ => ?_⟩
          refine ⟨fun hz => ?_, fun hz => ?_⟩
          · refine ⟨fun h5 => ?_, fun h5 => ?_⟩
            · have hz2 : p2 = 0 := by simpa using hz
              refine ⟨(p1, y4, k2, _), [(26, 33), (27, 32)], ?_, ⟨rfl, rfl⟩, (by repeat (first | exact trivial | refine ⟨rfl, ?_⟩)), (by repeat (first | exact trivial | refine ⟨rfl, ?_⟩))⟩
              dsimp only
              rw [wrapi (n := i + 1) (by omega)]
              exact ⟨⟨hst hz2, by omega, by omega⟩, by omega⟩
            · refine ⟨(s, y, k2, _), [], ?_, ⟨rfl, rfl⟩, (by repeat (first | exact trivial | refine ⟨rfl, ?_⟩)), (by repeat (first | exact trivial | refine ⟨rfl, ?_⟩))⟩
              dsimp only
              rw [wrapi (n := i + 1) (by omega)]
              exact ⟨⟨hJ, by omega, by omega⟩, by omega⟩
          · refine ⟨fun h => Bool.noConfusion h, fun _ => ?_⟩
            refine ⟨(s, y, k2, _), [], ?_, ⟨rfl, rfl⟩, (by repeat (first | exact trivial | refine ⟨rfl, ?_⟩)), (by repeat (first | exact trivial | refine ⟨rfl, ?_⟩))⟩
            dsimp only
            rw [wrapi (n := i + 1) (by omega)]
            exact ⟨⟨hJ, by omega, by omega⟩, by omega⟩
        · exact ⟨rfl, rfl⟩
theorem stateApplies_law (a0 : Option Addr) (cap0 : Nat) (z0 : List Int) (a1 : Option Addr) (cap1 : Nat) (z1 : List Int) (raw : Ent) (which by_ : Int) (W : World) (hr0 : Rd W (· < W.heap.size) a0 (z0.map (Value.int .i64))) (hm0 : z0.length ≤ maxLen) (hr1 : Rd W (· < W.heap.size) a1 (z1.map (Value.int .i64))) (hm1 : z1.length ≤ maxLen) {Q Q2 Q3 : Prop} (_hq : Q) (_hq2 : Q2) (_hq3 : Q3) :
    Calls Tryz.prog 5 #[.slice a0 z0.length cap0, .slice a1 z1.length cap1, .agg (entC raw).toArray, .int .i64 which, .int .i64 by_] W fun e w' => e = .returned (.bool true) ∧ Below W.heap.size W w' := by
  rw [← flat_ints] at hr0 hr1
  have key := uni_calls ttOk alFok Tryz.func5 rfl (D := alD) (by kernel_rfl) (vs := [slc 0 z0.length cap0, slc 1 z1.length cap1, entV' raw, .int .i64 which, .int .i64 by_]) rfl { a0 := a0, a1 := a1 } { l0 := z0, l1 := z1 } W { r0 := hr0, r1 := hr1 } (fun v hv => by
    simp only [List.mem_cons, List.not_mem_nil, or_false] at hv
    rcases hv with rfl | rfl | rfl | rfl | rfl
    · exact ⟨show (0 : Nat) < 13 by decide, rfl⟩
    · exact ⟨show (1 : Nat) < 13 by decide, rfl⟩
    · exact (pure_den (pure_ent raw) _ _).2
    · trivial
    · trivial) (applies_sx cap0 cap1 z0 z1 raw which by_ hm0 hm1)
  rw [List.map_cons, List.map_cons, List.map_cons, (pure_den (pure_ent raw) _ 0).1] at key
  refine key.mono ?_
  rintro e w' ⟨v, mem', nx', ρ', rfl, rfl, hv, hm', hb⟩
  exact ⟨rfl, hb⟩
end Go.Proofs.YtjobcfpnmfjlfaaGreat
