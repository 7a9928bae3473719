import Derived.Test.YtnnpgbleacapfaaPa06
import Derived.Test.YtnnpgbleacapfaaPa09
namespace Go.Proofs.Ytnnpgbleacapfaa
open Go.RowKit
set_option linter.unusedSimpArgs false
set_option linter.unusedVariables false

section
variable {C : Ctx} {ρ : Nat → Pl} {fr : AF} {mem : AM} {nx : Nat} {a : Act} {w w' : World}
def cfgPl (ρ : Nat → Pl) (nx : Nat) (x : CfgA) (c : Cfg) : Nat → Pl :=
  setPl (setPl (setPl (setPl (setPl (setPl ρ nx ⟨x.ao, 1, c.observers.length, false⟩) (nx + 1) ⟨x.ar, 1, c.replicas.length, false⟩) (nx + 2) ⟨x.av, 2, c.versions.length, false⟩) (nx + 3) ⟨x.at_, 7, c.tenants.length, false⟩) (nx + 4) ⟨x.ac, 2, c.cells.length, false⟩) (nx + 5) ⟨x.az, 1, c.zones.length, false⟩
/-- A configuration that the callee has made. -/
theorem Sat.addCfg (h0 : Sat C ρ fr mem nx a w) (hb : Below w.heap.size w w') {x : CfgA} {c : Cfg} (hc : CfgOk w' (fun b => w.heap.size ≤ b ∧ b < w'.heap.size) x c) :
    Sat C (cfgPl ρ nx x c) fr (cfgM ⟨nx + 5, nx + 4, nx + 3, nx + 2, nx + 1, nx, 500000⟩ c ++ mem) (nx + 6) a w' ∧ den (cfgPl ρ nx x c) (cfgV ⟨nx + 5, nx + 4, nx + 3, nx + 2, nx + 1, nx, 500000⟩ ⟨x.cz, x.cc, x.ct, x.cv, x.cr, x.co⟩ c) = .agg (cfgC x c) ∧ okV (cfgPl ρ nx x c) (nx + 6) (cfgV ⟨nx + 5, nx + 4, nx + 3, nx + 2, nx + 1, nx, 500000⟩ ⟨x.cz, x.cc, x.ct, x.cv, x.cr, x.co⟩ c) ∧ ExtS ρ nx (cfgPl ρ nx x c) (nx + 6) := by
  obtain ⟨h1, f1⟩ := (h0.later hb).addList h0.frB h0.rest.size (enc := intC) (sz := 1) (fun _ => rfl) (by omega) intC_plain 0 (t := 500000) rfl hc.observers
  obtain ⟨h2, f2⟩ := h1.addList f1 h0.rest.size (enc := intC) (sz := 1) (fun _ => rfl) (by omega) intC_plain 0 (t := 500000) rfl hc.replicas
  obtain ⟨h3, f3⟩ := h2.addList f2 h0.rest.size (enc := pairC) (sz := 2) (fun _ => rfl) (by omega) pairC_plain (0, 0) (t := 500000) rfl hc.versions
  obtain ⟨h4, f4⟩ := h3.addList f3 h0.rest.size (enc := tenC) (sz := 7) (fun _ => rfl) (by omega) tenC_plain default (t := 500000) rfl hc.tenants
  obtain ⟨h5, f5⟩ := h4.addList f4 h0.rest.size (enc := pairC) (sz := 2) (fun _ => rfl) (by omega) pairC_plain (0, 0) (t := 500000) rfl hc.cells
  obtain ⟨h6, -⟩ := h5.addList f5 h0.rest.size (enc := intC) (sz := 1) (fun _ => rfl) (by omega) intC_plain 0 (t := 500000) rfl hc.zones
  have q5 : cfgPl ρ nx x c (nx + 5) = ⟨x.az, 1, c.zones.length, false⟩ := setPl_same _ _ _
  have q4 : cfgPl ρ nx x c (nx + 4) = ⟨x.ac, 2, c.cells.length, false⟩ := by unfold cfgPl; rw [setPl_lt _ _ (by omega), setPl_same]
  have q3 : cfgPl ρ nx x c (nx + 3) = ⟨x.at_, 7, c.tenants.length, false⟩ := by unfold cfgPl; rw [setPl_lt _ _ (by omega), setPl_lt _ _ (by omega), setPl_same]
  have q2 : cfgPl ρ nx x c (nx + 2) = ⟨x.av, 2, c.versions.length, false⟩ := by unfold cfgPl; rw [setPl_lt _ _ (by omega), setPl_lt _ _ (by omega), setPl_lt _ _ (by omega), setPl_same]
  have q1 : cfgPl ρ nx x c (nx + 1) = ⟨x.ar, 1, c.replicas.length, false⟩ := by unfold cfgPl; rw [setPl_lt _ _ (by omega), setPl_lt _ _ (by omega), setPl_lt _ _ (by omega), setPl_lt _ _ (by omega), setPl_same]
  have q0 : cfgPl ρ nx x c nx = ⟨x.ao, 1, c.observers.length, false⟩ := by unfold cfgPl; rw [setPl_lt _ _ (by omega), setPl_lt _ _ (by omega), setPl_lt _ _ (by omega), setPl_lt _ _ (by omega), setPl_lt _ _ (by omega), setPl_same]
  refine ⟨h6, ?_, ?_, fun i hi => ?_, by omega⟩
  · rw [den_cfg]
    congr 2
    simp [cfgX, q0, q1, q2, q3, q4, q5]
  · intro u hu
    simp at hu
    rcases hu with rfl | rfl | rfl | rfl | rfl | rfl | rfl | rfl | rfl | rfl <;> first | trivial | exact ⟨show nx + 5 < nx + 6 by omega, by rw [q5]⟩ | exact ⟨show nx + 4 < nx + 6 by omega, by rw [q4]⟩ | exact ⟨show nx + 3 < nx + 6 by omega, by rw [q3]⟩ | exact ⟨show nx + 2 < nx + 6 by omega, by rw [q2]⟩ | exact ⟨show nx + 1 < nx + 6 by omega, by rw [q1]⟩ | exact ⟨show nx < nx + 6 by omega, by rw [q0]⟩
  · unfold cfgPl
    rw [setPl_lt _ _ (by omega), setPl_lt _ _ (by omega), setPl_lt _ _ (by omega), setPl_lt _ _ (by omega), setPl_lt _ _ (by omega), setPl_lt _ _ hi]
end
theorem flat_ints : ∀ zs : List Int, flat intC zs = zs.map (Value.int .i64)
  | [] => rfl
  | z :: r => by simp only [flat, List.flatMap_cons, List.map_cons]; rw [show r.flatMap intC = flat intC r from rfl, flat_ints r]; rfl
def ctConfig : CT := fun vs mem nx K => ∃ i cap zs, vs = [slc i (zs : List Int).length cap] ∧ lk mem i = some (intRow zs) ∧ zs.length ≤ 400 ∧ ∀ x c, MadeCfg c → K (cfgV ⟨nx + 5, nx + 4, nx + 3, nx + 2, nx + 1, nx, 500000⟩ x c) (cfgM ⟨nx + 5, nx + 4, nx + 3, nx + 2, nx + 1, nx, 500000⟩ c ++ mem) (nx + 6)
theorem configOk : CSound Try.prog 6 ctConfig := ⟨by kernel_rfl, fun {C ρ fr mem nx a w vs K} hc hs hv => by
  obtain ⟨i, cap, zs, rfl, hi, hz, hK⟩ := hc
  have hr : Rd w (· < w.heap.size) (ρ i).A (zs.map (Value.int .i64)) := by
    rw [← flat_ints]
    exact hs.rd (enc := intC) (sz := 1) (fun _ => rfl) (by omega) hi (fun b h _ => h)
  have e : ([slc i zs.length cap].map (den ρ)).toArray = #[.slice (ρ i).A zs.length cap] := by simp [den, den2, den1, dA_whole]
  rw [e]
  refine (mkConfig_any (ρ i).A cap zs w hz hr).mono ?_
  rintro e w' ⟨x, c, rfl, hok, hM, hb⟩
  obtain ⟨q1, q2, q3, q4⟩ := hs.addCfg hb hok
  exact ⟨_, _, _, _, by rw [q2], hK _ c hM, q1, q3, q4⟩⟩
end Go.Proofs.Ytnnpgbleacapfaa

namespace Go.Proofs.Ytnnpgbleacapfaa
open Go.RowKit
set_option linter.unusedSimpArgs false
set_option linter.unusedVariables false

/-! law39.awake -/
theorem block_calls (x : CfgA) (c : Cfg) (y : StA) (s : St) (w : World) (hc : CfgOk w (· < w.heap.size) x c) (hs : StOk w (· < w.heap.size) y s) (hl : c.versions.length ≤ 1000) (hm : s.cells.length ≤ 1000) :
    Calls Try.prog 12 #[.agg (cfgC x c), .agg (stC y s)] w fun e w' => ∃ A cp, e = .returned (.slice A (blockL c s s.cells.length).length cp) ∧ Rd w' (fun b => w.heap.size ≤ b ∧ b < w'.heap.size) A (flat intC (blockL c s s.cells.length)) ∧ Below w.heap.size w w' := by
  have := rd_callsL ttOk blFok Try.func12 rfl (D := blD) (by kernel_rfl) (vs := [cfgV CN1 (ck x) c, stV SN1 (sk y) s]) rfl x c y s w hc hs (fun v hv => by
    simp only [List.mem_cons, List.not_mem_nil, or_false] at hv
    rcases hv with rfl | rfl
    · exact rpl_cfg_ok x c y s noA noS
    · exact rpl_st_ok x c y s noA noS) (block_sx (ck x) c (sk y) s hl hm)
  rw [List.map_cons, rpl_cfg, List.map_cons, rpl_st] at this
  refine this.mono ?_
  rintro e w' ⟨v, mem', nx', ρ', rfl, hR, hv, hm', hb⟩
  obtain ⟨A, cp, e1, hr⟩ := hm'.slR (enc := intC) (sz := 1) (fun _ => rfl) (by omega) hR
  refine ⟨A, cp, ?_, hr, hb⟩
  congr 1
  rcases hR with ⟨rfl, -⟩ | ⟨r, cap, t, n, el, rfl, -⟩
  · exact e1
  · exact e1
def ctBlock : CT := fun vs mem nx K => ∃ N x c M y s, vs = [cfgV N x c, stV M y s] ∧ HasCfg mem N c ∧ (HasRow mem M.t 12 tsC default s.tenants ∧ HasRow mem M.c 4 csC default s.cells) ∧ (c.versions.length ≤ 1000 ∧ s.cells.length ≤ 1000) ∧ ∀ cp, K (slc nx (blockL c s s.cells.length).length cp) ((nx, rowOfL 500000 1 intC 0 (blockL c s s.cells.length)) :: mem) (nx + 1)
theorem blockOk : CSound Try.prog 12 ctBlock := ⟨by kernel_rfl, fun {C ρ fr mem nx a w vs K} hc hs hv => by
  obtain ⟨N, x, c, M, y, s, rfl, hk, ⟨h1, h2⟩, ⟨hl, hm⟩, hK⟩ := hc
  rw [List.map_cons, den_cfg, List.map_cons, den_st]
  refine (block_calls (cfgX ρ N x) c (stX ρ M y) s w (hs.cfgH hk) ⟨hs.hasRd (enc := tsC) (sz := 12) (fun _ => rfl) (by omega) h1, hs.hasRd (enc := csC) (sz := 4) (fun _ => rfl) (by omega) h2⟩ hl hm).mono ?_
  rintro e w' ⟨A, cp, rfl, hr, hb⟩
  exact hs.intsL hb hr (hK cp)⟩
def ctConfigH : CT := fun vs mem nx K => ∃ i cap zs, vs = [slc i (zs : List Int).length cap] ∧ HasRow mem i 1 intC 0 zs ∧ zs.length ≤ 400 ∧ ∀ x c, MadeCfg c → K (cfgV ⟨nx + 5, nx + 4, nx + 3, nx + 2, nx + 1, nx, 500000⟩ x c) (cfgM ⟨nx + 5, nx + 4, nx + 3, nx + 2, nx + 1, nx, 500000⟩ c ++ mem) (nx + 6)
theorem configHOk : CSound Try.prog 6 ctConfigH := ⟨by kernel_rfl, fun {C ρ fr mem nx a w vs K} hc hs hv => by
  obtain ⟨i, cap, zs, rfl, hi, hz, hK⟩ := hc
  have hr : Rd w (· < w.heap.size) (ρ i).A (zs.map (Value.int .i64)) := by
    rw [← flat_ints]
    exact hs.hasRd (enc := intC) (sz := 1) (fun _ => rfl) (by omega) hi
  have e : ([slc i zs.length cap].map (den ρ)).toArray = #[.slice (ρ i).A zs.length cap] := by simp [den, den2, den1, dA_whole]
  rw [e]
  refine (mkConfig_any (ρ i).A cap zs w hz hr).mono ?_
  rintro e w' ⟨x, c, rfl, hok, hM, hb⟩
  obtain ⟨q1, q2, q3, q4⟩ := hs.addCfg hb hok
  exact ⟨_, _, _, _, by rw [q2], hK _ c hM, q1, q3, q4⟩⟩
def ctNewH : CT := fun vs mem nx K => ∃ N x c, vs = [cfgV N x c] ∧ HasCfg mem N c ∧ (c.tenants.length ≤ 1000 ∧ c.cells.length ≤ 1000) ∧ ∀ y, K (stV ⟨nx + 1, nx, 500000⟩ y (stNew c)) (stM ⟨nx + 1, nx, 500000⟩ (stNew c) ++ mem) (nx + 2)
theorem newHOk : CSound Try.prog 10 ctNewH := ⟨by kernel_rfl, fun {C ρ fr mem nx a w vs K} hc hs hv => by
  obtain ⟨N, x, c, rfl, hk, ⟨hnt, hnc⟩, hK⟩ := hc
  rw [List.map_cons, den_cfg]
  refine (stNew_calls (cfgX ρ N x) c w (hs.cfgH hk) hnt hnc).mono ?_
  rintro e w' ⟨y, rfl, hst, hb⟩
  obtain ⟨q1, q2, q3, q4⟩ := hs.addSt hb hst
  exact ⟨_, _, _, _, by rw [q2], hK ⟨y.ct, y.cc⟩, q1, q3, q4⟩⟩
abbrev vers3 (c : Cfg) : Cfg := { c with versions := [(0, 0), (0, 1), (1, 2)] }
theorem blockL_new (c : Cfg) : (blockL (vers3 c) (stNew (vers3 c)) (stNew (vers3 c)).cells.length).length = (stNew (vers3 c)).cells.length := by
  unfold blockL
  rw [List.length_map, List.filter_eq_self.2, List.length_range]
  intro i hi
  have hi : i < (stNew (vers3 c)).cells.length := List.mem_range.1 hi
  have h : (stNew (vers3 c)).cells.getD i default = csNew := by
    unfold stNew at hi ⊢
    rw [List.length_replicate] at hi
    rw [List.getD_eq_getElem?_getD, List.getElem?_replicate, if_pos hi]
    rfl
  rw [h]
  rfl
def axF : FT := [(6, ctConfigH), (10, ctNewH), (11, ctInl tt [] [] Try.f11 (bodyOf Try.f11)), (8, ctPathP), (7, ctSame24), (12, ctBlock), (13, ctInl tt [] [] Try.f13 (bodyOf Try.f13))]
def axD : List (Nat × DQ) := [(9000000, { k := 0, L := [11, 13] }), (5, { k := 21, L := [17, 21, 26], g := some (.fix 0 (.fix 1 (.fix 2 (.fix 3 (.fix 4 (.fix 5 (.fix 6 (.fix 7 (.fix 8 (.two 9 (.act 10 (.act 11 (.fix 12 (.fix 13 (.fix 14 (.fix 15 (.fix 18 (.fix 19 (.fix 20 (.act 16 (.fix 17 .fin))))))))))) 10 (.act 9 (.act 11 (.fix 12 (.fix 13 (.fix 14 (.fix 15 (.fix 18 (.fix 19 (.fix 20 (.act 16 (.fix 17 .fin))))))))))))))))))))) })]
theorem axFok : FTokI Try.prog axF (inlOf axD) := fti_cons (configHOk.i _) (fti_cons (newHOk.i _) (fti_cons (inl_ok ttOk fti_nil mixed (by kernel_rfl) Try.func11 rfl (by kernel_rfl) (by decide)) (fti_cons (pathPOk.i _) (fti_cons (same24Ok.i _) (fti_cons (blockOk.i _) (fti_cons (inl_ok ttOk fti_nil mixed (by kernel_rfl) Try.func13 rfl (by kernel_rfl) (by decide)) fti_nil))))))
set_option maxRecDepth 100000 in
set_option maxHeartbeats 8000000 in
theorem awake39_sx : sx tt axF axD (bodyOf Try.f4) (argF 0 []) (rdM noC noS noS) 10 (endx tt Try.f4.results.toList fun v _ _ => v = .bool true) := by
  refine ⟨10, 1, [1], rfl, ⟨_, 1, _, rfl, Nat.le_refl _, fun k hk => by match k, hk with | 0, _ => rfl⟩, by decide, ?_⟩
  intro x c hM
  have hV := cfgV_of hM.valid
  have hnt := hV.nt
  have hnc := hV.nc
  refine ⟨⟨16, 15, 14, 18, 12, 11, 500000⟩, { x with cv := 3 }, (vers3 c), rfl, ⟨⟨_, _, _, rfl, Nat.le_refl _, fun k hk => rfl⟩, ⟨_, _, _, rfl, Nat.le_refl _, fun k hk => rfl⟩, ⟨_, _, _, rfl, Nat.le_refl _, fun k hk => rfl⟩, ⟨_, 3, _, rfl, Nat.le_refl _, fun k hk => by match k, hk with | 0, _ => rfl | 1, _ => rfl | 2, _ => rfl⟩, ⟨_, _, _, rfl, Nat.le_refl _, fun k hk => rfl⟩, ⟨_, _, _, rfl, Nat.le_refl _, fun k hk => rfl⟩⟩, ⟨by show c.tenants.length ≤ 1000; omega, by show c.cells.length ≤ 1000; omega⟩, ?_⟩
  intro y
  have hsl : (stNew (vers3 c)).cells.length = c.cells.length := by simp [stNew, vers3]
  have hbl := blockL_new c
  refine ⟨fun h => absurd h (by simp [stNew]), fun _ => ?_⟩
  refine ⟨fun _ => ?_, fun h => absurd h (by simp [stNew])⟩
  refine ⟨fun _ => ?_, fun q => absurd q (by decide)⟩
  refine ⟨fun _ => ?_, fun q => absurd q (by decide)⟩
  refine ⟨?_, ?_⟩
  · refine ⟨⟨16, 15, 14, 18, 12, 11, 500000⟩, { x with cv := 3 }, (vers3 c), 0, 2, rfl, ⟨⟨_, _, _, rfl, Nat.le_refl _, fun k hk => rfl⟩, ⟨_, _, _, rfl, Nat.le_refl _, fun k hk => rfl⟩, ⟨_, _, _, rfl, Nat.le_refl _, fun k hk => rfl⟩, ⟨_, 3, _, rfl, Nat.le_refl _, fun k hk => by match k, hk with | 0, _ => rfl | 1, _ => rfl | 2, _ => rfl⟩, ⟨_, _, _, rfl, Nat.le_refl _, fun k hk => rfl⟩, ⟨_, _, _, rfl, Nat.le_refl _, fun k hk => rfl⟩⟩, (by show 3 ≤ 1000; decide), ?_⟩
    intro cp1
    refine ⟨(by repeat (first | exact trivial | refine ⟨rfl, ?_⟩)), ?_⟩
    refine ⟨(by repeat (first | exact trivial | refine ⟨rfl, ?_⟩)), ?_⟩
    refine ⟨27, 28, _, _, pathL (vers3 c) 0 2, [1, 2], rfl, ⟨⟨_, _, _, rfl, Nat.le_refl _, fun k hk => rfl⟩, ⟨_, 2, _, rfl, Nat.le_refl _, fun k hk => by match k, hk with | 0, _ => rfl | 1, _ => rfl⟩⟩, (by show 2 ≤ 1000000; decide), ?_⟩
    intro b1 hb1
    obtain rfl : b1 = true := hb1.2 (by rfl)
    refine ⟨(by repeat (first | exact trivial | refine ⟨rfl, ?_⟩)), ?_⟩
    refine ⟨fun _ => ?_, fun q => absurd q (by simp)⟩
    refine ⟨⟨16, 15, 14, 18, 12, 11, 500000⟩, { x with cv := 3 }, (vers3 c), ⟨20, 19, 500000⟩, y, stNew (vers3 c), rfl, ⟨⟨_, _, _, rfl, Nat.le_refl _, fun k hk => rfl⟩, ⟨_, _, _, rfl, Nat.le_refl _, fun k hk => rfl⟩, ⟨_, _, _, rfl, Nat.le_refl _, fun k hk => rfl⟩, ⟨_, 3, _, rfl, Nat.le_refl _, fun k hk => by match k, hk with | 0, _ => rfl | 1, _ => rfl | 2, _ => rfl⟩, ⟨_, _, _, rfl, Nat.le_refl _, fun k hk => rfl⟩, ⟨_, _, _, rfl, Nat.le_refl _, fun k hk => rfl⟩⟩, ⟨.list rfl, .list rfl⟩, ⟨by show 3 ≤ 1000; decide, by omega⟩, ?_⟩
    intro cp2
    refine ⟨(by repeat (first | exact trivial | refine ⟨rfl, ?_⟩)), ?_⟩
    refine ⟨fun _ => ?_, fun q => absurd q ?_⟩
    · refine ⟨fun h => absurd h (by simp [stNew]), fun _ => ?_⟩
      refine ⟨fun _ => ?_, fun h => absurd h (by simp [stNew])⟩
      rfl
    · rw [hbl, hsl]
      simp [vers3]
  · refine ⟨(by repeat (first | exact trivial | refine ⟨rfl, ?_⟩)), ?_⟩
    refine ⟨⟨16, 15, 14, 18, 12, 11, 500000⟩, { x with cv := 3 }, (vers3 c), 0, 2, rfl, ⟨⟨_, _, _, rfl, Nat.le_refl _, fun k hk => rfl⟩, ⟨_, _, _, rfl, Nat.le_refl _, fun k hk => rfl⟩, ⟨_, _, _, rfl, Nat.le_refl _, fun k hk => rfl⟩, ⟨_, 3, _, rfl, Nat.le_refl _, fun k hk => by match k, hk with | 0, _ => rfl | 1, _ => rfl | 2, _ => rfl⟩, ⟨_, _, _, rfl, Nat.le_refl _, fun k hk => rfl⟩, ⟨_, _, _, rfl, Nat.le_refl _, fun k hk => rfl⟩⟩, (by show 3 ≤ 1000; decide), ?_⟩
    intro cp1
    refine ⟨(by repeat (first | exact trivial | refine ⟨rfl, ?_⟩)), ?_⟩
    refine ⟨28, 27, _, _, pathL (vers3 c) 0 2, [1, 2], rfl, ⟨⟨_, _, _, rfl, Nat.le_refl _, fun k hk => rfl⟩, ⟨_, 2, _, rfl, Nat.le_refl _, fun k hk => by match k, hk with | 0, _ => rfl | 1, _ => rfl⟩⟩, (by show 2 ≤ 1000000; decide), ?_⟩
    intro b1 hb1
    obtain rfl : b1 = true := hb1.2 (by rfl)
    refine ⟨(by repeat (first | exact trivial | refine ⟨rfl, ?_⟩)), ?_⟩
    refine ⟨fun _ => ?_, fun q => absurd q (by simp)⟩
    refine ⟨⟨16, 15, 14, 18, 12, 11, 500000⟩, { x with cv := 3 }, (vers3 c), ⟨20, 19, 500000⟩, y, stNew (vers3 c), rfl, ⟨⟨_, _, _, rfl, Nat.le_refl _, fun k hk => rfl⟩, ⟨_, _, _, rfl, Nat.le_refl _, fun k hk => rfl⟩, ⟨_, _, _, rfl, Nat.le_refl _, fun k hk => rfl⟩, ⟨_, 3, _, rfl, Nat.le_refl _, fun k hk => by match k, hk with | 0, _ => rfl | 1, _ => rfl | 2, _ => rfl⟩, ⟨_, _, _, rfl, Nat.le_refl _, fun k hk => rfl⟩, ⟨_, _, _, rfl, Nat.le_refl _, fun k hk => rfl⟩⟩, ⟨.list rfl, .list rfl⟩, ⟨by show 3 ≤ 1000; decide, by omega⟩, ?_⟩
    intro cp2
    refine ⟨(by repeat (first | exact trivial | refine ⟨rfl, ?_⟩)), ?_⟩
    refine ⟨fun _ => ?_, fun q => absurd q ?_⟩
    · refine ⟨fun h => absurd h (by simp [stNew]), fun _ => ?_⟩
      refine ⟨fun _ => ?_, fun h => absurd h (by simp [stNew])⟩
      rfl
    · rw [hbl, hsl]
      simp [vers3]
end Go.Proofs.Ytnnpgbleacapfaa

namespace Go.Proofs.Ytnnpgbleacapfaa
open Go.RowKit
set_option linter.unusedSimpArgs false
set_option linter.unusedVariables false

/-! A quicker check of a region's order: who has come up is kept as one number. -/
def lsm (n L : Nat) : Array Bool := ((List.range n).map fun i => L.testBit i).toArray
theorem lsm_size (n L : Nat) : (lsm n L).size = n := by simp [lsm]
theorem lsm_zero (n : Nat) : Array.replicate n false = lsm n 0 := by
  apply Array.ext
  · simp [lsm]
  · intro i h1 h2; simp [lsm]
theorem lsm_set (n L i : Nat) : (lsm n L).setIfInBounds i true = lsm n (L ||| 2 ^ i) := by
  apply Array.ext
  · simp [lsm]
  · intro j h1 h2
    have hj : j < n := by simpa [lsm] using h2
    rw [Array.getElem_setIfInBounds (by rw [lsm_size]; exact hj)]
    by_cases h : i = j
    · subst h; simp [lsm, Nat.testBit_or, Nat.testBit_two_pow]
    · simp [lsm, Nat.testBit_or, Nat.testBit_two_pow, h]
noncomputable def fastB (ops : Array Oper) (n : Nat) (σ : List (Nat × Bool)) : Nat → Bool :=
  List.rec (motive := fun _ => Nat → Bool) (fun L => seqHB ops [] (lsm n L))
    (fun p _ ih L => match p.2 with
      | false => Region.free .any ops (lsm n L) p.1 && (Region.ready .any ops (lsm n L)).contains p.1 && ih (L ||| 2 ^ p.1)
      | true => (match Region.ready .any ops (lsm n L) with
        | [j] => Nat.beq j p.1 && ih (L ||| 2 ^ p.1)
        | _ => false)) σ
theorem fastB_float (ops : Array Oper) (n : Nat) : ∀ (σ : List (Nat × Bool)) (L m : Nat), σ.length < m → fastB ops n σ L = true → floatB ops [] m σ (lsm n L) [] = true
  | [], L, 0, hm, h => by simp at hm
  | [], L, m + 1, hm, h => h
  | p :: r, L, 0, hm, h => by simp at hm
  | (i, b) :: r, L, m + 1, hm, h => by
    cases b with
    | false =>
      have h : (Region.free .any ops (lsm n L) i && (Region.ready .any ops (lsm n L)).contains i && fastB ops n r (L ||| 2 ^ i)) = true := h
      simp only [Bool.and_eq_true] at h
      rw [floatB]
      simp only [Bool.and_eq_true]
      exact ⟨h.1, by rw [lsm_set]; exact fastB_float ops n r _ m (by simpa using hm) h.2⟩
    | true =>
      have h : (match Region.ready .any ops (lsm n L) with
        | [j] => Nat.beq j i && fastB ops n r (L ||| 2 ^ i)
        | _ => false) = true := h
      rw [floatB]
      split at h
      · rename_i j hj
        simp only [Bool.and_eq_true] at h
        have hji := Nat.eq_of_beq_eq_true h.1
        subst hji
        rw [hj]
        have := fastB_float ops n r _ m (by simpa using hm) h.2
        rw [lsm_set]
        simp [this]
      · cases h
/-- lastB, where all operations are drawn. -/
def lastF (l : List Oper) (k : Nat) : Bool := Nat.beq k l.length &&
  ((List.range k).all fun i => match l[i]? with
    | none => true
    | some o => (o.after.all fun e => !Region.binds .any e || decide (e.on < i)) && (match o.guard with | none => true | some (g, _) => decide (g < k))) &&
  Region.seqB .any l.toArray (l.drop k).length k (Array.replicate k true ++ Array.replicate (l.length - k) false)
theorem lastF_ok {l : List Oper} {k : Nat} (h : lastF l k = true) : lastB l k = true := by
  unfold lastF at h
  simp only [Bool.and_eq_true] at h
  obtain ⟨⟨h1, h2⟩, h3⟩ := h
  have hk := Nat.eq_of_beq_eq_true h1
  unfold lastB
  simp only [Bool.and_eq_true]
  refine ⟨⟨⟨decide_eq_true (by omega), h2⟩, ?_⟩, h3⟩
  rw [List.all_eq_true]
  intro j hj
  rw [show decide (j < k) = true from decide_eq_true (by rw [hk]; exact List.mem_range.1 hj)]
  rfl
noncomputable def dregF (l : List Oper) (d : DP) : Bool :=
  lastF l d.k && Region.noSelect (l.take d.k).toArray && decide (d.pre.length + d.A.length + d.post.length = d.k) && (match d.A, d.post with | [], [] => fastB (l.take d.k).toArray d.k d.pre 0 | _, _ => false)
theorem dregF_ok {l : List Oper} {d : DP} (h : dregF l d = true) : dregB l d = true := by
  unfold dregF at h
  simp only [Bool.and_eq_true] at h
  obtain ⟨⟨⟨h1, h2⟩, h3⟩, h4⟩ := h
  unfold dregB
  cases hA : d.A with
  | cons a r => rw [hA] at h4; simp at h4
  | nil =>
    cases hp : d.post with
    | cons a r => rw [hA, hp] at h4; simp at h4
    | nil =>
      rw [hA, hp] at h4
      rw [hA, hp] at h3
      simp only [Bool.and_eq_true]
      have hl : d.pre.length = d.k := by simpa using h3
      refine ⟨⟨⟨⟨⟨⟨lastF_ok h1, h2⟩, h3⟩, ?_⟩, ?_⟩, rfl⟩, rfl⟩
      · rw [lsm_zero]
        exact fastB_float _ _ _ _ _ (by omega) h4
      · unfold preDst
        rw [List.all_eq_true]
        intro p hp
        split <;> simp
/-- codeB; regions marked by sl are checked the quicker way. -/
noncomputable def codeF (nt : Nat) (D : List (Nat × DQ)) : Code → Bool
  | .region id ops draw => (ops.toList.all fun o => match o.dst with | some d => decide (d < nt) | none => true) && (match draw with
    | false => true
    | true => (match lk D id with | some d => (match d.g with | none => (match d.sl with | [] => dregB ops.toList d.toDP | _ :: _ => dregF ops.toList d.toDP) && (match d.A with | [] => true | _ :: _ => ops.toList.all fun o => inlOk (inlOf D) o.op) | some σ => gregB ops.toList d.k σ) | none => false))
  | .seq a b => codeF nt D a && codeF nt D b
  | .cond _ a b => codeF nt D a && codeF nt D b
  | .block _ a => codeF nt D a
  | .loop a => codeF nt D a
  | .scope a => codeF nt D a
  | _ => true
theorem codeF_ok {nt : Nat} {D : List (Nat × DQ)} (c : Code) (h : codeF nt D c = true) : codeB nt D c = true := by
  induction c with
  | region id ops draw =>
    unfold codeF at h
    unfold codeB
    simp only [Bool.and_eq_true] at h ⊢
    refine ⟨h.1, ?_⟩
    have h2 := h.2
    cases draw with
    | false => rfl
    | true =>
      revert h2
      cases hd : lk D id with
      | none => intro h2; exact h2
      | some d =>
        dsimp only
        cases hg : d.g with
        | some σ => intro h2; exact h2
        | none =>
          intro h2
          simp only [Bool.and_eq_true] at h2 ⊢
          refine ⟨?_, h2.2⟩
          have h3 := h2.1
          cases hs : d.sl with
          | nil => rw [hs] at h3; exact h3
          | cons a r => rw [hs] at h3; exact dregF_ok h3
  | seq a b iha ihb =>
    have h : (codeF nt D a && codeF nt D b) = true := h
    show (codeB nt D a && codeB nt D b) = true
    simp only [Bool.and_eq_true] at h ⊢
    exact ⟨iha h.1, ihb h.2⟩
  | cond _ a b iha ihb =>
    have h : (codeF nt D a && codeF nt D b) = true := h
    show (codeB nt D a && codeB nt D b) = true
    simp only [Bool.and_eq_true] at h ⊢
    exact ⟨iha h.1, ihb h.2⟩
  | block _ a ih => exact ih h
  | loop a ih => exact ih h
  | scope a ih => exact ih h
  | _ => rfl
end Go.Proofs.Ytnnpgbleacapfaa

namespace Go.Proofs.Ytnnpgbleacapfaa
open Go.RowKit
set_option linter.unusedSimpArgs false
set_option linter.unusedVariables false

/-! law39.SchemaPaths -/
theorem awake39_any (w : World) : Calls Try.prog 4 #[] w fun e w' => e = .returned (.bool true) ∧ Below w.heap.size w w' := by
  have := rd_callsL ttOk axFok Try.func4 rfl (D := axD) (by kernel_rfl) (vs := []) rfl noX noC noA noS w (noC_ok _ _) (noS_ok w _) (fun v hv => by cases hv) awake39_sx
  refine this.mono ?_
  rintro e w' ⟨v, mem', nx', ρ', rfl, rfl, hv, hm', hb⟩
  exact ⟨rfl, hb⟩
def ctAwake39 : CT := fun vs mem nx K => vs = [] ∧ K (.bool true) mem nx
theorem awake39Ok : CSound Try.prog 4 ctAwake39 := ⟨by kernel_rfl, fun {C ρ fr mem nx a w vs K} hc hs hv => by
  obtain ⟨rfl, hK⟩ := hc
  refine (awake39_any w).mono ?_
  rintro e w' ⟨rfl, hb⟩
  exact ⟨.bool true, mem, nx, ρ, rfl, hK, hs.later hb, trivial, ExtS.refl _ _⟩⟩
theorem pathL_le (c : Cfg) (lo hi : Int) : (pathL c lo hi).length ≤ 30 := by
  unfold pathL
  split
  · exact Nat.zero_le _
  · rw [List.length_map, List.length_range]; omega
def syF : FT := [(4, ctAwake39), (5, ctInl tt [] [] Try.f5 (bodyOf Try.f5)), (6, ctConfigH), (8, ctPathP), (9, ctPathR), (7, ctSame24)]
def syD : List (Nat × DQ) := [(9000000, { k := 0, L := [5] }), (12, { k := 7, L := [16], pre := [(0, false), (1, false), (2, false), (4, false), (5, false), (6, false), (3, true)] }),
  (14, { sl := [1], k := 19, L := [16], pre := [(0, false), (1, false), (2, false), (4, false), (5, false), (6, false), (3, true), (7, true), (8, true), (9, false), (10, false), (11, false), (13, false), (14, false), (12, true), (15, true), (16, true), (17, false), (18, false)] }),
  (2000007, { k := 0, L := [0, 1, 2, 3, 4, 5, 6, 7, 8, 9, 10, 11, 12, 13, 14, 15, 16], sl := [1, 2, 7] }),
  (2000010, { k := 0, L := [0, 1, 2, 3, 4, 5, 6, 7, 8, 9, 10, 11, 12, 13, 14, 15, 16], sl := [1, 2, 7, 8] })]
theorem syFok : FTokI Try.prog syF (inlOf syD) := fti_cons (awake39Ok.i _) (fti_cons (inl_ok ttOk fti_nil mixed (by kernel_rfl) Try.func5 rfl (by kernel_rfl) (by decide)) (fti_cons (configHOk.i _) (fti_cons (pathPOk.i _) (fti_cons (pathROk.i _) (fti_cons (same24Ok.i _) fti_nil)))))
set_option maxRecDepth 100000 in
set_option maxHeartbeats 8000000 in
theorem paths_sx (cap0 : Nat) (l : List Int) (lo hi : Int) :
    sx tt syF syD (bodyOf Try.f3) (argF 0 [slc 4 l.length cap0, .int .i64 lo, .int .i64 hi]) (rdM { noC with replicas := l } noS noS) 10 (endx tt Try.f3.results.toList fun v _ _ => v = .bool true) := by
  refine ⟨rfl, ?_⟩
  refine ⟨fun q => absurd q (by simp), fun _ => ?_⟩
  refine ⟨fun _ => rfl, fun h0 => ?_⟩
  have hl : l.length ≤ 150 := by have q : (l.length : Int) ≤ 150 := (by simpa using h0); omega
  refine ⟨4, cap0, l, rfl, ⟨_, _, _, rfl, Nat.le_refl _, fun k hk => rfl⟩, by omega, ?_⟩
  intro x c hM
  have hV := cfgV_of hM.valid
  have hnv := hV.nv
  refine ⟨Int, fun a => [(8, .int .i64 a)], fun _ => [], fun a => -1 ≤ a ∧ a ≤ 6, fun a => (6 - a).toNat, ⟨-1, by decide, (by repeat (first | exact trivial | refine ⟨rfl, ?_⟩)), (by repeat (first | exact trivial | refine ⟨rfl, ?_⟩))⟩, ?_⟩
  rintro a ha
  refine ⟨⟨rfl, rfl⟩, ?_⟩
  refine ⟨fun hlt => ?_, fun hge => ?_⟩
  · have hlt2 : a < 6 := of_decide_eq_true hlt
    refine ⟨Int, fun b => [(9, .int .i64 b)], fun _ => [], fun b => -1 ≤ b ∧ b ≤ 6, fun b => (6 - b).toNat, ⟨-1, by decide, (by repeat (first | exact trivial | refine ⟨rfl, ?_⟩)), (by repeat (first | exact trivial | refine ⟨rfl, ?_⟩))⟩, ?_⟩
    rintro b hb
    refine ⟨⟨rfl, rfl⟩, ?_⟩
    refine ⟨fun hlb => ?_, fun hgb => ?_⟩
    · have hlb2 : b < 6 := of_decide_eq_true hlb
      refine ⟨⟨15, 14, 13, 12, 11, 10, 500000⟩, x, c, a, b, rfl, HasCfg.keeps (by repeat (first | exact trivial | refine ⟨rfl, ?_⟩)), by omega, ?_⟩
      intro cp
      refine ⟨(by repeat (first | exact trivial | refine ⟨rfl, ?_⟩)), ?_⟩
      refine ⟨⟨15, 14, 13, 12, 11, 10, 500000⟩, x, c, a, b, rfl, HasCfg.keeps (by repeat (first | exact trivial | refine ⟨rfl, ?_⟩)), by omega, ?_⟩
      intro cp
      refine ⟨17, 18, _, _, pathL c a b, pathL c a b, rfl, ⟨⟨_, _, _, rfl, Nat.le_refl _, fun k hk => rfl⟩, ⟨_, _, _, rfl, Nat.le_refl _, fun k hk => rfl⟩⟩, ?_, ?_⟩
      · have := pathL_le c a b
        omega
      intro b1 hb1
      obtain rfl : b1 = true := hb1.2 rfl
      refine ⟨fun q => absurd q (by simp), fun _ => ?_⟩
      refine ⟨_, ?_, (by repeat (first | exact trivial | refine ⟨rfl, ?_⟩)), (by repeat (first | exact trivial | refine ⟨rfl, ?_⟩))⟩
      rw [wrapi (n := b + 1) (by omega)]
      dsimp only
      refine ⟨⟨by omega, by omega⟩, by omega⟩
    · refine ⟨_, ?_, (by repeat (first | exact trivial | refine ⟨rfl, ?_⟩)), (by repeat (first | exact trivial | refine ⟨rfl, ?_⟩))⟩
      rw [wrapi (n := a + 1) (by omega)]
      dsimp only
      refine ⟨⟨by omega, by omega⟩, by omega⟩
  · refine ⟨⟨15, 14, 13, 12, 11, 10, 500000⟩, x, c, lo, hi, rfl, HasCfg.keeps (by repeat (first | exact trivial | refine ⟨rfl, ?_⟩)), by omega, ?_⟩
    intro cp
    refine ⟨(by repeat (first | exact trivial | refine ⟨rfl, ?_⟩)), ?_⟩
    refine ⟨⟨15, 14, 13, 12, 11, 10, 500000⟩, x, c, lo, hi, rfl, HasCfg.keeps (by repeat (first | exact trivial | refine ⟨rfl, ?_⟩)), by omega, ?_⟩
    intro cp
    refine ⟨(by repeat (first | exact trivial | refine ⟨rfl, ?_⟩)), ?_⟩
    refine ⟨17, 18, _, _, pathL c lo hi, pathL c lo hi, rfl, ⟨⟨_, _, _, rfl, Nat.le_refl _, fun k hk => rfl⟩, ⟨_, _, _, rfl, Nat.le_refl _, fun k hk => rfl⟩⟩, ?_, ?_⟩
    · have := pathL_le c lo hi
      omega
    intro b1 hb1
    obtain rfl : b1 = true := hb1.2 rfl
    refine ⟨(by repeat (first | exact trivial | refine ⟨rfl, ?_⟩)), ?_⟩
    refine ⟨fun _ => ?_, fun q => absurd q (by simp)⟩
    refine ⟨⟨15, 14, 13, 12, 11, 10, 500000⟩, x, c, 0, hi, rfl, HasCfg.keeps (by repeat (first | exact trivial | refine ⟨rfl, ?_⟩)), by omega, ?_⟩
    intro cp
    refine ⟨(by repeat (first | exact trivial | refine ⟨rfl, ?_⟩)), ?_⟩
    refine ⟨⟨15, 14, 13, 12, 11, 10, 500000⟩, x, c, 0, hi, rfl, HasCfg.keeps (by repeat (first | exact trivial | refine ⟨rfl, ?_⟩)), by omega, ?_⟩
    intro cp
    refine ⟨(by repeat (first | exact trivial | refine ⟨rfl, ?_⟩)), ?_⟩
    refine ⟨19, 20, _, _, pathL c 0 hi, pathL c 0 hi, rfl, ⟨⟨_, _, _, rfl, Nat.le_refl _, fun k hk => rfl⟩, ⟨_, _, _, rfl, Nat.le_refl _, fun k hk => rfl⟩⟩, ?_, ?_⟩
    · have := pathL_le c 0 hi
      omega
    intro b1 hb1
    obtain rfl : b1 = true := hb1.2 rfl
    refine ⟨(by repeat (first | exact trivial | refine ⟨rfl, ?_⟩)), ?_⟩
    rfl
theorem schemaPaths_law (a0 : Option Addr) (cap0 : Nat) (z0 : List Int) (lo hi : Int) (W : World) (hr0 : Rd W (· < W.heap.size) a0 (z0.map (Value.int .i64))) (hm0 : z0.length ≤ maxLen) {Q Q2 : Prop} (_hq : Q) (_hq2 : Q2) :
    Calls Try.prog 3 #[.slice a0 z0.length cap0, .int .i64 lo, .int .i64 hi] W fun e w' => e = .returned (.bool true) ∧ Below W.heap.size W w' := by
  rw [← flat_ints] at hr0
  have hz := noC_ok W (· < W.heap.size)
  have key := rd_callsL ttOk syFok Try.func3 rfl (D := syD) (codeF_ok _ (by kernel_rfl)) (vs := [slc 4 z0.length cap0, .int .i64 lo, .int .i64 hi]) rfl { noX with ar := a0 } { noC with replicas := z0 } noA noS W ⟨hz.zones, hz.cells, hz.tenants, hz.versions, hr0, hz.observers⟩ (noS_ok W _) (fun v hv => by
    simp only [List.mem_cons, List.not_mem_nil, or_false] at hv
    rcases hv with rfl | rfl | rfl
    · exact ⟨show (4 : Nat) < 10 by decide, rfl⟩
    · trivial
    · trivial) (paths_sx cap0 z0 lo hi)
  refine key.mono ?_
  rintro e w' ⟨v, mem', nx', ρ', rfl, rfl, hv, hm', hb⟩
  exact ⟨rfl, hb⟩
end Go.Proofs.Ytnnpgbleacapfaa
